/- A part of the proof of emptiesMatchesReference_holds. Conditions: none. -/
import Derived.Test.YtcofccdjgfgeeaaGreatKiae
import Derived.Shelf.SlSortCmp.NoneTotal
import Derived.Shelf.Sort.Plain
import Derived.Shelf.Slices.In.SortNone
set_option linter.unusedVariables false
set_option linter.unusedSimpArgs false
section
namespace Px
open Go Go.RowKit
section cells
variable{T:Nat->Type}
def cvT(g :(c:Nat)->T c->List Value):(fs:List Nat)->Tup T fs->List Value
 | [],_=>[]
 |c::cs,x=>g c x.1++cvT g cs x.2
def cvD(g :(c:Nat)->T c->List Value): {α:Type}->Ds T α->α->List Value
 |_,.int k,x=>[.int k x]
 |_,.bool,x=>[.bool x]
 |_,.str,x=>[.string x]
 |_,.sl _,_=>[]
 |_,.map _ _,_=>[]
 |_,.arr n c,f=>(List.range n).flatMap λi=>g c (f i)
 |_,.st fs _ un _,x=>cvT g fs (un x)
end cells
section
variable(V:TE)
def cvN:Nat->(c:Nat)->V.T c->List Value
 |0,_,_=>[]
 |n+1,c,x=>cvD (cvN n) (V.d c) x
def TE.cv(c:Nat)(x:V.T c):List Value:=cvN V (c+1) c x
variable{V}
theorem y88:∀(n c:Nat),flN V n c=true->∀x,V.ev c x =(cvN V n c x).map eqv/\∀v∈cvN V n c x,v.oneCell'=true
 |0,_,h=>by cases h
 |n+1,c,h=>by
  intro x;have g:=y88 n;rw[V.ev_eq];change flD (flN V n) (V.d c)=true at h;change evD V.ev (V.mv V.ev) V.sz (V.d c) x =(cvD (cvN V n) (V.d c) x).map eqv/\∀v∈cvD (cvN V n) (V.d c) x,v.oneCell'=true;revert h x;generalize V.d c=d;generalize V.T c=α at d;intro x h;cases d with
  |int k=>exact⟨rfl,λv hv=>by simp only[cvD,w0d] at hv;subst hv;rfl⟩
  |bool=>exact⟨rfl,λv hv=>by simp only[cvD,w0d] at hv;subst hv;rfl⟩
  |str=>exact⟨rfl,λv hv=>by simp only[cvD,w0d] at hv;subst hv;rfl⟩
  |sl f=>cases h
  |map kc vc=>cases h
  |arr m f=>
   simp only[evD,cvD,Px.arr,w5n];refine⟨?_,λv hv=>?_⟩
   .congr 1;funext i;exact(g f h (x i)).1
   .obtain⟨i,_,hi⟩:=w24.1 hv;exact(g f h (x i)).2 v hi
  |st fs mk un a0=>
   have key:∀(fs:List Nat)(y:Tup V.T fs),fs.all (flN V n)=true->evT V.ev fs y =(cvT (cvN V n) fs y).map eqv/\∀v∈cvT (cvN V n) fs y,v.oneCell'=true:=by
    intro fs
    induction fs with
    |nil=>intro y _;exact⟨rfl,λv hv=>by cases hv⟩
    |cons c cs j=>
     intro y h;simp only[w1h,w02] at h;obtain⟨u,z⟩:=j y.2 h.2;obtain⟨h3,h4⟩:=g c h.1 y.1;refine⟨by simp only[evT,cvT,w1g,u,h3],λv hv=>?_⟩;rcases w0j.1 hv with hv|hv
     .exact h4 v hv
     .exact z v hv
   exact key fs (un x) h
theorem yd1{c:Nat}(h:V.fl c=true)(x:V.T c):V.ev c x =(V.cv c x).map eqv:=(y88 _ _ h x).1
theorem y89{c:Nat}(h:V.fl c=true)(x:V.T c):∀v∈V.cv c x,v.oneCell'=true:=(y88 _ _ h x).2
theorem zxe{c:Nat}(h:V.fl c=true)(x:V.T c):(V.cv c x).length=V.sz c:=by have:=V.ev_len c x;rw[yd1 h] at this;simpa using this
end
theorem y5y{r:Nat->Prop}{w:World}: ∀{us vs:List Value},zr r w (us.map eqv) vs->vs=us
 |us,vs,⟨g,h⟩=>by
  refine w36 λi=>?_
  by_cases d:i<us.length
  .obtain⟨u,z,f,_⟩:=h i (eqv us[i]) (by simp[d]);rw[z,w0c d];exact congrArg some f
  .have j:us.length=vs.length:=by simpa using g
   rw[w1t (show us.length<=i by omega),w1t (show vs.length<=i by omega)]
theorem zl6{r:Nat->Prop}{w:World}{us:List Value}(h:∀v∈us,v.oneCell'=true):zr r w (us.map eqv) us:=by refine⟨by simp,λj A d=>?_⟩;simp only[w1r,w1w] at d;obtain⟨u,f,rfl⟩:=d;exact⟨u,f,rfl,h u (w17 f)⟩
theorem zot{α:Type}{e:α->List Value}{k:Nat}(f:∀x,(e x).length=k)(d:0<k):∀(l:List α)(t:Nat),(l.flatMap e)[t]? =(l[t / k]?).bind λx=>(e x)[t % k]?
 | [],t=>by simp
 |x::l,t=>by
  rw[w0u,w2g,f];by_cases h:t<k
  .rw[if_pos h,w5i h,w2u h];simp
  .have g:t / k =(t-k) / k+1:=Nat.div_eq_sub_div d (by omega);have j:t % k =(t-k) % k:=Nat.mod_eq_sub_mod (by omega);rw[if_neg h,zot f d l,g,j,w29]
theorem zsp{α:Type}[Inhabited α]{e:α->List Value}{k:Nat}(g:∀x,(e x).length=k)(d:Array α):(Sort.flatK e k d).toList=d.toList.flatMap e:=by
 by_cases f:0<k
 .refine w36 λt=>?_
  rw[zot g f];by_cases h:t<d.size*k
  .have j:t / k<d.size:=Nat.div_lt_of_lt_mul (by rwa [w4s]);have u:t % k<(e d[t / k]).length:=by rw[g];exact w44 _ f
   have h1:t<(Sort.flatK e k d).toList.length:=by rw[w3c,Sort.size_flatK];exact h
   have h2 :(Sort.flatK e k d).toList[t] =(Sort.flatK e k d)[t]!:=by rw[getElem!_pos _ t (by rw[Sort.size_flatK];exact h)];simp
   rw[w0c h1,h2,Sort.get_flatK _ _ _ _ h,getElem!_pos d (t / k) j];simp only[w3h,w23 j,w00];rw[getElem!_pos (e d[t / k]) (t % k) u,w0c u]
  .rw[w1t (by rw[w3c,Sort.size_flatK];omega)];have:d.size<=t / k:=by rw[Nat.le_div_iff_mul_le f];omega
   simp[this]
 .have:k=0:=by omega
  subst this;have z:∀x,e x = []:=λx=>w14 (g x)
  have e2:d.toList.flatMap e = []:=by simp[List.flatMap_eq_nil_iff,z]
  rw[e2];exact w14 (by rw[w3c,Sort.size_flatK];simp)
theorem y9b{w:World}{g:Nat}{d:Array Value}{E:TypeId}{F:Array Value}(hh:w.heap[g]? = some (.cells d E (0,0)))(u:d.toList.take F.size=F.toList):Sort.Holds id w g 0 F:=by
 intro j f;have h:d[j]? = some F[j]:=by
  have :(d.toList.take F.size)[j]? = F.toList[j]?:=by rw[u]
  rw[w0x,if_pos f] at this;simpa[f] using this
 rw[getElem!_pos F j f];refine⟨?_,?_⟩
 .unfold World.cell?;rw[hh];simpa using h
 .unfold World.frozen?;rw[hh];simp
theorem y78{w:World}{g n:Nat}{d:Array Value}{E:TypeId}{F:Array Value}{os:Array Obj}(hh:w.heap[g]? = some (.cells d E (0,0)))(z:F.size<=d.size):
  ∃f,(Sort.grow (Sort.putRow id (Sort.ahead w n) g 0 F) os).heap[g]? = some (.cells f E (0,0))/\f.size=d.size/\f.toList.take F.size=F.toList:=by
 have u:g<w.heap.size:=(w1c.1 hh).1;refine⟨Sort.putCells id 0 F d,?_,by simp[Sort.putCells],?_⟩
 .simp only[Sort.grow,Sort.putRow,Sort.mapBlock,Sort.ahead];rw[w1a,if_pos (by simpa using u),Array.getElem?_modify,if_pos rfl,hh];rfl
 .refine w36 λj=>?_
  rw[w0x];by_cases h:j<F.size
  .rw[if_pos h];have:j<d.size:=by omega
   simp[Sort.putCells,this,h]
  .rw[if_neg h,w1t (by simpa using h)]
theorem zzg{w:World}{g n b:Nat}{F:Array Value}{os:Array Obj}(d:b<w.heap.size)(f:b≠g):(Sort.grow (Sort.putRow id (Sort.ahead w n) g 0 F) os).heap[b]? = w.heap[b]?:=by simp only[Sort.grow,Sort.putRow,Sort.mapBlock,Sort.ahead];rw[w1a,if_pos (by simpa using d),Array.getElem?_modify,if_neg (λe=>f e.symm)]
theorem y4j[Dr]{P:Program}{f:FuncId}{args:List VP}{vs0:List Value}{α:Type}{E:TypeId}{e:α->List VP}{ce:α->List Value}{k:Nat}{l z:List α}{sv:Value}
  (he:∀x∈l,e x =(ce x).map eqv) (ab:∀x∈z,e x =(ce x).map eqv) (a5:∀x∈z,∀v∈ce x,v.oneCell'=true) (hk:∀x∈l,(ce x).length=k) (ae:∀x∈z,(ce x).length=k) (u:z.length=l.length) (a1:args=vs0.map eqv)
  (a3:l = []->∀p d w,Calls P f (#[.slice p 0 d]++vs0.toArray) w λe w'=>e = .returned (.tuple #[])/\w'=w)
  (a4:l≠[]->∀g d w,g<w.heap.size->(∀F:Array Value,F.toList=l.flatMap ce->Sort.Holds id w g 0 F)->
   Calls P f (#[.slice (some ⟨g,0,none⟩) l.length d]++vs0.toArray) w λe w'=>e = .returned (.tuple #[])/\∃n os F,F.toList=z.flatMap ce/\w'=Sort.grow (Sort.putRow id (Sort.ahead w n) g 0 F) os) :
  MutT P f (eqv sv::args) E e k l sv λx l2=>x=eqv (.tuple #[])/\l2=z:=by
 intro w0 base r S w vs hw hl hA;have am:vs = #[sv]++vs0.toArray:=by
  have a7:vs.size=1+vs0.length:=by rw[hl,a1];simp;omega
  refine Array.ext (by rw[a7];simp[w5h]) λi h1 h2=>?_
  cases i with
  |zero=>have:=hA 0 (eqv sv) rfl;simp only[w07,w23 h1,w1b] at this;have this:vs[0]=sv:=this;rw[this,Array.getElem_append_left (by simp)];rfl
  |succ i=>
   have hi:i<vs0.length:=by omega
   have:=hA (i+1) (eqv vs0[i]) (by rw[a1];simp[hi]);simp only[w07,w23 h1,w1b] at this;rw[this];rw[Array.getElem_append_right (by simp)];simp
 subst am;have a0:=hw.obj 0 _ rfl;have ag:l.flatMap e =(l.flatMap ce).map eqv:=by
  rw[w5n];clear a3 a4 a0 hk u hw
  induction l with
  |nil=>rfl
  |cons x l ih=>rw[w0u,w0u,he x (w0n),ih (λy hy=>he y (w0g _ hy))]
 have ad:z.flatMap e =(z.flatMap ce).map eqv:=by
  rw[w5n];clear a3 a4 a0 hk ae u hw a5
  induction z with
  |nil=>rfl
  |cons x z ih=>rw[w0u,w0u,ab x (w0n),ih (λy hy=>ab y (w0g _ hy))]
 have ac:∀m:List α,(∀x∈m,(ce x).length=k)->(m.flatMap ce).length=m.length*k:=by
  intro m
  induction m with
  |nil=>intro _;simp
  |cons x m ih=>intro h;rw[w0u,w0h,h x (w0n),ih (λy hy=>h y (w0g _ hy)),w0o,w1s];omega
 by_cases h0:l = []
 .have ah:z = []:=w14 (by rw[u,h0];rfl);have hslice:∃p d,sv = .slice p 0 d:=by
   rcases a0 with⟨rfl,_⟩|⟨g,d,cur,rfl,_⟩
   .exact⟨_,_,rfl⟩
   .rw[h0];exact⟨_,_,rfl⟩
  obtain⟨p,d,rfl⟩:=hslice;refine(a3 h0 p d w).mono ?_;rintro en w' ⟨rfl,rfl⟩;refine⟨_,eqv (.tuple #[]),_,r,S,rfl,Evo.refl _ _ _,hw,rfl,z,?_,rfl,rfl⟩;rw[h0,ah]
 .rcases a0 with⟨_,rfl⟩|⟨g,d,cur,rfl,hS,a2,ai,af,a7,hc⟩
  .exact absurd rfl h0
  .have aj:=(w1c.1 a2).1;rw[ag] at hc;have hc:=y5y hc;refine(a4 h0 g d w aj λF hF=>y9b a2 ?_).mono ?_
   .have:F.size=l.length*k:=by rw[<- w3c,hF,ac l hk]
    rw[this,hc,hF]
   .rintro en w' ⟨rfl,n,os,F,hF,rfl⟩;have a9:F.size=l.length*k:=by rw[<- w3c,hF,ac z ae,u]
    have hb:∀b,b<w.heap.size->¬S 0 b->(Sort.grow (Sort.putRow id (Sort.ahead w n) g 0 F) os).heap[b]? = w.heap[b]?:=λb hb hs=>zzg hb (λe=>hs (e ▸ hS))
    obtain⟨a8,a6,ap,ak⟩:=y78 (n:=n) (os:=os) (F:=F) a2 (by rw[a9,a7];exact w1p _ ai);refine⟨_,eqv (.tuple #[]),_,r,_,rfl,hw.evo_repl 0 hb,hw.repl 0 (row E e k z (.slice (some ⟨g,0,none⟩) l.length d)) (S 0) (by simp) rfl ⟨rfl,Nat.le_add_right _ _⟩ rfl (by simp[Sort.grow,Sort.putRow,Sort.mapBlock,Sort.ahead]) hb (λb aa=>?_) ?_,rfl,z,rfl,rfl,rfl⟩
    .obtain⟨_,h2,h3,h4⟩:=hw.own 0 b aa;refine⟨h2,?_,h4,λj hj hs=>hj (hw.apart j 0 b hs aa)⟩;simp[Sort.grow,Sort.putRow,Sort.mapBlock,Sort.ahead];omega
    .refine .inr ⟨g,d,a8,by rw[u],hS,a6,by omega,af,by omega,?_⟩;rw[u,<- a9,ak,hF,ad];exact zl6 λv hv=>by obtain⟨x,hx,ao⟩:=w24.1 hv;exact a5 x hx v ao
theorem ycd{w w':World}(h : @Bel ⟨True⟩ w.heap.size w w'):∃q os,w'=Sort.grow (w.drewN q) os:=by
 refine⟨w'.drawn-w.drawn,w'.heap.extract w.heap.size w'.heap.size,?_⟩;have u:=@Bel.drawn ⟨True⟩ _ _ _ h trivial;have hh:w'.heap=w.heap++w'.heap.extract w.heap.size w'.heap.size:=by
  refine Array.ext_getElem? λi=>?_
  rw[w1a];by_cases d:i<w.heap.size
  .rw[if_pos d,h.block i d]
  .rw[if_neg d,Array.getElem?_extract];split
   .congr 1;omega
   .rw[Array.getElem?_eq_none (by omega)]
 have f:=h.os;have g:=h.tape;have j:=h.output;cases w';cases w;simp only[Sort.grow,World.drewN] at *;subst f;subst g;subst j;congr 1;omega
def insL{α:Type}(lt:α->α->Bool)(x:α):List α->List α
 | []=>[x]
 |y::l=>bif lt y x then y::insL lt x l else x::y::l
def zb4{α:Type}(lt:α->α->Bool):List α->List α
 | []=>[]
 |x::l=>insL lt x (zb4 lt l)
def pwB{α:Type}(r:α->α->Bool):List α->Bool
 | []=>true
 |x::l=>l.all (r x)&&pwB r l
theorem zp5{α:Type}(lt:α->α->Bool)(x:α):∀l:List α,(insL lt x l).Perm (x::l)
 | []=>List.Perm.refl _
 |y::l=>by
  simp only[insL];cases lt y x with
  |true=>exact((zp5 lt x l).cons y).trans (List.Perm.swap x y l)
  |false=>exact List.Perm.refl _
theorem z0w{α:Type}(lt:α->α->Bool):∀l:List α,(zb4 lt l).Perm l
 | []=>List.Perm.refl _
 |x::l=>(zp5 lt x _).trans ((z0w lt l).cons x)
theorem zxz{α β:Type}(f:α->β)(lt:β->β->Bool):∀l:List α,(zb4 (λa b=>lt (f a) (f b)) l).map f=zb4 lt (l.map f)
 | []=>rfl
 |x::l=>by
  have d:∀m:List α,(insL (λa b=>lt (f a) (f b)) x m).map f=insL lt (f x) (m.map f):=by
   intro m
   induction m with
   |nil=>rfl
   |cons y m g=>
    simp only[insL,w0l];cases lt (f y) (f x) with
    |true=>simp only[cond_true,w0l,g]
    |false=>rfl
  simp only[zb4,w0l];rw[d,zxz f lt l]
theorem zp6{α:Type}{lt:α->α->Bool}(d:Sort.SWO lt)(x:α):∀l:List α,l.Pairwise (λa b=>lt b a=false)->(insL lt x l).Pairwise λa b=>lt b a=false
 | [],_=>w4k _ _
 |y::l,h=>by
  rw[w13] at h;simp only[insL];cases f:lt y x with
  |true=>
   simp only[cond_true,w13];refine⟨λz hz=>?_,zp6 d x l h.2⟩;rcases w05.1 ((zp5 lt x l).mem_iff.1 hz) with rfl|hz
   .cases hx:lt z y with
    |false=>rfl
    |true=>have:=d.trans _ _ _ f hx;rw[d.irrefl] at this;cases this
   .exact h.1 z hz
  |false=>
   simp only[cond_false,w13];refine⟨λz hz=>?_,h.1,h.2⟩;rcases w05.1 hz with rfl|hz
   .exact f
   .exact d.ntrans _ _ _ (h.1 z hz) f
theorem z7h{α:Type}{lt:α->α->Bool}(d:Sort.SWO lt):∀l:List α,(zb4 lt l).Pairwise λa b=>lt b a=false
 | []=>List.Pairwise.nil
 |x::l=>zp6 d x _ (z7h d l)
theorem y1v{α:Type}{r:α->α->Bool}: ∀{l:List α},pwB r l=true↔l.Pairwise λa b=>r a b=true
 | []=>by simp[pwB]
 |x::l=>by simp[pwB,y1v (l:=l),w0a]
theorem zt7{α:Type}{lt:α->α->Bool}{l l1 l2:List α}(j:l.Pairwise λa b=>(lt a b||lt b a)=true)(u:l1.Perm l)(z:l2.Perm l)(s1:l1.Pairwise λa b=>lt b a=false)(s2:l2.Pairwise λa b=>lt b a=false):l1=l2:=by
 refine List.Perm.eq_of_pairwise (le:=λa b=>lt b a=false) ?_ s1 s2 (u.trans z.symm);intro a b g h d f;have g:=u.mem_iff.1 g;have h:=z.mem_iff.1 h;clear s1 s2 u z
 induction l with
 |nil=>cases g
 |cons x l ih=>
  rw[w13] at j;rcases w05.1 g with rfl|ha'
  .rcases w05.1 h with rfl|hb'
   .rfl
   .have:=j.1 b hb'
    rw[d,f] at this;cases this
  .rcases w05.1 h with rfl|hb'
   .have:=j.1 a ha'
    rw[d,f] at this;cases this
   .exact ih j.2 ha' hb'
def znp{α:Type}(ok:α->Bool)(cf:α->α->Int)(l:List α):Option (List α):=bif l.all ok&&Nat.blt l.length 4611686018427387904&&pwB (λa b=>decide (cf a b<0)||decide (cf b a<0)) l then some (zb4 (λa b=>decide (cf a b<0)) l) else none
theorem zzd{α:Type}{g:α->Bool}{d:α->α->Int}{l j:List α}(h:znp g d l=some j):
  (∀y∈l,g y=true)/\l.length<4611686018427387904/\(l.Pairwise λa b=>(decide (d a b<0)||decide (d b a<0))=true)/\j=zb4 (λa b=>decide (d a b<0)) l:=by
 unfold znp at h;cases f :(l.all g&&Nat.blt l.length 4611686018427387904&&pwB (λa b=>decide (d a b<0)||decide (d b a<0)) l) with
 |false=>rw[f] at h;cases h
 |true=>rw[f] at h;simp only[w02,w2e,w0a] at f;exact⟨f.1.1,f.1.2,y1v.1 f.2,(w0f h).symm⟩
theorem y5g{α:Type}{f:α->Bool}{d:α->α->Int}{l:List α}(g:∀y∈l,f y=true)(j:l.length<4611686018427387904)(u:l.Pairwise λa b=>d a b<0\/d b a<0):znp f d l=some (zb4 (λa b=>decide (d a b<0)) l):=by
 unfold znp;have :(l.all f&&Nat.blt l.length 4611686018427387904&&pwB (λa b=>decide (d a b<0)||decide (d b a<0)) l)=true:=by simp only[w02,w2e,w0a];exact⟨⟨g,j⟩,y1v.2 (u.imp λh=>by simpa using h)⟩
 rw[this];rfl
theorem y07{α:Type}{f:α->Bool}(l:List α)(d:∀y∈l,f y=true):(l.attach.map λy=>(⟨y.1,d y.1 y.2⟩ : {y:α // f y=true})).map (·.1)=l:=by
 rw[w2n]
 conv=>rhs;rw[<- List.attach_map_subtype_val l]
 rfl
theorem yba[Dr]{V:TE}{P:Program}{ρ:Shelf.Ren}(L:Proofs.SlLaysF0.n6 P ρ){E c g:Nat}(a8:∀w,(isAgg (ρ.t 24)).run P w = .ok true w)(ag:∀w,(Go.sizeOf (ρ.t 24)).run P w = .ok (V.sz c) w)(f:V.fl c=true)(a2:z81 (V.d c)=true)(hg:FnOK P g)
  {ok:V.T c->Bool} {cf:V.T c->V.T c->Int} (hO:Sort.SWO (Proofs.ltOf λa b : {y:V.T c // ok y=true}=>cf a.1 b.1))
  (a3:∀a b,ok a=true->ok b=true->@zdv ⟨True⟩ P g [V.vl c a,V.vl c b] λx news=>x=iv .i64 (cf a b)/\news = []):zn4 V P (ρ.f 6) ⟨E,c,[.fn g],λl _=>znp ok cf l⟩:=by
 intro l _ l' sv hF;obtain⟨a6,a5,a7,rfl⟩:=zzd hF;refine y4j (vs0:=[.func (.func g) #[] #[]]) (ce:=V.cv c) (λx _=>yd1 f x) (λx _=>yd1 f x) (λx _=>y89 f x) (λx _=>zxe f x) (λx _=>zxe f x) (z0w _ _).length_eq rfl ?_ ?_
 .intro _ p a1 w;exact Proofs.AnyF.slices_SortFunc_none L p a1 _ w
 .intro af b a1 w ae hH;generalize hd :(l.attach.map λy=>(⟨y.1,a6 y.1 y.2⟩ : {y:V.T c // ok y=true}))=d;have hv:d.map (·.1)=l:=by rw[<- hd];exact y07 _ a6
  have a9:d≠[]:=λe=>af (by rw[<- hv,e];rfl)
  obtain⟨x0,ai⟩:=List.exists_mem_of_ne_nil d a9
  let _:Inhabited {y:V.T c // ok y=true}:=⟨x0⟩
  have hs:d.toArray.size=l.length:=by rw[<- hv];simp
  have eg:∀args w,(callFunc g args).run P w = .ok (.enter g args) w:=by obtain⟨fn,h1,h2,h3⟩:=hg;obtain⟨cd,h3⟩:=w19.1 h3;exact Proofs.enters_of h1 h2 h3
  have a4:∀q:List {y:V.T c // ok y=true},q.flatMap (λy=>V.cv c y.1) =(q.map (·.1)).flatMap (V.cv c):=λq=>by rw[w5l]
  have a0:=Proofs.AnyQ.slices_SortFunc L (V.sz c) a8 ag (λy : {y:V.T c // ok y=true}=>V.cv c y.1) (λy=>zxe f y.1) (λy=>y89 f y.1) (λa b=>cf a.1 b.1) hO g #[] b 0 a1 d.toArray w eg ?_ (hH _ ?_) ae (by rw[hs];exact a5)
  .rw[hs] at a0;refine a0.mono ?_;rintro e w' ⟨rfl,d',n,os,⟨k1,_,k3⟩,k4,rfl⟩;refine⟨rfl,n,os,_,?_,rfl⟩;rw[zsp (e:=λy : {y:V.T c // ok y=true}=>V.cv c y.1) (λy=>zxe f y.1),a4];have aa:d'.size=l.length:=by rw[k1,hs]
   have e1:d'.extract 0 l.length=d':=by rw[<- aa];exact Array.extract_size
   have e2:d.toArray.extract 0 l.length=d.toArray:=by rw[<- hs];exact Array.extract_size
   rw[e1,e2] at k3;have k3:d'.toList.Perm d:=by simpa using k3
   have key:d'.toList=zb4 (Proofs.ltOf λa b : {y:V.T c // ok y=true}=>cf a.1 b.1) d:=by
    refine zt7 (l:=d) (lt:=Proofs.ltOf λa b : {y:V.T c // ok y=true}=>cf a.1 b.1) ?_ k3 (z0w _ _) ?_ (z7h hO _)
    .rw[<- hv] at a7;exact w2x.1 a7
    .rw[List.pairwise_iff_getElem];intro i j hi hj ac;have ab:i<d'.size:=by simpa using hi
     have ad:j<d'.size:=by simpa using hj
     have:=k4 i j (w30 _) ac (by omega);rw[getElem!_pos d' i ab,getElem!_pos d' j ad] at this;simpa using this
   have hm:=zxz (λy : {y:V.T c // ok y=true}=>y.1) (λa b=>decide (cf a b<0)) d;rw[hv] at hm;rw[key,<- hm];rfl
  .intro m os dk _ y z;have hp:=a3 y.1 z.1 y.2 z.2 (λ_=>False) (Proofs.sortWorldK (λy : {y:V.T c // ok y=true}=>V.cv c y.1) (V.sz c) w b 0 m dk os) (#[.agg (V.cv c y.1).toArray,.agg (V.cv c z.1).toArray]++#[]) (λ_ h=>h.elim) rfl ?_
   .refine hp.mono ?_;rintro e w' ⟨v,u,objs,r',S',rfl,_,ah,hu,rfl,_⟩;have hu:v = .int .i64 (cf y.1 z.1):=hu;subst hu;exact⟨rfl,ycd (@WInv.below ⟨True⟩ _ _ _ _ _ _ ah)⟩
   .intro i A hi;have one:∀q:V.T c,(V.vl c q).h (λ_=>False) (Proofs.sortWorldK (λy : {y:V.T c // ok y=true}=>V.cv c y.1) (V.sz c) w b 0 m dk os) (.agg (V.cv c q).toArray):=λq=>by rw[zn1 q a2];refine⟨_,rfl,?_⟩;rw[yd1 f];exact zl6 (y89 f q)
    match i,hi with
    |0,hi=>cases hi;exact one y.1
    |1,hi=>cases hi;exact one z.1
    |i+2,hi=>simp at hi
  .rw[zsp (e:=λy : {y:V.T c // ok y=true}=>V.cv c y.1) (λy=>zxe f y.1),a4,w39,hv]
theorem y9a{α:Type}[Inhabited α]{enc:α->Value}{w:World}{b o:Nat}{d:Array α}(h:Sort.Holds id w b o (d.map enc)):Sort.Holds enc w b o d:=by intro j f;have:=h j (by simpa using f);rw[getElem!_pos _ j (by simpa using f)] at this;rw[getElem!_pos d j f];simpa using this
theorem y6r{α:Type}[Inhabited α]{enc:α->Value}{w:World}{b o:Nat}{d:Array α}: Sort.putRow enc w b o d=Sort.putRow id w b o (d.map enc):=by
 unfold Sort.putRow;congr 1;funext cur;unfold Sort.putCells;congr 1;funext k x;simp only[Array.size_map];split
 .rename_i h;have f:k-o<d.size:=by omega
  rw[getElem!_pos d _ f,getElem!_pos _ _ (by simpa using f)];simp
 .rfl
def zo1(l:List Int):Option (List Int):=if l.length<4611686018427387904 then some (zb4 (λa b=>decide (a<b)) l) else none
theorem yjz:Sort.SWO (λa b:Int=>decide (a<b)) where
 irrefl:=λx=>by simp
 trans:=λx y z d f=>by simp at *;omega
 ntrans:=λx y z d f=>by simp at *;omega
theorem y1e(l:List Int):l.mergeSort (λx y=>decide (x<=y))=zb4 (λa b=>decide (a<b)) l:=by
 refine List.Perm.eq_of_pairwise (le:=λa b:Int=>a<=b) (λa b _ _ d f=>by omega) ?_ ?_ ((List.mergeSort_perm _ _).trans (z0w _ _).symm)
 .have:=List.pairwise_mergeSort (le:=λx y:Int=>decide (x<=y)) (by intro a b c d f;simp at *;omega) (by intro a b;simp;omega) l
  exact this.imp λh=>by simpa using h
 .exact(z7h yjz l).imp λh=>by simpa using h
theorem zze[Dr]{P:Program}{ρ:Shelf.Ren}(L:Proofs.Lays.n189 P ρ){E:Nat}{l u:List Int}{sv:Value}(g:zo1 l=some u):MutT P (ρ.f 189) [eqv sv] E (λn:Int=>[iv .i64 n]) 1 l sv λx l2=>x=eqv (.tuple #[])/\l2=u:=by
 unfold zo1 at g;split at g
 .rename_i hl;have:=w0f g;subst this;have f:∀q:List Int,q.flatMap (λn=>[Value.int .i64 n])=q.map (Value.int .i64):=λq=>by induction q with
   |nil=>rfl
   |cons x q ih=>rw[w0u,ih];rfl
  refine y4j (args:=[]) (vs0:=[]) (ce:=λn=>[.int .i64 n]) (λx _=>rfl) (λx _=>rfl) (λx _ v j=>by simp only[w0d] at j;subst j;rfl) (λx _=>rfl) (λx _=>rfl) (z0w _ _).length_eq rfl ?_ ?_
  .intro _ p d w;exact Proofs.Any.slices_Sort_int_none L p d w
  .intro a0 b d w h z;refine(Proofs.Any.slices_Sort_int L b 0 d l w (y9a (z _ ?_)) h hl).mono ?_
   .rw[f];simp
   .rintro e w' ⟨rfl,n,os,rfl⟩;refine⟨rfl,n,os,_,?_,by rw[y6r]⟩;rw[f,y1e];simp
 .cases g
end Px
end
section
namespace Px
open Go Go.RowKit Go.ChangeShapes Go.WideShapes Go.ChangeAt
section
variable{T:Nat->Type}
def rT(g :(c:Nat)->T c->Prop):(fs:List Nat)->Tup T fs->Prop
 | [],_=>True
 | [c],x=>g c x.1
 |c::cs,x=>g c x.1/\rT g cs x.2
def rD(g :(c:Nat)->T c->Prop): {α:Type}->Ds T α->α->Prop
 |_,.int k,x=>RI k x
 |_,.bool,_=>True
 |_,.str,x=>x.size<=maxLen
 |_,.sl c,x=>RL (g c) x
 |_,.map _ _,_=>True
 |_,.arr n c,x=>∀i,i<n->g c (x i)
 |_,.st fs _ un _,x=>rT g fs (un x)
theorem yjh{g :(c:Nat)->T c->Prop}{c:Nat}: ∀{cs:List Nat}{x:T c×Tup T cs},g c x.1->rT g cs x.2->rT g (c::cs) x
 | [],_,h,_=>h
 |_::_,_,h,k=>⟨h,k⟩
end
section
variable(V:TE)(P:Program)
def rdN:Nat->(c:Nat)->V.T c->Prop
 |0,_,_=>True
 |n+1,c,x=>rD (rdN n) (V.d c) x
def opF(g:TypeId->Nat->Bool):List Nat->List (TypeId×Nat×Nat)->Nat->Nat->Bool
 | [],[],o,m=>Nat.beq o m
 |c::cs,(ty,off,m)::l,o,e=>Nat.beq off o&&Nat.beq m (V.sz c)&&g ty c&&opF g cs l (o+m) e
 |_,_,_,_=>false
def opD(g:TypeId->Nat->Bool): {α:Type}->Ds V.T α->TypeId->Bool
 |_,.int k,t=>match P.underlying t with|some (.int k')=>decide (k'=k)|_=>false
 |_,.bool,t=>match P.underlying t with|some .bool=>true|_=>false
 |_,.str,t=>match P.underlying t with|some .string=>true|_=>false
 |_,.sl c,t=>match P.underlying t with|some (.slice E)=>Nat.beq (P.cellsOf E) (V.sz c)&&Nat.blt 0 (V.sz c)&&g E c|_=>false
 |_,.map _ _,_=>false
 |_,.arr n c,t=>match P.underlying t with|some (.array N E)=>Nat.beq N n&&Nat.beq (P.cellsOf E) (V.sz c)&&Nat.beq (P.cellsOf t) (n*V.sz c)&&g E c|_=>false
 |_,.st fs _ _ _,t=>match zwe P t with|some l=>opF V g fs l 0 (P.cellsOf t)|none=>false
def opN:Nat->TypeId->Nat->Bool
 |0,_,_=>false
 |n+1,t,c=>opD V P (opN n) (V.d c) t
def yiz(n:Nat):List TypeId->List Nat->Bool
 | [],[]=>true
 |t::ts,c::cs=>opN V P n t c&&yiz n ts cs
 |_,_=>false
def yji(n:Nat):(cs:List Nat)->Tup V.T cs->Prop
 | [],_=>True
 |c::cs,x=>rdN V n c x.1/\yji n cs x.2
variable{V P}
theorem ygh:∀(n:Nat)(t:TypeId)(c:Nat),opN V P n t c=true->Opn P t (V.sz c) (V.ev c) (rdN V n c)
 |0,_,_,h=>by cases h
 |n+1,t,c,h=>by
  have ih:=ygh n;have a1:V.ev c=evD V.ev (V.mv V.ev) V.sz (V.d c):=funext λx=>V.ev_eq c x
  have hr:rdN V (n+1) c=rD (rdN V n) (V.d c):=rfl;rw[a1,V.sz_eq,hr];change opD V P (opN V P n) (V.d c) t=true at h;revert h;clear a1 hr;generalize V.d c=d;revert d;generalize V.T c=α;intro d h;cases d with
  |int k=>
   simp only[opD] at h;split at h
   .rename_i k' g;simp only[decide_eq_true_eq] at h;subst h;exact Opn.int g
   .cases h
  |bool=>
   simp only[opD] at h;split at h
   .rename_i g;exact Opn.bool g
   .cases h
  |str=>
   simp only[opD] at h;split at h
   .rename_i g;exact Opn.string g
   .cases h
  |sl c'=>
   simp only[opD] at h;split at h
   .rename_i E g;simp only[w02,w2e] at h;obtain⟨⟨f,h2⟩,h3⟩:=h;exact Opn.slice g (w03 f) h2 (ih E c' h3)
   .cases h
  |map kc vc=>simp[opD] at h
  |arr m c'=>
   simp only[opD] at h;split at h
   .rename_i N E g;simp only[w02] at h;obtain⟨⟨⟨f,h2⟩,h3⟩,h4⟩:=h;have f:=w03 f;subst f;have:Inhabited (V.T c'):=⟨V.z c'⟩;exact Opn.array g (w03 h2) (w03 h3) rfl (ih E c' h4)
   .cases h
  |st fs mk un a2=>
   simp only[opD] at h;split at h
   .rename_i l hl;intro H enc w sp a0 fuel cs x hx;obtain⟨u,m,hf⟩:=y2m hl hx;have key:∀(fs:List Nat)(j:List (TypeId×Nat×Nat))(o:Nat),opF V (opN V P n) fs j o (P.cellsOf t)=true->(∀(i:Nat)(ty:TypeId)(off m':Nat),j[i]? = some (ty,off,m')->∃y,DataW.trod enc P w 0 sp a0 m ty ((cs.drop off).take m')=some y)->
      o+fs.foldr (λc s=>V.sz c+s) 0=P.cellsOf t/\∃y:Tup V.T fs,rT (rdN V n) fs y/\zr (λb=>b<w.heap.size) w (evT V.ev fs y) (cs.drop o):=by
     intro fs
     induction fs with
     |nil=>
      intro j o h hf;cases j with
      |nil=>have:=w03 h;subst this;exact⟨rfl,(),trivial,zr.tile0 u⟩
      |cons a j=>cases h
     |cons c a6 a5=>
      intro j o h hf;cases j with
      |nil=>cases h
      |cons a j=>obtain⟨ty,off,m'⟩:=a;simp only[opF,w02] at h;obtain⟨⟨⟨f,h2⟩,h3⟩,h4⟩:=h;have f:=w03 f;have h2:=w03 h2;subst f;subst h2;obtain⟨y0,a4⟩:=hf 0 _ _ _ rfl;obtain⟨_,y,hR,hc⟩:=ih ty c h3 _ _ _ _ _ _ _ _ a4;obtain⟨he,z,hz,a3⟩:=a5 j _ h4 (λi ty off m' hi=>hf (i+1) ty off m' hi);refine⟨by simp only[w5s];omega,(y,z),yjh hR hz,?_⟩;exact zr.tile hc a3
    obtain⟨he,y,hy,hc⟩:=key fs l 0 h hf;rw[w3p] at hc;refine⟨by rw[u,<- he,w1j];rfl,mk y,?_,?_⟩
    .show rT _ fs (un (mk y));rw[a2];exact hy
    .show zr _ _ (evT V.ev fs (un (mk y))) cs;rw[a2];exact hc
   .cases h
theorem yk9{H:Type}{enc:TypeId×Value->H}{W:World}{sp:Nat->Bool}{a2:Bool}{a1 n:Nat}{t:TypeId}{c:Nat}{v:Value}{d:DataW H}{p:List MemPlace}
  (f:opN V P n t c=true) (j:Value.okWide P W .any a1 t v) (h:DataW.Trod enc P W 0 sp a2 t v d p):∃y,rdN V n c y/\(V.vl c y).h (λb=>b<W.heap.size) W v:=by
 cases n with
 |zero=>cases f
 |succ n=>
 obtain⟨fuel,hf⟩:=h;obtain⟨_,y,hR,hc⟩:=ygh _ _ _ f _ _ _ _ _ _ _ _ hf;refine⟨y,hR,?_⟩;change opD V P (opN V P n) (V.d c) t=true at f;unfold Value.okWide at j;cases z:z81 (V.d c) with
 |true=>
  rw[zn1 y z];have hs:∃cs,v = .agg cs:=by
   revert f z;generalize V.d c=d;generalize V.T c=α at d;intro f z;cases d with
   |arr m c'=>
    simp only[opD] at f;split at f
    .rename_i N E g;rw[g] at j;obtain⟨cs,rfl,_⟩:=j;exact⟨cs,rfl⟩
    .cases f
   |st fs mk un a4=>
    simp only[opD,zwe] at f;cases g:P.underlying t with
    |none=>rw[g] at f;cases f
    |some X=>
     rw[g] at f j;cases X with
     |struct a5=>obtain⟨cs,rfl,_⟩:=j;exact⟨cs,rfl⟩
     |_=>cases f
   |_=>cases z
  obtain⟨cs,rfl⟩:=hs;exact⟨cs,rfl,hc⟩
 |false=>
  rw[zr5 y z] at hc;have a0:v.cells.toList = [v]:=by
   revert f z;generalize V.d c=d;generalize V.T c=α at d;intro f z;cases d with
   |int k=>
    simp only[opD] at f;split at f
    .rename_i k' g;rw[g] at j;cases v<;>first|rfl |(exfalso;simp[Cell.okWide,Cell.ok,g] at j)
    .cases f
   |bool=>
    simp only[opD] at f;split at f
    .rename_i g;rw[g] at j;cases v<;>first|rfl |(exfalso;simp[Cell.okWide,Cell.ok,g] at j)
    .cases f
   |str=>
    simp only[opD] at f;split at f
    .rename_i g;rw[g] at j;cases v<;>first|rfl |(exfalso;simp[Cell.okWide,Cell.ok,g] at j)
    .cases f
   |sl c'=>
    simp only[opD] at f;split at f
    .rename_i E g;rw[g] at j;cases v<;>first|rfl |(exfalso;simp[Cell.okWide,Cell.ok,g] at j)
    .cases f
   |arr m c'=>cases z
   |map kc vc=>simp[opD] at f
   |st fs mk un a4=>cases z
  rw[a0] at hc;obtain⟨u,a3,hA,_⟩:=hc.2 0 (V.vl c y) rfl;simp at a3;subst a3;exact hA
theorem y7w{H:Type}{enc:TypeId×Value->H}{W:World}{sp:Nat->Bool}{a0:Bool}{z n:Nat}: ∀{ts:List TypeId}{cs:List Nat}{vs:List Value}{f:List (DataW H)}{ps:List MemPlace},
  yiz V P n ts cs=true->DataW.TrodAll enc P W 0 sp a0 ts vs f ps->(∀(j:Nat)t v,ts[j]? = some t->vs[j]? = some v->Value.okWide P W .any z t v)->
  vs.length=cs.length/\∃x:Tup V.T cs,yji V n cs x/\∀(i:Nat)(A:VP),(vls V cs x)[i]? = some A->A.h (λb=>b<W.heap.size) W (vs.getD i undef)
 | [],[],vs,f,ps,_,h,_=>by
  cases vs with
  |nil=>exact⟨rfl,(),trivial,λi A u=>by simp[vls] at u⟩
  |cons v vs=>cases f<;>exact h.elim
 |t::ts,c::cs,vs,f,ps,g,h,hv=>by
  simp only[yiz,w02] at g;cases vs with
  |nil=>cases f<;>exact h.elim
  |cons v vs=>
   cases f with
   |nil=>exact h.elim
   |cons d f=>
    obtain⟨p,q,h1,h2,_⟩:=h;obtain⟨y,hR,hA⟩:=yk9 g.1 (hv 0 t v rfl rfl) h1;obtain⟨hl,x,hx,a2⟩:=y7w g.2 h2 (λj t v ht a1=>hv (j+1) t v ht a1);refine⟨by simp[hl],(y,x),⟨hR,hx⟩,λi A u=>?_⟩;cases i with
    |zero=>simp only[vls,w2f,w01] at u;subst u;exact hA
    |succ i=>simp only[vls,w29] at u;simpa using a2 i A u
 | [],_::_,_,_,_,g,_,_=>by cases g
 |_::_,[],_,_,_,g,_,_=>by cases g
theorem zr2{H:Type}{enc:TypeId×Value->H}{P:Program}{W:World}{b:Nat}{sp:Nat->Bool}{f:Bool}: ∀{j:List TypeId}{vs:List Value}{g:List (DataW H)}{ps:List MemPlace},DataW.TrodAll enc P W b sp f j vs g ps->g.length=j.length
 | [],[],[],_,_=>rfl
 |t::j,v::vs,d::g,ps,⟨p,q,_,h,_⟩=>by simp[zr2 h]
 | [],_::_,_,_,h=>h.elim
 | [],[],_::_,_,h=>h.elim
 |_::_,[],_,_,h=>h.elim
 |_::_,_::_,[],_,h=>h.elim
theorem ybr:∀(cs:List Nat)(x:Tup V.T cs),(vls V cs x).length=cs.length
 | [],_=>rfl
 |c::cs,x=>by simp only[vls,w0o,ybr cs]
theorem yl7[Dr]{f:FuncId}{sp:Fsp V}{W:World}{vs:Array Value}{x:Tup V.T sp.args}{r:RTup V.T sp.res}(z:zz V P f sp)(hr:sp.F x=some r)(d:∀B:Asg,(resV V (encR V 0 sp.res r)).den V P B=bv true)(g:newR V sp.res r = [])
  (hl:vs.toList.length=sp.args.length) (j:∀(i:Nat)(A:VP),(vls V sp.args x)[i]? = some A->A.h (λb=>b<W.heap.size) W (vs.toList.getD i undef)):Calls P f vs W (λe h=>e = .returned (.bool true)/\Below W.heap.size W h):=by
 refine y9m (As:=vls V sp.args x) ((z x r hr).mono ?_) (by rw[ybr];simpa using hl) (λi A hi=>?_)
 .rintro y news ⟨B,u,rfl,rfl⟩;rw[g] at u⊢;refine⟨d B,?_⟩;cases B<;>rfl
 .have:=j i A hi
  simpa[w07,w26] using this
end
theorem z8q.same{R:Type}{x:Option R}{n:Nat}{y:Option (List (Option R))}(h:y=some (List.replicate n x)):z8q x y:=⟨λr f=>⟨_,h,λa d=>by rw[(List.mem_replicate.1 d).2,f]⟩⟩
theorem z8q.ck{R:Type}{p:Prop}[Decidable p]{x:Option R}{y:Option (List (Option R))}(h:z8q x y):z8q (Px.ck p x) (Px.ck p y):=
 ⟨λr d=>by
  unfold Px.ck at *;split at d
  .rename_i f;simp only[if_pos f];exact h.ok r d
  .cases d⟩
theorem z8q.bind{R α:Type}{m:Option α}{f:α->Option R}{g:α->Option (List (Option R))}(h:∀a,z8q (f a) (g a)):z8q (m.bind f) (m.bind g):=
 ⟨λr d=>by
  cases m with
  |none=>cases d
  |some a=>exact(h a).ok r d⟩
theorem z8q.one{R:Type}{x:Option R}: z8q x (some [x]):=⟨λr f=>⟨_,rfl,λa d=>by rw[w0d.1 d,f]⟩⟩
theorem z8q.nil{R:Type}{x:Option R}: z8q x (catL []):=⟨λr f=>⟨[],rfl,λa d=>by cases d⟩⟩
theorem z8q.cons{R:Type}{x:Option R}{y:Option (List (Option R))}{l:List (Option (List (Option R)))}(h:z8q x y)(hl:z8q x (catL l)):z8q x (catL (y::l)):=
 ⟨λr d=>by
  obtain⟨a,j,f⟩:=h.ok r d;obtain⟨b,u,g⟩:=hl.ok r d;refine⟨a++b,by simp only[catL,j,u,cat2],λz hz=>?_⟩;rcases w0j.1 hz with hz|hz
  .exact f z hz
  .exact g z hz⟩
end Px
end
section
set_option maxHeartbeats 4000000
set_option maxRecDepth 100000
namespace Px
open Go Go.RowKit
def z08:ByteArray:=⟨#[0,1,2,2,3,3,3,3,4,4,4,4,4,4,4,4,5,5,5,5,5,5,5,5,5,5,5,5,5,5,5,5,6,6,6,6,6,6,6,6,6,6,6,6,6,6,6,6,6,6,6,6,6,6,6,6,6,6,6,6,6,6,6,6,7,7,7,7,7,7,7,7,7,7,7,7,7,7,7,7,7,7,7,7,7,7,7,7,7,7,7,7,7,7,7,7,7,7,7,7,7,7,7,7,7,7,7,7,7,7,7,7,7,7,7,7,7,7,7,7,7,7,7,7,7,7,7,7,8,8,8,8,8,8,8,8,8,8,8,8,8,8,8,8,8,8,8,8,8,8,8,8,8,8,8,8,8,8,8,8,8,8,8,8,8,8,8,8,8,8,8,8,8,8,8,8,8,8,8,8,8,8,8,8,8,8,8,8,8,8,8,8,8,8,8,8,8,8,8,8,8,8,8,8,8,8,8,8,8,8,8,8,8,8,8,8,8,8,8,8,8,8,8,8,8,8,8,8,8,8,8,8,8,8,8,8,8,8,8,8,8,8,8,8,8,8,8,8,8,8,8,8,8,8,8,8]⟩
def zgm:ByteArray:=⟨#[119,111,102]⟩
def zcz:ByteArray:=⟨#[119,112,102,116]⟩
def z73:ByteArray:=⟨#[119,112,111,102,99]⟩
def zi3:ByteArray:=⟨#[110,119,111,112,100,107,103,102]⟩
def zd0:ByteArray:=⟨#[119,112,111,102]⟩
def zi0:ByteArray:=⟨#[119,102,99]⟩
def zi1:ByteArray:=⟨#[119,112,102,116,99,97,113]⟩
def zr1:ByteArray:=⟨#[111,113]⟩
def zgl:ByteArray:=⟨#[110,102,120]⟩
def zr0:ByteArray:=⟨#[110,102]⟩
def zi2:ByteArray:=⟨#[111,112,107,110,103,102,116,97]⟩
def z4j:ByteArray:=⟨#[119,112,111,110,102,116,99,100,107,103,97]⟩
structure za where
 type_:Int
 class_:Int
 place:Int
 at_:Int
 count:Int
instance:Inhabited za:=⟨⟨0,0,0,0,0⟩⟩
structure z8f where
 kind:Int
 railway:Int
 other:Int
instance:Inhabited z8f:=⟨⟨0,0,0⟩⟩
structure Edge where
 a:Int
 b:Int
 railway:Int
 minutes:Int
 km:Int
instance:Inhabited Edge:=⟨⟨0,0,0,0,0⟩⟩
structure zk where
 places :(List z8f)
 edges :(List Edge)
instance:Inhabited zk:=⟨⟨[],[]⟩⟩
structure z34 where
 load:Int
 tare:Int
 length:Int
 gauge:Int
 brake:Int
 classes:Int
 life:Int
 floor:Int
instance:Inhabited z34:=⟨⟨0,0,0,0,0,0,0,0⟩⟩
structure zo5 where
 type_:Int
 owner:Int
 home:Int
 built:Int
 worth:Int
instance:Inhabited zo5:=⟨⟨0,0,0,0,0⟩⟩
structure Swap where
 wanted:Int
 given:Int
 cost:Int
instance:Inhabited Swap:=⟨⟨0,0,0⟩⟩
structure Wash where
 from_:Int
 to:Int
 minutes:Int
instance:Inhabited Wash:=⟨⟨0,0,0⟩⟩
structure z2h where
 types :(List z34)
 wagons :(List zo5)
 swaps :(List Swap)
 washes :(List Wash)
instance:Inhabited z2h:=⟨⟨[],[],[],[]⟩⟩
structure zil where
 place:Int
 low:Int
 high:Int
instance:Inhabited zil:=⟨⟨0,0,0⟩⟩
structure ze9 where
 place:Int
instance:Inhabited ze9:=⟨⟨0⟩⟩
structure Span where
 from_:Int
 to:Int
instance:Inhabited Span:=⟨⟨0,0⟩⟩
structure z6a where
 open_ :(Nat->Span)
 holidays :(List Int)
instance:Inhabited z6a:=⟨⟨λ_=>default,[]⟩⟩
structure z6b where
 key:Int
 calendar:z6a
instance:Inhabited z6b:=⟨⟨0,default⟩⟩
structure Pool where
 network:zk
 fleet:z2h
 readers :(List zil)
 shippers :(List ze9)
 railways :(List z6b)
instance:Inhabited Pool:=⟨⟨default,default,[],[],[]⟩⟩
structure zp where
 type_:Int
 class_:Int
 place:Int
 from_:Int
 to:Int
 count:Int
 weight:Int
instance:Inhabited zp:=⟨⟨0,0,0,0,0,0,0⟩⟩
structure zy where
 near :(List (List Int))
 line :(List ((Nat->Int)×Int))
instance:Inhabited zy:=⟨⟨[],[]⟩⟩
structure Arc where
 from_:Int
 to:Int
 cap:Int
 cost:Int
instance:Inhabited Arc:=⟨⟨0,0,0,0⟩⟩
structure zq where
 supply :(List Int)
 arcs :(List Arc)
instance:Inhabited zq:=⟨⟨[],[]⟩⟩
structure Flow where
 x :(List Int)
 price :(List Int)
instance:Inhabited Flow:=⟨⟨[],[]⟩⟩
structure zi8 where
 n:zq
 x :(List Int)
 left :(List Int)
 price :(List Int)
 begin :(List (List Int))
 end_ :(List (List Int))
instance:Inhabited zi8:=⟨⟨default,[],[],[],[],[]⟩⟩
structure zn where
 arc:Int
 to:Int
 cost:Int
 room:Int
instance:Inhabited zn:=⟨⟨0,0,0,0⟩⟩
structure ze where
 supply:Int
 order:Int
 count:Int
instance:Inhabited ze:=⟨⟨0,0,0⟩⟩
structure Plan where
 transfers :(List ze)
 cost:Int
 price :(List Int)
instance:Inhabited Plan:=⟨⟨[],0,[]⟩⟩
structure Ref where
 railway:Int
 no:Int
instance:Inhabited Ref:=⟨⟨0,0⟩⟩
structure Part where
 kind:Int
 serial:Int
 fitted:Bool
instance:Inhabited Part:=⟨⟨0,0,false⟩⟩
structure Item where
 kind:Int
 ref:Ref
 wagon:Int
 place:Int
 other:Int
 number:Int
 from_:Int
 to:Int
 code:Int
 dest:Int
 class_:Int
 weight:Int
 amount:Int
 text:ByteArray
 parts :(List Part)
instance:Inhabited Item:=⟨⟨0,default,0,0,0,0,0,0,0,0,0,0,0,⟨#[]⟩,[]⟩⟩
structure z7 where
 ref:Ref
 by_:Ref
 time:Int
 item:Item
instance:Inhabited z7:=⟨⟨default,default,0,default⟩⟩
structure zl where
 p:Pool
 it:Item
 ok:Bool
instance:Inhabited zl:=⟨⟨default,default,false⟩⟩
structure z8 where
 kind:Int
 serial:Int
instance:Inhabited z8:=⟨⟨0,0⟩⟩
structure zc where
 kind:Int
 class_:Int
 place:Int
instance:Inhabited zc:=⟨⟨0,0,0⟩⟩
def TT:Nat->Type
 |0=>Int
 |1=>za
 |2=>Bool
 |3=>z8f
 |4=>(List z8f)
 |5=>Edge
 |6=>(List Edge)
 |7=>zk
 |8=>Int
 |9=>z34
 |10=>(List z34)
 |11=>zo5
 |12=>(List zo5)
 |13=>Swap
 |14=>(List Swap)
 |15=>Wash
 |16=>(List Wash)
 |17=>z2h
 |18=>zil
 |19=>(List zil)
 |20=>ze9
 |21=>(List ze9)
 |22=>Span
 |23=>(Nat->Span)
 |24=>(List Int)
 |25=>z6a
 |26=>z6b
 |27=>(List z6b)
 |28=>Pool
 |29=>(Nat->Bool)
 |30=>zp
 |31=>(List (List Int))
 |32=>(Nat->Int)
 |33=>(List ((Nat->Int)×Int))
 |34=>zy
 |35=>(Nat->Int)
 |36=>(List za)
 |37=>(List zp)
 |38=>Arc
 |39=>(List Arc)
 |40=>zq
 |41=>Flow
 |42=>zi8
 |43=>zn
 |44=>(List zn)
 |45=>ze
 |46=>(List ze)
 |47=>Plan
 |48=>Ref
 |49=>ByteArray
 |50=>Part
 |51=>(List Part)
 |52=>Item
 |53=>z7
 |54=>(List z7)
 |55=>zl
 |56=>z8
 |57=>(List (Int×Bool))
 |58=>(List (z8×(List (Int×Bool))))
 |59=>zc
 |60=>Int
 |_=>Unit
def TD :(c:Nat)->Ds TT (TT c)
 |0=>.int .i64
 |1=>.st [0,0,0,0,0] (λt=>⟨t.1,t.2.1,t.2.2.1,t.2.2.2.1,t.2.2.2.2.1⟩) (λx=>(x.type_,x.class_,x.place,x.at_,x.count,())) (λ_=>rfl)
 |2=>.bool
 |3=>.st [0,0,0] (λt=>⟨t.1,t.2.1,t.2.2.1⟩) (λx=>(x.kind,x.railway,x.other,())) (λ_=>rfl)
 |4=>.sl 3
 |5=>.st [0,0,0,0,0] (λt=>⟨t.1,t.2.1,t.2.2.1,t.2.2.2.1,t.2.2.2.2.1⟩) (λx=>(x.a,x.b,x.railway,x.minutes,x.km,())) (λ_=>rfl)
 |6=>.sl 5
 |7=>.st [4,6] (λt=>⟨t.1,t.2.1⟩) (λx=>(x.places,x.edges,())) (λ_=>rfl)
 |8=>.int .u64
 |9=>.st [0,0,0,0,0,8,0,0] (λt=>⟨t.1,t.2.1,t.2.2.1,t.2.2.2.1,t.2.2.2.2.1,t.2.2.2.2.2.1,t.2.2.2.2.2.2.1,t.2.2.2.2.2.2.2.1⟩) (λx=>(x.load,x.tare,x.length,x.gauge,x.brake,x.classes,x.life,x.floor,())) (λ_=>rfl)
 |10=>.sl 9
 |11=>.st [0,0,0,0,0] (λt=>⟨t.1,t.2.1,t.2.2.1,t.2.2.2.1,t.2.2.2.2.1⟩) (λx=>(x.type_,x.owner,x.home,x.built,x.worth,())) (λ_=>rfl)
 |12=>.sl 11
 |13=>.st [0,0,0] (λt=>⟨t.1,t.2.1,t.2.2.1⟩) (λx=>(x.wanted,x.given,x.cost,())) (λ_=>rfl)
 |14=>.sl 13
 |15=>.st [0,0,0] (λt=>⟨t.1,t.2.1,t.2.2.1⟩) (λx=>(x.from_,x.to,x.minutes,())) (λ_=>rfl)
 |16=>.sl 15
 |17=>.st [10,12,14,16] (λt=>⟨t.1,t.2.1,t.2.2.1,t.2.2.2.1⟩) (λx=>(x.types,x.wagons,x.swaps,x.washes,())) (λ_=>rfl)
 |18=>.st [0,0,0] (λt=>⟨t.1,t.2.1,t.2.2.1⟩) (λx=>(x.place,x.low,x.high,())) (λ_=>rfl)
 |19=>.sl 18
 |20=>.st [0] (λt=>⟨t.1⟩) (λx=>(x.place,())) (λ_=>rfl)
 |21=>.sl 20
 |22=>.st [0,0] (λt=>⟨t.1,t.2.1⟩) (λx=>(x.from_,x.to,())) (λ_=>rfl)
 |23=>.arr 7 22
 |24=>.sl 0
 |25=>.st [23,24] (λt=>⟨t.1,t.2.1⟩) (λx=>(x.open_,x.holidays,())) (λ_=>rfl)
 |26=>.st [8,25] (λt=>⟨t.1,t.2.1⟩) (λx=>(x.key,x.calendar,())) (λ_=>rfl)
 |27=>.sl 26
 |28=>.st [7,17,19,21,27] (λt=>⟨t.1,t.2.1,t.2.2.1,t.2.2.2.1,t.2.2.2.2.1⟩) (λx=>(x.network,x.fleet,x.readers,x.shippers,x.railways,())) (λ_=>rfl)
 |29=>.arr 4096 2
 |30=>.st [0,0,0,0,0,0,0] (λt=>⟨t.1,t.2.1,t.2.2.1,t.2.2.2.1,t.2.2.2.2.1,t.2.2.2.2.2.1,t.2.2.2.2.2.2.1⟩) (λx=>(x.type_,x.class_,x.place,x.from_,x.to,x.count,x.weight,())) (λ_=>rfl)
 |31=>.sl 24
 |32=>.arr 2 0
 |33=>.map 32 0
 |34=>.st [31,33] (λt=>⟨t.1,t.2.1⟩) (λx=>(x.near,x.line,())) (λ_=>rfl)
 |35=>.arr 32 0
 |36=>.sl 1
 |37=>.sl 30
 |38=>.st [0,0,0,0] (λt=>⟨t.1,t.2.1,t.2.2.1,t.2.2.2.1⟩) (λx=>(x.from_,x.to,x.cap,x.cost,())) (λ_=>rfl)
 |39=>.sl 38
 |40=>.st [24,39] (λt=>⟨t.1,t.2.1⟩) (λx=>(x.supply,x.arcs,())) (λ_=>rfl)
 |41=>.st [24,24] (λt=>⟨t.1,t.2.1⟩) (λx=>(x.x,x.price,())) (λ_=>rfl)
 |42=>.st [40,24,24,24,31,31] (λt=>⟨t.1,t.2.1,t.2.2.1,t.2.2.2.1,t.2.2.2.2.1,t.2.2.2.2.2.1⟩) (λx=>(x.n,x.x,x.left,x.price,x.begin,x.end_,())) (λ_=>rfl)
 |43=>.st [0,0,0,0] (λt=>⟨t.1,t.2.1,t.2.2.1,t.2.2.2.1⟩) (λx=>(x.arc,x.to,x.cost,x.room,())) (λ_=>rfl)
 |44=>.sl 43
 |45=>.st [0,0,0] (λt=>⟨t.1,t.2.1,t.2.2.1⟩) (λx=>(x.supply,x.order,x.count,())) (λ_=>rfl)
 |46=>.sl 45
 |47=>.st [46,0,24] (λt=>⟨t.1,t.2.1,t.2.2.1⟩) (λx=>(x.transfers,x.cost,x.price,())) (λ_=>rfl)
 |48=>.st [0,0] (λt=>⟨t.1,t.2.1⟩) (λx=>(x.railway,x.no,())) (λ_=>rfl)
 |49=>.str
 |50=>.st [0,0,2] (λt=>⟨t.1,t.2.1,t.2.2.1⟩) (λx=>(x.kind,x.serial,x.fitted,())) (λ_=>rfl)
 |51=>.sl 50
 |52=>.st [0,48,0,0,0,0,0,0,0,0,0,0,0,49,51] (λt=>⟨t.1,t.2.1,t.2.2.1,t.2.2.2.1,t.2.2.2.2.1,t.2.2.2.2.2.1,t.2.2.2.2.2.2.1,t.2.2.2.2.2.2.2.1,t.2.2.2.2.2.2.2.2.1,t.2.2.2.2.2.2.2.2.2.1,t.2.2.2.2.2.2.2.2.2.2.1,t.2.2.2.2.2.2.2.2.2.2.2.1,t.2.2.2.2.2.2.2.2.2.2.2.2.1,t.2.2.2.2.2.2.2.2.2.2.2.2.2.1,t.2.2.2.2.2.2.2.2.2.2.2.2.2.2.1⟩) (λx=>(x.kind,x.ref,x.wagon,x.place,x.other,x.number,x.from_,x.to,x.code,x.dest,x.class_,x.weight,x.amount,x.text,x.parts,())) (λ_=>rfl)
 |53=>.st [48,48,0,52] (λt=>⟨t.1,t.2.1,t.2.2.1,t.2.2.2.1⟩) (λx=>(x.ref,x.by_,x.time,x.item,())) (λ_=>rfl)
 |54=>.sl 53
 |55=>.st [28,52,2] (λt=>⟨t.1,t.2.1,t.2.2.1⟩) (λx=>(x.p,x.it,x.ok,())) (λ_=>rfl)
 |56=>.st [0,0] (λt=>⟨t.1,t.2.1⟩) (λx=>(x.kind,x.serial,())) (λ_=>rfl)
 |57=>.map 0 2
 |58=>.map 56 57
 |59=>.st [0,0,0] (λt=>⟨t.1,t.2.1,t.2.2.1⟩) (λx=>(x.kind,x.class_,x.place,())) (λ_=>rfl)
 |60=>.int .u8
 |_+61=>.st [] (λ_=>()) (λ_=>()) (λ_=>rfl)
def TZ :(c:Nat)->TT c
 |0=>(default:Int)
 |1=>(default:za)
 |2=>(default:Bool)
 |3=>(default:z8f)
 |4=>(default :(List z8f))
 |5=>(default:Edge)
 |6=>(default :(List Edge))
 |7=>(default:zk)
 |8=>(default:Int)
 |9=>(default:z34)
 |10=>(default :(List z34))
 |11=>(default:zo5)
 |12=>(default :(List zo5))
 |13=>(default:Swap)
 |14=>(default :(List Swap))
 |15=>(default:Wash)
 |16=>(default :(List Wash))
 |17=>(default:z2h)
 |18=>(default:zil)
 |19=>(default :(List zil))
 |20=>(default:ze9)
 |21=>(default :(List ze9))
 |22=>(default:Span)
 |23=>(default :(Nat->Span))
 |24=>(default :(List Int))
 |25=>(default:z6a)
 |26=>(default:z6b)
 |27=>(default :(List z6b))
 |28=>(default:Pool)
 |29=>(default :(Nat->Bool))
 |30=>(default:zp)
 |31=>(default :(List (List Int)))
 |32=>(default :(Nat->Int))
 |33=>(default :(List ((Nat->Int)×Int)))
 |34=>(default:zy)
 |35=>(default :(Nat->Int))
 |36=>(default :(List za))
 |37=>(default :(List zp))
 |38=>(default:Arc)
 |39=>(default :(List Arc))
 |40=>(default:zq)
 |41=>(default:Flow)
 |42=>(default:zi8)
 |43=>(default:zn)
 |44=>(default :(List zn))
 |45=>(default:ze)
 |46=>(default :(List ze))
 |47=>(default:Plan)
 |48=>(default:Ref)
 |49=>(default:ByteArray)
 |50=>(default:Part)
 |51=>(default :(List Part))
 |52=>(default:Item)
 |53=>(default:z7)
 |54=>(default :(List z7))
 |55=>(default:zl)
 |56=>(default:z8)
 |57=>(default :(List (Int×Bool)))
 |58=>(default :(List (z8×(List (Int×Bool)))))
 |59=>(default:zc)
 |60=>(default:Int)
 |_+61=>()
def TC(t:Nat):Nat:=(lk [(2,0),(3,0),(4,2),(5,60),(6,60),(9,49),(10,49),(11,49),(12,8),(22,4),(23,6),(25,7),(26,10),(27,12),(28,14),(29,16),(31,17),(32,19),(33,21),(34,27),(36,28),(37,36),(38,37),(39,46),(40,24),(42,47),(45,0),(48,54),(52,39),(54,40),(64,1),(66,30),(71,48),(72,51),(74,52),(76,53),(84,45),(88,41),(101,11),(103,59),(119,38),(126,22),(127,23),(129,25),(130,8),(132,26),(135,58),(137,57),(139,50),(142,56),(151,3),(153,5),(155,9),(157,13),(159,15),(166,18),(168,20),(175,8),(190,55),(198,31),(200,42),(204,29),(209,0),(229,33),(231,34),(237,35),(245,8),(252,32),(260,44),(264,43),(287,60),(288,60)] t).getD 61
def TV:TE:=⟨TT,TD,TZ,TC,λc=>match c with|0=>rfl|1=>rfl|2=>rfl|3=>rfl|4=>rfl|5=>rfl|6=>rfl|7=>rfl|8=>rfl|9=>rfl|10=>rfl|11=>rfl|12=>rfl|13=>rfl|14=>rfl|15=>rfl|16=>rfl|17=>rfl|18=>rfl|19=>rfl|20=>rfl|21=>rfl|22=>rfl|23=>rfl|24=>rfl|25=>rfl|26=>rfl|27=>rfl|28=>rfl|29=>rfl|30=>rfl|31=>rfl|32=>rfl|33=>rfl|34=>rfl|35=>rfl|36=>rfl|37=>rfl|38=>rfl|39=>rfl|40=>rfl|41=>rfl|42=>rfl|43=>rfl|44=>rfl|45=>rfl|46=>rfl|47=>rfl|48=>rfl|49=>rfl|50=>rfl|51=>rfl|52=>rfl|53=>rfl|54=>rfl|55=>rfl|56=>rfl|57=>rfl|58=>rfl|59=>rfl|60=>rfl|_+61=>rfl⟩
def kl_0:Int->List Int:=TV.kl 0
def z71 :(Nat->Int)->List Int:=TV.kl 32
def z72:z8->List Int:=TV.kl 56
def zlh:zc->List Int:=TV.kl 59
def cmpI(a b:Int):Int:=if a<b then-1 else if b<a then 1 else 0
def or2(a b:Int):Int:=if a≠0 then a else b
def z2z(a b:za):Int:=or2 (cmpI a.type_ b.type_) (or2 (cmpI a.class_ b.class_) (cmpI a.place b.place))
def zmb(l:List za):Option (List za):=znp (λ_=>true) z2z l
def zw9(l:List Int):Option (List Int):=zo1 l
def Good{R:Type}(r:R)(y:Option (List (Option R))):Prop:=∃L,y=some L/\∀a∈L,a=some r
theorem Good.one{R:Type}{r:R}{x:Option R}(h:x=some r):Good r (some [x]):=⟨_,rfl,λa d=>by rw[w0d] at d;rw[d,h]⟩
theorem Good.nil{R:Type}{r:R}: Good r (catL ([]:List (Option (List (Option R))))):=⟨[],rfl,λa d=>by cases d⟩
theorem Good.cons{R:Type}{r:R}{y:Option (List (Option R))}{d:List (Option (List (Option R)))}(h:Good r y)(k:Good r (catL d)):Good r (catL (y::d)):=by
 obtain⟨L,rfl,f⟩:=h;obtain⟨M,e,g⟩:=k;refine⟨L++M,by simp only[catL,e,cat2],λa j=>?_⟩;rcases w0j.1 j with h|h
 .exact f a h
 .exact g a h
theorem Good.ck{R:Type}{r:R}{p:Prop}[Decidable p]{y:Option (List (Option R))}(h:p)(k:Good r y):Good r (ck p y):=by unfold Px.ck;rw[if_pos h];exact k
theorem ckS{R:Type}{r:R}{p:Prop}[Decidable p]{x:Option R}(h:ck p x=some r):p/\x=some r:=by
 unfold ck at h;split at h
 .rename_i d;exact⟨d,h⟩
 .cases h
def H.sn{V:TE}{R:Type}: Nat->H V R->H V R
 |0,h=>h
 |n+1,h=>.seq .x (H.sn n h)
def H.lp{V:TE}{R:Type}(h:Sh)(L:Nat->h.Z V.T->Option R)(b :(h.Z V.T->Option R)->H V R):H V R:=.seq .x (.body (.loop h L b))
def H.lo{V:TE}{R:Type}(h:Sh)(L:Nat->h.Z V.T->Option R):H V R:=.lp h L λ_=>.x
section
variable{A B C D E F G H I J K L M N O P Q S T U V W X Y R Z:Type}
end
def A00:LC:=.val 0
def A01:OC:=.row 3 0
def A02:LC:=.ptr 0 0
def A03:OC:=.box 36 [.val 28]
def A04:OC:=.nst 40 3 24 none
def A05:OC:=.row 119 38
def A06:Nat×List (Nat×LC):=(112,[(0,.own 0),(1,.ptr 1 0),(2,.ptr 2 0),(3,.ptr 3 0),(5,A00),(6,A00),(7,A00),(8,.ptr 4 0),(22,.own 5),(23,A00),(24,A00),(29,.own 6),(30,A00),(31,A00)])
def A07:OC:=.row 84 45
def A08:List OC:=[.box 200 [.val 24,.val 39,.own 5,.own 6,.own 7,.own 8,.own 9],.box 40 [.own 10],.box 40 [.own 11],.box 260 [.own 12],.box 88 [.own 13,.own 14],A01,A01,A01,A04,A04,A01,A01,.row 264 43,A01,A01]
def A09:LC:=.ptr 1 0
def A0a:LC:=.own 0
def A0b:Sh:=⟨[(121,[(2,A02),(3,A09),(4,.ptr 2 0)]),(193,[(0,.ptr 3 0)]),(19,[(0,.ptr 3 0)]),(27,[(2,.ptr 4 0),(5,.ptr 3 0)])],[.box 40 [.own 5],.box 40 [.own 6],.box 260 [.own 7],.box 200 [.val 24,.val 39,.own 8,.own 9,.own 10,.own 11,.own 12],.box 88 [.own 13,.own 14],A01,A01,.row 264 43,A01,A01,A01,A04,A04,A01,A01]⟩
def A0c:Sh:=⟨[(25,[(0,.val 8),(2,A00)]),(33,[(0,.val 8),(1,.val 8),(5,.func 190 [A02]),(6,.val 8),(7,A00),(10,A00),(11,A00),(18,.val 8)])],[.box 130 [.val 8]]⟩
def A0d:Nat×List (Nat×LC):=(99,[(1,A0a),(2,.own 1),(3,.ptr 2 0),(6,.ptr 3 0),(9,A00),(10,A00),(45,.own 1),(46,A00),(47,A00)])
def A0e:Nat×List (Nat×LC):=(99,[(1,A0a),(2,.own 1),(3,.ptr 2 0),(6,.ptr 3 0),(9,A00),(10,A00),(22,A0a),(23,A00),(24,A00)])
def A0f:Nat×List (Nat×LC):=(112,[(0,A0a),(1,A09),(2,.ptr 2 0),(3,.ptr 3 0),(5,A00),(6,A00),(22,.own 4),(23,A00),(24,A00)])
def A0g:List OC:=[.box 200 [.val 24,.val 39,.own 4,.own 5,.own 6,.own 7,.own 8],A01,.row 264 43,.box 88 [.own 9,.own 10],A01,A01,A01,A04,A04,A01,A01]
def A0h:OC:=.row 66 30
def A0i:Sh:=⟨[(66,[(0,A02),(1,A00),(4,A09)]),(135,[(0,A02),(2,.ptr 0 9)]),(46,[(5,A02)])],[.box 190 [.val 55],.box 151 [.val 3]]⟩
def A0j:OC:=.row 64 1
def A0k:List OC:=[.box 200 [.val 24,.val 39,.own 2,.own 3,.own 4,.own 5,.own 6],.box 88 [.own 7,.own 8],A01,A01,A01,A04,A04,A01,A01]
def A0l:Sh:=⟨[(25,[(0,.val 8),(2,A00)]),(33,[(0,.val 8),(1,.val 8),(5,.func 190 [A02]),(6,.val 8)])],[.box 130 [.val 8]]⟩
def A0m:LC:=.own 1
def A0n:OC:=.box 54 [.own 6,.own 7]
def A0o:OC:=.box 42 [.own 9,A00,.val 24]
def A0p:Nat×List (Nat×LC):=(112,[(0,A0a),(1,A09),(5,A00),(6,A00),(63,.own 2),(64,A00),(65,A00)])
def A0q:List OC:=[A03,.box 54 [.own 3,.own 4],.box 54 [.own 5,.own 6],A01,A05,A01,A05]
def A0r:OC:=.box 31 [.val 17]
def A0s:OC:=.box 25 [.val 7]
def A0t:Nat×List (Nat×LC):=(50,[(1,A00),(5,.val 58),(6,A0a),(15,.val 54),(16,A00),(17,A00),(33,.val 51),(34,A00),(35,A00)])
def A0u:LC:=.ptr 2 0
def A0v:Nat×LC:=(6,A00)
def A0w:OC:=.box 64 [.val 1]
def A0x:LC:=.ptr 4 0
def A0y:OC:=.box 42 [.own 10,A00,.val 24]
def A0z:Nat×List (Nat×LC):=(112,[(0,A0a),(5,A00),A0v,(88,A0m),(89,A00),(90,A00)])
def A10:LC:=.val 8
def A11:Nat×LC:=(0,A02)
def A12:Nat×LC:=(4,A00)
def A13:LC:=.ptr 3 0
def A14:OC:=.row 76 53
def A15:Nat×LC:=(1,A00)
def A16:Nat×LC:=(1,A02)
def A17:Nat×LC:=(8,A00)
def A18:Sh:=⟨[(66,[A11,A15,(4,A09)]),(168,[A11,(2,.ptr 0 9)]),(46,[(5,A02)])],[.box 190 [.val 55],.box 151 [.val 3]]⟩
def A19:LC:=.ptr 5 0
def A1a:Sh:=⟨[(106,[(2,A02),(7,A0m),(9,.val 2),(10,A00),(11,A0u),(12,A00),(13,A00)])],[A0s,A01,.box 153 [.val 5]]⟩
def A1b:List OC:=[A0s,.box 231 [.val 34],A01,.fix 4 2]
def A1c:OC:=.box 54 [.own 5,.own 6]
def A1d:OC:=.box 54 [.own 7,.own 8]
def A1e:OC:=.box 42 [.own 8,A00,.val 24]
def A1f:Sh:=⟨[(121,[A11,(2,A09),(3,A0u),(4,A13),(5,A00)]),(193,[A11]),(19,[A11]),(27,[(2,A0x),(5,A02)])],A08⟩
def A1g:Nat×LC:=(99,A0a)
def A1h:Nat×LC:=(3,A02)
def A1i:Sh:=⟨[(193,[A11,(4,A0m),(5,.own 2),(12,A00),(13,A00)]),(19,[A11]),(27,[(2,A13),(5,A02)])],A0g⟩
def A1j:Nat×List (Nat×LC):=(161,[(3,A0x),A12,(5,A19),A0v,(7,.ptr 6 0),A17])
def A1k:Nat×List (Nat×LC):=(122,[(0,A0x),(2,A19),(3,.ptr 6 0),(4,.ptr 7 0),(5,A00),(7,.own 8),(8,.ptr 9 0),(121,A0a)])
def A1l:List LC:=[.own 2,.own 3]
def A1m:Nat×List (Nat×LC):=(93,[(1,A0a),(2,A0m),(6,A0x)])
def A1n:Nat×LC:=(2,A00)
def A1o:OC:=.box 37 [.own 4]
def A1p:OC:=.box 38 [.own 6]
def A1q:OC:=.box 42 [.own 13,A00,.val 24]
def A1r:Nat×LC:=(3,A00)
def A1s:OC:=.box 42 [.own 5,A00,.val 24]
def A1t:Nat×LC:=(7,A00)
def A1u:List OC:=[A0j,A0h,A03,A1d,A0o,A0y,.box 54 [.own 11,.own 12],A01,A05,A07,A07,A01,A05]
def A1v:OC:=.box 42 [.own 7,A00,.own 8]
def A1w:OC:=.box 42 [.own 8,A00,.own 9]
def A1x:LC:=.val 54
def A1y:Nat×LC:=(10,A00)
def A1z:List LC:=[.own 10,.own 11]
def A20:OC:=.box 54 [.val 40]
def A21:Nat×LC:=(6,.raw (.slice none 0 0))
def A22:LC:=.val 2
def A23:Sh:=⟨[(25,[(0,A10),A1n]),(6,[])],[]⟩
def A24:Nat×List (Nat×LC):=(93,[(1,A0a),(2,A0m),(6,A0u),(9,A13),(43,.val 39),(44,A00),(45,A00)])
def A25:LC:=.own 2
def A26:Nat×List (Nat×LC):=(77,[(4,A02),(8,.func 179 [A02,A09]),(44,.val 6),(45,A00),(46,A00)])
def A27:Nat×LC:=(5,A00)
def A28:Nat×LC:=(1,.val 36)
def A29:Nat×List (Nat×LC):=(100,[(6,A19),A1g])
def A2a:Nat×List (Nat×LC):=(100,[(6,A0u),A1g])
def A2b:LC:=.val 24
def A2c:Nat×LC:=(1,.own 4)
def A2d:Nat×LC:=(2,.own 6)
def A2e:Nat×List (Nat×LC):=(100,[(6,.ptr 7 0),A1g])
def A2f:Nat×LC:=(0,A0a)
def A2g:Nat×List (Nat×LC):=(161,[(1,A0a),(2,A0m)])
def A2h:OC:=.box 54 [.own 4,.own 5]
def A2i:OC:=.box 54 [.own 8,.own 9]
def A2j:OC:=.box 190 [.val 55]
def A2k:OC:=.box 200 [A2b,.val 39,.own 11,.own 12,.own 13,.own 14,.own 15]
def A2l:Nat×LC:=(2,A02)
def A2m:OC:=.box 74 [.val 52]
def A2n:OC:=.box 3 [A00]
def A2o:OC:=.box 200 [A2b,.val 39,.own 5,.own 6,.own 7,.own 8,.own 9]
def A2p:Sh:=⟨[(203,[A1n,(6,A0a),(182,A0m)])],[A0j,.it 59 0]⟩
def A2q:Nat×LC:=(4,.func 117 [A09])
def A2r:Nat×LC:=(2,.val 37)
def A2s:Nat×LC:=(5,A02)
def A2t:Nat×List (Nat×LC):=(100,[(6,A13),A1g])
def A2u:Sh:=⟨[(16,[A2f,(7,A0m)]),A0t],[.map 0 2 0,.it 0 2]⟩
def A2v:LC:=.own 3
def A2w:Sh:=⟨[(26,[(0,A10),(1,A10),(2,A10),(7,A10)])],[]⟩
def A2x:OC:=.box 237 [.val 35]
def A2y:Nat×List (Nat×LC):=(56,[A1n,A1h,(4,A09),(8,A0u),(9,A00),(10,A22)])
def A2z:Nat×List (Nat×LC):=(99,[(6,A02)])
def A30:Nat×List (Nat×LC):=(161,[(1,A0a),(2,A0m),(3,A0x),A12,(5,A19),A0v])
def A31:OC:=.box 42 [.own 11,A00,A2b]
def A32:OC:=.box 42 [.own 12,A00,A2b]
def A33:Nat×List (Nat×LC):=(19,[A11])
def A34:List OC:=[A0j,A0h,A03,A0n,A1w,A0y,A01,A05,A07,A01,A07]
def A35:OC:=.box 66 [.val 30]
def A36:OC:=.box 88 [.val 41]
def A37:OC:=.box 54 [.own 9,.own 10]
def A38:OC:=.box 42 [.own 4,A00,A2b]
def A39:OC:=.box 42 [.own 6,A00,A2b]
def A3a:Nat×LC:=(11,A00)
def A3b:OC:=.box 45 [A00]
def A3c:OC:=.row 264 43
def A3d:Nat×List (Nat×LC):=(93,[(1,A0a),(2,A0m),(6,A0u),A1t,(8,A13)])
def A3e:OC:=.box 37 [.own 5]
def A3f:List OC:=[A0j,A0h,A03,A0n,A1e,A0o,A01,A05,A07,A07]
def A3g:Sh:=⟨[(22,[(0,A10),(1,A10),(5,A10)])],[]⟩
def A3h:Nat×LC:=(1,A0m)
def A3i:Nat×LC:=(2,A25)
def A3j:Nat×LC:=(23,A00)
def A3k:OC:=.fix 4 2
def A3l:List OC:=[.box 129 [.val 25]]
def A3m:List OC:=[A0j,A0h,A03,A1c,A1v,A01,A05,A07,A01]
def A3n:Nat×LC:=(4,A09)
def A3o:Nat×LC:=(9,A00)
def A3p:Nat×List (Nat×LC):=(161,[(1,A0a),(2,A0m),(3,A0x),A12])
def A3q:Nat×List (Nat×LC):=(161,[(1,A0a),(2,A0m),(3,A19),A12])
def A3r:Nat×LC:=(0,A1x)
def A3s:Nat×LC:=(5,A0a)
def A3t:OC:=.box 54 A1l
def A3u:Nat×List (Nat×LC):=(93,[(1,.own 5),A2d,(6,.ptr 8 0)])
def A3v:Nat×LC:=(24,A00)
def A3w:List (Nat×LC):=[A16,A1r]
def A3x:Nat×List (Nat×LC):=(27,[(2,A0x),A2s])
def A3y:Nat×LC:=(14,A00)
def A3z:Nat×LC:=(3,A09)
def A40:Nat×LC:=(2,A09)
def A41:Nat×List (Nat×LC):=(46,[A2s])
def A42:OC:=.box 37 [.val 36]
def A43:OC:=.box 42 [.own 11,A00,.own 12]
def A44:Nat×List (Nat×LC):=(27,[(2,.ptr 10 0),(5,A0x)])
def A45:Nat×LC:=(4,A02)
def A46:Nat×LC:=(3,A0u)
def A47:Nat×LC:=(6,A09)
def A48:Nat×List (Nat×LC):=(93,[A2c,A2d,(6,.ptr 7 0)])
def A49:Nat×LC:=(7,A0m)
def A4a:OC:=.map 32 0 0
def A4b:LC:=.val 36
def A4c:OC:=.box 54 A1z
def A4d:Nat×List (Nat×LC):=(93,[A3h,(2,A2v),(6,A0x)])
abbrev t00:Type:=List Int
abbrev t01:Type:=Option (Bool×Unit)
abbrev t02:Type:=Option (Flow×Int×Unit)
abbrev t03:Type:=Option (Int×Unit)
abbrev t04:Type:=t00->(List Arc)->t00->t00->t00->(List t00)->(List t00)->t00->t00->t02
abbrev t05:Type:=List (Int×Bool)
abbrev t06:Type:=Option (t00×Unit)
abbrev t07:Type:=List Arc
abbrev t08:Type:=List z7
abbrev t09:Type:=List za
abbrev t0a:Type:=List t00
abbrev t0b:Type:=List ze
abbrev t0c:Type:=List zp
abbrev t0d:Type:=Option (zq×Int×Unit)
abbrev t0e:Type:=List (z8×t05)
abbrev t0f:Type:=Option (Int×Int×Unit)
abbrev t0g:Type:=(List Swap)×Int×Unit
abbrev t0h:Type:=Option (t09×Int×Unit)
abbrev t0i:Type:=Option (zy×Int×Unit)
abbrev t0j:Type:=Option (t00×Int×Unit)
abbrev t0k:Type:=Int->t00->t07->(List Bool)->t00->t00->t00->t0a->t0a->t00->t00->(List zn)->t00->t00->t02
abbrev t0l:Type:=Int->t0e->t08->Int->Int->(List Part)->Int->Int->t05->t06
abbrev t0m:Type:=List ((Nat->Int)×Int)
abbrev t0n:Type:=Option (t08×Unit)
abbrev t0o:Type:=List (t02)
abbrev t0p:Type:=Option (Int×Bool×Unit)
abbrev t0q:Type:=z7->z7->Option Int
abbrev t0r:Type:=List Bool
abbrev t0s:Type:=List zn
abbrev t0t:Type:=List Part
abbrev t0u:Type:=(List Edge)->Int->Int->zk->t0a->t0m->t0i
abbrev t0v:Type:=Option (t0c×Unit)
abbrev t0w:Type:=Option (t0e×Unit)
abbrev t0x:Type:=Int->Int->Int->Int->Int->Int->t03
abbrev t0y:Type:=Option t0g
abbrev t0z:Type:=Int->t0e->t08->Int->Int->t0t->Int->Int->t05->t05->t06
abbrev t10:Type:=Nat->Int
abbrev t11:Type:=Option Int
abbrev t12:Type:=List Swap
abbrev t13:Type:=Option (za×Bool×Unit)
abbrev t14:Type:=Option (ByteArray×Unit)
abbrev t15:Type:=List (zc×Int)
abbrev t16:Type:=List Edge
abbrev t17:Type:=Option (t09×Unit)
abbrev t18:Type:=Int->t0e->t08->Int->Int->t05->t06
abbrev t19:Type:=Option (Int×Bool×Int×Unit)
abbrev t1a:Type:=List z8f
abbrev t1b:Type:=Option t08
abbrev t1c:Type:=List Wash
abbrev t1d:Type:=Bool->Int->zk->t00->t0j
def zbf(φ:Nat):Option (Pool×Unit):=(some ((⟨(⟨[(⟨2,0,-1⟩:z8f),(⟨4,0,-1⟩:z8f),(⟨2,0,-1⟩:z8f)],[(⟨0,1,0,30,0⟩:Edge),(⟨1,2,0,50,0⟩:Edge)]⟩:zk),(⟨[(⟨0,0,0,0,0,6,1,0⟩:z34),(⟨0,0,0,0,0,6,1,0⟩:z34)],([]:List zo5),[(⟨0,1,7⟩:Swap)],[(⟨1,2,15⟩:Wash)]⟩:z2h),([]:List zil),([]:List ze9),[(⟨4,(⟨λ_=>(default:Span),([]:List Int)⟩:z6a)⟩:z6b)]⟩:Pool),()))
def zy2(φ:Nat):Fsp TV:=⟨[],[.val 28],λz=>zbf φ⟩
def zb5(φ:Nat)(a:z8f):t01:=(if((((decide ((a.kind:Int)<1))||(decide ((5:Int)<a.kind)))||(decide ((a.railway:Int)<0)))||(decide ((16:Int)<=a.railway)))=true then(some (false,())) else(if((a.kind:Int) !=3)=true then(some (((a.other:Int)==(-1)),())) else(some ((((decide ((0:Int)<=a.other))&&(decide ((a.other:Int)<16)))&&((a.other:Int) !=a.railway)),()))))
def zpp(φ:Nat):Fsp TV:=⟨[3],[.val 2],λz=>zb5 φ z.1⟩
def z2n(φ:Nat):Nat->Int->t16->Int->Int->t03
 |0,_,_,_,_=>none
 |g+1,e,d,f,c=>(if(decide (c<f))=true then(ck (rg c d.length) (if(((((((decide (((min2 ((min2 (min2 ((gt d c).a) ((gt d c).b)) ((gt d c).railway))) ((gt d c).km)):Int)<0))||(decide (e<=(max2 ((gt d c).a) ((gt d c).b)))))||(((gt d c).a:Int)==(gt d c).b))||(decide ((16:Int)<=(gt d c).railway)))||(decide (((gt d c).minutes:Int)<1)))||(decide ((100000:Int)<(gt d c).minutes)))||(decide ((10000:Int)<(gt d c).km)))=true then(some (1,())) else((z2n φ g) e d f (W (c+1))))) else(some (0,())))
def z4o(φ:Nat):Nat->Int->t1a->Int->Int->zk->t03
 |0,_,_,_,_,_=>none
 |f+1,d,b,e,a,c=>(if(decide (a<e))=true then(ck (rg a b.length) ((zb5 φ (gt b a)).bind λg=>(if(!g.1)=true then(some (1,())) else((z4o φ f) d b e (W (a+1)) c)))) else(z2n φ φ d c.edges (c.edges.length:Int) 0))
def z97(φ:Nat)(a:zk):t03:=(if((decide ((512:Int)<(a.places.length:Int)))||(decide ((2048:Int)<(a.edges.length:Int))))=true then(some (2,())) else(z4o φ φ (a.places.length:Int) a.places (a.places.length:Int) 0 a))
def zpl(φ:Nat):Fsp TV:=⟨[7],[.val 0],λz=>z97 φ z.1⟩
def zx(φ:Nat)(a b c:Int):t01:=(some (((decide (b<=a))&&(decide (a<=c))),()))
def zow(φ:Nat):Fsp TV:=⟨[0,0,0],[.val 2],kq3 (zx φ)⟩
def z37(φ:Nat)(c :((List z34)->Int->Int->z2h->Int->t03)):Nat->(List z34)->Int->Int->Int->Int->z2h->Int->z34->t00->t03
 |0,_,_,_,_,_,_,_,_,_=>none
 |k+1,d,e,f,i,a,g,l,b,h=>(if(decide (a<i))=true then(ck (rg a h.length) ((zx φ (gt h a) 0 1000000).bind λn=>(if(!n.1)=true then((z37 φ c k) d e f i (W (a+1)) g 1 b h) else((z37 φ c k) d e f i (W (a+1)) g l b h)))) else((zx φ b.gauge 0 7).bind λj=>((zi (default,()) (j.1=true) (zx φ b.life 1 1073741824)).bind λm=>((zi (default,()) ((j.1&&m.1)=true) (zx φ b.floor 0 100)).bind λo=>(if(!((j.1&&m.1)&&o.1))=true then(c d e (W (f+1)) g 1) else(c d e (W (f+1)) g l))))))
def z05(φ:Nat):Nat->t1c->Int->Int->Int->(Nat->Bool)->t03
 |0,_,_,_,_,_=>none
 |e+1,b,d,a,h,c=>(if(decide (a<d))=true then(ck (rg a b.length) ((zx φ ((gt b a).from_) 0 63).bind λf=>((zi (default,()) (f.1=true) (zx φ ((gt b a).to) 0 63)).bind λg=>((zi (default,()) (((f.1&&g.1)&&(((gt b a).from_:Int) !=(gt b a).to))=true) (zx φ ((gt b a).minutes) 0 100000)).bind λi=>(if(!(((f.1&&g.1)&&(((gt b a).from_:Int) !=(gt b a).to))&&i.1))=true then(if(((f.1&&g.1)&&(((gt b a).from_:Int) !=(gt b a).to))&&i.1)=true then(ck (rg (gt b a).from_ 64) (ck (rg (gt b a).to 64) (if(!(!(c (((((gt b a).from_:Int).toNat*64)+((gt b a).to:Int).toNat)))))=true then(ck (rg (gt b a).from_ 64) (ck (rg (gt b a).to 64) ((z05 φ e) b d (W (a+1)) 1 ((upd c (((((gt b a).from_:Int).toNat*64)+((gt b a).to:Int).toNat)) true))))) else(ck (rg (gt b a).from_ 64) (ck (rg (gt b a).to 64) ((z05 φ e) b d (W (a+1)) 1 ((upd c (((((gt b a).from_:Int).toNat*64)+((gt b a).to:Int).toNat)) true)))))))) else((z05 φ e) b d (W (a+1)) 1 c)) else(if(((f.1&&g.1)&&(((gt b a).from_:Int) !=(gt b a).to))&&i.1)=true then(ck (rg (gt b a).from_ 64) (ck (rg (gt b a).to 64) (if(!(!(c (((((gt b a).from_:Int).toNat*64)+((gt b a).to:Int).toNat)))))=true then(ck (rg (gt b a).from_ 64) (ck (rg (gt b a).to 64) ((z05 φ e) b d (W (a+1)) 1 ((upd c (((((gt b a).from_:Int).toNat*64)+((gt b a).to:Int).toNat)) true))))) else(ck (rg (gt b a).from_ 64) (ck (rg (gt b a).to 64) ((z05 φ e) b d (W (a+1)) h ((upd c (((((gt b a).from_:Int).toNat*64)+((gt b a).to:Int).toNat)) true)))))))) else((z05 φ e) b d (W (a+1)) h c))))))) else(some (h,())))
def z16(φ:Nat):Nat->t12->Int->Int->z2h->Int->t03
 |0,_,_,_,_,_=>none
 |f+1,b,d,a,c,g=>(if(decide (a<d))=true then(ck (rg a b.length) ((zx φ ((gt b a).wanted) 0 (W ((c.types.length:Int)-1))).bind λe=>((zi (default,()) (e.1=true) (zx φ ((gt b a).given) 0 (W ((c.types.length:Int)-1)))).bind λh=>((zi (default,()) (((e.1&&h.1)&&(((gt b a).wanted:Int) !=(gt b a).given))=true) (zx φ ((gt b a).cost) 0 1000000000)).bind λi=>(if(!(((e.1&&h.1)&&(((gt b a).wanted:Int) !=(gt b a).given))&&i.1))=true then((z16 φ f) b d (W (a+1)) c 1) else((z16 φ f) b d (W (a+1)) c g)))))) else(z05 φ φ c.washes (c.washes.length:Int) 0 g (λ_=>(default:Bool))))
def z0r(φ:Nat):Nat->(List zo5)->Int->Int->z2h->Int->t03
 |0,_,_,_,_,_=>none
 |e+1,b,d,a,c,g=>(if(decide (a<d))=true then(ck (rg a b.length) ((zx φ ((gt b a).type_) 0 (W ((c.types.length:Int)-1))).bind λf=>((zi (default,()) (f.1=true) (zx φ ((gt b a).owner) 0 63)).bind λh=>((zi (default,()) ((f.1&&h.1)=true) (zx φ ((gt b a).home) 0 511)).bind λk=>(if(!((f.1&&h.1)&&k.1))=true then((zx φ ((gt b a).built) 0 1073741824).bind λi=>((zi (default,()) (i.1=true) (zx φ ((gt b a).worth) 0 1099511627776)).bind λl=>(if(!(i.1&&l.1))=true then((z0r φ e) b d (W (a+1)) c 1) else((z0r φ e) b d (W (a+1)) c 1)))) else((zx φ ((gt b a).built) 0 1073741824).bind λj=>((zi (default,()) (j.1=true) (zx φ ((gt b a).worth) 0 1099511627776)).bind λm=>(if(!(j.1&&m.1))=true then((z0r φ e) b d (W (a+1)) c 1) else((z0r φ e) b d (W (a+1)) c g))))))))) else(z16 φ φ c.swaps (c.swaps.length:Int) 0 c g))
def z5b(φ:Nat):Nat->(List z34)->Int->Int->z2h->Int->t03
 |0,_,_,_,_,_=>none
 |f+1,b,d,a,c,e=>(if(decide (a<d))=true then(ck (rg a b.length) (z37 φ (z5b φ f) φ b d a (([(gt b a).load,(gt b a).tare,(gt b a).length,(gt b a).brake]).length:Int) 0 c e (gt b a) ([(gt b a).load,(gt b a).tare,(gt b a).length,(gt b a).brake]))) else(z0r φ φ c.wagons (c.wagons.length:Int) 0 c e))
def z9n(φ:Nat)(a:z2h):t03:=(if((((decide ((32:Int)<(a.types.length:Int)))||(decide ((4096:Int)<(a.wagons.length:Int))))||(decide ((1024:Int)<(a.swaps.length:Int))))||(decide ((4096:Int)<(a.washes.length:Int))))=true then(some (2,())) else(z5b φ φ a.types (a.types.length:Int) 0 a 0))
def zu5(φ:Nat):Fsp TV:=⟨[17],[.val 0],λz=>z9n φ z.1⟩
def z3g(φ:Nat):Nat->Int->t00->Int->Int->t03
 |0,_,_,_,_=>none
 |d+1,e,b,c,a=>(if(decide (a<c))=true then(ck (rg a b.length) (if((decide (((gt b a):Int)<=e))||(decide ((745654:Int)<(gt b a))))=true then(some (1,())) else((z3g φ d) (gt b a) b c (W (a+1))))) else(some (0,())))
def z40(φ:Nat):Nat->(Nat->Span)->Int->z6a->t03
 |0,_,_,_=>none
 |d+1,b,a,c=>(if(decide (a<7))=true then(ck (rg a 7) (if(((decide (((b a.toNat).from_:Int)<0))||(decide (((b a.toNat).to:Int)<(b a.toNat).from_)))||(decide ((1440:Int)<(b a.toNat).to)))=true then(some (1,())) else((z40 φ d) b (W (a+1)) c))) else(z3g φ φ (-1) c.holidays (c.holidays.length:Int) 0))
def z9z(φ:Nat)(a:z6a):t03:=(z40 φ φ a.open_ 0 a)
def zn8(φ:Nat):Fsp TV:=⟨[25],[.val 0],λz=>z9z φ z.1⟩
def z9j(φ:Nat)(a b:Int):t0f:=(if 0<=(32:Int) then(if 0<=(32:Int) then(if 0<=(32:Int) then(if 0<=(32:Int) then(if 0<=(32:Int) then(some ((U ((U ((U ((a.fdiv (2 ^ (min (32:Int).toNat 64)))*(b.fdiv (2 ^ (min (32:Int).toNat 64)))))+(((U ((U ((a.fdiv (2 ^ (min (32:Int).toNat 64)))*(U ((BitVec.ofInt 64 b&&& BitVec.ofInt 64 4294967295).toNat))))+(((U ((U ((BitVec.ofInt 64 a&&& BitVec.ofInt 64 4294967295).toNat))*(U ((BitVec.ofInt 64 b&&& BitVec.ofInt 64 4294967295).toNat)))):Int).fdiv (2 ^ (min (32:Int).toNat 64))))):Int).fdiv (2 ^ (min (32:Int).toNat 64)))))+(((U ((U ((BitVec.ofInt 64 (U ((U ((a.fdiv (2 ^ (min (32:Int).toNat 64)))*(U ((BitVec.ofInt 64 b&&& BitVec.ofInt 64 4294967295).toNat))))+(((U ((U ((BitVec.ofInt 64 a&&& BitVec.ofInt 64 4294967295).toNat))*(U ((BitVec.ofInt 64 b&&& BitVec.ofInt 64 4294967295).toNat)))):Int).fdiv (2 ^ (min (32:Int).toNat 64)))))&&& BitVec.ofInt 64 4294967295).toNat))+(U ((U ((BitVec.ofInt 64 a&&& BitVec.ofInt 64 4294967295).toNat))*(b.fdiv (2 ^ (min (32:Int).toNat 64))))))):Int).fdiv (2 ^ (min (32:Int).toNat 64))))),(U (a*b)),())) else none) else none) else none) else none) else none)
def zwx(φ:Nat):Fsp TV:=⟨[8,8],[.val 8,.val 8],kq2 (z9j φ)⟩
def z1m(φ:Nat)(a b:Int):t03:=(ck (rg (IntKind.wrap .u8 (a)) z08.size) (some ((W (64-(W (b+(W ((z75 z08 (IntKind.wrap .u8 (a))))))))),())))
def z2j(φ:Nat)(a b:Int):t03:=(if(decide ((256:Int)<=a))=true then(if 0<=(8:Int) then(z1m φ ((a.fdiv (2 ^ (min (8:Int).toNat 64)))) (W (b+8))) else none) else(z1m φ a b))
def z2i(φ:Nat)(a b:Int):t03:=(if(decide ((65536:Int)<=a))=true then(if 0<=(16:Int) then(z2j φ ((a.fdiv (2 ^ (min (16:Int).toNat 64)))) (W (b+16))) else none) else(z2j φ a b))
def z4a(φ:Nat)(a:Int):t03:=(if(decide ((4294967296:Int)<=a))=true then(if 0<=(32:Int) then(z2i φ ((a.fdiv (2 ^ (min (32:Int).toNat 64)))) 32) else none) else(z2i φ a 0))
def zft(φ:Nat):Fsp TV:=⟨[8],[.val 0],λz=>z4a φ z.1⟩
def z88(φ:Nat)(c a d e f b:Int):t0f:=(ck (0<=a) (some ((U ((U (e*4294967296))+b)),(((U ((U ((U (f*4294967296))+d))-(U (b*c)))):Int).fdiv (2 ^ (min a.toNat 64))),())))
def z85(φ:Nat):Nat->Int->Int->Int->Int->Int->Int->Int->Int->Int->t0f
 |0,_,_,_,_,_,_,_,_,_=>none
 |j+1,c,d,e,i,b,f,g,h,a=>(if((decide ((4294967296:Int)<=a))||(decide (((U ((U (4294967296*g))+b)):Int)<(U (a*i)))))=true then(if(decide ((4294967296:Int)<=(U (g+e))))=true then(z88 φ c d b f h (U (a-1))) else((z85 φ j) c d e i b f (U (g+e)) h (U (a-1)))) else(z88 φ c d b f h a))
def z87(φ:Nat)(a f b g d e h c:Int):t0f:=(ck (b≠0) (z85 φ φ a f b g h c ((U ((U ((U ((U (d*4294967296))+e))-(U (c*a))))-(U ((U (((U ((U ((U (d*4294967296))+e))-(U (c*a)))):Int).tdiv b))*b))))) ((U ((U ((U (d*4294967296))+e))-(U (c*a))))) ((U (((U ((U ((U (d*4294967296))+e))-(U (c*a)))):Int).tdiv b)))))
def z86(φ:Nat):Nat->Int->Int->Int->Int->Int->Int->Int->Int->Int->t0f
 |0,_,_,_,_,_,_,_,_,_=>none
 |j+1,e,f,a,c,g,d,h,b,i=>(if((decide ((4294967296:Int)<=b))||(decide (((U ((U (4294967296*i))+d)):Int)<(U (b*c)))))=true then(if(decide ((4294967296:Int)<=(U (i+a))))=true then(z87 φ e f a c g d h (U (b-1))) else((z86 φ j) e f a c g d h (U (b-1)) (U (i+a)))) else(z87 φ e f a c g d h b))
def z8j(φ:Nat)(d c b:Int):t0f:=(if(b==0)=true then none else(if(decide (b<=d))=true then none else(if(d==0)=true then(ck (b≠0) (ck (b≠0) (some ((U (c.tdiv b)),(c.tmod b),())))) else((z4a φ b).bind λa=>(ck (0<=(U (a.1))) (if 0<=(32:Int) then(ck (0<=(U (a.1))) (ck (0<=(U (64-(U (a.1))))) (ck (0<=(U (a.1))) (if 0<=(32:Int) then(ck ((((U (b*2 ^ (min ((U (a.1)):Int).toNat 64))):Int).fdiv (2 ^ (min (32:Int).toNat 64)))≠0) (z86 φ φ ((U (b*2 ^ (min ((U (a.1)):Int).toNat 64)))) (U (a.1)) ((((U (b*2 ^ (min ((U (a.1)):Int).toNat 64))):Int).fdiv (2 ^ (min (32:Int).toNat 64)))) ((U ((BitVec.ofInt 64 (U (b*2 ^ (min ((U (a.1)):Int).toNat 64)))&&& BitVec.ofInt 64 4294967295).toNat))) ((U ((BitVec.ofInt 64 (U (d*2 ^ (min ((U (a.1)):Int).toNat 64)))||| BitVec.ofInt 64 (c.fdiv (2 ^ (min ((U (64-(U (a.1)))):Int).toNat 64)))).toNat))) ((((U (c*2 ^ (min ((U (a.1)):Int).toNat 64))):Int).fdiv (2 ^ (min (32:Int).toNat 64)))) ((U ((BitVec.ofInt 64 (U (c*2 ^ (min ((U (a.1)):Int).toNat 64)))&&& BitVec.ofInt 64 4294967295).toNat))) ((U (((U ((BitVec.ofInt 64 (U (d*2 ^ (min ((U (a.1)):Int).toNat 64)))||| BitVec.ofInt 64 (c.fdiv (2 ^ (min ((U (64-(U (a.1)))):Int).toNat 64)))).toNat)):Int).tdiv (((U (b*2 ^ (min ((U (a.1)):Int).toNat 64))):Int).fdiv (2 ^ (min (32:Int).toNat 64)))))) ((U ((U ((BitVec.ofInt 64 (U (d*2 ^ (min ((U (a.1)):Int).toNat 64)))||| BitVec.ofInt 64 (c.fdiv (2 ^ (min ((U (64-(U (a.1)))):Int).toNat 64)))).toNat))-(U ((U (((U ((BitVec.ofInt 64 (U (d*2 ^ (min ((U (a.1)):Int).toNat 64)))||| BitVec.ofInt 64 (c.fdiv (2 ^ (min ((U (64-(U (a.1)))):Int).toNat 64)))).toNat)):Int).tdiv (((U (b*2 ^ (min ((U (a.1)):Int).toNat 64))):Int).fdiv (2 ^ (min (32:Int).toNat 64)))))*(((U (b*2 ^ (min ((U (a.1)):Int).toNat 64))):Int).fdiv (2 ^ (min (32:Int).toNat 64)))))))))) else none)))) else none))))))
def zwv(φ:Nat):Fsp TV:=⟨[8,8,8],[.val 8,.val 8],kq3 (z8j φ)⟩
def zal(φ:Nat)(d:t0x)(b e c f g h i j l a:Int):t03:=(ck (rg (IntKind.wrap .u8 (b)) z08.size) (ck (0<=(W ((W ((W (e+(W ((z75 z08 (IntKind.wrap .u8 (b)))))))-1))-h))) (if(((U ((BitVec.ofInt 64 (l.fdiv (2 ^ (min ((W ((W ((W (e+(W ((z75 z08 (IntKind.wrap .u8 (b)))))))-1))-h)):Int).toNat 64)))&&& BitVec.ofInt 64 1).toNat)):Int)==1)=true then(ck (a≠0) (ck (a≠0) ((z9j φ (g.tmod a) (c.tmod a)).bind λk=>((z8j φ k.1 k.2.1 a).bind λm=>(d c f m.2.1 i (W (j+1)) a))))) else(d c f g i (W (j+1)) a))))
def zak(φ:Nat)(b:t0x)(a c d e f g h i j k:Int):t03:=(if(decide ((256:Int)<=a))=true then(if 0<=(8:Int) then(zal φ b ((a.fdiv (2 ^ (min (8:Int).toNat 64)))) (W (c+8)) d e f g h i j k) else none) else(zal φ b a c d e f g h i j k))
def z4z(φ:Nat)(b:t0x)(a c d e f g h i j k:Int):t03:=(if(decide ((65536:Int)<=a))=true then(if 0<=(16:Int) then(zak φ b ((a.fdiv (2 ^ (min (16:Int).toNat 64)))) (W (c+16)) d e f g h i j k) else none) else(zak φ b a c d e f g h i j k))
def z12(φ:Nat):Nat->Int->Int->Int->Int->Int->Int->t03
 |0,_,_,_,_,_,_=>none
 |f+1,g,a,d,e,c,b=>(if(decide (c<e))=true then(ck (b≠0) (ck (b≠0) ((z9j φ (d.tmod b) (d.tmod b)).bind λh=>((z8j φ h.1 h.2.1 b).bind λi=>(if(decide ((4294967296:Int)<=a))=true then(if 0<=(32:Int) then(z4z φ (z12 φ f) ((a.fdiv (2 ^ (min (32:Int).toNat 64)))) 32 g a i.2.1 c e c a b) else none) else(z4z φ (z12 φ f) a 0 g a i.2.1 c e c a b)))))) else(some (d,())))
def zaj(φ:Nat)(a b c d e f:Int):t03:=(ck (rg (IntKind.wrap .u8 (a)) z08.size) (z12 φ φ c d e ((W (b+(W ((z75 z08 (IntKind.wrap .u8 (a)))))))) 0 f))
def zai(φ:Nat)(a b c d e f:Int):t03:=(if(decide ((256:Int)<=a))=true then(if 0<=(8:Int) then(zaj φ ((a.fdiv (2 ^ (min (8:Int).toNat 64)))) (W (b+8)) c d e f) else none) else(zaj φ a b c d e f))
def zcy(φ:Nat)(a b c d e f:Int):t03:=(if(decide ((65536:Int)<=a))=true then(if 0<=(16:Int) then(zai φ ((a.fdiv (2 ^ (min (16:Int).toNat 64)))) (W (b+16)) c d e f) else none) else(zai φ a b c d e f))
def zkp(φ:Nat)(b a:Int):t03:=(if(decide ((4294967296:Int)<=a))=true then(if 0<=(32:Int) then(zcy φ ((a.fdiv (2 ^ (min (32:Int).toNat 64)))) 32 b a 1 2305843009213690799) else none) else(zcy φ a 0 b a 1 2305843009213690799))
def y74(φ:Nat):Fsp TV:=⟨[8,8],[.val 8],kq2 (zkp φ)⟩
def zhd(φ:Nat)(a:Int):t01:=((zi (default,()) (((decide ((2:Int)<=a))&&(decide (a<2305843009213690799)))=true) (zkp φ a 1152921504606845399)).bind λb=>(some ((((decide ((2:Int)<=a))&&(decide (a<2305843009213690799)))&&(b.1==1)),())))
def zzb(φ:Nat):Fsp TV:=⟨[8],[.val 2],λz=>zhd φ z.1⟩
def z1d(φ:Nat):Nat->Bool->(List z6b)->Int->Int->t03
 |0,_,_,_,_=>none
 |f+1,b,c,d,a=>(if(decide (a<d))=true then(ck (rg a c.length) ((zi (default,()) (b=false) (z9z φ ((gt c a).calendar))).bind λe=>((zi (default,()) ((b||(e.1 !=0))=false) (zhd φ ((gt c a).key))).bind λg=>((z1d φ f) (((b||(e.1 !=0))||(!g.1))) c d (W (a+1)))))) else(if b=true then(some (1,())) else(some (0,()))))
def z1c(φ:Nat):Nat->Int->Bool->t16->Int->Int->Pool->t03
 |0,_,_,_,_,_,_=>none
 |g+1,d,e,b,f,a,c=>(if(decide (a<f))=true then(ck (rg a b.length) ((z1c φ g) d ((e||(decide (d<=(gt b a).railway)))) b f (W (a+1)) c)) else(z1d φ φ e c.railways (c.railways.length:Int) 0))
def z1b(φ:Nat):Nat->Int->Bool->t1a->Int->Int->Pool->t03
 |0,_,_,_,_,_,_=>none
 |g+1,b,e,c,f,a,d=>(if(decide (a<f))=true then(ck (rg a c.length) ((z1b φ g) b (((e||(decide (b<=(gt c a).railway)))||(decide (b<=(gt c a).other)))) c f (W (a+1)) d)) else(z1c φ φ b e d.network.edges (d.network.edges.length:Int) 0 d))
def z1a(φ:Nat):Nat->t1a->Int->Bool->(List zo5)->Int->Int->Pool->t03
 |0,_,_,_,_,_,_,_=>none
 |h+1,a,d,e,c,f,b,g=>(if(decide (b<f))=true then(ck (rg b c.length) ((z1a φ h) a d ((e||(decide (((a.length:Int):Int)<=(gt c b).home)))) c f (W (b+1)) g)) else(z1b φ φ d e a (a.length:Int) 0 g))
def z19(φ:Nat):Nat->t1a->Int->Bool->(List ze9)->Int->Int->Pool->t03
 |0,_,_,_,_,_,_,_=>none
 |i+1,b,f,d,c,g,a,e=>(if(decide (a<g))=true then(ck (rg a c.length) ((zi (default,()) (d=false) (zx φ ((gt c a).place) 0 (W ((b.length:Int)-1)))).bind λh=>(ck (((d||(!h.1))=false)->rg (gt c a).place b.length) ((z19 φ i) b f (((d||(!h.1))||(((gt b ((gt c a).place)).kind:Int) !=4))) c g (W (a+1)) e)))) else(z1a φ φ b f d e.fleet.wagons (e.fleet.wagons.length:Int) 0 e))
def z2l(φ:Nat):Nat->t1a->Int->Bool->(List zil)->Int->Int->Pool->t03
 |0,_,_,_,_,_,_,_=>none
 |h+1,d,f,e,b,g,a,c=>(if(decide (a<g))=true then(ck (rg a b.length) ((zi (default,()) (e=false) (zx φ ((gt b a).place) 0 (W ((d.length:Int)-1)))).bind λi=>((z2l φ h) d f (((((e||(!i.1))||(decide (((gt b a).low:Int)<(-1000))))||(decide (((gt b a).high:Int)<(gt b a).low)))||(decide ((1000:Int)<(gt b a).high)))) b g (W (a+1)) c))) else(z19 φ φ d f e c.shippers (c.shippers.length:Int) 0 c))
def z0z(φ:Nat)(a:Pool):t03:=((z97 φ a.network).bind λb=>(if(b.1 !=0)=true then(some (b.1,())) else((z9n φ a.fleet).bind λc=>(if(c.1 !=0)=true then(some (c.1,())) else(if(((decide ((256:Int)<(a.readers.length:Int)))||(decide ((256:Int)<(a.shippers.length:Int))))||(decide ((16:Int)<(a.railways.length:Int))))=true then(some (2,())) else(z2l φ φ a.network.places (a.railways.length:Int) (((a.railways.length:Int):Int)==0) a.readers (a.readers.length:Int) 0 a))))))
def zl9(φ:Nat):Fsp TV:=⟨[28],[.val 0],λz=>z0z φ z.1⟩
def z0h(φ:Nat)(a b c:Int):t01:=(some (((decide (b<=a))&&(decide (a<=c))),()))
def zl1(φ:Nat):Fsp TV:=⟨[0,0,0],[.val 2],kq3 (z0h φ)⟩
def z31(φ:Nat)(e:Pool)(a:za):t01:=((z0h φ a.type_ 0 (W ((e.fleet.types.length:Int)-1))).bind λb=>((zi (default,()) (b.1=true) (z0h φ a.class_ (-1) 63)).bind λc=>((zi (default,()) ((b.1&&c.1)=true) (z0h φ a.place 0 (W ((e.network.places.length:Int)-1)))).bind λd=>((zi (default,()) (((b.1&&c.1)&&d.1)=true) (z0h φ a.at_ 0 1073741824)).bind λf=>((zi (default,()) ((((b.1&&c.1)&&d.1)&&f.1)=true) (z0h φ a.count 1 4096)).bind λg=>(some (((((b.1&&c.1)&&d.1)&&f.1)&&g.1),())))))))
def znc(φ:Nat):Fsp TV:=⟨[28,1],[.val 2],kq2 (z31 φ)⟩
def z3r(φ:Nat)(f:Pool)(a:zp):t01:=((z0h φ a.type_ 0 (W ((f.fleet.types.length:Int)-1))).bind λb=>((zi (default,()) (b.1=true) (z0h φ a.class_ 0 63)).bind λc=>((zi (default,()) ((b.1&&c.1)=true) (z0h φ a.place 0 (W ((f.network.places.length:Int)-1)))).bind λd=>((zi (default,()) (((b.1&&c.1)&&d.1)=true) (z0h φ a.from_ 0 a.to)).bind λe=>((zi (default,()) (((((b.1&&c.1)&&d.1)&&e.1)&&(decide ((a.to:Int)<=1073741824)))=true) (z0h φ a.count 1 1000)).bind λg=>((zi (default,()) ((((((b.1&&c.1)&&d.1)&&e.1)&&(decide ((a.to:Int)<=1073741824)))&&g.1)=true) (z0h φ a.weight 0 1000000000)).bind λh=>(some (((((((b.1&&c.1)&&d.1)&&e.1)&&(decide ((a.to:Int)<=1073741824)))&&g.1)&&h.1),()))))))))
def zon(φ:Nat):Fsp TV:=⟨[28,30],[.val 2],kq2 (z3r φ)⟩
def z5u(φ:Nat)(d:t0u)(b e:Int)(c:Bool)(f:t16)(g h:Int)(a:zk)(k:t10)(i:t0a)(j:t0m):t0i:=(ck (((!c)=false)->rg b a.edges.length) (ck (((!c)=false)->rg e a.edges.length) (if((!c)||(decide (((gt a.edges b).minutes:Int)<(gt a.edges e).minutes)))=true then(d f g (W (h+1)) a i (cset z71 j k b)) else(d f g (W (h+1)) a i j))))
def z5v(φ:Nat)(d:t0u)(b e:Int)(c:Bool)(f:t16)(g h:Int)(a:zk)(k:t10)(i:t0a)(j:t0m):t0i:=(ck (((!c)=false)->rg b a.edges.length) (ck (((!c)=false)->rg e a.edges.length) (if((!c)||(decide (((gt a.edges b).minutes:Int)<(gt a.edges e).minutes)))=true then(d f g (W (h+1)) a i (cset z71 j k b)) else(d f g (W (h+1)) a i j))))
def z5t(φ:Nat)(i:t0u)(f o:Int)(n:Bool)(j:Int)(k:t16)(l m:Int)(g:zk)(h:t10)(c:Edge)(d:t0a)(e:t0m):t0i:=(ck (((!n)=false)->rg f g.edges.length) (ck (((!n)=false)->rg o g.edges.length) (if((!n)||(decide (((gt g.edges f).minutes:Int)<(gt g.edges o).minutes)))=true then(if(!(cget z71 (cset z71 e h f) ((upd (upd (λ_=>(default:Int)) 0 c.b) 1 c.a))).isSome)=true then(ck (rg c.b d.length) (ck (rg c.b d.length) (ck ((c.b:Int)=c.b) (ck (fits ((gt d c.b).length+([c.a]).length) 8) (ck (rg c.b d.length) (ck ((c.b:Int)=c.b) (z5u φ i j (((cget z71 (cset z71 e h f) ((upd (upd (λ_=>(default:Int)) 0 c.b) 1 c.a))).getD (default:Int))) ((cget z71 (cset z71 e h f) ((upd (upd (λ_=>(default:Int)) 0 c.b) 1 c.a))).isSome) k l m g ((upd (upd (λ_=>(default:Int)) 0 c.b) 1 c.a)) (zo d c.b ((gt d c.b)++[c.a])) (cset z71 e h f)))))))) else(z5u φ i j (((cget z71 (cset z71 e h f) ((upd (upd (λ_=>(default:Int)) 0 c.b) 1 c.a))).getD (default:Int))) ((cget z71 (cset z71 e h f) ((upd (upd (λ_=>(default:Int)) 0 c.b) 1 c.a))).isSome) k l m g ((upd (upd (λ_=>(default:Int)) 0 c.b) 1 c.a)) d (cset z71 e h f))) else(if(!(cget z71 e ((upd (upd (λ_=>(default:Int)) 0 c.b) 1 c.a))).isSome)=true then(ck (rg c.b d.length) (ck (rg c.b d.length) (ck ((c.b:Int)=c.b) (ck (fits ((gt d c.b).length+([c.a]).length) 8) (ck (rg c.b d.length) (ck ((c.b:Int)=c.b) (z5v φ i j (((cget z71 e ((upd (upd (λ_=>(default:Int)) 0 c.b) 1 c.a))).getD (default:Int))) ((cget z71 e ((upd (upd (λ_=>(default:Int)) 0 c.b) 1 c.a))).isSome) k l m g ((upd (upd (λ_=>(default:Int)) 0 c.b) 1 c.a)) (zo d c.b ((gt d c.b)++[c.a])) e))))))) else(z5v φ i j (((cget z71 e ((upd (upd (λ_=>(default:Int)) 0 c.b) 1 c.a))).getD (default:Int))) ((cget z71 e ((upd (upd (λ_=>(default:Int)) 0 c.b) 1 c.a))).isSome) k l m g ((upd (upd (λ_=>(default:Int)) 0 c.b) 1 c.a)) d e)))))
def z2o(φ:Nat):Nat->Int->Int->t0a->t0m->t0i
 |0,_,_,_,_=>none
 |e+1,c,a,b,d=>(if(decide (a<c))=true then(ck (rg a b.length) (ck (rg a b.length) (ck (a=a) ((zw9 (gt b a)).bind λf=>((z2o φ e) c (W (a+1)) (zo b a f) d))))) else(some ((⟨b,d⟩:zy),0,())))
def z0c(φ:Nat):Nat->t16->Int->Int->zk->t0a->t0m->t0i
 |0,_,_,_,_,_,_=>none
 |h+1,d,g,c,i,e,f=>(if(decide (c<g))=true then(ck (rg c d.length) (if(!(cget z71 f ((upd (upd (λ_=>(default:Int)) 0 ((gt d c).a)) 1 ((gt d c).b)))).isSome)=true then(ck (rg (gt d c).a e.length) (ck (rg (gt d c).a e.length) (ck (((gt d c).a:Int) =(gt d c).a) (ck (fits ((gt e ((gt d c).a)).length+([(gt d c).b]).length) 8) (ck (rg (gt d c).a e.length) (ck (((gt d c).a:Int) =(gt d c).a) (z5t φ (z0c φ h) c (((cget z71 f ((upd (upd (λ_=>(default:Int)) 0 ((gt d c).a)) 1 ((gt d c).b)))).getD (default:Int))) ((cget z71 f ((upd (upd (λ_=>(default:Int)) 0 ((gt d c).a)) 1 ((gt d c).b)))).isSome) c d g c i ((upd (upd (λ_=>(default:Int)) 0 ((gt d c).a)) 1 ((gt d c).b))) (gt d c) ((zo e ((gt d c).a) (((gt e ((gt d c).a))++[(gt d c).b])))) f))))))) else(z5t φ (z0c φ h) c (((cget z71 f ((upd (upd (λ_=>(default:Int)) 0 ((gt d c).a)) 1 ((gt d c).b)))).getD (default:Int))) ((cget z71 f ((upd (upd (λ_=>(default:Int)) 0 ((gt d c).a)) 1 ((gt d c).b)))).isSome) c d g c i ((upd (upd (λ_=>(default:Int)) 0 ((gt d c).a)) 1 ((gt d c).b))) (gt d c) e f))) else(z2o φ φ (e.length:Int) 0 e f))
def z18(φ:Nat):Nat->t00->Int->Int->zk->t0a->t0i
 |0,_,_,_,_,_=>none
 |f+1,c,d,b,a,e=>(if(decide (b<d))=true then(ck (rg b c.length) (if((decide (((gt c b):Int)<0))||(decide (((a.places.length:Int):Int)<=(gt c b))))=true then(some ((⟨e,([] :(List ((Nat->Int)×Int)))⟩:zy),1,())) else((z18 φ f) c d (W (b+1)) a e))) else(ck (zd (a.places.length:Int) 24) (z0c φ φ a.edges (a.edges.length:Int) 0 a (List.replicate ((a.places.length:Int):Int).toNat (default :(List Int))) (([] :(List ((Nat->Int)×Int)))))))
def z4v(φ:Nat)(a:zk)(b:t00):t0i:=((z97 φ a).bind λc=>(if(c.1 !=0)=true then(some ((⟨([]:List (List Int)),([] :(List ((Nat->Int)×Int)))⟩:zy),c.1,())) else(z18 φ φ b (b.length:Int) 0 a ([]:List (List Int)))))
def zpn(φ:Nat):Fsp TV:=⟨[7,24],[.val 34,.val 0],kq2 (z4v φ)⟩
def z2q(φ:Nat)(g :(zk->zy->t00->t0r->t06)):Nat->Int->t00->Int->Int->zk->zy->t00->t0r->t06
 |0,_,_,_,_,_,_,_,_=>none
 |j+1,d,b,h,a,e,f,c,i=>(if(decide (a<h))=true then(ck (rg a b.length) (ck (rg d c.length) (ck (rg (((cget z71 f.line ((upd (upd (λ_=>(default:Int)) 0 d) 1 (gt b a)))).getD (default:Int))) e.edges.length) (ck (rg (gt b a) c.length) (ck (((decide (((gt c (gt b a)):Int)<0))=false)->rg (gt b a) c.length) (if((decide (((gt c (gt b a)):Int)<0))||(decide (((W ((gt c d)+((gt e.edges (((cget z71 f.line ((upd (upd (λ_=>(default:Int)) 0 d) 1 (gt b a)))).getD (default:Int))))).minutes)):Int)<(gt c (gt b a)))))=true then(ck (rg (gt b a) c.length) ((z2q φ g j) d b h (W (a+1)) e f ((zo c (gt b a) ((W ((gt c d)+((gt e.edges (((cget z71 f.line ((upd (upd (λ_=>(default:Int)) 0 d) 1 (gt b a)))).getD (default:Int))))).minutes))))) i)) else((z2q φ g j) d b h (W (a+1)) e f c i))))))) else(g e f c i))
def z2p(φ:Nat)(f :(zk->zy->t00->t0r->t06)):Nat->Int->Int->Int->zk->zy->t00->t0r->t06
 |0,_,_,_,_,_,_,_=>none
 |i+1,b,g,a,h,e,c,d=>(if(decide (a<g))=true then(ck (rg a c.length) (ck (((decide ((0:Int)<=(gt c a)))=true)->rg a d.length) (ck ((((decide ((0:Int)<=(gt c a)))&&(!(gt d a)))=true/\(decide (b<0))=false)->rg a c.length) (ck ((((decide ((0:Int)<=(gt c a)))&&(!(gt d a)))=true/\(decide (b<0))=false)->rg b c.length) (if(((decide ((0:Int)<=(gt c a)))&&(!(gt d a)))&&((decide (b<0))||(decide (((gt c a):Int)<(gt c b)))))=true then((z2p φ f i) a g (W (a+1)) h e c d) else((z2p φ f i) b g (W (a+1)) h e c d)))))) else(if(decide (b<0))=true then(some (c,())) else(ck (rg b d.length) (ck (rg b e.near.length) (z2q φ f φ b (gt e.near b) ((gt e.near b).length:Int) 0 h e c (zo d b true))))))
def z0d(φ:Nat):Nat->zk->zy->t00->t0r->t06
 |0,_,_,_,_=>none
 |b+1,c,d,a,e=>(z2p φ (z0d φ b) φ (-1) (a.length:Int) 0 c d a e)
def z44(φ:Nat):Nat->Int->Int->Int->zk->zy->t00->t0r->t06
 |0,_,_,_,_,_,_,_=>none
 |h+1,c,d,a,e,f,b,g=>(if(decide (a<d))=true then(ck (rg a b.length) ((z44 φ h) c d (W (a+1)) e f (zo b a (-1)) g)) else(ck (rg c b.length) (z0d φ φ e f (zo b c 0) g)))
def zb6(φ:Nat)(a:zk)(b:zy)(c:Int):t06:=(ck (zd (a.places.length:Int) 8) (ck (zd (((List.replicate ((a.places.length:Int):Int).toNat (default:Int)).length:Int)) 1) (z44 φ φ c (((List.replicate ((a.places.length:Int):Int).toNat (default:Int)).length:Int)) 0 a b (List.replicate ((a.places.length:Int):Int).toNat (default:Int)) ((List.replicate (((List.replicate ((a.places.length:Int):Int).toNat (default:Int)).length:Int):Int).toNat (default:Bool))))))
def zpr(φ:Nat):Fsp TV:=⟨[7,34,0],[.val 24],kq3 (zb6 φ)⟩
def z09(φ:Nat)(d:zk)(e a:Int):t0f:=((z4v φ d ([e,a])).bind λb=>(if(b.2.1 !=0)=true then(some (0,b.2.1,())) else((zb6 φ d b.1 e).bind λc=>(ck (rg a c.1.length) (if(decide (((gt c.1 a):Int)<0))=true then(some (0,80,())) else(some ((gt c.1 a),0,())))))))
def zll(φ:Nat):Fsp TV:=⟨[7,0,0],[.val 0,.val 0],kq3 (z09 φ)⟩
def zj9(φ:Nat)(a:Wash)(b c:Int):t01:=(some ((((a.from_:Int)==b)&&((a.to:Int)==c)),()))
def zov(φ:Nat):Csp TV:=⟨[15],[.b (.val 0),.b (.val 0)],[.val 2],λz b=>zj9 φ z.1 b.1 b.2.1⟩
def z5r(φ:Nat):Nat->t1c->Int->Int->Int->Int->z2h->t0f
 |0,_,_,_,_,_,_=>none
 |g+1,b,d,a,e,f,c=>(if(decide (a<d))=true then(ck (rg a b.length) ((zj9 φ (gt b a) e f).bind λh=>(if h.1=true then(if(decide (a<0))=true then(some (0,0,())) else(ck (rg a c.washes.length) (some ((gt c.washes a).minutes,0,())))) else((z5r φ g) b d (W (a+1)) e f c)))) else(some (0,0,())))
def zbt(φ:Nat)(a:z2h)(b c:Int):t0f:=((z9n φ a).bind λd=>(if(d.1 !=0)=true then(some (0,d.1,())) else((zx φ b 0 63).bind λe=>((zi (default,()) ((!e.1)=false) (zx φ c 0 63)).bind λf=>(if((!e.1)||(!f.1))=true then(some (0,1,())) else(z5r φ φ a.washes (a.washes.length:Int) 0 b c a))))))
def zu7(φ:Nat):Fsp TV:=⟨[17,0,0],[.val 0,.val 0],kq3 (zbt φ)⟩
def z3a(φ:Nat)(d :(Int->Bool->z2h->t10->t0y)):Nat->Int->Bool->t12->Int->Int->z2h->t10->t0y
 |0,_,_,_,_,_,_,_=>none
 |h+1,e,i,b,f,a,g,c=>(if(decide (a<f))=true then(ck (rg a b.length) (ck (rg (gt b a).wanted 32) (ck (rg (gt b a).wanted 32) (ck (((decide ((0:Int)<=(c (((gt b a).wanted:Int).toNat))))=true)->rg (gt b a).given 32) (ck (((decide ((0:Int)<=(c (((gt b a).wanted:Int).toNat))))=true/\(decide (((c (((gt b a).given:Int).toNat)):Int)<0))=false)->rg (gt b a).given 32) (if((decide ((0:Int)<=(c (((gt b a).wanted:Int).toNat))))&&((decide (((c (((gt b a).given:Int).toNat)):Int)<0))||(decide (((W ((c (((gt b a).wanted:Int).toNat))+(gt b a).cost)):Int)<(c (((gt b a).given:Int).toNat))))))=true then(ck (rg (gt b a).given 32) ((z3a φ d h) e true b f (W (a+1)) g ((upd c (((gt b a).given:Int).toNat) ((W ((c (((gt b a).wanted:Int).toNat))+(gt b a).cost))))))) else((z3a φ d h) e i b f (W (a+1)) g c))))))) else(d e i g c))
def z3b(φ:Nat):Nat->Int->Int->Int->t10->t12->t0y
 |0,_,_,_,_,_=>none
 |f+1,c,e,a,b,d=>(if(decide (a<e))=true then(ck (rg a 32) (if(decide ((0:Int)<=(b (a.toNat))))=true then(ck (rg a 32) (ck (fits (d.length+([(⟨c,a,b (a.toNat)⟩:Swap)]).length) 24) ((z3b φ f) c e (W (a+1)) b ((d++[(⟨c,a,b (a.toNat)⟩:Swap)]))))) else((z3b φ f) c e (W (a+1)) b d))) else(some (d,0,())))
def z38(φ:Nat):Nat->Int->Bool->z2h->t10->t0y
 |0,_,_,_,_=>none
 |d+1,b,e,a,c=>(if e=true then(z3a φ (z38 φ d) φ b false a.swaps (a.swaps.length:Int) 0 a c) else(z3b φ φ b (a.types.length:Int) 0 c ([]:List Swap)))
def z6n(φ:Nat):Nat->Int->Int->z2h->t10->t0y
 |0,_,_,_,_=>none
 |e+1,a,b,c,d=>(if(decide (b<32))=true then(ck (rg b 32) ((z6n φ e) a (W (b+1)) c (upd d (b.toNat) (-1)))) else(ck (rg a 32) (z38 φ φ a true c (upd d (a.toNat) 0))))
def zeo(φ:Nat)(a:z2h)(b:Int):t0y:=((z9n φ a).bind λc=>(if(c.1 !=0)=true then(some (([]:List Swap),c.1,())) else((zx φ b 0 (W ((a.types.length:Int)-1))).bind λd=>(if(!d.1)=true then(some (([]:List Swap),90,())) else(z6n φ φ b 0 a (λ_=>(default:Int)))))))
def zu9(φ:Nat):Fsp TV:=⟨[17,0],[.val 14,.val 0],kq2 (zeo φ)⟩
def zg0(φ:Nat)(a:Swap)(b:za):t01:=(some (((a.given:Int)==b.type_),()))
def zl3(φ:Nat):Csp TV:=⟨[13],[.b (.val 1)],[.val 2],λz b=>zg0 φ z.1 b.1⟩
def z41(φ:Nat):Nat->t12->Int->Int->Int->t12->za->zp->t0p
 |0,_,_,_,_,_,_,_=>none
 |h+1,f,g,a,b,c,d,e=>(if(decide (a<g))=true then(ck (rg a f.length) ((zg0 φ (gt f a) d).bind λi=>(if i.1=true then(ck ((((decide (a<0))||(decide ((e.to:Int)<(W (d.at_+b)))))=false)->rg a c.length) (if(((decide (a<0))||(decide ((e.to:Int)<(W (d.at_+b)))))||(decide ((1000000000:Int)<(W (b+(gt c a).cost)))))=true then(some (0,false,())) else(ck (rg a c.length) (some ((W (b+(gt c a).cost)),true,()))))) else((z41 φ h) f g (W (a+1)) b c d e)))) else(ck (((true||(decide ((e.to:Int)<(W (d.at_+b)))))=false)->rg (-1) c.length) (if((true||(decide ((e.to:Int)<(W (d.at_+b)))))||(decide ((1000000000:Int)<(W (b+(gt c (-1)).cost)))))=true then(some (0,false,())) else(ck (rg (-1) c.length) (some ((W (b+(gt c (-1)).cost)),true,()))))))
def z2b(φ:Nat)(c:Int)(d:Pool)(e:za)(b:zp):t0p:=((zeo φ d.fleet b.type_).bind λa=>(z41 φ φ a.1 (a.1.length:Int) 0 c a.1 e b))
def z1s(φ:Nat)(b:Pool)(a:za)(c:zp):t0p:=((z09 φ b.network a.place c.place).bind λd=>(ck (((d.2.1 !=0)=false)->rg a.type_ b.fleet.types.length) (ck (((d.2.1 !=0)=false)->0<=c.class_) (if((d.2.1 !=0)||(((U ((BitVec.ofInt 64 (((gt b.fleet.types a.type_).classes:Int).fdiv (2 ^ (min (c.class_:Int).toNat 64)))&&& BitVec.ofInt 64 1).toNat)):Int)==0))=true then(some (0,false,())) else(if(decide ((0:Int)<=a.class_))=true then((zbt φ b.fleet a.class_ c.class_).bind λe=>(z2b φ (W (d.1+e.1)) b a c)) else(z2b φ d.1 b a c))))))
def zoo(φ:Nat):Fsp TV:=⟨[28,1,30],[.val 0,.val 2],kq3 (z1s φ)⟩
def zab(φ:Nat)(a:Pool)(b:za)(c:zp):t19:=((z0z φ a).bind λd=>(if(d.1 !=0)=true then(some (0,false,d.1,())) else((z31 φ a b).bind λe=>((zi (default,()) ((!e.1)=false) (z3r φ a c)).bind λg=>(if((!e.1)||(!g.1))=true then(some (0,false,1,())) else((z1s φ a b c).bind λf=>(some (f.1,f.2.1,0,()))))))))
def zrb(φ:Nat):Fsp TV:=⟨[28,1,30],[.val 0,.val 2,.val 0],kq3 (zab φ)⟩
def zc0(φ:Nat)(c d e b:Int):t01:=((zbf φ).bind λf=>((zab φ f.1 (⟨c,1,0,100,1⟩:za) (⟨d,2,1,0,e,1,0⟩:zp)).bind λa=>(some ((((a.2.2.1==0)&&(a.2.1==(decide ((0:Int)<=b))))&&(a.1==(max2 0 b))),()))))
def zul(φ:Nat):Fsp TV:=⟨[0,0,0,0],[.val 2],kq4 (zc0 φ)⟩
def z15(φ:Nat)(b:t00)(a:t07):t0d:=(if(decide ((2048:Int)<(a.length:Int)))=true then(some ((⟨([]:List Int),([]:List Arc)⟩:zq),2,())) else(some ((⟨b,a⟩:zq),0,())))
def z14(φ:Nat)(j :(Int->Int->t09->Int->Int->t09->t0c->Pool->t00->t07->t0d)):Nat->Int->Int->Int->t09->Int->Int->t0c->Int->Int->t09->t0c->Pool->za->t00->t07->t0d
 |0,_,_,_,_,_,_,_,_,_,_,_,_,_,_,_=>none
 |r+1,k,l,e,m,n,o,b,p,a,c,q,g,d,h,f=>(if(decide (a<p))=true then(ck (rg a b.length) ((z1s φ g d (gt b a)).bind λi=>(if i.2.1=true then(ck (fits (f.length+([(⟨e,W ((c.length:Int)+a),min2 d.count ((gt b a).count),i.1⟩:Arc)]).length) 32) (if(!true)=true then(z15 φ h ((f++[(⟨e,W ((c.length:Int)+a),min2 d.count ((gt b a).count),i.1⟩:Arc)]))) else((z14 φ j r) k l e m n o b p (W (a+1)) c q g d h ((f++[(⟨e,W ((c.length:Int)+a),min2 d.count ((gt b a).count),i.1⟩:Arc)]))))) else((z14 φ j r) k l e m n o b p (W (a+1)) c q g d h f)))) else(j k l m n (W (o+1)) c q g h f))
def z1q(φ:Nat):Nat->Int->Int->t09->Int->Int->t00->t07->t0d
 |0,_,_,_,_,_,_,_=>none
 |h+1,b,e,c,g,a,f,d=>(if(decide (a<g))=true then(ck (rg a c.length) (ck (fits (d.length+([(⟨a,W (b+1),(gt c a).count,0⟩:Arc)]).length) 32) (if(!true)=true then(z15 φ f (d++[(⟨a,W (b+1),(gt c a).count,0⟩:Arc)])) else((z1q φ h) b e c g (W (a+1)) f (d++[(⟨a,W (b+1),(gt c a).count,0⟩:Arc)]))))) else(ck (fits (d.length+([(⟨b,W (b+1),e,0⟩:Arc)]).length) 32) (z15 φ f (d++[(⟨b,W (b+1),e,0⟩:Arc)]))))
def z0y(φ:Nat):Nat->Int->Int->t0c->Int->Int->t09->t00->t07->t0d
 |0,_,_,_,_,_,_,_,_=>none
 |i+1,d,g,b,h,a,c,f,e=>(if(decide (a<h))=true then(ck (rg a b.length) (ck (fits (e.length+([(⟨d,W ((c.length:Int)+a),(gt b a).count,(gt b a).weight⟩:Arc)]).length) 32) (if(!true)=true then(z15 φ f ((e++[(⟨d,W ((c.length:Int)+a),(gt b a).count,(gt b a).weight⟩:Arc)]))) else((z0y φ i) d (W (g+(gt b a).count)) b h (W (a+1)) c f ((e++[(⟨d,W ((c.length:Int)+a),(gt b a).count,(gt b a).weight⟩:Arc)])))))) else(z1q φ φ d g c (c.length:Int) 0 f e))
def z1p(φ:Nat):Nat->Int->Int->t09->Int->Int->t09->t0c->Pool->t00->t07->t0d
 |0,_,_,_,_,_,_,_,_,_,_=>none
 |j+1,d,e,c,f,a,g,b,k,h,i=>(if(decide (a<f))=true then(ck (rg a c.length) (z14 φ (z1p φ j) φ d e a c f a b (b.length:Int) 0 g b k (gt c a) h i)) else(z0y φ φ d e b (b.length:Int) 0 g h i))
def z1o(φ:Nat):Nat->t09->t0c->Int->Int->t0c->Int->Int->Pool->t00->t07->t0d
 |0,_,_,_,_,_,_,_,_,_,_=>none
 |k+1,c,g,e,f,b,i,a,h,d,j=>(if(decide (a<i))=true then(ck (rg a b.length) ((z3r φ h (gt b a)).bind λl=>(if(!l.1)=true then(some ((⟨([]:List Int),([]:List Arc)⟩:zq),1,())) else(ck (fits (d.length+([(W (0-(gt b a).count))]).length) 8) ((z1o φ k) c g e (W (f+(gt b a).count)) b i (W (a+1)) h ((d++[(W (0-(gt b a).count))])) j))))) else(ck (fits (d.length+([f,(W (0-e))]).length) 8) (if(decide ((256:Int)<((d++[f,(W (0-e))]).length:Int)))=true then(some ((⟨([]:List Int),([]:List Arc)⟩:zq),2,())) else(z1p φ φ (W ((c.length:Int)+(g.length:Int))) 0 c (c.length:Int) 0 c g h (d++[f,(W (0-e))]) j))))
def z36(φ:Nat):Nat->t09->t0c->Int->Int->t09->Int->Int->Pool->t00->t07->t0d
 |0,_,_,_,_,_,_,_,_,_,_=>none
 |k+1,f,c,g,h,b,i,a,d,e,j=>(if(decide (a<i))=true then(ck (rg a b.length) ((z31 φ d (gt b a)).bind λl=>(if(!l.1)=true then(some ((⟨([]:List Int),([]:List Arc)⟩:zq),1,())) else(ck (fits (e.length+([(gt b a).count]).length) 8) ((z36 φ k) f c (W (g+(gt b a).count)) h b i (W (a+1)) d (e++[(gt b a).count]) j))))) else(z1o φ φ f c g h c (c.length:Int) 0 d e j))
def zbn(φ:Nat)(b:Pool)(a:t09)(d:t0c):t0d:=((z0z φ b).bind λc=>(if(c.1 !=0)=true then(some ((⟨([]:List Int),([]:List Arc)⟩:zq),c.1,())) else(z36 φ φ a d 0 0 a (a.length:Int) 0 b ([]:List Int) ([]:List Arc))))
def zu0(φ:Nat):Fsp TV:=⟨[28,36,37],[.val 40,.val 0],kq3 (zbn φ)⟩
def z7g(φ:Nat)(a b c:Int):t01:=(some (((decide (b<=a))&&(decide (a<=c))),()))
def zri(φ:Nat):Fsp TV:=⟨[0,0,0],[.val 2],kq3 (z7g φ)⟩
def zdi(φ:Nat):Nat->Int->t07->Int->Int->zq->t03
 |0,_,_,_,_,_=>none
 |i+1,f,b,g,a,d=>(if(decide (a<g))=true then(ck (rg a b.length) ((z7g φ ((gt b a).from_) 0 (W ((d.supply.length:Int)-1))).bind λc=>((zi (default,()) ((!c.1)=false) (z7g φ ((gt b a).to) 0 (W ((d.supply.length:Int)-1)))).bind λe=>((zi (default,()) ((((!c.1)||(!e.1))||(((gt b a).from_:Int)==(gt b a).to))=false) (z7g φ ((gt b a).cap) 0 1000000000)).bind λh=>((zi (default,()) (((((!c.1)||(!e.1))||(((gt b a).from_:Int)==(gt b a).to))||(!h.1))=false) (z7g φ ((gt b a).cost) 0 1000000000)).bind λj=>(if(((((!c.1)||(!e.1))||(((gt b a).from_:Int)==(gt b a).to))||(!h.1))||(!j.1))=true then(some (1,())) else((zdi φ i) f b g (W (a+1)) d))))))) else(if(f !=0)=true then(some (360,())) else(some (0,()))))
def zep(φ:Nat):Nat->Int->t00->Int->Int->zq->t03
 |0,_,_,_,_,_=>none
 |f+1,d,b,e,a,c=>(if(decide (a<e))=true then(ck (rg a b.length) ((z7g φ (gt b a) (-1000000000) 1000000000).bind λg=>(if(!g.1)=true then(some (1,())) else((zep φ f) (W (d+(gt b a))) b e (W (a+1)) c)))) else(zdi φ φ d c.arcs (c.arcs.length:Int) 0 c))
def zlc(φ:Nat)(a:zq):t03:=(if((decide ((256:Int)<(a.supply.length:Int)))||(decide ((2048:Int)<(a.arcs.length:Int))))=true then(some (2,())) else(zep φ φ 0 a.supply (a.supply.length:Int) 0 a))
def zxp(φ:Nat):Fsp TV:=⟨[40],[.val 0],λz=>zlc φ z.1⟩
def zdn(φ:Nat)(a:Bool)(d:t00)(e:t07)(f g b h c:t00)(i j:t0a):t02:=(if a=true then(some ((⟨([]:List Int),([]:List Int)⟩:Flow),360,())) else(some ((⟨b,c⟩:Flow),0,())))
def zdl(φ:Nat):Nat->Int->Int->t00->t00->t07->t00->t00->t00->t00->t0a->t0a->t02
 |0,_,_,_,_,_,_,_,_,_,_,_=>none
 |l+1,k,b,a,c,d,e,f,g,h,i,j=>(if(decide (b<k))=true then(ck (rg b a.length) (if(((gt a b):Int) !=0)=true then(zdn φ (!false) c d e f g a h i j) else((zdl φ l) k (W (b+1)) a c d e f g h i j))) else(zdn φ (!true) c d e f g a h i j))
def zdo(φ:Nat)(j:t04)(k:Bool)(b:t00)(c:t07)(d a e:t00)(f g:t0a)(h i:t00):t02:=(if k=true then(j b c d a e f g h i) else(zdl φ φ (a.length:Int) 0 a b c h i d e f g))
def zbx(φ:Nat)(c :(Int->Int->t00->t07->t00->t0s->t00->t00->t00->t0a->t0a->t00->t00->t02))(d b:Int)(e:t00)(f:t07)(a:t00)(g:t0s)(h i j:t00)(k l:t0a)(m n:t00):t02:=(ck (rg b a.length) (c d (gt a b) e f a g h i j k l m n))
def z8w(φ:Nat)(g:t04):Nat->Int->Int->t00->t07->t00->t0s->t00->t00->t00->t0a->t0a->t00->t00->t02
 |0,_,_,_,_,_,_,_,_,_,_,_,_,_=>none
 |o+1,f,a,h,c,e,b,d,i,j,k,l,m,n=>(ck (rg a e.length) (if(decide ((0:Int)<=(gt e a)))=true then(ck (rg a b.length) (ck (rg (gt b a).arc c.length) (ck (((((gt c ((gt b a).arc)).to:Int)==a)=true)->rg (gt b a).arc c.length) (ck (((((gt c ((gt b a).arc)).to:Int)==a)=true)->rg a e.length) (if((((gt c ((gt b a).arc)).to:Int)==a)&&(((gt c ((gt b a).arc)).from_:Int)==(gt e a)))=true then(ck (rg (gt b a).arc d.length) (ck (rg (gt b a).arc d.length) (zbx φ (z8w φ g o) f a h c e b ((zo d ((gt b a).arc) ((W ((gt d ((gt b a).arc))+f))))) i j k l m n))) else(ck (rg (gt b a).arc d.length) (ck (rg (gt b a).arc d.length) (zbx φ (z8w φ g o) f a h c e b ((zo d ((gt b a).arc) ((W ((gt d ((gt b a).arc))-f))))) i j k l m n)))))))) else(zdo φ g true h c d i j k l m n)))
def zbw(φ:Nat)(g:t04):Nat->Int->Int->Int->t00->t07->t00->t0s->t00->t00->t00->t0a->t0a->t00->t00->t02
 |0,_,_,_,_,_,_,_,_,_,_,_,_,_,_=>none
 |p+1,d,c,a,h,i,e,f,j,b,k,l,m,n,o=>(ck (rg a e.length) (if(decide ((0:Int)<=(gt e a)))=true then(ck (rg a f.length) (ck (rg a e.length) ((zbw φ g p) d (min2 c ((gt f a).room)) (gt e a) h i e f j b k l m n o))) else(ck (rg a b.length) (ck (rg a b.length) (ck (rg a b.length) (ck (rg d (((zo b a ((W ((gt b a)-(min2 c (gt b a))))))).length)) (ck (rg d (((zo b a ((W ((gt b a)-(min2 c (gt b a))))))).length)) (z8w φ g φ (min2 c (gt b a)) d h i e f j ((zo ((zo b a ((W ((gt b a)-(min2 c (gt b a))))))) d ((W ((gt ((zo b a ((W ((gt b a)-(min2 c (gt b a))))))) d)+(min2 c (gt b a))))))) k l m n o))))))))
def zbv(φ:Nat)(f:t04):Nat->Int->Int->Int->Int->t00->t07->t00->t0s->t00->t00->t00->t00->t0a->t0a->t00->t00->t02
 |0,_,_,_,_,_,_,_,_,_,_,_,_,_,_,_,_=>none
 |r+1,b,g,h,a,i,j,k,l,e,m,d,c,n,o,p,q=>(if(decide (a<h))=true then(ck (rg a e.length) (ck (rg a c.length) (ck (rg a c.length) ((zbv φ f r) b g h (W (a+1)) i j k l e m d ((zo c a ((W ((gt c a)+(min2 (gt e a) g)))))) n o p q)))) else(ck (rg b d.length) (zbw φ f φ b (W (0-(gt d b))) b i j k l m d c n o p q)))
def z7d(φ:Nat)(e:t04):Nat->Int->Int->Int->Int->t00->t07->t00->t00->t0s->t00->t00->t00->t0a->t0a->t00->t00->t02
 |0,_,_,_,_,_,_,_,_,_,_,_,_,_,_,_,_=>none
 |r+1,c,n,o,a,f,g,b,p,q,h,d,i,j,k,l,m=>(if(decide (a<o))=true then(ck (rg a b.length) (if(decide (((gt b a):Int)<1152921504606846976))=true then(ck (rg a d.length) (ck (((decide (((gt d a):Int)<0))=true/\(decide (c<0))=false)->rg c b.length) (if((decide (((gt d a):Int)<0))&&((decide (c<0))||(decide (((gt b a):Int)<(gt b c)))))=true then((z7d φ e r) a (max2 n (gt b a)) o (W (a+1)) f g b p q h d i j k l m) else((z7d φ e r) c (max2 n (gt b a)) o (W (a+1)) f g b p q h d i j k l m)))) else((z7d φ e r) c n o (W (a+1)) f g b p q h d i j k l m))) else(if(decide (c<0))=true then(zdo φ e false f g h d i j k l m) else(zbv φ e φ c n (b.length:Int) 0 f g p q b h d i j k l m)))
def z17(φ:Nat)(b:t04)(c:t00)(d:t07)(a e:t00)(f:t0s)(g h i:t00)(j k:t0a)(l m:t00):t02:=(z7d φ b φ (-1) 0 (a.length:Int) 0 c d a e f g h i j k l m)
def z8x(φ:Nat)(a:t04)(b:t00)(c:t07)(d e:t00)(f:t0s)(g h i:t00)(j k:t0a)(l m:t00):t02:=(z17 φ a b c d e f g h i j k l m)
def zap(φ:Nat)(a:t04)(b:t00)(c:t07)(d e:t00)(f:t0s)(g h i:t00)(j k:t0a)(l m:t00):Option t0o:=(catL [(catL [(catL [(some [(z17 φ a b c d e f g h i j k l m)])]),(catL [(catL [(some [(z17 φ a b c d e f g h i j k l m)])]),(catL [(catL [(some [(z17 φ a b c d e f g h i j k l m)])])])])]),(catL [(catL [(some [(z17 φ a b c d e f g h i j k l m)])]),(catL [(catL [(some [(z17 φ a b c d e f g h i j k l m)])])])]),(catL [(catL [(catL [(some [(z17 φ a b c d e f g h i j k l m)])]),(catL [(catL [(some [(z17 φ a b c d e f g h i j k l m)])])])]),(catL [(catL [(some [(z17 φ a b c d e f g h i j k l m)])])])])])
def z7f(φ:Nat)(k:t0k):Nat->Int->Int->Int->Int->t00->t00->t07->t0r->Int->t00->t00->t00->t0a->t0a->Int->t00->t00->t0s->t00->t00->t02
 |0,_,_,_,_,_,_,_,_,_,_,_,_,_,_,_,_,_,_,_,_=>none
 |v+1,u,b,l,g,a,m,c,n,h,e,o,d,p,q,r,f,i,j,s,t=>(if(decide (b<u))=true then(ck (rg b a.length) (ck (rg (gt a b) c.length) (ck (rg (gt a b) e.length) (ck (((decide ((0:Int)<(gt e (gt a b))))=true)->rg g d.length) (ck (((decide ((0:Int)<(gt e (gt a b))))=true)->rg (gt c (gt a b)).from_ d.length) (ck (((decide ((0:Int)<(gt e (gt a b))))=true)->rg (gt a b) e.length) (if(decide ((0:Int)<(gt e (gt a b))))=true then(ck (rg h f.length) (ck (rg (gt c (gt a b)).from_ f.length) (if(decide (((W ((gt f h)+(W ((W ((gt d g)-(gt c (gt a b)).cost))-(gt d ((gt c (gt a b)).from_)))))):Int)<(gt f ((gt c (gt a b)).from_))))=true then(ck (rg (gt c (gt a b)).from_ f.length) (ck (rg (gt c (gt a b)).from_ i.length) (ck (rg (gt c (gt a b)).from_ j.length) (if(!true)=true then(k l m c n e o d p (zo q r a) ((zo f ((gt c (gt a b)).from_) ((W ((gt f h)+(W ((W ((gt d g)-(gt c (gt a b)).cost))-(gt d ((gt c (gt a b)).from_))))))))) ((zo i ((gt c (gt a b)).from_) h)) ((zo j ((gt c (gt a b)).from_) (((⟨gt a b,(gt c (gt a b)).from_,W ((W ((gt d g)-(gt c (gt a b)).cost))-(gt d ((gt c (gt a b)).from_))),gt e (gt a b)⟩:zn))))) s t) else((z7f φ k v) u (W (b+1)) l g a m c n h e o d p q r ((zo f ((gt c (gt a b)).from_) ((W ((gt f h)+(W ((W ((gt d g)-(gt c (gt a b)).cost))-(gt d ((gt c (gt a b)).from_))))))))) ((zo i ((gt c (gt a b)).from_) h)) ((zo j ((gt c (gt a b)).from_) (((⟨gt a b,(gt c (gt a b)).from_,W ((W ((gt d g)-(gt c (gt a b)).cost))-(gt d ((gt c (gt a b)).from_))),gt e (gt a b)⟩:zn))))) s t))))) else(if(!true)=true then(k l m c n e o d p (zo q r a) f i j s t) else((z7f φ k v) u (W (b+1)) l g a m c n h e o d p q r f i j s t))))) else((z7f φ k v) u (W (b+1)) l g a m c n h e o d p q r f i j s t)))))))) else(k l m c n e o d p (zo q r a) f i j s t))
def z7e(φ:Nat)(l:t0k):Nat->Int->Int->Int->Int->t00->t00->t07->t0r->Int->t00->t00->t00->t0a->Int->t0a->t00->t00->t0s->t00->t00->t02
 |0,_,_,_,_,_,_,_,_,_,_,_,_,_,_,_,_,_,_,_,_=>none
 |v+1,u,b,m,e,a,n,c,o,h,g,p,d,q,r,i,f,j,k,s,t=>(if(decide (b<u))=true then(ck (rg b a.length) (ck (rg (gt a b) c.length) (ck (rg (gt a b) g.length) (ck (((decide ((0:Int)<(W ((gt c (gt a b)).cap-(gt g (gt a b))))))=true)->rg e d.length) (ck (((decide ((0:Int)<(W ((gt c (gt a b)).cap-(gt g (gt a b))))))=true)->rg (gt c (gt a b)).to d.length) (if(decide ((0:Int)<(W ((gt c (gt a b)).cap-(gt g (gt a b))))))=true then(ck (rg h f.length) (ck (rg (gt c (gt a b)).to f.length) (if(decide (((W ((gt f h)+(W ((W ((gt c (gt a b)).cost+(gt d e)))-(gt d ((gt c (gt a b)).to)))))):Int)<(gt f ((gt c (gt a b)).to))))=true then(ck (rg (gt c (gt a b)).to f.length) (ck (rg (gt c (gt a b)).to j.length) (ck (rg (gt c (gt a b)).to k.length) (if(!true)=true then(l m n c o g p d (zo q r a) i ((zo f ((gt c (gt a b)).to) ((W ((gt f h)+(W ((W ((gt c (gt a b)).cost+(gt d e)))-(gt d ((gt c (gt a b)).to))))))))) ((zo j ((gt c (gt a b)).to) h)) ((zo k ((gt c (gt a b)).to) (((⟨gt a b,(gt c (gt a b)).to,W ((W ((gt c (gt a b)).cost+(gt d e)))-(gt d ((gt c (gt a b)).to))),W ((gt c (gt a b)).cap-(gt g (gt a b)))⟩:zn))))) s t) else((z7e φ l v) u (W (b+1)) m e a n c o h g p d q r i ((zo f ((gt c (gt a b)).to) ((W ((gt f h)+(W ((W ((gt c (gt a b)).cost+(gt d e)))-(gt d ((gt c (gt a b)).to))))))))) ((zo j ((gt c (gt a b)).to) h)) ((zo k ((gt c (gt a b)).to) (((⟨gt a b,(gt c (gt a b)).to,W ((W ((gt c (gt a b)).cost+(gt d e)))-(gt d ((gt c (gt a b)).to))),W ((gt c (gt a b)).cap-(gt g (gt a b)))⟩:zn))))) s t))))) else(if(!true)=true then(l m n c o g p d (zo q r a) i f j k s t) else((z7e φ l v) u (W (b+1)) m e a n c o h g p d q r i f j k s t))))) else((z7e φ l v) u (W (b+1)) m e a n c o h g p d q r i f j k s t))))))) else(ck (rg e i.length) (ck (rg e i.length) (ck (e=e) (z7f φ l φ ((gt i e).length:Int) 0 m e (gt i e) n c o h g p d (zo q r a) i e f j k s t)))))
def z8v(φ:Nat)(p:t04)(q:t0k):Nat->Int->Int->Int->t00->t07->t0r->Int->t00->t00->t00->t0a->t0a->t00->t00->t0s->t00->t00->t02
 |0,_,_,_,_,_,_,_,_,_,_,_,_,_,_,_,_,_=>none
 |t+1,r,s,b,f,g,d,a,h,i,j,e,k,c,l,m,n,o=>(if(decide (b<s))=true then(ck (rg b d.length) (ck (((!(gt d b))=true)->rg b c.length) (ck ((((!(gt d b))&&(decide (((gt c b):Int)<1152921504606846976)))=true/\(decide (a<0))=false)->rg b c.length) (ck ((((!(gt d b))&&(decide (((gt c b):Int)<1152921504606846976)))=true/\(decide (a<0))=false)->rg a c.length) (if(((!(gt d b))&&(decide (((gt c b):Int)<1152921504606846976)))&&((decide (a<0))||(decide (((gt c b):Int)<(gt c a)))))=true then((z8v φ p q t) r s (W (b+1)) f g d b h i j e k c l m n o) else((z8v φ p q t) r s (W (b+1)) f g d a h i j e k c l m n o)))))) else(if(decide (a<0))=true then(z8x φ p f g c l m h i j e k n o) else(ck (rg a d.length) (ck (rg a e.length) (ck (rg a e.length) (ck (a=a) (z7e φ q φ ((gt e a).length:Int) 0 r a (gt e a) f g (zo d a true) a h i j e a k c l m n o)))))))
def zbu(φ:Nat)(a:t04):Nat->Int->t00->t07->t0r->t00->t00->t00->t0a->t0a->t00->t00->t0s->t00->t00->t02
 |0,_,_,_,_,_,_,_,_,_,_,_,_,_,_=>none
 |c+1,b,d,e,f,g,h,i,j,k,l,m,n,o,p=>(z8v φ a (zbu φ a c) φ b b 0 d e f (-1) g h i j k l m n o p)
def z8u(φ:Nat)(f:t04):Nat->Int->Int->Int->t00->t07->t00->t00->t00->t0a->t0a->t00->t00->t0s->t00->t00->t02
 |0,_,_,_,_,_,_,_,_,_,_,_,_,_,_,_=>none
 |q+1,b,g,a,h,i,j,c,k,l,m,d,e,n,o,p=>(if(decide (a<g))=true then(ck (rg a d.length) (ck (rg a e.length) (ck (rg a c.length) (if(decide ((0:Int)<(gt c a)))=true then(ck (rg a (zo d a 1152921504606846976).length) ((z8u φ f q) b g (W (a+1)) h i j c k l m (zo (zo d a 1152921504606846976) a 0) (zo e a (-1)) n o p)) else((z8u φ f q) b g (W (a+1)) h i j c k l m (zo d a 1152921504606846976) (zo e a (-1)) n o p))))) else(ck (zd b 1) (zbu φ f φ b h i (List.replicate b.toNat (default:Bool)) j c k l m d e n o p)))
end Px
end
section
set_option maxHeartbeats 4000000
set_option maxRecDepth 100000
namespace Px
open Go Go.RowKit
def z06(φ:Nat)(b:t04)(a:Int)(c:t00)(d:t07)(e f g:t00)(h i:t0a)(j k:t00)(l:t0s)(m n:t00):t02:=(z8u φ b φ a a 0 c d e f g h i j k l m n)
def z8y(φ:Nat)(b:t04)(a:Int)(c:t00)(d:t07)(e f g:t00)(h i:t0a)(l m:t00)(n:t0s)(j k:t00):t02:=(ck (zd a 8) (ck (zd a 8) (ck (zd a 32) (z06 φ b a c d e f g h i (List.replicate a.toNat (default:Int)) (List.replicate a.toNat (default:Int)) (List.replicate a.toNat (default:zn)) j k))))
def zaq(φ:Nat)(b:t04)(a:Int)(c:t00)(d:t07)(e f g:t00)(h i:t0a)(l m:t00)(n:t0s)(j k:t00):Option t0o:=(catL [(ck (zd a 8) (catL [(ck (zd a 8) (catL [(ck (zd a 32) (catL [(some [(z06 φ b a c d e f g h i (List.replicate a.toNat (default:Int)) (List.replicate a.toNat (default:Int)) (List.replicate a.toNat (default:zn)) j k)])])),(catL [(ck (zd a 32) (catL [(some [(z06 φ b a c d e f g h i (List.replicate a.toNat (default:Int)) (List.replicate a.toNat (default:Int)) (List.replicate a.toNat (default:zn)) j k)])])),(catL [(ck (zd a 32) (catL [(some [(z06 φ b a c d e f g h i (List.replicate a.toNat (default:Int)) (List.replicate a.toNat (default:Int)) (List.replicate a.toNat (default:zn)) j k)])]))])])])),(ck (zd a 32) (catL [(ck (zd a 8) (catL [(some [(z06 φ b a c d e f g h i (List.replicate a.toNat (default:Int)) (List.replicate a.toNat (default:Int)) (List.replicate a.toNat (default:zn)) j k)])])),(catL [(ck (zd a 8) (catL [(some [(z06 φ b a c d e f g h i (List.replicate a.toNat (default:Int)) (List.replicate a.toNat (default:Int)) (List.replicate a.toNat (default:zn)) j k)])]))])])),(catL [(ck (zd a 8) (catL [(ck (zd a 32) (catL [(some [(z06 φ b a c d e f g h i (List.replicate a.toNat (default:Int)) (List.replicate a.toNat (default:Int)) (List.replicate a.toNat (default:zn)) j k)])])),(catL [(ck (zd a 32) (catL [(some [(z06 φ b a c d e f g h i (List.replicate a.toNat (default:Int)) (List.replicate a.toNat (default:Int)) (List.replicate a.toNat (default:zn)) j k)])]))])])),(ck (zd a 32) (catL [(ck (zd a 8) (catL [(some [(z06 φ b a c d e f g h i (List.replicate a.toNat (default:Int)) (List.replicate a.toNat (default:Int)) (List.replicate a.toNat (default:zn)) j k)])]))]))])])),(ck (zd a 8) (catL [(ck (zd a 8) (catL [(ck (zd a 32) (catL [(some [(z06 φ b a c d e f g h i (List.replicate a.toNat (default:Int)) (List.replicate a.toNat (default:Int)) (List.replicate a.toNat (default:zn)) j k)])])),(catL [(ck (zd a 32) (catL [(some [(z06 φ b a c d e f g h i (List.replicate a.toNat (default:Int)) (List.replicate a.toNat (default:Int)) (List.replicate a.toNat (default:zn)) j k)])])),(catL [(ck (zd a 32) (catL [(some [(z06 φ b a c d e f g h i (List.replicate a.toNat (default:Int)) (List.replicate a.toNat (default:Int)) (List.replicate a.toNat (default:zn)) j k)])]))])])])),(ck (zd a 32) (catL [(ck (zd a 8) (catL [(some [(z06 φ b a c d e f g h i (List.replicate a.toNat (default:Int)) (List.replicate a.toNat (default:Int)) (List.replicate a.toNat (default:zn)) j k)])]))]))])),(ck (zd a 32) (catL [(ck (zd a 8) (catL [(ck (zd a 8) (catL [(some [(z06 φ b a c d e f g h i (List.replicate a.toNat (default:Int)) (List.replicate a.toNat (default:Int)) (List.replicate a.toNat (default:zn)) j k)])])),(catL [(ck (zd a 8) (catL [(some [(z06 φ b a c d e f g h i (List.replicate a.toNat (default:Int)) (List.replicate a.toNat (default:Int)) (List.replicate a.toNat (default:zn)) j k)])]))])])),(ck (zd a 8) (catL [(ck (zd a 8) (catL [(some [(z06 φ b a c d e f g h i (List.replicate a.toNat (default:Int)) (List.replicate a.toNat (default:Int)) (List.replicate a.toNat (default:zn)) j k)])]))]))]))])
def zdk(φ:Nat):Nat->t00->t07->t00->t00->t00->t0a->t0a->t00->t00->t02
 |0,_,_,_,_,_,_,_,_,_=>none
 |b+1,c,d,e,a,f,g,h,i,j=>(z8y φ (zdk φ b) (a.length:Int) c d e a f g h ([]:List Int) ([]:List Int) ([]:List zn) i j)
def zdj(φ:Nat):Nat->t07->Int->Int->t00->t07->t00->t00->t00->t0a->t0a->t00->t00->t02
 |0,_,_,_,_,_,_,_,_,_,_,_,_=>none
 |m+1,b,e,a,f,g,h,i,j,c,d,k,l=>(if(decide (a<e))=true then(ck (rg a b.length) (ck (rg (gt b a).from_ c.length) (ck (rg (gt b a).from_ c.length) (ck (((gt b a).from_:Int) =(gt b a).from_) (ck (fits ((gt c ((gt b a).from_)).length+([a]).length) 8) (ck (rg (gt b a).from_ c.length) (ck (((gt b a).from_:Int) =(gt b a).from_) (ck (rg (gt b a).to d.length) (ck (rg (gt b a).to d.length) (ck (((gt b a).to:Int) =(gt b a).to) (ck (fits ((gt d ((gt b a).to)).length+([a]).length) 8) (ck (rg (gt b a).to d.length) (ck (((gt b a).to:Int) =(gt b a).to) ((zdj φ m) b e (W (a+1)) f g h i j ((zo c ((gt b a).from_) (((gt c ((gt b a).from_))++[a])))) ((zo d ((gt b a).to) (((gt d ((gt b a).to))++[a])))) k l)))))))))))))) else(zdk φ φ f g h i j c d k l))
def zdm(φ:Nat)(a:zq)(b:t00)(c:t07)(d e f:t00)(g h:t0a)(i j:t00):t02:=(zdj φ φ a.arcs (a.arcs.length:Int) 0 b c d e f g h i j)
def z8z(φ:Nat)(b:Int)(a:zq)(c d:t00):t02:=(ck (zd (a.arcs.length:Int) 8) (ck (fits (([]:List Int).length+a.supply.length) 8) (ck (zd b 8) (ck (zd b 24) (ck (zd b 24) (zdm φ a a.supply a.arcs (List.replicate ((a.arcs.length:Int):Int).toNat (default:Int)) (([]:List Int)++a.supply) (List.replicate b.toNat (default:Int)) (List.replicate b.toNat (default :(List Int))) (List.replicate b.toNat (default :(List Int))) c d))))))
def zb(φ:Nat)(b:Int)(a:zq)(c d:t00):Option t0o:=(catL [(some [(zdm φ a a.supply a.arcs (List.replicate ((a.arcs.length:Int):Int).toNat (default:Int)) (([]:List Int)++a.supply) (List.replicate b.toNat (default:Int)) (List.replicate b.toNat (default :(List Int))) (List.replicate b.toNat (default :(List Int))) c d)])])
def z0i(φ:Nat)(a:Int)(b:zq)(c d:t00):Option t0o:=(catL [(ck (zd a 24) (zb φ a b c d))])
def zh(φ:Nat)(b:Int)(a:zq)(c d:t00):Option t0o:=(catL [(ck (fits (([]:List Int).length+a.supply.length) 8) (zb φ b a c d))])
def z1e(φ:Nat)(a:Int)(b:zq)(c d:t00):Option t0o:=(catL [(ck (fits (([]:List Int).length+b.supply.length) 8) (z0i φ a b c d)),(ck (zd a 24) (zh φ a b c d))])
def z7s(φ:Nat)(a:Int)(b:zq)(c d:t00):Option t0o:=(catL [(ck (zd (b.arcs.length:Int) 8) (catL [(ck (fits (([]:List Int).length+b.supply.length) 8) (catL [(ck (zd a 8) (z0i φ a b c d)),(ck (zd a 24) (catL [(ck (zd a 8) (zb φ a b c d))]))])),(ck (zd a 8) (z1e φ a b c d)),(ck (zd a 24) (catL [(ck (fits (([]:List Int).length+b.supply.length) 8) (catL [(ck (zd a 8) (zb φ a b c d))])),(ck (zd a 8) (zh φ a b c d))]))])),(ck (fits (([]:List Int).length+b.supply.length) 8) (catL [(ck (zd (b.arcs.length:Int) 8) (catL [(ck (zd a 8) (z0i φ a b c d)),(ck (zd a 24) (catL [(ck (zd a 8) (zb φ a b c d))]))])),(ck (zd a 8) (catL [(ck (zd (b.arcs.length:Int) 8) (z0i φ a b c d)),(ck (zd a 24) (catL [(ck (zd (b.arcs.length:Int) 8) (zb φ a b c d))]))])),(ck (zd a 24) (catL [(ck (zd (b.arcs.length:Int) 8) (catL [(ck (zd a 8) (zb φ a b c d))])),(ck (zd a 8) (catL [(ck (zd (b.arcs.length:Int) 8) (zb φ a b c d))]))]))])),(ck (zd a 8) (catL [(ck (zd (b.arcs.length:Int) 8) (z1e φ a b c d)),(ck (fits (([]:List Int).length+b.supply.length) 8) (catL [(ck (zd (b.arcs.length:Int) 8) (z0i φ a b c d)),(ck (zd a 24) (catL [(ck (zd (b.arcs.length:Int) 8) (zb φ a b c d))]))])),(ck (zd a 24) (catL [(ck (zd (b.arcs.length:Int) 8) (zh φ a b c d)),(ck (fits (([]:List Int).length+b.supply.length) 8) (catL [(ck (zd (b.arcs.length:Int) 8) (zb φ a b c d))]))]))])),(ck (zd a 24) (catL [(ck (zd (b.arcs.length:Int) 8) (catL [(ck (fits (([]:List Int).length+b.supply.length) 8) (catL [(ck (zd a 8) (zb φ a b c d))])),(ck (zd a 8) (zh φ a b c d))])),(ck (fits (([]:List Int).length+b.supply.length) 8) (catL [(ck (zd (b.arcs.length:Int) 8) (catL [(ck (zd a 8) (zb φ a b c d))])),(ck (zd a 8) (catL [(ck (zd (b.arcs.length:Int) 8) (zb φ a b c d))]))])),(ck (zd a 8) (catL [(ck (zd (b.arcs.length:Int) 8) (zh φ a b c d)),(ck (fits (([]:List Int).length+b.supply.length) 8) (catL [(ck (zd (b.arcs.length:Int) 8) (zb φ a b c d))]))]))]))])
def z1f(φ:Nat)(a:Int)(b:zq)(c d:t00):Option t0o:=(catL [(ck (fits (([]:List Int).length+b.supply.length) 8) (catL [(ck (zd a 8) (z0i φ a b c d)),(ck (zd a 24) (catL [(ck (zd a 8) (zb φ a b c d))]))])),(ck (zd a 8) (z1e φ a b c d)),(ck (zd a 24) (catL [(ck (fits (([]:List Int).length+b.supply.length) 8) (catL [(ck (zd a 8) (zb φ a b c d))])),(ck (zd a 8) (zh φ a b c d))]))])
def z0e(φ:Nat)(a:Int)(b:zq)(c d:t00):Option t0o:=(catL [(z1e φ a b c d),(ck (zd a 24) (catL [(zh φ a b c d)]))])
def z42(φ:Nat)(b:Int)(a:zq)(c d:t00):Option t0o:=(catL [(ck (zd (a.arcs.length:Int) 8) (z1e φ b a c d)),(ck (fits (([]:List Int).length+a.supply.length) 8) (catL [(ck (zd (a.arcs.length:Int) 8) (z0i φ b a c d)),(ck (zd b 24) (catL [(ck (zd (a.arcs.length:Int) 8) (zb φ b a c d))]))])),(ck (zd b 24) (catL [(ck (zd (a.arcs.length:Int) 8) (zh φ b a c d)),(ck (fits (([]:List Int).length+a.supply.length) 8) (catL [(ck (zd (a.arcs.length:Int) 8) (zb φ b a c d))]))]))])
def z9o(φ:Nat)(b:Int)(a:zq)(c d:t00):Option t0o:=(ck (zd b 24) (catL [(ck (zd (a.arcs.length:Int) 8) (catL [(z1f φ b a c d),(ck (zd b 8) (z0e φ b a c d)),(ck (zd b 24) (catL [(catL [(ck (fits (([]:List Int).length+a.supply.length) 8) (catL [(ck (zd b 8) (zb φ b a c d))])),(ck (zd b 8) (zh φ b a c d))]),(ck (zd b 8) (catL [(zh φ b a c d)]))]))])),(z7s φ b a c d),(ck (zd b 8) (catL [(ck (zd (a.arcs.length:Int) 8) (z0e φ b a c d)),(z42 φ b a c d),(ck (zd b 24) (catL [(ck (zd (a.arcs.length:Int) 8) (catL [(zh φ b a c d)])),(catL [(ck (zd (a.arcs.length:Int) 8) (zh φ b a c d)),(ck (fits (([]:List Int).length+a.supply.length) 8) (catL [(ck (zd (a.arcs.length:Int) 8) (zb φ b a c d))]))])]))])),(ck (zd b 24) (catL [(ck (zd (a.arcs.length:Int) 8) (catL [(catL [(ck (fits (([]:List Int).length+a.supply.length) 8) (catL [(ck (zd b 8) (zb φ b a c d))])),(ck (zd b 8) (zh φ b a c d))]),(ck (zd b 8) (catL [(zh φ b a c d)]))])),(catL [(ck (zd (a.arcs.length:Int) 8) (catL [(ck (fits (([]:List Int).length+a.supply.length) 8) (catL [(ck (zd b 8) (zb φ b a c d))])),(ck (zd b 8) (zh φ b a c d))])),(ck (fits (([]:List Int).length+a.supply.length) 8) (catL [(ck (zd (a.arcs.length:Int) 8) (catL [(ck (zd b 8) (zb φ b a c d))])),(ck (zd b 8) (catL [(ck (zd (a.arcs.length:Int) 8) (zb φ b a c d))]))])),(ck (zd b 8) (catL [(ck (zd (a.arcs.length:Int) 8) (zh φ b a c d)),(ck (fits (([]:List Int).length+a.supply.length) 8) (catL [(ck (zd (a.arcs.length:Int) 8) (zb φ b a c d))]))]))]),(ck (zd b 8) (catL [(ck (zd (a.arcs.length:Int) 8) (catL [(zh φ b a c d)])),(catL [(ck (zd (a.arcs.length:Int) 8) (zh φ b a c d)),(ck (fits (([]:List Int).length+a.supply.length) 8) (catL [(ck (zd (a.arcs.length:Int) 8) (zb φ b a c d))]))])]))]))]))
def z04(φ:Nat)(a:Int)(b:zq)(c d:t00):Option t0o:=(ck (zd a 24) (z0i φ a b c d))
def z43(φ:Nat)(a:Int)(b:zq)(c d:t00):Option t0o:=(catL [(ck (fits (([]:List Int).length+b.supply.length) 8) (catL [(z04 φ a b c d),(z04 φ a b c d)])),(ck (zd a 24) (z1e φ a b c d)),(ck (zd a 24) (z1e φ a b c d))])
def z1u(φ:Nat)(b:Int)(a:zq)(c d:t00):Option t0o:=(catL [(ck (zd (a.arcs.length:Int) 8) (z0i φ b a c d)),(ck (zd b 24) (catL [(ck (zd (a.arcs.length:Int) 8) (zb φ b a c d))]))])
def z90(φ:Nat)(a:Int)(b:zq)(c d:t00):Option t0o:=(catL [(ck (zd (b.arcs.length:Int) 8) (z43 φ a b c d)),(ck (fits (([]:List Int).length+b.supply.length) 8) (catL [(ck (zd (b.arcs.length:Int) 8) (catL [(z04 φ a b c d),(z04 φ a b c d)])),(ck (zd a 24) (z1u φ a b c d)),(ck (zd a 24) (z1u φ a b c d))])),(ck (zd a 24) (z42 φ a b c d)),(ck (zd a 24) (z42 φ a b c d))])
def z0u(φ:Nat)(a:Int)(b:zq)(c d:t00):Option t0o:=(catL [(ck (zd a 8) (z0i φ a b c d)),(ck (zd a 24) (catL [(ck (zd a 8) (zb φ a b c d))]))])
def zar(φ:Nat)(a:Int)(b:zq)(c d:t00):Option t0o:=(catL [(ck (zd (b.arcs.length:Int) 8) (catL [(catL [(ck (fits (([]:List Int).length+b.supply.length) 8) (catL [(ck (zd a 8) (catL [(z04 φ a b c d),(z04 φ a b c d)])),(ck (zd a 24) (z0u φ a b c d)),(ck (zd a 24) (z0u φ a b c d))])),(ck (zd a 8) (z43 φ a b c d)),(ck (zd a 24) (z1f φ a b c d)),(ck (zd a 24) (z1f φ a b c d))]),(ck (zd a 8) (catL [(z43 φ a b c d),(ck (zd a 24) (z0e φ a b c d)),(ck (zd a 24) (z0e φ a b c d))])),(ck (zd a 24) (catL [(z1f φ a b c d),(ck (zd a 8) (z0e φ a b c d)),(ck (zd a 24) (catL [(catL [(ck (fits (([]:List Int).length+b.supply.length) 8) (catL [(ck (zd a 8) (zb φ a b c d))])),(ck (zd a 8) (zh φ a b c d))]),(ck (zd a 8) (catL [(zh φ a b c d)]))]))])),(ck (zd a 24) (catL [(z1f φ a b c d),(ck (zd a 8) (z0e φ a b c d)),(ck (zd a 24) (catL [(catL [(ck (fits (([]:List Int).length+b.supply.length) 8) (catL [(ck (zd a 8) (zb φ a b c d))])),(ck (zd a 8) (zh φ a b c d))]),(ck (zd a 8) (catL [(zh φ a b c d)]))]))]))])),(catL [(ck (zd (b.arcs.length:Int) 8) (catL [(ck (fits (([]:List Int).length+b.supply.length) 8) (catL [(ck (zd a 8) (catL [(z04 φ a b c d),(z04 φ a b c d)])),(ck (zd a 24) (z0u φ a b c d)),(ck (zd a 24) (z0u φ a b c d))])),(ck (zd a 8) (z43 φ a b c d)),(ck (zd a 24) (z1f φ a b c d)),(ck (zd a 24) (z1f φ a b c d))])),(ck (fits (([]:List Int).length+b.supply.length) 8) (catL [(ck (zd (b.arcs.length:Int) 8) (catL [(ck (zd a 8) (catL [(z04 φ a b c d),(z04 φ a b c d)])),(ck (zd a 24) (z0u φ a b c d)),(ck (zd a 24) (z0u φ a b c d))])),(ck (zd a 8) (catL [(ck (zd (b.arcs.length:Int) 8) (catL [(z04 φ a b c d),(z04 φ a b c d)])),(ck (zd a 24) (z1u φ a b c d)),(ck (zd a 24) (z1u φ a b c d))])),(ck (zd a 24) (catL [(ck (zd (b.arcs.length:Int) 8) (z0u φ a b c d)),(ck (zd a 8) (z1u φ a b c d)),(ck (zd a 24) (catL [(ck (zd (b.arcs.length:Int) 8) (catL [(ck (zd a 8) (zb φ a b c d))])),(ck (zd a 8) (catL [(ck (zd (b.arcs.length:Int) 8) (zb φ a b c d))]))]))])),(ck (zd a 24) (catL [(ck (zd (b.arcs.length:Int) 8) (z0u φ a b c d)),(ck (zd a 8) (z1u φ a b c d)),(ck (zd a 24) (catL [(ck (zd (b.arcs.length:Int) 8) (catL [(ck (zd a 8) (zb φ a b c d))])),(ck (zd a 8) (catL [(ck (zd (b.arcs.length:Int) 8) (zb φ a b c d))]))]))]))])),(ck (zd a 8) (z90 φ a b c d)),(ck (zd a 24) (z7s φ a b c d)),(ck (zd a 24) (z7s φ a b c d))]),(ck (zd a 8) (catL [(ck (zd (b.arcs.length:Int) 8) (catL [(z43 φ a b c d),(ck (zd a 24) (z0e φ a b c d)),(ck (zd a 24) (z0e φ a b c d))])),(z90 φ a b c d),(ck (zd a 24) (catL [(ck (zd (b.arcs.length:Int) 8) (z0e φ a b c d)),(z42 φ a b c d),(ck (zd a 24) (catL [(ck (zd (b.arcs.length:Int) 8) (catL [(zh φ a b c d)])),(catL [(ck (zd (b.arcs.length:Int) 8) (zh φ a b c d)),(ck (fits (([]:List Int).length+b.supply.length) 8) (catL [(ck (zd (b.arcs.length:Int) 8) (zb φ a b c d))]))])]))])),(ck (zd a 24) (catL [(ck (zd (b.arcs.length:Int) 8) (z0e φ a b c d)),(z42 φ a b c d),(ck (zd a 24) (catL [(ck (zd (b.arcs.length:Int) 8) (catL [(zh φ a b c d)])),(catL [(ck (zd (b.arcs.length:Int) 8) (zh φ a b c d)),(ck (fits (([]:List Int).length+b.supply.length) 8) (catL [(ck (zd (b.arcs.length:Int) 8) (zb φ a b c d))]))])]))]))])),(z9o φ a b c d),(z9o φ a b c d)])
def zld(φ:Nat)(a:zq):t02:=((zlc φ a).bind λb=>(if(b.1 !=0)=true then(some ((⟨([]:List Int),([]:List Int)⟩:Flow),b.1,())) else(z8z φ (a.supply.length:Int) a ([]:List Int) ([]:List Int))))
def zxr(φ:Nat):Fsp TV:=⟨[40],[.val 41,.val 0],λz=>zld φ z.1⟩
def z9p(φ:Nat):Nat->Int->Int->t00->t01
 |0,_,_,_=>none
 |d+1,c,a,b=>(if(decide (a<c))=true then(ck (rg a b.length) (if(((gt b a):Int) !=0)=true then(some (false,())) else((z9p φ d) c (W (a+1)) b))) else(some (true,())))
def zas(φ:Nat):Nat->t07->Int->Int->Flow->t00->t01
 |0,_,_,_,_,_=>none
 |f+1,b,e,a,d,c=>(if(decide (a<e))=true then(ck (rg a b.length) (ck (rg a d.x.length) ((z7g φ (gt d.x a) 0 ((gt b a).cap)).bind λg=>(if(!g.1)=true then(some (false,())) else(ck (rg (gt b a).from_ c.length) (ck (rg a d.x.length) (ck (rg (gt b a).from_ c.length) (ck (rg (gt b a).to (((zo c ((gt b a).from_) ((W ((gt c ((gt b a).from_))-(gt d.x a)))))).length)) (ck (rg a d.x.length) (ck (rg (gt b a).to (((zo c ((gt b a).from_) ((W ((gt c ((gt b a).from_))-(gt d.x a)))))).length)) ((zas φ f) b e (W (a+1)) d ((zo ((zo c ((gt b a).from_) ((W ((gt c ((gt b a).from_))-(gt d.x a)))))) ((gt b a).to) ((W ((gt ((zo c ((gt b a).from_) ((W ((gt c ((gt b a).from_))-(gt d.x a)))))) ((gt b a).to))+(gt d.x a))))))))))))))))) else(z9p φ φ (c.length:Int) 0 c))
def zjd(φ:Nat)(a:zq)(b:Flow):t01:=(if(((b.x.length:Int):Int) !=(a.arcs.length:Int))=true then(some (false,())) else(ck (fits (([]:List Int).length+a.supply.length) 8) (zas φ φ a.arcs (a.arcs.length:Int) 0 b (([]:List Int)++a.supply))))
def zoz(φ:Nat):Fsp TV:=⟨[40,41],[.val 2],kq2 (zjd φ)⟩
def zeq(φ:Nat):Nat->Int->t07->Int->Int->Flow->t0f
 |0,_,_,_,_,_=>none
 |f+1,d,b,e,a,c=>(if(decide (a<e))=true then(ck (rg a b.length) (ck (rg a c.x.length) (if(decide (((W (9007199254740992-d)):Int)<(W ((gt c.x a)*(gt b a).cost))))=true then(some (0,3,())) else((zeq φ f) ((W (d+(W ((gt c.x a)*(gt b a).cost))))) b e (W (a+1)) c)))) else(some (d,0,())))
def zox(φ:Nat)(a:zq)(b:Flow):t0f:=((zlc φ a).bind λc=>(if(c.1 !=0)=true then(some (0,c.1,())) else((zjd φ a b).bind λd=>(if(!d.1)=true then(some (0,360,())) else(zeq φ φ 0 a.arcs (a.arcs.length:Int) 0 b)))))
def y0u(φ:Nat):Fsp TV:=⟨[40,41],[.val 0,.val 0],kq2 (zox φ)⟩
def zdu(φ:Nat)(a:t08):t0n:=(ck (a.isEmpty=false) (ck (fits (([]:List z7).length+a.length) 192) (some ((([]:List z7)++a),()))))
def zfj(φ:Nat):Fsp TV:=⟨[54],[.row 76 53],λz=>zdu φ z.1⟩
def z8n(φ:Nat)(a:t08):t0n:=if a.isEmpty=true then some ([],()) else zdu φ a
def zhz(φ:Nat):Fsp TV:=⟨[54],[.row 76 53],λz=>z8n φ z.1⟩
def z2y(φ:Nat)(e :(Int->Int->t0q->Int->t08->t1b)):Nat->Int->Int->t0q->Int->Int->t08->t1b
 |0,_,_,_,_,_,_=>none
 |h+1,c,f,d,g,a,b=>(ck (((decide (c<a))=true)->rg a b.length) (ck (((decide (c<a))=true)->rg (W (a-1)) b.length) ((zi (0:Int) ((decide (c<a))=true) (d (gt b a) (gt b (W (a-1))))).bind λi=>(if((decide (c<a))&&(decide (i<0)))=true then(ck (rg (W (a-1)) b.length) (ck (rg a b.length) (ck (rg a b.length) (ck (rg (W (a-1)) (((zo b a (gt b (W (a-1))))).length)) ((z2y φ e h) c f d g (W (a-1)) ((zo ((zo b a (gt b (W (a-1))))) (W (a-1)) (gt b a)))))))) else(e c f d (W (g+1)) b)))))
def z2x(φ:Nat):Nat->Int->Int->t0q->Int->t08->t1b
 |0,_,_,_,_,_=>none
 |d+1,e,b,f,a,c=>(if(decide (a<b))=true then(z2y φ (z2x φ d) φ e b f a a c) else(some c))
def z4i(φ:Nat)(b:t08)(a c:Int)(d:t0q):t1b:=(z2x φ φ a c d (W (a+1)) b)
def zax(φ:Nat):Msp TV:=⟨76,53,[.val 0,.val 0,.cmp 53],λl z=>z4i φ l z.1 z.2.1 z.2.2.1⟩
def z8o(φ:Nat):Nat->Int->t0q->Int->t08->t1b
 |0,_,_,_,_=>none
 |d+1,a,e,b,c=>(if(decide (b<a))=true then none else(some c))
def z65(φ:Nat):Nat->Int->t0q->Int->Int->Int->t08->t1b
 |0,_,_,_,_,_,_=>none
 |g+1,a,b,d,e,c,f=>(if(decide (c<=a))=true then((z4i φ f e c b).bind λh=>((z65 φ g) a b d c (W (c+d)) h)) else((z4i φ f e a b).bind λi=>(z8o φ φ a b d i)))
def zaz(φ:Nat)(a:t08)(b:Int)(c:t0q):t1b:=(z65 φ φ b c 20 0 20 a)
def zfp(φ:Nat):Msp TV:=⟨76,53,[.val 0,.cmp 53],λl z=>zaz φ l z.1 z.2.1⟩
def z13(φ:Nat)(a:t08)(b:t0q):t1b:=((zaz φ a (a.length:Int) b).bind λc=>(some c))
def zf9(φ:Nat):Msp TV:=⟨76,53,[.cmp 53],λl z=>z13 φ l z.1⟩
def z3j(φ:Nat)(b a:Int):t03:=(if(b !=b)=true then(if(a !=a)=true then(some (0,())) else(some ((-1),()))) else(if(a !=a)=true then(some (1,())) else(if(decide (b<a))=true then(some ((-1),())) else(if(decide (a<b))=true then(some (1,())) else(some (0,()))))))
def ztq(φ:Nat):Fsp TV:=⟨[0,0],[.val 0],kq2 (z3j φ)⟩
def z89(φ:Nat):Nat->Int->t00->Int->Int->t03
 |0,_,_,_,_=>none
 |e+1,c,b,d,a=>(if(decide (a<d))=true then(ck (rg a b.length) (if(((gt b a):Int) !=c)=true then(some ((gt b a),())) else((z89 φ e) c b d (W (a+1))))) else(some (c,())))
def ziw(φ:Nat)(a:t00):t03:=(z89 φ φ 0 a (a.length:Int) 0)
def ycx(φ:Nat):Fsp TV:=⟨[24],[.val 0],λz=>ziw φ z.1⟩
def z6m(φ:Nat)(a b:z7):t03:=((z3j φ a.item.from_ b.item.from_).bind λc=>((z3j φ a.ref.railway b.ref.railway).bind λd=>((z3j φ a.ref.no b.ref.no).bind λe=>((ziw φ ([c.1,d.1,e.1])).bind λf=>(some (f.1,()))))))
def znb(φ:Nat):Fsp TV:=⟨[53,53],[.val 0],kq2 (z6m φ)⟩
def z1r(φ:Nat):Nat->Int->Int->Int->t0c->t08->t0v
 |0,_,_,_,_,_=>none
 |f+1,d,e,a,c,b=>(if(decide (a<e))=true then(ck (rg a b.length) (if(((((gt b a).item).kind:Int)==15)&&(decide (d<=((gt b a).item).to)))=true then(ck (fits (c.length+([(⟨((gt b a).item).number,((gt b a).item).class_,((gt b a).item).place,((gt b a).item).from_,((gt b a).item).to,((gt b a).item).weight,((gt b a).item).amount⟩:zp)]).length) 56) ((z1r φ f) d e (W (a+1)) ((c++[(⟨((gt b a).item).number,((gt b a).item).class_,((gt b a).item).place,((gt b a).item).from_,((gt b a).item).to,((gt b a).item).weight,((gt b a).item).amount⟩:zp)])) b)) else((z1r φ f) d e (W (a+1)) c b))) else(some (c,())))
def z6l(φ:Nat)(d:t08)(e:Int):t0v:=((z8n φ d).bind λf=>((z13 φ f.1 (λa b=>(z6m φ a b).bind λr=>(some r.1))).bind λc=>(z1r φ φ e (c.length:Int) 0 ([]:List zp) c)))
def zna(φ:Nat):Fsp TV:=⟨[54,0],[.val 37],kq2 (z6l φ)⟩
def z5d(φ:Nat)(g h i j k:Int)(o:t00)(l:Int)(p:t00)(b m:t0b)(c:t00)(d:t07)(e:t00)(f:t07):t01:=(ck (((((((g !=0)||(h !=0))||(i !=0))||(j !=0))||(((b.length:Int):Int) !=1))=false)->rg 0 b.length) (if(((((((((g !=0)||(h !=0))||(i !=0))||(j !=0))||(((b.length:Int):Int) !=1))||(!((((gt b 0).supply:Int)==0)&&((((gt b 0).order:Int)==0)&&((((gt b 0).count:Int)==2)&&true)))))||(k !=1090))||(((m.length:Int):Int) !=0))||(l !=120))=true then(some (false,())) else((z6l φ ([(⟨(⟨0,0⟩:Ref),(⟨0,0⟩:Ref),0,(⟨15,(⟨0,0⟩:Ref),0,0,0,1,0,300,0,0,0,2,0,(⟨#[]⟩:ByteArray),([]:List Part)⟩:Item)⟩:z7)]) 300).bind λa=>(ck (((((((((c.length:Int):Int)==4)&&(((d.length:Int):Int)==4))&&(((e.length:Int):Int)==4))&&(((f.length:Int):Int)==3))&&(((a.1.length:Int):Int)==1))=true)->rg 0 a.1.length) (ck ((((((((((c.length:Int):Int)==4)&&(((d.length:Int):Int)==4))&&(((e.length:Int):Int)==4))&&(((f.length:Int):Int)==3))&&(((a.1.length:Int):Int)==1))&&(((gt a.1 0).count:Int)==2))=true)->rg 0 a.1.length) (if(((((((((c.length:Int):Int)==4)&&(((d.length:Int):Int)==4))&&(((e.length:Int):Int)==4))&&(((f.length:Int):Int)==3))&&(((a.1.length:Int):Int)==1))&&(((gt a.1 0).count:Int)==2))&&(((gt a.1 0).type_:Int)==1))=true then((z6l φ ([(⟨(⟨0,0⟩:Ref),(⟨0,0⟩:Ref),0,(⟨15,(⟨0,0⟩:Ref),0,0,0,1,0,300,0,0,0,2,0,(⟨#[]⟩:ByteArray),([]:List Part)⟩:Item)⟩:z7)]) 301).bind λn=>(some ((((n.1.length:Int):Int)==0),()))) else(some (false,()))))))))
def z7i(φ:Nat)(a b c d:Int)(e:t00)(f:Int)(g m:t00)(h:t07)(i j:t0b)(k:t00)(l:t07):t01:=(if(decide ((2048:Int)<(h.length:Int)))=true then(z5d φ a b c 2 d e f g i j k l ([]:List Int) ([]:List Arc)) else(z5d φ a b c 0 d e f g i j k l m h))
def z91(φ:Nat)(u :(Int->Int->Int->Int->Int->Int->Int->Pool->t09->Int->t00->Int->t00->t0c->t00->t07->t0b->t0b->t00->t07->t01)):Nat->Int->Int->Int->Int->Int->Int->Int->Int->Int->Int->Pool->za->t09->t0c->Int->t00->Int->t00->t00->t07->t0b->t0b->t00->t07->t01
 |0,_,_,_,_,_,_,_,_,_,_,_,_,_,_,_,_,_,_,_,_,_,_,_,_=>none
 |A+1,v,w,e,x,y,z,a,g,h,i,j,c,d,b,k,l,m,n,o,f,p,q,r,s=>(if(decide (a<z))=true then(ck (rg a b.length) ((z1s φ j c (gt b a)).bind λt=>(if t.2.1=true then(ck (fits (f.length+([(⟨e,W ((d.length:Int)+a),min2 c.count ((gt b a).count),t.1⟩:Arc)]).length) 32) (if(!true)=true then(z7i φ g h i k l m n o ((f++[(⟨e,W ((d.length:Int)+a),min2 c.count ((gt b a).count),t.1⟩:Arc)])) p q r s) else((z91 φ u A) v w e x y z (W (a+1)) g h i j c d b k l m n o ((f++[(⟨e,W ((d.length:Int)+a),min2 c.count ((gt b a).count),t.1⟩:Arc)])) p q r s))) else((z91 φ u A) v w e x y z (W (a+1)) g h i j c d b k l m n o f p q r s)))) else(u v w x (W (y+1)) g h i j d k l m n b o f p q r s))
def zc3(φ:Nat):Nat->Int->Int->Int->Int->Int->Int->Int->t09->Int->t00->Int->t00->t00->t07->t0b->t0b->t00->t07->t01
 |0,_,_,_,_,_,_,_,_,_,_,_,_,_,_,_,_,_,_=>none
 |s+1,b,e,r,a,f,g,h,c,i,j,k,l,m,d,n,o,p,q=>(if(decide (a<r))=true then(ck (rg a c.length) (ck (fits (d.length+([(⟨a,W (b+1),(gt c a).count,0⟩:Arc)]).length) 32) (if(!true)=true then(z7i φ f g h i j k l m (d++[(⟨a,W (b+1),(gt c a).count,0⟩:Arc)]) n o p q) else((zc3 φ s) b e r (W (a+1)) f g h c i j k l m (d++[(⟨a,W (b+1),(gt c a).count,0⟩:Arc)]) n o p q)))) else(ck (fits (d.length+([(⟨b,W (b+1),e,0⟩:Arc)]).length) 32) (z7i φ f g h i j k l m (d++[(⟨b,W (b+1),e,0⟩:Arc)]) n o p q)))
def zc2(φ:Nat):Nat->Int->Int->Int->Int->Int->Int->Int->t0c->Int->t00->Int->t00->t09->t00->t07->t0b->t0b->t00->t07->t01
 |0,_,_,_,_,_,_,_,_,_,_,_,_,_,_,_,_,_,_,_=>none
 |t+1,d,r,s,a,f,g,h,b,i,j,k,l,c,m,e,n,o,p,q=>(if(decide (a<s))=true then(ck (rg a b.length) (ck (fits (e.length+([(⟨d,W ((c.length:Int)+a),(gt b a).count,(gt b a).weight⟩:Arc)]).length) 32) (if(!true)=true then(z7i φ f g h i j k l m ((e++[(⟨d,W ((c.length:Int)+a),(gt b a).count,(gt b a).weight⟩:Arc)])) n o p q) else((zc2 φ t) d (W (r+(gt b a).count)) s (W (a+1)) f g h b i j k l c m ((e++[(⟨d,W ((c.length:Int)+a),(gt b a).count,(gt b a).weight⟩:Arc)])) n o p q)))) else(zc3 φ φ d r (c.length:Int) 0 f g h c i j k l m e n o p q))
def zc1(φ:Nat):Nat->Int->Int->Int->Int->Int->Int->Int->Pool->t09->Int->t00->Int->t00->t0c->t00->t07->t0b->t0b->t00->t07->t01
 |0,_,_,_,_,_,_,_,_,_,_,_,_,_,_,_,_,_,_,_,_=>none
 |t+1,d,e,f,a,g,h,i,u,b,j,k,l,m,c,n,o,p,q,r,s=>(if(decide (a<f))=true then(ck (rg a b.length) (z91 φ (zc1 φ t) φ d e a f a (c.length:Int) 0 g h i u (gt b a) b c j k l m n o p q r s)) else(zc2 φ φ d e (c.length:Int) 0 g h i c j k l m b n o p q r s))
def zdq(φ:Nat):Nat->Int->Int->Int->Int->Int->Int->Int->t09->t0c->Pool->Int->t00->Int->t00->t00->t07->t0b->t0b->t00->t07->t01
 |0,_,_,_,_,_,_,_,_,_,_,_,_,_,_,_,_,_,_,_,_=>none
 |u+1,d,e,s,b,f,g,h,i,a,r,j,k,l,m,c,t,n,o,p,q=>(if(decide (b<s))=true then(ck (rg b a.length) ((z3r φ r (gt a b)).bind λv=>(if(!v.1)=true then(z5d φ f g h 1 j k l m n o p q ([]:List Int) ([]:List Arc)) else(ck (fits (c.length+([(W (0-(gt a b).count))]).length) 8) ((zdq φ u) d (W (e+(gt a b).count)) s (W (b+1)) f g h i a r j k l m ((c++[(W (0-(gt a b).count))])) t n o p q))))) else(ck (fits (c.length+([e,(W (0-d))]).length) 8) (if(decide ((256:Int)<((c++[e,(W (0-d))]).length:Int)))=true then(z5d φ f g h 2 j k l m n o p q ([]:List Int) ([]:List Arc)) else(zc1 φ φ (W ((i.length:Int)+(a.length:Int))) 0 (i.length:Int) 0 f g h r i j k l m a (c++[e,(W (0-d))]) t n o p q))))
def zdp(φ:Nat):Nat->Int->Int->Int->Int->Int->Int->Int->t09->t0c->Pool->Int->t00->Int->t00->t00->t07->t0b->t0b->t00->t07->t01
 |0,_,_,_,_,_,_,_,_,_,_,_,_,_,_,_,_,_,_,_,_=>none
 |u+1,q,r,s,a,c,d,e,b,f,g,h,i,j,k,l,t,m,n,o,p=>(if(decide (a<s))=true then(ck (rg a b.length) ((z31 φ g (gt b a)).bind λv=>(if(!v.1)=true then(z5d φ c d e 1 h i j k m n o p ([]:List Int) ([]:List Arc)) else(ck (fits (l.length+([(gt b a).count]).length) 8) ((zdp φ u) (W (q+(gt b a).count)) r s (W (a+1)) c d e b f g h i j k (l++[(gt b a).count]) t m n o p))))) else(zdq φ φ q r (f.length:Int) 0 c d e b f g h i j k l t m n o p))
def z5c(φ:Nat)(b c d:Int)(e:t09)(a:t0c)(f:Int)(g:t00)(h:Int)(i:t00)(j k:t0b)(l:t00)(m:t07):t01:=(ck (rg 0 a.length) ((zbf φ).bind λn=>((z0z φ n.1).bind λo=>(if(o.1 !=0)=true then(z5d φ b c d o.1 f g h i j k l m ([]:List Int) ([]:List Arc)) else(zdp φ φ 0 0 (e.length:Int) 0 b c d e (zo a 0 (⟨(gt a 0).type_,3,(gt a 0).place,(gt a 0).from_,(gt a 0).to,(gt a 0).count,(gt a 0).weight⟩:zp)) n.1 f g h i ([]:List Int) ([]:List Arc) j k l m)))))
def z7j(φ:Nat)(a b:Int)(c:t09)(d:t0c)(e:Int)(f:t00)(g:Int)(h l:t00)(i:t07)(j k:t0b):t01:=(if(decide ((2048:Int)<(i.length:Int)))=true then(z5c φ a b 2 c d e f g h j k ([]:List Int) ([]:List Arc)) else(z5c φ a b 0 c d e f g h j k l i))
def z92(φ:Nat)(r :(Int->Int->Int->Int->Int->Int->Pool->t09->t0c->Int->t00->Int->t00->t00->t07->t0b->t0b->t01)):Nat->Int->Int->Int->Int->Int->Int->Int->Int->Int->Pool->za->t09->t0c->Int->t00->Int->t00->t00->t07->t0b->t0b->t01
 |0,_,_,_,_,_,_,_,_,_,_,_,_,_,_,_,_,_,_,_,_,_=>none
 |x+1,s,t,e,u,v,w,a,g,h,i,d,c,b,j,k,l,m,n,f,o,p=>(if(decide (a<w))=true then(ck (rg a b.length) ((z1s φ i d (gt b a)).bind λq=>(if q.2.1=true then(ck (fits (f.length+([(⟨e,W ((c.length:Int)+a),min2 d.count ((gt b a).count),q.1⟩:Arc)]).length) 32) (if(!true)=true then(z7j φ g h c b j k l m n ((f++[(⟨e,W ((c.length:Int)+a),min2 d.count ((gt b a).count),q.1⟩:Arc)])) o p) else((z92 φ r x) s t e u v w (W (a+1)) g h i d c b j k l m n ((f++[(⟨e,W ((c.length:Int)+a),min2 d.count ((gt b a).count),q.1⟩:Arc)])) o p))) else((z92 φ r x) s t e u v w (W (a+1)) g h i d c b j k l m n f o p)))) else(r s t u (W (v+1)) g h i c b j k l m n f o p))
def zc8(φ:Nat):Nat->Int->Int->Int->Int->Int->Int->t09->t0c->Int->t00->Int->t00->t00->t07->t0b->t0b->t01
 |0,_,_,_,_,_,_,_,_,_,_,_,_,_,_,_,_=>none
 |q+1,b,e,p,a,f,g,c,h,i,j,k,l,m,d,n,o=>(if(decide (a<p))=true then(ck (rg a c.length) (ck (fits (d.length+([(⟨a,W (b+1),(gt c a).count,0⟩:Arc)]).length) 32) (if(!true)=true then(z7j φ f g c h i j k l m (d++[(⟨a,W (b+1),(gt c a).count,0⟩:Arc)]) n o) else((zc8 φ q) b e p (W (a+1)) f g c h i j k l m (d++[(⟨a,W (b+1),(gt c a).count,0⟩:Arc)]) n o)))) else(ck (fits (d.length+([(⟨b,W (b+1),e,0⟩:Arc)]).length) 32) (z7j φ f g c h i j k l m (d++[(⟨b,W (b+1),e,0⟩:Arc)]) n o)))
def zc7(φ:Nat):Nat->Int->Int->Int->Int->Int->Int->t0c->t09->Int->t00->Int->t00->t00->t07->t0b->t0b->t01
 |0,_,_,_,_,_,_,_,_,_,_,_,_,_,_,_,_=>none
 |q+1,d,o,p,a,f,g,b,c,h,i,j,k,l,e,m,n=>(if(decide (a<p))=true then(ck (rg a b.length) (ck (fits (e.length+([(⟨d,W ((c.length:Int)+a),(gt b a).count,(gt b a).weight⟩:Arc)]).length) 32) (if(!true)=true then(z7j φ f g c b h i j k l ((e++[(⟨d,W ((c.length:Int)+a),(gt b a).count,(gt b a).weight⟩:Arc)])) m n) else((zc7 φ q) d (W (o+(gt b a).count)) p (W (a+1)) f g b c h i j k l ((e++[(⟨d,W ((c.length:Int)+a),(gt b a).count,(gt b a).weight⟩:Arc)])) m n)))) else(zc8 φ φ d o (c.length:Int) 0 f g c b h i j k l e m n))
def zc6(φ:Nat):Nat->Int->Int->Int->Int->Int->Int->Pool->t09->t0c->Int->t00->Int->t00->t00->t07->t0b->t0b->t01
 |0,_,_,_,_,_,_,_,_,_,_,_,_,_,_,_,_,_=>none
 |q+1,d,e,f,a,g,h,r,b,c,i,j,k,l,m,n,o,p=>(if(decide (a<f))=true then(ck (rg a b.length) (z92 φ (zc6 φ q) φ d e a f a (c.length:Int) 0 g h r (gt b a) b c i j k l m n o p)) else(zc7 φ φ d e (c.length:Int) 0 g h c b i j k l m n o p))
def zc5(φ:Nat):Nat->Int->Int->Int->Int->Int->Int->t09->t0c->Pool->Int->t00->Int->t00->t00->t07->t0b->t0b->t01
 |0,_,_,_,_,_,_,_,_,_,_,_,_,_,_,_,_,_=>none
 |r+1,e,f,p,b,g,h,c,a,o,i,j,k,l,d,q,m,n=>(if(decide (b<p))=true then(ck (rg b a.length) ((z3r φ o (gt a b)).bind λs=>(if(!s.1)=true then(z5c φ g h 1 c a i j k l m n ([]:List Int) ([]:List Arc)) else(ck (fits (d.length+([(W (0-(gt a b).count))]).length) 8) ((zc5 φ r) e (W (f+(gt a b).count)) p (W (b+1)) g h c a o i j k l ((d++[(W (0-(gt a b).count))])) q m n))))) else(ck (fits (d.length+([f,(W (0-e))]).length) 8) (if(decide ((256:Int)<((d++[f,(W (0-e))]).length:Int)))=true then(z5c φ g h 2 c a i j k l m n ([]:List Int) ([]:List Arc)) else(zc6 φ φ (W ((c.length:Int)+(a.length:Int))) 0 (c.length:Int) 0 g h o c a i j k l (d++[f,(W (0-e))]) q m n))))
def zc4(φ:Nat):Nat->Int->Int->Int->Int->Int->Int->t09->t0c->Pool->Int->t00->Int->t00->t00->t07->t0b->t0b->t01
 |0,_,_,_,_,_,_,_,_,_,_,_,_,_,_,_,_,_=>none
 |r+1,n,o,p,b,d,e,a,c,f,g,h,i,j,k,q,l,m=>(if(decide (b<p))=true then(ck (rg b a.length) ((z31 φ f (gt a b)).bind λs=>(if(!s.1)=true then(z5c φ d e 1 a c g h i j l m ([]:List Int) ([]:List Arc)) else(ck (fits (k.length+([(gt a b).count]).length) 8) ((zc4 φ r) (W (n+(gt a b).count)) o p (W (b+1)) d e a c f g h i j (k++[(gt a b).count]) q l m))))) else(zc5 φ φ n o (c.length:Int) 0 d e a c f g h i j k q l m))
def za1(φ:Nat)(b c:Int)(a:t09)(d:t0c)(e:Int)(f:t00)(g:Int)(h:t00)(i j:t0b):t01:=((zbf φ).bind λk=>((z0z φ k.1).bind λl=>(if(l.1 !=0)=true then(z5c φ b c l.1 a d e f g h i j ([]:List Int) ([]:List Arc)) else(zc4 φ φ 0 0 (a.length:Int) 0 b c a d k.1 e f g h ([]:List Int) ([]:List Arc) i j))))
def z93(φ:Nat):Nat->t07->Int->Int->Int->t09->t0c->Int->t00->Flow->Int->t00->t0b->t0b->t01
 |0,_,_,_,_,_,_,_,_,_,_,_,_,_=>none
 |n+1,b,g,a,h,c,e,i,j,d,k,l,f,m=>(if(decide (a<g))=true then(ck (rg a b.length) (ck ((((decide (((gt b a).from_:Int)<(c.length:Int)))&&(decide (((gt b a).to:Int)<(W ((c.length:Int)+(e.length:Int))))))=true)->rg a d.x.length) (if(((decide (((gt b a).from_:Int)<(c.length:Int)))&&(decide (((gt b a).to:Int)<(W ((c.length:Int)+(e.length:Int))))))&&(decide ((0:Int)<(gt d.x a))))=true then(ck (rg a d.x.length) (ck (fits (f.length+([(⟨(gt b a).from_,W ((gt b a).to-(c.length:Int)),gt d.x a⟩:ze)]).length) 24) ((z93 φ n) b g (W (a+1)) h c e i j d k l ((f++[(⟨(gt b a).from_,W ((gt b a).to-(c.length:Int)),gt d.x a⟩:ze)])) m))) else((z93 φ n) b g (W (a+1)) h c e i j d k l f m)))) else(za1 φ h 0 c e k l i j m f))
def z4b(φ:Nat)(i c:Int)(d:t09)(e:t0c)(m f:Int)(g:t00)(k:t0b)(n j:t00)(b:t07)(h:t0b):t01:=(if(i !=0)=true then(za1 φ c i d e f g 0 ([]:List Int) h ([]:List ze)) else((zld φ (⟨j,b⟩:zq)).bind λa=>(if(a.2.1 !=0)=true then(za1 φ c a.2.1 d e f g 0 ([]:List Int) h ([]:List ze)) else((zox φ (⟨j,b⟩:zq) a.1).bind λl=>(z93 φ φ b (b.length:Int) 0 c d e l.1 a.1.price a.1 f g k h)))))
def z7k(φ:Nat)(a:Int)(b:t09)(c:t0c)(d e:Int)(f k:t00)(g:t07)(h:t0b)(i:t00)(j:t0b):t01:=(if(decide ((2048:Int)<(g.length:Int)))=true then(z4b φ 2 a b c d e f h i ([]:List Int) ([]:List Arc) j) else(z4b φ 0 a b c d e f h i k g j))
def z94(φ:Nat)(q :(Int->Int->Int->Int->Int->Pool->t09->t0c->Int->Int->t00->t00->t07->t0b->t00->t0b->t01)):Nat->Int->Int->Int->Int->Int->Int->Int->Int->Pool->za->t09->t0c->Int->Int->t00->t00->t07->t0b->t00->t0b->t01
 |0,_,_,_,_,_,_,_,_,_,_,_,_,_,_,_,_,_,_,_,_=>none
 |w+1,r,s,e,t,u,v,a,g,h,d,c,b,i,j,k,l,f,m,n,o=>(if(decide (a<v))=true then(ck (rg a b.length) ((z1s φ h d (gt b a)).bind λp=>(if p.2.1=true then(ck (fits (f.length+([(⟨e,W ((c.length:Int)+a),min2 d.count ((gt b a).count),p.1⟩:Arc)]).length) 32) (if(!true)=true then(z7k φ g c b i j k l ((f++[(⟨e,W ((c.length:Int)+a),min2 d.count ((gt b a).count),p.1⟩:Arc)])) m n o) else((z94 φ q w) r s e t u v (W (a+1)) g h d c b i j k l ((f++[(⟨e,W ((c.length:Int)+a),min2 d.count ((gt b a).count),p.1⟩:Arc)])) m n o))) else((z94 φ q w) r s e t u v (W (a+1)) g h d c b i j k l f m n o)))) else(q r s t (W (u+1)) g h c b i j k l f m n o))
def zcd(φ:Nat):Nat->Int->Int->Int->Int->Int->t09->t0c->Int->Int->t00->t00->t07->t0b->t00->t0b->t01
 |0,_,_,_,_,_,_,_,_,_,_,_,_,_,_,_=>none
 |p+1,b,e,o,a,f,c,g,h,i,j,k,d,l,m,n=>(if(decide (a<o))=true then(ck (rg a c.length) (ck (fits (d.length+([(⟨a,W (b+1),(gt c a).count,0⟩:Arc)]).length) 32) (if(!true)=true then(z7k φ f c g h i j k (d++[(⟨a,W (b+1),(gt c a).count,0⟩:Arc)]) l m n) else((zcd φ p) b e o (W (a+1)) f c g h i j k (d++[(⟨a,W (b+1),(gt c a).count,0⟩:Arc)]) l m n)))) else(ck (fits (d.length+([(⟨b,W (b+1),e,0⟩:Arc)]).length) 32) (z7k φ f c g h i j k (d++[(⟨b,W (b+1),e,0⟩:Arc)]) l m n)))
def zcc(φ:Nat):Nat->Int->Int->Int->Int->Int->t0c->t09->Int->Int->t00->t00->t07->t0b->t00->t0b->t01
 |0,_,_,_,_,_,_,_,_,_,_,_,_,_,_,_=>none
 |p+1,d,n,o,a,f,b,c,g,h,i,j,e,k,l,m=>(if(decide (a<o))=true then(ck (rg a b.length) (ck (fits (e.length+([(⟨d,W ((c.length:Int)+a),(gt b a).count,(gt b a).weight⟩:Arc)]).length) 32) (if(!true)=true then(z7k φ f c b g h i j ((e++[(⟨d,W ((c.length:Int)+a),(gt b a).count,(gt b a).weight⟩:Arc)])) k l m) else((zcc φ p) d (W (n+(gt b a).count)) o (W (a+1)) f b c g h i j ((e++[(⟨d,W ((c.length:Int)+a),(gt b a).count,(gt b a).weight⟩:Arc)])) k l m)))) else(zcd φ φ d n (c.length:Int) 0 f c b g h i j e k l m))
def zcb(φ:Nat):Nat->Int->Int->Int->Int->Int->Pool->t09->t0c->Int->Int->t00->t00->t07->t0b->t00->t0b->t01
 |0,_,_,_,_,_,_,_,_,_,_,_,_,_,_,_,_=>none
 |p+1,d,e,f,a,g,q,b,c,h,i,j,k,l,m,n,o=>(if(decide (a<f))=true then(ck (rg a b.length) (z94 φ (zcb φ p) φ d e a f a (c.length:Int) 0 g q (gt b a) b c h i j k l m n o)) else(zcc φ φ d e (c.length:Int) 0 g c b h i j k l m n o))
def zca(φ:Nat):Nat->Int->Int->Int->Int->Int->t09->t0c->Pool->Int->Int->t00->t00->t07->t0b->t00->t0b->t01
 |0,_,_,_,_,_,_,_,_,_,_,_,_,_,_,_,_=>none
 |q+1,e,f,o,b,g,c,a,n,h,i,j,d,p,k,l,m=>(if(decide (b<o))=true then(ck (rg b a.length) ((z3r φ n (gt a b)).bind λr=>(if(!r.1)=true then(z4b φ 1 g c a h i j k l ([]:List Int) ([]:List Arc) m) else(ck (fits (d.length+([(W (0-(gt a b).count))]).length) 8) ((zca φ q) e (W (f+(gt a b).count)) o (W (b+1)) g c a n h i j ((d++[(W (0-(gt a b).count))])) p k l m))))) else(ck (fits (d.length+([f,(W (0-e))]).length) 8) (if(decide ((256:Int)<((d++[f,(W (0-e))]).length:Int)))=true then(z4b φ 2 g c a h i j k l ([]:List Int) ([]:List Arc) m) else(zcb φ φ (W ((c.length:Int)+(a.length:Int))) 0 (c.length:Int) 0 g n c a h i j (d++[f,(W (0-e))]) p k l m))))
def zc9(φ:Nat):Nat->Int->Int->Int->Int->Int->t09->t0c->Pool->Int->Int->t00->t00->t07->t0b->t00->t0b->t01
 |0,_,_,_,_,_,_,_,_,_,_,_,_,_,_,_,_=>none
 |q+1,m,n,o,b,d,a,c,e,f,g,h,i,p,j,k,l=>(if(decide (b<o))=true then(ck (rg b a.length) ((z31 φ e (gt a b)).bind λr=>(if(!r.1)=true then(z4b φ 1 d a c f g h j k ([]:List Int) ([]:List Arc) l) else(ck (fits (i.length+([(gt a b).count]).length) 8) ((zc9 φ q) (W (m+(gt a b).count)) n o (W (b+1)) d a c e f g h (i++[(gt a b).count]) p j k l))))) else(zca φ φ m n (c.length:Int) 0 d a c e f g h i p j k l))
def za0(φ:Nat)(c:Int)(b:t09)(a:t0c)(d:Int)(e:t00)(f:t0b):t01:=(ck (rg 0 a.length) ((zbf φ).bind λg=>((z0z φ g.1).bind λh=>(if(h.1 !=0)=true then(z4b φ h.1 c b (zo a 0 (⟨(gt a 0).type_,(gt a 0).class_,(gt a 0).place,(gt a 0).from_,(gt a 0).to,(gt a 0).count,40⟩:zp)) 0 d e ([]:List ze) ([]:List Int) ([]:List Int) ([]:List Arc) f) else(zc9 φ φ 0 0 (b.length:Int) 0 c b (zo a 0 (⟨(gt a 0).type_,(gt a 0).class_,(gt a 0).place,(gt a 0).from_,(gt a 0).to,(gt a 0).count,40⟩:zp)) g.1 0 d e ([]:List Int) ([]:List Arc) ([]:List ze) ([]:List Int) f)))))
def z95(φ:Nat):Nat->t07->Int->Int->t09->t0c->Int->t00->Flow->t0b->t01
 |0,_,_,_,_,_,_,_,_,_=>none
 |j+1,b,g,a,c,e,h,i,d,f=>(if(decide (a<g))=true then(ck (rg a b.length) (ck ((((decide (((gt b a).from_:Int)<(c.length:Int)))&&(decide (((gt b a).to:Int)<(W ((c.length:Int)+(e.length:Int))))))=true)->rg a d.x.length) (if(((decide (((gt b a).from_:Int)<(c.length:Int)))&&(decide (((gt b a).to:Int)<(W ((c.length:Int)+(e.length:Int))))))&&(decide ((0:Int)<(gt d.x a))))=true then(ck (rg a d.x.length) (ck (fits (f.length+([(⟨(gt b a).from_,W ((gt b a).to-(c.length:Int)),gt d.x a⟩:ze)]).length) 24) ((z95 φ j) b g (W (a+1)) c e h i d ((f++[(⟨(gt b a).from_,W ((gt b a).to-(c.length:Int)),gt d.x a⟩:ze)]))))) else((z95 φ j) b g (W (a+1)) c e h i d f)))) else(za0 φ 0 c e h i f))
def z4c(φ:Nat)(e:Int)(c:t09)(d:t0c)(i:Int)(g:t0b)(j f:t00)(b:t07):t01:=(if(e !=0)=true then(za0 φ e c d 0 ([]:List Int) ([]:List ze)) else((zld φ (⟨f,b⟩:zq)).bind λa=>(if(a.2.1 !=0)=true then(za0 φ a.2.1 c d 0 ([]:List Int) ([]:List ze)) else((zox φ (⟨f,b⟩:zq) a.1).bind λh=>(z95 φ φ b (b.length:Int) 0 c d h.1 a.1.price a.1 g)))))
def z7l(φ:Nat)(a:t09)(b:t0c)(c:Int)(g:t00)(d:t07)(e:t0b)(f:t00):t01:=(if(decide ((2048:Int)<(d.length:Int)))=true then(z4c φ 2 a b c e f ([]:List Int) ([]:List Arc)) else(z4c φ 0 a b c e f g d))
def z96(φ:Nat)(m :(Int->Int->Int->Int->Pool->t09->t0c->Int->t00->t07->t0b->t00->t01)):Nat->Int->Int->Int->Int->Int->Int->Int->Pool->za->t09->t0c->Int->t00->t07->t0b->t00->t01
 |0,_,_,_,_,_,_,_,_,_,_,_,_,_,_,_,_=>none
 |s+1,n,o,e,p,q,r,a,g,d,c,b,h,i,f,j,k=>(if(decide (a<r))=true then(ck (rg a b.length) ((z1s φ g d (gt b a)).bind λl=>(if l.2.1=true then(ck (fits (f.length+([(⟨e,W ((c.length:Int)+a),min2 d.count ((gt b a).count),l.1⟩:Arc)]).length) 32) (if(!true)=true then(z7l φ c b h i ((f++[(⟨e,W ((c.length:Int)+a),min2 d.count ((gt b a).count),l.1⟩:Arc)])) j k) else((z96 φ m s) n o e p q r (W (a+1)) g d c b h i ((f++[(⟨e,W ((c.length:Int)+a),min2 d.count ((gt b a).count),l.1⟩:Arc)])) j k))) else((z96 φ m s) n o e p q r (W (a+1)) g d c b h i f j k)))) else(m n o p (W (q+1)) g c b h i f j k))
def zci(φ:Nat):Nat->Int->Int->Int->Int->t09->t0c->Int->t00->t07->t0b->t00->t01
 |0,_,_,_,_,_,_,_,_,_,_,_=>none
 |l+1,b,e,k,a,c,f,g,h,d,i,j=>(if(decide (a<k))=true then(ck (rg a c.length) (ck (fits (d.length+([(⟨a,W (b+1),(gt c a).count,0⟩:Arc)]).length) 32) (if(!true)=true then(z7l φ c f g h (d++[(⟨a,W (b+1),(gt c a).count,0⟩:Arc)]) i j) else((zci φ l) b e k (W (a+1)) c f g h (d++[(⟨a,W (b+1),(gt c a).count,0⟩:Arc)]) i j)))) else(ck (fits (d.length+([(⟨b,W (b+1),e,0⟩:Arc)]).length) 32) (z7l φ c f g h (d++[(⟨b,W (b+1),e,0⟩:Arc)]) i j)))
def zch(φ:Nat):Nat->Int->Int->Int->Int->t0c->t09->Int->t00->t07->t0b->t00->t01
 |0,_,_,_,_,_,_,_,_,_,_,_=>none
 |l+1,d,j,k,a,b,c,f,g,e,h,i=>(if(decide (a<k))=true then(ck (rg a b.length) (ck (fits (e.length+([(⟨d,W ((c.length:Int)+a),(gt b a).count,(gt b a).weight⟩:Arc)]).length) 32) (if(!true)=true then(z7l φ c b f g ((e++[(⟨d,W ((c.length:Int)+a),(gt b a).count,(gt b a).weight⟩:Arc)])) h i) else((zch φ l) d (W (j+(gt b a).count)) k (W (a+1)) b c f g ((e++[(⟨d,W ((c.length:Int)+a),(gt b a).count,(gt b a).weight⟩:Arc)])) h i)))) else(zci φ φ d j (c.length:Int) 0 c b f g e h i))
def zcg(φ:Nat):Nat->Int->Int->Int->Int->Pool->t09->t0c->Int->t00->t07->t0b->t00->t01
 |0,_,_,_,_,_,_,_,_,_,_,_,_=>none
 |l+1,d,e,f,a,m,b,c,g,h,i,j,k=>(if(decide (a<f))=true then(ck (rg a b.length) (z96 φ (zcg φ l) φ d e a f a (c.length:Int) 0 m (gt b a) b c g h i j k)) else(zch φ φ d e (c.length:Int) 0 c b g h i j k))
def zcf(φ:Nat):Nat->Int->Int->Int->Int->t09->t0c->Pool->Int->t00->t07->t0b->t00->t01
 |0,_,_,_,_,_,_,_,_,_,_,_,_=>none
 |m+1,e,f,k,b,c,a,j,g,d,l,h,i=>(if(decide (b<k))=true then(ck (rg b a.length) ((z3r φ j (gt a b)).bind λn=>(if(!n.1)=true then(z4c φ 1 c a g h i ([]:List Int) ([]:List Arc)) else(ck (fits (d.length+([(W (0-(gt a b).count))]).length) 8) ((zcf φ m) e (W (f+(gt a b).count)) k (W (b+1)) c a j g ((d++[(W (0-(gt a b).count))])) l h i))))) else(ck (fits (d.length+([f,(W (0-e))]).length) 8) (if(decide ((256:Int)<((d++[f,(W (0-e))]).length:Int)))=true then(z4c φ 2 c a g h i ([]:List Int) ([]:List Arc)) else(zcg φ φ (W ((c.length:Int)+(a.length:Int))) 0 (c.length:Int) 0 j c a g (d++[f,(W (0-e))]) l h i))))
def zce(φ:Nat):Nat->Int->Int->Int->Int->t09->t0c->Pool->Int->t00->t07->t0b->t00->t01
 |0,_,_,_,_,_,_,_,_,_,_,_,_=>none
 |m+1,i,j,k,b,a,c,d,e,f,l,g,h=>(if(decide (b<k))=true then(ck (rg b a.length) ((z31 φ d (gt a b)).bind λn=>(if(!n.1)=true then(z4c φ 1 a c e g h ([]:List Int) ([]:List Arc)) else(ck (fits (f.length+([(gt a b).count]).length) 8) ((zce φ m) (W (i+(gt a b).count)) j k (W (b+1)) a c d e (f++[(gt a b).count]) l g h))))) else(zcf φ φ i j (c.length:Int) 0 a c d e f l g h))
def ze0(φ:Nat):t01:=((zc0 φ 0 0 145 45).bind λa=>((zi (default,()) ((!a.1)=false) (zc0 φ 0 0 144 (-1))).bind λb=>((zi (default,()) (((!a.1)||(!b.1))=false) (zc0 φ 1 0 145 52)).bind λc=>((zi (default,()) ((((!a.1)||(!b.1))||(!c.1))=false) (zc0 φ 0 1 145 (-1))).bind λf=>(if((((!a.1)||(!b.1))||(!c.1))||(!f.1))=true then(some (false,())) else((zbf φ).bind λd=>((z0z φ d.1).bind λe=>(if(e.1 !=0)=true then(z4c φ e.1 ([(⟨0,1,0,100,2⟩:za)]) ([(⟨0,2,1,0,500,3,1000⟩:zp)]) 0 ([]:List ze) ([]:List Int) ([]:List Int) ([]:List Arc)) else(zce φ φ 0 0 (([(⟨0,1,0,100,2⟩:za)]).length:Int) 0 ([(⟨0,1,0,100,2⟩:za)]) ([(⟨0,2,1,0,500,3,1000⟩:zp)]) d.1 0 ([]:List Int) ([]:List Arc) ([]:List ze) ([]:List Int))))))))))
def zy4(φ:Nat):Fsp TV:=⟨[],[.val 2],λz=>ze0 φ⟩
def z3i(φ:Nat):Nat->Int->Pool->t01
 |0,_,_=>none
 |c+1,a,b=>(if(decide (a<(b.railways.length:Int)))=true then(ck (rg a b.railways.length) (if(decide ((100:Int)<((((gt b.railways a).calendar).holidays).length:Int)))=true then(some (false,())) else((z3i φ c) (W (a+1)) b))) else(some (true,())))
def z9b(φ:Nat)(a:Pool):t01:=(if(((((((decide ((16:Int)<(a.network.places.length:Int)))||(decide ((40:Int)<(a.network.edges.length:Int))))||(decide ((8:Int)<(a.fleet.wagons.length:Int))))||(decide ((8:Int)<(a.readers.length:Int))))||(decide ((100:Int)<(a.fleet.swaps.length:Int))))||(decide ((100:Int)<(a.fleet.washes.length:Int))))||(decide ((17:Int)<(a.railways.length:Int))))=true then(some (false,())) else(z3i φ φ 0 a))
def zly(φ:Nat):Fsp TV:=⟨[28],[.val 2],λz=>z9b φ z.1⟩
def zjo(φ:Nat)(a:Pool)(b:t09)(c:t0c):t01:=((z9b φ a).bind λd=>(some (((d.1&&(decide (((b.length:Int):Int)<=6)))&&(decide (((c.length:Int):Int)<=6))),())))
def y1h(φ:Nat):Fsp TV:=⟨[28,36,37],[.val 2],kq3 (zjo φ)⟩
def z1x(φ:Nat)(a b c:Int):t01:=(some (((decide (b<=a))&&(decide (a<=c))),()))
def zq7(φ:Nat):Fsp TV:=⟨[0,0,0],[.val 2],kq3 (z1x φ)⟩
def zf0(φ:Nat)(a:z8f):t01:=((z1x φ a.kind 1 5).bind λb=>((zi (default,()) ((!b.1)=false) (z1x φ a.railway 0 15)).bind λc=>(if((!b.1)||(!c.1))=true then(some (false,())) else(if((a.kind:Int)==3)=true then((z1x φ a.other 0 15).bind λd=>(some ((d.1&&((a.other:Int) !=a.railway)),()))) else(some (((a.other:Int)==(-1)),()))))))
def zvb(φ:Nat):Fsp TV:=⟨[3],[.val 2],λz=>zf0 φ z.1⟩
def zh7(φ:Nat)(c:Edge)(g:Int):t01:=((z1x φ c.a 0 (W (g-1))).bind λd=>((zi (default,()) (d.1=true) (z1x φ c.b 0 (W (g-1)))).bind λe=>((zi (default,()) (((d.1&&e.1)&&((c.a:Int) !=c.b))=true) (z1x φ c.railway 0 15)).bind λf=>((zi (default,()) ((((d.1&&e.1)&&((c.a:Int) !=c.b))&&f.1)=true) (z1x φ c.minutes 1 100000)).bind λh=>((zi (default,()) (((((d.1&&e.1)&&((c.a:Int) !=c.b))&&f.1)&&h.1)=true) (z1x φ c.km 0 10000)).bind λi=>(some ((((((d.1&&e.1)&&((c.a:Int) !=c.b))&&f.1)&&h.1)&&i.1),())))))))
def zym(φ:Nat):Fsp TV:=⟨[5,0],[.val 2],kq2 (zh7 φ)⟩
def z5e(φ:Nat):Nat->Int->zk->t03
 |0,_,_=>none
 |c+1,b,a=>(if(decide (b<(a.edges.length:Int)))=true then(ck (rg b a.edges.length) ((zh7 φ (gt a.edges b) (a.places.length:Int)).bind λd=>(if(!d.1)=true then(some (1,())) else((z5e φ c) (W (b+1)) a)))) else(some (0,())))
def z6q(φ:Nat):Nat->Int->zk->t03
 |0,_,_=>none
 |c+1,b,a=>(if(decide (b<(a.places.length:Int)))=true then(ck (rg b a.places.length) ((zf0 φ (gt a.places b)).bind λd=>(if(!d.1)=true then(some (1,())) else((z6q φ c) (W (b+1)) a)))) else(z5e φ φ 0 a))
def zcn(φ:Nat)(a:zk):t03:=(if((decide ((512:Int)<(a.places.length:Int)))||(decide ((2048:Int)<(a.edges.length:Int))))=true then(some (2,())) else(z6q φ φ 0 a))
def zv6(φ:Nat):Fsp TV:=⟨[7],[.val 0],λz=>zcn φ z.1⟩
def z01(φ:Nat)(a b c:Int):t01:=(some (((decide (b<=a))&&(decide (a<=c))),()))
def zry(φ:Nat):Fsp TV:=⟨[0,0,0],[.val 2],kq3 (z01 φ)⟩
def zcq(φ:Nat)(a:z34):t01:=((z01 φ a.load 0 1000000).bind λb=>((zi (default,()) (b.1=true) (z01 φ a.tare 0 1000000)).bind λc=>((zi (default,()) ((b.1&&c.1)=true) (z01 φ a.length 0 1000000)).bind λd=>((zi (default,()) (((b.1&&c.1)&&d.1)=true) (z01 φ a.brake 0 1000000)).bind λe=>((zi (default,()) ((((b.1&&c.1)&&d.1)&&e.1)=true) (z01 φ a.gauge 0 7)).bind λf=>((zi (default,()) (((((b.1&&c.1)&&d.1)&&e.1)&&f.1)=true) (z01 φ a.life 1 1073741824)).bind λg=>((zi (default,()) ((((((b.1&&c.1)&&d.1)&&e.1)&&f.1)&&g.1)=true) (z01 φ a.floor 0 100)).bind λh=>(some (((((((b.1&&c.1)&&d.1)&&e.1)&&f.1)&&g.1)&&h.1),())))))))))
def zlt(φ:Nat):Fsp TV:=⟨[9],[.val 2],λz=>zcq φ z.1⟩
def zau(φ:Nat)(a:zo5)(f:Int):t01:=((z01 φ a.type_ 0 (W (f-1))).bind λb=>((zi (default,()) (b.1=true) (z01 φ a.owner 0 63)).bind λc=>((zi (default,()) ((b.1&&c.1)=true) (z01 φ a.home 0 511)).bind λd=>((zi (default,()) (((b.1&&c.1)&&d.1)=true) (z01 φ a.built 0 1073741824)).bind λe=>((zi (default,()) ((((b.1&&c.1)&&d.1)&&e.1)=true) (z01 φ a.worth 0 1099511627776)).bind λg=>(some (((((b.1&&c.1)&&d.1)&&e.1)&&g.1),())))))))
def zk5(φ:Nat):Fsp TV:=⟨[11,0],[.val 2],kq2 (zau φ)⟩
def z61(φ:Nat):Nat->t1c->Int->t0r->t03
 |0,_,_,_=>none
 |f+1,a,b,c=>(if(decide (b<(a.length:Int)))=true then(ck (rg b a.length) ((z01 φ ((gt a b).from_) 0 63).bind λd=>((zi (default,()) ((!d.1)=false) (z01 φ ((gt a b).to) 0 63)).bind λe=>((zi (default,()) ((((!d.1)||(!e.1))||(((gt a b).from_:Int)==(gt a b).to))=false) (z01 φ ((gt a b).minutes) 0 100000)).bind λg=>(if((((!d.1)||(!e.1))||(((gt a b).from_:Int)==(gt a b).to))||(!g.1))=true then(some (1,())) else(ck (rg ((W ((W (64*(gt a b).from_))+(gt a b).to))) c.length) (if(gt c ((W ((W (64*(gt a b).from_))+(gt a b).to))))=true then(some (1,())) else(ck (rg ((W ((W (64*(gt a b).from_))+(gt a b).to))) c.length) ((z61 φ f) a (W (b+1)) ((zo c ((W ((W (64*(gt a b).from_))+(gt a b).to))) true))))))))))) else(some (0,())))
def zah(φ:Nat)(a:t1c):t03:=(ck (zd 4096 1) (z61 φ φ a 0 (List.replicate (4096:Int).toNat (default:Bool))))
def zrx(φ:Nat):Fsp TV:=⟨[16],[.val 0],λz=>zah φ z.1⟩
def z4d(φ:Nat):Nat->Int->z2h->t03
 |0,_,_=>none
 |e+1,b,a=>(if(decide (b<(a.swaps.length:Int)))=true then(ck (rg b a.swaps.length) ((z01 φ ((gt a.swaps b).wanted) 0 (W ((a.types.length:Int)-1))).bind λc=>((zi (default,()) ((!c.1)=false) (z01 φ ((gt a.swaps b).given) 0 (W ((a.types.length:Int)-1)))).bind λd=>((zi (default,()) ((((!c.1)||(!d.1))||(((gt a.swaps b).wanted:Int)==(gt a.swaps b).given))=false) (z01 φ ((gt a.swaps b).cost) 0 1000000000)).bind λf=>(if((((!c.1)||(!d.1))||(((gt a.swaps b).wanted:Int)==(gt a.swaps b).given))||(!f.1))=true then(some (1,())) else((z4d φ e) (W (b+1)) a)))))) else((zah φ a.washes).bind λg=>(some (g.1,()))))
def z5f(φ:Nat):Nat->Int->z2h->t03
 |0,_,_=>none
 |c+1,b,a=>(if(decide (b<(a.wagons.length:Int)))=true then(ck (rg b a.wagons.length) ((zau φ (gt a.wagons b) (a.types.length:Int)).bind λd=>(if(!d.1)=true then(some (1,())) else((z5f φ c) (W (b+1)) a)))) else(z4d φ φ 0 a))
def z6s(φ:Nat):Nat->Int->z2h->t03
 |0,_,_=>none
 |c+1,b,a=>(if(decide (b<(a.types.length:Int)))=true then(ck (rg b a.types.length) ((zcq φ (gt a.types b)).bind λd=>(if(!d.1)=true then(some (1,())) else((z6s φ c) (W (b+1)) a)))) else(z5f φ φ 0 a))
def z9v(φ:Nat)(a:z2h):t03:=(if((((decide ((32:Int)<(a.types.length:Int)))||(decide ((4096:Int)<(a.wagons.length:Int))))||(decide ((1024:Int)<(a.swaps.length:Int))))||(decide ((4096:Int)<(a.washes.length:Int))))=true then(some (2,())) else(z6s φ φ 0 a))
def zvc(φ:Nat):Fsp TV:=⟨[17],[.val 0],λz=>z9v φ z.1⟩
def z5h(φ:Nat):Nat->Int->Int->Pool->t01
 |0,_,_,_=>none
 |d+1,c,a,b=>(if(decide (a<(b.fleet.wagons.length:Int)))=true then(ck (rg a b.fleet.wagons.length) (if(decide (c<=(gt b.fleet.wagons a).home))=true then(some (false,())) else((z5h φ d) c (W (a+1)) b))) else(some (true,())))
def z5g(φ:Nat):Nat->Int->Int->Pool->t01
 |0,_,_,_=>none
 |e+1,c,b,a=>(if(decide (b<(a.shippers.length:Int)))=true then(ck (rg b a.shippers.length) ((z01 φ ((gt a.shippers b).place) 0 (W (c-1))).bind λd=>(ck (((!d.1)=false)->rg b a.shippers.length) (ck (((!d.1)=false)->rg (gt a.shippers b).place a.network.places.length) (if((!d.1)||(((gt a.network.places ((gt a.shippers b).place)).kind:Int) !=4))=true then(some (false,())) else((z5g φ e) c (W (b+1)) a)))))) else(z5h φ φ c 0 a))
def z7t(φ:Nat):Nat->Int->Int->Pool->t01
 |0,_,_,_=>none
 |d+1,c,b,a=>(if(decide (b<(a.readers.length:Int)))=true then(ck (rg b a.readers.length) ((z01 φ ((gt a.readers b).place) 0 (W (c-1))).bind λe=>(if((((!e.1)||(decide (((gt a.readers b).low:Int)<(-1000))))||(decide (((gt a.readers b).high:Int)<(gt a.readers b).low)))||(decide ((1000:Int)<(gt a.readers b).high)))=true then(some (false,())) else((z7t φ d) c (W (b+1)) a)))) else(z5g φ φ c 0 a))
def zh8(φ:Nat)(a:Pool):t01:=(z7t φ φ (a.network.places.length:Int) 0 a)
def zyo(φ:Nat):Fsp TV:=⟨[28],[.val 2],λz=>zh8 φ z.1⟩
def z5i(φ:Nat):Nat->Int->Int->Pool->t01
 |0,_,_,_=>none
 |d+1,c,a,b=>(if(decide (a<(b.network.edges.length:Int)))=true then(ck (rg a b.network.edges.length) (if(decide (c<=(gt b.network.edges a).railway))=true then(some (false,())) else((z5i φ d) c (W (a+1)) b))) else(some (true,())))
def z6u(φ:Nat):Nat->Int->Int->Pool->t01
 |0,_,_,_=>none
 |d+1,c,b,a=>(if(decide (b<(a.network.places.length:Int)))=true then(ck (rg b a.network.places.length) (if((decide (c<=(gt a.network.places b).railway))||(decide (c<=(gt a.network.places b).other)))=true then(some (false,())) else((z6u φ d) c (W (b+1)) a))) else(z5i φ φ c 0 a))
def zf3(φ:Nat)(a:Pool):t01:=(z6u φ φ (a.railways.length:Int) 0 a)
def zvj(φ:Nat):Fsp TV:=⟨[28],[.val 2],λz=>zf3 φ z.1⟩
def z6p(φ:Nat):Nat->Int->z6a->t03
 |0,_,_=>none
 |c+1,a,b=>(if(decide (a<(b.holidays.length:Int)))=true then(ck (rg a b.holidays.length) (ck ((((decide (((gt b.holidays a):Int)<0))||(decide ((745654:Int)<(gt b.holidays a))))=false/\(decide ((0:Int)<a))=true)->rg (W (a-1)) b.holidays.length) (if(((decide (((gt b.holidays a):Int)<0))||(decide ((745654:Int)<(gt b.holidays a))))||((decide ((0:Int)<a))&&(decide (((gt b.holidays a):Int)<=(gt b.holidays (W (a-1)))))))=true then(some (1,())) else((z6p φ c) (W (a+1)) b)))) else(some (0,())))
def z6o(φ:Nat):Nat->Int->z6a->t03
 |0,_,_=>none
 |c+1,a,b=>(if(decide (a<7))=true then(ck (rg a 7) (if(((decide (((b.open_ (a.toNat)).from_:Int)<0))||(decide (((b.open_ (a.toNat)).to:Int)<(b.open_ (a.toNat)).from_)))||(decide ((1440:Int)<(b.open_ (a.toNat)).to)))=true then(some (1,())) else((z6o φ c) (W (a+1)) b))) else(z6p φ φ 0 b))
def zez(φ:Nat)(a:z6a):t03:=(z6o φ φ 0 a)
def zv5(φ:Nat):Fsp TV:=⟨[25],[.val 0],λz=>zez φ z.1⟩
def z99(φ:Nat)(c :(Int->Int->Int->Int->t03))(b d a e:Int):t03:=(ck (a≠0) (if(2:Int)≠0 then(c ((((U (b+b)):Int).tmod a)) (U (d.tdiv 2)) a e) else none))
def z3x(φ:Nat):Nat->Int->Int->Int->Int->t03
 |0,_,_,_,_=>none
 |e+1,c,a,b,d=>(if(decide ((0:Int)<a))=true then(if(2:Int)≠0 then(if(((a.tmod 2):Int)==1)=true then(ck (b≠0) (z99 φ (z3x φ e) c a b ((((U (d+c)):Int).tmod b)))) else(z99 φ (z3x φ e) c a b d)) else none) else(some (d,())))
def zcm(φ:Nat)(a b c:Int):t03:=(z3x φ φ a b c 0)
def zv1(φ:Nat):Fsp TV:=⟨[8,8,8],[.val 8],kq3 (zcm φ)⟩
def zb7(φ:Nat)(b :(Int->Int->Int->t03))(a c d:Int):t03:=((zcm φ a a 2305843009213690799).bind λe=>(if(2:Int)≠0 then(b e.1 (U (c.tdiv 2)) d) else none))
def z69(φ:Nat):Nat->Int->Int->Int->t03
 |0,_,_,_=>none
 |d+1,b,a,c=>(if(decide ((0:Int)<a))=true then(if(2:Int)≠0 then(if(((a.tmod 2):Int)==1)=true then((zcm φ c b 2305843009213690799).bind λe=>(zb7 φ (z69 φ d) b a e.1)) else(zb7 φ (z69 φ d) b a c)) else none) else(some (c,())))
def zk2(φ:Nat)(a b:Int):t03:=(if(2305843009213690799:Int)≠0 then(z69 φ φ (a.tmod 2305843009213690799) b 1) else none)
def y1z(φ:Nat):Fsp TV:=⟨[8,8],[.val 8],kq2 (zk2 φ)⟩
def zey(φ:Nat)(a:Int):t01:=((zi (default,()) (((decide ((2:Int)<=a))&&(decide (a<2305843009213690799)))=true) (zk2 φ a 1152921504606845399)).bind λb=>(some ((((decide ((2:Int)<=a))&&(decide (a<2305843009213690799)))&&(b.1==1)),())))
def zv3(φ:Nat):Fsp TV:=⟨[8],[.val 2],λz=>zey φ z.1⟩
def z1y(φ:Nat):Nat->Int->Pool->t03
 |0,_,_=>none
 |d+1,b,a=>(if(decide (b<(a.railways.length:Int)))=true then(ck (rg b a.railways.length) ((zez φ ((gt a.railways b).calendar)).bind λc=>(ck (((c.1 !=0)=false)->rg b a.railways.length) ((zi (default,()) ((c.1 !=0)=false) (zey φ ((gt a.railways b).key))).bind λe=>(if((c.1 !=0)||(!e.1))=true then(some (1,())) else((z1y φ d) (W (b+1)) a)))))) else(if(((a.railways.length:Int):Int)==0)=true then(some (1,())) else(some (0,()))))
def z5y(φ:Nat)(a:Pool):t03:=((zcn φ a.network).bind λb=>(if(b.1 !=0)=true then(some (b.1,())) else((z9v φ a.fleet).bind λc=>(if(c.1 !=0)=true then(some (c.1,())) else(if(((decide ((256:Int)<(a.readers.length:Int)))||(decide ((256:Int)<(a.shippers.length:Int))))||(decide ((16:Int)<(a.railways.length:Int))))=true then(some (2,())) else((zh8 φ a).bind λd=>((zi (default,()) ((!d.1)=false) (zf3 φ a)).bind λe=>(if((!d.1)||(!e.1))=true then(some (1,())) else(z1y φ φ 0 a)))))))))
def zlr(φ:Nat):Fsp TV:=⟨[28],[.val 0],λz=>z5y φ z.1⟩
def z0o(φ:Nat)(a b c:Int):t01:=(some (((decide (b<=a))&&(decide (a<=c))),()))
def zqk(φ:Nat):Fsp TV:=⟨[0,0,0],[.val 2],kq3 (z0o φ)⟩
def zdb(φ:Nat)(e:Pool)(a:za):t01:=((z0o φ a.type_ 0 (W ((e.fleet.types.length:Int)-1))).bind λb=>((zi (default,()) (b.1=true) (z0o φ a.class_ (-1) 63)).bind λc=>((zi (default,()) ((b.1&&c.1)=true) (z0o φ a.place 0 (W ((e.network.places.length:Int)-1)))).bind λd=>((zi (default,()) (((b.1&&c.1)&&d.1)=true) (z0o φ a.at_ 0 1073741824)).bind λf=>((zi (default,()) ((((b.1&&c.1)&&d.1)&&f.1)=true) (z0o φ a.count 1 4096)).bind λg=>(some (((((b.1&&c.1)&&d.1)&&f.1)&&g.1),())))))))
def zs6(φ:Nat):Fsp TV:=⟨[28,1],[.val 2],kq2 (zdb φ)⟩
def zf6(φ:Nat)(f:Pool)(a:zp):t01:=((z0o φ a.type_ 0 (W ((f.fleet.types.length:Int)-1))).bind λb=>((zi (default,()) (b.1=true) (z0o φ a.class_ 0 63)).bind λc=>((zi (default,()) ((b.1&&c.1)=true) (z0o φ a.place 0 (W ((f.network.places.length:Int)-1)))).bind λd=>((zi (default,()) (((b.1&&c.1)&&d.1)=true) (z0o φ a.from_ 0 a.to)).bind λe=>((zi (default,()) (((((b.1&&c.1)&&d.1)&&e.1)&&(decide ((a.to:Int)<=1073741824)))=true) (z0o φ a.count 1 1000)).bind λg=>((zi (default,()) ((((((b.1&&c.1)&&d.1)&&e.1)&&(decide ((a.to:Int)<=1073741824)))&&g.1)=true) (z0o φ a.weight 0 1000000000)).bind λh=>(some (((((((b.1&&c.1)&&d.1)&&e.1)&&(decide ((a.to:Int)<=1073741824)))&&g.1)&&h.1),()))))))))
def zvw(φ:Nat):Fsp TV:=⟨[28,30],[.val 2],kq2 (zf6 φ)⟩
def z7m(φ:Nat)(a:zk)(b:Int):t01:=((z1x φ b 0 (W ((a.places.length:Int)-1))).bind λc=>(some (c.1,())))
def zrp(φ:Nat):Fsp TV:=⟨[7,0],[.val 2],kq2 (z7m φ)⟩
def zag(φ:Nat)(a b:Int):t03:=(if(decide (a<0))=true then(some (b,())) else(some ((min2 a b),())))
def zrr(φ:Nat):Fsp TV:=⟨[0,0],[.val 0],kq2 (zag φ)⟩
def z5x(φ:Nat)(g:t1d)(e:Bool)(h f i:Int)(j:zk)(c:t00)(d:Edge):t0j:=(ck ((e=false)->rg d.a c.length) (ck (((e||(((gt c d.a):Int) !=f))=false)->rg d.b c.length) (g (((e||(((gt c d.a):Int) !=f))||(((gt c d.b):Int) !=i))) (W (h+1)) j c)))
def z7n(φ:Nat)(f:t1d)(g:Bool)(h d c:Int)(i:zk)(e:t00)(b:Edge):t0j:=(if(decide ((0:Int)<=c))=true then((zag φ d (W (c+b.minutes))).bind λj=>(ck (rg b.a e.length) (z5x φ f g h d c i (zo e b.a j.1) b))) else(z5x φ f g h d c i e b))
def z0t(φ:Nat)(f :(Bool->zk->t00->t0j)):Nat->Bool->Int->zk->t00->t0j
 |0,_,_,_,_=>none
 |h+1,g,d,c,e=>(if(decide (d<(c.edges.length:Int)))=true then(ck (rg d c.edges.length) (ck (rg (gt c.edges d).a e.length) (ck (rg (gt c.edges d).b e.length) (if(decide ((0:Int)<=(gt e ((gt c.edges d).a))))=true then((zag φ (gt e ((gt c.edges d).b)) ((W ((gt e ((gt c.edges d).a))+(gt c.edges d).minutes)))).bind λi=>(ck (rg (gt c.edges d).b e.length) (z7n φ (z0t φ f h) g d (gt e ((gt c.edges d).a)) (gt e ((gt c.edges d).b)) c (zo e ((gt c.edges d).b) i.1) (gt c.edges d)))) else(z7n φ (z0t φ f h) g d (gt e ((gt c.edges d).a)) (gt e ((gt c.edges d).b)) c e (gt c.edges d)))))) else(f g c e))
def z1w(φ:Nat):Nat->Bool->zk->t00->t0j
 |0,_,_,_=>none
 |b+1,c,d,a=>(if c=true then(z0t φ (z1w φ b) φ false 0 d a) else(some (a,0,())))
def z6r(φ:Nat):Nat->Int->Int->zk->t00->t0j
 |0,_,_,_,_=>none
 |e+1,c,b,d,a=>(if(decide (b<(a.length:Int)))=true then(ck (rg b a.length) ((z6r φ e) c (W (b+1)) d (zo a b (-1)))) else(ck (rg c a.length) (z1w φ φ true d (zo a c 0))))
def z9u(φ:Nat)(a:zk)(b:Int):t0j:=((zcn φ a).bind λc=>(if(c.1 !=0)=true then(some (([]:List Int),c.1,())) else((z7m φ a b).bind λd=>(if(!d.1)=true then(some (([]:List Int),1,())) else(ck (zd (a.places.length:Int) 8) (z6r φ φ b 0 a (List.replicate ((a.places.length:Int):Int).toNat (default:Int))))))))
def zv8(φ:Nat):Fsp TV:=⟨[7,0],[.val 24,.val 0],kq2 (z9u φ)⟩
def z3s(φ:Nat)(c:zk)(d b:Int):t0f:=((z9u φ c d).bind λa=>(if(a.2.1 !=0)=true then(some (0,a.2.1,())) else((z7m φ c b).bind λe=>(if(!e.1)=true then(some (0,1,())) else(ck (rg b a.1.length) (if(decide (((gt a.1 b):Int)<0))=true then(some (0,80,())) else(ck (rg b a.1.length) (some ((gt a.1 b),0,())))))))))
def zq6(φ:Nat):Fsp TV:=⟨[7,0,0],[.val 0,.val 0],kq3 (z3s φ)⟩
def z5z(φ:Nat):Nat->Int->Int->Int->z2h->t0f
 |0,_,_,_,_=>none
 |e+1,c,d,a,b=>(if(decide (a<(b.washes.length:Int)))=true then(ck (rg a b.washes.length) (ck (((((gt b.washes a).from_:Int)==c)=true)->rg a b.washes.length) (if((((gt b.washes a).from_:Int)==c)&&(((gt b.washes a).to:Int)==d))=true then(ck (rg a b.washes.length) (some ((gt b.washes a).minutes,0,()))) else((z5z φ e) c d (W (a+1)) b)))) else(some (0,0,())))
def zcp(φ:Nat)(a:z2h)(b c:Int):t0f:=((z9v φ a).bind λd=>(if(d.1 !=0)=true then(some (0,d.1,())) else((z01 φ b 0 63).bind λe=>((zi (default,()) ((!e.1)=false) (z01 φ c 0 63)).bind λf=>(if((!e.1)||(!f.1))=true then(some (0,1,())) else(z5z φ φ b c 0 a))))))
def zve(φ:Nat):Fsp TV:=⟨[17,0,0],[.val 0,.val 0],kq3 (zcp φ)⟩
def z1z(φ:Nat)(d :(Int->Int->z2h->t00->t0y)):Nat->Int->Int->Int->z2h->t00->t0y
 |0,_,_,_,_,_=>none
 |g+1,e,f,b,a,c=>(if(decide (b<(a.swaps.length:Int)))=true then(ck (rg b a.swaps.length) (ck (rg (gt a.swaps b).wanted c.length) (if(decide (((gt c ((gt a.swaps b).wanted)):Int)<0))=true then((z1z φ d g) e f (W (b+1)) a c) else(ck (rg (gt a.swaps b).wanted c.length) (ck (rg (gt a.swaps b).given c.length) (ck (((decide (((gt c ((gt a.swaps b).given)):Int)<0))=false)->rg (gt a.swaps b).given c.length) (if((decide (((gt c ((gt a.swaps b).given)):Int)<0))||(decide (((W ((gt c ((gt a.swaps b).wanted))+(gt a.swaps b).cost)):Int)<(gt c ((gt a.swaps b).given)))))=true then(ck (rg (gt a.swaps b).given c.length) ((z1z φ d g) e f (W (b+1)) a ((zo c ((gt a.swaps b).given) ((W ((gt c ((gt a.swaps b).wanted))+(gt a.swaps b).cost))))))) else((z1z φ d g) e f (W (b+1)) a c)))))))) else(d e (W (f+1)) a c))
def z3d(φ:Nat):Nat->Int->Int->t00->t12->t0y
 |0,_,_,_,_=>none
 |e+1,c,a,b,d=>(if(decide (a<(b.length:Int)))=true then(ck (rg a b.length) (if(decide ((0:Int)<=(gt b a)))=true then(ck (rg a b.length) (ck (fits (d.length+([(⟨c,a,gt b a⟩:Swap)]).length) 24) ((z3d φ e) c (W (a+1)) b (d++[(⟨c,a,gt b a⟩:Swap)])))) else((z3d φ e) c (W (a+1)) b d))) else(some (d,0,())))
def z60(φ:Nat):Nat->Int->Int->z2h->t00->t0y
 |0,_,_,_,_=>none
 |e+1,a,b,c,d=>(if(decide (b<(c.types.length:Int)))=true then(z1z φ (z60 φ e) φ a b 0 c d) else(z3d φ φ a 0 d ([]:List Swap)))
def z6t(φ:Nat):Nat->Int->Int->z2h->t00->t0y
 |0,_,_,_,_=>none
 |e+1,b,c,d,a=>(if(decide (c<(a.length:Int)))=true then(ck (rg c a.length) ((z6t φ e) b (W (c+1)) d (zo a c (-1)))) else(ck (rg b a.length) (z60 φ φ b 0 d (zo a b 0))))
def zf2(φ:Nat)(a:z2h)(b:Int):t0y:=((z9v φ a).bind λc=>(if(c.1 !=0)=true then(some (([]:List Swap),c.1,())) else((z01 φ b 0 (W ((a.types.length:Int)-1))).bind λd=>(if(!d.1)=true then(some (([]:List Swap),90,())) else(ck (zd (a.types.length:Int) 8) (z6t φ φ b 0 a (List.replicate ((a.types.length:Int):Int).toNat (default:Int))))))))
def zvg(φ:Nat):Fsp TV:=⟨[17,0],[.val 14,.val 0],kq2 (zf2 φ)⟩
def z4g(φ:Nat):Nat->Int->Int->t12->Int->za->zp->t0p
 |0,_,_,_,_,_,_=>none
 |g+1,c,d,a,b,e,f=>(if(decide (b<(a.length:Int)))=true then(ck (rg b a.length) (if(((gt a b).given:Int)==e.type_)=true then(ck (rg b a.length) (if((decide (((W ((W (e.at_+c))+d)):Int)<=f.to))&&(decide (((W ((W (c+d))+(gt a b).cost)):Int)<=1000000000)))=true then(some ((W ((W (c+d))+(gt a b).cost)),true,())) else((z4g φ g) c d a (W (b+1)) e f))) else((z4g φ g) c d a (W (b+1)) e f))) else(some (0,false,())))
def z4h(φ:Nat)(b c:Int)(d:Pool)(e:za)(a:zp):t0p:=((zf2 φ d.fleet a.type_).bind λf=>(z4g φ φ b c f.1 0 e a))
def z8h(φ:Nat)(b:Pool)(a:za)(c:zp):t0p:=((z3s φ b.network a.place c.place).bind λd=>(ck (((d.2.1 !=0)=false)->rg a.type_ b.fleet.types.length) (ck (((d.2.1 !=0)=false)->0<=c.class_) (if(2:Int)≠0 then(if((d.2.1 !=0)||(((((((gt b.fleet.types a.type_).classes:Int).fdiv (2 ^ (min (c.class_:Int).toNat 64))):Int).tmod 2):Int)==0))=true then(some (0,false,())) else(if(decide ((0:Int)<=a.class_))=true then((zcp φ b.fleet a.class_ c.class_).bind λe=>(z4h φ d.1 e.1 b a c)) else(z4h φ d.1 0 b a c))) else none))))
def zvx(φ:Nat):Fsp TV:=⟨[28,1,30],[.val 0,.val 2],kq3 (z8h φ)⟩
def z32(φ:Nat)(g :(t09->t0c->Int->Int->Int->Pool->t00->t07->t00->t07->t0d)):Nat->t09->t0c->Int->Int->Int->Int->Pool->t00->t07->t00->t07->t0d
 |0,_,_,_,_,_,_,_,_,_,_,_=>none
 |n+1,a,d,h,i,b,c,e,j,k,l,f=>(if(decide (c<(d.length:Int)))=true then(ck (rg b a.length) (ck (rg c d.length) ((z8h φ e (gt a b) (gt d c)).bind λm=>(if m.2.1=true then(ck (rg b a.length) (ck (rg c d.length) (ck (fits (f.length+([(⟨b,W ((a.length:Int)+c),min2 ((gt a b).count) ((gt d c).count),m.1⟩:Arc)]).length) 32) ((z32 φ g n) a d h i b (W (c+1)) e j k l ((f++[(⟨b,W ((a.length:Int)+c),min2 ((gt a b).count) ((gt d c).count),m.1⟩:Arc)])))))) else((z32 φ g n) a d h i b (W (c+1)) e j k l f))))) else(g a d h i (W (b+1)) e j k l f))
def z3v(φ:Nat):Nat->t09->Int->Int->Int->t00->t07->t00->t07->t0d
 |0,_,_,_,_,_,_,_,_=>none
 |g+1,c,e,a,b,h,i,f,d=>(if(decide (b<(c.length:Int)))=true then(ck (rg b c.length) (ck (fits (d.length+([(⟨b,W (a+1),(gt c b).count,0⟩:Arc)]).length) 32) ((z3v φ g) c e a (W (b+1)) h i f (d++[(⟨b,W (a+1),(gt c b).count,0⟩:Arc)])))) else(ck (fits (d.length+([(⟨a,W (a+1),e,0⟩:Arc)]).length) 32) (if(decide ((2048:Int)<((d++[(⟨a,W (a+1),e,0⟩:Arc)]).length:Int)))=true then(some ((⟨([]:List Int),([]:List Arc)⟩:zq),2,())) else(some ((⟨f,d++[(⟨a,W (a+1),e,0⟩:Arc)]⟩:zq),0,())))))
def z20(φ:Nat):Nat->t09->t0c->Int->Int->Int->t00->t07->t00->t07->t0d
 |0,_,_,_,_,_,_,_,_,_=>none
 |j+1,c,b,f,d,a,g,h,i,e=>(if(decide (a<(b.length:Int)))=true then(ck (rg a b.length) (ck (rg a b.length) (ck (fits (e.length+([(⟨d,W ((c.length:Int)+a),(gt b a).count,(gt b a).weight⟩:Arc)]).length) 32) ((z20 φ j) c b f d (W (a+1)) g h i ((e++[(⟨d,W ((c.length:Int)+a),(gt b a).count,(gt b a).weight⟩:Arc)])))))) else(z3v φ φ c f d 0 g h i e))
def z3u(φ:Nat):Nat->t09->t0c->Int->Int->Int->Pool->t00->t07->t00->t07->t0d
 |0,_,_,_,_,_,_,_,_,_,_=>none
 |j+1,a,b,c,d,e,k,f,g,h,i=>(if(decide (e<(a.length:Int)))=true then(z32 φ (z3u φ j) φ a b c d e 0 k f g h i) else(z20 φ φ a b c d 0 f g h i))
def z3t(φ:Nat):Nat->t09->t0c->Int->Int->Int->Pool->t00->t07->t00->t07->t0d
 |0,_,_,_,_,_,_,_,_,_,_=>none
 |k+1,f,a,e,c,b,g,h,i,d,j=>(if(decide (b<(a.length:Int)))=true then(ck (rg b a.length) ((zf6 φ g (gt a b)).bind λl=>(if(!l.1)=true then(some ((⟨([]:List Int),([]:List Arc)⟩:zq),1,())) else(ck (rg b a.length) (ck (rg b a.length) (ck (fits (d.length+([(W (0-(gt a b).count))]).length) 8) ((z3t φ k) f a e (W (c+(gt a b).count)) (W (b+1)) g h i ((d++[(W (0-(gt a b).count))])) j))))))) else(ck (fits (d.length+([c,(W (0-e))]).length) 8) (if(decide ((256:Int)<((d++[c,(W (0-e))]).length:Int)))=true then(some ((⟨([]:List Int),([]:List Arc)⟩:zq),2,())) else(z3u φ φ f a c (W ((f.length:Int)+(a.length:Int))) 0 g h i (d++[c,(W (0-e))]) j))))
def z4x(φ:Nat):Nat->t09->t0c->Int->Int->Int->Pool->t00->t07->t00->t07->t0d
 |0,_,_,_,_,_,_,_,_,_,_=>none
 |k+1,a,e,f,g,b,c,h,i,d,j=>(if(decide (b<(a.length:Int)))=true then(ck (rg b a.length) ((zdb φ c (gt a b)).bind λl=>(if(!l.1)=true then(some ((⟨([]:List Int),([]:List Arc)⟩:zq),1,())) else(ck (rg b a.length) (ck (rg b a.length) (ck (fits (d.length+([(gt a b).count]).length) 8) ((z4x φ k) a e (W (f+(gt a b).count)) g (W (b+1)) c h i (d++[(gt a b).count]) j))))))) else(z3t φ φ a e f g 0 c h i d j))
def zgf(φ:Nat)(a:Pool)(c:t09)(d:t0c):t0d:=((z5y φ a).bind λb=>(if(b.1 !=0)=true then(some ((⟨([]:List Int),([]:List Arc)⟩:zq),b.1,())) else(z4x φ φ c d 0 0 0 a ([]:List Int) ([]:List Arc) ([]:List Int) ([]:List Arc))))
def y23(φ:Nat):Fsp TV:=⟨[28,36,37],[.val 40,.val 0],kq3 (zgf φ)⟩
def z2r(φ:Nat):Nat->t08->Int->t01
 |0,_,_=>none
 |c+1,a,b=>(if(decide (b<(a.length:Int)))=true then(ck (rg b a.length) (ck (((decide ((40:Int)<((((gt a b).item).parts).length:Int)))=false)->rg b a.length) (if((decide ((40:Int)<((((gt a b).item).parts).length:Int)))||(decide ((2000:Int)<(((gt a b).item).text.size:Int))))=true then(some (false,())) else((z2r φ c) a (W (b+1)))))) else(some (true,())))
def z8c(φ:Nat)(a:t08)(b:Int):t01:=(if(decide (b<(a.length:Int)))=true then(some (false,())) else(z2r φ φ a 0))
def zkb(φ:Nat):Fsp TV:=⟨[54,0],[.val 2],kq2 (z8c φ)⟩
def z7q(φ:Nat)(a:Item):t01:=(if(((a.ref.railway:Int)==0)&&(((a.ref.no:Int)==0)&&true))=true then(some (((a.kind:Int) !=14),())) else(some (((((decide ((0:Int)<=a.ref.railway))&&(decide ((a.ref.railway:Int)<16)))&&(decide ((1:Int)<=a.ref.no)))&&(decide ((a.ref.no:Int)<=4096))),())))
def zom(φ:Nat):Fsp TV:=⟨[52],[.val 2],λz=>z7q φ z.1⟩
def z8l(φ:Nat):Nat->t0t->Bool->t0t->Int->Int->t01
 |0,_,_,_,_,_=>none
 |f+1,c,d,b,e,a=>(if(decide (a<e))=true then(ck (rg a b.length) (if(((((decide (((gt b a).kind:Int)<1))||(decide ((3:Int)<(gt b a).kind)))||(decide (((gt b a).serial:Int)<0)))||(decide ((1073741824:Int)<(gt b a).serial)))||((gt b a).fitted&&(!d)))=true then(some (false,())) else((z8l φ f) c d b e (W (a+1))))) else(some ((decide (((c.length:Int):Int)<=16)),())))
def zfz(φ:Nat)(a:t0t)(b:Bool):t01:=(z8l φ φ a b a (a.length:Int) 0)
def y0o(φ:Nat):Fsp TV:=⟨[51,2],[.val 2],kq2 (zfz φ)⟩
def zf(φ:Nat)(a:zl):t01:=(some ((((((((((((((a.ok&&((a.it.wagon:Int)==0))&&((a.it.place:Int)==0))&&((a.it.other:Int)==0))&&((a.it.number:Int)==0))&&((a.it.from_:Int)==0))&&((a.it.to:Int)==0))&&((a.it.code:Int)==0))&&((a.it.dest:Int)==0))&&((a.it.class_:Int)==0))&&((a.it.weight:Int)==0))&&((a.it.amount:Int)==0))&&(a.it.text==(⟨#[]⟩:ByteArray)))&&(((a.it.parts.length:Int):Int)==0)),()))
end Px
end
section
set_option maxHeartbeats 4000000
set_option maxRecDepth 100000
namespace Px
open Go Go.RowKit
def z6d(φ:Nat)(b:Int)(a:zl)(c:z8f):t01:=(zf φ ((⟨a.p,(⟨a.it.kind,a.it.ref,a.it.wagon,0,a.it.other,a.it.number,0,0,a.it.code,a.it.dest,a.it.class_,a.it.weight,a.it.amount,a.it.text,a.it.parts⟩:Item),(((((a.ok&&((c.kind:Int) !=0))&&((b==0)||((c.kind:Int)==b)))&&(decide (((max2 a.it.from_ 0):Int)<=a.it.to)))&&(decide ((a.it.to:Int)<=1073741824)))&&(decide ((0:Int)<=a.it.from_)))&&(decide ((a.it.from_:Int)<=1073741824))⟩:zl)))
def z54(φ:Nat)(c:Int)(a:zl)(b:z8f):t01:=(zf φ ((⟨a.p,(⟨a.it.kind,a.it.ref,a.it.wagon,0,0,a.it.number,0,a.it.to,0,a.it.dest,a.it.class_,a.it.weight,a.it.amount,a.it.text,a.it.parts⟩:Item),((((((a.ok&&((b.kind:Int) !=0))&&((c==0)||((b.kind:Int)==c)))&&(((a.it.other:Int)==b.railway)||((a.it.other:Int)==b.other)))&&(decide ((0:Int)<=a.it.from_)))&&(decide ((a.it.from_:Int)<=1073741824)))&&(decide ((0:Int)<=a.it.code)))&&(decide ((a.it.code:Int)<=8))⟩:zl)))
def z56(φ:Nat)(b:Int)(a:zl)(c:z8f):t01:=(zf φ ((⟨a.p,(⟨a.it.kind,a.it.ref,a.it.wagon,0,a.it.other,a.it.number,0,a.it.to,a.it.code,0,0,0,a.it.amount,a.it.text,a.it.parts⟩:Item),(((((((((a.ok&&((c.kind:Int) !=0))&&((b==0)||((c.kind:Int)==b)))&&(decide ((0:Int)<=a.it.dest)))&&(decide ((a.it.dest:Int)<=(W ((a.p.network.places.length:Int)-1)))))&&(decide ((0:Int)<=a.it.class_)))&&(decide ((a.it.class_:Int)<=63)))&&(decide ((0:Int)<=a.it.weight)))&&(decide ((a.it.weight:Int)<=1000000)))&&(decide ((0:Int)<=a.it.from_)))&&(decide ((a.it.from_:Int)<=1073741824))⟩:zl)))
def z58(φ:Nat)(b:Int)(a:zl)(c:z8f):t01:=(if((a.it.kind:Int)==6)=true then(zf φ ((⟨a.p,(⟨a.it.kind,a.it.ref,a.it.wagon,0,0,a.it.number,0,a.it.to,0,a.it.dest,a.it.class_,a.it.weight,a.it.amount,a.it.text,a.it.parts⟩:Item),(((((((a.ok&&((c.kind:Int) !=0))&&((b==0)||((c.kind:Int)==b)))&&(decide ((0:Int)<=a.it.other)))&&(decide ((a.it.other:Int)<=(W ((a.p.shippers.length:Int)-1)))))&&(decide ((0:Int)<=a.it.from_)))&&(decide ((a.it.from_:Int)<=1073741824)))&&(decide ((0:Int)<=a.it.code)))&&(decide ((a.it.code:Int)<=1))⟩:zl))) else(zf φ ((⟨a.p,(⟨a.it.kind,a.it.ref,a.it.wagon,0,0,a.it.number,0,a.it.to,a.it.code,a.it.dest,a.it.class_,a.it.weight,a.it.amount,a.it.text,a.it.parts⟩:Item),(((((a.ok&&((c.kind:Int) !=0))&&((b==0)||((c.kind:Int)==b)))&&(decide ((0:Int)<=a.it.other)))&&(decide ((a.it.other:Int)<=(W ((a.p.shippers.length:Int)-1)))))&&(decide ((0:Int)<=a.it.from_)))&&(decide ((a.it.from_:Int)<=1073741824))⟩:zl))))
def z57(φ:Nat)(b:Bool)(a:zl):t01:=(if b=true then(if((decide ((0:Int)<=a.it.place))&&(decide ((a.it.place:Int)<(a.p.network.places.length:Int))))=true then(ck (rg a.it.place a.p.network.places.length) (z58 φ 0 a (gt a.p.network.places a.it.place))) else(z58 φ 0 a (⟨0,0,0⟩:z8f))) else(zf φ a))
def z52(φ:Nat)(b:Int)(c:Bool)(a:zl):t01:=(if c=true then(if((decide ((0:Int)<=a.it.place))&&(decide ((a.it.place:Int)<(a.p.network.places.length:Int))))=true then(ck (rg a.it.place a.p.network.places.length) (z54 φ 3 a (gt a.p.network.places a.it.place))) else(z54 φ 3 a (⟨0,0,0⟩:z8f))) else(if(b==5)=true then(if((decide ((0:Int)<=a.it.place))&&(decide ((a.it.place:Int)<(a.p.network.places.length:Int))))=true then(ck (rg a.it.place a.p.network.places.length) (z56 φ 0 ((⟨a.p,(⟨a.it.kind,a.it.ref,a.it.wagon,a.it.place,0,0,a.it.from_,a.it.to,a.it.code,a.it.dest,a.it.class_,a.it.weight,a.it.amount,a.it.text,a.it.parts⟩:Item),(((a.ok&&(decide ((1:Int)<=a.it.number)))&&(decide ((a.it.number:Int)<=1000000000)))&&(decide ((0:Int)<=a.it.other)))&&(decide ((a.it.other:Int)<=(W ((a.p.shippers.length:Int)-1))))⟩:zl)) (gt a.p.network.places a.it.place))) else(z56 φ 0 ((⟨a.p,(⟨a.it.kind,a.it.ref,a.it.wagon,a.it.place,0,0,a.it.from_,a.it.to,a.it.code,a.it.dest,a.it.class_,a.it.weight,a.it.amount,a.it.text,a.it.parts⟩:Item),(((a.ok&&(decide ((1:Int)<=a.it.number)))&&(decide ((a.it.number:Int)<=1000000000)))&&(decide ((0:Int)<=a.it.other)))&&(decide ((a.it.other:Int)<=(W ((a.p.shippers.length:Int)-1))))⟩:zl)) (⟨0,0,0⟩:z8f))) else(if(b==6)=true then(z57 φ (b==6) a) else(z57 φ (b==7) a))))
def z59(φ:Nat)(b:Int)(a:zl)(c:z8f):t01:=((zi (default,()) (((((((((((a.ok&&((c.kind:Int) !=0))&&((b==0)||((c.kind:Int)==b)))&&(decide (((max2 a.it.from_ 0):Int)<=a.it.to)))&&(decide ((a.it.to:Int)<=1073741824)))&&(decide ((0:Int)<=a.it.from_)))&&(decide ((a.it.from_:Int)<=1073741824)))&&(decide ((1:Int)<=a.it.code)))&&(decide ((a.it.code:Int)<=2)))&&(decide ((0:Int)<=a.it.amount)))&&(decide ((a.it.amount:Int)<=1000000000)))=true) (zfz φ a.it.parts true)).bind λd=>(zf φ ((⟨a.p,(⟨a.it.kind,a.it.ref,a.it.wagon,0,a.it.other,a.it.number,0,0,0,a.it.dest,a.it.class_,a.it.weight,0,a.it.text,([]:List Part)⟩:Item),((((((((((a.ok&&((c.kind:Int) !=0))&&((b==0)||((c.kind:Int)==b)))&&(decide (((max2 a.it.from_ 0):Int)<=a.it.to)))&&(decide ((a.it.to:Int)<=1073741824)))&&(decide ((0:Int)<=a.it.from_)))&&(decide ((a.it.from_:Int)<=1073741824)))&&(decide ((1:Int)<=a.it.code)))&&(decide ((a.it.code:Int)<=2)))&&(decide ((0:Int)<=a.it.amount)))&&(decide ((a.it.amount:Int)<=1000000000)))&&d.1⟩:zl))))
def z5a(φ:Nat)(b:Int)(a:zl)(c:z8f):t01:=(zf φ ((⟨a.p,(⟨a.it.kind,a.it.ref,a.it.wagon,0,a.it.other,0,0,0,a.it.code,a.it.dest,0,0,0,a.it.text,a.it.parts⟩:Item),(((((((((((((a.ok&&((c.kind:Int) !=0))&&((b==0)||((c.kind:Int)==b)))&&(decide ((0:Int)<=a.it.class_)))&&(decide ((a.it.class_:Int)<=63)))&&(decide ((0:Int)<=a.it.number)))&&(decide ((a.it.number:Int)<=(W ((a.p.fleet.types.length:Int)-1)))))&&(decide ((1:Int)<=a.it.weight)))&&(decide ((a.it.weight:Int)<=1000)))&&(decide (((max2 a.it.from_ 0):Int)<=a.it.to)))&&(decide ((a.it.to:Int)<=1073741824)))&&(decide ((0:Int)<=a.it.from_)))&&(decide ((a.it.from_:Int)<=1073741824)))&&(decide ((0:Int)<=a.it.amount)))&&(decide ((a.it.amount:Int)<=1000000000))⟩:zl)))
def z1l(φ:Nat)(b:Int)(c:Bool)(a:zl):t01:=(if c=true then(if((a.it.kind:Int) !=13)=true then(zf φ ((⟨a.p,(⟨a.it.kind,a.it.ref,a.it.wagon,a.it.place,a.it.other,0,0,a.it.to,a.it.code,a.it.dest,a.it.class_,a.it.weight,a.it.amount,(⟨#[]⟩:ByteArray),a.it.parts⟩:Item),(((((a.ok&&(decide ((1:Int)<=a.it.number)))&&(decide ((a.it.number:Int)<=6)))&&(decide ((0:Int)<=a.it.from_)))&&(decide ((a.it.from_:Int)<=1073741824)))&&(decide ((1:Int)<=(a.it.text.size:Int))))&&(decide (((a.it.text.size:Int):Int)<=2000))⟩:zl))) else(zf φ ((⟨a.p,(⟨a.it.kind,a.it.ref,a.it.wagon,a.it.place,a.it.other,0,0,a.it.to,a.it.code,a.it.dest,a.it.class_,a.it.weight,a.it.amount,a.it.text,a.it.parts⟩:Item),(((a.ok&&(decide ((1:Int)<=a.it.number)))&&(decide ((a.it.number:Int)<=6)))&&(decide ((0:Int)<=a.it.from_)))&&(decide ((a.it.from_:Int)<=1073741824))⟩:zl)))) else(if(b==14)=true then(zf φ a) else(if(b==15)=true then(if((decide ((0:Int)<=a.it.place))&&(decide ((a.it.place:Int)<(a.p.network.places.length:Int))))=true then(ck (rg a.it.place a.p.network.places.length) (z5a φ 0 ((⟨a.p,(⟨a.it.kind,a.it.ref,a.it.wagon,a.it.place,0,a.it.number,a.it.from_,a.it.to,a.it.code,a.it.dest,a.it.class_,a.it.weight,a.it.amount,a.it.text,a.it.parts⟩:Item),(a.ok&&(decide ((0:Int)<=a.it.other)))&&(decide ((a.it.other:Int)<=(W ((a.p.shippers.length:Int)-1))))⟩:zl)) (gt a.p.network.places a.it.place))) else(z5a φ 0 ((⟨a.p,(⟨a.it.kind,a.it.ref,a.it.wagon,a.it.place,0,a.it.number,a.it.from_,a.it.to,a.it.code,a.it.dest,a.it.class_,a.it.weight,a.it.amount,a.it.text,a.it.parts⟩:Item),(a.ok&&(decide ((0:Int)<=a.it.other)))&&(decide ((a.it.other:Int)<=(W ((a.p.shippers.length:Int)-1))))⟩:zl)) (⟨0,0,0⟩:z8f))) else(zf φ (⟨a.p,a.it,false⟩:zl)))))
def z0m(φ:Nat)(b:Pool)(a:Item):t01:=(if(decide ((a.kind:Int)<=7))=true then(if(decide ((a.kind:Int)<1))=true then(zf φ (⟨b,a,false⟩:zl)) else(if((a.kind:Int)==1)=true then(zf φ ((⟨b,(⟨a.kind,a.ref,0,a.place,0,a.number,0,a.to,a.code,a.dest,a.class_,a.weight,a.amount,a.text,a.parts⟩:Item),(((((true&&(decide ((0:Int)<=a.wagon)))&&(decide ((a.wagon:Int)<=(W ((b.fleet.wagons.length:Int)-1)))))&&(decide ((0:Int)<=a.other)))&&(decide ((a.other:Int)<=(W ((b.readers.length:Int)-1)))))&&(decide ((0:Int)<=a.from_)))&&(decide ((a.from_:Int)<=1073741824))⟩:zl))) else(if((a.kind:Int)==2)=true then(if((decide ((0:Int)<=a.place))&&(decide ((a.place:Int)<(b.network.places.length:Int))))=true then(ck (rg a.place b.network.places.length) (z6d φ 0 ((⟨b,(⟨a.kind,a.ref,0,a.place,a.other,a.number,a.from_,a.to,a.code,a.dest,a.class_,a.weight,a.amount,a.text,a.parts⟩:Item),(true&&(decide ((0:Int)<=a.wagon)))&&(decide ((a.wagon:Int)<=(W ((b.fleet.wagons.length:Int)-1))))⟩:zl)) (gt b.network.places a.place))) else(z6d φ 0 ((⟨b,(⟨a.kind,a.ref,0,a.place,a.other,a.number,a.from_,a.to,a.code,a.dest,a.class_,a.weight,a.amount,a.text,a.parts⟩:Item),(true&&(decide ((0:Int)<=a.wagon)))&&(decide ((a.wagon:Int)<=(W ((b.fleet.wagons.length:Int)-1))))⟩:zl)) (⟨0,0,0⟩:z8f))) else(if((a.kind:Int)==3)=true then(z52 φ a.kind ((a.kind:Int)==3) ((⟨b,(⟨a.kind,a.ref,0,a.place,a.other,a.number,a.from_,a.to,a.code,a.dest,a.class_,a.weight,a.amount,a.text,a.parts⟩:Item),(true&&(decide ((0:Int)<=a.wagon)))&&(decide ((a.wagon:Int)<=(W ((b.fleet.wagons.length:Int)-1))))⟩:zl))) else(z52 φ a.kind ((a.kind:Int)==4) ((⟨b,(⟨a.kind,a.ref,0,a.place,a.other,a.number,a.from_,a.to,a.code,a.dest,a.class_,a.weight,a.amount,a.text,a.parts⟩:Item),(true&&(decide ((0:Int)<=a.wagon)))&&(decide ((a.wagon:Int)<=(W ((b.fleet.wagons.length:Int)-1))))⟩:zl))))))) else(if((a.kind:Int)==8)=true then(zf φ ((⟨b,(⟨a.kind,a.ref,0,a.place,a.other,a.number,0,a.to,0,a.dest,a.class_,a.weight,a.amount,a.text,a.parts⟩:Item),(((((true&&(decide ((0:Int)<=a.wagon)))&&(decide ((a.wagon:Int)<=(W ((b.fleet.wagons.length:Int)-1)))))&&(decide ((0:Int)<=a.from_)))&&(decide ((a.from_:Int)<=1073741824)))&&(decide ((1:Int)<=a.code)))&&(decide ((a.code:Int)<=9))⟩:zl))) else(if((a.kind:Int)==9)=true then(if((decide ((0:Int)<=a.place))&&(decide ((a.place:Int)<(b.network.places.length:Int))))=true then(ck (rg a.place b.network.places.length) (z59 φ 5 ((⟨b,(⟨a.kind,a.ref,0,a.place,a.other,a.number,a.from_,a.to,a.code,a.dest,a.class_,a.weight,a.amount,a.text,a.parts⟩:Item),(true&&(decide ((0:Int)<=a.wagon)))&&(decide ((a.wagon:Int)<=(W ((b.fleet.wagons.length:Int)-1))))⟩:zl)) (gt b.network.places a.place))) else(z59 φ 5 ((⟨b,(⟨a.kind,a.ref,0,a.place,a.other,a.number,a.from_,a.to,a.code,a.dest,a.class_,a.weight,a.amount,a.text,a.parts⟩:Item),(true&&(decide ((0:Int)<=a.wagon)))&&(decide ((a.wagon:Int)<=(W ((b.fleet.wagons.length:Int)-1))))⟩:zl)) (⟨0,0,0⟩:z8f))) else(if((a.kind:Int)==10)=true then((zi (default,()) ((((true&&(decide ((0:Int)<=a.other)))&&(decide ((a.other:Int)<=63)))&&(decide ((0:Int)<(a.parts.length:Int))))=true) (zfz φ a.parts false)).bind λc=>(zf φ ((⟨b,(⟨a.kind,a.ref,a.wagon,a.place,0,a.number,a.from_,a.to,a.code,a.dest,a.class_,a.weight,a.amount,a.text,([]:List Part)⟩:Item),(((true&&(decide ((0:Int)<=a.other)))&&(decide ((a.other:Int)<=63)))&&(decide ((0:Int)<(a.parts.length:Int))))&&c.1⟩:zl)))) else(if((a.kind:Int)==11)=true then(z1l φ a.kind ((a.kind:Int)==11) (⟨b,a,true⟩:zl)) else(if((a.kind:Int)==12)=true then(z1l φ a.kind ((a.kind:Int)==12) (⟨b,a,true⟩:zl)) else(z1l φ a.kind ((a.kind:Int)==13) (⟨b,a,true⟩:zl))))))))
def zxi(φ:Nat):Fsp TV:=⟨[28,52],[.val 2],kq2 (z0m φ)⟩
def zj4(φ:Nat)(a:Pool)(b:Item):t03:=((z0z φ a).bind λc=>(if(c.1 !=0)=true then(some (c.1,())) else((z7q φ b).bind λd=>((zi (default,()) ((!d.1)=false) (z0m φ a b)).bind λe=>(if((!d.1)||(!e.1))=true then(some (110,())) else(some (0,())))))))
def y0m(φ:Nat):Fsp TV:=⟨[28,52],[.val 0],kq2 (zj4 φ)⟩
def zdd(φ:Nat)(a b:z7):t03:=((z3j φ a.ref.railway b.ref.railway).bind λc=>((z3j φ a.ref.no b.ref.no).bind λd=>((ziw φ ([c.1,d.1])).bind λe=>(some (e.1,())))))
def zs9(φ:Nat):Fsp TV:=⟨[53,53],[.val 0],kq2 (zdd φ)⟩
def z63(φ:Nat)(a b:z7):t03:=((z3j φ a.item.to b.item.to).bind λc=>((zdd φ a b).bind λd=>((ziw φ ([c.1,d.1])).bind λe=>(some (e.1,())))))
def zih(φ:Nat):Fsp TV:=⟨[53,53],[.val 0],kq2 (z63 φ)⟩
def ze2(φ:Nat)(a:Part):Option (z8×Unit):=(some ((⟨a.kind,a.serial⟩:z8),()))
def y2c(φ:Nat):Fsp TV:=⟨[50],[.val 56],λz=>ze2 φ z.1⟩
def z0a(φ:Nat)(f :(Int->Int->t0e->t08->t0w)):Nat->Int->Int->t0t->Int->Int->t0e->z7->t08->t0w
 |0,_,_,_,_,_,_,_,_=>none
 |k+1,g,h,d,i,c,b,e,j=>(if(decide (c<i))=true then(ck (rg c d.length) ((ze2 φ (gt d c)).bind λa=>(if(!(gt d c).fitted)=true then(match cget z72 b a.1 with|some l=>(ck (z72 a.1=z72 a.1) ((z0a φ f k) g h d i (W (c+1)) (cset z72 b a.1 (cdel kl_0 l e.item.wagon)) e j))|none=>(ck ((cget z72 b a.1).isNone=true) ((z0a φ f k) g h d i (W (c+1)) b e j))) else(match cget z72 b a.1 with|some m=>(ck (z72 a.1=z72 a.1) (ck (z72 a.1=z72 a.1) ((z0a φ f k) g h d i (W (c+1)) (cset z72 b a.1 (cset kl_0 m e.item.wagon true)) e j)))|none=>(ck ((cget z72 b a.1).isNone=true) (ck (z72 a.1=z72 a.1) ((z0a φ f k) g h d i (W (c+1)) ((cset z72 ((cset z72 b a.1 (default :(List (Int×Bool))))) a.1 ((cset kl_0 ([] :(List (Int×Bool))) e.item.wagon true)))) e j))))))) else(f g (W (h+1)) b j))
def z10(φ:Nat):Nat->Int->Int->t0e->t08->t0w
 |0,_,_,_,_=>none
 |e+1,c,a,d,b=>(if(decide (a<c))=true then(ck (rg a b.length) (z0a φ (z10 φ e) φ c a (((gt b a).item).parts) (((((gt b a).item).parts).length:Int)) 0 d (gt b a) b)) else(some (d,())))
def z29(φ:Nat):Nat->Int->t08->Int->Int->t08->t0w
 |0,_,_,_,_,_=>none
 |h+1,f,d,g,c,e=>(if(decide (c<g))=true then(ck (rg c d.length) (if(((((gt d c).item).kind:Int)==9)&&(decide ((((gt d c).item).to:Int)<=f)))=true then(ck (fits (e.length+([(gt d c)]).length) 192) ((z29 φ h) f d g (W (c+1)) (e++[(gt d c)]))) else((z29 φ h) f d g (W (c+1)) e))) else((z13 φ e (λa b=>(z63 φ a b).bind λr=>(some r.1))).bind λi=>(z10 φ φ (i.length:Int) 0 (([] :(List (z8×(List (Int×Bool)))))) i)))
def z62(φ:Nat)(a:t08)(b:Int):t0w:=(z29 φ φ b a (a.length:Int) 0 ([]:List z7))
def zm5(φ:Nat):Fsp TV:=⟨[54,0],[.val 58],kq2 (z62 φ)⟩
def zdc(φ:Nat)(j:t0l)(k:t0z)(a:Int)(b:t0e)(c:t08)(d e:Int)(f:t0t)(g h:Int)(i l:t05):t06:=match l with | []=>(j a b c d e f g (W (h+1)) i)|e44::r45=>(k a b c d e f g h (cset kl_0 i e44.1 e44.2) r45)
def z4y(φ:Nat)(a:t0l):Nat->Int->t0e->t08->Int->Int->t0t->Int->Int->t05->t05->t06
 |0,_,_,_,_,_,_,_,_,_,_=>none
 |b+1,c,d,e,f,g,h,i,j,k,l=>(zdc φ a (z4y φ a b) c d e f g h i j k l)
def z27(φ:Nat)(d:t18):Nat->Int->t0e->t08->Int->Int->t0t->Int->Int->t05->t06
 |0,_,_,_,_,_,_,_,_,_=>none
 |k+1,e,b,f,g,h,c,i,a,j=>(if(decide (a<i))=true then(ck (rg a c.length) ((ze2 φ (gt c a)).bind λl=>(z4y φ (z27 φ d k) φ e b f g h c i a j (((cget z72 b l.1).getD (default :(List (Int×Bool)))))))) else(d e b f g (W (h+1)) j))
def z21(φ:Nat):Nat->Int->t0e->t08->Int->Int->t05->t06
 |0,_,_,_,_,_,_=>none
 |f+1,d,g,b,e,a,c=>(if(decide (a<e))=true then(ck (rg a b.length) (if(((((gt b a).item).kind:Int) !=10)||(decide (d<(gt b a).time)))=true then((z21 φ f) d g b e (W (a+1)) c) else(z27 φ (z21 φ f) φ d g b e a (((gt b a).item).parts) (((((gt b a).item).parts).length:Int)) 0 c))) else(ck (soK kl_0 c=true) (some ((List.map (λp:Int×Bool=>p.1) c),()))))
def za9(φ:Nat)(a:t08)(b:Int):t06:=((z62 φ a b).bind λc=>(z21 φ φ b c.1 a (a.length:Int) 0 ([] :(List (Int×Bool)))))
def z2a(φ:Nat)(j:t0l)(k:t0z)(a:Int)(b:t0e)(c:t08)(d e:Int)(f:t0t)(g h:Int)(i l:t05):t06:=match l with | []=>(j a b c d e f g (W (h+1)) i)|e44::r45=>(k a b c d e f g h (cset kl_0 i e44.1 e44.2) r45)
def z0g(φ:Nat)(a:t0l):Nat->Int->t0e->t08->Int->Int->t0t->Int->Int->t05->t05->t06
 |0,_,_,_,_,_,_,_,_,_,_=>none
 |b+1,c,d,e,f,g,h,i,j,k,l=>(z2a φ a (z0g φ a b) c d e f g h i j k l)
def z84(φ:Nat)(d:t18):Nat->Int->t0e->t08->Int->Int->t0t->Int->Int->t05->t06
 |0,_,_,_,_,_,_,_,_,_=>none
 |k+1,e,b,f,g,h,c,i,a,j=>(if(decide (a<i))=true then(ck (rg a c.length) ((ze2 φ (gt c a)).bind λl=>(z0g φ (z84 φ d k) φ e b f g h c i a j (((cget z72 b l.1).getD (default :(List (Int×Bool)))))))) else(d e b f g (W (h+1)) j))
def z5o(φ:Nat):Nat->Int->t0e->t08->Int->Int->t05->t06
 |0,_,_,_,_,_,_=>none
 |f+1,d,g,b,e,a,c=>(if(decide (a<e))=true then(ck (rg a b.length) (if(((((gt b a).item).kind:Int) !=10)||(decide (d<(gt b a).time)))=true then((z5o φ f) d g b e (W (a+1)) c) else(z84 φ (z5o φ f) φ d g b e a (((gt b a).item).parts) (((((gt b a).item).parts).length:Int)) 0 c))) else(ck (soK kl_0 c=true) (some ((List.map (λp:Int×Bool=>p.1) c),()))))
def zav(φ:Nat)(a:t08)(b:Int):t06:=((z62 φ a b).bind λc=>(z5o φ φ b c.1 a (a.length:Int) 0 ([] :(List (Int×Bool)))))
def zkj(φ:Nat):Fsp TV:=⟨[54,0],[.row 3 0],kq2 (zav φ)⟩
def z64(φ:Nat):Nat->t00->Int->Int->Int->t03
 |0,_,_,_,_=>none
 |e+1,b,c,d,a=>(if(decide (a<d))=true then(ck (rg a b.length) (if(c==(gt b a))=true then(some (a,())) else((z64 φ e) b c d (W (a+1))))) else(some ((-1),())))
def zde(φ:Nat)(a:t00)(b:Int):t03:=(z64 φ φ a b (a.length:Int) 0)
def zsc(φ:Nat):Fsp TV:=⟨[24,0],[.val 0],kq2 (zde φ)⟩
def z9g(φ:Nat)(a:t00)(b:Int):t01:=((zde φ a b).bind λc=>(some ((decide ((0:Int)<=c.1)),())))
def zma(φ:Nat):Fsp TV:=⟨[24,0],[.val 2],kq2 (z9g φ)⟩
def zdg(φ:Nat)(a b:za):t03:=((z3j φ a.type_ b.type_).bind λc=>((z3j φ a.class_ b.class_).bind λd=>((z3j φ a.place b.place).bind λe=>((ziw φ ([c.1,d.1,e.1])).bind λf=>(some (f.1,()))))))
def zn9(φ:Nat):Fsp TV:=⟨[1,1],[.val 0],kq2 (zdg φ)⟩
def z0q(φ:Nat)(c :(Int->t09->t15->t0h))(a:Int)(b:t09)(d:t15):t0h:=match d with | []=>((zmb b).bind λe=>(some (e,0,())))|e54::r55=>(ck (fits (b.length+([(⟨e54.1.kind,e54.1.class_,e54.1.place,a,e54.2⟩:za)]).length) 40) (c a (b++[(⟨e54.1.kind,e54.1.class_,e54.1.place,a,e54.2⟩:za)]) r55))
def z00(φ:Nat):Nat->Int->t09->t15->t0h
 |0,_,_,_=>none
 |a+1,b,c,d=>(z0q φ (z00 φ a) b c d)
def z07(φ:Nat):Nat->Int->Pool->t00->Int->Int->t00->t0r->t15->(List Item)->t0h
 |0,_,_,_,_,_,_,_,_,_=>none
 |j+1,g,c,h,i,a,d,e,f,b=>(if(decide (a<i))=true then(ck (rg a b.length) (ck (((((gt b a).kind:Int)==7)=true)->rg a e.length) ((zi (default,()) (((((gt b a).kind:Int)==7)&&(!(gt e a)))=true) (z9g φ h a)).bind λk=>(if(((((gt b a).kind:Int)==7)&&(!(gt e a)))&&(!k.1))=true then(ck (rg a c.fleet.wagons.length) (ck (rg a d.length) ((z07 φ j) g c h i (W (a+1)) d e ((cset zlh f (⟨(gt c.fleet.wagons a).type_,gt d a,(gt b a).place⟩:zc) ((W (((cget zlh f (⟨(gt c.fleet.wagons a).type_,gt d a,(gt b a).place⟩:zc)).getD (default:Int))+1))))) b))) else((z07 φ j) g c h i (W (a+1)) d e f b))))) else(z00 φ φ g ([]:List za) f))
def z0p(φ:Nat):Nat->Int->Pool->t00->Int->Int->(List Item)->t00->t0r->t08->t0h
 |0,_,_,_,_,_,_,_,_,_=>none
 |j+1,d,g,h,i,a,c,e,f,b=>(if(decide (a<i))=true then(ck (rg a b.length) (if(decide (d<((gt b a).item).from_))=true then((z0p φ j) d g h i (W (a+1)) c e f b) else(if(((((gt b a).item).kind:Int)==8)&&((((gt b a).item).code:Int)==9))=true then(ck (rg ((gt b a).item).wagon f.length) ((z0p φ j) d g h i (W (a+1)) c e ((zo f (((gt b a).item).wagon) true)) b)) else(if((((gt b a).item).kind:Int)==5)=true then(ck (rg ((gt b a).item).wagon e.length) (ck (rg ((gt b a).item).wagon c.length) ((z0p φ j) d g h i (W (a+1)) ((zo c (((gt b a).item).wagon) ((gt b a).item))) ((zo e (((gt b a).item).wagon) (((gt b a).item).class_))) f b))) else(if(((((gt b a).item).kind:Int)==6)||((((gt b a).item).kind:Int)==7))=true then(ck (rg ((gt b a).item).wagon c.length) ((z0p φ j) d g h i (W (a+1)) ((zo c (((gt b a).item).wagon) ((gt b a).item))) e f b)) else((z0p φ j) d g h i (W (a+1)) c e f b)))))) else(z07 φ φ d g h (c.length:Int) 0 e f ([] :(List (zc×Int))) c))
def z3l(φ:Nat):Nat->Int->Pool->t00->Int->Int->t08->(List Item)->t00->t0r->t0h
 |0,_,_,_,_,_,_,_,_,_=>none
 |j+1,d,e,f,g,a,b,h,c,i=>(if(decide (a<g))=true then(ck (rg a c.length) ((z3l φ j) d e f g (W (a+1)) b h (zo c a (-1)) i)) else(z0p φ φ d e f (b.length:Int) 0 h c i b))
def z3k(φ:Nat):Nat->Int->t08->Int->Int->Pool->t08->t0h
 |0,_,_,_,_,_,_=>none
 |i+1,g,e,h,d,c,f=>(if(decide (d<h))=true then(ck (rg d e.length) ((zj4 φ c ((gt e d).item)).bind λj=>(if(j.1==0)=true then(ck (fits (f.length+([(gt e d)]).length) 192) ((z3k φ i) g e h (W (d+1)) c (f++[(gt e d)]))) else((z3k φ i) g e h (W (d+1)) c f)))) else((zav φ f g).bind λk=>((z13 φ f (λa b=>(z6m φ a b).bind λr=>(some r.1))).bind λl=>(ck (zd (c.fleet.wagons.length:Int) 152) (ck (zd (c.fleet.wagons.length:Int) 8) (ck (zd (c.fleet.wagons.length:Int) 1) (z3l φ φ g c k.1 (((List.replicate ((c.fleet.wagons.length:Int):Int).toNat (default:Int)).length:Int)) 0 l (List.replicate ((c.fleet.wagons.length:Int):Int).toNat (default:Item)) (List.replicate ((c.fleet.wagons.length:Int):Int).toNat (default:Int)) (List.replicate ((c.fleet.wagons.length:Int):Int).toNat (default:Bool)))))))))
def z3w(φ:Nat)(b:Pool)(c:t08)(a:Int):t0h:=((z0z φ b).bind λd=>(if(d.1 !=0)=true then(some (([]:List za),d.1,())) else(if((decide (a<0))||(decide ((1073741824:Int)<a)))=true then(some (([]:List za),1,())) else(z3k φ φ a c (c.length:Int) 0 b ([]:List z7)))))
def zre(φ:Nat):Fsp TV:=⟨[28,54,0],[.val 36,.val 0],kq3 (z3w φ)⟩
def zb9(φ:Nat)(a:Int)(b:Bool):t14:=(if b=true then(some (zgl,())) else(if(a==13)=true then(some (zr0,())) else(if(a==15)=true then(some (zi2,())) else(some ((⟨#[]⟩:ByteArray),())))))
def zb8(φ:Nat)(a:Int)(b:Bool):t14:=(if b=true then(some (z73,())) else(if(a==5)=true then(some (zi3,())) else(if(a==6)=true then(some (z73,())) else(if(a==7)=true then(some (zd0,())) else(if(a==8)=true then(some (zi0,())) else(if(a==9)=true then(some (zi1,())) else(if(a==10)=true then(some (zr1,())) else(if(a==11)=true then(zb9 φ a (a==11)) else(zb9 φ a (a==12))))))))))
def zh9(φ:Nat)(a:Int):t14:=(if(a==1)=true then(some (zgm,())) else(if(a==2)=true then(some (zcz,())) else(if(a==3)=true then(zb8 φ a (a==3)) else(zb8 φ a (a==4)))))
def zyq(φ:Nat):Fsp TV:=⟨[0],[.val 49],λz=>zh9 φ z.1⟩
def zg(φ:Nat)(a b c:Int):t01:=(some (((decide (b<=a))&&(decide (a<=c))),()))
def zq9(φ:Nat):Fsp TV:=⟨[0,0,0],[.val 2],kq3 (zg φ)⟩
def z9a(φ:Nat)(a:Item):t01:=(if(((a.ref.railway:Int)==0)&&(((a.ref.no:Int)==0)&&true))=true then(some (((a.kind:Int) !=14),())) else((zg φ a.ref.railway 0 15).bind λb=>((zi (default,()) (b.1=true) (zg φ a.ref.no 1 4096)).bind λc=>(some ((b.1&&c.1),())))))
def zlw(φ:Nat):Fsp TV:=⟨[52],[.val 2],λz=>z9a φ z.1⟩
def zcs(φ:Nat):Nat->ByteArray->Int->Int->t01
 |0,_,_,_=>none
 |d+1,a,c,b=>(if(decide (b<(a.size:Int)))=true then(ck (rg b a.size) (if(((z75 a b):Int)==c)=true then(some (true,())) else((zcs φ d) a c (W (b+1))))) else(some (false,())))
def za4(φ:Nat)(a:ByteArray)(b:Int):t01:=(zcs φ φ a b 0)
def y6u(φ:Nat):Fsp TV:=⟨[49,60],[.val 2],kq2 (za4 φ)⟩
def za6(φ:Nat)(a b:Int)(c:Bool):t01:=(if c=true then(some ((a==3),())) else(if(b==9)=true then(some ((a==5),())) else(some (true,()))))
def zif(φ:Nat)(b:Pool)(a:Item):t01:=((zg φ a.place 0 (W ((b.network.places.length:Int)-1))).bind λc=>(if(!c.1)=true then(some (false,())) else(ck (rg a.place b.network.places.length) (if((a.kind:Int)==3)=true then(za6 φ ((gt b.network.places a.place).kind) a.kind ((a.kind:Int)==3)) else(za6 φ ((gt b.network.places a.place).kind) a.kind ((a.kind:Int)==4))))))
def zvt(φ:Nat):Fsp TV:=⟨[28,52],[.val 2],kq2 (zif φ)⟩
def za5(φ:Nat)(c:Int)(d:Bool)(b:Pool)(a:Item):t01:=(if d=true then(ck (rg a.place b.network.places.length) (some ((((a.other:Int)==(gt b.network.places a.place).railway)||((a.other:Int)==(gt b.network.places a.place).other)),()))) else(if(c==10)=true then((zg φ a.other 0 63).bind λe=>(some (e.1,()))) else((zg φ a.other 0 (W ((b.shippers.length:Int)-1))).bind λf=>(some (f.1,())))))
def zie(φ:Nat)(b:Pool)(a:Item):t01:=(if((a.kind:Int)==1)=true then((zg φ a.other 0 (W ((b.readers.length:Int)-1))).bind λc=>(some (c.1,()))) else(if((a.kind:Int)==3)=true then(za5 φ a.kind ((a.kind:Int)==3) b a) else(za5 φ a.kind ((a.kind:Int)==4) b a)))
def zvp(φ:Nat):Fsp TV:=⟨[28,52],[.val 2],kq2 (zie φ)⟩
def zgd(φ:Nat)(b:Pool)(a:Item):t01:=(if((a.kind:Int)==5)=true then((zg φ a.number 1 1000000000).bind λc=>(some (c.1,()))) else(if((a.kind:Int)==15)=true then((zg φ a.number 0 (W ((b.fleet.types.length:Int)-1))).bind λd=>(some (d.1,()))) else((zg φ a.number 1 6).bind λe=>(some (e.1,())))))
def zs0(φ:Nat):Fsp TV:=⟨[28,52],[.val 2],kq2 (zgd φ)⟩
def zba(φ:Nat)(b:Int)(c:Bool)(a:Item):t01:=(if c=true then((zg φ a.code 0 8).bind λd=>(some (d.1,()))) else(if(b==6)=true then((zg φ a.code 0 1).bind λe=>(some (e.1,()))) else(if(b==8)=true then((zg φ a.code 1 9).bind λf=>(some (f.1,()))) else((zg φ a.code 1 2).bind λg=>(some (g.1,()))))))
def zlu(φ:Nat)(a:Item):t01:=(if((a.kind:Int)==3)=true then(zba φ a.kind ((a.kind:Int)==3) a) else(zba φ a.kind ((a.kind:Int)==4) a))
def zys(φ:Nat):Fsp TV:=⟨[52],[.val 2],λz=>zlu φ z.1⟩
def zcu(φ:Nat)(c:Pool)(a:Item)(b:Int):t01:=(if(b==119)=true then((zg φ a.wagon 0 (W ((c.fleet.wagons.length:Int)-1))).bind λd=>(some (d.1,()))) else(if(b==112)=true then((zif φ c a).bind λe=>(some (e.1,()))) else(if(b==111)=true then((zie φ c a).bind λf=>(some (f.1,()))) else(if(b==110)=true then((zgd φ c a).bind λg=>(some (g.1,()))) else(if(b==102)=true then((zg φ a.from_ 0 1073741824).bind λh=>(some (h.1,()))) else(if(b==116)=true then((zg φ a.to a.from_ 1073741824).bind λi=>(some (i.1,()))) else(if(b==99)=true then((zlu φ a).bind λj=>(some (j.1,()))) else(if(b==100)=true then((zg φ a.dest 0 (W ((c.network.places.length:Int)-1))).bind λk=>(some (k.1,()))) else(if(b==107)=true then((zg φ a.class_ 0 63).bind λl=>(some (l.1,()))) else(if(b==103)=true then(if((a.kind:Int)==15)=true then((zg φ a.weight 1 1000).bind λm=>(some (m.1,()))) else((zg φ a.weight 0 1000000).bind λn=>(some (n.1,())))) else((zg φ a.amount 0 1000000000).bind λo=>(some (o.1,())))))))))))))
def zvv(φ:Nat):Fsp TV:=⟨[28,52,60],[.val 2],kq3 (zcu φ)⟩
def zcr(φ:Nat)(a:Item)(b:Int):t03:=(if(b==119)=true then(some (a.wagon,())) else(if(b==112)=true then(some (a.place,())) else(if(b==111)=true then(some (a.other,())) else(if(b==110)=true then(some (a.number,())) else(if(b==102)=true then(some (a.from_,())) else(if(b==116)=true then(some (a.to,())) else(if(b==99)=true then(some (a.code,())) else(if(b==100)=true then(some (a.dest,())) else(if(b==107)=true then(some (a.class_,())) else(if(b==103)=true then(some (a.weight,())) else(some (a.amount,()))))))))))))
def zvl(φ:Nat):Fsp TV:=⟨[52,60],[.val 0],kq2 (zcr φ)⟩
def z6v(φ:Nat):Nat->Int->Item->t01
 |0,_,_=>none
 |d+1,b,a=>(if(decide (b<(a.parts.length:Int)))=true then(ck (rg b a.parts.length) ((zg φ ((gt a.parts b).kind) 1 3).bind λc=>((zi (default,()) ((!c.1)=false) (zg φ ((gt a.parts b).serial) 0 1073741824)).bind λe=>(if(((!c.1)||(!e.1))||(((a.kind:Int)==10)&&(gt a.parts b).fitted))=true then(some (false,())) else((z6v φ d) (W (b+1)) a))))) else(some (true,())))
def zf4(φ:Nat)(a:Item):t01:=(if((decide ((16:Int)<(a.parts.length:Int)))||(((a.kind:Int)==10)&&(((a.parts.length:Int):Int)==0)))=true then(some (false,())) else(z6v φ φ 0 a))
def zvr(φ:Nat):Fsp TV:=⟨[52],[.val 2],λz=>zf4 φ z.1⟩
def z4e(φ:Nat):Nat->ByteArray->Int->Pool->Item->t01
 |0,_,_,_,_=>none
 |j+1,c,b,g,a=>(if(decide (b<11))=true then(ck (rg b z4j.size) ((za4 φ c (z75 z4j b)).bind λd=>((zi (default,()) (d.1=true) (zcu φ g a (z75 z4j b))).bind λe=>((zi (default,()) ((d.1&&(!e.1))=false) (za4 φ c (z75 z4j b))).bind λh=>((zi (default,()) ((d.1&&(!e.1))=false/\(!h.1)=true) (zcr φ a (z75 z4j b))).bind λk=>(if((d.1&&(!e.1))||((!h.1)&&(k.1 !=0)))=true then(some (false,())) else((z4e φ j) c (W (b+1)) g a))))))) else((za4 φ c 120).bind λl=>(if((l.1 !=(a.text !=(⟨#[]⟩:ByteArray)))||(decide ((2000:Int)<(a.text.size:Int))))=true then(some (false,())) else((za4 φ c 113).bind λf=>((zi (default,()) (f.1=true) (zf4 φ a)).bind λi=>((zi (default,()) ((f.1&&i.1)=false/\(((a.parts.length:Int):Int)==0)=true) (za4 φ c 113)).bind λm=>(some (((f.1&&i.1)||((((a.parts.length:Int):Int)==0)&&(!m.1))),()))))))))
def zct(φ:Nat)(c:Pool)(a:Item):t01:=((zh9 φ a.kind).bind λd=>((zg φ a.kind 1 15).bind λb=>((zi (default,()) ((!b.1)=false) (z9a φ a)).bind λe=>(if((!b.1)||(!e.1))=true then(some (false,())) else(z4e φ φ d.1 0 c a)))))
def zvn(φ:Nat):Fsp TV:=⟨[28,52],[.val 2],kq2 (zct φ)⟩
def z3o(φ:Nat):Nat->t08->Int->Pool->t08->t0n
 |0,_,_,_,_=>none
 |e+1,a,b,d,c=>(if(decide (b<(a.length:Int)))=true then(ck (rg b a.length) ((zct φ d ((gt a b).item)).bind λf=>(if f.1=true then(ck (rg b a.length) (ck (fits (c.length+([(gt a b)]).length) 192) ((z3o φ e) a (W (b+1)) d (c++[(gt a b)])))) else((z3o φ e) a (W (b+1)) d c)))) else(some (c,())))
def zbe(φ:Nat)(a:Pool)(b:t08):t0n:=(z3o φ φ b 0 a ([]:List z7))
def zqm(φ:Nat):Fsp TV:=⟨[28,54],[.val 54],kq2 (zbe φ)⟩
def zge(φ:Nat)(a b:Ref):t01:=(some (((decide ((a.railway:Int)<b.railway))||(((a.railway:Int)==b.railway)&&(decide ((a.no:Int)<b.no)))),()))
def zs2(φ:Nat):Fsp TV:=⟨[48,48],[.val 2],kq2 (zge φ)⟩
def z7u(φ:Nat)(a b:z7):t01:=(if((a.item.to:Int) !=b.item.to)=true then(some ((decide ((a.item.to:Int)<b.item.to)),())) else((zge φ a.ref b.ref).bind λc=>(some (c.1,()))))
def zqf(φ:Nat):Fsp TV:=⟨[53,53],[.val 2],kq2 (z7u φ)⟩
def z48(φ:Nat)(c :(t08->Int->Int->t08->t0n)):Nat->t08->Int->Int->Int->t08->t0n
 |0,_,_,_,_,_=>none
 |g+1,d,e,f,a,b=>(ck (((decide ((0:Int)<a))=true)->rg a b.length) (ck (((decide ((0:Int)<a))=true)->rg (W (a-1)) b.length) ((zi (default,()) ((decide ((0:Int)<a))=true) (z7u φ (gt b a) (gt b (W (a-1))))).bind λh=>(if((decide ((0:Int)<a))&&h.1)=true then(ck (rg a b.length) (ck (rg (W (a-1)) b.length) (ck (rg a b.length) (ck (rg (W (a-1)) (((zo b a (gt b (W (a-1))))).length)) ((z48 φ c g) d e f (W (a-1)) ((zo ((zo b a (gt b (W (a-1))))) (W (a-1)) (gt b a)))))))) else(c d e (W (f+1)) b)))))
def z2d(φ:Nat):Nat->t08->Int->Int->t08->t0n
 |0,_,_,_,_=>none
 |e+1,a,d,b,c=>(if(decide (b<(a.length:Int)))=true then(ck (rg b a.length) (ck ((((((gt a b).item).kind:Int) !=9)=false)->rg b a.length) (if(((((gt a b).item).kind:Int) !=9)||(decide (d<((gt a b).item).to)))=true then((z2d φ e) a d (W (b+1)) c) else(ck (rg b a.length) (ck (fits (c.length+([(gt a b)]).length) 192) (z48 φ (z2d φ e) φ a d b ((W (((c++[(gt a b)]).length:Int)-1))) (c++[(gt a b)]))))))) else(some (c,())))
def zbc(φ:Nat)(a:t08)(b:Int):t0n:=(z2d φ φ a b 0 ([]:List z7))
def zqd(φ:Nat):Fsp TV:=⟨[54,0],[.val 54],kq2 (zbc φ)⟩
def z5k(φ:Nat):Nat->t00->Int->Int->t00->t06
 |0,_,_,_,_=>none
 |e+1,a,d,b,c=>(if(decide (b<(a.length:Int)))=true then(ck (rg b a.length) (if(decide (d<(gt a b)))=true then(ck (rg b a.length) (ck (fits (c.length+([(gt a b)]).length) 8) ((z5k φ e) a d (W (b+1)) (c++[(gt a b)])))) else((z5k φ e) a d (W (b+1)) c))) else(some (c,())))
def z7v(φ:Nat):Nat->t00->Int->Int->t00->t06
 |0,_,_,_,_=>none
 |e+1,a,c,b,d=>(if(decide (b<(a.length:Int)))=true then(ck (rg b a.length) (if(decide (((gt a b):Int)<c))=true then(ck (rg b a.length) (ck (fits (d.length+([(gt a b)]).length) 8) ((z7v φ e) a c (W (b+1)) (d++[(gt a b)])))) else((z7v φ e) a c (W (b+1)) d))) else(ck (fits (d.length+([c]).length) 8) (z5k φ φ a c 0 (d++[c]))))
def zlz(φ:Nat)(a:t00)(b:Int):t06:=(z7v φ φ a b 0 ([]:List Int))
def z8d(φ:Nat):Nat->t00->Int->Int->t00->t06
 |0,_,_,_,_=>none
 |e+1,a,d,b,c=>(if(decide (b<(a.length:Int)))=true then(ck (rg b a.length) (if(decide (d<(gt a b)))=true then(ck (rg b a.length) (ck (fits (c.length+([(gt a b)]).length) 8) ((z8d φ e) a d (W (b+1)) (c++[(gt a b)])))) else((z8d φ e) a d (W (b+1)) c))) else(some (c,())))
def z9c(φ:Nat):Nat->t00->Int->Int->t00->t06
 |0,_,_,_,_=>none
 |e+1,a,c,b,d=>(if(decide (b<(a.length:Int)))=true then(ck (rg b a.length) (if(decide (((gt a b):Int)<c))=true then(ck (rg b a.length) (ck (fits (d.length+([(gt a b)]).length) 8) ((z9c φ e) a c (W (b+1)) (d++[(gt a b)])))) else((z9c φ e) a c (W (b+1)) d))) else(ck (fits (d.length+([c]).length) 8) (z8d φ φ a c 0 (d++[c]))))
def zd8(φ:Nat)(a:t00)(b:Int):t06:=(z9c φ φ a b 0 ([]:List Int))
def zs3(φ:Nat):Fsp TV:=⟨[24,0],[.row 3 0],kq2 (zd8 φ)⟩
def z4q(φ:Nat):Nat->t00->Int->Int->t00->t06
 |0,_,_,_,_=>none
 |e+1,a,d,b,c=>(if(decide (b<(a.length:Int)))=true then(ck (rg b a.length) (if(((gt a b):Int) !=d)=true then(ck (rg b a.length) (ck (fits (c.length+([(gt a b)]).length) 8) ((z4q φ e) a d (W (b+1)) (c++[(gt a b)])))) else((z4q φ e) a d (W (b+1)) c))) else(some (c,())))
def zf5(φ:Nat)(a:t00)(b:Int):t06:=(z4q φ φ a b 0 ([]:List Int))
def z7a(φ:Nat):Nat->t00->Int->Int->t00->t06
 |0,_,_,_,_=>none
 |e+1,a,d,b,c=>(if(decide (b<(a.length:Int)))=true then(ck (rg b a.length) (if(((gt a b):Int) !=d)=true then(ck (rg b a.length) (ck (fits (c.length+([(gt a b)]).length) 8) ((z7a φ e) a d (W (b+1)) (c++[(gt a b)])))) else((z7a φ e) a d (W (b+1)) c))) else(some (c,())))
def zcv(φ:Nat)(a:t00)(b:Int):t06:=(z7a φ φ a b 0 ([]:List Int))
def zm1(φ:Nat):Fsp TV:=⟨[24,0],[.row 3 0],kq2 (zcv φ)⟩
def z0v(φ:Nat)(e :(t08->Int->Int->Int->t00->t06)):Nat->t08->Int->Int->Int->Int->t00->Item->t06
 |0,_,_,_,_,_,_,_=>none
 |i+1,f,c,d,g,b,h,a=>(if(decide (b<(a.parts.length:Int)))=true then(ck (rg b a.parts.length) (ck (((((gt a.parts b).kind:Int) !=c)=false)->rg b a.parts.length) (if((((gt a.parts b).kind:Int) !=c)||(((gt a.parts b).serial:Int) !=d))=true then((z0v φ e i) f c d g (W (b+1)) h a) else(ck (rg b a.parts.length) (if(gt a.parts b).fitted=true then((zd8 φ h a.wagon).bind λj=>((z0v φ e i) f c d g (W (b+1)) j.1 a)) else((zcv φ h a.wagon).bind λk=>((z0v φ e i) f c d g (W (b+1)) k.1 a))))))) else(e f c d (W (g+1)) h))
def z47(φ:Nat):Nat->t08->Int->Int->Int->t00->t06
 |0,_,_,_,_,_=>none
 |d+1,a,e,f,b,c=>(if(decide (b<(a.length:Int)))=true then(ck (rg b a.length) (z0v φ (z47 φ d) φ a e f b 0 c ((gt a b).item))) else(some (c,())))
def za7(φ:Nat)(a:t08)(b c:Int):t06:=(z47 φ φ a b c 0 ([]:List Int))
def znh(φ:Nat):Fsp TV:=⟨[54,0,0],[.val 24],kq3 (za7 φ)⟩
def z2t(φ:Nat)(c :(t08->Int->t08->Int->Int->t00->t06)):Nat->t08->Int->t08->Int->Int->t00->Int->t00->t06
 |0,_,_,_,_,_,_,_,_=>none
 |j+1,d,e,f,g,h,a,b,i=>(if(decide (b<(a.length:Int)))=true then(ck (rg b a.length) ((zd8 φ i (gt a b)).bind λk=>((z2t φ c j) d e f g h a (W (b+1)) k.1))) else(c d e f g (W (h+1)) i))
def z2s(φ:Nat)(e :(t08->Int->t08->Int->t00->t06)):Nat->t08->Int->t08->Int->Int->t00->t06
 |0,_,_,_,_,_,_=>none
 |h+1,a,f,d,b,c,g=>(ck (rg b a.length) (if(decide (c<((((gt a b).item).parts).length:Int)))=true then(ck (rg b a.length) (ck (rg c (((gt a b).item).parts).length) (ck (rg b a.length) (ck (rg c (((gt a b).item).parts).length) ((za7 φ d (((gt (((gt a b).item).parts) c)).kind) (((gt (((gt a b).item).parts) c)).serial)).bind λi=>(z2t φ (z2s φ e h) φ a f d b c i.1 0 g)))))) else(e a f d (W (b+1)) g)))
def z3m(φ:Nat):Nat->t08->Int->t08->Int->t00->t06
 |0,_,_,_,_,_=>none
 |e+1,a,c,f,b,d=>(if(decide (b<(a.length:Int)))=true then(ck (rg b a.length) (ck ((((((gt a b).item).kind:Int) !=10)=false)->rg b a.length) (if(((((gt a b).item).kind:Int) !=10)||(decide (c<(gt a b).time)))=true then((z3m φ e) a c f (W (b+1)) d) else(z2s φ (z3m φ e) φ a c f b 0 d)))) else(some (d,())))
def zbb(φ:Nat)(a:t08)(b:Int):t06:=((zbc φ a b).bind λc=>(z3m φ φ a b c.1 0 ([]:List Int)))
def zqb(φ:Nat):Fsp TV:=⟨[54,0],[.val 24],kq2 (zbb φ)⟩
def z7x(φ:Nat)(a b:z7):t01:=(if((a.item.from_:Int) !=b.item.from_)=true then(some ((decide ((a.item.from_:Int)<b.item.from_)),())) else(if((a.ref.railway:Int) !=b.ref.railway)=true then(some ((decide ((a.ref.railway:Int)<b.ref.railway)),())) else(some ((decide ((a.ref.no:Int)<b.ref.no)),()))))
def zqo(φ:Nat):Fsp TV:=⟨[53,53],[.val 2],kq2 (z7x φ)⟩
def z2v(φ:Nat):Nat->Int->t08->t0n
 |0,_,_=>none
 |c+1,a,b=>(ck (((decide ((0:Int)<a))=true)->rg a b.length) (ck (((decide ((0:Int)<a))=true)->rg (W (a-1)) b.length) ((zi (default,()) ((decide ((0:Int)<a))=true) (z7x φ (gt b a) (gt b (W (a-1))))).bind λd=>(if((decide ((0:Int)<a))&&d.1)=true then(ck (rg a b.length) (ck (rg (W (a-1)) b.length) (ck (rg a b.length) (ck (rg (W (a-1)) (((zo b a (gt b (W (a-1))))).length)) ((z2v φ c) (W (a-1)) ((zo ((zo b a (gt b (W (a-1))))) (W (a-1)) (gt b a)))))))) else(some (b,()))))))
def z6j(φ:Nat)(a:t08)(b:z7):t0n:=(ck (fits (([]:List z7).length+a.length) 192) (ck (fits ((([]:List z7)++a).length+([b]).length) 192) (z2v φ φ ((W ((((([]:List z7)++a)++[b]).length:Int)-1))) ((([]:List z7)++a)++[b]))))
def zke(φ:Nat):Fsp TV:=⟨[54,53],[.row 76 53],kq2 (z6j φ)⟩
def z3z(φ:Nat):Nat->Int->Int->Int->Int->Pool->za->t08->t13
 |0,_,_,_,_,_,_,_=>none
 |f+1,c,e,g,b,d,h,a=>(if(decide (b<(a.length:Int)))=true then(ck (rg b a.length) (if((((gt a b).item).kind:Int)==5)=true then(ck (rg b a.length) ((z3z φ f) c e (((gt a b).item).class_) (W (b+1)) d h a)) else((z3z φ f) c e g (W (b+1)) d h a))) else(ck (rg c d.fleet.wagons.length) (ck (rg (W ((a.length:Int)-1)) a.length) (some ((⟨(gt d.fleet.wagons c).type_,g,(((gt a (W ((a.length:Int)-1)))).item).place,e,0⟩:za),true,())))))
def z3y(φ:Nat):Nat->t08->Int->Int->Int->Pool->za->t08->t13
 |0,_,_,_,_,_,_,_=>none
 |h+1,a,d,e,b,f,g,c=>(if(decide (b<(a.length:Int)))=true then(ck (rg b a.length) (if(((((gt a b).item).wagon:Int) !=d)||(decide (e<((gt a b).item).from_)))=true then((z3y φ h) a d e (W (b+1)) f g c) else(if(((((gt a b).item).kind:Int)==8)&&((((gt a b).item).code:Int)==9))=true then(some ((⟨0,0,0,0,0⟩:za),false,())) else(if((((((gt a b).item).kind:Int)==6)||((((gt a b).item).kind:Int)==7))||((((gt a b).item).kind:Int)==5))=true then(ck (rg b a.length) ((z6j φ c (gt a b)).bind λi=>((z3y φ h) a d e (W (b+1)) f g i.1))) else((z3y φ h) a d e (W (b+1)) f g c))))) else(ck (((((c.length:Int):Int)==0)=false)->rg (W ((c.length:Int)-1)) c.length) (if((((c.length:Int):Int)==0)||(((((gt c (W ((c.length:Int)-1)))).item).kind:Int) !=7))=true then(some ((⟨0,0,0,0,0⟩:za),false,())) else(z3z φ φ d e (-1) 0 f g c))))
def zhb(φ:Nat)(a:Pool)(b:t08)(c d:Int):t13:=(z3y φ φ b c d 0 a (⟨0,0,0,0,0⟩:za) ([]:List z7))
def zyy(φ:Nat):Fsp TV:=⟨[28,54,0,0],[.val 1,.val 2],kq4 (zhb φ)⟩
def zbh(φ:Nat)(a b:za):t01:=(if((a.type_:Int) !=b.type_)=true then(some ((decide ((a.type_:Int)<b.type_)),())) else(if((a.class_:Int) !=b.class_)=true then(some ((decide ((a.class_:Int)<b.class_)),())) else(some ((decide ((a.place:Int)<b.place)),()))))
def zz0(φ:Nat):Fsp TV:=⟨[1,1],[.val 2],kq2 (zbh φ)⟩
def z1i(φ:Nat):Nat->t09->Int->za->t09->t17
 |0,_,_,_,_=>none
 |e+1,a,b,d,c=>(if(decide (b<(a.length:Int)))=true then(ck (rg b a.length) ((zbh φ d (gt a b)).bind λf=>(if f.1=true then(ck (rg b a.length) (ck (fits (c.length+([(gt a b)]).length) 40) ((z1i φ e) a (W (b+1)) d (c++[(gt a b)])))) else((z1i φ e) a (W (b+1)) d c)))) else(some (c,())))
def z2e(φ:Nat):Nat->t09->Int->za->t09->t17
 |0,_,_,_,_=>none
 |e+1,a,b,c,d=>(if(decide (b<(a.length:Int)))=true then(ck (rg b a.length) ((zbh φ (gt a b) c).bind λf=>(if f.1=true then(ck (rg b a.length) (ck (fits (d.length+([(gt a b)]).length) 40) ((z2e φ e) a (W (b+1)) c (d++[(gt a b)])))) else(ck (rg b a.length) ((zbh φ c (gt a b)).bind λg=>(if(!g.1)=true then(ck (rg b a.length) ((z2e φ e) a (W (b+1)) (⟨c.type_,c.class_,c.place,c.at_,W ((gt a b).count+1)⟩:za) d)) else((z2e φ e) a (W (b+1)) c d))))))) else(ck (fits (d.length+([c]).length) 40) (z1i φ φ a 0 c (d++[c]))))
def z7w(φ:Nat)(b:t09)(a:za):t17:=(z2e φ φ b 0 (⟨a.type_,a.class_,a.place,a.at_,1⟩:za) ([]:List za))
def zqj(φ:Nat):Fsp TV:=⟨[36,1],[.row 64 1],kq2 (z7w φ)⟩
def z5l(φ:Nat)(d :(Int->t08->t00->Int->Pool->t09->t0h)):Nat->Int->t08->t00->Int->Bool->Int->Pool->t09->za->t0h
 |0,_,_,_,_,_,_,_,_,_=>none
 |k+1,e,f,a,b,g,c,h,i,j=>(if(decide (c<(a.length:Int)))=true then(ck ((g=true)->rg c a.length) ((z5l φ d k) e f a b ((g&&(((gt a c):Int) !=b))) (W (c+1)) h i j)) else(if g=true then((z7w φ i j).bind λl=>(d e f a (W (b+1)) h l.1)) else(d e f a (W (b+1)) h i)))
def z6w(φ:Nat):Nat->Int->t08->t00->Int->Pool->t09->t0h
 |0,_,_,_,_,_,_=>none
 |g+1,c,d,h,a,b,e=>(if(decide (a<(b.fleet.wagons.length:Int)))=true then((zhb φ b d a c).bind λf=>(z5l φ (z6w φ g) φ c d h a f.2.1 0 b e f.1)) else(some (e,0,())))
def z9x(φ:Nat)(a:Pool)(e:t08)(b:Int):t0h:=((z5y φ a).bind λc=>(if(c.1 !=0)=true then(some (([]:List za),c.1,())) else((z0o φ b 0 1073741824).bind λf=>(if(!f.1)=true then(some (([]:List za),1,())) else((zbe φ a e).bind λd=>((zbb φ d.1 b).bind λg=>(z6w φ φ b d.1 g.1 0 a ([]:List za))))))))
def zyw(φ:Nat):Fsp TV:=⟨[28,54,0],[.val 36,.val 0],kq3 (z9x φ)⟩
def z1h(φ:Nat):Nat->t09->t09->Int->t01
 |0,_,_,_=>none
 |d+1,b,c,a=>(if(decide (a<(b.length:Int)))=true then(ck (rg a b.length) (ck (rg a c.length) (if(!((((gt b a).type_:Int)==(gt c a).type_)&&((((gt b a).class_:Int)==(gt c a).class_)&&((((gt b a).place:Int)==(gt c a).place)&&((((gt b a).at_:Int)==(gt c a).at_)&&((((gt b a).count:Int)==(gt c a).count)&&true))))))=true then(some (false,())) else((z1h φ d) b c (W (a+1)))))) else(some (true,())))
def z7b(φ:Nat)(a b:t09):t01:=(if(((a.length:Int):Int) !=(b.length:Int))=true then(some (false,())) else(z1h φ φ a b 0))
def zhl(φ:Nat):Fsp TV:=⟨[36,36],[.val 2],kq2 (z7b φ)⟩
def z49(φ:Nat):Nat->t00->t00->Int->t01
 |0,_,_,_=>none
 |d+1,b,c,a=>(if(decide (a<(b.length:Int)))=true then(ck (rg a b.length) (ck (rg a c.length) (if(((gt b a):Int) !=(gt c a))=true then(some (false,())) else((z49 φ d) b c (W (a+1)))))) else(some (true,())))
def za8(φ:Nat)(a b:t00):t01:=(if(((a.length:Int):Int) !=(b.length:Int))=true then(some (false,())) else(z49 φ φ a b 0))
def znj(φ:Nat):Fsp TV:=⟨[24,24],[.val 2],kq2 (za8 φ)⟩
def z4r(φ:Nat):Nat->Int->zq->zq->t01
 |0,_,_,_=>none
 |d+1,a,b,c=>(if(decide (a<(b.arcs.length:Int)))=true then(ck (rg a b.arcs.length) (ck (rg a c.arcs.length) (if(!((((gt b.arcs a).from_:Int)==(gt c.arcs a).from_)&&((((gt b.arcs a).to:Int)==(gt c.arcs a).to)&&((((gt b.arcs a).cap:Int)==(gt c.arcs a).cap)&&((((gt b.arcs a).cost:Int)==(gt c.arcs a).cost)&&true)))))=true then(some (false,())) else((z4r φ d) (W (a+1)) b c)))) else(some (true,())))
def zbd(φ:Nat)(a b:zq):t01:=((za8 φ a.supply b.supply).bind λc=>(if((!c.1)||(((a.arcs.length:Int):Int) !=(b.arcs.length:Int)))=true then(some (false,())) else(z4r φ φ 0 a b)))
def zqh(φ:Nat):Fsp TV:=⟨[40,40],[.val 2],kq2 (zbd φ)⟩
def z3n(φ:Nat):Nat->Int->t08->t0c->t0v
 |0,_,_,_=>none
 |d+1,a,b,c=>(if(decide (a<(b.length:Int)))=true then(ck (rg a b.length) (ck (fits (c.length+([(⟨((gt b a).item).number,((gt b a).item).class_,((gt b a).item).place,((gt b a).item).from_,((gt b a).item).to,((gt b a).item).weight,((gt b a).item).amount⟩:zp)]).length) 56) ((z3n φ d) (W (a+1)) b ((c++[(⟨((gt b a).item).number,((gt b a).item).class_,((gt b a).item).place,((gt b a).item).from_,((gt b a).item).to,((gt b a).item).weight,((gt b a).item).amount⟩:zp)]))))) else(some (c,())))
def z4f(φ:Nat):Nat->t08->Int->Int->t08->t0v
 |0,_,_,_,_=>none
 |e+1,a,c,b,d=>(if(decide (b<(a.length:Int)))=true then(ck (rg b a.length) (ck ((((((gt a b).item).kind:Int)==15)=true)->rg b a.length) (if(((((gt a b).item).kind:Int)==15)&&(decide (c<=((gt a b).item).to)))=true then(ck (rg b a.length) ((z6j φ d (gt a b)).bind λf=>((z4f φ e) a c (W (b+1)) f.1))) else((z4f φ e) a c (W (b+1)) d)))) else(z3n φ φ 0 d ([]:List zp)))
def zd9(φ:Nat)(a:t08)(b:Int):t0v:=(z4f φ φ a b 0 ([]:List z7))
def zs5(φ:Nat):Fsp TV:=⟨[54,0],[.val 37],kq2 (zd9 φ)⟩
def z2u(φ:Nat):Nat->t0c->t0c->Int->t01
 |0,_,_,_=>none
 |d+1,b,c,a=>(if(decide (a<(b.length:Int)))=true then(ck (rg a b.length) (ck (rg a c.length) (if(!((((gt b a).type_:Int)==(gt c a).type_)&&((((gt b a).class_:Int)==(gt c a).class_)&&((((gt b a).place:Int)==(gt c a).place)&&((((gt b a).from_:Int)==(gt c a).from_)&&((((gt b a).to:Int)==(gt c a).to)&&((((gt b a).count:Int)==(gt c a).count)&&((((gt b a).weight:Int)==(gt c a).weight)&&true))))))))=true then(some (false,())) else((z2u φ d) b c (W (a+1)))))) else(some (true,())))
def z8e(φ:Nat)(a b:t0c):t01:=(if(((a.length:Int):Int) !=(b.length:Int))=true then(some (false,())) else(z2u φ φ a b 0))
def zkd(φ:Nat):Fsp TV:=⟨[37,37],[.val 2],kq2 (z8e φ)⟩
def zha(φ:Nat)(a:Pool)(b:za)(c:zp):t19:=((z5y φ a).bind λd=>(if(d.1 !=0)=true then(some (0,false,d.1,())) else((zdb φ a b).bind λe=>((zi (default,()) ((!e.1)=false) (zf6 φ a c)).bind λg=>(if((!e.1)||(!g.1))=true then(some (0,false,1,())) else((z8h φ a b c).bind λf=>(some (f.1,f.2.1,0,()))))))))
def zyu(φ:Nat):Fsp TV:=⟨[28,1,30],[.val 0,.val 2,.val 0],kq3 (zha φ)⟩
def z0s(φ:Nat)(c:Pool)(d:t08)(e:Int)(a:t09)(b:t0c):t01:=((ze0 φ).bind λn=>(if(!n.1)=true then(some (false,())) else((zjo φ c a b).bind λj=>((zi (default,()) ((!j.1)=false) (z8c φ d 20)).bind λo=>(if((!j.1)||(!o.1))=true then(some (true,())) else((z3w φ c d e).bind λf=>((z9x φ c d e).bind λg=>((zbn φ c a b).bind λk=>((zgf φ c a b).bind λl=>((z7b φ f.1 g.1).bind λm=>((zi (default,()) (((!m.1)||(f.2.1 !=g.2.1))=false) (zbd φ k.1 l.1)).bind λp=>(if((((!m.1)||(f.2.1 !=g.2.1))||(!p.1))||(k.2.1 !=l.2.1))=false then((z6l φ d e).bind λq=>((zd9 φ d e).bind λr=>((z8e φ q.1 r.1).bind λs=>(if(!s.1)=true then(some (false,())) else(if((((a.length:Int):Int)==0)||(((b.length:Int):Int)==0))=true then(some (true,())) else(ck (rg 0 a.length) (ck (rg 0 b.length) ((zab φ c (gt a 0) (gt b 0)).bind λh=>(ck (rg 0 a.length) (ck (rg 0 b.length) ((zha φ c (gt a 0) (gt b 0)).bind λi=>(some ((((h.1==i.1)&&(h.2.1==i.2.1))&&(h.2.2.1==i.2.2.1)),()))))))))))))) else(some (false,()))))))))))))))
def z2m(φ:Nat):Fsp TV:=⟨[28,54,0,36,37],[.val 2],kq5 (z0s φ)⟩
end Px
end
