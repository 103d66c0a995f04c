/- A part of the proof of emptiesIdle_holds. Conditions: none. -/
import Derived.Test.YtcofccdjgfgeeaaGreatKibe
import Derived.Shelf.SlSortCmp.NoneTotal
import Derived.Shelf.Sort.Plain
import Derived.Shelf.Slices.In.SortNone
set_option linter.unusedVariables false
set_option linter.unusedSimpArgs false
section
namespace Px
open Go Go.RowKit
section cells
variable{T:Nat->Type}
def cvT(g :(c:Nat)->T c->List Value):(fs:List Nat)->Tup T fs->List Value
 | [],_=>[]
 |c::cs,x=>g c x.1++cvT g cs x.2
def cvD(g :(c:Nat)->T c->List Value): {α:Type}->Ds T α->α->List Value
 |_,.int k,x=>[.int k x]
 |_,.bool,x=>[.bool x]
 |_,.str,x=>[.string x]
 |_,.sl _,_=>[]
 |_,.map _ _,_=>[]
 |_,.arr n c,f=>(List.range n).flatMap λi=>g c (f i)
 |_,.st fs _ un _,x=>cvT g fs (un x)
end cells
section
variable(V:TE)
def cvN:Nat->(c:Nat)->V.T c->List Value
 |0,_,_=>[]
 |n+1,c,x=>cvD (cvN n) (V.d c) x
def TE.cv(c:Nat)(x:V.T c):List Value:=cvN V (c+1) c x
variable{V}
theorem y2v:∀(n c:Nat),flN V n c=true->∀x,V.ev c x =(cvN V n c x).map eqv/\∀v∈cvN V n c x,v.oneCell'=true
 |0,_,h=>by cases h
 |n+1,c,h=>by
  intro x;have ih:=y2v n;rw[V.ev_eq];change flD (flN V n) (V.d c)=true at h;change evD V.ev (V.mv V.ev) V.sz (V.d c) x =(cvD (cvN V n) (V.d c) x).map eqv/\∀v∈cvD (cvN V n) (V.d c) x,v.oneCell'=true;revert h x;generalize V.d c=d;generalize V.T c=α at d;intro x h;cases d with
  |int k=>exact⟨rfl,λv hv=>by simp only[cvD,w0v] at hv;subst hv;rfl⟩
  |bool=>exact⟨rfl,λv hv=>by simp only[cvD,w0v] at hv;subst hv;rfl⟩
  |str=>exact⟨rfl,λv hv=>by simp only[cvD,w0v] at hv;subst hv;rfl⟩
  |sl c'=>cases h
  |map kc vc=>cases h
  |arr m c'=>
   simp only[evD,cvD,Px.arr,w54];refine⟨?_,λv hv=>?_⟩
   .congr 1;funext i;exact(ih c' h (x i)).1
   .obtain⟨i,_,hi⟩:=w37.1 hv;exact(ih c' h (x i)).2 v hi
  |st fs mk un law=>
   have key:∀(fs:List Nat)(y:Tup V.T fs),fs.all (flN V n)=true->evT V.ev fs y =(cvT (cvN V n) fs y).map eqv/\∀v∈cvT (cvN V n) fs y,v.oneCell'=true:=by
    intro fs
    induction fs with
    |nil=>intro y _;exact⟨rfl,λv hv=>by cases hv⟩
    |cons c cs ihf=>
     intro y h;simp only[w1b,w03] at h;obtain⟨h1,h2⟩:=ihf y.2 h.2;obtain⟨h3,h4⟩:=ih c h.1 y.1;refine⟨by simp only[evT,cvT,w25,h1,h3],λv hv=>?_⟩;rcases w0m.1 hv with hv|hv
     .exact h4 v hv
     .exact h2 v hv
   exact key fs (un x) h
theorem y85{c:Nat}(h:V.fl c=true)(x:V.T c):V.ev c x =(V.cv c x).map eqv:=(y2v _ _ h x).1
theorem y2w{c:Nat}(h:V.fl c=true)(x:V.T c):∀v∈V.cv c x,v.oneCell'=true:=(y2v _ _ h x).2
theorem zui{c:Nat}(h:V.fl c=true)(x:V.T c):(V.cv c x).length=V.sz c:=by have:=V.ev_len c x;rw[y85 h] at this;simpa using this
end
theorem y0o{r:Nat->Prop}{w:World}: ∀{us vs:List Value},zl r w (us.map eqv) vs->vs=us
 |us,vs,⟨hl,h⟩=>by
  refine w32 λi=>?_
  by_cases hi:i<us.length
  .obtain⟨u,hu,he,_⟩:=h i (eqv us[i]) (by simp[hi]);rw[hu,w09 hi];exact congrArg some he
  .have hl':us.length=vs.length:=by simpa using hl
   rw[w1m (show us.length<=i by omega),w1m (show vs.length<=i by omega)]
theorem zkp{r:Nat->Prop}{w:World}{us:List Value}(h:∀v∈us,v.oneCell'=true):zl r w (us.map eqv) us:=by refine⟨by simp,λj A hj=>?_⟩;simp only[w1a,w1j] at hj;obtain⟨u,hu,rfl⟩:=hj;exact⟨u,hu,rfl,h u (w12 hu)⟩
theorem zo9{α:Type}{e:α->List Value}{k:Nat}(hk:∀x,(e x).length=k)(h0:0<k):∀(l:List α)(t:Nat),(l.flatMap e)[t]? =(l[t / k]?).bind λx=>(e x)[t % k]?
 | [],t=>by simp
 |x::l,t=>by
  rw[w0w,w1w,hk];by_cases h:t<k
  .rw[if_pos h,w4z h,Nat.mod_eq_of_lt h];simp
  .have h1:t / k =(t-k) / k+1:=Nat.div_eq_sub_div h0 (by omega);have h2:t % k =(t-k) % k:=Nat.mod_eq_sub_mod (by omega);rw[if_neg h,zo9 hk h0 l,h1,h2,w20]
theorem zr7{α:Type}[Inhabited α]{e:α->List Value}{k:Nat}(hk:∀x,(e x).length=k)(d:Array α):(Sort.flatK e k d).toList=d.toList.flatMap e:=by
 by_cases h0:0<k
 .refine w32 λt=>?_
  rw[zo9 hk h0];by_cases ht:t<d.size*k
  .have hd:t / k<d.size:=Nat.div_lt_of_lt_mul (by rwa [w50]);have hm:t % k<(e d[t / k]).length:=by rw[hk];exact w4e _ h0
   have h1:t<(Sort.flatK e k d).toList.length:=by rw[w1y,Sort.size_flatK];exact ht
   have h2 :(Sort.flatK e k d).toList[t] =(Sort.flatK e k d)[t]!:=by rw[getElem!_pos _ t (by rw[Sort.size_flatK];exact ht)];simp
   rw[w09 h1,h2,Sort.get_flatK _ _ _ _ ht,getElem!_pos d (t / k) hd];simp only[w3a,w1t hd,w04];rw[getElem!_pos (e d[t / k]) (t % k) hm,w09 hm]
  .rw[w1m (by rw[w1y,Sort.size_flatK];omega)];have:d.size<=t / k:=by rw[Nat.le_div_iff_mul_le h0];omega
   simp[this]
 .have:k=0:=by omega
  subst this;have e1:∀x,e x = []:=λx=>w17 (hk x)
  have e2:d.toList.flatMap e = []:=by simp[List.flatMap_eq_nil_iff,e1]
  rw[e2];exact w17 (by rw[w1y,Sort.size_flatK];simp)
theorem y44{w:World}{g:Nat}{cur:Array Value}{E:TypeId}{F:Array Value}(hh:w.heap[g]? = some (.cells cur E (0,0)))(hF:cur.toList.take F.size=F.toList):Sort.Holds id w g 0 F:=by
 intro j hj;have h1:cur[j]? = some F[j]:=by
  have :(cur.toList.take F.size)[j]? = F.toList[j]?:=by rw[hF]
  rw[w0r,if_pos hj] at this;simpa[hj] using this
 rw[getElem!_pos F j hj];refine⟨?_,?_⟩
 .unfold World.cell?;rw[hh];simpa using h1
 .unfold World.frozen?;rw[hh];simp
theorem y1x{w:World}{g n:Nat}{cur:Array Value}{E:TypeId}{F:Array Value}{os:Array Obj}(hh:w.heap[g]? = some (.cells cur E (0,0)))(hs:F.size<=cur.size):
  ∃cur',(Sort.grow (Sort.putRow id (Sort.ahead w n) g 0 F) os).heap[g]? = some (.cells cur' E (0,0))/\cur'.size=cur.size/\cur'.toList.take F.size=F.toList:=by
 have hlt:g<w.heap.size:=(w19.1 hh).1;refine⟨Sort.putCells id 0 F cur,?_,by simp[Sort.putCells],?_⟩
 .simp only[Sort.grow,Sort.putRow,Sort.mapBlock,Sort.ahead];rw[w15,if_pos (by simpa using hlt),Array.getElem?_modify,if_pos rfl,hh];rfl
 .refine w32 λj=>?_
  rw[w0r];by_cases hj:j<F.size
  .rw[if_pos hj];have:j<cur.size:=by omega
   simp[Sort.putCells,this,hj]
  .rw[if_neg hj,w1m (by simpa using hj)]
theorem zw6{w:World}{g n b:Nat}{F:Array Value}{os:Array Obj}(hb:b<w.heap.size)(hg:b≠g):(Sort.grow (Sort.putRow id (Sort.ahead w n) g 0 F) os).heap[b]? = w.heap[b]?:=by simp only[Sort.grow,Sort.putRow,Sort.mapBlock,Sort.ahead];rw[w15,if_pos (by simpa using hb),Array.getElem?_modify,if_neg (λe=>hg e.symm)]
theorem zzs[Dr]{P:Program}{f:FuncId}{args:List VP}{vs0:List Value}{α:Type}{E:TypeId}{e:α->List VP}{ce:α->List Value}{k:Nat}{l l':List α}{sv:Value}
  (he:∀x∈l,e x =(ce x).map eqv) (he':∀x∈l',e x =(ce x).map eqv) (hone:∀x∈l',∀v∈ce x,v.oneCell'=true) (hk:∀x∈l,(ce x).length=k) (hk':∀x∈l',(ce x).length=k) (hlen:l'.length=l.length) (hargs:args=vs0.map eqv)
  (hnil:l = []->∀p cap w,Calls P f (#[.slice p 0 cap]++vs0.toArray) w λe w'=>e = .returned (.tuple #[])/\w'=w)
  (hrun:l≠[]->∀g cap w,g<w.heap.size->(∀F:Array Value,F.toList=l.flatMap ce->Sort.Holds id w g 0 F)->
   Calls P f (#[.slice (some ⟨g,0,none⟩) l.length cap]++vs0.toArray) w λe w'=>e = .returned (.tuple #[])/\∃n os F,F.toList=l'.flatMap ce/\w'=Sort.grow (Sort.putRow id (Sort.ahead w n) g 0 F) os) :
  MutT P f (eqv sv::args) E e k l sv λx l2=>x=eqv (.tuple #[])/\l2=l':=by
 intro w0 base r S w vs hw hl hA;have hvs:vs = #[sv]++vs0.toArray:=by
  have hsz:vs.size=1+vs0.length:=by rw[hl,hargs];simp;omega
  refine Array.ext (by rw[hsz];simp[w4y]) λi h1 h2=>?_
  cases i with
  |zero=>have:=hA 0 (eqv sv) rfl;simp only[w07,w1t h1,w1e] at this;have this:vs[0]=sv:=this;rw[this,Array.getElem_append_left (by simp)];rfl
  |succ i=>
   have hi:i<vs0.length:=by omega
   have:=hA (i+1) (eqv vs0[i]) (by rw[hargs];simp[hi]);simp only[w07,w1t h1,w1e] at this;rw[this];rw[Array.getElem_append_right (by simp)];simp
 subst hvs;have hrow:=hw.obj 0 _ rfl;have hfm:l.flatMap e =(l.flatMap ce).map eqv:=by
  rw[w54];clear hnil hrun hrow hk hlen hw
  induction l with
  |nil=>rfl
  |cons x l ih=>rw[w0w,w0w,he x (w0l),ih (λy hy=>he y (w0h _ hy))]
 have hfm':l'.flatMap e =(l'.flatMap ce).map eqv:=by
  rw[w54];clear hnil hrun hrow hk hk' hlen hw hone
  induction l' with
  |nil=>rfl
  |cons x l' ih=>rw[w0w,w0w,he' x (w0l),ih (λy hy=>he' y (w0h _ hy))]
 have hfl:∀m:List α,(∀x∈m,(ce x).length=k)->(m.flatMap ce).length=m.length*k:=by
  intro m
  induction m with
  |nil=>intro _;simp
  |cons x m ih=>intro h;rw[w0w,w0d,h x (w0l),ih (λy hy=>h y (w0h _ hy)),w0k,w16];omega
 by_cases h0:l = []
 .have hl0:l' = []:=w17 (by rw[hlen,h0];rfl);have hslice:∃p cap,sv = .slice p 0 cap:=by
   rcases hrow with⟨rfl,_⟩|⟨g,cap,cur,rfl,_⟩
   .exact⟨_,_,rfl⟩
   .rw[h0];exact⟨_,_,rfl⟩
  obtain⟨p,cap,rfl⟩:=hslice;refine(hnil h0 p cap w).mono ?_;rintro en w' ⟨rfl,rfl⟩;refine⟨_,eqv (.tuple #[]),_,r,S,rfl,Evo.refl _ _ _,hw,rfl,l',?_,rfl,rfl⟩;rw[h0,hl0]
 .rcases hrow with⟨_,rfl⟩|⟨g,cap,cur,rfl,hS,hcur,hle,hmax,hsz,hc⟩
  .exact absurd rfl h0
  .have hlt:=(w19.1 hcur).1;rw[hfm] at hc;have hc:=y0o hc;refine(hrun h0 g cap w hlt λF hF=>y44 hcur ?_).mono ?_
   .have:F.size=l.length*k:=by rw[<- w1y,hF,hfl l hk]
    rw[this,hc,hF]
   .rintro en w' ⟨rfl,n,os,F,hF,rfl⟩;have hFs:F.size=l.length*k:=by rw[<- w1y,hF,hfl l' hk',hlen]
    have hb:∀b,b<w.heap.size->¬S 0 b->(Sort.grow (Sort.putRow id (Sort.ahead w n) g 0 F) os).heap[b]? = w.heap[b]?:=λb hb hs=>zw6 hb (λe=>hs (e ▸ hS))
    obtain⟨cur',hcur',hsz',htk⟩:=y1x (n:=n) (os:=os) (F:=F) hcur (by rw[hFs,hsz];exact w13 _ hle);refine⟨_,eqv (.tuple #[]),_,r,_,rfl,hw.evo_repl 0 hb,hw.repl 0 (row E e k l' (.slice (some ⟨g,0,none⟩) l.length cap)) (S 0) (by simp) rfl ⟨rfl,Nat.le_add_right _ _⟩ rfl (by simp[Sort.grow,Sort.putRow,Sort.mapBlock,Sort.ahead]) hb (λb hb'=>?_) ?_,rfl,l',rfl,rfl,rfl⟩
    .obtain⟨_,h2,h3,h4⟩:=hw.own 0 b hb';refine⟨h2,?_,h4,λj hj hs=>hj (hw.apart j 0 b hs hb')⟩;simp[Sort.grow,Sort.putRow,Sort.mapBlock,Sort.ahead];omega
    .refine .inr ⟨g,cap,cur',by rw[hlen],hS,hcur',by omega,hmax,by omega,?_⟩;rw[hlen,<- hFs,htk,hF,hfm'];exact zkp λv hv=>by obtain⟨x,hx,hxv⟩:=w37.1 hv;exact hone x hx v hxv
theorem y7j{w w':World}(h : @Bel ⟨True⟩ w.heap.size w w'):∃q os,w'=Sort.grow (w.drewN q) os:=by
 refine⟨w'.drawn-w.drawn,w'.heap.extract w.heap.size w'.heap.size,?_⟩;have hd:=@Bel.drawn ⟨True⟩ _ _ _ h trivial;have hh:w'.heap=w.heap++w'.heap.extract w.heap.size w'.heap.size:=by
  refine Array.ext_getElem? λi=>?_
  rw[w15];by_cases hi:i<w.heap.size
  .rw[if_pos hi,h.block i hi]
  .rw[if_neg hi,Array.getElem?_extract];split
   .congr 1;omega
   .rw[Array.getElem?_eq_none (by omega)]
 have h1:=h.os;have h2:=h.tape;have h3:=h.output;cases w';cases w;simp only[Sort.grow,World.drewN] at *;subst h1;subst h2;subst h3;congr 1;omega
def insL{α:Type}(lt:α->α->Bool)(x:α):List α->List α
 | []=>[x]
 |y::l=>bif lt y x then y::insL lt x l else x::y::l
def zdr{α:Type}(lt:α->α->Bool):List α->List α
 | []=>[]
 |x::l=>insL lt x (zdr lt l)
def pwB{α:Type}(r:α->α->Bool):List α->Bool
 | []=>true
 |x::l=>l.all (r x)&&pwB r l
theorem zoo{α:Type}(lt:α->α->Bool)(x:α):∀l:List α,(insL lt x l).Perm (x::l)
 | []=>List.Perm.refl _
 |y::l=>by
  simp only[insL];cases lt y x with
  |true=>exact((zoo lt x l).cons y).trans (List.Perm.swap x y l)
  |false=>exact List.Perm.refl _
theorem z16{α:Type}(lt:α->α->Bool):∀l:List α,(zdr lt l).Perm l
 | []=>List.Perm.refl _
 |x::l=>(zoo lt x _).trans ((z16 lt l).cons x)
theorem zv7{α β:Type}(f:α->β)(lt:β->β->Bool):∀l:List α,(zdr (λa b=>lt (f a) (f b)) l).map f=zdr lt (l.map f)
 | []=>rfl
 |x::l=>by
  have ins:∀m:List α,(insL (λa b=>lt (f a) (f b)) x m).map f=insL lt (f x) (m.map f):=by
   intro m
   induction m with
   |nil=>rfl
   |cons y m ih=>
    simp only[insL,w0e];cases lt (f y) (f x) with
    |true=>simp only[cond_true,w0e,ih]
    |false=>rfl
  simp only[zdr,w0e];rw[ins,zv7 f lt l]
theorem zop{α:Type}{lt:α->α->Bool}(hO:Sort.SWO lt)(x:α):∀l:List α,l.Pairwise (λa b=>lt b a=false)->(insL lt x l).Pairwise λa b=>lt b a=false
 | [],_=>w2r _ _
 |y::l,h=>by
  rw[w0o] at h;simp only[insL];cases hl:lt y x with
  |true=>
   simp only[cond_true,w0o];refine⟨λz hz=>?_,zop hO x l h.2⟩;rcases w08.1 ((zoo lt x l).mem_iff.1 hz) with rfl|hz
   .cases hx:lt z y with
    |false=>rfl
    |true=>have:=hO.trans _ _ _ hl hx;rw[hO.irrefl] at this;cases this
   .exact h.1 z hz
  |false=>
   simp only[cond_false,w0o];refine⟨λz hz=>?_,h.1,h.2⟩;rcases w08.1 hz with rfl|hz
   .exact hl
   .exact hO.ntrans _ _ _ (h.1 z hz) hl
theorem z52{α:Type}{lt:α->α->Bool}(hO:Sort.SWO lt):∀l:List α,(zdr lt l).Pairwise λa b=>lt b a=false
 | []=>List.Pairwise.nil
 |x::l=>zop hO x _ (z52 hO l)
theorem zy2{α:Type}{r:α->α->Bool}: ∀{l:List α},pwB r l=true↔l.Pairwise λa b=>r a b=true
 | []=>by simp[pwB]
 |x::l=>by simp[pwB,zy2 (l:=l),w0g]
theorem zrn{α:Type}{lt:α->α->Bool}{l l1 l2:List α}(hp:l.Pairwise λa b=>(lt a b||lt b a)=true)(h1:l1.Perm l)(h2:l2.Perm l)(s1:l1.Pairwise λa b=>lt b a=false)(s2:l2.Pairwise λa b=>lt b a=false):l1=l2:=by
 refine List.Perm.eq_of_pairwise (le:=λa b=>lt b a=false) ?_ s1 s2 (h1.trans h2.symm);intro a b ha hb hab hba;have ha:=h1.mem_iff.1 ha;have hb:=h2.mem_iff.1 hb;clear s1 s2 h1 h2
 induction l with
 |nil=>cases ha
 |cons x l ih=>
  rw[w0o] at hp;rcases w08.1 ha with rfl|ha'
  .rcases w08.1 hb with rfl|hb'
   .rfl
   .have:=hp.1 b hb'
    rw[hab,hba] at this;cases this
  .rcases w08.1 hb with rfl|hb'
   .have:=hp.1 a ha'
    rw[hab,hba] at this;cases this
   .exact ih hp.2 ha' hb'
def zn6{α:Type}(ok:α->Bool)(cf:α->α->Int)(l:List α):Option (List α):=bif l.all ok&&Nat.blt l.length 4611686018427387904&&pwB (λa b=>decide (cf a b<0)||decide (cf b a<0)) l then some (zdr (λa b=>decide (cf a b<0)) l) else none
theorem zw1{α:Type}{ok:α->Bool}{cf:α->α->Int}{l l':List α}(h:zn6 ok cf l=some l'):
  (∀y∈l,ok y=true)/\l.length<4611686018427387904/\(l.Pairwise λa b=>(decide (cf a b<0)||decide (cf b a<0))=true)/\l'=zdr (λa b=>decide (cf a b<0)) l:=by
 unfold zn6 at h;cases hc :(l.all ok&&Nat.blt l.length 4611686018427387904&&pwB (λa b=>decide (cf a b<0)||decide (cf b a<0)) l) with
 |false=>rw[hc] at h;cases h
 |true=>rw[hc] at h;simp only[w03,w23,w0g] at hc;exact⟨hc.1.1,hc.1.2,zy2.1 hc.2,(w0c h).symm⟩
theorem y0c{α:Type}{ok:α->Bool}{cf:α->α->Int}{l:List α}(h1:∀y∈l,ok y=true)(h2:l.length<4611686018427387904)(h3:l.Pairwise λa b=>cf a b<0\/cf b a<0):zn6 ok cf l=some (zdr (λa b=>decide (cf a b<0)) l):=by
 unfold zn6;have :(l.all ok&&Nat.blt l.length 4611686018427387904&&pwB (λa b=>decide (cf a b<0)||decide (cf b a<0)) l)=true:=by simp only[w03,w23,w0g];exact⟨⟨h1,h2⟩,zy2.2 (h3.imp λh=>by simpa using h)⟩
 rw[this];rfl
theorem zwp{α:Type}{ok:α->Bool}(l:List α)(hok:∀y∈l,ok y=true):(l.attach.map λy=>(⟨y.1,hok y.1 y.2⟩ : {y:α // ok y=true})).map (·.1)=l:=by
 rw[w2e]
 conv=>rhs;rw[<- List.attach_map_subtype_val l]
 rfl
theorem y6j[Dr]{V:TE}{P:Program}{ρ:Shelf.Ren}(L:Proofs.SlLaysF0.n6 P ρ){E c g:Nat}(hag:∀w,(isAgg (ρ.t 24)).run P w = .ok true w)(hsz:∀w,(Go.sizeOf (ρ.t 24)).run P w = .ok (V.sz c) w)(hfl:V.fl c=true)(hagg:z5u (V.d c)=true)(hg:FnOK P g)
  {ok:V.T c->Bool} {cf:V.T c->V.T c->Int} (hO:Sort.SWO (Proofs.ltOf λa b : {y:V.T c // ok y=true}=>cf a.1 b.1))
  (hcmp:∀a b,ok a=true->ok b=true->@zdn ⟨True⟩ P g [V.vl c a,V.vl c b] λx news=>x=iv .i64 (cf a b)/\news = []):zme V P (ρ.f 6) ⟨E,c,[.fn g],λl _=>zn6 ok cf l⟩:=by
 intro l _ l' sv hF;obtain⟨hok,hlen,hpw,rfl⟩:=zw1 hF;refine zzs (vs0:=[.func (.func g) #[] #[]]) (ce:=V.cv c) (λx _=>y85 hfl x) (λx _=>y85 hfl x) (λx _=>y2w hfl x) (λx _=>zui hfl x) (λx _=>zui hfl x) (z16 _ _).length_eq rfl ?_ ?_
 .intro _ p cap w;exact Proofs.AnyF.slices_SortFunc_none L p cap _ w
 .intro hne b cap w hlt hH;generalize hd :(l.attach.map λy=>(⟨y.1,hok y.1 y.2⟩ : {y:V.T c // ok y=true}))=d;have hv:d.map (·.1)=l:=by rw[<- hd];exact zwp _ hok
  have hd0:d≠[]:=λe=>hne (by rw[<- hv,e];rfl)
  obtain⟨x0,hx0⟩:=List.exists_mem_of_ne_nil d hd0
  let _:Inhabited {y:V.T c // ok y=true}:=⟨x0⟩
  have hs:d.toArray.size=l.length:=by rw[<- hv];simp
  have eg:∀args w,(callFunc g args).run P w = .ok (.enter g args) w:=by obtain⟨fn,h1,h2,h3⟩:=hg;obtain⟨cd,h3⟩:=w18.1 h3;exact Proofs.enters_of h1 h2 h3
  have hfm:∀q:List {y:V.T c // ok y=true},q.flatMap (λy=>V.cv c y.1) =(q.map (·.1)).flatMap (V.cv c):=λq=>by rw[w52]
  have hrun:=Proofs.AnyQ.slices_SortFunc L (V.sz c) hag hsz (λy : {y:V.T c // ok y=true}=>V.cv c y.1) (λy=>zui hfl y.1) (λy=>y2w hfl y.1) (λa b=>cf a.1 b.1) hO g #[] b 0 cap d.toArray w eg ?_ (hH _ ?_) hlt (by rw[hs];exact hlen)
  .rw[hs] at hrun;refine hrun.mono ?_;rintro e w' ⟨rfl,d',n,os,⟨k1,_,k3⟩,k4,rfl⟩;refine⟨rfl,n,os,_,?_,rfl⟩;rw[zr7 (e:=λy : {y:V.T c // ok y=true}=>V.cv c y.1) (λy=>zui hfl y.1),hfm];have hdl:d'.size=l.length:=by rw[k1,hs]
   have e1:d'.extract 0 l.length=d':=by rw[<- hdl];exact Array.extract_size
   have e2:d.toArray.extract 0 l.length=d.toArray:=by rw[<- hs];exact Array.extract_size
   rw[e1,e2] at k3;have k3:d'.toList.Perm d:=by simpa using k3
   have key:d'.toList=zdr (Proofs.ltOf λa b : {y:V.T c // ok y=true}=>cf a.1 b.1) d:=by
    refine zrn (l:=d) (lt:=Proofs.ltOf λa b : {y:V.T c // ok y=true}=>cf a.1 b.1) ?_ k3 (z16 _ _) ?_ (z52 hO _)
    .rw[<- hv] at hpw;exact w2s.1 hpw
    .rw[List.pairwise_iff_getElem];intro i j hi hj hij;have hi':i<d'.size:=by simpa using hi
     have hj':j<d'.size:=by simpa using hj
     have:=k4 i j (w2p _) hij (by omega);rw[getElem!_pos d' i hi',getElem!_pos d' j hj'] at this;simpa using this
   have hm:=zv7 (λy : {y:V.T c // ok y=true}=>y.1) (λa b=>decide (cf a b<0)) d;rw[hv] at hm;rw[key,<- hm];rfl
  .intro m os dk _ y z;have hp:=hcmp y.1 z.1 y.2 z.2 (λ_=>False) (Proofs.sortWorldK (λy : {y:V.T c // ok y=true}=>V.cv c y.1) (V.sz c) w b 0 m dk os) (#[.agg (V.cv c y.1).toArray,.agg (V.cv c z.1).toArray]++#[]) (λ_ h=>h.elim) rfl ?_
   .refine hp.mono ?_;rintro e w' ⟨v,u,objs,r',S',rfl,_,hw',hu,rfl,_⟩;have hu:v = .int .i64 (cf y.1 z.1):=hu;subst hu;exact⟨rfl,y7j (@WInv.below ⟨True⟩ _ _ _ _ _ _ hw')⟩
   .intro i A hi;have one:∀q:V.T c,(V.vl c q).h (λ_=>False) (Proofs.sortWorldK (λy : {y:V.T c // ok y=true}=>V.cv c y.1) (V.sz c) w b 0 m dk os) (.agg (V.cv c q).toArray):=λq=>by rw[zmc q hagg];refine⟨_,rfl,?_⟩;rw[y85 hfl];exact zkp (y2w hfl q)
    match i,hi with
    |0,hi=>cases hi;exact one y.1
    |1,hi=>cases hi;exact one z.1
    |i+2,hi=>simp at hi
  .rw[zr7 (e:=λy : {y:V.T c // ok y=true}=>V.cv c y.1) (λy=>zui hfl y.1),hfm,w2v,hv]
theorem y40{α:Type}[Inhabited α]{enc:α->Value}{w:World}{b o:Nat}{d:Array α}(h:Sort.Holds id w b o (d.map enc)):Sort.Holds enc w b o d:=by intro j hj;have:=h j (by simpa using hj);rw[getElem!_pos _ j (by simpa using hj)] at this;rw[getElem!_pos d j hj];simpa using this
theorem y1n{α:Type}[Inhabited α]{enc:α->Value}{w:World}{b o:Nat}{d:Array α}: Sort.putRow enc w b o d=Sort.putRow id w b o (d.map enc):=by
 unfold Sort.putRow;congr 1;funext cur;unfold Sort.putCells;congr 1;funext k x;simp only[Array.size_map];split
 .rename_i h;have h1:k-o<d.size:=by omega
  rw[getElem!_pos d _ h1,getElem!_pos _ _ (by simpa using h1)];simp
 .rfl
def ztj(l:List Int):Option (List Int):=if l.length<4611686018427387904 then some (zdr (λa b=>decide (a<b)) l) else none
theorem yem:Sort.SWO (λa b:Int=>decide (a<b)) where
 irrefl:=λx=>by simp
 trans:=λx y z h1 h2=>by simp at *;omega
 ntrans:=λx y z h1 h2=>by simp at *;omega
theorem zxk(l:List Int):l.mergeSort (λx y=>decide (x<=y))=zdr (λa b=>decide (a<b)) l:=by
 refine List.Perm.eq_of_pairwise (le:=λa b:Int=>a<=b) (λa b _ _ h1 h2=>by omega) ?_ ?_ ((List.mergeSort_perm _ _).trans (z16 _ _).symm)
 .have:=List.pairwise_mergeSort (le:=λx y:Int=>decide (x<=y)) (by intro a b c h1 h2;simp at *;omega) (by intro a b;simp;omega) l
  exact this.imp λh=>by simpa using h
 .exact(z52 yem l).imp λh=>by simpa using h
theorem zw3[Dr]{P:Program}{ρ:Shelf.Ren}(L:Proofs.Lays.n189 P ρ){E:Nat}{l l':List Int}{sv:Value}(hF:ztj l=some l'):MutT P (ρ.f 189) [eqv sv] E (λn:Int=>[iv .i64 n]) 1 l sv λx l2=>x=eqv (.tuple #[])/\l2=l':=by
 unfold ztj at hF;split at hF
 .rename_i hl;have:=w0c hF;subst this;have hfm:∀q:List Int,q.flatMap (λn=>[Value.int .i64 n])=q.map (Value.int .i64):=λq=>by induction q with
   |nil=>rfl
   |cons x q ih=>rw[w0w,ih];rfl
  refine zzs (args:=[]) (vs0:=[]) (ce:=λn=>[.int .i64 n]) (λx _=>rfl) (λx _=>rfl) (λx _ v hv=>by simp only[w0v] at hv;subst hv;rfl) (λx _=>rfl) (λx _=>rfl) (z16 _ _).length_eq rfl ?_ ?_
  .intro _ p cap w;exact Proofs.Any.slices_Sort_int_none L p cap w
  .intro hne b cap w hlt hH;refine(Proofs.Any.slices_Sort_int L b 0 cap l w (y40 (hH _ ?_)) hlt hl).mono ?_
   .rw[hfm];simp
   .rintro e w' ⟨rfl,n,os,rfl⟩;refine⟨rfl,n,os,_,?_,by rw[y1n]⟩;rw[hfm,zxk];simp
 .cases hF
end Px
end
section
namespace Px
open Go Go.RowKit Go.ChangeShapes Go.WideShapes Go.ChangeAt
section
variable{T:Nat->Type}
def rT(g :(c:Nat)->T c->Prop):(fs:List Nat)->Tup T fs->Prop
 | [],_=>True
 | [c],x=>g c x.1
 |c::cs,x=>g c x.1/\rT g cs x.2
def rD(g :(c:Nat)->T c->Prop): {α:Type}->Ds T α->α->Prop
 |_,.int k,x=>RI k x
 |_,.bool,_=>True
 |_,.str,x=>x.size<=maxLen
 |_,.sl c,x=>RL (g c) x
 |_,.map _ _,_=>True
 |_,.arr n c,x=>∀i,i<n->g c (x i)
 |_,.st fs _ un _,x=>rT g fs (un x)
theorem ye8{g :(c:Nat)->T c->Prop}{c:Nat}: ∀{cs:List Nat}{x:T c×Tup T cs},g c x.1->rT g cs x.2->rT g (c::cs) x
 | [],_,h,_=>h
 |_::_,_,h,k=>⟨h,k⟩
end
section
variable(V:TE)(P:Program)
def rdN:Nat->(c:Nat)->V.T c->Prop
 |0,_,_=>True
 |n+1,c,x=>rD (rdN n) (V.d c) x
def opF(g:TypeId->Nat->Bool):List Nat->List (TypeId×Nat×Nat)->Nat->Nat->Bool
 | [],[],o,m=>Nat.beq o m
 |c::cs,(ty,off,m)::l,o,e=>Nat.beq off o&&Nat.beq m (V.sz c)&&g ty c&&opF g cs l (o+m) e
 |_,_,_,_=>false
def opD(g:TypeId->Nat->Bool): {α:Type}->Ds V.T α->TypeId->Bool
 |_,.int k,t=>match P.underlying t with|some (.int k')=>decide (k'=k)|_=>false
 |_,.bool,t=>match P.underlying t with|some .bool=>true|_=>false
 |_,.str,t=>match P.underlying t with|some .string=>true|_=>false
 |_,.sl c,t=>match P.underlying t with|some (.slice E)=>Nat.beq (P.cellsOf E) (V.sz c)&&Nat.blt 0 (V.sz c)&&g E c|_=>false
 |_,.map _ _,_=>false
 |_,.arr n c,t=>match P.underlying t with|some (.array N E)=>Nat.beq N n&&Nat.beq (P.cellsOf E) (V.sz c)&&Nat.beq (P.cellsOf t) (n*V.sz c)&&g E c|_=>false
 |_,.st fs _ _ _,t=>match zto P t with|some l=>opF V g fs l 0 (P.cellsOf t)|none=>false
def opN:Nat->TypeId->Nat->Bool
 |0,_,_=>false
 |n+1,t,c=>opD V P (opN n) (V.d c) t
def ydm(n:Nat):List TypeId->List Nat->Bool
 | [],[]=>true
 |t::ts,c::cs=>opN V P n t c&&ydm n ts cs
 |_,_=>false
def ye9(n:Nat):(cs:List Nat)->Tup V.T cs->Prop
 | [],_=>True
 |c::cs,x=>rdN V n c x.1/\ye9 n cs x.2
variable{V P}
theorem ybc:∀(n:Nat)(t:TypeId)(c:Nat),opN V P n t c=true->Opn P t (V.sz c) (V.ev c) (rdN V n c)
 |0,_,_,h=>by cases h
 |n+1,t,c,h=>by
  have ih:=ybc n;have hev:V.ev c=evD V.ev (V.mv V.ev) V.sz (V.d c):=funext λx=>V.ev_eq c x
  have hr:rdN V (n+1) c=rD (rdN V n) (V.d c):=rfl;rw[hev,V.sz_eq,hr];change opD V P (opN V P n) (V.d c) t=true at h;revert h;clear hev hr;generalize V.d c=d;revert d;generalize V.T c=α;intro d h;cases d with
  |int k=>
   simp only[opD] at h;split at h
   .rename_i k' hu;simp only[decide_eq_true_eq] at h;subst h;exact Opn.int hu
   .cases h
  |bool=>
   simp only[opD] at h;split at h
   .rename_i hu;exact Opn.bool hu
   .cases h
  |str=>
   simp only[opD] at h;split at h
   .rename_i hu;exact Opn.string hu
   .cases h
  |sl c'=>
   simp only[opD] at h;split at h
   .rename_i E hu;simp only[w03,w23] at h;obtain⟨⟨h1,h2⟩,h3⟩:=h;exact Opn.slice hu (w01 h1) h2 (ih E c' h3)
   .cases h
  |map kc vc=>simp[opD] at h
  |arr m c'=>
   simp only[opD] at h;split at h
   .rename_i N E hu;simp only[w03] at h;obtain⟨⟨⟨h1,h2⟩,h3⟩,h4⟩:=h;have h1:=w01 h1;subst h1;have:Inhabited (V.T c'):=⟨V.z c'⟩;exact Opn.array hu (w01 h2) (w01 h3) rfl (ih E c' h4)
   .cases h
  |st fs mk un law=>
   simp only[opD] at h;split at h
   .rename_i l hl;intro H enc w sp held fuel cs x hx;obtain⟨hlen,m,hf⟩:=zyf hl hx;have key:∀(fs:List Nat)(l':List (TypeId×Nat×Nat))(o:Nat),opF V (opN V P n) fs l' o (P.cellsOf t)=true->(∀(i:Nat)(ty:TypeId)(off m':Nat),l'[i]? = some (ty,off,m')->∃y,DataW.trod enc P w 0 sp held m ty ((cs.drop off).take m')=some y)->
      o+fs.foldr (λc s=>V.sz c+s) 0=P.cellsOf t/\∃y:Tup V.T fs,rT (rdN V n) fs y/\zl (λb=>b<w.heap.size) w (evT V.ev fs y) (cs.drop o):=by
     intro fs
     induction fs with
     |nil=>
      intro l' o h hf;cases l' with
      |nil=>have:=w01 h;subst this;exact⟨rfl,(),trivial,zl.tile0 hlen⟩
      |cons a l'=>cases h
     |cons c cs' ihf=>
      intro l' o h hf;cases l' with
      |nil=>cases h
      |cons a l'=>obtain⟨ty,off,m'⟩:=a;simp only[opF,w03] at h;obtain⟨⟨⟨h1,h2⟩,h3⟩,h4⟩:=h;have h1:=w01 h1;have h2:=w01 h2;subst h1;subst h2;obtain⟨y0,hy0⟩:=hf 0 _ _ _ rfl;obtain⟨_,y,hR,hc⟩:=ih ty c h3 _ _ _ _ _ _ _ _ hy0;obtain⟨he,z,hz,hcz⟩:=ihf l' _ h4 (λi ty off m' hi=>hf (i+1) ty off m' hi);refine⟨by simp only[w55];omega,(y,z),ye8 hR hz,?_⟩;exact zl.tile hc hcz
    obtain⟨he,y,hy,hc⟩:=key fs l 0 h hf;rw[List.drop_zero] at hc;refine⟨by rw[hlen,<- he,w1c];rfl,mk y,?_,?_⟩
    .show rT _ fs (un (mk y));rw[law];exact hy
    .show zl _ _ (evT V.ev fs (un (mk y))) cs;rw[law];exact hc
   .cases h
theorem yev{H:Type}{enc:TypeId×Value->H}{W:World}{sp:Nat->Bool}{held:Bool}{base n:Nat}{t:TypeId}{c:Nat}{v:Value}{d:DataW H}{p:List MemPlace}
  (ho:opN V P n t c=true) (hv:Value.okWide P W .any base t v) (h:DataW.Trod enc P W 0 sp held t v d p):∃y,rdN V n c y/\(V.vl c y).h (λb=>b<W.heap.size) W v:=by
 cases n with
 |zero=>cases ho
 |succ n=>
 obtain⟨fuel,hf⟩:=h;obtain⟨_,y,hR,hc⟩:=ybc _ _ _ ho _ _ _ _ _ _ _ _ hf;refine⟨y,hR,?_⟩;change opD V P (opN V P n) (V.d c) t=true at ho;unfold Value.okWide at hv;cases ha:z5u (V.d c) with
 |true=>
  rw[zmc y ha];have hs:∃cs,v = .agg cs:=by
   revert ho ha;generalize V.d c=d;generalize V.T c=α at d;intro ho ha;cases d with
   |arr m c'=>
    simp only[opD] at ho;split at ho
    .rename_i N E hu;rw[hu] at hv;obtain⟨cs,rfl,_⟩:=hv;exact⟨cs,rfl⟩
    .cases ho
   |st fs mk un law=>
    simp only[opD,zto] at ho;cases hu:P.underlying t with
    |none=>rw[hu] at ho;cases ho
    |some X=>
     rw[hu] at ho hv;cases X with
     |struct fs'=>obtain⟨cs,rfl,_⟩:=hv;exact⟨cs,rfl⟩
     |_=>cases ho
   |_=>cases ha
  obtain⟨cs,rfl⟩:=hs;exact⟨cs,rfl,hc⟩
 |false=>
  rw[zq2 y ha] at hc;have hcell:v.cells.toList = [v]:=by
   revert ho ha;generalize V.d c=d;generalize V.T c=α at d;intro ho ha;cases d with
   |int k=>
    simp only[opD] at ho;split at ho
    .rename_i k' hu;rw[hu] at hv;cases v<;>first|rfl |(exfalso;simp[Cell.okWide,Cell.ok,hu] at hv)
    .cases ho
   |bool=>
    simp only[opD] at ho;split at ho
    .rename_i hu;rw[hu] at hv;cases v<;>first|rfl |(exfalso;simp[Cell.okWide,Cell.ok,hu] at hv)
    .cases ho
   |str=>
    simp only[opD] at ho;split at ho
    .rename_i hu;rw[hu] at hv;cases v<;>first|rfl |(exfalso;simp[Cell.okWide,Cell.ok,hu] at hv)
    .cases ho
   |sl c'=>
    simp only[opD] at ho;split at ho
    .rename_i E hu;rw[hu] at hv;cases v<;>first|rfl |(exfalso;simp[Cell.okWide,Cell.ok,hu] at hv)
    .cases ho
   |arr m c'=>cases ha
   |map kc vc=>simp[opD] at ho
   |st fs mk un law=>cases ha
  rw[hcell] at hc;obtain⟨u,hu',hA,_⟩:=hc.2 0 (V.vl c y) rfl;simp at hu';subst hu';exact hA
theorem y2j{H:Type}{enc:TypeId×Value->H}{W:World}{sp:Nat->Bool}{held:Bool}{base n:Nat}: ∀{ts:List TypeId}{cs:List Nat}{vs:List Value}{ds:List (DataW H)}{ps:List MemPlace},
  ydm V P n ts cs=true->DataW.TrodAll enc P W 0 sp held ts vs ds ps->(∀(j:Nat)t v,ts[j]? = some t->vs[j]? = some v->Value.okWide P W .any base t v)->
  vs.length=cs.length/\∃x:Tup V.T cs,ye9 V n cs x/\∀(i:Nat)(A:VP),(vls V cs x)[i]? = some A->A.h (λb=>b<W.heap.size) W (vs.getD i undef)
 | [],[],vs,ds,ps,_,h,_=>by
  cases vs with
  |nil=>exact⟨rfl,(),trivial,λi A hi=>by simp[vls] at hi⟩
  |cons v vs=>cases ds<;>exact h.elim
 |t::ts,c::cs,vs,ds,ps,ho,h,hv=>by
  simp only[ydm,w03] at ho;cases vs with
  |nil=>cases ds<;>exact h.elim
  |cons v vs=>
   cases ds with
   |nil=>exact h.elim
   |cons d ds=>
    obtain⟨p,q,h1,h2,_⟩:=h;obtain⟨y,hR,hA⟩:=yev ho.1 (hv 0 t v rfl rfl) h1;obtain⟨hl,x,hx,hxs⟩:=y2j ho.2 h2 (λj t v ht hvj=>hv (j+1) t v ht hvj);refine⟨by simp[hl],(y,x),⟨hR,hx⟩,λi A hi=>?_⟩;cases i with
    |zero=>simp only[vls,w1z,w00] at hi;subst hi;exact hA
    |succ i=>simp only[vls,w20] at hi;simpa using hxs i A hi
 | [],_::_,_,_,_,ho,_,_=>by cases ho
 |_::_,[],_,_,_,ho,_,_=>by cases ho
theorem zq0{H:Type}{enc:TypeId×Value->H}{P:Program}{W:World}{b:Nat}{sp:Nat->Bool}{held:Bool}: ∀{ts:List TypeId}{vs:List Value}{ds:List (DataW H)}{ps:List MemPlace},DataW.TrodAll enc P W b sp held ts vs ds ps->ds.length=ts.length
 | [],[],[],_,_=>rfl
 |t::ts,v::vs,d::ds,ps,⟨p,q,_,h,_⟩=>by simp[zq0 h]
 | [],_::_,_,_,h=>h.elim
 | [],[],_::_,_,h=>h.elim
 |_::_,[],_,_,h=>h.elim
 |_::_,_::_,[],_,h=>h.elim
theorem y72:∀(cs:List Nat)(x:Tup V.T cs),(vls V cs x).length=cs.length
 | [],_=>rfl
 |c::cs,x=>by simp only[vls,w0k,y72 cs]
theorem yfm[Dr]{f:FuncId}{sp:Fsp V}{W:World}{vs:Array Value}{x:Tup V.T sp.args}{r:RTup V.T sp.res}(hf:z1k V P f sp)(hr:sp.F x=some r)(hres:∀B:Asg,(resV V (encR V 0 sp.res r)).den V P B=bv true)(hno:newR V sp.res r = [])
  (hl:vs.toList.length=sp.args.length) (hA:∀(i:Nat)(A:VP),(vls V sp.args x)[i]? = some A->A.h (λb=>b<W.heap.size) W (vs.toList.getD i undef)):Calls P f vs W (λe W'=>e = .returned (.bool true)/\Below W.heap.size W W'):=by
 refine y4j (As:=vls V sp.args x) ((hf x r hr).mono ?_) (by rw[y72];simpa using hl) (λi A hi=>?_)
 .rintro y news ⟨B,hB,rfl,rfl⟩;rw[hno] at hB⊢;refine⟨hres B,?_⟩;cases B<;>rfl
 .have:=hA i A hi
  simpa[w07,w1q] using this
end
theorem z6v.same{R:Type}{x:Option R}{n:Nat}{y:Option (List (Option R))}(h:y=some (List.replicate n x)):z6v x y:=⟨λr hr=>⟨_,h,λa ha=>by rw[(List.mem_replicate.1 ha).2,hr]⟩⟩
theorem z6v.ck{R:Type}{p:Prop}[Decidable p]{x:Option R}{y:Option (List (Option R))}(h:z6v x y):z6v (Px.ck p x) (Px.ck p y):=
 ⟨λr hr=>by
  unfold Px.ck at *;split at hr
  .rename_i hp;simp only[if_pos hp];exact h.ok r hr
  .cases hr⟩
theorem z6v.bind{R α:Type}{m:Option α}{f:α->Option R}{g:α->Option (List (Option R))}(h:∀a,z6v (f a) (g a)):z6v (m.bind f) (m.bind g):=
 ⟨λr hr=>by
  cases m with
  |none=>cases hr
  |some a=>exact(h a).ok r hr⟩
theorem z6v.one{R:Type}{x:Option R}: z6v x (some [x]):=⟨λr hr=>⟨_,rfl,λa ha=>by rw[w0v.1 ha,hr]⟩⟩
theorem z6v.nil{R:Type}{x:Option R}: z6v x (catL []):=⟨λr hr=>⟨[],rfl,λa ha=>by cases ha⟩⟩
theorem z6v.cons{R:Type}{x:Option R}{y:Option (List (Option R))}{l:List (Option (List (Option R)))}(h:z6v x y)(hl:z6v x (catL l)):z6v x (catL (y::l)):=
 ⟨λr hr=>by
  obtain⟨a,ha,h1⟩:=h.ok r hr;obtain⟨b,hb,h2⟩:=hl.ok r hr;refine⟨a++b,by simp only[catL,ha,hb,cat2],λz hz=>?_⟩;rcases w0m.1 hz with hz|hz
  .exact h1 z hz
  .exact h2 z hz⟩
end Px
end
section
set_option maxHeartbeats 4000000
set_option maxRecDepth 100000
namespace Px
open Go Go.RowKit
def z01:ByteArray:=⟨#[0,1,2,2,3,3,3,3,4,4,4,4,4,4,4,4,5,5,5,5,5,5,5,5,5,5,5,5,5,5,5,5,6,6,6,6,6,6,6,6,6,6,6,6,6,6,6,6,6,6,6,6,6,6,6,6,6,6,6,6,6,6,6,6,7,7,7,7,7,7,7,7,7,7,7,7,7,7,7,7,7,7,7,7,7,7,7,7,7,7,7,7,7,7,7,7,7,7,7,7,7,7,7,7,7,7,7,7,7,7,7,7,7,7,7,7,7,7,7,7,7,7,7,7,7,7,7,7,8,8,8,8,8,8,8,8,8,8,8,8,8,8,8,8,8,8,8,8,8,8,8,8,8,8,8,8,8,8,8,8,8,8,8,8,8,8,8,8,8,8,8,8,8,8,8,8,8,8,8,8,8,8,8,8,8,8,8,8,8,8,8,8,8,8,8,8,8,8,8,8,8,8,8,8,8,8,8,8,8,8,8,8,8,8,8,8,8,8,8,8,8,8,8,8,8,8,8,8,8,8,8,8,8,8,8,8,8,8,8,8,8,8,8,8,8,8,8,8,8,8,8,8,8,8,8,8]⟩
structure zf where
 type_:Int
 class_:Int
 place:Int
 at_:Int
 count:Int
instance:Inhabited zf:=⟨⟨0,0,0,0,0⟩⟩
structure z6w where
 kind:Int
 railway:Int
 other:Int
instance:Inhabited z6w:=⟨⟨0,0,0⟩⟩
structure Edge where
 a:Int
 b:Int
 railway:Int
 minutes:Int
 km:Int
instance:Inhabited Edge:=⟨⟨0,0,0,0,0⟩⟩
structure z19 where
 places :(List z6w)
 edges :(List Edge)
instance:Inhabited z19:=⟨⟨[],[]⟩⟩
structure z2k where
 load:Int
 tare:Int
 length:Int
 gauge:Int
 brake:Int
 classes:Int
 life:Int
 floor:Int
instance:Inhabited z2k:=⟨⟨0,0,0,0,0,0,0,0⟩⟩
structure zq7 where
 type_:Int
 owner:Int
 home:Int
 built:Int
 worth:Int
instance:Inhabited zq7:=⟨⟨0,0,0,0,0⟩⟩
structure Swap where
 wanted:Int
 given:Int
 cost:Int
instance:Inhabited Swap:=⟨⟨0,0,0⟩⟩
structure Wash where
 from_:Int
 to:Int
 minutes:Int
instance:Inhabited Wash:=⟨⟨0,0,0⟩⟩
structure z8c where
 types :(List z2k)
 wagons :(List zq7)
 swaps :(List Swap)
 washes :(List Wash)
instance:Inhabited z8c:=⟨⟨[],[],[],[]⟩⟩
structure zid where
 place:Int
 low:Int
 high:Int
instance:Inhabited zid:=⟨⟨0,0,0⟩⟩
structure ze2 where
 place:Int
instance:Inhabited ze2:=⟨⟨0⟩⟩
structure Span where
 from_:Int
 to:Int
instance:Inhabited Span:=⟨⟨0,0⟩⟩
structure z94 where
 open_ :(Nat->Span)
 holidays :(List Int)
instance:Inhabited z94:=⟨⟨λ_=>default,[]⟩⟩
structure z47 where
 key:Int
 calendar:z94
instance:Inhabited z47:=⟨⟨0,default⟩⟩
structure Pool where
 network:z19
 fleet:z8c
 readers :(List zid)
 shippers :(List ze2)
 railways :(List z47)
instance:Inhabited Pool:=⟨⟨default,default,[],[],[]⟩⟩
structure z17 where
 type_:Int
 class_:Int
 place:Int
 from_:Int
 to:Int
 count:Int
 weight:Int
instance:Inhabited z17:=⟨⟨0,0,0,0,0,0,0⟩⟩
structure zp where
 near :(List (List Int))
 line :(List ((Nat->Int)×Int))
instance:Inhabited zp:=⟨⟨[],[]⟩⟩
structure Arc where
 from_:Int
 to:Int
 cap:Int
 cost:Int
instance:Inhabited Arc:=⟨⟨0,0,0,0⟩⟩
structure z0s where
 supply :(List Int)
 arcs :(List Arc)
instance:Inhabited z0s:=⟨⟨[],[]⟩⟩
structure Flow where
 x :(List Int)
 price :(List Int)
instance:Inhabited Flow:=⟨⟨[],[]⟩⟩
structure zhx where
 n:z0s
 x :(List Int)
 left :(List Int)
 price :(List Int)
 begin :(List (List Int))
 end_ :(List (List Int))
instance:Inhabited zhx:=⟨⟨default,[],[],[],[],[]⟩⟩
structure zk where
 arc:Int
 to:Int
 cost:Int
 room:Int
instance:Inhabited zk:=⟨⟨0,0,0,0⟩⟩
structure zb where
 supply:Int
 order:Int
 count:Int
instance:Inhabited zb:=⟨⟨0,0,0⟩⟩
structure Plan where
 transfers :(List zb)
 cost:Int
 price :(List Int)
instance:Inhabited Plan:=⟨⟨[],0,[]⟩⟩
structure Ref where
 railway:Int
 no:Int
instance:Inhabited Ref:=⟨⟨0,0⟩⟩
structure Part where
 kind:Int
 serial:Int
 fitted:Bool
instance:Inhabited Part:=⟨⟨0,0,false⟩⟩
structure Item where
 kind:Int
 ref:Ref
 wagon:Int
 place:Int
 other:Int
 number:Int
 from_:Int
 to:Int
 code:Int
 dest:Int
 class_:Int
 weight:Int
 amount:Int
 text:ByteArray
 parts :(List Part)
instance:Inhabited Item:=⟨⟨0,default,0,0,0,0,0,0,0,0,0,0,0,⟨#[]⟩,[]⟩⟩
structure z6 where
 ref:Ref
 by_:Ref
 time:Int
 item:Item
instance:Inhabited z6:=⟨⟨default,default,0,default⟩⟩
structure zh where
 p:Pool
 it:Item
 ok:Bool
instance:Inhabited zh:=⟨⟨default,default,false⟩⟩
structure z7 where
 kind:Int
 serial:Int
instance:Inhabited z7:=⟨⟨0,0⟩⟩
structure zc where
 kind:Int
 class_:Int
 place:Int
instance:Inhabited zc:=⟨⟨0,0,0⟩⟩
def TT:Nat->Type
 |0=>Int
 |1=>zf
 |2=>Bool
 |3=>z6w
 |4=>(List z6w)
 |5=>Edge
 |6=>(List Edge)
 |7=>z19
 |8=>Int
 |9=>z2k
 |10=>(List z2k)
 |11=>zq7
 |12=>(List zq7)
 |13=>Swap
 |14=>(List Swap)
 |15=>Wash
 |16=>(List Wash)
 |17=>z8c
 |18=>zid
 |19=>(List zid)
 |20=>ze2
 |21=>(List ze2)
 |22=>Span
 |23=>(Nat->Span)
 |24=>(List Int)
 |25=>z94
 |26=>z47
 |27=>(List z47)
 |28=>Pool
 |29=>(Nat->Bool)
 |30=>z17
 |31=>(List (List Int))
 |32=>(Nat->Int)
 |33=>(List ((Nat->Int)×Int))
 |34=>zp
 |35=>(Nat->Int)
 |36=>(List zf)
 |37=>(List z17)
 |38=>Arc
 |39=>(List Arc)
 |40=>z0s
 |41=>Flow
 |42=>zhx
 |43=>zk
 |44=>(List zk)
 |45=>zb
 |46=>(List zb)
 |47=>Plan
 |48=>Ref
 |49=>ByteArray
 |50=>Part
 |51=>(List Part)
 |52=>Item
 |53=>z6
 |54=>(List z6)
 |55=>zh
 |56=>z7
 |57=>(List (Int×Bool))
 |58=>(List (z7×(List (Int×Bool))))
 |59=>zc
 |60=>Int
 |_=>Unit
def TD :(c:Nat)->Ds TT (TT c)
 |0=>.int .i64
 |1=>.st [0,0,0,0,0] (λt=>⟨t.1,t.2.1,t.2.2.1,t.2.2.2.1,t.2.2.2.2.1⟩) (λx=>(x.type_,x.class_,x.place,x.at_,x.count,())) (λ_=>rfl)
 |2=>.bool
 |3=>.st [0,0,0] (λt=>⟨t.1,t.2.1,t.2.2.1⟩) (λx=>(x.kind,x.railway,x.other,())) (λ_=>rfl)
 |4=>.sl 3
 |5=>.st [0,0,0,0,0] (λt=>⟨t.1,t.2.1,t.2.2.1,t.2.2.2.1,t.2.2.2.2.1⟩) (λx=>(x.a,x.b,x.railway,x.minutes,x.km,())) (λ_=>rfl)
 |6=>.sl 5
 |7=>.st [4,6] (λt=>⟨t.1,t.2.1⟩) (λx=>(x.places,x.edges,())) (λ_=>rfl)
 |8=>.int .u64
 |9=>.st [0,0,0,0,0,8,0,0] (λt=>⟨t.1,t.2.1,t.2.2.1,t.2.2.2.1,t.2.2.2.2.1,t.2.2.2.2.2.1,t.2.2.2.2.2.2.1,t.2.2.2.2.2.2.2.1⟩) (λx=>(x.load,x.tare,x.length,x.gauge,x.brake,x.classes,x.life,x.floor,())) (λ_=>rfl)
 |10=>.sl 9
 |11=>.st [0,0,0,0,0] (λt=>⟨t.1,t.2.1,t.2.2.1,t.2.2.2.1,t.2.2.2.2.1⟩) (λx=>(x.type_,x.owner,x.home,x.built,x.worth,())) (λ_=>rfl)
 |12=>.sl 11
 |13=>.st [0,0,0] (λt=>⟨t.1,t.2.1,t.2.2.1⟩) (λx=>(x.wanted,x.given,x.cost,())) (λ_=>rfl)
 |14=>.sl 13
 |15=>.st [0,0,0] (λt=>⟨t.1,t.2.1,t.2.2.1⟩) (λx=>(x.from_,x.to,x.minutes,())) (λ_=>rfl)
 |16=>.sl 15
 |17=>.st [10,12,14,16] (λt=>⟨t.1,t.2.1,t.2.2.1,t.2.2.2.1⟩) (λx=>(x.types,x.wagons,x.swaps,x.washes,())) (λ_=>rfl)
 |18=>.st [0,0,0] (λt=>⟨t.1,t.2.1,t.2.2.1⟩) (λx=>(x.place,x.low,x.high,())) (λ_=>rfl)
 |19=>.sl 18
 |20=>.st [0] (λt=>⟨t.1⟩) (λx=>(x.place,())) (λ_=>rfl)
 |21=>.sl 20
 |22=>.st [0,0] (λt=>⟨t.1,t.2.1⟩) (λx=>(x.from_,x.to,())) (λ_=>rfl)
 |23=>.arr 7 22
 |24=>.sl 0
 |25=>.st [23,24] (λt=>⟨t.1,t.2.1⟩) (λx=>(x.open_,x.holidays,())) (λ_=>rfl)
 |26=>.st [8,25] (λt=>⟨t.1,t.2.1⟩) (λx=>(x.key,x.calendar,())) (λ_=>rfl)
 |27=>.sl 26
 |28=>.st [7,17,19,21,27] (λt=>⟨t.1,t.2.1,t.2.2.1,t.2.2.2.1,t.2.2.2.2.1⟩) (λx=>(x.network,x.fleet,x.readers,x.shippers,x.railways,())) (λ_=>rfl)
 |29=>.arr 4096 2
 |30=>.st [0,0,0,0,0,0,0] (λt=>⟨t.1,t.2.1,t.2.2.1,t.2.2.2.1,t.2.2.2.2.1,t.2.2.2.2.2.1,t.2.2.2.2.2.2.1⟩) (λx=>(x.type_,x.class_,x.place,x.from_,x.to,x.count,x.weight,())) (λ_=>rfl)
 |31=>.sl 24
 |32=>.arr 2 0
 |33=>.map 32 0
 |34=>.st [31,33] (λt=>⟨t.1,t.2.1⟩) (λx=>(x.near,x.line,())) (λ_=>rfl)
 |35=>.arr 32 0
 |36=>.sl 1
 |37=>.sl 30
 |38=>.st [0,0,0,0] (λt=>⟨t.1,t.2.1,t.2.2.1,t.2.2.2.1⟩) (λx=>(x.from_,x.to,x.cap,x.cost,())) (λ_=>rfl)
 |39=>.sl 38
 |40=>.st [24,39] (λt=>⟨t.1,t.2.1⟩) (λx=>(x.supply,x.arcs,())) (λ_=>rfl)
 |41=>.st [24,24] (λt=>⟨t.1,t.2.1⟩) (λx=>(x.x,x.price,())) (λ_=>rfl)
 |42=>.st [40,24,24,24,31,31] (λt=>⟨t.1,t.2.1,t.2.2.1,t.2.2.2.1,t.2.2.2.2.1,t.2.2.2.2.2.1⟩) (λx=>(x.n,x.x,x.left,x.price,x.begin,x.end_,())) (λ_=>rfl)
 |43=>.st [0,0,0,0] (λt=>⟨t.1,t.2.1,t.2.2.1,t.2.2.2.1⟩) (λx=>(x.arc,x.to,x.cost,x.room,())) (λ_=>rfl)
 |44=>.sl 43
 |45=>.st [0,0,0] (λt=>⟨t.1,t.2.1,t.2.2.1⟩) (λx=>(x.supply,x.order,x.count,())) (λ_=>rfl)
 |46=>.sl 45
 |47=>.st [46,0,24] (λt=>⟨t.1,t.2.1,t.2.2.1⟩) (λx=>(x.transfers,x.cost,x.price,())) (λ_=>rfl)
 |48=>.st [0,0] (λt=>⟨t.1,t.2.1⟩) (λx=>(x.railway,x.no,())) (λ_=>rfl)
 |49=>.str
 |50=>.st [0,0,2] (λt=>⟨t.1,t.2.1,t.2.2.1⟩) (λx=>(x.kind,x.serial,x.fitted,())) (λ_=>rfl)
 |51=>.sl 50
 |52=>.st [0,48,0,0,0,0,0,0,0,0,0,0,0,49,51] (λt=>⟨t.1,t.2.1,t.2.2.1,t.2.2.2.1,t.2.2.2.2.1,t.2.2.2.2.2.1,t.2.2.2.2.2.2.1,t.2.2.2.2.2.2.2.1,t.2.2.2.2.2.2.2.2.1,t.2.2.2.2.2.2.2.2.2.1,t.2.2.2.2.2.2.2.2.2.2.1,t.2.2.2.2.2.2.2.2.2.2.2.1,t.2.2.2.2.2.2.2.2.2.2.2.2.1,t.2.2.2.2.2.2.2.2.2.2.2.2.2.1,t.2.2.2.2.2.2.2.2.2.2.2.2.2.2.1⟩) (λx=>(x.kind,x.ref,x.wagon,x.place,x.other,x.number,x.from_,x.to,x.code,x.dest,x.class_,x.weight,x.amount,x.text,x.parts,())) (λ_=>rfl)
 |53=>.st [48,48,0,52] (λt=>⟨t.1,t.2.1,t.2.2.1,t.2.2.2.1⟩) (λx=>(x.ref,x.by_,x.time,x.item,())) (λ_=>rfl)
 |54=>.sl 53
 |55=>.st [28,52,2] (λt=>⟨t.1,t.2.1,t.2.2.1⟩) (λx=>(x.p,x.it,x.ok,())) (λ_=>rfl)
 |56=>.st [0,0] (λt=>⟨t.1,t.2.1⟩) (λx=>(x.kind,x.serial,())) (λ_=>rfl)
 |57=>.map 0 2
 |58=>.map 56 57
 |59=>.st [0,0,0] (λt=>⟨t.1,t.2.1,t.2.2.1⟩) (λx=>(x.kind,x.class_,x.place,())) (λ_=>rfl)
 |60=>.int .u8
 |_+61=>.st [] (λ_=>()) (λ_=>()) (λ_=>rfl)
def TZ :(c:Nat)->TT c
 |0=>(default:Int)
 |1=>(default:zf)
 |2=>(default:Bool)
 |3=>(default:z6w)
 |4=>(default :(List z6w))
 |5=>(default:Edge)
 |6=>(default :(List Edge))
 |7=>(default:z19)
 |8=>(default:Int)
 |9=>(default:z2k)
 |10=>(default :(List z2k))
 |11=>(default:zq7)
 |12=>(default :(List zq7))
 |13=>(default:Swap)
 |14=>(default :(List Swap))
 |15=>(default:Wash)
 |16=>(default :(List Wash))
 |17=>(default:z8c)
 |18=>(default:zid)
 |19=>(default :(List zid))
 |20=>(default:ze2)
 |21=>(default :(List ze2))
 |22=>(default:Span)
 |23=>(default :(Nat->Span))
 |24=>(default :(List Int))
 |25=>(default:z94)
 |26=>(default:z47)
 |27=>(default :(List z47))
 |28=>(default:Pool)
 |29=>(default :(Nat->Bool))
 |30=>(default:z17)
 |31=>(default :(List (List Int)))
 |32=>(default :(Nat->Int))
 |33=>(default :(List ((Nat->Int)×Int)))
 |34=>(default:zp)
 |35=>(default :(Nat->Int))
 |36=>(default :(List zf))
 |37=>(default :(List z17))
 |38=>(default:Arc)
 |39=>(default :(List Arc))
 |40=>(default:z0s)
 |41=>(default:Flow)
 |42=>(default:zhx)
 |43=>(default:zk)
 |44=>(default :(List zk))
 |45=>(default:zb)
 |46=>(default :(List zb))
 |47=>(default:Plan)
 |48=>(default:Ref)
 |49=>(default:ByteArray)
 |50=>(default:Part)
 |51=>(default :(List Part))
 |52=>(default:Item)
 |53=>(default:z6)
 |54=>(default :(List z6))
 |55=>(default:zh)
 |56=>(default:z7)
 |57=>(default :(List (Int×Bool)))
 |58=>(default :(List (z7×(List (Int×Bool)))))
 |59=>(default:zc)
 |60=>(default:Int)
 |_+61=>()
def TC(t:Nat):Nat:=(lk [(2,0),(3,0),(4,2),(5,60),(6,60),(9,49),(10,49),(11,49),(12,8),(22,4),(23,6),(25,7),(26,10),(27,12),(28,14),(29,16),(31,17),(32,19),(33,21),(34,27),(36,28),(37,36),(38,37),(39,46),(40,24),(42,47),(45,0),(48,54),(52,39),(54,40),(64,1),(66,30),(71,48),(72,51),(74,52),(76,53),(84,45),(88,41),(101,11),(103,59),(119,38),(126,22),(127,23),(129,25),(130,8),(132,26),(135,58),(137,57),(139,50),(142,56),(151,3),(153,5),(155,9),(157,13),(159,15),(166,18),(168,20),(175,8),(190,55),(198,31),(200,42),(204,29),(209,0),(229,33),(231,34),(237,35),(245,8),(252,32),(260,44),(264,43),(287,60),(288,60)] t).getD 61
def TV:TE:=⟨TT,TD,TZ,TC,λc=>match c with|0=>rfl|1=>rfl|2=>rfl|3=>rfl|4=>rfl|5=>rfl|6=>rfl|7=>rfl|8=>rfl|9=>rfl|10=>rfl|11=>rfl|12=>rfl|13=>rfl|14=>rfl|15=>rfl|16=>rfl|17=>rfl|18=>rfl|19=>rfl|20=>rfl|21=>rfl|22=>rfl|23=>rfl|24=>rfl|25=>rfl|26=>rfl|27=>rfl|28=>rfl|29=>rfl|30=>rfl|31=>rfl|32=>rfl|33=>rfl|34=>rfl|35=>rfl|36=>rfl|37=>rfl|38=>rfl|39=>rfl|40=>rfl|41=>rfl|42=>rfl|43=>rfl|44=>rfl|45=>rfl|46=>rfl|47=>rfl|48=>rfl|49=>rfl|50=>rfl|51=>rfl|52=>rfl|53=>rfl|54=>rfl|55=>rfl|56=>rfl|57=>rfl|58=>rfl|59=>rfl|60=>rfl|_+61=>rfl⟩
def kl_0:Int->List Int:=TV.kl 0
def z8b :(Nat->Int)->List Int:=TV.kl 32
def z4i:z7->List Int:=TV.kl 56
def zkz:zc->List Int:=TV.kl 59
def cmpI(a b:Int):Int:=if a<b then-1 else if b<a then 1 else 0
def or2(a b:Int):Int:=if a≠0 then a else b
def z9p(a b:zf):Int:=or2 (cmpI a.type_ b.type_) (or2 (cmpI a.class_ b.class_) (cmpI a.place b.place))
def zln(l:List zf):Option (List zf):=zn6 (λ_=>true) z9p l
def y6k(l:List Int):Option (List Int):=ztj l
def Good{R:Type}(r:R)(y:Option (List (Option R))):Prop:=∃L,y=some L/\∀a∈L,a=some r
theorem Good.one{R:Type}{r:R}{x:Option R}(h:x=some r):Good r (some [x]):=⟨_,rfl,λa ha=>by rw[w0v] at ha;rw[ha,h]⟩
theorem Good.nil{R:Type}{r:R}: Good r (catL ([]:List (Option (List (Option R))))):=⟨[],rfl,λa ha=>by cases ha⟩
theorem Good.cons{R:Type}{r:R}{y:Option (List (Option R))}{ys:List (Option (List (Option R)))}(h:Good r y)(k:Good r (catL ys)):Good r (catL (y::ys)):=by
 obtain⟨L,rfl,h1⟩:=h;obtain⟨M,e,h2⟩:=k;refine⟨L++M,by simp only[catL,e,cat2],λa ha=>?_⟩;rcases w0m.1 ha with h|h
 .exact h1 a h
 .exact h2 a h
theorem Good.ck{R:Type}{r:R}{p:Prop}[Decidable p]{y:Option (List (Option R))}(h:p)(k:Good r y):Good r (ck p y):=by unfold Px.ck;rw[if_pos h];exact k
theorem ckS{R:Type}{r:R}{p:Prop}[Decidable p]{x:Option R}(h:ck p x=some r):p/\x=some r:=by
 unfold ck at h;split at h
 .rename_i hp;exact⟨hp,h⟩
 .cases h
def zan(φ:Nat):Option (Pool×Unit):=(some ((⟨(⟨[(⟨2,0,-1⟩:z6w),(⟨4,0,-1⟩:z6w),(⟨2,0,-1⟩:z6w)],[(⟨0,1,0,30,0⟩:Edge),(⟨1,2,0,50,0⟩:Edge)]⟩:z19),(⟨[(⟨0,0,0,0,0,6,1,0⟩:z2k),(⟨0,0,0,0,0,6,1,0⟩:z2k)],([]:List zq7),[(⟨0,1,7⟩:Swap)],[(⟨1,2,15⟩:Wash)]⟩:z8c),([]:List zid),([]:List ze2),[(⟨4,(⟨λ_=>(default:Span),([]:List Int)⟩:z94)⟩:z47)]⟩:Pool),()))
def zco(φ:Nat):Fsp TV:=⟨[],[.val 28],λz=>zan φ⟩
def zam(φ:Nat)(a:z6w):Option (Bool×Unit):=(if((((decide ((a.kind:Int)<1))||(decide ((5:Int)<a.kind)))||(decide ((a.railway:Int)<0)))||(decide ((16:Int)<=a.railway)))=true then(some (false,())) else(if((a.kind:Int) !=3)=true then(some (((a.other:Int)==(-1)),())) else(some ((((decide ((0:Int)<=a.other))&&(decide ((a.other:Int)<16)))&&((a.other:Int) !=a.railway)),()))))
def zc3(φ:Nat):Fsp TV:=⟨[3],[.val 2],λz=>zam φ z.1⟩
def z1t(φ:Nat):Nat->Int->(List Edge)->Int->Int->Option (Int×Unit)
 |0,_,_,_,_=>none
 |g+1,e,d,f,c=>(if(decide (c<f))=true then(ck (rg c d.length) (if(((((((decide (((min2 ((min2 (min2 ((gt d c).a) ((gt d c).b)) ((gt d c).railway))) ((gt d c).km)):Int)<0))||(decide (e<=(max2 ((gt d c).a) ((gt d c).b)))))||(((gt d c).a:Int)==(gt d c).b))||(decide ((16:Int)<=(gt d c).railway)))||(decide (((gt d c).minutes:Int)<1)))||(decide ((100000:Int)<(gt d c).minutes)))||(decide ((10000:Int)<(gt d c).km)))=true then(some (1,())) else((z1t φ g) e d f (W (c+1))))) else(some (0,())))
def z3d(φ:Nat):Nat->Int->(List z6w)->Int->Int->z19->Option (Int×Unit)
 |0,_,_,_,_,_=>none
 |f+1,d,b,e,a,c=>(if(decide (a<e))=true then(ck (rg a b.length) ((zam φ (gt b a)).bind λg=>(if(!g.1)=true then(some (1,())) else((z3d φ f) d b e (W (a+1)) c)))) else(z1t φ φ d c.edges (c.edges.length:Int) 0))
def z7u(φ:Nat)(a:z19):Option (Int×Unit):=(if((decide ((512:Int)<(a.places.length:Int)))||(decide ((2048:Int)<(a.edges.length:Int))))=true then(some (2,())) else(z3d φ φ (a.places.length:Int) a.places (a.places.length:Int) 0 a))
def z7w(φ:Nat):Fsp TV:=⟨[7],[.val 0],λz=>z7u φ z.1⟩
def zo(φ:Nat)(a b c:Int):Option (Bool×Unit):=(some (((decide (b<=a))&&(decide (a<=c))),()))
def z3v(φ:Nat):Fsp TV:=⟨[0,0,0],[.val 2],kk3 (zo φ)⟩
def z20(φ:Nat)(c :((List z2k)->Int->Int->z8c->Int->Option (Int×Unit))):Nat->(List z2k)->Int->Int->Int->Int->z8c->Int->z2k->(List Int)->Option (Int×Unit)
 |0,_,_,_,_,_,_,_,_,_=>none
 |k+1,d,e,f,i,a,g,l,b,h=>(if(decide (a<i))=true then(ck (rg a h.length) ((zo φ (gt h a) 0 1000000).bind λn=>(if(!n.1)=true then((z20 φ c k) d e f i (W (a+1)) g 1 b h) else((z20 φ c k) d e f i (W (a+1)) g l b h)))) else((zo φ b.gauge 0 7).bind λj=>((z0a (default,()) (j.1=true) (zo φ b.life 1 1073741824)).bind λm=>((z0a (default,()) ((j.1&&m.1)=true) (zo φ b.floor 0 100)).bind λo=>(if(!((j.1&&m.1)&&o.1))=true then(c d e (W (f+1)) g 1) else(c d e (W (f+1)) g l))))))
def zw(φ:Nat):Nat->(List Wash)->Int->Int->Int->(Nat->Bool)->Option (Int×Unit)
 |0,_,_,_,_,_=>none
 |e+1,b,d,a,h,c=>(if(decide (a<d))=true then(ck (rg a b.length) ((zo φ ((gt b a).from_) 0 63).bind λf=>((z0a (default,()) (f.1=true) (zo φ ((gt b a).to) 0 63)).bind λg=>((z0a (default,()) (((f.1&&g.1)&&(((gt b a).from_:Int) !=(gt b a).to))=true) (zo φ ((gt b a).minutes) 0 100000)).bind λi=>(if(!(((f.1&&g.1)&&(((gt b a).from_:Int) !=(gt b a).to))&&i.1))=true then(if(((f.1&&g.1)&&(((gt b a).from_:Int) !=(gt b a).to))&&i.1)=true then(ck (rg (gt b a).from_ 64) (ck (rg (gt b a).to 64) (if(!(!(c (((((gt b a).from_:Int).toNat*64)+((gt b a).to:Int).toNat)))))=true then(ck (rg (gt b a).from_ 64) (ck (rg (gt b a).to 64) ((zw φ e) b d (W (a+1)) 1 ((upd c (((((gt b a).from_:Int).toNat*64)+((gt b a).to:Int).toNat)) true))))) else(ck (rg (gt b a).from_ 64) (ck (rg (gt b a).to 64) ((zw φ e) b d (W (a+1)) 1 ((upd c (((((gt b a).from_:Int).toNat*64)+((gt b a).to:Int).toNat)) true)))))))) else((zw φ e) b d (W (a+1)) 1 c)) else(if(((f.1&&g.1)&&(((gt b a).from_:Int) !=(gt b a).to))&&i.1)=true then(ck (rg (gt b a).from_ 64) (ck (rg (gt b a).to 64) (if(!(!(c (((((gt b a).from_:Int).toNat*64)+((gt b a).to:Int).toNat)))))=true then(ck (rg (gt b a).from_ 64) (ck (rg (gt b a).to 64) ((zw φ e) b d (W (a+1)) 1 ((upd c (((((gt b a).from_:Int).toNat*64)+((gt b a).to:Int).toNat)) true))))) else(ck (rg (gt b a).from_ 64) (ck (rg (gt b a).to 64) ((zw φ e) b d (W (a+1)) h ((upd c (((((gt b a).from_:Int).toNat*64)+((gt b a).to:Int).toNat)) true)))))))) else((zw φ e) b d (W (a+1)) h c))))))) else(some (h,())))
def z0v(φ:Nat):Nat->(List Swap)->Int->Int->z8c->Int->Option (Int×Unit)
 |0,_,_,_,_,_=>none
 |f+1,b,d,a,c,g=>(if(decide (a<d))=true then(ck (rg a b.length) ((zo φ ((gt b a).wanted) 0 (W ((c.types.length:Int)-1))).bind λe=>((z0a (default,()) (e.1=true) (zo φ ((gt b a).given) 0 (W ((c.types.length:Int)-1)))).bind λh=>((z0a (default,()) (((e.1&&h.1)&&(((gt b a).wanted:Int) !=(gt b a).given))=true) (zo φ ((gt b a).cost) 0 1000000000)).bind λi=>(if(!(((e.1&&h.1)&&(((gt b a).wanted:Int) !=(gt b a).given))&&i.1))=true then((z0v φ f) b d (W (a+1)) c 1) else((z0v φ f) b d (W (a+1)) c g)))))) else(zw φ φ c.washes (c.washes.length:Int) 0 g (λ_=>(default:Bool))))
def z0g(φ:Nat):Nat->(List zq7)->Int->Int->z8c->Int->Option (Int×Unit)
 |0,_,_,_,_,_=>none
 |e+1,b,d,a,c,g=>(if(decide (a<d))=true then(ck (rg a b.length) ((zo φ ((gt b a).type_) 0 (W ((c.types.length:Int)-1))).bind λf=>((z0a (default,()) (f.1=true) (zo φ ((gt b a).owner) 0 63)).bind λh=>((z0a (default,()) ((f.1&&h.1)=true) (zo φ ((gt b a).home) 0 511)).bind λk=>(if(!((f.1&&h.1)&&k.1))=true then((zo φ ((gt b a).built) 0 1073741824).bind λi=>((z0a (default,()) (i.1=true) (zo φ ((gt b a).worth) 0 1099511627776)).bind λl=>(if(!(i.1&&l.1))=true then((z0g φ e) b d (W (a+1)) c 1) else((z0g φ e) b d (W (a+1)) c 1)))) else((zo φ ((gt b a).built) 0 1073741824).bind λj=>((z0a (default,()) (j.1=true) (zo φ ((gt b a).worth) 0 1099511627776)).bind λm=>(if(!(j.1&&m.1))=true then((z0g φ e) b d (W (a+1)) c 1) else((z0g φ e) b d (W (a+1)) c g))))))))) else(z0v φ φ c.swaps (c.swaps.length:Int) 0 c g))
def z3m(φ:Nat):Nat->(List z2k)->Int->Int->z8c->Int->Option (Int×Unit)
 |0,_,_,_,_,_=>none
 |f+1,b,d,a,c,e=>(if(decide (a<d))=true then(ck (rg a b.length) (z20 φ (z3m φ f) φ b d a (([(gt b a).load,(gt b a).tare,(gt b a).length,(gt b a).brake]).length:Int) 0 c e (gt b a) ([(gt b a).load,(gt b a).tare,(gt b a).length,(gt b a).brake]))) else(z0g φ φ c.wagons (c.wagons.length:Int) 0 c e))
def z8l(φ:Nat)(a:z8c):Option (Int×Unit):=(if((((decide ((32:Int)<(a.types.length:Int)))||(decide ((4096:Int)<(a.wagons.length:Int))))||(decide ((1024:Int)<(a.swaps.length:Int))))||(decide ((4096:Int)<(a.washes.length:Int))))=true then(some (2,())) else(z3m φ φ a.types (a.types.length:Int) 0 a 0))
def z7a(φ:Nat):Fsp TV:=⟨[17],[.val 0],λz=>z8l φ z.1⟩
def z29(φ:Nat):Nat->Int->(List Int)->Int->Int->Option (Int×Unit)
 |0,_,_,_,_=>none
 |d+1,e,b,c,a=>(if(decide (a<c))=true then(ck (rg a b.length) (if((decide (((gt b a):Int)<=e))||(decide ((745654:Int)<(gt b a))))=true then(some (1,())) else((z29 φ d) (gt b a) b c (W (a+1))))) else(some (0,())))
def z2p(φ:Nat):Nat->(Nat->Span)->Int->z94->Option (Int×Unit)
 |0,_,_,_=>none
 |d+1,b,a,c=>(if(decide (a<7))=true then(ck (rg a 7) (if(((decide (((b a.toNat).from_:Int)<0))||(decide (((b a.toNat).to:Int)<(b a.toNat).from_)))||(decide ((1440:Int)<(b a.toNat).to)))=true then(some (1,())) else((z2p φ d) b (W (a+1)) c))) else(z29 φ φ (-1) c.holidays (c.holidays.length:Int) 0))
def z95(φ:Nat)(a:z94):Option (Int×Unit):=(z2p φ φ a.open_ 0 a)
def z9o(φ:Nat):Fsp TV:=⟨[25],[.val 0],λz=>z95 φ z.1⟩
def z8d(φ:Nat)(a b:Int):Option (Int×Int×Unit):=(if 0<=(32:Int) then(if 0<=(32:Int) then(if 0<=(32:Int) then(if 0<=(32:Int) then(if 0<=(32:Int) then(some ((U ((U ((U ((a.fdiv (2 ^ (min (32:Int).toNat 64)))*(b.fdiv (2 ^ (min (32:Int).toNat 64)))))+(((U ((U ((a.fdiv (2 ^ (min (32:Int).toNat 64)))*(U ((BitVec.ofInt 64 b&&& BitVec.ofInt 64 4294967295).toNat))))+(((U ((U ((BitVec.ofInt 64 a&&& BitVec.ofInt 64 4294967295).toNat))*(U ((BitVec.ofInt 64 b&&& BitVec.ofInt 64 4294967295).toNat)))):Int).fdiv (2 ^ (min (32:Int).toNat 64))))):Int).fdiv (2 ^ (min (32:Int).toNat 64)))))+(((U ((U ((BitVec.ofInt 64 (U ((U ((a.fdiv (2 ^ (min (32:Int).toNat 64)))*(U ((BitVec.ofInt 64 b&&& BitVec.ofInt 64 4294967295).toNat))))+(((U ((U ((BitVec.ofInt 64 a&&& BitVec.ofInt 64 4294967295).toNat))*(U ((BitVec.ofInt 64 b&&& BitVec.ofInt 64 4294967295).toNat)))):Int).fdiv (2 ^ (min (32:Int).toNat 64)))))&&& BitVec.ofInt 64 4294967295).toNat))+(U ((U ((BitVec.ofInt 64 a&&& BitVec.ofInt 64 4294967295).toNat))*(b.fdiv (2 ^ (min (32:Int).toNat 64))))))):Int).fdiv (2 ^ (min (32:Int).toNat 64))))),(U (a*b)),())) else none) else none) else none) else none) else none)
def zfr(φ:Nat):Fsp TV:=⟨[8,8],[.val 8,.val 8],kk2 (z8d φ)⟩
def z1a(φ:Nat)(a b:Int):Option (Int×Unit):=(ck (rg (IntKind.wrap .u8 (a)) z01.size) (some ((W (64-(W (b+(W ((zas z01 (IntKind.wrap .u8 (a))))))))),())))
def z1p(φ:Nat)(a b:Int):Option (Int×Unit):=(if(decide ((256:Int)<=a))=true then(if 0<=(8:Int) then(z1a φ ((a.fdiv (2 ^ (min (8:Int).toNat 64)))) (W (b+8))) else none) else(z1a φ a b))
def z1o(φ:Nat)(a b:Int):Option (Int×Unit):=(if(decide ((65536:Int)<=a))=true then(if 0<=(16:Int) then(z1p φ ((a.fdiv (2 ^ (min (16:Int).toNat 64)))) (W (b+16))) else none) else(z1p φ a b))
def z2u(φ:Nat)(a:Int):Option (Int×Unit):=(if(decide ((4294967296:Int)<=a))=true then(if 0<=(32:Int) then(z1o φ ((a.fdiv (2 ^ (min (32:Int).toNat 64)))) 32) else none) else(z1o φ a 0))
def z4v(φ:Nat):Fsp TV:=⟨[8],[.val 0],λz=>z2u φ z.1⟩
def z61(φ:Nat)(c a d e f b:Int):Option (Int×Int×Unit):=(ck (0<=a) (some ((U ((U (e*4294967296))+b)),(((U ((U ((U (f*4294967296))+d))-(U (b*c)))):Int).fdiv (2 ^ (min a.toNat 64))),())))
def z5y(φ:Nat):Nat->Int->Int->Int->Int->Int->Int->Int->Int->Int->Option (Int×Int×Unit)
 |0,_,_,_,_,_,_,_,_,_=>none
 |j+1,c,d,e,i,b,f,g,h,a=>(if((decide ((4294967296:Int)<=a))||(decide (((U ((U (4294967296*g))+b)):Int)<(U (a*i)))))=true then(if(decide ((4294967296:Int)<=(U (g+e))))=true then(z61 φ c d b f h (U (a-1))) else((z5y φ j) c d e i b f (U (g+e)) h (U (a-1)))) else(z61 φ c d b f h a))
def z60(φ:Nat)(a f b g d e h c:Int):Option (Int×Int×Unit):=(ck (b≠0) (z5y φ φ a f b g h c ((U ((U ((U ((U (d*4294967296))+e))-(U (c*a))))-(U ((U (((U ((U ((U (d*4294967296))+e))-(U (c*a)))):Int).tdiv b))*b))))) ((U ((U ((U (d*4294967296))+e))-(U (c*a))))) ((U (((U ((U ((U (d*4294967296))+e))-(U (c*a)))):Int).tdiv b)))))
def z5z(φ:Nat):Nat->Int->Int->Int->Int->Int->Int->Int->Int->Int->Option (Int×Int×Unit)
 |0,_,_,_,_,_,_,_,_,_=>none
 |j+1,e,f,a,c,g,d,h,b,i=>(if((decide ((4294967296:Int)<=b))||(decide (((U ((U (4294967296*i))+d)):Int)<(U (b*c)))))=true then(if(decide ((4294967296:Int)<=(U (i+a))))=true then(z60 φ e f a c g d h (U (b-1))) else((z5z φ j) e f a c g d h (U (b-1)) (U (i+a)))) else(z60 φ e f a c g d h b))
def z6r(φ:Nat)(d c b:Int):Option (Int×Int×Unit):=(if(b==0)=true then none else(if(decide (b<=d))=true then none else(if(d==0)=true then(ck (b≠0) (ck (b≠0) (some ((U (c.tdiv b)),(c.tmod b),())))) else((z2u φ b).bind λa=>(ck (0<=(U (a.1))) (if 0<=(32:Int) then(ck (0<=(U (a.1))) (ck (0<=(U (64-(U (a.1))))) (ck (0<=(U (a.1))) (if 0<=(32:Int) then(ck ((((U (b*2 ^ (min ((U (a.1)):Int).toNat 64))):Int).fdiv (2 ^ (min (32:Int).toNat 64)))≠0) (z5z φ φ ((U (b*2 ^ (min ((U (a.1)):Int).toNat 64)))) (U (a.1)) ((((U (b*2 ^ (min ((U (a.1)):Int).toNat 64))):Int).fdiv (2 ^ (min (32:Int).toNat 64)))) ((U ((BitVec.ofInt 64 (U (b*2 ^ (min ((U (a.1)):Int).toNat 64)))&&& BitVec.ofInt 64 4294967295).toNat))) ((U ((BitVec.ofInt 64 (U (d*2 ^ (min ((U (a.1)):Int).toNat 64)))||| BitVec.ofInt 64 (c.fdiv (2 ^ (min ((U (64-(U (a.1)))):Int).toNat 64)))).toNat))) ((((U (c*2 ^ (min ((U (a.1)):Int).toNat 64))):Int).fdiv (2 ^ (min (32:Int).toNat 64)))) ((U ((BitVec.ofInt 64 (U (c*2 ^ (min ((U (a.1)):Int).toNat 64)))&&& BitVec.ofInt 64 4294967295).toNat))) ((U (((U ((BitVec.ofInt 64 (U (d*2 ^ (min ((U (a.1)):Int).toNat 64)))||| BitVec.ofInt 64 (c.fdiv (2 ^ (min ((U (64-(U (a.1)))):Int).toNat 64)))).toNat)):Int).tdiv (((U (b*2 ^ (min ((U (a.1)):Int).toNat 64))):Int).fdiv (2 ^ (min (32:Int).toNat 64)))))) ((U ((U ((BitVec.ofInt 64 (U (d*2 ^ (min ((U (a.1)):Int).toNat 64)))||| BitVec.ofInt 64 (c.fdiv (2 ^ (min ((U (64-(U (a.1)))):Int).toNat 64)))).toNat))-(U ((U (((U ((BitVec.ofInt 64 (U (d*2 ^ (min ((U (a.1)):Int).toNat 64)))||| BitVec.ofInt 64 (c.fdiv (2 ^ (min ((U (64-(U (a.1)))):Int).toNat 64)))).toNat)):Int).tdiv (((U (b*2 ^ (min ((U (a.1)):Int).toNat 64))):Int).fdiv (2 ^ (min (32:Int).toNat 64)))))*(((U (b*2 ^ (min ((U (a.1)):Int).toNat 64))):Int).fdiv (2 ^ (min (32:Int).toNat 64)))))))))) else none)))) else none))))))
def zfm(φ:Nat):Fsp TV:=⟨[8,8,8],[.val 8,.val 8],kk3 (z6r φ)⟩
def z9l(φ:Nat)(d :(Int->Int->Int->Int->Int->Int->Option (Int×Unit)))(b e c f g h i j l a:Int):Option (Int×Unit):=(ck (rg (IntKind.wrap .u8 (b)) z01.size) (ck (0<=(W ((W ((W (e+(W ((zas z01 (IntKind.wrap .u8 (b)))))))-1))-h))) (if(((U ((BitVec.ofInt 64 (l.fdiv (2 ^ (min ((W ((W ((W (e+(W ((zas z01 (IntKind.wrap .u8 (b)))))))-1))-h)):Int).toNat 64)))&&& BitVec.ofInt 64 1).toNat)):Int)==1)=true then(ck (a≠0) (ck (a≠0) ((z8d φ (g.tmod a) (c.tmod a)).bind λk=>((z6r φ k.1 k.2.1 a).bind λm=>(d c f m.2.1 i (W (j+1)) a))))) else(d c f g i (W (j+1)) a))))
def z9k(φ:Nat)(b :(Int->Int->Int->Int->Int->Int->Option (Int×Unit)))(a c d e f g h i j k:Int):Option (Int×Unit):=(if(decide ((256:Int)<=a))=true then(if 0<=(8:Int) then(z9l φ b ((a.fdiv (2 ^ (min (8:Int).toNat 64)))) (W (c+8)) d e f g h i j k) else none) else(z9l φ b a c d e f g h i j k))
def z3k(φ:Nat)(b :(Int->Int->Int->Int->Int->Int->Option (Int×Unit)))(a c d e f g h i j k:Int):Option (Int×Unit):=(if(decide ((65536:Int)<=a))=true then(if 0<=(16:Int) then(z9k φ b ((a.fdiv (2 ^ (min (16:Int).toNat 64)))) (W (c+16)) d e f g h i j k) else none) else(z9k φ b a c d e f g h i j k))
def z0o(φ:Nat):Nat->Int->Int->Int->Int->Int->Int->Option (Int×Unit)
 |0,_,_,_,_,_,_=>none
 |f+1,g,a,d,e,c,b=>(if(decide (c<e))=true then(ck (b≠0) (ck (b≠0) ((z8d φ (d.tmod b) (d.tmod b)).bind λh=>((z6r φ h.1 h.2.1 b).bind λi=>(if(decide ((4294967296:Int)<=a))=true then(if 0<=(32:Int) then(z3k φ (z0o φ f) ((a.fdiv (2 ^ (min (32:Int).toNat 64)))) 32 g a i.2.1 c e c a b) else none) else(z3k φ (z0o φ f) a 0 g a i.2.1 c e c a b)))))) else(some (d,())))
def z9j(φ:Nat)(a b c d e f:Int):Option (Int×Unit):=(ck (rg (IntKind.wrap .u8 (a)) z01.size) (z0o φ φ c d e ((W (b+(W ((zas z01 (IntKind.wrap .u8 (a)))))))) 0 f))
def z9i(φ:Nat)(a b c d e f:Int):Option (Int×Unit):=(if(decide ((256:Int)<=a))=true then(if 0<=(8:Int) then(z9j φ ((a.fdiv (2 ^ (min (8:Int).toNat 64)))) (W (b+8)) c d e f) else none) else(z9j φ a b c d e f))
def zca(φ:Nat)(a b c d e f:Int):Option (Int×Unit):=(if(decide ((65536:Int)<=a))=true then(if 0<=(16:Int) then(z9i φ ((a.fdiv (2 ^ (min (16:Int).toNat 64)))) (W (b+16)) c d e f) else none) else(z9i φ a b c d e f))
def zk0(φ:Nat)(b a:Int):Option (Int×Unit):=(if(decide ((4294967296:Int)<=a))=true then(if 0<=(32:Int) then(zca φ ((a.fdiv (2 ^ (min (32:Int).toNat 64)))) 32 b a 1 2305843009213690799) else none) else(zca φ a 0 b a 1 2305843009213690799))
def zlj(φ:Nat):Fsp TV:=⟨[8,8],[.val 8],kk2 (zk0 φ)⟩
def zhd(φ:Nat)(a:Int):Option (Bool×Unit):=((z0a (default,()) (((decide ((2:Int)<=a))&&(decide (a<2305843009213690799)))=true) (zk0 φ a 1152921504606845399)).bind λb=>(some ((((decide ((2:Int)<=a))&&(decide (a<2305843009213690799)))&&(b.1==1)),())))
def zgr(φ:Nat):Fsp TV:=⟨[8],[.val 2],λz=>zhd φ z.1⟩
def z12(φ:Nat):Nat->Bool->(List z47)->Int->Int->Option (Int×Unit)
 |0,_,_,_,_=>none
 |f+1,b,c,d,a=>(if(decide (a<d))=true then(ck (rg a c.length) ((z0a (default,()) (b=false) (z95 φ ((gt c a).calendar))).bind λe=>((z0a (default,()) ((b||(e.1 !=0))=false) (zhd φ ((gt c a).key))).bind λg=>((z12 φ f) (((b||(e.1 !=0))||(!g.1))) c d (W (a+1)))))) else(if b=true then(some (1,())) else(some (0,()))))
def z11(φ:Nat):Nat->Int->Bool->(List Edge)->Int->Int->Pool->Option (Int×Unit)
 |0,_,_,_,_,_,_=>none
 |g+1,d,e,b,f,a,c=>(if(decide (a<f))=true then(ck (rg a b.length) ((z11 φ g) d ((e||(decide (d<=(gt b a).railway)))) b f (W (a+1)) c)) else(z12 φ φ e c.railways (c.railways.length:Int) 0))
def z10(φ:Nat):Nat->Int->Bool->(List z6w)->Int->Int->Pool->Option (Int×Unit)
 |0,_,_,_,_,_,_=>none
 |g+1,b,e,c,f,a,d=>(if(decide (a<f))=true then(ck (rg a c.length) ((z10 φ g) b (((e||(decide (b<=(gt c a).railway)))||(decide (b<=(gt c a).other)))) c f (W (a+1)) d)) else(z11 φ φ b e d.network.edges (d.network.edges.length:Int) 0 d))
def z0z(φ:Nat):Nat->(List z6w)->Int->Bool->(List zq7)->Int->Int->Pool->Option (Int×Unit)
 |0,_,_,_,_,_,_,_=>none
 |h+1,a,d,e,c,f,b,g=>(if(decide (b<f))=true then(ck (rg b c.length) ((z0z φ h) a d ((e||(decide (((a.length:Int):Int)<=(gt c b).home)))) c f (W (b+1)) g)) else(z10 φ φ d e a (a.length:Int) 0 g))
def z0y(φ:Nat):Nat->(List z6w)->Int->Bool->(List ze2)->Int->Int->Pool->Option (Int×Unit)
 |0,_,_,_,_,_,_,_=>none
 |i+1,b,f,d,c,g,a,e=>(if(decide (a<g))=true then(ck (rg a c.length) ((z0a (default,()) (d=false) (zo φ ((gt c a).place) 0 (W ((b.length:Int)-1)))).bind λh=>(ck (((d||(!h.1))=false)->rg (gt c a).place b.length) ((z0y φ i) b f (((d||(!h.1))||(((gt b ((gt c a).place)).kind:Int) !=4))) c g (W (a+1)) e)))) else(z0z φ φ b f d e.fleet.wagons (e.fleet.wagons.length:Int) 0 e))
def z1s(φ:Nat):Nat->(List z6w)->Int->Bool->(List zid)->Int->Int->Pool->Option (Int×Unit)
 |0,_,_,_,_,_,_,_=>none
 |h+1,d,f,e,b,g,a,c=>(if(decide (a<g))=true then(ck (rg a b.length) ((z0a (default,()) (e=false) (zo φ ((gt b a).place) 0 (W ((d.length:Int)-1)))).bind λi=>((z1s φ h) d f (((((e||(!i.1))||(decide (((gt b a).low:Int)<(-1000))))||(decide (((gt b a).high:Int)<(gt b a).low)))||(decide ((1000:Int)<(gt b a).high)))) b g (W (a+1)) c))) else(z0y φ φ d f e c.shippers (c.shippers.length:Int) 0 c))
def z0u(φ:Nat)(a:Pool):Option (Int×Unit):=((z7u φ a.network).bind λb=>(if(b.1 !=0)=true then(some (b.1,())) else((z8l φ a.fleet).bind λc=>(if(c.1 !=0)=true then(some (c.1,())) else(if(((decide ((256:Int)<(a.readers.length:Int)))||(decide ((256:Int)<(a.shippers.length:Int))))||(decide ((16:Int)<(a.railways.length:Int))))=true then(some (2,())) else(z1s φ φ a.network.places (a.railways.length:Int) (((a.railways.length:Int):Int)==0) a.readers (a.readers.length:Int) 0 a))))))
def z2r(φ:Nat):Fsp TV:=⟨[28],[.val 0],λz=>z0u φ z.1⟩
def z0f(φ:Nat)(a b c:Int):Option (Bool×Unit):=(some (((decide (b<=a))&&(decide (a<=c))),()))
def z5c(φ:Nat):Fsp TV:=⟨[0,0,0],[.val 2],kk3 (z0f φ)⟩
def z4f(φ:Nat)(e:Pool)(a:zf):Option (Bool×Unit):=((z0f φ a.type_ 0 (W ((e.fleet.types.length:Int)-1))).bind λb=>((z0a (default,()) (b.1=true) (z0f φ a.class_ (-1) 63)).bind λc=>((z0a (default,()) ((b.1&&c.1)=true) (z0f φ a.place 0 (W ((e.network.places.length:Int)-1)))).bind λd=>((z0a (default,()) (((b.1&&c.1)&&d.1)=true) (z0f φ a.at_ 0 1073741824)).bind λf=>((z0a (default,()) ((((b.1&&c.1)&&d.1)&&f.1)=true) (z0f φ a.count 1 4096)).bind λg=>(some (((((b.1&&c.1)&&d.1)&&f.1)&&g.1),())))))))
def z6i(φ:Nat):Fsp TV:=⟨[28,1],[.val 2],kk2 (z4f φ)⟩
def z5d(φ:Nat)(f:Pool)(a:z17):Option (Bool×Unit):=((z0f φ a.type_ 0 (W ((f.fleet.types.length:Int)-1))).bind λb=>((z0a (default,()) (b.1=true) (z0f φ a.class_ 0 63)).bind λc=>((z0a (default,()) ((b.1&&c.1)=true) (z0f φ a.place 0 (W ((f.network.places.length:Int)-1)))).bind λd=>((z0a (default,()) (((b.1&&c.1)&&d.1)=true) (z0f φ a.from_ 0 a.to)).bind λe=>((z0a (default,()) (((((b.1&&c.1)&&d.1)&&e.1)&&(decide ((a.to:Int)<=1073741824)))=true) (z0f φ a.count 1 1000)).bind λg=>((z0a (default,()) ((((((b.1&&c.1)&&d.1)&&e.1)&&(decide ((a.to:Int)<=1073741824)))&&g.1)=true) (z0f φ a.weight 0 1000000000)).bind λh=>(some (((((((b.1&&c.1)&&d.1)&&e.1)&&(decide ((a.to:Int)<=1073741824)))&&g.1)&&h.1),()))))))))
def z74(φ:Nat):Fsp TV:=⟨[28,30],[.val 2],kk2 (z5d φ)⟩
def zdt(φ:Nat)(d :((List Edge)->Int->Int->z19->(List (List Int))->(List ((Nat->Int)×Int))->Option (zp×Int×Unit)))(b e:Int)(c:Bool)(f :(List Edge))(g h:Int)(a:z19)(k :(Nat->Int))(i :(List (List Int)))(j :(List ((Nat->Int)×Int))):Option (zp×Int×Unit):=(ck (((!c)=false)->rg b a.edges.length) (ck (((!c)=false)->rg e a.edges.length) (if((!c)||(decide (((gt a.edges b).minutes:Int)<(gt a.edges e).minutes)))=true then(d f g (W (h+1)) a i (cset z8b j k b)) else(d f g (W (h+1)) a i j))))
def z8v(φ:Nat)(d :((List Edge)->Int->Int->z19->(List (List Int))->(List ((Nat->Int)×Int))->Option (zp×Int×Unit)))(b e:Int)(c:Bool)(f :(List Edge))(g h:Int)(a:z19)(k :(Nat->Int))(i :(List (List Int)))(j :(List ((Nat->Int)×Int))):Option (zp×Int×Unit):=(ck (((!c)=false)->rg b a.edges.length) (ck (((!c)=false)->rg e a.edges.length) (if((!c)||(decide (((gt a.edges b).minutes:Int)<(gt a.edges e).minutes)))=true then(d f g (W (h+1)) a i (cset z8b j k b)) else(d f g (W (h+1)) a i j))))
def z8u(φ:Nat)(i :((List Edge)->Int->Int->z19->(List (List Int))->(List ((Nat->Int)×Int))->Option (zp×Int×Unit)))(f o:Int)(n:Bool)(j:Int)(k :(List Edge))(l m:Int)(g:z19)(h :(Nat->Int))(c:Edge)(d :(List (List Int)))(e :(List ((Nat->Int)×Int))):Option (zp×Int×Unit):=(ck (((!n)=false)->rg f g.edges.length) (ck (((!n)=false)->rg o g.edges.length) (if((!n)||(decide (((gt g.edges f).minutes:Int)<(gt g.edges o).minutes)))=true then(if(!(cget z8b (cset z8b e h f) ((upd (upd (λ_=>(default:Int)) 0 c.b) 1 c.a))).isSome)=true then(ck (rg c.b d.length) (ck (rg c.b d.length) (ck ((c.b:Int)=c.b) (ck (fits ((gt d c.b).length+([c.a]).length) 8) (ck (rg c.b d.length) (ck ((c.b:Int)=c.b) (zdt φ i j (((cget z8b (cset z8b e h f) ((upd (upd (λ_=>(default:Int)) 0 c.b) 1 c.a))).getD (default:Int))) ((cget z8b (cset z8b e h f) ((upd (upd (λ_=>(default:Int)) 0 c.b) 1 c.a))).isSome) k l m g ((upd (upd (λ_=>(default:Int)) 0 c.b) 1 c.a)) (zt d c.b ((gt d c.b)++[c.a])) (cset z8b e h f)))))))) else(zdt φ i j (((cget z8b (cset z8b e h f) ((upd (upd (λ_=>(default:Int)) 0 c.b) 1 c.a))).getD (default:Int))) ((cget z8b (cset z8b e h f) ((upd (upd (λ_=>(default:Int)) 0 c.b) 1 c.a))).isSome) k l m g ((upd (upd (λ_=>(default:Int)) 0 c.b) 1 c.a)) d (cset z8b e h f))) else(if(!(cget z8b e ((upd (upd (λ_=>(default:Int)) 0 c.b) 1 c.a))).isSome)=true then(ck (rg c.b d.length) (ck (rg c.b d.length) (ck ((c.b:Int)=c.b) (ck (fits ((gt d c.b).length+([c.a]).length) 8) (ck (rg c.b d.length) (ck ((c.b:Int)=c.b) (z8v φ i j (((cget z8b e ((upd (upd (λ_=>(default:Int)) 0 c.b) 1 c.a))).getD (default:Int))) ((cget z8b e ((upd (upd (λ_=>(default:Int)) 0 c.b) 1 c.a))).isSome) k l m g ((upd (upd (λ_=>(default:Int)) 0 c.b) 1 c.a)) (zt d c.b ((gt d c.b)++[c.a])) e))))))) else(z8v φ i j (((cget z8b e ((upd (upd (λ_=>(default:Int)) 0 c.b) 1 c.a))).getD (default:Int))) ((cget z8b e ((upd (upd (λ_=>(default:Int)) 0 c.b) 1 c.a))).isSome) k l m g ((upd (upd (λ_=>(default:Int)) 0 c.b) 1 c.a)) d e)))))
def z8t(φ:Nat):Nat->Int->Int->(List (List Int))->(List ((Nat->Int)×Int))->Option (zp×Int×Unit)
 |0,_,_,_,_=>none
 |e+1,c,a,b,d=>(if(decide (a<c))=true then(ck (rg a b.length) (ck (rg a b.length) (ck (a=a) ((y6k (gt b a)).bind λf=>((z8t φ e) c (W (a+1)) (zt b a f) d))))) else(some ((⟨b,d⟩:zp),0,())))
def z5l(φ:Nat):Nat->(List Edge)->Int->Int->z19->(List (List Int))->(List ((Nat->Int)×Int))->Option (zp×Int×Unit)
 |0,_,_,_,_,_,_=>none
 |h+1,d,g,c,i,e,f=>(if(decide (c<g))=true then(ck (rg c d.length) (if(!(cget z8b f ((upd (upd (λ_=>(default:Int)) 0 ((gt d c).a)) 1 ((gt d c).b)))).isSome)=true then(ck (rg (gt d c).a e.length) (ck (rg (gt d c).a e.length) (ck (((gt d c).a:Int) =(gt d c).a) (ck (fits ((gt e ((gt d c).a)).length+([(gt d c).b]).length) 8) (ck (rg (gt d c).a e.length) (ck (((gt d c).a:Int) =(gt d c).a) (z8u φ (z5l φ h) c (((cget z8b f ((upd (upd (λ_=>(default:Int)) 0 ((gt d c).a)) 1 ((gt d c).b)))).getD (default:Int))) ((cget z8b f ((upd (upd (λ_=>(default:Int)) 0 ((gt d c).a)) 1 ((gt d c).b)))).isSome) c d g c i ((upd (upd (λ_=>(default:Int)) 0 ((gt d c).a)) 1 ((gt d c).b))) (gt d c) ((zt e ((gt d c).a) (((gt e ((gt d c).a))++[(gt d c).b])))) f))))))) else(z8u φ (z5l φ h) c (((cget z8b f ((upd (upd (λ_=>(default:Int)) 0 ((gt d c).a)) 1 ((gt d c).b)))).getD (default:Int))) ((cget z8b f ((upd (upd (λ_=>(default:Int)) 0 ((gt d c).a)) 1 ((gt d c).b)))).isSome) c d g c i ((upd (upd (λ_=>(default:Int)) 0 ((gt d c).a)) 1 ((gt d c).b))) (gt d c) e f))) else(z8t φ φ (e.length:Int) 0 e f))
def za1(φ:Nat):Nat->(List Int)->Int->Int->z19->(List (List Int))->Option (zp×Int×Unit)
 |0,_,_,_,_,_=>none
 |f+1,c,d,b,a,e=>(if(decide (b<d))=true then(ck (rg b c.length) (if((decide (((gt c b):Int)<0))||(decide (((a.places.length:Int):Int)<=(gt c b))))=true then(some ((⟨e,([] :(List ((Nat->Int)×Int)))⟩:zp),1,())) else((za1 φ f) c d (W (b+1)) a e))) else(ck (za (a.places.length:Int) 24) (z5l φ φ a.edges (a.edges.length:Int) 0 a (List.replicate ((a.places.length:Int):Int).toNat (default :(List Int))) (([] :(List ((Nat->Int)×Int)))))))
def zjf(φ:Nat)(a:z19)(b :(List Int)):Option (zp×Int×Unit):=((z7u φ a).bind λc=>(if(c.1 !=0)=true then(some ((⟨([]:List (List Int)),([] :(List ((Nat->Int)×Int)))⟩:zp),c.1,())) else(za1 φ φ b (b.length:Int) 0 a ([]:List (List Int)))))
def zc1(φ:Nat):Fsp TV:=⟨[7,24],[.val 34,.val 0],kk2 (zjf φ)⟩
def z5n(φ:Nat)(g :(z19->zp->(List Int)->(List Bool)->Option ((List Int)×Unit))):Nat->Int->(List Int)->Int->Int->z19->zp->(List Int)->(List Bool)->Option ((List Int)×Unit)
 |0,_,_,_,_,_,_,_,_=>none
 |j+1,d,b,h,a,e,f,c,i=>(if(decide (a<h))=true then(ck (rg a b.length) (ck (rg d c.length) (ck (rg (((cget z8b f.line ((upd (upd (λ_=>(default:Int)) 0 d) 1 (gt b a)))).getD (default:Int))) e.edges.length) (ck (rg (gt b a) c.length) (ck (((decide (((gt c (gt b a)):Int)<0))=false)->rg (gt b a) c.length) (if((decide (((gt c (gt b a)):Int)<0))||(decide (((W ((gt c d)+((gt e.edges (((cget z8b f.line ((upd (upd (λ_=>(default:Int)) 0 d) 1 (gt b a)))).getD (default:Int))))).minutes)):Int)<(gt c (gt b a)))))=true then(ck (rg (gt b a) c.length) ((z5n φ g j) d b h (W (a+1)) e f ((zt c (gt b a) ((W ((gt c d)+((gt e.edges (((cget z8b f.line ((upd (upd (λ_=>(default:Int)) 0 d) 1 (gt b a)))).getD (default:Int))))).minutes))))) i)) else((z5n φ g j) d b h (W (a+1)) e f c i))))))) else(g e f c i))
def z5m(φ:Nat)(f :(z19->zp->(List Int)->(List Bool)->Option ((List Int)×Unit))):Nat->Int->Int->Int->z19->zp->(List Int)->(List Bool)->Option ((List Int)×Unit)
 |0,_,_,_,_,_,_,_=>none
 |i+1,b,g,a,h,e,c,d=>(if(decide (a<g))=true then(ck (rg a c.length) (ck (((decide ((0:Int)<=(gt c a)))=true)->rg a d.length) (ck ((((decide ((0:Int)<=(gt c a)))&&(!(gt d a)))=true/\(decide (b<0))=false)->rg a c.length) (ck ((((decide ((0:Int)<=(gt c a)))&&(!(gt d a)))=true/\(decide (b<0))=false)->rg b c.length) (if(((decide ((0:Int)<=(gt c a)))&&(!(gt d a)))&&((decide (b<0))||(decide (((gt c a):Int)<(gt c b)))))=true then((z5m φ f i) a g (W (a+1)) h e c d) else((z5m φ f i) b g (W (a+1)) h e c d)))))) else(if(decide (b<0))=true then(some (c,())) else(ck (rg b d.length) (ck (rg b e.near.length) (z5n φ f φ b (gt e.near b) ((gt e.near b).length:Int) 0 h e c (zt d b true))))))
def z8x(φ:Nat):Nat->z19->zp->(List Int)->(List Bool)->Option ((List Int)×Unit)
 |0,_,_,_,_=>none
 |b+1,c,d,a,e=>(z5m φ (z8x φ b) φ (-1) (a.length:Int) 0 c d a e)
def z8w(φ:Nat):Nat->Int->Int->Int->z19->zp->(List Int)->(List Bool)->Option ((List Int)×Unit)
 |0,_,_,_,_,_,_,_=>none
 |h+1,c,d,a,e,f,b,g=>(if(decide (a<d))=true then(ck (rg a b.length) ((z8w φ h) c d (W (a+1)) e f (zt b a (-1)) g)) else(ck (rg c b.length) (z8x φ φ e f (zt b c 0) g)))
def zjg(φ:Nat)(a:z19)(b:zp)(c:Int):Option ((List Int)×Unit):=(ck (za (a.places.length:Int) 8) (ck (za (((List.replicate ((a.places.length:Int):Int).toNat (default:Int)).length:Int)) 1) (z8w φ φ c (((List.replicate ((a.places.length:Int):Int).toNat (default:Int)).length:Int)) 0 a b (List.replicate ((a.places.length:Int):Int).toNat (default:Int)) ((List.replicate (((List.replicate ((a.places.length:Int):Int).toNat (default:Int)).length:Int):Int).toNat (default:Bool))))))
def zc5(φ:Nat):Fsp TV:=⟨[7,34,0],[.val 24],kk3 (zjg φ)⟩
def zgj(φ:Nat)(d:z19)(e a:Int):Option (Int×Int×Unit):=((zjf φ d ([e,a])).bind λb=>(if(b.2.1 !=0)=true then(some (0,b.2.1,())) else((zjg φ d b.1 e).bind λc=>(ck (rg a c.1.length) (if(decide (((gt c.1 a):Int)<0))=true then(some (0,80,())) else(some ((gt c.1 a),0,())))))))
def z8s(φ:Nat):Fsp TV:=⟨[7,0,0],[.val 0,.val 0],kk3 (zgj φ)⟩
def ziy(φ:Nat)(a:Wash)(b c:Int):Option (Bool×Unit):=(some ((((a.from_:Int)==b)&&((a.to:Int)==c)),()))
def zb2(φ:Nat):Csp TV:=⟨[15],[.b (.val 0),.b (.val 0)],[.val 2],λz b=>ziy φ z.1 b.1 b.2.1⟩
def zb3(φ:Nat):Nat->(List Wash)->Int->Int->Int->Int->z8c->Option (Int×Int×Unit)
 |0,_,_,_,_,_,_=>none
 |g+1,b,d,a,e,f,c=>(if(decide (a<d))=true then(ck (rg a b.length) ((ziy φ (gt b a) e f).bind λh=>(if h.1=true then(if(decide (a<0))=true then(some (0,0,())) else(ck (rg a c.washes.length) (some ((gt c.washes a).minutes,0,())))) else((zb3 φ g) b d (W (a+1)) e f c)))) else(some (0,0,())))
def zoa(φ:Nat)(a:z8c)(b c:Int):Option (Int×Int×Unit):=((z8l φ a).bind λd=>(if(d.1 !=0)=true then(some (0,d.1,())) else((zo φ b 0 63).bind λe=>((z0a (default,()) ((!e.1)=false) (zo φ c 0 63)).bind λf=>(if((!e.1)||(!f.1))=true then(some (0,1,())) else(zb3 φ φ a.washes (a.washes.length:Int) 0 b c a))))))
def zeh(φ:Nat):Fsp TV:=⟨[17,0,0],[.val 0,.val 0],kk3 (zoa φ)⟩
def z7c(φ:Nat)(d :(Int->Bool->z8c->(Nat->Int)->Option ((List Swap)×Int×Unit))):Nat->Int->Bool->(List Swap)->Int->Int->z8c->(Nat->Int)->Option ((List Swap)×Int×Unit)
 |0,_,_,_,_,_,_,_=>none
 |h+1,e,i,b,f,a,g,c=>(if(decide (a<f))=true then(ck (rg a b.length) (ck (rg (gt b a).wanted 32) (ck (rg (gt b a).wanted 32) (ck (((decide ((0:Int)<=(c (((gt b a).wanted:Int).toNat))))=true)->rg (gt b a).given 32) (ck (((decide ((0:Int)<=(c (((gt b a).wanted:Int).toNat))))=true/\(decide (((c (((gt b a).given:Int).toNat)):Int)<0))=false)->rg (gt b a).given 32) (if((decide ((0:Int)<=(c (((gt b a).wanted:Int).toNat))))&&((decide (((c (((gt b a).given:Int).toNat)):Int)<0))||(decide (((W ((c (((gt b a).wanted:Int).toNat))+(gt b a).cost)):Int)<(c (((gt b a).given:Int).toNat))))))=true then(ck (rg (gt b a).given 32) ((z7c φ d h) e true b f (W (a+1)) g ((upd c (((gt b a).given:Int).toNat) ((W ((c (((gt b a).wanted:Int).toNat))+(gt b a).cost))))))) else((z7c φ d h) e i b f (W (a+1)) g c))))))) else(d e i g c))
def z7d(φ:Nat):Nat->Int->Int->Int->(Nat->Int)->(List Swap)->Option ((List Swap)×Int×Unit)
 |0,_,_,_,_,_=>none
 |f+1,c,e,a,b,d=>(if(decide (a<e))=true then(ck (rg a 32) (if(decide ((0:Int)<=(b (a.toNat))))=true then(ck (rg a 32) (ck (fits (d.length+([(⟨c,a,b (a.toNat)⟩:Swap)]).length) 24) ((z7d φ f) c e (W (a+1)) b ((d++[(⟨c,a,b (a.toNat)⟩:Swap)]))))) else((z7d φ f) c e (W (a+1)) b d))) else(some (d,0,())))
def zb4(φ:Nat):Nat->Int->Bool->z8c->(Nat->Int)->Option ((List Swap)×Int×Unit)
 |0,_,_,_,_=>none
 |d+1,b,e,a,c=>(if e=true then(z7c φ (zb4 φ d) φ b false a.swaps (a.swaps.length:Int) 0 a c) else(z7d φ φ b (a.types.length:Int) 0 c ([]:List Swap)))
def zd2(φ:Nat):Nat->Int->Int->z8c->(Nat->Int)->Option ((List Swap)×Int×Unit)
 |0,_,_,_,_=>none
 |e+1,a,b,c,d=>(if(decide (b<32))=true then(ck (rg b 32) ((zd2 φ e) a (W (b+1)) c (upd d (b.toNat) (-1)))) else(ck (rg a 32) (zb4 φ φ a true c (upd d (a.toNat) 0))))
def zoe(φ:Nat)(a:z8c)(b:Int):Option ((List Swap)×Int×Unit):=((z8l φ a).bind λc=>(if(c.1 !=0)=true then(some (([]:List Swap),c.1,())) else((zo φ b 0 (W ((a.types.length:Int)-1))).bind λd=>(if(!d.1)=true then(some (([]:List Swap),90,())) else(zd2 φ φ b 0 a (λ_=>(default:Int)))))))
def zej(φ:Nat):Fsp TV:=⟨[17,0],[.val 14,.val 0],kk2 (zoe φ)⟩
def zg3(φ:Nat)(a:Swap)(b:zf):Option (Bool×Unit):=(some (((a.given:Int)==b.type_),()))
def z8j(φ:Nat):Csp TV:=⟨[13],[.b (.val 1)],[.val 2],λz b=>zg3 φ z.1 b.1⟩
def z8k(φ:Nat):Nat->(List Swap)->Int->Int->Int->(List Swap)->zf->z17->Option (Int×Bool×Unit)
 |0,_,_,_,_,_,_,_=>none
 |h+1,f,g,a,b,c,d,e=>(if(decide (a<g))=true then(ck (rg a f.length) ((zg3 φ (gt f a) d).bind λi=>(if i.1=true then(ck ((((decide (a<0))||(decide ((e.to:Int)<(W (d.at_+b)))))=false)->rg a c.length) (if(((decide (a<0))||(decide ((e.to:Int)<(W (d.at_+b)))))||(decide ((1000000000:Int)<(W (b+(gt c a).cost)))))=true then(some (0,false,())) else(ck (rg a c.length) (some ((W (b+(gt c a).cost)),true,()))))) else((z8k φ h) f g (W (a+1)) b c d e)))) else(ck (((true||(decide ((e.to:Int)<(W (d.at_+b)))))=false)->rg (-1) c.length) (if((true||(decide ((e.to:Int)<(W (d.at_+b)))))||(decide ((1000000000:Int)<(W (b+(gt c (-1)).cost)))))=true then(some (0,false,())) else(ck (rg (-1) c.length) (some ((W (b+(gt c (-1)).cost)),true,()))))))
def z9v(φ:Nat)(c:Int)(d:Pool)(e:zf)(b:z17):Option (Int×Bool×Unit):=((zoe φ d.fleet b.type_).bind λa=>(z8k φ φ a.1 (a.1.length:Int) 0 c a.1 e b))
def z5e(φ:Nat)(b:Pool)(a:zf)(c:z17):Option (Int×Bool×Unit):=((zgj φ b.network a.place c.place).bind λd=>(ck (((d.2.1 !=0)=false)->rg a.type_ b.fleet.types.length) (ck (((d.2.1 !=0)=false)->0<=c.class_) (if((d.2.1 !=0)||(((U ((BitVec.ofInt 64 (((gt b.fleet.types a.type_).classes:Int).fdiv (2 ^ (min (c.class_:Int).toNat 64)))&&& BitVec.ofInt 64 1).toNat)):Int)==0))=true then(some (0,false,())) else(if(decide ((0:Int)<=a.class_))=true then((zoa φ b.fleet a.class_ c.class_).bind λe=>(z9v φ (W (d.1+e.1)) b a c)) else(z9v φ d.1 b a c))))))
def z78(φ:Nat):Fsp TV:=⟨[28,1,30],[.val 0,.val 2],kk3 (z5e φ)⟩
def zlw(φ:Nat)(a:Pool)(b:zf)(c:z17):Option (Int×Bool×Int×Unit):=((z0u φ a).bind λd=>(if(d.1 !=0)=true then(some (0,false,d.1,())) else((z4f φ a b).bind λe=>((z0a (default,()) ((!e.1)=false) (z5d φ a c)).bind λg=>(if((!e.1)||(!g.1))=true then(some (0,false,1,())) else((z5e φ a b c).bind λf=>(some (f.1,f.2.1,0,()))))))))
def zcx(φ:Nat):Fsp TV:=⟨[28,1,30],[.val 0,.val 2,.val 0],kk3 (zlw φ)⟩
def zbf(φ:Nat)(c d e b:Int):Option (Bool×Unit):=((zan φ).bind λf=>((zlw φ f.1 (⟨c,1,0,100,1⟩:zf) (⟨d,2,1,0,e,1,0⟩:z17)).bind λa=>(some ((((a.2.2.1==0)&&(a.2.1==(decide ((0:Int)<=b))))&&(a.1==(max2 0 b))),()))))
def zet(φ:Nat):Fsp TV:=⟨[0,0,0,0],[.val 2],kk4 (zbf φ)⟩
def z4z(φ:Nat)(a b c:Int):Option (Bool×Unit):=(some (((decide (b<=a))&&(decide (a<=c))),()))
def z99(φ:Nat):Fsp TV:=⟨[0,0,0],[.val 2],kk3 (z4z φ)⟩
def zd3(φ:Nat):Nat->Int->(List Arc)->Int->Int->z0s->Option (Int×Unit)
 |0,_,_,_,_,_=>none
 |i+1,f,b,g,a,d=>(if(decide (a<g))=true then(ck (rg a b.length) ((z4z φ ((gt b a).from_) 0 (W ((d.supply.length:Int)-1))).bind λc=>((z0a (default,()) ((!c.1)=false) (z4z φ ((gt b a).to) 0 (W ((d.supply.length:Int)-1)))).bind λe=>((z0a (default,()) ((((!c.1)||(!e.1))||(((gt b a).from_:Int)==(gt b a).to))=false) (z4z φ ((gt b a).cap) 0 1000000000)).bind λh=>((z0a (default,()) (((((!c.1)||(!e.1))||(((gt b a).from_:Int)==(gt b a).to))||(!h.1))=false) (z4z φ ((gt b a).cost) 0 1000000000)).bind λj=>(if(((((!c.1)||(!e.1))||(((gt b a).from_:Int)==(gt b a).to))||(!h.1))||(!j.1))=true then(some (1,())) else((zd3 φ i) f b g (W (a+1)) d))))))) else(if(f !=0)=true then(some (360,())) else(some (0,()))))
def zek(φ:Nat):Nat->Int->(List Int)->Int->Int->z0s->Option (Int×Unit)
 |0,_,_,_,_,_=>none
 |f+1,d,b,e,a,c=>(if(decide (a<e))=true then(ck (rg a b.length) ((z4z φ (gt b a) (-1000000000) 1000000000).bind λg=>(if(!g.1)=true then(some (1,())) else((zek φ f) (W (d+(gt b a))) b e (W (a+1)) c)))) else(zd3 φ φ d c.arcs (c.arcs.length:Int) 0 c))
def zkv(φ:Nat)(a:z0s):Option (Int×Unit):=(if((decide ((256:Int)<(a.supply.length:Int)))||(decide ((2048:Int)<(a.arcs.length:Int))))=true then(some (2,())) else(zek φ φ 0 a.supply (a.supply.length:Int) 0 a))
def zcl(φ:Nat):Fsp TV:=⟨[40],[.val 0],λz=>zkv φ z.1⟩
def zd8(φ:Nat)(a:Bool)(d :(List Int))(e :(List Arc))(f g b h c :(List Int))(i j :(List (List Int))):Option (Flow×Int×Unit):=(if a=true then(some ((⟨([]:List Int),([]:List Int)⟩:Flow),360,())) else(some ((⟨b,c⟩:Flow),0,())))
def zd6(φ:Nat):Nat->Int->Int->(List Int)->(List Int)->(List Arc)->(List Int)->(List Int)->(List Int)->(List Int)->(List (List Int))->(List (List Int))->Option (Flow×Int×Unit)
 |0,_,_,_,_,_,_,_,_,_,_,_=>none
 |l+1,k,b,a,c,d,e,f,g,h,i,j=>(if(decide (b<k))=true then(ck (rg b a.length) (if(((gt a b):Int) !=0)=true then(zd8 φ (!false) c d e f g a h i j) else((zd6 φ l) k (W (b+1)) a c d e f g h i j))) else(zd8 φ (!true) c d e f g a h i j))
def zd9(φ:Nat)(j :((List Int)->(List Arc)->(List Int)->(List Int)->(List Int)->(List (List Int))->(List (List Int))->(List Int)->(List Int)->Option (Flow×Int×Unit)))(k:Bool)(b :(List Int))(c :(List Arc))(d a e :(List Int))(f g :(List (List Int)))(h i :(List Int)):Option (Flow×Int×Unit):=(if k=true then(j b c d a e f g h i) else(zd6 φ φ (a.length:Int) 0 a b c h i d e f g))
def zb9(φ:Nat)(c :(Int->Int->(List Int)->(List Arc)->(List Int)->(List zk)->(List Int)->(List Int)->(List Int)->(List (List Int))->(List (List Int))->(List Int)->(List Int)->Option (Flow×Int×Unit)))(d b:Int)(e :(List Int))(f :(List Arc))(a :(List Int))(g :(List zk))(h i j :(List Int))(k l :(List (List Int)))(m n :(List Int)):Option (Flow×Int×Unit):=(ck (rg b a.length) (c d (gt a b) e f a g h i j k l m n))
def z7i(φ:Nat)(g :((List Int)->(List Arc)->(List Int)->(List Int)->(List Int)->(List (List Int))->(List (List Int))->(List Int)->(List Int)->Option (Flow×Int×Unit))):Nat->Int->Int->(List Int)->(List Arc)->(List Int)->(List zk)->(List Int)->(List Int)->(List Int)->(List (List Int))->(List (List Int))->(List Int)->(List Int)->Option (Flow×Int×Unit)
 |0,_,_,_,_,_,_,_,_,_,_,_,_,_=>none
 |o+1,f,a,h,c,e,b,d,i,j,k,l,m,n=>(ck (rg a e.length) (if(decide ((0:Int)<=(gt e a)))=true then(ck (rg a b.length) (ck (rg (gt b a).arc c.length) (ck (((((gt c ((gt b a).arc)).to:Int)==a)=true)->rg (gt b a).arc c.length) (ck (((((gt c ((gt b a).arc)).to:Int)==a)=true)->rg a e.length) (if((((gt c ((gt b a).arc)).to:Int)==a)&&(((gt c ((gt b a).arc)).from_:Int)==(gt e a)))=true then(ck (rg (gt b a).arc d.length) (ck (rg (gt b a).arc d.length) (zb9 φ (z7i φ g o) f a h c e b ((zt d ((gt b a).arc) ((W ((gt d ((gt b a).arc))+f))))) i j k l m n))) else(ck (rg (gt b a).arc d.length) (ck (rg (gt b a).arc d.length) (zb9 φ (z7i φ g o) f a h c e b ((zt d ((gt b a).arc) ((W ((gt d ((gt b a).arc))-f))))) i j k l m n)))))))) else(zd9 φ g true h c d i j k l m n)))
def zb8(φ:Nat)(g :((List Int)->(List Arc)->(List Int)->(List Int)->(List Int)->(List (List Int))->(List (List Int))->(List Int)->(List Int)->Option (Flow×Int×Unit))):Nat->Int->Int->Int->(List Int)->(List Arc)->(List Int)->(List zk)->(List Int)->(List Int)->(List Int)->(List (List Int))->(List (List Int))->(List Int)->(List Int)->Option (Flow×Int×Unit)
 |0,_,_,_,_,_,_,_,_,_,_,_,_,_,_=>none
 |p+1,d,c,a,h,i,e,f,j,b,k,l,m,n,o=>(ck (rg a e.length) (if(decide ((0:Int)<=(gt e a)))=true then(ck (rg a f.length) (ck (rg a e.length) ((zb8 φ g p) d (min2 c ((gt f a).room)) (gt e a) h i e f j b k l m n o))) else(ck (rg a b.length) (ck (rg a b.length) (ck (rg a b.length) (ck (rg d (((zt b a ((W ((gt b a)-(min2 c (gt b a))))))).length)) (ck (rg d (((zt b a ((W ((gt b a)-(min2 c (gt b a))))))).length)) (z7i φ g φ (min2 c (gt b a)) d h i e f j ((zt ((zt b a ((W ((gt b a)-(min2 c (gt b a))))))) d ((W ((gt ((zt b a ((W ((gt b a)-(min2 c (gt b a))))))) d)+(min2 c (gt b a))))))) k l m n o))))))))
def zb7(φ:Nat)(f :((List Int)->(List Arc)->(List Int)->(List Int)->(List Int)->(List (List Int))->(List (List Int))->(List Int)->(List Int)->Option (Flow×Int×Unit))):Nat->Int->Int->Int->Int->(List Int)->(List Arc)->(List Int)->(List zk)->(List Int)->(List Int)->(List Int)->(List Int)->(List (List Int))->(List (List Int))->(List Int)->(List Int)->Option (Flow×Int×Unit)
 |0,_,_,_,_,_,_,_,_,_,_,_,_,_,_,_,_=>none
 |r+1,b,g,h,a,i,j,k,l,e,m,d,c,n,o,p,q=>(if(decide (a<h))=true then(ck (rg a e.length) (ck (rg a c.length) (ck (rg a c.length) ((zb7 φ f r) b g h (W (a+1)) i j k l e m d ((zt c a ((W ((gt c a)+(min2 (gt e a) g)))))) n o p q)))) else(ck (rg b d.length) (zb8 φ f φ b (W (0-(gt d b))) b i j k l m d c n o p q)))
def z4w(φ:Nat)(e :((List Int)->(List Arc)->(List Int)->(List Int)->(List Int)->(List (List Int))->(List (List Int))->(List Int)->(List Int)->Option (Flow×Int×Unit))):Nat->Int->Int->Int->Int->(List Int)->(List Arc)->(List Int)->(List Int)->(List zk)->(List Int)->(List Int)->(List Int)->(List (List Int))->(List (List Int))->(List Int)->(List Int)->Option (Flow×Int×Unit)
 |0,_,_,_,_,_,_,_,_,_,_,_,_,_,_,_,_=>none
 |r+1,c,n,o,a,f,g,b,p,q,h,d,i,j,k,l,m=>(if(decide (a<o))=true then(ck (rg a b.length) (if(decide (((gt b a):Int)<1152921504606846976))=true then(ck (rg a d.length) (ck (((decide (((gt d a):Int)<0))=true/\(decide (c<0))=false)->rg c b.length) (if((decide (((gt d a):Int)<0))&&((decide (c<0))||(decide (((gt b a):Int)<(gt b c)))))=true then((z4w φ e r) a (max2 n (gt b a)) o (W (a+1)) f g b p q h d i j k l m) else((z4w φ e r) c (max2 n (gt b a)) o (W (a+1)) f g b p q h d i j k l m)))) else((z4w φ e r) c n o (W (a+1)) f g b p q h d i j k l m))) else(if(decide (c<0))=true then(zd9 φ e false f g h d i j k l m) else(zb7 φ e φ c n (b.length:Int) 0 f g p q b h d i j k l m)))
def z0w(φ:Nat)(b :((List Int)->(List Arc)->(List Int)->(List Int)->(List Int)->(List (List Int))->(List (List Int))->(List Int)->(List Int)->Option (Flow×Int×Unit)))(c :(List Int))(d :(List Arc))(a e :(List Int))(f :(List zk))(g h i :(List Int))(j k :(List (List Int)))(l m :(List Int)):Option (Flow×Int×Unit):=(z4w φ b φ (-1) 0 (a.length:Int) 0 c d a e f g h i j k l m)
def z7j(φ:Nat)(a :((List Int)->(List Arc)->(List Int)->(List Int)->(List Int)->(List (List Int))->(List (List Int))->(List Int)->(List Int)->Option (Flow×Int×Unit)))(b :(List Int))(c :(List Arc))(d e :(List Int))(f :(List zk))(g h i :(List Int))(j k :(List (List Int)))(l m :(List Int)):Option (Flow×Int×Unit):=(z0w φ a b c d e f g h i j k l m)
def z9x(φ:Nat)(a :((List Int)->(List Arc)->(List Int)->(List Int)->(List Int)->(List (List Int))->(List (List Int))->(List Int)->(List Int)->Option (Flow×Int×Unit)))(b :(List Int))(c :(List Arc))(d e :(List Int))(f :(List zk))(g h i :(List Int))(j k :(List (List Int)))(l m :(List Int)):Option (List (Option (Flow×Int×Unit))):=(catL [(catL [(catL [(some [(z0w φ a b c d e f g h i j k l m)])]),(catL [(catL [(some [(z0w φ a b c d e f g h i j k l m)])]),(catL [(catL [(some [(z0w φ a b c d e f g h i j k l m)])])])])]),(catL [(catL [(some [(z0w φ a b c d e f g h i j k l m)])]),(catL [(catL [(some [(z0w φ a b c d e f g h i j k l m)])])])]),(catL [(catL [(catL [(some [(z0w φ a b c d e f g h i j k l m)])]),(catL [(catL [(some [(z0w φ a b c d e f g h i j k l m)])])])]),(catL [(catL [(some [(z0w φ a b c d e f g h i j k l m)])])])])])
def z4y(φ:Nat)(k :(Int->(List Int)->(List Arc)->(List Bool)->(List Int)->(List Int)->(List Int)->(List (List Int))->(List (List Int))->(List Int)->(List Int)->(List zk)->(List Int)->(List Int)->Option (Flow×Int×Unit))):Nat->Int->Int->Int->Int->(List Int)->(List Int)->(List Arc)->(List Bool)->Int->(List Int)->(List Int)->(List Int)->(List (List Int))->(List (List Int))->Int->(List Int)->(List Int)->(List zk)->(List Int)->(List Int)->Option (Flow×Int×Unit)
 |0,_,_,_,_,_,_,_,_,_,_,_,_,_,_,_,_,_,_,_,_=>none
 |v+1,u,b,l,g,a,m,c,n,h,e,o,d,p,q,r,f,i,j,s,t=>(if(decide (b<u))=true then(ck (rg b a.length) (ck (rg (gt a b) c.length) (ck (rg (gt a b) e.length) (ck (((decide ((0:Int)<(gt e (gt a b))))=true)->rg g d.length) (ck (((decide ((0:Int)<(gt e (gt a b))))=true)->rg (gt c (gt a b)).from_ d.length) (ck (((decide ((0:Int)<(gt e (gt a b))))=true)->rg (gt a b) e.length) (if(decide ((0:Int)<(gt e (gt a b))))=true then(ck (rg h f.length) (ck (rg (gt c (gt a b)).from_ f.length) (if(decide (((W ((gt f h)+(W ((W ((gt d g)-(gt c (gt a b)).cost))-(gt d ((gt c (gt a b)).from_)))))):Int)<(gt f ((gt c (gt a b)).from_))))=true then(ck (rg (gt c (gt a b)).from_ f.length) (ck (rg (gt c (gt a b)).from_ i.length) (ck (rg (gt c (gt a b)).from_ j.length) (if(!true)=true then(k l m c n e o d p (zt q r a) ((zt f ((gt c (gt a b)).from_) ((W ((gt f h)+(W ((W ((gt d g)-(gt c (gt a b)).cost))-(gt d ((gt c (gt a b)).from_))))))))) ((zt i ((gt c (gt a b)).from_) h)) ((zt j ((gt c (gt a b)).from_) (((⟨gt a b,(gt c (gt a b)).from_,W ((W ((gt d g)-(gt c (gt a b)).cost))-(gt d ((gt c (gt a b)).from_))),gt e (gt a b)⟩:zk))))) s t) else((z4y φ k v) u (W (b+1)) l g a m c n h e o d p q r ((zt f ((gt c (gt a b)).from_) ((W ((gt f h)+(W ((W ((gt d g)-(gt c (gt a b)).cost))-(gt d ((gt c (gt a b)).from_))))))))) ((zt i ((gt c (gt a b)).from_) h)) ((zt j ((gt c (gt a b)).from_) (((⟨gt a b,(gt c (gt a b)).from_,W ((W ((gt d g)-(gt c (gt a b)).cost))-(gt d ((gt c (gt a b)).from_))),gt e (gt a b)⟩:zk))))) s t))))) else(if(!true)=true then(k l m c n e o d p (zt q r a) f i j s t) else((z4y φ k v) u (W (b+1)) l g a m c n h e o d p q r f i j s t))))) else((z4y φ k v) u (W (b+1)) l g a m c n h e o d p q r f i j s t)))))))) else(k l m c n e o d p (zt q r a) f i j s t))
def z4x(φ:Nat)(l :(Int->(List Int)->(List Arc)->(List Bool)->(List Int)->(List Int)->(List Int)->(List (List Int))->(List (List Int))->(List Int)->(List Int)->(List zk)->(List Int)->(List Int)->Option (Flow×Int×Unit))):Nat->Int->Int->Int->Int->(List Int)->(List Int)->(List Arc)->(List Bool)->Int->(List Int)->(List Int)->(List Int)->(List (List Int))->Int->(List (List Int))->(List Int)->(List Int)->(List zk)->(List Int)->(List Int)->Option (Flow×Int×Unit)
 |0,_,_,_,_,_,_,_,_,_,_,_,_,_,_,_,_,_,_,_,_=>none
 |v+1,u,b,m,e,a,n,c,o,h,g,p,d,q,r,i,f,j,k,s,t=>(if(decide (b<u))=true then(ck (rg b a.length) (ck (rg (gt a b) c.length) (ck (rg (gt a b) g.length) (ck (((decide ((0:Int)<(W ((gt c (gt a b)).cap-(gt g (gt a b))))))=true)->rg e d.length) (ck (((decide ((0:Int)<(W ((gt c (gt a b)).cap-(gt g (gt a b))))))=true)->rg (gt c (gt a b)).to d.length) (if(decide ((0:Int)<(W ((gt c (gt a b)).cap-(gt g (gt a b))))))=true then(ck (rg h f.length) (ck (rg (gt c (gt a b)).to f.length) (if(decide (((W ((gt f h)+(W ((W ((gt c (gt a b)).cost+(gt d e)))-(gt d ((gt c (gt a b)).to)))))):Int)<(gt f ((gt c (gt a b)).to))))=true then(ck (rg (gt c (gt a b)).to f.length) (ck (rg (gt c (gt a b)).to j.length) (ck (rg (gt c (gt a b)).to k.length) (if(!true)=true then(l m n c o g p d (zt q r a) i ((zt f ((gt c (gt a b)).to) ((W ((gt f h)+(W ((W ((gt c (gt a b)).cost+(gt d e)))-(gt d ((gt c (gt a b)).to))))))))) ((zt j ((gt c (gt a b)).to) h)) ((zt k ((gt c (gt a b)).to) (((⟨gt a b,(gt c (gt a b)).to,W ((W ((gt c (gt a b)).cost+(gt d e)))-(gt d ((gt c (gt a b)).to))),W ((gt c (gt a b)).cap-(gt g (gt a b)))⟩:zk))))) s t) else((z4x φ l v) u (W (b+1)) m e a n c o h g p d q r i ((zt f ((gt c (gt a b)).to) ((W ((gt f h)+(W ((W ((gt c (gt a b)).cost+(gt d e)))-(gt d ((gt c (gt a b)).to))))))))) ((zt j ((gt c (gt a b)).to) h)) ((zt k ((gt c (gt a b)).to) (((⟨gt a b,(gt c (gt a b)).to,W ((W ((gt c (gt a b)).cost+(gt d e)))-(gt d ((gt c (gt a b)).to))),W ((gt c (gt a b)).cap-(gt g (gt a b)))⟩:zk))))) s t))))) else(if(!true)=true then(l m n c o g p d (zt q r a) i f j k s t) else((z4x φ l v) u (W (b+1)) m e a n c o h g p d q r i f j k s t))))) else((z4x φ l v) u (W (b+1)) m e a n c o h g p d q r i f j k s t))))))) else(ck (rg e i.length) (ck (rg e i.length) (ck (e=e) (z4y φ l φ ((gt i e).length:Int) 0 m e (gt i e) n c o h g p d (zt q r a) i e f j k s t)))))
def z7h(φ:Nat)(p :((List Int)->(List Arc)->(List Int)->(List Int)->(List Int)->(List (List Int))->(List (List Int))->(List Int)->(List Int)->Option (Flow×Int×Unit)))(q :(Int->(List Int)->(List Arc)->(List Bool)->(List Int)->(List Int)->(List Int)->(List (List Int))->(List (List Int))->(List Int)->(List Int)->(List zk)->(List Int)->(List Int)->Option (Flow×Int×Unit))):Nat->Int->Int->Int->(List Int)->(List Arc)->(List Bool)->Int->(List Int)->(List Int)->(List Int)->(List (List Int))->(List (List Int))->(List Int)->(List Int)->(List zk)->(List Int)->(List Int)->Option (Flow×Int×Unit)
 |0,_,_,_,_,_,_,_,_,_,_,_,_,_,_,_,_,_=>none
 |t+1,r,s,b,f,g,d,a,h,i,j,e,k,c,l,m,n,o=>(if(decide (b<s))=true then(ck (rg b d.length) (ck (((!(gt d b))=true)->rg b c.length) (ck ((((!(gt d b))&&(decide (((gt c b):Int)<1152921504606846976)))=true/\(decide (a<0))=false)->rg b c.length) (ck ((((!(gt d b))&&(decide (((gt c b):Int)<1152921504606846976)))=true/\(decide (a<0))=false)->rg a c.length) (if(((!(gt d b))&&(decide (((gt c b):Int)<1152921504606846976)))&&((decide (a<0))||(decide (((gt c b):Int)<(gt c a)))))=true then((z7h φ p q t) r s (W (b+1)) f g d b h i j e k c l m n o) else((z7h φ p q t) r s (W (b+1)) f g d a h i j e k c l m n o)))))) else(if(decide (a<0))=true then(z7j φ p f g c l m h i j e k n o) else(ck (rg a d.length) (ck (rg a e.length) (ck (rg a e.length) (ck (a=a) (z4x φ q φ ((gt e a).length:Int) 0 r a (gt e a) f g (zt d a true) a h i j e a k c l m n o)))))))
def zb6(φ:Nat)(a :((List Int)->(List Arc)->(List Int)->(List Int)->(List Int)->(List (List Int))->(List (List Int))->(List Int)->(List Int)->Option (Flow×Int×Unit))):Nat->Int->(List Int)->(List Arc)->(List Bool)->(List Int)->(List Int)->(List Int)->(List (List Int))->(List (List Int))->(List Int)->(List Int)->(List zk)->(List Int)->(List Int)->Option (Flow×Int×Unit)
 |0,_,_,_,_,_,_,_,_,_,_,_,_,_,_=>none
 |c+1,b,d,e,f,g,h,i,j,k,l,m,n,o,p=>(z7h φ a (zb6 φ a c) φ b b 0 d e f (-1) g h i j k l m n o p)
def z7g(φ:Nat)(f :((List Int)->(List Arc)->(List Int)->(List Int)->(List Int)->(List (List Int))->(List (List Int))->(List Int)->(List Int)->Option (Flow×Int×Unit))):Nat->Int->Int->Int->(List Int)->(List Arc)->(List Int)->(List Int)->(List Int)->(List (List Int))->(List (List Int))->(List Int)->(List Int)->(List zk)->(List Int)->(List Int)->Option (Flow×Int×Unit)
 |0,_,_,_,_,_,_,_,_,_,_,_,_,_,_,_=>none
 |q+1,b,g,a,h,i,j,c,k,l,m,d,e,n,o,p=>(if(decide (a<g))=true then(ck (rg a d.length) (ck (rg a e.length) (ck (rg a c.length) (if(decide ((0:Int)<(gt c a)))=true then(ck (rg a (zt d a 1152921504606846976).length) ((z7g φ f q) b g (W (a+1)) h i j c k l m (zt (zt d a 1152921504606846976) a 0) (zt e a (-1)) n o p)) else((z7g φ f q) b g (W (a+1)) h i j c k l m (zt d a 1152921504606846976) (zt e a (-1)) n o p))))) else(ck (za b 1) (zb6 φ f φ b h i (List.replicate b.toNat (default:Bool)) j c k l m d e n o p)))
def zx(φ:Nat)(b :((List Int)->(List Arc)->(List Int)->(List Int)->(List Int)->(List (List Int))->(List (List Int))->(List Int)->(List Int)->Option (Flow×Int×Unit)))(a:Int)(c :(List Int))(d :(List Arc))(e f g :(List Int))(h i :(List (List Int)))(j k :(List Int))(l :(List zk))(m n :(List Int)):Option (Flow×Int×Unit):=(z7g φ b φ a a 0 c d e f g h i j k l m n)
def z7k(φ:Nat)(b :((List Int)->(List Arc)->(List Int)->(List Int)->(List Int)->(List (List Int))->(List (List Int))->(List Int)->(List Int)->Option (Flow×Int×Unit)))(a:Int)(c :(List Int))(d :(List Arc))(e f g :(List Int))(h i :(List (List Int)))(l m :(List Int))(n :(List zk))(j k :(List Int)):Option (Flow×Int×Unit):=(ck (za a 8) (ck (za a 8) (ck (za a 32) (zx φ b a c d e f g h i (List.replicate a.toNat (default:Int)) (List.replicate a.toNat (default:Int)) (List.replicate a.toNat (default:zk)) j k))))
def z9y(φ:Nat)(b :((List Int)->(List Arc)->(List Int)->(List Int)->(List Int)->(List (List Int))->(List (List Int))->(List Int)->(List Int)->Option (Flow×Int×Unit)))(a:Int)(c :(List Int))(d :(List Arc))(e f g :(List Int))(h i :(List (List Int)))(l m :(List Int))(n :(List zk))(j k :(List Int)):Option (List (Option (Flow×Int×Unit))):=(catL [(ck (za a 8) (catL [(ck (za a 8) (catL [(ck (za a 32) (catL [(some [(zx φ b a c d e f g h i (List.replicate a.toNat (default:Int)) (List.replicate a.toNat (default:Int)) (List.replicate a.toNat (default:zk)) j k)])])),(catL [(ck (za a 32) (catL [(some [(zx φ b a c d e f g h i (List.replicate a.toNat (default:Int)) (List.replicate a.toNat (default:Int)) (List.replicate a.toNat (default:zk)) j k)])])),(catL [(ck (za a 32) (catL [(some [(zx φ b a c d e f g h i (List.replicate a.toNat (default:Int)) (List.replicate a.toNat (default:Int)) (List.replicate a.toNat (default:zk)) j k)])]))])])])),(ck (za a 32) (catL [(ck (za a 8) (catL [(some [(zx φ b a c d e f g h i (List.replicate a.toNat (default:Int)) (List.replicate a.toNat (default:Int)) (List.replicate a.toNat (default:zk)) j k)])])),(catL [(ck (za a 8) (catL [(some [(zx φ b a c d e f g h i (List.replicate a.toNat (default:Int)) (List.replicate a.toNat (default:Int)) (List.replicate a.toNat (default:zk)) j k)])]))])])),(catL [(ck (za a 8) (catL [(ck (za a 32) (catL [(some [(zx φ b a c d e f g h i (List.replicate a.toNat (default:Int)) (List.replicate a.toNat (default:Int)) (List.replicate a.toNat (default:zk)) j k)])])),(catL [(ck (za a 32) (catL [(some [(zx φ b a c d e f g h i (List.replicate a.toNat (default:Int)) (List.replicate a.toNat (default:Int)) (List.replicate a.toNat (default:zk)) j k)])]))])])),(ck (za a 32) (catL [(ck (za a 8) (catL [(some [(zx φ b a c d e f g h i (List.replicate a.toNat (default:Int)) (List.replicate a.toNat (default:Int)) (List.replicate a.toNat (default:zk)) j k)])]))]))])])),(ck (za a 8) (catL [(ck (za a 8) (catL [(ck (za a 32) (catL [(some [(zx φ b a c d e f g h i (List.replicate a.toNat (default:Int)) (List.replicate a.toNat (default:Int)) (List.replicate a.toNat (default:zk)) j k)])])),(catL [(ck (za a 32) (catL [(some [(zx φ b a c d e f g h i (List.replicate a.toNat (default:Int)) (List.replicate a.toNat (default:Int)) (List.replicate a.toNat (default:zk)) j k)])])),(catL [(ck (za a 32) (catL [(some [(zx φ b a c d e f g h i (List.replicate a.toNat (default:Int)) (List.replicate a.toNat (default:Int)) (List.replicate a.toNat (default:zk)) j k)])]))])])])),(ck (za a 32) (catL [(ck (za a 8) (catL [(some [(zx φ b a c d e f g h i (List.replicate a.toNat (default:Int)) (List.replicate a.toNat (default:Int)) (List.replicate a.toNat (default:zk)) j k)])]))]))])),(ck (za a 32) (catL [(ck (za a 8) (catL [(ck (za a 8) (catL [(some [(zx φ b a c d e f g h i (List.replicate a.toNat (default:Int)) (List.replicate a.toNat (default:Int)) (List.replicate a.toNat (default:zk)) j k)])])),(catL [(ck (za a 8) (catL [(some [(zx φ b a c d e f g h i (List.replicate a.toNat (default:Int)) (List.replicate a.toNat (default:Int)) (List.replicate a.toNat (default:zk)) j k)])]))])])),(ck (za a 8) (catL [(ck (za a 8) (catL [(some [(zx φ b a c d e f g h i (List.replicate a.toNat (default:Int)) (List.replicate a.toNat (default:Int)) (List.replicate a.toNat (default:zk)) j k)])]))]))]))])
def zd5(φ:Nat):Nat->(List Int)->(List Arc)->(List Int)->(List Int)->(List Int)->(List (List Int))->(List (List Int))->(List Int)->(List Int)->Option (Flow×Int×Unit)
 |0,_,_,_,_,_,_,_,_,_=>none
 |b+1,c,d,e,a,f,g,h,i,j=>(z7k φ (zd5 φ b) (a.length:Int) c d e a f g h ([]:List Int) ([]:List Int) ([]:List zk) i j)
def zd4(φ:Nat):Nat->(List Arc)->Int->Int->(List Int)->(List Arc)->(List Int)->(List Int)->(List Int)->(List (List Int))->(List (List Int))->(List Int)->(List Int)->Option (Flow×Int×Unit)
 |0,_,_,_,_,_,_,_,_,_,_,_,_=>none
 |m+1,b,e,a,f,g,h,i,j,c,d,k,l=>(if(decide (a<e))=true then(ck (rg a b.length) (ck (rg (gt b a).from_ c.length) (ck (rg (gt b a).from_ c.length) (ck (((gt b a).from_:Int) =(gt b a).from_) (ck (fits ((gt c ((gt b a).from_)).length+([a]).length) 8) (ck (rg (gt b a).from_ c.length) (ck (((gt b a).from_:Int) =(gt b a).from_) (ck (rg (gt b a).to d.length) (ck (rg (gt b a).to d.length) (ck (((gt b a).to:Int) =(gt b a).to) (ck (fits ((gt d ((gt b a).to)).length+([a]).length) 8) (ck (rg (gt b a).to d.length) (ck (((gt b a).to:Int) =(gt b a).to) ((zd4 φ m) b e (W (a+1)) f g h i j ((zt c ((gt b a).from_) (((gt c ((gt b a).from_))++[a])))) ((zt d ((gt b a).to) (((gt d ((gt b a).to))++[a])))) k l)))))))))))))) else(zd5 φ φ f g h i j c d k l))
def zd7(φ:Nat)(a:z0s)(b :(List Int))(c :(List Arc))(d e f :(List Int))(g h :(List (List Int)))(i j :(List Int)):Option (Flow×Int×Unit):=(zd4 φ φ a.arcs (a.arcs.length:Int) 0 b c d e f g h i j)
def z7l(φ:Nat)(b:Int)(a:z0s)(c d :(List Int)):Option (Flow×Int×Unit):=(ck (za (a.arcs.length:Int) 8) (ck (fits (([]:List Int).length+a.supply.length) 8) (ck (za b 8) (ck (za b 24) (ck (za b 24) (zd7 φ a a.supply a.arcs (List.replicate ((a.arcs.length:Int):Int).toNat (default:Int)) (([]:List Int)++a.supply) (List.replicate b.toNat (default:Int)) (List.replicate b.toNat (default :(List Int))) (List.replicate b.toNat (default :(List Int))) c d))))))
def z8(φ:Nat)(b:Int)(a:z0s)(c d :(List Int)):Option (List (Option (Flow×Int×Unit))):=(catL [(some [(zd7 φ a a.supply a.arcs (List.replicate ((a.arcs.length:Int):Int).toNat (default:Int)) (([]:List Int)++a.supply) (List.replicate b.toNat (default:Int)) (List.replicate b.toNat (default :(List Int))) (List.replicate b.toNat (default :(List Int))) c d)])])
def z09(φ:Nat)(a:Int)(b:z0s)(c d :(List Int)):Option (List (Option (Flow×Int×Unit))):=(catL [(ck (za a 24) (z8 φ a b c d))])
def zd(φ:Nat)(b:Int)(a:z0s)(c d :(List Int)):Option (List (Option (Flow×Int×Unit))):=(catL [(ck (fits (([]:List Int).length+a.supply.length) 8) (z8 φ b a c d))])
def z13(φ:Nat)(a:Int)(b:z0s)(c d :(List Int)):Option (List (Option (Flow×Int×Unit))):=(catL [(ck (fits (([]:List Int).length+b.supply.length) 8) (z09 φ a b c d)),(ck (za a 24) (zd φ a b c d))])
def z5j(φ:Nat)(a:Int)(b:z0s)(c d :(List Int)):Option (List (Option (Flow×Int×Unit))):=(catL [(ck (za (b.arcs.length:Int) 8) (catL [(ck (fits (([]:List Int).length+b.supply.length) 8) (catL [(ck (za a 8) (z09 φ a b c d)),(ck (za a 24) (catL [(ck (za a 8) (z8 φ a b c d))]))])),(ck (za a 8) (z13 φ a b c d)),(ck (za a 24) (catL [(ck (fits (([]:List Int).length+b.supply.length) 8) (catL [(ck (za a 8) (z8 φ a b c d))])),(ck (za a 8) (zd φ a b c d))]))])),(ck (fits (([]:List Int).length+b.supply.length) 8) (catL [(ck (za (b.arcs.length:Int) 8) (catL [(ck (za a 8) (z09 φ a b c d)),(ck (za a 24) (catL [(ck (za a 8) (z8 φ a b c d))]))])),(ck (za a 8) (catL [(ck (za (b.arcs.length:Int) 8) (z09 φ a b c d)),(ck (za a 24) (catL [(ck (za (b.arcs.length:Int) 8) (z8 φ a b c d))]))])),(ck (za a 24) (catL [(ck (za (b.arcs.length:Int) 8) (catL [(ck (za a 8) (z8 φ a b c d))])),(ck (za a 8) (catL [(ck (za (b.arcs.length:Int) 8) (z8 φ a b c d))]))]))])),(ck (za a 8) (catL [(ck (za (b.arcs.length:Int) 8) (z13 φ a b c d)),(ck (fits (([]:List Int).length+b.supply.length) 8) (catL [(ck (za (b.arcs.length:Int) 8) (z09 φ a b c d)),(ck (za a 24) (catL [(ck (za (b.arcs.length:Int) 8) (z8 φ a b c d))]))])),(ck (za a 24) (catL [(ck (za (b.arcs.length:Int) 8) (zd φ a b c d)),(ck (fits (([]:List Int).length+b.supply.length) 8) (catL [(ck (za (b.arcs.length:Int) 8) (z8 φ a b c d))]))]))])),(ck (za a 24) (catL [(ck (za (b.arcs.length:Int) 8) (catL [(ck (fits (([]:List Int).length+b.supply.length) 8) (catL [(ck (za a 8) (z8 φ a b c d))])),(ck (za a 8) (zd φ a b c d))])),(ck (fits (([]:List Int).length+b.supply.length) 8) (catL [(ck (za (b.arcs.length:Int) 8) (catL [(ck (za a 8) (z8 φ a b c d))])),(ck (za a 8) (catL [(ck (za (b.arcs.length:Int) 8) (z8 φ a b c d))]))])),(ck (za a 8) (catL [(ck (za (b.arcs.length:Int) 8) (zd φ a b c d)),(ck (fits (([]:List Int).length+b.supply.length) 8) (catL [(ck (za (b.arcs.length:Int) 8) (z8 φ a b c d))]))]))]))])
def z14(φ:Nat)(a:Int)(b:z0s)(c d :(List Int)):Option (List (Option (Flow×Int×Unit))):=(catL [(ck (fits (([]:List Int).length+b.supply.length) 8) (catL [(ck (za a 8) (z09 φ a b c d)),(ck (za a 24) (catL [(ck (za a 8) (z8 φ a b c d))]))])),(ck (za a 8) (z13 φ a b c d)),(ck (za a 24) (catL [(ck (fits (([]:List Int).length+b.supply.length) 8) (catL [(ck (za a 8) (z8 φ a b c d))])),(ck (za a 8) (zd φ a b c d))]))])
def z05(φ:Nat)(a:Int)(b:z0s)(c d :(List Int)):Option (List (Option (Flow×Int×Unit))):=(catL [(z13 φ a b c d),(ck (za a 24) (catL [(zd φ a b c d)]))])
def z2s(φ:Nat)(b:Int)(a:z0s)(c d :(List Int)):Option (List (Option (Flow×Int×Unit))):=(catL [(ck (za (a.arcs.length:Int) 8) (z13 φ b a c d)),(ck (fits (([]:List Int).length+a.supply.length) 8) (catL [(ck (za (a.arcs.length:Int) 8) (z09 φ b a c d)),(ck (za b 24) (catL [(ck (za (a.arcs.length:Int) 8) (z8 φ b a c d))]))])),(ck (za b 24) (catL [(ck (za (a.arcs.length:Int) 8) (zd φ b a c d)),(ck (fits (([]:List Int).length+a.supply.length) 8) (catL [(ck (za (a.arcs.length:Int) 8) (z8 φ b a c d))]))]))])
def z8n(φ:Nat)(b:Int)(a:z0s)(c d :(List Int)):Option (List (Option (Flow×Int×Unit))):=(ck (za b 24) (catL [(ck (za (a.arcs.length:Int) 8) (catL [(z14 φ b a c d),(ck (za b 8) (z05 φ b a c d)),(ck (za b 24) (catL [(catL [(ck (fits (([]:List Int).length+a.supply.length) 8) (catL [(ck (za b 8) (z8 φ b a c d))])),(ck (za b 8) (zd φ b a c d))]),(ck (za b 8) (catL [(zd φ b a c d)]))]))])),(z5j φ b a c d),(ck (za b 8) (catL [(ck (za (a.arcs.length:Int) 8) (z05 φ b a c d)),(z2s φ b a c d),(ck (za b 24) (catL [(ck (za (a.arcs.length:Int) 8) (catL [(zd φ b a c d)])),(catL [(ck (za (a.arcs.length:Int) 8) (zd φ b a c d)),(ck (fits (([]:List Int).length+a.supply.length) 8) (catL [(ck (za (a.arcs.length:Int) 8) (z8 φ b a c d))]))])]))])),(ck (za b 24) (catL [(ck (za (a.arcs.length:Int) 8) (catL [(catL [(ck (fits (([]:List Int).length+a.supply.length) 8) (catL [(ck (za b 8) (z8 φ b a c d))])),(ck (za b 8) (zd φ b a c d))]),(ck (za b 8) (catL [(zd φ b a c d)]))])),(catL [(ck (za (a.arcs.length:Int) 8) (catL [(ck (fits (([]:List Int).length+a.supply.length) 8) (catL [(ck (za b 8) (z8 φ b a c d))])),(ck (za b 8) (zd φ b a c d))])),(ck (fits (([]:List Int).length+a.supply.length) 8) (catL [(ck (za (a.arcs.length:Int) 8) (catL [(ck (za b 8) (z8 φ b a c d))])),(ck (za b 8) (catL [(ck (za (a.arcs.length:Int) 8) (z8 φ b a c d))]))])),(ck (za b 8) (catL [(ck (za (a.arcs.length:Int) 8) (zd φ b a c d)),(ck (fits (([]:List Int).length+a.supply.length) 8) (catL [(ck (za (a.arcs.length:Int) 8) (z8 φ b a c d))]))]))]),(ck (za b 8) (catL [(ck (za (a.arcs.length:Int) 8) (catL [(zd φ b a c d)])),(catL [(ck (za (a.arcs.length:Int) 8) (zd φ b a c d)),(ck (fits (([]:List Int).length+a.supply.length) 8) (catL [(ck (za (a.arcs.length:Int) 8) (z8 φ b a c d))]))])]))]))]))
def zu(φ:Nat)(a:Int)(b:z0s)(c d :(List Int)):Option (List (Option (Flow×Int×Unit))):=(ck (za a 24) (z09 φ a b c d))
def z2t(φ:Nat)(a:Int)(b:z0s)(c d :(List Int)):Option (List (Option (Flow×Int×Unit))):=(catL [(ck (fits (([]:List Int).length+b.supply.length) 8) (catL [(zu φ a b c d),(zu φ a b c d)])),(ck (za a 24) (z13 φ a b c d)),(ck (za a 24) (z13 φ a b c d))])
def z1d(φ:Nat)(b:Int)(a:z0s)(c d :(List Int)):Option (List (Option (Flow×Int×Unit))):=(catL [(ck (za (a.arcs.length:Int) 8) (z09 φ b a c d)),(ck (za b 24) (catL [(ck (za (a.arcs.length:Int) 8) (z8 φ b a c d))]))])
def z7m(φ:Nat)(a:Int)(b:z0s)(c d :(List Int)):Option (List (Option (Flow×Int×Unit))):=(catL [(ck (za (b.arcs.length:Int) 8) (z2t φ a b c d)),(ck (fits (([]:List Int).length+b.supply.length) 8) (catL [(ck (za (b.arcs.length:Int) 8) (catL [(zu φ a b c d),(zu φ a b c d)])),(ck (za a 24) (z1d φ a b c d)),(ck (za a 24) (z1d φ a b c d))])),(ck (za a 24) (z2s φ a b c d)),(ck (za a 24) (z2s φ a b c d))])
def z0h(φ:Nat)(a:Int)(b:z0s)(c d :(List Int)):Option (List (Option (Flow×Int×Unit))):=(catL [(ck (za a 8) (z09 φ a b c d)),(ck (za a 24) (catL [(ck (za a 8) (z8 φ a b c d))]))])
def z9z(φ:Nat)(a:Int)(b:z0s)(c d :(List Int)):Option (List (Option (Flow×Int×Unit))):=(catL [(ck (za (b.arcs.length:Int) 8) (catL [(catL [(ck (fits (([]:List Int).length+b.supply.length) 8) (catL [(ck (za a 8) (catL [(zu φ a b c d),(zu φ a b c d)])),(ck (za a 24) (z0h φ a b c d)),(ck (za a 24) (z0h φ a b c d))])),(ck (za a 8) (z2t φ a b c d)),(ck (za a 24) (z14 φ a b c d)),(ck (za a 24) (z14 φ a b c d))]),(ck (za a 8) (catL [(z2t φ a b c d),(ck (za a 24) (z05 φ a b c d)),(ck (za a 24) (z05 φ a b c d))])),(ck (za a 24) (catL [(z14 φ a b c d),(ck (za a 8) (z05 φ a b c d)),(ck (za a 24) (catL [(catL [(ck (fits (([]:List Int).length+b.supply.length) 8) (catL [(ck (za a 8) (z8 φ a b c d))])),(ck (za a 8) (zd φ a b c d))]),(ck (za a 8) (catL [(zd φ a b c d)]))]))])),(ck (za a 24) (catL [(z14 φ a b c d),(ck (za a 8) (z05 φ a b c d)),(ck (za a 24) (catL [(catL [(ck (fits (([]:List Int).length+b.supply.length) 8) (catL [(ck (za a 8) (z8 φ a b c d))])),(ck (za a 8) (zd φ a b c d))]),(ck (za a 8) (catL [(zd φ a b c d)]))]))]))])),(catL [(ck (za (b.arcs.length:Int) 8) (catL [(ck (fits (([]:List Int).length+b.supply.length) 8) (catL [(ck (za a 8) (catL [(zu φ a b c d),(zu φ a b c d)])),(ck (za a 24) (z0h φ a b c d)),(ck (za a 24) (z0h φ a b c d))])),(ck (za a 8) (z2t φ a b c d)),(ck (za a 24) (z14 φ a b c d)),(ck (za a 24) (z14 φ a b c d))])),(ck (fits (([]:List Int).length+b.supply.length) 8) (catL [(ck (za (b.arcs.length:Int) 8) (catL [(ck (za a 8) (catL [(zu φ a b c d),(zu φ a b c d)])),(ck (za a 24) (z0h φ a b c d)),(ck (za a 24) (z0h φ a b c d))])),(ck (za a 8) (catL [(ck (za (b.arcs.length:Int) 8) (catL [(zu φ a b c d),(zu φ a b c d)])),(ck (za a 24) (z1d φ a b c d)),(ck (za a 24) (z1d φ a b c d))])),(ck (za a 24) (catL [(ck (za (b.arcs.length:Int) 8) (z0h φ a b c d)),(ck (za a 8) (z1d φ a b c d)),(ck (za a 24) (catL [(ck (za (b.arcs.length:Int) 8) (catL [(ck (za a 8) (z8 φ a b c d))])),(ck (za a 8) (catL [(ck (za (b.arcs.length:Int) 8) (z8 φ a b c d))]))]))])),(ck (za a 24) (catL [(ck (za (b.arcs.length:Int) 8) (z0h φ a b c d)),(ck (za a 8) (z1d φ a b c d)),(ck (za a 24) (catL [(ck (za (b.arcs.length:Int) 8) (catL [(ck (za a 8) (z8 φ a b c d))])),(ck (za a 8) (catL [(ck (za (b.arcs.length:Int) 8) (z8 φ a b c d))]))]))]))])),(ck (za a 8) (z7m φ a b c d)),(ck (za a 24) (z5j φ a b c d)),(ck (za a 24) (z5j φ a b c d))]),(ck (za a 8) (catL [(ck (za (b.arcs.length:Int) 8) (catL [(z2t φ a b c d),(ck (za a 24) (z05 φ a b c d)),(ck (za a 24) (z05 φ a b c d))])),(z7m φ a b c d),(ck (za a 24) (catL [(ck (za (b.arcs.length:Int) 8) (z05 φ a b c d)),(z2s φ a b c d),(ck (za a 24) (catL [(ck (za (b.arcs.length:Int) 8) (catL [(zd φ a b c d)])),(catL [(ck (za (b.arcs.length:Int) 8) (zd φ a b c d)),(ck (fits (([]:List Int).length+b.supply.length) 8) (catL [(ck (za (b.arcs.length:Int) 8) (z8 φ a b c d))]))])]))])),(ck (za a 24) (catL [(ck (za (b.arcs.length:Int) 8) (z05 φ a b c d)),(z2s φ a b c d),(ck (za a 24) (catL [(ck (za (b.arcs.length:Int) 8) (catL [(zd φ a b c d)])),(catL [(ck (za (b.arcs.length:Int) 8) (zd φ a b c d)),(ck (fits (([]:List Int).length+b.supply.length) 8) (catL [(ck (za (b.arcs.length:Int) 8) (z8 φ a b c d))]))])]))]))])),(z8n φ a b c d),(z8n φ a b c d)])
end Px
end
section
set_option maxHeartbeats 4000000
set_option maxRecDepth 100000
namespace Px
open Go Go.RowKit
def zkw(φ:Nat)(a:z0s):Option (Flow×Int×Unit):=((zkv φ a).bind λb=>(if(b.1 !=0)=true then(some ((⟨([]:List Int),([]:List Int)⟩:Flow),b.1,())) else(z7l φ (a.supply.length:Int) a ([]:List Int) ([]:List Int))))
def zg8(φ:Nat):Fsp TV:=⟨[40],[.val 41,.val 0],λz=>zkw φ z.1⟩
def z8o(φ:Nat):Nat->Int->Int->(List Int)->Option (Bool×Unit)
 |0,_,_,_=>none
 |d+1,c,a,b=>(if(decide (a<c))=true then(ck (rg a b.length) (if(((gt b a):Int) !=0)=true then(some (false,())) else((z8o φ d) c (W (a+1)) b))) else(some (true,())))
def za0(φ:Nat):Nat->(List Arc)->Int->Int->Flow->(List Int)->Option (Bool×Unit)
 |0,_,_,_,_,_=>none
 |f+1,b,e,a,d,c=>(if(decide (a<e))=true then(ck (rg a b.length) (ck (rg a d.x.length) ((z4z φ (gt d.x a) 0 ((gt b a).cap)).bind λg=>(if(!g.1)=true then(some (false,())) else(ck (rg (gt b a).from_ c.length) (ck (rg a d.x.length) (ck (rg (gt b a).from_ c.length) (ck (rg (gt b a).to (((zt c ((gt b a).from_) ((W ((gt c ((gt b a).from_))-(gt d.x a)))))).length)) (ck (rg a d.x.length) (ck (rg (gt b a).to (((zt c ((gt b a).from_) ((W ((gt c ((gt b a).from_))-(gt d.x a)))))).length)) ((za0 φ f) b e (W (a+1)) d ((zt ((zt c ((gt b a).from_) ((W ((gt c ((gt b a).from_))-(gt d.x a)))))) ((gt b a).to) ((W ((gt ((zt c ((gt b a).from_) ((W ((gt c ((gt b a).from_))-(gt d.x a)))))) ((gt b a).to))+(gt d.x a))))))))))))))))) else(z8o φ φ (c.length:Int) 0 c))
def zj2(φ:Nat)(a:z0s)(b:Flow):Option (Bool×Unit):=(if(((b.x.length:Int):Int) !=(a.arcs.length:Int))=true then(some (false,())) else(ck (fits (([]:List Int).length+a.supply.length) 8) (za0 φ φ a.arcs (a.arcs.length:Int) 0 b (([]:List Int)++a.supply))))
def zbb(φ:Nat):Fsp TV:=⟨[40,41],[.val 2],kk2 (zj2 φ)⟩
def zel(φ:Nat):Nat->Int->(List Arc)->Int->Int->Flow->Option (Int×Int×Unit)
 |0,_,_,_,_,_=>none
 |f+1,d,b,e,a,c=>(if(decide (a<e))=true then(ck (rg a b.length) (ck (rg a c.x.length) (if(decide (((W (9007199254740992-d)):Int)<(W ((gt c.x a)*(gt b a).cost))))=true then(some (0,3,())) else((zel φ f) ((W (d+(W ((gt c.x a)*(gt b a).cost))))) b e (W (a+1)) c)))) else(some (d,0,())))
def zoh(φ:Nat)(a:z0s)(b:Flow):Option (Int×Int×Unit):=((zkv φ a).bind λc=>(if(c.1 !=0)=true then(some (0,c.1,())) else((zj2 φ a b).bind λd=>(if(!d.1)=true then(some (0,360,())) else(zel φ φ 0 a.arcs (a.arcs.length:Int) 0 b)))))
def zhw(φ:Nat):Fsp TV:=⟨[40,41],[.val 0,.val 0],kk2 (zoh φ)⟩
def zho(φ:Nat)(a :(List z6)):Option ((List z6)×Unit):=(ck (a.isEmpty=false) (ck (fits (([]:List z6).length+a.length) 192) (some ((([]:List z6)++a),()))))
def zf8(φ:Nat):Fsp TV:=⟨[54],[.row 76 53],λz=>zho φ z.1⟩
def zct(φ:Nat)(a :(List z6)):Option ((List z6)×Unit):=if a.isEmpty=true then some ([],()) else zho φ a
def zdh(φ:Nat):Fsp TV:=⟨[54],[.row 76 53],λz=>zct φ z.1⟩
def z1x(φ:Nat)(e :(Int->Int->(z6->z6->Option Int)->Int->(List z6)->Option (List z6))):Nat->Int->Int->(z6->z6->Option Int)->Int->Int->(List z6)->Option (List z6)
 |0,_,_,_,_,_,_=>none
 |h+1,c,f,d,g,a,b=>(ck (((decide (c<a))=true)->rg a b.length) (ck (((decide (c<a))=true)->rg (W (a-1)) b.length) ((z0a (0:Int) ((decide (c<a))=true) (d (gt b a) (gt b (W (a-1))))).bind λi=>(if((decide (c<a))&&(decide (i<0)))=true then(ck (rg (W (a-1)) b.length) (ck (rg a b.length) (ck (rg a b.length) (ck (rg (W (a-1)) (((zt b a (gt b (W (a-1))))).length)) ((z1x φ e h) c f d g (W (a-1)) ((zt ((zt b a (gt b (W (a-1))))) (W (a-1)) (gt b a)))))))) else(e c f d (W (g+1)) b)))))
def z1w(φ:Nat):Nat->Int->Int->(z6->z6->Option Int)->Int->(List z6)->Option (List z6)
 |0,_,_,_,_,_=>none
 |d+1,e,b,f,a,c=>(if(decide (a<b))=true then(z1x φ (z1w φ d) φ e b f a a c) else(some c))
def z2x(φ:Nat)(b :(List z6))(a c:Int)(d :(z6->z6->Option Int)):Option (List z6):=(z1w φ φ a c d (W (a+1)) b)
def z2j(φ:Nat):Msp TV:=⟨76,53,[.val 0,.val 0,.cmp 53],λl z=>z2x φ l z.1 z.2.1 z.2.2.1⟩
def z2y(φ:Nat):Nat->Int->Int->Int->Int->(List z6)->Option (List z6)
 |0,_,_,_,_,_=>none
 |f+1,c,d,e,a,b=>(if(decide (a<e))=true then(ck (rg (W (d+a)) b.length) (ck (rg (W (c+a)) b.length) (ck (rg (W (c+a)) b.length) (ck (rg (W (d+a)) (((zt b (W (c+a)) (gt b (W (d+a))))).length)) ((z2y φ f) c d e (W (a+1)) ((zt ((zt b (W (c+a)) (gt b (W (d+a))))) (W (d+a)) (gt b (W (c+a)))))))))) else(some b))
def z2n(φ:Nat)(a :(List z6))(b c d:Int)(e :(z6->z6->Option Int)):Option (List z6):=(z2y φ φ b c d 0 a)
def z3q(φ:Nat):Msp TV:=⟨76,53,[.val 0,.val 0,.val 0,.cmp 53],λl z=>z2n φ l z.1 z.2.1 z.2.2.1 z.2.2.2.1⟩
def z2b(φ:Nat):Nat->Int->(z6->z6->Option Int)->Int->Int->(List z6)->Option (List z6)
 |0,_,_,_,_,_=>none
 |f+1,b,d,a,c,e=>(if(a !=c)=true then(if(decide (c<a))=true then((z2n φ e (W (b-a)) b c d).bind λg=>((z2b φ f) b d (W (a-c)) c g)) else((z2n φ e (W (b-a)) ((W ((W (b+c))-a))) a d).bind λh=>((z2b φ f) b d a (W (c-a)) h))) else((z2n φ e (W (b-a)) b a d).bind λi=>(some i)))
def za9(φ:Nat)(b :(List z6))(c a d:Int)(e :(z6->z6->Option Int)):Option (List z6):=(z2b φ φ a e (W (a-c)) (W (d-a)) b)
def z4k(φ:Nat):Msp TV:=⟨76,53,[.val 0,.val 0,.val 0,.cmp 53],λl z=>za9 φ l z.1 z.2.1 z.2.2.1 z.2.2.2.1⟩
def z36(φ:Nat):Nat->Int->Int->(List z6)->Option (List z6)
 |0,_,_,_=>none
 |d+1,c,a,b=>(if(decide (a<(W (c-1))))=true then(ck (rg (W (a+1)) b.length) (ck (rg a b.length) (ck (rg a b.length) (ck (rg (W (a+1)) (((zt b a (gt b (W (a+1))))).length)) ((z36 φ d) c (W (a+1)) ((zt ((zt b a (gt b (W (a+1))))) (W (a+1)) (gt b a)))))))) else(some b))
def z1l(φ:Nat):Nat->Int->(z6->z6->Option Int)->Int->Int->(List z6)->Option (List z6)
 |0,_,_,_,_,_=>none
 |f+1,d,e,a,c,b=>(if(decide (a<c))=true then(if 0<=(1:Int) then(ck (rg ((W ((((U ((W (a+c)))):Int).fdiv (2 ^ (min (1:Int).toNat 64)))))) b.length) (ck (rg d b.length) ((e (((gt b ((W ((((U ((W (a+c)))):Int).fdiv (2 ^ (min (1:Int).toNat 64))))))))) (gt b d)).bind λg=>(if(decide (g<0))=true then((z1l φ f) d e ((W ((W ((((U ((W (a+c)))):Int).fdiv (2 ^ (min (1:Int).toNat 64)))))+1))) c b) else((z1l φ f) d e a ((W ((((U ((W (a+c)))):Int).fdiv (2 ^ (min (1:Int).toNat 64)))))) b))))) else none) else(z36 φ φ a d b))
def z37(φ:Nat):Nat->Int->Int->(List z6)->Option (List z6)
 |0,_,_,_=>none
 |d+1,c,a,b=>(if(decide (c<a))=true then(ck (rg (W (a-1)) b.length) (ck (rg a b.length) (ck (rg a b.length) (ck (rg (W (a-1)) (((zt b a (gt b (W (a-1))))).length)) ((z37 φ d) c (W (a-1)) ((zt ((zt b a (gt b (W (a-1))))) (W (a-1)) (gt b a)))))))) else(some b))
def z1m(φ:Nat):Nat->Int->(z6->z6->Option Int)->Int->Int->(List z6)->Option (List z6)
 |0,_,_,_,_,_=>none
 |f+1,d,e,a,c,b=>(if(decide (a<c))=true then(if 0<=(1:Int) then(ck (rg d b.length) (ck (rg ((W ((((U ((W (a+c)))):Int).fdiv (2 ^ (min (1:Int).toNat 64)))))) b.length) ((e (gt b d) (((gt b ((W ((((U ((W (a+c)))):Int).fdiv (2 ^ (min (1:Int).toNat 64)))))))))).bind λg=>(if(!(decide (g<0)))=true then((z1m φ f) d e ((W ((W ((((U ((W (a+c)))):Int).fdiv (2 ^ (min (1:Int).toNat 64)))))+1))) c b) else((z1m φ f) d e a ((W ((((U ((W (a+c)))):Int).fdiv (2 ^ (min (1:Int).toNat 64)))))) b))))) else none) else(z37 φ φ a d b))
def z3b(φ:Nat)(e :((List z6)->Int->Int->Int->(z6->z6->Option Int)->Option (List z6)))(b:Int)(f :(z6->z6->Option Int))(c a:Int)(d :(List z6)):Option (List z6):=(if((decide (c<a))&&(decide (a<b)))=true then((e d c a b f).bind λg=>(some g)) else(some d))
def z3a(φ:Nat)(b :((List z6)->Int->Int->Int->(z6->z6->Option Int)->Option (List z6)))(e f:Int)(c :(z6->z6->Option Int))(a d g:Int)(h :(List z6)):Option (List z6):=(if((decide (e<d))&&(decide (d<a)))=true then((b h e d a c).bind λi=>(z3b φ b f c a g i)) else(z3b φ b f c a g h))
def z1n(φ:Nat)(g :((List z6)->Int->Int->Int->(z6->z6->Option Int)->Option (List z6))):Nat->Int->Int->Int->(z6->z6->Option Int)->Int->Int->Int->Int->Int->(List z6)->Option (List z6)
 |0,_,_,_,_,_,_,_,_,_,_=>none
 |l+1,h,f,i,d,j,e,a,b,k,c=>(if(decide (a<b))=true then(if 0<=(1:Int) then(ck (rg ((W (k-(W ((((U ((W (a+b)))):Int).fdiv (2 ^ (min (1:Int).toNat 64)))))))) c.length) (ck (rg ((W ((((U ((W (a+b)))):Int).fdiv (2 ^ (min (1:Int).toNat 64)))))) c.length) ((d (((gt c ((W (k-(W ((((U ((W (a+b)))):Int).fdiv (2 ^ (min (1:Int).toNat 64))))))))))) (((gt c ((W ((((U ((W (a+b)))):Int).fdiv (2 ^ (min (1:Int).toNat 64)))))))))).bind λm=>(if(!(decide (m<0)))=true then((z1n φ g l) h f i d j e ((W ((W ((((U ((W (a+b)))):Int).fdiv (2 ^ (min (1:Int).toNat 64)))))+1))) b k c) else((z1n φ g l) h f i d j e a ((W ((((U ((W (a+b)))):Int).fdiv (2 ^ (min (1:Int).toNat 64)))))) k c))))) else none) else(if((decide (a<f))&&(decide (f<(W (e-a)))))=true then((za9 φ c a f (W (e-a)) d).bind λn=>(z3a φ g h i d j a (W (e-a)) n)) else(z3a φ g h i d j a (W (e-a)) c)))
def z38(φ:Nat)(b :((List z6)->Int->Int->Int->(z6->z6->Option Int)->Option (List z6)))(c d e:Int)(f :(z6->z6->Option Int))(g a h i:Int)(j :(List z6)):Option (List z6):=(z1n φ b φ c d e f g a h i (W (a-1)) j)
def z03(φ:Nat):Nat->(List z6)->Int->Int->Int->(z6->z6->Option Int)->Option (List z6)
 |0,_,_,_,_,_=>none
 |d+1,e,a,b,c,f=>(if(((W (b-a)):Int)==1)=true then(z1l φ φ a f b c e) else(if(((W (c-b)):Int)==1)=true then(z1m φ φ b f a b e) else(if 0<=(1:Int) then(if(decide (((W ((((U ((W (a+c)))):Int).fdiv (2 ^ (min (1:Int).toNat 64))))):Int)<b))=true then(z38 φ (z03 φ d) a b c f ((W ((((U ((W (a+c)))):Int).fdiv (2 ^ (min (1:Int).toNat 64)))))) ((W ((W ((((U ((W (a+c)))):Int).fdiv (2 ^ (min (1:Int).toNat 64)))))+b))) ((W ((W ((W ((((U ((W (a+c)))):Int).fdiv (2 ^ (min (1:Int).toNat 64)))))+b))-c))) ((W ((((U ((W (a+c)))):Int).fdiv (2 ^ (min (1:Int).toNat 64)))))) e) else(z38 φ (z03 φ d) a b c f ((W ((((U ((W (a+c)))):Int).fdiv (2 ^ (min (1:Int).toNat 64)))))) ((W ((W ((((U ((W (a+c)))):Int).fdiv (2 ^ (min (1:Int).toNat 64)))))+b))) a b e)) else none)))
def z2d(φ d:Nat):Msp TV:=⟨76,53,[.val 0,.val 0,.val 0,.cmp 53],λl z=>z03 φ d l z.1 z.2.1 z.2.2.1 z.2.2.2.1⟩
def z43(φ:Nat)(f :(Int->(z6->z6->Option Int)->Int->(List z6)->Option (List z6))):Nat->Int->(z6->z6->Option Int)->Int->Int->Int->(List z6)->Option (List z6)
 |0,_,_,_,_,_,_=>none
 |h+1,b,c,a,d,e,g=>(if(decide (e<=b))=true then((z03 φ φ g d (W (d+a)) e c).bind λi=>((z43 φ f h) b c a e ((W (e+(W (2*a))))) i)) else(if(decide (((W (d+a)):Int)<b))=true then((z03 φ φ g d (W (d+a)) b c).bind λj=>(f b c (W (a*2)) j)) else(f b c (W (a*2)) g)))
def z42(φ:Nat):Nat->Int->(z6->z6->Option Int)->Int->(List z6)->Option (List z6)
 |0,_,_,_,_=>none
 |d+1,b,e,a,c=>(if(decide (a<b))=true then(z43 φ (z42 φ d) φ b e a 0 (W (2*a)) c) else(some c))
def z41(φ:Nat):Nat->Int->(z6->z6->Option Int)->Int->Int->Int->(List z6)->Option (List z6)
 |0,_,_,_,_,_,_=>none
 |g+1,a,b,d,e,c,f=>(if(decide (c<=a))=true then((z2x φ f e c b).bind λh=>((z41 φ g) a b d c (W (c+d)) h)) else((z2x φ f e a b).bind λi=>(z42 φ φ a b d i)))
def zaa(φ:Nat)(a :(List z6))(b:Int)(c :(z6->z6->Option Int)):Option (List z6):=(z41 φ φ b c 20 0 20 a)
def z4m(φ:Nat):Msp TV:=⟨76,53,[.val 0,.cmp 53],λl z=>zaa φ l z.1 z.2.1⟩
def z0p(φ:Nat)(a :(List z6))(b :(z6->z6->Option Int)):Option (List z6):=((zaa φ a (a.length:Int) b).bind λc=>(some c))
def z1h(φ:Nat):Msp TV:=⟨76,53,[.cmp 53],λl z=>z0p φ l z.1⟩
def z2e(φ:Nat)(b a:Int):Option (Int×Unit):=(if(b !=b)=true then(if(a !=a)=true then(some (0,())) else(some ((-1),()))) else(if(a !=a)=true then(some (1,())) else(if(decide (b<a))=true then(some ((-1),())) else(if(decide (a<b))=true then(some (1,())) else(some (0,()))))))
def z5a(φ:Nat):Fsp TV:=⟨[0,0],[.val 0],kk2 (z2e φ)⟩
def z62(φ:Nat):Nat->Int->(List Int)->Int->Int->Option (Int×Unit)
 |0,_,_,_,_=>none
 |e+1,c,b,d,a=>(if(decide (a<d))=true then(ck (rg a b.length) (if(((gt b a):Int) !=c)=true then(some ((gt b a),())) else((z62 φ e) c b d (W (a+1))))) else(some (c,())))
def zil(φ:Nat)(a :(List Int)):Option (Int×Unit):=(z62 φ φ 0 a (a.length:Int) 0)
def zgu(φ:Nat):Fsp TV:=⟨[24],[.val 0],λz=>zil φ z.1⟩
def z4e(φ:Nat)(a b:z6):Option (Int×Unit):=((z2e φ a.item.from_ b.item.from_).bind λc=>((z2e φ a.ref.railway b.ref.railway).bind λd=>((z2e φ a.ref.no b.ref.no).bind λe=>((zil φ ([c.1,d.1,e.1])).bind λf=>(some (f.1,()))))))
def z6g(φ:Nat):Fsp TV:=⟨[53,53],[.val 0],kk2 (z4e φ)⟩
def z4p(φ:Nat):Nat->Int->Int->Int->(List z17)->(List z6)->Option ((List z17)×Unit)
 |0,_,_,_,_,_=>none
 |f+1,d,e,a,c,b=>(if(decide (a<e))=true then(ck (rg a b.length) (if(((((gt b a).item).kind:Int)==15)&&(decide (d<=((gt b a).item).to)))=true then(ck (fits (c.length+([(⟨((gt b a).item).number,((gt b a).item).class_,((gt b a).item).place,((gt b a).item).from_,((gt b a).item).to,((gt b a).item).weight,((gt b a).item).amount⟩:z17)]).length) 56) ((z4p φ f) d e (W (a+1)) ((c++[(⟨((gt b a).item).number,((gt b a).item).class_,((gt b a).item).place,((gt b a).item).from_,((gt b a).item).to,((gt b a).item).weight,((gt b a).item).amount⟩:z17)])) b)) else((z4p φ f) d e (W (a+1)) c b))) else(some (c,())))
def zd1(φ:Nat)(d :(List z6))(e:Int):Option ((List z17)×Unit):=((zct φ d).bind λf=>((z0p φ f.1 (λa b=>(z4e φ a b).bind λr=>(some r.1))).bind λc=>(z4p φ φ e (c.length:Int) 0 ([]:List z17) c)))
def z9t(φ:Nat):Fsp TV:=⟨[54,0],[.val 37],kk2 (zd1 φ)⟩
def z3o(φ:Nat)(g h i j k:Int)(o :(List Int))(l:Int)(p :(List Int))(b m :(List zb))(c :(List Int))(d :(List Arc))(e :(List Int))(f :(List Arc)):Option (Bool×Unit):=(ck (((((((g !=0)||(h !=0))||(i !=0))||(j !=0))||(((b.length:Int):Int) !=1))=false)->rg 0 b.length) (if(((((((((g !=0)||(h !=0))||(i !=0))||(j !=0))||(((b.length:Int):Int) !=1))||(!((((gt b 0).supply:Int)==0)&&((((gt b 0).order:Int)==0)&&((((gt b 0).count:Int)==2)&&true)))))||(k !=1090))||(((m.length:Int):Int) !=0))||(l !=120))=true then(some (false,())) else((zd1 φ ([(⟨(⟨0,0⟩:Ref),(⟨0,0⟩:Ref),0,(⟨15,(⟨0,0⟩:Ref),0,0,0,1,0,300,0,0,0,2,0,(⟨#[]⟩:ByteArray),([]:List Part)⟩:Item)⟩:z6)]) 300).bind λa=>(ck (((((((((c.length:Int):Int)==4)&&(((d.length:Int):Int)==4))&&(((e.length:Int):Int)==4))&&(((f.length:Int):Int)==3))&&(((a.1.length:Int):Int)==1))=true)->rg 0 a.1.length) (ck ((((((((((c.length:Int):Int)==4)&&(((d.length:Int):Int)==4))&&(((e.length:Int):Int)==4))&&(((f.length:Int):Int)==3))&&(((a.1.length:Int):Int)==1))&&(((gt a.1 0).count:Int)==2))=true)->rg 0 a.1.length) (if(((((((((c.length:Int):Int)==4)&&(((d.length:Int):Int)==4))&&(((e.length:Int):Int)==4))&&(((f.length:Int):Int)==3))&&(((a.1.length:Int):Int)==1))&&(((gt a.1 0).count:Int)==2))&&(((gt a.1 0).type_:Int)==1))=true then((zd1 φ ([(⟨(⟨0,0⟩:Ref),(⟨0,0⟩:Ref),0,(⟨15,(⟨0,0⟩:Ref),0,0,0,1,0,300,0,0,0,2,0,(⟨#[]⟩:ByteArray),([]:List Part)⟩:Item)⟩:z6)]) 301).bind λn=>(some ((((n.1.length:Int):Int)==0),()))) else(some (false,()))))))))
def z54(φ:Nat)(a b c d:Int)(e :(List Int))(f:Int)(g m :(List Int))(h :(List Arc))(i j :(List zb))(k :(List Int))(l :(List Arc)):Option (Bool×Unit):=(if(decide ((2048:Int)<(h.length:Int)))=true then(z3o φ a b c 2 d e f g i j k l ([]:List Int) ([]:List Arc)) else(z3o φ a b c 0 d e f g i j k l m h))
def z7o(φ:Nat)(u :(Int->Int->Int->Int->Int->Int->Int->Pool->(List zf)->Int->(List Int)->Int->(List Int)->(List z17)->(List Int)->(List Arc)->(List zb)->(List zb)->(List Int)->(List Arc)->Option (Bool×Unit))):Nat->Int->Int->Int->Int->Int->Int->Int->Int->Int->Int->Pool->zf->(List zf)->(List z17)->Int->(List Int)->Int->(List Int)->(List Int)->(List Arc)->(List zb)->(List zb)->(List Int)->(List Arc)->Option (Bool×Unit)
 |0,_,_,_,_,_,_,_,_,_,_,_,_,_,_,_,_,_,_,_,_,_,_,_,_=>none
 |A+1,v,w,e,x,y,z,a,g,h,i,j,c,d,b,k,l,m,n,o,f,p,q,r,s=>(if(decide (a<z))=true then(ck (rg a b.length) ((z5e φ j c (gt b a)).bind λt=>(if t.2.1=true then(ck (fits (f.length+([(⟨e,W ((d.length:Int)+a),min2 c.count ((gt b a).count),t.1⟩:Arc)]).length) 32) (if(!true)=true then(z54 φ g h i k l m n o ((f++[(⟨e,W ((d.length:Int)+a),min2 c.count ((gt b a).count),t.1⟩:Arc)])) p q r s) else((z7o φ u A) v w e x y z (W (a+1)) g h i j c d b k l m n o ((f++[(⟨e,W ((d.length:Int)+a),min2 c.count ((gt b a).count),t.1⟩:Arc)])) p q r s))) else((z7o φ u A) v w e x y z (W (a+1)) g h i j c d b k l m n o f p q r s)))) else(u v w x (W (y+1)) g h i j d k l m n b o f p q r s))
def zbi(φ:Nat):Nat->Int->Int->Int->Int->Int->Int->Int->(List zf)->Int->(List Int)->Int->(List Int)->(List Int)->(List Arc)->(List zb)->(List zb)->(List Int)->(List Arc)->Option (Bool×Unit)
 |0,_,_,_,_,_,_,_,_,_,_,_,_,_,_,_,_,_,_=>none
 |s+1,b,e,r,a,f,g,h,c,i,j,k,l,m,d,n,o,p,q=>(if(decide (a<r))=true then(ck (rg a c.length) (ck (fits (d.length+([(⟨a,W (b+1),(gt c a).count,0⟩:Arc)]).length) 32) (if(!true)=true then(z54 φ f g h i j k l m (d++[(⟨a,W (b+1),(gt c a).count,0⟩:Arc)]) n o p q) else((zbi φ s) b e r (W (a+1)) f g h c i j k l m (d++[(⟨a,W (b+1),(gt c a).count,0⟩:Arc)]) n o p q)))) else(ck (fits (d.length+([(⟨b,W (b+1),e,0⟩:Arc)]).length) 32) (z54 φ f g h i j k l m (d++[(⟨b,W (b+1),e,0⟩:Arc)]) n o p q)))
def zbh(φ:Nat):Nat->Int->Int->Int->Int->Int->Int->Int->(List z17)->Int->(List Int)->Int->(List Int)->(List zf)->(List Int)->(List Arc)->(List zb)->(List zb)->(List Int)->(List Arc)->Option (Bool×Unit)
 |0,_,_,_,_,_,_,_,_,_,_,_,_,_,_,_,_,_,_,_=>none
 |t+1,d,r,s,a,f,g,h,b,i,j,k,l,c,m,e,n,o,p,q=>(if(decide (a<s))=true then(ck (rg a b.length) (ck (fits (e.length+([(⟨d,W ((c.length:Int)+a),(gt b a).count,(gt b a).weight⟩:Arc)]).length) 32) (if(!true)=true then(z54 φ f g h i j k l m ((e++[(⟨d,W ((c.length:Int)+a),(gt b a).count,(gt b a).weight⟩:Arc)])) n o p q) else((zbh φ t) d (W (r+(gt b a).count)) s (W (a+1)) f g h b i j k l c m ((e++[(⟨d,W ((c.length:Int)+a),(gt b a).count,(gt b a).weight⟩:Arc)])) n o p q)))) else(zbi φ φ d r (c.length:Int) 0 f g h c i j k l m e n o p q))
def zbg(φ:Nat):Nat->Int->Int->Int->Int->Int->Int->Int->Pool->(List zf)->Int->(List Int)->Int->(List Int)->(List z17)->(List Int)->(List Arc)->(List zb)->(List zb)->(List Int)->(List Arc)->Option (Bool×Unit)
 |0,_,_,_,_,_,_,_,_,_,_,_,_,_,_,_,_,_,_,_,_=>none
 |t+1,d,e,f,a,g,h,i,u,b,j,k,l,m,c,n,o,p,q,r,s=>(if(decide (a<f))=true then(ck (rg a b.length) (z7o φ (zbg φ t) φ d e a f a (c.length:Int) 0 g h i u (gt b a) b c j k l m n o p q r s)) else(zbh φ φ d e (c.length:Int) 0 g h i c j k l m b n o p q r s))
def zdc(φ:Nat):Nat->Int->Int->Int->Int->Int->Int->Int->(List zf)->(List z17)->Pool->Int->(List Int)->Int->(List Int)->(List Int)->(List Arc)->(List zb)->(List zb)->(List Int)->(List Arc)->Option (Bool×Unit)
 |0,_,_,_,_,_,_,_,_,_,_,_,_,_,_,_,_,_,_,_,_=>none
 |u+1,d,e,s,b,f,g,h,i,a,r,j,k,l,m,c,t,n,o,p,q=>(if(decide (b<s))=true then(ck (rg b a.length) ((z5d φ r (gt a b)).bind λv=>(if(!v.1)=true then(z3o φ f g h 1 j k l m n o p q ([]:List Int) ([]:List Arc)) else(ck (fits (c.length+([(W (0-(gt a b).count))]).length) 8) ((zdc φ u) d (W (e+(gt a b).count)) s (W (b+1)) f g h i a r j k l m ((c++[(W (0-(gt a b).count))])) t n o p q))))) else(ck (fits (c.length+([e,(W (0-d))]).length) 8) (if(decide ((256:Int)<((c++[e,(W (0-d))]).length:Int)))=true then(z3o φ f g h 2 j k l m n o p q ([]:List Int) ([]:List Arc)) else(zbg φ φ (W ((i.length:Int)+(a.length:Int))) 0 (i.length:Int) 0 f g h r i j k l m a (c++[e,(W (0-d))]) t n o p q))))
def zdb(φ:Nat):Nat->Int->Int->Int->Int->Int->Int->Int->(List zf)->(List z17)->Pool->Int->(List Int)->Int->(List Int)->(List Int)->(List Arc)->(List zb)->(List zb)->(List Int)->(List Arc)->Option (Bool×Unit)
 |0,_,_,_,_,_,_,_,_,_,_,_,_,_,_,_,_,_,_,_,_=>none
 |u+1,q,r,s,a,c,d,e,b,f,g,h,i,j,k,l,t,m,n,o,p=>(if(decide (a<s))=true then(ck (rg a b.length) ((z4f φ g (gt b a)).bind λv=>(if(!v.1)=true then(z3o φ c d e 1 h i j k m n o p ([]:List Int) ([]:List Arc)) else(ck (fits (l.length+([(gt b a).count]).length) 8) ((zdb φ u) (W (q+(gt b a).count)) r s (W (a+1)) c d e b f g h i j k (l++[(gt b a).count]) t m n o p))))) else(zdc φ φ q r (f.length:Int) 0 c d e b f g h i j k l t m n o p))
def z3n(φ:Nat)(b c d:Int)(e :(List zf))(a :(List z17))(f:Int)(g :(List Int))(h:Int)(i :(List Int))(j k :(List zb))(l :(List Int))(m :(List Arc)):Option (Bool×Unit):=(ck (rg 0 a.length) ((zan φ).bind λn=>((z0u φ n.1).bind λo=>(if(o.1 !=0)=true then(z3o φ b c d o.1 f g h i j k l m ([]:List Int) ([]:List Arc)) else(zdb φ φ 0 0 (e.length:Int) 0 b c d e (zt a 0 (⟨(gt a 0).type_,3,(gt a 0).place,(gt a 0).from_,(gt a 0).to,(gt a 0).count,(gt a 0).weight⟩:z17)) n.1 f g h i ([]:List Int) ([]:List Arc) j k l m)))))
def z56(φ:Nat)(a b:Int)(c :(List zf))(d :(List z17))(e:Int)(f :(List Int))(g:Int)(h l :(List Int))(i :(List Arc))(j k :(List zb)):Option (Bool×Unit):=(if(decide ((2048:Int)<(i.length:Int)))=true then(z3n φ a b 2 c d e f g h j k ([]:List Int) ([]:List Arc)) else(z3n φ a b 0 c d e f g h j k l i))
def z7p(φ:Nat)(r :(Int->Int->Int->Int->Int->Int->Pool->(List zf)->(List z17)->Int->(List Int)->Int->(List Int)->(List Int)->(List Arc)->(List zb)->(List zb)->Option (Bool×Unit))):Nat->Int->Int->Int->Int->Int->Int->Int->Int->Int->Pool->zf->(List zf)->(List z17)->Int->(List Int)->Int->(List Int)->(List Int)->(List Arc)->(List zb)->(List zb)->Option (Bool×Unit)
 |0,_,_,_,_,_,_,_,_,_,_,_,_,_,_,_,_,_,_,_,_,_=>none
 |x+1,s,t,e,u,v,w,a,g,h,i,d,c,b,j,k,l,m,n,f,o,p=>(if(decide (a<w))=true then(ck (rg a b.length) ((z5e φ i d (gt b a)).bind λq=>(if q.2.1=true then(ck (fits (f.length+([(⟨e,W ((c.length:Int)+a),min2 d.count ((gt b a).count),q.1⟩:Arc)]).length) 32) (if(!true)=true then(z56 φ g h c b j k l m n ((f++[(⟨e,W ((c.length:Int)+a),min2 d.count ((gt b a).count),q.1⟩:Arc)])) o p) else((z7p φ r x) s t e u v w (W (a+1)) g h i d c b j k l m n ((f++[(⟨e,W ((c.length:Int)+a),min2 d.count ((gt b a).count),q.1⟩:Arc)])) o p))) else((z7p φ r x) s t e u v w (W (a+1)) g h i d c b j k l m n f o p)))) else(r s t u (W (v+1)) g h i c b j k l m n f o p))
def zbn(φ:Nat):Nat->Int->Int->Int->Int->Int->Int->(List zf)->(List z17)->Int->(List Int)->Int->(List Int)->(List Int)->(List Arc)->(List zb)->(List zb)->Option (Bool×Unit)
 |0,_,_,_,_,_,_,_,_,_,_,_,_,_,_,_,_=>none
 |q+1,b,e,p,a,f,g,c,h,i,j,k,l,m,d,n,o=>(if(decide (a<p))=true then(ck (rg a c.length) (ck (fits (d.length+([(⟨a,W (b+1),(gt c a).count,0⟩:Arc)]).length) 32) (if(!true)=true then(z56 φ f g c h i j k l m (d++[(⟨a,W (b+1),(gt c a).count,0⟩:Arc)]) n o) else((zbn φ q) b e p (W (a+1)) f g c h i j k l m (d++[(⟨a,W (b+1),(gt c a).count,0⟩:Arc)]) n o)))) else(ck (fits (d.length+([(⟨b,W (b+1),e,0⟩:Arc)]).length) 32) (z56 φ f g c h i j k l m (d++[(⟨b,W (b+1),e,0⟩:Arc)]) n o)))
def zbm(φ:Nat):Nat->Int->Int->Int->Int->Int->Int->(List z17)->(List zf)->Int->(List Int)->Int->(List Int)->(List Int)->(List Arc)->(List zb)->(List zb)->Option (Bool×Unit)
 |0,_,_,_,_,_,_,_,_,_,_,_,_,_,_,_,_=>none
 |q+1,d,o,p,a,f,g,b,c,h,i,j,k,l,e,m,n=>(if(decide (a<p))=true then(ck (rg a b.length) (ck (fits (e.length+([(⟨d,W ((c.length:Int)+a),(gt b a).count,(gt b a).weight⟩:Arc)]).length) 32) (if(!true)=true then(z56 φ f g c b h i j k l ((e++[(⟨d,W ((c.length:Int)+a),(gt b a).count,(gt b a).weight⟩:Arc)])) m n) else((zbm φ q) d (W (o+(gt b a).count)) p (W (a+1)) f g b c h i j k l ((e++[(⟨d,W ((c.length:Int)+a),(gt b a).count,(gt b a).weight⟩:Arc)])) m n)))) else(zbn φ φ d o (c.length:Int) 0 f g c b h i j k l e m n))
def zbl(φ:Nat):Nat->Int->Int->Int->Int->Int->Int->Pool->(List zf)->(List z17)->Int->(List Int)->Int->(List Int)->(List Int)->(List Arc)->(List zb)->(List zb)->Option (Bool×Unit)
 |0,_,_,_,_,_,_,_,_,_,_,_,_,_,_,_,_,_=>none
 |q+1,d,e,f,a,g,h,r,b,c,i,j,k,l,m,n,o,p=>(if(decide (a<f))=true then(ck (rg a b.length) (z7p φ (zbl φ q) φ d e a f a (c.length:Int) 0 g h r (gt b a) b c i j k l m n o p)) else(zbm φ φ d e (c.length:Int) 0 g h c b i j k l m n o p))
def zbk(φ:Nat):Nat->Int->Int->Int->Int->Int->Int->(List zf)->(List z17)->Pool->Int->(List Int)->Int->(List Int)->(List Int)->(List Arc)->(List zb)->(List zb)->Option (Bool×Unit)
 |0,_,_,_,_,_,_,_,_,_,_,_,_,_,_,_,_,_=>none
 |r+1,e,f,p,b,g,h,c,a,o,i,j,k,l,d,q,m,n=>(if(decide (b<p))=true then(ck (rg b a.length) ((z5d φ o (gt a b)).bind λs=>(if(!s.1)=true then(z3n φ g h 1 c a i j k l m n ([]:List Int) ([]:List Arc)) else(ck (fits (d.length+([(W (0-(gt a b).count))]).length) 8) ((zbk φ r) e (W (f+(gt a b).count)) p (W (b+1)) g h c a o i j k l ((d++[(W (0-(gt a b).count))])) q m n))))) else(ck (fits (d.length+([f,(W (0-e))]).length) 8) (if(decide ((256:Int)<((d++[f,(W (0-e))]).length:Int)))=true then(z3n φ g h 2 c a i j k l m n ([]:List Int) ([]:List Arc)) else(zbl φ φ (W ((c.length:Int)+(a.length:Int))) 0 (c.length:Int) 0 g h o c a i j k l (d++[f,(W (0-e))]) q m n))))
def zbj(φ:Nat):Nat->Int->Int->Int->Int->Int->Int->(List zf)->(List z17)->Pool->Int->(List Int)->Int->(List Int)->(List Int)->(List Arc)->(List zb)->(List zb)->Option (Bool×Unit)
 |0,_,_,_,_,_,_,_,_,_,_,_,_,_,_,_,_,_=>none
 |r+1,n,o,p,b,d,e,a,c,f,g,h,i,j,k,q,l,m=>(if(decide (b<p))=true then(ck (rg b a.length) ((z4f φ f (gt a b)).bind λs=>(if(!s.1)=true then(z3n φ d e 1 a c g h i j l m ([]:List Int) ([]:List Arc)) else(ck (fits (k.length+([(gt a b).count]).length) 8) ((zbj φ r) (W (n+(gt a b).count)) o p (W (b+1)) d e a c f g h i j (k++[(gt a b).count]) q l m))))) else(zbk φ φ n o (c.length:Int) 0 d e a c f g h i j k q l m))
def z9b(φ:Nat)(b c:Int)(a :(List zf))(d :(List z17))(e:Int)(f :(List Int))(g:Int)(h :(List Int))(i j :(List zb)):Option (Bool×Unit):=((zan φ).bind λk=>((z0u φ k.1).bind λl=>(if(l.1 !=0)=true then(z3n φ b c l.1 a d e f g h i j ([]:List Int) ([]:List Arc)) else(zbj φ φ 0 0 (a.length:Int) 0 b c a d k.1 e f g h ([]:List Int) ([]:List Arc) i j))))
def z7q(φ:Nat):Nat->(List Arc)->Int->Int->Int->(List zf)->(List z17)->Int->(List Int)->Flow->Int->(List Int)->(List zb)->(List zb)->Option (Bool×Unit)
 |0,_,_,_,_,_,_,_,_,_,_,_,_,_=>none
 |n+1,b,g,a,h,c,e,i,j,d,k,l,f,m=>(if(decide (a<g))=true then(ck (rg a b.length) (ck ((((decide (((gt b a).from_:Int)<(c.length:Int)))&&(decide (((gt b a).to:Int)<(W ((c.length:Int)+(e.length:Int))))))=true)->rg a d.x.length) (if(((decide (((gt b a).from_:Int)<(c.length:Int)))&&(decide (((gt b a).to:Int)<(W ((c.length:Int)+(e.length:Int))))))&&(decide ((0:Int)<(gt d.x a))))=true then(ck (rg a d.x.length) (ck (fits (f.length+([(⟨(gt b a).from_,W ((gt b a).to-(c.length:Int)),gt d.x a⟩:zb)]).length) 24) ((z7q φ n) b g (W (a+1)) h c e i j d k l ((f++[(⟨(gt b a).from_,W ((gt b a).to-(c.length:Int)),gt d.x a⟩:zb)])) m))) else((z7q φ n) b g (W (a+1)) h c e i j d k l f m)))) else(z9b φ h 0 c e k l i j m f))
def z2v(φ:Nat)(i c:Int)(d :(List zf))(e :(List z17))(m f:Int)(g :(List Int))(k :(List zb))(n j :(List Int))(b :(List Arc))(h :(List zb)):Option (Bool×Unit):=(if(i !=0)=true then(z9b φ c i d e f g 0 ([]:List Int) h ([]:List zb)) else((zkw φ (⟨j,b⟩:z0s)).bind λa=>(if(a.2.1 !=0)=true then(z9b φ c a.2.1 d e f g 0 ([]:List Int) h ([]:List zb)) else((zoh φ (⟨j,b⟩:z0s) a.1).bind λl=>(z7q φ φ b (b.length:Int) 0 c d e l.1 a.1.price a.1 f g k h)))))
def z57(φ:Nat)(a:Int)(b :(List zf))(c :(List z17))(d e:Int)(f k :(List Int))(g :(List Arc))(h :(List zb))(i :(List Int))(j :(List zb)):Option (Bool×Unit):=(if(decide ((2048:Int)<(g.length:Int)))=true then(z2v φ 2 a b c d e f h i ([]:List Int) ([]:List Arc) j) else(z2v φ 0 a b c d e f h i k g j))
def z7r(φ:Nat)(q :(Int->Int->Int->Int->Int->Pool->(List zf)->(List z17)->Int->Int->(List Int)->(List Int)->(List Arc)->(List zb)->(List Int)->(List zb)->Option (Bool×Unit))):Nat->Int->Int->Int->Int->Int->Int->Int->Int->Pool->zf->(List zf)->(List z17)->Int->Int->(List Int)->(List Int)->(List Arc)->(List zb)->(List Int)->(List zb)->Option (Bool×Unit)
 |0,_,_,_,_,_,_,_,_,_,_,_,_,_,_,_,_,_,_,_,_=>none
 |w+1,r,s,e,t,u,v,a,g,h,d,c,b,i,j,k,l,f,m,n,o=>(if(decide (a<v))=true then(ck (rg a b.length) ((z5e φ h d (gt b a)).bind λp=>(if p.2.1=true then(ck (fits (f.length+([(⟨e,W ((c.length:Int)+a),min2 d.count ((gt b a).count),p.1⟩:Arc)]).length) 32) (if(!true)=true then(z57 φ g c b i j k l ((f++[(⟨e,W ((c.length:Int)+a),min2 d.count ((gt b a).count),p.1⟩:Arc)])) m n o) else((z7r φ q w) r s e t u v (W (a+1)) g h d c b i j k l ((f++[(⟨e,W ((c.length:Int)+a),min2 d.count ((gt b a).count),p.1⟩:Arc)])) m n o))) else((z7r φ q w) r s e t u v (W (a+1)) g h d c b i j k l f m n o)))) else(q r s t (W (u+1)) g h c b i j k l f m n o))
def zbs(φ:Nat):Nat->Int->Int->Int->Int->Int->(List zf)->(List z17)->Int->Int->(List Int)->(List Int)->(List Arc)->(List zb)->(List Int)->(List zb)->Option (Bool×Unit)
 |0,_,_,_,_,_,_,_,_,_,_,_,_,_,_,_=>none
 |p+1,b,e,o,a,f,c,g,h,i,j,k,d,l,m,n=>(if(decide (a<o))=true then(ck (rg a c.length) (ck (fits (d.length+([(⟨a,W (b+1),(gt c a).count,0⟩:Arc)]).length) 32) (if(!true)=true then(z57 φ f c g h i j k (d++[(⟨a,W (b+1),(gt c a).count,0⟩:Arc)]) l m n) else((zbs φ p) b e o (W (a+1)) f c g h i j k (d++[(⟨a,W (b+1),(gt c a).count,0⟩:Arc)]) l m n)))) else(ck (fits (d.length+([(⟨b,W (b+1),e,0⟩:Arc)]).length) 32) (z57 φ f c g h i j k (d++[(⟨b,W (b+1),e,0⟩:Arc)]) l m n)))
def zbr(φ:Nat):Nat->Int->Int->Int->Int->Int->(List z17)->(List zf)->Int->Int->(List Int)->(List Int)->(List Arc)->(List zb)->(List Int)->(List zb)->Option (Bool×Unit)
 |0,_,_,_,_,_,_,_,_,_,_,_,_,_,_,_=>none
 |p+1,d,n,o,a,f,b,c,g,h,i,j,e,k,l,m=>(if(decide (a<o))=true then(ck (rg a b.length) (ck (fits (e.length+([(⟨d,W ((c.length:Int)+a),(gt b a).count,(gt b a).weight⟩:Arc)]).length) 32) (if(!true)=true then(z57 φ f c b g h i j ((e++[(⟨d,W ((c.length:Int)+a),(gt b a).count,(gt b a).weight⟩:Arc)])) k l m) else((zbr φ p) d (W (n+(gt b a).count)) o (W (a+1)) f b c g h i j ((e++[(⟨d,W ((c.length:Int)+a),(gt b a).count,(gt b a).weight⟩:Arc)])) k l m)))) else(zbs φ φ d n (c.length:Int) 0 f c b g h i j e k l m))
def zbq(φ:Nat):Nat->Int->Int->Int->Int->Int->Pool->(List zf)->(List z17)->Int->Int->(List Int)->(List Int)->(List Arc)->(List zb)->(List Int)->(List zb)->Option (Bool×Unit)
 |0,_,_,_,_,_,_,_,_,_,_,_,_,_,_,_,_=>none
 |p+1,d,e,f,a,g,q,b,c,h,i,j,k,l,m,n,o=>(if(decide (a<f))=true then(ck (rg a b.length) (z7r φ (zbq φ p) φ d e a f a (c.length:Int) 0 g q (gt b a) b c h i j k l m n o)) else(zbr φ φ d e (c.length:Int) 0 g c b h i j k l m n o))
def zbp(φ:Nat):Nat->Int->Int->Int->Int->Int->(List zf)->(List z17)->Pool->Int->Int->(List Int)->(List Int)->(List Arc)->(List zb)->(List Int)->(List zb)->Option (Bool×Unit)
 |0,_,_,_,_,_,_,_,_,_,_,_,_,_,_,_,_=>none
 |q+1,e,f,o,b,g,c,a,n,h,i,j,d,p,k,l,m=>(if(decide (b<o))=true then(ck (rg b a.length) ((z5d φ n (gt a b)).bind λr=>(if(!r.1)=true then(z2v φ 1 g c a h i j k l ([]:List Int) ([]:List Arc) m) else(ck (fits (d.length+([(W (0-(gt a b).count))]).length) 8) ((zbp φ q) e (W (f+(gt a b).count)) o (W (b+1)) g c a n h i j ((d++[(W (0-(gt a b).count))])) p k l m))))) else(ck (fits (d.length+([f,(W (0-e))]).length) 8) (if(decide ((256:Int)<((d++[f,(W (0-e))]).length:Int)))=true then(z2v φ 2 g c a h i j k l ([]:List Int) ([]:List Arc) m) else(zbq φ φ (W ((c.length:Int)+(a.length:Int))) 0 (c.length:Int) 0 g n c a h i j (d++[f,(W (0-e))]) p k l m))))
def zbo(φ:Nat):Nat->Int->Int->Int->Int->Int->(List zf)->(List z17)->Pool->Int->Int->(List Int)->(List Int)->(List Arc)->(List zb)->(List Int)->(List zb)->Option (Bool×Unit)
 |0,_,_,_,_,_,_,_,_,_,_,_,_,_,_,_,_=>none
 |q+1,m,n,o,b,d,a,c,e,f,g,h,i,p,j,k,l=>(if(decide (b<o))=true then(ck (rg b a.length) ((z4f φ e (gt a b)).bind λr=>(if(!r.1)=true then(z2v φ 1 d a c f g h j k ([]:List Int) ([]:List Arc) l) else(ck (fits (i.length+([(gt a b).count]).length) 8) ((zbo φ q) (W (m+(gt a b).count)) n o (W (b+1)) d a c e f g h (i++[(gt a b).count]) p j k l))))) else(zbp φ φ m n (c.length:Int) 0 d a c e f g h i p j k l))
def z9a(φ:Nat)(c:Int)(b :(List zf))(a :(List z17))(d:Int)(e :(List Int))(f :(List zb)):Option (Bool×Unit):=(ck (rg 0 a.length) ((zan φ).bind λg=>((z0u φ g.1).bind λh=>(if(h.1 !=0)=true then(z2v φ h.1 c b (zt a 0 (⟨(gt a 0).type_,(gt a 0).class_,(gt a 0).place,(gt a 0).from_,(gt a 0).to,(gt a 0).count,40⟩:z17)) 0 d e ([]:List zb) ([]:List Int) ([]:List Int) ([]:List Arc) f) else(zbo φ φ 0 0 (b.length:Int) 0 c b (zt a 0 (⟨(gt a 0).type_,(gt a 0).class_,(gt a 0).place,(gt a 0).from_,(gt a 0).to,(gt a 0).count,40⟩:z17)) g.1 0 d e ([]:List Int) ([]:List Arc) ([]:List zb) ([]:List Int) f)))))
def z7s(φ:Nat):Nat->(List Arc)->Int->Int->(List zf)->(List z17)->Int->(List Int)->Flow->(List zb)->Option (Bool×Unit)
 |0,_,_,_,_,_,_,_,_,_=>none
 |j+1,b,g,a,c,e,h,i,d,f=>(if(decide (a<g))=true then(ck (rg a b.length) (ck ((((decide (((gt b a).from_:Int)<(c.length:Int)))&&(decide (((gt b a).to:Int)<(W ((c.length:Int)+(e.length:Int))))))=true)->rg a d.x.length) (if(((decide (((gt b a).from_:Int)<(c.length:Int)))&&(decide (((gt b a).to:Int)<(W ((c.length:Int)+(e.length:Int))))))&&(decide ((0:Int)<(gt d.x a))))=true then(ck (rg a d.x.length) (ck (fits (f.length+([(⟨(gt b a).from_,W ((gt b a).to-(c.length:Int)),gt d.x a⟩:zb)]).length) 24) ((z7s φ j) b g (W (a+1)) c e h i d ((f++[(⟨(gt b a).from_,W ((gt b a).to-(c.length:Int)),gt d.x a⟩:zb)]))))) else((z7s φ j) b g (W (a+1)) c e h i d f)))) else(z9a φ 0 c e h i f))
def z2w(φ:Nat)(e:Int)(c :(List zf))(d :(List z17))(i:Int)(g :(List zb))(j f :(List Int))(b :(List Arc)):Option (Bool×Unit):=(if(e !=0)=true then(z9a φ e c d 0 ([]:List Int) ([]:List zb)) else((zkw φ (⟨f,b⟩:z0s)).bind λa=>(if(a.2.1 !=0)=true then(z9a φ a.2.1 c d 0 ([]:List Int) ([]:List zb)) else((zoh φ (⟨f,b⟩:z0s) a.1).bind λh=>(z7s φ φ b (b.length:Int) 0 c d h.1 a.1.price a.1 g)))))
def z58(φ:Nat)(a :(List zf))(b :(List z17))(c:Int)(g :(List Int))(d :(List Arc))(e :(List zb))(f :(List Int)):Option (Bool×Unit):=(if(decide ((2048:Int)<(d.length:Int)))=true then(z2w φ 2 a b c e f ([]:List Int) ([]:List Arc)) else(z2w φ 0 a b c e f g d))
def z7t(φ:Nat)(m :(Int->Int->Int->Int->Pool->(List zf)->(List z17)->Int->(List Int)->(List Arc)->(List zb)->(List Int)->Option (Bool×Unit))):Nat->Int->Int->Int->Int->Int->Int->Int->Pool->zf->(List zf)->(List z17)->Int->(List Int)->(List Arc)->(List zb)->(List Int)->Option (Bool×Unit)
 |0,_,_,_,_,_,_,_,_,_,_,_,_,_,_,_,_=>none
 |s+1,n,o,e,p,q,r,a,g,d,c,b,h,i,f,j,k=>(if(decide (a<r))=true then(ck (rg a b.length) ((z5e φ g d (gt b a)).bind λl=>(if l.2.1=true then(ck (fits (f.length+([(⟨e,W ((c.length:Int)+a),min2 d.count ((gt b a).count),l.1⟩:Arc)]).length) 32) (if(!true)=true then(z58 φ c b h i ((f++[(⟨e,W ((c.length:Int)+a),min2 d.count ((gt b a).count),l.1⟩:Arc)])) j k) else((z7t φ m s) n o e p q r (W (a+1)) g d c b h i ((f++[(⟨e,W ((c.length:Int)+a),min2 d.count ((gt b a).count),l.1⟩:Arc)])) j k))) else((z7t φ m s) n o e p q r (W (a+1)) g d c b h i f j k)))) else(m n o p (W (q+1)) g c b h i f j k))
def zbx(φ:Nat):Nat->Int->Int->Int->Int->(List zf)->(List z17)->Int->(List Int)->(List Arc)->(List zb)->(List Int)->Option (Bool×Unit)
 |0,_,_,_,_,_,_,_,_,_,_,_=>none
 |l+1,b,e,k,a,c,f,g,h,d,i,j=>(if(decide (a<k))=true then(ck (rg a c.length) (ck (fits (d.length+([(⟨a,W (b+1),(gt c a).count,0⟩:Arc)]).length) 32) (if(!true)=true then(z58 φ c f g h (d++[(⟨a,W (b+1),(gt c a).count,0⟩:Arc)]) i j) else((zbx φ l) b e k (W (a+1)) c f g h (d++[(⟨a,W (b+1),(gt c a).count,0⟩:Arc)]) i j)))) else(ck (fits (d.length+([(⟨b,W (b+1),e,0⟩:Arc)]).length) 32) (z58 φ c f g h (d++[(⟨b,W (b+1),e,0⟩:Arc)]) i j)))
def zbw(φ:Nat):Nat->Int->Int->Int->Int->(List z17)->(List zf)->Int->(List Int)->(List Arc)->(List zb)->(List Int)->Option (Bool×Unit)
 |0,_,_,_,_,_,_,_,_,_,_,_=>none
 |l+1,d,j,k,a,b,c,f,g,e,h,i=>(if(decide (a<k))=true then(ck (rg a b.length) (ck (fits (e.length+([(⟨d,W ((c.length:Int)+a),(gt b a).count,(gt b a).weight⟩:Arc)]).length) 32) (if(!true)=true then(z58 φ c b f g ((e++[(⟨d,W ((c.length:Int)+a),(gt b a).count,(gt b a).weight⟩:Arc)])) h i) else((zbw φ l) d (W (j+(gt b a).count)) k (W (a+1)) b c f g ((e++[(⟨d,W ((c.length:Int)+a),(gt b a).count,(gt b a).weight⟩:Arc)])) h i)))) else(zbx φ φ d j (c.length:Int) 0 c b f g e h i))
def zbv(φ:Nat):Nat->Int->Int->Int->Int->Pool->(List zf)->(List z17)->Int->(List Int)->(List Arc)->(List zb)->(List Int)->Option (Bool×Unit)
 |0,_,_,_,_,_,_,_,_,_,_,_,_=>none
 |l+1,d,e,f,a,m,b,c,g,h,i,j,k=>(if(decide (a<f))=true then(ck (rg a b.length) (z7t φ (zbv φ l) φ d e a f a (c.length:Int) 0 m (gt b a) b c g h i j k)) else(zbw φ φ d e (c.length:Int) 0 c b g h i j k))
def zbu(φ:Nat):Nat->Int->Int->Int->Int->(List zf)->(List z17)->Pool->Int->(List Int)->(List Arc)->(List zb)->(List Int)->Option (Bool×Unit)
 |0,_,_,_,_,_,_,_,_,_,_,_,_=>none
 |m+1,e,f,k,b,c,a,j,g,d,l,h,i=>(if(decide (b<k))=true then(ck (rg b a.length) ((z5d φ j (gt a b)).bind λn=>(if(!n.1)=true then(z2w φ 1 c a g h i ([]:List Int) ([]:List Arc)) else(ck (fits (d.length+([(W (0-(gt a b).count))]).length) 8) ((zbu φ m) e (W (f+(gt a b).count)) k (W (b+1)) c a j g ((d++[(W (0-(gt a b).count))])) l h i))))) else(ck (fits (d.length+([f,(W (0-e))]).length) 8) (if(decide ((256:Int)<((d++[f,(W (0-e))]).length:Int)))=true then(z2w φ 2 c a g h i ([]:List Int) ([]:List Arc)) else(zbv φ φ (W ((c.length:Int)+(a.length:Int))) 0 (c.length:Int) 0 j c a g (d++[f,(W (0-e))]) l h i))))
def zbt(φ:Nat):Nat->Int->Int->Int->Int->(List zf)->(List z17)->Pool->Int->(List Int)->(List Arc)->(List zb)->(List Int)->Option (Bool×Unit)
 |0,_,_,_,_,_,_,_,_,_,_,_,_=>none
 |m+1,i,j,k,b,a,c,d,e,f,l,g,h=>(if(decide (b<k))=true then(ck (rg b a.length) ((z4f φ d (gt a b)).bind λn=>(if(!n.1)=true then(z2w φ 1 a c e g h ([]:List Int) ([]:List Arc)) else(ck (fits (f.length+([(gt a b).count]).length) 8) ((zbt φ m) (W (i+(gt a b).count)) j k (W (b+1)) a c d e (f++[(gt a b).count]) l g h))))) else(zbu φ φ i j (c.length:Int) 0 a c d e f l g h))
def zds(φ:Nat):Option (Bool×Unit):=((zbf φ 0 0 145 45).bind λa=>((z0a (default,()) ((!a.1)=false) (zbf φ 0 0 144 (-1))).bind λb=>((z0a (default,()) (((!a.1)||(!b.1))=false) (zbf φ 1 0 145 52)).bind λc=>((z0a (default,()) ((((!a.1)||(!b.1))||(!c.1))=false) (zbf φ 0 1 145 (-1))).bind λf=>(if((((!a.1)||(!b.1))||(!c.1))||(!f.1))=true then(some (false,())) else((zan φ).bind λd=>((z0u φ d.1).bind λe=>(if(e.1 !=0)=true then(z2w φ e.1 ([(⟨0,1,0,100,2⟩:zf)]) ([(⟨0,2,1,0,500,3,1000⟩:z17)]) 0 ([]:List zb) ([]:List Int) ([]:List Int) ([]:List Arc)) else(zbt φ φ 0 0 (([(⟨0,1,0,100,2⟩:zf)]).length:Int) 0 ([(⟨0,1,0,100,2⟩:zf)]) ([(⟨0,2,1,0,500,3,1000⟩:z17)]) d.1 0 ([]:List Int) ([]:List Arc) ([]:List zb) ([]:List Int))))))))))
def zgf(φ:Nat):Fsp TV:=⟨[],[.val 2],λz=>zds φ⟩
def z2a(φ:Nat):Nat->Int->Pool->Option (Bool×Unit)
 |0,_,_=>none
 |c+1,a,b=>(if(decide (a<(b.railways.length:Int)))=true then(ck (rg a b.railways.length) (if(decide ((100:Int)<((((gt b.railways a).calendar).holidays).length:Int)))=true then(some (false,())) else((z2a φ c) (W (a+1)) b))) else(some (true,())))
def z83(φ:Nat)(a:Pool):Option (Bool×Unit):=(if(((((((decide ((16:Int)<(a.network.places.length:Int)))||(decide ((40:Int)<(a.network.edges.length:Int))))||(decide ((8:Int)<(a.fleet.wagons.length:Int))))||(decide ((8:Int)<(a.readers.length:Int))))||(decide ((100:Int)<(a.fleet.swaps.length:Int))))||(decide ((100:Int)<(a.fleet.washes.length:Int))))||(decide ((17:Int)<(a.railways.length:Int))))=true then(some (false,())) else(z2a φ φ 0 a))
def z90(φ:Nat):Fsp TV:=⟨[28],[.val 2],λz=>z83 φ z.1⟩
def z1u(φ:Nat):Nat->(List z6)->Int->Option (Bool×Unit)
 |0,_,_=>none
 |c+1,a,b=>(if(decide (b<(a.length:Int)))=true then(ck (rg b a.length) (ck (((decide ((40:Int)<((((gt a b).item).parts).length:Int)))=false)->rg b a.length) (if((decide ((40:Int)<((((gt a b).item).parts).length:Int)))||(decide ((2000:Int)<(((gt a b).item).text.size:Int))))=true then(some (false,())) else((z1u φ c) a (W (b+1)))))) else(some (true,())))
def z6k(φ:Nat)(a :(List z6))(b:Int):Option (Bool×Unit):=(if(decide (b<(a.length:Int)))=true then(some (false,())) else(z1u φ φ a 0))
def z82(φ:Nat):Fsp TV:=⟨[54,0],[.val 2],kk2 (z6k φ)⟩
def z71(φ:Nat)(a:Item):Option (Bool×Unit):=(if(((a.ref.railway:Int)==0)&&(((a.ref.no:Int)==0)&&true))=true then(some (((a.kind:Int) !=14),())) else(some (((((decide ((0:Int)<=a.ref.railway))&&(decide ((a.ref.railway:Int)<16)))&&(decide ((1:Int)<=a.ref.no)))&&(decide ((a.ref.no:Int)<=4096))),())))
def zaw(φ:Nat):Fsp TV:=⟨[52],[.val 2],λz=>z71 φ z.1⟩
def z6s(φ:Nat):Nat->(List Part)->Bool->(List Part)->Int->Int->Option (Bool×Unit)
 |0,_,_,_,_,_=>none
 |f+1,c,d,b,e,a=>(if(decide (a<e))=true then(ck (rg a b.length) (if(((((decide (((gt b a).kind:Int)<1))||(decide ((3:Int)<(gt b a).kind)))||(decide (((gt b a).serial:Int)<0)))||(decide ((1073741824:Int)<(gt b a).serial)))||((gt b a).fitted&&(!d)))=true then(some (false,())) else((z6s φ f) c d b e (W (a+1))))) else(some ((decide (((c.length:Int):Int)<=16)),())))
def zg1(φ:Nat)(a :(List Part))(b:Bool):Option (Bool×Unit):=(z6s φ φ a b a (a.length:Int) 0)
def zht(φ:Nat):Fsp TV:=⟨[51,2],[.val 2],kk2 (zg1 φ)⟩
def zj(φ:Nat)(a:zh):Option (Bool×Unit):=(some ((((((((((((((a.ok&&((a.it.wagon:Int)==0))&&((a.it.place:Int)==0))&&((a.it.other:Int)==0))&&((a.it.number:Int)==0))&&((a.it.from_:Int)==0))&&((a.it.to:Int)==0))&&((a.it.code:Int)==0))&&((a.it.dest:Int)==0))&&((a.it.class_:Int)==0))&&((a.it.weight:Int)==0))&&((a.it.amount:Int)==0))&&(a.it.text==(⟨#[]⟩:ByteArray)))&&(((a.it.parts.length:Int):Int)==0)),()))
def z6z(φ:Nat)(b:Int)(a:zh)(c:z6w):Option (Bool×Unit):=(zj φ ((⟨a.p,(⟨a.it.kind,a.it.ref,a.it.wagon,0,a.it.other,a.it.number,0,0,a.it.code,a.it.dest,a.it.class_,a.it.weight,a.it.amount,a.it.text,a.it.parts⟩:Item),(((((a.ok&&((c.kind:Int) !=0))&&((b==0)||((c.kind:Int)==b)))&&(decide (((max2 a.it.from_ 0):Int)<=a.it.to)))&&(decide ((a.it.to:Int)<=1073741824)))&&(decide ((0:Int)<=a.it.from_)))&&(decide ((a.it.from_:Int)<=1073741824))⟩:zh)))
def z64(φ:Nat)(c:Int)(a:zh)(b:z6w):Option (Bool×Unit):=(zj φ ((⟨a.p,(⟨a.it.kind,a.it.ref,a.it.wagon,0,0,a.it.number,0,a.it.to,0,a.it.dest,a.it.class_,a.it.weight,a.it.amount,a.it.text,a.it.parts⟩:Item),((((((a.ok&&((b.kind:Int) !=0))&&((c==0)||((b.kind:Int)==c)))&&(((a.it.other:Int)==b.railway)||((a.it.other:Int)==b.other)))&&(decide ((0:Int)<=a.it.from_)))&&(decide ((a.it.from_:Int)<=1073741824)))&&(decide ((0:Int)<=a.it.code)))&&(decide ((a.it.code:Int)<=8))⟩:zh)))
def z65(φ:Nat)(b:Int)(a:zh)(c:z6w):Option (Bool×Unit):=(zj φ ((⟨a.p,(⟨a.it.kind,a.it.ref,a.it.wagon,0,a.it.other,a.it.number,0,a.it.to,a.it.code,0,0,0,a.it.amount,a.it.text,a.it.parts⟩:Item),(((((((((a.ok&&((c.kind:Int) !=0))&&((b==0)||((c.kind:Int)==b)))&&(decide ((0:Int)<=a.it.dest)))&&(decide ((a.it.dest:Int)<=(W ((a.p.network.places.length:Int)-1)))))&&(decide ((0:Int)<=a.it.class_)))&&(decide ((a.it.class_:Int)<=63)))&&(decide ((0:Int)<=a.it.weight)))&&(decide ((a.it.weight:Int)<=1000000)))&&(decide ((0:Int)<=a.it.from_)))&&(decide ((a.it.from_:Int)<=1073741824))⟩:zh)))
def z68(φ:Nat)(b:Int)(a:zh)(c:z6w):Option (Bool×Unit):=(if((a.it.kind:Int)==6)=true then(zj φ ((⟨a.p,(⟨a.it.kind,a.it.ref,a.it.wagon,0,0,a.it.number,0,a.it.to,0,a.it.dest,a.it.class_,a.it.weight,a.it.amount,a.it.text,a.it.parts⟩:Item),(((((((a.ok&&((c.kind:Int) !=0))&&((b==0)||((c.kind:Int)==b)))&&(decide ((0:Int)<=a.it.other)))&&(decide ((a.it.other:Int)<=(W ((a.p.shippers.length:Int)-1)))))&&(decide ((0:Int)<=a.it.from_)))&&(decide ((a.it.from_:Int)<=1073741824)))&&(decide ((0:Int)<=a.it.code)))&&(decide ((a.it.code:Int)<=1))⟩:zh))) else(zj φ ((⟨a.p,(⟨a.it.kind,a.it.ref,a.it.wagon,0,0,a.it.number,0,a.it.to,a.it.code,a.it.dest,a.it.class_,a.it.weight,a.it.amount,a.it.text,a.it.parts⟩:Item),(((((a.ok&&((c.kind:Int) !=0))&&((b==0)||((c.kind:Int)==b)))&&(decide ((0:Int)<=a.it.other)))&&(decide ((a.it.other:Int)<=(W ((a.p.shippers.length:Int)-1)))))&&(decide ((0:Int)<=a.it.from_)))&&(decide ((a.it.from_:Int)<=1073741824))⟩:zh))))
def z67(φ:Nat)(b:Bool)(a:zh):Option (Bool×Unit):=(if b=true then(if((decide ((0:Int)<=a.it.place))&&(decide ((a.it.place:Int)<(a.p.network.places.length:Int))))=true then(ck (rg a.it.place a.p.network.places.length) (z68 φ 0 a (gt a.p.network.places a.it.place))) else(z68 φ 0 a (⟨0,0,0⟩:z6w))) else(zj φ a))
def z63(φ:Nat)(b:Int)(c:Bool)(a:zh):Option (Bool×Unit):=(if c=true then(if((decide ((0:Int)<=a.it.place))&&(decide ((a.it.place:Int)<(a.p.network.places.length:Int))))=true then(ck (rg a.it.place a.p.network.places.length) (z64 φ 3 a (gt a.p.network.places a.it.place))) else(z64 φ 3 a (⟨0,0,0⟩:z6w))) else(if(b==5)=true then(if((decide ((0:Int)<=a.it.place))&&(decide ((a.it.place:Int)<(a.p.network.places.length:Int))))=true then(ck (rg a.it.place a.p.network.places.length) (z65 φ 0 ((⟨a.p,(⟨a.it.kind,a.it.ref,a.it.wagon,a.it.place,0,0,a.it.from_,a.it.to,a.it.code,a.it.dest,a.it.class_,a.it.weight,a.it.amount,a.it.text,a.it.parts⟩:Item),(((a.ok&&(decide ((1:Int)<=a.it.number)))&&(decide ((a.it.number:Int)<=1000000000)))&&(decide ((0:Int)<=a.it.other)))&&(decide ((a.it.other:Int)<=(W ((a.p.shippers.length:Int)-1))))⟩:zh)) (gt a.p.network.places a.it.place))) else(z65 φ 0 ((⟨a.p,(⟨a.it.kind,a.it.ref,a.it.wagon,a.it.place,0,0,a.it.from_,a.it.to,a.it.code,a.it.dest,a.it.class_,a.it.weight,a.it.amount,a.it.text,a.it.parts⟩:Item),(((a.ok&&(decide ((1:Int)<=a.it.number)))&&(decide ((a.it.number:Int)<=1000000000)))&&(decide ((0:Int)<=a.it.other)))&&(decide ((a.it.other:Int)<=(W ((a.p.shippers.length:Int)-1))))⟩:zh)) (⟨0,0,0⟩:z6w))) else(if(b==6)=true then(z67 φ (b==6) a) else(z67 φ (b==7) a))))
def z69(φ:Nat)(b:Int)(a:zh)(c:z6w):Option (Bool×Unit):=((z0a (default,()) (((((((((((a.ok&&((c.kind:Int) !=0))&&((b==0)||((c.kind:Int)==b)))&&(decide (((max2 a.it.from_ 0):Int)<=a.it.to)))&&(decide ((a.it.to:Int)<=1073741824)))&&(decide ((0:Int)<=a.it.from_)))&&(decide ((a.it.from_:Int)<=1073741824)))&&(decide ((1:Int)<=a.it.code)))&&(decide ((a.it.code:Int)<=2)))&&(decide ((0:Int)<=a.it.amount)))&&(decide ((a.it.amount:Int)<=1000000000)))=true) (zg1 φ a.it.parts true)).bind λd=>(zj φ ((⟨a.p,(⟨a.it.kind,a.it.ref,a.it.wagon,0,a.it.other,a.it.number,0,0,0,a.it.dest,a.it.class_,a.it.weight,0,a.it.text,([]:List Part)⟩:Item),((((((((((a.ok&&((c.kind:Int) !=0))&&((b==0)||((c.kind:Int)==b)))&&(decide (((max2 a.it.from_ 0):Int)<=a.it.to)))&&(decide ((a.it.to:Int)<=1073741824)))&&(decide ((0:Int)<=a.it.from_)))&&(decide ((a.it.from_:Int)<=1073741824)))&&(decide ((1:Int)<=a.it.code)))&&(decide ((a.it.code:Int)<=2)))&&(decide ((0:Int)<=a.it.amount)))&&(decide ((a.it.amount:Int)<=1000000000)))&&d.1⟩:zh))))
def z6a(φ:Nat)(b:Int)(a:zh)(c:z6w):Option (Bool×Unit):=(zj φ ((⟨a.p,(⟨a.it.kind,a.it.ref,a.it.wagon,0,a.it.other,0,0,0,a.it.code,a.it.dest,0,0,0,a.it.text,a.it.parts⟩:Item),(((((((((((((a.ok&&((c.kind:Int) !=0))&&((b==0)||((c.kind:Int)==b)))&&(decide ((0:Int)<=a.it.class_)))&&(decide ((a.it.class_:Int)<=63)))&&(decide ((0:Int)<=a.it.number)))&&(decide ((a.it.number:Int)<=(W ((a.p.fleet.types.length:Int)-1)))))&&(decide ((1:Int)<=a.it.weight)))&&(decide ((a.it.weight:Int)<=1000)))&&(decide (((max2 a.it.from_ 0):Int)<=a.it.to)))&&(decide ((a.it.to:Int)<=1073741824)))&&(decide ((0:Int)<=a.it.from_)))&&(decide ((a.it.from_:Int)<=1073741824)))&&(decide ((0:Int)<=a.it.amount)))&&(decide ((a.it.amount:Int)<=1000000000))⟩:zh)))
def z3l(φ:Nat)(b:Int)(c:Bool)(a:zh):Option (Bool×Unit):=(if c=true then(if((a.it.kind:Int) !=13)=true then(zj φ ((⟨a.p,(⟨a.it.kind,a.it.ref,a.it.wagon,a.it.place,a.it.other,0,0,a.it.to,a.it.code,a.it.dest,a.it.class_,a.it.weight,a.it.amount,(⟨#[]⟩:ByteArray),a.it.parts⟩:Item),(((((a.ok&&(decide ((1:Int)<=a.it.number)))&&(decide ((a.it.number:Int)<=6)))&&(decide ((0:Int)<=a.it.from_)))&&(decide ((a.it.from_:Int)<=1073741824)))&&(decide ((1:Int)<=(a.it.text.size:Int))))&&(decide (((a.it.text.size:Int):Int)<=2000))⟩:zh))) else(zj φ ((⟨a.p,(⟨a.it.kind,a.it.ref,a.it.wagon,a.it.place,a.it.other,0,0,a.it.to,a.it.code,a.it.dest,a.it.class_,a.it.weight,a.it.amount,a.it.text,a.it.parts⟩:Item),(((a.ok&&(decide ((1:Int)<=a.it.number)))&&(decide ((a.it.number:Int)<=6)))&&(decide ((0:Int)<=a.it.from_)))&&(decide ((a.it.from_:Int)<=1073741824))⟩:zh)))) else(if(b==14)=true then(zj φ a) else(if(b==15)=true then(if((decide ((0:Int)<=a.it.place))&&(decide ((a.it.place:Int)<(a.p.network.places.length:Int))))=true then(ck (rg a.it.place a.p.network.places.length) (z6a φ 0 ((⟨a.p,(⟨a.it.kind,a.it.ref,a.it.wagon,a.it.place,0,a.it.number,a.it.from_,a.it.to,a.it.code,a.it.dest,a.it.class_,a.it.weight,a.it.amount,a.it.text,a.it.parts⟩:Item),(a.ok&&(decide ((0:Int)<=a.it.other)))&&(decide ((a.it.other:Int)<=(W ((a.p.shippers.length:Int)-1))))⟩:zh)) (gt a.p.network.places a.it.place))) else(z6a φ 0 ((⟨a.p,(⟨a.it.kind,a.it.ref,a.it.wagon,a.it.place,0,a.it.number,a.it.from_,a.it.to,a.it.code,a.it.dest,a.it.class_,a.it.weight,a.it.amount,a.it.text,a.it.parts⟩:Item),(a.ok&&(decide ((0:Int)<=a.it.other)))&&(decide ((a.it.other:Int)<=(W ((a.p.shippers.length:Int)-1))))⟩:zh)) (⟨0,0,0⟩:z6w))) else(zj φ (⟨a.p,a.it,false⟩:zh)))))
def z2q(φ:Nat)(b:Pool)(a:Item):Option (Bool×Unit):=(if(decide ((a.kind:Int)<=7))=true then(if(decide ((a.kind:Int)<1))=true then(zj φ (⟨b,a,false⟩:zh)) else(if((a.kind:Int)==1)=true then(zj φ ((⟨b,(⟨a.kind,a.ref,0,a.place,0,a.number,0,a.to,a.code,a.dest,a.class_,a.weight,a.amount,a.text,a.parts⟩:Item),(((((true&&(decide ((0:Int)<=a.wagon)))&&(decide ((a.wagon:Int)<=(W ((b.fleet.wagons.length:Int)-1)))))&&(decide ((0:Int)<=a.other)))&&(decide ((a.other:Int)<=(W ((b.readers.length:Int)-1)))))&&(decide ((0:Int)<=a.from_)))&&(decide ((a.from_:Int)<=1073741824))⟩:zh))) else(if((a.kind:Int)==2)=true then(if((decide ((0:Int)<=a.place))&&(decide ((a.place:Int)<(b.network.places.length:Int))))=true then(ck (rg a.place b.network.places.length) (z6z φ 0 ((⟨b,(⟨a.kind,a.ref,0,a.place,a.other,a.number,a.from_,a.to,a.code,a.dest,a.class_,a.weight,a.amount,a.text,a.parts⟩:Item),(true&&(decide ((0:Int)<=a.wagon)))&&(decide ((a.wagon:Int)<=(W ((b.fleet.wagons.length:Int)-1))))⟩:zh)) (gt b.network.places a.place))) else(z6z φ 0 ((⟨b,(⟨a.kind,a.ref,0,a.place,a.other,a.number,a.from_,a.to,a.code,a.dest,a.class_,a.weight,a.amount,a.text,a.parts⟩:Item),(true&&(decide ((0:Int)<=a.wagon)))&&(decide ((a.wagon:Int)<=(W ((b.fleet.wagons.length:Int)-1))))⟩:zh)) (⟨0,0,0⟩:z6w))) else(if((a.kind:Int)==3)=true then(z63 φ a.kind ((a.kind:Int)==3) ((⟨b,(⟨a.kind,a.ref,0,a.place,a.other,a.number,a.from_,a.to,a.code,a.dest,a.class_,a.weight,a.amount,a.text,a.parts⟩:Item),(true&&(decide ((0:Int)<=a.wagon)))&&(decide ((a.wagon:Int)<=(W ((b.fleet.wagons.length:Int)-1))))⟩:zh))) else(z63 φ a.kind ((a.kind:Int)==4) ((⟨b,(⟨a.kind,a.ref,0,a.place,a.other,a.number,a.from_,a.to,a.code,a.dest,a.class_,a.weight,a.amount,a.text,a.parts⟩:Item),(true&&(decide ((0:Int)<=a.wagon)))&&(decide ((a.wagon:Int)<=(W ((b.fleet.wagons.length:Int)-1))))⟩:zh))))))) else(if((a.kind:Int)==8)=true then(zj φ ((⟨b,(⟨a.kind,a.ref,0,a.place,a.other,a.number,0,a.to,0,a.dest,a.class_,a.weight,a.amount,a.text,a.parts⟩:Item),(((((true&&(decide ((0:Int)<=a.wagon)))&&(decide ((a.wagon:Int)<=(W ((b.fleet.wagons.length:Int)-1)))))&&(decide ((0:Int)<=a.from_)))&&(decide ((a.from_:Int)<=1073741824)))&&(decide ((1:Int)<=a.code)))&&(decide ((a.code:Int)<=9))⟩:zh))) else(if((a.kind:Int)==9)=true then(if((decide ((0:Int)<=a.place))&&(decide ((a.place:Int)<(b.network.places.length:Int))))=true then(ck (rg a.place b.network.places.length) (z69 φ 5 ((⟨b,(⟨a.kind,a.ref,0,a.place,a.other,a.number,a.from_,a.to,a.code,a.dest,a.class_,a.weight,a.amount,a.text,a.parts⟩:Item),(true&&(decide ((0:Int)<=a.wagon)))&&(decide ((a.wagon:Int)<=(W ((b.fleet.wagons.length:Int)-1))))⟩:zh)) (gt b.network.places a.place))) else(z69 φ 5 ((⟨b,(⟨a.kind,a.ref,0,a.place,a.other,a.number,a.from_,a.to,a.code,a.dest,a.class_,a.weight,a.amount,a.text,a.parts⟩:Item),(true&&(decide ((0:Int)<=a.wagon)))&&(decide ((a.wagon:Int)<=(W ((b.fleet.wagons.length:Int)-1))))⟩:zh)) (⟨0,0,0⟩:z6w))) else(if((a.kind:Int)==10)=true then((z0a (default,()) ((((true&&(decide ((0:Int)<=a.other)))&&(decide ((a.other:Int)<=63)))&&(decide ((0:Int)<(a.parts.length:Int))))=true) (zg1 φ a.parts false)).bind λc=>(zj φ ((⟨b,(⟨a.kind,a.ref,a.wagon,a.place,0,a.number,a.from_,a.to,a.code,a.dest,a.class_,a.weight,a.amount,a.text,([]:List Part)⟩:Item),(((true&&(decide ((0:Int)<=a.other)))&&(decide ((a.other:Int)<=63)))&&(decide ((0:Int)<(a.parts.length:Int))))&&c.1⟩:zh)))) else(if((a.kind:Int)==11)=true then(z3l φ a.kind ((a.kind:Int)==11) (⟨b,a,true⟩:zh)) else(if((a.kind:Int)==12)=true then(z3l φ a.kind ((a.kind:Int)==12) (⟨b,a,true⟩:zh)) else(z3l φ a.kind ((a.kind:Int)==13) (⟨b,a,true⟩:zh))))))))
def zg0(φ:Nat):Fsp TV:=⟨[28,52],[.val 2],kk2 (z2q φ)⟩
def zfy(φ:Nat)(a:Pool)(b:Item):Option (Int×Unit):=((z0u φ a).bind λc=>(if(c.1 !=0)=true then(some (c.1,())) else((z71 φ b).bind λd=>((z0a (default,()) ((!d.1)=false) (z2q φ a b)).bind λe=>(if((!d.1)||(!e.1))=true then(some (110,())) else(some (0,())))))))
def zea(φ:Nat):Fsp TV:=⟨[28,52],[.val 0],kk2 (zfy φ)⟩
def zcr(φ:Nat)(a b:z6):Option (Int×Unit):=((z2e φ a.ref.railway b.ref.railway).bind λc=>((z2e φ a.ref.no b.ref.no).bind λd=>((zil φ ([c.1,d.1])).bind λe=>(some (e.1,())))))
def zdg(φ:Nat):Fsp TV:=⟨[53,53],[.val 0],kk2 (zcr φ)⟩
def z3z(φ:Nat)(a b:z6):Option (Int×Unit):=((z2e φ a.item.to b.item.to).bind λc=>((zcr φ a b).bind λd=>((zil φ ([c.1,d.1])).bind λe=>(some (e.1,())))))
def z6p(φ:Nat):Fsp TV:=⟨[53,53],[.val 0],kk2 (z3z φ)⟩
def zdw(φ:Nat)(a:Part):Option (z7×Unit):=(some ((⟨a.kind,a.serial⟩:z7),()))
def zc9(φ:Nat):Fsp TV:=⟨[50],[.val 56],λz=>zdw φ z.1⟩
def z02(φ:Nat)(f :(Int->Int->(List (z7×(List (Int×Bool))))->(List z6)->Option ((List (z7×(List (Int×Bool))))×Unit))):Nat->Int->Int->(List Part)->Int->Int->(List (z7×(List (Int×Bool))))->z6->(List z6)->Option ((List (z7×(List (Int×Bool))))×Unit)
 |0,_,_,_,_,_,_,_,_=>none
 |k+1,g,h,d,i,c,b,e,j=>(if(decide (c<i))=true then(ck (rg c d.length) ((zdw φ (gt d c)).bind λa=>(if(!(gt d c).fitted)=true then(match cget z4i b a.1 with|some l=>(ck (z4i a.1=z4i a.1) ((z02 φ f k) g h d i (W (c+1)) (cset z4i b a.1 (cdel kl_0 l e.item.wagon)) e j))|none=>(ck ((cget z4i b a.1).isNone=true) ((z02 φ f k) g h d i (W (c+1)) b e j))) else(match cget z4i b a.1 with|some m=>(ck (z4i a.1=z4i a.1) (ck (z4i a.1=z4i a.1) ((z02 φ f k) g h d i (W (c+1)) (cset z4i b a.1 (cset kl_0 m e.item.wagon true)) e j)))|none=>(ck ((cget z4i b a.1).isNone=true) (ck (z4i a.1=z4i a.1) ((z02 φ f k) g h d i (W (c+1)) ((cset z4i ((cset z4i b a.1 (default :(List (Int×Bool))))) a.1 ((cset kl_0 ([] :(List (Int×Bool))) e.item.wagon true)))) e j))))))) else(f g (W (h+1)) b j))
def z0n(φ:Nat):Nat->Int->Int->(List (z7×(List (Int×Bool))))->(List z6)->Option ((List (z7×(List (Int×Bool))))×Unit)
 |0,_,_,_,_=>none
 |e+1,c,a,d,b=>(if(decide (a<c))=true then(ck (rg a b.length) (z02 φ (z0n φ e) φ c a (((gt b a).item).parts) (((((gt b a).item).parts).length:Int)) 0 d (gt b a) b)) else(some (d,())))
def z1g(φ:Nat):Nat->Int->(List z6)->Int->Int->(List z6)->Option ((List (z7×(List (Int×Bool))))×Unit)
 |0,_,_,_,_,_=>none
 |h+1,f,d,g,c,e=>(if(decide (c<g))=true then(ck (rg c d.length) (if(((((gt d c).item).kind:Int)==9)&&(decide ((((gt d c).item).to:Int)<=f)))=true then(ck (fits (e.length+([(gt d c)]).length) 192) ((z1g φ h) f d g (W (c+1)) (e++[(gt d c)]))) else((z1g φ h) f d g (W (c+1)) e))) else((z0p φ e (λa b=>(z3z φ a b).bind λr=>(some r.1))).bind λi=>(z0n φ φ (i.length:Int) 0 (([] :(List (z7×(List (Int×Bool)))))) i)))
def z3y(φ:Nat)(a :(List z6))(b:Int):Option ((List (z7×(List (Int×Bool))))×Unit):=(z1g φ φ b a (a.length:Int) 0 ([]:List z6))
def z5q(φ:Nat):Fsp TV:=⟨[54,0],[.val 58],kk2 (z3y φ)⟩
def z1f(φ:Nat)(j :(Int->(List (z7×(List (Int×Bool))))->(List z6)->Int->Int->(List Part)->Int->Int->(List (Int×Bool))->Option ((List Int)×Unit)))(k :(Int->(List (z7×(List (Int×Bool))))->(List z6)->Int->Int->(List Part)->Int->Int->(List (Int×Bool))->(List (Int×Bool))->Option ((List Int)×Unit)))(a:Int)(b :(List (z7×(List (Int×Bool)))))(c :(List z6))(d e:Int)(f :(List Part))(g h:Int)(i l :(List (Int×Bool))):Option ((List Int)×Unit):=match l with | []=>(j a b c d e f g (W (h+1)) i)|e44::r45=>(k a b c d e f g h (cset kl_0 i e44.1 e44.2) r45)
def z00(φ:Nat)(a :(Int->(List (z7×(List (Int×Bool))))->(List z6)->Int->Int->(List Part)->Int->Int->(List (Int×Bool))->Option ((List Int)×Unit))):Nat->Int->(List (z7×(List (Int×Bool))))->(List z6)->Int->Int->(List Part)->Int->Int->(List (Int×Bool))->(List (Int×Bool))->Option ((List Int)×Unit)
 |0,_,_,_,_,_,_,_,_,_,_=>none
 |b+1,c,d,e,f,g,h,i,j,k,l=>(z1f φ a (z00 φ a b) c d e f g h i j k l)
def z0r(φ:Nat)(d :(Int->(List (z7×(List (Int×Bool))))->(List z6)->Int->Int->(List (Int×Bool))->Option ((List Int)×Unit))):Nat->Int->(List (z7×(List (Int×Bool))))->(List z6)->Int->Int->(List Part)->Int->Int->(List (Int×Bool))->Option ((List Int)×Unit)
 |0,_,_,_,_,_,_,_,_,_=>none
 |k+1,e,b,f,g,h,c,i,a,j=>(if(decide (a<i))=true then(ck (rg a c.length) ((zdw φ (gt c a)).bind λl=>(z00 φ (z0r φ d k) φ e b f g h c i a j (((cget z4i b l.1).getD (default :(List (Int×Bool)))))))) else(d e b f g (W (h+1)) j))
def z0q(φ:Nat):Nat->Int->(List (z7×(List (Int×Bool))))->(List z6)->Int->Int->(List (Int×Bool))->Option ((List Int)×Unit)
 |0,_,_,_,_,_,_=>none
 |f+1,d,g,b,e,a,c=>(if(decide (a<e))=true then(ck (rg a b.length) (if(((((gt b a).item).kind:Int) !=10)||(decide (d<(gt b a).time)))=true then((z0q φ f) d g b e (W (a+1)) c) else(z0r φ (z0q φ f) φ d g b e a (((gt b a).item).parts) (((((gt b a).item).parts).length:Int)) 0 c))) else(ck (soK kl_0 c=true) (some ((List.map (λp:Int×Bool=>p.1) c),()))))
def z4g(φ:Nat)(a :(List z6))(b:Int):Option ((List Int)×Unit):=((z3y φ a b).bind λc=>(z0q φ φ b c.1 a (a.length:Int) 0 ([] :(List (Int×Bool)))))
def za4(φ:Nat):Fsp TV:=⟨[54,0],[.val 24],kk2 (z4g φ)⟩
def z1i(φ:Nat)(j :(Int->(List (z7×(List (Int×Bool))))->(List z6)->Int->Int->(List Part)->Int->Int->(List (Int×Bool))->Option ((List Int)×Unit)))(k :(Int->(List (z7×(List (Int×Bool))))->(List z6)->Int->Int->(List Part)->Int->Int->(List (Int×Bool))->(List (Int×Bool))->Option ((List Int)×Unit)))(a:Int)(b :(List (z7×(List (Int×Bool)))))(c :(List z6))(d e:Int)(f :(List Part))(g h:Int)(i l :(List (Int×Bool))):Option ((List Int)×Unit):=match l with | []=>(j a b c d e f g (W (h+1)) i)|e44::r45=>(k a b c d e f g h (cset kl_0 i e44.1 e44.2) r45)
def z08(φ:Nat)(a :(Int->(List (z7×(List (Int×Bool))))->(List z6)->Int->Int->(List Part)->Int->Int->(List (Int×Bool))->Option ((List Int)×Unit))):Nat->Int->(List (z7×(List (Int×Bool))))->(List z6)->Int->Int->(List Part)->Int->Int->(List (Int×Bool))->(List (Int×Bool))->Option ((List Int)×Unit)
 |0,_,_,_,_,_,_,_,_,_,_=>none
 |b+1,c,d,e,f,g,h,i,j,k,l=>(z1i φ a (z08 φ a b) c d e f g h i j k l)
def z5x(φ:Nat)(d :(Int->(List (z7×(List (Int×Bool))))->(List z6)->Int->Int->(List (Int×Bool))->Option ((List Int)×Unit))):Nat->Int->(List (z7×(List (Int×Bool))))->(List z6)->Int->Int->(List Part)->Int->Int->(List (Int×Bool))->Option ((List Int)×Unit)
 |0,_,_,_,_,_,_,_,_,_=>none
 |k+1,e,b,f,g,h,c,i,a,j=>(if(decide (a<i))=true then(ck (rg a c.length) ((zdw φ (gt c a)).bind λl=>(z08 φ (z5x φ d k) φ e b f g h c i a j (((cget z4i b l.1).getD (default :(List (Int×Bool)))))))) else(d e b f g (W (h+1)) j))
def z3t(φ:Nat):Nat->Int->(List (z7×(List (Int×Bool))))->(List z6)->Int->Int->(List (Int×Bool))->Option ((List Int)×Unit)
 |0,_,_,_,_,_,_=>none
 |f+1,d,g,b,e,a,c=>(if(decide (a<e))=true then(ck (rg a b.length) (if(((((gt b a).item).kind:Int) !=10)||(decide (d<(gt b a).time)))=true then((z3t φ f) d g b e (W (a+1)) c) else(z5x φ (z3t φ f) φ d g b e a (((gt b a).item).parts) (((((gt b a).item).parts).length:Int)) 0 c))) else(ck (soK kl_0 c=true) (some ((List.map (λp:Int×Bool=>p.1) c),()))))
def za3(φ:Nat)(a :(List z6))(b:Int):Option ((List Int)×Unit):=((z3y φ a b).bind λc=>(z3t φ φ b c.1 a (a.length:Int) 0 ([] :(List (Int×Bool)))))
def z85(φ:Nat):Fsp TV:=⟨[54,0],[.row 3 0],kk2 (za3 φ)⟩
def z40(φ:Nat):Nat->(List Int)->Int->Int->Int->Option (Int×Unit)
 |0,_,_,_,_=>none
 |e+1,b,c,d,a=>(if(decide (a<d))=true then(ck (rg a b.length) (if(c==(gt b a))=true then(some (a,())) else((z40 φ e) b c d (W (a+1))))) else(some ((-1),())))
def zcu(φ:Nat)(a :(List Int))(b:Int):Option (Int×Unit):=(z40 φ φ a b (a.length:Int) 0)
def zdj(φ:Nat):Fsp TV:=⟨[24,0],[.val 0],kk2 (zcu φ)⟩
def z88(φ:Nat)(a :(List Int))(b:Int):Option (Bool×Unit):=((zcu φ a b).bind λc=>(some ((decide ((0:Int)<=c.1)),())))
def z93(φ:Nat):Fsp TV:=⟨[24,0],[.val 2],kk2 (z88 φ)⟩
def zcy(φ:Nat)(a b:zf):Option (Int×Unit):=((z2e φ a.type_ b.type_).bind λc=>((z2e φ a.class_ b.class_).bind λd=>((z2e φ a.place b.place).bind λe=>((zil φ ([c.1,d.1,e.1])).bind λf=>(some (f.1,()))))))
def z9r(φ:Nat):Fsp TV:=⟨[1,1],[.val 0],kk2 (zcy φ)⟩
def z0e(φ:Nat)(c :(Int->(List zf)->(List (zc×Int))->Option ((List zf)×Int×Unit)))(a:Int)(b :(List zf))(d :(List (zc×Int))):Option ((List zf)×Int×Unit):=match d with | []=>((zln b).bind λe=>(some (e,0,())))|e54::r55=>(ck (fits (b.length+([(⟨e54.1.kind,e54.1.class_,e54.1.place,a,e54.2⟩:zf)]).length) 40) (c a (b++[(⟨e54.1.kind,e54.1.class_,e54.1.place,a,e54.2⟩:zf)]) r55))
def zq(φ:Nat):Nat->Int->(List zf)->(List (zc×Int))->Option ((List zf)×Int×Unit)
 |0,_,_,_=>none
 |a+1,b,c,d=>(z0e φ (zq φ a) b c d)
def zz(φ:Nat):Nat->Int->Pool->(List Int)->Int->Int->(List Int)->(List Bool)->(List (zc×Int))->(List Item)->Option ((List zf)×Int×Unit)
 |0,_,_,_,_,_,_,_,_,_=>none
 |j+1,g,c,h,i,a,d,e,f,b=>(if(decide (a<i))=true then(ck (rg a b.length) (ck (((((gt b a).kind:Int)==7)=true)->rg a e.length) ((z0a (default,()) (((((gt b a).kind:Int)==7)&&(!(gt e a)))=true) (z88 φ h a)).bind λk=>(if(((((gt b a).kind:Int)==7)&&(!(gt e a)))&&(!k.1))=true then(ck (rg a c.fleet.wagons.length) (ck (rg a d.length) ((zz φ j) g c h i (W (a+1)) d e ((cset zkz f (⟨(gt c.fleet.wagons a).type_,gt d a,(gt b a).place⟩:zc) ((W (((cget zkz f (⟨(gt c.fleet.wagons a).type_,gt d a,(gt b a).place⟩:zc)).getD (default:Int))+1))))) b))) else((zz φ j) g c h i (W (a+1)) d e f b))))) else(zq φ φ g ([]:List zf) f))
def z0d(φ:Nat):Nat->Int->Pool->(List Int)->Int->Int->(List Item)->(List Int)->(List Bool)->(List z6)->Option ((List zf)×Int×Unit)
 |0,_,_,_,_,_,_,_,_,_=>none
 |j+1,d,g,h,i,a,c,e,f,b=>(if(decide (a<i))=true then(ck (rg a b.length) (if(decide (d<((gt b a).item).from_))=true then((z0d φ j) d g h i (W (a+1)) c e f b) else(if(((((gt b a).item).kind:Int)==8)&&((((gt b a).item).code:Int)==9))=true then(ck (rg ((gt b a).item).wagon f.length) ((z0d φ j) d g h i (W (a+1)) c e ((zt f (((gt b a).item).wagon) true)) b)) else(if((((gt b a).item).kind:Int)==5)=true then(ck (rg ((gt b a).item).wagon e.length) (ck (rg ((gt b a).item).wagon c.length) ((z0d φ j) d g h i (W (a+1)) ((zt c (((gt b a).item).wagon) ((gt b a).item))) ((zt e (((gt b a).item).wagon) (((gt b a).item).class_))) f b))) else(if(((((gt b a).item).kind:Int)==6)||((((gt b a).item).kind:Int)==7))=true then(ck (rg ((gt b a).item).wagon c.length) ((z0d φ j) d g h i (W (a+1)) ((zt c (((gt b a).item).wagon) ((gt b a).item))) e f b)) else((z0d φ j) d g h i (W (a+1)) c e f b)))))) else(zz φ φ d g h (c.length:Int) 0 e f ([] :(List (zc×Int))) c))
def z2g(φ:Nat):Nat->Int->Pool->(List Int)->Int->Int->(List z6)->(List Item)->(List Int)->(List Bool)->Option ((List zf)×Int×Unit)
 |0,_,_,_,_,_,_,_,_,_=>none
 |j+1,d,e,f,g,a,b,h,c,i=>(if(decide (a<g))=true then(ck (rg a c.length) ((z2g φ j) d e f g (W (a+1)) b h (zt c a (-1)) i)) else(z0d φ φ d e f (b.length:Int) 0 h c i b))
def z2f(φ:Nat):Nat->Int->(List z6)->Int->Int->Pool->(List z6)->Option ((List zf)×Int×Unit)
 |0,_,_,_,_,_,_=>none
 |i+1,g,e,h,d,c,f=>(if(decide (d<h))=true then(ck (rg d e.length) ((zfy φ c ((gt e d).item)).bind λj=>(if(j.1==0)=true then(ck (fits (f.length+([(gt e d)]).length) 192) ((z2f φ i) g e h (W (d+1)) c (f++[(gt e d)]))) else((z2f φ i) g e h (W (d+1)) c f)))) else((za3 φ f g).bind λk=>((z0p φ f (λa b=>(z4e φ a b).bind λr=>(some r.1))).bind λl=>(ck (za (c.fleet.wagons.length:Int) 152) (ck (za (c.fleet.wagons.length:Int) 8) (ck (za (c.fleet.wagons.length:Int) 1) (z2g φ φ g c k.1 (((List.replicate ((c.fleet.wagons.length:Int):Int).toNat (default:Int)).length:Int)) 0 l (List.replicate ((c.fleet.wagons.length:Int):Int).toNat (default:Item)) (List.replicate ((c.fleet.wagons.length:Int):Int).toNat (default:Int)) (List.replicate ((c.fleet.wagons.length:Int):Int).toNat (default:Bool)))))))))
def z2o(φ:Nat)(b:Pool)(c :(List z6))(a:Int):Option ((List zf)×Int×Unit):=((z0u φ b).bind λd=>(if(d.1 !=0)=true then(some (([]:List zf),d.1,())) else(if((decide (a<0))||(decide ((1073741824:Int)<a)))=true then(some (([]:List zf),1,())) else(z2f φ φ a c (c.length:Int) 0 b ([]:List z6)))))
def zd0(φ:Nat):Fsp TV:=⟨[28,54,0],[.val 36,.val 0],kk3 (z2o φ)⟩
def z0m(φ:Nat)(e :((List z6)->Int->(List Int)->Int->Int->Int->Pool->Option (Bool×Unit))):Nat->(List z6)->Int->(List Int)->Int->Int->Int->(List zf)->Int->Pool->Option (Bool×Unit)
 |0,_,_,_,_,_,_,_,_,_=>none
 |k+1,f,g,a,h,i,c,d,b,j=>(if(decide (b<(a.length:Int)))=true then(ck (((((d.length:Int):Int)==1)=true)->rg b a.length) (if((((d.length:Int):Int)==1)&&(((gt a b):Int)==c))=true then(some (false,())) else((z0m φ e k) f g a h i c d (W (b+1)) j))) else(e f g a h i (W (c+1)) j))
def z21(φ:Nat)(a :((List z6)->Int->(List Int)->Int->Int->Int->Pool->Option (Bool×Unit)))(b :(List z6))(c:Int)(d :(List Int))(e f g:Int)(h :(List zf))(i:Pool):Option (Bool×Unit):=(z0m φ a φ b c d e f g h 0 i)
def z0l(φ:Nat)(g :((List z6)->Int->(List Int)->Int->Int->Int->Pool->Option (Bool×Unit))):Nat->(List z6)->Int->(List Int)->Int->Int->Int->Int->Pool->(List z6)->Option (Bool×Unit)
 |0,_,_,_,_,_,_,_,_,_=>none
 |l+1,a,c,h,i,j,d,b,e,k=>(if(decide (b<(a.length:Int)))=true then(ck (rg b a.length) (ck ((((((gt a b).item).kind:Int)==10)=false)->rg b a.length) (if(((((gt a b).item).kind:Int)==10)||((((gt a b).item).wagon:Int)==d))=true then(ck (rg b a.length) (ck (fits (k.length+([(gt a b)]).length) 192) ((z0l φ g l) a c h i j d (W (b+1)) e (k++[(gt a b)])))) else((z0l φ g l) a c h i j d (W (b+1)) e k)))) else((z2o φ e k c).bind λf=>(if((f.2.1 !=0)||(decide ((1:Int)<(f.1.length:Int))))=true then(some (false,())) else(if(((f.1.length:Int):Int)==1)=true then(z21 φ g a c h i (W (j+1)) d f.1 e) else(z21 φ g a c h i j d f.1 e)))))
def z0c(φ:Nat):Nat->(List z6)->Int->(List Int)->Int->Int->Int->Pool->Option (Bool×Unit)
 |0,_,_,_,_,_,_,_=>none
 |e+1,f,g,h,a,b,c,d=>(if(decide (c<(d.fleet.wagons.length:Int)))=true then(z0l φ (z0c φ e) φ f g h a b c 0 d ([]:List z6)) else(some ((a==b),())))
def z0k(φ:Nat):Nat->(List z6)->Int->(List zf)->(List Int)->Int->Int->Pool->Option (Bool×Unit)
 |0,_,_,_,_,_,_,_=>none
 |h+1,e,d,a,f,g,b,c=>(if(decide (b<(a.length:Int)))=true then(ck (rg b a.length) (ck (((decide (((gt a b).count:Int)<1))=false)->rg b a.length) (ck ((((decide (((gt a b).count:Int)<1))||(decide (((c.fleet.wagons.length:Int):Int)<(gt a b).count)))=false)->rg b a.length) (if(((decide (((gt a b).count:Int)<1))||(decide (((c.fleet.wagons.length:Int):Int)<(gt a b).count)))||(((gt a b).at_:Int) !=d))=true then(some (false,())) else(ck (rg b a.length) ((z0k φ h) e d a f (W (g+(gt a b).count)) (W (b+1)) c)))))) else(z0c φ φ e d f g 0 0 c))
def z0j(φ:Nat):Nat->(List z6)->Int->(List zf)->Int->Pool->(List z6)->Option (Bool×Unit)
 |0,_,_,_,_,_,_=>none
 |g+1,a,c,f,b,d,e=>(if(decide (b<(a.length:Int)))=true then(ck (rg b a.length) ((zfy φ d ((gt a b).item)).bind λh=>(if(h.1==0)=true then(ck (rg b a.length) (ck (fits (e.length+([(gt a b)]).length) 192) ((z0j φ g) a c f (W (b+1)) d (e++[(gt a b)])))) else((z0j φ g) a c f (W (b+1)) d e)))) else((z4g φ e c).bind λi=>(z0k φ φ a c f i.1 0 0 d)))
def z3w(φ:Nat)(a:Pool)(b :(List z6))(d:Int):Option (Bool×Unit):=((zds φ).bind λf=>(if(!f.1)=true then(some (false,())) else((z83 φ a).bind λe=>((z0a (default,()) ((!e.1)=false) (z6k φ b 20)).bind λg=>(if((!e.1)||(!g.1))=true then(some (true,())) else((z2o φ a b d).bind λc=>(if(c.2.1 !=0)=true then(some ((((c.1.length:Int):Int)==0),())) else(z0j φ φ b d c.1 0 a ([]:List z6)))))))))
def z49(φ:Nat):Fsp TV:=⟨[28,54,0],[.val 2],kk3 (z3w φ)⟩
end Px
end
