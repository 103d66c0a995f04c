/- A part of the proof of handoverMatches_holds. Conditions: none. -/
import Derived.Test.YteljjchaealkoaaGreatHzad
import Derived.Shelf.SlSortCmp.NoneTotal
import Derived.Shelf.Sort.Plain
import Derived.Shelf.Slices.In.SortNone
set_option linter.unusedVariables false
set_option linter.unusedSimpArgs false
section
namespace Px
open Go Go.RowKit
section cells
variable{T:Nat->Type}
end cells
section
variable(V:TE)
variable{V}
end
def insL{α:Type}(lt:α->α->Bool)(x:α):List α->List α
 | []=>[x]
 |y::l=>bif lt y x then y::insL lt x l else x::y::l
def zsi{α:Type}(lt:α->α->Bool):List α->List α
 | []=>[]
 |x::l=>insL lt x (zsi lt l)
theorem zty{α:Type}(lt:α->α->Bool)(x:α):∀l:List α,(insL lt x l).Perm (x::l)
 | []=>List.Perm.refl _
 |y::l=>by
  simp only[insL];cases lt y x with
  |true=>exact((zty lt x l).cons y).trans (List.Perm.swap x y l)
  |false=>exact List.Perm.refl _
theorem zaz{α:Type}(lt:α->α->Bool):∀l:List α,(zsi lt l).Perm l
 | []=>List.Perm.refl _
 |x::l=>(zty lt x _).trans ((zaz lt l).cons x)
theorem ztz{α:Type}{lt:α->α->Bool}(hO:Sort.SWO lt)(x:α):∀l:List α,l.Pairwise (λa b=>lt b a=false)->(insL lt x l).Pairwise λa b=>lt b a=false
 | [],_=>w2i _ _
 |y::l,h=>by
  rw[w0w] at h;simp only[insL];cases hl:lt y x with
  |true=>
   simp only[cond_true,w0w];refine⟨λz hz=>?_,ztz hO x l h.2⟩;rcases w08.1 ((zty lt x l).mem_iff.1 hz) with rfl|hz
   .cases hx:lt z y with
    |false=>rfl
    |true=>have:=hO.trans _ _ _ hl hx;rw[hO.irrefl] at this;cases this
   .exact h.1 z hz
  |false=>
   simp only[cond_false,w0w];refine⟨λz hz=>?_,h.1,h.2⟩;rcases w08.1 hz with rfl|hz
   .exact hl
   .exact hO.ntrans _ _ _ (h.1 z hz) hl
theorem zrm{α:Type}{lt:α->α->Bool}(hO:Sort.SWO lt):∀l:List α,(zsi lt l).Pairwise λa b=>lt b a=false
 | []=>List.Pairwise.nil
 |x::l=>ztz hO x _ (zrm hO l)
end Px
end
section
namespace Px
open Go Go.RowKit Go.ChangeShapes Go.WideShapes Go.ChangeAt
section
variable{T:Nat->Type}
def rT(g :(c:Nat)->T c->Prop):(fs:List Nat)->Tup T fs->Prop
 | [],_=>True
 | [c],x=>g c x.1
 |c::cs,x=>g c x.1/\rT g cs x.2
def rD(g :(c:Nat)->T c->Prop): {α:Type}->Ds T α->α->Prop
 |_,.int k,x=>RI k x
 |_,.bool,_=>True
 |_,.str,x=>x.size<=maxLen
 |_,.sl c,x=>RL (g c) x
 |_,.map _ _,_=>True
 |_,.arr n c,x=>∀i,i<n->g c (x i)
 |_,.st fs _ un _,x=>rT g fs (un x)
theorem yl0{g :(c:Nat)->T c->Prop}{c:Nat}: ∀{cs:List Nat}{x:T c×Tup T cs},g c x.1->rT g cs x.2->rT g (c::cs) x
 | [],_,h,_=>h
 |_::_,_,h,k=>⟨h,k⟩
end
section
variable(V:TE)(P:Program)
def rdN:Nat->(c:Nat)->V.T c->Prop
 |0,_,_=>True
 |n+1,c,x=>rD (rdN n) (V.d c) x
def opF(g:TypeId->Nat->Bool):List Nat->List (TypeId×Nat×Nat)->Nat->Nat->Bool
 | [],[],o,m=>Nat.beq o m
 |c::cs,(ty,off,m)::l,o,e=>Nat.beq off o&&Nat.beq m (V.sz c)&&g ty c&&opF g cs l (o+m) e
 |_,_,_,_=>false
def opD(g:TypeId->Nat->Bool): {α:Type}->Ds V.T α->TypeId->Bool
 |_,.int k,t=>match P.underlying t with|some (.int k')=>decide (k'=k)|_=>false
 |_,.bool,t=>match P.underlying t with|some .bool=>true|_=>false
 |_,.str,t=>match P.underlying t with|some .string=>true|_=>false
 |_,.sl c,t=>match P.underlying t with|some (.slice E)=>Nat.beq (P.cellsOf E) (V.sz c)&&Nat.blt 0 (V.sz c)&&g E c|_=>false
 |_,.map _ _,_=>false
 |_,.arr n c,t=>match P.underlying t with|some (.array N E)=>Nat.beq N n&&Nat.beq (P.cellsOf E) (V.sz c)&&Nat.beq (P.cellsOf t) (n*V.sz c)&&g E c|_=>false
 |_,.st fs _ _ _,t=>match y07 P t with|some l=>opF V g fs l 0 (P.cellsOf t)|none=>false
def opN:Nat->TypeId->Nat->Bool
 |0,_,_=>false
 |n+1,t,c=>opD V P (opN n) (V.d c) t
def ykd(n:Nat):List TypeId->List Nat->Bool
 | [],[]=>true
 |t::ts,c::cs=>opN V P n t c&&ykd n ts cs
 |_,_=>false
def yl1(n:Nat):(cs:List Nat)->Tup V.T cs->Prop
 | [],_=>True
 |c::cs,x=>rdN V n c x.1/\yl1 n cs x.2
variable{V P}
theorem yi3:∀(n:Nat)(t:TypeId)(c:Nat),opN V P n t c=true->Opn P t (V.sz c) (V.ev c) (rdN V n c)
 |0,_,_,h=>by cases h
 |n+1,t,c,h=>by
  have ih:=yi3 n;have hev:V.ev c=evD V.ev (V.mv V.ev) V.sz (V.d c):=funext λx=>V.ev_eq c x
  have hr:rdN V (n+1) c=rD (rdN V n) (V.d c):=rfl;rw[hev,V.sz_eq,hr];change opD V P (opN V P n) (V.d c) t=true at h;revert h;clear hev hr;generalize V.d c=d;revert d;generalize V.T c=α;intro d h;cases d with
  |int k=>
   simp only[opD] at h;split at h
   .rename_i k' hu;simp only[decide_eq_true_eq] at h;subst h;exact Opn.int hu
   .cases h
  |bool=>
   simp only[opD] at h;split at h
   .rename_i hu;exact Opn.bool hu
   .cases h
  |str=>
   simp only[opD] at h;split at h
   .rename_i hu;exact Opn.string hu
   .cases h
  |sl c'=>
   simp only[opD] at h;split at h
   .rename_i E hu;simp only[w04,w21] at h;obtain⟨⟨h1,h2⟩,h3⟩:=h;exact Opn.slice hu (w02 h1) h2 (ih E c' h3)
   .cases h
  |map kc vc=>simp[opD] at h
  |arr m c'=>
   simp only[opD] at h;split at h
   .rename_i N E hu;simp only[w04] at h;obtain⟨⟨⟨h1,h2⟩,h3⟩,h4⟩:=h;have h1:=w02 h1;subst h1;have:Inhabited (V.T c'):=⟨V.z c'⟩;exact Opn.array hu (w02 h2) (w02 h3) rfl (ih E c' h4)
   .cases h
  |st fs mk un law=>
   simp only[opD] at h;split at h
   .rename_i l hl;intro H enc w sp held fuel cs x hx;obtain⟨hlen,m,hf⟩:=y62 hl hx;have key:∀(fs:List Nat)(l':List (TypeId×Nat×Nat))(o:Nat),opF V (opN V P n) fs l' o (P.cellsOf t)=true->(∀(i:Nat)(ty:TypeId)(off m':Nat),l'[i]? = some (ty,off,m')->∃y,DataW.trod enc P w 0 sp held m ty ((cs.drop off).take m')=some y)->
      o+fs.foldr (λc s=>V.sz c+s) 0=P.cellsOf t/\∃y:Tup V.T fs,rT (rdN V n) fs y/\ze (λb=>b<w.heap.size) w (evT V.ev fs y) (cs.drop o):=by
     intro fs
     induction fs with
     |nil=>
      intro l' o h hf;cases l' with
      |nil=>have:=w02 h;subst this;exact⟨rfl,(),trivial,ze.tile0 hlen⟩
      |cons a l'=>cases h
     |cons c cs' ihf=>
      intro l' o h hf;cases l' with
      |nil=>cases h
      |cons a l'=>obtain⟨ty,off,m'⟩:=a;simp only[opF,w04] at h;obtain⟨⟨⟨h1,h2⟩,h3⟩,h4⟩:=h;have h1:=w02 h1;have h2:=w02 h2;subst h1;subst h2;obtain⟨y0,hy0⟩:=hf 0 _ _ _ rfl;obtain⟨_,y,hR,hc⟩:=ih ty c h3 _ _ _ _ _ _ _ _ hy0;obtain⟨he,z,hz,hcz⟩:=ihf l' _ h4 (λi ty off m' hi=>hf (i+1) ty off m' hi);refine⟨by simp only[w57];omega,(y,z),yl0 hR hz,?_⟩;exact ze.tile hc hcz
    obtain⟨he,y,hy,hc⟩:=key fs l 0 h hf;rw[List.drop_zero] at hc;refine⟨by rw[hlen,<- he,w18];rfl,mk y,?_,?_⟩
    .show rT _ fs (un (mk y));rw[law];exact hy
    .show ze _ _ (evT V.ev fs (un (mk y))) cs;rw[law];exact hc
   .cases h
theorem ylk{H:Type}{enc:TypeId×Value->H}{W:World}{sp:Nat->Bool}{held:Bool}{base n:Nat}{t:TypeId}{c:Nat}{v:Value}{d:DataW H}{p:List MemPlace}
  (ho:opN V P n t c=true) (hv:Value.okWide P W .any base t v) (h:DataW.Trod enc P W 0 sp held t v d p):∃y,rdN V n c y/\(V.vl c y).h (λb=>b<W.heap.size) W v:=by
 cases n with
 |zero=>cases ho
 |succ n=>
 obtain⟨fuel,hf⟩:=h;obtain⟨_,y,hR,hc⟩:=yi3 _ _ _ ho _ _ _ _ _ _ _ _ hf;refine⟨y,hR,?_⟩;change opD V P (opN V P n) (V.d c) t=true at ho;unfold Value.okWide at hv;cases ha:z8k (V.d c) with
 |true=>
  rw[zvd y ha];have hs:∃cs,v = .agg cs:=by
   revert ho ha;generalize V.d c=d;generalize V.T c=α at d;intro ho ha;cases d with
   |arr m c'=>
    simp only[opD] at ho;split at ho
    .rename_i N E hu;rw[hu] at hv;obtain⟨cs,rfl,_⟩:=hv;exact⟨cs,rfl⟩
    .cases ho
   |st fs mk un law=>
    simp only[opD,y07] at ho;cases hu:P.underlying t with
    |none=>rw[hu] at ho;cases ho
    |some X=>
     rw[hu] at ho hv;cases X with
     |struct fs'=>obtain⟨cs,rfl,_⟩:=hv;exact⟨cs,rfl⟩
     |_=>cases ho
   |_=>cases ha
  obtain⟨cs,rfl⟩:=hs;exact⟨cs,rfl,hc⟩
 |false=>
  rw[zve y ha] at hc;have hcell:v.cells.toList = [v]:=by
   revert ho ha;generalize V.d c=d;generalize V.T c=α at d;intro ho ha;cases d with
   |int k=>
    simp only[opD] at ho;split at ho
    .rename_i k' hu;rw[hu] at hv;cases v<;>first|rfl |(exfalso;simp[Cell.okWide,Cell.ok,hu] at hv)
    .cases ho
   |bool=>
    simp only[opD] at ho;split at ho
    .rename_i hu;rw[hu] at hv;cases v<;>first|rfl |(exfalso;simp[Cell.okWide,Cell.ok,hu] at hv)
    .cases ho
   |str=>
    simp only[opD] at ho;split at ho
    .rename_i hu;rw[hu] at hv;cases v<;>first|rfl |(exfalso;simp[Cell.okWide,Cell.ok,hu] at hv)
    .cases ho
   |sl c'=>
    simp only[opD] at ho;split at ho
    .rename_i E hu;rw[hu] at hv;cases v<;>first|rfl |(exfalso;simp[Cell.okWide,Cell.ok,hu] at hv)
    .cases ho
   |arr m c'=>cases ha
   |map kc vc=>simp[opD] at ho
   |st fs mk un law=>cases ha
  rw[hcell] at hc;obtain⟨u,hu',hA,_⟩:=hc.2 0 (V.vl c y) rfl;simp at hu';subst hu';exact hA
theorem ya0{H:Type}{enc:TypeId×Value->H}{W:World}{sp:Nat->Bool}{held:Bool}{base n:Nat}: ∀{ts:List TypeId}{cs:List Nat}{vs:List Value}{ds:List (DataW H)}{ps:List MemPlace},
  ykd V P n ts cs=true->DataW.TrodAll enc P W 0 sp held ts vs ds ps->(∀(j:Nat)t v,ts[j]? = some t->vs[j]? = some v->Value.okWide P W .any base t v)->
  vs.length=cs.length/\∃x:Tup V.T cs,yl1 V n cs x/\∀(i:Nat)(A:VP),(vls V cs x)[i]? = some A->A.h (λb=>b<W.heap.size) W (vs.getD i undef)
 | [],[],vs,ds,ps,_,h,_=>by
  cases vs with
  |nil=>exact⟨rfl,(),trivial,λi A hi=>by simp[vls] at hi⟩
  |cons v vs=>cases ds<;>exact h.elim
 |t::ts,c::cs,vs,ds,ps,ho,h,hv=>by
  simp only[ykd,w04] at ho;cases vs with
  |nil=>cases ds<;>exact h.elim
  |cons v vs=>
   cases ds with
   |nil=>exact h.elim
   |cons d ds=>
    obtain⟨p,q,h1,h2,_⟩:=h;obtain⟨y,hR,hA⟩:=ylk ho.1 (hv 0 t v rfl rfl) h1;obtain⟨hl,x,hx,hxs⟩:=ya0 ho.2 h2 (λj t v ht hvj=>hv (j+1) t v ht hvj);refine⟨by simp[hl],(y,x),⟨hR,hx⟩,λi A hi=>?_⟩;cases i with
    |zero=>simp only[vls,w3f,w01] at hi;subst hi;exact hA
    |succ i=>simp only[vls,w2j] at hi;simpa using hxs i A hi
 | [],_::_,_,_,_,ho,_,_=>by cases ho
 |_::_,[],_,_,_,ho,_,_=>by cases ho
theorem zva{H:Type}{enc:TypeId×Value->H}{P:Program}{W:World}{b:Nat}{sp:Nat->Bool}{held:Bool}: ∀{ts:List TypeId}{vs:List Value}{ds:List (DataW H)}{ps:List MemPlace},DataW.TrodAll enc P W b sp held ts vs ds ps->ds.length=ts.length
 | [],[],[],_,_=>rfl
 |t::ts,v::vs,d::ds,ps,⟨p,q,_,h,_⟩=>by simp[zva h]
 | [],_::_,_,_,h=>h.elim
 | [],[],_::_,_,h=>h.elim
 |_::_,[],_,_,h=>h.elim
 |_::_,_::_,[],_,h=>h.elim
theorem ydr:∀(cs:List Nat)(x:Tup V.T cs),(vls V cs x).length=cs.length
 | [],_=>rfl
 |c::cs,x=>by simp only[vls,w0m,ydr cs]
theorem ym9[Dr]{f:FuncId}{sp:Fsp V}{W:World}{vs:Array Value}{x:Tup V.T sp.args}{r:RTup V.T sp.res}(hf:zq V P f sp)(hr:sp.F x=some r)(hres:∀B:Asg,(resV V (encR V 0 sp.res r)).den V P B=bv true)(hno:newR V sp.res r = [])
  (hl:vs.toList.length=sp.args.length) (hA:∀(i:Nat)(A:VP),(vls V sp.args x)[i]? = some A->A.h (λb=>b<W.heap.size) W (vs.toList.getD i undef)):Calls P f vs W (λe W'=>e = .returned (.bool true)/\Below W.heap.size W W'):=by
 refine ybm (As:=vls V sp.args x) ((hf x r hr).mono ?_) (by rw[ydr];simpa using hl) (λi A hi=>?_)
 .rintro y news ⟨B,hB,rfl,rfl⟩;rw[hno] at hB⊢;refine⟨hres B,?_⟩;cases B<;>rfl
 .have:=hA i A hi
  simpa[w07,w1t] using this
end
theorem zar.same{R:Type}{x:Option R}{n:Nat}{y:Option (List (Option R))}(h:y=some (List.replicate n x)):zar x y:=⟨λr hr=>⟨_,h,λa ha=>by rw[(List.mem_replicate.1 ha).2,hr]⟩⟩
theorem zar.ck{R:Type}{p:Prop}[Decidable p]{x:Option R}{y:Option (List (Option R))}(h:zar x y):zar (Px.ck p x) (Px.ck p y):=
 ⟨λr hr=>by
  unfold Px.ck at *;split at hr
  .rename_i hp;simp only[if_pos hp];exact h.ok r hr
  .cases hr⟩
theorem zar.bind{R α:Type}{m:Option α}{f:α->Option R}{g:α->Option (List (Option R))}(h:∀a,zar (f a) (g a)):zar (m.bind f) (m.bind g):=
 ⟨λr hr=>by
  cases m with
  |none=>cases hr
  |some a=>exact(h a).ok r hr⟩
theorem zar.one{R:Type}{x:Option R}: zar x (some [x]):=⟨λr hr=>⟨_,rfl,λa ha=>by rw[w0x.1 ha,hr]⟩⟩
theorem zar.nil{R:Type}{x:Option R}: zar x (catL []):=⟨λr hr=>⟨[],rfl,λa ha=>by cases ha⟩⟩
theorem zar.cons{R:Type}{x:Option R}{y:Option (List (Option R))}{l:List (Option (List (Option R)))}(h:zar x y)(hl:zar x (catL l)):zar x (catL (y::l)):=
 ⟨λr hr=>by
  obtain⟨a,ha,h1⟩:=h.ok r hr;obtain⟨b,hb,h2⟩:=hl.ok r hr;refine⟨a++b,by simp only[catL,ha,hb,cat2],λz hz=>?_⟩;rcases w0j.1 hz with hz|hz
  .exact h1 z hz
  .exact h2 z hz⟩
end Px
end
section
set_option maxHeartbeats 4000000
set_option maxRecDepth 100000
namespace Px
open Go Go.RowKit
def zn:ByteArray:=⟨#[0,1,2,2,3,3,3,3,4,4,4,4,4,4,4,4,5,5,5,5,5,5,5,5,5,5,5,5,5,5,5,5,6,6,6,6,6,6,6,6,6,6,6,6,6,6,6,6,6,6,6,6,6,6,6,6,6,6,6,6,6,6,6,6,7,7,7,7,7,7,7,7,7,7,7,7,7,7,7,7,7,7,7,7,7,7,7,7,7,7,7,7,7,7,7,7,7,7,7,7,7,7,7,7,7,7,7,7,7,7,7,7,7,7,7,7,7,7,7,7,7,7,7,7,7,7,7,7,8,8,8,8,8,8,8,8,8,8,8,8,8,8,8,8,8,8,8,8,8,8,8,8,8,8,8,8,8,8,8,8,8,8,8,8,8,8,8,8,8,8,8,8,8,8,8,8,8,8,8,8,8,8,8,8,8,8,8,8,8,8,8,8,8,8,8,8,8,8,8,8,8,8,8,8,8,8,8,8,8,8,8,8,8,8,8,8,8,8,8,8,8,8,8,8,8,8,8,8,8,8,8,8,8,8,8,8,8,8,8,8,8,8,8,8,8,8,8,8,8,8,8,8,8,8,8,8]⟩
def zlt:ByteArray:=⟨#[119,111,102]⟩
def zf7:ByteArray:=⟨#[119,112,102,116]⟩
def z75:ByteArray:=⟨#[119,112,111,102,99]⟩
def zn5:ByteArray:=⟨#[110,119,111,112,100,107,103,102]⟩
def zf8:ByteArray:=⟨#[119,112,111,102]⟩
def zn2:ByteArray:=⟨#[119,102,99]⟩
def zn3:ByteArray:=⟨#[119,112,102,116,99,97,113]⟩
def zv8:ByteArray:=⟨#[111,113]⟩
def zls:ByteArray:=⟨#[110,102,120]⟩
def zv7:ByteArray:=⟨#[110,102]⟩
def zn4:ByteArray:=⟨#[111,112,107,110,103,102,116,97]⟩
def z49:ByteArray:=⟨#[119,112,111,110,102,116,99,100,107,103,97]⟩
structure z94 where
 kind:Int
 railway:Int
 other:Int
instance:Inhabited z94:=⟨⟨0,0,0⟩⟩
structure Edge where
 a:Int
 b:Int
 railway:Int
 minutes:Int
 km:Int
instance:Inhabited Edge:=⟨⟨0,0,0,0,0⟩⟩
structure z8a where
 places :(List z94)
 edges :(List Edge)
instance:Inhabited z8a:=⟨⟨[],[]⟩⟩
structure z3h where
 load:Int
 tare:Int
 length:Int
 gauge:Int
 brake:Int
 classes:Int
 life:Int
 floor:Int
instance:Inhabited z3h:=⟨⟨0,0,0,0,0,0,0,0⟩⟩
structure zt7 where
 type_:Int
 owner:Int
 home:Int
 built:Int
 worth:Int
instance:Inhabited zt7:=⟨⟨0,0,0,0,0⟩⟩
structure Swap where
 wanted:Int
 given:Int
 cost:Int
instance:Inhabited Swap:=⟨⟨0,0,0⟩⟩
structure Wash where
 from_:Int
 to:Int
 minutes:Int
instance:Inhabited Wash:=⟨⟨0,0,0⟩⟩
structure zc4 where
 types :(List z3h)
 wagons :(List zt7)
 swaps :(List Swap)
 washes :(List Wash)
instance:Inhabited zc4:=⟨⟨[],[],[],[]⟩⟩
structure znx where
 place:Int
 low:Int
 high:Int
instance:Inhabited znx:=⟨⟨0,0,0⟩⟩
structure zha where
 place:Int
instance:Inhabited zha:=⟨⟨0⟩⟩
structure Span where
 from_:Int
 to:Int
instance:Inhabited Span:=⟨⟨0,0⟩⟩
structure z61 where
 open_ :(Nat->Span)
 holidays :(List Int)
instance:Inhabited z61:=⟨⟨λ_=>default,[]⟩⟩
structure z56 where
 key:Int
 calendar:z61
instance:Inhabited z56:=⟨⟨0,default⟩⟩
structure Pool where
 network:z8a
 fleet:zc4
 readers :(List znx)
 shippers :(List zha)
 railways :(List z56)
instance:Inhabited Pool:=⟨⟨default,default,[],[],[]⟩⟩
structure Ref where
 railway:Int
 no:Int
instance:Inhabited Ref:=⟨⟨0,0⟩⟩
structure Part where
 kind:Int
 serial:Int
 fitted:Bool
instance:Inhabited Part:=⟨⟨0,0,false⟩⟩
structure Item where
 kind:Int
 ref:Ref
 wagon:Int
 place:Int
 other:Int
 number:Int
 from_:Int
 to:Int
 code:Int
 dest:Int
 class_:Int
 weight:Int
 amount:Int
 text:ByteArray
 parts :(List Part)
instance:Inhabited Item:=⟨⟨0,default,0,0,0,0,0,0,0,0,0,0,0,⟨#[]⟩,[]⟩⟩
structure z5 where
 ref:Ref
 by_:Ref
 time:Int
 item:Item
instance:Inhabited z5:=⟨⟨default,default,0,default⟩⟩
structure zb where
 p:Pool
 it:Item
 ok:Bool
instance:Inhabited zb:=⟨⟨default,default,false⟩⟩
structure z3 where
 wagon:Int
 place:Int
 from_:Int
 to:Int
 at_:Int
 code:Int
 deliver:Ref
 receive:Ref
instance:Inhabited z3:=⟨⟨0,0,0,0,0,0,default,default⟩⟩
structure z6 where
 railway:Int
 span:Span
 ref:Ref
instance:Inhabited z6:=⟨⟨0,default,default⟩⟩
def TT:Nat->Type
 |0=>Int
 |1=>z94
 |2=>(List z94)
 |3=>Edge
 |4=>(List Edge)
 |5=>z8a
 |6=>Int
 |7=>z3h
 |8=>(List z3h)
 |9=>zt7
 |10=>(List zt7)
 |11=>Swap
 |12=>(List Swap)
 |13=>Wash
 |14=>(List Wash)
 |15=>zc4
 |16=>znx
 |17=>(List znx)
 |18=>zha
 |19=>(List zha)
 |20=>Span
 |21=>(Nat->Span)
 |22=>(List Int)
 |23=>z61
 |24=>z56
 |25=>(List z56)
 |26=>Pool
 |27=>Ref
 |28=>ByteArray
 |29=>Bool
 |30=>Part
 |31=>(List Part)
 |32=>Item
 |33=>z5
 |34=>(Nat->Bool)
 |35=>zb
 |36=>(List z5)
 |37=>(Nat->Int)
 |38=>(List (Nat->Int))
 |39=>z3
 |40=>(List z3)
 |41=>z6
 |42=>(List z6)
 |43=>(List (List Int))
 |44=>(List Ref)
 |45=>Int
 |_=>Unit
def TD :(c:Nat)->Ds TT (TT c)
 |0=>.int .i64
 |1=>.st [0,0,0] (λt=>⟨t.1,t.2.1,t.2.2.1⟩) (λx=>(x.kind,x.railway,x.other,())) (λ_=>rfl)
 |2=>.sl 1
 |3=>.st [0,0,0,0,0] (λt=>⟨t.1,t.2.1,t.2.2.1,t.2.2.2.1,t.2.2.2.2.1⟩) (λx=>(x.a,x.b,x.railway,x.minutes,x.km,())) (λ_=>rfl)
 |4=>.sl 3
 |5=>.st [2,4] (λt=>⟨t.1,t.2.1⟩) (λx=>(x.places,x.edges,())) (λ_=>rfl)
 |6=>.int .u64
 |7=>.st [0,0,0,0,0,6,0,0] (λt=>⟨t.1,t.2.1,t.2.2.1,t.2.2.2.1,t.2.2.2.2.1,t.2.2.2.2.2.1,t.2.2.2.2.2.2.1,t.2.2.2.2.2.2.2.1⟩) (λx=>(x.load,x.tare,x.length,x.gauge,x.brake,x.classes,x.life,x.floor,())) (λ_=>rfl)
 |8=>.sl 7
 |9=>.st [0,0,0,0,0] (λt=>⟨t.1,t.2.1,t.2.2.1,t.2.2.2.1,t.2.2.2.2.1⟩) (λx=>(x.type_,x.owner,x.home,x.built,x.worth,())) (λ_=>rfl)
 |10=>.sl 9
 |11=>.st [0,0,0] (λt=>⟨t.1,t.2.1,t.2.2.1⟩) (λx=>(x.wanted,x.given,x.cost,())) (λ_=>rfl)
 |12=>.sl 11
 |13=>.st [0,0,0] (λt=>⟨t.1,t.2.1,t.2.2.1⟩) (λx=>(x.from_,x.to,x.minutes,())) (λ_=>rfl)
 |14=>.sl 13
 |15=>.st [8,10,12,14] (λt=>⟨t.1,t.2.1,t.2.2.1,t.2.2.2.1⟩) (λx=>(x.types,x.wagons,x.swaps,x.washes,())) (λ_=>rfl)
 |16=>.st [0,0,0] (λt=>⟨t.1,t.2.1,t.2.2.1⟩) (λx=>(x.place,x.low,x.high,())) (λ_=>rfl)
 |17=>.sl 16
 |18=>.st [0] (λt=>⟨t.1⟩) (λx=>(x.place,())) (λ_=>rfl)
 |19=>.sl 18
 |20=>.st [0,0] (λt=>⟨t.1,t.2.1⟩) (λx=>(x.from_,x.to,())) (λ_=>rfl)
 |21=>.arr 7 20
 |22=>.sl 0
 |23=>.st [21,22] (λt=>⟨t.1,t.2.1⟩) (λx=>(x.open_,x.holidays,())) (λ_=>rfl)
 |24=>.st [6,23] (λt=>⟨t.1,t.2.1⟩) (λx=>(x.key,x.calendar,())) (λ_=>rfl)
 |25=>.sl 24
 |26=>.st [5,15,17,19,25] (λt=>⟨t.1,t.2.1,t.2.2.1,t.2.2.2.1,t.2.2.2.2.1⟩) (λx=>(x.network,x.fleet,x.readers,x.shippers,x.railways,())) (λ_=>rfl)
 |27=>.st [0,0] (λt=>⟨t.1,t.2.1⟩) (λx=>(x.railway,x.no,())) (λ_=>rfl)
 |28=>.str
 |29=>.bool
 |30=>.st [0,0,29] (λt=>⟨t.1,t.2.1,t.2.2.1⟩) (λx=>(x.kind,x.serial,x.fitted,())) (λ_=>rfl)
 |31=>.sl 30
 |32=>.st [0,27,0,0,0,0,0,0,0,0,0,0,0,28,31] (λt=>⟨t.1,t.2.1,t.2.2.1,t.2.2.2.1,t.2.2.2.2.1,t.2.2.2.2.2.1,t.2.2.2.2.2.2.1,t.2.2.2.2.2.2.2.1,t.2.2.2.2.2.2.2.2.1,t.2.2.2.2.2.2.2.2.2.1,t.2.2.2.2.2.2.2.2.2.2.1,t.2.2.2.2.2.2.2.2.2.2.2.1,t.2.2.2.2.2.2.2.2.2.2.2.2.1,t.2.2.2.2.2.2.2.2.2.2.2.2.2.1,t.2.2.2.2.2.2.2.2.2.2.2.2.2.2.1⟩) (λx=>(x.kind,x.ref,x.wagon,x.place,x.other,x.number,x.from_,x.to,x.code,x.dest,x.class_,x.weight,x.amount,x.text,x.parts,())) (λ_=>rfl)
 |33=>.st [27,27,0,32] (λt=>⟨t.1,t.2.1,t.2.2.1,t.2.2.2.1⟩) (λx=>(x.ref,x.by_,x.time,x.item,())) (λ_=>rfl)
 |34=>.arr 4096 29
 |35=>.st [26,32,29] (λt=>⟨t.1,t.2.1,t.2.2.1⟩) (λx=>(x.p,x.it,x.ok,())) (λ_=>rfl)
 |36=>.sl 33
 |37=>.arr 2 0
 |38=>.sl 37
 |39=>.st [0,0,0,0,0,0,27,27] (λt=>⟨t.1,t.2.1,t.2.2.1,t.2.2.2.1,t.2.2.2.2.1,t.2.2.2.2.2.1,t.2.2.2.2.2.2.1,t.2.2.2.2.2.2.2.1⟩) (λx=>(x.wagon,x.place,x.from_,x.to,x.at_,x.code,x.deliver,x.receive,())) (λ_=>rfl)
 |40=>.sl 39
 |41=>.st [0,20,27] (λt=>⟨t.1,t.2.1,t.2.2.1⟩) (λx=>(x.railway,x.span,x.ref,())) (λ_=>rfl)
 |42=>.sl 41
 |43=>.sl 22
 |44=>.sl 27
 |45=>.int .u8
 |_+46=>.st [] (λ_=>()) (λ_=>()) (λ_=>rfl)
def TZ :(c:Nat)->TT c
 |0=>(default:Int)
 |1=>(default:z94)
 |2=>(default :(List z94))
 |3=>(default:Edge)
 |4=>(default :(List Edge))
 |5=>(default:z8a)
 |6=>(default:Int)
 |7=>(default:z3h)
 |8=>(default :(List z3h))
 |9=>(default:zt7)
 |10=>(default :(List zt7))
 |11=>(default:Swap)
 |12=>(default :(List Swap))
 |13=>(default:Wash)
 |14=>(default :(List Wash))
 |15=>(default:zc4)
 |16=>(default:znx)
 |17=>(default :(List znx))
 |18=>(default:zha)
 |19=>(default :(List zha))
 |20=>(default:Span)
 |21=>(default :(Nat->Span))
 |22=>(default :(List Int))
 |23=>(default:z61)
 |24=>(default:z56)
 |25=>(default :(List z56))
 |26=>(default:Pool)
 |27=>(default:Ref)
 |28=>(default:ByteArray)
 |29=>(default:Bool)
 |30=>(default:Part)
 |31=>(default :(List Part))
 |32=>(default:Item)
 |33=>(default:z5)
 |34=>(default :(Nat->Bool))
 |35=>(default:zb)
 |36=>(default :(List z5))
 |37=>(default :(Nat->Int))
 |38=>(default :(List (Nat->Int)))
 |39=>(default:z3)
 |40=>(default :(List z3))
 |41=>(default:z6)
 |42=>(default :(List z6))
 |43=>(default :(List (List Int)))
 |44=>(default :(List Ref))
 |45=>(default:Int)
 |_+46=>()
def TC(t:Nat):Nat:=(lk [(2,0),(3,0),(4,29),(5,45),(6,45),(9,28),(10,28),(11,28),(12,6),(22,2),(23,4),(25,5),(26,8),(27,10),(28,12),(29,14),(31,15),(32,17),(33,19),(34,25),(36,26),(37,36),(40,42),(41,0),(47,40),(50,44),(56,27),(57,31),(59,32),(61,33),(64,39),(66,20),(68,41),(73,38),(75,37),(84,22),(91,1),(92,6),(94,7),(96,9),(97,21),(99,23),(101,24),(112,16),(115,18),(117,3),(120,43),(131,11),(133,34),(135,13),(150,6),(154,35),(161,30),(180,45),(181,45)] t).getD 46
def TV:TE:=⟨TT,TD,TZ,TC,λc=>match c with|0=>rfl|1=>rfl|2=>rfl|3=>rfl|4=>rfl|5=>rfl|6=>rfl|7=>rfl|8=>rfl|9=>rfl|10=>rfl|11=>rfl|12=>rfl|13=>rfl|14=>rfl|15=>rfl|16=>rfl|17=>rfl|18=>rfl|19=>rfl|20=>rfl|21=>rfl|22=>rfl|23=>rfl|24=>rfl|25=>rfl|26=>rfl|27=>rfl|28=>rfl|29=>rfl|30=>rfl|31=>rfl|32=>rfl|33=>rfl|34=>rfl|35=>rfl|36=>rfl|37=>rfl|38=>rfl|39=>rfl|40=>rfl|41=>rfl|42=>rfl|43=>rfl|44=>rfl|45=>rfl|_+46=>rfl⟩
def kl_0:Int->List Int:=TV.kl 0
def cmpI(a b:Int):Int:=if a<b then-1 else if b<a then 1 else 0
def or2(a b:Int):Int:=if a≠0 then a else b
def zoy(φ:Nat):Option (Pool×Unit):=(some ((⟨(⟨[(⟨2,0,-1⟩:z94),(⟨2,1,-1⟩:z94),(⟨3,0,1⟩:z94)],([]:List Edge)⟩:z8a),(⟨[(⟨0,0,0,0,0,0,1,0⟩:z3h)],[(⟨0,0,0,0,0⟩:zt7)],([]:List Swap),([]:List Wash)⟩:zc4),([]:List znx),([]:List zha),[(⟨4,(⟨λ_=>(default:Span),([]:List Int)⟩:z61)⟩:z56),(⟨16,(⟨λ_=>(default:Span),([]:List Int)⟩:z61)⟩:z56)]⟩:Pool),()))
def zec(φ:Nat):Fsp TV:=⟨[],[.val 26],λz=>zoy φ⟩
def z9s(φ:Nat)(a b c:Int):Option (z5×Unit):=(some ((⟨(⟨0,a⟩:Ref),(⟨0,0⟩:Ref),0,(⟨3,(⟨0,0⟩:Ref),0,2,1,0,b,0,c,0,0,0,0,(⟨#[]⟩:ByteArray),([]:List Part)⟩:Item)⟩:z5),()))
def zea(φ:Nat):Fsp TV:=⟨[0,0,0],[.val 33],kk3 (z9s φ)⟩
def z9v(φ:Nat)(a b c:Int):Option (z5×Unit):=(some ((⟨(⟨1,a⟩:Ref),(⟨0,0⟩:Ref),0,(⟨4,(⟨0,0⟩:Ref),0,2,0,0,b,0,c,0,0,0,0,(⟨#[]⟩:ByteArray),([]:List Part)⟩:Item)⟩:z5),()))
def zee(φ:Nat):Fsp TV:=⟨[0,0,0],[.val 33],kk3 (z9v φ)⟩
def zd3(φ:Nat)(a:z94):Option (Bool×Unit):=(if((((decide ((a.kind:Int)<1))||(decide ((5:Int)<a.kind)))||(decide ((a.railway:Int)<0)))||(decide ((16:Int)<=a.railway)))=true then(some (false,())) else(if((a.kind:Int) !=3)=true then(some (((a.other:Int)==(-1)),())) else(some ((((decide ((0:Int)<=a.other))&&(decide ((a.other:Int)<16)))&&((a.other:Int) !=a.railway)),()))))
def zek(φ:Nat):Fsp TV:=⟨[1],[.val 29],λz=>zd3 φ z.1⟩
def z23(φ:Nat):Nat->Int->(List Edge)->Int->Int->Option (Int×Unit)
 |0,_,_,_,_=>none
 |g+1,e,d,f,c=>(if(decide (c<f))=true then(ck (rg c d.length) (if(((((((decide (((min2 ((min2 (min2 ((gt d c).a) ((gt d c).b)) ((gt d c).railway))) ((gt d c).km)):Int)<0))||(decide (e<=(max2 ((gt d c).a) ((gt d c).b)))))||(((gt d c).a:Int)==(gt d c).b))||(decide ((16:Int)<=(gt d c).railway)))||(decide (((gt d c).minutes:Int)<1)))||(decide ((100000:Int)<(gt d c).minutes)))||(decide ((10000:Int)<(gt d c).km)))=true then(some (1,())) else((z23 φ g) e d f (W (c+1))))) else(some (0,())))
def z4p(φ:Nat):Nat->Int->(List z94)->Int->Int->z8a->Option (Int×Unit)
 |0,_,_,_,_,_=>none
 |f+1,d,b,e,a,c=>(if(decide (a<e))=true then(ck (rg a b.length) ((zd3 φ (gt b a)).bind λg=>(if(!g.1)=true then(some (1,())) else((z4p φ f) d b e (W (a+1)) c)))) else(z23 φ φ d c.edges (c.edges.length:Int) 0))
def zd2(φ:Nat)(a:z8a):Option (Int×Unit):=(if((decide ((512:Int)<(a.places.length:Int)))||(decide ((2048:Int)<(a.edges.length:Int))))=true then(some (2,())) else(z4p φ φ (a.places.length:Int) a.places (a.places.length:Int) 0 a))
def zei(φ:Nat):Fsp TV:=⟨[5],[.val 0],λz=>zd2 φ z.1⟩
def zh(φ:Nat)(a b c:Int):Option (Bool×Unit):=(some (((decide (b<=a))&&(decide (a<=c))),()))
def z9j(φ:Nat):Fsp TV:=⟨[0,0,0],[.val 29],kk3 (zh φ)⟩
def z2l(φ:Nat)(c :((List z3h)->Int->Int->zc4->Int->Option (Int×Unit))):Nat->(List z3h)->Int->Int->Int->Int->zc4->Int->z3h->(List Int)->Option (Int×Unit)
 |0,_,_,_,_,_,_,_,_,_=>none
 |k+1,d,e,f,i,a,g,l,b,h=>(if(decide (a<i))=true then(ck (rg a h.length) ((zh φ (gt h a) 0 1000000).bind λn=>(if(!n.1)=true then((z2l φ c k) d e f i (W (a+1)) g 1 b h) else((z2l φ c k) d e f i (W (a+1)) g l b h)))) else((zh φ b.gauge 0 7).bind λj=>((z9 (default,()) (j.1=true) (zh φ b.life 1 1073741824)).bind λm=>((z9 (default,()) ((j.1&&m.1)=true) (zh φ b.floor 0 100)).bind λo=>(if(!((j.1&&m.1)&&o.1))=true then(c d e (W (f+1)) g 1) else(c d e (W (f+1)) g l))))))
def zm(φ:Nat):Nat->(List Wash)->Int->Int->Int->(Nat->Bool)->Option (Int×Unit)
 |0,_,_,_,_,_=>none
 |e+1,b,d,a,h,c=>(if(decide (a<d))=true then(ck (rg a b.length) ((zh φ ((gt b a).from_) 0 63).bind λf=>((z9 (default,()) (f.1=true) (zh φ ((gt b a).to) 0 63)).bind λg=>((z9 (default,()) (((f.1&&g.1)&&(((gt b a).from_:Int) !=(gt b a).to))=true) (zh φ ((gt b a).minutes) 0 100000)).bind λi=>(if(!(((f.1&&g.1)&&(((gt b a).from_:Int) !=(gt b a).to))&&i.1))=true then(if(((f.1&&g.1)&&(((gt b a).from_:Int) !=(gt b a).to))&&i.1)=true then(ck (rg (gt b a).from_ 64) (ck (rg (gt b a).to 64) (if(!(!(c (((((gt b a).from_:Int).toNat*64)+((gt b a).to:Int).toNat)))))=true then(ck (rg (gt b a).from_ 64) (ck (rg (gt b a).to 64) ((zm φ e) b d (W (a+1)) 1 ((upd c (((((gt b a).from_:Int).toNat*64)+((gt b a).to:Int).toNat)) true))))) else(ck (rg (gt b a).from_ 64) (ck (rg (gt b a).to 64) ((zm φ e) b d (W (a+1)) 1 ((upd c (((((gt b a).from_:Int).toNat*64)+((gt b a).to:Int).toNat)) true)))))))) else((zm φ e) b d (W (a+1)) 1 c)) else(if(((f.1&&g.1)&&(((gt b a).from_:Int) !=(gt b a).to))&&i.1)=true then(ck (rg (gt b a).from_ 64) (ck (rg (gt b a).to 64) (if(!(!(c (((((gt b a).from_:Int).toNat*64)+((gt b a).to:Int).toNat)))))=true then(ck (rg (gt b a).from_ 64) (ck (rg (gt b a).to 64) ((zm φ e) b d (W (a+1)) 1 ((upd c (((((gt b a).from_:Int).toNat*64)+((gt b a).to:Int).toNat)) true))))) else(ck (rg (gt b a).from_ 64) (ck (rg (gt b a).to 64) ((zm φ e) b d (W (a+1)) h ((upd c (((((gt b a).from_:Int).toNat*64)+((gt b a).to:Int).toNat)) true)))))))) else((zm φ e) b d (W (a+1)) h c))))))) else(some (h,())))
def z0g(φ:Nat):Nat->(List Swap)->Int->Int->zc4->Int->Option (Int×Unit)
 |0,_,_,_,_,_=>none
 |f+1,b,d,a,c,g=>(if(decide (a<d))=true then(ck (rg a b.length) ((zh φ ((gt b a).wanted) 0 (W ((c.types.length:Int)-1))).bind λe=>((z9 (default,()) (e.1=true) (zh φ ((gt b a).given) 0 (W ((c.types.length:Int)-1)))).bind λh=>((z9 (default,()) (((e.1&&h.1)&&(((gt b a).wanted:Int) !=(gt b a).given))=true) (zh φ ((gt b a).cost) 0 1000000000)).bind λi=>(if(!(((e.1&&h.1)&&(((gt b a).wanted:Int) !=(gt b a).given))&&i.1))=true then((z0g φ f) b d (W (a+1)) c 1) else((z0g φ f) b d (W (a+1)) c g)))))) else(zm φ φ c.washes (c.washes.length:Int) 0 g (λ_=>(default:Bool))))
def z01(φ:Nat):Nat->(List zt7)->Int->Int->zc4->Int->Option (Int×Unit)
 |0,_,_,_,_,_=>none
 |e+1,b,d,a,c,g=>(if(decide (a<d))=true then(ck (rg a b.length) ((zh φ ((gt b a).type_) 0 (W ((c.types.length:Int)-1))).bind λf=>((z9 (default,()) (f.1=true) (zh φ ((gt b a).owner) 0 63)).bind λh=>((z9 (default,()) ((f.1&&h.1)=true) (zh φ ((gt b a).home) 0 511)).bind λk=>(if(!((f.1&&h.1)&&k.1))=true then((zh φ ((gt b a).built) 0 1073741824).bind λi=>((z9 (default,()) (i.1=true) (zh φ ((gt b a).worth) 0 1099511627776)).bind λl=>(if(!(i.1&&l.1))=true then((z01 φ e) b d (W (a+1)) c 1) else((z01 φ e) b d (W (a+1)) c 1)))) else((zh φ ((gt b a).built) 0 1073741824).bind λj=>((z9 (default,()) (j.1=true) (zh φ ((gt b a).worth) 0 1099511627776)).bind λm=>(if(!(j.1&&m.1))=true then((z01 φ e) b d (W (a+1)) c 1) else((z01 φ e) b d (W (a+1)) c g))))))))) else(z0g φ φ c.swaps (c.swaps.length:Int) 0 c g))
def z5f(φ:Nat):Nat->(List z3h)->Int->Int->zc4->Int->Option (Int×Unit)
 |0,_,_,_,_,_=>none
 |f+1,b,d,a,c,e=>(if(decide (a<d))=true then(ck (rg a b.length) (z2l φ (z5f φ f) φ b d a (([(gt b a).load,(gt b a).tare,(gt b a).length,(gt b a).brake]).length:Int) 0 c e (gt b a) ([(gt b a).load,(gt b a).tare,(gt b a).length,(gt b a).brake]))) else(z01 φ φ c.wagons (c.wagons.length:Int) 0 c e))
def zhn(φ:Nat)(a:zc4):Option (Int×Unit):=(if((((decide ((32:Int)<(a.types.length:Int)))||(decide ((4096:Int)<(a.wagons.length:Int))))||(decide ((1024:Int)<(a.swaps.length:Int))))||(decide ((4096:Int)<(a.washes.length:Int))))=true then(some (2,())) else(z5f φ φ a.types (a.types.length:Int) 0 a 0))
def zhp(φ:Nat):Fsp TV:=⟨[15],[.val 0],λz=>zhn φ z.1⟩
def z2s(φ:Nat):Nat->Int->(List Int)->Int->Int->Option (Int×Unit)
 |0,_,_,_,_=>none
 |d+1,e,b,c,a=>(if(decide (a<c))=true then(ck (rg a b.length) (if((decide (((gt b a):Int)<=e))||(decide ((745654:Int)<(gt b a))))=true then(some (1,())) else((z2s φ d) (gt b a) b c (W (a+1))))) else(some (0,())))
def z3p(φ:Nat):Nat->(Nat->Span)->Int->z61->Option (Int×Unit)
 |0,_,_,_=>none
 |d+1,b,a,c=>(if(decide (a<7))=true then(ck (rg a 7) (if(((decide (((b a.toNat).from_:Int)<0))||(decide (((b a.toNat).to:Int)<(b a.toNat).from_)))||(decide ((1440:Int)<(b a.toNat).to)))=true then(some (1,())) else((z3p φ d) b (W (a+1)) c))) else(z2s φ φ (-1) c.holidays (c.holidays.length:Int) 0))
def zbf(φ:Nat)(a:z61):Option (Int×Unit):=(z3p φ φ a.open_ 0 a)
def zc7(φ:Nat):Fsp TV:=⟨[23],[.val 0],λz=>zbf φ z.1⟩
def zas(φ:Nat)(a b:Int):Option (Int×Int×Unit):=(if 0<=(32:Int) then(if 0<=(32:Int) then(if 0<=(32:Int) then(if 0<=(32:Int) then(if 0<=(32:Int) then(some ((U ((U ((U ((a.fdiv (2 ^ (min (32:Int).toNat 64)))*(b.fdiv (2 ^ (min (32:Int).toNat 64)))))+(((U ((U ((a.fdiv (2 ^ (min (32:Int).toNat 64)))*(U ((BitVec.ofInt 64 b&&& BitVec.ofInt 64 4294967295).toNat))))+(((U ((U ((BitVec.ofInt 64 a&&& BitVec.ofInt 64 4294967295).toNat))*(U ((BitVec.ofInt 64 b&&& BitVec.ofInt 64 4294967295).toNat)))):Int).fdiv (2 ^ (min (32:Int).toNat 64))))):Int).fdiv (2 ^ (min (32:Int).toNat 64)))))+(((U ((U ((BitVec.ofInt 64 (U ((U ((a.fdiv (2 ^ (min (32:Int).toNat 64)))*(U ((BitVec.ofInt 64 b&&& BitVec.ofInt 64 4294967295).toNat))))+(((U ((U ((BitVec.ofInt 64 a&&& BitVec.ofInt 64 4294967295).toNat))*(U ((BitVec.ofInt 64 b&&& BitVec.ofInt 64 4294967295).toNat)))):Int).fdiv (2 ^ (min (32:Int).toNat 64)))))&&& BitVec.ofInt 64 4294967295).toNat))+(U ((U ((BitVec.ofInt 64 a&&& BitVec.ofInt 64 4294967295).toNat))*(b.fdiv (2 ^ (min (32:Int).toNat 64))))))):Int).fdiv (2 ^ (min (32:Int).toNat 64))))),(U (a*b)),())) else none) else none) else none) else none) else none)
def zkg(φ:Nat):Fsp TV:=⟨[6,6],[.val 6,.val 6],kk2 (zas φ)⟩
def z1a(φ:Nat)(a b:Int):Option (Int×Unit):=(ck (rg (IntKind.wrap .u8 (a)) zn.size) (some ((W (64-(W (b+(W ((z76 zn (IntKind.wrap .u8 (a))))))))),())))
def z1z(φ:Nat)(a b:Int):Option (Int×Unit):=(if(decide ((256:Int)<=a))=true then(if 0<=(8:Int) then(z1a φ ((a.fdiv (2 ^ (min (8:Int).toNat 64)))) (W (b+8))) else none) else(z1a φ a b))
def z1y(φ:Nat)(a b:Int):Option (Int×Unit):=(if(decide ((65536:Int)<=a))=true then(if 0<=(16:Int) then(z1z φ ((a.fdiv (2 ^ (min (16:Int).toNat 64)))) (W (b+16))) else none) else(z1z φ a b))
def z3s(φ:Nat)(a:Int):Option (Int×Unit):=(if(decide ((4294967296:Int)<=a))=true then(if 0<=(32:Int) then(z1y φ ((a.fdiv (2 ^ (min (32:Int).toNat 64)))) 32) else none) else(z1y φ a 0))
def z7h(φ:Nat):Fsp TV:=⟨[6],[.val 0],λz=>z3s φ z.1⟩
def z8h(φ:Nat)(c a d e f b:Int):Option (Int×Int×Unit):=(ck (0<=a) (some ((U ((U (e*4294967296))+b)),(((U ((U ((U (f*4294967296))+d))-(U (b*c)))):Int).fdiv (2 ^ (min a.toNat 64))),())))
def z8e(φ:Nat):Nat->Int->Int->Int->Int->Int->Int->Int->Int->Int->Option (Int×Int×Unit)
 |0,_,_,_,_,_,_,_,_,_=>none
 |j+1,c,d,e,i,b,f,g,h,a=>(if((decide ((4294967296:Int)<=a))||(decide (((U ((U (4294967296*g))+b)):Int)<(U (a*i)))))=true then(if(decide ((4294967296:Int)<=(U (g+e))))=true then(z8h φ c d b f h (U (a-1))) else((z8e φ j) c d e i b f (U (g+e)) h (U (a-1)))) else(z8h φ c d b f h a))
def z8g(φ:Nat)(a f b g d e h c:Int):Option (Int×Int×Unit):=(ck (b≠0) (z8e φ φ a f b g h c ((U ((U ((U ((U (d*4294967296))+e))-(U (c*a))))-(U ((U (((U ((U ((U (d*4294967296))+e))-(U (c*a)))):Int).tdiv b))*b))))) ((U ((U ((U (d*4294967296))+e))-(U (c*a))))) ((U (((U ((U ((U (d*4294967296))+e))-(U (c*a)))):Int).tdiv b)))))
def z8f(φ:Nat):Nat->Int->Int->Int->Int->Int->Int->Int->Int->Int->Option (Int×Int×Unit)
 |0,_,_,_,_,_,_,_,_,_=>none
 |j+1,e,f,a,c,g,d,h,b,i=>(if((decide ((4294967296:Int)<=b))||(decide (((U ((U (4294967296*i))+d)):Int)<(U (b*c)))))=true then(if(decide ((4294967296:Int)<=(U (i+a))))=true then(z8g φ e f a c g d h (U (b-1))) else((z8f φ j) e f a c g d h (U (b-1)) (U (i+a)))) else(z8g φ e f a c g d h b))
def z9b(φ:Nat)(d c b:Int):Option (Int×Int×Unit):=(if(b==0)=true then none else(if(decide (b<=d))=true then none else(if(d==0)=true then(ck (b≠0) (ck (b≠0) (some ((U (c.tdiv b)),(c.tmod b),())))) else((z3s φ b).bind λa=>(ck (0<=(U (a.1))) (if 0<=(32:Int) then(ck (0<=(U (a.1))) (ck (0<=(U (64-(U (a.1))))) (ck (0<=(U (a.1))) (if 0<=(32:Int) then(ck ((((U (b*2 ^ (min ((U (a.1)):Int).toNat 64))):Int).fdiv (2 ^ (min (32:Int).toNat 64)))≠0) (z8f φ φ ((U (b*2 ^ (min ((U (a.1)):Int).toNat 64)))) (U (a.1)) ((((U (b*2 ^ (min ((U (a.1)):Int).toNat 64))):Int).fdiv (2 ^ (min (32:Int).toNat 64)))) ((U ((BitVec.ofInt 64 (U (b*2 ^ (min ((U (a.1)):Int).toNat 64)))&&& BitVec.ofInt 64 4294967295).toNat))) ((U ((BitVec.ofInt 64 (U (d*2 ^ (min ((U (a.1)):Int).toNat 64)))||| BitVec.ofInt 64 (c.fdiv (2 ^ (min ((U (64-(U (a.1)))):Int).toNat 64)))).toNat))) ((((U (c*2 ^ (min ((U (a.1)):Int).toNat 64))):Int).fdiv (2 ^ (min (32:Int).toNat 64)))) ((U ((BitVec.ofInt 64 (U (c*2 ^ (min ((U (a.1)):Int).toNat 64)))&&& BitVec.ofInt 64 4294967295).toNat))) ((U (((U ((BitVec.ofInt 64 (U (d*2 ^ (min ((U (a.1)):Int).toNat 64)))||| BitVec.ofInt 64 (c.fdiv (2 ^ (min ((U (64-(U (a.1)))):Int).toNat 64)))).toNat)):Int).tdiv (((U (b*2 ^ (min ((U (a.1)):Int).toNat 64))):Int).fdiv (2 ^ (min (32:Int).toNat 64)))))) ((U ((U ((BitVec.ofInt 64 (U (d*2 ^ (min ((U (a.1)):Int).toNat 64)))||| BitVec.ofInt 64 (c.fdiv (2 ^ (min ((U (64-(U (a.1)))):Int).toNat 64)))).toNat))-(U ((U (((U ((BitVec.ofInt 64 (U (d*2 ^ (min ((U (a.1)):Int).toNat 64)))||| BitVec.ofInt 64 (c.fdiv (2 ^ (min ((U (64-(U (a.1)))):Int).toNat 64)))).toNat)):Int).tdiv (((U (b*2 ^ (min ((U (a.1)):Int).toNat 64))):Int).fdiv (2 ^ (min (32:Int).toNat 64)))))*(((U (b*2 ^ (min ((U (a.1)):Int).toNat 64))):Int).fdiv (2 ^ (min (32:Int).toNat 64)))))))))) else none)))) else none))))))
def zkb(φ:Nat):Fsp TV:=⟨[6,6,6],[.val 6,.val 6],kk3 (z9b φ)⟩
def zc3(φ:Nat)(d :(Int->Int->Int->Int->Int->Int->Option (Int×Unit)))(b e c f g h i j l a:Int):Option (Int×Unit):=(ck (rg (IntKind.wrap .u8 (b)) zn.size) (ck (0<=(W ((W ((W (e+(W ((z76 zn (IntKind.wrap .u8 (b)))))))-1))-h))) (if(((U ((BitVec.ofInt 64 (l.fdiv (2 ^ (min ((W ((W ((W (e+(W ((z76 zn (IntKind.wrap .u8 (b)))))))-1))-h)):Int).toNat 64)))&&& BitVec.ofInt 64 1).toNat)):Int)==1)=true then(ck (a≠0) (ck (a≠0) ((zas φ (g.tmod a) (c.tmod a)).bind λk=>((z9b φ k.1 k.2.1 a).bind λm=>(d c f m.2.1 i (W (j+1)) a))))) else(d c f g i (W (j+1)) a))))
def zc2(φ:Nat)(b :(Int->Int->Int->Int->Int->Int->Option (Int×Unit)))(a c d e f g h i j k:Int):Option (Int×Unit):=(if(decide ((256:Int)<=a))=true then(if 0<=(8:Int) then(zc3 φ b ((a.fdiv (2 ^ (min (8:Int).toNat 64)))) (W (c+8)) d e f g h i j k) else none) else(zc3 φ b a c d e f g h i j k))
def z54(φ:Nat)(b :(Int->Int->Int->Int->Int->Int->Option (Int×Unit)))(a c d e f g h i j k:Int):Option (Int×Unit):=(if(decide ((65536:Int)<=a))=true then(if 0<=(16:Int) then(zc2 φ b ((a.fdiv (2 ^ (min (16:Int).toNat 64)))) (W (c+16)) d e f g h i j k) else none) else(zc2 φ b a c d e f g h i j k))
def z09(φ:Nat):Nat->Int->Int->Int->Int->Int->Int->Option (Int×Unit)
 |0,_,_,_,_,_,_=>none
 |f+1,g,a,d,e,c,b=>(if(decide (c<e))=true then(ck (b≠0) (ck (b≠0) ((zas φ (d.tmod b) (d.tmod b)).bind λh=>((z9b φ h.1 h.2.1 b).bind λi=>(if(decide ((4294967296:Int)<=a))=true then(if 0<=(32:Int) then(z54 φ (z09 φ f) ((a.fdiv (2 ^ (min (32:Int).toNat 64)))) 32 g a i.2.1 c e c a b) else none) else(z54 φ (z09 φ f) a 0 g a i.2.1 c e c a b)))))) else(some (d,())))
def zc1(φ:Nat)(a b c d e f:Int):Option (Int×Unit):=(ck (rg (IntKind.wrap .u8 (a)) zn.size) (z09 φ φ c d e ((W (b+(W ((z76 zn (IntKind.wrap .u8 (a)))))))) 0 f))
def zc0(φ:Nat)(a b c d e f:Int):Option (Int×Unit):=(if(decide ((256:Int)<=a))=true then(if 0<=(8:Int) then(zc1 φ ((a.fdiv (2 ^ (min (8:Int).toNat 64)))) (W (b+8)) c d e f) else none) else(zc1 φ a b c d e f))
def zf2(φ:Nat)(a b c d e f:Int):Option (Int×Unit):=(if(decide ((65536:Int)<=a))=true then(if 0<=(16:Int) then(zc0 φ ((a.fdiv (2 ^ (min (16:Int).toNat 64)))) (W (b+16)) c d e f) else none) else(zc0 φ a b c d e f))
def zpn(φ:Nat)(b a:Int):Option (Int×Unit):=(if(decide ((4294967296:Int)<=a))=true then(if 0<=(32:Int) then(zf2 φ ((a.fdiv (2 ^ (min (32:Int).toNat 64)))) 32 b a 1 2305843009213690799) else none) else(zf2 φ a 0 b a 1 2305843009213690799))
def zr8(φ:Nat):Fsp TV:=⟨[6,6],[.val 6],kk2 (zpn φ)⟩
def zmo(φ:Nat)(a:Int):Option (Bool×Unit):=((z9 (default,()) (((decide ((2:Int)<=a))&&(decide (a<2305843009213690799)))=true) (zpn φ a 1152921504606845399)).bind λb=>(some ((((decide ((2:Int)<=a))&&(decide (a<2305843009213690799)))&&(b.1==1)),())))
def zlr(φ:Nat):Fsp TV:=⟨[6],[.val 29],λz=>zmo φ z.1⟩
def z0y(φ:Nat):Nat->Bool->(List z56)->Int->Int->Option (Int×Unit)
 |0,_,_,_,_=>none
 |f+1,b,c,d,a=>(if(decide (a<d))=true then(ck (rg a c.length) ((z9 (default,()) (b=false) (zbf φ ((gt c a).calendar))).bind λe=>((z9 (default,()) ((b||(e.1 !=0))=false) (zmo φ ((gt c a).key))).bind λg=>((z0y φ f) (((b||(e.1 !=0))||(!g.1))) c d (W (a+1)))))) else(if b=true then(some (1,())) else(some (0,()))))
def z0x(φ:Nat):Nat->Int->Bool->(List Edge)->Int->Int->Pool->Option (Int×Unit)
 |0,_,_,_,_,_,_=>none
 |g+1,d,e,b,f,a,c=>(if(decide (a<f))=true then(ck (rg a b.length) ((z0x φ g) d ((e||(decide (d<=(gt b a).railway)))) b f (W (a+1)) c)) else(z0y φ φ e c.railways (c.railways.length:Int) 0))
def z0w(φ:Nat):Nat->Int->Bool->(List z94)->Int->Int->Pool->Option (Int×Unit)
 |0,_,_,_,_,_,_=>none
 |g+1,b,e,c,f,a,d=>(if(decide (a<f))=true then(ck (rg a c.length) ((z0w φ g) b (((e||(decide (b<=(gt c a).railway)))||(decide (b<=(gt c a).other)))) c f (W (a+1)) d)) else(z0x φ φ b e d.network.edges (d.network.edges.length:Int) 0 d))
def z0v(φ:Nat):Nat->(List z94)->Int->Bool->(List zt7)->Int->Int->Pool->Option (Int×Unit)
 |0,_,_,_,_,_,_,_=>none
 |h+1,a,d,e,c,f,b,g=>(if(decide (b<f))=true then(ck (rg b c.length) ((z0v φ h) a d ((e||(decide (((a.length:Int):Int)<=(gt c b).home)))) c f (W (b+1)) g)) else(z0w φ φ d e a (a.length:Int) 0 g))
def z0u(φ:Nat):Nat->(List z94)->Int->Bool->(List zha)->Int->Int->Pool->Option (Int×Unit)
 |0,_,_,_,_,_,_,_=>none
 |i+1,b,f,d,c,g,a,e=>(if(decide (a<g))=true then(ck (rg a c.length) ((z9 (default,()) (d=false) (zh φ ((gt c a).place) 0 (W ((b.length:Int)-1)))).bind λh=>(ck (((d||(!h.1))=false)->rg (gt c a).place b.length) ((z0u φ i) b f (((d||(!h.1))||(((gt b ((gt c a).place)).kind:Int) !=4))) c g (W (a+1)) e)))) else(z0v φ φ b f d e.fleet.wagons (e.fleet.wagons.length:Int) 0 e))
def z21(φ:Nat):Nat->(List z94)->Int->Bool->(List znx)->Int->Int->Pool->Option (Int×Unit)
 |0,_,_,_,_,_,_,_=>none
 |h+1,d,f,e,b,g,a,c=>(if(decide (a<g))=true then(ck (rg a b.length) ((z9 (default,()) (e=false) (zh φ ((gt b a).place) 0 (W ((d.length:Int)-1)))).bind λi=>((z21 φ h) d f (((((e||(!i.1))||(decide (((gt b a).low:Int)<(-1000))))||(decide (((gt b a).high:Int)<(gt b a).low)))||(decide ((1000:Int)<(gt b a).high)))) b g (W (a+1)) c))) else(z0u φ φ d f e c.shippers (c.shippers.length:Int) 0 c))
def z3t(φ:Nat)(a:Pool):Option (Int×Unit):=((zd2 φ a.network).bind λb=>(if(b.1 !=0)=true then(some (b.1,())) else((zhn φ a.fleet).bind λc=>(if(c.1 !=0)=true then(some (c.1,())) else(if(((decide ((256:Int)<(a.readers.length:Int)))||(decide ((256:Int)<(a.shippers.length:Int))))||(decide ((16:Int)<(a.railways.length:Int))))=true then(some (2,())) else(z21 φ φ a.network.places (a.railways.length:Int) (((a.railways.length:Int):Int)==0) a.readers (a.readers.length:Int) 0 a))))))
def z3q(φ:Nat):Fsp TV:=⟨[26],[.val 0],λz=>z3t φ z.1⟩
def z7u(φ:Nat)(a:Item):Option (Bool×Unit):=(if(((a.ref.railway:Int)==0)&&(((a.ref.no:Int)==0)&&true))=true then(some (((a.kind:Int) !=14),())) else(some (((((decide ((0:Int)<=a.ref.railway))&&(decide ((a.ref.railway:Int)<16)))&&(decide ((1:Int)<=a.ref.no)))&&(decide ((a.ref.no:Int)<=4096))),())))
def ze2(φ:Nat):Fsp TV:=⟨[32],[.val 29],λz=>z7u φ z.1⟩
def z9c(φ:Nat):Nat->(List Part)->Bool->(List Part)->Int->Int->Option (Bool×Unit)
 |0,_,_,_,_,_=>none
 |f+1,c,d,b,e,a=>(if(decide (a<e))=true then(ck (rg a b.length) (if(((((decide (((gt b a).kind:Int)<1))||(decide ((3:Int)<(gt b a).kind)))||(decide (((gt b a).serial:Int)<0)))||(decide ((1073741824:Int)<(gt b a).serial)))||((gt b a).fitted&&(!d)))=true then(some (false,())) else((z9c φ f) c d b e (W (a+1))))) else(some ((decide (((c.length:Int):Int)<=16)),())))
def zkp(φ:Nat)(a :(List Part))(b:Bool):Option (Bool×Unit):=(z9c φ φ a b a (a.length:Int) 0)
def zni(φ:Nat):Fsp TV:=⟨[31,29],[.val 29],kk2 (zkp φ)⟩
def z7(φ:Nat)(a:zb):Option (Bool×Unit):=(some ((((((((((((((a.ok&&((a.it.wagon:Int)==0))&&((a.it.place:Int)==0))&&((a.it.other:Int)==0))&&((a.it.number:Int)==0))&&((a.it.from_:Int)==0))&&((a.it.to:Int)==0))&&((a.it.code:Int)==0))&&((a.it.dest:Int)==0))&&((a.it.class_:Int)==0))&&((a.it.weight:Int)==0))&&((a.it.amount:Int)==0))&&(a.it.text==(⟨#[]⟩:ByteArray)))&&(((a.it.parts.length:Int):Int)==0)),()))
def z6o(φ:Nat)(b:Int)(a:zb)(c:z94):Option (Bool×Unit):=(z7 φ ((⟨a.p,(⟨a.it.kind,a.it.ref,a.it.wagon,0,a.it.other,a.it.number,0,0,a.it.code,a.it.dest,a.it.class_,a.it.weight,a.it.amount,a.it.text,a.it.parts⟩:Item),(((((a.ok&&((c.kind:Int) !=0))&&((b==0)||((c.kind:Int)==b)))&&(decide (((max2 a.it.from_ 0):Int)<=a.it.to)))&&(decide ((a.it.to:Int)<=1073741824)))&&(decide ((0:Int)<=a.it.from_)))&&(decide ((a.it.from_:Int)<=1073741824))⟩:zb)))
def z59(φ:Nat)(c:Int)(a:zb)(b:z94):Option (Bool×Unit):=(z7 φ ((⟨a.p,(⟨a.it.kind,a.it.ref,a.it.wagon,0,0,a.it.number,0,a.it.to,0,a.it.dest,a.it.class_,a.it.weight,a.it.amount,a.it.text,a.it.parts⟩:Item),((((((a.ok&&((b.kind:Int) !=0))&&((c==0)||((b.kind:Int)==c)))&&(((a.it.other:Int)==b.railway)||((a.it.other:Int)==b.other)))&&(decide ((0:Int)<=a.it.from_)))&&(decide ((a.it.from_:Int)<=1073741824)))&&(decide ((0:Int)<=a.it.code)))&&(decide ((a.it.code:Int)<=8))⟩:zb)))
def z5a(φ:Nat)(b:Int)(a:zb)(c:z94):Option (Bool×Unit):=(z7 φ ((⟨a.p,(⟨a.it.kind,a.it.ref,a.it.wagon,0,a.it.other,a.it.number,0,a.it.to,a.it.code,0,0,0,a.it.amount,a.it.text,a.it.parts⟩:Item),(((((((((a.ok&&((c.kind:Int) !=0))&&((b==0)||((c.kind:Int)==b)))&&(decide ((0:Int)<=a.it.dest)))&&(decide ((a.it.dest:Int)<=(W ((a.p.network.places.length:Int)-1)))))&&(decide ((0:Int)<=a.it.class_)))&&(decide ((a.it.class_:Int)<=63)))&&(decide ((0:Int)<=a.it.weight)))&&(decide ((a.it.weight:Int)<=1000000)))&&(decide ((0:Int)<=a.it.from_)))&&(decide ((a.it.from_:Int)<=1073741824))⟩:zb)))
def z5c(φ:Nat)(b:Int)(a:zb)(c:z94):Option (Bool×Unit):=(if((a.it.kind:Int)==6)=true then(z7 φ ((⟨a.p,(⟨a.it.kind,a.it.ref,a.it.wagon,0,0,a.it.number,0,a.it.to,0,a.it.dest,a.it.class_,a.it.weight,a.it.amount,a.it.text,a.it.parts⟩:Item),(((((((a.ok&&((c.kind:Int) !=0))&&((b==0)||((c.kind:Int)==b)))&&(decide ((0:Int)<=a.it.other)))&&(decide ((a.it.other:Int)<=(W ((a.p.shippers.length:Int)-1)))))&&(decide ((0:Int)<=a.it.from_)))&&(decide ((a.it.from_:Int)<=1073741824)))&&(decide ((0:Int)<=a.it.code)))&&(decide ((a.it.code:Int)<=1))⟩:zb))) else(z7 φ ((⟨a.p,(⟨a.it.kind,a.it.ref,a.it.wagon,0,0,a.it.number,0,a.it.to,a.it.code,a.it.dest,a.it.class_,a.it.weight,a.it.amount,a.it.text,a.it.parts⟩:Item),(((((a.ok&&((c.kind:Int) !=0))&&((b==0)||((c.kind:Int)==b)))&&(decide ((0:Int)<=a.it.other)))&&(decide ((a.it.other:Int)<=(W ((a.p.shippers.length:Int)-1)))))&&(decide ((0:Int)<=a.it.from_)))&&(decide ((a.it.from_:Int)<=1073741824))⟩:zb))))
def z5b(φ:Nat)(b:Bool)(a:zb):Option (Bool×Unit):=(if b=true then(if((decide ((0:Int)<=a.it.place))&&(decide ((a.it.place:Int)<(a.p.network.places.length:Int))))=true then(ck (rg a.it.place a.p.network.places.length) (z5c φ 0 a (gt a.p.network.places a.it.place))) else(z5c φ 0 a (⟨0,0,0⟩:z94))) else(z7 φ a))
def z58(φ:Nat)(b:Int)(c:Bool)(a:zb):Option (Bool×Unit):=(if c=true then(if((decide ((0:Int)<=a.it.place))&&(decide ((a.it.place:Int)<(a.p.network.places.length:Int))))=true then(ck (rg a.it.place a.p.network.places.length) (z59 φ 3 a (gt a.p.network.places a.it.place))) else(z59 φ 3 a (⟨0,0,0⟩:z94))) else(if(b==5)=true then(if((decide ((0:Int)<=a.it.place))&&(decide ((a.it.place:Int)<(a.p.network.places.length:Int))))=true then(ck (rg a.it.place a.p.network.places.length) (z5a φ 0 ((⟨a.p,(⟨a.it.kind,a.it.ref,a.it.wagon,a.it.place,0,0,a.it.from_,a.it.to,a.it.code,a.it.dest,a.it.class_,a.it.weight,a.it.amount,a.it.text,a.it.parts⟩:Item),(((a.ok&&(decide ((1:Int)<=a.it.number)))&&(decide ((a.it.number:Int)<=1000000000)))&&(decide ((0:Int)<=a.it.other)))&&(decide ((a.it.other:Int)<=(W ((a.p.shippers.length:Int)-1))))⟩:zb)) (gt a.p.network.places a.it.place))) else(z5a φ 0 ((⟨a.p,(⟨a.it.kind,a.it.ref,a.it.wagon,a.it.place,0,0,a.it.from_,a.it.to,a.it.code,a.it.dest,a.it.class_,a.it.weight,a.it.amount,a.it.text,a.it.parts⟩:Item),(((a.ok&&(decide ((1:Int)<=a.it.number)))&&(decide ((a.it.number:Int)<=1000000000)))&&(decide ((0:Int)<=a.it.other)))&&(decide ((a.it.other:Int)<=(W ((a.p.shippers.length:Int)-1))))⟩:zb)) (⟨0,0,0⟩:z94))) else(if(b==6)=true then(z5b φ (b==6) a) else(z5b φ (b==7) a))))
def z5d(φ:Nat)(b:Int)(a:zb)(c:z94):Option (Bool×Unit):=((z9 (default,()) (((((((((((a.ok&&((c.kind:Int) !=0))&&((b==0)||((c.kind:Int)==b)))&&(decide (((max2 a.it.from_ 0):Int)<=a.it.to)))&&(decide ((a.it.to:Int)<=1073741824)))&&(decide ((0:Int)<=a.it.from_)))&&(decide ((a.it.from_:Int)<=1073741824)))&&(decide ((1:Int)<=a.it.code)))&&(decide ((a.it.code:Int)<=2)))&&(decide ((0:Int)<=a.it.amount)))&&(decide ((a.it.amount:Int)<=1000000000)))=true) (zkp φ a.it.parts true)).bind λd=>(z7 φ ((⟨a.p,(⟨a.it.kind,a.it.ref,a.it.wagon,0,a.it.other,a.it.number,0,0,0,a.it.dest,a.it.class_,a.it.weight,0,a.it.text,([]:List Part)⟩:Item),((((((((((a.ok&&((c.kind:Int) !=0))&&((b==0)||((c.kind:Int)==b)))&&(decide (((max2 a.it.from_ 0):Int)<=a.it.to)))&&(decide ((a.it.to:Int)<=1073741824)))&&(decide ((0:Int)<=a.it.from_)))&&(decide ((a.it.from_:Int)<=1073741824)))&&(decide ((1:Int)<=a.it.code)))&&(decide ((a.it.code:Int)<=2)))&&(decide ((0:Int)<=a.it.amount)))&&(decide ((a.it.amount:Int)<=1000000000)))&&d.1⟩:zb))))
def z5e(φ:Nat)(b:Int)(a:zb)(c:z94):Option (Bool×Unit):=(z7 φ ((⟨a.p,(⟨a.it.kind,a.it.ref,a.it.wagon,0,a.it.other,0,0,0,a.it.code,a.it.dest,0,0,0,a.it.text,a.it.parts⟩:Item),(((((((((((((a.ok&&((c.kind:Int) !=0))&&((b==0)||((c.kind:Int)==b)))&&(decide ((0:Int)<=a.it.class_)))&&(decide ((a.it.class_:Int)<=63)))&&(decide ((0:Int)<=a.it.number)))&&(decide ((a.it.number:Int)<=(W ((a.p.fleet.types.length:Int)-1)))))&&(decide ((1:Int)<=a.it.weight)))&&(decide ((a.it.weight:Int)<=1000)))&&(decide (((max2 a.it.from_ 0):Int)<=a.it.to)))&&(decide ((a.it.to:Int)<=1073741824)))&&(decide ((0:Int)<=a.it.from_)))&&(decide ((a.it.from_:Int)<=1073741824)))&&(decide ((0:Int)<=a.it.amount)))&&(decide ((a.it.amount:Int)<=1000000000))⟩:zb)))
def z17(φ:Nat)(b:Int)(c:Bool)(a:zb):Option (Bool×Unit):=(if c=true then(if((a.it.kind:Int) !=13)=true then(z7 φ ((⟨a.p,(⟨a.it.kind,a.it.ref,a.it.wagon,a.it.place,a.it.other,0,0,a.it.to,a.it.code,a.it.dest,a.it.class_,a.it.weight,a.it.amount,(⟨#[]⟩:ByteArray),a.it.parts⟩:Item),(((((a.ok&&(decide ((1:Int)<=a.it.number)))&&(decide ((a.it.number:Int)<=6)))&&(decide ((0:Int)<=a.it.from_)))&&(decide ((a.it.from_:Int)<=1073741824)))&&(decide ((1:Int)<=(a.it.text.size:Int))))&&(decide (((a.it.text.size:Int):Int)<=2000))⟩:zb))) else(z7 φ ((⟨a.p,(⟨a.it.kind,a.it.ref,a.it.wagon,a.it.place,a.it.other,0,0,a.it.to,a.it.code,a.it.dest,a.it.class_,a.it.weight,a.it.amount,a.it.text,a.it.parts⟩:Item),(((a.ok&&(decide ((1:Int)<=a.it.number)))&&(decide ((a.it.number:Int)<=6)))&&(decide ((0:Int)<=a.it.from_)))&&(decide ((a.it.from_:Int)<=1073741824))⟩:zb)))) else(if(b==14)=true then(z7 φ a) else(if(b==15)=true then(if((decide ((0:Int)<=a.it.place))&&(decide ((a.it.place:Int)<(a.p.network.places.length:Int))))=true then(ck (rg a.it.place a.p.network.places.length) (z5e φ 0 ((⟨a.p,(⟨a.it.kind,a.it.ref,a.it.wagon,a.it.place,0,a.it.number,a.it.from_,a.it.to,a.it.code,a.it.dest,a.it.class_,a.it.weight,a.it.amount,a.it.text,a.it.parts⟩:Item),(a.ok&&(decide ((0:Int)<=a.it.other)))&&(decide ((a.it.other:Int)<=(W ((a.p.shippers.length:Int)-1))))⟩:zb)) (gt a.p.network.places a.it.place))) else(z5e φ 0 ((⟨a.p,(⟨a.it.kind,a.it.ref,a.it.wagon,a.it.place,0,a.it.number,a.it.from_,a.it.to,a.it.code,a.it.dest,a.it.class_,a.it.weight,a.it.amount,a.it.text,a.it.parts⟩:Item),(a.ok&&(decide ((0:Int)<=a.it.other)))&&(decide ((a.it.other:Int)<=(W ((a.p.shippers.length:Int)-1))))⟩:zb)) (⟨0,0,0⟩:z94))) else(z7 φ (⟨a.p,a.it,false⟩:zb)))))
def zz(φ:Nat)(b:Pool)(a:Item):Option (Bool×Unit):=(if(decide ((a.kind:Int)<=7))=true then(if(decide ((a.kind:Int)<1))=true then(z7 φ (⟨b,a,false⟩:zb)) else(if((a.kind:Int)==1)=true then(z7 φ ((⟨b,(⟨a.kind,a.ref,0,a.place,0,a.number,0,a.to,a.code,a.dest,a.class_,a.weight,a.amount,a.text,a.parts⟩:Item),(((((true&&(decide ((0:Int)<=a.wagon)))&&(decide ((a.wagon:Int)<=(W ((b.fleet.wagons.length:Int)-1)))))&&(decide ((0:Int)<=a.other)))&&(decide ((a.other:Int)<=(W ((b.readers.length:Int)-1)))))&&(decide ((0:Int)<=a.from_)))&&(decide ((a.from_:Int)<=1073741824))⟩:zb))) else(if((a.kind:Int)==2)=true then(if((decide ((0:Int)<=a.place))&&(decide ((a.place:Int)<(b.network.places.length:Int))))=true then(ck (rg a.place b.network.places.length) (z6o φ 0 ((⟨b,(⟨a.kind,a.ref,0,a.place,a.other,a.number,a.from_,a.to,a.code,a.dest,a.class_,a.weight,a.amount,a.text,a.parts⟩:Item),(true&&(decide ((0:Int)<=a.wagon)))&&(decide ((a.wagon:Int)<=(W ((b.fleet.wagons.length:Int)-1))))⟩:zb)) (gt b.network.places a.place))) else(z6o φ 0 ((⟨b,(⟨a.kind,a.ref,0,a.place,a.other,a.number,a.from_,a.to,a.code,a.dest,a.class_,a.weight,a.amount,a.text,a.parts⟩:Item),(true&&(decide ((0:Int)<=a.wagon)))&&(decide ((a.wagon:Int)<=(W ((b.fleet.wagons.length:Int)-1))))⟩:zb)) (⟨0,0,0⟩:z94))) else(if((a.kind:Int)==3)=true then(z58 φ a.kind ((a.kind:Int)==3) ((⟨b,(⟨a.kind,a.ref,0,a.place,a.other,a.number,a.from_,a.to,a.code,a.dest,a.class_,a.weight,a.amount,a.text,a.parts⟩:Item),(true&&(decide ((0:Int)<=a.wagon)))&&(decide ((a.wagon:Int)<=(W ((b.fleet.wagons.length:Int)-1))))⟩:zb))) else(z58 φ a.kind ((a.kind:Int)==4) ((⟨b,(⟨a.kind,a.ref,0,a.place,a.other,a.number,a.from_,a.to,a.code,a.dest,a.class_,a.weight,a.amount,a.text,a.parts⟩:Item),(true&&(decide ((0:Int)<=a.wagon)))&&(decide ((a.wagon:Int)<=(W ((b.fleet.wagons.length:Int)-1))))⟩:zb))))))) else(if((a.kind:Int)==8)=true then(z7 φ ((⟨b,(⟨a.kind,a.ref,0,a.place,a.other,a.number,0,a.to,0,a.dest,a.class_,a.weight,a.amount,a.text,a.parts⟩:Item),(((((true&&(decide ((0:Int)<=a.wagon)))&&(decide ((a.wagon:Int)<=(W ((b.fleet.wagons.length:Int)-1)))))&&(decide ((0:Int)<=a.from_)))&&(decide ((a.from_:Int)<=1073741824)))&&(decide ((1:Int)<=a.code)))&&(decide ((a.code:Int)<=9))⟩:zb))) else(if((a.kind:Int)==9)=true then(if((decide ((0:Int)<=a.place))&&(decide ((a.place:Int)<(b.network.places.length:Int))))=true then(ck (rg a.place b.network.places.length) (z5d φ 5 ((⟨b,(⟨a.kind,a.ref,0,a.place,a.other,a.number,a.from_,a.to,a.code,a.dest,a.class_,a.weight,a.amount,a.text,a.parts⟩:Item),(true&&(decide ((0:Int)<=a.wagon)))&&(decide ((a.wagon:Int)<=(W ((b.fleet.wagons.length:Int)-1))))⟩:zb)) (gt b.network.places a.place))) else(z5d φ 5 ((⟨b,(⟨a.kind,a.ref,0,a.place,a.other,a.number,a.from_,a.to,a.code,a.dest,a.class_,a.weight,a.amount,a.text,a.parts⟩:Item),(true&&(decide ((0:Int)<=a.wagon)))&&(decide ((a.wagon:Int)<=(W ((b.fleet.wagons.length:Int)-1))))⟩:zb)) (⟨0,0,0⟩:z94))) else(if((a.kind:Int)==10)=true then((z9 (default,()) ((((true&&(decide ((0:Int)<=a.other)))&&(decide ((a.other:Int)<=63)))&&(decide ((0:Int)<(a.parts.length:Int))))=true) (zkp φ a.parts false)).bind λc=>(z7 φ ((⟨b,(⟨a.kind,a.ref,a.wagon,a.place,0,a.number,a.from_,a.to,a.code,a.dest,a.class_,a.weight,a.amount,a.text,([]:List Part)⟩:Item),(((true&&(decide ((0:Int)<=a.other)))&&(decide ((a.other:Int)<=63)))&&(decide ((0:Int)<(a.parts.length:Int))))&&c.1⟩:zb)))) else(if((a.kind:Int)==11)=true then(z17 φ a.kind ((a.kind:Int)==11) (⟨b,a,true⟩:zb)) else(if((a.kind:Int)==12)=true then(z17 φ a.kind ((a.kind:Int)==12) (⟨b,a,true⟩:zb)) else(z17 φ a.kind ((a.kind:Int)==13) (⟨b,a,true⟩:zb))))))))
def zko(φ:Nat):Fsp TV:=⟨[26,32],[.val 29],kk2 (zz φ)⟩
def zkm(φ:Nat)(a:Pool)(b:Item):Option (Int×Unit):=((z3t φ a).bind λc=>(if(c.1 !=0)=true then(some (c.1,())) else((z7u φ b).bind λd=>((z9 (default,()) ((!d.1)=false) (zz φ a b)).bind λe=>(if((!d.1)||(!e.1))=true then(some (110,())) else(some (0,())))))))
def zng(φ:Nat):Fsp TV:=⟨[26,32],[.val 0],kk2 (zkm φ)⟩
def z67(φ:Nat):Nat->Int->(List z5)->Int->Int->Pool->(List Int)->Option ((List Int)×Unit)
 |0,_,_,_,_,_,_=>none
 |g+1,c,b,e,a,f,d=>(if(decide (a<e))=true then(ck (rg a b.length) ((z9 (default,()) (((((gt b a).item).kind:Int)==c)=true) (zkm φ f ((gt b a).item))).bind λh=>(if(((((gt b a).item).kind:Int)==c)&&(h.1==0))=true then(ck (fits (d.length+([a]).length) 8) ((z67 φ g) c b e (W (a+1)) f (d++[a]))) else((z67 φ g) c b e (W (a+1)) f d)))) else(some (d,())))
def znk(φ:Nat)(b:Pool)(a :(List z5))(c:Int):Option ((List Int)×Unit):=(z67 φ φ c a (a.length:Int) 0 b ([]:List Int))
def z7y(φ:Nat):Nat->Int->(List z5)->Int->Int->Pool->(List Int)->Option ((List Int)×Unit)
 |0,_,_,_,_,_,_=>none
 |g+1,c,b,e,a,f,d=>(if(decide (a<e))=true then(ck (rg a b.length) ((z9 (default,()) (((((gt b a).item).kind:Int)==c)=true) (zkm φ f ((gt b a).item))).bind λh=>(if(((((gt b a).item).kind:Int)==c)&&(h.1==0))=true then(ck (fits (d.length+([a]).length) 8) ((z7y φ g) c b e (W (a+1)) f (d++[a]))) else((z7y φ g) c b e (W (a+1)) f d)))) else(some (d,())))
def z4y(φ:Nat)(b:Pool)(a :(List z5))(c:Int):Option ((List Int)×Unit):=(z7y φ φ c a (a.length:Int) 0 b ([]:List Int))
def z9n(φ:Nat):Fsp TV:=⟨[26,36,0],[.row 3 0],kk3 (z4y φ)⟩
def zo6(φ:Nat)(a:Int):Option (Bool×Unit):=(some ((a !=a),()))
def zne(φ:Nat):Fsp TV:=⟨[0],[.val 29],λz=>zo6 φ z.1⟩
def z6n(φ:Nat)(a b:Int):Option (Int×Unit):=((zo6 φ a).bind λd=>((zo6 φ b).bind λc=>(if d.1=true then(if c.1=true then(some (0,())) else(some ((-1),()))) else(if c.1=true then(some (1,())) else(if(decide (a<b))=true then(some ((-1),())) else(if(decide (b<a))=true then(some (1,())) else(some (0,()))))))))
def z7t(φ:Nat):Fsp TV:=⟨[0,0],[.val 0],kk2 (z6n φ)⟩
def zbr(φ:Nat):Nat->Int->(List Int)->Int->Int->Option (Int×Unit)
 |0,_,_,_,_=>none
 |e+1,c,b,d,a=>(if(decide (a<d))=true then(ck (rg a b.length) (if(((gt b a):Int) !=c)=true then(some ((gt b a),())) else((zbr φ e) c b d (W (a+1))))) else(some (c,())))
def zo5(φ:Nat)(a :(List Int)):Option (Int×Unit):=(zbr φ φ 0 a (a.length:Int) 0)
def zlw(φ:Nat):Fsp TV:=⟨[22],[.val 0],λz=>zo5 φ z.1⟩
def z18(φ:Nat)(a b:Ref):Option (Int×Unit):=((z6n φ a.railway b.railway).bind λc=>((z6n φ a.no b.no).bind λd=>((zo5 φ ([c.1,d.1])).bind λe=>(some (e.1,())))))
def z4n(φ:Nat):Fsp TV:=⟨[27,27],[.val 0],kk2 (z18 φ)⟩
def z4o(φ:Nat)(b c:Int)(a :(List z5)):Option (Int×Unit):=(ck (rg b a.length) (ck (rg c a.length) ((z6n φ (((gt a b).item).from_) (((gt a c).item).from_)).bind λd=>(ck (rg b a.length) (ck (rg c a.length) ((z18 φ ((gt a b).ref) ((gt a c).ref)).bind λe=>((zo5 φ ([d.1,e.1])).bind λf=>(some (f.1,())))))))))
def z9p(φ:Nat):Csp TV:=⟨[0,0],[.b (.val 36)],[.val 0],λz b=>z4o φ z.1 z.2.1 b.1⟩
def z29(φ:Nat)(e :(Int->Int->(Int->Int->Option Int)->Int->(List Int)->Option (List Int))):Nat->Int->Int->(Int->Int->Option Int)->Int->Int->(List Int)->Option (List Int)
 |0,_,_,_,_,_,_=>none
 |h+1,c,f,d,g,a,b=>(ck (((decide (c<a))=true)->rg a b.length) (ck (((decide (c<a))=true)->rg (W (a-1)) b.length) ((z9 (0:Int) ((decide (c<a))=true) (d (gt b a) (gt b (W (a-1))))).bind λi=>(if((decide (c<a))&&(decide (i<0)))=true then(ck (rg (W (a-1)) b.length) (ck (rg a b.length) (ck (rg a b.length) (ck (rg (W (a-1)) (((zk b a (gt b (W (a-1))))).length)) ((z29 φ e h) c f d g (W (a-1)) ((zk ((zk b a (gt b (W (a-1))))) (W (a-1)) (gt b a)))))))) else(e c f d (W (g+1)) b)))))
def z28(φ:Nat):Nat->Int->Int->(Int->Int->Option Int)->Int->(List Int)->Option (List Int)
 |0,_,_,_,_,_=>none
 |d+1,e,b,f,a,c=>(if(decide (a<b))=true then(z29 φ (z28 φ d) φ e b f a a c) else(some c))
def z3z(φ:Nat)(b :(List Int))(a c:Int)(d :(Int->Int->Option Int)):Option (List Int):=(z28 φ φ a c d (W (a+1)) b)
def z32(φ:Nat):Msp TV:=⟨3,0,[.val 0,.val 0,.cmp 0],λl z=>z3z φ l z.1 z.2.1 z.2.2.1⟩
def z46(φ:Nat):Nat->Int->Int->Int->Int->(List Int)->Option (List Int)
 |0,_,_,_,_,_=>none
 |f+1,c,d,e,a,b=>(if(decide (a<e))=true then(ck (rg (W (d+a)) b.length) (ck (rg (W (c+a)) b.length) (ck (rg (W (c+a)) b.length) (ck (rg (W (d+a)) (((zk b (W (c+a)) (gt b (W (d+a))))).length)) ((z46 φ f) c d e (W (a+1)) ((zk ((zk b (W (c+a)) (gt b (W (d+a))))) (W (d+a)) (gt b (W (c+a)))))))))) else(some b))
def z3l(φ:Nat)(a :(List Int))(b c d:Int)(e :(Int->Int->Option Int)):Option (List Int):=(z46 φ φ b c d 0 a)
def z5z(φ:Nat):Msp TV:=⟨3,0,[.val 0,.val 0,.val 0,.cmp 0],λl z=>z3l φ l z.1 z.2.1 z.2.2.1 z.2.2.2.1⟩
def z2x(φ:Nat):Nat->Int->(Int->Int->Option Int)->Int->Int->(List Int)->Option (List Int)
 |0,_,_,_,_,_=>none
 |f+1,b,d,a,c,e=>(if(a !=c)=true then(if(decide (c<a))=true then((z3l φ e (W (b-a)) b c d).bind λg=>((z2x φ f) b d (W (a-c)) c g)) else((z3l φ e (W (b-a)) ((W ((W (b+c))-a))) a d).bind λh=>((z2x φ f) b d a (W (c-a)) h))) else((z3l φ e (W (b-a)) b a d).bind λi=>(some i)))
def zcs(φ:Nat)(b :(List Int))(c a d:Int)(e :(Int->Int->Option Int)):Option (List Int):=(z2x φ φ a e (W (a-c)) (W (d-a)) b)
def z72(φ:Nat):Msp TV:=⟨3,0,[.val 0,.val 0,.val 0,.cmp 0],λl z=>zcs φ l z.1 z.2.1 z.2.2.1 z.2.2.2.1⟩
def z4g(φ:Nat):Nat->Int->Int->(List Int)->Option (List Int)
 |0,_,_,_=>none
 |d+1,c,a,b=>(if(decide (a<(W (c-1))))=true then(ck (rg (W (a+1)) b.length) (ck (rg a b.length) (ck (rg a b.length) (ck (rg (W (a+1)) (((zk b a (gt b (W (a+1))))).length)) ((z4g φ d) c (W (a+1)) ((zk ((zk b a (gt b (W (a+1))))) (W (a+1)) (gt b a)))))))) else(some b))
def z1v(φ:Nat):Nat->Int->(Int->Int->Option Int)->Int->Int->(List Int)->Option (List Int)
 |0,_,_,_,_,_=>none
 |f+1,d,e,a,c,b=>(if(decide (a<c))=true then(if 0<=(1:Int) then(ck (rg ((W ((((U ((W (a+c)))):Int).fdiv (2 ^ (min (1:Int).toNat 64)))))) b.length) (ck (rg d b.length) ((e ((gt b ((W ((((U ((W (a+c)))):Int).fdiv (2 ^ (min (1:Int).toNat 64)))))))) (gt b d)).bind λg=>(if(decide (g<0))=true then((z1v φ f) d e ((W ((W ((((U ((W (a+c)))):Int).fdiv (2 ^ (min (1:Int).toNat 64)))))+1))) c b) else((z1v φ f) d e a ((W ((((U ((W (a+c)))):Int).fdiv (2 ^ (min (1:Int).toNat 64)))))) b))))) else none) else(z4g φ φ a d b))
def z4h(φ:Nat):Nat->Int->Int->(List Int)->Option (List Int)
 |0,_,_,_=>none
 |d+1,c,a,b=>(if(decide (c<a))=true then(ck (rg (W (a-1)) b.length) (ck (rg a b.length) (ck (rg a b.length) (ck (rg (W (a-1)) (((zk b a (gt b (W (a-1))))).length)) ((z4h φ d) c (W (a-1)) ((zk ((zk b a (gt b (W (a-1))))) (W (a-1)) (gt b a)))))))) else(some b))
def z1w(φ:Nat):Nat->Int->(Int->Int->Option Int)->Int->Int->(List Int)->Option (List Int)
 |0,_,_,_,_,_=>none
 |f+1,d,e,a,c,b=>(if(decide (a<c))=true then(if 0<=(1:Int) then(ck (rg d b.length) (ck (rg ((W ((((U ((W (a+c)))):Int).fdiv (2 ^ (min (1:Int).toNat 64)))))) b.length) ((e (gt b d) ((gt b ((W ((((U ((W (a+c)))):Int).fdiv (2 ^ (min (1:Int).toNat 64))))))))).bind λg=>(if(!(decide (g<0)))=true then((z1w φ f) d e ((W ((W ((((U ((W (a+c)))):Int).fdiv (2 ^ (min (1:Int).toNat 64)))))+1))) c b) else((z1w φ f) d e a ((W ((((U ((W (a+c)))):Int).fdiv (2 ^ (min (1:Int).toNat 64)))))) b))))) else none) else(z4h φ φ a d b))
def z4k(φ:Nat)(e :((List Int)->Int->Int->Int->(Int->Int->Option Int)->Option (List Int)))(b:Int)(f :(Int->Int->Option Int))(c a:Int)(d :(List Int)):Option (List Int):=(if((decide (c<a))&&(decide (a<b)))=true then((e d c a b f).bind λg=>(some g)) else(some d))
def z4j(φ:Nat)(b :((List Int)->Int->Int->Int->(Int->Int->Option Int)->Option (List Int)))(e f:Int)(c :(Int->Int->Option Int))(a d g:Int)(h :(List Int)):Option (List Int):=(if((decide (e<d))&&(decide (d<a)))=true then((b h e d a c).bind λi=>(z4k φ b f c a g i)) else(z4k φ b f c a g h))
def z1x(φ:Nat)(g :((List Int)->Int->Int->Int->(Int->Int->Option Int)->Option (List Int))):Nat->Int->Int->Int->(Int->Int->Option Int)->Int->Int->Int->Int->Int->(List Int)->Option (List Int)
 |0,_,_,_,_,_,_,_,_,_,_=>none
 |l+1,h,f,i,d,j,e,a,b,k,c=>(if(decide (a<b))=true then(if 0<=(1:Int) then(ck (rg ((W (k-(W ((((U ((W (a+b)))):Int).fdiv (2 ^ (min (1:Int).toNat 64)))))))) c.length) (ck (rg ((W ((((U ((W (a+b)))):Int).fdiv (2 ^ (min (1:Int).toNat 64)))))) c.length) ((d ((gt c ((W (k-(W ((((U ((W (a+b)))):Int).fdiv (2 ^ (min (1:Int).toNat 64)))))))))) ((gt c ((W ((((U ((W (a+b)))):Int).fdiv (2 ^ (min (1:Int).toNat 64))))))))).bind λm=>(if(!(decide (m<0)))=true then((z1x φ g l) h f i d j e ((W ((W ((((U ((W (a+b)))):Int).fdiv (2 ^ (min (1:Int).toNat 64)))))+1))) b k c) else((z1x φ g l) h f i d j e a ((W ((((U ((W (a+b)))):Int).fdiv (2 ^ (min (1:Int).toNat 64)))))) k c))))) else none) else(if((decide (a<f))&&(decide (f<(W (e-a)))))=true then((zcs φ c a f (W (e-a)) d).bind λn=>(z4j φ g h i d j a (W (e-a)) n)) else(z4j φ g h i d j a (W (e-a)) c)))
def z4i(φ:Nat)(b :((List Int)->Int->Int->Int->(Int->Int->Option Int)->Option (List Int)))(c d e:Int)(f :(Int->Int->Option Int))(g a h i:Int)(j :(List Int)):Option (List Int):=(z1x φ b φ c d e f g a h i (W (a-1)) j)
def zp(φ:Nat):Nat->(List Int)->Int->Int->Int->(Int->Int->Option Int)->Option (List Int)
 |0,_,_,_,_,_=>none
 |d+1,e,a,b,c,f=>(if(((W (b-a)):Int)==1)=true then(z1v φ φ a f b c e) else(if(((W (c-b)):Int)==1)=true then(z1w φ φ b f a b e) else(if 0<=(1:Int) then(if(decide (((W ((((U ((W (a+c)))):Int).fdiv (2 ^ (min (1:Int).toNat 64))))):Int)<b))=true then(z4i φ (zp φ d) a b c f ((W ((((U ((W (a+c)))):Int).fdiv (2 ^ (min (1:Int).toNat 64)))))) ((W ((W ((((U ((W (a+c)))):Int).fdiv (2 ^ (min (1:Int).toNat 64)))))+b))) ((W ((W ((W ((((U ((W (a+c)))):Int).fdiv (2 ^ (min (1:Int).toNat 64)))))+b))-c))) ((W ((((U ((W (a+c)))):Int).fdiv (2 ^ (min (1:Int).toNat 64)))))) e) else(z4i φ (zp φ d) a b c f ((W ((((U ((W (a+c)))):Int).fdiv (2 ^ (min (1:Int).toNat 64)))))) ((W ((W ((((U ((W (a+c)))):Int).fdiv (2 ^ (min (1:Int).toNat 64)))))+b))) a b e)) else none)))
def z2z(φ d:Nat):Msp TV:=⟨3,0,[.val 0,.val 0,.val 0,.cmp 0],λl z=>zp φ d l z.1 z.2.1 z.2.2.1 z.2.2.2.1⟩
def z6i(φ:Nat)(f :(Int->(Int->Int->Option Int)->Int->(List Int)->Option (List Int))):Nat->Int->(Int->Int->Option Int)->Int->Int->Int->(List Int)->Option (List Int)
 |0,_,_,_,_,_,_=>none
 |h+1,b,c,a,d,e,g=>(if(decide (e<=b))=true then((zp φ φ g d (W (d+a)) e c).bind λi=>((z6i φ f h) b c a e ((W (e+(W (2*a))))) i)) else(if(decide (((W (d+a)):Int)<b))=true then((zp φ φ g d (W (d+a)) b c).bind λj=>(f b c (W (a*2)) j)) else(f b c (W (a*2)) g)))
def z6h(φ:Nat):Nat->Int->(Int->Int->Option Int)->Int->(List Int)->Option (List Int)
 |0,_,_,_,_=>none
 |d+1,b,e,a,c=>(if(decide (a<b))=true then(z6i φ (z6h φ d) φ b e a 0 (W (2*a)) c) else(some c))
def z6g(φ:Nat):Nat->Int->(Int->Int->Option Int)->Int->Int->Int->(List Int)->Option (List Int)
 |0,_,_,_,_,_,_=>none
 |g+1,a,b,d,e,c,f=>(if(decide (c<=a))=true then((z3z φ f e c b).bind λh=>((z6g φ g) a b d c (W (c+d)) h)) else((z3z φ f e a b).bind λi=>(z6h φ φ a b d i)))
def zct(φ:Nat)(a :(List Int))(b:Int)(c :(Int->Int->Option Int)):Option (List Int):=(z6g φ φ b c 20 0 20 a)
def z74(φ:Nat):Msp TV:=⟨3,0,[.val 0,.cmp 0],λl z=>zct φ l z.1 z.2.1⟩
def z55(φ:Nat)(a :(List Int))(b :(Int->Int->Option Int)):Option (List Int):=((zct φ a (a.length:Int) b).bind λc=>(some c))
def z6r(φ:Nat):Msp TV:=⟨3,0,[.cmp 0],λl z=>z55 φ l z.1⟩
def ze7(φ:Nat)(b:Pool)(a:z5):Option (Bool×Unit):=(ck (rg a.item.place b.network.places.length) (some ((((a.ref.railway:Int) !=a.item.other)&&(((((gt b.network.places a.item.place).railway:Int)==a.ref.railway)&&(((gt b.network.places a.item.place).other:Int)==a.item.other))||((((gt b.network.places a.item.place).railway:Int)==a.item.other)&&(((gt b.network.places a.item.place).other:Int)==a.ref.railway)))),())))
def zay(φ:Nat):Fsp TV:=⟨[26,33],[.val 29],kk2 (ze7 φ)⟩
def zbu(φ:Nat)(a b:z5):Option (Int×Unit):=(some ((max2 (W (a.item.from_-b.item.from_)) (W (b.item.from_-a.item.from_))),()))
def zg3(φ:Nat):Fsp TV:=⟨[33,33],[.val 0],kk2 (zbu φ)⟩
def z05(φ:Nat)(h :(Int->Int->Pool->(List z5)->(List Int)->(List (Int×Bool))->(List (Nat->Int))->(List Int)->Option ((List (Nat->Int))×Unit))):Nat->Int->Int->Int->Int->Int->Int->Pool->(List z5)->(List Int)->(List (Int×Bool))->(List (Nat->Int))->z5->(List Int)->Option ((List (Nat->Int))×Unit)
 |0,_,_,_,_,_,_,_,_,_,_,_,_,_=>none
 |o+1,i,d,j,k,n,c,l,a,b,f,g,e,m=>(if(decide (c<n))=true then(ck (rg c b.length) (ck (rg (gt b c) a.length) ((z9 (default,()) (((((((cget kl_0 f (gt b c)).getD (default:Bool))||((((gt a (gt b c)).ref).railway:Int) !=e.item.other))||((((gt a (gt b c)).item).other:Int) !=e.ref.railway))||((((gt a (gt b c)).item).wagon:Int) !=e.item.wagon))||((((gt a (gt b c)).item).place:Int) !=e.item.place))=false) (zbu φ e (gt a (gt b c)))).bind λp=>(if(((((((cget kl_0 f (gt b c)).getD (default:Bool))||((((gt a (gt b c)).ref).railway:Int) !=e.item.other))||((((gt a (gt b c)).item).other:Int) !=e.ref.railway))||((((gt a (gt b c)).item).wagon:Int) !=e.item.wagon))||((((gt a (gt b c)).item).place:Int) !=e.item.place))||(decide ((60:Int)<p.1)))=true then((z05 φ h o) i d j k n (W (c+1)) l a b f g e m) else(ck (((decide ((0:Int)<=d))=true)->rg d a.length) ((z9 (default,()) ((decide ((0:Int)<=d))=true) (zbu φ e (gt a d))).bind λq=>((z9 (default,()) ((decide ((0:Int)<=d))=true) (zbu φ e (gt a (gt b c)))).bind λr=>((z9 (default,()) ((decide ((0:Int)<=d))=true) (z6n φ q.1 r.1)).bind λs=>(ck (((decide ((0:Int)<=d))=true)->rg d a.length) ((z9 (default,()) ((decide ((0:Int)<=d))=true) (z18 φ ((gt a d).ref) ((gt a (gt b c)).ref))).bind λt=>((z9 (default,()) ((decide ((0:Int)<=d))=true) (zo5 φ ([s.1,t.1]))).bind λu=>(if((decide ((0:Int)<=d))&&(decide (u.1<=0)))=true then((z05 φ h o) i d j k n (W (c+1)) l a b f g e m) else((z05 φ h o) i (gt b c) j k n (W (c+1)) l a b f g e m))))))))))))) else(if(decide ((0:Int)<=d))=true then(ck (fits (g.length+([(upd (upd (λ_=>(default:Int)) 0 i) 1 d)]).length) 16) (h j (W (k+1)) l a b (cset kl_0 f d true) ((g++[(upd (upd (λ_=>(default:Int)) 0 i) 1 d)])) m)) else(h j (W (k+1)) l a b f g m)))
def z1e(φ:Nat):Nat->Int->Int->Pool->(List z5)->(List Int)->(List (Int×Bool))->(List (Nat->Int))->(List Int)->Option ((List (Nat->Int))×Unit)
 |0,_,_,_,_,_,_,_,_=>none
 |h+1,d,a,e,c,f,i,g,b=>(if(decide (a<d))=true then(ck (rg a b.length) (ck (rg (gt b a) c.length) ((ze7 φ e (gt c (gt b a))).bind λj=>(if(!j.1)=true then((z1e φ h) d (W (a+1)) e c f i g b) else(z05 φ (z1e φ h) φ (gt b a) (-1) d a (f.length:Int) 0 e c f i g (gt c (gt b a)) b))))) else(some (g,())))
def z5g(φ:Nat)(c:Pool)(d :(List z5)):Option ((List (Nat->Int))×Unit):=((z3t φ c).bind λf=>(if(f.1 !=0)=true then(some (([]:List (Nat->Int)),())) else((z4y φ c d 3).bind λg=>((z4y φ c d 4).bind λh=>((z55 φ g.1 (λa b=>(z4o φ a b d).bind λr=>(some r.1))).bind λe=>(z1e φ φ (e.length:Int) 0 c d h.1 ([] :(List (Int×Bool))) ([]:List (Nat->Int)) e))))))
def z8y(φ:Nat):Fsp TV:=⟨[26,36],[.val 38],kk2 (z5g φ)⟩
def z13(φ:Nat)(e :(Int->Int->(z3->z3->Option Int)->Int->(List z3)->Option (List z3))):Nat->Int->Int->(z3->z3->Option Int)->Int->Int->(List z3)->Option (List z3)
 |0,_,_,_,_,_,_=>none
 |h+1,c,f,d,g,a,b=>(ck (((decide (c<a))=true)->rg a b.length) (ck (((decide (c<a))=true)->rg (W (a-1)) b.length) ((z9 (0:Int) ((decide (c<a))=true) (d (gt b a) (gt b (W (a-1))))).bind λi=>(if((decide (c<a))&&(decide (i<0)))=true then(ck (rg (W (a-1)) b.length) (ck (rg a b.length) (ck (rg a b.length) (ck (rg (W (a-1)) (((zk b a (gt b (W (a-1))))).length)) ((z13 φ e h) c f d g (W (a-1)) ((zk ((zk b a (gt b (W (a-1))))) (W (a-1)) (gt b a)))))))) else(e c f d (W (g+1)) b)))))
def z12(φ:Nat):Nat->Int->Int->(z3->z3->Option Int)->Int->(List z3)->Option (List z3)
 |0,_,_,_,_,_=>none
 |d+1,e,b,f,a,c=>(if(decide (a<b))=true then(z13 φ (z12 φ d) φ e b f a a c) else(some c))
def z2q(φ:Nat)(b :(List z3))(a c:Int)(d :(z3->z3->Option Int)):Option (List z3):=(z12 φ φ a c d (W (a+1)) b)
def z1q(φ:Nat):Msp TV:=⟨64,39,[.val 0,.val 0,.cmp 39],λl z=>z2q φ l z.1 z.2.1 z.2.2.1⟩
def z2a(φ:Nat):Nat->Int->Int->Int->Int->(List z3)->Option (List z3)
 |0,_,_,_,_,_=>none
 |f+1,c,d,e,a,b=>(if(decide (a<e))=true then(ck (rg (W (d+a)) b.length) (ck (rg (W (c+a)) b.length) (ck (rg (W (c+a)) b.length) (ck (rg (W (d+a)) (((zk b (W (c+a)) (gt b (W (d+a))))).length)) ((z2a φ f) c d e (W (a+1)) ((zk ((zk b (W (c+a)) (gt b (W (d+a))))) (W (d+a)) (gt b (W (c+a)))))))))) else(some b))
def z1j(φ:Nat)(a :(List z3))(b c d:Int)(e :(z3->z3->Option Int)):Option (List z3):=(z2a φ φ b c d 0 a)
def z34(φ:Nat):Msp TV:=⟨64,39,[.val 0,.val 0,.val 0,.cmp 39],λl z=>z1j φ l z.1 z.2.1 z.2.2.1 z.2.2.2.1⟩
def z1h(φ:Nat):Nat->Int->(z3->z3->Option Int)->Int->Int->(List z3)->Option (List z3)
 |0,_,_,_,_,_=>none
 |f+1,b,d,a,c,e=>(if(a !=c)=true then(if(decide (c<a))=true then((z1j φ e (W (b-a)) b c d).bind λg=>((z1h φ f) b d (W (a-c)) c g)) else((z1j φ e (W (b-a)) ((W ((W (b+c))-a))) a d).bind λh=>((z1h φ f) b d a (W (c-a)) h))) else((z1j φ e (W (b-a)) b a d).bind λi=>(some i)))
def zaf(φ:Nat)(b :(List z3))(c a d:Int)(e :(z3->z3->Option Int)):Option (List z3):=(z1h φ φ a e (W (a-c)) (W (d-a)) b)
def z5r(φ:Nat):Msp TV:=⟨64,39,[.val 0,.val 0,.val 0,.cmp 39],λl z=>zaf φ l z.1 z.2.1 z.2.2.1 z.2.2.2.1⟩
def z37(φ:Nat):Nat->Int->Int->(List z3)->Option (List z3)
 |0,_,_,_=>none
 |d+1,c,a,b=>(if(decide (a<(W (c-1))))=true then(ck (rg (W (a+1)) b.length) (ck (rg a b.length) (ck (rg a b.length) (ck (rg (W (a+1)) (((zk b a (gt b (W (a+1))))).length)) ((z37 φ d) c (W (a+1)) ((zk ((zk b a (gt b (W (a+1))))) (W (a+1)) (gt b a)))))))) else(some b))
def z0n(φ:Nat):Nat->Int->(z3->z3->Option Int)->Int->Int->(List z3)->Option (List z3)
 |0,_,_,_,_,_=>none
 |f+1,d,e,a,c,b=>(if(decide (a<c))=true then(if 0<=(1:Int) then(ck (rg ((W ((((U ((W (a+c)))):Int).fdiv (2 ^ (min (1:Int).toNat 64)))))) b.length) (ck (rg d b.length) ((e (((gt b ((W ((((U ((W (a+c)))):Int).fdiv (2 ^ (min (1:Int).toNat 64))))))))) (gt b d)).bind λg=>(if(decide (g<0))=true then((z0n φ f) d e ((W ((W ((((U ((W (a+c)))):Int).fdiv (2 ^ (min (1:Int).toNat 64)))))+1))) c b) else((z0n φ f) d e a ((W ((((U ((W (a+c)))):Int).fdiv (2 ^ (min (1:Int).toNat 64)))))) b))))) else none) else(z37 φ φ a d b))
def z38(φ:Nat):Nat->Int->Int->(List z3)->Option (List z3)
 |0,_,_,_=>none
 |d+1,c,a,b=>(if(decide (c<a))=true then(ck (rg (W (a-1)) b.length) (ck (rg a b.length) (ck (rg a b.length) (ck (rg (W (a-1)) (((zk b a (gt b (W (a-1))))).length)) ((z38 φ d) c (W (a-1)) ((zk ((zk b a (gt b (W (a-1))))) (W (a-1)) (gt b a)))))))) else(some b))
def z0o(φ:Nat):Nat->Int->(z3->z3->Option Int)->Int->Int->(List z3)->Option (List z3)
 |0,_,_,_,_,_=>none
 |f+1,d,e,a,c,b=>(if(decide (a<c))=true then(if 0<=(1:Int) then(ck (rg d b.length) (ck (rg ((W ((((U ((W (a+c)))):Int).fdiv (2 ^ (min (1:Int).toNat 64)))))) b.length) ((e (gt b d) (((gt b ((W ((((U ((W (a+c)))):Int).fdiv (2 ^ (min (1:Int).toNat 64)))))))))).bind λg=>(if(!(decide (g<0)))=true then((z0o φ f) d e ((W ((W ((((U ((W (a+c)))):Int).fdiv (2 ^ (min (1:Int).toNat 64)))))+1))) c b) else((z0o φ f) d e a ((W ((((U ((W (a+c)))):Int).fdiv (2 ^ (min (1:Int).toNat 64)))))) b))))) else none) else(z38 φ φ a d b))
def z3b(φ:Nat)(e :((List z3)->Int->Int->Int->(z3->z3->Option Int)->Option (List z3)))(b:Int)(f :(z3->z3->Option Int))(c a:Int)(d :(List z3)):Option (List z3):=(if((decide (c<a))&&(decide (a<b)))=true then((e d c a b f).bind λg=>(some g)) else(some d))
def z3a(φ:Nat)(b :((List z3)->Int->Int->Int->(z3->z3->Option Int)->Option (List z3)))(e f:Int)(c :(z3->z3->Option Int))(a d g:Int)(h :(List z3)):Option (List z3):=(if((decide (e<d))&&(decide (d<a)))=true then((b h e d a c).bind λi=>(z3b φ b f c a g i)) else(z3b φ b f c a g h))
def z0p(φ:Nat)(g :((List z3)->Int->Int->Int->(z3->z3->Option Int)->Option (List z3))):Nat->Int->Int->Int->(z3->z3->Option Int)->Int->Int->Int->Int->Int->(List z3)->Option (List z3)
 |0,_,_,_,_,_,_,_,_,_,_=>none
 |l+1,h,f,i,d,j,e,a,b,k,c=>(if(decide (a<b))=true then(if 0<=(1:Int) then(ck (rg ((W (k-(W ((((U ((W (a+b)))):Int).fdiv (2 ^ (min (1:Int).toNat 64)))))))) c.length) (ck (rg ((W ((((U ((W (a+b)))):Int).fdiv (2 ^ (min (1:Int).toNat 64)))))) c.length) ((d (((gt c ((W (k-(W ((((U ((W (a+b)))):Int).fdiv (2 ^ (min (1:Int).toNat 64))))))))))) (((gt c ((W ((((U ((W (a+b)))):Int).fdiv (2 ^ (min (1:Int).toNat 64)))))))))).bind λm=>(if(!(decide (m<0)))=true then((z0p φ g l) h f i d j e ((W ((W ((((U ((W (a+b)))):Int).fdiv (2 ^ (min (1:Int).toNat 64)))))+1))) b k c) else((z0p φ g l) h f i d j e a ((W ((((U ((W (a+b)))):Int).fdiv (2 ^ (min (1:Int).toNat 64)))))) k c))))) else none) else(if((decide (a<f))&&(decide (f<(W (e-a)))))=true then((zaf φ c a f (W (e-a)) d).bind λn=>(z3a φ g h i d j a (W (e-a)) n)) else(z3a φ g h i d j a (W (e-a)) c)))
def z39(φ:Nat)(b :((List z3)->Int->Int->Int->(z3->z3->Option Int)->Option (List z3)))(c d e:Int)(f :(z3->z3->Option Int))(g a h i:Int)(j :(List z3)):Option (List z3):=(z0p φ b φ c d e f g a h i (W (a-1)) j)
def zi(φ:Nat):Nat->(List z3)->Int->Int->Int->(z3->z3->Option Int)->Option (List z3)
 |0,_,_,_,_,_=>none
 |d+1,e,a,b,c,f=>(if(((W (b-a)):Int)==1)=true then(z0n φ φ a f b c e) else(if(((W (c-b)):Int)==1)=true then(z0o φ φ b f a b e) else(if 0<=(1:Int) then(if(decide (((W ((((U ((W (a+c)))):Int).fdiv (2 ^ (min (1:Int).toNat 64))))):Int)<b))=true then(z39 φ (zi φ d) a b c f ((W ((((U ((W (a+c)))):Int).fdiv (2 ^ (min (1:Int).toNat 64)))))) ((W ((W ((((U ((W (a+c)))):Int).fdiv (2 ^ (min (1:Int).toNat 64)))))+b))) ((W ((W ((W ((((U ((W (a+c)))):Int).fdiv (2 ^ (min (1:Int).toNat 64)))))+b))-c))) ((W ((((U ((W (a+c)))):Int).fdiv (2 ^ (min (1:Int).toNat 64)))))) e) else(z39 φ (zi φ d) a b c f ((W ((((U ((W (a+c)))):Int).fdiv (2 ^ (min (1:Int).toNat 64)))))) ((W ((W ((((U ((W (a+c)))):Int).fdiv (2 ^ (min (1:Int).toNat 64)))))+b))) a b e)) else none)))
def z1m(φ d:Nat):Msp TV:=⟨64,39,[.val 0,.val 0,.val 0,.cmp 39],λl z=>zi φ d l z.1 z.2.1 z.2.2.1 z.2.2.2.1⟩
def z42(φ:Nat)(f :(Int->(z3->z3->Option Int)->Int->(List z3)->Option (List z3))):Nat->Int->(z3->z3->Option Int)->Int->Int->Int->(List z3)->Option (List z3)
 |0,_,_,_,_,_,_=>none
 |h+1,b,c,a,d,e,g=>(if(decide (e<=b))=true then((zi φ φ g d (W (d+a)) e c).bind λi=>((z42 φ f h) b c a e ((W (e+(W (2*a))))) i)) else(if(decide (((W (d+a)):Int)<b))=true then((zi φ φ g d (W (d+a)) b c).bind λj=>(f b c (W (a*2)) j)) else(f b c (W (a*2)) g)))
def z41(φ:Nat):Nat->Int->(z3->z3->Option Int)->Int->(List z3)->Option (List z3)
 |0,_,_,_,_=>none
 |d+1,b,e,a,c=>(if(decide (a<b))=true then(z42 φ (z41 φ d) φ b e a 0 (W (2*a)) c) else(some c))
def z40(φ:Nat):Nat->Int->(z3->z3->Option Int)->Int->Int->Int->(List z3)->Option (List z3)
 |0,_,_,_,_,_,_=>none
 |g+1,a,b,d,e,c,f=>(if(decide (c<=a))=true then((z2q φ f e c b).bind λh=>((z40 φ g) a b d c (W (c+d)) h)) else((z2q φ f e a b).bind λi=>(z41 φ φ a b d i)))
def zah(φ:Nat)(a :(List z3))(b:Int)(c :(z3->z3->Option Int)):Option (List z3):=(z40 φ φ b c 20 0 20 a)
def z5v(φ:Nat):Msp TV:=⟨64,39,[.val 0,.cmp 39],λl z=>zah φ l z.1 z.2.1⟩
def z2v(φ:Nat)(a :(List z3))(b :(z3->z3->Option Int)):Option (List z3):=((zah φ a (a.length:Int) b).bind λc=>(some c))
def z4d(φ:Nat):Msp TV:=⟨64,39,[.cmp 39],λl z=>z2v φ l z.1⟩
def z4m(φ:Nat)(a b:z3):Option (Int×Unit):=((z6n φ a.at_ b.at_).bind λc=>((z6n φ a.wagon b.wagon).bind λd=>((z18 φ a.deliver b.deliver).bind λe=>((zo5 φ ([c.1,d.1,e.1])).bind λf=>(some (f.1,()))))))
def z9l(φ:Nat):Fsp TV:=⟨[39,39],[.val 0],kk2 (z4m φ)⟩
def z4w(φ:Nat)(d :((List z5)->(List (Nat->Int))->Int->Int->(List z3)->Option ((List z3)×Unit)))(e :(List z5))(f :(List (Nat->Int)))(g h:Int)(c :(List z3))(a b:z5):Option ((List z3)×Unit):=(if(2:Int)≠0 then(ck (fits (c.length+([(⟨a.item.wagon,a.item.place,a.ref.railway,b.ref.railway,W (((W (a.item.from_+b.item.from_)):Int).tdiv 2),max2 a.item.code b.item.code,a.ref,b.ref⟩:z3)]).length) 80) (d e f g (W (h+1)) ((c++[(⟨a.item.wagon,a.item.place,a.ref.railway,b.ref.railway,W (((W (a.item.from_+b.item.from_)):Int).tdiv 2),max2 a.item.code b.item.code,a.ref,b.ref⟩:z3)])))) else none)
def z4v(φ:Nat)(c :((List z5)->(List (Nat->Int))->Int->Int->(List z3)->Option ((List z3)×Unit)))(a :(List z5))(d :(List (Nat->Int)))(e f:Int)(g :(List z3))(b :(Nat->Int)):Option ((List z3)×Unit):=(ck (rg (b ((0:Int).toNat)) a.length) (ck (rg (b ((1:Int).toNat)) a.length) (z4w φ c a d e f g (((gt a (b ((0:Int).toNat))))) (((gt a (b ((1:Int).toNat))))))))
def z96(φ:Nat)(c :((List z5)->(List (Nat->Int))->Int->Int->(List z3)->Option ((List z3)×Unit)))(a :(List z5))(d :(List (Nat->Int)))(e f:Int)(g :(List z3))(b :(Nat->Int)):Option (List (Option ((List z3)×Unit))):=(ck (rg (b ((0:Int).toNat)) a.length) (ck (rg (b ((1:Int).toNat)) a.length) (catL [(catL [(catL [(catL [(some [(z4w φ c a d e f g (((gt a (b ((0:Int).toNat))))) (((gt a (b ((1:Int).toNat))))))])])])]),(catL [(catL [(catL [(some [(z4w φ c a d e f g (((gt a (b ((0:Int).toNat))))) (((gt a (b ((1:Int).toNat))))))])])])])])))
def z22(φ:Nat):Nat->(List z5)->(List (Nat->Int))->Int->Int->(List z3)->Option ((List z3)×Unit)
 |0,_,_,_,_,_=>none
 |g+1,h,d,e,c,f=>(if(decide (c<e))=true then(ck (rg c d.length) (z4v φ (z22 φ g) h d e c f (gt d c))) else((z2v φ f (λa b=>(z4m φ a b).bind λr=>(some r.1))).bind λi=>(some (i,()))))
def z0h(φ:Nat)(c:Pool)(a :(List z5)):Option ((List z3)×Unit):=((z5g φ c a).bind λb=>(z22 φ φ a b.1 (b.1.length:Int) 0 ([]:List z3)))
def z6s(φ:Nat):Fsp TV:=⟨[26,36],[.val 40],kk2 (z0h φ)⟩
def z19(φ:Nat)(a:Pool)(b c:Int):Option (Int×Unit):=((z3t φ a).bind λd=>(if(d.1 !=0)=true then(some (d.1,())) else(if((((decide (b<0))||(decide (((a.fleet.wagons.length:Int):Int)<=b)))||(decide (c<0)))||(decide ((1073741824:Int)<c)))=true then(some (1,())) else(some (0,())))))
def z8w(φ:Nat):Fsp TV:=⟨[26,0,0],[.val 0],kk3 (z19 φ)⟩
def z1d(φ:Nat):Nat->Int->(List z3)->Int->Int->(List z6)->Option ((List z6)×Unit)
 |0,_,_,_,_,_=>none
 |f+1,d,b,e,a,c=>(if(decide (a<e))=true then(ck (rg a b.length) (ck (rg (W ((c.length:Int)-1)) c.length) (if(((((gt b a).wagon:Int)==d)&&(((gt b a).from_:Int)==((gt c (W ((c.length:Int)-1)))).railway))&&(decide (((((gt c (W ((c.length:Int)-1)))).span).from_:Int)<(gt b a).at_)))=true then(ck (fits (c.length+([(⟨(gt b a).to,(⟨(gt b a).at_,0⟩:Span),(gt b a).receive⟩:z6)]).length) 40) ((z1d φ f) d b e (W (a+1)) ((c++[(⟨(gt b a).to,(⟨(gt b a).at_,0⟩:Span),(gt b a).receive⟩:z6)])))) else((z1d φ f) d b e (W (a+1)) c)))) else(some (c,())))
def z8j(φ:Nat)(a:Pool)(d :(List z5))(b:Int):Option ((List z6)×Unit):=(ck (rg b a.fleet.wagons.length) (ck (rg (gt a.fleet.wagons b).home a.network.places.length) ((z0h φ a d).bind λc=>(z1d φ φ b c.1 (c.1.length:Int) 0 ([(⟨(gt a.network.places ((gt a.fleet.wagons b).home)).railway,(⟨0,0⟩:Span),(⟨0,0⟩:Ref)⟩:z6)])))))
def z8u(φ:Nat):Fsp TV:=⟨[26,36,0],[.val 42],kk3 (z8j φ)⟩
def z4x(φ:Nat)(d :(Int->(List z6)->Int->Int->(List z6)->Option ((List z6)×Int×Unit)))(b:Int)(e :(List z6))(f g:Int)(c :(List z6))(a:z6):Option ((List z6)×Int×Unit):=(ck (fits (c.length+([(⟨a.railway,(⟨a.span.from_,b⟩:Span),a.ref⟩:z6)]).length) 40) (d b e f (W (g+1)) (c++[(⟨a.railway,(⟨a.span.from_,b⟩:Span),a.ref⟩:z6)])))
def z0c(φ:Nat):Nat->Int->(List z6)->Int->Int->(List z6)->Option ((List z6)×Int×Unit)
 |0,_,_,_,_,_=>none
 |f+1,d,c,e,b,a=>(if(decide (b<e))=true then(ck (rg b c.length) (if(decide (d<=((gt c b).span).from_))=true then(some (a,0,())) else(if(decide ((0:Int)<(a.length:Int)))=true then(ck (rg (W ((a.length:Int)-1)) a.length) (z4x φ (z0c φ f) d c e b ((zk a (W ((a.length:Int)-1)) ((⟨((gt a (W ((a.length:Int)-1)))).railway,(⟨(((gt a (W ((a.length:Int)-1)))).span).from_,((gt c b).span).from_⟩:Span),((gt a (W ((a.length:Int)-1)))).ref⟩:z6)))) (gt c b))) else(z4x φ (z0c φ f) d c e b a (gt c b))))) else(some (a,0,())))
def z2d(φ:Nat)(a:Pool)(f :(List z5))(b c:Int):Option ((List z6)×Int×Unit):=((z19 φ a b c).bind λd=>(if(d.1 !=0)=true then(some (([]:List z6),d.1,())) else((z8j φ a f b).bind λe=>(z0c φ φ c e.1 (e.1.length:Int) 0 ([]:List z6)))))
def z8q(φ:Nat):Fsp TV:=⟨[26,36,0,0],[.val 42,.val 0],kk4 (z2d φ)⟩
def z66(φ:Nat):Nat->Int->(List z6)->Int->Option (Int×Int×Unit)
 |0,_,_,_=>none
 |d+1,c,a,b=>(ck (rg b a.length) (if(decide (c<((gt a b).span).from_))=true then((z66 φ d) c a (W (b-1))) else(ck (rg b a.length) (some ((gt a b).railway,0,())))))
def z7j(φ:Nat)(a:Pool)(f :(List z5))(b c:Int):Option (Int×Int×Unit):=((z19 φ a b c).bind λd=>(if(d.1 !=0)=true then(some (0,d.1,())) else((z8j φ a f b).bind λe=>(z66 φ φ c e.1 (W ((e.1.length:Int)-1))))))
def zd1(φ:Nat):Fsp TV:=⟨[26,36,0,0],[.val 0,.val 0],kk4 (z7j φ)⟩
def z0f(φ:Nat):Nat->(List z3)->(List z3)->Int->Option (Bool×Unit)
 |0,_,_,_=>none
 |d+1,b,c,a=>(if(decide (a<(b.length:Int)))=true then(ck (rg a b.length) (ck (rg a c.length) (if(!((((gt b a).wagon:Int)==(gt c a).wagon)&&((((gt b a).place:Int)==(gt c a).place)&&((((gt b a).from_:Int)==(gt c a).from_)&&((((gt b a).to:Int)==(gt c a).to)&&((((gt b a).at_:Int)==(gt c a).at_)&&((((gt b a).code:Int)==(gt c a).code)&&((((((gt b a).deliver).railway:Int)==((gt c a).deliver).railway)&&(((((gt b a).deliver).no:Int)==((gt c a).deliver).no)&&true))&&((((((gt b a).receive).railway:Int)==((gt c a).receive).railway)&&(((((gt b a).receive).no:Int)==((gt c a).receive).no)&&true))&&true)))))))))=true then(some (false,())) else((z0f φ d) b c (W (a+1)))))) else(some (true,())))
def z3w(φ:Nat)(a b :(List z3)):Option (Bool×Unit):=(if(((a.length:Int):Int) !=(b.length:Int))=true then(some (false,())) else(z0f φ φ a b 0))
def z53(φ:Nat):Fsp TV:=⟨[40,40],[.val 29],kk2 (z3w φ)⟩
def z85(φ:Nat):Nat->(List z6)->(List z6)->Int->Option (Bool×Unit)
 |0,_,_,_=>none
 |d+1,b,c,a=>(if(decide (a<(b.length:Int)))=true then(ck (rg a b.length) (ck (rg a c.length) (if(!((((gt b a).railway:Int)==(gt c a).railway)&&((((((gt b a).span).from_:Int)==((gt c a).span).from_)&&(((((gt b a).span).to:Int)==((gt c a).span).to)&&true))&&((((((gt b a).ref).railway:Int)==((gt c a).ref).railway)&&(((((gt b a).ref).no:Int)==((gt c a).ref).no)&&true))&&true))))=true then(some (false,())) else((z85 φ d) b c (W (a+1)))))) else(some (true,())))
def zh3(φ:Nat)(a b :(List z6)):Option (Bool×Unit):=(if(((a.length:Int):Int) !=(b.length:Int))=true then(some (false,())) else(z85 φ φ a b 0))
def zfx(φ:Nat):Fsp TV:=⟨[42,42],[.val 29],kk2 (zh3 φ)⟩
def z0z(φ:Nat):Nat->(List (List Int))->Int->Int->(List Int)->Option ((List Int)×Unit)
 |0,_,_,_,_=>none
 |e+1,b,d,a,c=>(if(decide (a<d))=true then(ck (rg a b.length) (ck (fits (c.length+(gt b a).length) 8) ((z0z φ e) b d (W (a+1)) (c++(gt b a))))) else(some (c,())))
def z3y(φ:Nat):Nat->(List (List Int))->Int->Int->(List Int)->Option ((List Int)×Unit)
 |0,_,_,_,_=>none
 |e+1,b,d,a,c=>(if(decide (a<d))=true then(ck (rg a b.length) (ck (fits (c.length+(gt b a).length) 8) ((z3y φ e) b d (W (a+1)) (c++(gt b a))))) else(some (c,())))
def z2u(φ:Nat):Nat->(List (List Int))->Int->(List (List Int))->Int->Int->Option ((List Int)×Unit)
 |0,_,_,_,_,_=>none
 |f+1,b,a,d,e,c=>(if(decide (c<e))=true then(ck (rg c d.length) (if(decide (((W (a+((gt d c).length:Int))):Int)<0))=true then none else((z2u φ f) b ((W (a+((gt d c).length:Int)))) d e (W (c+1))))) else(if(decide (a<0))=true then none else(if(decide ((0:Int)<(W (a-0))))=true then(ck ((0:Int)=0/\(0:Int)=0) (ck (0<(W (a-0))/\fits ((W (a-0)):Int).toNat 8) (ck ((0:Int)<=0/\0<=0/\0<=(((List.replicate ((W (a-0)):Int).toNat (default:Int))).length:Int)) (z0z φ φ b (b.length:Int) 0 ((zw ((List.replicate ((W (a-0)):Int).toNat (default:Int))) 0 ((0:Int).toNat))))))) else(z3y φ φ b (b.length:Int) 0 ([]:List Int)))))
def z6f(φ:Nat)(a :(List (List Int))):Option ((List Int)×Unit):=(z2u φ φ a 0 a (a.length:Int) 0)
def zbd(φ:Nat):Fsp TV:=⟨[43],[.row 3 0],λz=>z6f φ z.1⟩
def z15(φ:Nat)(e :(Int->Int->(Ref->Ref->Option Int)->Int->(List Ref)->Option (List Ref))):Nat->Int->Int->(Ref->Ref->Option Int)->Int->Int->(List Ref)->Option (List Ref)
 |0,_,_,_,_,_,_=>none
 |h+1,c,f,d,g,a,b=>(ck (((decide (c<a))=true)->rg a b.length) (ck (((decide (c<a))=true)->rg (W (a-1)) b.length) ((z9 (0:Int) ((decide (c<a))=true) (d (gt b a) (gt b (W (a-1))))).bind λi=>(if((decide (c<a))&&(decide (i<0)))=true then(ck (rg (W (a-1)) b.length) (ck (rg a b.length) (ck (rg a b.length) (ck (rg (W (a-1)) (((zk b a (gt b (W (a-1))))).length)) ((z15 φ e h) c f d g (W (a-1)) ((zk ((zk b a (gt b (W (a-1))))) (W (a-1)) (gt b a)))))))) else(e c f d (W (g+1)) b)))))
def z14(φ:Nat):Nat->Int->Int->(Ref->Ref->Option Int)->Int->(List Ref)->Option (List Ref)
 |0,_,_,_,_,_=>none
 |d+1,e,b,f,a,c=>(if(decide (a<b))=true then(z15 φ (z14 φ d) φ e b f a a c) else(some c))
def z2r(φ:Nat)(b :(List Ref))(a c:Int)(d :(Ref->Ref->Option Int)):Option (List Ref):=(z14 φ φ a c d (W (a+1)) b)
def z1s(φ:Nat):Msp TV:=⟨56,27,[.val 0,.val 0,.cmp 27],λl z=>z2r φ l z.1 z.2.1 z.2.2.1⟩
def z2b(φ:Nat):Nat->Int->Int->Int->Int->(List Ref)->Option (List Ref)
 |0,_,_,_,_,_=>none
 |f+1,c,d,e,a,b=>(if(decide (a<e))=true then(ck (rg (W (d+a)) b.length) (ck (rg (W (c+a)) b.length) (ck (rg (W (c+a)) b.length) (ck (rg (W (d+a)) (((zk b (W (c+a)) (gt b (W (d+a))))).length)) ((z2b φ f) c d e (W (a+1)) ((zk ((zk b (W (c+a)) (gt b (W (d+a))))) (W (d+a)) (gt b (W (c+a)))))))))) else(some b))
def z1k(φ:Nat)(a :(List Ref))(b c d:Int)(e :(Ref->Ref->Option Int)):Option (List Ref):=(z2b φ φ b c d 0 a)
def z36(φ:Nat):Msp TV:=⟨56,27,[.val 0,.val 0,.val 0,.cmp 27],λl z=>z1k φ l z.1 z.2.1 z.2.2.1 z.2.2.2.1⟩
def z1i(φ:Nat):Nat->Int->(Ref->Ref->Option Int)->Int->Int->(List Ref)->Option (List Ref)
 |0,_,_,_,_,_=>none
 |f+1,b,d,a,c,e=>(if(a !=c)=true then(if(decide (c<a))=true then((z1k φ e (W (b-a)) b c d).bind λg=>((z1i φ f) b d (W (a-c)) c g)) else((z1k φ e (W (b-a)) ((W ((W (b+c))-a))) a d).bind λh=>((z1i φ f) b d a (W (c-a)) h))) else((z1k φ e (W (b-a)) b a d).bind λi=>(some i)))
def zag(φ:Nat)(b :(List Ref))(c a d:Int)(e :(Ref->Ref->Option Int)):Option (List Ref):=(z1i φ φ a e (W (a-c)) (W (d-a)) b)
def z5t(φ:Nat):Msp TV:=⟨56,27,[.val 0,.val 0,.val 0,.cmp 27],λl z=>zag φ l z.1 z.2.1 z.2.2.1 z.2.2.2.1⟩
def z3c(φ:Nat):Nat->Int->Int->(List Ref)->Option (List Ref)
 |0,_,_,_=>none
 |d+1,c,a,b=>(if(decide (a<(W (c-1))))=true then(ck (rg (W (a+1)) b.length) (ck (rg a b.length) (ck (rg a b.length) (ck (rg (W (a+1)) (((zk b a (gt b (W (a+1))))).length)) ((z3c φ d) c (W (a+1)) ((zk ((zk b a (gt b (W (a+1))))) (W (a+1)) (gt b a)))))))) else(some b))
def z0q(φ:Nat):Nat->Int->(Ref->Ref->Option Int)->Int->Int->(List Ref)->Option (List Ref)
 |0,_,_,_,_,_=>none
 |f+1,d,e,a,c,b=>(if(decide (a<c))=true then(if 0<=(1:Int) then(ck (rg ((W ((((U ((W (a+c)))):Int).fdiv (2 ^ (min (1:Int).toNat 64)))))) b.length) (ck (rg d b.length) ((e (((gt b ((W ((((U ((W (a+c)))):Int).fdiv (2 ^ (min (1:Int).toNat 64))))))))) (gt b d)).bind λg=>(if(decide (g<0))=true then((z0q φ f) d e ((W ((W ((((U ((W (a+c)))):Int).fdiv (2 ^ (min (1:Int).toNat 64)))))+1))) c b) else((z0q φ f) d e a ((W ((((U ((W (a+c)))):Int).fdiv (2 ^ (min (1:Int).toNat 64)))))) b))))) else none) else(z3c φ φ a d b))
def z3d(φ:Nat):Nat->Int->Int->(List Ref)->Option (List Ref)
 |0,_,_,_=>none
 |d+1,c,a,b=>(if(decide (c<a))=true then(ck (rg (W (a-1)) b.length) (ck (rg a b.length) (ck (rg a b.length) (ck (rg (W (a-1)) (((zk b a (gt b (W (a-1))))).length)) ((z3d φ d) c (W (a-1)) ((zk ((zk b a (gt b (W (a-1))))) (W (a-1)) (gt b a)))))))) else(some b))
def z0r(φ:Nat):Nat->Int->(Ref->Ref->Option Int)->Int->Int->(List Ref)->Option (List Ref)
 |0,_,_,_,_,_=>none
 |f+1,d,e,a,c,b=>(if(decide (a<c))=true then(if 0<=(1:Int) then(ck (rg d b.length) (ck (rg ((W ((((U ((W (a+c)))):Int).fdiv (2 ^ (min (1:Int).toNat 64)))))) b.length) ((e (gt b d) (((gt b ((W ((((U ((W (a+c)))):Int).fdiv (2 ^ (min (1:Int).toNat 64)))))))))).bind λg=>(if(!(decide (g<0)))=true then((z0r φ f) d e ((W ((W ((((U ((W (a+c)))):Int).fdiv (2 ^ (min (1:Int).toNat 64)))))+1))) c b) else((z0r φ f) d e a ((W ((((U ((W (a+c)))):Int).fdiv (2 ^ (min (1:Int).toNat 64)))))) b))))) else none) else(z3d φ φ a d b))
def z3g(φ:Nat)(e :((List Ref)->Int->Int->Int->(Ref->Ref->Option Int)->Option (List Ref)))(b:Int)(f :(Ref->Ref->Option Int))(c a:Int)(d :(List Ref)):Option (List Ref):=(if((decide (c<a))&&(decide (a<b)))=true then((e d c a b f).bind λg=>(some g)) else(some d))
def z3f(φ:Nat)(b :((List Ref)->Int->Int->Int->(Ref->Ref->Option Int)->Option (List Ref)))(e f:Int)(c :(Ref->Ref->Option Int))(a d g:Int)(h :(List Ref)):Option (List Ref):=(if((decide (e<d))&&(decide (d<a)))=true then((b h e d a c).bind λi=>(z3g φ b f c a g i)) else(z3g φ b f c a g h))
def z0s(φ:Nat)(g :((List Ref)->Int->Int->Int->(Ref->Ref->Option Int)->Option (List Ref))):Nat->Int->Int->Int->(Ref->Ref->Option Int)->Int->Int->Int->Int->Int->(List Ref)->Option (List Ref)
 |0,_,_,_,_,_,_,_,_,_,_=>none
 |l+1,h,f,i,d,j,e,a,b,k,c=>(if(decide (a<b))=true then(if 0<=(1:Int) then(ck (rg ((W (k-(W ((((U ((W (a+b)))):Int).fdiv (2 ^ (min (1:Int).toNat 64)))))))) c.length) (ck (rg ((W ((((U ((W (a+b)))):Int).fdiv (2 ^ (min (1:Int).toNat 64)))))) c.length) ((d (((gt c ((W (k-(W ((((U ((W (a+b)))):Int).fdiv (2 ^ (min (1:Int).toNat 64))))))))))) (((gt c ((W ((((U ((W (a+b)))):Int).fdiv (2 ^ (min (1:Int).toNat 64)))))))))).bind λm=>(if(!(decide (m<0)))=true then((z0s φ g l) h f i d j e ((W ((W ((((U ((W (a+b)))):Int).fdiv (2 ^ (min (1:Int).toNat 64)))))+1))) b k c) else((z0s φ g l) h f i d j e a ((W ((((U ((W (a+b)))):Int).fdiv (2 ^ (min (1:Int).toNat 64)))))) k c))))) else none) else(if((decide (a<f))&&(decide (f<(W (e-a)))))=true then((zag φ c a f (W (e-a)) d).bind λn=>(z3f φ g h i d j a (W (e-a)) n)) else(z3f φ g h i d j a (W (e-a)) c)))
end Px
end
section
set_option maxHeartbeats 4000000
set_option maxRecDepth 100000
namespace Px
open Go Go.RowKit
def z3e(φ:Nat)(b :((List Ref)->Int->Int->Int->(Ref->Ref->Option Int)->Option (List Ref)))(c d e:Int)(f :(Ref->Ref->Option Int))(g a h i:Int)(j :(List Ref)):Option (List Ref):=(z0s φ b φ c d e f g a h i (W (a-1)) j)
def zj(φ:Nat):Nat->(List Ref)->Int->Int->Int->(Ref->Ref->Option Int)->Option (List Ref)
 |0,_,_,_,_,_=>none
 |d+1,e,a,b,c,f=>(if(((W (b-a)):Int)==1)=true then(z0q φ φ a f b c e) else(if(((W (c-b)):Int)==1)=true then(z0r φ φ b f a b e) else(if 0<=(1:Int) then(if(decide (((W ((((U ((W (a+c)))):Int).fdiv (2 ^ (min (1:Int).toNat 64))))):Int)<b))=true then(z3e φ (zj φ d) a b c f ((W ((((U ((W (a+c)))):Int).fdiv (2 ^ (min (1:Int).toNat 64)))))) ((W ((W ((((U ((W (a+c)))):Int).fdiv (2 ^ (min (1:Int).toNat 64)))))+b))) ((W ((W ((W ((((U ((W (a+c)))):Int).fdiv (2 ^ (min (1:Int).toNat 64)))))+b))-c))) ((W ((((U ((W (a+c)))):Int).fdiv (2 ^ (min (1:Int).toNat 64)))))) e) else(z3e φ (zj φ d) a b c f ((W ((((U ((W (a+c)))):Int).fdiv (2 ^ (min (1:Int).toNat 64)))))) ((W ((W ((((U ((W (a+c)))):Int).fdiv (2 ^ (min (1:Int).toNat 64)))))+b))) a b e)) else none)))
def z1o(φ d:Nat):Msp TV:=⟨56,27,[.val 0,.val 0,.val 0,.cmp 27],λl z=>zj φ d l z.1 z.2.1 z.2.2.1 z.2.2.2.1⟩
def z45(φ:Nat)(f :(Int->(Ref->Ref->Option Int)->Int->(List Ref)->Option (List Ref))):Nat->Int->(Ref->Ref->Option Int)->Int->Int->Int->(List Ref)->Option (List Ref)
 |0,_,_,_,_,_,_=>none
 |h+1,b,c,a,d,e,g=>(if(decide (e<=b))=true then((zj φ φ g d (W (d+a)) e c).bind λi=>((z45 φ f h) b c a e ((W (e+(W (2*a))))) i)) else(if(decide (((W (d+a)):Int)<b))=true then((zj φ φ g d (W (d+a)) b c).bind λj=>(f b c (W (a*2)) j)) else(f b c (W (a*2)) g)))
def z44(φ:Nat):Nat->Int->(Ref->Ref->Option Int)->Int->(List Ref)->Option (List Ref)
 |0,_,_,_,_=>none
 |d+1,b,e,a,c=>(if(decide (a<b))=true then(z45 φ (z44 φ d) φ b e a 0 (W (2*a)) c) else(some c))
def z43(φ:Nat):Nat->Int->(Ref->Ref->Option Int)->Int->Int->Int->(List Ref)->Option (List Ref)
 |0,_,_,_,_,_,_=>none
 |g+1,a,b,d,e,c,f=>(if(decide (c<=a))=true then((z2r φ f e c b).bind λh=>((z43 φ g) a b d c (W (c+d)) h)) else((z2r φ f e a b).bind λi=>(z44 φ φ a b d i)))
def zai(φ:Nat)(a :(List Ref))(b:Int)(c :(Ref->Ref->Option Int)):Option (List Ref):=(z43 φ φ b c 20 0 20 a)
def z5x(φ:Nat):Msp TV:=⟨56,27,[.val 0,.cmp 27],λl z=>zai φ l z.1 z.2.1⟩
def z2w(φ:Nat)(a :(List Ref))(b :(Ref->Ref->Option Int)):Option (List Ref):=((zai φ a (a.length:Int) b).bind λc=>(some c))
def z4f(φ:Nat):Msp TV:=⟨56,27,[.cmp 27],λl z=>z2w φ l z.1⟩
def zo(φ:Nat):Nat->(List z5)->Int->Int->(List (Int×Bool))->(List Ref)->(List Int)->Option ((List Ref)×Unit)
 |0,_,_,_,_,_,_=>none
 |i+1,e,g,c,h,f,d=>(if(decide (c<g))=true then(ck (rg c d.length) (if(!((cget kl_0 h (gt d c)).getD (default:Bool)))=true then(ck (rg (gt d c) e.length) (ck (fits (f.length+([((gt e (gt d c)).ref)]).length) 16) ((zo φ i) e g (W (c+1)) h ((f++[((gt e (gt d c)).ref)])) d))) else((zo φ i) e g (W (c+1)) h f d))) else((z2w φ f (λa b=>(z18 φ a b).bind λr=>(some r.1))).bind λj=>(some (j,()))))
def z03(φ:Nat):Nat->(List z5)->(List (Nat->Int))->Int->Int->Pool->(List (Int×Bool))->Option ((List Ref)×Unit)
 |0,_,_,_,_,_,_=>none
 |h+1,b,c,e,a,d,f=>(if(decide (a<e))=true then(ck (rg a c.length) ((z03 φ h) b c e (W (a+1)) d ((cset kl_0 ((cset kl_0 f ((gt c a) ((0:Int).toNat)) true)) ((gt c a) ((1:Int).toNat)) true)))) else((z4y φ d b 3).bind λi=>((z4y φ d b 4).bind λj=>((z6f φ ([i.1,j.1])).bind λg=>(zo φ φ b (g.1.length:Int) 0 f ([]:List Ref) g.1)))))
def zx(φ:Nat)(a:Pool)(b :(List z5)):Option ((List Ref)×Unit):=((z3t φ a).bind λd=>(if(d.1 !=0)=true then(some (([]:List Ref),())) else((z5g φ a b).bind λc=>(z03 φ φ b c.1 (c.1.length:Int) 0 a ([] :(List (Int×Bool)))))))
def z64(φ:Nat):Fsp TV:=⟨[26,36],[.val 44],kk2 (zx φ)⟩
def z3r(φ:Nat):Nat->(List Ref)->(List Ref)->Int->Option (Bool×Unit)
 |0,_,_,_=>none
 |d+1,b,c,a=>(if(decide (a<(b.length:Int)))=true then(ck (rg a b.length) (ck (rg a c.length) (if(!((((gt b a).railway:Int)==(gt c a).railway)&&((((gt b a).no:Int)==(gt c a).no)&&true)))=true then(some (false,())) else((z3r φ d) b c (W (a+1)))))) else(some (true,())))
def z3o(φ:Nat)(a b :(List Ref)):Option (Bool×Unit):=(if(((a.length:Int):Int) !=(b.length:Int))=true then(some (false,())) else(z3r φ φ a b 0))
def z93(φ:Nat):Fsp TV:=⟨[44,44],[.val 29],kk2 (z3o φ)⟩
def zh0(φ:Nat):Option (Bool×Unit):=((zoy φ).bind λc=>((z9s φ 1 100 1).bind λm=>((z9v φ 1 111 3).bind λn=>((z9s φ 1 100 1).bind λe=>((z9v φ 1 161 3).bind λf=>((z9s φ 1 100 0).bind λh=>((z9s φ 2 120 0).bind λi=>((z9v φ 1 119 0).bind λj=>((z9v φ 2 130 0).bind λk=>((z0h φ c.1 ([m.1,n.1])).bind λp=>((z2d φ c.1 ([m.1,n.1]) 0 500).bind λo=>((z2d φ c.1 ([e.1,f.1]) 0 500).bind λg=>((z7j φ c.1 ([h.1,i.1,j.1,k.1]) 0 108).bind λa=>((z7j φ c.1 ([h.1,i.1,j.1,k.1]) 0 109).bind λb=>((z0h φ c.1 ([h.1,i.1,j.1,k.1])).bind λd=>((z3w φ p.1 ([(⟨0,2,0,1,105,3,(⟨0,1⟩:Ref),(⟨1,1⟩:Ref)⟩:z3)])).bind λl=>(ck ((((!l.1)||(((d.1.length:Int):Int) !=2))=false)->rg 0 d.1.length) (ck (((((!l.1)||(((d.1.length:Int):Int) !=2))||(((gt d.1 0).at_:Int) !=109))=false)->rg 1 d.1.length) (if((((!l.1)||(((d.1.length:Int):Int) !=2))||(((gt d.1 0).at_:Int) !=109))||(((gt d.1 1).at_:Int) !=125))=true then(some (false,())) else(if(o.2.1==0)=true then((zh3 φ o.1 ([(⟨0,(⟨0,105⟩:Span),(⟨0,0⟩:Ref)⟩:z6),(⟨1,(⟨105,500⟩:Span),(⟨1,1⟩:Ref)⟩:z6)])).bind λq=>(if((q.1&&(g.2.1==0))&&(((g.1.length:Int):Int)==1))=true then((z0h φ c.1 ([e.1,f.1])).bind λr=>(if(((r.1.length:Int):Int)==0)=true then((zx φ c.1 ([e.1,f.1])).bind λs=>((z3o φ s.1 ([(⟨0,1⟩:Ref),(⟨1,1⟩:Ref)])).bind λt=>(some (((((t.1&&(a.2.1==0))&&(a.1==0))&&(b.2.1==0))&&(b.1==1)),())))) else(some (((((false&&(a.2.1==0))&&(a.1==0))&&(b.2.1==0))&&(b.1==1)),())))) else(if false=true then((zx φ c.1 ([e.1,f.1])).bind λu=>((z3o φ u.1 ([(⟨0,1⟩:Ref),(⟨1,1⟩:Ref)])).bind λv=>(some (((((v.1&&(a.2.1==0))&&(a.1==0))&&(b.2.1==0))&&(b.1==1)),())))) else(some (((((false&&(a.2.1==0))&&(a.1==0))&&(b.2.1==0))&&(b.1==1)),()))))) else(if((false&&(g.2.1==0))&&(((g.1.length:Int):Int)==1))=true then((z0h φ c.1 ([e.1,f.1])).bind λw=>(if(((w.1.length:Int):Int)==0)=true then((zx φ c.1 ([e.1,f.1])).bind λx=>((z3o φ x.1 ([(⟨0,1⟩:Ref),(⟨1,1⟩:Ref)])).bind λy=>(some (((((y.1&&(a.2.1==0))&&(a.1==0))&&(b.2.1==0))&&(b.1==1)),())))) else(some (((((false&&(a.2.1==0))&&(a.1==0))&&(b.2.1==0))&&(b.1==1)),())))) else(if false=true then((zx φ c.1 ([e.1,f.1])).bind λz=>((z3o φ z.1 ([(⟨0,1⟩:Ref),(⟨1,1⟩:Ref)])).bind λA=>(some (((((A.1&&(a.2.1==0))&&(a.1==0))&&(b.2.1==0))&&(b.1==1)),())))) else(some (((((false&&(a.2.1==0))&&(a.1==0))&&(b.2.1==0))&&(b.1==1)),()))))))))))))))))))))))))
def zl0(φ:Nat):Fsp TV:=⟨[],[.val 29],λz=>zh0 φ⟩
def z2t(φ:Nat):Nat->Int->Pool->Option (Bool×Unit)
 |0,_,_=>none
 |c+1,a,b=>(if(decide (a<(b.railways.length:Int)))=true then(ck (rg a b.railways.length) (if(decide ((100:Int)<((((gt b.railways a).calendar).holidays).length:Int)))=true then(some (false,())) else((z2t φ c) (W (a+1)) b))) else(some (true,())))
def zab(φ:Nat)(a:Pool):Option (Bool×Unit):=(if(((((((decide ((16:Int)<(a.network.places.length:Int)))||(decide ((40:Int)<(a.network.edges.length:Int))))||(decide ((8:Int)<(a.fleet.wagons.length:Int))))||(decide ((8:Int)<(a.readers.length:Int))))||(decide ((100:Int)<(a.fleet.swaps.length:Int))))||(decide ((100:Int)<(a.fleet.washes.length:Int))))||(decide ((17:Int)<(a.railways.length:Int))))=true then(some (false,())) else(z2t φ φ 0 a))
def zb9(φ:Nat):Fsp TV:=⟨[26],[.val 29],λz=>zab φ z.1⟩
def z24(φ:Nat):Nat->(List z5)->Int->Option (Bool×Unit)
 |0,_,_=>none
 |c+1,a,b=>(if(decide (b<(a.length:Int)))=true then(ck (rg b a.length) (ck (((decide ((40:Int)<((((gt a b).item).parts).length:Int)))=false)->rg b a.length) (if((decide ((40:Int)<((((gt a b).item).parts).length:Int)))||(decide ((2000:Int)<(((gt a b).item).text.size:Int))))=true then(some (false,())) else((z24 φ c) a (W (b+1)))))) else(some (true,())))
def z90(φ:Nat)(a :(List z5))(b:Int):Option (Bool×Unit):=(if(decide (b<(a.length:Int)))=true then(some (false,())) else(z24 φ φ a 0))
def zaa(φ:Nat):Fsp TV:=⟨[36,0],[.val 29],kk2 (z90 φ)⟩
def zky(φ:Nat)(b:Pool)(c :(List z5)):Option (Bool×Unit):=((zab φ b).bind λa=>((z9 (default,()) (a.1=true) (z90 φ c 60)).bind λd=>(some ((a.1&&d.1),()))))
def znm(φ:Nat):Fsp TV:=⟨[26,36],[.val 29],kk2 (zky φ)⟩
def z2e(φ:Nat)(a b c:Int):Option (Bool×Unit):=(some (((decide (b<=a))&&(decide (a<=c))),()))
def za4(φ:Nat):Fsp TV:=⟨[0,0,0],[.val 29],kk3 (z2e φ)⟩
def zic(φ:Nat)(a:z94):Option (Bool×Unit):=((z2e φ a.kind 1 5).bind λb=>((z9 (default,()) ((!b.1)=false) (z2e φ a.railway 0 15)).bind λc=>(if((!b.1)||(!c.1))=true then(some (false,())) else(if((a.kind:Int)==3)=true then((z2e φ a.other 0 15).bind λd=>(some ((d.1&&((a.other:Int) !=a.railway)),()))) else(some (((a.other:Int)==(-1)),()))))))
def zie(φ:Nat):Fsp TV:=⟨[1],[.val 29],λz=>zic φ z.1⟩
def zmc(φ:Nat)(c:Edge)(g:Int):Option (Bool×Unit):=((z2e φ c.a 0 (W (g-1))).bind λd=>((z9 (default,()) (d.1=true) (z2e φ c.b 0 (W (g-1)))).bind λe=>((z9 (default,()) (((d.1&&e.1)&&((c.a:Int) !=c.b))=true) (z2e φ c.railway 0 15)).bind λf=>((z9 (default,()) ((((d.1&&e.1)&&((c.a:Int) !=c.b))&&f.1)=true) (z2e φ c.minutes 1 100000)).bind λh=>((z9 (default,()) (((((d.1&&e.1)&&((c.a:Int) !=c.b))&&f.1)&&h.1)=true) (z2e φ c.km 0 10000)).bind λi=>(some ((((((d.1&&e.1)&&((c.a:Int) !=c.b))&&f.1)&&h.1)&&i.1),())))))))
def zl9(φ:Nat):Fsp TV:=⟨[3,0],[.val 29],kk2 (zmc φ)⟩
def z5i(φ:Nat):Nat->Int->z8a->Option (Int×Unit)
 |0,_,_=>none
 |c+1,b,a=>(if(decide (b<(a.edges.length:Int)))=true then(ck (rg b a.edges.length) ((zmc φ (gt a.edges b) (a.places.length:Int)).bind λd=>(if(!d.1)=true then(some (1,())) else((z5i φ c) (W (b+1)) a)))) else(some (0,())))
def z6w(φ:Nat):Nat->Int->z8a->Option (Int×Unit)
 |0,_,_=>none
 |c+1,b,a=>(if(decide (b<(a.places.length:Int)))=true then(ck (rg b a.places.length) ((zic φ (gt a.places b)).bind λd=>(if(!d.1)=true then(some (1,())) else((z6w φ c) (W (b+1)) a)))) else(z5i φ φ 0 a))
def zi9(φ:Nat)(a:z8a):Option (Int×Unit):=(if((decide ((512:Int)<(a.places.length:Int)))||(decide ((2048:Int)<(a.edges.length:Int))))=true then(some (2,())) else(z6w φ φ 0 a))
def zib(φ:Nat):Fsp TV:=⟨[5],[.val 0],λz=>zi9 φ z.1⟩
def zl(φ:Nat)(a b c:Int):Option (Bool×Unit):=(some (((decide (b<=a))&&(decide (a<=c))),()))
def z5n(φ:Nat):Fsp TV:=⟨[0,0,0],[.val 29],kk3 (zl φ)⟩
def zer(φ:Nat)(a:z3h):Option (Bool×Unit):=((zl φ a.load 0 1000000).bind λb=>((z9 (default,()) (b.1=true) (zl φ a.tare 0 1000000)).bind λc=>((z9 (default,()) ((b.1&&c.1)=true) (zl φ a.length 0 1000000)).bind λd=>((z9 (default,()) (((b.1&&c.1)&&d.1)=true) (zl φ a.brake 0 1000000)).bind λe=>((z9 (default,()) ((((b.1&&c.1)&&d.1)&&e.1)=true) (zl φ a.gauge 0 7)).bind λf=>((z9 (default,()) (((((b.1&&c.1)&&d.1)&&e.1)&&f.1)=true) (zl φ a.life 1 1073741824)).bind λg=>((z9 (default,()) ((((((b.1&&c.1)&&d.1)&&e.1)&&f.1)&&g.1)=true) (zl φ a.floor 0 100)).bind λh=>(some (((((((b.1&&c.1)&&d.1)&&e.1)&&f.1)&&g.1)&&h.1),())))))))))
def zb4(φ:Nat):Fsp TV:=⟨[7],[.val 29],λz=>zer φ z.1⟩
def zcg(φ:Nat)(a:zt7)(f:Int):Option (Bool×Unit):=((zl φ a.type_ 0 (W (f-1))).bind λb=>((z9 (default,()) (b.1=true) (zl φ a.owner 0 63)).bind λc=>((z9 (default,()) ((b.1&&c.1)=true) (zl φ a.home 0 511)).bind λd=>((z9 (default,()) (((b.1&&c.1)&&d.1)=true) (zl φ a.built 0 1073741824)).bind λe=>((z9 (default,()) ((((b.1&&c.1)&&d.1)&&e.1)=true) (zl φ a.worth 0 1099511627776)).bind λg=>(some (((((b.1&&c.1)&&d.1)&&e.1)&&g.1),())))))))
def za6(φ:Nat):Fsp TV:=⟨[9,0],[.val 29],kk2 (zcg φ)⟩
def z6b(φ:Nat):Nat->(List Wash)->Int->(List Bool)->Option (Int×Unit)
 |0,_,_,_=>none
 |f+1,a,b,c=>(if(decide (b<(a.length:Int)))=true then(ck (rg b a.length) ((zl φ ((gt a b).from_) 0 63).bind λd=>((z9 (default,()) ((!d.1)=false) (zl φ ((gt a b).to) 0 63)).bind λe=>((z9 (default,()) ((((!d.1)||(!e.1))||(((gt a b).from_:Int)==(gt a b).to))=false) (zl φ ((gt a b).minutes) 0 100000)).bind λg=>(if((((!d.1)||(!e.1))||(((gt a b).from_:Int)==(gt a b).to))||(!g.1))=true then(some (1,())) else(ck (rg ((W ((W (64*(gt a b).from_))+(gt a b).to))) c.length) (if(gt c ((W ((W (64*(gt a b).from_))+(gt a b).to))))=true then(some (1,())) else(ck (rg ((W ((W (64*(gt a b).from_))+(gt a b).to))) c.length) ((z6b φ f) a (W (b+1)) ((zk c ((W ((W (64*(gt a b).from_))+(gt a b).to))) true))))))))))) else(some (0,())))
def zbx(φ:Nat)(a :(List Wash)):Option (Int×Unit):=(ck (znn 4096 1) (z6b φ φ a 0 (List.replicate (4096:Int).toNat (default:Bool))))
def zgb(φ:Nat):Fsp TV:=⟨[14],[.val 0],λz=>zbx φ z.1⟩
def z3u(φ:Nat):Nat->Int->zc4->Option (Int×Unit)
 |0,_,_=>none
 |e+1,b,a=>(if(decide (b<(a.swaps.length:Int)))=true then(ck (rg b a.swaps.length) ((zl φ ((gt a.swaps b).wanted) 0 (W ((a.types.length:Int)-1))).bind λc=>((z9 (default,()) ((!c.1)=false) (zl φ ((gt a.swaps b).given) 0 (W ((a.types.length:Int)-1)))).bind λd=>((z9 (default,()) ((((!c.1)||(!d.1))||(((gt a.swaps b).wanted:Int)==(gt a.swaps b).given))=false) (zl φ ((gt a.swaps b).cost) 0 1000000000)).bind λf=>(if((((!c.1)||(!d.1))||(((gt a.swaps b).wanted:Int)==(gt a.swaps b).given))||(!f.1))=true then(some (1,())) else((z3u φ e) (W (b+1)) a)))))) else((zbx φ a.washes).bind λg=>(some (g.1,()))))
def z5j(φ:Nat):Nat->Int->zc4->Option (Int×Unit)
 |0,_,_=>none
 |c+1,b,a=>(if(decide (b<(a.wagons.length:Int)))=true then(ck (rg b a.wagons.length) ((zcg φ (gt a.wagons b) (a.types.length:Int)).bind λd=>(if(!d.1)=true then(some (1,())) else((z5j φ c) (W (b+1)) a)))) else(z3u φ φ 0 a))
def z6x(φ:Nat):Nat->Int->zc4->Option (Int×Unit)
 |0,_,_=>none
 |c+1,b,a=>(if(decide (b<(a.types.length:Int)))=true then(ck (rg b a.types.length) ((zer φ (gt a.types b)).bind λd=>(if(!d.1)=true then(some (1,())) else((z6x φ c) (W (b+1)) a)))) else(z5j φ φ 0 a))
def zif(φ:Nat)(a:zc4):Option (Int×Unit):=(if((((decide ((32:Int)<(a.types.length:Int)))||(decide ((4096:Int)<(a.wagons.length:Int))))||(decide ((1024:Int)<(a.swaps.length:Int))))||(decide ((4096:Int)<(a.washes.length:Int))))=true then(some (2,())) else(z6x φ φ 0 a))
def zih(φ:Nat):Fsp TV:=⟨[15],[.val 0],λz=>zif φ z.1⟩
def z5l(φ:Nat):Nat->Int->Int->Pool->Option (Bool×Unit)
 |0,_,_,_=>none
 |d+1,c,a,b=>(if(decide (a<(b.fleet.wagons.length:Int)))=true then(ck (rg a b.fleet.wagons.length) (if(decide (c<=(gt b.fleet.wagons a).home))=true then(some (false,())) else((z5l φ d) c (W (a+1)) b))) else(some (true,())))
def z5k(φ:Nat):Nat->Int->Int->Pool->Option (Bool×Unit)
 |0,_,_,_=>none
 |e+1,c,b,a=>(if(decide (b<(a.shippers.length:Int)))=true then(ck (rg b a.shippers.length) ((zl φ ((gt a.shippers b).place) 0 (W (c-1))).bind λd=>(ck (((!d.1)=false)->rg b a.shippers.length) (ck (((!d.1)=false)->rg (gt a.shippers b).place a.network.places.length) (if((!d.1)||(((gt a.network.places ((gt a.shippers b).place)).kind:Int) !=4))=true then(some (false,())) else((z5k φ e) c (W (b+1)) a)))))) else(z5l φ φ c 0 a))
def z81(φ:Nat):Nat->Int->Int->Pool->Option (Bool×Unit)
 |0,_,_,_=>none
 |d+1,c,b,a=>(if(decide (b<(a.readers.length:Int)))=true then(ck (rg b a.readers.length) ((zl φ ((gt a.readers b).place) 0 (W (c-1))).bind λe=>(if((((!e.1)||(decide (((gt a.readers b).low:Int)<(-1000))))||(decide (((gt a.readers b).high:Int)<(gt a.readers b).low)))||(decide ((1000:Int)<(gt a.readers b).high)))=true then(some (false,())) else((z81 φ d) c (W (b+1)) a)))) else(z5k φ φ c 0 a))
def zmd(φ:Nat)(a:Pool):Option (Bool×Unit):=(z81 φ φ (a.network.places.length:Int) 0 a)
def zlb(φ:Nat):Fsp TV:=⟨[26],[.val 29],λz=>zmd φ z.1⟩
def z5m(φ:Nat):Nat->Int->Int->Pool->Option (Bool×Unit)
 |0,_,_,_=>none
 |d+1,c,a,b=>(if(decide (a<(b.network.edges.length:Int)))=true then(ck (rg a b.network.edges.length) (if(decide (c<=(gt b.network.edges a).railway))=true then(some (false,())) else((z5m φ d) c (W (a+1)) b))) else(some (true,())))
def z6y(φ:Nat):Nat->Int->Int->Pool->Option (Bool×Unit)
 |0,_,_,_=>none
 |d+1,c,b,a=>(if(decide (b<(a.network.places.length:Int)))=true then(ck (rg b a.network.places.length) (if((decide (c<=(gt a.network.places b).railway))||(decide (c<=(gt a.network.places b).other)))=true then(some (false,())) else((z6y φ d) c (W (b+1)) a))) else(z5m φ φ c 0 a))
def zii(φ:Nat)(a:Pool):Option (Bool×Unit):=(z6y φ φ (a.railways.length:Int) 0 a)
def zik(φ:Nat):Fsp TV:=⟨[26],[.val 29],λz=>zii φ z.1⟩
def z6v(φ:Nat):Nat->Int->z61->Option (Int×Unit)
 |0,_,_=>none
 |c+1,a,b=>(if(decide (a<(b.holidays.length:Int)))=true then(ck (rg a b.holidays.length) (ck ((((decide (((gt b.holidays a):Int)<0))||(decide ((745654:Int)<(gt b.holidays a))))=false/\(decide ((0:Int)<a))=true)->rg (W (a-1)) b.holidays.length) (if(((decide (((gt b.holidays a):Int)<0))||(decide ((745654:Int)<(gt b.holidays a))))||((decide ((0:Int)<a))&&(decide (((gt b.holidays a):Int)<=(gt b.holidays (W (a-1)))))))=true then(some (1,())) else((z6v φ c) (W (a+1)) b)))) else(some (0,())))
def z6u(φ:Nat):Nat->Int->z61->Option (Int×Unit)
 |0,_,_=>none
 |c+1,a,b=>(if(decide (a<7))=true then(ck (rg a 7) (if(((decide (((b.open_ (a.toNat)).from_:Int)<0))||(decide (((b.open_ (a.toNat)).to:Int)<(b.open_ (a.toNat)).from_)))||(decide ((1440:Int)<(b.open_ (a.toNat)).to)))=true then(some (1,())) else((z6u φ c) (W (a+1)) b))) else(z6v φ φ 0 b))
def zi6(φ:Nat)(a:z61):Option (Int×Unit):=(z6u φ φ 0 a)
def zi8(φ:Nat):Fsp TV:=⟨[23],[.val 0],λz=>zi6 φ z.1⟩
def za2(φ:Nat)(c :(Int->Int->Int->Int->Option (Int×Unit)))(b d a e:Int):Option (Int×Unit):=(ck (a≠0) (if(2:Int)≠0 then(c ((((U (b+b)):Int).tmod a)) (U (d.tdiv 2)) a e) else none))
def z3m(φ:Nat):Nat->Int->Int->Int->Int->Option (Int×Unit)
 |0,_,_,_,_=>none
 |e+1,c,a,b,d=>(if(decide ((0:Int)<a))=true then(if(2:Int)≠0 then(if(((a.tmod 2):Int)==1)=true then(ck (b≠0) (za2 φ (z3m φ e) c a b ((((U (d+c)):Int).tmod b)))) else(za2 φ (z3m φ e) c a b d)) else none) else(some (d,())))
def zep(φ:Nat)(a b c:Int):Option (Int×Unit):=(z3m φ φ a b c 0)
def zi2(φ:Nat):Fsp TV:=⟨[6,6,6],[.val 6],kk3 (zep φ)⟩
def zd4(φ:Nat)(b :(Int->Int->Int->Option (Int×Unit)))(a c d:Int):Option (Int×Unit):=((zep φ a a 2305843009213690799).bind λe=>(if(2:Int)≠0 then(b e.1 (U (c.tdiv 2)) d) else none))
def z6l(φ:Nat):Nat->Int->Int->Int->Option (Int×Unit)
 |0,_,_,_=>none
 |d+1,b,a,c=>(if(decide ((0:Int)<a))=true then(if(2:Int)≠0 then(if(((a.tmod 2):Int)==1)=true then((zep φ c b 2305843009213690799).bind λe=>(zd4 φ (z6l φ d) b a e.1)) else(zd4 φ (z6l φ d) b a c)) else none) else(some (c,())))
def zp8(φ:Nat)(a b:Int):Option (Int×Unit):=(if(2305843009213690799:Int)≠0 then(z6l φ φ (a.tmod 2305843009213690799) b 1) else none)
def zns(φ:Nat):Fsp TV:=⟨[6,6],[.val 6],kk2 (zp8 φ)⟩
def zi3(φ:Nat)(a:Int):Option (Bool×Unit):=((z9 (default,()) (((decide ((2:Int)<=a))&&(decide (a<2305843009213690799)))=true) (zp8 φ a 1152921504606845399)).bind λb=>(some ((((decide ((2:Int)<=a))&&(decide (a<2305843009213690799)))&&(b.1==1)),())))
def zi5(φ:Nat):Fsp TV:=⟨[6],[.val 29],λz=>zi3 φ z.1⟩
def z1f(φ:Nat):Nat->Int->Pool->Option (Int×Unit)
 |0,_,_=>none
 |d+1,b,a=>(if(decide (b<(a.railways.length:Int)))=true then(ck (rg b a.railways.length) ((zi6 φ ((gt a.railways b).calendar)).bind λc=>(ck (((c.1 !=0)=false)->rg b a.railways.length) ((z9 (default,()) ((c.1 !=0)=false) (zi3 φ ((gt a.railways b).key))).bind λe=>(if((c.1 !=0)||(!e.1))=true then(some (1,())) else((z1f φ d) (W (b+1)) a)))))) else(if(((a.railways.length:Int):Int)==0)=true then(some (1,())) else(some (0,()))))
def z69(φ:Nat)(a:Pool):Option (Int×Unit):=((zi9 φ a.network).bind λb=>(if(b.1 !=0)=true then(some (b.1,())) else((zif φ a.fleet).bind λc=>(if(c.1 !=0)=true then(some (c.1,())) else(if(((decide ((256:Int)<(a.readers.length:Int)))||(decide ((256:Int)<(a.shippers.length:Int))))||(decide ((16:Int)<(a.railways.length:Int))))=true then(some (2,())) else((zmd φ a).bind λd=>((z9 (default,()) ((!d.1)=false) (zii φ a)).bind λe=>(if((!d.1)||(!e.1))=true then(some (1,())) else(z1f φ φ 0 a)))))))))
def z6a(φ:Nat):Fsp TV:=⟨[26],[.val 0],λz=>z69 φ z.1⟩
def z5p(φ:Nat)(a:Pool)(b c:Int):Option (Int×Unit):=((z69 φ a).bind λd=>(if(d.1 !=0)=true then(some (d.1,())) else(if((((decide (b<0))||(decide (((a.fleet.wagons.length:Int):Int)<=b)))||(decide (c<0)))||(decide ((1073741824:Int)<c)))=true then(some (1,())) else(some (0,())))))
def zdt(φ:Nat):Fsp TV:=⟨[26,0,0],[.val 0],kk3 (z5p φ)⟩
def zdg(φ:Nat)(a:Int)(b:Bool):Option (ByteArray×Unit):=(if b=true then(some (zls,())) else(if(a==13)=true then(some (zv7,())) else(if(a==15)=true then(some (zn4,())) else(some ((⟨#[]⟩:ByteArray),())))))
def zdf(φ:Nat)(a:Int)(b:Bool):Option (ByteArray×Unit):=(if b=true then(some (z75,())) else(if(a==5)=true then(some (zn5,())) else(if(a==6)=true then(some (z75,())) else(if(a==7)=true then(some (zf8,())) else(if(a==8)=true then(some (zn2,())) else(if(a==9)=true then(some (zn3,())) else(if(a==10)=true then(some (zv8,())) else(if(a==11)=true then(zdg φ a (a==11)) else(zdg φ a (a==12))))))))))
def zmf(φ:Nat)(a:Int):Option (ByteArray×Unit):=(if(a==1)=true then(some (zlt,())) else(if(a==2)=true then(some (zf7,())) else(if(a==3)=true then(zdf φ a (a==3)) else(zdf φ a (a==4)))))
def zld(φ:Nat):Fsp TV:=⟨[0],[.val 28],λz=>zmf φ z.1⟩
def z8(φ:Nat)(a b c:Int):Option (Bool×Unit):=(some (((decide (b<=a))&&(decide (a<=c))),()))
def z0i(φ:Nat):Fsp TV:=⟨[0,0,0],[.val 29],kk3 (z8 φ)⟩
def za8(φ:Nat)(a:Item):Option (Bool×Unit):=(if(((a.ref.railway:Int)==0)&&(((a.ref.no:Int)==0)&&true))=true then(some (((a.kind:Int) !=14),())) else((z8 φ a.ref.railway 0 15).bind λb=>((z9 (default,()) (b.1=true) (z8 φ a.ref.no 1 4096)).bind λc=>(some ((b.1&&c.1),())))))
def zb7(φ:Nat):Fsp TV:=⟨[32],[.val 29],λz=>za8 φ z.1⟩
def zet(φ:Nat):Nat->ByteArray->Int->Int->Option (Bool×Unit)
 |0,_,_,_=>none
 |d+1,a,c,b=>(if(decide (b<(a.size:Int)))=true then(ck (rg b a.size) (if(((z76 a b):Int)==c)=true then(some (true,())) else((zet φ d) a c (W (b+1))))) else(some (false,())))
def zbj(φ:Nat)(a:ByteArray)(b:Int):Option (Bool×Unit):=(zet φ φ a b 0)
def zqp(φ:Nat):Fsp TV:=⟨[28,45],[.val 29],kk2 (zbj φ)⟩
def zbm(φ:Nat)(a b:Int)(c:Bool):Option (Bool×Unit):=(if c=true then(some ((a==3),())) else(if(b==9)=true then(some ((a==5),())) else(some (true,()))))
def znu(φ:Nat)(b:Pool)(a:Item):Option (Bool×Unit):=((z8 φ a.place 0 (W ((b.network.places.length:Int)-1))).bind λc=>(if(!c.1)=true then(some (false,())) else(ck (rg a.place b.network.places.length) (if((a.kind:Int)==3)=true then(zbm φ ((gt b.network.places a.place).kind) a.kind ((a.kind:Int)==3)) else(zbm φ ((gt b.network.places a.place).kind) a.kind ((a.kind:Int)==4))))))
def ziv(φ:Nat):Fsp TV:=⟨[26,32],[.val 29],kk2 (znu φ)⟩
def zbl(φ:Nat)(c:Int)(d:Bool)(b:Pool)(a:Item):Option (Bool×Unit):=(if d=true then(ck (rg a.place b.network.places.length) (some ((((a.other:Int)==(gt b.network.places a.place).railway)||((a.other:Int)==(gt b.network.places a.place).other)),()))) else(if(c==10)=true then((z8 φ a.other 0 63).bind λe=>(some (e.1,()))) else((z8 φ a.other 0 (W ((b.shippers.length:Int)-1))).bind λf=>(some (f.1,())))))
def znt(φ:Nat)(b:Pool)(a:Item):Option (Bool×Unit):=(if((a.kind:Int)==1)=true then((z8 φ a.other 0 (W ((b.readers.length:Int)-1))).bind λc=>(some (c.1,()))) else(if((a.kind:Int)==3)=true then(zbl φ a.kind ((a.kind:Int)==3) b a) else(zbl φ a.kind ((a.kind:Int)==4) b a)))
def ziq(φ:Nat):Fsp TV:=⟨[26,32],[.val 29],kk2 (znt φ)⟩
def zlg(φ:Nat)(b:Pool)(a:Item):Option (Bool×Unit):=(if((a.kind:Int)==5)=true then((z8 φ a.number 1 1000000000).bind λc=>(some (c.1,()))) else(if((a.kind:Int)==15)=true then((z8 φ a.number 0 (W ((b.fleet.types.length:Int)-1))).bind λd=>(some (d.1,()))) else((z8 φ a.number 1 6).bind λe=>(some (e.1,())))))
def zge(φ:Nat):Fsp TV:=⟨[26,32],[.val 29],kk2 (zlg φ)⟩
def zdh(φ:Nat)(b:Int)(c:Bool)(a:Item):Option (Bool×Unit):=(if c=true then((z8 φ a.code 0 8).bind λd=>(some (d.1,()))) else(if(b==6)=true then((z8 φ a.code 0 1).bind λe=>(some (e.1,()))) else(if(b==8)=true then((z8 φ a.code 1 9).bind λf=>(some (f.1,()))) else((z8 φ a.code 1 2).bind λg=>(some (g.1,()))))))
def zqq(φ:Nat)(a:Item):Option (Bool×Unit):=(if((a.kind:Int)==3)=true then(zdh φ a.kind ((a.kind:Int)==3) a) else(zdh φ a.kind ((a.kind:Int)==4) a))
def zlf(φ:Nat):Fsp TV:=⟨[32],[.val 29],λz=>zqq φ z.1⟩
def zev(φ:Nat)(c:Pool)(a:Item)(b:Int):Option (Bool×Unit):=(if(b==119)=true then((z8 φ a.wagon 0 (W ((c.fleet.wagons.length:Int)-1))).bind λd=>(some (d.1,()))) else(if(b==112)=true then((znu φ c a).bind λe=>(some (e.1,()))) else(if(b==111)=true then((znt φ c a).bind λf=>(some (f.1,()))) else(if(b==110)=true then((zlg φ c a).bind λg=>(some (g.1,()))) else(if(b==102)=true then((z8 φ a.from_ 0 1073741824).bind λh=>(some (h.1,()))) else(if(b==116)=true then((z8 φ a.to a.from_ 1073741824).bind λi=>(some (i.1,()))) else(if(b==99)=true then((zqq φ a).bind λj=>(some (j.1,()))) else(if(b==100)=true then((z8 φ a.dest 0 (W ((c.network.places.length:Int)-1))).bind λk=>(some (k.1,()))) else(if(b==107)=true then((z8 φ a.class_ 0 63).bind λl=>(some (l.1,()))) else(if(b==103)=true then(if((a.kind:Int)==15)=true then((z8 φ a.weight 1 1000).bind λm=>(some (m.1,()))) else((z8 φ a.weight 0 1000000).bind λn=>(some (n.1,())))) else((z8 φ a.amount 0 1000000000).bind λo=>(some (o.1,())))))))))))))
def zix(φ:Nat):Fsp TV:=⟨[26,32,45],[.val 29],kk3 (zev φ)⟩
def zes(φ:Nat)(a:Item)(b:Int):Option (Int×Unit):=(if(b==119)=true then(some (a.wagon,())) else(if(b==112)=true then(some (a.place,())) else(if(b==111)=true then(some (a.other,())) else(if(b==110)=true then(some (a.number,())) else(if(b==102)=true then(some (a.from_,())) else(if(b==116)=true then(some (a.to,())) else(if(b==99)=true then(some (a.code,())) else(if(b==100)=true then(some (a.dest,())) else(if(b==107)=true then(some (a.class_,())) else(if(b==103)=true then(some (a.weight,())) else(some (a.amount,()))))))))))))
def zim(φ:Nat):Fsp TV:=⟨[32,45],[.val 0],kk2 (zes φ)⟩
def z6z(φ:Nat):Nat->Int->Item->Option (Bool×Unit)
 |0,_,_=>none
 |d+1,b,a=>(if(decide (b<(a.parts.length:Int)))=true then(ck (rg b a.parts.length) ((z8 φ ((gt a.parts b).kind) 1 3).bind λc=>((z9 (default,()) ((!c.1)=false) (z8 φ ((gt a.parts b).serial) 0 1073741824)).bind λe=>(if(((!c.1)||(!e.1))||(((a.kind:Int)==10)&&(gt a.parts b).fitted))=true then(some (false,())) else((z6z φ d) (W (b+1)) a))))) else(some (true,())))
def zir(φ:Nat)(a:Item):Option (Bool×Unit):=(if((decide ((16:Int)<(a.parts.length:Int)))||(((a.kind:Int)==10)&&(((a.parts.length:Int):Int)==0)))=true then(some (false,())) else(z6z φ φ 0 a))
def zit(φ:Nat):Fsp TV:=⟨[32],[.val 29],λz=>zir φ z.1⟩
def z3v(φ:Nat):Nat->ByteArray->Int->Pool->Item->Option (Bool×Unit)
 |0,_,_,_,_=>none
 |j+1,c,b,g,a=>(if(decide (b<11))=true then(ck (rg b z49.size) ((zbj φ c (z76 z49 b)).bind λd=>((z9 (default,()) (d.1=true) (zev φ g a (z76 z49 b))).bind λe=>((z9 (default,()) ((d.1&&(!e.1))=false) (zbj φ c (z76 z49 b))).bind λh=>((z9 (default,()) ((d.1&&(!e.1))=false/\(!h.1)=true) (zes φ a (z76 z49 b))).bind λk=>(if((d.1&&(!e.1))||((!h.1)&&(k.1 !=0)))=true then(some (false,())) else((z3v φ j) c (W (b+1)) g a))))))) else((zbj φ c 120).bind λl=>(if((l.1 !=(a.text !=(⟨#[]⟩:ByteArray)))||(decide ((2000:Int)<(a.text.size:Int))))=true then(some (false,())) else((zbj φ c 113).bind λf=>((z9 (default,()) (f.1=true) (zir φ a)).bind λi=>((z9 (default,()) ((f.1&&i.1)=false/\(((a.parts.length:Int):Int)==0)=true) (zbj φ c 113)).bind λm=>(some (((f.1&&i.1)||((((a.parts.length:Int):Int)==0)&&(!m.1))),()))))))))
def zb5(φ:Nat)(c:Pool)(a:Item):Option (Bool×Unit):=((zmf φ a.kind).bind λd=>((z8 φ a.kind 1 15).bind λb=>((z9 (default,()) ((!b.1)=false) (za8 φ a)).bind λe=>(if((!b.1)||(!e.1))=true then(some (false,())) else(z3v φ φ d.1 0 c a)))))
def zde(φ:Nat):Fsp TV:=⟨[26,32],[.val 29],kk2 (zb5 φ)⟩
def z97(φ:Nat):Nat->(List z5)->Int->Int->Pool->(List Int)->Option ((List Int)×Unit)
 |0,_,_,_,_,_=>none
 |f+1,b,c,a,e,d=>(if(decide (a<(b.length:Int)))=true then(ck (rg a b.length) (ck ((((((gt b a).item).kind:Int)==c)=true)->rg a b.length) ((z9 (default,()) (((((gt b a).item).kind:Int)==c)=true) (zb5 φ e ((gt b a).item))).bind λg=>(if(((((gt b a).item).kind:Int)==c)&&g.1)=true then(ck (fits (d.length+([a]).length) 8) ((z97 φ f) b c (W (a+1)) e (d++[a]))) else((z97 φ f) b c (W (a+1)) e d))))) else(some (d,())))
def zmj(φ:Nat)(a:Pool)(b :(List z5))(c:Int):Option ((List Int)×Unit):=(z97 φ φ b c 0 a ([]:List Int))
def zr0(φ:Nat):Fsp TV:=⟨[26,36,0],[.val 22],kk3 (zmj φ)⟩
def zdo(φ:Nat):Nat->(List z5)->Int->Int->Pool->(List Int)->Option ((List Int)×Unit)
 |0,_,_,_,_,_=>none
 |f+1,b,c,a,e,d=>(if(decide (a<(b.length:Int)))=true then(ck (rg a b.length) (ck ((((((gt b a).item).kind:Int)==c)=true)->rg a b.length) ((z9 (default,()) (((((gt b a).item).kind:Int)==c)=true) (zb5 φ e ((gt b a).item))).bind λg=>(if(((((gt b a).item).kind:Int)==c)&&g.1)=true then(ck (fits (d.length+([a]).length) 8) ((zdo φ f) b c (W (a+1)) e (d++[a]))) else((zdo φ f) b c (W (a+1)) e d))))) else(some (d,())))
def zml(φ:Nat)(a:Pool)(b :(List z5))(c:Int):Option ((List Int)×Unit):=(zdo φ φ b c 0 a ([]:List Int))
def zlk(φ:Nat):Fsp TV:=⟨[26,36,0],[.row 3 0],kk3 (zml φ)⟩
def z2o(φ:Nat)(a b:Ref):Option (Bool×Unit):=(some (((decide ((a.railway:Int)<b.railway))||(((a.railway:Int)==b.railway)&&(decide ((a.no:Int)<b.no)))),()))
def z70(φ:Nat):Fsp TV:=⟨[27,27],[.val 29],kk2 (z2o φ)⟩
def z4q(φ:Nat)(e :((List z5)->(List Int)->Int->(List Int)->Option ((List Int)×Unit)))(f :(List z5))(c :(List Int))(d b:Int)(a :(List Int)):Option ((List Int)×Unit):=(ck ((0:Int)<=0/\0<=b/\b<=(a.length:Int)) (ck (fits (([]:List Int).length+(zw a (0:Int).toNat b.toNat).length) 8) (ck (rg d c.length) (ck (fits ((([]:List Int)++(zw a (0:Int).toNat b.toNat)).length+([(gt c d)]).length) 8) (ck ((0:Int)<=b/\b<=(a.length:Int)/\(a.length:Int)<=(a.length:Int)) (ck (fits ((((([]:List Int)++(zw a (0:Int).toNat b.toNat))++[(gt c d)])).length+(zw a b.toNat ((a.length:Int):Int).toNat).length) 8) (e f c (W (d+1)) ((((([]:List Int)++(zw a (0:Int).toNat b.toNat))++[(gt c d)])++(zw a b.toNat ((a.length:Int):Int).toNat))))))))))
def z30(φ:Nat)(e :((List z5)->(List Int)->Int->(List Int)->Option ((List Int)×Unit))):Nat->(List z5)->(List Int)->Int->Int->(List Int)->z5->Option ((List Int)×Unit)
 |0,_,_,_,_,_,_=>none
 |h+1,c,f,g,a,b,d=>(if(decide (a<(b.length:Int)))=true then(ck (rg a b.length) (ck (rg (gt b a) c.length) ((z9 (default,()) ((decide ((((gt c (gt b a)).item).from_:Int)<d.item.from_))=false/\((d.item.from_:Int)==((gt c (gt b a)).item).from_)=true) (z2o φ d.ref ((gt c (gt b a)).ref))).bind λi=>(if(!((decide ((((gt c (gt b a)).item).from_:Int)<d.item.from_))||(((d.item.from_:Int)==((gt c (gt b a)).item).from_)&&(!i.1))))=true then(z4q φ e c f g a b) else((z30 φ e h) c f g (W (a+1)) b d))))) else(z4q φ e c f g a b))
def z3x(φ:Nat):Nat->(List z5)->(List Int)->Int->(List Int)->Option ((List Int)×Unit)
 |0,_,_,_,_=>none
 |e+1,c,a,b,d=>(if(decide (b<(a.length:Int)))=true then(ck (rg b a.length) (ck (rg (gt a b) c.length) (z30 φ (z3x φ e) φ c a b 0 d (gt c (gt a b))))) else(some (d,())))
def zfy(φ:Nat)(a :(List z5))(b :(List Int)):Option ((List Int)×Unit):=(z3x φ φ a b 0 ([]:List Int))
def zgj(φ:Nat):Fsp TV:=⟨[36,22],[.val 22],kk2 (zfy φ)⟩
def zbz(φ:Nat)(b:Pool)(a:z5):Option (Bool×Unit):=(ck (rg a.item.place b.network.places.length) (some ((((a.ref.railway:Int) !=a.item.other)&&(((((gt b.network.places a.item.place).railway:Int)==a.ref.railway)&&(((gt b.network.places a.item.place).other:Int)==a.item.other))||((((gt b.network.places a.item.place).railway:Int)==a.item.other)&&(((gt b.network.places a.item.place).other:Int)==a.ref.railway)))),())))
def zgh(φ:Nat):Fsp TV:=⟨[26,33],[.val 29],kk2 (zbz φ)⟩
def zez(φ:Nat)(a b:z5):Option (Int×Unit):=(some ((max2 (W (a.item.from_-b.item.from_)) (W (b.item.from_-a.item.from_))),()))
def zjb(φ:Nat):Fsp TV:=⟨[33,33],[.val 0],kk2 (zez φ)⟩
def zmi(φ:Nat)(d:Pool)(a b:z5):Option (Bool×Unit):=((zbz φ d a).bind λc=>((z9 (default,()) (c.1=true) (zbz φ d b)).bind λe=>((z9 (default,()) ((((((c.1&&e.1)&&((a.ref.railway:Int)==b.item.other))&&((b.ref.railway:Int)==a.item.other))&&((a.item.wagon:Int)==b.item.wagon))&&((a.item.place:Int)==b.item.place))=true) (zez φ a b)).bind λf=>(some (((((((c.1&&e.1)&&((a.ref.railway:Int)==b.item.other))&&((b.ref.railway:Int)==a.item.other))&&((a.item.wagon:Int)==b.item.wagon))&&((a.item.place:Int)==b.item.place))&&(decide (f.1<=60))),())))))
def zli(φ:Nat):Fsp TV:=⟨[26,33,33],[.val 29],kk3 (zmi φ)⟩
def z1g(φ:Nat)(m :((List z5)->(List Int)->(List Int)->Int->Pool->(List Bool)->(List (Nat->Int))->Option ((List (Nat->Int))×Unit))):Nat->(List z5)->(List Int)->(List Int)->Int->Int->Int->Pool->(List Bool)->(List (Nat->Int))->z5->Option ((List (Nat->Int))×Unit)
 |0,_,_,_,_,_,_,_,_,_,_=>none
 |p+1,c,f,b,g,a,d,k,e,l,h=>(if(decide (d<(b.length:Int)))=true then(ck (rg d b.length) (ck (rg (gt b d) e.length) (ck (((gt e (gt b d))=false)->rg (gt b d) c.length) ((z9 (default,()) ((gt e (gt b d))=false) (zmi φ k h (gt c (gt b d)))).bind λq=>(if((gt e (gt b d))||(!q.1))=true then((z1g φ m p) c f b g a (W (d+1)) k e l h) else(ck (((decide (a<0))=false)->rg (gt b d) c.length) ((z9 (default,()) ((decide (a<0))=false) (zez φ h (gt c (gt b d)))).bind λi=>(ck (((decide (a<0))=false)->rg a c.length) ((z9 (default,()) ((decide (a<0))=false) (zez φ h (gt c a))).bind λj=>(ck ((((decide (a<0))||(decide (i.1<j.1)))=false)->rg (gt b d) c.length) ((z9 (default,()) (((decide (a<0))||(decide (i.1<j.1)))=false) (zez φ h (gt c (gt b d)))).bind λn=>(ck ((((decide (a<0))||(decide (i.1<j.1)))=false)->rg a c.length) ((z9 (default,()) (((decide (a<0))||(decide (i.1<j.1)))=false) (zez φ h (gt c a))).bind λo=>(ck ((((decide (a<0))||(decide (i.1<j.1)))=false/\(n.1==o.1)=true)->rg (gt b d) c.length) (ck ((((decide (a<0))||(decide (i.1<j.1)))=false/\(n.1==o.1)=true)->rg a c.length) ((z9 (default,()) (((decide (a<0))||(decide (i.1<j.1)))=false/\(n.1==o.1)=true) (z2o φ ((gt c (gt b d)).ref) ((gt c a).ref))).bind λr=>(if(((decide (a<0))||(decide (i.1<j.1)))||((n.1==o.1)&&r.1))=true then((z1g φ m p) c f b g (gt b d) (W (d+1)) k e l h) else((z1g φ m p) c f b g a (W (d+1)) k e l h)))))))))))))))))) else(if(decide ((0:Int)<=a))=true then(ck (rg a e.length) (ck (rg g f.length) (ck (fits (l.length+([(upd (upd (λ_=>(default:Int)) 0 (gt f g)) 1 a)]).length) 16) (m c f b (W (g+1)) k (zk e a true) ((l++[(upd (upd (λ_=>(default:Int)) 0 (gt f g)) 1 a)])))))) else(m c f b (W (g+1)) k e l)))
def z2p(φ:Nat):Nat->(List z5)->(List Int)->(List Int)->Int->Pool->(List Bool)->(List (Nat->Int))->Option ((List (Nat->Int))×Unit)
 |0,_,_,_,_,_,_,_=>none
 |e+1,c,a,f,b,g,h,d=>(if(decide (b<(a.length:Int)))=true then(ck (rg b a.length) (ck (rg (gt a b) c.length) (z1g φ (z2p φ e) φ c a f b (-1) 0 g h d (gt c (gt a b))))) else(some (d,())))
def z98(φ:Nat)(b:Pool)(a :(List z5)):Option ((List (Nat->Int))×Unit):=((z69 φ b).bind λc=>(if(c.1 !=0)=true then(some (([]:List (Nat->Int)),())) else(ck (znn (a.length:Int) 1) ((zmj φ b a 3).bind λd=>((zfy φ a d.1).bind λe=>((zmj φ b a 4).bind λf=>(z2p φ φ a e.1 f.1 0 b (List.replicate ((a.length:Int):Int).toNat (default:Bool)) ([]:List (Nat->Int)))))))))
def zdq(φ:Nat):Fsp TV:=⟨[26,36],[.val 38],kk2 (z98 φ)⟩
def zj7(φ:Nat)(a b:z3):Option (Bool×Unit):=(if((a.at_:Int) !=b.at_)=true then(some ((decide ((a.at_:Int)<b.at_)),())) else(if((a.wagon:Int) !=b.wagon)=true then(some ((decide ((a.wagon:Int)<b.wagon)),())) else((z2o φ a.deliver b.deliver).bind λc=>(some (c.1,())))))
def zj9(φ:Nat):Fsp TV:=⟨[39,39],[.val 29],kk2 (zj7 φ)⟩
def z6d(φ:Nat)(d :((List z5)->(List (Nat->Int))->Int->(List z3)->Option ((List z3)×Unit))):Nat->(List z5)->(List (Nat->Int))->Int->Int->(List z3)->z3->Option ((List z3)×Unit)
 |0,_,_,_,_,_,_=>none
 |h+1,e,f,g,a,b,c=>(ck (((decide ((0:Int)<a))=true)->rg (W (a-1)) b.length) ((z9 (default,()) ((decide ((0:Int)<a))=true) (zj7 φ c (gt b (W (a-1))))).bind λi=>(if((decide ((0:Int)<a))&&i.1)=true then((z6d φ d h) e f g (W (a-1)) b c) else(ck ((0:Int)<=0/\0<=a/\a<=(b.length:Int)) (ck (fits (([]:List z3).length+(zw b (0:Int).toNat a.toNat).length) 80) (ck (fits ((([]:List z3)++(zw b (0:Int).toNat a.toNat)).length+([c]).length) 80) (ck ((0:Int)<=a/\a<=(b.length:Int)/\(b.length:Int)<=(b.length:Int)) (ck (fits ((((([]:List z3)++(zw b (0:Int).toNat a.toNat))++[c])).length+(zw b a.toNat ((b.length:Int):Int).toNat).length) 80) (d e f (W (g+1)) ((((([]:List z3)++(zw b (0:Int).toNat a.toNat))++[c])++(zw b a.toNat ((b.length:Int):Int).toNat))))))))))))
def z3n(φ:Nat):Nat->(List z5)->(List (Nat->Int))->Int->(List z3)->Option ((List z3)×Unit)
 |0,_,_,_,_=>none
 |e+1,c,a,b,d=>(if(decide (b<(a.length:Int)))=true then(ck (rg b a.length) (ck (rg ((gt a b) (0:Int).toNat) c.length) (ck (rg b a.length) (ck (rg ((gt a b) (1:Int).toNat) c.length) (if(2:Int)≠0 then(z6d φ (z3n φ e) φ c a b (d.length:Int) d ((⟨((gt c ((gt a b) (0:Int).toNat)).item).wagon,((gt c ((gt a b) (0:Int).toNat)).item).place,((gt c ((gt a b) (0:Int).toNat)).ref).railway,((gt c ((gt a b) (1:Int).toNat)).ref).railway,W (((W (((gt c ((gt a b) (0:Int).toNat)).item).from_+((gt c ((gt a b) (1:Int).toNat)).item).from_)):Int).tdiv 2),max2 (((gt c ((gt a b) (0:Int).toNat)).item).code) (((gt c ((gt a b) (1:Int).toNat)).item).code),(gt c ((gt a b) (0:Int).toNat)).ref,(gt c ((gt a b) (1:Int).toNat)).ref⟩:z3))) else none))))) else(some (d,())))
def z7l(φ:Nat)(b:Pool)(a :(List z5)):Option ((List z3)×Unit):=((z98 φ b a).bind λc=>(z3n φ φ a c.1 0 ([]:List z3)))
def zad(φ:Nat):Fsp TV:=⟨[26,36],[.val 40],kk2 (z7l φ)⟩
def z5o(φ:Nat):Nat->Int->(List z3)->Int->(List z6)->Option ((List z6)×Unit)
 |0,_,_,_,_=>none
 |e+1,d,a,b,c=>(if(decide (b<(a.length:Int)))=true then(ck (rg (W ((c.length:Int)-1)) c.length) (ck (rg b a.length) (ck (((((gt a b).wagon:Int)==d)=true)->rg b a.length) (ck ((((((gt a b).wagon:Int)==d)&&(((gt a b).from_:Int)==((gt c (W ((c.length:Int)-1)))).railway))=true)->rg b a.length) (if(((((gt a b).wagon:Int)==d)&&(((gt a b).from_:Int)==((gt c (W ((c.length:Int)-1)))).railway))&&(decide (((((gt c (W ((c.length:Int)-1)))).span).from_:Int)<(gt a b).at_)))=true then(ck (rg b a.length) (ck (rg b a.length) (ck (rg b a.length) (ck (fits (c.length+([(⟨(gt a b).to,(⟨(gt a b).at_,0⟩:Span),(gt a b).receive⟩:z6)]).length) 40) ((z5o φ e) d a (W (b+1)) ((c++[(⟨(gt a b).to,(⟨(gt a b).at_,0⟩:Span),(gt a b).receive⟩:z6)]))))))) else((z5o φ e) d a (W (b+1)) c)))))) else(some (c,())))
def zew(φ:Nat)(a:Pool)(c :(List z5))(b:Int):Option ((List z6)×Unit):=(ck (rg b a.fleet.wagons.length) (ck (rg (gt a.fleet.wagons b).home a.network.places.length) ((z7l φ a c).bind λd=>(z5o φ φ b d.1 0 ([(⟨(gt a.network.places ((gt a.fleet.wagons b).home)).railway,(⟨0,0⟩:Span),(⟨0,0⟩:Ref)⟩:z6)])))))
def zj0(φ:Nat):Fsp TV:=⟨[26,36,0],[.val 42],kk3 (zew φ)⟩
def z91(φ:Nat):Nat->Int->(List z3)->Int->(List z6)->Option ((List z6)×Unit)
 |0,_,_,_,_=>none
 |e+1,d,a,b,c=>(if(decide (b<(a.length:Int)))=true then(ck (rg (W ((c.length:Int)-1)) c.length) (ck (rg b a.length) (ck (((((gt a b).wagon:Int)==d)=true)->rg b a.length) (ck ((((((gt a b).wagon:Int)==d)&&(((gt a b).from_:Int)==((gt c (W ((c.length:Int)-1)))).railway))=true)->rg b a.length) (if(((((gt a b).wagon:Int)==d)&&(((gt a b).from_:Int)==((gt c (W ((c.length:Int)-1)))).railway))&&(decide (((((gt c (W ((c.length:Int)-1)))).span).from_:Int)<(gt a b).at_)))=true then(ck (rg b a.length) (ck (rg b a.length) (ck (rg b a.length) (ck (fits (c.length+([(⟨(gt a b).to,(⟨(gt a b).at_,0⟩:Span),(gt a b).receive⟩:z6)]).length) 40) ((z91 φ e) d a (W (b+1)) ((c++[(⟨(gt a b).to,(⟨(gt a b).at_,0⟩:Span),(gt a b).receive⟩:z6)]))))))) else((z91 φ e) d a (W (b+1)) c)))))) else(some (c,())))
def ziz(φ:Nat)(a:Pool)(c :(List z5))(b:Int):Option ((List z6)×Unit):=(ck (rg b a.fleet.wagons.length) (ck (rg (gt a.fleet.wagons b).home a.network.places.length) ((z7l φ a c).bind λd=>(z91 φ φ b d.1 0 ([(⟨(gt a.network.places ((gt a.fleet.wagons b).home)).railway,(⟨0,0⟩:Span),(⟨0,0⟩:Ref)⟩:z6)])))))
def zey(φ:Nat):Fsp TV:=⟨[26,36,0],[.row 68 41],kk3 (ziz φ)⟩
def z7n(φ:Nat)(d :(Int->Int->(List z6)->(List z6)->Option ((List z6)×Int×Unit)))(e a:Int)(b c :(List z6)):Option ((List z6)×Int×Unit):=(ck (rg a b.length) (ck (fits (c.length+([(gt b a)]).length) 40) (d e (W (a+1)) b (c++[(gt b a)]))))
def z0j(φ:Nat):Nat->Int->Int->(List z6)->(List z6)->Option ((List z6)×Int×Unit)
 |0,_,_,_,_=>none
 |e+1,c,a,b,d=>(if(decide (a<(b.length:Int)))=true then(ck (rg a b.length) (if(decide (c<=((gt b a).span).from_))=true then(some (d,0,())) else(ck (rg a b.length) (if(decide (((W (a+1)):Int)<(((zk b a ((⟨(gt b a).railway,(⟨((gt b a).span).from_,c⟩:Span),(gt b a).ref⟩:z6)))).length:Int)))=true then(ck (rg (W (a+1)) (((zk b a ((⟨(gt b a).railway,(⟨((gt b a).span).from_,c⟩:Span),(gt b a).ref⟩:z6)))).length)) (ck (rg a (((zk b a ((⟨(gt b a).railway,(⟨((gt b a).span).from_,c⟩:Span),(gt b a).ref⟩:z6)))).length)) (z7n φ (z0j φ e) c a ((zk ((zk b a ((⟨(gt b a).railway,(⟨((gt b a).span).from_,c⟩:Span),(gt b a).ref⟩:z6)))) a ((⟨((gt ((zk b a ((⟨(gt b a).railway,(⟨((gt b a).span).from_,c⟩:Span),(gt b a).ref⟩:z6)))) a)).railway,(⟨(((gt ((zk b a ((⟨(gt b a).railway,(⟨((gt b a).span).from_,c⟩:Span),(gt b a).ref⟩:z6)))) a)).span).from_,min2 c ((((gt ((zk b a ((⟨(gt b a).railway,(⟨((gt b a).span).from_,c⟩:Span),(gt b a).ref⟩:z6)))) (W (a+1)))).span).from_)⟩:Span),((gt ((zk b a ((⟨(gt b a).railway,(⟨((gt b a).span).from_,c⟩:Span),(gt b a).ref⟩:z6)))) a)).ref⟩:z6)))) d))) else(z7n φ (z0j φ e) c a ((zk b a ((⟨(gt b a).railway,(⟨((gt b a).span).from_,c⟩:Span),(gt b a).ref⟩:z6)))) d))))) else(some (d,0,())))
def z99(φ:Nat)(a:Pool)(e :(List z5))(b c:Int):Option ((List z6)×Int×Unit):=((z5p φ a b c).bind λd=>(if(d.1 !=0)=true then(some (([]:List z6),d.1,())) else((ziz φ a e b).bind λf=>(z0j φ φ c 0 f.1 ([]:List z6)))))
def zj5(φ:Nat):Fsp TV:=⟨[26,36,0,0],[.val 42,.val 0],kk4 (z99 φ)⟩
def z7k(φ:Nat):Nat->Int->(List z6)->Int->Int->Option (Int×Int×Unit)
 |0,_,_,_,_=>none
 |d+1,c,a,e,b=>(if(decide (b<(a.length:Int)))=true then(ck (rg b a.length) (if(decide ((((gt a b).span).from_:Int)<=c))=true then(ck (rg b a.length) ((z7k φ d) c a ((gt a b).railway) (W (b+1)))) else((z7k φ d) c a e (W (b+1))))) else(some (e,0,())))
def zmg(φ:Nat)(a:Pool)(e :(List z5))(b c:Int):Option (Int×Int×Unit):=((z5p φ a b c).bind λd=>(if(d.1 !=0)=true then(some (0,d.1,())) else((zew φ a e b).bind λf=>(z7k φ φ c f.1 0 0))))
def zqy(φ:Nat):Fsp TV:=⟨[26,36,0,0],[.val 0,.val 0],kk4 (zmg φ)⟩
def z26(φ:Nat)(d :((List z5)->Int->(List Bool)->(List Int)->(List Ref)->Option ((List Ref)×Unit))):Nat->(List z5)->Int->Int->(List Bool)->(List Int)->(List Ref)->Ref->Option ((List Ref)×Unit)
 |0,_,_,_,_,_,_,_=>none
 |i+1,e,f,a,g,h,b,c=>(ck (((decide ((0:Int)<a))=true)->rg (W (a-1)) b.length) ((z9 (default,()) ((decide ((0:Int)<a))=true) (z2o φ c (gt b (W (a-1))))).bind λj=>(if((decide ((0:Int)<a))&&j.1)=true then((z26 φ d i) e f (W (a-1)) g h b c) else(ck ((0:Int)<=0/\0<=a/\a<=(b.length:Int)) (ck (fits (([]:List Ref).length+(zw b (0:Int).toNat a.toNat).length) 16) (ck (fits ((([]:List Ref)++(zw b (0:Int).toNat a.toNat)).length+([c]).length) 16) (ck ((0:Int)<=a/\a<=(b.length:Int)/\(b.length:Int)<=(b.length:Int)) (ck (fits ((((([]:List Ref)++(zw b (0:Int).toNat a.toNat))++[c])).length+(zw b a.toNat ((b.length:Int):Int).toNat).length) 16) (d e (W (f+1)) g h ((((([]:List Ref)++(zw b (0:Int).toNat a.toNat))++[c])++(zw b a.toNat ((b.length:Int):Int).toNat))))))))))))
def z00(φ:Nat):Nat->(List z5)->Int->(List Bool)->(List Int)->(List Ref)->Option ((List Ref)×Unit)
 |0,_,_,_,_,_=>none
 |f+1,c,a,d,b,e=>(if(decide (a<(b.length:Int)))=true then(ck (rg a b.length) (ck (rg (gt b a) d.length) (if(gt d (gt b a))=true then((z00 φ f) c (W (a+1)) d b e) else(ck (rg a b.length) (ck (rg (gt b a) c.length) (z26 φ (z00 φ f) φ c a (e.length:Int) d b e ((gt c (gt b a)).ref))))))) else(some (e,())))
def z25(φ:Nat):Nat->(List z5)->(List (Nat->Int))->Int->Pool->(List Bool)->Option ((List Ref)×Unit)
 |0,_,_,_,_,_=>none
 |h+1,c,a,b,e,d=>(if(decide (b<(a.length:Int)))=true then(ck (rg b a.length) (ck (rg ((gt a b) (0:Int).toNat) d.length) (ck (rg b a.length) (ck (rg ((gt a b) (1:Int).toNat) (zk d ((gt a b) (0:Int).toNat) true).length) ((z25 φ h) c a (W (b+1)) e ((zk (zk d ((gt a b) (0:Int).toNat) true) ((gt a b) (1:Int).toNat) true))))))) else((zml φ e c 3).bind λf=>((zml φ e c 4).bind λg=>(ck (fits (f.1.length+g.1.length) 8) (z00 φ φ c 0 d (f.1++g.1) ([]:List Ref))))))
def z6e(φ:Nat)(b:Pool)(a :(List z5)):Option ((List Ref)×Unit):=((z69 φ b).bind λc=>(if(c.1 !=0)=true then(some (([]:List Ref),())) else(ck (znn (a.length:Int) 1) ((z98 φ b a).bind λd=>(z25 φ φ a d.1 0 b (List.replicate ((a.length:Int):Int).toNat (default:Bool)))))))
def zbb(φ:Nat):Fsp TV:=⟨[26,36],[.val 44],kk2 (z6e φ)⟩
def z11(φ:Nat)(a:Pool)(b :(List z5))(d e f:Int):Option (Bool×Unit):=((zh0 φ).bind λl=>(if(!l.1)=true then(some (false,())) else((zky φ a b).bind λm=>(if(!m.1)=true then(some (true,())) else((z2d φ a b d e).bind λg=>((z99 φ a b d e).bind λh=>((z7j φ a b d f).bind λi=>((zmg φ a b d f).bind λj=>((z0h φ a b).bind λn=>((z7l φ a b).bind λo=>((z3w φ n.1 o.1).bind λc=>((z9 (default,()) (c.1=true) (zx φ a b)).bind λp=>((z9 (default,()) (c.1=true) (z6e φ a b)).bind λq=>((z9 (default,()) (c.1=true) (z3o φ p.1 q.1)).bind λk=>((z9 (default,()) ((c.1&&k.1)=true) (zh3 φ g.1 h.1)).bind λr=>(some ((((((c.1&&k.1)&&r.1)&&(g.2.1==h.2.1))&&(i.1==j.1))&&(i.2.1==j.2.1)),())))))))))))))))))
def z3j(φ:Nat):Fsp TV:=⟨[26,36,0,0,0],[.val 29],kk5 (z11 φ)⟩
end Px
end
