/- A part of the proof of topCheapest_holds. Conditions: none. -/
import Derived.Test.YtcofccdjgfgeeaaKtad
import Derived.Shelf.SlSortCmp.NoneTotal
import Derived.Shelf.Sort.Plain
import Derived.Shelf.Slices.In.SortNone
set_option linter.unusedVariables false
set_option linter.unusedSimpArgs false
section
namespace Px
open Go Go.RowKit
section cells
variable{T:Nat->Type}
end cells
section
variable(V:TE)
variable{V}
end
theorem zyu{r:Nat->Prop}{w:World}: ∀{us vs:List Value},zo r w (us.map eqv) vs->vs=us
 |us,vs,⟨hl,h⟩=>by
  refine w3d λi=>?_
  by_cases hi:i<us.length
  .obtain⟨u,hu,he,_⟩:=h i (eqv us[i]) (by simp[hi]);rw[hu,w0a hi];exact congrArg some he
  .have hl':us.length=vs.length:=by simpa using hl
   rw[w1m (show us.length<=i by omega),w1m (show vs.length<=i by omega)]
theorem zyx{r:Nat->Prop}{w:World}{us:List Value}(h:∀v∈us,v.oneCell'=true):zo r w (us.map eqv) us:=by refine⟨by simp,λj A hj=>?_⟩;simp only[w12,w1u] at hj;obtain⟨u,hu,rfl⟩:=hj;exact⟨u,hu,rfl,h u (w0y hu)⟩
theorem y22{w:World}{g:Nat}{cur:Array Value}{E:TypeId}{F:Array Value}(hh:w.heap[g]? = some (.cells cur E (0,0)))(hF:cur.toList.take F.size=F.toList):Sort.Holds id w g 0 F:=by
 intro j hj;have h1:cur[j]? = some F[j]:=by
  have :(cur.toList.take F.size)[j]? = F.toList[j]?:=by rw[hF]
  rw[w0o,if_pos hj] at this;simpa[hj] using this
 rw[getElem!_pos F j hj];refine⟨?_,?_⟩
 .unfold World.cell?;rw[hh];simpa using h1
 .unfold World.frozen?;rw[hh];simp
theorem zzu{w:World}{g n:Nat}{cur:Array Value}{E:TypeId}{F:Array Value}{os:Array Obj}(hh:w.heap[g]? = some (.cells cur E (0,0)))(hs:F.size<=cur.size):
  ∃cur',(Sort.grow (Sort.putRow id (Sort.ahead w n) g 0 F) os).heap[g]? = some (.cells cur' E (0,0))/\cur'.size=cur.size/\cur'.toList.take F.size=F.toList:=by
 have hlt:g<w.heap.size:=(w20.1 hh).1;refine⟨Sort.putCells id 0 F cur,?_,by simp[Sort.putCells],?_⟩
 .simp only[Sort.grow,Sort.putRow,Sort.mapBlock,Sort.ahead];rw[w17,if_pos (by simpa using hlt),Array.getElem?_modify,if_pos rfl,hh];rfl
 .refine w3d λj=>?_
  rw[w0o];by_cases hj:j<F.size
  .rw[if_pos hj];have:j<cur.size:=by omega
   simp[Sort.putCells,this,hj]
  .rw[if_neg hj,w1m (by simpa using hj)]
theorem zu6{w:World}{g n b:Nat}{F:Array Value}{os:Array Obj}(hb:b<w.heap.size)(hg:b≠g):(Sort.grow (Sort.putRow id (Sort.ahead w n) g 0 F) os).heap[b]? = w.heap[b]?:=by simp only[Sort.grow,Sort.putRow,Sort.mapBlock,Sort.ahead];rw[w17,if_pos (by simpa using hb),Array.getElem?_modify,if_neg (λe=>hg e.symm)]
theorem y79[Dr]{P:Program}{f:FuncId}{args:List VP}{vs0:List Value}{α:Type}{E:TypeId}{e:α->List VP}{ce:α->List Value}{k:Nat}{l l':List α}{sv:Value}
  (he:∀x∈l,e x =(ce x).map eqv) (he':∀x∈l',e x =(ce x).map eqv) (hone:∀x∈l',∀v∈ce x,v.oneCell'=true) (hk:∀x∈l,(ce x).length=k) (hk':∀x∈l',(ce x).length=k) (hlen:l'.length=l.length) (hargs:args=vs0.map eqv)
  (hnil:l = []->∀p cap w,Calls P f (#[.slice p 0 cap]++vs0.toArray) w λe w'=>e = .returned (.tuple #[])/\w'=w)
  (hrun:l≠[]->∀g cap w,g<w.heap.size->(∀F:Array Value,F.toList=l.flatMap ce->Sort.Holds id w g 0 F)->
   Calls P f (#[.slice (some ⟨g,0,none⟩) l.length cap]++vs0.toArray) w λe w'=>e = .returned (.tuple #[])/\∃n os F,F.toList=l'.flatMap ce/\w'=Sort.grow (Sort.putRow id (Sort.ahead w n) g 0 F) os) :
  MutT P f (eqv sv::args) E e k l sv λx l2=>x=eqv (.tuple #[])/\l2=l':=by
 intro w0 base r S w vs hw hl hA;have hvs:vs = #[sv]++vs0.toArray:=by
  have hsz:vs.size=1+vs0.length:=by rw[hl,hargs];simp;omega
  refine Array.ext (by rw[hsz];simp[w59]) λi h1 h2=>?_
  cases i with
  |zero=>have:=hA 0 (eqv sv) rfl;simp only[w07,w2b h1,w19] at this;have this:vs[0]=sv:=this;rw[this,Array.getElem_append_left (by simp)];rfl
  |succ i=>
   have hi:i<vs0.length:=by omega
   have:=hA (i+1) (eqv vs0[i]) (by rw[hargs];simp[hi]);simp only[w07,w2b h1,w19] at this;rw[this];rw[Array.getElem_append_right (by simp)];simp
 subst hvs;have hrow:=hw.obj 0 _ rfl;have hfm:l.flatMap e =(l.flatMap ce).map eqv:=by
  rw[List.map_flatMap];clear hnil hrun hrow hk hlen hw
  induction l with
  |nil=>rfl
  |cons x l ih=>rw[w0n,w0n,he x (w0m),ih (λy hy=>he y (w09 _ hy))]
 have hfm':l'.flatMap e =(l'.flatMap ce).map eqv:=by
  rw[List.map_flatMap];clear hnil hrun hrow hk hk' hlen hw hone
  induction l' with
  |nil=>rfl
  |cons x l' ih=>rw[w0n,w0n,he' x (w0m),ih (λy hy=>he' y (w09 _ hy))]
 have hfl:∀m:List α,(∀x∈m,(ce x).length=k)->(m.flatMap ce).length=m.length*k:=by
  intro m
  induction m with
  |nil=>intro _;simp
  |cons x m ih=>intro h;rw[w0n,w0i,h x (w0m),ih (λy hy=>h y (w09 _ hy)),w1b,w1e];omega
 by_cases h0:l = []
 .have hl0:l' = []:=w18 (by rw[hlen,h0];rfl);have hslice:∃p cap,sv = .slice p 0 cap:=by
   rcases hrow with⟨rfl,_⟩|⟨g,cap,cur,rfl,_⟩
   .exact⟨_,_,rfl⟩
   .rw[h0];exact⟨_,_,rfl⟩
  obtain⟨p,cap,rfl⟩:=hslice;refine(hnil h0 p cap w).mono ?_;rintro en w' ⟨rfl,rfl⟩;refine⟨_,eqv (.tuple #[]),_,r,S,rfl,Evo.refl _ _ _,hw,rfl,l',?_,rfl,rfl⟩;rw[h0,hl0]
 .rcases hrow with⟨_,rfl⟩|⟨g,cap,cur,rfl,hS,hcur,hle,hmax,hsz,hc⟩
  .exact absurd rfl h0
  .have hlt:=(w20.1 hcur).1;rw[hfm] at hc;have hc:=zyu hc;refine(hrun h0 g cap w hlt λF hF=>y22 hcur ?_).mono ?_
   .have:F.size=l.length*k:=by rw[<- w3j,hF,hfl l hk]
    rw[this,hc,hF]
   .rintro en w' ⟨rfl,n,os,F,hF,rfl⟩;have hFs:F.size=l.length*k:=by rw[<- w3j,hF,hfl l' hk',hlen]
    have hb:∀b,b<w.heap.size->¬S 0 b->(Sort.grow (Sort.putRow id (Sort.ahead w n) g 0 F) os).heap[b]? = w.heap[b]?:=λb hb hs=>zu6 hb (λe=>hs (e ▸ hS))
    obtain⟨cur',hcur',hsz',htk⟩:=zzu (n:=n) (os:=os) (F:=F) hcur (by rw[hFs,hsz];exact w14 _ hle);refine⟨_,eqv (.tuple #[]),_,r,_,rfl,hw.evo_repl 0 hb,hw.repl 0 (row E e k l' (.slice (some ⟨g,0,none⟩) l.length cap)) (S 0) (by simp) rfl ⟨rfl,Nat.le_add_right _ _⟩ rfl (by simp[Sort.grow,Sort.putRow,Sort.mapBlock,Sort.ahead]) hb (λb hb'=>?_) ?_,rfl,l',rfl,rfl,rfl⟩
    .obtain⟨_,h2,h3,h4⟩:=hw.own 0 b hb';refine⟨h2,?_,h4,λj hj hs=>hj (hw.apart j 0 b hs hb')⟩;simp[Sort.grow,Sort.putRow,Sort.mapBlock,Sort.ahead];omega
    .refine .inr ⟨g,cap,cur',by rw[hlen],hS,hcur',by omega,hmax,by omega,?_⟩;rw[hlen,<- hFs,htk,hF,hfm'];exact zyx λv hv=>by obtain⟨x,hx,hxv⟩:=w1p.1 hv;exact hone x hx v hxv
def insL{α:Type}(lt:α->α->Bool)(x:α):List α->List α
 | []=>[x]
 |y::l=>bif lt y x then y::insL lt x l else x::y::l
def zqp{α:Type}(lt:α->α->Bool):List α->List α
 | []=>[]
 |x::l=>insL lt x (zqp lt l)
theorem zm3{α:Type}(lt:α->α->Bool)(x:α):∀l:List α,(insL lt x l).Perm (x::l)
 | []=>List.Perm.refl _
 |y::l=>by
  simp only[insL];cases lt y x with
  |true=>exact((zm3 lt x l).cons y).trans (List.Perm.swap x y l)
  |false=>exact List.Perm.refl _
theorem z9v{α:Type}(lt:α->α->Bool):∀l:List α,(zqp lt l).Perm l
 | []=>List.Perm.refl _
 |x::l=>(zm3 lt x _).trans ((z9v lt l).cons x)
theorem zm4{α:Type}{lt:α->α->Bool}(hO:Sort.SWO lt)(x:α):∀l:List α,l.Pairwise (λa b=>lt b a=false)->(insL lt x l).Pairwise λa b=>lt b a=false
 | [],_=>w3m _ _
 |y::l,h=>by
  rw[w28] at h;simp only[insL];cases hl:lt y x with
  |true=>
   simp only[cond_true,w28];refine⟨λz hz=>?_,zm4 hO x l h.2⟩;rcases w0c.1 ((zm3 lt x l).mem_iff.1 hz) with rfl|hz
   .cases hx:lt z y with
    |false=>rfl
    |true=>have:=hO.trans _ _ _ hl hx;rw[hO.irrefl] at this;cases this
   .exact h.1 z hz
  |false=>
   simp only[cond_false,w28];refine⟨λz hz=>?_,h.1,h.2⟩;rcases w0c.1 hz with rfl|hz
   .exact hl
   .exact hO.ntrans _ _ _ (h.1 z hz) hl
theorem zjg{α:Type}{lt:α->α->Bool}(hO:Sort.SWO lt):∀l:List α,(zqp lt l).Pairwise λa b=>lt b a=false
 | []=>List.Pairwise.nil
 |x::l=>zm4 hO x _ (zjg hO l)
theorem y1z{α:Type}[Inhabited α]{enc:α->Value}{w:World}{b o:Nat}{d:Array α}(h:Sort.Holds id w b o (d.map enc)):Sort.Holds enc w b o d:=by intro j hj;have:=h j (by simpa using hj);rw[getElem!_pos _ j (by simpa using hj)] at this;rw[getElem!_pos d j hj];simpa using this
theorem zzi{α:Type}[Inhabited α]{enc:α->Value}{w:World}{b o:Nat}{d:Array α}: Sort.putRow enc w b o d=Sort.putRow id w b o (d.map enc):=by
 unfold Sort.putRow;congr 1;funext cur;unfold Sort.putCells;congr 1;funext k x;simp only[Array.size_map];split
 .rename_i h;have h1:k-o<d.size:=by omega
  rw[getElem!_pos d _ h1,getElem!_pos _ _ (by simpa using h1)];simp
 .rfl
def zl1(l:List Int):Option (List Int):=if l.length<4611686018427387904 then some (zqp (λa b=>decide (a<b)) l) else none
theorem ycx:Sort.SWO (λa b:Int=>decide (a<b)) where
 irrefl:=λx=>by simp
 trans:=λx y z h1 h2=>by simp at *;omega
 ntrans:=λx y z h1 h2=>by simp at *;omega
theorem zvf(l:List Int):l.mergeSort (λx y=>decide (x<=y))=zqp (λa b=>decide (a<b)) l:=by
 refine List.Perm.eq_of_pairwise (le:=λa b:Int=>a<=b) (λa b _ _ h1 h2=>by omega) ?_ ?_ ((List.mergeSort_perm _ _).trans (z9v _ _).symm)
 .have:=List.pairwise_mergeSort (le:=λx y:Int=>decide (x<=y)) (by intro a b c h1 h2;simp at *;omega) (by intro a b;simp;omega) l
  exact this.imp λh=>by simpa using h
 .exact(zjg ycx l).imp λh=>by simpa using h
theorem zu5[Dr]{P:Program}{ρ:Shelf.Ren}(L:Proofs.Lays.n189 P ρ){E:Nat}{l l':List Int}{sv:Value}(hF:zl1 l=some l'):MutT P (ρ.f 189) [eqv sv] E (λn:Int=>[iv .i64 n]) 1 l sv λx l2=>x=eqv (.tuple #[])/\l2=l':=by
 unfold zl1 at hF;split at hF
 .rename_i hl;have:=w0f hF;subst this;have hfm:∀q:List Int,q.flatMap (λn=>[Value.int .i64 n])=q.map (Value.int .i64):=λq=>by induction q with
   |nil=>rfl
   |cons x q ih=>rw[w0n,ih];rfl
  refine y79 (args:=[]) (vs0:=[]) (ce:=λn=>[.int .i64 n]) (λx _=>rfl) (λx _=>rfl) (λx _ v hv=>by simp only[w0d] at hv;subst hv;rfl) (λx _=>rfl) (λx _=>rfl) (z9v _ _).length_eq rfl ?_ ?_
  .intro _ p cap w;exact Proofs.Any.slices_Sort_int_none L p cap w
  .intro hne b cap w hlt hH;refine(Proofs.Any.slices_Sort_int L b 0 cap l w (y1z (hH _ ?_)) hlt hl).mono ?_
   .rw[hfm];simp
   .rintro e w' ⟨rfl,n,os,rfl⟩;refine⟨rfl,n,os,_,?_,by rw[zzi]⟩;rw[hfm,zvf];simp
 .cases hF
end Px
end
section
namespace Px
open Go Go.RowKit Go.ChangeShapes Go.WideShapes Go.ChangeAt
section
variable{T:Nat->Type}
def rT(g :(c:Nat)->T c->Prop):(fs:List Nat)->Tup T fs->Prop
 | [],_=>True
 | [c],x=>g c x.1
 |c::cs,x=>g c x.1/\rT g cs x.2
def rD(g :(c:Nat)->T c->Prop): {α:Type}->Ds T α->α->Prop
 |_,.int k,x=>RI k x
 |_,.bool,_=>True
 |_,.str,x=>x.size<=maxLen
 |_,.sl c,x=>RL (g c) x
 |_,.map _ _,_=>True
 |_,.arr n c,x=>∀i,i<n->g c (x i)
 |_,.st fs _ un _,x=>rT g fs (un x)
theorem yck{g :(c:Nat)->T c->Prop}{c:Nat}: ∀{cs:List Nat}{x:T c×Tup T cs},g c x.1->rT g cs x.2->rT g (c::cs) x
 | [],_,h,_=>h
 |_::_,_,h,k=>⟨h,k⟩
end
section
variable(V:TE)(P:Program)
def rdN:Nat->(c:Nat)->V.T c->Prop
 |0,_,_=>True
 |n+1,c,x=>rD (rdN n) (V.d c) x
def opF(g:TypeId->Nat->Bool):List Nat->List (TypeId×Nat×Nat)->Nat->Nat->Bool
 | [],[],o,m=>Nat.beq o m
 |c::cs,(ty,off,m)::l,o,e=>Nat.beq off o&&Nat.beq m (V.sz c)&&g ty c&&opF g cs l (o+m) e
 |_,_,_,_=>false
def opD(g:TypeId->Nat->Bool): {α:Type}->Ds V.T α->TypeId->Bool
 |_,.int k,t=>match P.underlying t with|some (.int k')=>decide (k'=k)|_=>false
 |_,.bool,t=>match P.underlying t with|some .bool=>true|_=>false
 |_,.str,t=>match P.underlying t with|some .string=>true|_=>false
 |_,.sl c,t=>match P.underlying t with|some (.slice E)=>Nat.beq (P.cellsOf E) (V.sz c)&&Nat.blt 0 (V.sz c)&&g E c|_=>false
 |_,.map _ _,_=>false
 |_,.arr n c,t=>match P.underlying t with|some (.array N E)=>Nat.beq N n&&Nat.beq (P.cellsOf E) (V.sz c)&&Nat.beq (P.cellsOf t) (n*V.sz c)&&g E c|_=>false
 |_,.st fs _ _ _,t=>match zro P t with|some l=>opF V g fs l 0 (P.cellsOf t)|none=>false
def opN:Nat->TypeId->Nat->Bool
 |0,_,_=>false
 |n+1,t,c=>opD V P (opN n) (V.d c) t
def yc1(n:Nat):List TypeId->List Nat->Bool
 | [],[]=>true
 |t::ts,c::cs=>opN V P n t c&&yc1 n ts cs
 |_,_=>false
def ycl(n:Nat):(cs:List Nat)->Tup V.T cs->Prop
 | [],_=>True
 |c::cs,x=>rdN V n c x.1/\ycl n cs x.2
variable{V P}
theorem y9t:∀(n:Nat)(t:TypeId)(c:Nat),opN V P n t c=true->Opn P t (V.sz c) (V.ev c) (rdN V n c)
 |0,_,_,h=>by cases h
 |n+1,t,c,h=>by
  have ih:=y9t n;have hev:V.ev c=evD V.ev (V.mv V.ev) V.sz (V.d c):=funext λx=>V.ev_eq c x
  have hr:rdN V (n+1) c=rD (rdN V n) (V.d c):=rfl;rw[hev,V.sz_eq,hr];change opD V P (opN V P n) (V.d c) t=true at h;revert h;clear hev hr;generalize V.d c=d;revert d;generalize V.T c=α;intro d h;cases d with
  |int k=>
   simp only[opD] at h;split at h
   .rename_i k' hu;simp only[decide_eq_true_eq] at h;subst h;exact Opn.int hu
   .cases h
  |bool=>
   simp only[opD] at h;split at h
   .rename_i hu;exact Opn.bool hu
   .cases h
  |str=>
   simp only[opD] at h;split at h
   .rename_i hu;exact Opn.string hu
   .cases h
  |sl c'=>
   simp only[opD] at h;split at h
   .rename_i E hu;simp only[w02,w2d] at h;obtain⟨⟨h1,h2⟩,h3⟩:=h;exact Opn.slice hu (w01 h1) h2 (ih E c' h3)
   .cases h
  |map kc vc=>simp[opD] at h
  |arr m c'=>
   simp only[opD] at h;split at h
   .rename_i N E hu;simp only[w02] at h;obtain⟨⟨⟨h1,h2⟩,h3⟩,h4⟩:=h;have h1:=w01 h1;subst h1;have:Inhabited (V.T c'):=⟨V.z c'⟩;exact Opn.array hu (w01 h2) (w01 h3) rfl (ih E c' h4)
   .cases h
  |st fs mk un law=>
   simp only[opD] at h;split at h
   .rename_i l hl;intro H enc w sp held fuel cs x hx;obtain⟨hlen,m,hf⟩:=zwe hl hx;have key:∀(fs:List Nat)(l':List (TypeId×Nat×Nat))(o:Nat),opF V (opN V P n) fs l' o (P.cellsOf t)=true->(∀(i:Nat)(ty:TypeId)(off m':Nat),l'[i]? = some (ty,off,m')->∃y,DataW.trod enc P w 0 sp held m ty ((cs.drop off).take m')=some y)->
      o+fs.foldr (λc s=>V.sz c+s) 0=P.cellsOf t/\∃y:Tup V.T fs,rT (rdN V n) fs y/\zo (λb=>b<w.heap.size) w (evT V.ev fs y) (cs.drop o):=by
     intro fs
     induction fs with
     |nil=>
      intro l' o h hf;cases l' with
      |nil=>have:=w01 h;subst this;exact⟨rfl,(),trivial,zo.tile0 hlen⟩
      |cons a l'=>cases h
     |cons c cs' ihf=>
      intro l' o h hf;cases l' with
      |nil=>cases h
      |cons a l'=>obtain⟨ty,off,m'⟩:=a;simp only[opF,w02] at h;obtain⟨⟨⟨h1,h2⟩,h3⟩,h4⟩:=h;have h1:=w01 h1;have h2:=w01 h2;subst h1;subst h2;obtain⟨y0,hy0⟩:=hf 0 _ _ _ rfl;obtain⟨_,y,hR,hc⟩:=ih ty c h3 _ _ _ _ _ _ _ _ hy0;obtain⟨he,z,hz,hcz⟩:=ihf l' _ h4 (λi ty off m' hi=>hf (i+1) ty off m' hi);refine⟨by simp only[w5k];omega,(y,z),yck hR hz,?_⟩;exact zo.tile hc hcz
    obtain⟨he,y,hy,hc⟩:=key fs l 0 h hf;rw[w3v] at hc;refine⟨by rw[hlen,<- he,w13];rfl,mk y,?_,?_⟩
    .show rT _ fs (un (mk y));rw[law];exact hy
    .show zo _ _ (evT V.ev fs (un (mk y))) cs;rw[law];exact hc
   .cases h
theorem yd5{H:Type}{enc:TypeId×Value->H}{W:World}{sp:Nat->Bool}{held:Bool}{base n:Nat}{t:TypeId}{c:Nat}{v:Value}{d:DataW H}{p:List MemPlace}
  (ho:opN V P n t c=true) (hv:Value.okWide P W .any base t v) (h:DataW.Trod enc P W 0 sp held t v d p):∃y,rdN V n c y/\(V.vl c y).h (λb=>b<W.heap.size) W v:=by
 cases n with
 |zero=>cases ho
 |succ n=>
 obtain⟨fuel,hf⟩:=h;obtain⟨_,y,hR,hc⟩:=y9t _ _ _ ho _ _ _ _ _ _ _ _ hf;refine⟨y,hR,?_⟩;change opD V P (opN V P n) (V.d c) t=true at ho;unfold Value.okWide at hv;cases ha:z5o (V.d c) with
 |true=>
  rw[znh y ha];have hs:∃cs,v = .agg cs:=by
   revert ho ha;generalize V.d c=d;generalize V.T c=α at d;intro ho ha;cases d with
   |arr m c'=>
    simp only[opD] at ho;split at ho
    .rename_i N E hu;rw[hu] at hv;obtain⟨cs,rfl,_⟩:=hv;exact⟨cs,rfl⟩
    .cases ho
   |st fs mk un law=>
    simp only[opD,zro] at ho;cases hu:P.underlying t with
    |none=>rw[hu] at ho;cases ho
    |some X=>
     rw[hu] at ho hv;cases X with
     |struct fs'=>obtain⟨cs,rfl,_⟩:=hv;exact⟨cs,rfl⟩
     |_=>cases ho
   |_=>cases ha
  obtain⟨cs,rfl⟩:=hs;exact⟨cs,rfl,hc⟩
 |false=>
  rw[zni y ha] at hc;have hcell:v.cells.toList = [v]:=by
   revert ho ha;generalize V.d c=d;generalize V.T c=α at d;intro ho ha;cases d with
   |int k=>
    simp only[opD] at ho;split at ho
    .rename_i k' hu;rw[hu] at hv;cases v<;>first|rfl |(exfalso;simp[Cell.okWide,Cell.ok,hu] at hv)
    .cases ho
   |bool=>
    simp only[opD] at ho;split at ho
    .rename_i hu;rw[hu] at hv;cases v<;>first|rfl |(exfalso;simp[Cell.okWide,Cell.ok,hu] at hv)
    .cases ho
   |str=>
    simp only[opD] at ho;split at ho
    .rename_i hu;rw[hu] at hv;cases v<;>first|rfl |(exfalso;simp[Cell.okWide,Cell.ok,hu] at hv)
    .cases ho
   |sl c'=>
    simp only[opD] at ho;split at ho
    .rename_i E hu;rw[hu] at hv;cases v<;>first|rfl |(exfalso;simp[Cell.okWide,Cell.ok,hu] at hv)
    .cases ho
   |arr m c'=>cases ha
   |map kc vc=>simp[opD] at ho
   |st fs mk un law=>cases ha
  rw[hcell] at hc;obtain⟨u,hu',hA,_⟩:=hc.2 0 (V.vl c y) rfl;simp at hu';subst hu';exact hA
theorem y0h{H:Type}{enc:TypeId×Value->H}{W:World}{sp:Nat->Bool}{held:Bool}{base n:Nat}: ∀{ts:List TypeId}{cs:List Nat}{vs:List Value}{ds:List (DataW H)}{ps:List MemPlace},
  yc1 V P n ts cs=true->DataW.TrodAll enc P W 0 sp held ts vs ds ps->(∀(j:Nat)t v,ts[j]? = some t->vs[j]? = some v->Value.okWide P W .any base t v)->
  vs.length=cs.length/\∃x:Tup V.T cs,ycl V n cs x/\∀(i:Nat)(A:VP),(vls V cs x)[i]? = some A->A.h (λb=>b<W.heap.size) W (vs.getD i undef)
 | [],[],vs,ds,ps,_,h,_=>by
  cases vs with
  |nil=>exact⟨rfl,(),trivial,λi A hi=>by simp[vls] at hi⟩
  |cons v vs=>cases ds<;>exact h.elim
 |t::ts,c::cs,vs,ds,ps,ho,h,hv=>by
  simp only[yc1,w02] at ho;cases vs with
  |nil=>cases ds<;>exact h.elim
  |cons v vs=>
   cases ds with
   |nil=>exact h.elim
   |cons d ds=>
    obtain⟨p,q,h1,h2,_⟩:=h;obtain⟨y,hR,hA⟩:=yd5 ho.1 (hv 0 t v rfl rfl) h1;obtain⟨hl,x,hx,hxs⟩:=y0h ho.2 h2 (λj t v ht hvj=>hv (j+1) t v ht hvj);refine⟨by simp[hl],(y,x),⟨hR,hx⟩,λi A hi=>?_⟩;cases i with
    |zero=>simp only[vls,w31,w00] at hi;subst hi;exact hA
    |succ i=>simp only[vls,w2n] at hi;simpa using hxs i A hi
 | [],_::_,_,_,_,ho,_,_=>by cases ho
 |_::_,[],_,_,_,ho,_,_=>by cases ho
theorem znd{H:Type}{enc:TypeId×Value->H}{P:Program}{W:World}{b:Nat}{sp:Nat->Bool}{held:Bool}: ∀{ts:List TypeId}{vs:List Value}{ds:List (DataW H)}{ps:List MemPlace},DataW.TrodAll enc P W b sp held ts vs ds ps->ds.length=ts.length
 | [],[],[],_,_=>rfl
 |t::ts,v::vs,d::ds,ps,⟨p,q,_,h,_⟩=>by simp[znd h]
 | [],_::_,_,_,h=>h.elim
 | [],[],_::_,_,h=>h.elim
 |_::_,[],_,_,h=>h.elim
 |_::_,_::_,[],_,h=>h.elim
theorem y56:∀(cs:List Nat)(x:Tup V.T cs),(vls V cs x).length=cs.length
 | [],_=>rfl
 |c::cs,x=>by simp only[vls,w1b,y56 cs]
theorem yds[Dr]{f:FuncId}{sp:Fsp V}{W:World}{vs:Array Value}{x:Tup V.T sp.args}{r:RTup V.T sp.res}(hf:z19 V P f sp)(hr:sp.F x=some r)(hres:∀B:Asg,(resV V (encR V 0 sp.res r)).den V P B=bv true)(hno:newR V sp.res r = [])
  (hl:vs.toList.length=sp.args.length) (hA:∀(i:Nat)(A:VP),(vls V sp.args x)[i]? = some A->A.h (λb=>b<W.heap.size) W (vs.toList.getD i undef)):Calls P f vs W (λe W'=>e = .returned (.bool true)/\Below W.heap.size W W'):=by
 refine y2j (As:=vls V sp.args x) ((hf x r hr).mono ?_) (by rw[y56];simpa using hl) (λi A hi=>?_)
 .rintro y news ⟨B,hB,rfl,rfl⟩;rw[hno] at hB⊢;refine⟨hres B,?_⟩;cases B<;>rfl
 .have:=hA i A hi
  simpa[w07,w1k] using this
end
theorem z6g.same{R:Type}{x:Option R}{n:Nat}{y:Option (List (Option R))}(h:y=some (List.replicate n x)):z6g x y:=⟨λr hr=>⟨_,h,λa ha=>by rw[(List.mem_replicate.1 ha).2,hr]⟩⟩
theorem z6g.ck{R:Type}{p:Prop}[Decidable p]{x:Option R}{y:Option (List (Option R))}(h:z6g x y):z6g (Px.ck p x) (Px.ck p y):=
 ⟨λr hr=>by
  unfold Px.ck at *;split at hr
  .rename_i hp;simp only[if_pos hp];exact h.ok r hr
  .cases hr⟩
theorem z6g.bind{R α:Type}{m:Option α}{f:α->Option R}{g:α->Option (List (Option R))}(h:∀a,z6g (f a) (g a)):z6g (m.bind f) (m.bind g):=
 ⟨λr hr=>by
  cases m with
  |none=>cases hr
  |some a=>exact(h a).ok r hr⟩
theorem z6g.one{R:Type}{x:Option R}: z6g x (some [x]):=⟨λr hr=>⟨_,rfl,λa ha=>by rw[w0d.1 ha,hr]⟩⟩
theorem z6g.nil{R:Type}{x:Option R}: z6g x (catL []):=⟨λr hr=>⟨[],rfl,λa ha=>by cases ha⟩⟩
theorem z6g.cons{R:Type}{x:Option R}{y:Option (List (Option R))}{l:List (Option (List (Option R)))}(h:z6g x y)(hl:z6g x (catL l)):z6g x (catL (y::l)):=
 ⟨λr hr=>by
  obtain⟨a,ha,h1⟩:=h.ok r hr;obtain⟨b,hb,h2⟩:=hl.ok r hr;refine⟨a++b,by simp only[catL,ha,hb,cat2],λz hz=>?_⟩;rcases w0k.1 hz with hz|hz
  .exact h1 z hz
  .exact h2 z hz⟩
end Px
end
section
set_option maxHeartbeats 4000000
set_option maxRecDepth 100000
namespace Px
open Go Go.RowKit
def z03:ByteArray:=⟨#[0,1,2,2,3,3,3,3,4,4,4,4,4,4,4,4,5,5,5,5,5,5,5,5,5,5,5,5,5,5,5,5,6,6,6,6,6,6,6,6,6,6,6,6,6,6,6,6,6,6,6,6,6,6,6,6,6,6,6,6,6,6,6,6,7,7,7,7,7,7,7,7,7,7,7,7,7,7,7,7,7,7,7,7,7,7,7,7,7,7,7,7,7,7,7,7,7,7,7,7,7,7,7,7,7,7,7,7,7,7,7,7,7,7,7,7,7,7,7,7,7,7,7,7,7,7,7,7,8,8,8,8,8,8,8,8,8,8,8,8,8,8,8,8,8,8,8,8,8,8,8,8,8,8,8,8,8,8,8,8,8,8,8,8,8,8,8,8,8,8,8,8,8,8,8,8,8,8,8,8,8,8,8,8,8,8,8,8,8,8,8,8,8,8,8,8,8,8,8,8,8,8,8,8,8,8,8,8,8,8,8,8,8,8,8,8,8,8,8,8,8,8,8,8,8,8,8,8,8,8,8,8,8,8,8,8,8,8,8,8,8,8,8,8,8,8,8,8,8,8,8,8,8,8,8,8]⟩
def z5e:ByteArray:=⟨#[115,101,99,114,101,116]⟩
def zfo:ByteArray:=⟨#[114,97,105,108,119,97,121]⟩
structure z4t where
 kind:Int
 railway:Int
 other:Int
instance:Inhabited z4t:=⟨⟨0,0,0⟩⟩
structure Edge where
 a:Int
 b:Int
 railway:Int
 minutes:Int
 km:Int
instance:Inhabited Edge:=⟨⟨0,0,0,0,0⟩⟩
structure z00 where
 places :(List z4t)
 edges :(List Edge)
instance:Inhabited z00:=⟨⟨[],[]⟩⟩
structure z0e where
 load:Int
 tare:Int
 length:Int
 gauge:Int
 brake:Int
 classes:Int
 life:Int
 floor:Int
instance:Inhabited z0e:=⟨⟨0,0,0,0,0,0,0,0⟩⟩
structure zbg where
 type_:Int
 owner:Int
 home:Int
 built:Int
 worth:Int
instance:Inhabited zbg:=⟨⟨0,0,0,0,0⟩⟩
structure Swap where
 wanted:Int
 given:Int
 cost:Int
instance:Inhabited Swap:=⟨⟨0,0,0⟩⟩
structure Wash where
 from_:Int
 to:Int
 minutes:Int
instance:Inhabited Wash:=⟨⟨0,0,0⟩⟩
structure z3m where
 types :(List z0e)
 wagons :(List zbg)
 swaps :(List Swap)
 washes :(List Wash)
instance:Inhabited z3m:=⟨⟨[],[],[],[]⟩⟩
structure z7j where
 place:Int
 low:Int
 high:Int
instance:Inhabited z7j:=⟨⟨0,0,0⟩⟩
structure z4b where
 place:Int
instance:Inhabited z4b:=⟨⟨0⟩⟩
structure Span where
 from_:Int
 to:Int
instance:Inhabited Span:=⟨⟨0,0⟩⟩
structure z5q where
 open_ :(Nat->Span)
 holidays :(List Int)
instance:Inhabited z5q:=⟨⟨λ_=>default,[]⟩⟩
structure z0k where
 key:Int
 calendar:z5q
instance:Inhabited z0k:=⟨⟨0,default⟩⟩
structure Pool where
 network:z00
 fleet:z3m
 readers :(List z7j)
 shippers :(List z4b)
 railways :(List z0k)
instance:Inhabited Pool:=⟨⟨default,default,[],[],[]⟩⟩
structure zc where
 type_:Int
 class_:Int
 place:Int
 at_:Int
 count:Int
instance:Inhabited zc:=⟨⟨0,0,0,0,0⟩⟩
structure zl where
 type_:Int
 class_:Int
 place:Int
 from_:Int
 to:Int
 count:Int
 weight:Int
instance:Inhabited zl:=⟨⟨0,0,0,0,0,0,0⟩⟩
structure zr where
 near :(List (List Int))
 line :(List ((Nat->Int)×Int))
instance:Inhabited zr:=⟨⟨[],[]⟩⟩
structure Arc where
 from_:Int
 to:Int
 cap:Int
 cost:Int
instance:Inhabited Arc:=⟨⟨0,0,0,0⟩⟩
structure zh where
 supply :(List Int)
 arcs :(List Arc)
instance:Inhabited zh:=⟨⟨[],[]⟩⟩
structure Flow where
 x :(List Int)
 price :(List Int)
instance:Inhabited Flow:=⟨⟨[],[]⟩⟩
structure zfu where
 n:zh
 x :(List Int)
 left :(List Int)
 price :(List Int)
 begin :(List (List Int))
 end_ :(List (List Int))
instance:Inhabited zfu:=⟨⟨default,[],[],[],[],[]⟩⟩
structure ze where
 arc:Int
 to:Int
 cost:Int
 room:Int
instance:Inhabited ze:=⟨⟨0,0,0,0⟩⟩
structure zi where
 supply:Int
 order:Int
 count:Int
instance:Inhabited zi:=⟨⟨0,0,0⟩⟩
structure Plan where
 transfers :(List zi)
 cost:Int
 price :(List Int)
instance:Inhabited Plan:=⟨⟨[],0,[]⟩⟩
structure Ref where
 railway:Int
 no:Int
instance:Inhabited Ref:=⟨⟨0,0⟩⟩
structure Part where
 kind:Int
 serial:Int
 fitted:Bool
instance:Inhabited Part:=⟨⟨0,0,false⟩⟩
structure Item where
 kind:Int
 ref:Ref
 wagon:Int
 place:Int
 other:Int
 number:Int
 from_:Int
 to:Int
 code:Int
 dest:Int
 class_:Int
 weight:Int
 amount:Int
 text:ByteArray
 parts :(List Part)
instance:Inhabited Item:=⟨⟨0,default,0,0,0,0,0,0,0,0,0,0,0,⟨#[]⟩,[]⟩⟩
structure zrw where
 ref:Ref
 by_:Ref
 time:Int
 item:Item
instance:Inhabited zrw:=⟨⟨default,default,0,default⟩⟩
def TT:Nat->Type
 |0=>Int
 |1=>z4t
 |2=>(List z4t)
 |3=>Edge
 |4=>(List Edge)
 |5=>z00
 |6=>Int
 |7=>z0e
 |8=>(List z0e)
 |9=>zbg
 |10=>(List zbg)
 |11=>Swap
 |12=>(List Swap)
 |13=>Wash
 |14=>(List Wash)
 |15=>z3m
 |16=>z7j
 |17=>(List z7j)
 |18=>z4b
 |19=>(List z4b)
 |20=>Span
 |21=>(Nat->Span)
 |22=>(List Int)
 |23=>z5q
 |24=>z0k
 |25=>(List z0k)
 |26=>Pool
 |27=>Bool
 |28=>(Nat->Bool)
 |29=>zc
 |30=>zl
 |31=>(List (List Int))
 |32=>(Nat->Int)
 |33=>(List ((Nat->Int)×Int))
 |34=>zr
 |35=>(Nat->Int)
 |36=>(List zc)
 |37=>(List zl)
 |38=>Arc
 |39=>(List Arc)
 |40=>zh
 |41=>Flow
 |42=>zfu
 |43=>ze
 |44=>(List ze)
 |45=>zi
 |46=>(List zi)
 |47=>Plan
 |48=>Ref
 |49=>ByteArray
 |50=>Part
 |51=>(List Part)
 |52=>Item
 |53=>zrw
 |54=>(List zrw)
 |55=>(List (Nat->Int))
 |56=>Int
 |57=>(List Int)
 |58=>Int
 |59=>(Nat->Int)
 |60=>(Nat->Int)
 |61=>(Nat->Int)
 |_=>Unit
def TD :(c:Nat)->Ds TT (TT c)
 |0=>.int .i64
 |1=>.st [0,0,0] (λt=>⟨t.1,t.2.1,t.2.2.1⟩) (λx=>(x.kind,x.railway,x.other,())) (λ_=>rfl)
 |2=>.sl 1
 |3=>.st [0,0,0,0,0] (λt=>⟨t.1,t.2.1,t.2.2.1,t.2.2.2.1,t.2.2.2.2.1⟩) (λx=>(x.a,x.b,x.railway,x.minutes,x.km,())) (λ_=>rfl)
 |4=>.sl 3
 |5=>.st [2,4] (λt=>⟨t.1,t.2.1⟩) (λx=>(x.places,x.edges,())) (λ_=>rfl)
 |6=>.int .u64
 |7=>.st [0,0,0,0,0,6,0,0] (λt=>⟨t.1,t.2.1,t.2.2.1,t.2.2.2.1,t.2.2.2.2.1,t.2.2.2.2.2.1,t.2.2.2.2.2.2.1,t.2.2.2.2.2.2.2.1⟩) (λx=>(x.load,x.tare,x.length,x.gauge,x.brake,x.classes,x.life,x.floor,())) (λ_=>rfl)
 |8=>.sl 7
 |9=>.st [0,0,0,0,0] (λt=>⟨t.1,t.2.1,t.2.2.1,t.2.2.2.1,t.2.2.2.2.1⟩) (λx=>(x.type_,x.owner,x.home,x.built,x.worth,())) (λ_=>rfl)
 |10=>.sl 9
 |11=>.st [0,0,0] (λt=>⟨t.1,t.2.1,t.2.2.1⟩) (λx=>(x.wanted,x.given,x.cost,())) (λ_=>rfl)
 |12=>.sl 11
 |13=>.st [0,0,0] (λt=>⟨t.1,t.2.1,t.2.2.1⟩) (λx=>(x.from_,x.to,x.minutes,())) (λ_=>rfl)
 |14=>.sl 13
 |15=>.st [8,10,12,14] (λt=>⟨t.1,t.2.1,t.2.2.1,t.2.2.2.1⟩) (λx=>(x.types,x.wagons,x.swaps,x.washes,())) (λ_=>rfl)
 |16=>.st [0,0,0] (λt=>⟨t.1,t.2.1,t.2.2.1⟩) (λx=>(x.place,x.low,x.high,())) (λ_=>rfl)
 |17=>.sl 16
 |18=>.st [0] (λt=>⟨t.1⟩) (λx=>(x.place,())) (λ_=>rfl)
 |19=>.sl 18
 |20=>.st [0,0] (λt=>⟨t.1,t.2.1⟩) (λx=>(x.from_,x.to,())) (λ_=>rfl)
 |21=>.arr 7 20
 |22=>.sl 0
 |23=>.st [21,22] (λt=>⟨t.1,t.2.1⟩) (λx=>(x.open_,x.holidays,())) (λ_=>rfl)
 |24=>.st [6,23] (λt=>⟨t.1,t.2.1⟩) (λx=>(x.key,x.calendar,())) (λ_=>rfl)
 |25=>.sl 24
 |26=>.st [5,15,17,19,25] (λt=>⟨t.1,t.2.1,t.2.2.1,t.2.2.2.1,t.2.2.2.2.1⟩) (λx=>(x.network,x.fleet,x.readers,x.shippers,x.railways,())) (λ_=>rfl)
 |27=>.bool
 |28=>.arr 4096 27
 |29=>.st [0,0,0,0,0] (λt=>⟨t.1,t.2.1,t.2.2.1,t.2.2.2.1,t.2.2.2.2.1⟩) (λx=>(x.type_,x.class_,x.place,x.at_,x.count,())) (λ_=>rfl)
 |30=>.st [0,0,0,0,0,0,0] (λt=>⟨t.1,t.2.1,t.2.2.1,t.2.2.2.1,t.2.2.2.2.1,t.2.2.2.2.2.1,t.2.2.2.2.2.2.1⟩) (λx=>(x.type_,x.class_,x.place,x.from_,x.to,x.count,x.weight,())) (λ_=>rfl)
 |31=>.sl 22
 |32=>.arr 2 0
 |33=>.map 32 0
 |34=>.st [31,33] (λt=>⟨t.1,t.2.1⟩) (λx=>(x.near,x.line,())) (λ_=>rfl)
 |35=>.arr 32 0
 |36=>.sl 29
 |37=>.sl 30
 |38=>.st [0,0,0,0] (λt=>⟨t.1,t.2.1,t.2.2.1,t.2.2.2.1⟩) (λx=>(x.from_,x.to,x.cap,x.cost,())) (λ_=>rfl)
 |39=>.sl 38
 |40=>.st [22,39] (λt=>⟨t.1,t.2.1⟩) (λx=>(x.supply,x.arcs,())) (λ_=>rfl)
 |41=>.st [22,22] (λt=>⟨t.1,t.2.1⟩) (λx=>(x.x,x.price,())) (λ_=>rfl)
 |42=>.st [40,22,22,22,31,31] (λt=>⟨t.1,t.2.1,t.2.2.1,t.2.2.2.1,t.2.2.2.2.1,t.2.2.2.2.2.1⟩) (λx=>(x.n,x.x,x.left,x.price,x.begin,x.end_,())) (λ_=>rfl)
 |43=>.st [0,0,0,0] (λt=>⟨t.1,t.2.1,t.2.2.1,t.2.2.2.1⟩) (λx=>(x.arc,x.to,x.cost,x.room,())) (λ_=>rfl)
 |44=>.sl 43
 |45=>.st [0,0,0] (λt=>⟨t.1,t.2.1,t.2.2.1⟩) (λx=>(x.supply,x.order,x.count,())) (λ_=>rfl)
 |46=>.sl 45
 |47=>.st [46,0,22] (λt=>⟨t.1,t.2.1,t.2.2.1⟩) (λx=>(x.transfers,x.cost,x.price,())) (λ_=>rfl)
 |48=>.st [0,0] (λt=>⟨t.1,t.2.1⟩) (λx=>(x.railway,x.no,())) (λ_=>rfl)
 |49=>.str
 |50=>.st [0,0,27] (λt=>⟨t.1,t.2.1,t.2.2.1⟩) (λx=>(x.kind,x.serial,x.fitted,())) (λ_=>rfl)
 |51=>.sl 50
 |52=>.st [0,48,0,0,0,0,0,0,0,0,0,0,0,49,51] (λt=>⟨t.1,t.2.1,t.2.2.1,t.2.2.2.1,t.2.2.2.2.1,t.2.2.2.2.2.1,t.2.2.2.2.2.2.1,t.2.2.2.2.2.2.2.1,t.2.2.2.2.2.2.2.2.1,t.2.2.2.2.2.2.2.2.2.1,t.2.2.2.2.2.2.2.2.2.2.1,t.2.2.2.2.2.2.2.2.2.2.2.1,t.2.2.2.2.2.2.2.2.2.2.2.2.1,t.2.2.2.2.2.2.2.2.2.2.2.2.2.1,t.2.2.2.2.2.2.2.2.2.2.2.2.2.2.1⟩) (λx=>(x.kind,x.ref,x.wagon,x.place,x.other,x.number,x.from_,x.to,x.code,x.dest,x.class_,x.weight,x.amount,x.text,x.parts,())) (λ_=>rfl)
 |53=>.st [48,48,0,52] (λt=>⟨t.1,t.2.1,t.2.2.1,t.2.2.2.1⟩) (λx=>(x.ref,x.by_,x.time,x.item,())) (λ_=>rfl)
 |54=>.sl 53
 |55=>.sl 32
 |56=>.int .u8
 |57=>.sl 56
 |58=>.int .u32
 |59=>.arr 64 58
 |60=>.arr 8 58
 |61=>.arr 32 56
 |_+62=>.st [] (λ_=>()) (λ_=>()) (λ_=>rfl)
def TZ :(c:Nat)->TT c
 |0=>(default:Int)
 |1=>(default:z4t)
 |2=>(default :(List z4t))
 |3=>(default:Edge)
 |4=>(default :(List Edge))
 |5=>(default:z00)
 |6=>(default:Int)
 |7=>(default:z0e)
 |8=>(default :(List z0e))
 |9=>(default:zbg)
 |10=>(default :(List zbg))
 |11=>(default:Swap)
 |12=>(default :(List Swap))
 |13=>(default:Wash)
 |14=>(default :(List Wash))
 |15=>(default:z3m)
 |16=>(default:z7j)
 |17=>(default :(List z7j))
 |18=>(default:z4b)
 |19=>(default :(List z4b))
 |20=>(default:Span)
 |21=>(default :(Nat->Span))
 |22=>(default :(List Int))
 |23=>(default:z5q)
 |24=>(default:z0k)
 |25=>(default :(List z0k))
 |26=>(default:Pool)
 |27=>(default:Bool)
 |28=>(default :(Nat->Bool))
 |29=>(default:zc)
 |30=>(default:zl)
 |31=>(default :(List (List Int)))
 |32=>(default :(Nat->Int))
 |33=>(default :(List ((Nat->Int)×Int)))
 |34=>(default:zr)
 |35=>(default :(Nat->Int))
 |36=>(default :(List zc))
 |37=>(default :(List zl))
 |38=>(default:Arc)
 |39=>(default :(List Arc))
 |40=>(default:zh)
 |41=>(default:Flow)
 |42=>(default:zfu)
 |43=>(default:ze)
 |44=>(default :(List ze))
 |45=>(default:zi)
 |46=>(default :(List zi))
 |47=>(default:Plan)
 |48=>(default:Ref)
 |49=>(default:ByteArray)
 |50=>(default:Part)
 |51=>(default :(List Part))
 |52=>(default:Item)
 |53=>(default:zrw)
 |54=>(default :(List zrw))
 |55=>(default :(List (Nat->Int)))
 |56=>(default:Int)
 |57=>(default :(List Int))
 |58=>(default:Int)
 |59=>(default :(Nat->Int))
 |60=>(default :(Nat->Int))
 |61=>(default :(Nat->Int))
 |_+62=>()
def TC(t:Nat):Nat:=(lk [(2,0),(3,0),(4,27),(5,56),(6,56),(9,49),(10,49),(11,49),(12,6),(22,2),(23,4),(25,5),(26,8),(27,10),(28,12),(29,14),(31,15),(32,17),(33,19),(34,25),(36,26),(37,36),(38,37),(41,46),(42,22),(44,47),(45,0),(49,29),(51,30),(53,57),(60,45),(62,39),(64,40),(68,41),(77,38),(85,48),(86,51),(88,52),(90,53),(91,54),(97,6),(102,16),(104,18),(106,20),(107,21),(109,23),(112,24),(124,31),(126,42),(129,33),(131,34),(137,1),(139,3),(141,7),(143,11),(145,13),(150,55),(152,32),(154,9),(156,61),(157,61),(184,28),(185,44),(189,43),(192,35),(195,6),(199,58),(200,60),(208,0),(216,59),(224,6),(243,56),(244,56),(252,50)] t).getD 62
def TV:TE:=⟨TT,TD,TZ,TC,λc=>match c with|0=>rfl|1=>rfl|2=>rfl|3=>rfl|4=>rfl|5=>rfl|6=>rfl|7=>rfl|8=>rfl|9=>rfl|10=>rfl|11=>rfl|12=>rfl|13=>rfl|14=>rfl|15=>rfl|16=>rfl|17=>rfl|18=>rfl|19=>rfl|20=>rfl|21=>rfl|22=>rfl|23=>rfl|24=>rfl|25=>rfl|26=>rfl|27=>rfl|28=>rfl|29=>rfl|30=>rfl|31=>rfl|32=>rfl|33=>rfl|34=>rfl|35=>rfl|36=>rfl|37=>rfl|38=>rfl|39=>rfl|40=>rfl|41=>rfl|42=>rfl|43=>rfl|44=>rfl|45=>rfl|46=>rfl|47=>rfl|48=>rfl|49=>rfl|50=>rfl|51=>rfl|52=>rfl|53=>rfl|54=>rfl|55=>rfl|56=>rfl|57=>rfl|58=>rfl|59=>rfl|60=>rfl|61=>rfl|_+62=>rfl⟩
def z4c :(Nat->Int)->List Int:=TV.kl 32
def zri(l:List Int):Option (List Int):=zl1 l
def Good{R:Type}(r:R)(y:Option (List (Option R))):Prop:=∃L,y=some L/\∀a∈L,a=some r
theorem Good.one{R:Type}{r:R}{x:Option R}(h:x=some r):Good r (some [x]):=⟨_,rfl,λa ha=>by rw[w0d] at ha;rw[ha,h]⟩
theorem Good.nil{R:Type}{r:R}: Good r (catL ([]:List (Option (List (Option R))))):=⟨[],rfl,λa ha=>by cases ha⟩
theorem Good.cons{R:Type}{r:R}{y:Option (List (Option R))}{ys:List (Option (List (Option R)))}(h:Good r y)(k:Good r (catL ys)):Good r (catL (y::ys)):=by
 obtain⟨L,rfl,h1⟩:=h;obtain⟨M,e,h2⟩:=k;refine⟨L++M,by simp only[catL,e,cat2],λa ha=>?_⟩;rcases w0k.1 ha with h|h
 .exact h1 a h
 .exact h2 a h
theorem Good.ck{R:Type}{r:R}{p:Prop}[Decidable p]{y:Option (List (Option R))}(h:p)(k:Good r y):Good r (ck p y):=by unfold Px.ck;rw[if_pos h];exact k
theorem ckS{R:Type}{r:R}{p:Prop}[Decidable p]{x:Option R}(h:ck p x=some r):p/\x=some r:=by
 unfold ck at h;split at h
 .rename_i hp;exact⟨hp,h⟩
 .cases h
def z9o(φ:Nat)(a:z4t):Option (Bool×Unit):=(if((((decide ((a.kind:Int)<1))||(decide ((5:Int)<a.kind)))||(decide ((a.railway:Int)<0)))||(decide ((16:Int)<=a.railway)))=true then(some (false,())) else(if((a.kind:Int) !=3)=true then(some (((a.other:Int)==(-1)),())) else(some ((((decide ((0:Int)<=a.other))&&(decide ((a.other:Int)<16)))&&((a.other:Int) !=a.railway)),()))))
def zaj(φ:Nat):Fsp TV:=⟨[1],[.val 27],λz=>z9o φ z.1⟩
def z1t(φ:Nat):Nat->Int->(List Edge)->Int->Int->Option (Int×Unit)
 |0,_,_,_,_=>none
 |g+1,e,d,f,c=>(if(decide (c<f))=true then(ck (rg c d.length) (if(((((((decide (((min2 ((min2 (min2 ((gt d c).a) ((gt d c).b)) ((gt d c).railway))) ((gt d c).km)):Int)<0))||(decide (e<=(max2 ((gt d c).a) ((gt d c).b)))))||(((gt d c).a:Int)==(gt d c).b))||(decide ((16:Int)<=(gt d c).railway)))||(decide (((gt d c).minutes:Int)<1)))||(decide ((100000:Int)<(gt d c).minutes)))||(decide ((10000:Int)<(gt d c).km)))=true then(some (1,())) else((z1t φ g) e d f (W (c+1))))) else(some (0,())))
def z3a(φ:Nat):Nat->Int->(List z4t)->Int->Int->z00->Option (Int×Unit)
 |0,_,_,_,_,_=>none
 |f+1,d,b,e,a,c=>(if(decide (a<e))=true then(ck (rg a b.length) ((z9o φ (gt b a)).bind λg=>(if(!g.1)=true then(some (1,())) else((z3a φ f) d b e (W (a+1)) c)))) else(z1t φ φ d c.edges (c.edges.length:Int) 0))
def z6x(φ:Nat)(a:z00):Option (Int×Unit):=(if((decide ((512:Int)<(a.places.length:Int)))||(decide ((2048:Int)<(a.edges.length:Int))))=true then(some (2,())) else(z3a φ φ (a.places.length:Int) a.places (a.places.length:Int) 0 a))
def z6z(φ:Nat):Fsp TV:=⟨[5],[.val 0],λz=>z6x φ z.1⟩
def zq(φ:Nat)(a b c:Int):Option (Bool×Unit):=(some (((decide (b<=a))&&(decide (a<=c))),()))
def z3t(φ:Nat):Fsp TV:=⟨[0,0,0],[.val 27],kk3 (zq φ)⟩
def z25(φ:Nat)(c :((List z0e)->Int->Int->z3m->Int->Option (Int×Unit))):Nat->(List z0e)->Int->Int->Int->Int->z3m->Int->z0e->(List Int)->Option (Int×Unit)
 |0,_,_,_,_,_,_,_,_,_=>none
 |k+1,d,e,f,i,a,g,l,b,h=>(if(decide (a<i))=true then(ck (rg a h.length) ((zq φ (gt h a) 0 1000000).bind λn=>(if(!n.1)=true then((z25 φ c k) d e f i (W (a+1)) g 1 b h) else((z25 φ c k) d e f i (W (a+1)) g l b h)))) else((zq φ b.gauge 0 7).bind λj=>((z0u (default,()) (j.1=true) (zq φ b.life 1 1073741824)).bind λm=>((z0u (default,()) ((j.1&&m.1)=true) (zq φ b.floor 0 100)).bind λo=>(if(!((j.1&&m.1)&&o.1))=true then(c d e (W (f+1)) g 1) else(c d e (W (f+1)) g l))))))
def z02(φ:Nat):Nat->(List Wash)->Int->Int->Int->(Nat->Bool)->Option (Int×Unit)
 |0,_,_,_,_,_=>none
 |e+1,b,d,a,h,c=>(if(decide (a<d))=true then(ck (rg a b.length) ((zq φ ((gt b a).from_) 0 63).bind λf=>((z0u (default,()) (f.1=true) (zq φ ((gt b a).to) 0 63)).bind λg=>((z0u (default,()) (((f.1&&g.1)&&(((gt b a).from_:Int) !=(gt b a).to))=true) (zq φ ((gt b a).minutes) 0 100000)).bind λi=>(if(!(((f.1&&g.1)&&(((gt b a).from_:Int) !=(gt b a).to))&&i.1))=true then(if(((f.1&&g.1)&&(((gt b a).from_:Int) !=(gt b a).to))&&i.1)=true then(ck (rg (gt b a).from_ 64) (ck (rg (gt b a).to 64) (if(!(!(c (((((gt b a).from_:Int).toNat*64)+((gt b a).to:Int).toNat)))))=true then(ck (rg (gt b a).from_ 64) (ck (rg (gt b a).to 64) ((z02 φ e) b d (W (a+1)) 1 ((upd c (((((gt b a).from_:Int).toNat*64)+((gt b a).to:Int).toNat)) true))))) else(ck (rg (gt b a).from_ 64) (ck (rg (gt b a).to 64) ((z02 φ e) b d (W (a+1)) 1 ((upd c (((((gt b a).from_:Int).toNat*64)+((gt b a).to:Int).toNat)) true)))))))) else((z02 φ e) b d (W (a+1)) 1 c)) else(if(((f.1&&g.1)&&(((gt b a).from_:Int) !=(gt b a).to))&&i.1)=true then(ck (rg (gt b a).from_ 64) (ck (rg (gt b a).to 64) (if(!(!(c (((((gt b a).from_:Int).toNat*64)+((gt b a).to:Int).toNat)))))=true then(ck (rg (gt b a).from_ 64) (ck (rg (gt b a).to 64) ((z02 φ e) b d (W (a+1)) 1 ((upd c (((((gt b a).from_:Int).toNat*64)+((gt b a).to:Int).toNat)) true))))) else(ck (rg (gt b a).from_ 64) (ck (rg (gt b a).to 64) ((z02 φ e) b d (W (a+1)) h ((upd c (((((gt b a).from_:Int).toNat*64)+((gt b a).to:Int).toNat)) true)))))))) else((z02 φ e) b d (W (a+1)) h c))))))) else(some (h,())))
def z0x(φ:Nat):Nat->(List Swap)->Int->Int->z3m->Int->Option (Int×Unit)
 |0,_,_,_,_,_=>none
 |f+1,b,d,a,c,g=>(if(decide (a<d))=true then(ck (rg a b.length) ((zq φ ((gt b a).wanted) 0 (W ((c.types.length:Int)-1))).bind λe=>((z0u (default,()) (e.1=true) (zq φ ((gt b a).given) 0 (W ((c.types.length:Int)-1)))).bind λh=>((z0u (default,()) (((e.1&&h.1)&&(((gt b a).wanted:Int) !=(gt b a).given))=true) (zq φ ((gt b a).cost) 0 1000000000)).bind λi=>(if(!(((e.1&&h.1)&&(((gt b a).wanted:Int) !=(gt b a).given))&&i.1))=true then((z0x φ f) b d (W (a+1)) c 1) else((z0x φ f) b d (W (a+1)) c g)))))) else(z02 φ φ c.washes (c.washes.length:Int) 0 g (λ_=>(default:Bool))))
def z0f(φ:Nat):Nat->(List zbg)->Int->Int->z3m->Int->Option (Int×Unit)
 |0,_,_,_,_,_=>none
 |e+1,b,d,a,c,g=>(if(decide (a<d))=true then(ck (rg a b.length) ((zq φ ((gt b a).type_) 0 (W ((c.types.length:Int)-1))).bind λf=>((z0u (default,()) (f.1=true) (zq φ ((gt b a).owner) 0 63)).bind λh=>((z0u (default,()) ((f.1&&h.1)=true) (zq φ ((gt b a).home) 0 511)).bind λk=>(if(!((f.1&&h.1)&&k.1))=true then((zq φ ((gt b a).built) 0 1073741824).bind λi=>((z0u (default,()) (i.1=true) (zq φ ((gt b a).worth) 0 1099511627776)).bind λl=>(if(!(i.1&&l.1))=true then((z0f φ e) b d (W (a+1)) c 1) else((z0f φ e) b d (W (a+1)) c 1)))) else((zq φ ((gt b a).built) 0 1073741824).bind λj=>((z0u (default,()) (j.1=true) (zq φ ((gt b a).worth) 0 1099511627776)).bind λm=>(if(!(j.1&&m.1))=true then((z0f φ e) b d (W (a+1)) c 1) else((z0f φ e) b d (W (a+1)) c g))))))))) else(z0x φ φ c.swaps (c.swaps.length:Int) 0 c g))
def z3k(φ:Nat):Nat->(List z0e)->Int->Int->z3m->Int->Option (Int×Unit)
 |0,_,_,_,_,_=>none
 |f+1,b,d,a,c,e=>(if(decide (a<d))=true then(ck (rg a b.length) (z25 φ (z3k φ f) φ b d a (([(gt b a).load,(gt b a).tare,(gt b a).length,(gt b a).brake]).length:Int) 0 c e (gt b a) ([(gt b a).load,(gt b a).tare,(gt b a).length,(gt b a).brake]))) else(z0f φ φ c.wagons (c.wagons.length:Int) 0 c e))
def z7r(φ:Nat)(a:z3m):Option (Int×Unit):=(if((((decide ((32:Int)<(a.types.length:Int)))||(decide ((4096:Int)<(a.wagons.length:Int))))||(decide ((1024:Int)<(a.swaps.length:Int))))||(decide ((4096:Int)<(a.washes.length:Int))))=true then(some (2,())) else(z3k φ φ a.types (a.types.length:Int) 0 a 0))
def z6o(φ:Nat):Fsp TV:=⟨[15],[.val 0],λz=>z7r φ z.1⟩
def z2e(φ:Nat):Nat->Int->(List Int)->Int->Int->Option (Int×Unit)
 |0,_,_,_,_=>none
 |d+1,e,b,c,a=>(if(decide (a<c))=true then(ck (rg a b.length) (if((decide (((gt b a):Int)<=e))||(decide ((745654:Int)<(gt b a))))=true then(some (1,())) else((z2e φ d) (gt b a) b c (W (a+1))))) else(some (0,())))
def z2s(φ:Nat):Nat->(Nat->Span)->Int->z5q->Option (Int×Unit)
 |0,_,_,_=>none
 |d+1,b,a,c=>(if(decide (a<7))=true then(ck (rg a 7) (if(((decide (((b a.toNat).from_:Int)<0))||(decide (((b a.toNat).to:Int)<(b a.toNat).from_)))||(decide ((1440:Int)<(b a.toNat).to)))=true then(some (1,())) else((z2s φ d) b (W (a+1)) c))) else(z2e φ φ (-1) c.holidays (c.holidays.length:Int) 0))
def z8a(φ:Nat)(a:z5q):Option (Int×Unit):=(z2s φ φ a.open_ 0 a)
def z92(φ:Nat):Fsp TV:=⟨[23],[.val 0],λz=>z8a φ z.1⟩
def z7l(φ:Nat)(a b:Int):Option (Int×Int×Unit):=(if 0<=(32:Int) then(if 0<=(32:Int) then(if 0<=(32:Int) then(if 0<=(32:Int) then(if 0<=(32:Int) then(some ((U ((U ((U ((a.fdiv (2 ^ (min (32:Int).toNat 64)))*(b.fdiv (2 ^ (min (32:Int).toNat 64)))))+(((U ((U ((a.fdiv (2 ^ (min (32:Int).toNat 64)))*(U ((BitVec.ofInt 64 b&&& BitVec.ofInt 64 4294967295).toNat))))+(((U ((U ((BitVec.ofInt 64 a&&& BitVec.ofInt 64 4294967295).toNat))*(U ((BitVec.ofInt 64 b&&& BitVec.ofInt 64 4294967295).toNat)))):Int).fdiv (2 ^ (min (32:Int).toNat 64))))):Int).fdiv (2 ^ (min (32:Int).toNat 64)))))+(((U ((U ((BitVec.ofInt 64 (U ((U ((a.fdiv (2 ^ (min (32:Int).toNat 64)))*(U ((BitVec.ofInt 64 b&&& BitVec.ofInt 64 4294967295).toNat))))+(((U ((U ((BitVec.ofInt 64 a&&& BitVec.ofInt 64 4294967295).toNat))*(U ((BitVec.ofInt 64 b&&& BitVec.ofInt 64 4294967295).toNat)))):Int).fdiv (2 ^ (min (32:Int).toNat 64)))))&&& BitVec.ofInt 64 4294967295).toNat))+(U ((U ((BitVec.ofInt 64 a&&& BitVec.ofInt 64 4294967295).toNat))*(b.fdiv (2 ^ (min (32:Int).toNat 64))))))):Int).fdiv (2 ^ (min (32:Int).toNat 64))))),(U (a*b)),())) else none) else none) else none) else none) else none)
def zdy(φ:Nat):Fsp TV:=⟨[6,6],[.val 6,.val 6],kk2 (z7l φ)⟩
def z1b(φ:Nat)(a b:Int):Option (Int×Unit):=(ck (rg (IntKind.wrap .u8 (a)) z03.size) (some ((W (64-(W (b+(W ((z9y z03 (IntKind.wrap .u8 (a))))))))),())))
def z1o(φ:Nat)(a b:Int):Option (Int×Unit):=(if(decide ((256:Int)<=a))=true then(if 0<=(8:Int) then(z1b φ ((a.fdiv (2 ^ (min (8:Int).toNat 64)))) (W (b+8))) else none) else(z1b φ a b))
def z1n(φ:Nat)(a b:Int):Option (Int×Unit):=(if(decide ((65536:Int)<=a))=true then(if 0<=(16:Int) then(z1o φ ((a.fdiv (2 ^ (min (16:Int).toNat 64)))) (W (b+16))) else none) else(z1o φ a b))
def z30(φ:Nat)(a:Int):Option (Int×Unit):=(if(decide ((4294967296:Int)<=a))=true then(if 0<=(32:Int) then(z1n φ ((a.fdiv (2 ^ (min (32:Int).toNat 64)))) 32) else none) else(z1n φ a 0))
def z4i(φ:Nat):Fsp TV:=⟨[6],[.val 0],λz=>z30 φ z.1⟩
def z5k(φ:Nat)(c a d e f b:Int):Option (Int×Int×Unit):=(ck (0<=a) (some ((U ((U (e*4294967296))+b)),(((U ((U ((U (f*4294967296))+d))-(U (b*c)))):Int).fdiv (2 ^ (min a.toNat 64))),())))
def z5h(φ:Nat):Nat->Int->Int->Int->Int->Int->Int->Int->Int->Int->Option (Int×Int×Unit)
 |0,_,_,_,_,_,_,_,_,_=>none
 |j+1,c,d,e,i,b,f,g,h,a=>(if((decide ((4294967296:Int)<=a))||(decide (((U ((U (4294967296*g))+b)):Int)<(U (a*i)))))=true then(if(decide ((4294967296:Int)<=(U (g+e))))=true then(z5k φ c d b f h (U (a-1))) else((z5h φ j) c d e i b f (U (g+e)) h (U (a-1)))) else(z5k φ c d b f h a))
def z5j(φ:Nat)(a f b g d e h c:Int):Option (Int×Int×Unit):=(ck (b≠0) (z5h φ φ a f b g h c ((U ((U ((U ((U (d*4294967296))+e))-(U (c*a))))-(U ((U (((U ((U ((U (d*4294967296))+e))-(U (c*a)))):Int).tdiv b))*b))))) ((U ((U ((U (d*4294967296))+e))-(U (c*a))))) ((U (((U ((U ((U (d*4294967296))+e))-(U (c*a)))):Int).tdiv b)))))
def z5i(φ:Nat):Nat->Int->Int->Int->Int->Int->Int->Int->Int->Int->Option (Int×Int×Unit)
 |0,_,_,_,_,_,_,_,_,_=>none
 |j+1,e,f,a,c,g,d,h,b,i=>(if((decide ((4294967296:Int)<=b))||(decide (((U ((U (4294967296*i))+d)):Int)<(U (b*c)))))=true then(if(decide ((4294967296:Int)<=(U (i+a))))=true then(z5j φ e f a c g d h (U (b-1))) else((z5i φ j) e f a c g d h (U (b-1)) (U (i+a)))) else(z5j φ e f a c g d h b))
def z6a(φ:Nat)(d c b:Int):Option (Int×Int×Unit):=(if(b==0)=true then none else(if(decide (b<=d))=true then none else(if(d==0)=true then(ck (b≠0) (ck (b≠0) (some ((U (c.tdiv b)),(c.tmod b),())))) else((z30 φ b).bind λa=>(ck (0<=(U (a.1))) (if 0<=(32:Int) then(ck (0<=(U (a.1))) (ck (0<=(U (64-(U (a.1))))) (ck (0<=(U (a.1))) (if 0<=(32:Int) then(ck ((((U (b*2 ^ (min ((U (a.1)):Int).toNat 64))):Int).fdiv (2 ^ (min (32:Int).toNat 64)))≠0) (z5i φ φ ((U (b*2 ^ (min ((U (a.1)):Int).toNat 64)))) (U (a.1)) ((((U (b*2 ^ (min ((U (a.1)):Int).toNat 64))):Int).fdiv (2 ^ (min (32:Int).toNat 64)))) ((U ((BitVec.ofInt 64 (U (b*2 ^ (min ((U (a.1)):Int).toNat 64)))&&& BitVec.ofInt 64 4294967295).toNat))) ((U ((BitVec.ofInt 64 (U (d*2 ^ (min ((U (a.1)):Int).toNat 64)))||| BitVec.ofInt 64 (c.fdiv (2 ^ (min ((U (64-(U (a.1)))):Int).toNat 64)))).toNat))) ((((U (c*2 ^ (min ((U (a.1)):Int).toNat 64))):Int).fdiv (2 ^ (min (32:Int).toNat 64)))) ((U ((BitVec.ofInt 64 (U (c*2 ^ (min ((U (a.1)):Int).toNat 64)))&&& BitVec.ofInt 64 4294967295).toNat))) ((U (((U ((BitVec.ofInt 64 (U (d*2 ^ (min ((U (a.1)):Int).toNat 64)))||| BitVec.ofInt 64 (c.fdiv (2 ^ (min ((U (64-(U (a.1)))):Int).toNat 64)))).toNat)):Int).tdiv (((U (b*2 ^ (min ((U (a.1)):Int).toNat 64))):Int).fdiv (2 ^ (min (32:Int).toNat 64)))))) ((U ((U ((BitVec.ofInt 64 (U (d*2 ^ (min ((U (a.1)):Int).toNat 64)))||| BitVec.ofInt 64 (c.fdiv (2 ^ (min ((U (64-(U (a.1)))):Int).toNat 64)))).toNat))-(U ((U (((U ((BitVec.ofInt 64 (U (d*2 ^ (min ((U (a.1)):Int).toNat 64)))||| BitVec.ofInt 64 (c.fdiv (2 ^ (min ((U (64-(U (a.1)))):Int).toNat 64)))).toNat)):Int).tdiv (((U (b*2 ^ (min ((U (a.1)):Int).toNat 64))):Int).fdiv (2 ^ (min (32:Int).toNat 64)))))*(((U (b*2 ^ (min ((U (a.1)):Int).toNat 64))):Int).fdiv (2 ^ (min (32:Int).toNat 64)))))))))) else none)))) else none))))))
def zdt(φ:Nat):Fsp TV:=⟨[6,6,6],[.val 6,.val 6],kk3 (z6a φ)⟩
def z8y(φ:Nat)(d :(Int->Int->Int->Int->Int->Int->Option (Int×Unit)))(b e c f g h i j l a:Int):Option (Int×Unit):=(ck (rg (IntKind.wrap .u8 (b)) z03.size) (ck (0<=(W ((W ((W (e+(W ((z9y z03 (IntKind.wrap .u8 (b)))))))-1))-h))) (if(((U ((BitVec.ofInt 64 (l.fdiv (2 ^ (min ((W ((W ((W (e+(W ((z9y z03 (IntKind.wrap .u8 (b)))))))-1))-h)):Int).toNat 64)))&&& BitVec.ofInt 64 1).toNat)):Int)==1)=true then(ck (a≠0) (ck (a≠0) ((z7l φ (g.tmod a) (c.tmod a)).bind λk=>((z6a φ k.1 k.2.1 a).bind λm=>(d c f m.2.1 i (W (j+1)) a))))) else(d c f g i (W (j+1)) a))))
def z8x(φ:Nat)(b :(Int->Int->Int->Int->Int->Int->Option (Int×Unit)))(a c d e f g h i j k:Int):Option (Int×Unit):=(if(decide ((256:Int)<=a))=true then(if 0<=(8:Int) then(z8y φ b ((a.fdiv (2 ^ (min (8:Int).toNat 64)))) (W (c+8)) d e f g h i j k) else none) else(z8y φ b a c d e f g h i j k))
def z3h(φ:Nat)(b :(Int->Int->Int->Int->Int->Int->Option (Int×Unit)))(a c d e f g h i j k:Int):Option (Int×Unit):=(if(decide ((65536:Int)<=a))=true then(if 0<=(16:Int) then(z8x φ b ((a.fdiv (2 ^ (min (16:Int).toNat 64)))) (W (c+16)) d e f g h i j k) else none) else(z8x φ b a c d e f g h i j k))
def z0r(φ:Nat):Nat->Int->Int->Int->Int->Int->Int->Option (Int×Unit)
 |0,_,_,_,_,_,_=>none
 |f+1,g,a,d,e,c,b=>(if(decide (c<e))=true then(ck (b≠0) (ck (b≠0) ((z7l φ (d.tmod b) (d.tmod b)).bind λh=>((z6a φ h.1 h.2.1 b).bind λi=>(if(decide ((4294967296:Int)<=a))=true then(if 0<=(32:Int) then(z3h φ (z0r φ f) ((a.fdiv (2 ^ (min (32:Int).toNat 64)))) 32 g a i.2.1 c e c a b) else none) else(z3h φ (z0r φ f) a 0 g a i.2.1 c e c a b)))))) else(some (d,())))
def z8w(φ:Nat)(a b c d e f:Int):Option (Int×Unit):=(ck (rg (IntKind.wrap .u8 (a)) z03.size) (z0r φ φ c d e ((W (b+(W ((z9y z03 (IntKind.wrap .u8 (a)))))))) 0 f))
def z8v(φ:Nat)(a b c d e f:Int):Option (Int×Unit):=(if(decide ((256:Int)<=a))=true then(if 0<=(8:Int) then(z8w φ ((a.fdiv (2 ^ (min (8:Int).toNat 64)))) (W (b+8)) c d e f) else none) else(z8w φ a b c d e f))
def zaq(φ:Nat)(a b c d e f:Int):Option (Int×Unit):=(if(decide ((65536:Int)<=a))=true then(if 0<=(16:Int) then(z8v φ ((a.fdiv (2 ^ (min (16:Int).toNat 64)))) (W (b+16)) c d e f) else none) else(z8v φ a b c d e f))
def zhc(φ:Nat)(b a:Int):Option (Int×Unit):=(if(decide ((4294967296:Int)<=a))=true then(if 0<=(32:Int) then(zaq φ ((a.fdiv (2 ^ (min (32:Int).toNat 64)))) 32 b a 1 2305843009213690799) else none) else(zaq φ a 0 b a 1 2305843009213690799))
def zin(φ:Nat):Fsp TV:=⟨[6,6],[.val 6],kk2 (zhc φ)⟩
def zfb(φ:Nat)(a:Int):Option (Bool×Unit):=((z0u (default,()) (((decide ((2:Int)<=a))&&(decide (a<2305843009213690799)))=true) (zhc φ a 1152921504606845399)).bind λb=>(some ((((decide ((2:Int)<=a))&&(decide (a<2305843009213690799)))&&(b.1==1)),())))
def zet(φ:Nat):Fsp TV:=⟨[6],[.val 27],λz=>zfb φ z.1⟩
def z14(φ:Nat):Nat->Bool->(List z0k)->Int->Int->Option (Int×Unit)
 |0,_,_,_,_=>none
 |f+1,b,c,d,a=>(if(decide (a<d))=true then(ck (rg a c.length) ((z0u (default,()) (b=false) (z8a φ ((gt c a).calendar))).bind λe=>((z0u (default,()) ((b||(e.1 !=0))=false) (zfb φ ((gt c a).key))).bind λg=>((z14 φ f) (((b||(e.1 !=0))||(!g.1))) c d (W (a+1)))))) else(if b=true then(some (1,())) else(some (0,()))))
def z13(φ:Nat):Nat->Int->Bool->(List Edge)->Int->Int->Pool->Option (Int×Unit)
 |0,_,_,_,_,_,_=>none
 |g+1,d,e,b,f,a,c=>(if(decide (a<f))=true then(ck (rg a b.length) ((z13 φ g) d ((e||(decide (d<=(gt b a).railway)))) b f (W (a+1)) c)) else(z14 φ φ e c.railways (c.railways.length:Int) 0))
def z12(φ:Nat):Nat->Int->Bool->(List z4t)->Int->Int->Pool->Option (Int×Unit)
 |0,_,_,_,_,_,_=>none
 |g+1,b,e,c,f,a,d=>(if(decide (a<f))=true then(ck (rg a c.length) ((z12 φ g) b (((e||(decide (b<=(gt c a).railway)))||(decide (b<=(gt c a).other)))) c f (W (a+1)) d)) else(z13 φ φ b e d.network.edges (d.network.edges.length:Int) 0 d))
def z11(φ:Nat):Nat->(List z4t)->Int->Bool->(List zbg)->Int->Int->Pool->Option (Int×Unit)
 |0,_,_,_,_,_,_,_=>none
 |h+1,a,d,e,c,f,b,g=>(if(decide (b<f))=true then(ck (rg b c.length) ((z11 φ h) a d ((e||(decide (((a.length:Int):Int)<=(gt c b).home)))) c f (W (b+1)) g)) else(z12 φ φ d e a (a.length:Int) 0 g))
def z10(φ:Nat):Nat->(List z4t)->Int->Bool->(List z4b)->Int->Int->Pool->Option (Int×Unit)
 |0,_,_,_,_,_,_,_=>none
 |i+1,b,f,d,c,g,a,e=>(if(decide (a<g))=true then(ck (rg a c.length) ((z0u (default,()) (d=false) (zq φ ((gt c a).place) 0 (W ((b.length:Int)-1)))).bind λh=>(ck (((d||(!h.1))=false)->rg (gt c a).place b.length) ((z10 φ i) b f (((d||(!h.1))||(((gt b ((gt c a).place)).kind:Int) !=4))) c g (W (a+1)) e)))) else(z11 φ φ b f d e.fleet.wagons (e.fleet.wagons.length:Int) 0 e))
def z1r(φ:Nat):Nat->(List z4t)->Int->Bool->(List z7j)->Int->Int->Pool->Option (Int×Unit)
 |0,_,_,_,_,_,_,_=>none
 |h+1,d,f,e,b,g,a,c=>(if(decide (a<g))=true then(ck (rg a b.length) ((z0u (default,()) (e=false) (zq φ ((gt b a).place) 0 (W ((d.length:Int)-1)))).bind λi=>((z1r φ h) d f (((((e||(!i.1))||(decide (((gt b a).low:Int)<(-1000))))||(decide (((gt b a).high:Int)<(gt b a).low)))||(decide ((1000:Int)<(gt b a).high)))) b g (W (a+1)) c))) else(z10 φ φ d f e c.shippers (c.shippers.length:Int) 0 c))
def z4m(φ:Nat)(a:Pool):Option (Int×Unit):=((z6x φ a.network).bind λb=>(if(b.1 !=0)=true then(some (b.1,())) else((z7r φ a.fleet).bind λc=>(if(c.1 !=0)=true then(some (c.1,())) else(if(((decide ((256:Int)<(a.readers.length:Int)))||(decide ((256:Int)<(a.shippers.length:Int))))||(decide ((16:Int)<(a.railways.length:Int))))=true then(some (2,())) else(z1r φ φ a.network.places (a.railways.length:Int) (((a.railways.length:Int):Int)==0) a.readers (a.readers.length:Int) 0 a))))))
def z4z(φ:Nat):Fsp TV:=⟨[26],[.val 0],λz=>z4m φ z.1⟩
def z0a(φ:Nat)(a b c:Int):Option (Bool×Unit):=(some (((decide (b<=a))&&(decide (a<=c))),()))
def z4v(φ:Nat):Fsp TV:=⟨[0,0,0],[.val 27],kk3 (z0a φ)⟩
def z5m(φ:Nat)(e:Pool)(a:zc):Option (Bool×Unit):=((z0a φ a.type_ 0 (W ((e.fleet.types.length:Int)-1))).bind λb=>((z0u (default,()) (b.1=true) (z0a φ a.class_ (-1) 63)).bind λc=>((z0u (default,()) ((b.1&&c.1)=true) (z0a φ a.place 0 (W ((e.network.places.length:Int)-1)))).bind λd=>((z0u (default,()) (((b.1&&c.1)&&d.1)=true) (z0a φ a.at_ 0 1073741824)).bind λf=>((z0u (default,()) ((((b.1&&c.1)&&d.1)&&f.1)=true) (z0a φ a.count 1 4096)).bind λg=>(some (((((b.1&&c.1)&&d.1)&&f.1)&&g.1),())))))))
def z5x(φ:Nat):Fsp TV:=⟨[26,29],[.val 27],kk2 (z5m φ)⟩
def z6j(φ:Nat)(f:Pool)(a:zl):Option (Bool×Unit):=((z0a φ a.type_ 0 (W ((f.fleet.types.length:Int)-1))).bind λb=>((z0u (default,()) (b.1=true) (z0a φ a.class_ 0 63)).bind λc=>((z0u (default,()) ((b.1&&c.1)=true) (z0a φ a.place 0 (W ((f.network.places.length:Int)-1)))).bind λd=>((z0u (default,()) (((b.1&&c.1)&&d.1)=true) (z0a φ a.from_ 0 a.to)).bind λe=>((z0u (default,()) (((((b.1&&c.1)&&d.1)&&e.1)&&(decide ((a.to:Int)<=1073741824)))=true) (z0a φ a.count 1 1000)).bind λg=>((z0u (default,()) ((((((b.1&&c.1)&&d.1)&&e.1)&&(decide ((a.to:Int)<=1073741824)))&&g.1)=true) (z0a φ a.weight 0 1000000000)).bind λh=>(some (((((((b.1&&c.1)&&d.1)&&e.1)&&(decide ((a.to:Int)<=1073741824)))&&g.1)&&h.1),()))))))))
def z6l(φ:Nat):Fsp TV:=⟨[26,30],[.val 27],kk2 (z6j φ)⟩
def z3w(φ:Nat)(d :((List Edge)->Int->Int->z00->(List (List Int))->(List ((Nat->Int)×Int))->Option (zr×Int×Unit)))(b e:Int)(c:Bool)(f :(List Edge))(g h:Int)(a:z00)(k :(Nat->Int))(i :(List (List Int)))(j :(List ((Nat->Int)×Int))):Option (zr×Int×Unit):=(ck (((!c)=false)->rg b a.edges.length) (ck (((!c)=false)->rg e a.edges.length) (if((!c)||(decide (((gt a.edges b).minutes:Int)<(gt a.edges e).minutes)))=true then(d f g (W (h+1)) a i (cset z4c j k b)) else(d f g (W (h+1)) a i j))))
def z3x(φ:Nat)(d :((List Edge)->Int->Int->z00->(List (List Int))->(List ((Nat->Int)×Int))->Option (zr×Int×Unit)))(b e:Int)(c:Bool)(f :(List Edge))(g h:Int)(a:z00)(k :(Nat->Int))(i :(List (List Int)))(j :(List ((Nat->Int)×Int))):Option (zr×Int×Unit):=(ck (((!c)=false)->rg b a.edges.length) (ck (((!c)=false)->rg e a.edges.length) (if((!c)||(decide (((gt a.edges b).minutes:Int)<(gt a.edges e).minutes)))=true then(d f g (W (h+1)) a i (cset z4c j k b)) else(d f g (W (h+1)) a i j))))
def z3v(φ:Nat)(i :((List Edge)->Int->Int->z00->(List (List Int))->(List ((Nat->Int)×Int))->Option (zr×Int×Unit)))(f o:Int)(n:Bool)(j:Int)(k :(List Edge))(l m:Int)(g:z00)(h :(Nat->Int))(c:Edge)(d :(List (List Int)))(e :(List ((Nat->Int)×Int))):Option (zr×Int×Unit):=(ck (((!n)=false)->rg f g.edges.length) (ck (((!n)=false)->rg o g.edges.length) (if((!n)||(decide (((gt g.edges f).minutes:Int)<(gt g.edges o).minutes)))=true then(if(!(cget z4c (cset z4c e h f) ((upd (upd (λ_=>(default:Int)) 0 c.b) 1 c.a))).isSome)=true then(ck (rg c.b d.length) (ck (rg c.b d.length) (ck ((c.b:Int)=c.b) (ck (fits ((gt d c.b).length+([c.a]).length) 8) (ck (rg c.b d.length) (ck ((c.b:Int)=c.b) (z3w φ i j (((cget z4c (cset z4c e h f) ((upd (upd (λ_=>(default:Int)) 0 c.b) 1 c.a))).getD (default:Int))) ((cget z4c (cset z4c e h f) ((upd (upd (λ_=>(default:Int)) 0 c.b) 1 c.a))).isSome) k l m g ((upd (upd (λ_=>(default:Int)) 0 c.b) 1 c.a)) (zu d c.b ((gt d c.b)++[c.a])) (cset z4c e h f)))))))) else(z3w φ i j (((cget z4c (cset z4c e h f) ((upd (upd (λ_=>(default:Int)) 0 c.b) 1 c.a))).getD (default:Int))) ((cget z4c (cset z4c e h f) ((upd (upd (λ_=>(default:Int)) 0 c.b) 1 c.a))).isSome) k l m g ((upd (upd (λ_=>(default:Int)) 0 c.b) 1 c.a)) d (cset z4c e h f))) else(if(!(cget z4c e ((upd (upd (λ_=>(default:Int)) 0 c.b) 1 c.a))).isSome)=true then(ck (rg c.b d.length) (ck (rg c.b d.length) (ck ((c.b:Int)=c.b) (ck (fits ((gt d c.b).length+([c.a]).length) 8) (ck (rg c.b d.length) (ck ((c.b:Int)=c.b) (z3x φ i j (((cget z4c e ((upd (upd (λ_=>(default:Int)) 0 c.b) 1 c.a))).getD (default:Int))) ((cget z4c e ((upd (upd (λ_=>(default:Int)) 0 c.b) 1 c.a))).isSome) k l m g ((upd (upd (λ_=>(default:Int)) 0 c.b) 1 c.a)) (zu d c.b ((gt d c.b)++[c.a])) e))))))) else(z3x φ i j (((cget z4c e ((upd (upd (λ_=>(default:Int)) 0 c.b) 1 c.a))).getD (default:Int))) ((cget z4c e ((upd (upd (λ_=>(default:Int)) 0 c.b) 1 c.a))).isSome) k l m g ((upd (upd (λ_=>(default:Int)) 0 c.b) 1 c.a)) d e)))))
def z1u(φ:Nat):Nat->Int->Int->(List (List Int))->(List ((Nat->Int)×Int))->Option (zr×Int×Unit)
 |0,_,_,_,_=>none
 |e+1,c,a,b,d=>(if(decide (a<c))=true then(ck (rg a b.length) (ck (rg a b.length) (ck (a=a) ((zri (gt b a)).bind λf=>((z1u φ e) c (W (a+1)) (zu b a f) d))))) else(some ((⟨b,d⟩:zr),0,())))
def z06(φ:Nat):Nat->(List Edge)->Int->Int->z00->(List (List Int))->(List ((Nat->Int)×Int))->Option (zr×Int×Unit)
 |0,_,_,_,_,_,_=>none
 |h+1,d,g,c,i,e,f=>(if(decide (c<g))=true then(ck (rg c d.length) (if(!(cget z4c f ((upd (upd (λ_=>(default:Int)) 0 ((gt d c).a)) 1 ((gt d c).b)))).isSome)=true then(ck (rg (gt d c).a e.length) (ck (rg (gt d c).a e.length) (ck (((gt d c).a:Int) =(gt d c).a) (ck (fits ((gt e ((gt d c).a)).length+([(gt d c).b]).length) 8) (ck (rg (gt d c).a e.length) (ck (((gt d c).a:Int) =(gt d c).a) (z3v φ (z06 φ h) c (((cget z4c f ((upd (upd (λ_=>(default:Int)) 0 ((gt d c).a)) 1 ((gt d c).b)))).getD (default:Int))) ((cget z4c f ((upd (upd (λ_=>(default:Int)) 0 ((gt d c).a)) 1 ((gt d c).b)))).isSome) c d g c i ((upd (upd (λ_=>(default:Int)) 0 ((gt d c).a)) 1 ((gt d c).b))) (gt d c) ((zu e ((gt d c).a) (((gt e ((gt d c).a))++[(gt d c).b])))) f))))))) else(z3v φ (z06 φ h) c (((cget z4c f ((upd (upd (λ_=>(default:Int)) 0 ((gt d c).a)) 1 ((gt d c).b)))).getD (default:Int))) ((cget z4c f ((upd (upd (λ_=>(default:Int)) 0 ((gt d c).a)) 1 ((gt d c).b)))).isSome) c d g c i ((upd (upd (λ_=>(default:Int)) 0 ((gt d c).a)) 1 ((gt d c).b))) (gt d c) e f))) else(z1u φ φ (e.length:Int) 0 e f))
def z3b(φ:Nat):Nat->(List Int)->Int->Int->z00->(List (List Int))->Option (zr×Int×Unit)
 |0,_,_,_,_,_=>none
 |f+1,c,d,b,a,e=>(if(decide (b<d))=true then(ck (rg b c.length) (if((decide (((gt c b):Int)<0))||(decide (((a.places.length:Int):Int)<=(gt c b))))=true then(some ((⟨e,([] :(List ((Nat->Int)×Int)))⟩:zr),1,())) else((z3b φ f) c d (W (b+1)) a e))) else(ck (zb (a.places.length:Int) 24) (z06 φ φ a.edges (a.edges.length:Int) 0 a (List.replicate ((a.places.length:Int):Int).toNat (default :(List Int))) (([] :(List ((Nat->Int)×Int)))))))
def z70(φ:Nat)(a:z00)(b :(List Int)):Option (zr×Int×Unit):=((z6x φ a).bind λc=>(if(c.1 !=0)=true then(some ((⟨([]:List (List Int)),([] :(List ((Nat->Int)×Int)))⟩:zr),c.1,())) else(z3b φ φ b (b.length:Int) 0 a ([]:List (List Int)))))
def zah(φ:Nat):Fsp TV:=⟨[5,22],[.val 34,.val 0],kk2 (z70 φ)⟩
def z1w(φ:Nat)(g :(z00->zr->(List Int)->(List Bool)->Option ((List Int)×Unit))):Nat->Int->(List Int)->Int->Int->z00->zr->(List Int)->(List Bool)->Option ((List Int)×Unit)
 |0,_,_,_,_,_,_,_,_=>none
 |j+1,d,b,h,a,e,f,c,i=>(if(decide (a<h))=true then(ck (rg a b.length) (ck (rg d c.length) (ck (rg (((cget z4c f.line ((upd (upd (λ_=>(default:Int)) 0 d) 1 (gt b a)))).getD (default:Int))) e.edges.length) (ck (rg (gt b a) c.length) (ck (((decide (((gt c (gt b a)):Int)<0))=false)->rg (gt b a) c.length) (if((decide (((gt c (gt b a)):Int)<0))||(decide (((W ((gt c d)+((gt e.edges (((cget z4c f.line ((upd (upd (λ_=>(default:Int)) 0 d) 1 (gt b a)))).getD (default:Int))))).minutes)):Int)<(gt c (gt b a)))))=true then(ck (rg (gt b a) c.length) ((z1w φ g j) d b h (W (a+1)) e f ((zu c (gt b a) ((W ((gt c d)+((gt e.edges (((cget z4c f.line ((upd (upd (λ_=>(default:Int)) 0 d) 1 (gt b a)))).getD (default:Int))))).minutes))))) i)) else((z1w φ g j) d b h (W (a+1)) e f c i))))))) else(g e f c i))
def z1v(φ:Nat)(f :(z00->zr->(List Int)->(List Bool)->Option ((List Int)×Unit))):Nat->Int->Int->Int->z00->zr->(List Int)->(List Bool)->Option ((List Int)×Unit)
 |0,_,_,_,_,_,_,_=>none
 |i+1,b,g,a,h,e,c,d=>(if(decide (a<g))=true then(ck (rg a c.length) (ck (((decide ((0:Int)<=(gt c a)))=true)->rg a d.length) (ck ((((decide ((0:Int)<=(gt c a)))&&(!(gt d a)))=true/\(decide (b<0))=false)->rg a c.length) (ck ((((decide ((0:Int)<=(gt c a)))&&(!(gt d a)))=true/\(decide (b<0))=false)->rg b c.length) (if(((decide ((0:Int)<=(gt c a)))&&(!(gt d a)))&&((decide (b<0))||(decide (((gt c a):Int)<(gt c b)))))=true then((z1v φ f i) a g (W (a+1)) h e c d) else((z1v φ f i) b g (W (a+1)) h e c d)))))) else(if(decide (b<0))=true then(some (c,())) else(ck (rg b d.length) (ck (rg b e.near.length) (z1w φ f φ b (gt e.near b) ((gt e.near b).length:Int) 0 h e c (zu d b true))))))
def z07(φ:Nat):Nat->z00->zr->(List Int)->(List Bool)->Option ((List Int)×Unit)
 |0,_,_,_,_=>none
 |b+1,c,d,a,e=>(z1v φ (z07 φ b) φ (-1) (a.length:Int) 0 c d a e)
def z2w(φ:Nat):Nat->Int->Int->Int->z00->zr->(List Int)->(List Bool)->Option ((List Int)×Unit)
 |0,_,_,_,_,_,_,_=>none
 |h+1,c,d,a,e,f,b,g=>(if(decide (a<d))=true then(ck (rg a b.length) ((z2w φ h) c d (W (a+1)) e f (zu b a (-1)) g)) else(ck (rg c b.length) (z07 φ φ e f (zu b c 0) g)))
def z9p(φ:Nat)(a:z00)(b:zr)(c:Int):Option ((List Int)×Unit):=(ck (zb (a.places.length:Int) 8) (ck (zb (((List.replicate ((a.places.length:Int):Int).toNat (default:Int)).length:Int)) 1) (z2w φ φ c (((List.replicate ((a.places.length:Int):Int).toNat (default:Int)).length:Int)) 0 a b (List.replicate ((a.places.length:Int):Int).toNat (default:Int)) ((List.replicate (((List.replicate ((a.places.length:Int):Int).toNat (default:Int)).length:Int):Int).toNat (default:Bool))))))
def zal(φ:Nat):Fsp TV:=⟨[5,34,0],[.val 22],kk3 (z9p φ)⟩
def z35(φ:Nat)(d:z00)(e a:Int):Option (Int×Int×Unit):=((z70 φ d ([e,a])).bind λb=>(if(b.2.1 !=0)=true then(some (0,b.2.1,())) else((z9p φ d b.1 e).bind λc=>(ck (rg a c.1.length) (if(decide (((gt c.1 a):Int)<0))=true then(some (0,80,())) else(some ((gt c.1 a),0,())))))))
def z7x(φ:Nat):Fsp TV:=⟨[5,0,0],[.val 0,.val 0],kk3 (z35 φ)⟩
def zgm(φ:Nat)(a:Wash)(b c:Int):Option (Bool×Unit):=(some ((((a.from_:Int)==b)&&((a.to:Int)==c)),()))
def za8(φ:Nat):Csp TV:=⟨[13],[.b (.val 0),.b (.val 0)],[.val 27],λz b=>zgm φ z.1 b.1 b.2.1⟩
def z3s(φ:Nat):Nat->(List Wash)->Int->Int->Int->Int->z3m->Option (Int×Int×Unit)
 |0,_,_,_,_,_,_=>none
 |g+1,b,d,a,e,f,c=>(if(decide (a<d))=true then(ck (rg a b.length) ((zgm φ (gt b a) e f).bind λh=>(if h.1=true then(if(decide (a<0))=true then(some (0,0,())) else(ck (rg a c.washes.length) (some ((gt c.washes a).minutes,0,())))) else((z3s φ g) b d (W (a+1)) e f c)))) else(some (0,0,())))
def za6(φ:Nat)(a:z3m)(b c:Int):Option (Int×Int×Unit):=((z7r φ a).bind λd=>(if(d.1 !=0)=true then(some (0,d.1,())) else((zq φ b 0 63).bind λe=>((z0u (default,()) ((!e.1)=false) (zq φ c 0 63)).bind λf=>(if((!e.1)||(!f.1))=true then(some (0,1,())) else(z3s φ φ a.washes (a.washes.length:Int) 0 b c a))))))
def zcs(φ:Nat):Fsp TV:=⟨[15,0,0],[.val 0,.val 0],kk3 (za6 φ)⟩
def z27(φ:Nat)(d :(Int->Bool->z3m->(Nat->Int)->Option ((List Swap)×Int×Unit))):Nat->Int->Bool->(List Swap)->Int->Int->z3m->(Nat->Int)->Option ((List Swap)×Int×Unit)
 |0,_,_,_,_,_,_,_=>none
 |h+1,e,i,b,f,a,g,c=>(if(decide (a<f))=true then(ck (rg a b.length) (ck (rg (gt b a).wanted 32) (ck (rg (gt b a).wanted 32) (ck (((decide ((0:Int)<=(c (((gt b a).wanted:Int).toNat))))=true)->rg (gt b a).given 32) (ck (((decide ((0:Int)<=(c (((gt b a).wanted:Int).toNat))))=true/\(decide (((c (((gt b a).given:Int).toNat)):Int)<0))=false)->rg (gt b a).given 32) (if((decide ((0:Int)<=(c (((gt b a).wanted:Int).toNat))))&&((decide (((c (((gt b a).given:Int).toNat)):Int)<0))||(decide (((W ((c (((gt b a).wanted:Int).toNat))+(gt b a).cost)):Int)<(c (((gt b a).given:Int).toNat))))))=true then(ck (rg (gt b a).given 32) ((z27 φ d h) e true b f (W (a+1)) g ((upd c (((gt b a).given:Int).toNat) ((W ((c (((gt b a).wanted:Int).toNat))+(gt b a).cost))))))) else((z27 φ d h) e i b f (W (a+1)) g c))))))) else(d e i g c))
def z29(φ:Nat):Nat->Int->Int->Int->(Nat->Int)->(List Swap)->Option ((List Swap)×Int×Unit)
 |0,_,_,_,_,_=>none
 |f+1,c,e,a,b,d=>(if(decide (a<e))=true then(ck (rg a 32) (if(decide ((0:Int)<=(b (a.toNat))))=true then(ck (rg a 32) (ck (fits (d.length+([(⟨c,a,b (a.toNat)⟩:Swap)]).length) 24) ((z29 φ f) c e (W (a+1)) b ((d++[(⟨c,a,b (a.toNat)⟩:Swap)]))))) else((z29 φ f) c e (W (a+1)) b d))) else(some (d,0,())))
def z26(φ:Nat):Nat->Int->Bool->z3m->(Nat->Int)->Option ((List Swap)×Int×Unit)
 |0,_,_,_,_=>none
 |d+1,b,e,a,c=>(if e=true then(z27 φ (z26 φ d) φ b false a.swaps (a.swaps.length:Int) 0 a c) else(z29 φ φ b (a.types.length:Int) 0 c ([]:List Swap)))
def z49(φ:Nat):Nat->Int->Int->z3m->(Nat->Int)->Option ((List Swap)×Int×Unit)
 |0,_,_,_,_=>none
 |e+1,a,b,c,d=>(if(decide (b<32))=true then(ck (rg b 32) ((z49 φ e) a (W (b+1)) c (upd d (b.toNat) (-1)))) else(ck (rg a 32) (z26 φ φ a true c (upd d (a.toNat) 0))))
def zct(φ:Nat)(a:z3m)(b:Int):Option ((List Swap)×Int×Unit):=((z7r φ a).bind λc=>(if(c.1 !=0)=true then(some (([]:List Swap),c.1,())) else((zq φ b 0 (W ((a.types.length:Int)-1))).bind λd=>(if(!d.1)=true then(some (([]:List Swap),90,())) else(z49 φ φ b 0 a (λ_=>(default:Int)))))))
def zcv(φ:Nat):Fsp TV:=⟨[15,0],[.val 12,.val 0],kk2 (zct φ)⟩
def ze3(φ:Nat)(a:Swap)(b:zc):Option (Bool×Unit):=(some (((a.given:Int)==b.type_),()))
def z7q(φ:Nat):Csp TV:=⟨[11],[.b (.val 29)],[.val 27],λz b=>ze3 φ z.1 b.1⟩
def z2t(φ:Nat):Nat->(List Swap)->Int->Int->Int->(List Swap)->zc->zl->Option (Int×Bool×Unit)
 |0,_,_,_,_,_,_,_=>none
 |h+1,f,g,a,b,c,d,e=>(if(decide (a<g))=true then(ck (rg a f.length) ((ze3 φ (gt f a) d).bind λi=>(if i.1=true then(ck ((((decide (a<0))||(decide ((e.to:Int)<(W (d.at_+b)))))=false)->rg a c.length) (if(((decide (a<0))||(decide ((e.to:Int)<(W (d.at_+b)))))||(decide ((1000000000:Int)<(W (b+(gt c a).cost)))))=true then(some (0,false,())) else(ck (rg a c.length) (some ((W (b+(gt c a).cost)),true,()))))) else((z2t φ h) f g (W (a+1)) b c d e)))) else(ck (((true||(decide ((e.to:Int)<(W (d.at_+b)))))=false)->rg (-1) c.length) (if((true||(decide ((e.to:Int)<(W (d.at_+b)))))||(decide ((1000000000:Int)<(W (b+(gt c (-1)).cost)))))=true then(some (0,false,())) else(ck (rg (-1) c.length) (some ((W (b+(gt c (-1)).cost)),true,()))))))
def z1j(φ:Nat)(c:Int)(d:Pool)(e:zc)(b:zl):Option (Int×Bool×Unit):=((zct φ d.fleet b.type_).bind λa=>(z2t φ φ a.1 (a.1.length:Int) 0 c a.1 e b))
def z44(φ:Nat)(b:Pool)(a:zc)(c:zl):Option (Int×Bool×Unit):=((z35 φ b.network a.place c.place).bind λd=>(ck (((d.2.1 !=0)=false)->rg a.type_ b.fleet.types.length) (ck (((d.2.1 !=0)=false)->0<=c.class_) (if((d.2.1 !=0)||(((U ((BitVec.ofInt 64 (((gt b.fleet.types a.type_).classes:Int).fdiv (2 ^ (min (c.class_:Int).toNat 64)))&&& BitVec.ofInt 64 1).toNat)):Int)==0))=true then(some (0,false,())) else(if(decide ((0:Int)<=a.class_))=true then((za6 φ b.fleet a.class_ c.class_).bind λe=>(z1j φ (W (d.1+e.1)) b a c)) else(z1j φ d.1 b a c))))))
def z6n(φ:Nat):Fsp TV:=⟨[26,29,30],[.val 0,.val 27],kk3 (z44 φ)⟩
def z8q(φ:Nat)(a:Pool)(b:zc)(c:zl):Option (Int×Bool×Int×Unit):=((z4m φ a).bind λd=>(if(d.1 !=0)=true then(some (0,false,d.1,())) else((z5m φ a b).bind λe=>((z0u (default,()) ((!e.1)=false) (z6j φ a c)).bind λg=>(if((!e.1)||(!g.1))=true then(some (0,false,1,())) else((z44 φ a b c).bind λf=>(some (f.1,f.2.1,0,()))))))))
def zbi(φ:Nat):Fsp TV:=⟨[26,29,30],[.val 0,.val 27,.val 0],kk3 (z8q φ)⟩
def z0w(φ:Nat)(b :(List Int))(a :(List Arc)):Option (zh×Int×Unit):=(if(decide ((2048:Int)<(a.length:Int)))=true then(some ((⟨([]:List Int),([]:List Arc)⟩:zh),2,())) else(some ((⟨b,a⟩:zh),0,())))
def z0v(φ:Nat)(j :(Int->Int->(List zc)->Int->Int->(List zc)->(List zl)->Pool->(List Int)->(List Arc)->Option (zh×Int×Unit))):Nat->Int->Int->Int->(List zc)->Int->Int->(List zl)->Int->Int->(List zc)->(List zl)->Pool->zc->(List Int)->(List Arc)->Option (zh×Int×Unit)
 |0,_,_,_,_,_,_,_,_,_,_,_,_,_,_,_=>none
 |r+1,k,l,e,m,n,o,b,p,a,c,q,g,d,h,f=>(if(decide (a<p))=true then(ck (rg a b.length) ((z44 φ g d (gt b a)).bind λi=>(if i.2.1=true then(ck (fits (f.length+([(⟨e,W ((c.length:Int)+a),min2 d.count ((gt b a).count),i.1⟩:Arc)]).length) 32) (if(!true)=true then(z0w φ h ((f++[(⟨e,W ((c.length:Int)+a),min2 d.count ((gt b a).count),i.1⟩:Arc)]))) else((z0v φ j r) k l e m n o b p (W (a+1)) c q g d h ((f++[(⟨e,W ((c.length:Int)+a),min2 d.count ((gt b a).count),i.1⟩:Arc)]))))) else((z0v φ j r) k l e m n o b p (W (a+1)) c q g d h f)))) else(j k l m n (W (o+1)) c q g h f))
def z1e(φ:Nat):Nat->Int->Int->(List zc)->Int->Int->(List Int)->(List Arc)->Option (zh×Int×Unit)
 |0,_,_,_,_,_,_,_=>none
 |h+1,b,e,c,g,a,f,d=>(if(decide (a<g))=true then(ck (rg a c.length) (ck (fits (d.length+([(⟨a,W (b+1),(gt c a).count,0⟩:Arc)]).length) 32) (if(!true)=true then(z0w φ f (d++[(⟨a,W (b+1),(gt c a).count,0⟩:Arc)])) else((z1e φ h) b e c g (W (a+1)) f (d++[(⟨a,W (b+1),(gt c a).count,0⟩:Arc)]))))) else(ck (fits (d.length+([(⟨b,W (b+1),e,0⟩:Arc)]).length) 32) (z0w φ f (d++[(⟨b,W (b+1),e,0⟩:Arc)]))))
def z0n(φ:Nat):Nat->Int->Int->(List zl)->Int->Int->(List zc)->(List Int)->(List Arc)->Option (zh×Int×Unit)
 |0,_,_,_,_,_,_,_,_=>none
 |i+1,d,g,b,h,a,c,f,e=>(if(decide (a<h))=true then(ck (rg a b.length) (ck (fits (e.length+([(⟨d,W ((c.length:Int)+a),(gt b a).count,(gt b a).weight⟩:Arc)]).length) 32) (if(!true)=true then(z0w φ f ((e++[(⟨d,W ((c.length:Int)+a),(gt b a).count,(gt b a).weight⟩:Arc)]))) else((z0n φ i) d (W (g+(gt b a).count)) b h (W (a+1)) c f ((e++[(⟨d,W ((c.length:Int)+a),(gt b a).count,(gt b a).weight⟩:Arc)])))))) else(z1e φ φ d g c (c.length:Int) 0 f e))
def z1d(φ:Nat):Nat->Int->Int->(List zc)->Int->Int->(List zc)->(List zl)->Pool->(List Int)->(List Arc)->Option (zh×Int×Unit)
 |0,_,_,_,_,_,_,_,_,_,_=>none
 |j+1,d,e,c,f,a,g,b,k,h,i=>(if(decide (a<f))=true then(ck (rg a c.length) (z0v φ (z1d φ j) φ d e a c f a b (b.length:Int) 0 g b k (gt c a) h i)) else(z0n φ φ d e b (b.length:Int) 0 g h i))
def z1c(φ:Nat):Nat->(List zc)->(List zl)->Int->Int->(List zl)->Int->Int->Pool->(List Int)->(List Arc)->Option (zh×Int×Unit)
 |0,_,_,_,_,_,_,_,_,_,_=>none
 |k+1,c,g,e,f,b,i,a,h,d,j=>(if(decide (a<i))=true then(ck (rg a b.length) ((z6j φ h (gt b a)).bind λl=>(if(!l.1)=true then(some ((⟨([]:List Int),([]:List Arc)⟩:zh),1,())) else(ck (fits (d.length+([(W (0-(gt b a).count))]).length) 8) ((z1c φ k) c g e (W (f+(gt b a).count)) b i (W (a+1)) h ((d++[(W (0-(gt b a).count))])) j))))) else(ck (fits (d.length+([f,(W (0-e))]).length) 8) (if(decide ((256:Int)<((d++[f,(W (0-e))]).length:Int)))=true then(some ((⟨([]:List Int),([]:List Arc)⟩:zh),2,())) else(z1d φ φ (W ((c.length:Int)+(g.length:Int))) 0 c (c.length:Int) 0 c g h (d++[f,(W (0-e))]) j))))
def z24(φ:Nat):Nat->(List zc)->(List zl)->Int->Int->(List zc)->Int->Int->Pool->(List Int)->(List Arc)->Option (zh×Int×Unit)
 |0,_,_,_,_,_,_,_,_,_,_=>none
 |k+1,f,c,g,h,b,i,a,d,e,j=>(if(decide (a<i))=true then(ck (rg a b.length) ((z5m φ d (gt b a)).bind λl=>(if(!l.1)=true then(some ((⟨([]:List Int),([]:List Arc)⟩:zh),1,())) else(ck (fits (e.length+([(gt b a).count]).length) 8) ((z24 φ k) f c (W (g+(gt b a).count)) h b i (W (a+1)) d (e++[(gt b a).count]) j))))) else(z1c φ φ f c g h c (c.length:Int) 0 d e j))
def z4l(φ:Nat)(b:Pool)(a :(List zc))(d :(List zl)):Option (zh×Int×Unit):=((z4m φ b).bind λc=>(if(c.1 !=0)=true then(some ((⟨([]:List Int),([]:List Arc)⟩:zh),c.1,())) else(z24 φ φ a d 0 0 a (a.length:Int) 0 b ([]:List Int) ([]:List Arc))))
def z9j(φ:Nat):Fsp TV:=⟨[26,36,37],[.val 40,.val 0],kk3 (z4l φ)⟩
def z3g(φ:Nat)(a b c:Int):Option (Bool×Unit):=(some (((decide (b<=a))&&(decide (a<=c))),()))
def z5n(φ:Nat):Fsp TV:=⟨[0,0,0],[.val 27],kk3 (z3g φ)⟩
def z2k(φ:Nat):Nat->Int->(List Arc)->Int->Int->zh->Option (Int×Unit)
 |0,_,_,_,_,_=>none
 |i+1,f,b,g,a,d=>(if(decide (a<g))=true then(ck (rg a b.length) ((z3g φ ((gt b a).from_) 0 (W ((d.supply.length:Int)-1))).bind λc=>((z0u (default,()) ((!c.1)=false) (z3g φ ((gt b a).to) 0 (W ((d.supply.length:Int)-1)))).bind λe=>((z0u (default,()) ((((!c.1)||(!e.1))||(((gt b a).from_:Int)==(gt b a).to))=false) (z3g φ ((gt b a).cap) 0 1000000000)).bind λh=>((z0u (default,()) (((((!c.1)||(!e.1))||(((gt b a).from_:Int)==(gt b a).to))||(!h.1))=false) (z3g φ ((gt b a).cost) 0 1000000000)).bind λj=>(if(((((!c.1)||(!e.1))||(((gt b a).from_:Int)==(gt b a).to))||(!h.1))||(!j.1))=true then(some (1,())) else((z2k φ i) f b g (W (a+1)) d))))))) else(if(f !=0)=true then(some (360,())) else(some (0,()))))
def z50(φ:Nat):Nat->Int->(List Int)->Int->Int->zh->Option (Int×Unit)
 |0,_,_,_,_,_=>none
 |f+1,d,b,e,a,c=>(if(decide (a<e))=true then(ck (rg a b.length) ((z3g φ (gt b a) (-1000000000) 1000000000).bind λg=>(if(!g.1)=true then(some (1,())) else((z50 φ f) (W (d+(gt b a))) b e (W (a+1)) c)))) else(z2k φ φ d c.arcs (c.arcs.length:Int) 0 c))
def z9u(φ:Nat)(a:zh):Option (Int×Unit):=(if((decide ((256:Int)<(a.supply.length:Int)))||(decide ((2048:Int)<(a.arcs.length:Int))))=true then(some (2,())) else(z50 φ φ 0 a.supply (a.supply.length:Int) 0 a))
def z8r(φ:Nat):Fsp TV:=⟨[40],[.val 0],λz=>z9u φ z.1⟩
def zbm(φ:Nat)(a:Bool)(d :(List Int))(e :(List Arc))(f g b h c :(List Int))(i j :(List (List Int))):Option (Flow×Int×Unit):=(if a=true then(some ((⟨([]:List Int),([]:List Int)⟩:Flow),360,())) else(some ((⟨b,c⟩:Flow),0,())))
def z2m(φ:Nat):Nat->Int->Int->(List Int)->(List Int)->(List Arc)->(List Int)->(List Int)->(List Int)->(List Int)->(List (List Int))->(List (List Int))->Option (Flow×Int×Unit)
 |0,_,_,_,_,_,_,_,_,_,_,_=>none
 |l+1,k,b,a,c,d,e,f,g,h,i,j=>(if(decide (b<k))=true then(ck (rg b a.length) (if(((gt a b):Int) !=0)=true then(zbm φ (!false) c d e f g a h i j) else((z2m φ l) k (W (b+1)) a c d e f g h i j))) else(zbm φ (!true) c d e f g a h i j))
def z22(φ:Nat)(j :((List Int)->(List Arc)->(List Int)->(List Int)->(List Int)->(List (List Int))->(List (List Int))->(List Int)->(List Int)->Option (Flow×Int×Unit)))(k:Bool)(b :(List Int))(c :(List Arc))(d a e :(List Int))(f g :(List (List Int)))(h i :(List Int)):Option (Flow×Int×Unit):=(if k=true then(j b c d a e f g h i) else(z2m φ φ (a.length:Int) 0 a b c h i d e f g))
def z4o(φ:Nat)(c :(Int->Int->(List Int)->(List Arc)->(List Int)->(List ze)->(List Int)->(List Int)->(List Int)->(List (List Int))->(List (List Int))->(List Int)->(List Int)->Option (Flow×Int×Unit)))(d b:Int)(e :(List Int))(f :(List Arc))(a :(List Int))(g :(List ze))(h i j :(List Int))(k l :(List (List Int)))(m n :(List Int)):Option (Flow×Int×Unit):=(ck (rg b a.length) (c d (gt a b) e f a g h i j k l m n))
def z2a(φ:Nat)(g :((List Int)->(List Arc)->(List Int)->(List Int)->(List Int)->(List (List Int))->(List (List Int))->(List Int)->(List Int)->Option (Flow×Int×Unit))):Nat->Int->Int->(List Int)->(List Arc)->(List Int)->(List ze)->(List Int)->(List Int)->(List Int)->(List (List Int))->(List (List Int))->(List Int)->(List Int)->Option (Flow×Int×Unit)
 |0,_,_,_,_,_,_,_,_,_,_,_,_,_=>none
 |o+1,f,a,h,c,e,b,d,i,j,k,l,m,n=>(ck (rg a e.length) (if(decide ((0:Int)<=(gt e a)))=true then(ck (rg a b.length) (ck (rg (gt b a).arc c.length) (ck (((((gt c ((gt b a).arc)).to:Int)==a)=true)->rg (gt b a).arc c.length) (ck (((((gt c ((gt b a).arc)).to:Int)==a)=true)->rg a e.length) (if((((gt c ((gt b a).arc)).to:Int)==a)&&(((gt c ((gt b a).arc)).from_:Int)==(gt e a)))=true then(ck (rg (gt b a).arc d.length) (ck (rg (gt b a).arc d.length) (z4o φ (z2a φ g o) f a h c e b ((zu d ((gt b a).arc) ((W ((gt d ((gt b a).arc))+f))))) i j k l m n))) else(ck (rg (gt b a).arc d.length) (ck (rg (gt b a).arc d.length) (z4o φ (z2a φ g o) f a h c e b ((zu d ((gt b a).arc) ((W ((gt d ((gt b a).arc))-f))))) i j k l m n)))))))) else(z22 φ g true h c d i j k l m n)))
def z0p(φ:Nat)(g :((List Int)->(List Arc)->(List Int)->(List Int)->(List Int)->(List (List Int))->(List (List Int))->(List Int)->(List Int)->Option (Flow×Int×Unit))):Nat->Int->Int->Int->(List Int)->(List Arc)->(List Int)->(List ze)->(List Int)->(List Int)->(List Int)->(List (List Int))->(List (List Int))->(List Int)->(List Int)->Option (Flow×Int×Unit)
 |0,_,_,_,_,_,_,_,_,_,_,_,_,_,_=>none
 |p+1,d,c,a,h,i,e,f,j,b,k,l,m,n,o=>(ck (rg a e.length) (if(decide ((0:Int)<=(gt e a)))=true then(ck (rg a f.length) (ck (rg a e.length) ((z0p φ g p) d (min2 c ((gt f a).room)) (gt e a) h i e f j b k l m n o))) else(ck (rg a b.length) (ck (rg a b.length) (ck (rg a b.length) (ck (rg d (((zu b a ((W ((gt b a)-(min2 c (gt b a))))))).length)) (ck (rg d (((zu b a ((W ((gt b a)-(min2 c (gt b a))))))).length)) (z2a φ g φ (min2 c (gt b a)) d h i e f j ((zu ((zu b a ((W ((gt b a)-(min2 c (gt b a))))))) d ((W ((gt ((zu b a ((W ((gt b a)-(min2 c (gt b a))))))) d)+(min2 c (gt b a))))))) k l m n o))))))))
def z0z(φ:Nat)(f :((List Int)->(List Arc)->(List Int)->(List Int)->(List Int)->(List (List Int))->(List (List Int))->(List Int)->(List Int)->Option (Flow×Int×Unit))):Nat->Int->Int->Int->Int->(List Int)->(List Arc)->(List Int)->(List ze)->(List Int)->(List Int)->(List Int)->(List Int)->(List (List Int))->(List (List Int))->(List Int)->(List Int)->Option (Flow×Int×Unit)
 |0,_,_,_,_,_,_,_,_,_,_,_,_,_,_,_,_=>none
 |r+1,b,g,h,a,i,j,k,l,e,m,d,c,n,o,p,q=>(if(decide (a<h))=true then(ck (rg a e.length) (ck (rg a c.length) (ck (rg a c.length) ((z0z φ f r) b g h (W (a+1)) i j k l e m d ((zu c a ((W ((gt c a)+(min2 (gt e a) g)))))) n o p q)))) else(ck (rg b d.length) (z0p φ f φ b (W (0-(gt d b))) b i j k l m d c n o p q)))
def z0o(φ:Nat)(e :((List Int)->(List Arc)->(List Int)->(List Int)->(List Int)->(List (List Int))->(List (List Int))->(List Int)->(List Int)->Option (Flow×Int×Unit))):Nat->Int->Int->Int->Int->(List Int)->(List Arc)->(List Int)->(List Int)->(List ze)->(List Int)->(List Int)->(List Int)->(List (List Int))->(List (List Int))->(List Int)->(List Int)->Option (Flow×Int×Unit)
 |0,_,_,_,_,_,_,_,_,_,_,_,_,_,_,_,_=>none
 |r+1,c,n,o,a,f,g,b,p,q,h,d,i,j,k,l,m=>(if(decide (a<o))=true then(ck (rg a b.length) (if(decide (((gt b a):Int)<1152921504606846976))=true then(ck (rg a d.length) (ck (((decide (((gt d a):Int)<0))=true/\(decide (c<0))=false)->rg c b.length) (if((decide (((gt d a):Int)<0))&&((decide (c<0))||(decide (((gt b a):Int)<(gt b c)))))=true then((z0o φ e r) a (max2 n (gt b a)) o (W (a+1)) f g b p q h d i j k l m) else((z0o φ e r) c (max2 n (gt b a)) o (W (a+1)) f g b p q h d i j k l m)))) else((z0o φ e r) c n o (W (a+1)) f g b p q h d i j k l m))) else(if(decide (c<0))=true then(z22 φ e false f g h d i j k l m) else(z0z φ e φ c n (b.length:Int) 0 f g p q b h d i j k l m)))
def z0q(φ:Nat)(b :((List Int)->(List Arc)->(List Int)->(List Int)->(List Int)->(List (List Int))->(List (List Int))->(List Int)->(List Int)->Option (Flow×Int×Unit)))(c :(List Int))(d :(List Arc))(a e :(List Int))(f :(List ze))(g h i :(List Int))(j k :(List (List Int)))(l m :(List Int)):Option (Flow×Int×Unit):=(z0o φ b φ (-1) 0 (a.length:Int) 0 c d a e f g h i j k l m)
def z2b(φ:Nat)(a :((List Int)->(List Arc)->(List Int)->(List Int)->(List Int)->(List (List Int))->(List (List Int))->(List Int)->(List Int)->Option (Flow×Int×Unit)))(b :(List Int))(c :(List Arc))(d e :(List Int))(f :(List ze))(g h i :(List Int))(j k :(List (List Int)))(l m :(List Int)):Option (Flow×Int×Unit):=(z0q φ a b c d e f g h i j k l m)
def z98(φ:Nat)(a :((List Int)->(List Arc)->(List Int)->(List Int)->(List Int)->(List (List Int))->(List (List Int))->(List Int)->(List Int)->Option (Flow×Int×Unit)))(b :(List Int))(c :(List Arc))(d e :(List Int))(f :(List ze))(g h i :(List Int))(j k :(List (List Int)))(l m :(List Int)):Option (List (Option (Flow×Int×Unit))):=(catL [(catL [(catL [(some [(z0q φ a b c d e f g h i j k l m)])]),(catL [(catL [(some [(z0q φ a b c d e f g h i j k l m)])]),(catL [(catL [(some [(z0q φ a b c d e f g h i j k l m)])])])])]),(catL [(catL [(some [(z0q φ a b c d e f g h i j k l m)])]),(catL [(catL [(some [(z0q φ a b c d e f g h i j k l m)])])])]),(catL [(catL [(catL [(some [(z0q φ a b c d e f g h i j k l m)])]),(catL [(catL [(some [(z0q φ a b c d e f g h i j k l m)])])])]),(catL [(catL [(some [(z0q φ a b c d e f g h i j k l m)])])])])])
def z0h(φ:Nat)(k :(Int->(List Int)->(List Arc)->(List Bool)->(List Int)->(List Int)->(List Int)->(List (List Int))->(List (List Int))->(List Int)->(List Int)->(List ze)->(List Int)->(List Int)->Option (Flow×Int×Unit))):Nat->Int->Int->Int->Int->(List Int)->(List Int)->(List Arc)->(List Bool)->Int->(List Int)->(List Int)->(List Int)->(List (List Int))->(List (List Int))->Int->(List Int)->(List Int)->(List ze)->(List Int)->(List Int)->Option (Flow×Int×Unit)
 |0,_,_,_,_,_,_,_,_,_,_,_,_,_,_,_,_,_,_,_,_=>none
 |v+1,u,b,l,g,a,m,c,n,h,e,o,d,p,q,r,f,i,j,s,t=>(if(decide (b<u))=true then(ck (rg b a.length) (ck (rg (gt a b) c.length) (ck (rg (gt a b) e.length) (ck (((decide ((0:Int)<(gt e (gt a b))))=true)->rg g d.length) (ck (((decide ((0:Int)<(gt e (gt a b))))=true)->rg (gt c (gt a b)).from_ d.length) (ck (((decide ((0:Int)<(gt e (gt a b))))=true)->rg (gt a b) e.length) (if(decide ((0:Int)<(gt e (gt a b))))=true then(ck (rg h f.length) (ck (rg (gt c (gt a b)).from_ f.length) (if(decide (((W ((gt f h)+(W ((W ((gt d g)-(gt c (gt a b)).cost))-(gt d ((gt c (gt a b)).from_)))))):Int)<(gt f ((gt c (gt a b)).from_))))=true then(ck (rg (gt c (gt a b)).from_ f.length) (ck (rg (gt c (gt a b)).from_ i.length) (ck (rg (gt c (gt a b)).from_ j.length) (if(!true)=true then(k l m c n e o d p (zu q r a) ((zu f ((gt c (gt a b)).from_) ((W ((gt f h)+(W ((W ((gt d g)-(gt c (gt a b)).cost))-(gt d ((gt c (gt a b)).from_))))))))) ((zu i ((gt c (gt a b)).from_) h)) ((zu j ((gt c (gt a b)).from_) (((⟨gt a b,(gt c (gt a b)).from_,W ((W ((gt d g)-(gt c (gt a b)).cost))-(gt d ((gt c (gt a b)).from_))),gt e (gt a b)⟩:ze))))) s t) else((z0h φ k v) u (W (b+1)) l g a m c n h e o d p q r ((zu f ((gt c (gt a b)).from_) ((W ((gt f h)+(W ((W ((gt d g)-(gt c (gt a b)).cost))-(gt d ((gt c (gt a b)).from_))))))))) ((zu i ((gt c (gt a b)).from_) h)) ((zu j ((gt c (gt a b)).from_) (((⟨gt a b,(gt c (gt a b)).from_,W ((W ((gt d g)-(gt c (gt a b)).cost))-(gt d ((gt c (gt a b)).from_))),gt e (gt a b)⟩:ze))))) s t))))) else(if(!true)=true then(k l m c n e o d p (zu q r a) f i j s t) else((z0h φ k v) u (W (b+1)) l g a m c n h e o d p q r f i j s t))))) else((z0h φ k v) u (W (b+1)) l g a m c n h e o d p q r f i j s t)))))))) else(k l m c n e o d p (zu q r a) f i j s t))
def z0g(φ:Nat)(l :(Int->(List Int)->(List Arc)->(List Bool)->(List Int)->(List Int)->(List Int)->(List (List Int))->(List (List Int))->(List Int)->(List Int)->(List ze)->(List Int)->(List Int)->Option (Flow×Int×Unit))):Nat->Int->Int->Int->Int->(List Int)->(List Int)->(List Arc)->(List Bool)->Int->(List Int)->(List Int)->(List Int)->(List (List Int))->Int->(List (List Int))->(List Int)->(List Int)->(List ze)->(List Int)->(List Int)->Option (Flow×Int×Unit)
 |0,_,_,_,_,_,_,_,_,_,_,_,_,_,_,_,_,_,_,_,_=>none
 |v+1,u,b,m,e,a,n,c,o,h,g,p,d,q,r,i,f,j,k,s,t=>(if(decide (b<u))=true then(ck (rg b a.length) (ck (rg (gt a b) c.length) (ck (rg (gt a b) g.length) (ck (((decide ((0:Int)<(W ((gt c (gt a b)).cap-(gt g (gt a b))))))=true)->rg e d.length) (ck (((decide ((0:Int)<(W ((gt c (gt a b)).cap-(gt g (gt a b))))))=true)->rg (gt c (gt a b)).to d.length) (if(decide ((0:Int)<(W ((gt c (gt a b)).cap-(gt g (gt a b))))))=true then(ck (rg h f.length) (ck (rg (gt c (gt a b)).to f.length) (if(decide (((W ((gt f h)+(W ((W ((gt c (gt a b)).cost+(gt d e)))-(gt d ((gt c (gt a b)).to)))))):Int)<(gt f ((gt c (gt a b)).to))))=true then(ck (rg (gt c (gt a b)).to f.length) (ck (rg (gt c (gt a b)).to j.length) (ck (rg (gt c (gt a b)).to k.length) (if(!true)=true then(l m n c o g p d (zu q r a) i ((zu f ((gt c (gt a b)).to) ((W ((gt f h)+(W ((W ((gt c (gt a b)).cost+(gt d e)))-(gt d ((gt c (gt a b)).to))))))))) ((zu j ((gt c (gt a b)).to) h)) ((zu k ((gt c (gt a b)).to) (((⟨gt a b,(gt c (gt a b)).to,W ((W ((gt c (gt a b)).cost+(gt d e)))-(gt d ((gt c (gt a b)).to))),W ((gt c (gt a b)).cap-(gt g (gt a b)))⟩:ze))))) s t) else((z0g φ l v) u (W (b+1)) m e a n c o h g p d q r i ((zu f ((gt c (gt a b)).to) ((W ((gt f h)+(W ((W ((gt c (gt a b)).cost+(gt d e)))-(gt d ((gt c (gt a b)).to))))))))) ((zu j ((gt c (gt a b)).to) h)) ((zu k ((gt c (gt a b)).to) (((⟨gt a b,(gt c (gt a b)).to,W ((W ((gt c (gt a b)).cost+(gt d e)))-(gt d ((gt c (gt a b)).to))),W ((gt c (gt a b)).cap-(gt g (gt a b)))⟩:ze))))) s t))))) else(if(!true)=true then(l m n c o g p d (zu q r a) i f j k s t) else((z0g φ l v) u (W (b+1)) m e a n c o h g p d q r i f j k s t))))) else((z0g φ l v) u (W (b+1)) m e a n c o h g p d q r i f j k s t))))))) else(ck (rg e i.length) (ck (rg e i.length) (ck (e=e) (z0h φ l φ ((gt i e).length:Int) 0 m e (gt i e) n c o h g p d (zu q r a) i e f j k s t)))))
def z0y(φ:Nat)(p :((List Int)->(List Arc)->(List Int)->(List Int)->(List Int)->(List (List Int))->(List (List Int))->(List Int)->(List Int)->Option (Flow×Int×Unit)))(q :(Int->(List Int)->(List Arc)->(List Bool)->(List Int)->(List Int)->(List Int)->(List (List Int))->(List (List Int))->(List Int)->(List Int)->(List ze)->(List Int)->(List Int)->Option (Flow×Int×Unit))):Nat->Int->Int->Int->(List Int)->(List Arc)->(List Bool)->Int->(List Int)->(List Int)->(List Int)->(List (List Int))->(List (List Int))->(List Int)->(List Int)->(List ze)->(List Int)->(List Int)->Option (Flow×Int×Unit)
 |0,_,_,_,_,_,_,_,_,_,_,_,_,_,_,_,_,_=>none
 |t+1,r,s,b,f,g,d,a,h,i,j,e,k,c,l,m,n,o=>(if(decide (b<s))=true then(ck (rg b d.length) (ck (((!(gt d b))=true)->rg b c.length) (ck ((((!(gt d b))&&(decide (((gt c b):Int)<1152921504606846976)))=true/\(decide (a<0))=false)->rg b c.length) (ck ((((!(gt d b))&&(decide (((gt c b):Int)<1152921504606846976)))=true/\(decide (a<0))=false)->rg a c.length) (if(((!(gt d b))&&(decide (((gt c b):Int)<1152921504606846976)))&&((decide (a<0))||(decide (((gt c b):Int)<(gt c a)))))=true then((z0y φ p q t) r s (W (b+1)) f g d b h i j e k c l m n o) else((z0y φ p q t) r s (W (b+1)) f g d a h i j e k c l m n o)))))) else(if(decide (a<0))=true then(z2b φ p f g c l m h i j e k n o) else(ck (rg a d.length) (ck (rg a e.length) (ck (rg a e.length) (ck (a=a) (z0g φ q φ ((gt e a).length:Int) 0 r a (gt e a) f g (zu d a true) a h i j e a k c l m n o)))))))
def z3u(φ:Nat)(a :((List Int)->(List Arc)->(List Int)->(List Int)->(List Int)->(List (List Int))->(List (List Int))->(List Int)->(List Int)->Option (Flow×Int×Unit))):Nat->Int->(List Int)->(List Arc)->(List Bool)->(List Int)->(List Int)->(List Int)->(List (List Int))->(List (List Int))->(List Int)->(List Int)->(List ze)->(List Int)->(List Int)->Option (Flow×Int×Unit)
 |0,_,_,_,_,_,_,_,_,_,_,_,_,_,_=>none
 |c+1,b,d,e,f,g,h,i,j,k,l,m,n,o,p=>(z0y φ a (z3u φ a c) φ b b 0 d e f (-1) g h i j k l m n o p)
def z1g(φ:Nat)(f :((List Int)->(List Arc)->(List Int)->(List Int)->(List Int)->(List (List Int))->(List (List Int))->(List Int)->(List Int)->Option (Flow×Int×Unit))):Nat->Int->Int->Int->(List Int)->(List Arc)->(List Int)->(List Int)->(List Int)->(List (List Int))->(List (List Int))->(List Int)->(List Int)->(List ze)->(List Int)->(List Int)->Option (Flow×Int×Unit)
 |0,_,_,_,_,_,_,_,_,_,_,_,_,_,_,_=>none
 |q+1,b,g,a,h,i,j,c,k,l,m,d,e,n,o,p=>(if(decide (a<g))=true then(ck (rg a d.length) (ck (rg a e.length) (ck (rg a c.length) (if(decide ((0:Int)<(gt c a)))=true then(ck (rg a (zu d a 1152921504606846976).length) ((z1g φ f q) b g (W (a+1)) h i j c k l m (zu (zu d a 1152921504606846976) a 0) (zu e a (-1)) n o p)) else((z1g φ f q) b g (W (a+1)) h i j c k l m (zu d a 1152921504606846976) (zu e a (-1)) n o p))))) else(ck (zb b 1) (z3u φ f φ b h i (List.replicate b.toNat (default:Bool)) j c k l m d e n o p)))
def zz(φ:Nat)(b :((List Int)->(List Arc)->(List Int)->(List Int)->(List Int)->(List (List Int))->(List (List Int))->(List Int)->(List Int)->Option (Flow×Int×Unit)))(a:Int)(c :(List Int))(d :(List Arc))(e f g :(List Int))(h i :(List (List Int)))(j k :(List Int))(l :(List ze))(m n :(List Int)):Option (Flow×Int×Unit):=(z1g φ b φ a a 0 c d e f g h i j k l m n)
def z32(φ:Nat)(b :((List Int)->(List Arc)->(List Int)->(List Int)->(List Int)->(List (List Int))->(List (List Int))->(List Int)->(List Int)->Option (Flow×Int×Unit)))(a:Int)(c :(List Int))(d :(List Arc))(e f g :(List Int))(h i :(List (List Int)))(l m :(List Int))(n :(List ze))(j k :(List Int)):Option (Flow×Int×Unit):=(ck (zb a 8) (ck (zb a 8) (ck (zb a 32) (zz φ b a c d e f g h i (List.replicate a.toNat (default:Int)) (List.replicate a.toNat (default:Int)) (List.replicate a.toNat (default:ze)) j k))))
def z99(φ:Nat)(b :((List Int)->(List Arc)->(List Int)->(List Int)->(List Int)->(List (List Int))->(List (List Int))->(List Int)->(List Int)->Option (Flow×Int×Unit)))(a:Int)(c :(List Int))(d :(List Arc))(e f g :(List Int))(h i :(List (List Int)))(l m :(List Int))(n :(List ze))(j k :(List Int)):Option (List (Option (Flow×Int×Unit))):=(catL [(ck (zb a 8) (catL [(ck (zb a 8) (catL [(ck (zb a 32) (catL [(some [(zz φ b a c d e f g h i (List.replicate a.toNat (default:Int)) (List.replicate a.toNat (default:Int)) (List.replicate a.toNat (default:ze)) j k)])])),(catL [(ck (zb a 32) (catL [(some [(zz φ b a c d e f g h i (List.replicate a.toNat (default:Int)) (List.replicate a.toNat (default:Int)) (List.replicate a.toNat (default:ze)) j k)])])),(catL [(ck (zb a 32) (catL [(some [(zz φ b a c d e f g h i (List.replicate a.toNat (default:Int)) (List.replicate a.toNat (default:Int)) (List.replicate a.toNat (default:ze)) j k)])]))])])])),(ck (zb a 32) (catL [(ck (zb a 8) (catL [(some [(zz φ b a c d e f g h i (List.replicate a.toNat (default:Int)) (List.replicate a.toNat (default:Int)) (List.replicate a.toNat (default:ze)) j k)])])),(catL [(ck (zb a 8) (catL [(some [(zz φ b a c d e f g h i (List.replicate a.toNat (default:Int)) (List.replicate a.toNat (default:Int)) (List.replicate a.toNat (default:ze)) j k)])]))])])),(catL [(ck (zb a 8) (catL [(ck (zb a 32) (catL [(some [(zz φ b a c d e f g h i (List.replicate a.toNat (default:Int)) (List.replicate a.toNat (default:Int)) (List.replicate a.toNat (default:ze)) j k)])])),(catL [(ck (zb a 32) (catL [(some [(zz φ b a c d e f g h i (List.replicate a.toNat (default:Int)) (List.replicate a.toNat (default:Int)) (List.replicate a.toNat (default:ze)) j k)])]))])])),(ck (zb a 32) (catL [(ck (zb a 8) (catL [(some [(zz φ b a c d e f g h i (List.replicate a.toNat (default:Int)) (List.replicate a.toNat (default:Int)) (List.replicate a.toNat (default:ze)) j k)])]))]))])])),(ck (zb a 8) (catL [(ck (zb a 8) (catL [(ck (zb a 32) (catL [(some [(zz φ b a c d e f g h i (List.replicate a.toNat (default:Int)) (List.replicate a.toNat (default:Int)) (List.replicate a.toNat (default:ze)) j k)])])),(catL [(ck (zb a 32) (catL [(some [(zz φ b a c d e f g h i (List.replicate a.toNat (default:Int)) (List.replicate a.toNat (default:Int)) (List.replicate a.toNat (default:ze)) j k)])])),(catL [(ck (zb a 32) (catL [(some [(zz φ b a c d e f g h i (List.replicate a.toNat (default:Int)) (List.replicate a.toNat (default:Int)) (List.replicate a.toNat (default:ze)) j k)])]))])])])),(ck (zb a 32) (catL [(ck (zb a 8) (catL [(some [(zz φ b a c d e f g h i (List.replicate a.toNat (default:Int)) (List.replicate a.toNat (default:Int)) (List.replicate a.toNat (default:ze)) j k)])]))]))])),(ck (zb a 32) (catL [(ck (zb a 8) (catL [(ck (zb a 8) (catL [(some [(zz φ b a c d e f g h i (List.replicate a.toNat (default:Int)) (List.replicate a.toNat (default:Int)) (List.replicate a.toNat (default:ze)) j k)])])),(catL [(ck (zb a 8) (catL [(some [(zz φ b a c d e f g h i (List.replicate a.toNat (default:Int)) (List.replicate a.toNat (default:Int)) (List.replicate a.toNat (default:ze)) j k)])]))])])),(ck (zb a 8) (catL [(ck (zb a 8) (catL [(some [(zz φ b a c d e f g h i (List.replicate a.toNat (default:Int)) (List.replicate a.toNat (default:Int)) (List.replicate a.toNat (default:ze)) j k)])]))]))]))])
def z2l(φ:Nat):Nat->(List Int)->(List Arc)->(List Int)->(List Int)->(List Int)->(List (List Int))->(List (List Int))->(List Int)->(List Int)->Option (Flow×Int×Unit)
 |0,_,_,_,_,_,_,_,_,_=>none
 |b+1,c,d,e,a,f,g,h,i,j=>(z32 φ (z2l φ b) (a.length:Int) c d e a f g h ([]:List Int) ([]:List Int) ([]:List ze) i j)
def z1a(φ:Nat):Nat->(List Arc)->Int->Int->(List Int)->(List Arc)->(List Int)->(List Int)->(List Int)->(List (List Int))->(List (List Int))->(List Int)->(List Int)->Option (Flow×Int×Unit)
 |0,_,_,_,_,_,_,_,_,_,_,_,_=>none
 |m+1,b,e,a,f,g,h,i,j,c,d,k,l=>(if(decide (a<e))=true then(ck (rg a b.length) (ck (rg (gt b a).from_ c.length) (ck (rg (gt b a).from_ c.length) (ck (((gt b a).from_:Int) =(gt b a).from_) (ck (fits ((gt c ((gt b a).from_)).length+([a]).length) 8) (ck (rg (gt b a).from_ c.length) (ck (((gt b a).from_:Int) =(gt b a).from_) (ck (rg (gt b a).to d.length) (ck (rg (gt b a).to d.length) (ck (((gt b a).to:Int) =(gt b a).to) (ck (fits ((gt d ((gt b a).to)).length+([a]).length) 8) (ck (rg (gt b a).to d.length) (ck (((gt b a).to:Int) =(gt b a).to) ((z1a φ m) b e (W (a+1)) f g h i j ((zu c ((gt b a).from_) (((gt c ((gt b a).from_))++[a])))) ((zu d ((gt b a).to) (((gt d ((gt b a).to))++[a])))) k l)))))))))))))) else(z2l φ φ f g h i j c d k l))
def z8d(φ:Nat)(a:zh)(b :(List Int))(c :(List Arc))(d e f :(List Int))(g h :(List (List Int)))(i j :(List Int)):Option (Flow×Int×Unit):=(z1a φ φ a.arcs (a.arcs.length:Int) 0 b c d e f g h i j)
def z4n(φ:Nat)(b:Int)(a:zh)(c d :(List Int)):Option (Flow×Int×Unit):=(ck (zb (a.arcs.length:Int) 8) (ck (fits (([]:List Int).length+a.supply.length) 8) (ck (zb b 8) (ck (zb b 24) (ck (zb b 24) (z8d φ a a.supply a.arcs (List.replicate ((a.arcs.length:Int):Int).toNat (default:Int)) (([]:List Int)++a.supply) (List.replicate b.toNat (default:Int)) (List.replicate b.toNat (default :(List Int))) (List.replicate b.toNat (default :(List Int))) c d))))))
def z8(φ:Nat)(b:Int)(a:zh)(c d :(List Int)):Option (List (Option (Flow×Int×Unit))):=(catL [(some [(z8d φ a a.supply a.arcs (List.replicate ((a.arcs.length:Int):Int).toNat (default:Int)) (([]:List Int)++a.supply) (List.replicate b.toNat (default:Int)) (List.replicate b.toNat (default :(List Int))) (List.replicate b.toNat (default :(List Int))) c d)])])
def z0b(φ:Nat)(a:Int)(b:zh)(c d :(List Int)):Option (List (Option (Flow×Int×Unit))):=(catL [(ck (zb a 24) (z8 φ a b c d))])
def zg(φ:Nat)(b:Int)(a:zh)(c d :(List Int)):Option (List (Option (Flow×Int×Unit))):=(catL [(ck (fits (([]:List Int).length+a.supply.length) 8) (z8 φ b a c d))])
def z15(φ:Nat)(a:Int)(b:zh)(c d :(List Int)):Option (List (Option (Flow×Int×Unit))):=(catL [(ck (fits (([]:List Int).length+b.supply.length) 8) (z0b φ a b c d)),(ck (zb a 24) (zg φ a b c d))])
def z52(φ:Nat)(a:Int)(b:zh)(c d :(List Int)):Option (List (Option (Flow×Int×Unit))):=(catL [(ck (zb (b.arcs.length:Int) 8) (catL [(ck (fits (([]:List Int).length+b.supply.length) 8) (catL [(ck (zb a 8) (z0b φ a b c d)),(ck (zb a 24) (catL [(ck (zb a 8) (z8 φ a b c d))]))])),(ck (zb a 8) (z15 φ a b c d)),(ck (zb a 24) (catL [(ck (fits (([]:List Int).length+b.supply.length) 8) (catL [(ck (zb a 8) (z8 φ a b c d))])),(ck (zb a 8) (zg φ a b c d))]))])),(ck (fits (([]:List Int).length+b.supply.length) 8) (catL [(ck (zb (b.arcs.length:Int) 8) (catL [(ck (zb a 8) (z0b φ a b c d)),(ck (zb a 24) (catL [(ck (zb a 8) (z8 φ a b c d))]))])),(ck (zb a 8) (catL [(ck (zb (b.arcs.length:Int) 8) (z0b φ a b c d)),(ck (zb a 24) (catL [(ck (zb (b.arcs.length:Int) 8) (z8 φ a b c d))]))])),(ck (zb a 24) (catL [(ck (zb (b.arcs.length:Int) 8) (catL [(ck (zb a 8) (z8 φ a b c d))])),(ck (zb a 8) (catL [(ck (zb (b.arcs.length:Int) 8) (z8 φ a b c d))]))]))])),(ck (zb a 8) (catL [(ck (zb (b.arcs.length:Int) 8) (z15 φ a b c d)),(ck (fits (([]:List Int).length+b.supply.length) 8) (catL [(ck (zb (b.arcs.length:Int) 8) (z0b φ a b c d)),(ck (zb a 24) (catL [(ck (zb (b.arcs.length:Int) 8) (z8 φ a b c d))]))])),(ck (zb a 24) (catL [(ck (zb (b.arcs.length:Int) 8) (zg φ a b c d)),(ck (fits (([]:List Int).length+b.supply.length) 8) (catL [(ck (zb (b.arcs.length:Int) 8) (z8 φ a b c d))]))]))])),(ck (zb a 24) (catL [(ck (zb (b.arcs.length:Int) 8) (catL [(ck (fits (([]:List Int).length+b.supply.length) 8) (catL [(ck (zb a 8) (z8 φ a b c d))])),(ck (zb a 8) (zg φ a b c d))])),(ck (fits (([]:List Int).length+b.supply.length) 8) (catL [(ck (zb (b.arcs.length:Int) 8) (catL [(ck (zb a 8) (z8 φ a b c d))])),(ck (zb a 8) (catL [(ck (zb (b.arcs.length:Int) 8) (z8 φ a b c d))]))])),(ck (zb a 8) (catL [(ck (zb (b.arcs.length:Int) 8) (zg φ a b c d)),(ck (fits (([]:List Int).length+b.supply.length) 8) (catL [(ck (zb (b.arcs.length:Int) 8) (z8 φ a b c d))]))]))]))])
def z16(φ:Nat)(a:Int)(b:zh)(c d :(List Int)):Option (List (Option (Flow×Int×Unit))):=(catL [(ck (fits (([]:List Int).length+b.supply.length) 8) (catL [(ck (zb a 8) (z0b φ a b c d)),(ck (zb a 24) (catL [(ck (zb a 8) (z8 φ a b c d))]))])),(ck (zb a 8) (z15 φ a b c d)),(ck (zb a 24) (catL [(ck (fits (([]:List Int).length+b.supply.length) 8) (catL [(ck (zb a 8) (z8 φ a b c d))])),(ck (zb a 8) (zg φ a b c d))]))])
def z08(φ:Nat)(a:Int)(b:zh)(c d :(List Int)):Option (List (Option (Flow×Int×Unit))):=(catL [(z15 φ a b c d),(ck (zb a 24) (catL [(zg φ a b c d)]))])
def z2u(φ:Nat)(b:Int)(a:zh)(c d :(List Int)):Option (List (Option (Flow×Int×Unit))):=(catL [(ck (zb (a.arcs.length:Int) 8) (z15 φ b a c d)),(ck (fits (([]:List Int).length+a.supply.length) 8) (catL [(ck (zb (a.arcs.length:Int) 8) (z0b φ b a c d)),(ck (zb b 24) (catL [(ck (zb (a.arcs.length:Int) 8) (z8 φ b a c d))]))])),(ck (zb b 24) (catL [(ck (zb (a.arcs.length:Int) 8) (zg φ b a c d)),(ck (fits (([]:List Int).length+a.supply.length) 8) (catL [(ck (zb (a.arcs.length:Int) 8) (z8 φ b a c d))]))]))])
def z7t(φ:Nat)(b:Int)(a:zh)(c d :(List Int)):Option (List (Option (Flow×Int×Unit))):=(ck (zb b 24) (catL [(ck (zb (a.arcs.length:Int) 8) (catL [(z16 φ b a c d),(ck (zb b 8) (z08 φ b a c d)),(ck (zb b 24) (catL [(catL [(ck (fits (([]:List Int).length+a.supply.length) 8) (catL [(ck (zb b 8) (z8 φ b a c d))])),(ck (zb b 8) (zg φ b a c d))]),(ck (zb b 8) (catL [(zg φ b a c d)]))]))])),(z52 φ b a c d),(ck (zb b 8) (catL [(ck (zb (a.arcs.length:Int) 8) (z08 φ b a c d)),(z2u φ b a c d),(ck (zb b 24) (catL [(ck (zb (a.arcs.length:Int) 8) (catL [(zg φ b a c d)])),(catL [(ck (zb (a.arcs.length:Int) 8) (zg φ b a c d)),(ck (fits (([]:List Int).length+a.supply.length) 8) (catL [(ck (zb (a.arcs.length:Int) 8) (z8 φ b a c d))]))])]))])),(ck (zb b 24) (catL [(ck (zb (a.arcs.length:Int) 8) (catL [(catL [(ck (fits (([]:List Int).length+a.supply.length) 8) (catL [(ck (zb b 8) (z8 φ b a c d))])),(ck (zb b 8) (zg φ b a c d))]),(ck (zb b 8) (catL [(zg φ b a c d)]))])),(catL [(ck (zb (a.arcs.length:Int) 8) (catL [(ck (fits (([]:List Int).length+a.supply.length) 8) (catL [(ck (zb b 8) (z8 φ b a c d))])),(ck (zb b 8) (zg φ b a c d))])),(ck (fits (([]:List Int).length+a.supply.length) 8) (catL [(ck (zb (a.arcs.length:Int) 8) (catL [(ck (zb b 8) (z8 φ b a c d))])),(ck (zb b 8) (catL [(ck (zb (a.arcs.length:Int) 8) (z8 φ b a c d))]))])),(ck (zb b 8) (catL [(ck (zb (a.arcs.length:Int) 8) (zg φ b a c d)),(ck (fits (([]:List Int).length+a.supply.length) 8) (catL [(ck (zb (a.arcs.length:Int) 8) (z8 φ b a c d))]))]))]),(ck (zb b 8) (catL [(ck (zb (a.arcs.length:Int) 8) (catL [(zg φ b a c d)])),(catL [(ck (zb (a.arcs.length:Int) 8) (zg φ b a c d)),(ck (fits (([]:List Int).length+a.supply.length) 8) (catL [(ck (zb (a.arcs.length:Int) 8) (z8 φ b a c d))]))])]))]))]))
def zy(φ:Nat)(a:Int)(b:zh)(c d :(List Int)):Option (List (Option (Flow×Int×Unit))):=(ck (zb a 24) (z0b φ a b c d))
def z2v(φ:Nat)(a:Int)(b:zh)(c d :(List Int)):Option (List (Option (Flow×Int×Unit))):=(catL [(ck (fits (([]:List Int).length+b.supply.length) 8) (catL [(zy φ a b c d),(zy φ a b c d)])),(ck (zb a 24) (z15 φ a b c d)),(ck (zb a 24) (z15 φ a b c d))])
end Px
end
section
set_option maxHeartbeats 4000000
set_option maxRecDepth 100000
namespace Px
open Go Go.RowKit
def z1h(φ:Nat)(b:Int)(a:zh)(c d :(List Int)):Option (List (Option (Flow×Int×Unit))):=(catL [(ck (zb (a.arcs.length:Int) 8) (z0b φ b a c d)),(ck (zb b 24) (catL [(ck (zb (a.arcs.length:Int) 8) (z8 φ b a c d))]))])
def z6s(φ:Nat)(a:Int)(b:zh)(c d :(List Int)):Option (List (Option (Flow×Int×Unit))):=(catL [(ck (zb (b.arcs.length:Int) 8) (z2v φ a b c d)),(ck (fits (([]:List Int).length+b.supply.length) 8) (catL [(ck (zb (b.arcs.length:Int) 8) (catL [(zy φ a b c d),(zy φ a b c d)])),(ck (zb a 24) (z1h φ a b c d)),(ck (zb a 24) (z1h φ a b c d))])),(ck (zb a 24) (z2u φ a b c d)),(ck (zb a 24) (z2u φ a b c d))])
def z0l(φ:Nat)(a:Int)(b:zh)(c d :(List Int)):Option (List (Option (Flow×Int×Unit))):=(catL [(ck (zb a 8) (z0b φ a b c d)),(ck (zb a 24) (catL [(ck (zb a 8) (z8 φ a b c d))]))])
def z9a(φ:Nat)(a:Int)(b:zh)(c d :(List Int)):Option (List (Option (Flow×Int×Unit))):=(catL [(ck (zb (b.arcs.length:Int) 8) (catL [(catL [(ck (fits (([]:List Int).length+b.supply.length) 8) (catL [(ck (zb a 8) (catL [(zy φ a b c d),(zy φ a b c d)])),(ck (zb a 24) (z0l φ a b c d)),(ck (zb a 24) (z0l φ a b c d))])),(ck (zb a 8) (z2v φ a b c d)),(ck (zb a 24) (z16 φ a b c d)),(ck (zb a 24) (z16 φ a b c d))]),(ck (zb a 8) (catL [(z2v φ a b c d),(ck (zb a 24) (z08 φ a b c d)),(ck (zb a 24) (z08 φ a b c d))])),(ck (zb a 24) (catL [(z16 φ a b c d),(ck (zb a 8) (z08 φ a b c d)),(ck (zb a 24) (catL [(catL [(ck (fits (([]:List Int).length+b.supply.length) 8) (catL [(ck (zb a 8) (z8 φ a b c d))])),(ck (zb a 8) (zg φ a b c d))]),(ck (zb a 8) (catL [(zg φ a b c d)]))]))])),(ck (zb a 24) (catL [(z16 φ a b c d),(ck (zb a 8) (z08 φ a b c d)),(ck (zb a 24) (catL [(catL [(ck (fits (([]:List Int).length+b.supply.length) 8) (catL [(ck (zb a 8) (z8 φ a b c d))])),(ck (zb a 8) (zg φ a b c d))]),(ck (zb a 8) (catL [(zg φ a b c d)]))]))]))])),(catL [(ck (zb (b.arcs.length:Int) 8) (catL [(ck (fits (([]:List Int).length+b.supply.length) 8) (catL [(ck (zb a 8) (catL [(zy φ a b c d),(zy φ a b c d)])),(ck (zb a 24) (z0l φ a b c d)),(ck (zb a 24) (z0l φ a b c d))])),(ck (zb a 8) (z2v φ a b c d)),(ck (zb a 24) (z16 φ a b c d)),(ck (zb a 24) (z16 φ a b c d))])),(ck (fits (([]:List Int).length+b.supply.length) 8) (catL [(ck (zb (b.arcs.length:Int) 8) (catL [(ck (zb a 8) (catL [(zy φ a b c d),(zy φ a b c d)])),(ck (zb a 24) (z0l φ a b c d)),(ck (zb a 24) (z0l φ a b c d))])),(ck (zb a 8) (catL [(ck (zb (b.arcs.length:Int) 8) (catL [(zy φ a b c d),(zy φ a b c d)])),(ck (zb a 24) (z1h φ a b c d)),(ck (zb a 24) (z1h φ a b c d))])),(ck (zb a 24) (catL [(ck (zb (b.arcs.length:Int) 8) (z0l φ a b c d)),(ck (zb a 8) (z1h φ a b c d)),(ck (zb a 24) (catL [(ck (zb (b.arcs.length:Int) 8) (catL [(ck (zb a 8) (z8 φ a b c d))])),(ck (zb a 8) (catL [(ck (zb (b.arcs.length:Int) 8) (z8 φ a b c d))]))]))])),(ck (zb a 24) (catL [(ck (zb (b.arcs.length:Int) 8) (z0l φ a b c d)),(ck (zb a 8) (z1h φ a b c d)),(ck (zb a 24) (catL [(ck (zb (b.arcs.length:Int) 8) (catL [(ck (zb a 8) (z8 φ a b c d))])),(ck (zb a 8) (catL [(ck (zb (b.arcs.length:Int) 8) (z8 φ a b c d))]))]))]))])),(ck (zb a 8) (z6s φ a b c d)),(ck (zb a 24) (z52 φ a b c d)),(ck (zb a 24) (z52 φ a b c d))]),(ck (zb a 8) (catL [(ck (zb (b.arcs.length:Int) 8) (catL [(z2v φ a b c d),(ck (zb a 24) (z08 φ a b c d)),(ck (zb a 24) (z08 φ a b c d))])),(z6s φ a b c d),(ck (zb a 24) (catL [(ck (zb (b.arcs.length:Int) 8) (z08 φ a b c d)),(z2u φ a b c d),(ck (zb a 24) (catL [(ck (zb (b.arcs.length:Int) 8) (catL [(zg φ a b c d)])),(catL [(ck (zb (b.arcs.length:Int) 8) (zg φ a b c d)),(ck (fits (([]:List Int).length+b.supply.length) 8) (catL [(ck (zb (b.arcs.length:Int) 8) (z8 φ a b c d))]))])]))])),(ck (zb a 24) (catL [(ck (zb (b.arcs.length:Int) 8) (z08 φ a b c d)),(z2u φ a b c d),(ck (zb a 24) (catL [(ck (zb (b.arcs.length:Int) 8) (catL [(zg φ a b c d)])),(catL [(ck (zb (b.arcs.length:Int) 8) (zg φ a b c d)),(ck (fits (([]:List Int).length+b.supply.length) 8) (catL [(ck (zb (b.arcs.length:Int) 8) (z8 φ a b c d))]))])]))]))])),(z7t φ a b c d),(z7t φ a b c d)])
def zf4(φ:Nat)(a:zh):Option (Flow×Int×Unit):=((z9u φ a).bind λb=>(if(b.1 !=0)=true then(some ((⟨([]:List Int),([]:List Int)⟩:Flow),b.1,())) else(z4n φ (a.supply.length:Int) a ([]:List Int) ([]:List Int))))
def zeb(φ:Nat):Fsp TV:=⟨[40],[.val 41,.val 0],λz=>zf4 φ z.1⟩
def z17(φ:Nat):Nat->Int->Int->(List Int)->Option (Bool×Unit)
 |0,_,_,_=>none
 |d+1,c,a,b=>(if(decide (a<c))=true then(ck (rg a b.length) (if(((gt b a):Int) !=0)=true then(some (false,())) else((z17 φ d) c (W (a+1)) b))) else(some (true,())))
def z2g(φ:Nat):Nat->(List Arc)->Int->Int->Flow->(List Int)->Option (Bool×Unit)
 |0,_,_,_,_,_=>none
 |f+1,b,e,a,d,c=>(if(decide (a<e))=true then(ck (rg a b.length) (ck (rg a d.x.length) ((z3g φ (gt d.x a) 0 ((gt b a).cap)).bind λg=>(if(!g.1)=true then(some (false,())) else(ck (rg (gt b a).from_ c.length) (ck (rg a d.x.length) (ck (rg (gt b a).from_ c.length) (ck (rg (gt b a).to (((zu c ((gt b a).from_) ((W ((gt c ((gt b a).from_))-(gt d.x a)))))).length)) (ck (rg a d.x.length) (ck (rg (gt b a).to (((zu c ((gt b a).from_) ((W ((gt c ((gt b a).from_))-(gt d.x a)))))).length)) ((z2g φ f) b e (W (a+1)) d ((zu ((zu c ((gt b a).from_) ((W ((gt c ((gt b a).from_))-(gt d.x a)))))) ((gt b a).to) ((W ((gt ((zu c ((gt b a).from_) ((W ((gt c ((gt b a).from_))-(gt d.x a)))))) ((gt b a).to))+(gt d.x a))))))))))))))))) else(z17 φ φ (c.length:Int) 0 c))
def z6u(φ:Nat)(a:zh)(b:Flow):Option (Bool×Unit):=(if(((b.x.length:Int):Int) !=(a.arcs.length:Int))=true then(some (false,())) else(ck (fits (([]:List Int).length+a.supply.length) 8) (z2g φ φ a.arcs (a.arcs.length:Int) 0 b (([]:List Int)++a.supply))))
def z6w(φ:Nat):Fsp TV:=⟨[40,41],[.val 27],kk2 (z6u φ)⟩
def z3f(φ:Nat):Nat->Int->(List Arc)->Int->Int->Flow->Option (Int×Int×Unit)
 |0,_,_,_,_,_=>none
 |f+1,d,b,e,a,c=>(if(decide (a<e))=true then(ck (rg a b.length) (ck (rg a c.x.length) (if(decide (((W (9007199254740992-d)):Int)<(W ((gt c.x a)*(gt b a).cost))))=true then(some (0,3,())) else((z3f φ f) ((W (d+(W ((gt c.x a)*(gt b a).cost))))) b e (W (a+1)) c)))) else(some (d,0,())))
def ze9(φ:Nat)(a:zh)(b:Flow):Option (Int×Int×Unit):=((z9u φ a).bind λc=>(if(c.1 !=0)=true then(some (0,c.1,())) else((z6u φ a b).bind λd=>(if(!d.1)=true then(some (0,360,())) else(z3f φ φ 0 a.arcs (a.arcs.length:Int) 0 b)))))
def zd1(φ:Nat):Fsp TV:=⟨[40,41],[.val 0,.val 0],kk2 (ze9 φ)⟩
def z0i(φ:Nat):Nat->(List zc)->(List zl)->(List Arc)->Int->Int->Int->(List Int)->Flow->(List zi)->Option (Plan×Int×Unit)
 |0,_,_,_,_,_,_,_,_,_=>none
 |j+1,c,e,b,g,a,h,i,d,f=>(if(decide (a<g))=true then(ck (rg a b.length) (ck ((((decide (((gt b a).from_:Int)<(c.length:Int)))&&(decide (((gt b a).to:Int)<(W ((c.length:Int)+(e.length:Int))))))=true)->rg a d.x.length) (if(((decide (((gt b a).from_:Int)<(c.length:Int)))&&(decide (((gt b a).to:Int)<(W ((c.length:Int)+(e.length:Int))))))&&(decide ((0:Int)<(gt d.x a))))=true then(ck (rg a d.x.length) (ck (fits (f.length+([(⟨(gt b a).from_,W ((gt b a).to-(c.length:Int)),gt d.x a⟩:zi)]).length) 24) ((z0i φ j) c e b g (W (a+1)) h i d ((f++[(⟨(gt b a).from_,W ((gt b a).to-(c.length:Int)),gt d.x a⟩:zi)]))))) else((z0i φ j) c e b g (W (a+1)) h i d f)))) else(some ((⟨f,h,i⟩:Plan),0,())))
def z2j(φ:Nat)(e:Pool)(c :(List zc))(d :(List zl)):Option (Plan×Int×Unit):=((z4l φ e c d).bind λa=>(if(a.2.1 !=0)=true then(some ((⟨([]:List zi),0,([]:List Int)⟩:Plan),a.2.1,())) else((zf4 φ a.1).bind λb=>(if(b.2.1 !=0)=true then(some ((⟨([]:List zi),0,([]:List Int)⟩:Plan),b.2.1,())) else((ze9 φ a.1 b.1).bind λf=>(z0i φ φ c d a.1.arcs (a.1.arcs.length:Int) 0 f.1 b.1.price b.1 ([]:List zi)))))))
def z4k(φ:Nat):Fsp TV:=⟨[26,36,37],[.val 47,.val 0],kk3 (z2j φ)⟩
def z66(φ:Nat):Nat->Int->Int->(List (Nat->Int))->Option ((List (Nat->Int))×Unit)
 |0,_,_,_=>none
 |d+1,b,a,c=>(if(decide (((W (a+1)):Int)<b))=true then(ck (fits (c.length+([(upd (upd (λ_=>(default:Int)) 0 a) 1 (W (a+1)))]).length) 16) ((z66 φ d) b (W (a+1)) ((c++[(upd (upd (λ_=>(default:Int)) 0 a) 1 (W (a+1)))])))) else(if(decide ((2:Int)<b))=true then(ck (fits (c.length+([(upd (upd (λ_=>(default:Int)) 0 (W (b-1))) 1 0)]).length) 16) (some ((c++[(upd (upd (λ_=>(default:Int)) 0 (W (b-1))) 1 0)]),()))) else(some (c,()))))
def zdm(φ:Nat)(a:Int):Option ((List (Nat->Int))×Unit):=(z66 φ φ a 0 ([]:List (Nat->Int)))
def z77(φ:Nat):Fsp TV:=⟨[0],[.val 55],λz=>zdm φ z.1⟩
def z67(φ:Nat):Nat->Int->(List (Nat->Int))->Int->(List z4t)->(List Edge)->(List z4t)->(List Edge)->Option (z00×Unit)
 |0,_,_,_,_,_,_,_=>none
 |f+1,c,b,a,g,h,d,e=>(if(decide (a<(b.length:Int)))=true then(ck (rg a b.length) (ck (rg a b.length) (ck (fits (d.length+([(⟨3,(gt b a) (0:Int).toNat,(gt b a) (1:Int).toNat⟩:z4t)]).length) 24) (ck (fits (e.length+([(⟨W (3*((gt b a) (0:Int).toNat)),W ((W (3*c))+a),(gt b a) (0:Int).toNat,120,100⟩:Edge),(⟨W ((W (3*c))+a),W (3*((gt b a) (1:Int).toNat)),(gt b a) (1:Int).toNat,90,80⟩:Edge)]).length) 40) ((z67 φ f) c b (W (a+1)) g h (d++[(⟨3,(gt b a) (0:Int).toNat,(gt b a) (1:Int).toNat⟩:z4t)]) ((e++[(⟨W (3*((gt b a) (0:Int).toNat)),W ((W (3*c))+a),(gt b a) (0:Int).toNat,120,100⟩:Edge),(⟨W ((W (3*c))+a),W (3*((gt b a) (1:Int).toNat)),(gt b a) (1:Int).toNat,90,80⟩:Edge)]))))))) else(some ((⟨d,e⟩:z00),())))
def z7a(φ:Nat):Nat->Int->Int->(List z4t)->(List Edge)->(List z4t)->(List Edge)->Option (z00×Unit)
 |0,_,_,_,_,_,_=>none
 |g+1,b,a,e,f,c,d=>(if(decide (a<b))=true then(ck (fits (c.length+([(⟨1,a,-1⟩:z4t),(⟨4,a,-1⟩:z4t),(⟨5,a,-1⟩:z4t)]).length) 24) (ck (fits (d.length+([(⟨W (3*a),W ((W (3*a))+1),a,30,10⟩:Edge),(⟨W (3*a),W ((W (3*a))+2),a,60,20⟩:Edge)]).length) 40) ((z7a φ g) b (W (a+1)) e f (c++[(⟨1,a,-1⟩:z4t),(⟨4,a,-1⟩:z4t),(⟨5,a,-1⟩:z4t)]) ((d++[(⟨W (3*a),W ((W (3*a))+1),a,30,10⟩:Edge),(⟨W (3*a),W ((W (3*a))+2),a,60,20⟩:Edge)]))))) else((zdm φ b).bind λh=>(z67 φ φ b h.1 0 e f c d)))
def z4s(φ:Nat)(a:Int):Option (z00×Unit):=(z7a φ φ a 0 ([]:List z4t) ([]:List Edge) ([]:List z4t) ([]:List Edge))
def z83(φ:Nat):Fsp TV:=⟨[0],[.val 5],λz=>z4s φ z.1⟩
def z81(φ:Nat):Nat->Int->Int->Int->(List z0e)->(List zbg)->(List Swap)->(List Wash)->(List z0e)->(List zbg)->(List Swap)->(List Wash)->Option (z3m×Unit)
 |0,_,_,_,_,_,_,_,_,_,_,_=>none
 |f+1,b,d,a,g,h,i,j,e,c,k,l=>(if(decide (a<d))=true then(if(2:Int)≠0 then(if(3:Int)≠0 then(ck (b≠0) (ck (fits (c.length+([(⟨a.tmod 2,a.tmod 3,W (3*(a.tmod b)),0,5000000⟩:zbg)]).length) 40) ((z81 φ f) b d (W (a+1)) g h i j e ((c++[(⟨a.tmod 2,a.tmod 3,W (3*(a.tmod b)),0,5000000⟩:zbg)])) k l))) else none) else none) else(some ((⟨e,c,[(⟨0,1,500⟩:Swap)],[(⟨1,0,60⟩:Wash),(⟨4,5,240⟩:Wash)]⟩:z3m),())))
def z78(φ:Nat)(a b:Int):Option (z3m×Unit):=(z81 φ φ a b 0 ([]:List z0e) ([]:List zbg) ([]:List Swap) ([]:List Wash) ([(⟨60000,20000,1500,2,500,15,10000000,10⟩:z0e),(⟨70000,25000,1800,3,600,240,8000000,20⟩:z0e)]) ([]:List zbg) ([]:List Swap) ([]:List Wash))
def zap(φ:Nat):Fsp TV:=⟨[0,0],[.val 15],kk2 (z78 φ)⟩
def zen(φ:Nat)(a:ByteArray)(b :(List Int)):Option ((List Int)×Unit):=(ck ((0:Int)<=0/\0<=(min2 (a.size:Int) 255)/\(min2 (a.size:Int) 255)<=(a.size:Int)) (ck (fits (([(IntKind.wrap .u8 (((a.extract (0:Int).toNat ((min2 (a.size:Int) 255):Int).toNat).size:Int)))]).length+((zfj ((a.extract (0:Int).toNat ((min2 (a.size:Int) 255):Int).toNat)))).length) 1) (ck (fits ((([(IntKind.wrap .u8 (((a.extract (0:Int).toNat ((min2 (a.size:Int) 255):Int).toNat).size:Int)))]++(zfj ((a.extract (0:Int).toNat ((min2 (a.size:Int) 255):Int).toNat))))).length+b.length) 1) (some ((([(IntKind.wrap .u8 (((a.extract (0:Int).toNat ((min2 (a.size:Int) 255):Int).toNat).size:Int)))]++(zfj ((a.extract (0:Int).toNat ((min2 (a.size:Int) 255):Int).toNat))))++b),())))))
def zbw(φ:Nat):Fsp TV:=⟨[49,57],[.val 57],kk2 (zen φ)⟩
def z38(φ:Nat):Nat->Int->Int->(List Int)->Option ((List Int)×Unit)
 |0,_,_,_=>none
 |d+1,b,a,c=>(if(decide (a<8))=true then(ck (0<=(W (56-(W (8*a))))) (ck (fits (c.length+([(IntKind.wrap .u8 ((b.fdiv (2 ^ (min ((W (56-(W (8*a)))):Int).toNat 64)))))]).length) 1) ((z38 φ d) b (W (a+1)) ((c++[(IntKind.wrap .u8 ((b.fdiv (2 ^ (min ((W (56-(W (8*a)))):Int).toNat 64)))))]))))) else(some (c,())))
def z41(φ:Nat):Nat->(List Int)->(List Int)->Option ((List Int)×Unit)
 |0,_,_=>none
 |c+1,b,a=>(if(64:Int)≠0 then(if(((((a.length:Int):Int).tmod 64):Int) !=56)=true then(ck (fits (a.length+([0]).length) 1) ((z41 φ c) b (a++[0]))) else(z38 φ φ ((U ((U ((b.length:Int)))*8))) 0 a)) else none)
def zb7(φ:Nat)(a :(List Int)):Option ((List Int)×Unit):=(ck (fits (([]:List Int).length+a.length) 1) (ck (fits ((([]:List Int)++a).length+([128]).length) 1) (z41 φ φ a ((([]:List Int)++a)++[128]))))
def zc1(φ:Nat):Fsp TV:=⟨[57],[.val 57],λz=>zb7 φ z.1⟩
def z2x(φ:Nat)(b a:Int):Option (Int×Unit):=(ck (0<=a) (ck (0<=(W (32-a))) (some ((IntKind.wrap .u32 ((BitVec.ofInt 32 (b.fdiv (2 ^ (min a.toNat 32)))||| BitVec.ofInt 32 (IntKind.wrap .u32 (b*2 ^ (min ((W (32-a)):Int).toNat 32)))).toNat)),()))))
def zb9(φ:Nat):Fsp TV:=⟨[58,0],[.val 58],kk2 (z2x φ)⟩
def z1i(φ:Nat):Nat->Int->(Nat->Int)->(Nat->Int)->Option ((Nat->Int)×Unit)
 |0,_,_,_=>none
 |c+1,a,d,b=>(if(decide (a<64))=true then(ck (rg (W (a-15)) 64) ((z2x φ ((b (((W (a-15)):Int).toNat))) 7).bind λe=>(ck (rg (W (a-15)) 64) ((z2x φ ((b (((W (a-15)):Int).toNat))) 18).bind λf=>(ck (rg (W (a-15)) 64) (if 0<=(3:Int) then(ck (rg (W (a-2)) 64) ((z2x φ ((b (((W (a-2)):Int).toNat))) 17).bind λg=>(ck (rg (W (a-2)) 64) ((z2x φ ((b (((W (a-2)):Int).toNat))) 19).bind λh=>(ck (rg (W (a-2)) 64) (if 0<=(10:Int) then(ck (rg (W (a-16)) 64) (ck (rg (W (a-7)) 64) (ck (rg a 64) ((z1i φ c) (W (a+1)) d ((upd b (a.toNat) ((IntKind.wrap .u32 ((IntKind.wrap .u32 ((IntKind.wrap .u32 ((b (((W (a-16)):Int).toNat))+(IntKind.wrap .u32 ((BitVec.ofInt 32 (IntKind.wrap .u32 ((BitVec.ofInt 32 e.1 ^^^ BitVec.ofInt 32 f.1).toNat)) ^^^ BitVec.ofInt 32 (((b (((W (a-15)):Int).toNat)):Int).fdiv (2 ^ (min (3:Int).toNat 32)))).toNat))))+(b (((W (a-7)):Int).toNat))))+(IntKind.wrap .u32 ((BitVec.ofInt 32 (IntKind.wrap .u32 ((BitVec.ofInt 32 g.1 ^^^ BitVec.ofInt 32 h.1).toNat)) ^^^ BitVec.ofInt 32 (((b (((W (a-2)):Int).toNat)):Int).fdiv (2 ^ (min (10:Int).toNat 32)))).toNat))))))))))) else none)))))) else none)))))) else(some (b,())))
def z2y(φ:Nat):Nat->(List Int)->Int->(Nat->Int)->(Nat->Int)->Option ((Nat->Int)×Unit)
 |0,_,_,_,_=>none
 |e+1,b,a,c,d=>(if(decide (a<16))=true then(ck (rg (W (4*a)) b.length) (if 0<=(24:Int) then(ck (rg ((W ((W (4*a))+1))) b.length) (if 0<=(16:Int) then(ck (rg ((W ((W (4*a))+2))) b.length) (if 0<=(8:Int) then(ck (rg ((W ((W (4*a))+3))) b.length) (ck (rg a 64) ((z2y φ e) b (W (a+1)) c ((upd d (a.toNat) ((IntKind.wrap .u32 ((BitVec.ofInt 32 (IntKind.wrap .u32 ((BitVec.ofInt 32 (IntKind.wrap .u32 ((BitVec.ofInt 32 (IntKind.wrap .u32 ((IntKind.wrap .u32 ((gt b (W (4*a)))))*2 ^ (min (24:Int).toNat 32)))||| BitVec.ofInt 32 (IntKind.wrap .u32 ((IntKind.wrap .u32 ((gt b ((W ((W (4*a))+1))))))*2 ^ (min (16:Int).toNat 32)))).toNat))||| BitVec.ofInt 32 (IntKind.wrap .u32 ((IntKind.wrap .u32 ((gt b ((W ((W (4*a))+2))))))*2 ^ (min (8:Int).toNat 32)))).toNat))||| BitVec.ofInt 32 (IntKind.wrap .u32 ((gt b ((W ((W (4*a))+3))))))).toNat)))))))) else none)) else none)) else none)) else(z1i φ φ 16 c d))
def z8k(φ:Nat)(a :(List Int)):Option ((Nat->Int)×Unit):=(z2y φ φ a 0 (λ_=>(default:Int)) (λ_=>(default:Int)))
def z9d(φ:Nat):Fsp TV:=⟨[57],[.val 59],λz=>z8k φ z.1⟩
def zam(φ:Nat):Option ((Nat->Int)×Unit):=(some ((upd ((upd ((upd ((upd ((upd ((upd ((upd ((upd ((upd ((upd ((upd ((upd ((upd ((upd ((upd ((upd ((upd ((upd ((upd ((upd ((upd ((upd ((upd ((upd ((upd ((upd ((upd ((upd ((upd ((upd ((upd ((upd ((upd ((upd ((upd ((upd ((upd ((upd ((upd ((upd ((upd ((upd ((upd ((upd ((upd ((upd ((upd ((upd ((upd ((upd ((upd ((upd ((upd ((upd ((upd ((upd ((upd ((upd ((upd ((upd ((upd ((upd ((upd (upd (λ_=>(default:Int)) 0 1116352408) 1 1899447441)) 2 3049323471)) 3 3921009573)) 4 961987163)) 5 1508970993)) 6 2453635748)) 7 2870763221)) 8 3624381080)) 9 310598401)) 10 607225278)) 11 1426881987)) 12 1925078388)) 13 2162078206)) 14 2614888103)) 15 3248222580)) 16 3835390401)) 17 4022224774)) 18 264347078)) 19 604807628)) 20 770255983)) 21 1249150122)) 22 1555081692)) 23 1996064986)) 24 2554220882)) 25 2821834349)) 26 2952996808)) 27 3210313671)) 28 3336571891)) 29 3584528711)) 30 113926993)) 31 338241895)) 32 666307205)) 33 773529912)) 34 1294757372)) 35 1396182291)) 36 1695183700)) 37 1986661051)) 38 2177026350)) 39 2456956037)) 40 2730485921)) 41 2820302411)) 42 3259730800)) 43 3345764771)) 44 3516065817)) 45 3600352804)) 46 4094571909)) 47 275423344)) 48 430227734)) 49 506948616)) 50 659060556)) 51 883997877)) 52 958139571)) 53 1322822218)) 54 1537002063)) 55 1747873779)) 56 1955562222)) 57 2024104815)) 58 2227730452)) 59 2361852424)) 60 2428436474)) 61 2756734187)) 62 3204031479)) 63 3329325298),()))
def z80(φ:Nat):Fsp TV:=⟨[],[.val 59],λz=>zam φ⟩
def z37(φ:Nat):Nat->Int->(Nat->Int)->(Nat->Int)->(Nat->Int)->Option ((Nat->Int)×Unit)
 |0,_,_,_,_=>none
 |d+1,a,b,e,c=>(if(decide (a<8))=true then(ck (rg a 8) (ck (rg a 8) (ck (rg a 8) ((z37 φ d) (W (a+1)) ((upd b (a.toNat) ((IntKind.wrap .u32 ((b (a.toNat))+(c (a.toNat))))))) e c)))) else(some (b,())))
def z36(φ:Nat):Nat->Int->(Nat->Int)->(Nat->Int)->(Nat->Int)->(Nat->Int)->(Nat->Int)->Option ((Nat->Int)×Unit)
 |0,_,_,_,_,_,_=>none
 |j+1,b,e,f,c,d,a=>(if(decide (b<64))=true then((z2x φ (a ((4:Int).toNat)) 6).bind λg=>((z2x φ (a ((4:Int).toNat)) 11).bind λh=>((z2x φ (a ((4:Int).toNat)) 25).bind λi=>(ck (rg b 64) (ck (rg b 64) ((z2x φ (a ((0:Int).toNat)) 2).bind λk=>((z2x φ (a ((0:Int).toNat)) 13).bind λl=>((z2x φ (a ((0:Int).toNat)) 22).bind λm=>((z36 φ j) (W (b+1)) e f c d ((upd ((upd ((upd ((upd ((upd ((upd ((upd ((upd (λ_=>(default:Int)) 0 ((IntKind.wrap .u32 ((IntKind.wrap .u32 ((IntKind.wrap .u32 ((IntKind.wrap .u32 ((IntKind.wrap .u32 ((a ((7:Int).toNat))+(IntKind.wrap .u32 ((BitVec.ofInt 32 (IntKind.wrap .u32 ((BitVec.ofInt 32 g.1 ^^^ BitVec.ofInt 32 h.1).toNat)) ^^^ BitVec.ofInt 32 i.1).toNat))))+(IntKind.wrap .u32 ((BitVec.ofInt 32 (IntKind.wrap .u32 ((BitVec.ofInt 32 (a ((4:Int).toNat))&&& BitVec.ofInt 32 (a ((5:Int).toNat))).toNat)) ^^^ BitVec.ofInt 32 (IntKind.wrap .u32 ((BitVec.ofInt 32 (IntKind.wrap .u32 ((BitVec.ofInt 32 (4294967295:Int) ^^^ BitVec.ofInt 32 (a ((4:Int).toNat))).toNat))&&& BitVec.ofInt 32 (a ((6:Int).toNat))).toNat))).toNat))))+(d (b.toNat))))+(c (b.toNat))))+(IntKind.wrap .u32 ((IntKind.wrap .u32 ((BitVec.ofInt 32 (IntKind.wrap .u32 ((BitVec.ofInt 32 k.1 ^^^ BitVec.ofInt 32 l.1).toNat)) ^^^ BitVec.ofInt 32 m.1).toNat))+(IntKind.wrap .u32 ((BitVec.ofInt 32 (IntKind.wrap .u32 ((BitVec.ofInt 32 (IntKind.wrap .u32 ((BitVec.ofInt 32 (a ((0:Int).toNat))&&& BitVec.ofInt 32 (a ((1:Int).toNat))).toNat)) ^^^ BitVec.ofInt 32 (IntKind.wrap .u32 ((BitVec.ofInt 32 (a ((0:Int).toNat))&&& BitVec.ofInt 32 (a ((2:Int).toNat))).toNat))).toNat)) ^^^ BitVec.ofInt 32 (IntKind.wrap .u32 ((BitVec.ofInt 32 (a ((1:Int).toNat))&&& BitVec.ofInt 32 (a ((2:Int).toNat))).toNat))).toNat))))))))) 1 (a ((0:Int).toNat)))) 2 (a ((1:Int).toNat)))) 3 (a ((2:Int).toNat)))) 4 ((IntKind.wrap .u32 ((a ((3:Int).toNat))+(IntKind.wrap .u32 ((IntKind.wrap .u32 ((IntKind.wrap .u32 ((IntKind.wrap .u32 ((a ((7:Int).toNat))+(IntKind.wrap .u32 ((BitVec.ofInt 32 (IntKind.wrap .u32 ((BitVec.ofInt 32 g.1 ^^^ BitVec.ofInt 32 h.1).toNat)) ^^^ BitVec.ofInt 32 i.1).toNat))))+(IntKind.wrap .u32 ((BitVec.ofInt 32 (IntKind.wrap .u32 ((BitVec.ofInt 32 (a ((4:Int).toNat))&&& BitVec.ofInt 32 (a ((5:Int).toNat))).toNat)) ^^^ BitVec.ofInt 32 (IntKind.wrap .u32 ((BitVec.ofInt 32 (IntKind.wrap .u32 ((BitVec.ofInt 32 (4294967295:Int) ^^^ BitVec.ofInt 32 (a ((4:Int).toNat))).toNat))&&& BitVec.ofInt 32 (a ((6:Int).toNat))).toNat))).toNat))))+(d (b.toNat))))+(c (b.toNat))))))))) 5 (a ((4:Int).toNat)))) 6 (a ((5:Int).toNat)))) 7 (a ((6:Int).toNat))))))))))))) else(z37 φ φ 0 e f a))
def zd5(φ:Nat)(a :(Nat->Int))(b :(List Int)):Option ((Nat->Int)×Unit):=((z8k φ b).bind λc=>((zam φ).bind λd=>(z36 φ φ 0 a (λ_=>(default:Int)) c.1 d.1 a)))
def zd7(φ:Nat):Fsp TV:=⟨[60,57],[.val 60],kk2 (zd5 φ)⟩
def z47(φ:Nat):Nat->Int->(Nat->Int)->(Nat->Int)->(Nat->Int)->Option ((Nat->Int)×Unit)
 |0,_,_,_,_=>none
 |d+1,a,e,b,c=>(if(decide (a<32))=true then(if(4:Int)≠0 then(ck (rg (W (a.tdiv 4)) 8) (if(4:Int)≠0 then(ck (0<=(W (24-(W (8*(a.tmod 4)))))) (ck (rg a 32) ((z47 φ d) (W (a+1)) e b ((upd c (a.toNat) ((IntKind.wrap .u8 ((((b (((W (a.tdiv 4)):Int).toNat)):Int).fdiv (2 ^ (min ((W (24-(W (8*(a.tmod 4))))):Int).toNat 32))))))))))) else none)) else none) else(some (c,())))
def z6d(φ:Nat):Nat->(List Int)->Int->(Nat->Int)->(Nat->Int)->Option ((Nat->Int)×Unit)
 |0,_,_,_,_=>none
 |e+1,b,a,c,d=>(if(decide (a<(b.length:Int)))=true then(ck ((0:Int)<=a/\a<=(W (a+64))/\(W (a+64))<=(b.length:Int)) ((zd5 φ d ((z3y b a.toNat ((W (a+64)):Int).toNat))).bind λf=>((z6d φ e) b (W (a+64)) c f.1))) else(z47 φ φ 0 c d (λ_=>(default:Int))))
def zh3(φ:Nat)(a :(List Int)):Option ((Nat->Int)×Unit):=((zb7 φ a).bind λb=>(z6d φ φ b.1 0 (λ_=>(default:Int)) ((upd ((upd ((upd ((upd ((upd ((upd ((upd (upd (λ_=>(default:Int)) 0 1779033703) 1 3144134277)) 2 1013904242)) 3 2773480762)) 4 1359893119)) 5 2600822924)) 6 528734635)) 7 1541459225))))
def zfz(φ:Nat):Fsp TV:=⟨[57],[.val 61],λz=>zh3 φ z.1⟩
def z8u(φ:Nat)(a:ByteArray)(b :(List Int)):Option ((Nat->Int)×Unit):=((zen φ a b).bind λc=>((zh3 φ c.1).bind λd=>(some (d.1,()))))
def z8i(φ:Nat):Fsp TV:=⟨[49,57],[.val 61],kk2 (z8u φ)⟩
def z40(φ:Nat):Nat->Int->Int->(Nat->Int)->Option (Int×Unit)
 |0,_,_,_=>none
 |d+1,b,a,c=>(if(decide (a<8))=true then(if 0<=(8:Int) then(ck (rg a 32) ((z40 φ d) ((U ((BitVec.ofInt 64 (U (b*2 ^ (min (8:Int).toNat 64)))||| BitVec.ofInt 64 (U ((c (a.toNat))))).toNat))) (W (a+1)) c)) else none) else(some (b,())))
def zb6(φ:Nat)(a :(Nat->Int)):Option (Int×Unit):=(z40 φ φ 0 0 a)
def zby(φ:Nat):Fsp TV:=⟨[61],[.val 6],λz=>zb6 φ z.1⟩
def zbb(φ:Nat)(a :(List Int)):Option (Int×Int×Unit):=(if((decide (((a.length:Int):Int)<1))||(decide ((64:Int)<(a.length:Int))))=true then(some (0,1,())) else((z8u φ z5e a).bind λb=>((zb6 φ b.1).bind λc=>(if(1152921504606845398:Int)≠0 then(some ((U ((c.1.tmod 1152921504606845398)+1)),0,())) else none))))
def zc5(φ:Nat):Fsp TV:=⟨[57],[.val 6,.val 0],λz=>zbb φ z.1⟩
def z8o(φ:Nat)(a :(List Int))(b:Int):Option (Int×Unit):=(ck (fits (([]:List Int).length+a.length) 1) (ck (fits ((([]:List Int)++a).length+([(IntKind.wrap .u8 (b))]).length) 1) ((z8u φ zfo ((([]:List Int)++a)++[(IntKind.wrap .u8 (b))])).bind λc=>((zbb φ ((List.range 32).map c.1)).bind λd=>(some (d.1,()))))))
def z9h(φ:Nat):Fsp TV:=⟨[57,0],[.val 6],kk2 (z8o φ)⟩
def z75(φ:Nat)(c :(Int->Int->Int->Int->Option (Int×Unit)))(b d a e:Int):Option (Int×Unit):=(ck (a≠0) (if(2:Int)≠0 then(c ((((U (b+b)):Int).tmod a)) (U (d.tdiv 2)) a e) else none))
def z2n(φ:Nat):Nat->Int->Int->Int->Int->Option (Int×Unit)
 |0,_,_,_,_=>none
 |e+1,c,a,b,d=>(if(decide ((0:Int)<a))=true then(if(2:Int)≠0 then(if(((a.tmod 2):Int)==1)=true then(ck (b≠0) (z75 φ (z2n φ e) c a b ((((U (d+c)):Int).tmod b)))) else(z75 φ (z2n φ e) c a b d)) else none) else(some (d,())))
def zan(φ:Nat)(a b c:Int):Option (Int×Unit):=(z2n φ φ a b c 0)
def zda(φ:Nat):Fsp TV:=⟨[6,6,6],[.val 6],kk3 (zan φ)⟩
def z9s(φ:Nat)(b :(Int->Int->Int->Option (Int×Unit)))(a c d:Int):Option (Int×Unit):=((zan φ a a 2305843009213690799).bind λe=>(if(2:Int)≠0 then(b e.1 (U (c.tdiv 2)) d) else none))
def z42(φ:Nat):Nat->Int->Int->Int->Option (Int×Unit)
 |0,_,_,_=>none
 |d+1,b,a,c=>(if(decide ((0:Int)<a))=true then(if(2:Int)≠0 then(if(((a.tmod 2):Int)==1)=true then((zan φ c b 2305843009213690799).bind λe=>(z9s φ (z42 φ d) b a e.1)) else(z9s φ (z42 φ d) b a c)) else none) else(some (c,())))
def zh4(φ:Nat)(a b:Int):Option (Int×Unit):=(if(2305843009213690799:Int)≠0 then(z42 φ φ (a.tmod 2305843009213690799) b 1) else none)
def zg1(φ:Nat):Fsp TV:=⟨[6,6],[.val 6],kk2 (zh4 φ)⟩
def zba(φ:Nat)(a:Int):Option (Int×Int×Unit):=(if((decide (a<1))||(decide ((1152921504606845399:Int)<=a)))=true then(some (0,30,())) else((zh4 φ 4 a).bind λb=>(some (b.1,0,()))))
def zc3(φ:Nat):Fsp TV:=⟨[6],[.val 6,.val 0],λz=>zba φ z.1⟩
def z2z(φ:Nat):Nat->Int->(Nat->Span)->(Nat->Span)->(List Int)->(List Int)->Option (z5q×Unit)
 |0,_,_,_,_,_=>none
 |d+1,a,e,b,f,c=>(if(decide (a<5))=true then(ck (rg a 7) ((z2z φ d) (W (a+1)) e (upd b (a.toNat) (⟨480,1080⟩:Span)) f c)) else(some ((⟨b,c⟩:z5q),())))
def z8n(φ:Nat):Option (z5q×Unit):=(z2z φ φ 0 (λ_=>(default:Span)) (λ_=>(default:Span)) ([]:List Int) ([]:List Int))
def z9f(φ:Nat):Fsp TV:=⟨[],[.val 23],λz=>z8n φ⟩
def z2o(φ:Nat):Nat->(List Int)->Int->Int->(List z4t)->(List Edge)->(List z0e)->(List zbg)->(List Swap)->(List Wash)->(List z4t)->(List Edge)->(List z0e)->(List zbg)->(List Swap)->(List Wash)->(List z7j)->(List z4b)->(List z0k)->(List z7j)->(List z4b)->(List z0k)->Option (Pool×Unit)
 |0,_,_,_,_,_,_,_,_,_,_,_,_,_,_,_,_,_,_,_,_,_=>none
 |o+1,e,f,a,g,h,i,j,k,l,p,q,r,s,t,u,v,w,x,b,c,d=>(if(decide (a<f))=true then((z8o φ e a).bind λy=>((zba φ y.1).bind λm=>(ck (fits (b.length+([(⟨W (3*a),-5,5⟩:z7j)]).length) 24) (ck (fits (c.length+([(⟨W ((W (3*a))+1)⟩:z4b)]).length) 8) ((z8n φ).bind λn=>(ck (fits (d.length+([(⟨m.1,n.1⟩:z0k)]).length) 144) ((z2o φ o) e f (W (a+1)) g h i j k l p q r s t u v w x (b++[(⟨W (3*a),-5,5⟩:z7j)]) ((c++[(⟨W ((W (3*a))+1)⟩:z4b)])) (d++[(⟨m.1,n.1⟩:z0k)])))))))) else(some ((⟨(⟨g,h⟩:z00),(⟨i,j,k,l⟩:z3m),b,c,d⟩:Pool),())))
def z6e(φ:Nat)(d :(List Int))(b e:Int):Option (Pool×Unit):=((z4s φ b).bind λc=>((z78 φ b e).bind λa=>(z2o φ φ d b 0 c.1.places c.1.edges a.1.types a.1.wagons a.1.swaps a.1.washes ([]:List z4t) ([]:List Edge) ([]:List z0e) ([]:List zbg) ([]:List Swap) ([]:List Wash) ([]:List z7j) ([]:List z4b) ([]:List z0k) ([]:List z7j) ([]:List z4b) ([]:List z0k))))
def zbd(φ:Nat):Fsp TV:=⟨[57,0,0],[.val 26],kk3 (z6e φ)⟩
def z7h(φ:Nat):Option (Bool×Unit):=((z6e φ ([1]) 2 1).bind λb=>((z2j φ b.1 ([(⟨0,-1,0,0,1⟩:zc)]) ([(⟨0,0,1,0,60,1,1000⟩:zl)])).bind λa=>(ck ((((a.2.1==0)&&(((a.1.transfers.length:Int):Int)==1))=true)->rg 0 a.1.transfers.length) (some (((((a.2.1==0)&&(((a.1.transfers.length:Int):Int)==1))&&(((gt a.1.transfers 0).count:Int)==1))&&((a.1.cost:Int)==30)),())))))
def z89(φ:Nat):Fsp TV:=⟨[],[.val 27],λz=>z7h φ⟩
def z23(φ:Nat):Nat->(List zl)->Int->Int->Int->(List Int)->Option (Int×Bool×Unit)
 |0,_,_,_,_,_=>none
 |f+1,b,d,e,a,c=>(if(decide (a<e))=true then(ck (rg a c.length) (ck (rg a b.length) ((z23 φ f) b ((W (d+(W ((gt c a)*(gt b a).weight))))) e (W (a+1)) c))) else(some (d,true,())))
def z4a(φ:Nat):Nat->(List zc)->(List zl)->Int->(List zi)->Int->Int->Pool->(List Int)->(List Int)->Option (Int×Bool×Unit)
 |0,_,_,_,_,_,_,_,_,_=>none
 |k+1,f,c,h,b,i,a,j,d,e=>(if(decide (a<i))=true then(ck (rg a b.length) (ck (((((((decide (((gt b a).supply:Int)<0))||(decide (((f.length:Int):Int)<=(gt b a).supply)))||(decide (((gt b a).order:Int)<0)))||(decide (((c.length:Int):Int)<=(gt b a).order)))||(decide (((gt b a).count:Int)<0)))=false)->rg (gt b a).supply d.length) (ck ((((((((decide (((gt b a).supply:Int)<0))||(decide (((f.length:Int):Int)<=(gt b a).supply)))||(decide (((gt b a).order:Int)<0)))||(decide (((c.length:Int):Int)<=(gt b a).order)))||(decide (((gt b a).count:Int)<0)))||(decide (((gt d ((gt b a).supply)):Int)<(gt b a).count)))=false)->rg (gt b a).order e.length) (if(((((((decide (((gt b a).supply:Int)<0))||(decide (((f.length:Int):Int)<=(gt b a).supply)))||(decide (((gt b a).order:Int)<0)))||(decide (((c.length:Int):Int)<=(gt b a).order)))||(decide (((gt b a).count:Int)<0)))||(decide (((gt d ((gt b a).supply)):Int)<(gt b a).count)))||(decide (((gt e ((gt b a).order)):Int)<(gt b a).count)))=true then(some (0,false,())) else(ck (rg (gt b a).supply f.length) (ck (rg (gt b a).order c.length) ((z8q φ j (gt f ((gt b a).supply)) (gt c ((gt b a).order))).bind λg=>(if((!g.2.1)||(g.2.2.1 !=0))=true then(some (0,false,())) else(ck (rg (gt b a).supply d.length) (ck (rg (gt b a).supply d.length) (ck (rg (gt b a).order e.length) (ck (rg (gt b a).order e.length) ((z4a φ k) f c ((W (h+(W (g.1*(gt b a).count))))) b i (W (a+1)) j ((zu d ((gt b a).supply) ((W ((gt d ((gt b a).supply))-(gt b a).count))))) ((zu e ((gt b a).order) ((W ((gt e ((gt b a).order))-(gt b a).count)))))))))))))))))) else(z23 φ φ c h (c.length:Int) 0 e))
def z2r(φ:Nat):Nat->(List zc)->(List zl)->(List zi)->Int->Int->Pool->(List Int)->(List Int)->Option (Int×Bool×Unit)
 |0,_,_,_,_,_,_,_,_=>none
 |i+1,e,b,c,f,a,g,h,d=>(if(decide (a<f))=true then(ck (rg a b.length) (ck (rg a d.length) ((z2r φ i) e b c f (W (a+1)) g h (zu d a ((gt b a).count))))) else(z4a φ φ e b 0 c (c.length:Int) 0 g h d))
def z2q(φ:Nat):Nat->(List zc)->(List zl)->(List zi)->Int->Int->Pool->(List Int)->(List Int)->Option (Int×Bool×Unit)
 |0,_,_,_,_,_,_,_,_=>none
 |i+1,b,c,e,f,a,g,d,h=>(if(decide (a<f))=true then(ck (rg a b.length) (ck (rg a d.length) ((z2q φ i) b c e f (W (a+1)) g (zu d a ((gt b a).count)) h))) else(z2r φ φ b c e (c.length:Int) 0 g d h))
def z87(φ:Nat)(c:Pool)(a :(List zc))(b :(List zl))(d :(List zi)):Option (Int×Bool×Unit):=(ck (zb (a.length:Int) 8) (ck (zb (b.length:Int) 8) (z2q φ φ a b d (a.length:Int) 0 c (List.replicate ((a.length:Int):Int).toNat (default:Int)) (List.replicate ((b.length:Int):Int).toNat (default:Int)))))
def zex(φ:Nat):Fsp TV:=⟨[26,36,37,46],[.val 0,.val 27],kk4 (z87 φ)⟩
def zar(φ:Nat)(a :(List Int)):Option ((List Int)×Unit):=(ck (a.isEmpty=false) (ck (fits (([]:List Int).length+a.length) 8) (some ((([]:List Int)++a),()))))
def z85(φ:Nat):Fsp TV:=⟨[22],[.row 3 0],λz=>zar φ z.1⟩
def z2f(φ:Nat)(e :((List zc)->(List zi)->Int->(List Arc)->Int->Int->(List Int)->(List Int)->Option ((List Int)×Bool×Unit)))(f :(List zc))(g :(List zi))(h c:Int)(i :(List Arc))(j k:Int)(d b :(List Int))(a:Arc):Option ((List Int)×Bool×Unit):=(ck (rg a.from_ b.length) (ck (rg a.from_ b.length) (ck (rg a.to (((zu b a.from_ (W ((gt b a.from_)-c)))).length)) (ck (rg a.to (((zu b a.from_ (W ((gt b a.from_)-c)))).length)) (ck (fits (d.length+([c]).length) 8) (e f g h i j (W (k+1)) (d++[c]) ((zu ((zu b a.from_ (W ((gt b a.from_)-c)))) a.to ((W ((gt ((zu b a.from_ (W ((gt b a.from_)-c)))) a.to)+c)))))))))))
def zx(φ:Nat):Nat->(List zc)->(List zi)->Int->(List Arc)->Int->Int->(List Int)->(List Int)->Option ((List Int)×Bool×Unit)
 |0,_,_,_,_,_,_,_,_=>none
 |i+1,f,b,e,c,g,a,h,d=>(if(decide (a<g))=true then(ck (rg a c.length) (if((decide (((gt c a).from_:Int)<(f.length:Int)))&&(decide (((gt c a).to:Int)<e)))=true then(ck (((decide ((0:Int)<(b.length:Int)))=true)->rg 0 b.length) (ck ((((decide ((0:Int)<(b.length:Int)))&&(((gt b 0).supply:Int)==(gt c a).from_))=true)->rg 0 b.length) (if(((decide ((0:Int)<(b.length:Int)))&&(((gt b 0).supply:Int)==(gt c a).from_))&&(((gt b 0).order:Int)==(W ((gt c a).to-(f.length:Int)))))=true then(ck (rg 0 b.length) (ck (((decide (((gt b 0).count:Int)<1))=false)->rg (gt c a).from_ d.length) (ck ((((decide (((gt b 0).count:Int)<1))||(decide (((gt d ((gt c a).from_)):Int)<(gt b 0).count)))=false)->rg (gt c a).to d.length) (if(((decide (((gt b 0).count:Int)<1))||(decide (((gt d ((gt c a).from_)):Int)<(gt b 0).count)))||(decide (((W (0-(gt d ((gt c a).to)))):Int)<(gt b 0).count)))=true then(some (([]:List Int),false,())) else(ck ((0:Int)<=1/\1<=(b.length:Int)/\(b.length:Int)<=(b.length:Int)) (z2f φ (zx φ i) f (z3y b (1:Int).toNat ((b.length:Int):Int).toNat) e ((gt b 0).count) c g a h d (gt c a))))))) else(z2f φ (zx φ i) f b e 0 c g a h d (gt c a))))) else(if((((gt c a).from_:Int)==e)&&(decide (((gt c a).to:Int)<e)))=true then(ck (rg (gt c a).to d.length) (z2f φ (zx φ i) f b e ((W (0-(gt d ((gt c a).to))))) c g a h d (gt c a))) else(ck (rg (gt c a).from_ d.length) (z2f φ (zx φ i) f b e (gt d ((gt c a).from_)) c g a h d (gt c a)))))) else(some (h,(((b.length:Int):Int)==0),())))
def z6b(φ:Nat)(a:zh)(b :(List zc))(c :(List zl))(d :(List zi)):Option ((List Int)×Bool×Unit):=((zar φ a.supply).bind λe=>(zx φ φ b d (W ((b.length:Int)+(c.length:Int))) a.arcs (a.arcs.length:Int) 0 ([]:List Int) e.1))
def zbk(φ:Nat):Fsp TV:=⟨[40,36,37,46],[.val 22,.val 27],kk4 (z6b φ)⟩
def z1f(φ:Nat):Nat->(List Arc)->Int->Int->Flow->Option (Int×Unit)
 |0,_,_,_,_=>none
 |e+1,b,d,a,c=>(if(decide (a<d))=true then(ck (rg a b.length) (ck (rg (gt b a).from_ c.price.length) (ck (rg (gt b a).to c.price.length) (ck (rg a c.x.length) (ck ((((decide (((gt c.x a):Int)<(gt b a).cap))&&(decide (((W ((W ((gt b a).cost+(gt c.price ((gt b a).from_))))-(gt c.price ((gt b a).to)))):Int)<0)))=false)->rg a c.x.length) (if(((decide (((gt c.x a):Int)<(gt b a).cap))&&(decide (((W ((W ((gt b a).cost+(gt c.price ((gt b a).from_))))-(gt c.price ((gt b a).to)))):Int)<0)))||((decide ((0:Int)<(gt c.x a)))&&(decide ((0:Int)<(W ((W ((gt b a).cost+(gt c.price ((gt b a).from_))))-(gt c.price ((gt b a).to))))))))=true then(some (361,())) else((z1f φ e) b d (W (a+1)) c))))))) else(some (0,())))
def z31(φ:Nat):Nat->(List Int)->Int->Int->zh->Flow->Option (Int×Unit)
 |0,_,_,_,_,_=>none
 |f+1,b,d,a,c,e=>(if(decide (a<d))=true then(ck (rg a b.length) ((z3g φ (gt b a) (-1125899906842624) 1125899906842624).bind λg=>(if(!g.1)=true then(some (361,())) else((z31 φ f) b d (W (a+1)) c e)))) else(z1f φ φ c.arcs (c.arcs.length:Int) 0 e))
def zcw(φ:Nat)(b:zh)(a:Flow):Option (Int×Unit):=((z9u φ b).bind λc=>(if(c.1 !=0)=true then(some (c.1,())) else((z6u φ b a).bind λd=>(if(!d.1)=true then(some (360,())) else(if(((a.price.length:Int):Int) !=(b.supply.length:Int))=true then(some (361,())) else(z31 φ φ a.price (a.price.length:Int) 0 b a))))))
def zcy(φ:Nat):Fsp TV:=⟨[40,41],[.val 0],kk2 (zcw φ)⟩
def z3i(φ:Nat)(g:Pool)(d :(List zc))(e :(List zl))(b:Plan):Option (Int×Unit):=((z4l φ g d e).bind λa=>(if(a.2.1 !=0)=true then(some (a.2.1,())) else((z6b φ a.1 d e b.transfers).bind λc=>((z0u (default,()) ((!c.2.1)=false) (zcw φ a.1 (⟨c.1,b.price⟩:Flow))).bind λh=>(if((!c.2.1)||(h.1 !=0))=true then(some (370,())) else((ze9 φ a.1 (⟨c.1,b.price⟩:Flow)).bind λf=>(if((f.2.1 !=0)||(f.1 !=b.cost))=true then(some (370,())) else(some (0,())))))))))
def z5u(φ:Nat):Fsp TV:=⟨[26,36,37,47],[.val 0],kk4 (z3i φ)⟩
def z5l(φ:Nat)(b:Pool)(c :(List zc))(d :(List zl))(e:Plan):Option (Plan×Int×Unit):=((z3i φ b c d e).bind λa=>(if(a.1==0)=true then(some (e,0,())) else(if(a.1==370)=true then((z2j φ b c d).bind λf=>(some (f.1,f.2.1,()))) else(some ((⟨([]:List zi),0,([]:List Int)⟩:Plan),a.1,())))))
def z96(φ:Nat):Fsp TV:=⟨[26,36,37,47],[.val 47,.val 0],kk4 (z5l φ)⟩
def z0s(φ:Nat):Nat->Int->Int->Plan->Plan->Option (Bool×Unit)
 |0,_,_,_,_=>none
 |e+1,d,a,b,c=>(if(decide (a<d))=true then(ck (rg a c.transfers.length) (ck (rg a b.transfers.length) (if(!((((gt c.transfers a).supply:Int)==(gt b.transfers a).supply)&&((((gt c.transfers a).order:Int)==(gt b.transfers a).order)&&((((gt c.transfers a).count:Int)==(gt b.transfers a).count)&&true))))=true then(some (false,())) else((z0s φ e) d (W (a+1)) b c)))) else(some (true,())))
def z20(φ:Nat):Nat->(List Int)->Int->(List zc)->(List zl)->(List zi)->(List zl)->Int->Int->Option (Bool×Unit)
 |0,_,_,_,_,_,_,_,_=>none
 |n+1,i,j,c,d,k,e,l,b=>(if(decide (b<l))=true then(ck (rg b e.length) (if((((decide (((gt e b).count:Int)<0))||(decide ((1000:Int)<(gt e b).count)))||(decide (((gt e b).weight:Int)<0)))||(decide ((1000000000:Int)<(gt e b).weight)))=true then(some (true,())) else((z20 φ n) i j c d k e l (W (b+1))))) else((z6e φ i j 3).bind λf=>((z2j φ f.1 c d).bind λa=>(if(a.2.1 !=0)=true then(some ((((a.1.transfers.length:Int):Int)==0),())) else((z87 φ f.1 c d a.1.transfers).bind λg=>((z0u (default,()) (((!g.2.1)||(g.1 !=a.1.cost))=false) (z3i φ f.1 c d a.1)).bind λo=>(if(((!g.2.1)||(g.1 !=a.1.cost))||(o.1 !=0))=true then(some (false,())) else((z87 φ f.1 c d k).bind λm=>(if(m.2.1&&(decide (m.1<g.1)))=true then(some (false,())) else((z5l φ f.1 c d a.1).bind λh=>(if(((h.2.1 !=0)||((h.1.cost:Int) !=a.1.cost))||(((h.1.transfers.length:Int):Int) !=(a.1.transfers.length:Int)))=true then(some (false,())) else(z0s φ φ (h.1.transfers.length:Int) 0 a.1 h.1))))))))))))
def z1z(φ:Nat):Nat->(List Int)->Int->(List zc)->(List zl)->(List zi)->(List zc)->Int->Int->Option (Bool×Unit)
 |0,_,_,_,_,_,_,_,_=>none
 |i+1,d,e,f,b,g,c,h,a=>(if(decide (a<h))=true then(ck (rg a c.length) (if((decide (((gt c a).count:Int)<0))||(decide ((1000:Int)<(gt c a).count)))=true then(some (true,())) else((z1z φ i) d e f b g c h (W (a+1))))) else(z20 φ φ d e f b g b (b.length:Int) 0))
def z7g(φ:Nat)(b :(List Int))(c:Int)(a :(List zc))(d :(List zl))(e :(List zi)):Option (Bool×Unit):=((z7h φ).bind λf=>(if(!f.1)=true then(some (false,())) else(if(((((((decide (((b.length:Int):Int)<1))||(decide ((32:Int)<(b.length:Int))))||(decide (c<2)))||(decide ((3:Int)<c)))||(decide ((5:Int)<(a.length:Int))))||(decide ((5:Int)<(d.length:Int))))||(decide ((20:Int)<(e.length:Int))))=true then(some (true,())) else(z1z φ φ b c a d e a (a.length:Int) 0))))
def z5a(φ:Nat):Fsp TV:=⟨[57,0,36,37,46],[.val 27],kk5 (z7g φ)⟩
def z2c(φ:Nat):Nat->(List zl)->Int->Int->(List Int)->Option (Int×Bool×Unit)
 |0,_,_,_,_=>none
 |e+1,b,d,a,c=>(if(decide (a<(b.length:Int)))=true then(ck (rg a c.length) (ck (rg a b.length) ((z2c φ e) b ((W (d+(W ((gt c a)*(gt b a).weight))))) (W (a+1)) c))) else(some (d,true,())))
def z4p(φ:Nat):Nat->(List zc)->(List zl)->(List zi)->Int->Int->Pool->(List Int)->(List Int)->Option (Int×Bool×Unit)
 |0,_,_,_,_,_,_,_,_=>none
 |j+1,g,f,a,h,b,i,d,e=>(if(decide (b<(a.length:Int)))=true then(ck (rg b a.length) (if((((decide (((gt a b).supply:Int)<0))||(decide (((g.length:Int):Int)<=(gt a b).supply)))||(decide (((gt a b).order:Int)<0)))||(decide (((f.length:Int):Int)<=(gt a b).order)))=true then(some (0,false,())) else(ck (rg (gt a b).supply g.length) (ck (rg (gt a b).order f.length) ((z8q φ i (gt g ((gt a b).supply)) (gt f ((gt a b).order))).bind λc=>(ck (((((((!c.2.1)||(c.2.2.1 !=0))||(decide (c.1<0)))||(decide ((1000000000:Int)<c.1)))||(decide (((gt a b).count:Int)<0)))=false)->rg (gt a b).supply d.length) (ck ((((((((!c.2.1)||(c.2.2.1 !=0))||(decide (c.1<0)))||(decide ((1000000000:Int)<c.1)))||(decide (((gt a b).count:Int)<0)))||(decide (((gt d ((gt a b).supply)):Int)<(gt a b).count)))=false)->rg (gt a b).order e.length) (if(((((((!c.2.1)||(c.2.2.1 !=0))||(decide (c.1<0)))||(decide ((1000000000:Int)<c.1)))||(decide (((gt a b).count:Int)<0)))||(decide (((gt d ((gt a b).supply)):Int)<(gt a b).count)))||(decide (((gt e ((gt a b).order)):Int)<(gt a b).count)))=true then(some (0,false,())) else(ck (rg (gt a b).supply d.length) (ck (rg (gt a b).supply d.length) (ck (rg (gt a b).order e.length) (ck (rg (gt a b).order e.length) ((z4p φ j) g f a ((W (h+(W (c.1*(gt a b).count))))) (W (b+1)) i ((zu d ((gt a b).supply) ((W ((gt d ((gt a b).supply))-(gt a b).count))))) ((zu e ((gt a b).order) ((W ((gt e ((gt a b).order))-(gt a b).count)))))))))))))))))) else(z2c φ φ f h 0 e))
def z34(φ:Nat):Nat->(List zc)->(List zl)->(List zi)->Int->Pool->(List Int)->(List Int)->Option (Int×Bool×Unit)
 |0,_,_,_,_,_,_,_=>none
 |h+1,d,a,e,b,f,g,c=>(if(decide (b<(a.length:Int)))=true then(ck (rg b a.length) (ck (fits (c.length+([(gt a b).count]).length) 8) ((z34 φ h) d a e (W (b+1)) f g (c++[(gt a b).count])))) else(z4p φ φ d a e 0 0 f g c))
def z33(φ:Nat):Nat->(List zc)->(List zl)->(List zi)->Int->Pool->(List Int)->Option (Int×Bool×Unit)
 |0,_,_,_,_,_,_=>none
 |g+1,a,d,e,b,f,c=>(if(decide (b<(a.length:Int)))=true then(ck (rg b a.length) (ck (fits (c.length+([(gt a b).count]).length) 8) ((z33 φ g) a d e (W (b+1)) f (c++[(gt a b).count])))) else(z34 φ φ a d e 0 f c ([]:List Int)))
def z65(φ:Nat)(a:Pool)(b :(List zc))(c :(List zl))(d :(List zi)):Option (Int×Bool×Unit):=(z33 φ φ b c d 0 a ([]:List Int))
end Px
end
