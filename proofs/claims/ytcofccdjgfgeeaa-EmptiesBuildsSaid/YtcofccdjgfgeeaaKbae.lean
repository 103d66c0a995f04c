/- A part of the proof of emptiesBuilds_holds. Conditions: none. -/
import Derived.Test.YtcofccdjgfgeeaaKbad
import Derived.Shelf.SlSortCmp.NoneTotal
import Derived.Shelf.Sort.Plain
import Derived.Shelf.Slices.In.SortNone
set_option linter.unusedVariables false
set_option linter.unusedSimpArgs false
section
namespace Px
open Go Go.RowKit
section cells
variable{T:Nat->Type}
end cells
section
variable(V:TE)
variable{V}
end
theorem zxx{r:Nat->Prop}{w:World}: ∀{us vs:List Value},zo r w (us.map eqv) vs->vs=us
 |us,vs,⟨hl,h⟩=>by
  refine w35 λi=>?_
  by_cases hi:i<us.length
  .obtain⟨u,hu,he,_⟩:=h i (eqv us[i]) (by simp[hi]);rw[hu,w0b hi];exact congrArg some he
  .have hl':us.length=vs.length:=by simpa using hl
   rw[w1j (show us.length<=i by omega),w1j (show vs.length<=i by omega)]
theorem zxz{r:Nat->Prop}{w:World}{us:List Value}(h:∀v∈us,v.oneCell'=true):zo r w (us.map eqv) us:=by refine⟨by simp,λj A hj=>?_⟩;simp only[w19,w1a] at hj;obtain⟨u,hu,rfl⟩:=hj;exact⟨u,hu,rfl,h u (w0y hu)⟩
theorem y0r{w:World}{g:Nat}{cur:Array Value}{E:TypeId}{F:Array Value}(hh:w.heap[g]? = some (.cells cur E (0,0)))(hF:cur.toList.take F.size=F.toList):Sort.Holds id w g 0 F:=by
 intro j hj;have h1:cur[j]? = some F[j]:=by
  have :(cur.toList.take F.size)[j]? = F.toList[j]?:=by rw[hF]
  rw[w0o,if_pos hj] at this;simpa[hj] using this
 rw[getElem!_pos F j hj];refine⟨?_,?_⟩
 .unfold World.cell?;rw[hh];simpa using h1
 .unfold World.frozen?;rw[hh];simp
theorem zyx{w:World}{g n:Nat}{cur:Array Value}{E:TypeId}{F:Array Value}{os:Array Obj}(hh:w.heap[g]? = some (.cells cur E (0,0)))(hs:F.size<=cur.size):
  ∃cur',(Sort.grow (Sort.putRow id (Sort.ahead w n) g 0 F) os).heap[g]? = some (.cells cur' E (0,0))/\cur'.size=cur.size/\cur'.toList.take F.size=F.toList:=by
 have hlt:g<w.heap.size:=(w1w.1 hh).1;refine⟨Sort.putCells id 0 F cur,?_,by simp[Sort.putCells],?_⟩
 .simp only[Sort.grow,Sort.putRow,Sort.mapBlock,Sort.ahead];rw[w10,if_pos (by simpa using hlt),Array.getElem?_modify,if_pos rfl,hh];rfl
 .refine w35 λj=>?_
  rw[w0o];by_cases hj:j<F.size
  .rw[if_pos hj];have:j<cur.size:=by omega
   simp[Sort.putCells,this,hj]
  .rw[if_neg hj,w1j (by simpa using hj)]
theorem ztl{w:World}{g n b:Nat}{F:Array Value}{os:Array Obj}(hb:b<w.heap.size)(hg:b≠g):(Sort.grow (Sort.putRow id (Sort.ahead w n) g 0 F) os).heap[b]? = w.heap[b]?:=by simp only[Sort.grow,Sort.putRow,Sort.mapBlock,Sort.ahead];rw[w10,if_pos (by simpa using hb),Array.getElem?_modify,if_neg (λe=>hg e.symm)]
theorem y6h[Dr]{P:Program}{f:FuncId}{args:List VP}{vs0:List Value}{α:Type}{E:TypeId}{e:α->List VP}{ce:α->List Value}{k:Nat}{l l':List α}{sv:Value}
  (he:∀x∈l,e x =(ce x).map eqv) (he':∀x∈l',e x =(ce x).map eqv) (hone:∀x∈l',∀v∈ce x,v.oneCell'=true) (hk:∀x∈l,(ce x).length=k) (hk':∀x∈l',(ce x).length=k) (hlen:l'.length=l.length) (hargs:args=vs0.map eqv)
  (hnil:l = []->∀p cap w,Calls P f (#[.slice p 0 cap]++vs0.toArray) w λe w'=>e = .returned (.tuple #[])/\w'=w)
  (hrun:l≠[]->∀g cap w,g<w.heap.size->(∀F:Array Value,F.toList=l.flatMap ce->Sort.Holds id w g 0 F)->
   Calls P f (#[.slice (some ⟨g,0,none⟩) l.length cap]++vs0.toArray) w λe w'=>e = .returned (.tuple #[])/\∃n os F,F.toList=l'.flatMap ce/\w'=Sort.grow (Sort.putRow id (Sort.ahead w n) g 0 F) os) :
  MutT P f (eqv sv::args) E e k l sv λx l2=>x=eqv (.tuple #[])/\l2=l':=by
 intro w0 base r S w vs hw hl hA;have hvs:vs = #[sv]++vs0.toArray:=by
  have hsz:vs.size=1+vs0.length:=by rw[hl,hargs];simp;omega
  refine Array.ext (by rw[hsz];simp[w4z]) λi h1 h2=>?_
  cases i with
  |zero=>have:=hA 0 (eqv sv) rfl;simp only[w06,w26 h1,w14] at this;have this:vs[0]=sv:=this;rw[this,Array.getElem_append_left (by simp)];rfl
  |succ i=>
   have hi:i<vs0.length:=by omega
   have:=hA (i+1) (eqv vs0[i]) (by rw[hargs];simp[hi]);simp only[w06,w26 h1,w14] at this;rw[this];rw[Array.getElem_append_right (by simp)];simp
 subst hvs;have hrow:=hw.obj 0 _ rfl;have hfm:l.flatMap e =(l.flatMap ce).map eqv:=by
  rw[List.map_flatMap];clear hnil hrun hrow hk hlen hw
  induction l with
  |nil=>rfl
  |cons x l ih=>rw[w0n,w0n,he x (w0m),ih (λy hy=>he y (w09 _ hy))]
 have hfm':l'.flatMap e =(l'.flatMap ce).map eqv:=by
  rw[List.map_flatMap];clear hnil hrun hrow hk hk' hlen hw hone
  induction l' with
  |nil=>rfl
  |cons x l' ih=>rw[w0n,w0n,he' x (w0m),ih (λy hy=>he' y (w09 _ hy))]
 have hfl:∀m:List α,(∀x∈m,(ce x).length=k)->(m.flatMap ce).length=m.length*k:=by
  intro m
  induction m with
  |nil=>intro _;simp
  |cons x m ih=>intro h;rw[w0n,w0i,h x (w0m),ih (λy hy=>h y (w09 _ hy)),w12,w1f];omega
 by_cases h0:l = []
 .have hl0:l' = []:=w13 (by rw[hlen,h0];rfl);have hslice:∃p cap,sv = .slice p 0 cap:=by
   rcases hrow with⟨rfl,_⟩|⟨g,cap,cur,rfl,_⟩
   .exact⟨_,_,rfl⟩
   .rw[h0];exact⟨_,_,rfl⟩
  obtain⟨p,cap,rfl⟩:=hslice;refine(hnil h0 p cap w).mono ?_;rintro en w' ⟨rfl,rfl⟩;refine⟨_,eqv (.tuple #[]),_,r,S,rfl,Evo.refl _ _ _,hw,rfl,l',?_,rfl,rfl⟩;rw[h0,hl0]
 .rcases hrow with⟨_,rfl⟩|⟨g,cap,cur,rfl,hS,hcur,hle,hmax,hsz,hc⟩
  .exact absurd rfl h0
  .have hlt:=(w1w.1 hcur).1;rw[hfm] at hc;have hc:=zxx hc;refine(hrun h0 g cap w hlt λF hF=>y0r hcur ?_).mono ?_
   .have:F.size=l.length*k:=by rw[<- Array.length_toList,hF,hfl l hk]
    rw[this,hc,hF]
   .rintro en w' ⟨rfl,n,os,F,hF,rfl⟩;have hFs:F.size=l.length*k:=by rw[<- Array.length_toList,hF,hfl l' hk',hlen]
    have hb:∀b,b<w.heap.size->¬S 0 b->(Sort.grow (Sort.putRow id (Sort.ahead w n) g 0 F) os).heap[b]? = w.heap[b]?:=λb hb hs=>ztl hb (λe=>hs (e ▸ hS))
    obtain⟨cur',hcur',hsz',htk⟩:=zyx (n:=n) (os:=os) (F:=F) hcur (by rw[hFs,hsz];exact w16 _ hle);refine⟨_,eqv (.tuple #[]),_,r,_,rfl,hw.evo_repl 0 hb,hw.repl 0 (row E e k l' (.slice (some ⟨g,0,none⟩) l.length cap)) (S 0) (by simp) rfl ⟨rfl,Nat.le_add_right _ _⟩ rfl (by simp[Sort.grow,Sort.putRow,Sort.mapBlock,Sort.ahead]) hb (λb hb'=>?_) ?_,rfl,l',rfl,rfl,rfl⟩
    .obtain⟨_,h2,h3,h4⟩:=hw.own 0 b hb';refine⟨h2,?_,h4,λj hj hs=>hj (hw.apart j 0 b hs hb')⟩;simp[Sort.grow,Sort.putRow,Sort.mapBlock,Sort.ahead];omega
    .refine .inr ⟨g,cap,cur',by rw[hlen],hS,hcur',by omega,hmax,by omega,?_⟩;rw[hlen,<- hFs,htk,hF,hfm'];exact zxz λv hv=>by obtain⟨x,hx,hxv⟩:=w1m.1 hv;exact hone x hx v hxv
def insL{α:Type}(lt:α->α->Bool)(x:α):List α->List α
 | []=>[x]
 |y::l=>bif lt y x then y::insL lt x l else x::y::l
def zqe{α:Type}(lt:α->α->Bool):List α->List α
 | []=>[]
 |x::l=>insL lt x (zqe lt l)
theorem zm1{α:Type}(lt:α->α->Bool)(x:α):∀l:List α,(insL lt x l).Perm (x::l)
 | []=>List.Perm.refl _
 |y::l=>by
  simp only[insL];cases lt y x with
  |true=>exact((zm1 lt x l).cons y).trans (List.Perm.swap x y l)
  |false=>exact List.Perm.refl _
theorem z9z{α:Type}(lt:α->α->Bool):∀l:List α,(zqe lt l).Perm l
 | []=>List.Perm.refl _
 |x::l=>(zm1 lt x _).trans ((z9z lt l).cons x)
theorem zm2{α:Type}{lt:α->α->Bool}(hO:Sort.SWO lt)(x:α):∀l:List α,l.Pairwise (λa b=>lt b a=false)->(insL lt x l).Pairwise λa b=>lt b a=false
 | [],_=>w3e _ _
 |y::l,h=>by
  rw[w24] at h;simp only[insL];cases hl:lt y x with
  |true=>
   simp only[cond_true,w24];refine⟨λz hz=>?_,zm2 hO x l h.2⟩;rcases w0c.1 ((zm1 lt x l).mem_iff.1 hz) with rfl|hz
   .cases hx:lt z y with
    |false=>rfl
    |true=>have:=hO.trans _ _ _ hl hx;rw[hO.irrefl] at this;cases this
   .exact h.1 z hz
  |false=>
   simp only[cond_false,w24];refine⟨λz hz=>?_,h.1,h.2⟩;rcases w0c.1 hz with rfl|hz
   .exact hl
   .exact hO.ntrans _ _ _ (h.1 z hz) hl
theorem zje{α:Type}{lt:α->α->Bool}(hO:Sort.SWO lt):∀l:List α,(zqe lt l).Pairwise λa b=>lt b a=false
 | []=>List.Pairwise.nil
 |x::l=>zm2 hO x _ (zje hO l)
theorem y0q{α:Type}[Inhabited α]{enc:α->Value}{w:World}{b o:Nat}{d:Array α}(h:Sort.Holds id w b o (d.map enc)):Sort.Holds enc w b o d:=by intro j hj;have:=h j (by simpa using hj);rw[getElem!_pos _ j (by simpa using hj)] at this;rw[getElem!_pos d j hj];simpa using this
theorem zyk{α:Type}[Inhabited α]{enc:α->Value}{w:World}{b o:Nat}{d:Array α}: Sort.putRow enc w b o d=Sort.putRow id w b o (d.map enc):=by
 unfold Sort.putRow;congr 1;funext cur;unfold Sort.putCells;congr 1;funext k x;simp only[Array.size_map];split
 .rename_i h;have h1:k-o<d.size:=by omega
  rw[getElem!_pos d _ h1,getElem!_pos _ _ (by simpa using h1)];simp
 .rfl
def zkv(l:List Int):Option (List Int):=if l.length<4611686018427387904 then some (zqe (λa b=>decide (a<b)) l) else none
theorem ybz:Sort.SWO (λa b:Int=>decide (a<b)) where
 irrefl:=λx=>by simp
 trans:=λx y z h1 h2=>by simp at *;omega
 ntrans:=λx y z h1 h2=>by simp at *;omega
theorem zup(l:List Int):l.mergeSort (λx y=>decide (x<=y))=zqe (λa b=>decide (a<b)) l:=by
 refine List.Perm.eq_of_pairwise (le:=λa b:Int=>a<=b) (λa b _ _ h1 h2=>by omega) ?_ ?_ ((List.mergeSort_perm _ _).trans (z9z _ _).symm)
 .have:=List.pairwise_mergeSort (le:=λx y:Int=>decide (x<=y)) (by intro a b c h1 h2;simp at *;omega) (by intro a b;simp;omega) l
  exact this.imp λh=>by simpa using h
 .exact(zje ybz l).imp λh=>by simpa using h
theorem ztk[Dr]{P:Program}{ρ:Shelf.Ren}(L:Proofs.Lays.n189 P ρ){E:Nat}{l l':List Int}{sv:Value}(hF:zkv l=some l'):MutT P (ρ.f 189) [eqv sv] E (λn:Int=>[iv .i64 n]) 1 l sv λx l2=>x=eqv (.tuple #[])/\l2=l':=by
 unfold zkv at hF;split at hF
 .rename_i hl;have:=w0f hF;subst this;have hfm:∀q:List Int,q.flatMap (λn=>[Value.int .i64 n])=q.map (Value.int .i64):=λq=>by induction q with
   |nil=>rfl
   |cons x q ih=>rw[w0n,ih];rfl
  refine y6h (args:=[]) (vs0:=[]) (ce:=λn=>[.int .i64 n]) (λx _=>rfl) (λx _=>rfl) (λx _ v hv=>by simp only[w0d] at hv;subst hv;rfl) (λx _=>rfl) (λx _=>rfl) (z9z _ _).length_eq rfl ?_ ?_
  .intro _ p cap w;exact Proofs.Any.slices_Sort_int_none L p cap w
  .intro hne b cap w hlt hH;refine(Proofs.Any.slices_Sort_int L b 0 cap l w (y0q (hH _ ?_)) hlt hl).mono ?_
   .rw[hfm];simp
   .rintro e w' ⟨rfl,n,os,rfl⟩;refine⟨rfl,n,os,_,?_,by rw[zyk]⟩;rw[hfm,zup];simp
 .cases hF
end Px
end
section
namespace Px
open Go Go.RowKit Go.ChangeShapes Go.WideShapes Go.ChangeAt
section
variable{T:Nat->Type}
def rT(g :(c:Nat)->T c->Prop):(fs:List Nat)->Tup T fs->Prop
 | [],_=>True
 | [c],x=>g c x.1
 |c::cs,x=>g c x.1/\rT g cs x.2
def rD(g :(c:Nat)->T c->Prop): {α:Type}->Ds T α->α->Prop
 |_,.int k,x=>RI k x
 |_,.bool,_=>True
 |_,.str,x=>x.size<=maxLen
 |_,.sl c,x=>RL (g c) x
 |_,.map _ _,_=>True
 |_,.arr n c,x=>∀i,i<n->g c (x i)
 |_,.st fs _ un _,x=>rT g fs (un x)
theorem ybl{g :(c:Nat)->T c->Prop}{c:Nat}: ∀{cs:List Nat}{x:T c×Tup T cs},g c x.1->rT g cs x.2->rT g (c::cs) x
 | [],_,h,_=>h
 |_::_,_,h,k=>⟨h,k⟩
end
section
variable(V:TE)(P:Program)
def rdN:Nat->(c:Nat)->V.T c->Prop
 |0,_,_=>True
 |n+1,c,x=>rD (rdN n) (V.d c) x
def opF(g:TypeId->Nat->Bool):List Nat->List (TypeId×Nat×Nat)->Nat->Nat->Bool
 | [],[],o,m=>Nat.beq o m
 |c::cs,(ty,off,m)::l,o,e=>Nat.beq off o&&Nat.beq m (V.sz c)&&g ty c&&opF g cs l (o+m) e
 |_,_,_,_=>false
def opD(g:TypeId->Nat->Bool): {α:Type}->Ds V.T α->TypeId->Bool
 |_,.int k,t=>match P.underlying t with|some (.int k')=>decide (k'=k)|_=>false
 |_,.bool,t=>match P.underlying t with|some .bool=>true|_=>false
 |_,.str,t=>match P.underlying t with|some .string=>true|_=>false
 |_,.sl c,t=>match P.underlying t with|some (.slice E)=>Nat.beq (P.cellsOf E) (V.sz c)&&Nat.blt 0 (V.sz c)&&g E c|_=>false
 |_,.map _ _,_=>false
 |_,.arr n c,t=>match P.underlying t with|some (.array N E)=>Nat.beq N n&&Nat.beq (P.cellsOf E) (V.sz c)&&Nat.beq (P.cellsOf t) (n*V.sz c)&&g E c|_=>false
 |_,.st fs _ _ _,t=>match zrb P t with|some l=>opF V g fs l 0 (P.cellsOf t)|none=>false
def opN:Nat->TypeId->Nat->Bool
 |0,_,_=>false
 |n+1,t,c=>opD V P (opN n) (V.d c) t
def yb2(n:Nat):List TypeId->List Nat->Bool
 | [],[]=>true
 |t::ts,c::cs=>opN V P n t c&&yb2 n ts cs
 |_,_=>false
def ybm(n:Nat):(cs:List Nat)->Tup V.T cs->Prop
 | [],_=>True
 |c::cs,x=>rdN V n c x.1/\ybm n cs x.2
variable{V P}
theorem y8x:∀(n:Nat)(t:TypeId)(c:Nat),opN V P n t c=true->Opn P t (V.sz c) (V.ev c) (rdN V n c)
 |0,_,_,h=>by cases h
 |n+1,t,c,h=>by
  have ih:=y8x n;have hev:V.ev c=evD V.ev (V.mv V.ev) V.sz (V.d c):=funext λx=>V.ev_eq c x
  have hr:rdN V (n+1) c=rD (rdN V n) (V.d c):=rfl;rw[hev,V.sz_eq,hr];change opD V P (opN V P n) (V.d c) t=true at h;revert h;clear hev hr;generalize V.d c=d;revert d;generalize V.T c=α;intro d h;cases d with
  |int k=>
   simp only[opD] at h;split at h
   .rename_i k' hu;simp only[decide_eq_true_eq] at h;subst h;exact Opn.int hu
   .cases h
  |bool=>
   simp only[opD] at h;split at h
   .rename_i hu;exact Opn.bool hu
   .cases h
  |str=>
   simp only[opD] at h;split at h
   .rename_i hu;exact Opn.string hu
   .cases h
  |sl c'=>
   simp only[opD] at h;split at h
   .rename_i E hu;simp only[w02,w28] at h;obtain⟨⟨h1,h2⟩,h3⟩:=h;exact Opn.slice hu (w01 h1) h2 (ih E c' h3)
   .cases h
  |map kc vc=>simp[opD] at h
  |arr m c'=>
   simp only[opD] at h;split at h
   .rename_i N E hu;simp only[w02] at h;obtain⟨⟨⟨h1,h2⟩,h3⟩,h4⟩:=h;have h1:=w01 h1;subst h1;have:Inhabited (V.T c'):=⟨V.z c'⟩;exact Opn.array hu (w01 h2) (w01 h3) rfl (ih E c' h4)
   .cases h
  |st fs mk un law=>
   simp only[opD] at h;split at h
   .rename_i l hl;intro H enc w sp held fuel cs x hx;obtain⟨hlen,m,hf⟩:=zvj hl hx;have key:∀(fs:List Nat)(l':List (TypeId×Nat×Nat))(o:Nat),opF V (opN V P n) fs l' o (P.cellsOf t)=true->(∀(i:Nat)(ty:TypeId)(off m':Nat),l'[i]? = some (ty,off,m')->∃y,DataW.trod enc P w 0 sp held m ty ((cs.drop off).take m')=some y)->
      o+fs.foldr (λc s=>V.sz c+s) 0=P.cellsOf t/\∃y:Tup V.T fs,rT (rdN V n) fs y/\zo (λb=>b<w.heap.size) w (evT V.ev fs y) (cs.drop o):=by
     intro fs
     induction fs with
     |nil=>
      intro l' o h hf;cases l' with
      |nil=>have:=w01 h;subst this;exact⟨rfl,(),trivial,zo.tile0 hlen⟩
      |cons a l'=>cases h
     |cons c cs' ihf=>
      intro l' o h hf;cases l' with
      |nil=>cases h
      |cons a l'=>obtain⟨ty,off,m'⟩:=a;simp only[opF,w02] at h;obtain⟨⟨⟨h1,h2⟩,h3⟩,h4⟩:=h;have h1:=w01 h1;have h2:=w01 h2;subst h1;subst h2;obtain⟨y0,hy0⟩:=hf 0 _ _ _ rfl;obtain⟨_,y,hR,hc⟩:=ih ty c h3 _ _ _ _ _ _ _ _ hy0;obtain⟨he,z,hz,hcz⟩:=ihf l' _ h4 (λi ty off m' hi=>hf (i+1) ty off m' hi);refine⟨by simp only[w5b];omega,(y,z),ybl hR hz,?_⟩;exact zo.tile hc hcz
    obtain⟨he,y,hy,hc⟩:=key fs l 0 h hf;rw[w44] at hc;refine⟨by rw[hlen,<- he,w15];rfl,mk y,?_,?_⟩
    .show rT _ fs (un (mk y));rw[law];exact hy
    .show zo _ _ (evT V.ev fs (un (mk y))) cs;rw[law];exact hc
   .cases h
theorem yc6{H:Type}{enc:TypeId×Value->H}{W:World}{sp:Nat->Bool}{held:Bool}{base n:Nat}{t:TypeId}{c:Nat}{v:Value}{d:DataW H}{p:List MemPlace}
  (ho:opN V P n t c=true) (hv:Value.okWide P W .any base t v) (h:DataW.Trod enc P W 0 sp held t v d p):∃y,rdN V n c y/\(V.vl c y).h (λb=>b<W.heap.size) W v:=by
 cases n with
 |zero=>cases ho
 |succ n=>
 obtain⟨fuel,hf⟩:=h;obtain⟨_,y,hR,hc⟩:=y8x _ _ _ ho _ _ _ _ _ _ _ _ hf;refine⟨y,hR,?_⟩;change opD V P (opN V P n) (V.d c) t=true at ho;unfold Value.okWide at hv;cases ha:z6b (V.d c) with
 |true=>
  rw[znc y ha];have hs:∃cs,v = .agg cs:=by
   revert ho ha;generalize V.d c=d;generalize V.T c=α at d;intro ho ha;cases d with
   |arr m c'=>
    simp only[opD] at ho;split at ho
    .rename_i N E hu;rw[hu] at hv;obtain⟨cs,rfl,_⟩:=hv;exact⟨cs,rfl⟩
    .cases ho
   |st fs mk un law=>
    simp only[opD,zrb] at ho;cases hu:P.underlying t with
    |none=>rw[hu] at ho;cases ho
    |some X=>
     rw[hu] at ho hv;cases X with
     |struct fs'=>obtain⟨cs,rfl,_⟩:=hv;exact⟨cs,rfl⟩
     |_=>cases ho
   |_=>cases ha
  obtain⟨cs,rfl⟩:=hs;exact⟨cs,rfl,hc⟩
 |false=>
  rw[znd y ha] at hc;have hcell:v.cells.toList = [v]:=by
   revert ho ha;generalize V.d c=d;generalize V.T c=α at d;intro ho ha;cases d with
   |int k=>
    simp only[opD] at ho;split at ho
    .rename_i k' hu;rw[hu] at hv;cases v<;>first|rfl |(exfalso;simp[Cell.okWide,Cell.ok,hu] at hv)
    .cases ho
   |bool=>
    simp only[opD] at ho;split at ho
    .rename_i hu;rw[hu] at hv;cases v<;>first|rfl |(exfalso;simp[Cell.okWide,Cell.ok,hu] at hv)
    .cases ho
   |str=>
    simp only[opD] at ho;split at ho
    .rename_i hu;rw[hu] at hv;cases v<;>first|rfl |(exfalso;simp[Cell.okWide,Cell.ok,hu] at hv)
    .cases ho
   |sl c'=>
    simp only[opD] at ho;split at ho
    .rename_i E hu;rw[hu] at hv;cases v<;>first|rfl |(exfalso;simp[Cell.okWide,Cell.ok,hu] at hv)
    .cases ho
   |arr m c'=>cases ha
   |map kc vc=>simp[opD] at ho
   |st fs mk un law=>cases ha
  rw[hcell] at hc;obtain⟨u,hu',hA,_⟩:=hc.2 0 (V.vl c y) rfl;simp at hu';subst hu';exact hA
theorem zzh{H:Type}{enc:TypeId×Value->H}{W:World}{sp:Nat->Bool}{held:Bool}{base n:Nat}: ∀{ts:List TypeId}{cs:List Nat}{vs:List Value}{ds:List (DataW H)}{ps:List MemPlace},
  yb2 V P n ts cs=true->DataW.TrodAll enc P W 0 sp held ts vs ds ps->(∀(j:Nat)t v,ts[j]? = some t->vs[j]? = some v->Value.okWide P W .any base t v)->
  vs.length=cs.length/\∃x:Tup V.T cs,ybm V n cs x/\∀(i:Nat)(A:VP),(vls V cs x)[i]? = some A->A.h (λb=>b<W.heap.size) W (vs.getD i undef)
 | [],[],vs,ds,ps,_,h,_=>by
  cases vs with
  |nil=>exact⟨rfl,(),trivial,λi A hi=>by simp[vls] at hi⟩
  |cons v vs=>cases ds<;>exact h.elim
 |t::ts,c::cs,vs,ds,ps,ho,h,hv=>by
  simp only[yb2,w02] at ho;cases vs with
  |nil=>cases ds<;>exact h.elim
  |cons v vs=>
   cases ds with
   |nil=>exact h.elim
   |cons d ds=>
    obtain⟨p,q,h1,h2,_⟩:=h;obtain⟨y,hR,hA⟩:=yc6 ho.1 (hv 0 t v rfl rfl) h1;obtain⟨hl,x,hx,hxs⟩:=zzh ho.2 h2 (λj t v ht hvj=>hv (j+1) t v ht hvj);refine⟨by simp[hl],(y,x),⟨hR,hx⟩,λi A hi=>?_⟩;cases i with
    |zero=>simp only[vls,w3f,w00] at hi;subst hi;exact hA
    |succ i=>simp only[vls,w2j] at hi;simpa using hxs i A hi
 | [],_::_,_,_,_,ho,_,_=>by cases ho
 |_::_,[],_,_,_,ho,_,_=>by cases ho
theorem zn8{H:Type}{enc:TypeId×Value->H}{P:Program}{W:World}{b:Nat}{sp:Nat->Bool}{held:Bool}: ∀{ts:List TypeId}{vs:List Value}{ds:List (DataW H)}{ps:List MemPlace},DataW.TrodAll enc P W b sp held ts vs ds ps->ds.length=ts.length
 | [],[],[],_,_=>rfl
 |t::ts,v::vs,d::ds,ps,⟨p,q,_,h,_⟩=>by simp[zn8 h]
 | [],_::_,_,_,h=>h.elim
 | [],[],_::_,_,h=>h.elim
 |_::_,[],_,_,h=>h.elim
 |_::_,_::_,[],_,h=>h.elim
theorem y3y:∀(cs:List Nat)(x:Tup V.T cs),(vls V cs x).length=cs.length
 | [],_=>rfl
 |c::cs,x=>by simp only[vls,w12,y3y cs]
theorem ycs[Dr]{f:FuncId}{sp:Fsp V}{W:World}{vs:Array Value}{x:Tup V.T sp.args}{r:RTup V.T sp.res}(hf:z2t V P f sp)(hr:sp.F x=some r)(hres:∀B:Asg,(resV V (encR V 0 sp.res r)).den V P B=bv true)(hno:newR V sp.res r = [])
  (hl:vs.toList.length=sp.args.length) (hA:∀(i:Nat)(A:VP),(vls V sp.args x)[i]? = some A->A.h (λb=>b<W.heap.size) W (vs.toList.getD i undef)):Calls P f vs W (λe W'=>e = .returned (.bool true)/\Below W.heap.size W W'):=by
 refine y1d (As:=vls V sp.args x) ((hf x r hr).mono ?_) (by rw[y3y];simpa using hl) (λi A hi=>?_)
 .rintro y news ⟨B,hB,rfl,rfl⟩;rw[hno] at hB⊢;refine⟨hres B,?_⟩;cases B<;>rfl
 .have:=hA i A hi
  simpa[w06,w1x] using this
end
theorem z6w.same{R:Type}{x:Option R}{n:Nat}{y:Option (List (Option R))}(h:y=some (List.replicate n x)):z6w x y:=⟨λr hr=>⟨_,h,λa ha=>by rw[(List.mem_replicate.1 ha).2,hr]⟩⟩
theorem z6w.ck{R:Type}{p:Prop}[Decidable p]{x:Option R}{y:Option (List (Option R))}(h:z6w x y):z6w (Px.ck p x) (Px.ck p y):=
 ⟨λr hr=>by
  unfold Px.ck at *;split at hr
  .rename_i hp;simp only[if_pos hp];exact h.ok r hr
  .cases hr⟩
theorem z6w.bind{R α:Type}{m:Option α}{f:α->Option R}{g:α->Option (List (Option R))}(h:∀a,z6w (f a) (g a)):z6w (m.bind f) (m.bind g):=
 ⟨λr hr=>by
  cases m with
  |none=>cases hr
  |some a=>exact(h a).ok r hr⟩
theorem z6w.one{R:Type}{x:Option R}: z6w x (some [x]):=⟨λr hr=>⟨_,rfl,λa ha=>by rw[w0d.1 ha,hr]⟩⟩
theorem z6w.nil{R:Type}{x:Option R}: z6w x (catL []):=⟨λr hr=>⟨[],rfl,λa ha=>by cases ha⟩⟩
theorem z6w.cons{R:Type}{x:Option R}{y:Option (List (Option R))}{l:List (Option (List (Option R)))}(h:z6w x y)(hl:z6w x (catL l)):z6w x (catL (y::l)):=
 ⟨λr hr=>by
  obtain⟨a,ha,h1⟩:=h.ok r hr;obtain⟨b,hb,h2⟩:=hl.ok r hr;refine⟨a++b,by simp only[catL,ha,hb,cat2],λz hz=>?_⟩;rcases w0k.1 hz with hz|hz
  .exact h1 z hz
  .exact h2 z hz⟩
end Px
end
section
set_option maxHeartbeats 4000000
set_option maxRecDepth 100000
namespace Px
open Go Go.RowKit
def z01:ByteArray:=⟨#[0,1,2,2,3,3,3,3,4,4,4,4,4,4,4,4,5,5,5,5,5,5,5,5,5,5,5,5,5,5,5,5,6,6,6,6,6,6,6,6,6,6,6,6,6,6,6,6,6,6,6,6,6,6,6,6,6,6,6,6,6,6,6,6,7,7,7,7,7,7,7,7,7,7,7,7,7,7,7,7,7,7,7,7,7,7,7,7,7,7,7,7,7,7,7,7,7,7,7,7,7,7,7,7,7,7,7,7,7,7,7,7,7,7,7,7,7,7,7,7,7,7,7,7,7,7,7,7,8,8,8,8,8,8,8,8,8,8,8,8,8,8,8,8,8,8,8,8,8,8,8,8,8,8,8,8,8,8,8,8,8,8,8,8,8,8,8,8,8,8,8,8,8,8,8,8,8,8,8,8,8,8,8,8,8,8,8,8,8,8,8,8,8,8,8,8,8,8,8,8,8,8,8,8,8,8,8,8,8,8,8,8,8,8,8,8,8,8,8,8,8,8,8,8,8,8,8,8,8,8,8,8,8,8,8,8,8,8,8,8,8,8,8,8,8,8,8,8,8,8,8,8,8,8,8,8]⟩
structure zec where
 kind:Int
 railway:Int
 other:Int
instance:Inhabited zec:=⟨⟨0,0,0⟩⟩
structure Edge where
 a:Int
 b:Int
 railway:Int
 minutes:Int
 km:Int
instance:Inhabited Edge:=⟨⟨0,0,0,0,0⟩⟩
structure z02 where
 places :(List zec)
 edges :(List Edge)
instance:Inhabited z02:=⟨⟨[],[]⟩⟩
structure z2r where
 load:Int
 tare:Int
 length:Int
 gauge:Int
 brake:Int
 classes:Int
 life:Int
 floor:Int
instance:Inhabited z2r:=⟨⟨0,0,0,0,0,0,0,0⟩⟩
structure znf where
 type_:Int
 owner:Int
 home:Int
 built:Int
 worth:Int
instance:Inhabited znf:=⟨⟨0,0,0,0,0⟩⟩
structure Swap where
 wanted:Int
 given:Int
 cost:Int
instance:Inhabited Swap:=⟨⟨0,0,0⟩⟩
structure Wash where
 from_:Int
 to:Int
 minutes:Int
instance:Inhabited Wash:=⟨⟨0,0,0⟩⟩
structure z4r where
 types :(List z2r)
 wagons :(List znf)
 swaps :(List Swap)
 washes :(List Wash)
instance:Inhabited z4r:=⟨⟨[],[],[],[]⟩⟩
structure zgk where
 place:Int
 low:Int
 high:Int
instance:Inhabited zgk:=⟨⟨0,0,0⟩⟩
structure zcs where
 place:Int
instance:Inhabited zcs:=⟨⟨0⟩⟩
structure Span where
 from_:Int
 to:Int
instance:Inhabited Span:=⟨⟨0,0⟩⟩
structure z8g where
 open_ :(Nat->Span)
 holidays :(List Int)
instance:Inhabited z8g:=⟨⟨λ_=>default,[]⟩⟩
structure z4s where
 key:Int
 calendar:z8g
instance:Inhabited z4s:=⟨⟨0,default⟩⟩
structure Pool where
 network:z02
 fleet:z4r
 readers :(List zgk)
 shippers :(List zcs)
 railways :(List z4s)
instance:Inhabited Pool:=⟨⟨default,default,[],[],[]⟩⟩
structure zb where
 type_:Int
 class_:Int
 place:Int
 at_:Int
 count:Int
instance:Inhabited zb:=⟨⟨0,0,0,0,0⟩⟩
structure zk where
 type_:Int
 class_:Int
 place:Int
 from_:Int
 to:Int
 count:Int
 weight:Int
instance:Inhabited zk:=⟨⟨0,0,0,0,0,0,0⟩⟩
structure zu where
 near :(List (List Int))
 line :(List ((Nat->Int)×Int))
instance:Inhabited zu:=⟨⟨[],[]⟩⟩
structure Arc where
 from_:Int
 to:Int
 cap:Int
 cost:Int
instance:Inhabited Arc:=⟨⟨0,0,0,0⟩⟩
structure zh where
 supply :(List Int)
 arcs :(List Arc)
instance:Inhabited zh:=⟨⟨[],[]⟩⟩
structure Flow where
 x :(List Int)
 price :(List Int)
instance:Inhabited Flow:=⟨⟨[],[]⟩⟩
structure zgc where
 n:zh
 x :(List Int)
 left :(List Int)
 price :(List Int)
 begin :(List (List Int))
 end_ :(List (List Int))
instance:Inhabited zgc:=⟨⟨default,[],[],[],[],[]⟩⟩
structure zg where
 arc:Int
 to:Int
 cost:Int
 room:Int
instance:Inhabited zg:=⟨⟨0,0,0,0⟩⟩
structure z7 where
 supply:Int
 order:Int
 count:Int
instance:Inhabited z7:=⟨⟨0,0,0⟩⟩
structure Plan where
 transfers :(List z7)
 cost:Int
 price :(List Int)
instance:Inhabited Plan:=⟨⟨[],0,[]⟩⟩
structure Ref where
 railway:Int
 no:Int
instance:Inhabited Ref:=⟨⟨0,0⟩⟩
structure Part where
 kind:Int
 serial:Int
 fitted:Bool
instance:Inhabited Part:=⟨⟨0,0,false⟩⟩
structure Item where
 kind:Int
 ref:Ref
 wagon:Int
 place:Int
 other:Int
 number:Int
 from_:Int
 to:Int
 code:Int
 dest:Int
 class_:Int
 weight:Int
 amount:Int
 text:ByteArray
 parts :(List Part)
instance:Inhabited Item:=⟨⟨0,default,0,0,0,0,0,0,0,0,0,0,0,⟨#[]⟩,[]⟩⟩
structure zl where
 ref:Ref
 by_:Ref
 time:Int
 item:Item
instance:Inhabited zl:=⟨⟨default,default,0,default⟩⟩
def TT:Nat->Type
 |0=>Int
 |1=>zec
 |2=>(List zec)
 |3=>Edge
 |4=>(List Edge)
 |5=>z02
 |6=>Int
 |7=>z2r
 |8=>(List z2r)
 |9=>znf
 |10=>(List znf)
 |11=>Swap
 |12=>(List Swap)
 |13=>Wash
 |14=>(List Wash)
 |15=>z4r
 |16=>zgk
 |17=>(List zgk)
 |18=>zcs
 |19=>(List zcs)
 |20=>Span
 |21=>(Nat->Span)
 |22=>(List Int)
 |23=>z8g
 |24=>z4s
 |25=>(List z4s)
 |26=>Pool
 |27=>Bool
 |28=>(Nat->Bool)
 |29=>zb
 |30=>zk
 |31=>(List (List Int))
 |32=>(Nat->Int)
 |33=>(List ((Nat->Int)×Int))
 |34=>zu
 |35=>(Nat->Int)
 |36=>(List zb)
 |37=>(List zk)
 |38=>Arc
 |39=>(List Arc)
 |40=>zh
 |41=>Flow
 |42=>zgc
 |43=>zg
 |44=>(List zg)
 |45=>z7
 |46=>(List z7)
 |47=>Plan
 |48=>Ref
 |49=>ByteArray
 |50=>Part
 |51=>(List Part)
 |52=>Item
 |53=>zl
 |54=>(List zl)
 |55=>(List (Nat->Int))
 |56=>Int
 |57=>(List Int)
 |58=>Int
 |59=>(Nat->Int)
 |60=>(Nat->Int)
 |61=>(Nat->Int)
 |_=>Unit
def TD :(c:Nat)->Ds TT (TT c)
 |0=>.int .i64
 |1=>.st [0,0,0] (λt=>⟨t.1,t.2.1,t.2.2.1⟩) (λx=>(x.kind,x.railway,x.other,())) (λ_=>rfl)
 |2=>.sl 1
 |3=>.st [0,0,0,0,0] (λt=>⟨t.1,t.2.1,t.2.2.1,t.2.2.2.1,t.2.2.2.2.1⟩) (λx=>(x.a,x.b,x.railway,x.minutes,x.km,())) (λ_=>rfl)
 |4=>.sl 3
 |5=>.st [2,4] (λt=>⟨t.1,t.2.1⟩) (λx=>(x.places,x.edges,())) (λ_=>rfl)
 |6=>.int .u64
 |7=>.st [0,0,0,0,0,6,0,0] (λt=>⟨t.1,t.2.1,t.2.2.1,t.2.2.2.1,t.2.2.2.2.1,t.2.2.2.2.2.1,t.2.2.2.2.2.2.1,t.2.2.2.2.2.2.2.1⟩) (λx=>(x.load,x.tare,x.length,x.gauge,x.brake,x.classes,x.life,x.floor,())) (λ_=>rfl)
 |8=>.sl 7
 |9=>.st [0,0,0,0,0] (λt=>⟨t.1,t.2.1,t.2.2.1,t.2.2.2.1,t.2.2.2.2.1⟩) (λx=>(x.type_,x.owner,x.home,x.built,x.worth,())) (λ_=>rfl)
 |10=>.sl 9
 |11=>.st [0,0,0] (λt=>⟨t.1,t.2.1,t.2.2.1⟩) (λx=>(x.wanted,x.given,x.cost,())) (λ_=>rfl)
 |12=>.sl 11
 |13=>.st [0,0,0] (λt=>⟨t.1,t.2.1,t.2.2.1⟩) (λx=>(x.from_,x.to,x.minutes,())) (λ_=>rfl)
 |14=>.sl 13
 |15=>.st [8,10,12,14] (λt=>⟨t.1,t.2.1,t.2.2.1,t.2.2.2.1⟩) (λx=>(x.types,x.wagons,x.swaps,x.washes,())) (λ_=>rfl)
 |16=>.st [0,0,0] (λt=>⟨t.1,t.2.1,t.2.2.1⟩) (λx=>(x.place,x.low,x.high,())) (λ_=>rfl)
 |17=>.sl 16
 |18=>.st [0] (λt=>⟨t.1⟩) (λx=>(x.place,())) (λ_=>rfl)
 |19=>.sl 18
 |20=>.st [0,0] (λt=>⟨t.1,t.2.1⟩) (λx=>(x.from_,x.to,())) (λ_=>rfl)
 |21=>.arr 7 20
 |22=>.sl 0
 |23=>.st [21,22] (λt=>⟨t.1,t.2.1⟩) (λx=>(x.open_,x.holidays,())) (λ_=>rfl)
 |24=>.st [6,23] (λt=>⟨t.1,t.2.1⟩) (λx=>(x.key,x.calendar,())) (λ_=>rfl)
 |25=>.sl 24
 |26=>.st [5,15,17,19,25] (λt=>⟨t.1,t.2.1,t.2.2.1,t.2.2.2.1,t.2.2.2.2.1⟩) (λx=>(x.network,x.fleet,x.readers,x.shippers,x.railways,())) (λ_=>rfl)
 |27=>.bool
 |28=>.arr 4096 27
 |29=>.st [0,0,0,0,0] (λt=>⟨t.1,t.2.1,t.2.2.1,t.2.2.2.1,t.2.2.2.2.1⟩) (λx=>(x.type_,x.class_,x.place,x.at_,x.count,())) (λ_=>rfl)
 |30=>.st [0,0,0,0,0,0,0] (λt=>⟨t.1,t.2.1,t.2.2.1,t.2.2.2.1,t.2.2.2.2.1,t.2.2.2.2.2.1,t.2.2.2.2.2.2.1⟩) (λx=>(x.type_,x.class_,x.place,x.from_,x.to,x.count,x.weight,())) (λ_=>rfl)
 |31=>.sl 22
 |32=>.arr 2 0
 |33=>.map 32 0
 |34=>.st [31,33] (λt=>⟨t.1,t.2.1⟩) (λx=>(x.near,x.line,())) (λ_=>rfl)
 |35=>.arr 32 0
 |36=>.sl 29
 |37=>.sl 30
 |38=>.st [0,0,0,0] (λt=>⟨t.1,t.2.1,t.2.2.1,t.2.2.2.1⟩) (λx=>(x.from_,x.to,x.cap,x.cost,())) (λ_=>rfl)
 |39=>.sl 38
 |40=>.st [22,39] (λt=>⟨t.1,t.2.1⟩) (λx=>(x.supply,x.arcs,())) (λ_=>rfl)
 |41=>.st [22,22] (λt=>⟨t.1,t.2.1⟩) (λx=>(x.x,x.price,())) (λ_=>rfl)
 |42=>.st [40,22,22,22,31,31] (λt=>⟨t.1,t.2.1,t.2.2.1,t.2.2.2.1,t.2.2.2.2.1,t.2.2.2.2.2.1⟩) (λx=>(x.n,x.x,x.left,x.price,x.begin,x.end_,())) (λ_=>rfl)
 |43=>.st [0,0,0,0] (λt=>⟨t.1,t.2.1,t.2.2.1,t.2.2.2.1⟩) (λx=>(x.arc,x.to,x.cost,x.room,())) (λ_=>rfl)
 |44=>.sl 43
 |45=>.st [0,0,0] (λt=>⟨t.1,t.2.1,t.2.2.1⟩) (λx=>(x.supply,x.order,x.count,())) (λ_=>rfl)
 |46=>.sl 45
 |47=>.st [46,0,22] (λt=>⟨t.1,t.2.1,t.2.2.1⟩) (λx=>(x.transfers,x.cost,x.price,())) (λ_=>rfl)
 |48=>.st [0,0] (λt=>⟨t.1,t.2.1⟩) (λx=>(x.railway,x.no,())) (λ_=>rfl)
 |49=>.str
 |50=>.st [0,0,27] (λt=>⟨t.1,t.2.1,t.2.2.1⟩) (λx=>(x.kind,x.serial,x.fitted,())) (λ_=>rfl)
 |51=>.sl 50
 |52=>.st [0,48,0,0,0,0,0,0,0,0,0,0,0,49,51] (λt=>⟨t.1,t.2.1,t.2.2.1,t.2.2.2.1,t.2.2.2.2.1,t.2.2.2.2.2.1,t.2.2.2.2.2.2.1,t.2.2.2.2.2.2.2.1,t.2.2.2.2.2.2.2.2.1,t.2.2.2.2.2.2.2.2.2.1,t.2.2.2.2.2.2.2.2.2.2.1,t.2.2.2.2.2.2.2.2.2.2.2.1,t.2.2.2.2.2.2.2.2.2.2.2.2.1,t.2.2.2.2.2.2.2.2.2.2.2.2.2.1,t.2.2.2.2.2.2.2.2.2.2.2.2.2.2.1⟩) (λx=>(x.kind,x.ref,x.wagon,x.place,x.other,x.number,x.from_,x.to,x.code,x.dest,x.class_,x.weight,x.amount,x.text,x.parts,())) (λ_=>rfl)
 |53=>.st [48,48,0,52] (λt=>⟨t.1,t.2.1,t.2.2.1,t.2.2.2.1⟩) (λx=>(x.ref,x.by_,x.time,x.item,())) (λ_=>rfl)
 |54=>.sl 53
 |55=>.sl 32
 |56=>.int .u8
 |57=>.sl 56
 |58=>.int .u32
 |59=>.arr 64 58
 |60=>.arr 8 58
 |61=>.arr 32 56
 |_+62=>.st [] (λ_=>()) (λ_=>()) (λ_=>rfl)
def TZ :(c:Nat)->TT c
 |0=>(default:Int)
 |1=>(default:zec)
 |2=>(default :(List zec))
 |3=>(default:Edge)
 |4=>(default :(List Edge))
 |5=>(default:z02)
 |6=>(default:Int)
 |7=>(default:z2r)
 |8=>(default :(List z2r))
 |9=>(default:znf)
 |10=>(default :(List znf))
 |11=>(default:Swap)
 |12=>(default :(List Swap))
 |13=>(default:Wash)
 |14=>(default :(List Wash))
 |15=>(default:z4r)
 |16=>(default:zgk)
 |17=>(default :(List zgk))
 |18=>(default:zcs)
 |19=>(default :(List zcs))
 |20=>(default:Span)
 |21=>(default :(Nat->Span))
 |22=>(default :(List Int))
 |23=>(default:z8g)
 |24=>(default:z4s)
 |25=>(default :(List z4s))
 |26=>(default:Pool)
 |27=>(default:Bool)
 |28=>(default :(Nat->Bool))
 |29=>(default:zb)
 |30=>(default:zk)
 |31=>(default :(List (List Int)))
 |32=>(default :(Nat->Int))
 |33=>(default :(List ((Nat->Int)×Int)))
 |34=>(default:zu)
 |35=>(default :(Nat->Int))
 |36=>(default :(List zb))
 |37=>(default :(List zk))
 |38=>(default:Arc)
 |39=>(default :(List Arc))
 |40=>(default:zh)
 |41=>(default:Flow)
 |42=>(default:zgc)
 |43=>(default:zg)
 |44=>(default :(List zg))
 |45=>(default:z7)
 |46=>(default :(List z7))
 |47=>(default:Plan)
 |48=>(default:Ref)
 |49=>(default:ByteArray)
 |50=>(default:Part)
 |51=>(default :(List Part))
 |52=>(default:Item)
 |53=>(default:zl)
 |54=>(default :(List zl))
 |55=>(default :(List (Nat->Int)))
 |56=>(default:Int)
 |57=>(default :(List Int))
 |58=>(default:Int)
 |59=>(default :(Nat->Int))
 |60=>(default :(Nat->Int))
 |61=>(default :(Nat->Int))
 |_+62=>()
def TC(t:Nat):Nat:=(lk [(2,0),(3,0),(4,27),(5,56),(6,56),(9,49),(10,49),(11,49),(12,6),(22,2),(23,4),(25,5),(26,8),(27,10),(28,12),(29,14),(31,15),(32,17),(33,19),(34,25),(36,26),(37,36),(38,37),(41,46),(42,22),(44,47),(45,0),(49,29),(51,30),(53,57),(60,45),(62,39),(64,40),(68,41),(77,38),(85,48),(86,51),(88,52),(90,53),(91,54),(97,6),(102,16),(104,18),(106,20),(107,21),(109,23),(112,24),(124,31),(126,42),(129,33),(131,34),(137,1),(139,3),(141,7),(143,11),(145,13),(150,55),(152,32),(154,9),(156,61),(157,61),(184,28),(185,44),(189,43),(192,35),(195,6),(199,58),(200,60),(208,0),(216,59),(224,6),(243,56),(244,56),(252,50)] t).getD 62
def TV:TE:=⟨TT,TD,TZ,TC,λc=>match c with|0=>rfl|1=>rfl|2=>rfl|3=>rfl|4=>rfl|5=>rfl|6=>rfl|7=>rfl|8=>rfl|9=>rfl|10=>rfl|11=>rfl|12=>rfl|13=>rfl|14=>rfl|15=>rfl|16=>rfl|17=>rfl|18=>rfl|19=>rfl|20=>rfl|21=>rfl|22=>rfl|23=>rfl|24=>rfl|25=>rfl|26=>rfl|27=>rfl|28=>rfl|29=>rfl|30=>rfl|31=>rfl|32=>rfl|33=>rfl|34=>rfl|35=>rfl|36=>rfl|37=>rfl|38=>rfl|39=>rfl|40=>rfl|41=>rfl|42=>rfl|43=>rfl|44=>rfl|45=>rfl|46=>rfl|47=>rfl|48=>rfl|49=>rfl|50=>rfl|51=>rfl|52=>rfl|53=>rfl|54=>rfl|55=>rfl|56=>rfl|57=>rfl|58=>rfl|59=>rfl|60=>rfl|61=>rfl|_+62=>rfl⟩
def z54 :(Nat->Int)->List Int:=TV.kl 32
def zr5(l:List Int):Option (List Int):=zkv l
def Good{R:Type}(r:R)(y:Option (List (Option R))):Prop:=∃L,y=some L/\∀a∈L,a=some r
theorem Good.one{R:Type}{r:R}{x:Option R}(h:x=some r):Good r (some [x]):=⟨_,rfl,λa ha=>by rw[w0d] at ha;rw[ha,h]⟩
theorem Good.nil{R:Type}{r:R}: Good r (catL ([]:List (Option (List (Option R))))):=⟨[],rfl,λa ha=>by cases ha⟩
theorem Good.cons{R:Type}{r:R}{y:Option (List (Option R))}{ys:List (Option (List (Option R)))}(h:Good r y)(k:Good r (catL ys)):Good r (catL (y::ys)):=by
 obtain⟨L,rfl,h1⟩:=h;obtain⟨M,e,h2⟩:=k;refine⟨L++M,by simp only[catL,e,cat2],λa ha=>?_⟩;rcases w0k.1 ha with h|h
 .exact h1 a h
 .exact h2 a h
theorem Good.ck{R:Type}{r:R}{p:Prop}[Decidable p]{y:Option (List (Option R))}(h:p)(k:Good r y):Good r (ck p y):=by unfold Px.ck;rw[if_pos h];exact k
theorem ckS{R:Type}{r:R}{p:Prop}[Decidable p]{x:Option R}(h:ck p x=some r):p/\x=some r:=by
 unfold ck at h;split at h
 .rename_i hp;exact⟨hp,h⟩
 .cases h
def za0(φ:Nat):Option (Pool×Unit):=(some ((⟨(⟨[(⟨2,0,-1⟩:zec),(⟨4,0,-1⟩:zec),(⟨2,0,-1⟩:zec)],[(⟨0,1,0,30,0⟩:Edge),(⟨1,2,0,50,0⟩:Edge)]⟩:z02),(⟨[(⟨0,0,0,0,0,6,1,0⟩:z2r),(⟨0,0,0,0,0,6,1,0⟩:z2r)],([]:List znf),[(⟨0,1,7⟩:Swap)],[(⟨1,2,15⟩:Wash)]⟩:z4r),([]:List zgk),([]:List zcs),[(⟨4,(⟨λ_=>(default:Span),([]:List Int)⟩:z8g)⟩:z4s)]⟩:Pool),()))
def zbt(φ:Nat):Fsp TV:=⟨[],[.val 26],λz=>za0 φ⟩
def z9u(φ:Nat)(a:zec):Option (Bool×Unit):=(if((((decide ((a.kind:Int)<1))||(decide ((5:Int)<a.kind)))||(decide ((a.railway:Int)<0)))||(decide ((16:Int)<=a.railway)))=true then(some (false,())) else(if((a.kind:Int) !=3)=true then(some (((a.other:Int)==(-1)),())) else(some ((((decide ((0:Int)<=a.other))&&(decide ((a.other:Int)<16)))&&((a.other:Int) !=a.railway)),()))))
def zbb(φ:Nat):Fsp TV:=⟨[1],[.val 27],λz=>z9u φ z.1⟩
def z1v(φ:Nat):Nat->Int->(List Edge)->Int->Int->Option (Int×Unit)
 |0,_,_,_,_=>none
 |g+1,e,d,f,c=>(if(decide (c<f))=true then(ck (rg c d.length) (if(((((((decide (((min2 ((min2 (min2 ((gt d c).a) ((gt d c).b)) ((gt d c).railway))) ((gt d c).km)):Int)<0))||(decide (e<=(max2 ((gt d c).a) ((gt d c).b)))))||(((gt d c).a:Int)==(gt d c).b))||(decide ((16:Int)<=(gt d c).railway)))||(decide (((gt d c).minutes:Int)<1)))||(decide ((100000:Int)<(gt d c).minutes)))||(decide ((10000:Int)<(gt d c).km)))=true then(some (1,())) else((z1v φ g) e d f (W (c+1))))) else(some (0,())))
def z3n(φ:Nat):Nat->Int->(List zec)->Int->Int->z02->Option (Int×Unit)
 |0,_,_,_,_,_=>none
 |f+1,d,b,e,a,c=>(if(decide (a<e))=true then(ck (rg a b.length) ((z9u φ (gt b a)).bind λg=>(if(!g.1)=true then(some (1,())) else((z3n φ f) d b e (W (a+1)) c)))) else(z1v φ φ d c.edges (c.edges.length:Int) 0))
def z7h(φ:Nat)(a:z02):Option (Int×Unit):=(if((decide ((512:Int)<(a.places.length:Int)))||(decide ((2048:Int)<(a.edges.length:Int))))=true then(some (2,())) else(z3n φ φ (a.places.length:Int) a.places (a.places.length:Int) 0 a))
def z7j(φ:Nat):Fsp TV:=⟨[5],[.val 0],λz=>z7h φ z.1⟩
def zt(φ:Nat)(a b c:Int):Option (Bool×Unit):=(some (((decide (b<=a))&&(decide (a<=c))),()))
def z4d(φ:Nat):Fsp TV:=⟨[0,0,0],[.val 27],kk3 (zt φ)⟩
def z2a(φ:Nat)(c :((List z2r)->Int->Int->z4r->Int->Option (Int×Unit))):Nat->(List z2r)->Int->Int->Int->Int->z4r->Int->z2r->(List Int)->Option (Int×Unit)
 |0,_,_,_,_,_,_,_,_,_=>none
 |k+1,d,e,f,i,a,g,l,b,h=>(if(decide (a<i))=true then(ck (rg a h.length) ((zt φ (gt h a) 0 1000000).bind λn=>(if(!n.1)=true then((z2a φ c k) d e f i (W (a+1)) g 1 b h) else((z2a φ c k) d e f i (W (a+1)) g l b h)))) else((zt φ b.gauge 0 7).bind λj=>((z0r (default,()) (j.1=true) (zt φ b.life 1 1073741824)).bind λm=>((z0r (default,()) ((j.1&&m.1)=true) (zt φ b.floor 0 100)).bind λo=>(if(!((j.1&&m.1)&&o.1))=true then(c d e (W (f+1)) g 1) else(c d e (W (f+1)) g l))))))
def z00(φ:Nat):Nat->(List Wash)->Int->Int->Int->(Nat->Bool)->Option (Int×Unit)
 |0,_,_,_,_,_=>none
 |e+1,b,d,a,h,c=>(if(decide (a<d))=true then(ck (rg a b.length) ((zt φ ((gt b a).from_) 0 63).bind λf=>((z0r (default,()) (f.1=true) (zt φ ((gt b a).to) 0 63)).bind λg=>((z0r (default,()) (((f.1&&g.1)&&(((gt b a).from_:Int) !=(gt b a).to))=true) (zt φ ((gt b a).minutes) 0 100000)).bind λi=>(if(!(((f.1&&g.1)&&(((gt b a).from_:Int) !=(gt b a).to))&&i.1))=true then(if(((f.1&&g.1)&&(((gt b a).from_:Int) !=(gt b a).to))&&i.1)=true then(ck (rg (gt b a).from_ 64) (ck (rg (gt b a).to 64) (if(!(!(c (((((gt b a).from_:Int).toNat*64)+((gt b a).to:Int).toNat)))))=true then(ck (rg (gt b a).from_ 64) (ck (rg (gt b a).to 64) ((z00 φ e) b d (W (a+1)) 1 ((upd c (((((gt b a).from_:Int).toNat*64)+((gt b a).to:Int).toNat)) true))))) else(ck (rg (gt b a).from_ 64) (ck (rg (gt b a).to 64) ((z00 φ e) b d (W (a+1)) 1 ((upd c (((((gt b a).from_:Int).toNat*64)+((gt b a).to:Int).toNat)) true)))))))) else((z00 φ e) b d (W (a+1)) 1 c)) else(if(((f.1&&g.1)&&(((gt b a).from_:Int) !=(gt b a).to))&&i.1)=true then(ck (rg (gt b a).from_ 64) (ck (rg (gt b a).to 64) (if(!(!(c (((((gt b a).from_:Int).toNat*64)+((gt b a).to:Int).toNat)))))=true then(ck (rg (gt b a).from_ 64) (ck (rg (gt b a).to 64) ((z00 φ e) b d (W (a+1)) 1 ((upd c (((((gt b a).from_:Int).toNat*64)+((gt b a).to:Int).toNat)) true))))) else(ck (rg (gt b a).from_ 64) (ck (rg (gt b a).to 64) ((z00 φ e) b d (W (a+1)) h ((upd c (((((gt b a).from_:Int).toNat*64)+((gt b a).to:Int).toNat)) true)))))))) else((z00 φ e) b d (W (a+1)) h c))))))) else(some (h,())))
def z0w(φ:Nat):Nat->(List Swap)->Int->Int->z4r->Int->Option (Int×Unit)
 |0,_,_,_,_,_=>none
 |f+1,b,d,a,c,g=>(if(decide (a<d))=true then(ck (rg a b.length) ((zt φ ((gt b a).wanted) 0 (W ((c.types.length:Int)-1))).bind λe=>((z0r (default,()) (e.1=true) (zt φ ((gt b a).given) 0 (W ((c.types.length:Int)-1)))).bind λh=>((z0r (default,()) (((e.1&&h.1)&&(((gt b a).wanted:Int) !=(gt b a).given))=true) (zt φ ((gt b a).cost) 0 1000000000)).bind λi=>(if(!(((e.1&&h.1)&&(((gt b a).wanted:Int) !=(gt b a).given))&&i.1))=true then((z0w φ f) b d (W (a+1)) c 1) else((z0w φ f) b d (W (a+1)) c g)))))) else(z00 φ φ c.washes (c.washes.length:Int) 0 g (λ_=>(default:Bool))))
def z0g(φ:Nat):Nat->(List znf)->Int->Int->z4r->Int->Option (Int×Unit)
 |0,_,_,_,_,_=>none
 |e+1,b,d,a,c,g=>(if(decide (a<d))=true then(ck (rg a b.length) ((zt φ ((gt b a).type_) 0 (W ((c.types.length:Int)-1))).bind λf=>((z0r (default,()) (f.1=true) (zt φ ((gt b a).owner) 0 63)).bind λh=>((z0r (default,()) ((f.1&&h.1)=true) (zt φ ((gt b a).home) 0 511)).bind λk=>(if(!((f.1&&h.1)&&k.1))=true then((zt φ ((gt b a).built) 0 1073741824).bind λi=>((z0r (default,()) (i.1=true) (zt φ ((gt b a).worth) 0 1099511627776)).bind λl=>(if(!(i.1&&l.1))=true then((z0g φ e) b d (W (a+1)) c 1) else((z0g φ e) b d (W (a+1)) c 1)))) else((zt φ ((gt b a).built) 0 1073741824).bind λj=>((z0r (default,()) (j.1=true) (zt φ ((gt b a).worth) 0 1099511627776)).bind λm=>(if(!(j.1&&m.1))=true then((z0g φ e) b d (W (a+1)) c 1) else((z0g φ e) b d (W (a+1)) c g))))))))) else(z0w φ φ c.swaps (c.swaps.length:Int) 0 c g))
def z41(φ:Nat):Nat->(List z2r)->Int->Int->z4r->Int->Option (Int×Unit)
 |0,_,_,_,_,_=>none
 |f+1,b,d,a,c,e=>(if(decide (a<d))=true then(ck (rg a b.length) (z2a φ (z41 φ f) φ b d a (([(gt b a).load,(gt b a).tare,(gt b a).length,(gt b a).brake]).length:Int) 0 c e (gt b a) ([(gt b a).load,(gt b a).tare,(gt b a).length,(gt b a).brake]))) else(z0g φ φ c.wagons (c.wagons.length:Int) 0 c e))
def z83(φ:Nat)(a:z4r):Option (Int×Unit):=(if((((decide ((32:Int)<(a.types.length:Int)))||(decide ((4096:Int)<(a.wagons.length:Int))))||(decide ((1024:Int)<(a.swaps.length:Int))))||(decide ((4096:Int)<(a.washes.length:Int))))=true then(some (2,())) else(z41 φ φ a.types (a.types.length:Int) 0 a 0))
def z72(φ:Nat):Fsp TV:=⟨[15],[.val 0],λz=>z83 φ z.1⟩
def z2i(φ:Nat):Nat->Int->(List Int)->Int->Int->Option (Int×Unit)
 |0,_,_,_,_=>none
 |d+1,e,b,c,a=>(if(decide (a<c))=true then(ck (rg a b.length) (if((decide (((gt b a):Int)<=e))||(decide ((745654:Int)<(gt b a))))=true then(some (1,())) else((z2i φ d) (gt b a) b c (W (a+1))))) else(some (0,())))
def z31(φ:Nat):Nat->(Nat->Span)->Int->z8g->Option (Int×Unit)
 |0,_,_,_=>none
 |d+1,b,a,c=>(if(decide (a<7))=true then(ck (rg a 7) (if(((decide (((b a.toNat).from_:Int)<0))||(decide (((b a.toNat).to:Int)<(b a.toNat).from_)))||(decide ((1440:Int)<(b a.toNat).to)))=true then(some (1,())) else((z31 φ d) b (W (a+1)) c))) else(z2i φ φ (-1) c.holidays (c.holidays.length:Int) 0))
def z8h(φ:Nat)(a:z8g):Option (Int×Unit):=(z31 φ φ a.open_ 0 a)
def z93(φ:Nat):Fsp TV:=⟨[23],[.val 0],λz=>z8h φ z.1⟩
def z7x(φ:Nat)(a b:Int):Option (Int×Int×Unit):=(if 0<=(32:Int) then(if 0<=(32:Int) then(if 0<=(32:Int) then(if 0<=(32:Int) then(if 0<=(32:Int) then(some ((U ((U ((U ((a.fdiv (2 ^ (min (32:Int).toNat 64)))*(b.fdiv (2 ^ (min (32:Int).toNat 64)))))+(((U ((U ((a.fdiv (2 ^ (min (32:Int).toNat 64)))*(U ((BitVec.ofInt 64 b&&& BitVec.ofInt 64 4294967295).toNat))))+(((U ((U ((BitVec.ofInt 64 a&&& BitVec.ofInt 64 4294967295).toNat))*(U ((BitVec.ofInt 64 b&&& BitVec.ofInt 64 4294967295).toNat)))):Int).fdiv (2 ^ (min (32:Int).toNat 64))))):Int).fdiv (2 ^ (min (32:Int).toNat 64)))))+(((U ((U ((BitVec.ofInt 64 (U ((U ((a.fdiv (2 ^ (min (32:Int).toNat 64)))*(U ((BitVec.ofInt 64 b&&& BitVec.ofInt 64 4294967295).toNat))))+(((U ((U ((BitVec.ofInt 64 a&&& BitVec.ofInt 64 4294967295).toNat))*(U ((BitVec.ofInt 64 b&&& BitVec.ofInt 64 4294967295).toNat)))):Int).fdiv (2 ^ (min (32:Int).toNat 64)))))&&& BitVec.ofInt 64 4294967295).toNat))+(U ((U ((BitVec.ofInt 64 a&&& BitVec.ofInt 64 4294967295).toNat))*(b.fdiv (2 ^ (min (32:Int).toNat 64))))))):Int).fdiv (2 ^ (min (32:Int).toNat 64))))),(U (a*b)),())) else none) else none) else none) else none) else none)
def zel(φ:Nat):Fsp TV:=⟨[6,6],[.val 6,.val 6],kk2 (z7x φ)⟩
def z1a(φ:Nat)(a b:Int):Option (Int×Unit):=(ck (rg (IntKind.wrap .u8 (a)) z01.size) (some ((W (64-(W (b+(W ((za3 z01 (IntKind.wrap .u8 (a))))))))),())))
def z1s(φ:Nat)(a b:Int):Option (Int×Unit):=(if(decide ((256:Int)<=a))=true then(if 0<=(8:Int) then(z1a φ ((a.fdiv (2 ^ (min (8:Int).toNat 64)))) (W (b+8))) else none) else(z1a φ a b))
def z1r(φ:Nat)(a b:Int):Option (Int×Unit):=(if(decide ((65536:Int)<=a))=true then(if 0<=(16:Int) then(z1s φ ((a.fdiv (2 ^ (min (16:Int).toNat 64)))) (W (b+16))) else none) else(z1s φ a b))
def z36(φ:Nat)(a:Int):Option (Int×Unit):=(if(decide ((4294967296:Int)<=a))=true then(if 0<=(32:Int) then(z1r φ ((a.fdiv (2 ^ (min (32:Int).toNat 64)))) 32) else none) else(z1r φ a 0))
def z5d(φ:Nat):Fsp TV:=⟨[6],[.val 0],λz=>z36 φ z.1⟩
def z68(φ:Nat)(c a d e f b:Int):Option (Int×Int×Unit):=(ck (0<=a) (some ((U ((U (e*4294967296))+b)),(((U ((U ((U (f*4294967296))+d))-(U (b*c)))):Int).fdiv (2 ^ (min a.toNat 64))),())))
def z65(φ:Nat):Nat->Int->Int->Int->Int->Int->Int->Int->Int->Int->Option (Int×Int×Unit)
 |0,_,_,_,_,_,_,_,_,_=>none
 |j+1,c,d,e,i,b,f,g,h,a=>(if((decide ((4294967296:Int)<=a))||(decide (((U ((U (4294967296*g))+b)):Int)<(U (a*i)))))=true then(if(decide ((4294967296:Int)<=(U (g+e))))=true then(z68 φ c d b f h (U (a-1))) else((z65 φ j) c d e i b f (U (g+e)) h (U (a-1)))) else(z68 φ c d b f h a))
def z67(φ:Nat)(a f b g d e h c:Int):Option (Int×Int×Unit):=(ck (b≠0) (z65 φ φ a f b g h c ((U ((U ((U ((U (d*4294967296))+e))-(U (c*a))))-(U ((U (((U ((U ((U (d*4294967296))+e))-(U (c*a)))):Int).tdiv b))*b))))) ((U ((U ((U (d*4294967296))+e))-(U (c*a))))) ((U (((U ((U ((U (d*4294967296))+e))-(U (c*a)))):Int).tdiv b)))))
def z66(φ:Nat):Nat->Int->Int->Int->Int->Int->Int->Int->Int->Int->Option (Int×Int×Unit)
 |0,_,_,_,_,_,_,_,_,_=>none
 |j+1,e,f,a,c,g,d,h,b,i=>(if((decide ((4294967296:Int)<=b))||(decide (((U ((U (4294967296*i))+d)):Int)<(U (b*c)))))=true then(if(decide ((4294967296:Int)<=(U (i+a))))=true then(z67 φ e f a c g d h (U (b-1))) else((z66 φ j) e f a c g d h (U (b-1)) (U (i+a)))) else(z67 φ e f a c g d h b))
def z6r(φ:Nat)(d c b:Int):Option (Int×Int×Unit):=(if(b==0)=true then none else(if(decide (b<=d))=true then none else(if(d==0)=true then(ck (b≠0) (ck (b≠0) (some ((U (c.tdiv b)),(c.tmod b),())))) else((z36 φ b).bind λa=>(ck (0<=(U (a.1))) (if 0<=(32:Int) then(ck (0<=(U (a.1))) (ck (0<=(U (64-(U (a.1))))) (ck (0<=(U (a.1))) (if 0<=(32:Int) then(ck ((((U (b*2 ^ (min ((U (a.1)):Int).toNat 64))):Int).fdiv (2 ^ (min (32:Int).toNat 64)))≠0) (z66 φ φ ((U (b*2 ^ (min ((U (a.1)):Int).toNat 64)))) (U (a.1)) ((((U (b*2 ^ (min ((U (a.1)):Int).toNat 64))):Int).fdiv (2 ^ (min (32:Int).toNat 64)))) ((U ((BitVec.ofInt 64 (U (b*2 ^ (min ((U (a.1)):Int).toNat 64)))&&& BitVec.ofInt 64 4294967295).toNat))) ((U ((BitVec.ofInt 64 (U (d*2 ^ (min ((U (a.1)):Int).toNat 64)))||| BitVec.ofInt 64 (c.fdiv (2 ^ (min ((U (64-(U (a.1)))):Int).toNat 64)))).toNat))) ((((U (c*2 ^ (min ((U (a.1)):Int).toNat 64))):Int).fdiv (2 ^ (min (32:Int).toNat 64)))) ((U ((BitVec.ofInt 64 (U (c*2 ^ (min ((U (a.1)):Int).toNat 64)))&&& BitVec.ofInt 64 4294967295).toNat))) ((U (((U ((BitVec.ofInt 64 (U (d*2 ^ (min ((U (a.1)):Int).toNat 64)))||| BitVec.ofInt 64 (c.fdiv (2 ^ (min ((U (64-(U (a.1)))):Int).toNat 64)))).toNat)):Int).tdiv (((U (b*2 ^ (min ((U (a.1)):Int).toNat 64))):Int).fdiv (2 ^ (min (32:Int).toNat 64)))))) ((U ((U ((BitVec.ofInt 64 (U (d*2 ^ (min ((U (a.1)):Int).toNat 64)))||| BitVec.ofInt 64 (c.fdiv (2 ^ (min ((U (64-(U (a.1)))):Int).toNat 64)))).toNat))-(U ((U (((U ((BitVec.ofInt 64 (U (d*2 ^ (min ((U (a.1)):Int).toNat 64)))||| BitVec.ofInt 64 (c.fdiv (2 ^ (min ((U (64-(U (a.1)))):Int).toNat 64)))).toNat)):Int).tdiv (((U (b*2 ^ (min ((U (a.1)):Int).toNat 64))):Int).fdiv (2 ^ (min (32:Int).toNat 64)))))*(((U (b*2 ^ (min ((U (a.1)):Int).toNat 64))):Int).fdiv (2 ^ (min (32:Int).toNat 64)))))))))) else none)))) else none))))))
def zeg(φ:Nat):Fsp TV:=⟨[6,6,6],[.val 6,.val 6],kk3 (z6r φ)⟩
def z8y(φ:Nat)(d :(Int->Int->Int->Int->Int->Int->Option (Int×Unit)))(b e c f g h i j l a:Int):Option (Int×Unit):=(ck (rg (IntKind.wrap .u8 (b)) z01.size) (ck (0<=(W ((W ((W (e+(W ((za3 z01 (IntKind.wrap .u8 (b)))))))-1))-h))) (if(((U ((BitVec.ofInt 64 (l.fdiv (2 ^ (min ((W ((W ((W (e+(W ((za3 z01 (IntKind.wrap .u8 (b)))))))-1))-h)):Int).toNat 64)))&&& BitVec.ofInt 64 1).toNat)):Int)==1)=true then(ck (a≠0) (ck (a≠0) ((z7x φ (g.tmod a) (c.tmod a)).bind λk=>((z6r φ k.1 k.2.1 a).bind λm=>(d c f m.2.1 i (W (j+1)) a))))) else(d c f g i (W (j+1)) a))))
def z8x(φ:Nat)(b :(Int->Int->Int->Int->Int->Int->Option (Int×Unit)))(a c d e f g h i j k:Int):Option (Int×Unit):=(if(decide ((256:Int)<=a))=true then(if 0<=(8:Int) then(z8y φ b ((a.fdiv (2 ^ (min (8:Int).toNat 64)))) (W (c+8)) d e f g h i j k) else none) else(z8y φ b a c d e f g h i j k))
def z3y(φ:Nat)(b :(Int->Int->Int->Int->Int->Int->Option (Int×Unit)))(a c d e f g h i j k:Int):Option (Int×Unit):=(if(decide ((65536:Int)<=a))=true then(if 0<=(16:Int) then(z8x φ b ((a.fdiv (2 ^ (min (16:Int).toNat 64)))) (W (c+16)) d e f g h i j k) else none) else(z8x φ b a c d e f g h i j k))
def z0s(φ:Nat):Nat->Int->Int->Int->Int->Int->Int->Option (Int×Unit)
 |0,_,_,_,_,_,_=>none
 |f+1,g,a,d,e,c,b=>(if(decide (c<e))=true then(ck (b≠0) (ck (b≠0) ((z7x φ (d.tmod b) (d.tmod b)).bind λh=>((z6r φ h.1 h.2.1 b).bind λi=>(if(decide ((4294967296:Int)<=a))=true then(if 0<=(32:Int) then(z3y φ (z0s φ f) ((a.fdiv (2 ^ (min (32:Int).toNat 64)))) 32 g a i.2.1 c e c a b) else none) else(z3y φ (z0s φ f) a 0 g a i.2.1 c e c a b)))))) else(some (d,())))
def z8w(φ:Nat)(a b c d e f:Int):Option (Int×Unit):=(ck (rg (IntKind.wrap .u8 (a)) z01.size) (z0s φ φ c d e ((W (b+(W ((za3 z01 (IntKind.wrap .u8 (a)))))))) 0 f))
def z8v(φ:Nat)(a b c d e f:Int):Option (Int×Unit):=(if(decide ((256:Int)<=a))=true then(if 0<=(8:Int) then(z8w φ ((a.fdiv (2 ^ (min (8:Int).toNat 64)))) (W (b+8)) c d e f) else none) else(z8w φ a b c d e f))
def zbe(φ:Nat)(a b c d e f:Int):Option (Int×Unit):=(if(decide ((65536:Int)<=a))=true then(if 0<=(16:Int) then(z8v φ ((a.fdiv (2 ^ (min (16:Int).toNat 64)))) (W (b+16)) c d e f) else none) else(z8v φ a b c d e f))
def zhl(φ:Nat)(b a:Int):Option (Int×Unit):=(if(decide ((4294967296:Int)<=a))=true then(if 0<=(32:Int) then(zbe φ ((a.fdiv (2 ^ (min (32:Int).toNat 64)))) 32 b a 1 2305843009213690799) else none) else(zbe φ a 0 b a 1 2305843009213690799))
def ziv(φ:Nat):Fsp TV:=⟨[6,6],[.val 6],kk2 (zhl φ)⟩
def zfv(φ:Nat)(a:Int):Option (Bool×Unit):=((z0r (default,()) (((decide ((2:Int)<=a))&&(decide (a<2305843009213690799)))=true) (zhl φ a 1152921504606845399)).bind λb=>(some ((((decide ((2:Int)<=a))&&(decide (a<2305843009213690799)))&&(b.1==1)),())))
def zfg(φ:Nat):Fsp TV:=⟨[6],[.val 27],λz=>zfv φ z.1⟩
def z14(φ:Nat):Nat->Bool->(List z4s)->Int->Int->Option (Int×Unit)
 |0,_,_,_,_=>none
 |f+1,b,c,d,a=>(if(decide (a<d))=true then(ck (rg a c.length) ((z0r (default,()) (b=false) (z8h φ ((gt c a).calendar))).bind λe=>((z0r (default,()) ((b||(e.1 !=0))=false) (zfv φ ((gt c a).key))).bind λg=>((z14 φ f) (((b||(e.1 !=0))||(!g.1))) c d (W (a+1)))))) else(if b=true then(some (1,())) else(some (0,()))))
def z13(φ:Nat):Nat->Int->Bool->(List Edge)->Int->Int->Pool->Option (Int×Unit)
 |0,_,_,_,_,_,_=>none
 |g+1,d,e,b,f,a,c=>(if(decide (a<f))=true then(ck (rg a b.length) ((z13 φ g) d ((e||(decide (d<=(gt b a).railway)))) b f (W (a+1)) c)) else(z14 φ φ e c.railways (c.railways.length:Int) 0))
def z12(φ:Nat):Nat->Int->Bool->(List zec)->Int->Int->Pool->Option (Int×Unit)
 |0,_,_,_,_,_,_=>none
 |g+1,b,e,c,f,a,d=>(if(decide (a<f))=true then(ck (rg a c.length) ((z12 φ g) b (((e||(decide (b<=(gt c a).railway)))||(decide (b<=(gt c a).other)))) c f (W (a+1)) d)) else(z13 φ φ b e d.network.edges (d.network.edges.length:Int) 0 d))
def z11(φ:Nat):Nat->(List zec)->Int->Bool->(List znf)->Int->Int->Pool->Option (Int×Unit)
 |0,_,_,_,_,_,_,_=>none
 |h+1,a,d,e,c,f,b,g=>(if(decide (b<f))=true then(ck (rg b c.length) ((z11 φ h) a d ((e||(decide (((a.length:Int):Int)<=(gt c b).home)))) c f (W (b+1)) g)) else(z12 φ φ d e a (a.length:Int) 0 g))
def z10(φ:Nat):Nat->(List zec)->Int->Bool->(List zcs)->Int->Int->Pool->Option (Int×Unit)
 |0,_,_,_,_,_,_,_=>none
 |i+1,b,f,d,c,g,a,e=>(if(decide (a<g))=true then(ck (rg a c.length) ((z0r (default,()) (d=false) (zt φ ((gt c a).place) 0 (W ((b.length:Int)-1)))).bind λh=>(ck (((d||(!h.1))=false)->rg (gt c a).place b.length) ((z10 φ i) b f (((d||(!h.1))||(((gt b ((gt c a).place)).kind:Int) !=4))) c g (W (a+1)) e)))) else(z11 φ φ b f d e.fleet.wagons (e.fleet.wagons.length:Int) 0 e))
def z1u(φ:Nat):Nat->(List zec)->Int->Bool->(List zgk)->Int->Int->Pool->Option (Int×Unit)
 |0,_,_,_,_,_,_,_=>none
 |h+1,d,f,e,b,g,a,c=>(if(decide (a<g))=true then(ck (rg a b.length) ((z0r (default,()) (e=false) (zt φ ((gt b a).place) 0 (W ((d.length:Int)-1)))).bind λi=>((z1u φ h) d f (((((e||(!i.1))||(decide (((gt b a).low:Int)<(-1000))))||(decide (((gt b a).high:Int)<(gt b a).low)))||(decide ((1000:Int)<(gt b a).high)))) b g (W (a+1)) c))) else(z10 φ φ d f e c.shippers (c.shippers.length:Int) 0 c))
def z1f(φ:Nat)(a:Pool):Option (Int×Unit):=((z7h φ a.network).bind λb=>(if(b.1 !=0)=true then(some (b.1,())) else((z83 φ a.fleet).bind λc=>(if(c.1 !=0)=true then(some (c.1,())) else(if(((decide ((256:Int)<(a.readers.length:Int)))||(decide ((256:Int)<(a.shippers.length:Int))))||(decide ((16:Int)<(a.railways.length:Int))))=true then(some (2,())) else(z1u φ φ a.network.places (a.railways.length:Int) (((a.railways.length:Int):Int)==0) a.readers (a.readers.length:Int) 0 a))))))
def z4b(φ:Nat):Fsp TV:=⟨[26],[.val 0],λz=>z1f φ z.1⟩
def z0b(φ:Nat)(a b c:Int):Option (Bool×Unit):=(some (((decide (b<=a))&&(decide (a<=c))),()))
def z5t(φ:Nat):Fsp TV:=⟨[0,0,0],[.val 27],kk3 (z0b φ)⟩
def z24(φ:Nat)(e:Pool)(a:zb):Option (Bool×Unit):=((z0b φ a.type_ 0 (W ((e.fleet.types.length:Int)-1))).bind λb=>((z0r (default,()) (b.1=true) (z0b φ a.class_ (-1) 63)).bind λc=>((z0r (default,()) ((b.1&&c.1)=true) (z0b φ a.place 0 (W ((e.network.places.length:Int)-1)))).bind λd=>((z0r (default,()) (((b.1&&c.1)&&d.1)=true) (z0b φ a.at_ 0 1073741824)).bind λf=>((z0r (default,()) ((((b.1&&c.1)&&d.1)&&f.1)=true) (z0b φ a.count 1 4096)).bind λg=>(some (((((b.1&&c.1)&&d.1)&&f.1)&&g.1),())))))))
def z4y(φ:Nat):Fsp TV:=⟨[26,29],[.val 27],kk2 (z24 φ)⟩
def z2u(φ:Nat)(f:Pool)(a:zk):Option (Bool×Unit):=((z0b φ a.type_ 0 (W ((f.fleet.types.length:Int)-1))).bind λb=>((z0r (default,()) (b.1=true) (z0b φ a.class_ 0 63)).bind λc=>((z0r (default,()) ((b.1&&c.1)=true) (z0b φ a.place 0 (W ((f.network.places.length:Int)-1)))).bind λd=>((z0r (default,()) (((b.1&&c.1)&&d.1)=true) (z0b φ a.from_ 0 a.to)).bind λe=>((z0r (default,()) (((((b.1&&c.1)&&d.1)&&e.1)&&(decide ((a.to:Int)<=1073741824)))=true) (z0b φ a.count 1 1000)).bind λg=>((z0r (default,()) ((((((b.1&&c.1)&&d.1)&&e.1)&&(decide ((a.to:Int)<=1073741824)))&&g.1)=true) (z0b φ a.weight 0 1000000000)).bind λh=>(some (((((((b.1&&c.1)&&d.1)&&e.1)&&(decide ((a.to:Int)<=1073741824)))&&g.1)&&h.1),()))))))))
def z5g(φ:Nat):Fsp TV:=⟨[26,30],[.val 27],kk2 (z2u φ)⟩
def z4j(φ:Nat)(d :((List Edge)->Int->Int->z02->(List (List Int))->(List ((Nat->Int)×Int))->Option (zu×Int×Unit)))(b e:Int)(c:Bool)(f :(List Edge))(g h:Int)(a:z02)(k :(Nat->Int))(i :(List (List Int)))(j :(List ((Nat->Int)×Int))):Option (zu×Int×Unit):=(ck (((!c)=false)->rg b a.edges.length) (ck (((!c)=false)->rg e a.edges.length) (if((!c)||(decide (((gt a.edges b).minutes:Int)<(gt a.edges e).minutes)))=true then(d f g (W (h+1)) a i (cset z54 j k b)) else(d f g (W (h+1)) a i j))))
def z4k(φ:Nat)(d :((List Edge)->Int->Int->z02->(List (List Int))->(List ((Nat->Int)×Int))->Option (zu×Int×Unit)))(b e:Int)(c:Bool)(f :(List Edge))(g h:Int)(a:z02)(k :(Nat->Int))(i :(List (List Int)))(j :(List ((Nat->Int)×Int))):Option (zu×Int×Unit):=(ck (((!c)=false)->rg b a.edges.length) (ck (((!c)=false)->rg e a.edges.length) (if((!c)||(decide (((gt a.edges b).minutes:Int)<(gt a.edges e).minutes)))=true then(d f g (W (h+1)) a i (cset z54 j k b)) else(d f g (W (h+1)) a i j))))
def z4i(φ:Nat)(i :((List Edge)->Int->Int->z02->(List (List Int))->(List ((Nat->Int)×Int))->Option (zu×Int×Unit)))(f o:Int)(n:Bool)(j:Int)(k :(List Edge))(l m:Int)(g:z02)(h :(Nat->Int))(c:Edge)(d :(List (List Int)))(e :(List ((Nat->Int)×Int))):Option (zu×Int×Unit):=(ck (((!n)=false)->rg f g.edges.length) (ck (((!n)=false)->rg o g.edges.length) (if((!n)||(decide (((gt g.edges f).minutes:Int)<(gt g.edges o).minutes)))=true then(if(!(cget z54 (cset z54 e h f) ((upd (upd (λ_=>(default:Int)) 0 c.b) 1 c.a))).isSome)=true then(ck (rg c.b d.length) (ck (rg c.b d.length) (ck ((c.b:Int)=c.b) (ck (fits ((gt d c.b).length+([c.a]).length) 8) (ck (rg c.b d.length) (ck ((c.b:Int)=c.b) (z4j φ i j (((cget z54 (cset z54 e h f) ((upd (upd (λ_=>(default:Int)) 0 c.b) 1 c.a))).getD (default:Int))) ((cget z54 (cset z54 e h f) ((upd (upd (λ_=>(default:Int)) 0 c.b) 1 c.a))).isSome) k l m g ((upd (upd (λ_=>(default:Int)) 0 c.b) 1 c.a)) (zq d c.b ((gt d c.b)++[c.a])) (cset z54 e h f)))))))) else(z4j φ i j (((cget z54 (cset z54 e h f) ((upd (upd (λ_=>(default:Int)) 0 c.b) 1 c.a))).getD (default:Int))) ((cget z54 (cset z54 e h f) ((upd (upd (λ_=>(default:Int)) 0 c.b) 1 c.a))).isSome) k l m g ((upd (upd (λ_=>(default:Int)) 0 c.b) 1 c.a)) d (cset z54 e h f))) else(if(!(cget z54 e ((upd (upd (λ_=>(default:Int)) 0 c.b) 1 c.a))).isSome)=true then(ck (rg c.b d.length) (ck (rg c.b d.length) (ck ((c.b:Int)=c.b) (ck (fits ((gt d c.b).length+([c.a]).length) 8) (ck (rg c.b d.length) (ck ((c.b:Int)=c.b) (z4k φ i j (((cget z54 e ((upd (upd (λ_=>(default:Int)) 0 c.b) 1 c.a))).getD (default:Int))) ((cget z54 e ((upd (upd (λ_=>(default:Int)) 0 c.b) 1 c.a))).isSome) k l m g ((upd (upd (λ_=>(default:Int)) 0 c.b) 1 c.a)) (zq d c.b ((gt d c.b)++[c.a])) e))))))) else(z4k φ i j (((cget z54 e ((upd (upd (λ_=>(default:Int)) 0 c.b) 1 c.a))).getD (default:Int))) ((cget z54 e ((upd (upd (λ_=>(default:Int)) 0 c.b) 1 c.a))).isSome) k l m g ((upd (upd (λ_=>(default:Int)) 0 c.b) 1 c.a)) d e)))))
def z1w(φ:Nat):Nat->Int->Int->(List (List Int))->(List ((Nat->Int)×Int))->Option (zu×Int×Unit)
 |0,_,_,_,_=>none
 |e+1,c,a,b,d=>(if(decide (a<c))=true then(ck (rg a b.length) (ck (rg a b.length) (ck (a=a) ((zr5 (gt b a)).bind λf=>((z1w φ e) c (W (a+1)) (zq b a f) d))))) else(some ((⟨b,d⟩:zu),0,())))
def z05(φ:Nat):Nat->(List Edge)->Int->Int->z02->(List (List Int))->(List ((Nat->Int)×Int))->Option (zu×Int×Unit)
 |0,_,_,_,_,_,_=>none
 |h+1,d,g,c,i,e,f=>(if(decide (c<g))=true then(ck (rg c d.length) (if(!(cget z54 f ((upd (upd (λ_=>(default:Int)) 0 ((gt d c).a)) 1 ((gt d c).b)))).isSome)=true then(ck (rg (gt d c).a e.length) (ck (rg (gt d c).a e.length) (ck (((gt d c).a:Int) =(gt d c).a) (ck (fits ((gt e ((gt d c).a)).length+([(gt d c).b]).length) 8) (ck (rg (gt d c).a e.length) (ck (((gt d c).a:Int) =(gt d c).a) (z4i φ (z05 φ h) c (((cget z54 f ((upd (upd (λ_=>(default:Int)) 0 ((gt d c).a)) 1 ((gt d c).b)))).getD (default:Int))) ((cget z54 f ((upd (upd (λ_=>(default:Int)) 0 ((gt d c).a)) 1 ((gt d c).b)))).isSome) c d g c i ((upd (upd (λ_=>(default:Int)) 0 ((gt d c).a)) 1 ((gt d c).b))) (gt d c) ((zq e ((gt d c).a) (((gt e ((gt d c).a))++[(gt d c).b])))) f))))))) else(z4i φ (z05 φ h) c (((cget z54 f ((upd (upd (λ_=>(default:Int)) 0 ((gt d c).a)) 1 ((gt d c).b)))).getD (default:Int))) ((cget z54 f ((upd (upd (λ_=>(default:Int)) 0 ((gt d c).a)) 1 ((gt d c).b)))).isSome) c d g c i ((upd (upd (λ_=>(default:Int)) 0 ((gt d c).a)) 1 ((gt d c).b))) (gt d c) e f))) else(z1w φ φ (e.length:Int) 0 e f))
def z3o(φ:Nat):Nat->(List Int)->Int->Int->z02->(List (List Int))->Option (zu×Int×Unit)
 |0,_,_,_,_,_=>none
 |f+1,c,d,b,a,e=>(if(decide (b<d))=true then(ck (rg b c.length) (if((decide (((gt c b):Int)<0))||(decide (((a.places.length:Int):Int)<=(gt c b))))=true then(some ((⟨e,([] :(List ((Nat->Int)×Int)))⟩:zu),1,())) else((z3o φ f) c d (W (b+1)) a e))) else(ck (zd (a.places.length:Int) 24) (z05 φ φ a.edges (a.edges.length:Int) 0 a (List.replicate ((a.places.length:Int):Int).toNat (default :(List Int))) (([] :(List ((Nat->Int)×Int)))))))
def z7k(φ:Nat)(a:z02)(b :(List Int)):Option (zu×Int×Unit):=((z7h φ a).bind λc=>(if(c.1 !=0)=true then(some ((⟨([]:List (List Int)),([] :(List ((Nat->Int)×Int)))⟩:zu),c.1,())) else(z3o φ φ b (b.length:Int) 0 a ([]:List (List Int)))))
def zb9(φ:Nat):Fsp TV:=⟨[5,22],[.val 34,.val 0],kk2 (z7k φ)⟩
def z1y(φ:Nat)(g :(z02->zu->(List Int)->(List Bool)->Option ((List Int)×Unit))):Nat->Int->(List Int)->Int->Int->z02->zu->(List Int)->(List Bool)->Option ((List Int)×Unit)
 |0,_,_,_,_,_,_,_,_=>none
 |j+1,d,b,h,a,e,f,c,i=>(if(decide (a<h))=true then(ck (rg a b.length) (ck (rg d c.length) (ck (rg (((cget z54 f.line ((upd (upd (λ_=>(default:Int)) 0 d) 1 (gt b a)))).getD (default:Int))) e.edges.length) (ck (rg (gt b a) c.length) (ck (((decide (((gt c (gt b a)):Int)<0))=false)->rg (gt b a) c.length) (if((decide (((gt c (gt b a)):Int)<0))||(decide (((W ((gt c d)+((gt e.edges (((cget z54 f.line ((upd (upd (λ_=>(default:Int)) 0 d) 1 (gt b a)))).getD (default:Int))))).minutes)):Int)<(gt c (gt b a)))))=true then(ck (rg (gt b a) c.length) ((z1y φ g j) d b h (W (a+1)) e f ((zq c (gt b a) ((W ((gt c d)+((gt e.edges (((cget z54 f.line ((upd (upd (λ_=>(default:Int)) 0 d) 1 (gt b a)))).getD (default:Int))))).minutes))))) i)) else((z1y φ g j) d b h (W (a+1)) e f c i))))))) else(g e f c i))
def z1x(φ:Nat)(f :(z02->zu->(List Int)->(List Bool)->Option ((List Int)×Unit))):Nat->Int->Int->Int->z02->zu->(List Int)->(List Bool)->Option ((List Int)×Unit)
 |0,_,_,_,_,_,_,_=>none
 |i+1,b,g,a,h,e,c,d=>(if(decide (a<g))=true then(ck (rg a c.length) (ck (((decide ((0:Int)<=(gt c a)))=true)->rg a d.length) (ck ((((decide ((0:Int)<=(gt c a)))&&(!(gt d a)))=true/\(decide (b<0))=false)->rg a c.length) (ck ((((decide ((0:Int)<=(gt c a)))&&(!(gt d a)))=true/\(decide (b<0))=false)->rg b c.length) (if(((decide ((0:Int)<=(gt c a)))&&(!(gt d a)))&&((decide (b<0))||(decide (((gt c a):Int)<(gt c b)))))=true then((z1x φ f i) a g (W (a+1)) h e c d) else((z1x φ f i) b g (W (a+1)) h e c d)))))) else(if(decide (b<0))=true then(some (c,())) else(ck (rg b d.length) (ck (rg b e.near.length) (z1y φ f φ b (gt e.near b) ((gt e.near b).length:Int) 0 h e c (zq d b true))))))
def z06(φ:Nat):Nat->z02->zu->(List Int)->(List Bool)->Option ((List Int)×Unit)
 |0,_,_,_,_=>none
 |b+1,c,d,a,e=>(z1x φ (z06 φ b) φ (-1) (a.length:Int) 0 c d a e)
def z35(φ:Nat):Nat->Int->Int->Int->z02->zu->(List Int)->(List Bool)->Option ((List Int)×Unit)
 |0,_,_,_,_,_,_,_=>none
 |h+1,c,d,a,e,f,b,g=>(if(decide (a<d))=true then(ck (rg a b.length) ((z35 φ h) c d (W (a+1)) e f (zq b a (-1)) g)) else(ck (rg c b.length) (z06 φ φ e f (zq b c 0) g)))
def z9v(φ:Nat)(a:z02)(b:zu)(c:Int):Option ((List Int)×Unit):=(ck (zd (a.places.length:Int) 8) (ck (zd (((List.replicate ((a.places.length:Int):Int).toNat (default:Int)).length:Int)) 1) (z35 φ φ c (((List.replicate ((a.places.length:Int):Int).toNat (default:Int)).length:Int)) 0 a b (List.replicate ((a.places.length:Int):Int).toNat (default:Int)) ((List.replicate (((List.replicate ((a.places.length:Int):Int).toNat (default:Int)).length:Int):Int).toNat (default:Bool))))))
def zbd(φ:Nat):Fsp TV:=⟨[5,34,0],[.val 22],kk3 (z9v φ)⟩
def z3c(φ:Nat)(d:z02)(e a:Int):Option (Int×Int×Unit):=((z7k φ d ([e,a])).bind λb=>(if(b.2.1 !=0)=true then(some (0,b.2.1,())) else((z9v φ d b.1 e).bind λc=>(ck (rg a c.1.length) (if(decide (((gt c.1 a):Int)<0))=true then(some (0,80,())) else(some ((gt c.1 a),0,())))))))
def z8a(φ:Nat):Fsp TV:=⟨[5,0,0],[.val 0,.val 0],kk3 (z3c φ)⟩
def zgz(φ:Nat)(a:Wash)(b c:Int):Option (Bool×Unit):=(some ((((a.from_:Int)==b)&&((a.to:Int)==c)),()))
def zaf(φ:Nat):Csp TV:=⟨[13],[.b (.val 0),.b (.val 0)],[.val 27],λz b=>zgz φ z.1 b.1 b.2.1⟩
def z4c(φ:Nat):Nat->(List Wash)->Int->Int->Int->Int->z4r->Option (Int×Int×Unit)
 |0,_,_,_,_,_,_=>none
 |g+1,b,d,a,e,f,c=>(if(decide (a<d))=true then(ck (rg a b.length) ((zgz φ (gt b a) e f).bind λh=>(if h.1=true then(if(decide (a<0))=true then(some (0,0,())) else(ck (rg a c.washes.length) (some ((gt c.washes a).minutes,0,())))) else((z4c φ g) b d (W (a+1)) e f c)))) else(some (0,0,())))
def zad(φ:Nat)(a:z4r)(b c:Int):Option (Int×Int×Unit):=((z83 φ a).bind λd=>(if(d.1 !=0)=true then(some (0,d.1,())) else((zt φ b 0 63).bind λe=>((z0r (default,()) ((!e.1)=false) (zt φ c 0 63)).bind λf=>(if((!e.1)||(!f.1))=true then(some (0,1,())) else(z4c φ φ a.washes (a.washes.length:Int) 0 b c a))))))
def zd9(φ:Nat):Fsp TV:=⟨[15,0,0],[.val 0,.val 0],kk3 (zad φ)⟩
def z2c(φ:Nat)(d :(Int->Bool->z4r->(Nat->Int)->Option ((List Swap)×Int×Unit))):Nat->Int->Bool->(List Swap)->Int->Int->z4r->(Nat->Int)->Option ((List Swap)×Int×Unit)
 |0,_,_,_,_,_,_,_=>none
 |h+1,e,i,b,f,a,g,c=>(if(decide (a<f))=true then(ck (rg a b.length) (ck (rg (gt b a).wanted 32) (ck (rg (gt b a).wanted 32) (ck (((decide ((0:Int)<=(c (((gt b a).wanted:Int).toNat))))=true)->rg (gt b a).given 32) (ck (((decide ((0:Int)<=(c (((gt b a).wanted:Int).toNat))))=true/\(decide (((c (((gt b a).given:Int).toNat)):Int)<0))=false)->rg (gt b a).given 32) (if((decide ((0:Int)<=(c (((gt b a).wanted:Int).toNat))))&&((decide (((c (((gt b a).given:Int).toNat)):Int)<0))||(decide (((W ((c (((gt b a).wanted:Int).toNat))+(gt b a).cost)):Int)<(c (((gt b a).given:Int).toNat))))))=true then(ck (rg (gt b a).given 32) ((z2c φ d h) e true b f (W (a+1)) g ((upd c (((gt b a).given:Int).toNat) ((W ((c (((gt b a).wanted:Int).toNat))+(gt b a).cost))))))) else((z2c φ d h) e i b f (W (a+1)) g c))))))) else(d e i g c))
def z2d(φ:Nat):Nat->Int->Int->Int->(Nat->Int)->(List Swap)->Option ((List Swap)×Int×Unit)
 |0,_,_,_,_,_=>none
 |f+1,c,e,a,b,d=>(if(decide (a<e))=true then(ck (rg a 32) (if(decide ((0:Int)<=(b (a.toNat))))=true then(ck (rg a 32) (ck (fits (d.length+([(⟨c,a,b (a.toNat)⟩:Swap)]).length) 24) ((z2d φ f) c e (W (a+1)) b ((d++[(⟨c,a,b (a.toNat)⟩:Swap)]))))) else((z2d φ f) c e (W (a+1)) b d))) else(some (d,0,())))
def z2b(φ:Nat):Nat->Int->Bool->z4r->(Nat->Int)->Option ((List Swap)×Int×Unit)
 |0,_,_,_,_=>none
 |d+1,b,e,a,c=>(if e=true then(z2c φ (z2b φ d) φ b false a.swaps (a.swaps.length:Int) 0 a c) else(z2d φ φ b (a.types.length:Int) 0 c ([]:List Swap)))
def z52(φ:Nat):Nat->Int->Int->z4r->(Nat->Int)->Option ((List Swap)×Int×Unit)
 |0,_,_,_,_=>none
 |e+1,a,b,c,d=>(if(decide (b<32))=true then(ck (rg b 32) ((z52 φ e) a (W (b+1)) c (upd d (b.toNat) (-1)))) else(ck (rg a 32) (z2b φ φ a true c (upd d (a.toNat) 0))))
def zda(φ:Nat)(a:z4r)(b:Int):Option ((List Swap)×Int×Unit):=((z83 φ a).bind λc=>(if(c.1 !=0)=true then(some (([]:List Swap),c.1,())) else((zt φ b 0 (W ((a.types.length:Int)-1))).bind λd=>(if(!d.1)=true then(some (([]:List Swap),90,())) else(z52 φ φ b 0 a (λ_=>(default:Int)))))))
def zdc(φ:Nat):Fsp TV:=⟨[15,0],[.val 12,.val 0],kk2 (zda φ)⟩
def zeq(φ:Nat)(a:Swap)(b:zb):Option (Bool×Unit):=(some (((a.given:Int)==b.type_),()))
def z82(φ:Nat):Csp TV:=⟨[11],[.b (.val 29)],[.val 27],λz b=>zeq φ z.1 b.1⟩
def z32(φ:Nat):Nat->(List Swap)->Int->Int->Int->(List Swap)->zb->zk->Option (Int×Bool×Unit)
 |0,_,_,_,_,_,_,_=>none
 |h+1,f,g,a,b,c,d,e=>(if(decide (a<g))=true then(ck (rg a f.length) ((zeq φ (gt f a) d).bind λi=>(if i.1=true then(ck ((((decide (a<0))||(decide ((e.to:Int)<(W (d.at_+b)))))=false)->rg a c.length) (if(((decide (a<0))||(decide ((e.to:Int)<(W (d.at_+b)))))||(decide ((1000000000:Int)<(W (b+(gt c a).cost)))))=true then(some (0,false,())) else(ck (rg a c.length) (some ((W (b+(gt c a).cost)),true,()))))) else((z32 φ h) f g (W (a+1)) b c d e)))) else(ck (((true||(decide ((e.to:Int)<(W (d.at_+b)))))=false)->rg (-1) c.length) (if((true||(decide ((e.to:Int)<(W (d.at_+b)))))||(decide ((1000000000:Int)<(W (b+(gt c (-1)).cost)))))=true then(some (0,false,())) else(ck (rg (-1) c.length) (some ((W (b+(gt c (-1)).cost)),true,()))))))
def z1k(φ:Nat)(c:Int)(d:Pool)(e:zb)(b:zk):Option (Int×Bool×Unit):=((zda φ d.fleet b.type_).bind λa=>(z32 φ φ a.1 (a.1.length:Int) 0 c a.1 e b))
def z1e(φ:Nat)(b:Pool)(a:zb)(c:zk):Option (Int×Bool×Unit):=((z3c φ b.network a.place c.place).bind λd=>(ck (((d.2.1 !=0)=false)->rg a.type_ b.fleet.types.length) (ck (((d.2.1 !=0)=false)->0<=c.class_) (if((d.2.1 !=0)||(((U ((BitVec.ofInt 64 (((gt b.fleet.types a.type_).classes:Int).fdiv (2 ^ (min (c.class_:Int).toNat 64)))&&& BitVec.ofInt 64 1).toNat)):Int)==0))=true then(some (0,false,())) else(if(decide ((0:Int)<=a.class_))=true then((zad φ b.fleet a.class_ c.class_).bind λe=>(z1k φ (W (d.1+e.1)) b a c)) else(z1k φ d.1 b a c))))))
def z5h(φ:Nat):Fsp TV:=⟨[26,29,30],[.val 0,.val 27],kk3 (z1e φ)⟩
def z8r(φ:Nat)(a:Pool)(b:zb)(c:zk):Option (Int×Bool×Int×Unit):=((z1f φ a).bind λd=>(if(d.1 !=0)=true then(some (0,false,d.1,())) else((z24 φ a b).bind λe=>((z0r (default,()) ((!e.1)=false) (z2u φ a c)).bind λg=>(if((!e.1)||(!g.1))=true then(some (0,false,1,())) else((z1e φ a b c).bind λf=>(some (f.1,f.2.1,0,()))))))))
def z8j(φ:Nat):Fsp TV:=⟨[26,29,30],[.val 0,.val 27,.val 0],kk3 (z8r φ)⟩
def zal(φ:Nat)(c d e b:Int):Option (Bool×Unit):=((za0 φ).bind λf=>((z8r φ f.1 (⟨c,1,0,100,1⟩:zb) (⟨d,2,1,0,e,1,0⟩:zk)).bind λa=>(some ((((a.2.2.1==0)&&(a.2.1==(decide ((0:Int)<=b))))&&(a.1==(max2 0 b))),()))))
def zdl(φ:Nat):Fsp TV:=⟨[0,0,0,0],[.val 27],kk4 (zal φ)⟩
def z0v(φ:Nat)(b :(List Int))(a :(List Arc)):Option (zh×Int×Unit):=(if(decide ((2048:Int)<(a.length:Int)))=true then(some ((⟨([]:List Int),([]:List Arc)⟩:zh),2,())) else(some ((⟨b,a⟩:zh),0,())))
def z0u(φ:Nat)(j :(Int->Int->(List zb)->Int->Int->(List zb)->(List zk)->Pool->(List Int)->(List Arc)->Option (zh×Int×Unit))):Nat->Int->Int->Int->(List zb)->Int->Int->(List zk)->Int->Int->(List zb)->(List zk)->Pool->zb->(List Int)->(List Arc)->Option (zh×Int×Unit)
 |0,_,_,_,_,_,_,_,_,_,_,_,_,_,_,_=>none
 |r+1,k,l,e,m,n,o,b,p,a,c,q,g,d,h,f=>(if(decide (a<p))=true then(ck (rg a b.length) ((z1e φ g d (gt b a)).bind λi=>(if i.2.1=true then(ck (fits (f.length+([(⟨e,W ((c.length:Int)+a),min2 d.count ((gt b a).count),i.1⟩:Arc)]).length) 32) (if(!true)=true then(z0v φ h ((f++[(⟨e,W ((c.length:Int)+a),min2 d.count ((gt b a).count),i.1⟩:Arc)]))) else((z0u φ j r) k l e m n o b p (W (a+1)) c q g d h ((f++[(⟨e,W ((c.length:Int)+a),min2 d.count ((gt b a).count),i.1⟩:Arc)]))))) else((z0u φ j r) k l e m n o b p (W (a+1)) c q g d h f)))) else(j k l m n (W (o+1)) c q g h f))
def z1d(φ:Nat):Nat->Int->Int->(List zb)->Int->Int->(List Int)->(List Arc)->Option (zh×Int×Unit)
 |0,_,_,_,_,_,_,_=>none
 |h+1,b,e,c,g,a,f,d=>(if(decide (a<g))=true then(ck (rg a c.length) (ck (fits (d.length+([(⟨a,W (b+1),(gt c a).count,0⟩:Arc)]).length) 32) (if(!true)=true then(z0v φ f (d++[(⟨a,W (b+1),(gt c a).count,0⟩:Arc)])) else((z1d φ h) b e c g (W (a+1)) f (d++[(⟨a,W (b+1),(gt c a).count,0⟩:Arc)]))))) else(ck (fits (d.length+([(⟨b,W (b+1),e,0⟩:Arc)]).length) 32) (z0v φ f (d++[(⟨b,W (b+1),e,0⟩:Arc)]))))
def z0n(φ:Nat):Nat->Int->Int->(List zk)->Int->Int->(List zb)->(List Int)->(List Arc)->Option (zh×Int×Unit)
 |0,_,_,_,_,_,_,_,_=>none
 |i+1,d,g,b,h,a,c,f,e=>(if(decide (a<h))=true then(ck (rg a b.length) (ck (fits (e.length+([(⟨d,W ((c.length:Int)+a),(gt b a).count,(gt b a).weight⟩:Arc)]).length) 32) (if(!true)=true then(z0v φ f ((e++[(⟨d,W ((c.length:Int)+a),(gt b a).count,(gt b a).weight⟩:Arc)]))) else((z0n φ i) d (W (g+(gt b a).count)) b h (W (a+1)) c f ((e++[(⟨d,W ((c.length:Int)+a),(gt b a).count,(gt b a).weight⟩:Arc)])))))) else(z1d φ φ d g c (c.length:Int) 0 f e))
def z1c(φ:Nat):Nat->Int->Int->(List zb)->Int->Int->(List zb)->(List zk)->Pool->(List Int)->(List Arc)->Option (zh×Int×Unit)
 |0,_,_,_,_,_,_,_,_,_,_=>none
 |j+1,d,e,c,f,a,g,b,k,h,i=>(if(decide (a<f))=true then(ck (rg a c.length) (z0u φ (z1c φ j) φ d e a c f a b (b.length:Int) 0 g b k (gt c a) h i)) else(z0n φ φ d e b (b.length:Int) 0 g h i))
def z1b(φ:Nat):Nat->(List zb)->(List zk)->Int->Int->(List zk)->Int->Int->Pool->(List Int)->(List Arc)->Option (zh×Int×Unit)
 |0,_,_,_,_,_,_,_,_,_,_=>none
 |k+1,c,g,e,f,b,i,a,h,d,j=>(if(decide (a<i))=true then(ck (rg a b.length) ((z2u φ h (gt b a)).bind λl=>(if(!l.1)=true then(some ((⟨([]:List Int),([]:List Arc)⟩:zh),1,())) else(ck (fits (d.length+([(W (0-(gt b a).count))]).length) 8) ((z1b φ k) c g e (W (f+(gt b a).count)) b i (W (a+1)) h ((d++[(W (0-(gt b a).count))])) j))))) else(ck (fits (d.length+([f,(W (0-e))]).length) 8) (if(decide ((256:Int)<((d++[f,(W (0-e))]).length:Int)))=true then(some ((⟨([]:List Int),([]:List Arc)⟩:zh),2,())) else(z1c φ φ (W ((c.length:Int)+(g.length:Int))) 0 c (c.length:Int) 0 c g h (d++[f,(W (0-e))]) j))))
def z29(φ:Nat):Nat->(List zb)->(List zk)->Int->Int->(List zb)->Int->Int->Pool->(List Int)->(List Arc)->Option (zh×Int×Unit)
 |0,_,_,_,_,_,_,_,_,_,_=>none
 |k+1,f,c,g,h,b,i,a,d,e,j=>(if(decide (a<i))=true then(ck (rg a b.length) ((z24 φ d (gt b a)).bind λl=>(if(!l.1)=true then(some ((⟨([]:List Int),([]:List Arc)⟩:zh),1,())) else(ck (fits (e.length+([(gt b a).count]).length) 8) ((z29 φ k) f c (W (g+(gt b a).count)) h b i (W (a+1)) d (e++[(gt b a).count]) j))))) else(z1b φ φ f c g h c (c.length:Int) 0 d e j))
def z4t(φ:Nat)(b:Pool)(a :(List zb))(d :(List zk)):Option (zh×Int×Unit):=((z1f φ b).bind λc=>(if(c.1 !=0)=true then(some ((⟨([]:List Int),([]:List Arc)⟩:zh),c.1,())) else(z29 φ φ a d 0 0 a (a.length:Int) 0 b ([]:List Int) ([]:List Arc))))
def z6z(φ:Nat):Fsp TV:=⟨[26,36,37],[.val 40,.val 0],kk3 (z4t φ)⟩
def z3t(φ:Nat)(a b c:Int):Option (Bool×Unit):=(some (((decide (b<=a))&&(decide (a<=c))),()))
def z6a(φ:Nat):Fsp TV:=⟨[0,0,0],[.val 27],kk3 (z3t φ)⟩
def z2x(φ:Nat):Nat->Int->(List Arc)->Int->Int->zh->Option (Int×Unit)
 |0,_,_,_,_,_=>none
 |i+1,f,b,g,a,d=>(if(decide (a<g))=true then(ck (rg a b.length) ((z3t φ ((gt b a).from_) 0 (W ((d.supply.length:Int)-1))).bind λc=>((z0r (default,()) ((!c.1)=false) (z3t φ ((gt b a).to) 0 (W ((d.supply.length:Int)-1)))).bind λe=>((z0r (default,()) ((((!c.1)||(!e.1))||(((gt b a).from_:Int)==(gt b a).to))=false) (z3t φ ((gt b a).cap) 0 1000000000)).bind λh=>((z0r (default,()) (((((!c.1)||(!e.1))||(((gt b a).from_:Int)==(gt b a).to))||(!h.1))=false) (z3t φ ((gt b a).cost) 0 1000000000)).bind λj=>(if(((((!c.1)||(!e.1))||(((gt b a).from_:Int)==(gt b a).to))||(!h.1))||(!j.1))=true then(some (1,())) else((z2x φ i) f b g (W (a+1)) d))))))) else(if(f !=0)=true then(some (360,())) else(some (0,()))))
def z5x(φ:Nat):Nat->Int->(List Int)->Int->Int->zh->Option (Int×Unit)
 |0,_,_,_,_,_=>none
 |f+1,d,b,e,a,c=>(if(decide (a<e))=true then(ck (rg a b.length) ((z3t φ (gt b a) (-1000000000) 1000000000).bind λg=>(if(!g.1)=true then(some (1,())) else((z5x φ f) (W (d+(gt b a))) b e (W (a+1)) c)))) else(z2x φ φ d c.arcs (c.arcs.length:Int) 0 c))
def z9x(φ:Nat)(a:zh):Option (Int×Unit):=(if((decide ((256:Int)<(a.supply.length:Int)))||(decide ((2048:Int)<(a.arcs.length:Int))))=true then(some (2,())) else(z5x φ φ 0 a.supply (a.supply.length:Int) 0 a))
def z8s(φ:Nat):Fsp TV:=⟨[40],[.val 0],λz=>z9x φ z.1⟩
def zc3(φ:Nat)(a:Bool)(d :(List Int))(e :(List Arc))(f g b h c :(List Int))(i j :(List (List Int))):Option (Flow×Int×Unit):=(if a=true then(some ((⟨([]:List Int),([]:List Int)⟩:Flow),360,())) else(some ((⟨b,c⟩:Flow),0,())))
def z2z(φ:Nat):Nat->Int->Int->(List Int)->(List Int)->(List Arc)->(List Int)->(List Int)->(List Int)->(List Int)->(List (List Int))->(List (List Int))->Option (Flow×Int×Unit)
 |0,_,_,_,_,_,_,_,_,_,_,_=>none
 |l+1,k,b,a,c,d,e,f,g,h,i,j=>(if(decide (b<k))=true then(ck (rg b a.length) (if(((gt a b):Int) !=0)=true then(zc3 φ (!false) c d e f g a h i j) else((z2z φ l) k (W (b+1)) a c d e f g h i j))) else(zc3 φ (!true) c d e f g a h i j))
def z25(φ:Nat)(j :((List Int)->(List Arc)->(List Int)->(List Int)->(List Int)->(List (List Int))->(List (List Int))->(List Int)->(List Int)->Option (Flow×Int×Unit)))(k:Bool)(b :(List Int))(c :(List Arc))(d a e :(List Int))(f g :(List (List Int)))(h i :(List Int)):Option (Flow×Int×Unit):=(if k=true then(j b c d a e f g h i) else(z2z φ φ (a.length:Int) 0 a b c h i d e f g))
def z5j(φ:Nat)(c :(Int->Int->(List Int)->(List Arc)->(List Int)->(List zg)->(List Int)->(List Int)->(List Int)->(List (List Int))->(List (List Int))->(List Int)->(List Int)->Option (Flow×Int×Unit)))(d b:Int)(e :(List Int))(f :(List Arc))(a :(List Int))(g :(List zg))(h i j :(List Int))(k l :(List (List Int)))(m n :(List Int)):Option (Flow×Int×Unit):=(ck (rg b a.length) (c d (gt a b) e f a g h i j k l m n))
def z2e(φ:Nat)(g :((List Int)->(List Arc)->(List Int)->(List Int)->(List Int)->(List (List Int))->(List (List Int))->(List Int)->(List Int)->Option (Flow×Int×Unit))):Nat->Int->Int->(List Int)->(List Arc)->(List Int)->(List zg)->(List Int)->(List Int)->(List Int)->(List (List Int))->(List (List Int))->(List Int)->(List Int)->Option (Flow×Int×Unit)
 |0,_,_,_,_,_,_,_,_,_,_,_,_,_=>none
 |o+1,f,a,h,c,e,b,d,i,j,k,l,m,n=>(ck (rg a e.length) (if(decide ((0:Int)<=(gt e a)))=true then(ck (rg a b.length) (ck (rg (gt b a).arc c.length) (ck (((((gt c ((gt b a).arc)).to:Int)==a)=true)->rg (gt b a).arc c.length) (ck (((((gt c ((gt b a).arc)).to:Int)==a)=true)->rg a e.length) (if((((gt c ((gt b a).arc)).to:Int)==a)&&(((gt c ((gt b a).arc)).from_:Int)==(gt e a)))=true then(ck (rg (gt b a).arc d.length) (ck (rg (gt b a).arc d.length) (z5j φ (z2e φ g o) f a h c e b ((zq d ((gt b a).arc) ((W ((gt d ((gt b a).arc))+f))))) i j k l m n))) else(ck (rg (gt b a).arc d.length) (ck (rg (gt b a).arc d.length) (z5j φ (z2e φ g o) f a h c e b ((zq d ((gt b a).arc) ((W ((gt d ((gt b a).arc))-f))))) i j k l m n)))))))) else(z25 φ g true h c d i j k l m n)))
def z0p(φ:Nat)(g :((List Int)->(List Arc)->(List Int)->(List Int)->(List Int)->(List (List Int))->(List (List Int))->(List Int)->(List Int)->Option (Flow×Int×Unit))):Nat->Int->Int->Int->(List Int)->(List Arc)->(List Int)->(List zg)->(List Int)->(List Int)->(List Int)->(List (List Int))->(List (List Int))->(List Int)->(List Int)->Option (Flow×Int×Unit)
 |0,_,_,_,_,_,_,_,_,_,_,_,_,_,_=>none
 |p+1,d,c,a,h,i,e,f,j,b,k,l,m,n,o=>(ck (rg a e.length) (if(decide ((0:Int)<=(gt e a)))=true then(ck (rg a f.length) (ck (rg a e.length) ((z0p φ g p) d (min2 c ((gt f a).room)) (gt e a) h i e f j b k l m n o))) else(ck (rg a b.length) (ck (rg a b.length) (ck (rg a b.length) (ck (rg d (((zq b a ((W ((gt b a)-(min2 c (gt b a))))))).length)) (ck (rg d (((zq b a ((W ((gt b a)-(min2 c (gt b a))))))).length)) (z2e φ g φ (min2 c (gt b a)) d h i e f j ((zq ((zq b a ((W ((gt b a)-(min2 c (gt b a))))))) d ((W ((gt ((zq b a ((W ((gt b a)-(min2 c (gt b a))))))) d)+(min2 c (gt b a))))))) k l m n o))))))))
def z0y(φ:Nat)(f :((List Int)->(List Arc)->(List Int)->(List Int)->(List Int)->(List (List Int))->(List (List Int))->(List Int)->(List Int)->Option (Flow×Int×Unit))):Nat->Int->Int->Int->Int->(List Int)->(List Arc)->(List Int)->(List zg)->(List Int)->(List Int)->(List Int)->(List Int)->(List (List Int))->(List (List Int))->(List Int)->(List Int)->Option (Flow×Int×Unit)
 |0,_,_,_,_,_,_,_,_,_,_,_,_,_,_,_,_=>none
 |r+1,b,g,h,a,i,j,k,l,e,m,d,c,n,o,p,q=>(if(decide (a<h))=true then(ck (rg a e.length) (ck (rg a c.length) (ck (rg a c.length) ((z0y φ f r) b g h (W (a+1)) i j k l e m d ((zq c a ((W ((gt c a)+(min2 (gt e a) g)))))) n o p q)))) else(ck (rg b d.length) (z0p φ f φ b (W (0-(gt d b))) b i j k l m d c n o p q)))
def z0o(φ:Nat)(e :((List Int)->(List Arc)->(List Int)->(List Int)->(List Int)->(List (List Int))->(List (List Int))->(List Int)->(List Int)->Option (Flow×Int×Unit))):Nat->Int->Int->Int->Int->(List Int)->(List Arc)->(List Int)->(List Int)->(List zg)->(List Int)->(List Int)->(List Int)->(List (List Int))->(List (List Int))->(List Int)->(List Int)->Option (Flow×Int×Unit)
 |0,_,_,_,_,_,_,_,_,_,_,_,_,_,_,_,_=>none
 |r+1,c,n,o,a,f,g,b,p,q,h,d,i,j,k,l,m=>(if(decide (a<o))=true then(ck (rg a b.length) (if(decide (((gt b a):Int)<1152921504606846976))=true then(ck (rg a d.length) (ck (((decide (((gt d a):Int)<0))=true/\(decide (c<0))=false)->rg c b.length) (if((decide (((gt d a):Int)<0))&&((decide (c<0))||(decide (((gt b a):Int)<(gt b c)))))=true then((z0o φ e r) a (max2 n (gt b a)) o (W (a+1)) f g b p q h d i j k l m) else((z0o φ e r) c (max2 n (gt b a)) o (W (a+1)) f g b p q h d i j k l m)))) else((z0o φ e r) c n o (W (a+1)) f g b p q h d i j k l m))) else(if(decide (c<0))=true then(z25 φ e false f g h d i j k l m) else(z0y φ e φ c n (b.length:Int) 0 f g p q b h d i j k l m)))
def z0q(φ:Nat)(b :((List Int)->(List Arc)->(List Int)->(List Int)->(List Int)->(List (List Int))->(List (List Int))->(List Int)->(List Int)->Option (Flow×Int×Unit)))(c :(List Int))(d :(List Arc))(a e :(List Int))(f :(List zg))(g h i :(List Int))(j k :(List (List Int)))(l m :(List Int)):Option (Flow×Int×Unit):=(z0o φ b φ (-1) 0 (a.length:Int) 0 c d a e f g h i j k l m)
def z2f(φ:Nat)(a :((List Int)->(List Arc)->(List Int)->(List Int)->(List Int)->(List (List Int))->(List (List Int))->(List Int)->(List Int)->Option (Flow×Int×Unit)))(b :(List Int))(c :(List Arc))(d e :(List Int))(f :(List zg))(g h i :(List Int))(j k :(List (List Int)))(l m :(List Int)):Option (Flow×Int×Unit):=(z0q φ a b c d e f g h i j k l m)
def z9d(φ:Nat)(a :((List Int)->(List Arc)->(List Int)->(List Int)->(List Int)->(List (List Int))->(List (List Int))->(List Int)->(List Int)->Option (Flow×Int×Unit)))(b :(List Int))(c :(List Arc))(d e :(List Int))(f :(List zg))(g h i :(List Int))(j k :(List (List Int)))(l m :(List Int)):Option (List (Option (Flow×Int×Unit))):=(catL [(catL [(catL [(some [(z0q φ a b c d e f g h i j k l m)])]),(catL [(catL [(some [(z0q φ a b c d e f g h i j k l m)])]),(catL [(catL [(some [(z0q φ a b c d e f g h i j k l m)])])])])]),(catL [(catL [(some [(z0q φ a b c d e f g h i j k l m)])]),(catL [(catL [(some [(z0q φ a b c d e f g h i j k l m)])])])]),(catL [(catL [(catL [(some [(z0q φ a b c d e f g h i j k l m)])]),(catL [(catL [(some [(z0q φ a b c d e f g h i j k l m)])])])]),(catL [(catL [(some [(z0q φ a b c d e f g h i j k l m)])])])])])
def z0i(φ:Nat)(k :(Int->(List Int)->(List Arc)->(List Bool)->(List Int)->(List Int)->(List Int)->(List (List Int))->(List (List Int))->(List Int)->(List Int)->(List zg)->(List Int)->(List Int)->Option (Flow×Int×Unit))):Nat->Int->Int->Int->Int->(List Int)->(List Int)->(List Arc)->(List Bool)->Int->(List Int)->(List Int)->(List Int)->(List (List Int))->(List (List Int))->Int->(List Int)->(List Int)->(List zg)->(List Int)->(List Int)->Option (Flow×Int×Unit)
 |0,_,_,_,_,_,_,_,_,_,_,_,_,_,_,_,_,_,_,_,_=>none
 |v+1,u,b,l,g,a,m,c,n,h,e,o,d,p,q,r,f,i,j,s,t=>(if(decide (b<u))=true then(ck (rg b a.length) (ck (rg (gt a b) c.length) (ck (rg (gt a b) e.length) (ck (((decide ((0:Int)<(gt e (gt a b))))=true)->rg g d.length) (ck (((decide ((0:Int)<(gt e (gt a b))))=true)->rg (gt c (gt a b)).from_ d.length) (ck (((decide ((0:Int)<(gt e (gt a b))))=true)->rg (gt a b) e.length) (if(decide ((0:Int)<(gt e (gt a b))))=true then(ck (rg h f.length) (ck (rg (gt c (gt a b)).from_ f.length) (if(decide (((W ((gt f h)+(W ((W ((gt d g)-(gt c (gt a b)).cost))-(gt d ((gt c (gt a b)).from_)))))):Int)<(gt f ((gt c (gt a b)).from_))))=true then(ck (rg (gt c (gt a b)).from_ f.length) (ck (rg (gt c (gt a b)).from_ i.length) (ck (rg (gt c (gt a b)).from_ j.length) (if(!true)=true then(k l m c n e o d p (zq q r a) ((zq f ((gt c (gt a b)).from_) ((W ((gt f h)+(W ((W ((gt d g)-(gt c (gt a b)).cost))-(gt d ((gt c (gt a b)).from_))))))))) ((zq i ((gt c (gt a b)).from_) h)) ((zq j ((gt c (gt a b)).from_) (((⟨gt a b,(gt c (gt a b)).from_,W ((W ((gt d g)-(gt c (gt a b)).cost))-(gt d ((gt c (gt a b)).from_))),gt e (gt a b)⟩:zg))))) s t) else((z0i φ k v) u (W (b+1)) l g a m c n h e o d p q r ((zq f ((gt c (gt a b)).from_) ((W ((gt f h)+(W ((W ((gt d g)-(gt c (gt a b)).cost))-(gt d ((gt c (gt a b)).from_))))))))) ((zq i ((gt c (gt a b)).from_) h)) ((zq j ((gt c (gt a b)).from_) (((⟨gt a b,(gt c (gt a b)).from_,W ((W ((gt d g)-(gt c (gt a b)).cost))-(gt d ((gt c (gt a b)).from_))),gt e (gt a b)⟩:zg))))) s t))))) else(if(!true)=true then(k l m c n e o d p (zq q r a) f i j s t) else((z0i φ k v) u (W (b+1)) l g a m c n h e o d p q r f i j s t))))) else((z0i φ k v) u (W (b+1)) l g a m c n h e o d p q r f i j s t)))))))) else(k l m c n e o d p (zq q r a) f i j s t))
def z0h(φ:Nat)(l :(Int->(List Int)->(List Arc)->(List Bool)->(List Int)->(List Int)->(List Int)->(List (List Int))->(List (List Int))->(List Int)->(List Int)->(List zg)->(List Int)->(List Int)->Option (Flow×Int×Unit))):Nat->Int->Int->Int->Int->(List Int)->(List Int)->(List Arc)->(List Bool)->Int->(List Int)->(List Int)->(List Int)->(List (List Int))->Int->(List (List Int))->(List Int)->(List Int)->(List zg)->(List Int)->(List Int)->Option (Flow×Int×Unit)
 |0,_,_,_,_,_,_,_,_,_,_,_,_,_,_,_,_,_,_,_,_=>none
 |v+1,u,b,m,e,a,n,c,o,h,g,p,d,q,r,i,f,j,k,s,t=>(if(decide (b<u))=true then(ck (rg b a.length) (ck (rg (gt a b) c.length) (ck (rg (gt a b) g.length) (ck (((decide ((0:Int)<(W ((gt c (gt a b)).cap-(gt g (gt a b))))))=true)->rg e d.length) (ck (((decide ((0:Int)<(W ((gt c (gt a b)).cap-(gt g (gt a b))))))=true)->rg (gt c (gt a b)).to d.length) (if(decide ((0:Int)<(W ((gt c (gt a b)).cap-(gt g (gt a b))))))=true then(ck (rg h f.length) (ck (rg (gt c (gt a b)).to f.length) (if(decide (((W ((gt f h)+(W ((W ((gt c (gt a b)).cost+(gt d e)))-(gt d ((gt c (gt a b)).to)))))):Int)<(gt f ((gt c (gt a b)).to))))=true then(ck (rg (gt c (gt a b)).to f.length) (ck (rg (gt c (gt a b)).to j.length) (ck (rg (gt c (gt a b)).to k.length) (if(!true)=true then(l m n c o g p d (zq q r a) i ((zq f ((gt c (gt a b)).to) ((W ((gt f h)+(W ((W ((gt c (gt a b)).cost+(gt d e)))-(gt d ((gt c (gt a b)).to))))))))) ((zq j ((gt c (gt a b)).to) h)) ((zq k ((gt c (gt a b)).to) (((⟨gt a b,(gt c (gt a b)).to,W ((W ((gt c (gt a b)).cost+(gt d e)))-(gt d ((gt c (gt a b)).to))),W ((gt c (gt a b)).cap-(gt g (gt a b)))⟩:zg))))) s t) else((z0h φ l v) u (W (b+1)) m e a n c o h g p d q r i ((zq f ((gt c (gt a b)).to) ((W ((gt f h)+(W ((W ((gt c (gt a b)).cost+(gt d e)))-(gt d ((gt c (gt a b)).to))))))))) ((zq j ((gt c (gt a b)).to) h)) ((zq k ((gt c (gt a b)).to) (((⟨gt a b,(gt c (gt a b)).to,W ((W ((gt c (gt a b)).cost+(gt d e)))-(gt d ((gt c (gt a b)).to))),W ((gt c (gt a b)).cap-(gt g (gt a b)))⟩:zg))))) s t))))) else(if(!true)=true then(l m n c o g p d (zq q r a) i f j k s t) else((z0h φ l v) u (W (b+1)) m e a n c o h g p d q r i f j k s t))))) else((z0h φ l v) u (W (b+1)) m e a n c o h g p d q r i f j k s t))))))) else(ck (rg e i.length) (ck (rg e i.length) (ck (e=e) (z0i φ l φ ((gt i e).length:Int) 0 m e (gt i e) n c o h g p d (zq q r a) i e f j k s t)))))
def z0x(φ:Nat)(p :((List Int)->(List Arc)->(List Int)->(List Int)->(List Int)->(List (List Int))->(List (List Int))->(List Int)->(List Int)->Option (Flow×Int×Unit)))(q :(Int->(List Int)->(List Arc)->(List Bool)->(List Int)->(List Int)->(List Int)->(List (List Int))->(List (List Int))->(List Int)->(List Int)->(List zg)->(List Int)->(List Int)->Option (Flow×Int×Unit))):Nat->Int->Int->Int->(List Int)->(List Arc)->(List Bool)->Int->(List Int)->(List Int)->(List Int)->(List (List Int))->(List (List Int))->(List Int)->(List Int)->(List zg)->(List Int)->(List Int)->Option (Flow×Int×Unit)
 |0,_,_,_,_,_,_,_,_,_,_,_,_,_,_,_,_,_=>none
 |t+1,r,s,b,f,g,d,a,h,i,j,e,k,c,l,m,n,o=>(if(decide (b<s))=true then(ck (rg b d.length) (ck (((!(gt d b))=true)->rg b c.length) (ck ((((!(gt d b))&&(decide (((gt c b):Int)<1152921504606846976)))=true/\(decide (a<0))=false)->rg b c.length) (ck ((((!(gt d b))&&(decide (((gt c b):Int)<1152921504606846976)))=true/\(decide (a<0))=false)->rg a c.length) (if(((!(gt d b))&&(decide (((gt c b):Int)<1152921504606846976)))&&((decide (a<0))||(decide (((gt c b):Int)<(gt c a)))))=true then((z0x φ p q t) r s (W (b+1)) f g d b h i j e k c l m n o) else((z0x φ p q t) r s (W (b+1)) f g d a h i j e k c l m n o)))))) else(if(decide (a<0))=true then(z2f φ p f g c l m h i j e k n o) else(ck (rg a d.length) (ck (rg a e.length) (ck (rg a e.length) (ck (a=a) (z0h φ q φ ((gt e a).length:Int) 0 r a (gt e a) f g (zq d a true) a h i j e a k c l m n o)))))))
def z4e(φ:Nat)(a :((List Int)->(List Arc)->(List Int)->(List Int)->(List Int)->(List (List Int))->(List (List Int))->(List Int)->(List Int)->Option (Flow×Int×Unit))):Nat->Int->(List Int)->(List Arc)->(List Bool)->(List Int)->(List Int)->(List Int)->(List (List Int))->(List (List Int))->(List Int)->(List Int)->(List zg)->(List Int)->(List Int)->Option (Flow×Int×Unit)
 |0,_,_,_,_,_,_,_,_,_,_,_,_,_,_=>none
 |c+1,b,d,e,f,g,h,i,j,k,l,m,n,o,p=>(z0x φ a (z4e φ a c) φ b b 0 d e f (-1) g h i j k l m n o p)
def z1h(φ:Nat)(f :((List Int)->(List Arc)->(List Int)->(List Int)->(List Int)->(List (List Int))->(List (List Int))->(List Int)->(List Int)->Option (Flow×Int×Unit))):Nat->Int->Int->Int->(List Int)->(List Arc)->(List Int)->(List Int)->(List Int)->(List (List Int))->(List (List Int))->(List Int)->(List Int)->(List zg)->(List Int)->(List Int)->Option (Flow×Int×Unit)
 |0,_,_,_,_,_,_,_,_,_,_,_,_,_,_,_=>none
 |q+1,b,g,a,h,i,j,c,k,l,m,d,e,n,o,p=>(if(decide (a<g))=true then(ck (rg a d.length) (ck (rg a e.length) (ck (rg a c.length) (if(decide ((0:Int)<(gt c a)))=true then(ck (rg a (zq d a 1152921504606846976).length) ((z1h φ f q) b g (W (a+1)) h i j c k l m (zq (zq d a 1152921504606846976) a 0) (zq e a (-1)) n o p)) else((z1h φ f q) b g (W (a+1)) h i j c k l m (zq d a 1152921504606846976) (zq e a (-1)) n o p))))) else(ck (zd b 1) (z4e φ f φ b h i (List.replicate b.toNat (default:Bool)) j c k l m d e n o p)))
def zz(φ:Nat)(b :((List Int)->(List Arc)->(List Int)->(List Int)->(List Int)->(List (List Int))->(List (List Int))->(List Int)->(List Int)->Option (Flow×Int×Unit)))(a:Int)(c :(List Int))(d :(List Arc))(e f g :(List Int))(h i :(List (List Int)))(j k :(List Int))(l :(List zg))(m n :(List Int)):Option (Flow×Int×Unit):=(z1h φ b φ a a 0 c d e f g h i j k l m n)
def z38(φ:Nat)(b :((List Int)->(List Arc)->(List Int)->(List Int)->(List Int)->(List (List Int))->(List (List Int))->(List Int)->(List Int)->Option (Flow×Int×Unit)))(a:Int)(c :(List Int))(d :(List Arc))(e f g :(List Int))(h i :(List (List Int)))(l m :(List Int))(n :(List zg))(j k :(List Int)):Option (Flow×Int×Unit):=(ck (zd a 8) (ck (zd a 8) (ck (zd a 32) (zz φ b a c d e f g h i (List.replicate a.toNat (default:Int)) (List.replicate a.toNat (default:Int)) (List.replicate a.toNat (default:zg)) j k))))
def z9e(φ:Nat)(b :((List Int)->(List Arc)->(List Int)->(List Int)->(List Int)->(List (List Int))->(List (List Int))->(List Int)->(List Int)->Option (Flow×Int×Unit)))(a:Int)(c :(List Int))(d :(List Arc))(e f g :(List Int))(h i :(List (List Int)))(l m :(List Int))(n :(List zg))(j k :(List Int)):Option (List (Option (Flow×Int×Unit))):=(catL [(ck (zd a 8) (catL [(ck (zd a 8) (catL [(ck (zd a 32) (catL [(some [(zz φ b a c d e f g h i (List.replicate a.toNat (default:Int)) (List.replicate a.toNat (default:Int)) (List.replicate a.toNat (default:zg)) j k)])])),(catL [(ck (zd a 32) (catL [(some [(zz φ b a c d e f g h i (List.replicate a.toNat (default:Int)) (List.replicate a.toNat (default:Int)) (List.replicate a.toNat (default:zg)) j k)])])),(catL [(ck (zd a 32) (catL [(some [(zz φ b a c d e f g h i (List.replicate a.toNat (default:Int)) (List.replicate a.toNat (default:Int)) (List.replicate a.toNat (default:zg)) j k)])]))])])])),(ck (zd a 32) (catL [(ck (zd a 8) (catL [(some [(zz φ b a c d e f g h i (List.replicate a.toNat (default:Int)) (List.replicate a.toNat (default:Int)) (List.replicate a.toNat (default:zg)) j k)])])),(catL [(ck (zd a 8) (catL [(some [(zz φ b a c d e f g h i (List.replicate a.toNat (default:Int)) (List.replicate a.toNat (default:Int)) (List.replicate a.toNat (default:zg)) j k)])]))])])),(catL [(ck (zd a 8) (catL [(ck (zd a 32) (catL [(some [(zz φ b a c d e f g h i (List.replicate a.toNat (default:Int)) (List.replicate a.toNat (default:Int)) (List.replicate a.toNat (default:zg)) j k)])])),(catL [(ck (zd a 32) (catL [(some [(zz φ b a c d e f g h i (List.replicate a.toNat (default:Int)) (List.replicate a.toNat (default:Int)) (List.replicate a.toNat (default:zg)) j k)])]))])])),(ck (zd a 32) (catL [(ck (zd a 8) (catL [(some [(zz φ b a c d e f g h i (List.replicate a.toNat (default:Int)) (List.replicate a.toNat (default:Int)) (List.replicate a.toNat (default:zg)) j k)])]))]))])])),(ck (zd a 8) (catL [(ck (zd a 8) (catL [(ck (zd a 32) (catL [(some [(zz φ b a c d e f g h i (List.replicate a.toNat (default:Int)) (List.replicate a.toNat (default:Int)) (List.replicate a.toNat (default:zg)) j k)])])),(catL [(ck (zd a 32) (catL [(some [(zz φ b a c d e f g h i (List.replicate a.toNat (default:Int)) (List.replicate a.toNat (default:Int)) (List.replicate a.toNat (default:zg)) j k)])])),(catL [(ck (zd a 32) (catL [(some [(zz φ b a c d e f g h i (List.replicate a.toNat (default:Int)) (List.replicate a.toNat (default:Int)) (List.replicate a.toNat (default:zg)) j k)])]))])])])),(ck (zd a 32) (catL [(ck (zd a 8) (catL [(some [(zz φ b a c d e f g h i (List.replicate a.toNat (default:Int)) (List.replicate a.toNat (default:Int)) (List.replicate a.toNat (default:zg)) j k)])]))]))])),(ck (zd a 32) (catL [(ck (zd a 8) (catL [(ck (zd a 8) (catL [(some [(zz φ b a c d e f g h i (List.replicate a.toNat (default:Int)) (List.replicate a.toNat (default:Int)) (List.replicate a.toNat (default:zg)) j k)])])),(catL [(ck (zd a 8) (catL [(some [(zz φ b a c d e f g h i (List.replicate a.toNat (default:Int)) (List.replicate a.toNat (default:Int)) (List.replicate a.toNat (default:zg)) j k)])]))])])),(ck (zd a 8) (catL [(ck (zd a 8) (catL [(some [(zz φ b a c d e f g h i (List.replicate a.toNat (default:Int)) (List.replicate a.toNat (default:Int)) (List.replicate a.toNat (default:zg)) j k)])]))]))]))])
def z2y(φ:Nat):Nat->(List Int)->(List Arc)->(List Int)->(List Int)->(List Int)->(List (List Int))->(List (List Int))->(List Int)->(List Int)->Option (Flow×Int×Unit)
 |0,_,_,_,_,_,_,_,_,_=>none
 |b+1,c,d,e,a,f,g,h,i,j=>(z38 φ (z2y φ b) (a.length:Int) c d e a f g h ([]:List Int) ([]:List Int) ([]:List zg) i j)
def z19(φ:Nat):Nat->(List Arc)->Int->Int->(List Int)->(List Arc)->(List Int)->(List Int)->(List Int)->(List (List Int))->(List (List Int))->(List Int)->(List Int)->Option (Flow×Int×Unit)
 |0,_,_,_,_,_,_,_,_,_,_,_,_=>none
 |m+1,b,e,a,f,g,h,i,j,c,d,k,l=>(if(decide (a<e))=true then(ck (rg a b.length) (ck (rg (gt b a).from_ c.length) (ck (rg (gt b a).from_ c.length) (ck (((gt b a).from_:Int) =(gt b a).from_) (ck (fits ((gt c ((gt b a).from_)).length+([a]).length) 8) (ck (rg (gt b a).from_ c.length) (ck (((gt b a).from_:Int) =(gt b a).from_) (ck (rg (gt b a).to d.length) (ck (rg (gt b a).to d.length) (ck (((gt b a).to:Int) =(gt b a).to) (ck (fits ((gt d ((gt b a).to)).length+([a]).length) 8) (ck (rg (gt b a).to d.length) (ck (((gt b a).to:Int) =(gt b a).to) ((z19 φ m) b e (W (a+1)) f g h i j ((zq c ((gt b a).from_) (((gt c ((gt b a).from_))++[a])))) ((zq d ((gt b a).to) (((gt d ((gt b a).to))++[a])))) k l)))))))))))))) else(z2y φ φ f g h i j c d k l))
def z8l(φ:Nat)(a:zh)(b :(List Int))(c :(List Arc))(d e f :(List Int))(g h :(List (List Int)))(i j :(List Int)):Option (Flow×Int×Unit):=(z19 φ φ a.arcs (a.arcs.length:Int) 0 b c d e f g h i j)
def z5i(φ:Nat)(b:Int)(a:zh)(c d :(List Int)):Option (Flow×Int×Unit):=(ck (zd (a.arcs.length:Int) 8) (ck (fits (([]:List Int).length+a.supply.length) 8) (ck (zd b 8) (ck (zd b 24) (ck (zd b 24) (z8l φ a a.supply a.arcs (List.replicate ((a.arcs.length:Int):Int).toNat (default:Int)) (([]:List Int)++a.supply) (List.replicate b.toNat (default:Int)) (List.replicate b.toNat (default :(List Int))) (List.replicate b.toNat (default :(List Int))) c d))))))
def zc(φ:Nat)(b:Int)(a:zh)(c d :(List Int)):Option (List (Option (Flow×Int×Unit))):=(catL [(some [(z8l φ a a.supply a.arcs (List.replicate ((a.arcs.length:Int):Int).toNat (default:Int)) (([]:List Int)++a.supply) (List.replicate b.toNat (default:Int)) (List.replicate b.toNat (default :(List Int))) (List.replicate b.toNat (default :(List Int))) c d)])])
def z0c(φ:Nat)(a:Int)(b:zh)(c d :(List Int)):Option (List (Option (Flow×Int×Unit))):=(catL [(ck (zd a 24) (zc φ a b c d))])
def zi(φ:Nat)(b:Int)(a:zh)(c d :(List Int)):Option (List (Option (Flow×Int×Unit))):=(catL [(ck (fits (([]:List Int).length+a.supply.length) 8) (zc φ b a c d))])
def z15(φ:Nat)(a:Int)(b:zh)(c d :(List Int)):Option (List (Option (Flow×Int×Unit))):=(catL [(ck (fits (([]:List Int).length+b.supply.length) 8) (z0c φ a b c d)),(ck (zd a 24) (zi φ a b c d))])
def z5y(φ:Nat)(a:Int)(b:zh)(c d :(List Int)):Option (List (Option (Flow×Int×Unit))):=(catL [(ck (zd (b.arcs.length:Int) 8) (catL [(ck (fits (([]:List Int).length+b.supply.length) 8) (catL [(ck (zd a 8) (z0c φ a b c d)),(ck (zd a 24) (catL [(ck (zd a 8) (zc φ a b c d))]))])),(ck (zd a 8) (z15 φ a b c d)),(ck (zd a 24) (catL [(ck (fits (([]:List Int).length+b.supply.length) 8) (catL [(ck (zd a 8) (zc φ a b c d))])),(ck (zd a 8) (zi φ a b c d))]))])),(ck (fits (([]:List Int).length+b.supply.length) 8) (catL [(ck (zd (b.arcs.length:Int) 8) (catL [(ck (zd a 8) (z0c φ a b c d)),(ck (zd a 24) (catL [(ck (zd a 8) (zc φ a b c d))]))])),(ck (zd a 8) (catL [(ck (zd (b.arcs.length:Int) 8) (z0c φ a b c d)),(ck (zd a 24) (catL [(ck (zd (b.arcs.length:Int) 8) (zc φ a b c d))]))])),(ck (zd a 24) (catL [(ck (zd (b.arcs.length:Int) 8) (catL [(ck (zd a 8) (zc φ a b c d))])),(ck (zd a 8) (catL [(ck (zd (b.arcs.length:Int) 8) (zc φ a b c d))]))]))])),(ck (zd a 8) (catL [(ck (zd (b.arcs.length:Int) 8) (z15 φ a b c d)),(ck (fits (([]:List Int).length+b.supply.length) 8) (catL [(ck (zd (b.arcs.length:Int) 8) (z0c φ a b c d)),(ck (zd a 24) (catL [(ck (zd (b.arcs.length:Int) 8) (zc φ a b c d))]))])),(ck (zd a 24) (catL [(ck (zd (b.arcs.length:Int) 8) (zi φ a b c d)),(ck (fits (([]:List Int).length+b.supply.length) 8) (catL [(ck (zd (b.arcs.length:Int) 8) (zc φ a b c d))]))]))])),(ck (zd a 24) (catL [(ck (zd (b.arcs.length:Int) 8) (catL [(ck (fits (([]:List Int).length+b.supply.length) 8) (catL [(ck (zd a 8) (zc φ a b c d))])),(ck (zd a 8) (zi φ a b c d))])),(ck (fits (([]:List Int).length+b.supply.length) 8) (catL [(ck (zd (b.arcs.length:Int) 8) (catL [(ck (zd a 8) (zc φ a b c d))])),(ck (zd a 8) (catL [(ck (zd (b.arcs.length:Int) 8) (zc φ a b c d))]))])),(ck (zd a 8) (catL [(ck (zd (b.arcs.length:Int) 8) (zi φ a b c d)),(ck (fits (([]:List Int).length+b.supply.length) 8) (catL [(ck (zd (b.arcs.length:Int) 8) (zc φ a b c d))]))]))]))])
def z16(φ:Nat)(a:Int)(b:zh)(c d :(List Int)):Option (List (Option (Flow×Int×Unit))):=(catL [(ck (fits (([]:List Int).length+b.supply.length) 8) (catL [(ck (zd a 8) (z0c φ a b c d)),(ck (zd a 24) (catL [(ck (zd a 8) (zc φ a b c d))]))])),(ck (zd a 8) (z15 φ a b c d)),(ck (zd a 24) (catL [(ck (fits (([]:List Int).length+b.supply.length) 8) (catL [(ck (zd a 8) (zc φ a b c d))])),(ck (zd a 8) (zi φ a b c d))]))])
def z07(φ:Nat)(a:Int)(b:zh)(c d :(List Int)):Option (List (Option (Flow×Int×Unit))):=(catL [(z15 φ a b c d),(ck (zd a 24) (catL [(zi φ a b c d)]))])
def z33(φ:Nat)(b:Int)(a:zh)(c d :(List Int)):Option (List (Option (Flow×Int×Unit))):=(catL [(ck (zd (a.arcs.length:Int) 8) (z15 φ b a c d)),(ck (fits (([]:List Int).length+a.supply.length) 8) (catL [(ck (zd (a.arcs.length:Int) 8) (z0c φ b a c d)),(ck (zd b 24) (catL [(ck (zd (a.arcs.length:Int) 8) (zc φ b a c d))]))])),(ck (zd b 24) (catL [(ck (zd (a.arcs.length:Int) 8) (zi φ b a c d)),(ck (fits (([]:List Int).length+a.supply.length) 8) (catL [(ck (zd (a.arcs.length:Int) 8) (zc φ b a c d))]))]))])
def z86(φ:Nat)(b:Int)(a:zh)(c d :(List Int)):Option (List (Option (Flow×Int×Unit))):=(ck (zd b 24) (catL [(ck (zd (a.arcs.length:Int) 8) (catL [(z16 φ b a c d),(ck (zd b 8) (z07 φ b a c d)),(ck (zd b 24) (catL [(catL [(ck (fits (([]:List Int).length+a.supply.length) 8) (catL [(ck (zd b 8) (zc φ b a c d))])),(ck (zd b 8) (zi φ b a c d))]),(ck (zd b 8) (catL [(zi φ b a c d)]))]))])),(z5y φ b a c d),(ck (zd b 8) (catL [(ck (zd (a.arcs.length:Int) 8) (z07 φ b a c d)),(z33 φ b a c d),(ck (zd b 24) (catL [(ck (zd (a.arcs.length:Int) 8) (catL [(zi φ b a c d)])),(catL [(ck (zd (a.arcs.length:Int) 8) (zi φ b a c d)),(ck (fits (([]:List Int).length+a.supply.length) 8) (catL [(ck (zd (a.arcs.length:Int) 8) (zc φ b a c d))]))])]))])),(ck (zd b 24) (catL [(ck (zd (a.arcs.length:Int) 8) (catL [(catL [(ck (fits (([]:List Int).length+a.supply.length) 8) (catL [(ck (zd b 8) (zc φ b a c d))])),(ck (zd b 8) (zi φ b a c d))]),(ck (zd b 8) (catL [(zi φ b a c d)]))])),(catL [(ck (zd (a.arcs.length:Int) 8) (catL [(ck (fits (([]:List Int).length+a.supply.length) 8) (catL [(ck (zd b 8) (zc φ b a c d))])),(ck (zd b 8) (zi φ b a c d))])),(ck (fits (([]:List Int).length+a.supply.length) 8) (catL [(ck (zd (a.arcs.length:Int) 8) (catL [(ck (zd b 8) (zc φ b a c d))])),(ck (zd b 8) (catL [(ck (zd (a.arcs.length:Int) 8) (zc φ b a c d))]))])),(ck (zd b 8) (catL [(ck (zd (a.arcs.length:Int) 8) (zi φ b a c d)),(ck (fits (([]:List Int).length+a.supply.length) 8) (catL [(ck (zd (a.arcs.length:Int) 8) (zc φ b a c d))]))]))]),(ck (zd b 8) (catL [(ck (zd (a.arcs.length:Int) 8) (catL [(zi φ b a c d)])),(catL [(ck (zd (a.arcs.length:Int) 8) (zi φ b a c d)),(ck (fits (([]:List Int).length+a.supply.length) 8) (catL [(ck (zd (a.arcs.length:Int) 8) (zc φ b a c d))]))])]))]))]))
end Px
end
section
set_option maxHeartbeats 4000000
set_option maxRecDepth 100000
namespace Px
open Go Go.RowKit
def zy(φ:Nat)(a:Int)(b:zh)(c d :(List Int)):Option (List (Option (Flow×Int×Unit))):=(ck (zd a 24) (z0c φ a b c d))
def z34(φ:Nat)(a:Int)(b:zh)(c d :(List Int)):Option (List (Option (Flow×Int×Unit))):=(catL [(ck (fits (([]:List Int).length+b.supply.length) 8) (catL [(zy φ a b c d),(zy φ a b c d)])),(ck (zd a 24) (z15 φ a b c d)),(ck (zd a 24) (z15 φ a b c d))])
def z1i(φ:Nat)(b:Int)(a:zh)(c d :(List Int)):Option (List (Option (Flow×Int×Unit))):=(catL [(ck (zd (a.arcs.length:Int) 8) (z0c φ b a c d)),(ck (zd b 24) (catL [(ck (zd (a.arcs.length:Int) 8) (zc φ b a c d))]))])
def z76(φ:Nat)(a:Int)(b:zh)(c d :(List Int)):Option (List (Option (Flow×Int×Unit))):=(catL [(ck (zd (b.arcs.length:Int) 8) (z34 φ a b c d)),(ck (fits (([]:List Int).length+b.supply.length) 8) (catL [(ck (zd (b.arcs.length:Int) 8) (catL [(zy φ a b c d),(zy φ a b c d)])),(ck (zd a 24) (z1i φ a b c d)),(ck (zd a 24) (z1i φ a b c d))])),(ck (zd a 24) (z33 φ a b c d)),(ck (zd a 24) (z33 φ a b c d))])
def z0l(φ:Nat)(a:Int)(b:zh)(c d :(List Int)):Option (List (Option (Flow×Int×Unit))):=(catL [(ck (zd a 8) (z0c φ a b c d)),(ck (zd a 24) (catL [(ck (zd a 8) (zc φ a b c d))]))])
def z9f(φ:Nat)(a:Int)(b:zh)(c d :(List Int)):Option (List (Option (Flow×Int×Unit))):=(catL [(ck (zd (b.arcs.length:Int) 8) (catL [(catL [(ck (fits (([]:List Int).length+b.supply.length) 8) (catL [(ck (zd a 8) (catL [(zy φ a b c d),(zy φ a b c d)])),(ck (zd a 24) (z0l φ a b c d)),(ck (zd a 24) (z0l φ a b c d))])),(ck (zd a 8) (z34 φ a b c d)),(ck (zd a 24) (z16 φ a b c d)),(ck (zd a 24) (z16 φ a b c d))]),(ck (zd a 8) (catL [(z34 φ a b c d),(ck (zd a 24) (z07 φ a b c d)),(ck (zd a 24) (z07 φ a b c d))])),(ck (zd a 24) (catL [(z16 φ a b c d),(ck (zd a 8) (z07 φ a b c d)),(ck (zd a 24) (catL [(catL [(ck (fits (([]:List Int).length+b.supply.length) 8) (catL [(ck (zd a 8) (zc φ a b c d))])),(ck (zd a 8) (zi φ a b c d))]),(ck (zd a 8) (catL [(zi φ a b c d)]))]))])),(ck (zd a 24) (catL [(z16 φ a b c d),(ck (zd a 8) (z07 φ a b c d)),(ck (zd a 24) (catL [(catL [(ck (fits (([]:List Int).length+b.supply.length) 8) (catL [(ck (zd a 8) (zc φ a b c d))])),(ck (zd a 8) (zi φ a b c d))]),(ck (zd a 8) (catL [(zi φ a b c d)]))]))]))])),(catL [(ck (zd (b.arcs.length:Int) 8) (catL [(ck (fits (([]:List Int).length+b.supply.length) 8) (catL [(ck (zd a 8) (catL [(zy φ a b c d),(zy φ a b c d)])),(ck (zd a 24) (z0l φ a b c d)),(ck (zd a 24) (z0l φ a b c d))])),(ck (zd a 8) (z34 φ a b c d)),(ck (zd a 24) (z16 φ a b c d)),(ck (zd a 24) (z16 φ a b c d))])),(ck (fits (([]:List Int).length+b.supply.length) 8) (catL [(ck (zd (b.arcs.length:Int) 8) (catL [(ck (zd a 8) (catL [(zy φ a b c d),(zy φ a b c d)])),(ck (zd a 24) (z0l φ a b c d)),(ck (zd a 24) (z0l φ a b c d))])),(ck (zd a 8) (catL [(ck (zd (b.arcs.length:Int) 8) (catL [(zy φ a b c d),(zy φ a b c d)])),(ck (zd a 24) (z1i φ a b c d)),(ck (zd a 24) (z1i φ a b c d))])),(ck (zd a 24) (catL [(ck (zd (b.arcs.length:Int) 8) (z0l φ a b c d)),(ck (zd a 8) (z1i φ a b c d)),(ck (zd a 24) (catL [(ck (zd (b.arcs.length:Int) 8) (catL [(ck (zd a 8) (zc φ a b c d))])),(ck (zd a 8) (catL [(ck (zd (b.arcs.length:Int) 8) (zc φ a b c d))]))]))])),(ck (zd a 24) (catL [(ck (zd (b.arcs.length:Int) 8) (z0l φ a b c d)),(ck (zd a 8) (z1i φ a b c d)),(ck (zd a 24) (catL [(ck (zd (b.arcs.length:Int) 8) (catL [(ck (zd a 8) (zc φ a b c d))])),(ck (zd a 8) (catL [(ck (zd (b.arcs.length:Int) 8) (zc φ a b c d))]))]))]))])),(ck (zd a 8) (z76 φ a b c d)),(ck (zd a 24) (z5y φ a b c d)),(ck (zd a 24) (z5y φ a b c d))]),(ck (zd a 8) (catL [(ck (zd (b.arcs.length:Int) 8) (catL [(z34 φ a b c d),(ck (zd a 24) (z07 φ a b c d)),(ck (zd a 24) (z07 φ a b c d))])),(z76 φ a b c d),(ck (zd a 24) (catL [(ck (zd (b.arcs.length:Int) 8) (z07 φ a b c d)),(z33 φ a b c d),(ck (zd a 24) (catL [(ck (zd (b.arcs.length:Int) 8) (catL [(zi φ a b c d)])),(catL [(ck (zd (b.arcs.length:Int) 8) (zi φ a b c d)),(ck (fits (([]:List Int).length+b.supply.length) 8) (catL [(ck (zd (b.arcs.length:Int) 8) (zc φ a b c d))]))])]))])),(ck (zd a 24) (catL [(ck (zd (b.arcs.length:Int) 8) (z07 φ a b c d)),(z33 φ a b c d),(ck (zd a 24) (catL [(ck (zd (b.arcs.length:Int) 8) (catL [(zi φ a b c d)])),(catL [(ck (zd (b.arcs.length:Int) 8) (zi φ a b c d)),(ck (fits (([]:List Int).length+b.supply.length) 8) (catL [(ck (zd (b.arcs.length:Int) 8) (zc φ a b c d))]))])]))]))])),(z86 φ a b c d),(z86 φ a b c d)])
def z9y(φ:Nat)(a:zh):Option (Flow×Int×Unit):=((z9x φ a).bind λb=>(if(b.1 !=0)=true then(some ((⟨([]:List Int),([]:List Int)⟩:Flow),b.1,())) else(z5i φ (a.supply.length:Int) a ([]:List Int) ([]:List Int))))
def zbr(φ:Nat):Fsp TV:=⟨[40],[.val 41,.val 0],λz=>z9y φ z.1⟩
def z17(φ:Nat):Nat->Int->Int->(List Int)->Option (Bool×Unit)
 |0,_,_,_=>none
 |d+1,c,a,b=>(if(decide (a<c))=true then(ck (rg a b.length) (if(((gt b a):Int) !=0)=true then(some (false,())) else((z17 φ d) c (W (a+1)) b))) else(some (true,())))
def z2o(φ:Nat):Nat->(List Arc)->Int->Int->Flow->(List Int)->Option (Bool×Unit)
 |0,_,_,_,_,_=>none
 |f+1,b,e,a,d,c=>(if(decide (a<e))=true then(ck (rg a b.length) (ck (rg a d.x.length) ((z3t φ (gt d.x a) 0 ((gt b a).cap)).bind λg=>(if(!g.1)=true then(some (false,())) else(ck (rg (gt b a).from_ c.length) (ck (rg a d.x.length) (ck (rg (gt b a).from_ c.length) (ck (rg (gt b a).to (((zq c ((gt b a).from_) ((W ((gt c ((gt b a).from_))-(gt d.x a)))))).length)) (ck (rg a d.x.length) (ck (rg (gt b a).to (((zq c ((gt b a).from_) ((W ((gt c ((gt b a).from_))-(gt d.x a)))))).length)) ((z2o φ f) b e (W (a+1)) d ((zq ((zq c ((gt b a).from_) ((W ((gt c ((gt b a).from_))-(gt d.x a)))))) ((gt b a).to) ((W ((gt ((zq c ((gt b a).from_) ((W ((gt c ((gt b a).from_))-(gt d.x a)))))) ((gt b a).to))+(gt d.x a))))))))))))))))) else(z17 φ φ (c.length:Int) 0 c))
def z78(φ:Nat)(a:zh)(b:Flow):Option (Bool×Unit):=(if(((b.x.length:Int):Int) !=(a.arcs.length:Int))=true then(some (false,())) else(ck (fits (([]:List Int).length+a.supply.length) 8) (z2o φ φ a.arcs (a.arcs.length:Int) 0 b (([]:List Int)++a.supply))))
def z7a(φ:Nat):Fsp TV:=⟨[40,41],[.val 27],kk2 (z78 φ)⟩
def z3s(φ:Nat):Nat->Int->(List Arc)->Int->Int->Flow->Option (Int×Int×Unit)
 |0,_,_,_,_,_=>none
 |f+1,d,b,e,a,c=>(if(decide (a<e))=true then(ck (rg a b.length) (ck (rg a c.x.length) (if(decide (((W (9007199254740992-d)):Int)<(W ((gt c.x a)*(gt b a).cost))))=true then(some (0,3,())) else((z3s φ f) ((W (d+(W ((gt c.x a)*(gt b a).cost))))) b e (W (a+1)) c)))) else(some (d,0,())))
def zah(φ:Nat)(a:zh)(b:Flow):Option (Int×Int×Unit):=((z9x φ a).bind λc=>(if(c.1 !=0)=true then(some (0,c.1,())) else((z78 φ a b).bind λd=>(if(!d.1)=true then(some (0,360,())) else(z3s φ φ 0 a.arcs (a.arcs.length:Int) 0 b)))))
def zai(φ:Nat):Fsp TV:=⟨[40,41],[.val 0,.val 0],kk2 (zah φ)⟩
def z0j(φ:Nat):Nat->(List zb)->(List zk)->(List Arc)->Int->Int->Int->(List Int)->Flow->(List z7)->Option (Plan×Int×Unit)
 |0,_,_,_,_,_,_,_,_,_=>none
 |j+1,c,e,b,g,a,h,i,d,f=>(if(decide (a<g))=true then(ck (rg a b.length) (ck ((((decide (((gt b a).from_:Int)<(c.length:Int)))&&(decide (((gt b a).to:Int)<(W ((c.length:Int)+(e.length:Int))))))=true)->rg a d.x.length) (if(((decide (((gt b a).from_:Int)<(c.length:Int)))&&(decide (((gt b a).to:Int)<(W ((c.length:Int)+(e.length:Int))))))&&(decide ((0:Int)<(gt d.x a))))=true then(ck (rg a d.x.length) (ck (fits (f.length+([(⟨(gt b a).from_,W ((gt b a).to-(c.length:Int)),gt d.x a⟩:z7)]).length) 24) ((z0j φ j) c e b g (W (a+1)) h i d ((f++[(⟨(gt b a).from_,W ((gt b a).to-(c.length:Int)),gt d.x a⟩:z7)]))))) else((z0j φ j) c e b g (W (a+1)) h i d f)))) else(some ((⟨f,h,i⟩:Plan),0,())))
def z5r(φ:Nat)(e:Pool)(c :(List zb))(d :(List zk)):Option (Plan×Int×Unit):=((z4t φ e c d).bind λa=>(if(a.2.1 !=0)=true then(some ((⟨([]:List z7),0,([]:List Int)⟩:Plan),a.2.1,())) else((z9y φ a.1).bind λb=>(if(b.2.1 !=0)=true then(some ((⟨([]:List z7),0,([]:List Int)⟩:Plan),b.2.1,())) else((zah φ a.1 b.1).bind λf=>(z0j φ φ c d a.1.arcs (a.1.arcs.length:Int) 0 f.1 b.1.price b.1 ([]:List z7)))))))
def za6(φ:Nat):Fsp TV:=⟨[26,36,37],[.val 47,.val 0],kk3 (z5r φ)⟩
def zjl(φ:Nat)(a :(List zl)):Option ((List zl)×Unit):=(ck (a.isEmpty=false) (ck (fits (([]:List zl).length+a.length) 192) (some ((([]:List zl)++a),()))))
def zce(φ:Nat):Fsp TV:=⟨[54],[.row 90 53],λz=>zjl φ z.1⟩
def z21(φ:Nat)(e :(Int->Int->(zl->zl->Option Int)->Int->(List zl)->Option (List zl))):Nat->Int->Int->(zl->zl->Option Int)->Int->Int->(List zl)->Option (List zl)
 |0,_,_,_,_,_,_=>none
 |h+1,c,f,d,g,a,b=>(ck (((decide (c<a))=true)->rg a b.length) (ck (((decide (c<a))=true)->rg (W (a-1)) b.length) ((z0r (0:Int) ((decide (c<a))=true) (d (gt b a) (gt b (W (a-1))))).bind λi=>(if((decide (c<a))&&(decide (i<0)))=true then(ck (rg (W (a-1)) b.length) (ck (rg a b.length) (ck (rg a b.length) (ck (rg (W (a-1)) (((zq b a (gt b (W (a-1))))).length)) ((z21 φ e h) c f d g (W (a-1)) ((zq ((zq b a (gt b (W (a-1))))) (W (a-1)) (gt b a)))))))) else(e c f d (W (g+1)) b)))))
def z20(φ:Nat):Nat->Int->Int->(zl->zl->Option Int)->Int->(List zl)->Option (List zl)
 |0,_,_,_,_,_=>none
 |d+1,e,b,f,a,c=>(if(decide (a<b))=true then(z21 φ (z20 φ d) φ e b f a a c) else(some c))
def z3d(φ:Nat)(b :(List zl))(a c:Int)(d :(zl->zl->Option Int)):Option (List zl):=(z20 φ φ a c d (W (a+1)) b)
def z2q(φ:Nat):Msp TV:=⟨90,53,[.val 0,.val 0,.cmp 53],λl z=>z3d φ l z.1 z.2.1 z.2.2.1⟩
def z3e(φ:Nat):Nat->Int->Int->Int->Int->(List zl)->Option (List zl)
 |0,_,_,_,_,_=>none
 |f+1,c,d,e,a,b=>(if(decide (a<e))=true then(ck (rg (W (d+a)) b.length) (ck (rg (W (c+a)) b.length) (ck (rg (W (c+a)) b.length) (ck (rg (W (d+a)) (((zq b (W (c+a)) (gt b (W (d+a))))).length)) ((z3e φ f) c d e (W (a+1)) ((zq ((zq b (W (c+a)) (gt b (W (d+a))))) (W (d+a)) (gt b (W (c+a)))))))))) else(some b))
def z2w(φ:Nat)(a :(List zl))(b c d:Int)(e :(zl->zl->Option Int)):Option (List zl):=(z3e φ φ b c d 0 a)
def z45(φ:Nat):Msp TV:=⟨90,53,[.val 0,.val 0,.val 0,.cmp 53],λl z=>z2w φ l z.1 z.2.1 z.2.2.1 z.2.2.2.1⟩
def z2k(φ:Nat):Nat->Int->(zl->zl->Option Int)->Int->Int->(List zl)->Option (List zl)
 |0,_,_,_,_,_=>none
 |f+1,b,d,a,c,e=>(if(a !=c)=true then(if(decide (c<a))=true then((z2w φ e (W (b-a)) b c d).bind λg=>((z2k φ f) b d (W (a-c)) c g)) else((z2w φ e (W (b-a)) ((W ((W (b+c))-a))) a d).bind λh=>((z2k φ f) b d a (W (c-a)) h))) else((z2w φ e (W (b-a)) b a d).bind λi=>(some i)))
def z9k(φ:Nat)(b :(List zl))(c a d:Int)(e :(zl->zl->Option Int)):Option (List zl):=(z2k φ φ a e (W (a-c)) (W (d-a)) b)
def z56(φ:Nat):Msp TV:=⟨90,53,[.val 0,.val 0,.val 0,.cmp 53],λl z=>z9k φ l z.1 z.2.1 z.2.2.1 z.2.2.2.1⟩
def z3i(φ:Nat):Nat->Int->Int->(List zl)->Option (List zl)
 |0,_,_,_=>none
 |d+1,c,a,b=>(if(decide (a<(W (c-1))))=true then(ck (rg (W (a+1)) b.length) (ck (rg a b.length) (ck (rg a b.length) (ck (rg (W (a+1)) (((zq b a (gt b (W (a+1))))).length)) ((z3i φ d) c (W (a+1)) ((zq ((zq b a (gt b (W (a+1))))) (W (a+1)) (gt b a)))))))) else(some b))
def z1o(φ:Nat):Nat->Int->(zl->zl->Option Int)->Int->Int->(List zl)->Option (List zl)
 |0,_,_,_,_,_=>none
 |f+1,d,e,a,c,b=>(if(decide (a<c))=true then(if 0<=(1:Int) then(ck (rg ((W ((((U ((W (a+c)))):Int).fdiv (2 ^ (min (1:Int).toNat 64)))))) b.length) (ck (rg d b.length) ((e (((gt b ((W ((((U ((W (a+c)))):Int).fdiv (2 ^ (min (1:Int).toNat 64))))))))) (gt b d)).bind λg=>(if(decide (g<0))=true then((z1o φ f) d e ((W ((W ((((U ((W (a+c)))):Int).fdiv (2 ^ (min (1:Int).toNat 64)))))+1))) c b) else((z1o φ f) d e a ((W ((((U ((W (a+c)))):Int).fdiv (2 ^ (min (1:Int).toNat 64)))))) b))))) else none) else(z3i φ φ a d b))
def z3j(φ:Nat):Nat->Int->Int->(List zl)->Option (List zl)
 |0,_,_,_=>none
 |d+1,c,a,b=>(if(decide (c<a))=true then(ck (rg (W (a-1)) b.length) (ck (rg a b.length) (ck (rg a b.length) (ck (rg (W (a-1)) (((zq b a (gt b (W (a-1))))).length)) ((z3j φ d) c (W (a-1)) ((zq ((zq b a (gt b (W (a-1))))) (W (a-1)) (gt b a)))))))) else(some b))
def z1p(φ:Nat):Nat->Int->(zl->zl->Option Int)->Int->Int->(List zl)->Option (List zl)
 |0,_,_,_,_,_=>none
 |f+1,d,e,a,c,b=>(if(decide (a<c))=true then(if 0<=(1:Int) then(ck (rg d b.length) (ck (rg ((W ((((U ((W (a+c)))):Int).fdiv (2 ^ (min (1:Int).toNat 64)))))) b.length) ((e (gt b d) (((gt b ((W ((((U ((W (a+c)))):Int).fdiv (2 ^ (min (1:Int).toNat 64)))))))))).bind λg=>(if(!(decide (g<0)))=true then((z1p φ f) d e ((W ((W ((((U ((W (a+c)))):Int).fdiv (2 ^ (min (1:Int).toNat 64)))))+1))) c b) else((z1p φ f) d e a ((W ((((U ((W (a+c)))):Int).fdiv (2 ^ (min (1:Int).toNat 64)))))) b))))) else none) else(z3j φ φ a d b))
def z3m(φ:Nat)(e :((List zl)->Int->Int->Int->(zl->zl->Option Int)->Option (List zl)))(b:Int)(f :(zl->zl->Option Int))(c a:Int)(d :(List zl)):Option (List zl):=(if((decide (c<a))&&(decide (a<b)))=true then((e d c a b f).bind λg=>(some g)) else(some d))
def z3l(φ:Nat)(b :((List zl)->Int->Int->Int->(zl->zl->Option Int)->Option (List zl)))(e f:Int)(c :(zl->zl->Option Int))(a d g:Int)(h :(List zl)):Option (List zl):=(if((decide (e<d))&&(decide (d<a)))=true then((b h e d a c).bind λi=>(z3m φ b f c a g i)) else(z3m φ b f c a g h))
def z1q(φ:Nat)(g :((List zl)->Int->Int->Int->(zl->zl->Option Int)->Option (List zl))):Nat->Int->Int->Int->(zl->zl->Option Int)->Int->Int->Int->Int->Int->(List zl)->Option (List zl)
 |0,_,_,_,_,_,_,_,_,_,_=>none
 |l+1,h,f,i,d,j,e,a,b,k,c=>(if(decide (a<b))=true then(if 0<=(1:Int) then(ck (rg ((W (k-(W ((((U ((W (a+b)))):Int).fdiv (2 ^ (min (1:Int).toNat 64)))))))) c.length) (ck (rg ((W ((((U ((W (a+b)))):Int).fdiv (2 ^ (min (1:Int).toNat 64)))))) c.length) ((d (((gt c ((W (k-(W ((((U ((W (a+b)))):Int).fdiv (2 ^ (min (1:Int).toNat 64))))))))))) (((gt c ((W ((((U ((W (a+b)))):Int).fdiv (2 ^ (min (1:Int).toNat 64)))))))))).bind λm=>(if(!(decide (m<0)))=true then((z1q φ g l) h f i d j e ((W ((W ((((U ((W (a+b)))):Int).fdiv (2 ^ (min (1:Int).toNat 64)))))+1))) b k c) else((z1q φ g l) h f i d j e a ((W ((((U ((W (a+b)))):Int).fdiv (2 ^ (min (1:Int).toNat 64)))))) k c))))) else none) else(if((decide (a<f))&&(decide (f<(W (e-a)))))=true then((z9k φ c a f (W (e-a)) d).bind λn=>(z3l φ g h i d j a (W (e-a)) n)) else(z3l φ g h i d j a (W (e-a)) c)))
def z3k(φ:Nat)(b :((List zl)->Int->Int->Int->(zl->zl->Option Int)->Option (List zl)))(c d e:Int)(f :(zl->zl->Option Int))(g a h i:Int)(j :(List zl)):Option (List zl):=(z1q φ b φ c d e f g a h i (W (a-1)) j)
def z03(φ:Nat):Nat->(List zl)->Int->Int->Int->(zl->zl->Option Int)->Option (List zl)
 |0,_,_,_,_,_=>none
 |d+1,e,a,b,c,f=>(if(((W (b-a)):Int)==1)=true then(z1o φ φ a f b c e) else(if(((W (c-b)):Int)==1)=true then(z1p φ φ b f a b e) else(if 0<=(1:Int) then(if(decide (((W ((((U ((W (a+c)))):Int).fdiv (2 ^ (min (1:Int).toNat 64))))):Int)<b))=true then(z3k φ (z03 φ d) a b c f ((W ((((U ((W (a+c)))):Int).fdiv (2 ^ (min (1:Int).toNat 64)))))) ((W ((W ((((U ((W (a+c)))):Int).fdiv (2 ^ (min (1:Int).toNat 64)))))+b))) ((W ((W ((W ((((U ((W (a+c)))):Int).fdiv (2 ^ (min (1:Int).toNat 64)))))+b))-c))) ((W ((((U ((W (a+c)))):Int).fdiv (2 ^ (min (1:Int).toNat 64)))))) e) else(z3k φ (z03 φ d) a b c f ((W ((((U ((W (a+c)))):Int).fdiv (2 ^ (min (1:Int).toNat 64)))))) ((W ((W ((((U ((W (a+c)))):Int).fdiv (2 ^ (min (1:Int).toNat 64)))))+b))) a b e)) else none)))
def z2m(φ d:Nat):Msp TV:=⟨90,53,[.val 0,.val 0,.val 0,.cmp 53],λl z=>z03 φ d l z.1 z.2.1 z.2.2.1 z.2.2.2.1⟩
def z4p(φ:Nat)(f :(Int->(zl->zl->Option Int)->Int->(List zl)->Option (List zl))):Nat->Int->(zl->zl->Option Int)->Int->Int->Int->(List zl)->Option (List zl)
 |0,_,_,_,_,_,_=>none
 |h+1,b,c,a,d,e,g=>(if(decide (e<=b))=true then((z03 φ φ g d (W (d+a)) e c).bind λi=>((z4p φ f h) b c a e ((W (e+(W (2*a))))) i)) else(if(decide (((W (d+a)):Int)<b))=true then((z03 φ φ g d (W (d+a)) b c).bind λj=>(f b c (W (a*2)) j)) else(f b c (W (a*2)) g)))
def z4o(φ:Nat):Nat->Int->(zl->zl->Option Int)->Int->(List zl)->Option (List zl)
 |0,_,_,_,_=>none
 |d+1,b,e,a,c=>(if(decide (a<b))=true then(z4p φ (z4o φ d) φ b e a 0 (W (2*a)) c) else(some c))
def z4n(φ:Nat):Nat->Int->(zl->zl->Option Int)->Int->Int->Int->(List zl)->Option (List zl)
 |0,_,_,_,_,_,_=>none
 |g+1,a,b,d,e,c,f=>(if(decide (c<=a))=true then((z3d φ f e c b).bind λh=>((z4n φ g) a b d c (W (c+d)) h)) else((z3d φ f e a b).bind λi=>(z4o φ φ a b d i)))
def z9l(φ:Nat)(a :(List zl))(b:Int)(c :(zl->zl->Option Int)):Option (List zl):=(z4n φ φ b c 20 0 20 a)
def z58(φ:Nat):Msp TV:=⟨90,53,[.val 0,.cmp 53],λl z=>z9l φ l z.1 z.2.1⟩
def z8z(φ:Nat)(a :(List zl))(b :(zl->zl->Option Int)):Option (List zl):=((z9l φ a (a.length:Int) b).bind λc=>(some c))
def z4x(φ:Nat):Msp TV:=⟨90,53,[.cmp 53],λl z=>z8z φ l z.1⟩
def zcx(φ:Nat)(b a:Int):Option (Int×Unit):=(if(b !=b)=true then(if(a !=a)=true then(some (0,())) else(some ((-1),()))) else(if(a !=a)=true then(some (1,())) else(if(decide (b<a))=true then(some ((-1),())) else(if(decide (a<b))=true then(some (1,())) else(some (0,()))))))
def zcz(φ:Nat):Fsp TV:=⟨[0,0],[.val 0],kk2 (zcx φ)⟩
def zl9(φ:Nat):Nat->Int->(List Int)->Int->Int->Option (Int×Unit)
 |0,_,_,_,_=>none
 |e+1,c,b,d,a=>(if(decide (a<d))=true then(ck (rg a b.length) (if(((gt b a):Int) !=c)=true then(some ((gt b a),())) else((zl9 φ e) c b d (W (a+1))))) else(some (c,())))
def y87(φ:Nat)(a :(List Int)):Option (Int×Unit):=(zl9 φ φ 0 a (a.length:Int) 0)
def zpi(φ:Nat):Fsp TV:=⟨[22],[.val 0],λz=>y87 φ z.1⟩
def zg3(φ:Nat)(a b:zl):Option (Int×Unit):=((zcx φ a.item.from_ b.item.from_).bind λc=>((zcx φ a.ref.railway b.ref.railway).bind λd=>((zcx φ a.ref.no b.ref.no).bind λe=>((y87 φ ([c.1,d.1,e.1])).bind λf=>(some (f.1,()))))))
def z9a(φ:Nat):Fsp TV:=⟨[53,53],[.val 0],kk2 (zg3 φ)⟩
def z5a(φ:Nat):Nat->Int->Int->Int->(List zk)->(List zl)->Option ((List zk)×Unit)
 |0,_,_,_,_,_=>none
 |f+1,d,e,a,c,b=>(if(decide (a<e))=true then(ck (rg a b.length) (if(((((gt b a).item).kind:Int)==15)&&(decide (d<=((gt b a).item).to)))=true then(ck (fits (c.length+([(⟨((gt b a).item).number,((gt b a).item).class_,((gt b a).item).place,((gt b a).item).from_,((gt b a).item).to,((gt b a).item).weight,((gt b a).item).amount⟩:zk)]).length) 56) ((z5a φ f) d e (W (a+1)) ((c++[(⟨((gt b a).item).number,((gt b a).item).class_,((gt b a).item).place,((gt b a).item).from_,((gt b a).item).to,((gt b a).item).weight,((gt b a).item).amount⟩:zk)])) b)) else((z5a φ f) d e (W (a+1)) c b))) else(some (c,())))
def zbz(φ:Nat)(d :(List zl))(e:Int):Option ((List zk)×Unit):=((zjl φ d).bind λf=>((z8z φ f.1 (λa b=>(zg3 φ a b).bind λr=>(some r.1))).bind λc=>(z5a φ φ e (c.length:Int) 0 ([]:List zk) c)))
def z98(φ:Nat):Fsp TV:=⟨[54,0],[.val 37],kk2 (zbz φ)⟩
def z43(φ:Nat)(g h i j k:Int)(o :(List Int))(l:Int)(p :(List Int))(b m :(List z7))(c :(List Int))(d :(List Arc))(e :(List Int))(f :(List Arc)):Option (Bool×Unit):=(ck (((((((g !=0)||(h !=0))||(i !=0))||(j !=0))||(((b.length:Int):Int) !=1))=false)->rg 0 b.length) (if(((((((((g !=0)||(h !=0))||(i !=0))||(j !=0))||(((b.length:Int):Int) !=1))||(!((((gt b 0).supply:Int)==0)&&((((gt b 0).order:Int)==0)&&((((gt b 0).count:Int)==2)&&true)))))||(k !=1090))||(((m.length:Int):Int) !=0))||(l !=120))=true then(some (false,())) else((zbz φ ([(⟨(⟨0,0⟩:Ref),(⟨0,0⟩:Ref),0,(⟨15,(⟨0,0⟩:Ref),0,0,0,1,0,300,0,0,0,2,0,(⟨#[]⟩:ByteArray),([]:List Part)⟩:Item)⟩:zl)]) 300).bind λa=>(ck (((((((((c.length:Int):Int)==4)&&(((d.length:Int):Int)==4))&&(((e.length:Int):Int)==4))&&(((f.length:Int):Int)==3))&&(((a.1.length:Int):Int)==1))=true)->rg 0 a.1.length) (ck ((((((((((c.length:Int):Int)==4)&&(((d.length:Int):Int)==4))&&(((e.length:Int):Int)==4))&&(((f.length:Int):Int)==3))&&(((a.1.length:Int):Int)==1))&&(((gt a.1 0).count:Int)==2))=true)->rg 0 a.1.length) (if(((((((((c.length:Int):Int)==4)&&(((d.length:Int):Int)==4))&&(((e.length:Int):Int)==4))&&(((f.length:Int):Int)==3))&&(((a.1.length:Int):Int)==1))&&(((gt a.1 0).count:Int)==2))&&(((gt a.1 0).type_:Int)==1))=true then((zbz φ ([(⟨(⟨0,0⟩:Ref),(⟨0,0⟩:Ref),0,(⟨15,(⟨0,0⟩:Ref),0,0,0,1,0,300,0,0,0,2,0,(⟨#[]⟩:ByteArray),([]:List Part)⟩:Item)⟩:zl)]) 301).bind λn=>(some ((((n.1.length:Int):Int)==0),()))) else(some (false,()))))))))
def z5l(φ:Nat)(a b c d:Int)(e :(List Int))(f:Int)(g m :(List Int))(h :(List Arc))(i j :(List z7))(k :(List Int))(l :(List Arc)):Option (Bool×Unit):=(if(decide ((2048:Int)<(h.length:Int)))=true then(z43 φ a b c 2 d e f g i j k l ([]:List Int) ([]:List Arc)) else(z43 φ a b c 0 d e f g i j k l m h))
def z7b(φ:Nat)(u :(Int->Int->Int->Int->Int->Int->Int->Pool->(List zb)->Int->(List Int)->Int->(List Int)->(List zk)->(List Int)->(List Arc)->(List z7)->(List z7)->(List Int)->(List Arc)->Option (Bool×Unit))):Nat->Int->Int->Int->Int->Int->Int->Int->Int->Int->Int->Pool->zb->(List zb)->(List zk)->Int->(List Int)->Int->(List Int)->(List Int)->(List Arc)->(List z7)->(List z7)->(List Int)->(List Arc)->Option (Bool×Unit)
 |0,_,_,_,_,_,_,_,_,_,_,_,_,_,_,_,_,_,_,_,_,_,_,_,_=>none
 |A+1,v,w,e,x,y,z,a,g,h,i,j,c,d,b,k,l,m,n,o,f,p,q,r,s=>(if(decide (a<z))=true then(ck (rg a b.length) ((z1e φ j c (gt b a)).bind λt=>(if t.2.1=true then(ck (fits (f.length+([(⟨e,W ((d.length:Int)+a),min2 c.count ((gt b a).count),t.1⟩:Arc)]).length) 32) (if(!true)=true then(z5l φ g h i k l m n o ((f++[(⟨e,W ((d.length:Int)+a),min2 c.count ((gt b a).count),t.1⟩:Arc)])) p q r s) else((z7b φ u A) v w e x y z (W (a+1)) g h i j c d b k l m n o ((f++[(⟨e,W ((d.length:Int)+a),min2 c.count ((gt b a).count),t.1⟩:Arc)])) p q r s))) else((z7b φ u A) v w e x y z (W (a+1)) g h i j c d b k l m n o f p q r s)))) else(u v w x (W (y+1)) g h i j d k l m n b o f p q r s))
def zao(φ:Nat):Nat->Int->Int->Int->Int->Int->Int->Int->(List zb)->Int->(List Int)->Int->(List Int)->(List Int)->(List Arc)->(List z7)->(List z7)->(List Int)->(List Arc)->Option (Bool×Unit)
 |0,_,_,_,_,_,_,_,_,_,_,_,_,_,_,_,_,_,_=>none
 |s+1,b,e,r,a,f,g,h,c,i,j,k,l,m,d,n,o,p,q=>(if(decide (a<r))=true then(ck (rg a c.length) (ck (fits (d.length+([(⟨a,W (b+1),(gt c a).count,0⟩:Arc)]).length) 32) (if(!true)=true then(z5l φ f g h i j k l m (d++[(⟨a,W (b+1),(gt c a).count,0⟩:Arc)]) n o p q) else((zao φ s) b e r (W (a+1)) f g h c i j k l m (d++[(⟨a,W (b+1),(gt c a).count,0⟩:Arc)]) n o p q)))) else(ck (fits (d.length+([(⟨b,W (b+1),e,0⟩:Arc)]).length) 32) (z5l φ f g h i j k l m (d++[(⟨b,W (b+1),e,0⟩:Arc)]) n o p q)))
def zan(φ:Nat):Nat->Int->Int->Int->Int->Int->Int->Int->(List zk)->Int->(List Int)->Int->(List Int)->(List zb)->(List Int)->(List Arc)->(List z7)->(List z7)->(List Int)->(List Arc)->Option (Bool×Unit)
 |0,_,_,_,_,_,_,_,_,_,_,_,_,_,_,_,_,_,_,_=>none
 |t+1,d,r,s,a,f,g,h,b,i,j,k,l,c,m,e,n,o,p,q=>(if(decide (a<s))=true then(ck (rg a b.length) (ck (fits (e.length+([(⟨d,W ((c.length:Int)+a),(gt b a).count,(gt b a).weight⟩:Arc)]).length) 32) (if(!true)=true then(z5l φ f g h i j k l m ((e++[(⟨d,W ((c.length:Int)+a),(gt b a).count,(gt b a).weight⟩:Arc)])) n o p q) else((zan φ t) d (W (r+(gt b a).count)) s (W (a+1)) f g h b i j k l c m ((e++[(⟨d,W ((c.length:Int)+a),(gt b a).count,(gt b a).weight⟩:Arc)])) n o p q)))) else(zao φ φ d r (c.length:Int) 0 f g h c i j k l m e n o p q))
def zam(φ:Nat):Nat->Int->Int->Int->Int->Int->Int->Int->Pool->(List zb)->Int->(List Int)->Int->(List Int)->(List zk)->(List Int)->(List Arc)->(List z7)->(List z7)->(List Int)->(List Arc)->Option (Bool×Unit)
 |0,_,_,_,_,_,_,_,_,_,_,_,_,_,_,_,_,_,_,_,_=>none
 |t+1,d,e,f,a,g,h,i,u,b,j,k,l,m,c,n,o,p,q,r,s=>(if(decide (a<f))=true then(ck (rg a b.length) (z7b φ (zam φ t) φ d e a f a (c.length:Int) 0 g h i u (gt b a) b c j k l m n o p q r s)) else(zan φ φ d e (c.length:Int) 0 g h i c j k l m b n o p q r s))
def zc8(φ:Nat):Nat->Int->Int->Int->Int->Int->Int->Int->(List zb)->(List zk)->Pool->Int->(List Int)->Int->(List Int)->(List Int)->(List Arc)->(List z7)->(List z7)->(List Int)->(List Arc)->Option (Bool×Unit)
 |0,_,_,_,_,_,_,_,_,_,_,_,_,_,_,_,_,_,_,_,_=>none
 |u+1,d,e,s,b,f,g,h,i,a,r,j,k,l,m,c,t,n,o,p,q=>(if(decide (b<s))=true then(ck (rg b a.length) ((z2u φ r (gt a b)).bind λv=>(if(!v.1)=true then(z43 φ f g h 1 j k l m n o p q ([]:List Int) ([]:List Arc)) else(ck (fits (c.length+([(W (0-(gt a b).count))]).length) 8) ((zc8 φ u) d (W (e+(gt a b).count)) s (W (b+1)) f g h i a r j k l m ((c++[(W (0-(gt a b).count))])) t n o p q))))) else(ck (fits (c.length+([e,(W (0-d))]).length) 8) (if(decide ((256:Int)<((c++[e,(W (0-d))]).length:Int)))=true then(z43 φ f g h 2 j k l m n o p q ([]:List Int) ([]:List Arc)) else(zam φ φ (W ((i.length:Int)+(a.length:Int))) 0 (i.length:Int) 0 f g h r i j k l m a (c++[e,(W (0-d))]) t n o p q))))
def zc7(φ:Nat):Nat->Int->Int->Int->Int->Int->Int->Int->(List zb)->(List zk)->Pool->Int->(List Int)->Int->(List Int)->(List Int)->(List Arc)->(List z7)->(List z7)->(List Int)->(List Arc)->Option (Bool×Unit)
 |0,_,_,_,_,_,_,_,_,_,_,_,_,_,_,_,_,_,_,_,_=>none
 |u+1,q,r,s,a,c,d,e,b,f,g,h,i,j,k,l,t,m,n,o,p=>(if(decide (a<s))=true then(ck (rg a b.length) ((z24 φ g (gt b a)).bind λv=>(if(!v.1)=true then(z43 φ c d e 1 h i j k m n o p ([]:List Int) ([]:List Arc)) else(ck (fits (l.length+([(gt b a).count]).length) 8) ((zc7 φ u) (W (q+(gt b a).count)) r s (W (a+1)) c d e b f g h i j k (l++[(gt b a).count]) t m n o p))))) else(zc8 φ φ q r (f.length:Int) 0 c d e b f g h i j k l t m n o p))
def z42(φ:Nat)(b c d:Int)(e :(List zb))(a :(List zk))(f:Int)(g :(List Int))(h:Int)(i :(List Int))(j k :(List z7))(l :(List Int))(m :(List Arc)):Option (Bool×Unit):=(ck (rg 0 a.length) ((za0 φ).bind λn=>((z1f φ n.1).bind λo=>(if(o.1 !=0)=true then(z43 φ b c d o.1 f g h i j k l m ([]:List Int) ([]:List Arc)) else(zc7 φ φ 0 0 (e.length:Int) 0 b c d e (zq a 0 (⟨(gt a 0).type_,3,(gt a 0).place,(gt a 0).from_,(gt a 0).to,(gt a 0).count,(gt a 0).weight⟩:zk)) n.1 f g h i ([]:List Int) ([]:List Arc) j k l m)))))
def z5m(φ:Nat)(a b:Int)(c :(List zb))(d :(List zk))(e:Int)(f :(List Int))(g:Int)(h l :(List Int))(i :(List Arc))(j k :(List z7)):Option (Bool×Unit):=(if(decide ((2048:Int)<(i.length:Int)))=true then(z42 φ a b 2 c d e f g h j k ([]:List Int) ([]:List Arc)) else(z42 φ a b 0 c d e f g h j k l i))
def z7c(φ:Nat)(r :(Int->Int->Int->Int->Int->Int->Pool->(List zb)->(List zk)->Int->(List Int)->Int->(List Int)->(List Int)->(List Arc)->(List z7)->(List z7)->Option (Bool×Unit))):Nat->Int->Int->Int->Int->Int->Int->Int->Int->Int->Pool->zb->(List zb)->(List zk)->Int->(List Int)->Int->(List Int)->(List Int)->(List Arc)->(List z7)->(List z7)->Option (Bool×Unit)
 |0,_,_,_,_,_,_,_,_,_,_,_,_,_,_,_,_,_,_,_,_,_=>none
 |x+1,s,t,e,u,v,w,a,g,h,i,d,c,b,j,k,l,m,n,f,o,p=>(if(decide (a<w))=true then(ck (rg a b.length) ((z1e φ i d (gt b a)).bind λq=>(if q.2.1=true then(ck (fits (f.length+([(⟨e,W ((c.length:Int)+a),min2 d.count ((gt b a).count),q.1⟩:Arc)]).length) 32) (if(!true)=true then(z5m φ g h c b j k l m n ((f++[(⟨e,W ((c.length:Int)+a),min2 d.count ((gt b a).count),q.1⟩:Arc)])) o p) else((z7c φ r x) s t e u v w (W (a+1)) g h i d c b j k l m n ((f++[(⟨e,W ((c.length:Int)+a),min2 d.count ((gt b a).count),q.1⟩:Arc)])) o p))) else((z7c φ r x) s t e u v w (W (a+1)) g h i d c b j k l m n f o p)))) else(r s t u (W (v+1)) g h i c b j k l m n f o p))
def zau(φ:Nat):Nat->Int->Int->Int->Int->Int->Int->(List zb)->(List zk)->Int->(List Int)->Int->(List Int)->(List Int)->(List Arc)->(List z7)->(List z7)->Option (Bool×Unit)
 |0,_,_,_,_,_,_,_,_,_,_,_,_,_,_,_,_=>none
 |q+1,b,e,p,a,f,g,c,h,i,j,k,l,m,d,n,o=>(if(decide (a<p))=true then(ck (rg a c.length) (ck (fits (d.length+([(⟨a,W (b+1),(gt c a).count,0⟩:Arc)]).length) 32) (if(!true)=true then(z5m φ f g c h i j k l m (d++[(⟨a,W (b+1),(gt c a).count,0⟩:Arc)]) n o) else((zau φ q) b e p (W (a+1)) f g c h i j k l m (d++[(⟨a,W (b+1),(gt c a).count,0⟩:Arc)]) n o)))) else(ck (fits (d.length+([(⟨b,W (b+1),e,0⟩:Arc)]).length) 32) (z5m φ f g c h i j k l m (d++[(⟨b,W (b+1),e,0⟩:Arc)]) n o)))
def zas(φ:Nat):Nat->Int->Int->Int->Int->Int->Int->(List zk)->(List zb)->Int->(List Int)->Int->(List Int)->(List Int)->(List Arc)->(List z7)->(List z7)->Option (Bool×Unit)
 |0,_,_,_,_,_,_,_,_,_,_,_,_,_,_,_,_=>none
 |q+1,d,o,p,a,f,g,b,c,h,i,j,k,l,e,m,n=>(if(decide (a<p))=true then(ck (rg a b.length) (ck (fits (e.length+([(⟨d,W ((c.length:Int)+a),(gt b a).count,(gt b a).weight⟩:Arc)]).length) 32) (if(!true)=true then(z5m φ f g c b h i j k l ((e++[(⟨d,W ((c.length:Int)+a),(gt b a).count,(gt b a).weight⟩:Arc)])) m n) else((zas φ q) d (W (o+(gt b a).count)) p (W (a+1)) f g b c h i j k l ((e++[(⟨d,W ((c.length:Int)+a),(gt b a).count,(gt b a).weight⟩:Arc)])) m n)))) else(zau φ φ d o (c.length:Int) 0 f g c b h i j k l e m n))
def zar(φ:Nat):Nat->Int->Int->Int->Int->Int->Int->Pool->(List zb)->(List zk)->Int->(List Int)->Int->(List Int)->(List Int)->(List Arc)->(List z7)->(List z7)->Option (Bool×Unit)
 |0,_,_,_,_,_,_,_,_,_,_,_,_,_,_,_,_,_=>none
 |q+1,d,e,f,a,g,h,r,b,c,i,j,k,l,m,n,o,p=>(if(decide (a<f))=true then(ck (rg a b.length) (z7c φ (zar φ q) φ d e a f a (c.length:Int) 0 g h r (gt b a) b c i j k l m n o p)) else(zas φ φ d e (c.length:Int) 0 g h c b i j k l m n o p))
def zaq(φ:Nat):Nat->Int->Int->Int->Int->Int->Int->(List zb)->(List zk)->Pool->Int->(List Int)->Int->(List Int)->(List Int)->(List Arc)->(List z7)->(List z7)->Option (Bool×Unit)
 |0,_,_,_,_,_,_,_,_,_,_,_,_,_,_,_,_,_=>none
 |r+1,e,f,p,b,g,h,c,a,o,i,j,k,l,d,q,m,n=>(if(decide (b<p))=true then(ck (rg b a.length) ((z2u φ o (gt a b)).bind λs=>(if(!s.1)=true then(z42 φ g h 1 c a i j k l m n ([]:List Int) ([]:List Arc)) else(ck (fits (d.length+([(W (0-(gt a b).count))]).length) 8) ((zaq φ r) e (W (f+(gt a b).count)) p (W (b+1)) g h c a o i j k l ((d++[(W (0-(gt a b).count))])) q m n))))) else(ck (fits (d.length+([f,(W (0-e))]).length) 8) (if(decide ((256:Int)<((d++[f,(W (0-e))]).length:Int)))=true then(z42 φ g h 2 c a i j k l m n ([]:List Int) ([]:List Arc)) else(zar φ φ (W ((c.length:Int)+(a.length:Int))) 0 (c.length:Int) 0 g h o c a i j k l (d++[f,(W (0-e))]) q m n))))
def zap(φ:Nat):Nat->Int->Int->Int->Int->Int->Int->(List zb)->(List zk)->Pool->Int->(List Int)->Int->(List Int)->(List Int)->(List Arc)->(List z7)->(List z7)->Option (Bool×Unit)
 |0,_,_,_,_,_,_,_,_,_,_,_,_,_,_,_,_,_=>none
 |r+1,n,o,p,b,d,e,a,c,f,g,h,i,j,k,q,l,m=>(if(decide (b<p))=true then(ck (rg b a.length) ((z24 φ f (gt a b)).bind λs=>(if(!s.1)=true then(z42 φ d e 1 a c g h i j l m ([]:List Int) ([]:List Arc)) else(ck (fits (k.length+([(gt a b).count]).length) 8) ((zap φ r) (W (n+(gt a b).count)) o p (W (b+1)) d e a c f g h i j (k++[(gt a b).count]) q l m))))) else(zaq φ φ n o (c.length:Int) 0 d e a c f g h i j k q l m))
def z8o(φ:Nat)(b c:Int)(a :(List zb))(d :(List zk))(e:Int)(f :(List Int))(g:Int)(h :(List Int))(i j :(List z7)):Option (Bool×Unit):=((za0 φ).bind λk=>((z1f φ k.1).bind λl=>(if(l.1 !=0)=true then(z42 φ b c l.1 a d e f g h i j ([]:List Int) ([]:List Arc)) else(zap φ φ 0 0 (a.length:Int) 0 b c a d k.1 e f g h ([]:List Int) ([]:List Arc) i j))))
def z7d(φ:Nat):Nat->(List Arc)->Int->Int->Int->(List zb)->(List zk)->Int->(List Int)->Flow->Int->(List Int)->(List z7)->(List z7)->Option (Bool×Unit)
 |0,_,_,_,_,_,_,_,_,_,_,_,_,_=>none
 |n+1,b,g,a,h,c,e,i,j,d,k,l,f,m=>(if(decide (a<g))=true then(ck (rg a b.length) (ck ((((decide (((gt b a).from_:Int)<(c.length:Int)))&&(decide (((gt b a).to:Int)<(W ((c.length:Int)+(e.length:Int))))))=true)->rg a d.x.length) (if(((decide (((gt b a).from_:Int)<(c.length:Int)))&&(decide (((gt b a).to:Int)<(W ((c.length:Int)+(e.length:Int))))))&&(decide ((0:Int)<(gt d.x a))))=true then(ck (rg a d.x.length) (ck (fits (f.length+([(⟨(gt b a).from_,W ((gt b a).to-(c.length:Int)),gt d.x a⟩:z7)]).length) 24) ((z7d φ n) b g (W (a+1)) h c e i j d k l ((f++[(⟨(gt b a).from_,W ((gt b a).to-(c.length:Int)),gt d.x a⟩:z7)])) m))) else((z7d φ n) b g (W (a+1)) h c e i j d k l f m)))) else(z8o φ h 0 c e k l i j m f))
def z3a(φ:Nat)(i c:Int)(d :(List zb))(e :(List zk))(m f:Int)(g :(List Int))(k :(List z7))(n j :(List Int))(b :(List Arc))(h :(List z7)):Option (Bool×Unit):=(if(i !=0)=true then(z8o φ c i d e f g 0 ([]:List Int) h ([]:List z7)) else((z9y φ (⟨j,b⟩:zh)).bind λa=>(if(a.2.1 !=0)=true then(z8o φ c a.2.1 d e f g 0 ([]:List Int) h ([]:List z7)) else((zah φ (⟨j,b⟩:zh) a.1).bind λl=>(z7d φ φ b (b.length:Int) 0 c d e l.1 a.1.price a.1 f g k h)))))
def z5n(φ:Nat)(a:Int)(b :(List zb))(c :(List zk))(d e:Int)(f k :(List Int))(g :(List Arc))(h :(List z7))(i :(List Int))(j :(List z7)):Option (Bool×Unit):=(if(decide ((2048:Int)<(g.length:Int)))=true then(z3a φ 2 a b c d e f h i ([]:List Int) ([]:List Arc) j) else(z3a φ 0 a b c d e f h i k g j))
def z7e(φ:Nat)(q :(Int->Int->Int->Int->Int->Pool->(List zb)->(List zk)->Int->Int->(List Int)->(List Int)->(List Arc)->(List z7)->(List Int)->(List z7)->Option (Bool×Unit))):Nat->Int->Int->Int->Int->Int->Int->Int->Int->Pool->zb->(List zb)->(List zk)->Int->Int->(List Int)->(List Int)->(List Arc)->(List z7)->(List Int)->(List z7)->Option (Bool×Unit)
 |0,_,_,_,_,_,_,_,_,_,_,_,_,_,_,_,_,_,_,_,_=>none
 |w+1,r,s,e,t,u,v,a,g,h,d,c,b,i,j,k,l,f,m,n,o=>(if(decide (a<v))=true then(ck (rg a b.length) ((z1e φ h d (gt b a)).bind λp=>(if p.2.1=true then(ck (fits (f.length+([(⟨e,W ((c.length:Int)+a),min2 d.count ((gt b a).count),p.1⟩:Arc)]).length) 32) (if(!true)=true then(z5n φ g c b i j k l ((f++[(⟨e,W ((c.length:Int)+a),min2 d.count ((gt b a).count),p.1⟩:Arc)])) m n o) else((z7e φ q w) r s e t u v (W (a+1)) g h d c b i j k l ((f++[(⟨e,W ((c.length:Int)+a),min2 d.count ((gt b a).count),p.1⟩:Arc)])) m n o))) else((z7e φ q w) r s e t u v (W (a+1)) g h d c b i j k l f m n o)))) else(q r s t (W (u+1)) g h c b i j k l f m n o))
def zaz(φ:Nat):Nat->Int->Int->Int->Int->Int->(List zb)->(List zk)->Int->Int->(List Int)->(List Int)->(List Arc)->(List z7)->(List Int)->(List z7)->Option (Bool×Unit)
 |0,_,_,_,_,_,_,_,_,_,_,_,_,_,_,_=>none
 |p+1,b,e,o,a,f,c,g,h,i,j,k,d,l,m,n=>(if(decide (a<o))=true then(ck (rg a c.length) (ck (fits (d.length+([(⟨a,W (b+1),(gt c a).count,0⟩:Arc)]).length) 32) (if(!true)=true then(z5n φ f c g h i j k (d++[(⟨a,W (b+1),(gt c a).count,0⟩:Arc)]) l m n) else((zaz φ p) b e o (W (a+1)) f c g h i j k (d++[(⟨a,W (b+1),(gt c a).count,0⟩:Arc)]) l m n)))) else(ck (fits (d.length+([(⟨b,W (b+1),e,0⟩:Arc)]).length) 32) (z5n φ f c g h i j k (d++[(⟨b,W (b+1),e,0⟩:Arc)]) l m n)))
def zay(φ:Nat):Nat->Int->Int->Int->Int->Int->(List zk)->(List zb)->Int->Int->(List Int)->(List Int)->(List Arc)->(List z7)->(List Int)->(List z7)->Option (Bool×Unit)
 |0,_,_,_,_,_,_,_,_,_,_,_,_,_,_,_=>none
 |p+1,d,n,o,a,f,b,c,g,h,i,j,e,k,l,m=>(if(decide (a<o))=true then(ck (rg a b.length) (ck (fits (e.length+([(⟨d,W ((c.length:Int)+a),(gt b a).count,(gt b a).weight⟩:Arc)]).length) 32) (if(!true)=true then(z5n φ f c b g h i j ((e++[(⟨d,W ((c.length:Int)+a),(gt b a).count,(gt b a).weight⟩:Arc)])) k l m) else((zay φ p) d (W (n+(gt b a).count)) o (W (a+1)) f b c g h i j ((e++[(⟨d,W ((c.length:Int)+a),(gt b a).count,(gt b a).weight⟩:Arc)])) k l m)))) else(zaz φ φ d n (c.length:Int) 0 f c b g h i j e k l m))
def zax(φ:Nat):Nat->Int->Int->Int->Int->Int->Pool->(List zb)->(List zk)->Int->Int->(List Int)->(List Int)->(List Arc)->(List z7)->(List Int)->(List z7)->Option (Bool×Unit)
 |0,_,_,_,_,_,_,_,_,_,_,_,_,_,_,_,_=>none
 |p+1,d,e,f,a,g,q,b,c,h,i,j,k,l,m,n,o=>(if(decide (a<f))=true then(ck (rg a b.length) (z7e φ (zax φ p) φ d e a f a (c.length:Int) 0 g q (gt b a) b c h i j k l m n o)) else(zay φ φ d e (c.length:Int) 0 g c b h i j k l m n o))
def zaw(φ:Nat):Nat->Int->Int->Int->Int->Int->(List zb)->(List zk)->Pool->Int->Int->(List Int)->(List Int)->(List Arc)->(List z7)->(List Int)->(List z7)->Option (Bool×Unit)
 |0,_,_,_,_,_,_,_,_,_,_,_,_,_,_,_,_=>none
 |q+1,e,f,o,b,g,c,a,n,h,i,j,d,p,k,l,m=>(if(decide (b<o))=true then(ck (rg b a.length) ((z2u φ n (gt a b)).bind λr=>(if(!r.1)=true then(z3a φ 1 g c a h i j k l ([]:List Int) ([]:List Arc) m) else(ck (fits (d.length+([(W (0-(gt a b).count))]).length) 8) ((zaw φ q) e (W (f+(gt a b).count)) o (W (b+1)) g c a n h i j ((d++[(W (0-(gt a b).count))])) p k l m))))) else(ck (fits (d.length+([f,(W (0-e))]).length) 8) (if(decide ((256:Int)<((d++[f,(W (0-e))]).length:Int)))=true then(z3a φ 2 g c a h i j k l ([]:List Int) ([]:List Arc) m) else(zax φ φ (W ((c.length:Int)+(a.length:Int))) 0 (c.length:Int) 0 g n c a h i j (d++[f,(W (0-e))]) p k l m))))
def zav(φ:Nat):Nat->Int->Int->Int->Int->Int->(List zb)->(List zk)->Pool->Int->Int->(List Int)->(List Int)->(List Arc)->(List z7)->(List Int)->(List z7)->Option (Bool×Unit)
 |0,_,_,_,_,_,_,_,_,_,_,_,_,_,_,_,_=>none
 |q+1,m,n,o,b,d,a,c,e,f,g,h,i,p,j,k,l=>(if(decide (b<o))=true then(ck (rg b a.length) ((z24 φ e (gt a b)).bind λr=>(if(!r.1)=true then(z3a φ 1 d a c f g h j k ([]:List Int) ([]:List Arc) l) else(ck (fits (i.length+([(gt a b).count]).length) 8) ((zav φ q) (W (m+(gt a b).count)) n o (W (b+1)) d a c e f g h (i++[(gt a b).count]) p j k l))))) else(zaw φ φ m n (c.length:Int) 0 d a c e f g h i p j k l))
def z8n(φ:Nat)(c:Int)(b :(List zb))(a :(List zk))(d:Int)(e :(List Int))(f :(List z7)):Option (Bool×Unit):=(ck (rg 0 a.length) ((za0 φ).bind λg=>((z1f φ g.1).bind λh=>(if(h.1 !=0)=true then(z3a φ h.1 c b (zq a 0 (⟨(gt a 0).type_,(gt a 0).class_,(gt a 0).place,(gt a 0).from_,(gt a 0).to,(gt a 0).count,40⟩:zk)) 0 d e ([]:List z7) ([]:List Int) ([]:List Int) ([]:List Arc) f) else(zav φ φ 0 0 (b.length:Int) 0 c b (zq a 0 (⟨(gt a 0).type_,(gt a 0).class_,(gt a 0).place,(gt a 0).from_,(gt a 0).to,(gt a 0).count,40⟩:zk)) g.1 0 d e ([]:List Int) ([]:List Arc) ([]:List z7) ([]:List Int) f)))))
def z7f(φ:Nat):Nat->(List Arc)->Int->Int->(List zb)->(List zk)->Int->(List Int)->Flow->(List z7)->Option (Bool×Unit)
 |0,_,_,_,_,_,_,_,_,_=>none
 |j+1,b,g,a,c,e,h,i,d,f=>(if(decide (a<g))=true then(ck (rg a b.length) (ck ((((decide (((gt b a).from_:Int)<(c.length:Int)))&&(decide (((gt b a).to:Int)<(W ((c.length:Int)+(e.length:Int))))))=true)->rg a d.x.length) (if(((decide (((gt b a).from_:Int)<(c.length:Int)))&&(decide (((gt b a).to:Int)<(W ((c.length:Int)+(e.length:Int))))))&&(decide ((0:Int)<(gt d.x a))))=true then(ck (rg a d.x.length) (ck (fits (f.length+([(⟨(gt b a).from_,W ((gt b a).to-(c.length:Int)),gt d.x a⟩:z7)]).length) 24) ((z7f φ j) b g (W (a+1)) c e h i d ((f++[(⟨(gt b a).from_,W ((gt b a).to-(c.length:Int)),gt d.x a⟩:z7)]))))) else((z7f φ j) b g (W (a+1)) c e h i d f)))) else(z8n φ 0 c e h i f))
def z3b(φ:Nat)(e:Int)(c :(List zb))(d :(List zk))(i:Int)(g :(List z7))(j f :(List Int))(b :(List Arc)):Option (Bool×Unit):=(if(e !=0)=true then(z8n φ e c d 0 ([]:List Int) ([]:List z7)) else((z9y φ (⟨f,b⟩:zh)).bind λa=>(if(a.2.1 !=0)=true then(z8n φ a.2.1 c d 0 ([]:List Int) ([]:List z7)) else((zah φ (⟨f,b⟩:zh) a.1).bind λh=>(z7f φ φ b (b.length:Int) 0 c d h.1 a.1.price a.1 g)))))
def z5o(φ:Nat)(a :(List zb))(b :(List zk))(c:Int)(g :(List Int))(d :(List Arc))(e :(List z7))(f :(List Int)):Option (Bool×Unit):=(if(decide ((2048:Int)<(d.length:Int)))=true then(z3b φ 2 a b c e f ([]:List Int) ([]:List Arc)) else(z3b φ 0 a b c e f g d))
def z7g(φ:Nat)(m :(Int->Int->Int->Int->Pool->(List zb)->(List zk)->Int->(List Int)->(List Arc)->(List z7)->(List Int)->Option (Bool×Unit))):Nat->Int->Int->Int->Int->Int->Int->Int->Pool->zb->(List zb)->(List zk)->Int->(List Int)->(List Arc)->(List z7)->(List Int)->Option (Bool×Unit)
 |0,_,_,_,_,_,_,_,_,_,_,_,_,_,_,_,_=>none
 |s+1,n,o,e,p,q,r,a,g,d,c,b,h,i,f,j,k=>(if(decide (a<r))=true then(ck (rg a b.length) ((z1e φ g d (gt b a)).bind λl=>(if l.2.1=true then(ck (fits (f.length+([(⟨e,W ((c.length:Int)+a),min2 d.count ((gt b a).count),l.1⟩:Arc)]).length) 32) (if(!true)=true then(z5o φ c b h i ((f++[(⟨e,W ((c.length:Int)+a),min2 d.count ((gt b a).count),l.1⟩:Arc)])) j k) else((z7g φ m s) n o e p q r (W (a+1)) g d c b h i ((f++[(⟨e,W ((c.length:Int)+a),min2 d.count ((gt b a).count),l.1⟩:Arc)])) j k))) else((z7g φ m s) n o e p q r (W (a+1)) g d c b h i f j k)))) else(m n o p (W (q+1)) g c b h i f j k))
def zb4(φ:Nat):Nat->Int->Int->Int->Int->(List zb)->(List zk)->Int->(List Int)->(List Arc)->(List z7)->(List Int)->Option (Bool×Unit)
 |0,_,_,_,_,_,_,_,_,_,_,_=>none
 |l+1,b,e,k,a,c,f,g,h,d,i,j=>(if(decide (a<k))=true then(ck (rg a c.length) (ck (fits (d.length+([(⟨a,W (b+1),(gt c a).count,0⟩:Arc)]).length) 32) (if(!true)=true then(z5o φ c f g h (d++[(⟨a,W (b+1),(gt c a).count,0⟩:Arc)]) i j) else((zb4 φ l) b e k (W (a+1)) c f g h (d++[(⟨a,W (b+1),(gt c a).count,0⟩:Arc)]) i j)))) else(ck (fits (d.length+([(⟨b,W (b+1),e,0⟩:Arc)]).length) 32) (z5o φ c f g h (d++[(⟨b,W (b+1),e,0⟩:Arc)]) i j)))
def zb3(φ:Nat):Nat->Int->Int->Int->Int->(List zk)->(List zb)->Int->(List Int)->(List Arc)->(List z7)->(List Int)->Option (Bool×Unit)
 |0,_,_,_,_,_,_,_,_,_,_,_=>none
 |l+1,d,j,k,a,b,c,f,g,e,h,i=>(if(decide (a<k))=true then(ck (rg a b.length) (ck (fits (e.length+([(⟨d,W ((c.length:Int)+a),(gt b a).count,(gt b a).weight⟩:Arc)]).length) 32) (if(!true)=true then(z5o φ c b f g ((e++[(⟨d,W ((c.length:Int)+a),(gt b a).count,(gt b a).weight⟩:Arc)])) h i) else((zb3 φ l) d (W (j+(gt b a).count)) k (W (a+1)) b c f g ((e++[(⟨d,W ((c.length:Int)+a),(gt b a).count,(gt b a).weight⟩:Arc)])) h i)))) else(zb4 φ φ d j (c.length:Int) 0 c b f g e h i))
def zb2(φ:Nat):Nat->Int->Int->Int->Int->Pool->(List zb)->(List zk)->Int->(List Int)->(List Arc)->(List z7)->(List Int)->Option (Bool×Unit)
 |0,_,_,_,_,_,_,_,_,_,_,_,_=>none
 |l+1,d,e,f,a,m,b,c,g,h,i,j,k=>(if(decide (a<f))=true then(ck (rg a b.length) (z7g φ (zb2 φ l) φ d e a f a (c.length:Int) 0 m (gt b a) b c g h i j k)) else(zb3 φ φ d e (c.length:Int) 0 c b g h i j k))
def zb1(φ:Nat):Nat->Int->Int->Int->Int->(List zb)->(List zk)->Pool->Int->(List Int)->(List Arc)->(List z7)->(List Int)->Option (Bool×Unit)
 |0,_,_,_,_,_,_,_,_,_,_,_,_=>none
 |m+1,e,f,k,b,c,a,j,g,d,l,h,i=>(if(decide (b<k))=true then(ck (rg b a.length) ((z2u φ j (gt a b)).bind λn=>(if(!n.1)=true then(z3b φ 1 c a g h i ([]:List Int) ([]:List Arc)) else(ck (fits (d.length+([(W (0-(gt a b).count))]).length) 8) ((zb1 φ m) e (W (f+(gt a b).count)) k (W (b+1)) c a j g ((d++[(W (0-(gt a b).count))])) l h i))))) else(ck (fits (d.length+([f,(W (0-e))]).length) 8) (if(decide ((256:Int)<((d++[f,(W (0-e))]).length:Int)))=true then(z3b φ 2 c a g h i ([]:List Int) ([]:List Arc)) else(zb2 φ φ (W ((c.length:Int)+(a.length:Int))) 0 (c.length:Int) 0 j c a g (d++[f,(W (0-e))]) l h i))))
def zb0(φ:Nat):Nat->Int->Int->Int->Int->(List zb)->(List zk)->Pool->Int->(List Int)->(List Arc)->(List z7)->(List Int)->Option (Bool×Unit)
 |0,_,_,_,_,_,_,_,_,_,_,_,_=>none
 |m+1,i,j,k,b,a,c,d,e,f,l,g,h=>(if(decide (b<k))=true then(ck (rg b a.length) ((z24 φ d (gt a b)).bind λn=>(if(!n.1)=true then(z3b φ 1 a c e g h ([]:List Int) ([]:List Arc)) else(ck (fits (f.length+([(gt a b).count]).length) 8) ((zb0 φ m) (W (i+(gt a b).count)) j k (W (b+1)) a c d e (f++[(gt a b).count]) l g h))))) else(zb1 φ φ i j (c.length:Int) 0 a c d e f l g h))
def zcl(φ:Nat):Option (Bool×Unit):=((zal φ 0 0 145 45).bind λa=>((z0r (default,()) ((!a.1)=false) (zal φ 0 0 144 (-1))).bind λb=>((z0r (default,()) (((!a.1)||(!b.1))=false) (zal φ 1 0 145 52)).bind λc=>((z0r (default,()) ((((!a.1)||(!b.1))||(!c.1))=false) (zal φ 0 1 145 (-1))).bind λf=>(if((((!a.1)||(!b.1))||(!c.1))||(!f.1))=true then(some (false,())) else((za0 φ).bind λd=>((z1f φ d.1).bind λe=>(if(e.1 !=0)=true then(z3b φ e.1 ([(⟨0,1,0,100,2⟩:zb)]) ([(⟨0,2,1,0,500,3,1000⟩:zk)]) 0 ([]:List z7) ([]:List Int) ([]:List Int) ([]:List Arc)) else(zb0 φ φ 0 0 (([(⟨0,1,0,100,2⟩:zb)]).length:Int) 0 ([(⟨0,1,0,100,2⟩:zb)]) ([(⟨0,2,1,0,500,3,1000⟩:zk)]) d.1 0 ([]:List Int) ([]:List Arc) ([]:List z7) ([]:List Int))))))))))
def zf6(φ:Nat):Fsp TV:=⟨[],[.val 27],λz=>zcl φ⟩
def z2j(φ:Nat):Nat->Int->Pool->Option (Bool×Unit)
 |0,_,_=>none
 |c+1,a,b=>(if(decide (a<(b.railways.length:Int)))=true then(ck (rg a b.railways.length) (if(decide ((100:Int)<((((gt b.railways a).calendar).holidays).length:Int)))=true then(some (false,())) else((z2j φ c) (W (a+1)) b))) else(some (true,())))
def z7p(φ:Nat)(a:Pool):Option (Bool×Unit):=(if(((((((decide ((16:Int)<(a.network.places.length:Int)))||(decide ((40:Int)<(a.network.edges.length:Int))))||(decide ((8:Int)<(a.fleet.wagons.length:Int))))||(decide ((8:Int)<(a.readers.length:Int))))||(decide ((100:Int)<(a.fleet.swaps.length:Int))))||(decide ((100:Int)<(a.fleet.washes.length:Int))))||(decide ((17:Int)<(a.railways.length:Int))))=true then(some (false,())) else(z2j φ φ 0 a))
def z8d(φ:Nat):Fsp TV:=⟨[26],[.val 27],λz=>z7p φ z.1⟩
def zh8(φ:Nat)(a:Pool)(b :(List zb))(c :(List zk)):Option (Bool×Unit):=((z7p φ a).bind λd=>(some (((d.1&&(decide (((b.length:Int):Int)<=6)))&&(decide (((c.length:Int):Int)<=6))),())))
def zge(φ:Nat):Fsp TV:=⟨[26,36,37],[.val 27],kk3 (zh8 φ)⟩
def zbf(φ:Nat)(a :(List Int)):Option ((List Int)×Unit):=(ck (a.isEmpty=false) (ck (fits (([]:List Int).length+a.length) 8) (some ((([]:List Int)++a),()))))
def z8f(φ:Nat):Fsp TV:=⟨[22],[.row 3 0],λz=>zbf φ z.1⟩
def z2n(φ:Nat)(e :((List zb)->(List z7)->Int->(List Arc)->Int->Int->(List Int)->(List Int)->Option ((List Int)×Bool×Unit)))(f :(List zb))(g :(List z7))(h c:Int)(i :(List Arc))(j k:Int)(d b :(List Int))(a:Arc):Option ((List Int)×Bool×Unit):=(ck (rg a.from_ b.length) (ck (rg a.from_ b.length) (ck (rg a.to (((zq b a.from_ (W ((gt b a.from_)-c)))).length)) (ck (rg a.to (((zq b a.from_ (W ((gt b a.from_)-c)))).length)) (ck (fits (d.length+([c]).length) 8) (e f g h i j (W (k+1)) (d++[c]) ((zq ((zq b a.from_ (W ((gt b a.from_)-c)))) a.to ((W ((gt ((zq b a.from_ (W ((gt b a.from_)-c)))) a.to)+c)))))))))))
def zx(φ:Nat):Nat->(List zb)->(List z7)->Int->(List Arc)->Int->Int->(List Int)->(List Int)->Option ((List Int)×Bool×Unit)
 |0,_,_,_,_,_,_,_,_=>none
 |i+1,f,b,e,c,g,a,h,d=>(if(decide (a<g))=true then(ck (rg a c.length) (if((decide (((gt c a).from_:Int)<(f.length:Int)))&&(decide (((gt c a).to:Int)<e)))=true then(ck (((decide ((0:Int)<(b.length:Int)))=true)->rg 0 b.length) (ck ((((decide ((0:Int)<(b.length:Int)))&&(((gt b 0).supply:Int)==(gt c a).from_))=true)->rg 0 b.length) (if(((decide ((0:Int)<(b.length:Int)))&&(((gt b 0).supply:Int)==(gt c a).from_))&&(((gt b 0).order:Int)==(W ((gt c a).to-(f.length:Int)))))=true then(ck (rg 0 b.length) (ck (((decide (((gt b 0).count:Int)<1))=false)->rg (gt c a).from_ d.length) (ck ((((decide (((gt b 0).count:Int)<1))||(decide (((gt d ((gt c a).from_)):Int)<(gt b 0).count)))=false)->rg (gt c a).to d.length) (if(((decide (((gt b 0).count:Int)<1))||(decide (((gt d ((gt c a).from_)):Int)<(gt b 0).count)))||(decide (((W (0-(gt d ((gt c a).to)))):Int)<(gt b 0).count)))=true then(some (([]:List Int),false,())) else(ck ((0:Int)<=1/\1<=(b.length:Int)/\(b.length:Int)<=(b.length:Int)) (z2n φ (zx φ i) f (z4z b (1:Int).toNat ((b.length:Int):Int).toNat) e ((gt b 0).count) c g a h d (gt c a))))))) else(z2n φ (zx φ i) f b e 0 c g a h d (gt c a))))) else(if((((gt c a).from_:Int)==e)&&(decide (((gt c a).to:Int)<e)))=true then(ck (rg (gt c a).to d.length) (z2n φ (zx φ i) f b e ((W (0-(gt d ((gt c a).to))))) c g a h d (gt c a))) else(ck (rg (gt c a).from_ d.length) (z2n φ (zx φ i) f b e (gt d ((gt c a).from_)) c g a h d (gt c a)))))) else(some (h,(((b.length:Int):Int)==0),())))
def z6s(φ:Nat)(a:zh)(b :(List zb))(c :(List zk))(d :(List z7)):Option ((List Int)×Bool×Unit):=((zbf φ a.supply).bind λe=>(zx φ φ b d (W ((b.length:Int)+(c.length:Int))) a.arcs (a.arcs.length:Int) 0 ([]:List Int) e.1))
def zc1(φ:Nat):Fsp TV:=⟨[40,36,37,46],[.val 22,.val 27],kk4 (z6s φ)⟩
def z1g(φ:Nat):Nat->(List Arc)->Int->Int->Flow->Option (Int×Unit)
 |0,_,_,_,_=>none
 |e+1,b,d,a,c=>(if(decide (a<d))=true then(ck (rg a b.length) (ck (rg (gt b a).from_ c.price.length) (ck (rg (gt b a).to c.price.length) (ck (rg a c.x.length) (ck ((((decide (((gt c.x a):Int)<(gt b a).cap))&&(decide (((W ((W ((gt b a).cost+(gt c.price ((gt b a).from_))))-(gt c.price ((gt b a).to)))):Int)<0)))=false)->rg a c.x.length) (if(((decide (((gt c.x a):Int)<(gt b a).cap))&&(decide (((W ((W ((gt b a).cost+(gt c.price ((gt b a).from_))))-(gt c.price ((gt b a).to)))):Int)<0)))||((decide ((0:Int)<(gt c.x a)))&&(decide ((0:Int)<(W ((W ((gt b a).cost+(gt c.price ((gt b a).from_))))-(gt c.price ((gt b a).to))))))))=true then(some (361,())) else((z1g φ e) b d (W (a+1)) c))))))) else(some (0,())))
def z37(φ:Nat):Nat->(List Int)->Int->Int->zh->Flow->Option (Int×Unit)
 |0,_,_,_,_,_=>none
 |f+1,b,d,a,c,e=>(if(decide (a<d))=true then(ck (rg a b.length) ((z3t φ (gt b a) (-1125899906842624) 1125899906842624).bind λg=>(if(!g.1)=true then(some (361,())) else((z37 φ f) b d (W (a+1)) c e)))) else(z1g φ φ c.arcs (c.arcs.length:Int) 0 e))
def zdd(φ:Nat)(b:zh)(a:Flow):Option (Int×Unit):=((z9x φ b).bind λc=>(if(c.1 !=0)=true then(some (c.1,())) else((z78 φ b a).bind λd=>(if(!d.1)=true then(some (360,())) else(if(((a.price.length:Int):Int) !=(b.supply.length:Int))=true then(some (361,())) else(z37 φ φ a.price (a.price.length:Int) 0 b a))))))
def zdf(φ:Nat):Fsp TV:=⟨[40,41],[.val 0],kk2 (zdd φ)⟩
def z69(φ:Nat)(g:Pool)(d :(List zb))(e :(List zk))(b:Plan):Option (Int×Unit):=((z4t φ g d e).bind λa=>(if(a.2.1 !=0)=true then(some (a.2.1,())) else((z6s φ a.1 d e b.transfers).bind λc=>((z0r (default,()) ((!c.2.1)=false) (zdd φ a.1 (⟨c.1,b.price⟩:Flow))).bind λh=>(if((!c.2.1)||(h.1 !=0))=true then(some (370,())) else((zah φ a.1 (⟨c.1,b.price⟩:Flow)).bind λf=>(if((f.2.1 !=0)||(f.1 !=b.cost))=true then(some (370,())) else(some (0,())))))))))
def z96(φ:Nat):Fsp TV:=⟨[26,36,37,47],[.val 0],kk4 (z69 φ)⟩
def z1j(φ:Nat):Nat->(List zk)->Int->Int->(List Int)->Option (Int×Bool×Unit)
 |0,_,_,_,_=>none
 |e+1,b,d,a,c=>(if(decide (a<(b.length:Int)))=true then(ck (rg a c.length) (ck (rg a b.length) ((z1j φ e) b ((W (d+(W ((gt c a)*(gt b a).weight))))) (W (a+1)) c))) else(some (d,true,())))
def z4g(φ:Nat):Nat->(List zb)->(List zk)->(List z7)->Int->Int->Pool->(List Int)->(List Int)->Option (Int×Bool×Unit)
 |0,_,_,_,_,_,_,_,_=>none
 |j+1,g,f,a,h,b,i,d,e=>(if(decide (b<(a.length:Int)))=true then(ck (rg b a.length) (if((((decide (((gt a b).supply:Int)<0))||(decide (((g.length:Int):Int)<=(gt a b).supply)))||(decide (((gt a b).order:Int)<0)))||(decide (((f.length:Int):Int)<=(gt a b).order)))=true then(some (0,false,())) else(ck (rg (gt a b).supply g.length) (ck (rg (gt a b).order f.length) ((z8r φ i (gt g ((gt a b).supply)) (gt f ((gt a b).order))).bind λc=>(ck (((((((!c.2.1)||(c.2.2.1 !=0))||(decide (c.1<0)))||(decide ((1000000000:Int)<c.1)))||(decide (((gt a b).count:Int)<0)))=false)->rg (gt a b).supply d.length) (ck ((((((((!c.2.1)||(c.2.2.1 !=0))||(decide (c.1<0)))||(decide ((1000000000:Int)<c.1)))||(decide (((gt a b).count:Int)<0)))||(decide (((gt d ((gt a b).supply)):Int)<(gt a b).count)))=false)->rg (gt a b).order e.length) (if(((((((!c.2.1)||(c.2.2.1 !=0))||(decide (c.1<0)))||(decide ((1000000000:Int)<c.1)))||(decide (((gt a b).count:Int)<0)))||(decide (((gt d ((gt a b).supply)):Int)<(gt a b).count)))||(decide (((gt e ((gt a b).order)):Int)<(gt a b).count)))=true then(some (0,false,())) else(ck (rg (gt a b).supply d.length) (ck (rg (gt a b).supply d.length) (ck (rg (gt a b).order e.length) (ck (rg (gt a b).order e.length) ((z4g φ j) g f a ((W (h+(W (c.1*(gt a b).count))))) (W (b+1)) i ((zq d ((gt a b).supply) ((W ((gt d ((gt a b).supply))-(gt a b).count))))) ((zq e ((gt a b).order) ((W ((gt e ((gt a b).order))-(gt a b).count)))))))))))))))))) else(z1j φ φ f h 0 e))
def z2h(φ:Nat):Nat->(List zb)->(List zk)->(List z7)->Int->Pool->(List Int)->(List Int)->Option (Int×Bool×Unit)
 |0,_,_,_,_,_,_,_=>none
 |h+1,d,a,e,b,f,g,c=>(if(decide (b<(a.length:Int)))=true then(ck (rg b a.length) (ck (fits (c.length+([(gt a b).count]).length) 8) ((z2h φ h) d a e (W (b+1)) f g (c++[(gt a b).count])))) else(z4g φ φ d a e 0 0 f g c))
def z2g(φ:Nat):Nat->(List zb)->(List zk)->(List z7)->Int->Pool->(List Int)->Option (Int×Bool×Unit)
 |0,_,_,_,_,_,_=>none
 |g+1,a,d,e,b,f,c=>(if(decide (b<(a.length:Int)))=true then(ck (rg b a.length) (ck (fits (c.length+([(gt a b).count]).length) 8) ((z2g φ g) a d e (W (b+1)) f (c++[(gt a b).count])))) else(z2h φ φ a d e 0 f c ([]:List Int)))
def z4v(φ:Nat)(a:Pool)(b :(List zb))(c :(List zk))(d :(List z7)):Option (Int×Bool×Unit):=(z2g φ φ b c d 0 a ([]:List Int))
def zdo(φ:Nat):Fsp TV:=⟨[26,36,37,46],[.val 0,.val 27],kk4 (z4v φ)⟩
def z39(φ:Nat)(b:Pool)(c :(List zb))(d :(List zk))(f :(List z7)):Option (Bool×Unit):=((zcl φ).bind λi=>(if(!i.1)=true then(some (false,())) else((zh8 φ b c d).bind λj=>(if((!j.1)||(decide ((20:Int)<(f.length:Int))))=true then(some (true,())) else((z4t φ b c d).bind λg=>((z5r φ b c d).bind λa=>(if(g.2.1 !=0)=true then(some (((a.2.1==g.2.1)&&(((a.1.transfers.length:Int):Int)==0)),())) else((z4v φ b c d a.1.transfers).bind λe=>((z4v φ b c d f).bind λh=>((z0r (default,()) ((((a.2.1==0)&&e.2.1)&&(e.1==a.1.cost))=true) (z69 φ b c d a.1)).bind λk=>(some ((((((a.2.1==0)&&e.2.1)&&(e.1==a.1.cost))&&(k.1==0))&&((!h.2.1)||(decide (e.1<=h.1)))),()))))))))))))
def z3w(φ:Nat):Fsp TV:=⟨[26,36,37,46],[.val 27],kk4 (z39 φ)⟩
end Px
end
