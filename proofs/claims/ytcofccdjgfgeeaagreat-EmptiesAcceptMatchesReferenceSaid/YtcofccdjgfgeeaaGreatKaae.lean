/- A part of the proof of emptiesAcceptMatchesReference_holds. Conditions: none. -/
import Derived.Test.YtcofccdjgfgeeaaGreatKaad
import Derived.Shelf.SlSortCmp.NoneTotal
import Derived.Shelf.Sort.Plain
import Derived.Shelf.Slices.In.SortNone
set_option linter.unusedVariables false
set_option linter.unusedSimpArgs false
section
namespace Px
open Go Go.RowKit
section cells
variable{T:Nat->Type}
end cells
section
variable(V:TE)
variable{V}
end
theorem y7e{r:Nat->Prop}{w:World}: ∀{us vs:List Value},zm r w (us.map eqv) vs->vs=us
 |us,vs,⟨hl,h⟩=>by
  refine w37 λi=>?_
  by_cases hi:i<us.length
  .obtain⟨u,hu,he,_⟩:=h i (eqv us[i]) (by simp[hi]);rw[hu,w0b hi];exact congrArg some he
  .have hl':us.length=vs.length:=by simpa using hl
   rw[w1o (show us.length<=i by omega),w1o (show vs.length<=i by omega)]
theorem y7g{r:Nat->Prop}{w:World}{us:List Value}(h:∀v∈us,v.oneCell'=true):zm r w (us.map eqv) us:=by refine⟨by simp,λj A hj=>?_⟩;simp only[w1d,w1g] at hj;obtain⟨u,hu,rfl⟩:=hj;exact⟨u,hu,rfl,h u (w10 hu)⟩
theorem yaa{w:World}{g:Nat}{cur:Array Value}{E:TypeId}{F:Array Value}(hh:w.heap[g]? = some (.cells cur E (0,0)))(hF:cur.toList.take F.size=F.toList):Sort.Holds id w g 0 F:=by
 intro j hj;have h1:cur[j]? = some F[j]:=by
  have :(cur.toList.take F.size)[j]? = F.toList[j]?:=by rw[hF]
  rw[w0r,if_pos hj] at this;simpa[hj] using this
 rw[getElem!_pos F j hj];refine⟨?_,?_⟩
 .unfold World.cell?;rw[hh];simpa using h1
 .unfold World.frozen?;rw[hh];simp
theorem y8g{w:World}{g n:Nat}{cur:Array Value}{E:TypeId}{F:Array Value}{os:Array Obj}(hh:w.heap[g]? = some (.cells cur E (0,0)))(hs:F.size<=cur.size):
  ∃cur',(Sort.grow (Sort.putRow id (Sort.ahead w n) g 0 F) os).heap[g]? = some (.cells cur' E (0,0))/\cur'.size=cur.size/\cur'.toList.take F.size=F.toList:=by
 have hlt:g<w.heap.size:=(w1v.1 hh).1;refine⟨Sort.putCells id 0 F cur,?_,by simp[Sort.putCells],?_⟩
 .simp only[Sort.grow,Sort.putRow,Sort.mapBlock,Sort.ahead];rw[w13,if_pos (by simpa using hlt),Array.getElem?_modify,if_pos rfl,hh];rfl
 .refine w37 λj=>?_
  rw[w0r];by_cases hj:j<F.size
  .rw[if_pos hj];have:j<cur.size:=by omega
   simp[Sort.putCells,this,hj]
  .rw[if_neg hj,w1o (by simpa using hj)]
theorem y2e{w:World}{g n b:Nat}{F:Array Value}{os:Array Obj}(hb:b<w.heap.size)(hg:b≠g):(Sort.grow (Sort.putRow id (Sort.ahead w n) g 0 F) os).heap[b]? = w.heap[b]?:=by simp only[Sort.grow,Sort.putRow,Sort.mapBlock,Sort.ahead];rw[w13,if_pos (by simpa using hb),Array.getElem?_modify,if_neg (λe=>hg e.symm)]
theorem yep[Dr]{P:Program}{f:FuncId}{args:List VP}{vs0:List Value}{α:Type}{E:TypeId}{e:α->List VP}{ce:α->List Value}{k:Nat}{l l':List α}{sv:Value}
  (he:∀x∈l,e x =(ce x).map eqv) (he':∀x∈l',e x =(ce x).map eqv) (hone:∀x∈l',∀v∈ce x,v.oneCell'=true) (hk:∀x∈l,(ce x).length=k) (hk':∀x∈l',(ce x).length=k) (hlen:l'.length=l.length) (hargs:args=vs0.map eqv)
  (hnil:l = []->∀p cap w,Calls P f (#[.slice p 0 cap]++vs0.toArray) w λe w'=>e = .returned (.tuple #[])/\w'=w)
  (hrun:l≠[]->∀g cap w,g<w.heap.size->(∀F:Array Value,F.toList=l.flatMap ce->Sort.Holds id w g 0 F)->
   Calls P f (#[.slice (some ⟨g,0,none⟩) l.length cap]++vs0.toArray) w λe w'=>e = .returned (.tuple #[])/\∃n os F,F.toList=l'.flatMap ce/\w'=Sort.grow (Sort.putRow id (Sort.ahead w n) g 0 F) os) :
  MutT P f (eqv sv::args) E e k l sv λx l2=>x=eqv (.tuple #[])/\l2=l':=by
 intro w0 base r S w vs hw hl hA;have hvs:vs = #[sv]++vs0.toArray:=by
  have hsz:vs.size=1+vs0.length:=by rw[hl,hargs];simp;omega
  refine Array.ext (by rw[hsz];simp[w58]) λi h1 h2=>?_
  cases i with
  |zero=>have:=hA 0 (eqv sv) rfl;simp only[w07,w25 h1,w18] at this;have this:vs[0]=sv:=this;rw[this,Array.getElem_append_left (by simp)];rfl
  |succ i=>
   have hi:i<vs0.length:=by omega
   have:=hA (i+1) (eqv vs0[i]) (by rw[hargs];simp[hi]);simp only[w07,w25 h1,w18] at this;rw[this];rw[Array.getElem_append_right (by simp)];simp
 subst hvs;have hrow:=hw.obj 0 _ rfl;have hfm:l.flatMap e =(l.flatMap ce).map eqv:=by
  rw[List.map_flatMap];clear hnil hrun hrow hk hlen hw
  induction l with
  |nil=>rfl
  |cons x l ih=>rw[w0o,w0o,he x (w0j),ih (λy hy=>he y (w0c _ hy))]
 have hfm':l'.flatMap e =(l'.flatMap ce).map eqv:=by
  rw[List.map_flatMap];clear hnil hrun hrow hk hk' hlen hw hone
  induction l' with
  |nil=>rfl
  |cons x l' ih=>rw[w0o,w0o,he' x (w0j),ih (λy hy=>he' y (w0c _ hy))]
 have hfl:∀m:List α,(∀x∈m,(ce x).length=k)->(m.flatMap ce).length=m.length*k:=by
  intro m
  induction m with
  |nil=>intro _;simp
  |cons x m ih=>intro h;rw[w0o,w0g,h x (w0j),ih (λy hy=>h y (w0c _ hy)),w12,w1f];omega
 by_cases h0:l = []
 .have hl0:l' = []:=w0z (by rw[hlen,h0];rfl);have hslice:∃p cap,sv = .slice p 0 cap:=by
   rcases hrow with⟨rfl,_⟩|⟨g,cap,cur,rfl,_⟩
   .exact⟨_,_,rfl⟩
   .rw[h0];exact⟨_,_,rfl⟩
  obtain⟨p,cap,rfl⟩:=hslice;refine(hnil h0 p cap w).mono ?_;rintro en w' ⟨rfl,rfl⟩;refine⟨_,eqv (.tuple #[]),_,r,S,rfl,Evo.refl _ _ _,hw,rfl,l',?_,rfl,rfl⟩;rw[h0,hl0]
 .rcases hrow with⟨_,rfl⟩|⟨g,cap,cur,rfl,hS,hcur,hle,hmax,hsz,hc⟩
  .exact absurd rfl h0
  .have hlt:=(w1v.1 hcur).1;rw[hfm] at hc;have hc:=y7e hc;refine(hrun h0 g cap w hlt λF hF=>yaa hcur ?_).mono ?_
   .have:F.size=l.length*k:=by rw[<- Array.length_toList,hF,hfl l hk]
    rw[this,hc,hF]
   .rintro en w' ⟨rfl,n,os,F,hF,rfl⟩;have hFs:F.size=l.length*k:=by rw[<- Array.length_toList,hF,hfl l' hk',hlen]
    have hb:∀b,b<w.heap.size->¬S 0 b->(Sort.grow (Sort.putRow id (Sort.ahead w n) g 0 F) os).heap[b]? = w.heap[b]?:=λb hb hs=>y2e hb (λe=>hs (e ▸ hS))
    obtain⟨cur',hcur',hsz',htk⟩:=y8g (n:=n) (os:=os) (F:=F) hcur (by rw[hFs,hsz];exact w1b _ hle);refine⟨_,eqv (.tuple #[]),_,r,_,rfl,hw.evo_repl 0 hb,hw.repl 0 (row E e k l' (.slice (some ⟨g,0,none⟩) l.length cap)) (S 0) (by simp) rfl ⟨rfl,Nat.le_add_right _ _⟩ rfl (by simp[Sort.grow,Sort.putRow,Sort.mapBlock,Sort.ahead]) hb (λb hb'=>?_) ?_,rfl,l',rfl,rfl,rfl⟩
    .obtain⟨_,h2,h3,h4⟩:=hw.own 0 b hb';refine⟨h2,?_,h4,λj hj hs=>hj (hw.apart j 0 b hs hb')⟩;simp[Sort.grow,Sort.putRow,Sort.mapBlock,Sort.ahead];omega
    .refine .inr ⟨g,cap,cur',by rw[hlen],hS,hcur',by omega,hmax,by omega,?_⟩;rw[hlen,<- hFs,htk,hF,hfm'];exact y7g λv hv=>by obtain⟨x,hx,hxv⟩:=w15.1 hv;exact hone x hx v hxv
def insL{α:Type}(lt:α->α->Bool)(x:α):List α->List α
 | []=>[x]
 |y::l=>bif lt y x then y::insL lt x l else x::y::l
def zx2{α:Type}(lt:α->α->Bool):List α->List α
 | []=>[]
 |x::l=>insL lt x (zx2 lt l)
theorem zs1{α:Type}(lt:α->α->Bool)(x:α):∀l:List α,(insL lt x l).Perm (x::l)
 | []=>List.Perm.refl _
 |y::l=>by
  simp only[insL];cases lt y x with
  |true=>exact((zs1 lt x l).cons y).trans (List.Perm.swap x y l)
  |false=>exact List.Perm.refl _
theorem z9v{α:Type}(lt:α->α->Bool):∀l:List α,(zx2 lt l).Perm l
 | []=>List.Perm.refl _
 |x::l=>(zs1 lt x _).trans ((z9v lt l).cons x)
theorem zs2{α:Type}{lt:α->α->Bool}(hO:Sort.SWO lt)(x:α):∀l:List α,l.Pairwise (λa b=>lt b a=false)->(insL lt x l).Pairwise λa b=>lt b a=false
 | [],_=>w3g _ _
 |y::l,h=>by
  rw[w20] at h;simp only[insL];cases hl:lt y x with
  |true=>
   simp only[cond_true,w20];refine⟨λz hz=>?_,zs2 hO x l h.2⟩;rcases w09.1 ((zs1 lt x l).mem_iff.1 hz) with rfl|hz
   .cases hx:lt z y with
    |false=>rfl
    |true=>have:=hO.trans _ _ _ hl hx;rw[hO.irrefl] at this;cases this
   .exact h.1 z hz
  |false=>
   simp only[cond_false,w20];refine⟨λz hz=>?_,h.1,h.2⟩;rcases w09.1 hz with rfl|hz
   .exact hl
   .exact hO.ntrans _ _ _ (h.1 z hz) hl
theorem zpk{α:Type}{lt:α->α->Bool}(hO:Sort.SWO lt):∀l:List α,(zx2 lt l).Pairwise λa b=>lt b a=false
 | []=>List.Pairwise.nil
 |x::l=>zs2 hO x _ (zpk hO l)
theorem ya9{α:Type}[Inhabited α]{enc:α->Value}{w:World}{b o:Nat}{d:Array α}(h:Sort.Holds id w b o (d.map enc)):Sort.Holds enc w b o d:=by intro j hj;have:=h j (by simpa using hj);rw[getElem!_pos _ j (by simpa using hj)] at this;rw[getElem!_pos d j hj];simpa using this
theorem y82{α:Type}[Inhabited α]{enc:α->Value}{w:World}{b o:Nat}{d:Array α}: Sort.putRow enc w b o d=Sort.putRow id w b o (d.map enc):=by
 unfold Sort.putRow;congr 1;funext cur;unfold Sort.putCells;congr 1;funext k x;simp only[Array.size_map];split
 .rename_i h;have h1:k-o<d.size:=by omega
  rw[getElem!_pos d _ h1,getElem!_pos _ _ (by simpa using h1)];simp
 .rfl
def zr1(l:List Int):Option (List Int):=if l.length<4611686018427387904 then some (zx2 (λa b=>decide (a<b)) l) else none
theorem yka:Sort.SWO (λa b:Int=>decide (a<b)) where
 irrefl:=λx=>by simp
 trans:=λx y z h1 h2=>by simp at *;omega
 ntrans:=λx y z h1 h2=>by simp at *;omega
theorem y3m(l:List Int):l.mergeSort (λx y=>decide (x<=y))=zx2 (λa b=>decide (a<b)) l:=by
 refine List.Perm.eq_of_pairwise (le:=λa b:Int=>a<=b) (λa b _ _ h1 h2=>by omega) ?_ ?_ ((List.mergeSort_perm _ _).trans (z9v _ _).symm)
 .have:=List.pairwise_mergeSort (le:=λx y:Int=>decide (x<=y)) (by intro a b c h1 h2;simp at *;omega) (by intro a b;simp;omega) l
  exact this.imp λh=>by simpa using h
 .exact(zpk yka l).imp λh=>by simpa using h
theorem y2d[Dr]{P:Program}{ρ:Shelf.Ren}(L:Proofs.Lays.n189 P ρ){E:Nat}{l l':List Int}{sv:Value}(hF:zr1 l=some l'):MutT P (ρ.f 189) [eqv sv] E (λn:Int=>[iv .i64 n]) 1 l sv λx l2=>x=eqv (.tuple #[])/\l2=l':=by
 unfold zr1 at hF;split at hF
 .rename_i hl;have:=w0d hF;subst this;have hfm:∀q:List Int,q.flatMap (λn=>[Value.int .i64 n])=q.map (Value.int .i64):=λq=>by induction q with
   |nil=>rfl
   |cons x q ih=>rw[w0o,ih];rfl
  refine yep (args:=[]) (vs0:=[]) (ce:=λn=>[.int .i64 n]) (λx _=>rfl) (λx _=>rfl) (λx _ v hv=>by simp only[w0i] at hv;subst hv;rfl) (λx _=>rfl) (λx _=>rfl) (z9v _ _).length_eq rfl ?_ ?_
  .intro _ p cap w;exact Proofs.Any.slices_Sort_int_none L p cap w
  .intro hne b cap w hlt hH;refine(Proofs.Any.slices_Sort_int L b 0 cap l w (ya9 (hH _ ?_)) hlt hl).mono ?_
   .rw[hfm];simp
   .rintro e w' ⟨rfl,n,os,rfl⟩;refine⟨rfl,n,os,_,?_,by rw[y82]⟩;rw[hfm,y3m];simp
 .cases hF
end Px
end
section
namespace Px
open Go Go.RowKit Go.ChangeShapes Go.WideShapes Go.ChangeAt
section
variable{T:Nat->Type}
def rT(g :(c:Nat)->T c->Prop):(fs:List Nat)->Tup T fs->Prop
 | [],_=>True
 | [c],x=>g c x.1
 |c::cs,x=>g c x.1/\rT g cs x.2
def rD(g :(c:Nat)->T c->Prop): {α:Type}->Ds T α->α->Prop
 |_,.int k,x=>RI k x
 |_,.bool,_=>True
 |_,.str,x=>x.size<=maxLen
 |_,.sl c,x=>RL (g c) x
 |_,.map _ _,_=>True
 |_,.arr n c,x=>∀i,i<n->g c (x i)
 |_,.st fs _ un _,x=>rT g fs (un x)
theorem yjv{g :(c:Nat)->T c->Prop}{c:Nat}: ∀{cs:List Nat}{x:T c×Tup T cs},g c x.1->rT g cs x.2->rT g (c::cs) x
 | [],_,h,_=>h
 |_::_,_,h,k=>⟨h,k⟩
end
section
variable(V:TE)(P:Program)
def rdN:Nat->(c:Nat)->V.T c->Prop
 |0,_,_=>True
 |n+1,c,x=>rD (rdN n) (V.d c) x
def opF(g:TypeId->Nat->Bool):List Nat->List (TypeId×Nat×Nat)->Nat->Nat->Bool
 | [],[],o,m=>Nat.beq o m
 |c::cs,(ty,off,m)::l,o,e=>Nat.beq off o&&Nat.beq m (V.sz c)&&g ty c&&opF g cs l (o+m) e
 |_,_,_,_=>false
def opD(g:TypeId->Nat->Bool): {α:Type}->Ds V.T α->TypeId->Bool
 |_,.int k,t=>match P.underlying t with|some (.int k')=>decide (k'=k)|_=>false
 |_,.bool,t=>match P.underlying t with|some .bool=>true|_=>false
 |_,.str,t=>match P.underlying t with|some .string=>true|_=>false
 |_,.sl c,t=>match P.underlying t with|some (.slice E)=>Nat.beq (P.cellsOf E) (V.sz c)&&Nat.blt 0 (V.sz c)&&g E c|_=>false
 |_,.map _ _,_=>false
 |_,.arr n c,t=>match P.underlying t with|some (.array N E)=>Nat.beq N n&&Nat.beq (P.cellsOf E) (V.sz c)&&Nat.beq (P.cellsOf t) (n*V.sz c)&&g E c|_=>false
 |_,.st fs _ _ _,t=>match zzb P t with|some l=>opF V g fs l 0 (P.cellsOf t)|none=>false
def opN:Nat->TypeId->Nat->Bool
 |0,_,_=>false
 |n+1,t,c=>opD V P (opN n) (V.d c) t
def yjc(n:Nat):List TypeId->List Nat->Bool
 | [],[]=>true
 |t::ts,c::cs=>opN V P n t c&&yjc n ts cs
 |_,_=>false
def yjw(n:Nat):(cs:List Nat)->Tup V.T cs->Prop
 | [],_=>True
 |c::cs,x=>rdN V n c x.1/\yjw n cs x.2
variable{V P}
theorem yhd:∀(n:Nat)(t:TypeId)(c:Nat),opN V P n t c=true->Opn P t (V.sz c) (V.ev c) (rdN V n c)
 |0,_,_,h=>by cases h
 |n+1,t,c,h=>by
  have ih:=yhd n;have hev:V.ev c=evD V.ev (V.mv V.ev) V.sz (V.d c):=funext λx=>V.ev_eq c x
  have hr:rdN V (n+1) c=rD (rdN V n) (V.d c):=rfl;rw[hev,V.sz_eq,hr];change opD V P (opN V P n) (V.d c) t=true at h;revert h;clear hev hr;generalize V.d c=d;revert d;generalize V.T c=α;intro d h;cases d with
  |int k=>
   simp only[opD] at h;split at h
   .rename_i k' hu;simp only[decide_eq_true_eq] at h;subst h;exact Opn.int hu
   .cases h
  |bool=>
   simp only[opD] at h;split at h
   .rename_i hu;exact Opn.bool hu
   .cases h
  |str=>
   simp only[opD] at h;split at h
   .rename_i hu;exact Opn.string hu
   .cases h
  |sl c'=>
   simp only[opD] at h;split at h
   .rename_i E hu;simp only[w03,w29] at h;obtain⟨⟨h1,h2⟩,h3⟩:=h;exact Opn.slice hu (w02 h1) h2 (ih E c' h3)
   .cases h
  |map kc vc=>simp[opD] at h
  |arr m c'=>
   simp only[opD] at h;split at h
   .rename_i N E hu;simp only[w03] at h;obtain⟨⟨⟨h1,h2⟩,h3⟩,h4⟩:=h;have h1:=w02 h1;subst h1;have:Inhabited (V.T c'):=⟨V.z c'⟩;exact Opn.array hu (w02 h2) (w02 h3) rfl (ih E c' h4)
   .cases h
  |st fs mk un law=>
   simp only[opD] at h;split at h
   .rename_i l hl;intro H enc w sp held fuel cs x hx;obtain⟨hlen,m,hf⟩:=y4o hl hx;have key:∀(fs:List Nat)(l':List (TypeId×Nat×Nat))(o:Nat),opF V (opN V P n) fs l' o (P.cellsOf t)=true->(∀(i:Nat)(ty:TypeId)(off m':Nat),l'[i]? = some (ty,off,m')->∃y,DataW.trod enc P w 0 sp held m ty ((cs.drop off).take m')=some y)->
      o+fs.foldr (λc s=>V.sz c+s) 0=P.cellsOf t/\∃y:Tup V.T fs,rT (rdN V n) fs y/\zm (λb=>b<w.heap.size) w (evT V.ev fs y) (cs.drop o):=by
     intro fs
     induction fs with
     |nil=>
      intro l' o h hf;cases l' with
      |nil=>have:=w02 h;subst this;exact⟨rfl,(),trivial,zm.tile0 hlen⟩
      |cons a l'=>cases h
     |cons c cs' ihf=>
      intro l' o h hf;cases l' with
      |nil=>cases h
      |cons a l'=>obtain⟨ty,off,m'⟩:=a;simp only[opF,w03] at h;obtain⟨⟨⟨h1,h2⟩,h3⟩,h4⟩:=h;have h1:=w02 h1;have h2:=w02 h2;subst h1;subst h2;obtain⟨y0,hy0⟩:=hf 0 _ _ _ rfl;obtain⟨_,y,hR,hc⟩:=ih ty c h3 _ _ _ _ _ _ _ _ hy0;obtain⟨he,z,hz,hcz⟩:=ihf l' _ h4 (λi ty off m' hi=>hf (i+1) ty off m' hi);refine⟨by simp only[w5i];omega,(y,z),yjv hR hz,?_⟩;exact zm.tile hc hcz
    obtain⟨he,y,hy,hc⟩:=key fs l 0 h hf;rw[w3b] at hc;refine⟨by rw[hlen,<- he,w16];rfl,mk y,?_,?_⟩
    .show rT _ fs (un (mk y));rw[law];exact hy
    .show zm _ _ (evT V.ev fs (un (mk y))) cs;rw[law];exact hc
   .cases h
theorem ykg{H:Type}{enc:TypeId×Value->H}{W:World}{sp:Nat->Bool}{held:Bool}{base n:Nat}{t:TypeId}{c:Nat}{v:Value}{d:DataW H}{p:List MemPlace}
  (ho:opN V P n t c=true) (hv:Value.okWide P W .any base t v) (h:DataW.Trod enc P W 0 sp held t v d p):∃y,rdN V n c y/\(V.vl c y).h (λb=>b<W.heap.size) W v:=by
 cases n with
 |zero=>cases ho
 |succ n=>
 obtain⟨fuel,hf⟩:=h;obtain⟨_,y,hR,hc⟩:=yhd _ _ _ ho _ _ _ _ _ _ _ _ hf;refine⟨y,hR,?_⟩;change opD V P (opN V P n) (V.d c) t=true at ho;unfold Value.okWide at hv;cases ha:z7l (V.d c) with
 |true=>
  rw[zti y ha];have hs:∃cs,v = .agg cs:=by
   revert ho ha;generalize V.d c=d;generalize V.T c=α at d;intro ho ha;cases d with
   |arr m c'=>
    simp only[opD] at ho;split at ho
    .rename_i N E hu;rw[hu] at hv;obtain⟨cs,rfl,_⟩:=hv;exact⟨cs,rfl⟩
    .cases ho
   |st fs mk un law=>
    simp only[opD,zzb] at ho;cases hu:P.underlying t with
    |none=>rw[hu] at ho;cases ho
    |some X=>
     rw[hu] at ho hv;cases X with
     |struct fs'=>obtain⟨cs,rfl,_⟩:=hv;exact⟨cs,rfl⟩
     |_=>cases ho
   |_=>cases ha
  obtain⟨cs,rfl⟩:=hs;exact⟨cs,rfl,hc⟩
 |false=>
  rw[ztj y ha] at hc;have hcell:v.cells.toList = [v]:=by
   revert ho ha;generalize V.d c=d;generalize V.T c=α at d;intro ho ha;cases d with
   |int k=>
    simp only[opD] at ho;split at ho
    .rename_i k' hu;rw[hu] at hv;cases v<;>first|rfl |(exfalso;simp[Cell.okWide,Cell.ok,hu] at hv)
    .cases ho
   |bool=>
    simp only[opD] at ho;split at ho
    .rename_i hu;rw[hu] at hv;cases v<;>first|rfl |(exfalso;simp[Cell.okWide,Cell.ok,hu] at hv)
    .cases ho
   |str=>
    simp only[opD] at ho;split at ho
    .rename_i hu;rw[hu] at hv;cases v<;>first|rfl |(exfalso;simp[Cell.okWide,Cell.ok,hu] at hv)
    .cases ho
   |sl c'=>
    simp only[opD] at ho;split at ho
    .rename_i E hu;rw[hu] at hv;cases v<;>first|rfl |(exfalso;simp[Cell.okWide,Cell.ok,hu] at hv)
    .cases ho
   |arr m c'=>cases ha
   |map kc vc=>simp[opD] at ho
   |st fs mk un law=>cases ha
  rw[hcell] at hc;obtain⟨u,hu',hA,_⟩:=hc.2 0 (V.vl c y) rfl;simp at hu';subst hu';exact hA
theorem y8z{H:Type}{enc:TypeId×Value->H}{W:World}{sp:Nat->Bool}{held:Bool}{base n:Nat}: ∀{ts:List TypeId}{cs:List Nat}{vs:List Value}{ds:List (DataW H)}{ps:List MemPlace},
  yjc V P n ts cs=true->DataW.TrodAll enc P W 0 sp held ts vs ds ps->(∀(j:Nat)t v,ts[j]? = some t->vs[j]? = some v->Value.okWide P W .any base t v)->
  vs.length=cs.length/\∃x:Tup V.T cs,yjw V n cs x/\∀(i:Nat)(A:VP),(vls V cs x)[i]? = some A->A.h (λb=>b<W.heap.size) W (vs.getD i undef)
 | [],[],vs,ds,ps,_,h,_=>by
  cases vs with
  |nil=>exact⟨rfl,(),trivial,λi A hi=>by simp[vls] at hi⟩
  |cons v vs=>cases ds<;>exact h.elim
 |t::ts,c::cs,vs,ds,ps,ho,h,hv=>by
  simp only[yjc,w03] at ho;cases vs with
  |nil=>cases ds<;>exact h.elim
  |cons v vs=>
   cases ds with
   |nil=>exact h.elim
   |cons d ds=>
    obtain⟨p,q,h1,h2,_⟩:=h;obtain⟨y,hR,hA⟩:=ykg ho.1 (hv 0 t v rfl rfl) h1;obtain⟨hl,x,hx,hxs⟩:=y8z ho.2 h2 (λj t v ht hvj=>hv (j+1) t v ht hvj);refine⟨by simp[hl],(y,x),⟨hR,hx⟩,λi A hi=>?_⟩;cases i with
    |zero=>simp only[vls,w3h,w00] at hi;subst hi;exact hA
    |succ i=>simp only[vls,w2i] at hi;simpa using hxs i A hi
 | [],_::_,_,_,_,ho,_,_=>by cases ho
 |_::_,[],_,_,_,ho,_,_=>by cases ho
theorem zte{H:Type}{enc:TypeId×Value->H}{P:Program}{W:World}{b:Nat}{sp:Nat->Bool}{held:Bool}: ∀{ts:List TypeId}{vs:List Value}{ds:List (DataW H)}{ps:List MemPlace},DataW.TrodAll enc P W b sp held ts vs ds ps->ds.length=ts.length
 | [],[],[],_,_=>rfl
 |t::ts,v::vs,d::ds,ps,⟨p,q,_,h,_⟩=>by simp[zte h]
 | [],_::_,_,_,h=>h.elim
 | [],[],_::_,_,h=>h.elim
 |_::_,[],_,_,h=>h.elim
 |_::_,_::_,[],_,h=>h.elim
theorem yct:∀(cs:List Nat)(x:Tup V.T cs),(vls V cs x).length=cs.length
 | [],_=>rfl
 |c::cs,x=>by simp only[vls,w12,yct cs]
theorem yl7[Dr]{f:FuncId}{sp:Fsp V}{W:World}{vs:Array Value}{x:Tup V.T sp.args}{r:RTup V.T sp.res}(hf:z0h V P f sp)(hr:sp.F x=some r)(hres:∀B:Asg,(resV V (encR V 0 sp.res r)).den V P B=bv true)(hno:newR V sp.res r = [])
  (hl:vs.toList.length=sp.args.length) (hA:∀(i:Nat)(A:VP),(vls V sp.args x)[i]? = some A->A.h (λb=>b<W.heap.size) W (vs.toList.getD i undef)):Calls P f vs W (λe W'=>e = .returned (.bool true)/\Below W.heap.size W W'):=by
 refine yam (As:=vls V sp.args x) ((hf x r hr).mono ?_) (by rw[yct];simpa using hl) (λi A hi=>?_)
 .rintro y news ⟨B,hB,rfl,rfl⟩;rw[hno] at hB⊢;refine⟨hres B,?_⟩;cases B<;>rfl
 .have:=hA i A hi
  simpa[w07,w1w] using this
end
theorem z87.same{R:Type}{x:Option R}{n:Nat}{y:Option (List (Option R))}(h:y=some (List.replicate n x)):z87 x y:=⟨λr hr=>⟨_,h,λa ha=>by rw[(List.mem_replicate.1 ha).2,hr]⟩⟩
theorem z87.ck{R:Type}{p:Prop}[Decidable p]{x:Option R}{y:Option (List (Option R))}(h:z87 x y):z87 (Px.ck p x) (Px.ck p y):=
 ⟨λr hr=>by
  unfold Px.ck at *;split at hr
  .rename_i hp;simp only[if_pos hp];exact h.ok r hr
  .cases hr⟩
theorem z87.bind{R α:Type}{m:Option α}{f:α->Option R}{g:α->Option (List (Option R))}(h:∀a,z87 (f a) (g a)):z87 (m.bind f) (m.bind g):=
 ⟨λr hr=>by
  cases m with
  |none=>cases hr
  |some a=>exact(h a).ok r hr⟩
theorem z87.one{R:Type}{x:Option R}: z87 x (some [x]):=⟨λr hr=>⟨_,rfl,λa ha=>by rw[w0i.1 ha,hr]⟩⟩
theorem z87.nil{R:Type}{x:Option R}: z87 x (catL []):=⟨λr hr=>⟨[],rfl,λa ha=>by cases ha⟩⟩
theorem z87.cons{R:Type}{x:Option R}{y:Option (List (Option R))}{l:List (Option (List (Option R)))}(h:z87 x y)(hl:z87 x (catL l)):z87 x (catL (y::l)):=
 ⟨λr hr=>by
  obtain⟨a,ha,h1⟩:=h.ok r hr;obtain⟨b,hb,h2⟩:=hl.ok r hr;refine⟨a++b,by simp only[catL,ha,hb,cat2],λz hz=>?_⟩;rcases w0q.1 hz with hz|hz
  .exact h1 z hz
  .exact h2 z hz⟩
end Px
end
section
set_option maxHeartbeats 4000000
set_option maxRecDepth 100000
namespace Px
open Go Go.RowKit
def z03:ByteArray:=⟨#[0,1,2,2,3,3,3,3,4,4,4,4,4,4,4,4,5,5,5,5,5,5,5,5,5,5,5,5,5,5,5,5,6,6,6,6,6,6,6,6,6,6,6,6,6,6,6,6,6,6,6,6,6,6,6,6,6,6,6,6,6,6,6,6,7,7,7,7,7,7,7,7,7,7,7,7,7,7,7,7,7,7,7,7,7,7,7,7,7,7,7,7,7,7,7,7,7,7,7,7,7,7,7,7,7,7,7,7,7,7,7,7,7,7,7,7,7,7,7,7,7,7,7,7,7,7,7,7,8,8,8,8,8,8,8,8,8,8,8,8,8,8,8,8,8,8,8,8,8,8,8,8,8,8,8,8,8,8,8,8,8,8,8,8,8,8,8,8,8,8,8,8,8,8,8,8,8,8,8,8,8,8,8,8,8,8,8,8,8,8,8,8,8,8,8,8,8,8,8,8,8,8,8,8,8,8,8,8,8,8,8,8,8,8,8,8,8,8,8,8,8,8,8,8,8,8,8,8,8,8,8,8,8,8,8,8,8,8,8,8,8,8,8,8,8,8,8,8,8,8,8,8,8,8,8,8]⟩
structure zgg where
 kind:Int
 railway:Int
 other:Int
instance:Inhabited zgg:=⟨⟨0,0,0⟩⟩
structure Edge where
 a:Int
 b:Int
 railway:Int
 minutes:Int
 km:Int
instance:Inhabited Edge:=⟨⟨0,0,0,0,0⟩⟩
structure zi where
 places :(List zgg)
 edges :(List Edge)
instance:Inhabited zi:=⟨⟨[],[]⟩⟩
structure z2g where
 load:Int
 tare:Int
 length:Int
 gauge:Int
 brake:Int
 classes:Int
 life:Int
 floor:Int
instance:Inhabited z2g:=⟨⟨0,0,0,0,0,0,0,0⟩⟩
structure zr4 where
 type_:Int
 owner:Int
 home:Int
 built:Int
 worth:Int
instance:Inhabited zr4:=⟨⟨0,0,0,0,0⟩⟩
structure Swap where
 wanted:Int
 given:Int
 cost:Int
instance:Inhabited Swap:=⟨⟨0,0,0⟩⟩
structure Wash where
 from_:Int
 to:Int
 minutes:Int
instance:Inhabited Wash:=⟨⟨0,0,0⟩⟩
structure z1w where
 types :(List z2g)
 wagons :(List zr4)
 swaps :(List Swap)
 washes :(List Wash)
instance:Inhabited z1w:=⟨⟨[],[],[],[]⟩⟩
structure zm9 where
 place:Int
 low:Int
 high:Int
instance:Inhabited zm9:=⟨⟨0,0,0⟩⟩
structure zgh where
 place:Int
instance:Inhabited zgh:=⟨⟨0⟩⟩
structure Span where
 from_:Int
 to:Int
instance:Inhabited Span:=⟨⟨0,0⟩⟩
structure z5k where
 open_ :(Nat->Span)
 holidays :(List Int)
instance:Inhabited z5k:=⟨⟨λ_=>default,[]⟩⟩
structure z5l where
 key:Int
 calendar:z5k
instance:Inhabited z5l:=⟨⟨0,default⟩⟩
structure Pool where
 network:zi
 fleet:z1w
 readers :(List zm9)
 shippers :(List zgh)
 railways :(List z5l)
instance:Inhabited Pool:=⟨⟨default,default,[],[],[]⟩⟩
structure za where
 type_:Int
 class_:Int
 place:Int
 at_:Int
 count:Int
instance:Inhabited za:=⟨⟨0,0,0,0,0⟩⟩
structure zf where
 type_:Int
 class_:Int
 place:Int
 from_:Int
 to:Int
 count:Int
 weight:Int
instance:Inhabited zf:=⟨⟨0,0,0,0,0,0,0⟩⟩
structure zu where
 near :(List (List Int))
 line :(List ((Nat->Int)×Int))
instance:Inhabited zu:=⟨⟨[],[]⟩⟩
structure Arc where
 from_:Int
 to:Int
 cap:Int
 cost:Int
instance:Inhabited Arc:=⟨⟨0,0,0,0⟩⟩
structure zc where
 supply :(List Int)
 arcs :(List Arc)
instance:Inhabited zc:=⟨⟨[],[]⟩⟩
structure Flow where
 x :(List Int)
 price :(List Int)
instance:Inhabited Flow:=⟨⟨[],[]⟩⟩
structure zlu where
 n:zc
 x :(List Int)
 left :(List Int)
 price :(List Int)
 begin :(List (List Int))
 end_ :(List (List Int))
instance:Inhabited zlu:=⟨⟨default,[],[],[],[],[]⟩⟩
structure zk where
 arc:Int
 to:Int
 cost:Int
 room:Int
instance:Inhabited zk:=⟨⟨0,0,0,0⟩⟩
structure z7 where
 supply:Int
 order:Int
 count:Int
instance:Inhabited z7:=⟨⟨0,0,0⟩⟩
structure Plan where
 transfers :(List z7)
 cost:Int
 price :(List Int)
instance:Inhabited Plan:=⟨⟨[],0,[]⟩⟩
structure Ref where
 railway:Int
 no:Int
instance:Inhabited Ref:=⟨⟨0,0⟩⟩
structure Part where
 kind:Int
 serial:Int
 fitted:Bool
instance:Inhabited Part:=⟨⟨0,0,false⟩⟩
structure Item where
 kind:Int
 ref:Ref
 wagon:Int
 place:Int
 other:Int
 number:Int
 from_:Int
 to:Int
 code:Int
 dest:Int
 class_:Int
 weight:Int
 amount:Int
 text:ByteArray
 parts :(List Part)
instance:Inhabited Item:=⟨⟨0,default,0,0,0,0,0,0,0,0,0,0,0,⟨#[]⟩,[]⟩⟩
structure zh where
 ref:Ref
 by_:Ref
 time:Int
 item:Item
instance:Inhabited zh:=⟨⟨default,default,0,default⟩⟩
def TT:Nat->Type
 |0=>Int
 |1=>zgg
 |2=>(List zgg)
 |3=>Edge
 |4=>(List Edge)
 |5=>zi
 |6=>Int
 |7=>z2g
 |8=>(List z2g)
 |9=>zr4
 |10=>(List zr4)
 |11=>Swap
 |12=>(List Swap)
 |13=>Wash
 |14=>(List Wash)
 |15=>z1w
 |16=>zm9
 |17=>(List zm9)
 |18=>zgh
 |19=>(List zgh)
 |20=>Span
 |21=>(Nat->Span)
 |22=>(List Int)
 |23=>z5k
 |24=>z5l
 |25=>(List z5l)
 |26=>Pool
 |27=>Bool
 |28=>(Nat->Bool)
 |29=>za
 |30=>zf
 |31=>(List (List Int))
 |32=>(Nat->Int)
 |33=>(List ((Nat->Int)×Int))
 |34=>zu
 |35=>(Nat->Int)
 |36=>(List za)
 |37=>(List zf)
 |38=>Arc
 |39=>(List Arc)
 |40=>zc
 |41=>Flow
 |42=>zlu
 |43=>zk
 |44=>(List zk)
 |45=>z7
 |46=>(List z7)
 |47=>Plan
 |48=>Ref
 |49=>ByteArray
 |50=>Part
 |51=>(List Part)
 |52=>Item
 |53=>zh
 |54=>(List zh)
 |_=>Unit
def TD :(c:Nat)->Ds TT (TT c)
 |0=>.int .i64
 |1=>.st [0,0,0] (λt=>⟨t.1,t.2.1,t.2.2.1⟩) (λx=>(x.kind,x.railway,x.other,())) (λ_=>rfl)
 |2=>.sl 1
 |3=>.st [0,0,0,0,0] (λt=>⟨t.1,t.2.1,t.2.2.1,t.2.2.2.1,t.2.2.2.2.1⟩) (λx=>(x.a,x.b,x.railway,x.minutes,x.km,())) (λ_=>rfl)
 |4=>.sl 3
 |5=>.st [2,4] (λt=>⟨t.1,t.2.1⟩) (λx=>(x.places,x.edges,())) (λ_=>rfl)
 |6=>.int .u64
 |7=>.st [0,0,0,0,0,6,0,0] (λt=>⟨t.1,t.2.1,t.2.2.1,t.2.2.2.1,t.2.2.2.2.1,t.2.2.2.2.2.1,t.2.2.2.2.2.2.1,t.2.2.2.2.2.2.2.1⟩) (λx=>(x.load,x.tare,x.length,x.gauge,x.brake,x.classes,x.life,x.floor,())) (λ_=>rfl)
 |8=>.sl 7
 |9=>.st [0,0,0,0,0] (λt=>⟨t.1,t.2.1,t.2.2.1,t.2.2.2.1,t.2.2.2.2.1⟩) (λx=>(x.type_,x.owner,x.home,x.built,x.worth,())) (λ_=>rfl)
 |10=>.sl 9
 |11=>.st [0,0,0] (λt=>⟨t.1,t.2.1,t.2.2.1⟩) (λx=>(x.wanted,x.given,x.cost,())) (λ_=>rfl)
 |12=>.sl 11
 |13=>.st [0,0,0] (λt=>⟨t.1,t.2.1,t.2.2.1⟩) (λx=>(x.from_,x.to,x.minutes,())) (λ_=>rfl)
 |14=>.sl 13
 |15=>.st [8,10,12,14] (λt=>⟨t.1,t.2.1,t.2.2.1,t.2.2.2.1⟩) (λx=>(x.types,x.wagons,x.swaps,x.washes,())) (λ_=>rfl)
 |16=>.st [0,0,0] (λt=>⟨t.1,t.2.1,t.2.2.1⟩) (λx=>(x.place,x.low,x.high,())) (λ_=>rfl)
 |17=>.sl 16
 |18=>.st [0] (λt=>⟨t.1⟩) (λx=>(x.place,())) (λ_=>rfl)
 |19=>.sl 18
 |20=>.st [0,0] (λt=>⟨t.1,t.2.1⟩) (λx=>(x.from_,x.to,())) (λ_=>rfl)
 |21=>.arr 7 20
 |22=>.sl 0
 |23=>.st [21,22] (λt=>⟨t.1,t.2.1⟩) (λx=>(x.open_,x.holidays,())) (λ_=>rfl)
 |24=>.st [6,23] (λt=>⟨t.1,t.2.1⟩) (λx=>(x.key,x.calendar,())) (λ_=>rfl)
 |25=>.sl 24
 |26=>.st [5,15,17,19,25] (λt=>⟨t.1,t.2.1,t.2.2.1,t.2.2.2.1,t.2.2.2.2.1⟩) (λx=>(x.network,x.fleet,x.readers,x.shippers,x.railways,())) (λ_=>rfl)
 |27=>.bool
 |28=>.arr 4096 27
 |29=>.st [0,0,0,0,0] (λt=>⟨t.1,t.2.1,t.2.2.1,t.2.2.2.1,t.2.2.2.2.1⟩) (λx=>(x.type_,x.class_,x.place,x.at_,x.count,())) (λ_=>rfl)
 |30=>.st [0,0,0,0,0,0,0] (λt=>⟨t.1,t.2.1,t.2.2.1,t.2.2.2.1,t.2.2.2.2.1,t.2.2.2.2.2.1,t.2.2.2.2.2.2.1⟩) (λx=>(x.type_,x.class_,x.place,x.from_,x.to,x.count,x.weight,())) (λ_=>rfl)
 |31=>.sl 22
 |32=>.arr 2 0
 |33=>.map 32 0
 |34=>.st [31,33] (λt=>⟨t.1,t.2.1⟩) (λx=>(x.near,x.line,())) (λ_=>rfl)
 |35=>.arr 32 0
 |36=>.sl 29
 |37=>.sl 30
 |38=>.st [0,0,0,0] (λt=>⟨t.1,t.2.1,t.2.2.1,t.2.2.2.1⟩) (λx=>(x.from_,x.to,x.cap,x.cost,())) (λ_=>rfl)
 |39=>.sl 38
 |40=>.st [22,39] (λt=>⟨t.1,t.2.1⟩) (λx=>(x.supply,x.arcs,())) (λ_=>rfl)
 |41=>.st [22,22] (λt=>⟨t.1,t.2.1⟩) (λx=>(x.x,x.price,())) (λ_=>rfl)
 |42=>.st [40,22,22,22,31,31] (λt=>⟨t.1,t.2.1,t.2.2.1,t.2.2.2.1,t.2.2.2.2.1,t.2.2.2.2.2.1⟩) (λx=>(x.n,x.x,x.left,x.price,x.begin,x.end_,())) (λ_=>rfl)
 |43=>.st [0,0,0,0] (λt=>⟨t.1,t.2.1,t.2.2.1,t.2.2.2.1⟩) (λx=>(x.arc,x.to,x.cost,x.room,())) (λ_=>rfl)
 |44=>.sl 43
 |45=>.st [0,0,0] (λt=>⟨t.1,t.2.1,t.2.2.1⟩) (λx=>(x.supply,x.order,x.count,())) (λ_=>rfl)
 |46=>.sl 45
 |47=>.st [46,0,22] (λt=>⟨t.1,t.2.1,t.2.2.1⟩) (λx=>(x.transfers,x.cost,x.price,())) (λ_=>rfl)
 |48=>.st [0,0] (λt=>⟨t.1,t.2.1⟩) (λx=>(x.railway,x.no,())) (λ_=>rfl)
 |49=>.str
 |50=>.st [0,0,27] (λt=>⟨t.1,t.2.1,t.2.2.1⟩) (λx=>(x.kind,x.serial,x.fitted,())) (λ_=>rfl)
 |51=>.sl 50
 |52=>.st [0,48,0,0,0,0,0,0,0,0,0,0,0,49,51] (λt=>⟨t.1,t.2.1,t.2.2.1,t.2.2.2.1,t.2.2.2.2.1,t.2.2.2.2.2.1,t.2.2.2.2.2.2.1,t.2.2.2.2.2.2.2.1,t.2.2.2.2.2.2.2.2.1,t.2.2.2.2.2.2.2.2.2.1,t.2.2.2.2.2.2.2.2.2.2.1,t.2.2.2.2.2.2.2.2.2.2.2.1,t.2.2.2.2.2.2.2.2.2.2.2.2.1,t.2.2.2.2.2.2.2.2.2.2.2.2.2.1,t.2.2.2.2.2.2.2.2.2.2.2.2.2.2.1⟩) (λx=>(x.kind,x.ref,x.wagon,x.place,x.other,x.number,x.from_,x.to,x.code,x.dest,x.class_,x.weight,x.amount,x.text,x.parts,())) (λ_=>rfl)
 |53=>.st [48,48,0,52] (λt=>⟨t.1,t.2.1,t.2.2.1,t.2.2.2.1⟩) (λx=>(x.ref,x.by_,x.time,x.item,())) (λ_=>rfl)
 |54=>.sl 53
 |_+55=>.st [] (λ_=>()) (λ_=>()) (λ_=>rfl)
def TZ :(c:Nat)->TT c
 |0=>(default:Int)
 |1=>(default:zgg)
 |2=>(default :(List zgg))
 |3=>(default:Edge)
 |4=>(default :(List Edge))
 |5=>(default:zi)
 |6=>(default:Int)
 |7=>(default:z2g)
 |8=>(default :(List z2g))
 |9=>(default:zr4)
 |10=>(default :(List zr4))
 |11=>(default:Swap)
 |12=>(default :(List Swap))
 |13=>(default:Wash)
 |14=>(default :(List Wash))
 |15=>(default:z1w)
 |16=>(default:zm9)
 |17=>(default :(List zm9))
 |18=>(default:zgh)
 |19=>(default :(List zgh))
 |20=>(default:Span)
 |21=>(default :(Nat->Span))
 |22=>(default :(List Int))
 |23=>(default:z5k)
 |24=>(default:z5l)
 |25=>(default :(List z5l))
 |26=>(default:Pool)
 |27=>(default:Bool)
 |28=>(default :(Nat->Bool))
 |29=>(default:za)
 |30=>(default:zf)
 |31=>(default :(List (List Int)))
 |32=>(default :(Nat->Int))
 |33=>(default :(List ((Nat->Int)×Int)))
 |34=>(default:zu)
 |35=>(default :(Nat->Int))
 |36=>(default :(List za))
 |37=>(default :(List zf))
 |38=>(default:Arc)
 |39=>(default :(List Arc))
 |40=>(default:zc)
 |41=>(default:Flow)
 |42=>(default:zlu)
 |43=>(default:zk)
 |44=>(default :(List zk))
 |45=>(default:z7)
 |46=>(default :(List z7))
 |47=>(default:Plan)
 |48=>(default:Ref)
 |49=>(default:ByteArray)
 |50=>(default:Part)
 |51=>(default :(List Part))
 |52=>(default:Item)
 |53=>(default:zh)
 |54=>(default :(List zh))
 |_+55=>()
def TC(t:Nat):Nat:=(lk [(2,0),(3,0),(4,27),(9,49),(10,49),(11,49),(12,6),(22,2),(23,4),(25,5),(26,8),(27,10),(28,12),(29,14),(31,15),(32,17),(33,19),(34,25),(36,26),(37,36),(38,37),(39,46),(40,22),(42,47),(45,0),(48,54),(52,39),(54,40),(64,29),(66,30),(71,48),(72,51),(74,52),(76,53),(84,45),(88,41),(101,9),(119,38),(126,20),(127,21),(129,23),(130,6),(132,24),(139,50),(151,1),(153,3),(155,7),(157,11),(159,13),(166,16),(168,18),(175,6),(198,31),(200,42),(204,28),(209,0),(229,33),(231,34),(237,35),(245,6),(252,32),(260,44),(264,43)] t).getD 55
def TV:TE:=⟨TT,TD,TZ,TC,λc=>match c with|0=>rfl|1=>rfl|2=>rfl|3=>rfl|4=>rfl|5=>rfl|6=>rfl|7=>rfl|8=>rfl|9=>rfl|10=>rfl|11=>rfl|12=>rfl|13=>rfl|14=>rfl|15=>rfl|16=>rfl|17=>rfl|18=>rfl|19=>rfl|20=>rfl|21=>rfl|22=>rfl|23=>rfl|24=>rfl|25=>rfl|26=>rfl|27=>rfl|28=>rfl|29=>rfl|30=>rfl|31=>rfl|32=>rfl|33=>rfl|34=>rfl|35=>rfl|36=>rfl|37=>rfl|38=>rfl|39=>rfl|40=>rfl|41=>rfl|42=>rfl|43=>rfl|44=>rfl|45=>rfl|46=>rfl|47=>rfl|48=>rfl|49=>rfl|50=>rfl|51=>rfl|52=>rfl|53=>rfl|54=>rfl|_+55=>rfl⟩
def z63 :(Nat->Int)->List Int:=TV.kl 32
def zz3(l:List Int):Option (List Int):=zr1 l
def Good{R:Type}(r:R)(y:Option (List (Option R))):Prop:=∃L,y=some L/\∀a∈L,a=some r
theorem Good.one{R:Type}{r:R}{x:Option R}(h:x=some r):Good r (some [x]):=⟨_,rfl,λa ha=>by rw[w0i] at ha;rw[ha,h]⟩
theorem Good.nil{R:Type}{r:R}: Good r (catL ([]:List (Option (List (Option R))))):=⟨[],rfl,λa ha=>by cases ha⟩
theorem Good.cons{R:Type}{r:R}{y:Option (List (Option R))}{ys:List (Option (List (Option R)))}(h:Good r y)(k:Good r (catL ys)):Good r (catL (y::ys)):=by
 obtain⟨L,rfl,h1⟩:=h;obtain⟨M,e,h2⟩:=k;refine⟨L++M,by simp only[catL,e,cat2],λa ha=>?_⟩;rcases w0q.1 ha with h|h
 .exact h1 a h
 .exact h2 a h
theorem Good.ck{R:Type}{r:R}{p:Prop}[Decidable p]{y:Option (List (Option R))}(h:p)(k:Good r y):Good r (ck p y):=by unfold Px.ck;rw[if_pos h];exact k
theorem ckS{R:Type}{r:R}{p:Prop}[Decidable p]{x:Option R}(h:ck p x=some r):p/\x=some r:=by
 unfold ck at h;split at h
 .rename_i hp;exact⟨hp,h⟩
 .cases h
def zcl(φ:Nat):Option (Pool×Unit):=(some ((⟨(⟨[(⟨2,0,-1⟩:zgg),(⟨4,0,-1⟩:zgg),(⟨2,0,-1⟩:zgg)],[(⟨0,1,0,30,0⟩:Edge),(⟨1,2,0,50,0⟩:Edge)]⟩:zi),(⟨[(⟨0,0,0,0,0,6,1,0⟩:z2g),(⟨0,0,0,0,0,6,1,0⟩:z2g)],([]:List zr4),[(⟨0,1,7⟩:Swap)],[(⟨1,2,15⟩:Wash)]⟩:z1w),([]:List zm9),([]:List zgh),[(⟨4,(⟨λ_=>(default:Span),([]:List Int)⟩:z5k)⟩:z5l)]⟩:Pool),()))
def zeo(φ:Nat):Fsp TV:=⟨[],[.val 26],λz=>zcl φ⟩
def zc0(φ:Nat)(a:zgg):Option (Bool×Unit):=(if((((decide ((a.kind:Int)<1))||(decide ((5:Int)<a.kind)))||(decide ((a.railway:Int)<0)))||(decide ((16:Int)<=a.railway)))=true then(some (false,())) else(if((a.kind:Int) !=3)=true then(some (((a.other:Int)==(-1)),())) else(some ((((decide ((0:Int)<=a.other))&&(decide ((a.other:Int)<16)))&&((a.other:Int) !=a.railway)),()))))
def zdv(φ:Nat):Fsp TV:=⟨[1],[.val 27],λz=>zc0 φ z.1⟩
def z21(φ:Nat):Nat->Int->(List Edge)->Int->Int->Option (Int×Unit)
 |0,_,_,_,_=>none
 |g+1,e,d,f,c=>(if(decide (c<f))=true then(ck (rg c d.length) (if(((((((decide (((min2 ((min2 (min2 ((gt d c).a) ((gt d c).b)) ((gt d c).railway))) ((gt d c).km)):Int)<0))||(decide (e<=(max2 ((gt d c).a) ((gt d c).b)))))||(((gt d c).a:Int)==(gt d c).b))||(decide ((16:Int)<=(gt d c).railway)))||(decide (((gt d c).minutes:Int)<1)))||(decide ((100000:Int)<(gt d c).minutes)))||(decide ((10000:Int)<(gt d c).km)))=true then(some (1,())) else((z21 φ g) e d f (W (c+1))))) else(some (0,())))
def z43(φ:Nat):Nat->Int->(List zgg)->Int->Int->zi->Option (Int×Unit)
 |0,_,_,_,_,_=>none
 |f+1,d,b,e,a,c=>(if(decide (a<e))=true then(ck (rg a b.length) ((zc0 φ (gt b a)).bind λg=>(if(!g.1)=true then(some (1,())) else((z43 φ f) d b e (W (a+1)) c)))) else(z21 φ φ d c.edges (c.edges.length:Int) 0))
def z8y(φ:Nat)(a:zi):Option (Int×Unit):=(if((decide ((512:Int)<(a.places.length:Int)))||(decide ((2048:Int)<(a.edges.length:Int))))=true then(some (2,())) else(z43 φ φ (a.places.length:Int) a.places (a.places.length:Int) 0 a))
def z90(φ:Nat):Fsp TV:=⟨[5],[.val 0],λz=>z8y φ z.1⟩
def zt(φ:Nat)(a b c:Int):Option (Bool×Unit):=(some (((decide (b<=a))&&(decide (a<=c))),()))
def z52(φ:Nat):Fsp TV:=⟨[0,0,0],[.val 27],kk3 (zt φ)⟩
def z2j(φ:Nat)(c :((List z2g)->Int->Int->z1w->Int->Option (Int×Unit))):Nat->(List z2g)->Int->Int->Int->Int->z1w->Int->z2g->(List Int)->Option (Int×Unit)
 |0,_,_,_,_,_,_,_,_,_=>none
 |k+1,d,e,f,i,a,g,l,b,h=>(if(decide (a<i))=true then(ck (rg a h.length) ((zt φ (gt h a) 0 1000000).bind λn=>(if(!n.1)=true then((z2j φ c k) d e f i (W (a+1)) g 1 b h) else((z2j φ c k) d e f i (W (a+1)) g l b h)))) else((zt φ b.gauge 0 7).bind λj=>((zn (default,()) (j.1=true) (zt φ b.life 1 1073741824)).bind λm=>((zn (default,()) ((j.1&&m.1)=true) (zt φ b.floor 0 100)).bind λo=>(if(!((j.1&&m.1)&&o.1))=true then(c d e (W (f+1)) g 1) else(c d e (W (f+1)) g l))))))
def z00(φ:Nat):Nat->(List Wash)->Int->Int->Int->(Nat->Bool)->Option (Int×Unit)
 |0,_,_,_,_,_=>none
 |e+1,b,d,a,h,c=>(if(decide (a<d))=true then(ck (rg a b.length) ((zt φ ((gt b a).from_) 0 63).bind λf=>((zn (default,()) (f.1=true) (zt φ ((gt b a).to) 0 63)).bind λg=>((zn (default,()) (((f.1&&g.1)&&(((gt b a).from_:Int) !=(gt b a).to))=true) (zt φ ((gt b a).minutes) 0 100000)).bind λi=>(if(!(((f.1&&g.1)&&(((gt b a).from_:Int) !=(gt b a).to))&&i.1))=true then(if(((f.1&&g.1)&&(((gt b a).from_:Int) !=(gt b a).to))&&i.1)=true then(ck (rg (gt b a).from_ 64) (ck (rg (gt b a).to 64) (if(!(!(c (((((gt b a).from_:Int).toNat*64)+((gt b a).to:Int).toNat)))))=true then(ck (rg (gt b a).from_ 64) (ck (rg (gt b a).to 64) ((z00 φ e) b d (W (a+1)) 1 ((upd c (((((gt b a).from_:Int).toNat*64)+((gt b a).to:Int).toNat)) true))))) else(ck (rg (gt b a).from_ 64) (ck (rg (gt b a).to 64) ((z00 φ e) b d (W (a+1)) 1 ((upd c (((((gt b a).from_:Int).toNat*64)+((gt b a).to:Int).toNat)) true)))))))) else((z00 φ e) b d (W (a+1)) 1 c)) else(if(((f.1&&g.1)&&(((gt b a).from_:Int) !=(gt b a).to))&&i.1)=true then(ck (rg (gt b a).from_ 64) (ck (rg (gt b a).to 64) (if(!(!(c (((((gt b a).from_:Int).toNat*64)+((gt b a).to:Int).toNat)))))=true then(ck (rg (gt b a).from_ 64) (ck (rg (gt b a).to 64) ((z00 φ e) b d (W (a+1)) 1 ((upd c (((((gt b a).from_:Int).toNat*64)+((gt b a).to:Int).toNat)) true))))) else(ck (rg (gt b a).from_ 64) (ck (rg (gt b a).to 64) ((z00 φ e) b d (W (a+1)) h ((upd c (((((gt b a).from_:Int).toNat*64)+((gt b a).to:Int).toNat)) true)))))))) else((z00 φ e) b d (W (a+1)) h c))))))) else(some (h,())))
def z0y(φ:Nat):Nat->(List Swap)->Int->Int->z1w->Int->Option (Int×Unit)
 |0,_,_,_,_,_=>none
 |f+1,b,d,a,c,g=>(if(decide (a<d))=true then(ck (rg a b.length) ((zt φ ((gt b a).wanted) 0 (W ((c.types.length:Int)-1))).bind λe=>((zn (default,()) (e.1=true) (zt φ ((gt b a).given) 0 (W ((c.types.length:Int)-1)))).bind λh=>((zn (default,()) (((e.1&&h.1)&&(((gt b a).wanted:Int) !=(gt b a).given))=true) (zt φ ((gt b a).cost) 0 1000000000)).bind λi=>(if(!(((e.1&&h.1)&&(((gt b a).wanted:Int) !=(gt b a).given))&&i.1))=true then((z0y φ f) b d (W (a+1)) c 1) else((z0y φ f) b d (W (a+1)) c g)))))) else(z00 φ φ c.washes (c.washes.length:Int) 0 g (λ_=>(default:Bool))))
def z0k(φ:Nat):Nat->(List zr4)->Int->Int->z1w->Int->Option (Int×Unit)
 |0,_,_,_,_,_=>none
 |e+1,b,d,a,c,g=>(if(decide (a<d))=true then(ck (rg a b.length) ((zt φ ((gt b a).type_) 0 (W ((c.types.length:Int)-1))).bind λf=>((zn (default,()) (f.1=true) (zt φ ((gt b a).owner) 0 63)).bind λh=>((zn (default,()) ((f.1&&h.1)=true) (zt φ ((gt b a).home) 0 511)).bind λk=>(if(!((f.1&&h.1)&&k.1))=true then((zt φ ((gt b a).built) 0 1073741824).bind λi=>((zn (default,()) (i.1=true) (zt φ ((gt b a).worth) 0 1099511627776)).bind λl=>(if(!(i.1&&l.1))=true then((z0k φ e) b d (W (a+1)) c 1) else((z0k φ e) b d (W (a+1)) c 1)))) else((zt φ ((gt b a).built) 0 1073741824).bind λj=>((zn (default,()) (j.1=true) (zt φ ((gt b a).worth) 0 1099511627776)).bind λm=>(if(!(j.1&&m.1))=true then((z0k φ e) b d (W (a+1)) c 1) else((z0k φ e) b d (W (a+1)) c g))))))))) else(z0y φ φ c.swaps (c.swaps.length:Int) 0 c g))
def z4i(φ:Nat):Nat->(List z2g)->Int->Int->z1w->Int->Option (Int×Unit)
 |0,_,_,_,_,_=>none
 |f+1,b,d,a,c,e=>(if(decide (a<d))=true then(ck (rg a b.length) (z2j φ (z4i φ f) φ b d a (([(gt b a).load,(gt b a).tare,(gt b a).length,(gt b a).brake]).length:Int) 0 c e (gt b a) ([(gt b a).load,(gt b a).tare,(gt b a).length,(gt b a).brake]))) else(z0k φ φ c.wagons (c.wagons.length:Int) 0 c e))
def z9p(φ:Nat)(a:z1w):Option (Int×Unit):=(if((((decide ((32:Int)<(a.types.length:Int)))||(decide ((4096:Int)<(a.wagons.length:Int))))||(decide ((1024:Int)<(a.swaps.length:Int))))||(decide ((4096:Int)<(a.washes.length:Int))))=true then(some (2,())) else(z4i φ φ a.types (a.types.length:Int) 0 a 0))
def z8c(φ:Nat):Fsp TV:=⟨[15],[.val 0],λz=>z9p φ z.1⟩
def z2s(φ:Nat):Nat->Int->(List Int)->Int->Int->Option (Int×Unit)
 |0,_,_,_,_=>none
 |d+1,e,b,c,a=>(if(decide (a<c))=true then(ck (rg a b.length) (if((decide (((gt b a):Int)<=e))||(decide ((745654:Int)<(gt b a))))=true then(some (1,())) else((z2s φ d) (gt b a) b c (W (a+1))))) else(some (0,())))
def z3g(φ:Nat):Nat->(Nat->Span)->Int->z5k->Option (Int×Unit)
 |0,_,_,_=>none
 |d+1,b,a,c=>(if(decide (a<7))=true then(ck (rg a 7) (if(((decide (((b a.toNat).from_:Int)<0))||(decide (((b a.toNat).to:Int)<(b a.toNat).from_)))||(decide ((1440:Int)<(b a.toNat).to)))=true then(some (1,())) else((z3g φ d) b (W (a+1)) c))) else(z2s φ φ (-1) c.holidays (c.holidays.length:Int) 0))
def zac(φ:Nat)(a:z5k):Option (Int×Unit):=(z3g φ φ a.open_ 0 a)
def zb8(φ:Nat):Fsp TV:=⟨[23],[.val 0],λz=>zac φ z.1⟩
def z9k(φ:Nat)(a b:Int):Option (Int×Int×Unit):=(if 0<=(32:Int) then(if 0<=(32:Int) then(if 0<=(32:Int) then(if 0<=(32:Int) then(if 0<=(32:Int) then(some ((U ((U ((U ((a.fdiv (2 ^ (min (32:Int).toNat 64)))*(b.fdiv (2 ^ (min (32:Int).toNat 64)))))+(((U ((U ((a.fdiv (2 ^ (min (32:Int).toNat 64)))*(U ((BitVec.ofInt 64 b&&& BitVec.ofInt 64 4294967295).toNat))))+(((U ((U ((BitVec.ofInt 64 a&&& BitVec.ofInt 64 4294967295).toNat))*(U ((BitVec.ofInt 64 b&&& BitVec.ofInt 64 4294967295).toNat)))):Int).fdiv (2 ^ (min (32:Int).toNat 64))))):Int).fdiv (2 ^ (min (32:Int).toNat 64)))))+(((U ((U ((BitVec.ofInt 64 (U ((U ((a.fdiv (2 ^ (min (32:Int).toNat 64)))*(U ((BitVec.ofInt 64 b&&& BitVec.ofInt 64 4294967295).toNat))))+(((U ((U ((BitVec.ofInt 64 a&&& BitVec.ofInt 64 4294967295).toNat))*(U ((BitVec.ofInt 64 b&&& BitVec.ofInt 64 4294967295).toNat)))):Int).fdiv (2 ^ (min (32:Int).toNat 64)))))&&& BitVec.ofInt 64 4294967295).toNat))+(U ((U ((BitVec.ofInt 64 a&&& BitVec.ofInt 64 4294967295).toNat))*(b.fdiv (2 ^ (min (32:Int).toNat 64))))))):Int).fdiv (2 ^ (min (32:Int).toNat 64))))),(U (a*b)),())) else none) else none) else none) else none) else none)
def zja(φ:Nat):Fsp TV:=⟨[6,6],[.val 6,.val 6],kk2 (z9k φ)⟩
def z1c(φ:Nat)(a b:Int):Option (Int×Unit):=(ck (rg (IntKind.wrap .u8 (a)) z03.size) (some ((W (64-(W (b+(W ((zcp z03 (IntKind.wrap .u8 (a))))))))),())))
def z1y(φ:Nat)(a b:Int):Option (Int×Unit):=(if(decide ((256:Int)<=a))=true then(if 0<=(8:Int) then(z1c φ ((a.fdiv (2 ^ (min (8:Int).toNat 64)))) (W (b+8))) else none) else(z1c φ a b))
def z1x(φ:Nat)(a b:Int):Option (Int×Unit):=(if(decide ((65536:Int)<=a))=true then(if 0<=(16:Int) then(z1y φ ((a.fdiv (2 ^ (min (16:Int).toNat 64)))) (W (b+16))) else none) else(z1y φ a b))
def z3l(φ:Nat)(a:Int):Option (Int×Unit):=(if(decide ((4294967296:Int)<=a))=true then(if 0<=(32:Int) then(z1x φ ((a.fdiv (2 ^ (min (32:Int).toNat 64)))) 32) else none) else(z1x φ a 0))
def z6d(φ:Nat):Fsp TV:=⟨[6],[.val 0],λz=>z3l φ z.1⟩
def z7i(φ:Nat)(c a d e f b:Int):Option (Int×Int×Unit):=(ck (0<=a) (some ((U ((U (e*4294967296))+b)),(((U ((U ((U (f*4294967296))+d))-(U (b*c)))):Int).fdiv (2 ^ (min a.toNat 64))),())))
def z7f(φ:Nat):Nat->Int->Int->Int->Int->Int->Int->Int->Int->Int->Option (Int×Int×Unit)
 |0,_,_,_,_,_,_,_,_,_=>none
 |j+1,c,d,e,i,b,f,g,h,a=>(if((decide ((4294967296:Int)<=a))||(decide (((U ((U (4294967296*g))+b)):Int)<(U (a*i)))))=true then(if(decide ((4294967296:Int)<=(U (g+e))))=true then(z7i φ c d b f h (U (a-1))) else((z7f φ j) c d e i b f (U (g+e)) h (U (a-1)))) else(z7i φ c d b f h a))
def z7h(φ:Nat)(a f b g d e h c:Int):Option (Int×Int×Unit):=(ck (b≠0) (z7f φ φ a f b g h c ((U ((U ((U ((U (d*4294967296))+e))-(U (c*a))))-(U ((U (((U ((U ((U (d*4294967296))+e))-(U (c*a)))):Int).tdiv b))*b))))) ((U ((U ((U (d*4294967296))+e))-(U (c*a))))) ((U (((U ((U ((U (d*4294967296))+e))-(U (c*a)))):Int).tdiv b)))))
def z7g(φ:Nat):Nat->Int->Int->Int->Int->Int->Int->Int->Int->Int->Option (Int×Int×Unit)
 |0,_,_,_,_,_,_,_,_,_=>none
 |j+1,e,f,a,c,g,d,h,b,i=>(if((decide ((4294967296:Int)<=b))||(decide (((U ((U (4294967296*i))+d)):Int)<(U (b*c)))))=true then(if(decide ((4294967296:Int)<=(U (i+a))))=true then(z7h φ e f a c g d h (U (b-1))) else((z7g φ j) e f a c g d h (U (b-1)) (U (i+a)))) else(z7h φ e f a c g d h b))
def z82(φ:Nat)(d c b:Int):Option (Int×Int×Unit):=(if(b==0)=true then none else(if(decide (b<=d))=true then none else(if(d==0)=true then(ck (b≠0) (ck (b≠0) (some ((U (c.tdiv b)),(c.tmod b),())))) else((z3l φ b).bind λa=>(ck (0<=(U (a.1))) (if 0<=(32:Int) then(ck (0<=(U (a.1))) (ck (0<=(U (64-(U (a.1))))) (ck (0<=(U (a.1))) (if 0<=(32:Int) then(ck ((((U (b*2 ^ (min ((U (a.1)):Int).toNat 64))):Int).fdiv (2 ^ (min (32:Int).toNat 64)))≠0) (z7g φ φ ((U (b*2 ^ (min ((U (a.1)):Int).toNat 64)))) (U (a.1)) ((((U (b*2 ^ (min ((U (a.1)):Int).toNat 64))):Int).fdiv (2 ^ (min (32:Int).toNat 64)))) ((U ((BitVec.ofInt 64 (U (b*2 ^ (min ((U (a.1)):Int).toNat 64)))&&& BitVec.ofInt 64 4294967295).toNat))) ((U ((BitVec.ofInt 64 (U (d*2 ^ (min ((U (a.1)):Int).toNat 64)))||| BitVec.ofInt 64 (c.fdiv (2 ^ (min ((U (64-(U (a.1)))):Int).toNat 64)))).toNat))) ((((U (c*2 ^ (min ((U (a.1)):Int).toNat 64))):Int).fdiv (2 ^ (min (32:Int).toNat 64)))) ((U ((BitVec.ofInt 64 (U (c*2 ^ (min ((U (a.1)):Int).toNat 64)))&&& BitVec.ofInt 64 4294967295).toNat))) ((U (((U ((BitVec.ofInt 64 (U (d*2 ^ (min ((U (a.1)):Int).toNat 64)))||| BitVec.ofInt 64 (c.fdiv (2 ^ (min ((U (64-(U (a.1)))):Int).toNat 64)))).toNat)):Int).tdiv (((U (b*2 ^ (min ((U (a.1)):Int).toNat 64))):Int).fdiv (2 ^ (min (32:Int).toNat 64)))))) ((U ((U ((BitVec.ofInt 64 (U (d*2 ^ (min ((U (a.1)):Int).toNat 64)))||| BitVec.ofInt 64 (c.fdiv (2 ^ (min ((U (64-(U (a.1)))):Int).toNat 64)))).toNat))-(U ((U (((U ((BitVec.ofInt 64 (U (d*2 ^ (min ((U (a.1)):Int).toNat 64)))||| BitVec.ofInt 64 (c.fdiv (2 ^ (min ((U (64-(U (a.1)))):Int).toNat 64)))).toNat)):Int).tdiv (((U (b*2 ^ (min ((U (a.1)):Int).toNat 64))):Int).fdiv (2 ^ (min (32:Int).toNat 64)))))*(((U (b*2 ^ (min ((U (a.1)):Int).toNat 64))):Int).fdiv (2 ^ (min (32:Int).toNat 64)))))))))) else none)))) else none))))))
def zj5(φ:Nat):Fsp TV:=⟨[6,6,6],[.val 6,.val 6],kk3 (z82 φ)⟩
def zb4(φ:Nat)(d :(Int->Int->Int->Int->Int->Int->Option (Int×Unit)))(b e c f g h i j l a:Int):Option (Int×Unit):=(ck (rg (IntKind.wrap .u8 (b)) z03.size) (ck (0<=(W ((W ((W (e+(W ((zcp z03 (IntKind.wrap .u8 (b)))))))-1))-h))) (if(((U ((BitVec.ofInt 64 (l.fdiv (2 ^ (min ((W ((W ((W (e+(W ((zcp z03 (IntKind.wrap .u8 (b)))))))-1))-h)):Int).toNat 64)))&&& BitVec.ofInt 64 1).toNat)):Int)==1)=true then(ck (a≠0) (ck (a≠0) ((z9k φ (g.tmod a) (c.tmod a)).bind λk=>((z82 φ k.1 k.2.1 a).bind λm=>(d c f m.2.1 i (W (j+1)) a))))) else(d c f g i (W (j+1)) a))))
def zb3(φ:Nat)(b :(Int->Int->Int->Int->Int->Int->Option (Int×Unit)))(a c d e f g h i j k:Int):Option (Int×Unit):=(if(decide ((256:Int)<=a))=true then(if 0<=(8:Int) then(zb4 φ b ((a.fdiv (2 ^ (min (8:Int).toNat 64)))) (W (c+8)) d e f g h i j k) else none) else(zb4 φ b a c d e f g h i j k))
def z4g(φ:Nat)(b :(Int->Int->Int->Int->Int->Int->Option (Int×Unit)))(a c d e f g h i j k:Int):Option (Int×Unit):=(if(decide ((65536:Int)<=a))=true then(if 0<=(16:Int) then(zb3 φ b ((a.fdiv (2 ^ (min (16:Int).toNat 64)))) (W (c+16)) d e f g h i j k) else none) else(zb3 φ b a c d e f g h i j k))
def z0s(φ:Nat):Nat->Int->Int->Int->Int->Int->Int->Option (Int×Unit)
 |0,_,_,_,_,_,_=>none
 |f+1,g,a,d,e,c,b=>(if(decide (c<e))=true then(ck (b≠0) (ck (b≠0) ((z9k φ (d.tmod b) (d.tmod b)).bind λh=>((z82 φ h.1 h.2.1 b).bind λi=>(if(decide ((4294967296:Int)<=a))=true then(if 0<=(32:Int) then(z4g φ (z0s φ f) ((a.fdiv (2 ^ (min (32:Int).toNat 64)))) 32 g a i.2.1 c e c a b) else none) else(z4g φ (z0s φ f) a 0 g a i.2.1 c e c a b)))))) else(some (d,())))
def zb2(φ:Nat)(a b c d e f:Int):Option (Int×Unit):=(ck (rg (IntKind.wrap .u8 (a)) z03.size) (z0s φ φ c d e ((W (b+(W ((zcp z03 (IntKind.wrap .u8 (a)))))))) 0 f))
def zb1(φ:Nat)(a b c d e f:Int):Option (Int×Unit):=(if(decide ((256:Int)<=a))=true then(if 0<=(8:Int) then(zb2 φ ((a.fdiv (2 ^ (min (8:Int).toNat 64)))) (W (b+8)) c d e f) else none) else(zb2 φ a b c d e f))
def ze9(φ:Nat)(a b c d e f:Int):Option (Int×Unit):=(if(decide ((65536:Int)<=a))=true then(if 0<=(16:Int) then(zb1 φ ((a.fdiv (2 ^ (min (16:Int).toNat 64)))) (W (b+16)) c d e f) else none) else(zb1 φ a b c d e f))
def znn(φ:Nat)(b a:Int):Option (Int×Unit):=(if(decide ((4294967296:Int)<=a))=true then(if 0<=(32:Int) then(ze9 φ ((a.fdiv (2 ^ (min (32:Int).toNat 64)))) 32 b a 1 2305843009213690799) else none) else(ze9 φ a 0 b a 1 2305843009213690799))
def zp2(φ:Nat):Fsp TV:=⟨[6,6],[.val 6],kk2 (znn φ)⟩
def zl7(φ:Nat)(a:Int):Option (Bool×Unit):=((zn (default,()) (((decide ((2:Int)<=a))&&(decide (a<2305843009213690799)))=true) (znn φ a 1152921504606845399)).bind λb=>(some ((((decide ((2:Int)<=a))&&(decide (a<2305843009213690799)))&&(b.1==1)),())))
def zkj(φ:Nat):Fsp TV:=⟨[6],[.val 27],λz=>zl7 φ z.1⟩
def z17(φ:Nat):Nat->Bool->(List z5l)->Int->Int->Option (Int×Unit)
 |0,_,_,_,_=>none
 |f+1,b,c,d,a=>(if(decide (a<d))=true then(ck (rg a c.length) ((zn (default,()) (b=false) (zac φ ((gt c a).calendar))).bind λe=>((zn (default,()) ((b||(e.1 !=0))=false) (zl7 φ ((gt c a).key))).bind λg=>((z17 φ f) (((b||(e.1 !=0))||(!g.1))) c d (W (a+1)))))) else(if b=true then(some (1,())) else(some (0,()))))
def z16(φ:Nat):Nat->Int->Bool->(List Edge)->Int->Int->Pool->Option (Int×Unit)
 |0,_,_,_,_,_,_=>none
 |g+1,d,e,b,f,a,c=>(if(decide (a<f))=true then(ck (rg a b.length) ((z16 φ g) d ((e||(decide (d<=(gt b a).railway)))) b f (W (a+1)) c)) else(z17 φ φ e c.railways (c.railways.length:Int) 0))
def z15(φ:Nat):Nat->Int->Bool->(List zgg)->Int->Int->Pool->Option (Int×Unit)
 |0,_,_,_,_,_,_=>none
 |g+1,b,e,c,f,a,d=>(if(decide (a<f))=true then(ck (rg a c.length) ((z15 φ g) b (((e||(decide (b<=(gt c a).railway)))||(decide (b<=(gt c a).other)))) c f (W (a+1)) d)) else(z16 φ φ b e d.network.edges (d.network.edges.length:Int) 0 d))
def z14(φ:Nat):Nat->(List zgg)->Int->Bool->(List zr4)->Int->Int->Pool->Option (Int×Unit)
 |0,_,_,_,_,_,_,_=>none
 |h+1,a,d,e,c,f,b,g=>(if(decide (b<f))=true then(ck (rg b c.length) ((z14 φ h) a d ((e||(decide (((a.length:Int):Int)<=(gt c b).home)))) c f (W (b+1)) g)) else(z15 φ φ d e a (a.length:Int) 0 g))
def z13(φ:Nat):Nat->(List zgg)->Int->Bool->(List zgh)->Int->Int->Pool->Option (Int×Unit)
 |0,_,_,_,_,_,_,_=>none
 |i+1,b,f,d,c,g,a,e=>(if(decide (a<g))=true then(ck (rg a c.length) ((zn (default,()) (d=false) (zt φ ((gt c a).place) 0 (W ((b.length:Int)-1)))).bind λh=>(ck (((d||(!h.1))=false)->rg (gt c a).place b.length) ((z13 φ i) b f (((d||(!h.1))||(((gt b ((gt c a).place)).kind:Int) !=4))) c g (W (a+1)) e)))) else(z14 φ φ b f d e.fleet.wagons (e.fleet.wagons.length:Int) 0 e))
def z20(φ:Nat):Nat->(List zgg)->Int->Bool->(List zm9)->Int->Int->Pool->Option (Int×Unit)
 |0,_,_,_,_,_,_,_=>none
 |h+1,d,f,e,b,g,a,c=>(if(decide (a<g))=true then(ck (rg a b.length) ((zn (default,()) (e=false) (zt φ ((gt b a).place) 0 (W ((d.length:Int)-1)))).bind λi=>((z20 φ h) d f (((((e||(!i.1))||(decide (((gt b a).low:Int)<(-1000))))||(decide (((gt b a).high:Int)<(gt b a).low)))||(decide ((1000:Int)<(gt b a).high)))) b g (W (a+1)) c))) else(z13 φ φ d f e c.shippers (c.shippers.length:Int) 0 c))
def z1h(φ:Nat)(a:Pool):Option (Int×Unit):=((z8y φ a.network).bind λb=>(if(b.1 !=0)=true then(some (b.1,())) else((z9p φ a.fleet).bind λc=>(if(c.1 !=0)=true then(some (c.1,())) else(if(((decide ((256:Int)<(a.readers.length:Int)))||(decide ((256:Int)<(a.shippers.length:Int))))||(decide ((16:Int)<(a.railways.length:Int))))=true then(some (2,())) else(z20 φ φ a.network.places (a.railways.length:Int) (((a.railways.length:Int):Int)==0) a.readers (a.readers.length:Int) 0 a))))))
def z4z(φ:Nat):Fsp TV:=⟨[26],[.val 0],λz=>z1h φ z.1⟩
def z0f(φ:Nat)(a b c:Int):Option (Bool×Unit):=(some (((decide (b<=a))&&(decide (a<=c))),()))
def z6x(φ:Nat):Fsp TV:=⟨[0,0,0],[.val 27],kk3 (z0f φ)⟩
def z2b(φ:Nat)(e:Pool)(a:za):Option (Bool×Unit):=((z0f φ a.type_ 0 (W ((e.fleet.types.length:Int)-1))).bind λb=>((zn (default,()) (b.1=true) (z0f φ a.class_ (-1) 63)).bind λc=>((zn (default,()) ((b.1&&c.1)=true) (z0f φ a.place 0 (W ((e.network.places.length:Int)-1)))).bind λd=>((zn (default,()) (((b.1&&c.1)&&d.1)=true) (z0f φ a.at_ 0 1073741824)).bind λf=>((zn (default,()) ((((b.1&&c.1)&&d.1)&&f.1)=true) (z0f φ a.count 1 4096)).bind λg=>(some (((((b.1&&c.1)&&d.1)&&f.1)&&g.1),())))))))
def z5p(φ:Nat):Fsp TV:=⟨[26,29],[.val 27],kk2 (z2b φ)⟩
def z34(φ:Nat)(f:Pool)(a:zf):Option (Bool×Unit):=((z0f φ a.type_ 0 (W ((f.fleet.types.length:Int)-1))).bind λb=>((zn (default,()) (b.1=true) (z0f φ a.class_ 0 63)).bind λc=>((zn (default,()) ((b.1&&c.1)=true) (z0f φ a.place 0 (W ((f.network.places.length:Int)-1)))).bind λd=>((zn (default,()) (((b.1&&c.1)&&d.1)=true) (z0f φ a.from_ 0 a.to)).bind λe=>((zn (default,()) (((((b.1&&c.1)&&d.1)&&e.1)&&(decide ((a.to:Int)<=1073741824)))=true) (z0f φ a.count 1 1000)).bind λg=>((zn (default,()) ((((((b.1&&c.1)&&d.1)&&e.1)&&(decide ((a.to:Int)<=1073741824)))&&g.1)=true) (z0f φ a.weight 0 1000000000)).bind λh=>(some (((((((b.1&&c.1)&&d.1)&&e.1)&&(decide ((a.to:Int)<=1073741824)))&&g.1)&&h.1),()))))))))
def z6h(φ:Nat):Fsp TV:=⟨[26,30],[.val 27],kk2 (z34 φ)⟩
def z58(φ:Nat)(d :((List Edge)->Int->Int->zi->(List (List Int))->(List ((Nat->Int)×Int))->Option (zu×Int×Unit)))(b e:Int)(c:Bool)(f :(List Edge))(g h:Int)(a:zi)(k :(Nat->Int))(i :(List (List Int)))(j :(List ((Nat->Int)×Int))):Option (zu×Int×Unit):=(ck (((!c)=false)->rg b a.edges.length) (ck (((!c)=false)->rg e a.edges.length) (if((!c)||(decide (((gt a.edges b).minutes:Int)<(gt a.edges e).minutes)))=true then(d f g (W (h+1)) a i (cset z63 j k b)) else(d f g (W (h+1)) a i j))))
def z59(φ:Nat)(d :((List Edge)->Int->Int->zi->(List (List Int))->(List ((Nat->Int)×Int))->Option (zu×Int×Unit)))(b e:Int)(c:Bool)(f :(List Edge))(g h:Int)(a:zi)(k :(Nat->Int))(i :(List (List Int)))(j :(List ((Nat->Int)×Int))):Option (zu×Int×Unit):=(ck (((!c)=false)->rg b a.edges.length) (ck (((!c)=false)->rg e a.edges.length) (if((!c)||(decide (((gt a.edges b).minutes:Int)<(gt a.edges e).minutes)))=true then(d f g (W (h+1)) a i (cset z63 j k b)) else(d f g (W (h+1)) a i j))))
def z57(φ:Nat)(i :((List Edge)->Int->Int->zi->(List (List Int))->(List ((Nat->Int)×Int))->Option (zu×Int×Unit)))(f o:Int)(n:Bool)(j:Int)(k :(List Edge))(l m:Int)(g:zi)(h :(Nat->Int))(c:Edge)(d :(List (List Int)))(e :(List ((Nat->Int)×Int))):Option (zu×Int×Unit):=(ck (((!n)=false)->rg f g.edges.length) (ck (((!n)=false)->rg o g.edges.length) (if((!n)||(decide (((gt g.edges f).minutes:Int)<(gt g.edges o).minutes)))=true then(if(!(cget z63 (cset z63 e h f) ((upd (upd (λ_=>(default:Int)) 0 c.b) 1 c.a))).isSome)=true then(ck (rg c.b d.length) (ck (rg c.b d.length) (ck ((c.b:Int)=c.b) (ck (fits ((gt d c.b).length+([c.a]).length) 8) (ck (rg c.b d.length) (ck ((c.b:Int)=c.b) (z58 φ i j (((cget z63 (cset z63 e h f) ((upd (upd (λ_=>(default:Int)) 0 c.b) 1 c.a))).getD (default:Int))) ((cget z63 (cset z63 e h f) ((upd (upd (λ_=>(default:Int)) 0 c.b) 1 c.a))).isSome) k l m g ((upd (upd (λ_=>(default:Int)) 0 c.b) 1 c.a)) (zl d c.b ((gt d c.b)++[c.a])) (cset z63 e h f)))))))) else(z58 φ i j (((cget z63 (cset z63 e h f) ((upd (upd (λ_=>(default:Int)) 0 c.b) 1 c.a))).getD (default:Int))) ((cget z63 (cset z63 e h f) ((upd (upd (λ_=>(default:Int)) 0 c.b) 1 c.a))).isSome) k l m g ((upd (upd (λ_=>(default:Int)) 0 c.b) 1 c.a)) d (cset z63 e h f))) else(if(!(cget z63 e ((upd (upd (λ_=>(default:Int)) 0 c.b) 1 c.a))).isSome)=true then(ck (rg c.b d.length) (ck (rg c.b d.length) (ck ((c.b:Int)=c.b) (ck (fits ((gt d c.b).length+([c.a]).length) 8) (ck (rg c.b d.length) (ck ((c.b:Int)=c.b) (z59 φ i j (((cget z63 e ((upd (upd (λ_=>(default:Int)) 0 c.b) 1 c.a))).getD (default:Int))) ((cget z63 e ((upd (upd (λ_=>(default:Int)) 0 c.b) 1 c.a))).isSome) k l m g ((upd (upd (λ_=>(default:Int)) 0 c.b) 1 c.a)) (zl d c.b ((gt d c.b)++[c.a])) e))))))) else(z59 φ i j (((cget z63 e ((upd (upd (λ_=>(default:Int)) 0 c.b) 1 c.a))).getD (default:Int))) ((cget z63 e ((upd (upd (λ_=>(default:Int)) 0 c.b) 1 c.a))).isSome) k l m g ((upd (upd (λ_=>(default:Int)) 0 c.b) 1 c.a)) d e)))))
def z22(φ:Nat):Nat->Int->Int->(List (List Int))->(List ((Nat->Int)×Int))->Option (zu×Int×Unit)
 |0,_,_,_,_=>none
 |e+1,c,a,b,d=>(if(decide (a<c))=true then(ck (rg a b.length) (ck (rg a b.length) (ck (a=a) ((zz3 (gt b a)).bind λf=>((z22 φ e) c (W (a+1)) (zl b a f) d))))) else(some ((⟨b,d⟩:zu),0,())))
def z07(φ:Nat):Nat->(List Edge)->Int->Int->zi->(List (List Int))->(List ((Nat->Int)×Int))->Option (zu×Int×Unit)
 |0,_,_,_,_,_,_=>none
 |h+1,d,g,c,i,e,f=>(if(decide (c<g))=true then(ck (rg c d.length) (if(!(cget z63 f ((upd (upd (λ_=>(default:Int)) 0 ((gt d c).a)) 1 ((gt d c).b)))).isSome)=true then(ck (rg (gt d c).a e.length) (ck (rg (gt d c).a e.length) (ck (((gt d c).a:Int) =(gt d c).a) (ck (fits ((gt e ((gt d c).a)).length+([(gt d c).b]).length) 8) (ck (rg (gt d c).a e.length) (ck (((gt d c).a:Int) =(gt d c).a) (z57 φ (z07 φ h) c (((cget z63 f ((upd (upd (λ_=>(default:Int)) 0 ((gt d c).a)) 1 ((gt d c).b)))).getD (default:Int))) ((cget z63 f ((upd (upd (λ_=>(default:Int)) 0 ((gt d c).a)) 1 ((gt d c).b)))).isSome) c d g c i ((upd (upd (λ_=>(default:Int)) 0 ((gt d c).a)) 1 ((gt d c).b))) (gt d c) ((zl e ((gt d c).a) (((gt e ((gt d c).a))++[(gt d c).b])))) f))))))) else(z57 φ (z07 φ h) c (((cget z63 f ((upd (upd (λ_=>(default:Int)) 0 ((gt d c).a)) 1 ((gt d c).b)))).getD (default:Int))) ((cget z63 f ((upd (upd (λ_=>(default:Int)) 0 ((gt d c).a)) 1 ((gt d c).b)))).isSome) c d g c i ((upd (upd (λ_=>(default:Int)) 0 ((gt d c).a)) 1 ((gt d c).b))) (gt d c) e f))) else(z22 φ φ (e.length:Int) 0 e f))
def z10(φ:Nat):Nat->(List Int)->Int->Int->zi->(List (List Int))->Option (zu×Int×Unit)
 |0,_,_,_,_,_=>none
 |f+1,c,d,b,a,e=>(if(decide (b<d))=true then(ck (rg b c.length) (if((decide (((gt c b):Int)<0))||(decide (((a.places.length:Int):Int)<=(gt c b))))=true then(some ((⟨e,([] :(List ((Nat->Int)×Int)))⟩:zu),1,())) else((z10 φ f) c d (W (b+1)) a e))) else(ck (zd (a.places.length:Int) 24) (z07 φ φ a.edges (a.edges.length:Int) 0 a (List.replicate ((a.places.length:Int):Int).toNat (default :(List Int))) (([] :(List ((Nat->Int)×Int)))))))
def z4c(φ:Nat)(a:zi)(b :(List Int)):Option (zu×Int×Unit):=((z8y φ a).bind λc=>(if(c.1 !=0)=true then(some ((⟨([]:List (List Int)),([] :(List ((Nat->Int)×Int)))⟩:zu),c.1,())) else(z10 φ φ b (b.length:Int) 0 a ([]:List (List Int)))))
def zdt(φ:Nat):Fsp TV:=⟨[5,22],[.val 34,.val 0],kk2 (z4c φ)⟩
def z24(φ:Nat)(g :(zi->zu->(List Int)->(List Bool)->Option ((List Int)×Unit))):Nat->Int->(List Int)->Int->Int->zi->zu->(List Int)->(List Bool)->Option ((List Int)×Unit)
 |0,_,_,_,_,_,_,_,_=>none
 |j+1,d,b,h,a,e,f,c,i=>(if(decide (a<h))=true then(ck (rg a b.length) (ck (rg d c.length) (ck (rg (((cget z63 f.line ((upd (upd (λ_=>(default:Int)) 0 d) 1 (gt b a)))).getD (default:Int))) e.edges.length) (ck (rg (gt b a) c.length) (ck (((decide (((gt c (gt b a)):Int)<0))=false)->rg (gt b a) c.length) (if((decide (((gt c (gt b a)):Int)<0))||(decide (((W ((gt c d)+((gt e.edges (((cget z63 f.line ((upd (upd (λ_=>(default:Int)) 0 d) 1 (gt b a)))).getD (default:Int))))).minutes)):Int)<(gt c (gt b a)))))=true then(ck (rg (gt b a) c.length) ((z24 φ g j) d b h (W (a+1)) e f ((zl c (gt b a) ((W ((gt c d)+((gt e.edges (((cget z63 f.line ((upd (upd (λ_=>(default:Int)) 0 d) 1 (gt b a)))).getD (default:Int))))).minutes))))) i)) else((z24 φ g j) d b h (W (a+1)) e f c i))))))) else(g e f c i))
def z23(φ:Nat)(f :(zi->zu->(List Int)->(List Bool)->Option ((List Int)×Unit))):Nat->Int->Int->Int->zi->zu->(List Int)->(List Bool)->Option ((List Int)×Unit)
 |0,_,_,_,_,_,_,_=>none
 |i+1,b,g,a,h,e,c,d=>(if(decide (a<g))=true then(ck (rg a c.length) (ck (((decide ((0:Int)<=(gt c a)))=true)->rg a d.length) (ck ((((decide ((0:Int)<=(gt c a)))&&(!(gt d a)))=true/\(decide (b<0))=false)->rg a c.length) (ck ((((decide ((0:Int)<=(gt c a)))&&(!(gt d a)))=true/\(decide (b<0))=false)->rg b c.length) (if(((decide ((0:Int)<=(gt c a)))&&(!(gt d a)))&&((decide (b<0))||(decide (((gt c a):Int)<(gt c b)))))=true then((z23 φ f i) a g (W (a+1)) h e c d) else((z23 φ f i) b g (W (a+1)) h e c d)))))) else(if(decide (b<0))=true then(some (c,())) else(ck (rg b d.length) (ck (rg b e.near.length) (z24 φ f φ b (gt e.near b) ((gt e.near b).length:Int) 0 h e c (zl d b true))))))
def z08(φ:Nat):Nat->zi->zu->(List Int)->(List Bool)->Option ((List Int)×Unit)
 |0,_,_,_,_=>none
 |b+1,c,d,a,e=>(z23 φ (z08 φ b) φ (-1) (a.length:Int) 0 c d a e)
def z3k(φ:Nat):Nat->Int->Int->Int->zi->zu->(List Int)->(List Bool)->Option ((List Int)×Unit)
 |0,_,_,_,_,_,_,_=>none
 |h+1,c,d,a,e,f,b,g=>(if(decide (a<d))=true then(ck (rg a b.length) ((z3k φ h) c d (W (a+1)) e f (zl b a (-1)) g)) else(ck (rg c b.length) (z08 φ φ e f (zl b c 0) g)))
def zc1(φ:Nat)(a:zi)(b:zu)(c:Int):Option ((List Int)×Unit):=(ck (zd (a.places.length:Int) 8) (ck (zd (((List.replicate ((a.places.length:Int):Int).toNat (default:Int)).length:Int)) 1) (z3k φ φ c (((List.replicate ((a.places.length:Int):Int).toNat (default:Int)).length:Int)) 0 a b (List.replicate ((a.places.length:Int):Int).toNat (default:Int)) ((List.replicate (((List.replicate ((a.places.length:Int):Int).toNat (default:Int)).length:Int):Int).toNat (default:Bool))))))
def zdx(φ:Nat):Fsp TV:=⟨[5,34,0],[.val 22],kk3 (zc1 φ)⟩
def z05(φ:Nat)(d:zi)(e a:Int):Option (Int×Int×Unit):=((z4c φ d ([e,a])).bind λb=>(if(b.2.1 !=0)=true then(some (0,b.2.1,())) else((zc1 φ d b.1 e).bind λc=>(ck (rg a c.1.length) (if(decide (((gt c.1 a):Int)<0))=true then(some (0,80,())) else(some ((gt c.1 a),0,())))))))
def z9x(φ:Nat):Fsp TV:=⟨[5,0,0],[.val 0,.val 0],kk3 (z05 φ)⟩
def zmr(φ:Nat)(a:Wash)(b c:Int):Option (Bool×Unit):=(some ((((a.from_:Int)==b)&&((a.to:Int)==c)),()))
def zcz(φ:Nat):Csp TV:=⟨[13],[.b (.val 0),.b (.val 0)],[.val 27],λz b=>zmr φ z.1 b.1 b.2.1⟩
def z50(φ:Nat):Nat->(List Wash)->Int->Int->Int->Int->z1w->Option (Int×Int×Unit)
 |0,_,_,_,_,_,_=>none
 |g+1,b,d,a,e,f,c=>(if(decide (a<d))=true then(ck (rg a b.length) ((zmr φ (gt b a) e f).bind λh=>(if h.1=true then(if(decide (a<0))=true then(some (0,0,())) else(ck (rg a c.washes.length) (some ((gt c.washes a).minutes,0,())))) else((z50 φ g) b d (W (a+1)) e f c)))) else(some (0,0,())))
def zcx(φ:Nat)(a:z1w)(b c:Int):Option (Int×Int×Unit):=((z9p φ a).bind λd=>(if(d.1 !=0)=true then(some (0,d.1,())) else((zt φ b 0 63).bind λe=>((zn (default,()) ((!e.1)=false) (zt φ c 0 63)).bind λf=>(if((!e.1)||(!f.1))=true then(some (0,1,())) else(z50 φ φ a.washes (a.washes.length:Int) 0 b c a))))))
def zh2(φ:Nat):Fsp TV:=⟨[15,0,0],[.val 0,.val 0],kk3 (zcx φ)⟩
def z2l(φ:Nat)(d :(Int->Bool->z1w->(Nat->Int)->Option ((List Swap)×Int×Unit))):Nat->Int->Bool->(List Swap)->Int->Int->z1w->(Nat->Int)->Option ((List Swap)×Int×Unit)
 |0,_,_,_,_,_,_,_=>none
 |h+1,e,i,b,f,a,g,c=>(if(decide (a<f))=true then(ck (rg a b.length) (ck (rg (gt b a).wanted 32) (ck (rg (gt b a).wanted 32) (ck (((decide ((0:Int)<=(c (((gt b a).wanted:Int).toNat))))=true)->rg (gt b a).given 32) (ck (((decide ((0:Int)<=(c (((gt b a).wanted:Int).toNat))))=true/\(decide (((c (((gt b a).given:Int).toNat)):Int)<0))=false)->rg (gt b a).given 32) (if((decide ((0:Int)<=(c (((gt b a).wanted:Int).toNat))))&&((decide (((c (((gt b a).given:Int).toNat)):Int)<0))||(decide (((W ((c (((gt b a).wanted:Int).toNat))+(gt b a).cost)):Int)<(c (((gt b a).given:Int).toNat))))))=true then(ck (rg (gt b a).given 32) ((z2l φ d h) e true b f (W (a+1)) g ((upd c (((gt b a).given:Int).toNat) ((W ((c (((gt b a).wanted:Int).toNat))+(gt b a).cost))))))) else((z2l φ d h) e i b f (W (a+1)) g c))))))) else(d e i g c))
def z2m(φ:Nat):Nat->Int->Int->Int->(Nat->Int)->(List Swap)->Option ((List Swap)×Int×Unit)
 |0,_,_,_,_,_=>none
 |f+1,c,e,a,b,d=>(if(decide (a<e))=true then(ck (rg a 32) (if(decide ((0:Int)<=(b (a.toNat))))=true then(ck (rg a 32) (ck (fits (d.length+([(⟨c,a,b (a.toNat)⟩:Swap)]).length) 24) ((z2m φ f) c e (W (a+1)) b ((d++[(⟨c,a,b (a.toNat)⟩:Swap)]))))) else((z2m φ f) c e (W (a+1)) b d))) else(some (d,0,())))
def z2k(φ:Nat):Nat->Int->Bool->z1w->(Nat->Int)->Option ((List Swap)×Int×Unit)
 |0,_,_,_,_=>none
 |d+1,b,e,a,c=>(if e=true then(z2l φ (z2k φ d) φ b false a.swaps (a.swaps.length:Int) 0 a c) else(z2m φ φ b (a.types.length:Int) 0 c ([]:List Swap)))
def z5t(φ:Nat):Nat->Int->Int->z1w->(Nat->Int)->Option ((List Swap)×Int×Unit)
 |0,_,_,_,_=>none
 |e+1,a,b,c,d=>(if(decide (b<32))=true then(ck (rg b 32) ((z5t φ e) a (W (b+1)) c (upd d (b.toNat) (-1)))) else(ck (rg a 32) (z2k φ φ a true c (upd d (a.toNat) 0))))
def zh3(φ:Nat)(a:z1w)(b:Int):Option ((List Swap)×Int×Unit):=((z9p φ a).bind λc=>(if(c.1 !=0)=true then(some (([]:List Swap),c.1,())) else((zt φ b 0 (W ((a.types.length:Int)-1))).bind λd=>(if(!d.1)=true then(some (([]:List Swap),90,())) else(z5t φ φ b 0 a (λ_=>(default:Int)))))))
def zh5(φ:Nat):Fsp TV:=⟨[15,0],[.val 12,.val 0],kk2 (zh3 φ)⟩
def zjf(φ:Nat)(a:Swap)(b:za):Option (Bool×Unit):=(some (((a.given:Int)==b.type_),()))
def z9o(φ:Nat):Csp TV:=⟨[11],[.b (.val 29)],[.val 27],λz b=>zjf φ z.1 b.1⟩
def z3h(φ:Nat):Nat->(List Swap)->Int->Int->Int->(List Swap)->za->zf->Option (Int×Bool×Unit)
 |0,_,_,_,_,_,_,_=>none
 |h+1,f,g,a,b,c,d,e=>(if(decide (a<g))=true then(ck (rg a f.length) ((zjf φ (gt f a) d).bind λi=>(if i.1=true then(ck ((((decide (a<0))||(decide ((e.to:Int)<(W (d.at_+b)))))=false)->rg a c.length) (if(((decide (a<0))||(decide ((e.to:Int)<(W (d.at_+b)))))||(decide ((1000000000:Int)<(W (b+(gt c a).cost)))))=true then(some (0,false,())) else(ck (rg a c.length) (some ((W (b+(gt c a).cost)),true,()))))) else((z3h φ h) f g (W (a+1)) b c d e)))) else(ck (((true||(decide ((e.to:Int)<(W (d.at_+b)))))=false)->rg (-1) c.length) (if((true||(decide ((e.to:Int)<(W (d.at_+b)))))||(decide ((1000000000:Int)<(W (b+(gt c (-1)).cost)))))=true then(some (0,false,())) else(ck (rg (-1) c.length) (some ((W (b+(gt c (-1)).cost)),true,()))))))
def z1q(φ:Nat)(c:Int)(d:Pool)(e:za)(b:zf):Option (Int×Bool×Unit):=((zh3 φ d.fleet b.type_).bind λa=>(z3h φ φ a.1 (a.1.length:Int) 0 c a.1 e b))
def z1g(φ:Nat)(b:Pool)(a:za)(c:zf):Option (Int×Bool×Unit):=((z05 φ b.network a.place c.place).bind λd=>(ck (((d.2.1 !=0)=false)->rg a.type_ b.fleet.types.length) (ck (((d.2.1 !=0)=false)->0<=c.class_) (if((d.2.1 !=0)||(((U ((BitVec.ofInt 64 (((gt b.fleet.types a.type_).classes:Int).fdiv (2 ^ (min (c.class_:Int).toNat 64)))&&& BitVec.ofInt 64 1).toNat)):Int)==0))=true then(some (0,false,())) else(if(decide ((0:Int)<=a.class_))=true then((zcx φ b.fleet a.class_ c.class_).bind λe=>(z1q φ (W (d.1+e.1)) b a c)) else(z1q φ d.1 b a c))))))
def z6i(φ:Nat):Fsp TV:=⟨[26,29,30],[.val 0,.val 27],kk3 (z1g φ)⟩
def zpc(φ:Nat)(a:Pool)(b:za)(c:zf):Option (Int×Bool×Int×Unit):=((z1h φ a).bind λd=>(if(d.1 !=0)=true then(some (0,false,d.1,())) else((z2b φ a b).bind λe=>((zn (default,()) ((!e.1)=false) (z34 φ a c)).bind λg=>(if((!e.1)||(!g.1))=true then(some (0,false,1,())) else((z1g φ a b c).bind λf=>(some (f.1,f.2.1,0,()))))))))
def zez(φ:Nat):Fsp TV:=⟨[26,29,30],[.val 0,.val 27,.val 0],kk3 (zpc φ)⟩
def zd7(φ:Nat)(c d e b:Int):Option (Bool×Unit):=((zcl φ).bind λf=>((zpc φ f.1 (⟨c,1,0,100,1⟩:za) (⟨d,2,1,0,e,1,0⟩:zf)).bind λa=>(some ((((a.2.2.1==0)&&(a.2.1==(decide ((0:Int)<=b))))&&(a.1==(max2 0 b))),()))))
def zhe(φ:Nat):Fsp TV:=⟨[0,0,0,0],[.val 27],kk4 (zd7 φ)⟩
def z0x(φ:Nat)(b :(List Int))(a :(List Arc)):Option (zc×Int×Unit):=(if(decide ((2048:Int)<(a.length:Int)))=true then(some ((⟨([]:List Int),([]:List Arc)⟩:zc),2,())) else(some ((⟨b,a⟩:zc),0,())))
def z0w(φ:Nat)(j :(Int->Int->(List za)->Int->Int->(List za)->(List zf)->Pool->(List Int)->(List Arc)->Option (zc×Int×Unit))):Nat->Int->Int->Int->(List za)->Int->Int->(List zf)->Int->Int->(List za)->(List zf)->Pool->za->(List Int)->(List Arc)->Option (zc×Int×Unit)
 |0,_,_,_,_,_,_,_,_,_,_,_,_,_,_,_=>none
 |r+1,k,l,e,m,n,o,b,p,a,c,q,g,d,h,f=>(if(decide (a<p))=true then(ck (rg a b.length) ((z1g φ g d (gt b a)).bind λi=>(if i.2.1=true then(ck (fits (f.length+([(⟨e,W ((c.length:Int)+a),min2 d.count ((gt b a).count),i.1⟩:Arc)]).length) 32) (if(!true)=true then(z0x φ h ((f++[(⟨e,W ((c.length:Int)+a),min2 d.count ((gt b a).count),i.1⟩:Arc)]))) else((z0w φ j r) k l e m n o b p (W (a+1)) c q g d h ((f++[(⟨e,W ((c.length:Int)+a),min2 d.count ((gt b a).count),i.1⟩:Arc)]))))) else((z0w φ j r) k l e m n o b p (W (a+1)) c q g d h f)))) else(j k l m n (W (o+1)) c q g h f))
def z1f(φ:Nat):Nat->Int->Int->(List za)->Int->Int->(List Int)->(List Arc)->Option (zc×Int×Unit)
 |0,_,_,_,_,_,_,_=>none
 |h+1,b,e,c,g,a,f,d=>(if(decide (a<g))=true then(ck (rg a c.length) (ck (fits (d.length+([(⟨a,W (b+1),(gt c a).count,0⟩:Arc)]).length) 32) (if(!true)=true then(z0x φ f (d++[(⟨a,W (b+1),(gt c a).count,0⟩:Arc)])) else((z1f φ h) b e c g (W (a+1)) f (d++[(⟨a,W (b+1),(gt c a).count,0⟩:Arc)]))))) else(ck (fits (d.length+([(⟨b,W (b+1),e,0⟩:Arc)]).length) 32) (z0x φ f (d++[(⟨b,W (b+1),e,0⟩:Arc)]))))
def z0r(φ:Nat):Nat->Int->Int->(List zf)->Int->Int->(List za)->(List Int)->(List Arc)->Option (zc×Int×Unit)
 |0,_,_,_,_,_,_,_,_=>none
 |i+1,d,g,b,h,a,c,f,e=>(if(decide (a<h))=true then(ck (rg a b.length) (ck (fits (e.length+([(⟨d,W ((c.length:Int)+a),(gt b a).count,(gt b a).weight⟩:Arc)]).length) 32) (if(!true)=true then(z0x φ f ((e++[(⟨d,W ((c.length:Int)+a),(gt b a).count,(gt b a).weight⟩:Arc)]))) else((z0r φ i) d (W (g+(gt b a).count)) b h (W (a+1)) c f ((e++[(⟨d,W ((c.length:Int)+a),(gt b a).count,(gt b a).weight⟩:Arc)])))))) else(z1f φ φ d g c (c.length:Int) 0 f e))
def z1e(φ:Nat):Nat->Int->Int->(List za)->Int->Int->(List za)->(List zf)->Pool->(List Int)->(List Arc)->Option (zc×Int×Unit)
 |0,_,_,_,_,_,_,_,_,_,_=>none
 |j+1,d,e,c,f,a,g,b,k,h,i=>(if(decide (a<f))=true then(ck (rg a c.length) (z0w φ (z1e φ j) φ d e a c f a b (b.length:Int) 0 g b k (gt c a) h i)) else(z0r φ φ d e b (b.length:Int) 0 g h i))
def z1d(φ:Nat):Nat->(List za)->(List zf)->Int->Int->(List zf)->Int->Int->Pool->(List Int)->(List Arc)->Option (zc×Int×Unit)
 |0,_,_,_,_,_,_,_,_,_,_=>none
 |k+1,c,g,e,f,b,i,a,h,d,j=>(if(decide (a<i))=true then(ck (rg a b.length) ((z34 φ h (gt b a)).bind λl=>(if(!l.1)=true then(some ((⟨([]:List Int),([]:List Arc)⟩:zc),1,())) else(ck (fits (d.length+([(W (0-(gt b a).count))]).length) 8) ((z1d φ k) c g e (W (f+(gt b a).count)) b i (W (a+1)) h ((d++[(W (0-(gt b a).count))])) j))))) else(ck (fits (d.length+([f,(W (0-e))]).length) 8) (if(decide ((256:Int)<((d++[f,(W (0-e))]).length:Int)))=true then(some ((⟨([]:List Int),([]:List Arc)⟩:zc),2,())) else(z1e φ φ (W ((c.length:Int)+(g.length:Int))) 0 c (c.length:Int) 0 c g h (d++[f,(W (0-e))]) j))))
def z2i(φ:Nat):Nat->(List za)->(List zf)->Int->Int->(List za)->Int->Int->Pool->(List Int)->(List Arc)->Option (zc×Int×Unit)
 |0,_,_,_,_,_,_,_,_,_,_=>none
 |k+1,f,c,g,h,b,i,a,d,e,j=>(if(decide (a<i))=true then(ck (rg a b.length) ((z2b φ d (gt b a)).bind λl=>(if(!l.1)=true then(some ((⟨([]:List Int),([]:List Arc)⟩:zc),1,())) else(ck (fits (e.length+([(gt b a).count]).length) 8) ((z2i φ k) f c (W (g+(gt b a).count)) h b i (W (a+1)) d (e++[(gt b a).count]) j))))) else(z1d φ φ f c g h c (c.length:Int) 0 d e j))
def z80(φ:Nat)(b:Pool)(a :(List za))(d :(List zf)):Option (zc×Int×Unit):=((z1h φ b).bind λc=>(if(c.1 !=0)=true then(some ((⟨([]:List Int),([]:List Arc)⟩:zc),c.1,())) else(z2i φ φ a d 0 0 a (a.length:Int) 0 b ([]:List Int) ([]:List Arc))))
def zgw(φ:Nat):Fsp TV:=⟨[26,36,37],[.val 40,.val 0],kk3 (z80 φ)⟩
def z4a(φ:Nat)(a b c:Int):Option (Bool×Unit):=(some (((decide (b<=a))&&(decide (a<=c))),()))
def z7j(φ:Nat):Fsp TV:=⟨[0,0,0],[.val 27],kk3 (z4a φ)⟩
def z3c(φ:Nat):Nat->Int->(List Arc)->Int->Int->zc->Option (Int×Unit)
 |0,_,_,_,_,_=>none
 |i+1,f,b,g,a,d=>(if(decide (a<g))=true then(ck (rg a b.length) ((z4a φ ((gt b a).from_) 0 (W ((d.supply.length:Int)-1))).bind λc=>((zn (default,()) ((!c.1)=false) (z4a φ ((gt b a).to) 0 (W ((d.supply.length:Int)-1)))).bind λe=>((zn (default,()) ((((!c.1)||(!e.1))||(((gt b a).from_:Int)==(gt b a).to))=false) (z4a φ ((gt b a).cap) 0 1000000000)).bind λh=>((zn (default,()) (((((!c.1)||(!e.1))||(((gt b a).from_:Int)==(gt b a).to))||(!h.1))=false) (z4a φ ((gt b a).cost) 0 1000000000)).bind λj=>(if(((((!c.1)||(!e.1))||(((gt b a).from_:Int)==(gt b a).to))||(!h.1))||(!j.1))=true then(some (1,())) else((z3c φ i) f b g (W (a+1)) d))))))) else(if(f !=0)=true then(some (360,())) else(some (0,()))))
def z71(φ:Nat):Nat->Int->(List Int)->Int->Int->zc->Option (Int×Unit)
 |0,_,_,_,_,_=>none
 |f+1,d,b,e,a,c=>(if(decide (a<e))=true then(ck (rg a b.length) ((z4a φ (gt b a) (-1000000000) 1000000000).bind λg=>(if(!g.1)=true then(some (1,())) else((z71 φ f) (W (d+(gt b a))) b e (W (a+1)) c)))) else(z3c φ φ d c.arcs (c.arcs.length:Int) 0 c))
def zck(φ:Nat)(a:zc):Option (Int×Unit):=(if((decide ((256:Int)<(a.supply.length:Int)))||(decide ((2048:Int)<(a.arcs.length:Int))))=true then(some (2,())) else(z71 φ φ 0 a.supply (a.supply.length:Int) 0 a))
def zav(φ:Nat):Fsp TV:=⟨[40],[.val 0],λz=>zck φ z.1⟩
def zf8(φ:Nat)(a:Bool)(d :(List Int))(e :(List Arc))(f g b h c :(List Int))(i j :(List (List Int))):Option (Flow×Int×Unit):=(if a=true then(some ((⟨([]:List Int),([]:List Int)⟩:Flow),360,())) else(some ((⟨b,c⟩:Flow),0,())))
def zf6(φ:Nat):Nat->Int->Int->(List Int)->(List Int)->(List Arc)->(List Int)->(List Int)->(List Int)->(List Int)->(List (List Int))->(List (List Int))->Option (Flow×Int×Unit)
 |0,_,_,_,_,_,_,_,_,_,_,_=>none
 |l+1,k,b,a,c,d,e,f,g,h,i,j=>(if(decide (b<k))=true then(ck (rg b a.length) (if(((gt a b):Int) !=0)=true then(zf8 φ (!false) c d e f g a h i j) else((zf6 φ l) k (W (b+1)) a c d e f g h i j))) else(zf8 φ (!true) c d e f g a h i j))
def zf9(φ:Nat)(j :((List Int)->(List Arc)->(List Int)->(List Int)->(List Int)->(List (List Int))->(List (List Int))->(List Int)->(List Int)->Option (Flow×Int×Unit)))(k:Bool)(b :(List Int))(c :(List Arc))(d a e :(List Int))(f g :(List (List Int)))(h i :(List Int)):Option (Flow×Int×Unit):=(if k=true then(j b c d a e f g h i) else(zf6 φ φ (a.length:Int) 0 a b c h i d e f g))
def zd4(φ:Nat)(c :(Int->Int->(List Int)->(List Arc)->(List Int)->(List zk)->(List Int)->(List Int)->(List Int)->(List (List Int))->(List (List Int))->(List Int)->(List Int)->Option (Flow×Int×Unit)))(d b:Int)(e :(List Int))(f :(List Arc))(a :(List Int))(g :(List zk))(h i j :(List Int))(k l :(List (List Int)))(m n :(List Int)):Option (Flow×Int×Unit):=(ck (rg b a.length) (c d (gt a b) e f a g h i j k l m n))
def z8i(φ:Nat)(g :((List Int)->(List Arc)->(List Int)->(List Int)->(List Int)->(List (List Int))->(List (List Int))->(List Int)->(List Int)->Option (Flow×Int×Unit))):Nat->Int->Int->(List Int)->(List Arc)->(List Int)->(List zk)->(List Int)->(List Int)->(List Int)->(List (List Int))->(List (List Int))->(List Int)->(List Int)->Option (Flow×Int×Unit)
 |0,_,_,_,_,_,_,_,_,_,_,_,_,_=>none
 |o+1,f,a,h,c,e,b,d,i,j,k,l,m,n=>(ck (rg a e.length) (if(decide ((0:Int)<=(gt e a)))=true then(ck (rg a b.length) (ck (rg (gt b a).arc c.length) (ck (((((gt c ((gt b a).arc)).to:Int)==a)=true)->rg (gt b a).arc c.length) (ck (((((gt c ((gt b a).arc)).to:Int)==a)=true)->rg a e.length) (if((((gt c ((gt b a).arc)).to:Int)==a)&&(((gt c ((gt b a).arc)).from_:Int)==(gt e a)))=true then(ck (rg (gt b a).arc d.length) (ck (rg (gt b a).arc d.length) (zd4 φ (z8i φ g o) f a h c e b ((zl d ((gt b a).arc) ((W ((gt d ((gt b a).arc))+f))))) i j k l m n))) else(ck (rg (gt b a).arc d.length) (ck (rg (gt b a).arc d.length) (zd4 φ (z8i φ g o) f a h c e b ((zl d ((gt b a).arc) ((W ((gt d ((gt b a).arc))-f))))) i j k l m n)))))))) else(zf9 φ g true h c d i j k l m n)))
def zd3(φ:Nat)(g :((List Int)->(List Arc)->(List Int)->(List Int)->(List Int)->(List (List Int))->(List (List Int))->(List Int)->(List Int)->Option (Flow×Int×Unit))):Nat->Int->Int->Int->(List Int)->(List Arc)->(List Int)->(List zk)->(List Int)->(List Int)->(List Int)->(List (List Int))->(List (List Int))->(List Int)->(List Int)->Option (Flow×Int×Unit)
 |0,_,_,_,_,_,_,_,_,_,_,_,_,_,_=>none
 |p+1,d,c,a,h,i,e,f,j,b,k,l,m,n,o=>(ck (rg a e.length) (if(decide ((0:Int)<=(gt e a)))=true then(ck (rg a f.length) (ck (rg a e.length) ((zd3 φ g p) d (min2 c ((gt f a).room)) (gt e a) h i e f j b k l m n o))) else(ck (rg a b.length) (ck (rg a b.length) (ck (rg a b.length) (ck (rg d (((zl b a ((W ((gt b a)-(min2 c (gt b a))))))).length)) (ck (rg d (((zl b a ((W ((gt b a)-(min2 c (gt b a))))))).length)) (z8i φ g φ (min2 c (gt b a)) d h i e f j ((zl ((zl b a ((W ((gt b a)-(min2 c (gt b a))))))) d ((W ((gt ((zl b a ((W ((gt b a)-(min2 c (gt b a))))))) d)+(min2 c (gt b a))))))) k l m n o))))))))
def zd2(φ:Nat)(f :((List Int)->(List Arc)->(List Int)->(List Int)->(List Int)->(List (List Int))->(List (List Int))->(List Int)->(List Int)->Option (Flow×Int×Unit))):Nat->Int->Int->Int->Int->(List Int)->(List Arc)->(List Int)->(List zk)->(List Int)->(List Int)->(List Int)->(List Int)->(List (List Int))->(List (List Int))->(List Int)->(List Int)->Option (Flow×Int×Unit)
 |0,_,_,_,_,_,_,_,_,_,_,_,_,_,_,_,_=>none
 |r+1,b,g,h,a,i,j,k,l,e,m,d,c,n,o,p,q=>(if(decide (a<h))=true then(ck (rg a e.length) (ck (rg a c.length) (ck (rg a c.length) ((zd2 φ f r) b g h (W (a+1)) i j k l e m d ((zl c a ((W ((gt c a)+(min2 (gt e a) g)))))) n o p q)))) else(ck (rg b d.length) (zd3 φ f φ b (W (0-(gt d b))) b i j k l m d c n o p q)))
def z6j(φ:Nat)(e :((List Int)->(List Arc)->(List Int)->(List Int)->(List Int)->(List (List Int))->(List (List Int))->(List Int)->(List Int)->Option (Flow×Int×Unit))):Nat->Int->Int->Int->Int->(List Int)->(List Arc)->(List Int)->(List Int)->(List zk)->(List Int)->(List Int)->(List Int)->(List (List Int))->(List (List Int))->(List Int)->(List Int)->Option (Flow×Int×Unit)
 |0,_,_,_,_,_,_,_,_,_,_,_,_,_,_,_,_=>none
 |r+1,c,n,o,a,f,g,b,p,q,h,d,i,j,k,l,m=>(if(decide (a<o))=true then(ck (rg a b.length) (if(decide (((gt b a):Int)<1152921504606846976))=true then(ck (rg a d.length) (ck (((decide (((gt d a):Int)<0))=true/\(decide (c<0))=false)->rg c b.length) (if((decide (((gt d a):Int)<0))&&((decide (c<0))||(decide (((gt b a):Int)<(gt b c)))))=true then((z6j φ e r) a (max2 n (gt b a)) o (W (a+1)) f g b p q h d i j k l m) else((z6j φ e r) c (max2 n (gt b a)) o (W (a+1)) f g b p q h d i j k l m)))) else((z6j φ e r) c n o (W (a+1)) f g b p q h d i j k l m))) else(if(decide (c<0))=true then(zf9 φ e false f g h d i j k l m) else(zd2 φ e φ c n (b.length:Int) 0 f g p q b h d i j k l m)))
def z0z(φ:Nat)(b :((List Int)->(List Arc)->(List Int)->(List Int)->(List Int)->(List (List Int))->(List (List Int))->(List Int)->(List Int)->Option (Flow×Int×Unit)))(c :(List Int))(d :(List Arc))(a e :(List Int))(f :(List zk))(g h i :(List Int))(j k :(List (List Int)))(l m :(List Int)):Option (Flow×Int×Unit):=(z6j φ b φ (-1) 0 (a.length:Int) 0 c d a e f g h i j k l m)
def z8j(φ:Nat)(a :((List Int)->(List Arc)->(List Int)->(List Int)->(List Int)->(List (List Int))->(List (List Int))->(List Int)->(List Int)->Option (Flow×Int×Unit)))(b :(List Int))(c :(List Arc))(d e :(List Int))(f :(List zk))(g h i :(List Int))(j k :(List (List Int)))(l m :(List Int)):Option (Flow×Int×Unit):=(z0z φ a b c d e f g h i j k l m)
def zbi(φ:Nat)(a :((List Int)->(List Arc)->(List Int)->(List Int)->(List Int)->(List (List Int))->(List (List Int))->(List Int)->(List Int)->Option (Flow×Int×Unit)))(b :(List Int))(c :(List Arc))(d e :(List Int))(f :(List zk))(g h i :(List Int))(j k :(List (List Int)))(l m :(List Int)):Option (List (Option (Flow×Int×Unit))):=(catL [(catL [(catL [(some [(z0z φ a b c d e f g h i j k l m)])]),(catL [(catL [(some [(z0z φ a b c d e f g h i j k l m)])]),(catL [(catL [(some [(z0z φ a b c d e f g h i j k l m)])])])])]),(catL [(catL [(some [(z0z φ a b c d e f g h i j k l m)])]),(catL [(catL [(some [(z0z φ a b c d e f g h i j k l m)])])])]),(catL [(catL [(catL [(some [(z0z φ a b c d e f g h i j k l m)])]),(catL [(catL [(some [(z0z φ a b c d e f g h i j k l m)])])])]),(catL [(catL [(some [(z0z φ a b c d e f g h i j k l m)])])])])])
def z6l(φ:Nat)(k :(Int->(List Int)->(List Arc)->(List Bool)->(List Int)->(List Int)->(List Int)->(List (List Int))->(List (List Int))->(List Int)->(List Int)->(List zk)->(List Int)->(List Int)->Option (Flow×Int×Unit))):Nat->Int->Int->Int->Int->(List Int)->(List Int)->(List Arc)->(List Bool)->Int->(List Int)->(List Int)->(List Int)->(List (List Int))->(List (List Int))->Int->(List Int)->(List Int)->(List zk)->(List Int)->(List Int)->Option (Flow×Int×Unit)
 |0,_,_,_,_,_,_,_,_,_,_,_,_,_,_,_,_,_,_,_,_=>none
 |v+1,u,b,l,g,a,m,c,n,h,e,o,d,p,q,r,f,i,j,s,t=>(if(decide (b<u))=true then(ck (rg b a.length) (ck (rg (gt a b) c.length) (ck (rg (gt a b) e.length) (ck (((decide ((0:Int)<(gt e (gt a b))))=true)->rg g d.length) (ck (((decide ((0:Int)<(gt e (gt a b))))=true)->rg (gt c (gt a b)).from_ d.length) (ck (((decide ((0:Int)<(gt e (gt a b))))=true)->rg (gt a b) e.length) (if(decide ((0:Int)<(gt e (gt a b))))=true then(ck (rg h f.length) (ck (rg (gt c (gt a b)).from_ f.length) (if(decide (((W ((gt f h)+(W ((W ((gt d g)-(gt c (gt a b)).cost))-(gt d ((gt c (gt a b)).from_)))))):Int)<(gt f ((gt c (gt a b)).from_))))=true then(ck (rg (gt c (gt a b)).from_ f.length) (ck (rg (gt c (gt a b)).from_ i.length) (ck (rg (gt c (gt a b)).from_ j.length) (if(!true)=true then(k l m c n e o d p (zl q r a) ((zl f ((gt c (gt a b)).from_) ((W ((gt f h)+(W ((W ((gt d g)-(gt c (gt a b)).cost))-(gt d ((gt c (gt a b)).from_))))))))) ((zl i ((gt c (gt a b)).from_) h)) ((zl j ((gt c (gt a b)).from_) (((⟨gt a b,(gt c (gt a b)).from_,W ((W ((gt d g)-(gt c (gt a b)).cost))-(gt d ((gt c (gt a b)).from_))),gt e (gt a b)⟩:zk))))) s t) else((z6l φ k v) u (W (b+1)) l g a m c n h e o d p q r ((zl f ((gt c (gt a b)).from_) ((W ((gt f h)+(W ((W ((gt d g)-(gt c (gt a b)).cost))-(gt d ((gt c (gt a b)).from_))))))))) ((zl i ((gt c (gt a b)).from_) h)) ((zl j ((gt c (gt a b)).from_) (((⟨gt a b,(gt c (gt a b)).from_,W ((W ((gt d g)-(gt c (gt a b)).cost))-(gt d ((gt c (gt a b)).from_))),gt e (gt a b)⟩:zk))))) s t))))) else(if(!true)=true then(k l m c n e o d p (zl q r a) f i j s t) else((z6l φ k v) u (W (b+1)) l g a m c n h e o d p q r f i j s t))))) else((z6l φ k v) u (W (b+1)) l g a m c n h e o d p q r f i j s t)))))))) else(k l m c n e o d p (zl q r a) f i j s t))
def z6k(φ:Nat)(l :(Int->(List Int)->(List Arc)->(List Bool)->(List Int)->(List Int)->(List Int)->(List (List Int))->(List (List Int))->(List Int)->(List Int)->(List zk)->(List Int)->(List Int)->Option (Flow×Int×Unit))):Nat->Int->Int->Int->Int->(List Int)->(List Int)->(List Arc)->(List Bool)->Int->(List Int)->(List Int)->(List Int)->(List (List Int))->Int->(List (List Int))->(List Int)->(List Int)->(List zk)->(List Int)->(List Int)->Option (Flow×Int×Unit)
 |0,_,_,_,_,_,_,_,_,_,_,_,_,_,_,_,_,_,_,_,_=>none
 |v+1,u,b,m,e,a,n,c,o,h,g,p,d,q,r,i,f,j,k,s,t=>(if(decide (b<u))=true then(ck (rg b a.length) (ck (rg (gt a b) c.length) (ck (rg (gt a b) g.length) (ck (((decide ((0:Int)<(W ((gt c (gt a b)).cap-(gt g (gt a b))))))=true)->rg e d.length) (ck (((decide ((0:Int)<(W ((gt c (gt a b)).cap-(gt g (gt a b))))))=true)->rg (gt c (gt a b)).to d.length) (if(decide ((0:Int)<(W ((gt c (gt a b)).cap-(gt g (gt a b))))))=true then(ck (rg h f.length) (ck (rg (gt c (gt a b)).to f.length) (if(decide (((W ((gt f h)+(W ((W ((gt c (gt a b)).cost+(gt d e)))-(gt d ((gt c (gt a b)).to)))))):Int)<(gt f ((gt c (gt a b)).to))))=true then(ck (rg (gt c (gt a b)).to f.length) (ck (rg (gt c (gt a b)).to j.length) (ck (rg (gt c (gt a b)).to k.length) (if(!true)=true then(l m n c o g p d (zl q r a) i ((zl f ((gt c (gt a b)).to) ((W ((gt f h)+(W ((W ((gt c (gt a b)).cost+(gt d e)))-(gt d ((gt c (gt a b)).to))))))))) ((zl j ((gt c (gt a b)).to) h)) ((zl k ((gt c (gt a b)).to) (((⟨gt a b,(gt c (gt a b)).to,W ((W ((gt c (gt a b)).cost+(gt d e)))-(gt d ((gt c (gt a b)).to))),W ((gt c (gt a b)).cap-(gt g (gt a b)))⟩:zk))))) s t) else((z6k φ l v) u (W (b+1)) m e a n c o h g p d q r i ((zl f ((gt c (gt a b)).to) ((W ((gt f h)+(W ((W ((gt c (gt a b)).cost+(gt d e)))-(gt d ((gt c (gt a b)).to))))))))) ((zl j ((gt c (gt a b)).to) h)) ((zl k ((gt c (gt a b)).to) (((⟨gt a b,(gt c (gt a b)).to,W ((W ((gt c (gt a b)).cost+(gt d e)))-(gt d ((gt c (gt a b)).to))),W ((gt c (gt a b)).cap-(gt g (gt a b)))⟩:zk))))) s t))))) else(if(!true)=true then(l m n c o g p d (zl q r a) i f j k s t) else((z6k φ l v) u (W (b+1)) m e a n c o h g p d q r i f j k s t))))) else((z6k φ l v) u (W (b+1)) m e a n c o h g p d q r i f j k s t))))))) else(ck (rg e i.length) (ck (rg e i.length) (ck (e=e) (z6l φ l φ ((gt i e).length:Int) 0 m e (gt i e) n c o h g p d (zl q r a) i e f j k s t)))))
def z8h(φ:Nat)(p :((List Int)->(List Arc)->(List Int)->(List Int)->(List Int)->(List (List Int))->(List (List Int))->(List Int)->(List Int)->Option (Flow×Int×Unit)))(q :(Int->(List Int)->(List Arc)->(List Bool)->(List Int)->(List Int)->(List Int)->(List (List Int))->(List (List Int))->(List Int)->(List Int)->(List zk)->(List Int)->(List Int)->Option (Flow×Int×Unit))):Nat->Int->Int->Int->(List Int)->(List Arc)->(List Bool)->Int->(List Int)->(List Int)->(List Int)->(List (List Int))->(List (List Int))->(List Int)->(List Int)->(List zk)->(List Int)->(List Int)->Option (Flow×Int×Unit)
 |0,_,_,_,_,_,_,_,_,_,_,_,_,_,_,_,_,_=>none
 |t+1,r,s,b,f,g,d,a,h,i,j,e,k,c,l,m,n,o=>(if(decide (b<s))=true then(ck (rg b d.length) (ck (((!(gt d b))=true)->rg b c.length) (ck ((((!(gt d b))&&(decide (((gt c b):Int)<1152921504606846976)))=true/\(decide (a<0))=false)->rg b c.length) (ck ((((!(gt d b))&&(decide (((gt c b):Int)<1152921504606846976)))=true/\(decide (a<0))=false)->rg a c.length) (if(((!(gt d b))&&(decide (((gt c b):Int)<1152921504606846976)))&&((decide (a<0))||(decide (((gt c b):Int)<(gt c a)))))=true then((z8h φ p q t) r s (W (b+1)) f g d b h i j e k c l m n o) else((z8h φ p q t) r s (W (b+1)) f g d a h i j e k c l m n o)))))) else(if(decide (a<0))=true then(z8j φ p f g c l m h i j e k n o) else(ck (rg a d.length) (ck (rg a e.length) (ck (rg a e.length) (ck (a=a) (z6k φ q φ ((gt e a).length:Int) 0 r a (gt e a) f g (zl d a true) a h i j e a k c l m n o)))))))
def zd1(φ:Nat)(a :((List Int)->(List Arc)->(List Int)->(List Int)->(List Int)->(List (List Int))->(List (List Int))->(List Int)->(List Int)->Option (Flow×Int×Unit))):Nat->Int->(List Int)->(List Arc)->(List Bool)->(List Int)->(List Int)->(List Int)->(List (List Int))->(List (List Int))->(List Int)->(List Int)->(List zk)->(List Int)->(List Int)->Option (Flow×Int×Unit)
 |0,_,_,_,_,_,_,_,_,_,_,_,_,_,_=>none
 |c+1,b,d,e,f,g,h,i,j,k,l,m,n,o,p=>(z8h φ a (zd1 φ a c) φ b b 0 d e f (-1) g h i j k l m n o p)
def z8g(φ:Nat)(f :((List Int)->(List Arc)->(List Int)->(List Int)->(List Int)->(List (List Int))->(List (List Int))->(List Int)->(List Int)->Option (Flow×Int×Unit))):Nat->Int->Int->Int->(List Int)->(List Arc)->(List Int)->(List Int)->(List Int)->(List (List Int))->(List (List Int))->(List Int)->(List Int)->(List zk)->(List Int)->(List Int)->Option (Flow×Int×Unit)
 |0,_,_,_,_,_,_,_,_,_,_,_,_,_,_,_=>none
 |q+1,b,g,a,h,i,j,c,k,l,m,d,e,n,o,p=>(if(decide (a<g))=true then(ck (rg a d.length) (ck (rg a e.length) (ck (rg a c.length) (if(decide ((0:Int)<(gt c a)))=true then(ck (rg a (zl d a 1152921504606846976).length) ((z8g φ f q) b g (W (a+1)) h i j c k l m (zl (zl d a 1152921504606846976) a 0) (zl e a (-1)) n o p)) else((z8g φ f q) b g (W (a+1)) h i j c k l m (zl d a 1152921504606846976) (zl e a (-1)) n o p))))) else(ck (zd b 1) (zd1 φ f φ b h i (List.replicate b.toNat (default:Bool)) j c k l m d e n o p)))
def z01(φ:Nat)(b :((List Int)->(List Arc)->(List Int)->(List Int)->(List Int)->(List (List Int))->(List (List Int))->(List Int)->(List Int)->Option (Flow×Int×Unit)))(a:Int)(c :(List Int))(d :(List Arc))(e f g :(List Int))(h i :(List (List Int)))(j k :(List Int))(l :(List zk))(m n :(List Int)):Option (Flow×Int×Unit):=(z8g φ b φ a a 0 c d e f g h i j k l m n)
def z8k(φ:Nat)(b :((List Int)->(List Arc)->(List Int)->(List Int)->(List Int)->(List (List Int))->(List (List Int))->(List Int)->(List Int)->Option (Flow×Int×Unit)))(a:Int)(c :(List Int))(d :(List Arc))(e f g :(List Int))(h i :(List (List Int)))(l m :(List Int))(n :(List zk))(j k :(List Int)):Option (Flow×Int×Unit):=(ck (zd a 8) (ck (zd a 8) (ck (zd a 32) (z01 φ b a c d e f g h i (List.replicate a.toNat (default:Int)) (List.replicate a.toNat (default:Int)) (List.replicate a.toNat (default:zk)) j k))))
def zbj(φ:Nat)(b :((List Int)->(List Arc)->(List Int)->(List Int)->(List Int)->(List (List Int))->(List (List Int))->(List Int)->(List Int)->Option (Flow×Int×Unit)))(a:Int)(c :(List Int))(d :(List Arc))(e f g :(List Int))(h i :(List (List Int)))(l m :(List Int))(n :(List zk))(j k :(List Int)):Option (List (Option (Flow×Int×Unit))):=(catL [(ck (zd a 8) (catL [(ck (zd a 8) (catL [(ck (zd a 32) (catL [(some [(z01 φ b a c d e f g h i (List.replicate a.toNat (default:Int)) (List.replicate a.toNat (default:Int)) (List.replicate a.toNat (default:zk)) j k)])])),(catL [(ck (zd a 32) (catL [(some [(z01 φ b a c d e f g h i (List.replicate a.toNat (default:Int)) (List.replicate a.toNat (default:Int)) (List.replicate a.toNat (default:zk)) j k)])])),(catL [(ck (zd a 32) (catL [(some [(z01 φ b a c d e f g h i (List.replicate a.toNat (default:Int)) (List.replicate a.toNat (default:Int)) (List.replicate a.toNat (default:zk)) j k)])]))])])])),(ck (zd a 32) (catL [(ck (zd a 8) (catL [(some [(z01 φ b a c d e f g h i (List.replicate a.toNat (default:Int)) (List.replicate a.toNat (default:Int)) (List.replicate a.toNat (default:zk)) j k)])])),(catL [(ck (zd a 8) (catL [(some [(z01 φ b a c d e f g h i (List.replicate a.toNat (default:Int)) (List.replicate a.toNat (default:Int)) (List.replicate a.toNat (default:zk)) j k)])]))])])),(catL [(ck (zd a 8) (catL [(ck (zd a 32) (catL [(some [(z01 φ b a c d e f g h i (List.replicate a.toNat (default:Int)) (List.replicate a.toNat (default:Int)) (List.replicate a.toNat (default:zk)) j k)])])),(catL [(ck (zd a 32) (catL [(some [(z01 φ b a c d e f g h i (List.replicate a.toNat (default:Int)) (List.replicate a.toNat (default:Int)) (List.replicate a.toNat (default:zk)) j k)])]))])])),(ck (zd a 32) (catL [(ck (zd a 8) (catL [(some [(z01 φ b a c d e f g h i (List.replicate a.toNat (default:Int)) (List.replicate a.toNat (default:Int)) (List.replicate a.toNat (default:zk)) j k)])]))]))])])),(ck (zd a 8) (catL [(ck (zd a 8) (catL [(ck (zd a 32) (catL [(some [(z01 φ b a c d e f g h i (List.replicate a.toNat (default:Int)) (List.replicate a.toNat (default:Int)) (List.replicate a.toNat (default:zk)) j k)])])),(catL [(ck (zd a 32) (catL [(some [(z01 φ b a c d e f g h i (List.replicate a.toNat (default:Int)) (List.replicate a.toNat (default:Int)) (List.replicate a.toNat (default:zk)) j k)])])),(catL [(ck (zd a 32) (catL [(some [(z01 φ b a c d e f g h i (List.replicate a.toNat (default:Int)) (List.replicate a.toNat (default:Int)) (List.replicate a.toNat (default:zk)) j k)])]))])])])),(ck (zd a 32) (catL [(ck (zd a 8) (catL [(some [(z01 φ b a c d e f g h i (List.replicate a.toNat (default:Int)) (List.replicate a.toNat (default:Int)) (List.replicate a.toNat (default:zk)) j k)])]))]))])),(ck (zd a 32) (catL [(ck (zd a 8) (catL [(ck (zd a 8) (catL [(some [(z01 φ b a c d e f g h i (List.replicate a.toNat (default:Int)) (List.replicate a.toNat (default:Int)) (List.replicate a.toNat (default:zk)) j k)])])),(catL [(ck (zd a 8) (catL [(some [(z01 φ b a c d e f g h i (List.replicate a.toNat (default:Int)) (List.replicate a.toNat (default:Int)) (List.replicate a.toNat (default:zk)) j k)])]))])])),(ck (zd a 8) (catL [(ck (zd a 8) (catL [(some [(z01 φ b a c d e f g h i (List.replicate a.toNat (default:Int)) (List.replicate a.toNat (default:Int)) (List.replicate a.toNat (default:zk)) j k)])]))]))]))])
def zf5(φ:Nat):Nat->(List Int)->(List Arc)->(List Int)->(List Int)->(List Int)->(List (List Int))->(List (List Int))->(List Int)->(List Int)->Option (Flow×Int×Unit)
 |0,_,_,_,_,_,_,_,_,_=>none
 |b+1,c,d,e,a,f,g,h,i,j=>(z8k φ (zf5 φ b) (a.length:Int) c d e a f g h ([]:List Int) ([]:List Int) ([]:List zk) i j)
def zf4(φ:Nat):Nat->(List Arc)->Int->Int->(List Int)->(List Arc)->(List Int)->(List Int)->(List Int)->(List (List Int))->(List (List Int))->(List Int)->(List Int)->Option (Flow×Int×Unit)
 |0,_,_,_,_,_,_,_,_,_,_,_,_=>none
 |m+1,b,e,a,f,g,h,i,j,c,d,k,l=>(if(decide (a<e))=true then(ck (rg a b.length) (ck (rg (gt b a).from_ c.length) (ck (rg (gt b a).from_ c.length) (ck (((gt b a).from_:Int) =(gt b a).from_) (ck (fits ((gt c ((gt b a).from_)).length+([a]).length) 8) (ck (rg (gt b a).from_ c.length) (ck (((gt b a).from_:Int) =(gt b a).from_) (ck (rg (gt b a).to d.length) (ck (rg (gt b a).to d.length) (ck (((gt b a).to:Int) =(gt b a).to) (ck (fits ((gt d ((gt b a).to)).length+([a]).length) 8) (ck (rg (gt b a).to d.length) (ck (((gt b a).to:Int) =(gt b a).to) ((zf4 φ m) b e (W (a+1)) f g h i j ((zl c ((gt b a).from_) (((gt c ((gt b a).from_))++[a])))) ((zl d ((gt b a).to) (((gt d ((gt b a).to))++[a])))) k l)))))))))))))) else(zf5 φ φ f g h i j c d k l))
def zf7(φ:Nat)(a:zc)(b :(List Int))(c :(List Arc))(d e f :(List Int))(g h :(List (List Int)))(i j :(List Int)):Option (Flow×Int×Unit):=(zf4 φ φ a.arcs (a.arcs.length:Int) 0 b c d e f g h i j)
def z8l(φ:Nat)(b:Int)(a:zc)(c d :(List Int)):Option (Flow×Int×Unit):=(ck (zd (a.arcs.length:Int) 8) (ck (fits (([]:List Int).length+a.supply.length) 8) (ck (zd b 8) (ck (zd b 24) (ck (zd b 24) (zf7 φ a a.supply a.arcs (List.replicate ((a.arcs.length:Int):Int).toNat (default:Int)) (([]:List Int)++a.supply) (List.replicate b.toNat (default:Int)) (List.replicate b.toNat (default :(List Int))) (List.replicate b.toNat (default :(List Int))) c d))))))
def zb(φ:Nat)(b:Int)(a:zc)(c d :(List Int)):Option (List (Option (Flow×Int×Unit))):=(catL [(some [(zf7 φ a a.supply a.arcs (List.replicate ((a.arcs.length:Int):Int).toNat (default:Int)) (([]:List Int)++a.supply) (List.replicate b.toNat (default:Int)) (List.replicate b.toNat (default :(List Int))) (List.replicate b.toNat (default :(List Int))) c d)])])
def z0g(φ:Nat)(a:Int)(b:zc)(c d :(List Int)):Option (List (Option (Flow×Int×Unit))):=(catL [(ck (zd a 24) (zb φ a b c d))])
def ze(φ:Nat)(b:Int)(a:zc)(c d :(List Int)):Option (List (Option (Flow×Int×Unit))):=(catL [(ck (fits (([]:List Int).length+a.supply.length) 8) (zb φ b a c d))])
def z18(φ:Nat)(a:Int)(b:zc)(c d :(List Int)):Option (List (Option (Flow×Int×Unit))):=(catL [(ck (fits (([]:List Int).length+b.supply.length) 8) (z0g φ a b c d)),(ck (zd a 24) (ze φ a b c d))])
def z72(φ:Nat)(a:Int)(b:zc)(c d :(List Int)):Option (List (Option (Flow×Int×Unit))):=(catL [(ck (zd (b.arcs.length:Int) 8) (catL [(ck (fits (([]:List Int).length+b.supply.length) 8) (catL [(ck (zd a 8) (z0g φ a b c d)),(ck (zd a 24) (catL [(ck (zd a 8) (zb φ a b c d))]))])),(ck (zd a 8) (z18 φ a b c d)),(ck (zd a 24) (catL [(ck (fits (([]:List Int).length+b.supply.length) 8) (catL [(ck (zd a 8) (zb φ a b c d))])),(ck (zd a 8) (ze φ a b c d))]))])),(ck (fits (([]:List Int).length+b.supply.length) 8) (catL [(ck (zd (b.arcs.length:Int) 8) (catL [(ck (zd a 8) (z0g φ a b c d)),(ck (zd a 24) (catL [(ck (zd a 8) (zb φ a b c d))]))])),(ck (zd a 8) (catL [(ck (zd (b.arcs.length:Int) 8) (z0g φ a b c d)),(ck (zd a 24) (catL [(ck (zd (b.arcs.length:Int) 8) (zb φ a b c d))]))])),(ck (zd a 24) (catL [(ck (zd (b.arcs.length:Int) 8) (catL [(ck (zd a 8) (zb φ a b c d))])),(ck (zd a 8) (catL [(ck (zd (b.arcs.length:Int) 8) (zb φ a b c d))]))]))])),(ck (zd a 8) (catL [(ck (zd (b.arcs.length:Int) 8) (z18 φ a b c d)),(ck (fits (([]:List Int).length+b.supply.length) 8) (catL [(ck (zd (b.arcs.length:Int) 8) (z0g φ a b c d)),(ck (zd a 24) (catL [(ck (zd (b.arcs.length:Int) 8) (zb φ a b c d))]))])),(ck (zd a 24) (catL [(ck (zd (b.arcs.length:Int) 8) (ze φ a b c d)),(ck (fits (([]:List Int).length+b.supply.length) 8) (catL [(ck (zd (b.arcs.length:Int) 8) (zb φ a b c d))]))]))])),(ck (zd a 24) (catL [(ck (zd (b.arcs.length:Int) 8) (catL [(ck (fits (([]:List Int).length+b.supply.length) 8) (catL [(ck (zd a 8) (zb φ a b c d))])),(ck (zd a 8) (ze φ a b c d))])),(ck (fits (([]:List Int).length+b.supply.length) 8) (catL [(ck (zd (b.arcs.length:Int) 8) (catL [(ck (zd a 8) (zb φ a b c d))])),(ck (zd a 8) (catL [(ck (zd (b.arcs.length:Int) 8) (zb φ a b c d))]))])),(ck (zd a 8) (catL [(ck (zd (b.arcs.length:Int) 8) (ze φ a b c d)),(ck (fits (([]:List Int).length+b.supply.length) 8) (catL [(ck (zd (b.arcs.length:Int) 8) (zb φ a b c d))]))]))]))])
def z19(φ:Nat)(a:Int)(b:zc)(c d :(List Int)):Option (List (Option (Flow×Int×Unit))):=(catL [(ck (fits (([]:List Int).length+b.supply.length) 8) (catL [(ck (zd a 8) (z0g φ a b c d)),(ck (zd a 24) (catL [(ck (zd a 8) (zb φ a b c d))]))])),(ck (zd a 8) (z18 φ a b c d)),(ck (zd a 24) (catL [(ck (fits (([]:List Int).length+b.supply.length) 8) (catL [(ck (zd a 8) (zb φ a b c d))])),(ck (zd a 8) (ze φ a b c d))]))])
def z09(φ:Nat)(a:Int)(b:zc)(c d :(List Int)):Option (List (Option (Flow×Int×Unit))):=(catL [(z18 φ a b c d),(ck (zd a 24) (catL [(ze φ a b c d)]))])
def z3i(φ:Nat)(b:Int)(a:zc)(c d :(List Int)):Option (List (Option (Flow×Int×Unit))):=(catL [(ck (zd (a.arcs.length:Int) 8) (z18 φ b a c d)),(ck (fits (([]:List Int).length+a.supply.length) 8) (catL [(ck (zd (a.arcs.length:Int) 8) (z0g φ b a c d)),(ck (zd b 24) (catL [(ck (zd (a.arcs.length:Int) 8) (zb φ b a c d))]))])),(ck (zd b 24) (catL [(ck (zd (a.arcs.length:Int) 8) (ze φ b a c d)),(ck (fits (([]:List Int).length+a.supply.length) 8) (catL [(ck (zd (a.arcs.length:Int) 8) (zb φ b a c d))]))]))])
def z9s(φ:Nat)(b:Int)(a:zc)(c d :(List Int)):Option (List (Option (Flow×Int×Unit))):=(ck (zd b 24) (catL [(ck (zd (a.arcs.length:Int) 8) (catL [(z19 φ b a c d),(ck (zd b 8) (z09 φ b a c d)),(ck (zd b 24) (catL [(catL [(ck (fits (([]:List Int).length+a.supply.length) 8) (catL [(ck (zd b 8) (zb φ b a c d))])),(ck (zd b 8) (ze φ b a c d))]),(ck (zd b 8) (catL [(ze φ b a c d)]))]))])),(z72 φ b a c d),(ck (zd b 8) (catL [(ck (zd (a.arcs.length:Int) 8) (z09 φ b a c d)),(z3i φ b a c d),(ck (zd b 24) (catL [(ck (zd (a.arcs.length:Int) 8) (catL [(ze φ b a c d)])),(catL [(ck (zd (a.arcs.length:Int) 8) (ze φ b a c d)),(ck (fits (([]:List Int).length+a.supply.length) 8) (catL [(ck (zd (a.arcs.length:Int) 8) (zb φ b a c d))]))])]))])),(ck (zd b 24) (catL [(ck (zd (a.arcs.length:Int) 8) (catL [(catL [(ck (fits (([]:List Int).length+a.supply.length) 8) (catL [(ck (zd b 8) (zb φ b a c d))])),(ck (zd b 8) (ze φ b a c d))]),(ck (zd b 8) (catL [(ze φ b a c d)]))])),(catL [(ck (zd (a.arcs.length:Int) 8) (catL [(ck (fits (([]:List Int).length+a.supply.length) 8) (catL [(ck (zd b 8) (zb φ b a c d))])),(ck (zd b 8) (ze φ b a c d))])),(ck (fits (([]:List Int).length+a.supply.length) 8) (catL [(ck (zd (a.arcs.length:Int) 8) (catL [(ck (zd b 8) (zb φ b a c d))])),(ck (zd b 8) (catL [(ck (zd (a.arcs.length:Int) 8) (zb φ b a c d))]))])),(ck (zd b 8) (catL [(ck (zd (a.arcs.length:Int) 8) (ze φ b a c d)),(ck (fits (([]:List Int).length+a.supply.length) 8) (catL [(ck (zd (a.arcs.length:Int) 8) (zb φ b a c d))]))]))]),(ck (zd b 8) (catL [(ck (zd (a.arcs.length:Int) 8) (catL [(ze φ b a c d)])),(catL [(ck (zd (a.arcs.length:Int) 8) (ze φ b a c d)),(ck (fits (([]:List Int).length+a.supply.length) 8) (catL [(ck (zd (a.arcs.length:Int) 8) (zb φ b a c d))]))])]))]))]))
def zz(φ:Nat)(a:Int)(b:zc)(c d :(List Int)):Option (List (Option (Flow×Int×Unit))):=(ck (zd a 24) (z0g φ a b c d))
end Px
end
section
set_option maxHeartbeats 4000000
set_option maxRecDepth 100000
namespace Px
open Go Go.RowKit
def z3j(φ:Nat)(a:Int)(b:zc)(c d :(List Int)):Option (List (Option (Flow×Int×Unit))):=(catL [(ck (fits (([]:List Int).length+b.supply.length) 8) (catL [(zz φ a b c d),(zz φ a b c d)])),(ck (zd a 24) (z18 φ a b c d)),(ck (zd a 24) (z18 φ a b c d))])
def z1j(φ:Nat)(b:Int)(a:zc)(c d :(List Int)):Option (List (Option (Flow×Int×Unit))):=(catL [(ck (zd (a.arcs.length:Int) 8) (z0g φ b a c d)),(ck (zd b 24) (catL [(ck (zd (a.arcs.length:Int) 8) (zb φ b a c d))]))])
def z8m(φ:Nat)(a:Int)(b:zc)(c d :(List Int)):Option (List (Option (Flow×Int×Unit))):=(catL [(ck (zd (b.arcs.length:Int) 8) (z3j φ a b c d)),(ck (fits (([]:List Int).length+b.supply.length) 8) (catL [(ck (zd (b.arcs.length:Int) 8) (catL [(zz φ a b c d),(zz φ a b c d)])),(ck (zd a 24) (z1j φ a b c d)),(ck (zd a 24) (z1j φ a b c d))])),(ck (zd a 24) (z3i φ a b c d)),(ck (zd a 24) (z3i φ a b c d))])
def z0p(φ:Nat)(a:Int)(b:zc)(c d :(List Int)):Option (List (Option (Flow×Int×Unit))):=(catL [(ck (zd a 8) (z0g φ a b c d)),(ck (zd a 24) (catL [(ck (zd a 8) (zb φ a b c d))]))])
def zbk(φ:Nat)(a:Int)(b:zc)(c d :(List Int)):Option (List (Option (Flow×Int×Unit))):=(catL [(ck (zd (b.arcs.length:Int) 8) (catL [(catL [(ck (fits (([]:List Int).length+b.supply.length) 8) (catL [(ck (zd a 8) (catL [(zz φ a b c d),(zz φ a b c d)])),(ck (zd a 24) (z0p φ a b c d)),(ck (zd a 24) (z0p φ a b c d))])),(ck (zd a 8) (z3j φ a b c d)),(ck (zd a 24) (z19 φ a b c d)),(ck (zd a 24) (z19 φ a b c d))]),(ck (zd a 8) (catL [(z3j φ a b c d),(ck (zd a 24) (z09 φ a b c d)),(ck (zd a 24) (z09 φ a b c d))])),(ck (zd a 24) (catL [(z19 φ a b c d),(ck (zd a 8) (z09 φ a b c d)),(ck (zd a 24) (catL [(catL [(ck (fits (([]:List Int).length+b.supply.length) 8) (catL [(ck (zd a 8) (zb φ a b c d))])),(ck (zd a 8) (ze φ a b c d))]),(ck (zd a 8) (catL [(ze φ a b c d)]))]))])),(ck (zd a 24) (catL [(z19 φ a b c d),(ck (zd a 8) (z09 φ a b c d)),(ck (zd a 24) (catL [(catL [(ck (fits (([]:List Int).length+b.supply.length) 8) (catL [(ck (zd a 8) (zb φ a b c d))])),(ck (zd a 8) (ze φ a b c d))]),(ck (zd a 8) (catL [(ze φ a b c d)]))]))]))])),(catL [(ck (zd (b.arcs.length:Int) 8) (catL [(ck (fits (([]:List Int).length+b.supply.length) 8) (catL [(ck (zd a 8) (catL [(zz φ a b c d),(zz φ a b c d)])),(ck (zd a 24) (z0p φ a b c d)),(ck (zd a 24) (z0p φ a b c d))])),(ck (zd a 8) (z3j φ a b c d)),(ck (zd a 24) (z19 φ a b c d)),(ck (zd a 24) (z19 φ a b c d))])),(ck (fits (([]:List Int).length+b.supply.length) 8) (catL [(ck (zd (b.arcs.length:Int) 8) (catL [(ck (zd a 8) (catL [(zz φ a b c d),(zz φ a b c d)])),(ck (zd a 24) (z0p φ a b c d)),(ck (zd a 24) (z0p φ a b c d))])),(ck (zd a 8) (catL [(ck (zd (b.arcs.length:Int) 8) (catL [(zz φ a b c d),(zz φ a b c d)])),(ck (zd a 24) (z1j φ a b c d)),(ck (zd a 24) (z1j φ a b c d))])),(ck (zd a 24) (catL [(ck (zd (b.arcs.length:Int) 8) (z0p φ a b c d)),(ck (zd a 8) (z1j φ a b c d)),(ck (zd a 24) (catL [(ck (zd (b.arcs.length:Int) 8) (catL [(ck (zd a 8) (zb φ a b c d))])),(ck (zd a 8) (catL [(ck (zd (b.arcs.length:Int) 8) (zb φ a b c d))]))]))])),(ck (zd a 24) (catL [(ck (zd (b.arcs.length:Int) 8) (z0p φ a b c d)),(ck (zd a 8) (z1j φ a b c d)),(ck (zd a 24) (catL [(ck (zd (b.arcs.length:Int) 8) (catL [(ck (zd a 8) (zb φ a b c d))])),(ck (zd a 8) (catL [(ck (zd (b.arcs.length:Int) 8) (zb φ a b c d))]))]))]))])),(ck (zd a 8) (z8m φ a b c d)),(ck (zd a 24) (z72 φ a b c d)),(ck (zd a 24) (z72 φ a b c d))]),(ck (zd a 8) (catL [(ck (zd (b.arcs.length:Int) 8) (catL [(z3j φ a b c d),(ck (zd a 24) (z09 φ a b c d)),(ck (zd a 24) (z09 φ a b c d))])),(z8m φ a b c d),(ck (zd a 24) (catL [(ck (zd (b.arcs.length:Int) 8) (z09 φ a b c d)),(z3i φ a b c d),(ck (zd a 24) (catL [(ck (zd (b.arcs.length:Int) 8) (catL [(ze φ a b c d)])),(catL [(ck (zd (b.arcs.length:Int) 8) (ze φ a b c d)),(ck (fits (([]:List Int).length+b.supply.length) 8) (catL [(ck (zd (b.arcs.length:Int) 8) (zb φ a b c d))]))])]))])),(ck (zd a 24) (catL [(ck (zd (b.arcs.length:Int) 8) (z09 φ a b c d)),(z3i φ a b c d),(ck (zd a 24) (catL [(ck (zd (b.arcs.length:Int) 8) (catL [(ze φ a b c d)])),(catL [(ck (zd (b.arcs.length:Int) 8) (ze φ a b c d)),(ck (fits (([]:List Int).length+b.supply.length) 8) (catL [(ck (zd (b.arcs.length:Int) 8) (zb φ a b c d))]))])]))]))])),(z9s φ a b c d),(z9s φ a b c d)])
def zoe(φ:Nat)(a:zc):Option (Flow×Int×Unit):=((zck φ a).bind λb=>(if(b.1 !=0)=true then(some ((⟨([]:List Int),([]:List Int)⟩:Flow),b.1,())) else(z8l φ (a.supply.length:Int) a ([]:List Int) ([]:List Int))))
def zjj(φ:Nat):Fsp TV:=⟨[40],[.val 41,.val 0],λz=>zoe φ z.1⟩
def z1a(φ:Nat):Nat->Int->Int->(List Int)->Option (Bool×Unit)
 |0,_,_,_=>none
 |d+1,c,a,b=>(if(decide (a<c))=true then(ck (rg a b.length) (if(((gt b a):Int) !=0)=true then(some (false,())) else((z1a φ d) c (W (a+1)) b))) else(some (true,())))
def z2y(φ:Nat):Nat->(List Arc)->Int->Int->Flow->(List Int)->Option (Bool×Unit)
 |0,_,_,_,_,_=>none
 |f+1,b,e,a,d,c=>(if(decide (a<e))=true then(ck (rg a b.length) (ck (rg a d.x.length) ((z4a φ (gt d.x a) 0 ((gt b a).cap)).bind λg=>(if(!g.1)=true then(some (false,())) else(ck (rg (gt b a).from_ c.length) (ck (rg a d.x.length) (ck (rg (gt b a).from_ c.length) (ck (rg (gt b a).to (((zl c ((gt b a).from_) ((W ((gt c ((gt b a).from_))-(gt d.x a)))))).length)) (ck (rg a d.x.length) (ck (rg (gt b a).to (((zl c ((gt b a).from_) ((W ((gt c ((gt b a).from_))-(gt d.x a)))))).length)) ((z2y φ f) b e (W (a+1)) d ((zl ((zl c ((gt b a).from_) ((W ((gt c ((gt b a).from_))-(gt d.x a)))))) ((gt b a).to) ((W ((gt ((zl c ((gt b a).from_) ((W ((gt c ((gt b a).from_))-(gt d.x a)))))) ((gt b a).to))+(gt d.x a))))))))))))))))) else(z1a φ φ (c.length:Int) 0 c))
def z8o(φ:Nat)(a:zc)(b:Flow):Option (Bool×Unit):=(if(((b.x.length:Int):Int) !=(a.arcs.length:Int))=true then(some (false,())) else(ck (fits (([]:List Int).length+a.supply.length) 8) (z2y φ φ a.arcs (a.arcs.length:Int) 0 b (([]:List Int)++a.supply))))
def z8q(φ:Nat):Fsp TV:=⟨[40,41],[.val 27],kk2 (z8o φ)⟩
def z49(φ:Nat):Nat->Int->(List Arc)->Int->Int->Flow->Option (Int×Int×Unit)
 |0,_,_,_,_,_=>none
 |f+1,d,b,e,a,c=>(if(decide (a<e))=true then(ck (rg a b.length) (ck (rg a c.x.length) (if(decide (((W (9007199254740992-d)):Int)<(W ((gt c.x a)*(gt b a).cost))))=true then(some (0,3,())) else((z49 φ f) ((W (d+(W ((gt c.x a)*(gt b a).cost))))) b e (W (a+1)) c)))) else(some (d,0,())))
def zg6(φ:Nat)(a:zc)(b:Flow):Option (Int×Int×Unit):=((zck φ a).bind λc=>(if(c.1 !=0)=true then(some (0,c.1,())) else((z8o φ a b).bind λd=>(if(!d.1)=true then(some (0,360,())) else(z49 φ φ 0 a.arcs (a.arcs.length:Int) 0 b)))))
def zha(φ:Nat):Fsp TV:=⟨[40,41],[.val 0,.val 0],kk2 (zg6 φ)⟩
def zpq(φ:Nat)(a :(List zh)):Option ((List zh)×Unit):=(ck (a.isEmpty=false) (ck (fits (([]:List zh).length+a.length) 192) (some ((([]:List zh)++a),()))))
def zfz(φ:Nat):Fsp TV:=⟨[54],[.row 76 53],λz=>zpq φ z.1⟩
def z29(φ:Nat)(e :(Int->Int->(zh->zh->Option Int)->Int->(List zh)->Option (List zh))):Nat->Int->Int->(zh->zh->Option Int)->Int->Int->(List zh)->Option (List zh)
 |0,_,_,_,_,_,_=>none
 |h+1,c,f,d,g,a,b=>(ck (((decide (c<a))=true)->rg a b.length) (ck (((decide (c<a))=true)->rg (W (a-1)) b.length) ((zn (0:Int) ((decide (c<a))=true) (d (gt b a) (gt b (W (a-1))))).bind λi=>(if((decide (c<a))&&(decide (i<0)))=true then(ck (rg (W (a-1)) b.length) (ck (rg a b.length) (ck (rg a b.length) (ck (rg (W (a-1)) (((zl b a (gt b (W (a-1))))).length)) ((z29 φ e h) c f d g (W (a-1)) ((zl ((zl b a (gt b (W (a-1))))) (W (a-1)) (gt b a)))))))) else(e c f d (W (g+1)) b)))))
def z27(φ:Nat):Nat->Int->Int->(zh->zh->Option Int)->Int->(List zh)->Option (List zh)
 |0,_,_,_,_,_=>none
 |d+1,e,b,f,a,c=>(if(decide (a<b))=true then(z29 φ (z27 φ d) φ e b f a a c) else(some c))
def z3t(φ:Nat)(b :(List zh))(a c:Int)(d :(zh->zh->Option Int)):Option (List zh):=(z27 φ φ a c d (W (a+1)) b)
def z30(φ:Nat):Msp TV:=⟨76,53,[.val 0,.val 0,.cmp 53],λl z=>z3t φ l z.1 z.2.1 z.2.2.1⟩
def z3u(φ:Nat):Nat->Int->Int->Int->Int->(List zh)->Option (List zh)
 |0,_,_,_,_,_=>none
 |f+1,c,d,e,a,b=>(if(decide (a<e))=true then(ck (rg (W (d+a)) b.length) (ck (rg (W (c+a)) b.length) (ck (rg (W (c+a)) b.length) (ck (rg (W (d+a)) (((zl b (W (c+a)) (gt b (W (d+a))))).length)) ((z3u φ f) c d e (W (a+1)) ((zl ((zl b (W (c+a)) (gt b (W (d+a))))) (W (d+a)) (gt b (W (c+a)))))))))) else(some b))
def z3a(φ:Nat)(a :(List zh))(b c d:Int)(e :(zh->zh->Option Int)):Option (List zh):=(z3u φ φ b c d 0 a)
def z4t(φ:Nat):Msp TV:=⟨76,53,[.val 0,.val 0,.val 0,.cmp 53],λl z=>z3a φ l z.1 z.2.1 z.2.2.1 z.2.2.2.1⟩
def z2u(φ:Nat):Nat->Int->(zh->zh->Option Int)->Int->Int->(List zh)->Option (List zh)
 |0,_,_,_,_,_=>none
 |f+1,b,d,a,c,e=>(if(a !=c)=true then(if(decide (c<a))=true then((z3a φ e (W (b-a)) b c d).bind λg=>((z2u φ f) b d (W (a-c)) c g)) else((z3a φ e (W (b-a)) ((W ((W (b+c))-a))) a d).bind λh=>((z2u φ f) b d a (W (c-a)) h))) else((z3a φ e (W (b-a)) b a d).bind λi=>(some i)))
def zbr(φ:Nat)(b :(List zh))(c a d:Int)(e :(zh->zh->Option Int)):Option (List zh):=(z2u φ φ a e (W (a-c)) (W (d-a)) b)
def z65(φ:Nat):Msp TV:=⟨76,53,[.val 0,.val 0,.val 0,.cmp 53],λl z=>zbr φ l z.1 z.2.1 z.2.2.1 z.2.2.2.1⟩
def z3y(φ:Nat):Nat->Int->Int->(List zh)->Option (List zh)
 |0,_,_,_=>none
 |d+1,c,a,b=>(if(decide (a<(W (c-1))))=true then(ck (rg (W (a+1)) b.length) (ck (rg a b.length) (ck (rg a b.length) (ck (rg (W (a+1)) (((zl b a (gt b (W (a+1))))).length)) ((z3y φ d) c (W (a+1)) ((zl ((zl b a (gt b (W (a+1))))) (W (a+1)) (gt b a)))))))) else(some b))
def z1t(φ:Nat):Nat->Int->(zh->zh->Option Int)->Int->Int->(List zh)->Option (List zh)
 |0,_,_,_,_,_=>none
 |f+1,d,e,a,c,b=>(if(decide (a<c))=true then(if 0<=(1:Int) then(ck (rg ((W ((((U ((W (a+c)))):Int).fdiv (2 ^ (min (1:Int).toNat 64)))))) b.length) (ck (rg d b.length) ((e (((gt b ((W ((((U ((W (a+c)))):Int).fdiv (2 ^ (min (1:Int).toNat 64))))))))) (gt b d)).bind λg=>(if(decide (g<0))=true then((z1t φ f) d e ((W ((W ((((U ((W (a+c)))):Int).fdiv (2 ^ (min (1:Int).toNat 64)))))+1))) c b) else((z1t φ f) d e a ((W ((((U ((W (a+c)))):Int).fdiv (2 ^ (min (1:Int).toNat 64)))))) b))))) else none) else(z3y φ φ a d b))
def z3z(φ:Nat):Nat->Int->Int->(List zh)->Option (List zh)
 |0,_,_,_=>none
 |d+1,c,a,b=>(if(decide (c<a))=true then(ck (rg (W (a-1)) b.length) (ck (rg a b.length) (ck (rg a b.length) (ck (rg (W (a-1)) (((zl b a (gt b (W (a-1))))).length)) ((z3z φ d) c (W (a-1)) ((zl ((zl b a (gt b (W (a-1))))) (W (a-1)) (gt b a)))))))) else(some b))
def z1u(φ:Nat):Nat->Int->(zh->zh->Option Int)->Int->Int->(List zh)->Option (List zh)
 |0,_,_,_,_,_=>none
 |f+1,d,e,a,c,b=>(if(decide (a<c))=true then(if 0<=(1:Int) then(ck (rg d b.length) (ck (rg ((W ((((U ((W (a+c)))):Int).fdiv (2 ^ (min (1:Int).toNat 64)))))) b.length) ((e (gt b d) (((gt b ((W ((((U ((W (a+c)))):Int).fdiv (2 ^ (min (1:Int).toNat 64)))))))))).bind λg=>(if(!(decide (g<0)))=true then((z1u φ f) d e ((W ((W ((((U ((W (a+c)))):Int).fdiv (2 ^ (min (1:Int).toNat 64)))))+1))) c b) else((z1u φ f) d e a ((W ((((U ((W (a+c)))):Int).fdiv (2 ^ (min (1:Int).toNat 64)))))) b))))) else none) else(z3z φ φ a d b))
def z42(φ:Nat)(e :((List zh)->Int->Int->Int->(zh->zh->Option Int)->Option (List zh)))(b:Int)(f :(zh->zh->Option Int))(c a:Int)(d :(List zh)):Option (List zh):=(if((decide (c<a))&&(decide (a<b)))=true then((e d c a b f).bind λg=>(some g)) else(some d))
def z41(φ:Nat)(b :((List zh)->Int->Int->Int->(zh->zh->Option Int)->Option (List zh)))(e f:Int)(c :(zh->zh->Option Int))(a d g:Int)(h :(List zh)):Option (List zh):=(if((decide (e<d))&&(decide (d<a)))=true then((b h e d a c).bind λi=>(z42 φ b f c a g i)) else(z42 φ b f c a g h))
def z1v(φ:Nat)(g :((List zh)->Int->Int->Int->(zh->zh->Option Int)->Option (List zh))):Nat->Int->Int->Int->(zh->zh->Option Int)->Int->Int->Int->Int->Int->(List zh)->Option (List zh)
 |0,_,_,_,_,_,_,_,_,_,_=>none
 |l+1,h,f,i,d,j,e,a,b,k,c=>(if(decide (a<b))=true then(if 0<=(1:Int) then(ck (rg ((W (k-(W ((((U ((W (a+b)))):Int).fdiv (2 ^ (min (1:Int).toNat 64)))))))) c.length) (ck (rg ((W ((((U ((W (a+b)))):Int).fdiv (2 ^ (min (1:Int).toNat 64)))))) c.length) ((d (((gt c ((W (k-(W ((((U ((W (a+b)))):Int).fdiv (2 ^ (min (1:Int).toNat 64))))))))))) (((gt c ((W ((((U ((W (a+b)))):Int).fdiv (2 ^ (min (1:Int).toNat 64)))))))))).bind λm=>(if(!(decide (m<0)))=true then((z1v φ g l) h f i d j e ((W ((W ((((U ((W (a+b)))):Int).fdiv (2 ^ (min (1:Int).toNat 64)))))+1))) b k c) else((z1v φ g l) h f i d j e a ((W ((((U ((W (a+b)))):Int).fdiv (2 ^ (min (1:Int).toNat 64)))))) k c))))) else none) else(if((decide (a<f))&&(decide (f<(W (e-a)))))=true then((zbr φ c a f (W (e-a)) d).bind λn=>(z41 φ g h i d j a (W (e-a)) n)) else(z41 φ g h i d j a (W (e-a)) c)))
def z40(φ:Nat)(b :((List zh)->Int->Int->Int->(zh->zh->Option Int)->Option (List zh)))(c d e:Int)(f :(zh->zh->Option Int))(g a h i:Int)(j :(List zh)):Option (List zh):=(z1v φ b φ c d e f g a h i (W (a-1)) j)
def z06(φ:Nat):Nat->(List zh)->Int->Int->Int->(zh->zh->Option Int)->Option (List zh)
 |0,_,_,_,_,_=>none
 |d+1,e,a,b,c,f=>(if(((W (b-a)):Int)==1)=true then(z1t φ φ a f b c e) else(if(((W (c-b)):Int)==1)=true then(z1u φ φ b f a b e) else(if 0<=(1:Int) then(if(decide (((W ((((U ((W (a+c)))):Int).fdiv (2 ^ (min (1:Int).toNat 64))))):Int)<b))=true then(z40 φ (z06 φ d) a b c f ((W ((((U ((W (a+c)))):Int).fdiv (2 ^ (min (1:Int).toNat 64)))))) ((W ((W ((((U ((W (a+c)))):Int).fdiv (2 ^ (min (1:Int).toNat 64)))))+b))) ((W ((W ((W ((((U ((W (a+c)))):Int).fdiv (2 ^ (min (1:Int).toNat 64)))))+b))-c))) ((W ((((U ((W (a+c)))):Int).fdiv (2 ^ (min (1:Int).toNat 64)))))) e) else(z40 φ (z06 φ d) a b c f ((W ((((U ((W (a+c)))):Int).fdiv (2 ^ (min (1:Int).toNat 64)))))) ((W ((W ((((U ((W (a+c)))):Int).fdiv (2 ^ (min (1:Int).toNat 64)))))+b))) a b e)) else none)))
def z2w(φ d:Nat):Msp TV:=⟨76,53,[.val 0,.val 0,.val 0,.cmp 53],λl z=>z06 φ d l z.1 z.2.1 z.2.2.1 z.2.2.2.1⟩
def z5h(φ:Nat)(f :(Int->(zh->zh->Option Int)->Int->(List zh)->Option (List zh))):Nat->Int->(zh->zh->Option Int)->Int->Int->Int->(List zh)->Option (List zh)
 |0,_,_,_,_,_,_=>none
 |h+1,b,c,a,d,e,g=>(if(decide (e<=b))=true then((z06 φ φ g d (W (d+a)) e c).bind λi=>((z5h φ f h) b c a e ((W (e+(W (2*a))))) i)) else(if(decide (((W (d+a)):Int)<b))=true then((z06 φ φ g d (W (d+a)) b c).bind λj=>(f b c (W (a*2)) j)) else(f b c (W (a*2)) g)))
def z5g(φ:Nat):Nat->Int->(zh->zh->Option Int)->Int->(List zh)->Option (List zh)
 |0,_,_,_,_=>none
 |d+1,b,e,a,c=>(if(decide (a<b))=true then(z5h φ (z5g φ d) φ b e a 0 (W (2*a)) c) else(some c))
def z5f(φ:Nat):Nat->Int->(zh->zh->Option Int)->Int->Int->Int->(List zh)->Option (List zh)
 |0,_,_,_,_,_,_=>none
 |g+1,a,b,d,e,c,f=>(if(decide (c<=a))=true then((z3t φ f e c b).bind λh=>((z5f φ g) a b d c (W (c+d)) h)) else((z3t φ f e a b).bind λi=>(z5g φ φ a b d i)))
def zbs(φ:Nat)(a :(List zh))(b:Int)(c :(zh->zh->Option Int)):Option (List zh):=(z5f φ φ b c 20 0 20 a)
def z67(φ:Nat):Msp TV:=⟨76,53,[.val 0,.cmp 53],λl z=>zbs φ l z.1 z.2.1⟩
def zb5(φ:Nat)(a :(List zh))(b :(zh->zh->Option Int)):Option (List zh):=((zbs φ a (a.length:Int) b).bind λc=>(some c))
def z5o(φ:Nat):Msp TV:=⟨76,53,[.cmp 53],λl z=>zb5 φ l z.1⟩
def zgq(φ:Nat)(b a:Int):Option (Int×Unit):=(if(b !=b)=true then(if(a !=a)=true then(some (0,())) else(some ((-1),()))) else(if(a !=a)=true then(some (1,())) else(if(decide (b<a))=true then(some ((-1),())) else(if(decide (a<b))=true then(some (1,())) else(some (0,()))))))
def zgs(φ:Nat):Fsp TV:=⟨[0,0],[.val 0],kk2 (zgq φ)⟩
def zra(φ:Nat):Nat->Int->(List Int)->Int->Int->Option (Int×Unit)
 |0,_,_,_,_=>none
 |e+1,c,b,d,a=>(if(decide (a<d))=true then(ck (rg a b.length) (if(((gt b a):Int) !=c)=true then(some ((gt b a),())) else((zra φ e) c b d (W (a+1))))) else(some (c,())))
def ygm(φ:Nat)(a :(List Int)):Option (Int×Unit):=(zra φ φ 0 a (a.length:Int) 0)
def zw6(φ:Nat):Fsp TV:=⟨[22],[.val 0],λz=>ygm φ z.1⟩
def zle(φ:Nat)(a b:zh):Option (Int×Unit):=((zgq φ a.item.from_ b.item.from_).bind λc=>((zgq φ a.ref.railway b.ref.railway).bind λd=>((zgq φ a.ref.no b.ref.no).bind λe=>((ygm φ ([c.1,d.1,e.1])).bind λf=>(some (f.1,()))))))
def zbf(φ:Nat):Fsp TV:=⟨[53,53],[.val 0],kk2 (zle φ)⟩
def z6a(φ:Nat):Nat->Int->Int->Int->(List zf)->(List zh)->Option ((List zf)×Unit)
 |0,_,_,_,_,_=>none
 |f+1,d,e,a,c,b=>(if(decide (a<e))=true then(ck (rg a b.length) (if(((((gt b a).item).kind:Int)==15)&&(decide (d<=((gt b a).item).to)))=true then(ck (fits (c.length+([(⟨((gt b a).item).number,((gt b a).item).class_,((gt b a).item).place,((gt b a).item).from_,((gt b a).item).to,((gt b a).item).weight,((gt b a).item).amount⟩:zf)]).length) 56) ((z6a φ f) d e (W (a+1)) ((c++[(⟨((gt b a).item).number,((gt b a).item).class_,((gt b a).item).place,((gt b a).item).from_,((gt b a).item).to,((gt b a).item).weight,((gt b a).item).amount⟩:zf)])) b)) else((z6a φ f) d e (W (a+1)) c b))) else(some (c,())))
def zf0(φ:Nat)(d :(List zh))(e:Int):Option ((List zf)×Unit):=((zpq φ d).bind λf=>((zb5 φ f.1 (λa b=>(zle φ a b).bind λr=>(some r.1))).bind λc=>(z6a φ φ e (c.length:Int) 0 ([]:List zf) c)))
def zbd(φ:Nat):Fsp TV:=⟨[54,0],[.val 37],kk2 (zf0 φ)⟩
def z4k(φ:Nat)(g h i j k:Int)(o :(List Int))(l:Int)(p :(List Int))(b m :(List z7))(c :(List Int))(d :(List Arc))(e :(List Int))(f :(List Arc)):Option (Bool×Unit):=(ck (((((((g !=0)||(h !=0))||(i !=0))||(j !=0))||(((b.length:Int):Int) !=1))=false)->rg 0 b.length) (if(((((((((g !=0)||(h !=0))||(i !=0))||(j !=0))||(((b.length:Int):Int) !=1))||(!((((gt b 0).supply:Int)==0)&&((((gt b 0).order:Int)==0)&&((((gt b 0).count:Int)==2)&&true)))))||(k !=1090))||(((m.length:Int):Int) !=0))||(l !=120))=true then(some (false,())) else((zf0 φ ([(⟨(⟨0,0⟩:Ref),(⟨0,0⟩:Ref),0,(⟨15,(⟨0,0⟩:Ref),0,0,0,1,0,300,0,0,0,2,0,(⟨#[]⟩:ByteArray),([]:List Part)⟩:Item)⟩:zh)]) 300).bind λa=>(ck (((((((((c.length:Int):Int)==4)&&(((d.length:Int):Int)==4))&&(((e.length:Int):Int)==4))&&(((f.length:Int):Int)==3))&&(((a.1.length:Int):Int)==1))=true)->rg 0 a.1.length) (ck ((((((((((c.length:Int):Int)==4)&&(((d.length:Int):Int)==4))&&(((e.length:Int):Int)==4))&&(((f.length:Int):Int)==3))&&(((a.1.length:Int):Int)==1))&&(((gt a.1 0).count:Int)==2))=true)->rg 0 a.1.length) (if(((((((((c.length:Int):Int)==4)&&(((d.length:Int):Int)==4))&&(((e.length:Int):Int)==4))&&(((f.length:Int):Int)==3))&&(((a.1.length:Int):Int)==1))&&(((gt a.1 0).count:Int)==2))&&(((gt a.1 0).type_:Int)==1))=true then((zf0 φ ([(⟨(⟨0,0⟩:Ref),(⟨0,0⟩:Ref),0,(⟨15,(⟨0,0⟩:Ref),0,0,0,1,0,300,0,0,0,2,0,(⟨#[]⟩:ByteArray),([]:List Part)⟩:Item)⟩:zh)]) 301).bind λn=>(some ((((n.1.length:Int):Int)==0),()))) else(some (false,()))))))))
def z6m(φ:Nat)(a b c d:Int)(e :(List Int))(f:Int)(g m :(List Int))(h :(List Arc))(i j :(List z7))(k :(List Int))(l :(List Arc)):Option (Bool×Unit):=(if(decide ((2048:Int)<(h.length:Int)))=true then(z4k φ a b c 2 d e f g i j k l ([]:List Int) ([]:List Arc)) else(z4k φ a b c 0 d e f g i j k l m h))
def z8s(φ:Nat)(u :(Int->Int->Int->Int->Int->Int->Int->Pool->(List za)->Int->(List Int)->Int->(List Int)->(List zf)->(List Int)->(List Arc)->(List z7)->(List z7)->(List Int)->(List Arc)->Option (Bool×Unit))):Nat->Int->Int->Int->Int->Int->Int->Int->Int->Int->Int->Pool->za->(List za)->(List zf)->Int->(List Int)->Int->(List Int)->(List Int)->(List Arc)->(List z7)->(List z7)->(List Int)->(List Arc)->Option (Bool×Unit)
 |0,_,_,_,_,_,_,_,_,_,_,_,_,_,_,_,_,_,_,_,_,_,_,_,_=>none
 |A+1,v,w,e,x,y,z,a,g,h,i,j,c,d,b,k,l,m,n,o,f,p,q,r,s=>(if(decide (a<z))=true then(ck (rg a b.length) ((z1g φ j c (gt b a)).bind λt=>(if t.2.1=true then(ck (fits (f.length+([(⟨e,W ((d.length:Int)+a),min2 c.count ((gt b a).count),t.1⟩:Arc)]).length) 32) (if(!true)=true then(z6m φ g h i k l m n o ((f++[(⟨e,W ((d.length:Int)+a),min2 c.count ((gt b a).count),t.1⟩:Arc)])) p q r s) else((z8s φ u A) v w e x y z (W (a+1)) g h i j c d b k l m n o ((f++[(⟨e,W ((d.length:Int)+a),min2 c.count ((gt b a).count),t.1⟩:Arc)])) p q r s))) else((z8s φ u A) v w e x y z (W (a+1)) g h i j c d b k l m n o f p q r s)))) else(u v w x (W (y+1)) g h i j d k l m n b o f p q r s))
def zda(φ:Nat):Nat->Int->Int->Int->Int->Int->Int->Int->(List za)->Int->(List Int)->Int->(List Int)->(List Int)->(List Arc)->(List z7)->(List z7)->(List Int)->(List Arc)->Option (Bool×Unit)
 |0,_,_,_,_,_,_,_,_,_,_,_,_,_,_,_,_,_,_=>none
 |s+1,b,e,r,a,f,g,h,c,i,j,k,l,m,d,n,o,p,q=>(if(decide (a<r))=true then(ck (rg a c.length) (ck (fits (d.length+([(⟨a,W (b+1),(gt c a).count,0⟩:Arc)]).length) 32) (if(!true)=true then(z6m φ f g h i j k l m (d++[(⟨a,W (b+1),(gt c a).count,0⟩:Arc)]) n o p q) else((zda φ s) b e r (W (a+1)) f g h c i j k l m (d++[(⟨a,W (b+1),(gt c a).count,0⟩:Arc)]) n o p q)))) else(ck (fits (d.length+([(⟨b,W (b+1),e,0⟩:Arc)]).length) 32) (z6m φ f g h i j k l m (d++[(⟨b,W (b+1),e,0⟩:Arc)]) n o p q)))
def zd9(φ:Nat):Nat->Int->Int->Int->Int->Int->Int->Int->(List zf)->Int->(List Int)->Int->(List Int)->(List za)->(List Int)->(List Arc)->(List z7)->(List z7)->(List Int)->(List Arc)->Option (Bool×Unit)
 |0,_,_,_,_,_,_,_,_,_,_,_,_,_,_,_,_,_,_,_=>none
 |t+1,d,r,s,a,f,g,h,b,i,j,k,l,c,m,e,n,o,p,q=>(if(decide (a<s))=true then(ck (rg a b.length) (ck (fits (e.length+([(⟨d,W ((c.length:Int)+a),(gt b a).count,(gt b a).weight⟩:Arc)]).length) 32) (if(!true)=true then(z6m φ f g h i j k l m ((e++[(⟨d,W ((c.length:Int)+a),(gt b a).count,(gt b a).weight⟩:Arc)])) n o p q) else((zd9 φ t) d (W (r+(gt b a).count)) s (W (a+1)) f g h b i j k l c m ((e++[(⟨d,W ((c.length:Int)+a),(gt b a).count,(gt b a).weight⟩:Arc)])) n o p q)))) else(zda φ φ d r (c.length:Int) 0 f g h c i j k l m e n o p q))
def zd8(φ:Nat):Nat->Int->Int->Int->Int->Int->Int->Int->Pool->(List za)->Int->(List Int)->Int->(List Int)->(List zf)->(List Int)->(List Arc)->(List z7)->(List z7)->(List Int)->(List Arc)->Option (Bool×Unit)
 |0,_,_,_,_,_,_,_,_,_,_,_,_,_,_,_,_,_,_,_,_=>none
 |t+1,d,e,f,a,g,h,i,u,b,j,k,l,m,c,n,o,p,q,r,s=>(if(decide (a<f))=true then(ck (rg a b.length) (z8s φ (zd8 φ t) φ d e a f a (c.length:Int) 0 g h i u (gt b a) b c j k l m n o p q r s)) else(zd9 φ φ d e (c.length:Int) 0 g h i c j k l m b n o p q r s))
def zfe(φ:Nat):Nat->Int->Int->Int->Int->Int->Int->Int->(List za)->(List zf)->Pool->Int->(List Int)->Int->(List Int)->(List Int)->(List Arc)->(List z7)->(List z7)->(List Int)->(List Arc)->Option (Bool×Unit)
 |0,_,_,_,_,_,_,_,_,_,_,_,_,_,_,_,_,_,_,_,_=>none
 |u+1,d,e,s,b,f,g,h,i,a,r,j,k,l,m,c,t,n,o,p,q=>(if(decide (b<s))=true then(ck (rg b a.length) ((z34 φ r (gt a b)).bind λv=>(if(!v.1)=true then(z4k φ f g h 1 j k l m n o p q ([]:List Int) ([]:List Arc)) else(ck (fits (c.length+([(W (0-(gt a b).count))]).length) 8) ((zfe φ u) d (W (e+(gt a b).count)) s (W (b+1)) f g h i a r j k l m ((c++[(W (0-(gt a b).count))])) t n o p q))))) else(ck (fits (c.length+([e,(W (0-d))]).length) 8) (if(decide ((256:Int)<((c++[e,(W (0-d))]).length:Int)))=true then(z4k φ f g h 2 j k l m n o p q ([]:List Int) ([]:List Arc)) else(zd8 φ φ (W ((i.length:Int)+(a.length:Int))) 0 (i.length:Int) 0 f g h r i j k l m a (c++[e,(W (0-d))]) t n o p q))))
def zfd(φ:Nat):Nat->Int->Int->Int->Int->Int->Int->Int->(List za)->(List zf)->Pool->Int->(List Int)->Int->(List Int)->(List Int)->(List Arc)->(List z7)->(List z7)->(List Int)->(List Arc)->Option (Bool×Unit)
 |0,_,_,_,_,_,_,_,_,_,_,_,_,_,_,_,_,_,_,_,_=>none
 |u+1,q,r,s,a,c,d,e,b,f,g,h,i,j,k,l,t,m,n,o,p=>(if(decide (a<s))=true then(ck (rg a b.length) ((z2b φ g (gt b a)).bind λv=>(if(!v.1)=true then(z4k φ c d e 1 h i j k m n o p ([]:List Int) ([]:List Arc)) else(ck (fits (l.length+([(gt b a).count]).length) 8) ((zfd φ u) (W (q+(gt b a).count)) r s (W (a+1)) c d e b f g h i j k (l++[(gt b a).count]) t m n o p))))) else(zfe φ φ q r (f.length:Int) 0 c d e b f g h i j k l t m n o p))
def z4j(φ:Nat)(b c d:Int)(e :(List za))(a :(List zf))(f:Int)(g :(List Int))(h:Int)(i :(List Int))(j k :(List z7))(l :(List Int))(m :(List Arc)):Option (Bool×Unit):=(ck (rg 0 a.length) ((zcl φ).bind λn=>((z1h φ n.1).bind λo=>(if(o.1 !=0)=true then(z4k φ b c d o.1 f g h i j k l m ([]:List Int) ([]:List Arc)) else(zfd φ φ 0 0 (e.length:Int) 0 b c d e (zl a 0 (⟨(gt a 0).type_,3,(gt a 0).place,(gt a 0).from_,(gt a 0).to,(gt a 0).count,(gt a 0).weight⟩:zf)) n.1 f g h i ([]:List Int) ([]:List Arc) j k l m)))))
def z6n(φ:Nat)(a b:Int)(c :(List za))(d :(List zf))(e:Int)(f :(List Int))(g:Int)(h l :(List Int))(i :(List Arc))(j k :(List z7)):Option (Bool×Unit):=(if(decide ((2048:Int)<(i.length:Int)))=true then(z4j φ a b 2 c d e f g h j k ([]:List Int) ([]:List Arc)) else(z4j φ a b 0 c d e f g h j k l i))
def z8t(φ:Nat)(r :(Int->Int->Int->Int->Int->Int->Pool->(List za)->(List zf)->Int->(List Int)->Int->(List Int)->(List Int)->(List Arc)->(List z7)->(List z7)->Option (Bool×Unit))):Nat->Int->Int->Int->Int->Int->Int->Int->Int->Int->Pool->za->(List za)->(List zf)->Int->(List Int)->Int->(List Int)->(List Int)->(List Arc)->(List z7)->(List z7)->Option (Bool×Unit)
 |0,_,_,_,_,_,_,_,_,_,_,_,_,_,_,_,_,_,_,_,_,_=>none
 |x+1,s,t,e,u,v,w,a,g,h,i,d,c,b,j,k,l,m,n,f,o,p=>(if(decide (a<w))=true then(ck (rg a b.length) ((z1g φ i d (gt b a)).bind λq=>(if q.2.1=true then(ck (fits (f.length+([(⟨e,W ((c.length:Int)+a),min2 d.count ((gt b a).count),q.1⟩:Arc)]).length) 32) (if(!true)=true then(z6n φ g h c b j k l m n ((f++[(⟨e,W ((c.length:Int)+a),min2 d.count ((gt b a).count),q.1⟩:Arc)])) o p) else((z8t φ r x) s t e u v w (W (a+1)) g h i d c b j k l m n ((f++[(⟨e,W ((c.length:Int)+a),min2 d.count ((gt b a).count),q.1⟩:Arc)])) o p))) else((z8t φ r x) s t e u v w (W (a+1)) g h i d c b j k l m n f o p)))) else(r s t u (W (v+1)) g h i c b j k l m n f o p))
def zdf(φ:Nat):Nat->Int->Int->Int->Int->Int->Int->(List za)->(List zf)->Int->(List Int)->Int->(List Int)->(List Int)->(List Arc)->(List z7)->(List z7)->Option (Bool×Unit)
 |0,_,_,_,_,_,_,_,_,_,_,_,_,_,_,_,_=>none
 |q+1,b,e,p,a,f,g,c,h,i,j,k,l,m,d,n,o=>(if(decide (a<p))=true then(ck (rg a c.length) (ck (fits (d.length+([(⟨a,W (b+1),(gt c a).count,0⟩:Arc)]).length) 32) (if(!true)=true then(z6n φ f g c h i j k l m (d++[(⟨a,W (b+1),(gt c a).count,0⟩:Arc)]) n o) else((zdf φ q) b e p (W (a+1)) f g c h i j k l m (d++[(⟨a,W (b+1),(gt c a).count,0⟩:Arc)]) n o)))) else(ck (fits (d.length+([(⟨b,W (b+1),e,0⟩:Arc)]).length) 32) (z6n φ f g c h i j k l m (d++[(⟨b,W (b+1),e,0⟩:Arc)]) n o)))
def zde(φ:Nat):Nat->Int->Int->Int->Int->Int->Int->(List zf)->(List za)->Int->(List Int)->Int->(List Int)->(List Int)->(List Arc)->(List z7)->(List z7)->Option (Bool×Unit)
 |0,_,_,_,_,_,_,_,_,_,_,_,_,_,_,_,_=>none
 |q+1,d,o,p,a,f,g,b,c,h,i,j,k,l,e,m,n=>(if(decide (a<p))=true then(ck (rg a b.length) (ck (fits (e.length+([(⟨d,W ((c.length:Int)+a),(gt b a).count,(gt b a).weight⟩:Arc)]).length) 32) (if(!true)=true then(z6n φ f g c b h i j k l ((e++[(⟨d,W ((c.length:Int)+a),(gt b a).count,(gt b a).weight⟩:Arc)])) m n) else((zde φ q) d (W (o+(gt b a).count)) p (W (a+1)) f g b c h i j k l ((e++[(⟨d,W ((c.length:Int)+a),(gt b a).count,(gt b a).weight⟩:Arc)])) m n)))) else(zdf φ φ d o (c.length:Int) 0 f g c b h i j k l e m n))
def zdd(φ:Nat):Nat->Int->Int->Int->Int->Int->Int->Pool->(List za)->(List zf)->Int->(List Int)->Int->(List Int)->(List Int)->(List Arc)->(List z7)->(List z7)->Option (Bool×Unit)
 |0,_,_,_,_,_,_,_,_,_,_,_,_,_,_,_,_,_=>none
 |q+1,d,e,f,a,g,h,r,b,c,i,j,k,l,m,n,o,p=>(if(decide (a<f))=true then(ck (rg a b.length) (z8t φ (zdd φ q) φ d e a f a (c.length:Int) 0 g h r (gt b a) b c i j k l m n o p)) else(zde φ φ d e (c.length:Int) 0 g h c b i j k l m n o p))
def zdc(φ:Nat):Nat->Int->Int->Int->Int->Int->Int->(List za)->(List zf)->Pool->Int->(List Int)->Int->(List Int)->(List Int)->(List Arc)->(List z7)->(List z7)->Option (Bool×Unit)
 |0,_,_,_,_,_,_,_,_,_,_,_,_,_,_,_,_,_=>none
 |r+1,e,f,p,b,g,h,c,a,o,i,j,k,l,d,q,m,n=>(if(decide (b<p))=true then(ck (rg b a.length) ((z34 φ o (gt a b)).bind λs=>(if(!s.1)=true then(z4j φ g h 1 c a i j k l m n ([]:List Int) ([]:List Arc)) else(ck (fits (d.length+([(W (0-(gt a b).count))]).length) 8) ((zdc φ r) e (W (f+(gt a b).count)) p (W (b+1)) g h c a o i j k l ((d++[(W (0-(gt a b).count))])) q m n))))) else(ck (fits (d.length+([f,(W (0-e))]).length) 8) (if(decide ((256:Int)<((d++[f,(W (0-e))]).length:Int)))=true then(z4j φ g h 2 c a i j k l m n ([]:List Int) ([]:List Arc)) else(zdd φ φ (W ((c.length:Int)+(a.length:Int))) 0 (c.length:Int) 0 g h o c a i j k l (d++[f,(W (0-e))]) q m n))))
def zdb(φ:Nat):Nat->Int->Int->Int->Int->Int->Int->(List za)->(List zf)->Pool->Int->(List Int)->Int->(List Int)->(List Int)->(List Arc)->(List z7)->(List z7)->Option (Bool×Unit)
 |0,_,_,_,_,_,_,_,_,_,_,_,_,_,_,_,_,_=>none
 |r+1,n,o,p,b,d,e,a,c,f,g,h,i,j,k,q,l,m=>(if(decide (b<p))=true then(ck (rg b a.length) ((z2b φ f (gt a b)).bind λs=>(if(!s.1)=true then(z4j φ d e 1 a c g h i j l m ([]:List Int) ([]:List Arc)) else(ck (fits (k.length+([(gt a b).count]).length) 8) ((zdb φ r) (W (n+(gt a b).count)) o p (W (b+1)) d e a c f g h i j (k++[(gt a b).count]) q l m))))) else(zdc φ φ n o (c.length:Int) 0 d e a c f g h i j k q l m))
def zah(φ:Nat)(b c:Int)(a :(List za))(d :(List zf))(e:Int)(f :(List Int))(g:Int)(h :(List Int))(i j :(List z7)):Option (Bool×Unit):=((zcl φ).bind λk=>((z1h φ k.1).bind λl=>(if(l.1 !=0)=true then(z4j φ b c l.1 a d e f g h i j ([]:List Int) ([]:List Arc)) else(zdb φ φ 0 0 (a.length:Int) 0 b c a d k.1 e f g h ([]:List Int) ([]:List Arc) i j))))
def z8u(φ:Nat):Nat->(List Arc)->Int->Int->Int->(List za)->(List zf)->Int->(List Int)->Flow->Int->(List Int)->(List z7)->(List z7)->Option (Bool×Unit)
 |0,_,_,_,_,_,_,_,_,_,_,_,_,_=>none
 |n+1,b,g,a,h,c,e,i,j,d,k,l,f,m=>(if(decide (a<g))=true then(ck (rg a b.length) (ck ((((decide (((gt b a).from_:Int)<(c.length:Int)))&&(decide (((gt b a).to:Int)<(W ((c.length:Int)+(e.length:Int))))))=true)->rg a d.x.length) (if(((decide (((gt b a).from_:Int)<(c.length:Int)))&&(decide (((gt b a).to:Int)<(W ((c.length:Int)+(e.length:Int))))))&&(decide ((0:Int)<(gt d.x a))))=true then(ck (rg a d.x.length) (ck (fits (f.length+([(⟨(gt b a).from_,W ((gt b a).to-(c.length:Int)),gt d.x a⟩:z7)]).length) 24) ((z8u φ n) b g (W (a+1)) h c e i j d k l ((f++[(⟨(gt b a).from_,W ((gt b a).to-(c.length:Int)),gt d.x a⟩:z7)])) m))) else((z8u φ n) b g (W (a+1)) h c e i j d k l f m)))) else(zah φ h 0 c e k l i j m f))
def z3o(φ:Nat)(i c:Int)(d :(List za))(e :(List zf))(m f:Int)(g :(List Int))(k :(List z7))(n j :(List Int))(b :(List Arc))(h :(List z7)):Option (Bool×Unit):=(if(i !=0)=true then(zah φ c i d e f g 0 ([]:List Int) h ([]:List z7)) else((zoe φ (⟨j,b⟩:zc)).bind λa=>(if(a.2.1 !=0)=true then(zah φ c a.2.1 d e f g 0 ([]:List Int) h ([]:List z7)) else((zg6 φ (⟨j,b⟩:zc) a.1).bind λl=>(z8u φ φ b (b.length:Int) 0 c d e l.1 a.1.price a.1 f g k h)))))
def z6o(φ:Nat)(a:Int)(b :(List za))(c :(List zf))(d e:Int)(f k :(List Int))(g :(List Arc))(h :(List z7))(i :(List Int))(j :(List z7)):Option (Bool×Unit):=(if(decide ((2048:Int)<(g.length:Int)))=true then(z3o φ 2 a b c d e f h i ([]:List Int) ([]:List Arc) j) else(z3o φ 0 a b c d e f h i k g j))
def z8v(φ:Nat)(q :(Int->Int->Int->Int->Int->Pool->(List za)->(List zf)->Int->Int->(List Int)->(List Int)->(List Arc)->(List z7)->(List Int)->(List z7)->Option (Bool×Unit))):Nat->Int->Int->Int->Int->Int->Int->Int->Int->Pool->za->(List za)->(List zf)->Int->Int->(List Int)->(List Int)->(List Arc)->(List z7)->(List Int)->(List z7)->Option (Bool×Unit)
 |0,_,_,_,_,_,_,_,_,_,_,_,_,_,_,_,_,_,_,_,_=>none
 |w+1,r,s,e,t,u,v,a,g,h,d,c,b,i,j,k,l,f,m,n,o=>(if(decide (a<v))=true then(ck (rg a b.length) ((z1g φ h d (gt b a)).bind λp=>(if p.2.1=true then(ck (fits (f.length+([(⟨e,W ((c.length:Int)+a),min2 d.count ((gt b a).count),p.1⟩:Arc)]).length) 32) (if(!true)=true then(z6o φ g c b i j k l ((f++[(⟨e,W ((c.length:Int)+a),min2 d.count ((gt b a).count),p.1⟩:Arc)])) m n o) else((z8v φ q w) r s e t u v (W (a+1)) g h d c b i j k l ((f++[(⟨e,W ((c.length:Int)+a),min2 d.count ((gt b a).count),p.1⟩:Arc)])) m n o))) else((z8v φ q w) r s e t u v (W (a+1)) g h d c b i j k l f m n o)))) else(q r s t (W (u+1)) g h c b i j k l f m n o))
def zdk(φ:Nat):Nat->Int->Int->Int->Int->Int->(List za)->(List zf)->Int->Int->(List Int)->(List Int)->(List Arc)->(List z7)->(List Int)->(List z7)->Option (Bool×Unit)
 |0,_,_,_,_,_,_,_,_,_,_,_,_,_,_,_=>none
 |p+1,b,e,o,a,f,c,g,h,i,j,k,d,l,m,n=>(if(decide (a<o))=true then(ck (rg a c.length) (ck (fits (d.length+([(⟨a,W (b+1),(gt c a).count,0⟩:Arc)]).length) 32) (if(!true)=true then(z6o φ f c g h i j k (d++[(⟨a,W (b+1),(gt c a).count,0⟩:Arc)]) l m n) else((zdk φ p) b e o (W (a+1)) f c g h i j k (d++[(⟨a,W (b+1),(gt c a).count,0⟩:Arc)]) l m n)))) else(ck (fits (d.length+([(⟨b,W (b+1),e,0⟩:Arc)]).length) 32) (z6o φ f c g h i j k (d++[(⟨b,W (b+1),e,0⟩:Arc)]) l m n)))
def zdj(φ:Nat):Nat->Int->Int->Int->Int->Int->(List zf)->(List za)->Int->Int->(List Int)->(List Int)->(List Arc)->(List z7)->(List Int)->(List z7)->Option (Bool×Unit)
 |0,_,_,_,_,_,_,_,_,_,_,_,_,_,_,_=>none
 |p+1,d,n,o,a,f,b,c,g,h,i,j,e,k,l,m=>(if(decide (a<o))=true then(ck (rg a b.length) (ck (fits (e.length+([(⟨d,W ((c.length:Int)+a),(gt b a).count,(gt b a).weight⟩:Arc)]).length) 32) (if(!true)=true then(z6o φ f c b g h i j ((e++[(⟨d,W ((c.length:Int)+a),(gt b a).count,(gt b a).weight⟩:Arc)])) k l m) else((zdj φ p) d (W (n+(gt b a).count)) o (W (a+1)) f b c g h i j ((e++[(⟨d,W ((c.length:Int)+a),(gt b a).count,(gt b a).weight⟩:Arc)])) k l m)))) else(zdk φ φ d n (c.length:Int) 0 f c b g h i j e k l m))
def zdi(φ:Nat):Nat->Int->Int->Int->Int->Int->Pool->(List za)->(List zf)->Int->Int->(List Int)->(List Int)->(List Arc)->(List z7)->(List Int)->(List z7)->Option (Bool×Unit)
 |0,_,_,_,_,_,_,_,_,_,_,_,_,_,_,_,_=>none
 |p+1,d,e,f,a,g,q,b,c,h,i,j,k,l,m,n,o=>(if(decide (a<f))=true then(ck (rg a b.length) (z8v φ (zdi φ p) φ d e a f a (c.length:Int) 0 g q (gt b a) b c h i j k l m n o)) else(zdj φ φ d e (c.length:Int) 0 g c b h i j k l m n o))
def zdh(φ:Nat):Nat->Int->Int->Int->Int->Int->(List za)->(List zf)->Pool->Int->Int->(List Int)->(List Int)->(List Arc)->(List z7)->(List Int)->(List z7)->Option (Bool×Unit)
 |0,_,_,_,_,_,_,_,_,_,_,_,_,_,_,_,_=>none
 |q+1,e,f,o,b,g,c,a,n,h,i,j,d,p,k,l,m=>(if(decide (b<o))=true then(ck (rg b a.length) ((z34 φ n (gt a b)).bind λr=>(if(!r.1)=true then(z3o φ 1 g c a h i j k l ([]:List Int) ([]:List Arc) m) else(ck (fits (d.length+([(W (0-(gt a b).count))]).length) 8) ((zdh φ q) e (W (f+(gt a b).count)) o (W (b+1)) g c a n h i j ((d++[(W (0-(gt a b).count))])) p k l m))))) else(ck (fits (d.length+([f,(W (0-e))]).length) 8) (if(decide ((256:Int)<((d++[f,(W (0-e))]).length:Int)))=true then(z3o φ 2 g c a h i j k l ([]:List Int) ([]:List Arc) m) else(zdi φ φ (W ((c.length:Int)+(a.length:Int))) 0 (c.length:Int) 0 g n c a h i j (d++[f,(W (0-e))]) p k l m))))
def zdg(φ:Nat):Nat->Int->Int->Int->Int->Int->(List za)->(List zf)->Pool->Int->Int->(List Int)->(List Int)->(List Arc)->(List z7)->(List Int)->(List z7)->Option (Bool×Unit)
 |0,_,_,_,_,_,_,_,_,_,_,_,_,_,_,_,_=>none
 |q+1,m,n,o,b,d,a,c,e,f,g,h,i,p,j,k,l=>(if(decide (b<o))=true then(ck (rg b a.length) ((z2b φ e (gt a b)).bind λr=>(if(!r.1)=true then(z3o φ 1 d a c f g h j k ([]:List Int) ([]:List Arc) l) else(ck (fits (i.length+([(gt a b).count]).length) 8) ((zdg φ q) (W (m+(gt a b).count)) n o (W (b+1)) d a c e f g h (i++[(gt a b).count]) p j k l))))) else(zdh φ φ m n (c.length:Int) 0 d a c e f g h i p j k l))
def zag(φ:Nat)(c:Int)(b :(List za))(a :(List zf))(d:Int)(e :(List Int))(f :(List z7)):Option (Bool×Unit):=(ck (rg 0 a.length) ((zcl φ).bind λg=>((z1h φ g.1).bind λh=>(if(h.1 !=0)=true then(z3o φ h.1 c b (zl a 0 (⟨(gt a 0).type_,(gt a 0).class_,(gt a 0).place,(gt a 0).from_,(gt a 0).to,(gt a 0).count,40⟩:zf)) 0 d e ([]:List z7) ([]:List Int) ([]:List Int) ([]:List Arc) f) else(zdg φ φ 0 0 (b.length:Int) 0 c b (zl a 0 (⟨(gt a 0).type_,(gt a 0).class_,(gt a 0).place,(gt a 0).from_,(gt a 0).to,(gt a 0).count,40⟩:zf)) g.1 0 d e ([]:List Int) ([]:List Arc) ([]:List z7) ([]:List Int) f)))))
def z8w(φ:Nat):Nat->(List Arc)->Int->Int->(List za)->(List zf)->Int->(List Int)->Flow->(List z7)->Option (Bool×Unit)
 |0,_,_,_,_,_,_,_,_,_=>none
 |j+1,b,g,a,c,e,h,i,d,f=>(if(decide (a<g))=true then(ck (rg a b.length) (ck ((((decide (((gt b a).from_:Int)<(c.length:Int)))&&(decide (((gt b a).to:Int)<(W ((c.length:Int)+(e.length:Int))))))=true)->rg a d.x.length) (if(((decide (((gt b a).from_:Int)<(c.length:Int)))&&(decide (((gt b a).to:Int)<(W ((c.length:Int)+(e.length:Int))))))&&(decide ((0:Int)<(gt d.x a))))=true then(ck (rg a d.x.length) (ck (fits (f.length+([(⟨(gt b a).from_,W ((gt b a).to-(c.length:Int)),gt d.x a⟩:z7)]).length) 24) ((z8w φ j) b g (W (a+1)) c e h i d ((f++[(⟨(gt b a).from_,W ((gt b a).to-(c.length:Int)),gt d.x a⟩:z7)]))))) else((z8w φ j) b g (W (a+1)) c e h i d f)))) else(zag φ 0 c e h i f))
def z3p(φ:Nat)(e:Int)(c :(List za))(d :(List zf))(i:Int)(g :(List z7))(j f :(List Int))(b :(List Arc)):Option (Bool×Unit):=(if(e !=0)=true then(zag φ e c d 0 ([]:List Int) ([]:List z7)) else((zoe φ (⟨f,b⟩:zc)).bind λa=>(if(a.2.1 !=0)=true then(zag φ a.2.1 c d 0 ([]:List Int) ([]:List z7)) else((zg6 φ (⟨f,b⟩:zc) a.1).bind λh=>(z8w φ φ b (b.length:Int) 0 c d h.1 a.1.price a.1 g)))))
def z6p(φ:Nat)(a :(List za))(b :(List zf))(c:Int)(g :(List Int))(d :(List Arc))(e :(List z7))(f :(List Int)):Option (Bool×Unit):=(if(decide ((2048:Int)<(d.length:Int)))=true then(z3p φ 2 a b c e f ([]:List Int) ([]:List Arc)) else(z3p φ 0 a b c e f g d))
def z8x(φ:Nat)(m :(Int->Int->Int->Int->Pool->(List za)->(List zf)->Int->(List Int)->(List Arc)->(List z7)->(List Int)->Option (Bool×Unit))):Nat->Int->Int->Int->Int->Int->Int->Int->Pool->za->(List za)->(List zf)->Int->(List Int)->(List Arc)->(List z7)->(List Int)->Option (Bool×Unit)
 |0,_,_,_,_,_,_,_,_,_,_,_,_,_,_,_,_=>none
 |s+1,n,o,e,p,q,r,a,g,d,c,b,h,i,f,j,k=>(if(decide (a<r))=true then(ck (rg a b.length) ((z1g φ g d (gt b a)).bind λl=>(if l.2.1=true then(ck (fits (f.length+([(⟨e,W ((c.length:Int)+a),min2 d.count ((gt b a).count),l.1⟩:Arc)]).length) 32) (if(!true)=true then(z6p φ c b h i ((f++[(⟨e,W ((c.length:Int)+a),min2 d.count ((gt b a).count),l.1⟩:Arc)])) j k) else((z8x φ m s) n o e p q r (W (a+1)) g d c b h i ((f++[(⟨e,W ((c.length:Int)+a),min2 d.count ((gt b a).count),l.1⟩:Arc)])) j k))) else((z8x φ m s) n o e p q r (W (a+1)) g d c b h i f j k)))) else(m n o p (W (q+1)) g c b h i f j k))
def zdp(φ:Nat):Nat->Int->Int->Int->Int->(List za)->(List zf)->Int->(List Int)->(List Arc)->(List z7)->(List Int)->Option (Bool×Unit)
 |0,_,_,_,_,_,_,_,_,_,_,_=>none
 |l+1,b,e,k,a,c,f,g,h,d,i,j=>(if(decide (a<k))=true then(ck (rg a c.length) (ck (fits (d.length+([(⟨a,W (b+1),(gt c a).count,0⟩:Arc)]).length) 32) (if(!true)=true then(z6p φ c f g h (d++[(⟨a,W (b+1),(gt c a).count,0⟩:Arc)]) i j) else((zdp φ l) b e k (W (a+1)) c f g h (d++[(⟨a,W (b+1),(gt c a).count,0⟩:Arc)]) i j)))) else(ck (fits (d.length+([(⟨b,W (b+1),e,0⟩:Arc)]).length) 32) (z6p φ c f g h (d++[(⟨b,W (b+1),e,0⟩:Arc)]) i j)))
def zdo(φ:Nat):Nat->Int->Int->Int->Int->(List zf)->(List za)->Int->(List Int)->(List Arc)->(List z7)->(List Int)->Option (Bool×Unit)
 |0,_,_,_,_,_,_,_,_,_,_,_=>none
 |l+1,d,j,k,a,b,c,f,g,e,h,i=>(if(decide (a<k))=true then(ck (rg a b.length) (ck (fits (e.length+([(⟨d,W ((c.length:Int)+a),(gt b a).count,(gt b a).weight⟩:Arc)]).length) 32) (if(!true)=true then(z6p φ c b f g ((e++[(⟨d,W ((c.length:Int)+a),(gt b a).count,(gt b a).weight⟩:Arc)])) h i) else((zdo φ l) d (W (j+(gt b a).count)) k (W (a+1)) b c f g ((e++[(⟨d,W ((c.length:Int)+a),(gt b a).count,(gt b a).weight⟩:Arc)])) h i)))) else(zdp φ φ d j (c.length:Int) 0 c b f g e h i))
def zdn(φ:Nat):Nat->Int->Int->Int->Int->Pool->(List za)->(List zf)->Int->(List Int)->(List Arc)->(List z7)->(List Int)->Option (Bool×Unit)
 |0,_,_,_,_,_,_,_,_,_,_,_,_=>none
 |l+1,d,e,f,a,m,b,c,g,h,i,j,k=>(if(decide (a<f))=true then(ck (rg a b.length) (z8x φ (zdn φ l) φ d e a f a (c.length:Int) 0 m (gt b a) b c g h i j k)) else(zdo φ φ d e (c.length:Int) 0 c b g h i j k))
def zdm(φ:Nat):Nat->Int->Int->Int->Int->(List za)->(List zf)->Pool->Int->(List Int)->(List Arc)->(List z7)->(List Int)->Option (Bool×Unit)
 |0,_,_,_,_,_,_,_,_,_,_,_,_=>none
 |m+1,e,f,k,b,c,a,j,g,d,l,h,i=>(if(decide (b<k))=true then(ck (rg b a.length) ((z34 φ j (gt a b)).bind λn=>(if(!n.1)=true then(z3p φ 1 c a g h i ([]:List Int) ([]:List Arc)) else(ck (fits (d.length+([(W (0-(gt a b).count))]).length) 8) ((zdm φ m) e (W (f+(gt a b).count)) k (W (b+1)) c a j g ((d++[(W (0-(gt a b).count))])) l h i))))) else(ck (fits (d.length+([f,(W (0-e))]).length) 8) (if(decide ((256:Int)<((d++[f,(W (0-e))]).length:Int)))=true then(z3p φ 2 c a g h i ([]:List Int) ([]:List Arc)) else(zdn φ φ (W ((c.length:Int)+(a.length:Int))) 0 (c.length:Int) 0 j c a g (d++[f,(W (0-e))]) l h i))))
def zdl(φ:Nat):Nat->Int->Int->Int->Int->(List za)->(List zf)->Pool->Int->(List Int)->(List Arc)->(List z7)->(List Int)->Option (Bool×Unit)
 |0,_,_,_,_,_,_,_,_,_,_,_,_=>none
 |m+1,i,j,k,b,a,c,d,e,f,l,g,h=>(if(decide (b<k))=true then(ck (rg b a.length) ((z2b φ d (gt a b)).bind λn=>(if(!n.1)=true then(z3p φ 1 a c e g h ([]:List Int) ([]:List Arc)) else(ck (fits (f.length+([(gt a b).count]).length) 8) ((zdl φ m) (W (i+(gt a b).count)) j k (W (b+1)) a c d e (f++[(gt a b).count]) l g h))))) else(zdm φ φ i j (c.length:Int) 0 a c d e f l g h))
def zg7(φ:Nat):Option (Bool×Unit):=((zd7 φ 0 0 145 45).bind λa=>((zn (default,()) ((!a.1)=false) (zd7 φ 0 0 144 (-1))).bind λb=>((zn (default,()) (((!a.1)||(!b.1))=false) (zd7 φ 1 0 145 52)).bind λc=>((zn (default,()) ((((!a.1)||(!b.1))||(!c.1))=false) (zd7 φ 0 1 145 (-1))).bind λf=>(if((((!a.1)||(!b.1))||(!c.1))||(!f.1))=true then(some (false,())) else((zcl φ).bind λd=>((z1h φ d.1).bind λe=>(if(e.1 !=0)=true then(z3p φ e.1 ([(⟨0,1,0,100,2⟩:za)]) ([(⟨0,2,1,0,500,3,1000⟩:zf)]) 0 ([]:List z7) ([]:List Int) ([]:List Int) ([]:List Arc)) else(zdl φ φ 0 0 (([(⟨0,1,0,100,2⟩:za)]).length:Int) 0 ([(⟨0,1,0,100,2⟩:za)]) ([(⟨0,2,1,0,500,3,1000⟩:zf)]) d.1 0 ([]:List Int) ([]:List Arc) ([]:List z7) ([]:List Int))))))))))
def zjs(φ:Nat):Fsp TV:=⟨[],[.val 27],λz=>zg7 φ⟩
def z2t(φ:Nat):Nat->Int->Pool->Option (Bool×Unit)
 |0,_,_=>none
 |c+1,a,b=>(if(decide (a<(b.railways.length:Int)))=true then(ck (rg a b.railways.length) (if(decide ((100:Int)<((((gt b.railways a).calendar).holidays).length:Int)))=true then(some (false,())) else((z2t φ c) (W (a+1)) b))) else(some (true,())))
def z9c(φ:Nat)(a:Pool):Option (Bool×Unit):=(if(((((((decide ((16:Int)<(a.network.places.length:Int)))||(decide ((40:Int)<(a.network.edges.length:Int))))||(decide ((8:Int)<(a.fleet.wagons.length:Int))))||(decide ((8:Int)<(a.readers.length:Int))))||(decide ((100:Int)<(a.fleet.swaps.length:Int))))||(decide ((100:Int)<(a.fleet.washes.length:Int))))||(decide ((17:Int)<(a.railways.length:Int))))=true then(some (false,())) else(z2t φ φ 0 a))
def za7(φ:Nat):Fsp TV:=⟨[26],[.val 27],λz=>z9c φ z.1⟩
def zn1(φ:Nat)(a:Pool)(b :(List za))(c :(List zf)):Option (Bool×Unit):=((z9c φ a).bind λd=>(some (((d.1&&(decide (((b.length:Int):Int)<=6)))&&(decide (((c.length:Int):Int)<=6))),())))
def zlw(φ:Nat):Fsp TV:=⟨[26,36,37],[.val 27],kk3 (zn1 φ)⟩
def zea(φ:Nat)(a :(List Int)):Option ((List Int)×Unit):=(ck (a.isEmpty=false) (ck (fits (([]:List Int).length+a.length) 8) (some ((([]:List Int)++a),()))))
def zaa(φ:Nat):Fsp TV:=⟨[22],[.row 3 0],λz=>zea φ z.1⟩
def z2x(φ:Nat)(e :((List za)->(List z7)->Int->(List Arc)->Int->Int->(List Int)->(List Int)->Option ((List Int)×Bool×Unit)))(f :(List za))(g :(List z7))(h c:Int)(i :(List Arc))(j k:Int)(d b :(List Int))(a:Arc):Option ((List Int)×Bool×Unit):=(ck (rg a.from_ b.length) (ck (rg a.from_ b.length) (ck (rg a.to (((zl b a.from_ (W ((gt b a.from_)-c)))).length)) (ck (rg a.to (((zl b a.from_ (W ((gt b a.from_)-c)))).length)) (ck (fits (d.length+([c]).length) 8) (e f g h i j (W (k+1)) (d++[c]) ((zl ((zl b a.from_ (W ((gt b a.from_)-c)))) a.to ((W ((gt ((zl b a.from_ (W ((gt b a.from_)-c)))) a.to)+c)))))))))))
def zp(φ:Nat):Nat->(List za)->(List z7)->Int->(List Arc)->Int->Int->(List Int)->(List Int)->Option ((List Int)×Bool×Unit)
 |0,_,_,_,_,_,_,_,_=>none
 |i+1,f,b,e,c,g,a,h,d=>(if(decide (a<g))=true then(ck (rg a c.length) (if((decide (((gt c a).from_:Int)<(f.length:Int)))&&(decide (((gt c a).to:Int)<e)))=true then(ck (((decide ((0:Int)<(b.length:Int)))=true)->rg 0 b.length) (ck ((((decide ((0:Int)<(b.length:Int)))&&(((gt b 0).supply:Int)==(gt c a).from_))=true)->rg 0 b.length) (if(((decide ((0:Int)<(b.length:Int)))&&(((gt b 0).supply:Int)==(gt c a).from_))&&(((gt b 0).order:Int)==(W ((gt c a).to-(f.length:Int)))))=true then(ck (rg 0 b.length) (ck (((decide (((gt b 0).count:Int)<1))=false)->rg (gt c a).from_ d.length) (ck ((((decide (((gt b 0).count:Int)<1))||(decide (((gt d ((gt c a).from_)):Int)<(gt b 0).count)))=false)->rg (gt c a).to d.length) (if(((decide (((gt b 0).count:Int)<1))||(decide (((gt d ((gt c a).from_)):Int)<(gt b 0).count)))||(decide (((W (0-(gt d ((gt c a).to)))):Int)<(gt b 0).count)))=true then(some (([]:List Int),false,())) else(ck ((0:Int)<=1/\1<=(b.length:Int)/\(b.length:Int)<=(b.length:Int)) (z2x φ (zp φ i) f (z5r b (1:Int).toNat ((b.length:Int):Int).toNat) e ((gt b 0).count) c g a h d (gt c a))))))) else(z2x φ (zp φ i) f b e 0 c g a h d (gt c a))))) else(if((((gt c a).from_:Int)==e)&&(decide (((gt c a).to:Int)<e)))=true then(ck (rg (gt c a).to d.length) (z2x φ (zp φ i) f b e ((W (0-(gt d ((gt c a).to))))) c g a h d (gt c a))) else(ck (rg (gt c a).from_ d.length) (z2x φ (zp φ i) f b e (gt d ((gt c a).from_)) c g a h d (gt c a)))))) else(some (h,(((b.length:Int):Int)==0),())))
def z6g(φ:Nat)(a:zc)(b :(List za))(c :(List zf))(d :(List z7)):Option ((List Int)×Bool×Unit):=((zea φ a.supply).bind λe=>(zp φ φ b d (W ((b.length:Int)+(c.length:Int))) a.arcs (a.arcs.length:Int) 0 ([]:List Int) e.1))
def zf2(φ:Nat):Fsp TV:=⟨[40,36,37,46],[.val 22,.val 27],kk4 (z6g φ)⟩
def z1i(φ:Nat):Nat->(List Arc)->Int->Int->Flow->Option (Int×Unit)
 |0,_,_,_,_=>none
 |e+1,b,d,a,c=>(if(decide (a<d))=true then(ck (rg a b.length) (ck (rg (gt b a).from_ c.price.length) (ck (rg (gt b a).to c.price.length) (ck (rg a c.x.length) (ck ((((decide (((gt c.x a):Int)<(gt b a).cap))&&(decide (((W ((W ((gt b a).cost+(gt c.price ((gt b a).from_))))-(gt c.price ((gt b a).to)))):Int)<0)))=false)->rg a c.x.length) (if(((decide (((gt c.x a):Int)<(gt b a).cap))&&(decide (((W ((W ((gt b a).cost+(gt c.price ((gt b a).from_))))-(gt c.price ((gt b a).to)))):Int)<0)))||((decide ((0:Int)<(gt c.x a)))&&(decide ((0:Int)<(W ((W ((gt b a).cost+(gt c.price ((gt b a).from_))))-(gt c.price ((gt b a).to))))))))=true then(some (361,())) else((z1i φ e) b d (W (a+1)) c))))))) else(some (0,())))
def z3n(φ:Nat):Nat->(List Int)->Int->Int->zc->Flow->Option (Int×Unit)
 |0,_,_,_,_,_=>none
 |f+1,b,d,a,c,e=>(if(decide (a<d))=true then(ck (rg a b.length) ((z4a φ (gt b a) (-1125899906842624) 1125899906842624).bind λg=>(if(!g.1)=true then(some (361,())) else((z3n φ f) b d (W (a+1)) c e)))) else(z1i φ φ c.arcs (c.arcs.length:Int) 0 e))
def zh6(φ:Nat)(b:zc)(a:Flow):Option (Int×Unit):=((zck φ b).bind λc=>(if(c.1 !=0)=true then(some (c.1,())) else((z8o φ b a).bind λd=>(if(!d.1)=true then(some (360,())) else(if(((a.price.length:Int):Int) !=(b.supply.length:Int))=true then(some (361,())) else(z3n φ φ a.price (a.price.length:Int) 0 b a))))))
def zh8(φ:Nat):Fsp TV:=⟨[40,41],[.val 0],kk2 (zh6 φ)⟩
def z3b(φ:Nat)(g:Pool)(d :(List za))(e :(List zf))(b:Plan):Option (Int×Unit):=((z80 φ g d e).bind λa=>(if(a.2.1 !=0)=true then(some (a.2.1,())) else((z6g φ a.1 d e b.transfers).bind λc=>((zn (default,()) ((!c.2.1)=false) (zh6 φ a.1 (⟨c.1,b.price⟩:Flow))).bind λh=>(if((!c.2.1)||(h.1 !=0))=true then(some (370,())) else((zg6 φ a.1 (⟨c.1,b.price⟩:Flow)).bind λf=>(if((f.2.1 !=0)||(f.1 !=b.cost))=true then(some (370,())) else(some (0,())))))))))
def zbb(φ:Nat):Fsp TV:=⟨[26,36,37,47],[.val 0],kk4 (z3b φ)⟩
def z1l(φ:Nat)(a b c:Int):Option (Bool×Unit):=(some (((decide (b<=a))&&(decide (a<=c))),()))
def z6t(φ:Nat):Fsp TV:=⟨[0,0,0],[.val 27],kk3 (z1l φ)⟩
def zhv(φ:Nat)(a:zgg):Option (Bool×Unit):=((z1l φ a.kind 1 5).bind λb=>((zn (default,()) ((!b.1)=false) (z1l φ a.railway 0 15)).bind λc=>(if((!b.1)||(!c.1))=true then(some (false,())) else(if((a.kind:Int)==3)=true then((z1l φ a.other 0 15).bind λd=>(some ((d.1&&((a.other:Int) !=a.railway)),()))) else(some (((a.other:Int)==(-1)),()))))))
def zhx(φ:Nat):Fsp TV:=⟨[1],[.val 27],λz=>zhv φ z.1⟩
def zl1(φ:Nat)(c:Edge)(g:Int):Option (Bool×Unit):=((z1l φ c.a 0 (W (g-1))).bind λd=>((zn (default,()) (d.1=true) (z1l φ c.b 0 (W (g-1)))).bind λe=>((zn (default,()) (((d.1&&e.1)&&((c.a:Int) !=c.b))=true) (z1l φ c.railway 0 15)).bind λf=>((zn (default,()) ((((d.1&&e.1)&&((c.a:Int) !=c.b))&&f.1)=true) (z1l φ c.minutes 1 100000)).bind λh=>((zn (default,()) (((((d.1&&e.1)&&((c.a:Int) !=c.b))&&f.1)&&h.1)=true) (z1l φ c.km 0 10000)).bind λi=>(some ((((((d.1&&e.1)&&((c.a:Int) !=c.b))&&f.1)&&h.1)&&i.1),())))))))
def zk0(φ:Nat):Fsp TV:=⟨[3,0],[.val 27],kk2 (zl1 φ)⟩
def z4l(φ:Nat):Nat->Int->zi->Option (Int×Unit)
 |0,_,_=>none
 |c+1,b,a=>(if(decide (b<(a.edges.length:Int)))=true then(ck (rg b a.edges.length) ((zl1 φ (gt a.edges b) (a.places.length:Int)).bind λd=>(if(!d.1)=true then(some (1,())) else((z4l φ c) (W (b+1)) a)))) else(some (0,())))
def z5w(φ:Nat):Nat->Int->zi->Option (Int×Unit)
 |0,_,_=>none
 |c+1,b,a=>(if(decide (b<(a.places.length:Int)))=true then(ck (rg b a.places.length) ((zhv φ (gt a.places b)).bind λd=>(if(!d.1)=true then(some (1,())) else((z5w φ c) (W (b+1)) a)))) else(z4l φ φ 0 a))
def ze2(φ:Nat)(a:zi):Option (Int×Unit):=(if((decide ((512:Int)<(a.places.length:Int)))||(decide ((2048:Int)<(a.edges.length:Int))))=true then(some (2,())) else(z5w φ φ 0 a))
def zc7(φ:Nat):Fsp TV:=⟨[5],[.val 0],λz=>ze2 φ z.1⟩
def zw(φ:Nat)(a b c:Int):Option (Bool×Unit):=(some (((decide (b<=a))&&(decide (a<=c))),()))
def z2c(φ:Nat):Fsp TV:=⟨[0,0,0],[.val 27],kk3 (zw φ)⟩
def ze6(φ:Nat)(a:z2g):Option (Bool×Unit):=((zw φ a.load 0 1000000).bind λb=>((zn (default,()) (b.1=true) (zw φ a.tare 0 1000000)).bind λc=>((zn (default,()) ((b.1&&c.1)=true) (zw φ a.length 0 1000000)).bind λd=>((zn (default,()) (((b.1&&c.1)&&d.1)=true) (zw φ a.brake 0 1000000)).bind λe=>((zn (default,()) ((((b.1&&c.1)&&d.1)&&e.1)=true) (zw φ a.gauge 0 7)).bind λf=>((zn (default,()) (((((b.1&&c.1)&&d.1)&&e.1)&&f.1)=true) (zw φ a.life 1 1073741824)).bind λg=>((zn (default,()) ((((((b.1&&c.1)&&d.1)&&e.1)&&f.1)&&g.1)=true) (zw φ a.floor 0 100)).bind λh=>(some (((((((b.1&&c.1)&&d.1)&&e.1)&&f.1)&&g.1)&&h.1),())))))))))
def za5(φ:Nat):Fsp TV:=⟨[7],[.val 27],λz=>ze6 φ z.1⟩
def zbl(φ:Nat)(a:zr4)(f:Int):Option (Bool×Unit):=((zw φ a.type_ 0 (W (f-1))).bind λb=>((zn (default,()) (b.1=true) (zw φ a.owner 0 63)).bind λc=>((zn (default,()) ((b.1&&c.1)=true) (zw φ a.home 0 511)).bind λd=>((zn (default,()) (((b.1&&c.1)&&d.1)=true) (zw φ a.built 0 1073741824)).bind λe=>((zn (default,()) ((((b.1&&c.1)&&d.1)&&e.1)=true) (zw φ a.worth 0 1099511627776)).bind λg=>(some (((((b.1&&c.1)&&d.1)&&e.1)&&g.1),())))))))
def z9b(φ:Nat):Fsp TV:=⟨[9,0],[.val 27],kk2 (zbl φ)⟩
def z5e(φ:Nat):Nat->(List Wash)->Int->(List Bool)->Option (Int×Unit)
 |0,_,_,_=>none
 |f+1,a,b,c=>(if(decide (b<(a.length:Int)))=true then(ck (rg b a.length) ((zw φ ((gt a b).from_) 0 63).bind λd=>((zn (default,()) ((!d.1)=false) (zw φ ((gt a b).to) 0 63)).bind λe=>((zn (default,()) ((((!d.1)||(!e.1))||(((gt a b).from_:Int)==(gt a b).to))=false) (zw φ ((gt a b).minutes) 0 100000)).bind λg=>(if((((!d.1)||(!e.1))||(((gt a b).from_:Int)==(gt a b).to))||(!g.1))=true then(some (1,())) else(ck (rg ((W ((W (64*(gt a b).from_))+(gt a b).to))) c.length) (if(gt c ((W ((W (64*(gt a b).from_))+(gt a b).to))))=true then(some (1,())) else(ck (rg ((W ((W (64*(gt a b).from_))+(gt a b).to))) c.length) ((z5e φ f) a (W (b+1)) ((zl c ((W ((W (64*(gt a b).from_))+(gt a b).to))) true))))))))))) else(some (0,())))
def zay(φ:Nat)(a :(List Wash)):Option (Int×Unit):=(ck (zd 4096 1) (z5e φ φ a 0 (List.replicate (4096:Int).toNat (default:Bool))))
def zfo(φ:Nat):Fsp TV:=⟨[14],[.val 0],λz=>zay φ z.1⟩
def z3q(φ:Nat):Nat->Int->z1w->Option (Int×Unit)
 |0,_,_=>none
 |e+1,b,a=>(if(decide (b<(a.swaps.length:Int)))=true then(ck (rg b a.swaps.length) ((zw φ ((gt a.swaps b).wanted) 0 (W ((a.types.length:Int)-1))).bind λc=>((zn (default,()) ((!c.1)=false) (zw φ ((gt a.swaps b).given) 0 (W ((a.types.length:Int)-1)))).bind λd=>((zn (default,()) ((((!c.1)||(!d.1))||(((gt a.swaps b).wanted:Int)==(gt a.swaps b).given))=false) (zw φ ((gt a.swaps b).cost) 0 1000000000)).bind λf=>(if((((!c.1)||(!d.1))||(((gt a.swaps b).wanted:Int)==(gt a.swaps b).given))||(!f.1))=true then(some (1,())) else((z3q φ e) (W (b+1)) a)))))) else((zay φ a.washes).bind λg=>(some (g.1,()))))
def z4m(φ:Nat):Nat->Int->z1w->Option (Int×Unit)
 |0,_,_=>none
 |c+1,b,a=>(if(decide (b<(a.wagons.length:Int)))=true then(ck (rg b a.wagons.length) ((zbl φ (gt a.wagons b) (a.types.length:Int)).bind λd=>(if(!d.1)=true then(some (1,())) else((z4m φ c) (W (b+1)) a)))) else(z3q φ φ 0 a))
def z5y(φ:Nat):Nat->Int->z1w->Option (Int×Unit)
 |0,_,_=>none
 |c+1,b,a=>(if(decide (b<(a.types.length:Int)))=true then(ck (rg b a.types.length) ((ze6 φ (gt a.types b)).bind λd=>(if(!d.1)=true then(some (1,())) else((z5y φ c) (W (b+1)) a)))) else(z4m φ φ 0 a))
def za1(φ:Nat)(a:z1w):Option (Int×Unit):=(if((((decide ((32:Int)<(a.types.length:Int)))||(decide ((4096:Int)<(a.wagons.length:Int))))||(decide ((1024:Int)<(a.swaps.length:Int))))||(decide ((4096:Int)<(a.washes.length:Int))))=true then(some (2,())) else(z5y φ φ 0 a))
def z99(φ:Nat):Fsp TV:=⟨[15],[.val 0],λz=>za1 φ z.1⟩
def z4o(φ:Nat):Nat->Int->Int->Pool->Option (Bool×Unit)
 |0,_,_,_=>none
 |d+1,c,a,b=>(if(decide (a<(b.fleet.wagons.length:Int)))=true then(ck (rg a b.fleet.wagons.length) (if(decide (c<=(gt b.fleet.wagons a).home))=true then(some (false,())) else((z4o φ d) c (W (a+1)) b))) else(some (true,())))
def z4n(φ:Nat):Nat->Int->Int->Pool->Option (Bool×Unit)
 |0,_,_,_=>none
 |e+1,c,b,a=>(if(decide (b<(a.shippers.length:Int)))=true then(ck (rg b a.shippers.length) ((zw φ ((gt a.shippers b).place) 0 (W (c-1))).bind λd=>(ck (((!d.1)=false)->rg b a.shippers.length) (ck (((!d.1)=false)->rg (gt a.shippers b).place a.network.places.length) (if((!d.1)||(((gt a.network.places ((gt a.shippers b).place)).kind:Int) !=4))=true then(some (false,())) else((z4n φ e) c (W (b+1)) a)))))) else(z4o φ φ c 0 a))
def z76(φ:Nat):Nat->Int->Int->Pool->Option (Bool×Unit)
 |0,_,_,_=>none
 |d+1,c,b,a=>(if(decide (b<(a.readers.length:Int)))=true then(ck (rg b a.readers.length) ((zw φ ((gt a.readers b).place) 0 (W (c-1))).bind λe=>(if((((!e.1)||(decide (((gt a.readers b).low:Int)<(-1000))))||(decide (((gt a.readers b).high:Int)<(gt a.readers b).low)))||(decide ((1000:Int)<(gt a.readers b).high)))=true then(some (false,())) else((z76 φ d) c (W (b+1)) a)))) else(z4n φ φ c 0 a))
def zl2(φ:Nat)(a:Pool):Option (Bool×Unit):=(z76 φ φ (a.network.places.length:Int) 0 a)
def zk2(φ:Nat):Fsp TV:=⟨[26],[.val 27],λz=>zl2 φ z.1⟩
def z4p(φ:Nat):Nat->Int->Int->Pool->Option (Bool×Unit)
 |0,_,_,_=>none
 |d+1,c,a,b=>(if(decide (a<(b.network.edges.length:Int)))=true then(ck (rg a b.network.edges.length) (if(decide (c<=(gt b.network.edges a).railway))=true then(some (false,())) else((z4p φ d) c (W (a+1)) b))) else(some (true,())))
def z60(φ:Nat):Nat->Int->Int->Pool->Option (Bool×Unit)
 |0,_,_,_=>none
 |d+1,c,b,a=>(if(decide (b<(a.network.places.length:Int)))=true then(ck (rg b a.network.places.length) (if((decide (c<=(gt a.network.places b).railway))||(decide (c<=(gt a.network.places b).other)))=true then(some (false,())) else((z60 φ d) c (W (b+1)) a))) else(z4p φ φ c 0 a))
def zi5(φ:Nat)(a:Pool):Option (Bool×Unit):=(z60 φ φ (a.railways.length:Int) 0 a)
def zi7(φ:Nat):Fsp TV:=⟨[26],[.val 27],λz=>zi5 φ z.1⟩
def z5v(φ:Nat):Nat->Int->z5k->Option (Int×Unit)
 |0,_,_=>none
 |c+1,a,b=>(if(decide (a<(b.holidays.length:Int)))=true then(ck (rg a b.holidays.length) (ck ((((decide (((gt b.holidays a):Int)<0))||(decide ((745654:Int)<(gt b.holidays a))))=false/\(decide ((0:Int)<a))=true)->rg (W (a-1)) b.holidays.length) (if(((decide (((gt b.holidays a):Int)<0))||(decide ((745654:Int)<(gt b.holidays a))))||((decide ((0:Int)<a))&&(decide (((gt b.holidays a):Int)<=(gt b.holidays (W (a-1)))))))=true then(some (1,())) else((z5v φ c) (W (a+1)) b)))) else(some (0,())))
def z5u(φ:Nat):Nat->Int->z5k->Option (Int×Unit)
 |0,_,_=>none
 |c+1,a,b=>(if(decide (a<7))=true then(ck (rg a 7) (if(((decide (((b.open_ (a.toNat)).from_:Int)<0))||(decide (((b.open_ (a.toNat)).to:Int)<(b.open_ (a.toNat)).from_)))||(decide ((1440:Int)<(b.open_ (a.toNat)).to)))=true then(some (1,())) else((z5u φ c) (W (a+1)) b))) else(z5v φ φ 0 b))
def zhp(φ:Nat)(a:z5k):Option (Int×Unit):=(z5u φ φ 0 a)
def zhr(φ:Nat):Fsp TV:=⟨[23],[.val 0],λz=>zhp φ z.1⟩
def z95(φ:Nat)(c :(Int->Int->Int->Int->Option (Int×Unit)))(b d a e:Int):Option (Int×Unit):=(ck (a≠0) (if(2:Int)≠0 then(c ((((U (b+b)):Int).tmod a)) (U (d.tdiv 2)) a e) else none))
def z3d(φ:Nat):Nat->Int->Int->Int->Int->Option (Int×Unit)
 |0,_,_,_,_=>none
 |e+1,c,a,b,d=>(if(decide ((0:Int)<a))=true then(if(2:Int)≠0 then(if(((a.tmod 2):Int)==1)=true then(ck (b≠0) (z95 φ (z3d φ e) c a b ((((U (d+c)):Int).tmod b)))) else(z95 φ (z3d φ e) c a b d)) else none) else(some (d,())))
def zdz(φ:Nat)(a b c:Int):Option (Int×Unit):=(z3d φ φ a b c 0)
def zhl(φ:Nat):Fsp TV:=⟨[6,6,6],[.val 6],kk3 (zdz φ)⟩
def zc2(φ:Nat)(b :(Int->Int->Int->Option (Int×Unit)))(a c d:Int):Option (Int×Unit):=((zdz φ a a 2305843009213690799).bind λe=>(if(2:Int)≠0 then(b e.1 (U (c.tdiv 2)) d) else none))
def z5j(φ:Nat):Nat->Int->Int->Int->Option (Int×Unit)
 |0,_,_,_=>none
 |d+1,b,a,c=>(if(decide ((0:Int)<a))=true then(if(2:Int)≠0 then(if(((a.tmod 2):Int)==1)=true then((zdz φ c b 2305843009213690799).bind λe=>(zc2 φ (z5j φ d) b a e.1)) else(zc2 φ (z5j φ d) b a c)) else none) else(some (c,())))
def znb(φ:Nat)(a b:Int):Option (Int×Unit):=(if(2305843009213690799:Int)≠0 then(z5j φ φ (a.tmod 2305843009213690799) b 1) else none)
def zm3(φ:Nat):Fsp TV:=⟨[6,6],[.val 6],kk2 (znb φ)⟩
def zhm(φ:Nat)(a:Int):Option (Bool×Unit):=((zn (default,()) (((decide ((2:Int)<=a))&&(decide (a<2305843009213690799)))=true) (znb φ a 1152921504606845399)).bind λb=>(some ((((decide ((2:Int)<=a))&&(decide (a<2305843009213690799)))&&(b.1==1)),())))
def zho(φ:Nat):Fsp TV:=⟨[6],[.val 27],λz=>zhm φ z.1⟩
def z1m(φ:Nat):Nat->Int->Pool->Option (Int×Unit)
 |0,_,_=>none
 |d+1,b,a=>(if(decide (b<(a.railways.length:Int)))=true then(ck (rg b a.railways.length) ((zhp φ ((gt a.railways b).calendar)).bind λc=>(ck (((c.1 !=0)=false)->rg b a.railways.length) ((zn (default,()) ((c.1 !=0)=false) (zhm φ ((gt a.railways b).key))).bind λe=>(if((c.1 !=0)||(!e.1))=true then(some (1,())) else((z1m φ d) (W (b+1)) a)))))) else(if(((a.railways.length:Int):Int)==0)=true then(some (1,())) else(some (0,()))))
def z98(φ:Nat)(a:Pool):Option (Int×Unit):=((ze2 φ a.network).bind λb=>(if(b.1 !=0)=true then(some (b.1,())) else((za1 φ a.fleet).bind λc=>(if(c.1 !=0)=true then(some (c.1,())) else(if(((decide ((256:Int)<(a.readers.length:Int)))||(decide ((256:Int)<(a.shippers.length:Int))))||(decide ((16:Int)<(a.railways.length:Int))))=true then(some (2,())) else((zl2 φ a).bind λd=>((zn (default,()) ((!d.1)=false) (zi5 φ a)).bind λe=>(if((!d.1)||(!e.1))=true then(some (1,())) else(z1m φ φ 0 a)))))))))
def za3(φ:Nat):Fsp TV:=⟨[26],[.val 0],λz=>z98 φ z.1⟩
def z11(φ:Nat)(a b c:Int):Option (Bool×Unit):=(some (((decide (b<=a))&&(decide (a<=c))),()))
def z9f(φ:Nat):Fsp TV:=⟨[0,0,0],[.val 27],kk3 (z11 φ)⟩
def zke(φ:Nat)(e:Pool)(a:za):Option (Bool×Unit):=((z11 φ a.type_ 0 (W ((e.fleet.types.length:Int)-1))).bind λb=>((zn (default,()) (b.1=true) (z11 φ a.class_ (-1) 63)).bind λc=>((zn (default,()) ((b.1&&c.1)=true) (z11 φ a.place 0 (W ((e.network.places.length:Int)-1)))).bind λd=>((zn (default,()) (((b.1&&c.1)&&d.1)=true) (z11 φ a.at_ 0 1073741824)).bind λf=>((zn (default,()) ((((b.1&&c.1)&&d.1)&&f.1)=true) (z11 φ a.count 1 4096)).bind λg=>(some (((((b.1&&c.1)&&d.1)&&f.1)&&g.1),())))))))
def zfx(φ:Nat):Fsp TV:=⟨[26,29],[.val 27],kk2 (zke φ)⟩
def zm7(φ:Nat)(f:Pool)(a:zf):Option (Bool×Unit):=((z11 φ a.type_ 0 (W ((f.fleet.types.length:Int)-1))).bind λb=>((zn (default,()) (b.1=true) (z11 φ a.class_ 0 63)).bind λc=>((zn (default,()) ((b.1&&c.1)=true) (z11 φ a.place 0 (W ((f.network.places.length:Int)-1)))).bind λd=>((zn (default,()) (((b.1&&c.1)&&d.1)=true) (z11 φ a.from_ 0 a.to)).bind λe=>((zn (default,()) (((((b.1&&c.1)&&d.1)&&e.1)&&(decide ((a.to:Int)<=1073741824)))=true) (z11 φ a.count 1 1000)).bind λg=>((zn (default,()) ((((((b.1&&c.1)&&d.1)&&e.1)&&(decide ((a.to:Int)<=1073741824)))&&g.1)=true) (z11 φ a.weight 0 1000000000)).bind λh=>(some (((((((b.1&&c.1)&&d.1)&&e.1)&&(decide ((a.to:Int)<=1073741824)))&&g.1)&&h.1),()))))))))
def zid(φ:Nat):Fsp TV:=⟨[26,30],[.val 27],kk2 (zm7 φ)⟩
def z6r(φ:Nat)(a:zi)(b:Int):Option (Bool×Unit):=((z1l φ b 0 (W ((a.places.length:Int)-1))).bind λc=>(some (c.1,())))
def zak(φ:Nat):Fsp TV:=⟨[5,0],[.val 27],kk2 (z6r φ)⟩
def zax(φ:Nat)(a b:Int):Option (Int×Unit):=(if(decide (a<0))=true then(some (b,())) else(some ((min2 a b),())))
def zfl(φ:Nat):Fsp TV:=⟨[0,0],[.val 0],kk2 (zax φ)⟩
def z5b(φ:Nat)(g :(Bool->Int->zi->(List Int)->Option ((List Int)×Int×Unit)))(e:Bool)(h f i:Int)(j:zi)(c :(List Int))(d:Edge):Option ((List Int)×Int×Unit):=(ck ((e=false)->rg d.a c.length) (ck (((e||(((gt c d.a):Int) !=f))=false)->rg d.b c.length) (g (((e||(((gt c d.a):Int) !=f))||(((gt c d.b):Int) !=i))) (W (h+1)) j c)))
def z6s(φ:Nat)(f :(Bool->Int->zi->(List Int)->Option ((List Int)×Int×Unit)))(g:Bool)(h d c:Int)(i:zi)(e :(List Int))(b:Edge):Option ((List Int)×Int×Unit):=(if(decide ((0:Int)<=c))=true then((zax φ d (W (c+b.minutes))).bind λj=>(ck (rg b.a e.length) (z5b φ f g h d c i (zl e b.a j.1) b))) else(z5b φ f g h d c i e b))
def z0m(φ:Nat)(f :(Bool->zi->(List Int)->Option ((List Int)×Int×Unit))):Nat->Bool->Int->zi->(List Int)->Option ((List Int)×Int×Unit)
 |0,_,_,_,_=>none
 |h+1,g,d,c,e=>(if(decide (d<(c.edges.length:Int)))=true then(ck (rg d c.edges.length) (ck (rg (gt c.edges d).a e.length) (ck (rg (gt c.edges d).b e.length) (if(decide ((0:Int)<=(gt e ((gt c.edges d).a))))=true then((zax φ (gt e ((gt c.edges d).b)) ((W ((gt e ((gt c.edges d).a))+(gt c.edges d).minutes)))).bind λi=>(ck (rg (gt c.edges d).b e.length) (z6s φ (z0m φ f h) g d (gt e ((gt c.edges d).a)) (gt e ((gt c.edges d).b)) c (zl e ((gt c.edges d).b) i.1) (gt c.edges d)))) else(z6s φ (z0m φ f h) g d (gt e ((gt c.edges d).a)) (gt e ((gt c.edges d).b)) c e (gt c.edges d)))))) else(f g c e))
def z1k(φ:Nat):Nat->Bool->zi->(List Int)->Option ((List Int)×Int×Unit)
 |0,_,_,_=>none
 |b+1,c,d,a=>(if c=true then(z0m φ (z1k φ b) φ false 0 d a) else(some (a,0,())))
def z5x(φ:Nat):Nat->Int->Int->zi->(List Int)->Option ((List Int)×Int×Unit)
 |0,_,_,_,_=>none
 |e+1,c,b,d,a=>(if(decide (b<(a.length:Int)))=true then(ck (rg b a.length) ((z5x φ e) c (W (b+1)) d (zl a b (-1)))) else(ck (rg c a.length) (z1k φ φ true d (zl a c 0))))
def za0(φ:Nat)(a:zi)(b:Int):Option ((List Int)×Int×Unit):=((ze2 φ a).bind λc=>(if(c.1 !=0)=true then(some (([]:List Int),c.1,())) else((z6r φ a b).bind λd=>(if(!d.1)=true then(some (([]:List Int),1,())) else(ck (zd (a.places.length:Int) 8) (z5x φ φ b 0 a (List.replicate ((a.places.length:Int):Int).toNat (default:Int))))))))
def zhu(φ:Nat):Fsp TV:=⟨[5,0],[.val 22,.val 0],kk2 (za0 φ)⟩
def z35(φ:Nat)(c:zi)(d b:Int):Option (Int×Int×Unit):=((za0 φ c d).bind λa=>(if(a.2.1 !=0)=true then(some (0,a.2.1,())) else((z6r φ c b).bind λe=>(if(!e.1)=true then(some (0,1,())) else(ck (rg b a.1.length) (if(decide (((gt a.1 b):Int)<0))=true then(some (0,80,())) else(ck (rg b a.1.length) (some ((gt a.1 b),0,())))))))))
def ze1(φ:Nat):Fsp TV:=⟨[5,0,0],[.val 0,.val 0],kk3 (z35 φ)⟩
def z5c(φ:Nat):Nat->Int->Int->Int->z1w->Option (Int×Int×Unit)
 |0,_,_,_,_=>none
 |e+1,c,d,a,b=>(if(decide (a<(b.washes.length:Int)))=true then(ck (rg a b.washes.length) (ck (((((gt b.washes a).from_:Int)==c)=true)->rg a b.washes.length) (if((((gt b.washes a).from_:Int)==c)&&(((gt b.washes a).to:Int)==d))=true then(ck (rg a b.washes.length) (some ((gt b.washes a).minutes,0,()))) else((z5c φ e) c d (W (a+1)) b)))) else(some (0,0,())))
def ze5(φ:Nat)(a:z1w)(b c:Int):Option (Int×Int×Unit):=((za1 φ a).bind λd=>(if(d.1 !=0)=true then(some (0,d.1,())) else((zw φ b 0 63).bind λe=>((zn (default,()) ((!e.1)=false) (zw φ c 0 63)).bind λf=>(if((!e.1)||(!f.1))=true then(some (0,1,())) else(z5c φ φ b c 0 a))))))
def zi1(φ:Nat):Fsp TV:=⟨[15,0,0],[.val 0,.val 0],kk3 (ze5 φ)⟩
def z1n(φ:Nat)(d :(Int->Int->z1w->(List Int)->Option ((List Swap)×Int×Unit))):Nat->Int->Int->Int->z1w->(List Int)->Option ((List Swap)×Int×Unit)
 |0,_,_,_,_,_=>none
 |g+1,e,f,b,a,c=>(if(decide (b<(a.swaps.length:Int)))=true then(ck (rg b a.swaps.length) (ck (rg (gt a.swaps b).wanted c.length) (if(decide (((gt c ((gt a.swaps b).wanted)):Int)<0))=true then((z1n φ d g) e f (W (b+1)) a c) else(ck (rg (gt a.swaps b).wanted c.length) (ck (rg (gt a.swaps b).given c.length) (ck (((decide (((gt c ((gt a.swaps b).given)):Int)<0))=false)->rg (gt a.swaps b).given c.length) (if((decide (((gt c ((gt a.swaps b).given)):Int)<0))||(decide (((W ((gt c ((gt a.swaps b).wanted))+(gt a.swaps b).cost)):Int)<(gt c ((gt a.swaps b).given)))))=true then(ck (rg (gt a.swaps b).given c.length) ((z1n φ d g) e f (W (b+1)) a ((zl c ((gt a.swaps b).given) ((W ((gt c ((gt a.swaps b).wanted))+(gt a.swaps b).cost))))))) else((z1n φ d g) e f (W (b+1)) a c)))))))) else(d e (W (f+1)) a c))
def z2n(φ:Nat):Nat->Int->Int->(List Int)->(List Swap)->Option ((List Swap)×Int×Unit)
 |0,_,_,_,_=>none
 |e+1,c,a,b,d=>(if(decide (a<(b.length:Int)))=true then(ck (rg a b.length) (if(decide ((0:Int)<=(gt b a)))=true then(ck (rg a b.length) (ck (fits (d.length+([(⟨c,a,gt b a⟩:Swap)]).length) 24) ((z2n φ e) c (W (a+1)) b (d++[(⟨c,a,gt b a⟩:Swap)])))) else((z2n φ e) c (W (a+1)) b d))) else(some (d,0,())))
def z5d(φ:Nat):Nat->Int->Int->z1w->(List Int)->Option ((List Swap)×Int×Unit)
 |0,_,_,_,_=>none
 |e+1,a,b,c,d=>(if(decide (b<(c.types.length:Int)))=true then(z1n φ (z5d φ e) φ a b 0 c d) else(z2n φ φ a 0 d ([]:List Swap)))
def z5z(φ:Nat):Nat->Int->Int->z1w->(List Int)->Option ((List Swap)×Int×Unit)
 |0,_,_,_,_=>none
 |e+1,b,c,d,a=>(if(decide (c<(a.length:Int)))=true then(ck (rg c a.length) ((z5z φ e) b (W (c+1)) d (zl a c (-1)))) else(ck (rg b a.length) (z5d φ φ b 0 d (zl a b 0))))
def zi2(φ:Nat)(a:z1w)(b:Int):Option ((List Swap)×Int×Unit):=((za1 φ a).bind λc=>(if(c.1 !=0)=true then(some (([]:List Swap),c.1,())) else((zw φ b 0 (W ((a.types.length:Int)-1))).bind λd=>(if(!d.1)=true then(some (([]:List Swap),90,())) else(ck (zd (a.types.length:Int) 8) (z5z φ φ b 0 a (List.replicate ((a.types.length:Int):Int).toNat (default:Int))))))))
def zi4(φ:Nat):Fsp TV:=⟨[15,0],[.val 12,.val 0],kk2 (zi2 φ)⟩
def z3r(φ:Nat):Nat->Int->Int->(List Swap)->Int->za->zf->Option (Int×Bool×Unit)
 |0,_,_,_,_,_,_=>none
 |g+1,c,d,a,b,e,f=>(if(decide (b<(a.length:Int)))=true then(ck (rg b a.length) (if(((gt a b).given:Int)==e.type_)=true then(ck (rg b a.length) (if((decide (((W ((W (e.at_+c))+d)):Int)<=f.to))&&(decide (((W ((W (c+d))+(gt a b).cost)):Int)<=1000000000)))=true then(some ((W ((W (c+d))+(gt a b).cost)),true,())) else((z3r φ g) c d a (W (b+1)) e f))) else((z3r φ g) c d a (W (b+1)) e f))) else(some (0,false,())))
def z3s(φ:Nat)(b c:Int)(d:Pool)(e:za)(a:zf):Option (Int×Bool×Unit):=((zi2 φ d.fleet a.type_).bind λf=>(z3r φ φ b c f.1 0 e a))
def za8(φ:Nat)(b:Pool)(a:za)(c:zf):Option (Int×Bool×Unit):=((z35 φ b.network a.place c.place).bind λd=>(ck (((d.2.1 !=0)=false)->rg a.type_ b.fleet.types.length) (ck (((d.2.1 !=0)=false)->0<=c.class_) (if(2:Int)≠0 then(if((d.2.1 !=0)||(((((((gt b.fleet.types a.type_).classes:Int).fdiv (2 ^ (min (c.class_:Int).toNat 64))):Int).tmod 2):Int)==0))=true then(some (0,false,())) else(if(decide ((0:Int)<=a.class_))=true then((ze5 φ b.fleet a.class_ c.class_).bind λe=>(z3s φ d.1 e.1 b a c)) else(z3s φ d.1 0 b a c))) else none))))
def zif(φ:Nat):Fsp TV:=⟨[26,29,30],[.val 0,.val 27],kk3 (za8 φ)⟩
def z2e(φ:Nat)(g :((List za)->(List zf)->Int->Int->Int->Pool->(List Int)->(List Arc)->(List Int)->(List Arc)->Option (zc×Int×Unit))):Nat->(List za)->(List zf)->Int->Int->Int->Int->Pool->(List Int)->(List Arc)->(List Int)->(List Arc)->Option (zc×Int×Unit)
 |0,_,_,_,_,_,_,_,_,_,_,_=>none
 |n+1,a,d,h,i,b,c,e,j,k,l,f=>(if(decide (c<(d.length:Int)))=true then(ck (rg b a.length) (ck (rg c d.length) ((za8 φ e (gt a b) (gt d c)).bind λm=>(if m.2.1=true then(ck (rg b a.length) (ck (rg c d.length) (ck (fits (f.length+([(⟨b,W ((a.length:Int)+c),min2 ((gt a b).count) ((gt d c).count),m.1⟩:Arc)]).length) 32) ((z2e φ g n) a d h i b (W (c+1)) e j k l ((f++[(⟨b,W ((a.length:Int)+c),min2 ((gt a b).count) ((gt d c).count),m.1⟩:Arc)])))))) else((z2e φ g n) a d h i b (W (c+1)) e j k l f))))) else(g a d h i (W (b+1)) e j k l f))
def z38(φ:Nat):Nat->(List za)->Int->Int->Int->(List Int)->(List Arc)->(List Int)->(List Arc)->Option (zc×Int×Unit)
 |0,_,_,_,_,_,_,_,_=>none
 |g+1,c,e,a,b,h,i,f,d=>(if(decide (b<(c.length:Int)))=true then(ck (rg b c.length) (ck (fits (d.length+([(⟨b,W (a+1),(gt c b).count,0⟩:Arc)]).length) 32) ((z38 φ g) c e a (W (b+1)) h i f (d++[(⟨b,W (a+1),(gt c b).count,0⟩:Arc)])))) else(ck (fits (d.length+([(⟨a,W (a+1),e,0⟩:Arc)]).length) 32) (if(decide ((2048:Int)<((d++[(⟨a,W (a+1),e,0⟩:Arc)]).length:Int)))=true then(some ((⟨([]:List Int),([]:List Arc)⟩:zc),2,())) else(some ((⟨f,d++[(⟨a,W (a+1),e,0⟩:Arc)]⟩:zc),0,())))))
def z1o(φ:Nat):Nat->(List za)->(List zf)->Int->Int->Int->(List Int)->(List Arc)->(List Int)->(List Arc)->Option (zc×Int×Unit)
 |0,_,_,_,_,_,_,_,_,_=>none
 |j+1,c,b,f,d,a,g,h,i,e=>(if(decide (a<(b.length:Int)))=true then(ck (rg a b.length) (ck (rg a b.length) (ck (fits (e.length+([(⟨d,W ((c.length:Int)+a),(gt b a).count,(gt b a).weight⟩:Arc)]).length) 32) ((z1o φ j) c b f d (W (a+1)) g h i ((e++[(⟨d,W ((c.length:Int)+a),(gt b a).count,(gt b a).weight⟩:Arc)])))))) else(z38 φ φ c f d 0 g h i e))
def z37(φ:Nat):Nat->(List za)->(List zf)->Int->Int->Int->Pool->(List Int)->(List Arc)->(List Int)->(List Arc)->Option (zc×Int×Unit)
 |0,_,_,_,_,_,_,_,_,_,_=>none
 |j+1,a,b,c,d,e,k,f,g,h,i=>(if(decide (e<(a.length:Int)))=true then(z2e φ (z37 φ j) φ a b c d e 0 k f g h i) else(z1o φ φ a b c d 0 f g h i))
def z36(φ:Nat):Nat->(List za)->(List zf)->Int->Int->Int->Pool->(List Int)->(List Arc)->(List Int)->(List Arc)->Option (zc×Int×Unit)
 |0,_,_,_,_,_,_,_,_,_,_=>none
 |k+1,f,a,e,c,b,g,h,i,d,j=>(if(decide (b<(a.length:Int)))=true then(ck (rg b a.length) ((zm7 φ g (gt a b)).bind λl=>(if(!l.1)=true then(some ((⟨([]:List Int),([]:List Arc)⟩:zc),1,())) else(ck (rg b a.length) (ck (rg b a.length) (ck (fits (d.length+([(W (0-(gt a b).count))]).length) 8) ((z36 φ k) f a e (W (c+(gt a b).count)) (W (b+1)) g h i ((d++[(W (0-(gt a b).count))])) j))))))) else(ck (fits (d.length+([c,(W (0-e))]).length) 8) (if(decide ((256:Int)<((d++[c,(W (0-e))]).length:Int)))=true then(some ((⟨([]:List Int),([]:List Arc)⟩:zc),2,())) else(z37 φ φ f a c (W ((f.length:Int)+(a.length:Int))) 0 g h i (d++[c,(W (0-e))]) j))))
def z4f(φ:Nat):Nat->(List za)->(List zf)->Int->Int->Int->Pool->(List Int)->(List Arc)->(List Int)->(List Arc)->Option (zc×Int×Unit)
 |0,_,_,_,_,_,_,_,_,_,_=>none
 |k+1,a,e,f,g,b,c,h,i,d,j=>(if(decide (b<(a.length:Int)))=true then(ck (rg b a.length) ((zke φ c (gt a b)).bind λl=>(if(!l.1)=true then(some ((⟨([]:List Int),([]:List Arc)⟩:zc),1,())) else(ck (rg b a.length) (ck (rg b a.length) (ck (fits (d.length+([(gt a b).count]).length) 8) ((z4f φ k) a e (W (f+(gt a b).count)) g (W (b+1)) c h i (d++[(gt a b).count]) j))))))) else(z36 φ φ a e f g 0 c h i d j))
def zga(φ:Nat)(a:Pool)(c :(List za))(d :(List zf)):Option (zc×Int×Unit):=((z98 φ a).bind λb=>(if(b.1 !=0)=true then(some ((⟨([]:List Int),([]:List Arc)⟩:zc),b.1,())) else(z4f φ φ c d 0 0 0 a ([]:List Int) ([]:List Arc) ([]:List Int) ([]:List Arc))))
def zm6(φ:Nat):Fsp TV:=⟨[26,36,37],[.val 40,.val 0],kk3 (zga φ)⟩
def z2d(φ:Nat)(c :((List za)->(List zf)->Int->Int->Int->Int->zc->Plan->(List Int)->(List Int)->(List Int)->Option ((List Int)×Bool×Unit)))(d :(List za))(e :(List zf))(f g h i a:Int)(j:zc)(k:Plan)(l m b :(List Int)):Option ((List Int)×Bool×Unit):=(ck (fits (b.length+([a]).length) 8) (c d e f g h (W (i+1)) j k l m (b++[a])))
def z7p(φ:Nat)(f :((List za)->(List zf)->Int->Int->Int->Int->zc->Plan->(List Int)->(List Int)->(List Int)->Option ((List Int)×Bool×Unit)))(g :(List za))(h :(List zf))(i j k l e a:Int)(m:zc)(n:Plan)(b c o :(List Int))(d:Arc):Option ((List Int)×Bool×Unit):=(ck (rg d.from_ b.length) (ck (rg d.from_ b.length) (ck (rg a c.length) (ck (rg a c.length) (z2d φ f g h i j k l e m n ((zl b d.from_ (W ((gt b d.from_)-e)))) ((zl c a (W ((gt c a)-e)))) o)))))
def z0n(φ:Nat):Nat->(List za)->(List zf)->Int->Int->Int->Int->zc->Plan->(List Int)->(List Int)->(List Int)->Option ((List Int)×Bool×Unit)
 |0,_,_,_,_,_,_,_,_,_,_,_=>none
 |l+1,e,h,j,c,i,a,b,d,f,g,k=>(if(decide (a<(b.arcs.length:Int)))=true then(ck (rg a b.arcs.length) (if((decide (((gt b.arcs a).from_:Int)<(e.length:Int)))&&(decide (((gt b.arcs a).to:Int)<i)))=true then(ck (((decide (c<(d.transfers.length:Int)))=true)->rg c d.transfers.length) (ck ((((decide (c<(d.transfers.length:Int)))&&(((gt d.transfers c).supply:Int)==(gt b.arcs a).from_))=true)->rg c d.transfers.length) (if(((decide (c<(d.transfers.length:Int)))&&(((gt d.transfers c).supply:Int)==(gt b.arcs a).from_))&&(((gt d.transfers c).order:Int)==(W ((gt b.arcs a).to-(e.length:Int)))))=true then(ck (rg c d.transfers.length) (ck (((decide (((gt d.transfers c).count:Int)<1))=false)->rg (gt b.arcs a).from_ f.length) (ck ((((decide (((gt d.transfers c).count:Int)<1))||(decide (((gt f ((gt b.arcs a).from_)):Int)<(gt d.transfers c).count)))=false)->rg (W ((gt b.arcs a).to-(e.length:Int))) g.length) (if(((decide (((gt d.transfers c).count:Int)<1))||(decide (((gt f ((gt b.arcs a).from_)):Int)<(gt d.transfers c).count)))||(decide (((gt g (W ((gt b.arcs a).to-(e.length:Int)))):Int)<(gt d.transfers c).count)))=true then(some (([]:List Int),false,())) else(z7p φ (z0n φ l) e h j (W (c+1)) i a ((gt d.transfers c).count) (W ((gt b.arcs a).to-(e.length:Int))) b d f g k (gt b.arcs a)))))) else(z7p φ (z0n φ l) e h j c i a 0 (W ((gt b.arcs a).to-(e.length:Int))) b d f g k (gt b.arcs a))))) else(if(decide (((gt b.arcs a).to:Int)<i))=true then(ck (rg (W ((gt b.arcs a).to-(e.length:Int))) g.length) (ck (rg (W ((gt b.arcs a).to-(e.length:Int))) h.length) (z2d φ (z0n φ l) e h ((W ((W (j+((gt h (W ((gt b.arcs a).to-(e.length:Int))))).count))-(gt g (W ((gt b.arcs a).to-(e.length:Int))))))) c i a ((gt g (W ((gt b.arcs a).to-(e.length:Int))))) b d f g k))) else(if(decide (((gt b.arcs a).from_:Int)<(e.length:Int)))=true then(ck (rg (gt b.arcs a).from_ f.length) (z2d φ (z0n φ l) e h j c i a (gt f ((gt b.arcs a).from_)) b d f g k)) else(z2d φ (z0n φ l) e h j c i a j b d f g k))))) else(some (k,(c==(d.transfers.length:Int)),())))
end Px
end
section
set_option maxHeartbeats 4000000
set_option maxRecDepth 100000
namespace Px
open Go Go.RowKit
def z3f(φ:Nat):Nat->(List za)->(List zf)->Int->Int->zc->Plan->(List Int)->(List Int)->Option ((List Int)×Bool×Unit)
 |0,_,_,_,_,_,_,_,_=>none
 |i+1,c,a,e,b,f,g,h,d=>(if(decide (b<(a.length:Int)))=true then(ck (rg b a.length) (ck (fits (d.length+([(gt a b).count]).length) 8) ((z3f φ i) c a e (W (b+1)) f g h (d++[(gt a b).count])))) else(z0n φ φ c a e 0 (W ((c.length:Int)+(a.length:Int))) 0 f g h d ([]:List Int)))
def z3e(φ:Nat):Nat->(List za)->(List zf)->Int->zc->Plan->(List Int)->Option ((List Int)×Bool×Unit)
 |0,_,_,_,_,_,_=>none
 |g+1,a,d,b,e,f,c=>(if(decide (b<(a.length:Int)))=true then(ck (rg b a.length) (ck (fits (c.length+([(gt a b).count]).length) 8) ((z3e φ g) a d (W (b+1)) e f (c++[(gt a b).count])))) else(z3f φ φ a d 0 0 e f c ([]:List Int)))
def zl4(φ:Nat)(a:zc)(b :(List za))(c :(List zf))(d:Plan):Option ((List Int)×Bool×Unit):=(z3e φ φ b c 0 a d ([]:List Int))
def zkc(φ:Nat):Fsp TV:=⟨[40,36,37,47],[.val 22,.val 27],kk4 (zl4 φ)⟩
def z4e(φ:Nat)(a b c:Int):Option (Bool×Unit):=(some (((decide (b<=a))&&(decide (a<=c))),()))
def z7o(φ:Nat):Fsp TV:=⟨[0,0,0],[.val 27],kk3 (z4e φ)⟩
def z2p(φ:Nat):Nat->Int->Int->zc->Option (Int×Unit)
 |0,_,_,_=>none
 |g+1,e,b,a=>(if(decide (b<(a.arcs.length:Int)))=true then(ck (rg b a.arcs.length) ((z4e φ ((gt a.arcs b).from_) 0 (W ((a.supply.length:Int)-1))).bind λc=>((zn (default,()) ((!c.1)=false) (z4e φ ((gt a.arcs b).to) 0 (W ((a.supply.length:Int)-1)))).bind λd=>((zn (default,()) ((((!c.1)||(!d.1))||(((gt a.arcs b).from_:Int)==(gt a.arcs b).to))=false) (z4e φ ((gt a.arcs b).cap) 0 1000000000)).bind λf=>((zn (default,()) (((((!c.1)||(!d.1))||(((gt a.arcs b).from_:Int)==(gt a.arcs b).to))||(!f.1))=false) (z4e φ ((gt a.arcs b).cost) 0 1000000000)).bind λh=>(if(((((!c.1)||(!d.1))||(((gt a.arcs b).from_:Int)==(gt a.arcs b).to))||(!f.1))||(!h.1))=true then(some (1,())) else((z2p φ g) e (W (b+1)) a))))))) else(if(e !=0)=true then(some (360,())) else(some (0,()))))
def z61(φ:Nat):Nat->Int->Int->zc->Option (Int×Unit)
 |0,_,_,_=>none
 |d+1,c,b,a=>(if(decide (b<(a.supply.length:Int)))=true then(ck (rg b a.supply.length) ((z4e φ (gt a.supply b) (-1000000000) 1000000000).bind λe=>(if(!e.1)=true then(some (1,())) else(ck (rg b a.supply.length) ((z61 φ d) (W (c+(gt a.supply b))) (W (b+1)) a))))) else(z2p φ φ c 0 a))
def ze7(φ:Nat)(a:zc):Option (Int×Unit):=(if((decide ((256:Int)<(a.supply.length:Int)))||(decide ((2048:Int)<(a.arcs.length:Int))))=true then(some (2,())) else(z61 φ φ 0 0 a))
def zcf(φ:Nat):Fsp TV:=⟨[40],[.val 0],λz=>ze7 φ z.1⟩
def z0v(φ:Nat):Nat->Int->(List Int)->Option (Bool×Unit)
 |0,_,_=>none
 |c+1,a,b=>(if(decide (a<(b.length:Int)))=true then(ck (rg a b.length) (if(((gt b a):Int) !=0)=true then(some (false,())) else((z0v φ c) (W (a+1)) b))) else(some (true,())))
def z25(φ:Nat):Nat->Int->zc->Flow->(List Int)->Option (Bool×Unit)
 |0,_,_,_,_=>none
 |e+1,a,b,d,c=>(if(decide (a<(b.arcs.length:Int)))=true then(ck (rg a b.arcs.length) (ck (rg a d.x.length) ((z4e φ (gt d.x a) 0 ((gt b.arcs a).cap)).bind λf=>(if(!f.1)=true then(some (false,())) else(ck (rg (gt b.arcs a).from_ c.length) (ck (rg a d.x.length) (ck (rg (gt b.arcs a).from_ c.length) (ck (rg (gt b.arcs a).to (((zl c ((gt b.arcs a).from_) ((W ((gt c ((gt b.arcs a).from_))-(gt d.x a)))))).length)) (ck (rg a d.x.length) (ck (rg (gt b.arcs a).to (((zl c ((gt b.arcs a).from_) ((W ((gt c ((gt b.arcs a).from_))-(gt d.x a)))))).length)) ((z25 φ e) (W (a+1)) b d ((zl ((zl c ((gt b.arcs a).from_) ((W ((gt c ((gt b.arcs a).from_))-(gt d.x a)))))) ((gt b.arcs a).to) ((W ((gt ((zl c ((gt b.arcs a).from_) ((W ((gt c ((gt b.arcs a).from_))-(gt d.x a)))))) ((gt b.arcs a).to))+(gt d.x a))))))))))))))))) else(z0v φ φ 0 c))
def z7n(φ:Nat)(a:zc)(b:Flow):Option (Bool×Unit):=(if(((b.x.length:Int):Int) !=(a.arcs.length:Int))=true then(some (false,())) else(ck (fits (([]:List Int).length+a.supply.length) 8) (z25 φ φ 0 a b (([]:List Int)++a.supply))))
def z7y(φ:Nat):Fsp TV:=⟨[40,41],[.val 27],kk2 (z7n φ)⟩
def z2q(φ:Nat):Nat->Int->zc->Flow->Option (Bool×Unit)
 |0,_,_,_=>none
 |d+1,a,b,c=>(if(decide (a<(b.arcs.length:Int)))=true then(ck (rg a b.arcs.length) (ck (rg (gt b.arcs a).from_ c.price.length) (ck (rg (gt b.arcs a).to c.price.length) (ck (rg a c.x.length) (ck ((((decide (((gt c.x a):Int)<(gt b.arcs a).cap))&&(decide (((W ((W ((gt b.arcs a).cost+(gt c.price ((gt b.arcs a).from_))))-(gt c.price ((gt b.arcs a).to)))):Int)<0)))=false)->rg a c.x.length) (if(((decide (((gt c.x a):Int)<(gt b.arcs a).cap))&&(decide (((W ((W ((gt b.arcs a).cost+(gt c.price ((gt b.arcs a).from_))))-(gt c.price ((gt b.arcs a).to)))):Int)<0)))||((decide ((0:Int)<(gt c.x a)))&&(decide ((0:Int)<(W ((W ((gt b.arcs a).cost+(gt c.price ((gt b.arcs a).from_))))-(gt c.price ((gt b.arcs a).to))))))))=true then(some (false,())) else((z2q φ d) (W (a+1)) b c))))))) else(some (true,())))
def z4r(φ:Nat):Nat->Int->zc->Flow->Option (Bool×Unit)
 |0,_,_,_=>none
 |d+1,b,c,a=>(if(decide (b<(a.price.length:Int)))=true then(ck (rg b a.price.length) ((z4e φ (gt a.price b) (-1125899906842624) 1125899906842624).bind λe=>(if(!e.1)=true then(some (false,())) else((z4r φ d) (W (b+1)) c a)))) else(z2q φ φ 0 c a))
def zm4(φ:Nat)(a:zc)(b:Flow):Option (Bool×Unit):=(if(((b.price.length:Int):Int) !=(a.supply.length:Int))=true then(some (false,())) else(z4r φ φ 0 a b))
def zia(φ:Nat):Fsp TV:=⟨[40,41],[.val 27],kk2 (zm4 φ)⟩
def zet(φ:Nat)(a:zc)(b:Flow):Option (Int×Unit):=((ze7 φ a).bind λc=>(if(c.1 !=0)=true then(some (c.1,())) else((z7n φ a b).bind λd=>(if(!d.1)=true then(some (360,())) else((zm4 φ a b).bind λe=>(if(!e.1)=true then(some (361,())) else(some (0,()))))))))
def zfr(φ:Nat):Fsp TV:=⟨[40,41],[.val 0],kk2 (zet φ)⟩
def z4d(φ:Nat):Nat->Int->Int->zc->Flow->Option (Int×Int×Unit)
 |0,_,_,_,_=>none
 |e+1,d,a,b,c=>(if(decide (a<(b.arcs.length:Int)))=true then(ck (rg a c.x.length) (ck (rg a b.arcs.length) (if((decide ((9007199254740992:Int)<(W ((gt c.x a)*(gt b.arcs a).cost))))||(decide ((9007199254740992:Int)<(W (d+(W ((gt c.x a)*(gt b.arcs a).cost)))))))=true then(some (0,3,())) else((z4d φ e) ((W (d+(W ((gt c.x a)*(gt b.arcs a).cost))))) (W (a+1)) b c)))) else(some (d,0,())))
def zl3(φ:Nat)(a:zc)(b:Flow):Option (Int×Int×Unit):=((ze7 φ a).bind λc=>(if(c.1 !=0)=true then(some (0,c.1,())) else((z7n φ a b).bind λd=>(if(!d.1)=true then(some (0,360,())) else(z4d φ φ 0 0 a b)))))
def zka(φ:Nat):Fsp TV:=⟨[40,41],[.val 0,.val 0],kk2 (zl3 φ)⟩
def zaz(φ:Nat)(f:Pool)(d :(List za))(e :(List zf))(b:Plan):Option (Int×Unit):=((zga φ f d e).bind λa=>(if(a.2.1 !=0)=true then(some (a.2.1,())) else((zl4 φ a.1 d e b).bind λc=>((zn (default,()) ((!c.2.1)=false) (zet φ a.1 (⟨c.1,b.price⟩:Flow))).bind λg=>(if((!c.2.1)||(g.1 !=0))=true then(some (370,())) else((zl3 φ a.1 (⟨c.1,b.price⟩:Flow)).bind λh=>(if(h.1 !=b.cost)=true then(some (370,())) else(some (0,())))))))))
def zfv(φ:Nat):Fsp TV:=⟨[26,36,37,47],[.val 0],kk4 (zaz φ)⟩
def z04(φ:Nat)(b:Pool)(c :(List za))(d :(List zf))(a:Plan):Option (Bool×Unit):=((zg7 φ).bind λe=>(if(!e.1)=true then(some (false,())) else((zn1 φ b c d).bind λf=>(if(((!f.1)||(decide ((100:Int)<(a.transfers.length:Int))))||(decide ((300:Int)<(a.price.length:Int))))=true then(some (true,())) else((z3b φ b c d a).bind λg=>((zaz φ b c d a).bind λh=>(some ((g.1==h.1),()))))))))
def z0e(φ:Nat):Fsp TV:=⟨[26,36,37,47],[.val 27],kk4 (z04 φ)⟩
end Px
end
