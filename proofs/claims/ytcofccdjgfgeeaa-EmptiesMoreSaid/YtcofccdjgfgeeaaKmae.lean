/- A part of the proof of emptiesMore_holds. Conditions: none. -/
import Derived.Test.YtcofccdjgfgeeaaKmad
import Derived.Shelf.SlSortCmp.NoneTotal
import Derived.Shelf.Sort.Plain
import Derived.Shelf.Slices.In.SortNone
set_option linter.unusedVariables false
set_option linter.unusedSimpArgs false
section
namespace Px
open Go Go.RowKit
section cells
variable {T:Nat->Type}
end cells
section
variable (V:TE)
variable {V}
end
theorem zwd {r:Nat->Prop} {w:World} : ∀ {us vs:List Value},zo r w (us.map eqv) vs->vs=us
 | us,vs,⟨hl,h⟩=>by
  refine w34 λi=>?_
  by_cases hi:i<us.length
  ·obtain⟨u,hu,he,_⟩:=h i (eqv us[i]) (by simp [hi])
   rw [hu,w09 hi]
   exact congrArg some he
  ·have hl':us.length=vs.length:=by simpa using hl
   rw [w1j (show us.length<=i by omega),w1j (show vs.length<=i by omega)]
theorem zvy {r:Nat->Prop} {w:World} {us:List Value} (h:∀ v∈us,v.oneCell'=true):zo r w (us.map eqv) us:=by
 refine⟨by simp,λj A hj=>?_⟩
 simp only [w18,w19] at hj
 obtain⟨u,hu,rfl⟩:=hj
 exact⟨u,hu,rfl,h u (w0v hu)⟩
theorem zym {w:World} {g:Nat} {cur:Array Value} {E:TypeId} {F:Array Value} (hh:w.heap[g]? = some (.cells cur E (0,0))) (hF:cur.toList.take F.size=F.toList):Sort.Holds id w g 0 F:=by
 intro j hj
 have h1:cur[j]? = some F[j]:=by
  have :(cur.toList.take F.size)[j]? = F.toList[j]?:=by rw [hF]
  rw [w0m,if_pos hj] at this
  simpa [hj] using this
 rw [getElem!_pos F j hj]
 refine⟨?_,?_⟩
 ·unfold World.cell?
  rw [hh]
  simpa using h1
 ·unfold World.frozen?
  rw [hh]
  simp
theorem zwk {w:World} {g n:Nat} {cur:Array Value} {E:TypeId} {F:Array Value} {os:Array Obj} (hh:w.heap[g]? = some (.cells cur E (0,0))) (hs:F.size<=cur.size) :
  ∃ cur',(Sort.grow (Sort.putRow id (Sort.ahead w n) g 0 F) os).heap[g]? = some (.cells cur' E (0,0))/\cur'.size=cur.size/\cur'.toList.take F.size=F.toList:=by
 have hlt:g<w.heap.size:=(w1t.1 hh).1
 refine⟨Sort.putCells id 0 F cur,?_,by simp [Sort.putCells],?_⟩
 ·simp only [Sort.grow,Sort.putRow,Sort.mapBlock,Sort.ahead]
  rw [w0y,if_pos (by simpa using hlt),Array.getElem?_modify,if_pos rfl,hh]
  rfl
 ·refine w34 λj=>?_
  rw [w0m]
  by_cases hj:j<F.size
  ·rw [if_pos hj]
   have:j<cur.size:=by omega
   simp [Sort.putCells,this,hj]
  ·rw [if_neg hj,w1j (by simpa using hj)]
theorem zpz {w:World} {g n b:Nat} {F:Array Value} {os:Array Obj} (hb:b<w.heap.size) (hg:b≠g) :(Sort.grow (Sort.putRow id (Sort.ahead w n) g 0 F) os).heap[b]? = w.heap[b]?:=by
 simp only [Sort.grow,Sort.putRow,Sort.mapBlock,Sort.ahead]
 rw [w0y,if_pos (by simpa using hb),Array.getElem?_modify,if_neg (λe=>hg e.symm)]
theorem y2c [Dr] {P:Program} {f:FuncId} {args:List VP} {vs0:List Value} {α:Type} {E:TypeId} {e:α->List VP} {ce:α->List Value} {k:Nat} {l l':List α} {sv:Value}
  (he:∀ x∈l,e x =(ce x).map eqv) (he':∀ x∈l',e x =(ce x).map eqv) (hone:∀ x∈l',∀ v∈ce x,v.oneCell'=true) (hk:∀ x∈l,(ce x).length=k) (hk':∀ x∈l',(ce x).length=k) (hlen:l'.length=l.length) (hargs:args=vs0.map eqv)
  (hnil:l = []->∀ p cap w,Calls P f (#[.slice p 0 cap]++vs0.toArray) w λe w'=>e = .returned (.tuple #[])/\w'=w)
  (hrun:l≠[]->∀ g cap w,g<w.heap.size->(∀ F:Array Value,F.toList=l.flatMap ce->Sort.Holds id w g 0 F)->
   Calls P f (#[.slice (some ⟨g,0,none⟩) l.length cap]++vs0.toArray) w λe w'=>e = .returned (.tuple #[])/\∃ n os F,F.toList=l'.flatMap ce/\w'=Sort.grow (Sort.putRow id (Sort.ahead w n) g 0 F) os) :
  MutT P f (eqv sv::args) E e k l sv λx l2=>x=eqv (.tuple #[])/\l2=l':=by
 intro w0 base r S w vs hw hl hA
 have hvs:vs = #[sv]++vs0.toArray:=by
  have hsz:vs.size=1+vs0.length:=by rw [hl,hargs]; simp; omega
  refine Array.ext (by rw [hsz]; simp [w4r]) λi h1 h2=>?_
  cases i with
  | zero=>
   have:=hA 0 (eqv sv) rfl
   simp only [w06,w24 h1,w11] at this
   have this:vs[0]=sv:=this
   rw [this,Array.getElem_append_left (by simp)]; rfl
  | succ i=>
   have hi:i<vs0.length:=by omega
   have:=hA (i+1) (eqv vs0[i]) (by rw [hargs]; simp [hi])
   simp only [w06,w24 h1,w11] at this
   rw [this]
   rw [Array.getElem_append_right (by simp)]
   simp
 subst hvs
 have hrow:=hw.obj 0 _ rfl
 have hfm:l.flatMap e =(l.flatMap ce).map eqv:=by
  rw [List.map_flatMap]
  clear hnil hrun hrow hk hlen hw
  induction l with
  | nil=>rfl
  | cons x l ih=>rw [w0o,w0o,he x (w0j),ih (λy hy=>he y (w0b _ hy))]
 have hfm':l'.flatMap e =(l'.flatMap ce).map eqv:=by
  rw [List.map_flatMap]
  clear hnil hrun hrow hk hk' hlen hw hone
  induction l' with
  | nil=>rfl
  | cons x l' ih=>rw [w0o,w0o,he' x (w0j),ih (λy hy=>he' y (w0b _ hy))]
 have hfl:∀ m:List α,(∀ x∈m,(ce x).length=k)->(m.flatMap ce).length=m.length*k:=by
  intro m
  induction m with
  | nil=>intro _; simp
  | cons x m ih=>intro h; rw [w0o,w0g,h x (w0j),ih (λy hy=>h y (w0b _ hy)),w12,w1g]; omega
 by_cases h0:l = []
 ·have hl0:l' = []:=w1c (by rw [hlen,h0]; rfl)
  have hslice:∃ p cap,sv = .slice p 0 cap:=by
   rcases hrow with⟨rfl,_⟩ |⟨g,cap,cur,rfl,_⟩
   ·exact⟨_,_,rfl⟩
   ·rw [h0]; exact⟨_,_,rfl⟩
  obtain⟨p,cap,rfl⟩:=hslice
  refine(hnil h0 p cap w).mono ?_
  rintro en w' ⟨rfl,rfl⟩
  refine⟨_,eqv (.tuple #[]),_,r,S,rfl,Evo.refl _ _ _,hw,rfl,l',?_,rfl,rfl⟩
  rw [h0,hl0]
 ·rcases hrow with⟨_,rfl⟩ |⟨g,cap,cur,rfl,hS,hcur,hle,hmax,hsz,hc⟩
  ·exact absurd rfl h0
  ·have hlt:=(w1t.1 hcur).1
   rw [hfm] at hc
   have hc:=zwd hc
   refine(hrun h0 g cap w hlt λF hF=>zym hcur ?_).mono ?_
   ·have:F.size=l.length*k:=by rw [<- Array.length_toList,hF,hfl l hk]
    rw [this,hc,hF]
   ·rintro en w' ⟨rfl,n,os,F,hF,rfl⟩
    have hFs:F.size=l.length*k:=by rw [<- Array.length_toList,hF,hfl l' hk',hlen]
    have hb:∀ b,b<w.heap.size->¬ S 0 b->(Sort.grow (Sort.putRow id (Sort.ahead w n) g 0 F) os).heap[b]? = w.heap[b]?:=λb hb hs=>zpz hb (λe=>hs (e ▸ hS))
    obtain⟨cur',hcur',hsz',htk⟩:=zwk (n:=n) (os:=os) (F:=F) hcur (by rw [hFs,hsz]; exact w14 _ hle)
    refine⟨_,eqv (.tuple #[]),_,r,_,rfl,hw.evo_repl 0 hb,hw.repl 0 (row E e k l' (.slice (some ⟨g,0,none⟩) l.length cap)) (S 0) (by simp) rfl ⟨rfl,Nat.le_add_right _ _⟩ rfl (by simp [Sort.grow,Sort.putRow,Sort.mapBlock,Sort.ahead]) hb (λb hb'=>?_) ?_,rfl,l',rfl,rfl,rfl⟩
    ·obtain⟨_,h2,h3,h4⟩:=hw.own 0 b hb'
     refine⟨h2,?_,h4,λj hj hs=>hj (hw.apart j 0 b hs hb')⟩
     simp [Sort.grow,Sort.putRow,Sort.mapBlock,Sort.ahead]
     omega
    ·refine .inr ⟨g,cap,cur',by rw [hlen],hS,hcur',by omega,hmax,by omega,?_⟩
     rw [hlen,<- hFs,htk,hF,hfm']
     exact zvy λv hv=>by
      obtain⟨x,hx,hxv⟩:=w2l.1 hv
      exact hone x hx v hxv
def insL {α:Type} (lt:α->α->Bool) (x:α):List α->List α
 | []=>[x]
 | y::l=>bif lt y x then y::insL lt x l else x::y::l
def zp0 {α:Type} (lt:α->α->Bool):List α->List α
 | []=>[]
 | x::l=>insL lt x (zp0 lt l)
theorem zln {α:Type} (lt:α->α->Bool) (x:α):∀ l:List α,(insL lt x l).Perm (x::l)
 | []=>List.Perm.refl _
 | y::l=>by
  simp only [insL]
  cases lt y x with
  | true=>exact((zln lt x l).cons y).trans (List.Perm.swap x y l)
  | false=>exact List.Perm.refl _
theorem z8z {α:Type} (lt:α->α->Bool):∀ l:List α,(zp0 lt l).Perm l
 | []=>List.Perm.refl _
 | x::l=>(zln lt x _).trans ((z8z lt l).cons x)
theorem zku {α:Type} {lt:α->α->Bool} (hO:Sort.SWO lt) (x:α):∀ l:List α,l.Pairwise (λa b=>lt b a=false)->(insL lt x l).Pairwise λa b=>lt b a=false
 | [],_=>List.pairwise_singleton _ _
 | y::l,h=>by
  rw [w22] at h
  simp only [insL]
  cases hl:lt y x with
  | true=>
   simp only [cond_true,w22]
   refine⟨λz hz=>?_,zku hO x l h.2⟩
   rcases w0a.1 ((zln lt x l).mem_iff.1 hz) with rfl | hz
   ·cases hx:lt z y with
    | false=>rfl
    | true=>have:=hO.trans _ _ _ hl hx; rw [hO.irrefl] at this; cases this
   ·exact h.1 z hz
  | false=>
   simp only [cond_false,w22]
   refine⟨λz hz=>?_,h.1,h.2⟩
   rcases w0a.1 hz with rfl | hz
   ·exact hl
   ·exact hO.ntrans _ _ _ (h.1 z hz) hl
theorem zhx {α:Type} {lt:α->α->Bool} (hO:Sort.SWO lt):∀ l:List α,(zp0 lt l).Pairwise λa b=>lt b a=false
 | []=>List.Pairwise.nil
 | x::l=>zku hO x _ (zhx hO l)
theorem zyi {α:Type} [Inhabited α] {enc:α->Value} {w:World} {b o:Nat} {d:Array α} (h:Sort.Holds id w b o (d.map enc)):Sort.Holds enc w b o d:=by
 intro j hj
 have:=h j (by simpa using hj)
 rw [getElem!_pos _ j (by simpa using hj)] at this
 rw [getElem!_pos d j hj]
 simpa using this
theorem zwg {α:Type} [Inhabited α] {enc:α->Value} {w:World} {b o:Nat} {d:Array α} : Sort.putRow enc w b o d=Sort.putRow id w b o (d.map enc):=by
 unfold Sort.putRow
 congr 1
 funext cur
 unfold Sort.putCells
 congr 1
 funext k x
 simp only [Array.size_map]
 split
 ·rename_i h
  have h1:k-o<d.size:=by omega
  rw [getElem!_pos d _ h1,getElem!_pos _ _ (by simpa using h1)]
  simp
 ·rfl
def zj9 (l:List Int):Option (List Int):=if l.length<4611686018427387904 then some (zp0 (λa b=>decide (a<b)) l) else none
theorem y8n:Sort.SWO (λa b:Int=>decide (a<b)) where
 irrefl:=λx=>by simp
 trans:=λx y z h1 h2=>by simp at *; omega
 ntrans:=λx y z h1 h2=>by simp at *; omega
theorem zs5 (l:List Int):l.mergeSort (λx y=>decide (x<=y))=zp0 (λa b=>decide (a<b)) l:=by
 refine List.Perm.eq_of_pairwise (le:=λa b:Int=>a<=b) (λa b _ _ h1 h2=>by omega) ?_ ?_ ((List.mergeSort_perm _ _).trans (z8z _ _).symm)
 ·have:=List.pairwise_mergeSort (le:=λx y:Int=>decide (x<=y)) (by intro a b c h1 h2; simp at *; omega) (by intro a b; simp; omega) l
  exact this.imp λh=>by simpa using h
 ·exact(zhx y8n l).imp λh=>by simpa using h
theorem zry [Dr] {P:Program} {ρ:Shelf.Ren} (L:Proofs.Lays.n189 P ρ) {E:Nat} {l l':List Int} {sv:Value} (hF:zj9 l=some l'):MutT P (ρ.f 189) [eqv sv] E (λn:Int=>[iv .i64 n]) 1 l sv λx l2=>x=eqv (.tuple #[])/\l2=l':=by
 unfold zj9 at hF
 split at hF
 ·rename_i hl
  have:=w0c hF
  subst this
  have hfm:∀ q:List Int,q.flatMap (λn=>[Value.int .i64 n])=q.map (Value.int .i64):=λq=>by induction q with
   | nil=>rfl
   | cons x q ih=>rw [w0o,ih]; rfl
  refine y2c (args:=[]) (vs0:=[]) (ce:=λn=>[.int .i64 n]) (λx _=>rfl) (λx _=>rfl) (λx _ v hv=>by simp only [w0k] at hv; subst hv; rfl) (λx _=>rfl) (λx _=>rfl) (z8z _ _).length_eq rfl ?_ ?_
  ·intro _ p cap w
   exact Proofs.Any.slices_Sort_int_none L p cap w
  ·intro hne b cap w hlt hH
   refine(Proofs.Any.slices_Sort_int L b 0 cap l w (zyi (hH _ ?_)) hlt hl).mono ?_
   ·rw [hfm]; simp
   ·rintro e w' ⟨rfl,n,os,rfl⟩
    refine⟨rfl,n,os,_,?_,by rw [zwg]⟩
    rw [hfm,zs5]; simp
 ·cases hF
end Px
end
section
namespace Px
open Go Go.RowKit Go.ChangeShapes Go.WideShapes Go.ChangeAt
section
variable {T:Nat->Type}
def rT (g :(c:Nat)->T c->Prop) :(fs:List Nat)->Tup T fs->Prop
 | [],_=>True
 | [c],x=>g c x.1
 | c::cs,x=>g c x.1/\rT g cs x.2
def rD (g :(c:Nat)->T c->Prop) : {α:Type}->Ds T α->α->Prop
 | _,.int k,x=>RI k x
 | _,.bool,_=>True
 | _,.str,x=>x.size<=maxLen
 | _,.sl c,x=>RL (g c) x
 | _,.map _ _,_=>True
 | _,.arr n c,x=>∀ i,i<n->g c (x i)
 | _,.st fs _ un _,x=>rT g fs (un x)
theorem y8p {g :(c:Nat)->T c->Prop} {c:Nat} : ∀ {cs:List Nat} {x:T c×Tup T cs},g c x.1->rT g cs x.2->rT g (c::cs) x
 | [],_,h,_=>h
 | _::_,_,h,k=>⟨h,k⟩
end
section
variable (V:TE) (P:Program)
def rdN:Nat->(c:Nat)->V.T c->Prop
 | 0,_,_=>True
 | n+1,c,x=>rD (rdN n) (V.d c) x
def opF (g:TypeId->Nat->Bool):List Nat->List (TypeId×Nat×Nat)->Nat->Nat->Bool
 | [],[],o,m=>Nat.beq o m
 | c::cs,(ty,off,m)::l,o,e=>Nat.beq off o&&Nat.beq m (V.sz c)&&g ty c&&opF g cs l (o+m) e
 | _,_,_,_=>false
def opD (g:TypeId->Nat->Bool) : {α:Type}->Ds V.T α->TypeId->Bool
 | _,.int k,t=>match P.underlying t with | some (.int k')=>decide (k'=k) | _=>false
 | _,.bool,t=>match P.underlying t with | some .bool=>true | _=>false
 | _,.str,t=>match P.underlying t with | some .string=>true | _=>false
 | _,.sl c,t=>match P.underlying t with | some (.slice E)=>Nat.beq (P.cellsOf E) (V.sz c)&&Nat.blt 0 (V.sz c)&&g E c | _=>false
 | _,.map _ _,_=>false
 | _,.arr n c,t=>match P.underlying t with | some (.array N E)=>Nat.beq N n&&Nat.beq (P.cellsOf E) (V.sz c)&&Nat.beq (P.cellsOf t) (n*V.sz c)&&g E c | _=>false
 | _,.st fs _ _ _,t=>match zob P t with | some l=>opF V g fs l 0 (P.cellsOf t) | none=>false
def opN:Nat->TypeId->Nat->Bool
 | 0,_,_=>false
 | n+1,t,c=>opD V P (opN n) (V.d c) t
def y80 (n:Nat):List TypeId->List Nat->Bool
 | [],[]=>true
 | t::ts,c::cs=>opN V P n t c&&y80 n ts cs
 | _,_=>false
def y8a (n:Nat) :(cs:List Nat)->Tup V.T cs->Prop
 | [],_=>True
 | c::cs,x=>rdN V n c x.1/\y8a n cs x.2
variable {V P}
theorem y61:∀(n:Nat) (t:TypeId) (c:Nat),opN V P n t c=true->Opn P t (V.sz c) (V.ev c) (rdN V n c)
 | 0,_,_,h=>by cases h
 | n+1,t,c,h=>by
  have ih:=y61 n
  have hev:V.ev c=evD V.ev (V.mv V.ev) V.sz (V.d c):=funext λx=>V.ev_eq c x
  have hr:rdN V (n+1) c=rD (rdN V n) (V.d c):=rfl
  rw [hev,V.sz_eq,hr]
  change opD V P (opN V P n) (V.d c) t=true at h
  revert h
  clear hev hr
  generalize V.d c=d
  revert d
  generalize V.T c=α
  intro d h
  cases d with
  | int k=>
   simp only [opD] at h
   split at h
   ·rename_i k' hu
    simp only [decide_eq_true_eq] at h
    subst h
    exact Opn.int hu
   ·cases h
  | bool=>
   simp only [opD] at h
   split at h
   ·rename_i hu; exact Opn.bool hu
   ·cases h
  | str=>
   simp only [opD] at h
   split at h
   ·rename_i hu; exact Opn.string hu
   ·cases h
  | sl c'=>
   simp only [opD] at h
   split at h
   ·rename_i E hu
    simp only [w02,w26] at h
    obtain⟨⟨h1,h2⟩,h3⟩:=h
    exact Opn.slice hu (w01 h1) h2 (ih E c' h3)
   ·cases h
  | map kc vc=>simp [opD] at h
  | arr m c'=>
   simp only [opD] at h
   split at h
   ·rename_i N E hu
    simp only [w02] at h
    obtain⟨⟨⟨h1,h2⟩,h3⟩,h4⟩:=h
    have h1:=w01 h1
    subst h1
    have:Inhabited (V.T c'):=⟨V.z c'⟩
    exact Opn.array hu (w01 h2) (w01 h3) rfl (ih E c' h4)
   ·cases h
  | st fs mk un law=>
   simp only [opD] at h
   split at h
   ·rename_i l hl
    intro H enc w sp held fuel cs x hx
    obtain⟨hlen,m,hf⟩:=zs8 hl hx
    have key:∀(fs:List Nat) (l':List (TypeId×Nat×Nat)) (o:Nat),opF V (opN V P n) fs l' o (P.cellsOf t)=true->(∀(i:Nat) (ty:TypeId) (off m':Nat),l'[i]? = some (ty,off,m')->∃ y,DataW.trod enc P w 0 sp held m ty ((cs.drop off).take m')=some y)->
      o+fs.foldr (λc s=>V.sz c+s) 0=P.cellsOf t/\∃ y:Tup V.T fs,rT (rdN V n) fs y/\zo (λb=>b<w.heap.size) w (evT V.ev fs y) (cs.drop o):=by
     intro fs
     induction fs with
     | nil=>
      intro l' o h hf
      cases l' with
      | nil=>
       have:=w01 h
       subst this
       exact⟨rfl,(),trivial,zo.tile0 hlen⟩
      | cons a l'=>cases h
     | cons c cs' ihf=>
      intro l' o h hf
      cases l' with
      | nil=>cases h
      | cons a l'=>
       obtain⟨ty,off,m'⟩:=a
       simp only [opF,w02] at h
       obtain⟨⟨⟨h1,h2⟩,h3⟩,h4⟩:=h
       have h1:=w01 h1
       have h2:=w01 h2
       subst h1; subst h2
       obtain⟨y0,hy0⟩:=hf 0 _ _ _ rfl
       obtain⟨_,y,hR,hc⟩:=ih ty c h3 _ _ _ _ _ _ _ _ hy0
       obtain⟨he,z,hz,hcz⟩:=ihf l' _ h4 (λi ty off m' hi=>hf (i+1) ty off m' hi)
       refine⟨by simp only [w53]; omega,(y,z),y8p hR hz,?_⟩
       exact zo.tile hc hcz
    obtain⟨he,y,hy,hc⟩:=key fs l 0 h hf
    rw [w4c] at hc
    refine⟨by rw [hlen,<- he,w16]; rfl,mk y,?_,?_⟩
    ·show rT _ fs (un (mk y))
     rw [law]; exact hy
    ·show zo _ _ (evT V.ev fs (un (mk y))) cs
     rw [law]; exact hc
   ·cases h
theorem yao {H:Type} {enc:TypeId×Value->H} {W:World} {sp:Nat->Bool} {held:Bool} {base n:Nat} {t:TypeId} {c:Nat} {v:Value} {d:DataW H} {p:List MemPlace}
  (ho:opN V P n t c=true) (hv:Value.okWide P W .any base t v) (h:DataW.Trod enc P W 0 sp held t v d p):∃ y,rdN V n c y/\(V.vl c y).h (λb=>b<W.heap.size) W v:=by
 cases n with
 | zero=>cases ho
 | succ n=>
 obtain⟨fuel,hf⟩:=h
 obtain⟨_,y,hR,hc⟩:=y61 _ _ _ ho _ _ _ _ _ _ _ _ hf
 refine⟨y,hR,?_⟩
 change opD V P (opN V P n) (V.d c) t=true at ho
 unfold Value.okWide at hv
 cases ha:z5w (V.d c) with
 | true=>
  rw [zl4 y ha]
  have hs:∃ cs,v = .agg cs:=by
   revert ho ha
   generalize V.d c=d
   generalize V.T c=α at d
   intro ho ha
   cases d with
   | arr m c'=>
    simp only [opD] at ho
    split at ho
    ·rename_i N E hu
     rw [hu] at hv
     obtain⟨cs,rfl,_⟩:=hv
     exact⟨cs,rfl⟩
    ·cases ho
   | st fs mk un law=>
    simp only [opD,zob] at ho
    cases hu:P.underlying t with
    | none=>rw [hu] at ho; cases ho
    | some X=>
     rw [hu] at ho hv
     cases X with
     | struct fs'=>obtain⟨cs,rfl,_⟩:=hv; exact⟨cs,rfl⟩
     | _=>cases ho
   | _=>cases ha
  obtain⟨cs,rfl⟩:=hs
  exact⟨cs,rfl,hc⟩
 | false=>
  rw [zk3 y ha] at hc
  have hcell:v.cells.toList = [v]:=by
   revert ho ha
   generalize V.d c=d
   generalize V.T c=α at d
   intro ho ha
   cases d with
   | int k=>
    simp only [opD] at ho
    split at ho
    ·rename_i k' hu
     rw [hu] at hv
     cases v <;> first | rfl |(exfalso; simp [Cell.okWide,Cell.ok,hu] at hv)
    ·cases ho
   | bool=>
    simp only [opD] at ho
    split at ho
    ·rename_i hu
     rw [hu] at hv
     cases v <;> first | rfl |(exfalso; simp [Cell.okWide,Cell.ok,hu] at hv)
    ·cases ho
   | str=>
    simp only [opD] at ho
    split at ho
    ·rename_i hu
     rw [hu] at hv
     cases v <;> first | rfl |(exfalso; simp [Cell.okWide,Cell.ok,hu] at hv)
    ·cases ho
   | sl c'=>
    simp only [opD] at ho
    split at ho
    ·rename_i E hu
     rw [hu] at hv
     cases v <;> first | rfl |(exfalso; simp [Cell.okWide,Cell.ok,hu] at hv)
    ·cases ho
   | arr m c'=>cases ha
   | map kc vc=>simp [opD] at ho
   | st fs mk un law=>cases ha
  rw [hcell] at hc
  obtain⟨u,hu',hA,_⟩:=hc.2 0 (V.vl c y) rfl
  simp at hu'
  subst hu'
  exact hA
theorem zxb {H:Type} {enc:TypeId×Value->H} {W:World} {sp:Nat->Bool} {held:Bool} {base n:Nat} : ∀ {ts:List TypeId} {cs:List Nat} {vs:List Value} {ds:List (DataW H)} {ps:List MemPlace},
  y80 V P n ts cs=true->DataW.TrodAll enc P W 0 sp held ts vs ds ps->(∀(j:Nat) t v,ts[j]? = some t->vs[j]? = some v->Value.okWide P W .any base t v)->
  vs.length=cs.length/\∃ x:Tup V.T cs,y8a V n cs x/\∀(i:Nat) (A:VP),(vls V cs x)[i]? = some A->A.h (λb=>b<W.heap.size) W (vs.getD i undef)
 | [],[],vs,ds,ps,_,h,_=>by
  cases vs with
  | nil=>exact⟨rfl,(),trivial,λi A hi=>by simp [vls] at hi⟩
  | cons v vs=>cases ds <;> exact h.elim
 | t::ts,c::cs,vs,ds,ps,ho,h,hv=>by
  simp only [y80,w02] at ho
  cases vs with
  | nil=>cases ds <;> exact h.elim
  | cons v vs=>
   cases ds with
   | nil=>exact h.elim
   | cons d ds=>
    obtain⟨p,q,h1,h2,_⟩:=h
    obtain⟨y,hR,hA⟩:=yao ho.1 (hv 0 t v rfl rfl) h1
    obtain⟨hl,x,hx,hxs⟩:=zxb ho.2 h2 (λj t v ht hvj=>hv (j+1) t v ht hvj)
    refine⟨by simp [hl],(y,x),⟨hR,hx⟩,λi A hi=>?_⟩
    cases i with
    | zero=>simp only [vls,w3a,w00] at hi; subst hi; exact hA
    | succ i=>simp only [vls,w2g] at hi; simpa using hxs i A hi
 | [],_::_,_,_,_,ho,_,_=>by cases ho
 | _::_,[],_,_,_,ho,_,_=>by cases ho
theorem zky {H:Type} {enc:TypeId×Value->H} {P:Program} {W:World} {b:Nat} {sp:Nat->Bool} {held:Bool} : ∀ {ts:List TypeId} {vs:List Value} {ds:List (DataW H)} {ps:List MemPlace},DataW.TrodAll enc P W b sp held ts vs ds ps->ds.length=ts.length
 | [],[],[],_,_=>rfl
 | t::ts,v::vs,d::ds,ps,⟨p,q,_,h,_⟩=>by simp [zky h]
 | [],_::_,_,_,h=>h.elim
 | [],[],_::_,_,h=>h.elim
 | _::_,[],_,_,h=>h.elim
 | _::_,_::_,[],_,h=>h.elim
theorem zzw:∀(cs:List Nat) (x:Tup V.T cs),(vls V cs x).length=cs.length
 | [],_=>rfl
 | c::cs,x=>by simp only [vls,w12,zzw cs]
theorem ybl [Dr] {f:FuncId} {sp:Fsp V} {W:World} {vs:Array Value} {x:Tup V.T sp.args} {r:RTup V.T sp.res} (hf:z3k V P f sp) (hr:sp.F x=some r) (hres:∀ B:Asg,(resV V (encR V 0 sp.res r)).den V P B=bv true) (hno:newR V sp.res r = [])
  (hl:vs.toList.length=sp.args.length) (hA:∀(i:Nat) (A:VP),(vls V sp.args x)[i]? = some A->A.h (λb=>b<W.heap.size) W (vs.toList.getD i undef)):Calls P f vs W (λe W'=>e = .returned (.bool true)/\Below W.heap.size W W'):=by
 refine y0j (As:=vls V sp.args x) ((hf x r hr).mono ?_) (by rw [zzw]; simpa using hl) (λi A hi=>?_)
 ·rintro y news ⟨B,hB,rfl,rfl⟩
  rw [hno] at hB ⊢
  refine⟨hres B,?_⟩
  cases B <;> rfl
 ·have:=hA i A hi
  simpa [w06,w1u] using this
end
theorem z72.same {R:Type} {x:Option R} {n:Nat} {y:Option (List (Option R))} (h:y=some (List.replicate n x)):z72 x y:=
 ⟨λr hr=>⟨_,h,λa ha=>by rw [(List.mem_replicate.1 ha).2,hr]⟩⟩
theorem z72.ck {R:Type} {p:Prop} [Decidable p] {x:Option R} {y:Option (List (Option R))} (h:z72 x y):z72 (Px.ck p x) (Px.ck p y):=
 ⟨λr hr=>by
  unfold Px.ck at *
  split at hr
  ·rename_i hp; simp only [if_pos hp]; exact h.ok r hr
  ·cases hr⟩
theorem z72.bind {R α:Type} {m:Option α} {f:α->Option R} {g:α->Option (List (Option R))} (h:∀ a,z72 (f a) (g a)):z72 (m.bind f) (m.bind g):=
 ⟨λr hr=>by
  cases m with
  | none=>cases hr
  | some a=>exact(h a).ok r hr⟩
theorem z72.one {R:Type} {x:Option R} : z72 x (some [x]):=⟨λr hr=>⟨_,rfl,λa ha=>by rw [w0k.1 ha,hr]⟩⟩
theorem z72.nil {R:Type} {x:Option R} : z72 x (catL []):=⟨λr hr=>⟨[],rfl,λa ha=>by cases ha⟩⟩
theorem z72.cons {R:Type} {x:Option R} {y:Option (List (Option R))} {l:List (Option (List (Option R)))} (h:z72 x y) (hl:z72 x (catL l)):z72 x (catL (y::l)):=
 ⟨λr hr=>by
  obtain⟨a,ha,h1⟩:=h.ok r hr
  obtain⟨b,hb,h2⟩:=hl.ok r hr
  refine⟨a++b,by simp only [catL,ha,hb,cat2],λz hz=>?_⟩
  rcases w0l.1 hz with hz | hz
  ·exact h1 z hz
  ·exact h2 z hz⟩
end Px
end
section
set_option maxHeartbeats 4000000
set_option maxRecDepth 100000
namespace Px
open Go Go.RowKit
def z00:ByteArray:=⟨#[0,1,2,2,3,3,3,3,4,4,4,4,4,4,4,4,5,5,5,5,5,5,5,5,5,5,5,5,5,5,5,5,6,6,6,6,6,6,6,6,6,6,6,6,6,6,6,6,6,6,6,6,6,6,6,6,6,6,6,6,6,6,6,6,7,7,7,7,7,7,7,7,7,7,7,7,7,7,7,7,7,7,7,7,7,7,7,7,7,7,7,7,7,7,7,7,7,7,7,7,7,7,7,7,7,7,7,7,7,7,7,7,7,7,7,7,7,7,7,7,7,7,7,7,7,7,7,7,8,8,8,8,8,8,8,8,8,8,8,8,8,8,8,8,8,8,8,8,8,8,8,8,8,8,8,8,8,8,8,8,8,8,8,8,8,8,8,8,8,8,8,8,8,8,8,8,8,8,8,8,8,8,8,8,8,8,8,8,8,8,8,8,8,8,8,8,8,8,8,8,8,8,8,8,8,8,8,8,8,8,8,8,8,8,8,8,8,8,8,8,8,8,8,8,8,8,8,8,8,8,8,8,8,8,8,8,8,8,8,8,8,8,8,8,8,8,8,8,8,8,8,8,8,8,8,8]⟩
structure ze6 where
 kind:Int
 railway:Int
 other:Int
instance:Inhabited ze6:=⟨⟨0,0,0⟩⟩
structure Edge where
 a:Int
 b:Int
 railway:Int
 minutes:Int
 km:Int
instance:Inhabited Edge:=⟨⟨0,0,0,0,0⟩⟩
structure z01 where
 places :(List ze6)
 edges :(List Edge)
instance:Inhabited z01:=⟨⟨[],[]⟩⟩
structure z2n where
 load:Int
 tare:Int
 length:Int
 gauge:Int
 brake:Int
 classes:Int
 life:Int
 floor:Int
instance:Inhabited z2n:=⟨⟨0,0,0,0,0,0,0,0⟩⟩
structure zlx where
 type_:Int
 owner:Int
 home:Int
 built:Int
 worth:Int
instance:Inhabited zlx:=⟨⟨0,0,0,0,0⟩⟩
structure Swap where
 wanted:Int
 given:Int
 cost:Int
instance:Inhabited Swap:=⟨⟨0,0,0⟩⟩
structure Wash where
 from_:Int
 to:Int
 minutes:Int
instance:Inhabited Wash:=⟨⟨0,0,0⟩⟩
structure z4j where
 types :(List z2n)
 wagons :(List zlx)
 swaps :(List Swap)
 washes :(List Wash)
instance:Inhabited z4j:=⟨⟨[],[],[],[]⟩⟩
structure zfy where
 place:Int
 low:Int
 high:Int
instance:Inhabited zfy:=⟨⟨0,0,0⟩⟩
structure zc0 where
 place:Int
instance:Inhabited zc0:=⟨⟨0⟩⟩
structure Span where
 from_:Int
 to:Int
instance:Inhabited Span:=⟨⟨0,0⟩⟩
structure z7v where
 open_ :(Nat->Span)
 holidays :(List Int)
instance:Inhabited z7v:=⟨⟨λ_=>default,[]⟩⟩
structure z4k where
 key:Int
 calendar:z7v
instance:Inhabited z4k:=⟨⟨0,default⟩⟩
structure Pool where
 network:z01
 fleet:z4j
 readers :(List zfy)
 shippers :(List zc0)
 railways :(List z4k)
instance:Inhabited Pool:=⟨⟨default,default,[],[],[]⟩⟩
structure z8 where
 type_:Int
 class_:Int
 place:Int
 at_:Int
 count:Int
instance:Inhabited z8:=⟨⟨0,0,0,0,0⟩⟩
structure zl where
 type_:Int
 class_:Int
 place:Int
 from_:Int
 to:Int
 count:Int
 weight:Int
instance:Inhabited zl:=⟨⟨0,0,0,0,0,0,0⟩⟩
structure zt where
 near :(List (List Int))
 line :(List ((Nat->Int)×Int))
instance:Inhabited zt:=⟨⟨[],[]⟩⟩
structure Arc where
 from_:Int
 to:Int
 cap:Int
 cost:Int
instance:Inhabited Arc:=⟨⟨0,0,0,0⟩⟩
structure zi where
 supply :(List Int)
 arcs :(List Arc)
instance:Inhabited zi:=⟨⟨[],[]⟩⟩
structure Flow where
 x :(List Int)
 price :(List Int)
instance:Inhabited Flow:=⟨⟨[],[]⟩⟩
structure zf6 where
 n:zi
 x :(List Int)
 left :(List Int)
 price :(List Int)
 begin :(List (List Int))
 end_ :(List (List Int))
instance:Inhabited zf6:=⟨⟨default,[],[],[],[],[]⟩⟩
structure zd where
 arc:Int
 to:Int
 cost:Int
 room:Int
instance:Inhabited zd:=⟨⟨0,0,0,0⟩⟩
structure zb where
 supply:Int
 order:Int
 count:Int
instance:Inhabited zb:=⟨⟨0,0,0⟩⟩
structure Plan where
 transfers :(List zb)
 cost:Int
 price :(List Int)
instance:Inhabited Plan:=⟨⟨[],0,[]⟩⟩
structure Ref where
 railway:Int
 no:Int
instance:Inhabited Ref:=⟨⟨0,0⟩⟩
structure Part where
 kind:Int
 serial:Int
 fitted:Bool
instance:Inhabited Part:=⟨⟨0,0,false⟩⟩
structure Item where
 kind:Int
 ref:Ref
 wagon:Int
 place:Int
 other:Int
 number:Int
 from_:Int
 to:Int
 code:Int
 dest:Int
 class_:Int
 weight:Int
 amount:Int
 text:ByteArray
 parts :(List Part)
instance:Inhabited Item:=⟨⟨0,default,0,0,0,0,0,0,0,0,0,0,0,⟨#[]⟩,[]⟩⟩
structure zj where
 ref:Ref
 by_:Ref
 time:Int
 item:Item
instance:Inhabited zj:=⟨⟨default,default,0,default⟩⟩
def TT:Nat->Type
 | 0=>Int
 | 1=>ze6
 | 2=>(List ze6)
 | 3=>Edge
 | 4=>(List Edge)
 | 5=>z01
 | 6=>Int
 | 7=>z2n
 | 8=>(List z2n)
 | 9=>zlx
 | 10=>(List zlx)
 | 11=>Swap
 | 12=>(List Swap)
 | 13=>Wash
 | 14=>(List Wash)
 | 15=>z4j
 | 16=>zfy
 | 17=>(List zfy)
 | 18=>zc0
 | 19=>(List zc0)
 | 20=>Span
 | 21=>(Nat->Span)
 | 22=>(List Int)
 | 23=>z7v
 | 24=>z4k
 | 25=>(List z4k)
 | 26=>Pool
 | 27=>Bool
 | 28=>(Nat->Bool)
 | 29=>z8
 | 30=>zl
 | 31=>(List (List Int))
 | 32=>(Nat->Int)
 | 33=>(List ((Nat->Int)×Int))
 | 34=>zt
 | 35=>(Nat->Int)
 | 36=>(List z8)
 | 37=>(List zl)
 | 38=>Arc
 | 39=>(List Arc)
 | 40=>zi
 | 41=>Flow
 | 42=>zf6
 | 43=>zd
 | 44=>(List zd)
 | 45=>zb
 | 46=>(List zb)
 | 47=>Plan
 | 48=>Ref
 | 49=>ByteArray
 | 50=>Part
 | 51=>(List Part)
 | 52=>Item
 | 53=>zj
 | 54=>(List zj)
 | 55=>(List (Nat->Int))
 | 56=>Int
 | 57=>(List Int)
 | 58=>Int
 | 59=>(Nat->Int)
 | 60=>(Nat->Int)
 | 61=>(Nat->Int)
 | _=>Unit
def TD :(c:Nat)->Ds TT (TT c)
 | 0=>.int .i64
 | 1=>.st [0,0,0] (λt=>⟨t.1,t.2.1,t.2.2.1⟩) (λx=>(x.kind,x.railway,x.other,())) (λ_=>rfl)
 | 2=>.sl 1
 | 3=>.st [0,0,0,0,0] (λt=>⟨t.1,t.2.1,t.2.2.1,t.2.2.2.1,t.2.2.2.2.1⟩) (λx=>(x.a,x.b,x.railway,x.minutes,x.km,())) (λ_=>rfl)
 | 4=>.sl 3
 | 5=>.st [2,4] (λt=>⟨t.1,t.2.1⟩) (λx=>(x.places,x.edges,())) (λ_=>rfl)
 | 6=>.int .u64
 | 7=>.st [0,0,0,0,0,6,0,0] (λt=>⟨t.1,t.2.1,t.2.2.1,t.2.2.2.1,t.2.2.2.2.1,t.2.2.2.2.2.1,t.2.2.2.2.2.2.1,t.2.2.2.2.2.2.2.1⟩) (λx=>(x.load,x.tare,x.length,x.gauge,x.brake,x.classes,x.life,x.floor,())) (λ_=>rfl)
 | 8=>.sl 7
 | 9=>.st [0,0,0,0,0] (λt=>⟨t.1,t.2.1,t.2.2.1,t.2.2.2.1,t.2.2.2.2.1⟩) (λx=>(x.type_,x.owner,x.home,x.built,x.worth,())) (λ_=>rfl)
 | 10=>.sl 9
 | 11=>.st [0,0,0] (λt=>⟨t.1,t.2.1,t.2.2.1⟩) (λx=>(x.wanted,x.given,x.cost,())) (λ_=>rfl)
 | 12=>.sl 11
 | 13=>.st [0,0,0] (λt=>⟨t.1,t.2.1,t.2.2.1⟩) (λx=>(x.from_,x.to,x.minutes,())) (λ_=>rfl)
 | 14=>.sl 13
 | 15=>.st [8,10,12,14] (λt=>⟨t.1,t.2.1,t.2.2.1,t.2.2.2.1⟩) (λx=>(x.types,x.wagons,x.swaps,x.washes,())) (λ_=>rfl)
 | 16=>.st [0,0,0] (λt=>⟨t.1,t.2.1,t.2.2.1⟩) (λx=>(x.place,x.low,x.high,())) (λ_=>rfl)
 | 17=>.sl 16
 | 18=>.st [0] (λt=>⟨t.1⟩) (λx=>(x.place,())) (λ_=>rfl)
 | 19=>.sl 18
 | 20=>.st [0,0] (λt=>⟨t.1,t.2.1⟩) (λx=>(x.from_,x.to,())) (λ_=>rfl)
 | 21=>.arr 7 20
 | 22=>.sl 0
 | 23=>.st [21,22] (λt=>⟨t.1,t.2.1⟩) (λx=>(x.open_,x.holidays,())) (λ_=>rfl)
 | 24=>.st [6,23] (λt=>⟨t.1,t.2.1⟩) (λx=>(x.key,x.calendar,())) (λ_=>rfl)
 | 25=>.sl 24
 | 26=>.st [5,15,17,19,25] (λt=>⟨t.1,t.2.1,t.2.2.1,t.2.2.2.1,t.2.2.2.2.1⟩) (λx=>(x.network,x.fleet,x.readers,x.shippers,x.railways,())) (λ_=>rfl)
 | 27=>.bool
 | 28=>.arr 4096 27
 | 29=>.st [0,0,0,0,0] (λt=>⟨t.1,t.2.1,t.2.2.1,t.2.2.2.1,t.2.2.2.2.1⟩) (λx=>(x.type_,x.class_,x.place,x.at_,x.count,())) (λ_=>rfl)
 | 30=>.st [0,0,0,0,0,0,0] (λt=>⟨t.1,t.2.1,t.2.2.1,t.2.2.2.1,t.2.2.2.2.1,t.2.2.2.2.2.1,t.2.2.2.2.2.2.1⟩) (λx=>(x.type_,x.class_,x.place,x.from_,x.to,x.count,x.weight,())) (λ_=>rfl)
 | 31=>.sl 22
 | 32=>.arr 2 0
 | 33=>.map 32 0
 | 34=>.st [31,33] (λt=>⟨t.1,t.2.1⟩) (λx=>(x.near,x.line,())) (λ_=>rfl)
 | 35=>.arr 32 0
 | 36=>.sl 29
 | 37=>.sl 30
 | 38=>.st [0,0,0,0] (λt=>⟨t.1,t.2.1,t.2.2.1,t.2.2.2.1⟩) (λx=>(x.from_,x.to,x.cap,x.cost,())) (λ_=>rfl)
 | 39=>.sl 38
 | 40=>.st [22,39] (λt=>⟨t.1,t.2.1⟩) (λx=>(x.supply,x.arcs,())) (λ_=>rfl)
 | 41=>.st [22,22] (λt=>⟨t.1,t.2.1⟩) (λx=>(x.x,x.price,())) (λ_=>rfl)
 | 42=>.st [40,22,22,22,31,31] (λt=>⟨t.1,t.2.1,t.2.2.1,t.2.2.2.1,t.2.2.2.2.1,t.2.2.2.2.2.1⟩) (λx=>(x.n,x.x,x.left,x.price,x.begin,x.end_,())) (λ_=>rfl)
 | 43=>.st [0,0,0,0] (λt=>⟨t.1,t.2.1,t.2.2.1,t.2.2.2.1⟩) (λx=>(x.arc,x.to,x.cost,x.room,())) (λ_=>rfl)
 | 44=>.sl 43
 | 45=>.st [0,0,0] (λt=>⟨t.1,t.2.1,t.2.2.1⟩) (λx=>(x.supply,x.order,x.count,())) (λ_=>rfl)
 | 46=>.sl 45
 | 47=>.st [46,0,22] (λt=>⟨t.1,t.2.1,t.2.2.1⟩) (λx=>(x.transfers,x.cost,x.price,())) (λ_=>rfl)
 | 48=>.st [0,0] (λt=>⟨t.1,t.2.1⟩) (λx=>(x.railway,x.no,())) (λ_=>rfl)
 | 49=>.str
 | 50=>.st [0,0,27] (λt=>⟨t.1,t.2.1,t.2.2.1⟩) (λx=>(x.kind,x.serial,x.fitted,())) (λ_=>rfl)
 | 51=>.sl 50
 | 52=>.st [0,48,0,0,0,0,0,0,0,0,0,0,0,49,51] (λt=>⟨t.1,t.2.1,t.2.2.1,t.2.2.2.1,t.2.2.2.2.1,t.2.2.2.2.2.1,t.2.2.2.2.2.2.1,t.2.2.2.2.2.2.2.1,t.2.2.2.2.2.2.2.2.1,t.2.2.2.2.2.2.2.2.2.1,t.2.2.2.2.2.2.2.2.2.2.1,t.2.2.2.2.2.2.2.2.2.2.2.1,t.2.2.2.2.2.2.2.2.2.2.2.2.1,t.2.2.2.2.2.2.2.2.2.2.2.2.2.1,t.2.2.2.2.2.2.2.2.2.2.2.2.2.2.1⟩) (λx=>(x.kind,x.ref,x.wagon,x.place,x.other,x.number,x.from_,x.to,x.code,x.dest,x.class_,x.weight,x.amount,x.text,x.parts,())) (λ_=>rfl)
 | 53=>.st [48,48,0,52] (λt=>⟨t.1,t.2.1,t.2.2.1,t.2.2.2.1⟩) (λx=>(x.ref,x.by_,x.time,x.item,())) (λ_=>rfl)
 | 54=>.sl 53
 | 55=>.sl 32
 | 56=>.int .u8
 | 57=>.sl 56
 | 58=>.int .u32
 | 59=>.arr 64 58
 | 60=>.arr 8 58
 | 61=>.arr 32 56
 | _+62=>.st [] (λ_=>()) (λ_=>()) (λ_=>rfl)
def TZ :(c:Nat)->TT c
 | 0=>(default:Int)
 | 1=>(default:ze6)
 | 2=>(default :(List ze6))
 | 3=>(default:Edge)
 | 4=>(default :(List Edge))
 | 5=>(default:z01)
 | 6=>(default:Int)
 | 7=>(default:z2n)
 | 8=>(default :(List z2n))
 | 9=>(default:zlx)
 | 10=>(default :(List zlx))
 | 11=>(default:Swap)
 | 12=>(default :(List Swap))
 | 13=>(default:Wash)
 | 14=>(default :(List Wash))
 | 15=>(default:z4j)
 | 16=>(default:zfy)
 | 17=>(default :(List zfy))
 | 18=>(default:zc0)
 | 19=>(default :(List zc0))
 | 20=>(default:Span)
 | 21=>(default :(Nat->Span))
 | 22=>(default :(List Int))
 | 23=>(default:z7v)
 | 24=>(default:z4k)
 | 25=>(default :(List z4k))
 | 26=>(default:Pool)
 | 27=>(default:Bool)
 | 28=>(default :(Nat->Bool))
 | 29=>(default:z8)
 | 30=>(default:zl)
 | 31=>(default :(List (List Int)))
 | 32=>(default :(Nat->Int))
 | 33=>(default :(List ((Nat->Int)×Int)))
 | 34=>(default:zt)
 | 35=>(default :(Nat->Int))
 | 36=>(default :(List z8))
 | 37=>(default :(List zl))
 | 38=>(default:Arc)
 | 39=>(default :(List Arc))
 | 40=>(default:zi)
 | 41=>(default:Flow)
 | 42=>(default:zf6)
 | 43=>(default:zd)
 | 44=>(default :(List zd))
 | 45=>(default:zb)
 | 46=>(default :(List zb))
 | 47=>(default:Plan)
 | 48=>(default:Ref)
 | 49=>(default:ByteArray)
 | 50=>(default:Part)
 | 51=>(default :(List Part))
 | 52=>(default:Item)
 | 53=>(default:zj)
 | 54=>(default :(List zj))
 | 55=>(default :(List (Nat->Int)))
 | 56=>(default:Int)
 | 57=>(default :(List Int))
 | 58=>(default:Int)
 | 59=>(default :(Nat->Int))
 | 60=>(default :(Nat->Int))
 | 61=>(default :(Nat->Int))
 | _+62=>()
def TC (t:Nat):Nat:=(lk [(2,0),(3,0),(4,27),(5,56),(6,56),(9,49),(10,49),(11,49),(12,6),(22,2),(23,4),(25,5),(26,8),(27,10),(28,12),(29,14),(31,15),(32,17),(33,19),(34,25),(36,26),(37,36),(38,37),(41,46),(42,22),(44,47),(45,0),(49,29),(51,30),(53,57),(60,45),(62,39),(64,40),(68,41),(77,38),(85,48),(86,51),(88,52),(90,53),(91,54),(97,6),(102,16),(104,18),(106,20),(107,21),(109,23),(112,24),(124,31),(126,42),(129,33),(131,34),(137,1),(139,3),(141,7),(143,11),(145,13),(150,55),(152,32),(154,9),(156,61),(157,61),(184,28),(185,44),(189,43),(192,35),(195,6),(199,58),(200,60),(208,0),(216,59),(224,6),(243,56),(244,56),(252,50)] t).getD 62
def TV:TE:=⟨TT,TD,TZ,TC,λc=>match c with | 0=>rfl | 1=>rfl | 2=>rfl | 3=>rfl | 4=>rfl | 5=>rfl | 6=>rfl | 7=>rfl | 8=>rfl | 9=>rfl | 10=>rfl | 11=>rfl | 12=>rfl | 13=>rfl | 14=>rfl | 15=>rfl | 16=>rfl | 17=>rfl | 18=>rfl | 19=>rfl | 20=>rfl | 21=>rfl | 22=>rfl | 23=>rfl | 24=>rfl | 25=>rfl | 26=>rfl | 27=>rfl | 28=>rfl | 29=>rfl | 30=>rfl | 31=>rfl | 32=>rfl | 33=>rfl | 34=>rfl | 35=>rfl | 36=>rfl | 37=>rfl | 38=>rfl | 39=>rfl | 40=>rfl | 41=>rfl | 42=>rfl | 43=>rfl | 44=>rfl | 45=>rfl | 46=>rfl | 47=>rfl | 48=>rfl | 49=>rfl | 50=>rfl | 51=>rfl | 52=>rfl | 53=>rfl | 54=>rfl | 55=>rfl | 56=>rfl | 57=>rfl | 58=>rfl | 59=>rfl | 60=>rfl | 61=>rfl | _+62=>rfl⟩
def z4r :(Nat->Int)->List Int:=TV.kl 32
def zp9 (l:List Int):Option (List Int):=zj9 l
def Good {R:Type} (r:R) (y:Option (List (Option R))):Prop:=∃ L,y=some L/\∀ a∈L,a=some r
theorem Good.one {R:Type} {r:R} {x:Option R} (h:x=some r):Good r (some [x]):=⟨_,rfl,λa ha=>by rw [w0k] at ha; rw [ha,h]⟩
theorem Good.nil {R:Type} {r:R} : Good r (catL ([]:List (Option (List (Option R))))):=⟨[],rfl,λa ha=>by cases ha⟩
theorem Good.cons {R:Type} {r:R} {y:Option (List (Option R))} {ys:List (Option (List (Option R)))} (h:Good r y) (k:Good r (catL ys)):Good r (catL (y::ys)):=by
 obtain⟨L,rfl,h1⟩:=h
 obtain⟨M,e,h2⟩:=k
 refine⟨L++M,by simp only [catL,e,cat2],λa ha=>?_⟩
 rcases w0l.1 ha with h | h
 ·exact h1 a h
 ·exact h2 a h
theorem Good.ck {R:Type} {r:R} {p:Prop} [Decidable p] {y:Option (List (Option R))} (h:p) (k:Good r y):Good r (ck p y):=by
 unfold Px.ck; rw [if_pos h]; exact k
theorem ckS {R:Type} {r:R} {p:Prop} [Decidable p] {x:Option R} (h:ck p x=some r):p/\x=some r:=by
 unfold ck at h
 split at h
 ·rename_i hp; exact⟨hp,h⟩
 ·cases h
def z91 (φ:Nat):Option (Pool×Unit):=(some ((⟨(⟨[(⟨2,0,-1⟩:ze6),(⟨4,0,-1⟩:ze6),(⟨2,0,-1⟩:ze6)],[(⟨0,1,0,30,0⟩:Edge),(⟨1,2,0,50,0⟩:Edge)]⟩:z01),(⟨[(⟨0,0,0,0,0,6,1,0⟩:z2n),(⟨0,0,0,0,0,6,1,0⟩:z2n)],([]:List zlx),[(⟨0,1,7⟩:Swap)],[(⟨1,2,15⟩:Wash)]⟩:z4j),([]:List zfy),([]:List zc0),[(⟨4,(⟨λ_=>(default:Span),([]:List Int)⟩:z7v)⟩:z4k)]⟩:Pool),()))
def zao (φ:Nat):Fsp TV:=⟨[],[.val 26],λz=>z91 φ⟩
def z8t (φ:Nat) (x1:ze6):Option (Bool×Unit):=(if((((decide ((x1.kind:Int)<1))||(decide ((5:Int)<x1.kind)))||(decide ((x1.railway:Int)<0)))||(decide ((16:Int)<=x1.railway)))=true then(some (false,())) else(if((x1.kind:Int) !=3)=true then(some (((x1.other:Int)==(-1)),())) else(some ((((decide ((0:Int)<=x1.other))&&(decide ((x1.other:Int)<16)))&&((x1.other:Int) !=x1.railway)),()))))
def zae (φ:Nat):Fsp TV:=⟨[1],[.val 27],λz=>z8t φ z.1⟩
def z1q (φ:Nat):Nat->Int->(List Edge)->Int->Int->Option (Int×Unit)
 | 0,_,_,_,_=>none
 | n13+1,x9,x10,x11,x12=>(if(decide (x12<x11))=true then(ck (rg x12 x10.length) (if(((((((decide (((min2 ((min2 (min2 ((gt x10 x12).a) ((gt x10 x12).b)) ((gt x10 x12).railway))) ((gt x10 x12).km)):Int)<0))||(decide (x9<=(max2 ((gt x10 x12).a) ((gt x10 x12).b)))))||(((gt x10 x12).a:Int)==(gt x10 x12).b))||(decide ((16:Int)<=(gt x10 x12).railway)))||(decide (((gt x10 x12).minutes:Int)<1)))||(decide ((100000:Int) <(gt x10 x12).minutes)))||(decide ((10000:Int) <(gt x10 x12).km)))=true then(some (1,())) else((z1q φ n13) x9 x10 x11 (W (x12+1))))) else(some (0,())))
def z3f (φ:Nat):Nat->Int->(List ze6)->Int->Int->z01->Option (Int×Unit)
 | 0,_,_,_,_,_=>none
 | n7+1,x2,x3,x4,x5,x6=>(if(decide (x5<x4))=true then(ck (rg x5 x3.length) ((z8t φ (gt x3 x5)).bind λy8=>(if(!y8.1)=true then(some (1,())) else((z3f φ n7) x2 x3 x4 (W (x5+1)) x6)))) else(z1q φ φ x2 x6.edges (x6.edges.length:Int) 0))
def z75 (φ:Nat) (x1:z01):Option (Int×Unit):=(if((decide ((512:Int) <(x1.places.length:Int)))||(decide ((2048:Int) <(x1.edges.length:Int))))=true then(some (2,())) else(z3f φ φ (x1.places.length:Int) x1.places (x1.places.length:Int) 0 x1))
def z6c (φ:Nat):Fsp TV:=⟨[5],[.val 0],λz=>z75 φ z.1⟩
def zu (φ:Nat) (x1 x2 x3:Int):Option (Bool×Unit):=(some (((decide (x2<=x1))&&(decide (x1<=x3))),()))
def z48 (φ:Nat):Fsp TV:=⟨[0,0,0],[.val 27],kk3 (zu φ)⟩
def z27 (φ:Nat) (k7 :((List z2n)->Int->Int->z4j->Int->Option (Int×Unit))):Nat->(List z2n)->Int->Int->Int->Int->z4j->Int->z2n->(List Int)->Option (Int×Unit)
 | 0,_,_,_,_,_,_,_,_,_=>none
 | n17+1,x8,x9,x10,x11,x12,x13,x14,x15,x16=>(if(decide (x12<x11))=true then(ck (rg x12 x16.length) ((zu φ (gt x16 x12) 0 1000000).bind λy18=>(if(!y18.1)=true then((z27 φ k7 n17) x8 x9 x10 x11 (W (x12+1)) x13 1 x15 x16) else((z27 φ k7 n17) x8 x9 x10 x11 (W (x12+1)) x13 x14 x15 x16)))) else((zu φ x15.gauge 0 7).bind λy19=>((z0s (default,()) (y19.1=true) (zu φ x15.life 1 1073741824)).bind λy20=>((z0s (default,()) ((y19.1&&y20.1)=true) (zu φ x15.floor 0 100)).bind λy21=>(if(!((y19.1&&y20.1)&&y21.1))=true then(k7 x8 x9 (W (x10+1)) x13 1) else(k7 x8 x9 (W (x10+1)) x13 x14))))))
def zz (φ:Nat):Nat->(List Wash)->Int->Int->Int->(Nat->Bool)->Option (Int×Unit)
 | 0,_,_,_,_,_=>none
 | n49+1,x44,x45,x46,x47,x48=>(if(decide (x46<x45))=true then(ck (rg x46 x44.length) ((zu φ ((gt x44 x46).from_) 0 63).bind λy50=>((z0s (default,()) (y50.1=true) (zu φ ((gt x44 x46).to) 0 63)).bind λy51=>((z0s (default,()) (((y50.1&&y51.1)&&(((gt x44 x46).from_:Int) !=(gt x44 x46).to))=true) (zu φ ((gt x44 x46).minutes) 0 100000)).bind λy52=>(if(!(((y50.1&&y51.1)&&(((gt x44 x46).from_:Int) !=(gt x44 x46).to))&&y52.1))=true then(if(((y50.1&&y51.1)&&(((gt x44 x46).from_:Int) !=(gt x44 x46).to))&&y52.1)=true then(ck (rg (gt x44 x46).from_ 64) (ck (rg (gt x44 x46).to 64) (if(!(!(x48 (((((gt x44 x46).from_:Int).toNat*64) +((gt x44 x46).to:Int).toNat)))))=true then(ck (rg (gt x44 x46).from_ 64) (ck (rg (gt x44 x46).to 64) ((zz φ n49) x44 x45 (W (x46+1)) 1 ((upd x48 (((((gt x44 x46).from_:Int).toNat*64) +((gt x44 x46).to:Int).toNat)) true))))) else(ck (rg (gt x44 x46).from_ 64) (ck (rg (gt x44 x46).to 64) ((zz φ n49) x44 x45 (W (x46+1)) 1 ((upd x48 (((((gt x44 x46).from_:Int).toNat*64) +((gt x44 x46).to:Int).toNat)) true)))))))) else((zz φ n49) x44 x45 (W (x46+1)) 1 x48)) else(if(((y50.1&&y51.1)&&(((gt x44 x46).from_:Int) !=(gt x44 x46).to))&&y52.1)=true then(ck (rg (gt x44 x46).from_ 64) (ck (rg (gt x44 x46).to 64) (if(!(!(x48 (((((gt x44 x46).from_:Int).toNat*64) +((gt x44 x46).to:Int).toNat)))))=true then(ck (rg (gt x44 x46).from_ 64) (ck (rg (gt x44 x46).to 64) ((zz φ n49) x44 x45 (W (x46+1)) 1 ((upd x48 (((((gt x44 x46).from_:Int).toNat*64) +((gt x44 x46).to:Int).toNat)) true))))) else(ck (rg (gt x44 x46).from_ 64) (ck (rg (gt x44 x46).to 64) ((zz φ n49) x44 x45 (W (x46+1)) x47 ((upd x48 (((((gt x44 x46).from_:Int).toNat*64) +((gt x44 x46).to:Int).toNat)) true)))))))) else((zz φ n49) x44 x45 (W (x46+1)) x47 x48))))))) else(some (x47,())))
def z0t (φ:Nat):Nat->(List Swap)->Int->Int->z4j->Int->Option (Int×Unit)
 | 0,_,_,_,_,_=>none
 | n40+1,x35,x36,x37,x38,x39=>(if(decide (x37<x36))=true then(ck (rg x37 x35.length) ((zu φ ((gt x35 x37).wanted) 0 (W ((x38.types.length:Int)-1))).bind λy41=>((z0s (default,()) (y41.1=true) (zu φ ((gt x35 x37).given) 0 (W ((x38.types.length:Int)-1)))).bind λy42=>((z0s (default,()) (((y41.1&&y42.1)&&(((gt x35 x37).wanted:Int) !=(gt x35 x37).given))=true) (zu φ ((gt x35 x37).cost) 0 1000000000)).bind λy43=>(if(!(((y41.1&&y42.1)&&(((gt x35 x37).wanted:Int) !=(gt x35 x37).given))&&y43.1))=true then((z0t φ n40) x35 x36 (W (x37+1)) x38 1) else((z0t φ n40) x35 x36 (W (x37+1)) x38 x39)))))) else(zz φ φ x38.washes (x38.washes.length:Int) 0 x39 (λ_=>(default:Bool))))
def z0e (φ:Nat):Nat->(List zlx)->Int->Int->z4j->Int->Option (Int×Unit)
 | 0,_,_,_,_,_=>none
 | n27+1,x22,x23,x24,x25,x26=>(if(decide (x24<x23))=true then(ck (rg x24 x22.length) ((zu φ ((gt x22 x24).type_) 0 (W ((x25.types.length:Int)-1))).bind λy28=>((z0s (default,()) (y28.1=true) (zu φ ((gt x22 x24).owner) 0 63)).bind λy29=>((z0s (default,()) ((y28.1&&y29.1)=true) (zu φ ((gt x22 x24).home) 0 511)).bind λy30=>(if(!((y28.1&&y29.1)&&y30.1))=true then((zu φ ((gt x22 x24).built) 0 1073741824).bind λy31=>((z0s (default,()) (y31.1=true) (zu φ ((gt x22 x24).worth) 0 1099511627776)).bind λy32=>(if(!(y31.1&&y32.1))=true then((z0e φ n27) x22 x23 (W (x24+1)) x25 1) else((z0e φ n27) x22 x23 (W (x24+1)) x25 1)))) else((zu φ ((gt x22 x24).built) 0 1073741824).bind λy33=>((z0s (default,()) (y33.1=true) (zu φ ((gt x22 x24).worth) 0 1099511627776)).bind λy34=>(if(!(y33.1&&y34.1))=true then((z0e φ n27) x22 x23 (W (x24+1)) x25 1) else((z0e φ n27) x22 x23 (W (x24+1)) x25 x26))))))))) else(z0t φ φ x25.swaps (x25.swaps.length:Int) 0 x25 x26))
def z3n (φ:Nat):Nat->(List z2n)->Int->Int->z4j->Int->Option (Int×Unit)
 | 0,_,_,_,_,_=>none
 | n7+1,x2,x3,x4,x5,x6=>(if(decide (x4<x3))=true then(ck (rg x4 x2.length) (z27 φ (z3n φ n7) φ x2 x3 x4 (([(gt x2 x4).load,(gt x2 x4).tare,(gt x2 x4).length,(gt x2 x4).brake]).length:Int) 0 x5 x6 (gt x2 x4) ([(gt x2 x4).load,(gt x2 x4).tare,(gt x2 x4).length,(gt x2 x4).brake]))) else(z0e φ φ x5.wagons (x5.wagons.length:Int) 0 x5 x6))
def z7k (φ:Nat) (x1:z4j):Option (Int×Unit):=(if((((decide ((32:Int) <(x1.types.length:Int)))||(decide ((4096:Int) <(x1.wagons.length:Int))))||(decide ((1024:Int) <(x1.swaps.length:Int))))||(decide ((4096:Int) <(x1.washes.length:Int))))=true then(some (2,())) else(z3n φ φ x1.types (x1.types.length:Int) 0 x1 0))
def z6d (φ:Nat):Fsp TV:=⟨[15],[.val 0],λz=>z7k φ z.1⟩
def z2g (φ:Nat):Nat->Int->(List Int)->Int->Int->Option (Int×Unit)
 | 0,_,_,_,_=>none
 | n10+1,x6,x7,x8,x9=>(if(decide (x9<x8))=true then(ck (rg x9 x7.length) (if((decide (((gt x7 x9):Int)<=x6))||(decide ((745654:Int) <(gt x7 x9))))=true then(some (1,())) else((z2g φ n10) (gt x7 x9) x7 x8 (W (x9+1))))) else(some (0,())))
def z2x (φ:Nat):Nat->(Nat->Span)->Int->z7v->Option (Int×Unit)
 | 0,_,_,_=>none
 | n5+1,x2,x3,x4=>(if(decide (x3<7))=true then(ck (rg x3 7) (if(((decide (((x2 x3.toNat).from_:Int)<0))||(decide (((x2 x3.toNat).to:Int) <(x2 x3.toNat).from_)))||(decide ((1440:Int) <(x2 x3.toNat).to)))=true then(some (1,())) else((z2x φ n5) x2 (W (x3+1)) x4))) else(z2g φ φ (-1) x4.holidays (x4.holidays.length:Int) 0))
def z7s (φ:Nat) (x1:z7v):Option (Int×Unit):=(z2x φ φ x1.open_ 0 x1)
def z84 (φ:Nat):Fsp TV:=⟨[23],[.val 0],λz=>z7s φ z.1⟩
def z7j (φ:Nat) (x1 x2:Int):Option (Int×Int×Unit):=(if 0<=(32:Int) then(if 0<=(32:Int) then(if 0<=(32:Int) then(if 0<=(32:Int) then(if 0<=(32:Int) then(some ((U ((U ((U ((x1.fdiv (2 ^ (min (32:Int).toNat 64))) *(x2.fdiv (2 ^ (min (32:Int).toNat 64))))) +(((U ((U ((x1.fdiv (2 ^ (min (32:Int).toNat 64))) *(U ((BitVec.ofInt 64 x2&&& BitVec.ofInt 64 4294967295).toNat)))) +(((U ((U ((BitVec.ofInt 64 x1&&& BitVec.ofInt 64 4294967295).toNat)) *(U ((BitVec.ofInt 64 x2&&& BitVec.ofInt 64 4294967295).toNat)))):Int).fdiv (2 ^ (min (32:Int).toNat 64))))):Int).fdiv (2 ^ (min (32:Int).toNat 64))))) +(((U ((U ((BitVec.ofInt 64 (U ((U ((x1.fdiv (2 ^ (min (32:Int).toNat 64))) *(U ((BitVec.ofInt 64 x2&&& BitVec.ofInt 64 4294967295).toNat)))) +(((U ((U ((BitVec.ofInt 64 x1&&& BitVec.ofInt 64 4294967295).toNat)) *(U ((BitVec.ofInt 64 x2&&& BitVec.ofInt 64 4294967295).toNat)))):Int).fdiv (2 ^ (min (32:Int).toNat 64)))))&&& BitVec.ofInt 64 4294967295).toNat)) +(U ((U ((BitVec.ofInt 64 x1&&& BitVec.ofInt 64 4294967295).toNat)) *(x2.fdiv (2 ^ (min (32:Int).toNat 64))))))):Int).fdiv (2 ^ (min (32:Int).toNat 64))))),(U (x1*x2)),())) else none) else none) else none) else none) else none)
def zdn (φ:Nat):Fsp TV:=⟨[6,6],[.val 6,.val 6],kk2 (z7j φ)⟩
def z1g (φ:Nat) (x8 x9:Int):Option (Int×Unit):=(ck (rg (IntKind.wrap .u8 (x8)) z00.size) (some ((W (64 -(W (x9 +(W ((z97 z00 (IntKind.wrap .u8 (x8))))))))),())))
def z1o (φ:Nat) (x5 x6:Int):Option (Int×Unit):=(if(decide ((256:Int)<=x5))=true then(if 0<=(8:Int) then(z1g φ ((x5.fdiv (2 ^ (min (8:Int).toNat 64)))) (W (x6+8))) else none) else(z1g φ x5 x6))
def z1p (φ:Nat) (x2 x3:Int):Option (Int×Unit):=(if(decide ((65536:Int)<=x2))=true then(if 0<=(16:Int) then(z1o φ ((x2.fdiv (2 ^ (min (16:Int).toNat 64)))) (W (x3+16))) else none) else(z1o φ x2 x3))
def z32 (φ:Nat) (x1:Int):Option (Int×Unit):=(if(decide ((4294967296:Int)<=x1))=true then(if 0<=(32:Int) then(z1p φ ((x1.fdiv (2 ^ (min (32:Int).toNat 64)))) 32) else none) else(z1p φ x1 0))
def z5a (φ:Nat):Fsp TV:=⟨[6],[.val 0],λz=>z32 φ z.1⟩
def z5u (φ:Nat) (x14 x15 x16 x17 x18 x19:Int):Option (Int×Int×Unit):=(ck (0<=x15) (some ((U ((U (x17*4294967296))+x19)),(((U ((U ((U (x18*4294967296))+x16)) -(U (x19*x14)))):Int).fdiv (2 ^ (min x15.toNat 64))),())))
def z5t (φ:Nat):Nat->Int->Int->Int->Int->Int->Int->Int->Int->Int->Option (Int×Int×Unit)
 | 0,_,_,_,_,_,_,_,_,_=>none
 | n30+1,x21,x22,x23,x24,x25,x26,x27,x28,x29=>(if((decide ((4294967296:Int)<=x29))||(decide (((U ((U (4294967296*x27))+x25)):Int) <(U (x29*x24)))))=true then(if(decide ((4294967296:Int)<=(U (x27+x23))))=true then(z5u φ x21 x22 x25 x26 x28 (U (x29-1))) else((z5t φ n30) x21 x22 x23 x24 x25 x26 (U (x27+x23)) x28 (U (x29-1)))) else(z5u φ x21 x22 x25 x26 x28 x29))
def z5s (φ:Nat) (x5 x6 x7 x8 x9 x10 x11 x12:Int):Option (Int×Int×Unit):=(ck (x7≠0) (z5t φ φ x5 x6 x7 x8 x11 x12 ((U ((U ((U ((U (x9*4294967296))+x10)) -(U (x12*x5)))) -(U ((U (((U ((U ((U (x9*4294967296))+x10)) -(U (x12*x5)))):Int).tdiv x7))*x7))))) ((U ((U ((U (x9*4294967296))+x10)) -(U (x12*x5))))) ((U (((U ((U ((U (x9*4294967296))+x10)) -(U (x12*x5)))):Int).tdiv x7)))))
def z5v (φ:Nat):Nat->Int->Int->Int->Int->Int->Int->Int->Int->Int->Option (Int×Int×Unit)
 | 0,_,_,_,_,_,_,_,_,_=>none
 | n40+1,x31,x32,x33,x34,x35,x36,x37,x38,x39=>(if((decide ((4294967296:Int)<=x38))||(decide (((U ((U (4294967296*x39))+x36)):Int) <(U (x38*x34)))))=true then(if(decide ((4294967296:Int)<=(U (x39+x33))))=true then(z5s φ x31 x32 x33 x34 x35 x36 x37 (U (x38-1))) else((z5v φ n40) x31 x32 x33 x34 x35 x36 x37 (U (x38-1)) (U (x39+x33)))) else(z5s φ x31 x32 x33 x34 x35 x36 x37 x38))
def z68 (φ:Nat) (x1 x2 x3:Int):Option (Int×Int×Unit):=(if(x3==0)=true then none else(if(decide (x3<=x1))=true then none else(if(x1==0)=true then(ck (x3≠0) (ck (x3≠0) (some ((U (x2.tdiv x3)),(x2.tmod x3),())))) else((z32 φ x3).bind λy4=>(ck (0<=(U (y4.1))) (if 0<=(32:Int) then(ck (0<=(U (y4.1))) (ck (0<=(U (64 -(U (y4.1))))) (ck (0<=(U (y4.1))) (if 0<=(32:Int) then(ck ((((U (x3*2 ^ (min ((U (y4.1)):Int).toNat 64))):Int).fdiv (2 ^ (min (32:Int).toNat 64)))≠0) (z5v φ φ ((U (x3*2 ^ (min ((U (y4.1)):Int).toNat 64)))) (U (y4.1)) ((((U (x3*2 ^ (min ((U (y4.1)):Int).toNat 64))):Int).fdiv (2 ^ (min (32:Int).toNat 64)))) ((U ((BitVec.ofInt 64 (U (x3*2 ^ (min ((U (y4.1)):Int).toNat 64)))&&& BitVec.ofInt 64 4294967295).toNat))) ((U ((BitVec.ofInt 64 (U (x1*2 ^ (min ((U (y4.1)):Int).toNat 64)))||| BitVec.ofInt 64 (x2.fdiv (2 ^ (min ((U (64 -(U (y4.1)))):Int).toNat 64)))).toNat))) ((((U (x2*2 ^ (min ((U (y4.1)):Int).toNat 64))):Int).fdiv (2 ^ (min (32:Int).toNat 64)))) ((U ((BitVec.ofInt 64 (U (x2*2 ^ (min ((U (y4.1)):Int).toNat 64)))&&& BitVec.ofInt 64 4294967295).toNat))) ((U (((U ((BitVec.ofInt 64 (U (x1*2 ^ (min ((U (y4.1)):Int).toNat 64)))||| BitVec.ofInt 64 (x2.fdiv (2 ^ (min ((U (64 -(U (y4.1)))):Int).toNat 64)))).toNat)):Int).tdiv (((U (x3*2 ^ (min ((U (y4.1)):Int).toNat 64))):Int).fdiv (2 ^ (min (32:Int).toNat 64)))))) ((U ((U ((BitVec.ofInt 64 (U (x1*2 ^ (min ((U (y4.1)):Int).toNat 64)))||| BitVec.ofInt 64 (x2.fdiv (2 ^ (min ((U (64 -(U (y4.1)))):Int).toNat 64)))).toNat)) -(U ((U (((U ((BitVec.ofInt 64 (U (x1*2 ^ (min ((U (y4.1)):Int).toNat 64)))||| BitVec.ofInt 64 (x2.fdiv (2 ^ (min ((U (64 -(U (y4.1)))):Int).toNat 64)))).toNat)):Int).tdiv (((U (x3*2 ^ (min ((U (y4.1)):Int).toNat 64))):Int).fdiv (2 ^ (min (32:Int).toNat 64))))) *(((U (x3*2 ^ (min ((U (y4.1)):Int).toNat 64))):Int).fdiv (2 ^ (min (32:Int).toNat 64)))))))))) else none)))) else none))))))
def ze4 (φ:Nat):Fsp TV:=⟨[6,6,6],[.val 6,.val 6],kk3 (z68 φ)⟩
def z7z (φ:Nat) (k30 :(Int->Int->Int->Int->Int->Int->Option (Int×Unit))) (x55 x56 x57 x58 x59 x60 x61 x62 x63 x64:Int):Option (Int×Unit):=(ck (rg (IntKind.wrap .u8 (x55)) z00.size) (ck (0<=(W ((W ((W (x56 +(W ((z97 z00 (IntKind.wrap .u8 (x55)))))))-1))-x60))) (if(((U ((BitVec.ofInt 64 (x63.fdiv (2 ^ (min ((W ((W ((W (x56 +(W ((z97 z00 (IntKind.wrap .u8 (x55)))))))-1))-x60)):Int).toNat 64)))&&& BitVec.ofInt 64 1).toNat)):Int)==1)=true then(ck (x64≠0) (ck (x64≠0) ((z7j φ (x59.tmod x64) (x57.tmod x64)).bind λy66=>((z68 φ y66.1 y66.2.1 x64).bind λy67=>(k30 x57 x58 y67.2.1 x61 (W (x62+1)) x64))))) else(k30 x57 x58 x59 x61 (W (x62+1)) x64))))
def z81 (φ:Nat) (k30 :(Int->Int->Int->Int->Int->Int->Option (Int×Unit))) (x44 x45 x46 x47 x48 x49 x50 x51 x52 x53:Int):Option (Int×Unit):=(if(decide ((256:Int)<=x44))=true then(if 0<=(8:Int) then(z7z φ k30 ((x44.fdiv (2 ^ (min (8:Int).toNat 64)))) (W (x45+8)) x46 x47 x48 x49 x50 x51 x52 x53) else none) else(z7z φ k30 x44 x45 x46 x47 x48 x49 x50 x51 x52 x53))
def z3g (φ:Nat) (k30 :(Int->Int->Int->Int->Int->Int->Option (Int×Unit))) (x33 x34 x35 x36 x37 x38 x39 x40 x41 x42:Int):Option (Int×Unit):=(if(decide ((65536:Int)<=x33))=true then(if 0<=(16:Int) then(z81 φ k30 ((x33.fdiv (2 ^ (min (16:Int).toNat 64)))) (W (x34+16)) x35 x36 x37 x38 x39 x40 x41 x42) else none) else(z81 φ k30 x33 x34 x35 x36 x37 x38 x39 x40 x41 x42))
def z0q (φ:Nat):Nat->Int->Int->Int->Int->Int->Int->Option (Int×Unit)
 | 0,_,_,_,_,_,_=>none
 | n30+1,x24,x25,x26,x27,x28,x29=>(if(decide (x28<x27))=true then(ck (x29≠0) (ck (x29≠0) ((z7j φ (x26.tmod x29) (x26.tmod x29)).bind λy31=>((z68 φ y31.1 y31.2.1 x29).bind λy32=>(if(decide ((4294967296:Int)<=x25))=true then(if 0<=(32:Int) then(z3g φ (z0q φ n30) ((x25.fdiv (2 ^ (min (32:Int).toNat 64)))) 32 x24 x25 y32.2.1 x28 x27 x28 x25 x29) else none) else(z3g φ (z0q φ n30) x25 0 x24 x25 y32.2.1 x28 x27 x28 x25 x29)))))) else(some (x26,())))
def z80 (φ:Nat) (x17 x18 x19 x20 x21 x22:Int):Option (Int×Unit):=(ck (rg (IntKind.wrap .u8 (x17)) z00.size) (z0q φ φ x19 x20 x21 ((W (x18 +(W ((z97 z00 (IntKind.wrap .u8 (x17)))))))) 0 x22))
def z83 (φ:Nat) (x10 x11 x12 x13 x14 x15:Int):Option (Int×Unit):=(if(decide ((256:Int)<=x10))=true then(if 0<=(8:Int) then(z80 φ ((x10.fdiv (2 ^ (min (8:Int).toNat 64)))) (W (x11+8)) x12 x13 x14 x15) else none) else(z80 φ x10 x11 x12 x13 x14 x15))
def za8 (φ:Nat) (x3 x4 x5 x6 x7 x8:Int):Option (Int×Unit):=(if(decide ((65536:Int)<=x3))=true then(if 0<=(16:Int) then(z83 φ ((x3.fdiv (2 ^ (min (16:Int).toNat 64)))) (W (x4+16)) x5 x6 x7 x8) else none) else(z83 φ x3 x4 x5 x6 x7 x8))
def zfv (φ:Nat) (x1 x2:Int):Option (Int×Unit):=(if(decide ((4294967296:Int)<=x2))=true then(if 0<=(32:Int) then(za8 φ ((x2.fdiv (2 ^ (min (32:Int).toNat 64)))) 32 x1 x2 1 2305843009213690799) else none) else(za8 φ x2 0 x1 x2 1 2305843009213690799))
def zhk (φ:Nat):Fsp TV:=⟨[6,6],[.val 6],kk2 (zfv φ)⟩
def zem (φ:Nat) (x1:Int):Option (Bool×Unit):=((z0s (default,()) (((decide ((2:Int)<=x1))&&(decide (x1<2305843009213690799)))=true) (zfv φ x1 1152921504606845399)).bind λy2=>(some ((((decide ((2:Int)<=x1))&&(decide (x1<2305843009213690799)))&&(y2.1==1)),())))
def zdg (φ:Nat):Fsp TV:=⟨[6],[.val 27],λz=>zem φ z.1⟩
def z13 (φ:Nat):Nat->Bool->(List z4k)->Int->Int->Option (Int×Unit)
 | 0,_,_,_,_=>none
 | n48+1,x44,x45,x46,x47=>(if(decide (x47<x46))=true then(ck (rg x47 x45.length) ((z0s (default,()) (x44=false) (z7s φ ((gt x45 x47).calendar))).bind λy49=>((z0s (default,()) ((x44||(y49.1 !=0))=false) (zem φ ((gt x45 x47).key))).bind λy50=>((z13 φ n48) (((x44||(y49.1 !=0))||(!y50.1))) x45 x46 (W (x47+1)))))) else(if x44=true then(some (1,())) else(some (0,()))))
def z10 (φ:Nat):Nat->Int->Bool->(List Edge)->Int->Int->Pool->Option (Int×Unit)
 | 0,_,_,_,_,_,_=>none
 | n43+1,x37,x38,x39,x40,x41,x42=>(if(decide (x41<x40))=true then(ck (rg x41 x39.length) ((z10 φ n43) x37 ((x38||(decide (x37<=(gt x39 x41).railway)))) x39 x40 (W (x41+1)) x42)) else(z13 φ φ x38 x42.railways (x42.railways.length:Int) 0))
def z0z (φ:Nat):Nat->Int->Bool->(List ze6)->Int->Int->Pool->Option (Int×Unit)
 | 0,_,_,_,_,_,_=>none
 | n36+1,x30,x31,x32,x33,x34,x35=>(if(decide (x34<x33))=true then(ck (rg x34 x32.length) ((z0z φ n36) x30 (((x31||(decide (x30<=(gt x32 x34).railway)))||(decide (x30<=(gt x32 x34).other)))) x32 x33 (W (x34+1)) x35)) else(z10 φ φ x30 x31 x35.network.edges (x35.network.edges.length:Int) 0 x35))
def z11 (φ:Nat):Nat->(List ze6)->Int->Bool->(List zlx)->Int->Int->Pool->Option (Int×Unit)
 | 0,_,_,_,_,_,_,_=>none
 | n29+1,x22,x23,x24,x25,x26,x27,x28=>(if(decide (x27<x26))=true then(ck (rg x27 x25.length) ((z11 φ n29) x22 x23 ((x24||(decide (((x22.length:Int):Int)<=(gt x25 x27).home)))) x25 x26 (W (x27+1)) x28)) else(z0z φ φ x23 x24 x22 (x22.length:Int) 0 x28))
def z12 (φ:Nat):Nat->(List ze6)->Int->Bool->(List zc0)->Int->Int->Pool->Option (Int×Unit)
 | 0,_,_,_,_,_,_,_=>none
 | n20+1,x13,x14,x15,x16,x17,x18,x19=>(if(decide (x18<x17))=true then(ck (rg x18 x16.length) ((z0s (default,()) (x15=false) (zu φ ((gt x16 x18).place) 0 (W ((x13.length:Int)-1)))).bind λy21=>(ck (((x15||(!y21.1))=false)->rg (gt x16 x18).place x13.length) ((z12 φ n20) x13 x14 (((x15||(!y21.1))||(((gt x13 ((gt x16 x18).place)).kind:Int) !=4))) x16 x17 (W (x18+1)) x19)))) else(z11 φ φ x13 x14 x15 x19.fleet.wagons (x19.fleet.wagons.length:Int) 0 x19))
def z1t (φ:Nat):Nat->(List ze6)->Int->Bool->(List zfy)->Int->Int->Pool->Option (Int×Unit)
 | 0,_,_,_,_,_,_,_=>none
 | n11+1,x4,x5,x6,x7,x8,x9,x10=>(if(decide (x9<x8))=true then(ck (rg x9 x7.length) ((z0s (default,()) (x6=false) (zu φ ((gt x7 x9).place) 0 (W ((x4.length:Int)-1)))).bind λy12=>((z1t φ n11) x4 x5 (((((x6||(!y12.1))||(decide (((gt x7 x9).low:Int) <(-1000))))||(decide (((gt x7 x9).high:Int) <(gt x7 x9).low)))||(decide ((1000:Int) <(gt x7 x9).high)))) x7 x8 (W (x9+1)) x10))) else(z12 φ φ x4 x5 x6 x10.shippers (x10.shippers.length:Int) 0 x10))
def z1a (φ:Nat) (x1:Pool):Option (Int×Unit):=((z75 φ x1.network).bind λy2=>(if(y2.1 !=0)=true then(some (y2.1,())) else((z7k φ x1.fleet).bind λy3=>(if(y3.1 !=0)=true then(some (y3.1,())) else(if(((decide ((256:Int) <(x1.readers.length:Int)))||(decide ((256:Int) <(x1.shippers.length:Int))))||(decide ((16:Int) <(x1.railways.length:Int))))=true then(some (2,())) else(z1t φ φ x1.network.places (x1.railways.length:Int) (((x1.railways.length:Int):Int)==0) x1.readers (x1.readers.length:Int) 0 x1))))))
def z3z (φ:Nat):Fsp TV:=⟨[26],[.val 0],λz=>z1a φ z.1⟩
def z09 (φ:Nat) (x1 x2 x3:Int):Option (Bool×Unit):=(some (((decide (x2<=x1))&&(decide (x1<=x3))),()))
def z5h (φ:Nat):Fsp TV:=⟨[0,0,0],[.val 27],kk3 (z09 φ)⟩
def z22 (φ:Nat) (x1:Pool) (x2:z8):Option (Bool×Unit):=((z09 φ x2.type_ 0 (W ((x1.fleet.types.length:Int)-1))).bind λy3=>((z0s (default,()) (y3.1=true) (z09 φ x2.class_ (-1) 63)).bind λy4=>((z0s (default,()) ((y3.1&&y4.1)=true) (z09 φ x2.place 0 (W ((x1.network.places.length:Int)-1)))).bind λy5=>((z0s (default,()) (((y3.1&&y4.1)&&y5.1)=true) (z09 φ x2.at_ 0 1073741824)).bind λy6=>((z0s (default,()) ((((y3.1&&y4.1)&&y5.1)&&y6.1)=true) (z09 φ x2.count 1 4096)).bind λy7=>(some (((((y3.1&&y4.1)&&y5.1)&&y6.1)&&y7.1),())))))))
def z4m (φ:Nat):Fsp TV:=⟨[26,29],[.val 27],kk2 (z22 φ)⟩
def z2o (φ:Nat) (x1:Pool) (x2:zl):Option (Bool×Unit):=((z09 φ x2.type_ 0 (W ((x1.fleet.types.length:Int)-1))).bind λy3=>((z0s (default,()) (y3.1=true) (z09 φ x2.class_ 0 63)).bind λy4=>((z0s (default,()) ((y3.1&&y4.1)=true) (z09 φ x2.place 0 (W ((x1.network.places.length:Int)-1)))).bind λy5=>((z0s (default,()) (((y3.1&&y4.1)&&y5.1)=true) (z09 φ x2.from_ 0 x2.to)).bind λy6=>((z0s (default,()) (((((y3.1&&y4.1)&&y5.1)&&y6.1)&&(decide ((x2.to:Int)<=1073741824)))=true) (z09 φ x2.count 1 1000)).bind λy7=>((z0s (default,()) ((((((y3.1&&y4.1)&&y5.1)&&y6.1)&&(decide ((x2.to:Int)<=1073741824)))&&y7.1)=true) (z09 φ x2.weight 0 1000000000)).bind λy8=>(some (((((((y3.1&&y4.1)&&y5.1)&&y6.1)&&(decide ((x2.to:Int)<=1073741824)))&&y7.1)&&y8.1),()))))))))
def z5b (φ:Nat):Fsp TV:=⟨[26,30],[.val 27],kk2 (z2o φ)⟩
def z45 (φ:Nat) (k16 :((List Edge)->Int->Int->z01->(List (List Int))->(List ((Nat->Int)×Int))->Option (zt×Int×Unit))) (x30 x31:Int) (x32:Bool) (x33 :(List Edge)) (x34 x35:Int) (x36:z01) (x37 :(Nat->Int)) (x38 :(List (List Int))) (x39 :(List ((Nat->Int)×Int))):Option (zt×Int×Unit):=(ck (((!x32)=false)->rg x30 x36.edges.length) (ck (((!x32)=false)->rg x31 x36.edges.length) (if((!x32)||(decide (((gt x36.edges x30).minutes:Int) <(gt x36.edges x31).minutes)))=true then(k16 x33 x34 (W (x35+1)) x36 x38 (cset z4r x39 x37 x30)) else(k16 x33 x34 (W (x35+1)) x36 x38 x39))))
def z3w (φ:Nat) (k16 :((List Edge)->Int->Int->z01->(List (List Int))->(List ((Nat->Int)×Int))->Option (zt×Int×Unit))) (x41 x42:Int) (x43:Bool) (x44 :(List Edge)) (x45 x46:Int) (x47:z01) (x48 :(Nat->Int)) (x49 :(List (List Int))) (x50 :(List ((Nat->Int)×Int))):Option (zt×Int×Unit):=(ck (((!x43)=false)->rg x41 x47.edges.length) (ck (((!x43)=false)->rg x42 x47.edges.length) (if((!x43)||(decide (((gt x47.edges x41).minutes:Int) <(gt x47.edges x42).minutes)))=true then(k16 x44 x45 (W (x46+1)) x47 x49 (cset z4r x50 x48 x41)) else(k16 x44 x45 (W (x46+1)) x47 x49 x50))))
def z40 (φ:Nat) (k16 :((List Edge)->Int->Int->z01->(List (List Int))->(List ((Nat->Int)×Int))->Option (zt×Int×Unit))) (x17 x18:Int) (x19:Bool) (x20:Int) (x21 :(List Edge)) (x22 x23:Int) (x24:z01) (x25 :(Nat->Int)) (x26:Edge) (x27 :(List (List Int))) (x28 :(List ((Nat->Int)×Int))):Option (zt×Int×Unit):=(ck (((!x19)=false)->rg x17 x24.edges.length) (ck (((!x19)=false)->rg x18 x24.edges.length) (if((!x19)||(decide (((gt x24.edges x17).minutes:Int) <(gt x24.edges x18).minutes)))=true then(if(!(cget z4r (cset z4r x28 x25 x17) ((upd (upd (λ_=>(default:Int)) 0 x26.b) 1 x26.a))).isSome)=true then(ck (rg x26.b x27.length) (ck (rg x26.b x27.length) (ck ((x26.b:Int)=x26.b) (ck (fits ((gt x27 x26.b).length +([x26.a]).length) 8) (ck (rg x26.b x27.length) (ck ((x26.b:Int)=x26.b) (z45 φ k16 x20 (((cget z4r (cset z4r x28 x25 x17) ((upd (upd (λ_=>(default:Int)) 0 x26.b) 1 x26.a))).getD (default:Int))) ((cget z4r (cset z4r x28 x25 x17) ((upd (upd (λ_=>(default:Int)) 0 x26.b) 1 x26.a))).isSome) x21 x22 x23 x24 ((upd (upd (λ_=>(default:Int)) 0 x26.b) 1 x26.a)) (zq x27 x26.b ((gt x27 x26.b)++[x26.a])) (cset z4r x28 x25 x17)))))))) else(z45 φ k16 x20 (((cget z4r (cset z4r x28 x25 x17) ((upd (upd (λ_=>(default:Int)) 0 x26.b) 1 x26.a))).getD (default:Int))) ((cget z4r (cset z4r x28 x25 x17) ((upd (upd (λ_=>(default:Int)) 0 x26.b) 1 x26.a))).isSome) x21 x22 x23 x24 ((upd (upd (λ_=>(default:Int)) 0 x26.b) 1 x26.a)) x27 (cset z4r x28 x25 x17))) else(if(!(cget z4r x28 ((upd (upd (λ_=>(default:Int)) 0 x26.b) 1 x26.a))).isSome)=true then(ck (rg x26.b x27.length) (ck (rg x26.b x27.length) (ck ((x26.b:Int)=x26.b) (ck (fits ((gt x27 x26.b).length +([x26.a]).length) 8) (ck (rg x26.b x27.length) (ck ((x26.b:Int)=x26.b) (z3w φ k16 x20 (((cget z4r x28 ((upd (upd (λ_=>(default:Int)) 0 x26.b) 1 x26.a))).getD (default:Int))) ((cget z4r x28 ((upd (upd (λ_=>(default:Int)) 0 x26.b) 1 x26.a))).isSome) x21 x22 x23 x24 ((upd (upd (λ_=>(default:Int)) 0 x26.b) 1 x26.a)) (zq x27 x26.b ((gt x27 x26.b)++[x26.a])) x28))))))) else(z3w φ k16 x20 (((cget z4r x28 ((upd (upd (λ_=>(default:Int)) 0 x26.b) 1 x26.a))).getD (default:Int))) ((cget z4r x28 ((upd (upd (λ_=>(default:Int)) 0 x26.b) 1 x26.a))).isSome) x21 x22 x23 x24 ((upd (upd (λ_=>(default:Int)) 0 x26.b) 1 x26.a)) x27 x28)))))
def z1v (φ:Nat):Nat->Int->Int->(List (List Int))->(List ((Nat->Int)×Int))->Option (zt×Int×Unit)
 | 0,_,_,_,_=>none
 | n56+1,x52,x53,x54,x55=>(if(decide (x53<x52))=true then(ck (rg x53 x54.length) (ck (rg x53 x54.length) (ck (x53=x53) ((zp9 (gt x54 x53)).bind λy57=>((z1v φ n56) x52 (W (x53+1)) (zq x54 x53 y57) x55))))) else(some ((⟨x54,x55⟩:zt),0,())))
def z03 (φ:Nat):Nat->(List Edge)->Int->Int->z01->(List (List Int))->(List ((Nat->Int)×Int))->Option (zt×Int×Unit)
 | 0,_,_,_,_,_,_=>none
 | n16+1,x10,x11,x12,x13,x14,x15=>(if(decide (x12<x11))=true then(ck (rg x12 x10.length) (if(!(cget z4r x15 ((upd (upd (λ_=>(default:Int)) 0 ((gt x10 x12).a)) 1 ((gt x10 x12).b)))).isSome)=true then(ck (rg (gt x10 x12).a x14.length) (ck (rg (gt x10 x12).a x14.length) (ck (((gt x10 x12).a:Int) =(gt x10 x12).a) (ck (fits ((gt x14 ((gt x10 x12).a)).length +([(gt x10 x12).b]).length) 8) (ck (rg (gt x10 x12).a x14.length) (ck (((gt x10 x12).a:Int) =(gt x10 x12).a) (z40 φ (z03 φ n16) x12 (((cget z4r x15 ((upd (upd (λ_=>(default:Int)) 0 ((gt x10 x12).a)) 1 ((gt x10 x12).b)))).getD (default:Int))) ((cget z4r x15 ((upd (upd (λ_=>(default:Int)) 0 ((gt x10 x12).a)) 1 ((gt x10 x12).b)))).isSome) x12 x10 x11 x12 x13 ((upd (upd (λ_=>(default:Int)) 0 ((gt x10 x12).a)) 1 ((gt x10 x12).b))) (gt x10 x12) ((zq x14 ((gt x10 x12).a) (((gt x14 ((gt x10 x12).a))++[(gt x10 x12).b])))) x15))))))) else(z40 φ (z03 φ n16) x12 (((cget z4r x15 ((upd (upd (λ_=>(default:Int)) 0 ((gt x10 x12).a)) 1 ((gt x10 x12).b)))).getD (default:Int))) ((cget z4r x15 ((upd (upd (λ_=>(default:Int)) 0 ((gt x10 x12).a)) 1 ((gt x10 x12).b)))).isSome) x12 x10 x11 x12 x13 ((upd (upd (λ_=>(default:Int)) 0 ((gt x10 x12).a)) 1 ((gt x10 x12).b))) (gt x10 x12) x14 x15))) else(z1v φ φ (x14.length:Int) 0 x14 x15))
def z3e (φ:Nat):Nat->(List Int)->Int->Int->z01->(List (List Int))->Option (zt×Int×Unit)
 | 0,_,_,_,_,_=>none
 | n9+1,x4,x5,x6,x7,x8=>(if(decide (x6<x5))=true then(ck (rg x6 x4.length) (if((decide (((gt x4 x6):Int)<0))||(decide (((x7.places.length:Int):Int)<=(gt x4 x6))))=true then(some ((⟨x8,([] :(List ((Nat->Int)×Int)))⟩:zt),1,())) else((z3e φ n9) x4 x5 (W (x6+1)) x7 x8))) else(ck (zc (x7.places.length:Int) 24) (z03 φ φ x7.edges (x7.edges.length:Int) 0 x7 (List.replicate ((x7.places.length:Int):Int).toNat (default :(List Int))) (([] :(List ((Nat->Int)×Int)))))))
def z6g (φ:Nat) (x1:z01) (x2 :(List Int)):Option (zt×Int×Unit):=((z75 φ x1).bind λy3=>(if(y3.1 !=0)=true then(some ((⟨([]:List (List Int)),([] :(List ((Nat->Int)×Int)))⟩:zt),y3.1,())) else(z3e φ φ x2 (x2.length:Int) 0 x1 ([]:List (List Int)))))
def z9l (φ:Nat):Fsp TV:=⟨[5,22],[.val 34,.val 0],kk2 (z6g φ)⟩
def z1u (φ:Nat) (k16 :(z01->zt->(List Int)->(List Bool)->Option ((List Int)×Unit))):Nat->Int->(List Int)->Int->Int->z01->zt->(List Int)->(List Bool)->Option ((List Int)×Unit)
 | 0,_,_,_,_,_,_,_,_=>none
 | n33+1,x25,x26,x27,x28,x29,x30,x31,x32=>(if(decide (x28<x27))=true then(ck (rg x28 x26.length) (ck (rg x25 x31.length) (ck (rg (((cget z4r x30.line ((upd (upd (λ_=>(default:Int)) 0 x25) 1 (gt x26 x28)))).getD (default:Int))) x29.edges.length) (ck (rg (gt x26 x28) x31.length) (ck (((decide (((gt x31 (gt x26 x28)):Int)<0))=false)->rg (gt x26 x28) x31.length) (if((decide (((gt x31 (gt x26 x28)):Int)<0))||(decide (((W ((gt x31 x25) +((gt x29.edges (((cget z4r x30.line ((upd (upd (λ_=>(default:Int)) 0 x25) 1 (gt x26 x28)))).getD (default:Int))))).minutes)):Int) <(gt x31 (gt x26 x28)))))=true then(ck (rg (gt x26 x28) x31.length) ((z1u φ k16 n33) x25 x26 x27 (W (x28+1)) x29 x30 ((zq x31 (gt x26 x28) ((W ((gt x31 x25) +((gt x29.edges (((cget z4r x30.line ((upd (upd (λ_=>(default:Int)) 0 x25) 1 (gt x26 x28)))).getD (default:Int))))).minutes))))) x32)) else((z1u φ k16 n33) x25 x26 x27 (W (x28+1)) x29 x30 x31 x32))))))) else(k16 x29 x30 x31 x32))
def z1s (φ:Nat) (k16 :(z01->zt->(List Int)->(List Bool)->Option ((List Int)×Unit))):Nat->Int->Int->Int->z01->zt->(List Int)->(List Bool)->Option ((List Int)×Unit)
 | 0,_,_,_,_,_,_,_=>none
 | n24+1,x17,x18,x19,x20,x21,x22,x23=>(if(decide (x19<x18))=true then(ck (rg x19 x22.length) (ck (((decide ((0:Int)<=(gt x22 x19)))=true)->rg x19 x23.length) (ck ((((decide ((0:Int)<=(gt x22 x19)))&&(!(gt x23 x19)))=true/\(decide (x17<0))=false)->rg x19 x22.length) (ck ((((decide ((0:Int)<=(gt x22 x19)))&&(!(gt x23 x19)))=true/\(decide (x17<0))=false)->rg x17 x22.length) (if(((decide ((0:Int)<=(gt x22 x19)))&&(!(gt x23 x19)))&&((decide (x17<0))||(decide (((gt x22 x19):Int) <(gt x22 x17)))))=true then((z1s φ k16 n24) x19 x18 (W (x19+1)) x20 x21 x22 x23) else((z1s φ k16 n24) x17 x18 (W (x19+1)) x20 x21 x22 x23)))))) else(if(decide (x17<0))=true then(some (x22,())) else(ck (rg x17 x23.length) (ck (rg x17 x21.near.length) (z1u φ k16 φ x17 (gt x21.near x17) ((gt x21.near x17).length:Int) 0 x20 x21 x22 (zq x23 x17 true))))))
def z04 (φ:Nat):Nat->z01->zt->(List Int)->(List Bool)->Option ((List Int)×Unit)
 | 0,_,_,_,_=>none
 | n16+1,x12,x13,x14,x15=>(z1s φ (z04 φ n16) φ (-1) (x14.length:Int) 0 x12 x13 x14 x15)
def z2v (φ:Nat):Nat->Int->Int->Int->z01->zt->(List Int)->(List Bool)->Option ((List Int)×Unit)
 | 0,_,_,_,_,_,_,_=>none
 | n11+1,x4,x5,x6,x7,x8,x9,x10=>(if(decide (x6<x5))=true then(ck (rg x6 x9.length) ((z2v φ n11) x4 x5 (W (x6+1)) x7 x8 (zq x9 x6 (-1)) x10)) else(ck (rg x4 x9.length) (z04 φ φ x7 x8 (zq x9 x4 0) x10)))
def z8r (φ:Nat) (x1:z01) (x2:zt) (x3:Int):Option ((List Int)×Unit):=(ck (zc (x1.places.length:Int) 8) (ck (zc (((List.replicate ((x1.places.length:Int):Int).toNat (default:Int)).length:Int)) 1) (z2v φ φ x3 (((List.replicate ((x1.places.length:Int):Int).toNat (default:Int)).length:Int)) 0 x1 x2 (List.replicate ((x1.places.length:Int):Int).toNat (default:Int)) ((List.replicate (((List.replicate ((x1.places.length:Int):Int).toNat (default:Int)).length:Int):Int).toNat (default:Bool))))))
def z9i (φ:Nat):Fsp TV:=⟨[5,34,0],[.val 22],kk3 (z8r φ)⟩
def z33 (φ:Nat) (x1:z01) (x2 x3:Int):Option (Int×Int×Unit):=((z6g φ x1 ([x2,x3])).bind λy4=>(if(y4.2.1 !=0)=true then(some (0,y4.2.1,())) else((z8r φ x1 y4.1 x2).bind λy5=>(ck (rg x3 y5.1.length) (if(decide (((gt y5.1 x3):Int)<0))=true then(some (0,80,())) else(some ((gt y5.1 x3),0,())))))))
def z79 (φ:Nat):Fsp TV:=⟨[5,0,0],[.val 0,.val 0],kk3 (z33 φ)⟩
def zfs (φ:Nat) (x1:Wash) (x2 x3:Int):Option (Bool×Unit):=(some ((((x1.from_:Int)==x2)&&((x1.to:Int)==x3)),()))
def z9c (φ:Nat):Csp TV:=⟨[13],[.b (.val 0),.b (.val 0)],[.val 27],λz b=>zfs φ z.1 b.1 b.2.1⟩
def z3x (φ:Nat):Nat->(List Wash)->Int->Int->Int->Int->z4j->Option (Int×Int×Unit)
 | 0,_,_,_,_,_,_=>none
 | n13+1,x7,x8,x9,x10,x11,x12=>(if(decide (x9<x8))=true then(ck (rg x9 x7.length) ((zfs φ (gt x7 x9) x10 x11).bind λy14=>(if y14.1=true then(if(decide (x9<0))=true then(some (0,0,())) else(ck (rg x9 x12.washes.length) (some ((gt x12.washes x9).minutes,0,())))) else((z3x φ n13) x7 x8 (W (x9+1)) x10 x11 x12)))) else(some (0,0,())))
def z9x (φ:Nat) (x1:z4j) (x2 x3:Int):Option (Int×Int×Unit):=((z7k φ x1).bind λy4=>(if(y4.1 !=0)=true then(some (0,y4.1,())) else((zu φ x2 0 63).bind λy5=>((z0s (default,()) ((!y5.1)=false) (zu φ x3 0 63)).bind λy6=>(if((!y5.1)||(!y6.1))=true then(some (0,1,())) else(z3x φ φ x1.washes (x1.washes.length:Int) 0 x2 x3 x1))))))
def zby (φ:Nat):Fsp TV:=⟨[15,0,0],[.val 0,.val 0],kk3 (z9x φ)⟩
def z23 (φ:Nat) (k14 :(Int->Bool->z4j->(Nat->Int)->Option ((List Swap)×Int×Unit))):Nat->Int->Bool->(List Swap)->Int->Int->z4j->(Nat->Int)->Option ((List Swap)×Int×Unit)
 | 0,_,_,_,_,_,_,_=>none
 | n22+1,x15,x16,x17,x18,x19,x20,x21=>(if(decide (x19<x18))=true then(ck (rg x19 x17.length) (ck (rg (gt x17 x19).wanted 32) (ck (rg (gt x17 x19).wanted 32) (ck (((decide ((0:Int)<=(x21 (((gt x17 x19).wanted:Int).toNat))))=true)->rg (gt x17 x19).given 32) (ck (((decide ((0:Int)<=(x21 (((gt x17 x19).wanted:Int).toNat))))=true/\(decide (((x21 (((gt x17 x19).given:Int).toNat)):Int)<0))=false)->rg (gt x17 x19).given 32) (if((decide ((0:Int)<=(x21 (((gt x17 x19).wanted:Int).toNat))))&&((decide (((x21 (((gt x17 x19).given:Int).toNat)):Int)<0))||(decide (((W ((x21 (((gt x17 x19).wanted:Int).toNat)) +(gt x17 x19).cost)):Int) <(x21 (((gt x17 x19).given:Int).toNat))))))=true then(ck (rg (gt x17 x19).given 32) ((z23 φ k14 n22) x15 true x17 x18 (W (x19+1)) x20 ((upd x21 (((gt x17 x19).given:Int).toNat) ((W ((x21 (((gt x17 x19).wanted:Int).toNat)) +(gt x17 x19).cost))))))) else((z23 φ k14 n22) x15 x16 x17 x18 (W (x19+1)) x20 x21))))))) else(k14 x15 x16 x20 x21))
def z29 (φ:Nat):Nat->Int->Int->Int->(Nat->Int)->(List Swap)->Option ((List Swap)×Int×Unit)
 | 0,_,_,_,_,_=>none
 | n28+1,x23,x24,x25,x26,x27=>(if(decide (x25<x24))=true then(ck (rg x25 32) (if(decide ((0:Int)<=(x26 (x25.toNat))))=true then(ck (rg x25 32) (ck (fits (x27.length +([(⟨x23,x25,x26 (x25.toNat)⟩:Swap)]).length) 24) ((z29 φ n28) x23 x24 (W (x25+1)) x26 ((x27++[(⟨x23,x25,x26 (x25.toNat)⟩:Swap)]))))) else((z29 φ n28) x23 x24 (W (x25+1)) x26 x27))) else(some (x27,0,())))
def z26 (φ:Nat):Nat->Int->Bool->z4j->(Nat->Int)->Option ((List Swap)×Int×Unit)
 | 0,_,_,_,_=>none
 | n14+1,x10,x11,x12,x13=>(if x11=true then(z23 φ (z26 φ n14) φ x10 false x12.swaps (x12.swaps.length:Int) 0 x12 x13) else(z29 φ φ x10 (x12.types.length:Int) 0 x13 ([]:List Swap)))
def z4p (φ:Nat):Nat->Int->Int->z4j->(Nat->Int)->Option ((List Swap)×Int×Unit)
 | 0,_,_,_,_=>none
 | n9+1,x5,x6,x7,x8=>(if(decide (x6<32))=true then(ck (rg x6 32) ((z4p φ n9) x5 (W (x6+1)) x7 (upd x8 (x6.toNat) (-1)))) else(ck (rg x5 32) (z26 φ φ x5 true x7 (upd x8 (x5.toNat) 0))))
def zcs (φ:Nat) (x1:z4j) (x2:Int):Option ((List Swap)×Int×Unit):=((z7k φ x1).bind λy3=>(if(y3.1 !=0)=true then(some (([]:List Swap),y3.1,())) else((zu φ x2 0 (W ((x1.types.length:Int)-1))).bind λy4=>(if(!y4.1)=true then(some (([]:List Swap),90,())) else(z4p φ φ x2 0 x1 (λ_=>(default:Int)))))))
def zcl (φ:Nat):Fsp TV:=⟨[15,0],[.val 12,.val 0],kk2 (zcs φ)⟩
def ze8 (φ:Nat) (x1:Swap) (x2:z8):Option (Bool×Unit):=(some (((x1.given:Int)==x2.type_),()))
def z7e (φ:Nat):Csp TV:=⟨[11],[.b (.val 29)],[.val 27],λz b=>ze8 φ z.1 b.1⟩
def z2z (φ:Nat):Nat->(List Swap)->Int->Int->Int->(List Swap)->z8->zl->Option (Int×Bool×Unit)
 | 0,_,_,_,_,_,_,_=>none
 | n18+1,x11,x12,x13,x14,x15,x16,x17=>(if(decide (x13<x12))=true then(ck (rg x13 x11.length) ((ze8 φ (gt x11 x13) x16).bind λy19=>(if y19.1=true then(ck ((((decide (x13<0))||(decide ((x17.to:Int) <(W (x16.at_+x14)))))=false)->rg x13 x15.length) (if(((decide (x13<0))||(decide ((x17.to:Int) <(W (x16.at_+x14)))))||(decide ((1000000000:Int) <(W (x14 +(gt x15 x13).cost)))))=true then(some (0,false,())) else(ck (rg x13 x15.length) (some ((W (x14 +(gt x15 x13).cost)),true,()))))) else((z2z φ n18) x11 x12 (W (x13+1)) x14 x15 x16 x17)))) else(ck (((true||(decide ((x17.to:Int) <(W (x16.at_+x14)))))=false)->rg (-1) x15.length) (if((true||(decide ((x17.to:Int) <(W (x16.at_+x14)))))||(decide ((1000000000:Int) <(W (x14 +(gt x15 (-1)).cost)))))=true then(some (0,false,())) else(ck (rg (-1) x15.length) (some ((W (x14 +(gt x15 (-1)).cost)),true,()))))))
def z1i (φ:Nat) (x5:Int) (x6:Pool) (x7:z8) (x8:zl):Option (Int×Bool×Unit):=((zcs φ x6.fleet x8.type_).bind λy10=>(z2z φ φ y10.1 (y10.1.length:Int) 0 x5 y10.1 x7 x8))
def z1e (φ:Nat) (x1:Pool) (x2:z8) (x3:zl):Option (Int×Bool×Unit):=((z33 φ x1.network x2.place x3.place).bind λy4=>(ck (((y4.2.1 !=0)=false)->rg x2.type_ x1.fleet.types.length) (ck (((y4.2.1 !=0)=false)->0<=x3.class_) (if((y4.2.1 !=0)||(((U ((BitVec.ofInt 64 (((gt x1.fleet.types x2.type_).classes:Int).fdiv (2 ^ (min (x3.class_:Int).toNat 64)))&&& BitVec.ofInt 64 1).toNat)):Int)==0))=true then(some (0,false,())) else(if(decide ((0:Int)<=x2.class_))=true then((z9x φ x1.fleet x2.class_ x3.class_).bind λy20=>(z1i φ (W (y4.1+y20.1)) x1 x2 x3)) else(z1i φ y4.1 x1 x2 x3))))))
def z54 (φ:Nat):Fsp TV:=⟨[26,29,30],[.val 0,.val 27],kk3 (z1e φ)⟩
def zia (φ:Nat) (x1:Pool) (x2:z8) (x3:zl):Option (Int×Bool×Int×Unit):=((z1a φ x1).bind λy4=>(if(y4.1 !=0)=true then(some (0,false,y4.1,())) else((z22 φ x1 x2).bind λy5=>((z0s (default,()) ((!y5.1)=false) (z2o φ x1 x3)).bind λy6=>(if((!y5.1)||(!y6.1))=true then(some (0,false,1,())) else((z1e φ x1 x2 x3).bind λy7=>(some (y7.1,y7.2.1,0,()))))))))
def zbg (φ:Nat):Fsp TV:=⟨[26,29,30],[.val 0,.val 27,.val 0],kk3 (zia φ)⟩
def z9s (φ:Nat) (x1 x2 x3 x4:Int):Option (Bool×Unit):=((z91 φ).bind λy5=>((zia φ y5.1 (⟨x1,1,0,100,1⟩:z8) (⟨x2,2,1,0,x3,1,0⟩:zl)).bind λy6=>(some ((((y6.2.2.1==0)&&(y6.2.1==(decide ((0:Int)<=x4))))&&(y6.1==(max2 0 x4))),()))))
def zcg (φ:Nat):Fsp TV:=⟨[0,0,0,0],[.val 27],kk4 (z9s φ)⟩
def z0u (φ:Nat) (x29 :(List Int)) (x30 :(List Arc)):Option (zi×Int×Unit):=(if(decide ((2048:Int) <(x30.length:Int)))=true then(some ((⟨([]:List Int),([]:List Arc)⟩:zi),2,())) else(some ((⟨x29,x30⟩:zi),0,())))
def z0w (φ:Nat) (k42 :(Int->Int->(List z8)->Int->Int->(List z8)->(List zl)->Pool->(List Int)->(List Arc)->Option (zi×Int×Unit))):Nat->Int->Int->Int->(List z8)->Int->Int->(List zl)->Int->Int->(List z8)->(List zl)->Pool->z8->(List Int)->(List Arc)->Option (zi×Int×Unit)
 | 0,_,_,_,_,_,_,_,_,_,_,_,_,_,_,_=>none
 | n58+1,x43,x44,x45,x46,x47,x48,x49,x50,x51,x52,x53,x54,x55,x56,x57=>(if(decide (x51<x50))=true then(ck (rg x51 x49.length) ((z1e φ x54 x55 (gt x49 x51)).bind λy59=>(if y59.2.1=true then(ck (fits (x57.length +([(⟨x45,W ((x52.length:Int)+x51),min2 x55.count ((gt x49 x51).count),y59.1⟩:Arc)]).length) 32) (if(!true)=true then(z0u φ x56 ((x57++[(⟨x45,W ((x52.length:Int)+x51),min2 x55.count ((gt x49 x51).count),y59.1⟩:Arc)]))) else((z0w φ k42 n58) x43 x44 x45 x46 x47 x48 x49 x50 (W (x51+1)) x52 x53 x54 x55 x56 ((x57++[(⟨x45,W ((x52.length:Int)+x51),min2 x55.count ((gt x49 x51).count),y59.1⟩:Arc)]))))) else((z0w φ k42 n58) x43 x44 x45 x46 x47 x48 x49 x50 (W (x51+1)) x52 x53 x54 x55 x56 x57)))) else(k42 x43 x44 x46 x47 (W (x48+1)) x52 x53 x54 x56 x57))
def z1d (φ:Nat):Nat->Int->Int->(List z8)->Int->Int->(List Int)->(List Arc)->Option (zi×Int×Unit)
 | 0,_,_,_,_,_,_,_=>none
 | n76+1,x69,x70,x71,x72,x73,x74,x75=>(if(decide (x73<x72))=true then(ck (rg x73 x71.length) (ck (fits (x75.length +([(⟨x73,W (x69+1),(gt x71 x73).count,0⟩:Arc)]).length) 32) (if(!true)=true then(z0u φ x74 (x75++[(⟨x73,W (x69+1),(gt x71 x73).count,0⟩:Arc)])) else((z1d φ n76) x69 x70 x71 x72 (W (x73+1)) x74 (x75++[(⟨x73,W (x69+1),(gt x71 x73).count,0⟩:Arc)]))))) else(ck (fits (x75.length +([(⟨x69,W (x69+1),x70,0⟩:Arc)]).length) 32) (z0u φ x74 (x75++[(⟨x69,W (x69+1),x70,0⟩:Arc)]))))
def z0k (φ:Nat):Nat->Int->Int->(List zl)->Int->Int->(List z8)->(List Int)->(List Arc)->Option (zi×Int×Unit)
 | 0,_,_,_,_,_,_,_,_=>none
 | n68+1,x60,x61,x62,x63,x64,x65,x66,x67=>(if(decide (x64<x63))=true then(ck (rg x64 x62.length) (ck (fits (x67.length +([(⟨x60,W ((x65.length:Int)+x64),(gt x62 x64).count,(gt x62 x64).weight⟩:Arc)]).length) 32) (if(!true)=true then(z0u φ x66 ((x67++[(⟨x60,W ((x65.length:Int)+x64),(gt x62 x64).count,(gt x62 x64).weight⟩:Arc)]))) else((z0k φ n68) x60 (W (x61 +(gt x62 x64).count)) x62 x63 (W (x64+1)) x65 x66 ((x67++[(⟨x60,W ((x65.length:Int)+x64),(gt x62 x64).count,(gt x62 x64).weight⟩:Arc)])))))) else(z1d φ φ x60 x61 x65 (x65.length:Int) 0 x66 x67))
def z1b (φ:Nat):Nat->Int->Int->(List z8)->Int->Int->(List z8)->(List zl)->Pool->(List Int)->(List Arc)->Option (zi×Int×Unit)
 | 0,_,_,_,_,_,_,_,_,_,_=>none
 | n42+1,x32,x33,x34,x35,x36,x37,x38,x39,x40,x41=>(if(decide (x36<x35))=true then(ck (rg x36 x34.length) (z0w φ (z1b φ n42) φ x32 x33 x36 x34 x35 x36 x38 (x38.length:Int) 0 x37 x38 x39 (gt x34 x36) x40 x41)) else(z0k φ φ x32 x33 x38 (x38.length:Int) 0 x37 x40 x41))
def z19 (φ:Nat):Nat->(List z8)->(List zl)->Int->Int->(List zl)->Int->Int->Pool->(List Int)->(List Arc)->Option (zi×Int×Unit)
 | 0,_,_,_,_,_,_,_,_,_,_=>none
 | n27+1,x17,x18,x19,x20,x21,x22,x23,x24,x25,x26=>(if(decide (x23<x22))=true then(ck (rg x23 x21.length) ((z2o φ x24 (gt x21 x23)).bind λy28=>(if(!y28.1)=true then(some ((⟨([]:List Int),([]:List Arc)⟩:zi),1,())) else(ck (fits (x25.length +([(W (0 -(gt x21 x23).count))]).length) 8) ((z19 φ n27) x17 x18 x19 (W (x20 +(gt x21 x23).count)) x21 x22 (W (x23+1)) x24 ((x25++[(W (0 -(gt x21 x23).count))])) x26))))) else(ck (fits (x25.length +([x20,(W (0-x19))]).length) 8) (if(decide ((256:Int) <((x25++[x20,(W (0-x19))]).length:Int)))=true then(some ((⟨([]:List Int),([]:List Arc)⟩:zi),2,())) else(z1b φ φ (W ((x17.length:Int) +(x18.length:Int))) 0 x17 (x17.length:Int) 0 x17 x18 x24 (x25++[x20,(W (0-x19))]) x26))))
def z2c (φ:Nat):Nat->(List z8)->(List zl)->Int->Int->(List z8)->Int->Int->Pool->(List Int)->(List Arc)->Option (zi×Int×Unit)
 | 0,_,_,_,_,_,_,_,_,_,_=>none
 | n15+1,x5,x6,x7,x8,x9,x10,x11,x12,x13,x14=>(if(decide (x11<x10))=true then(ck (rg x11 x9.length) ((z22 φ x12 (gt x9 x11)).bind λy16=>(if(!y16.1)=true then(some ((⟨([]:List Int),([]:List Arc)⟩:zi),1,())) else(ck (fits (x13.length +([(gt x9 x11).count]).length) 8) ((z2c φ n15) x5 x6 (W (x7 +(gt x9 x11).count)) x8 x9 x10 (W (x11+1)) x12 (x13++[(gt x9 x11).count]) x14))))) else(z19 φ φ x5 x6 x7 x8 x6 (x6.length:Int) 0 x12 x13 x14))
def z67 (φ:Nat) (x1:Pool) (x2 :(List z8)) (x3 :(List zl)):Option (zi×Int×Unit):=((z1a φ x1).bind λy4=>(if(y4.1 !=0)=true then(some ((⟨([]:List Int),([]:List Arc)⟩:zi),y4.1,())) else(z2c φ φ x2 x3 0 0 x2 (x2.length:Int) 0 x1 ([]:List Int) ([]:List Arc))))
def zc8 (φ:Nat):Fsp TV:=⟨[26,36,37],[.val 40,.val 0],kk3 (z67 φ)⟩
def z4c (φ:Nat) (x1 x2 x3:Int):Option (Bool×Unit):=(some (((decide (x2<=x1))&&(decide (x1<=x3))),()))
def z7x (φ:Nat):Fsp TV:=⟨[0,0,0],[.val 27],kk3 (z4c φ)⟩
def z2r (φ:Nat):Nat->Int->(List Arc)->Int->Int->zi->Option (Int×Unit)
 | 0,_,_,_,_,_=>none
 | n14+1,x9,x10,x11,x12,x13=>(if(decide (x12<x11))=true then(ck (rg x12 x10.length) ((z4c φ ((gt x10 x12).from_) 0 (W ((x13.supply.length:Int)-1))).bind λy15=>((z0s (default,()) ((!y15.1)=false) (z4c φ ((gt x10 x12).to) 0 (W ((x13.supply.length:Int)-1)))).bind λy16=>((z0s (default,()) ((((!y15.1)||(!y16.1))||(((gt x10 x12).from_:Int)==(gt x10 x12).to))=false) (z4c φ ((gt x10 x12).cap) 0 1000000000)).bind λy17=>((z0s (default,()) (((((!y15.1)||(!y16.1))||(((gt x10 x12).from_:Int)==(gt x10 x12).to))||(!y17.1))=false) (z4c φ ((gt x10 x12).cost) 0 1000000000)).bind λy18=>(if(((((!y15.1)||(!y16.1))||(((gt x10 x12).from_:Int)==(gt x10 x12).to))||(!y17.1))||(!y18.1))=true then(some (1,())) else((z2r φ n14) x9 x10 x11 (W (x12+1)) x13))))))) else(if(x9 !=0)=true then(some (360,())) else(some (0,()))))
def z5l (φ:Nat):Nat->Int->(List Int)->Int->Int->zi->Option (Int×Unit)
 | 0,_,_,_,_,_=>none
 | n7+1,x2,x3,x4,x5,x6=>(if(decide (x5<x4))=true then(ck (rg x5 x3.length) ((z4c φ (gt x3 x5) (-1000000000) 1000000000).bind λy8=>(if(!y8.1)=true then(some (1,())) else((z5l φ n7) (W (x2 +(gt x3 x5))) x3 x4 (W (x5+1)) x6)))) else(z2r φ φ x2 x6.arcs (x6.arcs.length:Int) 0 x6))
def zbj (φ:Nat) (x1:zi):Option (Int×Unit):=(if((decide ((256:Int) <(x1.supply.length:Int)))||(decide ((2048:Int) <(x1.arcs.length:Int))))=true then(some (2,())) else(z5l φ φ 0 x1.supply (x1.supply.length:Int) 0 x1))
def zax (φ:Nat):Fsp TV:=⟨[40],[.val 0],λz=>zbj φ z.1⟩
def zb6 (φ:Nat) (x27:Bool) (x28 :(List Int)) (x29 :(List Arc)) (x30 x31 x32 x33 x34 :(List Int)) (x35 x36 :(List (List Int))):Option (Flow×Int×Unit):=(if x27=true then(some ((⟨([]:List Int),([]:List Int)⟩:Flow),360,())) else(some ((⟨x32,x34⟩:Flow),0,())))
def z2t (φ:Nat):Nat->Int->Int->(List Int)->(List Int)->(List Arc)->(List Int)->(List Int)->(List Int)->(List Int)->(List (List Int))->(List (List Int))->Option (Flow×Int×Unit)
 | 0,_,_,_,_,_,_,_,_,_,_,_=>none
 | n70+1,x59,x60,x61,x62,x63,x64,x65,x66,x67,x68,x69=>(if(decide (x60<x59))=true then(ck (rg x60 x61.length) (if(((gt x61 x60):Int) !=0)=true then(zb6 φ (!false) x62 x63 x64 x65 x66 x61 x67 x68 x69) else((z2t φ n70) x59 (W (x60+1)) x61 x62 x63 x64 x65 x66 x67 x68 x69))) else(zb6 φ (!true) x62 x63 x64 x65 x66 x61 x67 x68 x69))
def z1z (φ:Nat) (k47 :((List Int)->(List Arc)->(List Int)->(List Int)->(List Int)->(List (List Int))->(List (List Int))->(List Int)->(List Int)->Option (Flow×Int×Unit))) (x48:Bool) (x49 :(List Int)) (x50 :(List Arc)) (x51 x52 x53 :(List Int)) (x54 x55 :(List (List Int))) (x56 x57 :(List Int)):Option (Flow×Int×Unit):=(if x48=true then(k47 x49 x50 x51 x52 x53 x54 x55 x56 x57) else(z2t φ φ (x52.length:Int) 0 x52 x49 x50 x56 x57 x51 x53 x54 x55))
def z4y (φ:Nat) (k209 :(Int->Int->(List Int)->(List Arc)->(List Int)->(List zd)->(List Int)->(List Int)->(List Int)->(List (List Int))->(List (List Int))->(List Int)->(List Int)->Option (Flow×Int×Unit))) (x210 x211:Int) (x212 :(List Int)) (x213 :(List Arc)) (x214 :(List Int)) (x215 :(List zd)) (x216 x217 x218 :(List Int)) (x219 x220 :(List (List Int))) (x221 x222 :(List Int)):Option (Flow×Int×Unit):=(ck (rg x211 x214.length) (k209 x210 (gt x214 x211) x212 x213 x214 x215 x216 x217 x218 x219 x220 x221 x222))
def z2a (φ:Nat) (k47 :((List Int)->(List Arc)->(List Int)->(List Int)->(List Int)->(List (List Int))->(List (List Int))->(List Int)->(List Int)->Option (Flow×Int×Unit))):Nat->Int->Int->(List Int)->(List Arc)->(List Int)->(List zd)->(List Int)->(List Int)->(List Int)->(List (List Int))->(List (List Int))->(List Int)->(List Int)->Option (Flow×Int×Unit)
 | 0,_,_,_,_,_,_,_,_,_,_,_,_,_=>none
 | n209+1,x196,x197,x198,x199,x200,x201,x202,x203,x204,x205,x206,x207,x208=>(ck (rg x197 x200.length) (if(decide ((0:Int)<=(gt x200 x197)))=true then(ck (rg x197 x201.length) (ck (rg (gt x201 x197).arc x199.length) (ck (((((gt x199 ((gt x201 x197).arc)).to:Int)==x197)=true)->rg (gt x201 x197).arc x199.length) (ck (((((gt x199 ((gt x201 x197).arc)).to:Int)==x197)=true)->rg x197 x200.length) (if((((gt x199 ((gt x201 x197).arc)).to:Int)==x197)&&(((gt x199 ((gt x201 x197).arc)).from_:Int)==(gt x200 x197)))=true then(ck (rg (gt x201 x197).arc x202.length) (ck (rg (gt x201 x197).arc x202.length) (z4y φ (z2a φ k47 n209) x196 x197 x198 x199 x200 x201 ((zq x202 ((gt x201 x197).arc) ((W ((gt x202 ((gt x201 x197).arc))+x196))))) x203 x204 x205 x206 x207 x208))) else(ck (rg (gt x201 x197).arc x202.length) (ck (rg (gt x201 x197).arc x202.length) (z4y φ (z2a φ k47 n209) x196 x197 x198 x199 x200 x201 ((zq x202 ((gt x201 x197).arc) ((W ((gt x202 ((gt x201 x197).arc))-x196))))) x203 x204 x205 x206 x207 x208)))))))) else(z1z φ k47 true x198 x199 x202 x203 x204 x205 x206 x207 x208)))
def z0n (φ:Nat) (k47 :((List Int)->(List Arc)->(List Int)->(List Int)->(List Int)->(List (List Int))->(List (List Int))->(List Int)->(List Int)->Option (Flow×Int×Unit))):Nat->Int->Int->Int->(List Int)->(List Arc)->(List Int)->(List zd)->(List Int)->(List Int)->(List Int)->(List (List Int))->(List (List Int))->(List Int)->(List Int)->Option (Flow×Int×Unit)
 | 0,_,_,_,_,_,_,_,_,_,_,_,_,_,_=>none
 | n195+1,x181,x182,x183,x184,x185,x186,x187,x188,x189,x190,x191,x192,x193,x194=>(ck (rg x183 x186.length) (if(decide ((0:Int)<=(gt x186 x183)))=true then(ck (rg x183 x187.length) (ck (rg x183 x186.length) ((z0n φ k47 n195) x181 (min2 x182 ((gt x187 x183).room)) (gt x186 x183) x184 x185 x186 x187 x188 x189 x190 x191 x192 x193 x194))) else(ck (rg x183 x189.length) (ck (rg x183 x189.length) (ck (rg x183 x189.length) (ck (rg x181 (((zq x189 x183 ((W ((gt x189 x183) -(min2 x182 (gt x189 x183))))))).length)) (ck (rg x181 (((zq x189 x183 ((W ((gt x189 x183) -(min2 x182 (gt x189 x183))))))).length)) (z2a φ k47 φ (min2 x182 (gt x189 x183)) x181 x184 x185 x186 x187 x188 ((zq ((zq x189 x183 ((W ((gt x189 x183) -(min2 x182 (gt x189 x183))))))) x181 ((W ((gt ((zq x189 x183 ((W ((gt x189 x183) -(min2 x182 (gt x189 x183))))))) x181) +(min2 x182 (gt x189 x183))))))) x190 x191 x192 x193 x194))))))))
def z0v (φ:Nat) (k47 :((List Int)->(List Arc)->(List Int)->(List Int)->(List Int)->(List (List Int))->(List (List Int))->(List Int)->(List Int)->Option (Flow×Int×Unit))):Nat->Int->Int->Int->Int->(List Int)->(List Arc)->(List Int)->(List zd)->(List Int)->(List Int)->(List Int)->(List Int)->(List (List Int))->(List (List Int))->(List Int)->(List Int)->Option (Flow×Int×Unit)
 | 0,_,_,_,_,_,_,_,_,_,_,_,_,_,_,_,_=>none
 | n180+1,x164,x165,x166,x167,x168,x169,x170,x171,x172,x173,x174,x175,x176,x177,x178,x179=>(if(decide (x167<x166))=true then(ck (rg x167 x172.length) (ck (rg x167 x175.length) (ck (rg x167 x175.length) ((z0v φ k47 n180) x164 x165 x166 (W (x167+1)) x168 x169 x170 x171 x172 x173 x174 ((zq x175 x167 ((W ((gt x175 x167) +(min2 (gt x172 x167) x165)))))) x176 x177 x178 x179)))) else(ck (rg x164 x174.length) (z0n φ k47 φ x164 (W (0 -(gt x174 x164))) x164 x168 x169 x170 x171 x173 x174 x175 x176 x177 x178 x179)))
def z0l (φ:Nat) (k47 :((List Int)->(List Arc)->(List Int)->(List Int)->(List Int)->(List (List Int))->(List (List Int))->(List Int)->(List Int)->Option (Flow×Int×Unit))):Nat->Int->Int->Int->Int->(List Int)->(List Arc)->(List Int)->(List Int)->(List zd)->(List Int)->(List Int)->(List Int)->(List (List Int))->(List (List Int))->(List Int)->(List Int)->Option (Flow×Int×Unit)
 | 0,_,_,_,_,_,_,_,_,_,_,_,_,_,_,_,_=>none
 | n163+1,x147,x148,x149,x150,x151,x152,x153,x154,x155,x156,x157,x158,x159,x160,x161,x162=>(if(decide (x150<x149))=true then(ck (rg x150 x153.length) (if(decide (((gt x153 x150):Int)<1152921504606846976))=true then(ck (rg x150 x157.length) (ck (((decide (((gt x157 x150):Int)<0))=true/\(decide (x147<0))=false)->rg x147 x153.length) (if((decide (((gt x157 x150):Int)<0))&&((decide (x147<0))||(decide (((gt x153 x150):Int) <(gt x153 x147)))))=true then((z0l φ k47 n163) x150 (max2 x148 (gt x153 x150)) x149 (W (x150+1)) x151 x152 x153 x154 x155 x156 x157 x158 x159 x160 x161 x162) else((z0l φ k47 n163) x147 (max2 x148 (gt x153 x150)) x149 (W (x150+1)) x151 x152 x153 x154 x155 x156 x157 x158 x159 x160 x161 x162)))) else((z0l φ k47 n163) x147 x148 x149 (W (x150+1)) x151 x152 x153 x154 x155 x156 x157 x158 x159 x160 x161 x162))) else(if(decide (x147<0))=true then(z1z φ k47 false x151 x152 x156 x157 x158 x159 x160 x161 x162) else(z0v φ k47 φ x147 x148 (x153.length:Int) 0 x151 x152 x154 x155 x153 x156 x157 x158 x159 x160 x161 x162)))
def z0o (φ:Nat) (k47 :((List Int)->(List Arc)->(List Int)->(List Int)->(List Int)->(List (List Int))->(List (List Int))->(List Int)->(List Int)->Option (Flow×Int×Unit))) (x134 :(List Int)) (x135 :(List Arc)) (x136 x137 :(List Int)) (x138 :(List zd)) (x139 x140 x141 :(List Int)) (x142 x143 :(List (List Int))) (x144 x145 :(List Int)):Option (Flow×Int×Unit):=(z0l φ k47 φ (-1) 0 (x136.length:Int) 0 x134 x135 x136 x137 x138 x139 x140 x141 x142 x143 x144 x145)
def z25 (φ:Nat) (k47 :((List Int)->(List Arc)->(List Int)->(List Int)->(List Int)->(List (List Int))->(List (List Int))->(List Int)->(List Int)->Option (Flow×Int×Unit))) (x224 :(List Int)) (x225 :(List Arc)) (x226 x227 :(List Int)) (x228 :(List zd)) (x229 x230 x231 :(List Int)) (x232 x233 :(List (List Int))) (x234 x235 :(List Int)):Option (Flow×Int×Unit):=(z0o φ k47 x224 x225 x226 x227 x228 x229 x230 x231 x232 x233 x234 x235)
def z8j (φ:Nat) (k47 :((List Int)->(List Arc)->(List Int)->(List Int)->(List Int)->(List (List Int))->(List (List Int))->(List Int)->(List Int)->Option (Flow×Int×Unit))) (x224 :(List Int)) (x225 :(List Arc)) (x226 x227 :(List Int)) (x228 :(List zd)) (x229 x230 x231 :(List Int)) (x232 x233 :(List (List Int))) (x234 x235 :(List Int)):Option (List (Option (Flow×Int×Unit))):=(catL [(catL [(catL [(some [(z0o φ k47 x224 x225 x226 x227 x228 x229 x230 x231 x232 x233 x234 x235)])]),(catL [(catL [(some [(z0o φ k47 x224 x225 x226 x227 x228 x229 x230 x231 x232 x233 x234 x235)])]),(catL [(catL [(some [(z0o φ k47 x224 x225 x226 x227 x228 x229 x230 x231 x232 x233 x234 x235)])])])])]),(catL [(catL [(some [(z0o φ k47 x224 x225 x226 x227 x228 x229 x230 x231 x232 x233 x234 x235)])]),(catL [(catL [(some [(z0o φ k47 x224 x225 x226 x227 x228 x229 x230 x231 x232 x233 x234 x235)])])])]),(catL [(catL [(catL [(some [(z0o φ k47 x224 x225 x226 x227 x228 x229 x230 x231 x232 x233 x234 x235)])]),(catL [(catL [(some [(z0o φ k47 x224 x225 x226 x227 x228 x229 x230 x231 x232 x233 x234 x235)])])])]),(catL [(catL [(some [(z0o φ k47 x224 x225 x226 x227 x228 x229 x230 x231 x232 x233 x234 x235)])])])])])
def z0f (φ:Nat) (k115 :(Int->(List Int)->(List Arc)->(List Bool)->(List Int)->(List Int)->(List Int)->(List (List Int))->(List (List Int))->(List Int)->(List Int)->(List zd)->(List Int)->(List Int)->Option (Flow×Int×Unit))):Nat->Int->Int->Int->Int->(List Int)->(List Int)->(List Arc)->(List Bool)->Int->(List Int)->(List Int)->(List Int)->(List (List Int))->(List (List Int))->Int->(List Int)->(List Int)->(List zd)->(List Int)->(List Int)->Option (Flow×Int×Unit)
 | 0,_,_,_,_,_,_,_,_,_,_,_,_,_,_,_,_,_,_,_,_=>none
 | n278+1,x258,x259,x260,x261,x262,x263,x264,x265,x266,x267,x268,x269,x270,x271,x272,x273,x274,x275,x276,x277=>(if(decide (x259<x258))=true then(ck (rg x259 x262.length) (ck (rg (gt x262 x259) x264.length) (ck (rg (gt x262 x259) x267.length) (ck (((decide ((0:Int) <(gt x267 (gt x262 x259))))=true)->rg x261 x269.length) (ck (((decide ((0:Int) <(gt x267 (gt x262 x259))))=true)->rg (gt x264 (gt x262 x259)).from_ x269.length) (ck (((decide ((0:Int) <(gt x267 (gt x262 x259))))=true)->rg (gt x262 x259) x267.length) (if(decide ((0:Int) <(gt x267 (gt x262 x259))))=true then(ck (rg x266 x273.length) (ck (rg (gt x264 (gt x262 x259)).from_ x273.length) (if(decide (((W ((gt x273 x266) +(W ((W ((gt x269 x261) -(gt x264 (gt x262 x259)).cost)) -(gt x269 ((gt x264 (gt x262 x259)).from_)))))):Int) <(gt x273 ((gt x264 (gt x262 x259)).from_))))=true then(ck (rg (gt x264 (gt x262 x259)).from_ x273.length) (ck (rg (gt x264 (gt x262 x259)).from_ x274.length) (ck (rg (gt x264 (gt x262 x259)).from_ x275.length) (if(!true)=true then(k115 x260 x263 x264 x265 x267 x268 x269 x270 (zq x271 x272 x262) ((zq x273 ((gt x264 (gt x262 x259)).from_) ((W ((gt x273 x266) +(W ((W ((gt x269 x261) -(gt x264 (gt x262 x259)).cost)) -(gt x269 ((gt x264 (gt x262 x259)).from_))))))))) ((zq x274 ((gt x264 (gt x262 x259)).from_) x266)) ((zq x275 ((gt x264 (gt x262 x259)).from_) (((⟨gt x262 x259,(gt x264 (gt x262 x259)).from_,W ((W ((gt x269 x261) -(gt x264 (gt x262 x259)).cost)) -(gt x269 ((gt x264 (gt x262 x259)).from_))),gt x267 (gt x262 x259)⟩:zd))))) x276 x277) else((z0f φ k115 n278) x258 (W (x259+1)) x260 x261 x262 x263 x264 x265 x266 x267 x268 x269 x270 x271 x272 ((zq x273 ((gt x264 (gt x262 x259)).from_) ((W ((gt x273 x266) +(W ((W ((gt x269 x261) -(gt x264 (gt x262 x259)).cost)) -(gt x269 ((gt x264 (gt x262 x259)).from_))))))))) ((zq x274 ((gt x264 (gt x262 x259)).from_) x266)) ((zq x275 ((gt x264 (gt x262 x259)).from_) (((⟨gt x262 x259,(gt x264 (gt x262 x259)).from_,W ((W ((gt x269 x261) -(gt x264 (gt x262 x259)).cost)) -(gt x269 ((gt x264 (gt x262 x259)).from_))),gt x267 (gt x262 x259)⟩:zd))))) x276 x277))))) else(if(!true)=true then(k115 x260 x263 x264 x265 x267 x268 x269 x270 (zq x271 x272 x262) x273 x274 x275 x276 x277) else((z0f φ k115 n278) x258 (W (x259+1)) x260 x261 x262 x263 x264 x265 x266 x267 x268 x269 x270 x271 x272 x273 x274 x275 x276 x277))))) else((z0f φ k115 n278) x258 (W (x259+1)) x260 x261 x262 x263 x264 x265 x266 x267 x268 x269 x270 x271 x272 x273 x274 x275 x276 x277)))))))) else(k115 x260 x263 x264 x265 x267 x268 x269 x270 (zq x271 x272 x262) x273 x274 x275 x276 x277))
def z0d (φ:Nat) (k115 :(Int->(List Int)->(List Arc)->(List Bool)->(List Int)->(List Int)->(List Int)->(List (List Int))->(List (List Int))->(List Int)->(List Int)->(List zd)->(List Int)->(List Int)->Option (Flow×Int×Unit))):Nat->Int->Int->Int->Int->(List Int)->(List Int)->(List Arc)->(List Bool)->Int->(List Int)->(List Int)->(List Int)->(List (List Int))->Int->(List (List Int))->(List Int)->(List Int)->(List zd)->(List Int)->(List Int)->Option (Flow×Int×Unit)
 | 0,_,_,_,_,_,_,_,_,_,_,_,_,_,_,_,_,_,_,_,_=>none
 | n257+1,x237,x238,x239,x240,x241,x242,x243,x244,x245,x246,x247,x248,x249,x250,x251,x252,x253,x254,x255,x256=>(if(decide (x238<x237))=true then(ck (rg x238 x241.length) (ck (rg (gt x241 x238) x243.length) (ck (rg (gt x241 x238) x246.length) (ck (((decide ((0:Int) <(W ((gt x243 (gt x241 x238)).cap -(gt x246 (gt x241 x238))))))=true)->rg x240 x248.length) (ck (((decide ((0:Int) <(W ((gt x243 (gt x241 x238)).cap -(gt x246 (gt x241 x238))))))=true)->rg (gt x243 (gt x241 x238)).to x248.length) (if(decide ((0:Int) <(W ((gt x243 (gt x241 x238)).cap -(gt x246 (gt x241 x238))))))=true then(ck (rg x245 x252.length) (ck (rg (gt x243 (gt x241 x238)).to x252.length) (if(decide (((W ((gt x252 x245) +(W ((W ((gt x243 (gt x241 x238)).cost +(gt x248 x240))) -(gt x248 ((gt x243 (gt x241 x238)).to)))))):Int) <(gt x252 ((gt x243 (gt x241 x238)).to))))=true then(ck (rg (gt x243 (gt x241 x238)).to x252.length) (ck (rg (gt x243 (gt x241 x238)).to x253.length) (ck (rg (gt x243 (gt x241 x238)).to x254.length) (if(!true)=true then(k115 x239 x242 x243 x244 x246 x247 x248 (zq x249 x250 x241) x251 ((zq x252 ((gt x243 (gt x241 x238)).to) ((W ((gt x252 x245) +(W ((W ((gt x243 (gt x241 x238)).cost +(gt x248 x240))) -(gt x248 ((gt x243 (gt x241 x238)).to))))))))) ((zq x253 ((gt x243 (gt x241 x238)).to) x245)) ((zq x254 ((gt x243 (gt x241 x238)).to) (((⟨gt x241 x238,(gt x243 (gt x241 x238)).to,W ((W ((gt x243 (gt x241 x238)).cost +(gt x248 x240))) -(gt x248 ((gt x243 (gt x241 x238)).to))),W ((gt x243 (gt x241 x238)).cap -(gt x246 (gt x241 x238)))⟩:zd))))) x255 x256) else((z0d φ k115 n257) x237 (W (x238+1)) x239 x240 x241 x242 x243 x244 x245 x246 x247 x248 x249 x250 x251 ((zq x252 ((gt x243 (gt x241 x238)).to) ((W ((gt x252 x245) +(W ((W ((gt x243 (gt x241 x238)).cost +(gt x248 x240))) -(gt x248 ((gt x243 (gt x241 x238)).to))))))))) ((zq x253 ((gt x243 (gt x241 x238)).to) x245)) ((zq x254 ((gt x243 (gt x241 x238)).to) (((⟨gt x241 x238,(gt x243 (gt x241 x238)).to,W ((W ((gt x243 (gt x241 x238)).cost +(gt x248 x240))) -(gt x248 ((gt x243 (gt x241 x238)).to))),W ((gt x243 (gt x241 x238)).cap -(gt x246 (gt x241 x238)))⟩:zd))))) x255 x256))))) else(if(!true)=true then(k115 x239 x242 x243 x244 x246 x247 x248 (zq x249 x250 x241) x251 x252 x253 x254 x255 x256) else((z0d φ k115 n257) x237 (W (x238+1)) x239 x240 x241 x242 x243 x244 x245 x246 x247 x248 x249 x250 x251 x252 x253 x254 x255 x256))))) else((z0d φ k115 n257) x237 (W (x238+1)) x239 x240 x241 x242 x243 x244 x245 x246 x247 x248 x249 x250 x251 x252 x253 x254 x255 x256))))))) else(ck (rg x240 x251.length) (ck (rg x240 x251.length) (ck (x240=x240) (z0f φ k115 φ ((gt x251 x240).length:Int) 0 x239 x240 (gt x251 x240) x242 x243 x244 x245 x246 x247 x248 (zq x249 x250 x241) x251 x240 x252 x253 x254 x255 x256)))))
def z0x (φ:Nat) (k47 :((List Int)->(List Arc)->(List Int)->(List Int)->(List Int)->(List (List Int))->(List (List Int))->(List Int)->(List Int)->Option (Flow×Int×Unit))) (k115 :(Int->(List Int)->(List Arc)->(List Bool)->(List Int)->(List Int)->(List Int)->(List (List Int))->(List (List Int))->(List Int)->(List Int)->(List zd)->(List Int)->(List Int)->Option (Flow×Int×Unit))):Nat->Int->Int->Int->(List Int)->(List Arc)->(List Bool)->Int->(List Int)->(List Int)->(List Int)->(List (List Int))->(List (List Int))->(List Int)->(List Int)->(List zd)->(List Int)->(List Int)->Option (Flow×Int×Unit)
 | 0,_,_,_,_,_,_,_,_,_,_,_,_,_,_,_,_,_=>none
 | n133+1,x116,x117,x118,x119,x120,x121,x122,x123,x124,x125,x126,x127,x128,x129,x130,x131,x132=>(if(decide (x118<x117))=true then(ck (rg x118 x121.length) (ck (((!(gt x121 x118))=true)->rg x118 x128.length) (ck ((((!(gt x121 x118))&&(decide (((gt x128 x118):Int)<1152921504606846976)))=true/\(decide (x122<0))=false)->rg x118 x128.length) (ck ((((!(gt x121 x118))&&(decide (((gt x128 x118):Int)<1152921504606846976)))=true/\(decide (x122<0))=false)->rg x122 x128.length) (if(((!(gt x121 x118))&&(decide (((gt x128 x118):Int)<1152921504606846976)))&&((decide (x122<0))||(decide (((gt x128 x118):Int) <(gt x128 x122)))))=true then((z0x φ k47 k115 n133) x116 x117 (W (x118+1)) x119 x120 x121 x118 x123 x124 x125 x126 x127 x128 x129 x130 x131 x132) else((z0x φ k47 k115 n133) x116 x117 (W (x118+1)) x119 x120 x121 x122 x123 x124 x125 x126 x127 x128 x129 x130 x131 x132)))))) else(if(decide (x122<0))=true then(z25 φ k47 x119 x120 x128 x129 x130 x123 x124 x125 x126 x127 x131 x132) else(ck (rg x122 x121.length) (ck (rg x122 x126.length) (ck (rg x122 x126.length) (ck (x122=x122) (z0d φ k115 φ ((gt x126 x122).length:Int) 0 x116 x122 (gt x126 x122) x119 x120 (zq x121 x122 true) x122 x123 x124 x125 x126 x122 x127 x128 x129 x130 x131 x132)))))))
def z43 (φ:Nat) (k47 :((List Int)->(List Arc)->(List Int)->(List Int)->(List Int)->(List (List Int))->(List (List Int))->(List Int)->(List Int)->Option (Flow×Int×Unit))):Nat->Int->(List Int)->(List Arc)->(List Bool)->(List Int)->(List Int)->(List Int)->(List (List Int))->(List (List Int))->(List Int)->(List Int)->(List zd)->(List Int)->(List Int)->Option (Flow×Int×Unit)
 | 0,_,_,_,_,_,_,_,_,_,_,_,_,_,_=>none
 | n115+1,x101,x102,x103,x104,x105,x106,x107,x108,x109,x110,x111,x112,x113,x114=>(z0x φ k47 (z43 φ k47 n115) φ x101 x101 0 x102 x103 x104 (-1) x105 x106 x107 x108 x109 x110 x111 x112 x113 x114)
def z1f (φ:Nat) (k47 :((List Int)->(List Arc)->(List Int)->(List Int)->(List Int)->(List (List Int))->(List (List Int))->(List Int)->(List Int)->Option (Flow×Int×Unit))):Nat->Int->Int->Int->(List Int)->(List Arc)->(List Int)->(List Int)->(List Int)->(List (List Int))->(List (List Int))->(List Int)->(List Int)->(List zd)->(List Int)->(List Int)->Option (Flow×Int×Unit)
 | 0,_,_,_,_,_,_,_,_,_,_,_,_,_,_,_=>none
 | n100+1,x85,x86,x87,x88,x89,x90,x91,x92,x93,x94,x95,x96,x97,x98,x99=>(if(decide (x87<x86))=true then(ck (rg x87 x95.length) (ck (rg x87 x96.length) (ck (rg x87 x91.length) (if(decide ((0:Int) <(gt x91 x87)))=true then(ck (rg x87 (zq x95 x87 1152921504606846976).length) ((z1f φ k47 n100) x85 x86 (W (x87+1)) x88 x89 x90 x91 x92 x93 x94 (zq (zq x95 x87 1152921504606846976) x87 0) (zq x96 x87 (-1)) x97 x98 x99)) else((z1f φ k47 n100) x85 x86 (W (x87+1)) x88 x89 x90 x91 x92 x93 x94 (zq x95 x87 1152921504606846976) (zq x96 x87 (-1)) x97 x98 x99))))) else(ck (zc x85 1) (z43 φ k47 φ x85 x88 x89 (List.replicate x85.toNat (default:Bool)) x90 x91 x92 x93 x94 x95 x96 x97 x98 x99)))
def zy (φ:Nat) (k47 :((List Int)->(List Arc)->(List Int)->(List Int)->(List Int)->(List (List Int))->(List (List Int))->(List Int)->(List Int)->Option (Flow×Int×Unit))) (x71:Int) (x72 :(List Int)) (x73 :(List Arc)) (x74 x75 x76 :(List Int)) (x77 x78 :(List (List Int))) (x79 x80 :(List Int)) (x81 :(List zd)) (x82 x83 :(List Int)):Option (Flow×Int×Unit):=(z1f φ k47 φ x71 x71 0 x72 x73 x74 x75 x76 x77 x78 x79 x80 x81 x82 x83)
def z36 (φ:Nat) (k47 :((List Int)->(List Arc)->(List Int)->(List Int)->(List Int)->(List (List Int))->(List (List Int))->(List Int)->(List Int)->Option (Flow×Int×Unit))) (x279:Int) (x280 :(List Int)) (x281 :(List Arc)) (x282 x283 x284 :(List Int)) (x285 x286 :(List (List Int))) (x287 x288 :(List Int)) (x289 :(List zd)) (x290 x291 :(List Int)):Option (Flow×Int×Unit):=(ck (zc x279 8) (ck (zc x279 8) (ck (zc x279 32) (zy φ k47 x279 x280 x281 x282 x283 x284 x285 x286 (List.replicate x279.toNat (default:Int)) (List.replicate x279.toNat (default:Int)) (List.replicate x279.toNat (default:zd)) x290 x291))))
def z8f (φ:Nat) (k47 :((List Int)->(List Arc)->(List Int)->(List Int)->(List Int)->(List (List Int))->(List (List Int))->(List Int)->(List Int)->Option (Flow×Int×Unit))) (x279:Int) (x280 :(List Int)) (x281 :(List Arc)) (x282 x283 x284 :(List Int)) (x285 x286 :(List (List Int))) (x287 x288 :(List Int)) (x289 :(List zd)) (x290 x291 :(List Int)):Option (List (Option (Flow×Int×Unit))):=(catL [(ck (zc x279 8) (catL [(ck (zc x279 8) (catL [(ck (zc x279 32) (catL [(some [(zy φ k47 x279 x280 x281 x282 x283 x284 x285 x286 (List.replicate x279.toNat (default:Int)) (List.replicate x279.toNat (default:Int)) (List.replicate x279.toNat (default:zd)) x290 x291)])])),(catL [(ck (zc x279 32) (catL [(some [(zy φ k47 x279 x280 x281 x282 x283 x284 x285 x286 (List.replicate x279.toNat (default:Int)) (List.replicate x279.toNat (default:Int)) (List.replicate x279.toNat (default:zd)) x290 x291)])])),(catL [(ck (zc x279 32) (catL [(some [(zy φ k47 x279 x280 x281 x282 x283 x284 x285 x286 (List.replicate x279.toNat (default:Int)) (List.replicate x279.toNat (default:Int)) (List.replicate x279.toNat (default:zd)) x290 x291)])]))])])])),(ck (zc x279 32) (catL [(ck (zc x279 8) (catL [(some [(zy φ k47 x279 x280 x281 x282 x283 x284 x285 x286 (List.replicate x279.toNat (default:Int)) (List.replicate x279.toNat (default:Int)) (List.replicate x279.toNat (default:zd)) x290 x291)])])),(catL [(ck (zc x279 8) (catL [(some [(zy φ k47 x279 x280 x281 x282 x283 x284 x285 x286 (List.replicate x279.toNat (default:Int)) (List.replicate x279.toNat (default:Int)) (List.replicate x279.toNat (default:zd)) x290 x291)])]))])])),(catL [(ck (zc x279 8) (catL [(ck (zc x279 32) (catL [(some [(zy φ k47 x279 x280 x281 x282 x283 x284 x285 x286 (List.replicate x279.toNat (default:Int)) (List.replicate x279.toNat (default:Int)) (List.replicate x279.toNat (default:zd)) x290 x291)])])),(catL [(ck (zc x279 32) (catL [(some [(zy φ k47 x279 x280 x281 x282 x283 x284 x285 x286 (List.replicate x279.toNat (default:Int)) (List.replicate x279.toNat (default:Int)) (List.replicate x279.toNat (default:zd)) x290 x291)])]))])])),(ck (zc x279 32) (catL [(ck (zc x279 8) (catL [(some [(zy φ k47 x279 x280 x281 x282 x283 x284 x285 x286 (List.replicate x279.toNat (default:Int)) (List.replicate x279.toNat (default:Int)) (List.replicate x279.toNat (default:zd)) x290 x291)])]))]))])])),(ck (zc x279 8) (catL [(ck (zc x279 8) (catL [(ck (zc x279 32) (catL [(some [(zy φ k47 x279 x280 x281 x282 x283 x284 x285 x286 (List.replicate x279.toNat (default:Int)) (List.replicate x279.toNat (default:Int)) (List.replicate x279.toNat (default:zd)) x290 x291)])])),(catL [(ck (zc x279 32) (catL [(some [(zy φ k47 x279 x280 x281 x282 x283 x284 x285 x286 (List.replicate x279.toNat (default:Int)) (List.replicate x279.toNat (default:Int)) (List.replicate x279.toNat (default:zd)) x290 x291)])])),(catL [(ck (zc x279 32) (catL [(some [(zy φ k47 x279 x280 x281 x282 x283 x284 x285 x286 (List.replicate x279.toNat (default:Int)) (List.replicate x279.toNat (default:Int)) (List.replicate x279.toNat (default:zd)) x290 x291)])]))])])])),(ck (zc x279 32) (catL [(ck (zc x279 8) (catL [(some [(zy φ k47 x279 x280 x281 x282 x283 x284 x285 x286 (List.replicate x279.toNat (default:Int)) (List.replicate x279.toNat (default:Int)) (List.replicate x279.toNat (default:zd)) x290 x291)])]))]))])),(ck (zc x279 32) (catL [(ck (zc x279 8) (catL [(ck (zc x279 8) (catL [(some [(zy φ k47 x279 x280 x281 x282 x283 x284 x285 x286 (List.replicate x279.toNat (default:Int)) (List.replicate x279.toNat (default:Int)) (List.replicate x279.toNat (default:zd)) x290 x291)])])),(catL [(ck (zc x279 8) (catL [(some [(zy φ k47 x279 x280 x281 x282 x283 x284 x285 x286 (List.replicate x279.toNat (default:Int)) (List.replicate x279.toNat (default:Int)) (List.replicate x279.toNat (default:zd)) x290 x291)])]))])])),(ck (zc x279 8) (catL [(ck (zc x279 8) (catL [(some [(zy φ k47 x279 x280 x281 x282 x283 x284 x285 x286 (List.replicate x279.toNat (default:Int)) (List.replicate x279.toNat (default:Int)) (List.replicate x279.toNat (default:zd)) x290 x291)])]))]))]))])
def z2u (φ:Nat):Nat->(List Int)->(List Arc)->(List Int)->(List Int)->(List Int)->(List (List Int))->(List (List Int))->(List Int)->(List Int)->Option (Flow×Int×Unit)
 | 0,_,_,_,_,_,_,_,_,_=>none
 | n47+1,x38,x39,x40,x41,x42,x43,x44,x45,x46=>(z36 φ (z2u φ n47) (x41.length:Int) x38 x39 x40 x41 x42 x43 x44 ([]:List Int) ([]:List Int) ([]:List zd) x45 x46)
def z18 (φ:Nat):Nat->(List Arc)->Int->Int->(List Int)->(List Arc)->(List Int)->(List Int)->(List Int)->(List (List Int))->(List (List Int))->(List Int)->(List Int)->Option (Flow×Int×Unit)
 | 0,_,_,_,_,_,_,_,_,_,_,_,_=>none
 | n26+1,x14,x15,x16,x17,x18,x19,x20,x21,x22,x23,x24,x25=>(if(decide (x16<x15))=true then(ck (rg x16 x14.length) (ck (rg (gt x14 x16).from_ x22.length) (ck (rg (gt x14 x16).from_ x22.length) (ck (((gt x14 x16).from_:Int) =(gt x14 x16).from_) (ck (fits ((gt x22 ((gt x14 x16).from_)).length +([x16]).length) 8) (ck (rg (gt x14 x16).from_ x22.length) (ck (((gt x14 x16).from_:Int) =(gt x14 x16).from_) (ck (rg (gt x14 x16).to x23.length) (ck (rg (gt x14 x16).to x23.length) (ck (((gt x14 x16).to:Int) =(gt x14 x16).to) (ck (fits ((gt x23 ((gt x14 x16).to)).length +([x16]).length) 8) (ck (rg (gt x14 x16).to x23.length) (ck (((gt x14 x16).to:Int) =(gt x14 x16).to) ((z18 φ n26) x14 x15 (W (x16+1)) x17 x18 x19 x20 x21 ((zq x22 ((gt x14 x16).from_) (((gt x22 ((gt x14 x16).from_))++[x16])))) ((zq x23 ((gt x14 x16).to) (((gt x23 ((gt x14 x16).to))++[x16])))) x24 x25)))))))))))))) else(z2u φ φ x17 x18 x19 x20 x21 x22 x23 x24 x25))
def z7q (φ:Nat) (x3:zi) (x4 :(List Int)) (x5 :(List Arc)) (x6 x7 x8 :(List Int)) (x9 x10 :(List (List Int))) (x11 x12 :(List Int)):Option (Flow×Int×Unit):=(z18 φ φ x3.arcs (x3.arcs.length:Int) 0 x4 x5 x6 x7 x8 x9 x10 x11 x12)
def z58 (φ:Nat) (x293:Int) (x294:zi) (x295 x296 :(List Int)):Option (Flow×Int×Unit):=(ck (zc (x294.arcs.length:Int) 8) (ck (fits (([]:List Int).length+x294.supply.length) 8) (ck (zc x293 8) (ck (zc x293 24) (ck (zc x293 24) (z7q φ x294 x294.supply x294.arcs (List.replicate ((x294.arcs.length:Int):Int).toNat (default:Int)) (([]:List Int)++x294.supply) (List.replicate x293.toNat (default:Int)) (List.replicate x293.toNat (default :(List Int))) (List.replicate x293.toNat (default :(List Int))) x295 x296))))))
def z7 (φ:Nat) (x293:Int) (x294:zi) (x295 x296 :(List Int)):Option (List (Option (Flow×Int×Unit))):=(catL [(some [(z7q φ x294 x294.supply x294.arcs (List.replicate ((x294.arcs.length:Int):Int).toNat (default:Int)) (([]:List Int)++x294.supply) (List.replicate x293.toNat (default:Int)) (List.replicate x293.toNat (default :(List Int))) (List.replicate x293.toNat (default :(List Int))) x295 x296)])])
def z08 (φ:Nat) (x293:Int) (x294:zi) (x295 x296 :(List Int)):Option (List (Option (Flow×Int×Unit))):=(catL [(ck (zc x293 24) (z7 φ x293 x294 x295 x296))])
def ze (φ:Nat) (x293:Int) (x294:zi) (x295 x296 :(List Int)):Option (List (Option (Flow×Int×Unit))):=(catL [(ck (fits (([]:List Int).length+x294.supply.length) 8) (z7 φ x293 x294 x295 x296))])
def z16 (φ:Nat) (x293:Int) (x294:zi) (x295 x296 :(List Int)):Option (List (Option (Flow×Int×Unit))):=(catL [(ck (fits (([]:List Int).length+x294.supply.length) 8) (z08 φ x293 x294 x295 x296)),(ck (zc x293 24) (ze φ x293 x294 x295 x296))])
def z5c (φ:Nat) (x293:Int) (x294:zi) (x295 x296 :(List Int)):Option (List (Option (Flow×Int×Unit))):=(catL [(ck (zc (x294.arcs.length:Int) 8) (catL [(ck (fits (([]:List Int).length+x294.supply.length) 8) (catL [(ck (zc x293 8) (z08 φ x293 x294 x295 x296)),(ck (zc x293 24) (catL [(ck (zc x293 8) (z7 φ x293 x294 x295 x296))]))])),(ck (zc x293 8) (z16 φ x293 x294 x295 x296)),(ck (zc x293 24) (catL [(ck (fits (([]:List Int).length+x294.supply.length) 8) (catL [(ck (zc x293 8) (z7 φ x293 x294 x295 x296))])),(ck (zc x293 8) (ze φ x293 x294 x295 x296))]))])),(ck (fits (([]:List Int).length+x294.supply.length) 8) (catL [(ck (zc (x294.arcs.length:Int) 8) (catL [(ck (zc x293 8) (z08 φ x293 x294 x295 x296)),(ck (zc x293 24) (catL [(ck (zc x293 8) (z7 φ x293 x294 x295 x296))]))])),(ck (zc x293 8) (catL [(ck (zc (x294.arcs.length:Int) 8) (z08 φ x293 x294 x295 x296)),(ck (zc x293 24) (catL [(ck (zc (x294.arcs.length:Int) 8) (z7 φ x293 x294 x295 x296))]))])),(ck (zc x293 24) (catL [(ck (zc (x294.arcs.length:Int) 8) (catL [(ck (zc x293 8) (z7 φ x293 x294 x295 x296))])),(ck (zc x293 8) (catL [(ck (zc (x294.arcs.length:Int) 8) (z7 φ x293 x294 x295 x296))]))]))])),(ck (zc x293 8) (catL [(ck (zc (x294.arcs.length:Int) 8) (z16 φ x293 x294 x295 x296)),(ck (fits (([]:List Int).length+x294.supply.length) 8) (catL [(ck (zc (x294.arcs.length:Int) 8) (z08 φ x293 x294 x295 x296)),(ck (zc x293 24) (catL [(ck (zc (x294.arcs.length:Int) 8) (z7 φ x293 x294 x295 x296))]))])),(ck (zc x293 24) (catL [(ck (zc (x294.arcs.length:Int) 8) (ze φ x293 x294 x295 x296)),(ck (fits (([]:List Int).length+x294.supply.length) 8) (catL [(ck (zc (x294.arcs.length:Int) 8) (z7 φ x293 x294 x295 x296))]))]))])),(ck (zc x293 24) (catL [(ck (zc (x294.arcs.length:Int) 8) (catL [(ck (fits (([]:List Int).length+x294.supply.length) 8) (catL [(ck (zc x293 8) (z7 φ x293 x294 x295 x296))])),(ck (zc x293 8) (ze φ x293 x294 x295 x296))])),(ck (fits (([]:List Int).length+x294.supply.length) 8) (catL [(ck (zc (x294.arcs.length:Int) 8) (catL [(ck (zc x293 8) (z7 φ x293 x294 x295 x296))])),(ck (zc x293 8) (catL [(ck (zc (x294.arcs.length:Int) 8) (z7 φ x293 x294 x295 x296))]))])),(ck (zc x293 8) (catL [(ck (zc (x294.arcs.length:Int) 8) (ze φ x293 x294 x295 x296)),(ck (fits (([]:List Int).length+x294.supply.length) 8) (catL [(ck (zc (x294.arcs.length:Int) 8) (z7 φ x293 x294 x295 x296))]))]))]))])
def z15 (φ:Nat) (x293:Int) (x294:zi) (x295 x296 :(List Int)):Option (List (Option (Flow×Int×Unit))):=(catL [(ck (fits (([]:List Int).length+x294.supply.length) 8) (catL [(ck (zc x293 8) (z08 φ x293 x294 x295 x296)),(ck (zc x293 24) (catL [(ck (zc x293 8) (z7 φ x293 x294 x295 x296))]))])),(ck (zc x293 8) (z16 φ x293 x294 x295 x296)),(ck (zc x293 24) (catL [(ck (fits (([]:List Int).length+x294.supply.length) 8) (catL [(ck (zc x293 8) (z7 φ x293 x294 x295 x296))])),(ck (zc x293 8) (ze φ x293 x294 x295 x296))]))])
def z05 (φ:Nat) (x293:Int) (x294:zi) (x295 x296 :(List Int)):Option (List (Option (Flow×Int×Unit))):=(catL [(z16 φ x293 x294 x295 x296),(ck (zc x293 24) (catL [(ze φ x293 x294 x295 x296)]))])
def z2w (φ:Nat) (x293:Int) (x294:zi) (x295 x296 :(List Int)):Option (List (Option (Flow×Int×Unit))):=(catL [(ck (zc (x294.arcs.length:Int) 8) (z16 φ x293 x294 x295 x296)),(ck (fits (([]:List Int).length+x294.supply.length) 8) (catL [(ck (zc (x294.arcs.length:Int) 8) (z08 φ x293 x294 x295 x296)),(ck (zc x293 24) (catL [(ck (zc (x294.arcs.length:Int) 8) (z7 φ x293 x294 x295 x296))]))])),(ck (zc x293 24) (catL [(ck (zc (x294.arcs.length:Int) 8) (ze φ x293 x294 x295 x296)),(ck (fits (([]:List Int).length+x294.supply.length) 8) (catL [(ck (zc (x294.arcs.length:Int) 8) (z7 φ x293 x294 x295 x296))]))]))])
def z7h (φ:Nat) (x293:Int) (x294:zi) (x295 x296 :(List Int)):Option (List (Option (Flow×Int×Unit))):=(ck (zc x293 24) (catL [(ck (zc (x294.arcs.length:Int) 8) (catL [(z15 φ x293 x294 x295 x296),(ck (zc x293 8) (z05 φ x293 x294 x295 x296)),(ck (zc x293 24) (catL [(catL [(ck (fits (([]:List Int).length+x294.supply.length) 8) (catL [(ck (zc x293 8) (z7 φ x293 x294 x295 x296))])),(ck (zc x293 8) (ze φ x293 x294 x295 x296))]),(ck (zc x293 8) (catL [(ze φ x293 x294 x295 x296)]))]))])),(z5c φ x293 x294 x295 x296),(ck (zc x293 8) (catL [(ck (zc (x294.arcs.length:Int) 8) (z05 φ x293 x294 x295 x296)),(z2w φ x293 x294 x295 x296),(ck (zc x293 24) (catL [(ck (zc (x294.arcs.length:Int) 8) (catL [(ze φ x293 x294 x295 x296)])),(catL [(ck (zc (x294.arcs.length:Int) 8) (ze φ x293 x294 x295 x296)),(ck (fits (([]:List Int).length+x294.supply.length) 8) (catL [(ck (zc (x294.arcs.length:Int) 8) (z7 φ x293 x294 x295 x296))]))])]))])),(ck (zc x293 24) (catL [(ck (zc (x294.arcs.length:Int) 8) (catL [(catL [(ck (fits (([]:List Int).length+x294.supply.length) 8) (catL [(ck (zc x293 8) (z7 φ x293 x294 x295 x296))])),(ck (zc x293 8) (ze φ x293 x294 x295 x296))]),(ck (zc x293 8) (catL [(ze φ x293 x294 x295 x296)]))])),(catL [(ck (zc (x294.arcs.length:Int) 8) (catL [(ck (fits (([]:List Int).length+x294.supply.length) 8) (catL [(ck (zc x293 8) (z7 φ x293 x294 x295 x296))])),(ck (zc x293 8) (ze φ x293 x294 x295 x296))])),(ck (fits (([]:List Int).length+x294.supply.length) 8) (catL [(ck (zc (x294.arcs.length:Int) 8) (catL [(ck (zc x293 8) (z7 φ x293 x294 x295 x296))])),(ck (zc x293 8) (catL [(ck (zc (x294.arcs.length:Int) 8) (z7 φ x293 x294 x295 x296))]))])),(ck (zc x293 8) (catL [(ck (zc (x294.arcs.length:Int) 8) (ze φ x293 x294 x295 x296)),(ck (fits (([]:List Int).length+x294.supply.length) 8) (catL [(ck (zc (x294.arcs.length:Int) 8) (z7 φ x293 x294 x295 x296))]))]))]),(ck (zc x293 8) (catL [(ck (zc (x294.arcs.length:Int) 8) (catL [(ze φ x293 x294 x295 x296)])),(catL [(ck (zc (x294.arcs.length:Int) 8) (ze φ x293 x294 x295 x296)),(ck (fits (([]:List Int).length+x294.supply.length) 8) (catL [(ck (zc (x294.arcs.length:Int) 8) (z7 φ x293 x294 x295 x296))]))])]))]))]))
end Px
end
section
set_option maxHeartbeats 4000000
set_option maxRecDepth 100000
namespace Px
open Go Go.RowKit
def zx (φ:Nat) (x293:Int) (x294:zi) (x295 x296 :(List Int)):Option (List (Option (Flow×Int×Unit))):=(ck (zc x293 24) (z08 φ x293 x294 x295 x296))
def z2y (φ:Nat) (x293:Int) (x294:zi) (x295 x296 :(List Int)):Option (List (Option (Flow×Int×Unit))):=(catL [(ck (fits (([]:List Int).length+x294.supply.length) 8) (catL [(zx φ x293 x294 x295 x296),(zx φ x293 x294 x295 x296)])),(ck (zc x293 24) (z16 φ x293 x294 x295 x296)),(ck (zc x293 24) (z16 φ x293 x294 x295 x296))])
def z1c (φ:Nat) (x293:Int) (x294:zi) (x295 x296 :(List Int)):Option (List (Option (Flow×Int×Unit))):=(catL [(ck (zc (x294.arcs.length:Int) 8) (z08 φ x293 x294 x295 x296)),(ck (zc x293 24) (catL [(ck (zc (x294.arcs.length:Int) 8) (z7 φ x293 x294 x295 x296))]))])
def z6e (φ:Nat) (x293:Int) (x294:zi) (x295 x296 :(List Int)):Option (List (Option (Flow×Int×Unit))):=(catL [(ck (zc (x294.arcs.length:Int) 8) (z2y φ x293 x294 x295 x296)),(ck (fits (([]:List Int).length+x294.supply.length) 8) (catL [(ck (zc (x294.arcs.length:Int) 8) (catL [(zx φ x293 x294 x295 x296),(zx φ x293 x294 x295 x296)])),(ck (zc x293 24) (z1c φ x293 x294 x295 x296)),(ck (zc x293 24) (z1c φ x293 x294 x295 x296))])),(ck (zc x293 24) (z2w φ x293 x294 x295 x296)),(ck (zc x293 24) (z2w φ x293 x294 x295 x296))])
def z0i (φ:Nat) (x293:Int) (x294:zi) (x295 x296 :(List Int)):Option (List (Option (Flow×Int×Unit))):=(catL [(ck (zc x293 8) (z08 φ x293 x294 x295 x296)),(ck (zc x293 24) (catL [(ck (zc x293 8) (z7 φ x293 x294 x295 x296))]))])
def z8g (φ:Nat) (x293:Int) (x294:zi) (x295 x296 :(List Int)):Option (List (Option (Flow×Int×Unit))):=(catL [(ck (zc (x294.arcs.length:Int) 8) (catL [(catL [(ck (fits (([]:List Int).length+x294.supply.length) 8) (catL [(ck (zc x293 8) (catL [(zx φ x293 x294 x295 x296),(zx φ x293 x294 x295 x296)])),(ck (zc x293 24) (z0i φ x293 x294 x295 x296)),(ck (zc x293 24) (z0i φ x293 x294 x295 x296))])),(ck (zc x293 8) (z2y φ x293 x294 x295 x296)),(ck (zc x293 24) (z15 φ x293 x294 x295 x296)),(ck (zc x293 24) (z15 φ x293 x294 x295 x296))]),(ck (zc x293 8) (catL [(z2y φ x293 x294 x295 x296),(ck (zc x293 24) (z05 φ x293 x294 x295 x296)),(ck (zc x293 24) (z05 φ x293 x294 x295 x296))])),(ck (zc x293 24) (catL [(z15 φ x293 x294 x295 x296),(ck (zc x293 8) (z05 φ x293 x294 x295 x296)),(ck (zc x293 24) (catL [(catL [(ck (fits (([]:List Int).length+x294.supply.length) 8) (catL [(ck (zc x293 8) (z7 φ x293 x294 x295 x296))])),(ck (zc x293 8) (ze φ x293 x294 x295 x296))]),(ck (zc x293 8) (catL [(ze φ x293 x294 x295 x296)]))]))])),(ck (zc x293 24) (catL [(z15 φ x293 x294 x295 x296),(ck (zc x293 8) (z05 φ x293 x294 x295 x296)),(ck (zc x293 24) (catL [(catL [(ck (fits (([]:List Int).length+x294.supply.length) 8) (catL [(ck (zc x293 8) (z7 φ x293 x294 x295 x296))])),(ck (zc x293 8) (ze φ x293 x294 x295 x296))]),(ck (zc x293 8) (catL [(ze φ x293 x294 x295 x296)]))]))]))])),(catL [(ck (zc (x294.arcs.length:Int) 8) (catL [(ck (fits (([]:List Int).length+x294.supply.length) 8) (catL [(ck (zc x293 8) (catL [(zx φ x293 x294 x295 x296),(zx φ x293 x294 x295 x296)])),(ck (zc x293 24) (z0i φ x293 x294 x295 x296)),(ck (zc x293 24) (z0i φ x293 x294 x295 x296))])),(ck (zc x293 8) (z2y φ x293 x294 x295 x296)),(ck (zc x293 24) (z15 φ x293 x294 x295 x296)),(ck (zc x293 24) (z15 φ x293 x294 x295 x296))])),(ck (fits (([]:List Int).length+x294.supply.length) 8) (catL [(ck (zc (x294.arcs.length:Int) 8) (catL [(ck (zc x293 8) (catL [(zx φ x293 x294 x295 x296),(zx φ x293 x294 x295 x296)])),(ck (zc x293 24) (z0i φ x293 x294 x295 x296)),(ck (zc x293 24) (z0i φ x293 x294 x295 x296))])),(ck (zc x293 8) (catL [(ck (zc (x294.arcs.length:Int) 8) (catL [(zx φ x293 x294 x295 x296),(zx φ x293 x294 x295 x296)])),(ck (zc x293 24) (z1c φ x293 x294 x295 x296)),(ck (zc x293 24) (z1c φ x293 x294 x295 x296))])),(ck (zc x293 24) (catL [(ck (zc (x294.arcs.length:Int) 8) (z0i φ x293 x294 x295 x296)),(ck (zc x293 8) (z1c φ x293 x294 x295 x296)),(ck (zc x293 24) (catL [(ck (zc (x294.arcs.length:Int) 8) (catL [(ck (zc x293 8) (z7 φ x293 x294 x295 x296))])),(ck (zc x293 8) (catL [(ck (zc (x294.arcs.length:Int) 8) (z7 φ x293 x294 x295 x296))]))]))])),(ck (zc x293 24) (catL [(ck (zc (x294.arcs.length:Int) 8) (z0i φ x293 x294 x295 x296)),(ck (zc x293 8) (z1c φ x293 x294 x295 x296)),(ck (zc x293 24) (catL [(ck (zc (x294.arcs.length:Int) 8) (catL [(ck (zc x293 8) (z7 φ x293 x294 x295 x296))])),(ck (zc x293 8) (catL [(ck (zc (x294.arcs.length:Int) 8) (z7 φ x293 x294 x295 x296))]))]))]))])),(ck (zc x293 8) (z6e φ x293 x294 x295 x296)),(ck (zc x293 24) (z5c φ x293 x294 x295 x296)),(ck (zc x293 24) (z5c φ x293 x294 x295 x296))]),(ck (zc x293 8) (catL [(ck (zc (x294.arcs.length:Int) 8) (catL [(z2y φ x293 x294 x295 x296),(ck (zc x293 24) (z05 φ x293 x294 x295 x296)),(ck (zc x293 24) (z05 φ x293 x294 x295 x296))])),(z6e φ x293 x294 x295 x296),(ck (zc x293 24) (catL [(ck (zc (x294.arcs.length:Int) 8) (z05 φ x293 x294 x295 x296)),(z2w φ x293 x294 x295 x296),(ck (zc x293 24) (catL [(ck (zc (x294.arcs.length:Int) 8) (catL [(ze φ x293 x294 x295 x296)])),(catL [(ck (zc (x294.arcs.length:Int) 8) (ze φ x293 x294 x295 x296)),(ck (fits (([]:List Int).length+x294.supply.length) 8) (catL [(ck (zc (x294.arcs.length:Int) 8) (z7 φ x293 x294 x295 x296))]))])]))])),(ck (zc x293 24) (catL [(ck (zc (x294.arcs.length:Int) 8) (z05 φ x293 x294 x295 x296)),(z2w φ x293 x294 x295 x296),(ck (zc x293 24) (catL [(ck (zc (x294.arcs.length:Int) 8) (catL [(ze φ x293 x294 x295 x296)])),(catL [(ck (zc (x294.arcs.length:Int) 8) (ze φ x293 x294 x295 x296)),(ck (fits (([]:List Int).length+x294.supply.length) 8) (catL [(ck (zc (x294.arcs.length:Int) 8) (z7 φ x293 x294 x295 x296))]))])]))]))])),(z7h φ x293 x294 x295 x296),(z7h φ x293 x294 x295 x296)])
def z90 (φ:Nat) (x1:zi):Option (Flow×Int×Unit):=((zbj φ x1).bind λy2=>(if(y2.1 !=0)=true then(some ((⟨([]:List Int),([]:List Int)⟩:Flow),y2.1,())) else(z58 φ (x1.supply.length:Int) x1 ([]:List Int) ([]:List Int))))
def zak (φ:Nat):Fsp TV:=⟨[40],[.val 41,.val 0],λz=>z90 φ z.1⟩
def z17 (φ:Nat):Nat->Int->Int->(List Int)->Option (Bool×Unit)
 | 0,_,_,_=>none
 | n13+1,x10,x11,x12=>(if(decide (x11<x10))=true then(ck (rg x11 x12.length) (if(((gt x12 x11):Int) !=0)=true then(some (false,())) else((z17 φ n13) x10 (W (x11+1)) x12))) else(some (true,())))
def z2j (φ:Nat):Nat->(List Arc)->Int->Int->Flow->(List Int)->Option (Bool×Unit)
 | 0,_,_,_,_,_=>none
 | n8+1,x3,x4,x5,x6,x7=>(if(decide (x5<x4))=true then(ck (rg x5 x3.length) (ck (rg x5 x6.x.length) ((z4c φ (gt x6.x x5) 0 ((gt x3 x5).cap)).bind λy9=>(if(!y9.1)=true then(some (false,())) else(ck (rg (gt x3 x5).from_ x7.length) (ck (rg x5 x6.x.length) (ck (rg (gt x3 x5).from_ x7.length) (ck (rg (gt x3 x5).to (((zq x7 ((gt x3 x5).from_) ((W ((gt x7 ((gt x3 x5).from_)) -(gt x6.x x5)))))).length)) (ck (rg x5 x6.x.length) (ck (rg (gt x3 x5).to (((zq x7 ((gt x3 x5).from_) ((W ((gt x7 ((gt x3 x5).from_)) -(gt x6.x x5)))))).length)) ((z2j φ n8) x3 x4 (W (x5+1)) x6 ((zq ((zq x7 ((gt x3 x5).from_) ((W ((gt x7 ((gt x3 x5).from_)) -(gt x6.x x5)))))) ((gt x3 x5).to) ((W ((gt ((zq x7 ((gt x3 x5).from_) ((W ((gt x7 ((gt x3 x5).from_)) -(gt x6.x x5)))))) ((gt x3 x5).to)) +(gt x6.x x5))))))))))))))))) else(z17 φ φ (x7.length:Int) 0 x7))
def z8y (φ:Nat) (x1:zi) (x2:Flow):Option (Bool×Unit):=(if(((x2.x.length:Int):Int) !=(x1.arcs.length:Int))=true then(some (false,())) else(ck (fits (([]:List Int).length+x1.supply.length) 8) (z2j φ φ x1.arcs (x1.arcs.length:Int) 0 x2 (([]:List Int)++x1.supply))))
def za4 (φ:Nat):Fsp TV:=⟨[40,41],[.val 27],kk2 (z8y φ)⟩
def z3m (φ:Nat):Nat->Int->(List Arc)->Int->Int->Flow->Option (Int×Int×Unit)
 | 0,_,_,_,_,_=>none
 | n10+1,x5,x6,x7,x8,x9=>(if(decide (x8<x7))=true then(ck (rg x8 x6.length) (ck (rg x8 x9.x.length) (if(decide (((W (9007199254740992-x5)):Int) <(W ((gt x9.x x8) *(gt x6 x8).cost))))=true then(some (0,3,())) else((z3m φ n10) ((W (x5 +(W ((gt x9.x x8) *(gt x6 x8).cost))))) x6 x7 (W (x8+1)) x9)))) else(some (x5,0,())))
def zbl (φ:Nat) (x1:zi) (x2:Flow):Option (Int×Int×Unit):=((zbj φ x1).bind λy3=>(if(y3.1 !=0)=true then(some (0,y3.1,())) else((z8y φ x1 x2).bind λy4=>(if(!y4.1)=true then(some (0,360,())) else(z3m φ φ 0 x1.arcs (x1.arcs.length:Int) 0 x2)))))
def zci (φ:Nat):Fsp TV:=⟨[40,41],[.val 0,.val 0],kk2 (zbl φ)⟩
def z0h (φ:Nat):Nat->(List z8)->(List zl)->(List Arc)->Int->Int->Int->(List Int)->Flow->(List zb)->Option (Plan×Int×Unit)
 | 0,_,_,_,_,_,_,_,_,_=>none
 | n16+1,x7,x8,x9,x10,x11,x12,x13,x14,x15=>(if(decide (x11<x10))=true then(ck (rg x11 x9.length) (ck ((((decide (((gt x9 x11).from_:Int) <(x7.length:Int)))&&(decide (((gt x9 x11).to:Int) <(W ((x7.length:Int) +(x8.length:Int))))))=true)->rg x11 x14.x.length) (if(((decide (((gt x9 x11).from_:Int) <(x7.length:Int)))&&(decide (((gt x9 x11).to:Int) <(W ((x7.length:Int) +(x8.length:Int))))))&&(decide ((0:Int) <(gt x14.x x11))))=true then(ck (rg x11 x14.x.length) (ck (fits (x15.length +([(⟨(gt x9 x11).from_,W ((gt x9 x11).to -(x7.length:Int)),gt x14.x x11⟩:zb)]).length) 24) ((z0h φ n16) x7 x8 x9 x10 (W (x11+1)) x12 x13 x14 ((x15++[(⟨(gt x9 x11).from_,W ((gt x9 x11).to -(x7.length:Int)),gt x14.x x11⟩:zb)]))))) else((z0h φ n16) x7 x8 x9 x10 (W (x11+1)) x12 x13 x14 x15)))) else(some ((⟨x15,x12,x13⟩:Plan),0,())))
def z4e (φ:Nat) (x1:Pool) (x2 :(List z8)) (x3 :(List zl)):Option (Plan×Int×Unit):=((z67 φ x1 x2 x3).bind λy4=>(if(y4.2.1 !=0)=true then(some ((⟨([]:List zb),0,([]:List Int)⟩:Plan),y4.2.1,())) else((z90 φ y4.1).bind λy5=>(if(y5.2.1 !=0)=true then(some ((⟨([]:List zb),0,([]:List Int)⟩:Plan),y5.2.1,())) else((zbl φ y4.1 y5.1).bind λy6=>(z0h φ φ x2 x3 y4.1.arcs (y4.1.arcs.length:Int) 0 y6.1 y5.1.price y5.1 ([]:List zb)))))))
def zad (φ:Nat):Fsp TV:=⟨[26,36,37],[.val 47,.val 0],kk3 (z4e φ)⟩
def zi8 (φ:Nat) (x1 :(List zj)):Option ((List zj)×Unit):=(ck (x1.isEmpty=false) (ck (fits (([]:List zj).length+x1.length) 192) (some ((([]:List zj)++x1),()))))
def zb8 (φ:Nat):Fsp TV:=⟨[54],[.row 90 53],λz=>zi8 φ z.1⟩
def z1x (φ:Nat) (k10 :(Int->Int->(zj->zj->Option Int)->Int->(List zj)->Option (List zj))):Nat->Int->Int->(zj->zj->Option Int)->Int->Int->(List zj)->Option (List zj)
 | 0,_,_,_,_,_,_=>none
 | n17+1,x11,x12,x13,x14,x15,x16=>(ck (((decide (x11<x15))=true)->rg x15 x16.length) (ck (((decide (x11<x15))=true)->rg (W (x15-1)) x16.length) ((z0s (0:Int) ((decide (x11<x15))=true) (x13 (gt x16 x15) (gt x16 (W (x15-1))))).bind λy18=>(if((decide (x11<x15))&&(decide (y18<0)))=true then(ck (rg (W (x15-1)) x16.length) (ck (rg x15 x16.length) (ck (rg x15 x16.length) (ck (rg (W (x15-1)) (((zq x16 x15 (gt x16 (W (x15-1))))).length)) ((z1x φ k10 n17) x11 x12 x13 x14 (W (x15-1)) ((zq ((zq x16 x15 (gt x16 (W (x15-1))))) (W (x15-1)) (gt x16 x15)))))))) else(k10 x11 x12 x13 (W (x14+1)) x16)))))
def z1w (φ:Nat):Nat->Int->Int->(zj->zj->Option Int)->Int->(List zj)->Option (List zj)
 | 0,_,_,_,_,_=>none
 | n10+1,x5,x6,x7,x8,x9=>(if(decide (x8<x6))=true then(z1x φ (z1w φ n10) φ x5 x6 x7 x8 x8 x9) else(some x9))
def z35 (φ:Nat) (x1 :(List zj)) (x2 x3:Int) (x4 :(zj->zj->Option Int)):Option (List zj):=(z1w φ φ x2 x3 x4 (W (x2+1)) x1)
def z2i (φ:Nat):Msp TV:=⟨90,53,[.val 0,.val 0,.cmp 53],λl z=>z35 φ l z.1 z.2.1 z.2.2.1⟩
def z30 (φ:Nat):Nat->Int->Int->Int->Int->(List zj)->Option (List zj)
 | 0,_,_,_,_,_=>none
 | n11+1,x6,x7,x8,x9,x10=>(if(decide (x9<x8))=true then(ck (rg (W (x7+x9)) x10.length) (ck (rg (W (x6+x9)) x10.length) (ck (rg (W (x6+x9)) x10.length) (ck (rg (W (x7+x9)) (((zq x10 (W (x6+x9)) (gt x10 (W (x7+x9))))).length)) ((z30 φ n11) x6 x7 x8 (W (x9+1)) ((zq ((zq x10 (W (x6+x9)) (gt x10 (W (x7+x9))))) (W (x7+x9)) (gt x10 (W (x6+x9)))))))))) else(some x10))
def z2q (φ:Nat) (x1 :(List zj)) (x2 x3 x4:Int) (x5 :(zj->zj->Option Int)):Option (List zj):=(z30 φ φ x2 x3 x4 0 x1)
def z3o (φ:Nat):Msp TV:=⟨90,53,[.val 0,.val 0,.val 0,.cmp 53],λl z=>z2q φ l z.1 z.2.1 z.2.2.1 z.2.2.2.1⟩
def z2e (φ:Nat):Nat->Int->(zj->zj->Option Int)->Int->Int->(List zj)->Option (List zj)
 | 0,_,_,_,_,_=>none
 | n11+1,x6,x7,x8,x9,x10=>(if(x8 !=x9)=true then(if(decide (x9<x8))=true then((z2q φ x10 (W (x6-x8)) x6 x9 x7).bind λy12=>((z2e φ n11) x6 x7 (W (x8-x9)) x9 y12)) else((z2q φ x10 (W (x6-x8)) ((W ((W (x6+x9))-x8))) x8 x7).bind λy13=>((z2e φ n11) x6 x7 x8 (W (x9-x8)) y13))) else((z2q φ x10 (W (x6-x8)) x6 x8 x7).bind λy14=>(some y14)))
def z8m (φ:Nat) (x1 :(List zj)) (x2 x3 x4:Int) (x5 :(zj->zj->Option Int)):Option (List zj):=(z2e φ φ x3 x5 (W (x3-x2)) (W (x4-x3)) x1)
def z4q (φ:Nat):Msp TV:=⟨90,53,[.val 0,.val 0,.val 0,.cmp 53],λl z=>z8m φ l z.1 z.2.1 z.2.2.1 z.2.2.2.1⟩
def z3b (φ:Nat):Nat->Int->Int->(List zj)->Option (List zj)
 | 0,_,_,_=>none
 | n16+1,x13,x14,x15=>(if(decide (x14 <(W (x13-1))))=true then(ck (rg (W (x14+1)) x15.length) (ck (rg x14 x15.length) (ck (rg x14 x15.length) (ck (rg (W (x14+1)) (((zq x15 x14 (gt x15 (W (x14+1))))).length)) ((z3b φ n16) x13 (W (x14+1)) ((zq ((zq x15 x14 (gt x15 (W (x14+1))))) (W (x14+1)) (gt x15 x14)))))))) else(some x15))
def z1j (φ:Nat):Nat->Int->(zj->zj->Option Int)->Int->Int->(List zj)->Option (List zj)
 | 0,_,_,_,_,_=>none
 | n11+1,x6,x7,x8,x9,x10=>(if(decide (x8<x9))=true then(if 0<=(1:Int) then(ck (rg ((W ((((U ((W (x8+x9)))):Int).fdiv (2 ^ (min (1:Int).toNat 64)))))) x10.length) (ck (rg x6 x10.length) ((x7 (((gt x10 ((W ((((U ((W (x8+x9)))):Int).fdiv (2 ^ (min (1:Int).toNat 64))))))))) (gt x10 x6)).bind λy12=>(if(decide (y12<0))=true then((z1j φ n11) x6 x7 ((W ((W ((((U ((W (x8+x9)))):Int).fdiv (2 ^ (min (1:Int).toNat 64)))))+1))) x9 x10) else((z1j φ n11) x6 x7 x8 ((W ((((U ((W (x8+x9)))):Int).fdiv (2 ^ (min (1:Int).toNat 64)))))) x10))))) else none) else(z3b φ φ x8 x6 x10))
def z3c (φ:Nat):Nat->Int->Int->(List zj)->Option (List zj)
 | 0,_,_,_=>none
 | n27+1,x24,x25,x26=>(if(decide (x24<x25))=true then(ck (rg (W (x25-1)) x26.length) (ck (rg x25 x26.length) (ck (rg x25 x26.length) (ck (rg (W (x25-1)) (((zq x26 x25 (gt x26 (W (x25-1))))).length)) ((z3c φ n27) x24 (W (x25-1)) ((zq ((zq x26 x25 (gt x26 (W (x25-1))))) (W (x25-1)) (gt x26 x25)))))))) else(some x26))
def z1l (φ:Nat):Nat->Int->(zj->zj->Option Int)->Int->Int->(List zj)->Option (List zj)
 | 0,_,_,_,_,_=>none
 | n22+1,x17,x18,x19,x20,x21=>(if(decide (x19<x20))=true then(if 0<=(1:Int) then(ck (rg x17 x21.length) (ck (rg ((W ((((U ((W (x19+x20)))):Int).fdiv (2 ^ (min (1:Int).toNat 64)))))) x21.length) ((x18 (gt x21 x17) (((gt x21 ((W ((((U ((W (x19+x20)))):Int).fdiv (2 ^ (min (1:Int).toNat 64)))))))))).bind λy23=>(if(!(decide (y23<0)))=true then((z1l φ n22) x17 x18 ((W ((W ((((U ((W (x19+x20)))):Int).fdiv (2 ^ (min (1:Int).toNat 64)))))+1))) x20 x21) else((z1l φ n22) x17 x18 x19 ((W ((((U ((W (x19+x20)))):Int).fdiv (2 ^ (min (1:Int).toNat 64)))))) x21))))) else none) else(z3c φ φ x19 x17 x21))
def z3d (φ:Nat) (k0 :((List zj)->Int->Int->Int->(zj->zj->Option Int)->Option (List zj))) (x58:Int) (x59 :(zj->zj->Option Int)) (x60 x61:Int) (x62 :(List zj)):Option (List zj):=(if((decide (x60<x61))&&(decide (x61<x58)))=true then((k0 x62 x60 x61 x58 x59).bind λy64=>(some y64)) else(some x62))
def z3a (φ:Nat) (k0 :((List zj)->Int->Int->Int->(zj->zj->Option Int)->Option (List zj))) (x50 x51:Int) (x52 :(zj->zj->Option Int)) (x53 x54 x55:Int) (x56 :(List zj)):Option (List zj):=(if((decide (x50<x54))&&(decide (x54<x53)))=true then((k0 x56 x50 x54 x53 x52).bind λy65=>(z3d φ k0 x51 x52 x53 x55 y65)) else(z3d φ k0 x51 x52 x53 x55 x56))
def z1m (φ:Nat) (k0 :((List zj)->Int->Int->Int->(zj->zj->Option Int)->Option (List zj))):Nat->Int->Int->Int->(zj->zj->Option Int)->Int->Int->Int->Int->Int->(List zj)->Option (List zj)
 | 0,_,_,_,_,_,_,_,_,_,_=>none
 | n48+1,x38,x39,x40,x41,x42,x43,x44,x45,x46,x47=>(if(decide (x44<x45))=true then(if 0<=(1:Int) then(ck (rg ((W (x46 -(W ((((U ((W (x44+x45)))):Int).fdiv (2 ^ (min (1:Int).toNat 64)))))))) x47.length) (ck (rg ((W ((((U ((W (x44+x45)))):Int).fdiv (2 ^ (min (1:Int).toNat 64)))))) x47.length) ((x41 (((gt x47 ((W (x46 -(W ((((U ((W (x44+x45)))):Int).fdiv (2 ^ (min (1:Int).toNat 64))))))))))) (((gt x47 ((W ((((U ((W (x44+x45)))):Int).fdiv (2 ^ (min (1:Int).toNat 64)))))))))).bind λy49=>(if(!(decide (y49<0)))=true then((z1m φ k0 n48) x38 x39 x40 x41 x42 x43 ((W ((W ((((U ((W (x44+x45)))):Int).fdiv (2 ^ (min (1:Int).toNat 64)))))+1))) x45 x46 x47) else((z1m φ k0 n48) x38 x39 x40 x41 x42 x43 x44 ((W ((((U ((W (x44+x45)))):Int).fdiv (2 ^ (min (1:Int).toNat 64)))))) x46 x47))))) else none) else(if((decide (x44<x39))&&(decide (x39 <(W (x43-x44)))))=true then((z8m φ x47 x44 x39 (W (x43-x44)) x41).bind λy66=>(z3a φ k0 x38 x40 x41 x42 x44 (W (x43-x44)) y66)) else(z3a φ k0 x38 x40 x41 x42 x44 (W (x43-x44)) x47)))
def z39 (φ:Nat) (k0 :((List zj)->Int->Int->Int->(zj->zj->Option Int)->Option (List zj))) (x28 x29 x30:Int) (x31 :(zj->zj->Option Int)) (x32 x33 x34 x35:Int) (x36 :(List zj)):Option (List zj):=(z1m φ k0 φ x28 x29 x30 x31 x32 x33 x34 x35 (W (x33-1)) x36)
def z02 (φ:Nat):Nat->(List zj)->Int->Int->Int->(zj->zj->Option Int)->Option (List zj)
 | 0,_,_,_,_,_=>none
 | d+1,x1,x2,x3,x4,x5=>(if(((W (x3-x2)):Int)==1)=true then(z1j φ φ x2 x5 x3 x4 x1) else(if(((W (x4-x3)):Int)==1)=true then(z1l φ φ x3 x5 x2 x3 x1) else(if 0<=(1:Int) then(if(decide (((W ((((U ((W (x2+x4)))):Int).fdiv (2 ^ (min (1:Int).toNat 64))))):Int)<x3))=true then(z39 φ (z02 φ d) x2 x3 x4 x5 ((W ((((U ((W (x2+x4)))):Int).fdiv (2 ^ (min (1:Int).toNat 64)))))) ((W ((W ((((U ((W (x2+x4)))):Int).fdiv (2 ^ (min (1:Int).toNat 64)))))+x3))) ((W ((W ((W ((((U ((W (x2+x4)))):Int).fdiv (2 ^ (min (1:Int).toNat 64)))))+x3))-x4))) ((W ((((U ((W (x2+x4)))):Int).fdiv (2 ^ (min (1:Int).toNat 64)))))) x1) else(z39 φ (z02 φ d) x2 x3 x4 x5 ((W ((((U ((W (x2+x4)))):Int).fdiv (2 ^ (min (1:Int).toNat 64)))))) ((W ((W ((((U ((W (x2+x4)))):Int).fdiv (2 ^ (min (1:Int).toNat 64)))))+x3))) x2 x3 x1)) else none)))
def z2h (φ d:Nat):Msp TV:=⟨90,53,[.val 0,.val 0,.val 0,.cmp 53],λl z=>z02 φ d l z.1 z.2.1 z.2.2.1 z.2.2.2.1⟩
def z49 (φ:Nat) (k17 :(Int->(zj->zj->Option Int)->Int->(List zj)->Option (List zj))):Nat->Int->(zj->zj->Option Int)->Int->Int->Int->(List zj)->Option (List zj)
 | 0,_,_,_,_,_,_=>none
 | n24+1,x18,x19,x20,x21,x22,x23=>(if(decide (x22<=x18))=true then((z02 φ φ x23 x21 (W (x21+x20)) x22 x19).bind λy25=>((z49 φ k17 n24) x18 x19 x20 x22 ((W (x22 +(W (2*x20))))) y25)) else(if(decide (((W (x21+x20)):Int)<x18))=true then((z02 φ φ x23 x21 (W (x21+x20)) x18 x19).bind λy26=>(k17 x18 x19 (W (x20*2)) y26)) else(k17 x18 x19 (W (x20*2)) x23)))
def z4b (φ:Nat):Nat->Int->(zj->zj->Option Int)->Int->(List zj)->Option (List zj)
 | 0,_,_,_,_=>none
 | n17+1,x13,x14,x15,x16=>(if(decide (x15<x13))=true then(z49 φ (z4b φ n17) φ x13 x14 x15 0 (W (2*x15)) x16) else(some x16))
def z4a (φ:Nat):Nat->Int->(zj->zj->Option Int)->Int->Int->Int->(List zj)->Option (List zj)
 | 0,_,_,_,_,_,_=>none
 | n10+1,x4,x5,x6,x7,x8,x9=>(if(decide (x8<=x4))=true then((z35 φ x9 x7 x8 x5).bind λy11=>((z4a φ n10) x4 x5 x6 x8 (W (x8+x6)) y11)) else((z35 φ x9 x7 x4 x5).bind λy12=>(z4b φ φ x4 x5 x6 y12)))
def z8n (φ:Nat) (x1 :(List zj)) (x2:Int) (x3 :(zj->zj->Option Int)):Option (List zj):=(z4a φ φ x2 x3 20 0 20 x1)
def z4u (φ:Nat):Msp TV:=⟨90,53,[.val 0,.cmp 53],λl z=>z8n φ l z.1 z.2.1⟩
def z82 (φ:Nat) (x1 :(List zj)) (x2 :(zj->zj->Option Int)):Option (List zj):=((z8n φ x1 (x1.length:Int) x2).bind λy3=>(some y3))
def z4g (φ:Nat):Msp TV:=⟨90,53,[.cmp 53],λl z=>z82 φ l z.1⟩
def zc3 (φ:Nat) (x1 x2:Int):Option (Int×Unit):=(if(x1 !=x1)=true then(if(x2 !=x2)=true then(some (0,())) else(some ((-1),()))) else(if(x2 !=x2)=true then(some (1,())) else(if(decide (x1<x2))=true then(some ((-1),())) else(if(decide (x2<x1))=true then(some (1,())) else(some (0,()))))))
def zct (φ:Nat):Fsp TV:=⟨[0,0],[.val 0],kk2 (zc3 φ)⟩
def zl8 (φ:Nat):Nat->Int->(List Int)->Int->Int->Option (Int×Unit)
 | 0,_,_,_,_=>none
 | n6+1,x2,x3,x4,x5=>(if(decide (x5<x4))=true then(ck (rg x5 x3.length) (if(((gt x3 x5):Int) !=x2)=true then(some ((gt x3 x5),())) else((zl8 φ n6) x2 x3 x4 (W (x5+1))))) else(some (x2,())))
def y5j (φ:Nat) (x1 :(List Int)):Option (Int×Unit):=(zl8 φ φ 0 x1 (x1.length:Int) 0)
def zpd (φ:Nat):Fsp TV:=⟨[22],[.val 0],λz=>y5j φ z.1⟩
def zep (φ:Nat) (x1 x2:zj):Option (Int×Unit):=((zc3 φ x1.item.from_ x2.item.from_).bind λy3=>((zc3 φ x1.ref.railway x2.ref.railway).bind λy4=>((zc3 φ x1.ref.no x2.ref.no).bind λy5=>((y5j φ ([y3.1,y4.1,y5.1])).bind λy6=>(some (y6.1,()))))))
def z8a (φ:Nat):Fsp TV:=⟨[53,53],[.val 0],kk2 (zep φ)⟩
def z4w (φ:Nat):Nat->Int->Int->Int->(List zl)->(List zj)->Option ((List zl)×Unit)
 | 0,_,_,_,_,_=>none
 | n10+1,x5,x6,x7,x8,x9=>(if(decide (x7<x6))=true then(ck (rg x7 x9.length) (if(((((gt x9 x7).item).kind:Int)==15)&&(decide (x5<=((gt x9 x7).item).to)))=true then(ck (fits (x8.length +([(⟨((gt x9 x7).item).number,((gt x9 x7).item).class_,((gt x9 x7).item).place,((gt x9 x7).item).from_,((gt x9 x7).item).to,((gt x9 x7).item).weight,((gt x9 x7).item).amount⟩:zl)]).length) 56) ((z4w φ n10) x5 x6 (W (x7+1)) ((x8++[(⟨((gt x9 x7).item).number,((gt x9 x7).item).class_,((gt x9 x7).item).place,((gt x9 x7).item).from_,((gt x9 x7).item).to,((gt x9 x7).item).weight,((gt x9 x7).item).amount⟩:zl)])) x9)) else((z4w φ n10) x5 x6 (W (x7+1)) x8 x9))) else(some (x8,())))
def zb5 (φ:Nat) (x1 :(List zj)) (x2:Int):Option ((List zl)×Unit):=((zi8 φ x1).bind λy3=>((z82 φ y3.1 (λa b=>(zep φ a b).bind λr=>(some r.1))).bind λy4=>(z4w φ φ x2 (y4.length:Int) 0 ([]:List zl) y4)))
def z8d (φ:Nat):Fsp TV:=⟨[54,0],[.val 37],kk2 (zb5 φ)⟩
def z3r (φ:Nat) (x37 x38 x39 x40 x41:Int) (x42 :(List Int)) (x43:Int) (x44 :(List Int)) (x45 x46 :(List zb)) (x47 :(List Int)) (x48 :(List Arc)) (x49 :(List Int)) (x50 :(List Arc)):Option (Bool×Unit):=(ck (((((((x37 !=0)||(x38 !=0))||(x39 !=0))||(x40 !=0))||(((x45.length:Int):Int) !=1))=false)->rg 0 x45.length) (if(((((((((x37 !=0)||(x38 !=0))||(x39 !=0))||(x40 !=0))||(((x45.length:Int):Int) !=1))||(!((((gt x45 0).supply:Int)==0)&&((((gt x45 0).order:Int)==0)&&((((gt x45 0).count:Int)==2)&&true)))))||(x41 !=1090))||(((x46.length:Int):Int) !=0))||(x43 !=120))=true then(some (false,())) else((zb5 φ ([(⟨(⟨0,0⟩:Ref),(⟨0,0⟩:Ref),0,(⟨15,(⟨0,0⟩:Ref),0,0,0,1,0,300,0,0,0,2,0,(⟨#[]⟩:ByteArray),([]:List Part)⟩:Item)⟩:zj)]) 300).bind λy52=>(ck (((((((((x47.length:Int):Int)==4)&&(((x48.length:Int):Int)==4))&&(((x49.length:Int):Int)==4))&&(((x50.length:Int):Int)==3))&&(((y52.1.length:Int):Int)==1))=true)->rg 0 y52.1.length) (ck ((((((((((x47.length:Int):Int)==4)&&(((x48.length:Int):Int)==4))&&(((x49.length:Int):Int)==4))&&(((x50.length:Int):Int)==3))&&(((y52.1.length:Int):Int)==1))&&(((gt y52.1 0).count:Int)==2))=true)->rg 0 y52.1.length) (if(((((((((x47.length:Int):Int)==4)&&(((x48.length:Int):Int)==4))&&(((x49.length:Int):Int)==4))&&(((x50.length:Int):Int)==3))&&(((y52.1.length:Int):Int)==1))&&(((gt y52.1 0).count:Int)==2))&&(((gt y52.1 0).type_:Int)==1))=true then((zb5 φ ([(⟨(⟨0,0⟩:Ref),(⟨0,0⟩:Ref),0,(⟨15,(⟨0,0⟩:Ref),0,0,0,1,0,300,0,0,0,2,0,(⟨#[]⟩:ByteArray),([]:List Part)⟩:Item)⟩:zj)]) 301).bind λy53=>(some ((((y53.1.length:Int):Int)==0),()))) else(some (false,()))))))))
def z4x (φ:Nat) (x100 x101 x102 x103:Int) (x104 :(List Int)) (x105:Int) (x106 x107 :(List Int)) (x108 :(List Arc)) (x109 x110 :(List zb)) (x111 :(List Int)) (x112 :(List Arc)):Option (Bool×Unit):=(if(decide ((2048:Int) <(x108.length:Int)))=true then(z3r φ x100 x101 x102 2 x103 x104 x105 x106 x109 x110 x111 x112 ([]:List Int) ([]:List Arc)) else(z3r φ x100 x101 x102 0 x103 x104 x105 x106 x109 x110 x111 x112 x107 x108))
def z6s (φ:Nat) (k134 :(Int->Int->Int->Int->Int->Int->Int->Pool->(List z8)->Int->(List Int)->Int->(List Int)->(List zl)->(List Int)->(List Arc)->(List zb)->(List zb)->(List Int)->(List Arc)->Option (Bool×Unit))):Nat->Int->Int->Int->Int->Int->Int->Int->Int->Int->Int->Pool->z8->(List z8)->(List zl)->Int->(List Int)->Int->(List Int)->(List Int)->(List Arc)->(List zb)->(List zb)->(List Int)->(List Arc)->Option (Bool×Unit)
 | 0,_,_,_,_,_,_,_,_,_,_,_,_,_,_,_,_,_,_,_,_,_,_,_,_=>none
 | n159+1,x135,x136,x137,x138,x139,x140,x141,x142,x143,x144,x145,x146,x147,x148,x149,x150,x151,x152,x153,x154,x155,x156,x157,x158=>(if(decide (x141<x140))=true then(ck (rg x141 x148.length) ((z1e φ x145 x146 (gt x148 x141)).bind λy160=>(if y160.2.1=true then(ck (fits (x154.length +([(⟨x137,W ((x147.length:Int)+x141),min2 x146.count ((gt x148 x141).count),y160.1⟩:Arc)]).length) 32) (if(!true)=true then(z4x φ x142 x143 x144 x149 x150 x151 x152 x153 ((x154++[(⟨x137,W ((x147.length:Int)+x141),min2 x146.count ((gt x148 x141).count),y160.1⟩:Arc)])) x155 x156 x157 x158) else((z6s φ k134 n159) x135 x136 x137 x138 x139 x140 (W (x141+1)) x142 x143 x144 x145 x146 x147 x148 x149 x150 x151 x152 x153 ((x154++[(⟨x137,W ((x147.length:Int)+x141),min2 x146.count ((gt x148 x141).count),y160.1⟩:Arc)])) x155 x156 x157 x158))) else((z6s φ k134 n159) x135 x136 x137 x138 x139 x140 (W (x141+1)) x142 x143 x144 x145 x146 x147 x148 x149 x150 x151 x152 x153 x154 x155 x156 x157 x158)))) else(k134 x135 x136 x138 (W (x139+1)) x142 x143 x144 x145 x147 x149 x150 x151 x152 x148 x153 x154 x155 x156 x157 x158))
def z9h (φ:Nat):Nat->Int->Int->Int->Int->Int->Int->Int->(List z8)->Int->(List Int)->Int->(List Int)->(List Int)->(List Arc)->(List zb)->(List zb)->(List Int)->(List Arc)->Option (Bool×Unit)
 | 0,_,_,_,_,_,_,_,_,_,_,_,_,_,_,_,_,_,_=>none
 | n199+1,x181,x182,x183,x184,x185,x186,x187,x188,x189,x190,x191,x192,x193,x194,x195,x196,x197,x198=>(if(decide (x184<x183))=true then(ck (rg x184 x188.length) (ck (fits (x194.length +([(⟨x184,W (x181+1),(gt x188 x184).count,0⟩:Arc)]).length) 32) (if(!true)=true then(z4x φ x185 x186 x187 x189 x190 x191 x192 x193 (x194++[(⟨x184,W (x181+1),(gt x188 x184).count,0⟩:Arc)]) x195 x196 x197 x198) else((z9h φ n199) x181 x182 x183 (W (x184+1)) x185 x186 x187 x188 x189 x190 x191 x192 x193 (x194++[(⟨x184,W (x181+1),(gt x188 x184).count,0⟩:Arc)]) x195 x196 x197 x198)))) else(ck (fits (x194.length +([(⟨x181,W (x181+1),x182,0⟩:Arc)]).length) 32) (z4x φ x185 x186 x187 x189 x190 x191 x192 x193 (x194++[(⟨x181,W (x181+1),x182,0⟩:Arc)]) x195 x196 x197 x198)))
def z9b (φ:Nat):Nat->Int->Int->Int->Int->Int->Int->Int->(List zl)->Int->(List Int)->Int->(List Int)->(List z8)->(List Int)->(List Arc)->(List zb)->(List zb)->(List Int)->(List Arc)->Option (Bool×Unit)
 | 0,_,_,_,_,_,_,_,_,_,_,_,_,_,_,_,_,_,_,_=>none
 | n180+1,x161,x162,x163,x164,x165,x166,x167,x168,x169,x170,x171,x172,x173,x174,x175,x176,x177,x178,x179=>(if(decide (x164<x163))=true then(ck (rg x164 x168.length) (ck (fits (x175.length +([(⟨x161,W ((x173.length:Int)+x164),(gt x168 x164).count,(gt x168 x164).weight⟩:Arc)]).length) 32) (if(!true)=true then(z4x φ x165 x166 x167 x169 x170 x171 x172 x174 ((x175++[(⟨x161,W ((x173.length:Int)+x164),(gt x168 x164).count,(gt x168 x164).weight⟩:Arc)])) x176 x177 x178 x179) else((z9b φ n180) x161 (W (x162 +(gt x168 x164).count)) x163 (W (x164+1)) x165 x166 x167 x168 x169 x170 x171 x172 x173 x174 ((x175++[(⟨x161,W ((x173.length:Int)+x164),(gt x168 x164).count,(gt x168 x164).weight⟩:Arc)])) x176 x177 x178 x179)))) else(z9h φ φ x161 x162 (x173.length:Int) 0 x165 x166 x167 x173 x169 x170 x171 x172 x174 x175 x176 x177 x178 x179))
def zac (φ:Nat):Nat->Int->Int->Int->Int->Int->Int->Int->Pool->(List z8)->Int->(List Int)->Int->(List Int)->(List zl)->(List Int)->(List Arc)->(List zb)->(List zb)->(List Int)->(List Arc)->Option (Bool×Unit)
 | 0,_,_,_,_,_,_,_,_,_,_,_,_,_,_,_,_,_,_,_,_=>none
 | n134+1,x114,x115,x116,x117,x118,x119,x120,x121,x122,x123,x124,x125,x126,x127,x128,x129,x130,x131,x132,x133=>(if(decide (x117<x116))=true then(ck (rg x117 x122.length) (z6s φ (zac φ n134) φ x114 x115 x117 x116 x117 (x127.length:Int) 0 x118 x119 x120 x121 (gt x122 x117) x122 x127 x123 x124 x125 x126 x128 x129 x130 x131 x132 x133)) else(z9b φ φ x114 x115 (x127.length:Int) 0 x118 x119 x120 x127 x123 x124 x125 x126 x122 x128 x129 x130 x131 x132 x133))
def zbe (φ:Nat):Nat->Int->Int->Int->Int->Int->Int->Int->(List z8)->(List zl)->Pool->Int->(List Int)->Int->(List Int)->(List Int)->(List Arc)->(List zb)->(List zb)->(List Int)->(List Arc)->Option (Bool×Unit)
 | 0,_,_,_,_,_,_,_,_,_,_,_,_,_,_,_,_,_,_,_,_=>none
 | n98+1,x78,x79,x80,x81,x82,x83,x84,x85,x86,x87,x88,x89,x90,x91,x92,x93,x94,x95,x96,x97=>(if(decide (x81<x80))=true then(ck (rg x81 x86.length) ((z2o φ x87 (gt x86 x81)).bind λy99=>(if(!y99.1)=true then(z3r φ x82 x83 x84 1 x88 x89 x90 x91 x94 x95 x96 x97 ([]:List Int) ([]:List Arc)) else(ck (fits (x92.length +([(W (0 -(gt x86 x81).count))]).length) 8) ((zbe φ n98) x78 (W (x79 +(gt x86 x81).count)) x80 (W (x81+1)) x82 x83 x84 x85 x86 x87 x88 x89 x90 x91 ((x92++[(W (0 -(gt x86 x81).count))])) x93 x94 x95 x96 x97))))) else(ck (fits (x92.length +([x79,(W (0-x78))]).length) 8) (if(decide ((256:Int) <((x92++[x79,(W (0-x78))]).length:Int)))=true then(z3r φ x82 x83 x84 2 x88 x89 x90 x91 x94 x95 x96 x97 ([]:List Int) ([]:List Arc)) else(zac φ φ (W ((x85.length:Int) +(x86.length:Int))) 0 (x85.length:Int) 0 x82 x83 x84 x87 x85 x88 x89 x90 x91 x86 (x92++[x79,(W (0-x78))]) x93 x94 x95 x96 x97))))
def zbc (φ:Nat):Nat->Int->Int->Int->Int->Int->Int->Int->(List z8)->(List zl)->Pool->Int->(List Int)->Int->(List Int)->(List Int)->(List Arc)->(List zb)->(List zb)->(List Int)->(List Arc)->Option (Bool×Unit)
 | 0,_,_,_,_,_,_,_,_,_,_,_,_,_,_,_,_,_,_,_,_=>none
 | n76+1,x56,x57,x58,x59,x60,x61,x62,x63,x64,x65,x66,x67,x68,x69,x70,x71,x72,x73,x74,x75=>(if(decide (x59<x58))=true then(ck (rg x59 x63.length) ((z22 φ x65 (gt x63 x59)).bind λy77=>(if(!y77.1)=true then(z3r φ x60 x61 x62 1 x66 x67 x68 x69 x72 x73 x74 x75 ([]:List Int) ([]:List Arc)) else(ck (fits (x70.length +([(gt x63 x59).count]).length) 8) ((zbc φ n76) (W (x56 +(gt x63 x59).count)) x57 x58 (W (x59+1)) x60 x61 x62 x63 x64 x65 x66 x67 x68 x69 (x70++[(gt x63 x59).count]) x71 x72 x73 x74 x75))))) else(zbe φ φ x56 x57 (x64.length:Int) 0 x60 x61 x62 x63 x64 x65 x66 x67 x68 x69 x70 x71 x72 x73 x74 x75))
def z3s (φ:Nat) (x23 x24 x25:Int) (x26 :(List z8)) (x27 :(List zl)) (x28:Int) (x29 :(List Int)) (x30:Int) (x31 :(List Int)) (x32 x33 :(List zb)) (x34 :(List Int)) (x35 :(List Arc)):Option (Bool×Unit):=(ck (rg 0 x27.length) ((z91 φ).bind λy54=>((z1a φ y54.1).bind λy55=>(if(y55.1 !=0)=true then(z3r φ x23 x24 x25 y55.1 x28 x29 x30 x31 x32 x33 x34 x35 ([]:List Int) ([]:List Arc)) else(zbc φ φ 0 0 (x26.length:Int) 0 x23 x24 x25 x26 (zq x27 0 (⟨(gt x27 0).type_,3,(gt x27 0).place,(gt x27 0).from_,(gt x27 0).to,(gt x27 0).count,(gt x27 0).weight⟩:zl)) y54.1 x28 x29 x30 x31 ([]:List Int) ([]:List Arc) x32 x33 x34 x35)))))
def z50 (φ:Nat) (x240 x241:Int) (x242 :(List z8)) (x243 :(List zl)) (x244:Int) (x245 :(List Int)) (x246:Int) (x247 x248 :(List Int)) (x249 :(List Arc)) (x250 x251 :(List zb)):Option (Bool×Unit):=(if(decide ((2048:Int) <(x249.length:Int)))=true then(z3s φ x240 x241 2 x242 x243 x244 x245 x246 x247 x250 x251 ([]:List Int) ([]:List Arc)) else(z3s φ x240 x241 0 x242 x243 x244 x245 x246 x247 x250 x251 x248 x249))
def z6i (φ:Nat) (k270 :(Int->Int->Int->Int->Int->Int->Pool->(List z8)->(List zl)->Int->(List Int)->Int->(List Int)->(List Int)->(List Arc)->(List zb)->(List zb)->Option (Bool×Unit))):Nat->Int->Int->Int->Int->Int->Int->Int->Int->Int->Pool->z8->(List z8)->(List zl)->Int->(List Int)->Int->(List Int)->(List Int)->(List Arc)->(List zb)->(List zb)->Option (Bool×Unit)
 | 0,_,_,_,_,_,_,_,_,_,_,_,_,_,_,_,_,_,_,_,_,_=>none
 | n292+1,x271,x272,x273,x274,x275,x276,x277,x278,x279,x280,x281,x282,x283,x284,x285,x286,x287,x288,x289,x290,x291=>(if(decide (x277<x276))=true then(ck (rg x277 x283.length) ((z1e φ x280 x281 (gt x283 x277)).bind λy293=>(if y293.2.1=true then(ck (fits (x289.length +([(⟨x273,W ((x282.length:Int)+x277),min2 x281.count ((gt x283 x277).count),y293.1⟩:Arc)]).length) 32) (if(!true)=true then(z50 φ x278 x279 x282 x283 x284 x285 x286 x287 x288 ((x289++[(⟨x273,W ((x282.length:Int)+x277),min2 x281.count ((gt x283 x277).count),y293.1⟩:Arc)])) x290 x291) else((z6i φ k270 n292) x271 x272 x273 x274 x275 x276 (W (x277+1)) x278 x279 x280 x281 x282 x283 x284 x285 x286 x287 x288 ((x289++[(⟨x273,W ((x282.length:Int)+x277),min2 x281.count ((gt x283 x277).count),y293.1⟩:Arc)])) x290 x291))) else((z6i φ k270 n292) x271 x272 x273 x274 x275 x276 (W (x277+1)) x278 x279 x280 x281 x282 x283 x284 x285 x286 x287 x288 x289 x290 x291)))) else(k270 x271 x272 x274 (W (x275+1)) x278 x279 x280 x282 x283 x284 x285 x286 x287 x288 x289 x290 x291))
def zaa (φ:Nat):Nat->Int->Int->Int->Int->Int->Int->(List z8)->(List zl)->Int->(List Int)->Int->(List Int)->(List Int)->(List Arc)->(List zb)->(List zb)->Option (Bool×Unit)
 | 0,_,_,_,_,_,_,_,_,_,_,_,_,_,_,_,_=>none
 | n327+1,x311,x312,x313,x314,x315,x316,x317,x318,x319,x320,x321,x322,x323,x324,x325,x326=>(if(decide (x314<x313))=true then(ck (rg x314 x317.length) (ck (fits (x324.length +([(⟨x314,W (x311+1),(gt x317 x314).count,0⟩:Arc)]).length) 32) (if(!true)=true then(z50 φ x315 x316 x317 x318 x319 x320 x321 x322 x323 (x324++[(⟨x314,W (x311+1),(gt x317 x314).count,0⟩:Arc)]) x325 x326) else((zaa φ n327) x311 x312 x313 (W (x314+1)) x315 x316 x317 x318 x319 x320 x321 x322 x323 (x324++[(⟨x314,W (x311+1),(gt x317 x314).count,0⟩:Arc)]) x325 x326)))) else(ck (fits (x324.length +([(⟨x311,W (x311+1),x312,0⟩:Arc)]).length) 32) (z50 φ x315 x316 x317 x318 x319 x320 x321 x322 x323 (x324++[(⟨x311,W (x311+1),x312,0⟩:Arc)]) x325 x326)))
def z9e (φ:Nat):Nat->Int->Int->Int->Int->Int->Int->(List zl)->(List z8)->Int->(List Int)->Int->(List Int)->(List Int)->(List Arc)->(List zb)->(List zb)->Option (Bool×Unit)
 | 0,_,_,_,_,_,_,_,_,_,_,_,_,_,_,_,_=>none
 | n310+1,x294,x295,x296,x297,x298,x299,x300,x301,x302,x303,x304,x305,x306,x307,x308,x309=>(if(decide (x297<x296))=true then(ck (rg x297 x300.length) (ck (fits (x307.length +([(⟨x294,W ((x301.length:Int)+x297),(gt x300 x297).count,(gt x300 x297).weight⟩:Arc)]).length) 32) (if(!true)=true then(z50 φ x298 x299 x301 x300 x302 x303 x304 x305 x306 ((x307++[(⟨x294,W ((x301.length:Int)+x297),(gt x300 x297).count,(gt x300 x297).weight⟩:Arc)])) x308 x309) else((z9e φ n310) x294 (W (x295 +(gt x300 x297).count)) x296 (W (x297+1)) x298 x299 x300 x301 x302 x303 x304 x305 x306 ((x307++[(⟨x294,W ((x301.length:Int)+x297),(gt x300 x297).count,(gt x300 x297).weight⟩:Arc)])) x308 x309)))) else(zaa φ φ x294 x295 (x301.length:Int) 0 x298 x299 x301 x300 x302 x303 x304 x305 x306 x307 x308 x309))
def za6 (φ:Nat):Nat->Int->Int->Int->Int->Int->Int->Pool->(List z8)->(List zl)->Int->(List Int)->Int->(List Int)->(List Int)->(List Arc)->(List zb)->(List zb)->Option (Bool×Unit)
 | 0,_,_,_,_,_,_,_,_,_,_,_,_,_,_,_,_,_=>none
 | n270+1,x253,x254,x255,x256,x257,x258,x259,x260,x261,x262,x263,x264,x265,x266,x267,x268,x269=>(if(decide (x256<x255))=true then(ck (rg x256 x260.length) (z6i φ (za6 φ n270) φ x253 x254 x256 x255 x256 (x261.length:Int) 0 x257 x258 x259 (gt x260 x256) x260 x261 x262 x263 x264 x265 x266 x267 x268 x269)) else(z9e φ φ x253 x254 (x261.length:Int) 0 x257 x258 x261 x260 x262 x263 x264 x265 x266 x267 x268 x269))
def z9g (φ:Nat):Nat->Int->Int->Int->Int->Int->Int->(List z8)->(List zl)->Pool->Int->(List Int)->Int->(List Int)->(List Int)->(List Arc)->(List zb)->(List zb)->Option (Bool×Unit)
 | 0,_,_,_,_,_,_,_,_,_,_,_,_,_,_,_,_,_=>none
 | n238+1,x221,x222,x223,x224,x225,x226,x227,x228,x229,x230,x231,x232,x233,x234,x235,x236,x237=>(if(decide (x224<x223))=true then(ck (rg x224 x228.length) ((z2o φ x229 (gt x228 x224)).bind λy239=>(if(!y239.1)=true then(z3s φ x225 x226 1 x227 x228 x230 x231 x232 x233 x236 x237 ([]:List Int) ([]:List Arc)) else(ck (fits (x234.length +([(W (0 -(gt x228 x224).count))]).length) 8) ((z9g φ n238) x221 (W (x222 +(gt x228 x224).count)) x223 (W (x224+1)) x225 x226 x227 x228 x229 x230 x231 x232 x233 ((x234++[(W (0 -(gt x228 x224).count))])) x235 x236 x237))))) else(ck (fits (x234.length +([x222,(W (0-x221))]).length) 8) (if(decide ((256:Int) <((x234++[x222,(W (0-x221))]).length:Int)))=true then(z3s φ x225 x226 2 x227 x228 x230 x231 x232 x233 x236 x237 ([]:List Int) ([]:List Arc)) else(za6 φ φ (W ((x227.length:Int) +(x228.length:Int))) 0 (x227.length:Int) 0 x225 x226 x229 x227 x228 x230 x231 x232 x233 (x234++[x222,(W (0-x221))]) x235 x236 x237))))
def z92 (φ:Nat):Nat->Int->Int->Int->Int->Int->Int->(List z8)->(List zl)->Pool->Int->(List Int)->Int->(List Int)->(List Int)->(List Arc)->(List zb)->(List zb)->Option (Bool×Unit)
 | 0,_,_,_,_,_,_,_,_,_,_,_,_,_,_,_,_,_=>none
 | n219+1,x202,x203,x204,x205,x206,x207,x208,x209,x210,x211,x212,x213,x214,x215,x216,x217,x218=>(if(decide (x205<x204))=true then(ck (rg x205 x208.length) ((z22 φ x210 (gt x208 x205)).bind λy220=>(if(!y220.1)=true then(z3s φ x206 x207 1 x208 x209 x211 x212 x213 x214 x217 x218 ([]:List Int) ([]:List Arc)) else(ck (fits (x215.length +([(gt x208 x205).count]).length) 8) ((z92 φ n219) (W (x202 +(gt x208 x205).count)) x203 x204 (W (x205+1)) x206 x207 x208 x209 x210 x211 x212 x213 x214 (x215++[(gt x208 x205).count]) x216 x217 x218))))) else(z9g φ φ x202 x203 (x209.length:Int) 0 x206 x207 x208 x209 x210 x211 x212 x213 x214 x215 x216 x217 x218))
def z7p (φ:Nat) (x12 x13:Int) (x14 :(List z8)) (x15 :(List zl)) (x16:Int) (x17 :(List Int)) (x18:Int) (x19 :(List Int)) (x20 x21 :(List zb)):Option (Bool×Unit):=((z91 φ).bind λy200=>((z1a φ y200.1).bind λy201=>(if(y201.1 !=0)=true then(z3s φ x12 x13 y201.1 x14 x15 x16 x17 x18 x19 x20 x21 ([]:List Int) ([]:List Arc)) else(z92 φ φ 0 0 (x14.length:Int) 0 x12 x13 x14 x15 y200.1 x16 x17 x18 x19 ([]:List Int) ([]:List Arc) x20 x21))))
def z6q (φ:Nat):Nat->(List Arc)->Int->Int->Int->(List z8)->(List zl)->Int->(List Int)->Flow->Int->(List Int)->(List zb)->(List zb)->Option (Bool×Unit)
 | 0,_,_,_,_,_,_,_,_,_,_,_,_,_=>none
 | n357+1,x344,x345,x346,x347,x348,x349,x350,x351,x352,x353,x354,x355,x356=>(if(decide (x346<x345))=true then(ck (rg x346 x344.length) (ck ((((decide (((gt x344 x346).from_:Int) <(x348.length:Int)))&&(decide (((gt x344 x346).to:Int) <(W ((x348.length:Int) +(x349.length:Int))))))=true)->rg x346 x352.x.length) (if(((decide (((gt x344 x346).from_:Int) <(x348.length:Int)))&&(decide (((gt x344 x346).to:Int) <(W ((x348.length:Int) +(x349.length:Int))))))&&(decide ((0:Int) <(gt x352.x x346))))=true then(ck (rg x346 x352.x.length) (ck (fits (x355.length +([(⟨(gt x344 x346).from_,W ((gt x344 x346).to -(x348.length:Int)),gt x352.x x346⟩:zb)]).length) 24) ((z6q φ n357) x344 x345 (W (x346+1)) x347 x348 x349 x350 x351 x352 x353 x354 ((x355++[(⟨(gt x344 x346).from_,W ((gt x344 x346).to -(x348.length:Int)),gt x352.x x346⟩:zb)])) x356))) else((z6q φ n357) x344 x345 (W (x346+1)) x347 x348 x349 x350 x351 x352 x353 x354 x355 x356)))) else(z7p φ x347 0 x348 x349 x353 x354 x350 x351 x356 x355))
def z34 (φ:Nat) (x329 x330:Int) (x331 :(List z8)) (x332 :(List zl)) (x333 x334:Int) (x335 :(List Int)) (x336 :(List zb)) (x337 x338 :(List Int)) (x339 :(List Arc)) (x340 :(List zb)):Option (Bool×Unit):=(if(x329 !=0)=true then(z7p φ x330 x329 x331 x332 x334 x335 0 ([]:List Int) x340 ([]:List zb)) else((z90 φ (⟨x338,x339⟩:zi)).bind λy342=>(if(y342.2.1 !=0)=true then(z7p φ x330 y342.2.1 x331 x332 x334 x335 0 ([]:List Int) x340 ([]:List zb)) else((zbl φ (⟨x338,x339⟩:zi) y342.1).bind λy343=>(z6q φ φ x339 (x339.length:Int) 0 x330 x331 x332 y343.1 y342.1.price y342.1 x334 x335 x336 x340)))))
def z57 (φ:Nat) (x395:Int) (x396 :(List z8)) (x397 :(List zl)) (x398 x399:Int) (x400 x401 :(List Int)) (x402 :(List Arc)) (x403 :(List zb)) (x404 :(List Int)) (x405 :(List zb)):Option (Bool×Unit):=(if(decide ((2048:Int) <(x402.length:Int)))=true then(z34 φ 2 x395 x396 x397 x398 x399 x400 x403 x404 ([]:List Int) ([]:List Arc) x405) else(z34 φ 0 x395 x396 x397 x398 x399 x400 x403 x404 x401 x402 x405))
def z6r (φ:Nat) (k423 :(Int->Int->Int->Int->Int->Pool->(List z8)->(List zl)->Int->Int->(List Int)->(List Int)->(List Arc)->(List zb)->(List Int)->(List zb)->Option (Bool×Unit))):Nat->Int->Int->Int->Int->Int->Int->Int->Int->Pool->z8->(List z8)->(List zl)->Int->Int->(List Int)->(List Int)->(List Arc)->(List zb)->(List Int)->(List zb)->Option (Bool×Unit)
 | 0,_,_,_,_,_,_,_,_,_,_,_,_,_,_,_,_,_,_,_,_=>none
 | n444+1,x424,x425,x426,x427,x428,x429,x430,x431,x432,x433,x434,x435,x436,x437,x438,x439,x440,x441,x442,x443=>(if(decide (x430<x429))=true then(ck (rg x430 x435.length) ((z1e φ x432 x433 (gt x435 x430)).bind λy445=>(if y445.2.1=true then(ck (fits (x440.length +([(⟨x426,W ((x434.length:Int)+x430),min2 x433.count ((gt x435 x430).count),y445.1⟩:Arc)]).length) 32) (if(!true)=true then(z57 φ x431 x434 x435 x436 x437 x438 x439 ((x440++[(⟨x426,W ((x434.length:Int)+x430),min2 x433.count ((gt x435 x430).count),y445.1⟩:Arc)])) x441 x442 x443) else((z6r φ k423 n444) x424 x425 x426 x427 x428 x429 (W (x430+1)) x431 x432 x433 x434 x435 x436 x437 x438 x439 ((x440++[(⟨x426,W ((x434.length:Int)+x430),min2 x433.count ((gt x435 x430).count),y445.1⟩:Arc)])) x441 x442 x443))) else((z6r φ k423 n444) x424 x425 x426 x427 x428 x429 (W (x430+1)) x431 x432 x433 x434 x435 x436 x437 x438 x439 x440 x441 x442 x443)))) else(k423 x424 x425 x427 (W (x428+1)) x431 x432 x434 x435 x436 x437 x438 x439 x440 x441 x442 x443))
def zab (φ:Nat):Nat->Int->Int->Int->Int->Int->(List z8)->(List zl)->Int->Int->(List Int)->(List Int)->(List Arc)->(List zb)->(List Int)->(List zb)->Option (Bool×Unit)
 | 0,_,_,_,_,_,_,_,_,_,_,_,_,_,_,_=>none
 | n477+1,x462,x463,x464,x465,x466,x467,x468,x469,x470,x471,x472,x473,x474,x475,x476=>(if(decide (x465<x464))=true then(ck (rg x465 x467.length) (ck (fits (x473.length +([(⟨x465,W (x462+1),(gt x467 x465).count,0⟩:Arc)]).length) 32) (if(!true)=true then(z57 φ x466 x467 x468 x469 x470 x471 x472 (x473++[(⟨x465,W (x462+1),(gt x467 x465).count,0⟩:Arc)]) x474 x475 x476) else((zab φ n477) x462 x463 x464 (W (x465+1)) x466 x467 x468 x469 x470 x471 x472 (x473++[(⟨x465,W (x462+1),(gt x467 x465).count,0⟩:Arc)]) x474 x475 x476)))) else(ck (fits (x473.length +([(⟨x462,W (x462+1),x463,0⟩:Arc)]).length) 32) (z57 φ x466 x467 x468 x469 x470 x471 x472 (x473++[(⟨x462,W (x462+1),x463,0⟩:Arc)]) x474 x475 x476)))
def za7 (φ:Nat):Nat->Int->Int->Int->Int->Int->(List zl)->(List z8)->Int->Int->(List Int)->(List Int)->(List Arc)->(List zb)->(List Int)->(List zb)->Option (Bool×Unit)
 | 0,_,_,_,_,_,_,_,_,_,_,_,_,_,_,_=>none
 | n461+1,x446,x447,x448,x449,x450,x451,x452,x453,x454,x455,x456,x457,x458,x459,x460=>(if(decide (x449<x448))=true then(ck (rg x449 x451.length) (ck (fits (x457.length +([(⟨x446,W ((x452.length:Int)+x449),(gt x451 x449).count,(gt x451 x449).weight⟩:Arc)]).length) 32) (if(!true)=true then(z57 φ x450 x452 x451 x453 x454 x455 x456 ((x457++[(⟨x446,W ((x452.length:Int)+x449),(gt x451 x449).count,(gt x451 x449).weight⟩:Arc)])) x458 x459 x460) else((za7 φ n461) x446 (W (x447 +(gt x451 x449).count)) x448 (W (x449+1)) x450 x451 x452 x453 x454 x455 x456 ((x457++[(⟨x446,W ((x452.length:Int)+x449),(gt x451 x449).count,(gt x451 x449).weight⟩:Arc)])) x458 x459 x460)))) else(zab φ φ x446 x447 (x452.length:Int) 0 x450 x452 x451 x453 x454 x455 x456 x457 x458 x459 x460))
def z9m (φ:Nat):Nat->Int->Int->Int->Int->Int->Pool->(List z8)->(List zl)->Int->Int->(List Int)->(List Int)->(List Arc)->(List zb)->(List Int)->(List zb)->Option (Bool×Unit)
 | 0,_,_,_,_,_,_,_,_,_,_,_,_,_,_,_,_=>none
 | n423+1,x407,x408,x409,x410,x411,x412,x413,x414,x415,x416,x417,x418,x419,x420,x421,x422=>(if(decide (x410<x409))=true then(ck (rg x410 x413.length) (z6r φ (z9m φ n423) φ x407 x408 x410 x409 x410 (x414.length:Int) 0 x411 x412 (gt x413 x410) x413 x414 x415 x416 x417 x418 x419 x420 x421 x422)) else(za7 φ φ x407 x408 (x414.length:Int) 0 x411 x414 x413 x415 x416 x417 x418 x419 x420 x421 x422))
def za9 (φ:Nat):Nat->Int->Int->Int->Int->Int->(List z8)->(List zl)->Pool->Int->Int->(List Int)->(List Int)->(List Arc)->(List zb)->(List Int)->(List zb)->Option (Bool×Unit)
 | 0,_,_,_,_,_,_,_,_,_,_,_,_,_,_,_,_=>none
 | n393+1,x377,x378,x379,x380,x381,x382,x383,x384,x385,x386,x387,x388,x389,x390,x391,x392=>(if(decide (x380<x379))=true then(ck (rg x380 x383.length) ((z2o φ x384 (gt x383 x380)).bind λy394=>(if(!y394.1)=true then(z34 φ 1 x381 x382 x383 x385 x386 x387 x390 x391 ([]:List Int) ([]:List Arc) x392) else(ck (fits (x388.length +([(W (0 -(gt x383 x380).count))]).length) 8) ((za9 φ n393) x377 (W (x378 +(gt x383 x380).count)) x379 (W (x380+1)) x381 x382 x383 x384 x385 x386 x387 ((x388++[(W (0 -(gt x383 x380).count))])) x389 x390 x391 x392))))) else(ck (fits (x388.length +([x378,(W (0-x377))]).length) 8) (if(decide ((256:Int) <((x388++[x378,(W (0-x377))]).length:Int)))=true then(z34 φ 2 x381 x382 x383 x385 x386 x387 x390 x391 ([]:List Int) ([]:List Arc) x392) else(z9m φ φ (W ((x382.length:Int) +(x383.length:Int))) 0 (x382.length:Int) 0 x381 x384 x382 x383 x385 x386 x387 (x388++[x378,(W (0-x377))]) x389 x390 x391 x392))))
def z93 (φ:Nat):Nat->Int->Int->Int->Int->Int->(List z8)->(List zl)->Pool->Int->Int->(List Int)->(List Int)->(List Arc)->(List zb)->(List Int)->(List zb)->Option (Bool×Unit)
 | 0,_,_,_,_,_,_,_,_,_,_,_,_,_,_,_,_=>none
 | n375+1,x359,x360,x361,x362,x363,x364,x365,x366,x367,x368,x369,x370,x371,x372,x373,x374=>(if(decide (x362<x361))=true then(ck (rg x362 x364.length) ((z22 φ x366 (gt x364 x362)).bind λy376=>(if(!y376.1)=true then(z34 φ 1 x363 x364 x365 x367 x368 x369 x372 x373 ([]:List Int) ([]:List Arc) x374) else(ck (fits (x370.length +([(gt x364 x362).count]).length) 8) ((z93 φ n375) (W (x359 +(gt x364 x362).count)) x360 x361 (W (x362+1)) x363 x364 x365 x366 x367 x368 x369 (x370++[(gt x364 x362).count]) x371 x372 x373 x374))))) else(za9 φ φ x359 x360 (x365.length:Int) 0 x363 x364 x365 x366 x367 x368 x369 x370 x371 x372 x373 x374))
def z7w (φ:Nat) (x5:Int) (x6 :(List z8)) (x7 :(List zl)) (x8:Int) (x9 :(List Int)) (x10 :(List zb)):Option (Bool×Unit):=(ck (rg 0 x7.length) ((z91 φ).bind λy328=>((z1a φ y328.1).bind λy358=>(if(y358.1 !=0)=true then(z34 φ y358.1 x5 x6 (zq x7 0 (⟨(gt x7 0).type_,(gt x7 0).class_,(gt x7 0).place,(gt x7 0).from_,(gt x7 0).to,(gt x7 0).count,40⟩:zl)) 0 x8 x9 ([]:List zb) ([]:List Int) ([]:List Int) ([]:List Arc) x10) else(z93 φ φ 0 0 (x6.length:Int) 0 x5 x6 (zq x7 0 (⟨(gt x7 0).type_,(gt x7 0).class_,(gt x7 0).place,(gt x7 0).from_,(gt x7 0).to,(gt x7 0).count,40⟩:zl)) y328.1 0 x8 x9 ([]:List Int) ([]:List Arc) ([]:List zb) ([]:List Int) x10)))))
def z6w (φ:Nat):Nat->(List Arc)->Int->Int->(List z8)->(List zl)->Int->(List Int)->Flow->(List zb)->Option (Bool×Unit)
 | 0,_,_,_,_,_,_,_,_,_=>none
 | n499+1,x490,x491,x492,x493,x494,x495,x496,x497,x498=>(if(decide (x492<x491))=true then(ck (rg x492 x490.length) (ck ((((decide (((gt x490 x492).from_:Int) <(x493.length:Int)))&&(decide (((gt x490 x492).to:Int) <(W ((x493.length:Int) +(x494.length:Int))))))=true)->rg x492 x497.x.length) (if(((decide (((gt x490 x492).from_:Int) <(x493.length:Int)))&&(decide (((gt x490 x492).to:Int) <(W ((x493.length:Int) +(x494.length:Int))))))&&(decide ((0:Int) <(gt x497.x x492))))=true then(ck (rg x492 x497.x.length) (ck (fits (x498.length +([(⟨(gt x490 x492).from_,W ((gt x490 x492).to -(x493.length:Int)),gt x497.x x492⟩:zb)]).length) 24) ((z6w φ n499) x490 x491 (W (x492+1)) x493 x494 x495 x496 x497 ((x498++[(⟨(gt x490 x492).from_,W ((gt x490 x492).to -(x493.length:Int)),gt x497.x x492⟩:zb)]))))) else((z6w φ n499) x490 x491 (W (x492+1)) x493 x494 x495 x496 x497 x498)))) else(z7w φ 0 x493 x494 x495 x496 x498))
def z31 (φ:Nat) (x479:Int) (x480 :(List z8)) (x481 :(List zl)) (x482:Int) (x483 :(List zb)) (x484 x485 :(List Int)) (x486 :(List Arc)):Option (Bool×Unit):=(if(x479 !=0)=true then(z7w φ x479 x480 x481 0 ([]:List Int) ([]:List zb)) else((z90 φ (⟨x485,x486⟩:zi)).bind λy488=>(if(y488.2.1 !=0)=true then(z7w φ y488.2.1 x480 x481 0 ([]:List Int) ([]:List zb)) else((zbl φ (⟨x485,x486⟩:zi) y488.1).bind λy489=>(z6w φ φ x486 (x486.length:Int) 0 x480 x481 y489.1 y488.1.price y488.1 x483)))))
def z59 (φ:Nat) (x529 :(List z8)) (x530 :(List zl)) (x531:Int) (x532 :(List Int)) (x533 :(List Arc)) (x534 :(List zb)) (x535 :(List Int)):Option (Bool×Unit):=(if(decide ((2048:Int) <(x533.length:Int)))=true then(z31 φ 2 x529 x530 x531 x534 x535 ([]:List Int) ([]:List Arc)) else(z31 φ 0 x529 x530 x531 x534 x535 x532 x533))
def z6z (φ:Nat) (k549 :(Int->Int->Int->Int->Pool->(List z8)->(List zl)->Int->(List Int)->(List Arc)->(List zb)->(List Int)->Option (Bool×Unit))):Nat->Int->Int->Int->Int->Int->Int->Int->Pool->z8->(List z8)->(List zl)->Int->(List Int)->(List Arc)->(List zb)->(List Int)->Option (Bool×Unit)
 | 0,_,_,_,_,_,_,_,_,_,_,_,_,_,_,_,_=>none
 | n566+1,x550,x551,x552,x553,x554,x555,x556,x557,x558,x559,x560,x561,x562,x563,x564,x565=>(if(decide (x556<x555))=true then(ck (rg x556 x560.length) ((z1e φ x557 x558 (gt x560 x556)).bind λy567=>(if y567.2.1=true then(ck (fits (x563.length +([(⟨x552,W ((x559.length:Int)+x556),min2 x558.count ((gt x560 x556).count),y567.1⟩:Arc)]).length) 32) (if(!true)=true then(z59 φ x559 x560 x561 x562 ((x563++[(⟨x552,W ((x559.length:Int)+x556),min2 x558.count ((gt x560 x556).count),y567.1⟩:Arc)])) x564 x565) else((z6z φ k549 n566) x550 x551 x552 x553 x554 x555 (W (x556+1)) x557 x558 x559 x560 x561 x562 ((x563++[(⟨x552,W ((x559.length:Int)+x556),min2 x558.count ((gt x560 x556).count),y567.1⟩:Arc)])) x564 x565))) else((z6z φ k549 n566) x550 x551 x552 x553 x554 x555 (W (x556+1)) x557 x558 x559 x560 x561 x562 x563 x564 x565)))) else(k549 x550 x551 x553 (W (x554+1)) x557 x559 x560 x561 x562 x563 x564 x565))
def z99 (φ:Nat):Nat->Int->Int->Int->Int->(List z8)->(List zl)->Int->(List Int)->(List Arc)->(List zb)->(List Int)->Option (Bool×Unit)
 | 0,_,_,_,_,_,_,_,_,_,_,_=>none
 | n591+1,x580,x581,x582,x583,x584,x585,x586,x587,x588,x589,x590=>(if(decide (x583<x582))=true then(ck (rg x583 x584.length) (ck (fits (x588.length +([(⟨x583,W (x580+1),(gt x584 x583).count,0⟩:Arc)]).length) 32) (if(!true)=true then(z59 φ x584 x585 x586 x587 (x588++[(⟨x583,W (x580+1),(gt x584 x583).count,0⟩:Arc)]) x589 x590) else((z99 φ n591) x580 x581 x582 (W (x583+1)) x584 x585 x586 x587 (x588++[(⟨x583,W (x580+1),(gt x584 x583).count,0⟩:Arc)]) x589 x590)))) else(ck (fits (x588.length +([(⟨x580,W (x580+1),x581,0⟩:Arc)]).length) 32) (z59 φ x584 x585 x586 x587 (x588++[(⟨x580,W (x580+1),x581,0⟩:Arc)]) x589 x590)))
def z9j (φ:Nat):Nat->Int->Int->Int->Int->(List zl)->(List z8)->Int->(List Int)->(List Arc)->(List zb)->(List Int)->Option (Bool×Unit)
 | 0,_,_,_,_,_,_,_,_,_,_,_=>none
 | n579+1,x568,x569,x570,x571,x572,x573,x574,x575,x576,x577,x578=>(if(decide (x571<x570))=true then(ck (rg x571 x572.length) (ck (fits (x576.length +([(⟨x568,W ((x573.length:Int)+x571),(gt x572 x571).count,(gt x572 x571).weight⟩:Arc)]).length) 32) (if(!true)=true then(z59 φ x573 x572 x574 x575 ((x576++[(⟨x568,W ((x573.length:Int)+x571),(gt x572 x571).count,(gt x572 x571).weight⟩:Arc)])) x577 x578) else((z9j φ n579) x568 (W (x569 +(gt x572 x571).count)) x570 (W (x571+1)) x572 x573 x574 x575 ((x576++[(⟨x568,W ((x573.length:Int)+x571),(gt x572 x571).count,(gt x572 x571).weight⟩:Arc)])) x577 x578)))) else(z99 φ φ x568 x569 (x573.length:Int) 0 x573 x572 x574 x575 x576 x577 x578))
def za3 (φ:Nat):Nat->Int->Int->Int->Int->Pool->(List z8)->(List zl)->Int->(List Int)->(List Arc)->(List zb)->(List Int)->Option (Bool×Unit)
 | 0,_,_,_,_,_,_,_,_,_,_,_,_=>none
 | n549+1,x537,x538,x539,x540,x541,x542,x543,x544,x545,x546,x547,x548=>(if(decide (x540<x539))=true then(ck (rg x540 x542.length) (z6z φ (za3 φ n549) φ x537 x538 x540 x539 x540 (x543.length:Int) 0 x541 (gt x542 x540) x542 x543 x544 x545 x546 x547 x548)) else(z9j φ φ x537 x538 (x543.length:Int) 0 x543 x542 x544 x545 x546 x547 x548))
def z9v (φ:Nat):Nat->Int->Int->Int->Int->(List z8)->(List zl)->Pool->Int->(List Int)->(List Arc)->(List zb)->(List Int)->Option (Bool×Unit)
 | 0,_,_,_,_,_,_,_,_,_,_,_,_=>none
 | n527+1,x515,x516,x517,x518,x519,x520,x521,x522,x523,x524,x525,x526=>(if(decide (x518<x517))=true then(ck (rg x518 x520.length) ((z2o φ x521 (gt x520 x518)).bind λy528=>(if(!y528.1)=true then(z31 φ 1 x519 x520 x522 x525 x526 ([]:List Int) ([]:List Arc)) else(ck (fits (x523.length +([(W (0 -(gt x520 x518).count))]).length) 8) ((z9v φ n527) x515 (W (x516 +(gt x520 x518).count)) x517 (W (x518+1)) x519 x520 x521 x522 ((x523++[(W (0 -(gt x520 x518).count))])) x524 x525 x526))))) else(ck (fits (x523.length +([x516,(W (0-x515))]).length) 8) (if(decide ((256:Int) <((x523++[x516,(W (0-x515))]).length:Int)))=true then(z31 φ 2 x519 x520 x522 x525 x526 ([]:List Int) ([]:List Arc)) else(za3 φ φ (W ((x519.length:Int) +(x520.length:Int))) 0 (x519.length:Int) 0 x521 x519 x520 x522 (x523++[x516,(W (0-x515))]) x524 x525 x526))))
def za0 (φ:Nat):Nat->Int->Int->Int->Int->(List z8)->(List zl)->Pool->Int->(List Int)->(List Arc)->(List zb)->(List Int)->Option (Bool×Unit)
 | 0,_,_,_,_,_,_,_,_,_,_,_,_=>none
 | n513+1,x501,x502,x503,x504,x505,x506,x507,x508,x509,x510,x511,x512=>(if(decide (x504<x503))=true then(ck (rg x504 x505.length) ((z22 φ x507 (gt x505 x504)).bind λy514=>(if(!y514.1)=true then(z31 φ 1 x505 x506 x508 x511 x512 ([]:List Int) ([]:List Arc)) else(ck (fits (x509.length +([(gt x505 x504).count]).length) 8) ((za0 φ n513) (W (x501 +(gt x505 x504).count)) x502 x503 (W (x504+1)) x505 x506 x507 x508 (x509++[(gt x505 x504).count]) x510 x511 x512))))) else(z9v φ φ x501 x502 (x506.length:Int) 0 x505 x506 x507 x508 x509 x510 x511 x512))
def zbm (φ:Nat):Option (Bool×Unit):=((z9s φ 0 0 145 45).bind λy1=>((z0s (default,()) ((!y1.1)=false) (z9s φ 0 0 144 (-1))).bind λy2=>((z0s (default,()) (((!y1.1)||(!y2.1))=false) (z9s φ 1 0 145 52)).bind λy3=>((z0s (default,()) ((((!y1.1)||(!y2.1))||(!y3.1))=false) (z9s φ 0 1 145 (-1))).bind λy4=>(if((((!y1.1)||(!y2.1))||(!y3.1))||(!y4.1))=true then(some (false,())) else((z91 φ).bind λy478=>((z1a φ y478.1).bind λy500=>(if(y500.1 !=0)=true then(z31 φ y500.1 ([(⟨0,1,0,100,2⟩:z8)]) ([(⟨0,2,1,0,500,3,1000⟩:zl)]) 0 ([]:List zb) ([]:List Int) ([]:List Int) ([]:List Arc)) else(za0 φ φ 0 0 (([(⟨0,1,0,100,2⟩:z8)]).length:Int) 0 ([(⟨0,1,0,100,2⟩:z8)]) ([(⟨0,2,1,0,500,3,1000⟩:zl)]) y478.1 0 ([]:List Int) ([]:List Arc) ([]:List zb) ([]:List Int))))))))))
def zd9 (φ:Nat):Fsp TV:=⟨[],[.val 27],λz=>zbm φ⟩
def z2d (φ:Nat):Nat->Int->Pool->Option (Bool×Unit)
 | 0,_,_=>none
 | n4+1,x2,x3=>(if(decide (x2 <(x3.railways.length:Int)))=true then(ck (rg x2 x3.railways.length) (if(decide ((100:Int) <((((gt x3.railways x2).calendar).holidays).length:Int)))=true then(some (false,())) else((z2d φ n4) (W (x2+1)) x3))) else(some (true,())))
def z6o (φ:Nat) (x1:Pool):Option (Bool×Unit):=(if(((((((decide ((16:Int) <(x1.network.places.length:Int)))||(decide ((40:Int) <(x1.network.edges.length:Int))))||(decide ((8:Int) <(x1.fleet.wagons.length:Int))))||(decide ((8:Int) <(x1.readers.length:Int))))||(decide ((100:Int) <(x1.fleet.swaps.length:Int))))||(decide ((100:Int) <(x1.fleet.washes.length:Int))))||(decide ((17:Int) <(x1.railways.length:Int))))=true then(some (false,())) else(z2d φ φ 0 x1))
def z78 (φ:Nat):Fsp TV:=⟨[26],[.val 27],λz=>z6o φ z.1⟩
def zfc (φ:Nat) (x1:Pool) (x2 :(List z8)) (x3 :(List zl)):Option (Bool×Unit):=((z6o φ x1).bind λy4=>(some (((y4.1&&(decide (((x2.length:Int):Int)<=6)))&&(decide (((x3.length:Int):Int)<=6))),())))
def zf2 (φ:Nat):Fsp TV:=⟨[26,36,37],[.val 27],kk3 (zfc φ)⟩
def z24 (φ:Nat) (x10 x11:Int) (x12:Pool) (x13 :(List z8)) (x14 :(List zl)) (x15:Plan):Option (Bool×Unit):=(ck (rg x10 x14.length) (ck (rg x10 x14.length) ((z4e φ x12 x13 ((zq x14 x10 (⟨(gt x14 x10).type_,(gt x14 x10).class_,(gt x14 x10).place,(gt x14 x10).from_,max2 ((gt x14 x10).to) x11,(gt x14 x10).count,(gt x14 x10).weight⟩:zl)))).bind λy17=>(some (((y17.2.1==0)&&(decide ((y17.1.cost:Int)<=x15.cost))),())))))
def z44 (φ:Nat) (x1:Pool) (x2 :(List z8)) (x3 :(List zl)) (x4 x5 x6:Int):Option (Bool×Unit):=((zbm φ).bind λy7=>(if(!y7.1)=true then(some (false,())) else((zfc φ x1 x2 x3).bind λy8=>(if(((((((!y8.1)||(decide (x4<0)))||(decide (((x2.length:Int):Int)<=x4)))||(decide (x5<0)))||(decide (((x3.length:Int):Int)<=x5)))||(decide (x6<0)))||(decide ((1073741824:Int)<x6)))=true then(some (true,())) else(ck (fits (([]:List z8).length+x2.length) 40) (ck (fits (([]:List zl).length+x3.length) 56) ((z4e φ x1 x2 x3).bind λy9=>(if(y9.2.1 !=0)=true then(some (true,())) else(ck (rg x4 (([]:List z8)++x2).length) (if(decide (((gt (([]:List z8)++x2) x4).count:Int)<4096))=true then(ck (rg x4 (([]:List z8)++x2).length) (ck (rg x4 (([]:List z8)++x2).length) (z24 φ x5 x6 x1 ((zq (([]:List z8)++x2) x4 ((⟨(gt (([]:List z8)++x2) x4).type_,(gt (([]:List z8)++x2) x4).class_,(gt (([]:List z8)++x2) x4).place,(gt (([]:List z8)++x2) x4).at_,W ((gt (([]:List z8)++x2) x4).count+1)⟩:z8)))) (([]:List zl)++x3) y9.1))) else(z24 φ x5 x6 x1 (([]:List z8)++x2) (([]:List zl)++x3) y9.1)))))))))))
def z4f (φ:Nat):Fsp TV:=⟨[26,36,37,0,0,0],[.val 27],kk6 (z44 φ)⟩
end Px
end
