/- A part of the proof of emptiesNetwork_holds. Conditions: none. -/
import Derived.Test.YtcofccdjgfgeeaaKnad
import Derived.Shelf.SlSortCmp.NoneTotal
import Derived.Shelf.Sort.Plain
import Derived.Shelf.Slices.In.SortNone
set_option linter.unusedVariables false
set_option linter.unusedSimpArgs false
section
namespace Px
open Go Go.RowKit
section cells
variable {T:Nat->Type}
end cells
section
variable (V:TE)
variable {V}
end
theorem zvd {r:Nat->Prop} {w:World} : ∀ {us vs:List Value},zl r w (us.map eqv) vs->vs=us
 | us,vs,⟨hl,h⟩=>by
  refine w30 fun i=>?_
  by_cases hi:i<us.length
  ·obtain⟨u,hu,he,_⟩:=h i (eqv us[i]) (by simp [hi])
   rw [hu,w08 hi]
   exact congrArg some he
  ·have hl':us.length=vs.length:=by simpa using hl
   rw [w1h (show us.length<=i by omega),w1h (show vs.length<=i by omega)]
theorem zvj {r:Nat->Prop} {w:World} {us:List Value} (h:∀ v∈us,v.oneCell'=true):zl r w (us.map eqv) us:=by
 refine⟨by simp,fun j A hj=>?_⟩
 simp only [w15,w19] at hj
 obtain⟨u,hu,rfl⟩:=hj
 exact⟨u,hu,rfl,h u (w0t hu)⟩
theorem zzo {w:World} {g:Nat} {cur:Array Value} {E:TypeId} {F:Array Value} (hh:w.heap[g]? = some (.cells cur E (0,0))) (hF:cur.toList.take F.size=F.toList):Sort.Holds id w g 0 F:=by
 intro j hj
 have h1:cur[j]? = some F[j]:=by
  have :(cur.toList.take F.size)[j]? = F.toList[j]?:=by rw [hF]
  rw [w0n,if_pos hj] at this
  simpa [hj] using this
 rw [getElem!_pos F j hj]
 refine⟨?_,?_⟩
 ·unfold World.cell?
  rw [hh]
  simpa using h1
 ·unfold World.frozen?
  rw [hh]
  simp
theorem zve {w:World} {g n:Nat} {cur:Array Value} {E:TypeId} {F:Array Value} {os:Array Obj} (hh:w.heap[g]? = some (.cells cur E (0,0))) (hs:F.size<=cur.size) :
  ∃ cur',(Sort.grow (Sort.putRow id (Sort.ahead w n) g 0 F) os).heap[g]? = some (.cells cur' E (0,0))/\cur'.size=cur.size/\cur'.toList.take F.size=F.toList:=by
 have hlt:g<w.heap.size:=(w1s.1 hh).1
 refine⟨Sort.putCells id 0 F cur,?_,by simp [Sort.putCells],?_⟩
 ·simp only [Sort.grow,Sort.putRow,Sort.mapBlock,Sort.ahead]
  rw [w0x,if_pos (by simpa using hlt),Array.getElem?_modify,if_pos rfl,hh]
  rfl
 ·refine w30 fun j=>?_
  rw [w0n]
  by_cases hj:j<F.size
  ·rw [if_pos hj]
   have:j<cur.size:=by omega
   simp [Sort.putCells,this,hj]
  ·rw [if_neg hj,w1h (by simpa using hj)]
theorem zqp {w:World} {g n b:Nat} {F:Array Value} {os:Array Obj} (hb:b<w.heap.size) (hg:b≠g) :(Sort.grow (Sort.putRow id (Sort.ahead w n) g 0 F) os).heap[b]? = w.heap[b]?:=by
 simp only [Sort.grow,Sort.putRow,Sort.mapBlock,Sort.ahead]
 rw [w0x,if_pos (by simpa using hb),Array.getElem?_modify,if_neg (fun e=>hg e.symm)]
theorem y0v [Dr] {P:Program} {f:FuncId} {args:List VP} {vs0:List Value} {α:Type} {E:TypeId} {e:α->List VP} {ce:α->List Value} {k:Nat} {l l':List α} {sv:Value}
  (he:∀ x∈l,e x =(ce x).map eqv) (he':∀ x∈l',e x =(ce x).map eqv) (hone:∀ x∈l',∀ v∈ce x,v.oneCell'=true) (hk:∀ x∈l,(ce x).length=k) (hk':∀ x∈l',(ce x).length=k) (hlen:l'.length=l.length) (hargs:args=vs0.map eqv)
  (hnil:l = []->∀ p cap w,Calls P f (#[.slice p 0 cap]++vs0.toArray) w fun e w'=>e = .returned (.tuple #[])/\w'=w)
  (hrun:l≠[]->∀ g cap w,g<w.heap.size->(∀ F:Array Value,F.toList=l.flatMap ce->Sort.Holds id w g 0 F)->
   Calls P f (#[.slice (some ⟨g,0,none⟩) l.length cap]++vs0.toArray) w fun e w'=>e = .returned (.tuple #[])/\∃ n os F,F.toList=l'.flatMap ce/\w'=Sort.grow (Sort.putRow id (Sort.ahead w n) g 0 F) os) :
  MutT P f (eqv sv::args) E e k l sv fun x l2=>x=eqv (.tuple #[])/\l2=l':=by
 intro w0 base r S w vs hw hl hA
 have hvs:vs = #[sv]++vs0.toArray:=by
  have hsz:vs.size=1+vs0.length:=by rw [hl,hargs]; simp; omega
  refine Array.ext (by rw [hsz]; simp [w4n]) fun i h1 h2=>?_
  cases i with
  | zero=>
   have:=hA 0 (eqv sv) rfl
   simp only [w06,w22 h1,w10] at this
   have this:vs[0]=sv:=this
   rw [this,Array.getElem_append_left (by simp)]; rfl
  | succ i=>
   have hi:i<vs0.length:=by omega
   have:=hA (i+1) (eqv vs0[i]) (by rw [hargs]; simp [hi])
   simp only [w06,w22 h1,w10] at this
   rw [this]
   rw [Array.getElem_append_right (by simp)]
   simp
 subst hvs
 have hrow:=hw.obj 0 _ rfl
 have hfm:l.flatMap e =(l.flatMap ce).map eqv:=by
  rw [List.map_flatMap]
  clear hnil hrun hrow hk hlen hw
  induction l with
  | nil=>rfl
  | cons x l ih=>rw [w0m,w0m,he x (w0j),ih (fun y hy=>he y (w0a _ hy))]
 have hfm':l'.flatMap e =(l'.flatMap ce).map eqv:=by
  rw [List.map_flatMap]
  clear hnil hrun hrow hk hk' hlen hw hone
  induction l' with
  | nil=>rfl
  | cons x l' ih=>rw [w0m,w0m,he' x (w0j),ih (fun y hy=>he' y (w0a _ hy))]
 have hfl:∀ m:List α,(∀ x∈m,(ce x).length=k)->(m.flatMap ce).length=m.length*k:=by
  intro m
  induction m with
  | nil=>intro _; simp
  | cons x m ih=>intro h; rw [w0m,w0f,h x (w0j),ih (fun y hy=>h y (w0a _ hy)),w0z,w1e]; omega
 by_cases h0:l = []
 ·have hl0:l' = []:=w1b (by rw [hlen,h0]; rfl)
  have hslice:∃ p cap,sv = .slice p 0 cap:=by
   rcases hrow with⟨rfl,_⟩ |⟨g,cap,cur,rfl,_⟩
   ·exact⟨_,_,rfl⟩
   ·rw [h0]; exact⟨_,_,rfl⟩
  obtain⟨p,cap,rfl⟩:=hslice
  refine(hnil h0 p cap w).mono ?_
  rintro en w' ⟨rfl,rfl⟩
  refine⟨_,eqv (.tuple #[]),_,r,S,rfl,Evo.refl _ _ _,hw,rfl,l',?_,rfl,rfl⟩
  rw [h0,hl0]
 ·rcases hrow with⟨_,rfl⟩ |⟨g,cap,cur,rfl,hS,hcur,hle,hmax,hsz,hc⟩
  ·exact absurd rfl h0
  ·have hlt:=(w1s.1 hcur).1
   rw [hfm] at hc
   have hc:=zvd hc
   refine(hrun h0 g cap w hlt fun F hF=>zzo hcur ?_).mono ?_
   ·have:F.size=l.length*k:=by rw [<- Array.length_toList,hF,hfl l hk]
    rw [this,hc,hF]
   ·rintro en w' ⟨rfl,n,os,F,hF,rfl⟩
    have hFs:F.size=l.length*k:=by rw [<- Array.length_toList,hF,hfl l' hk',hlen]
    have hb:∀ b,b<w.heap.size->¬ S 0 b->(Sort.grow (Sort.putRow id (Sort.ahead w n) g 0 F) os).heap[b]? = w.heap[b]?:=fun b hb hs=>zqp hb (fun e=>hs (e ▸ hS))
    obtain⟨cur',hcur',hsz',htk⟩:=zve (n:=n) (os:=os) (F:=F) hcur (by rw [hFs,hsz]; exact w12 _ hle)
    refine⟨_,eqv (.tuple #[]),_,r,_,rfl,hw.evo_repl 0 hb,hw.repl 0 (row E e k l' (.slice (some ⟨g,0,none⟩) l.length cap)) (S 0) (by simp) rfl ⟨rfl,Nat.le_add_right _ _⟩ rfl (by simp [Sort.grow,Sort.putRow,Sort.mapBlock,Sort.ahead]) hb (fun b hb'=>?_) ?_,rfl,l',rfl,rfl,rfl⟩
    ·obtain⟨_,h2,h3,h4⟩:=hw.own 0 b hb'
     refine⟨h2,?_,h4,fun j hj hs=>hj (hw.apart j 0 b hs hb')⟩
     simp [Sort.grow,Sort.putRow,Sort.mapBlock,Sort.ahead]
     omega
    ·refine .inr ⟨g,cap,cur',by rw [hlen],hS,hcur',by omega,hmax,by omega,?_⟩
     rw [hlen,<- hFs,htk,hF,hfm']
     exact zvj fun v hv=>by
      obtain⟨x,hx,hxv⟩:=w2i.1 hv
      exact hone x hx v hxv
def insL {α:Type} (lt:α->α->Bool) (x:α):List α->List α
 | []=>[x]
 | y::l=>bif lt y x then y::insL lt x l else x::y::l
def znd {α:Type} (lt:α->α->Bool):List α->List α
 | []=>[]
 | x::l=>insL lt x (znd lt l)
theorem zjp {α:Type} (lt:α->α->Bool) (x:α):∀ l:List α,(insL lt x l).Perm (x::l)
 | []=>List.Perm.refl _
 | y::l=>by
  simp only [insL]
  cases lt y x with
  | true=>exact((zjp lt x l).cons y).trans (List.Perm.swap x y l)
  | false=>exact List.Perm.refl _
theorem z8v {α:Type} (lt:α->α->Bool):∀ l:List α,(znd lt l).Perm l
 | []=>List.Perm.refl _
 | x::l=>(zjp lt x _).trans ((z8v lt l).cons x)
theorem zl8 {α:Type} {lt:α->α->Bool} (hO:Sort.SWO lt) (x:α):∀ l:List α,l.Pairwise (fun a b=>lt b a=false)->(insL lt x l).Pairwise fun a b=>lt b a=false
 | [],_=>List.pairwise_singleton _ _
 | y::l,h=>by
  rw [w20] at h
  simp only [insL]
  cases hl:lt y x with
  | true=>
   simp only [cond_true,w20]
   refine⟨fun z hz=>?_,zl8 hO x l h.2⟩
   rcases w09.1 ((zjp lt x l).mem_iff.1 hz) with rfl | hz
   ·cases hx:lt z y with
    | false=>rfl
    | true=>have:=hO.trans _ _ _ hl hx; rw [hO.irrefl] at this; cases this
   ·exact h.1 z hz
  | false=>
   simp only [cond_false,w20]
   refine⟨fun z hz=>?_,h.1,h.2⟩
   rcases w09.1 hz with rfl | hz
   ·exact hl
   ·exact hO.ntrans _ _ _ (h.1 z hz) hl
theorem zi2 {α:Type} {lt:α->α->Bool} (hO:Sort.SWO lt):∀ l:List α,(znd lt l).Pairwise fun a b=>lt b a=false
 | []=>List.Pairwise.nil
 | x::l=>zl8 hO x _ (zi2 hO l)
theorem zwm {α:Type} [Inhabited α] {enc:α->Value} {w:World} {b o:Nat} {d:Array α} (h:Sort.Holds id w b o (d.map enc)):Sort.Holds enc w b o d:=by
 intro j hj
 have:=h j (by simpa using hj)
 rw [getElem!_pos _ j (by simpa using hj)] at this
 rw [getElem!_pos d j hj]
 simpa using this
theorem zwa {α:Type} [Inhabited α] {enc:α->Value} {w:World} {b o:Nat} {d:Array α} : Sort.putRow enc w b o d=Sort.putRow id w b o (d.map enc):=by
 unfold Sort.putRow
 congr 1
 funext cur
 unfold Sort.putCells
 congr 1
 funext k x
 simp only [Array.size_map]
 split
 ·rename_i h
  have h1:k-o<d.size:=by omega
  rw [getElem!_pos d _ h1,getElem!_pos _ _ (by simpa using h1)]
  simp
 ·rfl
def zio (l:List Int):Option (List Int):=if l.length<4611686018427387904 then some (znd (fun a b=>decide (a<b)) l) else none
theorem y7h:Sort.SWO (fun a b:Int=>decide (a<b)) where
 irrefl:=fun x=>by simp
 trans:=fun x y z h1 h2=>by simp at *; omega
 ntrans:=fun x y z h1 h2=>by simp at *; omega
theorem zrq (l:List Int):l.mergeSort (fun x y=>decide (x<=y))=znd (fun a b=>decide (a<b)) l:=by
 refine List.Perm.eq_of_pairwise (le:=fun a b:Int=>a<=b) (fun a b _ _ h1 h2=>by omega) ?_ ?_ ((List.mergeSort_perm _ _).trans (z8v _ _).symm)
 ·have:=List.pairwise_mergeSort (le:=fun x y:Int=>decide (x<=y)) (by intro a b c h1 h2; simp at *; omega) (by intro a b; simp; omega) l
  exact this.imp fun h=>by simpa using h
 ·exact(zi2 y7h l).imp fun h=>by simpa using h
theorem zpd [Dr] {P:Program} {ρ:Shelf.Ren} (L:Proofs.Lays.n189 P ρ) {E:Nat} {l l':List Int} {sv:Value} (hF:zio l=some l'):MutT P (ρ.f 189) [eqv sv] E (fun n:Int=>[iv .i64 n]) 1 l sv fun x l2=>x=eqv (.tuple #[])/\l2=l':=by
 unfold zio at hF
 split at hF
 ·rename_i hl
  have:=w0c hF
  subst this
  have hfm:∀ q:List Int,q.flatMap (fun n=>[Value.int .i64 n])=q.map (Value.int .i64):=fun q=>by induction q with
   | nil=>rfl
   | cons x q ih=>rw [w0m,ih]; rfl
  refine y0v (args:=[]) (vs0:=[]) (ce:=fun n=>[.int .i64 n]) (fun x _=>rfl) (fun x _=>rfl) (fun x _ v hv=>by simp only [w0k] at hv; subst hv; rfl) (fun x _=>rfl) (fun x _=>rfl) (z8v _ _).length_eq rfl ?_ ?_
  ·intro _ p cap w
   exact Proofs.Any.slices_Sort_int_none L p cap w
  ·intro hne b cap w hlt hH
   refine(Proofs.Any.slices_Sort_int L b 0 cap l w (zwm (hH _ ?_)) hlt hl).mono ?_
   ·rw [hfm]; simp
   ·rintro e w' ⟨rfl,n,os,rfl⟩
    refine⟨rfl,n,os,_,?_,by rw [zwa]⟩
    rw [hfm,zrq]; simp
 ·cases hF
end Px
end
section
namespace Px
open Go Go.RowKit Go.ChangeShapes Go.WideShapes Go.ChangeAt
section
variable {T:Nat->Type}
def rT (g :(c:Nat)->T c->Prop) :(fs:List Nat)->Tup T fs->Prop
 | [],_=>True
 | [c],x=>g c x.1
 | c::cs,x=>g c x.1/\rT g cs x.2
def rD (g :(c:Nat)->T c->Prop) : {α:Type}->Ds T α->α->Prop
 | _,.int k,x=>RI k x
 | _,.bool,_=>True
 | _,.str,x=>x.size<=maxLen
 | _,.sl c,x=>RL (g c) x
 | _,.map _ _,_=>True
 | _,.arr n c,x=>∀ i,i<n->g c (x i)
 | _,.st fs _ un _,x=>rT g fs (un x)
theorem y6w {g :(c:Nat)->T c->Prop} {c:Nat} : ∀ {cs:List Nat} {x:T c×Tup T cs},g c x.1->rT g cs x.2->rT g (c::cs) x
 | [],_,h,_=>h
 | _::_,_,h,k=>⟨h,k⟩
end
section
variable (V:TE) (P:Program)
def rdN:Nat->(c:Nat)->V.T c->Prop
 | 0,_,_=>True
 | n+1,c,x=>rD (rdN n) (V.d c) x
def opF (g:TypeId->Nat->Bool):List Nat->List (TypeId×Nat×Nat)->Nat->Nat->Bool
 | [],[],o,m=>Nat.beq o m
 | c::cs,(ty,off,m)::l,o,e=>Nat.beq off o&&Nat.beq m (V.sz c)&&g ty c&&opF g cs l (o+m) e
 | _,_,_,_=>false
def opD (g:TypeId->Nat->Bool) : {α:Type}->Ds V.T α->TypeId->Bool
 | _,.int k,t=>match P.underlying t with | some (.int k')=>decide (k'=k) | _=>false
 | _,.bool,t=>match P.underlying t with | some .bool=>true | _=>false
 | _,.str,t=>match P.underlying t with | some .string=>true | _=>false
 | _,.sl c,t=>match P.underlying t with | some (.slice E)=>Nat.beq (P.cellsOf E) (V.sz c)&&Nat.blt 0 (V.sz c)&&g E c | _=>false
 | _,.map _ _,_=>false
 | _,.arr n c,t=>match P.underlying t with | some (.array N E)=>Nat.beq N n&&Nat.beq (P.cellsOf E) (V.sz c)&&Nat.beq (P.cellsOf t) (n*V.sz c)&&g E c | _=>false
 | _,.st fs _ _ _,t=>match znc P t with | some l=>opF V g fs l 0 (P.cellsOf t) | none=>false
def opN:Nat->TypeId->Nat->Bool
 | 0,_,_=>false
 | n+1,t,c=>opD V P (opN n) (V.d c) t
def y6d (n:Nat):List TypeId->List Nat->Bool
 | [],[]=>true
 | t::ts,c::cs=>opN V P n t c&&y6d n ts cs
 | _,_=>false
def y76 (n:Nat) :(cs:List Nat)->Tup V.T cs->Prop
 | [],_=>True
 | c::cs,x=>rdN V n c x.1/\y76 n cs x.2
variable {V P}
theorem y4e:∀(n:Nat) (t:TypeId) (c:Nat),opN V P n t c=true->Opn P t (V.sz c) (V.ev c) (rdN V n c)
 | 0,_,_,h=>by cases h
 | n+1,t,c,h=>by
  have ih:=y4e n
  have hev:V.ev c=evD V.ev (V.mv V.ev) V.sz (V.d c):=funext fun x=>V.ev_eq c x
  have hr:rdN V (n+1) c=rD (rdN V n) (V.d c):=rfl
  rw [hev,V.sz_eq,hr]
  change opD V P (opN V P n) (V.d c) t=true at h
  revert h
  clear hev hr
  generalize V.d c=d
  revert d
  generalize V.T c=α
  intro d h
  cases d with
  | int k=>
   simp only [opD] at h
   split at h
   ·rename_i k' hu
    simp only [decide_eq_true_eq] at h
    subst h
    exact Opn.int hu
   ·cases h
  | bool=>
   simp only [opD] at h
   split at h
   ·rename_i hu; exact Opn.bool hu
   ·cases h
  | str=>
   simp only [opD] at h
   split at h
   ·rename_i hu; exact Opn.string hu
   ·cases h
  | sl c'=>
   simp only [opD] at h
   split at h
   ·rename_i E hu
    simp only [w02,w24] at h
    obtain⟨⟨h1,h2⟩,h3⟩:=h
    exact Opn.slice hu (w01 h1) h2 (ih E c' h3)
   ·cases h
  | map kc vc=>simp [opD] at h
  | arr m c'=>
   simp only [opD] at h
   split at h
   ·rename_i N E hu
    simp only [w02] at h
    obtain⟨⟨⟨h1,h2⟩,h3⟩,h4⟩:=h
    have h1:=w01 h1
    subst h1
    have:Inhabited (V.T c'):=⟨V.z c'⟩
    exact Opn.array hu (w01 h2) (w01 h3) rfl (ih E c' h4)
   ·cases h
  | st fs mk un law=>
   simp only [opD] at h
   split at h
   ·rename_i l hl
    intro H enc w sp held fuel cs x hx
    obtain⟨hlen,m,hf⟩:=zsw hl hx
    have key:∀(fs:List Nat) (l':List (TypeId×Nat×Nat)) (o:Nat),opF V (opN V P n) fs l' o (P.cellsOf t)=true->(∀(i:Nat) (ty:TypeId) (off m':Nat),l'[i]? = some (ty,off,m')->∃ y,DataW.trod enc P w 0 sp held m ty ((cs.drop off).take m')=some y)->
      o+fs.foldr (fun c s=>V.sz c+s) 0=P.cellsOf t/\∃ y:Tup V.T fs,rT (rdN V n) fs y/\zl (fun b=>b<w.heap.size) w (evT V.ev fs y) (cs.drop o):=by
     intro fs
     induction fs with
     | nil=>
      intro l' o h hf
      cases l' with
      | nil=>
       have:=w01 h
       subst this
       exact⟨rfl,(),trivial,zl.tile0 hlen⟩
      | cons a l'=>cases h
     | cons c cs' ihf=>
      intro l' o h hf
      cases l' with
      | nil=>cases h
      | cons a l'=>
       obtain⟨ty,off,m'⟩:=a
       simp only [opF,w02] at h
       obtain⟨⟨⟨h1,h2⟩,h3⟩,h4⟩:=h
       have h1:=w01 h1
       have h2:=w01 h2
       subst h1; subst h2
       obtain⟨y0,hy0⟩:=hf 0 _ _ _ rfl
       obtain⟨_,y,hR,hc⟩:=ih ty c h3 _ _ _ _ _ _ _ _ hy0
       obtain⟨he,z,hz,hcz⟩:=ihf l' _ h4 (fun i ty off m' hi=>hf (i+1) ty off m' hi)
       refine⟨by simp only [w4z]; omega,(y,z),y6w hR hz,?_⟩
       exact zl.tile hc hcz
    obtain⟨he,y,hy,hc⟩:=key fs l 0 h hf
    rw [w48] at hc
    refine⟨by rw [hlen,<- he,w11]; rfl,mk y,?_,?_⟩
    ·show rT _ fs (un (mk y))
     rw [law]; exact hy
    ·show zl _ _ (evT V.ev fs (un (mk y))) cs
     rw [law]; exact hc
   ·cases h
theorem yaa {H:Type} {enc:TypeId×Value->H} {W:World} {sp:Nat->Bool} {held:Bool} {base n:Nat} {t:TypeId} {c:Nat} {v:Value} {d:DataW H} {p:List MemPlace}
  (ho:opN V P n t c=true) (hv:Value.okWide P W .any base t v) (h:DataW.Trod enc P W 0 sp held t v d p):∃ y,rdN V n c y/\(V.vl c y).h (fun b=>b<W.heap.size) W v:=by
 cases n with
 | zero=>cases ho
 | succ n=>
 obtain⟨fuel,hf⟩:=h
 obtain⟨_,y,hR,hc⟩:=y4e _ _ _ ho _ _ _ _ _ _ _ _ hf
 refine⟨y,hR,?_⟩
 change opD V P (opN V P n) (V.d c) t=true at ho
 unfold Value.okWide at hv
 cases ha:z5p (V.d c) with
 | true=>
  rw [zkm y ha]
  have hs:∃ cs,v = .agg cs:=by
   revert ho ha
   generalize V.d c=d
   generalize V.T c=α at d
   intro ho ha
   cases d with
   | arr m c'=>
    simp only [opD] at ho
    split at ho
    ·rename_i N E hu
     rw [hu] at hv
     obtain⟨cs,rfl,_⟩:=hv
     exact⟨cs,rfl⟩
    ·cases ho
   | st fs mk un law=>
    simp only [opD,znc] at ho
    cases hu:P.underlying t with
    | none=>rw [hu] at ho; cases ho
    | some X=>
     rw [hu] at ho hv
     cases X with
     | struct fs'=>obtain⟨cs,rfl,_⟩:=hv; exact⟨cs,rfl⟩
     | _=>cases ho
   | _=>cases ha
  obtain⟨cs,rfl⟩:=hs
  exact⟨cs,rfl,hc⟩
 | false=>
  rw [zjq y ha] at hc
  have hcell:v.cells.toList = [v]:=by
   revert ho ha
   generalize V.d c=d
   generalize V.T c=α at d
   intro ho ha
   cases d with
   | int k=>
    simp only [opD] at ho
    split at ho
    ·rename_i k' hu
     rw [hu] at hv
     cases v <;> first | rfl |(exfalso; simp [Cell.okWide,Cell.ok,hu] at hv)
    ·cases ho
   | bool=>
    simp only [opD] at ho
    split at ho
    ·rename_i hu
     rw [hu] at hv
     cases v <;> first | rfl |(exfalso; simp [Cell.okWide,Cell.ok,hu] at hv)
    ·cases ho
   | str=>
    simp only [opD] at ho
    split at ho
    ·rename_i hu
     rw [hu] at hv
     cases v <;> first | rfl |(exfalso; simp [Cell.okWide,Cell.ok,hu] at hv)
    ·cases ho
   | sl c'=>
    simp only [opD] at ho
    split at ho
    ·rename_i E hu
     rw [hu] at hv
     cases v <;> first | rfl |(exfalso; simp [Cell.okWide,Cell.ok,hu] at hv)
    ·cases ho
   | arr m c'=>cases ha
   | map kc vc=>simp [opD] at ho
   | st fs mk un law=>cases ha
  rw [hcell] at hc
  obtain⟨u,hu',hA,_⟩:=hc.2 0 (V.vl c y) rfl
  simp at hu'
  subst hu'
  exact hA
theorem zwq {H:Type} {enc:TypeId×Value->H} {W:World} {sp:Nat->Bool} {held:Bool} {base n:Nat} : ∀ {ts:List TypeId} {cs:List Nat} {vs:List Value} {ds:List (DataW H)} {ps:List MemPlace},
  y6d V P n ts cs=true->DataW.TrodAll enc P W 0 sp held ts vs ds ps->(∀(j:Nat) t v,ts[j]? = some t->vs[j]? = some v->Value.okWide P W .any base t v)->
  vs.length=cs.length/\∃ x:Tup V.T cs,y76 V n cs x/\∀(i:Nat) (A:VP),(vls V cs x)[i]? = some A->A.h (fun b=>b<W.heap.size) W (vs.getD i undef)
 | [],[],vs,ds,ps,_,h,_=>by
  cases vs with
  | nil=>exact⟨rfl,(),trivial,fun i A hi=>by simp [vls] at hi⟩
  | cons v vs=>cases ds <;> exact h.elim
 | t::ts,c::cs,vs,ds,ps,ho,h,hv=>by
  simp only [y6d,w02] at ho
  cases vs with
  | nil=>cases ds <;> exact h.elim
  | cons v vs=>
   cases ds with
   | nil=>exact h.elim
   | cons d ds=>
    obtain⟨p,q,h1,h2,_⟩:=h
    obtain⟨y,hR,hA⟩:=yaa ho.1 (hv 0 t v rfl rfl) h1
    obtain⟨hl,x,hx,hxs⟩:=zwq ho.2 h2 (fun j t v ht hvj=>hv (j+1) t v ht hvj)
    refine⟨by simp [hl],(y,x),⟨hR,hx⟩,fun i A hi=>?_⟩
    cases i with
    | zero=>simp only [vls,w37,w00] at hi; subst hi; exact hA
    | succ i=>simp only [vls,w2e] at hi; simpa using hxs i A hi
 | [],_::_,_,_,_,ho,_,_=>by cases ho
 | _::_,[],_,_,_,ho,_,_=>by cases ho
theorem zj3 {H:Type} {enc:TypeId×Value->H} {P:Program} {W:World} {b:Nat} {sp:Nat->Bool} {held:Bool} : ∀ {ts:List TypeId} {vs:List Value} {ds:List (DataW H)} {ps:List MemPlace},DataW.TrodAll enc P W b sp held ts vs ds ps->ds.length=ts.length
 | [],[],[],_,_=>rfl
 | t::ts,v::vs,d::ds,ps,⟨p,q,_,h,_⟩=>by simp [zj3 h]
 | [],_::_,_,_,h=>h.elim
 | [],[],_::_,_,h=>h.elim
 | _::_,[],_,_,h=>h.elim
 | _::_,_::_,[],_,h=>h.elim
theorem zwv:∀(cs:List Nat) (x:Tup V.T cs),(vls V cs x).length=cs.length
 | [],_=>rfl
 | c::cs,x=>by simp only [vls,w0z,zwv cs]
theorem y94 [Dr] {f:FuncId} {sp:Fsp V} {W:World} {vs:Array Value} {x:Tup V.T sp.args} {r:RTup V.T sp.res} (hf:z3o V P f sp) (hr:sp.F x=some r) (hres:∀ B:Asg,(resV V (encR V 0 sp.res r)).den V P B=bv true) (hno:newR V sp.res r = [])
  (hl:vs.toList.length=sp.args.length) (hA:∀(i:Nat) (A:VP),(vls V sp.args x)[i]? = some A->A.h (fun b=>b<W.heap.size) W (vs.toList.getD i undef)):Calls P f vs W (fun e W'=>e = .returned (.bool true)/\Below W.heap.size W W'):=by
 refine zwx (As:=vls V sp.args x) ((hf x r hr).mono ?_) (by rw [zwv]; simpa using hl) (fun i A hi=>?_)
 ·rintro y news ⟨B,hB,rfl,rfl⟩
  rw [hno] at hB ⊢
  refine⟨hres B,?_⟩
  cases B <;> rfl
 ·have:=hA i A hi
  simpa [w06,w1t] using this
end
theorem z67.same {R:Type} {x:Option R} {n:Nat} {y:Option (List (Option R))} (h:y=some (List.replicate n x)):z67 x y:=
 ⟨fun r hr=>⟨_,h,fun a ha=>by rw [(List.mem_replicate.1 ha).2,hr]⟩⟩
theorem z67.ck {R:Type} {p:Prop} [Decidable p] {x:Option R} {y:Option (List (Option R))} (h:z67 x y):z67 (Px.ck p x) (Px.ck p y):=
 ⟨fun r hr=>by
  unfold Px.ck at *
  split at hr
  ·rename_i hp; simp only [if_pos hp]; exact h.ok r hr
  ·cases hr⟩
theorem z67.bind {R α:Type} {m:Option α} {f:α->Option R} {g:α->Option (List (Option R))} (h:∀ a,z67 (f a) (g a)):z67 (m.bind f) (m.bind g):=
 ⟨fun r hr=>by
  cases m with
  | none=>cases hr
  | some a=>exact(h a).ok r hr⟩
theorem z67.one {R:Type} {x:Option R} : z67 x (some [x]):=⟨fun r hr=>⟨_,rfl,fun a ha=>by rw [w0k.1 ha,hr]⟩⟩
theorem z67.nil {R:Type} {x:Option R} : z67 x (catL []):=⟨fun r hr=>⟨[],rfl,fun a ha=>by cases ha⟩⟩
theorem z67.cons {R:Type} {x:Option R} {y:Option (List (Option R))} {l:List (Option (List (Option R)))} (h:z67 x y) (hl:z67 x (catL l)):z67 x (catL (y::l)):=
 ⟨fun r hr=>by
  obtain⟨a,ha,h1⟩:=h.ok r hr
  obtain⟨b,hb,h2⟩:=hl.ok r hr
  refine⟨a++b,by simp only [catL,ha,hb,cat2],fun z hz=>?_⟩
  rcases w0l.1 hz with hz | hz
  ·exact h1 z hz
  ·exact h2 z hz⟩
end Px
end
section
set_option maxHeartbeats 4000000
set_option maxRecDepth 100000
namespace Px
open Go Go.RowKit
def zz:ByteArray:=⟨#[0,1,2,2,3,3,3,3,4,4,4,4,4,4,4,4,5,5,5,5,5,5,5,5,5,5,5,5,5,5,5,5,6,6,6,6,6,6,6,6,6,6,6,6,6,6,6,6,6,6,6,6,6,6,6,6,6,6,6,6,6,6,6,6,7,7,7,7,7,7,7,7,7,7,7,7,7,7,7,7,7,7,7,7,7,7,7,7,7,7,7,7,7,7,7,7,7,7,7,7,7,7,7,7,7,7,7,7,7,7,7,7,7,7,7,7,7,7,7,7,7,7,7,7,7,7,7,7,8,8,8,8,8,8,8,8,8,8,8,8,8,8,8,8,8,8,8,8,8,8,8,8,8,8,8,8,8,8,8,8,8,8,8,8,8,8,8,8,8,8,8,8,8,8,8,8,8,8,8,8,8,8,8,8,8,8,8,8,8,8,8,8,8,8,8,8,8,8,8,8,8,8,8,8,8,8,8,8,8,8,8,8,8,8,8,8,8,8,8,8,8,8,8,8,8,8,8,8,8,8,8,8,8,8,8,8,8,8,8,8,8,8,8,8,8,8,8,8,8,8,8,8,8,8,8,8]⟩
structure zdv where
 kind:Int
 railway:Int
 other:Int
instance:Inhabited zdv:=⟨⟨0,0,0⟩⟩
structure Edge where
 a:Int
 b:Int
 railway:Int
 minutes:Int
 km:Int
instance:Inhabited Edge:=⟨⟨0,0,0,0,0⟩⟩
structure z00 where
 places :(List zdv)
 edges :(List Edge)
instance:Inhabited z00:=⟨⟨[],[]⟩⟩
structure z2k where
 load:Int
 tare:Int
 length:Int
 gauge:Int
 brake:Int
 classes:Int
 life:Int
 floor:Int
instance:Inhabited z2k:=⟨⟨0,0,0,0,0,0,0,0⟩⟩
structure zlj where
 type_:Int
 owner:Int
 home:Int
 built:Int
 worth:Int
instance:Inhabited zlj:=⟨⟨0,0,0,0,0⟩⟩
structure Swap where
 wanted:Int
 given:Int
 cost:Int
instance:Inhabited Swap:=⟨⟨0,0,0⟩⟩
structure Wash where
 from_:Int
 to:Int
 minutes:Int
instance:Inhabited Wash:=⟨⟨0,0,0⟩⟩
structure z4a where
 types :(List z2k)
 wagons :(List zlj)
 swaps :(List Swap)
 washes :(List Wash)
instance:Inhabited z4a:=⟨⟨[],[],[],[]⟩⟩
structure zfb where
 place:Int
 low:Int
 high:Int
instance:Inhabited zfb:=⟨⟨0,0,0⟩⟩
structure zc4 where
 place:Int
instance:Inhabited zc4:=⟨⟨0⟩⟩
structure Span where
 from_:Int
 to:Int
instance:Inhabited Span:=⟨⟨0,0⟩⟩
structure z7n where
 open_ :(Nat->Span)
 holidays :(List Int)
instance:Inhabited z7n:=⟨⟨fun _=>default,[]⟩⟩
structure z48 where
 key:Int
 calendar:z7n
instance:Inhabited z48:=⟨⟨0,default⟩⟩
structure Pool where
 network:z00
 fleet:z4a
 readers :(List zfb)
 shippers :(List zc4)
 railways :(List z48)
instance:Inhabited Pool:=⟨⟨default,default,[],[],[]⟩⟩
structure zb where
 type_:Int
 class_:Int
 place:Int
 at_:Int
 count:Int
instance:Inhabited zb:=⟨⟨0,0,0,0,0⟩⟩
structure zk where
 type_:Int
 class_:Int
 place:Int
 from_:Int
 to:Int
 count:Int
 weight:Int
instance:Inhabited zk:=⟨⟨0,0,0,0,0,0,0⟩⟩
structure zp where
 near :(List (List Int))
 line :(List ((Nat->Int)×Int))
instance:Inhabited zp:=⟨⟨[],[]⟩⟩
structure Arc where
 from_:Int
 to:Int
 cap:Int
 cost:Int
instance:Inhabited Arc:=⟨⟨0,0,0,0⟩⟩
structure zj where
 supply :(List Int)
 arcs :(List Arc)
instance:Inhabited zj:=⟨⟨[],[]⟩⟩
structure Flow where
 x :(List Int)
 price :(List Int)
instance:Inhabited Flow:=⟨⟨[],[]⟩⟩
structure zew where
 n:zj
 x :(List Int)
 left :(List Int)
 price :(List Int)
 begin :(List (List Int))
 end_ :(List (List Int))
instance:Inhabited zew:=⟨⟨default,[],[],[],[],[]⟩⟩
structure zd where
 arc:Int
 to:Int
 cost:Int
 room:Int
instance:Inhabited zd:=⟨⟨0,0,0,0⟩⟩
structure zc where
 supply:Int
 order:Int
 count:Int
instance:Inhabited zc:=⟨⟨0,0,0⟩⟩
structure Plan where
 transfers :(List zc)
 cost:Int
 price :(List Int)
instance:Inhabited Plan:=⟨⟨[],0,[]⟩⟩
structure Ref where
 railway:Int
 no:Int
instance:Inhabited Ref:=⟨⟨0,0⟩⟩
structure Part where
 kind:Int
 serial:Int
 fitted:Bool
instance:Inhabited Part:=⟨⟨0,0,false⟩⟩
structure Item where
 kind:Int
 ref:Ref
 wagon:Int
 place:Int
 other:Int
 number:Int
 from_:Int
 to:Int
 code:Int
 dest:Int
 class_:Int
 weight:Int
 amount:Int
 text:ByteArray
 parts :(List Part)
instance:Inhabited Item:=⟨⟨0,default,0,0,0,0,0,0,0,0,0,0,0,⟨#[]⟩,[]⟩⟩
structure zh where
 ref:Ref
 by_:Ref
 time:Int
 item:Item
instance:Inhabited zh:=⟨⟨default,default,0,default⟩⟩
def TT:Nat->Type
 | 0=>Int
 | 1=>zdv
 | 2=>(List zdv)
 | 3=>Edge
 | 4=>(List Edge)
 | 5=>z00
 | 6=>Int
 | 7=>z2k
 | 8=>(List z2k)
 | 9=>zlj
 | 10=>(List zlj)
 | 11=>Swap
 | 12=>(List Swap)
 | 13=>Wash
 | 14=>(List Wash)
 | 15=>z4a
 | 16=>zfb
 | 17=>(List zfb)
 | 18=>zc4
 | 19=>(List zc4)
 | 20=>Span
 | 21=>(Nat->Span)
 | 22=>(List Int)
 | 23=>z7n
 | 24=>z48
 | 25=>(List z48)
 | 26=>Pool
 | 27=>Bool
 | 28=>(Nat->Bool)
 | 29=>zb
 | 30=>zk
 | 31=>(List (List Int))
 | 32=>(Nat->Int)
 | 33=>(List ((Nat->Int)×Int))
 | 34=>zp
 | 35=>(Nat->Int)
 | 36=>(List zb)
 | 37=>(List zk)
 | 38=>Arc
 | 39=>(List Arc)
 | 40=>zj
 | 41=>Flow
 | 42=>zew
 | 43=>zd
 | 44=>(List zd)
 | 45=>zc
 | 46=>(List zc)
 | 47=>Plan
 | 48=>Ref
 | 49=>ByteArray
 | 50=>Part
 | 51=>(List Part)
 | 52=>Item
 | 53=>zh
 | 54=>(List zh)
 | 55=>(List (Nat->Int))
 | 56=>Int
 | 57=>(List Int)
 | 58=>Int
 | 59=>(Nat->Int)
 | 60=>(Nat->Int)
 | 61=>(Nat->Int)
 | _=>Unit
def TD :(c:Nat)->Ds TT (TT c)
 | 0=>.int .i64
 | 1=>.st [0,0,0] (fun t=>⟨t.1,t.2.1,t.2.2.1⟩) (fun x=>(x.kind,x.railway,x.other,())) (fun _=>rfl)
 | 2=>.sl 1
 | 3=>.st [0,0,0,0,0] (fun t=>⟨t.1,t.2.1,t.2.2.1,t.2.2.2.1,t.2.2.2.2.1⟩) (fun x=>(x.a,x.b,x.railway,x.minutes,x.km,())) (fun _=>rfl)
 | 4=>.sl 3
 | 5=>.st [2,4] (fun t=>⟨t.1,t.2.1⟩) (fun x=>(x.places,x.edges,())) (fun _=>rfl)
 | 6=>.int .u64
 | 7=>.st [0,0,0,0,0,6,0,0] (fun t=>⟨t.1,t.2.1,t.2.2.1,t.2.2.2.1,t.2.2.2.2.1,t.2.2.2.2.2.1,t.2.2.2.2.2.2.1,t.2.2.2.2.2.2.2.1⟩) (fun x=>(x.load,x.tare,x.length,x.gauge,x.brake,x.classes,x.life,x.floor,())) (fun _=>rfl)
 | 8=>.sl 7
 | 9=>.st [0,0,0,0,0] (fun t=>⟨t.1,t.2.1,t.2.2.1,t.2.2.2.1,t.2.2.2.2.1⟩) (fun x=>(x.type_,x.owner,x.home,x.built,x.worth,())) (fun _=>rfl)
 | 10=>.sl 9
 | 11=>.st [0,0,0] (fun t=>⟨t.1,t.2.1,t.2.2.1⟩) (fun x=>(x.wanted,x.given,x.cost,())) (fun _=>rfl)
 | 12=>.sl 11
 | 13=>.st [0,0,0] (fun t=>⟨t.1,t.2.1,t.2.2.1⟩) (fun x=>(x.from_,x.to,x.minutes,())) (fun _=>rfl)
 | 14=>.sl 13
 | 15=>.st [8,10,12,14] (fun t=>⟨t.1,t.2.1,t.2.2.1,t.2.2.2.1⟩) (fun x=>(x.types,x.wagons,x.swaps,x.washes,())) (fun _=>rfl)
 | 16=>.st [0,0,0] (fun t=>⟨t.1,t.2.1,t.2.2.1⟩) (fun x=>(x.place,x.low,x.high,())) (fun _=>rfl)
 | 17=>.sl 16
 | 18=>.st [0] (fun t=>⟨t.1⟩) (fun x=>(x.place,())) (fun _=>rfl)
 | 19=>.sl 18
 | 20=>.st [0,0] (fun t=>⟨t.1,t.2.1⟩) (fun x=>(x.from_,x.to,())) (fun _=>rfl)
 | 21=>.arr 7 20
 | 22=>.sl 0
 | 23=>.st [21,22] (fun t=>⟨t.1,t.2.1⟩) (fun x=>(x.open_,x.holidays,())) (fun _=>rfl)
 | 24=>.st [6,23] (fun t=>⟨t.1,t.2.1⟩) (fun x=>(x.key,x.calendar,())) (fun _=>rfl)
 | 25=>.sl 24
 | 26=>.st [5,15,17,19,25] (fun t=>⟨t.1,t.2.1,t.2.2.1,t.2.2.2.1,t.2.2.2.2.1⟩) (fun x=>(x.network,x.fleet,x.readers,x.shippers,x.railways,())) (fun _=>rfl)
 | 27=>.bool
 | 28=>.arr 4096 27
 | 29=>.st [0,0,0,0,0] (fun t=>⟨t.1,t.2.1,t.2.2.1,t.2.2.2.1,t.2.2.2.2.1⟩) (fun x=>(x.type_,x.class_,x.place,x.at_,x.count,())) (fun _=>rfl)
 | 30=>.st [0,0,0,0,0,0,0] (fun t=>⟨t.1,t.2.1,t.2.2.1,t.2.2.2.1,t.2.2.2.2.1,t.2.2.2.2.2.1,t.2.2.2.2.2.2.1⟩) (fun x=>(x.type_,x.class_,x.place,x.from_,x.to,x.count,x.weight,())) (fun _=>rfl)
 | 31=>.sl 22
 | 32=>.arr 2 0
 | 33=>.map 32 0
 | 34=>.st [31,33] (fun t=>⟨t.1,t.2.1⟩) (fun x=>(x.near,x.line,())) (fun _=>rfl)
 | 35=>.arr 32 0
 | 36=>.sl 29
 | 37=>.sl 30
 | 38=>.st [0,0,0,0] (fun t=>⟨t.1,t.2.1,t.2.2.1,t.2.2.2.1⟩) (fun x=>(x.from_,x.to,x.cap,x.cost,())) (fun _=>rfl)
 | 39=>.sl 38
 | 40=>.st [22,39] (fun t=>⟨t.1,t.2.1⟩) (fun x=>(x.supply,x.arcs,())) (fun _=>rfl)
 | 41=>.st [22,22] (fun t=>⟨t.1,t.2.1⟩) (fun x=>(x.x,x.price,())) (fun _=>rfl)
 | 42=>.st [40,22,22,22,31,31] (fun t=>⟨t.1,t.2.1,t.2.2.1,t.2.2.2.1,t.2.2.2.2.1,t.2.2.2.2.2.1⟩) (fun x=>(x.n,x.x,x.left,x.price,x.begin,x.end_,())) (fun _=>rfl)
 | 43=>.st [0,0,0,0] (fun t=>⟨t.1,t.2.1,t.2.2.1,t.2.2.2.1⟩) (fun x=>(x.arc,x.to,x.cost,x.room,())) (fun _=>rfl)
 | 44=>.sl 43
 | 45=>.st [0,0,0] (fun t=>⟨t.1,t.2.1,t.2.2.1⟩) (fun x=>(x.supply,x.order,x.count,())) (fun _=>rfl)
 | 46=>.sl 45
 | 47=>.st [46,0,22] (fun t=>⟨t.1,t.2.1,t.2.2.1⟩) (fun x=>(x.transfers,x.cost,x.price,())) (fun _=>rfl)
 | 48=>.st [0,0] (fun t=>⟨t.1,t.2.1⟩) (fun x=>(x.railway,x.no,())) (fun _=>rfl)
 | 49=>.str
 | 50=>.st [0,0,27] (fun t=>⟨t.1,t.2.1,t.2.2.1⟩) (fun x=>(x.kind,x.serial,x.fitted,())) (fun _=>rfl)
 | 51=>.sl 50
 | 52=>.st [0,48,0,0,0,0,0,0,0,0,0,0,0,49,51] (fun t=>⟨t.1,t.2.1,t.2.2.1,t.2.2.2.1,t.2.2.2.2.1,t.2.2.2.2.2.1,t.2.2.2.2.2.2.1,t.2.2.2.2.2.2.2.1,t.2.2.2.2.2.2.2.2.1,t.2.2.2.2.2.2.2.2.2.1,t.2.2.2.2.2.2.2.2.2.2.1,t.2.2.2.2.2.2.2.2.2.2.2.1,t.2.2.2.2.2.2.2.2.2.2.2.2.1,t.2.2.2.2.2.2.2.2.2.2.2.2.2.1,t.2.2.2.2.2.2.2.2.2.2.2.2.2.2.1⟩) (fun x=>(x.kind,x.ref,x.wagon,x.place,x.other,x.number,x.from_,x.to,x.code,x.dest,x.class_,x.weight,x.amount,x.text,x.parts,())) (fun _=>rfl)
 | 53=>.st [48,48,0,52] (fun t=>⟨t.1,t.2.1,t.2.2.1,t.2.2.2.1⟩) (fun x=>(x.ref,x.by_,x.time,x.item,())) (fun _=>rfl)
 | 54=>.sl 53
 | 55=>.sl 32
 | 56=>.int .u8
 | 57=>.sl 56
 | 58=>.int .u32
 | 59=>.arr 64 58
 | 60=>.arr 8 58
 | 61=>.arr 32 56
 | _+62=>.st [] (fun _=>()) (fun _=>()) (fun _=>rfl)
def TZ :(c:Nat)->TT c
 | 0=>(default:Int)
 | 1=>(default:zdv)
 | 2=>(default :(List zdv))
 | 3=>(default:Edge)
 | 4=>(default :(List Edge))
 | 5=>(default:z00)
 | 6=>(default:Int)
 | 7=>(default:z2k)
 | 8=>(default :(List z2k))
 | 9=>(default:zlj)
 | 10=>(default :(List zlj))
 | 11=>(default:Swap)
 | 12=>(default :(List Swap))
 | 13=>(default:Wash)
 | 14=>(default :(List Wash))
 | 15=>(default:z4a)
 | 16=>(default:zfb)
 | 17=>(default :(List zfb))
 | 18=>(default:zc4)
 | 19=>(default :(List zc4))
 | 20=>(default:Span)
 | 21=>(default :(Nat->Span))
 | 22=>(default :(List Int))
 | 23=>(default:z7n)
 | 24=>(default:z48)
 | 25=>(default :(List z48))
 | 26=>(default:Pool)
 | 27=>(default:Bool)
 | 28=>(default :(Nat->Bool))
 | 29=>(default:zb)
 | 30=>(default:zk)
 | 31=>(default :(List (List Int)))
 | 32=>(default :(Nat->Int))
 | 33=>(default :(List ((Nat->Int)×Int)))
 | 34=>(default:zp)
 | 35=>(default :(Nat->Int))
 | 36=>(default :(List zb))
 | 37=>(default :(List zk))
 | 38=>(default:Arc)
 | 39=>(default :(List Arc))
 | 40=>(default:zj)
 | 41=>(default:Flow)
 | 42=>(default:zew)
 | 43=>(default:zd)
 | 44=>(default :(List zd))
 | 45=>(default:zc)
 | 46=>(default :(List zc))
 | 47=>(default:Plan)
 | 48=>(default:Ref)
 | 49=>(default:ByteArray)
 | 50=>(default:Part)
 | 51=>(default :(List Part))
 | 52=>(default:Item)
 | 53=>(default:zh)
 | 54=>(default :(List zh))
 | 55=>(default :(List (Nat->Int)))
 | 56=>(default:Int)
 | 57=>(default :(List Int))
 | 58=>(default:Int)
 | 59=>(default :(Nat->Int))
 | 60=>(default :(Nat->Int))
 | 61=>(default :(Nat->Int))
 | _+62=>()
def TC (t:Nat):Nat:=(lk [(2,0),(3,0),(4,27),(5,56),(6,56),(9,49),(10,49),(11,49),(12,6),(22,2),(23,4),(25,5),(26,8),(27,10),(28,12),(29,14),(31,15),(32,17),(33,19),(34,25),(36,26),(37,36),(38,37),(41,46),(42,22),(44,47),(45,0),(49,29),(51,30),(53,57),(60,45),(62,39),(64,40),(68,41),(77,38),(85,48),(86,51),(88,52),(90,53),(91,54),(97,6),(102,16),(104,18),(106,20),(107,21),(109,23),(112,24),(124,31),(126,42),(129,33),(131,34),(137,1),(139,3),(141,7),(143,11),(145,13),(150,55),(152,32),(154,9),(156,61),(157,61),(184,28),(185,44),(189,43),(192,35),(195,6),(199,58),(200,60),(208,0),(216,59),(224,6),(243,56),(244,56),(252,50)] t).getD 62
def TV:TE:=⟨TT,TD,TZ,TC,fun c=>match c with | 0=>rfl | 1=>rfl | 2=>rfl | 3=>rfl | 4=>rfl | 5=>rfl | 6=>rfl | 7=>rfl | 8=>rfl | 9=>rfl | 10=>rfl | 11=>rfl | 12=>rfl | 13=>rfl | 14=>rfl | 15=>rfl | 16=>rfl | 17=>rfl | 18=>rfl | 19=>rfl | 20=>rfl | 21=>rfl | 22=>rfl | 23=>rfl | 24=>rfl | 25=>rfl | 26=>rfl | 27=>rfl | 28=>rfl | 29=>rfl | 30=>rfl | 31=>rfl | 32=>rfl | 33=>rfl | 34=>rfl | 35=>rfl | 36=>rfl | 37=>rfl | 38=>rfl | 39=>rfl | 40=>rfl | 41=>rfl | 42=>rfl | 43=>rfl | 44=>rfl | 45=>rfl | 46=>rfl | 47=>rfl | 48=>rfl | 49=>rfl | 50=>rfl | 51=>rfl | 52=>rfl | 53=>rfl | 54=>rfl | 55=>rfl | 56=>rfl | 57=>rfl | 58=>rfl | 59=>rfl | 60=>rfl | 61=>rfl | _+62=>rfl⟩
def z4m :(Nat->Int)->List Int:=TV.kl 32
def znu (l:List Int):Option (List Int):=zio l
def Good {R:Type} (r:R) (y:Option (List (Option R))):Prop:=∃ L,y=some L/\∀ a∈L,a=some r
theorem Good.one {R:Type} {r:R} {x:Option R} (h:x=some r):Good r (some [x]):=⟨_,rfl,fun a ha=>by rw [w0k] at ha; rw [ha,h]⟩
theorem Good.nil {R:Type} {r:R} : Good r (catL ([]:List (Option (List (Option R))))):=⟨[],rfl,fun a ha=>by cases ha⟩
theorem Good.cons {R:Type} {r:R} {y:Option (List (Option R))} {ys:List (Option (List (Option R)))} (h:Good r y) (k:Good r (catL ys)):Good r (catL (y::ys)):=by
 obtain⟨L,rfl,h1⟩:=h
 obtain⟨M,e,h2⟩:=k
 refine⟨L++M,by simp only [catL,e,cat2],fun a ha=>?_⟩
 rcases w0l.1 ha with h | h
 ·exact h1 a h
 ·exact h2 a h
theorem Good.ck {R:Type} {r:R} {p:Prop} [Decidable p] {y:Option (List (Option R))} (h:p) (k:Good r y):Good r (ck p y):=by
 unfold Px.ck; rw [if_pos h]; exact k
theorem ckS {R:Type} {r:R} {p:Prop} [Decidable p] {x:Option R} (h:ck p x=some r):p/\x=some r:=by
 unfold ck at h
 split at h
 ·rename_i hp; exact⟨hp,h⟩
 ·cases h
def z8t (φ:Nat):Option (Pool×Unit):=(some ((⟨(⟨[(⟨2,0,-1⟩:zdv),(⟨4,0,-1⟩:zdv),(⟨2,0,-1⟩:zdv)],[(⟨0,1,0,30,0⟩:Edge),(⟨1,2,0,50,0⟩:Edge)]⟩:z00),(⟨[(⟨0,0,0,0,0,6,1,0⟩:z2k),(⟨0,0,0,0,0,6,1,0⟩:z2k)],([]:List zlj),[(⟨0,1,7⟩:Swap)],[(⟨1,2,15⟩:Wash)]⟩:z4a),([]:List zfb),([]:List zc4),[(⟨4,(⟨fun _=>(default:Span),([]:List Int)⟩:z7n)⟩:z48)]⟩:Pool),()))
def zaf (φ:Nat):Fsp TV:=⟨[],[.val 26],fun z=>z8t φ⟩
def z8l (φ:Nat) (x1:zdv):Option (Bool×Unit):=(if((((decide ((x1.kind:Int)<1))||(decide ((5:Int)<x1.kind)))||(decide ((x1.railway:Int)<0)))||(decide ((16:Int)<=x1.railway)))=true then(some (false,())) else(if((x1.kind:Int) !=3)=true then(some (((x1.other:Int)==(-1)),())) else(some ((((decide ((0:Int)<=x1.other))&&(decide ((x1.other:Int)<16)))&&((x1.other:Int) !=x1.railway)),()))))
def z9w (φ:Nat):Fsp TV:=⟨[1],[.val 27],fun z=>z8l φ z.1⟩
def z1r (φ:Nat):Nat->Int->(List Edge)->Int->Int->Option (Int×Unit)
 | 0,_,_,_,_=>none
 | n13+1,x9,x10,x11,x12=>(if(decide (x12<x11))=true then(ck (rg x12 x10.length) (if(((((((decide (((min2 ((min2 (min2 ((gt x10 x12).a) ((gt x10 x12).b)) ((gt x10 x12).railway))) ((gt x10 x12).km)):Int)<0))||(decide (x9<=(max2 ((gt x10 x12).a) ((gt x10 x12).b)))))||(((gt x10 x12).a:Int)==(gt x10 x12).b))||(decide ((16:Int)<=(gt x10 x12).railway)))||(decide (((gt x10 x12).minutes:Int)<1)))||(decide ((100000:Int) <(gt x10 x12).minutes)))||(decide ((10000:Int) <(gt x10 x12).km)))=true then(some (1,())) else((z1r φ n13) x9 x10 x11 (W (x12+1))))) else(some (0,())))
def z3c (φ:Nat):Nat->Int->(List zdv)->Int->Int->z00->Option (Int×Unit)
 | 0,_,_,_,_,_=>none
 | n7+1,x2,x3,x4,x5,x6=>(if(decide (x5<x4))=true then(ck (rg x5 x3.length) ((z8l φ (gt x3 x5)).bind fun y8=>(if(!y8.1)=true then(some (1,())) else((z3c φ n7) x2 x3 x4 (W (x5+1)) x6)))) else(z1r φ φ x2 x6.edges (x6.edges.length:Int) 0))
def z6o (φ:Nat) (x1:z00):Option (Int×Unit):=(if((decide ((512:Int) <(x1.places.length:Int)))||(decide ((2048:Int) <(x1.edges.length:Int))))=true then(some (2,())) else(z3c φ φ (x1.places.length:Int) x1.places (x1.places.length:Int) 0 x1))
def z6f (φ:Nat):Fsp TV:=⟨[5],[.val 0],fun z=>z6o φ z.1⟩
def zq (φ:Nat) (x1 x2 x3:Int):Option (Bool×Unit):=(some (((decide (x2<=x1))&&(decide (x1<=x3))),()))
def z44 (φ:Nat):Fsp TV:=⟨[0,0,0],[.val 27],kk3 (zq φ)⟩
def z2a (φ:Nat) (k7 :((List z2k)->Int->Int->z4a->Int->Option (Int×Unit))):Nat->(List z2k)->Int->Int->Int->Int->z4a->Int->z2k->(List Int)->Option (Int×Unit)
 | 0,_,_,_,_,_,_,_,_,_=>none
 | n17+1,x8,x9,x10,x11,x12,x13,x14,x15,x16=>(if(decide (x12<x11))=true then(ck (rg x12 x16.length) ((zq φ (gt x16 x12) 0 1000000).bind fun y18=>(if(!y18.1)=true then((z2a φ k7 n17) x8 x9 x10 x11 (W (x12+1)) x13 1 x15 x16) else((z2a φ k7 n17) x8 x9 x10 x11 (W (x12+1)) x13 x14 x15 x16)))) else((zq φ x15.gauge 0 7).bind fun y19=>((z0q (default,()) (y19.1=true) (zq φ x15.life 1 1073741824)).bind fun y20=>((z0q (default,()) ((y19.1&&y20.1)=true) (zq φ x15.floor 0 100)).bind fun y21=>(if(!((y19.1&&y20.1)&&y21.1))=true then(k7 x8 x9 (W (x10+1)) x13 1) else(k7 x8 x9 (W (x10+1)) x13 x14))))))
def zy (φ:Nat):Nat->(List Wash)->Int->Int->Int->(Nat->Bool)->Option (Int×Unit)
 | 0,_,_,_,_,_=>none
 | n49+1,x44,x45,x46,x47,x48=>(if(decide (x46<x45))=true then(ck (rg x46 x44.length) ((zq φ ((gt x44 x46).from_) 0 63).bind fun y50=>((z0q (default,()) (y50.1=true) (zq φ ((gt x44 x46).to) 0 63)).bind fun y51=>((z0q (default,()) (((y50.1&&y51.1)&&(((gt x44 x46).from_:Int) !=(gt x44 x46).to))=true) (zq φ ((gt x44 x46).minutes) 0 100000)).bind fun y52=>(if(!(((y50.1&&y51.1)&&(((gt x44 x46).from_:Int) !=(gt x44 x46).to))&&y52.1))=true then(if(((y50.1&&y51.1)&&(((gt x44 x46).from_:Int) !=(gt x44 x46).to))&&y52.1)=true then(ck (rg (gt x44 x46).from_ 64) (ck (rg (gt x44 x46).to 64) (if(!(!(x48 (((((gt x44 x46).from_:Int).toNat*64) +((gt x44 x46).to:Int).toNat)))))=true then(ck (rg (gt x44 x46).from_ 64) (ck (rg (gt x44 x46).to 64) ((zy φ n49) x44 x45 (W (x46+1)) 1 ((upd x48 (((((gt x44 x46).from_:Int).toNat*64) +((gt x44 x46).to:Int).toNat)) true))))) else(ck (rg (gt x44 x46).from_ 64) (ck (rg (gt x44 x46).to 64) ((zy φ n49) x44 x45 (W (x46+1)) 1 ((upd x48 (((((gt x44 x46).from_:Int).toNat*64) +((gt x44 x46).to:Int).toNat)) true)))))))) else((zy φ n49) x44 x45 (W (x46+1)) 1 x48)) else(if(((y50.1&&y51.1)&&(((gt x44 x46).from_:Int) !=(gt x44 x46).to))&&y52.1)=true then(ck (rg (gt x44 x46).from_ 64) (ck (rg (gt x44 x46).to 64) (if(!(!(x48 (((((gt x44 x46).from_:Int).toNat*64) +((gt x44 x46).to:Int).toNat)))))=true then(ck (rg (gt x44 x46).from_ 64) (ck (rg (gt x44 x46).to 64) ((zy φ n49) x44 x45 (W (x46+1)) 1 ((upd x48 (((((gt x44 x46).from_:Int).toNat*64) +((gt x44 x46).to:Int).toNat)) true))))) else(ck (rg (gt x44 x46).from_ 64) (ck (rg (gt x44 x46).to 64) ((zy φ n49) x44 x45 (W (x46+1)) x47 ((upd x48 (((((gt x44 x46).from_:Int).toNat*64) +((gt x44 x46).to:Int).toNat)) true)))))))) else((zy φ n49) x44 x45 (W (x46+1)) x47 x48))))))) else(some (x47,())))
def z0u (φ:Nat):Nat->(List Swap)->Int->Int->z4a->Int->Option (Int×Unit)
 | 0,_,_,_,_,_=>none
 | n40+1,x35,x36,x37,x38,x39=>(if(decide (x37<x36))=true then(ck (rg x37 x35.length) ((zq φ ((gt x35 x37).wanted) 0 (W ((x38.types.length:Int)-1))).bind fun y41=>((z0q (default,()) (y41.1=true) (zq φ ((gt x35 x37).given) 0 (W ((x38.types.length:Int)-1)))).bind fun y42=>((z0q (default,()) (((y41.1&&y42.1)&&(((gt x35 x37).wanted:Int) !=(gt x35 x37).given))=true) (zq φ ((gt x35 x37).cost) 0 1000000000)).bind fun y43=>(if(!(((y41.1&&y42.1)&&(((gt x35 x37).wanted:Int) !=(gt x35 x37).given))&&y43.1))=true then((z0u φ n40) x35 x36 (W (x37+1)) x38 1) else((z0u φ n40) x35 x36 (W (x37+1)) x38 x39)))))) else(zy φ φ x38.washes (x38.washes.length:Int) 0 x39 (fun _=>(default:Bool))))
def z0c (φ:Nat):Nat->(List zlj)->Int->Int->z4a->Int->Option (Int×Unit)
 | 0,_,_,_,_,_=>none
 | n27+1,x22,x23,x24,x25,x26=>(if(decide (x24<x23))=true then(ck (rg x24 x22.length) ((zq φ ((gt x22 x24).type_) 0 (W ((x25.types.length:Int)-1))).bind fun y28=>((z0q (default,()) (y28.1=true) (zq φ ((gt x22 x24).owner) 0 63)).bind fun y29=>((z0q (default,()) ((y28.1&&y29.1)=true) (zq φ ((gt x22 x24).home) 0 511)).bind fun y30=>(if(!((y28.1&&y29.1)&&y30.1))=true then((zq φ ((gt x22 x24).built) 0 1073741824).bind fun y31=>((z0q (default,()) (y31.1=true) (zq φ ((gt x22 x24).worth) 0 1099511627776)).bind fun y32=>(if(!(y31.1&&y32.1))=true then((z0c φ n27) x22 x23 (W (x24+1)) x25 1) else((z0c φ n27) x22 x23 (W (x24+1)) x25 1)))) else((zq φ ((gt x22 x24).built) 0 1073741824).bind fun y33=>((z0q (default,()) (y33.1=true) (zq φ ((gt x22 x24).worth) 0 1099511627776)).bind fun y34=>(if(!(y33.1&&y34.1))=true then((z0c φ n27) x22 x23 (W (x24+1)) x25 1) else((z0c φ n27) x22 x23 (W (x24+1)) x25 x26))))))))) else(z0u φ φ x25.swaps (x25.swaps.length:Int) 0 x25 x26))
def z3m (φ:Nat):Nat->(List z2k)->Int->Int->z4a->Int->Option (Int×Unit)
 | 0,_,_,_,_,_=>none
 | n7+1,x2,x3,x4,x5,x6=>(if(decide (x4<x3))=true then(ck (rg x4 x2.length) (z2a φ (z3m φ n7) φ x2 x3 x4 (([(gt x2 x4).load,(gt x2 x4).tare,(gt x2 x4).length,(gt x2 x4).brake]).length:Int) 0 x5 x6 (gt x2 x4) ([(gt x2 x4).load,(gt x2 x4).tare,(gt x2 x4).length,(gt x2 x4).brake]))) else(z0c φ φ x5.wagons (x5.wagons.length:Int) 0 x5 x6))
def z77 (φ:Nat) (x1:z4a):Option (Int×Unit):=(if((((decide ((32:Int) <(x1.types.length:Int)))||(decide ((4096:Int) <(x1.wagons.length:Int))))||(decide ((1024:Int) <(x1.swaps.length:Int))))||(decide ((4096:Int) <(x1.washes.length:Int))))=true then(some (2,())) else(z3m φ φ x1.types (x1.types.length:Int) 0 x1 0))
def z66 (φ:Nat):Fsp TV:=⟨[15],[.val 0],fun z=>z77 φ z.1⟩
def z2c (φ:Nat):Nat->Int->(List Int)->Int->Int->Option (Int×Unit)
 | 0,_,_,_,_=>none
 | n10+1,x6,x7,x8,x9=>(if(decide (x9<x8))=true then(ck (rg x9 x7.length) (if((decide (((gt x7 x9):Int)<=x6))||(decide ((745654:Int) <(gt x7 x9))))=true then(some (1,())) else((z2c φ n10) (gt x7 x9) x7 x8 (W (x9+1))))) else(some (0,())))
def z2u (φ:Nat):Nat->(Nat->Span)->Int->z7n->Option (Int×Unit)
 | 0,_,_,_=>none
 | n5+1,x2,x3,x4=>(if(decide (x3<7))=true then(ck (rg x3 7) (if(((decide (((x2 x3.toNat).from_:Int)<0))||(decide (((x2 x3.toNat).to:Int) <(x2 x3.toNat).from_)))||(decide ((1440:Int) <(x2 x3.toNat).to)))=true then(some (1,())) else((z2u φ n5) x2 (W (x3+1)) x4))) else(z2c φ φ (-1) x4.holidays (x4.holidays.length:Int) 0))
def z7r (φ:Nat) (x1:z7n):Option (Int×Unit):=(z2u φ φ x1.open_ 0 x1)
def z8g (φ:Nat):Fsp TV:=⟨[23],[.val 0],fun z=>z7r φ z.1⟩
def z7a (φ:Nat) (x1 x2:Int):Option (Int×Int×Unit):=(if 0<=(32:Int) then(if 0<=(32:Int) then(if 0<=(32:Int) then(if 0<=(32:Int) then(if 0<=(32:Int) then(some ((U ((U ((U ((x1.fdiv (2 ^ (min (32:Int).toNat 64))) *(x2.fdiv (2 ^ (min (32:Int).toNat 64))))) +(((U ((U ((x1.fdiv (2 ^ (min (32:Int).toNat 64))) *(U ((BitVec.ofInt 64 x2&&& BitVec.ofInt 64 4294967295).toNat)))) +(((U ((U ((BitVec.ofInt 64 x1&&& BitVec.ofInt 64 4294967295).toNat)) *(U ((BitVec.ofInt 64 x2&&& BitVec.ofInt 64 4294967295).toNat)))):Int).fdiv (2 ^ (min (32:Int).toNat 64))))):Int).fdiv (2 ^ (min (32:Int).toNat 64))))) +(((U ((U ((BitVec.ofInt 64 (U ((U ((x1.fdiv (2 ^ (min (32:Int).toNat 64))) *(U ((BitVec.ofInt 64 x2&&& BitVec.ofInt 64 4294967295).toNat)))) +(((U ((U ((BitVec.ofInt 64 x1&&& BitVec.ofInt 64 4294967295).toNat)) *(U ((BitVec.ofInt 64 x2&&& BitVec.ofInt 64 4294967295).toNat)))):Int).fdiv (2 ^ (min (32:Int).toNat 64)))))&&& BitVec.ofInt 64 4294967295).toNat)) +(U ((U ((BitVec.ofInt 64 x1&&& BitVec.ofInt 64 4294967295).toNat)) *(x2.fdiv (2 ^ (min (32:Int).toNat 64))))))):Int).fdiv (2 ^ (min (32:Int).toNat 64))))),(U (x1*x2)),())) else none) else none) else none) else none) else none)
def zdw (φ:Nat):Fsp TV:=⟨[6,6],[.val 6,.val 6],kk2 (z7a φ)⟩
def z1c (φ:Nat) (x8 x9:Int):Option (Int×Unit):=(ck (rg (IntKind.wrap .u8 (x8)) zz.size) (some ((W (64 -(W (x9 +(W ((z9e zz (IntKind.wrap .u8 (x8))))))))),())))
def z1m (φ:Nat) (x5 x6:Int):Option (Int×Unit):=(if(decide ((256:Int)<=x5))=true then(if 0<=(8:Int) then(z1c φ ((x5.fdiv (2 ^ (min (8:Int).toNat 64)))) (W (x6+8))) else none) else(z1c φ x5 x6))
def z1n (φ:Nat) (x2 x3:Int):Option (Int×Unit):=(if(decide ((65536:Int)<=x2))=true then(if 0<=(16:Int) then(z1m φ ((x2.fdiv (2 ^ (min (16:Int).toNat 64)))) (W (x3+16))) else none) else(z1m φ x2 x3))
def z2y (φ:Nat) (x1:Int):Option (Int×Unit):=(if(decide ((4294967296:Int)<=x1))=true then(if 0<=(32:Int) then(z1n φ ((x1.fdiv (2 ^ (min (32:Int).toNat 64)))) 32) else none) else(z1n φ x1 0))
def z54 (φ:Nat):Fsp TV:=⟨[6],[.val 0],fun z=>z2y φ z.1⟩
def z5r (φ:Nat) (x14 x15 x16 x17 x18 x19:Int):Option (Int×Int×Unit):=(ck (0<=x15) (some ((U ((U (x17*4294967296))+x19)),(((U ((U ((U (x18*4294967296))+x16)) -(U (x19*x14)))):Int).fdiv (2 ^ (min x15.toNat 64))),())))
def z5s (φ:Nat):Nat->Int->Int->Int->Int->Int->Int->Int->Int->Int->Option (Int×Int×Unit)
 | 0,_,_,_,_,_,_,_,_,_=>none
 | n30+1,x21,x22,x23,x24,x25,x26,x27,x28,x29=>(if((decide ((4294967296:Int)<=x29))||(decide (((U ((U (4294967296*x27))+x25)):Int) <(U (x29*x24)))))=true then(if(decide ((4294967296:Int)<=(U (x27+x23))))=true then(z5r φ x21 x22 x25 x26 x28 (U (x29-1))) else((z5s φ n30) x21 x22 x23 x24 x25 x26 (U (x27+x23)) x28 (U (x29-1)))) else(z5r φ x21 x22 x25 x26 x28 x29))
def z5n (φ:Nat) (x5 x6 x7 x8 x9 x10 x11 x12:Int):Option (Int×Int×Unit):=(ck (x7≠0) (z5s φ φ x5 x6 x7 x8 x11 x12 ((U ((U ((U ((U (x9*4294967296))+x10)) -(U (x12*x5)))) -(U ((U (((U ((U ((U (x9*4294967296))+x10)) -(U (x12*x5)))):Int).tdiv x7))*x7))))) ((U ((U ((U (x9*4294967296))+x10)) -(U (x12*x5))))) ((U (((U ((U ((U (x9*4294967296))+x10)) -(U (x12*x5)))):Int).tdiv x7)))))
def z5q (φ:Nat):Nat->Int->Int->Int->Int->Int->Int->Int->Int->Int->Option (Int×Int×Unit)
 | 0,_,_,_,_,_,_,_,_,_=>none
 | n40+1,x31,x32,x33,x34,x35,x36,x37,x38,x39=>(if((decide ((4294967296:Int)<=x38))||(decide (((U ((U (4294967296*x39))+x36)):Int) <(U (x38*x34)))))=true then(if(decide ((4294967296:Int)<=(U (x39+x33))))=true then(z5n φ x31 x32 x33 x34 x35 x36 x37 (U (x38-1))) else((z5q φ n40) x31 x32 x33 x34 x35 x36 x37 (U (x38-1)) (U (x39+x33)))) else(z5n φ x31 x32 x33 x34 x35 x36 x37 x38))
def z64 (φ:Nat) (x1 x2 x3:Int):Option (Int×Int×Unit):=(if(x3==0)=true then none else(if(decide (x3<=x1))=true then none else(if(x1==0)=true then(ck (x3≠0) (ck (x3≠0) (some ((U (x2.tdiv x3)),(x2.tmod x3),())))) else((z2y φ x3).bind fun y4=>(ck (0<=(U (y4.1))) (if 0<=(32:Int) then(ck (0<=(U (y4.1))) (ck (0<=(U (64 -(U (y4.1))))) (ck (0<=(U (y4.1))) (if 0<=(32:Int) then(ck ((((U (x3*2 ^ (min ((U (y4.1)):Int).toNat 64))):Int).fdiv (2 ^ (min (32:Int).toNat 64)))≠0) (z5q φ φ ((U (x3*2 ^ (min ((U (y4.1)):Int).toNat 64)))) (U (y4.1)) ((((U (x3*2 ^ (min ((U (y4.1)):Int).toNat 64))):Int).fdiv (2 ^ (min (32:Int).toNat 64)))) ((U ((BitVec.ofInt 64 (U (x3*2 ^ (min ((U (y4.1)):Int).toNat 64)))&&& BitVec.ofInt 64 4294967295).toNat))) ((U ((BitVec.ofInt 64 (U (x1*2 ^ (min ((U (y4.1)):Int).toNat 64)))||| BitVec.ofInt 64 (x2.fdiv (2 ^ (min ((U (64 -(U (y4.1)))):Int).toNat 64)))).toNat))) ((((U (x2*2 ^ (min ((U (y4.1)):Int).toNat 64))):Int).fdiv (2 ^ (min (32:Int).toNat 64)))) ((U ((BitVec.ofInt 64 (U (x2*2 ^ (min ((U (y4.1)):Int).toNat 64)))&&& BitVec.ofInt 64 4294967295).toNat))) ((U (((U ((BitVec.ofInt 64 (U (x1*2 ^ (min ((U (y4.1)):Int).toNat 64)))||| BitVec.ofInt 64 (x2.fdiv (2 ^ (min ((U (64 -(U (y4.1)))):Int).toNat 64)))).toNat)):Int).tdiv (((U (x3*2 ^ (min ((U (y4.1)):Int).toNat 64))):Int).fdiv (2 ^ (min (32:Int).toNat 64)))))) ((U ((U ((BitVec.ofInt 64 (U (x1*2 ^ (min ((U (y4.1)):Int).toNat 64)))||| BitVec.ofInt 64 (x2.fdiv (2 ^ (min ((U (64 -(U (y4.1)))):Int).toNat 64)))).toNat)) -(U ((U (((U ((BitVec.ofInt 64 (U (x1*2 ^ (min ((U (y4.1)):Int).toNat 64)))||| BitVec.ofInt 64 (x2.fdiv (2 ^ (min ((U (64 -(U (y4.1)))):Int).toNat 64)))).toNat)):Int).tdiv (((U (x3*2 ^ (min ((U (y4.1)):Int).toNat 64))):Int).fdiv (2 ^ (min (32:Int).toNat 64))))) *(((U (x3*2 ^ (min ((U (y4.1)):Int).toNat 64))):Int).fdiv (2 ^ (min (32:Int).toNat 64)))))))))) else none)))) else none))))))
def zdj (φ:Nat):Fsp TV:=⟨[6,6,6],[.val 6,.val 6],kk3 (z64 φ)⟩
def z7w (φ:Nat) (k30 :(Int->Int->Int->Int->Int->Int->Option (Int×Unit))) (x55 x56 x57 x58 x59 x60 x61 x62 x63 x64:Int):Option (Int×Unit):=(ck (rg (IntKind.wrap .u8 (x55)) zz.size) (ck (0<=(W ((W ((W (x56 +(W ((z9e zz (IntKind.wrap .u8 (x55)))))))-1))-x60))) (if(((U ((BitVec.ofInt 64 (x63.fdiv (2 ^ (min ((W ((W ((W (x56 +(W ((z9e zz (IntKind.wrap .u8 (x55)))))))-1))-x60)):Int).toNat 64)))&&& BitVec.ofInt 64 1).toNat)):Int)==1)=true then(ck (x64≠0) (ck (x64≠0) ((z7a φ (x59.tmod x64) (x57.tmod x64)).bind fun y66=>((z64 φ y66.1 y66.2.1 x64).bind fun y67=>(k30 x57 x58 y67.2.1 x61 (W (x62+1)) x64))))) else(k30 x57 x58 x59 x61 (W (x62+1)) x64))))
def z7s (φ:Nat) (k30 :(Int->Int->Int->Int->Int->Int->Option (Int×Unit))) (x44 x45 x46 x47 x48 x49 x50 x51 x52 x53:Int):Option (Int×Unit):=(if(decide ((256:Int)<=x44))=true then(if 0<=(8:Int) then(z7w φ k30 ((x44.fdiv (2 ^ (min (8:Int).toNat 64)))) (W (x45+8)) x46 x47 x48 x49 x50 x51 x52 x53) else none) else(z7w φ k30 x44 x45 x46 x47 x48 x49 x50 x51 x52 x53))
def z3f (φ:Nat) (k30 :(Int->Int->Int->Int->Int->Int->Option (Int×Unit))) (x33 x34 x35 x36 x37 x38 x39 x40 x41 x42:Int):Option (Int×Unit):=(if(decide ((65536:Int)<=x33))=true then(if 0<=(16:Int) then(z7s φ k30 ((x33.fdiv (2 ^ (min (16:Int).toNat 64)))) (W (x34+16)) x35 x36 x37 x38 x39 x40 x41 x42) else none) else(z7s φ k30 x33 x34 x35 x36 x37 x38 x39 x40 x41 x42))
def z0j (φ:Nat):Nat->Int->Int->Int->Int->Int->Int->Option (Int×Unit)
 | 0,_,_,_,_,_,_=>none
 | n30+1,x24,x25,x26,x27,x28,x29=>(if(decide (x28<x27))=true then(ck (x29≠0) (ck (x29≠0) ((z7a φ (x26.tmod x29) (x26.tmod x29)).bind fun y31=>((z64 φ y31.1 y31.2.1 x29).bind fun y32=>(if(decide ((4294967296:Int)<=x25))=true then(if 0<=(32:Int) then(z3f φ (z0j φ n30) ((x25.fdiv (2 ^ (min (32:Int).toNat 64)))) 32 x24 x25 y32.2.1 x28 x27 x28 x25 x29) else none) else(z3f φ (z0j φ n30) x25 0 x24 x25 y32.2.1 x28 x27 x28 x25 x29)))))) else(some (x26,())))
def z7t (φ:Nat) (x17 x18 x19 x20 x21 x22:Int):Option (Int×Unit):=(ck (rg (IntKind.wrap .u8 (x17)) zz.size) (z0j φ φ x19 x20 x21 ((W (x18 +(W ((z9e zz (IntKind.wrap .u8 (x17)))))))) 0 x22))
def z7u (φ:Nat) (x10 x11 x12 x13 x14 x15:Int):Option (Int×Unit):=(if(decide ((256:Int)<=x10))=true then(if 0<=(8:Int) then(z7t φ ((x10.fdiv (2 ^ (min (8:Int).toNat 64)))) (W (x11+8)) x12 x13 x14 x15) else none) else(z7t φ x10 x11 x12 x13 x14 x15))
def z9c (φ:Nat) (x3 x4 x5 x6 x7 x8:Int):Option (Int×Unit):=(if(decide ((65536:Int)<=x3))=true then(if 0<=(16:Int) then(z7u φ ((x3.fdiv (2 ^ (min (16:Int).toNat 64)))) (W (x4+16)) x5 x6 x7 x8) else none) else(z7u φ x3 x4 x5 x6 x7 x8))
def zfe (φ:Nat) (x1 x2:Int):Option (Int×Unit):=(if(decide ((4294967296:Int)<=x2))=true then(if 0<=(32:Int) then(z9c φ ((x2.fdiv (2 ^ (min (32:Int).toNat 64)))) 32 x1 x2 1 2305843009213690799) else none) else(z9c φ x2 0 x1 x2 1 2305843009213690799))
def zh7 (φ:Nat):Fsp TV:=⟨[6,6],[.val 6],kk2 (zfe φ)⟩
def zeg (φ:Nat) (x1:Int):Option (Bool×Unit):=((z0q (default,()) (((decide ((2:Int)<=x1))&&(decide (x1<2305843009213690799)))=true) (zfe φ x1 1152921504606845399)).bind fun y2=>(some ((((decide ((2:Int)<=x1))&&(decide (x1<2305843009213690799)))&&(y2.1==1)),())))
def zds (φ:Nat):Fsp TV:=⟨[6],[.val 27],fun z=>zeg φ z.1⟩
def z0z (φ:Nat):Nat->Bool->(List z48)->Int->Int->Option (Int×Unit)
 | 0,_,_,_,_=>none
 | n48+1,x44,x45,x46,x47=>(if(decide (x47<x46))=true then(ck (rg x47 x45.length) ((z0q (default,()) (x44=false) (z7r φ ((gt x45 x47).calendar))).bind fun y49=>((z0q (default,()) ((x44||(y49.1 !=0))=false) (zeg φ ((gt x45 x47).key))).bind fun y50=>((z0z φ n48) (((x44||(y49.1 !=0))||(!y50.1))) x45 x46 (W (x47+1)))))) else(if x44=true then(some (1,())) else(some (0,()))))
def z11 (φ:Nat):Nat->Int->Bool->(List Edge)->Int->Int->Pool->Option (Int×Unit)
 | 0,_,_,_,_,_,_=>none
 | n43+1,x37,x38,x39,x40,x41,x42=>(if(decide (x41<x40))=true then(ck (rg x41 x39.length) ((z11 φ n43) x37 ((x38||(decide (x37<=(gt x39 x41).railway)))) x39 x40 (W (x41+1)) x42)) else(z0z φ φ x38 x42.railways (x42.railways.length:Int) 0))
def z12 (φ:Nat):Nat->Int->Bool->(List zdv)->Int->Int->Pool->Option (Int×Unit)
 | 0,_,_,_,_,_,_=>none
 | n36+1,x30,x31,x32,x33,x34,x35=>(if(decide (x34<x33))=true then(ck (rg x34 x32.length) ((z12 φ n36) x30 (((x31||(decide (x30<=(gt x32 x34).railway)))||(decide (x30<=(gt x32 x34).other)))) x32 x33 (W (x34+1)) x35)) else(z11 φ φ x30 x31 x35.network.edges (x35.network.edges.length:Int) 0 x35))
def z0y (φ:Nat):Nat->(List zdv)->Int->Bool->(List zlj)->Int->Int->Pool->Option (Int×Unit)
 | 0,_,_,_,_,_,_,_=>none
 | n29+1,x22,x23,x24,x25,x26,x27,x28=>(if(decide (x27<x26))=true then(ck (rg x27 x25.length) ((z0y φ n29) x22 x23 ((x24||(decide (((x22.length:Int):Int)<=(gt x25 x27).home)))) x25 x26 (W (x27+1)) x28)) else(z12 φ φ x23 x24 x22 (x22.length:Int) 0 x28))
def z10 (φ:Nat):Nat->(List zdv)->Int->Bool->(List zc4)->Int->Int->Pool->Option (Int×Unit)
 | 0,_,_,_,_,_,_,_=>none
 | n20+1,x13,x14,x15,x16,x17,x18,x19=>(if(decide (x18<x17))=true then(ck (rg x18 x16.length) ((z0q (default,()) (x15=false) (zq φ ((gt x16 x18).place) 0 (W ((x13.length:Int)-1)))).bind fun y21=>(ck (((x15||(!y21.1))=false)->rg (gt x16 x18).place x13.length) ((z10 φ n20) x13 x14 (((x15||(!y21.1))||(((gt x13 ((gt x16 x18).place)).kind:Int) !=4))) x16 x17 (W (x18+1)) x19)))) else(z0y φ φ x13 x14 x15 x19.fleet.wagons (x19.fleet.wagons.length:Int) 0 x19))
def z1q (φ:Nat):Nat->(List zdv)->Int->Bool->(List zfb)->Int->Int->Pool->Option (Int×Unit)
 | 0,_,_,_,_,_,_,_=>none
 | n11+1,x4,x5,x6,x7,x8,x9,x10=>(if(decide (x9<x8))=true then(ck (rg x9 x7.length) ((z0q (default,()) (x6=false) (zq φ ((gt x7 x9).place) 0 (W ((x4.length:Int)-1)))).bind fun y12=>((z1q φ n11) x4 x5 (((((x6||(!y12.1))||(decide (((gt x7 x9).low:Int) <(-1000))))||(decide (((gt x7 x9).high:Int) <(gt x7 x9).low)))||(decide ((1000:Int) <(gt x7 x9).high)))) x7 x8 (W (x9+1)) x10))) else(z10 φ φ x4 x5 x6 x10.shippers (x10.shippers.length:Int) 0 x10))
def z19 (φ:Nat) (x1:Pool):Option (Int×Unit):=((z6o φ x1.network).bind fun y2=>(if(y2.1 !=0)=true then(some (y2.1,())) else((z77 φ x1.fleet).bind fun y3=>(if(y3.1 !=0)=true then(some (y3.1,())) else(if(((decide ((256:Int) <(x1.readers.length:Int)))||(decide ((256:Int) <(x1.shippers.length:Int))))||(decide ((16:Int) <(x1.railways.length:Int))))=true then(some (2,())) else(z1q φ φ x1.network.places (x1.railways.length:Int) (((x1.railways.length:Int):Int)==0) x1.readers (x1.readers.length:Int) 0 x1))))))
def z40 (φ:Nat):Fsp TV:=⟨[26],[.val 0],fun z=>z19 φ z.1⟩
def z0a (φ:Nat) (x1 x2 x3:Int):Option (Bool×Unit):=(some (((decide (x2<=x1))&&(decide (x1<=x3))),()))
def z5c (φ:Nat):Fsp TV:=⟨[0,0,0],[.val 27],kk3 (z0a φ)⟩
def z1y (φ:Nat) (x1:Pool) (x2:zb):Option (Bool×Unit):=((z0a φ x2.type_ 0 (W ((x1.fleet.types.length:Int)-1))).bind fun y3=>((z0q (default,()) (y3.1=true) (z0a φ x2.class_ (-1) 63)).bind fun y4=>((z0q (default,()) ((y3.1&&y4.1)=true) (z0a φ x2.place 0 (W ((x1.network.places.length:Int)-1)))).bind fun y5=>((z0q (default,()) (((y3.1&&y4.1)&&y5.1)=true) (z0a φ x2.at_ 0 1073741824)).bind fun y6=>((z0q (default,()) ((((y3.1&&y4.1)&&y5.1)&&y6.1)=true) (z0a φ x2.count 1 4096)).bind fun y7=>(some (((((y3.1&&y4.1)&&y5.1)&&y6.1)&&y7.1),())))))))
def z4f (φ:Nat):Fsp TV:=⟨[26,29],[.val 27],kk2 (z1y φ)⟩
def z2n (φ:Nat) (x1:Pool) (x2:zk):Option (Bool×Unit):=((z0a φ x2.type_ 0 (W ((x1.fleet.types.length:Int)-1))).bind fun y3=>((z0q (default,()) (y3.1=true) (z0a φ x2.class_ 0 63)).bind fun y4=>((z0q (default,()) ((y3.1&&y4.1)=true) (z0a φ x2.place 0 (W ((x1.network.places.length:Int)-1)))).bind fun y5=>((z0q (default,()) (((y3.1&&y4.1)&&y5.1)=true) (z0a φ x2.from_ 0 x2.to)).bind fun y6=>((z0q (default,()) (((((y3.1&&y4.1)&&y5.1)&&y6.1)&&(decide ((x2.to:Int)<=1073741824)))=true) (z0a φ x2.count 1 1000)).bind fun y7=>((z0q (default,()) ((((((y3.1&&y4.1)&&y5.1)&&y6.1)&&(decide ((x2.to:Int)<=1073741824)))&&y7.1)=true) (z0a φ x2.weight 0 1000000000)).bind fun y8=>(some (((((((y3.1&&y4.1)&&y5.1)&&y6.1)&&(decide ((x2.to:Int)<=1073741824)))&&y7.1)&&y8.1),()))))))))
def z56 (φ:Nat):Fsp TV:=⟨[26,30],[.val 27],kk2 (z2n φ)⟩
def z3s (φ:Nat) (k16 :((List Edge)->Int->Int->z00->(List (List Int))->(List ((Nat->Int)×Int))->Option (zp×Int×Unit))) (x30 x31:Int) (x32:Bool) (x33 :(List Edge)) (x34 x35:Int) (x36:z00) (x37 :(Nat->Int)) (x38 :(List (List Int))) (x39 :(List ((Nat->Int)×Int))):Option (zp×Int×Unit):=(ck (((!x32)=false)->rg x30 x36.edges.length) (ck (((!x32)=false)->rg x31 x36.edges.length) (if((!x32)||(decide (((gt x36.edges x30).minutes:Int) <(gt x36.edges x31).minutes)))=true then(k16 x33 x34 (W (x35+1)) x36 x38 (cset z4m x39 x37 x30)) else(k16 x33 x34 (W (x35+1)) x36 x38 x39))))
def z45 (φ:Nat) (k16 :((List Edge)->Int->Int->z00->(List (List Int))->(List ((Nat->Int)×Int))->Option (zp×Int×Unit))) (x41 x42:Int) (x43:Bool) (x44 :(List Edge)) (x45 x46:Int) (x47:z00) (x48 :(Nat->Int)) (x49 :(List (List Int))) (x50 :(List ((Nat->Int)×Int))):Option (zp×Int×Unit):=(ck (((!x43)=false)->rg x41 x47.edges.length) (ck (((!x43)=false)->rg x42 x47.edges.length) (if((!x43)||(decide (((gt x47.edges x41).minutes:Int) <(gt x47.edges x42).minutes)))=true then(k16 x44 x45 (W (x46+1)) x47 x49 (cset z4m x50 x48 x41)) else(k16 x44 x45 (W (x46+1)) x47 x49 x50))))
def z43 (φ:Nat) (k16 :((List Edge)->Int->Int->z00->(List (List Int))->(List ((Nat->Int)×Int))->Option (zp×Int×Unit))) (x17 x18:Int) (x19:Bool) (x20:Int) (x21 :(List Edge)) (x22 x23:Int) (x24:z00) (x25 :(Nat->Int)) (x26:Edge) (x27 :(List (List Int))) (x28 :(List ((Nat->Int)×Int))):Option (zp×Int×Unit):=(ck (((!x19)=false)->rg x17 x24.edges.length) (ck (((!x19)=false)->rg x18 x24.edges.length) (if((!x19)||(decide (((gt x24.edges x17).minutes:Int) <(gt x24.edges x18).minutes)))=true then(if(!(cget z4m (cset z4m x28 x25 x17) ((upd (upd (fun _=>(default:Int)) 0 x26.b) 1 x26.a))).isSome)=true then(ck (rg x26.b x27.length) (ck (rg x26.b x27.length) (ck ((x26.b:Int)=x26.b) (ck (fits ((gt x27 x26.b).length +([x26.a]).length) 8) (ck (rg x26.b x27.length) (ck ((x26.b:Int)=x26.b) (z3s φ k16 x20 (((cget z4m (cset z4m x28 x25 x17) ((upd (upd (fun _=>(default:Int)) 0 x26.b) 1 x26.a))).getD (default:Int))) ((cget z4m (cset z4m x28 x25 x17) ((upd (upd (fun _=>(default:Int)) 0 x26.b) 1 x26.a))).isSome) x21 x22 x23 x24 ((upd (upd (fun _=>(default:Int)) 0 x26.b) 1 x26.a)) (zr x27 x26.b ((gt x27 x26.b)++[x26.a])) (cset z4m x28 x25 x17)))))))) else(z3s φ k16 x20 (((cget z4m (cset z4m x28 x25 x17) ((upd (upd (fun _=>(default:Int)) 0 x26.b) 1 x26.a))).getD (default:Int))) ((cget z4m (cset z4m x28 x25 x17) ((upd (upd (fun _=>(default:Int)) 0 x26.b) 1 x26.a))).isSome) x21 x22 x23 x24 ((upd (upd (fun _=>(default:Int)) 0 x26.b) 1 x26.a)) x27 (cset z4m x28 x25 x17))) else(if(!(cget z4m x28 ((upd (upd (fun _=>(default:Int)) 0 x26.b) 1 x26.a))).isSome)=true then(ck (rg x26.b x27.length) (ck (rg x26.b x27.length) (ck ((x26.b:Int)=x26.b) (ck (fits ((gt x27 x26.b).length +([x26.a]).length) 8) (ck (rg x26.b x27.length) (ck ((x26.b:Int)=x26.b) (z45 φ k16 x20 (((cget z4m x28 ((upd (upd (fun _=>(default:Int)) 0 x26.b) 1 x26.a))).getD (default:Int))) ((cget z4m x28 ((upd (upd (fun _=>(default:Int)) 0 x26.b) 1 x26.a))).isSome) x21 x22 x23 x24 ((upd (upd (fun _=>(default:Int)) 0 x26.b) 1 x26.a)) (zr x27 x26.b ((gt x27 x26.b)++[x26.a])) x28))))))) else(z45 φ k16 x20 (((cget z4m x28 ((upd (upd (fun _=>(default:Int)) 0 x26.b) 1 x26.a))).getD (default:Int))) ((cget z4m x28 ((upd (upd (fun _=>(default:Int)) 0 x26.b) 1 x26.a))).isSome) x21 x22 x23 x24 ((upd (upd (fun _=>(default:Int)) 0 x26.b) 1 x26.a)) x27 x28)))))
def z1w (φ:Nat):Nat->Int->Int->(List (List Int))->(List ((Nat->Int)×Int))->Option (zp×Int×Unit)
 | 0,_,_,_,_=>none
 | n56+1,x52,x53,x54,x55=>(if(decide (x53<x52))=true then(ck (rg x53 x54.length) (ck (rg x53 x54.length) (ck (x53=x53) ((znu (gt x54 x53)).bind fun y57=>((z1w φ n56) x52 (W (x53+1)) (zr x54 x53 y57) x55))))) else(some ((⟨x54,x55⟩:zp),0,())))
def z04 (φ:Nat):Nat->(List Edge)->Int->Int->z00->(List (List Int))->(List ((Nat->Int)×Int))->Option (zp×Int×Unit)
 | 0,_,_,_,_,_,_=>none
 | n16+1,x10,x11,x12,x13,x14,x15=>(if(decide (x12<x11))=true then(ck (rg x12 x10.length) (if(!(cget z4m x15 ((upd (upd (fun _=>(default:Int)) 0 ((gt x10 x12).a)) 1 ((gt x10 x12).b)))).isSome)=true then(ck (rg (gt x10 x12).a x14.length) (ck (rg (gt x10 x12).a x14.length) (ck (((gt x10 x12).a:Int) =(gt x10 x12).a) (ck (fits ((gt x14 ((gt x10 x12).a)).length +([(gt x10 x12).b]).length) 8) (ck (rg (gt x10 x12).a x14.length) (ck (((gt x10 x12).a:Int) =(gt x10 x12).a) (z43 φ (z04 φ n16) x12 (((cget z4m x15 ((upd (upd (fun _=>(default:Int)) 0 ((gt x10 x12).a)) 1 ((gt x10 x12).b)))).getD (default:Int))) ((cget z4m x15 ((upd (upd (fun _=>(default:Int)) 0 ((gt x10 x12).a)) 1 ((gt x10 x12).b)))).isSome) x12 x10 x11 x12 x13 ((upd (upd (fun _=>(default:Int)) 0 ((gt x10 x12).a)) 1 ((gt x10 x12).b))) (gt x10 x12) ((zr x14 ((gt x10 x12).a) (((gt x14 ((gt x10 x12).a))++[(gt x10 x12).b])))) x15))))))) else(z43 φ (z04 φ n16) x12 (((cget z4m x15 ((upd (upd (fun _=>(default:Int)) 0 ((gt x10 x12).a)) 1 ((gt x10 x12).b)))).getD (default:Int))) ((cget z4m x15 ((upd (upd (fun _=>(default:Int)) 0 ((gt x10 x12).a)) 1 ((gt x10 x12).b)))).isSome) x12 x10 x11 x12 x13 ((upd (upd (fun _=>(default:Int)) 0 ((gt x10 x12).a)) 1 ((gt x10 x12).b))) (gt x10 x12) x14 x15))) else(z1w φ φ (x14.length:Int) 0 x14 x15))
def z3d (φ:Nat):Nat->(List Int)->Int->Int->z00->(List (List Int))->Option (zp×Int×Unit)
 | 0,_,_,_,_,_=>none
 | n9+1,x4,x5,x6,x7,x8=>(if(decide (x6<x5))=true then(ck (rg x6 x4.length) (if((decide (((gt x4 x6):Int)<0))||(decide (((x7.places.length:Int):Int)<=(gt x4 x6))))=true then(some ((⟨x8,([] :(List ((Nat->Int)×Int)))⟩:zp),1,())) else((z3d φ n9) x4 x5 (W (x6+1)) x7 x8))) else(ck (z8 (x7.places.length:Int) 24) (z04 φ φ x7.edges (x7.edges.length:Int) 0 x7 (List.replicate ((x7.places.length:Int):Int).toNat (default :(List Int))) (([] :(List ((Nat->Int)×Int)))))))
def z6t (φ:Nat) (x1:z00) (x2 :(List Int)):Option (zp×Int×Unit):=((z6o φ x1).bind fun y3=>(if(y3.1 !=0)=true then(some ((⟨([]:List (List Int)),([] :(List ((Nat->Int)×Int)))⟩:zp),y3.1,())) else(z3d φ φ x2 (x2.length:Int) 0 x1 ([]:List (List Int)))))
def z9z (φ:Nat):Fsp TV:=⟨[5,22],[.val 34,.val 0],kk2 (z6t φ)⟩
def z1s (φ:Nat) (k16 :(z00->zp->(List Int)->(List Bool)->Option ((List Int)×Unit))):Nat->Int->(List Int)->Int->Int->z00->zp->(List Int)->(List Bool)->Option ((List Int)×Unit)
 | 0,_,_,_,_,_,_,_,_=>none
 | n33+1,x25,x26,x27,x28,x29,x30,x31,x32=>(if(decide (x28<x27))=true then(ck (rg x28 x26.length) (ck (rg x25 x31.length) (ck (rg (((cget z4m x30.line ((upd (upd (fun _=>(default:Int)) 0 x25) 1 (gt x26 x28)))).getD (default:Int))) x29.edges.length) (ck (rg (gt x26 x28) x31.length) (ck (((decide (((gt x31 (gt x26 x28)):Int)<0))=false)->rg (gt x26 x28) x31.length) (if((decide (((gt x31 (gt x26 x28)):Int)<0))||(decide (((W ((gt x31 x25) +((gt x29.edges (((cget z4m x30.line ((upd (upd (fun _=>(default:Int)) 0 x25) 1 (gt x26 x28)))).getD (default:Int))))).minutes)):Int) <(gt x31 (gt x26 x28)))))=true then(ck (rg (gt x26 x28) x31.length) ((z1s φ k16 n33) x25 x26 x27 (W (x28+1)) x29 x30 ((zr x31 (gt x26 x28) ((W ((gt x31 x25) +((gt x29.edges (((cget z4m x30.line ((upd (upd (fun _=>(default:Int)) 0 x25) 1 (gt x26 x28)))).getD (default:Int))))).minutes))))) x32)) else((z1s φ k16 n33) x25 x26 x27 (W (x28+1)) x29 x30 x31 x32))))))) else(k16 x29 x30 x31 x32))
def z1o (φ:Nat) (k16 :(z00->zp->(List Int)->(List Bool)->Option ((List Int)×Unit))):Nat->Int->Int->Int->z00->zp->(List Int)->(List Bool)->Option ((List Int)×Unit)
 | 0,_,_,_,_,_,_,_=>none
 | n24+1,x17,x18,x19,x20,x21,x22,x23=>(if(decide (x19<x18))=true then(ck (rg x19 x22.length) (ck (((decide ((0:Int)<=(gt x22 x19)))=true)->rg x19 x23.length) (ck ((((decide ((0:Int)<=(gt x22 x19)))&&(!(gt x23 x19)))=true/\(decide (x17<0))=false)->rg x19 x22.length) (ck ((((decide ((0:Int)<=(gt x22 x19)))&&(!(gt x23 x19)))=true/\(decide (x17<0))=false)->rg x17 x22.length) (if(((decide ((0:Int)<=(gt x22 x19)))&&(!(gt x23 x19)))&&((decide (x17<0))||(decide (((gt x22 x19):Int) <(gt x22 x17)))))=true then((z1o φ k16 n24) x19 x18 (W (x19+1)) x20 x21 x22 x23) else((z1o φ k16 n24) x17 x18 (W (x19+1)) x20 x21 x22 x23)))))) else(if(decide (x17<0))=true then(some (x22,())) else(ck (rg x17 x23.length) (ck (rg x17 x21.near.length) (z1s φ k16 φ x17 (gt x21.near x17) ((gt x21.near x17).length:Int) 0 x20 x21 x22 (zr x23 x17 true))))))
def z03 (φ:Nat):Nat->z00->zp->(List Int)->(List Bool)->Option ((List Int)×Unit)
 | 0,_,_,_,_=>none
 | n16+1,x12,x13,x14,x15=>(z1o φ (z03 φ n16) φ (-1) (x14.length:Int) 0 x12 x13 x14 x15)
def z2t (φ:Nat):Nat->Int->Int->Int->z00->zp->(List Int)->(List Bool)->Option ((List Int)×Unit)
 | 0,_,_,_,_,_,_,_=>none
 | n11+1,x4,x5,x6,x7,x8,x9,x10=>(if(decide (x6<x5))=true then(ck (rg x6 x9.length) ((z2t φ n11) x4 x5 (W (x6+1)) x7 x8 (zr x9 x6 (-1)) x10)) else(ck (rg x4 x9.length) (z03 φ φ x7 x8 (zr x9 x4 0) x10)))
def z8m (φ:Nat) (x1:z00) (x2:zp) (x3:Int):Option ((List Int)×Unit):=(ck (z8 (x1.places.length:Int) 8) (ck (z8 (((List.replicate ((x1.places.length:Int):Int).toNat (default:Int)).length:Int)) 1) (z2t φ φ x3 (((List.replicate ((x1.places.length:Int):Int).toNat (default:Int)).length:Int)) 0 x1 x2 (List.replicate ((x1.places.length:Int):Int).toNat (default:Int)) ((List.replicate (((List.replicate ((x1.places.length:Int):Int).toNat (default:Int)).length:Int):Int).toNat (default:Bool))))))
def za6 (φ:Nat):Fsp TV:=⟨[5,34,0],[.val 22],kk3 (z8m φ)⟩
def z23 (φ:Nat) (x1:z00) (x2 x3:Int):Option (Int×Int×Unit):=((z6t φ x1 ([x2,x3])).bind fun y4=>(if(y4.2.1 !=0)=true then(some (0,y4.2.1,())) else((z8m φ x1 y4.1 x2).bind fun y5=>(ck (rg x3 y5.1.length) (if(decide (((gt y5.1 x3):Int)<0))=true then(some (0,80,())) else(some ((gt y5.1 x3),0,())))))))
def z5h (φ:Nat):Fsp TV:=⟨[5,0,0],[.val 0,.val 0],kk3 (z23 φ)⟩
def zg2 (φ:Nat) (x1:Wash) (x2 x3:Int):Option (Bool×Unit):=(some ((((x1.from_:Int)==x2)&&((x1.to:Int)==x3)),()))
def z95 (φ:Nat):Csp TV:=⟨[13],[.b (.val 0),.b (.val 0)],[.val 27],fun z b=>zg2 φ z.1 b.1 b.2.1⟩
def z3t (φ:Nat):Nat->(List Wash)->Int->Int->Int->Int->z4a->Option (Int×Int×Unit)
 | 0,_,_,_,_,_,_=>none
 | n13+1,x7,x8,x9,x10,x11,x12=>(if(decide (x9<x8))=true then(ck (rg x9 x7.length) ((zg2 φ (gt x7 x9) x10 x11).bind fun y14=>(if y14.1=true then(if(decide (x9<0))=true then(some (0,0,())) else(ck (rg x9 x12.washes.length) (some ((gt x12.washes x9).minutes,0,())))) else((z3t φ n13) x7 x8 (W (x9+1)) x10 x11 x12)))) else(some (0,0,())))
def z97 (φ:Nat) (x1:z4a) (x2 x3:Int):Option (Int×Int×Unit):=((z77 φ x1).bind fun y4=>(if(y4.1 !=0)=true then(some (0,y4.1,())) else((zq φ x2 0 63).bind fun y5=>((z0q (default,()) ((!y5.1)=false) (zq φ x3 0 63)).bind fun y6=>(if((!y5.1)||(!y6.1))=true then(some (0,1,())) else(z3t φ φ x1.washes (x1.washes.length:Int) 0 x2 x3 x1))))))
def zbo (φ:Nat):Fsp TV:=⟨[15,0,0],[.val 0,.val 0],kk3 (z97 φ)⟩
def z27 (φ:Nat) (k14 :(Int->Bool->z4a->(Nat->Int)->Option ((List Swap)×Int×Unit))):Nat->Int->Bool->(List Swap)->Int->Int->z4a->(Nat->Int)->Option ((List Swap)×Int×Unit)
 | 0,_,_,_,_,_,_,_=>none
 | n22+1,x15,x16,x17,x18,x19,x20,x21=>(if(decide (x19<x18))=true then(ck (rg x19 x17.length) (ck (rg (gt x17 x19).wanted 32) (ck (rg (gt x17 x19).wanted 32) (ck (((decide ((0:Int)<=(x21 (((gt x17 x19).wanted:Int).toNat))))=true)->rg (gt x17 x19).given 32) (ck (((decide ((0:Int)<=(x21 (((gt x17 x19).wanted:Int).toNat))))=true/\(decide (((x21 (((gt x17 x19).given:Int).toNat)):Int)<0))=false)->rg (gt x17 x19).given 32) (if((decide ((0:Int)<=(x21 (((gt x17 x19).wanted:Int).toNat))))&&((decide (((x21 (((gt x17 x19).given:Int).toNat)):Int)<0))||(decide (((W ((x21 (((gt x17 x19).wanted:Int).toNat)) +(gt x17 x19).cost)):Int) <(x21 (((gt x17 x19).given:Int).toNat))))))=true then(ck (rg (gt x17 x19).given 32) ((z27 φ k14 n22) x15 true x17 x18 (W (x19+1)) x20 ((upd x21 (((gt x17 x19).given:Int).toNat) ((W ((x21 (((gt x17 x19).wanted:Int).toNat)) +(gt x17 x19).cost))))))) else((z27 φ k14 n22) x15 x16 x17 x18 (W (x19+1)) x20 x21))))))) else(k14 x15 x16 x20 x21))
def z22 (φ:Nat):Nat->Int->Int->Int->(Nat->Int)->(List Swap)->Option ((List Swap)×Int×Unit)
 | 0,_,_,_,_,_=>none
 | n28+1,x23,x24,x25,x26,x27=>(if(decide (x25<x24))=true then(ck (rg x25 32) (if(decide ((0:Int)<=(x26 (x25.toNat))))=true then(ck (rg x25 32) (ck (fits (x27.length +([(⟨x23,x25,x26 (x25.toNat)⟩:Swap)]).length) 24) ((z22 φ n28) x23 x24 (W (x25+1)) x26 ((x27++[(⟨x23,x25,x26 (x25.toNat)⟩:Swap)]))))) else((z22 φ n28) x23 x24 (W (x25+1)) x26 x27))) else(some (x27,0,())))
def z29 (φ:Nat):Nat->Int->Bool->z4a->(Nat->Int)->Option ((List Swap)×Int×Unit)
 | 0,_,_,_,_=>none
 | n14+1,x10,x11,x12,x13=>(if x11=true then(z27 φ (z29 φ n14) φ x10 false x12.swaps (x12.swaps.length:Int) 0 x12 x13) else(z22 φ φ x10 (x12.types.length:Int) 0 x13 ([]:List Swap)))
def z4g (φ:Nat):Nat->Int->Int->z4a->(Nat->Int)->Option ((List Swap)×Int×Unit)
 | 0,_,_,_,_=>none
 | n9+1,x5,x6,x7,x8=>(if(decide (x6<32))=true then(ck (rg x6 32) ((z4g φ n9) x5 (W (x6+1)) x7 (upd x8 (x6.toNat) (-1)))) else(ck (rg x5 32) (z29 φ φ x5 true x7 (upd x8 (x5.toNat) 0))))
def zc6 (φ:Nat) (x1:z4a) (x2:Int):Option ((List Swap)×Int×Unit):=((z77 φ x1).bind fun y3=>(if(y3.1 !=0)=true then(some (([]:List Swap),y3.1,())) else((zq φ x2 0 (W ((x1.types.length:Int)-1))).bind fun y4=>(if(!y4.1)=true then(some (([]:List Swap),90,())) else(z4g φ φ x2 0 x1 (fun _=>(default:Int)))))))
def zby (φ:Nat):Fsp TV:=⟨[15,0],[.val 12,.val 0],kk2 (zc6 φ)⟩
def zdc (φ:Nat) (x1:Swap) (x2:zb):Option (Bool×Unit):=(some (((x1.given:Int)==x2.type_),()))
def z74 (φ:Nat):Csp TV:=⟨[11],[.b (.val 29)],[.val 27],fun z b=>zdc φ z.1 b.1⟩
def z2w (φ:Nat):Nat->(List Swap)->Int->Int->Int->(List Swap)->zb->zk->Option (Int×Bool×Unit)
 | 0,_,_,_,_,_,_,_=>none
 | n18+1,x11,x12,x13,x14,x15,x16,x17=>(if(decide (x13<x12))=true then(ck (rg x13 x11.length) ((zdc φ (gt x11 x13) x16).bind fun y19=>(if y19.1=true then(ck ((((decide (x13<0))||(decide ((x17.to:Int) <(W (x16.at_+x14)))))=false)->rg x13 x15.length) (if(((decide (x13<0))||(decide ((x17.to:Int) <(W (x16.at_+x14)))))||(decide ((1000000000:Int) <(W (x14 +(gt x15 x13).cost)))))=true then(some (0,false,())) else(ck (rg x13 x15.length) (some ((W (x14 +(gt x15 x13).cost)),true,()))))) else((z2w φ n18) x11 x12 (W (x13+1)) x14 x15 x16 x17)))) else(ck (((true||(decide ((x17.to:Int) <(W (x16.at_+x14)))))=false)->rg (-1) x15.length) (if((true||(decide ((x17.to:Int) <(W (x16.at_+x14)))))||(decide ((1000000000:Int) <(W (x14 +(gt x15 (-1)).cost)))))=true then(some (0,false,())) else(ck (rg (-1) x15.length) (some ((W (x14 +(gt x15 (-1)).cost)),true,()))))))
def z1f (φ:Nat) (x5:Int) (x6:Pool) (x7:zb) (x8:zk):Option (Int×Bool×Unit):=((zc6 φ x6.fleet x8.type_).bind fun y10=>(z2w φ φ y10.1 (y10.1.length:Int) 0 x5 y10.1 x7 x8))
def z18 (φ:Nat) (x1:Pool) (x2:zb) (x3:zk):Option (Int×Bool×Unit):=((z23 φ x1.network x2.place x3.place).bind fun y4=>(ck (((y4.2.1 !=0)=false)->rg x2.type_ x1.fleet.types.length) (ck (((y4.2.1 !=0)=false)->0<=x3.class_) (if((y4.2.1 !=0)||(((U ((BitVec.ofInt 64 (((gt x1.fleet.types x2.type_).classes:Int).fdiv (2 ^ (min (x3.class_:Int).toNat 64)))&&& BitVec.ofInt 64 1).toNat)):Int)==0))=true then(some (0,false,())) else(if(decide ((0:Int)<=x2.class_))=true then((z97 φ x1.fleet x2.class_ x3.class_).bind fun y20=>(z1f φ (W (y4.1+y20.1)) x1 x2 x3)) else(z1f φ y4.1 x1 x2 x3))))))
def z55 (φ:Nat):Fsp TV:=⟨[26,29,30],[.val 0,.val 27],kk3 (z18 φ)⟩
def z7x (φ:Nat) (x1:Pool) (x2:zb) (x3:zk):Option (Int×Bool×Int×Unit):=((z19 φ x1).bind fun y4=>(if(y4.1 !=0)=true then(some (0,false,y4.1,())) else((z1y φ x1 x2).bind fun y5=>((z0q (default,()) ((!y5.1)=false) (z2n φ x1 x3)).bind fun y6=>(if((!y5.1)||(!y6.1))=true then(some (0,false,1,())) else((z18 φ x1 x2 x3).bind fun y7=>(some (y7.1,y7.2.1,0,()))))))))
def z7q (φ:Nat):Fsp TV:=⟨[26,29,30],[.val 0,.val 27,.val 0],kk3 (z7x φ)⟩
def z9f (φ:Nat) (x1 x2 x3 x4:Int):Option (Bool×Unit):=((z8t φ).bind fun y5=>((z7x φ y5.1 (⟨x1,1,0,100,1⟩:zb) (⟨x2,2,1,0,x3,1,0⟩:zk)).bind fun y6=>(some ((((y6.2.2.1==0)&&(y6.2.1==(decide ((0:Int)<=x4))))&&(y6.1==(max2 0 x4))),()))))
def zbx (φ:Nat):Fsp TV:=⟨[0,0,0,0],[.val 27],kk4 (z9f φ)⟩
def z0w (φ:Nat) (x29 :(List Int)) (x30 :(List Arc)):Option (zj×Int×Unit):=(if(decide ((2048:Int) <(x30.length:Int)))=true then(some ((⟨([]:List Int),([]:List Arc)⟩:zj),2,())) else(some ((⟨x29,x30⟩:zj),0,())))
def z0t (φ:Nat) (k42 :(Int->Int->(List zb)->Int->Int->(List zb)->(List zk)->Pool->(List Int)->(List Arc)->Option (zj×Int×Unit))):Nat->Int->Int->Int->(List zb)->Int->Int->(List zk)->Int->Int->(List zb)->(List zk)->Pool->zb->(List Int)->(List Arc)->Option (zj×Int×Unit)
 | 0,_,_,_,_,_,_,_,_,_,_,_,_,_,_,_=>none
 | n58+1,x43,x44,x45,x46,x47,x48,x49,x50,x51,x52,x53,x54,x55,x56,x57=>(if(decide (x51<x50))=true then(ck (rg x51 x49.length) ((z18 φ x54 x55 (gt x49 x51)).bind fun y59=>(if y59.2.1=true then(ck (fits (x57.length +([(⟨x45,W ((x52.length:Int)+x51),min2 x55.count ((gt x49 x51).count),y59.1⟩:Arc)]).length) 32) (if(!true)=true then(z0w φ x56 ((x57++[(⟨x45,W ((x52.length:Int)+x51),min2 x55.count ((gt x49 x51).count),y59.1⟩:Arc)]))) else((z0t φ k42 n58) x43 x44 x45 x46 x47 x48 x49 x50 (W (x51+1)) x52 x53 x54 x55 x56 ((x57++[(⟨x45,W ((x52.length:Int)+x51),min2 x55.count ((gt x49 x51).count),y59.1⟩:Arc)]))))) else((z0t φ k42 n58) x43 x44 x45 x46 x47 x48 x49 x50 (W (x51+1)) x52 x53 x54 x55 x56 x57)))) else(k42 x43 x44 x46 x47 (W (x48+1)) x52 x53 x54 x56 x57))
def z1e (φ:Nat):Nat->Int->Int->(List zb)->Int->Int->(List Int)->(List Arc)->Option (zj×Int×Unit)
 | 0,_,_,_,_,_,_,_=>none
 | n76+1,x69,x70,x71,x72,x73,x74,x75=>(if(decide (x73<x72))=true then(ck (rg x73 x71.length) (ck (fits (x75.length +([(⟨x73,W (x69+1),(gt x71 x73).count,0⟩:Arc)]).length) 32) (if(!true)=true then(z0w φ x74 (x75++[(⟨x73,W (x69+1),(gt x71 x73).count,0⟩:Arc)])) else((z1e φ n76) x69 x70 x71 x72 (W (x73+1)) x74 (x75++[(⟨x73,W (x69+1),(gt x71 x73).count,0⟩:Arc)]))))) else(ck (fits (x75.length +([(⟨x69,W (x69+1),x70,0⟩:Arc)]).length) 32) (z0w φ x74 (x75++[(⟨x69,W (x69+1),x70,0⟩:Arc)]))))
def z0k (φ:Nat):Nat->Int->Int->(List zk)->Int->Int->(List zb)->(List Int)->(List Arc)->Option (zj×Int×Unit)
 | 0,_,_,_,_,_,_,_,_=>none
 | n68+1,x60,x61,x62,x63,x64,x65,x66,x67=>(if(decide (x64<x63))=true then(ck (rg x64 x62.length) (ck (fits (x67.length +([(⟨x60,W ((x65.length:Int)+x64),(gt x62 x64).count,(gt x62 x64).weight⟩:Arc)]).length) 32) (if(!true)=true then(z0w φ x66 ((x67++[(⟨x60,W ((x65.length:Int)+x64),(gt x62 x64).count,(gt x62 x64).weight⟩:Arc)]))) else((z0k φ n68) x60 (W (x61 +(gt x62 x64).count)) x62 x63 (W (x64+1)) x65 x66 ((x67++[(⟨x60,W ((x65.length:Int)+x64),(gt x62 x64).count,(gt x62 x64).weight⟩:Arc)])))))) else(z1e φ φ x60 x61 x65 (x65.length:Int) 0 x66 x67))
def z1b (φ:Nat):Nat->Int->Int->(List zb)->Int->Int->(List zb)->(List zk)->Pool->(List Int)->(List Arc)->Option (zj×Int×Unit)
 | 0,_,_,_,_,_,_,_,_,_,_=>none
 | n42+1,x32,x33,x34,x35,x36,x37,x38,x39,x40,x41=>(if(decide (x36<x35))=true then(ck (rg x36 x34.length) (z0t φ (z1b φ n42) φ x32 x33 x36 x34 x35 x36 x38 (x38.length:Int) 0 x37 x38 x39 (gt x34 x36) x40 x41)) else(z0k φ φ x32 x33 x38 (x38.length:Int) 0 x37 x40 x41))
def z17 (φ:Nat):Nat->(List zb)->(List zk)->Int->Int->(List zk)->Int->Int->Pool->(List Int)->(List Arc)->Option (zj×Int×Unit)
 | 0,_,_,_,_,_,_,_,_,_,_=>none
 | n27+1,x17,x18,x19,x20,x21,x22,x23,x24,x25,x26=>(if(decide (x23<x22))=true then(ck (rg x23 x21.length) ((z2n φ x24 (gt x21 x23)).bind fun y28=>(if(!y28.1)=true then(some ((⟨([]:List Int),([]:List Arc)⟩:zj),1,())) else(ck (fits (x25.length +([(W (0 -(gt x21 x23).count))]).length) 8) ((z17 φ n27) x17 x18 x19 (W (x20 +(gt x21 x23).count)) x21 x22 (W (x23+1)) x24 ((x25++[(W (0 -(gt x21 x23).count))])) x26))))) else(ck (fits (x25.length +([x20,(W (0-x19))]).length) 8) (if(decide ((256:Int) <((x25++[x20,(W (0-x19))]).length:Int)))=true then(some ((⟨([]:List Int),([]:List Arc)⟩:zj),2,())) else(z1b φ φ (W ((x17.length:Int) +(x18.length:Int))) 0 x17 (x17.length:Int) 0 x17 x18 x24 (x25++[x20,(W (0-x19))]) x26))))
def z21 (φ:Nat):Nat->(List zb)->(List zk)->Int->Int->(List zb)->Int->Int->Pool->(List Int)->(List Arc)->Option (zj×Int×Unit)
 | 0,_,_,_,_,_,_,_,_,_,_=>none
 | n15+1,x5,x6,x7,x8,x9,x10,x11,x12,x13,x14=>(if(decide (x11<x10))=true then(ck (rg x11 x9.length) ((z1y φ x12 (gt x9 x11)).bind fun y16=>(if(!y16.1)=true then(some ((⟨([]:List Int),([]:List Arc)⟩:zj),1,())) else(ck (fits (x13.length +([(gt x9 x11).count]).length) 8) ((z21 φ n15) x5 x6 (W (x7 +(gt x9 x11).count)) x8 x9 x10 (W (x11+1)) x12 (x13++[(gt x9 x11).count]) x14))))) else(z17 φ φ x5 x6 x7 x8 x6 (x6.length:Int) 0 x12 x13 x14))
def z7h (φ:Nat) (x1:Pool) (x2 :(List zb)) (x3 :(List zk)):Option (zj×Int×Unit):=((z19 φ x1).bind fun y4=>(if(y4.1 !=0)=true then(some ((⟨([]:List Int),([]:List Arc)⟩:zj),y4.1,())) else(z21 φ φ x2 x3 0 0 x2 (x2.length:Int) 0 x1 ([]:List Int) ([]:List Arc))))
def zcg (φ:Nat):Fsp TV:=⟨[26,36,37],[.val 40,.val 0],kk3 (z7h φ)⟩
def z47 (φ:Nat) (x1 x2 x3:Int):Option (Bool×Unit):=(some (((decide (x2<=x1))&&(decide (x1<=x3))),()))
def z7k (φ:Nat):Fsp TV:=⟨[0,0,0],[.val 27],kk3 (z47 φ)⟩
def z2q (φ:Nat):Nat->Int->(List Arc)->Int->Int->zj->Option (Int×Unit)
 | 0,_,_,_,_,_=>none
 | n14+1,x9,x10,x11,x12,x13=>(if(decide (x12<x11))=true then(ck (rg x12 x10.length) ((z47 φ ((gt x10 x12).from_) 0 (W ((x13.supply.length:Int)-1))).bind fun y15=>((z0q (default,()) ((!y15.1)=false) (z47 φ ((gt x10 x12).to) 0 (W ((x13.supply.length:Int)-1)))).bind fun y16=>((z0q (default,()) ((((!y15.1)||(!y16.1))||(((gt x10 x12).from_:Int)==(gt x10 x12).to))=false) (z47 φ ((gt x10 x12).cap) 0 1000000000)).bind fun y17=>((z0q (default,()) (((((!y15.1)||(!y16.1))||(((gt x10 x12).from_:Int)==(gt x10 x12).to))||(!y17.1))=false) (z47 φ ((gt x10 x12).cost) 0 1000000000)).bind fun y18=>(if(((((!y15.1)||(!y16.1))||(((gt x10 x12).from_:Int)==(gt x10 x12).to))||(!y17.1))||(!y18.1))=true then(some (1,())) else((z2q φ n14) x9 x10 x11 (W (x12+1)) x13))))))) else(if(x9 !=0)=true then(some (360,())) else(some (0,()))))
def z5b (φ:Nat):Nat->Int->(List Int)->Int->Int->zj->Option (Int×Unit)
 | 0,_,_,_,_,_=>none
 | n7+1,x2,x3,x4,x5,x6=>(if(decide (x5<x4))=true then(ck (rg x5 x3.length) ((z47 φ (gt x3 x5) (-1000000000) 1000000000).bind fun y8=>(if(!y8.1)=true then(some (1,())) else((z5b φ n7) (W (x2 +(gt x3 x5))) x3 x4 (W (x5+1)) x6)))) else(z2q φ φ x2 x6.arcs (x6.arcs.length:Int) 0 x6))
def z8u (φ:Nat) (x1:zj):Option (Int×Unit):=(if((decide ((256:Int) <(x1.supply.length:Int)))||(decide ((2048:Int) <(x1.arcs.length:Int))))=true then(some (2,())) else(z5b φ φ 0 x1.supply (x1.supply.length:Int) 0 x1))
def z7v (φ:Nat):Fsp TV:=⟨[40],[.val 0],fun z=>z8u φ z.1⟩
def zb9 (φ:Nat) (x27:Bool) (x28 :(List Int)) (x29 :(List Arc)) (x30 x31 x32 x33 x34 :(List Int)) (x35 x36 :(List (List Int))):Option (Flow×Int×Unit):=(if x27=true then(some ((⟨([]:List Int),([]:List Int)⟩:Flow),360,())) else(some ((⟨x32,x34⟩:Flow),0,())))
def z2r (φ:Nat):Nat->Int->Int->(List Int)->(List Int)->(List Arc)->(List Int)->(List Int)->(List Int)->(List Int)->(List (List Int))->(List (List Int))->Option (Flow×Int×Unit)
 | 0,_,_,_,_,_,_,_,_,_,_,_=>none
 | n70+1,x59,x60,x61,x62,x63,x64,x65,x66,x67,x68,x69=>(if(decide (x60<x59))=true then(ck (rg x60 x61.length) (if(((gt x61 x60):Int) !=0)=true then(zb9 φ (!false) x62 x63 x64 x65 x66 x61 x67 x68 x69) else((z2r φ n70) x59 (W (x60+1)) x61 x62 x63 x64 x65 x66 x67 x68 x69))) else(zb9 φ (!true) x62 x63 x64 x65 x66 x61 x67 x68 x69))
def z1z (φ:Nat) (k47 :((List Int)->(List Arc)->(List Int)->(List Int)->(List Int)->(List (List Int))->(List (List Int))->(List Int)->(List Int)->Option (Flow×Int×Unit))) (x48:Bool) (x49 :(List Int)) (x50 :(List Arc)) (x51 x52 x53 :(List Int)) (x54 x55 :(List (List Int))) (x56 x57 :(List Int)):Option (Flow×Int×Unit):=(if x48=true then(k47 x49 x50 x51 x52 x53 x54 x55 x56 x57) else(z2r φ φ (x52.length:Int) 0 x52 x49 x50 x56 x57 x51 x53 x54 x55))
def z4u (φ:Nat) (k209 :(Int->Int->(List Int)->(List Arc)->(List Int)->(List zd)->(List Int)->(List Int)->(List Int)->(List (List Int))->(List (List Int))->(List Int)->(List Int)->Option (Flow×Int×Unit))) (x210 x211:Int) (x212 :(List Int)) (x213 :(List Arc)) (x214 :(List Int)) (x215 :(List zd)) (x216 x217 x218 :(List Int)) (x219 x220 :(List (List Int))) (x221 x222 :(List Int)):Option (Flow×Int×Unit):=(ck (rg x211 x214.length) (k209 x210 (gt x214 x211) x212 x213 x214 x215 x216 x217 x218 x219 x220 x221 x222))
def z25 (φ:Nat) (k47 :((List Int)->(List Arc)->(List Int)->(List Int)->(List Int)->(List (List Int))->(List (List Int))->(List Int)->(List Int)->Option (Flow×Int×Unit))):Nat->Int->Int->(List Int)->(List Arc)->(List Int)->(List zd)->(List Int)->(List Int)->(List Int)->(List (List Int))->(List (List Int))->(List Int)->(List Int)->Option (Flow×Int×Unit)
 | 0,_,_,_,_,_,_,_,_,_,_,_,_,_=>none
 | n209+1,x196,x197,x198,x199,x200,x201,x202,x203,x204,x205,x206,x207,x208=>(ck (rg x197 x200.length) (if(decide ((0:Int)<=(gt x200 x197)))=true then(ck (rg x197 x201.length) (ck (rg (gt x201 x197).arc x199.length) (ck (((((gt x199 ((gt x201 x197).arc)).to:Int)==x197)=true)->rg (gt x201 x197).arc x199.length) (ck (((((gt x199 ((gt x201 x197).arc)).to:Int)==x197)=true)->rg x197 x200.length) (if((((gt x199 ((gt x201 x197).arc)).to:Int)==x197)&&(((gt x199 ((gt x201 x197).arc)).from_:Int)==(gt x200 x197)))=true then(ck (rg (gt x201 x197).arc x202.length) (ck (rg (gt x201 x197).arc x202.length) (z4u φ (z25 φ k47 n209) x196 x197 x198 x199 x200 x201 ((zr x202 ((gt x201 x197).arc) ((W ((gt x202 ((gt x201 x197).arc))+x196))))) x203 x204 x205 x206 x207 x208))) else(ck (rg (gt x201 x197).arc x202.length) (ck (rg (gt x201 x197).arc x202.length) (z4u φ (z25 φ k47 n209) x196 x197 x198 x199 x200 x201 ((zr x202 ((gt x201 x197).arc) ((W ((gt x202 ((gt x201 x197).arc))-x196))))) x203 x204 x205 x206 x207 x208)))))))) else(z1z φ k47 true x198 x199 x202 x203 x204 x205 x206 x207 x208)))
def z0l (φ:Nat) (k47 :((List Int)->(List Arc)->(List Int)->(List Int)->(List Int)->(List (List Int))->(List (List Int))->(List Int)->(List Int)->Option (Flow×Int×Unit))):Nat->Int->Int->Int->(List Int)->(List Arc)->(List Int)->(List zd)->(List Int)->(List Int)->(List Int)->(List (List Int))->(List (List Int))->(List Int)->(List Int)->Option (Flow×Int×Unit)
 | 0,_,_,_,_,_,_,_,_,_,_,_,_,_,_=>none
 | n195+1,x181,x182,x183,x184,x185,x186,x187,x188,x189,x190,x191,x192,x193,x194=>(ck (rg x183 x186.length) (if(decide ((0:Int)<=(gt x186 x183)))=true then(ck (rg x183 x187.length) (ck (rg x183 x186.length) ((z0l φ k47 n195) x181 (min2 x182 ((gt x187 x183).room)) (gt x186 x183) x184 x185 x186 x187 x188 x189 x190 x191 x192 x193 x194))) else(ck (rg x183 x189.length) (ck (rg x183 x189.length) (ck (rg x183 x189.length) (ck (rg x181 (((zr x189 x183 ((W ((gt x189 x183) -(min2 x182 (gt x189 x183))))))).length)) (ck (rg x181 (((zr x189 x183 ((W ((gt x189 x183) -(min2 x182 (gt x189 x183))))))).length)) (z25 φ k47 φ (min2 x182 (gt x189 x183)) x181 x184 x185 x186 x187 x188 ((zr ((zr x189 x183 ((W ((gt x189 x183) -(min2 x182 (gt x189 x183))))))) x181 ((W ((gt ((zr x189 x183 ((W ((gt x189 x183) -(min2 x182 (gt x189 x183))))))) x181) +(min2 x182 (gt x189 x183))))))) x190 x191 x192 x193 x194))))))))
def z0v (φ:Nat) (k47 :((List Int)->(List Arc)->(List Int)->(List Int)->(List Int)->(List (List Int))->(List (List Int))->(List Int)->(List Int)->Option (Flow×Int×Unit))):Nat->Int->Int->Int->Int->(List Int)->(List Arc)->(List Int)->(List zd)->(List Int)->(List Int)->(List Int)->(List Int)->(List (List Int))->(List (List Int))->(List Int)->(List Int)->Option (Flow×Int×Unit)
 | 0,_,_,_,_,_,_,_,_,_,_,_,_,_,_,_,_=>none
 | n180+1,x164,x165,x166,x167,x168,x169,x170,x171,x172,x173,x174,x175,x176,x177,x178,x179=>(if(decide (x167<x166))=true then(ck (rg x167 x172.length) (ck (rg x167 x175.length) (ck (rg x167 x175.length) ((z0v φ k47 n180) x164 x165 x166 (W (x167+1)) x168 x169 x170 x171 x172 x173 x174 ((zr x175 x167 ((W ((gt x175 x167) +(min2 (gt x172 x167) x165)))))) x176 x177 x178 x179)))) else(ck (rg x164 x174.length) (z0l φ k47 φ x164 (W (0 -(gt x174 x164))) x164 x168 x169 x170 x171 x173 x174 x175 x176 x177 x178 x179)))
def z0i (φ:Nat) (k47 :((List Int)->(List Arc)->(List Int)->(List Int)->(List Int)->(List (List Int))->(List (List Int))->(List Int)->(List Int)->Option (Flow×Int×Unit))):Nat->Int->Int->Int->Int->(List Int)->(List Arc)->(List Int)->(List Int)->(List zd)->(List Int)->(List Int)->(List Int)->(List (List Int))->(List (List Int))->(List Int)->(List Int)->Option (Flow×Int×Unit)
 | 0,_,_,_,_,_,_,_,_,_,_,_,_,_,_,_,_=>none
 | n163+1,x147,x148,x149,x150,x151,x152,x153,x154,x155,x156,x157,x158,x159,x160,x161,x162=>(if(decide (x150<x149))=true then(ck (rg x150 x153.length) (if(decide (((gt x153 x150):Int)<1152921504606846976))=true then(ck (rg x150 x157.length) (ck (((decide (((gt x157 x150):Int)<0))=true/\(decide (x147<0))=false)->rg x147 x153.length) (if((decide (((gt x157 x150):Int)<0))&&((decide (x147<0))||(decide (((gt x153 x150):Int) <(gt x153 x147)))))=true then((z0i φ k47 n163) x150 (max2 x148 (gt x153 x150)) x149 (W (x150+1)) x151 x152 x153 x154 x155 x156 x157 x158 x159 x160 x161 x162) else((z0i φ k47 n163) x147 (max2 x148 (gt x153 x150)) x149 (W (x150+1)) x151 x152 x153 x154 x155 x156 x157 x158 x159 x160 x161 x162)))) else((z0i φ k47 n163) x147 x148 x149 (W (x150+1)) x151 x152 x153 x154 x155 x156 x157 x158 x159 x160 x161 x162))) else(if(decide (x147<0))=true then(z1z φ k47 false x151 x152 x156 x157 x158 x159 x160 x161 x162) else(z0v φ k47 φ x147 x148 (x153.length:Int) 0 x151 x152 x154 x155 x153 x156 x157 x158 x159 x160 x161 x162)))
def z0n (φ:Nat) (k47 :((List Int)->(List Arc)->(List Int)->(List Int)->(List Int)->(List (List Int))->(List (List Int))->(List Int)->(List Int)->Option (Flow×Int×Unit))) (x134 :(List Int)) (x135 :(List Arc)) (x136 x137 :(List Int)) (x138 :(List zd)) (x139 x140 x141 :(List Int)) (x142 x143 :(List (List Int))) (x144 x145 :(List Int)):Option (Flow×Int×Unit):=(z0i φ k47 φ (-1) 0 (x136.length:Int) 0 x134 x135 x136 x137 x138 x139 x140 x141 x142 x143 x144 x145)
def z26 (φ:Nat) (k47 :((List Int)->(List Arc)->(List Int)->(List Int)->(List Int)->(List (List Int))->(List (List Int))->(List Int)->(List Int)->Option (Flow×Int×Unit))) (x224 :(List Int)) (x225 :(List Arc)) (x226 x227 :(List Int)) (x228 :(List zd)) (x229 x230 x231 :(List Int)) (x232 x233 :(List (List Int))) (x234 x235 :(List Int)):Option (Flow×Int×Unit):=(z0n φ k47 x224 x225 x226 x227 x228 x229 x230 x231 x232 x233 x234 x235)
def z8e (φ:Nat) (k47 :((List Int)->(List Arc)->(List Int)->(List Int)->(List Int)->(List (List Int))->(List (List Int))->(List Int)->(List Int)->Option (Flow×Int×Unit))) (x224 :(List Int)) (x225 :(List Arc)) (x226 x227 :(List Int)) (x228 :(List zd)) (x229 x230 x231 :(List Int)) (x232 x233 :(List (List Int))) (x234 x235 :(List Int)):Option (List (Option (Flow×Int×Unit))):=(catL [(catL [(catL [(some [(z0n φ k47 x224 x225 x226 x227 x228 x229 x230 x231 x232 x233 x234 x235)])]),(catL [(catL [(some [(z0n φ k47 x224 x225 x226 x227 x228 x229 x230 x231 x232 x233 x234 x235)])]),(catL [(catL [(some [(z0n φ k47 x224 x225 x226 x227 x228 x229 x230 x231 x232 x233 x234 x235)])])])])]),(catL [(catL [(some [(z0n φ k47 x224 x225 x226 x227 x228 x229 x230 x231 x232 x233 x234 x235)])]),(catL [(catL [(some [(z0n φ k47 x224 x225 x226 x227 x228 x229 x230 x231 x232 x233 x234 x235)])])])]),(catL [(catL [(catL [(some [(z0n φ k47 x224 x225 x226 x227 x228 x229 x230 x231 x232 x233 x234 x235)])]),(catL [(catL [(some [(z0n φ k47 x224 x225 x226 x227 x228 x229 x230 x231 x232 x233 x234 x235)])])])]),(catL [(catL [(some [(z0n φ k47 x224 x225 x226 x227 x228 x229 x230 x231 x232 x233 x234 x235)])])])])])
def z0e (φ:Nat) (k115 :(Int->(List Int)->(List Arc)->(List Bool)->(List Int)->(List Int)->(List Int)->(List (List Int))->(List (List Int))->(List Int)->(List Int)->(List zd)->(List Int)->(List Int)->Option (Flow×Int×Unit))):Nat->Int->Int->Int->Int->(List Int)->(List Int)->(List Arc)->(List Bool)->Int->(List Int)->(List Int)->(List Int)->(List (List Int))->(List (List Int))->Int->(List Int)->(List Int)->(List zd)->(List Int)->(List Int)->Option (Flow×Int×Unit)
 | 0,_,_,_,_,_,_,_,_,_,_,_,_,_,_,_,_,_,_,_,_=>none
 | n278+1,x258,x259,x260,x261,x262,x263,x264,x265,x266,x267,x268,x269,x270,x271,x272,x273,x274,x275,x276,x277=>(if(decide (x259<x258))=true then(ck (rg x259 x262.length) (ck (rg (gt x262 x259) x264.length) (ck (rg (gt x262 x259) x267.length) (ck (((decide ((0:Int) <(gt x267 (gt x262 x259))))=true)->rg x261 x269.length) (ck (((decide ((0:Int) <(gt x267 (gt x262 x259))))=true)->rg (gt x264 (gt x262 x259)).from_ x269.length) (ck (((decide ((0:Int) <(gt x267 (gt x262 x259))))=true)->rg (gt x262 x259) x267.length) (if(decide ((0:Int) <(gt x267 (gt x262 x259))))=true then(ck (rg x266 x273.length) (ck (rg (gt x264 (gt x262 x259)).from_ x273.length) (if(decide (((W ((gt x273 x266) +(W ((W ((gt x269 x261) -(gt x264 (gt x262 x259)).cost)) -(gt x269 ((gt x264 (gt x262 x259)).from_)))))):Int) <(gt x273 ((gt x264 (gt x262 x259)).from_))))=true then(ck (rg (gt x264 (gt x262 x259)).from_ x273.length) (ck (rg (gt x264 (gt x262 x259)).from_ x274.length) (ck (rg (gt x264 (gt x262 x259)).from_ x275.length) (if(!true)=true then(k115 x260 x263 x264 x265 x267 x268 x269 x270 (zr x271 x272 x262) ((zr x273 ((gt x264 (gt x262 x259)).from_) ((W ((gt x273 x266) +(W ((W ((gt x269 x261) -(gt x264 (gt x262 x259)).cost)) -(gt x269 ((gt x264 (gt x262 x259)).from_))))))))) ((zr x274 ((gt x264 (gt x262 x259)).from_) x266)) ((zr x275 ((gt x264 (gt x262 x259)).from_) (((⟨gt x262 x259,(gt x264 (gt x262 x259)).from_,W ((W ((gt x269 x261) -(gt x264 (gt x262 x259)).cost)) -(gt x269 ((gt x264 (gt x262 x259)).from_))),gt x267 (gt x262 x259)⟩:zd))))) x276 x277) else((z0e φ k115 n278) x258 (W (x259+1)) x260 x261 x262 x263 x264 x265 x266 x267 x268 x269 x270 x271 x272 ((zr x273 ((gt x264 (gt x262 x259)).from_) ((W ((gt x273 x266) +(W ((W ((gt x269 x261) -(gt x264 (gt x262 x259)).cost)) -(gt x269 ((gt x264 (gt x262 x259)).from_))))))))) ((zr x274 ((gt x264 (gt x262 x259)).from_) x266)) ((zr x275 ((gt x264 (gt x262 x259)).from_) (((⟨gt x262 x259,(gt x264 (gt x262 x259)).from_,W ((W ((gt x269 x261) -(gt x264 (gt x262 x259)).cost)) -(gt x269 ((gt x264 (gt x262 x259)).from_))),gt x267 (gt x262 x259)⟩:zd))))) x276 x277))))) else(if(!true)=true then(k115 x260 x263 x264 x265 x267 x268 x269 x270 (zr x271 x272 x262) x273 x274 x275 x276 x277) else((z0e φ k115 n278) x258 (W (x259+1)) x260 x261 x262 x263 x264 x265 x266 x267 x268 x269 x270 x271 x272 x273 x274 x275 x276 x277))))) else((z0e φ k115 n278) x258 (W (x259+1)) x260 x261 x262 x263 x264 x265 x266 x267 x268 x269 x270 x271 x272 x273 x274 x275 x276 x277)))))))) else(k115 x260 x263 x264 x265 x267 x268 x269 x270 (zr x271 x272 x262) x273 x274 x275 x276 x277))
def z0d (φ:Nat) (k115 :(Int->(List Int)->(List Arc)->(List Bool)->(List Int)->(List Int)->(List Int)->(List (List Int))->(List (List Int))->(List Int)->(List Int)->(List zd)->(List Int)->(List Int)->Option (Flow×Int×Unit))):Nat->Int->Int->Int->Int->(List Int)->(List Int)->(List Arc)->(List Bool)->Int->(List Int)->(List Int)->(List Int)->(List (List Int))->Int->(List (List Int))->(List Int)->(List Int)->(List zd)->(List Int)->(List Int)->Option (Flow×Int×Unit)
 | 0,_,_,_,_,_,_,_,_,_,_,_,_,_,_,_,_,_,_,_,_=>none
 | n257+1,x237,x238,x239,x240,x241,x242,x243,x244,x245,x246,x247,x248,x249,x250,x251,x252,x253,x254,x255,x256=>(if(decide (x238<x237))=true then(ck (rg x238 x241.length) (ck (rg (gt x241 x238) x243.length) (ck (rg (gt x241 x238) x246.length) (ck (((decide ((0:Int) <(W ((gt x243 (gt x241 x238)).cap -(gt x246 (gt x241 x238))))))=true)->rg x240 x248.length) (ck (((decide ((0:Int) <(W ((gt x243 (gt x241 x238)).cap -(gt x246 (gt x241 x238))))))=true)->rg (gt x243 (gt x241 x238)).to x248.length) (if(decide ((0:Int) <(W ((gt x243 (gt x241 x238)).cap -(gt x246 (gt x241 x238))))))=true then(ck (rg x245 x252.length) (ck (rg (gt x243 (gt x241 x238)).to x252.length) (if(decide (((W ((gt x252 x245) +(W ((W ((gt x243 (gt x241 x238)).cost +(gt x248 x240))) -(gt x248 ((gt x243 (gt x241 x238)).to)))))):Int) <(gt x252 ((gt x243 (gt x241 x238)).to))))=true then(ck (rg (gt x243 (gt x241 x238)).to x252.length) (ck (rg (gt x243 (gt x241 x238)).to x253.length) (ck (rg (gt x243 (gt x241 x238)).to x254.length) (if(!true)=true then(k115 x239 x242 x243 x244 x246 x247 x248 (zr x249 x250 x241) x251 ((zr x252 ((gt x243 (gt x241 x238)).to) ((W ((gt x252 x245) +(W ((W ((gt x243 (gt x241 x238)).cost +(gt x248 x240))) -(gt x248 ((gt x243 (gt x241 x238)).to))))))))) ((zr x253 ((gt x243 (gt x241 x238)).to) x245)) ((zr x254 ((gt x243 (gt x241 x238)).to) (((⟨gt x241 x238,(gt x243 (gt x241 x238)).to,W ((W ((gt x243 (gt x241 x238)).cost +(gt x248 x240))) -(gt x248 ((gt x243 (gt x241 x238)).to))),W ((gt x243 (gt x241 x238)).cap -(gt x246 (gt x241 x238)))⟩:zd))))) x255 x256) else((z0d φ k115 n257) x237 (W (x238+1)) x239 x240 x241 x242 x243 x244 x245 x246 x247 x248 x249 x250 x251 ((zr x252 ((gt x243 (gt x241 x238)).to) ((W ((gt x252 x245) +(W ((W ((gt x243 (gt x241 x238)).cost +(gt x248 x240))) -(gt x248 ((gt x243 (gt x241 x238)).to))))))))) ((zr x253 ((gt x243 (gt x241 x238)).to) x245)) ((zr x254 ((gt x243 (gt x241 x238)).to) (((⟨gt x241 x238,(gt x243 (gt x241 x238)).to,W ((W ((gt x243 (gt x241 x238)).cost +(gt x248 x240))) -(gt x248 ((gt x243 (gt x241 x238)).to))),W ((gt x243 (gt x241 x238)).cap -(gt x246 (gt x241 x238)))⟩:zd))))) x255 x256))))) else(if(!true)=true then(k115 x239 x242 x243 x244 x246 x247 x248 (zr x249 x250 x241) x251 x252 x253 x254 x255 x256) else((z0d φ k115 n257) x237 (W (x238+1)) x239 x240 x241 x242 x243 x244 x245 x246 x247 x248 x249 x250 x251 x252 x253 x254 x255 x256))))) else((z0d φ k115 n257) x237 (W (x238+1)) x239 x240 x241 x242 x243 x244 x245 x246 x247 x248 x249 x250 x251 x252 x253 x254 x255 x256))))))) else(ck (rg x240 x251.length) (ck (rg x240 x251.length) (ck (x240=x240) (z0e φ k115 φ ((gt x251 x240).length:Int) 0 x239 x240 (gt x251 x240) x242 x243 x244 x245 x246 x247 x248 (zr x249 x250 x241) x251 x240 x252 x253 x254 x255 x256)))))
def z0s (φ:Nat) (k47 :((List Int)->(List Arc)->(List Int)->(List Int)->(List Int)->(List (List Int))->(List (List Int))->(List Int)->(List Int)->Option (Flow×Int×Unit))) (k115 :(Int->(List Int)->(List Arc)->(List Bool)->(List Int)->(List Int)->(List Int)->(List (List Int))->(List (List Int))->(List Int)->(List Int)->(List zd)->(List Int)->(List Int)->Option (Flow×Int×Unit))):Nat->Int->Int->Int->(List Int)->(List Arc)->(List Bool)->Int->(List Int)->(List Int)->(List Int)->(List (List Int))->(List (List Int))->(List Int)->(List Int)->(List zd)->(List Int)->(List Int)->Option (Flow×Int×Unit)
 | 0,_,_,_,_,_,_,_,_,_,_,_,_,_,_,_,_,_=>none
 | n133+1,x116,x117,x118,x119,x120,x121,x122,x123,x124,x125,x126,x127,x128,x129,x130,x131,x132=>(if(decide (x118<x117))=true then(ck (rg x118 x121.length) (ck (((!(gt x121 x118))=true)->rg x118 x128.length) (ck ((((!(gt x121 x118))&&(decide (((gt x128 x118):Int)<1152921504606846976)))=true/\(decide (x122<0))=false)->rg x118 x128.length) (ck ((((!(gt x121 x118))&&(decide (((gt x128 x118):Int)<1152921504606846976)))=true/\(decide (x122<0))=false)->rg x122 x128.length) (if(((!(gt x121 x118))&&(decide (((gt x128 x118):Int)<1152921504606846976)))&&((decide (x122<0))||(decide (((gt x128 x118):Int) <(gt x128 x122)))))=true then((z0s φ k47 k115 n133) x116 x117 (W (x118+1)) x119 x120 x121 x118 x123 x124 x125 x126 x127 x128 x129 x130 x131 x132) else((z0s φ k47 k115 n133) x116 x117 (W (x118+1)) x119 x120 x121 x122 x123 x124 x125 x126 x127 x128 x129 x130 x131 x132)))))) else(if(decide (x122<0))=true then(z26 φ k47 x119 x120 x128 x129 x130 x123 x124 x125 x126 x127 x131 x132) else(ck (rg x122 x121.length) (ck (rg x122 x126.length) (ck (rg x122 x126.length) (ck (x122=x122) (z0d φ k115 φ ((gt x126 x122).length:Int) 0 x116 x122 (gt x126 x122) x119 x120 (zr x121 x122 true) x122 x123 x124 x125 x126 x122 x127 x128 x129 x130 x131 x132)))))))
def z3w (φ:Nat) (k47 :((List Int)->(List Arc)->(List Int)->(List Int)->(List Int)->(List (List Int))->(List (List Int))->(List Int)->(List Int)->Option (Flow×Int×Unit))):Nat->Int->(List Int)->(List Arc)->(List Bool)->(List Int)->(List Int)->(List Int)->(List (List Int))->(List (List Int))->(List Int)->(List Int)->(List zd)->(List Int)->(List Int)->Option (Flow×Int×Unit)
 | 0,_,_,_,_,_,_,_,_,_,_,_,_,_,_=>none
 | n115+1,x101,x102,x103,x104,x105,x106,x107,x108,x109,x110,x111,x112,x113,x114=>(z0s φ k47 (z3w φ k47 n115) φ x101 x101 0 x102 x103 x104 (-1) x105 x106 x107 x108 x109 x110 x111 x112 x113 x114)
def z1d (φ:Nat) (k47 :((List Int)->(List Arc)->(List Int)->(List Int)->(List Int)->(List (List Int))->(List (List Int))->(List Int)->(List Int)->Option (Flow×Int×Unit))):Nat->Int->Int->Int->(List Int)->(List Arc)->(List Int)->(List Int)->(List Int)->(List (List Int))->(List (List Int))->(List Int)->(List Int)->(List zd)->(List Int)->(List Int)->Option (Flow×Int×Unit)
 | 0,_,_,_,_,_,_,_,_,_,_,_,_,_,_,_=>none
 | n100+1,x85,x86,x87,x88,x89,x90,x91,x92,x93,x94,x95,x96,x97,x98,x99=>(if(decide (x87<x86))=true then(ck (rg x87 x95.length) (ck (rg x87 x96.length) (ck (rg x87 x91.length) (if(decide ((0:Int) <(gt x91 x87)))=true then(ck (rg x87 (zr x95 x87 1152921504606846976).length) ((z1d φ k47 n100) x85 x86 (W (x87+1)) x88 x89 x90 x91 x92 x93 x94 (zr (zr x95 x87 1152921504606846976) x87 0) (zr x96 x87 (-1)) x97 x98 x99)) else((z1d φ k47 n100) x85 x86 (W (x87+1)) x88 x89 x90 x91 x92 x93 x94 (zr x95 x87 1152921504606846976) (zr x96 x87 (-1)) x97 x98 x99))))) else(ck (z8 x85 1) (z3w φ k47 φ x85 x88 x89 (List.replicate x85.toNat (default:Bool)) x90 x91 x92 x93 x94 x95 x96 x97 x98 x99)))
def zx (φ:Nat) (k47 :((List Int)->(List Arc)->(List Int)->(List Int)->(List Int)->(List (List Int))->(List (List Int))->(List Int)->(List Int)->Option (Flow×Int×Unit))) (x71:Int) (x72 :(List Int)) (x73 :(List Arc)) (x74 x75 x76 :(List Int)) (x77 x78 :(List (List Int))) (x79 x80 :(List Int)) (x81 :(List zd)) (x82 x83 :(List Int)):Option (Flow×Int×Unit):=(z1d φ k47 φ x71 x71 0 x72 x73 x74 x75 x76 x77 x78 x79 x80 x81 x82 x83)
def z32 (φ:Nat) (k47 :((List Int)->(List Arc)->(List Int)->(List Int)->(List Int)->(List (List Int))->(List (List Int))->(List Int)->(List Int)->Option (Flow×Int×Unit))) (x279:Int) (x280 :(List Int)) (x281 :(List Arc)) (x282 x283 x284 :(List Int)) (x285 x286 :(List (List Int))) (x287 x288 :(List Int)) (x289 :(List zd)) (x290 x291 :(List Int)):Option (Flow×Int×Unit):=(ck (z8 x279 8) (ck (z8 x279 8) (ck (z8 x279 32) (zx φ k47 x279 x280 x281 x282 x283 x284 x285 x286 (List.replicate x279.toNat (default:Int)) (List.replicate x279.toNat (default:Int)) (List.replicate x279.toNat (default:zd)) x290 x291))))
def z86 (φ:Nat) (k47 :((List Int)->(List Arc)->(List Int)->(List Int)->(List Int)->(List (List Int))->(List (List Int))->(List Int)->(List Int)->Option (Flow×Int×Unit))) (x279:Int) (x280 :(List Int)) (x281 :(List Arc)) (x282 x283 x284 :(List Int)) (x285 x286 :(List (List Int))) (x287 x288 :(List Int)) (x289 :(List zd)) (x290 x291 :(List Int)):Option (List (Option (Flow×Int×Unit))):=(catL [(ck (z8 x279 8) (catL [(ck (z8 x279 8) (catL [(ck (z8 x279 32) (catL [(some [(zx φ k47 x279 x280 x281 x282 x283 x284 x285 x286 (List.replicate x279.toNat (default:Int)) (List.replicate x279.toNat (default:Int)) (List.replicate x279.toNat (default:zd)) x290 x291)])])),(catL [(ck (z8 x279 32) (catL [(some [(zx φ k47 x279 x280 x281 x282 x283 x284 x285 x286 (List.replicate x279.toNat (default:Int)) (List.replicate x279.toNat (default:Int)) (List.replicate x279.toNat (default:zd)) x290 x291)])])),(catL [(ck (z8 x279 32) (catL [(some [(zx φ k47 x279 x280 x281 x282 x283 x284 x285 x286 (List.replicate x279.toNat (default:Int)) (List.replicate x279.toNat (default:Int)) (List.replicate x279.toNat (default:zd)) x290 x291)])]))])])])),(ck (z8 x279 32) (catL [(ck (z8 x279 8) (catL [(some [(zx φ k47 x279 x280 x281 x282 x283 x284 x285 x286 (List.replicate x279.toNat (default:Int)) (List.replicate x279.toNat (default:Int)) (List.replicate x279.toNat (default:zd)) x290 x291)])])),(catL [(ck (z8 x279 8) (catL [(some [(zx φ k47 x279 x280 x281 x282 x283 x284 x285 x286 (List.replicate x279.toNat (default:Int)) (List.replicate x279.toNat (default:Int)) (List.replicate x279.toNat (default:zd)) x290 x291)])]))])])),(catL [(ck (z8 x279 8) (catL [(ck (z8 x279 32) (catL [(some [(zx φ k47 x279 x280 x281 x282 x283 x284 x285 x286 (List.replicate x279.toNat (default:Int)) (List.replicate x279.toNat (default:Int)) (List.replicate x279.toNat (default:zd)) x290 x291)])])),(catL [(ck (z8 x279 32) (catL [(some [(zx φ k47 x279 x280 x281 x282 x283 x284 x285 x286 (List.replicate x279.toNat (default:Int)) (List.replicate x279.toNat (default:Int)) (List.replicate x279.toNat (default:zd)) x290 x291)])]))])])),(ck (z8 x279 32) (catL [(ck (z8 x279 8) (catL [(some [(zx φ k47 x279 x280 x281 x282 x283 x284 x285 x286 (List.replicate x279.toNat (default:Int)) (List.replicate x279.toNat (default:Int)) (List.replicate x279.toNat (default:zd)) x290 x291)])]))]))])])),(ck (z8 x279 8) (catL [(ck (z8 x279 8) (catL [(ck (z8 x279 32) (catL [(some [(zx φ k47 x279 x280 x281 x282 x283 x284 x285 x286 (List.replicate x279.toNat (default:Int)) (List.replicate x279.toNat (default:Int)) (List.replicate x279.toNat (default:zd)) x290 x291)])])),(catL [(ck (z8 x279 32) (catL [(some [(zx φ k47 x279 x280 x281 x282 x283 x284 x285 x286 (List.replicate x279.toNat (default:Int)) (List.replicate x279.toNat (default:Int)) (List.replicate x279.toNat (default:zd)) x290 x291)])])),(catL [(ck (z8 x279 32) (catL [(some [(zx φ k47 x279 x280 x281 x282 x283 x284 x285 x286 (List.replicate x279.toNat (default:Int)) (List.replicate x279.toNat (default:Int)) (List.replicate x279.toNat (default:zd)) x290 x291)])]))])])])),(ck (z8 x279 32) (catL [(ck (z8 x279 8) (catL [(some [(zx φ k47 x279 x280 x281 x282 x283 x284 x285 x286 (List.replicate x279.toNat (default:Int)) (List.replicate x279.toNat (default:Int)) (List.replicate x279.toNat (default:zd)) x290 x291)])]))]))])),(ck (z8 x279 32) (catL [(ck (z8 x279 8) (catL [(ck (z8 x279 8) (catL [(some [(zx φ k47 x279 x280 x281 x282 x283 x284 x285 x286 (List.replicate x279.toNat (default:Int)) (List.replicate x279.toNat (default:Int)) (List.replicate x279.toNat (default:zd)) x290 x291)])])),(catL [(ck (z8 x279 8) (catL [(some [(zx φ k47 x279 x280 x281 x282 x283 x284 x285 x286 (List.replicate x279.toNat (default:Int)) (List.replicate x279.toNat (default:Int)) (List.replicate x279.toNat (default:zd)) x290 x291)])]))])])),(ck (z8 x279 8) (catL [(ck (z8 x279 8) (catL [(some [(zx φ k47 x279 x280 x281 x282 x283 x284 x285 x286 (List.replicate x279.toNat (default:Int)) (List.replicate x279.toNat (default:Int)) (List.replicate x279.toNat (default:zd)) x290 x291)])]))]))]))])
def z2p (φ:Nat):Nat->(List Int)->(List Arc)->(List Int)->(List Int)->(List Int)->(List (List Int))->(List (List Int))->(List Int)->(List Int)->Option (Flow×Int×Unit)
 | 0,_,_,_,_,_,_,_,_,_=>none
 | n47+1,x38,x39,x40,x41,x42,x43,x44,x45,x46=>(z32 φ (z2p φ n47) (x41.length:Int) x38 x39 x40 x41 x42 x43 x44 ([]:List Int) ([]:List Int) ([]:List zd) x45 x46)
def z16 (φ:Nat):Nat->(List Arc)->Int->Int->(List Int)->(List Arc)->(List Int)->(List Int)->(List Int)->(List (List Int))->(List (List Int))->(List Int)->(List Int)->Option (Flow×Int×Unit)
 | 0,_,_,_,_,_,_,_,_,_,_,_,_=>none
 | n26+1,x14,x15,x16,x17,x18,x19,x20,x21,x22,x23,x24,x25=>(if(decide (x16<x15))=true then(ck (rg x16 x14.length) (ck (rg (gt x14 x16).from_ x22.length) (ck (rg (gt x14 x16).from_ x22.length) (ck (((gt x14 x16).from_:Int) =(gt x14 x16).from_) (ck (fits ((gt x22 ((gt x14 x16).from_)).length +([x16]).length) 8) (ck (rg (gt x14 x16).from_ x22.length) (ck (((gt x14 x16).from_:Int) =(gt x14 x16).from_) (ck (rg (gt x14 x16).to x23.length) (ck (rg (gt x14 x16).to x23.length) (ck (((gt x14 x16).to:Int) =(gt x14 x16).to) (ck (fits ((gt x23 ((gt x14 x16).to)).length +([x16]).length) 8) (ck (rg (gt x14 x16).to x23.length) (ck (((gt x14 x16).to:Int) =(gt x14 x16).to) ((z16 φ n26) x14 x15 (W (x16+1)) x17 x18 x19 x20 x21 ((zr x22 ((gt x14 x16).from_) (((gt x22 ((gt x14 x16).from_))++[x16])))) ((zr x23 ((gt x14 x16).to) (((gt x23 ((gt x14 x16).to))++[x16])))) x24 x25)))))))))))))) else(z2p φ φ x17 x18 x19 x20 x21 x22 x23 x24 x25))
def z7j (φ:Nat) (x3:zj) (x4 :(List Int)) (x5 :(List Arc)) (x6 x7 x8 :(List Int)) (x9 x10 :(List (List Int))) (x11 x12 :(List Int)):Option (Flow×Int×Unit):=(z16 φ φ x3.arcs (x3.arcs.length:Int) 0 x4 x5 x6 x7 x8 x9 x10 x11 x12)
def z4s (φ:Nat) (x293:Int) (x294:zj) (x295 x296 :(List Int)):Option (Flow×Int×Unit):=(ck (z8 (x294.arcs.length:Int) 8) (ck (fits (([]:List Int).length+x294.supply.length) 8) (ck (z8 x293 8) (ck (z8 x293 24) (ck (z8 x293 24) (z7j φ x294 x294.supply x294.arcs (List.replicate ((x294.arcs.length:Int):Int).toNat (default:Int)) (([]:List Int)++x294.supply) (List.replicate x293.toNat (default:Int)) (List.replicate x293.toNat (default :(List Int))) (List.replicate x293.toNat (default :(List Int))) x295 x296))))))
def z7 (φ:Nat) (x293:Int) (x294:zj) (x295 x296 :(List Int)):Option (List (Option (Flow×Int×Unit))):=(catL [(some [(z7j φ x294 x294.supply x294.arcs (List.replicate ((x294.arcs.length:Int):Int).toNat (default:Int)) (([]:List Int)++x294.supply) (List.replicate x293.toNat (default:Int)) (List.replicate x293.toNat (default :(List Int))) (List.replicate x293.toNat (default :(List Int))) x295 x296)])])
def z09 (φ:Nat) (x293:Int) (x294:zj) (x295 x296 :(List Int)):Option (List (Option (Flow×Int×Unit))):=(catL [(ck (z8 x293 24) (z7 φ x293 x294 x295 x296))])
def ze (φ:Nat) (x293:Int) (x294:zj) (x295 x296 :(List Int)):Option (List (Option (Flow×Int×Unit))):=(catL [(ck (fits (([]:List Int).length+x294.supply.length) 8) (z7 φ x293 x294 x295 x296))])
def z15 (φ:Nat) (x293:Int) (x294:zj) (x295 x296 :(List Int)):Option (List (Option (Flow×Int×Unit))):=(catL [(ck (fits (([]:List Int).length+x294.supply.length) 8) (z09 φ x293 x294 x295 x296)),(ck (z8 x293 24) (ze φ x293 x294 x295 x296))])
def z5g (φ:Nat) (x293:Int) (x294:zj) (x295 x296 :(List Int)):Option (List (Option (Flow×Int×Unit))):=(catL [(ck (z8 (x294.arcs.length:Int) 8) (catL [(ck (fits (([]:List Int).length+x294.supply.length) 8) (catL [(ck (z8 x293 8) (z09 φ x293 x294 x295 x296)),(ck (z8 x293 24) (catL [(ck (z8 x293 8) (z7 φ x293 x294 x295 x296))]))])),(ck (z8 x293 8) (z15 φ x293 x294 x295 x296)),(ck (z8 x293 24) (catL [(ck (fits (([]:List Int).length+x294.supply.length) 8) (catL [(ck (z8 x293 8) (z7 φ x293 x294 x295 x296))])),(ck (z8 x293 8) (ze φ x293 x294 x295 x296))]))])),(ck (fits (([]:List Int).length+x294.supply.length) 8) (catL [(ck (z8 (x294.arcs.length:Int) 8) (catL [(ck (z8 x293 8) (z09 φ x293 x294 x295 x296)),(ck (z8 x293 24) (catL [(ck (z8 x293 8) (z7 φ x293 x294 x295 x296))]))])),(ck (z8 x293 8) (catL [(ck (z8 (x294.arcs.length:Int) 8) (z09 φ x293 x294 x295 x296)),(ck (z8 x293 24) (catL [(ck (z8 (x294.arcs.length:Int) 8) (z7 φ x293 x294 x295 x296))]))])),(ck (z8 x293 24) (catL [(ck (z8 (x294.arcs.length:Int) 8) (catL [(ck (z8 x293 8) (z7 φ x293 x294 x295 x296))])),(ck (z8 x293 8) (catL [(ck (z8 (x294.arcs.length:Int) 8) (z7 φ x293 x294 x295 x296))]))]))])),(ck (z8 x293 8) (catL [(ck (z8 (x294.arcs.length:Int) 8) (z15 φ x293 x294 x295 x296)),(ck (fits (([]:List Int).length+x294.supply.length) 8) (catL [(ck (z8 (x294.arcs.length:Int) 8) (z09 φ x293 x294 x295 x296)),(ck (z8 x293 24) (catL [(ck (z8 (x294.arcs.length:Int) 8) (z7 φ x293 x294 x295 x296))]))])),(ck (z8 x293 24) (catL [(ck (z8 (x294.arcs.length:Int) 8) (ze φ x293 x294 x295 x296)),(ck (fits (([]:List Int).length+x294.supply.length) 8) (catL [(ck (z8 (x294.arcs.length:Int) 8) (z7 φ x293 x294 x295 x296))]))]))])),(ck (z8 x293 24) (catL [(ck (z8 (x294.arcs.length:Int) 8) (catL [(ck (fits (([]:List Int).length+x294.supply.length) 8) (catL [(ck (z8 x293 8) (z7 φ x293 x294 x295 x296))])),(ck (z8 x293 8) (ze φ x293 x294 x295 x296))])),(ck (fits (([]:List Int).length+x294.supply.length) 8) (catL [(ck (z8 (x294.arcs.length:Int) 8) (catL [(ck (z8 x293 8) (z7 φ x293 x294 x295 x296))])),(ck (z8 x293 8) (catL [(ck (z8 (x294.arcs.length:Int) 8) (z7 φ x293 x294 x295 x296))]))])),(ck (z8 x293 8) (catL [(ck (z8 (x294.arcs.length:Int) 8) (ze φ x293 x294 x295 x296)),(ck (fits (([]:List Int).length+x294.supply.length) 8) (catL [(ck (z8 (x294.arcs.length:Int) 8) (z7 φ x293 x294 x295 x296))]))]))]))])
def z14 (φ:Nat) (x293:Int) (x294:zj) (x295 x296 :(List Int)):Option (List (Option (Flow×Int×Unit))):=(catL [(ck (fits (([]:List Int).length+x294.supply.length) 8) (catL [(ck (z8 x293 8) (z09 φ x293 x294 x295 x296)),(ck (z8 x293 24) (catL [(ck (z8 x293 8) (z7 φ x293 x294 x295 x296))]))])),(ck (z8 x293 8) (z15 φ x293 x294 x295 x296)),(ck (z8 x293 24) (catL [(ck (fits (([]:List Int).length+x294.supply.length) 8) (catL [(ck (z8 x293 8) (z7 φ x293 x294 x295 x296))])),(ck (z8 x293 8) (ze φ x293 x294 x295 x296))]))])
def z05 (φ:Nat) (x293:Int) (x294:zj) (x295 x296 :(List Int)):Option (List (Option (Flow×Int×Unit))):=(catL [(z15 φ x293 x294 x295 x296),(ck (z8 x293 24) (catL [(ze φ x293 x294 x295 x296)]))])
def z2v (φ:Nat) (x293:Int) (x294:zj) (x295 x296 :(List Int)):Option (List (Option (Flow×Int×Unit))):=(catL [(ck (z8 (x294.arcs.length:Int) 8) (z15 φ x293 x294 x295 x296)),(ck (fits (([]:List Int).length+x294.supply.length) 8) (catL [(ck (z8 (x294.arcs.length:Int) 8) (z09 φ x293 x294 x295 x296)),(ck (z8 x293 24) (catL [(ck (z8 (x294.arcs.length:Int) 8) (z7 φ x293 x294 x295 x296))]))])),(ck (z8 x293 24) (catL [(ck (z8 (x294.arcs.length:Int) 8) (ze φ x293 x294 x295 x296)),(ck (fits (([]:List Int).length+x294.supply.length) 8) (catL [(ck (z8 (x294.arcs.length:Int) 8) (z7 φ x293 x294 x295 x296))]))]))])
def z76 (φ:Nat) (x293:Int) (x294:zj) (x295 x296 :(List Int)):Option (List (Option (Flow×Int×Unit))):=(ck (z8 x293 24) (catL [(ck (z8 (x294.arcs.length:Int) 8) (catL [(z14 φ x293 x294 x295 x296),(ck (z8 x293 8) (z05 φ x293 x294 x295 x296)),(ck (z8 x293 24) (catL [(catL [(ck (fits (([]:List Int).length+x294.supply.length) 8) (catL [(ck (z8 x293 8) (z7 φ x293 x294 x295 x296))])),(ck (z8 x293 8) (ze φ x293 x294 x295 x296))]),(ck (z8 x293 8) (catL [(ze φ x293 x294 x295 x296)]))]))])),(z5g φ x293 x294 x295 x296),(ck (z8 x293 8) (catL [(ck (z8 (x294.arcs.length:Int) 8) (z05 φ x293 x294 x295 x296)),(z2v φ x293 x294 x295 x296),(ck (z8 x293 24) (catL [(ck (z8 (x294.arcs.length:Int) 8) (catL [(ze φ x293 x294 x295 x296)])),(catL [(ck (z8 (x294.arcs.length:Int) 8) (ze φ x293 x294 x295 x296)),(ck (fits (([]:List Int).length+x294.supply.length) 8) (catL [(ck (z8 (x294.arcs.length:Int) 8) (z7 φ x293 x294 x295 x296))]))])]))])),(ck (z8 x293 24) (catL [(ck (z8 (x294.arcs.length:Int) 8) (catL [(catL [(ck (fits (([]:List Int).length+x294.supply.length) 8) (catL [(ck (z8 x293 8) (z7 φ x293 x294 x295 x296))])),(ck (z8 x293 8) (ze φ x293 x294 x295 x296))]),(ck (z8 x293 8) (catL [(ze φ x293 x294 x295 x296)]))])),(catL [(ck (z8 (x294.arcs.length:Int) 8) (catL [(ck (fits (([]:List Int).length+x294.supply.length) 8) (catL [(ck (z8 x293 8) (z7 φ x293 x294 x295 x296))])),(ck (z8 x293 8) (ze φ x293 x294 x295 x296))])),(ck (fits (([]:List Int).length+x294.supply.length) 8) (catL [(ck (z8 (x294.arcs.length:Int) 8) (catL [(ck (z8 x293 8) (z7 φ x293 x294 x295 x296))])),(ck (z8 x293 8) (catL [(ck (z8 (x294.arcs.length:Int) 8) (z7 φ x293 x294 x295 x296))]))])),(ck (z8 x293 8) (catL [(ck (z8 (x294.arcs.length:Int) 8) (ze φ x293 x294 x295 x296)),(ck (fits (([]:List Int).length+x294.supply.length) 8) (catL [(ck (z8 (x294.arcs.length:Int) 8) (z7 φ x293 x294 x295 x296))]))]))]),(ck (z8 x293 8) (catL [(ck (z8 (x294.arcs.length:Int) 8) (catL [(ze φ x293 x294 x295 x296)])),(catL [(ck (z8 (x294.arcs.length:Int) 8) (ze φ x293 x294 x295 x296)),(ck (fits (([]:List Int).length+x294.supply.length) 8) (catL [(ck (z8 (x294.arcs.length:Int) 8) (z7 φ x293 x294 x295 x296))]))])]))]))]))
end Px
end
section
set_option maxHeartbeats 4000000
set_option maxRecDepth 100000
namespace Px
open Go Go.RowKit
def zu (φ:Nat) (x293:Int) (x294:zj) (x295 x296 :(List Int)):Option (List (Option (Flow×Int×Unit))):=(ck (z8 x293 24) (z09 φ x293 x294 x295 x296))
def z2s (φ:Nat) (x293:Int) (x294:zj) (x295 x296 :(List Int)):Option (List (Option (Flow×Int×Unit))):=(catL [(ck (fits (([]:List Int).length+x294.supply.length) 8) (catL [(zu φ x293 x294 x295 x296),(zu φ x293 x294 x295 x296)])),(ck (z8 x293 24) (z15 φ x293 x294 x295 x296)),(ck (z8 x293 24) (z15 φ x293 x294 x295 x296))])
def z1a (φ:Nat) (x293:Int) (x294:zj) (x295 x296 :(List Int)):Option (List (Option (Flow×Int×Unit))):=(catL [(ck (z8 (x294.arcs.length:Int) 8) (z09 φ x293 x294 x295 x296)),(ck (z8 x293 24) (catL [(ck (z8 (x294.arcs.length:Int) 8) (z7 φ x293 x294 x295 x296))]))])
def z6i (φ:Nat) (x293:Int) (x294:zj) (x295 x296 :(List Int)):Option (List (Option (Flow×Int×Unit))):=(catL [(ck (z8 (x294.arcs.length:Int) 8) (z2s φ x293 x294 x295 x296)),(ck (fits (([]:List Int).length+x294.supply.length) 8) (catL [(ck (z8 (x294.arcs.length:Int) 8) (catL [(zu φ x293 x294 x295 x296),(zu φ x293 x294 x295 x296)])),(ck (z8 x293 24) (z1a φ x293 x294 x295 x296)),(ck (z8 x293 24) (z1a φ x293 x294 x295 x296))])),(ck (z8 x293 24) (z2v φ x293 x294 x295 x296)),(ck (z8 x293 24) (z2v φ x293 x294 x295 x296))])
def z0g (φ:Nat) (x293:Int) (x294:zj) (x295 x296 :(List Int)):Option (List (Option (Flow×Int×Unit))):=(catL [(ck (z8 x293 8) (z09 φ x293 x294 x295 x296)),(ck (z8 x293 24) (catL [(ck (z8 x293 8) (z7 φ x293 x294 x295 x296))]))])
def z89 (φ:Nat) (x293:Int) (x294:zj) (x295 x296 :(List Int)):Option (List (Option (Flow×Int×Unit))):=(catL [(ck (z8 (x294.arcs.length:Int) 8) (catL [(catL [(ck (fits (([]:List Int).length+x294.supply.length) 8) (catL [(ck (z8 x293 8) (catL [(zu φ x293 x294 x295 x296),(zu φ x293 x294 x295 x296)])),(ck (z8 x293 24) (z0g φ x293 x294 x295 x296)),(ck (z8 x293 24) (z0g φ x293 x294 x295 x296))])),(ck (z8 x293 8) (z2s φ x293 x294 x295 x296)),(ck (z8 x293 24) (z14 φ x293 x294 x295 x296)),(ck (z8 x293 24) (z14 φ x293 x294 x295 x296))]),(ck (z8 x293 8) (catL [(z2s φ x293 x294 x295 x296),(ck (z8 x293 24) (z05 φ x293 x294 x295 x296)),(ck (z8 x293 24) (z05 φ x293 x294 x295 x296))])),(ck (z8 x293 24) (catL [(z14 φ x293 x294 x295 x296),(ck (z8 x293 8) (z05 φ x293 x294 x295 x296)),(ck (z8 x293 24) (catL [(catL [(ck (fits (([]:List Int).length+x294.supply.length) 8) (catL [(ck (z8 x293 8) (z7 φ x293 x294 x295 x296))])),(ck (z8 x293 8) (ze φ x293 x294 x295 x296))]),(ck (z8 x293 8) (catL [(ze φ x293 x294 x295 x296)]))]))])),(ck (z8 x293 24) (catL [(z14 φ x293 x294 x295 x296),(ck (z8 x293 8) (z05 φ x293 x294 x295 x296)),(ck (z8 x293 24) (catL [(catL [(ck (fits (([]:List Int).length+x294.supply.length) 8) (catL [(ck (z8 x293 8) (z7 φ x293 x294 x295 x296))])),(ck (z8 x293 8) (ze φ x293 x294 x295 x296))]),(ck (z8 x293 8) (catL [(ze φ x293 x294 x295 x296)]))]))]))])),(catL [(ck (z8 (x294.arcs.length:Int) 8) (catL [(ck (fits (([]:List Int).length+x294.supply.length) 8) (catL [(ck (z8 x293 8) (catL [(zu φ x293 x294 x295 x296),(zu φ x293 x294 x295 x296)])),(ck (z8 x293 24) (z0g φ x293 x294 x295 x296)),(ck (z8 x293 24) (z0g φ x293 x294 x295 x296))])),(ck (z8 x293 8) (z2s φ x293 x294 x295 x296)),(ck (z8 x293 24) (z14 φ x293 x294 x295 x296)),(ck (z8 x293 24) (z14 φ x293 x294 x295 x296))])),(ck (fits (([]:List Int).length+x294.supply.length) 8) (catL [(ck (z8 (x294.arcs.length:Int) 8) (catL [(ck (z8 x293 8) (catL [(zu φ x293 x294 x295 x296),(zu φ x293 x294 x295 x296)])),(ck (z8 x293 24) (z0g φ x293 x294 x295 x296)),(ck (z8 x293 24) (z0g φ x293 x294 x295 x296))])),(ck (z8 x293 8) (catL [(ck (z8 (x294.arcs.length:Int) 8) (catL [(zu φ x293 x294 x295 x296),(zu φ x293 x294 x295 x296)])),(ck (z8 x293 24) (z1a φ x293 x294 x295 x296)),(ck (z8 x293 24) (z1a φ x293 x294 x295 x296))])),(ck (z8 x293 24) (catL [(ck (z8 (x294.arcs.length:Int) 8) (z0g φ x293 x294 x295 x296)),(ck (z8 x293 8) (z1a φ x293 x294 x295 x296)),(ck (z8 x293 24) (catL [(ck (z8 (x294.arcs.length:Int) 8) (catL [(ck (z8 x293 8) (z7 φ x293 x294 x295 x296))])),(ck (z8 x293 8) (catL [(ck (z8 (x294.arcs.length:Int) 8) (z7 φ x293 x294 x295 x296))]))]))])),(ck (z8 x293 24) (catL [(ck (z8 (x294.arcs.length:Int) 8) (z0g φ x293 x294 x295 x296)),(ck (z8 x293 8) (z1a φ x293 x294 x295 x296)),(ck (z8 x293 24) (catL [(ck (z8 (x294.arcs.length:Int) 8) (catL [(ck (z8 x293 8) (z7 φ x293 x294 x295 x296))])),(ck (z8 x293 8) (catL [(ck (z8 (x294.arcs.length:Int) 8) (z7 φ x293 x294 x295 x296))]))]))]))])),(ck (z8 x293 8) (z6i φ x293 x294 x295 x296)),(ck (z8 x293 24) (z5g φ x293 x294 x295 x296)),(ck (z8 x293 24) (z5g φ x293 x294 x295 x296))]),(ck (z8 x293 8) (catL [(ck (z8 (x294.arcs.length:Int) 8) (catL [(z2s φ x293 x294 x295 x296),(ck (z8 x293 24) (z05 φ x293 x294 x295 x296)),(ck (z8 x293 24) (z05 φ x293 x294 x295 x296))])),(z6i φ x293 x294 x295 x296),(ck (z8 x293 24) (catL [(ck (z8 (x294.arcs.length:Int) 8) (z05 φ x293 x294 x295 x296)),(z2v φ x293 x294 x295 x296),(ck (z8 x293 24) (catL [(ck (z8 (x294.arcs.length:Int) 8) (catL [(ze φ x293 x294 x295 x296)])),(catL [(ck (z8 (x294.arcs.length:Int) 8) (ze φ x293 x294 x295 x296)),(ck (fits (([]:List Int).length+x294.supply.length) 8) (catL [(ck (z8 (x294.arcs.length:Int) 8) (z7 φ x293 x294 x295 x296))]))])]))])),(ck (z8 x293 24) (catL [(ck (z8 (x294.arcs.length:Int) 8) (z05 φ x293 x294 x295 x296)),(z2v φ x293 x294 x295 x296),(ck (z8 x293 24) (catL [(ck (z8 (x294.arcs.length:Int) 8) (catL [(ze φ x293 x294 x295 x296)])),(catL [(ck (z8 (x294.arcs.length:Int) 8) (ze φ x293 x294 x295 x296)),(ck (fits (([]:List Int).length+x294.supply.length) 8) (catL [(ck (z8 (x294.arcs.length:Int) 8) (z7 φ x293 x294 x295 x296))]))])]))]))])),(z76 φ x293 x294 x295 x296),(z76 φ x293 x294 x295 x296)])
def z8w (φ:Nat) (x1:zj):Option (Flow×Int×Unit):=((z8u φ x1).bind fun y2=>(if(y2.1 !=0)=true then(some ((⟨([]:List Int),([]:List Int)⟩:Flow),y2.1,())) else(z4s φ (x1.supply.length:Int) x1 ([]:List Int) ([]:List Int))))
def zak (φ:Nat):Fsp TV:=⟨[40],[.val 41,.val 0],fun z=>z8w φ z.1⟩
def z78 (φ:Nat):Nat->Int->Int->(List Int)->Option (Bool×Unit)
 | 0,_,_,_=>none
 | n13+1,x10,x11,x12=>(if(decide (x11<x10))=true then(ck (rg x11 x12.length) (if(((gt x12 x11):Int) !=0)=true then(some (false,())) else((z78 φ n13) x10 (W (x11+1)) x12))) else(some (true,())))
def z85 (φ:Nat):Nat->(List Arc)->Int->Int->Flow->(List Int)->Option (Bool×Unit)
 | 0,_,_,_,_,_=>none
 | n8+1,x3,x4,x5,x6,x7=>(if(decide (x5<x4))=true then(ck (rg x5 x3.length) (ck (rg x5 x6.x.length) ((z47 φ (gt x6.x x5) 0 ((gt x3 x5).cap)).bind fun y9=>(if(!y9.1)=true then(some (false,())) else(ck (rg (gt x3 x5).from_ x7.length) (ck (rg x5 x6.x.length) (ck (rg (gt x3 x5).from_ x7.length) (ck (rg (gt x3 x5).to (((zr x7 ((gt x3 x5).from_) ((W ((gt x7 ((gt x3 x5).from_)) -(gt x6.x x5)))))).length)) (ck (rg x5 x6.x.length) (ck (rg (gt x3 x5).to (((zr x7 ((gt x3 x5).from_) ((W ((gt x7 ((gt x3 x5).from_)) -(gt x6.x x5)))))).length)) ((z85 φ n8) x3 x4 (W (x5+1)) x6 ((zr ((zr x7 ((gt x3 x5).from_) ((W ((gt x7 ((gt x3 x5).from_)) -(gt x6.x x5)))))) ((gt x3 x5).to) ((W ((gt ((zr x7 ((gt x3 x5).from_) ((W ((gt x7 ((gt x3 x5).from_)) -(gt x6.x x5)))))) ((gt x3 x5).to)) +(gt x6.x x5))))))))))))))))) else(z78 φ φ (x7.length:Int) 0 x7))
def zfr (φ:Nat) (x1:zj) (x2:Flow):Option (Bool×Unit):=(if(((x2.x.length:Int):Int) !=(x1.arcs.length:Int))=true then(some (false,())) else(ck (fits (([]:List Int).length+x1.supply.length) 8) (z85 φ φ x1.arcs (x1.arcs.length:Int) 0 x2 (([]:List Int)++x1.supply))))
def z94 (φ:Nat):Fsp TV:=⟨[40,41],[.val 27],kk2 (zfr φ)⟩
def zc1 (φ:Nat):Nat->Int->(List Arc)->Int->Int->Flow->Option (Int×Int×Unit)
 | 0,_,_,_,_,_=>none
 | n10+1,x5,x6,x7,x8,x9=>(if(decide (x8<x7))=true then(ck (rg x8 x6.length) (ck (rg x8 x9.x.length) (if(decide (((W (9007199254740992-x5)):Int) <(W ((gt x9.x x8) *(gt x6 x8).cost))))=true then(some (0,3,())) else((zc1 φ n10) ((W (x5 +(W ((gt x9.x x8) *(gt x6 x8).cost))))) x6 x7 (W (x8+1)) x9)))) else(some (x5,0,())))
def zld (φ:Nat) (x1:zj) (x2:Flow):Option (Int×Int×Unit):=((z8u φ x1).bind fun y3=>(if(y3.1 !=0)=true then(some (0,y3.1,())) else((zfr φ x1 x2).bind fun y4=>(if(!y4.1)=true then(some (0,360,())) else(zc1 φ φ 0 x1.arcs (x1.arcs.length:Int) 0 x2)))))
def zf4 (φ:Nat):Fsp TV:=⟨[40,41],[.val 0,.val 0],kk2 (zld φ)⟩
def zhm (φ:Nat) (x1 :(List zh)):Option ((List zh)×Unit):=(ck (x1.isEmpty=false) (ck (fits (([]:List zh).length+x1.length) 192) (some ((([]:List zh)++x1),()))))
def zav (φ:Nat):Fsp TV:=⟨[54],[.row 90 53],fun z=>zhm φ z.1⟩
def z1v (φ:Nat) (k10 :(Int->Int->(zh->zh->Option Int)->Int->(List zh)->Option (List zh))):Nat->Int->Int->(zh->zh->Option Int)->Int->Int->(List zh)->Option (List zh)
 | 0,_,_,_,_,_,_=>none
 | n17+1,x11,x12,x13,x14,x15,x16=>(ck (((decide (x11<x15))=true)->rg x15 x16.length) (ck (((decide (x11<x15))=true)->rg (W (x15-1)) x16.length) ((z0q (0:Int) ((decide (x11<x15))=true) (x13 (gt x16 x15) (gt x16 (W (x15-1))))).bind fun y18=>(if((decide (x11<x15))&&(decide (y18<0)))=true then(ck (rg (W (x15-1)) x16.length) (ck (rg x15 x16.length) (ck (rg x15 x16.length) (ck (rg (W (x15-1)) (((zr x16 x15 (gt x16 (W (x15-1))))).length)) ((z1v φ k10 n17) x11 x12 x13 x14 (W (x15-1)) ((zr ((zr x16 x15 (gt x16 (W (x15-1))))) (W (x15-1)) (gt x16 x15)))))))) else(k10 x11 x12 x13 (W (x14+1)) x16)))))
def z1p (φ:Nat):Nat->Int->Int->(zh->zh->Option Int)->Int->(List zh)->Option (List zh)
 | 0,_,_,_,_,_=>none
 | n10+1,x5,x6,x7,x8,x9=>(if(decide (x8<x6))=true then(z1v φ (z1p φ n10) φ x5 x6 x7 x8 x8 x9) else(some x9))
def z2z (φ:Nat) (x1 :(List zh)) (x2 x3:Int) (x4 :(zh->zh->Option Int)):Option (List zh):=(z1p φ φ x2 x3 x4 (W (x2+1)) x1)
def z2h (φ:Nat):Msp TV:=⟨90,53,[.val 0,.val 0,.cmp 53],fun l z=>z2z φ l z.1 z.2.1 z.2.2.1⟩
def z2x (φ:Nat):Nat->Int->Int->Int->Int->(List zh)->Option (List zh)
 | 0,_,_,_,_,_=>none
 | n11+1,x6,x7,x8,x9,x10=>(if(decide (x9<x8))=true then(ck (rg (W (x7+x9)) x10.length) (ck (rg (W (x6+x9)) x10.length) (ck (rg (W (x6+x9)) x10.length) (ck (rg (W (x7+x9)) (((zr x10 (W (x6+x9)) (gt x10 (W (x7+x9))))).length)) ((z2x φ n11) x6 x7 x8 (W (x9+1)) ((zr ((zr x10 (W (x6+x9)) (gt x10 (W (x7+x9))))) (W (x7+x9)) (gt x10 (W (x6+x9)))))))))) else(some x10))
def z2m (φ:Nat) (x1 :(List zh)) (x2 x3 x4:Int) (x5 :(zh->zh->Option Int)):Option (List zh):=(z2x φ φ x2 x3 x4 0 x1)
def z3n (φ:Nat):Msp TV:=⟨90,53,[.val 0,.val 0,.val 0,.cmp 53],fun l z=>z2m φ l z.1 z.2.1 z.2.2.1 z.2.2.2.1⟩
def z2d (φ:Nat):Nat->Int->(zh->zh->Option Int)->Int->Int->(List zh)->Option (List zh)
 | 0,_,_,_,_,_=>none
 | n11+1,x6,x7,x8,x9,x10=>(if(x8 !=x9)=true then(if(decide (x9<x8))=true then((z2m φ x10 (W (x6-x8)) x6 x9 x7).bind fun y12=>((z2d φ n11) x6 x7 (W (x8-x9)) x9 y12)) else((z2m φ x10 (W (x6-x8)) ((W ((W (x6+x9))-x8))) x8 x7).bind fun y13=>((z2d φ n11) x6 x7 x8 (W (x9-x8)) y13))) else((z2m φ x10 (W (x6-x8)) x6 x8 x7).bind fun y14=>(some y14)))
def z8i (φ:Nat) (x1 :(List zh)) (x2 x3 x4:Int) (x5 :(zh->zh->Option Int)):Option (List zh):=(z2d φ φ x3 x5 (W (x3-x2)) (W (x4-x3)) x1)
def z4n (φ:Nat):Msp TV:=⟨90,53,[.val 0,.val 0,.val 0,.cmp 53],fun l z=>z8i φ l z.1 z.2.1 z.2.2.1 z.2.2.2.1⟩
def z39 (φ:Nat):Nat->Int->Int->(List zh)->Option (List zh)
 | 0,_,_,_=>none
 | n16+1,x13,x14,x15=>(if(decide (x14 <(W (x13-1))))=true then(ck (rg (W (x14+1)) x15.length) (ck (rg x14 x15.length) (ck (rg x14 x15.length) (ck (rg (W (x14+1)) (((zr x15 x14 (gt x15 (W (x14+1))))).length)) ((z39 φ n16) x13 (W (x14+1)) ((zr ((zr x15 x14 (gt x15 (W (x14+1))))) (W (x14+1)) (gt x15 x14)))))))) else(some x15))
def z1k (φ:Nat):Nat->Int->(zh->zh->Option Int)->Int->Int->(List zh)->Option (List zh)
 | 0,_,_,_,_,_=>none
 | n11+1,x6,x7,x8,x9,x10=>(if(decide (x8<x9))=true then(if 0<=(1:Int) then(ck (rg ((W ((((U ((W (x8+x9)))):Int).fdiv (2 ^ (min (1:Int).toNat 64)))))) x10.length) (ck (rg x6 x10.length) ((x7 (((gt x10 ((W ((((U ((W (x8+x9)))):Int).fdiv (2 ^ (min (1:Int).toNat 64))))))))) (gt x10 x6)).bind fun y12=>(if(decide (y12<0))=true then((z1k φ n11) x6 x7 ((W ((W ((((U ((W (x8+x9)))):Int).fdiv (2 ^ (min (1:Int).toNat 64)))))+1))) x9 x10) else((z1k φ n11) x6 x7 x8 ((W ((((U ((W (x8+x9)))):Int).fdiv (2 ^ (min (1:Int).toNat 64)))))) x10))))) else none) else(z39 φ φ x8 x6 x10))
def z3a (φ:Nat):Nat->Int->Int->(List zh)->Option (List zh)
 | 0,_,_,_=>none
 | n27+1,x24,x25,x26=>(if(decide (x24<x25))=true then(ck (rg (W (x25-1)) x26.length) (ck (rg x25 x26.length) (ck (rg x25 x26.length) (ck (rg (W (x25-1)) (((zr x26 x25 (gt x26 (W (x25-1))))).length)) ((z3a φ n27) x24 (W (x25-1)) ((zr ((zr x26 x25 (gt x26 (W (x25-1))))) (W (x25-1)) (gt x26 x25)))))))) else(some x26))
def z1l (φ:Nat):Nat->Int->(zh->zh->Option Int)->Int->Int->(List zh)->Option (List zh)
 | 0,_,_,_,_,_=>none
 | n22+1,x17,x18,x19,x20,x21=>(if(decide (x19<x20))=true then(if 0<=(1:Int) then(ck (rg x17 x21.length) (ck (rg ((W ((((U ((W (x19+x20)))):Int).fdiv (2 ^ (min (1:Int).toNat 64)))))) x21.length) ((x18 (gt x21 x17) (((gt x21 ((W ((((U ((W (x19+x20)))):Int).fdiv (2 ^ (min (1:Int).toNat 64)))))))))).bind fun y23=>(if(!(decide (y23<0)))=true then((z1l φ n22) x17 x18 ((W ((W ((((U ((W (x19+x20)))):Int).fdiv (2 ^ (min (1:Int).toNat 64)))))+1))) x20 x21) else((z1l φ n22) x17 x18 x19 ((W ((((U ((W (x19+x20)))):Int).fdiv (2 ^ (min (1:Int).toNat 64)))))) x21))))) else none) else(z3a φ φ x19 x17 x21))
def z37 (φ:Nat) (k0 :((List zh)->Int->Int->Int->(zh->zh->Option Int)->Option (List zh))) (x58:Int) (x59 :(zh->zh->Option Int)) (x60 x61:Int) (x62 :(List zh)):Option (List zh):=(if((decide (x60<x61))&&(decide (x61<x58)))=true then((k0 x62 x60 x61 x58 x59).bind fun y64=>(some y64)) else(some x62))
def z38 (φ:Nat) (k0 :((List zh)->Int->Int->Int->(zh->zh->Option Int)->Option (List zh))) (x50 x51:Int) (x52 :(zh->zh->Option Int)) (x53 x54 x55:Int) (x56 :(List zh)):Option (List zh):=(if((decide (x50<x54))&&(decide (x54<x53)))=true then((k0 x56 x50 x54 x53 x52).bind fun y65=>(z37 φ k0 x51 x52 x53 x55 y65)) else(z37 φ k0 x51 x52 x53 x55 x56))
def z1j (φ:Nat) (k0 :((List zh)->Int->Int->Int->(zh->zh->Option Int)->Option (List zh))):Nat->Int->Int->Int->(zh->zh->Option Int)->Int->Int->Int->Int->Int->(List zh)->Option (List zh)
 | 0,_,_,_,_,_,_,_,_,_,_=>none
 | n48+1,x38,x39,x40,x41,x42,x43,x44,x45,x46,x47=>(if(decide (x44<x45))=true then(if 0<=(1:Int) then(ck (rg ((W (x46 -(W ((((U ((W (x44+x45)))):Int).fdiv (2 ^ (min (1:Int).toNat 64)))))))) x47.length) (ck (rg ((W ((((U ((W (x44+x45)))):Int).fdiv (2 ^ (min (1:Int).toNat 64)))))) x47.length) ((x41 (((gt x47 ((W (x46 -(W ((((U ((W (x44+x45)))):Int).fdiv (2 ^ (min (1:Int).toNat 64))))))))))) (((gt x47 ((W ((((U ((W (x44+x45)))):Int).fdiv (2 ^ (min (1:Int).toNat 64)))))))))).bind fun y49=>(if(!(decide (y49<0)))=true then((z1j φ k0 n48) x38 x39 x40 x41 x42 x43 ((W ((W ((((U ((W (x44+x45)))):Int).fdiv (2 ^ (min (1:Int).toNat 64)))))+1))) x45 x46 x47) else((z1j φ k0 n48) x38 x39 x40 x41 x42 x43 x44 ((W ((((U ((W (x44+x45)))):Int).fdiv (2 ^ (min (1:Int).toNat 64)))))) x46 x47))))) else none) else(if((decide (x44<x39))&&(decide (x39 <(W (x43-x44)))))=true then((z8i φ x47 x44 x39 (W (x43-x44)) x41).bind fun y66=>(z38 φ k0 x38 x40 x41 x42 x44 (W (x43-x44)) y66)) else(z38 φ k0 x38 x40 x41 x42 x44 (W (x43-x44)) x47)))
def z3b (φ:Nat) (k0 :((List zh)->Int->Int->Int->(zh->zh->Option Int)->Option (List zh))) (x28 x29 x30:Int) (x31 :(zh->zh->Option Int)) (x32 x33 x34 x35:Int) (x36 :(List zh)):Option (List zh):=(z1j φ k0 φ x28 x29 x30 x31 x32 x33 x34 x35 (W (x33-1)) x36)
def z01 (φ:Nat):Nat->(List zh)->Int->Int->Int->(zh->zh->Option Int)->Option (List zh)
 | 0,_,_,_,_,_=>none
 | d+1,x1,x2,x3,x4,x5=>(if(((W (x3-x2)):Int)==1)=true then(z1k φ φ x2 x5 x3 x4 x1) else(if(((W (x4-x3)):Int)==1)=true then(z1l φ φ x3 x5 x2 x3 x1) else(if 0<=(1:Int) then(if(decide (((W ((((U ((W (x2+x4)))):Int).fdiv (2 ^ (min (1:Int).toNat 64))))):Int)<x3))=true then(z3b φ (z01 φ d) x2 x3 x4 x5 ((W ((((U ((W (x2+x4)))):Int).fdiv (2 ^ (min (1:Int).toNat 64)))))) ((W ((W ((((U ((W (x2+x4)))):Int).fdiv (2 ^ (min (1:Int).toNat 64)))))+x3))) ((W ((W ((W ((((U ((W (x2+x4)))):Int).fdiv (2 ^ (min (1:Int).toNat 64)))))+x3))-x4))) ((W ((((U ((W (x2+x4)))):Int).fdiv (2 ^ (min (1:Int).toNat 64)))))) x1) else(z3b φ (z01 φ d) x2 x3 x4 x5 ((W ((((U ((W (x2+x4)))):Int).fdiv (2 ^ (min (1:Int).toNat 64)))))) ((W ((W ((((U ((W (x2+x4)))):Int).fdiv (2 ^ (min (1:Int).toNat 64)))))+x3))) x2 x3 x1)) else none)))
def z2b (φ d:Nat):Msp TV:=⟨90,53,[.val 0,.val 0,.val 0,.cmp 53],fun l z=>z01 φ d l z.1 z.2.1 z.2.2.1 z.2.2.2.1⟩
def z3y (φ:Nat) (k17 :(Int->(zh->zh->Option Int)->Int->(List zh)->Option (List zh))):Nat->Int->(zh->zh->Option Int)->Int->Int->Int->(List zh)->Option (List zh)
 | 0,_,_,_,_,_,_=>none
 | n24+1,x18,x19,x20,x21,x22,x23=>(if(decide (x22<=x18))=true then((z01 φ φ x23 x21 (W (x21+x20)) x22 x19).bind fun y25=>((z3y φ k17 n24) x18 x19 x20 x22 ((W (x22 +(W (2*x20))))) y25)) else(if(decide (((W (x21+x20)):Int)<x18))=true then((z01 φ φ x23 x21 (W (x21+x20)) x18 x19).bind fun y26=>(k17 x18 x19 (W (x20*2)) y26)) else(k17 x18 x19 (W (x20*2)) x23)))
def z41 (φ:Nat):Nat->Int->(zh->zh->Option Int)->Int->(List zh)->Option (List zh)
 | 0,_,_,_,_=>none
 | n17+1,x13,x14,x15,x16=>(if(decide (x15<x13))=true then(z3y φ (z41 φ n17) φ x13 x14 x15 0 (W (2*x15)) x16) else(some x16))
def z3z (φ:Nat):Nat->Int->(zh->zh->Option Int)->Int->Int->Int->(List zh)->Option (List zh)
 | 0,_,_,_,_,_,_=>none
 | n10+1,x4,x5,x6,x7,x8,x9=>(if(decide (x8<=x4))=true then((z2z φ x9 x7 x8 x5).bind fun y11=>((z3z φ n10) x4 x5 x6 x8 (W (x8+x6)) y11)) else((z2z φ x9 x7 x4 x5).bind fun y12=>(z41 φ φ x4 x5 x6 y12)))
def z8h (φ:Nat) (x1 :(List zh)) (x2:Int) (x3 :(zh->zh->Option Int)):Option (List zh):=(z3z φ φ x2 x3 20 0 20 x1)
def z4l (φ:Nat):Msp TV:=⟨90,53,[.val 0,.cmp 53],fun l z=>z8h φ l z.1 z.2.1⟩
def z7y (φ:Nat) (x1 :(List zh)) (x2 :(zh->zh->Option Int)):Option (List zh):=((z8h φ x1 (x1.length:Int) x2).bind fun y3=>(some y3))
def z49 (φ:Nat):Msp TV:=⟨90,53,[.cmp 53],fun l z=>z7y φ l z.1⟩
def zbz (φ:Nat) (x1 x2:Int):Option (Int×Unit):=(if(x1 !=x1)=true then(if(x2 !=x2)=true then(some (0,())) else(some ((-1),()))) else(if(x2 !=x2)=true then(some (1,())) else(if(decide (x1<x2))=true then(some ((-1),())) else(if(decide (x2<x1))=true then(some (1,())) else(some (0,()))))))
def zc0 (φ:Nat):Fsp TV:=⟨[0,0],[.val 0],kk2 (zbz φ)⟩
def zkv (φ:Nat):Nat->Int->(List Int)->Int->Int->Option (Int×Unit)
 | 0,_,_,_,_=>none
 | n6+1,x2,x3,x4,x5=>(if(decide (x5<x4))=true then(ck (rg x5 x3.length) (if(((gt x3 x5):Int) !=x2)=true then(some ((gt x3 x5),())) else((zkv φ n6) x2 x3 x4 (W (x5+1))))) else(some (x2,())))
def y5n (φ:Nat) (x1 :(List Int)):Option (Int×Unit):=(zkv φ φ 0 x1 (x1.length:Int) 0)
def znm (φ:Nat):Fsp TV:=⟨[22],[.val 0],fun z=>y5n φ z.1⟩
def zel (φ:Nat) (x1 x2:zh):Option (Int×Unit):=((zbz φ x1.item.from_ x2.item.from_).bind fun y3=>((zbz φ x1.ref.railway x2.ref.railway).bind fun y4=>((zbz φ x1.ref.no x2.ref.no).bind fun y5=>((y5n φ ([y3.1,y4.1,y5.1])).bind fun y6=>(some (y6.1,()))))))
def z8d (φ:Nat):Fsp TV:=⟨[53,53],[.val 0],kk2 (zel φ)⟩
def z4p (φ:Nat):Nat->Int->Int->Int->(List zk)->(List zh)->Option ((List zk)×Unit)
 | 0,_,_,_,_,_=>none
 | n10+1,x5,x6,x7,x8,x9=>(if(decide (x7<x6))=true then(ck (rg x7 x9.length) (if(((((gt x9 x7).item).kind:Int)==15)&&(decide (x5<=((gt x9 x7).item).to)))=true then(ck (fits (x8.length +([(⟨((gt x9 x7).item).number,((gt x9 x7).item).class_,((gt x9 x7).item).place,((gt x9 x7).item).from_,((gt x9 x7).item).to,((gt x9 x7).item).weight,((gt x9 x7).item).amount⟩:zk)]).length) 56) ((z4p φ n10) x5 x6 (W (x7+1)) ((x8++[(⟨((gt x9 x7).item).number,((gt x9 x7).item).class_,((gt x9 x7).item).place,((gt x9 x7).item).from_,((gt x9 x7).item).to,((gt x9 x7).item).weight,((gt x9 x7).item).amount⟩:zk)])) x9)) else((z4p φ n10) x5 x6 (W (x7+1)) x8 x9))) else(some (x8,())))
def zb0 (φ:Nat) (x1 :(List zh)) (x2:Int):Option ((List zk)×Unit):=((zhm φ x1).bind fun y3=>((z7y φ y3.1 (fun a b=>(zel φ a b).bind fun r=>(some r.1))).bind fun y4=>(z4p φ φ x2 (y4.length:Int) 0 ([]:List zk) y4)))
def z87 (φ:Nat):Fsp TV:=⟨[54,0],[.val 37],kk2 (zb0 φ)⟩
def z3k (φ:Nat) (x37 x38 x39 x40 x41:Int) (x42 :(List Int)) (x43:Int) (x44 :(List Int)) (x45 x46 :(List zc)) (x47 :(List Int)) (x48 :(List Arc)) (x49 :(List Int)) (x50 :(List Arc)):Option (Bool×Unit):=(ck (((((((x37 !=0)||(x38 !=0))||(x39 !=0))||(x40 !=0))||(((x45.length:Int):Int) !=1))=false)->rg 0 x45.length) (if(((((((((x37 !=0)||(x38 !=0))||(x39 !=0))||(x40 !=0))||(((x45.length:Int):Int) !=1))||(!((((gt x45 0).supply:Int)==0)&&((((gt x45 0).order:Int)==0)&&((((gt x45 0).count:Int)==2)&&true)))))||(x41 !=1090))||(((x46.length:Int):Int) !=0))||(x43 !=120))=true then(some (false,())) else((zb0 φ ([(⟨(⟨0,0⟩:Ref),(⟨0,0⟩:Ref),0,(⟨15,(⟨0,0⟩:Ref),0,0,0,1,0,300,0,0,0,2,0,(⟨#[]⟩:ByteArray),([]:List Part)⟩:Item)⟩:zh)]) 300).bind fun y52=>(ck (((((((((x47.length:Int):Int)==4)&&(((x48.length:Int):Int)==4))&&(((x49.length:Int):Int)==4))&&(((x50.length:Int):Int)==3))&&(((y52.1.length:Int):Int)==1))=true)->rg 0 y52.1.length) (ck ((((((((((x47.length:Int):Int)==4)&&(((x48.length:Int):Int)==4))&&(((x49.length:Int):Int)==4))&&(((x50.length:Int):Int)==3))&&(((y52.1.length:Int):Int)==1))&&(((gt y52.1 0).count:Int)==2))=true)->rg 0 y52.1.length) (if(((((((((x47.length:Int):Int)==4)&&(((x48.length:Int):Int)==4))&&(((x49.length:Int):Int)==4))&&(((x50.length:Int):Int)==3))&&(((y52.1.length:Int):Int)==1))&&(((gt y52.1 0).count:Int)==2))&&(((gt y52.1 0).type_:Int)==1))=true then((zb0 φ ([(⟨(⟨0,0⟩:Ref),(⟨0,0⟩:Ref),0,(⟨15,(⟨0,0⟩:Ref),0,0,0,1,0,300,0,0,0,2,0,(⟨#[]⟩:ByteArray),([]:List Part)⟩:Item)⟩:zh)]) 301).bind fun y53=>(some ((((y53.1.length:Int):Int)==0),()))) else(some (false,()))))))))
def z4q (φ:Nat) (x100 x101 x102 x103:Int) (x104 :(List Int)) (x105:Int) (x106 x107 :(List Int)) (x108 :(List Arc)) (x109 x110 :(List zc)) (x111 :(List Int)) (x112 :(List Arc)):Option (Bool×Unit):=(if(decide ((2048:Int) <(x108.length:Int)))=true then(z3k φ x100 x101 x102 2 x103 x104 x105 x106 x109 x110 x111 x112 ([]:List Int) ([]:List Arc)) else(z3k φ x100 x101 x102 0 x103 x104 x105 x106 x109 x110 x111 x112 x107 x108))
def z6n (φ:Nat) (k134 :(Int->Int->Int->Int->Int->Int->Int->Pool->(List zb)->Int->(List Int)->Int->(List Int)->(List zk)->(List Int)->(List Arc)->(List zc)->(List zc)->(List Int)->(List Arc)->Option (Bool×Unit))):Nat->Int->Int->Int->Int->Int->Int->Int->Int->Int->Int->Pool->zb->(List zb)->(List zk)->Int->(List Int)->Int->(List Int)->(List Int)->(List Arc)->(List zc)->(List zc)->(List Int)->(List Arc)->Option (Bool×Unit)
 | 0,_,_,_,_,_,_,_,_,_,_,_,_,_,_,_,_,_,_,_,_,_,_,_,_=>none
 | n159+1,x135,x136,x137,x138,x139,x140,x141,x142,x143,x144,x145,x146,x147,x148,x149,x150,x151,x152,x153,x154,x155,x156,x157,x158=>(if(decide (x141<x140))=true then(ck (rg x141 x148.length) ((z18 φ x145 x146 (gt x148 x141)).bind fun y160=>(if y160.2.1=true then(ck (fits (x154.length +([(⟨x137,W ((x147.length:Int)+x141),min2 x146.count ((gt x148 x141).count),y160.1⟩:Arc)]).length) 32) (if(!true)=true then(z4q φ x142 x143 x144 x149 x150 x151 x152 x153 ((x154++[(⟨x137,W ((x147.length:Int)+x141),min2 x146.count ((gt x148 x141).count),y160.1⟩:Arc)])) x155 x156 x157 x158) else((z6n φ k134 n159) x135 x136 x137 x138 x139 x140 (W (x141+1)) x142 x143 x144 x145 x146 x147 x148 x149 x150 x151 x152 x153 ((x154++[(⟨x137,W ((x147.length:Int)+x141),min2 x146.count ((gt x148 x141).count),y160.1⟩:Arc)])) x155 x156 x157 x158))) else((z6n φ k134 n159) x135 x136 x137 x138 x139 x140 (W (x141+1)) x142 x143 x144 x145 x146 x147 x148 x149 x150 x151 x152 x153 x154 x155 x156 x157 x158)))) else(k134 x135 x136 x138 (W (x139+1)) x142 x143 x144 x145 x147 x149 x150 x151 x152 x148 x153 x154 x155 x156 x157 x158))
def za1 (φ:Nat):Nat->Int->Int->Int->Int->Int->Int->Int->(List zb)->Int->(List Int)->Int->(List Int)->(List Int)->(List Arc)->(List zc)->(List zc)->(List Int)->(List Arc)->Option (Bool×Unit)
 | 0,_,_,_,_,_,_,_,_,_,_,_,_,_,_,_,_,_,_=>none
 | n199+1,x181,x182,x183,x184,x185,x186,x187,x188,x189,x190,x191,x192,x193,x194,x195,x196,x197,x198=>(if(decide (x184<x183))=true then(ck (rg x184 x188.length) (ck (fits (x194.length +([(⟨x184,W (x181+1),(gt x188 x184).count,0⟩:Arc)]).length) 32) (if(!true)=true then(z4q φ x185 x186 x187 x189 x190 x191 x192 x193 (x194++[(⟨x184,W (x181+1),(gt x188 x184).count,0⟩:Arc)]) x195 x196 x197 x198) else((za1 φ n199) x181 x182 x183 (W (x184+1)) x185 x186 x187 x188 x189 x190 x191 x192 x193 (x194++[(⟨x184,W (x181+1),(gt x188 x184).count,0⟩:Arc)]) x195 x196 x197 x198)))) else(ck (fits (x194.length +([(⟨x181,W (x181+1),x182,0⟩:Arc)]).length) 32) (z4q φ x185 x186 x187 x189 x190 x191 x192 x193 (x194++[(⟨x181,W (x181+1),x182,0⟩:Arc)]) x195 x196 x197 x198)))
def z8y (φ:Nat):Nat->Int->Int->Int->Int->Int->Int->Int->(List zk)->Int->(List Int)->Int->(List Int)->(List zb)->(List Int)->(List Arc)->(List zc)->(List zc)->(List Int)->(List Arc)->Option (Bool×Unit)
 | 0,_,_,_,_,_,_,_,_,_,_,_,_,_,_,_,_,_,_,_=>none
 | n180+1,x161,x162,x163,x164,x165,x166,x167,x168,x169,x170,x171,x172,x173,x174,x175,x176,x177,x178,x179=>(if(decide (x164<x163))=true then(ck (rg x164 x168.length) (ck (fits (x175.length +([(⟨x161,W ((x173.length:Int)+x164),(gt x168 x164).count,(gt x168 x164).weight⟩:Arc)]).length) 32) (if(!true)=true then(z4q φ x165 x166 x167 x169 x170 x171 x172 x174 ((x175++[(⟨x161,W ((x173.length:Int)+x164),(gt x168 x164).count,(gt x168 x164).weight⟩:Arc)])) x176 x177 x178 x179) else((z8y φ n180) x161 (W (x162 +(gt x168 x164).count)) x163 (W (x164+1)) x165 x166 x167 x168 x169 x170 x171 x172 x173 x174 ((x175++[(⟨x161,W ((x173.length:Int)+x164),(gt x168 x164).count,(gt x168 x164).weight⟩:Arc)])) x176 x177 x178 x179)))) else(za1 φ φ x161 x162 (x173.length:Int) 0 x165 x166 x167 x173 x169 x170 x171 x172 x174 x175 x176 x177 x178 x179))
def z9t (φ:Nat):Nat->Int->Int->Int->Int->Int->Int->Int->Pool->(List zb)->Int->(List Int)->Int->(List Int)->(List zk)->(List Int)->(List Arc)->(List zc)->(List zc)->(List Int)->(List Arc)->Option (Bool×Unit)
 | 0,_,_,_,_,_,_,_,_,_,_,_,_,_,_,_,_,_,_,_,_=>none
 | n134+1,x114,x115,x116,x117,x118,x119,x120,x121,x122,x123,x124,x125,x126,x127,x128,x129,x130,x131,x132,x133=>(if(decide (x117<x116))=true then(ck (rg x117 x122.length) (z6n φ (z9t φ n134) φ x114 x115 x117 x116 x117 (x127.length:Int) 0 x118 x119 x120 x121 (gt x122 x117) x122 x127 x123 x124 x125 x126 x128 x129 x130 x131 x132 x133)) else(z8y φ φ x114 x115 (x127.length:Int) 0 x118 x119 x120 x127 x123 x124 x125 x126 x122 x128 x129 x130 x131 x132 x133))
def zba (φ:Nat):Nat->Int->Int->Int->Int->Int->Int->Int->(List zb)->(List zk)->Pool->Int->(List Int)->Int->(List Int)->(List Int)->(List Arc)->(List zc)->(List zc)->(List Int)->(List Arc)->Option (Bool×Unit)
 | 0,_,_,_,_,_,_,_,_,_,_,_,_,_,_,_,_,_,_,_,_=>none
 | n98+1,x78,x79,x80,x81,x82,x83,x84,x85,x86,x87,x88,x89,x90,x91,x92,x93,x94,x95,x96,x97=>(if(decide (x81<x80))=true then(ck (rg x81 x86.length) ((z2n φ x87 (gt x86 x81)).bind fun y99=>(if(!y99.1)=true then(z3k φ x82 x83 x84 1 x88 x89 x90 x91 x94 x95 x96 x97 ([]:List Int) ([]:List Arc)) else(ck (fits (x92.length +([(W (0 -(gt x86 x81).count))]).length) 8) ((zba φ n98) x78 (W (x79 +(gt x86 x81).count)) x80 (W (x81+1)) x82 x83 x84 x85 x86 x87 x88 x89 x90 x91 ((x92++[(W (0 -(gt x86 x81).count))])) x93 x94 x95 x96 x97))))) else(ck (fits (x92.length +([x79,(W (0-x78))]).length) 8) (if(decide ((256:Int) <((x92++[x79,(W (0-x78))]).length:Int)))=true then(z3k φ x82 x83 x84 2 x88 x89 x90 x91 x94 x95 x96 x97 ([]:List Int) ([]:List Arc)) else(z9t φ φ (W ((x85.length:Int) +(x86.length:Int))) 0 (x85.length:Int) 0 x82 x83 x84 x87 x85 x88 x89 x90 x91 x86 (x92++[x79,(W (0-x78))]) x93 x94 x95 x96 x97))))
def zb2 (φ:Nat):Nat->Int->Int->Int->Int->Int->Int->Int->(List zb)->(List zk)->Pool->Int->(List Int)->Int->(List Int)->(List Int)->(List Arc)->(List zc)->(List zc)->(List Int)->(List Arc)->Option (Bool×Unit)
 | 0,_,_,_,_,_,_,_,_,_,_,_,_,_,_,_,_,_,_,_,_=>none
 | n76+1,x56,x57,x58,x59,x60,x61,x62,x63,x64,x65,x66,x67,x68,x69,x70,x71,x72,x73,x74,x75=>(if(decide (x59<x58))=true then(ck (rg x59 x63.length) ((z1y φ x65 (gt x63 x59)).bind fun y77=>(if(!y77.1)=true then(z3k φ x60 x61 x62 1 x66 x67 x68 x69 x72 x73 x74 x75 ([]:List Int) ([]:List Arc)) else(ck (fits (x70.length +([(gt x63 x59).count]).length) 8) ((zb2 φ n76) (W (x56 +(gt x63 x59).count)) x57 x58 (W (x59+1)) x60 x61 x62 x63 x64 x65 x66 x67 x68 x69 (x70++[(gt x63 x59).count]) x71 x72 x73 x74 x75))))) else(zba φ φ x56 x57 (x64.length:Int) 0 x60 x61 x62 x63 x64 x65 x66 x67 x68 x69 x70 x71 x72 x73 x74 x75))
def z3l (φ:Nat) (x23 x24 x25:Int) (x26 :(List zb)) (x27 :(List zk)) (x28:Int) (x29 :(List Int)) (x30:Int) (x31 :(List Int)) (x32 x33 :(List zc)) (x34 :(List Int)) (x35 :(List Arc)):Option (Bool×Unit):=(ck (rg 0 x27.length) ((z8t φ).bind fun y54=>((z19 φ y54.1).bind fun y55=>(if(y55.1 !=0)=true then(z3k φ x23 x24 x25 y55.1 x28 x29 x30 x31 x32 x33 x34 x35 ([]:List Int) ([]:List Arc)) else(zb2 φ φ 0 0 (x26.length:Int) 0 x23 x24 x25 x26 (zr x27 0 (⟨(gt x27 0).type_,3,(gt x27 0).place,(gt x27 0).from_,(gt x27 0).to,(gt x27 0).count,(gt x27 0).weight⟩:zk)) y54.1 x28 x29 x30 x31 ([]:List Int) ([]:List Arc) x32 x33 x34 x35)))))
def z4y (φ:Nat) (x240 x241:Int) (x242 :(List zb)) (x243 :(List zk)) (x244:Int) (x245 :(List Int)) (x246:Int) (x247 x248 :(List Int)) (x249 :(List Arc)) (x250 x251 :(List zc)):Option (Bool×Unit):=(if(decide ((2048:Int) <(x249.length:Int)))=true then(z3l φ x240 x241 2 x242 x243 x244 x245 x246 x247 x250 x251 ([]:List Int) ([]:List Arc)) else(z3l φ x240 x241 0 x242 x243 x244 x245 x246 x247 x250 x251 x248 x249))
def z6u (φ:Nat) (k270 :(Int->Int->Int->Int->Int->Int->Pool->(List zb)->(List zk)->Int->(List Int)->Int->(List Int)->(List Int)->(List Arc)->(List zc)->(List zc)->Option (Bool×Unit))):Nat->Int->Int->Int->Int->Int->Int->Int->Int->Int->Pool->zb->(List zb)->(List zk)->Int->(List Int)->Int->(List Int)->(List Int)->(List Arc)->(List zc)->(List zc)->Option (Bool×Unit)
 | 0,_,_,_,_,_,_,_,_,_,_,_,_,_,_,_,_,_,_,_,_,_=>none
 | n292+1,x271,x272,x273,x274,x275,x276,x277,x278,x279,x280,x281,x282,x283,x284,x285,x286,x287,x288,x289,x290,x291=>(if(decide (x277<x276))=true then(ck (rg x277 x283.length) ((z18 φ x280 x281 (gt x283 x277)).bind fun y293=>(if y293.2.1=true then(ck (fits (x289.length +([(⟨x273,W ((x282.length:Int)+x277),min2 x281.count ((gt x283 x277).count),y293.1⟩:Arc)]).length) 32) (if(!true)=true then(z4y φ x278 x279 x282 x283 x284 x285 x286 x287 x288 ((x289++[(⟨x273,W ((x282.length:Int)+x277),min2 x281.count ((gt x283 x277).count),y293.1⟩:Arc)])) x290 x291) else((z6u φ k270 n292) x271 x272 x273 x274 x275 x276 (W (x277+1)) x278 x279 x280 x281 x282 x283 x284 x285 x286 x287 x288 ((x289++[(⟨x273,W ((x282.length:Int)+x277),min2 x281.count ((gt x283 x277).count),y293.1⟩:Arc)])) x290 x291))) else((z6u φ k270 n292) x271 x272 x273 x274 x275 x276 (W (x277+1)) x278 x279 x280 x281 x282 x283 x284 x285 x286 x287 x288 x289 x290 x291)))) else(k270 x271 x272 x274 (W (x275+1)) x278 x279 x280 x282 x283 x284 x285 x286 x287 x288 x289 x290 x291))
def z9m (φ:Nat):Nat->Int->Int->Int->Int->Int->Int->(List zb)->(List zk)->Int->(List Int)->Int->(List Int)->(List Int)->(List Arc)->(List zc)->(List zc)->Option (Bool×Unit)
 | 0,_,_,_,_,_,_,_,_,_,_,_,_,_,_,_,_=>none
 | n327+1,x311,x312,x313,x314,x315,x316,x317,x318,x319,x320,x321,x322,x323,x324,x325,x326=>(if(decide (x314<x313))=true then(ck (rg x314 x317.length) (ck (fits (x324.length +([(⟨x314,W (x311+1),(gt x317 x314).count,0⟩:Arc)]).length) 32) (if(!true)=true then(z4y φ x315 x316 x317 x318 x319 x320 x321 x322 x323 (x324++[(⟨x314,W (x311+1),(gt x317 x314).count,0⟩:Arc)]) x325 x326) else((z9m φ n327) x311 x312 x313 (W (x314+1)) x315 x316 x317 x318 x319 x320 x321 x322 x323 (x324++[(⟨x314,W (x311+1),(gt x317 x314).count,0⟩:Arc)]) x325 x326)))) else(ck (fits (x324.length +([(⟨x311,W (x311+1),x312,0⟩:Arc)]).length) 32) (z4y φ x315 x316 x317 x318 x319 x320 x321 x322 x323 (x324++[(⟨x311,W (x311+1),x312,0⟩:Arc)]) x325 x326)))
def z9y (φ:Nat):Nat->Int->Int->Int->Int->Int->Int->(List zk)->(List zb)->Int->(List Int)->Int->(List Int)->(List Int)->(List Arc)->(List zc)->(List zc)->Option (Bool×Unit)
 | 0,_,_,_,_,_,_,_,_,_,_,_,_,_,_,_,_=>none
 | n310+1,x294,x295,x296,x297,x298,x299,x300,x301,x302,x303,x304,x305,x306,x307,x308,x309=>(if(decide (x297<x296))=true then(ck (rg x297 x300.length) (ck (fits (x307.length +([(⟨x294,W ((x301.length:Int)+x297),(gt x300 x297).count,(gt x300 x297).weight⟩:Arc)]).length) 32) (if(!true)=true then(z4y φ x298 x299 x301 x300 x302 x303 x304 x305 x306 ((x307++[(⟨x294,W ((x301.length:Int)+x297),(gt x300 x297).count,(gt x300 x297).weight⟩:Arc)])) x308 x309) else((z9y φ n310) x294 (W (x295 +(gt x300 x297).count)) x296 (W (x297+1)) x298 x299 x300 x301 x302 x303 x304 x305 x306 ((x307++[(⟨x294,W ((x301.length:Int)+x297),(gt x300 x297).count,(gt x300 x297).weight⟩:Arc)])) x308 x309)))) else(z9m φ φ x294 x295 (x301.length:Int) 0 x298 x299 x301 x300 x302 x303 x304 x305 x306 x307 x308 x309))
def z9o (φ:Nat):Nat->Int->Int->Int->Int->Int->Int->Pool->(List zb)->(List zk)->Int->(List Int)->Int->(List Int)->(List Int)->(List Arc)->(List zc)->(List zc)->Option (Bool×Unit)
 | 0,_,_,_,_,_,_,_,_,_,_,_,_,_,_,_,_,_=>none
 | n270+1,x253,x254,x255,x256,x257,x258,x259,x260,x261,x262,x263,x264,x265,x266,x267,x268,x269=>(if(decide (x256<x255))=true then(ck (rg x256 x260.length) (z6u φ (z9o φ n270) φ x253 x254 x256 x255 x256 (x261.length:Int) 0 x257 x258 x259 (gt x260 x256) x260 x261 x262 x263 x264 x265 x266 x267 x268 x269)) else(z9y φ φ x253 x254 (x261.length:Int) 0 x257 x258 x261 x260 x262 x263 x264 x265 x266 x267 x268 x269))
def z9r (φ:Nat):Nat->Int->Int->Int->Int->Int->Int->(List zb)->(List zk)->Pool->Int->(List Int)->Int->(List Int)->(List Int)->(List Arc)->(List zc)->(List zc)->Option (Bool×Unit)
 | 0,_,_,_,_,_,_,_,_,_,_,_,_,_,_,_,_,_=>none
 | n238+1,x221,x222,x223,x224,x225,x226,x227,x228,x229,x230,x231,x232,x233,x234,x235,x236,x237=>(if(decide (x224<x223))=true then(ck (rg x224 x228.length) ((z2n φ x229 (gt x228 x224)).bind fun y239=>(if(!y239.1)=true then(z3l φ x225 x226 1 x227 x228 x230 x231 x232 x233 x236 x237 ([]:List Int) ([]:List Arc)) else(ck (fits (x234.length +([(W (0 -(gt x228 x224).count))]).length) 8) ((z9r φ n238) x221 (W (x222 +(gt x228 x224).count)) x223 (W (x224+1)) x225 x226 x227 x228 x229 x230 x231 x232 x233 ((x234++[(W (0 -(gt x228 x224).count))])) x235 x236 x237))))) else(ck (fits (x234.length +([x222,(W (0-x221))]).length) 8) (if(decide ((256:Int) <((x234++[x222,(W (0-x221))]).length:Int)))=true then(z3l φ x225 x226 2 x227 x228 x230 x231 x232 x233 x236 x237 ([]:List Int) ([]:List Arc)) else(z9o φ φ (W ((x227.length:Int) +(x228.length:Int))) 0 (x227.length:Int) 0 x225 x226 x229 x227 x228 x230 x231 x232 x233 (x234++[x222,(W (0-x221))]) x235 x236 x237))))
def z9v (φ:Nat):Nat->Int->Int->Int->Int->Int->Int->(List zb)->(List zk)->Pool->Int->(List Int)->Int->(List Int)->(List Int)->(List Arc)->(List zc)->(List zc)->Option (Bool×Unit)
 | 0,_,_,_,_,_,_,_,_,_,_,_,_,_,_,_,_,_=>none
 | n219+1,x202,x203,x204,x205,x206,x207,x208,x209,x210,x211,x212,x213,x214,x215,x216,x217,x218=>(if(decide (x205<x204))=true then(ck (rg x205 x208.length) ((z1y φ x210 (gt x208 x205)).bind fun y220=>(if(!y220.1)=true then(z3l φ x206 x207 1 x208 x209 x211 x212 x213 x214 x217 x218 ([]:List Int) ([]:List Arc)) else(ck (fits (x215.length +([(gt x208 x205).count]).length) 8) ((z9v φ n219) (W (x202 +(gt x208 x205).count)) x203 x204 (W (x205+1)) x206 x207 x208 x209 x210 x211 x212 x213 x214 (x215++[(gt x208 x205).count]) x216 x217 x218))))) else(z9r φ φ x202 x203 (x209.length:Int) 0 x206 x207 x208 x209 x210 x211 x212 x213 x214 x215 x216 x217 x218))
def z7l (φ:Nat) (x12 x13:Int) (x14 :(List zb)) (x15 :(List zk)) (x16:Int) (x17 :(List Int)) (x18:Int) (x19 :(List Int)) (x20 x21 :(List zc)):Option (Bool×Unit):=((z8t φ).bind fun y200=>((z19 φ y200.1).bind fun y201=>(if(y201.1 !=0)=true then(z3l φ x12 x13 y201.1 x14 x15 x16 x17 x18 x19 x20 x21 ([]:List Int) ([]:List Arc)) else(z9v φ φ 0 0 (x14.length:Int) 0 x12 x13 x14 x15 y200.1 x16 x17 x18 x19 ([]:List Int) ([]:List Arc) x20 x21))))
def z6h (φ:Nat):Nat->(List Arc)->Int->Int->Int->(List zb)->(List zk)->Int->(List Int)->Flow->Int->(List Int)->(List zc)->(List zc)->Option (Bool×Unit)
 | 0,_,_,_,_,_,_,_,_,_,_,_,_,_=>none
 | n357+1,x344,x345,x346,x347,x348,x349,x350,x351,x352,x353,x354,x355,x356=>(if(decide (x346<x345))=true then(ck (rg x346 x344.length) (ck ((((decide (((gt x344 x346).from_:Int) <(x348.length:Int)))&&(decide (((gt x344 x346).to:Int) <(W ((x348.length:Int) +(x349.length:Int))))))=true)->rg x346 x352.x.length) (if(((decide (((gt x344 x346).from_:Int) <(x348.length:Int)))&&(decide (((gt x344 x346).to:Int) <(W ((x348.length:Int) +(x349.length:Int))))))&&(decide ((0:Int) <(gt x352.x x346))))=true then(ck (rg x346 x352.x.length) (ck (fits (x355.length +([(⟨(gt x344 x346).from_,W ((gt x344 x346).to -(x348.length:Int)),gt x352.x x346⟩:zc)]).length) 24) ((z6h φ n357) x344 x345 (W (x346+1)) x347 x348 x349 x350 x351 x352 x353 x354 ((x355++[(⟨(gt x344 x346).from_,W ((gt x344 x346).to -(x348.length:Int)),gt x352.x x346⟩:zc)])) x356))) else((z6h φ n357) x344 x345 (W (x346+1)) x347 x348 x349 x350 x351 x352 x353 x354 x355 x356)))) else(z7l φ x347 0 x348 x349 x353 x354 x350 x351 x356 x355))
def z30 (φ:Nat) (x329 x330:Int) (x331 :(List zb)) (x332 :(List zk)) (x333 x334:Int) (x335 :(List Int)) (x336 :(List zc)) (x337 x338 :(List Int)) (x339 :(List Arc)) (x340 :(List zc)):Option (Bool×Unit):=(if(x329 !=0)=true then(z7l φ x330 x329 x331 x332 x334 x335 0 ([]:List Int) x340 ([]:List zc)) else((z8w φ (⟨x338,x339⟩:zj)).bind fun y342=>(if(y342.2.1 !=0)=true then(z7l φ x330 y342.2.1 x331 x332 x334 x335 0 ([]:List Int) x340 ([]:List zc)) else((zld φ (⟨x338,x339⟩:zj) y342.1).bind fun y343=>(z6h φ φ x339 (x339.length:Int) 0 x330 x331 x332 y343.1 y342.1.price y342.1 x334 x335 x336 x340)))))
def z4x (φ:Nat) (x395:Int) (x396 :(List zb)) (x397 :(List zk)) (x398 x399:Int) (x400 x401 :(List Int)) (x402 :(List Arc)) (x403 :(List zc)) (x404 :(List Int)) (x405 :(List zc)):Option (Bool×Unit):=(if(decide ((2048:Int) <(x402.length:Int)))=true then(z30 φ 2 x395 x396 x397 x398 x399 x400 x403 x404 ([]:List Int) ([]:List Arc) x405) else(z30 φ 0 x395 x396 x397 x398 x399 x400 x403 x404 x401 x402 x405))
def z6d (φ:Nat) (k423 :(Int->Int->Int->Int->Int->Pool->(List zb)->(List zk)->Int->Int->(List Int)->(List Int)->(List Arc)->(List zc)->(List Int)->(List zc)->Option (Bool×Unit))):Nat->Int->Int->Int->Int->Int->Int->Int->Int->Pool->zb->(List zb)->(List zk)->Int->Int->(List Int)->(List Int)->(List Arc)->(List zc)->(List Int)->(List zc)->Option (Bool×Unit)
 | 0,_,_,_,_,_,_,_,_,_,_,_,_,_,_,_,_,_,_,_,_=>none
 | n444+1,x424,x425,x426,x427,x428,x429,x430,x431,x432,x433,x434,x435,x436,x437,x438,x439,x440,x441,x442,x443=>(if(decide (x430<x429))=true then(ck (rg x430 x435.length) ((z18 φ x432 x433 (gt x435 x430)).bind fun y445=>(if y445.2.1=true then(ck (fits (x440.length +([(⟨x426,W ((x434.length:Int)+x430),min2 x433.count ((gt x435 x430).count),y445.1⟩:Arc)]).length) 32) (if(!true)=true then(z4x φ x431 x434 x435 x436 x437 x438 x439 ((x440++[(⟨x426,W ((x434.length:Int)+x430),min2 x433.count ((gt x435 x430).count),y445.1⟩:Arc)])) x441 x442 x443) else((z6d φ k423 n444) x424 x425 x426 x427 x428 x429 (W (x430+1)) x431 x432 x433 x434 x435 x436 x437 x438 x439 ((x440++[(⟨x426,W ((x434.length:Int)+x430),min2 x433.count ((gt x435 x430).count),y445.1⟩:Arc)])) x441 x442 x443))) else((z6d φ k423 n444) x424 x425 x426 x427 x428 x429 (W (x430+1)) x431 x432 x433 x434 x435 x436 x437 x438 x439 x440 x441 x442 x443)))) else(k423 x424 x425 x427 (W (x428+1)) x431 x432 x434 x435 x436 x437 x438 x439 x440 x441 x442 x443))
def z9d (φ:Nat):Nat->Int->Int->Int->Int->Int->(List zb)->(List zk)->Int->Int->(List Int)->(List Int)->(List Arc)->(List zc)->(List Int)->(List zc)->Option (Bool×Unit)
 | 0,_,_,_,_,_,_,_,_,_,_,_,_,_,_,_=>none
 | n477+1,x462,x463,x464,x465,x466,x467,x468,x469,x470,x471,x472,x473,x474,x475,x476=>(if(decide (x465<x464))=true then(ck (rg x465 x467.length) (ck (fits (x473.length +([(⟨x465,W (x462+1),(gt x467 x465).count,0⟩:Arc)]).length) 32) (if(!true)=true then(z4x φ x466 x467 x468 x469 x470 x471 x472 (x473++[(⟨x465,W (x462+1),(gt x467 x465).count,0⟩:Arc)]) x474 x475 x476) else((z9d φ n477) x462 x463 x464 (W (x465+1)) x466 x467 x468 x469 x470 x471 x472 (x473++[(⟨x465,W (x462+1),(gt x467 x465).count,0⟩:Arc)]) x474 x475 x476)))) else(ck (fits (x473.length +([(⟨x462,W (x462+1),x463,0⟩:Arc)]).length) 32) (z4x φ x466 x467 x468 x469 x470 x471 x472 (x473++[(⟨x462,W (x462+1),x463,0⟩:Arc)]) x474 x475 x476)))
def z8z (φ:Nat):Nat->Int->Int->Int->Int->Int->(List zk)->(List zb)->Int->Int->(List Int)->(List Int)->(List Arc)->(List zc)->(List Int)->(List zc)->Option (Bool×Unit)
 | 0,_,_,_,_,_,_,_,_,_,_,_,_,_,_,_=>none
 | n461+1,x446,x447,x448,x449,x450,x451,x452,x453,x454,x455,x456,x457,x458,x459,x460=>(if(decide (x449<x448))=true then(ck (rg x449 x451.length) (ck (fits (x457.length +([(⟨x446,W ((x452.length:Int)+x449),(gt x451 x449).count,(gt x451 x449).weight⟩:Arc)]).length) 32) (if(!true)=true then(z4x φ x450 x452 x451 x453 x454 x455 x456 ((x457++[(⟨x446,W ((x452.length:Int)+x449),(gt x451 x449).count,(gt x451 x449).weight⟩:Arc)])) x458 x459 x460) else((z8z φ n461) x446 (W (x447 +(gt x451 x449).count)) x448 (W (x449+1)) x450 x451 x452 x453 x454 x455 x456 ((x457++[(⟨x446,W ((x452.length:Int)+x449),(gt x451 x449).count,(gt x451 x449).weight⟩:Arc)])) x458 x459 x460)))) else(z9d φ φ x446 x447 (x452.length:Int) 0 x450 x452 x451 x453 x454 x455 x456 x457 x458 x459 x460))
def za2 (φ:Nat):Nat->Int->Int->Int->Int->Int->Pool->(List zb)->(List zk)->Int->Int->(List Int)->(List Int)->(List Arc)->(List zc)->(List Int)->(List zc)->Option (Bool×Unit)
 | 0,_,_,_,_,_,_,_,_,_,_,_,_,_,_,_,_=>none
 | n423+1,x407,x408,x409,x410,x411,x412,x413,x414,x415,x416,x417,x418,x419,x420,x421,x422=>(if(decide (x410<x409))=true then(ck (rg x410 x413.length) (z6d φ (za2 φ n423) φ x407 x408 x410 x409 x410 (x414.length:Int) 0 x411 x412 (gt x413 x410) x413 x414 x415 x416 x417 x418 x419 x420 x421 x422)) else(z8z φ φ x407 x408 (x414.length:Int) 0 x411 x414 x413 x415 x416 x417 x418 x419 x420 x421 x422))
def z9l (φ:Nat):Nat->Int->Int->Int->Int->Int->(List zb)->(List zk)->Pool->Int->Int->(List Int)->(List Int)->(List Arc)->(List zc)->(List Int)->(List zc)->Option (Bool×Unit)
 | 0,_,_,_,_,_,_,_,_,_,_,_,_,_,_,_,_=>none
 | n393+1,x377,x378,x379,x380,x381,x382,x383,x384,x385,x386,x387,x388,x389,x390,x391,x392=>(if(decide (x380<x379))=true then(ck (rg x380 x383.length) ((z2n φ x384 (gt x383 x380)).bind fun y394=>(if(!y394.1)=true then(z30 φ 1 x381 x382 x383 x385 x386 x387 x390 x391 ([]:List Int) ([]:List Arc) x392) else(ck (fits (x388.length +([(W (0 -(gt x383 x380).count))]).length) 8) ((z9l φ n393) x377 (W (x378 +(gt x383 x380).count)) x379 (W (x380+1)) x381 x382 x383 x384 x385 x386 x387 ((x388++[(W (0 -(gt x383 x380).count))])) x389 x390 x391 x392))))) else(ck (fits (x388.length +([x378,(W (0-x377))]).length) 8) (if(decide ((256:Int) <((x388++[x378,(W (0-x377))]).length:Int)))=true then(z30 φ 2 x381 x382 x383 x385 x386 x387 x390 x391 ([]:List Int) ([]:List Arc) x392) else(za2 φ φ (W ((x382.length:Int) +(x383.length:Int))) 0 (x382.length:Int) 0 x381 x384 x382 x383 x385 x386 x387 (x388++[x378,(W (0-x377))]) x389 x390 x391 x392))))
def z99 (φ:Nat):Nat->Int->Int->Int->Int->Int->(List zb)->(List zk)->Pool->Int->Int->(List Int)->(List Int)->(List Arc)->(List zc)->(List Int)->(List zc)->Option (Bool×Unit)
 | 0,_,_,_,_,_,_,_,_,_,_,_,_,_,_,_,_=>none
 | n375+1,x359,x360,x361,x362,x363,x364,x365,x366,x367,x368,x369,x370,x371,x372,x373,x374=>(if(decide (x362<x361))=true then(ck (rg x362 x364.length) ((z1y φ x366 (gt x364 x362)).bind fun y376=>(if(!y376.1)=true then(z30 φ 1 x363 x364 x365 x367 x368 x369 x372 x373 ([]:List Int) ([]:List Arc) x374) else(ck (fits (x370.length +([(gt x364 x362).count]).length) 8) ((z99 φ n375) (W (x359 +(gt x364 x362).count)) x360 x361 (W (x362+1)) x363 x364 x365 x366 x367 x368 x369 (x370++[(gt x364 x362).count]) x371 x372 x373 x374))))) else(z9l φ φ x359 x360 (x365.length:Int) 0 x363 x364 x365 x366 x367 x368 x369 x370 x371 x372 x373 x374))
def z7o (φ:Nat) (x5:Int) (x6 :(List zb)) (x7 :(List zk)) (x8:Int) (x9 :(List Int)) (x10 :(List zc)):Option (Bool×Unit):=(ck (rg 0 x7.length) ((z8t φ).bind fun y328=>((z19 φ y328.1).bind fun y358=>(if(y358.1 !=0)=true then(z30 φ y358.1 x5 x6 (zr x7 0 (⟨(gt x7 0).type_,(gt x7 0).class_,(gt x7 0).place,(gt x7 0).from_,(gt x7 0).to,(gt x7 0).count,40⟩:zk)) 0 x8 x9 ([]:List zc) ([]:List Int) ([]:List Int) ([]:List Arc) x10) else(z99 φ φ 0 0 (x6.length:Int) 0 x5 x6 (zr x7 0 (⟨(gt x7 0).type_,(gt x7 0).class_,(gt x7 0).place,(gt x7 0).from_,(gt x7 0).to,(gt x7 0).count,40⟩:zk)) y328.1 0 x8 x9 ([]:List Int) ([]:List Arc) ([]:List zc) ([]:List Int) x10)))))
def z68 (φ:Nat):Nat->(List Arc)->Int->Int->(List zb)->(List zk)->Int->(List Int)->Flow->(List zc)->Option (Bool×Unit)
 | 0,_,_,_,_,_,_,_,_,_=>none
 | n499+1,x490,x491,x492,x493,x494,x495,x496,x497,x498=>(if(decide (x492<x491))=true then(ck (rg x492 x490.length) (ck ((((decide (((gt x490 x492).from_:Int) <(x493.length:Int)))&&(decide (((gt x490 x492).to:Int) <(W ((x493.length:Int) +(x494.length:Int))))))=true)->rg x492 x497.x.length) (if(((decide (((gt x490 x492).from_:Int) <(x493.length:Int)))&&(decide (((gt x490 x492).to:Int) <(W ((x493.length:Int) +(x494.length:Int))))))&&(decide ((0:Int) <(gt x497.x x492))))=true then(ck (rg x492 x497.x.length) (ck (fits (x498.length +([(⟨(gt x490 x492).from_,W ((gt x490 x492).to -(x493.length:Int)),gt x497.x x492⟩:zc)]).length) 24) ((z68 φ n499) x490 x491 (W (x492+1)) x493 x494 x495 x496 x497 ((x498++[(⟨(gt x490 x492).from_,W ((gt x490 x492).to -(x493.length:Int)),gt x497.x x492⟩:zc)]))))) else((z68 φ n499) x490 x491 (W (x492+1)) x493 x494 x495 x496 x497 x498)))) else(z7o φ 0 x493 x494 x495 x496 x498))
def z31 (φ:Nat) (x479:Int) (x480 :(List zb)) (x481 :(List zk)) (x482:Int) (x483 :(List zc)) (x484 x485 :(List Int)) (x486 :(List Arc)):Option (Bool×Unit):=(if(x479 !=0)=true then(z7o φ x479 x480 x481 0 ([]:List Int) ([]:List zc)) else((z8w φ (⟨x485,x486⟩:zj)).bind fun y488=>(if(y488.2.1 !=0)=true then(z7o φ y488.2.1 x480 x481 0 ([]:List Int) ([]:List zc)) else((zld φ (⟨x485,x486⟩:zj) y488.1).bind fun y489=>(z68 φ φ x486 (x486.length:Int) 0 x480 x481 y489.1 y488.1.price y488.1 x483)))))
def z4r (φ:Nat) (x529 :(List zb)) (x530 :(List zk)) (x531:Int) (x532 :(List Int)) (x533 :(List Arc)) (x534 :(List zc)) (x535 :(List Int)):Option (Bool×Unit):=(if(decide ((2048:Int) <(x533.length:Int)))=true then(z31 φ 2 x529 x530 x531 x534 x535 ([]:List Int) ([]:List Arc)) else(z31 φ 0 x529 x530 x531 x534 x535 x532 x533))
def z6e (φ:Nat) (k549 :(Int->Int->Int->Int->Pool->(List zb)->(List zk)->Int->(List Int)->(List Arc)->(List zc)->(List Int)->Option (Bool×Unit))):Nat->Int->Int->Int->Int->Int->Int->Int->Pool->zb->(List zb)->(List zk)->Int->(List Int)->(List Arc)->(List zc)->(List Int)->Option (Bool×Unit)
 | 0,_,_,_,_,_,_,_,_,_,_,_,_,_,_,_,_=>none
 | n566+1,x550,x551,x552,x553,x554,x555,x556,x557,x558,x559,x560,x561,x562,x563,x564,x565=>(if(decide (x556<x555))=true then(ck (rg x556 x560.length) ((z18 φ x557 x558 (gt x560 x556)).bind fun y567=>(if y567.2.1=true then(ck (fits (x563.length +([(⟨x552,W ((x559.length:Int)+x556),min2 x558.count ((gt x560 x556).count),y567.1⟩:Arc)]).length) 32) (if(!true)=true then(z4r φ x559 x560 x561 x562 ((x563++[(⟨x552,W ((x559.length:Int)+x556),min2 x558.count ((gt x560 x556).count),y567.1⟩:Arc)])) x564 x565) else((z6e φ k549 n566) x550 x551 x552 x553 x554 x555 (W (x556+1)) x557 x558 x559 x560 x561 x562 ((x563++[(⟨x552,W ((x559.length:Int)+x556),min2 x558.count ((gt x560 x556).count),y567.1⟩:Arc)])) x564 x565))) else((z6e φ k549 n566) x550 x551 x552 x553 x554 x555 (W (x556+1)) x557 x558 x559 x560 x561 x562 x563 x564 x565)))) else(k549 x550 x551 x553 (W (x554+1)) x557 x559 x560 x561 x562 x563 x564 x565))
def z9q (φ:Nat):Nat->Int->Int->Int->Int->(List zb)->(List zk)->Int->(List Int)->(List Arc)->(List zc)->(List Int)->Option (Bool×Unit)
 | 0,_,_,_,_,_,_,_,_,_,_,_=>none
 | n591+1,x580,x581,x582,x583,x584,x585,x586,x587,x588,x589,x590=>(if(decide (x583<x582))=true then(ck (rg x583 x584.length) (ck (fits (x588.length +([(⟨x583,W (x580+1),(gt x584 x583).count,0⟩:Arc)]).length) 32) (if(!true)=true then(z4r φ x584 x585 x586 x587 (x588++[(⟨x583,W (x580+1),(gt x584 x583).count,0⟩:Arc)]) x589 x590) else((z9q φ n591) x580 x581 x582 (W (x583+1)) x584 x585 x586 x587 (x588++[(⟨x583,W (x580+1),(gt x584 x583).count,0⟩:Arc)]) x589 x590)))) else(ck (fits (x588.length +([(⟨x580,W (x580+1),x581,0⟩:Arc)]).length) 32) (z4r φ x584 x585 x586 x587 (x588++[(⟨x580,W (x580+1),x581,0⟩:Arc)]) x589 x590)))
def z9x (φ:Nat):Nat->Int->Int->Int->Int->(List zk)->(List zb)->Int->(List Int)->(List Arc)->(List zc)->(List Int)->Option (Bool×Unit)
 | 0,_,_,_,_,_,_,_,_,_,_,_=>none
 | n579+1,x568,x569,x570,x571,x572,x573,x574,x575,x576,x577,x578=>(if(decide (x571<x570))=true then(ck (rg x571 x572.length) (ck (fits (x576.length +([(⟨x568,W ((x573.length:Int)+x571),(gt x572 x571).count,(gt x572 x571).weight⟩:Arc)]).length) 32) (if(!true)=true then(z4r φ x573 x572 x574 x575 ((x576++[(⟨x568,W ((x573.length:Int)+x571),(gt x572 x571).count,(gt x572 x571).weight⟩:Arc)])) x577 x578) else((z9x φ n579) x568 (W (x569 +(gt x572 x571).count)) x570 (W (x571+1)) x572 x573 x574 x575 ((x576++[(⟨x568,W ((x573.length:Int)+x571),(gt x572 x571).count,(gt x572 x571).weight⟩:Arc)])) x577 x578)))) else(z9q φ φ x568 x569 (x573.length:Int) 0 x573 x572 x574 x575 x576 x577 x578))
def z9n (φ:Nat):Nat->Int->Int->Int->Int->Pool->(List zb)->(List zk)->Int->(List Int)->(List Arc)->(List zc)->(List Int)->Option (Bool×Unit)
 | 0,_,_,_,_,_,_,_,_,_,_,_,_=>none
 | n549+1,x537,x538,x539,x540,x541,x542,x543,x544,x545,x546,x547,x548=>(if(decide (x540<x539))=true then(ck (rg x540 x542.length) (z6e φ (z9n φ n549) φ x537 x538 x540 x539 x540 (x543.length:Int) 0 x541 (gt x542 x540) x542 x543 x544 x545 x546 x547 x548)) else(z9x φ φ x537 x538 (x543.length:Int) 0 x543 x542 x544 x545 x546 x547 x548))
def z9s (φ:Nat):Nat->Int->Int->Int->Int->(List zb)->(List zk)->Pool->Int->(List Int)->(List Arc)->(List zc)->(List Int)->Option (Bool×Unit)
 | 0,_,_,_,_,_,_,_,_,_,_,_,_=>none
 | n527+1,x515,x516,x517,x518,x519,x520,x521,x522,x523,x524,x525,x526=>(if(decide (x518<x517))=true then(ck (rg x518 x520.length) ((z2n φ x521 (gt x520 x518)).bind fun y528=>(if(!y528.1)=true then(z31 φ 1 x519 x520 x522 x525 x526 ([]:List Int) ([]:List Arc)) else(ck (fits (x523.length +([(W (0 -(gt x520 x518).count))]).length) 8) ((z9s φ n527) x515 (W (x516 +(gt x520 x518).count)) x517 (W (x518+1)) x519 x520 x521 x522 ((x523++[(W (0 -(gt x520 x518).count))])) x524 x525 x526))))) else(ck (fits (x523.length +([x516,(W (0-x515))]).length) 8) (if(decide ((256:Int) <((x523++[x516,(W (0-x515))]).length:Int)))=true then(z31 φ 2 x519 x520 x522 x525 x526 ([]:List Int) ([]:List Arc)) else(z9n φ φ (W ((x519.length:Int) +(x520.length:Int))) 0 (x519.length:Int) 0 x521 x519 x520 x522 (x523++[x516,(W (0-x515))]) x524 x525 x526))))
def z9u (φ:Nat):Nat->Int->Int->Int->Int->(List zb)->(List zk)->Pool->Int->(List Int)->(List Arc)->(List zc)->(List Int)->Option (Bool×Unit)
 | 0,_,_,_,_,_,_,_,_,_,_,_,_=>none
 | n513+1,x501,x502,x503,x504,x505,x506,x507,x508,x509,x510,x511,x512=>(if(decide (x504<x503))=true then(ck (rg x504 x505.length) ((z1y φ x507 (gt x505 x504)).bind fun y514=>(if(!y514.1)=true then(z31 φ 1 x505 x506 x508 x511 x512 ([]:List Int) ([]:List Arc)) else(ck (fits (x509.length +([(gt x505 x504).count]).length) 8) ((z9u φ n513) (W (x501 +(gt x505 x504).count)) x502 x503 (W (x504+1)) x505 x506 x507 x508 (x509++[(gt x505 x504).count]) x510 x511 x512))))) else(z9s φ φ x501 x502 (x506.length:Int) 0 x505 x506 x507 x508 x509 x510 x511 x512))
def zbl (φ:Nat):Option (Bool×Unit):=((z9f φ 0 0 145 45).bind fun y1=>((z0q (default,()) ((!y1.1)=false) (z9f φ 0 0 144 (-1))).bind fun y2=>((z0q (default,()) (((!y1.1)||(!y2.1))=false) (z9f φ 1 0 145 52)).bind fun y3=>((z0q (default,()) ((((!y1.1)||(!y2.1))||(!y3.1))=false) (z9f φ 0 1 145 (-1))).bind fun y4=>(if((((!y1.1)||(!y2.1))||(!y3.1))||(!y4.1))=true then(some (false,())) else((z8t φ).bind fun y478=>((z19 φ y478.1).bind fun y500=>(if(y500.1 !=0)=true then(z31 φ y500.1 ([(⟨0,1,0,100,2⟩:zb)]) ([(⟨0,2,1,0,500,3,1000⟩:zk)]) 0 ([]:List zc) ([]:List Int) ([]:List Int) ([]:List Arc)) else(z9u φ φ 0 0 (([(⟨0,1,0,100,2⟩:zb)]).length:Int) 0 ([(⟨0,1,0,100,2⟩:zb)]) ([(⟨0,2,1,0,500,3,1000⟩:zk)]) y478.1 0 ([]:List Int) ([]:List Arc) ([]:List zc) ([]:List Int))))))))))
def zd4 (φ:Nat):Fsp TV:=⟨[],[.val 27],fun z=>zbl φ⟩
def z2f (φ:Nat):Nat->Int->Pool->Option (Bool×Unit)
 | 0,_,_=>none
 | n4+1,x2,x3=>(if(decide (x2 <(x3.railways.length:Int)))=true then(ck (rg x2 x3.railways.length) (if(decide ((100:Int) <((((gt x3.railways x2).calendar).holidays).length:Int)))=true then(some (false,())) else((z2f φ n4) (W (x2+1)) x3))) else(some (true,())))
def z6r (φ:Nat) (x1:Pool):Option (Bool×Unit):=(if(((((((decide ((16:Int) <(x1.network.places.length:Int)))||(decide ((40:Int) <(x1.network.edges.length:Int))))||(decide ((8:Int) <(x1.fleet.wagons.length:Int))))||(decide ((8:Int) <(x1.readers.length:Int))))||(decide ((100:Int) <(x1.fleet.swaps.length:Int))))||(decide ((100:Int) <(x1.fleet.washes.length:Int))))||(decide ((17:Int) <(x1.railways.length:Int))))=true then(some (false,())) else(z2f φ φ 0 x1))
def z79 (φ:Nat):Fsp TV:=⟨[26],[.val 27],fun z=>z6r φ z.1⟩
def zgb (φ:Nat) (x1:Pool) (x2 :(List zb)) (x3 :(List zk)):Option (Bool×Unit):=((z6r φ x1).bind fun y4=>(some (((y4.1&&(decide (((x2.length:Int):Int)<=6)))&&(decide (((x3.length:Int):Int)<=6))),())))
def zf1 (φ:Nat):Fsp TV:=⟨[26,36,37],[.val 27],kk3 (zgb φ)⟩
def zw (φ:Nat) (k15 :((List zb)->(List zk)->Int->Int->Pool->zj->Option (Bool×Unit))):Nat->(List zb)->(List zk)->Int->Int->Int->Pool->zj->Option (Bool×Unit)
 | 0,_,_,_,_,_,_,_=>none
 | n23+1,x16,x17,x18,x19,x20,x21,x22=>(if(decide (x20 <(x17.length:Int)))=true then(ck (rg x19 x16.length) (ck (rg x20 x17.length) ((z7x φ x21 (gt x16 x19) (gt x17 x20)).bind fun y24=>(if(y24.2.2.1 !=0)=true then(some (false,())) else(if(!y24.2.1)=true then((zw φ k15 n23) x16 x17 x18 x19 (W (x20+1)) x21 x22) else(ck (rg x19 x16.length) (ck (rg x20 x17.length) ((z23 φ x21.network ((gt x16 x19).place) ((gt x17 x20).place)).bind fun y25=>(ck (((((y25.2.1 !=0)||(decide (y24.1<y25.1)))||(decide (((x22.arcs.length:Int):Int)<=x18)))=false)->rg x18 x22.arcs.length) (ck (((((y25.2.1 !=0)||(decide (y24.1<y25.1)))||(decide (((x22.arcs.length:Int):Int)<=x18)))=false)->rg x19 x16.length) (ck (((((y25.2.1 !=0)||(decide (y24.1<y25.1)))||(decide (((x22.arcs.length:Int):Int)<=x18)))=false)->rg x20 x17.length) (if((((y25.2.1 !=0)||(decide (y24.1<y25.1)))||(decide (((x22.arcs.length:Int):Int)<=x18)))||(!((((gt x22.arcs x18).from_:Int)==x19)&&((((gt x22.arcs x18).to:Int)==(W ((x16.length:Int)+x20)))&&((((gt x22.arcs x18).cap:Int)==(min2 ((gt x16 x19).count) ((gt x17 x20).count)))&&((((gt x22.arcs x18).cost:Int)==y24.1)&&true))))))=true then(some (false,())) else((zw φ k15 n23) x16 x17 (W (x18+1)) x19 (W (x20+1)) x21 x22))))))))))))) else(k15 x16 x17 x18 (W (x19+1)) x21 x22))
def z02 (φ:Nat):Nat->(List zb)->(List zk)->Int->Int->Pool->zj->Option (Bool×Unit)
 | 0,_,_,_,_,_,_=>none
 | n15+1,x9,x10,x11,x12,x13,x14=>(if(decide (x12 <(x9.length:Int)))=true then(zw φ (z02 φ n15) φ x9 x10 x11 x12 0 x13 x14) else(some ((((x14.arcs.length:Int):Int)==(W ((W ((W (x11 +(x10.length:Int))) +(x9.length:Int)))+1))),())))
def z2i (φ:Nat) (x1:Pool) (x2 :(List zb)) (x3 :(List zk)):Option (Bool×Unit):=((zbl φ).bind fun y4=>(if(!y4.1)=true then(some (false,())) else((zgb φ x1 x2 x3).bind fun y5=>(if(!y5.1)=true then(some (true,())) else((z7h φ x1 x2 x3).bind fun y6=>(if(y6.2.1 !=0)=true then(some (((((y6.1.arcs.length:Int):Int)==0)&&(((y6.1.supply.length:Int):Int)==0)),())) else((z8w φ y6.1).bind fun y7=>((z8u φ y6.1).bind fun y8=>(if(((y8.1 !=0)||(y7.2.1 !=0))||(((y6.1.supply.length:Int):Int) !=(W ((W ((x2.length:Int) +(x3.length:Int)))+2))))=true then(some (false,())) else(z02 φ φ x2 x3 0 0 x1 y6.1))))))))))
def z35 (φ:Nat):Fsp TV:=⟨[26,36,37],[.val 27],kk3 (z2i φ)⟩
end Px
end
