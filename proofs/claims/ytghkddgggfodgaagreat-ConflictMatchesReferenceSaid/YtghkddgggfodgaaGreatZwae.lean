/- A part of the proof of conflictMatchesReference_holds. Conditions: none. -/
import Derived.Test.YtghkddgggfodgaaGreatZwad
import Derived.Shelf.SlSortCmp.NoneTotal
import Derived.Shelf.Sort.Plain
import Derived.Shelf.Slices.In.SortNone
set_option linter.unusedVariables false
set_option linter.unusedSimpArgs false
section
namespace Px
open Go Go.RowKit
section cells
variable {T:Nat->Type}
def cvT (g :(c:Nat)->T c->List Value) :(fs:List Nat)->Tup T fs->List Value
 | [],_=>[]
 | c::cs,x=>g c x.1++cvT g cs x.2
def cvD (g :(c:Nat)->T c->List Value) : {α:Type}->Ds T α->α->List Value
 | _,.int k,x=>[.int k x]
 | _,.bool,x=>[.bool x]
 | _,.str,x=>[.string x]
 | _,.sl _,_=>[]
 | _,.arr n c,f=>(List.range n).flatMap fun i=>g c (f i)
 | _,.st fs _ un _,x=>cvT g fs (un x)
end cells
section
variable (V:TE)
def cvN:Nat->(c:Nat)->V.T c->List Value
 | 0,_,_=>[]
 | n+1,c,x=>cvD (cvN n) (V.d c) x
def TE.cv (c:Nat) (x:V.T c):List Value:=cvN V (c+1) c x
variable {V}
theorem ybk:∀(n c:Nat),flN V n c=true->∀ x,V.ev c x =(cvN V n c x).map eqv/\∀ v∈cvN V n c x,v.oneCell'=true
 | 0,_,h=>by cases h
 | n+1,c,h=>by
  intro x
  have ih:=ybk n
  rw [V.ev_eq]
  change flD (flN V n) (V.d c)=true at h
  change evD V.ev V.sz (V.d c) x =(cvD (cvN V n) (V.d c) x).map eqv/\∀ v∈cvD (cvN V n) (V.d c) x,v.oneCell'=true
  revert h x
  generalize V.d c=d
  generalize V.T c=α at d
  intro x h
  cases d with
  | int k=>exact⟨rfl,fun v hv=>by simp only [cvD,List.mem_singleton] at hv; subst hv; rfl⟩
  | bool=>exact⟨rfl,fun v hv=>by simp only [cvD,List.mem_singleton] at hv; subst hv; rfl⟩
  | str=>exact⟨rfl,fun v hv=>by simp only [cvD,List.mem_singleton] at hv; subst hv; rfl⟩
  | sl c'=>cases h
  | arr m c'=>
   simp only [evD,cvD,Px.arr,List.map_flatMap]
   refine⟨?_,fun v hv=>?_⟩
   ·congr 1
    funext i
    exact(ih c' h (x i)).1
   ·obtain⟨i,_,hi⟩:=List.mem_flatMap.1 hv
    exact(ih c' h (x i)).2 v hi
  | st fs mk un law=>
   have key:∀(fs:List Nat) (y:Tup V.T fs),fs.all (flN V n)=true->evT V.ev fs y =(cvT (cvN V n) fs y).map eqv/\∀ v∈cvT (cvN V n) fs y,v.oneCell'=true:=by
    intro fs
    induction fs with
    | nil=>intro y _; exact⟨rfl,fun v hv=>by cases hv⟩
    | cons c cs ihf=>
     intro y h
     simp only [List.all_cons,Bool.and_eq_true] at h
     obtain⟨h1,h2⟩:=ihf y.2 h.2
     obtain⟨h3,h4⟩:=ih c h.1 y.1
     refine⟨by simp only [evT,cvT,List.map_append,h1,h3],fun v hv=>?_⟩
     rcases List.mem_append.1 hv with hv | hv
     ·exact h4 v hv
     ·exact h2 v hv
   exact key fs (un x) h
theorem yjd {c:Nat} (h:V.fl c=true) (x:V.T c):V.ev c x =(V.cv c x).map eqv:=(ybk _ _ h x).1
theorem yfr {c:Nat} (h:V.fl c=true) (x:V.T c):∀ v∈V.cv c x,v.oneCell'=true:=(ybk _ _ h x).2
theorem y3s {c:Nat} (h:V.fl c=true) (x:V.T c) :(V.cv c x).length=V.sz c:=by
 have:=V.ev_len c x
 rw [yjd h] at this
 simpa using this
end
theorem yb2 {r:Nat->Prop} {w:World} : ∀ {us vs:List Value},zo r w (us.map eqv) vs->vs=us
 | us,vs,⟨hl,h⟩=>by
  refine List.ext_getElem? fun i=>?_
  by_cases hi:i<us.length
  ·obtain⟨u,hu,he,_⟩:=h i (eqv us[i]) (by simp [hi])
   rw [hu,List.getElem?_eq_getElem hi]
   exact congrArg some he
  ·have hl':us.length=vs.length:=by simpa using hl
   rw [List.getElem?_eq_none (show us.length<=i by omega),List.getElem?_eq_none (show vs.length<=i by omega)]
theorem zww {r:Nat->Prop} {w:World} {us:List Value} (h:∀ v∈us,v.oneCell'=true):zo r w (us.map eqv) us:=by
 refine⟨by simp,fun j A hj=>?_⟩
 simp only [List.getElem?_map,Option.map_eq_some_iff] at hj
 obtain⟨u,hu,rfl⟩:=hj
 exact⟨u,hu,rfl,h u (List.mem_of_getElem? hu)⟩
theorem zuw {α:Type} {e:α->List Value} {k:Nat} (hk:∀ x,(e x).length=k) (h0:0<k):∀(l:List α) (t:Nat),(l.flatMap e)[t]? =(l[t / k]?).bind fun x=>(e x)[t % k]?
 | [],t=>by simp
 | x::l,t=>by
  rw [List.flatMap_cons,List.getElem?_append,hk]
  by_cases h:t<k
  ·rw [if_pos h,Nat.div_eq_of_lt h,Nat.mod_eq_of_lt h]; simp
  ·have h1:t / k =(t-k) / k+1:=Nat.div_eq_sub_div h0 (by omega)
   have h2:t % k =(t-k) % k:=Nat.mod_eq_sub_mod (by omega)
   rw [if_neg h,zuw hk h0 l,h1,h2,List.getElem?_cons_succ]
theorem zx9 {α:Type} [Inhabited α] {e:α->List Value} {k:Nat} (hk:∀ x,(e x).length=k) (d:Array α) :(Sort.flatK e k d).toList=d.toList.flatMap e:=by
 by_cases h0:0<k
 ·refine List.ext_getElem? fun t=>?_
  rw [zuw hk h0]
  by_cases ht:t<d.size*k
  ·have hd:t / k<d.size:=Nat.div_lt_of_lt_mul (by rwa [Nat.mul_comm])
   have hm:t % k <(e d[t / k]).length:=by rw [hk]; exact Nat.mod_lt _ h0
   have h1:t <(Sort.flatK e k d).toList.length:=by rw [Array.length_toList,Sort.size_flatK]; exact ht
   have h2 :(Sort.flatK e k d).toList[t] =(Sort.flatK e k d)[t]!:=by
    rw [getElem!_pos _ t (by rw [Sort.size_flatK]; exact ht)]
    simp
   rw [List.getElem?_eq_getElem h1,h2,Sort.get_flatK _ _ _ _ ht,getElem!_pos d (t / k) hd]
   simp only [Array.getElem?_toList,Array.getElem?_eq_getElem hd,Option.bind_some]
   rw [getElem!_pos (e d[t / k]) (t % k) hm,List.getElem?_eq_getElem hm]
  ·rw [List.getElem?_eq_none (by rw [Array.length_toList,Sort.size_flatK]; omega)]
   have:d.size<=t / k:=by
    rw [Nat.le_div_iff_mul_le h0]; omega
   simp [this]
 ·have:k=0:=by omega
  subst this
  have e1:∀ x,e x = []:=fun x=>List.eq_nil_of_length_eq_zero (hk x)
  have e2:d.toList.flatMap e = []:=by simp [List.flatMap_eq_nil_iff,e1]
  rw [e2]
  exact List.eq_nil_of_length_eq_zero (by rw [Array.length_toList,Sort.size_flatK]; simp)
theorem ydh {w:World} {g:Nat} {cur:Array Value} {E:TypeId} {F:Array Value} (hh:w.heap[g]? = some (.cells cur E (0,0))) (hF:cur.toList.take F.size=F.toList):Sort.Holds id w g 0 F:=by
 intro j hj
 have h1:cur[j]? = some F[j]:=by
  have :(cur.toList.take F.size)[j]? = F.toList[j]?:=by rw [hF]
  rw [List.getElem?_take,if_pos hj] at this
  simpa [hj] using this
 rw [getElem!_pos F j hj]
 refine⟨?_,?_⟩
 ·unfold World.cell?
  rw [hh]
  simpa using h1
 ·unfold World.frozen?
  rw [hh]
  simp
theorem y9t {w:World} {g n:Nat} {cur:Array Value} {E:TypeId} {F:Array Value} {os:Array Obj} (hh:w.heap[g]? = some (.cells cur E (0,0))) (hs:F.size<=cur.size) :
  ∃ cur',(Sort.grow (Sort.putRow id (Sort.ahead w n) g 0 F) os).heap[g]? = some (.cells cur' E (0,0))/\cur'.size=cur.size/\cur'.toList.take F.size=F.toList:=by
 have hlt:g<w.heap.size:=(Array.getElem?_eq_some_iff.1 hh).1
 refine⟨Sort.putCells id 0 F cur,?_,by simp [Sort.putCells],?_⟩
 ·simp only [Sort.grow,Sort.putRow,Sort.mapBlock,Sort.ahead]
  rw [Array.getElem?_append,if_pos (by simpa using hlt),Array.getElem?_modify,if_pos rfl,hh]
  rfl
 ·refine List.ext_getElem? fun j=>?_
  rw [List.getElem?_take]
  by_cases hj:j<F.size
  ·rw [if_pos hj]
   have:j<cur.size:=by omega
   simp [Sort.putCells,this,hj]
  ·rw [if_neg hj,List.getElem?_eq_none (by simpa using hj)]
theorem y4q {w:World} {g n b:Nat} {F:Array Value} {os:Array Obj} (hb:b<w.heap.size) (hg:b≠g) :(Sort.grow (Sort.putRow id (Sort.ahead w n) g 0 F) os).heap[b]? = w.heap[b]?:=by
 simp only [Sort.grow,Sort.putRow,Sort.mapBlock,Sort.ahead]
 rw [Array.getElem?_append,if_pos (by simpa using hb),Array.getElem?_modify,if_neg (fun e=>hg e.symm)]
theorem y7m {P:Program} {f:FuncId} {args:List VP} {vs0:List Value} {α:Type} {E:TypeId} {e:α->List VP} {ce:α->List Value} {k:Nat} {l l':List α} {sv:Value}
  (he:∀ x∈l,e x =(ce x).map eqv) (he':∀ x∈l',e x =(ce x).map eqv) (hone:∀ x∈l',∀ v∈ce x,v.oneCell'=true) (hk:∀ x∈l,(ce x).length=k) (hk':∀ x∈l',(ce x).length=k) (hlen:l'.length=l.length) (hargs:args=vs0.map eqv)
  (hnil:l = []->∀ p cap w,Calls P f (#[.slice p 0 cap]++vs0.toArray) w fun e w'=>e = .returned (.tuple #[])/\w'=w)
  (hrun:l≠[]->∀ g cap w,g<w.heap.size->(∀ F:Array Value,F.toList=l.flatMap ce->Sort.Holds id w g 0 F)->
   Calls P f (#[.slice (some ⟨g,0,none⟩) l.length cap]++vs0.toArray) w fun e w'=>e = .returned (.tuple #[])/\∃ n os F,F.toList=l'.flatMap ce/\w'=Sort.grow (Sort.putRow id (Sort.ahead w n) g 0 F) os) :
  MutT P f (eqv sv::args) E e k l sv fun x l2=>x=eqv (.tuple #[])/\l2=l':=by
 intro w0 base r S w vs hw hl hA
 have hvs:vs = #[sv]++vs0.toArray:=by
  have hsz:vs.size=1+vs0.length:=by rw [hl,hargs]; simp; omega
  refine Array.ext (by rw [hsz]; simp [Nat.add_comm]) fun i h1 h2=>?_
  cases i with
  | zero=>
   have:=hA 0 (eqv sv) rfl
   simp only [Array.getD_eq_getD_getElem?,Array.getElem?_eq_getElem h1,Option.getD_some] at this
   have this:vs[0]=sv:=this
   rw [this,Array.getElem_append_left (by simp)]; rfl
  | succ i=>
   have hi:i<vs0.length:=by omega
   have:=hA (i+1) (eqv vs0[i]) (by rw [hargs]; simp [hi])
   simp only [Array.getD_eq_getD_getElem?,Array.getElem?_eq_getElem h1,Option.getD_some] at this
   rw [this]
   rw [Array.getElem_append_right (by simp)]
   simp
 subst hvs
 have hrow:=hw.obj 0 _ rfl
 have hfm:l.flatMap e =(l.flatMap ce).map eqv:=by
  rw [List.map_flatMap]
  clear hnil hrun hrow hk hlen hw
  induction l with
  | nil=>rfl
  | cons x l ih=>rw [List.flatMap_cons,List.flatMap_cons,he x (List.mem_cons_self),ih (fun y hy=>he y (List.mem_cons_of_mem _ hy))]
 have hfm':l'.flatMap e =(l'.flatMap ce).map eqv:=by
  rw [List.map_flatMap]
  clear hnil hrun hrow hk hk' hlen hw hone
  induction l' with
  | nil=>rfl
  | cons x l' ih=>rw [List.flatMap_cons,List.flatMap_cons,he' x (List.mem_cons_self),ih (fun y hy=>he' y (List.mem_cons_of_mem _ hy))]
 have hfl:∀ m:List α,(∀ x∈m,(ce x).length=k)->(m.flatMap ce).length=m.length*k:=by
  intro m
  induction m with
  | nil=>intro _; simp
  | cons x m ih=>intro h; rw [List.flatMap_cons,List.length_append,h x (List.mem_cons_self),ih (fun y hy=>h y (List.mem_cons_of_mem _ hy)),List.length_cons,Nat.add_mul]; omega
 by_cases h0:l = []
 ·have hl0:l' = []:=List.eq_nil_of_length_eq_zero (by rw [hlen,h0]; rfl)
  have hslice:∃ p cap,sv = .slice p 0 cap:=by
   rcases hrow with⟨rfl,_⟩ |⟨g,cap,cur,rfl,_⟩
   ·exact⟨_,_,rfl⟩
   ·rw [h0]; exact⟨_,_,rfl⟩
  obtain⟨p,cap,rfl⟩:=hslice
  refine(hnil h0 p cap w).mono ?_
  rintro en w' ⟨rfl,rfl⟩
  refine⟨_,eqv (.tuple #[]),_,r,S,rfl,Evo.refl _ _ _,hw,rfl,l',?_,rfl,rfl⟩
  rw [h0,hl0]
 ·rcases hrow with⟨_,rfl⟩ |⟨g,cap,cur,rfl,hS,hcur,hle,hmax,hsz,hc⟩
  ·exact absurd rfl h0
  ·have hlt:=(Array.getElem?_eq_some_iff.1 hcur).1
   rw [hfm] at hc
   have hc:=yb2 hc
   refine(hrun h0 g cap w hlt fun F hF=>ydh hcur ?_).mono ?_
   ·have:F.size=l.length*k:=by rw [<- Array.length_toList,hF,hfl l hk]
    rw [this,hc,hF]
   ·rintro en w' ⟨rfl,n,os,F,hF,rfl⟩
    have hFs:F.size=l.length*k:=by rw [<- Array.length_toList,hF,hfl l' hk',hlen]
    have hb:∀ b,b<w.heap.size->¬ S 0 b->(Sort.grow (Sort.putRow id (Sort.ahead w n) g 0 F) os).heap[b]? = w.heap[b]?:=fun b hb hs=>y4q hb (fun e=>hs (e ▸ hS))
    obtain⟨cur',hcur',hsz',htk⟩:=y9t (n:=n) (os:=os) (F:=F) hcur (by rw [hFs,hsz]; exact Nat.mul_le_mul_right _ hle)
    refine⟨_,eqv (.tuple #[]),_,r,_,rfl,hw.evo_repl 0 hb,hw.repl 0 (row E e k l' (.slice (some ⟨g,0,none⟩) l.length cap)) (S 0) (by simp) rfl ⟨rfl,Nat.le_add_right _ _⟩ rfl (by simp [Sort.grow,Sort.putRow,Sort.mapBlock,Sort.ahead]) hb (fun b hb'=>?_) ?_,rfl,l',rfl,rfl,rfl⟩
    ·obtain⟨_,h2,h3,h4⟩:=hw.own 0 b hb'
     refine⟨h2,?_,h4,fun j hj hs=>hj (hw.apart j 0 b hs hb')⟩
     simp [Sort.grow,Sort.putRow,Sort.mapBlock,Sort.ahead]
     omega
    ·refine .inr ⟨g,cap,cur',by rw [hlen],hS,hcur',by omega,hmax,by omega,?_⟩
     rw [hlen,<- hFs,htk,hF,hfm']
     exact zww fun v hv=>by
      obtain⟨x,hx,hxv⟩:=List.mem_flatMap.1 hv
      exact hone x hx v hxv
theorem yix {w w':World} (h:Bel w.heap.size w w'):∃ q os,w'=Sort.grow (w.drewN q) os:=by
 refine⟨w'.drawn-w.drawn,w'.heap.extract w.heap.size w'.heap.size,?_⟩
 have hd:=h.drawn
 have hh:w'.heap=w.heap++w'.heap.extract w.heap.size w'.heap.size:=by
  refine Array.ext_getElem? fun i=>?_
  rw [Array.getElem?_append]
  by_cases hi:i<w.heap.size
  ·rw [if_pos hi,h.block i hi]
  ·rw [if_neg hi,Array.getElem?_extract]
   split
   ·congr 1; omega
   ·rw [Array.getElem?_eq_none (by omega)]
 have h1:=h.os
 have h2:=h.tape
 have h3:=h.output
 cases w'
 cases w
 simp only [Sort.grow,World.drewN] at *
 subst h1; subst h2; subst h3
 congr 1
 omega
def insL {α:Type} (lt:α->α->Bool) (x:α):List α->List α
 | []=>[x]
 | y::l=>bif lt y x then y::insL lt x l else x::y::l
def zkl {α:Type} (lt:α->α->Bool):List α->List α
 | []=>[]
 | x::l=>insL lt x (zkl lt l)
def pwB {α:Type} (r:α->α->Bool):List α->Bool
 | []=>true
 | x::l=>l.all (r x)&&pwB r l
theorem zo0 {α:Type} (lt:α->α->Bool) (x:α):∀ l:List α,(insL lt x l).Perm (x::l)
 | []=>List.Perm.refl _
 | y::l=>by
  simp only [insL]
  cases lt y x with
  | true=>exact((zo0 lt x l).cons y).trans (List.Perm.swap x y l)
  | false=>exact List.Perm.refl _
theorem z0v {α:Type} (lt:α->α->Bool):∀ l:List α,(zkl lt l).Perm l
 | []=>List.Perm.refl _
 | x::l=>(zo0 lt x _).trans ((z0v lt l).cons x)
theorem y4d {α β:Type} (f:α->β) (lt:β->β->Bool):∀ l:List α,(zkl (fun a b=>lt (f a) (f b)) l).map f=zkl lt (l.map f)
 | []=>rfl
 | x::l=>by
  have ins:∀ m:List α,(insL (fun a b=>lt (f a) (f b)) x m).map f=insL lt (f x) (m.map f):=by
   intro m
   induction m with
   | nil=>rfl
   | cons y m ih=>
    simp only [insL,List.map_cons]
    cases lt (f y) (f x) with
    | true=>simp only [cond_true,List.map_cons,ih]
    | false=>rfl
  simp only [zkl,List.map_cons]
  rw [ins,y4d f lt l]
theorem znb {α:Type} {lt:α->α->Bool} (hO:Sort.SWO lt) (x:α):∀ l:List α,l.Pairwise (fun a b=>lt b a=false)->(insL lt x l).Pairwise fun a b=>lt b a=false
 | [],_=>List.pairwise_singleton _ _
 | y::l,h=>by
  rw [List.pairwise_cons] at h
  simp only [insL]
  cases hl:lt y x with
  | true=>
   simp only [cond_true,List.pairwise_cons]
   refine⟨fun z hz=>?_,znb hO x l h.2⟩
   rcases List.mem_cons.1 ((zo0 lt x l).mem_iff.1 hz) with rfl | hz
   ·cases hx:lt z y with
    | false=>rfl
    | true=>have:=hO.trans _ _ _ hl hx; rw [hO.irrefl] at this; cases this
   ·exact h.1 z hz
  | false=>
   simp only [cond_false,List.pairwise_cons]
   refine⟨fun z hz=>?_,h.1,h.2⟩
   rcases List.mem_cons.1 hz with rfl | hz
   ·exact hl
   ·exact hO.ntrans _ _ _ (h.1 z hz) hl
theorem z8e {α:Type} {lt:α->α->Bool} (hO:Sort.SWO lt):∀ l:List α,(zkl lt l).Pairwise fun a b=>lt b a=false
 | []=>List.Pairwise.nil
 | x::l=>znb hO x _ (z8e hO l)
theorem y5i {α:Type} {r:α->α->Bool} : ∀ {l:List α},pwB r l=true↔l.Pairwise fun a b=>r a b=true
 | []=>by simp [pwB]
 | x::l=>by simp [pwB,y5i (l:=l),List.all_eq_true]
theorem zx0 {α:Type} {lt:α->α->Bool} {l l1 l2:List α} (hp:l.Pairwise fun a b=>(lt a b||lt b a)=true) (h1:l1.Perm l) (h2:l2.Perm l) (s1:l1.Pairwise fun a b=>lt b a=false) (s2:l2.Pairwise fun a b=>lt b a=false):l1=l2:=by
 refine List.Perm.eq_of_pairwise (le:=fun a b=>lt b a=false) ?_ s1 s2 (h1.trans h2.symm)
 intro a b ha hb hab hba
 have ha:=h1.mem_iff.1 ha
 have hb:=h2.mem_iff.1 hb
 clear s1 s2 h1 h2
 induction l with
 | nil=>cases ha
 | cons x l ih=>
  rw [List.pairwise_cons] at hp
  rcases List.mem_cons.1 ha with rfl | ha'
  ·rcases List.mem_cons.1 hb with rfl | hb'
   ·rfl
   ·have:=hp.1 b hb'
    rw [hab,hba] at this; cases this
  ·rcases List.mem_cons.1 hb with rfl | hb'
   ·have:=hp.1 a ha'
    rw [hab,hba] at this; cases this
   ·exact ih hp.2 ha' hb'
def yb1 {α:Type} (ok:α->Bool) (cf:α->α->Int) (l:List α):Option (List α):=
 bif l.all ok&&Nat.blt l.length 4611686018427387904&&pwB (fun a b=>decide (cf a b<0)||decide (cf b a<0)) l then some (zkl (fun a b=>decide (cf a b<0)) l) else none
theorem ygd {α:Type} {ok:α->Bool} {cf:α->α->Int} {l l':List α} (h:yb1 ok cf l=some l') :
  (∀ y∈l,ok y=true)/\l.length<4611686018427387904/\(l.Pairwise fun a b=>(decide (cf a b<0)||decide (cf b a<0))=true)/\l'=zkl (fun a b=>decide (cf a b<0)) l:=by
 unfold yb1 at h
 cases hc :(l.all ok&&Nat.blt l.length 4611686018427387904&&pwB (fun a b=>decide (cf a b<0)||decide (cf b a<0)) l) with
 | false=>rw [hc] at h; cases h
 | true=>
  rw [hc] at h
  simp only [Bool.and_eq_true,Nat.blt_eq,List.all_eq_true] at hc
  exact⟨hc.1.1,hc.1.2,y5i.1 hc.2,(Option.some.inj h).symm⟩
theorem yik {α:Type} {ok:α->Bool} {cf:α->α->Int} {l:List α} (h1:∀ y∈l,ok y=true) (h2:l.length<4611686018427387904) (h3:l.Pairwise fun a b=>cf a b<0\/cf b a<0):yb1 ok cf l=some (zkl (fun a b=>decide (cf a b<0)) l):=by
 unfold yb1
 have :(l.all ok&&Nat.blt l.length 4611686018427387904&&pwB (fun a b=>decide (cf a b<0)||decide (cf b a<0)) l)=true:=by
  simp only [Bool.and_eq_true,Nat.blt_eq,List.all_eq_true]
  exact⟨⟨h1,h2⟩,y5i.2 (h3.imp fun h=>by simpa using h)⟩
 rw [this]; rfl
theorem y5r {α:Type} {ok:α->Bool} (l:List α) (hok:∀ y∈l,ok y=true) :(l.attach.map fun y=>(⟨y.1,hok y.1 y.2⟩ : {y:α // ok y=true})).map (·.1)=l:=by
 rw [List.map_map]
 conv=>rhs; rw [<- List.attach_map_subtype_val l]
 rfl
theorem ygc {V:TE} {P:Program} {ρ:Shelf.Ren} (L:Proofs.SlLaysF0.n6 P ρ) {E c g:Nat} (hag:∀ w,(isAgg (ρ.t 24)).run P w = .ok true w) (hsz:∀ w,(Go.sizeOf (ρ.t 24)).run P w = .ok (V.sz c) w) (hfl:V.fl c=true) (hagg:z7q (V.d c)=true) (hg:FnOK P g)
  {ok:V.T c->Bool} {cf:V.T c->V.T c->Int} (hO:Sort.SWO (Proofs.ltOf fun a b : {y:V.T c // ok y=true}=>cf a.1 b.1))
  (hcmp:∀ a b,ok a=true->ok b=true->zok P g [V.vl c a,V.vl c b] fun x news=>x=iv .i64 (cf a b)/\news = []):ycs V P (ρ.f 6) ⟨E,c,[g],yb1 ok cf⟩:=by
 intro l l' sv hF
 obtain⟨hok,hlen,hpw,rfl⟩:=ygd hF
 refine y7m (vs0:=[.func (.func g) #[] #[]]) (ce:=V.cv c) (fun x _=>yjd hfl x) (fun x _=>yjd hfl x) (fun x _=>yfr hfl x) (fun x _=>y3s hfl x) (fun x _=>y3s hfl x) (z0v _ _).length_eq rfl ?_ ?_
 ·intro _ p cap w
  exact Proofs.AnyF.slices_SortFunc_none L p cap _ w
 ·intro hne b cap w hlt hH
  generalize hd :(l.attach.map fun y=>(⟨y.1,hok y.1 y.2⟩ : {y:V.T c // ok y=true}))=d
  have hv:d.map (·.1)=l:=by rw [<- hd]; exact y5r _ hok
  have hd0:d≠[]:=fun e=>hne (by rw [<- hv,e]; rfl)
  obtain⟨x0,hx0⟩:=List.exists_mem_of_ne_nil d hd0
  let _:Inhabited {y:V.T c // ok y=true}:=⟨x0⟩
  have hs:d.toArray.size=l.length:=by rw [<- hv]; simp
  have eg:∀ args w,(callFunc g args).run P w = .ok (.enter g args) w:=by
   obtain⟨fn,h1,h2,h3⟩:=hg
   obtain⟨cd,h3⟩:=Option.isSome_iff_exists.1 h3
   exact Proofs.enters_of h1 h2 h3
  have hfm:∀ q:List {y:V.T c // ok y=true},q.flatMap (fun y=>V.cv c y.1) =(q.map (·.1)).flatMap (V.cv c):=fun q=>by rw [List.flatMap_map]
  have hrun:=Proofs.AnyQ.slices_SortFunc L (V.sz c) hag hsz (fun y : {y:V.T c // ok y=true}=>V.cv c y.1) (fun y=>y3s hfl y.1) (fun y=>yfr hfl y.1) (fun a b=>cf a.1 b.1) hO g #[] b 0 cap d.toArray w eg ?_ (hH _ ?_) hlt (by rw [hs]; exact hlen)
  ·rw [hs] at hrun
   refine hrun.mono ?_
   rintro e w' ⟨rfl,d',n,os,⟨k1,_,k3⟩,k4,rfl⟩
   refine⟨rfl,n,os,_,?_,rfl⟩
   rw [zx9 (e:=fun y : {y:V.T c // ok y=true}=>V.cv c y.1) (fun y=>y3s hfl y.1),hfm]
   have hdl:d'.size=l.length:=by rw [k1,hs]
   have e1:d'.extract 0 l.length=d':=by rw [<- hdl]; exact Array.extract_size
   have e2:d.toArray.extract 0 l.length=d.toArray:=by rw [<- hs]; exact Array.extract_size
   rw [e1,e2] at k3
   have k3:d'.toList.Perm d:=by simpa using k3
   have key:d'.toList=zkl (Proofs.ltOf fun a b : {y:V.T c // ok y=true}=>cf a.1 b.1) d:=by
    refine zx0 (l:=d) (lt:=Proofs.ltOf fun a b : {y:V.T c // ok y=true}=>cf a.1 b.1) ?_ k3 (z0v _ _) ?_ (z8e hO _)
    ·rw [<- hv] at hpw
     exact List.pairwise_map.1 hpw
    ·rw [List.pairwise_iff_getElem]
     intro i j hi hj hij
     have hi':i<d'.size:=by simpa using hi
     have hj':j<d'.size:=by simpa using hj
     have:=k4 i j (Nat.zero_le _) hij (by omega)
     rw [getElem!_pos d' i hi',getElem!_pos d' j hj'] at this
     simpa using this
   have hm:=y4d (fun y : {y:V.T c // ok y=true}=>y.1) (fun a b=>decide (cf a b<0)) d
   rw [hv] at hm
   rw [key,<- hm]
   rfl
  ·intro m os dk _ y z
   have hp:=hcmp y.1 z.1 y.2 z.2 (fun _=>False) (Proofs.sortWorldK (fun y : {y:V.T c // ok y=true}=>V.cv c y.1) (V.sz c) w b 0 m dk os) (#[.agg (V.cv c y.1).toArray,.agg (V.cv c z.1).toArray]++#[]) (fun _ h=>h.elim) rfl ?_
   ·refine hp.mono ?_
    rintro e w' ⟨v,u,objs,r',S',rfl,_,hw',hu,rfl,_⟩
    have hu:v = .int .i64 (cf y.1 z.1):=hu
    subst hu
    exact⟨rfl,yix hw'.below⟩
   ·intro i A hi
    have one:∀ q:V.T c,(V.vl c q).h (fun _=>False) (Proofs.sortWorldK (fun y : {y:V.T c // ok y=true}=>V.cv c y.1) (V.sz c) w b 0 m dk os) (.agg (V.cv c q).toArray):=fun q=>by
     rw [zu7 q hagg]
     refine⟨_,rfl,?_⟩
     rw [yjd hfl]
     exact zww (yfr hfl q)
    match i,hi with
    | 0,hi=>cases hi; exact one y.1
    | 1,hi=>cases hi; exact one z.1
    | i+2,hi=>simp at hi
  ·rw [zx9 (e:=fun y : {y:V.T c // ok y=true}=>V.cv c y.1) (fun y=>y3s hfl y.1),hfm,List.toList_toArray,hv]
theorem yer {α:Type} [Inhabited α] {enc:α->Value} {w:World} {b o:Nat} {d:Array α} (h:Sort.Holds id w b o (d.map enc)):Sort.Holds enc w b o d:=by
 intro j hj
 have:=h j (by simpa using hj)
 rw [getElem!_pos _ j (by simpa using hj)] at this
 rw [getElem!_pos d j hj]
 simpa using this
theorem ybb {α:Type} [Inhabited α] {enc:α->Value} {w:World} {b o:Nat} {d:Array α} : Sort.putRow enc w b o d=Sort.putRow id w b o (d.map enc):=by
 unfold Sort.putRow
 congr 1
 funext cur
 unfold Sort.putCells
 congr 1
 funext k x
 simp only [Array.size_map]
 split
 ·rename_i h
  have h1:k-o<d.size:=by omega
  rw [getElem!_pos d _ h1,getElem!_pos _ _ (by simpa using h1)]
  simp
 ·rfl
def zrx (l:List Int):Option (List Int):=if l.length<4611686018427387904 then some (zkl (fun a b=>decide (a<b)) l) else none
theorem yn4:Sort.SWO (fun a b:Int=>decide (a<b)) where
 irrefl:=fun x=>by simp
 trans:=fun x y z h1 h2=>by simp at *; omega
 ntrans:=fun x y z h1 h2=>by simp at *; omega
theorem y6h (l:List Int):l.mergeSort (fun x y=>decide (x<=y))=zkl (fun a b=>decide (a<b)) l:=by
 refine List.Perm.eq_of_pairwise (le:=fun a b:Int=>a<=b) (fun a b _ _ h1 h2=>by omega) ?_ ?_ ((List.mergeSort_perm _ _).trans (z0v _ _).symm)
 ·have:=List.pairwise_mergeSort (le:=fun x y:Int=>decide (x<=y)) (by intro a b c h1 h2; simp at *; omega) (by intro a b; simp; omega) l
  exact this.imp fun h=>by simpa using h
 ·exact(z8e yn4 l).imp fun h=>by simpa using h
theorem y3m {P:Program} {ρ:Shelf.Ren} (L:Proofs.Lays.n189 P ρ) {E:Nat} {l l':List Int} {sv:Value} (hF:zrx l=some l'):MutT P (ρ.f 189) [eqv sv] E (fun n:Int=>[iv .i64 n]) 1 l sv fun x l2=>x=eqv (.tuple #[])/\l2=l':=by
 unfold zrx at hF
 split at hF
 ·rename_i hl
  have:=Option.some.inj hF
  subst this
  have hfm:∀ q:List Int,q.flatMap (fun n=>[Value.int .i64 n])=q.map (Value.int .i64):=fun q=>by induction q with
   | nil=>rfl
   | cons x q ih=>rw [List.flatMap_cons,ih]; rfl
  refine y7m (args:=[]) (vs0:=[]) (ce:=fun n=>[.int .i64 n]) (fun x _=>rfl) (fun x _=>rfl) (fun x _ v hv=>by simp only [List.mem_singleton] at hv; subst hv; rfl) (fun x _=>rfl) (fun x _=>rfl) (z0v _ _).length_eq rfl ?_ ?_
  ·intro _ p cap w
   exact Proofs.Any.slices_Sort_int_none L p cap w
  ·intro hne b cap w hlt hH
   refine(Proofs.Any.slices_Sort_int L b 0 cap l w (yer (hH _ ?_)) hlt hl).mono ?_
   ·rw [hfm]; simp
   ·rintro e w' ⟨rfl,n,os,rfl⟩
    refine⟨rfl,n,os,_,?_,by rw [ybb]⟩
    rw [hfm,y6h]; simp
 ·cases hF
end Px
end
section
namespace Px
open Go Go.RowKit Go.ChangeShapes Go.WideShapes Go.ChangeAt
section
variable {T:Nat->Type}
def rT (g :(c:Nat)->T c->Prop) :(fs:List Nat)->Tup T fs->Prop
 | [],_=>True
 | [c],x=>g c x.1
 | c::cs,x=>g c x.1/\rT g cs x.2
def rD (g :(c:Nat)->T c->Prop) : {α:Type}->Ds T α->α->Prop
 | _,.int k,x=>RI k x
 | _,.bool,_=>True
 | _,.str,x=>x.size<=maxLen
 | _,.sl c,x=>RL (g c) x
 | _,.arr n c,x=>∀ i,i<n->g c (x i)
 | _,.st fs _ un _,x=>rT g fs (un x)
theorem ynr {g :(c:Nat)->T c->Prop} {c:Nat} : ∀ {cs:List Nat} {x:T c×Tup T cs},g c x.1->rT g cs x.2->rT g (c::cs) x
 | [],_,h,_=>h
 | _::_,_,h,k=>⟨h,k⟩
end
section
variable (V:TE) (P:Program)
def rdN:Nat->(c:Nat)->V.T c->Prop
 | 0,_,_=>True
 | n+1,c,x=>rD (rdN n) (V.d c) x
def opF (g:TypeId->Nat->Bool):List Nat->List (TypeId×Nat×Nat)->Nat->Nat->Bool
 | [],[],o,m=>Nat.beq o m
 | c::cs,(ty,off,m)::l,o,e=>Nat.beq off o&&Nat.beq m (V.sz c)&&g ty c&&opF g cs l (o+m) e
 | _,_,_,_=>false
def opD (g:TypeId->Nat->Bool) : {α:Type}->Ds V.T α->TypeId->Bool
 | _,.int k,t=>match P.underlying t with | some (.int k')=>decide (k'=k) | _=>false
 | _,.bool,t=>match P.underlying t with | some .bool=>true | _=>false
 | _,.str,t=>match P.underlying t with | some .string=>true | _=>false
 | _,.sl c,t=>match P.underlying t with | some (.slice E)=>Nat.beq (P.cellsOf E) (V.sz c)&&Nat.blt 0 (V.sz c)&&g E c | _=>false
 | _,.arr n c,t=>match P.underlying t with | some (.array N E)=>Nat.beq N n&&Nat.beq (P.cellsOf E) (V.sz c)&&Nat.beq (P.cellsOf t) (n*V.sz c)&&g E c | _=>false
 | _,.st fs _ _ _,t=>match zyj P t with | some l=>opF V g fs l 0 (P.cellsOf t) | none=>false
def opN:Nat->TypeId->Nat->Bool
 | 0,_,_=>false
 | n+1,t,c=>opD V P (opN n) (V.d c) t
def yo8 (n:Nat):List TypeId->List Nat->Bool
 | [],[]=>true
 | t::ts,c::cs=>opN V P n t c&&yo8 n ts cs
 | _,_=>false
def ymr (n:Nat) :(cs:List Nat)->Tup V.T cs->Prop
 | [],_=>True
 | c::cs,x=>rdN V n c x.1/\ymr n cs x.2
variable {V P}
theorem yks:∀(n:Nat) (t:TypeId) (c:Nat),opN V P n t c=true->Opn P t (V.sz c) (V.ev c) (rdN V n c)
 | 0,_,_,h=>by cases h
 | n+1,t,c,h=>by
  have ih:=yks n
  have hev:V.ev c=evD V.ev V.sz (V.d c):=funext fun x=>V.ev_eq c x
  have hr:rdN V (n+1) c=rD (rdN V n) (V.d c):=rfl
  rw [hev,V.sz_eq,hr]
  change opD V P (opN V P n) (V.d c) t=true at h
  revert h
  clear hev hr
  generalize V.d c=d
  revert d
  generalize V.T c=α
  intro d h
  cases d with
  | int k=>
   simp only [opD] at h
   split at h
   ·rename_i k' hu
    simp only [decide_eq_true_eq] at h
    subst h
    exact Opn.int hu
   ·cases h
  | bool=>
   simp only [opD] at h
   split at h
   ·rename_i hu; exact Opn.bool hu
   ·cases h
  | str=>
   simp only [opD] at h
   split at h
   ·rename_i hu; exact Opn.string hu
   ·cases h
  | sl c'=>
   simp only [opD] at h
   split at h
   ·rename_i E hu
    simp only [Bool.and_eq_true,Nat.blt_eq] at h
    obtain⟨⟨h1,h2⟩,h3⟩:=h
    exact Opn.slice hu (Nat.eq_of_beq_eq_true h1) h2 (ih E c' h3)
   ·cases h
  | arr m c'=>
   simp only [opD] at h
   split at h
   ·rename_i N E hu
    simp only [Bool.and_eq_true] at h
    obtain⟨⟨⟨h1,h2⟩,h3⟩,h4⟩:=h
    have h1:=Nat.eq_of_beq_eq_true h1
    subst h1
    have:Inhabited (V.T c'):=⟨V.z c'⟩
    exact Opn.array hu (Nat.eq_of_beq_eq_true h2) (Nat.eq_of_beq_eq_true h3) rfl (ih E c' h4)
   ·cases h
  | st fs mk un law=>
   simp only [opD] at h
   split at h
   ·rename_i l hl
    intro H enc w sp held fuel cs x hx
    obtain⟨hlen,m,hf⟩:=y6d hl hx
    have key:∀(fs:List Nat) (l':List (TypeId×Nat×Nat)) (o:Nat),opF V (opN V P n) fs l' o (P.cellsOf t)=true->(∀(i:Nat) (ty:TypeId) (off m':Nat),l'[i]? = some (ty,off,m')->∃ y,DataW.trod enc P w 0 sp held m ty ((cs.drop off).take m')=some y)->
      o+fs.foldr (fun c s=>V.sz c+s) 0=P.cellsOf t/\∃ y:Tup V.T fs,rT (rdN V n) fs y/\zo (fun b=>b<w.heap.size) w (evT V.ev fs y) (cs.drop o):=by
     intro fs
     induction fs with
     | nil=>
      intro l' o h hf
      cases l' with
      | nil=>
       have:=Nat.eq_of_beq_eq_true h
       subst this
       exact⟨rfl,(),trivial,zo.tile0 hlen⟩
      | cons a l'=>cases h
     | cons c cs' ihf=>
      intro l' o h hf
      cases l' with
      | nil=>cases h
      | cons a l'=>
       obtain⟨ty,off,m'⟩:=a
       simp only [opF,Bool.and_eq_true] at h
       obtain⟨⟨⟨h1,h2⟩,h3⟩,h4⟩:=h
       have h1:=Nat.eq_of_beq_eq_true h1
       have h2:=Nat.eq_of_beq_eq_true h2
       subst h1; subst h2
       obtain⟨y0,hy0⟩:=hf 0 _ _ _ rfl
       obtain⟨_,y,hR,hc⟩:=ih ty c h3 _ _ _ _ _ _ _ _ hy0
       obtain⟨he,z,hz,hcz⟩:=ihf l' _ h4 (fun i ty off m' hi=>hf (i+1) ty off m' hi)
       refine⟨by simp only [List.foldr_cons]; omega,(y,z),ynr hR hz,?_⟩
       exact zo.tile hc hcz
    obtain⟨he,y,hy,hc⟩:=key fs l 0 h hf
    rw [List.drop_zero] at hc
    refine⟨by rw [hlen,<- he,Nat.zero_add]; rfl,mk y,?_,?_⟩
    ·show rT _ fs (un (mk y))
     rw [law]; exact hy
    ·show zo _ _ (evT V.ev fs (un (mk y))) cs
     rw [law]; exact hc
   ·cases h
theorem yox {H:Type} {enc:TypeId×Value->H} {W:World} {sp:Nat->Bool} {held:Bool} {base n:Nat} {t:TypeId} {c:Nat} {v:Value} {d:DataW H} {p:List MemPlace}
  (ho:opN V P n t c=true) (hv:Value.okWide P W .any base t v) (h:DataW.Trod enc P W 0 sp held t v d p):∃ y,rdN V n c y/\(V.vl c y).h (fun b=>b<W.heap.size) W v:=by
 cases n with
 | zero=>cases ho
 | succ n=>
 obtain⟨fuel,hf⟩:=h
 obtain⟨_,y,hR,hc⟩:=yks _ _ _ ho _ _ _ _ _ _ _ _ hf
 refine⟨y,hR,?_⟩
 change opD V P (opN V P n) (V.d c) t=true at ho
 unfold Value.okWide at hv
 cases ha:z7q (V.d c) with
 | true=>
  rw [zu7 y ha]
  have hs:∃ cs,v = .agg cs:=by
   revert ho ha
   generalize V.d c=d
   generalize V.T c=α at d
   intro ho ha
   cases d with
   | arr m c'=>
    simp only [opD] at ho
    split at ho
    ·rename_i N E hu
     rw [hu] at hv
     obtain⟨cs,rfl,_⟩:=hv
     exact⟨cs,rfl⟩
    ·cases ho
   | st fs mk un law=>
    simp only [opD,zyj] at ho
    cases hu:P.underlying t with
    | none=>rw [hu] at ho; cases ho
    | some X=>
     rw [hu] at ho hv
     cases X with
     | struct fs'=>obtain⟨cs,rfl,_⟩:=hv; exact⟨cs,rfl⟩
     | _=>cases ho
   | _=>cases ha
  obtain⟨cs,rfl⟩:=hs
  exact⟨cs,rfl,hc⟩
 | false=>
  rw [ztg y ha] at hc
  have hcell:v.cells.toList = [v]:=by
   revert ho ha
   generalize V.d c=d
   generalize V.T c=α at d
   intro ho ha
   cases d with
   | int k=>
    simp only [opD] at ho
    split at ho
    ·rename_i k' hu
     rw [hu] at hv
     cases v <;> first | rfl |(exfalso; simp [Cell.okWide,Cell.ok,hu] at hv)
    ·cases ho
   | bool=>
    simp only [opD] at ho
    split at ho
    ·rename_i hu
     rw [hu] at hv
     cases v <;> first | rfl |(exfalso; simp [Cell.okWide,Cell.ok,hu] at hv)
    ·cases ho
   | str=>
    simp only [opD] at ho
    split at ho
    ·rename_i hu
     rw [hu] at hv
     cases v <;> first | rfl |(exfalso; simp [Cell.okWide,Cell.ok,hu] at hv)
    ·cases ho
   | sl c'=>
    simp only [opD] at ho
    split at ho
    ·rename_i E hu
     rw [hu] at hv
     cases v <;> first | rfl |(exfalso; simp [Cell.okWide,Cell.ok,hu] at hv)
    ·cases ho
   | arr m c'=>cases ha
   | st fs mk un law=>cases ha
  rw [hcell] at hc
  obtain⟨u,hu',hA,_⟩:=hc.2 0 (V.vl c y) rfl
  simp at hu'
  subst hu'
  exact hA
theorem ybf {H:Type} {enc:TypeId×Value->H} {W:World} {sp:Nat->Bool} {held:Bool} {base n:Nat} : ∀ {ts:List TypeId} {cs:List Nat} {vs:List Value} {ds:List (DataW H)} {ps:List MemPlace},
  yo8 V P n ts cs=true->DataW.TrodAll enc P W 0 sp held ts vs ds ps->(∀(j:Nat) t v,ts[j]? = some t->vs[j]? = some v->Value.okWide P W .any base t v)->
  vs.length=cs.length/\∃ x:Tup V.T cs,ymr V n cs x/\∀(i:Nat) (A:VP),(vls V cs x)[i]? = some A->A.h (fun b=>b<W.heap.size) W (vs.getD i undef)
 | [],[],vs,ds,ps,_,h,_=>by
  cases vs with
  | nil=>exact⟨rfl,(),trivial,fun i A hi=>by simp [vls] at hi⟩
  | cons v vs=>cases ds <;> exact h.elim
 | t::ts,c::cs,vs,ds,ps,ho,h,hv=>by
  simp only [yo8,Bool.and_eq_true] at ho
  cases vs with
  | nil=>cases ds <;> exact h.elim
  | cons v vs=>
   cases ds with
   | nil=>exact h.elim
   | cons d ds=>
    obtain⟨p,q,h1,h2,_⟩:=h
    obtain⟨y,hR,hA⟩:=yox ho.1 (hv 0 t v rfl rfl) h1
    obtain⟨hl,x,hx,hxs⟩:=ybf ho.2 h2 (fun j t v ht hvj=>hv (j+1) t v ht hvj)
    refine⟨by simp [hl],(y,x),⟨hR,hx⟩,fun i A hi=>?_⟩
    cases i with
    | zero=>simp only [vls,List.getElem?_cons_zero,Option.some.injEq] at hi; subst hi; exact hA
    | succ i=>simp only [vls,List.getElem?_cons_succ] at hi; simpa using hxs i A hi
 | [],_::_,_,_,_,ho,_,_=>by cases ho
 | _::_,[],_,_,_,ho,_,_=>by cases ho
theorem zu9 {H:Type} {enc:TypeId×Value->H} {P:Program} {W:World} {b:Nat} {sp:Nat->Bool} {held:Bool} : ∀ {ts:List TypeId} {vs:List Value} {ds:List (DataW H)} {ps:List MemPlace},DataW.TrodAll enc P W b sp held ts vs ds ps->ds.length=ts.length
 | [],[],[],_,_=>rfl
 | t::ts,v::vs,d::ds,ps,⟨p,q,_,h,_⟩=>by simp [zu9 h]
 | [],_::_,_,_,h=>h.elim
 | [],[],_::_,_,h=>h.elim
 | _::_,[],_,_,h=>h.elim
 | _::_,_::_,[],_,h=>h.elim
theorem yeo:∀(cs:List Nat) (x:Tup V.T cs),(vls V cs x).length=cs.length
 | [],_=>rfl
 | c::cs,x=>by simp only [vls,List.length_cons,yeo cs]
theorem yqv {f:FuncId} {sp:Fsp V} {W:World} {vs:Array Value} {x:Tup V.T sp.args} {r:RTup V.T sp.res} (hf:zz V P f sp) (hr:sp.F x=some r) (hres:∀ B:Asg,(resV V (encR V 0 sp.res r)).den V P B=bv true) (hno:newR V sp.res r = [])
  (hl:vs.toList.length=sp.args.length) (hA:∀(i:Nat) (A:VP),(vls V sp.args x)[i]? = some A->A.h (fun b=>b<W.heap.size) W (vs.toList.getD i undef)):Calls P f vs W (fun e W'=>e = .returned (.bool true)/\Below W.heap.size W W'):=by
 refine ye6 (As:=vls V sp.args x) ((hf x r hr).mono ?_) (by rw [yeo]; simpa using hl) (fun i A hi=>?_)
 ·rintro y news ⟨B,hB,rfl,rfl⟩
  rw [hno] at hB ⊢
  refine⟨hres B,?_⟩
  cases B <;> rfl
 ·have:=hA i A hi
  simpa [Array.getD_eq_getD_getElem?,List.getD_eq_getElem?_getD] using this
end
theorem z06.same {R:Type} {x:Option R} {n:Nat} {y:Option (List (Option R))} (h:y=some (List.replicate n x)):z06 x y:=
 ⟨fun r hr=>⟨_,h,fun a ha=>by rw [(List.mem_replicate.1 ha).2,hr]⟩⟩
theorem z06.ck {R:Type} {p:Prop} [Decidable p] {x:Option R} {y:Option (List (Option R))} (h:z06 x y):z06 (Px.ck p x) (Px.ck p y):=
 ⟨fun r hr=>by
  unfold Px.ck at *
  split at hr
  ·rename_i hp; simp only [if_pos hp]; exact h.ok r hr
  ·cases hr⟩
theorem z06.bind {R α:Type} {m:Option α} {f:α->Option R} {g:α->Option (List (Option R))} (h:∀ a,z06 (f a) (g a)):z06 (m.bind f) (m.bind g):=
 ⟨fun r hr=>by
  cases m with
  | none=>cases hr
  | some a=>exact(h a).ok r hr⟩
theorem z06.one {R:Type} {x:Option R} : z06 x (some [x]):=⟨fun r hr=>⟨_,rfl,fun a ha=>by rw [List.mem_singleton.1 ha,hr]⟩⟩
theorem z06.nil {R:Type} {x:Option R} : z06 x (catL []):=⟨fun r hr=>⟨[],rfl,fun a ha=>by cases ha⟩⟩
theorem z06.cons {R:Type} {x:Option R} {y:Option (List (Option R))} {l:List (Option (List (Option R)))} (h:z06 x y) (hl:z06 x (catL l)):z06 x (catL (y::l)):=
 ⟨fun r hr=>by
  obtain⟨a,ha,h1⟩:=h.ok r hr
  obtain⟨b,hb,h2⟩:=hl.ok r hr
  refine⟨a++b,by simp only [catL,ha,hb,cat2],fun z hz=>?_⟩
  rcases List.mem_append.1 hz with hz | hz
  ·exact h1 z hz
  ·exact h2 z hz⟩
end Px
end
section
set_option maxHeartbeats 4000000
set_option maxRecDepth 100000
namespace Px
open Go Go.RowKit
def z03:ByteArray:=⟨#[0,1,2,2,3,3,3,3,4,4,4,4,4,4,4,4,5,5,5,5,5,5,5,5,5,5,5,5,5,5,5,5,6,6,6,6,6,6,6,6,6,6,6,6,6,6,6,6,6,6,6,6,6,6,6,6,6,6,6,6,6,6,6,6,7,7,7,7,7,7,7,7,7,7,7,7,7,7,7,7,7,7,7,7,7,7,7,7,7,7,7,7,7,7,7,7,7,7,7,7,7,7,7,7,7,7,7,7,7,7,7,7,7,7,7,7,7,7,7,7,7,7,7,7,7,7,7,7,8,8,8,8,8,8,8,8,8,8,8,8,8,8,8,8,8,8,8,8,8,8,8,8,8,8,8,8,8,8,8,8,8,8,8,8,8,8,8,8,8,8,8,8,8,8,8,8,8,8,8,8,8,8,8,8,8,8,8,8,8,8,8,8,8,8,8,8,8,8,8,8,8,8,8,8,8,8,8,8,8,8,8,8,8,8,8,8,8,8,8,8,8,8,8,8,8,8,8,8,8,8,8,8,8,8,8,8,8,8,8,8,8,8,8,8,8,8,8,8,8,8,8,8,8,8,8,8]⟩
def z0c:ByteArray:=⟨#[119,112,111,110,102,116,99,100,107,103,97]⟩
def zkj:ByteArray:=⟨#[119,111,102]⟩
def zdv:ByteArray:=⟨#[119,112,102,116]⟩
def z6e:ByteArray:=⟨#[119,112,111,102,99]⟩
def zmv:ByteArray:=⟨#[110,119,111,112,100,107,103,102]⟩
def zeq:ByteArray:=⟨#[119,112,111,102]⟩
def zmq:ByteArray:=⟨#[119,102,99]⟩
def zmu:ByteArray:=⟨#[119,112,102,116,99,97,113]⟩
def zto:ByteArray:=⟨#[111,113]⟩
def zky:ByteArray:=⟨#[110,102,120]⟩
def zu8:ByteArray:=⟨#[110,102]⟩
def zmx:ByteArray:=⟨#[111,112,107,110,103,102,116,97]⟩
structure Ref where
 railway:Int
 no:Int
instance:Inhabited Ref:=⟨⟨0,0⟩⟩
structure z19 where
 wagon:Int
 place:Int
 ref:Ref
 stay:Bool
 early:Int
 late:Int
instance:Inhabited z19:=⟨⟨0,0,default,false,0,0⟩⟩
structure z6 where
 visit:z19
 report:Int
 second:Bool
 stay:Bool
 reader:Int
instance:Inhabited z6:=⟨⟨default,0,false,false,0⟩⟩
structure z6v where
 kind:Int
 railway:Int
 other:Int
instance:Inhabited z6v:=⟨⟨0,0,0⟩⟩
structure Edge where
 a:Int
 b:Int
 railway:Int
 minutes:Int
 km:Int
instance:Inhabited Edge:=⟨⟨0,0,0,0,0⟩⟩
structure zc where
 places :(List z6v)
 edges :(List Edge)
instance:Inhabited zc:=⟨⟨[],[]⟩⟩
structure z1p where
 load:Int
 tare:Int
 length:Int
 gauge:Int
 brake:Int
 classes:Int
 life:Int
 floor:Int
instance:Inhabited z1p:=⟨⟨0,0,0,0,0,0,0,0⟩⟩
structure zn7 where
 type_:Int
 owner:Int
 home:Int
 built:Int
 worth:Int
instance:Inhabited zn7:=⟨⟨0,0,0,0,0⟩⟩
structure Swap where
 wanted:Int
 given:Int
 cost:Int
instance:Inhabited Swap:=⟨⟨0,0,0⟩⟩
structure Wash where
 from_:Int
 to:Int
 minutes:Int
instance:Inhabited Wash:=⟨⟨0,0,0⟩⟩
structure zbf where
 types :(List z1p)
 wagons :(List zn7)
 swaps :(List Swap)
 washes :(List Wash)
instance:Inhabited zbf:=⟨⟨[],[],[],[]⟩⟩
structure z15 where
 place:Int
 low:Int
 high:Int
instance:Inhabited z15:=⟨⟨0,0,0⟩⟩
structure zaj where
 place:Int
instance:Inhabited zaj:=⟨⟨0⟩⟩
structure Span where
 from_:Int
 to:Int
instance:Inhabited Span:=⟨⟨0,0⟩⟩
structure z4w where
 open_ :(Nat->Span)
 holidays :(List Int)
instance:Inhabited z4w:=⟨⟨fun _=>default,[]⟩⟩
structure z1h where
 key:Int
 calendar:z4w
instance:Inhabited z1h:=⟨⟨0,default⟩⟩
structure Pool where
 network:zc
 fleet:zbf
 readers :(List z15)
 shippers :(List zaj)
 railways :(List z1h)
instance:Inhabited Pool:=⟨⟨default,default,[],[],[]⟩⟩
structure Part where
 kind:Int
 serial:Int
 fitted:Bool
instance:Inhabited Part:=⟨⟨0,0,false⟩⟩
structure Item where
 kind:Int
 ref:Ref
 wagon:Int
 place:Int
 other:Int
 number:Int
 from_:Int
 to:Int
 code:Int
 dest:Int
 class_:Int
 weight:Int
 amount:Int
 text:ByteArray
 parts :(List Part)
instance:Inhabited Item:=⟨⟨0,default,0,0,0,0,0,0,0,0,0,0,0,⟨#[]⟩,[]⟩⟩
structure z8 where
 ref:Ref
 by_:Ref
 time:Int
 item:Item
instance:Inhabited z8:=⟨⟨default,default,0,default⟩⟩
structure zg where
 p:Pool
 it:Item
 ok:Bool
instance:Inhabited zg:=⟨⟨default,default,false⟩⟩
structure zb where
 i:Int
 j:Int
 w:Int
instance:Inhabited zb:=⟨⟨0,0,0⟩⟩
structure z0o where
 wagon:Int
 place:Int
 var:Int
 ref:Ref
 stay:Bool
instance:Inhabited z0o:=⟨⟨0,0,0,default,false⟩⟩
structure z0p where
 vars:Int
 bounds :(List zb)
 why :(List (Nat->Ref))
 events :(List z0o)
instance:Inhabited z0p:=⟨⟨0,[],[],[]⟩⟩
structure zin where
 problem:z0p
instance:Inhabited zin:=⟨⟨default⟩⟩
structure za where
 place:Int
 time:Int
 ref:Ref
 second:Bool
 from_:Int
 stay:Bool
 reader:Int
 covers:Bool
instance:Inhabited za:=⟨⟨0,0,default,false,0,false,0,false⟩⟩
def TT:Nat->Type
 | 0=>Int
 | 1=>Ref
 | 2=>Bool
 | 3=>z19
 | 4=>z6
 | 5=>(List Int)
 | 6=>Int
 | 7=>z6v
 | 8=>(List z6v)
 | 9=>Edge
 | 10=>(List Edge)
 | 11=>zc
 | 12=>z1p
 | 13=>(List z1p)
 | 14=>zn7
 | 15=>(List zn7)
 | 16=>Swap
 | 17=>(List Swap)
 | 18=>Wash
 | 19=>(List Wash)
 | 20=>zbf
 | 21=>z15
 | 22=>(List z15)
 | 23=>zaj
 | 24=>(List zaj)
 | 25=>Span
 | 26=>(Nat->Span)
 | 27=>z4w
 | 28=>z1h
 | 29=>(List z1h)
 | 30=>Pool
 | 31=>ByteArray
 | 32=>Part
 | 33=>(List Part)
 | 34=>Item
 | 35=>z8
 | 36=>(Nat->Bool)
 | 37=>zg
 | 38=>(List z8)
 | 39=>(List z6)
 | 40=>(List (List z6))
 | 41=>(Nat->Int)
 | 42=>zb
 | 43=>(List zb)
 | 44=>(Nat->Ref)
 | 45=>(List (Nat->Ref))
 | 46=>z0o
 | 47=>(List z0o)
 | 48=>z0p
 | 49=>zin
 | 50=>Int
 | 51=>(List Ref)
 | 52=>Int
 | 53=>za
 | 54=>(List za)
 | 55=>(List Bool)
 | _=>Unit
def TD :(c:Nat)->Ds TT (TT c)
 | 0=>.int .i64
 | 1=>.st [0,0] (fun t=>⟨t.1,t.2.1⟩) (fun x=>(x.railway,x.no,())) (fun _=>rfl)
 | 2=>.bool
 | 3=>.st [0,0,1,2,0,0] (fun t=>⟨t.1,t.2.1,t.2.2.1,t.2.2.2.1,t.2.2.2.2.1,t.2.2.2.2.2.1⟩) (fun x=>(x.wagon,x.place,x.ref,x.stay,x.early,x.late,())) (fun _=>rfl)
 | 4=>.st [3,0,2,2,0] (fun t=>⟨t.1,t.2.1,t.2.2.1,t.2.2.2.1,t.2.2.2.2.1⟩) (fun x=>(x.visit,x.report,x.second,x.stay,x.reader,())) (fun _=>rfl)
 | 5=>.sl 0
 | 6=>.int .u64
 | 7=>.st [0,0,0] (fun t=>⟨t.1,t.2.1,t.2.2.1⟩) (fun x=>(x.kind,x.railway,x.other,())) (fun _=>rfl)
 | 8=>.sl 7
 | 9=>.st [0,0,0,0,0] (fun t=>⟨t.1,t.2.1,t.2.2.1,t.2.2.2.1,t.2.2.2.2.1⟩) (fun x=>(x.a,x.b,x.railway,x.minutes,x.km,())) (fun _=>rfl)
 | 10=>.sl 9
 | 11=>.st [8,10] (fun t=>⟨t.1,t.2.1⟩) (fun x=>(x.places,x.edges,())) (fun _=>rfl)
 | 12=>.st [0,0,0,0,0,6,0,0] (fun t=>⟨t.1,t.2.1,t.2.2.1,t.2.2.2.1,t.2.2.2.2.1,t.2.2.2.2.2.1,t.2.2.2.2.2.2.1,t.2.2.2.2.2.2.2.1⟩) (fun x=>(x.load,x.tare,x.length,x.gauge,x.brake,x.classes,x.life,x.floor,())) (fun _=>rfl)
 | 13=>.sl 12
 | 14=>.st [0,0,0,0,0] (fun t=>⟨t.1,t.2.1,t.2.2.1,t.2.2.2.1,t.2.2.2.2.1⟩) (fun x=>(x.type_,x.owner,x.home,x.built,x.worth,())) (fun _=>rfl)
 | 15=>.sl 14
 | 16=>.st [0,0,0] (fun t=>⟨t.1,t.2.1,t.2.2.1⟩) (fun x=>(x.wanted,x.given,x.cost,())) (fun _=>rfl)
 | 17=>.sl 16
 | 18=>.st [0,0,0] (fun t=>⟨t.1,t.2.1,t.2.2.1⟩) (fun x=>(x.from_,x.to,x.minutes,())) (fun _=>rfl)
 | 19=>.sl 18
 | 20=>.st [13,15,17,19] (fun t=>⟨t.1,t.2.1,t.2.2.1,t.2.2.2.1⟩) (fun x=>(x.types,x.wagons,x.swaps,x.washes,())) (fun _=>rfl)
 | 21=>.st [0,0,0] (fun t=>⟨t.1,t.2.1,t.2.2.1⟩) (fun x=>(x.place,x.low,x.high,())) (fun _=>rfl)
 | 22=>.sl 21
 | 23=>.st [0] (fun t=>⟨t.1⟩) (fun x=>(x.place,())) (fun _=>rfl)
 | 24=>.sl 23
 | 25=>.st [0,0] (fun t=>⟨t.1,t.2.1⟩) (fun x=>(x.from_,x.to,())) (fun _=>rfl)
 | 26=>.arr 7 25
 | 27=>.st [26,5] (fun t=>⟨t.1,t.2.1⟩) (fun x=>(x.open_,x.holidays,())) (fun _=>rfl)
 | 28=>.st [6,27] (fun t=>⟨t.1,t.2.1⟩) (fun x=>(x.key,x.calendar,())) (fun _=>rfl)
 | 29=>.sl 28
 | 30=>.st [11,20,22,24,29] (fun t=>⟨t.1,t.2.1,t.2.2.1,t.2.2.2.1,t.2.2.2.2.1⟩) (fun x=>(x.network,x.fleet,x.readers,x.shippers,x.railways,())) (fun _=>rfl)
 | 31=>.str
 | 32=>.st [0,0,2] (fun t=>⟨t.1,t.2.1,t.2.2.1⟩) (fun x=>(x.kind,x.serial,x.fitted,())) (fun _=>rfl)
 | 33=>.sl 32
 | 34=>.st [0,1,0,0,0,0,0,0,0,0,0,0,0,31,33] (fun t=>⟨t.1,t.2.1,t.2.2.1,t.2.2.2.1,t.2.2.2.2.1,t.2.2.2.2.2.1,t.2.2.2.2.2.2.1,t.2.2.2.2.2.2.2.1,t.2.2.2.2.2.2.2.2.1,t.2.2.2.2.2.2.2.2.2.1,t.2.2.2.2.2.2.2.2.2.2.1,t.2.2.2.2.2.2.2.2.2.2.2.1,t.2.2.2.2.2.2.2.2.2.2.2.2.1,t.2.2.2.2.2.2.2.2.2.2.2.2.2.1,t.2.2.2.2.2.2.2.2.2.2.2.2.2.2.1⟩) (fun x=>(x.kind,x.ref,x.wagon,x.place,x.other,x.number,x.from_,x.to,x.code,x.dest,x.class_,x.weight,x.amount,x.text,x.parts,())) (fun _=>rfl)
 | 35=>.st [1,1,0,34] (fun t=>⟨t.1,t.2.1,t.2.2.1,t.2.2.2.1⟩) (fun x=>(x.ref,x.by_,x.time,x.item,())) (fun _=>rfl)
 | 36=>.arr 4096 2
 | 37=>.st [30,34,2] (fun t=>⟨t.1,t.2.1,t.2.2.1⟩) (fun x=>(x.p,x.it,x.ok,())) (fun _=>rfl)
 | 38=>.sl 35
 | 39=>.sl 4
 | 40=>.sl 39
 | 41=>.arr 2 0
 | 42=>.st [0,0,0] (fun t=>⟨t.1,t.2.1,t.2.2.1⟩) (fun x=>(x.i,x.j,x.w,())) (fun _=>rfl)
 | 43=>.sl 42
 | 44=>.arr 2 1
 | 45=>.sl 44
 | 46=>.st [0,0,0,1,2] (fun t=>⟨t.1,t.2.1,t.2.2.1,t.2.2.2.1,t.2.2.2.2.1⟩) (fun x=>(x.wagon,x.place,x.var,x.ref,x.stay,())) (fun _=>rfl)
 | 47=>.sl 46
 | 48=>.st [0,43,45,47] (fun t=>⟨t.1,t.2.1,t.2.2.1,t.2.2.2.1⟩) (fun x=>(x.vars,x.bounds,x.why,x.events,())) (fun _=>rfl)
 | 49=>.st [48] (fun t=>⟨t.1⟩) (fun x=>(x.problem,())) (fun _=>rfl)
 | 50=>.int .u32
 | 51=>.sl 1
 | 52=>.int .u8
 | 53=>.st [0,0,1,2,0,2,0,2] (fun t=>⟨t.1,t.2.1,t.2.2.1,t.2.2.2.1,t.2.2.2.2.1,t.2.2.2.2.2.1,t.2.2.2.2.2.2.1,t.2.2.2.2.2.2.2.1⟩) (fun x=>(x.place,x.time,x.ref,x.second,x.from_,x.stay,x.reader,x.covers,())) (fun _=>rfl)
 | 54=>.sl 53
 | 55=>.sl 2
 | _+56=>.st [] (fun _=>()) (fun _=>()) (fun _=>rfl)
def TZ :(c:Nat)->TT c
 | 0=>(default:Int)
 | 1=>(default:Ref)
 | 2=>(default:Bool)
 | 3=>(default:z19)
 | 4=>(default:z6)
 | 5=>(default :(List Int))
 | 6=>(default:Int)
 | 7=>(default:z6v)
 | 8=>(default :(List z6v))
 | 9=>(default:Edge)
 | 10=>(default :(List Edge))
 | 11=>(default:zc)
 | 12=>(default:z1p)
 | 13=>(default :(List z1p))
 | 14=>(default:zn7)
 | 15=>(default :(List zn7))
 | 16=>(default:Swap)
 | 17=>(default :(List Swap))
 | 18=>(default:Wash)
 | 19=>(default :(List Wash))
 | 20=>(default:zbf)
 | 21=>(default:z15)
 | 22=>(default :(List z15))
 | 23=>(default:zaj)
 | 24=>(default :(List zaj))
 | 25=>(default:Span)
 | 26=>(default :(Nat->Span))
 | 27=>(default:z4w)
 | 28=>(default:z1h)
 | 29=>(default :(List z1h))
 | 30=>(default:Pool)
 | 31=>(default:ByteArray)
 | 32=>(default:Part)
 | 33=>(default :(List Part))
 | 34=>(default:Item)
 | 35=>(default:z8)
 | 36=>(default :(Nat->Bool))
 | 37=>(default:zg)
 | 38=>(default :(List z8))
 | 39=>(default :(List z6))
 | 40=>(default :(List (List z6)))
 | 41=>(default :(Nat->Int))
 | 42=>(default:zb)
 | 43=>(default :(List zb))
 | 44=>(default :(Nat->Ref))
 | 45=>(default :(List (Nat->Ref)))
 | 46=>(default:z0o)
 | 47=>(default :(List z0o))
 | 48=>(default:z0p)
 | 49=>(default:zin)
 | 50=>(default:Int)
 | 51=>(default :(List Ref))
 | 52=>(default:Int)
 | 53=>(default:za)
 | 54=>(default :(List za))
 | 55=>(default :(List Bool))
 | _+56=>()
def TC (t:Nat):Nat:=(lk [(2,0),(3,0),(4,2),(5,52),(6,52),(9,31),(10,31),(11,31),(12,6),(22,8),(23,10),(25,11),(26,13),(27,15),(28,17),(29,19),(31,20),(32,22),(33,24),(34,29),(36,30),(37,38),(40,0),(43,51),(50,55),(56,1),(57,33),(59,34),(61,35),(62,5),(64,43),(65,45),(66,47),(68,48),(73,44),(87,40),(91,49),(93,39),(95,3),(97,4),(99,21),(103,42),(105,46),(112,9),(114,25),(115,26),(117,27),(118,6),(120,28),(126,54),(136,23),(138,7),(140,14),(155,12),(160,53),(172,16),(174,36),(176,18),(182,6),(198,32),(202,0),(209,50),(210,41),(225,37),(230,6),(262,52),(263,52)] t).getD 56
def TV:TE:=⟨TT,TD,TZ,TC,fun c=>match c with | 0=>rfl | 1=>rfl | 2=>rfl | 3=>rfl | 4=>rfl | 5=>rfl | 6=>rfl | 7=>rfl | 8=>rfl | 9=>rfl | 10=>rfl | 11=>rfl | 12=>rfl | 13=>rfl | 14=>rfl | 15=>rfl | 16=>rfl | 17=>rfl | 18=>rfl | 19=>rfl | 20=>rfl | 21=>rfl | 22=>rfl | 23=>rfl | 24=>rfl | 25=>rfl | 26=>rfl | 27=>rfl | 28=>rfl | 29=>rfl | 30=>rfl | 31=>rfl | 32=>rfl | 33=>rfl | 34=>rfl | 35=>rfl | 36=>rfl | 37=>rfl | 38=>rfl | 39=>rfl | 40=>rfl | 41=>rfl | 42=>rfl | 43=>rfl | 44=>rfl | 45=>rfl | 46=>rfl | 47=>rfl | 48=>rfl | 49=>rfl | 50=>rfl | 51=>rfl | 52=>rfl | 53=>rfl | 54=>rfl | 55=>rfl | _+56=>rfl⟩
def cmpI (a b:Int):Int:=if a<b then -1 else if b<a then 1 else 0
def ordB (b:Bool):Int:=if b=true then 1 else 0
def or5 (a b c d e:Int):Int:=if a≠0 then a else if b≠0 then b else if c≠0 then c else if d≠0 then d else e
def cfEv (a b:z6):Int:=or5 (cmpI a.visit.early b.visit.early) (cmpI a.visit.ref.railway b.visit.ref.railway) (cmpI a.visit.ref.no b.visit.ref.no) (ordB a.second-ordB b.second) (a.report-b.report)
def okEv (e:z6):Bool:=decide (0<=e.report/\e.report<1000000)
def sortEv (l:List z6):Option (List z6):=yb1 okEv cfEv l
def zxn (l:List Int):Option (List Int):=zrx l
def z5l (φ:Nat) (x1:Int) (x2:Int):Option (Int×Unit):=(if((x1:Int) !=x1)=true then(if((x2:Int) !=x2)=true then(some (0,())) else(some ((-1),()))) else(if((x2:Int) !=x2)=true then(some (1,())) else(if(decide ((x1:Int)<x2))=true then(some ((-1),())) else(if(decide ((x2:Int)<x1))=true then(some (1,())) else(some (0,()))))))
def zcj (φ:Nat):Fsp TV:=⟨[0,0],[.val 0],fun z=>z5l φ z.1 z.2.1⟩
def zdk (φ:Nat) (x1:Bool):Option (Int×Unit):=(if x1=true then(some (1,())) else(some (0,())))
def zi0 (φ:Nat):Fsp TV:=⟨[2],[.val 0],fun z=>zdk φ z.1⟩
def zbr (φ:Nat):Nat->Int->(List Int)->Int->Int->Option (Int×Unit)
 | 0,_,_,_,_=>none
 | n6+1,x2,x3,x4,x5=>(if(decide ((x5:Int)<x4))=true then(ck ((0:Int)<=x5/\x5 <(x3.length:Int)) (if(((gt x3 x5):Int) !=x2)=true then(some ((gt x3 x5),())) else((zbr φ n6) x2 x3 x4 (W (x5+1))))) else(some (x2,())))
def zth (φ:Nat) (x1 :(List Int)):Option (Int×Unit):=(zbr φ φ 0 x1 (x1.length:Int) 0)
def zry (φ:Nat):Fsp TV:=⟨[5],[.val 0],fun z=>zth φ z.1⟩
def zba (φ:Nat) (x1:z6) (x2:z6):Option (Int×Unit):=((z5l φ x1.visit.early x2.visit.early).bind fun y3=>((z5l φ x1.visit.ref.railway x2.visit.ref.railway).bind fun y4=>((z5l φ x1.visit.ref.no x2.visit.ref.no).bind fun y5=>((zdk φ x1.second).bind fun y6=>((zdk φ x2.second).bind fun y7=>((zth φ ([y3.1,y4.1,y5.1,(W (y6.1-y7.1)),(W (x1.report-x2.report))])).bind fun y8=>(some (y8.1,()))))))))
def zj8 (φ:Nat):Fsp TV:=⟨[4,4],[.val 0],fun z=>zba φ z.1 z.2.1⟩
def z8y (φ:Nat) (k8 :(Int->Int->Int->Int->Option (Int×Unit))) (x9:Int) (x10:Int) (x11:Int) (x12:Int):Option (Int×Unit):=(ck (x11≠0) (if(2:Int)≠0 then(k8 ((((U (x9+x9)):Int).tmod x11)) (U ((x10:Int).tdiv 2)) x11 x12) else none))
def z3d (φ:Nat):Nat->Int->Int->Int->Int->Option (Int×Unit)
 | 0,_,_,_,_=>none
 | n8+1,x4,x5,x6,x7=>(if(decide ((0:Int)<x5))=true then(if(2:Int)≠0 then(if((((x5:Int).tmod 2):Int)==1)=true then(ck (x6≠0) (z8y φ (z3d φ n8) x4 x5 x6 ((((U (x7+x4)):Int).tmod x6)))) else(z8y φ (z3d φ n8) x4 x5 x6 x7)) else none) else(some (x7,())))
def zed (φ:Nat) (x1:Int) (x2:Int) (x3:Int):Option (Int×Unit):=(z3d φ φ x1 x2 x3 0)
def zi3 (φ:Nat):Fsp TV:=⟨[6,6,6],[.val 6],fun z=>zed φ z.1 z.2.1 z.2.2.1⟩
def zd4 (φ:Nat) (k6 :(Int->Int->Int->Option (Int×Unit))) (x7:Int) (x8:Int) (x9:Int):Option (Int×Unit):=((zed φ x7 x7 2305843009213690799).bind fun y11=>(if(2:Int)≠0 then(k6 y11.1 (U ((x8:Int).tdiv 2)) x9) else none))
def z5g (φ:Nat):Nat->Int->Int->Int->Option (Int×Unit)
 | 0,_,_,_=>none
 | n6+1,x3,x4,x5=>(if(decide ((0:Int)<x4))=true then(if(2:Int)≠0 then(if((((x4:Int).tmod 2):Int)==1)=true then((zed φ x5 x3 2305843009213690799).bind fun y12=>(zd4 φ (z5g φ n6) x3 x4 y12.1)) else(zd4 φ (z5g φ n6) x3 x4 x5)) else none) else(some (x5,())))
def zl0 (φ:Nat) (x1:Int) (x2:Int):Option (Int×Unit):=(if(2305843009213690799:Int)≠0 then(z5g φ φ ((x1:Int).tmod 2305843009213690799) x2 1) else none)
def zh2 (φ:Nat):Fsp TV:=⟨[6,6],[.val 6],fun z=>zl0 φ z.1 z.2.1⟩
def zrb (φ:Nat) (x1:Int):Option (Int×Int×Unit):=(if((decide ((x1:Int)<1))||(decide ((1152921504606845399:Int)<=x1)))=true then(some (0,30,())) else((zl0 φ 4 x1).bind fun y2=>(some (y2.1,0,()))))
def zg2 (φ:Nat):Fsp TV:=⟨[6],[.val 6,.val 0],fun z=>zrb φ z.1⟩
def za4 (φ:Nat):Nat->Int->(List z6v)->(List Edge)->(List z1p)->(List zn7)->(List Swap)->(List Wash)->(List z15)->(List zaj)->(List z1h)->(List z6v)->(List Edge)->(List z1p)->(List zn7)->(List Swap)->(List Wash)->(List z15)->(List zaj)->(List z1h)->Option (Pool×Unit)
 | 0,_,_,_,_,_,_,_,_,_,_,_,_,_,_,_,_,_,_,_=>none
 | n20+1,x1,x2,x3,x4,x5,x6,x7,x8,x9,x10,x11,x12,x13,x14,x15,x16,x17,x18,x19=>(if(decide ((x1:Int)<2))=true then((zrb φ ((U ((W (7+x1)))))).bind fun y21=>(ck (fits (x19.length +([(⟨y21.1,(⟨fun _=>(default:Span),([]:List Int)⟩:z4w)⟩:z1h)]).length) 144) ((za4 φ n20) (W (x1+1)) x2 x3 x4 x5 x6 x7 x8 x9 x10 x11 x12 x13 x14 x15 x16 x17 x18 ((x19++[(⟨y21.1,(⟨fun _=>(default:Span),([]:List Int)⟩:z4w)⟩:z1h)]))))) else(some ((⟨(⟨x11,x12⟩:zc),(⟨x13,x14,x15,x16⟩:zbf),x17,x18,x19⟩:Pool),())))
def zof (φ:Nat):Option (Pool×Unit):=(za4 φ φ 0 ([]:List z6v) ([]:List Edge) ([]:List z1p) ([]:List zn7) ([]:List Swap) ([]:List Wash) ([]:List z15) ([]:List zaj) ([]:List z1h) ([(⟨1,0,-1⟩:z6v),(⟨3,0,1⟩:z6v),(⟨4,1,-1⟩:z6v)]) ([(⟨0,1,0,10,5⟩:Edge),(⟨1,2,1,20,9⟩:Edge)]) ([(⟨1000,0,0,0,0,7,1000,0⟩:z1p)]) ([(⟨0,0,0,0,5000⟩:zn7)]) ([]:List Swap) ([]:List Wash) ([(⟨0,-3,3⟩:z15)]) ([(⟨2⟩:zaj)]) ([]:List z1h))
def zez (φ:Nat):Fsp TV:=⟨[],[.val 30],fun z=>zof φ⟩
def zny (φ:Nat):Option (Pool×Unit):=((zof φ).bind fun y1=>(some ((⟨(⟨y1.1.network.places,[(⟨0,1,0,30,5⟩:Edge),(⟨1,2,1,20,9⟩:Edge)]⟩:zc),y1.1.fleet,y1.1.readers,y1.1.shippers,y1.1.railways⟩:Pool),())))
def zdn (φ:Nat):Fsp TV:=⟨[],[.val 30],fun z=>zny φ⟩
def zfg (φ:Nat) (x1:Int) (x2:Int) (x3:Int) (x4:Int) (x5:Int):Option (z8×Unit):=(some ((⟨(⟨0,x1⟩:Ref),(⟨0,x1⟩:Ref),x5,(⟨x2,(⟨0,0⟩:Ref),0,x3,0,0,x4,0,0,0,0,0,0,(⟨#[]⟩:ByteArray),([]:List Part)⟩:Item)⟩:z8),()))
def zgl (φ:Nat):Fsp TV:=⟨[0,0,0,0,0],[.val 35],fun z=>zfg φ z.1 z.2.1 z.2.2.1 z.2.2.2.1 z.2.2.2.2.1⟩
def zcs (φ:Nat) (x1:z6v):Option (Bool×Unit):=(if((((decide ((x1.kind:Int)<1))||(decide ((5:Int)<x1.kind)))||(decide ((x1.railway:Int)<0)))||(decide ((16:Int)<=x1.railway)))=true then(some (false,())) else(if((x1.kind:Int) !=3)=true then(some (((x1.other:Int)==(-1)),())) else(some ((((decide ((0:Int)<=x1.other))&&(decide ((x1.other:Int)<16)))&&((x1.other:Int) !=x1.railway)),()))))
def ze7 (φ:Nat):Fsp TV:=⟨[7],[.val 2],fun z=>zcs φ z.1⟩
def z2d (φ:Nat):Nat->Int->(List Edge)->Int->Int->Option (Int×Unit)
 | 0,_,_,_,_=>none
 | n13+1,x9,x10,x11,x12=>(if(decide ((x12:Int)<x11))=true then(ck ((0:Int)<=x12/\x12 <(x10.length:Int)) (if(((((((decide (((min2 ((min2 (min2 ((gt x10 x12).a) ((gt x10 x12).b)) ((gt x10 x12).railway))) ((gt x10 x12).km)):Int)<0))||(decide ((x9:Int)<=(max2 ((gt x10 x12).a) ((gt x10 x12).b)))))||(((gt x10 x12).a:Int)==(gt x10 x12).b))||(decide ((16:Int)<=(gt x10 x12).railway)))||(decide (((gt x10 x12).minutes:Int)<1)))||(decide ((100000:Int) <(gt x10 x12).minutes)))||(decide ((10000:Int) <(gt x10 x12).km)))=true then(some (1,())) else((z2d φ n13) x9 x10 x11 (W (x12+1))))) else(some (0,())))
def z40 (φ:Nat):Nat->Int->(List z6v)->Int->Int->zc->Option (Int×Unit)
 | 0,_,_,_,_,_=>none
 | n7+1,x2,x3,x4,x5,x6=>(if(decide ((x5:Int)<x4))=true then(ck ((0:Int)<=x5/\x5 <(x3.length:Int)) ((zcs φ (gt x3 x5)).bind fun y8=>(if(!y8.1)=true then(some (1,())) else((z40 φ n7) x2 x3 x4 (W (x5+1)) x6)))) else(z2d φ φ x2 x6.edges (x6.edges.length:Int) 0))
def z9c (φ:Nat) (x1:zc):Option (Int×Unit):=(if((decide ((512:Int) <(x1.places.length:Int)))||(decide ((2048:Int) <(x1.edges.length:Int))))=true then(some (2,())) else(z40 φ φ (x1.places.length:Int) x1.places (x1.places.length:Int) 0 x1))
def z98 (φ:Nat):Fsp TV:=⟨[11],[.val 0],fun z=>z9c φ z.1⟩
def zt (φ:Nat) (x1:Int) (x2:Int) (x3:Int):Option (Bool×Unit):=(some (((decide ((x2:Int)<=x1))&&(decide ((x1:Int)<=x3))),()))
def z9g (φ:Nat):Fsp TV:=⟨[0,0,0],[.val 2],fun z=>zt φ z.1 z.2.1 z.2.2.1⟩
def z2r (φ:Nat) (k7 :((List z1p)->Int->Int->zbf->Int->Option (Int×Unit))):Nat->(List z1p)->Int->Int->Int->Int->zbf->Int->z1p->(List Int)->Option (Int×Unit)
 | 0,_,_,_,_,_,_,_,_,_=>none
 | n17+1,x8,x9,x10,x11,x12,x13,x14,x15,x16=>(if(decide ((x12:Int)<x11))=true then(ck ((0:Int)<=x12/\x12 <(x16.length:Int)) ((zt φ (gt x16 x12) 0 1000000).bind fun y18=>(if(!y18.1)=true then((z2r φ k7 n17) x8 x9 x10 x11 (W (x12+1)) x13 1 x15 x16) else((z2r φ k7 n17) x8 x9 x10 x11 (W (x12+1)) x13 x14 x15 x16)))) else((zt φ x15.gauge 0 7).bind fun y19=>((zn (default,()) (y19.1=true) (zt φ x15.life 1 1073741824)).bind fun y20=>((zn (default,()) ((y19.1&&y20.1)=true) (zt φ x15.floor 0 100)).bind fun y21=>(if(!((y19.1&&y20.1)&&y21.1))=true then(k7 x8 x9 (W (x10+1)) x13 1) else(k7 x8 x9 (W (x10+1)) x13 x14))))))
def z00 (φ:Nat):Nat->(List Wash)->Int->Int->Int->(Nat->Bool)->Option (Int×Unit)
 | 0,_,_,_,_,_=>none
 | n49+1,x44,x45,x46,x47,x48=>(if(decide ((x46:Int)<x45))=true then(ck ((0:Int)<=x46/\x46 <(x44.length:Int)) ((zt φ ((gt x44 x46).from_) 0 63).bind fun y50=>((zn (default,()) (y50.1=true) (zt φ ((gt x44 x46).to) 0 63)).bind fun y51=>((zn (default,()) (((y50.1&&y51.1)&&(((gt x44 x46).from_:Int) !=(gt x44 x46).to))=true) (zt φ ((gt x44 x46).minutes) 0 100000)).bind fun y52=>(if(!(((y50.1&&y51.1)&&(((gt x44 x46).from_:Int) !=(gt x44 x46).to))&&y52.1))=true then(if(((y50.1&&y51.1)&&(((gt x44 x46).from_:Int) !=(gt x44 x46).to))&&y52.1)=true then(ck ((0:Int)<=(gt x44 x46).from_/\(gt x44 x46).from_ <(64:Int)) (ck ((0:Int)<=(gt x44 x46).to/\(gt x44 x46).to <(64:Int)) (if(!(!(x48 (((((gt x44 x46).from_:Int).toNat*64) +((gt x44 x46).to:Int).toNat)))))=true then(ck ((0:Int)<=(gt x44 x46).from_/\(gt x44 x46).from_ <(64:Int)) (ck ((0:Int)<=(gt x44 x46).to/\(gt x44 x46).to <(64:Int)) ((z00 φ n49) x44 x45 (W (x46+1)) 1 ((upd x48 (((((gt x44 x46).from_:Int).toNat*64) +((gt x44 x46).to:Int).toNat)) true))))) else(ck ((0:Int)<=(gt x44 x46).from_/\(gt x44 x46).from_ <(64:Int)) (ck ((0:Int)<=(gt x44 x46).to/\(gt x44 x46).to <(64:Int)) ((z00 φ n49) x44 x45 (W (x46+1)) 1 ((upd x48 (((((gt x44 x46).from_:Int).toNat*64) +((gt x44 x46).to:Int).toNat)) true)))))))) else((z00 φ n49) x44 x45 (W (x46+1)) 1 x48)) else(if(((y50.1&&y51.1)&&(((gt x44 x46).from_:Int) !=(gt x44 x46).to))&&y52.1)=true then(ck ((0:Int)<=(gt x44 x46).from_/\(gt x44 x46).from_ <(64:Int)) (ck ((0:Int)<=(gt x44 x46).to/\(gt x44 x46).to <(64:Int)) (if(!(!(x48 (((((gt x44 x46).from_:Int).toNat*64) +((gt x44 x46).to:Int).toNat)))))=true then(ck ((0:Int)<=(gt x44 x46).from_/\(gt x44 x46).from_ <(64:Int)) (ck ((0:Int)<=(gt x44 x46).to/\(gt x44 x46).to <(64:Int)) ((z00 φ n49) x44 x45 (W (x46+1)) 1 ((upd x48 (((((gt x44 x46).from_:Int).toNat*64) +((gt x44 x46).to:Int).toNat)) true))))) else(ck ((0:Int)<=(gt x44 x46).from_/\(gt x44 x46).from_ <(64:Int)) (ck ((0:Int)<=(gt x44 x46).to/\(gt x44 x46).to <(64:Int)) ((z00 φ n49) x44 x45 (W (x46+1)) x47 ((upd x48 (((((gt x44 x46).from_:Int).toNat*64) +((gt x44 x46).to:Int).toNat)) true)))))))) else((z00 φ n49) x44 x45 (W (x46+1)) x47 x48))))))) else(some (x47,())))
def z13 (φ:Nat):Nat->(List Swap)->Int->Int->zbf->Int->Option (Int×Unit)
 | 0,_,_,_,_,_=>none
 | n40+1,x35,x36,x37,x38,x39=>(if(decide ((x37:Int)<x36))=true then(ck ((0:Int)<=x37/\x37 <(x35.length:Int)) ((zt φ ((gt x35 x37).wanted) 0 (W ((x38.types.length:Int)-1))).bind fun y41=>((zn (default,()) (y41.1=true) (zt φ ((gt x35 x37).given) 0 (W ((x38.types.length:Int)-1)))).bind fun y42=>((zn (default,()) (((y41.1&&y42.1)&&(((gt x35 x37).wanted:Int) !=(gt x35 x37).given))=true) (zt φ ((gt x35 x37).cost) 0 1000000000)).bind fun y43=>(if(!(((y41.1&&y42.1)&&(((gt x35 x37).wanted:Int) !=(gt x35 x37).given))&&y43.1))=true then((z13 φ n40) x35 x36 (W (x37+1)) x38 1) else((z13 φ n40) x35 x36 (W (x37+1)) x38 x39)))))) else(z00 φ φ x38.washes (x38.washes.length:Int) 0 x39 (fun _=>(default:Bool))))
def z0n (φ:Nat):Nat->(List zn7)->Int->Int->zbf->Int->Option (Int×Unit)
 | 0,_,_,_,_,_=>none
 | n27+1,x22,x23,x24,x25,x26=>(if(decide ((x24:Int)<x23))=true then(ck ((0:Int)<=x24/\x24 <(x22.length:Int)) ((zt φ ((gt x22 x24).type_) 0 (W ((x25.types.length:Int)-1))).bind fun y28=>((zn (default,()) (y28.1=true) (zt φ ((gt x22 x24).owner) 0 63)).bind fun y29=>((zn (default,()) ((y28.1&&y29.1)=true) (zt φ ((gt x22 x24).home) 0 511)).bind fun y30=>(if(!((y28.1&&y29.1)&&y30.1))=true then((zt φ ((gt x22 x24).built) 0 1073741824).bind fun y31=>((zn (default,()) (y31.1=true) (zt φ ((gt x22 x24).worth) 0 1099511627776)).bind fun y32=>(if(!(y31.1&&y32.1))=true then((z0n φ n27) x22 x23 (W (x24+1)) x25 1) else((z0n φ n27) x22 x23 (W (x24+1)) x25 1)))) else((zt φ ((gt x22 x24).built) 0 1073741824).bind fun y33=>((zn (default,()) (y33.1=true) (zt φ ((gt x22 x24).worth) 0 1099511627776)).bind fun y34=>(if(!(y33.1&&y34.1))=true then((z0n φ n27) x22 x23 (W (x24+1)) x25 1) else((z0n φ n27) x22 x23 (W (x24+1)) x25 x26))))))))) else(z13 φ φ x25.swaps (x25.swaps.length:Int) 0 x25 x26))
def z4k (φ:Nat):Nat->(List z1p)->Int->Int->zbf->Int->Option (Int×Unit)
 | 0,_,_,_,_,_=>none
 | n7+1,x2,x3,x4,x5,x6=>(if(decide ((x4:Int)<x3))=true then(ck ((0:Int)<=x4/\x4 <(x2.length:Int)) (z2r φ (z4k φ n7) φ x2 x3 x4 (([(gt x2 x4).load,(gt x2 x4).tare,(gt x2 x4).length,(gt x2 x4).brake]).length:Int) 0 x5 x6 (gt x2 x4) ([(gt x2 x4).load,(gt x2 x4).tare,(gt x2 x4).length,(gt x2 x4).brake]))) else(z0n φ φ x5.wagons (x5.wagons.length:Int) 0 x5 x6))
def zih (φ:Nat) (x1:zbf):Option (Int×Unit):=(if((((decide ((32:Int) <(x1.types.length:Int)))||(decide ((4096:Int) <(x1.wagons.length:Int))))||(decide ((1024:Int) <(x1.swaps.length:Int))))||(decide ((4096:Int) <(x1.washes.length:Int))))=true then(some (2,())) else(z4k φ φ x1.types (x1.types.length:Int) 0 x1 0))
def zj2 (φ:Nat):Fsp TV:=⟨[20],[.val 0],fun z=>zih φ z.1⟩
def z2u (φ:Nat):Nat->Int->(List Int)->Int->Int->Option (Int×Unit)
 | 0,_,_,_,_=>none
 | n10+1,x6,x7,x8,x9=>(if(decide ((x9:Int)<x8))=true then(ck ((0:Int)<=x9/\x9 <(x7.length:Int)) (if((decide (((gt x7 x9):Int)<=x6))||(decide ((745654:Int) <(gt x7 x9))))=true then(some (1,())) else((z2u φ n10) (gt x7 x9) x7 x8 (W (x9+1))))) else(some (0,())))
def z3g (φ:Nat):Nat->(Nat->Span)->Int->z4w->Option (Int×Unit)
 | 0,_,_,_=>none
 | n5+1,x2,x3,x4=>(if(decide ((x3:Int)<7))=true then(ck ((0:Int)<=x3/\x3 <(7:Int)) (if(((decide (((x2 (x3:Int).toNat).from_:Int)<0))||(decide (((x2 (x3:Int).toNat).to:Int) <(x2 (x3:Int).toNat).from_)))||(decide ((1440:Int) <(x2 (x3:Int).toNat).to)))=true then(some (1,())) else((z3g φ n5) x2 (W (x3+1)) x4))) else(z2u φ φ (-1) x4.holidays (x4.holidays.length:Int) 0))
def zay (φ:Nat) (x1:z4w):Option (Int×Unit):=(z3g φ φ x1.open_ 0 x1)
def zca (φ:Nat):Fsp TV:=⟨[27],[.val 0],fun z=>zay φ z.1⟩
def z8f (φ:Nat) (x1:Int) (x2:Int):Option (Int×Int×Unit):=(if 0<=(32:Int) then(if 0<=(32:Int) then(if 0<=(32:Int) then(if 0<=(32:Int) then(if 0<=(32:Int) then(some ((U ((U ((U (((x1:Int).fdiv (2 ^ (min (32:Int).toNat 64))) *((x2:Int).fdiv (2 ^ (min (32:Int).toNat 64))))) +(((U ((U (((x1:Int).fdiv (2 ^ (min (32:Int).toNat 64))) *(U ((BitVec.ofInt 64 x2&&& BitVec.ofInt 64 4294967295).toNat)))) +(((U ((U ((BitVec.ofInt 64 x1&&& BitVec.ofInt 64 4294967295).toNat)) *(U ((BitVec.ofInt 64 x2&&& BitVec.ofInt 64 4294967295).toNat)))):Int).fdiv (2 ^ (min (32:Int).toNat 64))))):Int).fdiv (2 ^ (min (32:Int).toNat 64))))) +(((U ((U ((BitVec.ofInt 64 (U ((U (((x1:Int).fdiv (2 ^ (min (32:Int).toNat 64))) *(U ((BitVec.ofInt 64 x2&&& BitVec.ofInt 64 4294967295).toNat)))) +(((U ((U ((BitVec.ofInt 64 x1&&& BitVec.ofInt 64 4294967295).toNat)) *(U ((BitVec.ofInt 64 x2&&& BitVec.ofInt 64 4294967295).toNat)))):Int).fdiv (2 ^ (min (32:Int).toNat 64)))))&&& BitVec.ofInt 64 4294967295).toNat)) +(U ((U ((BitVec.ofInt 64 x1&&& BitVec.ofInt 64 4294967295).toNat)) *((x2:Int).fdiv (2 ^ (min (32:Int).toNat 64))))))):Int).fdiv (2 ^ (min (32:Int).toNat 64))))),(U (x1*x2)),())) else none) else none) else none) else none) else none)
def zfc (φ:Nat):Fsp TV:=⟨[6,6],[.val 6,.val 6],fun z=>z8f φ z.1 z.2.1⟩
def z1v (φ:Nat) (x8:Int) (x9:Int):Option (Int×Unit):=(ck ((0:Int)<=(IntKind.wrap .u8 (x8))/\(IntKind.wrap .u8 (x8)) <(z03.size:Int)) (some ((W (64 -(W (x9 +(W ((z54 z03 (IntKind.wrap .u8 (x8))))))))),())))
def z24 (φ:Nat) (x5:Int) (x6:Int):Option (Int×Unit):=(if(decide ((256:Int)<=x5))=true then(if 0<=(8:Int) then(z1v φ (((x5:Int).fdiv (2 ^ (min (8:Int).toNat 64)))) (W (x6+8))) else none) else(z1v φ x5 x6))
def z26 (φ:Nat) (x2:Int) (x3:Int):Option (Int×Unit):=(if(decide ((65536:Int)<=x2))=true then(if 0<=(16:Int) then(z24 φ (((x2:Int).fdiv (2 ^ (min (16:Int).toNat 64)))) (W (x3+16))) else none) else(z24 φ x2 x3))
def z3t (φ:Nat) (x1:Int):Option (Int×Unit):=(if(decide ((4294967296:Int)<=x1))=true then(if 0<=(32:Int) then(z26 φ (((x1:Int).fdiv (2 ^ (min (32:Int).toNat 64)))) 32) else none) else(z26 φ x1 0))
def z6r (φ:Nat):Fsp TV:=⟨[6],[.val 0],fun z=>z3t φ z.1⟩
def z7r (φ:Nat) (x14:Int) (x15:Int) (x16:Int) (x17:Int) (x18:Int) (x19:Int):Option (Int×Int×Unit):=(ck (0<=x15) (some ((U ((U (x17*4294967296))+x19)),(((U ((U ((U (x18*4294967296))+x16)) -(U (x19*x14)))):Int).fdiv (2 ^ (min (x15:Int).toNat 64))),())))
def z7t (φ:Nat):Nat->Int->Int->Int->Int->Int->Int->Int->Int->Int->Option (Int×Int×Unit)
 | 0,_,_,_,_,_,_,_,_,_=>none
 | n30+1,x21,x22,x23,x24,x25,x26,x27,x28,x29=>(if((decide ((4294967296:Int)<=x29))||(decide (((U ((U (4294967296*x27))+x25)):Int) <(U (x29*x24)))))=true then(if(decide ((4294967296:Int)<=(U (x27+x23))))=true then(z7r φ x21 x22 x25 x26 x28 (U (x29-1))) else((z7t φ n30) x21 x22 x23 x24 x25 x26 (U (x27+x23)) x28 (U (x29-1)))) else(z7r φ x21 x22 x25 x26 x28 x29))
def z7x (φ:Nat) (x5:Int) (x6:Int) (x7:Int) (x8:Int) (x9:Int) (x10:Int) (x11:Int) (x12:Int):Option (Int×Int×Unit):=(ck (x7≠0) (z7t φ φ x5 x6 x7 x8 x11 x12 ((U ((U ((U ((U (x9*4294967296))+x10)) -(U (x12*x5)))) -(U ((U (((U ((U ((U (x9*4294967296))+x10)) -(U (x12*x5)))):Int).tdiv x7))*x7))))) ((U ((U ((U (x9*4294967296))+x10)) -(U (x12*x5))))) ((U (((U ((U ((U (x9*4294967296))+x10)) -(U (x12*x5)))):Int).tdiv x7)))))
def z7s (φ:Nat):Nat->Int->Int->Int->Int->Int->Int->Int->Int->Int->Option (Int×Int×Unit)
 | 0,_,_,_,_,_,_,_,_,_=>none
 | n40+1,x31,x32,x33,x34,x35,x36,x37,x38,x39=>(if((decide ((4294967296:Int)<=x38))||(decide (((U ((U (4294967296*x39))+x36)):Int) <(U (x38*x34)))))=true then(if(decide ((4294967296:Int)<=(U (x39+x33))))=true then(z7x φ x31 x32 x33 x34 x35 x36 x37 (U (x38-1))) else((z7s φ n40) x31 x32 x33 x34 x35 x36 x37 (U (x38-1)) (U (x39+x33)))) else(z7x φ x31 x32 x33 x34 x35 x36 x37 x38))
def z8g (φ:Nat) (x1:Int) (x2:Int) (x3:Int):Option (Int×Int×Unit):=(if((x3:Int)==0)=true then none else(if(decide ((x3:Int)<=x1))=true then none else(if((x1:Int)==0)=true then(ck (x3≠0) (ck (x3≠0) (some ((U ((x2:Int).tdiv x3)),((x2:Int).tmod x3),())))) else((z3t φ x3).bind fun y4=>(ck (0<=(U (y4.1))) (if 0<=(32:Int) then(ck (0<=(U (y4.1))) (ck (0<=(U (64 -(U (y4.1))))) (ck (0<=(U (y4.1))) (if 0<=(32:Int) then(ck ((((U (x3*2 ^ (min ((U (y4.1)):Int).toNat 64))):Int).fdiv (2 ^ (min (32:Int).toNat 64)))≠0) (z7s φ φ ((U (x3*2 ^ (min ((U (y4.1)):Int).toNat 64)))) (U (y4.1)) ((((U (x3*2 ^ (min ((U (y4.1)):Int).toNat 64))):Int).fdiv (2 ^ (min (32:Int).toNat 64)))) ((U ((BitVec.ofInt 64 (U (x3*2 ^ (min ((U (y4.1)):Int).toNat 64)))&&& BitVec.ofInt 64 4294967295).toNat))) ((U ((BitVec.ofInt 64 (U (x1*2 ^ (min ((U (y4.1)):Int).toNat 64)))||| BitVec.ofInt 64 ((x2:Int).fdiv (2 ^ (min ((U (64 -(U (y4.1)))):Int).toNat 64)))).toNat))) ((((U (x2*2 ^ (min ((U (y4.1)):Int).toNat 64))):Int).fdiv (2 ^ (min (32:Int).toNat 64)))) ((U ((BitVec.ofInt 64 (U (x2*2 ^ (min ((U (y4.1)):Int).toNat 64)))&&& BitVec.ofInt 64 4294967295).toNat))) ((U (((U ((BitVec.ofInt 64 (U (x1*2 ^ (min ((U (y4.1)):Int).toNat 64)))||| BitVec.ofInt 64 ((x2:Int).fdiv (2 ^ (min ((U (64 -(U (y4.1)))):Int).toNat 64)))).toNat)):Int).tdiv (((U (x3*2 ^ (min ((U (y4.1)):Int).toNat 64))):Int).fdiv (2 ^ (min (32:Int).toNat 64)))))) ((U ((U ((BitVec.ofInt 64 (U (x1*2 ^ (min ((U (y4.1)):Int).toNat 64)))||| BitVec.ofInt 64 ((x2:Int).fdiv (2 ^ (min ((U (64 -(U (y4.1)))):Int).toNat 64)))).toNat)) -(U ((U (((U ((BitVec.ofInt 64 (U (x1*2 ^ (min ((U (y4.1)):Int).toNat 64)))||| BitVec.ofInt 64 ((x2:Int).fdiv (2 ^ (min ((U (64 -(U (y4.1)))):Int).toNat 64)))).toNat)):Int).tdiv (((U (x3*2 ^ (min ((U (y4.1)):Int).toNat 64))):Int).fdiv (2 ^ (min (32:Int).toNat 64))))) *(((U (x3*2 ^ (min ((U (y4.1)):Int).toNat 64))):Int).fdiv (2 ^ (min (32:Int).toNat 64)))))))))) else none)))) else none))))))
def zkf (φ:Nat):Fsp TV:=⟨[6,6,6],[.val 6,.val 6],fun z=>z8g φ z.1 z.2.1 z.2.2.1⟩
def zbk (φ:Nat) (k30 :(Int->Int->Int->Int->Int->Int->Option (Int×Unit))) (x55:Int) (x56:Int) (x57:Int) (x58:Int) (x59:Int) (x60:Int) (x61:Int) (x62:Int) (x63:Int) (x64:Int):Option (Int×Unit):=(ck ((0:Int)<=(IntKind.wrap .u8 (x55))/\(IntKind.wrap .u8 (x55)) <(z03.size:Int)) (ck (0<=(W ((W ((W (x56 +(W ((z54 z03 (IntKind.wrap .u8 (x55)))))))-1))-x60))) (if(((U ((BitVec.ofInt 64 ((x63:Int).fdiv (2 ^ (min ((W ((W ((W (x56 +(W ((z54 z03 (IntKind.wrap .u8 (x55)))))))-1))-x60)):Int).toNat 64)))&&& BitVec.ofInt 64 1).toNat)):Int)==1)=true then(ck (x64≠0) (ck (x64≠0) ((z8f φ ((x59:Int).tmod x64) ((x57:Int).tmod x64)).bind fun y66=>((z8g φ y66.1 y66.2.1 x64).bind fun y67=>(k30 x57 x58 y67.2.1 x61 (W (x62+1)) x64))))) else(k30 x57 x58 x59 x61 (W (x62+1)) x64))))
def zbl (φ:Nat) (k30 :(Int->Int->Int->Int->Int->Int->Option (Int×Unit))) (x44:Int) (x45:Int) (x46:Int) (x47:Int) (x48:Int) (x49:Int) (x50:Int) (x51:Int) (x52:Int) (x53:Int):Option (Int×Unit):=(if(decide ((256:Int)<=x44))=true then(if 0<=(8:Int) then(zbk φ k30 (((x44:Int).fdiv (2 ^ (min (8:Int).toNat 64)))) (W (x45+8)) x46 x47 x48 x49 x50 x51 x52 x53) else none) else(zbk φ k30 x44 x45 x46 x47 x48 x49 x50 x51 x52 x53))
def z4a (φ:Nat) (k30 :(Int->Int->Int->Int->Int->Int->Option (Int×Unit))) (x33:Int) (x34:Int) (x35:Int) (x36:Int) (x37:Int) (x38:Int) (x39:Int) (x40:Int) (x41:Int) (x42:Int):Option (Int×Unit):=(if(decide ((65536:Int)<=x33))=true then(if 0<=(16:Int) then(zbl φ k30 (((x33:Int).fdiv (2 ^ (min (16:Int).toNat 64)))) (W (x34+16)) x35 x36 x37 x38 x39 x40 x41 x42) else none) else(zbl φ k30 x33 x34 x35 x36 x37 x38 x39 x40 x41 x42))
def z0s (φ:Nat):Nat->Int->Int->Int->Int->Int->Int->Option (Int×Unit)
 | 0,_,_,_,_,_,_=>none
 | n30+1,x24,x25,x26,x27,x28,x29=>(if(decide ((x28:Int)<x27))=true then(ck (x29≠0) (ck (x29≠0) ((z8f φ ((x26:Int).tmod x29) ((x26:Int).tmod x29)).bind fun y31=>((z8g φ y31.1 y31.2.1 x29).bind fun y32=>(if(decide ((4294967296:Int)<=x25))=true then(if 0<=(32:Int) then(z4a φ (z0s φ n30) (((x25:Int).fdiv (2 ^ (min (32:Int).toNat 64)))) 32 x24 x25 y32.2.1 x28 x27 x28 x25 x29) else none) else(z4a φ (z0s φ n30) x25 0 x24 x25 y32.2.1 x28 x27 x28 x25 x29)))))) else(some (x26,())))
def zbn (φ:Nat) (x17:Int) (x18:Int) (x19:Int) (x20:Int) (x21:Int) (x22:Int):Option (Int×Unit):=(ck ((0:Int)<=(IntKind.wrap .u8 (x17))/\(IntKind.wrap .u8 (x17)) <(z03.size:Int)) (z0s φ φ x19 x20 x21 ((W (x18 +(W ((z54 z03 (IntKind.wrap .u8 (x17)))))))) 0 x22))
def zbh (φ:Nat) (x10:Int) (x11:Int) (x12:Int) (x13:Int) (x14:Int) (x15:Int):Option (Int×Unit):=(if(decide ((256:Int)<=x10))=true then(if 0<=(8:Int) then(zbn φ (((x10:Int).fdiv (2 ^ (min (8:Int).toNat 64)))) (W (x11+8)) x12 x13 x14 x15) else none) else(zbn φ x10 x11 x12 x13 x14 x15))
def zer (φ:Nat) (x3:Int) (x4:Int) (x5:Int) (x6:Int) (x7:Int) (x8:Int):Option (Int×Unit):=(if(decide ((65536:Int)<=x3))=true then(if 0<=(16:Int) then(zbh φ (((x3:Int).fdiv (2 ^ (min (16:Int).toNat 64)))) (W (x4+16)) x5 x6 x7 x8) else none) else(zbh φ x3 x4 x5 x6 x7 x8))
def zo5 (φ:Nat) (x1:Int) (x2:Int):Option (Int×Unit):=(if(decide ((4294967296:Int)<=x2))=true then(if 0<=(32:Int) then(zer φ (((x2:Int).fdiv (2 ^ (min (32:Int).toNat 64)))) 32 x1 x2 1 2305843009213690799) else none) else(zer φ x2 0 x1 x2 1 2305843009213690799))
def zq5 (φ:Nat):Fsp TV:=⟨[6,6],[.val 6],fun z=>zo5 φ z.1 z.2.1⟩
def zm0 (φ:Nat) (x1:Int):Option (Bool×Unit):=((zn (default,()) (((decide ((2:Int)<=x1))&&(decide ((x1:Int)<2305843009213690799)))=true) (zo5 φ x1 1152921504606845399)).bind fun y2=>(some ((((decide ((2:Int)<=x1))&&(decide ((x1:Int)<2305843009213690799)))&&((y2.1:Int)==1)),())))
def zkp (φ:Nat):Fsp TV:=⟨[6],[.val 2],fun z=>zm0 φ z.1⟩
def z1e (φ:Nat):Nat->Bool->(List z1h)->Int->Int->Option (Int×Unit)
 | 0,_,_,_,_=>none
 | n48+1,x44,x45,x46,x47=>(if(decide ((x47:Int)<x46))=true then(ck ((0:Int)<=x47/\x47 <(x45.length:Int)) ((zn (default,()) (x44=false) (zay φ ((gt x45 x47).calendar))).bind fun y49=>((zn (default,()) ((x44||((y49.1:Int) !=0))=false) (zm0 φ ((gt x45 x47).key))).bind fun y50=>((z1e φ n48) (((x44||((y49.1:Int) !=0))||(!y50.1))) x45 x46 (W (x47+1)))))) else(if x44=true then(some (1,())) else(some (0,()))))
def z1f (φ:Nat):Nat->Int->Bool->(List Edge)->Int->Int->Pool->Option (Int×Unit)
 | 0,_,_,_,_,_,_=>none
 | n43+1,x37,x38,x39,x40,x41,x42=>(if(decide ((x41:Int)<x40))=true then(ck ((0:Int)<=x41/\x41 <(x39.length:Int)) ((z1f φ n43) x37 ((x38||(decide ((x37:Int)<=(gt x39 x41).railway)))) x39 x40 (W (x41+1)) x42)) else(z1e φ φ x38 x42.railways (x42.railways.length:Int) 0))
def z1d (φ:Nat):Nat->Int->Bool->(List z6v)->Int->Int->Pool->Option (Int×Unit)
 | 0,_,_,_,_,_,_=>none
 | n36+1,x30,x31,x32,x33,x34,x35=>(if(decide ((x34:Int)<x33))=true then(ck ((0:Int)<=x34/\x34 <(x32.length:Int)) ((z1d φ n36) x30 (((x31||(decide ((x30:Int)<=(gt x32 x34).railway)))||(decide ((x30:Int)<=(gt x32 x34).other)))) x32 x33 (W (x34+1)) x35)) else(z1f φ φ x30 x31 x35.network.edges (x35.network.edges.length:Int) 0 x35))
def z1c (φ:Nat):Nat->(List z6v)->Int->Bool->(List zn7)->Int->Int->Pool->Option (Int×Unit)
 | 0,_,_,_,_,_,_,_=>none
 | n29+1,x22,x23,x24,x25,x26,x27,x28=>(if(decide ((x27:Int)<x26))=true then(ck ((0:Int)<=x27/\x27 <(x25.length:Int)) ((z1c φ n29) x22 x23 ((x24||(decide (((x22.length:Int):Int)<=(gt x25 x27).home)))) x25 x26 (W (x27+1)) x28)) else(z1d φ φ x23 x24 x22 (x22.length:Int) 0 x28))
def z1b (φ:Nat):Nat->(List z6v)->Int->Bool->(List zaj)->Int->Int->Pool->Option (Int×Unit)
 | 0,_,_,_,_,_,_,_=>none
 | n20+1,x13,x14,x15,x16,x17,x18,x19=>(if(decide ((x18:Int)<x17))=true then(ck ((0:Int)<=x18/\x18 <(x16.length:Int)) ((zn (default,()) (x15=false) (zt φ ((gt x16 x18).place) 0 (W ((x13.length:Int)-1)))).bind fun y21=>(ck (((x15||(!y21.1))=false)->(0:Int)<=(gt x16 x18).place/\(gt x16 x18).place <(x13.length:Int)) ((z1b φ n20) x13 x14 (((x15||(!y21.1))||(((gt x13 ((gt x16 x18).place)).kind:Int) !=4))) x16 x17 (W (x18+1)) x19)))) else(z1c φ φ x13 x14 x15 x19.fleet.wagons (x19.fleet.wagons.length:Int) 0 x19))
def z2c (φ:Nat):Nat->(List z6v)->Int->Bool->(List z15)->Int->Int->Pool->Option (Int×Unit)
 | 0,_,_,_,_,_,_,_=>none
 | n11+1,x4,x5,x6,x7,x8,x9,x10=>(if(decide ((x9:Int)<x8))=true then(ck ((0:Int)<=x9/\x9 <(x7.length:Int)) ((zn (default,()) (x6=false) (zt φ ((gt x7 x9).place) 0 (W ((x4.length:Int)-1)))).bind fun y12=>((z2c φ n11) x4 x5 (((((x6||(!y12.1))||(decide (((gt x7 x9).low:Int) <(-1000))))||(decide (((gt x7 x9).high:Int) <(gt x7 x9).low)))||(decide ((1000:Int) <(gt x7 x9).high)))) x7 x8 (W (x9+1)) x10))) else(z1b φ φ x4 x5 x6 x10.shippers (x10.shippers.length:Int) 0 x10))
def z6y (φ:Nat) (x1:Pool):Option (Int×Unit):=((z9c φ x1.network).bind fun y2=>(if((y2.1:Int) !=0)=true then(some (y2.1,())) else((zih φ x1.fleet).bind fun y3=>(if((y3.1:Int) !=0)=true then(some (y3.1,())) else(if(((decide ((256:Int) <(x1.readers.length:Int)))||(decide ((256:Int) <(x1.shippers.length:Int))))||(decide ((16:Int) <(x1.railways.length:Int))))=true then(some (2,())) else(z2c φ φ x1.network.places (x1.railways.length:Int) (((x1.railways.length:Int):Int)==0) x1.readers (x1.readers.length:Int) 0 x1))))))
def z73 (φ:Nat):Fsp TV:=⟨[30],[.val 0],fun z=>z6y φ z.1⟩
def z7i (φ:Nat) (x1:Item):Option (Bool×Unit):=(if(((x1.ref.railway:Int)==0)&&(((x1.ref.no:Int)==0)&&true))=true then(some (((x1.kind:Int) !=14),())) else(some (((((decide ((0:Int)<=x1.ref.railway))&&(decide ((x1.ref.railway:Int)<16)))&&(decide ((1:Int)<=x1.ref.no)))&&(decide ((x1.ref.no:Int)<=4096))),())))
def zdu (φ:Nat):Fsp TV:=⟨[34],[.val 2],fun z=>z7i φ z.1⟩
def z8c (φ:Nat):Nat->(List Part)->Bool->(List Part)->Int->Int->Option (Bool×Unit)
 | 0,_,_,_,_,_=>none
 | n8+1,x3,x4,x5,x6,x7=>(if(decide ((x7:Int)<x6))=true then(ck ((0:Int)<=x7/\x7 <(x5.length:Int)) (if(((((decide (((gt x5 x7).kind:Int)<1))||(decide ((3:Int) <(gt x5 x7).kind)))||(decide (((gt x5 x7).serial:Int)<0)))||(decide ((1073741824:Int) <(gt x5 x7).serial)))||((gt x5 x7).fitted&&(!x4)))=true then(some (false,())) else((z8c φ n8) x3 x4 x5 x6 (W (x7+1))))) else(some ((decide (((x3.length:Int):Int)<=16)),())))
def zle (φ:Nat) (x1 :(List Part)) (x2:Bool):Option (Bool×Unit):=(z8c φ φ x1 x2 x1 (x1.length:Int) 0)
def zn1 (φ:Nat):Fsp TV:=⟨[33,2],[.val 2],fun z=>zle φ z.1 z.2.1⟩
def ze (φ:Nat) (x3:zg):Option (Bool×Unit):=(some ((((((((((((((x3.ok&&((x3.it.wagon:Int)==0))&&((x3.it.place:Int)==0))&&((x3.it.other:Int)==0))&&((x3.it.number:Int)==0))&&((x3.it.from_:Int)==0))&&((x3.it.to:Int)==0))&&((x3.it.code:Int)==0))&&((x3.it.dest:Int)==0))&&((x3.it.class_:Int)==0))&&((x3.it.weight:Int)==0))&&((x3.it.amount:Int)==0))&&(x3.it.text==(⟨#[]⟩:ByteArray)))&&(((x3.it.parts.length:Int):Int)==0)),()))
def z5m (φ:Nat) (x5:Int) (x6:zg) (x7:z6v):Option (Bool×Unit):=(ze φ ((⟨x6.p,(⟨x6.it.kind,x6.it.ref,x6.it.wagon,0,x6.it.other,x6.it.number,0,0,x6.it.code,x6.it.dest,x6.it.class_,x6.it.weight,x6.it.amount,x6.it.text,x6.it.parts⟩:Item),(((((x6.ok&&((x7.kind:Int) !=0))&&(((x5:Int)==0)||((x7.kind:Int)==x5)))&&(decide (((max2 x6.it.from_ 0):Int)<=x6.it.to)))&&(decide ((x6.it.to:Int)<=1073741824)))&&(decide ((0:Int)<=x6.it.from_)))&&(decide ((x6.it.from_:Int)<=1073741824))⟩:zg)))
def z4j (φ:Nat) (x13:Int) (x14:zg) (x15:z6v):Option (Bool×Unit):=(ze φ ((⟨x14.p,(⟨x14.it.kind,x14.it.ref,x14.it.wagon,0,0,x14.it.number,0,x14.it.to,0,x14.it.dest,x14.it.class_,x14.it.weight,x14.it.amount,x14.it.text,x14.it.parts⟩:Item),((((((x14.ok&&((x15.kind:Int) !=0))&&(((x13:Int)==0)||((x15.kind:Int)==x13)))&&(((x14.it.other:Int)==x15.railway)||((x14.it.other:Int)==x15.other)))&&(decide ((0:Int)<=x14.it.from_)))&&(decide ((x14.it.from_:Int)<=1073741824)))&&(decide ((0:Int)<=x14.it.code)))&&(decide ((x14.it.code:Int)<=8))⟩:zg)))
def z4m (φ:Nat) (x17:Int) (x18:zg) (x19:z6v):Option (Bool×Unit):=(ze φ ((⟨x18.p,(⟨x18.it.kind,x18.it.ref,x18.it.wagon,0,x18.it.other,x18.it.number,0,x18.it.to,x18.it.code,0,0,0,x18.it.amount,x18.it.text,x18.it.parts⟩:Item),(((((((((x18.ok&&((x19.kind:Int) !=0))&&(((x17:Int)==0)||((x19.kind:Int)==x17)))&&(decide ((0:Int)<=x18.it.dest)))&&(decide ((x18.it.dest:Int)<=(W ((x18.p.network.places.length:Int)-1)))))&&(decide ((0:Int)<=x18.it.class_)))&&(decide ((x18.it.class_:Int)<=63)))&&(decide ((0:Int)<=x18.it.weight)))&&(decide ((x18.it.weight:Int)<=1000000)))&&(decide ((0:Int)<=x18.it.from_)))&&(decide ((x18.it.from_:Int)<=1073741824))⟩:zg)))
def z4c (φ:Nat) (x24:Int) (x25:zg) (x26:z6v):Option (Bool×Unit):=(if((x25.it.kind:Int)==6)=true then(ze φ ((⟨x25.p,(⟨x25.it.kind,x25.it.ref,x25.it.wagon,0,0,x25.it.number,0,x25.it.to,0,x25.it.dest,x25.it.class_,x25.it.weight,x25.it.amount,x25.it.text,x25.it.parts⟩:Item),(((((((x25.ok&&((x26.kind:Int) !=0))&&(((x24:Int)==0)||((x26.kind:Int)==x24)))&&(decide ((0:Int)<=x25.it.other)))&&(decide ((x25.it.other:Int)<=(W ((x25.p.shippers.length:Int)-1)))))&&(decide ((0:Int)<=x25.it.from_)))&&(decide ((x25.it.from_:Int)<=1073741824)))&&(decide ((0:Int)<=x25.it.code)))&&(decide ((x25.it.code:Int)<=1))⟩:zg))) else(ze φ ((⟨x25.p,(⟨x25.it.kind,x25.it.ref,x25.it.wagon,0,0,x25.it.number,0,x25.it.to,x25.it.code,x25.it.dest,x25.it.class_,x25.it.weight,x25.it.amount,x25.it.text,x25.it.parts⟩:Item),(((((x25.ok&&((x26.kind:Int) !=0))&&(((x24:Int)==0)||((x26.kind:Int)==x24)))&&(decide ((0:Int)<=x25.it.other)))&&(decide ((x25.it.other:Int)<=(W ((x25.p.shippers.length:Int)-1)))))&&(decide ((0:Int)<=x25.it.from_)))&&(decide ((x25.it.from_:Int)<=1073741824))⟩:zg))))
def z4o (φ:Nat) (x21:Bool) (x22:zg):Option (Bool×Unit):=(if x21=true then(if((decide ((0:Int)<=x22.it.place))&&(decide ((x22.it.place:Int) <(x22.p.network.places.length:Int))))=true then(ck ((0:Int)<=x22.it.place/\x22.it.place <(x22.p.network.places.length:Int)) (z4c φ 0 x22 (gt x22.p.network.places x22.it.place))) else(z4c φ 0 x22 (⟨0,0,0⟩:z6v))) else(ze φ x22))
def z4i (φ:Nat) (x9:Int) (x10:Bool) (x11:zg):Option (Bool×Unit):=(if x10=true then(if((decide ((0:Int)<=x11.it.place))&&(decide ((x11.it.place:Int) <(x11.p.network.places.length:Int))))=true then(ck ((0:Int)<=x11.it.place/\x11.it.place <(x11.p.network.places.length:Int)) (z4j φ 3 x11 (gt x11.p.network.places x11.it.place))) else(z4j φ 3 x11 (⟨0,0,0⟩:z6v))) else(if((x9:Int)==5)=true then(if((decide ((0:Int)<=x11.it.place))&&(decide ((x11.it.place:Int) <(x11.p.network.places.length:Int))))=true then(ck ((0:Int)<=x11.it.place/\x11.it.place <(x11.p.network.places.length:Int)) (z4m φ 0 ((⟨x11.p,(⟨x11.it.kind,x11.it.ref,x11.it.wagon,x11.it.place,0,0,x11.it.from_,x11.it.to,x11.it.code,x11.it.dest,x11.it.class_,x11.it.weight,x11.it.amount,x11.it.text,x11.it.parts⟩:Item),(((x11.ok&&(decide ((1:Int)<=x11.it.number)))&&(decide ((x11.it.number:Int)<=1000000000)))&&(decide ((0:Int)<=x11.it.other)))&&(decide ((x11.it.other:Int)<=(W ((x11.p.shippers.length:Int)-1))))⟩:zg)) (gt x11.p.network.places x11.it.place))) else(z4m φ 0 ((⟨x11.p,(⟨x11.it.kind,x11.it.ref,x11.it.wagon,x11.it.place,0,0,x11.it.from_,x11.it.to,x11.it.code,x11.it.dest,x11.it.class_,x11.it.weight,x11.it.amount,x11.it.text,x11.it.parts⟩:Item),(((x11.ok&&(decide ((1:Int)<=x11.it.number)))&&(decide ((x11.it.number:Int)<=1000000000)))&&(decide ((0:Int)<=x11.it.other)))&&(decide ((x11.it.other:Int)<=(W ((x11.p.shippers.length:Int)-1))))⟩:zg)) (⟨0,0,0⟩:z6v))) else(if((x9:Int)==6)=true then(z4o φ ((x9:Int)==6) x11) else(z4o φ ((x9:Int)==7) x11))))
def z4e (φ:Nat) (x28:Int) (x29:zg) (x30:z6v):Option (Bool×Unit):=((zn (default,()) (((((((((((x29.ok&&((x30.kind:Int) !=0))&&(((x28:Int)==0)||((x30.kind:Int)==x28)))&&(decide (((max2 x29.it.from_ 0):Int)<=x29.it.to)))&&(decide ((x29.it.to:Int)<=1073741824)))&&(decide ((0:Int)<=x29.it.from_)))&&(decide ((x29.it.from_:Int)<=1073741824)))&&(decide ((1:Int)<=x29.it.code)))&&(decide ((x29.it.code:Int)<=2)))&&(decide ((0:Int)<=x29.it.amount)))&&(decide ((x29.it.amount:Int)<=1000000000)))=true) (zle φ x29.it.parts true)).bind fun y32=>(ze φ ((⟨x29.p,(⟨x29.it.kind,x29.it.ref,x29.it.wagon,0,x29.it.other,x29.it.number,0,0,0,x29.it.dest,x29.it.class_,x29.it.weight,0,x29.it.text,([]:List Part)⟩:Item),((((((((((x29.ok&&((x30.kind:Int) !=0))&&(((x28:Int)==0)||((x30.kind:Int)==x28)))&&(decide (((max2 x29.it.from_ 0):Int)<=x29.it.to)))&&(decide ((x29.it.to:Int)<=1073741824)))&&(decide ((0:Int)<=x29.it.from_)))&&(decide ((x29.it.from_:Int)<=1073741824)))&&(decide ((1:Int)<=x29.it.code)))&&(decide ((x29.it.code:Int)<=2)))&&(decide ((0:Int)<=x29.it.amount)))&&(decide ((x29.it.amount:Int)<=1000000000)))&&y32.1⟩:zg))))
def z4p (φ:Nat) (x38:Int) (x39:zg) (x40:z6v):Option (Bool×Unit):=(ze φ ((⟨x39.p,(⟨x39.it.kind,x39.it.ref,x39.it.wagon,0,x39.it.other,0,0,0,x39.it.code,x39.it.dest,0,0,0,x39.it.text,x39.it.parts⟩:Item),(((((((((((((x39.ok&&((x40.kind:Int) !=0))&&(((x38:Int)==0)||((x40.kind:Int)==x38)))&&(decide ((0:Int)<=x39.it.class_)))&&(decide ((x39.it.class_:Int)<=63)))&&(decide ((0:Int)<=x39.it.number)))&&(decide ((x39.it.number:Int)<=(W ((x39.p.fleet.types.length:Int)-1)))))&&(decide ((1:Int)<=x39.it.weight)))&&(decide ((x39.it.weight:Int)<=1000)))&&(decide (((max2 x39.it.from_ 0):Int)<=x39.it.to)))&&(decide ((x39.it.to:Int)<=1073741824)))&&(decide ((0:Int)<=x39.it.from_)))&&(decide ((x39.it.from_:Int)<=1073741824)))&&(decide ((0:Int)<=x39.it.amount)))&&(decide ((x39.it.amount:Int)<=1000000000))⟩:zg)))
def z1q (φ:Nat) (x34:Int) (x35:Bool) (x36:zg):Option (Bool×Unit):=(if x35=true then(if((x36.it.kind:Int) !=13)=true then(ze φ ((⟨x36.p,(⟨x36.it.kind,x36.it.ref,x36.it.wagon,x36.it.place,x36.it.other,0,0,x36.it.to,x36.it.code,x36.it.dest,x36.it.class_,x36.it.weight,x36.it.amount,(⟨#[]⟩:ByteArray),x36.it.parts⟩:Item),(((((x36.ok&&(decide ((1:Int)<=x36.it.number)))&&(decide ((x36.it.number:Int)<=6)))&&(decide ((0:Int)<=x36.it.from_)))&&(decide ((x36.it.from_:Int)<=1073741824)))&&(decide ((1:Int)<=(x36.it.text.size:Int))))&&(decide (((x36.it.text.size:Int):Int)<=2000))⟩:zg))) else(ze φ ((⟨x36.p,(⟨x36.it.kind,x36.it.ref,x36.it.wagon,x36.it.place,x36.it.other,0,0,x36.it.to,x36.it.code,x36.it.dest,x36.it.class_,x36.it.weight,x36.it.amount,x36.it.text,x36.it.parts⟩:Item),(((x36.ok&&(decide ((1:Int)<=x36.it.number)))&&(decide ((x36.it.number:Int)<=6)))&&(decide ((0:Int)<=x36.it.from_)))&&(decide ((x36.it.from_:Int)<=1073741824))⟩:zg)))) else(if((x34:Int)==14)=true then(ze φ x36) else(if((x34:Int)==15)=true then(if((decide ((0:Int)<=x36.it.place))&&(decide ((x36.it.place:Int) <(x36.p.network.places.length:Int))))=true then(ck ((0:Int)<=x36.it.place/\x36.it.place <(x36.p.network.places.length:Int)) (z4p φ 0 ((⟨x36.p,(⟨x36.it.kind,x36.it.ref,x36.it.wagon,x36.it.place,0,x36.it.number,x36.it.from_,x36.it.to,x36.it.code,x36.it.dest,x36.it.class_,x36.it.weight,x36.it.amount,x36.it.text,x36.it.parts⟩:Item),(x36.ok&&(decide ((0:Int)<=x36.it.other)))&&(decide ((x36.it.other:Int)<=(W ((x36.p.shippers.length:Int)-1))))⟩:zg)) (gt x36.p.network.places x36.it.place))) else(z4p φ 0 ((⟨x36.p,(⟨x36.it.kind,x36.it.ref,x36.it.wagon,x36.it.place,0,x36.it.number,x36.it.from_,x36.it.to,x36.it.code,x36.it.dest,x36.it.class_,x36.it.weight,x36.it.amount,x36.it.text,x36.it.parts⟩:Item),(x36.ok&&(decide ((0:Int)<=x36.it.other)))&&(decide ((x36.it.other:Int)<=(W ((x36.p.shippers.length:Int)-1))))⟩:zg)) (⟨0,0,0⟩:z6v))) else(ze φ (⟨x36.p,x36.it,false⟩:zg)))))
def z0i (φ:Nat) (x1:Pool) (x2:Item):Option (Bool×Unit):=(if(decide ((x2.kind:Int)<=7))=true then(if(decide ((x2.kind:Int)<1))=true then(ze φ (⟨x1,x2,false⟩:zg)) else(if((x2.kind:Int)==1)=true then(ze φ ((⟨x1,(⟨x2.kind,x2.ref,0,x2.place,0,x2.number,0,x2.to,x2.code,x2.dest,x2.class_,x2.weight,x2.amount,x2.text,x2.parts⟩:Item),(((((true&&(decide ((0:Int)<=x2.wagon)))&&(decide ((x2.wagon:Int)<=(W ((x1.fleet.wagons.length:Int)-1)))))&&(decide ((0:Int)<=x2.other)))&&(decide ((x2.other:Int)<=(W ((x1.readers.length:Int)-1)))))&&(decide ((0:Int)<=x2.from_)))&&(decide ((x2.from_:Int)<=1073741824))⟩:zg))) else(if((x2.kind:Int)==2)=true then(if((decide ((0:Int)<=x2.place))&&(decide ((x2.place:Int) <(x1.network.places.length:Int))))=true then(ck ((0:Int)<=x2.place/\x2.place <(x1.network.places.length:Int)) (z5m φ 0 ((⟨x1,(⟨x2.kind,x2.ref,0,x2.place,x2.other,x2.number,x2.from_,x2.to,x2.code,x2.dest,x2.class_,x2.weight,x2.amount,x2.text,x2.parts⟩:Item),(true&&(decide ((0:Int)<=x2.wagon)))&&(decide ((x2.wagon:Int)<=(W ((x1.fleet.wagons.length:Int)-1))))⟩:zg)) (gt x1.network.places x2.place))) else(z5m φ 0 ((⟨x1,(⟨x2.kind,x2.ref,0,x2.place,x2.other,x2.number,x2.from_,x2.to,x2.code,x2.dest,x2.class_,x2.weight,x2.amount,x2.text,x2.parts⟩:Item),(true&&(decide ((0:Int)<=x2.wagon)))&&(decide ((x2.wagon:Int)<=(W ((x1.fleet.wagons.length:Int)-1))))⟩:zg)) (⟨0,0,0⟩:z6v))) else(if((x2.kind:Int)==3)=true then(z4i φ x2.kind ((x2.kind:Int)==3) ((⟨x1,(⟨x2.kind,x2.ref,0,x2.place,x2.other,x2.number,x2.from_,x2.to,x2.code,x2.dest,x2.class_,x2.weight,x2.amount,x2.text,x2.parts⟩:Item),(true&&(decide ((0:Int)<=x2.wagon)))&&(decide ((x2.wagon:Int)<=(W ((x1.fleet.wagons.length:Int)-1))))⟩:zg))) else(z4i φ x2.kind ((x2.kind:Int)==4) ((⟨x1,(⟨x2.kind,x2.ref,0,x2.place,x2.other,x2.number,x2.from_,x2.to,x2.code,x2.dest,x2.class_,x2.weight,x2.amount,x2.text,x2.parts⟩:Item),(true&&(decide ((0:Int)<=x2.wagon)))&&(decide ((x2.wagon:Int)<=(W ((x1.fleet.wagons.length:Int)-1))))⟩:zg))))))) else(if((x2.kind:Int)==8)=true then(ze φ ((⟨x1,(⟨x2.kind,x2.ref,0,x2.place,x2.other,x2.number,0,x2.to,0,x2.dest,x2.class_,x2.weight,x2.amount,x2.text,x2.parts⟩:Item),(((((true&&(decide ((0:Int)<=x2.wagon)))&&(decide ((x2.wagon:Int)<=(W ((x1.fleet.wagons.length:Int)-1)))))&&(decide ((0:Int)<=x2.from_)))&&(decide ((x2.from_:Int)<=1073741824)))&&(decide ((1:Int)<=x2.code)))&&(decide ((x2.code:Int)<=9))⟩:zg))) else(if((x2.kind:Int)==9)=true then(if((decide ((0:Int)<=x2.place))&&(decide ((x2.place:Int) <(x1.network.places.length:Int))))=true then(ck ((0:Int)<=x2.place/\x2.place <(x1.network.places.length:Int)) (z4e φ 5 ((⟨x1,(⟨x2.kind,x2.ref,0,x2.place,x2.other,x2.number,x2.from_,x2.to,x2.code,x2.dest,x2.class_,x2.weight,x2.amount,x2.text,x2.parts⟩:Item),(true&&(decide ((0:Int)<=x2.wagon)))&&(decide ((x2.wagon:Int)<=(W ((x1.fleet.wagons.length:Int)-1))))⟩:zg)) (gt x1.network.places x2.place))) else(z4e φ 5 ((⟨x1,(⟨x2.kind,x2.ref,0,x2.place,x2.other,x2.number,x2.from_,x2.to,x2.code,x2.dest,x2.class_,x2.weight,x2.amount,x2.text,x2.parts⟩:Item),(true&&(decide ((0:Int)<=x2.wagon)))&&(decide ((x2.wagon:Int)<=(W ((x1.fleet.wagons.length:Int)-1))))⟩:zg)) (⟨0,0,0⟩:z6v))) else(if((x2.kind:Int)==10)=true then((zn (default,()) ((((true&&(decide ((0:Int)<=x2.other)))&&(decide ((x2.other:Int)<=63)))&&(decide ((0:Int) <(x2.parts.length:Int))))=true) (zle φ x2.parts false)).bind fun y33=>(ze φ ((⟨x1,(⟨x2.kind,x2.ref,x2.wagon,x2.place,0,x2.number,x2.from_,x2.to,x2.code,x2.dest,x2.class_,x2.weight,x2.amount,x2.text,([]:List Part)⟩:Item),(((true&&(decide ((0:Int)<=x2.other)))&&(decide ((x2.other:Int)<=63)))&&(decide ((0:Int) <(x2.parts.length:Int))))&&y33.1⟩:zg)))) else(if((x2.kind:Int)==11)=true then(z1q φ x2.kind ((x2.kind:Int)==11) (⟨x1,x2,true⟩:zg)) else(if((x2.kind:Int)==12)=true then(z1q φ x2.kind ((x2.kind:Int)==12) (⟨x1,x2,true⟩:zg)) else(z1q φ x2.kind ((x2.kind:Int)==13) (⟨x1,x2,true⟩:zg))))))))
def zki (φ:Nat):Fsp TV:=⟨[30,34],[.val 2],fun z=>z0i φ z.1 z.2.1⟩
def znq (φ:Nat) (x1:Pool) (x2:Item):Option (Int×Unit):=((z6y φ x1).bind fun y3=>(if((y3.1:Int) !=0)=true then(some (y3.1,())) else((z7i φ x2).bind fun y4=>((zn (default,()) ((!y4.1)=false) (z0i φ x1 x2)).bind fun y5=>(if((!y4.1)||(!y5.1))=true then(some (110,())) else(some (0,())))))))
def zn8 (φ:Nat):Fsp TV:=⟨[30,34],[.val 0],fun z=>znq φ z.1 z.2.1⟩
def z2x (φ:Nat):Nat->(List z8)->Int->Int->Pool->(List Int)->Option ((List Int)×Unit)
 | 0,_,_,_,_,_=>none
 | n8+1,x3,x4,x5,x6,x7=>(if(decide ((x5:Int)<x4))=true then(ck ((0:Int)<=x5/\x5 <(x3.length:Int)) ((znq φ x6 ((gt x3 x5).item)).bind fun y9=>(if((y9.1:Int)==0)=true then(ck (fits (x7.length +([x5]).length) 8) ((z2x φ n8) x3 x4 (W (x5+1)) x6 (x7++[x5]))) else((z2x φ n8) x3 x4 (W (x5+1)) x6 x7)))) else(some (x7,())))
def zcz (φ:Nat) (x1:Pool) (x2 :(List z8)):Option ((List Int)×Unit):=(z2x φ φ x2 (x2.length:Int) 0 x1 ([]:List Int))
def zel (φ:Nat):Fsp TV:=⟨[30,38],[.val 5],fun z=>zcz φ z.1 z.2.1⟩
def z02 (φ:Nat) (x1:Int) (x2:Int) (x3:Item) (x4:z8) (x5:Int):Option (z6×Unit):=(some ((⟨(⟨x3.wagon,x1,x4.ref,false,x2,x2⟩:z19),x5,false,false,-1⟩:z6),()))
def z9q (φ:Nat):Csp TV:=⟨[0,0],[.b (.val 34),.b (.val 35),.b (.val 0)],[.val 4],fun z b=>z02 φ z.1 z.2.1 b.1 b.2.1 b.2.2.1⟩
def z2t (φ:Nat) (x11:z6) (x12:z6):Option ((List z6)×Unit):=(some ([(⟨x11.visit,x11.report,x11.second,true,x11.reader⟩:z6),(⟨x12.visit,x12.report,true,true,x12.reader⟩:z6)],()))
def z2v (φ:Nat) (x14:Item) (x15:z8) (x16:Int):Option ((List z6)×Unit):=((z02 φ x14.place x14.from_ x14 x15 x16).bind fun y18=>((z02 φ x14.place x14.to x14 x15 x16).bind fun y19=>(z2t φ y18.1 y19.1)))
def z88 (φ:Nat) (x14:Item) (x15:z8) (x16:Int):Option (List (Option ((List z6)×Unit))):=((z02 φ x14.place x14.from_ x14 x15 x16).bind fun y20=>((z02 φ x14.place x14.to x14 x15 x16).bind fun y21=>(catL [(catL [(catL [(catL [(some [(z2t φ y20.1 y21.1)])])])]),(catL [(catL [(catL [(some [(z2t φ y20.1 y21.1)])])])])])))
def z0e (φ:Nat) (x22:Bool) (x23:Item) (x24:z8) (x25:Int):Option ((List z6)×Unit):=(if x22=true then((z02 φ x23.place x23.from_ x23 x24 x25).bind fun y27=>(some ([y27.1],()))) else(some (([]:List z6),())))
def z0d (φ:Nat) (x5:Int) (x6:Bool) (x7:Item) (x8:z8) (x9:Int):Option ((List z6)×Unit):=(if x6=true then(z2v φ x7 x8 x9) else(if((x5:Int)==3)=true then(z0e φ ((x5:Int)==3) x7 x8 x9) else(if((x5:Int)==4)=true then(z0e φ ((x5:Int)==4) x7 x8 x9) else(if((x5:Int)==6)=true then(z0e φ ((x5:Int)==6) x7 x8 x9) else(z0e φ ((x5:Int)==7) x7 x8 x9)))))
def z17 (φ:Nat) (x1:Pool) (x2:z8) (x3:Int):Option ((List z6)×Unit):=(if((x2.item.kind:Int)==1)=true then(ck ((0:Int)<=x2.item.other/\x2.item.other <(x1.readers.length:Int)) ((z02 φ ((gt x1.readers x2.item.other).place) x2.item.from_ x2.item x2 x3).bind fun y4=>(some ([(⟨y4.1.visit,y4.1.report,y4.1.second,y4.1.stay,x2.item.other⟩:z6)],())))) else(if((x2.item.kind:Int)==2)=true then(z0d φ x2.item.kind ((x2.item.kind:Int)==2) x2.item x2 x3) else(z0d φ x2.item.kind ((x2.item.kind:Int)==9) x2.item x2 x3)))
def zc9 (φ:Nat):Fsp TV:=⟨[30,35,0],[.val 39],fun z=>z17 φ z.1 z.2.1 z.2.2.1⟩
def z3y (φ:Nat) (k25 :(Int->Int->Int->Int->(List z6)->(List (Int×Bool))->(List (List z6))->Int->Option ((List (List z6))×Unit))) (x26:Int) (x27:Int) (x28:Int) (x29:Int) (x30:Int) (x31 :(List z6)) (x32 :(List (Int×Bool))) (x33 :(List (List z6))) (x34:Int):Option ((List (List z6))×Unit):=(ck ((0:Int)<=x26/\x26 <(x31.length:Int)) (k25 x27 (W (x28+1)) x29 x30 ((zp x31 x26 ((⟨(⟨((gt x31 x26).visit).wagon,((gt x31 x26).visit).place,((gt x31 x26).visit).ref,decide ((0:Int) <(x32.length:Int)),((gt x31 x26).visit).early,((gt x31 x26).visit).late⟩:z19),(gt x31 x26).report,(gt x31 x26).second,(gt x31 x26).stay,(gt x31 x26).reader⟩:z6)))) x32 x33 x34))
def z18 (φ:Nat) (k15 :(Int->Int->(List (List z6))->Option ((List (List z6))×Unit))):Nat->Int->Int->Int->Int->(List z6)->(List (Int×Bool))->(List (List z6))->Int->Option ((List (List z6))×Unit)
 | 0,_,_,_,_,_,_,_,_=>none
 | n25+1,x17,x18,x19,x20,x21,x22,x23,x24=>(if(decide ((x18:Int)<x17))=true then(ck ((0:Int)<=x18/\x18 <(x21.length:Int)) (ck (((gt x21 x18).stay=true)->(0:Int)<=x18/\x18 <(x21.length:Int)) (if((gt x21 x18).stay&&(gt x21 x18).second)=true then(ck ((0:Int)<=x18/\x18 <(x21.length:Int)) (z3y φ (z18 φ k15 n25) x18 x17 x18 x19 x20 x21 (mdel x22 ((gt x21 x18).report)) x23 x24)) else(ck ((0:Int)<=x18/\x18 <(x21.length:Int)) (if(gt x21 x18).stay=true then(ck ((0:Int)<=x18/\x18 <(x21.length:Int)) (z3y φ (z18 φ k15 n25) x18 x17 x18 x19 x20 x21 (mset x22 ((gt x21 x18).report) true) x23 x24)) else(z3y φ (z18 φ k15 n25) x18 x17 x18 x19 x20 x21 x22 x23 x24)))))) else(k15 x19 (W (x20+1)) (zp x23 x24 x21)))
def z20 (φ:Nat):Nat->Int->Int->(List (List z6))->Option ((List (List z6))×Unit)
 | 0,_,_,_=>none
 | n15+1,x12,x13,x14=>(if(decide ((x13:Int)<x12))=true then(ck ((0:Int)<=x13/\x13 <(x14.length:Int)) (ck ((0:Int)<=x13/\x13 <(x14.length:Int)) (ck ((x13:Int)=x13) ((sortEv (gt x14 x13)).bind fun y16=>(z18 φ (z20 φ n15) φ (y16.length:Int) 0 x12 x13 y16 ([]:List (Int×Bool)) x14 x13))))) else(some (x14,())))
def z33 (φ:Nat):Nat->(List z8)->(List Int)->Int->Int->Pool->(List (List z6))->Option ((List (List z6))×Unit)
 | 0,_,_,_,_,_,_=>none
 | n10+1,x4,x5,x6,x7,x8,x9=>(if(decide ((x7:Int)<x6))=true then(ck ((0:Int)<=x7/\x7 <(x5.length:Int)) (ck ((0:Int)<=(gt x5 x7)/\(gt x5 x7) <(x4.length:Int)) ((z17 φ x8 (gt x4 (gt x5 x7)) (gt x5 x7)).bind fun y11=>(if(decide ((0:Int) <(y11.1.length:Int)))=true then(ck ((0:Int)<=(gt x5 x7)/\(gt x5 x7) <(x4.length:Int)) (ck ((0:Int)<=((gt x4 (gt x5 x7)).item).wagon/\((gt x4 (gt x5 x7)).item).wagon <(x9.length:Int)) (ck ((0:Int)<=((gt x4 (gt x5 x7)).item).wagon/\((gt x4 (gt x5 x7)).item).wagon <(x9.length:Int)) (ck ((((gt x4 (gt x5 x7)).item).wagon:Int) =((gt x4 (gt x5 x7)).item).wagon) (ck (fits (((gt x9 (((gt x4 (gt x5 x7)).item).wagon))).length+y11.1.length) 80) (ck ((0:Int)<=((gt x4 (gt x5 x7)).item).wagon/\((gt x4 (gt x5 x7)).item).wagon <(x9.length:Int)) (ck ((((gt x4 (gt x5 x7)).item).wagon:Int) =((gt x4 (gt x5 x7)).item).wagon) ((z33 φ n10) x4 x5 x6 (W (x7+1)) x8 ((zp x9 (((gt x4 (gt x5 x7)).item).wagon) (((gt x9 (((gt x4 (gt x5 x7)).item).wagon))++y11.1)))))))))))) else((z33 φ n10) x4 x5 x6 (W (x7+1)) x8 x9))))) else(z20 φ φ (x9.length:Int) 0 x9))
def zfr (φ:Nat) (x1:Pool) (x2 :(List z8)):Option ((List (List z6))×Unit):=(ck (z4v (x1.fleet.wagons.length:Int) 24) ((zcz φ x1 x2).bind fun y3=>(z33 φ φ x2 y3.1 (y3.1.length:Int) 0 x1 (List.replicate ((x1.fleet.wagons.length:Int):Int).toNat (default :(List z6))))))
def zgk (φ:Nat):Fsp TV:=⟨[30,38],[.val 40],fun z=>zfr φ z.1 z.2.1⟩
def z3p (φ:Nat) (k23 :((List Edge)->Int->Int->Int->Int->zc->zc->(List (List Int))->(List ((Nat->Int)×Int))->Option (Int×Int×Unit))) (x40:Int) (x41:Int) (x42:Bool) (x43 :(List Edge)) (x44:Int) (x45:Int) (x46:Int) (x47:Int) (x48:zc) (x49 :(Nat->Int)) (x50:zc) (x51 :(List (List Int))) (x52 :(List ((Nat->Int)×Int))):Option (Int×Int×Unit):=(ck (((!x42)=false)->(0:Int)<=x40/\x40 <(x48.edges.length:Int)) (ck (((!x42)=false)->(0:Int)<=x41/\x41 <(x48.edges.length:Int)) (if((!x42)||(decide (((gt x48.edges x40).minutes:Int) <(gt x48.edges x41).minutes)))=true then(k23 x43 x44 (W (x45+1)) x46 x47 x48 x50 x51 (@mset _ _ ⟨beqA 2⟩ x52 x49 x40)) else(k23 x43 x44 (W (x45+1)) x46 x47 x48 x50 x51 x52))))
def z3m (φ:Nat) (k23 :((List Edge)->Int->Int->Int->Int->zc->zc->(List (List Int))->(List ((Nat->Int)×Int))->Option (Int×Int×Unit))) (x54:Int) (x55:Int) (x56:Bool) (x57 :(List Edge)) (x58:Int) (x59:Int) (x60:Int) (x61:Int) (x62:zc) (x63 :(Nat->Int)) (x64:zc) (x65 :(List (List Int))) (x66 :(List ((Nat->Int)×Int))):Option (Int×Int×Unit):=(ck (((!x56)=false)->(0:Int)<=x54/\x54 <(x62.edges.length:Int)) (ck (((!x56)=false)->(0:Int)<=x55/\x55 <(x62.edges.length:Int)) (if((!x56)||(decide (((gt x62.edges x54).minutes:Int) <(gt x62.edges x55).minutes)))=true then(k23 x57 x58 (W (x59+1)) x60 x61 x62 x64 x65 (@mset _ _ ⟨beqA 2⟩ x66 x63 x54)) else(k23 x57 x58 (W (x59+1)) x60 x61 x62 x64 x65 x66))))
def z3s (φ:Nat) (k23 :((List Edge)->Int->Int->Int->Int->zc->zc->(List (List Int))->(List ((Nat->Int)×Int))->Option (Int×Int×Unit))) (x24:Int) (x25:Int) (x26:Bool) (x27:Int) (x28 :(List Edge)) (x29:Int) (x30:Int) (x31:Int) (x32:Int) (x33:zc) (x34 :(Nat->Int)) (x35:Edge) (x36:zc) (x37 :(List (List Int))) (x38 :(List ((Nat->Int)×Int))):Option (Int×Int×Unit):=(ck (((!x26)=false)->(0:Int)<=x24/\x24 <(x33.edges.length:Int)) (ck (((!x26)=false)->(0:Int)<=x25/\x25 <(x33.edges.length:Int)) (if((!x26)||(decide (((gt x33.edges x24).minutes:Int) <(gt x33.edges x25).minutes)))=true then(if(!(@mget _ _ ⟨beqA 2⟩ (@mset _ _ ⟨beqA 2⟩ x38 x34 x24) ((upd (upd (fun _=>(default:Int)) 0 x35.b) 1 x35.a))).isSome)=true then(ck ((0:Int)<=x35.b/\x35.b <(x37.length:Int)) (ck ((0:Int)<=x35.b/\x35.b <(x37.length:Int)) (ck ((x35.b:Int)=x35.b) (ck (fits ((gt x37 x35.b).length +([x35.a]).length) 8) (ck ((0:Int)<=x35.b/\x35.b <(x37.length:Int)) (ck ((x35.b:Int)=x35.b) (z3p φ k23 x27 (((@mget _ _ ⟨beqA 2⟩ (@mset _ _ ⟨beqA 2⟩ x38 x34 x24) ((upd (upd (fun _=>(default:Int)) 0 x35.b) 1 x35.a))).getD default)) ((@mget _ _ ⟨beqA 2⟩ (@mset _ _ ⟨beqA 2⟩ x38 x34 x24) ((upd (upd (fun _=>(default:Int)) 0 x35.b) 1 x35.a))).isSome) x28 x29 x30 x31 x32 x33 ((upd (upd (fun _=>(default:Int)) 0 x35.b) 1 x35.a)) x36 (zp x37 x35.b ((gt x37 x35.b)++[x35.a])) (@mset _ _ ⟨beqA 2⟩ x38 x34 x24)))))))) else(z3p φ k23 x27 (((@mget _ _ ⟨beqA 2⟩ (@mset _ _ ⟨beqA 2⟩ x38 x34 x24) ((upd (upd (fun _=>(default:Int)) 0 x35.b) 1 x35.a))).getD default)) ((@mget _ _ ⟨beqA 2⟩ (@mset _ _ ⟨beqA 2⟩ x38 x34 x24) ((upd (upd (fun _=>(default:Int)) 0 x35.b) 1 x35.a))).isSome) x28 x29 x30 x31 x32 x33 ((upd (upd (fun _=>(default:Int)) 0 x35.b) 1 x35.a)) x36 x37 (@mset _ _ ⟨beqA 2⟩ x38 x34 x24))) else(if(!(@mget _ _ ⟨beqA 2⟩ x38 ((upd (upd (fun _=>(default:Int)) 0 x35.b) 1 x35.a))).isSome)=true then(ck ((0:Int)<=x35.b/\x35.b <(x37.length:Int)) (ck ((0:Int)<=x35.b/\x35.b <(x37.length:Int)) (ck ((x35.b:Int)=x35.b) (ck (fits ((gt x37 x35.b).length +([x35.a]).length) 8) (ck ((0:Int)<=x35.b/\x35.b <(x37.length:Int)) (ck ((x35.b:Int)=x35.b) (z3m φ k23 x27 (((@mget _ _ ⟨beqA 2⟩ x38 ((upd (upd (fun _=>(default:Int)) 0 x35.b) 1 x35.a))).getD default)) ((@mget _ _ ⟨beqA 2⟩ x38 ((upd (upd (fun _=>(default:Int)) 0 x35.b) 1 x35.a))).isSome) x28 x29 x30 x31 x32 x33 ((upd (upd (fun _=>(default:Int)) 0 x35.b) 1 x35.a)) x36 (zp x37 x35.b ((gt x37 x35.b)++[x35.a])) x38))))))) else(z3m φ k23 x27 (((@mget _ _ ⟨beqA 2⟩ x38 ((upd (upd (fun _=>(default:Int)) 0 x35.b) 1 x35.a))).getD default)) ((@mget _ _ ⟨beqA 2⟩ x38 ((upd (upd (fun _=>(default:Int)) 0 x35.b) 1 x35.a))).isSome) x28 x29 x30 x31 x32 x33 ((upd (upd (fun _=>(default:Int)) 0 x35.b) 1 x35.a)) x36 x37 x38)))))
def z12 (φ:Nat) (k93 :(Int->zc->(List Int)->(List Bool)->(List (List Int))->(List ((Nat->Int)×Int))->Option (Int×Int×Unit))):Nat->Int->Int->Int->Int->zc->(List Int)->(List Bool)->(List Int)->(List (List Int))->Int->(List ((Nat->Int)×Int))->Option (Int×Int×Unit)
 | 0,_,_,_,_,_,_,_,_,_,_,_=>none
 | n115+1,x104,x105,x106,x107,x108,x109,x110,x111,x112,x113,x114=>(if(decide ((x106:Int)<x105))=true then(ck ((0:Int)<=x106/\x106 <(x111.length:Int)) (ck ((0:Int)<=x104/\x104 <(x109.length:Int)) (ck ((0:Int)<=((@mget _ _ ⟨beqA 2⟩ x114 ((upd (upd (fun _=>(default:Int)) 0 x104) 1 (gt x111 x106)))).getD default)/\((@mget _ _ ⟨beqA 2⟩ x114 ((upd (upd (fun _=>(default:Int)) 0 x104) 1 (gt x111 x106)))).getD default) <(x108.edges.length:Int)) (ck ((0:Int)<=(gt x111 x106)/\(gt x111 x106) <(x109.length:Int)) (ck (((decide (((gt x109 (gt x111 x106)):Int)<0))=false)->(0:Int)<=(gt x111 x106)/\(gt x111 x106) <(x109.length:Int)) (if((decide (((gt x109 (gt x111 x106)):Int)<0))||(decide (((W ((gt x109 x104) +((gt x108.edges (((@mget _ _ ⟨beqA 2⟩ x114 ((upd (upd (fun _=>(default:Int)) 0 x104) 1 (gt x111 x106)))).getD default)))).minutes)):Int) <(gt x109 (gt x111 x106)))))=true then(ck ((0:Int)<=(gt x111 x106)/\(gt x111 x106) <(x109.length:Int)) ((z12 φ k93 n115) x104 x105 (W (x106+1)) x107 x108 ((zp x109 (gt x111 x106) ((W ((gt x109 x104) +((gt x108.edges (((@mget _ _ ⟨beqA 2⟩ x114 ((upd (upd (fun _=>(default:Int)) 0 x104) 1 (gt x111 x106)))).getD default)))).minutes))))) x110 x111 x112 x113 x114)) else((z12 φ k93 n115) x104 x105 (W (x106+1)) x107 x108 x109 x110 x111 x112 x113 x114))))))) else(k93 x107 x108 x109 x110 (zp x112 x113 x111) x114))
def z11 (φ:Nat) (k93 :(Int->zc->(List Int)->(List Bool)->(List (List Int))->(List ((Nat->Int)×Int))->Option (Int×Int×Unit))):Nat->Int->Int->Int->Int->zc->(List Int)->(List Bool)->(List (List Int))->(List ((Nat->Int)×Int))->Option (Int×Int×Unit)
 | 0,_,_,_,_,_,_,_,_,_=>none
 | n103+1,x94,x95,x96,x97,x98,x99,x100,x101,x102=>(if(decide ((x96:Int)<x95))=true then(ck ((0:Int)<=x96/\x96 <(x99.length:Int)) (ck (((decide ((0:Int)<=(gt x99 x96)))=true)->(0:Int)<=x96/\x96 <(x100.length:Int)) (ck ((((decide ((0:Int)<=(gt x99 x96)))&&(!(gt x100 x96)))=true/\(decide ((x94:Int)<0))=false)->(0:Int)<=x96/\x96 <(x99.length:Int)) (ck ((((decide ((0:Int)<=(gt x99 x96)))&&(!(gt x100 x96)))=true/\(decide ((x94:Int)<0))=false)->(0:Int)<=x94/\x94 <(x99.length:Int)) (if(((decide ((0:Int)<=(gt x99 x96)))&&(!(gt x100 x96)))&&((decide ((x94:Int)<0))||(decide (((gt x99 x96):Int) <(gt x99 x94)))))=true then((z11 φ k93 n103) x96 x95 (W (x96+1)) x97 x98 x99 x100 x101 x102) else((z11 φ k93 n103) x94 x95 (W (x96+1)) x97 x98 x99 x100 x101 x102)))))) else(if(decide ((x94:Int)<0))=true then(ck ((0:Int)<=x97/\x97 <(x99.length:Int)) (if(decide (((gt x99 x97):Int)<0))=true then(some (0,80,())) else(some ((gt x99 x97),0,())))) else(ck ((0:Int)<=x94/\x94 <(x100.length:Int)) (ck ((0:Int)<=x94/\x94 <(x101.length:Int)) (ck ((0:Int)<=x94/\x94 <(x101.length:Int)) (ck ((x94:Int)=x94) (z12 φ k93 φ x94 ((gt x101 x94).length:Int) 0 x97 x98 x99 (zp x100 x94 true) (gt x101 x94) x101 x94 x102)))))))
def zw (φ:Nat):Nat->Int->zc->(List Int)->(List Bool)->(List (List Int))->(List ((Nat->Int)×Int))->Option (Int×Int×Unit)
 | 0,_,_,_,_,_,_=>none
 | n93+1,x87,x88,x89,x90,x91,x92=>(z11 φ (zw φ n93) φ (-1) (x89.length:Int) 0 x87 x88 x89 x90 x91 x92)
def z05 (φ:Nat):Nat->Int->Int->Int->Int->zc->(List Int)->(List Bool)->(List (List Int))->(List ((Nat->Int)×Int))->Option (Int×Int×Unit)
 | 0,_,_,_,_,_,_,_,_,_=>none
 | n86+1,x77,x78,x79,x80,x81,x82,x83,x84,x85=>(if(decide ((x79:Int)<x78))=true then(ck ((0:Int)<=x79/\x79 <(x82.length:Int)) ((z05 φ n86) x77 x78 (W (x79+1)) x80 x81 (zp x82 x79 (-1)) x83 x84 x85)) else(ck ((0:Int)<=x77/\x77 <(x82.length:Int)) (zw φ φ x80 x81 (zp x82 x77 0) x83 x84 x85)))
def z1g (φ:Nat):Nat->Int->Int->Int->Int->(List (List Int))->zc->(List ((Nat->Int)×Int))->Option (Int×Int×Unit)
 | 0,_,_,_,_,_,_,_=>none
 | n75+1,x68,x69,x70,x71,x72,x73,x74=>(if(decide ((x69:Int)<x68))=true then(ck ((0:Int)<=x69/\x69 <(x72.length:Int)) (ck ((0:Int)<=x69/\x69 <(x72.length:Int)) (ck ((x69:Int)=x69) ((zxn (gt x72 x69)).bind fun y76=>((z1g φ n75) x68 (W (x69+1)) x70 x71 (zp x72 x69 y76) x73 x74))))) else(ck (z4v (x73.places.length:Int) 8) (ck (z4v (((List.replicate ((x73.places.length:Int):Int).toNat (default:Int)).length:Int)) 1) (z05 φ φ x70 (((List.replicate ((x73.places.length:Int):Int).toNat (default:Int)).length:Int)) 0 x71 x73 (List.replicate ((x73.places.length:Int):Int).toNat (default:Int)) ((List.replicate (((List.replicate ((x73.places.length:Int):Int).toNat (default:Int)).length:Int):Int).toNat (default:Bool))) x72 x74))))
def zr (φ:Nat):Nat->(List Edge)->Int->Int->Int->Int->zc->zc->(List (List Int))->(List ((Nat->Int)×Int))->Option (Int×Int×Unit)
 | 0,_,_,_,_,_,_,_,_,_=>none
 | n23+1,x14,x15,x16,x17,x18,x19,x20,x21,x22=>(if(decide ((x16:Int)<x15))=true then(ck ((0:Int)<=x16/\x16 <(x14.length:Int)) (if(!(@mget _ _ ⟨beqA 2⟩ x22 ((upd (upd (fun _=>(default:Int)) 0 ((gt x14 x16).a)) 1 ((gt x14 x16).b)))).isSome)=true then(ck ((0:Int)<=(gt x14 x16).a/\(gt x14 x16).a <(x21.length:Int)) (ck ((0:Int)<=(gt x14 x16).a/\(gt x14 x16).a <(x21.length:Int)) (ck (((gt x14 x16).a:Int) =(gt x14 x16).a) (ck (fits ((gt x21 ((gt x14 x16).a)).length +([(gt x14 x16).b]).length) 8) (ck ((0:Int)<=(gt x14 x16).a/\(gt x14 x16).a <(x21.length:Int)) (ck (((gt x14 x16).a:Int) =(gt x14 x16).a) (z3s φ (zr φ n23) x16 (((@mget _ _ ⟨beqA 2⟩ x22 ((upd (upd (fun _=>(default:Int)) 0 ((gt x14 x16).a)) 1 ((gt x14 x16).b)))).getD default)) ((@mget _ _ ⟨beqA 2⟩ x22 ((upd (upd (fun _=>(default:Int)) 0 ((gt x14 x16).a)) 1 ((gt x14 x16).b)))).isSome) x16 x14 x15 x16 x17 x18 x19 ((upd (upd (fun _=>(default:Int)) 0 ((gt x14 x16).a)) 1 ((gt x14 x16).b))) (gt x14 x16) x20 ((zp x21 ((gt x14 x16).a) (((gt x21 ((gt x14 x16).a))++[(gt x14 x16).b])))) x22))))))) else(z3s φ (zr φ n23) x16 (((@mget _ _ ⟨beqA 2⟩ x22 ((upd (upd (fun _=>(default:Int)) 0 ((gt x14 x16).a)) 1 ((gt x14 x16).b)))).getD default)) ((@mget _ _ ⟨beqA 2⟩ x22 ((upd (upd (fun _=>(default:Int)) 0 ((gt x14 x16).a)) 1 ((gt x14 x16).b)))).isSome) x16 x14 x15 x16 x17 x18 x19 ((upd (upd (fun _=>(default:Int)) 0 ((gt x14 x16).a)) 1 ((gt x14 x16).b))) (gt x14 x16) x20 x21 x22))) else(z1g φ φ (x21.length:Int) 0 x17 x18 x21 x20 x22))
def zx (φ:Nat):Nat->Int->Int->Int->Int->zc->(List Int)->zc->(List (List Int))->Option (Int×Int×Unit)
 | 0,_,_,_,_,_,_,_,_=>none
 | n13+1,x5,x6,x7,x8,x9,x10,x11,x12=>(if(decide ((x6:Int)<x5))=true then(ck ((0:Int)<=x6/\x6 <(x10.length:Int)) (if((decide (((gt x10 x6):Int)<0))||(decide (((x9.places.length:Int):Int)<=(gt x10 x6))))=true then(some (0,1,())) else((zx φ n13) x5 (W (x6+1)) x7 x8 x9 x10 x11 x12))) else(ck (z4v (x9.places.length:Int) 24) (zr φ φ x9.edges (x9.edges.length:Int) 0 x7 x8 x9 x11 (List.replicate ((x9.places.length:Int):Int).toNat (default :(List Int))) ([]:List ((Nat->Int)×Int)))))
def zm (φ:Nat) (x1:zc) (x2:Int) (x3:Int):Option (Int×Int×Unit):=((z9c φ x1).bind fun y4=>(if((y4.1:Int) !=0)=true then(if((y4.1:Int) !=0)=true then(some (0,y4.1,())) else(ck (z4v (x1.places.length:Int) 8) (ck (z4v (((List.replicate ((x1.places.length:Int):Int).toNat (default:Int)).length:Int)) 1) none))) else(zx φ φ (([x2,x3]).length:Int) 0 x2 x3 x1 ([x2,x3]) x1 ([]:List (List Int)))))
def zag (φ:Nat):Fsp TV:=⟨[11,0,0],[.val 0,.val 0],fun z=>zm φ z.1 z.2.1 z.2.2.1⟩
def z2s (φ:Nat) (x1:zc) (x2:z19) (x3:z19):Option (Int×Unit):=(if(((x2.place:Int) !=x3.place)&&x2.stay)=true then(some (1073741825,())) else((zm φ x1 x2.place x3.place).bind fun y4=>(if((y4.2.1:Int) !=0)=true then(some (1073741825,())) else(some (y4.1,())))))
def zgn (φ:Nat):Fsp TV:=⟨[11,3,3],[.val 0],fun z=>z2s φ z.1 z.2.1 z.2.2.1⟩
def z2k (φ:Nat) (k19 :((List (List z6))->(List (List z6))->Int->Int->Pool->Int->Int->(List (Int×Int))->(List zb)->(List (Nat->Ref))->(List z0o)->(List zb)->(List (Nat->Ref))->(List z0o)->Option (z0p×Int×Unit))):Nat->(List (List z6))->(List (List z6))->Int->Int->(List z6)->Int->Int->Pool->Int->Int->(List (Int×Int))->(List zb)->(List (Nat->Ref))->(List z0o)->(List zb)->(List (Nat->Ref))->(List z0o)->Option (z0p×Int×Unit)
 | 0,_,_,_,_,_,_,_,_,_,_,_,_,_,_,_,_,_=>none
 | n37+1,x20,x21,x22,x23,x24,x25,x26,x27,x28,x29,x30,x31,x32,x33,x34,x35,x36=>(if(decide ((x26:Int)<x25))=true then(ck ((0:Int)<=x26/\x26 <(x24.length:Int)) (if(decide ((0:Int)<=(gt x24 x26).reader))=true then((z2k φ k19 n37) x20 x21 x22 x23 x24 x25 (W (x26+1)) x27 x28 x29 (mset x30 ((gt x24 x26).reader) 0) x31 x32 x33 x34 x35 x36) else((z2k φ k19 n37) x20 x21 x22 x23 x24 x25 (W (x26+1)) x27 x28 x29 x30 x31 x32 x33 x34 x35 x36))) else(k19 x20 x21 x22 (W (x23+1)) x27 x28 x29 x30 x31 x32 x33 x34 x35 x36))
def z3r (φ:Nat) (k52 :((List (List z6))->(List z15)->Int->Int->Pool->Int->Int->(List (Int×Int))->(List zb)->(List (Nat->Ref))->(List z0o)->(List zb)->(List (Nat->Ref))->(List z0o)->Option (z0p×Int×Unit))):Nat->Int->Int->(List (List z6))->(List z15)->Int->Int->(Nat->Ref)->Int->Int->Int->zb->Int->Int->zb->Int->(Nat->Ref)->(List zb)->Pool->Int->(List (Int×Int))->z15->(List zb)->(List (Nat->Ref))->(List z0o)->(List zb)->(List (Nat->Ref))->(List z0o)->Option (z0p×Int×Unit)
 | 0,_,_,_,_,_,_,_,_,_,_,_,_,_,_,_,_,_,_,_,_,_,_,_,_,_,_,_=>none
 | n80+1,x53,x54,x55,x56,x57,x58,x59,x60,x61,x62,x63,x64,x65,x66,x67,x68,x69,x70,x71,x72,x73,x74,x75,x76,x77,x78,x79=>(if(decide ((x54:Int)<x53))=true then(ck ((0:Int)<=x54/\x54 <(x69.length:Int)) (ck (fits (x74.length +([(gt x69 x54)]).length) 24) (ck (fits (x75.length +([x68]).length) 32) ((z3r φ k52 n80) x53 (W (x54+1)) x55 x56 x57 x58 x59 x60 x61 x62 x63 x64 x65 x66 x67 x68 x69 x70 x71 x72 x73 (x74++[(gt x69 x54)]) (x75++[x68]) x76 x77 x78 x79)))) else(k52 x55 x56 x57 (W (x58+1)) x70 x71 (W (x67+1)) x72 x77 x78 x79 x74 x75 x76))
def z30 (φ:Nat) (k112 :((List z6)->(List (List z6))->Int->Int->(List z6)->Int->Int->Pool->Int->Int->(List (Int×Int))->(List zb)->(List (Nat->Ref))->(List z0o)->(List zb)->(List (Nat->Ref))->(List z0o)->Option (z0p×Int×Unit))):Nat->Int->Int->(List z6)->(List (List z6))->Int->Int->(List z6)->Int->Int->Ref->Ref->(Nat->Ref)->Int->Int->Int->zc->z19->z19->Int->Int->zb->Int->(Nat->Ref)->(List zb)->Pool->Int->(List (Int×Int))->z19->z6->(List zb)->(List (Nat->Ref))->(List z0o)->(List zb)->(List (Nat->Ref))->(List z0o)->Option (z0p×Int×Unit)
 | 0,_,_,_,_,_,_,_,_,_,_,_,_,_,_,_,_,_,_,_,_,_,_,_,_,_,_,_,_,_,_,_,_,_,_,_=>none
 | n170+1,x135,x136,x137,x138,x139,x140,x141,x142,x143,x144,x145,x146,x147,x148,x149,x150,x151,x152,x153,x154,x155,x156,x157,x158,x159,x160,x161,x162,x163,x164,x165,x166,x167,x168,x169=>(if(decide ((x136:Int)<x135))=true then(ck ((0:Int)<=x136/\x136 <(x158.length:Int)) (ck (fits (x164.length +([(gt x158 x136)]).length) 24) (ck (fits (x165.length +([x157]).length) 32) ((z30 φ k112 n170) x135 (W (x136+1)) x137 x138 x139 x140 x141 x142 x143 x144 x145 x146 x147 x148 x149 x150 x151 x152 x153 x154 x155 x156 x157 x158 x159 x160 x161 x162 x163 (x164++[(gt x158 x136)]) (x165++[x157]) x166 x167 x168 x169)))) else(k112 x137 x138 x139 x140 x141 x142 (W (x143+1)) x159 x160 x156 x161 x167 x168 x169 x164 x165 x166))
def z1a (φ:Nat) (k112 :((List z6)->(List (List z6))->Int->Int->(List z6)->Int->Int->Pool->Int->Int->(List (Int×Int))->(List zb)->(List (Nat->Ref))->(List z0o)->(List zb)->(List (Nat->Ref))->(List z0o)->Option (z0p×Int×Unit))) (x113 :(List z6)) (x114:Int) (x115:Int) (x116 :(List (List z6))) (x117:Int) (x118:Int) (x119 :(List z6)) (x120:Int) (x121:Int) (x122:Pool) (x123:Int) (x124:Int) (x125 :(List (Int×Int))) (x126:z6) (x127 :(List zb)) (x128 :(List (Nat->Ref))) (x129 :(List z0o)) (x130 :(List zb)) (x131 :(List (Nat->Ref))) (x132 :(List z0o)):Option (z0p×Int×Unit):=(if(decide ((0:Int)<x114))=true then(ck ((0:Int)<=(W (x114-1))/\(W (x114-1)) <(x113.length:Int)) ((z2s φ x122.network (((gt x113 (W (x114-1))).visit)) x126.visit).bind fun y134=>(z30 φ k112 φ ((([(⟨x115,W (x115-1),W (0-y134.1)⟩:zb)]).length:Int)) 0 x113 x116 x117 x118 x119 x120 x121 ((((gt x113 (W (x114-1))).visit).ref)) x126.visit.ref ((upd ((upd (fun _=>(default:Ref)) 0 ((((gt x113 (W (x114-1))).visit).ref)))) 1 x126.visit.ref)) x115 x115 (W (x115-1)) x122.network (((gt x113 (W (x114-1))).visit)) x126.visit y134.1 (W (0-y134.1)) (⟨x115,W (x115-1),W (0-y134.1)⟩:zb) x124 ((upd ((upd (fun _=>(default:Ref)) 0 ((((gt x113 (W (x114-1))).visit).ref)))) 1 x126.visit.ref)) ([(⟨x115,W (x115-1),W (0-y134.1)⟩:zb)]) x122 x123 x125 (((gt x113 (W (x114-1))).visit)) x126 x130 x131 x132 x127 x128 x129))) else(k112 x113 x116 x117 x118 x119 x120 (W (x121+1)) x122 x123 x124 x125 x127 x128 x129 x130 x131 x132))
def z36 (φ:Nat) (k112 :((List z6)->(List (List z6))->Int->Int->(List z6)->Int->Int->Pool->Int->Int->(List (Int×Int))->(List zb)->(List (Nat->Ref))->(List z0o)->(List zb)->(List (Nat->Ref))->(List z0o)->Option (z0p×Int×Unit))):Nat->Int->Int->(List z6)->Int->Int->(List (List z6))->Int->Int->(List z6)->Int->Int->Int->(Nat->Ref)->(List zb)->Pool->Int->(List (Int×Int))->z6->(List zb)->(List (Nat->Ref))->(List z0o)->(List zb)->(List (Nat->Ref))->(List z0o)->Option (z0p×Int×Unit)
 | 0,_,_,_,_,_,_,_,_,_,_,_,_,_,_,_,_,_,_,_,_,_,_,_,_=>none
 | n195+1,x171,x172,x173,x174,x175,x176,x177,x178,x179,x180,x181,x182,x183,x184,x185,x186,x187,x188,x189,x190,x191,x192,x193,x194=>(if(decide ((x172:Int)<x171))=true then(ck ((0:Int)<=x172/\x172 <(x184.length:Int)) (ck (fits (x189.length +([(gt x184 x172)]).length) 24) (ck (fits (x190.length +([x183]).length) 32) ((z36 φ k112 n195) x171 (W (x172+1)) x173 x174 x175 x176 x177 x178 x179 x180 x181 x182 x183 x184 x185 x186 x187 x188 (x189++[(gt x184 x172)]) (x190++[x183]) x191 x192 x193 x194)))) else(z1a φ k112 x173 x174 x175 x176 x177 x178 x179 x180 x181 x185 x186 x182 x187 x188 x192 x193 x194 x189 x190 x191))
def z38 (φ:Nat) (k112 :((List z6)->(List (List z6))->Int->Int->(List z6)->Int->Int->Pool->Int->Int->(List (Int×Int))->(List zb)->(List (Nat->Ref))->(List z0o)->(List zb)->(List (Nat->Ref))->(List z0o)->Option (z0p×Int×Unit))):Nat->Int->Int->(List z6)->Int->Int->(List (List z6))->Int->Int->(List z6)->Int->Int->Int->(Nat->Ref)->(List zb)->Pool->Int->(List (Int×Int))->z6->(List zb)->(List (Nat->Ref))->(List z0o)->(List zb)->(List (Nat->Ref))->(List z0o)->Option (z0p×Int×Unit)
 | 0,_,_,_,_,_,_,_,_,_,_,_,_,_,_,_,_,_,_,_,_,_,_,_,_=>none
 | n220+1,x196,x197,x198,x199,x200,x201,x202,x203,x204,x205,x206,x207,x208,x209,x210,x211,x212,x213,x214,x215,x216,x217,x218,x219=>(if(decide ((x197:Int)<x196))=true then(ck ((0:Int)<=x197/\x197 <(x209.length:Int)) (ck (fits (x214.length +([(gt x209 x197)]).length) 24) (ck (fits (x215.length +([x208]).length) 32) ((z38 φ k112 n220) x196 (W (x197+1)) x198 x199 x200 x201 x202 x203 x204 x205 x206 x207 x208 x209 x210 x211 x212 x213 (x214++[(gt x209 x197)]) (x215++[x208]) x216 x217 x218 x219)))) else(z1a φ k112 x198 x199 x200 x201 x202 x203 x204 x205 x206 x210 x211 x207 x212 x213 x217 x218 x219 x214 x215 x216))
def z0l (φ:Nat) (k94 :((List (List z6))->Int->Int->Pool->Int->Int->(List (Int×Int))->(List zb)->(List (Nat->Ref))->(List z0o)->(List zb)->(List (Nat->Ref))->(List z0o)->Option (z0p×Int×Unit))):Nat->(List z6)->(List (List z6))->Int->Int->(List z6)->Int->Int->Pool->Int->Int->(List (Int×Int))->(List zb)->(List (Nat->Ref))->(List z0o)->(List zb)->(List (Nat->Ref))->(List z0o)->Option (z0p×Int×Unit)
 | 0,_,_,_,_,_,_,_,_,_,_,_,_,_,_,_,_,_=>none
 | n112+1,x95,x96,x97,x98,x99,x100,x101,x102,x103,x104,x105,x106,x107,x108,x109,x110,x111=>(if(decide ((x101:Int)<x100))=true then(ck ((0:Int)<=x101/\x101 <(x99.length:Int)) (ck (fits (x111.length +([(⟨((gt x99 x101).visit).wagon,((gt x99 x101).visit).place,x104,((gt x99 x101).visit).ref,((gt x99 x101).visit).stay⟩:z0o)]).length) 48) (if(decide (((gt x99 x101).reader:Int)<0))=true then(z36 φ (z0l φ k94 n112) φ ((([(⟨0,x104,((gt x99 x101).visit).early⟩:zb),(⟨x104,0,W (0 -((gt x99 x101).visit).early)⟩:zb)]).length:Int)) 0 x95 x101 x104 x96 x97 x98 x99 x100 x101 (W (x104+1)) ((upd (fun _=>(default:Ref)) 0 (((gt x99 x101).visit).ref))) ([(⟨0,x104,((gt x99 x101).visit).early⟩:zb),(⟨x104,0,W (0 -((gt x99 x101).visit).early)⟩:zb)]) x102 x103 x105 (gt x99 x101) x109 x110 ((x111++[(⟨((gt x99 x101).visit).wagon,((gt x99 x101).visit).place,x104,((gt x99 x101).visit).ref,((gt x99 x101).visit).stay⟩:z0o)])) x106 x107 x108) else(z38 φ (z0l φ k94 n112) φ ((([(⟨(mget x105 ((gt x99 x101).reader)).getD default,x104,((gt x99 x101).visit).early⟩:zb),(⟨x104,(mget x105 ((gt x99 x101).reader)).getD default,W (0 -((gt x99 x101).visit).early)⟩:zb),(⟨0,x104,1073741824⟩:zb),(⟨x104,0,0⟩:zb)]).length:Int)) 0 x95 x101 x104 x96 x97 x98 x99 x100 x101 (W (x104+1)) ((upd (fun _=>(default:Ref)) 0 (((gt x99 x101).visit).ref))) ([(⟨(mget x105 ((gt x99 x101).reader)).getD default,x104,((gt x99 x101).visit).early⟩:zb),(⟨x104,(mget x105 ((gt x99 x101).reader)).getD default,W (0 -((gt x99 x101).visit).early)⟩:zb),(⟨0,x104,1073741824⟩:zb),(⟨x104,0,0⟩:zb)]) x102 x103 x105 (gt x99 x101) x109 x110 ((x111++[(⟨((gt x99 x101).visit).wagon,((gt x99 x101).visit).place,x104,((gt x99 x101).visit).ref,((gt x99 x101).visit).stay⟩:z0o)])) x106 x107 x108)))) else(k94 x96 x97 (W (x98+1)) x102 x103 x104 x105 x106 x107 x108 x109 x110 x111))
def z2o (φ:Nat):Nat->(List (List z6))->Int->Int->Pool->Int->Int->(List (Int×Int))->(List zb)->(List (Nat->Ref))->(List z0o)->(List zb)->(List (Nat->Ref))->(List z0o)->Option (z0p×Int×Unit)
 | 0,_,_,_,_,_,_,_,_,_,_,_,_,_=>none
 | n94+1,x81,x82,x83,x84,x85,x86,x87,x88,x89,x90,x91,x92,x93=>(if(decide ((x83:Int)<x82))=true then(ck ((0:Int)<=x83/\x83 <(x81.length:Int)) (z0l φ (z2o φ n94) φ (gt x81 x83) x81 x82 x83 (gt x81 x83) ((gt x81 x83).length:Int) 0 x84 x85 x86 x87 x88 x89 x90 x91 x92 x93)) else(if((decide ((512:Int)<x86))||(decide ((4096:Int) <(x91.length:Int))))=true then(some ((⟨0,([]:List zb),([]:List (Nat->Ref)),([]:List z0o)⟩:z0p),2,())) else(some ((⟨x86,x91,x92,x93⟩:z0p),0,()))))
def z1x (φ:Nat):Nat->(List (List z6))->(List z15)->Int->Int->Pool->Int->Int->(List (Int×Int))->(List zb)->(List (Nat->Ref))->(List z0o)->(List zb)->(List (Nat->Ref))->(List z0o)->Option (z0p×Int×Unit)
 | 0,_,_,_,_,_,_,_,_,_,_,_,_,_,_=>none
 | n52+1,x38,x39,x40,x41,x42,x43,x44,x45,x46,x47,x48,x49,x50,x51=>(if(decide ((x41:Int)<x40))=true then(ck ((0:Int)<=x41/\x41 <(x39.length:Int)) (if(mget x45 x41).isSome=true then(z3r φ (z1x φ n52) φ ((([(⟨0,x44,W (0 -(gt x39 x41).low)⟩:zb),(⟨x44,0,(gt x39 x41).high⟩:zb)]).length:Int)) 0 x38 x39 x40 x41 (fun _=>(default:Ref)) x44 ((gt x39 x41).low) (W (0 -(gt x39 x41).low)) (⟨0,x44,W (0 -(gt x39 x41).low)⟩:zb) x44 ((gt x39 x41).high) (⟨x44,0,(gt x39 x41).high⟩:zb) x44 (fun _=>(default:Ref)) ([(⟨0,x44,W (0 -(gt x39 x41).low)⟩:zb),(⟨x44,0,(gt x39 x41).high⟩:zb)]) x42 x43 (mset x45 x41 x44) (gt x39 x41) x49 x50 x51 x46 x47 x48) else((z1x φ n52) x38 x39 x40 (W (x41+1)) x42 x43 x44 x45 x46 x47 x48 x49 x50 x51))) else(z2o φ φ x38 (x38.length:Int) 0 x42 x43 x44 x45 x46 x47 x48 x49 x50 x51))
def z2p (φ:Nat):Nat->(List (List z6))->(List (List z6))->Int->Int->Pool->Int->Int->(List (Int×Int))->(List zb)->(List (Nat->Ref))->(List z0o)->(List zb)->(List (Nat->Ref))->(List z0o)->Option (z0p×Int×Unit)
 | 0,_,_,_,_,_,_,_,_,_,_,_,_,_,_=>none
 | n19+1,x5,x6,x7,x8,x9,x10,x11,x12,x13,x14,x15,x16,x17,x18=>(if(decide ((x8:Int)<x7))=true then(ck ((0:Int)<=x8/\x8 <(x6.length:Int)) (z2k φ (z2p φ n19) φ x5 x6 x7 x8 (gt x6 x8) ((gt x6 x8).length:Int) 0 x9 x10 x11 x12 x13 x14 x15 x16 x17 x18)) else(z1x φ φ x5 x9.readers (x9.readers.length:Int) 0 x9 x10 x11 x12 x13 x14 x15 x16 x17 x18))
def zeo (φ:Nat) (x1:Pool) (x2 :(List z8)):Option (z0p×Int×Unit):=((z6y φ x1).bind fun y3=>(if((y3.1:Int) !=0)=true then(some ((⟨0,([]:List zb),([]:List (Nat->Ref)),([]:List z0o)⟩:z0p),y3.1,())) else((zfr φ x1 x2).bind fun y4=>(z2p φ φ y4.1 y4.1 (y4.1.length:Int) 0 x1 0 1 ([]:List (Int×Int)) ([]:List zb) ([]:List (Nat->Ref)) ([]:List z0o) ([]:List zb) ([]:List (Nat->Ref)) ([]:List z0o)))))
def zip (φ:Nat):Fsp TV:=⟨[30,38],[.val 48,.val 0],fun z=>zeo φ z.1 z.2.1⟩
def z7a (φ:Nat):Nat->Int->(List zb)->Int->Int->Option (Int×Unit)
 | 0,_,_,_,_=>none
 | n7+1,x3,x4,x5,x6=>(if(decide ((x6:Int)<x5))=true then(ck ((0:Int)<=x6/\x6 <(x4.length:Int)) (if((((decide (((min2 ((gt x4 x6).i) ((gt x4 x6).j)):Int)<0))||(decide ((x3:Int)<=(max2 ((gt x4 x6).i) ((gt x4 x6).j)))))||(decide (((gt x4 x6).w:Int) <(-1099511627776))))||(decide ((1099511627776:Int) <(gt x4 x6).w)))=true then(some (1,())) else((z7a φ n7) x3 x4 x5 (W (x6+1))))) else(some (0,())))
def zmd (φ:Nat) (x1:Int) (x2 :(List zb)):Option (Int×Unit):=(if(decide ((x1:Int)<1))=true then(some (1,())) else(if((decide ((512:Int)<x1))||(decide ((4096:Int) <(x2.length:Int))))=true then(some (2,())) else(z7a φ φ x1 x2 (x2.length:Int) 0)))
def zl2 (φ:Nat):Fsp TV:=⟨[0,43],[.val 0],fun z=>zmd φ z.1 z.2.1⟩
def yah (φ:Nat) (x1:Int) (x2:Int):Option (Int×Int×Unit):=(if 0<=(32:Int) then(some ((IntKind.wrap .u32 ((((U ((U (x1)) *(U (x2)))):Int).fdiv (2 ^ (min (32:Int).toNat 64))))),(IntKind.wrap .u32 ((U ((U (x1)) *(U (x2)))))),())) else none)
def zkt (φ:Nat):Fsp TV:=⟨[50,50],[.val 50,.val 50],fun z=>yah φ z.1 z.2.1⟩
def y01 (φ:Nat) (x1:Int) (x2:Int):Option (Int×Int×Unit):=((z8f φ x1 x2).bind fun y3=>(some (y3.1,y3.2.1,())))
def zqv (φ:Nat):Fsp TV:=⟨[6,6],[.val 6,.val 6],fun z=>y01 φ z.1 z.2.1⟩
def z5u (φ:Nat):Nat->Int->(List Int)->Option ((List Int)×Unit)
 | 0,_,_=>none
 | n6+1,x4,x5=>(if(decide ((x4:Int) <(x5.length:Int)))=true then(ck ((0:Int)<=x4/\x4<=(x5.length:Int)/\(x5.length:Int)<=(x5.length:Int)) (ck ((0:Int)<=0/\0<=x4/\x4<=(x5.length:Int)) ((z5u φ n6) ((W (x4 +((min (z0k x5 ((0:Int).toNat) ((x4:Int).toNat)).length (((x5.length:Int):Int).toNat -(x4:Int).toNat):Nat):Int)))) ((cpy x5 ((x4:Int).toNat) (((x5.length:Int):Int).toNat -(x4:Int).toNat) (z0k x5 ((0:Int).toNat) ((x4:Int).toNat))))))) else(some (x5,())))
def z5p (φ:Nat) (x1 :(List Int)) (x2:Int):Option ((List Int)×Unit):=(if(decide ((x2:Int)<0))=true then none else((y01 φ (U ((x1.length:Int))) (U (x2))).bind fun y3=>(if((decide ((0:Int)<y3.1))||(decide ((9223372036854775807:Int)<y3.2.1)))=true then none else(ck (z4v (W (y3.2.1)) 8) (z5u φ φ (((min x1.length (((List.replicate ((W (y3.2.1)):Int).toNat (default:Int))).length-0):Nat):Int)) ((cpy ((List.replicate ((W (y3.2.1)):Int).toNat (default:Int))) 0 (((List.replicate ((W (y3.2.1)):Int).toNat (default:Int))).length-0) x1)))))))
def ze1 (φ:Nat):Fsp TV:=⟨[5,0],[.row 3 0],fun z=>z5p φ z.1 z.2.1⟩
def z6o (φ:Nat) (k24 :((List zb)->Int->Int->Int->(List zb)->Int->Int->(List Int)->(List Int)->Option ((List Int)×(List Int)×Int×Unit))) (x25:Int) (x26:Int) (x27 :(List zb)) (x28:Int) (x29:Int) (x30:Int) (x31:Int) (x32 :(List zb)) (x33:Int) (x34:Int) (x35:zb) (x36 :(List Int)) (x37 :(List Int)):Option ((List Int)×(List Int)×Int×Unit):=(ck ((0:Int)<=x35.j/\x35.j <(x36.length:Int)) (ck ((0:Int)<=x35.j/\x35.j <(x37.length:Int)) (k24 x27 x29 x30 x31 x32 x33 (W (x34+1)) (zp x36 x35.j x26) (zp x37 x35.j x25))))
def zbz (φ:Nat) (k24 :((List zb)->Int->Int->Int->(List zb)->Int->Int->(List Int)->(List Int)->Option ((List Int)×(List Int)×Int×Unit))) (x25:Int) (x26:Int) (x27 :(List zb)) (x28:Int) (x29:Int) (x30:Int) (x31:Int) (x32 :(List zb)) (x33:Int) (x34:Int) (x35:zb) (x36 :(List Int)) (x37 :(List Int)):Option (List (Option ((List Int)×(List Int)×Int×Unit))):=(ck ((0:Int)<=x35.j/\x35.j <(x36.length:Int)) (catL [(catL [(catL [(ck ((0:Int)<=x35.j/\x35.j <(x37.length:Int)) (catL [(some [(k24 x27 x29 x30 x31 x32 x33 (W (x34+1)) (zp x36 x35.j x26) (zp x37 x35.j x25))])]))]),(catL [(ck ((0:Int)<=x35.j/\x35.j <(x37.length:Int)) (catL [(some [(k24 x27 x29 x30 x31 x32 x33 (W (x34+1)) (zp x36 x35.j x26) (zp x37 x35.j x25))])]))])]),(catL [(catL [(ck ((0:Int)<=x35.j/\x35.j <(x37.length:Int)) (catL [(some [(k24 x27 x29 x30 x31 x32 x33 (W (x34+1)) (zp x36 x35.j x26) (zp x37 x35.j x25))])]))]),(catL [(ck ((0:Int)<=x35.j/\x35.j <(x37.length:Int)) (catL [(some [(k24 x27 x29 x30 x31 x32 x33 (W (x34+1)) (zp x36 x35.j x26) (zp x37 x35.j x25))])]))])]),(catL [(catL [(ck ((0:Int)<=x35.j/\x35.j <(x37.length:Int)) (catL [(some [(k24 x27 x29 x30 x31 x32 x33 (W (x34+1)) (zp x36 x35.j x26) (zp x37 x35.j x25))])]))]),(catL [(ck ((0:Int)<=x35.j/\x35.j <(x37.length:Int)) (catL [(some [(k24 x27 x29 x30 x31 x32 x33 (W (x34+1)) (zp x36 x35.j x26) (zp x37 x35.j x25))])]))])])]))
def zen (φ:Nat) (x39:Int) (x40 :(List Int)) (x41 :(List Int)):Option ((List Int)×(List Int)×Int×Unit):=(some (x40,x41,x39,()))
def zjb (φ:Nat) (x39:Int) (x40 :(List Int)) (x41 :(List Int)):Option (List (Option ((List Int)×(List Int)×Int×Unit))):=(catL [(catL [(catL [(catL [(some [(some (x40,x41,x39,()))])])])]),(catL [(catL [(catL [(some [(some (x40,x41,x39,()))])])])])])
def z2n (φ:Nat) (k14 :((List zb)->Int->Int->Int->(List Int)->(List Int)->Option ((List Int)×(List Int)×Int×Unit))):Nat->(List zb)->Int->Int->Int->(List zb)->Int->Int->(List Int)->(List Int)->Option ((List Int)×(List Int)×Int×Unit)
 | 0,_,_,_,_,_,_,_,_,_=>none
 | n24+1,x15,x16,x17,x18,x19,x20,x21,x22,x23=>(if(decide ((x21:Int)<x20))=true then(ck ((0:Int)<=x21/\x21 <(x19.length:Int)) (ck ((0:Int)<=(gt x19 x21).i/\(gt x19 x21).i <(x22.length:Int)) (ck ((0:Int)<=(gt x19 x21).j/\(gt x19 x21).j <(x22.length:Int)) (if(decide (((W ((gt x22 ((gt x19 x21).i)) +(gt x19 x21).w)):Int) <(gt x22 ((gt x19 x21).j))))=true then(z6o φ (z2n φ k14 n24) x21 ((W ((gt x22 ((gt x19 x21).i)) +(gt x19 x21).w))) x15 x16 x21 x17 x18 x19 x20 x21 (gt x19 x21) x22 x23) else((z2n φ k14 n24) x15 x16 x17 x18 x19 x20 (W (x21+1)) x22 x23))))) else(if(decide ((x16:Int)<0))=true then(zen φ x16 x22 x23) else(k14 x15 x16 x17 (W (x18+1)) x22 x23)))
def z8u (φ:Nat) (x43:Int) (x44 :(List Int)) (x45 :(List Int)):Option ((List Int)×(List Int)×Int×Unit):=(some (x44,x45,x43,()))
def zc3 (φ:Nat) (x43:Int) (x44 :(List Int)) (x45 :(List Int)):Option (List (Option ((List Int)×(List Int)×Int×Unit))):=(catL [(catL [(catL [(catL [(some [(some (x44,x45,x43,()))])])])]),(catL [(catL [(catL [(some [(some (x44,x45,x43,()))])])])])])
def z56 (φ:Nat):Nat->(List zb)->Int->Int->Int->(List Int)->(List Int)->Option ((List Int)×(List Int)×Int×Unit)
 | 0,_,_,_,_,_,_=>none
 | n14+1,x8,x9,x10,x11,x12,x13=>(if(decide ((x11:Int)<x10))=true then(z2n φ (z56 φ n14) φ x8 (-1) x10 x11 x8 (x8.length:Int) 0 x12 x13) else(z8u φ x9 x12 x13))
def z69 (φ:Nat) (x3:Int) (x4 :(List zb)) (x5 :(List Int)) (x6 :(List Int)):Option ((List Int)×(List Int)×Int×Unit):=(z56 φ φ x4 (-1) x3 0 x5 x6)
def z6u (φ:Nat) (x47:Int) (x48 :(List zb)) (x49 :(List Int)) (x50 :(List Int)):Option ((List Int)×(List Int)×Int×Unit):=(ck (z4v x47 8) ((z5p φ ([(-1)]) x47).bind fun y52=>(z69 φ x47 x48 (List.replicate (x47:Int).toNat (default:Int)) y52.1)))
def zbx (φ:Nat) (x47:Int) (x48 :(List zb)) (x49 :(List Int)) (x50 :(List Int)):Option (List (Option ((List Int)×(List Int)×Int×Unit))):=(catL [(ck (z4v x47 8) (catL [(catL [((z5p φ ([(-1)]) x47).bind fun y53=>(catL [(catL [(some [(z69 φ x47 x48 (List.replicate (x47:Int).toNat (default:Int)) y53.1)])])]))])])),(catL [(ck (z4v x47 8) (catL [((z5p φ ([(-1)]) x47).bind fun y54=>(catL [(catL [(some [(z69 φ x47 x48 (List.replicate (x47:Int).toNat (default:Int)) y54.1)])])]))])),((z5p φ ([(-1)]) x47).bind fun y55=>(catL [(ck (z4v x47 8) (catL [(catL [(some [(z69 φ x47 x48 (List.replicate (x47:Int).toNat (default:Int)) y55.1)])])]))]))])])
def zi6 (φ:Nat) (x1:Int) (x2 :(List zb)):Option ((List Int)×(List Int)×Int×Unit):=(z6u φ x1 x2 ([]:List Int) ([]:List Int))
def zib (φ:Nat):Fsp TV:=⟨[0,43],[.val 5,.val 5,.val 0],fun z=>zi6 φ z.1 z.2.1⟩
def zdj (φ:Nat) (x1:Int) (x2 :(List zb)):Option ((List Int)×Int×Unit):=((zmd φ x1 x2).bind fun y3=>(if((y3.1:Int) !=0)=true then(some (([]:List Int),y3.1,())) else((zi6 φ x1 x2).bind fun y4=>(if(decide ((0:Int)<=y4.2.2.1))=true then(some (([]:List Int),230,())) else(some (y4.1,0,()))))))
def zkr (φ:Nat):Fsp TV:=⟨[0,43],[.val 5,.val 0],fun z=>zdj φ z.1 z.2.1⟩
def z07 (φ:Nat) (x1:Pool) (x2 :(List z8)):Option (Bool×Int×Unit):=((zeo φ x1 x2).bind fun y3=>(if((y3.2.1:Int) !=0)=true then(some (false,y3.2.1,())) else((zdj φ y3.1.vars y3.1.bounds).bind fun y4=>(some (((y4.2.1:Int)==0),0,())))))
def z0t (φ:Nat):Fsp TV:=⟨[30,38],[.val 2,.val 0],fun z=>z07 φ z.1 z.2.1⟩
def z0j (φ:Nat):Nat->(List (Int×Bool))->(List z8)->Int->Int->(List z8)->Option ((List z8)×Unit)
 | 0,_,_,_,_,_=>none
 | n8+1,x3,x4,x5,x6,x7=>(if(decide ((x6:Int)<x5))=true then(ck ((0:Int)<=x6/\x6 <(x4.length:Int)) (if((mget x3 x6).getD default)=true then(ck (fits (x7.length +([(gt x4 x6)]).length) 192) ((z0j φ n8) x3 x4 x5 (W (x6+1)) (x7++[(gt x4 x6)]))) else((z0j φ n8) x3 x4 x5 (W (x6+1)) x7))) else(some (x7,())))
def z4y (φ:Nat) (x1 :(List z8)) (x2 :(List (Int×Bool))):Option ((List z8)×Unit):=(z0j φ φ x2 x1 (x1.length:Int) 0 ([]:List z8))
def z6g (φ:Nat):Csp TV:=⟨[],[.b (.val 38),.b (.map 0 2)],[.val 38],fun z b=>z4y φ b.1 b.2.1⟩
def z3a (φ:Nat) (x1:Pool) (x2 :(List z8)) (x3 :(List (Int×Bool))):Option (Bool×Unit):=((z4y φ x2 x3).bind fun y4=>((z07 φ x1 y4.1).bind fun y5=>(some (y5.1,()))))
def z3w (φ:Nat):Csp TV:=⟨[],[.b (.val 30),.fn 55 [.val 38,.map 0 2]],[.val 2],fun z b=>z3a φ b.1 b.2.1.1 b.2.1.2.1⟩
def z2b (φ:Nat):Nat->Int->Int->(List Ref)->(List z8)->Option ((List Ref)×Int×Unit)
 | 0,_,_,_,_=>none
 | n37+1,x33,x34,x35,x36=>(if(decide ((x34:Int)<x33))=true then(ck ((0:Int)<=x34/\x34 <(x36.length:Int)) (ck (fits (x35.length +([((gt x36 x34).ref)]).length) 16) ((z2b φ n37) x33 (W (x34+1)) (x35++[((gt x36 x34).ref)]) x36))) else(some (x35,0,())))
def z1l (φ:Nat):Nat->(List z8)->Int->Int->(List z8)->(List Ref)->(List (Int×Bool))->Option ((List Ref)×Int×Unit)
 | 0,_,_,_,_,_,_=>none
 | n32+1,x26,x27,x28,x29,x30,x31=>(if(decide ((x28:Int)<x27))=true then(ck ((0:Int)<=x28/\x28 <(x26.length:Int)) (if((mget x31 x28).getD default)=true then(ck (fits (x29.length +([(gt x26 x28)]).length) 192) ((z1l φ n32) x26 x27 (W (x28+1)) (x29++[(gt x26 x28)]) x30 x31)) else((z1l φ n32) x26 x27 (W (x28+1)) x29 x30 x31))) else(z2b φ φ (x29.length:Int) 0 x30 x29))
def z1i (φ:Nat):Nat->Int->Int->(List Ref)->(List (Int×Bool))->Pool->(List z8)->Option ((List Ref)×Int×Unit)
 | 0,_,_,_,_,_,_=>none
 | n24+1,x18,x19,x20,x21,x22,x23=>(if(decide ((x19:Int)<x18))=true then((z3a φ x22 x23 (mdel x21 x19)).bind fun y25=>(if y25.1=true then((z1i φ n24) x18 (W (x19+1)) x20 (mset (mdel x21 x19) x19 true) x22 x23) else((z1i φ n24) x18 (W (x19+1)) x20 (mdel x21 x19) x22 x23))) else(z1l φ φ x23 (x23.length:Int) 0 ([]:List z8) x20 x21))
def z2e (φ:Nat):Nat->(List z8)->Int->Int->(List Ref)->(List (Int×Bool))->Pool->(List z8)->Option ((List Ref)×Int×Unit)
 | 0,_,_,_,_,_,_,_=>none
 | n17+1,x10,x11,x12,x13,x14,x15,x16=>(if(decide ((x12:Int)<x11))=true then((z2e φ n17) x10 x11 (W (x12+1)) x13 (mset x14 x12 true) x15 x16) else(z1i φ φ (x10.length:Int) 0 x13 x14 x15 x16))
end Px
end
section
set_option maxHeartbeats 4000000
set_option maxRecDepth 100000
namespace Px
open Go Go.RowKit
def z5t (φ:Nat) (x4 :(List z8)) (x5:Pool) (x6 :(List Ref)) (x7 :(List (Int×Bool))) (x8 :(List z8)):Option ((List Ref)×Int×Unit):=(z2e φ φ x4 (x4.length:Int) 0 x6 x7 x5 x8)
def z5e (φ:Nat) (x38 :(List z8)) (x39:Pool) (x40 :(List Ref)) (x41 :(List (Int×Bool))) (x42 :(List z8)):Option ((List Ref)×Int×Unit):=(z5t φ x38 x39 x40 x41 x42)
def z8s (φ:Nat) (x38 :(List z8)) (x39:Pool) (x40 :(List Ref)) (x41 :(List (Int×Bool))) (x42 :(List z8)):Option (List (Option ((List Ref)×Int×Unit))):=(catL [(catL [(catL [(some [(z5t φ x38 x39 x40 x41 x42)])])]),(catL [(catL [(some [(z5t φ x38 x39 x40 x41 x42)])])])])
def z5j (φ:Nat) (x1:Pool) (x2 :(List z8)):Option ((List Ref)×Int×Unit):=((z07 φ x1 x2).bind fun y3=>(if(y3.1||((y3.2.1:Int) !=0))=true then(some (([]:List Ref),y3.2.1,())) else(z5e φ x2 x1 ([]:List Ref) ([]:List (Int×Bool)) x2)))
def z9a (φ:Nat):Fsp TV:=⟨[30,38],[.val 51,.val 0],fun z=>z5j φ z.1 z.2.1⟩
def z44 (φ:Nat) (x4:z8) (x5:z8):Option (Int×Unit):=((z5l φ x4.time x5.time).bind fun y7=>((z5l φ x4.ref.railway x5.ref.railway).bind fun y8=>((z5l φ x4.ref.no x5.ref.no).bind fun y9=>((zth φ ([y7.1,y8.1,y9.1])).bind fun y10=>(some (y10.1,()))))))
def z3l (φ:Nat) (x11:Int) (x12:Int) (x13 :(List z8)):Option (Int×Unit):=(ck ((0:Int)<=x11/\x11 <(x13.length:Int)) (ck ((0:Int)<=x12/\x12 <(x13.length:Int)) (z44 φ (gt x13 x11) (gt x13 x12))))
def z7p (φ:Nat) (x11:Int) (x12:Int) (x13 :(List z8)):Option (List (Option (Int×Unit))):=(ck ((0:Int)<=x11/\x11 <(x13.length:Int)) (ck ((0:Int)<=x12/\x12 <(x13.length:Int)) (catL [(catL [(catL [(catL [(some [(z44 φ (gt x13 x11) (gt x13 x12))])])])]),(catL [(catL [(catL [(some [(z44 φ (gt x13 x11) (gt x13 x12))])])])])])))
def z6q (φ:Nat) (x1:Int) (x2:Int) (x3 :(List z8)):Option (Int×Unit):=(z3l φ x1 x2 x3)
def zaf (φ:Nat):Csp TV:=⟨[0,0],[.b (.val 38)],[.val 0],fun z b=>z6q φ z.1 z.2.1 b.1⟩
def za1 (φ:Nat) (k27 :(Int->Int->Int->Int->Int->Int->(List Int)->(List z8)->Pool->Option ((List z8)×Int×Unit))):Nat->Int->Int->Int->Int->Int->Int->Int->(List Int)->(List z8)->Pool->Option ((List z8)×Int×Unit)
 | 0,_,_,_,_,_,_,_,_,_,_=>none
 | n38+1,x28,x29,x30,x31,x32,x33,x34,x35,x36,x37=>(ck (((decide ((x28:Int)<x31))=true)->(0:Int)<=x31/\x31 <(x35.length:Int)) (ck (((decide ((x28:Int)<x31))=true)->(0:Int)<=(W (x31-1))/\(W (x31-1)) <(x35.length:Int)) ((zn (default,()) ((decide ((x28:Int)<x31))=true) (z6q φ (gt x35 x31) (gt x35 (W (x31-1))) x36)).bind fun y39=>(if((decide ((x28:Int)<x31))&&(decide ((y39.1:Int)<0)))=true then(ck ((0:Int)<=(W (x31-1))/\(W (x31-1)) <(x35.length:Int)) (ck ((0:Int)<=x31/\x31 <(x35.length:Int)) (ck ((0:Int)<=x31/\x31 <(x35.length:Int)) (ck ((0:Int)<=(W (x31-1))/\(W (x31-1)) <(((zp x35 x31 (gt x35 (W (x31-1))))).length:Int)) ((za1 φ k27 n38) x28 x29 x30 (W (x31-1)) x32 x33 x34 ((zp ((zp x35 x31 (gt x35 (W (x31-1))))) (W (x31-1)) (gt x35 x31))) x36 x37))))) else(k27 x28 x29 (W (x30+1)) x32 x33 x34 x35 x36 x37)))))
def zaq (φ:Nat) (k17 :(Int->Int->Int->Int->(List Int)->(List z8)->Pool->Option ((List z8)×Int×Unit))):Nat->Int->Int->Int->Int->Int->Int->(List Int)->(List z8)->Pool->Option ((List z8)×Int×Unit)
 | 0,_,_,_,_,_,_,_,_,_=>none
 | n27+1,x18,x19,x20,x21,x22,x23,x24,x25,x26=>(if(decide ((x20:Int)<x19))=true then(za1 φ (zaq φ k17 n27) φ x18 x19 x20 x20 x21 x22 x23 x24 x25 x26) else(k17 x21 x22 x23 (W (x23+x22)) x24 x25 x26))
def z3h (φ:Nat) (k48 :(Int->Int->Int->Int->Int->(List Int)->(List z8)->Pool->Option ((List z8)×Int×Unit))):Nat->Int->Int->Int->Int->Int->Int->(List Int)->(List z8)->Pool->Option ((List z8)×Int×Unit)
 | 0,_,_,_,_,_,_,_,_,_=>none
 | n58+1,x49,x50,x51,x52,x53,x54,x55,x56,x57=>(ck (((decide ((x49:Int)<x52))=true)->(0:Int)<=x52/\x52 <(x55.length:Int)) (ck (((decide ((x49:Int)<x52))=true)->(0:Int)<=(W (x52-1))/\(W (x52-1)) <(x55.length:Int)) ((zn (default,()) ((decide ((x49:Int)<x52))=true) (z6q φ (gt x55 x52) (gt x55 (W (x52-1))) x56)).bind fun y59=>(if((decide ((x49:Int)<x52))&&(decide ((y59.1:Int)<0)))=true then(ck ((0:Int)<=(W (x52-1))/\(W (x52-1)) <(x55.length:Int)) (ck ((0:Int)<=x52/\x52 <(x55.length:Int)) (ck ((0:Int)<=x52/\x52 <(x55.length:Int)) (ck ((0:Int)<=(W (x52-1))/\(W (x52-1)) <(((zp x55 x52 (gt x55 (W (x52-1))))).length:Int)) ((z3h φ k48 n58) x49 x50 x51 (W (x52-1)) x53 x54 ((zp ((zp x55 x52 (gt x55 (W (x52-1))))) (W (x52-1)) (gt x55 x52))) x56 x57))))) else(k48 x49 x50 (W (x51+1)) x53 x54 x55 x56 x57)))))
def zgt (φ:Nat) (k65 :(Int->Int->(List Int)->(List z8)->Pool->Option ((List z8)×Int×Unit))):Nat->Int->Int->Int->Int->(List Int)->(List z8)->Pool->Option ((List z8)×Int×Unit)
 | 0,_,_,_,_,_,_,_=>none
 | n73+1,x66,x67,x68,x69,x70,x71,x72=>(if(decide ((x69:Int)<=x66))=true then none else(if(decide (((W (x68+x67)):Int)<x66))=true then none else(k65 x66 (W (x67*2)) x70 x71 x72)))
def z1k (φ:Nat):Nat->(List z8)->Int->Int->(List z8)->(List (Int×Bool))->Option ((List z8)×Int×Unit)
 | 0,_,_,_,_,_=>none
 | n92+1,x87,x88,x89,x90,x91=>(if(decide ((x89:Int)<x88))=true then(ck ((0:Int)<=x89/\x89 <(x87.length:Int)) (if((mget x91 x89).getD default)=true then(ck (fits (x90.length +([(gt x87 x89)]).length) 192) ((z1k φ n92) x87 x88 (W (x89+1)) (x90++[(gt x87 x89)]) x91)) else((z1k φ n92) x87 x88 (W (x89+1)) x90 x91))) else(some (x90,0,())))
def z1n (φ:Nat):Nat->Int->Int->(List (Int×Bool))->Pool->(List z8)->(List Int)->Option ((List z8)×Int×Unit)
 | 0,_,_,_,_,_,_=>none
 | n85+1,x79,x80,x81,x82,x83,x84=>(if(decide ((x80:Int)<x79))=true then(ck ((0:Int)<=x80/\x80 <(x84.length:Int)) ((z3a φ x82 x83 (mset x81 (gt x84 x80) true)).bind fun y86=>(if(!y86.1)=true then((z1n φ n85) x79 (W (x80+1)) (mdel (mset x81 (gt x84 x80) true) (gt x84 x80)) x82 x83 x84) else((z1n φ n85) x79 (W (x80+1)) (mset x81 (gt x84 x80) true) x82 x83 x84)))) else(z1k φ φ x83 (x83.length:Int) 0 ([]:List z8) x81))
def z58 (φ:Nat) (x74:Pool) (x75 :(List Int)) (x76 :(List (Int×Bool))) (x77 :(List z8)):Option ((List z8)×Int×Unit):=(z1n φ φ (x75.length:Int) 0 x76 x74 x77 x75)
def z5d (φ:Nat) (x93:Pool) (x94 :(List Int)) (x95 :(List (Int×Bool))) (x96 :(List z8)):Option ((List z8)×Int×Unit):=(z58 φ x93 x94 x95 x96)
def z8h (φ:Nat) (x93:Pool) (x94 :(List Int)) (x95 :(List (Int×Bool))) (x96 :(List z8)):Option (List (Option ((List z8)×Int×Unit))):=(catL [(catL [(catL [(some [(z58 φ x93 x94 x95 x96)])])]),(catL [(catL [(some [(z58 φ x93 x94 x95 x96)])])])])
def z59 (φ:Nat):Nat->Int->Int->(List Int)->(List z8)->Pool->Option ((List z8)×Int×Unit)
 | 0,_,_,_,_,_=>none
 | n65+1,x60,x61,x62,x63,x64=>(if(decide ((x61:Int)<x60))=true then(zgt φ (z59 φ n65) φ x60 x61 0 (W (2*x61)) x62 x63 x64) else(z5d φ x64 x62 ([]:List (Int×Bool)) x63))
def z1j (φ:Nat):Nat->Int->Int->Int->Int->Int->(List Int)->(List z8)->Pool->Option ((List z8)×Int×Unit)
 | 0,_,_,_,_,_,_,_,_=>none
 | n48+1,x40,x41,x42,x43,x44,x45,x46,x47=>(if(decide ((x42:Int)<x41))=true then(z3h φ (z1j φ n48) φ x40 x41 x42 x42 x43 x44 x45 x46 x47) else(z59 φ φ x43 x44 x45 x46 x47))
def z57 (φ:Nat):Nat->Int->Int->Int->Int->(List Int)->(List z8)->Pool->Option ((List z8)×Int×Unit)
 | 0,_,_,_,_,_,_,_=>none
 | n17+1,x10,x11,x12,x13,x14,x15,x16=>(if(decide ((x13:Int)<=x10))=true then(zaq φ (z57 φ n17) φ x12 x13 (W (x12+1)) x10 x11 x13 x14 x15 x16) else(z1j φ φ x12 x10 (W (x12+1)) x10 x11 x14 x15 x16))
def z34 (φ:Nat):Nat->Int->Int->Pool->(List z8)->(List Int)->Option ((List z8)×Int×Unit)
 | 0,_,_,_,_,_=>none
 | n9+1,x4,x5,x6,x7,x8=>(if(decide ((x5:Int)<x4))=true then(ck ((0:Int)<=x5/\x5 <(x8.length:Int)) ((z34 φ n9) x4 (W (x5+1)) x6 x7 (zp x8 x5 x5))) else(z57 φ φ (x8.length:Int) 20 0 20 x8 x7 x6))
def z5h (φ:Nat) (x1:Pool) (x2 :(List z8)):Option ((List z8)×Int×Unit):=((z07 φ x1 x2).bind fun y3=>(if((y3.2.1:Int) !=0)=true then(some (([]:List z8),y3.2.1,())) else(if y3.1=true then(some (x2,0,())) else(ck (z4v (x2.length:Int) 8) (z34 φ φ (((List.replicate ((x2.length:Int):Int).toNat (default:Int)).length:Int)) 0 x1 x2 (List.replicate ((x2.length:Int):Int).toNat (default:Int)))))))
def z9e (φ:Nat):Fsp TV:=⟨[30,38],[.val 38,.val 0],fun z=>z5h φ z.1 z.2.1⟩
def z3i (φ:Nat):Nat->(List Ref)->(List Ref)->Int->Option (Bool×Unit)
 | 0,_,_,_=>none
 | n6+1,x3,x4,x5=>(if(decide ((x5:Int) <(x3.length:Int)))=true then(ck ((0:Int)<=x5/\x5 <(x3.length:Int)) (ck ((0:Int)<=x5/\x5 <(x4.length:Int)) (if(!((((gt x3 x5).railway:Int)==(gt x4 x5).railway)&&((((gt x3 x5).no:Int)==(gt x4 x5).no)&&true)))=true then(some (false,())) else((z3i φ n6) x3 x4 (W (x5+1)))))) else(some (true,())))
def z1r (φ:Nat) (x1 :(List Ref)) (x2 :(List Ref)):Option (Bool×Unit):=(if(((x1.length:Int):Int) !=(x2.length:Int))=true then(some (false,())) else(z3i φ φ x1 x2 0))
def z87 (φ:Nat):Fsp TV:=⟨[51,51],[.val 2],fun z=>z1r φ z.1 z.2.1⟩
def z5s (φ:Nat) (x1:Item) (x2:Int):Option (Int×Unit):=(if((x2:Int)==119)=true then(some (x1.wagon,())) else(if((x2:Int)==112)=true then(some (x1.place,())) else(if((x2:Int)==111)=true then(some (x1.other,())) else(if((x2:Int)==110)=true then(some (x1.number,())) else(if((x2:Int)==102)=true then(some (x1.from_,())) else(if((x2:Int)==116)=true then(some (x1.to,())) else(if((x2:Int)==99)=true then(some (x1.code,())) else(if((x2:Int)==100)=true then(some (x1.dest,())) else(if((x2:Int)==107)=true then(some (x1.class_,())) else(if((x2:Int)==103)=true then(some (x1.weight,())) else(some (x1.amount,()))))))))))))
def zd9 (φ:Nat):Fsp TV:=⟨[34,52],[.val 0],fun z=>z5s φ z.1 z.2.1⟩
def z2w (φ:Nat):Nat->(List Part)->(List Part)->Int->Option (Bool×Unit)
 | 0,_,_,_=>none
 | n6+1,x3,x4,x5=>(if(decide ((x5:Int) <(x3.length:Int)))=true then(ck ((0:Int)<=x5/\x5 <(x3.length:Int)) (ck ((0:Int)<=x5/\x5 <(x4.length:Int)) (if(!((((gt x3 x5).kind:Int)==(gt x4 x5).kind)&&((((gt x3 x5).serial:Int)==(gt x4 x5).serial)&&(((gt x3 x5).fitted==(gt x4 x5).fitted)&&true))))=true then(some (false,())) else((z2w φ n6) x3 x4 (W (x5+1)))))) else(some (true,())))
def z8l (φ:Nat) (x1 :(List Part)) (x2 :(List Part)):Option (Bool×Unit):=(if(((x1.length:Int):Int) !=(x2.length:Int))=true then(some (false,())) else(z2w φ φ x1 x2 0))
def za5 (φ:Nat):Fsp TV:=⟨[33,33],[.val 2],fun z=>z8l φ z.1 z.2.1⟩
def z7f (φ:Nat):Nat->Int->Item->Item->Option (Bool×Unit)
 | 0,_,_,_=>none
 | n6+1,x3,x4,x5=>(if(decide ((x3:Int)<11))=true then(ck ((0:Int)<=x3/\x3 <(z0c.size:Int)) ((z5s φ x4 (z54 z0c x3)).bind fun y7=>(ck ((0:Int)<=x3/\x3 <(z0c.size:Int)) ((z5s φ x5 (z54 z0c x3)).bind fun y8=>(if((y7.1:Int) !=y8.1)=true then(some (false,())) else((z7f φ n6) (W (x3+1)) x4 x5)))))) else((zn (default,()) (((((x4.kind:Int)==x5.kind)&&(((x4.ref.railway:Int)==x5.ref.railway)&&(((x4.ref.no:Int)==x5.ref.no)&&true)))&&(x4.text==x5.text))=true) (z8l φ x4.parts x5.parts)).bind fun y9=>(some ((((((x4.kind:Int)==x5.kind)&&(((x4.ref.railway:Int)==x5.ref.railway)&&(((x4.ref.no:Int)==x5.ref.no)&&true)))&&(x4.text==x5.text))&&y9.1),()))))
def zlr (φ:Nat) (x1:Item) (x2:Item):Option (Bool×Unit):=(z7f φ φ 0 x1 x2)
def zjq (φ:Nat):Fsp TV:=⟨[34,34],[.val 2],fun z=>zlr φ z.1 z.2.1⟩
def z1y (φ:Nat):Nat->(List z8)->(List z8)->Int->Option (Bool×Unit)
 | 0,_,_,_=>none
 | n6+1,x3,x4,x5=>(if(decide ((x5:Int) <(x3.length:Int)))=true then(ck ((0:Int)<=x5/\x5 <(x3.length:Int)) (ck ((0:Int)<=x5/\x5 <(x4.length:Int)) (ck (((!(((((gt x3 x5).ref).railway:Int)==((gt x4 x5).ref).railway)&&(((((gt x3 x5).ref).no:Int)==((gt x4 x5).ref).no)&&true)))=false)->(0:Int)<=x5/\x5 <(x3.length:Int)) (ck (((!(((((gt x3 x5).ref).railway:Int)==((gt x4 x5).ref).railway)&&(((((gt x3 x5).ref).no:Int)==((gt x4 x5).ref).no)&&true)))=false)->(0:Int)<=x5/\x5 <(x4.length:Int)) (ck ((((!(((((gt x3 x5).ref).railway:Int)==((gt x4 x5).ref).railway)&&(((((gt x3 x5).ref).no:Int)==((gt x4 x5).ref).no)&&true)))||(!(((((gt x3 x5).by_).railway:Int)==((gt x4 x5).by_).railway)&&(((((gt x3 x5).by_).no:Int)==((gt x4 x5).by_).no)&&true))))=false)->(0:Int)<=x5/\x5 <(x3.length:Int)) (ck ((((!(((((gt x3 x5).ref).railway:Int)==((gt x4 x5).ref).railway)&&(((((gt x3 x5).ref).no:Int)==((gt x4 x5).ref).no)&&true)))||(!(((((gt x3 x5).by_).railway:Int)==((gt x4 x5).by_).railway)&&(((((gt x3 x5).by_).no:Int)==((gt x4 x5).by_).no)&&true))))=false)->(0:Int)<=x5/\x5 <(x4.length:Int)) (ck (((((!(((((gt x3 x5).ref).railway:Int)==((gt x4 x5).ref).railway)&&(((((gt x3 x5).ref).no:Int)==((gt x4 x5).ref).no)&&true)))||(!(((((gt x3 x5).by_).railway:Int)==((gt x4 x5).by_).railway)&&(((((gt x3 x5).by_).no:Int)==((gt x4 x5).by_).no)&&true))))||(((gt x3 x5).time:Int) !=(gt x4 x5).time))=false)->(0:Int)<=x5/\x5 <(x3.length:Int)) (ck (((((!(((((gt x3 x5).ref).railway:Int)==((gt x4 x5).ref).railway)&&(((((gt x3 x5).ref).no:Int)==((gt x4 x5).ref).no)&&true)))||(!(((((gt x3 x5).by_).railway:Int)==((gt x4 x5).by_).railway)&&(((((gt x3 x5).by_).no:Int)==((gt x4 x5).by_).no)&&true))))||(((gt x3 x5).time:Int) !=(gt x4 x5).time))=false)->(0:Int)<=x5/\x5 <(x4.length:Int)) ((zn (default,()) ((((!(((((gt x3 x5).ref).railway:Int)==((gt x4 x5).ref).railway)&&(((((gt x3 x5).ref).no:Int)==((gt x4 x5).ref).no)&&true)))||(!(((((gt x3 x5).by_).railway:Int)==((gt x4 x5).by_).railway)&&(((((gt x3 x5).by_).no:Int)==((gt x4 x5).by_).no)&&true))))||(((gt x3 x5).time:Int) !=(gt x4 x5).time))=false) (zlr φ ((gt x3 x5).item) ((gt x4 x5).item))).bind fun y7=>(if((((!(((((gt x3 x5).ref).railway:Int)==((gt x4 x5).ref).railway)&&(((((gt x3 x5).ref).no:Int)==((gt x4 x5).ref).no)&&true)))||(!(((((gt x3 x5).by_).railway:Int)==((gt x4 x5).by_).railway)&&(((((gt x3 x5).by_).no:Int)==((gt x4 x5).by_).no)&&true))))||(((gt x3 x5).time:Int) !=(gt x4 x5).time))||(!y7.1))=true then(some (false,())) else((z1y φ n6) x3 x4 (W (x5+1))))))))))))) else(some (true,())))
def z72 (φ:Nat) (x1 :(List z8)) (x2 :(List z8)):Option (Bool×Unit):=(if(((x1.length:Int):Int) !=(x2.length:Int))=true then(some (false,())) else(z1y φ φ x1 x2 0))
def z89 (φ:Nat):Fsp TV:=⟨[38,38],[.val 2],fun z=>z72 φ z.1 z.2.1⟩
def z27 (φ:Nat) (x1 :(List z8)) (x2 :(List z8)):Option (Bool×Unit):=((z72 φ x1 x2).bind fun y3=>(some (y3.1,())))
def zfv (φ:Nat):Fsp TV:=⟨[38,38],[.val 2],fun z=>z27 φ z.1 z.2.1⟩
def zlo (φ:Nat):Option (Bool×Unit):=((zny φ).bind fun y1=>((zfg φ 1 6 0 100 101).bind fun y2=>((zfg φ 2 7 1 120 150).bind fun y3=>((zfg φ 3 6 1 130 140).bind fun y4=>((z07 φ y1.1 ([y2.1,y3.1])).bind fun y5=>((z5j φ y1.1 ([y2.1,y3.1])).bind fun y6=>((z5h φ y1.1 ([y2.1,y3.1])).bind fun y7=>((z5j φ y1.1 ([y2.1,y3.1,y4.1])).bind fun y8=>((z5h φ y1.1 ([y2.1,y3.1,y4.1])).bind fun y9=>((z07 φ y1.1 ([y3.1,y4.1])).bind fun y10=>((z5j φ y1.1 ([y3.1,y4.1])).bind fun y11=>((z07 φ (⟨(⟨([]:List z6v),([]:List Edge)⟩:zc),(⟨([]:List z1p),([]:List zn7),([]:List Swap),([]:List Wash)⟩:zbf),([]:List z15),([]:List zaj),([]:List z1h)⟩:Pool) ([]:List z8)).bind fun y12=>(if((((y5.2.1:Int)==0)&&(!y5.1))&&((y6.2.1:Int)==0))=true then((z1r φ y6.1 ([(⟨0,1⟩:Ref),(⟨0,2⟩:Ref)])).bind fun y13=>(if(y13.1&&((y7.2.1:Int)==0))=true then((z27 φ y7.1 ([y2.1])).bind fun y14=>(if((y8.2.1:Int)==0)=true then((z1r φ y8.1 ([(⟨0,1⟩:Ref),(⟨0,2⟩:Ref)])).bind fun y15=>(if(y15.1&&((y9.2.1:Int)==0))=true then((z27 φ y9.1 ([y2.1,y4.1])).bind fun y16=>(some (((((((y14.1&&y16.1)&&((y10.2.1:Int)==0))&&y10.1)&&((y11.2.1:Int)==0))&&(((y11.1.length:Int):Int)==0))&&((y12.2.1:Int) !=0)),()))) else(some (((((((y14.1&&false)&&((y10.2.1:Int)==0))&&y10.1)&&((y11.2.1:Int)==0))&&(((y11.1.length:Int):Int)==0))&&((y12.2.1:Int) !=0)),())))) else(if(false&&((y9.2.1:Int)==0))=true then((z27 φ y9.1 ([y2.1,y4.1])).bind fun y17=>(some (((((((y14.1&&y17.1)&&((y10.2.1:Int)==0))&&y10.1)&&((y11.2.1:Int)==0))&&(((y11.1.length:Int):Int)==0))&&((y12.2.1:Int) !=0)),()))) else(some (((((((y14.1&&false)&&((y10.2.1:Int)==0))&&y10.1)&&((y11.2.1:Int)==0))&&(((y11.1.length:Int):Int)==0))&&((y12.2.1:Int) !=0)),()))))) else(if((y8.2.1:Int)==0)=true then((z1r φ y8.1 ([(⟨0,1⟩:Ref),(⟨0,2⟩:Ref)])).bind fun y18=>(if(y18.1&&((y9.2.1:Int)==0))=true then((z27 φ y9.1 ([y2.1,y4.1])).bind fun y19=>(some (((((((false&&y19.1)&&((y10.2.1:Int)==0))&&y10.1)&&((y11.2.1:Int)==0))&&(((y11.1.length:Int):Int)==0))&&((y12.2.1:Int) !=0)),()))) else(some (((((((false&&false)&&((y10.2.1:Int)==0))&&y10.1)&&((y11.2.1:Int)==0))&&(((y11.1.length:Int):Int)==0))&&((y12.2.1:Int) !=0)),())))) else(if(false&&((y9.2.1:Int)==0))=true then((z27 φ y9.1 ([y2.1,y4.1])).bind fun y20=>(some (((((((false&&y20.1)&&((y10.2.1:Int)==0))&&y10.1)&&((y11.2.1:Int)==0))&&(((y11.1.length:Int):Int)==0))&&((y12.2.1:Int) !=0)),()))) else(some (((((((false&&false)&&((y10.2.1:Int)==0))&&y10.1)&&((y11.2.1:Int)==0))&&(((y11.1.length:Int):Int)==0))&&((y12.2.1:Int) !=0)),())))))) else(if(false&&((y7.2.1:Int)==0))=true then((z27 φ y7.1 ([y2.1])).bind fun y21=>(if((y8.2.1:Int)==0)=true then((z1r φ y8.1 ([(⟨0,1⟩:Ref),(⟨0,2⟩:Ref)])).bind fun y22=>(if(y22.1&&((y9.2.1:Int)==0))=true then((z27 φ y9.1 ([y2.1,y4.1])).bind fun y23=>(some (((((((y21.1&&y23.1)&&((y10.2.1:Int)==0))&&y10.1)&&((y11.2.1:Int)==0))&&(((y11.1.length:Int):Int)==0))&&((y12.2.1:Int) !=0)),()))) else(some (((((((y21.1&&false)&&((y10.2.1:Int)==0))&&y10.1)&&((y11.2.1:Int)==0))&&(((y11.1.length:Int):Int)==0))&&((y12.2.1:Int) !=0)),())))) else(if(false&&((y9.2.1:Int)==0))=true then((z27 φ y9.1 ([y2.1,y4.1])).bind fun y24=>(some (((((((y21.1&&y24.1)&&((y10.2.1:Int)==0))&&y10.1)&&((y11.2.1:Int)==0))&&(((y11.1.length:Int):Int)==0))&&((y12.2.1:Int) !=0)),()))) else(some (((((((y21.1&&false)&&((y10.2.1:Int)==0))&&y10.1)&&((y11.2.1:Int)==0))&&(((y11.1.length:Int):Int)==0))&&((y12.2.1:Int) !=0)),()))))) else(if((y8.2.1:Int)==0)=true then((z1r φ y8.1 ([(⟨0,1⟩:Ref),(⟨0,2⟩:Ref)])).bind fun y25=>(if(y25.1&&((y9.2.1:Int)==0))=true then((z27 φ y9.1 ([y2.1,y4.1])).bind fun y26=>(some (((((((false&&y26.1)&&((y10.2.1:Int)==0))&&y10.1)&&((y11.2.1:Int)==0))&&(((y11.1.length:Int):Int)==0))&&((y12.2.1:Int) !=0)),()))) else(some (((((((false&&false)&&((y10.2.1:Int)==0))&&y10.1)&&((y11.2.1:Int)==0))&&(((y11.1.length:Int):Int)==0))&&((y12.2.1:Int) !=0)),())))) else(if(false&&((y9.2.1:Int)==0))=true then((z27 φ y9.1 ([y2.1,y4.1])).bind fun y27=>(some (((((((false&&y27.1)&&((y10.2.1:Int)==0))&&y10.1)&&((y11.2.1:Int)==0))&&(((y11.1.length:Int):Int)==0))&&((y12.2.1:Int) !=0)),()))) else(some (((((((false&&false)&&((y10.2.1:Int)==0))&&y10.1)&&((y11.2.1:Int)==0))&&(((y11.1.length:Int):Int)==0))&&((y12.2.1:Int) !=0)),()))))))))))))))))))
def zkd (φ:Nat):Fsp TV:=⟨[],[.val 2],fun z=>zlo φ⟩
def z1w (φ:Nat):Nat->Int->Pool->Option (Bool×Unit)
 | 0,_,_=>none
 | n4+1,x2,x3=>(if(decide ((x2:Int) <(x3.railways.length:Int)))=true then(ck ((0:Int)<=x2/\x2 <(x3.railways.length:Int)) (if(decide ((100:Int) <((((gt x3.railways x2).calendar).holidays).length:Int)))=true then(some (false,())) else((z1w φ n4) (W (x2+1)) x3))) else(some (true,())))
def z9b (φ:Nat) (x1:Pool):Option (Bool×Unit):=(if(((((((decide ((16:Int) <(x1.network.places.length:Int)))||(decide ((40:Int) <(x1.network.edges.length:Int))))||(decide ((8:Int) <(x1.fleet.wagons.length:Int))))||(decide ((8:Int) <(x1.readers.length:Int))))||(decide ((100:Int) <(x1.fleet.swaps.length:Int))))||(decide ((100:Int) <(x1.fleet.washes.length:Int))))||(decide ((17:Int) <(x1.railways.length:Int))))=true then(some (false,())) else(z1w φ φ 0 x1))
def zak (φ:Nat):Fsp TV:=⟨[30],[.val 2],fun z=>z9b φ z.1⟩
def z2a (φ:Nat):Nat->(List z8)->Int->Option (Bool×Unit)
 | 0,_,_=>none
 | n5+1,x3,x4=>(if(decide ((x4:Int) <(x3.length:Int)))=true then(ck ((0:Int)<=x4/\x4 <(x3.length:Int)) (ck (((decide ((40:Int) <((((gt x3 x4).item).parts).length:Int)))=false)->(0:Int)<=x4/\x4 <(x3.length:Int)) (if((decide ((40:Int) <((((gt x3 x4).item).parts).length:Int)))||(decide ((2000:Int) <(((gt x3 x4).item).text.size:Int))))=true then(some (false,())) else((z2a φ n5) x3 (W (x4+1)))))) else(some (true,())))
def z61 (φ:Nat) (x1 :(List z8)) (x2:Int):Option (Bool×Unit):=(if(decide ((x2:Int) <(x1.length:Int)))=true then(some (false,())) else(z2a φ φ x1 0))
def z8q (φ:Nat):Fsp TV:=⟨[38,0],[.val 2],fun z=>z61 φ z.1 z.2.1⟩
def zoh (φ:Nat) (x1:Pool) (x2 :(List z8)):Option (Bool×Unit):=((z9b φ x1).bind fun y3=>((zn (default,()) (y3.1=true) (z61 φ x2 10)).bind fun y4=>(some ((y3.1&&y4.1),()))))
def zn5 (φ:Nat):Fsp TV:=⟨[30,38],[.val 2],fun z=>zoh φ z.1 z.2.1⟩
def z1u (φ:Nat) (x1:Int) (x2:Int) (x3:Int):Option (Bool×Unit):=(some (((decide ((x2:Int)<=x1))&&(decide ((x1:Int)<=x3))),()))
def z6n (φ:Nat):Fsp TV:=⟨[0,0,0],[.val 2],fun z=>z1u φ z.1 z.2.1 z.2.2.1⟩
def zi4 (φ:Nat) (x1:z6v):Option (Bool×Unit):=((z1u φ x1.kind 1 5).bind fun y2=>((zn (default,()) ((!y2.1)=false) (z1u φ x1.railway 0 15)).bind fun y3=>(if((!y2.1)||(!y3.1))=true then(some (false,())) else(if((x1.kind:Int)==3)=true then((z1u φ x1.other 0 15).bind fun y4=>(some ((y4.1&&((x1.other:Int) !=x1.railway)),()))) else(some (((x1.other:Int)==(-1)),()))))))
def zhv (φ:Nat):Fsp TV:=⟨[7],[.val 2],fun z=>zi4 φ z.1⟩
def zlu (φ:Nat) (x1:Edge) (x2:Int):Option (Bool×Unit):=((z1u φ x1.a 0 (W (x2-1))).bind fun y3=>((zn (default,()) (y3.1=true) (z1u φ x1.b 0 (W (x2-1)))).bind fun y4=>((zn (default,()) (((y3.1&&y4.1)&&((x1.a:Int) !=x1.b))=true) (z1u φ x1.railway 0 15)).bind fun y5=>((zn (default,()) ((((y3.1&&y4.1)&&((x1.a:Int) !=x1.b))&&y5.1)=true) (z1u φ x1.minutes 1 100000)).bind fun y6=>((zn (default,()) (((((y3.1&&y4.1)&&((x1.a:Int) !=x1.b))&&y5.1)&&y6.1)=true) (z1u φ x1.km 0 10000)).bind fun y7=>(some ((((((y3.1&&y4.1)&&((x1.a:Int) !=x1.b))&&y5.1)&&y6.1)&&y7.1),())))))))
def zjo (φ:Nat):Fsp TV:=⟨[9,0],[.val 2],fun z=>zlu φ z.1 z.2.1⟩
def z4g (φ:Nat):Nat->Int->zc->Option (Int×Unit)
 | 0,_,_=>none
 | n8+1,x6,x7=>(if(decide ((x6:Int) <(x7.edges.length:Int)))=true then(ck ((0:Int)<=x6/\x6 <(x7.edges.length:Int)) ((zlu φ (gt x7.edges x6) (x7.places.length:Int)).bind fun y9=>(if(!y9.1)=true then(some (1,())) else((z4g φ n8) (W (x6+1)) x7)))) else(some (0,())))
def z62 (φ:Nat):Nat->Int->zc->Option (Int×Unit)
 | 0,_,_=>none
 | n4+1,x2,x3=>(if(decide ((x2:Int) <(x3.places.length:Int)))=true then(ck ((0:Int)<=x2/\x2 <(x3.places.length:Int)) ((zi4 φ (gt x3.places x2)).bind fun y5=>(if(!y5.1)=true then(some (1,())) else((z62 φ n4) (W (x2+1)) x3)))) else(z4g φ φ 0 x3))
def ze0 (φ:Nat) (x1:zc):Option (Int×Unit):=(if((decide ((512:Int) <(x1.places.length:Int)))||(decide ((2048:Int) <(x1.edges.length:Int))))=true then(some (2,())) else(z62 φ φ 0 x1))
def zdc (φ:Nat):Fsp TV:=⟨[11],[.val 0],fun z=>ze0 φ z.1⟩
def zy (φ:Nat) (x1:Int) (x2:Int) (x3:Int):Option (Bool×Unit):=(some (((decide ((x2:Int)<=x1))&&(decide ((x1:Int)<=x3))),()))
def z4h (φ:Nat):Fsp TV:=⟨[0,0,0],[.val 2],fun z=>zy φ z.1 z.2.1 z.2.2.1⟩
def zdt (φ:Nat) (x1:z1p):Option (Bool×Unit):=((zy φ x1.load 0 1000000).bind fun y2=>((zn (default,()) (y2.1=true) (zy φ x1.tare 0 1000000)).bind fun y3=>((zn (default,()) ((y2.1&&y3.1)=true) (zy φ x1.length 0 1000000)).bind fun y4=>((zn (default,()) (((y2.1&&y3.1)&&y4.1)=true) (zy φ x1.brake 0 1000000)).bind fun y5=>((zn (default,()) ((((y2.1&&y3.1)&&y4.1)&&y5.1)=true) (zy φ x1.gauge 0 7)).bind fun y6=>((zn (default,()) (((((y2.1&&y3.1)&&y4.1)&&y5.1)&&y6.1)=true) (zy φ x1.life 1 1073741824)).bind fun y7=>((zn (default,()) ((((((y2.1&&y3.1)&&y4.1)&&y5.1)&&y6.1)&&y7.1)=true) (zy φ x1.floor 0 100)).bind fun y8=>(some (((((((y2.1&&y3.1)&&y4.1)&&y5.1)&&y6.1)&&y7.1)&&y8.1),())))))))))
def zam (φ:Nat):Fsp TV:=⟨[12],[.val 2],fun z=>zdt φ z.1⟩
def zc4 (φ:Nat) (x1:zn7) (x2:Int):Option (Bool×Unit):=((zy φ x1.type_ 0 (W (x2-1))).bind fun y3=>((zn (default,()) (y3.1=true) (zy φ x1.owner 0 63)).bind fun y4=>((zn (default,()) ((y3.1&&y4.1)=true) (zy φ x1.home 0 511)).bind fun y5=>((zn (default,()) (((y3.1&&y4.1)&&y5.1)=true) (zy φ x1.built 0 1073741824)).bind fun y6=>((zn (default,()) ((((y3.1&&y4.1)&&y5.1)&&y6.1)=true) (zy φ x1.worth 0 1099511627776)).bind fun y7=>(some (((((y3.1&&y4.1)&&y5.1)&&y6.1)&&y7.1),())))))))
def z96 (φ:Nat):Fsp TV:=⟨[14,0],[.val 2],fun z=>zc4 φ z.1 z.2.1⟩
def z4z (φ:Nat):Nat->(List Wash)->Int->(List Bool)->Option (Int×Unit)
 | 0,_,_,_=>none
 | n5+1,x2,x3,x4=>(if(decide ((x3:Int) <(x2.length:Int)))=true then(ck ((0:Int)<=x3/\x3 <(x2.length:Int)) ((zy φ ((gt x2 x3).from_) 0 63).bind fun y6=>((zn (default,()) ((!y6.1)=false) (zy φ ((gt x2 x3).to) 0 63)).bind fun y7=>((zn (default,()) ((((!y6.1)||(!y7.1))||(((gt x2 x3).from_:Int)==(gt x2 x3).to))=false) (zy φ ((gt x2 x3).minutes) 0 100000)).bind fun y8=>(if((((!y6.1)||(!y7.1))||(((gt x2 x3).from_:Int)==(gt x2 x3).to))||(!y8.1))=true then(some (1,())) else(ck ((0:Int)<=(W ((W (64 *(gt x2 x3).from_)) +(gt x2 x3).to))/\(W ((W (64 *(gt x2 x3).from_)) +(gt x2 x3).to)) <(x4.length:Int)) (if(gt x4 ((W ((W (64 *(gt x2 x3).from_)) +(gt x2 x3).to))))=true then(some (1,())) else(ck ((0:Int)<=(W ((W (64 *(gt x2 x3).from_)) +(gt x2 x3).to))/\(W ((W (64 *(gt x2 x3).from_)) +(gt x2 x3).to)) <(x4.length:Int)) ((z4z φ n5) x2 (W (x3+1)) ((zp x4 ((W ((W (64 *(gt x2 x3).from_)) +(gt x2 x3).to))) true))))))))))) else(some (0,())))
def zbv (φ:Nat) (x1 :(List Wash)):Option (Int×Unit):=(ck (z4v 4096 1) (z4z φ φ x1 0 (List.replicate (4096:Int).toNat (default:Bool))))
def zfy (φ:Nat):Fsp TV:=⟨[19],[.val 0],fun z=>zbv φ z.1⟩
def z3q (φ:Nat):Nat->Int->zbf->Option (Int×Unit)
 | 0,_,_=>none
 | n12+1,x10,x11=>(if(decide ((x10:Int) <(x11.swaps.length:Int)))=true then(ck ((0:Int)<=x10/\x10 <(x11.swaps.length:Int)) ((zy φ ((gt x11.swaps x10).wanted) 0 (W ((x11.types.length:Int)-1))).bind fun y13=>((zn (default,()) ((!y13.1)=false) (zy φ ((gt x11.swaps x10).given) 0 (W ((x11.types.length:Int)-1)))).bind fun y14=>((zn (default,()) ((((!y13.1)||(!y14.1))||(((gt x11.swaps x10).wanted:Int)==(gt x11.swaps x10).given))=false) (zy φ ((gt x11.swaps x10).cost) 0 1000000000)).bind fun y15=>(if((((!y13.1)||(!y14.1))||(((gt x11.swaps x10).wanted:Int)==(gt x11.swaps x10).given))||(!y15.1))=true then(some (1,())) else((z3q φ n12) (W (x10+1)) x11)))))) else((zbv φ x11.washes).bind fun y16=>(some (y16.1,()))))
def z4l (φ:Nat):Nat->Int->zbf->Option (Int×Unit)
 | 0,_,_=>none
 | n8+1,x6,x7=>(if(decide ((x6:Int) <(x7.wagons.length:Int)))=true then(ck ((0:Int)<=x6/\x6 <(x7.wagons.length:Int)) ((zc4 φ (gt x7.wagons x6) (x7.types.length:Int)).bind fun y9=>(if(!y9.1)=true then(some (1,())) else((z4l φ n8) (W (x6+1)) x7)))) else(z3q φ φ 0 x7))
def z6b (φ:Nat):Nat->Int->zbf->Option (Int×Unit)
 | 0,_,_=>none
 | n4+1,x2,x3=>(if(decide ((x2:Int) <(x3.types.length:Int)))=true then(ck ((0:Int)<=x2/\x2 <(x3.types.length:Int)) ((zdt φ (gt x3.types x2)).bind fun y5=>(if(!y5.1)=true then(some (1,())) else((z6b φ n4) (W (x2+1)) x3)))) else(z4l φ φ 0 x3))
def zhz (φ:Nat) (x1:zbf):Option (Int×Unit):=(if((((decide ((32:Int) <(x1.types.length:Int)))||(decide ((4096:Int) <(x1.wagons.length:Int))))||(decide ((1024:Int) <(x1.swaps.length:Int))))||(decide ((4096:Int) <(x1.washes.length:Int))))=true then(some (2,())) else(z6b φ φ 0 x1))
def zh8 (φ:Nat):Fsp TV:=⟨[20],[.val 0],fun z=>zhz φ z.1⟩
def z4n (φ:Nat):Nat->Int->Int->Pool->Option (Bool×Unit)
 | 0,_,_,_=>none
 | n15+1,x12,x13,x14=>(if(decide ((x13:Int) <(x14.fleet.wagons.length:Int)))=true then(ck ((0:Int)<=x13/\x13 <(x14.fleet.wagons.length:Int)) (if(decide ((x12:Int)<=(gt x14.fleet.wagons x13).home))=true then(some (false,())) else((z4n φ n15) x12 (W (x13+1)) x14))) else(some (true,())))
def z4s (φ:Nat):Nat->Int->Int->Pool->Option (Bool×Unit)
 | 0,_,_,_=>none
 | n10+1,x7,x8,x9=>(if(decide ((x8:Int) <(x9.shippers.length:Int)))=true then(ck ((0:Int)<=x8/\x8 <(x9.shippers.length:Int)) ((zy φ ((gt x9.shippers x8).place) 0 (W (x7-1))).bind fun y11=>(ck (((!y11.1)=false)->(0:Int)<=x8/\x8 <(x9.shippers.length:Int)) (ck (((!y11.1)=false)->(0:Int)<=(gt x9.shippers x8).place/\(gt x9.shippers x8).place <(x9.network.places.length:Int)) (if((!y11.1)||(((gt x9.network.places ((gt x9.shippers x8).place)).kind:Int) !=4))=true then(some (false,())) else((z4s φ n10) x7 (W (x8+1)) x9)))))) else(z4n φ φ x7 0 x9))
def z7d (φ:Nat):Nat->Int->Int->Pool->Option (Bool×Unit)
 | 0,_,_,_=>none
 | n5+1,x2,x3,x4=>(if(decide ((x3:Int) <(x4.readers.length:Int)))=true then(ck ((0:Int)<=x3/\x3 <(x4.readers.length:Int)) ((zy φ ((gt x4.readers x3).place) 0 (W (x2-1))).bind fun y6=>(if((((!y6.1)||(decide (((gt x4.readers x3).low:Int) <(-1000))))||(decide (((gt x4.readers x3).high:Int) <(gt x4.readers x3).low)))||(decide ((1000:Int) <(gt x4.readers x3).high)))=true then(some (false,())) else((z7d φ n5) x2 (W (x3+1)) x4)))) else(z4s φ φ x2 0 x4))
def zm1 (φ:Nat) (x1:Pool):Option (Bool×Unit):=(z7d φ φ (x1.network.places.length:Int) 0 x1)
def zl1 (φ:Nat):Fsp TV:=⟨[30],[.val 2],fun z=>zm1 φ z.1⟩
def z4r (φ:Nat):Nat->Int->Int->Pool->Option (Bool×Unit)
 | 0,_,_,_=>none
 | n9+1,x6,x7,x8=>(if(decide ((x7:Int) <(x8.network.edges.length:Int)))=true then(ck ((0:Int)<=x7/\x7 <(x8.network.edges.length:Int)) (if(decide ((x6:Int)<=(gt x8.network.edges x7).railway))=true then(some (false,())) else((z4r φ n9) x6 (W (x7+1)) x8))) else(some (true,())))
def z64 (φ:Nat):Nat->Int->Int->Pool->Option (Bool×Unit)
 | 0,_,_,_=>none
 | n5+1,x2,x3,x4=>(if(decide ((x3:Int) <(x4.network.places.length:Int)))=true then(ck ((0:Int)<=x3/\x3 <(x4.network.places.length:Int)) (if((decide ((x2:Int)<=(gt x4.network.places x3).railway))||(decide ((x2:Int)<=(gt x4.network.places x3).other)))=true then(some (false,())) else((z64 φ n5) x2 (W (x3+1)) x4))) else(z4r φ φ x2 0 x4))
def zh4 (φ:Nat) (x1:Pool):Option (Bool×Unit):=(z64 φ φ (x1.railways.length:Int) 0 x1)
def ziy (φ:Nat):Fsp TV:=⟨[30],[.val 2],fun z=>zh4 φ z.1⟩
def z6c (φ:Nat):Nat->Int->z4w->Option (Int×Unit)
 | 0,_,_=>none
 | n7+1,x5,x6=>(if(decide ((x5:Int) <(x6.holidays.length:Int)))=true then(ck ((0:Int)<=x5/\x5 <(x6.holidays.length:Int)) (ck ((((decide (((gt x6.holidays x5):Int)<0))||(decide ((745654:Int) <(gt x6.holidays x5))))=false/\(decide ((0:Int)<x5))=true)->(0:Int)<=(W (x5-1))/\(W (x5-1)) <(x6.holidays.length:Int)) (if(((decide (((gt x6.holidays x5):Int)<0))||(decide ((745654:Int) <(gt x6.holidays x5))))||((decide ((0:Int)<x5))&&(decide (((gt x6.holidays x5):Int)<=(gt x6.holidays (W (x5-1)))))))=true then(some (1,())) else((z6c φ n7) (W (x5+1)) x6)))) else(some (0,())))
def z65 (φ:Nat):Nat->Int->z4w->Option (Int×Unit)
 | 0,_,_=>none
 | n4+1,x2,x3=>(if(decide ((x2:Int)<7))=true then(ck ((0:Int)<=x2/\x2 <(7:Int)) (if(((decide (((x3.open_ ((x2:Int).toNat)).from_:Int)<0))||(decide (((x3.open_ ((x2:Int).toNat)).to:Int) <(x3.open_ ((x2:Int).toNat)).from_)))||(decide ((1440:Int) <(x3.open_ ((x2:Int).toNat)).to)))=true then(some (1,())) else((z65 φ n4) (W (x2+1)) x3))) else(z6c φ φ 0 x3))
def zhn (φ:Nat) (x1:z4w):Option (Int×Unit):=(z65 φ φ 0 x1)
def zi7 (φ:Nat):Fsp TV:=⟨[27],[.val 0],fun z=>zhn φ z.1⟩
def ziv (φ:Nat) (x1:Int):Option (Bool×Unit):=((zn (default,()) (((decide ((2:Int)<=x1))&&(decide ((x1:Int)<2305843009213690799)))=true) (zl0 φ x1 1152921504606845399)).bind fun y2=>(some ((((decide ((2:Int)<=x1))&&(decide ((x1:Int)<2305843009213690799)))&&((y2.1:Int)==1)),())))
def zik (φ:Nat):Fsp TV:=⟨[6],[.val 2],fun z=>ziv φ z.1⟩
def z1t (φ:Nat):Nat->Int->Pool->Option (Int×Unit)
 | 0,_,_=>none
 | n8+1,x6,x7=>(if(decide ((x6:Int) <(x7.railways.length:Int)))=true then(ck ((0:Int)<=x6/\x6 <(x7.railways.length:Int)) ((zhn φ ((gt x7.railways x6).calendar)).bind fun y9=>(ck ((((y9.1:Int) !=0)=false)->(0:Int)<=x6/\x6 <(x7.railways.length:Int)) ((zn (default,()) (((y9.1:Int) !=0)=false) (ziv φ ((gt x7.railways x6).key))).bind fun y10=>(if(((y9.1:Int) !=0)||(!y10.1))=true then(some (1,())) else((z1t φ n8) (W (x6+1)) x7)))))) else(if(((x7.railways.length:Int):Int)==0)=true then(some (1,())) else(some (0,()))))
def z8j (φ:Nat) (x1:Pool):Option (Int×Unit):=((ze0 φ x1.network).bind fun y2=>(if((y2.1:Int) !=0)=true then(some (y2.1,())) else((zhz φ x1.fleet).bind fun y3=>(if((y3.1:Int) !=0)=true then(some (y3.1,())) else(if(((decide ((256:Int) <(x1.readers.length:Int)))||(decide ((256:Int) <(x1.shippers.length:Int))))||(decide ((16:Int) <(x1.railways.length:Int))))=true then(some (2,())) else((zm1 φ x1).bind fun y4=>((zn (default,()) ((!y4.1)=false) (zh4 φ x1)).bind fun y5=>(if((!y4.1)||(!y5.1))=true then(some (1,())) else(z1t φ φ 0 x1)))))))))
def zai (φ:Nat):Fsp TV:=⟨[30],[.val 0],fun z=>z8j φ z.1⟩
def zd1 (φ:Nat) (x5:Int) (x6:Bool):Option (ByteArray×Unit):=(if x6=true then(some (zky,())) else(if((x5:Int)==13)=true then(some (zu8,())) else(if((x5:Int)==15)=true then(some (zmx,())) else(some ((⟨#[]⟩:ByteArray),())))))
def zcn (φ:Nat) (x2:Int) (x3:Bool):Option (ByteArray×Unit):=(if x3=true then(some (z6e,())) else(if((x2:Int)==5)=true then(some (zmv,())) else(if((x2:Int)==6)=true then(some (z6e,())) else(if((x2:Int)==7)=true then(some (zeq,())) else(if((x2:Int)==8)=true then(some (zmq,())) else(if((x2:Int)==9)=true then(some (zmu,())) else(if((x2:Int)==10)=true then(some (zto,())) else(if((x2:Int)==11)=true then(zd1 φ x2 ((x2:Int)==11)) else(zd1 φ x2 ((x2:Int)==12))))))))))
def zm4 (φ:Nat) (x1:Int):Option (ByteArray×Unit):=(if((x1:Int)==1)=true then(some (zkj,())) else(if((x1:Int)==2)=true then(some (zdv,())) else(if((x1:Int)==3)=true then(zcn φ x1 ((x1:Int)==3)) else(zcn φ x1 ((x1:Int)==4)))))
def zl4 (φ:Nat):Fsp TV:=⟨[0],[.val 31],fun z=>zm4 φ z.1⟩
def zf (φ:Nat) (x1:Int) (x2:Int) (x3:Int):Option (Bool×Unit):=(some (((decide ((x2:Int)<=x1))&&(decide ((x1:Int)<=x3))),()))
def z16 (φ:Nat):Fsp TV:=⟨[0,0,0],[.val 2],fun z=>zf φ z.1 z.2.1 z.2.2.1⟩
def z9k (φ:Nat) (x1:Item):Option (Bool×Unit):=(if(((x1.ref.railway:Int)==0)&&(((x1.ref.no:Int)==0)&&true))=true then(some (((x1.kind:Int) !=14),())) else((zf φ x1.ref.railway 0 15).bind fun y2=>((zn (default,()) (y2.1=true) (zf φ x1.ref.no 1 4096)).bind fun y3=>(some ((y2.1&&y3.1),())))))
def zal (φ:Nat):Fsp TV:=⟨[34],[.val 2],fun z=>z9k φ z.1⟩
def zdq (φ:Nat):Nat->ByteArray->Int->Int->Option (Bool×Unit)
 | 0,_,_,_=>none
 | n6+1,x3,x4,x5=>(if(decide ((x5:Int) <(x3.size:Int)))=true then(ck ((0:Int)<=x5/\x5 <(x3.size:Int)) (if(((z54 x3 x5):Int)==x4)=true then(some (true,())) else((zdq φ n6) x3 x4 (W (x5+1))))) else(some (false,())))
def zb3 (φ:Nat) (x1:ByteArray) (x2:Int):Option (Bool×Unit):=(zdq φ φ x1 x2 0)
def zpt (φ:Nat):Fsp TV:=⟨[31,52],[.val 2],fun z=>zb3 φ z.1 z.2.1⟩
def zbd (φ:Nat) (x4:Int) (x5:Int) (x6:Bool):Option (Bool×Unit):=(if x6=true then(some (((x4:Int)==3),())) else(if((x5:Int)==9)=true then(some (((x4:Int)==5),())) else(some (true,()))))
def znk (φ:Nat) (x1:Pool) (x2:Item):Option (Bool×Unit):=((zf φ x2.place 0 (W ((x1.network.places.length:Int)-1))).bind fun y3=>(if(!y3.1)=true then(some (false,())) else(ck ((0:Int)<=x2.place/\x2.place <(x1.network.places.length:Int)) (if((x2.kind:Int)==3)=true then(zbd φ ((gt x1.network.places x2.place).kind) x2.kind ((x2.kind:Int)==3)) else(zbd φ ((gt x1.network.places x2.place).kind) x2.kind ((x2.kind:Int)==4))))))
def zhi (φ:Nat):Fsp TV:=⟨[30,34],[.val 2],fun z=>znk φ z.1 z.2.1⟩
def zbb (φ:Nat) (x4:Int) (x5:Bool) (x6:Pool) (x7:Item):Option (Bool×Unit):=(if x5=true then(ck ((0:Int)<=x7.place/\x7.place <(x6.network.places.length:Int)) (some ((((x7.other:Int)==(gt x6.network.places x7.place).railway)||((x7.other:Int)==(gt x6.network.places x7.place).other)),()))) else(if((x4:Int)==10)=true then((zf φ x7.other 0 63).bind fun y9=>(some (y9.1,()))) else((zf φ x7.other 0 (W ((x6.shippers.length:Int)-1))).bind fun y10=>(some (y10.1,())))))
def znm (φ:Nat) (x1:Pool) (x2:Item):Option (Bool×Unit):=(if((x2.kind:Int)==1)=true then((zf φ x2.other 0 (W ((x1.readers.length:Int)-1))).bind fun y3=>(some (y3.1,()))) else(if((x2.kind:Int)==3)=true then(zbb φ x2.kind ((x2.kind:Int)==3) x1 x2) else(zbb φ x2.kind ((x2.kind:Int)==4) x1 x2)))
def zhd (φ:Nat):Fsp TV:=⟨[30,34],[.val 2],fun z=>znm φ z.1 z.2.1⟩
def zlg (φ:Nat) (x1:Pool) (x2:Item):Option (Bool×Unit):=(if((x2.kind:Int)==5)=true then((zf φ x2.number 1 1000000000).bind fun y3=>(some (y3.1,()))) else(if((x2.kind:Int)==15)=true then((zf φ x2.number 0 (W ((x1.fleet.types.length:Int)-1))).bind fun y4=>(some (y4.1,()))) else((zf φ x2.number 1 6).bind fun y5=>(some (y5.1,())))))
def zfz (φ:Nat):Fsp TV:=⟨[30,34],[.val 2],fun z=>zlg φ z.1 z.2.1⟩
def zcf (φ:Nat) (x2:Int) (x3:Bool) (x4:Item):Option (Bool×Unit):=(if x3=true then((zf φ x4.code 0 8).bind fun y6=>(some (y6.1,()))) else(if((x2:Int)==6)=true then((zf φ x4.code 0 1).bind fun y7=>(some (y7.1,()))) else(if((x2:Int)==8)=true then((zf φ x4.code 1 9).bind fun y8=>(some (y8.1,()))) else((zf φ x4.code 1 2).bind fun y9=>(some (y9.1,()))))))
def zqi (φ:Nat) (x1:Item):Option (Bool×Unit):=(if((x1.kind:Int)==3)=true then(zcf φ x1.kind ((x1.kind:Int)==3) x1) else(zcf φ x1.kind ((x1.kind:Int)==4) x1))
def zl5 (φ:Nat):Fsp TV:=⟨[34],[.val 2],fun z=>zqi φ z.1⟩
def zdm (φ:Nat) (x1:Pool) (x2:Item) (x3:Int):Option (Bool×Unit):=(if((x3:Int)==119)=true then((zf φ x2.wagon 0 (W ((x1.fleet.wagons.length:Int)-1))).bind fun y4=>(some (y4.1,()))) else(if((x3:Int)==112)=true then((znk φ x1 x2).bind fun y5=>(some (y5.1,()))) else(if((x3:Int)==111)=true then((znm φ x1 x2).bind fun y6=>(some (y6.1,()))) else(if((x3:Int)==110)=true then((zlg φ x1 x2).bind fun y7=>(some (y7.1,()))) else(if((x3:Int)==102)=true then((zf φ x2.from_ 0 1073741824).bind fun y8=>(some (y8.1,()))) else(if((x3:Int)==116)=true then((zf φ x2.to x2.from_ 1073741824).bind fun y9=>(some (y9.1,()))) else(if((x3:Int)==99)=true then((zqi φ x2).bind fun y10=>(some (y10.1,()))) else(if((x3:Int)==100)=true then((zf φ x2.dest 0 (W ((x1.network.places.length:Int)-1))).bind fun y11=>(some (y11.1,()))) else(if((x3:Int)==107)=true then((zf φ x2.class_ 0 63).bind fun y12=>(some (y12.1,()))) else(if((x3:Int)==103)=true then(if((x2.kind:Int)==15)=true then((zf φ x2.weight 1 1000).bind fun y13=>(some (y13.1,()))) else((zf φ x2.weight 0 1000000).bind fun y14=>(some (y14.1,())))) else((zf φ x2.amount 0 1000000000).bind fun y15=>(some (y15.1,())))))))))))))
def zhs (φ:Nat):Fsp TV:=⟨[30,34,52],[.val 2],fun z=>zdm φ z.1 z.2.1 z.2.2.1⟩
def z67 (φ:Nat):Nat->Int->Item->Option (Bool×Unit)
 | 0,_,_=>none
 | n4+1,x2,x3=>(if(decide ((x2:Int) <(x3.parts.length:Int)))=true then(ck ((0:Int)<=x2/\x2 <(x3.parts.length:Int)) ((zf φ ((gt x3.parts x2).kind) 1 3).bind fun y5=>((zn (default,()) ((!y5.1)=false) (zf φ ((gt x3.parts x2).serial) 0 1073741824)).bind fun y6=>(if(((!y5.1)||(!y6.1))||(((x3.kind:Int)==10)&&(gt x3.parts x2).fitted))=true then(some (false,())) else((z67 φ n4) (W (x2+1)) x3))))) else(some (true,())))
def zhl (φ:Nat) (x1:Item):Option (Bool×Unit):=(if((decide ((16:Int) <(x1.parts.length:Int)))||(((x1.kind:Int)==10)&&(((x1.parts.length:Int):Int)==0)))=true then(some (false,())) else(z67 φ φ 0 x1))
def zhh (φ:Nat):Fsp TV:=⟨[34],[.val 2],fun z=>zhl φ z.1⟩
def z3j (φ:Nat):Nat->ByteArray->Int->Pool->Item->Option (Bool×Unit)
 | 0,_,_,_,_=>none
 | n10+1,x6,x7,x8,x9=>(if(decide ((x7:Int)<11))=true then(ck ((0:Int)<=x7/\x7 <(z0c.size:Int)) ((zb3 φ x6 (z54 z0c x7)).bind fun y11=>((zn (default,()) (y11.1=true) (zdm φ x8 x9 (z54 z0c x7))).bind fun y12=>((zn (default,()) ((y11.1&&(!y12.1))=false) (zb3 φ x6 (z54 z0c x7))).bind fun y13=>((zn (default,()) ((y11.1&&(!y12.1))=false/\(!y13.1)=true) (z5s φ x9 (z54 z0c x7))).bind fun y14=>(if((y11.1&&(!y12.1))||((!y13.1)&&((y14.1:Int) !=0)))=true then(some (false,())) else((z3j φ n10) x6 (W (x7+1)) x8 x9))))))) else((zb3 φ x6 120).bind fun y15=>(if((y15.1 !=(x9.text !=(⟨#[]⟩:ByteArray)))||(decide ((2000:Int) <(x9.text.size:Int))))=true then(some (false,())) else((zb3 φ x6 113).bind fun y16=>((zn (default,()) (y16.1=true) (zhl φ x9)).bind fun y17=>((zn (default,()) ((y16.1&&y17.1)=false/\(((x9.parts.length:Int):Int)==0)=true) (zb3 φ x6 113)).bind fun y18=>(some (((y16.1&&y17.1)||((((x9.parts.length:Int):Int)==0)&&(!y18.1))),()))))))))
def zf1 (φ:Nat) (x1:Pool) (x2:Item):Option (Bool×Unit):=((zm4 φ x2.kind).bind fun y3=>((zf φ x2.kind 1 15).bind fun y4=>((zn (default,()) ((!y4.1)=false) (z9k φ x2)).bind fun y5=>(if((!y4.1)||(!y5.1))=true then(some (false,())) else(z3j φ φ y3.1 0 x1 x2)))))
def zha (φ:Nat):Fsp TV:=⟨[30,34],[.val 2],fun z=>zf1 φ z.1 z.2.1⟩
def z35 (φ:Nat):Nat->(List z8)->Int->Pool->(List Int)->Option ((List Int)×Int×Unit)
 | 0,_,_,_,_=>none
 | n8+1,x4,x5,x6,x7=>(if(decide ((x5:Int) <(x4.length:Int)))=true then(ck ((0:Int)<=x5/\x5 <(x4.length:Int)) ((zf1 φ x6 ((gt x4 x5).item)).bind fun y9=>(if y9.1=true then(ck (fits (x7.length +([x5]).length) 8) ((z35 φ n8) x4 (W (x5+1)) x6 (x7++[x5]))) else((z35 φ n8) x4 (W (x5+1)) x6 x7)))) else(some (x7,0,())))
def z7l (φ:Nat) (x1:Pool) (x2 :(List z8)):Option ((List Int)×Int×Unit):=((z8j φ x1).bind fun y3=>(if((y3.1:Int) !=0)=true then(some (([]:List Int),y3.1,())) else(z35 φ φ x2 0 x1 ([]:List Int))))
def zdy (φ:Nat):Fsp TV:=⟨[30,38],[.val 5,.val 0],fun z=>z7l φ z.1 z.2.1⟩
def z1o (φ:Nat):Nat->Int->Int->(List Int)->Option ((List Int)×Unit)
 | 0,_,_,_=>none
 | n12+1,x9,x10,x11=>(if(decide ((x10:Int) <(x11.length:Int)))=true then(ck ((0:Int)<=x10/\x10 <(x11.length:Int)) (if(((gt x11 x10):Int)==1)=true then(ck ((0:Int)<=x10/\x10 <(x11.length:Int)) ((z1o φ n12) (W (x9+1)) (W (x10+1)) (zp x11 x10 x9))) else((z1o φ n12) x9 (W (x10+1)) x11))) else(some (x11,())))
def z2y (φ:Nat):Nat->(List z8)->(List Int)->Int->(List Int)->Option ((List Int)×Unit)
 | 0,_,_,_,_=>none
 | n8+1,x4,x5,x6,x7=>(if(decide ((x6:Int) <(x5.length:Int)))=true then(ck ((0:Int)<=x6/\x6 <(x5.length:Int)) (ck ((0:Int)<=(gt x5 x6)/\(gt x5 x6) <(x4.length:Int)) (if((((gt x4 (gt x5 x6)).item).kind:Int)==1)=true then(ck ((0:Int)<=((gt x4 (gt x5 x6)).item).other/\((gt x4 (gt x5 x6)).item).other <(x7.length:Int)) ((z2y φ n8) x4 x5 (W (x6+1)) ((zp x7 (((gt x4 (gt x5 x6)).item).other) 1)))) else((z2y φ n8) x4 x5 (W (x6+1)) x7)))) else(z1o φ φ 1 0 x7))
def zdf (φ:Nat) (x1:Pool) (x2 :(List z8)) (x3 :(List Int)):Option ((List Int)×Unit):=(ck (z4v (x1.readers.length:Int) 8) (z2y φ φ x2 x3 0 (List.replicate ((x1.readers.length:Int):Int).toNat (default:Int))))
def zes (φ:Nat):Fsp TV:=⟨[30,38,5],[.val 5],fun z=>zdf φ z.1 z.2.1 z.2.2.1⟩
def z14 (φ:Nat) (x4:Int) (x5:Bool) (x6:Item) (x7:za):Option ((List za)×Unit):=(if x5=true then(some ([(⟨x7.place,x7.time,x7.ref,x7.second,x7.from_,true,x7.reader,x7.covers⟩:za),(⟨x7.place,x6.to,x7.ref,true,x7.from_,true,x7.reader,x7.covers⟩:za)],())) else(if((x4:Int)==3)=true then(if((x4:Int)==3)=true then(some ([x7],())) else(some (([]:List za),()))) else(if((x4:Int)==4)=true then(if((x4:Int)==4)=true then(some ([x7],())) else(some (([]:List za),()))) else(if((x4:Int)==6)=true then(if((x4:Int)==6)=true then(some ([x7],())) else(some (([]:List za),()))) else(if((x4:Int)==7)=true then(some ([x7],())) else(some (([]:List za),())))))))
def z2q (φ:Nat) (x1:Pool) (x2:z8) (x3:Int):Option ((List za)×Unit):=(if((x2.item.kind:Int)==1)=true then(ck ((0:Int)<=x2.item.other/\x2.item.other <(x1.readers.length:Int)) (some ([(⟨(gt x1.readers x2.item.other).place,x2.item.from_,x2.ref,false,x3,false,x2.item.other,false⟩:za)],()))) else(if((x2.item.kind:Int)==2)=true then(z14 φ x2.item.kind ((x2.item.kind:Int)==2) x2.item (⟨x2.item.place,x2.item.from_,x2.ref,false,x3,false,-1,false⟩:za)) else(z14 φ x2.item.kind ((x2.item.kind:Int)==9) x2.item (⟨x2.item.place,x2.item.from_,x2.ref,false,x3,false,-1,false⟩:za))))
def zg0 (φ:Nat):Fsp TV:=⟨[30,35,0],[.val 54],fun z=>z2q φ z.1 z.2.1 z.2.2.1⟩
def zbm (φ:Nat) (x1:Ref) (x2:Ref):Option (Bool×Unit):=(some (((decide ((x1.railway:Int)<x2.railway))||(((x1.railway:Int)==x2.railway)&&(decide ((x1.no:Int)<x2.no)))),()))
def zar (φ:Nat):Fsp TV:=⟨[1,1],[.val 2],fun z=>zbm φ z.1 z.2.1⟩
def zf5 (φ:Nat) (x1:za) (x2:za):Option (Bool×Unit):=(if((x1.time:Int) !=x2.time)=true then(some ((decide ((x1.time:Int)<x2.time)),())) else(if(!(((x1.ref.railway:Int)==x2.ref.railway)&&(((x1.ref.no:Int)==x2.ref.no)&&true)))=true then((zbm φ x1.ref x2.ref).bind fun y3=>(some (y3.1,()))) else(if(x1.second !=x2.second)=true then(some (x2.second,())) else(some ((decide ((x1.from_:Int)<x2.from_)),())))))
def zgo (φ:Nat):Fsp TV:=⟨[53,53],[.val 2],fun z=>zf5 φ z.1 z.2.1⟩
def z5b (φ:Nat):Nat->(List za)->Int->za->Option ((List za)×Unit)
 | 0,_,_,_=>none
 | n6+1,x3,x4,x5=>(ck (((decide ((x4:Int) <(x3.length:Int)))=true)->(0:Int)<=x4/\x4 <(x3.length:Int)) ((zn (default,()) ((decide ((x4:Int) <(x3.length:Int)))=true) (zf5 φ (gt x3 x4) x5)).bind fun y7=>(if((decide ((x4:Int) <(x3.length:Int)))&&y7.1)=true then((z5b φ n6) x3 (W (x4+1)) x5) else(ck ((0:Int)<=0/\0<=x4/\x4<=(x3.length:Int)) (ck (fits (([]:List za).length +(z0k x3 (0:Int).toNat (x4:Int).toNat).length) 72) (ck (fits ((([]:List za)++(z0k x3 (0:Int).toNat (x4:Int).toNat)).length +([x5]).length) 72) (ck ((0:Int)<=x4/\x4<=(x3.length:Int)/\(x3.length:Int)<=(x3.length:Int)) (ck (fits ((((([]:List za)++(z0k x3 (0:Int).toNat (x4:Int).toNat))++[x5])).length +(z0k x3 (x4:Int).toNat ((x3.length:Int):Int).toNat).length) 72) (some ((((([]:List za)++(z0k x3 (0:Int).toNat (x4:Int).toNat))++[x5])++(z0k x3 (x4:Int).toNat ((x3.length:Int):Int).toNat)),()))))))))))
def zfh (φ:Nat) (x1 :(List za)) (x2:za):Option ((List za)×Unit):=(z5b φ φ x1 0 x2)
def zfx (φ:Nat):Fsp TV:=⟨[54,53],[.row 160 53],fun z=>zfh φ z.1 z.2.1⟩
def z2z (φ:Nat) (k11 :((List z8)->(List Int)->Int->Int->Pool->(List za)->Option ((List za)×Unit))):Nat->(List z8)->(List Int)->Int->Int->(List za)->Int->Pool->(List za)->Option ((List za)×Unit)
 | 0,_,_,_,_,_,_,_,_=>none
 | n21+1,x13,x14,x15,x16,x17,x18,x19,x20=>(if(decide ((x18:Int) <(x17.length:Int)))=true then(ck ((0:Int)<=x18/\x18 <(x17.length:Int)) ((zfh φ x20 (gt x17 x18)).bind fun y22=>((z2z φ k11 n21) x13 x14 x15 x16 x17 (W (x18+1)) x19 y22.1))) else(k11 x13 x14 x15 (W (x16+1)) x19 x20))
def z5w (φ:Nat) (k25 :(Int->(List za)->Option ((List za)×Unit))):Nat->Int->Int->(List za)->Option ((List za)×Unit)
 | 0,_,_,_=>none
 | n29+1,x26,x27,x28=>(ck ((0:Int)<=x27/\x27 <(x28.length:Int)) (ck (((!(gt x28 x27).second)=false)->(0:Int)<=x27/\x27 <(x28.length:Int)) (ck (((!(gt x28 x27).second)=false)->(0:Int)<=x26/\x26 <(x28.length:Int)) (if((!(gt x28 x27).second)||(((gt x28 x27).from_:Int) !=(gt x28 x26).from_))=true then(ck ((0:Int)<=x27/\x27 <(x28.length:Int)) ((z5w φ k25 n29) x26 (W (x27+1)) (zp x28 x27 (⟨(gt x28 x27).place,(gt x28 x27).time,(gt x28 x27).ref,(gt x28 x27).second,(gt x28 x27).from_,(gt x28 x27).stay,(gt x28 x27).reader,true⟩:za)))) else(k25 (W (x26+1)) x28)))))
def z0a (φ:Nat):Nat->Int->(List za)->Option ((List za)×Unit)
 | 0,_,_=>none
 | n25+1,x23,x24=>(if(decide ((x23:Int) <(x24.length:Int)))=true then(ck ((0:Int)<=x23/\x23 <(x24.length:Int)) (ck (((!(gt x24 x23).stay)=false)->(0:Int)<=x23/\x23 <(x24.length:Int)) (if((!(gt x24 x23).stay)||(gt x24 x23).second)=true then((z0a φ n25) (W (x23+1)) x24) else(z5w φ (z0a φ n25) φ x23 x23 x24)))) else(some (x24,())))
def z31 (φ:Nat):Nat->(List z8)->(List Int)->Int->Int->Pool->(List za)->Option ((List za)×Unit)
 | 0,_,_,_,_,_,_=>none
 | n11+1,x5,x6,x7,x8,x9,x10=>(if(decide ((x8:Int) <(x6.length:Int)))=true then(ck ((0:Int)<=x8/\x8 <(x6.length:Int)) (ck ((0:Int)<=(gt x6 x8)/\(gt x6 x8) <(x5.length:Int)) (if((((gt x5 (gt x6 x8)).item).wagon:Int) !=x7)=true then((z31 φ n11) x5 x6 x7 (W (x8+1)) x9 x10) else(ck ((0:Int)<=x8/\x8 <(x6.length:Int)) ((z2q φ x9 (gt x5 (gt x6 x8)) (gt x6 x8)).bind fun y12=>(z2z φ (z31 φ n11) φ x5 x6 x7 x8 y12.1 0 x9 x10)))))) else(z0a φ φ 0 x10))
def zbj (φ:Nat) (x1:Pool) (x2 :(List z8)) (x3 :(List Int)) (x4:Int):Option ((List za)×Unit):=(z31 φ φ x2 x3 x4 0 x1 ([]:List za))
def zg3 (φ:Nat):Fsp TV:=⟨[30,38,5,0],[.val 54],fun z=>zbj φ z.1 z.2.1 z.2.2.1 z.2.2.2.1⟩
def z8d (φ:Nat) (x1:zc) (x2:Int):Option (Bool×Unit):=((z1u φ x2 0 (W ((x1.places.length:Int)-1))).bind fun y3=>(some (y3.1,())))
def zaz (φ:Nat):Fsp TV:=⟨[11,0],[.val 2],fun z=>z8d φ z.1 z.2.1⟩
def zbi (φ:Nat) (x1:Int) (x2:Int):Option (Int×Unit):=(if(decide ((x1:Int)<0))=true then(some (x2,())) else(some ((min2 x1 x2),())))
def zgi (φ:Nat):Fsp TV:=⟨[0,0],[.val 0],fun z=>zbi φ z.1 z.2.1⟩
def z52 (φ:Nat) (k18 :(Bool->Int->zc->(List Int)->Option ((List Int)×Int×Unit))) (x27:Bool) (x28:Int) (x29:Int) (x30:Int) (x31:zc) (x32 :(List Int)) (x33:Edge):Option ((List Int)×Int×Unit):=(ck ((x27=false)->(0:Int)<=x33.a/\x33.a <(x32.length:Int)) (ck (((x27||(((gt x32 x33.a):Int) !=x29))=false)->(0:Int)<=x33.b/\x33.b <(x32.length:Int)) (k18 (((x27||(((gt x32 x33.a):Int) !=x29))||(((gt x32 x33.b):Int) !=x30))) (W (x28+1)) x31 x32)))
def z6z (φ:Nat) (k18 :(Bool->Int->zc->(List Int)->Option ((List Int)×Int×Unit))) (x19:Bool) (x20:Int) (x21:Int) (x22:Int) (x23:zc) (x24 :(List Int)) (x25:Edge):Option ((List Int)×Int×Unit):=(if(decide ((0:Int)<=x22))=true then((zbi φ x21 (W (x22+x25.minutes))).bind fun y35=>(ck ((0:Int)<=x25.a/\x25.a <(x24.length:Int)) (z52 φ k18 x19 x20 x21 x22 x23 (zp x24 x25.a y35.1) x25))) else(z52 φ k18 x19 x20 x21 x22 x23 x24 x25))
def z0m (φ:Nat) (k13 :(Bool->zc->(List Int)->Option ((List Int)×Int×Unit))):Nat->Bool->Int->zc->(List Int)->Option ((List Int)×Int×Unit)
 | 0,_,_,_,_=>none
 | n18+1,x14,x15,x16,x17=>(if(decide ((x15:Int) <(x16.edges.length:Int)))=true then(ck ((0:Int)<=x15/\x15 <(x16.edges.length:Int)) (ck ((0:Int)<=(gt x16.edges x15).a/\(gt x16.edges x15).a <(x17.length:Int)) (ck ((0:Int)<=(gt x16.edges x15).b/\(gt x16.edges x15).b <(x17.length:Int)) (if(decide ((0:Int)<=(gt x17 ((gt x16.edges x15).a))))=true then((zbi φ (gt x17 ((gt x16.edges x15).b)) ((W ((gt x17 ((gt x16.edges x15).a)) +(gt x16.edges x15).minutes)))).bind fun y36=>(ck ((0:Int)<=(gt x16.edges x15).b/\(gt x16.edges x15).b <(x17.length:Int)) (z6z φ (z0m φ k13 n18) x14 x15 (gt x17 ((gt x16.edges x15).a)) (gt x17 ((gt x16.edges x15).b)) x16 (zp x17 ((gt x16.edges x15).b) y36.1) (gt x16.edges x15)))) else(z6z φ (z0m φ k13 n18) x14 x15 (gt x17 ((gt x16.edges x15).a)) (gt x17 ((gt x16.edges x15).b)) x16 x17 (gt x16.edges x15)))))) else(k13 x14 x16 x17))
def z1s (φ:Nat):Nat->Bool->zc->(List Int)->Option ((List Int)×Int×Unit)
 | 0,_,_,_=>none
 | n13+1,x10,x11,x12=>(if x10=true then(z0m φ (z1s φ n13) φ false 0 x11 x12) else(some (x12,0,())))
def z6a (φ:Nat):Nat->Int->Int->zc->(List Int)->Option ((List Int)×Int×Unit)
 | 0,_,_,_,_=>none
 | n9+1,x5,x6,x7,x8=>(if(decide ((x6:Int) <(x8.length:Int)))=true then(ck ((0:Int)<=x6/\x6 <(x8.length:Int)) ((z6a φ n9) x5 (W (x6+1)) x7 (zp x8 x6 (-1)))) else(ck ((0:Int)<=x5/\x5 <(x8.length:Int)) (z1s φ φ true x7 (zp x8 x5 0))))
def za6 (φ:Nat) (x1:zc) (x2:Int):Option ((List Int)×Int×Unit):=((ze0 φ x1).bind fun y3=>(if((y3.1:Int) !=0)=true then(some (([]:List Int),y3.1,())) else((z8d φ x1 x2).bind fun y4=>(if(!y4.1)=true then(some (([]:List Int),1,())) else(ck (z4v (x1.places.length:Int) 8) (z6a φ φ x2 0 x1 (List.replicate ((x1.places.length:Int):Int).toNat (default:Int))))))))
def zii (φ:Nat):Fsp TV:=⟨[11,0],[.val 5,.val 0],fun z=>za6 φ z.1 z.2.1⟩
def z7j (φ:Nat) (x1:zc) (x2:Int) (x3:Int):Option (Int×Int×Unit):=((za6 φ x1 x2).bind fun y4=>(if((y4.2.1:Int) !=0)=true then(some (0,y4.2.1,())) else((z8d φ x1 x3).bind fun y5=>(if(!y5.1)=true then(some (0,1,())) else(ck ((0:Int)<=x3/\x3 <(y4.1.length:Int)) (if(decide (((gt y4.1 x3):Int)<0))=true then(some (0,80,())) else(ck ((0:Int)<=x3/\x3 <(y4.1.length:Int)) (some ((gt y4.1 x3),0,())))))))))
def zdr (φ:Nat):Fsp TV:=⟨[11,0,0],[.val 0,.val 0],fun z=>z7j φ z.1 z.2.1 z.2.2.1⟩
def zfn (φ:Nat) (x1:Pool) (x2:za) (x3:za):Option (Int×Unit):=((z7j φ x1.network x2.place x3.place).bind fun y4=>(if(((y4.2.1:Int) !=0)||(((x2.place:Int) !=x3.place)&&x2.covers))=true then(some (1073741825,())) else(some (y4.1,()))))
def zgq (φ:Nat):Fsp TV:=⟨[30,53,53],[.val 0],fun z=>zfn φ z.1 z.2.1 z.2.2.1⟩
def z6x (φ:Nat) (k62 :((List Int)->(List za)->Int->Int->(List z8)->(List Int)->(List Int)->Int->Pool->(List Int)->Pool->(List z8)->(List Int)->Int->(List za)->Int->Int->Pool->Ref->Pool->Int->(List zb)->(List (Nat->Ref))->(List z0o)->(List zb)->(List (Nat->Ref))->(List z0o)->Option (z0p×Int×Unit))) (x63 :(List Int)) (x64 :(List za)) (x65:Int) (x66:Int) (x67:Int) (x68 :(List z8)) (x69 :(List Int)) (x70 :(List Int)) (x71:Int) (x72:Pool) (x73 :(List Int)) (x74:Pool) (x75 :(List z8)) (x76 :(List Int)) (x77:Int) (x78 :(List za)) (x79:Int) (x80:Int) (x81:Pool) (x82:Ref) (x83:Pool) (x84:Int) (x85 :(List zb)) (x86 :(List (Nat->Ref))) (x87 :(List z0o)) (x88 :(List zb)) (x89 :(List (Nat->Ref))) (x90 :(List z0o)):Option (z0p×Int×Unit):=(if(decide ((0:Int)<x66))=true then(ck ((0:Int)<=(W (x66-1))/\(W (x66-1)) <(x64.length:Int)) (ck ((0:Int)<=x66/\x66 <(x64.length:Int)) ((zfn φ x81 (gt x64 (W (x66-1))) (gt x64 x66)).bind fun y92=>(ck ((0:Int)<=(W (x66-1))/\(W (x66-1)) <(x64.length:Int)) (ck ((0:Int)<=x66/\x66 <(x64.length:Int)) (ck (fits (x85.length +([(⟨x67,W (x67-1),W (0-y92.1)⟩:zb)]).length) 24) (ck (fits (x86.length +([(upd ((upd (fun _=>(default:Ref)) 0 (((gt x64 (W (x66-1))).ref)))) 1 ((gt x64 x66).ref))]).length) 32) (k62 x63 x64 x65 (W (x66+1)) x68 x69 x70 x71 x72 x73 x74 x75 x76 x77 x78 x79 x80 x81 x82 x83 x84 (x85++[(⟨x67,W (x67-1),W (0-y92.1)⟩:zb)]) ((x86++[(upd ((upd (fun _=>(default:Ref)) 0 (((gt x64 (W (x66-1))).ref)))) 1 ((gt x64 x66).ref))])) x87 x88 x89 x90)))))))) else(k62 x63 x64 x65 (W (x66+1)) x68 x69 x70 x71 x72 x73 x74 x75 x76 x77 x78 x79 x80 x81 x82 x83 x84 x85 x86 x87 x88 x89 x90))
def z3o (φ:Nat) (k33 :((List z8)->(List Int)->(List Int)->Int->Pool->Int->Int->(List zb)->(List (Nat->Ref))->(List z0o)->(List zb)->(List (Nat->Ref))->(List z0o)->Option (z0p×Int×Unit))):Nat->(List Int)->(List za)->Int->Int->(List z8)->(List Int)->(List Int)->Int->Pool->(List Int)->Pool->(List z8)->(List Int)->Int->(List za)->Int->Int->Pool->Ref->Pool->Int->(List zb)->(List (Nat->Ref))->(List z0o)->(List zb)->(List (Nat->Ref))->(List z0o)->Option (z0p×Int×Unit)
 | 0,_,_,_,_,_,_,_,_,_,_,_,_,_,_,_,_,_,_,_,_,_,_,_,_,_,_,_=>none
 | n62+1,x35,x36,x37,x38,x39,x40,x41,x42,x43,x44,x45,x46,x47,x48,x49,x50,x51,x52,x53,x54,x55,x56,x57,x58,x59,x60,x61=>(if(decide ((x38:Int) <(x36.length:Int)))=true then(ck ((0:Int)<=x38/\x38 <(x36.length:Int)) (ck ((0:Int)<=x38/\x38 <(x36.length:Int)) (ck ((0:Int)<=x38/\x38 <(x36.length:Int)) (ck (fits (x58.length +([(⟨x37,(gt x36 x38).place,x51,(gt x36 x38).ref,(gt x36 x38).covers⟩:z0o)]).length) 48) (ck ((0:Int)<=x38/\x38 <(x36.length:Int)) (if(decide (((gt x36 x38).reader:Int)<0))=true then(ck ((0:Int)<=x38/\x38 <(x36.length:Int)) (ck ((0:Int)<=x38/\x38 <(x36.length:Int)) (ck (fits (x56.length +([(⟨0,x51,(gt x36 x38).time⟩:zb)]).length) 24) (ck (fits (x57.length +([(upd (upd (fun _=>(default:Ref)) 0 ((gt x36 x38).ref)) 1 x53)]).length) 32) (ck ((0:Int)<=x38/\x38 <(x36.length:Int)) (ck ((0:Int)<=x38/\x38 <(x36.length:Int)) (ck (fits ((x56++[(⟨0,x51,(gt x36 x38).time⟩:zb)]).length +([(⟨x51,0,W (0 -(gt x36 x38).time)⟩:zb)]).length) 24) (ck (fits (((x57++[(upd (upd (fun _=>(default:Ref)) 0 ((gt x36 x38).ref)) 1 x53)])).length +([(upd (upd (fun _=>(default:Ref)) 0 ((gt x36 x38).ref)) 1 x53)]).length) 32) (z6x φ (z3o φ k33 n62) x35 x36 x37 x38 x51 x39 x40 x41 x42 x43 x44 x45 x46 x47 x48 x49 x50 (W (x51+1)) x52 x53 x54 x55 (((x56++[(⟨0,x51,(gt x36 x38).time⟩:zb)])++[(⟨x51,0,W (0 -(gt x36 x38).time)⟩:zb)])) (((x57++[(upd (upd (fun _=>(default:Ref)) 0 ((gt x36 x38).ref)) 1 x53)])++[(upd (upd (fun _=>(default:Ref)) 0 ((gt x36 x38).ref)) 1 x53)])) (x58++[(⟨x37,(gt x36 x38).place,x51,(gt x36 x38).ref,(gt x36 x38).covers⟩:z0o)]) x59 x60 x61))))))))) else(ck ((0:Int)<=x38/\x38 <(x36.length:Int)) (ck ((0:Int)<=(gt x36 x38).reader/\(gt x36 x38).reader <(x35.length:Int)) (ck ((0:Int)<=x38/\x38 <(x36.length:Int)) (ck ((0:Int)<=x38/\x38 <(x36.length:Int)) (ck (fits (x56.length +([(⟨gt x35 ((gt x36 x38).reader),x51,(gt x36 x38).time⟩:zb)]).length) 24) (ck (fits (x57.length +([(upd (upd (fun _=>(default:Ref)) 0 ((gt x36 x38).ref)) 1 x53)]).length) 32) (ck ((0:Int)<=x38/\x38 <(x36.length:Int)) (ck ((0:Int)<=x38/\x38 <(x36.length:Int)) (ck (fits (((x56++[(⟨gt x35 ((gt x36 x38).reader),x51,(gt x36 x38).time⟩:zb)])).length +([(⟨x51,gt x35 ((gt x36 x38).reader),W (0 -(gt x36 x38).time)⟩:zb)]).length) 24) (ck (fits (((x57++[(upd (upd (fun _=>(default:Ref)) 0 ((gt x36 x38).ref)) 1 x53)])).length +([(upd (upd (fun _=>(default:Ref)) 0 ((gt x36 x38).ref)) 1 x53)]).length) 32) (ck ((0:Int)<=x38/\x38 <(x36.length:Int)) (ck (fits ((((x56++[(⟨gt x35 ((gt x36 x38).reader),x51,(gt x36 x38).time⟩:zb)])++[(⟨x51,gt x35 ((gt x36 x38).reader),W (0 -(gt x36 x38).time)⟩:zb)])).length +([(⟨0,x51,1073741824⟩:zb)]).length) 24) (ck (fits ((((x57++[(upd (upd (fun _=>(default:Ref)) 0 ((gt x36 x38).ref)) 1 x53)])++[(upd (upd (fun _=>(default:Ref)) 0 ((gt x36 x38).ref)) 1 x53)])).length +([(upd (upd (fun _=>(default:Ref)) 0 ((gt x36 x38).ref)) 1 x53)]).length) 32) (ck ((0:Int)<=x38/\x38 <(x36.length:Int)) (ck (fits (((((x56++[(⟨gt x35 ((gt x36 x38).reader),x51,(gt x36 x38).time⟩:zb)])++[(⟨x51,gt x35 ((gt x36 x38).reader),W (0 -(gt x36 x38).time)⟩:zb)])++[(⟨0,x51,1073741824⟩:zb)])).length +([(⟨x51,0,0⟩:zb)]).length) 24) (ck (fits (((((x57++[(upd (upd (fun _=>(default:Ref)) 0 ((gt x36 x38).ref)) 1 x53)])++[(upd (upd (fun _=>(default:Ref)) 0 ((gt x36 x38).ref)) 1 x53)])++[(upd (upd (fun _=>(default:Ref)) 0 ((gt x36 x38).ref)) 1 x53)])).length +([(upd (upd (fun _=>(default:Ref)) 0 ((gt x36 x38).ref)) 1 x53)]).length) 32) (z6x φ (z3o φ k33 n62) x35 x36 x37 x38 x51 x39 x40 x41 x42 x43 x44 x45 x46 x47 x48 x49 x50 (W (x51+1)) x52 x53 x54 x55 (((((x56++[(⟨gt x35 ((gt x36 x38).reader),x51,(gt x36 x38).time⟩:zb)])++[(⟨x51,gt x35 ((gt x36 x38).reader),W (0 -(gt x36 x38).time)⟩:zb)])++[(⟨0,x51,1073741824⟩:zb)])++[(⟨x51,0,0⟩:zb)])) (((((x57++[(upd (upd (fun _=>(default:Ref)) 0 ((gt x36 x38).ref)) 1 x53)])++[(upd (upd (fun _=>(default:Ref)) 0 ((gt x36 x38).ref)) 1 x53)])++[(upd (upd (fun _=>(default:Ref)) 0 ((gt x36 x38).ref)) 1 x53)])++[(upd (upd (fun _=>(default:Ref)) 0 ((gt x36 x38).ref)) 1 x53)])) (x58++[(⟨x37,(gt x36 x38).place,x51,(gt x36 x38).ref,(gt x36 x38).covers⟩:z0o)]) x59 x60 x61))))))))))))))))))))))) else(k33 x39 x40 x41 (W (x42+1)) x54 x55 x51 x59 x60 x61 x56 x57 x58))
def z2i (φ:Nat):Nat->(List z8)->(List Int)->(List Int)->Int->Pool->Int->Int->(List zb)->(List (Nat->Ref))->(List z0o)->(List zb)->(List (Nat->Ref))->(List z0o)->Option (z0p×Int×Unit)
 | 0,_,_,_,_,_,_,_,_,_,_,_,_,_=>none
 | n33+1,x20,x21,x22,x23,x24,x25,x26,x27,x28,x29,x30,x31,x32=>(if(decide ((x23:Int) <(x24.fleet.wagons.length:Int)))=true then((zbj φ x24 x20 x21 x23).bind fun y34=>(z3o φ (z2i φ n33) φ x22 y34.1 x23 0 x20 x21 x22 x23 x24 x22 x24 x20 x21 x23 y34.1 x23 x26 x24 (⟨0,0⟩:Ref) x24 x25 x30 x31 x32 x27 x28 x29)) else(if((decide ((512:Int)<x26))||(decide ((4096:Int) <(x30.length:Int))))=true then(some ((⟨0,([]:List zb),([]:List (Nat->Ref)),([]:List z0o)⟩:z0p),2,())) else(some ((⟨x26,x30,x31,x32⟩:z0p),0,()))))
def z2j (φ:Nat):Nat->(List z8)->(List Int)->(List Int)->Int->Pool->Int->Int->Ref->(List zb)->(List (Nat->Ref))->(List z0o)->(List zb)->(List (Nat->Ref))->(List z0o)->Option (z0p×Int×Unit)
 | 0,_,_,_,_,_,_,_,_,_,_,_,_,_,_=>none
 | n19+1,x5,x6,x7,x8,x9,x10,x11,x12,x13,x14,x15,x16,x17,x18=>(if(decide ((x8:Int) <(x7.length:Int)))=true then(ck ((0:Int)<=x8/\x8 <(x7.length:Int)) (if(decide ((0:Int) <(gt x7 x8)))=true then(ck ((0:Int)<=x8/\x8 <(x7.length:Int)) (ck ((0:Int)<=x8/\x8 <(x9.readers.length:Int)) (ck (fits (x16.length +([(⟨0,gt x7 x8,W (0 -(gt x9.readers x8).low)⟩:zb)]).length) 24) (ck (fits (x17.length +([(upd (upd (fun _=>(default:Ref)) 0 x12) 1 x12)]).length) 32) (ck ((0:Int)<=x8/\x8 <(x7.length:Int)) (ck ((0:Int)<=x8/\x8 <(x9.readers.length:Int)) (ck (fits (((x16++[(⟨0,gt x7 x8,W (0 -(gt x9.readers x8).low)⟩:zb)])).length +([(⟨gt x7 x8,0,(gt x9.readers x8).high⟩:zb)]).length) 24) (ck (fits (((x17++[(upd (upd (fun _=>(default:Ref)) 0 x12) 1 x12)])).length +([(upd (upd (fun _=>(default:Ref)) 0 x12) 1 x12)]).length) 32) ((z2j φ n19) x5 x6 x7 (W (x8+1)) x9 x10 (W (x11+1)) x12 x13 x14 x15 (((x16++[(⟨0,gt x7 x8,W (0 -(gt x9.readers x8).low)⟩:zb)])++[(⟨gt x7 x8,0,(gt x9.readers x8).high⟩:zb)])) (((x17++[(upd (upd (fun _=>(default:Ref)) 0 x12) 1 x12)])++[(upd (upd (fun _=>(default:Ref)) 0 x12) 1 x12)])) x18))))))))) else((z2j φ n19) x5 x6 x7 (W (x8+1)) x9 x10 x11 x12 x13 x14 x15 x16 x17 x18))) else(z2i φ φ x5 x6 x7 0 x9 x10 x11 x13 x14 x15 x16 x17 x18))
def zi8 (φ:Nat) (x1:Pool) (x2 :(List z8)):Option (z0p×Int×Unit):=((z7l φ x1 x2).bind fun y3=>(if((y3.2.1:Int) !=0)=true then(some ((⟨0,([]:List zb),([]:List (Nat->Ref)),([]:List z0o)⟩:z0p),y3.2.1,())) else((zdf φ x1 x2 y3.1).bind fun y4=>(z2j φ φ x2 y3.1 y4.1 0 x1 0 1 (⟨0,0⟩:Ref) ([]:List zb) ([]:List (Nat->Ref)) ([]:List z0o) ([]:List zb) ([]:List (Nat->Ref)) ([]:List z0o)))))
def zj0 (φ:Nat):Fsp TV:=⟨[30,38],[.val 48,.val 0],fun z=>zi8 φ z.1 z.2.1⟩
def z63 (φ:Nat):Nat->Int->(List zb)->Int->Option (Int×Unit)
 | 0,_,_,_=>none
 | n6+1,x3,x4,x5=>(if(decide ((x5:Int) <(x4.length:Int)))=true then(ck ((0:Int)<=x5/\x5 <(x4.length:Int)) (if((((((decide (((gt x4 x5).i:Int)<0))||(decide ((x3:Int)<=(gt x4 x5).i)))||(decide (((gt x4 x5).j:Int)<0)))||(decide ((x3:Int)<=(gt x4 x5).j)))||(decide (((gt x4 x5).w:Int) <(-1099511627776))))||(decide ((1099511627776:Int) <(gt x4 x5).w)))=true then(some (1,())) else((z63 φ n6) x3 x4 (W (x5+1))))) else(some (0,())))
def zij (φ:Nat) (x1:Int) (x2 :(List zb)):Option (Int×Unit):=(if(decide ((x1:Int)<1))=true then(some (1,())) else(if((decide ((512:Int)<x1))||(decide ((4096:Int) <(x2.length:Int))))=true then(some (2,())) else(z63 φ φ x1 x2 0)))
def zhu (φ:Nat):Fsp TV:=⟨[0,43],[.val 0],fun z=>zij φ z.1 z.2.1⟩
def z1m (φ:Nat) (k15 :(Int->(List zb)->Int->Int->(List Int)->(List Int)->Option ((List Int)×(List Int)×Int×Unit))):Nat->Int->(List zb)->Int->Int->Int->(List Int)->(List Int)->Option ((List Int)×(List Int)×Int×Unit)
 | 0,_,_,_,_,_,_,_=>none
 | n23+1,x16,x17,x18,x19,x20,x21,x22=>(if(decide ((x20:Int) <(x17.length:Int)))=true then(ck ((0:Int)<=x20/\x20 <(x17.length:Int)) (ck ((0:Int)<=(gt x17 x20).i/\(gt x17 x20).i <(x21.length:Int)) (ck ((0:Int)<=(gt x17 x20).j/\(gt x17 x20).j <(x21.length:Int)) (if(decide (((W ((gt x21 ((gt x17 x20).i)) +(gt x17 x20).w)):Int) <(gt x21 ((gt x17 x20).j))))=true then(ck ((0:Int)<=(gt x17 x20).i/\(gt x17 x20).i <(x21.length:Int)) (ck ((0:Int)<=(gt x17 x20).j/\(gt x17 x20).j <(x21.length:Int)) (ck ((0:Int)<=(gt x17 x20).j/\(gt x17 x20).j <(x22.length:Int)) ((z1m φ k15 n23) x16 x17 x20 x19 (W (x20+1)) ((zp x21 ((gt x17 x20).j) ((W ((gt x21 ((gt x17 x20).i)) +(gt x17 x20).w))))) (zp x22 ((gt x17 x20).j) x20))))) else((z1m φ k15 n23) x16 x17 x18 x19 (W (x20+1)) x21 x22))))) else(k15 x16 x17 x18 (W (x19+1)) x21 x22))
def z29 (φ:Nat):Nat->Int->(List zb)->Int->Int->(List Int)->(List Int)->Option ((List Int)×(List Int)×Int×Unit)
 | 0,_,_,_,_,_,_=>none
 | n15+1,x9,x10,x11,x12,x13,x14=>(if((decide ((x12:Int)<x9))&&(decide ((0:Int)<=x11)))=true then(z1m φ (z29 φ n15) φ x9 x10 (-1) x12 0 x13 x14) else(some (x13,x14,x11,())))
def z41 (φ:Nat):Nat->Int->(List zb)->Int->(List Int)->(List Int)->Option ((List Int)×(List Int)×Int×Unit)
 | 0,_,_,_,_,_=>none
 | n8+1,x3,x4,x5,x6,x7=>(if(decide ((x5:Int)<x3))=true then(ck ((0:Int)<=x5/\x5 <(x7.length:Int)) ((z41 φ n8) x3 x4 (W (x5+1)) x6 (zp x7 x5 (-1)))) else(z29 φ φ x3 x4 0 0 x6 x7))
def zcp (φ:Nat) (x1:Int) (x2 :(List zb)):Option ((List Int)×(List Int)×Int×Unit):=(ck (z4v x1 8) (ck (z4v x1 8) (z41 φ φ x1 x2 0 (List.replicate (x1:Int).toNat (default:Int)) (List.replicate (x1:Int).toNat (default:Int)))))
def zds (φ:Nat):Fsp TV:=⟨[0,43],[.val 5,.val 5,.val 0],fun z=>zcp φ z.1 z.2.1⟩
def zim (φ:Nat) (x1:Int) (x2 :(List zb)):Option ((List Int)×Int×Unit):=((zij φ x1 x2).bind fun y3=>(if((y3.1:Int) !=0)=true then(some (([]:List Int),y3.1,())) else((zcp φ x1 x2).bind fun y4=>(if(decide ((0:Int)<=y4.2.2.1))=true then(some (([]:List Int),230,())) else(some (y4.1,0,()))))))
def zho (φ:Nat):Fsp TV:=⟨[0,43],[.val 5,.val 0],fun z=>zim φ z.1 z.2.1⟩
def z1z (φ:Nat) (x1:Pool) (x2 :(List z8)):Option (Bool×Int×Unit):=((zi8 φ x1 x2).bind fun y3=>(if((y3.2.1:Int) !=0)=true then(some (false,y3.2.1,())) else((zim φ y3.1.vars y3.1.bounds).bind fun y4=>(some (((y4.2.1:Int) !=230),0,())))))
def z47 (φ:Nat):Fsp TV:=⟨[30,38],[.val 2,.val 0],fun z=>z1z φ z.1 z.2.1⟩
def z32 (φ:Nat):Nat->(List z8)->(List Bool)->Int->(List z8)->Option ((List z8)×Unit)
 | 0,_,_,_,_=>none
 | n7+1,x3,x4,x5,x6=>(if((decide ((x5:Int) <(x3.length:Int)))&&(decide ((x5:Int) <(x4.length:Int))))=true then(ck ((0:Int)<=x5/\x5 <(x4.length:Int)) (if(gt x4 x5)=true then(ck ((0:Int)<=x5/\x5 <(x3.length:Int)) (ck (fits (x6.length +([(gt x3 x5)]).length) 192) ((z32 φ n7) x3 x4 (W (x5+1)) (x6++[(gt x3 x5)])))) else((z32 φ n7) x3 x4 (W (x5+1)) x6))) else(some (x6,())))
def z7h (φ:Nat) (x1 :(List z8)) (x2 :(List Bool)):Option ((List z8)×Unit):=(z32 φ φ x1 x2 0 ([]:List z8))
def z92 (φ:Nat):Fsp TV:=⟨[38,55],[.val 38],fun z=>z7h φ z.1 z.2.1⟩
def z3f (φ:Nat):Nat->(List z8)->Int->(List Bool)->(List Ref)->Option ((List Ref)×Int×Unit)
 | 0,_,_,_,_=>none
 | n20+1,x16,x17,x18,x19=>(if(decide ((x17:Int) <(x16.length:Int)))=true then(ck ((0:Int)<=x17/\x17 <(x18.length:Int)) (if(gt x18 x17)=true then(ck ((0:Int)<=x17/\x17 <(x16.length:Int)) (ck (fits (x19.length +([((gt x16 x17).ref)]).length) 16) ((z3f φ n20) x16 (W (x17+1)) x18 (x19++[((gt x16 x17).ref)])))) else((z3f φ n20) x16 (W (x17+1)) x18 x19))) else(some (x19,0,())))
def z4d (φ:Nat):Nat->(List z8)->Int->Pool->(List Bool)->Option ((List Ref)×Int×Unit)
 | 0,_,_,_,_=>none
 | n13+1,x9,x10,x11,x12=>(if(decide ((x10:Int) <(x9.length:Int)))=true then(ck ((0:Int)<=x10/\x10 <(x12.length:Int)) ((z7h φ x9 (zp x12 x10 false)).bind fun y14=>((z1z φ x11 y14.1).bind fun y15=>(ck ((0:Int)<=x10/\x10 <((zp x12 x10 false).length:Int)) ((z4d φ n13) x9 (W (x10+1)) x11 (zp (zp x12 x10 false) x10 y15.1)))))) else(z3f φ φ x9 0 x12 ([]:List Ref)))
def z5q (φ:Nat):Nat->(List z8)->Int->Pool->(List Bool)->Option ((List Ref)×Int×Unit)
 | 0,_,_,_,_=>none
 | n8+1,x4,x5,x6,x7=>(if(decide ((x5:Int) <(x4.length:Int)))=true then(ck ((0:Int)<=x5/\x5 <(x7.length:Int)) ((z5q φ n8) x4 (W (x5+1)) x6 (zp x7 x5 true))) else(z4d φ φ x4 0 x6 x7))
def zmb (φ:Nat) (x1:Pool) (x2 :(List z8)):Option ((List Ref)×Int×Unit):=((z1z φ x1 x2).bind fun y3=>(if(((y3.2.1:Int) !=0)||y3.1)=true then(some (([]:List Ref),y3.2.1,())) else(ck (z4v (x2.length:Int) 1) (z5q φ φ x2 0 x1 (List.replicate ((x2.length:Int):Int).toNat (default:Bool))))))
def zk0 (φ:Nat):Fsp TV:=⟨[30,38],[.val 51,.val 0],fun z=>zmb φ z.1 z.2.1⟩
def zd5 (φ:Nat) (x1 :(List z8)) (x2:Int) (x3:Int):Option (Bool×Unit):=(ck ((0:Int)<=x2/\x2 <(x1.length:Int)) (ck ((0:Int)<=x3/\x3 <(x1.length:Int)) (if(((gt x1 x2).time:Int) !=(gt x1 x3).time)=true then(ck ((0:Int)<=x2/\x2 <(x1.length:Int)) (ck ((0:Int)<=x3/\x3 <(x1.length:Int)) (some ((decide (((gt x1 x2).time:Int) <(gt x1 x3).time)),())))) else(ck ((0:Int)<=x2/\x2 <(x1.length:Int)) (ck ((0:Int)<=x3/\x3 <(x1.length:Int)) (if(!(((((gt x1 x2).ref).railway:Int)==((gt x1 x3).ref).railway)&&(((((gt x1 x2).ref).no:Int)==((gt x1 x3).ref).no)&&true)))=true then(ck ((0:Int)<=x2/\x2 <(x1.length:Int)) (ck ((0:Int)<=x3/\x3 <(x1.length:Int)) ((zbm φ ((gt x1 x2).ref) ((gt x1 x3).ref)).bind fun y4=>(some (y4.1,()))))) else(some ((decide ((x2:Int)<x3)),()))))))))
def zdz (φ:Nat):Fsp TV:=⟨[38,0,0],[.val 2],fun z=>zd5 φ z.1 z.2.1 z.2.2.1⟩
def z3k (φ:Nat) (k5 :((List z8)->Int->(List Int)->Option ((List Int)×Unit))):Nat->(List z8)->Int->Int->(List Int)->Option ((List Int)×Unit)
 | 0,_,_,_,_=>none
 | n10+1,x6,x7,x8,x9=>(ck (((decide ((x8:Int) <(x9.length:Int)))=true)->(0:Int)<=x8/\x8 <(x9.length:Int)) ((zn (default,()) ((decide ((x8:Int) <(x9.length:Int)))=true) (zd5 φ x6 (gt x9 x8) x7)).bind fun y11=>(if((decide ((x8:Int) <(x9.length:Int)))&&y11.1)=true then((z3k φ k5 n10) x6 x7 (W (x8+1)) x9) else(ck ((0:Int)<=0/\0<=x8/\x8<=(x9.length:Int)) (ck (fits (([]:List Int).length +(z0k x9 (0:Int).toNat (x8:Int).toNat).length) 8) (ck (fits ((([]:List Int)++(z0k x9 (0:Int).toNat (x8:Int).toNat)).length +([x7]).length) 8) (ck ((0:Int)<=x8/\x8<=(x9.length:Int)/\(x9.length:Int)<=(x9.length:Int)) (ck (fits ((((([]:List Int)++(z0k x9 (0:Int).toNat (x8:Int).toNat))++[x7])).length +(z0k x9 (x8:Int).toNat ((x9.length:Int):Int).toNat).length) 8) (k5 x6 (W (x7+1)) ((((([]:List Int)++(z0k x9 (0:Int).toNat (x8:Int).toNat))++[x7])++(z0k x9 (x8:Int).toNat ((x9.length:Int):Int).toNat))))))))))))
def z2g (φ:Nat):Nat->(List z8)->Int->(List Int)->Option ((List Int)×Unit)
 | 0,_,_,_=>none
 | n5+1,x2,x3,x4=>(if(decide ((x3:Int) <(x2.length:Int)))=true then(z3k φ (z2g φ n5) φ x2 x3 0 x4) else(some (x4,())))
def zhy (φ:Nat) (x1 :(List z8)):Option ((List Int)×Unit):=(z2g φ φ x1 0 ([]:List Int))
def zj4 (φ:Nat):Fsp TV:=⟨[38],[.val 5],fun z=>zhy φ z.1⟩
def z4f (φ:Nat):Nat->(List z8)->(List Int)->Int->Pool->(List Bool)->Option ((List z8)×Int×Unit)
 | 0,_,_,_,_,_=>none
 | n10+1,x5,x6,x7,x8,x9=>(if(decide ((x7:Int) <(x6.length:Int)))=true then(ck ((0:Int)<=x7/\x7 <(x6.length:Int)) (ck ((0:Int)<=(gt x6 x7)/\(gt x6 x7) <(x9.length:Int)) ((z7h φ x5 (zp x9 (gt x6 x7) true)).bind fun y11=>((z1z φ x8 y11.1).bind fun y12=>(ck ((0:Int)<=x7/\x7 <(x6.length:Int)) (ck ((0:Int)<=(gt x6 x7)/\(gt x6 x7) <((zp x9 (gt x6 x7) true).length:Int)) ((z4f φ n10) x5 x6 (W (x7+1)) x8 (zp (zp x9 (gt x6 x7) true) (gt x6 x7) y12.1)))))))) else((z7h φ x5 x9).bind fun y13=>(some (y13.1,0,()))))
def zlp (φ:Nat) (x1:Pool) (x2 :(List z8)):Option ((List z8)×Int×Unit):=((z1z φ x1 x2).bind fun y3=>(if((y3.2.1:Int) !=0)=true then(some (([]:List z8),y3.2.1,())) else((zhy φ x2).bind fun y4=>(ck (z4v (x2.length:Int) 1) (z4f φ φ x2 y4.1 0 x1 (List.replicate ((x2.length:Int):Int).toNat (default:Bool)))))))
def zkv (φ:Nat):Fsp TV:=⟨[30,38],[.val 38,.val 0],fun z=>zlp φ z.1 z.2.1⟩
def z0f (φ:Nat) (x1:Pool) (x2 :(List z8)):Option (Bool×Unit):=((zlo φ).bind fun y3=>(if(!y3.1)=true then(some (false,())) else((zoh φ x1 x2).bind fun y4=>(if(!y4.1)=true then(some (true,())) else((z07 φ x1 x2).bind fun y5=>((z1z φ x1 x2).bind fun y6=>((z5j φ x1 x2).bind fun y7=>((zmb φ x1 x2).bind fun y8=>((z5h φ x1 x2).bind fun y9=>((zlp φ x1 x2).bind fun y10=>((zn (default,()) (((y5.1==y6.1)&&((y5.2.1:Int)==y6.2.1))=true) (z1r φ y7.1 y8.1)).bind fun y11=>((zn (default,()) (((((y5.1==y6.1)&&((y5.2.1:Int)==y6.2.1))&&y11.1)&&((y7.2.1:Int)==y8.2.1))=true) (z27 φ y9.1 y10.1)).bind fun y12=>(some (((((((y5.1==y6.1)&&((y5.2.1:Int)==y6.2.1))&&y11.1)&&((y7.2.1:Int)==y8.2.1))&&y12.1)&&((y9.2.1:Int)==y10.2.1)),()))))))))))))))
def z0q (φ:Nat):Fsp TV:=⟨[30,38],[.val 2],fun z=>z0f φ z.1 z.2.1⟩
end Px
end
