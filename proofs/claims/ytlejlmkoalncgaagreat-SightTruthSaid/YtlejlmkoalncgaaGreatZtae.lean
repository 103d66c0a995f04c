/- A part of the proof of sightTruth_holds. Conditions: none. -/
import Derived.Test.YtlejlmkoalncgaaGreatZtad
import Derived.Shelf.SlSortCmp.NoneTotal
import Derived.Shelf.Sort.Plain
import Derived.Shelf.Slices.In.SortNone
set_option linter.unusedVariables false
set_option linter.unusedSimpArgs false
section
namespace Px
open Go Go.RowKit
section cells
variable {T:Nat->Type}
def cvT (g :(c:Nat)->T c->List Value) :(fs:List Nat)->Tup T fs->List Value
 | [],_=>[]
 | c::cs,x=>g c x.1++cvT g cs x.2
def cvD (g :(c:Nat)->T c->List Value) : {α:Type}->Ds T α->α->List Value
 | _,.int k,x=>[.int k x]
 | _,.bool,x=>[.bool x]
 | _,.str,x=>[.string x]
 | _,.sl _,_=>[]
 | _,.arr n c,f=>(List.range n).flatMap fun i=>g c (f i)
 | _,.st fs _ un _,x=>cvT g fs (un x)
end cells
section
variable (V:TE)
def cvN:Nat->(c:Nat)->V.T c->List Value
 | 0,_,_=>[]
 | n+1,c,x=>cvD (cvN n) (V.d c) x
def TE.cv (c:Nat) (x:V.T c):List Value:=cvN V (c+1) c x
variable {V}
theorem y2p:∀(n c:Nat),flN V n c=true->∀ x,V.ev c x =(cvN V n c x).map eqv/\∀ v∈cvN V n c x,v.oneCell'=true
 | 0,_,h=>by cases h
 | n+1,c,h=>by
  intro x
  have ih:=y2p n
  rw [V.ev_eq]
  change flD (flN V n) (V.d c)=true at h
  change evD V.ev V.sz (V.d c) x =(cvD (cvN V n) (V.d c) x).map eqv/\∀ v∈cvD (cvN V n) (V.d c) x,v.oneCell'=true
  revert h x
  generalize V.d c=d
  generalize V.T c=α at d
  intro x h
  cases d with
  | int k=>exact⟨rfl,fun v hv=>by simp only [cvD,List.mem_singleton] at hv; subst hv; rfl⟩
  | bool=>exact⟨rfl,fun v hv=>by simp only [cvD,List.mem_singleton] at hv; subst hv; rfl⟩
  | str=>exact⟨rfl,fun v hv=>by simp only [cvD,List.mem_singleton] at hv; subst hv; rfl⟩
  | sl c'=>cases h
  | arr m c'=>
   simp only [evD,cvD,Px.arr,List.map_flatMap]
   refine⟨?_,fun v hv=>?_⟩
   ·congr 1
    funext i
    exact(ih c' h (x i)).1
   ·obtain⟨i,_,hi⟩:=List.mem_flatMap.1 hv
    exact(ih c' h (x i)).2 v hi
  | st fs mk un law=>
   have key:∀(fs:List Nat) (y:Tup V.T fs),fs.all (flN V n)=true->evT V.ev fs y =(cvT (cvN V n) fs y).map eqv/\∀ v∈cvT (cvN V n) fs y,v.oneCell'=true:=by
    intro fs
    induction fs with
    | nil=>intro y _; exact⟨rfl,fun v hv=>by cases hv⟩
    | cons c cs ihf=>
     intro y h
     simp only [List.all_cons,Bool.and_eq_true] at h
     obtain⟨h1,h2⟩:=ihf y.2 h.2
     obtain⟨h3,h4⟩:=ih c h.1 y.1
     refine⟨by simp only [evT,cvT,List.map_append,h1,h3],fun v hv=>?_⟩
     rcases List.mem_append.1 hv with hv | hv
     ·exact h4 v hv
     ·exact h2 v hv
   exact key fs (un x) h
theorem y6z {c:Nat} (h:V.fl c=true) (x:V.T c):V.ev c x =(V.cv c x).map eqv:=(y2p _ _ h x).1
theorem zzc {c:Nat} (h:V.fl c=true) (x:V.T c):∀ v∈V.cv c x,v.oneCell'=true:=(y2p _ _ h x).2
theorem ztu {c:Nat} (h:V.fl c=true) (x:V.T c) :(V.cv c x).length=V.sz c:=by
 have:=V.ev_len c x
 rw [y6z h] at this
 simpa using this
end
theorem zyi {r:Nat->Prop} {w:World} : ∀ {us vs:List Value},zj r w (us.map eqv) vs->vs=us
 | us,vs,⟨hl,h⟩=>by
  refine List.ext_getElem? fun i=>?_
  by_cases hi:i<us.length
  ·obtain⟨u,hu,he,_⟩:=h i (eqv us[i]) (by simp [hi])
   rw [hu,List.getElem?_eq_getElem hi]
   exact congrArg some he
  ·have hl':us.length=vs.length:=by simpa using hl
   rw [List.getElem?_eq_none (show us.length<=i by omega),List.getElem?_eq_none (show vs.length<=i by omega)]
theorem zo0 {r:Nat->Prop} {w:World} {us:List Value} (h:∀ v∈us,v.oneCell'=true):zj r w (us.map eqv) us:=by
 refine⟨by simp,fun j A hj=>?_⟩
 simp only [List.getElem?_map,Option.map_eq_some_iff] at hj
 obtain⟨u,hu,rfl⟩:=hj
 exact⟨u,hu,rfl,h u (List.mem_of_getElem? hu)⟩
theorem zl6 {α:Type} {e:α->List Value} {k:Nat} (hk:∀ x,(e x).length=k) (h0:0<k):∀(l:List α) (t:Nat),(l.flatMap e)[t]? =(l[t / k]?).bind fun x=>(e x)[t % k]?
 | [],t=>by simp
 | x::l,t=>by
  rw [List.flatMap_cons,List.getElem?_append,hk]
  by_cases h:t<k
  ·rw [if_pos h,Nat.div_eq_of_lt h,Nat.mod_eq_of_lt h]; simp
  ·have h1:t / k =(t-k) / k+1:=Nat.div_eq_sub_div h0 (by omega)
   have h2:t % k =(t-k) % k:=Nat.mod_eq_sub_mod (by omega)
   rw [if_neg h,zl6 hk h0 l,h1,h2,List.getElem?_cons_succ]
theorem zns {α:Type} [Inhabited α] {e:α->List Value} {k:Nat} (hk:∀ x,(e x).length=k) (d:Array α) :(Sort.flatK e k d).toList=d.toList.flatMap e:=by
 by_cases h0:0<k
 ·refine List.ext_getElem? fun t=>?_
  rw [zl6 hk h0]
  by_cases ht:t<d.size*k
  ·have hd:t / k<d.size:=Nat.div_lt_of_lt_mul (by rwa [Nat.mul_comm])
   have hm:t % k <(e d[t / k]).length:=by rw [hk]; exact Nat.mod_lt _ h0
   have h1:t <(Sort.flatK e k d).toList.length:=by rw [Array.length_toList,Sort.size_flatK]; exact ht
   have h2 :(Sort.flatK e k d).toList[t] =(Sort.flatK e k d)[t]!:=by
    rw [getElem!_pos _ t (by rw [Sort.size_flatK]; exact ht)]
    simp
   rw [List.getElem?_eq_getElem h1,h2,Sort.get_flatK _ _ _ _ ht,getElem!_pos d (t / k) hd]
   simp only [Array.getElem?_toList,Array.getElem?_eq_getElem hd,Option.bind_some]
   rw [getElem!_pos (e d[t / k]) (t % k) hm,List.getElem?_eq_getElem hm]
  ·rw [List.getElem?_eq_none (by rw [Array.length_toList,Sort.size_flatK]; omega)]
   have:d.size<=t / k:=by
    rw [Nat.le_div_iff_mul_le h0]; omega
   simp [this]
 ·have:k=0:=by omega
  subst this
  have e1:∀ x,e x = []:=fun x=>List.eq_nil_of_length_eq_zero (hk x)
  have e2:d.toList.flatMap e = []:=by simp [List.flatMap_eq_nil_iff,e1]
  rw [e2]
  exact List.eq_nil_of_length_eq_zero (by rw [Array.length_toList,Sort.size_flatK]; simp)
theorem y2k {w:World} {g:Nat} {cur:Array Value} {E:TypeId} {F:Array Value} (hh:w.heap[g]? = some (.cells cur E (0,0))) (hF:cur.toList.take F.size=F.toList):Sort.Holds id w g 0 F:=by
 intro j hj
 have h1:cur[j]? = some F[j]:=by
  have :(cur.toList.take F.size)[j]? = F.toList[j]?:=by rw [hF]
  rw [List.getElem?_take,if_pos hj] at this
  simpa [hj] using this
 rw [getElem!_pos F j hj]
 refine⟨?_,?_⟩
 ·unfold World.cell?
  rw [hh]
  simpa using h1
 ·unfold World.frozen?
  rw [hh]
  simp
theorem zz7 {w:World} {g n:Nat} {cur:Array Value} {E:TypeId} {F:Array Value} {os:Array Obj} (hh:w.heap[g]? = some (.cells cur E (0,0))) (hs:F.size<=cur.size) :
  ∃ cur',(Sort.grow (Sort.putRow id (Sort.ahead w n) g 0 F) os).heap[g]? = some (.cells cur' E (0,0))/\cur'.size=cur.size/\cur'.toList.take F.size=F.toList:=by
 have hlt:g<w.heap.size:=(Array.getElem?_eq_some_iff.1 hh).1
 refine⟨Sort.putCells id 0 F cur,?_,by simp [Sort.putCells],?_⟩
 ·simp only [Sort.grow,Sort.putRow,Sort.mapBlock,Sort.ahead]
  rw [Array.getElem?_append,if_pos (by simpa using hlt),Array.getElem?_modify,if_pos rfl,hh]
  rfl
 ·refine List.ext_getElem? fun j=>?_
  rw [List.getElem?_take]
  by_cases hj:j<F.size
  ·rw [if_pos hj]
   have:j<cur.size:=by omega
   simp [Sort.putCells,this,hj]
  ·rw [if_neg hj,List.getElem?_eq_none (by simpa using hj)]
theorem zrb {w:World} {g n b:Nat} {F:Array Value} {os:Array Obj} (hb:b<w.heap.size) (hg:b≠g) :(Sort.grow (Sort.putRow id (Sort.ahead w n) g 0 F) os).heap[b]? = w.heap[b]?:=by
 simp only [Sort.grow,Sort.putRow,Sort.mapBlock,Sort.ahead]
 rw [Array.getElem?_append,if_pos (by simpa using hb),Array.getElem?_modify,if_neg (fun e=>hg e.symm)]
theorem zvv {P:Program} {f:FuncId} {args:List VP} {vs0:List Value} {α:Type} {E:TypeId} {e:α->List VP} {ce:α->List Value} {k:Nat} {l l':List α} {sv:Value}
  (he:∀ x∈l,e x =(ce x).map eqv) (he':∀ x∈l',e x =(ce x).map eqv) (hone:∀ x∈l',∀ v∈ce x,v.oneCell'=true) (hk:∀ x∈l,(ce x).length=k) (hk':∀ x∈l',(ce x).length=k) (hlen:l'.length=l.length) (hargs:args=vs0.map eqv)
  (hnil:l = []->∀ p cap w,Calls P f (#[.slice p 0 cap]++vs0.toArray) w fun e w'=>e = .returned (.tuple #[])/\w'=w)
  (hrun:l≠[]->∀ g cap w,g<w.heap.size->(∀ F:Array Value,F.toList=l.flatMap ce->Sort.Holds id w g 0 F)->
   Calls P f (#[.slice (some ⟨g,0,none⟩) l.length cap]++vs0.toArray) w fun e w'=>e = .returned (.tuple #[])/\∃ n os F,F.toList=l'.flatMap ce/\w'=Sort.grow (Sort.putRow id (Sort.ahead w n) g 0 F) os) :
  MutT P f (eqv sv::args) E e k l sv fun x l2=>x=eqv (.tuple #[])/\l2=l':=by
 intro w0 base r S w vs hw hl hA
 have hvs:vs = #[sv]++vs0.toArray:=by
  have hsz:vs.size=1+vs0.length:=by rw [hl,hargs]; simp; omega
  refine Array.ext (by rw [hsz]; simp [Nat.add_comm]) fun i h1 h2=>?_
  cases i with
  | zero=>
   have:=hA 0 (eqv sv) rfl
   simp only [Array.getD_eq_getD_getElem?,Array.getElem?_eq_getElem h1,Option.getD_some] at this
   have this:vs[0]=sv:=this
   rw [this,Array.getElem_append_left (by simp)]; rfl
  | succ i=>
   have hi:i<vs0.length:=by omega
   have:=hA (i+1) (eqv vs0[i]) (by rw [hargs]; simp [hi])
   simp only [Array.getD_eq_getD_getElem?,Array.getElem?_eq_getElem h1,Option.getD_some] at this
   rw [this]
   rw [Array.getElem_append_right (by simp)]
   simp
 subst hvs
 have hrow:=hw.obj 0 _ rfl
 have hfm:l.flatMap e =(l.flatMap ce).map eqv:=by
  rw [List.map_flatMap]
  clear hnil hrun hrow hk hlen hw
  induction l with
  | nil=>rfl
  | cons x l ih=>rw [List.flatMap_cons,List.flatMap_cons,he x (List.mem_cons_self),ih (fun y hy=>he y (List.mem_cons_of_mem _ hy))]
 have hfm':l'.flatMap e =(l'.flatMap ce).map eqv:=by
  rw [List.map_flatMap]
  clear hnil hrun hrow hk hk' hlen hw hone
  induction l' with
  | nil=>rfl
  | cons x l' ih=>rw [List.flatMap_cons,List.flatMap_cons,he' x (List.mem_cons_self),ih (fun y hy=>he' y (List.mem_cons_of_mem _ hy))]
 have hfl:∀ m:List α,(∀ x∈m,(ce x).length=k)->(m.flatMap ce).length=m.length*k:=by
  intro m
  induction m with
  | nil=>intro _; simp
  | cons x m ih=>intro h; rw [List.flatMap_cons,List.length_append,h x (List.mem_cons_self),ih (fun y hy=>h y (List.mem_cons_of_mem _ hy)),List.length_cons,Nat.add_mul]; omega
 by_cases h0:l = []
 ·have hl0:l' = []:=List.eq_nil_of_length_eq_zero (by rw [hlen,h0]; rfl)
  have hslice:∃ p cap,sv = .slice p 0 cap:=by
   rcases hrow with⟨rfl,_⟩ |⟨g,cap,cur,rfl,_⟩
   ·exact⟨_,_,rfl⟩
   ·rw [h0]; exact⟨_,_,rfl⟩
  obtain⟨p,cap,rfl⟩:=hslice
  refine(hnil h0 p cap w).mono ?_
  rintro en w' ⟨rfl,rfl⟩
  refine⟨_,eqv (.tuple #[]),_,r,S,rfl,Evo.refl _ _ _,hw,rfl,l',?_,rfl,rfl⟩
  rw [h0,hl0]
 ·rcases hrow with⟨_,rfl⟩ |⟨g,cap,cur,rfl,hS,hcur,hle,hmax,hsz,hc⟩
  ·exact absurd rfl h0
  ·have hlt:=(Array.getElem?_eq_some_iff.1 hcur).1
   rw [hfm] at hc
   have hc:=zyi hc
   refine(hrun h0 g cap w hlt fun F hF=>y2k hcur ?_).mono ?_
   ·have:F.size=l.length*k:=by rw [<- Array.length_toList,hF,hfl l hk]
    rw [this,hc,hF]
   ·rintro en w' ⟨rfl,n,os,F,hF,rfl⟩
    have hFs:F.size=l.length*k:=by rw [<- Array.length_toList,hF,hfl l' hk',hlen]
    have hb:∀ b,b<w.heap.size->¬ S 0 b->(Sort.grow (Sort.putRow id (Sort.ahead w n) g 0 F) os).heap[b]? = w.heap[b]?:=fun b hb hs=>zrb hb (fun e=>hs (e ▸ hS))
    obtain⟨cur',hcur',hsz',htk⟩:=zz7 (n:=n) (os:=os) (F:=F) hcur (by rw [hFs,hsz]; exact Nat.mul_le_mul_right _ hle)
    refine⟨_,eqv (.tuple #[]),_,r,_,rfl,hw.evo_repl 0 hb,hw.repl 0 (row E e k l' (.slice (some ⟨g,0,none⟩) l.length cap)) (S 0) (by simp) rfl ⟨rfl,Nat.le_add_right _ _⟩ rfl (by simp [Sort.grow,Sort.putRow,Sort.mapBlock,Sort.ahead]) hb (fun b hb'=>?_) ?_,rfl,l',rfl,rfl,rfl⟩
    ·obtain⟨_,h2,h3,h4⟩:=hw.own 0 b hb'
     refine⟨h2,?_,h4,fun j hj hs=>hj (hw.apart j 0 b hs hb')⟩
     simp [Sort.grow,Sort.putRow,Sort.mapBlock,Sort.ahead]
     omega
    ·refine .inr ⟨g,cap,cur',by rw [hlen],hS,hcur',by omega,hmax,by omega,?_⟩
     rw [hlen,<- hFs,htk,hF,hfm']
     exact zo0 fun v hv=>by
      obtain⟨x,hx,hxv⟩:=List.mem_flatMap.1 hv
      exact hone x hx v hxv
theorem y7c {w w':World} (h:Bel w.heap.size w w'):∃ q os,w'=Sort.grow (w.drewN q) os:=by
 refine⟨w'.drawn-w.drawn,w'.heap.extract w.heap.size w'.heap.size,?_⟩
 have hd:=h.drawn
 have hh:w'.heap=w.heap++w'.heap.extract w.heap.size w'.heap.size:=by
  refine Array.ext_getElem? fun i=>?_
  rw [Array.getElem?_append]
  by_cases hi:i<w.heap.size
  ·rw [if_pos hi,h.block i hi]
  ·rw [if_neg hi,Array.getElem?_extract]
   split
   ·congr 1; omega
   ·rw [Array.getElem?_eq_none (by omega)]
 have h1:=h.os
 have h2:=h.tape
 have h3:=h.output
 cases w'
 cases w
 simp only [Sort.grow,World.drewN] at *
 subst h1; subst h2; subst h3
 congr 1
 omega
def insL {α:Type} (lt:α->α->Bool) (x:α):List α->List α
 | []=>[x]
 | y::l=>bif lt y x then y::insL lt x l else x::y::l
def zeb {α:Type} (lt:α->α->Bool):List α->List α
 | []=>[]
 | x::l=>insL lt x (zeb lt l)
def pwB {α:Type} (r:α->α->Bool):List α->Bool
 | []=>true
 | x::l=>l.all (r x)&&pwB r l
theorem zkw {α:Type} (lt:α->α->Bool) (x:α):∀ l:List α,(insL lt x l).Perm (x::l)
 | []=>List.Perm.refl _
 | y::l=>by
  simp only [insL]
  cases lt y x with
  | true=>exact((zkw lt x l).cons y).trans (List.Perm.swap x y l)
  | false=>exact List.Perm.refl _
theorem z1b {α:Type} (lt:α->α->Bool):∀ l:List α,(zeb lt l).Perm l
 | []=>List.Perm.refl _
 | x::l=>(zkw lt x _).trans ((z1b lt l).cons x)
theorem ztg {α β:Type} (f:α->β) (lt:β->β->Bool):∀ l:List α,(zeb (fun a b=>lt (f a) (f b)) l).map f=zeb lt (l.map f)
 | []=>rfl
 | x::l=>by
  have ins:∀ m:List α,(insL (fun a b=>lt (f a) (f b)) x m).map f=insL lt (f x) (m.map f):=by
   intro m
   induction m with
   | nil=>rfl
   | cons y m ih=>
    simp only [insL,List.map_cons]
    cases lt (f y) (f x) with
    | true=>simp only [cond_true,List.map_cons,ih]
    | false=>rfl
  simp only [zeb,List.map_cons]
  rw [ins,ztg f lt l]
theorem zl9 {α:Type} {lt:α->α->Bool} (hO:Sort.SWO lt) (x:α):∀ l:List α,l.Pairwise (fun a b=>lt b a=false)->(insL lt x l).Pairwise fun a b=>lt b a=false
 | [],_=>List.pairwise_singleton _ _
 | y::l,h=>by
  rw [List.pairwise_cons] at h
  simp only [insL]
  cases hl:lt y x with
  | true=>
   simp only [cond_true,List.pairwise_cons]
   refine⟨fun z hz=>?_,zl9 hO x l h.2⟩
   rcases List.mem_cons.1 ((zkw lt x l).mem_iff.1 hz) with rfl | hz
   ·cases hx:lt z y with
    | false=>rfl
    | true=>have:=hO.trans _ _ _ hl hx; rw [hO.irrefl] at this; cases this
   ·exact h.1 z hz
  | false=>
   simp only [cond_false,List.pairwise_cons]
   refine⟨fun z hz=>?_,h.1,h.2⟩
   rcases List.mem_cons.1 hz with rfl | hz
   ·exact hl
   ·exact hO.ntrans _ _ _ (h.1 z hz) hl
theorem z8p {α:Type} {lt:α->α->Bool} (hO:Sort.SWO lt):∀ l:List α,(zeb lt l).Pairwise fun a b=>lt b a=false
 | []=>List.Pairwise.nil
 | x::l=>zl9 hO x _ (z8p hO l)
theorem zuv {α:Type} {r:α->α->Bool} : ∀ {l:List α},pwB r l=true↔l.Pairwise fun a b=>r a b=true
 | []=>by simp [pwB]
 | x::l=>by simp [pwB,zuv (l:=l),List.all_eq_true]
theorem zxw {α:Type} {lt:α->α->Bool} {l l1 l2:List α} (hp:l.Pairwise fun a b=>(lt a b||lt b a)=true) (h1:l1.Perm l) (h2:l2.Perm l) (s1:l1.Pairwise fun a b=>lt b a=false) (s2:l2.Pairwise fun a b=>lt b a=false):l1=l2:=by
 refine List.Perm.eq_of_pairwise (le:=fun a b=>lt b a=false) ?_ s1 s2 (h1.trans h2.symm)
 intro a b ha hb hab hba
 have ha:=h1.mem_iff.1 ha
 have hb:=h2.mem_iff.1 hb
 clear s1 s2 h1 h2
 induction l with
 | nil=>cases ha
 | cons x l ih=>
  rw [List.pairwise_cons] at hp
  rcases List.mem_cons.1 ha with rfl | ha'
  ·rcases List.mem_cons.1 hb with rfl | hb'
   ·rfl
   ·have:=hp.1 b hb'
    rw [hab,hba] at this; cases this
  ·rcases List.mem_cons.1 hb with rfl | hb'
   ·have:=hp.1 a ha'
    rw [hab,hba] at this; cases this
   ·exact ih hp.2 ha' hb'
def zyj {α:Type} (ok:α->Bool) (cf:α->α->Int) (l:List α):Option (List α):=
 bif l.all ok&&Nat.blt l.length 4611686018427387904&&pwB (fun a b=>decide (cf a b<0)||decide (cf b a<0)) l then some (zeb (fun a b=>decide (cf a b<0)) l) else none
theorem y3r {α:Type} {ok:α->Bool} {cf:α->α->Int} {l l':List α} (h:zyj ok cf l=some l') :
  (∀ y∈l,ok y=true)/\l.length<4611686018427387904/\(l.Pairwise fun a b=>(decide (cf a b<0)||decide (cf b a<0))=true)/\l'=zeb (fun a b=>decide (cf a b<0)) l:=by
 unfold zyj at h
 cases hc :(l.all ok&&Nat.blt l.length 4611686018427387904&&pwB (fun a b=>decide (cf a b<0)||decide (cf b a<0)) l) with
 | false=>rw [hc] at h; cases h
 | true=>
  rw [hc] at h
  simp only [Bool.and_eq_true,Nat.blt_eq,List.all_eq_true] at hc
  exact⟨hc.1.1,hc.1.2,zuv.1 hc.2,(Option.some.inj h).symm⟩
theorem y4c {α:Type} {ok:α->Bool} {cf:α->α->Int} {l:List α} (h1:∀ y∈l,ok y=true) (h2:l.length<4611686018427387904) (h3:l.Pairwise fun a b=>cf a b<0\/cf b a<0):zyj ok cf l=some (zeb (fun a b=>decide (cf a b<0)) l):=by
 unfold zyj
 have :(l.all ok&&Nat.blt l.length 4611686018427387904&&pwB (fun a b=>decide (cf a b<0)||decide (cf b a<0)) l)=true:=by
  simp only [Bool.and_eq_true,Nat.blt_eq,List.all_eq_true]
  exact⟨⟨h1,h2⟩,zuv.2 (h3.imp fun h=>by simpa using h)⟩
 rw [this]; rfl
theorem zv6 {α:Type} {ok:α->Bool} (l:List α) (hok:∀ y∈l,ok y=true) :(l.attach.map fun y=>(⟨y.1,hok y.1 y.2⟩ : {y:α // ok y=true})).map (·.1)=l:=by
 rw [List.map_map]
 conv=>rhs; rw [<- List.attach_map_subtype_val l]
 rfl
theorem y0u {V:TE} {P:Program} {ρ:Shelf.Ren} (L:Proofs.SlLaysF0.n6 P ρ) {E c g:Nat} (hag:∀ w,(isAgg (ρ.t 24)).run P w = .ok true w) (hsz:∀ w,(Go.sizeOf (ρ.t 24)).run P w = .ok (V.sz c) w) (hfl:V.fl c=true) (hagg:z5h (V.d c)=true) (hg:FnOK P g)
  {ok:V.T c->Bool} {cf:V.T c->V.T c->Int} (hO:Sort.SWO (Proofs.ltOf fun a b : {y:V.T c // ok y=true}=>cf a.1 b.1))
  (hcmp:∀ a b,ok a=true->ok b=true->zhb P g [V.vl c a,V.vl c b] fun x news=>x=iv .i64 (cf a b)/\news = []):y2y V P (ρ.f 6) ⟨E,c,[g],zyj ok cf⟩:=by
 intro l l' sv hF
 obtain⟨hok,hlen,hpw,rfl⟩:=y3r hF
 refine zvv (vs0:=[.func (.func g) #[] #[]]) (ce:=V.cv c) (fun x _=>y6z hfl x) (fun x _=>y6z hfl x) (fun x _=>zzc hfl x) (fun x _=>ztu hfl x) (fun x _=>ztu hfl x) (z1b _ _).length_eq rfl ?_ ?_
 ·intro _ p cap w
  exact Proofs.AnyF.slices_SortFunc_none L p cap _ w
 ·intro hne b cap w hlt hH
  generalize hd :(l.attach.map fun y=>(⟨y.1,hok y.1 y.2⟩ : {y:V.T c // ok y=true}))=d
  have hv:d.map (·.1)=l:=by rw [<- hd]; exact zv6 _ hok
  have hd0:d≠[]:=fun e=>hne (by rw [<- hv,e]; rfl)
  obtain⟨x0,hx0⟩:=List.exists_mem_of_ne_nil d hd0
  let _:Inhabited {y:V.T c // ok y=true}:=⟨x0⟩
  have hs:d.toArray.size=l.length:=by rw [<- hv]; simp
  have eg:∀ args w,(callFunc g args).run P w = .ok (.enter g args) w:=by
   obtain⟨fn,h1,h2,h3⟩:=hg
   obtain⟨cd,h3⟩:=Option.isSome_iff_exists.1 h3
   exact Proofs.enters_of h1 h2 h3
  have hfm:∀ q:List {y:V.T c // ok y=true},q.flatMap (fun y=>V.cv c y.1) =(q.map (·.1)).flatMap (V.cv c):=fun q=>by rw [List.flatMap_map]
  have hrun:=Proofs.AnyQ.slices_SortFunc L (V.sz c) hag hsz (fun y : {y:V.T c // ok y=true}=>V.cv c y.1) (fun y=>ztu hfl y.1) (fun y=>zzc hfl y.1) (fun a b=>cf a.1 b.1) hO g #[] b 0 cap d.toArray w eg ?_ (hH _ ?_) hlt (by rw [hs]; exact hlen)
  ·rw [hs] at hrun
   refine hrun.mono ?_
   rintro e w' ⟨rfl,d',n,os,⟨k1,_,k3⟩,k4,rfl⟩
   refine⟨rfl,n,os,_,?_,rfl⟩
   rw [zns (e:=fun y : {y:V.T c // ok y=true}=>V.cv c y.1) (fun y=>ztu hfl y.1),hfm]
   have hdl:d'.size=l.length:=by rw [k1,hs]
   have e1:d'.extract 0 l.length=d':=by rw [<- hdl]; exact Array.extract_size
   have e2:d.toArray.extract 0 l.length=d.toArray:=by rw [<- hs]; exact Array.extract_size
   rw [e1,e2] at k3
   have k3:d'.toList.Perm d:=by simpa using k3
   have key:d'.toList=zeb (Proofs.ltOf fun a b : {y:V.T c // ok y=true}=>cf a.1 b.1) d:=by
    refine zxw (l:=d) (lt:=Proofs.ltOf fun a b : {y:V.T c // ok y=true}=>cf a.1 b.1) ?_ k3 (z1b _ _) ?_ (z8p hO _)
    ·rw [<- hv] at hpw
     exact List.pairwise_map.1 hpw
    ·rw [List.pairwise_iff_getElem]
     intro i j hi hj hij
     have hi':i<d'.size:=by simpa using hi
     have hj':j<d'.size:=by simpa using hj
     have:=k4 i j (Nat.zero_le _) hij (by omega)
     rw [getElem!_pos d' i hi',getElem!_pos d' j hj'] at this
     simpa using this
   have hm:=ztg (fun y : {y:V.T c // ok y=true}=>y.1) (fun a b=>decide (cf a b<0)) d
   rw [hv] at hm
   rw [key,<- hm]
   rfl
  ·intro m os dk _ y z
   have hp:=hcmp y.1 z.1 y.2 z.2 (fun _=>False) (Proofs.sortWorldK (fun y : {y:V.T c // ok y=true}=>V.cv c y.1) (V.sz c) w b 0 m dk os) (#[.agg (V.cv c y.1).toArray,.agg (V.cv c z.1).toArray]++#[]) (fun _ h=>h.elim) rfl ?_
   ·refine hp.mono ?_
    rintro e w' ⟨v,u,objs,r',S',rfl,_,hw',hu,rfl,_⟩
    have hu:v = .int .i64 (cf y.1 z.1):=hu
    subst hu
    exact⟨rfl,y7c hw'.below⟩
   ·intro i A hi
    have one:∀ q:V.T c,(V.vl c q).h (fun _=>False) (Proofs.sortWorldK (fun y : {y:V.T c // ok y=true}=>V.cv c y.1) (V.sz c) w b 0 m dk os) (.agg (V.cv c q).toArray):=fun q=>by
     rw [zku q hagg]
     refine⟨_,rfl,?_⟩
     rw [y6z hfl]
     exact zo0 (zzc hfl q)
    match i,hi with
    | 0,hi=>cases hi; exact one y.1
    | 1,hi=>cases hi; exact one z.1
    | i+2,hi=>simp at hi
  ·rw [zns (e:=fun y : {y:V.T c // ok y=true}=>V.cv c y.1) (fun y=>ztu hfl y.1),hfm,List.toList_toArray,hv]
theorem y0e {α:Type} [Inhabited α] {enc:α->Value} {w:World} {b o:Nat} {d:Array α} (h:Sort.Holds id w b o (d.map enc)):Sort.Holds enc w b o d:=by
 intro j hj
 have:=h j (by simpa using hj)
 rw [getElem!_pos _ j (by simpa using hj)] at this
 rw [getElem!_pos d j hj]
 simpa using this
theorem zyz {α:Type} [Inhabited α] {enc:α->Value} {w:World} {b o:Nat} {d:Array α} : Sort.putRow enc w b o d=Sort.putRow id w b o (d.map enc):=by
 unfold Sort.putRow
 congr 1
 funext cur
 unfold Sort.putCells
 congr 1
 funext k x
 simp only [Array.size_map]
 split
 ·rename_i h
  have h1:k-o<d.size:=by omega
  rw [getElem!_pos d _ h1,getElem!_pos _ _ (by simpa using h1)]
  simp
 ·rfl
def zko (l:List Int):Option (List Int):=if l.length<4611686018427387904 then some (zeb (fun a b=>decide (a<b)) l) else none
theorem y9c:Sort.SWO (fun a b:Int=>decide (a<b)) where
 irrefl:=fun x=>by simp
 trans:=fun x y z h1 h2=>by simp at *; omega
 ntrans:=fun x y z h1 h2=>by simp at *; omega
theorem zv3 (l:List Int):l.mergeSort (fun x y=>decide (x<=y))=zeb (fun a b=>decide (a<b)) l:=by
 refine List.Perm.eq_of_pairwise (le:=fun a b:Int=>a<=b) (fun a b _ _ h1 h2=>by omega) ?_ ?_ ((List.mergeSort_perm _ _).trans (z1b _ _).symm)
 ·have:=List.pairwise_mergeSort (le:=fun x y:Int=>decide (x<=y)) (by intro a b c h1 h2; simp at *; omega) (by intro a b; simp; omega) l
  exact this.imp fun h=>by simpa using h
 ·exact(z8p y9c l).imp fun h=>by simpa using h
theorem zsn {P:Program} {ρ:Shelf.Ren} (L:Proofs.Lays.n189 P ρ) {E:Nat} {l l':List Int} {sv:Value} (hF:zko l=some l'):MutT P (ρ.f 189) [eqv sv] E (fun n:Int=>[iv .i64 n]) 1 l sv fun x l2=>x=eqv (.tuple #[])/\l2=l':=by
 unfold zko at hF
 split at hF
 ·rename_i hl
  have:=Option.some.inj hF
  subst this
  have hfm:∀ q:List Int,q.flatMap (fun n=>[Value.int .i64 n])=q.map (Value.int .i64):=fun q=>by induction q with
   | nil=>rfl
   | cons x q ih=>rw [List.flatMap_cons,ih]; rfl
  refine zvv (args:=[]) (vs0:=[]) (ce:=fun n=>[.int .i64 n]) (fun x _=>rfl) (fun x _=>rfl) (fun x _ v hv=>by simp only [List.mem_singleton] at hv; subst hv; rfl) (fun x _=>rfl) (fun x _=>rfl) (z1b _ _).length_eq rfl ?_ ?_
  ·intro _ p cap w
   exact Proofs.Any.slices_Sort_int_none L p cap w
  ·intro hne b cap w hlt hH
   refine(Proofs.Any.slices_Sort_int L b 0 cap l w (y0e (hH _ ?_)) hlt hl).mono ?_
   ·rw [hfm]; simp
   ·rintro e w' ⟨rfl,n,os,rfl⟩
    refine⟨rfl,n,os,_,?_,by rw [zyz]⟩
    rw [hfm,zv3]; simp
 ·cases hF
end Px
end
section
namespace Px
open Go Go.RowKit Go.ChangeShapes Go.WideShapes Go.ChangeAt
section
variable {T:Nat->Type}
def rT (g :(c:Nat)->T c->Prop) :(fs:List Nat)->Tup T fs->Prop
 | [],_=>True
 | [c],x=>g c x.1
 | c::cs,x=>g c x.1/\rT g cs x.2
def rD (g :(c:Nat)->T c->Prop) : {α:Type}->Ds T α->α->Prop
 | _,.int k,x=>RI k x
 | _,.bool,_=>True
 | _,.str,x=>x.size<=maxLen
 | _,.sl c,x=>RL (g c) x
 | _,.arr n c,x=>∀ i,i<n->g c (x i)
 | _,.st fs _ un _,x=>rT g fs (un x)
theorem y9b {g :(c:Nat)->T c->Prop} {c:Nat} : ∀ {cs:List Nat} {x:T c×Tup T cs},g c x.1->rT g cs x.2->rT g (c::cs) x
 | [],_,h,_=>h
 | _::_,_,h,k=>⟨h,k⟩
end
section
variable (V:TE) (P:Program)
def rdN:Nat->(c:Nat)->V.T c->Prop
 | 0,_,_=>True
 | n+1,c,x=>rD (rdN n) (V.d c) x
def opF (g:TypeId->Nat->Bool):List Nat->List (TypeId×Nat×Nat)->Nat->Nat->Bool
 | [],[],o,m=>Nat.beq o m
 | c::cs,(ty,off,m)::l,o,e=>Nat.beq off o&&Nat.beq m (V.sz c)&&g ty c&&opF g cs l (o+m) e
 | _,_,_,_=>false
def opD (g:TypeId->Nat->Bool) : {α:Type}->Ds V.T α->TypeId->Bool
 | _,.int k,t=>match P.underlying t with | some (.int k')=>decide (k'=k) | _=>false
 | _,.bool,t=>match P.underlying t with | some .bool=>true | _=>false
 | _,.str,t=>match P.underlying t with | some .string=>true | _=>false
 | _,.sl c,t=>match P.underlying t with | some (.slice E)=>Nat.beq (P.cellsOf E) (V.sz c)&&Nat.blt 0 (V.sz c)&&g E c | _=>false
 | _,.arr n c,t=>match P.underlying t with | some (.array N E)=>Nat.beq N n&&Nat.beq (P.cellsOf E) (V.sz c)&&Nat.beq (P.cellsOf t) (n*V.sz c)&&g E c | _=>false
 | _,.st fs _ _ _,t=>match zpc P t with | some l=>opF V g fs l 0 (P.cellsOf t) | none=>false
def opN:Nat->TypeId->Nat->Bool
 | 0,_,_=>false
 | n+1,t,c=>opD V P (opN n) (V.d c) t
def yaj (n:Nat):List TypeId->List Nat->Bool
 | [],[]=>true
 | t::ts,c::cs=>opN V P n t c&&yaj n ts cs
 | _,_=>false
def yb6 (n:Nat) :(cs:List Nat)->Tup V.T cs->Prop
 | [],_=>True
 | c::cs,x=>rdN V n c x.1/\yb6 n cs x.2
variable {V P}
theorem y89:∀(n:Nat) (t:TypeId) (c:Nat),opN V P n t c=true->Opn P t (V.sz c) (V.ev c) (rdN V n c)
 | 0,_,_,h=>by cases h
 | n+1,t,c,h=>by
  have ih:=y89 n
  have hev:V.ev c=evD V.ev V.sz (V.d c):=funext fun x=>V.ev_eq c x
  have hr:rdN V (n+1) c=rD (rdN V n) (V.d c):=rfl
  rw [hev,V.sz_eq,hr]
  change opD V P (opN V P n) (V.d c) t=true at h
  revert h
  clear hev hr
  generalize V.d c=d
  revert d
  generalize V.T c=α
  intro d h
  cases d with
  | int k=>
   simp only [opD] at h
   split at h
   ·rename_i k' hu
    simp only [decide_eq_true_eq] at h
    subst h
    exact Opn.int hu
   ·cases h
  | bool=>
   simp only [opD] at h
   split at h
   ·rename_i hu; exact Opn.bool hu
   ·cases h
  | str=>
   simp only [opD] at h
   split at h
   ·rename_i hu; exact Opn.string hu
   ·cases h
  | sl c'=>
   simp only [opD] at h
   split at h
   ·rename_i E hu
    simp only [Bool.and_eq_true,Nat.blt_eq] at h
    obtain⟨⟨h1,h2⟩,h3⟩:=h
    exact Opn.slice hu (Nat.eq_of_beq_eq_true h1) h2 (ih E c' h3)
   ·cases h
  | arr m c'=>
   simp only [opD] at h
   split at h
   ·rename_i N E hu
    simp only [Bool.and_eq_true] at h
    obtain⟨⟨⟨h1,h2⟩,h3⟩,h4⟩:=h
    have h1:=Nat.eq_of_beq_eq_true h1
    subst h1
    have:Inhabited (V.T c'):=⟨V.z c'⟩
    exact Opn.array hu (Nat.eq_of_beq_eq_true h2) (Nat.eq_of_beq_eq_true h3) rfl (ih E c' h4)
   ·cases h
  | st fs mk un law=>
   simp only [opD] at h
   split at h
   ·rename_i l hl
    intro H enc w sp held fuel cs x hx
    obtain⟨hlen,m,hf⟩:=zu2 hl hx
    have key:∀(fs:List Nat) (l':List (TypeId×Nat×Nat)) (o:Nat),opF V (opN V P n) fs l' o (P.cellsOf t)=true->(∀(i:Nat) (ty:TypeId) (off m':Nat),l'[i]? = some (ty,off,m')->∃ y,DataW.trod enc P w 0 sp held m ty ((cs.drop off).take m')=some y)->
      o+fs.foldr (fun c s=>V.sz c+s) 0=P.cellsOf t/\∃ y:Tup V.T fs,rT (rdN V n) fs y/\zj (fun b=>b<w.heap.size) w (evT V.ev fs y) (cs.drop o):=by
     intro fs
     induction fs with
     | nil=>
      intro l' o h hf
      cases l' with
      | nil=>
       have:=Nat.eq_of_beq_eq_true h
       subst this
       exact⟨rfl,(),trivial,zj.tile0 hlen⟩
      | cons a l'=>cases h
     | cons c cs' ihf=>
      intro l' o h hf
      cases l' with
      | nil=>cases h
      | cons a l'=>
       obtain⟨ty,off,m'⟩:=a
       simp only [opF,Bool.and_eq_true] at h
       obtain⟨⟨⟨h1,h2⟩,h3⟩,h4⟩:=h
       have h1:=Nat.eq_of_beq_eq_true h1
       have h2:=Nat.eq_of_beq_eq_true h2
       subst h1; subst h2
       obtain⟨y0,hy0⟩:=hf 0 _ _ _ rfl
       obtain⟨_,y,hR,hc⟩:=ih ty c h3 _ _ _ _ _ _ _ _ hy0
       obtain⟨he,z,hz,hcz⟩:=ihf l' _ h4 (fun i ty off m' hi=>hf (i+1) ty off m' hi)
       refine⟨by simp only [List.foldr_cons]; omega,(y,z),y9b hR hz,?_⟩
       exact zj.tile hc hcz
    obtain⟨he,y,hy,hc⟩:=key fs l 0 h hf
    rw [List.drop_zero] at hc
    refine⟨by rw [hlen,<- he,Nat.zero_add]; rfl,mk y,?_,?_⟩
    ·show rT _ fs (un (mk y))
     rw [law]; exact hy
    ·show zj _ _ (evT V.ev fs (un (mk y))) cs
     rw [law]; exact hc
   ·cases h
theorem ydi {H:Type} {enc:TypeId×Value->H} {W:World} {sp:Nat->Bool} {held:Bool} {base n:Nat} {t:TypeId} {c:Nat} {v:Value} {d:DataW H} {p:List MemPlace}
  (ho:opN V P n t c=true) (hv:Value.okWide P W .any base t v) (h:DataW.Trod enc P W 0 sp held t v d p):∃ y,rdN V n c y/\(V.vl c y).h (fun b=>b<W.heap.size) W v:=by
 cases n with
 | zero=>cases ho
 | succ n=>
 obtain⟨fuel,hf⟩:=h
 obtain⟨_,y,hR,hc⟩:=y89 _ _ _ ho _ _ _ _ _ _ _ _ hf
 refine⟨y,hR,?_⟩
 change opD V P (opN V P n) (V.d c) t=true at ho
 unfold Value.okWide at hv
 cases ha:z5h (V.d c) with
 | true=>
  rw [zku y ha]
  have hs:∃ cs,v = .agg cs:=by
   revert ho ha
   generalize V.d c=d
   generalize V.T c=α at d
   intro ho ha
   cases d with
   | arr m c'=>
    simp only [opD] at ho
    split at ho
    ·rename_i N E hu
     rw [hu] at hv
     obtain⟨cs,rfl,_⟩:=hv
     exact⟨cs,rfl⟩
    ·cases ho
   | st fs mk un law=>
    simp only [opD,zpc] at ho
    cases hu:P.underlying t with
    | none=>rw [hu] at ho; cases ho
    | some X=>
     rw [hu] at ho hv
     cases X with
     | struct fs'=>obtain⟨cs,rfl,_⟩:=hv; exact⟨cs,rfl⟩
     | _=>cases ho
   | _=>cases ha
  obtain⟨cs,rfl⟩:=hs
  exact⟨cs,rfl,hc⟩
 | false=>
  rw [zmp y ha] at hc
  have hcell:v.cells.toList = [v]:=by
   revert ho ha
   generalize V.d c=d
   generalize V.T c=α at d
   intro ho ha
   cases d with
   | int k=>
    simp only [opD] at ho
    split at ho
    ·rename_i k' hu
     rw [hu] at hv
     cases v <;> first | rfl |(exfalso; simp [Cell.okWide,Cell.ok,hu] at hv)
    ·cases ho
   | bool=>
    simp only [opD] at ho
    split at ho
    ·rename_i hu
     rw [hu] at hv
     cases v <;> first | rfl |(exfalso; simp [Cell.okWide,Cell.ok,hu] at hv)
    ·cases ho
   | str=>
    simp only [opD] at ho
    split at ho
    ·rename_i hu
     rw [hu] at hv
     cases v <;> first | rfl |(exfalso; simp [Cell.okWide,Cell.ok,hu] at hv)
    ·cases ho
   | sl c'=>
    simp only [opD] at ho
    split at ho
    ·rename_i E hu
     rw [hu] at hv
     cases v <;> first | rfl |(exfalso; simp [Cell.okWide,Cell.ok,hu] at hv)
    ·cases ho
   | arr m c'=>cases ha
   | st fs mk un law=>cases ha
  rw [hcell] at hc
  obtain⟨u,hu',hA,_⟩:=hc.2 0 (V.vl c y) rfl
  simp at hu'
  subst hu'
  exact hA
theorem y3p {H:Type} {enc:TypeId×Value->H} {W:World} {sp:Nat->Bool} {held:Bool} {base n:Nat} : ∀ {ts:List TypeId} {cs:List Nat} {vs:List Value} {ds:List (DataW H)} {ps:List MemPlace},
  yaj V P n ts cs=true->DataW.TrodAll enc P W 0 sp held ts vs ds ps->(∀(j:Nat) t v,ts[j]? = some t->vs[j]? = some v->Value.okWide P W .any base t v)->
  vs.length=cs.length/\∃ x:Tup V.T cs,yb6 V n cs x/\∀(i:Nat) (A:VP),(vls V cs x)[i]? = some A->A.h (fun b=>b<W.heap.size) W (vs.getD i undef)
 | [],[],vs,ds,ps,_,h,_=>by
  cases vs with
  | nil=>exact⟨rfl,(),trivial,fun i A hi=>by simp [vls] at hi⟩
  | cons v vs=>cases ds <;> exact h.elim
 | t::ts,c::cs,vs,ds,ps,ho,h,hv=>by
  simp only [yaj,Bool.and_eq_true] at ho
  cases vs with
  | nil=>cases ds <;> exact h.elim
  | cons v vs=>
   cases ds with
   | nil=>exact h.elim
   | cons d ds=>
    obtain⟨p,q,h1,h2,_⟩:=h
    obtain⟨y,hR,hA⟩:=ydi ho.1 (hv 0 t v rfl rfl) h1
    obtain⟨hl,x,hx,hxs⟩:=y3p ho.2 h2 (fun j t v ht hvj=>hv (j+1) t v ht hvj)
    refine⟨by simp [hl],(y,x),⟨hR,hx⟩,fun i A hi=>?_⟩
    cases i with
    | zero=>simp only [vls,List.getElem?_cons_zero,Option.some.injEq] at hi; subst hi; exact hA
    | succ i=>simp only [vls,List.getElem?_cons_succ] at hi; simpa using hxs i A hi
 | [],_::_,_,_,_,ho,_,_=>by cases ho
 | _::_,[],_,_,_,ho,_,_=>by cases ho
theorem zmr {H:Type} {enc:TypeId×Value->H} {P:Program} {W:World} {b:Nat} {sp:Nat->Bool} {held:Bool} : ∀ {ts:List TypeId} {vs:List Value} {ds:List (DataW H)} {ps:List MemPlace},DataW.TrodAll enc P W b sp held ts vs ds ps->ds.length=ts.length
 | [],[],[],_,_=>rfl
 | t::ts,v::vs,d::ds,ps,⟨p,q,_,h,_⟩=>by simp [zmr h]
 | [],_::_,_,_,h=>h.elim
 | [],[],_::_,_,h=>h.elim
 | _::_,[],_,_,h=>h.elim
 | _::_,_::_,[],_,h=>h.elim
theorem y1w:∀(cs:List Nat) (x:Tup V.T cs),(vls V cs x).length=cs.length
 | [],_=>rfl
 | c::cs,x=>by simp only [vls,List.length_cons,y1w cs]
theorem ycg {f:FuncId} {sp:Fsp V} {W:World} {vs:Array Value} {x:Tup V.T sp.args} {r:RTup V.T sp.res} (hf:z14 V P f sp) (hr:sp.F x=some r) (hres:∀ B:Asg,(resV V (encR V 0 sp.res r)).den V P B=bv true) (hno:newR V sp.res r = [])
  (hl:vs.toList.length=sp.args.length) (hA:∀(i:Nat) (A:VP),(vls V sp.args x)[i]? = some A->A.h (fun b=>b<W.heap.size) W (vs.toList.getD i undef)):Calls P f vs W (fun e W'=>e = .returned (.bool true)/\Below W.heap.size W W'):=by
 refine zzz (As:=vls V sp.args x) ((hf x r hr).mono ?_) (by rw [y1w]; simpa using hl) (fun i A hi=>?_)
 ·rintro y news ⟨B,hB,rfl,rfl⟩
  rw [hno] at hB ⊢
  refine⟨hres B,?_⟩
  cases B <;> rfl
 ·have:=hA i A hi
  simpa [Array.getD_eq_getD_getElem?,List.getD_eq_getElem?_getD] using this
end
theorem z0h.same {R:Type} {x:Option R} {n:Nat} {y:Option (List (Option R))} (h:y=some (List.replicate n x)):z0h x y:=
 ⟨fun r hr=>⟨_,h,fun a ha=>by rw [(List.mem_replicate.1 ha).2,hr]⟩⟩
theorem z0h.ck {R:Type} {p:Prop} [Decidable p] {x:Option R} {y:Option (List (Option R))} (h:z0h x y):z0h (Px.ck p x) (Px.ck p y):=
 ⟨fun r hr=>by
  unfold Px.ck at *
  split at hr
  ·rename_i hp; simp only [if_pos hp]; exact h.ok r hr
  ·cases hr⟩
theorem z0h.bind {R α:Type} {m:Option α} {f:α->Option R} {g:α->Option (List (Option R))} (h:∀ a,z0h (f a) (g a)):z0h (m.bind f) (m.bind g):=
 ⟨fun r hr=>by
  cases m with
  | none=>cases hr
  | some a=>exact(h a).ok r hr⟩
theorem z0h.one {R:Type} {x:Option R} : z0h x (some [x]):=⟨fun r hr=>⟨_,rfl,fun a ha=>by rw [List.mem_singleton.1 ha,hr]⟩⟩
theorem z0h.nil {R:Type} {x:Option R} : z0h x (catL []):=⟨fun r hr=>⟨[],rfl,fun a ha=>by cases ha⟩⟩
theorem z0h.cons {R:Type} {x:Option R} {y:Option (List (Option R))} {l:List (Option (List (Option R)))} (h:z0h x y) (hl:z0h x (catL l)):z0h x (catL (y::l)):=
 ⟨fun r hr=>by
  obtain⟨a,ha,h1⟩:=h.ok r hr
  obtain⟨b,hb,h2⟩:=hl.ok r hr
  refine⟨a++b,by simp only [catL,ha,hb,cat2],fun z hz=>?_⟩
  rcases List.mem_append.1 hz with hz | hz
  ·exact h1 z hz
  ·exact h2 z hz⟩
end Px
end
section
set_option maxHeartbeats 4000000
set_option maxRecDepth 100000
namespace Px
open Go Go.RowKit
def zt:ByteArray:=⟨#[0,1,2,2,3,3,3,3,4,4,4,4,4,4,4,4,5,5,5,5,5,5,5,5,5,5,5,5,5,5,5,5,6,6,6,6,6,6,6,6,6,6,6,6,6,6,6,6,6,6,6,6,6,6,6,6,6,6,6,6,6,6,6,6,7,7,7,7,7,7,7,7,7,7,7,7,7,7,7,7,7,7,7,7,7,7,7,7,7,7,7,7,7,7,7,7,7,7,7,7,7,7,7,7,7,7,7,7,7,7,7,7,7,7,7,7,7,7,7,7,7,7,7,7,7,7,7,7,8,8,8,8,8,8,8,8,8,8,8,8,8,8,8,8,8,8,8,8,8,8,8,8,8,8,8,8,8,8,8,8,8,8,8,8,8,8,8,8,8,8,8,8,8,8,8,8,8,8,8,8,8,8,8,8,8,8,8,8,8,8,8,8,8,8,8,8,8,8,8,8,8,8,8,8,8,8,8,8,8,8,8,8,8,8,8,8,8,8,8,8,8,8,8,8,8,8,8,8,8,8,8,8,8,8,8,8,8,8,8,8,8,8,8,8,8,8,8,8,8,8,8,8,8,8,8,8]⟩
def zmt:ByteArray:=⟨#[119,111,102]⟩
def zg7:ByteArray:=⟨#[119,112,102,116]⟩
def zdh:ByteArray:=⟨#[119,112,111,102,99]⟩
def zn5:ByteArray:=⟨#[110,119,111,112,100,107,103,102]⟩
def zgc:ByteArray:=⟨#[119,112,111,102]⟩
def zni:ByteArray:=⟨#[119,102,99]⟩
def znm:ByteArray:=⟨#[119,112,102,116,99,97,113]⟩
def zus:ByteArray:=⟨#[111,113]⟩
def zlk:ByteArray:=⟨#[110,102,120]⟩
def zui:ByteArray:=⟨#[110,102]⟩
def zne:ByteArray:=⟨#[111,112,107,110,103,102,116,97]⟩
def zly:ByteArray:=⟨#[119,112,111,110,102,116,99,100,107,103,97]⟩
structure Ref where
 railway:Int
 no:Int
instance:Inhabited Ref:=⟨⟨0,0⟩⟩
structure z0a where
 wagon:Int
 place:Int
 ref:Ref
 stay:Bool
 early:Int
 late:Int
instance:Inhabited z0a:=⟨⟨0,0,default,false,0,0⟩⟩
structure z6 where
 visit:z0a
 report:Int
 second:Bool
 stay:Bool
 reader:Int
instance:Inhabited z6:=⟨⟨default,0,false,false,0⟩⟩
structure z67 where
 kind:Int
 railway:Int
 other:Int
instance:Inhabited z67:=⟨⟨0,0,0⟩⟩
structure Edge where
 a:Int
 b:Int
 railway:Int
 minutes:Int
 km:Int
instance:Inhabited Edge:=⟨⟨0,0,0,0,0⟩⟩
structure z8 where
 places :(List z67)
 edges :(List Edge)
instance:Inhabited z8:=⟨⟨[],[]⟩⟩
structure z2b where
 load:Int
 tare:Int
 length:Int
 gauge:Int
 brake:Int
 classes:Int
 life:Int
 floor:Int
instance:Inhabited z2b:=⟨⟨0,0,0,0,0,0,0,0⟩⟩
structure zjs where
 type_:Int
 owner:Int
 home:Int
 built:Int
 worth:Int
instance:Inhabited zjs:=⟨⟨0,0,0,0,0⟩⟩
structure Swap where
 wanted:Int
 given:Int
 cost:Int
instance:Inhabited Swap:=⟨⟨0,0,0⟩⟩
structure Wash where
 from_:Int
 to:Int
 minutes:Int
instance:Inhabited Wash:=⟨⟨0,0,0⟩⟩
structure z93 where
 types :(List z2b)
 wagons :(List zjs)
 swaps :(List Swap)
 washes :(List Wash)
instance:Inhabited z93:=⟨⟨[],[],[],[]⟩⟩
structure z1u where
 place:Int
 low:Int
 high:Int
instance:Inhabited z1u:=⟨⟨0,0,0⟩⟩
structure zcr where
 place:Int
instance:Inhabited zcr:=⟨⟨0⟩⟩
structure Span where
 from_:Int
 to:Int
instance:Inhabited Span:=⟨⟨0,0⟩⟩
structure z3n where
 open_ :(Nat->Span)
 holidays :(List Int)
instance:Inhabited z3n:=⟨⟨fun _=>default,[]⟩⟩
structure z3w where
 key:Int
 calendar:z3n
instance:Inhabited z3w:=⟨⟨0,default⟩⟩
structure Pool where
 network:z8
 fleet:z93
 readers :(List z1u)
 shippers :(List zcr)
 railways :(List z3w)
instance:Inhabited Pool:=⟨⟨default,default,[],[],[]⟩⟩
structure Part where
 kind:Int
 serial:Int
 fitted:Bool
instance:Inhabited Part:=⟨⟨0,0,false⟩⟩
structure Item where
 kind:Int
 ref:Ref
 wagon:Int
 place:Int
 other:Int
 number:Int
 from_:Int
 to:Int
 code:Int
 dest:Int
 class_:Int
 weight:Int
 amount:Int
 text:ByteArray
 parts :(List Part)
instance:Inhabited Item:=⟨⟨0,default,0,0,0,0,0,0,0,0,0,0,0,⟨#[]⟩,[]⟩⟩
structure zf where
 p:Pool
 it:Item
 ok:Bool
instance:Inhabited zf:=⟨⟨default,default,false⟩⟩
structure zc where
 ref:Ref
 by_:Ref
 time:Int
 item:Item
instance:Inhabited zc:=⟨⟨default,default,0,default⟩⟩
structure ze where
 i:Int
 j:Int
 w:Int
instance:Inhabited ze:=⟨⟨0,0,0⟩⟩
structure z1n where
 wagon:Int
 place:Int
 var:Int
 ref:Ref
 stay:Bool
instance:Inhabited z1n:=⟨⟨0,0,0,default,false⟩⟩
structure z0w where
 vars:Int
 bounds :(List ze)
 why :(List (Nat->Ref))
 events :(List z1n)
instance:Inhabited z0w:=⟨⟨0,[],[],[]⟩⟩
structure zd8 where
 problem:z0w
instance:Inhabited zd8:=⟨⟨default⟩⟩
structure z3y where
 railway:Int
 km:Int
instance:Inhabited z3y:=⟨⟨0,0⟩⟩
structure z9r where
 place:Int
 time:Int
 ref:Ref
 second:Bool
 from_:Int
 stay:Bool
 reader:Int
 covers:Bool
instance:Inhabited z9r:=⟨⟨0,0,default,false,0,false,0,false⟩⟩
structure z0d where
 wagon:Int
 place:Int
 gap:Int
 kind:Int
 reader:Int
instance:Inhabited z0d:=⟨⟨0,0,0,0,0⟩⟩
structure zco where
 place :(List Int)
 time :(List Int)
 reports :(List zc)
 truth :(List (List Int))
 skew :(List Int)
instance:Inhabited zco:=⟨⟨[],[],[],[],[]⟩⟩
def TT:Nat->Type
 | 0=>Int
 | 1=>Ref
 | 2=>Bool
 | 3=>z0a
 | 4=>z6
 | 5=>(List Int)
 | 6=>z67
 | 7=>(List z67)
 | 8=>Edge
 | 9=>(List Edge)
 | 10=>z8
 | 11=>Int
 | 12=>z2b
 | 13=>(List z2b)
 | 14=>zjs
 | 15=>(List zjs)
 | 16=>Swap
 | 17=>(List Swap)
 | 18=>Wash
 | 19=>(List Wash)
 | 20=>z93
 | 21=>z1u
 | 22=>(List z1u)
 | 23=>zcr
 | 24=>(List zcr)
 | 25=>Span
 | 26=>(Nat->Span)
 | 27=>z3n
 | 28=>z3w
 | 29=>(List z3w)
 | 30=>Pool
 | 31=>(Nat->Bool)
 | 32=>ByteArray
 | 33=>Part
 | 34=>(List Part)
 | 35=>Item
 | 36=>zf
 | 37=>zc
 | 38=>(List zc)
 | 39=>(List z6)
 | 40=>(List (List z6))
 | 41=>(List z0a)
 | 42=>(Nat->Int)
 | 43=>ze
 | 44=>(List ze)
 | 45=>(Nat->Ref)
 | 46=>(List (Nat->Ref))
 | 47=>z1n
 | 48=>(List z1n)
 | 49=>z0w
 | 50=>zd8
 | 51=>z3y
 | 52=>(List z3y)
 | 53=>Int
 | 54=>z9r
 | 55=>(List z9r)
 | 56=>Int
 | 57=>(List Int)
 | 58=>Int
 | 59=>z0d
 | 60=>(List z0d)
 | 61=>(List (List Int))
 | 62=>zco
 | _=>Unit
def TD :(c:Nat)->Ds TT (TT c)
 | 0=>.int .i64
 | 1=>.st [0,0] (fun t=>⟨t.1,t.2.1⟩) (fun x=>(x.railway,x.no,())) (fun _=>rfl)
 | 2=>.bool
 | 3=>.st [0,0,1,2,0,0] (fun t=>⟨t.1,t.2.1,t.2.2.1,t.2.2.2.1,t.2.2.2.2.1,t.2.2.2.2.2.1⟩) (fun x=>(x.wagon,x.place,x.ref,x.stay,x.early,x.late,())) (fun _=>rfl)
 | 4=>.st [3,0,2,2,0] (fun t=>⟨t.1,t.2.1,t.2.2.1,t.2.2.2.1,t.2.2.2.2.1⟩) (fun x=>(x.visit,x.report,x.second,x.stay,x.reader,())) (fun _=>rfl)
 | 5=>.sl 0
 | 6=>.st [0,0,0] (fun t=>⟨t.1,t.2.1,t.2.2.1⟩) (fun x=>(x.kind,x.railway,x.other,())) (fun _=>rfl)
 | 7=>.sl 6
 | 8=>.st [0,0,0,0,0] (fun t=>⟨t.1,t.2.1,t.2.2.1,t.2.2.2.1,t.2.2.2.2.1⟩) (fun x=>(x.a,x.b,x.railway,x.minutes,x.km,())) (fun _=>rfl)
 | 9=>.sl 8
 | 10=>.st [7,9] (fun t=>⟨t.1,t.2.1⟩) (fun x=>(x.places,x.edges,())) (fun _=>rfl)
 | 11=>.int .u64
 | 12=>.st [0,0,0,0,0,11,0,0] (fun t=>⟨t.1,t.2.1,t.2.2.1,t.2.2.2.1,t.2.2.2.2.1,t.2.2.2.2.2.1,t.2.2.2.2.2.2.1,t.2.2.2.2.2.2.2.1⟩) (fun x=>(x.load,x.tare,x.length,x.gauge,x.brake,x.classes,x.life,x.floor,())) (fun _=>rfl)
 | 13=>.sl 12
 | 14=>.st [0,0,0,0,0] (fun t=>⟨t.1,t.2.1,t.2.2.1,t.2.2.2.1,t.2.2.2.2.1⟩) (fun x=>(x.type_,x.owner,x.home,x.built,x.worth,())) (fun _=>rfl)
 | 15=>.sl 14
 | 16=>.st [0,0,0] (fun t=>⟨t.1,t.2.1,t.2.2.1⟩) (fun x=>(x.wanted,x.given,x.cost,())) (fun _=>rfl)
 | 17=>.sl 16
 | 18=>.st [0,0,0] (fun t=>⟨t.1,t.2.1,t.2.2.1⟩) (fun x=>(x.from_,x.to,x.minutes,())) (fun _=>rfl)
 | 19=>.sl 18
 | 20=>.st [13,15,17,19] (fun t=>⟨t.1,t.2.1,t.2.2.1,t.2.2.2.1⟩) (fun x=>(x.types,x.wagons,x.swaps,x.washes,())) (fun _=>rfl)
 | 21=>.st [0,0,0] (fun t=>⟨t.1,t.2.1,t.2.2.1⟩) (fun x=>(x.place,x.low,x.high,())) (fun _=>rfl)
 | 22=>.sl 21
 | 23=>.st [0] (fun t=>⟨t.1⟩) (fun x=>(x.place,())) (fun _=>rfl)
 | 24=>.sl 23
 | 25=>.st [0,0] (fun t=>⟨t.1,t.2.1⟩) (fun x=>(x.from_,x.to,())) (fun _=>rfl)
 | 26=>.arr 7 25
 | 27=>.st [26,5] (fun t=>⟨t.1,t.2.1⟩) (fun x=>(x.open_,x.holidays,())) (fun _=>rfl)
 | 28=>.st [11,27] (fun t=>⟨t.1,t.2.1⟩) (fun x=>(x.key,x.calendar,())) (fun _=>rfl)
 | 29=>.sl 28
 | 30=>.st [10,20,22,24,29] (fun t=>⟨t.1,t.2.1,t.2.2.1,t.2.2.2.1,t.2.2.2.2.1⟩) (fun x=>(x.network,x.fleet,x.readers,x.shippers,x.railways,())) (fun _=>rfl)
 | 31=>.arr 4096 2
 | 32=>.str
 | 33=>.st [0,0,2] (fun t=>⟨t.1,t.2.1,t.2.2.1⟩) (fun x=>(x.kind,x.serial,x.fitted,())) (fun _=>rfl)
 | 34=>.sl 33
 | 35=>.st [0,1,0,0,0,0,0,0,0,0,0,0,0,32,34] (fun t=>⟨t.1,t.2.1,t.2.2.1,t.2.2.2.1,t.2.2.2.2.1,t.2.2.2.2.2.1,t.2.2.2.2.2.2.1,t.2.2.2.2.2.2.2.1,t.2.2.2.2.2.2.2.2.1,t.2.2.2.2.2.2.2.2.2.1,t.2.2.2.2.2.2.2.2.2.2.1,t.2.2.2.2.2.2.2.2.2.2.2.1,t.2.2.2.2.2.2.2.2.2.2.2.2.1,t.2.2.2.2.2.2.2.2.2.2.2.2.2.1,t.2.2.2.2.2.2.2.2.2.2.2.2.2.2.1⟩) (fun x=>(x.kind,x.ref,x.wagon,x.place,x.other,x.number,x.from_,x.to,x.code,x.dest,x.class_,x.weight,x.amount,x.text,x.parts,())) (fun _=>rfl)
 | 36=>.st [30,35,2] (fun t=>⟨t.1,t.2.1,t.2.2.1⟩) (fun x=>(x.p,x.it,x.ok,())) (fun _=>rfl)
 | 37=>.st [1,1,0,35] (fun t=>⟨t.1,t.2.1,t.2.2.1,t.2.2.2.1⟩) (fun x=>(x.ref,x.by_,x.time,x.item,())) (fun _=>rfl)
 | 38=>.sl 37
 | 39=>.sl 4
 | 40=>.sl 39
 | 41=>.sl 3
 | 42=>.arr 2 0
 | 43=>.st [0,0,0] (fun t=>⟨t.1,t.2.1,t.2.2.1⟩) (fun x=>(x.i,x.j,x.w,())) (fun _=>rfl)
 | 44=>.sl 43
 | 45=>.arr 2 1
 | 46=>.sl 45
 | 47=>.st [0,0,0,1,2] (fun t=>⟨t.1,t.2.1,t.2.2.1,t.2.2.2.1,t.2.2.2.2.1⟩) (fun x=>(x.wagon,x.place,x.var,x.ref,x.stay,())) (fun _=>rfl)
 | 48=>.sl 47
 | 49=>.st [0,44,46,48] (fun t=>⟨t.1,t.2.1,t.2.2.1,t.2.2.2.1⟩) (fun x=>(x.vars,x.bounds,x.why,x.events,())) (fun _=>rfl)
 | 50=>.st [49] (fun t=>⟨t.1⟩) (fun x=>(x.problem,())) (fun _=>rfl)
 | 51=>.st [0,0] (fun t=>⟨t.1,t.2.1⟩) (fun x=>(x.railway,x.km,())) (fun _=>rfl)
 | 52=>.sl 51
 | 53=>.int .u8
 | 54=>.st [0,0,1,2,0,2,0,2] (fun t=>⟨t.1,t.2.1,t.2.2.1,t.2.2.2.1,t.2.2.2.2.1,t.2.2.2.2.2.1,t.2.2.2.2.2.2.1,t.2.2.2.2.2.2.2.1⟩) (fun x=>(x.place,x.time,x.ref,x.second,x.from_,x.stay,x.reader,x.covers,())) (fun _=>rfl)
 | 55=>.sl 54
 | 56=>.int .u16
 | 57=>.sl 56
 | 58=>.int .u32
 | 59=>.st [0,0,0,0,0] (fun t=>⟨t.1,t.2.1,t.2.2.1,t.2.2.2.1,t.2.2.2.2.1⟩) (fun x=>(x.wagon,x.place,x.gap,x.kind,x.reader,())) (fun _=>rfl)
 | 60=>.sl 59
 | 61=>.sl 5
 | 62=>.st [5,5,38,61,5] (fun t=>⟨t.1,t.2.1,t.2.2.1,t.2.2.2.1,t.2.2.2.2.1⟩) (fun x=>(x.place,x.time,x.reports,x.truth,x.skew,())) (fun _=>rfl)
 | _+63=>.st [] (fun _=>()) (fun _=>()) (fun _=>rfl)
def TZ :(c:Nat)->TT c
 | 0=>(default:Int)
 | 1=>(default:Ref)
 | 2=>(default:Bool)
 | 3=>(default:z0a)
 | 4=>(default:z6)
 | 5=>(default :(List Int))
 | 6=>(default:z67)
 | 7=>(default :(List z67))
 | 8=>(default:Edge)
 | 9=>(default :(List Edge))
 | 10=>(default:z8)
 | 11=>(default:Int)
 | 12=>(default:z2b)
 | 13=>(default :(List z2b))
 | 14=>(default:zjs)
 | 15=>(default :(List zjs))
 | 16=>(default:Swap)
 | 17=>(default :(List Swap))
 | 18=>(default:Wash)
 | 19=>(default :(List Wash))
 | 20=>(default:z93)
 | 21=>(default:z1u)
 | 22=>(default :(List z1u))
 | 23=>(default:zcr)
 | 24=>(default :(List zcr))
 | 25=>(default:Span)
 | 26=>(default :(Nat->Span))
 | 27=>(default:z3n)
 | 28=>(default:z3w)
 | 29=>(default :(List z3w))
 | 30=>(default:Pool)
 | 31=>(default :(Nat->Bool))
 | 32=>(default:ByteArray)
 | 33=>(default:Part)
 | 34=>(default :(List Part))
 | 35=>(default:Item)
 | 36=>(default:zf)
 | 37=>(default:zc)
 | 38=>(default :(List zc))
 | 39=>(default :(List z6))
 | 40=>(default :(List (List z6)))
 | 41=>(default :(List z0a))
 | 42=>(default :(Nat->Int))
 | 43=>(default:ze)
 | 44=>(default :(List ze))
 | 45=>(default :(Nat->Ref))
 | 46=>(default :(List (Nat->Ref)))
 | 47=>(default:z1n)
 | 48=>(default :(List z1n))
 | 49=>(default:z0w)
 | 50=>(default:zd8)
 | 51=>(default:z3y)
 | 52=>(default :(List z3y))
 | 53=>(default:Int)
 | 54=>(default:z9r)
 | 55=>(default :(List z9r))
 | 56=>(default:Int)
 | 57=>(default :(List Int))
 | 58=>(default:Int)
 | 59=>(default:z0d)
 | 60=>(default :(List z0d))
 | 61=>(default :(List (List Int)))
 | 62=>(default:zco)
 | _+63=>()
def TC (t:Nat):Nat:=(lk [(2,0),(3,0),(4,2),(5,53),(6,53),(9,32),(10,32),(11,32),(12,11),(22,7),(23,9),(25,10),(26,13),(27,15),(28,17),(29,19),(31,20),(32,22),(33,24),(34,29),(36,30),(37,38),(39,25),(42,44),(43,46),(44,48),(46,49),(47,0),(54,41),(58,1),(59,34),(61,35),(63,37),(66,5),(68,11),(70,57),(71,60),(77,59),(78,61),(80,62),(87,47),(91,3),(94,43),(95,40),(99,50),(101,39),(103,4),(105,21),(108,45),(115,55),(120,54),(124,26),(126,27),(128,28),(133,14),(134,56),(148,6),(150,8),(152,12),(154,23),(168,52),(172,51),(178,16),(182,36),(190,42),(195,31),(197,18),(201,11),(222,0),(229,58),(231,33),(244,11),(265,53),(266,53)] t).getD 63
def TV:TE:=⟨TT,TD,TZ,TC,fun c=>match c with | 0=>rfl | 1=>rfl | 2=>rfl | 3=>rfl | 4=>rfl | 5=>rfl | 6=>rfl | 7=>rfl | 8=>rfl | 9=>rfl | 10=>rfl | 11=>rfl | 12=>rfl | 13=>rfl | 14=>rfl | 15=>rfl | 16=>rfl | 17=>rfl | 18=>rfl | 19=>rfl | 20=>rfl | 21=>rfl | 22=>rfl | 23=>rfl | 24=>rfl | 25=>rfl | 26=>rfl | 27=>rfl | 28=>rfl | 29=>rfl | 30=>rfl | 31=>rfl | 32=>rfl | 33=>rfl | 34=>rfl | 35=>rfl | 36=>rfl | 37=>rfl | 38=>rfl | 39=>rfl | 40=>rfl | 41=>rfl | 42=>rfl | 43=>rfl | 44=>rfl | 45=>rfl | 46=>rfl | 47=>rfl | 48=>rfl | 49=>rfl | 50=>rfl | 51=>rfl | 52=>rfl | 53=>rfl | 54=>rfl | 55=>rfl | 56=>rfl | 57=>rfl | 58=>rfl | 59=>rfl | 60=>rfl | 61=>rfl | 62=>rfl | _+63=>rfl⟩
def cmpI (a b:Int):Int:=if a<b then -1 else if b<a then 1 else 0
def ordB (b:Bool):Int:=if b=true then 1 else 0
def or5 (a b c d e:Int):Int:=if a≠0 then a else if b≠0 then b else if c≠0 then c else if d≠0 then d else e
def cfEv (a b:z6):Int:=or5 (cmpI a.visit.early b.visit.early) (cmpI a.visit.ref.railway b.visit.ref.railway) (cmpI a.visit.ref.no b.visit.ref.no) (ordB a.second-ordB b.second) (a.report-b.report)
def okEv (e:z6):Bool:=decide (0<=e.report/\e.report<1000000)
def sortEv (l:List z6):Option (List z6):=zyj okEv cfEv l
def zj6 (l:List Int):Option (List Int):=zko l
def z82 (φ:Nat) (x1:Int) (x2:Int):Option (Int×Unit):=(if((x1:Int) !=x1)=true then(if((x2:Int) !=x2)=true then(some (0,())) else(some ((-1),()))) else(if((x2:Int) !=x2)=true then(some (1,())) else(if(decide ((x1:Int)<x2))=true then(some ((-1),())) else(if(decide ((x2:Int)<x1))=true then(some (1,())) else(some (0,()))))))
def zch (φ:Nat):Fsp TV:=⟨[0,0],[.val 0],fun z=>z82 φ z.1 z.2.1⟩
def za8 (φ:Nat) (x1:Bool):Option (Int×Unit):=(if x1=true then(some (1,())) else(some (0,())))
def zd4 (φ:Nat):Fsp TV:=⟨[2],[.val 0],fun z=>za8 φ z.1⟩
def zh7 (φ:Nat):Nat->Int->(List Int)->Int->Int->Option (Int×Unit)
 | 0,_,_,_,_=>none
 | n6+1,x2,x3,x4,x5=>(if(decide ((x5:Int)<x4))=true then(ck ((0:Int)<=x5/\x5 <(x3.length:Int)) (if(((gt x3 x5):Int) !=x2)=true then(some ((gt x3 x5),())) else((zh7 φ n6) x2 x3 x4 (W (x5+1))))) else(some (x2,())))
def zwm (φ:Nat) (x1 :(List Int)):Option (Int×Unit):=(zh7 φ φ 0 x1 (x1.length:Int) 0)
def zr0 (φ:Nat):Fsp TV:=⟨[5],[.val 0],fun z=>zwm φ z.1⟩
def z87 (φ:Nat) (x1:z6) (x2:z6):Option (Int×Unit):=((z82 φ x1.visit.early x2.visit.early).bind fun y3=>((z82 φ x1.visit.ref.railway x2.visit.ref.railway).bind fun y4=>((z82 φ x1.visit.ref.no x2.visit.ref.no).bind fun y5=>((za8 φ x1.second).bind fun y6=>((za8 φ x2.second).bind fun y7=>((zwm φ ([y3.1,y4.1,y5.1,(W (y6.1-y7.1)),(W (x1.report-x2.report))])).bind fun y8=>(some (y8.1,()))))))))
def zdd (φ:Nat):Fsp TV:=⟨[4,4],[.val 0],fun z=>z87 φ z.1 z.2.1⟩
def zgn (φ:Nat):Option (Pool×Unit):=(some ((⟨(⟨[(⟨2,0,-1⟩:z67),(⟨4,0,-1⟩:z67)],[(⟨0,1,0,30,20⟩:Edge)]⟩:z8),(⟨[(⟨0,0,0,0,0,0,1,0⟩:z2b)],[(⟨0,0,0,0,0⟩:zjs)],([]:List Swap),([]:List Wash)⟩:z93),[(⟨1,-5,10⟩:z1u)],[(⟨1⟩:zcr)],[(⟨4,(⟨fun _=>(default:Span),([]:List Int)⟩:z3n)⟩:z3w)]⟩:Pool),()))
def zag (φ:Nat):Fsp TV:=⟨[],[.val 30],fun z=>zgn φ⟩
def z9l (φ:Nat) (x1:z67):Option (Bool×Unit):=(if((((decide ((x1.kind:Int)<1))||(decide ((5:Int)<x1.kind)))||(decide ((x1.railway:Int)<0)))||(decide ((16:Int)<=x1.railway)))=true then(some (false,())) else(if((x1.kind:Int) !=3)=true then(some (((x1.other:Int)==(-1)),())) else(some ((((decide ((0:Int)<=x1.other))&&(decide ((x1.other:Int)<16)))&&((x1.other:Int) !=x1.railway)),()))))
def zaj (φ:Nat):Fsp TV:=⟨[6],[.val 2],fun z=>z9l φ z.1⟩
def z1k (φ:Nat):Nat->Int->(List Edge)->Int->Int->Option (Int×Unit)
 | 0,_,_,_,_=>none
 | n13+1,x9,x10,x11,x12=>(if(decide ((x12:Int)<x11))=true then(ck ((0:Int)<=x12/\x12 <(x10.length:Int)) (if(((((((decide (((min2 ((min2 (min2 ((gt x10 x12).a) ((gt x10 x12).b)) ((gt x10 x12).railway))) ((gt x10 x12).km)):Int)<0))||(decide ((x9:Int)<=(max2 ((gt x10 x12).a) ((gt x10 x12).b)))))||(((gt x10 x12).a:Int)==(gt x10 x12).b))||(decide ((16:Int)<=(gt x10 x12).railway)))||(decide (((gt x10 x12).minutes:Int)<1)))||(decide ((100000:Int) <(gt x10 x12).minutes)))||(decide ((10000:Int) <(gt x10 x12).km)))=true then(some (1,())) else((z1k φ n13) x9 x10 x11 (W (x12+1))))) else(some (0,())))
def z2r (φ:Nat):Nat->Int->(List z67)->Int->Int->z8->Option (Int×Unit)
 | 0,_,_,_,_,_=>none
 | n7+1,x2,x3,x4,x5,x6=>(if(decide ((x5:Int)<x4))=true then(ck ((0:Int)<=x5/\x5 <(x3.length:Int)) ((z9l φ (gt x3 x5)).bind fun y8=>(if(!y8.1)=true then(some (1,())) else((z2r φ n7) x2 x3 x4 (W (x5+1)) x6)))) else(z1k φ φ x2 x6.edges (x6.edges.length:Int) 0))
def z3z (φ:Nat) (x1:z8):Option (Int×Unit):=(if((decide ((512:Int) <(x1.places.length:Int)))||(decide ((2048:Int) <(x1.edges.length:Int))))=true then(some (2,())) else(z2r φ φ (x1.places.length:Int) x1.places (x1.places.length:Int) 0 x1))
def z3k (φ:Nat):Fsp TV:=⟨[10],[.val 0],fun z=>z3z φ z.1⟩
def zm (φ:Nat) (x1:Int) (x2:Int) (x3:Int):Option (Bool×Unit):=(some (((decide ((x2:Int)<=x1))&&(decide ((x1:Int)<=x3))),()))
def z6x (φ:Nat):Fsp TV:=⟨[0,0,0],[.val 2],fun z=>zm φ z.1 z.2.1 z.2.2.1⟩
def z1q (φ:Nat) (k7 :((List z2b)->Int->Int->z93->Int->Option (Int×Unit))):Nat->(List z2b)->Int->Int->Int->Int->z93->Int->z2b->(List Int)->Option (Int×Unit)
 | 0,_,_,_,_,_,_,_,_,_=>none
 | n17+1,x8,x9,x10,x11,x12,x13,x14,x15,x16=>(if(decide ((x12:Int)<x11))=true then(ck ((0:Int)<=x12/\x12 <(x16.length:Int)) ((zm φ (gt x16 x12) 0 1000000).bind fun y18=>(if(!y18.1)=true then((z1q φ k7 n17) x8 x9 x10 x11 (W (x12+1)) x13 1 x15 x16) else((z1q φ k7 n17) x8 x9 x10 x11 (W (x12+1)) x13 x14 x15 x16)))) else((zm φ x15.gauge 0 7).bind fun y19=>((z00 (default,()) (y19.1=true) (zm φ x15.life 1 1073741824)).bind fun y20=>((z00 (default,()) ((y19.1&&y20.1)=true) (zm φ x15.floor 0 100)).bind fun y21=>(if(!((y19.1&&y20.1)&&y21.1))=true then(k7 x8 x9 (W (x10+1)) x13 1) else(k7 x8 x9 (W (x10+1)) x13 x14))))))
def zp (φ:Nat):Nat->(List Wash)->Int->Int->Int->(Nat->Bool)->Option (Int×Unit)
 | 0,_,_,_,_,_=>none
 | n49+1,x44,x45,x46,x47,x48=>(if(decide ((x46:Int)<x45))=true then(ck ((0:Int)<=x46/\x46 <(x44.length:Int)) ((zm φ ((gt x44 x46).from_) 0 63).bind fun y50=>((z00 (default,()) (y50.1=true) (zm φ ((gt x44 x46).to) 0 63)).bind fun y51=>((z00 (default,()) (((y50.1&&y51.1)&&(((gt x44 x46).from_:Int) !=(gt x44 x46).to))=true) (zm φ ((gt x44 x46).minutes) 0 100000)).bind fun y52=>(if(!(((y50.1&&y51.1)&&(((gt x44 x46).from_:Int) !=(gt x44 x46).to))&&y52.1))=true then(if(((y50.1&&y51.1)&&(((gt x44 x46).from_:Int) !=(gt x44 x46).to))&&y52.1)=true then(ck ((0:Int)<=(gt x44 x46).from_/\(gt x44 x46).from_ <(64:Int)) (ck ((0:Int)<=(gt x44 x46).to/\(gt x44 x46).to <(64:Int)) (if(!(!(x48 (((((gt x44 x46).from_:Int).toNat*64) +((gt x44 x46).to:Int).toNat)))))=true then(ck ((0:Int)<=(gt x44 x46).from_/\(gt x44 x46).from_ <(64:Int)) (ck ((0:Int)<=(gt x44 x46).to/\(gt x44 x46).to <(64:Int)) ((zp φ n49) x44 x45 (W (x46+1)) 1 ((upd x48 (((((gt x44 x46).from_:Int).toNat*64) +((gt x44 x46).to:Int).toNat)) true))))) else(ck ((0:Int)<=(gt x44 x46).from_/\(gt x44 x46).from_ <(64:Int)) (ck ((0:Int)<=(gt x44 x46).to/\(gt x44 x46).to <(64:Int)) ((zp φ n49) x44 x45 (W (x46+1)) 1 ((upd x48 (((((gt x44 x46).from_:Int).toNat*64) +((gt x44 x46).to:Int).toNat)) true)))))))) else((zp φ n49) x44 x45 (W (x46+1)) 1 x48)) else(if(((y50.1&&y51.1)&&(((gt x44 x46).from_:Int) !=(gt x44 x46).to))&&y52.1)=true then(ck ((0:Int)<=(gt x44 x46).from_/\(gt x44 x46).from_ <(64:Int)) (ck ((0:Int)<=(gt x44 x46).to/\(gt x44 x46).to <(64:Int)) (if(!(!(x48 (((((gt x44 x46).from_:Int).toNat*64) +((gt x44 x46).to:Int).toNat)))))=true then(ck ((0:Int)<=(gt x44 x46).from_/\(gt x44 x46).from_ <(64:Int)) (ck ((0:Int)<=(gt x44 x46).to/\(gt x44 x46).to <(64:Int)) ((zp φ n49) x44 x45 (W (x46+1)) 1 ((upd x48 (((((gt x44 x46).from_:Int).toNat*64) +((gt x44 x46).to:Int).toNat)) true))))) else(ck ((0:Int)<=(gt x44 x46).from_/\(gt x44 x46).from_ <(64:Int)) (ck ((0:Int)<=(gt x44 x46).to/\(gt x44 x46).to <(64:Int)) ((zp φ n49) x44 x45 (W (x46+1)) x47 ((upd x48 (((((gt x44 x46).from_:Int).toNat*64) +((gt x44 x46).to:Int).toNat)) true)))))))) else((zp φ n49) x44 x45 (W (x46+1)) x47 x48))))))) else(some (x47,())))
def z0s (φ:Nat):Nat->(List Swap)->Int->Int->z93->Int->Option (Int×Unit)
 | 0,_,_,_,_,_=>none
 | n40+1,x35,x36,x37,x38,x39=>(if(decide ((x37:Int)<x36))=true then(ck ((0:Int)<=x37/\x37 <(x35.length:Int)) ((zm φ ((gt x35 x37).wanted) 0 (W ((x38.types.length:Int)-1))).bind fun y41=>((z00 (default,()) (y41.1=true) (zm φ ((gt x35 x37).given) 0 (W ((x38.types.length:Int)-1)))).bind fun y42=>((z00 (default,()) (((y41.1&&y42.1)&&(((gt x35 x37).wanted:Int) !=(gt x35 x37).given))=true) (zm φ ((gt x35 x37).cost) 0 1000000000)).bind fun y43=>(if(!(((y41.1&&y42.1)&&(((gt x35 x37).wanted:Int) !=(gt x35 x37).given))&&y43.1))=true then((z0s φ n40) x35 x36 (W (x37+1)) x38 1) else((z0s φ n40) x35 x36 (W (x37+1)) x38 x39)))))) else(zp φ φ x38.washes (x38.washes.length:Int) 0 x39 (fun _=>(default:Bool))))
def z0c (φ:Nat):Nat->(List zjs)->Int->Int->z93->Int->Option (Int×Unit)
 | 0,_,_,_,_,_=>none
 | n27+1,x22,x23,x24,x25,x26=>(if(decide ((x24:Int)<x23))=true then(ck ((0:Int)<=x24/\x24 <(x22.length:Int)) ((zm φ ((gt x22 x24).type_) 0 (W ((x25.types.length:Int)-1))).bind fun y28=>((z00 (default,()) (y28.1=true) (zm φ ((gt x22 x24).owner) 0 63)).bind fun y29=>((z00 (default,()) ((y28.1&&y29.1)=true) (zm φ ((gt x22 x24).home) 0 511)).bind fun y30=>(if(!((y28.1&&y29.1)&&y30.1))=true then((zm φ ((gt x22 x24).built) 0 1073741824).bind fun y31=>((z00 (default,()) (y31.1=true) (zm φ ((gt x22 x24).worth) 0 1099511627776)).bind fun y32=>(if(!(y31.1&&y32.1))=true then((z0c φ n27) x22 x23 (W (x24+1)) x25 1) else((z0c φ n27) x22 x23 (W (x24+1)) x25 1)))) else((zm φ ((gt x22 x24).built) 0 1073741824).bind fun y33=>((z00 (default,()) (y33.1=true) (zm φ ((gt x22 x24).worth) 0 1099511627776)).bind fun y34=>(if(!(y33.1&&y34.1))=true then((z0c φ n27) x22 x23 (W (x24+1)) x25 1) else((z0c φ n27) x22 x23 (W (x24+1)) x25 x26))))))))) else(z0s φ φ x25.swaps (x25.swaps.length:Int) 0 x25 x26))
def z3b (φ:Nat):Nat->(List z2b)->Int->Int->z93->Int->Option (Int×Unit)
 | 0,_,_,_,_,_=>none
 | n7+1,x2,x3,x4,x5,x6=>(if(decide ((x4:Int)<x3))=true then(ck ((0:Int)<=x4/\x4 <(x2.length:Int)) (z1q φ (z3b φ n7) φ x2 x3 x4 (([(gt x2 x4).load,(gt x2 x4).tare,(gt x2 x4).length,(gt x2 x4).brake]).length:Int) 0 x5 x6 (gt x2 x4) ([(gt x2 x4).load,(gt x2 x4).tare,(gt x2 x4).length,(gt x2 x4).brake]))) else(z0c φ φ x5.wagons (x5.wagons.length:Int) 0 x5 x6))
def zd7 (φ:Nat) (x1:z93):Option (Int×Unit):=(if((((decide ((32:Int) <(x1.types.length:Int)))||(decide ((4096:Int) <(x1.wagons.length:Int))))||(decide ((1024:Int) <(x1.swaps.length:Int))))||(decide ((4096:Int) <(x1.washes.length:Int))))=true then(some (2,())) else(z3b φ φ x1.types (x1.types.length:Int) 0 x1 0))
def zbw (φ:Nat):Fsp TV:=⟨[20],[.val 0],fun z=>zd7 φ z.1⟩
def z1x (φ:Nat):Nat->Int->(List Int)->Int->Int->Option (Int×Unit)
 | 0,_,_,_,_=>none
 | n10+1,x6,x7,x8,x9=>(if(decide ((x9:Int)<x8))=true then(ck ((0:Int)<=x9/\x9 <(x7.length:Int)) (if((decide (((gt x7 x9):Int)<=x6))||(decide ((745654:Int) <(gt x7 x9))))=true then(some (1,())) else((z1x φ n10) (gt x7 x9) x7 x8 (W (x9+1))))) else(some (0,())))
def z2f (φ:Nat):Nat->(Nat->Span)->Int->z3n->Option (Int×Unit)
 | 0,_,_,_=>none
 | n5+1,x2,x3,x4=>(if(decide ((x3:Int)<7))=true then(ck ((0:Int)<=x3/\x3 <(7:Int)) (if(((decide (((x2 (x3:Int).toNat).from_:Int)<0))||(decide (((x2 (x3:Int).toNat).to:Int) <(x2 (x3:Int).toNat).from_)))||(decide ((1440:Int) <(x2 (x3:Int).toNat).to)))=true then(some (1,())) else((z2f φ n5) x2 (W (x3+1)) x4))) else(z1x φ φ (-1) x4.holidays (x4.holidays.length:Int) 0))
def z86 (φ:Nat) (x1:z3n):Option (Int×Unit):=(z2f φ φ x1.open_ 0 x1)
def z8s (φ:Nat):Fsp TV:=⟨[27],[.val 0],fun z=>z86 φ z.1⟩
def z61 (φ:Nat) (x1:Int) (x2:Int):Option (Int×Int×Unit):=(if 0<=(32:Int) then(if 0<=(32:Int) then(if 0<=(32:Int) then(if 0<=(32:Int) then(if 0<=(32:Int) then(some ((U ((U ((U (((x1:Int).fdiv (2 ^ (min (32:Int).toNat 64))) *((x2:Int).fdiv (2 ^ (min (32:Int).toNat 64))))) +(((U ((U (((x1:Int).fdiv (2 ^ (min (32:Int).toNat 64))) *(U ((BitVec.ofInt 64 x2&&& BitVec.ofInt 64 4294967295).toNat)))) +(((U ((U ((BitVec.ofInt 64 x1&&& BitVec.ofInt 64 4294967295).toNat)) *(U ((BitVec.ofInt 64 x2&&& BitVec.ofInt 64 4294967295).toNat)))):Int).fdiv (2 ^ (min (32:Int).toNat 64))))):Int).fdiv (2 ^ (min (32:Int).toNat 64))))) +(((U ((U ((BitVec.ofInt 64 (U ((U (((x1:Int).fdiv (2 ^ (min (32:Int).toNat 64))) *(U ((BitVec.ofInt 64 x2&&& BitVec.ofInt 64 4294967295).toNat)))) +(((U ((U ((BitVec.ofInt 64 x1&&& BitVec.ofInt 64 4294967295).toNat)) *(U ((BitVec.ofInt 64 x2&&& BitVec.ofInt 64 4294967295).toNat)))):Int).fdiv (2 ^ (min (32:Int).toNat 64)))))&&& BitVec.ofInt 64 4294967295).toNat)) +(U ((U ((BitVec.ofInt 64 x1&&& BitVec.ofInt 64 4294967295).toNat)) *((x2:Int).fdiv (2 ^ (min (32:Int).toNat 64))))))):Int).fdiv (2 ^ (min (32:Int).toNat 64))))),(U (x1*x2)),())) else none) else none) else none) else none) else none)
def zax (φ:Nat):Fsp TV:=⟨[11,11],[.val 11,.val 11],fun z=>z61 φ z.1 z.2.1⟩
def z19 (φ:Nat) (x8:Int) (x9:Int):Option (Int×Unit):=(ck ((0:Int)<=(IntKind.wrap .u8 (x8))/\(IntKind.wrap .u8 (x8)) <(zt.size:Int)) (some ((W (64 -(W (x9 +(W ((z8l zt (IntKind.wrap .u8 (x8))))))))),())))
def z1h (φ:Nat) (x5:Int) (x6:Int):Option (Int×Unit):=(if(decide ((256:Int)<=x5))=true then(if 0<=(8:Int) then(z19 φ (((x5:Int).fdiv (2 ^ (min (8:Int).toNat 64)))) (W (x6+8))) else none) else(z19 φ x5 x6))
def z1i (φ:Nat) (x2:Int) (x3:Int):Option (Int×Unit):=(if(decide ((65536:Int)<=x2))=true then(if 0<=(16:Int) then(z1h φ (((x2:Int).fdiv (2 ^ (min (16:Int).toNat 64)))) (W (x3+16))) else none) else(z1h φ x2 x3))
def z2o (φ:Nat) (x1:Int):Option (Int×Unit):=(if(decide ((4294967296:Int)<=x1))=true then(if 0<=(32:Int) then(z1i φ (((x1:Int).fdiv (2 ^ (min (32:Int).toNat 64)))) 32) else none) else(z1i φ x1 0))
def z4w (φ:Nat):Fsp TV:=⟨[11],[.val 0],fun z=>z2o φ z.1⟩
def z5f (φ:Nat) (x14:Int) (x15:Int) (x16:Int) (x17:Int) (x18:Int) (x19:Int):Option (Int×Int×Unit):=(ck (0<=x15) (some ((U ((U (x17*4294967296))+x19)),(((U ((U ((U (x18*4294967296))+x16)) -(U (x19*x14)))):Int).fdiv (2 ^ (min (x15:Int).toNat 64))),())))
def z5j (φ:Nat):Nat->Int->Int->Int->Int->Int->Int->Int->Int->Int->Option (Int×Int×Unit)
 | 0,_,_,_,_,_,_,_,_,_=>none
 | n30+1,x21,x22,x23,x24,x25,x26,x27,x28,x29=>(if((decide ((4294967296:Int)<=x29))||(decide (((U ((U (4294967296*x27))+x25)):Int) <(U (x29*x24)))))=true then(if(decide ((4294967296:Int)<=(U (x27+x23))))=true then(z5f φ x21 x22 x25 x26 x28 (U (x29-1))) else((z5j φ n30) x21 x22 x23 x24 x25 x26 (U (x27+x23)) x28 (U (x29-1)))) else(z5f φ x21 x22 x25 x26 x28 x29))
def z5l (φ:Nat) (x5:Int) (x6:Int) (x7:Int) (x8:Int) (x9:Int) (x10:Int) (x11:Int) (x12:Int):Option (Int×Int×Unit):=(ck (x7≠0) (z5j φ φ x5 x6 x7 x8 x11 x12 ((U ((U ((U ((U (x9*4294967296))+x10)) -(U (x12*x5)))) -(U ((U (((U ((U ((U (x9*4294967296))+x10)) -(U (x12*x5)))):Int).tdiv x7))*x7))))) ((U ((U ((U (x9*4294967296))+x10)) -(U (x12*x5))))) ((U (((U ((U ((U (x9*4294967296))+x10)) -(U (x12*x5)))):Int).tdiv x7)))))
def z5n (φ:Nat):Nat->Int->Int->Int->Int->Int->Int->Int->Int->Int->Option (Int×Int×Unit)
 | 0,_,_,_,_,_,_,_,_,_=>none
 | n40+1,x31,x32,x33,x34,x35,x36,x37,x38,x39=>(if((decide ((4294967296:Int)<=x38))||(decide (((U ((U (4294967296*x39))+x36)):Int) <(U (x38*x34)))))=true then(if(decide ((4294967296:Int)<=(U (x39+x33))))=true then(z5l φ x31 x32 x33 x34 x35 x36 x37 (U (x38-1))) else((z5n φ n40) x31 x32 x33 x34 x35 x36 x37 (U (x38-1)) (U (x39+x33)))) else(z5l φ x31 x32 x33 x34 x35 x36 x37 x38))
def z63 (φ:Nat) (x1:Int) (x2:Int) (x3:Int):Option (Int×Int×Unit):=(if((x3:Int)==0)=true then none else(if(decide ((x3:Int)<=x1))=true then none else(if((x1:Int)==0)=true then(ck (x3≠0) (ck (x3≠0) (some ((U ((x2:Int).tdiv x3)),((x2:Int).tmod x3),())))) else((z2o φ x3).bind fun y4=>(ck (0<=(U (y4.1))) (if 0<=(32:Int) then(ck (0<=(U (y4.1))) (ck (0<=(U (64 -(U (y4.1))))) (ck (0<=(U (y4.1))) (if 0<=(32:Int) then(ck ((((U (x3*2 ^ (min ((U (y4.1)):Int).toNat 64))):Int).fdiv (2 ^ (min (32:Int).toNat 64)))≠0) (z5n φ φ ((U (x3*2 ^ (min ((U (y4.1)):Int).toNat 64)))) (U (y4.1)) ((((U (x3*2 ^ (min ((U (y4.1)):Int).toNat 64))):Int).fdiv (2 ^ (min (32:Int).toNat 64)))) ((U ((BitVec.ofInt 64 (U (x3*2 ^ (min ((U (y4.1)):Int).toNat 64)))&&& BitVec.ofInt 64 4294967295).toNat))) ((U ((BitVec.ofInt 64 (U (x1*2 ^ (min ((U (y4.1)):Int).toNat 64)))||| BitVec.ofInt 64 ((x2:Int).fdiv (2 ^ (min ((U (64 -(U (y4.1)))):Int).toNat 64)))).toNat))) ((((U (x2*2 ^ (min ((U (y4.1)):Int).toNat 64))):Int).fdiv (2 ^ (min (32:Int).toNat 64)))) ((U ((BitVec.ofInt 64 (U (x2*2 ^ (min ((U (y4.1)):Int).toNat 64)))&&& BitVec.ofInt 64 4294967295).toNat))) ((U (((U ((BitVec.ofInt 64 (U (x1*2 ^ (min ((U (y4.1)):Int).toNat 64)))||| BitVec.ofInt 64 ((x2:Int).fdiv (2 ^ (min ((U (64 -(U (y4.1)))):Int).toNat 64)))).toNat)):Int).tdiv (((U (x3*2 ^ (min ((U (y4.1)):Int).toNat 64))):Int).fdiv (2 ^ (min (32:Int).toNat 64)))))) ((U ((U ((BitVec.ofInt 64 (U (x1*2 ^ (min ((U (y4.1)):Int).toNat 64)))||| BitVec.ofInt 64 ((x2:Int).fdiv (2 ^ (min ((U (64 -(U (y4.1)))):Int).toNat 64)))).toNat)) -(U ((U (((U ((BitVec.ofInt 64 (U (x1*2 ^ (min ((U (y4.1)):Int).toNat 64)))||| BitVec.ofInt 64 ((x2:Int).fdiv (2 ^ (min ((U (64 -(U (y4.1)))):Int).toNat 64)))).toNat)):Int).tdiv (((U (x3*2 ^ (min ((U (y4.1)):Int).toNat 64))):Int).fdiv (2 ^ (min (32:Int).toNat 64))))) *(((U (x3*2 ^ (min ((U (y4.1)):Int).toNat 64))):Int).fdiv (2 ^ (min (32:Int).toNat 64)))))))))) else none)))) else none))))))
def zei (φ:Nat):Fsp TV:=⟨[11,11,11],[.val 11,.val 11],fun z=>z63 φ z.1 z.2.1 z.2.2.1⟩
def z8g (φ:Nat) (k30 :(Int->Int->Int->Int->Int->Int->Option (Int×Unit))) (x55:Int) (x56:Int) (x57:Int) (x58:Int) (x59:Int) (x60:Int) (x61:Int) (x62:Int) (x63:Int) (x64:Int):Option (Int×Unit):=(ck ((0:Int)<=(IntKind.wrap .u8 (x55))/\(IntKind.wrap .u8 (x55)) <(zt.size:Int)) (ck (0<=(W ((W ((W (x56 +(W ((z8l zt (IntKind.wrap .u8 (x55)))))))-1))-x60))) (if(((U ((BitVec.ofInt 64 ((x63:Int).fdiv (2 ^ (min ((W ((W ((W (x56 +(W ((z8l zt (IntKind.wrap .u8 (x55)))))))-1))-x60)):Int).toNat 64)))&&& BitVec.ofInt 64 1).toNat)):Int)==1)=true then(ck (x64≠0) (ck (x64≠0) ((z61 φ ((x59:Int).tmod x64) ((x57:Int).tmod x64)).bind fun y66=>((z63 φ y66.1 y66.2.1 x64).bind fun y67=>(k30 x57 x58 y67.2.1 x61 (W (x62+1)) x64))))) else(k30 x57 x58 x59 x61 (W (x62+1)) x64))))
def z8f (φ:Nat) (k30 :(Int->Int->Int->Int->Int->Int->Option (Int×Unit))) (x44:Int) (x45:Int) (x46:Int) (x47:Int) (x48:Int) (x49:Int) (x50:Int) (x51:Int) (x52:Int) (x53:Int):Option (Int×Unit):=(if(decide ((256:Int)<=x44))=true then(if 0<=(8:Int) then(z8g φ k30 (((x44:Int).fdiv (2 ^ (min (8:Int).toNat 64)))) (W (x45+8)) x46 x47 x48 x49 x50 x51 x52 x53) else none) else(z8g φ k30 x44 x45 x46 x47 x48 x49 x50 x51 x52 x53))
def z2u (φ:Nat) (k30 :(Int->Int->Int->Int->Int->Int->Option (Int×Unit))) (x33:Int) (x34:Int) (x35:Int) (x36:Int) (x37:Int) (x38:Int) (x39:Int) (x40:Int) (x41:Int) (x42:Int):Option (Int×Unit):=(if(decide ((65536:Int)<=x33))=true then(if 0<=(16:Int) then(z8f φ k30 (((x33:Int).fdiv (2 ^ (min (16:Int).toNat 64)))) (W (x34+16)) x35 x36 x37 x38 x39 x40 x41 x42) else none) else(z8f φ k30 x33 x34 x35 x36 x37 x38 x39 x40 x41 x42))
def z0i (φ:Nat):Nat->Int->Int->Int->Int->Int->Int->Option (Int×Unit)
 | 0,_,_,_,_,_,_=>none
 | n30+1,x24,x25,x26,x27,x28,x29=>(if(decide ((x28:Int)<x27))=true then(ck (x29≠0) (ck (x29≠0) ((z61 φ ((x26:Int).tmod x29) ((x26:Int).tmod x29)).bind fun y31=>((z63 φ y31.1 y31.2.1 x29).bind fun y32=>(if(decide ((4294967296:Int)<=x25))=true then(if 0<=(32:Int) then(z2u φ (z0i φ n30) (((x25:Int).fdiv (2 ^ (min (32:Int).toNat 64)))) 32 x24 x25 y32.2.1 x28 x27 x28 x25 x29) else none) else(z2u φ (z0i φ n30) x25 0 x24 x25 y32.2.1 x28 x27 x28 x25 x29)))))) else(some (x26,())))
def z8o (φ:Nat) (x17:Int) (x18:Int) (x19:Int) (x20:Int) (x21:Int) (x22:Int):Option (Int×Unit):=(ck ((0:Int)<=(IntKind.wrap .u8 (x17))/\(IntKind.wrap .u8 (x17)) <(zt.size:Int)) (z0i φ φ x19 x20 x21 ((W (x18 +(W ((z8l zt (IntKind.wrap .u8 (x17)))))))) 0 x22))
def z8m (φ:Nat) (x10:Int) (x11:Int) (x12:Int) (x13:Int) (x14:Int) (x15:Int):Option (Int×Unit):=(if(decide ((256:Int)<=x10))=true then(if 0<=(8:Int) then(z8o φ (((x10:Int).fdiv (2 ^ (min (8:Int).toNat 64)))) (W (x11+8)) x12 x13 x14 x15) else none) else(z8o φ x10 x11 x12 x13 x14 x15))
def zaf (φ:Nat) (x3:Int) (x4:Int) (x5:Int) (x6:Int) (x7:Int) (x8:Int):Option (Int×Unit):=(if(decide ((65536:Int)<=x3))=true then(if 0<=(16:Int) then(z8m φ (((x3:Int).fdiv (2 ^ (min (16:Int).toNat 64)))) (W (x4+16)) x5 x6 x7 x8) else none) else(z8m φ x3 x4 x5 x6 x7 x8))
def zgz (φ:Nat) (x1:Int) (x2:Int):Option (Int×Unit):=(if(decide ((4294967296:Int)<=x2))=true then(if 0<=(32:Int) then(zaf φ (((x2:Int).fdiv (2 ^ (min (32:Int).toNat 64)))) 32 x1 x2 1 2305843009213690799) else none) else(zaf φ x2 0 x1 x2 1 2305843009213690799))
def zi7 (φ:Nat):Fsp TV:=⟨[11,11],[.val 11],fun z=>zgz φ z.1 z.2.1⟩
def zf6 (φ:Nat) (x1:Int):Option (Bool×Unit):=((z00 (default,()) (((decide ((2:Int)<=x1))&&(decide ((x1:Int)<2305843009213690799)))=true) (zgz φ x1 1152921504606845399)).bind fun y2=>(some ((((decide ((2:Int)<=x1))&&(decide ((x1:Int)<2305843009213690799)))&&((y2.1:Int)==1)),())))
def zeh (φ:Nat):Fsp TV:=⟨[11],[.val 2],fun z=>zf6 φ z.1⟩
def z0y (φ:Nat):Nat->Bool->(List z3w)->Int->Int->Option (Int×Unit)
 | 0,_,_,_,_=>none
 | n48+1,x44,x45,x46,x47=>(if(decide ((x47:Int)<x46))=true then(ck ((0:Int)<=x47/\x47 <(x45.length:Int)) ((z00 (default,()) (x44=false) (z86 φ ((gt x45 x47).calendar))).bind fun y49=>((z00 (default,()) ((x44||((y49.1:Int) !=0))=false) (zf6 φ ((gt x45 x47).key))).bind fun y50=>((z0y φ n48) (((x44||((y49.1:Int) !=0))||(!y50.1))) x45 x46 (W (x47+1)))))) else(if x44=true then(some (1,())) else(some (0,()))))
def z0z (φ:Nat):Nat->Int->Bool->(List Edge)->Int->Int->Pool->Option (Int×Unit)
 | 0,_,_,_,_,_,_=>none
 | n43+1,x37,x38,x39,x40,x41,x42=>(if(decide ((x41:Int)<x40))=true then(ck ((0:Int)<=x41/\x41 <(x39.length:Int)) ((z0z φ n43) x37 ((x38||(decide ((x37:Int)<=(gt x39 x41).railway)))) x39 x40 (W (x41+1)) x42)) else(z0y φ φ x38 x42.railways (x42.railways.length:Int) 0))
def z0x (φ:Nat):Nat->Int->Bool->(List z67)->Int->Int->Pool->Option (Int×Unit)
 | 0,_,_,_,_,_,_=>none
 | n36+1,x30,x31,x32,x33,x34,x35=>(if(decide ((x34:Int)<x33))=true then(ck ((0:Int)<=x34/\x34 <(x32.length:Int)) ((z0x φ n36) x30 (((x31||(decide ((x30:Int)<=(gt x32 x34).railway)))||(decide ((x30:Int)<=(gt x32 x34).other)))) x32 x33 (W (x34+1)) x35)) else(z0z φ φ x30 x31 x35.network.edges (x35.network.edges.length:Int) 0 x35))
def z11 (φ:Nat):Nat->(List z67)->Int->Bool->(List zjs)->Int->Int->Pool->Option (Int×Unit)
 | 0,_,_,_,_,_,_,_=>none
 | n29+1,x22,x23,x24,x25,x26,x27,x28=>(if(decide ((x27:Int)<x26))=true then(ck ((0:Int)<=x27/\x27 <(x25.length:Int)) ((z11 φ n29) x22 x23 ((x24||(decide (((x22.length:Int):Int)<=(gt x25 x27).home)))) x25 x26 (W (x27+1)) x28)) else(z0x φ φ x23 x24 x22 (x22.length:Int) 0 x28))
def z10 (φ:Nat):Nat->(List z67)->Int->Bool->(List zcr)->Int->Int->Pool->Option (Int×Unit)
 | 0,_,_,_,_,_,_,_=>none
 | n20+1,x13,x14,x15,x16,x17,x18,x19=>(if(decide ((x18:Int)<x17))=true then(ck ((0:Int)<=x18/\x18 <(x16.length:Int)) ((z00 (default,()) (x15=false) (zm φ ((gt x16 x18).place) 0 (W ((x13.length:Int)-1)))).bind fun y21=>(ck (((x15||(!y21.1))=false)->(0:Int)<=(gt x16 x18).place/\(gt x16 x18).place <(x13.length:Int)) ((z10 φ n20) x13 x14 (((x15||(!y21.1))||(((gt x13 ((gt x16 x18).place)).kind:Int) !=4))) x16 x17 (W (x18+1)) x19)))) else(z11 φ φ x13 x14 x15 x19.fleet.wagons (x19.fleet.wagons.length:Int) 0 x19))
def z1j (φ:Nat):Nat->(List z67)->Int->Bool->(List z1u)->Int->Int->Pool->Option (Int×Unit)
 | 0,_,_,_,_,_,_,_=>none
 | n11+1,x4,x5,x6,x7,x8,x9,x10=>(if(decide ((x9:Int)<x8))=true then(ck ((0:Int)<=x9/\x9 <(x7.length:Int)) ((z00 (default,()) (x6=false) (zm φ ((gt x7 x9).place) 0 (W ((x4.length:Int)-1)))).bind fun y12=>((z1j φ n11) x4 x5 (((((x6||(!y12.1))||(decide (((gt x7 x9).low:Int) <(-1000))))||(decide (((gt x7 x9).high:Int) <(gt x7 x9).low)))||(decide ((1000:Int) <(gt x7 x9).high)))) x7 x8 (W (x9+1)) x10))) else(z10 φ φ x4 x5 x6 x10.shippers (x10.shippers.length:Int) 0 x10))
def z2l (φ:Nat) (x1:Pool):Option (Int×Unit):=((z3z φ x1.network).bind fun y2=>(if((y2.1:Int) !=0)=true then(some (y2.1,())) else((zd7 φ x1.fleet).bind fun y3=>(if((y3.1:Int) !=0)=true then(some (y3.1,())) else(if(((decide ((256:Int) <(x1.readers.length:Int)))||(decide ((256:Int) <(x1.shippers.length:Int))))||(decide ((16:Int) <(x1.railways.length:Int))))=true then(some (2,())) else(z1j φ φ x1.network.places (x1.railways.length:Int) (((x1.railways.length:Int):Int)==0) x1.readers (x1.readers.length:Int) 0 x1))))))
def z2e (φ:Nat):Fsp TV:=⟨[30],[.val 0],fun z=>z2l φ z.1⟩
def z79 (φ:Nat) (x1:Item):Option (Bool×Unit):=(if(((x1.ref.railway:Int)==0)&&(((x1.ref.no:Int)==0)&&true))=true then(some (((x1.kind:Int) !=14),())) else(some (((((decide ((0:Int)<=x1.ref.railway))&&(decide ((x1.ref.railway:Int)<16)))&&(decide ((1:Int)<=x1.ref.no)))&&(decide ((x1.ref.no:Int)<=4096))),())))
def zad (φ:Nat):Fsp TV:=⟨[35],[.val 2],fun z=>z79 φ z.1⟩
def z5z (φ:Nat):Nat->(List Part)->Bool->(List Part)->Int->Int->Option (Bool×Unit)
 | 0,_,_,_,_,_=>none
 | n8+1,x3,x4,x5,x6,x7=>(if(decide ((x7:Int)<x6))=true then(ck ((0:Int)<=x7/\x7 <(x5.length:Int)) (if(((((decide (((gt x5 x7).kind:Int)<1))||(decide ((3:Int) <(gt x5 x7).kind)))||(decide (((gt x5 x7).serial:Int)<0)))||(decide ((1073741824:Int) <(gt x5 x7).serial)))||((gt x5 x7).fitted&&(!x4)))=true then(some (false,())) else((z5z φ n8) x3 x4 x5 x6 (W (x7+1))))) else(some ((decide (((x3.length:Int):Int)<=16)),())))
def zeq (φ:Nat) (x1 :(List Part)) (x2:Bool):Option (Bool×Unit):=(z5z φ φ x1 x2 x1 (x1.length:Int) 0)
def zg8 (φ:Nat):Fsp TV:=⟨[34,2],[.val 2],fun z=>zeq φ z.1 z.2.1⟩
def zd (φ:Nat) (x3:zf):Option (Bool×Unit):=(some ((((((((((((((x3.ok&&((x3.it.wagon:Int)==0))&&((x3.it.place:Int)==0))&&((x3.it.other:Int)==0))&&((x3.it.number:Int)==0))&&((x3.it.from_:Int)==0))&&((x3.it.to:Int)==0))&&((x3.it.code:Int)==0))&&((x3.it.dest:Int)==0))&&((x3.it.class_:Int)==0))&&((x3.it.weight:Int)==0))&&((x3.it.amount:Int)==0))&&(x3.it.text==(⟨#[]⟩:ByteArray)))&&(((x3.it.parts.length:Int):Int)==0)),()))
def z3s (φ:Nat) (x5:Int) (x6:zf) (x7:z67):Option (Bool×Unit):=(zd φ ((⟨x6.p,(⟨x6.it.kind,x6.it.ref,x6.it.wagon,0,x6.it.other,x6.it.number,0,0,x6.it.code,x6.it.dest,x6.it.class_,x6.it.weight,x6.it.amount,x6.it.text,x6.it.parts⟩:Item),(((((x6.ok&&((x7.kind:Int) !=0))&&(((x5:Int)==0)||((x7.kind:Int)==x5)))&&(decide (((max2 x6.it.from_ 0):Int)<=x6.it.to)))&&(decide ((x6.it.to:Int)<=1073741824)))&&(decide ((0:Int)<=x6.it.from_)))&&(decide ((x6.it.from_:Int)<=1073741824))⟩:zf)))
def z36 (φ:Nat) (x13:Int) (x14:zf) (x15:z67):Option (Bool×Unit):=(zd φ ((⟨x14.p,(⟨x14.it.kind,x14.it.ref,x14.it.wagon,0,0,x14.it.number,0,x14.it.to,0,x14.it.dest,x14.it.class_,x14.it.weight,x14.it.amount,x14.it.text,x14.it.parts⟩:Item),((((((x14.ok&&((x15.kind:Int) !=0))&&(((x13:Int)==0)||((x15.kind:Int)==x13)))&&(((x14.it.other:Int)==x15.railway)||((x14.it.other:Int)==x15.other)))&&(decide ((0:Int)<=x14.it.from_)))&&(decide ((x14.it.from_:Int)<=1073741824)))&&(decide ((0:Int)<=x14.it.code)))&&(decide ((x14.it.code:Int)<=8))⟩:zf)))
def z32 (φ:Nat) (x17:Int) (x18:zf) (x19:z67):Option (Bool×Unit):=(zd φ ((⟨x18.p,(⟨x18.it.kind,x18.it.ref,x18.it.wagon,0,x18.it.other,x18.it.number,0,x18.it.to,x18.it.code,0,0,0,x18.it.amount,x18.it.text,x18.it.parts⟩:Item),(((((((((x18.ok&&((x19.kind:Int) !=0))&&(((x17:Int)==0)||((x19.kind:Int)==x17)))&&(decide ((0:Int)<=x18.it.dest)))&&(decide ((x18.it.dest:Int)<=(W ((x18.p.network.places.length:Int)-1)))))&&(decide ((0:Int)<=x18.it.class_)))&&(decide ((x18.it.class_:Int)<=63)))&&(decide ((0:Int)<=x18.it.weight)))&&(decide ((x18.it.weight:Int)<=1000000)))&&(decide ((0:Int)<=x18.it.from_)))&&(decide ((x18.it.from_:Int)<=1073741824))⟩:zf)))
def z33 (φ:Nat) (x24:Int) (x25:zf) (x26:z67):Option (Bool×Unit):=(if((x25.it.kind:Int)==6)=true then(zd φ ((⟨x25.p,(⟨x25.it.kind,x25.it.ref,x25.it.wagon,0,0,x25.it.number,0,x25.it.to,0,x25.it.dest,x25.it.class_,x25.it.weight,x25.it.amount,x25.it.text,x25.it.parts⟩:Item),(((((((x25.ok&&((x26.kind:Int) !=0))&&(((x24:Int)==0)||((x26.kind:Int)==x24)))&&(decide ((0:Int)<=x25.it.other)))&&(decide ((x25.it.other:Int)<=(W ((x25.p.shippers.length:Int)-1)))))&&(decide ((0:Int)<=x25.it.from_)))&&(decide ((x25.it.from_:Int)<=1073741824)))&&(decide ((0:Int)<=x25.it.code)))&&(decide ((x25.it.code:Int)<=1))⟩:zf))) else(zd φ ((⟨x25.p,(⟨x25.it.kind,x25.it.ref,x25.it.wagon,0,0,x25.it.number,0,x25.it.to,x25.it.code,x25.it.dest,x25.it.class_,x25.it.weight,x25.it.amount,x25.it.text,x25.it.parts⟩:Item),(((((x25.ok&&((x26.kind:Int) !=0))&&(((x24:Int)==0)||((x26.kind:Int)==x24)))&&(decide ((0:Int)<=x25.it.other)))&&(decide ((x25.it.other:Int)<=(W ((x25.p.shippers.length:Int)-1)))))&&(decide ((0:Int)<=x25.it.from_)))&&(decide ((x25.it.from_:Int)<=1073741824))⟩:zf))))
def z31 (φ:Nat) (x21:Bool) (x22:zf):Option (Bool×Unit):=(if x21=true then(if((decide ((0:Int)<=x22.it.place))&&(decide ((x22.it.place:Int) <(x22.p.network.places.length:Int))))=true then(ck ((0:Int)<=x22.it.place/\x22.it.place <(x22.p.network.places.length:Int)) (z33 φ 0 x22 (gt x22.p.network.places x22.it.place))) else(z33 φ 0 x22 (⟨0,0,0⟩:z67))) else(zd φ x22))
def z3c (φ:Nat) (x9:Int) (x10:Bool) (x11:zf):Option (Bool×Unit):=(if x10=true then(if((decide ((0:Int)<=x11.it.place))&&(decide ((x11.it.place:Int) <(x11.p.network.places.length:Int))))=true then(ck ((0:Int)<=x11.it.place/\x11.it.place <(x11.p.network.places.length:Int)) (z36 φ 3 x11 (gt x11.p.network.places x11.it.place))) else(z36 φ 3 x11 (⟨0,0,0⟩:z67))) else(if((x9:Int)==5)=true then(if((decide ((0:Int)<=x11.it.place))&&(decide ((x11.it.place:Int) <(x11.p.network.places.length:Int))))=true then(ck ((0:Int)<=x11.it.place/\x11.it.place <(x11.p.network.places.length:Int)) (z32 φ 0 ((⟨x11.p,(⟨x11.it.kind,x11.it.ref,x11.it.wagon,x11.it.place,0,0,x11.it.from_,x11.it.to,x11.it.code,x11.it.dest,x11.it.class_,x11.it.weight,x11.it.amount,x11.it.text,x11.it.parts⟩:Item),(((x11.ok&&(decide ((1:Int)<=x11.it.number)))&&(decide ((x11.it.number:Int)<=1000000000)))&&(decide ((0:Int)<=x11.it.other)))&&(decide ((x11.it.other:Int)<=(W ((x11.p.shippers.length:Int)-1))))⟩:zf)) (gt x11.p.network.places x11.it.place))) else(z32 φ 0 ((⟨x11.p,(⟨x11.it.kind,x11.it.ref,x11.it.wagon,x11.it.place,0,0,x11.it.from_,x11.it.to,x11.it.code,x11.it.dest,x11.it.class_,x11.it.weight,x11.it.amount,x11.it.text,x11.it.parts⟩:Item),(((x11.ok&&(decide ((1:Int)<=x11.it.number)))&&(decide ((x11.it.number:Int)<=1000000000)))&&(decide ((0:Int)<=x11.it.other)))&&(decide ((x11.it.other:Int)<=(W ((x11.p.shippers.length:Int)-1))))⟩:zf)) (⟨0,0,0⟩:z67))) else(if((x9:Int)==6)=true then(z31 φ ((x9:Int)==6) x11) else(z31 φ ((x9:Int)==7) x11))))
def z3a (φ:Nat) (x28:Int) (x29:zf) (x30:z67):Option (Bool×Unit):=((z00 (default,()) (((((((((((x29.ok&&((x30.kind:Int) !=0))&&(((x28:Int)==0)||((x30.kind:Int)==x28)))&&(decide (((max2 x29.it.from_ 0):Int)<=x29.it.to)))&&(decide ((x29.it.to:Int)<=1073741824)))&&(decide ((0:Int)<=x29.it.from_)))&&(decide ((x29.it.from_:Int)<=1073741824)))&&(decide ((1:Int)<=x29.it.code)))&&(decide ((x29.it.code:Int)<=2)))&&(decide ((0:Int)<=x29.it.amount)))&&(decide ((x29.it.amount:Int)<=1000000000)))=true) (zeq φ x29.it.parts true)).bind fun y32=>(zd φ ((⟨x29.p,(⟨x29.it.kind,x29.it.ref,x29.it.wagon,0,x29.it.other,x29.it.number,0,0,0,x29.it.dest,x29.it.class_,x29.it.weight,0,x29.it.text,([]:List Part)⟩:Item),((((((((((x29.ok&&((x30.kind:Int) !=0))&&(((x28:Int)==0)||((x30.kind:Int)==x28)))&&(decide (((max2 x29.it.from_ 0):Int)<=x29.it.to)))&&(decide ((x29.it.to:Int)<=1073741824)))&&(decide ((0:Int)<=x29.it.from_)))&&(decide ((x29.it.from_:Int)<=1073741824)))&&(decide ((1:Int)<=x29.it.code)))&&(decide ((x29.it.code:Int)<=2)))&&(decide ((0:Int)<=x29.it.amount)))&&(decide ((x29.it.amount:Int)<=1000000000)))&&y32.1⟩:zf))))
def z3e (φ:Nat) (x38:Int) (x39:zf) (x40:z67):Option (Bool×Unit):=(zd φ ((⟨x39.p,(⟨x39.it.kind,x39.it.ref,x39.it.wagon,0,x39.it.other,0,0,0,x39.it.code,x39.it.dest,0,0,0,x39.it.text,x39.it.parts⟩:Item),(((((((((((((x39.ok&&((x40.kind:Int) !=0))&&(((x38:Int)==0)||((x40.kind:Int)==x38)))&&(decide ((0:Int)<=x39.it.class_)))&&(decide ((x39.it.class_:Int)<=63)))&&(decide ((0:Int)<=x39.it.number)))&&(decide ((x39.it.number:Int)<=(W ((x39.p.fleet.types.length:Int)-1)))))&&(decide ((1:Int)<=x39.it.weight)))&&(decide ((x39.it.weight:Int)<=1000)))&&(decide (((max2 x39.it.from_ 0):Int)<=x39.it.to)))&&(decide ((x39.it.to:Int)<=1073741824)))&&(decide ((0:Int)<=x39.it.from_)))&&(decide ((x39.it.from_:Int)<=1073741824)))&&(decide ((0:Int)<=x39.it.amount)))&&(decide ((x39.it.amount:Int)<=1000000000))⟩:zf)))
def z15 (φ:Nat) (x34:Int) (x35:Bool) (x36:zf):Option (Bool×Unit):=(if x35=true then(if((x36.it.kind:Int) !=13)=true then(zd φ ((⟨x36.p,(⟨x36.it.kind,x36.it.ref,x36.it.wagon,x36.it.place,x36.it.other,0,0,x36.it.to,x36.it.code,x36.it.dest,x36.it.class_,x36.it.weight,x36.it.amount,(⟨#[]⟩:ByteArray),x36.it.parts⟩:Item),(((((x36.ok&&(decide ((1:Int)<=x36.it.number)))&&(decide ((x36.it.number:Int)<=6)))&&(decide ((0:Int)<=x36.it.from_)))&&(decide ((x36.it.from_:Int)<=1073741824)))&&(decide ((1:Int)<=(x36.it.text.size:Int))))&&(decide (((x36.it.text.size:Int):Int)<=2000))⟩:zf))) else(zd φ ((⟨x36.p,(⟨x36.it.kind,x36.it.ref,x36.it.wagon,x36.it.place,x36.it.other,0,0,x36.it.to,x36.it.code,x36.it.dest,x36.it.class_,x36.it.weight,x36.it.amount,x36.it.text,x36.it.parts⟩:Item),(((x36.ok&&(decide ((1:Int)<=x36.it.number)))&&(decide ((x36.it.number:Int)<=6)))&&(decide ((0:Int)<=x36.it.from_)))&&(decide ((x36.it.from_:Int)<=1073741824))⟩:zf)))) else(if((x34:Int)==14)=true then(zd φ x36) else(if((x34:Int)==15)=true then(if((decide ((0:Int)<=x36.it.place))&&(decide ((x36.it.place:Int) <(x36.p.network.places.length:Int))))=true then(ck ((0:Int)<=x36.it.place/\x36.it.place <(x36.p.network.places.length:Int)) (z3e φ 0 ((⟨x36.p,(⟨x36.it.kind,x36.it.ref,x36.it.wagon,x36.it.place,0,x36.it.number,x36.it.from_,x36.it.to,x36.it.code,x36.it.dest,x36.it.class_,x36.it.weight,x36.it.amount,x36.it.text,x36.it.parts⟩:Item),(x36.ok&&(decide ((0:Int)<=x36.it.other)))&&(decide ((x36.it.other:Int)<=(W ((x36.p.shippers.length:Int)-1))))⟩:zf)) (gt x36.p.network.places x36.it.place))) else(z3e φ 0 ((⟨x36.p,(⟨x36.it.kind,x36.it.ref,x36.it.wagon,x36.it.place,0,x36.it.number,x36.it.from_,x36.it.to,x36.it.code,x36.it.dest,x36.it.class_,x36.it.weight,x36.it.amount,x36.it.text,x36.it.parts⟩:Item),(x36.ok&&(decide ((0:Int)<=x36.it.other)))&&(decide ((x36.it.other:Int)<=(W ((x36.p.shippers.length:Int)-1))))⟩:zf)) (⟨0,0,0⟩:z67))) else(zd φ (⟨x36.p,x36.it,false⟩:zf)))))
def z08 (φ:Nat) (x1:Pool) (x2:Item):Option (Bool×Unit):=(if(decide ((x2.kind:Int)<=7))=true then(if(decide ((x2.kind:Int)<1))=true then(zd φ (⟨x1,x2,false⟩:zf)) else(if((x2.kind:Int)==1)=true then(zd φ ((⟨x1,(⟨x2.kind,x2.ref,0,x2.place,0,x2.number,0,x2.to,x2.code,x2.dest,x2.class_,x2.weight,x2.amount,x2.text,x2.parts⟩:Item),(((((true&&(decide ((0:Int)<=x2.wagon)))&&(decide ((x2.wagon:Int)<=(W ((x1.fleet.wagons.length:Int)-1)))))&&(decide ((0:Int)<=x2.other)))&&(decide ((x2.other:Int)<=(W ((x1.readers.length:Int)-1)))))&&(decide ((0:Int)<=x2.from_)))&&(decide ((x2.from_:Int)<=1073741824))⟩:zf))) else(if((x2.kind:Int)==2)=true then(if((decide ((0:Int)<=x2.place))&&(decide ((x2.place:Int) <(x1.network.places.length:Int))))=true then(ck ((0:Int)<=x2.place/\x2.place <(x1.network.places.length:Int)) (z3s φ 0 ((⟨x1,(⟨x2.kind,x2.ref,0,x2.place,x2.other,x2.number,x2.from_,x2.to,x2.code,x2.dest,x2.class_,x2.weight,x2.amount,x2.text,x2.parts⟩:Item),(true&&(decide ((0:Int)<=x2.wagon)))&&(decide ((x2.wagon:Int)<=(W ((x1.fleet.wagons.length:Int)-1))))⟩:zf)) (gt x1.network.places x2.place))) else(z3s φ 0 ((⟨x1,(⟨x2.kind,x2.ref,0,x2.place,x2.other,x2.number,x2.from_,x2.to,x2.code,x2.dest,x2.class_,x2.weight,x2.amount,x2.text,x2.parts⟩:Item),(true&&(decide ((0:Int)<=x2.wagon)))&&(decide ((x2.wagon:Int)<=(W ((x1.fleet.wagons.length:Int)-1))))⟩:zf)) (⟨0,0,0⟩:z67))) else(if((x2.kind:Int)==3)=true then(z3c φ x2.kind ((x2.kind:Int)==3) ((⟨x1,(⟨x2.kind,x2.ref,0,x2.place,x2.other,x2.number,x2.from_,x2.to,x2.code,x2.dest,x2.class_,x2.weight,x2.amount,x2.text,x2.parts⟩:Item),(true&&(decide ((0:Int)<=x2.wagon)))&&(decide ((x2.wagon:Int)<=(W ((x1.fleet.wagons.length:Int)-1))))⟩:zf))) else(z3c φ x2.kind ((x2.kind:Int)==4) ((⟨x1,(⟨x2.kind,x2.ref,0,x2.place,x2.other,x2.number,x2.from_,x2.to,x2.code,x2.dest,x2.class_,x2.weight,x2.amount,x2.text,x2.parts⟩:Item),(true&&(decide ((0:Int)<=x2.wagon)))&&(decide ((x2.wagon:Int)<=(W ((x1.fleet.wagons.length:Int)-1))))⟩:zf))))))) else(if((x2.kind:Int)==8)=true then(zd φ ((⟨x1,(⟨x2.kind,x2.ref,0,x2.place,x2.other,x2.number,0,x2.to,0,x2.dest,x2.class_,x2.weight,x2.amount,x2.text,x2.parts⟩:Item),(((((true&&(decide ((0:Int)<=x2.wagon)))&&(decide ((x2.wagon:Int)<=(W ((x1.fleet.wagons.length:Int)-1)))))&&(decide ((0:Int)<=x2.from_)))&&(decide ((x2.from_:Int)<=1073741824)))&&(decide ((1:Int)<=x2.code)))&&(decide ((x2.code:Int)<=9))⟩:zf))) else(if((x2.kind:Int)==9)=true then(if((decide ((0:Int)<=x2.place))&&(decide ((x2.place:Int) <(x1.network.places.length:Int))))=true then(ck ((0:Int)<=x2.place/\x2.place <(x1.network.places.length:Int)) (z3a φ 5 ((⟨x1,(⟨x2.kind,x2.ref,0,x2.place,x2.other,x2.number,x2.from_,x2.to,x2.code,x2.dest,x2.class_,x2.weight,x2.amount,x2.text,x2.parts⟩:Item),(true&&(decide ((0:Int)<=x2.wagon)))&&(decide ((x2.wagon:Int)<=(W ((x1.fleet.wagons.length:Int)-1))))⟩:zf)) (gt x1.network.places x2.place))) else(z3a φ 5 ((⟨x1,(⟨x2.kind,x2.ref,0,x2.place,x2.other,x2.number,x2.from_,x2.to,x2.code,x2.dest,x2.class_,x2.weight,x2.amount,x2.text,x2.parts⟩:Item),(true&&(decide ((0:Int)<=x2.wagon)))&&(decide ((x2.wagon:Int)<=(W ((x1.fleet.wagons.length:Int)-1))))⟩:zf)) (⟨0,0,0⟩:z67))) else(if((x2.kind:Int)==10)=true then((z00 (default,()) ((((true&&(decide ((0:Int)<=x2.other)))&&(decide ((x2.other:Int)<=63)))&&(decide ((0:Int) <(x2.parts.length:Int))))=true) (zeq φ x2.parts false)).bind fun y33=>(zd φ ((⟨x1,(⟨x2.kind,x2.ref,x2.wagon,x2.place,0,x2.number,x2.from_,x2.to,x2.code,x2.dest,x2.class_,x2.weight,x2.amount,x2.text,([]:List Part)⟩:Item),(((true&&(decide ((0:Int)<=x2.other)))&&(decide ((x2.other:Int)<=63)))&&(decide ((0:Int) <(x2.parts.length:Int))))&&y33.1⟩:zf)))) else(if((x2.kind:Int)==11)=true then(z15 φ x2.kind ((x2.kind:Int)==11) (⟨x1,x2,true⟩:zf)) else(if((x2.kind:Int)==12)=true then(z15 φ x2.kind ((x2.kind:Int)==12) (⟨x1,x2,true⟩:zf)) else(z15 φ x2.kind ((x2.kind:Int)==13) (⟨x1,x2,true⟩:zf))))))))
def zew (φ:Nat):Fsp TV:=⟨[30,35],[.val 2],fun z=>z08 φ z.1 z.2.1⟩
def zh8 (φ:Nat) (x1:Pool) (x2:Item):Option (Int×Unit):=((z2l φ x1).bind fun y3=>(if((y3.1:Int) !=0)=true then(some (y3.1,())) else((z79 φ x2).bind fun y4=>((z00 (default,()) ((!y4.1)=false) (z08 φ x1 x2)).bind fun y5=>(if((!y4.1)||(!y5.1))=true then(some (110,())) else(some (0,())))))))
def zg5 (φ:Nat):Fsp TV:=⟨[30,35],[.val 0],fun z=>zh8 φ z.1 z.2.1⟩
def z27 (φ:Nat):Nat->(List zc)->Int->Int->Pool->(List Int)->Option ((List Int)×Unit)
 | 0,_,_,_,_,_=>none
 | n8+1,x3,x4,x5,x6,x7=>(if(decide ((x5:Int)<x4))=true then(ck ((0:Int)<=x5/\x5 <(x3.length:Int)) ((zh8 φ x6 ((gt x3 x5).item)).bind fun y9=>(if((y9.1:Int)==0)=true then(ck (fits (x7.length +([x5]).length) 8) ((z27 φ n8) x3 x4 (W (x5+1)) x6 (x7++[x5]))) else((z27 φ n8) x3 x4 (W (x5+1)) x6 x7)))) else(some (x7,())))
def z9q (φ:Nat) (x1:Pool) (x2 :(List zc)):Option ((List Int)×Unit):=(z27 φ φ x2 (x2.length:Int) 0 x1 ([]:List Int))
def za1 (φ:Nat):Fsp TV:=⟨[30,38],[.val 5],fun z=>z9q φ z.1 z.2.1⟩
def zr (φ:Nat) (x1:Int) (x2:Int) (x3:Item) (x4:zc) (x5:Int):Option (z6×Unit):=(some ((⟨(⟨x3.wagon,x1,x4.ref,false,x2,x2⟩:z0a),x5,false,false,-1⟩:z6),()))
def z72 (φ:Nat):Csp TV:=⟨[0,0],[.b (.val 35),.b (.val 37),.b (.val 0)],[.val 4],fun z b=>zr φ z.1 z.2.1 b.1 b.2.1 b.2.2.1⟩
def z1z (φ:Nat) (x11:z6) (x12:z6):Option ((List z6)×Unit):=(some ([(⟨x11.visit,x11.report,x11.second,true,x11.reader⟩:z6),(⟨x12.visit,x12.report,true,true,x12.reader⟩:z6)],()))
def z1y (φ:Nat) (x14:Item) (x15:zc) (x16:Int):Option ((List z6)×Unit):=((zr φ x14.place x14.from_ x14 x15 x16).bind fun y18=>((zr φ x14.place x14.to x14 x15 x16).bind fun y19=>(z1z φ y18.1 y19.1)))
def z5v (φ:Nat) (x14:Item) (x15:zc) (x16:Int):Option (List (Option ((List z6)×Unit))):=((zr φ x14.place x14.from_ x14 x15 x16).bind fun y20=>((zr φ x14.place x14.to x14 x15 x16).bind fun y21=>(catL [(catL [(catL [(catL [(some [(z1z φ y20.1 y21.1)])])])]),(catL [(catL [(catL [(some [(z1z φ y20.1 y21.1)])])])])])))
def z04 (φ:Nat) (x22:Bool) (x23:Item) (x24:zc) (x25:Int):Option ((List z6)×Unit):=(if x22=true then((zr φ x23.place x23.from_ x23 x24 x25).bind fun y27=>(some ([y27.1],()))) else(some (([]:List z6),())))
def z05 (φ:Nat) (x5:Int) (x6:Bool) (x7:Item) (x8:zc) (x9:Int):Option ((List z6)×Unit):=(if x6=true then(z1y φ x7 x8 x9) else(if((x5:Int)==3)=true then(z04 φ ((x5:Int)==3) x7 x8 x9) else(if((x5:Int)==4)=true then(z04 φ ((x5:Int)==4) x7 x8 x9) else(if((x5:Int)==6)=true then(z04 φ ((x5:Int)==6) x7 x8 x9) else(z04 φ ((x5:Int)==7) x7 x8 x9)))))
def z0r (φ:Nat) (x1:Pool) (x2:zc) (x3:Int):Option ((List z6)×Unit):=(if((x2.item.kind:Int)==1)=true then(ck ((0:Int)<=x2.item.other/\x2.item.other <(x1.readers.length:Int)) ((zr φ ((gt x1.readers x2.item.other).place) x2.item.from_ x2.item x2 x3).bind fun y4=>(some ([(⟨y4.1.visit,y4.1.report,y4.1.second,y4.1.stay,x2.item.other⟩:z6)],())))) else(if((x2.item.kind:Int)==2)=true then(z05 φ x2.item.kind ((x2.item.kind:Int)==2) x2.item x2 x3) else(z05 φ x2.item.kind ((x2.item.kind:Int)==9) x2.item x2 x3)))
def z8q (φ:Nat):Fsp TV:=⟨[30,37,0],[.val 39],fun z=>z0r φ z.1 z.2.1 z.2.2.1⟩
def z2q (φ:Nat) (k25 :(Int->Int->Int->Int->(List z6)->(List (Int×Bool))->(List (List z6))->Int->Option ((List (List z6))×Unit))) (x26:Int) (x27:Int) (x28:Int) (x29:Int) (x30:Int) (x31 :(List z6)) (x32 :(List (Int×Bool))) (x33 :(List (List z6))) (x34:Int):Option ((List (List z6))×Unit):=(ck ((0:Int)<=x26/\x26 <(x31.length:Int)) (k25 x27 (W (x28+1)) x29 x30 ((zi x31 x26 ((⟨(⟨((gt x31 x26).visit).wagon,((gt x31 x26).visit).place,((gt x31 x26).visit).ref,decide ((0:Int) <(x32.length:Int)),((gt x31 x26).visit).early,((gt x31 x26).visit).late⟩:z0a),(gt x31 x26).report,(gt x31 x26).second,(gt x31 x26).stay,(gt x31 x26).reader⟩:z6)))) x32 x33 x34))
def z0t (φ:Nat) (k15 :(Int->Int->(List (List z6))->Option ((List (List z6))×Unit))):Nat->Int->Int->Int->Int->(List z6)->(List (Int×Bool))->(List (List z6))->Int->Option ((List (List z6))×Unit)
 | 0,_,_,_,_,_,_,_,_=>none
 | n25+1,x17,x18,x19,x20,x21,x22,x23,x24=>(if(decide ((x18:Int)<x17))=true then(ck ((0:Int)<=x18/\x18 <(x21.length:Int)) (ck (((gt x21 x18).stay=true)->(0:Int)<=x18/\x18 <(x21.length:Int)) (if((gt x21 x18).stay&&(gt x21 x18).second)=true then(ck ((0:Int)<=x18/\x18 <(x21.length:Int)) (z2q φ (z0t φ k15 n25) x18 x17 x18 x19 x20 x21 (mdel x22 ((gt x21 x18).report)) x23 x24)) else(ck ((0:Int)<=x18/\x18 <(x21.length:Int)) (if(gt x21 x18).stay=true then(ck ((0:Int)<=x18/\x18 <(x21.length:Int)) (z2q φ (z0t φ k15 n25) x18 x17 x18 x19 x20 x21 (mset x22 ((gt x21 x18).report) true) x23 x24)) else(z2q φ (z0t φ k15 n25) x18 x17 x18 x19 x20 x21 x22 x23 x24)))))) else(k15 x19 (W (x20+1)) (zi x23 x24 x21)))
def z1e (φ:Nat):Nat->Int->Int->(List (List z6))->Option ((List (List z6))×Unit)
 | 0,_,_,_=>none
 | n15+1,x12,x13,x14=>(if(decide ((x13:Int)<x12))=true then(ck ((0:Int)<=x13/\x13 <(x14.length:Int)) (ck ((0:Int)<=x13/\x13 <(x14.length:Int)) (ck ((x13:Int)=x13) ((sortEv (gt x14 x13)).bind fun y16=>(z0t φ (z1e φ n15) φ (y16.length:Int) 0 x12 x13 y16 ([]:List (Int×Bool)) x14 x13))))) else(some (x14,())))
def z23 (φ:Nat):Nat->(List zc)->(List Int)->Int->Int->Pool->(List (List z6))->Option ((List (List z6))×Unit)
 | 0,_,_,_,_,_,_=>none
 | n10+1,x4,x5,x6,x7,x8,x9=>(if(decide ((x7:Int)<x6))=true then(ck ((0:Int)<=x7/\x7 <(x5.length:Int)) (ck ((0:Int)<=(gt x5 x7)/\(gt x5 x7) <(x4.length:Int)) ((z0r φ x8 (gt x4 (gt x5 x7)) (gt x5 x7)).bind fun y11=>(if(decide ((0:Int) <(y11.1.length:Int)))=true then(ck ((0:Int)<=(gt x5 x7)/\(gt x5 x7) <(x4.length:Int)) (ck ((0:Int)<=((gt x4 (gt x5 x7)).item).wagon/\((gt x4 (gt x5 x7)).item).wagon <(x9.length:Int)) (ck ((0:Int)<=((gt x4 (gt x5 x7)).item).wagon/\((gt x4 (gt x5 x7)).item).wagon <(x9.length:Int)) (ck ((((gt x4 (gt x5 x7)).item).wagon:Int) =((gt x4 (gt x5 x7)).item).wagon) (ck (fits (((gt x9 (((gt x4 (gt x5 x7)).item).wagon))).length+y11.1.length) 80) (ck ((0:Int)<=((gt x4 (gt x5 x7)).item).wagon/\((gt x4 (gt x5 x7)).item).wagon <(x9.length:Int)) (ck ((((gt x4 (gt x5 x7)).item).wagon:Int) =((gt x4 (gt x5 x7)).item).wagon) ((z23 φ n10) x4 x5 x6 (W (x7+1)) x8 ((zi x9 (((gt x4 (gt x5 x7)).item).wagon) (((gt x9 (((gt x4 (gt x5 x7)).item).wagon))++y11.1)))))))))))) else((z23 φ n10) x4 x5 x6 (W (x7+1)) x8 x9))))) else(z1e φ φ (x9.length:Int) 0 x9))
def z64 (φ:Nat) (x1:Pool) (x2 :(List zc)):Option ((List (List z6))×Unit):=(ck (z3i (x1.fleet.wagons.length:Int) 24) ((z9q φ x1 x2).bind fun y3=>(z23 φ φ x2 y3.1 (y3.1.length:Int) 0 x1 (List.replicate ((x1.fleet.wagons.length:Int):Int).toNat (default :(List z6))))))
def z5m (φ:Nat):Fsp TV:=⟨[30,38],[.val 40],fun z=>z64 φ z.1 z.2.1⟩
def za2 (φ:Nat):Nat->(List z6)->Int->Int->(List z0a)->Option ((List z0a)×Unit)
 | 0,_,_,_,_=>none
 | n10+1,x6,x7,x8,x9=>(if(decide ((x8:Int)<x7))=true then(ck ((0:Int)<=x8/\x8 <(x6.length:Int)) (ck (fits (x9.length +([((gt x6 x8).visit)]).length) 56) ((za2 φ n10) x6 x7 (W (x8+1)) (x9++[((gt x6 x8).visit)])))) else(some (x9,())))
def zmx (φ:Nat) (x1:Pool) (x2 :(List zc)) (x3:Int):Option ((List z0a)×Unit):=((z2l φ x1).bind fun y4=>(if((((y4.1:Int) !=0)||(decide ((x3:Int)<0)))||(decide (((x1.fleet.wagons.length:Int):Int)<=x3)))=true then(some (([]:List z0a),())) else((z64 φ x1 x2).bind fun y5=>(ck ((0:Int)<=x3/\x3 <(y5.1.length:Int)) (za2 φ φ (gt y5.1 x3) ((gt y5.1 x3).length:Int) 0 ([]:List z0a))))))
def zcn (φ:Nat):Fsp TV:=⟨[30,38,0],[.val 41],fun z=>zmx φ z.1 z.2.1 z.2.2.1⟩
def z2g (φ:Nat) (k23 :((List Edge)->Int->Int->Int->Int->z8->z8->(List (List Int))->(List ((Nat->Int)×Int))->Option (Int×Int×Unit))) (x40:Int) (x41:Int) (x42:Bool) (x43 :(List Edge)) (x44:Int) (x45:Int) (x46:Int) (x47:Int) (x48:z8) (x49 :(Nat->Int)) (x50:z8) (x51 :(List (List Int))) (x52 :(List ((Nat->Int)×Int))):Option (Int×Int×Unit):=(ck (((!x42)=false)->(0:Int)<=x40/\x40 <(x48.edges.length:Int)) (ck (((!x42)=false)->(0:Int)<=x41/\x41 <(x48.edges.length:Int)) (if((!x42)||(decide (((gt x48.edges x40).minutes:Int) <(gt x48.edges x41).minutes)))=true then(k23 x43 x44 (W (x45+1)) x46 x47 x48 x50 x51 (@mset _ _ ⟨beqA 2⟩ x52 x49 x40)) else(k23 x43 x44 (W (x45+1)) x46 x47 x48 x50 x51 x52))))
def z2m (φ:Nat) (k23 :((List Edge)->Int->Int->Int->Int->z8->z8->(List (List Int))->(List ((Nat->Int)×Int))->Option (Int×Int×Unit))) (x54:Int) (x55:Int) (x56:Bool) (x57 :(List Edge)) (x58:Int) (x59:Int) (x60:Int) (x61:Int) (x62:z8) (x63 :(Nat->Int)) (x64:z8) (x65 :(List (List Int))) (x66 :(List ((Nat->Int)×Int))):Option (Int×Int×Unit):=(ck (((!x56)=false)->(0:Int)<=x54/\x54 <(x62.edges.length:Int)) (ck (((!x56)=false)->(0:Int)<=x55/\x55 <(x62.edges.length:Int)) (if((!x56)||(decide (((gt x62.edges x54).minutes:Int) <(gt x62.edges x55).minutes)))=true then(k23 x57 x58 (W (x59+1)) x60 x61 x62 x64 x65 (@mset _ _ ⟨beqA 2⟩ x66 x63 x54)) else(k23 x57 x58 (W (x59+1)) x60 x61 x62 x64 x65 x66))))
def z2h (φ:Nat) (k23 :((List Edge)->Int->Int->Int->Int->z8->z8->(List (List Int))->(List ((Nat->Int)×Int))->Option (Int×Int×Unit))) (x24:Int) (x25:Int) (x26:Bool) (x27:Int) (x28 :(List Edge)) (x29:Int) (x30:Int) (x31:Int) (x32:Int) (x33:z8) (x34 :(Nat->Int)) (x35:Edge) (x36:z8) (x37 :(List (List Int))) (x38 :(List ((Nat->Int)×Int))):Option (Int×Int×Unit):=(ck (((!x26)=false)->(0:Int)<=x24/\x24 <(x33.edges.length:Int)) (ck (((!x26)=false)->(0:Int)<=x25/\x25 <(x33.edges.length:Int)) (if((!x26)||(decide (((gt x33.edges x24).minutes:Int) <(gt x33.edges x25).minutes)))=true then(if(!(@mget _ _ ⟨beqA 2⟩ (@mset _ _ ⟨beqA 2⟩ x38 x34 x24) ((upd (upd (fun _=>(default:Int)) 0 x35.b) 1 x35.a))).isSome)=true then(ck ((0:Int)<=x35.b/\x35.b <(x37.length:Int)) (ck ((0:Int)<=x35.b/\x35.b <(x37.length:Int)) (ck ((x35.b:Int)=x35.b) (ck (fits ((gt x37 x35.b).length +([x35.a]).length) 8) (ck ((0:Int)<=x35.b/\x35.b <(x37.length:Int)) (ck ((x35.b:Int)=x35.b) (z2g φ k23 x27 (((@mget _ _ ⟨beqA 2⟩ (@mset _ _ ⟨beqA 2⟩ x38 x34 x24) ((upd (upd (fun _=>(default:Int)) 0 x35.b) 1 x35.a))).getD default)) ((@mget _ _ ⟨beqA 2⟩ (@mset _ _ ⟨beqA 2⟩ x38 x34 x24) ((upd (upd (fun _=>(default:Int)) 0 x35.b) 1 x35.a))).isSome) x28 x29 x30 x31 x32 x33 ((upd (upd (fun _=>(default:Int)) 0 x35.b) 1 x35.a)) x36 (zi x37 x35.b ((gt x37 x35.b)++[x35.a])) (@mset _ _ ⟨beqA 2⟩ x38 x34 x24)))))))) else(z2g φ k23 x27 (((@mget _ _ ⟨beqA 2⟩ (@mset _ _ ⟨beqA 2⟩ x38 x34 x24) ((upd (upd (fun _=>(default:Int)) 0 x35.b) 1 x35.a))).getD default)) ((@mget _ _ ⟨beqA 2⟩ (@mset _ _ ⟨beqA 2⟩ x38 x34 x24) ((upd (upd (fun _=>(default:Int)) 0 x35.b) 1 x35.a))).isSome) x28 x29 x30 x31 x32 x33 ((upd (upd (fun _=>(default:Int)) 0 x35.b) 1 x35.a)) x36 x37 (@mset _ _ ⟨beqA 2⟩ x38 x34 x24))) else(if(!(@mget _ _ ⟨beqA 2⟩ x38 ((upd (upd (fun _=>(default:Int)) 0 x35.b) 1 x35.a))).isSome)=true then(ck ((0:Int)<=x35.b/\x35.b <(x37.length:Int)) (ck ((0:Int)<=x35.b/\x35.b <(x37.length:Int)) (ck ((x35.b:Int)=x35.b) (ck (fits ((gt x37 x35.b).length +([x35.a]).length) 8) (ck ((0:Int)<=x35.b/\x35.b <(x37.length:Int)) (ck ((x35.b:Int)=x35.b) (z2m φ k23 x27 (((@mget _ _ ⟨beqA 2⟩ x38 ((upd (upd (fun _=>(default:Int)) 0 x35.b) 1 x35.a))).getD default)) ((@mget _ _ ⟨beqA 2⟩ x38 ((upd (upd (fun _=>(default:Int)) 0 x35.b) 1 x35.a))).isSome) x28 x29 x30 x31 x32 x33 ((upd (upd (fun _=>(default:Int)) 0 x35.b) 1 x35.a)) x36 (zi x37 x35.b ((gt x37 x35.b)++[x35.a])) x38))))))) else(z2m φ k23 x27 (((@mget _ _ ⟨beqA 2⟩ x38 ((upd (upd (fun _=>(default:Int)) 0 x35.b) 1 x35.a))).getD default)) ((@mget _ _ ⟨beqA 2⟩ x38 ((upd (upd (fun _=>(default:Int)) 0 x35.b) 1 x35.a))).isSome) x28 x29 x30 x31 x32 x33 ((upd (upd (fun _=>(default:Int)) 0 x35.b) 1 x35.a)) x36 x37 x38)))))
def z0q (φ:Nat) (k93 :(Int->z8->(List Int)->(List Bool)->(List (List Int))->(List ((Nat->Int)×Int))->Option (Int×Int×Unit))):Nat->Int->Int->Int->Int->z8->(List Int)->(List Bool)->(List Int)->(List (List Int))->Int->(List ((Nat->Int)×Int))->Option (Int×Int×Unit)
 | 0,_,_,_,_,_,_,_,_,_,_,_=>none
 | n115+1,x104,x105,x106,x107,x108,x109,x110,x111,x112,x113,x114=>(if(decide ((x106:Int)<x105))=true then(ck ((0:Int)<=x106/\x106 <(x111.length:Int)) (ck ((0:Int)<=x104/\x104 <(x109.length:Int)) (ck ((0:Int)<=((@mget _ _ ⟨beqA 2⟩ x114 ((upd (upd (fun _=>(default:Int)) 0 x104) 1 (gt x111 x106)))).getD default)/\((@mget _ _ ⟨beqA 2⟩ x114 ((upd (upd (fun _=>(default:Int)) 0 x104) 1 (gt x111 x106)))).getD default) <(x108.edges.length:Int)) (ck ((0:Int)<=(gt x111 x106)/\(gt x111 x106) <(x109.length:Int)) (ck (((decide (((gt x109 (gt x111 x106)):Int)<0))=false)->(0:Int)<=(gt x111 x106)/\(gt x111 x106) <(x109.length:Int)) (if((decide (((gt x109 (gt x111 x106)):Int)<0))||(decide (((W ((gt x109 x104) +((gt x108.edges (((@mget _ _ ⟨beqA 2⟩ x114 ((upd (upd (fun _=>(default:Int)) 0 x104) 1 (gt x111 x106)))).getD default)))).minutes)):Int) <(gt x109 (gt x111 x106)))))=true then(ck ((0:Int)<=(gt x111 x106)/\(gt x111 x106) <(x109.length:Int)) ((z0q φ k93 n115) x104 x105 (W (x106+1)) x107 x108 ((zi x109 (gt x111 x106) ((W ((gt x109 x104) +((gt x108.edges (((@mget _ _ ⟨beqA 2⟩ x114 ((upd (upd (fun _=>(default:Int)) 0 x104) 1 (gt x111 x106)))).getD default)))).minutes))))) x110 x111 x112 x113 x114)) else((z0q φ k93 n115) x104 x105 (W (x106+1)) x107 x108 x109 x110 x111 x112 x113 x114))))))) else(k93 x107 x108 x109 x110 (zi x112 x113 x111) x114))
def z0p (φ:Nat) (k93 :(Int->z8->(List Int)->(List Bool)->(List (List Int))->(List ((Nat->Int)×Int))->Option (Int×Int×Unit))):Nat->Int->Int->Int->Int->z8->(List Int)->(List Bool)->(List (List Int))->(List ((Nat->Int)×Int))->Option (Int×Int×Unit)
 | 0,_,_,_,_,_,_,_,_,_=>none
 | n103+1,x94,x95,x96,x97,x98,x99,x100,x101,x102=>(if(decide ((x96:Int)<x95))=true then(ck ((0:Int)<=x96/\x96 <(x99.length:Int)) (ck (((decide ((0:Int)<=(gt x99 x96)))=true)->(0:Int)<=x96/\x96 <(x100.length:Int)) (ck ((((decide ((0:Int)<=(gt x99 x96)))&&(!(gt x100 x96)))=true/\(decide ((x94:Int)<0))=false)->(0:Int)<=x96/\x96 <(x99.length:Int)) (ck ((((decide ((0:Int)<=(gt x99 x96)))&&(!(gt x100 x96)))=true/\(decide ((x94:Int)<0))=false)->(0:Int)<=x94/\x94 <(x99.length:Int)) (if(((decide ((0:Int)<=(gt x99 x96)))&&(!(gt x100 x96)))&&((decide ((x94:Int)<0))||(decide (((gt x99 x96):Int) <(gt x99 x94)))))=true then((z0p φ k93 n103) x96 x95 (W (x96+1)) x97 x98 x99 x100 x101 x102) else((z0p φ k93 n103) x94 x95 (W (x96+1)) x97 x98 x99 x100 x101 x102)))))) else(if(decide ((x94:Int)<0))=true then(ck ((0:Int)<=x97/\x97 <(x99.length:Int)) (if(decide (((gt x99 x97):Int)<0))=true then(some (0,80,())) else(some ((gt x99 x97),0,())))) else(ck ((0:Int)<=x94/\x94 <(x100.length:Int)) (ck ((0:Int)<=x94/\x94 <(x101.length:Int)) (ck ((0:Int)<=x94/\x94 <(x101.length:Int)) (ck ((x94:Int)=x94) (z0q φ k93 φ x94 ((gt x101 x94).length:Int) 0 x97 x98 x99 (zi x100 x94 true) (gt x101 x94) x101 x94 x102)))))))
def zn (φ:Nat):Nat->Int->z8->(List Int)->(List Bool)->(List (List Int))->(List ((Nat->Int)×Int))->Option (Int×Int×Unit)
 | 0,_,_,_,_,_,_=>none
 | n93+1,x87,x88,x89,x90,x91,x92=>(z0p φ (zn φ n93) φ (-1) (x89.length:Int) 0 x87 x88 x89 x90 x91 x92)
def zw (φ:Nat):Nat->Int->Int->Int->Int->z8->(List Int)->(List Bool)->(List (List Int))->(List ((Nat->Int)×Int))->Option (Int×Int×Unit)
 | 0,_,_,_,_,_,_,_,_,_=>none
 | n86+1,x77,x78,x79,x80,x81,x82,x83,x84,x85=>(if(decide ((x79:Int)<x78))=true then(ck ((0:Int)<=x79/\x79 <(x82.length:Int)) ((zw φ n86) x77 x78 (W (x79+1)) x80 x81 (zi x82 x79 (-1)) x83 x84 x85)) else(ck ((0:Int)<=x77/\x77 <(x82.length:Int)) (zn φ φ x80 x81 (zi x82 x77 0) x83 x84 x85)))
def z0v (φ:Nat):Nat->Int->Int->Int->Int->(List (List Int))->z8->(List ((Nat->Int)×Int))->Option (Int×Int×Unit)
 | 0,_,_,_,_,_,_,_=>none
 | n75+1,x68,x69,x70,x71,x72,x73,x74=>(if(decide ((x69:Int)<x68))=true then(ck ((0:Int)<=x69/\x69 <(x72.length:Int)) (ck ((0:Int)<=x69/\x69 <(x72.length:Int)) (ck ((x69:Int)=x69) ((zj6 (gt x72 x69)).bind fun y76=>((z0v φ n75) x68 (W (x69+1)) x70 x71 (zi x72 x69 y76) x73 x74))))) else(ck (z3i (x73.places.length:Int) 8) (ck (z3i (((List.replicate ((x73.places.length:Int):Int).toNat (default:Int)).length:Int)) 1) (zw φ φ x70 (((List.replicate ((x73.places.length:Int):Int).toNat (default:Int)).length:Int)) 0 x71 x73 (List.replicate ((x73.places.length:Int):Int).toNat (default:Int)) ((List.replicate (((List.replicate ((x73.places.length:Int):Int).toNat (default:Int)).length:Int):Int).toNat (default:Bool))) x72 x74))))
def zl (φ:Nat):Nat->(List Edge)->Int->Int->Int->Int->z8->z8->(List (List Int))->(List ((Nat->Int)×Int))->Option (Int×Int×Unit)
 | 0,_,_,_,_,_,_,_,_,_=>none
 | n23+1,x14,x15,x16,x17,x18,x19,x20,x21,x22=>(if(decide ((x16:Int)<x15))=true then(ck ((0:Int)<=x16/\x16 <(x14.length:Int)) (if(!(@mget _ _ ⟨beqA 2⟩ x22 ((upd (upd (fun _=>(default:Int)) 0 ((gt x14 x16).a)) 1 ((gt x14 x16).b)))).isSome)=true then(ck ((0:Int)<=(gt x14 x16).a/\(gt x14 x16).a <(x21.length:Int)) (ck ((0:Int)<=(gt x14 x16).a/\(gt x14 x16).a <(x21.length:Int)) (ck (((gt x14 x16).a:Int) =(gt x14 x16).a) (ck (fits ((gt x21 ((gt x14 x16).a)).length +([(gt x14 x16).b]).length) 8) (ck ((0:Int)<=(gt x14 x16).a/\(gt x14 x16).a <(x21.length:Int)) (ck (((gt x14 x16).a:Int) =(gt x14 x16).a) (z2h φ (zl φ n23) x16 (((@mget _ _ ⟨beqA 2⟩ x22 ((upd (upd (fun _=>(default:Int)) 0 ((gt x14 x16).a)) 1 ((gt x14 x16).b)))).getD default)) ((@mget _ _ ⟨beqA 2⟩ x22 ((upd (upd (fun _=>(default:Int)) 0 ((gt x14 x16).a)) 1 ((gt x14 x16).b)))).isSome) x16 x14 x15 x16 x17 x18 x19 ((upd (upd (fun _=>(default:Int)) 0 ((gt x14 x16).a)) 1 ((gt x14 x16).b))) (gt x14 x16) x20 ((zi x21 ((gt x14 x16).a) (((gt x21 ((gt x14 x16).a))++[(gt x14 x16).b])))) x22))))))) else(z2h φ (zl φ n23) x16 (((@mget _ _ ⟨beqA 2⟩ x22 ((upd (upd (fun _=>(default:Int)) 0 ((gt x14 x16).a)) 1 ((gt x14 x16).b)))).getD default)) ((@mget _ _ ⟨beqA 2⟩ x22 ((upd (upd (fun _=>(default:Int)) 0 ((gt x14 x16).a)) 1 ((gt x14 x16).b)))).isSome) x16 x14 x15 x16 x17 x18 x19 ((upd (upd (fun _=>(default:Int)) 0 ((gt x14 x16).a)) 1 ((gt x14 x16).b))) (gt x14 x16) x20 x21 x22))) else(z0v φ φ (x21.length:Int) 0 x17 x18 x21 x20 x22))
def z09 (φ:Nat):Nat->Int->Int->Int->Int->z8->(List Int)->z8->(List (List Int))->Option (Int×Int×Unit)
 | 0,_,_,_,_,_,_,_,_=>none
 | n13+1,x5,x6,x7,x8,x9,x10,x11,x12=>(if(decide ((x6:Int)<x5))=true then(ck ((0:Int)<=x6/\x6 <(x10.length:Int)) (if((decide (((gt x10 x6):Int)<0))||(decide (((x9.places.length:Int):Int)<=(gt x10 x6))))=true then(some (0,1,())) else((z09 φ n13) x5 (W (x6+1)) x7 x8 x9 x10 x11 x12))) else(ck (z3i (x9.places.length:Int) 24) (zl φ φ x9.edges (x9.edges.length:Int) 0 x7 x8 x9 x11 (List.replicate ((x9.places.length:Int):Int).toNat (default :(List Int))) ([]:List ((Nat->Int)×Int)))))
def zq (φ:Nat) (x1:z8) (x2:Int) (x3:Int):Option (Int×Int×Unit):=((z3z φ x1).bind fun y4=>(if((y4.1:Int) !=0)=true then(if((y4.1:Int) !=0)=true then(some (0,y4.1,())) else(ck (z3i (x1.places.length:Int) 8) (ck (z3i (((List.replicate ((x1.places.length:Int):Int).toNat (default:Int)).length:Int)) 1) none))) else(z09 φ φ (([x2,x3]).length:Int) 0 x2 x3 x1 ([x2,x3]) x1 ([]:List (List Int)))))
def z5c (φ:Nat):Fsp TV:=⟨[10,0,0],[.val 0,.val 0],fun z=>zq φ z.1 z.2.1 z.2.2.1⟩
def z4u (φ:Nat) (x1:z8) (x2:z0a) (x3:z0a):Option (Int×Unit):=(if(((x2.place:Int) !=x3.place)&&x2.stay)=true then(some (1073741825,())) else((zq φ x1 x2.place x3.place).bind fun y4=>(if((y4.2.1:Int) !=0)=true then(some (1073741825,())) else(some (y4.1,())))))
def zb8 (φ:Nat):Fsp TV:=⟨[10,3,3],[.val 0],fun z=>z4u φ z.1 z.2.1 z.2.2.1⟩
def z1p (φ:Nat) (k19 :((List (List z6))->(List (List z6))->Int->Int->Pool->Int->Int->(List (Int×Int))->(List ze)->(List (Nat->Ref))->(List z1n)->(List ze)->(List (Nat->Ref))->(List z1n)->Option (z0w×Int×Unit))):Nat->(List (List z6))->(List (List z6))->Int->Int->(List z6)->Int->Int->Pool->Int->Int->(List (Int×Int))->(List ze)->(List (Nat->Ref))->(List z1n)->(List ze)->(List (Nat->Ref))->(List z1n)->Option (z0w×Int×Unit)
 | 0,_,_,_,_,_,_,_,_,_,_,_,_,_,_,_,_,_=>none
 | n37+1,x20,x21,x22,x23,x24,x25,x26,x27,x28,x29,x30,x31,x32,x33,x34,x35,x36=>(if(decide ((x26:Int)<x25))=true then(ck ((0:Int)<=x26/\x26 <(x24.length:Int)) (if(decide ((0:Int)<=(gt x24 x26).reader))=true then((z1p φ k19 n37) x20 x21 x22 x23 x24 x25 (W (x26+1)) x27 x28 x29 (mset x30 ((gt x24 x26).reader) 0) x31 x32 x33 x34 x35 x36) else((z1p φ k19 n37) x20 x21 x22 x23 x24 x25 (W (x26+1)) x27 x28 x29 x30 x31 x32 x33 x34 x35 x36))) else(k19 x20 x21 x22 (W (x23+1)) x27 x28 x29 x30 x31 x32 x33 x34 x35 x36))
def z2j (φ:Nat) (k52 :((List (List z6))->(List z1u)->Int->Int->Pool->Int->Int->(List (Int×Int))->(List ze)->(List (Nat->Ref))->(List z1n)->(List ze)->(List (Nat->Ref))->(List z1n)->Option (z0w×Int×Unit))):Nat->Int->Int->(List (List z6))->(List z1u)->Int->Int->(Nat->Ref)->Int->Int->Int->ze->Int->Int->ze->Int->(Nat->Ref)->(List ze)->Pool->Int->(List (Int×Int))->z1u->(List ze)->(List (Nat->Ref))->(List z1n)->(List ze)->(List (Nat->Ref))->(List z1n)->Option (z0w×Int×Unit)
 | 0,_,_,_,_,_,_,_,_,_,_,_,_,_,_,_,_,_,_,_,_,_,_,_,_,_,_,_=>none
 | n80+1,x53,x54,x55,x56,x57,x58,x59,x60,x61,x62,x63,x64,x65,x66,x67,x68,x69,x70,x71,x72,x73,x74,x75,x76,x77,x78,x79=>(if(decide ((x54:Int)<x53))=true then(ck ((0:Int)<=x54/\x54 <(x69.length:Int)) (ck (fits (x74.length +([(gt x69 x54)]).length) 24) (ck (fits (x75.length +([x68]).length) 32) ((z2j φ k52 n80) x53 (W (x54+1)) x55 x56 x57 x58 x59 x60 x61 x62 x63 x64 x65 x66 x67 x68 x69 x70 x71 x72 x73 (x74++[(gt x69 x54)]) (x75++[x68]) x76 x77 x78 x79)))) else(k52 x55 x56 x57 (W (x58+1)) x70 x71 (W (x67+1)) x72 x77 x78 x79 x74 x75 x76))
def z21 (φ:Nat) (k112 :((List z6)->(List (List z6))->Int->Int->(List z6)->Int->Int->Pool->Int->Int->(List (Int×Int))->(List ze)->(List (Nat->Ref))->(List z1n)->(List ze)->(List (Nat->Ref))->(List z1n)->Option (z0w×Int×Unit))):Nat->Int->Int->(List z6)->(List (List z6))->Int->Int->(List z6)->Int->Int->Ref->Ref->(Nat->Ref)->Int->Int->Int->z8->z0a->z0a->Int->Int->ze->Int->(Nat->Ref)->(List ze)->Pool->Int->(List (Int×Int))->z0a->z6->(List ze)->(List (Nat->Ref))->(List z1n)->(List ze)->(List (Nat->Ref))->(List z1n)->Option (z0w×Int×Unit)
 | 0,_,_,_,_,_,_,_,_,_,_,_,_,_,_,_,_,_,_,_,_,_,_,_,_,_,_,_,_,_,_,_,_,_,_,_=>none
 | n170+1,x135,x136,x137,x138,x139,x140,x141,x142,x143,x144,x145,x146,x147,x148,x149,x150,x151,x152,x153,x154,x155,x156,x157,x158,x159,x160,x161,x162,x163,x164,x165,x166,x167,x168,x169=>(if(decide ((x136:Int)<x135))=true then(ck ((0:Int)<=x136/\x136 <(x158.length:Int)) (ck (fits (x164.length +([(gt x158 x136)]).length) 24) (ck (fits (x165.length +([x157]).length) 32) ((z21 φ k112 n170) x135 (W (x136+1)) x137 x138 x139 x140 x141 x142 x143 x144 x145 x146 x147 x148 x149 x150 x151 x152 x153 x154 x155 x156 x157 x158 x159 x160 x161 x162 x163 (x164++[(gt x158 x136)]) (x165++[x157]) x166 x167 x168 x169)))) else(k112 x137 x138 x139 x140 x141 x142 (W (x143+1)) x159 x160 x156 x161 x167 x168 x169 x164 x165 x166))
def z0u (φ:Nat) (k112 :((List z6)->(List (List z6))->Int->Int->(List z6)->Int->Int->Pool->Int->Int->(List (Int×Int))->(List ze)->(List (Nat->Ref))->(List z1n)->(List ze)->(List (Nat->Ref))->(List z1n)->Option (z0w×Int×Unit))) (x113 :(List z6)) (x114:Int) (x115:Int) (x116 :(List (List z6))) (x117:Int) (x118:Int) (x119 :(List z6)) (x120:Int) (x121:Int) (x122:Pool) (x123:Int) (x124:Int) (x125 :(List (Int×Int))) (x126:z6) (x127 :(List ze)) (x128 :(List (Nat->Ref))) (x129 :(List z1n)) (x130 :(List ze)) (x131 :(List (Nat->Ref))) (x132 :(List z1n)):Option (z0w×Int×Unit):=(if(decide ((0:Int)<x114))=true then(ck ((0:Int)<=(W (x114-1))/\(W (x114-1)) <(x113.length:Int)) ((z4u φ x122.network (((gt x113 (W (x114-1))).visit)) x126.visit).bind fun y134=>(z21 φ k112 φ ((([(⟨x115,W (x115-1),W (0-y134.1)⟩:ze)]).length:Int)) 0 x113 x116 x117 x118 x119 x120 x121 ((((gt x113 (W (x114-1))).visit).ref)) x126.visit.ref ((upd ((upd (fun _=>(default:Ref)) 0 ((((gt x113 (W (x114-1))).visit).ref)))) 1 x126.visit.ref)) x115 x115 (W (x115-1)) x122.network (((gt x113 (W (x114-1))).visit)) x126.visit y134.1 (W (0-y134.1)) (⟨x115,W (x115-1),W (0-y134.1)⟩:ze) x124 ((upd ((upd (fun _=>(default:Ref)) 0 ((((gt x113 (W (x114-1))).visit).ref)))) 1 x126.visit.ref)) ([(⟨x115,W (x115-1),W (0-y134.1)⟩:ze)]) x122 x123 x125 (((gt x113 (W (x114-1))).visit)) x126 x130 x131 x132 x127 x128 x129))) else(k112 x113 x116 x117 x118 x119 x120 (W (x121+1)) x122 x123 x124 x125 x127 x128 x129 x130 x131 x132))
def z24 (φ:Nat) (k112 :((List z6)->(List (List z6))->Int->Int->(List z6)->Int->Int->Pool->Int->Int->(List (Int×Int))->(List ze)->(List (Nat->Ref))->(List z1n)->(List ze)->(List (Nat->Ref))->(List z1n)->Option (z0w×Int×Unit))):Nat->Int->Int->(List z6)->Int->Int->(List (List z6))->Int->Int->(List z6)->Int->Int->Int->(Nat->Ref)->(List ze)->Pool->Int->(List (Int×Int))->z6->(List ze)->(List (Nat->Ref))->(List z1n)->(List ze)->(List (Nat->Ref))->(List z1n)->Option (z0w×Int×Unit)
 | 0,_,_,_,_,_,_,_,_,_,_,_,_,_,_,_,_,_,_,_,_,_,_,_,_=>none
 | n195+1,x171,x172,x173,x174,x175,x176,x177,x178,x179,x180,x181,x182,x183,x184,x185,x186,x187,x188,x189,x190,x191,x192,x193,x194=>(if(decide ((x172:Int)<x171))=true then(ck ((0:Int)<=x172/\x172 <(x184.length:Int)) (ck (fits (x189.length +([(gt x184 x172)]).length) 24) (ck (fits (x190.length +([x183]).length) 32) ((z24 φ k112 n195) x171 (W (x172+1)) x173 x174 x175 x176 x177 x178 x179 x180 x181 x182 x183 x184 x185 x186 x187 x188 (x189++[(gt x184 x172)]) (x190++[x183]) x191 x192 x193 x194)))) else(z0u φ k112 x173 x174 x175 x176 x177 x178 x179 x180 x181 x185 x186 x182 x187 x188 x192 x193 x194 x189 x190 x191))
def z20 (φ:Nat) (k112 :((List z6)->(List (List z6))->Int->Int->(List z6)->Int->Int->Pool->Int->Int->(List (Int×Int))->(List ze)->(List (Nat->Ref))->(List z1n)->(List ze)->(List (Nat->Ref))->(List z1n)->Option (z0w×Int×Unit))):Nat->Int->Int->(List z6)->Int->Int->(List (List z6))->Int->Int->(List z6)->Int->Int->Int->(Nat->Ref)->(List ze)->Pool->Int->(List (Int×Int))->z6->(List ze)->(List (Nat->Ref))->(List z1n)->(List ze)->(List (Nat->Ref))->(List z1n)->Option (z0w×Int×Unit)
 | 0,_,_,_,_,_,_,_,_,_,_,_,_,_,_,_,_,_,_,_,_,_,_,_,_=>none
 | n220+1,x196,x197,x198,x199,x200,x201,x202,x203,x204,x205,x206,x207,x208,x209,x210,x211,x212,x213,x214,x215,x216,x217,x218,x219=>(if(decide ((x197:Int)<x196))=true then(ck ((0:Int)<=x197/\x197 <(x209.length:Int)) (ck (fits (x214.length +([(gt x209 x197)]).length) 24) (ck (fits (x215.length +([x208]).length) 32) ((z20 φ k112 n220) x196 (W (x197+1)) x198 x199 x200 x201 x202 x203 x204 x205 x206 x207 x208 x209 x210 x211 x212 x213 (x214++[(gt x209 x197)]) (x215++[x208]) x216 x217 x218 x219)))) else(z0u φ k112 x198 x199 x200 x201 x202 x203 x204 x205 x206 x210 x211 x207 x212 x213 x217 x218 x219 x214 x215 x216))
def z0b (φ:Nat) (k94 :((List (List z6))->Int->Int->Pool->Int->Int->(List (Int×Int))->(List ze)->(List (Nat->Ref))->(List z1n)->(List ze)->(List (Nat->Ref))->(List z1n)->Option (z0w×Int×Unit))):Nat->(List z6)->(List (List z6))->Int->Int->(List z6)->Int->Int->Pool->Int->Int->(List (Int×Int))->(List ze)->(List (Nat->Ref))->(List z1n)->(List ze)->(List (Nat->Ref))->(List z1n)->Option (z0w×Int×Unit)
 | 0,_,_,_,_,_,_,_,_,_,_,_,_,_,_,_,_,_=>none
 | n112+1,x95,x96,x97,x98,x99,x100,x101,x102,x103,x104,x105,x106,x107,x108,x109,x110,x111=>(if(decide ((x101:Int)<x100))=true then(ck ((0:Int)<=x101/\x101 <(x99.length:Int)) (ck (fits (x111.length +([(⟨((gt x99 x101).visit).wagon,((gt x99 x101).visit).place,x104,((gt x99 x101).visit).ref,((gt x99 x101).visit).stay⟩:z1n)]).length) 48) (if(decide (((gt x99 x101).reader:Int)<0))=true then(z24 φ (z0b φ k94 n112) φ ((([(⟨0,x104,((gt x99 x101).visit).early⟩:ze),(⟨x104,0,W (0 -((gt x99 x101).visit).early)⟩:ze)]).length:Int)) 0 x95 x101 x104 x96 x97 x98 x99 x100 x101 (W (x104+1)) ((upd (fun _=>(default:Ref)) 0 (((gt x99 x101).visit).ref))) ([(⟨0,x104,((gt x99 x101).visit).early⟩:ze),(⟨x104,0,W (0 -((gt x99 x101).visit).early)⟩:ze)]) x102 x103 x105 (gt x99 x101) x109 x110 ((x111++[(⟨((gt x99 x101).visit).wagon,((gt x99 x101).visit).place,x104,((gt x99 x101).visit).ref,((gt x99 x101).visit).stay⟩:z1n)])) x106 x107 x108) else(z20 φ (z0b φ k94 n112) φ ((([(⟨(mget x105 ((gt x99 x101).reader)).getD default,x104,((gt x99 x101).visit).early⟩:ze),(⟨x104,(mget x105 ((gt x99 x101).reader)).getD default,W (0 -((gt x99 x101).visit).early)⟩:ze),(⟨0,x104,1073741824⟩:ze),(⟨x104,0,0⟩:ze)]).length:Int)) 0 x95 x101 x104 x96 x97 x98 x99 x100 x101 (W (x104+1)) ((upd (fun _=>(default:Ref)) 0 (((gt x99 x101).visit).ref))) ([(⟨(mget x105 ((gt x99 x101).reader)).getD default,x104,((gt x99 x101).visit).early⟩:ze),(⟨x104,(mget x105 ((gt x99 x101).reader)).getD default,W (0 -((gt x99 x101).visit).early)⟩:ze),(⟨0,x104,1073741824⟩:ze),(⟨x104,0,0⟩:ze)]) x102 x103 x105 (gt x99 x101) x109 x110 ((x111++[(⟨((gt x99 x101).visit).wagon,((gt x99 x101).visit).place,x104,((gt x99 x101).visit).ref,((gt x99 x101).visit).stay⟩:z1n)])) x106 x107 x108)))) else(k94 x96 x97 (W (x98+1)) x102 x103 x104 x105 x106 x107 x108 x109 x110 x111))
def z1t (φ:Nat):Nat->(List (List z6))->Int->Int->Pool->Int->Int->(List (Int×Int))->(List ze)->(List (Nat->Ref))->(List z1n)->(List ze)->(List (Nat->Ref))->(List z1n)->Option (z0w×Int×Unit)
 | 0,_,_,_,_,_,_,_,_,_,_,_,_,_=>none
 | n94+1,x81,x82,x83,x84,x85,x86,x87,x88,x89,x90,x91,x92,x93=>(if(decide ((x83:Int)<x82))=true then(ck ((0:Int)<=x83/\x83 <(x81.length:Int)) (z0b φ (z1t φ n94) φ (gt x81 x83) x81 x82 x83 (gt x81 x83) ((gt x81 x83).length:Int) 0 x84 x85 x86 x87 x88 x89 x90 x91 x92 x93)) else(if((decide ((512:Int)<x86))||(decide ((4096:Int) <(x91.length:Int))))=true then(some ((⟨0,([]:List ze),([]:List (Nat->Ref)),([]:List z1n)⟩:z0w),2,())) else(some ((⟨x86,x91,x92,x93⟩:z0w),0,()))))
def z1a (φ:Nat):Nat->(List (List z6))->(List z1u)->Int->Int->Pool->Int->Int->(List (Int×Int))->(List ze)->(List (Nat->Ref))->(List z1n)->(List ze)->(List (Nat->Ref))->(List z1n)->Option (z0w×Int×Unit)
 | 0,_,_,_,_,_,_,_,_,_,_,_,_,_,_=>none
 | n52+1,x38,x39,x40,x41,x42,x43,x44,x45,x46,x47,x48,x49,x50,x51=>(if(decide ((x41:Int)<x40))=true then(ck ((0:Int)<=x41/\x41 <(x39.length:Int)) (if(mget x45 x41).isSome=true then(z2j φ (z1a φ n52) φ ((([(⟨0,x44,W (0 -(gt x39 x41).low)⟩:ze),(⟨x44,0,(gt x39 x41).high⟩:ze)]).length:Int)) 0 x38 x39 x40 x41 (fun _=>(default:Ref)) x44 ((gt x39 x41).low) (W (0 -(gt x39 x41).low)) (⟨0,x44,W (0 -(gt x39 x41).low)⟩:ze) x44 ((gt x39 x41).high) (⟨x44,0,(gt x39 x41).high⟩:ze) x44 (fun _=>(default:Ref)) ([(⟨0,x44,W (0 -(gt x39 x41).low)⟩:ze),(⟨x44,0,(gt x39 x41).high⟩:ze)]) x42 x43 (mset x45 x41 x44) (gt x39 x41) x49 x50 x51 x46 x47 x48) else((z1a φ n52) x38 x39 x40 (W (x41+1)) x42 x43 x44 x45 x46 x47 x48 x49 x50 x51))) else(z1t φ φ x38 (x38.length:Int) 0 x42 x43 x44 x45 x46 x47 x48 x49 x50 x51))
def z1s (φ:Nat):Nat->(List (List z6))->(List (List z6))->Int->Int->Pool->Int->Int->(List (Int×Int))->(List ze)->(List (Nat->Ref))->(List z1n)->(List ze)->(List (Nat->Ref))->(List z1n)->Option (z0w×Int×Unit)
 | 0,_,_,_,_,_,_,_,_,_,_,_,_,_,_=>none
 | n19+1,x5,x6,x7,x8,x9,x10,x11,x12,x13,x14,x15,x16,x17,x18=>(if(decide ((x8:Int)<x7))=true then(ck ((0:Int)<=x8/\x8 <(x6.length:Int)) (z1p φ (z1s φ n19) φ x5 x6 x7 x8 (gt x6 x8) ((gt x6 x8).length:Int) 0 x9 x10 x11 x12 x13 x14 x15 x16 x17 x18)) else(z1a φ φ x5 x9.readers (x9.readers.length:Int) 0 x9 x10 x11 x12 x13 x14 x15 x16 x17 x18))
def z7n (φ:Nat) (x1:Pool) (x2 :(List zc)):Option (z0w×Int×Unit):=((z2l φ x1).bind fun y3=>(if((y3.1:Int) !=0)=true then(some ((⟨0,([]:List ze),([]:List (Nat->Ref)),([]:List z1n)⟩:z0w),y3.1,())) else((z64 φ x1 x2).bind fun y4=>(z1s φ φ y4.1 y4.1 (y4.1.length:Int) 0 x1 0 1 ([]:List (Int×Int)) ([]:List ze) ([]:List (Nat->Ref)) ([]:List z1n) ([]:List ze) ([]:List (Nat->Ref)) ([]:List z1n)))))
def z9m (φ:Nat):Fsp TV:=⟨[30,38],[.val 49,.val 0],fun z=>z7n φ z.1 z.2.1⟩
def zbl (φ:Nat) (k23 :((List Edge)->Int->Int->Int->Int->z8->z8->(List (List Int))->(List ((Nat->Int)×Int))->Option ((List Int)×Int×Unit))) (x40:Int) (x41:Int) (x42:Bool) (x43 :(List Edge)) (x44:Int) (x45:Int) (x46:Int) (x47:Int) (x48:z8) (x49 :(Nat->Int)) (x50:z8) (x51 :(List (List Int))) (x52 :(List ((Nat->Int)×Int))):Option ((List Int)×Int×Unit):=(ck (((!x42)=false)->(0:Int)<=x40/\x40 <(x48.edges.length:Int)) (ck (((!x42)=false)->(0:Int)<=x41/\x41 <(x48.edges.length:Int)) (if((!x42)||(decide (((gt x48.edges x40).minutes:Int) <(gt x48.edges x41).minutes)))=true then(k23 x43 x44 (W (x45+1)) x46 x47 x48 x50 x51 (@mset _ _ ⟨beqA 2⟩ x52 x49 x40)) else(k23 x43 x44 (W (x45+1)) x46 x47 x48 x50 x51 x52))))
def z7s (φ:Nat) (k23 :((List Edge)->Int->Int->Int->Int->z8->z8->(List (List Int))->(List ((Nat->Int)×Int))->Option ((List Int)×Int×Unit))) (x54:Int) (x55:Int) (x56:Bool) (x57 :(List Edge)) (x58:Int) (x59:Int) (x60:Int) (x61:Int) (x62:z8) (x63 :(Nat->Int)) (x64:z8) (x65 :(List (List Int))) (x66 :(List ((Nat->Int)×Int))):Option ((List Int)×Int×Unit):=(ck (((!x56)=false)->(0:Int)<=x54/\x54 <(x62.edges.length:Int)) (ck (((!x56)=false)->(0:Int)<=x55/\x55 <(x62.edges.length:Int)) (if((!x56)||(decide (((gt x62.edges x54).minutes:Int) <(gt x62.edges x55).minutes)))=true then(k23 x57 x58 (W (x59+1)) x60 x61 x62 x64 x65 (@mset _ _ ⟨beqA 2⟩ x66 x63 x54)) else(k23 x57 x58 (W (x59+1)) x60 x61 x62 x64 x65 x66))))
def z7z (φ:Nat) (k23 :((List Edge)->Int->Int->Int->Int->z8->z8->(List (List Int))->(List ((Nat->Int)×Int))->Option ((List Int)×Int×Unit))) (x24:Int) (x25:Int) (x26:Bool) (x27:Int) (x28 :(List Edge)) (x29:Int) (x30:Int) (x31:Int) (x32:Int) (x33:z8) (x34 :(Nat->Int)) (x35:Edge) (x36:z8) (x37 :(List (List Int))) (x38 :(List ((Nat->Int)×Int))):Option ((List Int)×Int×Unit):=(ck (((!x26)=false)->(0:Int)<=x24/\x24 <(x33.edges.length:Int)) (ck (((!x26)=false)->(0:Int)<=x25/\x25 <(x33.edges.length:Int)) (if((!x26)||(decide (((gt x33.edges x24).minutes:Int) <(gt x33.edges x25).minutes)))=true then(if(!(@mget _ _ ⟨beqA 2⟩ (@mset _ _ ⟨beqA 2⟩ x38 x34 x24) ((upd (upd (fun _=>(default:Int)) 0 x35.b) 1 x35.a))).isSome)=true then(ck ((0:Int)<=x35.b/\x35.b <(x37.length:Int)) (ck ((0:Int)<=x35.b/\x35.b <(x37.length:Int)) (ck ((x35.b:Int)=x35.b) (ck (fits ((gt x37 x35.b).length +([x35.a]).length) 8) (ck ((0:Int)<=x35.b/\x35.b <(x37.length:Int)) (ck ((x35.b:Int)=x35.b) (zbl φ k23 x27 (((@mget _ _ ⟨beqA 2⟩ (@mset _ _ ⟨beqA 2⟩ x38 x34 x24) ((upd (upd (fun _=>(default:Int)) 0 x35.b) 1 x35.a))).getD default)) ((@mget _ _ ⟨beqA 2⟩ (@mset _ _ ⟨beqA 2⟩ x38 x34 x24) ((upd (upd (fun _=>(default:Int)) 0 x35.b) 1 x35.a))).isSome) x28 x29 x30 x31 x32 x33 ((upd (upd (fun _=>(default:Int)) 0 x35.b) 1 x35.a)) x36 (zi x37 x35.b ((gt x37 x35.b)++[x35.a])) (@mset _ _ ⟨beqA 2⟩ x38 x34 x24)))))))) else(zbl φ k23 x27 (((@mget _ _ ⟨beqA 2⟩ (@mset _ _ ⟨beqA 2⟩ x38 x34 x24) ((upd (upd (fun _=>(default:Int)) 0 x35.b) 1 x35.a))).getD default)) ((@mget _ _ ⟨beqA 2⟩ (@mset _ _ ⟨beqA 2⟩ x38 x34 x24) ((upd (upd (fun _=>(default:Int)) 0 x35.b) 1 x35.a))).isSome) x28 x29 x30 x31 x32 x33 ((upd (upd (fun _=>(default:Int)) 0 x35.b) 1 x35.a)) x36 x37 (@mset _ _ ⟨beqA 2⟩ x38 x34 x24))) else(if(!(@mget _ _ ⟨beqA 2⟩ x38 ((upd (upd (fun _=>(default:Int)) 0 x35.b) 1 x35.a))).isSome)=true then(ck ((0:Int)<=x35.b/\x35.b <(x37.length:Int)) (ck ((0:Int)<=x35.b/\x35.b <(x37.length:Int)) (ck ((x35.b:Int)=x35.b) (ck (fits ((gt x37 x35.b).length +([x35.a]).length) 8) (ck ((0:Int)<=x35.b/\x35.b <(x37.length:Int)) (ck ((x35.b:Int)=x35.b) (z7s φ k23 x27 (((@mget _ _ ⟨beqA 2⟩ x38 ((upd (upd (fun _=>(default:Int)) 0 x35.b) 1 x35.a))).getD default)) ((@mget _ _ ⟨beqA 2⟩ x38 ((upd (upd (fun _=>(default:Int)) 0 x35.b) 1 x35.a))).isSome) x28 x29 x30 x31 x32 x33 ((upd (upd (fun _=>(default:Int)) 0 x35.b) 1 x35.a)) x36 (zi x37 x35.b ((gt x37 x35.b)++[x35.a])) x38))))))) else(z7s φ k23 x27 (((@mget _ _ ⟨beqA 2⟩ x38 ((upd (upd (fun _=>(default:Int)) 0 x35.b) 1 x35.a))).getD default)) ((@mget _ _ ⟨beqA 2⟩ x38 ((upd (upd (fun _=>(default:Int)) 0 x35.b) 1 x35.a))).isSome) x28 x29 x30 x31 x32 x33 ((upd (upd (fun _=>(default:Int)) 0 x35.b) 1 x35.a)) x36 x37 x38)))))
def z78 (φ:Nat) (k117 :(Int->Int->z8->(List Int)->(List Int)->(List (List Int))->(List ((Nat->Int)×Int))->Option ((List Int)×Int×Unit))) (x118:Int) (x119:Int) (x120:z8) (x121 :(List Int)) (x122 :(List Int)) (x123 :(List (List Int))) (x124 :(List ((Nat->Int)×Int))):Option ((List Int)×Int×Unit):=(ck (fits (x121.length +([x118]).length) 8) (k117 x118 x119 x120 (x121++[x118]) x122 x123 x124))
def z6u (φ:Nat) (k117 :(Int->Int->z8->(List Int)->(List Int)->(List (List Int))->(List ((Nat->Int)×Int))->Option ((List Int)×Int×Unit))):Nat->Int->Int->Int->Int->z8->(List Int)->(List Int)->(List Int)->(List (List Int))->Int->(List ((Nat->Int)×Int))->Option ((List Int)×Int×Unit)
 | 0,_,_,_,_,_,_,_,_,_,_,_=>none
 | n137+1,x126,x127,x128,x129,x130,x131,x132,x133,x134,x135,x136=>(if(decide ((x129:Int)<x128))=true then(ck ((0:Int)<=x129/\x129 <(x133.length:Int)) (ck ((0:Int)<=(gt x133 x129)/\(gt x133 x129) <(x132.length:Int)) (ck ((0:Int)<=((@mget _ _ ⟨beqA 2⟩ x136 ((upd (upd (fun _=>(default:Int)) 0 x126) 1 (gt x133 x129)))).getD default)/\((@mget _ _ ⟨beqA 2⟩ x136 ((upd (upd (fun _=>(default:Int)) 0 x126) 1 (gt x133 x129)))).getD default) <(x130.edges.length:Int)) (ck ((0:Int)<=x126/\x126 <(x132.length:Int)) (if(((W ((gt x132 (gt x133 x129)) +((gt x130.edges (((@mget _ _ ⟨beqA 2⟩ x136 ((upd (upd (fun _=>(default:Int)) 0 x126) 1 (gt x133 x129)))).getD default)))).minutes)):Int)==(gt x132 x126))=true then(z78 φ k117 (gt x133 x129) x127 x130 x131 x132 (zi x134 x135 x133) x136) else((z6u φ k117 n137) x126 x127 x128 (W (x129+1)) x130 x131 x132 x133 x134 x135 x136)))))) else(z78 φ k117 x126 x127 x130 x131 x132 (zi x134 x135 x133) x136))
def z6b (φ:Nat):Nat->Int->Int->z8->(List Int)->(List Int)->(List (List Int))->(List ((Nat->Int)×Int))->Option ((List Int)×Int×Unit)
 | 0,_,_,_,_,_,_,_=>none
 | n117+1,x110,x111,x112,x113,x114,x115,x116=>(if((x110:Int) !=x111)=true then(ck ((0:Int)<=x110/\x110 <(x115.length:Int)) (ck ((0:Int)<=x110/\x110 <(x115.length:Int)) (ck ((x110:Int)=x110) (z6u φ (z6b φ n117) φ x110 x111 ((gt x115 x110).length:Int) 0 x112 x113 x114 (gt x115 x110) x115 x110 x116)))) else(some (x113,0,())))
def z4n (φ:Nat) (k97 :(Int->Int->z8->(List Int)->(List Bool)->z8->(List (List Int))->(List ((Nat->Int)×Int))->Option ((List Int)×Int×Unit))):Nat->Int->Int->Int->Int->Int->z8->(List Int)->(List Bool)->(List Int)->z8->(List (List Int))->Int->(List ((Nat->Int)×Int))->Option ((List Int)×Int×Unit)
 | 0,_,_,_,_,_,_,_,_,_,_,_,_,_=>none
 | n151+1,x138,x139,x140,x141,x142,x143,x144,x145,x146,x147,x148,x149,x150=>(if(decide ((x140:Int)<x139))=true then(ck ((0:Int)<=x140/\x140 <(x146.length:Int)) (ck ((0:Int)<=x138/\x138 <(x144.length:Int)) (ck ((0:Int)<=((@mget _ _ ⟨beqA 2⟩ x150 ((upd (upd (fun _=>(default:Int)) 0 x138) 1 (gt x146 x140)))).getD default)/\((@mget _ _ ⟨beqA 2⟩ x150 ((upd (upd (fun _=>(default:Int)) 0 x138) 1 (gt x146 x140)))).getD default) <(x143.edges.length:Int)) (ck ((0:Int)<=(gt x146 x140)/\(gt x146 x140) <(x144.length:Int)) (ck (((decide (((gt x144 (gt x146 x140)):Int)<0))=false)->(0:Int)<=(gt x146 x140)/\(gt x146 x140) <(x144.length:Int)) (if((decide (((gt x144 (gt x146 x140)):Int)<0))||(decide (((W ((gt x144 x138) +((gt x143.edges (((@mget _ _ ⟨beqA 2⟩ x150 ((upd (upd (fun _=>(default:Int)) 0 x138) 1 (gt x146 x140)))).getD default)))).minutes)):Int) <(gt x144 (gt x146 x140)))))=true then(ck ((0:Int)<=(gt x146 x140)/\(gt x146 x140) <(x144.length:Int)) ((z4n φ k97 n151) x138 x139 (W (x140+1)) x141 x142 x143 ((zi x144 (gt x146 x140) ((W ((gt x144 x138) +((gt x143.edges (((@mget _ _ ⟨beqA 2⟩ x150 ((upd (upd (fun _=>(default:Int)) 0 x138) 1 (gt x146 x140)))).getD default)))).minutes))))) x145 x146 x147 x148 x149 x150)) else((z4n φ k97 n151) x138 x139 (W (x140+1)) x141 x142 x143 x144 x145 x146 x147 x148 x149 x150))))))) else(k97 x141 x142 x143 x144 x145 x147 (zi x148 x149 x146) x150))
def z4h (φ:Nat) (k97 :(Int->Int->z8->(List Int)->(List Bool)->z8->(List (List Int))->(List ((Nat->Int)×Int))->Option ((List Int)×Int×Unit))):Nat->Int->Int->Int->Int->Int->z8->(List Int)->(List Bool)->z8->(List (List Int))->(List ((Nat->Int)×Int))->Option ((List Int)×Int×Unit)
 | 0,_,_,_,_,_,_,_,_,_,_,_=>none
 | n109+1,x98,x99,x100,x101,x102,x103,x104,x105,x106,x107,x108=>(if(decide ((x100:Int)<x99))=true then(ck ((0:Int)<=x100/\x100 <(x104.length:Int)) (ck (((decide ((0:Int)<=(gt x104 x100)))=true)->(0:Int)<=x100/\x100 <(x105.length:Int)) (ck ((((decide ((0:Int)<=(gt x104 x100)))&&(!(gt x105 x100)))=true/\(decide ((x98:Int)<0))=false)->(0:Int)<=x100/\x100 <(x104.length:Int)) (ck ((((decide ((0:Int)<=(gt x104 x100)))&&(!(gt x105 x100)))=true/\(decide ((x98:Int)<0))=false)->(0:Int)<=x98/\x98 <(x104.length:Int)) (if(((decide ((0:Int)<=(gt x104 x100)))&&(!(gt x105 x100)))&&((decide ((x98:Int)<0))||(decide (((gt x104 x100):Int) <(gt x104 x98)))))=true then((z4h φ k97 n109) x100 x99 (W (x100+1)) x101 x102 x103 x104 x105 x106 x107 x108) else((z4h φ k97 n109) x98 x99 (W (x100+1)) x101 x102 x103 x104 x105 x106 x107 x108)))))) else(if(decide ((x98:Int)<0))=true then(ck ((0:Int)<=x101/\x101 <(x104.length:Int)) (if(decide (((gt x104 x101):Int)<0))=true then(some (([]:List Int),80,())) else(z6b φ φ x101 x102 x106 ([x101]) x104 x107 x108))) else(ck ((0:Int)<=x98/\x98 <(x105.length:Int)) (ck ((0:Int)<=x98/\x98 <(x107.length:Int)) (ck ((0:Int)<=x98/\x98 <(x107.length:Int)) (ck ((x98:Int)=x98) (z4n φ k97 φ x98 ((gt x107 x98).length:Int) 0 x101 x102 x103 x104 (zi x105 x98 true) (gt x107 x98) x106 x107 x98 x108)))))))
def z7y (φ:Nat):Nat->Int->Int->z8->(List Int)->(List Bool)->z8->(List (List Int))->(List ((Nat->Int)×Int))->Option ((List Int)×Int×Unit)
 | 0,_,_,_,_,_,_,_,_=>none
 | n97+1,x89,x90,x91,x92,x93,x94,x95,x96=>(z4h φ (z7y φ n97) φ (-1) (x92.length:Int) 0 x89 x90 x91 x92 x93 x94 x95 x96)
def z7j (φ:Nat):Nat->Int->Int->Int->Int->Int->z8->(List Int)->(List Bool)->z8->(List (List Int))->(List ((Nat->Int)×Int))->Option ((List Int)×Int×Unit)
 | 0,_,_,_,_,_,_,_,_,_,_,_=>none
 | n88+1,x77,x78,x79,x80,x81,x82,x83,x84,x85,x86,x87=>(if(decide ((x79:Int)<x78))=true then(ck ((0:Int)<=x79/\x79 <(x83.length:Int)) ((z7j φ n88) x77 x78 (W (x79+1)) x80 x81 x82 (zi x83 x79 (-1)) x84 x85 x86 x87)) else(ck ((0:Int)<=x77/\x77 <(x83.length:Int)) (z7y φ φ x80 x81 x82 (zi x83 x77 0) x84 x85 x86 x87)))
def z83 (φ:Nat):Nat->Int->Int->Int->Int->(List (List Int))->z8->(List ((Nat->Int)×Int))->Option ((List Int)×Int×Unit)
 | 0,_,_,_,_,_,_,_=>none
 | n75+1,x68,x69,x70,x71,x72,x73,x74=>(if(decide ((x69:Int)<x68))=true then(ck ((0:Int)<=x69/\x69 <(x72.length:Int)) (ck ((0:Int)<=x69/\x69 <(x72.length:Int)) (ck ((x69:Int)=x69) ((zj6 (gt x72 x69)).bind fun y76=>((z83 φ n75) x68 (W (x69+1)) x70 x71 (zi x72 x69 y76) x73 x74))))) else(ck (z3i (x73.places.length:Int) 8) (ck (z3i (((List.replicate ((x73.places.length:Int):Int).toNat (default:Int)).length:Int)) 1) (z7j φ φ x71 (((List.replicate ((x73.places.length:Int):Int).toNat (default:Int)).length:Int)) 0 x70 x71 x73 (List.replicate ((x73.places.length:Int):Int).toNat (default:Int)) ((List.replicate (((List.replicate ((x73.places.length:Int):Int).toNat (default:Int)).length:Int):Int).toNat (default:Bool))) x73 x72 x74))))
def z5b (φ:Nat):Nat->(List Edge)->Int->Int->Int->Int->z8->z8->(List (List Int))->(List ((Nat->Int)×Int))->Option ((List Int)×Int×Unit)
 | 0,_,_,_,_,_,_,_,_,_=>none
 | n23+1,x14,x15,x16,x17,x18,x19,x20,x21,x22=>(if(decide ((x16:Int)<x15))=true then(ck ((0:Int)<=x16/\x16 <(x14.length:Int)) (if(!(@mget _ _ ⟨beqA 2⟩ x22 ((upd (upd (fun _=>(default:Int)) 0 ((gt x14 x16).a)) 1 ((gt x14 x16).b)))).isSome)=true then(ck ((0:Int)<=(gt x14 x16).a/\(gt x14 x16).a <(x21.length:Int)) (ck ((0:Int)<=(gt x14 x16).a/\(gt x14 x16).a <(x21.length:Int)) (ck (((gt x14 x16).a:Int) =(gt x14 x16).a) (ck (fits ((gt x21 ((gt x14 x16).a)).length +([(gt x14 x16).b]).length) 8) (ck ((0:Int)<=(gt x14 x16).a/\(gt x14 x16).a <(x21.length:Int)) (ck (((gt x14 x16).a:Int) =(gt x14 x16).a) (z7z φ (z5b φ n23) x16 (((@mget _ _ ⟨beqA 2⟩ x22 ((upd (upd (fun _=>(default:Int)) 0 ((gt x14 x16).a)) 1 ((gt x14 x16).b)))).getD default)) ((@mget _ _ ⟨beqA 2⟩ x22 ((upd (upd (fun _=>(default:Int)) 0 ((gt x14 x16).a)) 1 ((gt x14 x16).b)))).isSome) x16 x14 x15 x16 x17 x18 x19 ((upd (upd (fun _=>(default:Int)) 0 ((gt x14 x16).a)) 1 ((gt x14 x16).b))) (gt x14 x16) x20 ((zi x21 ((gt x14 x16).a) (((gt x21 ((gt x14 x16).a))++[(gt x14 x16).b])))) x22))))))) else(z7z φ (z5b φ n23) x16 (((@mget _ _ ⟨beqA 2⟩ x22 ((upd (upd (fun _=>(default:Int)) 0 ((gt x14 x16).a)) 1 ((gt x14 x16).b)))).getD default)) ((@mget _ _ ⟨beqA 2⟩ x22 ((upd (upd (fun _=>(default:Int)) 0 ((gt x14 x16).a)) 1 ((gt x14 x16).b)))).isSome) x16 x14 x15 x16 x17 x18 x19 ((upd (upd (fun _=>(default:Int)) 0 ((gt x14 x16).a)) 1 ((gt x14 x16).b))) (gt x14 x16) x20 x21 x22))) else(z83 φ φ (x21.length:Int) 0 x17 x18 x21 x20 x22))
end Px
end
section
set_option maxHeartbeats 4000000
set_option maxRecDepth 100000
namespace Px
open Go Go.RowKit
def z80 (φ:Nat):Nat->Int->Int->Int->Int->z8->(List Int)->z8->(List (List Int))->Option ((List Int)×Int×Unit)
 | 0,_,_,_,_,_,_,_,_=>none
 | n13+1,x5,x6,x7,x8,x9,x10,x11,x12=>(if(decide ((x6:Int)<x5))=true then(ck ((0:Int)<=x6/\x6 <(x10.length:Int)) (if((decide (((gt x10 x6):Int)<0))||(decide (((x9.places.length:Int):Int)<=(gt x10 x6))))=true then(some (([]:List Int),1,())) else((z80 φ n13) x5 (W (x6+1)) x7 x8 x9 x10 x11 x12))) else(ck (z3i (x9.places.length:Int) 24) (z5b φ φ x9.edges (x9.edges.length:Int) 0 x7 x8 x9 x11 (List.replicate ((x9.places.length:Int):Int).toNat (default :(List Int))) ([]:List ((Nat->Int)×Int)))))
def z2x (φ:Nat) (x1:z8) (x2:Int) (x3:Int):Option ((List Int)×Int×Unit):=((z3z φ x1).bind fun y4=>(if((y4.1:Int) !=0)=true then(if((y4.1:Int) !=0)=true then(some (([]:List Int),y4.1,())) else(ck (z3i (x1.places.length:Int) 8) (ck (z3i (((List.replicate ((x1.places.length:Int):Int).toNat (default:Int)).length:Int)) 1) none))) else(z80 φ φ (([x2,x3]).length:Int) 0 x2 x3 x1 ([x2,x3]) x1 ([]:List (List Int)))))
def zac (φ:Nat):Fsp TV:=⟨[10,0,0],[.val 5,.val 0],fun z=>z2x φ z.1 z.2.1 z.2.2.1⟩
def zau (φ:Nat) (k22 :((List Edge)->Int->Int->(List Int)->z8->z8->(List z3y)->(List (List Int))->(List ((Nat->Int)×Int))->Option ((List z3y)×Int×Unit))) (x39:Int) (x40:Int) (x41:Bool) (x42 :(List Edge)) (x43:Int) (x44:Int) (x45 :(List Int)) (x46:z8) (x47 :(Nat->Int)) (x48:z8) (x49 :(List z3y)) (x50 :(List (List Int))) (x51 :(List ((Nat->Int)×Int))):Option ((List z3y)×Int×Unit):=(ck (((!x41)=false)->(0:Int)<=x39/\x39 <(x46.edges.length:Int)) (ck (((!x41)=false)->(0:Int)<=x40/\x40 <(x46.edges.length:Int)) (if((!x41)||(decide (((gt x46.edges x39).minutes:Int) <(gt x46.edges x40).minutes)))=true then(k22 x42 x43 (W (x44+1)) x45 x46 x48 x49 x50 (@mset _ _ ⟨beqA 2⟩ x51 x47 x39)) else(k22 x42 x43 (W (x44+1)) x45 x46 x48 x49 x50 x51))))
def z6p (φ:Nat) (k22 :((List Edge)->Int->Int->(List Int)->z8->z8->(List z3y)->(List (List Int))->(List ((Nat->Int)×Int))->Option ((List z3y)×Int×Unit))) (x53:Int) (x54:Int) (x55:Bool) (x56 :(List Edge)) (x57:Int) (x58:Int) (x59 :(List Int)) (x60:z8) (x61 :(Nat->Int)) (x62:z8) (x63 :(List z3y)) (x64 :(List (List Int))) (x65 :(List ((Nat->Int)×Int))):Option ((List z3y)×Int×Unit):=(ck (((!x55)=false)->(0:Int)<=x53/\x53 <(x60.edges.length:Int)) (ck (((!x55)=false)->(0:Int)<=x54/\x54 <(x60.edges.length:Int)) (if((!x55)||(decide (((gt x60.edges x53).minutes:Int) <(gt x60.edges x54).minutes)))=true then(k22 x56 x57 (W (x58+1)) x59 x60 x62 x63 x64 (@mset _ _ ⟨beqA 2⟩ x65 x61 x53)) else(k22 x56 x57 (W (x58+1)) x59 x60 x62 x63 x64 x65))))
def z6f (φ:Nat) (k22 :((List Edge)->Int->Int->(List Int)->z8->z8->(List z3y)->(List (List Int))->(List ((Nat->Int)×Int))->Option ((List z3y)×Int×Unit))) (x23:Int) (x24:Int) (x25:Bool) (x26:Int) (x27 :(List Edge)) (x28:Int) (x29:Int) (x30 :(List Int)) (x31:z8) (x32 :(Nat->Int)) (x33:Edge) (x34:z8) (x35 :(List z3y)) (x36 :(List (List Int))) (x37 :(List ((Nat->Int)×Int))):Option ((List z3y)×Int×Unit):=(ck (((!x25)=false)->(0:Int)<=x23/\x23 <(x31.edges.length:Int)) (ck (((!x25)=false)->(0:Int)<=x24/\x24 <(x31.edges.length:Int)) (if((!x25)||(decide (((gt x31.edges x23).minutes:Int) <(gt x31.edges x24).minutes)))=true then(if(!(@mget _ _ ⟨beqA 2⟩ (@mset _ _ ⟨beqA 2⟩ x37 x32 x23) ((upd (upd (fun _=>(default:Int)) 0 x33.b) 1 x33.a))).isSome)=true then(ck ((0:Int)<=x33.b/\x33.b <(x36.length:Int)) (ck ((0:Int)<=x33.b/\x33.b <(x36.length:Int)) (ck ((x33.b:Int)=x33.b) (ck (fits ((gt x36 x33.b).length +([x33.a]).length) 8) (ck ((0:Int)<=x33.b/\x33.b <(x36.length:Int)) (ck ((x33.b:Int)=x33.b) (zau φ k22 x26 (((@mget _ _ ⟨beqA 2⟩ (@mset _ _ ⟨beqA 2⟩ x37 x32 x23) ((upd (upd (fun _=>(default:Int)) 0 x33.b) 1 x33.a))).getD default)) ((@mget _ _ ⟨beqA 2⟩ (@mset _ _ ⟨beqA 2⟩ x37 x32 x23) ((upd (upd (fun _=>(default:Int)) 0 x33.b) 1 x33.a))).isSome) x27 x28 x29 x30 x31 ((upd (upd (fun _=>(default:Int)) 0 x33.b) 1 x33.a)) x34 x35 (zi x36 x33.b ((gt x36 x33.b)++[x33.a])) (@mset _ _ ⟨beqA 2⟩ x37 x32 x23)))))))) else(zau φ k22 x26 (((@mget _ _ ⟨beqA 2⟩ (@mset _ _ ⟨beqA 2⟩ x37 x32 x23) ((upd (upd (fun _=>(default:Int)) 0 x33.b) 1 x33.a))).getD default)) ((@mget _ _ ⟨beqA 2⟩ (@mset _ _ ⟨beqA 2⟩ x37 x32 x23) ((upd (upd (fun _=>(default:Int)) 0 x33.b) 1 x33.a))).isSome) x27 x28 x29 x30 x31 ((upd (upd (fun _=>(default:Int)) 0 x33.b) 1 x33.a)) x34 x35 x36 (@mset _ _ ⟨beqA 2⟩ x37 x32 x23))) else(if(!(@mget _ _ ⟨beqA 2⟩ x37 ((upd (upd (fun _=>(default:Int)) 0 x33.b) 1 x33.a))).isSome)=true then(ck ((0:Int)<=x33.b/\x33.b <(x36.length:Int)) (ck ((0:Int)<=x33.b/\x33.b <(x36.length:Int)) (ck ((x33.b:Int)=x33.b) (ck (fits ((gt x36 x33.b).length +([x33.a]).length) 8) (ck ((0:Int)<=x33.b/\x33.b <(x36.length:Int)) (ck ((x33.b:Int)=x33.b) (z6p φ k22 x26 (((@mget _ _ ⟨beqA 2⟩ x37 ((upd (upd (fun _=>(default:Int)) 0 x33.b) 1 x33.a))).getD default)) ((@mget _ _ ⟨beqA 2⟩ x37 ((upd (upd (fun _=>(default:Int)) 0 x33.b) 1 x33.a))).isSome) x27 x28 x29 x30 x31 ((upd (upd (fun _=>(default:Int)) 0 x33.b) 1 x33.a)) x34 x35 (zi x36 x33.b ((gt x36 x33.b)++[x33.a])) x37))))))) else(z6p φ k22 x26 (((@mget _ _ ⟨beqA 2⟩ x37 ((upd (upd (fun _=>(default:Int)) 0 x33.b) 1 x33.a))).getD default)) ((@mget _ _ ⟨beqA 2⟩ x37 ((upd (upd (fun _=>(default:Int)) 0 x33.b) 1 x33.a))).isSome) x27 x28 x29 x30 x31 ((upd (upd (fun _=>(default:Int)) 0 x33.b) 1 x33.a)) x34 x35 x36 x37)))))
def z4k (φ:Nat):Nat->Int->(List z3y)->(List (Int×Int))->Option ((List z3y)×Int×Unit)
 | 0,_,_,_=>none
 | n87+1,x84,x85,x86=>(if(decide ((x84:Int)<16))=true then(if(mget x86 x84).isSome=true then(ck (fits (x85.length +([(⟨x84,(mget x86 x84).getD default⟩:z3y)]).length) 16) ((z4k φ n87) (W (x84+1)) (x85++[(⟨x84,(mget x86 x84).getD default⟩:z3y)]) x86)) else((z4k φ n87) (W (x84+1)) x85 x86)) else(some (x85,0,())))
def z6e (φ:Nat):Nat->(List Int)->Int->z8->(List z3y)->(List (Int×Int))->(List (List Int))->(List ((Nat->Int)×Int))->Option ((List z3y)×Int×Unit)
 | 0,_,_,_,_,_,_,_=>none
 | n83+1,x76,x77,x78,x79,x80,x81,x82=>(if(decide ((x77:Int) <(x76.length:Int)))=true then(ck ((0:Int)<=(W (x77-1))/\(W (x77-1)) <(x76.length:Int)) (ck ((0:Int)<=x77/\x77 <(x76.length:Int)) (if(!(@mget _ _ ⟨beqA 2⟩ x82 ((upd ((upd (fun _=>(default:Int)) 0 (gt x76 (W (x77-1))))) 1 (gt x76 x77)))).isSome)=true then(some (([]:List z3y),80,())) else(ck ((0:Int)<=((@mget _ _ ⟨beqA 2⟩ x82 ((upd ((upd (fun _=>(default:Int)) 0 (gt x76 (W (x77-1))))) 1 (gt x76 x77)))).getD default)/\((@mget _ _ ⟨beqA 2⟩ x82 ((upd ((upd (fun _=>(default:Int)) 0 (gt x76 (W (x77-1))))) 1 (gt x76 x77)))).getD default) <(x78.edges.length:Int)) (ck ((0:Int)<=((@mget _ _ ⟨beqA 2⟩ x82 ((upd ((upd (fun _=>(default:Int)) 0 (gt x76 (W (x77-1))))) 1 (gt x76 x77)))).getD default)/\((@mget _ _ ⟨beqA 2⟩ x82 ((upd ((upd (fun _=>(default:Int)) 0 (gt x76 (W (x77-1))))) 1 (gt x76 x77)))).getD default) <(x78.edges.length:Int)) ((z6e φ n83) x76 (W (x77+1)) x78 x79 ((mset x80 (((gt x78.edges (((@mget _ _ ⟨beqA 2⟩ x82 ((upd ((upd (fun _=>(default:Int)) 0 (gt x76 (W (x77-1))))) 1 (gt x76 x77)))).getD default)))).railway) ((W (((mget x80 (((gt x78.edges (((@mget _ _ ⟨beqA 2⟩ x82 ((upd ((upd (fun _=>(default:Int)) 0 (gt x76 (W (x77-1))))) 1 (gt x76 x77)))).getD default)))).railway)).getD default) +((gt x78.edges (((@mget _ _ ⟨beqA 2⟩ x82 ((upd ((upd (fun _=>(default:Int)) 0 (gt x76 (W (x77-1))))) 1 (gt x76 x77)))).getD default)))).km))))) x81 x82)))))) else(z4k φ φ 0 x79 x80))
def z6h (φ:Nat):Nat->Int->Int->(List Int)->(List (List Int))->z8->(List z3y)->(List ((Nat->Int)×Int))->Option ((List z3y)×Int×Unit)
 | 0,_,_,_,_,_,_,_=>none
 | n74+1,x67,x68,x69,x70,x71,x72,x73=>(if(decide ((x68:Int)<x67))=true then(ck ((0:Int)<=x68/\x68 <(x70.length:Int)) (ck ((0:Int)<=x68/\x68 <(x70.length:Int)) (ck ((x68:Int)=x68) ((zj6 (gt x70 x68)).bind fun y75=>((z6h φ n74) x67 (W (x68+1)) x69 (zi x70 x68 y75) x71 x72 x73))))) else(z6e φ φ x69 1 x71 x72 ([]:List (Int×Int)) x70 x73))
def z4q (φ:Nat):Nat->(List Edge)->Int->Int->(List Int)->z8->z8->(List z3y)->(List (List Int))->(List ((Nat->Int)×Int))->Option ((List z3y)×Int×Unit)
 | 0,_,_,_,_,_,_,_,_,_=>none
 | n22+1,x13,x14,x15,x16,x17,x18,x19,x20,x21=>(if(decide ((x15:Int)<x14))=true then(ck ((0:Int)<=x15/\x15 <(x13.length:Int)) (if(!(@mget _ _ ⟨beqA 2⟩ x21 ((upd (upd (fun _=>(default:Int)) 0 ((gt x13 x15).a)) 1 ((gt x13 x15).b)))).isSome)=true then(ck ((0:Int)<=(gt x13 x15).a/\(gt x13 x15).a <(x20.length:Int)) (ck ((0:Int)<=(gt x13 x15).a/\(gt x13 x15).a <(x20.length:Int)) (ck (((gt x13 x15).a:Int) =(gt x13 x15).a) (ck (fits ((gt x20 ((gt x13 x15).a)).length +([(gt x13 x15).b]).length) 8) (ck ((0:Int)<=(gt x13 x15).a/\(gt x13 x15).a <(x20.length:Int)) (ck (((gt x13 x15).a:Int) =(gt x13 x15).a) (z6f φ (z4q φ n22) x15 (((@mget _ _ ⟨beqA 2⟩ x21 ((upd (upd (fun _=>(default:Int)) 0 ((gt x13 x15).a)) 1 ((gt x13 x15).b)))).getD default)) ((@mget _ _ ⟨beqA 2⟩ x21 ((upd (upd (fun _=>(default:Int)) 0 ((gt x13 x15).a)) 1 ((gt x13 x15).b)))).isSome) x15 x13 x14 x15 x16 x17 ((upd (upd (fun _=>(default:Int)) 0 ((gt x13 x15).a)) 1 ((gt x13 x15).b))) (gt x13 x15) x18 x19 ((zi x20 ((gt x13 x15).a) (((gt x20 ((gt x13 x15).a))++[(gt x13 x15).b])))) x21))))))) else(z6f φ (z4q φ n22) x15 (((@mget _ _ ⟨beqA 2⟩ x21 ((upd (upd (fun _=>(default:Int)) 0 ((gt x13 x15).a)) 1 ((gt x13 x15).b)))).getD default)) ((@mget _ _ ⟨beqA 2⟩ x21 ((upd (upd (fun _=>(default:Int)) 0 ((gt x13 x15).a)) 1 ((gt x13 x15).b)))).isSome) x15 x13 x14 x15 x16 x17 ((upd (upd (fun _=>(default:Int)) 0 ((gt x13 x15).a)) 1 ((gt x13 x15).b))) (gt x13 x15) x18 x19 x20 x21))) else(z6h φ φ (x20.length:Int) 0 x16 x20 x18 x19 x21))
def z6y (φ:Nat):Nat->(List Int)->Int->Int->(List Int)->z8->z8->(List z3y)->(List (List Int))->Option ((List z3y)×Int×Unit)
 | 0,_,_,_,_,_,_,_,_=>none
 | n12+1,x4,x5,x6,x7,x8,x9,x10,x11=>(if(decide ((x6:Int)<x5))=true then(ck ((0:Int)<=x6/\x6 <(x4.length:Int)) (if((decide (((gt x4 x6):Int)<0))||(decide (((x8.places.length:Int):Int)<=(gt x4 x6))))=true then(some (([]:List z3y),1,())) else((z6y φ n12) x4 x5 (W (x6+1)) x7 x8 x9 x10 x11))) else(ck (z3i (x8.places.length:Int) 24) (z4q φ φ x8.edges (x8.edges.length:Int) 0 x7 x8 x9 x10 (List.replicate ((x8.places.length:Int):Int).toNat (default :(List Int))) ([]:List ((Nat->Int)×Int)))))
def z4b (φ:Nat) (x1:z8) (x2 :(List Int)):Option ((List z3y)×Int×Unit):=((z3z φ x1).bind fun y3=>(if((y3.1:Int) !=0)=true then(if((y3.1:Int) !=0)=true then(some (([]:List z3y),y3.1,())) else none) else(z6y φ φ x2 (x2.length:Int) 0 x2 x1 x1 ([]:List z3y) ([]:List (List Int)))))
def z8x (φ:Nat):Fsp TV:=⟨[10,5],[.val 52,.val 0],fun z=>z4b φ z.1 z.2.1⟩
def z8y (φ:Nat):Nat->Int->(List z3y)->Int->Int->Option (Int×Unit)
 | 0,_,_,_,_=>none
 | n10+1,x6,x7,x8,x9=>(if(decide ((x9:Int)<x8))=true then(ck ((0:Int)<=x9/\x9 <(x7.length:Int)) ((z8y φ n10) (W (x6 +(gt x7 x9).km)) x7 x8 (W (x9+1)))) else(some (x6,())))
def zjm (φ:Nat) (x1:z8) (x2:Int) (x3:Int):Option (Int×Unit):=((z2x φ x1 x2 x3).bind fun y4=>(if((y4.2.1:Int) !=0)=true then(some (0,())) else((z4b φ x1 y4.1).bind fun y5=>(z8y φ φ 0 y5.1 (y5.1.length:Int) 0))))
def zbd (φ:Nat):Fsp TV:=⟨[10,0,0],[.val 0],fun z=>zjm φ z.1 z.2.1 z.2.2.1⟩
def zb1 (φ:Nat) (k12 :(Int->(List z6)->Int->Pool->Span->Option (Int×Int×Unit))) (x13:Int) (x14 :(List z6)) (x15:Int) (x16:Pool) (x17:Span) (x18:z0a) (x19:z0a):Option (Int×Int×Unit):=(if((decide ((x17.from_:Int)<=x18.early))&&(decide ((x19.early:Int)<=x17.to)))=true then((zjm φ x16.network x18.place x19.place).bind fun y21=>(k12 (W (x13+y21.1)) x14 (W (x15+1)) x16 x17)) else(k12 x13 x14 (W (x15+1)) x16 x17))
def zb6 (φ:Nat) (k12 :(Int->(List z6)->Int->Pool->Span->Option (Int×Int×Unit))) (x22:Int) (x23 :(List z6)) (x24:Int) (x25:Pool) (x26:Span):Option (Int×Int×Unit):=(ck ((0:Int)<=(W (x24-1))/\(W (x24-1)) <(x23.length:Int)) (ck ((0:Int)<=x24/\x24 <(x23.length:Int)) (zb1 φ k12 x22 x23 x24 x25 x26 (((gt x23 (W (x24-1))).visit)) ((gt x23 x24).visit))))
def zd3 (φ:Nat) (k12 :(Int->(List z6)->Int->Pool->Span->Option (Int×Int×Unit))) (x22:Int) (x23 :(List z6)) (x24:Int) (x25:Pool) (x26:Span):Option (List (Option (Int×Int×Unit))):=(ck ((0:Int)<=(W (x24-1))/\(W (x24-1)) <(x23.length:Int)) (ck ((0:Int)<=x24/\x24 <(x23.length:Int)) (catL [(catL [(catL [(catL [(some [(zb1 φ k12 x22 x23 x24 x25 x26 (((gt x23 (W (x24-1))).visit)) ((gt x23 x24).visit))])])])]),(catL [(catL [(catL [(some [(zb1 φ k12 x22 x23 x24 x25 x26 (((gt x23 (W (x24-1))).visit)) ((gt x23 x24).visit))])])])])])))
def zen (φ:Nat):Nat->Int->(List z6)->Int->Pool->Span->Option (Int×Int×Unit)
 | 0,_,_,_,_,_=>none
 | n12+1,x7,x8,x9,x10,x11=>(if(decide ((x9:Int) <(x8.length:Int)))=true then(zb6 φ (zen φ n12) x7 x8 x9 x10 x11) else(some (x7,0,())))
def zpp (φ:Nat) (x1:Pool) (x2 :(List zc)) (x3:Int) (x4:Span):Option (Int×Int×Unit):=((z2l φ x1).bind fun y5=>(if((y5.1:Int) !=0)=true then(some (0,y5.1,())) else(if(((((decide ((x3:Int)<0))||(decide (((x1.fleet.wagons.length:Int):Int)<=x3)))||(decide ((x4.from_:Int)<0)))||(decide ((x4.to:Int)<x4.from_)))||(decide ((1073741824:Int)<x4.to)))=true then(some (0,1,())) else((z64 φ x1 x2).bind fun y6=>(ck ((0:Int)<=x3/\x3 <(y6.1.length:Int)) (zen φ φ 0 (gt y6.1 x3) 1 x1 x4))))))
def zi6 (φ:Nat):Fsp TV:=⟨[30,38,0,25],[.val 0,.val 0],fun z=>zpp φ z.1 z.2.1 z.2.2.1 z.2.2.2.1⟩
def z5y (φ:Nat):Nat->(List z0a)->(List z0a)->Int->Option (Bool×Unit)
 | 0,_,_,_=>none
 | n6+1,x3,x4,x5=>(if(decide ((x5:Int) <(x3.length:Int)))=true then(ck ((0:Int)<=x5/\x5 <(x3.length:Int)) (ck ((0:Int)<=x5/\x5 <(x4.length:Int)) (if(!((((gt x3 x5).wagon:Int)==(gt x4 x5).wagon)&&((((gt x3 x5).place:Int)==(gt x4 x5).place)&&((((((gt x3 x5).ref).railway:Int)==((gt x4 x5).ref).railway)&&(((((gt x3 x5).ref).no:Int)==((gt x4 x5).ref).no)&&true))&&(((gt x3 x5).stay==(gt x4 x5).stay)&&((((gt x3 x5).early:Int)==(gt x4 x5).early)&&((((gt x3 x5).late:Int)==(gt x4 x5).late)&&true)))))))=true then(some (false,())) else((z5y φ n6) x3 x4 (W (x5+1)))))) else(some (true,())))
def zdb (φ:Nat) (x1 :(List z0a)) (x2 :(List z0a)):Option (Bool×Unit):=(if(((x1.length:Int):Int) !=(x2.length:Int))=true then(some (false,())) else(z5y φ φ x1 x2 0))
def z6t (φ:Nat):Fsp TV:=⟨[41,41],[.val 2],fun z=>zdb φ z.1 z.2.1⟩
def zf7 (φ:Nat):Option (Bool×Unit):=((zgn φ).bind fun y1=>((zmx φ y1.1 ([(⟨(⟨0,1⟩:Ref),(⟨0,0⟩:Ref),0,(⟨2,(⟨0,0⟩:Ref),0,0,0,0,100,200,0,0,0,0,0,(⟨#[]⟩:ByteArray),([]:List Part)⟩:Item)⟩:zc),(⟨(⟨0,2⟩:Ref),(⟨0,0⟩:Ref),0,(⟨1,(⟨0,0⟩:Ref),0,0,0,0,240,0,0,0,0,0,0,(⟨#[]⟩:ByteArray),([]:List Part)⟩:Item)⟩:zc)]) 0).bind fun y2=>((z7n φ y1.1 ([(⟨(⟨0,2⟩:Ref),(⟨0,0⟩:Ref),0,(⟨1,(⟨0,0⟩:Ref),0,0,0,0,240,0,0,0,0,0,0,(⟨#[]⟩:ByteArray),([]:List Part)⟩:Item)⟩:zc),(⟨(⟨0,1⟩:Ref),(⟨0,0⟩:Ref),0,(⟨2,(⟨0,0⟩:Ref),0,0,0,0,100,200,0,0,0,0,0,(⟨#[]⟩:ByteArray),([]:List Part)⟩:Item)⟩:zc)])).bind fun y3=>((z7n φ y1.1 ([(⟨(⟨0,1⟩:Ref),(⟨0,0⟩:Ref),0,(⟨2,(⟨0,0⟩:Ref),0,0,0,0,100,200,0,0,0,0,0,(⟨#[]⟩:ByteArray),([]:List Part)⟩:Item)⟩:zc),(⟨(⟨0,3⟩:Ref),(⟨0,0⟩:Ref),0,(⟨6,(⟨0,0⟩:Ref),0,1,0,0,150,0,0,0,0,0,0,(⟨#[]⟩:ByteArray),([]:List Part)⟩:Item)⟩:zc)])).bind fun y4=>((zpp φ y1.1 ([(⟨(⟨0,1⟩:Ref),(⟨0,0⟩:Ref),0,(⟨2,(⟨0,0⟩:Ref),0,0,0,0,100,200,0,0,0,0,0,(⟨#[]⟩:ByteArray),([]:List Part)⟩:Item)⟩:zc),(⟨(⟨0,2⟩:Ref),(⟨0,0⟩:Ref),0,(⟨1,(⟨0,0⟩:Ref),0,0,0,0,240,0,0,0,0,0,0,(⟨#[]⟩:ByteArray),([]:List Part)⟩:Item)⟩:zc)]) 0 (⟨150,1000⟩:Span)).bind fun y5=>((zpp φ y1.1 ([]:List zc) 0 (⟨5,4⟩:Span)).bind fun y6=>(if(((((((y3.2.1:Int) !=0)||((y4.2.1:Int) !=0))||((y3.1.vars:Int) !=5))||(((y3.1.bounds.length:Int):Int) !=12))||((y4.1.vars:Int) !=4))||(((y4.1.bounds.length:Int):Int) !=8))=true then(some (false,())) else((zdb φ y2.1 ([(⟨0,0,(⟨0,1⟩:Ref),true,100,100⟩:z0a),(⟨0,0,(⟨0,1⟩:Ref),false,200,200⟩:z0a),(⟨0,1,(⟨0,2⟩:Ref),false,240,240⟩:z0a)])).bind fun y7=>(ck ((y7.1=true)->(0:Int)<=0/\0 <(y3.1.bounds.length:Int)) (ck (((y7.1&&((((gt y3.1.bounds 0).i:Int)==0)&&((((gt y3.1.bounds 0).j:Int)==1)&&((((gt y3.1.bounds 0).w:Int)==5)&&true))))=true)->(0:Int)<=11/\11 <(y3.1.bounds.length:Int)) (ck ((((y7.1&&((((gt y3.1.bounds 0).i:Int)==0)&&((((gt y3.1.bounds 0).j:Int)==1)&&((((gt y3.1.bounds 0).w:Int)==5)&&true))))&&((((gt y3.1.bounds 11).i:Int)==4)&&((((gt y3.1.bounds 11).j:Int)==3)&&((((gt y3.1.bounds 11).w:Int)==(-30))&&true))))=true)->(0:Int)<=4/\4 <(y4.1.bounds.length:Int)) (ck (((((y7.1&&((((gt y3.1.bounds 0).i:Int)==0)&&((((gt y3.1.bounds 0).j:Int)==1)&&((((gt y3.1.bounds 0).w:Int)==5)&&true))))&&((((gt y3.1.bounds 11).i:Int)==4)&&((((gt y3.1.bounds 11).j:Int)==3)&&((((gt y3.1.bounds 11).w:Int)==(-30))&&true))))&&((((gt y4.1.bounds 4).i:Int)==2)&&((((gt y4.1.bounds 4).j:Int)==1)&&((((gt y4.1.bounds 4).w:Int)==(-1073741825))&&true))))=true)->(0:Int)<=7/\7 <(y4.1.bounds.length:Int)) (some ((((((((y7.1&&((((gt y3.1.bounds 0).i:Int)==0)&&((((gt y3.1.bounds 0).j:Int)==1)&&((((gt y3.1.bounds 0).w:Int)==5)&&true))))&&((((gt y3.1.bounds 11).i:Int)==4)&&((((gt y3.1.bounds 11).j:Int)==3)&&((((gt y3.1.bounds 11).w:Int)==(-30))&&true))))&&((((gt y4.1.bounds 4).i:Int)==2)&&((((gt y4.1.bounds 4).j:Int)==1)&&((((gt y4.1.bounds 4).w:Int)==(-1073741825))&&true))))&&((((gt y4.1.bounds 7).i:Int)==3)&&((((gt y4.1.bounds 7).j:Int)==2)&&((((gt y4.1.bounds 7).w:Int)==(-1073741825))&&true))))&&((y5.2.1:Int)==0))&&((y5.1:Int)==20))&&((y6.2.1:Int)==1)),()))))))))))))))
def zdq (φ:Nat):Fsp TV:=⟨[],[.val 2],fun z=>zf7 φ⟩
def z16 (φ:Nat):Nat->Int->Pool->Option (Bool×Unit)
 | 0,_,_=>none
 | n4+1,x2,x3=>(if(decide ((x2:Int) <(x3.railways.length:Int)))=true then(ck ((0:Int)<=x2/\x2 <(x3.railways.length:Int)) (if(decide ((100:Int) <((((gt x3.railways x2).calendar).holidays).length:Int)))=true then(some (false,())) else((z16 φ n4) (W (x2+1)) x3))) else(some (true,())))
def z7b (φ:Nat) (x1:Pool):Option (Bool×Unit):=(if(((((((decide ((16:Int) <(x1.network.places.length:Int)))||(decide ((40:Int) <(x1.network.edges.length:Int))))||(decide ((8:Int) <(x1.fleet.wagons.length:Int))))||(decide ((8:Int) <(x1.readers.length:Int))))||(decide ((100:Int) <(x1.fleet.swaps.length:Int))))||(decide ((100:Int) <(x1.fleet.washes.length:Int))))||(decide ((17:Int) <(x1.railways.length:Int))))=true then(some (false,())) else(z16 φ φ 0 x1))
def z7x (φ:Nat):Fsp TV:=⟨[30],[.val 2],fun z=>z7b φ z.1⟩
def z1m (φ:Nat) (x1:Int) (x2:Int) (x3:Int):Option (Bool×Unit):=(some (((decide ((x2:Int)<=x1))&&(decide ((x1:Int)<=x3))),()))
def z6q (φ:Nat):Fsp TV:=⟨[0,0,0],[.val 2],fun z=>z1m φ z.1 z.2.1 z.2.2.1⟩
def zcq (φ:Nat) (x1:z67):Option (Bool×Unit):=((z1m φ x1.kind 1 5).bind fun y2=>((z00 (default,()) ((!y2.1)=false) (z1m φ x1.railway 0 15)).bind fun y3=>(if((!y2.1)||(!y3.1))=true then(some (false,())) else(if((x1.kind:Int)==3)=true then((z1m φ x1.other 0 15).bind fun y4=>(some ((y4.1&&((x1.other:Int) !=x1.railway)),()))) else(some (((x1.other:Int)==(-1)),()))))))
def zd1 (φ:Nat):Fsp TV:=⟨[6],[.val 2],fun z=>zcq φ z.1⟩
def zfi (φ:Nat) (x1:Edge) (x2:Int):Option (Bool×Unit):=((z1m φ x1.a 0 (W (x2-1))).bind fun y3=>((z00 (default,()) (y3.1=true) (z1m φ x1.b 0 (W (x2-1)))).bind fun y4=>((z00 (default,()) (((y3.1&&y4.1)&&((x1.a:Int) !=x1.b))=true) (z1m φ x1.railway 0 15)).bind fun y5=>((z00 (default,()) ((((y3.1&&y4.1)&&((x1.a:Int) !=x1.b))&&y5.1)=true) (z1m φ x1.minutes 1 100000)).bind fun y6=>((z00 (default,()) (((((y3.1&&y4.1)&&((x1.a:Int) !=x1.b))&&y5.1)&&y6.1)=true) (z1m φ x1.km 0 10000)).bind fun y7=>(some ((((((y3.1&&y4.1)&&((x1.a:Int) !=x1.b))&&y5.1)&&y6.1)&&y7.1),())))))))
def zet (φ:Nat):Fsp TV:=⟨[8,0],[.val 2],fun z=>zfi φ z.1 z.2.1⟩
def z34 (φ:Nat):Nat->Int->z8->Option (Int×Unit)
 | 0,_,_=>none
 | n8+1,x6,x7=>(if(decide ((x6:Int) <(x7.edges.length:Int)))=true then(ck ((0:Int)<=x6/\x6 <(x7.edges.length:Int)) ((zfi φ (gt x7.edges x6) (x7.places.length:Int)).bind fun y9=>(if(!y9.1)=true then(some (1,())) else((z34 φ n8) (W (x6+1)) x7)))) else(some (0,())))
def z4c (φ:Nat):Nat->Int->z8->Option (Int×Unit)
 | 0,_,_=>none
 | n4+1,x2,x3=>(if(decide ((x2:Int) <(x3.places.length:Int)))=true then(ck ((0:Int)<=x2/\x2 <(x3.places.length:Int)) ((zcq φ (gt x3.places x2)).bind fun y5=>(if(!y5.1)=true then(some (1,())) else((z4c φ n4) (W (x2+1)) x3)))) else(z34 φ φ 0 x3))
def zd0 (φ:Nat) (x1:z8):Option (Int×Unit):=(if((decide ((512:Int) <(x1.places.length:Int)))||(decide ((2048:Int) <(x1.edges.length:Int))))=true then(some (2,())) else(z4c φ φ 0 x1))
def zca (φ:Nat):Fsp TV:=⟨[10],[.val 0],fun z=>zd0 φ z.1⟩
def zo (φ:Nat) (x1:Int) (x2:Int) (x3:Int):Option (Bool×Unit):=(some (((decide ((x2:Int)<=x1))&&(decide ((x1:Int)<=x3))),()))
def z38 (φ:Nat):Fsp TV:=⟨[0,0,0],[.val 2],fun z=>zo φ z.1 z.2.1 z.2.2.1⟩
def z9w (φ:Nat) (x1:z2b):Option (Bool×Unit):=((zo φ x1.load 0 1000000).bind fun y2=>((z00 (default,()) (y2.1=true) (zo φ x1.tare 0 1000000)).bind fun y3=>((z00 (default,()) ((y2.1&&y3.1)=true) (zo φ x1.length 0 1000000)).bind fun y4=>((z00 (default,()) (((y2.1&&y3.1)&&y4.1)=true) (zo φ x1.brake 0 1000000)).bind fun y5=>((z00 (default,()) ((((y2.1&&y3.1)&&y4.1)&&y5.1)=true) (zo φ x1.gauge 0 7)).bind fun y6=>((z00 (default,()) (((((y2.1&&y3.1)&&y4.1)&&y5.1)&&y6.1)=true) (zo φ x1.life 1 1073741824)).bind fun y7=>((z00 (default,()) ((((((y2.1&&y3.1)&&y4.1)&&y5.1)&&y6.1)&&y7.1)=true) (zo φ x1.floor 0 100)).bind fun y8=>(some (((((((y2.1&&y3.1)&&y4.1)&&y5.1)&&y6.1)&&y7.1)&&y8.1),())))))))))
def z7v (φ:Nat):Fsp TV:=⟨[12],[.val 2],fun z=>z9w φ z.1⟩
def z8u (φ:Nat) (x1:zjs) (x2:Int):Option (Bool×Unit):=((zo φ x1.type_ 0 (W (x2-1))).bind fun y3=>((z00 (default,()) (y3.1=true) (zo φ x1.owner 0 63)).bind fun y4=>((z00 (default,()) ((y3.1&&y4.1)=true) (zo φ x1.home 0 511)).bind fun y5=>((z00 (default,()) (((y3.1&&y4.1)&&y5.1)=true) (zo φ x1.built 0 1073741824)).bind fun y6=>((z00 (default,()) ((((y3.1&&y4.1)&&y5.1)&&y6.1)=true) (zo φ x1.worth 0 1099511627776)).bind fun y7=>(some (((((y3.1&&y4.1)&&y5.1)&&y6.1)&&y7.1),())))))))
def z6m (φ:Nat):Fsp TV:=⟨[14,0],[.val 2],fun z=>z8u φ z.1 z.2.1⟩
def z3h (φ:Nat):Nat->(List Wash)->Int->(List Bool)->Option (Int×Unit)
 | 0,_,_,_=>none
 | n5+1,x2,x3,x4=>(if(decide ((x3:Int) <(x2.length:Int)))=true then(ck ((0:Int)<=x3/\x3 <(x2.length:Int)) ((zo φ ((gt x2 x3).from_) 0 63).bind fun y6=>((z00 (default,()) ((!y6.1)=false) (zo φ ((gt x2 x3).to) 0 63)).bind fun y7=>((z00 (default,()) ((((!y6.1)||(!y7.1))||(((gt x2 x3).from_:Int)==(gt x2 x3).to))=false) (zo φ ((gt x2 x3).minutes) 0 100000)).bind fun y8=>(if((((!y6.1)||(!y7.1))||(((gt x2 x3).from_:Int)==(gt x2 x3).to))||(!y8.1))=true then(some (1,())) else(ck ((0:Int)<=(W ((W (64 *(gt x2 x3).from_)) +(gt x2 x3).to))/\(W ((W (64 *(gt x2 x3).from_)) +(gt x2 x3).to)) <(x4.length:Int)) (if(gt x4 ((W ((W (64 *(gt x2 x3).from_)) +(gt x2 x3).to))))=true then(some (1,())) else(ck ((0:Int)<=(W ((W (64 *(gt x2 x3).from_)) +(gt x2 x3).to))/\(W ((W (64 *(gt x2 x3).from_)) +(gt x2 x3).to)) <(x4.length:Int)) ((z3h φ n5) x2 (W (x3+1)) ((zi x4 ((W ((W (64 *(gt x2 x3).from_)) +(gt x2 x3).to))) true))))))))))) else(some (0,())))
def z8i (φ:Nat) (x1 :(List Wash)):Option (Int×Unit):=(ck (z3i 4096 1) (z3h φ φ x1 0 (List.replicate (4096:Int).toNat (default:Bool))))
def zbf (φ:Nat):Fsp TV:=⟨[19],[.val 0],fun z=>z8i φ z.1⟩
def z2i (φ:Nat):Nat->Int->z93->Option (Int×Unit)
 | 0,_,_=>none
 | n12+1,x10,x11=>(if(decide ((x10:Int) <(x11.swaps.length:Int)))=true then(ck ((0:Int)<=x10/\x10 <(x11.swaps.length:Int)) ((zo φ ((gt x11.swaps x10).wanted) 0 (W ((x11.types.length:Int)-1))).bind fun y13=>((z00 (default,()) ((!y13.1)=false) (zo φ ((gt x11.swaps x10).given) 0 (W ((x11.types.length:Int)-1)))).bind fun y14=>((z00 (default,()) ((((!y13.1)||(!y14.1))||(((gt x11.swaps x10).wanted:Int)==(gt x11.swaps x10).given))=false) (zo φ ((gt x11.swaps x10).cost) 0 1000000000)).bind fun y15=>(if((((!y13.1)||(!y14.1))||(((gt x11.swaps x10).wanted:Int)==(gt x11.swaps x10).given))||(!y15.1))=true then(some (1,())) else((z2i φ n12) (W (x10+1)) x11)))))) else((z8i φ x11.washes).bind fun y16=>(some (y16.1,()))))
def z3d (φ:Nat):Nat->Int->z93->Option (Int×Unit)
 | 0,_,_=>none
 | n8+1,x6,x7=>(if(decide ((x6:Int) <(x7.wagons.length:Int)))=true then(ck ((0:Int)<=x6/\x6 <(x7.wagons.length:Int)) ((z8u φ (gt x7.wagons x6) (x7.types.length:Int)).bind fun y9=>(if(!y9.1)=true then(some (1,())) else((z3d φ n8) (W (x6+1)) x7)))) else(z2i φ φ 0 x7))
def z47 (φ:Nat):Nat->Int->z93->Option (Int×Unit)
 | 0,_,_=>none
 | n4+1,x2,x3=>(if(decide ((x2:Int) <(x3.types.length:Int)))=true then(ck ((0:Int)<=x2/\x2 <(x3.types.length:Int)) ((z9w φ (gt x3.types x2)).bind fun y5=>(if(!y5.1)=true then(some (1,())) else((z47 φ n4) (W (x2+1)) x3)))) else(z3d φ φ 0 x3))
def zd5 (φ:Nat) (x1:z93):Option (Int×Unit):=(if((((decide ((32:Int) <(x1.types.length:Int)))||(decide ((4096:Int) <(x1.wagons.length:Int))))||(decide ((1024:Int) <(x1.swaps.length:Int))))||(decide ((4096:Int) <(x1.washes.length:Int))))=true then(some (2,())) else(z47 φ φ 0 x1))
def zcx (φ:Nat):Fsp TV:=⟨[20],[.val 0],fun z=>zd5 φ z.1⟩
def z30 (φ:Nat):Nat->Int->Int->Pool->Option (Bool×Unit)
 | 0,_,_,_=>none
 | n15+1,x12,x13,x14=>(if(decide ((x13:Int) <(x14.fleet.wagons.length:Int)))=true then(ck ((0:Int)<=x13/\x13 <(x14.fleet.wagons.length:Int)) (if(decide ((x12:Int)<=(gt x14.fleet.wagons x13).home))=true then(some (false,())) else((z30 φ n15) x12 (W (x13+1)) x14))) else(some (true,())))
def z37 (φ:Nat):Nat->Int->Int->Pool->Option (Bool×Unit)
 | 0,_,_,_=>none
 | n10+1,x7,x8,x9=>(if(decide ((x8:Int) <(x9.shippers.length:Int)))=true then(ck ((0:Int)<=x8/\x8 <(x9.shippers.length:Int)) ((zo φ ((gt x9.shippers x8).place) 0 (W (x7-1))).bind fun y11=>(ck (((!y11.1)=false)->(0:Int)<=x8/\x8 <(x9.shippers.length:Int)) (ck (((!y11.1)=false)->(0:Int)<=(gt x9.shippers x8).place/\(gt x9.shippers x8).place <(x9.network.places.length:Int)) (if((!y11.1)||(((gt x9.network.places ((gt x9.shippers x8).place)).kind:Int) !=4))=true then(some (false,())) else((z37 φ n10) x7 (W (x8+1)) x9)))))) else(z30 φ φ x7 0 x9))
def z4y (φ:Nat):Nat->Int->Int->Pool->Option (Bool×Unit)
 | 0,_,_,_=>none
 | n5+1,x2,x3,x4=>(if(decide ((x3:Int) <(x4.readers.length:Int)))=true then(ck ((0:Int)<=x3/\x3 <(x4.readers.length:Int)) ((zo φ ((gt x4.readers x3).place) 0 (W (x2-1))).bind fun y6=>(if((((!y6.1)||(decide (((gt x4.readers x3).low:Int) <(-1000))))||(decide (((gt x4.readers x3).high:Int) <(gt x4.readers x3).low)))||(decide ((1000:Int) <(gt x4.readers x3).high)))=true then(some (false,())) else((z4y φ n5) x2 (W (x3+1)) x4)))) else(z37 φ φ x2 0 x4))
def zff (φ:Nat) (x1:Pool):Option (Bool×Unit):=(z4y φ φ (x1.network.places.length:Int) 0 x1)
def zdj (φ:Nat):Fsp TV:=⟨[30],[.val 2],fun z=>zff φ z.1⟩
def z35 (φ:Nat):Nat->Int->Int->Pool->Option (Bool×Unit)
 | 0,_,_,_=>none
 | n9+1,x6,x7,x8=>(if(decide ((x7:Int) <(x8.network.edges.length:Int)))=true then(ck ((0:Int)<=x7/\x7 <(x8.network.edges.length:Int)) (if(decide ((x6:Int)<=(gt x8.network.edges x7).railway))=true then(some (false,())) else((z35 φ n9) x6 (W (x7+1)) x8))) else(some (true,())))
def z49 (φ:Nat):Nat->Int->Int->Pool->Option (Bool×Unit)
 | 0,_,_,_=>none
 | n5+1,x2,x3,x4=>(if(decide ((x3:Int) <(x4.network.places.length:Int)))=true then(ck ((0:Int)<=x3/\x3 <(x4.network.places.length:Int)) (if((decide ((x2:Int)<=(gt x4.network.places x3).railway))||(decide ((x2:Int)<=(gt x4.network.places x3).other)))=true then(some (false,())) else((z49 φ n5) x2 (W (x3+1)) x4))) else(z35 φ φ x2 0 x4))
def zcd (φ:Nat) (x1:Pool):Option (Bool×Unit):=(z49 φ φ (x1.railways.length:Int) 0 x1)
def zck (φ:Nat):Fsp TV:=⟨[30],[.val 2],fun z=>zcd φ z.1⟩
def z4a (φ:Nat):Nat->Int->z3n->Option (Int×Unit)
 | 0,_,_=>none
 | n7+1,x5,x6=>(if(decide ((x5:Int) <(x6.holidays.length:Int)))=true then(ck ((0:Int)<=x5/\x5 <(x6.holidays.length:Int)) (ck ((((decide (((gt x6.holidays x5):Int)<0))||(decide ((745654:Int) <(gt x6.holidays x5))))=false/\(decide ((0:Int)<x5))=true)->(0:Int)<=(W (x5-1))/\(W (x5-1)) <(x6.holidays.length:Int)) (if(((decide (((gt x6.holidays x5):Int)<0))||(decide ((745654:Int) <(gt x6.holidays x5))))||((decide ((0:Int)<x5))&&(decide (((gt x6.holidays x5):Int)<=(gt x6.holidays (W (x5-1)))))))=true then(some (1,())) else((z4a φ n7) (W (x5+1)) x6)))) else(some (0,())))
def z4d (φ:Nat):Nat->Int->z3n->Option (Int×Unit)
 | 0,_,_=>none
 | n4+1,x2,x3=>(if(decide ((x2:Int)<7))=true then(ck ((0:Int)<=x2/\x2 <(7:Int)) (if(((decide (((x3.open_ ((x2:Int).toNat)).from_:Int)<0))||(decide (((x3.open_ ((x2:Int).toNat)).to:Int) <(x3.open_ ((x2:Int).toNat)).from_)))||(decide ((1440:Int) <(x3.open_ ((x2:Int).toNat)).to)))=true then(some (1,())) else((z4d φ n4) (W (x2+1)) x3))) else(z4a φ φ 0 x3))
def zcs (φ:Nat) (x1:z3n):Option (Int×Unit):=(z4d φ φ 0 x1)
def zc3 (φ:Nat):Fsp TV:=⟨[27],[.val 0],fun z=>zcs φ z.1⟩
def z71 (φ:Nat) (k8 :(Int->Int->Int->Int->Option (Int×Unit))) (x9:Int) (x10:Int) (x11:Int) (x12:Int):Option (Int×Unit):=(ck (x11≠0) (if(2:Int)≠0 then(k8 ((((U (x9+x9)):Int).tmod x11)) (U ((x10:Int).tdiv 2)) x11 x12) else none))
def z2d (φ:Nat):Nat->Int->Int->Int->Int->Option (Int×Unit)
 | 0,_,_,_,_=>none
 | n8+1,x4,x5,x6,x7=>(if(decide ((0:Int)<x5))=true then(if(2:Int)≠0 then(if((((x5:Int).tmod 2):Int)==1)=true then(ck (x6≠0) (z71 φ (z2d φ n8) x4 x5 x6 ((((U (x7+x4)):Int).tmod x6)))) else(z71 φ (z2d φ n8) x4 x5 x6 x7)) else none) else(some (x7,())))
def z9z (φ:Nat) (x1:Int) (x2:Int) (x3:Int):Option (Int×Unit):=(z2d φ φ x1 x2 x3 0)
def zbv (φ:Nat):Fsp TV:=⟨[11,11,11],[.val 11],fun z=>z9z φ z.1 z.2.1 z.2.2.1⟩
def z9d (φ:Nat) (k6 :(Int->Int->Int->Option (Int×Unit))) (x7:Int) (x8:Int) (x9:Int):Option (Int×Unit):=((z9z φ x7 x7 2305843009213690799).bind fun y11=>(if(2:Int)≠0 then(k6 y11.1 (U ((x8:Int).tdiv 2)) x9) else none))
def z3l (φ:Nat):Nat->Int->Int->Int->Option (Int×Unit)
 | 0,_,_,_=>none
 | n6+1,x3,x4,x5=>(if(decide ((0:Int)<x4))=true then(if(2:Int)≠0 then(if((((x4:Int).tmod 2):Int)==1)=true then((z9z φ x5 x3 2305843009213690799).bind fun y12=>(z9d φ (z3l φ n6) x3 x4 y12.1)) else(z9d φ (z3l φ n6) x3 x4 x5)) else none) else(some (x5,())))
def zgv (φ:Nat) (x1:Int) (x2:Int):Option (Int×Unit):=(if(2305843009213690799:Int)≠0 then(z3l φ φ ((x1:Int).tmod 2305843009213690799) x2 1) else none)
def zgd (φ:Nat):Fsp TV:=⟨[11,11],[.val 11],fun z=>zgv φ z.1 z.2.1⟩
def zci (φ:Nat) (x1:Int):Option (Bool×Unit):=((z00 (default,()) (((decide ((2:Int)<=x1))&&(decide ((x1:Int)<2305843009213690799)))=true) (zgv φ x1 1152921504606845399)).bind fun y2=>(some ((((decide ((2:Int)<=x1))&&(decide ((x1:Int)<2305843009213690799)))&&((y2.1:Int)==1)),())))
def zc0 (φ:Nat):Fsp TV:=⟨[11],[.val 2],fun z=>zci φ z.1⟩
def z18 (φ:Nat):Nat->Int->Pool->Option (Int×Unit)
 | 0,_,_=>none
 | n8+1,x6,x7=>(if(decide ((x6:Int) <(x7.railways.length:Int)))=true then(ck ((0:Int)<=x6/\x6 <(x7.railways.length:Int)) ((zcs φ ((gt x7.railways x6).calendar)).bind fun y9=>(ck ((((y9.1:Int) !=0)=false)->(0:Int)<=x6/\x6 <(x7.railways.length:Int)) ((z00 (default,()) (((y9.1:Int) !=0)=false) (zci φ ((gt x7.railways x6).key))).bind fun y10=>(if(((y9.1:Int) !=0)||(!y10.1))=true then(some (1,())) else((z18 φ n8) (W (x6+1)) x7)))))) else(if(((x7.railways.length:Int):Int)==0)=true then(some (1,())) else(some (0,()))))
def z73 (φ:Nat) (x1:Pool):Option (Int×Unit):=((zd0 φ x1.network).bind fun y2=>(if((y2.1:Int) !=0)=true then(some (y2.1,())) else((zd5 φ x1.fleet).bind fun y3=>(if((y3.1:Int) !=0)=true then(some (y3.1,())) else(if(((decide ((256:Int) <(x1.readers.length:Int)))||(decide ((256:Int) <(x1.shippers.length:Int))))||(decide ((16:Int) <(x1.railways.length:Int))))=true then(some (2,())) else((zff φ x1).bind fun y4=>((z00 (default,()) ((!y4.1)=false) (zcd φ x1)).bind fun y5=>(if((!y4.1)||(!y5.1))=true then(some (1,())) else(z18 φ φ 0 x1)))))))))
def z7m (φ:Nat):Fsp TV:=⟨[30],[.val 0],fun z=>z73 φ z.1⟩
def z8a (φ:Nat) (x1:Int) (x2:Int):Option (Int×Unit):=(ck ((U (x2))≠0) (some ((W ((((U (x1)):Int).tmod (U (x2))))),())))
def zi3 (φ:Nat):Fsp TV:=⟨[0,0],[.val 0],fun z=>z8a φ z.1 z.2.1⟩
def z59 (φ:Nat):Nat->Int->(List ze)->Int->Int->Option (Int×Unit)
 | 0,_,_,_,_=>none
 | n7+1,x3,x4,x5,x6=>(if(decide ((x6:Int)<x5))=true then(ck ((0:Int)<=x6/\x6 <(x4.length:Int)) (if((((decide (((min2 ((gt x4 x6).i) ((gt x4 x6).j)):Int)<0))||(decide ((x3:Int)<=(max2 ((gt x4 x6).i) ((gt x4 x6).j)))))||(decide (((gt x4 x6).w:Int) <(-1099511627776))))||(decide ((1099511627776:Int) <(gt x4 x6).w)))=true then(some (1,())) else((z59 φ n7) x3 x4 x5 (W (x6+1))))) else(some (0,())))
def zf3 (φ:Nat) (x1:Int) (x2 :(List ze)):Option (Int×Unit):=(if(decide ((x1:Int)<1))=true then(some (1,())) else(if((decide ((512:Int)<x1))||(decide ((4096:Int) <(x2.length:Int))))=true then(some (2,())) else(z59 φ φ x1 x2 (x2.length:Int) 0)))
def zdr (φ:Nat):Fsp TV:=⟨[0,44],[.val 0],fun z=>zf3 φ z.1 z.2.1⟩
def zyn (φ:Nat) (x1:Int) (x2:Int):Option (Int×Int×Unit):=(if 0<=(32:Int) then(some ((IntKind.wrap .u32 ((((U ((U (x1)) *(U (x2)))):Int).fdiv (2 ^ (min (32:Int).toNat 64))))),(IntKind.wrap .u32 ((U ((U (x1)) *(U (x2)))))),())) else none)
def ze4 (φ:Nat):Fsp TV:=⟨[58,58],[.val 58,.val 58],fun z=>zyn φ z.1 z.2.1⟩
def zok (φ:Nat) (x1:Int) (x2:Int):Option (Int×Int×Unit):=((z61 φ x1 x2).bind fun y3=>(some (y3.1,y3.2.1,())))
def zip (φ:Nat):Fsp TV:=⟨[11,11],[.val 11,.val 11],fun z=>zok φ z.1 z.2.1⟩
def z41 (φ:Nat):Nat->Int->(List Int)->Option ((List Int)×Unit)
 | 0,_,_=>none
 | n6+1,x4,x5=>(if(decide ((x4:Int) <(x5.length:Int)))=true then(ck ((0:Int)<=x4/\x4<=(x5.length:Int)/\(x5.length:Int)<=(x5.length:Int)) (ck ((0:Int)<=0/\0<=x4/\x4<=(x5.length:Int)) ((z41 φ n6) ((W (x4 +((min (z62 x5 ((0:Int).toNat) ((x4:Int).toNat)).length (((x5.length:Int):Int).toNat -(x4:Int).toNat):Nat):Int)))) ((cpy x5 ((x4:Int).toNat) (((x5.length:Int):Int).toNat -(x4:Int).toNat) (z62 x5 ((0:Int).toNat) ((x4:Int).toNat))))))) else(some (x5,())))
def z3v (φ:Nat) (x1 :(List Int)) (x2:Int):Option ((List Int)×Unit):=(if(decide ((x2:Int)<0))=true then none else((zok φ (U ((x1.length:Int))) (U (x2))).bind fun y3=>(if((decide ((0:Int)<y3.1))||(decide ((9223372036854775807:Int)<y3.2.1)))=true then none else(ck (z3i (W (y3.2.1)) 8) (z41 φ φ (((min x1.length (((List.replicate ((W (y3.2.1)):Int).toNat (default:Int))).length-0):Nat):Int)) ((cpy ((List.replicate ((W (y3.2.1)):Int).toNat (default:Int))) 0 (((List.replicate ((W (y3.2.1)):Int).toNat (default:Int))).length-0) x1)))))))
def za5 (φ:Nat):Fsp TV:=⟨[5,0],[.row 3 0],fun z=>z3v φ z.1 z.2.1⟩
def z4r (φ:Nat) (k24 :((List ze)->Int->Int->Int->(List ze)->Int->Int->(List Int)->(List Int)->Option ((List Int)×(List Int)×Int×Unit))) (x25:Int) (x26:Int) (x27 :(List ze)) (x28:Int) (x29:Int) (x30:Int) (x31:Int) (x32 :(List ze)) (x33:Int) (x34:Int) (x35:ze) (x36 :(List Int)) (x37 :(List Int)):Option ((List Int)×(List Int)×Int×Unit):=(ck ((0:Int)<=x35.j/\x35.j <(x36.length:Int)) (ck ((0:Int)<=x35.j/\x35.j <(x37.length:Int)) (k24 x27 x29 x30 x31 x32 x33 (W (x34+1)) (zi x36 x35.j x26) (zi x37 x35.j x25))))
def z8t (φ:Nat) (k24 :((List ze)->Int->Int->Int->(List ze)->Int->Int->(List Int)->(List Int)->Option ((List Int)×(List Int)×Int×Unit))) (x25:Int) (x26:Int) (x27 :(List ze)) (x28:Int) (x29:Int) (x30:Int) (x31:Int) (x32 :(List ze)) (x33:Int) (x34:Int) (x35:ze) (x36 :(List Int)) (x37 :(List Int)):Option (List (Option ((List Int)×(List Int)×Int×Unit))):=(ck ((0:Int)<=x35.j/\x35.j <(x36.length:Int)) (catL [(catL [(catL [(ck ((0:Int)<=x35.j/\x35.j <(x37.length:Int)) (catL [(some [(k24 x27 x29 x30 x31 x32 x33 (W (x34+1)) (zi x36 x35.j x26) (zi x37 x35.j x25))])]))]),(catL [(ck ((0:Int)<=x35.j/\x35.j <(x37.length:Int)) (catL [(some [(k24 x27 x29 x30 x31 x32 x33 (W (x34+1)) (zi x36 x35.j x26) (zi x37 x35.j x25))])]))])]),(catL [(catL [(ck ((0:Int)<=x35.j/\x35.j <(x37.length:Int)) (catL [(some [(k24 x27 x29 x30 x31 x32 x33 (W (x34+1)) (zi x36 x35.j x26) (zi x37 x35.j x25))])]))]),(catL [(ck ((0:Int)<=x35.j/\x35.j <(x37.length:Int)) (catL [(some [(k24 x27 x29 x30 x31 x32 x33 (W (x34+1)) (zi x36 x35.j x26) (zi x37 x35.j x25))])]))])]),(catL [(catL [(ck ((0:Int)<=x35.j/\x35.j <(x37.length:Int)) (catL [(some [(k24 x27 x29 x30 x31 x32 x33 (W (x34+1)) (zi x36 x35.j x26) (zi x37 x35.j x25))])]))]),(catL [(ck ((0:Int)<=x35.j/\x35.j <(x37.length:Int)) (catL [(some [(k24 x27 x29 x30 x31 x32 x33 (W (x34+1)) (zi x36 x35.j x26) (zi x37 x35.j x25))])]))])])]))
def za4 (φ:Nat) (x39:Int) (x40 :(List Int)) (x41 :(List Int)):Option ((List Int)×(List Int)×Int×Unit):=(some (x40,x41,x39,()))
def zdf (φ:Nat) (x39:Int) (x40 :(List Int)) (x41 :(List Int)):Option (List (Option ((List Int)×(List Int)×Int×Unit))):=(catL [(catL [(catL [(catL [(some [(some (x40,x41,x39,()))])])])]),(catL [(catL [(catL [(some [(some (x40,x41,x39,()))])])])])])
def z1w (φ:Nat) (k14 :((List ze)->Int->Int->Int->(List Int)->(List Int)->Option ((List Int)×(List Int)×Int×Unit))):Nat->(List ze)->Int->Int->Int->(List ze)->Int->Int->(List Int)->(List Int)->Option ((List Int)×(List Int)×Int×Unit)
 | 0,_,_,_,_,_,_,_,_,_=>none
 | n24+1,x15,x16,x17,x18,x19,x20,x21,x22,x23=>(if(decide ((x21:Int)<x20))=true then(ck ((0:Int)<=x21/\x21 <(x19.length:Int)) (ck ((0:Int)<=(gt x19 x21).i/\(gt x19 x21).i <(x22.length:Int)) (ck ((0:Int)<=(gt x19 x21).j/\(gt x19 x21).j <(x22.length:Int)) (if(decide (((W ((gt x22 ((gt x19 x21).i)) +(gt x19 x21).w)):Int) <(gt x22 ((gt x19 x21).j))))=true then(z4r φ (z1w φ k14 n24) x21 ((W ((gt x22 ((gt x19 x21).i)) +(gt x19 x21).w))) x15 x16 x21 x17 x18 x19 x20 x21 (gt x19 x21) x22 x23) else((z1w φ k14 n24) x15 x16 x17 x18 x19 x20 (W (x21+1)) x22 x23))))) else(if(decide ((x16:Int)<0))=true then(za4 φ x16 x22 x23) else(k14 x15 x16 x17 (W (x18+1)) x22 x23)))
def z6k (φ:Nat) (x43:Int) (x44 :(List Int)) (x45 :(List Int)):Option ((List Int)×(List Int)×Int×Unit):=(some (x44,x45,x43,()))
def z94 (φ:Nat) (x43:Int) (x44 :(List Int)) (x45 :(List Int)):Option (List (Option ((List Int)×(List Int)×Int×Unit))):=(catL [(catL [(catL [(catL [(some [(some (x44,x45,x43,()))])])])]),(catL [(catL [(catL [(some [(some (x44,x45,x43,()))])])])])])
def z3f (φ:Nat):Nat->(List ze)->Int->Int->Int->(List Int)->(List Int)->Option ((List Int)×(List Int)×Int×Unit)
 | 0,_,_,_,_,_,_=>none
 | n14+1,x8,x9,x10,x11,x12,x13=>(if(decide ((x11:Int)<x10))=true then(z1w φ (z3f φ n14) φ x8 (-1) x10 x11 x8 (x8.length:Int) 0 x12 x13) else(z6k φ x9 x12 x13))
def z48 (φ:Nat) (x3:Int) (x4 :(List ze)) (x5 :(List Int)) (x6 :(List Int)):Option ((List Int)×(List Int)×Int×Unit):=(z3f φ φ x4 (-1) x3 0 x5 x6)
def z4s (φ:Nat) (x47:Int) (x48 :(List ze)) (x49 :(List Int)) (x50 :(List Int)):Option ((List Int)×(List Int)×Int×Unit):=(ck (z3i x47 8) ((z3v φ ([(-1)]) x47).bind fun y52=>(z48 φ x47 x48 (List.replicate (x47:Int).toNat (default:Int)) y52.1)))
def z95 (φ:Nat) (x47:Int) (x48 :(List ze)) (x49 :(List Int)) (x50 :(List Int)):Option (List (Option ((List Int)×(List Int)×Int×Unit))):=(catL [(ck (z3i x47 8) (catL [(catL [((z3v φ ([(-1)]) x47).bind fun y53=>(catL [(catL [(some [(z48 φ x47 x48 (List.replicate (x47:Int).toNat (default:Int)) y53.1)])])]))])])),(catL [(ck (z3i x47 8) (catL [((z3v φ ([(-1)]) x47).bind fun y54=>(catL [(catL [(some [(z48 φ x47 x48 (List.replicate (x47:Int).toNat (default:Int)) y54.1)])])]))])),((z3v φ ([(-1)]) x47).bind fun y55=>(catL [(ck (z3i x47 8) (catL [(catL [(some [(z48 φ x47 x48 (List.replicate (x47:Int).toNat (default:Int)) y55.1)])])]))]))])])
def zcw (φ:Nat) (x1:Int) (x2 :(List ze)):Option ((List Int)×(List Int)×Int×Unit):=(z4s φ x1 x2 ([]:List Int) ([]:List Int))
def zd6 (φ:Nat):Fsp TV:=⟨[0,44],[.val 5,.val 5,.val 0],fun z=>zcw φ z.1 z.2.1⟩
def zbm (φ:Nat) (x1:Int) (x2 :(List ze)):Option ((List Int)×Int×Unit):=((zf3 φ x1 x2).bind fun y3=>(if((y3.1:Int) !=0)=true then(some (([]:List Int),y3.1,())) else((zcw φ x1 x2).bind fun y4=>(if(decide ((0:Int)<=y4.2.2.1))=true then(some (([]:List Int),230,())) else(some (y4.1,0,()))))))
def ze0 (φ:Nat):Fsp TV:=⟨[0,44],[.val 5,.val 0],fun z=>zbm φ z.1 z.2.1⟩
def z2c (φ:Nat) (k31 :((List Int)->Int->(List z0d)->Bool->Pool->Pool->(List Int)->(List Int)->(List zc)->(List (List Int))->(List Int)->Option (Bool×Unit))) (x32 :(List Int)) (x33:Int) (x34:Int) (x35 :(List z0d)) (x36:Bool) (x37:Pool) (x38:Pool) (x39 :(List Int)) (x40 :(List Int)) (x41 :(List zc)) (x42 :(List (List Int))) (x43 :(List Int)):Option (Bool×Unit):=(ck ((0:Int)<=x33/\x33 <(x37.readers.length:Int)) (ck ((0:Int)<=x33/\x33 <(x37.readers.length:Int)) (ck ((0:Int)<=x33/\x33 <(x37.readers.length:Int)) (ck ((W ((W ((gt x37.readers x33).high -(gt x37.readers x33).low))+1))≠0) (ck (fits (x43.length +([(W ((gt x37.readers x33).low +((x34:Int).tmod (W ((W ((gt x37.readers x33).high -(gt x37.readers x33).low))+1)))))]).length) 8) (k31 x32 (W (x33+1)) x35 x36 x37 x38 x39 x40 x41 x42 ((x43++[(W ((gt x37.readers x33).low +((x34:Int).tmod (W ((W ((gt x37.readers x33).high -(gt x37.readers x33).low))+1)))))]))))))))
def z1v (φ:Nat) (k54 :((List z0d)->Bool->Int->Pool->(List Int)->(List Int)->(List zc)->(List (List Int))->(List Int)->Option (Bool×Unit))) (x79 :(List z0d)) (x80:Bool) (x81:Int) (x82:Pool) (x83 :(List z0d)) (x84:Int) (x85:z0d) (x86:Int) (x87:Int) (x88:Int) (x89:Int) (x90:Int) (x91:Int) (x92:Int) (x93:Int) (x94:Int) (x95:Int) (x96:Int) (x97:Int) (x98:Int) (x99:Int) (x100:Int) (x101:Int) (x102:Int) (x103:Int) (x104:Int) (x105:ByteArray) (x106:Pool) (x107 :(List Int)) (x108 :(List Int)) (x109 :(List zc)) (x110 :(List (List Int))) (x111 :(List Int)) (x112 :(List Part)):Option (Bool×Unit):=(ck (fits (x109.length +([(⟨(⟨x86,x87⟩:Ref),(⟨x88,x89⟩:Ref),x90,(⟨x91,(⟨x92,x93⟩:Ref),x94,x95,x96,x97,x98,x99,x100,x101,x102,x103,x104,x105,x112⟩:Item)⟩:zc)]).length) 192) (if(!true)=true then(some (false,())) else(k54 x79 x80 (W (x81+1)) x106 x107 x108 ((x109++[(⟨(⟨x86,x87⟩:Ref),(⟨x88,x89⟩:Ref),x90,(⟨x91,(⟨x92,x93⟩:Ref),x94,x95,x96,x97,x98,x99,x100,x101,x102,x103,x104,x105,x112⟩:Item)⟩:zc)])) x110 x111)))
def z2a (φ:Nat) (k54 :((List z0d)->Bool->Int->Pool->(List Int)->(List Int)->(List zc)->(List (List Int))->(List Int)->Option (Bool×Unit))) (x57:Int) (x58:Int) (x59:Bool) (x60:Int) (x61 :(List z0d)) (x62:Bool) (x63:Int) (x64:Pool) (x65 :(List z0d)) (x66:Int) (x67:z0d) (x68:Pool) (x69:z0d) (x70:Pool) (x71 :(List Int)) (x72 :(List Int)) (x73 :(List zc)) (x74 :(List (List Int))) (x75 :(List Int)):Option (Bool×Unit):=(ck ((0:Int)<=x57/\x57 <(x71.length:Int)) ((zq φ x68.network (gt x71 x57) x58).bind fun y77=>(if((((y77.2.1:Int) !=0)||(decide ((y77.1:Int)<0)))||(decide ((4194304:Int)<y77.1)))=true then(if(!((y77.2.1:Int)==80))=true then(some (false,())) else(k54 x61 x62 (W (x63+1)) x70 x71 x72 x73 x74 x75)) else(ck ((0:Int)<=x57/\x57 <(x72.length:Int)) ((z8a φ x69.gap 500).bind fun y78=>(ck ((0:Int)<=x57/\x57 <(x71.length:Int)) (ck ((0:Int)<=x57/\x57 <(x72.length:Int)) (if x59=true then(ck ((0:Int)<=x60/\x60 <(x75.length:Int)) (ck (fits (x74.length +([[(W ((W ((W ((gt x72 x57)+y77.1))+2001))+y78.1))]]).length) 24) (z1v φ k54 x61 x62 x63 x64 x65 x66 x67 0 (W ((x73.length:Int)+1)) 0 0 0 1 0 0 x57 0 x60 0 ((W ((W ((W ((W ((gt x72 x57)+y77.1))+2001))+y78.1)) +(gt x75 x60)))) 0 0 0 0 0 0 (⟨#[]⟩:ByteArray) x70 (zi x71 x57 x58) ((zi x72 x57 ((W ((W ((W ((gt x72 x57)+y77.1))+2001))+y78.1))))) x73 ((x74++[[(W ((W ((W ((gt x72 x57)+y77.1))+2001))+y78.1))]])) x75 ([]:List Part)))) else((z8a φ x69.reader 300).bind fun y114=>(ck ((0:Int)<=x57/\x57 <(((zi x72 x57 ((W ((W ((W ((gt x72 x57)+y77.1))+2001))+y78.1))))).length:Int)) (ck ((0:Int)<=x57/\x57 <(((zi ((zi x72 x57 ((W ((W ((W ((gt x72 x57)+y77.1))+2001))+y78.1))))) x57 ((W ((W ((W ((W ((gt x72 x57)+y77.1))+2001))+y78.1))+y114.1))))).length:Int)) (ck ((0:Int)<=x57/\x57 <(((zi ((zi x72 x57 ((W ((W ((W ((gt x72 x57)+y77.1))+2001))+y78.1))))) x57 ((W ((W ((W ((W ((gt x72 x57)+y77.1))+2001))+y78.1))+y114.1))))).length:Int)) (ck (fits (x74.length +([[(W ((W ((W ((gt x72 x57)+y77.1))+2001))+y78.1)),(gt ((zi ((zi x72 x57 ((W ((W ((W ((gt x72 x57)+y77.1))+2001))+y78.1))))) x57 ((W ((W ((W ((W ((gt x72 x57)+y77.1))+2001))+y78.1))+y114.1))))) x57)]]).length) 24) (z1v φ k54 x61 x62 x63 x64 x65 x66 x67 0 (W ((x73.length:Int)+1)) 0 0 0 2 0 0 x57 x58 0 0 ((W ((W ((W ((gt x72 x57)+y77.1))+2001))+y78.1))) ((gt ((zi ((zi x72 x57 ((W ((W ((W ((gt x72 x57)+y77.1))+2001))+y78.1))))) x57 ((W ((W ((W ((W ((gt x72 x57)+y77.1))+2001))+y78.1))+y114.1))))) x57)) 0 0 0 0 0 (⟨#[]⟩:ByteArray) x70 (zi x71 x57 x58) ((zi ((zi x72 x57 ((W ((W ((W ((gt x72 x57)+y77.1))+2001))+y78.1))))) x57 ((W ((W ((W ((W ((gt x72 x57)+y77.1))+2001))+y78.1))+y114.1))))) x73 ((x74++[[(W ((W ((W ((gt x72 x57)+y77.1))+2001))+y78.1)),(gt ((zi ((zi x72 x57 ((W ((W ((W ((gt x72 x57)+y77.1))+2001))+y78.1))))) x57 ((W ((W ((W ((W ((gt x72 x57)+y77.1))+2001))+y78.1))+y114.1))))) x57)]])) x75 ([]:List Part)))))))))))))))
def z0k (φ:Nat):Nat->Int->Bool->z0w->(List Int)->Option (Bool×Unit)
 | 0,_,_,_,_=>none
 | n163+1,x159,x160,x161,x162=>(if(decide ((x159:Int) <(x161.bounds.length:Int)))=true then(ck ((0:Int)<=x159/\x159 <(x161.bounds.length:Int)) (ck ((((((decide (((gt x161.bounds x159).i:Int)<0))||(decide (((x162.length:Int):Int)<=(gt x161.bounds x159).i)))||(decide (((gt x161.bounds x159).j:Int)<0)))||(decide (((x162.length:Int):Int)<=(gt x161.bounds x159).j)))=false)->(0:Int)<=(gt x161.bounds x159).j/\(gt x161.bounds x159).j <(x162.length:Int)) (ck ((((((decide (((gt x161.bounds x159).i:Int)<0))||(decide (((x162.length:Int):Int)<=(gt x161.bounds x159).i)))||(decide (((gt x161.bounds x159).j:Int)<0)))||(decide (((x162.length:Int):Int)<=(gt x161.bounds x159).j)))=false)->(0:Int)<=(gt x161.bounds x159).i/\(gt x161.bounds x159).i <(x162.length:Int)) (if(((((decide (((gt x161.bounds x159).i:Int)<0))||(decide (((x162.length:Int):Int)<=(gt x161.bounds x159).i)))||(decide (((gt x161.bounds x159).j:Int)<0)))||(decide (((x162.length:Int):Int)<=(gt x161.bounds x159).j)))||(decide (((gt x161.bounds x159).w:Int) <(W ((gt x162 ((gt x161.bounds x159).j)) -(gt x162 ((gt x161.bounds x159).i)))))))=true then(some ((x160&&false),())) else((z0k φ n163) (W (x159+1)) x160 x161 x162))))) else(some ((x160&&true),())))
def z0l (φ:Nat):Nat->Int->Bool->z0w->(List Int)->(List Int)->(List Int)->(List Int)->(List zc)->(List (List Int))->(List Int)->Option (Bool×Unit)
 | 0,_,_,_,_,_,_,_,_,_,_=>none
 | n158+1,x148,x149,x150,x151,x152,x153,x154,x155,x156,x157=>(if(decide ((x148:Int) <(x150.events.length:Int)))=true then(ck ((0:Int)<=x148/\x148 <(x150.events.length:Int)) (ck ((((decide (((W (((gt x150.events x148).ref).no-1)):Int)<0))||(decide (((x152.length:Int):Int)<=(W (((gt x150.events x148).ref).no-1)))))=false)->(0:Int)<=(W (((gt x150.events x148).ref).no-1))/\(W (((gt x150.events x148).ref).no-1)) <(x152.length:Int)) (ck ((((decide (((W (((gt x150.events x148).ref).no-1)):Int)<0))||(decide (((x152.length:Int):Int)<=(W (((gt x150.events x148).ref).no-1)))))=false)->(0:Int)<=(W (((gt x150.events x148).ref).no-1))/\(W (((gt x150.events x148).ref).no-1)) <(x156.length:Int)) (ck (((((decide (((W (((gt x150.events x148).ref).no-1)):Int)<0))||(decide (((x152.length:Int):Int)<=(W (((gt x150.events x148).ref).no-1)))))||(decide (((((gt x156 ((W (((gt x150.events x148).ref).no-1))))).length:Int):Int)<=(gt x152 ((W (((gt x150.events x148).ref).no-1)))))))=false)->(0:Int)<=x148/\x148 <(x150.events.length:Int)) (if((((decide (((W (((gt x150.events x148).ref).no-1)):Int)<0))||(decide (((x152.length:Int):Int)<=(W (((gt x150.events x148).ref).no-1)))))||(decide (((((gt x156 ((W (((gt x150.events x148).ref).no-1))))).length:Int):Int)<=(gt x152 ((W (((gt x150.events x148).ref).no-1)))))))||(((gt x150.events x148).var:Int) !=(x151.length:Int)))=true then(some ((x149&&false),())) else(ck ((0:Int)<=(W (((gt x150.events x148).ref).no-1))/\(W (((gt x150.events x148).ref).no-1)) <(x156.length:Int)) (ck ((0:Int)<=(W (((gt x150.events x148).ref).no-1))/\(W (((gt x150.events x148).ref).no-1)) <(x152.length:Int)) (ck ((0:Int)<=(gt x152 ((W (((gt x150.events x148).ref).no-1))))/\(gt x152 ((W (((gt x150.events x148).ref).no-1)))) <(((gt x156 ((W (((gt x150.events x148).ref).no-1))))).length:Int)) (ck (fits (x151.length +([(gt ((gt x156 ((W (((gt x150.events x148).ref).no-1))))) ((gt x152 ((W (((gt x150.events x148).ref).no-1))))))]).length) 8) (ck ((0:Int)<=(W (((gt x150.events x148).ref).no-1))/\(W (((gt x150.events x148).ref).no-1)) <(x152.length:Int)) (ck ((0:Int)<=(W (((gt x150.events x148).ref).no-1))/\(W (((gt x150.events x148).ref).no-1)) <(x152.length:Int)) ((z0l φ n158) (W (x148+1)) x149 x150 ((x151++[(gt ((gt x156 ((W (((gt x150.events x148).ref).no-1))))) ((gt x152 ((W (((gt x150.events x148).ref).no-1))))))])) ((zi x152 ((W (((gt x150.events x148).ref).no-1))) ((W ((gt x152 ((W (((gt x150.events x148).ref).no-1))))+1))))) x153 x154 x155 x156 x157)))))))))))) else(if(((x151.length:Int):Int) !=x150.vars)=true then(some ((x149&&false),())) else(z0k φ φ 0 x149 x150 x151)))
def z0n (φ:Nat):Nat->Int->Bool->z0w->(List Int)->(List Bool)->(List Int)->(List Int)->(List zc)->(List (List Int))->(List Int)->Option (Bool×Unit)
 | 0,_,_,_,_,_,_,_,_,_,_=>none
 | n147+1,x137,x138,x139,x140,x141,x142,x143,x144,x145,x146=>(if(decide ((x137:Int) <(x141.length:Int)))=true then(ck ((0:Int)<=x137/\x137 <(x141.length:Int)) (if(gt x141 x137)=true then(ck ((0:Int)<=x137/\x137 <(x146.length:Int)) (ck (fits (x140.length +([(W (0 -(gt x146 x137)))]).length) 8) ((z0n φ n147) (W (x137+1)) x138 x139 ((x140++[(W (0 -(gt x146 x137)))])) x141 x142 x143 x144 x145 x146))) else((z0n φ n147) (W (x137+1)) x138 x139 x140 x141 x142 x143 x144 x145 x146))) else(ck (z3i (x144.length:Int) 8) (z0l φ φ 0 x138 x139 x140 (List.replicate ((x144.length:Int):Int).toNat (default:Int)) x142 x143 x144 x145 x146)))
def z06 (φ:Nat):Nat->Int->Bool->z0w->(List Int)->(List Bool)->(List Int)->(List Int)->(List zc)->(List (List Int))->(List Int)->Option (Bool×Unit)
 | 0,_,_,_,_,_,_,_,_,_,_=>none
 | n136+1,x126,x127,x128,x129,x130,x131,x132,x133,x134,x135=>(if(decide ((x126:Int) <(x133.length:Int)))=true then(ck ((0:Int)<=x126/\x126 <(x133.length:Int)) (if((((gt x133 x126).item).kind:Int)==1)=true then(ck ((0:Int)<=x126/\x126 <(x133.length:Int)) (ck ((0:Int)<=((gt x133 x126).item).other/\((gt x133 x126).item).other <(x130.length:Int)) ((z06 φ n136) (W (x126+1)) x127 x128 x129 ((zi x130 (((gt x133 x126).item).other) true)) x131 x132 x133 x134 x135))) else((z06 φ n136) (W (x126+1)) x127 x128 x129 x130 x131 x132 x133 x134 x135))) else(z0n φ φ 0 x127 x128 x129 x130 x131 x132 x133 x134 x135))
def z13 (φ:Nat) (x116:Pool) (x117 :(List zc)) (x118 :(List Int)) (x119 :(List Int)) (x120 :(List zc)) (x121 :(List (List Int))) (x122 :(List Int)):Option (Bool×Unit):=((z7n φ x116 x117).bind fun y124=>((zbm φ y124.1.vars y124.1.bounds).bind fun y125=>(if(((y124.2.1:Int)==0)&&((y125.2.1:Int)==0))=true then(if(((decide ((y124.1.vars:Int)<1))||(decide ((512:Int)<y124.1.vars)))||(decide ((y124.1.vars:Int)<=(y124.1.events.length:Int))))=true then(some (false,())) else(ck (z3i (x116.readers.length:Int) 1) (z06 φ φ 0 (((y124.2.1:Int)==0)&&((y125.2.1:Int)==0)) y124.1 ([0]) (List.replicate ((x116.readers.length:Int):Int).toNat (default:Bool)) x118 x119 x120 x121 x122))) else(some (false,())))))
def z1r (φ:Nat) (k172 :(Int->Pool->(List zc)->(List Int)->(List Int)->(List zc)->(List (List Int))->(List Int)->Option (Bool×Unit))) (x173:Int) (x174:Pool) (x175 :(List zc)) (x176 :(List Int)) (x177 :(List Int)) (x178 :(List zc)) (x179 :(List (List Int))) (x180 :(List Int)):Option (Bool×Unit):=(ck ((0:Int)<=(W ((W ((x175.length:Int)-1))-x173))/\(W ((W ((x175.length:Int)-1))-x173)) <(x175.length:Int)) (ck ((0:Int)<=x173/\x173 <(x175.length:Int)) (ck ((0:Int)<=x173/\x173 <(x175.length:Int)) (ck ((0:Int)<=(W ((W ((x175.length:Int)-1))-x173))/\(W ((W ((x175.length:Int)-1))-x173)) <(((zi x175 x173 ((((gt x175 ((W ((W ((x175.length:Int)-1))-x173))))))))).length:Int)) (k172 (W (x173+1)) x174 ((zi ((zi x175 x173 ((((gt x175 ((W ((W ((x175.length:Int)-1))-x173))))))))) ((W ((W ((x175.length:Int)-1))-x173))) (gt x175 x173))) x176 x177 x178 x179 x180)))))
def z4e (φ:Nat) (k172 :(Int->Pool->(List zc)->(List Int)->(List Int)->(List zc)->(List (List Int))->(List Int)->Option (Bool×Unit))) (x173:Int) (x174:Pool) (x175 :(List zc)) (x176 :(List Int)) (x177 :(List Int)) (x178 :(List zc)) (x179 :(List (List Int))) (x180 :(List Int)):Option (List (Option (Bool×Unit))):=(ck ((0:Int)<=(W ((W ((x175.length:Int)-1))-x173))/\(W ((W ((x175.length:Int)-1))-x173)) <(x175.length:Int)) (ck ((0:Int)<=x173/\x173 <(x175.length:Int)) (ck ((0:Int)<=x173/\x173 <(x175.length:Int)) (catL [(catL [(ck ((0:Int)<=(W ((W ((x175.length:Int)-1))-x173))/\(W ((W ((x175.length:Int)-1))-x173)) <(((zi x175 x173 ((((gt x175 ((W ((W ((x175.length:Int)-1))-x173))))))))).length:Int)) (catL [(some [(k172 (W (x173+1)) x174 ((zi ((zi x175 x173 ((((gt x175 ((W ((W ((x175.length:Int)-1))-x173))))))))) ((W ((W ((x175.length:Int)-1))-x173))) (gt x175 x173))) x176 x177 x178 x179 x180)])]))]),(catL [(ck ((0:Int)<=(W ((W ((((zi x175 x173 ((((gt x175 ((W ((W ((x175.length:Int)-1))-x173))))))))).length:Int)-1))-x173))/\(W ((W ((((zi x175 x173 ((((gt x175 ((W ((W ((x175.length:Int)-1))-x173))))))))).length:Int)-1))-x173)) <(((zi x175 x173 ((((gt x175 ((W ((W ((x175.length:Int)-1))-x173))))))))).length:Int)) (catL [(some [(k172 (W (x173+1)) x174 ((zi ((zi x175 x173 ((((gt x175 ((W ((W ((x175.length:Int)-1))-x173))))))))) ((W ((W ((((zi x175 x173 ((((gt x175 ((W ((W ((x175.length:Int)-1))-x173))))))))).length:Int)-1))-x173))) (gt x175 x173))) x176 x177 x178 x179 x180)])]))])]))))
def z0m (φ:Nat):Nat->Int->Pool->(List zc)->(List Int)->(List Int)->(List zc)->(List (List Int))->(List Int)->Option (Bool×Unit)
 | 0,_,_,_,_,_,_,_,_=>none
 | n172+1,x164,x165,x166,x167,x168,x169,x170,x171=>(if(2:Int)≠0 then(if(decide ((x164:Int) <(W (((x166.length:Int):Int).tdiv 2))))=true then(z1r φ (z0m φ n172) x164 x165 x166 x167 x168 x169 x170 x171) else(z13 φ x165 x166 x167 x168 x169 x170 x171)) else none)
def z0f (φ:Nat):Nat->(List z0d)->Bool->Int->Pool->(List Int)->(List Int)->(List zc)->(List (List Int))->(List Int)->Option (Bool×Unit)
 | 0,_,_,_,_,_,_,_,_,_=>none
 | n54+1,x45,x46,x47,x48,x49,x50,x51,x52,x53=>(if(decide ((x47:Int) <(x45.length:Int)))=true then(ck ((0:Int)<=x47/\x47 <(x45.length:Int)) ((z8a φ ((gt x45 x47).wagon) (x49.length:Int)).bind fun y55=>((z8a φ ((gt x45 x47).place) (x48.network.places.length:Int)).bind fun y56=>(if((((W ((BitVec.ofInt 64 (gt x45 x47).kind&&& BitVec.ofInt 64 1).toNat)):Int)==1)&&(decide ((0:Int) <(x48.readers.length:Int))))=true then((z8a φ ((gt x45 x47).reader) (x48.readers.length:Int)).bind fun y115=>(ck ((0:Int)<=y115.1/\y115.1 <(x48.readers.length:Int)) (z2a φ (z0f φ n54) y55.1 ((gt x48.readers y115.1).place) (((((W ((BitVec.ofInt 64 (gt x45 x47).kind&&& BitVec.ofInt 64 1).toNat)):Int)==1)&&(decide ((0:Int) <(x48.readers.length:Int))))) y115.1 x45 x46 x47 x48 x45 x47 (gt x45 x47) x48 (gt x45 x47) x48 x49 x50 x51 x52 x53))) else(z2a φ (z0f φ n54) y55.1 y56.1 (((((W ((BitVec.ofInt 64 (gt x45 x47).kind&&& BitVec.ofInt 64 1).toNat)):Int)==1)&&(decide ((0:Int) <(x48.readers.length:Int))))) 0 x45 x46 x47 x48 x45 x47 (gt x45 x47) x48 (gt x45 x47) x48 x49 x50 x51 x52 x53))))) else(ck (fits (([]:List zc).length+x51.length) 192) (if x46=true then(z0m φ φ 0 x48 (([]:List zc)++x51) x49 x50 x51 x52 x53) else(z13 φ x48 (([]:List zc)++x51) x49 x50 x51 x52 x53))))
def z0e (φ:Nat):Nat->(List Int)->Int->(List z0d)->Bool->Pool->Pool->(List Int)->(List Int)->(List zc)->(List (List Int))->(List Int)->Option (Bool×Unit)
 | 0,_,_,_,_,_,_,_,_,_,_,_=>none
 | n31+1,x20,x21,x22,x23,x24,x25,x26,x27,x28,x29,x30=>(if(decide ((x21:Int) <(x24.readers.length:Int)))=true then(if(decide ((x21:Int) <(x20.length:Int)))=true then(ck ((0:Int)<=x21/\x21 <(x20.length:Int)) (z2c φ (z0e φ n31) x20 x21 (W ((gt x20 x21))) x22 x23 x24 x25 x26 x27 x28 x29 x30)) else(z2c φ (z0e φ n31) x20 x21 0 x22 x23 x24 x25 x26 x27 x28 x29 x30)) else(z0f φ φ x22 x23 0 x25 x26 x27 x28 x29 x30))
def z1c (φ:Nat):Nat->(List Int)->Int->(List z0d)->Bool->Pool->Pool->(List Int)->(List Int)->(List zc)->(List (List Int))->(List Int)->Option (Bool×Unit)
 | 0,_,_,_,_,_,_,_,_,_,_,_=>none
 | n19+1,x8,x9,x10,x11,x12,x13,x14,x15,x16,x17,x18=>(if(decide ((x9:Int) <(x12.fleet.wagons.length:Int)))=true then(ck ((0:Int)<=x9/\x9 <(x12.fleet.wagons.length:Int)) (ck (fits (x14.length +([(gt x12.fleet.wagons x9).home]).length) 8) (ck (fits (x15.length +([0]).length) 8) ((z1c φ n19) x8 (W (x9+1)) x10 x11 x12 x13 (x14++[(gt x12.fleet.wagons x9).home]) (x15++[0]) x16 x17 x18)))) else(z0e φ φ x8 0 x10 x11 x12 x13 x14 x15 x16 x17 x18))
def z43 (φ:Nat) (x1:Pool) (x2 :(List Int)) (x3 :(List z0d)) (x4:Bool):Option (Bool×Unit):=((zf7 φ).bind fun y5=>(if(!y5.1)=true then(some (false,())) else((z7b φ x1).bind fun y6=>((z00 (default,()) (((!y6.1)||(decide ((30:Int) <(x3.length:Int))))=false) (z73 φ x1)).bind fun y7=>(if(((((!y6.1)||(decide ((30:Int) <(x3.length:Int))))||((y7.1:Int) !=0))||(((x1.fleet.wagons.length:Int):Int)==0))||(((x1.network.places.length:Int):Int)==0))=true then(some (true,())) else(z1c φ φ x2 0 x3 x4 x1 x1 ([]:List Int) ([]:List Int) ([]:List zc) ([]:List (List Int)) ([]:List Int)))))))
def z4p (φ:Nat):Fsp TV:=⟨[30,57,60,2],[.val 2],fun z=>z43 φ z.1 z.2.1 z.2.2.1 z.2.2.2.1⟩
end Px
end
