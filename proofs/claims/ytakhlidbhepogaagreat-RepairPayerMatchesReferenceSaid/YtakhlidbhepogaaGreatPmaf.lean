/- A part of the proof of repairPayerMatchesReference_holds. Conditions: none. -/
import Derived.Test.YtakhlidbhepogaaGreatPmae
import Derived.Shelf.SlSortCmp.NoneTotal
import Derived.Shelf.Sort.Plain
import Derived.Shelf.Slices.In.SortNone
set_option linter.unusedVariables false
set_option linter.unusedSimpArgs false
section
namespace Px
open Go Go.RowKit
section cells
variable {T:Nat->Type}
def cvT (g :(c:Nat)->T c->List Value) :(fs:List Nat)->Tup T fs->List Value
 | [],_=>[]
 | c::cs,x=>g c x.1++cvT g cs x.2
def cvD (g :(c:Nat)->T c->List Value) : {α:Type}->Ds T α->α->List Value
 | _,.int k,x=>[.int k x]
 | _,.bool,x=>[.bool x]
 | _,.str,x=>[.string x]
 | _,.sl _,_=>[]
 | _,.map _ _,_=>[]
 | _,.arr n c,f=>(List.range n).flatMap fun i=>g c (f i)
 | _,.st fs _ un _,x=>cvT g fs (un x)
end cells
section
variable (V:TE)
def cvN:Nat->(c:Nat)->V.T c->List Value
 | 0,_,_=>[]
 | n+1,c,x=>cvD (cvN n) (V.d c) x
def TE.cv (c:Nat) (x:V.T c):List Value:=cvN V (c+1) c x
variable {V}
theorem ye2:∀(n c:Nat),flN V n c=true->∀ x,V.ev c x =(cvN V n c x).map eqv/\∀ v∈cvN V n c x,v.oneCell'=true
 | 0,_,h=>by cases h
 | n+1,c,h=>by
  intro x
  have ih:=ye2 n
  rw [V.ev_eq]
  change flD (flN V n) (V.d c)=true at h
  change evD V.ev (V.mv V.ev) V.sz (V.d c) x =(cvD (cvN V n) (V.d c) x).map eqv/\∀ v∈cvD (cvN V n) (V.d c) x,v.oneCell'=true
  revert h x
  generalize V.d c=d
  generalize V.T c=α at d
  intro x h
  cases d with
  | int k=>exact⟨rfl,fun v hv=>by simp only [cvD,List.mem_singleton] at hv; subst hv; rfl⟩
  | bool=>exact⟨rfl,fun v hv=>by simp only [cvD,List.mem_singleton] at hv; subst hv; rfl⟩
  | str=>exact⟨rfl,fun v hv=>by simp only [cvD,List.mem_singleton] at hv; subst hv; rfl⟩
  | sl c'=>cases h
  | map kc vc=>cases h
  | arr m c'=>
   simp only [evD,cvD,Px.arr,List.map_flatMap]
   refine⟨?_,fun v hv=>?_⟩
   ·congr 1
    funext i
    exact(ih c' h (x i)).1
   ·obtain⟨i,_,hi⟩:=List.mem_flatMap.1 hv
    exact(ih c' h (x i)).2 v hi
  | st fs mk un law=>
   have key:∀(fs:List Nat) (y:Tup V.T fs),fs.all (flN V n)=true->evT V.ev fs y =(cvT (cvN V n) fs y).map eqv/\∀ v∈cvT (cvN V n) fs y,v.oneCell'=true:=by
    intro fs
    induction fs with
    | nil=>intro y _; exact⟨rfl,fun v hv=>by cases hv⟩
    | cons c cs ihf=>
     intro y h
     simp only [List.all_cons,Bool.and_eq_true] at h
     obtain⟨h1,h2⟩:=ihf y.2 h.2
     obtain⟨h3,h4⟩:=ih c h.1 y.1
     refine⟨by simp only [evT,cvT,List.map_append,h1,h3],fun v hv=>?_⟩
     rcases List.mem_append.1 hv with hv | hv
     ·exact h4 v hv
     ·exact h2 v hv
   exact key fs (un x) h
theorem yhy {c:Nat} (h:V.fl c=true) (x:V.T c):V.ev c x =(V.cv c x).map eqv:=(ye2 _ _ h x).1
theorem ygp {c:Nat} (h:V.fl c=true) (x:V.T c):∀ v∈V.cv c x,v.oneCell'=true:=(ye2 _ _ h x).2
theorem y5u {c:Nat} (h:V.fl c=true) (x:V.T c) :(V.cv c x).length=V.sz c:=by
 have:=V.ev_len c x
 rw [yhy h] at this
 simpa using this
end
theorem ybv {r:Nat->Prop} {w:World} : ∀ {us vs:List Value},zj r w (us.map eqv) vs->vs=us
 | us,vs,⟨hl,h⟩=>by
  refine List.ext_getElem? fun i=>?_
  by_cases hi:i<us.length
  ·obtain⟨u,hu,he,_⟩:=h i (eqv us[i]) (by simp [hi])
   rw [hu,List.getElem?_eq_getElem hi]
   exact congrArg some he
  ·have hl':us.length=vs.length:=by simpa using hl
   rw [List.getElem?_eq_none (show us.length<=i by omega),List.getElem?_eq_none (show vs.length<=i by omega)]
theorem zr3 {r:Nat->Prop} {w:World} {us:List Value} (h:∀ v∈us,v.oneCell'=true):zj r w (us.map eqv) us:=by
 refine⟨by simp,fun j A hj=>?_⟩
 simp only [List.getElem?_map,Option.map_eq_some_iff] at hj
 obtain⟨u,hu,rfl⟩:=hj
 exact⟨u,hu,rfl,h u (List.mem_of_getElem? hu)⟩
theorem zv3 {α:Type} {e:α->List Value} {k:Nat} (hk:∀ x,(e x).length=k) (h0:0<k):∀(l:List α) (t:Nat),(l.flatMap e)[t]? =(l[t / k]?).bind fun x=>(e x)[t % k]?
 | [],t=>by simp
 | x::l,t=>by
  rw [List.flatMap_cons,List.getElem?_append,hk]
  by_cases h:t<k
  ·rw [if_pos h,Nat.div_eq_of_lt h,Nat.mod_eq_of_lt h]; simp
  ·have h1:t / k =(t-k) / k+1:=Nat.div_eq_sub_div h0 (by omega)
   have h2:t % k =(t-k) % k:=Nat.mod_eq_sub_mod (by omega)
   rw [if_neg h,zv3 hk h0 l,h1,h2,List.getElem?_cons_succ]
theorem zyf {α:Type} [Inhabited α] {e:α->List Value} {k:Nat} (hk:∀ x,(e x).length=k) (d:Array α) :(Sort.flatK e k d).toList=d.toList.flatMap e:=by
 by_cases h0:0<k
 ·refine List.ext_getElem? fun t=>?_
  rw [zv3 hk h0]
  by_cases ht:t<d.size*k
  ·have hd:t / k<d.size:=Nat.div_lt_of_lt_mul (by rwa [Nat.mul_comm])
   have hm:t % k <(e d[t / k]).length:=by rw [hk]; exact Nat.mod_lt _ h0
   have h1:t <(Sort.flatK e k d).toList.length:=by rw [Array.length_toList,Sort.size_flatK]; exact ht
   have h2 :(Sort.flatK e k d).toList[t] =(Sort.flatK e k d)[t]!:=by
    rw [getElem!_pos _ t (by rw [Sort.size_flatK]; exact ht)]
    simp
   rw [List.getElem?_eq_getElem h1,h2,Sort.get_flatK _ _ _ _ ht,getElem!_pos d (t / k) hd]
   simp only [Array.getElem?_toList,Array.getElem?_eq_getElem hd,Option.bind_some]
   rw [getElem!_pos (e d[t / k]) (t % k) hm,List.getElem?_eq_getElem hm]
  ·rw [List.getElem?_eq_none (by rw [Array.length_toList,Sort.size_flatK]; omega)]
   have:d.size<=t / k:=by
    rw [Nat.le_div_iff_mul_le h0]; omega
   simp [this]
 ·have:k=0:=by omega
  subst this
  have e1:∀ x,e x = []:=fun x=>List.eq_nil_of_length_eq_zero (hk x)
  have e2:d.toList.flatMap e = []:=by simp [List.flatMap_eq_nil_iff,e1]
  rw [e2]
  exact List.eq_nil_of_length_eq_zero (by rw [Array.length_toList,Sort.size_flatK]; simp)
theorem yes {w:World} {g:Nat} {cur:Array Value} {E:TypeId} {F:Array Value} (hh:w.heap[g]? = some (.cells cur E (0,0))) (hF:cur.toList.take F.size=F.toList):Sort.Holds id w g 0 F:=by
 intro j hj
 have h1:cur[j]? = some F[j]:=by
  have :(cur.toList.take F.size)[j]? = F.toList[j]?:=by rw [hF]
  rw [List.getElem?_take,if_pos hj] at this
  simpa [hj] using this
 rw [getElem!_pos F j hj]
 refine⟨?_,?_⟩
 ·unfold World.cell?
  rw [hh]
  simpa using h1
 ·unfold World.frozen?
  rw [hh]
  simp
theorem ycs {w:World} {g n:Nat} {cur:Array Value} {E:TypeId} {F:Array Value} {os:Array Obj} (hh:w.heap[g]? = some (.cells cur E (0,0))) (hs:F.size<=cur.size) :
  ∃ cur',(Sort.grow (Sort.putRow id (Sort.ahead w n) g 0 F) os).heap[g]? = some (.cells cur' E (0,0))/\cur'.size=cur.size/\cur'.toList.take F.size=F.toList:=by
 have hlt:g<w.heap.size:=(Array.getElem?_eq_some_iff.1 hh).1
 refine⟨Sort.putCells id 0 F cur,?_,by simp [Sort.putCells],?_⟩
 ·simp only [Sort.grow,Sort.putRow,Sort.mapBlock,Sort.ahead]
  rw [Array.getElem?_append,if_pos (by simpa using hlt),Array.getElem?_modify,if_pos rfl,hh]
  rfl
 ·refine List.ext_getElem? fun j=>?_
  rw [List.getElem?_take]
  by_cases hj:j<F.size
  ·rw [if_pos hj]
   have:j<cur.size:=by omega
   simp [Sort.putCells,this,hj]
  ·rw [if_neg hj,List.getElem?_eq_none (by simpa using hj)]
theorem y4j {w:World} {g n b:Nat} {F:Array Value} {os:Array Obj} (hb:b<w.heap.size) (hg:b≠g) :(Sort.grow (Sort.putRow id (Sort.ahead w n) g 0 F) os).heap[b]? = w.heap[b]?:=by
 simp only [Sort.grow,Sort.putRow,Sort.mapBlock,Sort.ahead]
 rw [Array.getElem?_append,if_pos (by simpa using hb),Array.getElem?_modify,if_neg (fun e=>hg e.symm)]
theorem yht [Dr] {P:Program} {f:FuncId} {args:List VP} {vs0:List Value} {α:Type} {E:TypeId} {e:α->List VP} {ce:α->List Value} {k:Nat} {l l':List α} {sv:Value}
  (he:∀ x∈l,e x =(ce x).map eqv) (he':∀ x∈l',e x =(ce x).map eqv) (hone:∀ x∈l',∀ v∈ce x,v.oneCell'=true) (hk:∀ x∈l,(ce x).length=k) (hk':∀ x∈l',(ce x).length=k) (hlen:l'.length=l.length) (hargs:args=vs0.map eqv)
  (hnil:l = []->∀ p cap w,Calls P f (#[.slice p 0 cap]++vs0.toArray) w fun e w'=>e = .returned (.tuple #[])/\w'=w)
  (hrun:l≠[]->∀ g cap w,g<w.heap.size->(∀ F:Array Value,F.toList=l.flatMap ce->Sort.Holds id w g 0 F)->
   Calls P f (#[.slice (some ⟨g,0,none⟩) l.length cap]++vs0.toArray) w fun e w'=>e = .returned (.tuple #[])/\∃ n os F,F.toList=l'.flatMap ce/\w'=Sort.grow (Sort.putRow id (Sort.ahead w n) g 0 F) os) :
  MutT P f (eqv sv::args) E e k l sv fun x l2=>x=eqv (.tuple #[])/\l2=l':=by
 intro w0 base r S w vs hw hl hA
 have hvs:vs = #[sv]++vs0.toArray:=by
  have hsz:vs.size=1+vs0.length:=by rw [hl,hargs]; simp; omega
  refine Array.ext (by rw [hsz]; simp [Nat.add_comm]) fun i h1 h2=>?_
  cases i with
  | zero=>
   have:=hA 0 (eqv sv) rfl
   simp only [Array.getD_eq_getD_getElem?,Array.getElem?_eq_getElem h1,Option.getD_some] at this
   have this:vs[0]=sv:=this
   rw [this,Array.getElem_append_left (by simp)]; rfl
  | succ i=>
   have hi:i<vs0.length:=by omega
   have:=hA (i+1) (eqv vs0[i]) (by rw [hargs]; simp [hi])
   simp only [Array.getD_eq_getD_getElem?,Array.getElem?_eq_getElem h1,Option.getD_some] at this
   rw [this]
   rw [Array.getElem_append_right (by simp)]
   simp
 subst hvs
 have hrow:=hw.obj 0 _ rfl
 have hfm:l.flatMap e =(l.flatMap ce).map eqv:=by
  rw [List.map_flatMap]
  clear hnil hrun hrow hk hlen hw
  induction l with
  | nil=>rfl
  | cons x l ih=>rw [List.flatMap_cons,List.flatMap_cons,he x (List.mem_cons_self),ih (fun y hy=>he y (List.mem_cons_of_mem _ hy))]
 have hfm':l'.flatMap e =(l'.flatMap ce).map eqv:=by
  rw [List.map_flatMap]
  clear hnil hrun hrow hk hk' hlen hw hone
  induction l' with
  | nil=>rfl
  | cons x l' ih=>rw [List.flatMap_cons,List.flatMap_cons,he' x (List.mem_cons_self),ih (fun y hy=>he' y (List.mem_cons_of_mem _ hy))]
 have hfl:∀ m:List α,(∀ x∈m,(ce x).length=k)->(m.flatMap ce).length=m.length*k:=by
  intro m
  induction m with
  | nil=>intro _; simp
  | cons x m ih=>intro h; rw [List.flatMap_cons,List.length_append,h x (List.mem_cons_self),ih (fun y hy=>h y (List.mem_cons_of_mem _ hy)),List.length_cons,Nat.add_mul]; omega
 by_cases h0:l = []
 ·have hl0:l' = []:=List.eq_nil_of_length_eq_zero (by rw [hlen,h0]; rfl)
  have hslice:∃ p cap,sv = .slice p 0 cap:=by
   rcases hrow with⟨rfl,_⟩ |⟨g,cap,cur,rfl,_⟩
   ·exact⟨_,_,rfl⟩
   ·rw [h0]; exact⟨_,_,rfl⟩
  obtain⟨p,cap,rfl⟩:=hslice
  refine(hnil h0 p cap w).mono ?_
  rintro en w' ⟨rfl,rfl⟩
  refine⟨_,eqv (.tuple #[]),_,r,S,rfl,Evo.refl _ _ _,hw,rfl,l',?_,rfl,rfl⟩
  rw [h0,hl0]
 ·rcases hrow with⟨_,rfl⟩ |⟨g,cap,cur,rfl,hS,hcur,hle,hmax,hsz,hc⟩
  ·exact absurd rfl h0
  ·have hlt:=(Array.getElem?_eq_some_iff.1 hcur).1
   rw [hfm] at hc
   have hc:=ybv hc
   refine(hrun h0 g cap w hlt fun F hF=>yes hcur ?_).mono ?_
   ·have:F.size=l.length*k:=by rw [<- Array.length_toList,hF,hfl l hk]
    rw [this,hc,hF]
   ·rintro en w' ⟨rfl,n,os,F,hF,rfl⟩
    have hFs:F.size=l.length*k:=by rw [<- Array.length_toList,hF,hfl l' hk',hlen]
    have hb:∀ b,b<w.heap.size->¬ S 0 b->(Sort.grow (Sort.putRow id (Sort.ahead w n) g 0 F) os).heap[b]? = w.heap[b]?:=fun b hb hs=>y4j hb (fun e=>hs (e ▸ hS))
    obtain⟨cur',hcur',hsz',htk⟩:=ycs (n:=n) (os:=os) (F:=F) hcur (by rw [hFs,hsz]; exact Nat.mul_le_mul_right _ hle)
    refine⟨_,eqv (.tuple #[]),_,r,_,rfl,hw.evo_repl 0 hb,hw.repl 0 (row E e k l' (.slice (some ⟨g,0,none⟩) l.length cap)) (S 0) (by simp) rfl ⟨rfl,Nat.le_add_right _ _⟩ rfl (by simp [Sort.grow,Sort.putRow,Sort.mapBlock,Sort.ahead]) hb (fun b hb'=>?_) ?_,rfl,l',rfl,rfl,rfl⟩
    ·obtain⟨_,h2,h3,h4⟩:=hw.own 0 b hb'
     refine⟨h2,?_,h4,fun j hj hs=>hj (hw.apart j 0 b hs hb')⟩
     simp [Sort.grow,Sort.putRow,Sort.mapBlock,Sort.ahead]
     omega
    ·refine .inr ⟨g,cap,cur',by rw [hlen],hS,hcur',by omega,hmax,by omega,?_⟩
     rw [hlen,<- hFs,htk,hF,hfm']
     exact zr3 fun v hv=>by
      obtain⟨x,hx,hxv⟩:=List.mem_flatMap.1 hv
      exact hone x hx v hxv
theorem yiy {w w':World} (h : @Bel ⟨True⟩ w.heap.size w w'):∃ q os,w'=Sort.grow (w.drewN q) os:=by
 refine⟨w'.drawn-w.drawn,w'.heap.extract w.heap.size w'.heap.size,?_⟩
 have hd:=@Bel.drawn ⟨True⟩ _ _ _ h trivial
 have hh:w'.heap=w.heap++w'.heap.extract w.heap.size w'.heap.size:=by
  refine Array.ext_getElem? fun i=>?_
  rw [Array.getElem?_append]
  by_cases hi:i<w.heap.size
  ·rw [if_pos hi,h.block i hi]
  ·rw [if_neg hi,Array.getElem?_extract]
   split
   ·congr 1; omega
   ·rw [Array.getElem?_eq_none (by omega)]
 have h1:=h.os
 have h2:=h.tape
 have h3:=h.output
 cases w'
 cases w
 simp only [Sort.grow,World.drewN] at *
 subst h1; subst h2; subst h3
 congr 1
 omega
def insL {α:Type} (lt:α->α->Bool) (x:α):List α->List α
 | []=>[x]
 | y::l=>bif lt y x then y::insL lt x l else x::y::l
def zcr {α:Type} (lt:α->α->Bool):List α->List α
 | []=>[]
 | x::l=>insL lt x (zcr lt l)
def pwB {α:Type} (r:α->α->Bool):List α->Bool
 | []=>true
 | x::l=>l.all (r x)&&pwB r l
theorem zv6 {α:Type} (lt:α->α->Bool) (x:α):∀ l:List α,(insL lt x l).Perm (x::l)
 | []=>List.Perm.refl _
 | y::l=>by
  simp only [insL]
  cases lt y x with
  | true=>exact((zv6 lt x l).cons y).trans (List.Perm.swap x y l)
  | false=>exact List.Perm.refl _
theorem z7g {α:Type} (lt:α->α->Bool):∀ l:List α,(zcr lt l).Perm l
 | []=>List.Perm.refl _
 | x::l=>(zv6 lt x _).trans ((z7g lt l).cons x)
theorem y3x {α β:Type} (f:α->β) (lt:β->β->Bool):∀ l:List α,(zcr (fun a b=>lt (f a) (f b)) l).map f=zcr lt (l.map f)
 | []=>rfl
 | x::l=>by
  have ins:∀ m:List α,(insL (fun a b=>lt (f a) (f b)) x m).map f=insL lt (f x) (m.map f):=by
   intro m
   induction m with
   | nil=>rfl
   | cons y m ih=>
    simp only [insL,List.map_cons]
    cases lt (f y) (f x) with
    | true=>simp only [cond_true,List.map_cons,ih]
    | false=>rfl
  simp only [zcr,List.map_cons]
  rw [ins,y3x f lt l]
theorem zvo {α:Type} {lt:α->α->Bool} (hO:Sort.SWO lt) (x:α):∀ l:List α,l.Pairwise (fun a b=>lt b a=false)->(insL lt x l).Pairwise fun a b=>lt b a=false
 | [],_=>List.pairwise_singleton _ _
 | y::l,h=>by
  rw [List.pairwise_cons] at h
  simp only [insL]
  cases hl:lt y x with
  | true=>
   simp only [cond_true,List.pairwise_cons]
   refine⟨fun z hz=>?_,zvo hO x l h.2⟩
   rcases List.mem_cons.1 ((zv6 lt x l).mem_iff.1 hz) with rfl | hz
   ·cases hx:lt z y with
    | false=>rfl
    | true=>have:=hO.trans _ _ _ hl hx; rw [hO.irrefl] at this; cases this
   ·exact h.1 z hz
  | false=>
   simp only [cond_false,List.pairwise_cons]
   refine⟨fun z hz=>?_,h.1,h.2⟩
   rcases List.mem_cons.1 hz with rfl | hz
   ·exact hl
   ·exact hO.ntrans _ _ _ (h.1 z hz) hl
theorem zcz {α:Type} {lt:α->α->Bool} (hO:Sort.SWO lt):∀ l:List α,(zcr lt l).Pairwise fun a b=>lt b a=false
 | []=>List.Pairwise.nil
 | x::l=>zvo hO x _ (zcz hO l)
theorem y8b {α:Type} {r:α->α->Bool} : ∀ {l:List α},pwB r l=true↔l.Pairwise fun a b=>r a b=true
 | []=>by simp [pwB]
 | x::l=>by simp [pwB,y8b (l:=l),List.all_eq_true]
theorem zyb {α:Type} {lt:α->α->Bool} {l l1 l2:List α} (hp:l.Pairwise fun a b=>(lt a b||lt b a)=true) (h1:l1.Perm l) (h2:l2.Perm l) (s1:l1.Pairwise fun a b=>lt b a=false) (s2:l2.Pairwise fun a b=>lt b a=false):l1=l2:=by
 refine List.Perm.eq_of_pairwise (le:=fun a b=>lt b a=false) ?_ s1 s2 (h1.trans h2.symm)
 intro a b ha hb hab hba
 have ha:=h1.mem_iff.1 ha
 have hb:=h2.mem_iff.1 hb
 clear s1 s2 h1 h2
 induction l with
 | nil=>cases ha
 | cons x l ih=>
  rw [List.pairwise_cons] at hp
  rcases List.mem_cons.1 ha with rfl | ha'
  ·rcases List.mem_cons.1 hb with rfl | hb'
   ·rfl
   ·have:=hp.1 b hb'
    rw [hab,hba] at this; cases this
  ·rcases List.mem_cons.1 hb with rfl | hb'
   ·have:=hp.1 a ha'
    rw [hab,hba] at this; cases this
   ·exact ih hp.2 ha' hb'
def ztb {α:Type} (ok:α->Bool) (cf:α->α->Int) (l:List α):Option (List α):=
 bif l.all ok&&Nat.blt l.length 4611686018427387904&&pwB (fun a b=>decide (cf a b<0)||decide (cf b a<0)) l then some (zcr (fun a b=>decide (cf a b<0)) l) else none
theorem y5t {α:Type} {ok:α->Bool} {cf:α->α->Int} {l l':List α} (h:ztb ok cf l=some l') :
  (∀ y∈l,ok y=true)/\l.length<4611686018427387904/\(l.Pairwise fun a b=>(decide (cf a b<0)||decide (cf b a<0))=true)/\l'=zcr (fun a b=>decide (cf a b<0)) l:=by
 unfold ztb at h
 cases hc :(l.all ok&&Nat.blt l.length 4611686018427387904&&pwB (fun a b=>decide (cf a b<0)||decide (cf b a<0)) l) with
 | false=>rw [hc] at h; cases h
 | true=>
  rw [hc] at h
  simp only [Bool.and_eq_true,Nat.blt_eq,List.all_eq_true] at hc
  exact⟨hc.1.1,hc.1.2,y8b.1 hc.2,(Option.some.inj h).symm⟩
theorem yh9 {α:Type} {ok:α->Bool} {cf:α->α->Int} {l:List α} (h1:∀ y∈l,ok y=true) (h2:l.length<4611686018427387904) (h3:l.Pairwise fun a b=>cf a b<0\/cf b a<0):ztb ok cf l=some (zcr (fun a b=>decide (cf a b<0)) l):=by
 unfold ztb
 have :(l.all ok&&Nat.blt l.length 4611686018427387904&&pwB (fun a b=>decide (cf a b<0)||decide (cf b a<0)) l)=true:=by
  simp only [Bool.and_eq_true,Nat.blt_eq,List.all_eq_true]
  exact⟨⟨h1,h2⟩,y8b.2 (h3.imp fun h=>by simpa using h)⟩
 rw [this]; rfl
theorem y8v {α:Type} {ok:α->Bool} (l:List α) (hok:∀ y∈l,ok y=true) :(l.attach.map fun y=>(⟨y.1,hok y.1 y.2⟩ : {y:α // ok y=true})).map (·.1)=l:=by
 rw [List.map_map]
 conv=>rhs; rw [<- List.attach_map_subtype_val l]
 rfl
theorem yew [Dr] {V:TE} {P:Program} {ρ:Shelf.Ren} (L:Proofs.SlLaysF0.n6 P ρ) {E c g:Nat} (hag:∀ w,(isAgg (ρ.t 24)).run P w = .ok true w) (hsz:∀ w,(Go.sizeOf (ρ.t 24)).run P w = .ok (V.sz c) w) (hfl:V.fl c=true) (hagg:z8u (V.d c)=true) (hg:FnOK P g)
  {ok:V.T c->Bool} {cf:V.T c->V.T c->Int} (hO:Sort.SWO (Proofs.ltOf fun a b : {y:V.T c // ok y=true}=>cf a.1 b.1))
  (hcmp:∀ a b,ok a=true->ok b=true->@zla ⟨True⟩ P g [V.vl c a,V.vl c b] fun x news=>x=iv .i64 (cf a b)/\news = []):zft V P (ρ.f 6) ⟨E,c,[.fn g],fun l _=>ztb ok cf l⟩:=by
 intro l _ l' sv hF
 obtain⟨hok,hlen,hpw,rfl⟩:=y5t hF
 refine yht (vs0:=[.func (.func g) #[] #[]]) (ce:=V.cv c) (fun x _=>yhy hfl x) (fun x _=>yhy hfl x) (fun x _=>ygp hfl x) (fun x _=>y5u hfl x) (fun x _=>y5u hfl x) (z7g _ _).length_eq rfl ?_ ?_
 ·intro _ p cap w
  exact Proofs.AnyF.slices_SortFunc_none L p cap _ w
 ·intro hne b cap w hlt hH
  generalize hd :(l.attach.map fun y=>(⟨y.1,hok y.1 y.2⟩ : {y:V.T c // ok y=true}))=d
  have hv:d.map (·.1)=l:=by rw [<- hd]; exact y8v _ hok
  have hd0:d≠[]:=fun e=>hne (by rw [<- hv,e]; rfl)
  obtain⟨x0,hx0⟩:=List.exists_mem_of_ne_nil d hd0
  let _:Inhabited {y:V.T c // ok y=true}:=⟨x0⟩
  have hs:d.toArray.size=l.length:=by rw [<- hv]; simp
  have eg:∀ args w,(callFunc g args).run P w = .ok (.enter g args) w:=by
   obtain⟨fn,h1,h2,h3⟩:=hg
   obtain⟨cd,h3⟩:=Option.isSome_iff_exists.1 h3
   exact Proofs.enters_of h1 h2 h3
  have hfm:∀ q:List {y:V.T c // ok y=true},q.flatMap (fun y=>V.cv c y.1) =(q.map (·.1)).flatMap (V.cv c):=fun q=>by rw [List.flatMap_map]
  have hrun:=Proofs.AnyQ.slices_SortFunc L (V.sz c) hag hsz (fun y : {y:V.T c // ok y=true}=>V.cv c y.1) (fun y=>y5u hfl y.1) (fun y=>ygp hfl y.1) (fun a b=>cf a.1 b.1) hO g #[] b 0 cap d.toArray w eg ?_ (hH _ ?_) hlt (by rw [hs]; exact hlen)
  ·rw [hs] at hrun
   refine hrun.mono ?_
   rintro e w' ⟨rfl,d',n,os,⟨k1,_,k3⟩,k4,rfl⟩
   refine⟨rfl,n,os,_,?_,rfl⟩
   rw [zyf (e:=fun y : {y:V.T c // ok y=true}=>V.cv c y.1) (fun y=>y5u hfl y.1),hfm]
   have hdl:d'.size=l.length:=by rw [k1,hs]
   have e1:d'.extract 0 l.length=d':=by rw [<- hdl]; exact Array.extract_size
   have e2:d.toArray.extract 0 l.length=d.toArray:=by rw [<- hs]; exact Array.extract_size
   rw [e1,e2] at k3
   have k3:d'.toList.Perm d:=by simpa using k3
   have key:d'.toList=zcr (Proofs.ltOf fun a b : {y:V.T c // ok y=true}=>cf a.1 b.1) d:=by
    refine zyb (l:=d) (lt:=Proofs.ltOf fun a b : {y:V.T c // ok y=true}=>cf a.1 b.1) ?_ k3 (z7g _ _) ?_ (zcz hO _)
    ·rw [<- hv] at hpw
     exact List.pairwise_map.1 hpw
    ·rw [List.pairwise_iff_getElem]
     intro i j hi hj hij
     have hi':i<d'.size:=by simpa using hi
     have hj':j<d'.size:=by simpa using hj
     have:=k4 i j (Nat.zero_le _) hij (by omega)
     rw [getElem!_pos d' i hi',getElem!_pos d' j hj'] at this
     simpa using this
   have hm:=y3x (fun y : {y:V.T c // ok y=true}=>y.1) (fun a b=>decide (cf a b<0)) d
   rw [hv] at hm
   rw [key,<- hm]
   rfl
  ·intro m os dk _ y z
   have hp:=hcmp y.1 z.1 y.2 z.2 (fun _=>False) (Proofs.sortWorldK (fun y : {y:V.T c // ok y=true}=>V.cv c y.1) (V.sz c) w b 0 m dk os) (#[.agg (V.cv c y.1).toArray,.agg (V.cv c z.1).toArray]++#[]) (fun _ h=>h.elim) rfl ?_
   ·refine hp.mono ?_
    rintro e w' ⟨v,u,objs,r',S',rfl,_,hw',hu,rfl,_⟩
    have hu:v = .int .i64 (cf y.1 z.1):=hu
    subst hu
    exact⟨rfl,yiy (@WInv.below ⟨True⟩ _ _ _ _ _ _ hw')⟩
   ·intro i A hi
    have one:∀ q:V.T c,(V.vl c q).h (fun _=>False) (Proofs.sortWorldK (fun y : {y:V.T c // ok y=true}=>V.cv c y.1) (V.sz c) w b 0 m dk os) (.agg (V.cv c q).toArray):=fun q=>by
     rw [zsx q hagg]
     refine⟨_,rfl,?_⟩
     rw [yhy hfl]
     exact zr3 (ygp hfl q)
    match i,hi with
    | 0,hi=>cases hi; exact one y.1
    | 1,hi=>cases hi; exact one z.1
    | i+2,hi=>simp at hi
  ·rw [zyf (e:=fun y : {y:V.T c // ok y=true}=>V.cv c y.1) (fun y=>y5u hfl y.1),hfm,List.toList_toArray,hv]
end Px
end
section
namespace Px
open Go Go.RowKit Go.ChangeShapes Go.WideShapes Go.ChangeAt
section
variable {T:Nat->Type}
def rT (g :(c:Nat)->T c->Prop) :(fs:List Nat)->Tup T fs->Prop
 | [],_=>True
 | [c],x=>g c x.1
 | c::cs,x=>g c x.1/\rT g cs x.2
def rD (g :(c:Nat)->T c->Prop) : {α:Type}->Ds T α->α->Prop
 | _,.int k,x=>RI k x
 | _,.bool,_=>True
 | _,.str,x=>x.size<=maxLen
 | _,.sl c,x=>RL (g c) x
 | _,.map _ _,_=>True
 | _,.arr n c,x=>∀ i,i<n->g c (x i)
 | _,.st fs _ un _,x=>rT g fs (un x)
theorem yms {g :(c:Nat)->T c->Prop} {c:Nat} : ∀ {cs:List Nat} {x:T c×Tup T cs},g c x.1->rT g cs x.2->rT g (c::cs) x
 | [],_,h,_=>h
 | _::_,_,h,k=>⟨h,k⟩
end
section
variable (V:TE) (P:Program)
def rdN:Nat->(c:Nat)->V.T c->Prop
 | 0,_,_=>True
 | n+1,c,x=>rD (rdN n) (V.d c) x
def opF (g:TypeId->Nat->Bool):List Nat->List (TypeId×Nat×Nat)->Nat->Nat->Bool
 | [],[],o,m=>Nat.beq o m
 | c::cs,(ty,off,m)::l,o,e=>Nat.beq off o&&Nat.beq m (V.sz c)&&g ty c&&opF g cs l (o+m) e
 | _,_,_,_=>false
def opD (g:TypeId->Nat->Bool) : {α:Type}->Ds V.T α->TypeId->Bool
 | _,.int k,t=>match P.underlying t with | some (.int k')=>decide (k'=k) | _=>false
 | _,.bool,t=>match P.underlying t with | some .bool=>true | _=>false
 | _,.str,t=>match P.underlying t with | some .string=>true | _=>false
 | _,.sl c,t=>match P.underlying t with | some (.slice E)=>Nat.beq (P.cellsOf E) (V.sz c)&&Nat.blt 0 (V.sz c)&&g E c | _=>false
 | _,.map _ _,_=>false
 | _,.arr n c,t=>match P.underlying t with | some (.array N E)=>Nat.beq N n&&Nat.beq (P.cellsOf E) (V.sz c)&&Nat.beq (P.cellsOf t) (n*V.sz c)&&g E c | _=>false
 | _,.st fs _ _ _,t=>match zzz P t with | some l=>opF V g fs l 0 (P.cellsOf t) | none=>false
def opN:Nat->TypeId->Nat->Bool
 | 0,_,_=>false
 | n+1,t,c=>opD V P (opN n) (V.d c) t
def yoi (n:Nat):List TypeId->List Nat->Bool
 | [],[]=>true
 | t::ts,c::cs=>opN V P n t c&&yoi n ts cs
 | _,_=>false
def ynb (n:Nat) :(cs:List Nat)->Tup V.T cs->Prop
 | [],_=>True
 | c::cs,x=>rdN V n c x.1/\ynb n cs x.2
variable {V P}
theorem yl3:∀(n:Nat) (t:TypeId) (c:Nat),opN V P n t c=true->Opn P t (V.sz c) (V.ev c) (rdN V n c)
 | 0,_,_,h=>by cases h
 | n+1,t,c,h=>by
  have ih:=yl3 n
  have hev:V.ev c=evD V.ev (V.mv V.ev) V.sz (V.d c):=funext fun x=>V.ev_eq c x
  have hr:rdN V (n+1) c=rD (rdN V n) (V.d c):=rfl
  rw [hev,V.sz_eq,hr]
  change opD V P (opN V P n) (V.d c) t=true at h
  revert h
  clear hev hr
  generalize V.d c=d
  revert d
  generalize V.T c=α
  intro d h
  cases d with
  | int k=>
   simp only [opD] at h
   split at h
   ·rename_i k' hu
    simp only [decide_eq_true_eq] at h
    subst h
    exact Opn.int hu
   ·cases h
  | bool=>
   simp only [opD] at h
   split at h
   ·rename_i hu; exact Opn.bool hu
   ·cases h
  | str=>
   simp only [opD] at h
   split at h
   ·rename_i hu; exact Opn.string hu
   ·cases h
  | sl c'=>
   simp only [opD] at h
   split at h
   ·rename_i E hu
    simp only [Bool.and_eq_true,Nat.blt_eq] at h
    obtain⟨⟨h1,h2⟩,h3⟩:=h
    exact Opn.slice hu (Nat.eq_of_beq_eq_true h1) h2 (ih E c' h3)
   ·cases h
  | map kc vc=>simp [opD] at h
  | arr m c'=>
   simp only [opD] at h
   split at h
   ·rename_i N E hu
    simp only [Bool.and_eq_true] at h
    obtain⟨⟨⟨h1,h2⟩,h3⟩,h4⟩:=h
    have h1:=Nat.eq_of_beq_eq_true h1
    subst h1
    have:Inhabited (V.T c'):=⟨V.z c'⟩
    exact Opn.array hu (Nat.eq_of_beq_eq_true h2) (Nat.eq_of_beq_eq_true h3) rfl (ih E c' h4)
   ·cases h
  | st fs mk un law=>
   simp only [opD] at h
   split at h
   ·rename_i l hl
    intro H enc w sp held fuel cs x hx
    obtain⟨hlen,m,hf⟩:=y7o hl hx
    have key:∀(fs:List Nat) (l':List (TypeId×Nat×Nat)) (o:Nat),opF V (opN V P n) fs l' o (P.cellsOf t)=true->(∀(i:Nat) (ty:TypeId) (off m':Nat),l'[i]? = some (ty,off,m')->∃ y,DataW.trod enc P w 0 sp held m ty ((cs.drop off).take m')=some y)->
      o+fs.foldr (fun c s=>V.sz c+s) 0=P.cellsOf t/\∃ y:Tup V.T fs,rT (rdN V n) fs y/\zj (fun b=>b<w.heap.size) w (evT V.ev fs y) (cs.drop o):=by
     intro fs
     induction fs with
     | nil=>
      intro l' o h hf
      cases l' with
      | nil=>
       have:=Nat.eq_of_beq_eq_true h
       subst this
       exact⟨rfl,(),trivial,zj.tile0 hlen⟩
      | cons a l'=>cases h
     | cons c cs' ihf=>
      intro l' o h hf
      cases l' with
      | nil=>cases h
      | cons a l'=>
       obtain⟨ty,off,m'⟩:=a
       simp only [opF,Bool.and_eq_true] at h
       obtain⟨⟨⟨h1,h2⟩,h3⟩,h4⟩:=h
       have h1:=Nat.eq_of_beq_eq_true h1
       have h2:=Nat.eq_of_beq_eq_true h2
       subst h1; subst h2
       obtain⟨y0,hy0⟩:=hf 0 _ _ _ rfl
       obtain⟨_,y,hR,hc⟩:=ih ty c h3 _ _ _ _ _ _ _ _ hy0
       obtain⟨he,z,hz,hcz⟩:=ihf l' _ h4 (fun i ty off m' hi=>hf (i+1) ty off m' hi)
       refine⟨by simp only [List.foldr_cons]; omega,(y,z),yms hR hz,?_⟩
       exact zj.tile hc hcz
    obtain⟨he,y,hy,hc⟩:=key fs l 0 h hf
    rw [List.drop_zero] at hc
    refine⟨by rw [hlen,<- he,Nat.zero_add]; rfl,mk y,?_,?_⟩
    ·show rT _ fs (un (mk y))
     rw [law]; exact hy
    ·show zj _ _ (evT V.ev fs (un (mk y))) cs
     rw [law]; exact hc
   ·cases h
theorem yqe {H:Type} {enc:TypeId×Value->H} {W:World} {sp:Nat->Bool} {held:Bool} {base n:Nat} {t:TypeId} {c:Nat} {v:Value} {d:DataW H} {p:List MemPlace}
  (ho:opN V P n t c=true) (hv:Value.okWide P W .any base t v) (h:DataW.Trod enc P W 0 sp held t v d p):∃ y,rdN V n c y/\(V.vl c y).h (fun b=>b<W.heap.size) W v:=by
 cases n with
 | zero=>cases ho
 | succ n=>
 obtain⟨fuel,hf⟩:=h
 obtain⟨_,y,hR,hc⟩:=yl3 _ _ _ ho _ _ _ _ _ _ _ _ hf
 refine⟨y,hR,?_⟩
 change opD V P (opN V P n) (V.d c) t=true at ho
 unfold Value.okWide at hv
 cases ha:z8u (V.d c) with
 | true=>
  rw [zsx y ha]
  have hs:∃ cs,v = .agg cs:=by
   revert ho ha
   generalize V.d c=d
   generalize V.T c=α at d
   intro ho ha
   cases d with
   | arr m c'=>
    simp only [opD] at ho
    split at ho
    ·rename_i N E hu
     rw [hu] at hv
     obtain⟨cs,rfl,_⟩:=hv
     exact⟨cs,rfl⟩
    ·cases ho
   | st fs mk un law=>
    simp only [opD,zzz] at ho
    cases hu:P.underlying t with
    | none=>rw [hu] at ho; cases ho
    | some X=>
     rw [hu] at ho hv
     cases X with
     | struct fs'=>obtain⟨cs,rfl,_⟩:=hv; exact⟨cs,rfl⟩
     | _=>cases ho
   | _=>cases ha
  obtain⟨cs,rfl⟩:=hs
  exact⟨cs,rfl,hc⟩
 | false=>
  rw [zv8 y ha] at hc
  have hcell:v.cells.toList = [v]:=by
   revert ho ha
   generalize V.d c=d
   generalize V.T c=α at d
   intro ho ha
   cases d with
   | int k=>
    simp only [opD] at ho
    split at ho
    ·rename_i k' hu
     rw [hu] at hv
     cases v <;> first | rfl |(exfalso; simp [Cell.okWide,Cell.ok,hu] at hv)
    ·cases ho
   | bool=>
    simp only [opD] at ho
    split at ho
    ·rename_i hu
     rw [hu] at hv
     cases v <;> first | rfl |(exfalso; simp [Cell.okWide,Cell.ok,hu] at hv)
    ·cases ho
   | str=>
    simp only [opD] at ho
    split at ho
    ·rename_i hu
     rw [hu] at hv
     cases v <;> first | rfl |(exfalso; simp [Cell.okWide,Cell.ok,hu] at hv)
    ·cases ho
   | sl c'=>
    simp only [opD] at ho
    split at ho
    ·rename_i E hu
     rw [hu] at hv
     cases v <;> first | rfl |(exfalso; simp [Cell.okWide,Cell.ok,hu] at hv)
    ·cases ho
   | arr m c'=>cases ha
   | map kc vc=>simp [opD] at ho
   | st fs mk un law=>cases ha
  rw [hcell] at hc
  obtain⟨u,hu',hA,_⟩:=hc.2 0 (V.vl c y) rfl
  simp at hu'
  subst hu'
  exact hA
theorem ydh {H:Type} {enc:TypeId×Value->H} {W:World} {sp:Nat->Bool} {held:Bool} {base n:Nat} : ∀ {ts:List TypeId} {cs:List Nat} {vs:List Value} {ds:List (DataW H)} {ps:List MemPlace},
  yoi V P n ts cs=true->DataW.TrodAll enc P W 0 sp held ts vs ds ps->(∀(j:Nat) t v,ts[j]? = some t->vs[j]? = some v->Value.okWide P W .any base t v)->
  vs.length=cs.length/\∃ x:Tup V.T cs,ynb V n cs x/\∀(i:Nat) (A:VP),(vls V cs x)[i]? = some A->A.h (fun b=>b<W.heap.size) W (vs.getD i undef)
 | [],[],vs,ds,ps,_,h,_=>by
  cases vs with
  | nil=>exact⟨rfl,(),trivial,fun i A hi=>by simp [vls] at hi⟩
  | cons v vs=>cases ds <;> exact h.elim
 | t::ts,c::cs,vs,ds,ps,ho,h,hv=>by
  simp only [yoi,Bool.and_eq_true] at ho
  cases vs with
  | nil=>cases ds <;> exact h.elim
  | cons v vs=>
   cases ds with
   | nil=>exact h.elim
   | cons d ds=>
    obtain⟨p,q,h1,h2,_⟩:=h
    obtain⟨y,hR,hA⟩:=yqe ho.1 (hv 0 t v rfl rfl) h1
    obtain⟨hl,x,hx,hxs⟩:=ydh ho.2 h2 (fun j t v ht hvj=>hv (j+1) t v ht hvj)
    refine⟨by simp [hl],(y,x),⟨hR,hx⟩,fun i A hi=>?_⟩
    cases i with
    | zero=>simp only [vls,List.getElem?_cons_zero,Option.some.injEq] at hi; subst hi; exact hA
    | succ i=>simp only [vls,List.getElem?_cons_succ] at hi; simpa using hxs i A hi
 | [],_::_,_,_,_,ho,_,_=>by cases ho
 | _::_,[],_,_,_,ho,_,_=>by cases ho
theorem zut {H:Type} {enc:TypeId×Value->H} {P:Program} {W:World} {b:Nat} {sp:Nat->Bool} {held:Bool} : ∀ {ts:List TypeId} {vs:List Value} {ds:List (DataW H)} {ps:List MemPlace},DataW.TrodAll enc P W b sp held ts vs ds ps->ds.length=ts.length
 | [],[],[],_,_=>rfl
 | t::ts,v::vs,d::ds,ps,⟨p,q,_,h,_⟩=>by simp [zut h]
 | [],_::_,_,_,h=>h.elim
 | [],[],_::_,_,h=>h.elim
 | _::_,[],_,_,h=>h.elim
 | _::_,_::_,[],_,h=>h.elim
theorem ydn:∀(cs:List Nat) (x:Tup V.T cs),(vls V cs x).length=cs.length
 | [],_=>rfl
 | c::cs,x=>by simp only [vls,List.length_cons,ydn cs]
theorem yp9 [Dr] {f:FuncId} {sp:Fsp V} {W:World} {vs:Array Value} {x:Tup V.T sp.args} {r:RTup V.T sp.res} (hf:zr V P f sp) (hr:sp.F x=some r) (hres:∀ B:Asg,(resV V (encR V 0 sp.res r)).den V P B=bv true) (hno:newR V sp.res r = [])
  (hl:vs.toList.length=sp.args.length) (hA:∀(i:Nat) (A:VP),(vls V sp.args x)[i]? = some A->A.h (fun b=>b<W.heap.size) W (vs.toList.getD i undef)):Calls P f vs W (fun e W'=>e = .returned (.bool true)/\Below W.heap.size W W'):=by
 refine yez (As:=vls V sp.args x) ((hf x r hr).mono ?_) (by rw [ydn]; simpa using hl) (fun i A hi=>?_)
 ·rintro y news ⟨B,hB,rfl,rfl⟩
  rw [hno] at hB ⊢
  refine⟨hres B,?_⟩
  cases B <;> rfl
 ·have:=hA i A hi
  simpa [Array.getD_eq_getD_getElem?,List.getD_eq_getElem?_getD] using this
end
theorem zbk.same {R:Type} {x:Option R} {n:Nat} {y:Option (List (Option R))} (h:y=some (List.replicate n x)):zbk x y:=
 ⟨fun r hr=>⟨_,h,fun a ha=>by rw [(List.mem_replicate.1 ha).2,hr]⟩⟩
theorem zbk.ck {R:Type} {p:Prop} [Decidable p] {x:Option R} {y:Option (List (Option R))} (h:zbk x y):zbk (Px.ck p x) (Px.ck p y):=
 ⟨fun r hr=>by
  unfold Px.ck at *
  split at hr
  ·rename_i hp; simp only [if_pos hp]; exact h.ok r hr
  ·cases hr⟩
theorem zbk.bind {R α:Type} {m:Option α} {f:α->Option R} {g:α->Option (List (Option R))} (h:∀ a,zbk (f a) (g a)):zbk (m.bind f) (m.bind g):=
 ⟨fun r hr=>by
  cases m with
  | none=>cases hr
  | some a=>exact(h a).ok r hr⟩
theorem zbk.one {R:Type} {x:Option R} : zbk x (some [x]):=⟨fun r hr=>⟨_,rfl,fun a ha=>by rw [List.mem_singleton.1 ha,hr]⟩⟩
theorem zbk.nil {R:Type} {x:Option R} : zbk x (catL []):=⟨fun r hr=>⟨[],rfl,fun a ha=>by cases ha⟩⟩
theorem zbk.cons {R:Type} {x:Option R} {y:Option (List (Option R))} {l:List (Option (List (Option R)))} (h:zbk x y) (hl:zbk x (catL l)):zbk x (catL (y::l)):=
 ⟨fun r hr=>by
  obtain⟨a,ha,h1⟩:=h.ok r hr
  obtain⟨b,hb,h2⟩:=hl.ok r hr
  refine⟨a++b,by simp only [catL,ha,hb,cat2],fun z hz=>?_⟩
  rcases List.mem_append.1 hz with hz | hz
  ·exact h1 z hz
  ·exact h2 z hz⟩
end Px
end
section
set_option maxHeartbeats 4000000
set_option maxRecDepth 100000
namespace Px
open Go Go.RowKit
def zt:ByteArray:=⟨#[0,1,2,2,3,3,3,3,4,4,4,4,4,4,4,4,5,5,5,5,5,5,5,5,5,5,5,5,5,5,5,5,6,6,6,6,6,6,6,6,6,6,6,6,6,6,6,6,6,6,6,6,6,6,6,6,6,6,6,6,6,6,6,6,7,7,7,7,7,7,7,7,7,7,7,7,7,7,7,7,7,7,7,7,7,7,7,7,7,7,7,7,7,7,7,7,7,7,7,7,7,7,7,7,7,7,7,7,7,7,7,7,7,7,7,7,7,7,7,7,7,7,7,7,7,7,7,7,8,8,8,8,8,8,8,8,8,8,8,8,8,8,8,8,8,8,8,8,8,8,8,8,8,8,8,8,8,8,8,8,8,8,8,8,8,8,8,8,8,8,8,8,8,8,8,8,8,8,8,8,8,8,8,8,8,8,8,8,8,8,8,8,8,8,8,8,8,8,8,8,8,8,8,8,8,8,8,8,8,8,8,8,8,8,8,8,8,8,8,8,8,8,8,8,8,8,8,8,8,8,8,8,8,8,8,8,8,8,8,8,8,8,8,8,8,8,8,8,8,8,8,8,8,8,8,8]⟩
def zng:ByteArray:=⟨#[119,111,102]⟩
def zfv:ByteArray:=⟨#[119,112,102,116]⟩
def z7p:ByteArray:=⟨#[119,112,111,102,99]⟩
def zoj:ByteArray:=⟨#[110,119,111,112,100,107,103,102]⟩
def zfz:ByteArray:=⟨#[119,112,111,102]⟩
def zoh:ByteArray:=⟨#[119,102,99]⟩
def zom:ByteArray:=⟨#[119,112,102,116,99,97,113]⟩
def zvy:ByteArray:=⟨#[111,113]⟩
def zn6:ByteArray:=⟨#[110,102,120]⟩
def zwk:ByteArray:=⟨#[110,102]⟩
def zog:ByteArray:=⟨#[111,112,107,110,103,102,116,97]⟩
def z4u:ByteArray:=⟨#[119,112,111,110,102,116,99,100,107,103,97]⟩
structure Part where
 kind:Int
 serial:Int
 fitted:Bool
instance:Inhabited Part:=⟨⟨0,0,false⟩⟩
structure Ref where
 railway:Int
 no:Int
instance:Inhabited Ref:=⟨⟨0,0⟩⟩
structure Item where
 kind:Int
 ref:Ref
 wagon:Int
 place:Int
 other:Int
 number:Int
 from_:Int
 to:Int
 code:Int
 dest:Int
 class_:Int
 weight:Int
 amount:Int
 text:ByteArray
 parts :(List Part)
instance:Inhabited Item:=⟨⟨0,default,0,0,0,0,0,0,0,0,0,0,0,⟨#[]⟩,[]⟩⟩
structure z1 where
 ref:Ref
 by_:Ref
 time:Int
 item:Item
instance:Inhabited z1:=⟨⟨default,default,0,default⟩⟩
structure z7 where
 kind:Int
 serial:Int
instance:Inhabited z7:=⟨⟨0,0⟩⟩
structure z8c where
 part:Part
 wagon:Int
 certain:Bool
instance:Inhabited z8c:=⟨⟨default,0,false⟩⟩
structure z8j where
 kind:Int
 railway:Int
 other:Int
instance:Inhabited z8j:=⟨⟨0,0,0⟩⟩
structure Edge where
 a:Int
 b:Int
 railway:Int
 minutes:Int
 km:Int
instance:Inhabited Edge:=⟨⟨0,0,0,0,0⟩⟩
structure z8x where
 places :(List z8j)
 edges :(List Edge)
instance:Inhabited z8x:=⟨⟨[],[]⟩⟩
structure z1k where
 load:Int
 tare:Int
 length:Int
 gauge:Int
 brake:Int
 classes:Int
 life:Int
 floor:Int
instance:Inhabited z1k:=⟨⟨0,0,0,0,0,0,0,0⟩⟩
structure zoa where
 type_:Int
 owner:Int
 home:Int
 built:Int
 worth:Int
instance:Inhabited zoa:=⟨⟨0,0,0,0,0⟩⟩
structure Swap where
 wanted:Int
 given:Int
 cost:Int
instance:Inhabited Swap:=⟨⟨0,0,0⟩⟩
structure Wash where
 from_:Int
 to:Int
 minutes:Int
instance:Inhabited Wash:=⟨⟨0,0,0⟩⟩
structure zdv where
 types :(List z1k)
 wagons :(List zoa)
 swaps :(List Swap)
 washes :(List Wash)
instance:Inhabited zdv:=⟨⟨[],[],[],[]⟩⟩
structure zll where
 place:Int
 low:Int
 high:Int
instance:Inhabited zll:=⟨⟨0,0,0⟩⟩
structure zde where
 place:Int
instance:Inhabited zde:=⟨⟨0⟩⟩
structure Span where
 from_:Int
 to:Int
instance:Inhabited Span:=⟨⟨0,0⟩⟩
structure z6j where
 open_ :(Nat->Span)
 holidays :(List Int)
instance:Inhabited z6j:=⟨⟨fun _=>default,[]⟩⟩
structure z1z where
 key:Int
 calendar:z6j
instance:Inhabited z1z:=⟨⟨0,default⟩⟩
structure Pool where
 network:z8x
 fleet:zdv
 readers :(List zll)
 shippers :(List zde)
 railways :(List z1z)
instance:Inhabited Pool:=⟨⟨default,default,[],[],[]⟩⟩
structure ze where
 p:Pool
 it:Item
 ok:Bool
instance:Inhabited ze:=⟨⟨default,default,false⟩⟩
structure z6 where
 wagon:Int
 place:Int
 from_:Int
 to:Int
 at_:Int
 code:Int
 deliver:Ref
 receive:Ref
instance:Inhabited z6:=⟨⟨0,0,0,0,0,0,default,default⟩⟩
structure z1f where
 railway:Int
 span:Span
 ref:Ref
instance:Inhabited z1f:=⟨⟨0,default,default⟩⟩
structure zmc where
 kind:Int
 wagon:Int
 after:Int
instance:Inhabited zmc:=⟨⟨0,0,0⟩⟩
def TT:Nat->Type
 | 0=>Int
 | 1=>Bool
 | 2=>Part
 | 3=>Ref
 | 4=>ByteArray
 | 5=>(List Part)
 | 6=>Item
 | 7=>z1
 | 8=>(List Int)
 | 9=>z7
 | 10=>(List z1)
 | 11=>(List (Int×Bool))
 | 12=>(List (z7×(List (Int×Bool))))
 | 13=>z8c
 | 14=>(List z8c)
 | 15=>z8j
 | 16=>(List z8j)
 | 17=>Edge
 | 18=>(List Edge)
 | 19=>z8x
 | 20=>Int
 | 21=>z1k
 | 22=>(List z1k)
 | 23=>zoa
 | 24=>(List zoa)
 | 25=>Swap
 | 26=>(List Swap)
 | 27=>Wash
 | 28=>(List Wash)
 | 29=>zdv
 | 30=>zll
 | 31=>(List zll)
 | 32=>zde
 | 33=>(List zde)
 | 34=>Span
 | 35=>(Nat->Span)
 | 36=>z6j
 | 37=>z1z
 | 38=>(List z1z)
 | 39=>Pool
 | 40=>(Nat->Bool)
 | 41=>ze
 | 42=>(Nat->Int)
 | 43=>(List (Nat->Int))
 | 44=>z6
 | 45=>(List z6)
 | 46=>z1f
 | 47=>(List z1f)
 | 48=>(List (z7×Bool))
 | 49=>Int
 | 50=>zmc
 | 51=>(List zmc)
 | _=>Unit
def TD :(c:Nat)->Ds TT (TT c)
 | 0=>.int .i64
 | 1=>.bool
 | 2=>.st [0,0,1] (fun t=>⟨t.1,t.2.1,t.2.2.1⟩) (fun x=>(x.kind,x.serial,x.fitted,())) (fun _=>rfl)
 | 3=>.st [0,0] (fun t=>⟨t.1,t.2.1⟩) (fun x=>(x.railway,x.no,())) (fun _=>rfl)
 | 4=>.str
 | 5=>.sl 2
 | 6=>.st [0,3,0,0,0,0,0,0,0,0,0,0,0,4,5] (fun t=>⟨t.1,t.2.1,t.2.2.1,t.2.2.2.1,t.2.2.2.2.1,t.2.2.2.2.2.1,t.2.2.2.2.2.2.1,t.2.2.2.2.2.2.2.1,t.2.2.2.2.2.2.2.2.1,t.2.2.2.2.2.2.2.2.2.1,t.2.2.2.2.2.2.2.2.2.2.1,t.2.2.2.2.2.2.2.2.2.2.2.1,t.2.2.2.2.2.2.2.2.2.2.2.2.1,t.2.2.2.2.2.2.2.2.2.2.2.2.2.1,t.2.2.2.2.2.2.2.2.2.2.2.2.2.2.1⟩) (fun x=>(x.kind,x.ref,x.wagon,x.place,x.other,x.number,x.from_,x.to,x.code,x.dest,x.class_,x.weight,x.amount,x.text,x.parts,())) (fun _=>rfl)
 | 7=>.st [3,3,0,6] (fun t=>⟨t.1,t.2.1,t.2.2.1,t.2.2.2.1⟩) (fun x=>(x.ref,x.by_,x.time,x.item,())) (fun _=>rfl)
 | 8=>.sl 0
 | 9=>.st [0,0] (fun t=>⟨t.1,t.2.1⟩) (fun x=>(x.kind,x.serial,())) (fun _=>rfl)
 | 10=>.sl 7
 | 11=>.map 0 1
 | 12=>.map 9 11
 | 13=>.st [2,0,1] (fun t=>⟨t.1,t.2.1,t.2.2.1⟩) (fun x=>(x.part,x.wagon,x.certain,())) (fun _=>rfl)
 | 14=>.sl 13
 | 15=>.st [0,0,0] (fun t=>⟨t.1,t.2.1,t.2.2.1⟩) (fun x=>(x.kind,x.railway,x.other,())) (fun _=>rfl)
 | 16=>.sl 15
 | 17=>.st [0,0,0,0,0] (fun t=>⟨t.1,t.2.1,t.2.2.1,t.2.2.2.1,t.2.2.2.2.1⟩) (fun x=>(x.a,x.b,x.railway,x.minutes,x.km,())) (fun _=>rfl)
 | 18=>.sl 17
 | 19=>.st [16,18] (fun t=>⟨t.1,t.2.1⟩) (fun x=>(x.places,x.edges,())) (fun _=>rfl)
 | 20=>.int .u64
 | 21=>.st [0,0,0,0,0,20,0,0] (fun t=>⟨t.1,t.2.1,t.2.2.1,t.2.2.2.1,t.2.2.2.2.1,t.2.2.2.2.2.1,t.2.2.2.2.2.2.1,t.2.2.2.2.2.2.2.1⟩) (fun x=>(x.load,x.tare,x.length,x.gauge,x.brake,x.classes,x.life,x.floor,())) (fun _=>rfl)
 | 22=>.sl 21
 | 23=>.st [0,0,0,0,0] (fun t=>⟨t.1,t.2.1,t.2.2.1,t.2.2.2.1,t.2.2.2.2.1⟩) (fun x=>(x.type_,x.owner,x.home,x.built,x.worth,())) (fun _=>rfl)
 | 24=>.sl 23
 | 25=>.st [0,0,0] (fun t=>⟨t.1,t.2.1,t.2.2.1⟩) (fun x=>(x.wanted,x.given,x.cost,())) (fun _=>rfl)
 | 26=>.sl 25
 | 27=>.st [0,0,0] (fun t=>⟨t.1,t.2.1,t.2.2.1⟩) (fun x=>(x.from_,x.to,x.minutes,())) (fun _=>rfl)
 | 28=>.sl 27
 | 29=>.st [22,24,26,28] (fun t=>⟨t.1,t.2.1,t.2.2.1,t.2.2.2.1⟩) (fun x=>(x.types,x.wagons,x.swaps,x.washes,())) (fun _=>rfl)
 | 30=>.st [0,0,0] (fun t=>⟨t.1,t.2.1,t.2.2.1⟩) (fun x=>(x.place,x.low,x.high,())) (fun _=>rfl)
 | 31=>.sl 30
 | 32=>.st [0] (fun t=>⟨t.1⟩) (fun x=>(x.place,())) (fun _=>rfl)
 | 33=>.sl 32
 | 34=>.st [0,0] (fun t=>⟨t.1,t.2.1⟩) (fun x=>(x.from_,x.to,())) (fun _=>rfl)
 | 35=>.arr 7 34
 | 36=>.st [35,8] (fun t=>⟨t.1,t.2.1⟩) (fun x=>(x.open_,x.holidays,())) (fun _=>rfl)
 | 37=>.st [20,36] (fun t=>⟨t.1,t.2.1⟩) (fun x=>(x.key,x.calendar,())) (fun _=>rfl)
 | 38=>.sl 37
 | 39=>.st [19,29,31,33,38] (fun t=>⟨t.1,t.2.1,t.2.2.1,t.2.2.2.1,t.2.2.2.2.1⟩) (fun x=>(x.network,x.fleet,x.readers,x.shippers,x.railways,())) (fun _=>rfl)
 | 40=>.arr 4096 1
 | 41=>.st [39,6,1] (fun t=>⟨t.1,t.2.1,t.2.2.1⟩) (fun x=>(x.p,x.it,x.ok,())) (fun _=>rfl)
 | 42=>.arr 2 0
 | 43=>.sl 42
 | 44=>.st [0,0,0,0,0,0,3,3] (fun t=>⟨t.1,t.2.1,t.2.2.1,t.2.2.2.1,t.2.2.2.2.1,t.2.2.2.2.2.1,t.2.2.2.2.2.2.1,t.2.2.2.2.2.2.2.1⟩) (fun x=>(x.wagon,x.place,x.from_,x.to,x.at_,x.code,x.deliver,x.receive,())) (fun _=>rfl)
 | 45=>.sl 44
 | 46=>.st [0,34,3] (fun t=>⟨t.1,t.2.1,t.2.2.1⟩) (fun x=>(x.railway,x.span,x.ref,())) (fun _=>rfl)
 | 47=>.sl 46
 | 48=>.map 9 1
 | 49=>.int .u8
 | 50=>.st [0,0,0] (fun t=>⟨t.1,t.2.1,t.2.2.1⟩) (fun x=>(x.kind,x.wagon,x.after,())) (fun _=>rfl)
 | 51=>.sl 50
 | _+52=>.st [] (fun _=>()) (fun _=>()) (fun _=>rfl)
def TZ :(c:Nat)->TT c
 | 0=>(default:Int)
 | 1=>(default:Bool)
 | 2=>(default:Part)
 | 3=>(default:Ref)
 | 4=>(default:ByteArray)
 | 5=>(default :(List Part))
 | 6=>(default:Item)
 | 7=>(default:z1)
 | 8=>(default :(List Int))
 | 9=>(default:z7)
 | 10=>(default :(List z1))
 | 11=>(default :(List (Int×Bool)))
 | 12=>(default :(List (z7×(List (Int×Bool)))))
 | 13=>(default:z8c)
 | 14=>(default :(List z8c))
 | 15=>(default:z8j)
 | 16=>(default :(List z8j))
 | 17=>(default:Edge)
 | 18=>(default :(List Edge))
 | 19=>(default:z8x)
 | 20=>(default:Int)
 | 21=>(default:z1k)
 | 22=>(default :(List z1k))
 | 23=>(default:zoa)
 | 24=>(default :(List zoa))
 | 25=>(default:Swap)
 | 26=>(default :(List Swap))
 | 27=>(default:Wash)
 | 28=>(default :(List Wash))
 | 29=>(default:zdv)
 | 30=>(default:zll)
 | 31=>(default :(List zll))
 | 32=>(default:zde)
 | 33=>(default :(List zde))
 | 34=>(default:Span)
 | 35=>(default :(Nat->Span))
 | 36=>(default:z6j)
 | 37=>(default:z1z)
 | 38=>(default :(List z1z))
 | 39=>(default:Pool)
 | 40=>(default :(Nat->Bool))
 | 41=>(default:ze)
 | 42=>(default :(Nat->Int))
 | 43=>(default :(List (Nat->Int)))
 | 44=>(default:z6)
 | 45=>(default :(List z6))
 | 46=>(default:z1f)
 | 47=>(default :(List z1f))
 | 48=>(default :(List (z7×Bool)))
 | 49=>(default:Int)
 | 50=>(default:zmc)
 | 51=>(default :(List zmc))
 | _+52=>()
def TC (t:Nat):Nat:=(lk [(2,0),(3,0),(4,1),(5,49),(6,49),(9,4),(10,4),(11,4),(12,20),(22,10),(24,2),(28,5),(31,14),(34,8),(37,16),(38,18),(40,19),(41,22),(42,24),(43,26),(44,28),(46,29),(47,31),(48,33),(49,38),(51,39),(53,3),(55,6),(57,7),(59,0),(63,51),(66,50),(73,13),(80,23),(85,12),(88,9),(89,11),(106,34),(107,35),(109,36),(110,20),(112,37),(114,48),(124,47),(127,46),(129,15),(131,21),(134,20),(142,30),(145,32),(147,17),(157,41),(162,45),(165,44),(167,0),(182,25),(184,40),(186,27),(198,43),(200,42),(204,20),(249,49),(250,49)] t).getD 52
def TV:TE:=⟨TT,TD,TZ,TC,fun c=>match c with | 0=>rfl | 1=>rfl | 2=>rfl | 3=>rfl | 4=>rfl | 5=>rfl | 6=>rfl | 7=>rfl | 8=>rfl | 9=>rfl | 10=>rfl | 11=>rfl | 12=>rfl | 13=>rfl | 14=>rfl | 15=>rfl | 16=>rfl | 17=>rfl | 18=>rfl | 19=>rfl | 20=>rfl | 21=>rfl | 22=>rfl | 23=>rfl | 24=>rfl | 25=>rfl | 26=>rfl | 27=>rfl | 28=>rfl | 29=>rfl | 30=>rfl | 31=>rfl | 32=>rfl | 33=>rfl | 34=>rfl | 35=>rfl | 36=>rfl | 37=>rfl | 38=>rfl | 39=>rfl | 40=>rfl | 41=>rfl | 42=>rfl | 43=>rfl | 44=>rfl | 45=>rfl | 46=>rfl | 47=>rfl | 48=>rfl | 49=>rfl | 50=>rfl | 51=>rfl | _+52=>rfl⟩
def kl_0:Int->List Int:=TV.kl 0
def kl_9:z7->List Int:=TV.kl 9
def cmpI (a b:Int):Int:=if a<b then -1 else if b<a then 1 else 0
def or2 (a b:Int):Int:=if a≠0 then a else b
def zq9 (a b:Part):Int:=or2 (cmpI a.kind b.kind) (cmpI a.serial b.serial)
def zum (l:List Part):Option (List Part):=ztb (fun _=>true) zq9 l
def z8r (φ:Nat) (x1:Int) (x2:Bool):Option (Part×Unit):=(some ((⟨2,x1,x2⟩:Part),()))
def zhl (φ:Nat):Fsp TV:=⟨[0,1],[.val 2],fun z=>z8r φ z.1 z.2.1⟩
def zcg (φ:Nat) (x1:Int) (x2:Int) (x3:Int) (x4:Part):Option (z1×Unit):=(some ((⟨(⟨0,x1⟩:Ref),(⟨0,0⟩:Ref),0,(⟨9,(⟨0,0⟩:Ref),x2,2,0,0,W (x3-10),x3,2,0,0,0,0,(⟨#[]⟩:ByteArray),[x4]⟩:Item)⟩:z1),()))
def zdo (φ:Nat):Fsp TV:=⟨[0,0,0,2],[.val 7],fun z=>zcg φ z.1 z.2.1 z.2.2.1 z.2.2.2.1⟩
def z2r (φ:Nat) (k10 :(Int->Int->(z1->z1->Option Int)->Int->(List z1)->Option (List z1))):Nat->Int->Int->(z1->z1->Option Int)->Int->Int->(List z1)->Option (List z1)
 | 0,_,_,_,_,_,_=>none
 | n17+1,x11,x12,x13,x14,x15,x16=>(ck (((decide ((x11:Int)<x15))=true)->(0:Int)<=x15/\x15 <(x16.length:Int)) (ck (((decide ((x11:Int)<x15))=true)->(0:Int)<=(W (x15-1))/\(W (x15-1)) <(x16.length:Int)) ((zc (0:Int) ((decide ((x11:Int)<x15))=true) (x13 (gt x16 x15) (gt x16 (W (x15-1))))).bind fun y18=>(if((decide ((x11:Int)<x15))&&(decide ((y18:Int)<0)))=true then(ck ((0:Int)<=(W (x15-1))/\(W (x15-1)) <(x16.length:Int)) (ck ((0:Int)<=x15/\x15 <(x16.length:Int)) (ck ((0:Int)<=x15/\x15 <(x16.length:Int)) (ck ((0:Int)<=(W (x15-1))/\(W (x15-1)) <(((z04 x16 x15 (gt x16 (W (x15-1))))).length:Int)) ((z2r φ k10 n17) x11 x12 x13 x14 (W (x15-1)) ((z04 ((z04 x16 x15 (gt x16 (W (x15-1))))) (W (x15-1)) (gt x16 x15)))))))) else(k10 x11 x12 x13 (W (x14+1)) x16)))))
def z2p (φ:Nat):Nat->Int->Int->(z1->z1->Option Int)->Int->(List z1)->Option (List z1)
 | 0,_,_,_,_,_=>none
 | n10+1,x5,x6,x7,x8,x9=>(if(decide ((x8:Int)<x6))=true then(z2r φ (z2p φ n10) φ x5 x6 x7 x8 x8 x9) else(some x9))
def z4p (φ:Nat) (x1 :(List z1)) (x2:Int) (x3:Int) (x4 :(z1->z1->Option Int)):Option (List z1):=(z2p φ φ x2 x3 x4 (W (x2+1)) x1)
def z3r (φ:Nat):Msp TV:=⟨57,7,[.val 0,.val 0,.cmp 7],fun l z=>z4p φ l z.1 z.2.1 z.2.2.1⟩
def z4l (φ:Nat):Nat->Int->Int->Int->Int->(List z1)->Option (List z1)
 | 0,_,_,_,_,_=>none
 | n11+1,x6,x7,x8,x9,x10=>(if(decide ((x9:Int)<x8))=true then(ck ((0:Int)<=(W (x7+x9))/\(W (x7+x9)) <(x10.length:Int)) (ck ((0:Int)<=(W (x6+x9))/\(W (x6+x9)) <(x10.length:Int)) (ck ((0:Int)<=(W (x6+x9))/\(W (x6+x9)) <(x10.length:Int)) (ck ((0:Int)<=(W (x7+x9))/\(W (x7+x9)) <(((z04 x10 (W (x6+x9)) (gt x10 (W (x7+x9))))).length:Int)) ((z4l φ n11) x6 x7 x8 (W (x9+1)) ((z04 ((z04 x10 (W (x6+x9)) (gt x10 (W (x7+x9))))) (W (x7+x9)) (gt x10 (W (x6+x9)))))))))) else(some x10))
def z40 (φ:Nat) (x1 :(List z1)) (x2:Int) (x3:Int) (x4:Int) (x5 :(z1->z1->Option Int)):Option (List z1):=(z4l φ φ x2 x3 x4 0 x1)
def z6e (φ:Nat):Msp TV:=⟨57,7,[.val 0,.val 0,.val 0,.cmp 7],fun l z=>z40 φ l z.1 z.2.1 z.2.2.1 z.2.2.2.1⟩
def z3m (φ:Nat):Nat->Int->(z1->z1->Option Int)->Int->Int->(List z1)->Option (List z1)
 | 0,_,_,_,_,_=>none
 | n11+1,x6,x7,x8,x9,x10=>(if((x8:Int) !=x9)=true then(if(decide ((x9:Int)<x8))=true then((z40 φ x10 (W (x6-x8)) x6 x9 x7).bind fun y12=>((z3m φ n11) x6 x7 (W (x8-x9)) x9 y12)) else((z40 φ x10 (W (x6-x8)) ((W ((W (x6+x9))-x8))) x8 x7).bind fun y13=>((z3m φ n11) x6 x7 x8 (W (x9-x8)) y13))) else((z40 φ x10 (W (x6-x8)) x6 x8 x7).bind fun y14=>(some y14)))
def ze2 (φ:Nat) (x1 :(List z1)) (x2:Int) (x3:Int) (x4:Int) (x5 :(z1->z1->Option Int)):Option (List z1):=(z3m φ φ x3 x5 (W (x3-x2)) (W (x4-x3)) x1)
def z7q (φ:Nat):Msp TV:=⟨57,7,[.val 0,.val 0,.val 0,.cmp 7],fun l z=>ze2 φ l z.1 z.2.1 z.2.2.1 z.2.2.2.1⟩
def z59 (φ:Nat):Nat->Int->Int->(List z1)->Option (List z1)
 | 0,_,_,_=>none
 | n16+1,x13,x14,x15=>(if(decide ((x14:Int) <(W (x13-1))))=true then(ck ((0:Int)<=(W (x14+1))/\(W (x14+1)) <(x15.length:Int)) (ck ((0:Int)<=x14/\x14 <(x15.length:Int)) (ck ((0:Int)<=x14/\x14 <(x15.length:Int)) (ck ((0:Int)<=(W (x14+1))/\(W (x14+1)) <(((z04 x15 x14 (gt x15 (W (x14+1))))).length:Int)) ((z59 φ n16) x13 (W (x14+1)) ((z04 ((z04 x15 x14 (gt x15 (W (x14+1))))) (W (x14+1)) (gt x15 x14)))))))) else(some x15))
def z2h (φ:Nat):Nat->Int->(z1->z1->Option Int)->Int->Int->(List z1)->Option (List z1)
 | 0,_,_,_,_,_=>none
 | n11+1,x6,x7,x8,x9,x10=>(if(decide ((x8:Int)<x9))=true then(if 0<=(1:Int) then(ck ((0:Int)<=(W ((((U ((W (x8+x9)))):Int).fdiv (2 ^ (min (1:Int).toNat 64)))))/\(W ((((U ((W (x8+x9)))):Int).fdiv (2 ^ (min (1:Int).toNat 64))))) <(x10.length:Int)) (ck ((0:Int)<=x6/\x6 <(x10.length:Int)) ((x7 (((gt x10 ((W ((((U ((W (x8+x9)))):Int).fdiv (2 ^ (min (1:Int).toNat 64))))))))) (gt x10 x6)).bind fun y12=>(if(decide ((y12:Int)<0))=true then((z2h φ n11) x6 x7 ((W ((W ((((U ((W (x8+x9)))):Int).fdiv (2 ^ (min (1:Int).toNat 64)))))+1))) x9 x10) else((z2h φ n11) x6 x7 x8 ((W ((((U ((W (x8+x9)))):Int).fdiv (2 ^ (min (1:Int).toNat 64)))))) x10))))) else none) else(z59 φ φ x8 x6 x10))
def z52 (φ:Nat):Nat->Int->Int->(List z1)->Option (List z1)
 | 0,_,_,_=>none
 | n27+1,x24,x25,x26=>(if(decide ((x24:Int)<x25))=true then(ck ((0:Int)<=(W (x25-1))/\(W (x25-1)) <(x26.length:Int)) (ck ((0:Int)<=x25/\x25 <(x26.length:Int)) (ck ((0:Int)<=x25/\x25 <(x26.length:Int)) (ck ((0:Int)<=(W (x25-1))/\(W (x25-1)) <(((z04 x26 x25 (gt x26 (W (x25-1))))).length:Int)) ((z52 φ n27) x24 (W (x25-1)) ((z04 ((z04 x26 x25 (gt x26 (W (x25-1))))) (W (x25-1)) (gt x26 x25)))))))) else(some x26))
def z2c (φ:Nat):Nat->Int->(z1->z1->Option Int)->Int->Int->(List z1)->Option (List z1)
 | 0,_,_,_,_,_=>none
 | n22+1,x17,x18,x19,x20,x21=>(if(decide ((x19:Int)<x20))=true then(if 0<=(1:Int) then(ck ((0:Int)<=x17/\x17 <(x21.length:Int)) (ck ((0:Int)<=(W ((((U ((W (x19+x20)))):Int).fdiv (2 ^ (min (1:Int).toNat 64)))))/\(W ((((U ((W (x19+x20)))):Int).fdiv (2 ^ (min (1:Int).toNat 64))))) <(x21.length:Int)) ((x18 (gt x21 x17) (((gt x21 ((W ((((U ((W (x19+x20)))):Int).fdiv (2 ^ (min (1:Int).toNat 64)))))))))).bind fun y23=>(if(!(decide ((y23:Int)<0)))=true then((z2c φ n22) x17 x18 ((W ((W ((((U ((W (x19+x20)))):Int).fdiv (2 ^ (min (1:Int).toNat 64)))))+1))) x20 x21) else((z2c φ n22) x17 x18 x19 ((W ((((U ((W (x19+x20)))):Int).fdiv (2 ^ (min (1:Int).toNat 64)))))) x21))))) else none) else(z52 φ φ x19 x17 x21))
def z58 (φ:Nat) (k0 :((List z1)->Int->Int->Int->(z1->z1->Option Int)->Option (List z1))) (x58:Int) (x59 :(z1->z1->Option Int)) (x60:Int) (x61:Int) (x62 :(List z1)):Option (List z1):=(if((decide ((x60:Int)<x61))&&(decide ((x61:Int)<x58)))=true then((k0 x62 x60 x61 x58 x59).bind fun y64=>(some y64)) else(some x62))
def z54 (φ:Nat) (k0 :((List z1)->Int->Int->Int->(z1->z1->Option Int)->Option (List z1))) (x50:Int) (x51:Int) (x52 :(z1->z1->Option Int)) (x53:Int) (x54:Int) (x55:Int) (x56 :(List z1)):Option (List z1):=(if((decide ((x50:Int)<x54))&&(decide ((x54:Int)<x53)))=true then((k0 x56 x50 x54 x53 x52).bind fun y65=>(z58 φ k0 x51 x52 x53 x55 y65)) else(z58 φ k0 x51 x52 x53 x55 x56))
def z2f (φ:Nat) (k0 :((List z1)->Int->Int->Int->(z1->z1->Option Int)->Option (List z1))):Nat->Int->Int->Int->(z1->z1->Option Int)->Int->Int->Int->Int->Int->(List z1)->Option (List z1)
 | 0,_,_,_,_,_,_,_,_,_,_=>none
 | n48+1,x38,x39,x40,x41,x42,x43,x44,x45,x46,x47=>(if(decide ((x44:Int)<x45))=true then(if 0<=(1:Int) then(ck ((0:Int)<=(W (x46 -(W ((((U ((W (x44+x45)))):Int).fdiv (2 ^ (min (1:Int).toNat 64)))))))/\(W (x46 -(W ((((U ((W (x44+x45)))):Int).fdiv (2 ^ (min (1:Int).toNat 64))))))) <(x47.length:Int)) (ck ((0:Int)<=(W ((((U ((W (x44+x45)))):Int).fdiv (2 ^ (min (1:Int).toNat 64)))))/\(W ((((U ((W (x44+x45)))):Int).fdiv (2 ^ (min (1:Int).toNat 64))))) <(x47.length:Int)) ((x41 (((gt x47 ((W (x46 -(W ((((U ((W (x44+x45)))):Int).fdiv (2 ^ (min (1:Int).toNat 64))))))))))) (((gt x47 ((W ((((U ((W (x44+x45)))):Int).fdiv (2 ^ (min (1:Int).toNat 64)))))))))).bind fun y49=>(if(!(decide ((y49:Int)<0)))=true then((z2f φ k0 n48) x38 x39 x40 x41 x42 x43 ((W ((W ((((U ((W (x44+x45)))):Int).fdiv (2 ^ (min (1:Int).toNat 64)))))+1))) x45 x46 x47) else((z2f φ k0 n48) x38 x39 x40 x41 x42 x43 x44 ((W ((((U ((W (x44+x45)))):Int).fdiv (2 ^ (min (1:Int).toNat 64)))))) x46 x47))))) else none) else(if((decide ((x44:Int)<x39))&&(decide ((x39:Int) <(W (x43-x44)))))=true then((ze2 φ x47 x44 x39 (W (x43-x44)) x41).bind fun y66=>(z54 φ k0 x38 x40 x41 x42 x44 (W (x43-x44)) y66)) else(z54 φ k0 x38 x40 x41 x42 x44 (W (x43-x44)) x47)))
def z5a (φ:Nat) (k0 :((List z1)->Int->Int->Int->(z1->z1->Option Int)->Option (List z1))) (x28:Int) (x29:Int) (x30:Int) (x31 :(z1->z1->Option Int)) (x32:Int) (x33:Int) (x34:Int) (x35:Int) (x36 :(List z1)):Option (List z1):=(z2f φ k0 φ x28 x29 x30 x31 x32 x33 x34 x35 (W (x33-1)) x36)
def zw (φ:Nat):Nat->(List z1)->Int->Int->Int->(z1->z1->Option Int)->Option (List z1)
 | 0,_,_,_,_,_=>none
 | d+1,x1,x2,x3,x4,x5=>(if(((W (x3-x2)):Int)==1)=true then(z2h φ φ x2 x5 x3 x4 x1) else(if(((W (x4-x3)):Int)==1)=true then(z2c φ φ x3 x5 x2 x3 x1) else(if 0<=(1:Int) then(if(decide (((W ((((U ((W (x2+x4)))):Int).fdiv (2 ^ (min (1:Int).toNat 64))))):Int)<x3))=true then(z5a φ (zw φ d) x2 x3 x4 x5 ((W ((((U ((W (x2+x4)))):Int).fdiv (2 ^ (min (1:Int).toNat 64)))))) ((W ((W ((((U ((W (x2+x4)))):Int).fdiv (2 ^ (min (1:Int).toNat 64)))))+x3))) ((W ((W ((W ((((U ((W (x2+x4)))):Int).fdiv (2 ^ (min (1:Int).toNat 64)))))+x3))-x4))) ((W ((((U ((W (x2+x4)))):Int).fdiv (2 ^ (min (1:Int).toNat 64)))))) x1) else(z5a φ (zw φ d) x2 x3 x4 x5 ((W ((((U ((W (x2+x4)))):Int).fdiv (2 ^ (min (1:Int).toNat 64)))))) ((W ((W ((((U ((W (x2+x4)))):Int).fdiv (2 ^ (min (1:Int).toNat 64)))))+x3))) x2 x3 x1)) else none)))
def z3l (φ d:Nat):Msp TV:=⟨57,7,[.val 0,.val 0,.val 0,.cmp 7],fun l z=>zw φ d l z.1 z.2.1 z.2.2.1 z.2.2.2.1⟩
def z6q (φ:Nat) (k17 :(Int->(z1->z1->Option Int)->Int->(List z1)->Option (List z1))):Nat->Int->(z1->z1->Option Int)->Int->Int->Int->(List z1)->Option (List z1)
 | 0,_,_,_,_,_,_=>none
 | n24+1,x18,x19,x20,x21,x22,x23=>(if(decide ((x22:Int)<=x18))=true then((zw φ φ x23 x21 (W (x21+x20)) x22 x19).bind fun y25=>((z6q φ k17 n24) x18 x19 x20 x22 ((W (x22 +(W (2*x20))))) y25)) else(if(decide (((W (x21+x20)):Int)<x18))=true then((zw φ φ x23 x21 (W (x21+x20)) x18 x19).bind fun y26=>(k17 x18 x19 (W (x20*2)) y26)) else(k17 x18 x19 (W (x20*2)) x23)))
def z6m (φ:Nat):Nat->Int->(z1->z1->Option Int)->Int->(List z1)->Option (List z1)
 | 0,_,_,_,_=>none
 | n17+1,x13,x14,x15,x16=>(if(decide ((x15:Int)<x13))=true then(z6q φ (z6m φ n17) φ x13 x14 x15 0 (W (2*x15)) x16) else(some x16))
def z6t (φ:Nat):Nat->Int->(z1->z1->Option Int)->Int->Int->Int->(List z1)->Option (List z1)
 | 0,_,_,_,_,_,_=>none
 | n10+1,x4,x5,x6,x7,x8,x9=>(if(decide ((x8:Int)<=x4))=true then((z4p φ x9 x7 x8 x5).bind fun y11=>((z6t φ n10) x4 x5 x6 x8 (W (x8+x6)) y11)) else((z4p φ x9 x7 x4 x5).bind fun y12=>(z6m φ φ x4 x5 x6 y12)))
def ze3 (φ:Nat) (x1 :(List z1)) (x2:Int) (x3 :(z1->z1->Option Int)):Option (List z1):=(z6t φ φ x2 x3 20 0 20 x1)
def z7o (φ:Nat):Msp TV:=⟨57,7,[.val 0,.cmp 7],fun l z=>ze3 φ l z.1 z.2.1⟩
def z5l (φ:Nat) (x1 :(List z1)) (x2 :(z1->z1->Option Int)):Option (List z1):=((ze3 φ x1 (x1.length:Int) x2).bind fun y3=>(some y3))
def z41 (φ:Nat):Msp TV:=⟨57,7,[.cmp 7],fun l z=>z5l φ l z.1⟩
def z1s (φ:Nat) (x1:Int) (x2:Int):Option (Int×Unit):=(if((x1:Int) !=x1)=true then(if((x2:Int) !=x2)=true then(some (0,())) else(some ((-1),()))) else(if((x2:Int) !=x2)=true then(some (1,())) else(if(decide ((x1:Int)<x2))=true then(some ((-1),())) else(if(decide ((x2:Int)<x1))=true then(some (1,())) else(some (0,()))))))
def z4c (φ:Nat):Fsp TV:=⟨[0,0],[.val 0],fun z=>z1s φ z.1 z.2.1⟩
def zcs (φ:Nat):Nat->Int->(List Int)->Int->Int->Option (Int×Unit)
 | 0,_,_,_,_=>none
 | n6+1,x2,x3,x4,x5=>(if(decide ((x5:Int)<x4))=true then(ck ((0:Int)<=x5/\x5 <(x3.length:Int)) (if(((gt x3 x5):Int) !=x2)=true then(some ((gt x3 x5),())) else((zcs φ n6) x2 x3 x4 (W (x5+1))))) else(some (x2,())))
def zlk (φ:Nat) (x1 :(List Int)):Option (Int×Unit):=(zcs φ φ 0 x1 (x1.length:Int) 0)
def ze5 (φ:Nat):Fsp TV:=⟨[8],[.val 0],fun z=>zlk φ z.1⟩
def z85 (φ:Nat) (x1:z1) (x2:z1):Option (Int×Unit):=((z1s φ x1.ref.railway x2.ref.railway).bind fun y3=>((z1s φ x1.ref.no x2.ref.no).bind fun y4=>((zlk φ ([y3.1,y4.1])).bind fun y5=>(some (y5.1,())))))
def zci (φ:Nat):Fsp TV:=⟨[7,7],[.val 0],fun z=>z85 φ z.1 z.2.1⟩
def zis (φ:Nat) (x1:z1) (x2:z1):Option (Int×Unit):=((z1s φ x1.item.to x2.item.to).bind fun y3=>((z85 φ x1 x2).bind fun y4=>((zlk φ ([y3.1,y4.1])).bind fun y5=>(some (y5.1,())))))
def z9u (φ:Nat):Fsp TV:=⟨[7,7],[.val 0],fun z=>zis φ z.1 z.2.1⟩
def zfq (φ:Nat) (x1:Part):Option (z7×Unit):=(some ((⟨x1.kind,x1.serial⟩:z7),()))
def zbr (φ:Nat):Fsp TV:=⟨[2],[.val 9],fun z=>zfq φ z.1⟩
def z2k (φ:Nat) (k14 :(Int->Int->(List (z7×(List (Int×Bool))))->(List z1)->Option ((List (z7×(List (Int×Bool))))×Unit))):Nat->Int->Int->(List Part)->Int->Int->(List (z7×(List (Int×Bool))))->z1->(List z1)->Option ((List (z7×(List (Int×Bool))))×Unit)
 | 0,_,_,_,_,_,_,_,_=>none
 | n23+1,x15,x16,x17,x18,x19,x20,x21,x22=>(if(decide ((x19:Int)<x18))=true then(ck ((0:Int)<=x19/\x19 <(x17.length:Int)) ((zfq φ (gt x17 x19)).bind fun y24=>(if(!(gt x17 x19).fitted)=true then(match cget kl_9 x20 y24.1 with | some x25=>(ck (kl_9 y24.1=kl_9 y24.1) ((z2k φ k14 n23) x15 x16 x17 x18 (W (x19+1)) (cset kl_9 x20 y24.1 (cdel kl_0 x25 x21.item.wagon)) x21 x22)) | none=>(ck ((cget kl_9 x20 y24.1).isNone=true) ((z2k φ k14 n23) x15 x16 x17 x18 (W (x19+1)) x20 x21 x22))) else(match cget kl_9 x20 y24.1 with | some x26=>(ck (kl_9 y24.1=kl_9 y24.1) (ck (kl_9 y24.1=kl_9 y24.1) ((z2k φ k14 n23) x15 x16 x17 x18 (W (x19+1)) (cset kl_9 x20 y24.1 (cset kl_0 x26 x21.item.wagon true)) x21 x22))) | none=>(ck ((cget kl_9 x20 y24.1).isNone=true) (ck (kl_9 y24.1=kl_9 y24.1) ((z2k φ k14 n23) x15 x16 x17 x18 (W (x19+1)) ((cset kl_9 ((cset kl_9 x20 y24.1 (default :(List (Int×Bool))))) y24.1 ((cset kl_0 ([] :(List (Int×Bool))) x21.item.wagon true)))) x21 x22))))))) else(k14 x15 (W (x16+1)) x20 x22))
def z9r (φ:Nat):Nat->Int->Int->(List (z7×(List (Int×Bool))))->(List z1)->Option ((List (z7×(List (Int×Bool))))×Unit)
 | 0,_,_,_,_=>none
 | n14+1,x10,x11,x12,x13=>(if(decide ((x11:Int)<x10))=true then(ck ((0:Int)<=x11/\x11 <(x13.length:Int)) (z2k φ (z9r φ n14) φ x10 x11 (((gt x13 x11).item).parts) (((((gt x13 x11).item).parts).length:Int)) 0 x12 (gt x13 x11) x13)) else(some (x12,())))
def z7u (φ:Nat):Nat->Int->(List z1)->Int->Int->(List z1)->Option ((List (z7×(List (Int×Bool))))×Unit)
 | 0,_,_,_,_,_=>none
 | n8+1,x3,x4,x5,x6,x7=>(if(decide ((x6:Int)<x5))=true then(ck ((0:Int)<=x6/\x6 <(x4.length:Int)) (if(((((gt x4 x6).item).kind:Int)==9)&&(decide ((((gt x4 x6).item).to:Int)<=x3)))=true then(ck (fits (x7.length +([(gt x4 x6)]).length) 192) ((z7u φ n8) x3 x4 x5 (W (x6+1)) (x7++[(gt x4 x6)]))) else((z7u φ n8) x3 x4 x5 (W (x6+1)) x7))) else((z5l φ x7 (fun a b=>(zis φ a b).bind fun r=>(some r.1))).bind fun y9=>(z9r φ φ (y9.length:Int) 0 (([] :(List (z7×(List (Int×Bool)))))) y9)))
def zal (φ:Nat) (x1 :(List z1)) (x2:Int):Option ((List (z7×(List (Int×Bool))))×Unit):=(z7u φ φ x2 x1 (x1.length:Int) 0 ([]:List z1))
def z6v (φ:Nat):Fsp TV:=⟨[10,0],[.val 12],fun z=>zal φ z.1 z.2.1⟩
def z0h (φ:Nat) (x1:z7):Option (Part×Unit):=(some ((⟨x1.kind,x1.serial,true⟩:Part),()))
def z4b (φ:Nat):Fsp TV:=⟨[9],[.val 2],fun z=>z0h φ z.1⟩
def z9o (φ:Nat):Nat->(List (Int×Bool))->Int->Int->(List z8c)->z7->(List Int)->Option ((List z8c)×Unit)
 | 0,_,_,_,_,_,_=>none
 | n12+1,x6,x7,x8,x9,x10,x11=>(if(decide ((x8:Int)<x7))=true then(ck ((0:Int)<=x8/\x8 <(x11.length:Int)) ((z0h φ x10).bind fun y13=>(ck (fits (x9.length +([(⟨y13.1,gt x11 x8,((x6.length:Int):Int)==1⟩:z8c)]).length) 40) ((z9o φ n12) x6 x7 (W (x8+1)) ((x9++[(⟨y13.1,gt x11 x8,((x6.length:Int):Int)==1⟩:z8c)])) x10 x11)))) else(some (x9,())))
def z1r (φ:Nat) (x1 :(List z1)) (x2:Int) (x3:Int) (x4:Int):Option ((List z8c)×Unit):=((zal φ x1 x4).bind fun y5=>(ck (soK kl_0 (((cget kl_9 y5.1 (⟨x2,x3⟩:z7)).getD (default :(List (Int×Bool)))))=true) (z9o φ φ (((cget kl_9 y5.1 (⟨x2,x3⟩:z7)).getD (default :(List (Int×Bool))))) ((((List.map (fun p:Int×Bool=>p.1) (((cget kl_9 y5.1 (⟨x2,x3⟩:z7)).getD (default :(List (Int×Bool))))))).length:Int)) 0 ([]:List z8c) (⟨x2,x3⟩:z7) ((List.map (fun p:Int×Bool=>p.1) (((cget kl_9 y5.1 (⟨x2,x3⟩:z7)).getD (default :(List (Int×Bool))))))))))
def zbw (φ:Nat):Fsp TV:=⟨[10,0,0,0],[.val 14],fun z=>z1r φ z.1 z.2.1 z.2.2.1 z.2.2.2.1⟩
def z2x (φ:Nat) (x1:Int) (x2:Bool):Option (z8c×Unit):=((z8r φ 7 true).bind fun y3=>(some ((⟨y3.1,x1,x2⟩:z8c),())))
def zgg (φ:Nat):Fsp TV:=⟨[0,1],[.val 13],fun z=>z2x φ z.1 z.2.1⟩
def z8b (φ:Nat):Nat->(List z8c)->(List z8c)->Int->Option (Bool×Unit)
 | 0,_,_,_=>none
 | n6+1,x3,x4,x5=>(if(decide ((x5:Int) <(x3.length:Int)))=true then(ck ((0:Int)<=x5/\x5 <(x3.length:Int)) (ck ((0:Int)<=x5/\x5 <(x4.length:Int)) (if(!((((((gt x3 x5).part).kind:Int)==((gt x4 x5).part).kind)&&(((((gt x3 x5).part).serial:Int)==((gt x4 x5).part).serial)&&((((gt x3 x5).part).fitted==((gt x4 x5).part).fitted)&&true)))&&((((gt x3 x5).wagon:Int)==(gt x4 x5).wagon)&&(((gt x3 x5).certain==(gt x4 x5).certain)&&true))))=true then(some (false,())) else((z8b φ n6) x3 x4 (W (x5+1)))))) else(some (true,())))
def z0l (φ:Nat) (x1 :(List z8c)) (x2 :(List z8c)):Option (Bool×Unit):=(if(((x1.length:Int):Int) !=(x2.length:Int))=true then(some (false,())) else(z8b φ φ x1 x2 0))
def z8z (φ:Nat):Fsp TV:=⟨[14,14],[.val 1],fun z=>z0l φ z.1 z.2.1⟩
def zfe (φ:Nat) (x1:Part) (x2:Part):Option (Int×Unit):=((z1s φ x1.kind x2.kind).bind fun y3=>((z1s φ x1.serial x2.serial).bind fun y4=>((zlk φ ([y3.1,y4.1])).bind fun y5=>(some (y5.1,())))))
def zbs (φ:Nat):Fsp TV:=⟨[2,2],[.val 0],fun z=>zfe φ z.1 z.2.1⟩
def z0j (φ:Nat) (k8 :(Int->(List Part)->(List (z7×(List (Int×Bool))))->Option ((List Part)×Unit))) (x9:Int) (x10 :(List Part)) (x11 :(List (z7×(List (Int×Bool))))):Option ((List Part)×Unit):=match x11 with | []=>((zum x10).bind fun y15=>(some (y15,()))) | e13::r14=>(if((((e13.2.length:Int):Int)==1)&&((cget kl_0 e13.2 x9).getD (default:Bool)))=true then((z0h φ e13.1).bind fun y16=>(ck (fits (x10.length +([y16.1]).length) 24) (k8 x9 (x10++[y16.1]) r14))) else(k8 x9 x10 r14))
def zu (φ:Nat):Nat->Int->(List Part)->(List (z7×(List (Int×Bool))))->Option ((List Part)×Unit)
 | 0,_,_,_=>none
 | n8+1,x5,x6,x7=>(z0j φ (zu φ n8) x5 x6 x7)
def z01 (φ:Nat) (x1 :(List z1)) (x2:Int) (x3:Int):Option ((List Part)×Unit):=((zal φ x1 x3).bind fun y4=>(zu φ φ x2 ([]:List Part) y4.1))
def zff (φ:Nat):Fsp TV:=⟨[10,0,0],[.val 5],fun z=>z01 φ z.1 z.2.1 z.2.2.1⟩
def zb3 (φ:Nat):Nat->(List Part)->(List Part)->Int->Option (Bool×Unit)
 | 0,_,_,_=>none
 | n6+1,x3,x4,x5=>(if(decide ((x5:Int) <(x3.length:Int)))=true then(ck ((0:Int)<=x5/\x5 <(x3.length:Int)) (ck ((0:Int)<=x5/\x5 <(x4.length:Int)) (if(!((((gt x3 x5).kind:Int)==(gt x4 x5).kind)&&((((gt x3 x5).serial:Int)==(gt x4 x5).serial)&&(((gt x3 x5).fitted==(gt x4 x5).fitted)&&true))))=true then(some (false,())) else((zb3 φ n6) x3 x4 (W (x5+1)))))) else(some (true,())))
def z21 (φ:Nat) (x1 :(List Part)) (x2 :(List Part)):Option (Bool×Unit):=(if(((x1.length:Int):Int) !=(x2.length:Int))=true then(some (false,())) else(zb3 φ φ x1 x2 0))
def zbc (φ:Nat):Fsp TV:=⟨[5,5],[.val 1],fun z=>z21 φ z.1 z.2.1⟩
def z05 (φ:Nat) (x1:Int) (x2:Int) (x3:Int):Option (z1×Unit):=(some ((⟨(⟨1,9⟩:Ref),(⟨0,0⟩:Ref),x1,(⟨10,(⟨0,0⟩:Ref),0,0,4,0,0,0,0,0,0,0,0,(⟨#[]⟩:ByteArray),[(⟨x2,x3,false⟩:Part)]⟩:Item)⟩:z1),()))
def zif (φ:Nat):Fsp TV:=⟨[0,0,0],[.val 7],fun z=>z05 φ z.1 z.2.1 z.2.2.1⟩
def z3n (φ:Nat) (k20 :(Int->(List (z7×(List (Int×Bool))))->(List z1)->Int->Int->(List Part)->Int->Int->(List (Int×Bool))->Option ((List Int)×Unit))) (k32 :(Int->(List (z7×(List (Int×Bool))))->(List z1)->Int->Int->(List Part)->Int->Int->(List (Int×Bool))->(List (Int×Bool))->Option ((List Int)×Unit))) (x33:Int) (x34 :(List (z7×(List (Int×Bool))))) (x35 :(List z1)) (x36:Int) (x37:Int) (x38 :(List Part)) (x39:Int) (x40:Int) (x41 :(List (Int×Bool))) (x42 :(List (Int×Bool))):Option ((List Int)×Unit):=match x42 with | []=>(k20 x33 x34 x35 x36 x37 x38 x39 (W (x40+1)) x41) | e44::r45=>(k32 x33 x34 x35 x36 x37 x38 x39 x40 (cset kl_0 x41 e44.1 e44.2) r45)
def z0d (φ:Nat) (k20 :(Int->(List (z7×(List (Int×Bool))))->(List z1)->Int->Int->(List Part)->Int->Int->(List (Int×Bool))->Option ((List Int)×Unit))):Nat->Int->(List (z7×(List (Int×Bool))))->(List z1)->Int->Int->(List Part)->Int->Int->(List (Int×Bool))->(List (Int×Bool))->Option ((List Int)×Unit)
 | 0,_,_,_,_,_,_,_,_,_,_=>none
 | n32+1,x22,x23,x24,x25,x26,x27,x28,x29,x30,x31=>(z3n φ k20 (z0d φ k20 n32) x22 x23 x24 x25 x26 x27 x28 x29 x30 x31)
def zaz (φ:Nat) (k10 :(Int->(List (z7×(List (Int×Bool))))->(List z1)->Int->Int->(List (Int×Bool))->Option ((List Int)×Unit))):Nat->Int->(List (z7×(List (Int×Bool))))->(List z1)->Int->Int->(List Part)->Int->Int->(List (Int×Bool))->Option ((List Int)×Unit)
 | 0,_,_,_,_,_,_,_,_,_=>none
 | n20+1,x11,x12,x13,x14,x15,x16,x17,x18,x19=>(if(decide ((x18:Int)<x17))=true then(ck ((0:Int)<=x18/\x18 <(x16.length:Int)) ((zfq φ (gt x16 x18)).bind fun y21=>(z0d φ (zaz φ k10 n20) φ x11 x12 x13 x14 x15 x16 x17 x18 x19 (((cget kl_9 x12 y21.1).getD (default :(List (Int×Bool)))))))) else(k10 x11 x12 x13 x14 (W (x15+1)) x19))
def z7x (φ:Nat):Nat->Int->(List (z7×(List (Int×Bool))))->(List z1)->Int->Int->(List (Int×Bool))->Option ((List Int)×Unit)
 | 0,_,_,_,_,_,_=>none
 | n10+1,x4,x5,x6,x7,x8,x9=>(if(decide ((x8:Int)<x7))=true then(ck ((0:Int)<=x8/\x8 <(x6.length:Int)) (if(((((gt x6 x8).item).kind:Int) !=10)||(decide ((x4:Int) <(gt x6 x8).time)))=true then((z7x φ n10) x4 x5 x6 x7 (W (x8+1)) x9) else(zaz φ (z7x φ n10) φ x4 x5 x6 x7 x8 (((gt x6 x8).item).parts) (((((gt x6 x8).item).parts).length:Int)) 0 x9))) else(ck (soK kl_0 x9=true) (some ((List.map (fun p:Int×Bool=>p.1) x9),()))))
def zq (φ:Nat) (x1 :(List z1)) (x2:Int):Option ((List Int)×Unit):=((zal φ x1 x2).bind fun y3=>(z7x φ φ x2 y3.1 x1 (x1.length:Int) 0 ([] :(List (Int×Bool)))))
def zdr (φ:Nat):Fsp TV:=⟨[10,0],[.val 8],fun z=>zq φ z.1 z.2.1⟩
def zbf (φ:Nat):Nat->(List Int)->(List Int)->Int->Option (Bool×Unit)
 | 0,_,_,_=>none
 | n6+1,x3,x4,x5=>(if(decide ((x5:Int) <(x3.length:Int)))=true then(ck ((0:Int)<=x5/\x5 <(x3.length:Int)) (ck ((0:Int)<=x5/\x5 <(x4.length:Int)) (if(((gt x3 x5):Int) !=(gt x4 x5))=true then(some (false,())) else((zbf φ n6) x3 x4 (W (x5+1)))))) else(some (true,())))
def z2u (φ:Nat) (x1 :(List Int)) (x2 :(List Int)):Option (Bool×Unit):=(if(((x1.length:Int):Int) !=(x2.length:Int))=true then(some (false,())) else(zbf φ φ x1 x2 0))
def zdb (φ:Nat):Fsp TV:=⟨[8,8],[.val 1],fun z=>z2u φ z.1 z.2.1⟩
def zic (φ:Nat):Nat->Int->(List z8j)->(List Edge)->(List z1k)->(List zoa)->(List Swap)->(List Wash)->(List zll)->(List zde)->(List z1z)->(List z8j)->(List Edge)->(List z1k)->(List zoa)->(List Swap)->(List Wash)->(List zll)->(List zde)->(List z1z)->Option (Pool×Unit)
 | 0,_,_,_,_,_,_,_,_,_,_,_,_,_,_,_,_,_,_,_=>none
 | n20+1,x1,x2,x3,x4,x5,x6,x7,x8,x9,x10,x11,x12,x13,x14,x15,x16,x17,x18,x19=>(if(decide ((x1:Int)<6))=true then(ck (fits (x14.length +([(⟨0,2,0,0,0⟩:zoa)]).length) 40) ((zic φ n20) (W (x1+1)) x2 x3 x4 x5 x6 x7 x8 x9 x10 x11 x12 x13 (x14++[(⟨0,2,0,0,0⟩:zoa)]) x15 x16 x17 x18 x19)) else(some ((⟨(⟨x11,x12⟩:z8x),(⟨x13,x14,x15,x16⟩:zdv),x17,x18,[(⟨4,(⟨fun _=>(default:Span),([]:List Int)⟩:z6j)⟩:z1z),(⟨16,(⟨fun _=>(default:Span),([]:List Int)⟩:z6j)⟩:z1z)]⟩:Pool),())))
def z00 (φ:Nat):Option (Pool×Unit):=(zic φ φ 0 ([]:List z8j) ([]:List Edge) ([]:List z1k) ([]:List zoa) ([]:List Swap) ([]:List Wash) ([]:List zll) ([]:List zde) ([]:List z1z) ([(⟨2,0,-1⟩:z8j),(⟨2,0,-1⟩:z8j),(⟨5,0,-1⟩:z8j)]) ([]:List Edge) ([(⟨0,0,0,0,0,0,1,0⟩:z1k)]) ([]:List zoa) ([]:List Swap) ([]:List Wash) ([]:List zll) ([]:List zde) ([]:List z1z))
def zm2 (φ:Nat):Fsp TV:=⟨[],[.val 39],fun z=>z00 φ⟩
def zev (φ:Nat) (x1:z8j):Option (Bool×Unit):=(if((((decide ((x1.kind:Int)<1))||(decide ((5:Int)<x1.kind)))||(decide ((x1.railway:Int)<0)))||(decide ((16:Int)<=x1.railway)))=true then(some (false,())) else(if((x1.kind:Int) !=3)=true then(some (((x1.other:Int)==(-1)),())) else(some ((((decide ((0:Int)<=x1.other))&&(decide ((x1.other:Int)<16)))&&((x1.other:Int) !=x1.railway)),()))))
def zgf (φ:Nat):Fsp TV:=⟨[15],[.val 1],fun z=>zev φ z.1⟩
def z2n (φ:Nat):Nat->Int->(List Edge)->Int->Int->Option (Int×Unit)
 | 0,_,_,_,_=>none
 | n13+1,x9,x10,x11,x12=>(if(decide ((x12:Int)<x11))=true then(ck ((0:Int)<=x12/\x12 <(x10.length:Int)) (if(((((((decide (((min2 ((min2 (min2 ((gt x10 x12).a) ((gt x10 x12).b)) ((gt x10 x12).railway))) ((gt x10 x12).km)):Int)<0))||(decide ((x9:Int)<=(max2 ((gt x10 x12).a) ((gt x10 x12).b)))))||(((gt x10 x12).a:Int)==(gt x10 x12).b))||(decide ((16:Int)<=(gt x10 x12).railway)))||(decide (((gt x10 x12).minutes:Int)<1)))||(decide ((100000:Int) <(gt x10 x12).minutes)))||(decide ((10000:Int) <(gt x10 x12).km)))=true then(some (1,())) else((z2n φ n13) x9 x10 x11 (W (x12+1))))) else(some (0,())))
def z5k (φ:Nat):Nat->Int->(List z8j)->Int->Int->z8x->Option (Int×Unit)
 | 0,_,_,_,_,_=>none
 | n7+1,x2,x3,x4,x5,x6=>(if(decide ((x5:Int)<x4))=true then(ck ((0:Int)<=x5/\x5 <(x3.length:Int)) ((zev φ (gt x3 x5)).bind fun y8=>(if(!y8.1)=true then(some (1,())) else((z5k φ n7) x2 x3 x4 (W (x5+1)) x6)))) else(z2n φ φ x2 x6.edges (x6.edges.length:Int) 0))
def zeh (φ:Nat) (x1:z8x):Option (Int×Unit):=(if((decide ((512:Int) <(x1.places.length:Int)))||(decide ((2048:Int) <(x1.edges.length:Int))))=true then(some (2,())) else(z5k φ φ (x1.places.length:Int) x1.places (x1.places.length:Int) 0 x1))
def zg1 (φ:Nat):Fsp TV:=⟨[19],[.val 0],fun z=>zeh φ z.1⟩
def zn (φ:Nat) (x1:Int) (x2:Int) (x3:Int):Option (Bool×Unit):=(some (((decide ((x2:Int)<=x1))&&(decide ((x1:Int)<=x3))),()))
def zad (φ:Nat):Fsp TV:=⟨[0,0,0],[.val 1],fun z=>zn φ z.1 z.2.1 z.2.2.1⟩
def z3h (φ:Nat) (k7 :((List z1k)->Int->Int->zdv->Int->Option (Int×Unit))):Nat->(List z1k)->Int->Int->Int->Int->zdv->Int->z1k->(List Int)->Option (Int×Unit)
 | 0,_,_,_,_,_,_,_,_,_=>none
 | n17+1,x8,x9,x10,x11,x12,x13,x14,x15,x16=>(if(decide ((x12:Int)<x11))=true then(ck ((0:Int)<=x12/\x12 <(x16.length:Int)) ((zn φ (gt x16 x12) 0 1000000).bind fun y18=>(if(!y18.1)=true then((z3h φ k7 n17) x8 x9 x10 x11 (W (x12+1)) x13 1 x15 x16) else((z3h φ k7 n17) x8 x9 x10 x11 (W (x12+1)) x13 x14 x15 x16)))) else((zn φ x15.gauge 0 7).bind fun y19=>((zc (default,()) (y19.1=true) (zn φ x15.life 1 1073741824)).bind fun y20=>((zc (default,()) ((y19.1&&y20.1)=true) (zn φ x15.floor 0 100)).bind fun y21=>(if(!((y19.1&&y20.1)&&y21.1))=true then(k7 x8 x9 (W (x10+1)) x13 1) else(k7 x8 x9 (W (x10+1)) x13 x14))))))
def zp (φ:Nat):Nat->(List Wash)->Int->Int->Int->(Nat->Bool)->Option (Int×Unit)
 | 0,_,_,_,_,_=>none
 | n49+1,x44,x45,x46,x47,x48=>(if(decide ((x46:Int)<x45))=true then(ck ((0:Int)<=x46/\x46 <(x44.length:Int)) ((zn φ ((gt x44 x46).from_) 0 63).bind fun y50=>((zc (default,()) (y50.1=true) (zn φ ((gt x44 x46).to) 0 63)).bind fun y51=>((zc (default,()) (((y50.1&&y51.1)&&(((gt x44 x46).from_:Int) !=(gt x44 x46).to))=true) (zn φ ((gt x44 x46).minutes) 0 100000)).bind fun y52=>(if(!(((y50.1&&y51.1)&&(((gt x44 x46).from_:Int) !=(gt x44 x46).to))&&y52.1))=true then(if(((y50.1&&y51.1)&&(((gt x44 x46).from_:Int) !=(gt x44 x46).to))&&y52.1)=true then(ck ((0:Int)<=(gt x44 x46).from_/\(gt x44 x46).from_ <(64:Int)) (ck ((0:Int)<=(gt x44 x46).to/\(gt x44 x46).to <(64:Int)) (if(!(!(x48 (((((gt x44 x46).from_:Int).toNat*64) +((gt x44 x46).to:Int).toNat)))))=true then(ck ((0:Int)<=(gt x44 x46).from_/\(gt x44 x46).from_ <(64:Int)) (ck ((0:Int)<=(gt x44 x46).to/\(gt x44 x46).to <(64:Int)) ((zp φ n49) x44 x45 (W (x46+1)) 1 ((upd x48 (((((gt x44 x46).from_:Int).toNat*64) +((gt x44 x46).to:Int).toNat)) true))))) else(ck ((0:Int)<=(gt x44 x46).from_/\(gt x44 x46).from_ <(64:Int)) (ck ((0:Int)<=(gt x44 x46).to/\(gt x44 x46).to <(64:Int)) ((zp φ n49) x44 x45 (W (x46+1)) 1 ((upd x48 (((((gt x44 x46).from_:Int).toNat*64) +((gt x44 x46).to:Int).toNat)) true)))))))) else((zp φ n49) x44 x45 (W (x46+1)) 1 x48)) else(if(((y50.1&&y51.1)&&(((gt x44 x46).from_:Int) !=(gt x44 x46).to))&&y52.1)=true then(ck ((0:Int)<=(gt x44 x46).from_/\(gt x44 x46).from_ <(64:Int)) (ck ((0:Int)<=(gt x44 x46).to/\(gt x44 x46).to <(64:Int)) (if(!(!(x48 (((((gt x44 x46).from_:Int).toNat*64) +((gt x44 x46).to:Int).toNat)))))=true then(ck ((0:Int)<=(gt x44 x46).from_/\(gt x44 x46).from_ <(64:Int)) (ck ((0:Int)<=(gt x44 x46).to/\(gt x44 x46).to <(64:Int)) ((zp φ n49) x44 x45 (W (x46+1)) 1 ((upd x48 (((((gt x44 x46).from_:Int).toNat*64) +((gt x44 x46).to:Int).toNat)) true))))) else(ck ((0:Int)<=(gt x44 x46).from_/\(gt x44 x46).from_ <(64:Int)) (ck ((0:Int)<=(gt x44 x46).to/\(gt x44 x46).to <(64:Int)) ((zp φ n49) x44 x45 (W (x46+1)) x47 ((upd x48 (((((gt x44 x46).from_:Int).toNat*64) +((gt x44 x46).to:Int).toNat)) true)))))))) else((zp φ n49) x44 x45 (W (x46+1)) x47 x48))))))) else(some (x47,())))
def z0u (φ:Nat):Nat->(List Swap)->Int->Int->zdv->Int->Option (Int×Unit)
 | 0,_,_,_,_,_=>none
 | n40+1,x35,x36,x37,x38,x39=>(if(decide ((x37:Int)<x36))=true then(ck ((0:Int)<=x37/\x37 <(x35.length:Int)) ((zn φ ((gt x35 x37).wanted) 0 (W ((x38.types.length:Int)-1))).bind fun y41=>((zc (default,()) (y41.1=true) (zn φ ((gt x35 x37).given) 0 (W ((x38.types.length:Int)-1)))).bind fun y42=>((zc (default,()) (((y41.1&&y42.1)&&(((gt x35 x37).wanted:Int) !=(gt x35 x37).given))=true) (zn φ ((gt x35 x37).cost) 0 1000000000)).bind fun y43=>(if(!(((y41.1&&y42.1)&&(((gt x35 x37).wanted:Int) !=(gt x35 x37).given))&&y43.1))=true then((z0u φ n40) x35 x36 (W (x37+1)) x38 1) else((z0u φ n40) x35 x36 (W (x37+1)) x38 x39)))))) else(zp φ φ x38.washes (x38.washes.length:Int) 0 x39 (fun _=>(default:Bool))))
def z0a (φ:Nat):Nat->(List zoa)->Int->Int->zdv->Int->Option (Int×Unit)
 | 0,_,_,_,_,_=>none
 | n27+1,x22,x23,x24,x25,x26=>(if(decide ((x24:Int)<x23))=true then(ck ((0:Int)<=x24/\x24 <(x22.length:Int)) ((zn φ ((gt x22 x24).type_) 0 (W ((x25.types.length:Int)-1))).bind fun y28=>((zc (default,()) (y28.1=true) (zn φ ((gt x22 x24).owner) 0 63)).bind fun y29=>((zc (default,()) ((y28.1&&y29.1)=true) (zn φ ((gt x22 x24).home) 0 511)).bind fun y30=>(if(!((y28.1&&y29.1)&&y30.1))=true then((zn φ ((gt x22 x24).built) 0 1073741824).bind fun y31=>((zc (default,()) (y31.1=true) (zn φ ((gt x22 x24).worth) 0 1099511627776)).bind fun y32=>(if(!(y31.1&&y32.1))=true then((z0a φ n27) x22 x23 (W (x24+1)) x25 1) else((z0a φ n27) x22 x23 (W (x24+1)) x25 1)))) else((zn φ ((gt x22 x24).built) 0 1073741824).bind fun y33=>((zc (default,()) (y33.1=true) (zn φ ((gt x22 x24).worth) 0 1099511627776)).bind fun y34=>(if(!(y33.1&&y34.1))=true then((z0a φ n27) x22 x23 (W (x24+1)) x25 1) else((z0a φ n27) x22 x23 (W (x24+1)) x25 x26))))))))) else(z0u φ φ x25.swaps (x25.swaps.length:Int) 0 x25 x26))
def z6c (φ:Nat):Nat->(List z1k)->Int->Int->zdv->Int->Option (Int×Unit)
 | 0,_,_,_,_,_=>none
 | n7+1,x2,x3,x4,x5,x6=>(if(decide ((x4:Int)<x3))=true then(ck ((0:Int)<=x4/\x4 <(x2.length:Int)) (z3h φ (z6c φ n7) φ x2 x3 x4 (([(gt x2 x4).load,(gt x2 x4).tare,(gt x2 x4).length,(gt x2 x4).brake]).length:Int) 0 x5 x6 (gt x2 x4) ([(gt x2 x4).load,(gt x2 x4).tare,(gt x2 x4).length,(gt x2 x4).brake]))) else(z0a φ φ x5.wagons (x5.wagons.length:Int) 0 x5 x6))
def zjy (φ:Nat) (x1:zdv):Option (Int×Unit):=(if((((decide ((32:Int) <(x1.types.length:Int)))||(decide ((4096:Int) <(x1.wagons.length:Int))))||(decide ((1024:Int) <(x1.swaps.length:Int))))||(decide ((4096:Int) <(x1.washes.length:Int))))=true then(some (2,())) else(z6c φ φ x1.types (x1.types.length:Int) 0 x1 0))
def zkn (φ:Nat):Fsp TV:=⟨[29],[.val 0],fun z=>zjy φ z.1⟩
def z3i (φ:Nat):Nat->Int->(List Int)->Int->Int->Option (Int×Unit)
 | 0,_,_,_,_=>none
 | n10+1,x6,x7,x8,x9=>(if(decide ((x9:Int)<x8))=true then(ck ((0:Int)<=x9/\x9 <(x7.length:Int)) (if((decide (((gt x7 x9):Int)<=x6))||(decide ((745654:Int) <(gt x7 x9))))=true then(some (1,())) else((z3i φ n10) (gt x7 x9) x7 x8 (W (x9+1))))) else(some (0,())))
def z4h (φ:Nat):Nat->(Nat->Span)->Int->z6j->Option (Int×Unit)
 | 0,_,_,_=>none
 | n5+1,x2,x3,x4=>(if(decide ((x3:Int)<7))=true then(ck ((0:Int)<=x3/\x3 <(7:Int)) (if(((decide (((x2 (x3:Int).toNat).from_:Int)<0))||(decide (((x2 (x3:Int).toNat).to:Int) <(x2 (x3:Int).toNat).from_)))||(decide ((1440:Int) <(x2 (x3:Int).toNat).to)))=true then(some (1,())) else((z4h φ n5) x2 (W (x3+1)) x4))) else(z3i φ φ (-1) x4.holidays (x4.holidays.length:Int) 0))
def zcf (φ:Nat) (x1:z6j):Option (Int×Unit):=(z4h φ φ x1.open_ 0 x1)
def zds (φ:Nat):Fsp TV:=⟨[36],[.val 0],fun z=>zcf φ z.1⟩
def zbz (φ:Nat) (x1:Int) (x2:Int):Option (Int×Int×Unit):=(if 0<=(32:Int) then(if 0<=(32:Int) then(if 0<=(32:Int) then(if 0<=(32:Int) then(if 0<=(32:Int) then(some ((U ((U ((U (((x1:Int).fdiv (2 ^ (min (32:Int).toNat 64))) *((x2:Int).fdiv (2 ^ (min (32:Int).toNat 64))))) +(((U ((U (((x1:Int).fdiv (2 ^ (min (32:Int).toNat 64))) *(U ((BitVec.ofInt 64 x2&&& BitVec.ofInt 64 4294967295).toNat)))) +(((U ((U ((BitVec.ofInt 64 x1&&& BitVec.ofInt 64 4294967295).toNat)) *(U ((BitVec.ofInt 64 x2&&& BitVec.ofInt 64 4294967295).toNat)))):Int).fdiv (2 ^ (min (32:Int).toNat 64))))):Int).fdiv (2 ^ (min (32:Int).toNat 64))))) +(((U ((U ((BitVec.ofInt 64 (U ((U (((x1:Int).fdiv (2 ^ (min (32:Int).toNat 64))) *(U ((BitVec.ofInt 64 x2&&& BitVec.ofInt 64 4294967295).toNat)))) +(((U ((U ((BitVec.ofInt 64 x1&&& BitVec.ofInt 64 4294967295).toNat)) *(U ((BitVec.ofInt 64 x2&&& BitVec.ofInt 64 4294967295).toNat)))):Int).fdiv (2 ^ (min (32:Int).toNat 64)))))&&& BitVec.ofInt 64 4294967295).toNat)) +(U ((U ((BitVec.ofInt 64 x1&&& BitVec.ofInt 64 4294967295).toNat)) *((x2:Int).fdiv (2 ^ (min (32:Int).toNat 64))))))):Int).fdiv (2 ^ (min (32:Int).toNat 64))))),(U (x1*x2)),())) else none) else none) else none) else none) else none)
def zmk (φ:Nat):Fsp TV:=⟨[20,20],[.val 20,.val 20],fun z=>zbz φ z.1 z.2.1⟩
def z20 (φ:Nat) (x8:Int) (x9:Int):Option (Int×Unit):=(ck ((0:Int)<=(IntKind.wrap .u8 (x8))/\(IntKind.wrap .u8 (x8)) <(zt.size:Int)) (some ((W (64 -(W (x9 +(W ((z81 zt (IntKind.wrap .u8 (x8))))))))),())))
def z2i (φ:Nat) (x5:Int) (x6:Int):Option (Int×Unit):=(if(decide ((256:Int)<=x5))=true then(if 0<=(8:Int) then(z20 φ (((x5:Int).fdiv (2 ^ (min (8:Int).toNat 64)))) (W (x6+8))) else none) else(z20 φ x5 x6))
def z2j (φ:Nat) (x2:Int) (x3:Int):Option (Int×Unit):=(if(decide ((65536:Int)<=x2))=true then(if 0<=(16:Int) then(z2i φ (((x2:Int).fdiv (2 ^ (min (16:Int).toNat 64)))) (W (x3+16))) else none) else(z2i φ x2 x3))
def z4j (φ:Nat) (x1:Int):Option (Int×Unit):=(if(decide ((4294967296:Int)<=x1))=true then(if 0<=(32:Int) then(z2j φ (((x1:Int).fdiv (2 ^ (min (32:Int).toNat 64)))) 32) else none) else(z2j φ x1 0))
def z88 (φ:Nat):Fsp TV:=⟨[20],[.val 0],fun z=>z4j φ z.1⟩
def z98 (φ:Nat) (x14:Int) (x15:Int) (x16:Int) (x17:Int) (x18:Int) (x19:Int):Option (Int×Int×Unit):=(ck (0<=x15) (some ((U ((U (x17*4294967296))+x19)),(((U ((U ((U (x18*4294967296))+x16)) -(U (x19*x14)))):Int).fdiv (2 ^ (min (x15:Int).toNat 64))),())))
def z97 (φ:Nat):Nat->Int->Int->Int->Int->Int->Int->Int->Int->Int->Option (Int×Int×Unit)
 | 0,_,_,_,_,_,_,_,_,_=>none
 | n30+1,x21,x22,x23,x24,x25,x26,x27,x28,x29=>(if((decide ((4294967296:Int)<=x29))||(decide (((U ((U (4294967296*x27))+x25)):Int) <(U (x29*x24)))))=true then(if(decide ((4294967296:Int)<=(U (x27+x23))))=true then(z98 φ x21 x22 x25 x26 x28 (U (x29-1))) else((z97 φ n30) x21 x22 x23 x24 x25 x26 (U (x27+x23)) x28 (U (x29-1)))) else(z98 φ x21 x22 x25 x26 x28 x29))
def z94 (φ:Nat) (x5:Int) (x6:Int) (x7:Int) (x8:Int) (x9:Int) (x10:Int) (x11:Int) (x12:Int):Option (Int×Int×Unit):=(ck (x7≠0) (z97 φ φ x5 x6 x7 x8 x11 x12 ((U ((U ((U ((U (x9*4294967296))+x10)) -(U (x12*x5)))) -(U ((U (((U ((U ((U (x9*4294967296))+x10)) -(U (x12*x5)))):Int).tdiv x7))*x7))))) ((U ((U ((U (x9*4294967296))+x10)) -(U (x12*x5))))) ((U (((U ((U ((U (x9*4294967296))+x10)) -(U (x12*x5)))):Int).tdiv x7)))))
def z9a (φ:Nat):Nat->Int->Int->Int->Int->Int->Int->Int->Int->Int->Option (Int×Int×Unit)
 | 0,_,_,_,_,_,_,_,_,_=>none
 | n40+1,x31,x32,x33,x34,x35,x36,x37,x38,x39=>(if((decide ((4294967296:Int)<=x38))||(decide (((U ((U (4294967296*x39))+x36)):Int) <(U (x38*x34)))))=true then(if(decide ((4294967296:Int)<=(U (x39+x33))))=true then(z94 φ x31 x32 x33 x34 x35 x36 x37 (U (x38-1))) else((z9a φ n40) x31 x32 x33 x34 x35 x36 x37 (U (x38-1)) (U (x39+x33)))) else(z94 φ x31 x32 x33 x34 x35 x36 x37 x38))
def za1 (φ:Nat) (x1:Int) (x2:Int) (x3:Int):Option (Int×Int×Unit):=(if((x3:Int)==0)=true then none else(if(decide ((x3:Int)<=x1))=true then none else(if((x1:Int)==0)=true then(ck (x3≠0) (ck (x3≠0) (some ((U ((x2:Int).tdiv x3)),((x2:Int).tmod x3),())))) else((z4j φ x3).bind fun y4=>(ck (0<=(U (y4.1))) (if 0<=(32:Int) then(ck (0<=(U (y4.1))) (ck (0<=(U (64 -(U (y4.1))))) (ck (0<=(U (y4.1))) (if 0<=(32:Int) then(ck ((((U (x3*2 ^ (min ((U (y4.1)):Int).toNat 64))):Int).fdiv (2 ^ (min (32:Int).toNat 64)))≠0) (z9a φ φ ((U (x3*2 ^ (min ((U (y4.1)):Int).toNat 64)))) (U (y4.1)) ((((U (x3*2 ^ (min ((U (y4.1)):Int).toNat 64))):Int).fdiv (2 ^ (min (32:Int).toNat 64)))) ((U ((BitVec.ofInt 64 (U (x3*2 ^ (min ((U (y4.1)):Int).toNat 64)))&&& BitVec.ofInt 64 4294967295).toNat))) ((U ((BitVec.ofInt 64 (U (x1*2 ^ (min ((U (y4.1)):Int).toNat 64)))||| BitVec.ofInt 64 ((x2:Int).fdiv (2 ^ (min ((U (64 -(U (y4.1)))):Int).toNat 64)))).toNat))) ((((U (x2*2 ^ (min ((U (y4.1)):Int).toNat 64))):Int).fdiv (2 ^ (min (32:Int).toNat 64)))) ((U ((BitVec.ofInt 64 (U (x2*2 ^ (min ((U (y4.1)):Int).toNat 64)))&&& BitVec.ofInt 64 4294967295).toNat))) ((U (((U ((BitVec.ofInt 64 (U (x1*2 ^ (min ((U (y4.1)):Int).toNat 64)))||| BitVec.ofInt 64 ((x2:Int).fdiv (2 ^ (min ((U (64 -(U (y4.1)))):Int).toNat 64)))).toNat)):Int).tdiv (((U (x3*2 ^ (min ((U (y4.1)):Int).toNat 64))):Int).fdiv (2 ^ (min (32:Int).toNat 64)))))) ((U ((U ((BitVec.ofInt 64 (U (x1*2 ^ (min ((U (y4.1)):Int).toNat 64)))||| BitVec.ofInt 64 ((x2:Int).fdiv (2 ^ (min ((U (64 -(U (y4.1)))):Int).toNat 64)))).toNat)) -(U ((U (((U ((BitVec.ofInt 64 (U (x1*2 ^ (min ((U (y4.1)):Int).toNat 64)))||| BitVec.ofInt 64 ((x2:Int).fdiv (2 ^ (min ((U (64 -(U (y4.1)))):Int).toNat 64)))).toNat)):Int).tdiv (((U (x3*2 ^ (min ((U (y4.1)):Int).toNat 64))):Int).fdiv (2 ^ (min (32:Int).toNat 64))))) *(((U (x3*2 ^ (min ((U (y4.1)):Int).toNat 64))):Int).fdiv (2 ^ (min (32:Int).toNat 64)))))))))) else none)))) else none))))))
def zmd (φ:Nat):Fsp TV:=⟨[20,20,20],[.val 20,.val 20],fun z=>za1 φ z.1 z.2.1 z.2.2.1⟩
def zd0 (φ:Nat) (k30 :(Int->Int->Int->Int->Int->Int->Option (Int×Unit))) (x55:Int) (x56:Int) (x57:Int) (x58:Int) (x59:Int) (x60:Int) (x61:Int) (x62:Int) (x63:Int) (x64:Int):Option (Int×Unit):=(ck ((0:Int)<=(IntKind.wrap .u8 (x55))/\(IntKind.wrap .u8 (x55)) <(zt.size:Int)) (ck (0<=(W ((W ((W (x56 +(W ((z81 zt (IntKind.wrap .u8 (x55)))))))-1))-x60))) (if(((U ((BitVec.ofInt 64 ((x63:Int).fdiv (2 ^ (min ((W ((W ((W (x56 +(W ((z81 zt (IntKind.wrap .u8 (x55)))))))-1))-x60)):Int).toNat 64)))&&& BitVec.ofInt 64 1).toNat)):Int)==1)=true then(ck (x64≠0) (ck (x64≠0) ((zbz φ ((x59:Int).tmod x64) ((x57:Int).tmod x64)).bind fun y66=>((za1 φ y66.1 y66.2.1 x64).bind fun y67=>(k30 x57 x58 y67.2.1 x61 (W (x62+1)) x64))))) else(k30 x57 x58 x59 x61 (W (x62+1)) x64))))
def zco (φ:Nat) (k30 :(Int->Int->Int->Int->Int->Int->Option (Int×Unit))) (x44:Int) (x45:Int) (x46:Int) (x47:Int) (x48:Int) (x49:Int) (x50:Int) (x51:Int) (x52:Int) (x53:Int):Option (Int×Unit):=(if(decide ((256:Int)<=x44))=true then(if 0<=(8:Int) then(zd0 φ k30 (((x44:Int).fdiv (2 ^ (min (8:Int).toNat 64)))) (W (x45+8)) x46 x47 x48 x49 x50 x51 x52 x53) else none) else(zd0 φ k30 x44 x45 x46 x47 x48 x49 x50 x51 x52 x53))
def z5u (φ:Nat) (k30 :(Int->Int->Int->Int->Int->Int->Option (Int×Unit))) (x33:Int) (x34:Int) (x35:Int) (x36:Int) (x37:Int) (x38:Int) (x39:Int) (x40:Int) (x41:Int) (x42:Int):Option (Int×Unit):=(if(decide ((65536:Int)<=x33))=true then(if 0<=(16:Int) then(zco φ k30 (((x33:Int).fdiv (2 ^ (min (16:Int).toNat 64)))) (W (x34+16)) x35 x36 x37 x38 x39 x40 x41 x42) else none) else(zco φ k30 x33 x34 x35 x36 x37 x38 x39 x40 x41 x42))
def z0g (φ:Nat):Nat->Int->Int->Int->Int->Int->Int->Option (Int×Unit)
 | 0,_,_,_,_,_,_=>none
 | n30+1,x24,x25,x26,x27,x28,x29=>(if(decide ((x28:Int)<x27))=true then(ck (x29≠0) (ck (x29≠0) ((zbz φ ((x26:Int).tmod x29) ((x26:Int).tmod x29)).bind fun y31=>((za1 φ y31.1 y31.2.1 x29).bind fun y32=>(if(decide ((4294967296:Int)<=x25))=true then(if 0<=(32:Int) then(z5u φ (z0g φ n30) (((x25:Int).fdiv (2 ^ (min (32:Int).toNat 64)))) 32 x24 x25 y32.2.1 x28 x27 x28 x25 x29) else none) else(z5u φ (z0g φ n30) x25 0 x24 x25 y32.2.1 x28 x27 x28 x25 x29)))))) else(some (x26,())))
def zcm (φ:Nat) (x17:Int) (x18:Int) (x19:Int) (x20:Int) (x21:Int) (x22:Int):Option (Int×Unit):=(ck ((0:Int)<=(IntKind.wrap .u8 (x17))/\(IntKind.wrap .u8 (x17)) <(zt.size:Int)) (z0g φ φ x19 x20 x21 ((W (x18 +(W ((z81 zt (IntKind.wrap .u8 (x17)))))))) 0 x22))
def zcx (φ:Nat) (x10:Int) (x11:Int) (x12:Int) (x13:Int) (x14:Int) (x15:Int):Option (Int×Unit):=(if(decide ((256:Int)<=x10))=true then(if 0<=(8:Int) then(zcm φ (((x10:Int).fdiv (2 ^ (min (8:Int).toNat 64)))) (W (x11+8)) x12 x13 x14 x15) else none) else(zcm φ x10 x11 x12 x13 x14 x15))
def zgd (φ:Nat) (x3:Int) (x4:Int) (x5:Int) (x6:Int) (x7:Int) (x8:Int):Option (Int×Unit):=(if(decide ((65536:Int)<=x3))=true then(if 0<=(16:Int) then(zcx φ (((x3:Int).fdiv (2 ^ (min (16:Int).toNat 64)))) (W (x4+16)) x5 x6 x7 x8) else none) else(zcx φ x3 x4 x5 x6 x7 x8))
def zpv (φ:Nat) (x1:Int) (x2:Int):Option (Int×Unit):=(if(decide ((4294967296:Int)<=x2))=true then(if 0<=(32:Int) then(zgd φ (((x2:Int).fdiv (2 ^ (min (32:Int).toNat 64)))) 32 x1 x2 1 2305843009213690799) else none) else(zgd φ x2 0 x1 x2 1 2305843009213690799))
def zrf (φ:Nat):Fsp TV:=⟨[20,20],[.val 20],fun z=>zpv φ z.1 z.2.1⟩
def znz (φ:Nat) (x1:Int):Option (Bool×Unit):=((zc (default,()) (((decide ((2:Int)<=x1))&&(decide ((x1:Int)<2305843009213690799)))=true) (zpv φ x1 1152921504606845399)).bind fun y2=>(some ((((decide ((2:Int)<=x1))&&(decide ((x1:Int)<2305843009213690799)))&&((y2.1:Int)==1)),())))
def zmq (φ:Nat):Fsp TV:=⟨[20],[.val 1],fun z=>znz φ z.1⟩
def z16 (φ:Nat):Nat->Bool->(List z1z)->Int->Int->Option (Int×Unit)
 | 0,_,_,_,_=>none
 | n48+1,x44,x45,x46,x47=>(if(decide ((x47:Int)<x46))=true then(ck ((0:Int)<=x47/\x47 <(x45.length:Int)) ((zc (default,()) (x44=false) (zcf φ ((gt x45 x47).calendar))).bind fun y49=>((zc (default,()) ((x44||((y49.1:Int) !=0))=false) (znz φ ((gt x45 x47).key))).bind fun y50=>((z16 φ n48) (((x44||((y49.1:Int) !=0))||(!y50.1))) x45 x46 (W (x47+1)))))) else(if x44=true then(some (1,())) else(some (0,()))))
def z17 (φ:Nat):Nat->Int->Bool->(List Edge)->Int->Int->Pool->Option (Int×Unit)
 | 0,_,_,_,_,_,_=>none
 | n43+1,x37,x38,x39,x40,x41,x42=>(if(decide ((x41:Int)<x40))=true then(ck ((0:Int)<=x41/\x41 <(x39.length:Int)) ((z17 φ n43) x37 ((x38||(decide ((x37:Int)<=(gt x39 x41).railway)))) x39 x40 (W (x41+1)) x42)) else(z16 φ φ x38 x42.railways (x42.railways.length:Int) 0))
def z11 (φ:Nat):Nat->Int->Bool->(List z8j)->Int->Int->Pool->Option (Int×Unit)
 | 0,_,_,_,_,_,_=>none
 | n36+1,x30,x31,x32,x33,x34,x35=>(if(decide ((x34:Int)<x33))=true then(ck ((0:Int)<=x34/\x34 <(x32.length:Int)) ((z11 φ n36) x30 (((x31||(decide ((x30:Int)<=(gt x32 x34).railway)))||(decide ((x30:Int)<=(gt x32 x34).other)))) x32 x33 (W (x34+1)) x35)) else(z17 φ φ x30 x31 x35.network.edges (x35.network.edges.length:Int) 0 x35))
def z0y (φ:Nat):Nat->(List z8j)->Int->Bool->(List zoa)->Int->Int->Pool->Option (Int×Unit)
 | 0,_,_,_,_,_,_,_=>none
 | n29+1,x22,x23,x24,x25,x26,x27,x28=>(if(decide ((x27:Int)<x26))=true then(ck ((0:Int)<=x27/\x27 <(x25.length:Int)) ((z0y φ n29) x22 x23 ((x24||(decide (((x22.length:Int):Int)<=(gt x25 x27).home)))) x25 x26 (W (x27+1)) x28)) else(z11 φ φ x23 x24 x22 (x22.length:Int) 0 x28))
def z10 (φ:Nat):Nat->(List z8j)->Int->Bool->(List zde)->Int->Int->Pool->Option (Int×Unit)
 | 0,_,_,_,_,_,_,_=>none
 | n20+1,x13,x14,x15,x16,x17,x18,x19=>(if(decide ((x18:Int)<x17))=true then(ck ((0:Int)<=x18/\x18 <(x16.length:Int)) ((zc (default,()) (x15=false) (zn φ ((gt x16 x18).place) 0 (W ((x13.length:Int)-1)))).bind fun y21=>(ck (((x15||(!y21.1))=false)->(0:Int)<=(gt x16 x18).place/\(gt x16 x18).place <(x13.length:Int)) ((z10 φ n20) x13 x14 (((x15||(!y21.1))||(((gt x13 ((gt x16 x18).place)).kind:Int) !=4))) x16 x17 (W (x18+1)) x19)))) else(z0y φ φ x13 x14 x15 x19.fleet.wagons (x19.fleet.wagons.length:Int) 0 x19))
def z2s (φ:Nat):Nat->(List z8j)->Int->Bool->(List zll)->Int->Int->Pool->Option (Int×Unit)
 | 0,_,_,_,_,_,_,_=>none
 | n11+1,x4,x5,x6,x7,x8,x9,x10=>(if(decide ((x9:Int)<x8))=true then(ck ((0:Int)<=x9/\x9 <(x7.length:Int)) ((zc (default,()) (x6=false) (zn φ ((gt x7 x9).place) 0 (W ((x4.length:Int)-1)))).bind fun y12=>((z2s φ n11) x4 x5 (((((x6||(!y12.1))||(decide (((gt x7 x9).low:Int) <(-1000))))||(decide (((gt x7 x9).high:Int) <(gt x7 x9).low)))||(decide ((1000:Int) <(gt x7 x9).high)))) x7 x8 (W (x9+1)) x10))) else(z10 φ φ x4 x5 x6 x10.shippers (x10.shippers.length:Int) 0 x10))
def z4t (φ:Nat) (x1:Pool):Option (Int×Unit):=((zeh φ x1.network).bind fun y2=>(if((y2.1:Int) !=0)=true then(some (y2.1,())) else((zjy φ x1.fleet).bind fun y3=>(if((y3.1:Int) !=0)=true then(some (y3.1,())) else(if(((decide ((256:Int) <(x1.readers.length:Int)))||(decide ((256:Int) <(x1.shippers.length:Int))))||(decide ((16:Int) <(x1.railways.length:Int))))=true then(some (2,())) else(z2s φ φ x1.network.places (x1.railways.length:Int) (((x1.railways.length:Int):Int)==0) x1.readers (x1.readers.length:Int) 0 x1))))))
def z4g (φ:Nat):Fsp TV:=⟨[39],[.val 0],fun z=>z4t φ z.1⟩
def z8s (φ:Nat) (x1:Item):Option (Bool×Unit):=(if(((x1.ref.railway:Int)==0)&&(((x1.ref.no:Int)==0)&&true))=true then(some (((x1.kind:Int) !=14),())) else(some (((((decide ((0:Int)<=x1.ref.railway))&&(decide ((x1.ref.railway:Int)<16)))&&(decide ((1:Int)<=x1.ref.no)))&&(decide ((x1.ref.no:Int)<=4096))),())))
def zg3 (φ:Nat):Fsp TV:=⟨[6],[.val 1],fun z=>z8s φ z.1⟩
def z9x (φ:Nat):Nat->(List Part)->Bool->(List Part)->Int->Int->Option (Bool×Unit)
 | 0,_,_,_,_,_=>none
 | n8+1,x3,x4,x5,x6,x7=>(if(decide ((x7:Int)<x6))=true then(ck ((0:Int)<=x7/\x7 <(x5.length:Int)) (if(((((decide (((gt x5 x7).kind:Int)<1))||(decide ((3:Int) <(gt x5 x7).kind)))||(decide (((gt x5 x7).serial:Int)<0)))||(decide ((1073741824:Int) <(gt x5 x7).serial)))||((gt x5 x7).fitted&&(!x4)))=true then(some (false,())) else((z9x φ n8) x3 x4 x5 x6 (W (x7+1))))) else(some ((decide (((x3.length:Int):Int)<=16)),())))
def zmz (φ:Nat) (x1 :(List Part)) (x2:Bool):Option (Bool×Unit):=(z9x φ φ x1 x2 x1 (x1.length:Int) 0)
def zon (φ:Nat):Fsp TV:=⟨[5,1],[.val 1],fun z=>zmz φ z.1 z.2.1⟩
def za (φ:Nat) (x3:ze):Option (Bool×Unit):=(some ((((((((((((((x3.ok&&((x3.it.wagon:Int)==0))&&((x3.it.place:Int)==0))&&((x3.it.other:Int)==0))&&((x3.it.number:Int)==0))&&((x3.it.from_:Int)==0))&&((x3.it.to:Int)==0))&&((x3.it.code:Int)==0))&&((x3.it.dest:Int)==0))&&((x3.it.class_:Int)==0))&&((x3.it.weight:Int)==0))&&((x3.it.amount:Int)==0))&&(x3.it.text==(⟨#[]⟩:ByteArray)))&&(((x3.it.parts.length:Int):Int)==0)),()))
def z7a (φ:Nat) (x5:Int) (x6:ze) (x7:z8j):Option (Bool×Unit):=(za φ ((⟨x6.p,(⟨x6.it.kind,x6.it.ref,x6.it.wagon,0,x6.it.other,x6.it.number,0,0,x6.it.code,x6.it.dest,x6.it.class_,x6.it.weight,x6.it.amount,x6.it.text,x6.it.parts⟩:Item),(((((x6.ok&&((x7.kind:Int) !=0))&&(((x5:Int)==0)||((x7.kind:Int)==x5)))&&(decide (((max2 x6.it.from_ 0):Int)<=x6.it.to)))&&(decide ((x6.it.to:Int)<=1073741824)))&&(decide ((0:Int)<=x6.it.from_)))&&(decide ((x6.it.from_:Int)<=1073741824))⟩:ze)))
def z5w (φ:Nat) (x13:Int) (x14:ze) (x15:z8j):Option (Bool×Unit):=(za φ ((⟨x14.p,(⟨x14.it.kind,x14.it.ref,x14.it.wagon,0,0,x14.it.number,0,x14.it.to,0,x14.it.dest,x14.it.class_,x14.it.weight,x14.it.amount,x14.it.text,x14.it.parts⟩:Item),((((((x14.ok&&((x15.kind:Int) !=0))&&(((x13:Int)==0)||((x15.kind:Int)==x13)))&&(((x14.it.other:Int)==x15.railway)||((x14.it.other:Int)==x15.other)))&&(decide ((0:Int)<=x14.it.from_)))&&(decide ((x14.it.from_:Int)<=1073741824)))&&(decide ((0:Int)<=x14.it.code)))&&(decide ((x14.it.code:Int)<=8))⟩:ze)))
def z6b (φ:Nat) (x17:Int) (x18:ze) (x19:z8j):Option (Bool×Unit):=(za φ ((⟨x18.p,(⟨x18.it.kind,x18.it.ref,x18.it.wagon,0,x18.it.other,x18.it.number,0,x18.it.to,x18.it.code,0,0,0,x18.it.amount,x18.it.text,x18.it.parts⟩:Item),(((((((((x18.ok&&((x19.kind:Int) !=0))&&(((x17:Int)==0)||((x19.kind:Int)==x17)))&&(decide ((0:Int)<=x18.it.dest)))&&(decide ((x18.it.dest:Int)<=(W ((x18.p.network.places.length:Int)-1)))))&&(decide ((0:Int)<=x18.it.class_)))&&(decide ((x18.it.class_:Int)<=63)))&&(decide ((0:Int)<=x18.it.weight)))&&(decide ((x18.it.weight:Int)<=1000000)))&&(decide ((0:Int)<=x18.it.from_)))&&(decide ((x18.it.from_:Int)<=1073741824))⟩:ze)))
def z6d (φ:Nat) (x24:Int) (x25:ze) (x26:z8j):Option (Bool×Unit):=(if((x25.it.kind:Int)==6)=true then(za φ ((⟨x25.p,(⟨x25.it.kind,x25.it.ref,x25.it.wagon,0,0,x25.it.number,0,x25.it.to,0,x25.it.dest,x25.it.class_,x25.it.weight,x25.it.amount,x25.it.text,x25.it.parts⟩:Item),(((((((x25.ok&&((x26.kind:Int) !=0))&&(((x24:Int)==0)||((x26.kind:Int)==x24)))&&(decide ((0:Int)<=x25.it.other)))&&(decide ((x25.it.other:Int)<=(W ((x25.p.shippers.length:Int)-1)))))&&(decide ((0:Int)<=x25.it.from_)))&&(decide ((x25.it.from_:Int)<=1073741824)))&&(decide ((0:Int)<=x25.it.code)))&&(decide ((x25.it.code:Int)<=1))⟩:ze))) else(za φ ((⟨x25.p,(⟨x25.it.kind,x25.it.ref,x25.it.wagon,0,0,x25.it.number,0,x25.it.to,x25.it.code,x25.it.dest,x25.it.class_,x25.it.weight,x25.it.amount,x25.it.text,x25.it.parts⟩:Item),(((((x25.ok&&((x26.kind:Int) !=0))&&(((x24:Int)==0)||((x26.kind:Int)==x24)))&&(decide ((0:Int)<=x25.it.other)))&&(decide ((x25.it.other:Int)<=(W ((x25.p.shippers.length:Int)-1)))))&&(decide ((0:Int)<=x25.it.from_)))&&(decide ((x25.it.from_:Int)<=1073741824))⟩:ze))))
def z5y (φ:Nat) (x21:Bool) (x22:ze):Option (Bool×Unit):=(if x21=true then(if((decide ((0:Int)<=x22.it.place))&&(decide ((x22.it.place:Int) <(x22.p.network.places.length:Int))))=true then(ck ((0:Int)<=x22.it.place/\x22.it.place <(x22.p.network.places.length:Int)) (z6d φ 0 x22 (gt x22.p.network.places x22.it.place))) else(z6d φ 0 x22 (⟨0,0,0⟩:z8j))) else(za φ x22))
def z67 (φ:Nat) (x9:Int) (x10:Bool) (x11:ze):Option (Bool×Unit):=(if x10=true then(if((decide ((0:Int)<=x11.it.place))&&(decide ((x11.it.place:Int) <(x11.p.network.places.length:Int))))=true then(ck ((0:Int)<=x11.it.place/\x11.it.place <(x11.p.network.places.length:Int)) (z5w φ 3 x11 (gt x11.p.network.places x11.it.place))) else(z5w φ 3 x11 (⟨0,0,0⟩:z8j))) else(if((x9:Int)==5)=true then(if((decide ((0:Int)<=x11.it.place))&&(decide ((x11.it.place:Int) <(x11.p.network.places.length:Int))))=true then(ck ((0:Int)<=x11.it.place/\x11.it.place <(x11.p.network.places.length:Int)) (z6b φ 0 ((⟨x11.p,(⟨x11.it.kind,x11.it.ref,x11.it.wagon,x11.it.place,0,0,x11.it.from_,x11.it.to,x11.it.code,x11.it.dest,x11.it.class_,x11.it.weight,x11.it.amount,x11.it.text,x11.it.parts⟩:Item),(((x11.ok&&(decide ((1:Int)<=x11.it.number)))&&(decide ((x11.it.number:Int)<=1000000000)))&&(decide ((0:Int)<=x11.it.other)))&&(decide ((x11.it.other:Int)<=(W ((x11.p.shippers.length:Int)-1))))⟩:ze)) (gt x11.p.network.places x11.it.place))) else(z6b φ 0 ((⟨x11.p,(⟨x11.it.kind,x11.it.ref,x11.it.wagon,x11.it.place,0,0,x11.it.from_,x11.it.to,x11.it.code,x11.it.dest,x11.it.class_,x11.it.weight,x11.it.amount,x11.it.text,x11.it.parts⟩:Item),(((x11.ok&&(decide ((1:Int)<=x11.it.number)))&&(decide ((x11.it.number:Int)<=1000000000)))&&(decide ((0:Int)<=x11.it.other)))&&(decide ((x11.it.other:Int)<=(W ((x11.p.shippers.length:Int)-1))))⟩:ze)) (⟨0,0,0⟩:z8j))) else(if((x9:Int)==6)=true then(z5y φ ((x9:Int)==6) x11) else(z5y φ ((x9:Int)==7) x11))))
def z62 (φ:Nat) (x28:Int) (x29:ze) (x30:z8j):Option (Bool×Unit):=((zc (default,()) (((((((((((x29.ok&&((x30.kind:Int) !=0))&&(((x28:Int)==0)||((x30.kind:Int)==x28)))&&(decide (((max2 x29.it.from_ 0):Int)<=x29.it.to)))&&(decide ((x29.it.to:Int)<=1073741824)))&&(decide ((0:Int)<=x29.it.from_)))&&(decide ((x29.it.from_:Int)<=1073741824)))&&(decide ((1:Int)<=x29.it.code)))&&(decide ((x29.it.code:Int)<=2)))&&(decide ((0:Int)<=x29.it.amount)))&&(decide ((x29.it.amount:Int)<=1000000000)))=true) (zmz φ x29.it.parts true)).bind fun y32=>(za φ ((⟨x29.p,(⟨x29.it.kind,x29.it.ref,x29.it.wagon,0,x29.it.other,x29.it.number,0,0,0,x29.it.dest,x29.it.class_,x29.it.weight,0,x29.it.text,([]:List Part)⟩:Item),((((((((((x29.ok&&((x30.kind:Int) !=0))&&(((x28:Int)==0)||((x30.kind:Int)==x28)))&&(decide (((max2 x29.it.from_ 0):Int)<=x29.it.to)))&&(decide ((x29.it.to:Int)<=1073741824)))&&(decide ((0:Int)<=x29.it.from_)))&&(decide ((x29.it.from_:Int)<=1073741824)))&&(decide ((1:Int)<=x29.it.code)))&&(decide ((x29.it.code:Int)<=2)))&&(decide ((0:Int)<=x29.it.amount)))&&(decide ((x29.it.amount:Int)<=1000000000)))&&y32.1⟩:ze))))
def z69 (φ:Nat) (x38:Int) (x39:ze) (x40:z8j):Option (Bool×Unit):=(za φ ((⟨x39.p,(⟨x39.it.kind,x39.it.ref,x39.it.wagon,0,x39.it.other,0,0,0,x39.it.code,x39.it.dest,0,0,0,x39.it.text,x39.it.parts⟩:Item),(((((((((((((x39.ok&&((x40.kind:Int) !=0))&&(((x38:Int)==0)||((x40.kind:Int)==x38)))&&(decide ((0:Int)<=x39.it.class_)))&&(decide ((x39.it.class_:Int)<=63)))&&(decide ((0:Int)<=x39.it.number)))&&(decide ((x39.it.number:Int)<=(W ((x39.p.fleet.types.length:Int)-1)))))&&(decide ((1:Int)<=x39.it.weight)))&&(decide ((x39.it.weight:Int)<=1000)))&&(decide (((max2 x39.it.from_ 0):Int)<=x39.it.to)))&&(decide ((x39.it.to:Int)<=1073741824)))&&(decide ((0:Int)<=x39.it.from_)))&&(decide ((x39.it.from_:Int)<=1073741824)))&&(decide ((0:Int)<=x39.it.amount)))&&(decide ((x39.it.amount:Int)<=1000000000))⟩:ze)))
def z1g (φ:Nat) (x34:Int) (x35:Bool) (x36:ze):Option (Bool×Unit):=(if x35=true then(if((x36.it.kind:Int) !=13)=true then(za φ ((⟨x36.p,(⟨x36.it.kind,x36.it.ref,x36.it.wagon,x36.it.place,x36.it.other,0,0,x36.it.to,x36.it.code,x36.it.dest,x36.it.class_,x36.it.weight,x36.it.amount,(⟨#[]⟩:ByteArray),x36.it.parts⟩:Item),(((((x36.ok&&(decide ((1:Int)<=x36.it.number)))&&(decide ((x36.it.number:Int)<=6)))&&(decide ((0:Int)<=x36.it.from_)))&&(decide ((x36.it.from_:Int)<=1073741824)))&&(decide ((1:Int)<=(x36.it.text.size:Int))))&&(decide (((x36.it.text.size:Int):Int)<=2000))⟩:ze))) else(za φ ((⟨x36.p,(⟨x36.it.kind,x36.it.ref,x36.it.wagon,x36.it.place,x36.it.other,0,0,x36.it.to,x36.it.code,x36.it.dest,x36.it.class_,x36.it.weight,x36.it.amount,x36.it.text,x36.it.parts⟩:Item),(((x36.ok&&(decide ((1:Int)<=x36.it.number)))&&(decide ((x36.it.number:Int)<=6)))&&(decide ((0:Int)<=x36.it.from_)))&&(decide ((x36.it.from_:Int)<=1073741824))⟩:ze)))) else(if((x34:Int)==14)=true then(za φ x36) else(if((x34:Int)==15)=true then(if((decide ((0:Int)<=x36.it.place))&&(decide ((x36.it.place:Int) <(x36.p.network.places.length:Int))))=true then(ck ((0:Int)<=x36.it.place/\x36.it.place <(x36.p.network.places.length:Int)) (z69 φ 0 ((⟨x36.p,(⟨x36.it.kind,x36.it.ref,x36.it.wagon,x36.it.place,0,x36.it.number,x36.it.from_,x36.it.to,x36.it.code,x36.it.dest,x36.it.class_,x36.it.weight,x36.it.amount,x36.it.text,x36.it.parts⟩:Item),(x36.ok&&(decide ((0:Int)<=x36.it.other)))&&(decide ((x36.it.other:Int)<=(W ((x36.p.shippers.length:Int)-1))))⟩:ze)) (gt x36.p.network.places x36.it.place))) else(z69 φ 0 ((⟨x36.p,(⟨x36.it.kind,x36.it.ref,x36.it.wagon,x36.it.place,0,x36.it.number,x36.it.from_,x36.it.to,x36.it.code,x36.it.dest,x36.it.class_,x36.it.weight,x36.it.amount,x36.it.text,x36.it.parts⟩:Item),(x36.ok&&(decide ((0:Int)<=x36.it.other)))&&(decide ((x36.it.other:Int)<=(W ((x36.p.shippers.length:Int)-1))))⟩:ze)) (⟨0,0,0⟩:z8j))) else(za φ (⟨x36.p,x36.it,false⟩:ze)))))
def z07 (φ:Nat) (x1:Pool) (x2:Item):Option (Bool×Unit):=(if(decide ((x2.kind:Int)<=7))=true then(if(decide ((x2.kind:Int)<1))=true then(za φ (⟨x1,x2,false⟩:ze)) else(if((x2.kind:Int)==1)=true then(za φ ((⟨x1,(⟨x2.kind,x2.ref,0,x2.place,0,x2.number,0,x2.to,x2.code,x2.dest,x2.class_,x2.weight,x2.amount,x2.text,x2.parts⟩:Item),(((((true&&(decide ((0:Int)<=x2.wagon)))&&(decide ((x2.wagon:Int)<=(W ((x1.fleet.wagons.length:Int)-1)))))&&(decide ((0:Int)<=x2.other)))&&(decide ((x2.other:Int)<=(W ((x1.readers.length:Int)-1)))))&&(decide ((0:Int)<=x2.from_)))&&(decide ((x2.from_:Int)<=1073741824))⟩:ze))) else(if((x2.kind:Int)==2)=true then(if((decide ((0:Int)<=x2.place))&&(decide ((x2.place:Int) <(x1.network.places.length:Int))))=true then(ck ((0:Int)<=x2.place/\x2.place <(x1.network.places.length:Int)) (z7a φ 0 ((⟨x1,(⟨x2.kind,x2.ref,0,x2.place,x2.other,x2.number,x2.from_,x2.to,x2.code,x2.dest,x2.class_,x2.weight,x2.amount,x2.text,x2.parts⟩:Item),(true&&(decide ((0:Int)<=x2.wagon)))&&(decide ((x2.wagon:Int)<=(W ((x1.fleet.wagons.length:Int)-1))))⟩:ze)) (gt x1.network.places x2.place))) else(z7a φ 0 ((⟨x1,(⟨x2.kind,x2.ref,0,x2.place,x2.other,x2.number,x2.from_,x2.to,x2.code,x2.dest,x2.class_,x2.weight,x2.amount,x2.text,x2.parts⟩:Item),(true&&(decide ((0:Int)<=x2.wagon)))&&(decide ((x2.wagon:Int)<=(W ((x1.fleet.wagons.length:Int)-1))))⟩:ze)) (⟨0,0,0⟩:z8j))) else(if((x2.kind:Int)==3)=true then(z67 φ x2.kind ((x2.kind:Int)==3) ((⟨x1,(⟨x2.kind,x2.ref,0,x2.place,x2.other,x2.number,x2.from_,x2.to,x2.code,x2.dest,x2.class_,x2.weight,x2.amount,x2.text,x2.parts⟩:Item),(true&&(decide ((0:Int)<=x2.wagon)))&&(decide ((x2.wagon:Int)<=(W ((x1.fleet.wagons.length:Int)-1))))⟩:ze))) else(z67 φ x2.kind ((x2.kind:Int)==4) ((⟨x1,(⟨x2.kind,x2.ref,0,x2.place,x2.other,x2.number,x2.from_,x2.to,x2.code,x2.dest,x2.class_,x2.weight,x2.amount,x2.text,x2.parts⟩:Item),(true&&(decide ((0:Int)<=x2.wagon)))&&(decide ((x2.wagon:Int)<=(W ((x1.fleet.wagons.length:Int)-1))))⟩:ze))))))) else(if((x2.kind:Int)==8)=true then(za φ ((⟨x1,(⟨x2.kind,x2.ref,0,x2.place,x2.other,x2.number,0,x2.to,0,x2.dest,x2.class_,x2.weight,x2.amount,x2.text,x2.parts⟩:Item),(((((true&&(decide ((0:Int)<=x2.wagon)))&&(decide ((x2.wagon:Int)<=(W ((x1.fleet.wagons.length:Int)-1)))))&&(decide ((0:Int)<=x2.from_)))&&(decide ((x2.from_:Int)<=1073741824)))&&(decide ((1:Int)<=x2.code)))&&(decide ((x2.code:Int)<=9))⟩:ze))) else(if((x2.kind:Int)==9)=true then(if((decide ((0:Int)<=x2.place))&&(decide ((x2.place:Int) <(x1.network.places.length:Int))))=true then(ck ((0:Int)<=x2.place/\x2.place <(x1.network.places.length:Int)) (z62 φ 5 ((⟨x1,(⟨x2.kind,x2.ref,0,x2.place,x2.other,x2.number,x2.from_,x2.to,x2.code,x2.dest,x2.class_,x2.weight,x2.amount,x2.text,x2.parts⟩:Item),(true&&(decide ((0:Int)<=x2.wagon)))&&(decide ((x2.wagon:Int)<=(W ((x1.fleet.wagons.length:Int)-1))))⟩:ze)) (gt x1.network.places x2.place))) else(z62 φ 5 ((⟨x1,(⟨x2.kind,x2.ref,0,x2.place,x2.other,x2.number,x2.from_,x2.to,x2.code,x2.dest,x2.class_,x2.weight,x2.amount,x2.text,x2.parts⟩:Item),(true&&(decide ((0:Int)<=x2.wagon)))&&(decide ((x2.wagon:Int)<=(W ((x1.fleet.wagons.length:Int)-1))))⟩:ze)) (⟨0,0,0⟩:z8j))) else(if((x2.kind:Int)==10)=true then((zc (default,()) ((((true&&(decide ((0:Int)<=x2.other)))&&(decide ((x2.other:Int)<=63)))&&(decide ((0:Int) <(x2.parts.length:Int))))=true) (zmz φ x2.parts false)).bind fun y33=>(za φ ((⟨x1,(⟨x2.kind,x2.ref,x2.wagon,x2.place,0,x2.number,x2.from_,x2.to,x2.code,x2.dest,x2.class_,x2.weight,x2.amount,x2.text,([]:List Part)⟩:Item),(((true&&(decide ((0:Int)<=x2.other)))&&(decide ((x2.other:Int)<=63)))&&(decide ((0:Int) <(x2.parts.length:Int))))&&y33.1⟩:ze)))) else(if((x2.kind:Int)==11)=true then(z1g φ x2.kind ((x2.kind:Int)==11) (⟨x1,x2,true⟩:ze)) else(if((x2.kind:Int)==12)=true then(z1g φ x2.kind ((x2.kind:Int)==12) (⟨x1,x2,true⟩:ze)) else(z1g φ x2.kind ((x2.kind:Int)==13) (⟨x1,x2,true⟩:ze))))))))
def zme (φ:Nat):Fsp TV:=⟨[39,6],[.val 1],fun z=>z07 φ z.1 z.2.1⟩
def zd2 (φ:Nat) (x1:Pool) (x2:Item):Option (Int×Unit):=((z4t φ x1).bind fun y3=>(if((y3.1:Int) !=0)=true then(some (y3.1,())) else((z8s φ x2).bind fun y4=>((zc (default,()) ((!y4.1)=false) (z07 φ x1 x2)).bind fun y5=>(if((!y4.1)||(!y5.1))=true then(some (110,())) else(some (0,())))))))
def zj5 (φ:Nat):Fsp TV:=⟨[39,6],[.val 0],fun z=>zd2 φ z.1 z.2.1⟩
def zhv (φ:Nat) (x1:Part) (x2 :(List (z7×Bool))):Option (Bool×Unit):=((zfq φ x1).bind fun y3=>(some (((cget kl_9 x2 y3.1).getD (default:Bool)),())))
def zdp (φ:Nat):Csp TV:=⟨[2],[.b (.map 9 1)],[.val 1],fun z b=>zhv φ z.1 b.1⟩
def zht (φ:Nat) (x1:Pool) (x2:Int) (x3:Int):Option (Int×Unit):=((z4t φ x1).bind fun y4=>(if((y4.1:Int) !=0)=true then(some (y4.1,())) else(if((((decide ((x2:Int)<0))||(decide (((x1.fleet.wagons.length:Int):Int)<=x2)))||(decide ((x3:Int)<0)))||(decide ((1073741824:Int)<x3)))=true then(some (1,())) else(some (0,())))))
def zd6 (φ:Nat):Fsp TV:=⟨[39,0,0],[.val 0],fun z=>zht φ z.1 z.2.1 z.2.2.1⟩
def z4o (φ:Nat):Nat->Int->(List z1)->Int->Int->Pool->(List Int)->Option ((List Int)×Unit)
 | 0,_,_,_,_,_,_=>none
 | n10+1,x4,x5,x6,x7,x8,x9=>(if(decide ((x7:Int)<x6))=true then(ck ((0:Int)<=x7/\x7 <(x5.length:Int)) ((zc (default,()) (((((gt x5 x7).item).kind:Int)==x4)=true) (zd2 φ x8 ((gt x5 x7).item))).bind fun y11=>(if(((((gt x5 x7).item).kind:Int)==x4)&&((y11.1:Int)==0))=true then(ck (fits (x9.length +([x7]).length) 8) ((z4o φ n10) x4 x5 x6 (W (x7+1)) x8 (x9++[x7]))) else((z4o φ n10) x4 x5 x6 (W (x7+1)) x8 x9)))) else(some (x9,())))
def zfx (φ:Nat) (x1:Pool) (x2 :(List z1)) (x3:Int):Option ((List Int)×Unit):=(z4o φ φ x3 x2 (x2.length:Int) 0 x1 ([]:List Int))
def zjs (φ:Nat):Fsp TV:=⟨[39,10,0],[.row 3 0],fun z=>zfx φ z.1 z.2.1 z.2.2.1⟩
def z7k (φ:Nat) (x1:Ref) (x2:Ref):Option (Int×Unit):=((z1s φ x1.railway x2.railway).bind fun y3=>((z1s φ x1.no x2.no).bind fun y4=>((zlk φ ([y3.1,y4.1])).bind fun y5=>(some (y5.1,())))))
def z7d (φ:Nat):Fsp TV:=⟨[3,3],[.val 0],fun z=>z7k φ z.1 z.2.1⟩
def z5g (φ:Nat) (x1:Int) (x2:Int) (x3 :(List z1)):Option (Int×Unit):=(ck ((0:Int)<=x1/\x1 <(x3.length:Int)) (ck ((0:Int)<=x2/\x2 <(x3.length:Int)) ((z1s φ (((gt x3 x1).item).from_) (((gt x3 x2).item).from_)).bind fun y4=>(ck ((0:Int)<=x1/\x1 <(x3.length:Int)) (ck ((0:Int)<=x2/\x2 <(x3.length:Int)) ((z7k φ ((gt x3 x1).ref) ((gt x3 x2).ref)).bind fun y5=>((zlk φ ([y4.1,y5.1])).bind fun y6=>(some (y6.1,())))))))))
def zab (φ:Nat):Csp TV:=⟨[0,0],[.b (.val 10)],[.val 0],fun z b=>z5g φ z.1 z.2.1 b.1⟩
def z12 (φ:Nat) (k10 :(Int->Int->(Int->Int->Option Int)->Int->(List Int)->Option (List Int))):Nat->Int->Int->(Int->Int->Option Int)->Int->Int->(List Int)->Option (List Int)
 | 0,_,_,_,_,_,_=>none
 | n17+1,x11,x12,x13,x14,x15,x16=>(ck (((decide ((x11:Int)<x15))=true)->(0:Int)<=x15/\x15 <(x16.length:Int)) (ck (((decide ((x11:Int)<x15))=true)->(0:Int)<=(W (x15-1))/\(W (x15-1)) <(x16.length:Int)) ((zc (0:Int) ((decide ((x11:Int)<x15))=true) (x13 (gt x16 x15) (gt x16 (W (x15-1))))).bind fun y18=>(if((decide ((x11:Int)<x15))&&(decide ((y18:Int)<0)))=true then(ck ((0:Int)<=(W (x15-1))/\(W (x15-1)) <(x16.length:Int)) (ck ((0:Int)<=x15/\x15 <(x16.length:Int)) (ck ((0:Int)<=x15/\x15 <(x16.length:Int)) (ck ((0:Int)<=(W (x15-1))/\(W (x15-1)) <(((z04 x16 x15 (gt x16 (W (x15-1))))).length:Int)) ((z12 φ k10 n17) x11 x12 x13 x14 (W (x15-1)) ((z04 ((z04 x16 x15 (gt x16 (W (x15-1))))) (W (x15-1)) (gt x16 x15)))))))) else(k10 x11 x12 x13 (W (x14+1)) x16)))))
def z0z (φ:Nat):Nat->Int->Int->(Int->Int->Option Int)->Int->(List Int)->Option (List Int)
 | 0,_,_,_,_,_=>none
 | n10+1,x5,x6,x7,x8,x9=>(if(decide ((x8:Int)<x6))=true then(z12 φ (z0z φ n10) φ x5 x6 x7 x8 x8 x9) else(some x9))
def z2o (φ:Nat) (x1 :(List Int)) (x2:Int) (x3:Int) (x4 :(Int->Int->Option Int)):Option (List Int):=(z0z φ φ x2 x3 x4 (W (x2+1)) x1)
def z1l (φ:Nat):Msp TV:=⟨3,0,[.val 0,.val 0,.cmp 0],fun l z=>z2o φ l z.1 z.2.1 z.2.2.1⟩
def z2l (φ:Nat):Nat->Int->Int->Int->Int->(List Int)->Option (List Int)
 | 0,_,_,_,_,_=>none
 | n11+1,x6,x7,x8,x9,x10=>(if(decide ((x9:Int)<x8))=true then(ck ((0:Int)<=(W (x7+x9))/\(W (x7+x9)) <(x10.length:Int)) (ck ((0:Int)<=(W (x6+x9))/\(W (x6+x9)) <(x10.length:Int)) (ck ((0:Int)<=(W (x6+x9))/\(W (x6+x9)) <(x10.length:Int)) (ck ((0:Int)<=(W (x7+x9))/\(W (x7+x9)) <(((z04 x10 (W (x6+x9)) (gt x10 (W (x7+x9))))).length:Int)) ((z2l φ n11) x6 x7 x8 (W (x9+1)) ((z04 ((z04 x10 (W (x6+x9)) (gt x10 (W (x7+x9))))) (W (x7+x9)) (gt x10 (W (x6+x9)))))))))) else(some x10))
def z1j (φ:Nat) (x1 :(List Int)) (x2:Int) (x3:Int) (x4:Int) (x5 :(Int->Int->Option Int)):Option (List Int):=(z2l φ φ x2 x3 x4 0 x1)
def z3o (φ:Nat):Msp TV:=⟨3,0,[.val 0,.val 0,.val 0,.cmp 0],fun l z=>z1j φ l z.1 z.2.1 z.2.2.1 z.2.2.2.1⟩
def z1b (φ:Nat):Nat->Int->(Int->Int->Option Int)->Int->Int->(List Int)->Option (List Int)
 | 0,_,_,_,_,_=>none
 | n11+1,x6,x7,x8,x9,x10=>(if((x8:Int) !=x9)=true then(if(decide ((x9:Int)<x8))=true then((z1j φ x10 (W (x6-x8)) x6 x9 x7).bind fun y12=>((z1b φ n11) x6 x7 (W (x8-x9)) x9 y12)) else((z1j φ x10 (W (x6-x8)) ((W ((W (x6+x9))-x8))) x8 x7).bind fun y13=>((z1b φ n11) x6 x7 x8 (W (x9-x8)) y13))) else((z1j φ x10 (W (x6-x8)) x6 x8 x7).bind fun y14=>(some y14)))
def z9y (φ:Nat) (x1 :(List Int)) (x2:Int) (x3:Int) (x4:Int) (x5 :(Int->Int->Option Int)):Option (List Int):=(z1b φ φ x3 x5 (W (x3-x2)) (W (x4-x3)) x1)
def z4z (φ:Nat):Msp TV:=⟨3,0,[.val 0,.val 0,.val 0,.cmp 0],fun l z=>z9y φ l z.1 z.2.1 z.2.2.1 z.2.2.2.1⟩
def z3f (φ:Nat):Nat->Int->Int->(List Int)->Option (List Int)
 | 0,_,_,_=>none
 | n16+1,x13,x14,x15=>(if(decide ((x14:Int) <(W (x13-1))))=true then(ck ((0:Int)<=(W (x14+1))/\(W (x14+1)) <(x15.length:Int)) (ck ((0:Int)<=x14/\x14 <(x15.length:Int)) (ck ((0:Int)<=x14/\x14 <(x15.length:Int)) (ck ((0:Int)<=(W (x14+1))/\(W (x14+1)) <(((z04 x15 x14 (gt x15 (W (x14+1))))).length:Int)) ((z3f φ n16) x13 (W (x14+1)) ((z04 ((z04 x15 x14 (gt x15 (W (x14+1))))) (W (x14+1)) (gt x15 x14)))))))) else(some x15))
def z0s (φ:Nat):Nat->Int->(Int->Int->Option Int)->Int->Int->(List Int)->Option (List Int)
 | 0,_,_,_,_,_=>none
 | n11+1,x6,x7,x8,x9,x10=>(if(decide ((x8:Int)<x9))=true then(if 0<=(1:Int) then(ck ((0:Int)<=(W ((((U ((W (x8+x9)))):Int).fdiv (2 ^ (min (1:Int).toNat 64)))))/\(W ((((U ((W (x8+x9)))):Int).fdiv (2 ^ (min (1:Int).toNat 64))))) <(x10.length:Int)) (ck ((0:Int)<=x6/\x6 <(x10.length:Int)) ((x7 ((gt x10 ((W ((((U ((W (x8+x9)))):Int).fdiv (2 ^ (min (1:Int).toNat 64)))))))) (gt x10 x6)).bind fun y12=>(if(decide ((y12:Int)<0))=true then((z0s φ n11) x6 x7 ((W ((W ((((U ((W (x8+x9)))):Int).fdiv (2 ^ (min (1:Int).toNat 64)))))+1))) x9 x10) else((z0s φ n11) x6 x7 x8 ((W ((((U ((W (x8+x9)))):Int).fdiv (2 ^ (min (1:Int).toNat 64)))))) x10))))) else none) else(z3f φ φ x8 x6 x10))
def z32 (φ:Nat):Nat->Int->Int->(List Int)->Option (List Int)
 | 0,_,_,_=>none
 | n27+1,x24,x25,x26=>(if(decide ((x24:Int)<x25))=true then(ck ((0:Int)<=(W (x25-1))/\(W (x25-1)) <(x26.length:Int)) (ck ((0:Int)<=x25/\x25 <(x26.length:Int)) (ck ((0:Int)<=x25/\x25 <(x26.length:Int)) (ck ((0:Int)<=(W (x25-1))/\(W (x25-1)) <(((z04 x26 x25 (gt x26 (W (x25-1))))).length:Int)) ((z32 φ n27) x24 (W (x25-1)) ((z04 ((z04 x26 x25 (gt x26 (W (x25-1))))) (W (x25-1)) (gt x26 x25)))))))) else(some x26))
def z0p (φ:Nat):Nat->Int->(Int->Int->Option Int)->Int->Int->(List Int)->Option (List Int)
 | 0,_,_,_,_,_=>none
 | n22+1,x17,x18,x19,x20,x21=>(if(decide ((x19:Int)<x20))=true then(if 0<=(1:Int) then(ck ((0:Int)<=x17/\x17 <(x21.length:Int)) (ck ((0:Int)<=(W ((((U ((W (x19+x20)))):Int).fdiv (2 ^ (min (1:Int).toNat 64)))))/\(W ((((U ((W (x19+x20)))):Int).fdiv (2 ^ (min (1:Int).toNat 64))))) <(x21.length:Int)) ((x18 (gt x21 x17) ((gt x21 ((W ((((U ((W (x19+x20)))):Int).fdiv (2 ^ (min (1:Int).toNat 64))))))))).bind fun y23=>(if(!(decide ((y23:Int)<0)))=true then((z0p φ n22) x17 x18 ((W ((W ((((U ((W (x19+x20)))):Int).fdiv (2 ^ (min (1:Int).toNat 64)))))+1))) x20 x21) else((z0p φ n22) x17 x18 x19 ((W ((((U ((W (x19+x20)))):Int).fdiv (2 ^ (min (1:Int).toNat 64)))))) x21))))) else none) else(z32 φ φ x19 x17 x21))
def z3c (φ:Nat) (k0 :((List Int)->Int->Int->Int->(Int->Int->Option Int)->Option (List Int))) (x58:Int) (x59 :(Int->Int->Option Int)) (x60:Int) (x61:Int) (x62 :(List Int)):Option (List Int):=(if((decide ((x60:Int)<x61))&&(decide ((x61:Int)<x58)))=true then((k0 x62 x60 x61 x58 x59).bind fun y64=>(some y64)) else(some x62))
def z3b (φ:Nat) (k0 :((List Int)->Int->Int->Int->(Int->Int->Option Int)->Option (List Int))) (x50:Int) (x51:Int) (x52 :(Int->Int->Option Int)) (x53:Int) (x54:Int) (x55:Int) (x56 :(List Int)):Option (List Int):=(if((decide ((x50:Int)<x54))&&(decide ((x54:Int)<x53)))=true then((k0 x56 x50 x54 x53 x52).bind fun y65=>(z3c φ k0 x51 x52 x53 x55 y65)) else(z3c φ k0 x51 x52 x53 x55 x56))
def z0o (φ:Nat) (k0 :((List Int)->Int->Int->Int->(Int->Int->Option Int)->Option (List Int))):Nat->Int->Int->Int->(Int->Int->Option Int)->Int->Int->Int->Int->Int->(List Int)->Option (List Int)
 | 0,_,_,_,_,_,_,_,_,_,_=>none
 | n48+1,x38,x39,x40,x41,x42,x43,x44,x45,x46,x47=>(if(decide ((x44:Int)<x45))=true then(if 0<=(1:Int) then(ck ((0:Int)<=(W (x46 -(W ((((U ((W (x44+x45)))):Int).fdiv (2 ^ (min (1:Int).toNat 64)))))))/\(W (x46 -(W ((((U ((W (x44+x45)))):Int).fdiv (2 ^ (min (1:Int).toNat 64))))))) <(x47.length:Int)) (ck ((0:Int)<=(W ((((U ((W (x44+x45)))):Int).fdiv (2 ^ (min (1:Int).toNat 64)))))/\(W ((((U ((W (x44+x45)))):Int).fdiv (2 ^ (min (1:Int).toNat 64))))) <(x47.length:Int)) ((x41 ((gt x47 ((W (x46 -(W ((((U ((W (x44+x45)))):Int).fdiv (2 ^ (min (1:Int).toNat 64)))))))))) ((gt x47 ((W ((((U ((W (x44+x45)))):Int).fdiv (2 ^ (min (1:Int).toNat 64))))))))).bind fun y49=>(if(!(decide ((y49:Int)<0)))=true then((z0o φ k0 n48) x38 x39 x40 x41 x42 x43 ((W ((W ((((U ((W (x44+x45)))):Int).fdiv (2 ^ (min (1:Int).toNat 64)))))+1))) x45 x46 x47) else((z0o φ k0 n48) x38 x39 x40 x41 x42 x43 x44 ((W ((((U ((W (x44+x45)))):Int).fdiv (2 ^ (min (1:Int).toNat 64)))))) x46 x47))))) else none) else(if((decide ((x44:Int)<x39))&&(decide ((x39:Int) <(W (x43-x44)))))=true then((z9y φ x47 x44 x39 (W (x43-x44)) x41).bind fun y66=>(z3b φ k0 x38 x40 x41 x42 x44 (W (x43-x44)) y66)) else(z3b φ k0 x38 x40 x41 x42 x44 (W (x43-x44)) x47)))
def z3a (φ:Nat) (k0 :((List Int)->Int->Int->Int->(Int->Int->Option Int)->Option (List Int))) (x28:Int) (x29:Int) (x30:Int) (x31 :(Int->Int->Option Int)) (x32:Int) (x33:Int) (x34:Int) (x35:Int) (x36 :(List Int)):Option (List Int):=(z0o φ k0 φ x28 x29 x30 x31 x32 x33 x34 x35 (W (x33-1)) x36)
def zm (φ:Nat):Nat->(List Int)->Int->Int->Int->(Int->Int->Option Int)->Option (List Int)
 | 0,_,_,_,_,_=>none
 | d+1,x1,x2,x3,x4,x5=>(if(((W (x3-x2)):Int)==1)=true then(z0s φ φ x2 x5 x3 x4 x1) else(if(((W (x4-x3)):Int)==1)=true then(z0p φ φ x3 x5 x2 x3 x1) else(if 0<=(1:Int) then(if(decide (((W ((((U ((W (x2+x4)))):Int).fdiv (2 ^ (min (1:Int).toNat 64))))):Int)<x3))=true then(z3a φ (zm φ d) x2 x3 x4 x5 ((W ((((U ((W (x2+x4)))):Int).fdiv (2 ^ (min (1:Int).toNat 64)))))) ((W ((W ((((U ((W (x2+x4)))):Int).fdiv (2 ^ (min (1:Int).toNat 64)))))+x3))) ((W ((W ((W ((((U ((W (x2+x4)))):Int).fdiv (2 ^ (min (1:Int).toNat 64)))))+x3))-x4))) ((W ((((U ((W (x2+x4)))):Int).fdiv (2 ^ (min (1:Int).toNat 64)))))) x1) else(z3a φ (zm φ d) x2 x3 x4 x5 ((W ((((U ((W (x2+x4)))):Int).fdiv (2 ^ (min (1:Int).toNat 64)))))) ((W ((W ((((U ((W (x2+x4)))):Int).fdiv (2 ^ (min (1:Int).toNat 64)))))+x3))) x2 x3 x1)) else none)))
def z1e (φ d:Nat):Msp TV:=⟨3,0,[.val 0,.val 0,.val 0,.cmp 0],fun l z=>zm φ d l z.1 z.2.1 z.2.2.1 z.2.2.2.1⟩
def z44 (φ:Nat) (k17 :(Int->(Int->Int->Option Int)->Int->(List Int)->Option (List Int))):Nat->Int->(Int->Int->Option Int)->Int->Int->Int->(List Int)->Option (List Int)
 | 0,_,_,_,_,_,_=>none
 | n24+1,x18,x19,x20,x21,x22,x23=>(if(decide ((x22:Int)<=x18))=true then((zm φ φ x23 x21 (W (x21+x20)) x22 x19).bind fun y25=>((z44 φ k17 n24) x18 x19 x20 x22 ((W (x22 +(W (2*x20))))) y25)) else(if(decide (((W (x21+x20)):Int)<x18))=true then((zm φ φ x23 x21 (W (x21+x20)) x18 x19).bind fun y26=>(k17 x18 x19 (W (x20*2)) y26)) else(k17 x18 x19 (W (x20*2)) x23)))
def z3y (φ:Nat):Nat->Int->(Int->Int->Option Int)->Int->(List Int)->Option (List Int)
 | 0,_,_,_,_=>none
 | n17+1,x13,x14,x15,x16=>(if(decide ((x15:Int)<x13))=true then(z44 φ (z3y φ n17) φ x13 x14 x15 0 (W (2*x15)) x16) else(some x16))
def z4a (φ:Nat):Nat->Int->(Int->Int->Option Int)->Int->Int->Int->(List Int)->Option (List Int)
 | 0,_,_,_,_,_,_=>none
 | n10+1,x4,x5,x6,x7,x8,x9=>(if(decide ((x8:Int)<=x4))=true then((z2o φ x9 x7 x8 x5).bind fun y11=>((z4a φ n10) x4 x5 x6 x8 (W (x8+x6)) y11)) else((z2o φ x9 x7 x4 x5).bind fun y12=>(z3y φ φ x4 x5 x6 y12)))
def z9z (φ:Nat) (x1 :(List Int)) (x2:Int) (x3 :(Int->Int->Option Int)):Option (List Int):=(z4a φ φ x2 x3 20 0 20 x1)
def z56 (φ:Nat):Msp TV:=⟨3,0,[.val 0,.cmp 0],fun l z=>z9z φ l z.1 z.2.1⟩
def z2y (φ:Nat) (x1 :(List Int)) (x2 :(Int->Int->Option Int)):Option (List Int):=((z9z φ x1 (x1.length:Int) x2).bind fun y3=>(some y3))
def z4w (φ:Nat):Msp TV:=⟨3,0,[.cmp 0],fun l z=>z2y φ l z.1⟩
def zfa (φ:Nat) (x1:Pool) (x2:z1):Option (Bool×Unit):=(ck ((0:Int)<=x2.item.place/\x2.item.place <(x1.network.places.length:Int)) (some ((((x2.ref.railway:Int) !=x2.item.other)&&(((((gt x1.network.places x2.item.place).railway:Int)==x2.ref.railway)&&(((gt x1.network.places x2.item.place).other:Int)==x2.item.other))||((((gt x1.network.places x2.item.place).railway:Int)==x2.item.other)&&(((gt x1.network.places x2.item.place).other:Int)==x2.ref.railway)))),())))
def zbj (φ:Nat):Fsp TV:=⟨[39,7],[.val 1],fun z=>zfa φ z.1 z.2.1⟩
def zcu (φ:Nat) (x1:z1) (x2:z1):Option (Int×Unit):=(some ((max2 (W (x1.item.from_-x2.item.from_)) (W (x2.item.from_-x1.item.from_))),()))
def zhr (φ:Nat):Fsp TV:=⟨[7,7],[.val 0],fun z=>zcu φ z.1 z.2.1⟩
def z0c (φ:Nat) (k15 :(Int->Int->Pool->(List z1)->(List Int)->(List (Int×Bool))->(List (Nat->Int))->(List Int)->Option ((List (Nat->Int))×Unit))):Nat->Int->Int->Int->Int->Int->Int->Pool->(List z1)->(List Int)->(List (Int×Bool))->(List (Nat->Int))->z1->(List Int)->Option ((List (Nat->Int))×Unit)
 | 0,_,_,_,_,_,_,_,_,_,_,_,_,_=>none
 | n30+1,x17,x18,x19,x20,x21,x22,x23,x24,x25,x26,x27,x28,x29=>(if(decide ((x22:Int)<x21))=true then(ck ((0:Int)<=x22/\x22 <(x25.length:Int)) (ck ((0:Int)<=(gt x25 x22)/\(gt x25 x22) <(x24.length:Int)) ((zc (default,()) (((((((cget kl_0 x26 (gt x25 x22)).getD (default:Bool))||((((gt x24 (gt x25 x22)).ref).railway:Int) !=x28.item.other))||((((gt x24 (gt x25 x22)).item).other:Int) !=x28.ref.railway))||((((gt x24 (gt x25 x22)).item).wagon:Int) !=x28.item.wagon))||((((gt x24 (gt x25 x22)).item).place:Int) !=x28.item.place))=false) (zcu φ x28 (gt x24 (gt x25 x22)))).bind fun y31=>(if(((((((cget kl_0 x26 (gt x25 x22)).getD (default:Bool))||((((gt x24 (gt x25 x22)).ref).railway:Int) !=x28.item.other))||((((gt x24 (gt x25 x22)).item).other:Int) !=x28.ref.railway))||((((gt x24 (gt x25 x22)).item).wagon:Int) !=x28.item.wagon))||((((gt x24 (gt x25 x22)).item).place:Int) !=x28.item.place))||(decide ((60:Int)<y31.1)))=true then((z0c φ k15 n30) x17 x18 x19 x20 x21 (W (x22+1)) x23 x24 x25 x26 x27 x28 x29) else(ck (((decide ((0:Int)<=x18))=true)->(0:Int)<=x18/\x18 <(x24.length:Int)) ((zc (default,()) ((decide ((0:Int)<=x18))=true) (zcu φ x28 (gt x24 x18))).bind fun y32=>((zc (default,()) ((decide ((0:Int)<=x18))=true) (zcu φ x28 (gt x24 (gt x25 x22)))).bind fun y33=>((zc (default,()) ((decide ((0:Int)<=x18))=true) (z1s φ y32.1 y33.1)).bind fun y34=>(ck (((decide ((0:Int)<=x18))=true)->(0:Int)<=x18/\x18 <(x24.length:Int)) ((zc (default,()) ((decide ((0:Int)<=x18))=true) (z7k φ ((gt x24 x18).ref) ((gt x24 (gt x25 x22)).ref))).bind fun y35=>((zc (default,()) ((decide ((0:Int)<=x18))=true) (zlk φ ([y34.1,y35.1]))).bind fun y36=>(if((decide ((0:Int)<=x18))&&(decide ((y36.1:Int)<=0)))=true then((z0c φ k15 n30) x17 x18 x19 x20 x21 (W (x22+1)) x23 x24 x25 x26 x27 x28 x29) else((z0c φ k15 n30) x17 (gt x25 x22) x19 x20 x21 (W (x22+1)) x23 x24 x25 x26 x27 x28 x29))))))))))))) else(if(decide ((0:Int)<=x18))=true then(ck (fits (x27.length +([(upd (upd (fun _=>(default:Int)) 0 x17) 1 x18)]).length) 16) (k15 x19 (W (x20+1)) x23 x24 x25 (cset kl_0 x26 x18 true) ((x27++[(upd (upd (fun _=>(default:Int)) 0 x17) 1 x18)])) x29)) else(k15 x19 (W (x20+1)) x23 x24 x25 x26 x27 x29)))
def z1i (φ:Nat):Nat->Int->Int->Pool->(List z1)->(List Int)->(List (Int×Bool))->(List (Nat->Int))->(List Int)->Option ((List (Nat->Int))×Unit)
 | 0,_,_,_,_,_,_,_,_=>none
 | n15+1,x7,x8,x9,x10,x11,x12,x13,x14=>(if(decide ((x8:Int)<x7))=true then(ck ((0:Int)<=x8/\x8 <(x14.length:Int)) (ck ((0:Int)<=(gt x14 x8)/\(gt x14 x8) <(x10.length:Int)) ((zfa φ x9 (gt x10 (gt x14 x8))).bind fun y16=>(if(!y16.1)=true then((z1i φ n15) x7 (W (x8+1)) x9 x10 x11 x12 x13 x14) else(z0c φ (z1i φ n15) φ (gt x14 x8) (-1) x7 x8 (x11.length:Int) 0 x9 x10 x11 x12 x13 (gt x10 (gt x14 x8)) x14))))) else(some (x13,())))
def zcj (φ:Nat) (x1:Pool) (x2 :(List z1)):Option ((List (Nat->Int))×Unit):=((z4t φ x1).bind fun y3=>(if((y3.1:Int) !=0)=true then(some (([]:List (Nat->Int)),())) else((zfx φ x1 x2 3).bind fun y4=>((zfx φ x1 x2 4).bind fun y5=>((z2y φ y4.1 (fun a b=>(z5g φ a b x2).bind fun r=>(some r.1))).bind fun y6=>(z1i φ φ (y6.length:Int) 0 x1 x2 y5.1 ([] :(List (Int×Bool))) ([]:List (Nat->Int)) y6))))))
def zd5 (φ:Nat):Fsp TV:=⟨[39,10],[.val 43],fun z=>zcj φ z.1 z.2.1⟩
def z14 (φ:Nat) (k10 :(Int->Int->(z6->z6->Option Int)->Int->(List z6)->Option (List z6))):Nat->Int->Int->(z6->z6->Option Int)->Int->Int->(List z6)->Option (List z6)
 | 0,_,_,_,_,_,_=>none
 | n17+1,x11,x12,x13,x14,x15,x16=>(ck (((decide ((x11:Int)<x15))=true)->(0:Int)<=x15/\x15 <(x16.length:Int)) (ck (((decide ((x11:Int)<x15))=true)->(0:Int)<=(W (x15-1))/\(W (x15-1)) <(x16.length:Int)) ((zc (0:Int) ((decide ((x11:Int)<x15))=true) (x13 (gt x16 x15) (gt x16 (W (x15-1))))).bind fun y18=>(if((decide ((x11:Int)<x15))&&(decide ((y18:Int)<0)))=true then(ck ((0:Int)<=(W (x15-1))/\(W (x15-1)) <(x16.length:Int)) (ck ((0:Int)<=x15/\x15 <(x16.length:Int)) (ck ((0:Int)<=x15/\x15 <(x16.length:Int)) (ck ((0:Int)<=(W (x15-1))/\(W (x15-1)) <(((z04 x16 x15 (gt x16 (W (x15-1))))).length:Int)) ((z14 φ k10 n17) x11 x12 x13 x14 (W (x15-1)) ((z04 ((z04 x16 x15 (gt x16 (W (x15-1))))) (W (x15-1)) (gt x16 x15)))))))) else(k10 x11 x12 x13 (W (x14+1)) x16)))))
def z13 (φ:Nat):Nat->Int->Int->(z6->z6->Option Int)->Int->(List z6)->Option (List z6)
 | 0,_,_,_,_,_=>none
 | n10+1,x5,x6,x7,x8,x9=>(if(decide ((x8:Int)<x6))=true then(z14 φ (z13 φ n10) φ x5 x6 x7 x8 x8 x9) else(some x9))
def z2m (φ:Nat) (x1 :(List z6)) (x2:Int) (x3:Int) (x4 :(z6->z6->Option Int)):Option (List z6):=(z13 φ φ x2 x3 x4 (W (x2+1)) x1)
def z1w (φ:Nat):Msp TV:=⟨165,44,[.val 0,.val 0,.cmp 44],fun l z=>z2m φ l z.1 z.2.1 z.2.2.1⟩
def z2q (φ:Nat):Nat->Int->Int->Int->Int->(List z6)->Option (List z6)
 | 0,_,_,_,_,_=>none
 | n11+1,x6,x7,x8,x9,x10=>(if(decide ((x9:Int)<x8))=true then(ck ((0:Int)<=(W (x7+x9))/\(W (x7+x9)) <(x10.length:Int)) (ck ((0:Int)<=(W (x6+x9))/\(W (x6+x9)) <(x10.length:Int)) (ck ((0:Int)<=(W (x6+x9))/\(W (x6+x9)) <(x10.length:Int)) (ck ((0:Int)<=(W (x7+x9))/\(W (x7+x9)) <(((z04 x10 (W (x6+x9)) (gt x10 (W (x7+x9))))).length:Int)) ((z2q φ n11) x6 x7 x8 (W (x9+1)) ((z04 ((z04 x10 (W (x6+x9)) (gt x10 (W (x7+x9))))) (W (x7+x9)) (gt x10 (W (x6+x9)))))))))) else(some x10))
def z1p (φ:Nat) (x1 :(List z6)) (x2:Int) (x3:Int) (x4:Int) (x5 :(z6->z6->Option Int)):Option (List z6):=(z2q φ φ x2 x3 x4 0 x1)
def z3s (φ:Nat):Msp TV:=⟨165,44,[.val 0,.val 0,.val 0,.cmp 44],fun l z=>z1p φ l z.1 z.2.1 z.2.2.1 z.2.2.2.1⟩
def z1a (φ:Nat):Nat->Int->(z6->z6->Option Int)->Int->Int->(List z6)->Option (List z6)
 | 0,_,_,_,_,_=>none
 | n11+1,x6,x7,x8,x9,x10=>(if((x8:Int) !=x9)=true then(if(decide ((x9:Int)<x8))=true then((z1p φ x10 (W (x6-x8)) x6 x9 x7).bind fun y12=>((z1a φ n11) x6 x7 (W (x8-x9)) x9 y12)) else((z1p φ x10 (W (x6-x8)) ((W ((W (x6+x9))-x8))) x8 x7).bind fun y13=>((z1a φ n11) x6 x7 x8 (W (x9-x8)) y13))) else((z1p φ x10 (W (x6-x8)) x6 x8 x7).bind fun y14=>(some y14)))
def za2 (φ:Nat) (x1 :(List z6)) (x2:Int) (x3:Int) (x4:Int) (x5 :(z6->z6->Option Int)):Option (List z6):=(z1a φ φ x3 x5 (W (x3-x2)) (W (x4-x3)) x1)
def z57 (φ:Nat):Msp TV:=⟨165,44,[.val 0,.val 0,.val 0,.cmp 44],fun l z=>za2 φ l z.1 z.2.1 z.2.2.1 z.2.2.2.1⟩
def z3e (φ:Nat):Nat->Int->Int->(List z6)->Option (List z6)
 | 0,_,_,_=>none
 | n16+1,x13,x14,x15=>(if(decide ((x14:Int) <(W (x13-1))))=true then(ck ((0:Int)<=(W (x14+1))/\(W (x14+1)) <(x15.length:Int)) (ck ((0:Int)<=x14/\x14 <(x15.length:Int)) (ck ((0:Int)<=x14/\x14 <(x15.length:Int)) (ck ((0:Int)<=(W (x14+1))/\(W (x14+1)) <(((z04 x15 x14 (gt x15 (W (x14+1))))).length:Int)) ((z3e φ n16) x13 (W (x14+1)) ((z04 ((z04 x15 x14 (gt x15 (W (x14+1))))) (W (x14+1)) (gt x15 x14)))))))) else(some x15))
def z0m (φ:Nat):Nat->Int->(z6->z6->Option Int)->Int->Int->(List z6)->Option (List z6)
 | 0,_,_,_,_,_=>none
 | n11+1,x6,x7,x8,x9,x10=>(if(decide ((x8:Int)<x9))=true then(if 0<=(1:Int) then(ck ((0:Int)<=(W ((((U ((W (x8+x9)))):Int).fdiv (2 ^ (min (1:Int).toNat 64)))))/\(W ((((U ((W (x8+x9)))):Int).fdiv (2 ^ (min (1:Int).toNat 64))))) <(x10.length:Int)) (ck ((0:Int)<=x6/\x6 <(x10.length:Int)) ((x7 (((gt x10 ((W ((((U ((W (x8+x9)))):Int).fdiv (2 ^ (min (1:Int).toNat 64))))))))) (gt x10 x6)).bind fun y12=>(if(decide ((y12:Int)<0))=true then((z0m φ n11) x6 x7 ((W ((W ((((U ((W (x8+x9)))):Int).fdiv (2 ^ (min (1:Int).toNat 64)))))+1))) x9 x10) else((z0m φ n11) x6 x7 x8 ((W ((((U ((W (x8+x9)))):Int).fdiv (2 ^ (min (1:Int).toNat 64)))))) x10))))) else none) else(z3e φ φ x8 x6 x10))
end Px
end
section
set_option maxHeartbeats 4000000
set_option maxRecDepth 100000
namespace Px
open Go Go.RowKit
def z31 (φ:Nat):Nat->Int->Int->(List z6)->Option (List z6)
 | 0,_,_,_=>none
 | n27+1,x24,x25,x26=>(if(decide ((x24:Int)<x25))=true then(ck ((0:Int)<=(W (x25-1))/\(W (x25-1)) <(x26.length:Int)) (ck ((0:Int)<=x25/\x25 <(x26.length:Int)) (ck ((0:Int)<=x25/\x25 <(x26.length:Int)) (ck ((0:Int)<=(W (x25-1))/\(W (x25-1)) <(((z04 x26 x25 (gt x26 (W (x25-1))))).length:Int)) ((z31 φ n27) x24 (W (x25-1)) ((z04 ((z04 x26 x25 (gt x26 (W (x25-1))))) (W (x25-1)) (gt x26 x25)))))))) else(some x26))
def z0r (φ:Nat):Nat->Int->(z6->z6->Option Int)->Int->Int->(List z6)->Option (List z6)
 | 0,_,_,_,_,_=>none
 | n22+1,x17,x18,x19,x20,x21=>(if(decide ((x19:Int)<x20))=true then(if 0<=(1:Int) then(ck ((0:Int)<=x17/\x17 <(x21.length:Int)) (ck ((0:Int)<=(W ((((U ((W (x19+x20)))):Int).fdiv (2 ^ (min (1:Int).toNat 64)))))/\(W ((((U ((W (x19+x20)))):Int).fdiv (2 ^ (min (1:Int).toNat 64))))) <(x21.length:Int)) ((x18 (gt x21 x17) (((gt x21 ((W ((((U ((W (x19+x20)))):Int).fdiv (2 ^ (min (1:Int).toNat 64)))))))))).bind fun y23=>(if(!(decide ((y23:Int)<0)))=true then((z0r φ n22) x17 x18 ((W ((W ((((U ((W (x19+x20)))):Int).fdiv (2 ^ (min (1:Int).toNat 64)))))+1))) x20 x21) else((z0r φ n22) x17 x18 x19 ((W ((((U ((W (x19+x20)))):Int).fdiv (2 ^ (min (1:Int).toNat 64)))))) x21))))) else none) else(z31 φ φ x19 x17 x21))
def z36 (φ:Nat) (k0 :((List z6)->Int->Int->Int->(z6->z6->Option Int)->Option (List z6))) (x58:Int) (x59 :(z6->z6->Option Int)) (x60:Int) (x61:Int) (x62 :(List z6)):Option (List z6):=(if((decide ((x60:Int)<x61))&&(decide ((x61:Int)<x58)))=true then((k0 x62 x60 x61 x58 x59).bind fun y64=>(some y64)) else(some x62))
def z3d (φ:Nat) (k0 :((List z6)->Int->Int->Int->(z6->z6->Option Int)->Option (List z6))) (x50:Int) (x51:Int) (x52 :(z6->z6->Option Int)) (x53:Int) (x54:Int) (x55:Int) (x56 :(List z6)):Option (List z6):=(if((decide ((x50:Int)<x54))&&(decide ((x54:Int)<x53)))=true then((k0 x56 x50 x54 x53 x52).bind fun y65=>(z36 φ k0 x51 x52 x53 x55 y65)) else(z36 φ k0 x51 x52 x53 x55 x56))
def z0n (φ:Nat) (k0 :((List z6)->Int->Int->Int->(z6->z6->Option Int)->Option (List z6))):Nat->Int->Int->Int->(z6->z6->Option Int)->Int->Int->Int->Int->Int->(List z6)->Option (List z6)
 | 0,_,_,_,_,_,_,_,_,_,_=>none
 | n48+1,x38,x39,x40,x41,x42,x43,x44,x45,x46,x47=>(if(decide ((x44:Int)<x45))=true then(if 0<=(1:Int) then(ck ((0:Int)<=(W (x46 -(W ((((U ((W (x44+x45)))):Int).fdiv (2 ^ (min (1:Int).toNat 64)))))))/\(W (x46 -(W ((((U ((W (x44+x45)))):Int).fdiv (2 ^ (min (1:Int).toNat 64))))))) <(x47.length:Int)) (ck ((0:Int)<=(W ((((U ((W (x44+x45)))):Int).fdiv (2 ^ (min (1:Int).toNat 64)))))/\(W ((((U ((W (x44+x45)))):Int).fdiv (2 ^ (min (1:Int).toNat 64))))) <(x47.length:Int)) ((x41 (((gt x47 ((W (x46 -(W ((((U ((W (x44+x45)))):Int).fdiv (2 ^ (min (1:Int).toNat 64))))))))))) (((gt x47 ((W ((((U ((W (x44+x45)))):Int).fdiv (2 ^ (min (1:Int).toNat 64)))))))))).bind fun y49=>(if(!(decide ((y49:Int)<0)))=true then((z0n φ k0 n48) x38 x39 x40 x41 x42 x43 ((W ((W ((((U ((W (x44+x45)))):Int).fdiv (2 ^ (min (1:Int).toNat 64)))))+1))) x45 x46 x47) else((z0n φ k0 n48) x38 x39 x40 x41 x42 x43 x44 ((W ((((U ((W (x44+x45)))):Int).fdiv (2 ^ (min (1:Int).toNat 64)))))) x46 x47))))) else none) else(if((decide ((x44:Int)<x39))&&(decide ((x39:Int) <(W (x43-x44)))))=true then((za2 φ x47 x44 x39 (W (x43-x44)) x41).bind fun y66=>(z3d φ k0 x38 x40 x41 x42 x44 (W (x43-x44)) y66)) else(z3d φ k0 x38 x40 x41 x42 x44 (W (x43-x44)) x47)))
def z38 (φ:Nat) (k0 :((List z6)->Int->Int->Int->(z6->z6->Option Int)->Option (List z6))) (x28:Int) (x29:Int) (x30:Int) (x31 :(z6->z6->Option Int)) (x32:Int) (x33:Int) (x34:Int) (x35:Int) (x36 :(List z6)):Option (List z6):=(z0n φ k0 φ x28 x29 x30 x31 x32 x33 x34 x35 (W (x33-1)) x36)
def zl (φ:Nat):Nat->(List z6)->Int->Int->Int->(z6->z6->Option Int)->Option (List z6)
 | 0,_,_,_,_,_=>none
 | d+1,x1,x2,x3,x4,x5=>(if(((W (x3-x2)):Int)==1)=true then(z0m φ φ x2 x5 x3 x4 x1) else(if(((W (x4-x3)):Int)==1)=true then(z0r φ φ x3 x5 x2 x3 x1) else(if 0<=(1:Int) then(if(decide (((W ((((U ((W (x2+x4)))):Int).fdiv (2 ^ (min (1:Int).toNat 64))))):Int)<x3))=true then(z38 φ (zl φ d) x2 x3 x4 x5 ((W ((((U ((W (x2+x4)))):Int).fdiv (2 ^ (min (1:Int).toNat 64)))))) ((W ((W ((((U ((W (x2+x4)))):Int).fdiv (2 ^ (min (1:Int).toNat 64)))))+x3))) ((W ((W ((W ((((U ((W (x2+x4)))):Int).fdiv (2 ^ (min (1:Int).toNat 64)))))+x3))-x4))) ((W ((((U ((W (x2+x4)))):Int).fdiv (2 ^ (min (1:Int).toNat 64)))))) x1) else(z38 φ (zl φ d) x2 x3 x4 x5 ((W ((((U ((W (x2+x4)))):Int).fdiv (2 ^ (min (1:Int).toNat 64)))))) ((W ((W ((((U ((W (x2+x4)))):Int).fdiv (2 ^ (min (1:Int).toNat 64)))))+x3))) x2 x3 x1)) else none)))
def z1c (φ d:Nat):Msp TV:=⟨165,44,[.val 0,.val 0,.val 0,.cmp 44],fun l z=>zl φ d l z.1 z.2.1 z.2.2.1 z.2.2.2.1⟩
def z42 (φ:Nat) (k17 :(Int->(z6->z6->Option Int)->Int->(List z6)->Option (List z6))):Nat->Int->(z6->z6->Option Int)->Int->Int->Int->(List z6)->Option (List z6)
 | 0,_,_,_,_,_,_=>none
 | n24+1,x18,x19,x20,x21,x22,x23=>(if(decide ((x22:Int)<=x18))=true then((zl φ φ x23 x21 (W (x21+x20)) x22 x19).bind fun y25=>((z42 φ k17 n24) x18 x19 x20 x22 ((W (x22 +(W (2*x20))))) y25)) else(if(decide (((W (x21+x20)):Int)<x18))=true then((zl φ φ x23 x21 (W (x21+x20)) x18 x19).bind fun y26=>(k17 x18 x19 (W (x20*2)) y26)) else(k17 x18 x19 (W (x20*2)) x23)))
def z3z (φ:Nat):Nat->Int->(z6->z6->Option Int)->Int->(List z6)->Option (List z6)
 | 0,_,_,_,_=>none
 | n17+1,x13,x14,x15,x16=>(if(decide ((x15:Int)<x13))=true then(z42 φ (z3z φ n17) φ x13 x14 x15 0 (W (2*x15)) x16) else(some x16))
def z49 (φ:Nat):Nat->Int->(z6->z6->Option Int)->Int->Int->Int->(List z6)->Option (List z6)
 | 0,_,_,_,_,_,_=>none
 | n10+1,x4,x5,x6,x7,x8,x9=>(if(decide ((x8:Int)<=x4))=true then((z2m φ x9 x7 x8 x5).bind fun y11=>((z49 φ n10) x4 x5 x6 x8 (W (x8+x6)) y11)) else((z2m φ x9 x7 x4 x5).bind fun y12=>(z3z φ φ x4 x5 x6 y12)))
def za0 (φ:Nat) (x1 :(List z6)) (x2:Int) (x3 :(z6->z6->Option Int)):Option (List z6):=(z49 φ φ x2 x3 20 0 20 x1)
def z5e (φ:Nat):Msp TV:=⟨165,44,[.val 0,.cmp 44],fun l z=>za0 φ l z.1 z.2.1⟩
def z2z (φ:Nat) (x1 :(List z6)) (x2 :(z6->z6->Option Int)):Option (List z6):=((za0 φ x1 (x1.length:Int) x2).bind fun y3=>(some y3))
def z4s (φ:Nat):Msp TV:=⟨165,44,[.cmp 44],fun l z=>z2z φ l z.1⟩
def z5i (φ:Nat) (x1:z6) (x2:z6):Option (Int×Unit):=((z1s φ x1.at_ x2.at_).bind fun y3=>((z1s φ x1.wagon x2.wagon).bind fun y4=>((z7k φ x1.deliver x2.deliver).bind fun y5=>((zlk φ ([y3.1,y4.1,y5.1])).bind fun y6=>(some (y6.1,()))))))
def za8 (φ:Nat):Fsp TV:=⟨[44,44],[.val 0],fun z=>z5i φ z.1 z.2.1⟩
def z5n (φ:Nat) (k9 :((List z1)->(List (Nat->Int))->Int->Int->(List z6)->Option ((List z6)×Unit))) (x10 :(List z1)) (x11 :(List (Nat->Int))) (x12:Int) (x13:Int) (x14 :(List z6)) (x15:z1) (x16:z1):Option ((List z6)×Unit):=(if(2:Int)≠0 then(ck (fits (x14.length +([(⟨x15.item.wagon,x15.item.place,x15.ref.railway,x16.ref.railway,W (((W (x15.item.from_+x16.item.from_)):Int).tdiv 2),max2 x15.item.code x16.item.code,x15.ref,x16.ref⟩:z6)]).length) 80) (k9 x10 x11 x12 (W (x13+1)) ((x14++[(⟨x15.item.wagon,x15.item.place,x15.ref.railway,x16.ref.railway,W (((W (x15.item.from_+x16.item.from_)):Int).tdiv 2),max2 x15.item.code x16.item.code,x15.ref,x16.ref⟩:z6)])))) else none)
def z5r (φ:Nat) (k9 :((List z1)->(List (Nat->Int))->Int->Int->(List z6)->Option ((List z6)×Unit))) (x18 :(List z1)) (x19 :(List (Nat->Int))) (x20:Int) (x21:Int) (x22 :(List z6)) (x23 :(Nat->Int)):Option ((List z6)×Unit):=(ck ((0:Int)<=(x23 ((0:Int).toNat))/\(x23 ((0:Int).toNat)) <(x18.length:Int)) (ck ((0:Int)<=(x23 ((1:Int).toNat))/\(x23 ((1:Int).toNat)) <(x18.length:Int)) (z5n φ k9 x18 x19 x20 x21 x22 (((gt x18 (x23 ((0:Int).toNat))))) (((gt x18 (x23 ((1:Int).toNat))))))))
def z9q (φ:Nat) (k9 :((List z1)->(List (Nat->Int))->Int->Int->(List z6)->Option ((List z6)×Unit))) (x18 :(List z1)) (x19 :(List (Nat->Int))) (x20:Int) (x21:Int) (x22 :(List z6)) (x23 :(Nat->Int)):Option (List (Option ((List z6)×Unit))):=(ck ((0:Int)<=(x23 ((0:Int).toNat))/\(x23 ((0:Int).toNat)) <(x18.length:Int)) (ck ((0:Int)<=(x23 ((1:Int).toNat))/\(x23 ((1:Int).toNat)) <(x18.length:Int)) (catL [(catL [(catL [(catL [(some [(z5n φ k9 x18 x19 x20 x21 x22 (((gt x18 (x23 ((0:Int).toNat))))) (((gt x18 (x23 ((1:Int).toNat))))))])])])]),(catL [(catL [(catL [(some [(z5n φ k9 x18 x19 x20 x21 x22 (((gt x18 (x23 ((0:Int).toNat))))) (((gt x18 (x23 ((1:Int).toNat))))))])])])])])))
def z4f (φ:Nat):Nat->(List z1)->(List (Nat->Int))->Int->Int->(List z6)->Option ((List z6)×Unit)
 | 0,_,_,_,_,_=>none
 | n9+1,x4,x5,x6,x7,x8=>(if(decide ((x7:Int)<x6))=true then(ck ((0:Int)<=x7/\x7 <(x5.length:Int)) (z5r φ (z4f φ n9) x4 x5 x6 x7 x8 (gt x5 x7))) else((z2z φ x8 (fun a b=>(z5i φ a b).bind fun r=>(some r.1))).bind fun y25=>(some (y25,()))))
def zc3 (φ:Nat) (x1:Pool) (x2 :(List z1)):Option ((List z6)×Unit):=((zcj φ x1 x2).bind fun y3=>(z4f φ φ x2 y3.1 (y3.1.length:Int) 0 ([]:List z6)))
def zdc (φ:Nat):Fsp TV:=⟨[39,10],[.val 45],fun z=>zc3 φ z.1 z.2.1⟩
def z1m (φ:Nat):Nat->Int->(List z6)->Int->Int->(List z1f)->Option ((List z1f)×Unit)
 | 0,_,_,_,_,_=>none
 | n10+1,x5,x6,x7,x8,x9=>(if(decide ((x8:Int)<x7))=true then(ck ((0:Int)<=x8/\x8 <(x6.length:Int)) (ck ((0:Int)<=(W ((x9.length:Int)-1))/\(W ((x9.length:Int)-1)) <(x9.length:Int)) (if(((((gt x6 x8).wagon:Int)==x5)&&(((gt x6 x8).from_:Int)==((gt x9 (W ((x9.length:Int)-1)))).railway))&&(decide (((((gt x9 (W ((x9.length:Int)-1)))).span).from_:Int) <(gt x6 x8).at_)))=true then(ck (fits (x9.length +([(⟨(gt x6 x8).to,(⟨(gt x6 x8).at_,0⟩:Span),(gt x6 x8).receive⟩:z1f)]).length) 40) ((z1m φ n10) x5 x6 x7 (W (x8+1)) ((x9++[(⟨(gt x6 x8).to,(⟨(gt x6 x8).at_,0⟩:Span),(gt x6 x8).receive⟩:z1f)])))) else((z1m φ n10) x5 x6 x7 (W (x8+1)) x9)))) else(some (x9,())))
def zcc (φ:Nat) (x1:Pool) (x2 :(List z1)) (x3:Int):Option ((List z1f)×Unit):=(ck ((0:Int)<=x3/\x3 <(x1.fleet.wagons.length:Int)) (ck ((0:Int)<=(gt x1.fleet.wagons x3).home/\(gt x1.fleet.wagons x3).home <(x1.network.places.length:Int)) ((zc3 φ x1 x2).bind fun y4=>(z1m φ φ x3 y4.1 (y4.1.length:Int) 0 ([(⟨(gt x1.network.places ((gt x1.fleet.wagons x3).home)).railway,(⟨0,0⟩:Span),(⟨0,0⟩:Ref)⟩:z1f)])))))
def zdx (φ:Nat):Fsp TV:=⟨[39,10,0],[.val 47],fun z=>zcc φ z.1 z.2.1 z.2.2.1⟩
def z6r (φ:Nat):Nat->Int->(List z1f)->Int->Option (Int×Int×Unit)
 | 0,_,_,_=>none
 | n10+1,x7,x8,x9=>(ck ((0:Int)<=x9/\x9 <(x8.length:Int)) (if(decide ((x7:Int) <((gt x8 x9).span).from_))=true then((z6r φ n10) x7 x8 (W (x9-1))) else(ck ((0:Int)<=x9/\x9 <(x8.length:Int)) (some ((gt x8 x9).railway,0,())))))
def zl8 (φ:Nat) (x1:Pool) (x2 :(List z1)) (x3:Int) (x4:Int):Option (Int×Int×Unit):=((zht φ x1 x3 x4).bind fun y5=>(if((y5.1:Int) !=0)=true then(some (0,y5.1,())) else((zcc φ x1 x2 x3).bind fun y6=>(z6r φ φ x4 y6.1 (W ((y6.1.length:Int)-1))))))
def zkf (φ:Nat):Fsp TV:=⟨[39,10,0,0],[.val 0,.val 0],fun z=>zl8 φ z.1 z.2.1 z.2.2.1 z.2.2.2.1⟩
def z3q (φ:Nat) (k23 :((List z1)->(List z1)->Int->Int->Pool->z1->(List z1)->(List (z7×Bool))->Option (Int×Int×Unit))):Nat->(List Part)->Int->Int->(List z1)->(List z1)->Int->Int->Pool->z1->(List z1)->z1->(List (z7×Bool))->Option (Int×Int×Unit)
 | 0,_,_,_,_,_,_,_,_,_,_,_,_=>none
 | n36+1,x24,x25,x26,x27,x28,x29,x30,x31,x32,x33,x34,x35=>(if(decide ((x26:Int)<x25))=true then(ck ((0:Int)<=x26/\x26 <(x24.length:Int)) ((zhv φ (gt x24 x26) x35).bind fun y37=>(if y37.1=true then((zc (default,()) ((((x34.item.kind:Int)==10)&&(decide ((0:Int)<=x26)))=true) (zd2 φ x31 x34.item)).bind fun y38=>(if((((x34.item.kind:Int)==10)&&(decide ((0:Int)<=x26)))&&((y38.1:Int)==0))=true then(ck (fits (x33.length +([x34]).length) 192) (k23 x27 x28 x29 (W (x30+1)) x31 x32 (x33++[x34]) x35)) else(k23 x27 x28 x29 (W (x30+1)) x31 x32 x33 x35))) else((z3q φ k23 n36) x24 x25 (W (x26+1)) x27 x28 x29 x30 x31 x32 x33 x34 x35)))) else((zc (default,()) ((((x34.item.kind:Int)==10)&&false)=true) (zd2 φ x31 x34.item)).bind fun y39=>(if((((x34.item.kind:Int)==10)&&false)&&((y39.1:Int)==0))=true then(ck (fits (x33.length +([x34]).length) 192) (k23 x27 x28 x29 (W (x30+1)) x31 x32 (x33++[x34]) x35)) else(k23 x27 x28 x29 (W (x30+1)) x31 x32 x33 x35))))
def z3t (φ:Nat):Nat->(List z1)->(List z1)->Int->Int->Pool->z1->(List z1)->(List (z7×Bool))->Option (Int×Int×Unit)
 | 0,_,_,_,_,_,_,_,_=>none
 | n23+1,x15,x16,x17,x18,x19,x20,x21,x22=>(if(decide ((x18:Int)<x17))=true then(ck ((0:Int)<=x18/\x18 <(x16.length:Int)) (z3q φ (z3t φ n23) φ (((gt x16 x18).item).parts) (((((gt x16 x18).item).parts).length:Int)) 0 x15 x16 x17 x18 x19 x20 x21 (gt x16 x18) x22)) else((z5l φ x21 (fun a b=>(z85 φ a b).bind fun r=>(some r.1))).bind fun y40=>(if(decide ((0:Int) <(y40.length:Int)))=true then(ck ((0:Int)<=0/\0 <(y40.length:Int)) (some ((W (16 +((gt y40 0).item).other)),0,()))) else(if((x20.item.code:Int)==2)=true then(ck ((0:Int)<=x20.item.wagon/\x20.item.wagon <(x19.fleet.wagons.length:Int)) (some ((W (16 +(gt x19.fleet.wagons x20.item.wagon).owner)),0,()))) else((zl8 φ x19 x15 x20.item.wagon x20.item.from_).bind fun y41=>(some (y41.1,y41.2.1,())))))))
def z3v (φ:Nat):Nat->(List z1)->(List Part)->Int->Int->Pool->z1->(List (z7×Bool))->Option (Int×Int×Unit)
 | 0,_,_,_,_,_,_,_=>none
 | n13+1,x6,x7,x8,x9,x10,x11,x12=>(if(decide ((x9:Int)<x8))=true then(ck ((0:Int)<=x9/\x9 <(x7.length:Int)) (if(!(gt x7 x9).fitted)=true then((zfq φ (gt x7 x9)).bind fun y14=>((z3v φ n13) x6 x7 x8 (W (x9+1)) x10 x11 (cset kl_9 x12 y14.1 true))) else((z3v φ n13) x6 x7 x8 (W (x9+1)) x10 x11 x12))) else(z3t φ φ x6 x6 (x6.length:Int) 0 x10 x11 ([]:List z1) x12))
def zh (φ:Nat) (x1:Pool) (x2 :(List z1)) (x3:z1):Option (Int×Int×Unit):=((z4t φ x1).bind fun y4=>(if((y4.1:Int) !=0)=true then(some (0,y4.1,())) else((zc (default,()) (((x3.item.kind:Int) !=9)=false) (zd2 φ x1 x3.item)).bind fun y5=>(if(((x3.item.kind:Int) !=9)||((y5.1:Int) !=0))=true then(some (0,1,())) else(z3v φ φ x2 x3.item.parts (x3.item.parts.length:Int) 0 x1 x3 ([] :(List (z7×Bool))))))))
def zcd (φ:Nat):Fsp TV:=⟨[39,10,7],[.val 0,.val 0],fun z=>zh φ z.1 z.2.1 z.2.2.1⟩
def zo0 (φ:Nat):Option (Bool×Unit):=((z8r φ 7 false).bind fun y1=>((zcg φ 3 3 60 y1.1).bind fun y2=>((z8r φ 7 true).bind fun y3=>((zcg φ 1 3 20 y3.1).bind fun y4=>((z8r φ 7 true).bind fun y5=>((zcg φ 2 5 40 y5.1).bind fun y6=>((z1r φ ([y2.1,y4.1,y6.1]) 2 7 19).bind fun y7=>(if(((y7.1.length:Int):Int) !=0)=false then((z1r φ ([y2.1,y4.1,y6.1]) 2 7 20).bind fun y8=>((z2x φ 3 true).bind fun y9=>((z0l φ y8.1 ([y9.1])).bind fun y10=>(if(!y10.1)=false then((z1r φ ([y2.1,y4.1,y6.1]) 2 7 40).bind fun y11=>((z2x φ 3 false).bind fun y12=>((z2x φ 5 false).bind fun y13=>((z0l φ y11.1 ([y12.1,y13.1])).bind fun y14=>(if(!y14.1)=false then((z1r φ ([y2.1,y4.1,y6.1]) 2 7 60).bind fun y15=>((z2x φ 5 true).bind fun y16=>((z0l φ y15.1 ([y16.1])).bind fun y17=>(if(!y17.1)=true then(some (false,())) else((z8r φ 7 true).bind fun y18=>((z01 φ ([y2.1,y4.1,y6.1]) 5 60).bind fun y19=>((z21 φ y19.1 ([y18.1])).bind fun y20=>(if(!y20.1)=false then((z01 φ ([y2.1,y4.1,y6.1]) 3 20).bind fun y21=>((z21 φ y21.1 ([y18.1])).bind fun y22=>(if(!y22.1)=false then((z01 φ ([y2.1,y4.1,y6.1]) 5 40).bind fun y23=>(if(((y23.1.length:Int):Int) !=0)=true then(some (false,())) else((z05 φ 45 2 7).bind fun y24=>(ck (fits (([y24.1]).length +([y2.1,y4.1,y6.1]).length) 192) ((z05 φ 45 3 7).bind fun y25=>(ck (fits (([y25.1]).length +([y2.1,y4.1,y6.1]).length) 192) ((zq φ ([y24.1]++[y2.1,y4.1,y6.1]) 60).bind fun y26=>((z2u φ y26.1 ([5])).bind fun y27=>(if(!y27.1)=false then((zq φ ([y24.1]++[y2.1,y4.1,y6.1]) 44).bind fun y28=>(if(((y28.1.length:Int):Int) !=0)=true then(some (false,())) else((z00 φ).bind fun y29=>(ck ((0:Int)<=0/\0 <(([y2.1,y4.1,y6.1]).length:Int)) ((zh φ y29.1 ([y2.1,y4.1,y6.1]) (gt ([y2.1,y4.1,y6.1]) 0)).bind fun y30=>((z00 φ).bind fun y31=>(ck ((0:Int)<=0/\0 <(([y2.1,y4.1,y6.1]).length:Int)) ((zh φ y31.1 ([y24.1]++[y2.1,y4.1,y6.1]) (gt ([y2.1,y4.1,y6.1]) 0)).bind fun y32=>((z00 φ).bind fun y33=>(ck ((0:Int)<=0/\0 <(([y2.1,y4.1,y6.1]).length:Int)) ((zh φ y33.1 ([y25.1]++[y2.1,y4.1,y6.1]) (gt ([y2.1,y4.1,y6.1]) 0)).bind fun y34=>(some ((((((((y30.2.1:Int)==0)&&((y32.2.1:Int)==0))&&((y34.2.1:Int)==0))&&((y30.1:Int)==18))&&((y32.1:Int)==20))&&((y34.1:Int)==y30.1)),()))))))))))))) else(some (false,()))))))))))) else(some (false,()))))) else(if true=false then((z01 φ ([y2.1,y4.1,y6.1]) 5 40).bind fun y35=>(if(((y35.1.length:Int):Int) !=0)=true then(some (false,())) else((z05 φ 45 2 7).bind fun y36=>(ck (fits (([y36.1]).length +([y2.1,y4.1,y6.1]).length) 192) ((z05 φ 45 3 7).bind fun y37=>(ck (fits (([y37.1]).length +([y2.1,y4.1,y6.1]).length) 192) ((zq φ ([y36.1]++[y2.1,y4.1,y6.1]) 60).bind fun y38=>((z2u φ y38.1 ([5])).bind fun y39=>(if(!y39.1)=false then((zq φ ([y36.1]++[y2.1,y4.1,y6.1]) 44).bind fun y40=>(if(((y40.1.length:Int):Int) !=0)=true then(some (false,())) else((z00 φ).bind fun y41=>(ck ((0:Int)<=0/\0 <(([y2.1,y4.1,y6.1]).length:Int)) ((zh φ y41.1 ([y2.1,y4.1,y6.1]) (gt ([y2.1,y4.1,y6.1]) 0)).bind fun y42=>((z00 φ).bind fun y43=>(ck ((0:Int)<=0/\0 <(([y2.1,y4.1,y6.1]).length:Int)) ((zh φ y43.1 ([y36.1]++[y2.1,y4.1,y6.1]) (gt ([y2.1,y4.1,y6.1]) 0)).bind fun y44=>((z00 φ).bind fun y45=>(ck ((0:Int)<=0/\0 <(([y2.1,y4.1,y6.1]).length:Int)) ((zh φ y45.1 ([y37.1]++[y2.1,y4.1,y6.1]) (gt ([y2.1,y4.1,y6.1]) 0)).bind fun y46=>(some ((((((((y42.2.1:Int)==0)&&((y44.2.1:Int)==0))&&((y46.2.1:Int)==0))&&((y42.1:Int)==18))&&((y44.1:Int)==20))&&((y46.1:Int)==y42.1)),()))))))))))))) else(some (false,()))))))))))) else(some (false,()))))))))))) else(some (false,()))))))) else(if true=false then((z1r φ ([y2.1,y4.1,y6.1]) 2 7 60).bind fun y47=>((z2x φ 5 true).bind fun y48=>((z0l φ y47.1 ([y48.1])).bind fun y49=>(if(!y49.1)=true then(some (false,())) else((z8r φ 7 true).bind fun y50=>((z01 φ ([y2.1,y4.1,y6.1]) 5 60).bind fun y51=>((z21 φ y51.1 ([y50.1])).bind fun y52=>(if(!y52.1)=false then((z01 φ ([y2.1,y4.1,y6.1]) 3 20).bind fun y53=>((z21 φ y53.1 ([y50.1])).bind fun y54=>(if(!y54.1)=false then((z01 φ ([y2.1,y4.1,y6.1]) 5 40).bind fun y55=>(if(((y55.1.length:Int):Int) !=0)=true then(some (false,())) else((z05 φ 45 2 7).bind fun y56=>(ck (fits (([y56.1]).length +([y2.1,y4.1,y6.1]).length) 192) ((z05 φ 45 3 7).bind fun y57=>(ck (fits (([y57.1]).length +([y2.1,y4.1,y6.1]).length) 192) ((zq φ ([y56.1]++[y2.1,y4.1,y6.1]) 60).bind fun y58=>((z2u φ y58.1 ([5])).bind fun y59=>(if(!y59.1)=false then((zq φ ([y56.1]++[y2.1,y4.1,y6.1]) 44).bind fun y60=>(if(((y60.1.length:Int):Int) !=0)=true then(some (false,())) else((z00 φ).bind fun y61=>(ck ((0:Int)<=0/\0 <(([y2.1,y4.1,y6.1]).length:Int)) ((zh φ y61.1 ([y2.1,y4.1,y6.1]) (gt ([y2.1,y4.1,y6.1]) 0)).bind fun y62=>((z00 φ).bind fun y63=>(ck ((0:Int)<=0/\0 <(([y2.1,y4.1,y6.1]).length:Int)) ((zh φ y63.1 ([y56.1]++[y2.1,y4.1,y6.1]) (gt ([y2.1,y4.1,y6.1]) 0)).bind fun y64=>((z00 φ).bind fun y65=>(ck ((0:Int)<=0/\0 <(([y2.1,y4.1,y6.1]).length:Int)) ((zh φ y65.1 ([y57.1]++[y2.1,y4.1,y6.1]) (gt ([y2.1,y4.1,y6.1]) 0)).bind fun y66=>(some ((((((((y62.2.1:Int)==0)&&((y64.2.1:Int)==0))&&((y66.2.1:Int)==0))&&((y62.1:Int)==18))&&((y64.1:Int)==20))&&((y66.1:Int)==y62.1)),()))))))))))))) else(some (false,()))))))))))) else(some (false,()))))) else(if true=false then((z01 φ ([y2.1,y4.1,y6.1]) 5 40).bind fun y67=>(if(((y67.1.length:Int):Int) !=0)=true then(some (false,())) else((z05 φ 45 2 7).bind fun y68=>(ck (fits (([y68.1]).length +([y2.1,y4.1,y6.1]).length) 192) ((z05 φ 45 3 7).bind fun y69=>(ck (fits (([y69.1]).length +([y2.1,y4.1,y6.1]).length) 192) ((zq φ ([y68.1]++[y2.1,y4.1,y6.1]) 60).bind fun y70=>((z2u φ y70.1 ([5])).bind fun y71=>(if(!y71.1)=false then((zq φ ([y68.1]++[y2.1,y4.1,y6.1]) 44).bind fun y72=>(if(((y72.1.length:Int):Int) !=0)=true then(some (false,())) else((z00 φ).bind fun y73=>(ck ((0:Int)<=0/\0 <(([y2.1,y4.1,y6.1]).length:Int)) ((zh φ y73.1 ([y2.1,y4.1,y6.1]) (gt ([y2.1,y4.1,y6.1]) 0)).bind fun y74=>((z00 φ).bind fun y75=>(ck ((0:Int)<=0/\0 <(([y2.1,y4.1,y6.1]).length:Int)) ((zh φ y75.1 ([y68.1]++[y2.1,y4.1,y6.1]) (gt ([y2.1,y4.1,y6.1]) 0)).bind fun y76=>((z00 φ).bind fun y77=>(ck ((0:Int)<=0/\0 <(([y2.1,y4.1,y6.1]).length:Int)) ((zh φ y77.1 ([y69.1]++[y2.1,y4.1,y6.1]) (gt ([y2.1,y4.1,y6.1]) 0)).bind fun y78=>(some ((((((((y74.2.1:Int)==0)&&((y76.2.1:Int)==0))&&((y78.2.1:Int)==0))&&((y74.1:Int)==18))&&((y76.1:Int)==20))&&((y78.1:Int)==y74.1)),()))))))))))))) else(some (false,()))))))))))) else(some (false,()))))))))))) else(some (false,()))))))) else(if true=false then((z1r φ ([y2.1,y4.1,y6.1]) 2 7 40).bind fun y79=>((z2x φ 3 false).bind fun y80=>((z2x φ 5 false).bind fun y81=>((z0l φ y79.1 ([y80.1,y81.1])).bind fun y82=>(if(!y82.1)=false then((z1r φ ([y2.1,y4.1,y6.1]) 2 7 60).bind fun y83=>((z2x φ 5 true).bind fun y84=>((z0l φ y83.1 ([y84.1])).bind fun y85=>(if(!y85.1)=true then(some (false,())) else((z8r φ 7 true).bind fun y86=>((z01 φ ([y2.1,y4.1,y6.1]) 5 60).bind fun y87=>((z21 φ y87.1 ([y86.1])).bind fun y88=>(if(!y88.1)=false then((z01 φ ([y2.1,y4.1,y6.1]) 3 20).bind fun y89=>((z21 φ y89.1 ([y86.1])).bind fun y90=>(if(!y90.1)=false then((z01 φ ([y2.1,y4.1,y6.1]) 5 40).bind fun y91=>(if(((y91.1.length:Int):Int) !=0)=true then(some (false,())) else((z05 φ 45 2 7).bind fun y92=>(ck (fits (([y92.1]).length +([y2.1,y4.1,y6.1]).length) 192) ((z05 φ 45 3 7).bind fun y93=>(ck (fits (([y93.1]).length +([y2.1,y4.1,y6.1]).length) 192) ((zq φ ([y92.1]++[y2.1,y4.1,y6.1]) 60).bind fun y94=>((z2u φ y94.1 ([5])).bind fun y95=>(if(!y95.1)=false then((zq φ ([y92.1]++[y2.1,y4.1,y6.1]) 44).bind fun y96=>(if(((y96.1.length:Int):Int) !=0)=true then(some (false,())) else((z00 φ).bind fun y97=>(ck ((0:Int)<=0/\0 <(([y2.1,y4.1,y6.1]).length:Int)) ((zh φ y97.1 ([y2.1,y4.1,y6.1]) (gt ([y2.1,y4.1,y6.1]) 0)).bind fun y98=>((z00 φ).bind fun y99=>(ck ((0:Int)<=0/\0 <(([y2.1,y4.1,y6.1]).length:Int)) ((zh φ y99.1 ([y92.1]++[y2.1,y4.1,y6.1]) (gt ([y2.1,y4.1,y6.1]) 0)).bind fun y100=>((z00 φ).bind fun y101=>(ck ((0:Int)<=0/\0 <(([y2.1,y4.1,y6.1]).length:Int)) ((zh φ y101.1 ([y93.1]++[y2.1,y4.1,y6.1]) (gt ([y2.1,y4.1,y6.1]) 0)).bind fun y102=>(some ((((((((y98.2.1:Int)==0)&&((y100.2.1:Int)==0))&&((y102.2.1:Int)==0))&&((y98.1:Int)==18))&&((y100.1:Int)==20))&&((y102.1:Int)==y98.1)),()))))))))))))) else(some (false,()))))))))))) else(some (false,()))))) else(if true=false then((z01 φ ([y2.1,y4.1,y6.1]) 5 40).bind fun y103=>(if(((y103.1.length:Int):Int) !=0)=true then(some (false,())) else((z05 φ 45 2 7).bind fun y104=>(ck (fits (([y104.1]).length +([y2.1,y4.1,y6.1]).length) 192) ((z05 φ 45 3 7).bind fun y105=>(ck (fits (([y105.1]).length +([y2.1,y4.1,y6.1]).length) 192) ((zq φ ([y104.1]++[y2.1,y4.1,y6.1]) 60).bind fun y106=>((z2u φ y106.1 ([5])).bind fun y107=>(if(!y107.1)=false then((zq φ ([y104.1]++[y2.1,y4.1,y6.1]) 44).bind fun y108=>(if(((y108.1.length:Int):Int) !=0)=true then(some (false,())) else((z00 φ).bind fun y109=>(ck ((0:Int)<=0/\0 <(([y2.1,y4.1,y6.1]).length:Int)) ((zh φ y109.1 ([y2.1,y4.1,y6.1]) (gt ([y2.1,y4.1,y6.1]) 0)).bind fun y110=>((z00 φ).bind fun y111=>(ck ((0:Int)<=0/\0 <(([y2.1,y4.1,y6.1]).length:Int)) ((zh φ y111.1 ([y104.1]++[y2.1,y4.1,y6.1]) (gt ([y2.1,y4.1,y6.1]) 0)).bind fun y112=>((z00 φ).bind fun y113=>(ck ((0:Int)<=0/\0 <(([y2.1,y4.1,y6.1]).length:Int)) ((zh φ y113.1 ([y105.1]++[y2.1,y4.1,y6.1]) (gt ([y2.1,y4.1,y6.1]) 0)).bind fun y114=>(some ((((((((y110.2.1:Int)==0)&&((y112.2.1:Int)==0))&&((y114.2.1:Int)==0))&&((y110.1:Int)==18))&&((y112.1:Int)==20))&&((y114.1:Int)==y110.1)),()))))))))))))) else(some (false,()))))))))))) else(some (false,()))))))))))) else(some (false,()))))))) else(if true=false then((z1r φ ([y2.1,y4.1,y6.1]) 2 7 60).bind fun y115=>((z2x φ 5 true).bind fun y116=>((z0l φ y115.1 ([y116.1])).bind fun y117=>(if(!y117.1)=true then(some (false,())) else((z8r φ 7 true).bind fun y118=>((z01 φ ([y2.1,y4.1,y6.1]) 5 60).bind fun y119=>((z21 φ y119.1 ([y118.1])).bind fun y120=>(if(!y120.1)=false then((z01 φ ([y2.1,y4.1,y6.1]) 3 20).bind fun y121=>((z21 φ y121.1 ([y118.1])).bind fun y122=>(if(!y122.1)=false then((z01 φ ([y2.1,y4.1,y6.1]) 5 40).bind fun y123=>(if(((y123.1.length:Int):Int) !=0)=true then(some (false,())) else((z05 φ 45 2 7).bind fun y124=>(ck (fits (([y124.1]).length +([y2.1,y4.1,y6.1]).length) 192) ((z05 φ 45 3 7).bind fun y125=>(ck (fits (([y125.1]).length +([y2.1,y4.1,y6.1]).length) 192) ((zq φ ([y124.1]++[y2.1,y4.1,y6.1]) 60).bind fun y126=>((z2u φ y126.1 ([5])).bind fun y127=>(if(!y127.1)=false then((zq φ ([y124.1]++[y2.1,y4.1,y6.1]) 44).bind fun y128=>(if(((y128.1.length:Int):Int) !=0)=true then(some (false,())) else((z00 φ).bind fun y129=>(ck ((0:Int)<=0/\0 <(([y2.1,y4.1,y6.1]).length:Int)) ((zh φ y129.1 ([y2.1,y4.1,y6.1]) (gt ([y2.1,y4.1,y6.1]) 0)).bind fun y130=>((z00 φ).bind fun y131=>(ck ((0:Int)<=0/\0 <(([y2.1,y4.1,y6.1]).length:Int)) ((zh φ y131.1 ([y124.1]++[y2.1,y4.1,y6.1]) (gt ([y2.1,y4.1,y6.1]) 0)).bind fun y132=>((z00 φ).bind fun y133=>(ck ((0:Int)<=0/\0 <(([y2.1,y4.1,y6.1]).length:Int)) ((zh φ y133.1 ([y125.1]++[y2.1,y4.1,y6.1]) (gt ([y2.1,y4.1,y6.1]) 0)).bind fun y134=>(some ((((((((y130.2.1:Int)==0)&&((y132.2.1:Int)==0))&&((y134.2.1:Int)==0))&&((y130.1:Int)==18))&&((y132.1:Int)==20))&&((y134.1:Int)==y130.1)),()))))))))))))) else(some (false,()))))))))))) else(some (false,()))))) else(if true=false then((z01 φ ([y2.1,y4.1,y6.1]) 5 40).bind fun y135=>(if(((y135.1.length:Int):Int) !=0)=true then(some (false,())) else((z05 φ 45 2 7).bind fun y136=>(ck (fits (([y136.1]).length +([y2.1,y4.1,y6.1]).length) 192) ((z05 φ 45 3 7).bind fun y137=>(ck (fits (([y137.1]).length +([y2.1,y4.1,y6.1]).length) 192) ((zq φ ([y136.1]++[y2.1,y4.1,y6.1]) 60).bind fun y138=>((z2u φ y138.1 ([5])).bind fun y139=>(if(!y139.1)=false then((zq φ ([y136.1]++[y2.1,y4.1,y6.1]) 44).bind fun y140=>(if(((y140.1.length:Int):Int) !=0)=true then(some (false,())) else((z00 φ).bind fun y141=>(ck ((0:Int)<=0/\0 <(([y2.1,y4.1,y6.1]).length:Int)) ((zh φ y141.1 ([y2.1,y4.1,y6.1]) (gt ([y2.1,y4.1,y6.1]) 0)).bind fun y142=>((z00 φ).bind fun y143=>(ck ((0:Int)<=0/\0 <(([y2.1,y4.1,y6.1]).length:Int)) ((zh φ y143.1 ([y136.1]++[y2.1,y4.1,y6.1]) (gt ([y2.1,y4.1,y6.1]) 0)).bind fun y144=>((z00 φ).bind fun y145=>(ck ((0:Int)<=0/\0 <(([y2.1,y4.1,y6.1]).length:Int)) ((zh φ y145.1 ([y137.1]++[y2.1,y4.1,y6.1]) (gt ([y2.1,y4.1,y6.1]) 0)).bind fun y146=>(some ((((((((y142.2.1:Int)==0)&&((y144.2.1:Int)==0))&&((y146.2.1:Int)==0))&&((y142.1:Int)==18))&&((y144.1:Int)==20))&&((y146.1:Int)==y142.1)),()))))))))))))) else(some (false,()))))))))))) else(some (false,()))))))))))) else(some (false,()))))))))))))
def zn0 (φ:Nat):Fsp TV:=⟨[],[.val 1],fun z=>zo0 φ⟩
def za3 (φ:Nat):Nat->(List z1)->Int->Option (Bool×Unit)
 | 0,_,_=>none
 | n4+1,x2,x3=>(if(decide ((x3:Int) <(x2.length:Int)))=true then(ck ((0:Int)<=x3/\x3 <(x2.length:Int)) (if(decide ((20:Int) <((((gt x2 x3).item).parts).length:Int)))=true then(some (false,())) else((za3 φ n4) x2 (W (x3+1))))) else(some (true,())))
def zpo (φ:Nat) (x1 :(List z1)):Option (Bool×Unit):=(if(decide ((30:Int) <(x1.length:Int)))=true then(some (false,())) else(za3 φ φ x1 0))
def zp6 (φ:Nat):Fsp TV:=⟨[10],[.val 1],fun z=>zpo φ z.1⟩
def zhh (φ:Nat) (x1:Ref) (x2:Ref):Option (Bool×Unit):=(some (((decide ((x1.railway:Int)<x2.railway))||(((x1.railway:Int)==x2.railway)&&(decide ((x1.no:Int)<x2.no)))),()))
def zhn (φ:Nat):Fsp TV:=⟨[3,3],[.val 1],fun z=>zhh φ z.1 z.2.1⟩
def z1v (φ:Nat):Nat->Int->Pool->Option (Bool×Unit)
 | 0,_,_=>none
 | n4+1,x2,x3=>(if(decide ((x2:Int) <(x3.railways.length:Int)))=true then(ck ((0:Int)<=x2/\x2 <(x3.railways.length:Int)) (if(decide ((100:Int) <((((gt x3.railways x2).calendar).holidays).length:Int)))=true then(some (false,())) else((z1v φ n4) (W (x2+1)) x3))) else(some (true,())))
def zao (φ:Nat) (x1:Pool):Option (Bool×Unit):=(if(((((((decide ((16:Int) <(x1.network.places.length:Int)))||(decide ((40:Int) <(x1.network.edges.length:Int))))||(decide ((8:Int) <(x1.fleet.wagons.length:Int))))||(decide ((8:Int) <(x1.readers.length:Int))))||(decide ((100:Int) <(x1.fleet.swaps.length:Int))))||(decide ((100:Int) <(x1.fleet.washes.length:Int))))||(decide ((17:Int) <(x1.railways.length:Int))))=true then(some (false,())) else(z1v φ φ 0 x1))
def zbl (φ:Nat):Fsp TV:=⟨[39],[.val 1],fun z=>zao φ z.1⟩
def z30 (φ:Nat) (x1:Int) (x2:Int) (x3:Int):Option (Bool×Unit):=(some (((decide ((x2:Int)<=x1))&&(decide ((x1:Int)<=x3))),()))
def zax (φ:Nat):Fsp TV:=⟨[0,0,0],[.val 1],fun z=>z30 φ z.1 z.2.1 z.2.2.1⟩
def zjj (φ:Nat) (x1:z8j):Option (Bool×Unit):=((z30 φ x1.kind 1 5).bind fun y2=>((zc (default,()) ((!y2.1)=false) (z30 φ x1.railway 0 15)).bind fun y3=>(if((!y2.1)||(!y3.1))=true then(some (false,())) else(if((x1.kind:Int)==3)=true then((z30 φ x1.other 0 15).bind fun y4=>(some ((y4.1&&((x1.other:Int) !=x1.railway)),()))) else(some (((x1.other:Int)==(-1)),()))))))
def zjb (φ:Nat):Fsp TV:=⟨[15],[.val 1],fun z=>zjj φ z.1⟩
def znt (φ:Nat) (x1:Edge) (x2:Int):Option (Bool×Unit):=((z30 φ x1.a 0 (W (x2-1))).bind fun y3=>((zc (default,()) (y3.1=true) (z30 φ x1.b 0 (W (x2-1)))).bind fun y4=>((zc (default,()) (((y3.1&&y4.1)&&((x1.a:Int) !=x1.b))=true) (z30 φ x1.railway 0 15)).bind fun y5=>((zc (default,()) ((((y3.1&&y4.1)&&((x1.a:Int) !=x1.b))&&y5.1)=true) (z30 φ x1.minutes 1 100000)).bind fun y6=>((zc (default,()) (((((y3.1&&y4.1)&&((x1.a:Int) !=x1.b))&&y5.1)&&y6.1)=true) (z30 φ x1.km 0 10000)).bind fun y7=>(some ((((((y3.1&&y4.1)&&((x1.a:Int) !=x1.b))&&y5.1)&&y6.1)&&y7.1),())))))))
def zm9 (φ:Nat):Fsp TV:=⟨[17,0],[.val 1],fun z=>znt φ z.1 z.2.1⟩
def z68 (φ:Nat):Nat->Int->z8x->Option (Int×Unit)
 | 0,_,_=>none
 | n8+1,x6,x7=>(if(decide ((x6:Int) <(x7.edges.length:Int)))=true then(ck ((0:Int)<=x6/\x6 <(x7.edges.length:Int)) ((znt φ (gt x7.edges x6) (x7.places.length:Int)).bind fun y9=>(if(!y9.1)=true then(some (1,())) else((z68 φ n8) (W (x6+1)) x7)))) else(some (0,())))
def z7i (φ:Nat):Nat->Int->z8x->Option (Int×Unit)
 | 0,_,_=>none
 | n4+1,x2,x3=>(if(decide ((x2:Int) <(x3.places.length:Int)))=true then(ck ((0:Int)<=x2/\x2 <(x3.places.length:Int)) ((zjj φ (gt x3.places x2)).bind fun y5=>(if(!y5.1)=true then(some (1,())) else((z7i φ n4) (W (x2+1)) x3)))) else(z68 φ φ 0 x3))
def zkl (φ:Nat) (x1:z8x):Option (Int×Unit):=(if((decide ((512:Int) <(x1.places.length:Int)))||(decide ((2048:Int) <(x1.edges.length:Int))))=true then(some (2,())) else(z7i φ φ 0 x1))
def zkb (φ:Nat):Fsp TV:=⟨[19],[.val 0],fun z=>zkl φ z.1⟩
def zo (φ:Nat) (x1:Int) (x2:Int) (x3:Int):Option (Bool×Unit):=(some (((decide ((x2:Int)<=x1))&&(decide ((x1:Int)<=x3))),()))
def z64 (φ:Nat):Fsp TV:=⟨[0,0,0],[.val 1],fun z=>zo φ z.1 z.2.1 z.2.2.1⟩
def zfc (φ:Nat) (x1:z1k):Option (Bool×Unit):=((zo φ x1.load 0 1000000).bind fun y2=>((zc (default,()) (y2.1=true) (zo φ x1.tare 0 1000000)).bind fun y3=>((zc (default,()) ((y2.1&&y3.1)=true) (zo φ x1.length 0 1000000)).bind fun y4=>((zc (default,()) (((y2.1&&y3.1)&&y4.1)=true) (zo φ x1.brake 0 1000000)).bind fun y5=>((zc (default,()) ((((y2.1&&y3.1)&&y4.1)&&y5.1)=true) (zo φ x1.gauge 0 7)).bind fun y6=>((zc (default,()) (((((y2.1&&y3.1)&&y4.1)&&y5.1)&&y6.1)=true) (zo φ x1.life 1 1073741824)).bind fun y7=>((zc (default,()) ((((((y2.1&&y3.1)&&y4.1)&&y5.1)&&y6.1)&&y7.1)=true) (zo φ x1.floor 0 100)).bind fun y8=>(some (((((((y2.1&&y3.1)&&y4.1)&&y5.1)&&y6.1)&&y7.1)&&y8.1),())))))))))
def zbn (φ:Nat):Fsp TV:=⟨[21],[.val 1],fun z=>zfc φ z.1⟩
def ze1 (φ:Nat) (x1:zoa) (x2:Int):Option (Bool×Unit):=((zo φ x1.type_ 0 (W (x2-1))).bind fun y3=>((zc (default,()) (y3.1=true) (zo φ x1.owner 0 63)).bind fun y4=>((zc (default,()) ((y3.1&&y4.1)=true) (zo φ x1.home 0 511)).bind fun y5=>((zc (default,()) (((y3.1&&y4.1)&&y5.1)=true) (zo φ x1.built 0 1073741824)).bind fun y6=>((zc (default,()) ((((y3.1&&y4.1)&&y5.1)&&y6.1)=true) (zo φ x1.worth 0 1099511627776)).bind fun y7=>(some (((((y3.1&&y4.1)&&y5.1)&&y6.1)&&y7.1),())))))))
def zaa (φ:Nat):Fsp TV:=⟨[23,0],[.val 1],fun z=>ze1 φ z.1 z.2.1⟩
def z6x (φ:Nat):Nat->(List Wash)->Int->(List Bool)->Option (Int×Unit)
 | 0,_,_,_=>none
 | n5+1,x2,x3,x4=>(if(decide ((x3:Int) <(x2.length:Int)))=true then(ck ((0:Int)<=x3/\x3 <(x2.length:Int)) ((zo φ ((gt x2 x3).from_) 0 63).bind fun y6=>((zc (default,()) ((!y6.1)=false) (zo φ ((gt x2 x3).to) 0 63)).bind fun y7=>((zc (default,()) ((((!y6.1)||(!y7.1))||(((gt x2 x3).from_:Int)==(gt x2 x3).to))=false) (zo φ ((gt x2 x3).minutes) 0 100000)).bind fun y8=>(if((((!y6.1)||(!y7.1))||(((gt x2 x3).from_:Int)==(gt x2 x3).to))||(!y8.1))=true then(some (1,())) else(ck ((0:Int)<=(W ((W (64 *(gt x2 x3).from_)) +(gt x2 x3).to))/\(W ((W (64 *(gt x2 x3).from_)) +(gt x2 x3).to)) <(x4.length:Int)) (if(gt x4 ((W ((W (64 *(gt x2 x3).from_)) +(gt x2 x3).to))))=true then(some (1,())) else(ck ((0:Int)<=(W ((W (64 *(gt x2 x3).from_)) +(gt x2 x3).to))/\(W ((W (64 *(gt x2 x3).from_)) +(gt x2 x3).to)) <(x4.length:Int)) ((z6x φ n5) x2 (W (x3+1)) ((z04 x4 ((W ((W (64 *(gt x2 x3).from_)) +(gt x2 x3).to))) true))))))))))) else(some (0,())))
def zcv (φ:Nat) (x1 :(List Wash)):Option (Int×Unit):=(ck (zry 4096 1) (z6x φ φ x1 0 (List.replicate (4096:Int).toNat (default:Bool))))
def zhs (φ:Nat):Fsp TV:=⟨[28],[.val 0],fun z=>zcv φ z.1⟩
def z4q (φ:Nat):Nat->Int->zdv->Option (Int×Unit)
 | 0,_,_=>none
 | n12+1,x10,x11=>(if(decide ((x10:Int) <(x11.swaps.length:Int)))=true then(ck ((0:Int)<=x10/\x10 <(x11.swaps.length:Int)) ((zo φ ((gt x11.swaps x10).wanted) 0 (W ((x11.types.length:Int)-1))).bind fun y13=>((zc (default,()) ((!y13.1)=false) (zo φ ((gt x11.swaps x10).given) 0 (W ((x11.types.length:Int)-1)))).bind fun y14=>((zc (default,()) ((((!y13.1)||(!y14.1))||(((gt x11.swaps x10).wanted:Int)==(gt x11.swaps x10).given))=false) (zo φ ((gt x11.swaps x10).cost) 0 1000000000)).bind fun y15=>(if((((!y13.1)||(!y14.1))||(((gt x11.swaps x10).wanted:Int)==(gt x11.swaps x10).given))||(!y15.1))=true then(some (1,())) else((z4q φ n12) (W (x10+1)) x11)))))) else((zcv φ x11.washes).bind fun y16=>(some (y16.1,()))))
def z5x (φ:Nat):Nat->Int->zdv->Option (Int×Unit)
 | 0,_,_=>none
 | n8+1,x6,x7=>(if(decide ((x6:Int) <(x7.wagons.length:Int)))=true then(ck ((0:Int)<=x6/\x6 <(x7.wagons.length:Int)) ((ze1 φ (gt x7.wagons x6) (x7.types.length:Int)).bind fun y9=>(if(!y9.1)=true then(some (1,())) else((z5x φ n8) (W (x6+1)) x7)))) else(z4q φ φ 0 x7))
def z7e (φ:Nat):Nat->Int->zdv->Option (Int×Unit)
 | 0,_,_=>none
 | n4+1,x2,x3=>(if(decide ((x2:Int) <(x3.types.length:Int)))=true then(ck ((0:Int)<=x2/\x2 <(x3.types.length:Int)) ((zfc φ (gt x3.types x2)).bind fun y5=>(if(!y5.1)=true then(some (1,())) else((z7e φ n4) (W (x2+1)) x3)))) else(z5x φ φ 0 x3))
def ziw (φ:Nat) (x1:zdv):Option (Int×Unit):=(if((((decide ((32:Int) <(x1.types.length:Int)))||(decide ((4096:Int) <(x1.wagons.length:Int))))||(decide ((1024:Int) <(x1.swaps.length:Int))))||(decide ((4096:Int) <(x1.washes.length:Int))))=true then(some (2,())) else(z7e φ φ 0 x1))
def zkt (φ:Nat):Fsp TV:=⟨[29],[.val 0],fun z=>ziw φ z.1⟩
def z6a (φ:Nat):Nat->Int->Int->Pool->Option (Bool×Unit)
 | 0,_,_,_=>none
 | n15+1,x12,x13,x14=>(if(decide ((x13:Int) <(x14.fleet.wagons.length:Int)))=true then(ck ((0:Int)<=x13/\x13 <(x14.fleet.wagons.length:Int)) (if(decide ((x12:Int)<=(gt x14.fleet.wagons x13).home))=true then(some (false,())) else((z6a φ n15) x12 (W (x13+1)) x14))) else(some (true,())))
def z6f (φ:Nat):Nat->Int->Int->Pool->Option (Bool×Unit)
 | 0,_,_,_=>none
 | n10+1,x7,x8,x9=>(if(decide ((x8:Int) <(x9.shippers.length:Int)))=true then(ck ((0:Int)<=x8/\x8 <(x9.shippers.length:Int)) ((zo φ ((gt x9.shippers x8).place) 0 (W (x7-1))).bind fun y11=>(ck (((!y11.1)=false)->(0:Int)<=x8/\x8 <(x9.shippers.length:Int)) (ck (((!y11.1)=false)->(0:Int)<=(gt x9.shippers x8).place/\(gt x9.shippers x8).place <(x9.network.places.length:Int)) (if((!y11.1)||(((gt x9.network.places ((gt x9.shippers x8).place)).kind:Int) !=4))=true then(some (false,())) else((z6f φ n10) x7 (W (x8+1)) x9)))))) else(z6a φ φ x7 0 x9))
def z8d (φ:Nat):Nat->Int->Int->Pool->Option (Bool×Unit)
 | 0,_,_,_=>none
 | n5+1,x2,x3,x4=>(if(decide ((x3:Int) <(x4.readers.length:Int)))=true then(ck ((0:Int)<=x3/\x3 <(x4.readers.length:Int)) ((zo φ ((gt x4.readers x3).place) 0 (W (x2-1))).bind fun y6=>(if((((!y6.1)||(decide (((gt x4.readers x3).low:Int) <(-1000))))||(decide (((gt x4.readers x3).high:Int) <(gt x4.readers x3).low)))||(decide ((1000:Int) <(gt x4.readers x3).high)))=true then(some (false,())) else((z8d φ n5) x2 (W (x3+1)) x4)))) else(z6f φ φ x2 0 x4))
def znu (φ:Nat) (x1:Pool):Option (Bool×Unit):=(z8d φ φ (x1.network.places.length:Int) 0 x1)
def zmn (φ:Nat):Fsp TV:=⟨[39],[.val 1],fun z=>znu φ z.1⟩
def z65 (φ:Nat):Nat->Int->Int->Pool->Option (Bool×Unit)
 | 0,_,_,_=>none
 | n9+1,x6,x7,x8=>(if(decide ((x7:Int) <(x8.network.edges.length:Int)))=true then(ck ((0:Int)<=x7/\x7 <(x8.network.edges.length:Int)) (if(decide ((x6:Int)<=(gt x8.network.edges x7).railway))=true then(some (false,())) else((z65 φ n9) x6 (W (x7+1)) x8))) else(some (true,())))
def z7l (φ:Nat):Nat->Int->Int->Pool->Option (Bool×Unit)
 | 0,_,_,_=>none
 | n5+1,x2,x3,x4=>(if(decide ((x3:Int) <(x4.network.places.length:Int)))=true then(ck ((0:Int)<=x3/\x3 <(x4.network.places.length:Int)) (if((decide ((x2:Int)<=(gt x4.network.places x3).railway))||(decide ((x2:Int)<=(gt x4.network.places x3).other)))=true then(some (false,())) else((z7l φ n5) x2 (W (x3+1)) x4))) else(z65 φ φ x2 0 x4))
def zkd (φ:Nat) (x1:Pool):Option (Bool×Unit):=(z7l φ φ (x1.railways.length:Int) 0 x1)
def zlh (φ:Nat):Fsp TV:=⟨[39],[.val 1],fun z=>zkd φ z.1⟩
def z7m (φ:Nat):Nat->Int->z6j->Option (Int×Unit)
 | 0,_,_=>none
 | n7+1,x5,x6=>(if(decide ((x5:Int) <(x6.holidays.length:Int)))=true then(ck ((0:Int)<=x5/\x5 <(x6.holidays.length:Int)) (ck ((((decide (((gt x6.holidays x5):Int)<0))||(decide ((745654:Int) <(gt x6.holidays x5))))=false/\(decide ((0:Int)<x5))=true)->(0:Int)<=(W (x5-1))/\(W (x5-1)) <(x6.holidays.length:Int)) (if(((decide (((gt x6.holidays x5):Int)<0))||(decide ((745654:Int) <(gt x6.holidays x5))))||((decide ((0:Int)<x5))&&(decide (((gt x6.holidays x5):Int)<=(gt x6.holidays (W (x5-1)))))))=true then(some (1,())) else((z7m φ n7) (W (x5+1)) x6)))) else(some (0,())))
def z7h (φ:Nat):Nat->Int->z6j->Option (Int×Unit)
 | 0,_,_=>none
 | n4+1,x2,x3=>(if(decide ((x2:Int)<7))=true then(ck ((0:Int)<=x2/\x2 <(7:Int)) (if(((decide (((x3.open_ ((x2:Int).toNat)).from_:Int)<0))||(decide (((x3.open_ ((x2:Int).toNat)).to:Int) <(x3.open_ ((x2:Int).toNat)).from_)))||(decide ((1440:Int) <(x3.open_ ((x2:Int).toNat)).to)))=true then(some (1,())) else((z7h φ n4) (W (x2+1)) x3))) else(z7m φ φ 0 x3))
def zle (φ:Nat) (x1:z6j):Option (Int×Unit):=(z7h φ φ 0 x1)
def zja (φ:Nat):Fsp TV:=⟨[36],[.val 0],fun z=>zle φ z.1⟩
def zav (φ:Nat) (k8 :(Int->Int->Int->Int->Option (Int×Unit))) (x9:Int) (x10:Int) (x11:Int) (x12:Int):Option (Int×Unit):=(ck (x11≠0) (if(2:Int)≠0 then(k8 ((((U (x9+x9)):Int).tmod x11)) (U ((x10:Int).tdiv 2)) x11 x12) else none))
def z4e (φ:Nat):Nat->Int->Int->Int->Int->Option (Int×Unit)
 | 0,_,_,_,_=>none
 | n8+1,x4,x5,x6,x7=>(if(decide ((0:Int)<x5))=true then(if(2:Int)≠0 then(if((((x5:Int).tmod 2):Int)==1)=true then(ck (x6≠0) (zav φ (z4e φ n8) x4 x5 x6 ((((U (x7+x4)):Int).tmod x6)))) else(zav φ (z4e φ n8) x4 x5 x6 x7)) else none) else(some (x7,())))
def zfm (φ:Nat) (x1:Int) (x2:Int) (x3:Int):Option (Int×Unit):=(z4e φ φ x1 x2 x3 0)
def zjx (φ:Nat):Fsp TV:=⟨[20,20,20],[.val 20],fun z=>zfm φ z.1 z.2.1 z.2.2.1⟩
def zer (φ:Nat) (k6 :(Int->Int->Int->Option (Int×Unit))) (x7:Int) (x8:Int) (x9:Int):Option (Int×Unit):=((zfm φ x7 x7 2305843009213690799).bind fun y11=>(if(2:Int)≠0 then(k6 y11.1 (U ((x8:Int).tdiv 2)) x9) else none))
def z6y (φ:Nat):Nat->Int->Int->Int->Option (Int×Unit)
 | 0,_,_,_=>none
 | n6+1,x3,x4,x5=>(if(decide ((0:Int)<x4))=true then(if(2:Int)≠0 then(if((((x4:Int).tmod 2):Int)==1)=true then((zfm φ x5 x3 2305843009213690799).bind fun y12=>(zer φ (z6y φ n6) x3 x4 y12.1)) else(zer φ (z6y φ n6) x3 x4 x5)) else none) else(some (x5,())))
def zpj (φ:Nat) (x1:Int) (x2:Int):Option (Int×Unit):=(if(2305843009213690799:Int)≠0 then(z6y φ φ ((x1:Int).tmod 2305843009213690799) x2 1) else none)
def zp2 (φ:Nat):Fsp TV:=⟨[20,20],[.val 20],fun z=>zpj φ z.1 z.2.1⟩
def zjg (φ:Nat) (x1:Int):Option (Bool×Unit):=((zc (default,()) (((decide ((2:Int)<=x1))&&(decide ((x1:Int)<2305843009213690799)))=true) (zpj φ x1 1152921504606845399)).bind fun y2=>(some ((((decide ((2:Int)<=x1))&&(decide ((x1:Int)<2305843009213690799)))&&((y2.1:Int)==1)),())))
def zjl (φ:Nat):Fsp TV:=⟨[20],[.val 1],fun z=>zjg φ z.1⟩
def z1q (φ:Nat):Nat->Int->Pool->Option (Int×Unit)
 | 0,_,_=>none
 | n8+1,x6,x7=>(if(decide ((x6:Int) <(x7.railways.length:Int)))=true then(ck ((0:Int)<=x6/\x6 <(x7.railways.length:Int)) ((zle φ ((gt x7.railways x6).calendar)).bind fun y9=>(ck ((((y9.1:Int) !=0)=false)->(0:Int)<=x6/\x6 <(x7.railways.length:Int)) ((zc (default,()) (((y9.1:Int) !=0)=false) (zjg φ ((gt x7.railways x6).key))).bind fun y10=>(if(((y9.1:Int) !=0)||(!y10.1))=true then(some (1,())) else((z1q φ n8) (W (x6+1)) x7)))))) else(if(((x7.railways.length:Int):Int)==0)=true then(some (1,())) else(some (0,()))))
def z6n (φ:Nat) (x1:Pool):Option (Int×Unit):=((zkl φ x1.network).bind fun y2=>(if((y2.1:Int) !=0)=true then(some (y2.1,())) else((ziw φ x1.fleet).bind fun y3=>(if((y3.1:Int) !=0)=true then(some (y3.1,())) else(if(((decide ((256:Int) <(x1.readers.length:Int)))||(decide ((256:Int) <(x1.shippers.length:Int))))||(decide ((16:Int) <(x1.railways.length:Int))))=true then(some (2,())) else((znu φ x1).bind fun y4=>((zc (default,()) ((!y4.1)=false) (zkd φ x1)).bind fun y5=>(if((!y4.1)||(!y5.1))=true then(some (1,())) else(z1q φ φ 0 x1)))))))))
def z6p (φ:Nat):Fsp TV:=⟨[39],[.val 0],fun z=>z6n φ z.1⟩
def zep (φ:Nat) (x5:Int) (x6:Bool):Option (ByteArray×Unit):=(if x6=true then(some (zn6,())) else(if((x5:Int)==13)=true then(some (zwk,())) else(if((x5:Int)==15)=true then(some (zog,())) else(some ((⟨#[]⟩:ByteArray),())))))
def zel (φ:Nat) (x2:Int) (x3:Bool):Option (ByteArray×Unit):=(if x3=true then(some (z7p,())) else(if((x2:Int)==5)=true then(some (zoj,())) else(if((x2:Int)==6)=true then(some (z7p,())) else(if((x2:Int)==7)=true then(some (zfz,())) else(if((x2:Int)==8)=true then(some (zoh,())) else(if((x2:Int)==9)=true then(some (zom,())) else(if((x2:Int)==10)=true then(some (zvy,())) else(if((x2:Int)==11)=true then(zep φ x2 ((x2:Int)==11)) else(zep φ x2 ((x2:Int)==12))))))))))
def zo1 (φ:Nat) (x1:Int):Option (ByteArray×Unit):=(if((x1:Int)==1)=true then(some (zng,())) else(if((x1:Int)==2)=true then(some (zfv,())) else(if((x1:Int)==3)=true then(zel φ x1 ((x1:Int)==3)) else(zel φ x1 ((x1:Int)==4)))))
def zmi (φ:Nat):Fsp TV:=⟨[0],[.val 4],fun z=>zo1 φ z.1⟩
def zb (φ:Nat) (x1:Int) (x2:Int) (x3:Int):Option (Bool×Unit):=(some (((decide ((x2:Int)<=x1))&&(decide ((x1:Int)<=x3))),()))
def z0t (φ:Nat):Fsp TV:=⟨[0,0,0],[.val 1],fun z=>zb φ z.1 z.2.1 z.2.2.1⟩
def za5 (φ:Nat) (x1:Item):Option (Bool×Unit):=(if(((x1.ref.railway:Int)==0)&&(((x1.ref.no:Int)==0)&&true))=true then(some (((x1.kind:Int) !=14),())) else((zb φ x1.ref.railway 0 15).bind fun y2=>((zc (default,()) (y2.1=true) (zb φ x1.ref.no 1 4096)).bind fun y3=>(some ((y2.1&&y3.1),())))))
def zbu (φ:Nat):Fsp TV:=⟨[6],[.val 1],fun z=>za5 φ z.1⟩
def zg7 (φ:Nat):Nat->ByteArray->Int->Int->Option (Bool×Unit)
 | 0,_,_,_=>none
 | n6+1,x3,x4,x5=>(if(decide ((x5:Int) <(x3.size:Int)))=true then(ck ((0:Int)<=x5/\x5 <(x3.size:Int)) (if(((z81 x3 x5):Int)==x4)=true then(some (true,())) else((zg7 φ n6) x3 x4 (W (x5+1))))) else(some (false,())))
def zc0 (φ:Nat) (x1:ByteArray) (x2:Int):Option (Bool×Unit):=(zg7 φ φ x1 x2 0)
def zsi (φ:Nat):Fsp TV:=⟨[4,49],[.val 1],fun z=>zc0 φ z.1 z.2.1⟩
def zcb (φ:Nat) (x4:Int) (x5:Int) (x6:Bool):Option (Bool×Unit):=(if x6=true then(some (((x4:Int)==3),())) else(if((x5:Int)==9)=true then(some (((x4:Int)==5),())) else(some (true,()))))
def zp7 (φ:Nat) (x1:Pool) (x2:Item):Option (Bool×Unit):=((zb φ x2.place 0 (W ((x1.network.places.length:Int)-1))).bind fun y3=>(if(!y3.1)=true then(some (false,())) else(ck ((0:Int)<=x2.place/\x2.place <(x1.network.places.length:Int)) (if((x2.kind:Int)==3)=true then(zcb φ ((gt x1.network.places x2.place).kind) x2.kind ((x2.kind:Int)==3)) else(zcb φ ((gt x1.network.places x2.place).kind) x2.kind ((x2.kind:Int)==4))))))
def zke (φ:Nat):Fsp TV:=⟨[39,6],[.val 1],fun z=>zp7 φ z.1 z.2.1⟩
def zc5 (φ:Nat) (x4:Int) (x5:Bool) (x6:Pool) (x7:Item):Option (Bool×Unit):=(if x5=true then(ck ((0:Int)<=x7.place/\x7.place <(x6.network.places.length:Int)) (some ((((x7.other:Int)==(gt x6.network.places x7.place).railway)||((x7.other:Int)==(gt x6.network.places x7.place).other)),()))) else(if((x4:Int)==10)=true then((zb φ x7.other 0 63).bind fun y9=>(some (y9.1,()))) else((zb φ x7.other 0 (W ((x6.shippers.length:Int)-1))).bind fun y10=>(some (y10.1,())))))
def zp5 (φ:Nat) (x1:Pool) (x2:Item):Option (Bool×Unit):=(if((x2.kind:Int)==1)=true then((zb φ x2.other 0 (W ((x1.readers.length:Int)-1))).bind fun y3=>(some (y3.1,()))) else(if((x2.kind:Int)==3)=true then(zc5 φ x2.kind ((x2.kind:Int)==3) x1 x2) else(zc5 φ x2.kind ((x2.kind:Int)==4) x1 x2)))
def zkq (φ:Nat):Fsp TV:=⟨[39,6],[.val 1],fun z=>zp5 φ z.1 z.2.1⟩
def zn2 (φ:Nat) (x1:Pool) (x2:Item):Option (Bool×Unit):=(if((x2.kind:Int)==5)=true then((zb φ x2.number 1 1000000000).bind fun y3=>(some (y3.1,()))) else(if((x2.kind:Int)==15)=true then((zb φ x2.number 0 (W ((x1.fleet.types.length:Int)-1))).bind fun y4=>(some (y4.1,()))) else((zb φ x2.number 1 6).bind fun y5=>(some (y5.1,())))))
def zhq (φ:Nat):Fsp TV:=⟨[39,6],[.val 1],fun z=>zn2 φ z.1 z.2.1⟩
def zf7 (φ:Nat) (x2:Int) (x3:Bool) (x4:Item):Option (Bool×Unit):=(if x3=true then((zb φ x4.code 0 8).bind fun y6=>(some (y6.1,()))) else(if((x2:Int)==6)=true then((zb φ x4.code 0 1).bind fun y7=>(some (y7.1,()))) else(if((x2:Int)==8)=true then((zb φ x4.code 1 9).bind fun y8=>(some (y8.1,()))) else((zb φ x4.code 1 2).bind fun y9=>(some (y9.1,()))))))
def zsl (φ:Nat) (x1:Item):Option (Bool×Unit):=(if((x1.kind:Int)==3)=true then(zf7 φ x1.kind ((x1.kind:Int)==3) x1) else(zf7 φ x1.kind ((x1.kind:Int)==4) x1))
def zms (φ:Nat):Fsp TV:=⟨[6],[.val 1],fun z=>zsl φ z.1⟩
def zfu (φ:Nat) (x1:Pool) (x2:Item) (x3:Int):Option (Bool×Unit):=(if((x3:Int)==119)=true then((zb φ x2.wagon 0 (W ((x1.fleet.wagons.length:Int)-1))).bind fun y4=>(some (y4.1,()))) else(if((x3:Int)==112)=true then((zp7 φ x1 x2).bind fun y5=>(some (y5.1,()))) else(if((x3:Int)==111)=true then((zp5 φ x1 x2).bind fun y6=>(some (y6.1,()))) else(if((x3:Int)==110)=true then((zn2 φ x1 x2).bind fun y7=>(some (y7.1,()))) else(if((x3:Int)==102)=true then((zb φ x2.from_ 0 1073741824).bind fun y8=>(some (y8.1,()))) else(if((x3:Int)==116)=true then((zb φ x2.to x2.from_ 1073741824).bind fun y9=>(some (y9.1,()))) else(if((x3:Int)==99)=true then((zsl φ x2).bind fun y10=>(some (y10.1,()))) else(if((x3:Int)==100)=true then((zb φ x2.dest 0 (W ((x1.network.places.length:Int)-1))).bind fun y11=>(some (y11.1,()))) else(if((x3:Int)==107)=true then((zb φ x2.class_ 0 63).bind fun y12=>(some (y12.1,()))) else(if((x3:Int)==103)=true then(if((x2.kind:Int)==15)=true then((zb φ x2.weight 1 1000).bind fun y13=>(some (y13.1,()))) else((zb φ x2.weight 0 1000000).bind fun y14=>(some (y14.1,())))) else((zb φ x2.amount 0 1000000000).bind fun y15=>(some (y15.1,())))))))))))))
def zj6 (φ:Nat):Fsp TV:=⟨[39,6,49],[.val 1],fun z=>zfu φ z.1 z.2.1 z.2.2.1⟩
def zg6 (φ:Nat) (x1:Item) (x2:Int):Option (Int×Unit):=(if((x2:Int)==119)=true then(some (x1.wagon,())) else(if((x2:Int)==112)=true then(some (x1.place,())) else(if((x2:Int)==111)=true then(some (x1.other,())) else(if((x2:Int)==110)=true then(some (x1.number,())) else(if((x2:Int)==102)=true then(some (x1.from_,())) else(if((x2:Int)==116)=true then(some (x1.to,())) else(if((x2:Int)==99)=true then(some (x1.code,())) else(if((x2:Int)==100)=true then(some (x1.dest,())) else(if((x2:Int)==107)=true then(some (x1.class_,())) else(if((x2:Int)==103)=true then(some (x1.weight,())) else(some (x1.amount,()))))))))))))
def zk3 (φ:Nat):Fsp TV:=⟨[6,49],[.val 0],fun z=>zg6 φ z.1 z.2.1⟩
def z7f (φ:Nat):Nat->Int->Item->Option (Bool×Unit)
 | 0,_,_=>none
 | n4+1,x2,x3=>(if(decide ((x2:Int) <(x3.parts.length:Int)))=true then(ck ((0:Int)<=x2/\x2 <(x3.parts.length:Int)) ((zb φ ((gt x3.parts x2).kind) 1 3).bind fun y5=>((zc (default,()) ((!y5.1)=false) (zb φ ((gt x3.parts x2).serial) 0 1073741824)).bind fun y6=>(if(((!y5.1)||(!y6.1))||(((x3.kind:Int)==10)&&(gt x3.parts x2).fitted))=true then(some (false,())) else((z7f φ n4) (W (x2+1)) x3))))) else(some (true,())))
def zjq (φ:Nat) (x1:Item):Option (Bool×Unit):=(if((decide ((16:Int) <(x1.parts.length:Int)))||(((x1.kind:Int)==10)&&(((x1.parts.length:Int):Int)==0)))=true then(some (false,())) else(z7f φ φ 0 x1))
def zl1 (φ:Nat):Fsp TV:=⟨[6],[.val 1],fun z=>zjq φ z.1⟩
def z4i (φ:Nat):Nat->ByteArray->Int->Pool->Item->Option (Bool×Unit)
 | 0,_,_,_,_=>none
 | n10+1,x6,x7,x8,x9=>(if(decide ((x7:Int)<11))=true then(ck ((0:Int)<=x7/\x7 <(z4u.size:Int)) ((zc0 φ x6 (z81 z4u x7)).bind fun y11=>((zc (default,()) (y11.1=true) (zfu φ x8 x9 (z81 z4u x7))).bind fun y12=>((zc (default,()) ((y11.1&&(!y12.1))=false) (zc0 φ x6 (z81 z4u x7))).bind fun y13=>((zc (default,()) ((y11.1&&(!y12.1))=false/\(!y13.1)=true) (zg6 φ x9 (z81 z4u x7))).bind fun y14=>(if((y11.1&&(!y12.1))||((!y13.1)&&((y14.1:Int) !=0)))=true then(some (false,())) else((z4i φ n10) x6 (W (x7+1)) x8 x9))))))) else((zc0 φ x6 120).bind fun y15=>(if((y15.1 !=(x9.text !=(⟨#[]⟩:ByteArray)))||(decide ((2000:Int) <(x9.text.size:Int))))=true then(some (false,())) else((zc0 φ x6 113).bind fun y16=>((zc (default,()) (y16.1=true) (zjq φ x9)).bind fun y17=>((zc (default,()) ((y16.1&&y17.1)=false/\(((x9.parts.length:Int):Int)==0)=true) (zc0 φ x6 113)).bind fun y18=>(some (((y16.1&&y17.1)||((((x9.parts.length:Int):Int)==0)&&(!y18.1))),()))))))))
def z8a (φ:Nat) (x1:Pool) (x2:Item):Option (Bool×Unit):=((zo1 φ x2.kind).bind fun y3=>((zb φ x2.kind 1 15).bind fun y4=>((zc (default,()) ((!y4.1)=false) (za5 φ x2)).bind fun y5=>(if((!y4.1)||(!y5.1))=true then(some (false,())) else(z4i φ φ y3.1 0 x1 x2)))))
def zf1 (φ:Nat):Fsp TV:=⟨[39,6],[.val 1],fun z=>z8a φ z.1 z.2.1⟩
def z4r (φ:Nat) (k6 :(Int->Item->Item->Option (Bool×Unit))):Nat->Int->Int->Item->Item->Option (Bool×Unit)
 | 0,_,_,_,_=>none
 | n11+1,x7,x8,x9,x10=>(if(decide ((x8:Int) <(x10.parts.length:Int)))=true then(ck ((0:Int)<=x7/\x7 <(x9.parts.length:Int)) (ck ((0:Int)<=x8/\x8 <(x10.parts.length:Int)) (ck (((((gt x9.parts x7).kind:Int)==(gt x10.parts x8).kind)=true)->(0:Int)<=x7/\x7 <(x9.parts.length:Int)) (ck (((((gt x9.parts x7).kind:Int)==(gt x10.parts x8).kind)=true)->(0:Int)<=x8/\x8 <(x10.parts.length:Int)) (ck ((((((gt x9.parts x7).kind:Int)==(gt x10.parts x8).kind)&&(((gt x9.parts x7).serial:Int)==(gt x10.parts x8).serial))=true)->(0:Int)<=x8/\x8 <(x10.parts.length:Int)) (if(((((gt x9.parts x7).kind:Int)==(gt x10.parts x8).kind)&&(((gt x9.parts x7).serial:Int)==(gt x10.parts x8).serial))&&(!(gt x10.parts x8).fitted))=true then(some (true,())) else((z4r φ k6 n11) x7 (W (x8+1)) x9 x10))))))) else(k6 (W (x7+1)) x9 x10))
def z63 (φ:Nat):Nat->Int->Item->Item->Option (Bool×Unit)
 | 0,_,_,_=>none
 | n6+1,x3,x4,x5=>(if(decide ((x3:Int) <(x4.parts.length:Int)))=true then(z4r φ (z63 φ n6) φ x3 0 x4 x5) else(some (false,())))
def zl4 (φ:Nat) (x1:Item) (x2:Item):Option (Bool×Unit):=(z63 φ φ 0 x1 x2)
def zjr (φ:Nat):Fsp TV:=⟨[6,6],[.val 1],fun z=>zl4 φ z.1 z.2.1⟩
def zou (φ:Nat) (x1:Pool) (x2:Int) (x3:Int):Option (Int×Unit):=((z6n φ x1).bind fun y4=>(if((y4.1:Int) !=0)=true then(some (y4.1,())) else(if((((decide ((x2:Int)<0))||(decide (((x1.fleet.wagons.length:Int):Int)<=x2)))||(decide ((x3:Int)<0)))||(decide ((1073741824:Int)<x3)))=true then(some (1,())) else(some (0,())))))
def ziy (φ:Nat):Fsp TV:=⟨[39,0,0],[.val 0],fun z=>zou φ z.1 z.2.1 z.2.2.1⟩
def z9p (φ:Nat):Nat->(List z1)->Int->Int->Pool->(List Int)->Option ((List Int)×Unit)
 | 0,_,_,_,_,_=>none
 | n9+1,x4,x5,x6,x7,x8=>(if(decide ((x6:Int) <(x4.length:Int)))=true then(ck ((0:Int)<=x6/\x6 <(x4.length:Int)) (ck ((((((gt x4 x6).item).kind:Int)==x5)=true)->(0:Int)<=x6/\x6 <(x4.length:Int)) ((zc (default,()) (((((gt x4 x6).item).kind:Int)==x5)=true) (z8a φ x7 ((gt x4 x6).item))).bind fun y10=>(if(((((gt x4 x6).item).kind:Int)==x5)&&y10.1)=true then(ck (fits (x8.length +([x6]).length) 8) ((z9p φ n9) x4 x5 (W (x6+1)) x7 (x8++[x6]))) else((z9p φ n9) x4 x5 (W (x6+1)) x7 x8))))) else(some (x8,())))
def zpi (φ:Nat) (x1:Pool) (x2 :(List z1)) (x3:Int):Option ((List Int)×Unit):=(z9p φ φ x2 x3 0 x1 ([]:List Int))
def zsj (φ:Nat):Fsp TV:=⟨[39,10,0],[.val 8],fun z=>zpi φ z.1 z.2.1 z.2.2.1⟩
def z71 (φ:Nat) (x1:Ref) (x2:Ref):Option (Bool×Unit):=(some (((decide ((x1.railway:Int)<x2.railway))||(((x1.railway:Int)==x2.railway)&&(decide ((x1.no:Int)<x2.no)))),()))
def z96 (φ:Nat):Fsp TV:=⟨[3,3],[.val 1],fun z=>z71 φ z.1 z.2.1⟩
def z5j (φ:Nat) (k7 :((List z1)->(List Int)->Int->(List Int)->Option ((List Int)×Unit))) (x8 :(List z1)) (x9 :(List Int)) (x10:Int) (x11:Int) (x12 :(List Int)):Option ((List Int)×Unit):=(ck ((0:Int)<=0/\0<=x11/\x11<=(x12.length:Int)) (ck (fits (([]:List Int).length +(z0q x12 (0:Int).toNat (x11:Int).toNat).length) 8) (ck ((0:Int)<=x10/\x10 <(x9.length:Int)) (ck (fits ((([]:List Int)++(z0q x12 (0:Int).toNat (x11:Int).toNat)).length +([(gt x9 x10)]).length) 8) (ck ((0:Int)<=x11/\x11<=(x12.length:Int)/\(x12.length:Int)<=(x12.length:Int)) (ck (fits ((((([]:List Int)++(z0q x12 (0:Int).toNat (x11:Int).toNat))++[(gt x9 x10)])).length +(z0q x12 (x11:Int).toNat ((x12.length:Int):Int).toNat).length) 8) (k7 x8 x9 (W (x10+1)) ((((([]:List Int)++(z0q x12 (0:Int).toNat (x11:Int).toNat))++[(gt x9 x10)])++(z0q x12 (x11:Int).toNat ((x12.length:Int):Int).toNat))))))))))
def z3w (φ:Nat) (k7 :((List z1)->(List Int)->Int->(List Int)->Option ((List Int)×Unit))):Nat->(List z1)->(List Int)->Int->Int->(List Int)->z1->Option ((List Int)×Unit)
 | 0,_,_,_,_,_,_=>none
 | n20+1,x14,x15,x16,x17,x18,x19=>(if(decide ((x17:Int) <(x18.length:Int)))=true then(ck ((0:Int)<=x17/\x17 <(x18.length:Int)) (ck ((0:Int)<=(gt x18 x17)/\(gt x18 x17) <(x14.length:Int)) ((zc (default,()) ((decide ((((gt x14 (gt x18 x17)).item).from_:Int)<x19.item.from_))=false/\((x19.item.from_:Int)==((gt x14 (gt x18 x17)).item).from_)=true) (z71 φ x19.ref ((gt x14 (gt x18 x17)).ref))).bind fun y21=>(if(!((decide ((((gt x14 (gt x18 x17)).item).from_:Int)<x19.item.from_))||(((x19.item.from_:Int)==((gt x14 (gt x18 x17)).item).from_)&&(!y21.1))))=true then(z5j φ k7 x14 x15 x16 x17 x18) else((z3w φ k7 n20) x14 x15 x16 (W (x17+1)) x18 x19))))) else(z5j φ k7 x14 x15 x16 x17 x18))
def z4k (φ:Nat):Nat->(List z1)->(List Int)->Int->(List Int)->Option ((List Int)×Unit)
 | 0,_,_,_,_=>none
 | n7+1,x3,x4,x5,x6=>(if(decide ((x5:Int) <(x4.length:Int)))=true then(ck ((0:Int)<=x5/\x5 <(x4.length:Int)) (ck ((0:Int)<=(gt x4 x5)/\(gt x4 x5) <(x3.length:Int)) (z3w φ (z4k φ n7) φ x3 x4 x5 0 x6 (gt x3 (gt x4 x5))))) else(some (x6,())))
def zhc (φ:Nat) (x1 :(List z1)) (x2 :(List Int)):Option ((List Int)×Unit):=(z4k φ φ x1 x2 0 ([]:List Int))
def zhz (φ:Nat):Fsp TV:=⟨[10,8],[.val 8],fun z=>zhc φ z.1 z.2.1⟩
def zcq (φ:Nat) (x1:Pool) (x2:z1):Option (Bool×Unit):=(ck ((0:Int)<=x2.item.place/\x2.item.place <(x1.network.places.length:Int)) (some ((((x2.ref.railway:Int) !=x2.item.other)&&(((((gt x1.network.places x2.item.place).railway:Int)==x2.ref.railway)&&(((gt x1.network.places x2.item.place).other:Int)==x2.item.other))||((((gt x1.network.places x2.item.place).railway:Int)==x2.item.other)&&(((gt x1.network.places x2.item.place).other:Int)==x2.ref.railway)))),())))
def zi6 (φ:Nat):Fsp TV:=⟨[39,7],[.val 1],fun z=>zcq φ z.1 z.2.1⟩
def zfn (φ:Nat) (x1:z1) (x2:z1):Option (Int×Unit):=(some ((max2 (W (x1.item.from_-x2.item.from_)) (W (x2.item.from_-x1.item.from_))),()))
def zju (φ:Nat):Fsp TV:=⟨[7,7],[.val 0],fun z=>zfn φ z.1 z.2.1⟩
def znx (φ:Nat) (x1:Pool) (x2:z1) (x3:z1):Option (Bool×Unit):=((zcq φ x1 x2).bind fun y4=>((zc (default,()) (y4.1=true) (zcq φ x1 x3)).bind fun y5=>((zc (default,()) ((((((y4.1&&y5.1)&&((x2.ref.railway:Int)==x3.item.other))&&((x3.ref.railway:Int)==x2.item.other))&&((x2.item.wagon:Int)==x3.item.wagon))&&((x2.item.place:Int)==x3.item.place))=true) (zfn φ x2 x3)).bind fun y6=>(some (((((((y4.1&&y5.1)&&((x2.ref.railway:Int)==x3.item.other))&&((x3.ref.railway:Int)==x2.item.other))&&((x2.item.wagon:Int)==x3.item.wagon))&&((x2.item.place:Int)==x3.item.place))&&(decide ((y6.1:Int)<=60))),())))))
def zmo (φ:Nat):Fsp TV:=⟨[39,7,7],[.val 1],fun z=>znx φ z.1 z.2.1 z.2.2.1⟩
def z29 (φ:Nat) (k14 :((List z1)->(List Int)->(List Int)->Int->Pool->(List Bool)->(List (Nat->Int))->Option ((List (Nat->Int))×Unit))):Nat->(List z1)->(List Int)->(List Int)->Int->Int->Int->Pool->(List Bool)->(List (Nat->Int))->z1->Option ((List (Nat->Int))×Unit)
 | 0,_,_,_,_,_,_,_,_,_,_=>none
 | n25+1,x15,x16,x17,x18,x19,x20,x21,x22,x23,x24=>(if(decide ((x20:Int) <(x17.length:Int)))=true then(ck ((0:Int)<=x20/\x20 <(x17.length:Int)) (ck ((0:Int)<=(gt x17 x20)/\(gt x17 x20) <(x22.length:Int)) (ck (((gt x22 (gt x17 x20))=false)->(0:Int)<=(gt x17 x20)/\(gt x17 x20) <(x15.length:Int)) ((zc (default,()) ((gt x22 (gt x17 x20))=false) (znx φ x21 x24 (gt x15 (gt x17 x20)))).bind fun y26=>(if((gt x22 (gt x17 x20))||(!y26.1))=true then((z29 φ k14 n25) x15 x16 x17 x18 x19 (W (x20+1)) x21 x22 x23 x24) else(ck (((decide ((x19:Int)<0))=false)->(0:Int)<=(gt x17 x20)/\(gt x17 x20) <(x15.length:Int)) ((zc (default,()) ((decide ((x19:Int)<0))=false) (zfn φ x24 (gt x15 (gt x17 x20)))).bind fun y27=>(ck (((decide ((x19:Int)<0))=false)->(0:Int)<=x19/\x19 <(x15.length:Int)) ((zc (default,()) ((decide ((x19:Int)<0))=false) (zfn φ x24 (gt x15 x19))).bind fun y28=>(ck ((((decide ((x19:Int)<0))||(decide ((y27.1:Int)<y28.1)))=false)->(0:Int)<=(gt x17 x20)/\(gt x17 x20) <(x15.length:Int)) ((zc (default,()) (((decide ((x19:Int)<0))||(decide ((y27.1:Int)<y28.1)))=false) (zfn φ x24 (gt x15 (gt x17 x20)))).bind fun y29=>(ck ((((decide ((x19:Int)<0))||(decide ((y27.1:Int)<y28.1)))=false)->(0:Int)<=x19/\x19 <(x15.length:Int)) ((zc (default,()) (((decide ((x19:Int)<0))||(decide ((y27.1:Int)<y28.1)))=false) (zfn φ x24 (gt x15 x19))).bind fun y30=>(ck ((((decide ((x19:Int)<0))||(decide ((y27.1:Int)<y28.1)))=false/\((y29.1:Int)==y30.1)=true)->(0:Int)<=(gt x17 x20)/\(gt x17 x20) <(x15.length:Int)) (ck ((((decide ((x19:Int)<0))||(decide ((y27.1:Int)<y28.1)))=false/\((y29.1:Int)==y30.1)=true)->(0:Int)<=x19/\x19 <(x15.length:Int)) ((zc (default,()) (((decide ((x19:Int)<0))||(decide ((y27.1:Int)<y28.1)))=false/\((y29.1:Int)==y30.1)=true) (z71 φ ((gt x15 (gt x17 x20)).ref) ((gt x15 x19).ref))).bind fun y31=>(if(((decide ((x19:Int)<0))||(decide ((y27.1:Int)<y28.1)))||(((y29.1:Int)==y30.1)&&y31.1))=true then((z29 φ k14 n25) x15 x16 x17 x18 (gt x17 x20) (W (x20+1)) x21 x22 x23 x24) else((z29 φ k14 n25) x15 x16 x17 x18 x19 (W (x20+1)) x21 x22 x23 x24)))))))))))))))))) else(if(decide ((0:Int)<=x19))=true then(ck ((0:Int)<=x19/\x19 <(x22.length:Int)) (ck ((0:Int)<=x18/\x18 <(x16.length:Int)) (ck (fits (x23.length +([(upd (upd (fun _=>(default:Int)) 0 (gt x16 x18)) 1 x19)]).length) 16) (k14 x15 x16 x17 (W (x18+1)) x21 (z04 x22 x19 true) ((x23++[(upd (upd (fun _=>(default:Int)) 0 (gt x16 x18)) 1 x19)])))))) else(k14 x15 x16 x17 (W (x18+1)) x21 x22 x23)))
def z35 (φ:Nat):Nat->(List z1)->(List Int)->(List Int)->Int->Pool->(List Bool)->(List (Nat->Int))->Option ((List (Nat->Int))×Unit)
 | 0,_,_,_,_,_,_,_=>none
 | n14+1,x7,x8,x9,x10,x11,x12,x13=>(if(decide ((x10:Int) <(x8.length:Int)))=true then(ck ((0:Int)<=x10/\x10 <(x8.length:Int)) (ck ((0:Int)<=(gt x8 x10)/\(gt x8 x10) <(x7.length:Int)) (z29 φ (z35 φ n14) φ x7 x8 x9 x10 (-1) 0 x11 x12 x13 (gt x7 (gt x8 x10))))) else(some (x13,())))
def zlc (φ:Nat) (x1:Pool) (x2 :(List z1)):Option ((List (Nat->Int))×Unit):=((z6n φ x1).bind fun y3=>(if((y3.1:Int) !=0)=true then(some (([]:List (Nat->Int)),())) else(ck (zry (x2.length:Int) 1) ((zpi φ x1 x2 3).bind fun y4=>((zhc φ x2 y4.1).bind fun y5=>((zpi φ x1 x2 4).bind fun y6=>(z35 φ φ x2 y5.1 y6.1 0 x1 (List.replicate ((x2.length:Int):Int).toNat (default:Bool)) ([]:List (Nat->Int)))))))))
def zku (φ:Nat):Fsp TV:=⟨[39,10],[.val 43],fun z=>zlc φ z.1 z.2.1⟩
def zl2 (φ:Nat) (x1:z6) (x2:z6):Option (Bool×Unit):=(if((x1.at_:Int) !=x2.at_)=true then(some ((decide ((x1.at_:Int)<x2.at_)),())) else(if((x1.wagon:Int) !=x2.wagon)=true then(some ((decide ((x1.wagon:Int)<x2.wagon)),())) else((z71 φ x1.deliver x2.deliver).bind fun y3=>(some (y3.1,())))))
def zks (φ:Nat):Fsp TV:=⟨[44,44],[.val 1],fun z=>zl2 φ z.1 z.2.1⟩
def z6s (φ:Nat) (k8 :((List z1)->(List (Nat->Int))->Int->(List z6)->Option ((List z6)×Unit))):Nat->(List z1)->(List (Nat->Int))->Int->Int->(List z6)->z6->Option ((List z6)×Unit)
 | 0,_,_,_,_,_,_=>none
 | n15+1,x9,x10,x11,x12,x13,x14=>(ck (((decide ((0:Int)<x12))=true)->(0:Int)<=(W (x12-1))/\(W (x12-1)) <(x13.length:Int)) ((zc (default,()) ((decide ((0:Int)<x12))=true) (zl2 φ x14 (gt x13 (W (x12-1))))).bind fun y16=>(if((decide ((0:Int)<x12))&&y16.1)=true then((z6s φ k8 n15) x9 x10 x11 (W (x12-1)) x13 x14) else(ck ((0:Int)<=0/\0<=x12/\x12<=(x13.length:Int)) (ck (fits (([]:List z6).length +(z0q x13 (0:Int).toNat (x12:Int).toNat).length) 80) (ck (fits ((([]:List z6)++(z0q x13 (0:Int).toNat (x12:Int).toNat)).length +([x14]).length) 80) (ck ((0:Int)<=x12/\x12<=(x13.length:Int)/\(x13.length:Int)<=(x13.length:Int)) (ck (fits ((((([]:List z6)++(z0q x13 (0:Int).toNat (x12:Int).toNat))++[x14])).length +(z0q x13 (x12:Int).toNat ((x13.length:Int):Int).toNat).length) 80) (k8 x9 x10 (W (x11+1)) ((((([]:List z6)++(z0q x13 (0:Int).toNat (x12:Int).toNat))++[x14])++(z0q x13 (x12:Int).toNat ((x13.length:Int):Int).toNat))))))))))))
def z61 (φ:Nat):Nat->(List z1)->(List (Nat->Int))->Int->(List z6)->Option ((List z6)×Unit)
 | 0,_,_,_,_=>none
 | n8+1,x4,x5,x6,x7=>(if(decide ((x6:Int) <(x5.length:Int)))=true then(ck ((0:Int)<=x6/\x6 <(x5.length:Int)) (ck ((0:Int)<=((gt x5 x6) (0:Int).toNat)/\((gt x5 x6) (0:Int).toNat) <(x4.length:Int)) (ck ((0:Int)<=x6/\x6 <(x5.length:Int)) (ck ((0:Int)<=((gt x5 x6) (1:Int).toNat)/\((gt x5 x6) (1:Int).toNat) <(x4.length:Int)) (if(2:Int)≠0 then(z6s φ (z61 φ n8) φ x4 x5 x6 (x7.length:Int) x7 ((⟨((gt x4 ((gt x5 x6) (0:Int).toNat)).item).wagon,((gt x4 ((gt x5 x6) (0:Int).toNat)).item).place,((gt x4 ((gt x5 x6) (0:Int).toNat)).ref).railway,((gt x4 ((gt x5 x6) (1:Int).toNat)).ref).railway,W (((W (((gt x4 ((gt x5 x6) (0:Int).toNat)).item).from_ +((gt x4 ((gt x5 x6) (1:Int).toNat)).item).from_)):Int).tdiv 2),max2 (((gt x4 ((gt x5 x6) (0:Int).toNat)).item).code) (((gt x4 ((gt x5 x6) (1:Int).toNat)).item).code),(gt x4 ((gt x5 x6) (0:Int).toNat)).ref,(gt x4 ((gt x5 x6) (1:Int).toNat)).ref⟩:z6))) else none))))) else(some (x7,())))
def zj7 (φ:Nat) (x1:Pool) (x2 :(List z1)):Option ((List z6)×Unit):=((zlc φ x1 x2).bind fun y3=>(z61 φ φ x2 y3.1 0 ([]:List z6)))
def zl3 (φ:Nat):Fsp TV:=⟨[39,10],[.val 45],fun z=>zj7 φ z.1 z.2.1⟩
def z6g (φ:Nat):Nat->Int->(List z6)->Int->(List z1f)->Option ((List z1f)×Unit)
 | 0,_,_,_,_=>none
 | n9+1,x5,x6,x7,x8=>(if(decide ((x7:Int) <(x6.length:Int)))=true then(ck ((0:Int)<=(W ((x8.length:Int)-1))/\(W ((x8.length:Int)-1)) <(x8.length:Int)) (ck ((0:Int)<=x7/\x7 <(x6.length:Int)) (ck (((((gt x6 x7).wagon:Int)==x5)=true)->(0:Int)<=x7/\x7 <(x6.length:Int)) (ck ((((((gt x6 x7).wagon:Int)==x5)&&(((gt x6 x7).from_:Int)==((gt x8 (W ((x8.length:Int)-1)))).railway))=true)->(0:Int)<=x7/\x7 <(x6.length:Int)) (if(((((gt x6 x7).wagon:Int)==x5)&&(((gt x6 x7).from_:Int)==((gt x8 (W ((x8.length:Int)-1)))).railway))&&(decide (((((gt x8 (W ((x8.length:Int)-1)))).span).from_:Int) <(gt x6 x7).at_)))=true then(ck ((0:Int)<=x7/\x7 <(x6.length:Int)) (ck ((0:Int)<=x7/\x7 <(x6.length:Int)) (ck ((0:Int)<=x7/\x7 <(x6.length:Int)) (ck (fits (x8.length +([(⟨(gt x6 x7).to,(⟨(gt x6 x7).at_,0⟩:Span),(gt x6 x7).receive⟩:z1f)]).length) 40) ((z6g φ n9) x5 x6 (W (x7+1)) ((x8++[(⟨(gt x6 x7).to,(⟨(gt x6 x7).at_,0⟩:Span),(gt x6 x7).receive⟩:z1f)]))))))) else((z6g φ n9) x5 x6 (W (x7+1)) x8)))))) else(some (x8,())))
def zjh (φ:Nat) (x1:Pool) (x2 :(List z1)) (x3:Int):Option ((List z1f)×Unit):=(ck ((0:Int)<=x3/\x3 <(x1.fleet.wagons.length:Int)) (ck ((0:Int)<=(gt x1.fleet.wagons x3).home/\(gt x1.fleet.wagons x3).home <(x1.network.places.length:Int)) ((zj7 φ x1 x2).bind fun y4=>(z6g φ φ x3 y4.1 0 ([(⟨(gt x1.network.places ((gt x1.fleet.wagons x3).home)).railway,(⟨0,0⟩:Span),(⟨0,0⟩:Ref)⟩:z1f)])))))
def zj3 (φ:Nat):Fsp TV:=⟨[39,10,0],[.val 47],fun z=>zjh φ z.1 z.2.1 z.2.2.1⟩
def z89 (φ:Nat):Nat->Int->(List z1f)->Int->Int->Option (Int×Int×Unit)
 | 0,_,_,_,_=>none
 | n11+1,x7,x8,x9,x10=>(if(decide ((x10:Int) <(x8.length:Int)))=true then(ck ((0:Int)<=x10/\x10 <(x8.length:Int)) (if(decide ((((gt x8 x10).span).from_:Int)<=x7))=true then(ck ((0:Int)<=x10/\x10 <(x8.length:Int)) ((z89 φ n11) x7 x8 ((gt x8 x10).railway) (W (x10+1)))) else((z89 φ n11) x7 x8 x9 (W (x10+1))))) else(some (x9,0,())))
def zuc (φ:Nat) (x1:Pool) (x2 :(List z1)) (x3:Int) (x4:Int):Option (Int×Int×Unit):=((zou φ x1 x3 x4).bind fun y5=>(if((y5.1:Int) !=0)=true then(some (0,y5.1,())) else((zjh φ x1 x2 x3).bind fun y6=>(z89 φ φ x4 y6.1 0 0))))
def zrd (φ:Nat):Fsp TV:=⟨[39,10,0,0],[.val 0,.val 0],fun z=>zuc φ z.1 z.2.1 z.2.2.1 z.2.2.2.1⟩
def z1y (φ:Nat):Nat->(List z1)->Int->Int->Pool->z1->Option (Int×Int×Unit)
 | 0,_,_,_,_,_=>none
 | n11+1,x6,x7,x8,x9,x10=>(if(decide ((x8:Int) <(x6.length:Int)))=true then(ck ((0:Int)<=x8/\x8 <(x6.length:Int)) (ck ((((((gt x6 x8).item).kind:Int) !=10)=false)->(0:Int)<=x8/\x8 <(x6.length:Int)) ((zc (default,()) (((((gt x6 x8).item).kind:Int) !=10)=false) (zl4 φ ((gt x6 x8).item) x10.item)).bind fun y12=>(ck (((((((gt x6 x8).item).kind:Int) !=10)||(!y12.1))=false)->(0:Int)<=x8/\x8 <(x6.length:Int)) ((zc (default,()) ((((((gt x6 x8).item).kind:Int) !=10)||(!y12.1))=false) (z8a φ x9 ((gt x6 x8).item))).bind fun y13=>(if((((((gt x6 x8).item).kind:Int) !=10)||(!y12.1))||(!y13.1))=true then((z1y φ n11) x6 x7 (W (x8+1)) x9 x10) else(ck (((decide ((x7:Int)<0))=false)->(0:Int)<=x8/\x8 <(x6.length:Int)) (ck (((decide ((x7:Int)<0))=false)->(0:Int)<=x7/\x7 <(x6.length:Int)) ((zc (default,()) ((decide ((x7:Int)<0))=false) (zhh φ ((gt x6 x8).ref) ((gt x6 x7).ref))).bind fun y14=>(if((decide ((x7:Int)<0))||y14.1)=true then((z1y φ n11) x6 x8 (W (x8+1)) x9 x10) else((z1y φ n11) x6 x7 (W (x8+1)) x9 x10))))))))))) else(if(decide ((0:Int)<=x7))=true then(ck ((0:Int)<=x7/\x7 <(x6.length:Int)) (some ((W (16 +((gt x6 x7).item).other)),0,()))) else(if((x10.item.code:Int)==2)=true then(ck ((0:Int)<=x10.item.wagon/\x10.item.wagon <(x9.fleet.wagons.length:Int)) (some ((W (16 +(gt x9.fleet.wagons x10.item.wagon).owner)),0,()))) else((zuc φ x9 x6 x10.item.wagon x10.item.from_).bind fun y15=>(some (y15.1,y15.2.1,()))))))
def zbi (φ:Nat) (x1:Pool) (x2 :(List z1)) (x3:z1):Option (Int×Int×Unit):=((z6n φ x1).bind fun y4=>(if((y4.1:Int) !=0)=true then(some (0,y4.1,())) else((zc (default,()) (((x3.item.kind:Int) !=9)=false) (z8a φ x1 x3.item)).bind fun y5=>(if(((x3.item.kind:Int) !=9)||(!y5.1))=true then(some (0,1,())) else(z1y φ φ x2 (-1) 0 x1 x3)))))
def zlg (φ:Nat):Fsp TV:=⟨[39,10,7],[.val 0,.val 0],fun z=>zbi φ z.1 z.2.1 z.2.2.1⟩
def z02 (φ:Nat) (x1:Pool) (x2 :(List z1)) (x3:z1):Option (Bool×Unit):=((zo0 φ).bind fun y4=>(if(!y4.1)=true then(some (false,())) else((zao φ x1).bind fun y5=>((zc (default,()) ((!y5.1)=false) (zpo φ x2)).bind fun y6=>(if(((!y5.1)||(!y6.1))||(decide ((20:Int) <(x3.item.parts.length:Int))))=true then(some (true,())) else((zh φ x1 x2 x3).bind fun y7=>((zbi φ x1 x2 x3).bind fun y8=>(some ((((y7.1:Int)==y8.1)&&((y7.2.1:Int)==y8.2.1)),())))))))))
def z08 (φ:Nat):Fsp TV:=⟨[39,10,7],[.val 1],fun z=>z02 φ z.1 z.2.1 z.2.2.1⟩
end Px
end
