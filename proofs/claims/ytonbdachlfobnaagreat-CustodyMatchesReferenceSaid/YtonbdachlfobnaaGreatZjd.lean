/- A part of the proof of custodyMatchesReference_holds. Conditions: none. -/
import Derived.Test.YtonbdachlfobnaaGreatZjc
import Derived.Shelf.SlSortCmp.NoneTotal
import Derived.Shelf.Sort.Plain
import Derived.Shelf.Slices.In.SortNone
set_option linter.unusedVariables false
set_option linter.unusedSimpArgs false
section
namespace Px
open Go Go.RowKit
section cells
variable {T:Nat->Type}
def cvT (g :(c:Nat)->T c->List Value) :(fs:List Nat)->Tup T fs->List Value
 | [],_=>[]
 | c::cs,x=>g c x.1++cvT g cs x.2
def cvD (g :(c:Nat)->T c->List Value) : {α:Type}->Ds T α->α->List Value
 | _,.int k,x=>[.int k x]
 | _,.bool,x=>[.bool x]
 | _,.str,x=>[.string x]
 | _,.sl _,_=>[]
 | _,.arr n c,f=>(List.range n).flatMap fun i=>g c (f i)
 | _,.st fs _ un _,x=>cvT g fs (un x)
end cells
section
variable (V:TE)
def cvN:Nat->(c:Nat)->V.T c->List Value
 | 0,_,_=>[]
 | n+1,c,x=>cvD (cvN n) (V.d c) x
def TE.cv (c:Nat) (x:V.T c):List Value:=cvN V (c+1) c x
variable {V}
theorem ygg:∀(n c:Nat),flN V n c=true->∀ x,V.ev c x =(cvN V n c x).map eqv/\∀ v∈cvN V n c x,v.oneCell'=true
 | 0,_,h=>by cases h
 | n+1,c,h=>by
  intro x
  have ih:=ygg n
  rw [V.ev_eq]
  change flD (flN V n) (V.d c)=true at h
  change evD V.ev V.sz (V.d c) x =(cvD (cvN V n) (V.d c) x).map eqv/\∀ v∈cvD (cvN V n) (V.d c) x,v.oneCell'=true
  revert h x
  generalize V.d c=d
  generalize V.T c=α at d
  intro x h
  cases d with
  | int k=>exact⟨rfl,fun v hv=>by simp only [cvD,List.mem_singleton] at hv; subst hv; rfl⟩
  | bool=>exact⟨rfl,fun v hv=>by simp only [cvD,List.mem_singleton] at hv; subst hv; rfl⟩
  | str=>exact⟨rfl,fun v hv=>by simp only [cvD,List.mem_singleton] at hv; subst hv; rfl⟩
  | sl c'=>cases h
  | arr m c'=>
   simp only [evD,cvD,Px.arr,List.map_flatMap]
   refine⟨?_,fun v hv=>?_⟩
   ·congr 1
    funext i
    exact(ih c' h (x i)).1
   ·obtain⟨i,_,hi⟩:=List.mem_flatMap.1 hv
    exact(ih c' h (x i)).2 v hi
  | st fs mk un law=>
   have key:∀(fs:List Nat) (y:Tup V.T fs),fs.all (flN V n)=true->evT V.ev fs y =(cvT (cvN V n) fs y).map eqv/\∀ v∈cvT (cvN V n) fs y,v.oneCell'=true:=by
    intro fs
    induction fs with
    | nil=>intro y _; exact⟨rfl,fun v hv=>by cases hv⟩
    | cons c cs ihf=>
     intro y h
     simp only [List.all_cons,Bool.and_eq_true] at h
     obtain⟨h1,h2⟩:=ihf y.2 h.2
     obtain⟨h3,h4⟩:=ih c h.1 y.1
     refine⟨by simp only [evT,cvT,List.map_append,h1,h3],fun v hv=>?_⟩
     rcases List.mem_append.1 hv with hv | hv
     ·exact h4 v hv
     ·exact h2 v hv
   exact key fs (un x) h
theorem ykp {c:Nat} (h:V.fl c=true) (x:V.T c):V.ev c x =(V.cv c x).map eqv:=(ygg _ _ h x).1
theorem yf6 {c:Nat} (h:V.fl c=true) (x:V.T c):∀ v∈V.cv c x,v.oneCell'=true:=(ygg _ _ h x).2
theorem y4h {c:Nat} (h:V.fl c=true) (x:V.T c) :(V.cv c x).length=V.sz c:=by
 have:=V.ev_len c x
 rw [ykp h] at this
 simpa using this
end
theorem ycw {r:Nat->Prop} {w:World} : ∀ {us vs:List Value},zu r w (us.map eqv) vs->vs=us
 | us,vs,⟨hl,h⟩=>by
  refine List.ext_getElem? fun i=>?_
  by_cases hi:i<us.length
  ·obtain⟨u,hu,he,_⟩:=h i (eqv us[i]) (by simp [hi])
   rw [hu,List.getElem?_eq_getElem hi]
   exact congrArg some he
  ·have hl':us.length=vs.length:=by simpa using hl
   rw [List.getElem?_eq_none (show us.length<=i by omega),List.getElem?_eq_none (show vs.length<=i by omega)]
theorem zxg {r:Nat->Prop} {w:World} {us:List Value} (h:∀ v∈us,v.oneCell'=true):zu r w (us.map eqv) us:=by
 refine⟨by simp,fun j A hj=>?_⟩
 simp only [List.getElem?_map,Option.map_eq_some_iff] at hj
 obtain⟨u,hu,rfl⟩:=hj
 exact⟨u,hu,rfl,h u (List.mem_of_getElem? hu)⟩
theorem ztm {α:Type} {e:α->List Value} {k:Nat} (hk:∀ x,(e x).length=k) (h0:0<k):∀(l:List α) (t:Nat),(l.flatMap e)[t]? =(l[t / k]?).bind fun x=>(e x)[t % k]?
 | [],t=>by simp
 | x::l,t=>by
  rw [List.flatMap_cons,List.getElem?_append,hk]
  by_cases h:t<k
  ·rw [if_pos h,Nat.div_eq_of_lt h,Nat.mod_eq_of_lt h]; simp
  ·have h1:t / k =(t-k) / k+1:=Nat.div_eq_sub_div h0 (by omega)
   have h2:t % k =(t-k) % k:=Nat.mod_eq_sub_mod (by omega)
   rw [if_neg h,ztm hk h0 l,h1,h2,List.getElem?_cons_succ]
theorem zxm {α:Type} [Inhabited α] {e:α->List Value} {k:Nat} (hk:∀ x,(e x).length=k) (d:Array α) :(Sort.flatK e k d).toList=d.toList.flatMap e:=by
 by_cases h0:0<k
 ·refine List.ext_getElem? fun t=>?_
  rw [ztm hk h0]
  by_cases ht:t<d.size*k
  ·have hd:t / k<d.size:=Nat.div_lt_of_lt_mul (by rwa [Nat.mul_comm])
   have hm:t % k <(e d[t / k]).length:=by rw [hk]; exact Nat.mod_lt _ h0
   have h1:t <(Sort.flatK e k d).toList.length:=by rw [Array.length_toList,Sort.size_flatK]; exact ht
   have h2 :(Sort.flatK e k d).toList[t] =(Sort.flatK e k d)[t]!:=by
    rw [getElem!_pos _ t (by rw [Sort.size_flatK]; exact ht)]
    simp
   rw [List.getElem?_eq_getElem h1,h2,Sort.get_flatK _ _ _ _ ht,getElem!_pos d (t / k) hd]
   simp only [Array.getElem?_toList,Array.getElem?_eq_getElem hd,Option.bind_some]
   rw [getElem!_pos (e d[t / k]) (t % k) hm,List.getElem?_eq_getElem hm]
  ·rw [List.getElem?_eq_none (by rw [Array.length_toList,Sort.size_flatK]; omega)]
   have:d.size<=t / k:=by
    rw [Nat.le_div_iff_mul_le h0]; omega
   simp [this]
 ·have:k=0:=by omega
  subst this
  have e1:∀ x,e x = []:=fun x=>List.eq_nil_of_length_eq_zero (hk x)
  have e2:d.toList.flatMap e = []:=by simp [List.flatMap_eq_nil_iff,e1]
  rw [e2]
  exact List.eq_nil_of_length_eq_zero (by rw [Array.length_toList,Sort.size_flatK]; simp)
theorem yhj {w:World} {g:Nat} {cur:Array Value} {E:TypeId} {F:Array Value} (hh:w.heap[g]? = some (.cells cur E (0,0))) (hF:cur.toList.take F.size=F.toList):Sort.Holds id w g 0 F:=by
 intro j hj
 have h1:cur[j]? = some F[j]:=by
  have :(cur.toList.take F.size)[j]? = F.toList[j]?:=by rw [hF]
  rw [List.getElem?_take,if_pos hj] at this
  simpa [hj] using this
 rw [getElem!_pos F j hj]
 refine⟨?_,?_⟩
 ·unfold World.cell?
  rw [hh]
  simpa using h1
 ·unfold World.frozen?
  rw [hh]
  simp
theorem yby {w:World} {g n:Nat} {cur:Array Value} {E:TypeId} {F:Array Value} {os:Array Obj} (hh:w.heap[g]? = some (.cells cur E (0,0))) (hs:F.size<=cur.size) :
  ∃ cur',(Sort.grow (Sort.putRow id (Sort.ahead w n) g 0 F) os).heap[g]? = some (.cells cur' E (0,0))/\cur'.size=cur.size/\cur'.toList.take F.size=F.toList:=by
 have hlt:g<w.heap.size:=(Array.getElem?_eq_some_iff.1 hh).1
 refine⟨Sort.putCells id 0 F cur,?_,by simp [Sort.putCells],?_⟩
 ·simp only [Sort.grow,Sort.putRow,Sort.mapBlock,Sort.ahead]
  rw [Array.getElem?_append,if_pos (by simpa using hlt),Array.getElem?_modify,if_pos rfl,hh]
  rfl
 ·refine List.ext_getElem? fun j=>?_
  rw [List.getElem?_take]
  by_cases hj:j<F.size
  ·rw [if_pos hj]
   have:j<cur.size:=by omega
   simp [Sort.putCells,this,hj]
  ·rw [if_neg hj,List.getElem?_eq_none (by simpa using hj)]
theorem y2e {w:World} {g n b:Nat} {F:Array Value} {os:Array Obj} (hb:b<w.heap.size) (hg:b≠g) :(Sort.grow (Sort.putRow id (Sort.ahead w n) g 0 F) os).heap[b]? = w.heap[b]?:=by
 simp only [Sort.grow,Sort.putRow,Sort.mapBlock,Sort.ahead]
 rw [Array.getElem?_append,if_pos (by simpa using hb),Array.getElem?_modify,if_neg (fun e=>hg e.symm)]
theorem yat {P:Program} {f:FuncId} {args:List VP} {vs0:List Value} {α:Type} {E:TypeId} {e:α->List VP} {ce:α->List Value} {k:Nat} {l l':List α} {sv:Value}
  (he:∀ x∈l,e x =(ce x).map eqv) (he':∀ x∈l',e x =(ce x).map eqv) (hone:∀ x∈l',∀ v∈ce x,v.oneCell'=true) (hk:∀ x∈l,(ce x).length=k) (hk':∀ x∈l',(ce x).length=k) (hlen:l'.length=l.length) (hargs:args=vs0.map eqv)
  (hnil:l = []->∀ p cap w,Calls P f (#[.slice p 0 cap]++vs0.toArray) w fun e w'=>e = .returned (.tuple #[])/\w'=w)
  (hrun:l≠[]->∀ g cap w,g<w.heap.size->(∀ F:Array Value,F.toList=l.flatMap ce->Sort.Holds id w g 0 F)->
   Calls P f (#[.slice (some ⟨g,0,none⟩) l.length cap]++vs0.toArray) w fun e w'=>e = .returned (.tuple #[])/\∃ n os F,F.toList=l'.flatMap ce/\w'=Sort.grow (Sort.putRow id (Sort.ahead w n) g 0 F) os) :
  MutT P f (eqv sv::args) E e k l sv fun x l2=>x=eqv (.tuple #[])/\l2=l':=by
 intro w0 base r S w vs hw hl hA
 have hvs:vs = #[sv]++vs0.toArray:=by
  have hsz:vs.size=1+vs0.length:=by rw [hl,hargs]; simp; omega
  refine Array.ext (by rw [hsz]; simp [Nat.add_comm]) fun i h1 h2=>?_
  cases i with
  | zero=>
   have:=hA 0 (eqv sv) rfl
   simp only [Array.getD_eq_getD_getElem?,Array.getElem?_eq_getElem h1,Option.getD_some] at this
   have this:vs[0]=sv:=this
   rw [this,Array.getElem_append_left (by simp)]; rfl
  | succ i=>
   have hi:i<vs0.length:=by omega
   have:=hA (i+1) (eqv vs0[i]) (by rw [hargs]; simp [hi])
   simp only [Array.getD_eq_getD_getElem?,Array.getElem?_eq_getElem h1,Option.getD_some] at this
   rw [this]
   rw [Array.getElem_append_right (by simp)]
   simp
 subst hvs
 have hrow:=hw.obj 0 _ rfl
 have hfm:l.flatMap e =(l.flatMap ce).map eqv:=by
  rw [List.map_flatMap]
  clear hnil hrun hrow hk hlen hw
  induction l with
  | nil=>rfl
  | cons x l ih=>rw [List.flatMap_cons,List.flatMap_cons,he x (List.mem_cons_self),ih (fun y hy=>he y (List.mem_cons_of_mem _ hy))]
 have hfm':l'.flatMap e =(l'.flatMap ce).map eqv:=by
  rw [List.map_flatMap]
  clear hnil hrun hrow hk hk' hlen hw hone
  induction l' with
  | nil=>rfl
  | cons x l' ih=>rw [List.flatMap_cons,List.flatMap_cons,he' x (List.mem_cons_self),ih (fun y hy=>he' y (List.mem_cons_of_mem _ hy))]
 have hfl:∀ m:List α,(∀ x∈m,(ce x).length=k)->(m.flatMap ce).length=m.length*k:=by
  intro m
  induction m with
  | nil=>intro _; simp
  | cons x m ih=>intro h; rw [List.flatMap_cons,List.length_append,h x (List.mem_cons_self),ih (fun y hy=>h y (List.mem_cons_of_mem _ hy)),List.length_cons,Nat.add_mul]; omega
 by_cases h0:l = []
 ·have hl0:l' = []:=List.eq_nil_of_length_eq_zero (by rw [hlen,h0]; rfl)
  have hslice:∃ p cap,sv = .slice p 0 cap:=by
   rcases hrow with⟨rfl,_⟩ |⟨g,cap,cur,rfl,_⟩
   ·exact⟨_,_,rfl⟩
   ·rw [h0]; exact⟨_,_,rfl⟩
  obtain⟨p,cap,rfl⟩:=hslice
  refine(hnil h0 p cap w).mono ?_
  rintro en w' ⟨rfl,rfl⟩
  refine⟨_,eqv (.tuple #[]),_,r,S,rfl,Evo.refl _ _ _,hw,rfl,l',?_,rfl,rfl⟩
  rw [h0,hl0]
 ·rcases hrow with⟨_,rfl⟩ |⟨g,cap,cur,rfl,hS,hcur,hle,hmax,hsz,hc⟩
  ·exact absurd rfl h0
  ·have hlt:=(Array.getElem?_eq_some_iff.1 hcur).1
   rw [hfm] at hc
   have hc:=ycw hc
   refine(hrun h0 g cap w hlt fun F hF=>yhj hcur ?_).mono ?_
   ·have:F.size=l.length*k:=by rw [<- Array.length_toList,hF,hfl l hk]
    rw [this,hc,hF]
   ·rintro en w' ⟨rfl,n,os,F,hF,rfl⟩
    have hFs:F.size=l.length*k:=by rw [<- Array.length_toList,hF,hfl l' hk',hlen]
    have hb:∀ b,b<w.heap.size->¬ S 0 b->(Sort.grow (Sort.putRow id (Sort.ahead w n) g 0 F) os).heap[b]? = w.heap[b]?:=fun b hb hs=>y2e hb (fun e=>hs (e ▸ hS))
    obtain⟨cur',hcur',hsz',htk⟩:=yby (n:=n) (os:=os) (F:=F) hcur (by rw [hFs,hsz]; exact Nat.mul_le_mul_right _ hle)
    refine⟨_,eqv (.tuple #[]),_,r,_,rfl,hw.evo_repl 0 hb,hw.repl 0 (row E e k l' (.slice (some ⟨g,0,none⟩) l.length cap)) (S 0) (by simp) rfl ⟨rfl,Nat.le_add_right _ _⟩ rfl (by simp [Sort.grow,Sort.putRow,Sort.mapBlock,Sort.ahead]) hb (fun b hb'=>?_) ?_,rfl,l',rfl,rfl,rfl⟩
    ·obtain⟨_,h2,h3,h4⟩:=hw.own 0 b hb'
     refine⟨h2,?_,h4,fun j hj hs=>hj (hw.apart j 0 b hs hb')⟩
     simp [Sort.grow,Sort.putRow,Sort.mapBlock,Sort.ahead]
     omega
    ·refine .inr ⟨g,cap,cur',by rw [hlen],hS,hcur',by omega,hmax,by omega,?_⟩
     rw [hlen,<- hFs,htk,hF,hfm']
     exact zxg fun v hv=>by
      obtain⟨x,hx,hxv⟩:=List.mem_flatMap.1 hv
      exact hone x hx v hxv
theorem yk3 {w w':World} (h:Bel w.heap.size w w'):∃ q os,w'=Sort.grow (w.drewN q) os:=by
 refine⟨w'.drawn-w.drawn,w'.heap.extract w.heap.size w'.heap.size,?_⟩
 have hd:=h.drawn
 have hh:w'.heap=w.heap++w'.heap.extract w.heap.size w'.heap.size:=by
  refine Array.ext_getElem? fun i=>?_
  rw [Array.getElem?_append]
  by_cases hi:i<w.heap.size
  ·rw [if_pos hi,h.block i hi]
  ·rw [if_neg hi,Array.getElem?_extract]
   split
   ·congr 1; omega
   ·rw [Array.getElem?_eq_none (by omega)]
 have h1:=h.os
 have h2:=h.tape
 have h3:=h.output
 cases w'
 cases w
 simp only [Sort.grow,World.drewN] at *
 subst h1; subst h2; subst h3
 congr 1
 omega
def insL {α:Type} (lt:α->α->Bool) (x:α):List α->List α
 | []=>[x]
 | y::l=>bif lt y x then y::insL lt x l else x::y::l
def zky {α:Type} (lt:α->α->Bool):List α->List α
 | []=>[]
 | x::l=>insL lt x (zky lt l)
def pwB {α:Type} (r:α->α->Bool):List α->Bool
 | []=>true
 | x::l=>l.all (r x)&&pwB r l
theorem zpe {α:Type} (lt:α->α->Bool) (x:α):∀ l:List α,(insL lt x l).Perm (x::l)
 | []=>List.Perm.refl _
 | y::l=>by
  simp only [insL]
  cases lt y x with
  | true=>exact((zpe lt x l).cons y).trans (List.Perm.swap x y l)
  | false=>exact List.Perm.refl _
theorem z1q {α:Type} (lt:α->α->Bool):∀ l:List α,(zky lt l).Perm l
 | []=>List.Perm.refl _
 | x::l=>(zpe lt x _).trans ((z1q lt l).cons x)
theorem y4f {α β:Type} (f:α->β) (lt:β->β->Bool):∀ l:List α,(zky (fun a b=>lt (f a) (f b)) l).map f=zky lt (l.map f)
 | []=>rfl
 | x::l=>by
  have ins:∀ m:List α,(insL (fun a b=>lt (f a) (f b)) x m).map f=insL lt (f x) (m.map f):=by
   intro m
   induction m with
   | nil=>rfl
   | cons y m ih=>
    simp only [insL,List.map_cons]
    cases lt (f y) (f x) with
    | true=>simp only [cond_true,List.map_cons,ih]
    | false=>rfl
  simp only [zky,List.map_cons]
  rw [ins,y4f f lt l]
theorem znu {α:Type} {lt:α->α->Bool} (hO:Sort.SWO lt) (x:α):∀ l:List α,l.Pairwise (fun a b=>lt b a=false)->(insL lt x l).Pairwise fun a b=>lt b a=false
 | [],_=>List.pairwise_singleton _ _
 | y::l,h=>by
  rw [List.pairwise_cons] at h
  simp only [insL]
  cases hl:lt y x with
  | true=>
   simp only [cond_true,List.pairwise_cons]
   refine⟨fun z hz=>?_,znu hO x l h.2⟩
   rcases List.mem_cons.1 ((zpe lt x l).mem_iff.1 hz) with rfl | hz
   ·cases hx:lt z y with
    | false=>rfl
    | true=>have:=hO.trans _ _ _ hl hx; rw [hO.irrefl] at this; cases this
   ·exact h.1 z hz
  | false=>
   simp only [cond_false,List.pairwise_cons]
   refine⟨fun z hz=>?_,h.1,h.2⟩
   rcases List.mem_cons.1 hz with rfl | hz
   ·exact hl
   ·exact hO.ntrans _ _ _ (h.1 z hz) hl
theorem zbv {α:Type} {lt:α->α->Bool} (hO:Sort.SWO lt):∀ l:List α,(zky lt l).Pairwise fun a b=>lt b a=false
 | []=>List.Pairwise.nil
 | x::l=>znu hO x _ (zbv hO l)
theorem y8k {α:Type} {r:α->α->Bool} : ∀ {l:List α},pwB r l=true↔l.Pairwise fun a b=>r a b=true
 | []=>by simp [pwB]
 | x::l=>by simp [pwB,y8k (l:=l),List.all_eq_true]
theorem zxs {α:Type} {lt:α->α->Bool} {l l1 l2:List α} (hp:l.Pairwise fun a b=>(lt a b||lt b a)=true) (h1:l1.Perm l) (h2:l2.Perm l) (s1:l1.Pairwise fun a b=>lt b a=false) (s2:l2.Pairwise fun a b=>lt b a=false):l1=l2:=by
 refine List.Perm.eq_of_pairwise (le:=fun a b=>lt b a=false) ?_ s1 s2 (h1.trans h2.symm)
 intro a b ha hb hab hba
 have ha:=h1.mem_iff.1 ha
 have hb:=h2.mem_iff.1 hb
 clear s1 s2 h1 h2
 induction l with
 | nil=>cases ha
 | cons x l ih=>
  rw [List.pairwise_cons] at hp
  rcases List.mem_cons.1 ha with rfl | ha'
  ·rcases List.mem_cons.1 hb with rfl | hb'
   ·rfl
   ·have:=hp.1 b hb'
    rw [hab,hba] at this; cases this
  ·rcases List.mem_cons.1 hb with rfl | hb'
   ·have:=hp.1 a ha'
    rw [hab,hba] at this; cases this
   ·exact ih hp.2 ha' hb'
def ybx {α:Type} (ok:α->Bool) (cf:α->α->Int) (l:List α):Option (List α):=
 bif l.all ok&&Nat.blt l.length 4611686018427387904&&pwB (fun a b=>decide (cf a b<0)||decide (cf b a<0)) l then some (zky (fun a b=>decide (cf a b<0)) l) else none
theorem yhw {α:Type} {ok:α->Bool} {cf:α->α->Int} {l l':List α} (h:ybx ok cf l=some l') :
  (∀ y∈l,ok y=true)/\l.length<4611686018427387904/\(l.Pairwise fun a b=>(decide (cf a b<0)||decide (cf b a<0))=true)/\l'=zky (fun a b=>decide (cf a b<0)) l:=by
 unfold ybx at h
 cases hc :(l.all ok&&Nat.blt l.length 4611686018427387904&&pwB (fun a b=>decide (cf a b<0)||decide (cf b a<0)) l) with
 | false=>rw [hc] at h; cases h
 | true=>
  rw [hc] at h
  simp only [Bool.and_eq_true,Nat.blt_eq,List.all_eq_true] at hc
  exact⟨hc.1.1,hc.1.2,y8k.1 hc.2,(Option.some.inj h).symm⟩
theorem yia {α:Type} {ok:α->Bool} {cf:α->α->Int} {l:List α} (h1:∀ y∈l,ok y=true) (h2:l.length<4611686018427387904) (h3:l.Pairwise fun a b=>cf a b<0\/cf b a<0):ybx ok cf l=some (zky (fun a b=>decide (cf a b<0)) l):=by
 unfold ybx
 have :(l.all ok&&Nat.blt l.length 4611686018427387904&&pwB (fun a b=>decide (cf a b<0)||decide (cf b a<0)) l)=true:=by
  simp only [Bool.and_eq_true,Nat.blt_eq,List.all_eq_true]
  exact⟨⟨h1,h2⟩,y8k.2 (h3.imp fun h=>by simpa using h)⟩
 rw [this]; rfl
theorem y7q {α:Type} {ok:α->Bool} (l:List α) (hok:∀ y∈l,ok y=true) :(l.attach.map fun y=>(⟨y.1,hok y.1 y.2⟩ : {y:α // ok y=true})).map (·.1)=l:=by
 rw [List.map_map]
 conv=>rhs; rw [<- List.attach_map_subtype_val l]
 rfl
theorem ye0 {V:TE} {P:Program} {ρ:Shelf.Ren} (L:Proofs.SlLaysF0.n6 P ρ) {E c g:Nat} (hag:∀ w,(isAgg (ρ.t 24)).run P w = .ok true w) (hsz:∀ w,(Go.sizeOf (ρ.t 24)).run P w = .ok (V.sz c) w) (hfl:V.fl c=true) (hagg:z8j (V.d c)=true) (hg:FnOK P g)
  {ok:V.T c->Bool} {cf:V.T c->V.T c->Int} (hO:Sort.SWO (Proofs.ltOf fun a b : {y:V.T c // ok y=true}=>cf a.1 b.1))
  (hcmp:∀ a b,ok a=true->ok b=true->zsm P g [V.vl c a,V.vl c b] fun x news=>x=iv .i64 (cf a b)/\news = []):yf9 V P (ρ.f 6) ⟨E,c,[g],ybx ok cf⟩:=by
 intro l l' sv hF
 obtain⟨hok,hlen,hpw,rfl⟩:=yhw hF
 refine yat (vs0:=[.func (.func g) #[] #[]]) (ce:=V.cv c) (fun x _=>ykp hfl x) (fun x _=>ykp hfl x) (fun x _=>yf6 hfl x) (fun x _=>y4h hfl x) (fun x _=>y4h hfl x) (z1q _ _).length_eq rfl ?_ ?_
 ·intro _ p cap w
  exact Proofs.AnyF.slices_SortFunc_none L p cap _ w
 ·intro hne b cap w hlt hH
  generalize hd :(l.attach.map fun y=>(⟨y.1,hok y.1 y.2⟩ : {y:V.T c // ok y=true}))=d
  have hv:d.map (·.1)=l:=by rw [<- hd]; exact y7q _ hok
  have hd0:d≠[]:=fun e=>hne (by rw [<- hv,e]; rfl)
  obtain⟨x0,hx0⟩:=List.exists_mem_of_ne_nil d hd0
  let _:Inhabited {y:V.T c // ok y=true}:=⟨x0⟩
  have hs:d.toArray.size=l.length:=by rw [<- hv]; simp
  have eg:∀ args w,(callFunc g args).run P w = .ok (.enter g args) w:=by
   obtain⟨fn,h1,h2,h3⟩:=hg
   obtain⟨cd,h3⟩:=Option.isSome_iff_exists.1 h3
   exact Proofs.enters_of h1 h2 h3
  have hfm:∀ q:List {y:V.T c // ok y=true},q.flatMap (fun y=>V.cv c y.1) =(q.map (·.1)).flatMap (V.cv c):=fun q=>by rw [List.flatMap_map]
  have hrun:=Proofs.AnyQ.slices_SortFunc L (V.sz c) hag hsz (fun y : {y:V.T c // ok y=true}=>V.cv c y.1) (fun y=>y4h hfl y.1) (fun y=>yf6 hfl y.1) (fun a b=>cf a.1 b.1) hO g #[] b 0 cap d.toArray w eg ?_ (hH _ ?_) hlt (by rw [hs]; exact hlen)
  ·rw [hs] at hrun
   refine hrun.mono ?_
   rintro e w' ⟨rfl,d',n,os,⟨k1,_,k3⟩,k4,rfl⟩
   refine⟨rfl,n,os,_,?_,rfl⟩
   rw [zxm (e:=fun y : {y:V.T c // ok y=true}=>V.cv c y.1) (fun y=>y4h hfl y.1),hfm]
   have hdl:d'.size=l.length:=by rw [k1,hs]
   have e1:d'.extract 0 l.length=d':=by rw [<- hdl]; exact Array.extract_size
   have e2:d.toArray.extract 0 l.length=d.toArray:=by rw [<- hs]; exact Array.extract_size
   rw [e1,e2] at k3
   have k3:d'.toList.Perm d:=by simpa using k3
   have key:d'.toList=zky (Proofs.ltOf fun a b : {y:V.T c // ok y=true}=>cf a.1 b.1) d:=by
    refine zxs (l:=d) (lt:=Proofs.ltOf fun a b : {y:V.T c // ok y=true}=>cf a.1 b.1) ?_ k3 (z1q _ _) ?_ (zbv hO _)
    ·rw [<- hv] at hpw
     exact List.pairwise_map.1 hpw
    ·rw [List.pairwise_iff_getElem]
     intro i j hi hj hij
     have hi':i<d'.size:=by simpa using hi
     have hj':j<d'.size:=by simpa using hj
     have:=k4 i j (Nat.zero_le _) hij (by omega)
     rw [getElem!_pos d' i hi',getElem!_pos d' j hj'] at this
     simpa using this
   have hm:=y4f (fun y : {y:V.T c // ok y=true}=>y.1) (fun a b=>decide (cf a b<0)) d
   rw [hv] at hm
   rw [key,<- hm]
   rfl
  ·intro m os dk _ y z
   have hp:=hcmp y.1 z.1 y.2 z.2 (fun _=>False) (Proofs.sortWorldK (fun y : {y:V.T c // ok y=true}=>V.cv c y.1) (V.sz c) w b 0 m dk os) (#[.agg (V.cv c y.1).toArray,.agg (V.cv c z.1).toArray]++#[]) (fun _ h=>h.elim) rfl ?_
   ·refine hp.mono ?_
    rintro e w' ⟨v,u,objs,r',S',rfl,_,hw',hu,rfl,_⟩
    have hu:v = .int .i64 (cf y.1 z.1):=hu
    subst hu
    exact⟨rfl,yk3 hw'.below⟩
   ·intro i A hi
    have one:∀ q:V.T c,(V.vl c q).h (fun _=>False) (Proofs.sortWorldK (fun y : {y:V.T c // ok y=true}=>V.cv c y.1) (V.sz c) w b 0 m dk os) (.agg (V.cv c q).toArray):=fun q=>by
     rw [zx8 q hagg]
     refine⟨_,rfl,?_⟩
     rw [ykp hfl]
     exact zxg (yf6 hfl q)
    match i,hi with
    | 0,hi=>cases hi; exact one y.1
    | 1,hi=>cases hi; exact one z.1
    | i+2,hi=>simp at hi
  ·rw [zxm (e:=fun y : {y:V.T c // ok y=true}=>V.cv c y.1) (fun y=>y4h hfl y.1),hfm,List.toList_toArray,hv]
theorem yfw {α:Type} [Inhabited α] {enc:α->Value} {w:World} {b o:Nat} {d:Array α} (h:Sort.Holds id w b o (d.map enc)):Sort.Holds enc w b o d:=by
 intro j hj
 have:=h j (by simpa using hj)
 rw [getElem!_pos _ j (by simpa using hj)] at this
 rw [getElem!_pos d j hj]
 simpa using this
theorem ybo {α:Type} [Inhabited α] {enc:α->Value} {w:World} {b o:Nat} {d:Array α} : Sort.putRow enc w b o d=Sort.putRow id w b o (d.map enc):=by
 unfold Sort.putRow
 congr 1
 funext cur
 unfold Sort.putCells
 congr 1
 funext k x
 simp only [Array.size_map]
 split
 ·rename_i h
  have h1:k-o<d.size:=by omega
  rw [getElem!_pos d _ h1,getElem!_pos _ _ (by simpa using h1)]
  simp
 ·rfl
def zt0 (l:List Int):Option (List Int):=if l.length<4611686018427387904 then some (zky (fun a b=>decide (a<b)) l) else none
theorem yp5:Sort.SWO (fun a b:Int=>decide (a<b)) where
 irrefl:=fun x=>by simp
 trans:=fun x y z h1 h2=>by simp at *; omega
 ntrans:=fun x y z h1 h2=>by simp at *; omega
theorem y7h (l:List Int):l.mergeSort (fun x y=>decide (x<=y))=zky (fun a b=>decide (a<b)) l:=by
 refine List.Perm.eq_of_pairwise (le:=fun a b:Int=>a<=b) (fun a b _ _ h1 h2=>by omega) ?_ ?_ ((List.mergeSort_perm _ _).trans (z1q _ _).symm)
 ·have:=List.pairwise_mergeSort (le:=fun x y:Int=>decide (x<=y)) (by intro a b c h1 h2; simp at *; omega) (by intro a b; simp; omega) l
  exact this.imp fun h=>by simpa using h
 ·exact(zbv yp5 l).imp fun h=>by simpa using h
theorem y5u {P:Program} {ρ:Shelf.Ren} (L:Proofs.Lays.n189 P ρ) {E:Nat} {l l':List Int} {sv:Value} (hF:zt0 l=some l'):MutT P (ρ.f 189) [eqv sv] E (fun n:Int=>[iv .i64 n]) 1 l sv fun x l2=>x=eqv (.tuple #[])/\l2=l':=by
 unfold zt0 at hF
 split at hF
 ·rename_i hl
  have:=Option.some.inj hF
  subst this
  have hfm:∀ q:List Int,q.flatMap (fun n=>[Value.int .i64 n])=q.map (Value.int .i64):=fun q=>by induction q with
   | nil=>rfl
   | cons x q ih=>rw [List.flatMap_cons,ih]; rfl
  refine yat (args:=[]) (vs0:=[]) (ce:=fun n=>[.int .i64 n]) (fun x _=>rfl) (fun x _=>rfl) (fun x _ v hv=>by simp only [List.mem_singleton] at hv; subst hv; rfl) (fun x _=>rfl) (fun x _=>rfl) (z1q _ _).length_eq rfl ?_ ?_
  ·intro _ p cap w
   exact Proofs.Any.slices_Sort_int_none L p cap w
  ·intro hne b cap w hlt hH
   refine(Proofs.Any.slices_Sort_int L b 0 cap l w (yfw (hH _ ?_)) hlt hl).mono ?_
   ·rw [hfm]; simp
   ·rintro e w' ⟨rfl,n,os,rfl⟩
    refine⟨rfl,n,os,_,?_,by rw [ybo]⟩
    rw [hfm,y7h]; simp
 ·cases hF
end Px
end
section
namespace Px
open Go Go.RowKit Go.ChangeShapes Go.WideShapes Go.ChangeAt
section
variable {T:Nat->Type}
def rT (g :(c:Nat)->T c->Prop) :(fs:List Nat)->Tup T fs->Prop
 | [],_=>True
 | [c],x=>g c x.1
 | c::cs,x=>g c x.1/\rT g cs x.2
def rD (g :(c:Nat)->T c->Prop) : {α:Type}->Ds T α->α->Prop
 | _,.int k,x=>RI k x
 | _,.bool,_=>True
 | _,.str,x=>x.size<=maxLen
 | _,.sl c,x=>RL (g c) x
 | _,.arr n c,x=>∀ i,i<n->g c (x i)
 | _,.st fs _ un _,x=>rT g fs (un x)
theorem yom {g :(c:Nat)->T c->Prop} {c:Nat} : ∀ {cs:List Nat} {x:T c×Tup T cs},g c x.1->rT g cs x.2->rT g (c::cs) x
 | [],_,h,_=>h
 | _::_,_,h,k=>⟨h,k⟩
end
section
variable (V:TE) (P:Program)
def rdN:Nat->(c:Nat)->V.T c->Prop
 | 0,_,_=>True
 | n+1,c,x=>rD (rdN n) (V.d c) x
def opF (g:TypeId->Nat->Bool):List Nat->List (TypeId×Nat×Nat)->Nat->Nat->Bool
 | [],[],o,m=>Nat.beq o m
 | c::cs,(ty,off,m)::l,o,e=>Nat.beq off o&&Nat.beq m (V.sz c)&&g ty c&&opF g cs l (o+m) e
 | _,_,_,_=>false
def opD (g:TypeId->Nat->Bool) : {α:Type}->Ds V.T α->TypeId->Bool
 | _,.int k,t=>match P.underlying t with | some (.int k')=>decide (k'=k) | _=>false
 | _,.bool,t=>match P.underlying t with | some .bool=>true | _=>false
 | _,.str,t=>match P.underlying t with | some .string=>true | _=>false
 | _,.sl c,t=>match P.underlying t with | some (.slice E)=>Nat.beq (P.cellsOf E) (V.sz c)&&Nat.blt 0 (V.sz c)&&g E c | _=>false
 | _,.arr n c,t=>match P.underlying t with | some (.array N E)=>Nat.beq N n&&Nat.beq (P.cellsOf E) (V.sz c)&&Nat.beq (P.cellsOf t) (n*V.sz c)&&g E c | _=>false
 | _,.st fs _ _ _,t=>match zyc P t with | some l=>opF V g fs l 0 (P.cellsOf t) | none=>false
def opN:Nat->TypeId->Nat->Bool
 | 0,_,_=>false
 | n+1,t,c=>opD V P (opN n) (V.d c) t
def yo4 (n:Nat):List TypeId->List Nat->Bool
 | [],[]=>true
 | t::ts,c::cs=>opN V P n t c&&yo4 n ts cs
 | _,_=>false
def ynq (n:Nat) :(cs:List Nat)->Tup V.T cs->Prop
 | [],_=>True
 | c::cs,x=>rdN V n c x.1/\ynq n cs x.2
variable {V P}
theorem yma:∀(n:Nat) (t:TypeId) (c:Nat),opN V P n t c=true->Opn P t (V.sz c) (V.ev c) (rdN V n c)
 | 0,_,_,h=>by cases h
 | n+1,t,c,h=>by
  have ih:=yma n
  have hev:V.ev c=evD V.ev V.sz (V.d c):=funext fun x=>V.ev_eq c x
  have hr:rdN V (n+1) c=rD (rdN V n) (V.d c):=rfl
  rw [hev,V.sz_eq,hr]
  change opD V P (opN V P n) (V.d c) t=true at h
  revert h
  clear hev hr
  generalize V.d c=d
  revert d
  generalize V.T c=α
  intro d h
  cases d with
  | int k=>
   simp only [opD] at h
   split at h
   ·rename_i k' hu
    simp only [decide_eq_true_eq] at h
    subst h
    exact Opn.int hu
   ·cases h
  | bool=>
   simp only [opD] at h
   split at h
   ·rename_i hu; exact Opn.bool hu
   ·cases h
  | str=>
   simp only [opD] at h
   split at h
   ·rename_i hu; exact Opn.string hu
   ·cases h
  | sl c'=>
   simp only [opD] at h
   split at h
   ·rename_i E hu
    simp only [Bool.and_eq_true,Nat.blt_eq] at h
    obtain⟨⟨h1,h2⟩,h3⟩:=h
    exact Opn.slice hu (Nat.eq_of_beq_eq_true h1) h2 (ih E c' h3)
   ·cases h
  | arr m c'=>
   simp only [opD] at h
   split at h
   ·rename_i N E hu
    simp only [Bool.and_eq_true] at h
    obtain⟨⟨⟨h1,h2⟩,h3⟩,h4⟩:=h
    have h1:=Nat.eq_of_beq_eq_true h1
    subst h1
    have:Inhabited (V.T c'):=⟨V.z c'⟩
    exact Opn.array hu (Nat.eq_of_beq_eq_true h2) (Nat.eq_of_beq_eq_true h3) rfl (ih E c' h4)
   ·cases h
  | st fs mk un law=>
   simp only [opD] at h
   split at h
   ·rename_i l hl
    intro H enc w sp held fuel cs x hx
    obtain⟨hlen,m,hf⟩:=y8e hl hx
    have key:∀(fs:List Nat) (l':List (TypeId×Nat×Nat)) (o:Nat),opF V (opN V P n) fs l' o (P.cellsOf t)=true->(∀(i:Nat) (ty:TypeId) (off m':Nat),l'[i]? = some (ty,off,m')->∃ y,DataW.trod enc P w 0 sp held m ty ((cs.drop off).take m')=some y)->
      o+fs.foldr (fun c s=>V.sz c+s) 0=P.cellsOf t/\∃ y:Tup V.T fs,rT (rdN V n) fs y/\zu (fun b=>b<w.heap.size) w (evT V.ev fs y) (cs.drop o):=by
     intro fs
     induction fs with
     | nil=>
      intro l' o h hf
      cases l' with
      | nil=>
       have:=Nat.eq_of_beq_eq_true h
       subst this
       exact⟨rfl,(),trivial,zu.tile0 hlen⟩
      | cons a l'=>cases h
     | cons c cs' ihf=>
      intro l' o h hf
      cases l' with
      | nil=>cases h
      | cons a l'=>
       obtain⟨ty,off,m'⟩:=a
       simp only [opF,Bool.and_eq_true] at h
       obtain⟨⟨⟨h1,h2⟩,h3⟩,h4⟩:=h
       have h1:=Nat.eq_of_beq_eq_true h1
       have h2:=Nat.eq_of_beq_eq_true h2
       subst h1; subst h2
       obtain⟨y0,hy0⟩:=hf 0 _ _ _ rfl
       obtain⟨_,y,hR,hc⟩:=ih ty c h3 _ _ _ _ _ _ _ _ hy0
       obtain⟨he,z,hz,hcz⟩:=ihf l' _ h4 (fun i ty off m' hi=>hf (i+1) ty off m' hi)
       refine⟨by simp only [List.foldr_cons]; omega,(y,z),yom hR hz,?_⟩
       exact zu.tile hc hcz
    obtain⟨he,y,hy,hc⟩:=key fs l 0 h hf
    rw [List.drop_zero] at hc
    refine⟨by rw [hlen,<- he,Nat.zero_add]; rfl,mk y,?_,?_⟩
    ·show rT _ fs (un (mk y))
     rw [law]; exact hy
    ·show zu _ _ (evT V.ev fs (un (mk y))) cs
     rw [law]; exact hc
   ·cases h
theorem ypg {H:Type} {enc:TypeId×Value->H} {W:World} {sp:Nat->Bool} {held:Bool} {base n:Nat} {t:TypeId} {c:Nat} {v:Value} {d:DataW H} {p:List MemPlace}
  (ho:opN V P n t c=true) (hv:Value.okWide P W .any base t v) (h:DataW.Trod enc P W 0 sp held t v d p):∃ y,rdN V n c y/\(V.vl c y).h (fun b=>b<W.heap.size) W v:=by
 cases n with
 | zero=>cases ho
 | succ n=>
 obtain⟨fuel,hf⟩:=h
 obtain⟨_,y,hR,hc⟩:=yma _ _ _ ho _ _ _ _ _ _ _ _ hf
 refine⟨y,hR,?_⟩
 change opD V P (opN V P n) (V.d c) t=true at ho
 unfold Value.okWide at hv
 cases ha:z8j (V.d c) with
 | true=>
  rw [zx8 y ha]
  have hs:∃ cs,v = .agg cs:=by
   revert ho ha
   generalize V.d c=d
   generalize V.T c=α at d
   intro ho ha
   cases d with
   | arr m c'=>
    simp only [opD] at ho
    split at ho
    ·rename_i N E hu
     rw [hu] at hv
     obtain⟨cs,rfl,_⟩:=hv
     exact⟨cs,rfl⟩
    ·cases ho
   | st fs mk un law=>
    simp only [opD,zyc] at ho
    cases hu:P.underlying t with
    | none=>rw [hu] at ho; cases ho
    | some X=>
     rw [hu] at ho hv
     cases X with
     | struct fs'=>obtain⟨cs,rfl,_⟩:=hv; exact⟨cs,rfl⟩
     | _=>cases ho
   | _=>cases ha
  obtain⟨cs,rfl⟩:=hs
  exact⟨cs,rfl,hc⟩
 | false=>
  rw [zx6 y ha] at hc
  have hcell:v.cells.toList = [v]:=by
   revert ho ha
   generalize V.d c=d
   generalize V.T c=α at d
   intro ho ha
   cases d with
   | int k=>
    simp only [opD] at ho
    split at ho
    ·rename_i k' hu
     rw [hu] at hv
     cases v <;> first | rfl |(exfalso; simp [Cell.okWide,Cell.ok,hu] at hv)
    ·cases ho
   | bool=>
    simp only [opD] at ho
    split at ho
    ·rename_i hu
     rw [hu] at hv
     cases v <;> first | rfl |(exfalso; simp [Cell.okWide,Cell.ok,hu] at hv)
    ·cases ho
   | str=>
    simp only [opD] at ho
    split at ho
    ·rename_i hu
     rw [hu] at hv
     cases v <;> first | rfl |(exfalso; simp [Cell.okWide,Cell.ok,hu] at hv)
    ·cases ho
   | sl c'=>
    simp only [opD] at ho
    split at ho
    ·rename_i E hu
     rw [hu] at hv
     cases v <;> first | rfl |(exfalso; simp [Cell.okWide,Cell.ok,hu] at hv)
    ·cases ho
   | arr m c'=>cases ha
   | st fs mk un law=>cases ha
  rw [hcell] at hc
  obtain⟨u,hu',hA,_⟩:=hc.2 0 (V.vl c y) rfl
  simp at hu'
  subst hu'
  exact hA
theorem yfi {H:Type} {enc:TypeId×Value->H} {W:World} {sp:Nat->Bool} {held:Bool} {base n:Nat} : ∀ {ts:List TypeId} {cs:List Nat} {vs:List Value} {ds:List (DataW H)} {ps:List MemPlace},
  yo4 V P n ts cs=true->DataW.TrodAll enc P W 0 sp held ts vs ds ps->(∀(j:Nat) t v,ts[j]? = some t->vs[j]? = some v->Value.okWide P W .any base t v)->
  vs.length=cs.length/\∃ x:Tup V.T cs,ynq V n cs x/\∀(i:Nat) (A:VP),(vls V cs x)[i]? = some A->A.h (fun b=>b<W.heap.size) W (vs.getD i undef)
 | [],[],vs,ds,ps,_,h,_=>by
  cases vs with
  | nil=>exact⟨rfl,(),trivial,fun i A hi=>by simp [vls] at hi⟩
  | cons v vs=>cases ds <;> exact h.elim
 | t::ts,c::cs,vs,ds,ps,ho,h,hv=>by
  simp only [yo4,Bool.and_eq_true] at ho
  cases vs with
  | nil=>cases ds <;> exact h.elim
  | cons v vs=>
   cases ds with
   | nil=>exact h.elim
   | cons d ds=>
    obtain⟨p,q,h1,h2,_⟩:=h
    obtain⟨y,hR,hA⟩:=ypg ho.1 (hv 0 t v rfl rfl) h1
    obtain⟨hl,x,hx,hxs⟩:=yfi ho.2 h2 (fun j t v ht hvj=>hv (j+1) t v ht hvj)
    refine⟨by simp [hl],(y,x),⟨hR,hx⟩,fun i A hi=>?_⟩
    cases i with
    | zero=>simp only [vls,List.getElem?_cons_zero,Option.some.injEq] at hi; subst hi; exact hA
    | succ i=>simp only [vls,List.getElem?_cons_succ] at hi; simpa using hxs i A hi
 | [],_::_,_,_,_,ho,_,_=>by cases ho
 | _::_,[],_,_,_,ho,_,_=>by cases ho
theorem zvh {H:Type} {enc:TypeId×Value->H} {P:Program} {W:World} {b:Nat} {sp:Nat->Bool} {held:Bool} : ∀ {ts:List TypeId} {vs:List Value} {ds:List (DataW H)} {ps:List MemPlace},DataW.TrodAll enc P W b sp held ts vs ds ps->ds.length=ts.length
 | [],[],[],_,_=>rfl
 | t::ts,v::vs,d::ds,ps,⟨p,q,_,h,_⟩=>by simp [zvh h]
 | [],_::_,_,_,h=>h.elim
 | [],[],_::_,_,h=>h.elim
 | _::_,[],_,_,h=>h.elim
 | _::_,_::_,[],_,h=>h.elim
theorem yef:∀(cs:List Nat) (x:Tup V.T cs),(vls V cs x).length=cs.length
 | [],_=>rfl
 | c::cs,x=>by simp only [vls,List.length_cons,yef cs]
theorem yqr {f:FuncId} {sp:Fsp V} {W:World} {vs:Array Value} {x:Tup V.T sp.args} {r:RTup V.T sp.res} (hf:z02 V P f sp) (hr:sp.F x=some r) (hres:∀ B:Asg,(resV V (encR V 0 sp.res r)).den V P B=bv true) (hno:newR V sp.res r = [])
  (hl:vs.toList.length=sp.args.length) (hA:∀(i:Nat) (A:VP),(vls V sp.args x)[i]? = some A->A.h (fun b=>b<W.heap.size) W (vs.toList.getD i undef)):Calls P f vs W (fun e W'=>e = .returned (.bool true)/\Below W.heap.size W W'):=by
 refine ydr (As:=vls V sp.args x) ((hf x r hr).mono ?_) (by rw [yef]; simpa using hl) (fun i A hi=>?_)
 ·rintro y news ⟨B,hB,rfl,rfl⟩
  rw [hno] at hB ⊢
  refine⟨hres B,?_⟩
  cases B <;> rfl
 ·have:=hA i A hi
  simpa [Array.getD_eq_getD_getElem?,List.getD_eq_getElem?_getD] using this
end
theorem z0z.same {R:Type} {x:Option R} {n:Nat} {y:Option (List (Option R))} (h:y=some (List.replicate n x)):z0z x y:=
 ⟨fun r hr=>⟨_,h,fun a ha=>by rw [(List.mem_replicate.1 ha).2,hr]⟩⟩
theorem z0z.ck {R:Type} {p:Prop} [Decidable p] {x:Option R} {y:Option (List (Option R))} (h:z0z x y):z0z (Px.ck p x) (Px.ck p y):=
 ⟨fun r hr=>by
  unfold Px.ck at *
  split at hr
  ·rename_i hp; simp only [if_pos hp]; exact h.ok r hr
  ·cases hr⟩
theorem z0z.bind {R α:Type} {m:Option α} {f:α->Option R} {g:α->Option (List (Option R))} (h:∀ a,z0z (f a) (g a)):z0z (m.bind f) (m.bind g):=
 ⟨fun r hr=>by
  cases m with
  | none=>cases hr
  | some a=>exact(h a).ok r hr⟩
theorem z0z.one {R:Type} {x:Option R} : z0z x (some [x]):=⟨fun r hr=>⟨_,rfl,fun a ha=>by rw [List.mem_singleton.1 ha,hr]⟩⟩
theorem z0z.nil {R:Type} {x:Option R} : z0z x (catL []):=⟨fun r hr=>⟨[],rfl,fun a ha=>by cases ha⟩⟩
theorem z0z.cons {R:Type} {x:Option R} {y:Option (List (Option R))} {l:List (Option (List (Option R)))} (h:z0z x y) (hl:z0z x (catL l)):z0z x (catL (y::l)):=
 ⟨fun r hr=>by
  obtain⟨a,ha,h1⟩:=h.ok r hr
  obtain⟨b,hb,h2⟩:=hl.ok r hr
  refine⟨a++b,by simp only [catL,ha,hb,cat2],fun z hz=>?_⟩
  rcases List.mem_append.1 hz with hz | hz
  ·exact h1 z hz
  ·exact h2 z hz⟩
end Px
end
section
set_option maxHeartbeats 4000000
set_option maxRecDepth 100000
namespace Px
open Go Go.RowKit
def z0e:ByteArray:=⟨#[0,1,2,2,3,3,3,3,4,4,4,4,4,4,4,4,5,5,5,5,5,5,5,5,5,5,5,5,5,5,5,5,6,6,6,6,6,6,6,6,6,6,6,6,6,6,6,6,6,6,6,6,6,6,6,6,6,6,6,6,6,6,6,6,7,7,7,7,7,7,7,7,7,7,7,7,7,7,7,7,7,7,7,7,7,7,7,7,7,7,7,7,7,7,7,7,7,7,7,7,7,7,7,7,7,7,7,7,7,7,7,7,7,7,7,7,7,7,7,7,7,7,7,7,7,7,7,7,8,8,8,8,8,8,8,8,8,8,8,8,8,8,8,8,8,8,8,8,8,8,8,8,8,8,8,8,8,8,8,8,8,8,8,8,8,8,8,8,8,8,8,8,8,8,8,8,8,8,8,8,8,8,8,8,8,8,8,8,8,8,8,8,8,8,8,8,8,8,8,8,8,8,8,8,8,8,8,8,8,8,8,8,8,8,8,8,8,8,8,8,8,8,8,8,8,8,8,8,8,8,8,8,8,8,8,8,8,8,8,8,8,8,8,8,8,8,8,8,8,8,8,8,8,8,8,8]⟩
def zlj:ByteArray:=⟨#[119,111,102]⟩
def zef:ByteArray:=⟨#[119,112,102,116]⟩
def z6a:ByteArray:=⟨#[119,112,111,102,99]⟩
def zmz:ByteArray:=⟨#[110,119,111,112,100,107,103,102]⟩
def zet:ByteArray:=⟨#[119,112,111,102]⟩
def zn6:ByteArray:=⟨#[119,102,99]⟩
def zn5:ByteArray:=⟨#[119,112,102,116,99,97,113]⟩
def ztq:ByteArray:=⟨#[111,113]⟩
def zk2:ByteArray:=⟨#[110,102,120]⟩
def zuy:ByteArray:=⟨#[110,102]⟩
def zn4:ByteArray:=⟨#[111,112,107,110,103,102,116,97]⟩
def z3q:ByteArray:=⟨#[119,112,111,110,102,116,99,100,107,103,97]⟩
structure Ref where
 railway:Int
 no:Int
instance:Inhabited Ref:=⟨⟨0,0⟩⟩
structure zk where
 wagon:Int
 place:Int
 ref:Ref
 stay:Bool
 early:Int
 late:Int
instance:Inhabited zk:=⟨⟨0,0,default,false,0,0⟩⟩
structure z6 where
 visit:zk
 report:Int
 second:Bool
 stay:Bool
 reader:Int
instance:Inhabited z6:=⟨⟨default,0,false,false,0⟩⟩
structure Part where
 kind:Int
 serial:Int
 fitted:Bool
instance:Inhabited Part:=⟨⟨0,0,false⟩⟩
structure Item where
 kind:Int
 ref:Ref
 wagon:Int
 place:Int
 other:Int
 number:Int
 from_:Int
 to:Int
 code:Int
 dest:Int
 class_:Int
 weight:Int
 amount:Int
 text:ByteArray
 parts :(List Part)
instance:Inhabited Item:=⟨⟨0,default,0,0,0,0,0,0,0,0,0,0,0,⟨#[]⟩,[]⟩⟩
structure zd where
 ref:Ref
 by_:Ref
 time:Int
 item:Item
instance:Inhabited zd:=⟨⟨default,default,0,default⟩⟩
structure z8o where
 kind:Int
 railway:Int
 other:Int
instance:Inhabited z8o:=⟨⟨0,0,0⟩⟩
structure Edge where
 a:Int
 b:Int
 railway:Int
 minutes:Int
 km:Int
instance:Inhabited Edge:=⟨⟨0,0,0,0,0⟩⟩
structure ze where
 places :(List z8o)
 edges :(List Edge)
instance:Inhabited ze:=⟨⟨[],[]⟩⟩
structure z3e where
 load:Int
 tare:Int
 length:Int
 gauge:Int
 brake:Int
 classes:Int
 life:Int
 floor:Int
instance:Inhabited z3e:=⟨⟨0,0,0,0,0,0,0,0⟩⟩
structure ztp where
 type_:Int
 owner:Int
 home:Int
 built:Int
 worth:Int
instance:Inhabited ztp:=⟨⟨0,0,0,0,0⟩⟩
structure Swap where
 wanted:Int
 given:Int
 cost:Int
instance:Inhabited Swap:=⟨⟨0,0,0⟩⟩
structure Wash where
 from_:Int
 to:Int
 minutes:Int
instance:Inhabited Wash:=⟨⟨0,0,0⟩⟩
structure zc8 where
 types :(List z3e)
 wagons :(List ztp)
 swaps :(List Swap)
 washes :(List Wash)
instance:Inhabited zc8:=⟨⟨[],[],[],[]⟩⟩
structure z26 where
 place:Int
 low:Int
 high:Int
instance:Inhabited z26:=⟨⟨0,0,0⟩⟩
structure zj5 where
 place:Int
instance:Inhabited zj5:=⟨⟨0⟩⟩
structure Span where
 from_:Int
 to:Int
instance:Inhabited Span:=⟨⟨0,0⟩⟩
structure z5n where
 open_ :(Nat->Span)
 holidays :(List Int)
instance:Inhabited z5n:=⟨⟨fun _=>default,[]⟩⟩
structure z5o where
 key:Int
 calendar:z5n
instance:Inhabited z5o:=⟨⟨0,default⟩⟩
structure Pool where
 network:ze
 fleet:zc8
 readers :(List z26)
 shippers :(List zj5)
 railways :(List z5o)
instance:Inhabited Pool:=⟨⟨default,default,[],[],[]⟩⟩
structure zl where
 p:Pool
 it:Item
 ok:Bool
instance:Inhabited zl:=⟨⟨default,default,false⟩⟩
structure z8 where
 i:Int
 j:Int
 w:Int
instance:Inhabited z8:=⟨⟨0,0,0⟩⟩
structure z0h where
 wagon:Int
 place:Int
 var:Int
 ref:Ref
 stay:Bool
instance:Inhabited z0h:=⟨⟨0,0,0,default,false⟩⟩
structure zn where
 vars:Int
 bounds :(List z8)
 why :(List (Nat->Ref))
 events :(List z0h)
instance:Inhabited zn:=⟨⟨0,[],[],[]⟩⟩
structure zi1 where
 problem:zn
instance:Inhabited zi1:=⟨⟨default⟩⟩
structure zb where
 place:Int
 time:Int
 ref:Ref
 second:Bool
 from_:Int
 stay:Bool
 reader:Int
 covers:Bool
instance:Inhabited zb:=⟨⟨0,0,default,false,0,false,0,false⟩⟩
structure zhk where
 place:Int
 delay:Int
 wait:Int
 kind:Int
instance:Inhabited zhk:=⟨⟨0,0,0,0⟩⟩
def TT:Nat->Type
 | 0=>Int
 | 1=>Ref
 | 2=>Bool
 | 3=>zk
 | 4=>z6
 | 5=>(List Int)
 | 6=>ByteArray
 | 7=>Part
 | 8=>(List Part)
 | 9=>Item
 | 10=>zd
 | 11=>z8o
 | 12=>(List z8o)
 | 13=>Edge
 | 14=>(List Edge)
 | 15=>ze
 | 16=>Int
 | 17=>z3e
 | 18=>(List z3e)
 | 19=>ztp
 | 20=>(List ztp)
 | 21=>Swap
 | 22=>(List Swap)
 | 23=>Wash
 | 24=>(List Wash)
 | 25=>zc8
 | 26=>z26
 | 27=>(List z26)
 | 28=>zj5
 | 29=>(List zj5)
 | 30=>Span
 | 31=>(Nat->Span)
 | 32=>z5n
 | 33=>z5o
 | 34=>(List z5o)
 | 35=>Pool
 | 36=>(Nat->Bool)
 | 37=>zl
 | 38=>(List zd)
 | 39=>(List z6)
 | 40=>(List (List z6))
 | 41=>(Nat->Int)
 | 42=>z8
 | 43=>(List z8)
 | 44=>(Nat->Ref)
 | 45=>(List (Nat->Ref))
 | 46=>z0h
 | 47=>(List z0h)
 | 48=>zn
 | 49=>zi1
 | 50=>Int
 | 51=>(List zk)
 | 52=>(List Bool)
 | 53=>Int
 | 54=>zb
 | 55=>(List zb)
 | 56=>zhk
 | 57=>(Nat->Int)
 | 58=>(List zhk)
 | _=>Unit
def TD :(c:Nat)->Ds TT (TT c)
 | 0=>.int .i64
 | 1=>.st [0,0] (fun t=>⟨t.1,t.2.1⟩) (fun x=>(x.railway,x.no,())) (fun _=>rfl)
 | 2=>.bool
 | 3=>.st [0,0,1,2,0,0] (fun t=>⟨t.1,t.2.1,t.2.2.1,t.2.2.2.1,t.2.2.2.2.1,t.2.2.2.2.2.1⟩) (fun x=>(x.wagon,x.place,x.ref,x.stay,x.early,x.late,())) (fun _=>rfl)
 | 4=>.st [3,0,2,2,0] (fun t=>⟨t.1,t.2.1,t.2.2.1,t.2.2.2.1,t.2.2.2.2.1⟩) (fun x=>(x.visit,x.report,x.second,x.stay,x.reader,())) (fun _=>rfl)
 | 5=>.sl 0
 | 6=>.str
 | 7=>.st [0,0,2] (fun t=>⟨t.1,t.2.1,t.2.2.1⟩) (fun x=>(x.kind,x.serial,x.fitted,())) (fun _=>rfl)
 | 8=>.sl 7
 | 9=>.st [0,1,0,0,0,0,0,0,0,0,0,0,0,6,8] (fun t=>⟨t.1,t.2.1,t.2.2.1,t.2.2.2.1,t.2.2.2.2.1,t.2.2.2.2.2.1,t.2.2.2.2.2.2.1,t.2.2.2.2.2.2.2.1,t.2.2.2.2.2.2.2.2.1,t.2.2.2.2.2.2.2.2.2.1,t.2.2.2.2.2.2.2.2.2.2.1,t.2.2.2.2.2.2.2.2.2.2.2.1,t.2.2.2.2.2.2.2.2.2.2.2.2.1,t.2.2.2.2.2.2.2.2.2.2.2.2.2.1,t.2.2.2.2.2.2.2.2.2.2.2.2.2.2.1⟩) (fun x=>(x.kind,x.ref,x.wagon,x.place,x.other,x.number,x.from_,x.to,x.code,x.dest,x.class_,x.weight,x.amount,x.text,x.parts,())) (fun _=>rfl)
 | 10=>.st [1,1,0,9] (fun t=>⟨t.1,t.2.1,t.2.2.1,t.2.2.2.1⟩) (fun x=>(x.ref,x.by_,x.time,x.item,())) (fun _=>rfl)
 | 11=>.st [0,0,0] (fun t=>⟨t.1,t.2.1,t.2.2.1⟩) (fun x=>(x.kind,x.railway,x.other,())) (fun _=>rfl)
 | 12=>.sl 11
 | 13=>.st [0,0,0,0,0] (fun t=>⟨t.1,t.2.1,t.2.2.1,t.2.2.2.1,t.2.2.2.2.1⟩) (fun x=>(x.a,x.b,x.railway,x.minutes,x.km,())) (fun _=>rfl)
 | 14=>.sl 13
 | 15=>.st [12,14] (fun t=>⟨t.1,t.2.1⟩) (fun x=>(x.places,x.edges,())) (fun _=>rfl)
 | 16=>.int .u64
 | 17=>.st [0,0,0,0,0,16,0,0] (fun t=>⟨t.1,t.2.1,t.2.2.1,t.2.2.2.1,t.2.2.2.2.1,t.2.2.2.2.2.1,t.2.2.2.2.2.2.1,t.2.2.2.2.2.2.2.1⟩) (fun x=>(x.load,x.tare,x.length,x.gauge,x.brake,x.classes,x.life,x.floor,())) (fun _=>rfl)
 | 18=>.sl 17
 | 19=>.st [0,0,0,0,0] (fun t=>⟨t.1,t.2.1,t.2.2.1,t.2.2.2.1,t.2.2.2.2.1⟩) (fun x=>(x.type_,x.owner,x.home,x.built,x.worth,())) (fun _=>rfl)
 | 20=>.sl 19
 | 21=>.st [0,0,0] (fun t=>⟨t.1,t.2.1,t.2.2.1⟩) (fun x=>(x.wanted,x.given,x.cost,())) (fun _=>rfl)
 | 22=>.sl 21
 | 23=>.st [0,0,0] (fun t=>⟨t.1,t.2.1,t.2.2.1⟩) (fun x=>(x.from_,x.to,x.minutes,())) (fun _=>rfl)
 | 24=>.sl 23
 | 25=>.st [18,20,22,24] (fun t=>⟨t.1,t.2.1,t.2.2.1,t.2.2.2.1⟩) (fun x=>(x.types,x.wagons,x.swaps,x.washes,())) (fun _=>rfl)
 | 26=>.st [0,0,0] (fun t=>⟨t.1,t.2.1,t.2.2.1⟩) (fun x=>(x.place,x.low,x.high,())) (fun _=>rfl)
 | 27=>.sl 26
 | 28=>.st [0] (fun t=>⟨t.1⟩) (fun x=>(x.place,())) (fun _=>rfl)
 | 29=>.sl 28
 | 30=>.st [0,0] (fun t=>⟨t.1,t.2.1⟩) (fun x=>(x.from_,x.to,())) (fun _=>rfl)
 | 31=>.arr 7 30
 | 32=>.st [31,5] (fun t=>⟨t.1,t.2.1⟩) (fun x=>(x.open_,x.holidays,())) (fun _=>rfl)
 | 33=>.st [16,32] (fun t=>⟨t.1,t.2.1⟩) (fun x=>(x.key,x.calendar,())) (fun _=>rfl)
 | 34=>.sl 33
 | 35=>.st [15,25,27,29,34] (fun t=>⟨t.1,t.2.1,t.2.2.1,t.2.2.2.1,t.2.2.2.2.1⟩) (fun x=>(x.network,x.fleet,x.readers,x.shippers,x.railways,())) (fun _=>rfl)
 | 36=>.arr 4096 2
 | 37=>.st [35,9,2] (fun t=>⟨t.1,t.2.1,t.2.2.1⟩) (fun x=>(x.p,x.it,x.ok,())) (fun _=>rfl)
 | 38=>.sl 10
 | 39=>.sl 4
 | 40=>.sl 39
 | 41=>.arr 2 0
 | 42=>.st [0,0,0] (fun t=>⟨t.1,t.2.1,t.2.2.1⟩) (fun x=>(x.i,x.j,x.w,())) (fun _=>rfl)
 | 43=>.sl 42
 | 44=>.arr 2 1
 | 45=>.sl 44
 | 46=>.st [0,0,0,1,2] (fun t=>⟨t.1,t.2.1,t.2.2.1,t.2.2.2.1,t.2.2.2.2.1⟩) (fun x=>(x.wagon,x.place,x.var,x.ref,x.stay,())) (fun _=>rfl)
 | 47=>.sl 46
 | 48=>.st [0,43,45,47] (fun t=>⟨t.1,t.2.1,t.2.2.1,t.2.2.2.1⟩) (fun x=>(x.vars,x.bounds,x.why,x.events,())) (fun _=>rfl)
 | 49=>.st [48] (fun t=>⟨t.1⟩) (fun x=>(x.problem,())) (fun _=>rfl)
 | 50=>.int .u32
 | 51=>.sl 3
 | 52=>.sl 2
 | 53=>.int .u8
 | 54=>.st [0,0,1,2,0,2,0,2] (fun t=>⟨t.1,t.2.1,t.2.2.1,t.2.2.2.1,t.2.2.2.2.1,t.2.2.2.2.2.1,t.2.2.2.2.2.2.1,t.2.2.2.2.2.2.2.1⟩) (fun x=>(x.place,x.time,x.ref,x.second,x.from_,x.stay,x.reader,x.covers,())) (fun _=>rfl)
 | 55=>.sl 54
 | 56=>.st [0,0,0,0] (fun t=>⟨t.1,t.2.1,t.2.2.1,t.2.2.2.1⟩) (fun x=>(x.place,x.delay,x.wait,x.kind,())) (fun _=>rfl)
 | 57=>.arr 4 0
 | 58=>.sl 56
 | _+59=>.st [] (fun _=>()) (fun _=>()) (fun _=>rfl)
def TZ :(c:Nat)->TT c
 | 0=>(default:Int)
 | 1=>(default:Ref)
 | 2=>(default:Bool)
 | 3=>(default:zk)
 | 4=>(default:z6)
 | 5=>(default :(List Int))
 | 6=>(default:ByteArray)
 | 7=>(default:Part)
 | 8=>(default :(List Part))
 | 9=>(default:Item)
 | 10=>(default:zd)
 | 11=>(default:z8o)
 | 12=>(default :(List z8o))
 | 13=>(default:Edge)
 | 14=>(default :(List Edge))
 | 15=>(default:ze)
 | 16=>(default:Int)
 | 17=>(default:z3e)
 | 18=>(default :(List z3e))
 | 19=>(default:ztp)
 | 20=>(default :(List ztp))
 | 21=>(default:Swap)
 | 22=>(default :(List Swap))
 | 23=>(default:Wash)
 | 24=>(default :(List Wash))
 | 25=>(default:zc8)
 | 26=>(default:z26)
 | 27=>(default :(List z26))
 | 28=>(default:zj5)
 | 29=>(default :(List zj5))
 | 30=>(default:Span)
 | 31=>(default :(Nat->Span))
 | 32=>(default:z5n)
 | 33=>(default:z5o)
 | 34=>(default :(List z5o))
 | 35=>(default:Pool)
 | 36=>(default :(Nat->Bool))
 | 37=>(default:zl)
 | 38=>(default :(List zd))
 | 39=>(default :(List z6))
 | 40=>(default :(List (List z6)))
 | 41=>(default :(Nat->Int))
 | 42=>(default:z8)
 | 43=>(default :(List z8))
 | 44=>(default :(Nat->Ref))
 | 45=>(default :(List (Nat->Ref)))
 | 46=>(default:z0h)
 | 47=>(default :(List z0h))
 | 48=>(default:zn)
 | 49=>(default:zi1)
 | 50=>(default:Int)
 | 51=>(default :(List zk))
 | 52=>(default :(List Bool))
 | 53=>(default:Int)
 | 54=>(default:zb)
 | 55=>(default :(List zb))
 | 56=>(default:zhk)
 | 57=>(default :(Nat->Int))
 | 58=>(default :(List zhk))
 | _+59=>()
def TC (t:Nat):Nat:=(lk [(2,0),(3,0),(4,2),(5,53),(6,53),(9,6),(10,6),(11,6),(12,16),(22,12),(23,14),(25,15),(26,18),(27,20),(28,22),(29,24),(31,25),(32,27),(33,29),(34,34),(36,35),(37,38),(40,51),(41,0),(46,5),(52,43),(53,45),(54,47),(56,48),(61,1),(63,46),(65,3),(69,42),(72,58),(73,57),(76,56),(79,8),(81,9),(83,10),(106,40),(110,49),(112,39),(114,4),(116,26),(118,44),(127,28),(129,11),(131,19),(133,13),(134,16),(136,30),(137,31),(139,32),(141,33),(153,17),(160,55),(162,52),(177,21),(179,36),(181,23),(183,41),(189,54),(198,16),(219,0),(226,50),(239,7),(243,37),(248,16),(273,53),(274,53)] t).getD 59
def TV:TE:=⟨TT,TD,TZ,TC,fun c=>match c with | 0=>rfl | 1=>rfl | 2=>rfl | 3=>rfl | 4=>rfl | 5=>rfl | 6=>rfl | 7=>rfl | 8=>rfl | 9=>rfl | 10=>rfl | 11=>rfl | 12=>rfl | 13=>rfl | 14=>rfl | 15=>rfl | 16=>rfl | 17=>rfl | 18=>rfl | 19=>rfl | 20=>rfl | 21=>rfl | 22=>rfl | 23=>rfl | 24=>rfl | 25=>rfl | 26=>rfl | 27=>rfl | 28=>rfl | 29=>rfl | 30=>rfl | 31=>rfl | 32=>rfl | 33=>rfl | 34=>rfl | 35=>rfl | 36=>rfl | 37=>rfl | 38=>rfl | 39=>rfl | 40=>rfl | 41=>rfl | 42=>rfl | 43=>rfl | 44=>rfl | 45=>rfl | 46=>rfl | 47=>rfl | 48=>rfl | 49=>rfl | 50=>rfl | 51=>rfl | 52=>rfl | 53=>rfl | 54=>rfl | 55=>rfl | 56=>rfl | 57=>rfl | 58=>rfl | _+59=>rfl⟩
def cmpI (a b:Int):Int:=if a<b then -1 else if b<a then 1 else 0
def ordB (b:Bool):Int:=if b=true then 1 else 0
def or5 (a b c d e:Int):Int:=if a≠0 then a else if b≠0 then b else if c≠0 then c else if d≠0 then d else e
def cfEv (a b:z6):Int:=or5 (cmpI a.visit.early b.visit.early) (cmpI a.visit.ref.railway b.visit.ref.railway) (cmpI a.visit.ref.no b.visit.ref.no) (ordB a.second-ordB b.second) (a.report-b.report)
def okEv (e:z6):Bool:=decide (0<=e.report/\e.report<1000000)
def sortEv (l:List z6):Option (List z6):=ybx okEv cfEv l
def zzw (l:List Int):Option (List Int):=zt0 l
def zao (φ:Nat) (x1:Int) (x2:Int):Option (Int×Unit):=(if((x1:Int) !=x1)=true then(if((x2:Int) !=x2)=true then(some (0,())) else(some ((-1),()))) else(if((x2:Int) !=x2)=true then(some (1,())) else(if(decide ((x1:Int)<x2))=true then(some ((-1),())) else(if(decide ((x2:Int)<x1))=true then(some (1,())) else(some (0,()))))))
def ziv (φ:Nat):Fsp TV:=⟨[0,0],[.val 0],fun z=>zao φ z.1 z.2.1⟩
def zf1 (φ:Nat) (x1:Bool):Option (Int×Unit):=(if x1=true then(some (1,())) else(some (0,())))
def zid (φ:Nat):Fsp TV:=⟨[2],[.val 0],fun z=>zf1 φ z.1⟩
def zox (φ:Nat):Nat->Int->(List Int)->Int->Int->Option (Int×Unit)
 | 0,_,_,_,_=>none
 | n6+1,x2,x3,x4,x5=>(if(decide ((x5:Int)<x4))=true then(ck ((0:Int)<=x5/\x5 <(x3.length:Int)) (if(((gt x3 x5):Int) !=x2)=true then(some ((gt x3 x5),())) else((zox φ n6) x2 x3 x4 (W (x5+1))))) else(some (x2,())))
def yad (φ:Nat) (x1 :(List Int)):Option (Int×Unit):=(zox φ φ 0 x1 (x1.length:Int) 0)
def y0s (φ:Nat):Fsp TV:=⟨[5],[.val 0],fun z=>yad φ z.1⟩
def zbd (φ:Nat) (x1:z6) (x2:z6):Option (Int×Unit):=((zao φ x1.visit.early x2.visit.early).bind fun y3=>((zao φ x1.visit.ref.railway x2.visit.ref.railway).bind fun y4=>((zao φ x1.visit.ref.no x2.visit.ref.no).bind fun y5=>((zf1 φ x1.second).bind fun y6=>((zf1 φ x2.second).bind fun y7=>((yad φ ([y3.1,y4.1,y5.1,(W (y6.1-y7.1)),(W (x1.report-x2.report))])).bind fun y8=>(some (y8.1,()))))))))
def zjy (φ:Nat):Fsp TV:=⟨[4,4],[.val 0],fun z=>zbd φ z.1 z.2.1⟩
def z19 (φ:Nat) (x1:Int) (x2:Int) (x3:Int) (x4:Int):Option (zd×Unit):=(some ((⟨(⟨0,x1⟩:Ref),(⟨0,0⟩:Ref),0,(⟨2,(⟨0,0⟩:Ref),0,x2,0,0,x3,x4,0,0,0,0,0,(⟨#[]⟩:ByteArray),([]:List Part)⟩:Item)⟩:zd),()))
def zl0 (φ:Nat):Fsp TV:=⟨[0,0,0,0],[.val 10],fun z=>z19 φ z.1 z.2.1 z.2.2.1 z.2.2.2.1⟩
def z18 (φ:Nat) (x1:Int) (x2:Int) (x3:Int):Option (zd×Unit):=(some ((⟨(⟨0,x1⟩:Ref),(⟨0,0⟩:Ref),0,(⟨1,(⟨0,0⟩:Ref),0,0,x2,0,x3,0,0,0,0,0,0,(⟨#[]⟩:ByteArray),([]:List Part)⟩:Item)⟩:zd),()))
def zkn (φ:Nat):Fsp TV:=⟨[0,0,0],[.val 10],fun z=>z18 φ z.1 z.2.1 z.2.2.1⟩
def zi (φ:Nat):Option (Pool×Unit):=(some ((⟨(⟨[(⟨2,0,-1⟩:z8o),(⟨2,0,-1⟩:z8o)],[(⟨0,1,0,30,0⟩:Edge)]⟩:ze),(⟨[(⟨0,0,0,0,0,0,1,0⟩:z3e)],[(⟨0,0,0,0,0⟩:ztp)],([]:List Swap),([]:List Wash)⟩:zc8),[(⟨1,-5,10⟩:z26)],([]:List zj5),[(⟨4,(⟨fun _=>(default:Span),([]:List Int)⟩:z5n)⟩:z5o)]⟩:Pool),()))
def zc2 (φ:Nat):Fsp TV:=⟨[],[.val 35],fun z=>zi φ⟩
def zdp (φ:Nat) (x1:z8o):Option (Bool×Unit):=(if((((decide ((x1.kind:Int)<1))||(decide ((5:Int)<x1.kind)))||(decide ((x1.railway:Int)<0)))||(decide ((16:Int)<=x1.railway)))=true then(some (false,())) else(if((x1.kind:Int) !=3)=true then(some (((x1.other:Int)==(-1)),())) else(some ((((decide ((0:Int)<=x1.other))&&(decide ((x1.other:Int)<16)))&&((x1.other:Int) !=x1.railway)),()))))
def zeg (φ:Nat):Fsp TV:=⟨[11],[.val 2],fun z=>zdp φ z.1⟩
def z2i (φ:Nat):Nat->Int->(List Edge)->Int->Int->Option (Int×Unit)
 | 0,_,_,_,_=>none
 | n13+1,x9,x10,x11,x12=>(if(decide ((x12:Int)<x11))=true then(ck ((0:Int)<=x12/\x12 <(x10.length:Int)) (if(((((((decide (((min2 ((min2 (min2 ((gt x10 x12).a) ((gt x10 x12).b)) ((gt x10 x12).railway))) ((gt x10 x12).km)):Int)<0))||(decide ((x9:Int)<=(max2 ((gt x10 x12).a) ((gt x10 x12).b)))))||(((gt x10 x12).a:Int)==(gt x10 x12).b))||(decide ((16:Int)<=(gt x10 x12).railway)))||(decide (((gt x10 x12).minutes:Int)<1)))||(decide ((100000:Int) <(gt x10 x12).minutes)))||(decide ((10000:Int) <(gt x10 x12).km)))=true then(some (1,())) else((z2i φ n13) x9 x10 x11 (W (x12+1))))) else(some (0,())))
def z44 (φ:Nat):Nat->Int->(List z8o)->Int->Int->ze->Option (Int×Unit)
 | 0,_,_,_,_,_=>none
 | n7+1,x2,x3,x4,x5,x6=>(if(decide ((x5:Int)<x4))=true then(ck ((0:Int)<=x5/\x5 <(x3.length:Int)) ((zdp φ (gt x3 x5)).bind fun y8=>(if(!y8.1)=true then(some (1,())) else((z44 φ n7) x2 x3 x4 (W (x5+1)) x6)))) else(z2i φ φ x2 x6.edges (x6.edges.length:Int) 0))
def z8r (φ:Nat) (x1:ze):Option (Int×Unit):=(if((decide ((512:Int) <(x1.places.length:Int)))||(decide ((2048:Int) <(x1.edges.length:Int))))=true then(some (2,())) else(z44 φ φ (x1.places.length:Int) x1.places (x1.places.length:Int) 0 x1))
def z9m (φ:Nat):Fsp TV:=⟨[15],[.val 0],fun z=>z8r φ z.1⟩
def z03 (φ:Nat) (x1:Int) (x2:Int) (x3:Int):Option (Bool×Unit):=(some (((decide ((x2:Int)<=x1))&&(decide ((x1:Int)<=x3))),()))
def z9e (φ:Nat):Fsp TV:=⟨[0,0,0],[.val 2],fun z=>z03 φ z.1 z.2.1 z.2.2.1⟩
def z2t (φ:Nat) (k7 :((List z3e)->Int->Int->zc8->Int->Option (Int×Unit))):Nat->(List z3e)->Int->Int->Int->Int->zc8->Int->z3e->(List Int)->Option (Int×Unit)
 | 0,_,_,_,_,_,_,_,_,_=>none
 | n17+1,x8,x9,x10,x11,x12,x13,x14,x15,x16=>(if(decide ((x12:Int)<x11))=true then(ck ((0:Int)<=x12/\x12 <(x16.length:Int)) ((z03 φ (gt x16 x12) 0 1000000).bind fun y18=>(if(!y18.1)=true then((z2t φ k7 n17) x8 x9 x10 x11 (W (x12+1)) x13 1 x15 x16) else((z2t φ k7 n17) x8 x9 x10 x11 (W (x12+1)) x13 x14 x15 x16)))) else((z03 φ x15.gauge 0 7).bind fun y19=>((zp (default,()) (y19.1=true) (z03 φ x15.life 1 1073741824)).bind fun y20=>((zp (default,()) ((y19.1&&y20.1)=true) (z03 φ x15.floor 0 100)).bind fun y21=>(if(!((y19.1&&y20.1)&&y21.1))=true then(k7 x8 x9 (W (x10+1)) x13 1) else(k7 x8 x9 (W (x10+1)) x13 x14))))))
def z0a (φ:Nat):Nat->(List Wash)->Int->Int->Int->(Nat->Bool)->Option (Int×Unit)
 | 0,_,_,_,_,_=>none
 | n49+1,x44,x45,x46,x47,x48=>(if(decide ((x46:Int)<x45))=true then(ck ((0:Int)<=x46/\x46 <(x44.length:Int)) ((z03 φ ((gt x44 x46).from_) 0 63).bind fun y50=>((zp (default,()) (y50.1=true) (z03 φ ((gt x44 x46).to) 0 63)).bind fun y51=>((zp (default,()) (((y50.1&&y51.1)&&(((gt x44 x46).from_:Int) !=(gt x44 x46).to))=true) (z03 φ ((gt x44 x46).minutes) 0 100000)).bind fun y52=>(if(!(((y50.1&&y51.1)&&(((gt x44 x46).from_:Int) !=(gt x44 x46).to))&&y52.1))=true then(if(((y50.1&&y51.1)&&(((gt x44 x46).from_:Int) !=(gt x44 x46).to))&&y52.1)=true then(ck ((0:Int)<=(gt x44 x46).from_/\(gt x44 x46).from_ <(64:Int)) (ck ((0:Int)<=(gt x44 x46).to/\(gt x44 x46).to <(64:Int)) (if(!(!(x48 (((((gt x44 x46).from_:Int).toNat*64) +((gt x44 x46).to:Int).toNat)))))=true then(ck ((0:Int)<=(gt x44 x46).from_/\(gt x44 x46).from_ <(64:Int)) (ck ((0:Int)<=(gt x44 x46).to/\(gt x44 x46).to <(64:Int)) ((z0a φ n49) x44 x45 (W (x46+1)) 1 ((upd x48 (((((gt x44 x46).from_:Int).toNat*64) +((gt x44 x46).to:Int).toNat)) true))))) else(ck ((0:Int)<=(gt x44 x46).from_/\(gt x44 x46).from_ <(64:Int)) (ck ((0:Int)<=(gt x44 x46).to/\(gt x44 x46).to <(64:Int)) ((z0a φ n49) x44 x45 (W (x46+1)) 1 ((upd x48 (((((gt x44 x46).from_:Int).toNat*64) +((gt x44 x46).to:Int).toNat)) true)))))))) else((z0a φ n49) x44 x45 (W (x46+1)) 1 x48)) else(if(((y50.1&&y51.1)&&(((gt x44 x46).from_:Int) !=(gt x44 x46).to))&&y52.1)=true then(ck ((0:Int)<=(gt x44 x46).from_/\(gt x44 x46).from_ <(64:Int)) (ck ((0:Int)<=(gt x44 x46).to/\(gt x44 x46).to <(64:Int)) (if(!(!(x48 (((((gt x44 x46).from_:Int).toNat*64) +((gt x44 x46).to:Int).toNat)))))=true then(ck ((0:Int)<=(gt x44 x46).from_/\(gt x44 x46).from_ <(64:Int)) (ck ((0:Int)<=(gt x44 x46).to/\(gt x44 x46).to <(64:Int)) ((z0a φ n49) x44 x45 (W (x46+1)) 1 ((upd x48 (((((gt x44 x46).from_:Int).toNat*64) +((gt x44 x46).to:Int).toNat)) true))))) else(ck ((0:Int)<=(gt x44 x46).from_/\(gt x44 x46).from_ <(64:Int)) (ck ((0:Int)<=(gt x44 x46).to/\(gt x44 x46).to <(64:Int)) ((z0a φ n49) x44 x45 (W (x46+1)) x47 ((upd x48 (((((gt x44 x46).from_:Int).toNat*64) +((gt x44 x46).to:Int).toNat)) true)))))))) else((z0a φ n49) x44 x45 (W (x46+1)) x47 x48))))))) else(some (x47,())))
def z1d (φ:Nat):Nat->(List Swap)->Int->Int->zc8->Int->Option (Int×Unit)
 | 0,_,_,_,_,_=>none
 | n40+1,x35,x36,x37,x38,x39=>(if(decide ((x37:Int)<x36))=true then(ck ((0:Int)<=x37/\x37 <(x35.length:Int)) ((z03 φ ((gt x35 x37).wanted) 0 (W ((x38.types.length:Int)-1))).bind fun y41=>((zp (default,()) (y41.1=true) (z03 φ ((gt x35 x37).given) 0 (W ((x38.types.length:Int)-1)))).bind fun y42=>((zp (default,()) (((y41.1&&y42.1)&&(((gt x35 x37).wanted:Int) !=(gt x35 x37).given))=true) (z03 φ ((gt x35 x37).cost) 0 1000000000)).bind fun y43=>(if(!(((y41.1&&y42.1)&&(((gt x35 x37).wanted:Int) !=(gt x35 x37).given))&&y43.1))=true then((z1d φ n40) x35 x36 (W (x37+1)) x38 1) else((z1d φ n40) x35 x36 (W (x37+1)) x38 x39)))))) else(z0a φ φ x38.washes (x38.washes.length:Int) 0 x39 (fun _=>(default:Bool))))
def z0r (φ:Nat):Nat->(List ztp)->Int->Int->zc8->Int->Option (Int×Unit)
 | 0,_,_,_,_,_=>none
 | n27+1,x22,x23,x24,x25,x26=>(if(decide ((x24:Int)<x23))=true then(ck ((0:Int)<=x24/\x24 <(x22.length:Int)) ((z03 φ ((gt x22 x24).type_) 0 (W ((x25.types.length:Int)-1))).bind fun y28=>((zp (default,()) (y28.1=true) (z03 φ ((gt x22 x24).owner) 0 63)).bind fun y29=>((zp (default,()) ((y28.1&&y29.1)=true) (z03 φ ((gt x22 x24).home) 0 511)).bind fun y30=>(if(!((y28.1&&y29.1)&&y30.1))=true then((z03 φ ((gt x22 x24).built) 0 1073741824).bind fun y31=>((zp (default,()) (y31.1=true) (z03 φ ((gt x22 x24).worth) 0 1099511627776)).bind fun y32=>(if(!(y31.1&&y32.1))=true then((z0r φ n27) x22 x23 (W (x24+1)) x25 1) else((z0r φ n27) x22 x23 (W (x24+1)) x25 1)))) else((z03 φ ((gt x22 x24).built) 0 1073741824).bind fun y33=>((zp (default,()) (y33.1=true) (z03 φ ((gt x22 x24).worth) 0 1099511627776)).bind fun y34=>(if(!(y33.1&&y34.1))=true then((z0r φ n27) x22 x23 (W (x24+1)) x25 1) else((z0r φ n27) x22 x23 (W (x24+1)) x25 x26))))))))) else(z1d φ φ x25.swaps (x25.swaps.length:Int) 0 x25 x26))
def z4p (φ:Nat):Nat->(List z3e)->Int->Int->zc8->Int->Option (Int×Unit)
 | 0,_,_,_,_,_=>none
 | n7+1,x2,x3,x4,x5,x6=>(if(decide ((x4:Int)<x3))=true then(ck ((0:Int)<=x4/\x4 <(x2.length:Int)) (z2t φ (z4p φ n7) φ x2 x3 x4 (([(gt x2 x4).load,(gt x2 x4).tare,(gt x2 x4).length,(gt x2 x4).brake]).length:Int) 0 x5 x6 (gt x2 x4) ([(gt x2 x4).load,(gt x2 x4).tare,(gt x2 x4).length,(gt x2 x4).brake]))) else(z0r φ φ x5.wagons (x5.wagons.length:Int) 0 x5 x6))
def zj1 (φ:Nat) (x1:zc8):Option (Int×Unit):=(if((((decide ((32:Int) <(x1.types.length:Int)))||(decide ((4096:Int) <(x1.wagons.length:Int))))||(decide ((1024:Int) <(x1.swaps.length:Int))))||(decide ((4096:Int) <(x1.washes.length:Int))))=true then(some (2,())) else(z4p φ φ x1.types (x1.types.length:Int) 0 x1 0))
def zih (φ:Nat):Fsp TV:=⟨[25],[.val 0],fun z=>zj1 φ z.1⟩
def z2w (φ:Nat):Nat->Int->(List Int)->Int->Int->Option (Int×Unit)
 | 0,_,_,_,_=>none
 | n10+1,x6,x7,x8,x9=>(if(decide ((x9:Int)<x8))=true then(ck ((0:Int)<=x9/\x9 <(x7.length:Int)) (if((decide (((gt x7 x9):Int)<=x6))||(decide ((745654:Int) <(gt x7 x9))))=true then(some (1,())) else((z2w φ n10) (gt x7 x9) x7 x8 (W (x9+1))))) else(some (0,())))
def z3l (φ:Nat):Nat->(Nat->Span)->Int->z5n->Option (Int×Unit)
 | 0,_,_,_=>none
 | n5+1,x2,x3,x4=>(if(decide ((x3:Int)<7))=true then(ck ((0:Int)<=x3/\x3 <(7:Int)) (if(((decide (((x2 (x3:Int).toNat).from_:Int)<0))||(decide (((x2 (x3:Int).toNat).to:Int) <(x2 (x3:Int).toNat).from_)))||(decide ((1440:Int) <(x2 (x3:Int).toNat).to)))=true then(some (1,())) else((z3l φ n5) x2 (W (x3+1)) x4))) else(z2w φ φ (-1) x4.holidays (x4.holidays.length:Int) 0))
def zbg (φ:Nat) (x1:z5n):Option (Int×Unit):=(z3l φ φ x1.open_ 0 x1)
def zcg (φ:Nat):Fsp TV:=⟨[32],[.val 0],fun z=>zbg φ z.1⟩
def z8k (φ:Nat) (x1:Int) (x2:Int):Option (Int×Int×Unit):=(if 0<=(32:Int) then(if 0<=(32:Int) then(if 0<=(32:Int) then(if 0<=(32:Int) then(if 0<=(32:Int) then(some ((U ((U ((U (((x1:Int).fdiv (2 ^ (min (32:Int).toNat 64))) *((x2:Int).fdiv (2 ^ (min (32:Int).toNat 64))))) +(((U ((U (((x1:Int).fdiv (2 ^ (min (32:Int).toNat 64))) *(U ((BitVec.ofInt 64 x2&&& BitVec.ofInt 64 4294967295).toNat)))) +(((U ((U ((BitVec.ofInt 64 x1&&& BitVec.ofInt 64 4294967295).toNat)) *(U ((BitVec.ofInt 64 x2&&& BitVec.ofInt 64 4294967295).toNat)))):Int).fdiv (2 ^ (min (32:Int).toNat 64))))):Int).fdiv (2 ^ (min (32:Int).toNat 64))))) +(((U ((U ((BitVec.ofInt 64 (U ((U (((x1:Int).fdiv (2 ^ (min (32:Int).toNat 64))) *(U ((BitVec.ofInt 64 x2&&& BitVec.ofInt 64 4294967295).toNat)))) +(((U ((U ((BitVec.ofInt 64 x1&&& BitVec.ofInt 64 4294967295).toNat)) *(U ((BitVec.ofInt 64 x2&&& BitVec.ofInt 64 4294967295).toNat)))):Int).fdiv (2 ^ (min (32:Int).toNat 64)))))&&& BitVec.ofInt 64 4294967295).toNat)) +(U ((U ((BitVec.ofInt 64 x1&&& BitVec.ofInt 64 4294967295).toNat)) *((x2:Int).fdiv (2 ^ (min (32:Int).toNat 64))))))):Int).fdiv (2 ^ (min (32:Int).toNat 64))))),(U (x1*x2)),())) else none) else none) else none) else none) else none)
def zg8 (φ:Nat):Fsp TV:=⟨[16,16],[.val 16,.val 16],fun z=>z8k φ z.1 z.2.1⟩
def z1u (φ:Nat) (x8:Int) (x9:Int):Option (Int×Unit):=(ck ((0:Int)<=(IntKind.wrap .u8 (x8))/\(IntKind.wrap .u8 (x8)) <(z0e.size:Int)) (some ((W (64 -(W (x9 +(W ((z6c z0e (IntKind.wrap .u8 (x8))))))))),())))
def z27 (φ:Nat) (x5:Int) (x6:Int):Option (Int×Unit):=(if(decide ((256:Int)<=x5))=true then(if 0<=(8:Int) then(z1u φ (((x5:Int).fdiv (2 ^ (min (8:Int).toNat 64)))) (W (x6+8))) else none) else(z1u φ x5 x6))
def z24 (φ:Nat) (x2:Int) (x3:Int):Option (Int×Unit):=(if(decide ((65536:Int)<=x2))=true then(if 0<=(16:Int) then(z27 φ (((x2:Int).fdiv (2 ^ (min (16:Int).toNat 64)))) (W (x3+16))) else none) else(z27 φ x2 x3))
def z3t (φ:Nat) (x1:Int):Option (Int×Unit):=(if(decide ((4294967296:Int)<=x1))=true then(if 0<=(32:Int) then(z24 φ (((x1:Int).fdiv (2 ^ (min (32:Int).toNat 64)))) 32) else none) else(z24 φ x1 0))
def z6t (φ:Nat):Fsp TV:=⟨[16],[.val 0],fun z=>z3t φ z.1⟩
def z7r (φ:Nat) (x14:Int) (x15:Int) (x16:Int) (x17:Int) (x18:Int) (x19:Int):Option (Int×Int×Unit):=(ck (0<=x15) (some ((U ((U (x17*4294967296))+x19)),(((U ((U ((U (x18*4294967296))+x16)) -(U (x19*x14)))):Int).fdiv (2 ^ (min (x15:Int).toNat 64))),())))
def z80 (φ:Nat):Nat->Int->Int->Int->Int->Int->Int->Int->Int->Int->Option (Int×Int×Unit)
 | 0,_,_,_,_,_,_,_,_,_=>none
 | n30+1,x21,x22,x23,x24,x25,x26,x27,x28,x29=>(if((decide ((4294967296:Int)<=x29))||(decide (((U ((U (4294967296*x27))+x25)):Int) <(U (x29*x24)))))=true then(if(decide ((4294967296:Int)<=(U (x27+x23))))=true then(z7r φ x21 x22 x25 x26 x28 (U (x29-1))) else((z80 φ n30) x21 x22 x23 x24 x25 x26 (U (x27+x23)) x28 (U (x29-1)))) else(z7r φ x21 x22 x25 x26 x28 x29))
def z7y (φ:Nat) (x5:Int) (x6:Int) (x7:Int) (x8:Int) (x9:Int) (x10:Int) (x11:Int) (x12:Int):Option (Int×Int×Unit):=(ck (x7≠0) (z80 φ φ x5 x6 x7 x8 x11 x12 ((U ((U ((U ((U (x9*4294967296))+x10)) -(U (x12*x5)))) -(U ((U (((U ((U ((U (x9*4294967296))+x10)) -(U (x12*x5)))):Int).tdiv x7))*x7))))) ((U ((U ((U (x9*4294967296))+x10)) -(U (x12*x5))))) ((U (((U ((U ((U (x9*4294967296))+x10)) -(U (x12*x5)))):Int).tdiv x7)))))
def z7s (φ:Nat):Nat->Int->Int->Int->Int->Int->Int->Int->Int->Int->Option (Int×Int×Unit)
 | 0,_,_,_,_,_,_,_,_,_=>none
 | n40+1,x31,x32,x33,x34,x35,x36,x37,x38,x39=>(if((decide ((4294967296:Int)<=x38))||(decide (((U ((U (4294967296*x39))+x36)):Int) <(U (x38*x34)))))=true then(if(decide ((4294967296:Int)<=(U (x39+x33))))=true then(z7y φ x31 x32 x33 x34 x35 x36 x37 (U (x38-1))) else((z7s φ n40) x31 x32 x33 x34 x35 x36 x37 (U (x38-1)) (U (x39+x33)))) else(z7y φ x31 x32 x33 x34 x35 x36 x37 x38))
def z8n (φ:Nat) (x1:Int) (x2:Int) (x3:Int):Option (Int×Int×Unit):=(if((x3:Int)==0)=true then none else(if(decide ((x3:Int)<=x1))=true then none else(if((x1:Int)==0)=true then(ck (x3≠0) (ck (x3≠0) (some ((U ((x2:Int).tdiv x3)),((x2:Int).tmod x3),())))) else((z3t φ x3).bind fun y4=>(ck (0<=(U (y4.1))) (if 0<=(32:Int) then(ck (0<=(U (y4.1))) (ck (0<=(U (64 -(U (y4.1))))) (ck (0<=(U (y4.1))) (if 0<=(32:Int) then(ck ((((U (x3*2 ^ (min ((U (y4.1)):Int).toNat 64))):Int).fdiv (2 ^ (min (32:Int).toNat 64)))≠0) (z7s φ φ ((U (x3*2 ^ (min ((U (y4.1)):Int).toNat 64)))) (U (y4.1)) ((((U (x3*2 ^ (min ((U (y4.1)):Int).toNat 64))):Int).fdiv (2 ^ (min (32:Int).toNat 64)))) ((U ((BitVec.ofInt 64 (U (x3*2 ^ (min ((U (y4.1)):Int).toNat 64)))&&& BitVec.ofInt 64 4294967295).toNat))) ((U ((BitVec.ofInt 64 (U (x1*2 ^ (min ((U (y4.1)):Int).toNat 64)))||| BitVec.ofInt 64 ((x2:Int).fdiv (2 ^ (min ((U (64 -(U (y4.1)))):Int).toNat 64)))).toNat))) ((((U (x2*2 ^ (min ((U (y4.1)):Int).toNat 64))):Int).fdiv (2 ^ (min (32:Int).toNat 64)))) ((U ((BitVec.ofInt 64 (U (x2*2 ^ (min ((U (y4.1)):Int).toNat 64)))&&& BitVec.ofInt 64 4294967295).toNat))) ((U (((U ((BitVec.ofInt 64 (U (x1*2 ^ (min ((U (y4.1)):Int).toNat 64)))||| BitVec.ofInt 64 ((x2:Int).fdiv (2 ^ (min ((U (64 -(U (y4.1)))):Int).toNat 64)))).toNat)):Int).tdiv (((U (x3*2 ^ (min ((U (y4.1)):Int).toNat 64))):Int).fdiv (2 ^ (min (32:Int).toNat 64)))))) ((U ((U ((BitVec.ofInt 64 (U (x1*2 ^ (min ((U (y4.1)):Int).toNat 64)))||| BitVec.ofInt 64 ((x2:Int).fdiv (2 ^ (min ((U (64 -(U (y4.1)))):Int).toNat 64)))).toNat)) -(U ((U (((U ((BitVec.ofInt 64 (U (x1*2 ^ (min ((U (y4.1)):Int).toNat 64)))||| BitVec.ofInt 64 ((x2:Int).fdiv (2 ^ (min ((U (64 -(U (y4.1)))):Int).toNat 64)))).toNat)):Int).tdiv (((U (x3*2 ^ (min ((U (y4.1)):Int).toNat 64))):Int).fdiv (2 ^ (min (32:Int).toNat 64))))) *(((U (x3*2 ^ (min ((U (y4.1)):Int).toNat 64))):Int).fdiv (2 ^ (min (32:Int).toNat 64)))))))))) else none)))) else none))))))
def zkm (φ:Nat):Fsp TV:=⟨[16,16,16],[.val 16,.val 16],fun z=>z8n φ z.1 z.2.1 z.2.2.1⟩
def zbo (φ:Nat) (k30 :(Int->Int->Int->Int->Int->Int->Option (Int×Unit))) (x55:Int) (x56:Int) (x57:Int) (x58:Int) (x59:Int) (x60:Int) (x61:Int) (x62:Int) (x63:Int) (x64:Int):Option (Int×Unit):=(ck ((0:Int)<=(IntKind.wrap .u8 (x55))/\(IntKind.wrap .u8 (x55)) <(z0e.size:Int)) (ck (0<=(W ((W ((W (x56 +(W ((z6c z0e (IntKind.wrap .u8 (x55)))))))-1))-x60))) (if(((U ((BitVec.ofInt 64 ((x63:Int).fdiv (2 ^ (min ((W ((W ((W (x56 +(W ((z6c z0e (IntKind.wrap .u8 (x55)))))))-1))-x60)):Int).toNat 64)))&&& BitVec.ofInt 64 1).toNat)):Int)==1)=true then(ck (x64≠0) (ck (x64≠0) ((z8k φ ((x59:Int).tmod x64) ((x57:Int).tmod x64)).bind fun y66=>((z8n φ y66.1 y66.2.1 x64).bind fun y67=>(k30 x57 x58 y67.2.1 x61 (W (x62+1)) x64))))) else(k30 x57 x58 x59 x61 (W (x62+1)) x64))))
def zbn (φ:Nat) (k30 :(Int->Int->Int->Int->Int->Int->Option (Int×Unit))) (x44:Int) (x45:Int) (x46:Int) (x47:Int) (x48:Int) (x49:Int) (x50:Int) (x51:Int) (x52:Int) (x53:Int):Option (Int×Unit):=(if(decide ((256:Int)<=x44))=true then(if 0<=(8:Int) then(zbo φ k30 (((x44:Int).fdiv (2 ^ (min (8:Int).toNat 64)))) (W (x45+8)) x46 x47 x48 x49 x50 x51 x52 x53) else none) else(zbo φ k30 x44 x45 x46 x47 x48 x49 x50 x51 x52 x53))
def z4f (φ:Nat) (k30 :(Int->Int->Int->Int->Int->Int->Option (Int×Unit))) (x33:Int) (x34:Int) (x35:Int) (x36:Int) (x37:Int) (x38:Int) (x39:Int) (x40:Int) (x41:Int) (x42:Int):Option (Int×Unit):=(if(decide ((65536:Int)<=x33))=true then(if 0<=(16:Int) then(zbn φ k30 (((x33:Int).fdiv (2 ^ (min (16:Int).toNat 64)))) (W (x34+16)) x35 x36 x37 x38 x39 x40 x41 x42) else none) else(zbn φ k30 x33 x34 x35 x36 x37 x38 x39 x40 x41 x42))
def z0w (φ:Nat):Nat->Int->Int->Int->Int->Int->Int->Option (Int×Unit)
 | 0,_,_,_,_,_,_=>none
 | n30+1,x24,x25,x26,x27,x28,x29=>(if(decide ((x28:Int)<x27))=true then(ck (x29≠0) (ck (x29≠0) ((z8k φ ((x26:Int).tmod x29) ((x26:Int).tmod x29)).bind fun y31=>((z8n φ y31.1 y31.2.1 x29).bind fun y32=>(if(decide ((4294967296:Int)<=x25))=true then(if 0<=(32:Int) then(z4f φ (z0w φ n30) (((x25:Int).fdiv (2 ^ (min (32:Int).toNat 64)))) 32 x24 x25 y32.2.1 x28 x27 x28 x25 x29) else none) else(z4f φ (z0w φ n30) x25 0 x24 x25 y32.2.1 x28 x27 x28 x25 x29)))))) else(some (x26,())))
def zbw (φ:Nat) (x17:Int) (x18:Int) (x19:Int) (x20:Int) (x21:Int) (x22:Int):Option (Int×Unit):=(ck ((0:Int)<=(IntKind.wrap .u8 (x17))/\(IntKind.wrap .u8 (x17)) <(z0e.size:Int)) (z0w φ φ x19 x20 x21 ((W (x18 +(W ((z6c z0e (IntKind.wrap .u8 (x17)))))))) 0 x22))
def zc1 (φ:Nat) (x10:Int) (x11:Int) (x12:Int) (x13:Int) (x14:Int) (x15:Int):Option (Int×Unit):=(if(decide ((256:Int)<=x10))=true then(if 0<=(8:Int) then(zbw φ (((x10:Int).fdiv (2 ^ (min (8:Int).toNat 64)))) (W (x11+8)) x12 x13 x14 x15) else none) else(zbw φ x10 x11 x12 x13 x14 x15))
def zfl (φ:Nat) (x3:Int) (x4:Int) (x5:Int) (x6:Int) (x7:Int) (x8:Int):Option (Int×Unit):=(if(decide ((65536:Int)<=x3))=true then(if 0<=(16:Int) then(zc1 φ (((x3:Int).fdiv (2 ^ (min (16:Int).toNat 64)))) (W (x4+16)) x5 x6 x7 x8) else none) else(zc1 φ x3 x4 x5 x6 x7 x8))
def zou (φ:Nat) (x1:Int) (x2:Int):Option (Int×Unit):=(if(decide ((4294967296:Int)<=x2))=true then(if 0<=(32:Int) then(zfl φ (((x2:Int).fdiv (2 ^ (min (32:Int).toNat 64)))) 32 x1 x2 1 2305843009213690799) else none) else(zfl φ x2 0 x1 x2 1 2305843009213690799))
def zrf (φ:Nat):Fsp TV:=⟨[16,16],[.val 16],fun z=>zou φ z.1 z.2.1⟩
def zm1 (φ:Nat) (x1:Int):Option (Bool×Unit):=((zp (default,()) (((decide ((2:Int)<=x1))&&(decide ((x1:Int)<2305843009213690799)))=true) (zou φ x1 1152921504606845399)).bind fun y2=>(some ((((decide ((2:Int)<=x1))&&(decide ((x1:Int)<2305843009213690799)))&&((y2.1:Int)==1)),())))
def zlo (φ:Nat):Fsp TV:=⟨[16],[.val 2],fun z=>zm1 φ z.1⟩
def z1k (φ:Nat):Nat->Bool->(List z5o)->Int->Int->Option (Int×Unit)
 | 0,_,_,_,_=>none
 | n48+1,x44,x45,x46,x47=>(if(decide ((x47:Int)<x46))=true then(ck ((0:Int)<=x47/\x47 <(x45.length:Int)) ((zp (default,()) (x44=false) (zbg φ ((gt x45 x47).calendar))).bind fun y49=>((zp (default,()) ((x44||((y49.1:Int) !=0))=false) (zm1 φ ((gt x45 x47).key))).bind fun y50=>((z1k φ n48) (((x44||((y49.1:Int) !=0))||(!y50.1))) x45 x46 (W (x47+1)))))) else(if x44=true then(some (1,())) else(some (0,()))))
def z1i (φ:Nat):Nat->Int->Bool->(List Edge)->Int->Int->Pool->Option (Int×Unit)
 | 0,_,_,_,_,_,_=>none
 | n43+1,x37,x38,x39,x40,x41,x42=>(if(decide ((x41:Int)<x40))=true then(ck ((0:Int)<=x41/\x41 <(x39.length:Int)) ((z1i φ n43) x37 ((x38||(decide ((x37:Int)<=(gt x39 x41).railway)))) x39 x40 (W (x41+1)) x42)) else(z1k φ φ x38 x42.railways (x42.railways.length:Int) 0))
def z1l (φ:Nat):Nat->Int->Bool->(List z8o)->Int->Int->Pool->Option (Int×Unit)
 | 0,_,_,_,_,_,_=>none
 | n36+1,x30,x31,x32,x33,x34,x35=>(if(decide ((x34:Int)<x33))=true then(ck ((0:Int)<=x34/\x34 <(x32.length:Int)) ((z1l φ n36) x30 (((x31||(decide ((x30:Int)<=(gt x32 x34).railway)))||(decide ((x30:Int)<=(gt x32 x34).other)))) x32 x33 (W (x34+1)) x35)) else(z1i φ φ x30 x31 x35.network.edges (x35.network.edges.length:Int) 0 x35))
def z1j (φ:Nat):Nat->(List z8o)->Int->Bool->(List ztp)->Int->Int->Pool->Option (Int×Unit)
 | 0,_,_,_,_,_,_,_=>none
 | n29+1,x22,x23,x24,x25,x26,x27,x28=>(if(decide ((x27:Int)<x26))=true then(ck ((0:Int)<=x27/\x27 <(x25.length:Int)) ((z1j φ n29) x22 x23 ((x24||(decide (((x22.length:Int):Int)<=(gt x25 x27).home)))) x25 x26 (W (x27+1)) x28)) else(z1l φ φ x23 x24 x22 (x22.length:Int) 0 x28))
def z1m (φ:Nat):Nat->(List z8o)->Int->Bool->(List zj5)->Int->Int->Pool->Option (Int×Unit)
 | 0,_,_,_,_,_,_,_=>none
 | n20+1,x13,x14,x15,x16,x17,x18,x19=>(if(decide ((x18:Int)<x17))=true then(ck ((0:Int)<=x18/\x18 <(x16.length:Int)) ((zp (default,()) (x15=false) (z03 φ ((gt x16 x18).place) 0 (W ((x13.length:Int)-1)))).bind fun y21=>(ck (((x15||(!y21.1))=false)->(0:Int)<=(gt x16 x18).place/\(gt x16 x18).place <(x13.length:Int)) ((z1m φ n20) x13 x14 (((x15||(!y21.1))||(((gt x13 ((gt x16 x18).place)).kind:Int) !=4))) x16 x17 (W (x18+1)) x19)))) else(z1j φ φ x13 x14 x15 x19.fleet.wagons (x19.fleet.wagons.length:Int) 0 x19))
def z2f (φ:Nat):Nat->(List z8o)->Int->Bool->(List z26)->Int->Int->Pool->Option (Int×Unit)
 | 0,_,_,_,_,_,_,_=>none
 | n11+1,x4,x5,x6,x7,x8,x9,x10=>(if(decide ((x9:Int)<x8))=true then(ck ((0:Int)<=x9/\x9 <(x7.length:Int)) ((zp (default,()) (x6=false) (z03 φ ((gt x7 x9).place) 0 (W ((x4.length:Int)-1)))).bind fun y12=>((z2f φ n11) x4 x5 (((((x6||(!y12.1))||(decide (((gt x7 x9).low:Int) <(-1000))))||(decide (((gt x7 x9).high:Int) <(gt x7 x9).low)))||(decide ((1000:Int) <(gt x7 x9).high)))) x7 x8 (W (x9+1)) x10))) else(z1m φ φ x4 x5 x6 x10.shippers (x10.shippers.length:Int) 0 x10))
def z58 (φ:Nat) (x1:Pool):Option (Int×Unit):=((z8r φ x1.network).bind fun y2=>(if((y2.1:Int) !=0)=true then(some (y2.1,())) else((zj1 φ x1.fleet).bind fun y3=>(if((y3.1:Int) !=0)=true then(some (y3.1,())) else(if(((decide ((256:Int) <(x1.readers.length:Int)))||(decide ((256:Int) <(x1.shippers.length:Int))))||(decide ((16:Int) <(x1.railways.length:Int))))=true then(some (2,())) else(z2f φ φ x1.network.places (x1.railways.length:Int) (((x1.railways.length:Int):Int)==0) x1.readers (x1.readers.length:Int) 0 x1))))))
def z57 (φ:Nat):Fsp TV:=⟨[35],[.val 0],fun z=>z58 φ z.1⟩
def z7d (φ:Nat) (x1:Item):Option (Bool×Unit):=(if(((x1.ref.railway:Int)==0)&&(((x1.ref.no:Int)==0)&&true))=true then(some (((x1.kind:Int) !=14),())) else(some (((((decide ((0:Int)<=x1.ref.railway))&&(decide ((x1.ref.railway:Int)<16)))&&(decide ((1:Int)<=x1.ref.no)))&&(decide ((x1.ref.no:Int)<=4096))),())))
def zez (φ:Nat):Fsp TV:=⟨[9],[.val 2],fun z=>z7d φ z.1⟩
def z8m (φ:Nat):Nat->(List Part)->Bool->(List Part)->Int->Int->Option (Bool×Unit)
 | 0,_,_,_,_,_=>none
 | n8+1,x3,x4,x5,x6,x7=>(if(decide ((x7:Int)<x6))=true then(ck ((0:Int)<=x7/\x7 <(x5.length:Int)) (if(((((decide (((gt x5 x7).kind:Int)<1))||(decide ((3:Int) <(gt x5 x7).kind)))||(decide (((gt x5 x7).serial:Int)<0)))||(decide ((1073741824:Int) <(gt x5 x7).serial)))||((gt x5 x7).fitted&&(!x4)))=true then(some (false,())) else((z8m φ n8) x3 x4 x5 x6 (W (x7+1))))) else(some ((decide (((x3.length:Int):Int)<=16)),())))
def zlp (φ:Nat) (x1 :(List Part)) (x2:Bool):Option (Bool×Unit):=(z8m φ φ x1 x2 x1 (x1.length:Int) 0)
def zo5 (φ:Nat):Fsp TV:=⟨[8,2],[.val 2],fun z=>zlp φ z.1 z.2.1⟩
def zg (φ:Nat) (x3:zl):Option (Bool×Unit):=(some ((((((((((((((x3.ok&&((x3.it.wagon:Int)==0))&&((x3.it.place:Int)==0))&&((x3.it.other:Int)==0))&&((x3.it.number:Int)==0))&&((x3.it.from_:Int)==0))&&((x3.it.to:Int)==0))&&((x3.it.code:Int)==0))&&((x3.it.dest:Int)==0))&&((x3.it.class_:Int)==0))&&((x3.it.weight:Int)==0))&&((x3.it.amount:Int)==0))&&(x3.it.text==(⟨#[]⟩:ByteArray)))&&(((x3.it.parts.length:Int):Int)==0)),()))
def z5k (φ:Nat) (x5:Int) (x6:zl) (x7:z8o):Option (Bool×Unit):=(zg φ ((⟨x6.p,(⟨x6.it.kind,x6.it.ref,x6.it.wagon,0,x6.it.other,x6.it.number,0,0,x6.it.code,x6.it.dest,x6.it.class_,x6.it.weight,x6.it.amount,x6.it.text,x6.it.parts⟩:Item),(((((x6.ok&&((x7.kind:Int) !=0))&&(((x5:Int)==0)||((x7.kind:Int)==x5)))&&(decide (((max2 x6.it.from_ 0):Int)<=x6.it.to)))&&(decide ((x6.it.to:Int)<=1073741824)))&&(decide ((0:Int)<=x6.it.from_)))&&(decide ((x6.it.from_:Int)<=1073741824))⟩:zl)))
def z4i (φ:Nat) (x13:Int) (x14:zl) (x15:z8o):Option (Bool×Unit):=(zg φ ((⟨x14.p,(⟨x14.it.kind,x14.it.ref,x14.it.wagon,0,0,x14.it.number,0,x14.it.to,0,x14.it.dest,x14.it.class_,x14.it.weight,x14.it.amount,x14.it.text,x14.it.parts⟩:Item),((((((x14.ok&&((x15.kind:Int) !=0))&&(((x13:Int)==0)||((x15.kind:Int)==x13)))&&(((x14.it.other:Int)==x15.railway)||((x14.it.other:Int)==x15.other)))&&(decide ((0:Int)<=x14.it.from_)))&&(decide ((x14.it.from_:Int)<=1073741824)))&&(decide ((0:Int)<=x14.it.code)))&&(decide ((x14.it.code:Int)<=8))⟩:zl)))
def z4n (φ:Nat) (x17:Int) (x18:zl) (x19:z8o):Option (Bool×Unit):=(zg φ ((⟨x18.p,(⟨x18.it.kind,x18.it.ref,x18.it.wagon,0,x18.it.other,x18.it.number,0,x18.it.to,x18.it.code,0,0,0,x18.it.amount,x18.it.text,x18.it.parts⟩:Item),(((((((((x18.ok&&((x19.kind:Int) !=0))&&(((x17:Int)==0)||((x19.kind:Int)==x17)))&&(decide ((0:Int)<=x18.it.dest)))&&(decide ((x18.it.dest:Int)<=(W ((x18.p.network.places.length:Int)-1)))))&&(decide ((0:Int)<=x18.it.class_)))&&(decide ((x18.it.class_:Int)<=63)))&&(decide ((0:Int)<=x18.it.weight)))&&(decide ((x18.it.weight:Int)<=1000000)))&&(decide ((0:Int)<=x18.it.from_)))&&(decide ((x18.it.from_:Int)<=1073741824))⟩:zl)))
def z4r (φ:Nat) (x24:Int) (x25:zl) (x26:z8o):Option (Bool×Unit):=(if((x25.it.kind:Int)==6)=true then(zg φ ((⟨x25.p,(⟨x25.it.kind,x25.it.ref,x25.it.wagon,0,0,x25.it.number,0,x25.it.to,0,x25.it.dest,x25.it.class_,x25.it.weight,x25.it.amount,x25.it.text,x25.it.parts⟩:Item),(((((((x25.ok&&((x26.kind:Int) !=0))&&(((x24:Int)==0)||((x26.kind:Int)==x24)))&&(decide ((0:Int)<=x25.it.other)))&&(decide ((x25.it.other:Int)<=(W ((x25.p.shippers.length:Int)-1)))))&&(decide ((0:Int)<=x25.it.from_)))&&(decide ((x25.it.from_:Int)<=1073741824)))&&(decide ((0:Int)<=x25.it.code)))&&(decide ((x25.it.code:Int)<=1))⟩:zl))) else(zg φ ((⟨x25.p,(⟨x25.it.kind,x25.it.ref,x25.it.wagon,0,0,x25.it.number,0,x25.it.to,x25.it.code,x25.it.dest,x25.it.class_,x25.it.weight,x25.it.amount,x25.it.text,x25.it.parts⟩:Item),(((((x25.ok&&((x26.kind:Int) !=0))&&(((x24:Int)==0)||((x26.kind:Int)==x24)))&&(decide ((0:Int)<=x25.it.other)))&&(decide ((x25.it.other:Int)<=(W ((x25.p.shippers.length:Int)-1)))))&&(decide ((0:Int)<=x25.it.from_)))&&(decide ((x25.it.from_:Int)<=1073741824))⟩:zl))))
def z4o (φ:Nat) (x21:Bool) (x22:zl):Option (Bool×Unit):=(if x21=true then(if((decide ((0:Int)<=x22.it.place))&&(decide ((x22.it.place:Int) <(x22.p.network.places.length:Int))))=true then(ck ((0:Int)<=x22.it.place/\x22.it.place <(x22.p.network.places.length:Int)) (z4r φ 0 x22 (gt x22.p.network.places x22.it.place))) else(z4r φ 0 x22 (⟨0,0,0⟩:z8o))) else(zg φ x22))
def z4k (φ:Nat) (x9:Int) (x10:Bool) (x11:zl):Option (Bool×Unit):=(if x10=true then(if((decide ((0:Int)<=x11.it.place))&&(decide ((x11.it.place:Int) <(x11.p.network.places.length:Int))))=true then(ck ((0:Int)<=x11.it.place/\x11.it.place <(x11.p.network.places.length:Int)) (z4i φ 3 x11 (gt x11.p.network.places x11.it.place))) else(z4i φ 3 x11 (⟨0,0,0⟩:z8o))) else(if((x9:Int)==5)=true then(if((decide ((0:Int)<=x11.it.place))&&(decide ((x11.it.place:Int) <(x11.p.network.places.length:Int))))=true then(ck ((0:Int)<=x11.it.place/\x11.it.place <(x11.p.network.places.length:Int)) (z4n φ 0 ((⟨x11.p,(⟨x11.it.kind,x11.it.ref,x11.it.wagon,x11.it.place,0,0,x11.it.from_,x11.it.to,x11.it.code,x11.it.dest,x11.it.class_,x11.it.weight,x11.it.amount,x11.it.text,x11.it.parts⟩:Item),(((x11.ok&&(decide ((1:Int)<=x11.it.number)))&&(decide ((x11.it.number:Int)<=1000000000)))&&(decide ((0:Int)<=x11.it.other)))&&(decide ((x11.it.other:Int)<=(W ((x11.p.shippers.length:Int)-1))))⟩:zl)) (gt x11.p.network.places x11.it.place))) else(z4n φ 0 ((⟨x11.p,(⟨x11.it.kind,x11.it.ref,x11.it.wagon,x11.it.place,0,0,x11.it.from_,x11.it.to,x11.it.code,x11.it.dest,x11.it.class_,x11.it.weight,x11.it.amount,x11.it.text,x11.it.parts⟩:Item),(((x11.ok&&(decide ((1:Int)<=x11.it.number)))&&(decide ((x11.it.number:Int)<=1000000000)))&&(decide ((0:Int)<=x11.it.other)))&&(decide ((x11.it.other:Int)<=(W ((x11.p.shippers.length:Int)-1))))⟩:zl)) (⟨0,0,0⟩:z8o))) else(if((x9:Int)==6)=true then(z4o φ ((x9:Int)==6) x11) else(z4o φ ((x9:Int)==7) x11))))
def z4q (φ:Nat) (x28:Int) (x29:zl) (x30:z8o):Option (Bool×Unit):=((zp (default,()) (((((((((((x29.ok&&((x30.kind:Int) !=0))&&(((x28:Int)==0)||((x30.kind:Int)==x28)))&&(decide (((max2 x29.it.from_ 0):Int)<=x29.it.to)))&&(decide ((x29.it.to:Int)<=1073741824)))&&(decide ((0:Int)<=x29.it.from_)))&&(decide ((x29.it.from_:Int)<=1073741824)))&&(decide ((1:Int)<=x29.it.code)))&&(decide ((x29.it.code:Int)<=2)))&&(decide ((0:Int)<=x29.it.amount)))&&(decide ((x29.it.amount:Int)<=1000000000)))=true) (zlp φ x29.it.parts true)).bind fun y32=>(zg φ ((⟨x29.p,(⟨x29.it.kind,x29.it.ref,x29.it.wagon,0,x29.it.other,x29.it.number,0,0,0,x29.it.dest,x29.it.class_,x29.it.weight,0,x29.it.text,([]:List Part)⟩:Item),((((((((((x29.ok&&((x30.kind:Int) !=0))&&(((x28:Int)==0)||((x30.kind:Int)==x28)))&&(decide (((max2 x29.it.from_ 0):Int)<=x29.it.to)))&&(decide ((x29.it.to:Int)<=1073741824)))&&(decide ((0:Int)<=x29.it.from_)))&&(decide ((x29.it.from_:Int)<=1073741824)))&&(decide ((1:Int)<=x29.it.code)))&&(decide ((x29.it.code:Int)<=2)))&&(decide ((0:Int)<=x29.it.amount)))&&(decide ((x29.it.amount:Int)<=1000000000)))&&y32.1⟩:zl))))
def z4t (φ:Nat) (x38:Int) (x39:zl) (x40:z8o):Option (Bool×Unit):=(zg φ ((⟨x39.p,(⟨x39.it.kind,x39.it.ref,x39.it.wagon,0,x39.it.other,0,0,0,x39.it.code,x39.it.dest,0,0,0,x39.it.text,x39.it.parts⟩:Item),(((((((((((((x39.ok&&((x40.kind:Int) !=0))&&(((x38:Int)==0)||((x40.kind:Int)==x38)))&&(decide ((0:Int)<=x39.it.class_)))&&(decide ((x39.it.class_:Int)<=63)))&&(decide ((0:Int)<=x39.it.number)))&&(decide ((x39.it.number:Int)<=(W ((x39.p.fleet.types.length:Int)-1)))))&&(decide ((1:Int)<=x39.it.weight)))&&(decide ((x39.it.weight:Int)<=1000)))&&(decide (((max2 x39.it.from_ 0):Int)<=x39.it.to)))&&(decide ((x39.it.to:Int)<=1073741824)))&&(decide ((0:Int)<=x39.it.from_)))&&(decide ((x39.it.from_:Int)<=1073741824)))&&(decide ((0:Int)<=x39.it.amount)))&&(decide ((x39.it.amount:Int)<=1000000000))⟩:zl)))
def z1t (φ:Nat) (x34:Int) (x35:Bool) (x36:zl):Option (Bool×Unit):=(if x35=true then(if((x36.it.kind:Int) !=13)=true then(zg φ ((⟨x36.p,(⟨x36.it.kind,x36.it.ref,x36.it.wagon,x36.it.place,x36.it.other,0,0,x36.it.to,x36.it.code,x36.it.dest,x36.it.class_,x36.it.weight,x36.it.amount,(⟨#[]⟩:ByteArray),x36.it.parts⟩:Item),(((((x36.ok&&(decide ((1:Int)<=x36.it.number)))&&(decide ((x36.it.number:Int)<=6)))&&(decide ((0:Int)<=x36.it.from_)))&&(decide ((x36.it.from_:Int)<=1073741824)))&&(decide ((1:Int)<=(x36.it.text.size:Int))))&&(decide (((x36.it.text.size:Int):Int)<=2000))⟩:zl))) else(zg φ ((⟨x36.p,(⟨x36.it.kind,x36.it.ref,x36.it.wagon,x36.it.place,x36.it.other,0,0,x36.it.to,x36.it.code,x36.it.dest,x36.it.class_,x36.it.weight,x36.it.amount,x36.it.text,x36.it.parts⟩:Item),(((x36.ok&&(decide ((1:Int)<=x36.it.number)))&&(decide ((x36.it.number:Int)<=6)))&&(decide ((0:Int)<=x36.it.from_)))&&(decide ((x36.it.from_:Int)<=1073741824))⟩:zl)))) else(if((x34:Int)==14)=true then(zg φ x36) else(if((x34:Int)==15)=true then(if((decide ((0:Int)<=x36.it.place))&&(decide ((x36.it.place:Int) <(x36.p.network.places.length:Int))))=true then(ck ((0:Int)<=x36.it.place/\x36.it.place <(x36.p.network.places.length:Int)) (z4t φ 0 ((⟨x36.p,(⟨x36.it.kind,x36.it.ref,x36.it.wagon,x36.it.place,0,x36.it.number,x36.it.from_,x36.it.to,x36.it.code,x36.it.dest,x36.it.class_,x36.it.weight,x36.it.amount,x36.it.text,x36.it.parts⟩:Item),(x36.ok&&(decide ((0:Int)<=x36.it.other)))&&(decide ((x36.it.other:Int)<=(W ((x36.p.shippers.length:Int)-1))))⟩:zl)) (gt x36.p.network.places x36.it.place))) else(z4t φ 0 ((⟨x36.p,(⟨x36.it.kind,x36.it.ref,x36.it.wagon,x36.it.place,0,x36.it.number,x36.it.from_,x36.it.to,x36.it.code,x36.it.dest,x36.it.class_,x36.it.weight,x36.it.amount,x36.it.text,x36.it.parts⟩:Item),(x36.ok&&(decide ((0:Int)<=x36.it.other)))&&(decide ((x36.it.other:Int)<=(W ((x36.p.shippers.length:Int)-1))))⟩:zl)) (⟨0,0,0⟩:z8o))) else(zg φ (⟨x36.p,x36.it,false⟩:zl)))))
def z0n (φ:Nat) (x1:Pool) (x2:Item):Option (Bool×Unit):=(if(decide ((x2.kind:Int)<=7))=true then(if(decide ((x2.kind:Int)<1))=true then(zg φ (⟨x1,x2,false⟩:zl)) else(if((x2.kind:Int)==1)=true then(zg φ ((⟨x1,(⟨x2.kind,x2.ref,0,x2.place,0,x2.number,0,x2.to,x2.code,x2.dest,x2.class_,x2.weight,x2.amount,x2.text,x2.parts⟩:Item),(((((true&&(decide ((0:Int)<=x2.wagon)))&&(decide ((x2.wagon:Int)<=(W ((x1.fleet.wagons.length:Int)-1)))))&&(decide ((0:Int)<=x2.other)))&&(decide ((x2.other:Int)<=(W ((x1.readers.length:Int)-1)))))&&(decide ((0:Int)<=x2.from_)))&&(decide ((x2.from_:Int)<=1073741824))⟩:zl))) else(if((x2.kind:Int)==2)=true then(if((decide ((0:Int)<=x2.place))&&(decide ((x2.place:Int) <(x1.network.places.length:Int))))=true then(ck ((0:Int)<=x2.place/\x2.place <(x1.network.places.length:Int)) (z5k φ 0 ((⟨x1,(⟨x2.kind,x2.ref,0,x2.place,x2.other,x2.number,x2.from_,x2.to,x2.code,x2.dest,x2.class_,x2.weight,x2.amount,x2.text,x2.parts⟩:Item),(true&&(decide ((0:Int)<=x2.wagon)))&&(decide ((x2.wagon:Int)<=(W ((x1.fleet.wagons.length:Int)-1))))⟩:zl)) (gt x1.network.places x2.place))) else(z5k φ 0 ((⟨x1,(⟨x2.kind,x2.ref,0,x2.place,x2.other,x2.number,x2.from_,x2.to,x2.code,x2.dest,x2.class_,x2.weight,x2.amount,x2.text,x2.parts⟩:Item),(true&&(decide ((0:Int)<=x2.wagon)))&&(decide ((x2.wagon:Int)<=(W ((x1.fleet.wagons.length:Int)-1))))⟩:zl)) (⟨0,0,0⟩:z8o))) else(if((x2.kind:Int)==3)=true then(z4k φ x2.kind ((x2.kind:Int)==3) ((⟨x1,(⟨x2.kind,x2.ref,0,x2.place,x2.other,x2.number,x2.from_,x2.to,x2.code,x2.dest,x2.class_,x2.weight,x2.amount,x2.text,x2.parts⟩:Item),(true&&(decide ((0:Int)<=x2.wagon)))&&(decide ((x2.wagon:Int)<=(W ((x1.fleet.wagons.length:Int)-1))))⟩:zl))) else(z4k φ x2.kind ((x2.kind:Int)==4) ((⟨x1,(⟨x2.kind,x2.ref,0,x2.place,x2.other,x2.number,x2.from_,x2.to,x2.code,x2.dest,x2.class_,x2.weight,x2.amount,x2.text,x2.parts⟩:Item),(true&&(decide ((0:Int)<=x2.wagon)))&&(decide ((x2.wagon:Int)<=(W ((x1.fleet.wagons.length:Int)-1))))⟩:zl))))))) else(if((x2.kind:Int)==8)=true then(zg φ ((⟨x1,(⟨x2.kind,x2.ref,0,x2.place,x2.other,x2.number,0,x2.to,0,x2.dest,x2.class_,x2.weight,x2.amount,x2.text,x2.parts⟩:Item),(((((true&&(decide ((0:Int)<=x2.wagon)))&&(decide ((x2.wagon:Int)<=(W ((x1.fleet.wagons.length:Int)-1)))))&&(decide ((0:Int)<=x2.from_)))&&(decide ((x2.from_:Int)<=1073741824)))&&(decide ((1:Int)<=x2.code)))&&(decide ((x2.code:Int)<=9))⟩:zl))) else(if((x2.kind:Int)==9)=true then(if((decide ((0:Int)<=x2.place))&&(decide ((x2.place:Int) <(x1.network.places.length:Int))))=true then(ck ((0:Int)<=x2.place/\x2.place <(x1.network.places.length:Int)) (z4q φ 5 ((⟨x1,(⟨x2.kind,x2.ref,0,x2.place,x2.other,x2.number,x2.from_,x2.to,x2.code,x2.dest,x2.class_,x2.weight,x2.amount,x2.text,x2.parts⟩:Item),(true&&(decide ((0:Int)<=x2.wagon)))&&(decide ((x2.wagon:Int)<=(W ((x1.fleet.wagons.length:Int)-1))))⟩:zl)) (gt x1.network.places x2.place))) else(z4q φ 5 ((⟨x1,(⟨x2.kind,x2.ref,0,x2.place,x2.other,x2.number,x2.from_,x2.to,x2.code,x2.dest,x2.class_,x2.weight,x2.amount,x2.text,x2.parts⟩:Item),(true&&(decide ((0:Int)<=x2.wagon)))&&(decide ((x2.wagon:Int)<=(W ((x1.fleet.wagons.length:Int)-1))))⟩:zl)) (⟨0,0,0⟩:z8o))) else(if((x2.kind:Int)==10)=true then((zp (default,()) ((((true&&(decide ((0:Int)<=x2.other)))&&(decide ((x2.other:Int)<=63)))&&(decide ((0:Int) <(x2.parts.length:Int))))=true) (zlp φ x2.parts false)).bind fun y33=>(zg φ ((⟨x1,(⟨x2.kind,x2.ref,x2.wagon,x2.place,0,x2.number,x2.from_,x2.to,x2.code,x2.dest,x2.class_,x2.weight,x2.amount,x2.text,([]:List Part)⟩:Item),(((true&&(decide ((0:Int)<=x2.other)))&&(decide ((x2.other:Int)<=63)))&&(decide ((0:Int) <(x2.parts.length:Int))))&&y33.1⟩:zl)))) else(if((x2.kind:Int)==11)=true then(z1t φ x2.kind ((x2.kind:Int)==11) (⟨x1,x2,true⟩:zl)) else(if((x2.kind:Int)==12)=true then(z1t φ x2.kind ((x2.kind:Int)==12) (⟨x1,x2,true⟩:zl)) else(z1t φ x2.kind ((x2.kind:Int)==13) (⟨x1,x2,true⟩:zl))))))))
def zke (φ:Nat):Fsp TV:=⟨[35,9],[.val 2],fun z=>z0n φ z.1 z.2.1⟩
def zpm (φ:Nat) (x1:Pool) (x2:Item):Option (Int×Unit):=((z58 φ x1).bind fun y3=>(if((y3.1:Int) !=0)=true then(some (y3.1,())) else((z7d φ x2).bind fun y4=>((zp (default,()) ((!y4.1)=false) (z0n φ x1 x2)).bind fun y5=>(if((!y4.1)||(!y5.1))=true then(some (110,())) else(some (0,())))))))
def zo1 (φ:Nat):Fsp TV:=⟨[35,9],[.val 0],fun z=>zpm φ z.1 z.2.1⟩
def z34 (φ:Nat):Nat->(List zd)->Int->Int->Pool->(List Int)->Option ((List Int)×Unit)
 | 0,_,_,_,_,_=>none
 | n8+1,x3,x4,x5,x6,x7=>(if(decide ((x5:Int)<x4))=true then(ck ((0:Int)<=x5/\x5 <(x3.length:Int)) ((zpm φ x6 ((gt x3 x5).item)).bind fun y9=>(if((y9.1:Int)==0)=true then(ck (fits (x7.length +([x5]).length) 8) ((z34 φ n8) x3 x4 (W (x5+1)) x6 (x7++[x5]))) else((z34 φ n8) x3 x4 (W (x5+1)) x6 x7)))) else(some (x7,())))
def zcy (φ:Nat) (x1:Pool) (x2 :(List zd)):Option ((List Int)×Unit):=(z34 φ φ x2 (x2.length:Int) 0 x1 ([]:List Int))
def zei (φ:Nat):Fsp TV:=⟨[35,38],[.val 5],fun z=>zcy φ z.1 z.2.1⟩
def z0d (φ:Nat) (x1:Int) (x2:Int) (x3:Item) (x4:zd) (x5:Int):Option (z6×Unit):=(some ((⟨(⟨x3.wagon,x1,x4.ref,false,x2,x2⟩:zk),x5,false,false,-1⟩:z6),()))
def z9h (φ:Nat):Csp TV:=⟨[0,0],[9,10,0],[.val 4],fun z b=>z0d φ z.1 z.2.1 b.1 b.2.1 b.2.2.1⟩
def z30 (φ:Nat) (x11:z6) (x12:z6):Option ((List z6)×Unit):=(some ([(⟨x11.visit,x11.report,x11.second,true,x11.reader⟩:z6),(⟨x12.visit,x12.report,true,true,x12.reader⟩:z6)],()))
def z2y (φ:Nat) (x14:Item) (x15:zd) (x16:Int):Option ((List z6)×Unit):=((z0d φ x14.place x14.from_ x14 x15 x16).bind fun y18=>((z0d φ x14.place x14.to x14 x15 x16).bind fun y19=>(z30 φ y18.1 y19.1)))
def z8g (φ:Nat) (x14:Item) (x15:zd) (x16:Int):Option (List (Option ((List z6)×Unit))):=((z0d φ x14.place x14.from_ x14 x15 x16).bind fun y20=>((z0d φ x14.place x14.to x14 x15 x16).bind fun y21=>(catL [(catL [(catL [(catL [(some [(z30 φ y20.1 y21.1)])])])]),(catL [(catL [(catL [(some [(z30 φ y20.1 y21.1)])])])])])))
def z0k (φ:Nat) (x22:Bool) (x23:Item) (x24:zd) (x25:Int):Option ((List z6)×Unit):=(if x22=true then((z0d φ x23.place x23.from_ x23 x24 x25).bind fun y27=>(some ([y27.1],()))) else(some (([]:List z6),())))
def z0j (φ:Nat) (x5:Int) (x6:Bool) (x7:Item) (x8:zd) (x9:Int):Option ((List z6)×Unit):=(if x6=true then(z2y φ x7 x8 x9) else(if((x5:Int)==3)=true then(z0k φ ((x5:Int)==3) x7 x8 x9) else(if((x5:Int)==4)=true then(z0k φ ((x5:Int)==4) x7 x8 x9) else(if((x5:Int)==6)=true then(z0k φ ((x5:Int)==6) x7 x8 x9) else(z0k φ ((x5:Int)==7) x7 x8 x9)))))
def z1b (φ:Nat) (x1:Pool) (x2:zd) (x3:Int):Option ((List z6)×Unit):=(if((x2.item.kind:Int)==1)=true then(ck ((0:Int)<=x2.item.other/\x2.item.other <(x1.readers.length:Int)) ((z0d φ ((gt x1.readers x2.item.other).place) x2.item.from_ x2.item x2 x3).bind fun y4=>(some ([(⟨y4.1.visit,y4.1.report,y4.1.second,y4.1.stay,x2.item.other⟩:z6)],())))) else(if((x2.item.kind:Int)==2)=true then(z0j φ x2.item.kind ((x2.item.kind:Int)==2) x2.item x2 x3) else(z0j φ x2.item.kind ((x2.item.kind:Int)==9) x2.item x2 x3)))
def zcj (φ:Nat):Fsp TV:=⟨[35,10,0],[.val 39],fun z=>z1b φ z.1 z.2.1 z.2.2.1⟩
def z48 (φ:Nat) (k25 :(Int->Int->Int->Int->(List z6)->(List (Int×Bool))->(List (List z6))->Int->Option ((List (List z6))×Unit))) (x26:Int) (x27:Int) (x28:Int) (x29:Int) (x30:Int) (x31 :(List z6)) (x32 :(List (Int×Bool))) (x33 :(List (List z6))) (x34:Int):Option ((List (List z6))×Unit):=(ck ((0:Int)<=x26/\x26 <(x31.length:Int)) (k25 x27 (W (x28+1)) x29 x30 ((zw x31 x26 ((⟨(⟨((gt x31 x26).visit).wagon,((gt x31 x26).visit).place,((gt x31 x26).visit).ref,decide ((0:Int) <(x32.length:Int)),((gt x31 x26).visit).early,((gt x31 x26).visit).late⟩:zk),(gt x31 x26).report,(gt x31 x26).second,(gt x31 x26).stay,(gt x31 x26).reader⟩:z6)))) x32 x33 x34))
def z1f (φ:Nat) (k15 :(Int->Int->(List (List z6))->Option ((List (List z6))×Unit))):Nat->Int->Int->Int->Int->(List z6)->(List (Int×Bool))->(List (List z6))->Int->Option ((List (List z6))×Unit)
 | 0,_,_,_,_,_,_,_,_=>none
 | n25+1,x17,x18,x19,x20,x21,x22,x23,x24=>(if(decide ((x18:Int)<x17))=true then(ck ((0:Int)<=x18/\x18 <(x21.length:Int)) (ck (((gt x21 x18).stay=true)->(0:Int)<=x18/\x18 <(x21.length:Int)) (if((gt x21 x18).stay&&(gt x21 x18).second)=true then(ck ((0:Int)<=x18/\x18 <(x21.length:Int)) (z48 φ (z1f φ k15 n25) x18 x17 x18 x19 x20 x21 (mdel x22 ((gt x21 x18).report)) x23 x24)) else(ck ((0:Int)<=x18/\x18 <(x21.length:Int)) (if(gt x21 x18).stay=true then(ck ((0:Int)<=x18/\x18 <(x21.length:Int)) (z48 φ (z1f φ k15 n25) x18 x17 x18 x19 x20 x21 (mset x22 ((gt x21 x18).report) true) x23 x24)) else(z48 φ (z1f φ k15 n25) x18 x17 x18 x19 x20 x21 x22 x23 x24)))))) else(k15 x19 (W (x20+1)) (zw x23 x24 x21)))
def z21 (φ:Nat):Nat->Int->Int->(List (List z6))->Option ((List (List z6))×Unit)
 | 0,_,_,_=>none
 | n15+1,x12,x13,x14=>(if(decide ((x13:Int)<x12))=true then(ck ((0:Int)<=x13/\x13 <(x14.length:Int)) (ck ((0:Int)<=x13/\x13 <(x14.length:Int)) (ck ((x13:Int)=x13) ((sortEv (gt x14 x13)).bind fun y16=>(z1f φ (z21 φ n15) φ (y16.length:Int) 0 x12 x13 y16 ([]:List (Int×Bool)) x14 x13))))) else(some (x14,())))
def z36 (φ:Nat):Nat->(List zd)->(List Int)->Int->Int->Pool->(List (List z6))->Option ((List (List z6))×Unit)
 | 0,_,_,_,_,_,_=>none
 | n10+1,x4,x5,x6,x7,x8,x9=>(if(decide ((x7:Int)<x6))=true then(ck ((0:Int)<=x7/\x7 <(x5.length:Int)) (ck ((0:Int)<=(gt x5 x7)/\(gt x5 x7) <(x4.length:Int)) ((z1b φ x8 (gt x4 (gt x5 x7)) (gt x5 x7)).bind fun y11=>(if(decide ((0:Int) <(y11.1.length:Int)))=true then(ck ((0:Int)<=(gt x5 x7)/\(gt x5 x7) <(x4.length:Int)) (ck ((0:Int)<=((gt x4 (gt x5 x7)).item).wagon/\((gt x4 (gt x5 x7)).item).wagon <(x9.length:Int)) (ck ((0:Int)<=((gt x4 (gt x5 x7)).item).wagon/\((gt x4 (gt x5 x7)).item).wagon <(x9.length:Int)) (ck ((((gt x4 (gt x5 x7)).item).wagon:Int) =((gt x4 (gt x5 x7)).item).wagon) (ck (fits (((gt x9 (((gt x4 (gt x5 x7)).item).wagon))).length+y11.1.length) 80) (ck ((0:Int)<=((gt x4 (gt x5 x7)).item).wagon/\((gt x4 (gt x5 x7)).item).wagon <(x9.length:Int)) (ck ((((gt x4 (gt x5 x7)).item).wagon:Int) =((gt x4 (gt x5 x7)).item).wagon) ((z36 φ n10) x4 x5 x6 (W (x7+1)) x8 ((zw x9 (((gt x4 (gt x5 x7)).item).wagon) (((gt x9 (((gt x4 (gt x5 x7)).item).wagon))++y11.1)))))))))))) else((z36 φ n10) x4 x5 x6 (W (x7+1)) x8 x9))))) else(z21 φ φ (x9.length:Int) 0 x9))
def zg2 (φ:Nat) (x1:Pool) (x2 :(List zd)):Option ((List (List z6))×Unit):=(ck (z0o (x1.fleet.wagons.length:Int) 24) ((zcy φ x1 x2).bind fun y3=>(z36 φ φ x2 y3.1 (y3.1.length:Int) 0 x1 (List.replicate ((x1.fleet.wagons.length:Int):Int).toNat (default :(List z6))))))
def zgq (φ:Nat):Fsp TV:=⟨[35,38],[.val 40],fun z=>zg2 φ z.1 z.2.1⟩
def z3r (φ:Nat) (k23 :((List Edge)->Int->Int->Int->Int->ze->ze->(List (List Int))->(List ((Nat->Int)×Int))->Option (Int×Int×Unit))) (x40:Int) (x41:Int) (x42:Bool) (x43 :(List Edge)) (x44:Int) (x45:Int) (x46:Int) (x47:Int) (x48:ze) (x49 :(Nat->Int)) (x50:ze) (x51 :(List (List Int))) (x52 :(List ((Nat->Int)×Int))):Option (Int×Int×Unit):=(ck (((!x42)=false)->(0:Int)<=x40/\x40 <(x48.edges.length:Int)) (ck (((!x42)=false)->(0:Int)<=x41/\x41 <(x48.edges.length:Int)) (if((!x42)||(decide (((gt x48.edges x40).minutes:Int) <(gt x48.edges x41).minutes)))=true then(k23 x43 x44 (W (x45+1)) x46 x47 x48 x50 x51 (@mset _ _ ⟨beqA 2⟩ x52 x49 x40)) else(k23 x43 x44 (W (x45+1)) x46 x47 x48 x50 x51 x52))))
def z3s (φ:Nat) (k23 :((List Edge)->Int->Int->Int->Int->ze->ze->(List (List Int))->(List ((Nat->Int)×Int))->Option (Int×Int×Unit))) (x54:Int) (x55:Int) (x56:Bool) (x57 :(List Edge)) (x58:Int) (x59:Int) (x60:Int) (x61:Int) (x62:ze) (x63 :(Nat->Int)) (x64:ze) (x65 :(List (List Int))) (x66 :(List ((Nat->Int)×Int))):Option (Int×Int×Unit):=(ck (((!x56)=false)->(0:Int)<=x54/\x54 <(x62.edges.length:Int)) (ck (((!x56)=false)->(0:Int)<=x55/\x55 <(x62.edges.length:Int)) (if((!x56)||(decide (((gt x62.edges x54).minutes:Int) <(gt x62.edges x55).minutes)))=true then(k23 x57 x58 (W (x59+1)) x60 x61 x62 x64 x65 (@mset _ _ ⟨beqA 2⟩ x66 x63 x54)) else(k23 x57 x58 (W (x59+1)) x60 x61 x62 x64 x65 x66))))
def z3o (φ:Nat) (k23 :((List Edge)->Int->Int->Int->Int->ze->ze->(List (List Int))->(List ((Nat->Int)×Int))->Option (Int×Int×Unit))) (x24:Int) (x25:Int) (x26:Bool) (x27:Int) (x28 :(List Edge)) (x29:Int) (x30:Int) (x31:Int) (x32:Int) (x33:ze) (x34 :(Nat->Int)) (x35:Edge) (x36:ze) (x37 :(List (List Int))) (x38 :(List ((Nat->Int)×Int))):Option (Int×Int×Unit):=(ck (((!x26)=false)->(0:Int)<=x24/\x24 <(x33.edges.length:Int)) (ck (((!x26)=false)->(0:Int)<=x25/\x25 <(x33.edges.length:Int)) (if((!x26)||(decide (((gt x33.edges x24).minutes:Int) <(gt x33.edges x25).minutes)))=true then(if(!(@mget _ _ ⟨beqA 2⟩ (@mset _ _ ⟨beqA 2⟩ x38 x34 x24) ((upd (upd (fun _=>(default:Int)) 0 x35.b) 1 x35.a))).isSome)=true then(ck ((0:Int)<=x35.b/\x35.b <(x37.length:Int)) (ck ((0:Int)<=x35.b/\x35.b <(x37.length:Int)) (ck ((x35.b:Int)=x35.b) (ck (fits ((gt x37 x35.b).length +([x35.a]).length) 8) (ck ((0:Int)<=x35.b/\x35.b <(x37.length:Int)) (ck ((x35.b:Int)=x35.b) (z3r φ k23 x27 (((@mget _ _ ⟨beqA 2⟩ (@mset _ _ ⟨beqA 2⟩ x38 x34 x24) ((upd (upd (fun _=>(default:Int)) 0 x35.b) 1 x35.a))).getD default)) ((@mget _ _ ⟨beqA 2⟩ (@mset _ _ ⟨beqA 2⟩ x38 x34 x24) ((upd (upd (fun _=>(default:Int)) 0 x35.b) 1 x35.a))).isSome) x28 x29 x30 x31 x32 x33 ((upd (upd (fun _=>(default:Int)) 0 x35.b) 1 x35.a)) x36 (zw x37 x35.b ((gt x37 x35.b)++[x35.a])) (@mset _ _ ⟨beqA 2⟩ x38 x34 x24)))))))) else(z3r φ k23 x27 (((@mget _ _ ⟨beqA 2⟩ (@mset _ _ ⟨beqA 2⟩ x38 x34 x24) ((upd (upd (fun _=>(default:Int)) 0 x35.b) 1 x35.a))).getD default)) ((@mget _ _ ⟨beqA 2⟩ (@mset _ _ ⟨beqA 2⟩ x38 x34 x24) ((upd (upd (fun _=>(default:Int)) 0 x35.b) 1 x35.a))).isSome) x28 x29 x30 x31 x32 x33 ((upd (upd (fun _=>(default:Int)) 0 x35.b) 1 x35.a)) x36 x37 (@mset _ _ ⟨beqA 2⟩ x38 x34 x24))) else(if(!(@mget _ _ ⟨beqA 2⟩ x38 ((upd (upd (fun _=>(default:Int)) 0 x35.b) 1 x35.a))).isSome)=true then(ck ((0:Int)<=x35.b/\x35.b <(x37.length:Int)) (ck ((0:Int)<=x35.b/\x35.b <(x37.length:Int)) (ck ((x35.b:Int)=x35.b) (ck (fits ((gt x37 x35.b).length +([x35.a]).length) 8) (ck ((0:Int)<=x35.b/\x35.b <(x37.length:Int)) (ck ((x35.b:Int)=x35.b) (z3s φ k23 x27 (((@mget _ _ ⟨beqA 2⟩ x38 ((upd (upd (fun _=>(default:Int)) 0 x35.b) 1 x35.a))).getD default)) ((@mget _ _ ⟨beqA 2⟩ x38 ((upd (upd (fun _=>(default:Int)) 0 x35.b) 1 x35.a))).isSome) x28 x29 x30 x31 x32 x33 ((upd (upd (fun _=>(default:Int)) 0 x35.b) 1 x35.a)) x36 (zw x37 x35.b ((gt x37 x35.b)++[x35.a])) x38))))))) else(z3s φ k23 x27 (((@mget _ _ ⟨beqA 2⟩ x38 ((upd (upd (fun _=>(default:Int)) 0 x35.b) 1 x35.a))).getD default)) ((@mget _ _ ⟨beqA 2⟩ x38 ((upd (upd (fun _=>(default:Int)) 0 x35.b) 1 x35.a))).isSome) x28 x29 x30 x31 x32 x33 ((upd (upd (fun _=>(default:Int)) 0 x35.b) 1 x35.a)) x36 x37 x38)))))
def z15 (φ:Nat) (k93 :(Int->ze->(List Int)->(List Bool)->(List (List Int))->(List ((Nat->Int)×Int))->Option (Int×Int×Unit))):Nat->Int->Int->Int->Int->ze->(List Int)->(List Bool)->(List Int)->(List (List Int))->Int->(List ((Nat->Int)×Int))->Option (Int×Int×Unit)
 | 0,_,_,_,_,_,_,_,_,_,_,_=>none
 | n115+1,x104,x105,x106,x107,x108,x109,x110,x111,x112,x113,x114=>(if(decide ((x106:Int)<x105))=true then(ck ((0:Int)<=x106/\x106 <(x111.length:Int)) (ck ((0:Int)<=x104/\x104 <(x109.length:Int)) (ck ((0:Int)<=((@mget _ _ ⟨beqA 2⟩ x114 ((upd (upd (fun _=>(default:Int)) 0 x104) 1 (gt x111 x106)))).getD default)/\((@mget _ _ ⟨beqA 2⟩ x114 ((upd (upd (fun _=>(default:Int)) 0 x104) 1 (gt x111 x106)))).getD default) <(x108.edges.length:Int)) (ck ((0:Int)<=(gt x111 x106)/\(gt x111 x106) <(x109.length:Int)) (ck (((decide (((gt x109 (gt x111 x106)):Int)<0))=false)->(0:Int)<=(gt x111 x106)/\(gt x111 x106) <(x109.length:Int)) (if((decide (((gt x109 (gt x111 x106)):Int)<0))||(decide (((W ((gt x109 x104) +((gt x108.edges (((@mget _ _ ⟨beqA 2⟩ x114 ((upd (upd (fun _=>(default:Int)) 0 x104) 1 (gt x111 x106)))).getD default)))).minutes)):Int) <(gt x109 (gt x111 x106)))))=true then(ck ((0:Int)<=(gt x111 x106)/\(gt x111 x106) <(x109.length:Int)) ((z15 φ k93 n115) x104 x105 (W (x106+1)) x107 x108 ((zw x109 (gt x111 x106) ((W ((gt x109 x104) +((gt x108.edges (((@mget _ _ ⟨beqA 2⟩ x114 ((upd (upd (fun _=>(default:Int)) 0 x104) 1 (gt x111 x106)))).getD default)))).minutes))))) x110 x111 x112 x113 x114)) else((z15 φ k93 n115) x104 x105 (W (x106+1)) x107 x108 x109 x110 x111 x112 x113 x114))))))) else(k93 x107 x108 x109 x110 (zw x112 x113 x111) x114))
def z12 (φ:Nat) (k93 :(Int->ze->(List Int)->(List Bool)->(List (List Int))->(List ((Nat->Int)×Int))->Option (Int×Int×Unit))):Nat->Int->Int->Int->Int->ze->(List Int)->(List Bool)->(List (List Int))->(List ((Nat->Int)×Int))->Option (Int×Int×Unit)
 | 0,_,_,_,_,_,_,_,_,_=>none
 | n103+1,x94,x95,x96,x97,x98,x99,x100,x101,x102=>(if(decide ((x96:Int)<x95))=true then(ck ((0:Int)<=x96/\x96 <(x99.length:Int)) (ck (((decide ((0:Int)<=(gt x99 x96)))=true)->(0:Int)<=x96/\x96 <(x100.length:Int)) (ck ((((decide ((0:Int)<=(gt x99 x96)))&&(!(gt x100 x96)))=true/\(decide ((x94:Int)<0))=false)->(0:Int)<=x96/\x96 <(x99.length:Int)) (ck ((((decide ((0:Int)<=(gt x99 x96)))&&(!(gt x100 x96)))=true/\(decide ((x94:Int)<0))=false)->(0:Int)<=x94/\x94 <(x99.length:Int)) (if(((decide ((0:Int)<=(gt x99 x96)))&&(!(gt x100 x96)))&&((decide ((x94:Int)<0))||(decide (((gt x99 x96):Int) <(gt x99 x94)))))=true then((z12 φ k93 n103) x96 x95 (W (x96+1)) x97 x98 x99 x100 x101 x102) else((z12 φ k93 n103) x94 x95 (W (x96+1)) x97 x98 x99 x100 x101 x102)))))) else(if(decide ((x94:Int)<0))=true then(ck ((0:Int)<=x97/\x97 <(x99.length:Int)) (if(decide (((gt x99 x97):Int)<0))=true then(some (0,80,())) else(some ((gt x99 x97),0,())))) else(ck ((0:Int)<=x94/\x94 <(x100.length:Int)) (ck ((0:Int)<=x94/\x94 <(x101.length:Int)) (ck ((0:Int)<=x94/\x94 <(x101.length:Int)) (ck ((x94:Int)=x94) (z15 φ k93 φ x94 ((gt x101 x94).length:Int) 0 x97 x98 x99 (zw x100 x94 true) (gt x101 x94) x101 x94 x102)))))))
def z06 (φ:Nat):Nat->Int->ze->(List Int)->(List Bool)->(List (List Int))->(List ((Nat->Int)×Int))->Option (Int×Int×Unit)
 | 0,_,_,_,_,_,_=>none
 | n93+1,x87,x88,x89,x90,x91,x92=>(z12 φ (z06 φ n93) φ (-1) (x89.length:Int) 0 x87 x88 x89 x90 x91 x92)
def z0f (φ:Nat):Nat->Int->Int->Int->Int->ze->(List Int)->(List Bool)->(List (List Int))->(List ((Nat->Int)×Int))->Option (Int×Int×Unit)
 | 0,_,_,_,_,_,_,_,_,_=>none
 | n86+1,x77,x78,x79,x80,x81,x82,x83,x84,x85=>(if(decide ((x79:Int)<x78))=true then(ck ((0:Int)<=x79/\x79 <(x82.length:Int)) ((z0f φ n86) x77 x78 (W (x79+1)) x80 x81 (zw x82 x79 (-1)) x83 x84 x85)) else(ck ((0:Int)<=x77/\x77 <(x82.length:Int)) (z06 φ φ x80 x81 (zw x82 x77 0) x83 x84 x85)))
def z1h (φ:Nat):Nat->Int->Int->Int->Int->(List (List Int))->ze->(List ((Nat->Int)×Int))->Option (Int×Int×Unit)
 | 0,_,_,_,_,_,_,_=>none
 | n75+1,x68,x69,x70,x71,x72,x73,x74=>(if(decide ((x69:Int)<x68))=true then(ck ((0:Int)<=x69/\x69 <(x72.length:Int)) (ck ((0:Int)<=x69/\x69 <(x72.length:Int)) (ck ((x69:Int)=x69) ((zzw (gt x72 x69)).bind fun y76=>((z1h φ n75) x68 (W (x69+1)) x70 x71 (zw x72 x69 y76) x73 x74))))) else(ck (z0o (x73.places.length:Int) 8) (ck (z0o (((List.replicate ((x73.places.length:Int):Int).toNat (default:Int)).length:Int)) 1) (z0f φ φ x70 (((List.replicate ((x73.places.length:Int):Int).toNat (default:Int)).length:Int)) 0 x71 x73 (List.replicate ((x73.places.length:Int):Int).toNat (default:Int)) ((List.replicate (((List.replicate ((x73.places.length:Int):Int).toNat (default:Int)).length:Int):Int).toNat (default:Bool))) x72 x74))))
def z01 (φ:Nat):Nat->(List Edge)->Int->Int->Int->Int->ze->ze->(List (List Int))->(List ((Nat->Int)×Int))->Option (Int×Int×Unit)
 | 0,_,_,_,_,_,_,_,_,_=>none
 | n23+1,x14,x15,x16,x17,x18,x19,x20,x21,x22=>(if(decide ((x16:Int)<x15))=true then(ck ((0:Int)<=x16/\x16 <(x14.length:Int)) (if(!(@mget _ _ ⟨beqA 2⟩ x22 ((upd (upd (fun _=>(default:Int)) 0 ((gt x14 x16).a)) 1 ((gt x14 x16).b)))).isSome)=true then(ck ((0:Int)<=(gt x14 x16).a/\(gt x14 x16).a <(x21.length:Int)) (ck ((0:Int)<=(gt x14 x16).a/\(gt x14 x16).a <(x21.length:Int)) (ck (((gt x14 x16).a:Int) =(gt x14 x16).a) (ck (fits ((gt x21 ((gt x14 x16).a)).length +([(gt x14 x16).b]).length) 8) (ck ((0:Int)<=(gt x14 x16).a/\(gt x14 x16).a <(x21.length:Int)) (ck (((gt x14 x16).a:Int) =(gt x14 x16).a) (z3o φ (z01 φ n23) x16 (((@mget _ _ ⟨beqA 2⟩ x22 ((upd (upd (fun _=>(default:Int)) 0 ((gt x14 x16).a)) 1 ((gt x14 x16).b)))).getD default)) ((@mget _ _ ⟨beqA 2⟩ x22 ((upd (upd (fun _=>(default:Int)) 0 ((gt x14 x16).a)) 1 ((gt x14 x16).b)))).isSome) x16 x14 x15 x16 x17 x18 x19 ((upd (upd (fun _=>(default:Int)) 0 ((gt x14 x16).a)) 1 ((gt x14 x16).b))) (gt x14 x16) x20 ((zw x21 ((gt x14 x16).a) (((gt x21 ((gt x14 x16).a))++[(gt x14 x16).b])))) x22))))))) else(z3o φ (z01 φ n23) x16 (((@mget _ _ ⟨beqA 2⟩ x22 ((upd (upd (fun _=>(default:Int)) 0 ((gt x14 x16).a)) 1 ((gt x14 x16).b)))).getD default)) ((@mget _ _ ⟨beqA 2⟩ x22 ((upd (upd (fun _=>(default:Int)) 0 ((gt x14 x16).a)) 1 ((gt x14 x16).b)))).isSome) x16 x14 x15 x16 x17 x18 x19 ((upd (upd (fun _=>(default:Int)) 0 ((gt x14 x16).a)) 1 ((gt x14 x16).b))) (gt x14 x16) x20 x21 x22))) else(z1h φ φ (x21.length:Int) 0 x17 x18 x21 x20 x22))
def z07 (φ:Nat):Nat->Int->Int->Int->Int->ze->(List Int)->ze->(List (List Int))->Option (Int×Int×Unit)
 | 0,_,_,_,_,_,_,_,_=>none
 | n13+1,x5,x6,x7,x8,x9,x10,x11,x12=>(if(decide ((x6:Int)<x5))=true then(ck ((0:Int)<=x6/\x6 <(x10.length:Int)) (if((decide (((gt x10 x6):Int)<0))||(decide (((x9.places.length:Int):Int)<=(gt x10 x6))))=true then(some (0,1,())) else((z07 φ n13) x5 (W (x6+1)) x7 x8 x9 x10 x11 x12))) else(ck (z0o (x9.places.length:Int) 24) (z01 φ φ x9.edges (x9.edges.length:Int) 0 x7 x8 x9 x11 (List.replicate ((x9.places.length:Int):Int).toNat (default :(List Int))) ([]:List ((Nat->Int)×Int)))))
def zo (φ:Nat) (x1:ze) (x2:Int) (x3:Int):Option (Int×Int×Unit):=((z8r φ x1).bind fun y4=>(if((y4.1:Int) !=0)=true then(if((y4.1:Int) !=0)=true then(some (0,y4.1,())) else(ck (z0o (x1.places.length:Int) 8) (ck (z0o (((List.replicate ((x1.places.length:Int):Int).toNat (default:Int)).length:Int)) 1) none))) else(z07 φ φ (([x2,x3]).length:Int) 0 x2 x3 x1 ([x2,x3]) x1 ([]:List (List Int)))))
def z5a (φ:Nat):Fsp TV:=⟨[15,0,0],[.val 0,.val 0],fun z=>zo φ z.1 z.2.1 z.2.2.1⟩
def z3g (φ:Nat) (x1:ze) (x2:zk) (x3:zk):Option (Int×Unit):=(if(((x2.place:Int) !=x3.place)&&x2.stay)=true then(some (1073741825,())) else((zo φ x1 x2.place x3.place).bind fun y4=>(if((y4.2.1:Int) !=0)=true then(some (1073741825,())) else(some (y4.1,())))))
def zh3 (φ:Nat):Fsp TV:=⟨[15,3,3],[.val 0],fun z=>z3g φ z.1 z.2.1 z.2.2.1⟩
def z2l (φ:Nat) (k19 :((List (List z6))->(List (List z6))->Int->Int->Pool->Int->Int->(List (Int×Int))->(List z8)->(List (Nat->Ref))->(List z0h)->(List z8)->(List (Nat->Ref))->(List z0h)->Option (zn×Int×Unit))):Nat->(List (List z6))->(List (List z6))->Int->Int->(List z6)->Int->Int->Pool->Int->Int->(List (Int×Int))->(List z8)->(List (Nat->Ref))->(List z0h)->(List z8)->(List (Nat->Ref))->(List z0h)->Option (zn×Int×Unit)
 | 0,_,_,_,_,_,_,_,_,_,_,_,_,_,_,_,_,_=>none
 | n37+1,x20,x21,x22,x23,x24,x25,x26,x27,x28,x29,x30,x31,x32,x33,x34,x35,x36=>(if(decide ((x26:Int)<x25))=true then(ck ((0:Int)<=x26/\x26 <(x24.length:Int)) (if(decide ((0:Int)<=(gt x24 x26).reader))=true then((z2l φ k19 n37) x20 x21 x22 x23 x24 x25 (W (x26+1)) x27 x28 x29 (mset x30 ((gt x24 x26).reader) 0) x31 x32 x33 x34 x35 x36) else((z2l φ k19 n37) x20 x21 x22 x23 x24 x25 (W (x26+1)) x27 x28 x29 x30 x31 x32 x33 x34 x35 x36))) else(k19 x20 x21 x22 (W (x23+1)) x27 x28 x29 x30 x31 x32 x33 x34 x35 x36))
def z3u (φ:Nat) (k52 :((List (List z6))->(List z26)->Int->Int->Pool->Int->Int->(List (Int×Int))->(List z8)->(List (Nat->Ref))->(List z0h)->(List z8)->(List (Nat->Ref))->(List z0h)->Option (zn×Int×Unit))):Nat->Int->Int->(List (List z6))->(List z26)->Int->Int->(Nat->Ref)->Int->Int->Int->z8->Int->Int->z8->Int->(Nat->Ref)->(List z8)->Pool->Int->(List (Int×Int))->z26->(List z8)->(List (Nat->Ref))->(List z0h)->(List z8)->(List (Nat->Ref))->(List z0h)->Option (zn×Int×Unit)
 | 0,_,_,_,_,_,_,_,_,_,_,_,_,_,_,_,_,_,_,_,_,_,_,_,_,_,_,_=>none
 | n80+1,x53,x54,x55,x56,x57,x58,x59,x60,x61,x62,x63,x64,x65,x66,x67,x68,x69,x70,x71,x72,x73,x74,x75,x76,x77,x78,x79=>(if(decide ((x54:Int)<x53))=true then(ck ((0:Int)<=x54/\x54 <(x69.length:Int)) (ck (fits (x74.length +([(gt x69 x54)]).length) 24) (ck (fits (x75.length +([x68]).length) 32) ((z3u φ k52 n80) x53 (W (x54+1)) x55 x56 x57 x58 x59 x60 x61 x62 x63 x64 x65 x66 x67 x68 x69 x70 x71 x72 x73 (x74++[(gt x69 x54)]) (x75++[x68]) x76 x77 x78 x79)))) else(k52 x55 x56 x57 (W (x58+1)) x70 x71 (W (x67+1)) x72 x77 x78 x79 x74 x75 x76))
def z38 (φ:Nat) (k112 :((List z6)->(List (List z6))->Int->Int->(List z6)->Int->Int->Pool->Int->Int->(List (Int×Int))->(List z8)->(List (Nat->Ref))->(List z0h)->(List z8)->(List (Nat->Ref))->(List z0h)->Option (zn×Int×Unit))):Nat->Int->Int->(List z6)->(List (List z6))->Int->Int->(List z6)->Int->Int->Ref->Ref->(Nat->Ref)->Int->Int->Int->ze->zk->zk->Int->Int->z8->Int->(Nat->Ref)->(List z8)->Pool->Int->(List (Int×Int))->zk->z6->(List z8)->(List (Nat->Ref))->(List z0h)->(List z8)->(List (Nat->Ref))->(List z0h)->Option (zn×Int×Unit)
 | 0,_,_,_,_,_,_,_,_,_,_,_,_,_,_,_,_,_,_,_,_,_,_,_,_,_,_,_,_,_,_,_,_,_,_,_=>none
 | n170+1,x135,x136,x137,x138,x139,x140,x141,x142,x143,x144,x145,x146,x147,x148,x149,x150,x151,x152,x153,x154,x155,x156,x157,x158,x159,x160,x161,x162,x163,x164,x165,x166,x167,x168,x169=>(if(decide ((x136:Int)<x135))=true then(ck ((0:Int)<=x136/\x136 <(x158.length:Int)) (ck (fits (x164.length +([(gt x158 x136)]).length) 24) (ck (fits (x165.length +([x157]).length) 32) ((z38 φ k112 n170) x135 (W (x136+1)) x137 x138 x139 x140 x141 x142 x143 x144 x145 x146 x147 x148 x149 x150 x151 x152 x153 x154 x155 x156 x157 x158 x159 x160 x161 x162 x163 (x164++[(gt x158 x136)]) (x165++[x157]) x166 x167 x168 x169)))) else(k112 x137 x138 x139 x140 x141 x142 (W (x143+1)) x159 x160 x156 x161 x167 x168 x169 x164 x165 x166))
def z1e (φ:Nat) (k112 :((List z6)->(List (List z6))->Int->Int->(List z6)->Int->Int->Pool->Int->Int->(List (Int×Int))->(List z8)->(List (Nat->Ref))->(List z0h)->(List z8)->(List (Nat->Ref))->(List z0h)->Option (zn×Int×Unit))) (x113 :(List z6)) (x114:Int) (x115:Int) (x116 :(List (List z6))) (x117:Int) (x118:Int) (x119 :(List z6)) (x120:Int) (x121:Int) (x122:Pool) (x123:Int) (x124:Int) (x125 :(List (Int×Int))) (x126:z6) (x127 :(List z8)) (x128 :(List (Nat->Ref))) (x129 :(List z0h)) (x130 :(List z8)) (x131 :(List (Nat->Ref))) (x132 :(List z0h)):Option (zn×Int×Unit):=(if(decide ((0:Int)<x114))=true then(ck ((0:Int)<=(W (x114-1))/\(W (x114-1)) <(x113.length:Int)) ((z3g φ x122.network (((gt x113 (W (x114-1))).visit)) x126.visit).bind fun y134=>(z38 φ k112 φ ((([(⟨x115,W (x115-1),W (0-y134.1)⟩:z8)]).length:Int)) 0 x113 x116 x117 x118 x119 x120 x121 ((((gt x113 (W (x114-1))).visit).ref)) x126.visit.ref ((upd ((upd (fun _=>(default:Ref)) 0 ((((gt x113 (W (x114-1))).visit).ref)))) 1 x126.visit.ref)) x115 x115 (W (x115-1)) x122.network (((gt x113 (W (x114-1))).visit)) x126.visit y134.1 (W (0-y134.1)) (⟨x115,W (x115-1),W (0-y134.1)⟩:z8) x124 ((upd ((upd (fun _=>(default:Ref)) 0 ((((gt x113 (W (x114-1))).visit).ref)))) 1 x126.visit.ref)) ([(⟨x115,W (x115-1),W (0-y134.1)⟩:z8)]) x122 x123 x125 (((gt x113 (W (x114-1))).visit)) x126 x130 x131 x132 x127 x128 x129))) else(k112 x113 x116 x117 x118 x119 x120 (W (x121+1)) x122 x123 x124 x125 x127 x128 x129 x130 x131 x132))
def z32 (φ:Nat) (k112 :((List z6)->(List (List z6))->Int->Int->(List z6)->Int->Int->Pool->Int->Int->(List (Int×Int))->(List z8)->(List (Nat->Ref))->(List z0h)->(List z8)->(List (Nat->Ref))->(List z0h)->Option (zn×Int×Unit))):Nat->Int->Int->(List z6)->Int->Int->(List (List z6))->Int->Int->(List z6)->Int->Int->Int->(Nat->Ref)->(List z8)->Pool->Int->(List (Int×Int))->z6->(List z8)->(List (Nat->Ref))->(List z0h)->(List z8)->(List (Nat->Ref))->(List z0h)->Option (zn×Int×Unit)
 | 0,_,_,_,_,_,_,_,_,_,_,_,_,_,_,_,_,_,_,_,_,_,_,_,_=>none
 | n195+1,x171,x172,x173,x174,x175,x176,x177,x178,x179,x180,x181,x182,x183,x184,x185,x186,x187,x188,x189,x190,x191,x192,x193,x194=>(if(decide ((x172:Int)<x171))=true then(ck ((0:Int)<=x172/\x172 <(x184.length:Int)) (ck (fits (x189.length +([(gt x184 x172)]).length) 24) (ck (fits (x190.length +([x183]).length) 32) ((z32 φ k112 n195) x171 (W (x172+1)) x173 x174 x175 x176 x177 x178 x179 x180 x181 x182 x183 x184 x185 x186 x187 x188 (x189++[(gt x184 x172)]) (x190++[x183]) x191 x192 x193 x194)))) else(z1e φ k112 x173 x174 x175 x176 x177 x178 x179 x180 x181 x185 x186 x182 x187 x188 x192 x193 x194 x189 x190 x191))
def z35 (φ:Nat) (k112 :((List z6)->(List (List z6))->Int->Int->(List z6)->Int->Int->Pool->Int->Int->(List (Int×Int))->(List z8)->(List (Nat->Ref))->(List z0h)->(List z8)->(List (Nat->Ref))->(List z0h)->Option (zn×Int×Unit))):Nat->Int->Int->(List z6)->Int->Int->(List (List z6))->Int->Int->(List z6)->Int->Int->Int->(Nat->Ref)->(List z8)->Pool->Int->(List (Int×Int))->z6->(List z8)->(List (Nat->Ref))->(List z0h)->(List z8)->(List (Nat->Ref))->(List z0h)->Option (zn×Int×Unit)
 | 0,_,_,_,_,_,_,_,_,_,_,_,_,_,_,_,_,_,_,_,_,_,_,_,_=>none
 | n220+1,x196,x197,x198,x199,x200,x201,x202,x203,x204,x205,x206,x207,x208,x209,x210,x211,x212,x213,x214,x215,x216,x217,x218,x219=>(if(decide ((x197:Int)<x196))=true then(ck ((0:Int)<=x197/\x197 <(x209.length:Int)) (ck (fits (x214.length +([(gt x209 x197)]).length) 24) (ck (fits (x215.length +([x208]).length) 32) ((z35 φ k112 n220) x196 (W (x197+1)) x198 x199 x200 x201 x202 x203 x204 x205 x206 x207 x208 x209 x210 x211 x212 x213 (x214++[(gt x209 x197)]) (x215++[x208]) x216 x217 x218 x219)))) else(z1e φ k112 x198 x199 x200 x201 x202 x203 x204 x205 x206 x210 x211 x207 x212 x213 x217 x218 x219 x214 x215 x216))
def z0q (φ:Nat) (k94 :((List (List z6))->Int->Int->Pool->Int->Int->(List (Int×Int))->(List z8)->(List (Nat->Ref))->(List z0h)->(List z8)->(List (Nat->Ref))->(List z0h)->Option (zn×Int×Unit))):Nat->(List z6)->(List (List z6))->Int->Int->(List z6)->Int->Int->Pool->Int->Int->(List (Int×Int))->(List z8)->(List (Nat->Ref))->(List z0h)->(List z8)->(List (Nat->Ref))->(List z0h)->Option (zn×Int×Unit)
 | 0,_,_,_,_,_,_,_,_,_,_,_,_,_,_,_,_,_=>none
 | n112+1,x95,x96,x97,x98,x99,x100,x101,x102,x103,x104,x105,x106,x107,x108,x109,x110,x111=>(if(decide ((x101:Int)<x100))=true then(ck ((0:Int)<=x101/\x101 <(x99.length:Int)) (ck (fits (x111.length +([(⟨((gt x99 x101).visit).wagon,((gt x99 x101).visit).place,x104,((gt x99 x101).visit).ref,((gt x99 x101).visit).stay⟩:z0h)]).length) 48) (if(decide (((gt x99 x101).reader:Int)<0))=true then(z32 φ (z0q φ k94 n112) φ ((([(⟨0,x104,((gt x99 x101).visit).early⟩:z8),(⟨x104,0,W (0 -((gt x99 x101).visit).early)⟩:z8)]).length:Int)) 0 x95 x101 x104 x96 x97 x98 x99 x100 x101 (W (x104+1)) ((upd (fun _=>(default:Ref)) 0 (((gt x99 x101).visit).ref))) ([(⟨0,x104,((gt x99 x101).visit).early⟩:z8),(⟨x104,0,W (0 -((gt x99 x101).visit).early)⟩:z8)]) x102 x103 x105 (gt x99 x101) x109 x110 ((x111++[(⟨((gt x99 x101).visit).wagon,((gt x99 x101).visit).place,x104,((gt x99 x101).visit).ref,((gt x99 x101).visit).stay⟩:z0h)])) x106 x107 x108) else(z35 φ (z0q φ k94 n112) φ ((([(⟨(mget x105 ((gt x99 x101).reader)).getD default,x104,((gt x99 x101).visit).early⟩:z8),(⟨x104,(mget x105 ((gt x99 x101).reader)).getD default,W (0 -((gt x99 x101).visit).early)⟩:z8),(⟨0,x104,1073741824⟩:z8),(⟨x104,0,0⟩:z8)]).length:Int)) 0 x95 x101 x104 x96 x97 x98 x99 x100 x101 (W (x104+1)) ((upd (fun _=>(default:Ref)) 0 (((gt x99 x101).visit).ref))) ([(⟨(mget x105 ((gt x99 x101).reader)).getD default,x104,((gt x99 x101).visit).early⟩:z8),(⟨x104,(mget x105 ((gt x99 x101).reader)).getD default,W (0 -((gt x99 x101).visit).early)⟩:z8),(⟨0,x104,1073741824⟩:z8),(⟨x104,0,0⟩:z8)]) x102 x103 x105 (gt x99 x101) x109 x110 ((x111++[(⟨((gt x99 x101).visit).wagon,((gt x99 x101).visit).place,x104,((gt x99 x101).visit).ref,((gt x99 x101).visit).stay⟩:z0h)])) x106 x107 x108)))) else(k94 x96 x97 (W (x98+1)) x102 x103 x104 x105 x106 x107 x108 x109 x110 x111))
def z2o (φ:Nat):Nat->(List (List z6))->Int->Int->Pool->Int->Int->(List (Int×Int))->(List z8)->(List (Nat->Ref))->(List z0h)->(List z8)->(List (Nat->Ref))->(List z0h)->Option (zn×Int×Unit)
 | 0,_,_,_,_,_,_,_,_,_,_,_,_,_=>none
 | n94+1,x81,x82,x83,x84,x85,x86,x87,x88,x89,x90,x91,x92,x93=>(if(decide ((x83:Int)<x82))=true then(ck ((0:Int)<=x83/\x83 <(x81.length:Int)) (z0q φ (z2o φ n94) φ (gt x81 x83) x81 x82 x83 (gt x81 x83) ((gt x81 x83).length:Int) 0 x84 x85 x86 x87 x88 x89 x90 x91 x92 x93)) else(if((decide ((512:Int)<x86))||(decide ((4096:Int) <(x91.length:Int))))=true then(some ((⟨0,([]:List z8),([]:List (Nat->Ref)),([]:List z0h)⟩:zn),2,())) else(some ((⟨x86,x91,x92,x93⟩:zn),0,()))))
def z1v (φ:Nat):Nat->(List (List z6))->(List z26)->Int->Int->Pool->Int->Int->(List (Int×Int))->(List z8)->(List (Nat->Ref))->(List z0h)->(List z8)->(List (Nat->Ref))->(List z0h)->Option (zn×Int×Unit)
 | 0,_,_,_,_,_,_,_,_,_,_,_,_,_,_=>none
 | n52+1,x38,x39,x40,x41,x42,x43,x44,x45,x46,x47,x48,x49,x50,x51=>(if(decide ((x41:Int)<x40))=true then(ck ((0:Int)<=x41/\x41 <(x39.length:Int)) (if(mget x45 x41).isSome=true then(z3u φ (z1v φ n52) φ ((([(⟨0,x44,W (0 -(gt x39 x41).low)⟩:z8),(⟨x44,0,(gt x39 x41).high⟩:z8)]).length:Int)) 0 x38 x39 x40 x41 (fun _=>(default:Ref)) x44 ((gt x39 x41).low) (W (0 -(gt x39 x41).low)) (⟨0,x44,W (0 -(gt x39 x41).low)⟩:z8) x44 ((gt x39 x41).high) (⟨x44,0,(gt x39 x41).high⟩:z8) x44 (fun _=>(default:Ref)) ([(⟨0,x44,W (0 -(gt x39 x41).low)⟩:z8),(⟨x44,0,(gt x39 x41).high⟩:z8)]) x42 x43 (mset x45 x41 x44) (gt x39 x41) x49 x50 x51 x46 x47 x48) else((z1v φ n52) x38 x39 x40 (W (x41+1)) x42 x43 x44 x45 x46 x47 x48 x49 x50 x51))) else(z2o φ φ x38 (x38.length:Int) 0 x42 x43 x44 x45 x46 x47 x48 x49 x50 x51))
def z2p (φ:Nat):Nat->(List (List z6))->(List (List z6))->Int->Int->Pool->Int->Int->(List (Int×Int))->(List z8)->(List (Nat->Ref))->(List z0h)->(List z8)->(List (Nat->Ref))->(List z0h)->Option (zn×Int×Unit)
 | 0,_,_,_,_,_,_,_,_,_,_,_,_,_,_=>none
 | n19+1,x5,x6,x7,x8,x9,x10,x11,x12,x13,x14,x15,x16,x17,x18=>(if(decide ((x8:Int)<x7))=true then(ck ((0:Int)<=x8/\x8 <(x6.length:Int)) (z2l φ (z2p φ n19) φ x5 x6 x7 x8 (gt x6 x8) ((gt x6 x8).length:Int) 0 x9 x10 x11 x12 x13 x14 x15 x16 x17 x18)) else(z1v φ φ x5 x9.readers (x9.readers.length:Int) 0 x9 x10 x11 x12 x13 x14 x15 x16 x17 x18))
def zap (φ:Nat) (x1:Pool) (x2 :(List zd)):Option (zn×Int×Unit):=((z58 φ x1).bind fun y3=>(if((y3.1:Int) !=0)=true then(some ((⟨0,([]:List z8),([]:List (Nat->Ref)),([]:List z0h)⟩:zn),y3.1,())) else((zg2 φ x1 x2).bind fun y4=>(z2p φ φ y4.1 y4.1 (y4.1.length:Int) 0 x1 0 1 ([]:List (Int×Int)) ([]:List z8) ([]:List (Nat->Ref)) ([]:List z0h) ([]:List z8) ([]:List (Nat->Ref)) ([]:List z0h)))))
def zd8 (φ:Nat):Fsp TV:=⟨[35,38],[.val 48,.val 0],fun z=>zap φ z.1 z.2.1⟩
def z71 (φ:Nat):Nat->Int->(List z8)->Int->Int->Option (Int×Unit)
 | 0,_,_,_,_=>none
 | n7+1,x3,x4,x5,x6=>(if(decide ((x6:Int)<x5))=true then(ck ((0:Int)<=x6/\x6 <(x4.length:Int)) (if((((decide (((min2 ((gt x4 x6).i) ((gt x4 x6).j)):Int)<0))||(decide ((x3:Int)<=(max2 ((gt x4 x6).i) ((gt x4 x6).j)))))||(decide (((gt x4 x6).w:Int) <(-1099511627776))))||(decide ((1099511627776:Int) <(gt x4 x6).w)))=true then(some (1,())) else((z71 φ n7) x3 x4 x5 (W (x6+1))))) else(some (0,())))
def zhg (φ:Nat) (x1:Int) (x2 :(List z8)):Option (Int×Unit):=(if(decide ((x1:Int)<1))=true then(some (1,())) else(if((decide ((512:Int)<x1))||(decide ((4096:Int) <(x2.length:Int))))=true then(some (2,())) else(z71 φ φ x1 x2 (x2.length:Int) 0)))
def zgk (φ:Nat):Fsp TV:=⟨[0,43],[.val 0],fun z=>zhg φ z.1 z.2.1⟩
def ycu (φ:Nat) (x1:Int) (x2:Int):Option (Int×Int×Unit):=(if 0<=(32:Int) then(some ((IntKind.wrap .u32 ((((U ((U (x1)) *(U (x2)))):Int).fdiv (2 ^ (min (32:Int).toNat 64))))),(IntKind.wrap .u32 ((U ((U (x1)) *(U (x2)))))),())) else none)
def zl8 (φ:Nat):Fsp TV:=⟨[50,50],[.val 50,.val 50],fun z=>ycu φ z.1 z.2.1⟩
def zzf (φ:Nat) (x1:Int) (x2:Int):Option (Int×Int×Unit):=((z8k φ x1 x2).bind fun y3=>(some (y3.1,y3.2.1,())))
def zqg (φ:Nat):Fsp TV:=⟨[16,16],[.val 16,.val 16],fun z=>zzf φ z.1 z.2.1⟩
def z5u (φ:Nat):Nat->Int->(List Int)->Option ((List Int)×Unit)
 | 0,_,_=>none
 | n6+1,x4,x5=>(if(decide ((x4:Int) <(x5.length:Int)))=true then(ck ((0:Int)<=x4/\x4<=(x5.length:Int)/\(x5.length:Int)<=(x5.length:Int)) (ck ((0:Int)<=0/\0<=x4/\x4<=(x5.length:Int)) ((z5u φ n6) ((W (x4 +((min (z2k x5 ((0:Int).toNat) ((x4:Int).toNat)).length (((x5.length:Int):Int).toNat -(x4:Int).toNat):Nat):Int)))) ((cpy x5 ((x4:Int).toNat) (((x5.length:Int):Int).toNat -(x4:Int).toNat) (z2k x5 ((0:Int).toNat) ((x4:Int).toNat))))))) else(some (x5,())))
def z5m (φ:Nat) (x1 :(List Int)) (x2:Int):Option ((List Int)×Unit):=(if(decide ((x2:Int)<0))=true then none else((zzf φ (U ((x1.length:Int))) (U (x2))).bind fun y3=>(if((decide ((0:Int)<y3.1))||(decide ((9223372036854775807:Int)<y3.2.1)))=true then none else(ck (z0o (W (y3.2.1)) 8) (z5u φ φ (((min x1.length (((List.replicate ((W (y3.2.1)):Int).toNat (default:Int))).length-0):Nat):Int)) ((cpy ((List.replicate ((W (y3.2.1)):Int).toNat (default:Int))) 0 (((List.replicate ((W (y3.2.1)):Int).toNat (default:Int))).length-0) x1)))))))
def zev (φ:Nat):Fsp TV:=⟨[5,0],[.row 3 0],fun z=>z5m φ z.1 z.2.1⟩
def z6q (φ:Nat) (k24 :((List z8)->Int->Int->Int->(List z8)->Int->Int->(List Int)->(List Int)->Option ((List Int)×(List Int)×Int×Unit))) (x25:Int) (x26:Int) (x27 :(List z8)) (x28:Int) (x29:Int) (x30:Int) (x31:Int) (x32 :(List z8)) (x33:Int) (x34:Int) (x35:z8) (x36 :(List Int)) (x37 :(List Int)):Option ((List Int)×(List Int)×Int×Unit):=(ck ((0:Int)<=x35.j/\x35.j <(x36.length:Int)) (ck ((0:Int)<=x35.j/\x35.j <(x37.length:Int)) (k24 x27 x29 x30 x31 x32 x33 (W (x34+1)) (zw x36 x35.j x26) (zw x37 x35.j x25))))
def zc6 (φ:Nat) (k24 :((List z8)->Int->Int->Int->(List z8)->Int->Int->(List Int)->(List Int)->Option ((List Int)×(List Int)×Int×Unit))) (x25:Int) (x26:Int) (x27 :(List z8)) (x28:Int) (x29:Int) (x30:Int) (x31:Int) (x32 :(List z8)) (x33:Int) (x34:Int) (x35:z8) (x36 :(List Int)) (x37 :(List Int)):Option (List (Option ((List Int)×(List Int)×Int×Unit))):=(ck ((0:Int)<=x35.j/\x35.j <(x36.length:Int)) (catL [(catL [(catL [(ck ((0:Int)<=x35.j/\x35.j <(x37.length:Int)) (catL [(some [(k24 x27 x29 x30 x31 x32 x33 (W (x34+1)) (zw x36 x35.j x26) (zw x37 x35.j x25))])]))]),(catL [(ck ((0:Int)<=x35.j/\x35.j <(x37.length:Int)) (catL [(some [(k24 x27 x29 x30 x31 x32 x33 (W (x34+1)) (zw x36 x35.j x26) (zw x37 x35.j x25))])]))])]),(catL [(catL [(ck ((0:Int)<=x35.j/\x35.j <(x37.length:Int)) (catL [(some [(k24 x27 x29 x30 x31 x32 x33 (W (x34+1)) (zw x36 x35.j x26) (zw x37 x35.j x25))])]))]),(catL [(ck ((0:Int)<=x35.j/\x35.j <(x37.length:Int)) (catL [(some [(k24 x27 x29 x30 x31 x32 x33 (W (x34+1)) (zw x36 x35.j x26) (zw x37 x35.j x25))])]))])]),(catL [(catL [(ck ((0:Int)<=x35.j/\x35.j <(x37.length:Int)) (catL [(some [(k24 x27 x29 x30 x31 x32 x33 (W (x34+1)) (zw x36 x35.j x26) (zw x37 x35.j x25))])]))]),(catL [(ck ((0:Int)<=x35.j/\x35.j <(x37.length:Int)) (catL [(some [(k24 x27 x29 x30 x31 x32 x33 (W (x34+1)) (zw x36 x35.j x26) (zw x37 x35.j x25))])]))])])]))
def zfn (φ:Nat) (x39:Int) (x40 :(List Int)) (x41 :(List Int)):Option ((List Int)×(List Int)×Int×Unit):=(some (x40,x41,x39,()))
def zjx (φ:Nat) (x39:Int) (x40 :(List Int)) (x41 :(List Int)):Option (List (Option ((List Int)×(List Int)×Int×Unit))):=(catL [(catL [(catL [(catL [(some [(some (x40,x41,x39,()))])])])]),(catL [(catL [(catL [(some [(some (x40,x41,x39,()))])])])])])
def z2m (φ:Nat) (k14 :((List z8)->Int->Int->Int->(List Int)->(List Int)->Option ((List Int)×(List Int)×Int×Unit))):Nat->(List z8)->Int->Int->Int->(List z8)->Int->Int->(List Int)->(List Int)->Option ((List Int)×(List Int)×Int×Unit)
 | 0,_,_,_,_,_,_,_,_,_=>none
 | n24+1,x15,x16,x17,x18,x19,x20,x21,x22,x23=>(if(decide ((x21:Int)<x20))=true then(ck ((0:Int)<=x21/\x21 <(x19.length:Int)) (ck ((0:Int)<=(gt x19 x21).i/\(gt x19 x21).i <(x22.length:Int)) (ck ((0:Int)<=(gt x19 x21).j/\(gt x19 x21).j <(x22.length:Int)) (if(decide (((W ((gt x22 ((gt x19 x21).i)) +(gt x19 x21).w)):Int) <(gt x22 ((gt x19 x21).j))))=true then(z6q φ (z2m φ k14 n24) x21 ((W ((gt x22 ((gt x19 x21).i)) +(gt x19 x21).w))) x15 x16 x21 x17 x18 x19 x20 x21 (gt x19 x21) x22 x23) else((z2m φ k14 n24) x15 x16 x17 x18 x19 x20 (W (x21+1)) x22 x23))))) else(if(decide ((x16:Int)<0))=true then(zfn φ x16 x22 x23) else(k14 x15 x16 x17 (W (x18+1)) x22 x23)))
def z94 (φ:Nat) (x43:Int) (x44 :(List Int)) (x45 :(List Int)):Option ((List Int)×(List Int)×Int×Unit):=(some (x44,x45,x43,()))
def zcd (φ:Nat) (x43:Int) (x44 :(List Int)) (x45 :(List Int)):Option (List (Option ((List Int)×(List Int)×Int×Unit))):=(catL [(catL [(catL [(catL [(some [(some (x44,x45,x43,()))])])])]),(catL [(catL [(catL [(some [(some (x44,x45,x43,()))])])])])])
def z59 (φ:Nat):Nat->(List z8)->Int->Int->Int->(List Int)->(List Int)->Option ((List Int)×(List Int)×Int×Unit)
 | 0,_,_,_,_,_,_=>none
 | n14+1,x8,x9,x10,x11,x12,x13=>(if(decide ((x11:Int)<x10))=true then(z2m φ (z59 φ n14) φ x8 (-1) x10 x11 x8 (x8.length:Int) 0 x12 x13) else(z94 φ x9 x12 x13))
def z60 (φ:Nat) (x3:Int) (x4 :(List z8)) (x5 :(List Int)) (x6 :(List Int)):Option ((List Int)×(List Int)×Int×Unit):=(z59 φ φ x4 (-1) x3 0 x5 x6)
def z6s (φ:Nat) (x47:Int) (x48 :(List z8)) (x49 :(List Int)) (x50 :(List Int)):Option ((List Int)×(List Int)×Int×Unit):=(ck (z0o x47 8) ((z5m φ ([(-1)]) x47).bind fun y52=>(z60 φ x47 x48 (List.replicate (x47:Int).toNat (default:Int)) y52.1)))
def zc3 (φ:Nat) (x47:Int) (x48 :(List z8)) (x49 :(List Int)) (x50 :(List Int)):Option (List (Option ((List Int)×(List Int)×Int×Unit))):=(catL [(ck (z0o x47 8) (catL [(catL [((z5m φ ([(-1)]) x47).bind fun y53=>(catL [(catL [(some [(z60 φ x47 x48 (List.replicate (x47:Int).toNat (default:Int)) y53.1)])])]))])])),(catL [(ck (z0o x47 8) (catL [((z5m φ ([(-1)]) x47).bind fun y54=>(catL [(catL [(some [(z60 φ x47 x48 (List.replicate (x47:Int).toNat (default:Int)) y54.1)])])]))])),((z5m φ ([(-1)]) x47).bind fun y55=>(catL [(ck (z0o x47 8) (catL [(catL [(some [(z60 φ x47 x48 (List.replicate (x47:Int).toNat (default:Int)) y55.1)])])]))]))])])
def zf8 (φ:Nat) (x1:Int) (x2 :(List z8)):Option ((List Int)×(List Int)×Int×Unit):=(z6s φ x1 x2 ([]:List Int) ([]:List Int))
def zda (φ:Nat):Fsp TV:=⟨[0,43],[.val 5,.val 5,.val 0],fun z=>zf8 φ z.1 z.2.1⟩
def zar (φ:Nat) (x1:Int) (x2 :(List z8)):Option ((List Int)×Int×Unit):=((zhg φ x1 x2).bind fun y3=>(if((y3.1:Int) !=0)=true then(some (([]:List Int),y3.1,())) else((zf8 φ x1 x2).bind fun y4=>(if(decide ((0:Int)<=y4.2.2.1))=true then(some (([]:List Int),230,())) else(some (y4.1,0,()))))))
def zgb (φ:Nat):Fsp TV:=⟨[0,43],[.val 5,.val 0],fun z=>zar φ z.1 z.2.1⟩
def z2r (φ:Nat) (k25 :(Int->Int->(List z8)->Int->Int->zn->Bool->Bool->(List Int)->Option ((List Int)×Unit))) (x26:Int) (x27:Int) (x28:Int) (x29:Int) (x30 :(List z8)) (x31:Int) (x32:Int) (x33:Bool) (x34:z8) (x35:zn) (x36:Bool) (x37 :(List Int)):Option ((List Int)×Unit):=(ck ((0:Int)<=x26/\x26 <(x37.length:Int)) (ck (((decide (((gt x37 x26):Int)<1125899906842624))=true)->(0:Int)<=x26/\x26 <(x37.length:Int)) (ck (((decide (((gt x37 x26):Int)<1125899906842624))=true)->(0:Int)<=x27/\x27 <(x37.length:Int)) (if((decide (((gt x37 x26):Int)<1125899906842624))&&(decide (((W ((gt x37 x26)+x34.w)):Int) <(gt x37 x27))))=true then(ck ((0:Int)<=x26/\x26 <(x37.length:Int)) (ck ((0:Int)<=x27/\x27 <(x37.length:Int)) (k25 x28 x29 x30 x31 (W (x32+1)) x35 true x36 ((zw x37 x27 (W ((gt x37 x26)+x34.w))))))) else(k25 x28 x29 x30 x31 (W (x32+1)) x35 x33 x36 x37)))))
def z0c (φ:Nat) (k15 :(Int->Int->zn->Bool->Bool->(List Int)->Option ((List Int)×Unit))):Nat->Int->Int->(List z8)->Int->Int->zn->Bool->Bool->(List Int)->Option ((List Int)×Unit)
 | 0,_,_,_,_,_,_,_,_,_=>none
 | n25+1,x16,x17,x18,x19,x20,x21,x22,x23,x24=>(if(decide ((x20:Int)<x19))=true then(ck ((0:Int)<=x20/\x20 <(x18.length:Int)) (if x23=true then(z2r φ (z0c φ k15 n25) ((gt x18 x20).j) ((gt x18 x20).i) x16 x17 x18 x19 x20 x22 (gt x18 x20) x21 x23 x24) else(z2r φ (z0c φ k15 n25) ((gt x18 x20).i) ((gt x18 x20).j) x16 x17 x18 x19 x20 x22 (gt x18 x20) x21 x23 x24))) else(k15 x16 (W (x17+1)) x21 x22 x23 x24))
def z1o (φ:Nat):Nat->Int->Int->zn->Bool->Bool->(List Int)->Option ((List Int)×Unit)
 | 0,_,_,_,_,_,_=>none
 | n15+1,x9,x10,x11,x12,x13,x14=>(if(decide ((x10:Int)<x9))=true then(if(!x12)=true then(some (x14,())) else(z0c φ (z1o φ n15) φ x9 x10 x11.bounds (x11.bounds.length:Int) 0 x11 false x13 x14)) else(some (x14,())))
def z14 (φ:Nat):Nat->Int->Int->zn->Bool->(List Int)->Option ((List Int)×Unit)
 | 0,_,_,_,_,_=>none
 | n8+1,x3,x4,x5,x6,x7=>(if(decide ((x4:Int)<x3))=true then(if(decide ((0:Int)<x4))=true then(ck ((0:Int)<=x4/\x4 <(x7.length:Int)) ((z14 φ n8) x3 (W (x4+1)) x5 x6 (zw x7 x4 1125899906842624))) else((z14 φ n8) x3 (W (x4+1)) x5 x6 x7)) else(z1o φ φ x5.vars 0 x5 true x6 x7))
def z1p (φ:Nat) (x1:zn) (x2:Bool):Option ((List Int)×Unit):=(ck (z0o x1.vars 8) (z14 φ φ ((List.replicate (x1.vars:Int).toNat (default:Int)).length:Int) 0 x1 x2 (List.replicate (x1.vars:Int).toNat (default:Int))))
def z5p (φ:Nat):Fsp TV:=⟨[48,2],[.val 5],fun z=>z1p φ z.1 z.2.1⟩
def z2g (φ:Nat):Nat->(List Int)->(List Int)->(List z0h)->Int->Int->zn->(List zk)->Option (zn×(List zk)×Int×Unit)
 | 0,_,_,_,_,_,_,_=>none
 | n14+1,x7,x8,x9,x10,x11,x12,x13=>(if(decide ((x11:Int)<x10))=true then(ck ((0:Int)<=x11/\x11 <(x9.length:Int)) (ck ((0:Int)<=(gt x9 x11).var/\(gt x9 x11).var <(x8.length:Int)) (ck ((0:Int)<=(gt x9 x11).var/\(gt x9 x11).var <(x7.length:Int)) (ck (fits (x13.length +([(⟨(gt x9 x11).wagon,(gt x9 x11).place,(gt x9 x11).ref,(gt x9 x11).stay,W (0 -(gt x8 ((gt x9 x11).var))),gt x7 ((gt x9 x11).var)⟩:zk)]).length) 56) ((z2g φ n14) x7 x8 x9 x10 (W (x11+1)) x12 ((x13++[(⟨(gt x9 x11).wagon,(gt x9 x11).place,(gt x9 x11).ref,(gt x9 x11).stay,W (0 -(gt x8 ((gt x9 x11).var))),gt x7 ((gt x9 x11).var)⟩:zk)]))))))) else(some (x12,x13,0,())))
def z8t (φ:Nat) (x1:Pool) (x2 :(List zd)):Option (zn×(List zk)×Int×Unit):=((zap φ x1 x2).bind fun y3=>(if((y3.2.1:Int) !=0)=true then(some ((⟨0,([]:List z8),([]:List (Nat->Ref)),([]:List z0h)⟩:zn),([]:List zk),y3.2.1,())) else((zar φ y3.1.vars y3.1.bounds).bind fun y4=>(if((y4.2.1:Int) !=0)=true then(some ((⟨0,([]:List z8),([]:List (Nat->Ref)),([]:List z0h)⟩:zn),([]:List zk),y4.2.1,())) else((z1p φ y3.1 false).bind fun y5=>((z1p φ y3.1 true).bind fun y6=>(z2g φ φ y5.1 y6.1 y3.1.events (y3.1.events.length:Int) 0 y3.1 ([]:List zk))))))))
def z93 (φ:Nat):Fsp TV:=⟨[35,38],[.val 48,.val 51,.val 0],fun z=>z8t φ z.1 z.2.1⟩
def zz (φ:Nat) (x1:Pool) (x2 :(List zd)):Option ((List zk)×Int×Unit):=((z8t φ x1 x2).bind fun y3=>(some (y3.2.1,y3.2.2.1,())))
def z8d (φ:Nat):Fsp TV:=⟨[35,38],[.val 51,.val 0],fun z=>zz φ z.1 z.2.1⟩
def z6f (φ:Nat):Nat->Int->Int->Int->(List zk)->Option ((List zk)×Int×Unit)
 | 0,_,_,_,_=>none
 | n8+1,x4,x5,x6,x7=>(if(decide ((x6:Int)<x5))=true then(ck ((0:Int)<=x6/\x6 <(x7.length:Int)) (ck ((0:Int)<=x6/\x6 <(x7.length:Int)) ((z6f φ n8) x4 x5 (W (x6+1)) (zw x7 x6 (⟨(gt x7 x6).wagon,(gt x7 x6).place,(gt x7 x6).ref,(gt x7 x6).stay,(gt x7 x6).early,(gt x7 x6).early⟩:zk))))) else(some (x7,x4,())))
def z8f (φ:Nat):Nat->Int->Int->Int->(List zk)->Option ((List zk)×Int×Unit)
 | 0,_,_,_,_=>none
 | n14+1,x10,x11,x12,x13=>(if(decide ((x12:Int)<x11))=true then(ck ((0:Int)<=x12/\x12 <(x13.length:Int)) (ck ((0:Int)<=x12/\x12 <(x13.length:Int)) ((z8f φ n14) x10 x11 (W (x12+1)) (zw x13 x12 (⟨(gt x13 x12).wagon,(gt x13 x12).place,(gt x13 x12).ref,(gt x13 x12).stay,(gt x13 x12).early,(gt x13 x12).early⟩:zk))))) else(some (x13,x10,())))
def z2a (φ:Nat):Nat->Int->Int->Int->(List zk)->Option ((List zk)×Int×Unit)
 | 0,_,_,_,_=>none
 | n29+1,x25,x26,x27,x28=>(if(decide ((x27:Int)<x26))=true then(ck ((0:Int)<=x27/\x27 <(x28.length:Int)) (ck ((0:Int)<=x27/\x27 <(x28.length:Int)) ((z2a φ n29) x25 x26 (W (x27+1)) (zw x28 x27 (⟨(gt x28 x27).wagon,(gt x28 x27).place,(gt x28 x27).ref,(gt x28 x27).stay,(gt x28 x27).early,(gt x28 x27).early⟩:zk))))) else(some (x28,x25,())))
def z1g (φ:Nat):Nat->(List Int)->(List Int)->(List z0h)->Int->Int->zn->(List zk)->Option ((List zk)×Int×Unit)
 | 0,_,_,_,_,_,_,_=>none
 | n24+1,x17,x18,x19,x20,x21,x22,x23=>(if(decide ((x21:Int)<x20))=true then(ck ((0:Int)<=x21/\x21 <(x19.length:Int)) (ck ((0:Int)<=(gt x19 x21).var/\(gt x19 x21).var <(x18.length:Int)) (ck ((0:Int)<=(gt x19 x21).var/\(gt x19 x21).var <(x17.length:Int)) (ck (fits (x23.length +([(⟨(gt x19 x21).wagon,(gt x19 x21).place,(gt x19 x21).ref,(gt x19 x21).stay,W (0 -(gt x18 ((gt x19 x21).var))),gt x17 ((gt x19 x21).var)⟩:zk)]).length) 56) ((z1g φ n24) x17 x18 x19 x20 (W (x21+1)) x22 ((x23++[(⟨(gt x19 x21).wagon,(gt x19 x21).place,(gt x19 x21).ref,(gt x19 x21).stay,W (0 -(gt x18 ((gt x19 x21).var))),gt x17 ((gt x19 x21).var)⟩:zk)]))))))) else(z2a φ φ 0 (x23.length:Int) 0 x23))
end Px
end
section
set_option maxHeartbeats 4000000
set_option maxRecDepth 100000
namespace Px
open Go Go.RowKit
def z6u (φ:Nat) (x1:Pool) (x2 :(List zd)):Option ((List zk)×Int×Unit):=((zap φ x1 x2).bind fun y3=>(if((y3.2.1:Int) !=0)=true then(z6f φ φ y3.2.1 0 0 ([]:List zk)) else((zar φ y3.1.vars y3.1.bounds).bind fun y9=>(if((y9.2.1:Int) !=0)=true then(z8f φ φ y9.2.1 0 0 ([]:List zk)) else((z1p φ y3.1 false).bind fun y15=>((z1p φ y3.1 true).bind fun y16=>(z1g φ φ y15.1 y16.1 y3.1.events (y3.1.events.length:Int) 0 y3.1 ([]:List zk))))))))
def z7a (φ:Nat):Fsp TV:=⟨[35,38],[.val 51,.val 0],fun z=>z6u φ z.1 z.2.1⟩
def z2b (φ:Nat):Nat->(List zk)->(List zk)->Int->Option (Bool×Unit)
 | 0,_,_,_=>none
 | n6+1,x3,x4,x5=>(if(decide ((x5:Int) <(x3.length:Int)))=true then(ck ((0:Int)<=x5/\x5 <(x3.length:Int)) (ck ((0:Int)<=x5/\x5 <(x4.length:Int)) (if(!((((gt x3 x5).wagon:Int)==(gt x4 x5).wagon)&&((((gt x3 x5).place:Int)==(gt x4 x5).place)&&((((((gt x3 x5).ref).railway:Int)==((gt x4 x5).ref).railway)&&(((((gt x3 x5).ref).no:Int)==((gt x4 x5).ref).no)&&true))&&(((gt x3 x5).stay==(gt x4 x5).stay)&&((((gt x3 x5).early:Int)==(gt x4 x5).early)&&((((gt x3 x5).late:Int)==(gt x4 x5).late)&&true)))))))=true then(some (false,())) else((z2b φ n6) x3 x4 (W (x5+1)))))) else(some (true,())))
def z37 (φ:Nat) (x1 :(List zk)) (x2 :(List zk)):Option (Bool×Unit):=(if(((x1.length:Int):Int) !=(x2.length:Int))=true then(some (false,())) else(z2b φ φ x1 x2 0))
def z6h (φ:Nat):Fsp TV:=⟨[51,51],[.val 2],fun z=>z37 φ z.1 z.2.1⟩
def z3y (φ:Nat):Nat->Int->(List zk)->Int->Int->Int->zn->Option (zn×(List zk)×Int×Int×Int×Unit)
 | 0,_,_,_,_,_,_=>none
 | n19+1,x13,x14,x15,x16,x17,x18=>(ck (((decide ((x16:Int) <(x14.length:Int)))=true)->(0:Int)<=x16/\x16 <(x14.length:Int)) (if((decide ((x16:Int) <(x14.length:Int)))&&(((gt x14 x16).wagon:Int)==x13))=true then((z3y φ n19) x13 x14 x15 (W (x16+1)) x17 x18) else(some (x18,x14,x15,x16,x17,()))))
def z41 (φ:Nat):Nat->Int->(List zk)->Int->Int->zn->Option (zn×(List zk)×Int×Int×Int×Unit)
 | 0,_,_,_,_,_=>none
 | n12+1,x7,x8,x9,x10,x11=>(ck (((decide ((x9:Int) <(x8.length:Int)))=true)->(0:Int)<=x9/\x9 <(x8.length:Int)) (if((decide ((x9:Int) <(x8.length:Int)))&&(decide (((gt x8 x9).wagon:Int)<x7)))=true then((z41 φ n12) x7 x8 (W (x9+1)) x10 x11) else(z3y φ φ x7 x8 x9 x9 x10 x11)))
def zae (φ:Nat) (x1:Pool) (x2 :(List zd)) (x3:Int) (x4:Int):Option (zn×(List zk)×Int×Int×Int×Unit):=((z58 φ x1).bind fun y5=>(if((y5.1:Int) !=0)=true then(some ((⟨0,([]:List z8),([]:List (Nat->Ref)),([]:List z0h)⟩:zn),([]:List zk),0,0,y5.1,())) else(if((((decide ((x3:Int)<0))||(decide (((x1.fleet.wagons.length:Int):Int)<=x3)))||(decide ((x4:Int)<0)))||(decide ((1073741824:Int)<x4)))=true then(some ((⟨0,([]:List z8),([]:List (Nat->Ref)),([]:List z0h)⟩:zn),([]:List zk),0,0,1,())) else((z8t φ x1 x2).bind fun y6=>(z41 φ φ x3 y6.2.1 0 y6.2.2.1 y6.1)))))
def zdw (φ:Nat):Fsp TV:=⟨[35,38,0,0],[.val 48,.val 51,.val 0,.val 0,.val 0],fun z=>zae φ z.1 z.2.1 z.2.2.1 z.2.2.2.1⟩
def z0v (φ:Nat):Nat->Int->(List zk)->Int->Int->Int->Option (Int×Bool×Int×Unit)
 | 0,_,_,_,_,_=>none
 | n11+1,x6,x7,x8,x9,x10=>(if(decide ((x10:Int)<x9))=true then(ck ((0:Int)<=x10/\x10 <(x7.length:Int)) (if(gt x7 x10).stay=true then((z0v φ n11) x6 x7 x8 x9 (W (x10+1))) else(ck ((0:Int)<=x8/\x8 <(x7.length:Int)) (ck (((decide (((gt x7 x8).late:Int)<=x6))=true)->(0:Int)<=x10/\x10 <(x7.length:Int)) (if((decide (((gt x7 x8).late:Int)<=x6))&&(decide ((x6:Int)<=(gt x7 x10).early)))=true then(ck ((0:Int)<=x8/\x8 <(x7.length:Int)) (some ((gt x7 x8).place,true,0,()))) else((z0v φ n11) x6 x7 (W (x10+1)) x9 (W (x10+1)))))))) else(some (0,false,0,())))
def zc (φ:Nat) (x1:Pool) (x2 :(List zd)) (x3:Int) (x4:Int):Option (Int×Bool×Int×Unit):=((zae φ x1 x2 x3 x4).bind fun y5=>(if((y5.2.2.2.2.1:Int) !=0)=true then(some (0,false,y5.2.2.2.2.1,())) else(z0v φ φ x4 y5.2.1 y5.2.2.1 y5.2.2.2.1 y5.2.2.1)))
def z5e (φ:Nat):Fsp TV:=⟨[35,38,0,0],[.val 0,.val 2,.val 0],fun z=>zc φ z.1 z.2.1 z.2.2.1 z.2.2.2.1⟩
def z7j (φ:Nat) (x1 :(List zd)) (x2:Int):Option (Bool×Unit):=((zi φ).bind fun y3=>((zc φ y3.1 x1 0 x2).bind fun y4=>(some (((((y4.2.2.1:Int)==0)&&y4.2.1)&&((y4.1:Int)==0)),()))))
def zee (φ:Nat):Fsp TV:=⟨[38,0],[.val 2],fun z=>z7j φ z.1 z.2.1⟩
def z4e (φ:Nat) (x1:Int) (x2:Int) (x3:Pool) (x4 :(List zk)) (x5:Int):Option (Int×Bool×Unit):=(ck ((0:Int)<=x1/\x1 <(x4.length:Int)) ((zo φ x3.network ((gt x4 x1).place) x2).bind fun y6=>(ck ((((y6.2.1:Int)==0)=true)->(0:Int)<=x1/\x1 <(x4.length:Int)) (some (y6.1,(((y6.2.1:Int)==0)&&(decide (((gt x4 x1).early:Int)<=(W (x5-y6.1))))),())))))
def z7m (φ:Nat):Csp TV:=⟨[0,0],[35,51,0],[.val 0,.val 2],fun z b=>z4e φ z.1 z.2.1 b.1 b.2.1 b.2.2.1⟩
def z4c (φ:Nat) (x1:Int) (x2:Int) (x3:Pool) (x4 :(List zk)) (x5:Int):Option (Int×Bool×Unit):=(ck ((0:Int)<=x1/\x1 <(x4.length:Int)) ((zo φ x3.network x2 ((gt x4 x1).place)).bind fun y6=>(ck ((((y6.2.1:Int)==0)=true)->(0:Int)<=x1/\x1 <(x4.length:Int)) (some (y6.1,(((y6.2.1:Int)==0)&&(decide (((W (x5+y6.1)):Int)<=(gt x4 x1).late))),())))))
def z7l (φ:Nat):Csp TV:=⟨[0,0],[35,51,0],[.val 0,.val 2],fun z b=>z4c φ z.1 z.2.1 b.1 b.2.1 b.2.2.1⟩
def z83 (φ:Nat) (k32 :((List z8)->Int->Int->Int->(List z8)->Int->Int->Int->(List Bool)->(List Int)->Option (Int×Bool×Int×Unit))) (x33 :(List z8)) (x34:Int) (x35:Int) (x36:Int) (x37:Int) (x38 :(List z8)) (x39:Int) (x40:Int) (x41:Int) (x42:z8) (x43 :(List Bool)) (x44 :(List Int)):Option (Int×Bool×Int×Unit):=(ck ((0:Int)<=x42.i/\x42.i <(x44.length:Int)) (ck ((0:Int)<=x42.j/\x42.j <(x44.length:Int)) (ck ((0:Int)<=x42.j/\x42.j <(x43.length:Int)) (k32 x33 x35 x36 x37 x38 x39 (W (x40+1)) x41 (zw x43 x42.j true) ((zw x44 x42.j (W ((gt x44 x42.i)+x42.w))))))))
def ze7 (φ:Nat) (k32 :((List z8)->Int->Int->Int->(List z8)->Int->Int->Int->(List Bool)->(List Int)->Option (Int×Bool×Int×Unit))) (x33 :(List z8)) (x34:Int) (x35:Int) (x36:Int) (x37:Int) (x38 :(List z8)) (x39:Int) (x40:Int) (x41:Int) (x42:z8) (x43 :(List Bool)) (x44 :(List Int)):Option (List (Option (Int×Bool×Int×Unit))):=(ck ((0:Int)<=x42.i/\x42.i <(x44.length:Int)) (ck ((0:Int)<=x42.j/\x42.j <(x44.length:Int)) (catL [(catL [(catL [(ck ((0:Int)<=x42.j/\x42.j <(x43.length:Int)) (catL [(some [(k32 x33 x35 x36 x37 x38 x39 (W (x40+1)) x41 (zw x43 x42.j true) ((zw x44 x42.j (W ((gt x44 x42.i)+x42.w)))))])]))]),(catL [(ck ((0:Int)<=x42.j/\x42.j <(x43.length:Int)) (catL [(some [(k32 x33 x35 x36 x37 x38 x39 (W (x40+1)) x41 (zw x43 x42.j true) ((zw x44 x42.j (W ((gt x44 x42.i)+x42.w)))))])]))])]),(catL [(catL [(ck ((0:Int)<=x42.j/\x42.j <(x43.length:Int)) (catL [(some [(k32 x33 x35 x36 x37 x38 x39 (W (x40+1)) x41 (zw x43 x42.j true) ((zw x44 x42.j (W ((gt x44 x42.i)+x42.w)))))])]))]),(catL [(ck ((0:Int)<=x42.j/\x42.j <(x43.length:Int)) (catL [(some [(k32 x33 x35 x36 x37 x38 x39 (W (x40+1)) x41 (zw x43 x42.j true) ((zw x44 x42.j (W ((gt x44 x42.i)+x42.w)))))])]))])]),(catL [(catL [(ck ((0:Int)<=x42.j/\x42.j <(x43.length:Int)) (catL [(some [(k32 x33 x35 x36 x37 x38 x39 (W (x40+1)) x41 (zw x43 x42.j true) ((zw x44 x42.j (W ((gt x44 x42.i)+x42.w)))))])]))]),(catL [(ck ((0:Int)<=x42.j/\x42.j <(x43.length:Int)) (catL [(some [(k32 x33 x35 x36 x37 x38 x39 (W (x40+1)) x41 (zw x43 x42.j true) ((zw x44 x42.j (W ((gt x44 x42.i)+x42.w)))))])]))])])])))
def z3h (φ:Nat) (k21 :((List z8)->Int->Int->Int->Int->(List Bool)->(List Int)->Option (Int×Bool×Int×Unit))):Nat->(List z8)->Int->Int->Int->(List z8)->Int->Int->Int->(List Bool)->(List Int)->Option (Int×Bool×Int×Unit)
 | 0,_,_,_,_,_,_,_,_,_,_=>none
 | n32+1,x22,x23,x24,x25,x26,x27,x28,x29,x30,x31=>(if(decide ((x28:Int)<x27))=true then(ck ((0:Int)<=x28/\x28 <(x26.length:Int)) (ck ((0:Int)<=(gt x26 x28).i/\(gt x26 x28).i <(x30.length:Int)) (ck (((!(gt x30 ((gt x26 x28).i)))=false)->(0:Int)<=(gt x26 x28).j/\(gt x26 x28).j <(x30.length:Int)) (ck (((!(gt x30 ((gt x26 x28).i)))=false/\(gt x30 ((gt x26 x28).j))=true)->(0:Int)<=(gt x26 x28).j/\(gt x26 x28).j <(x31.length:Int)) (ck (((!(gt x30 ((gt x26 x28).i)))=false/\(gt x30 ((gt x26 x28).j))=true)->(0:Int)<=(gt x26 x28).i/\(gt x26 x28).i <(x31.length:Int)) (if((!(gt x30 ((gt x26 x28).i)))||((gt x30 ((gt x26 x28).j))&&(decide (((gt x31 ((gt x26 x28).j)):Int)<=(W ((gt x31 ((gt x26 x28).i)) +(gt x26 x28).w))))))=true then((z3h φ k21 n32) x22 x23 x24 x25 x26 x27 (W (x28+1)) x29 x30 x31) else(z83 φ (z3h φ k21 n32) x22 x23 x28 x24 x25 x26 x27 x28 x29 (gt x26 x28) x30 x31))))))) else(if(decide ((x23:Int)<0))=true then(ck ((0:Int)<=x29/\x29 <(x30.length:Int)) (if(!(gt x30 x29))=true then(some (0,false,0,())) else(ck ((0:Int)<=x29/\x29 <(x31.length:Int)) (some ((gt x31 x29),true,0,()))))) else(k21 x22 x23 x24 (W (x25+1)) x29 x30 x31)))
def z63 (φ:Nat):Nat->(List z8)->Int->Int->Int->Int->(List Bool)->(List Int)->Option (Int×Bool×Int×Unit)
 | 0,_,_,_,_,_,_,_=>none
 | n21+1,x14,x15,x16,x17,x18,x19,x20=>(if(decide ((x17:Int)<x16))=true then(z3h φ (z63 φ n21) φ x14 (-1) x16 x17 x14 (x14.length:Int) 0 x18 x19 x20) else(ck ((0:Int)<=x18/\x18 <(x19.length:Int)) (if(!(gt x19 x18))=true then(some (0,false,0,())) else(ck ((0:Int)<=x18/\x18 <(x20.length:Int)) (some ((gt x20 x18),true,0,()))))))
def zj (φ:Nat) (x7:Int) (x8 :(List z8)) (x9:Int) (x10:Int) (x11 :(List Int)) (x12 :(List Bool)):Option (Int×Bool×Int×Unit):=(ck ((0:Int)<=x9/\x9 <(x12.length:Int)) (z63 φ φ x8 (-1) x7 0 x10 (zw x12 x9 true) x11))
def z82 (φ:Nat) (x46:Int) (x47 :(List z8)) (x48:Int) (x49:Int):Option (Int×Bool×Int×Unit):=(ck (z0o x46 8) (ck (z0o x46 1) (zj φ x46 x47 x48 x49 (List.replicate (x46:Int).toNat (default:Int)) (List.replicate (x46:Int).toNat (default:Bool)))))
def zeh (φ:Nat) (x46:Int) (x47 :(List z8)) (x48:Int) (x49:Int):Option (List (Option (Int×Bool×Int×Unit))):=(catL [(ck (z0o x46 8) (catL [(ck (z0o x46 1) (catL [(catL [(catL [(catL [(some [(zj φ x46 x47 x48 x49 (List.replicate (x46:Int).toNat (default:Int)) (List.replicate (x46:Int).toNat (default:Bool)))])])])]),(catL [(catL [(catL [(some [(zj φ x46 x47 x48 x49 (List.replicate (x46:Int).toNat (default:Int)) (List.replicate (x46:Int).toNat (default:Bool)))])])])])])),(catL [(ck (z0o x46 1) (catL [(catL [(catL [(some [(zj φ x46 x47 x48 x49 (List.replicate (x46:Int).toNat (default:Int)) (List.replicate (x46:Int).toNat (default:Bool)))])])])])),(catL [(ck (z0o x46 1) (catL [(catL [(some [(zj φ x46 x47 x48 x49 (List.replicate (x46:Int).toNat (default:Int)) (List.replicate (x46:Int).toNat (default:Bool)))])])])),(catL [(ck (z0o x46 1) (catL [(some [(zj φ x46 x47 x48 x49 (List.replicate (x46:Int).toNat (default:Int)) (List.replicate (x46:Int).toNat (default:Bool)))])]))])])]),(catL [(ck (z0o x46 1) (catL [(catL [(catL [(some [(zj φ x46 x47 x48 x49 (List.replicate (x46:Int).toNat (default:Int)) (List.replicate (x46:Int).toNat (default:Bool)))])])])])),(catL [(ck (z0o x46 1) (catL [(catL [(some [(zj φ x46 x47 x48 x49 (List.replicate (x46:Int).toNat (default:Int)) (List.replicate (x46:Int).toNat (default:Bool)))])])])),(catL [(ck (z0o x46 1) (catL [(some [(zj φ x46 x47 x48 x49 (List.replicate (x46:Int).toNat (default:Int)) (List.replicate (x46:Int).toNat (default:Bool)))])]))])])])])),(ck (z0o x46 1) (catL [(ck (z0o x46 8) (catL [(catL [(catL [(catL [(some [(zj φ x46 x47 x48 x49 (List.replicate (x46:Int).toNat (default:Int)) (List.replicate (x46:Int).toNat (default:Bool)))])])])]),(catL [(catL [(catL [(some [(zj φ x46 x47 x48 x49 (List.replicate (x46:Int).toNat (default:Int)) (List.replicate (x46:Int).toNat (default:Bool)))])])])])])),(catL [(ck (z0o x46 8) (catL [(catL [(catL [(some [(zj φ x46 x47 x48 x49 (List.replicate (x46:Int).toNat (default:Int)) (List.replicate (x46:Int).toNat (default:Bool)))])])])])),(catL [(ck (z0o x46 8) (catL [(catL [(some [(zj φ x46 x47 x48 x49 (List.replicate (x46:Int).toNat (default:Int)) (List.replicate (x46:Int).toNat (default:Bool)))])])]))])]),(catL [(ck (z0o x46 8) (catL [(catL [(catL [(some [(zj φ x46 x47 x48 x49 (List.replicate (x46:Int).toNat (default:Int)) (List.replicate (x46:Int).toNat (default:Bool)))])])])])),(catL [(ck (z0o x46 8) (catL [(catL [(some [(zj φ x46 x47 x48 x49 (List.replicate (x46:Int).toNat (default:Int)) (List.replicate (x46:Int).toNat (default:Bool)))])])]))])])])),(catL [(ck (z0o x46 8) (catL [(ck (z0o x46 1) (catL [(catL [(catL [(some [(zj φ x46 x47 x48 x49 (List.replicate (x46:Int).toNat (default:Int)) (List.replicate (x46:Int).toNat (default:Bool)))])])])])),(catL [(ck (z0o x46 1) (catL [(catL [(some [(zj φ x46 x47 x48 x49 (List.replicate (x46:Int).toNat (default:Int)) (List.replicate (x46:Int).toNat (default:Bool)))])])])),(catL [(ck (z0o x46 1) (catL [(some [(zj φ x46 x47 x48 x49 (List.replicate (x46:Int).toNat (default:Int)) (List.replicate (x46:Int).toNat (default:Bool)))])]))])])])),(ck (z0o x46 1) (catL [(ck (z0o x46 8) (catL [(catL [(catL [(some [(zj φ x46 x47 x48 x49 (List.replicate (x46:Int).toNat (default:Int)) (List.replicate (x46:Int).toNat (default:Bool)))])])])])),(catL [(ck (z0o x46 8) (catL [(catL [(some [(zj φ x46 x47 x48 x49 (List.replicate (x46:Int).toNat (default:Int)) (List.replicate (x46:Int).toNat (default:Bool)))])])]))])])),(catL [(ck (z0o x46 8) (catL [(ck (z0o x46 1) (catL [(catL [(some [(zj φ x46 x47 x48 x49 (List.replicate (x46:Int).toNat (default:Int)) (List.replicate (x46:Int).toNat (default:Bool)))])])])),(catL [(ck (z0o x46 1) (catL [(some [(zj φ x46 x47 x48 x49 (List.replicate (x46:Int).toNat (default:Int)) (List.replicate (x46:Int).toNat (default:Bool)))])]))])])),(ck (z0o x46 1) (catL [(ck (z0o x46 8) (catL [(catL [(some [(zj φ x46 x47 x48 x49 (List.replicate (x46:Int).toNat (default:Int)) (List.replicate (x46:Int).toNat (default:Bool)))])])]))]))])]),(catL [(ck (z0o x46 8) (catL [(ck (z0o x46 1) (catL [(catL [(catL [(some [(zj φ x46 x47 x48 x49 (List.replicate (x46:Int).toNat (default:Int)) (List.replicate (x46:Int).toNat (default:Bool)))])])])])),(catL [(ck (z0o x46 1) (catL [(catL [(some [(zj φ x46 x47 x48 x49 (List.replicate (x46:Int).toNat (default:Int)) (List.replicate (x46:Int).toNat (default:Bool)))])])])),(catL [(ck (z0o x46 1) (catL [(some [(zj φ x46 x47 x48 x49 (List.replicate (x46:Int).toNat (default:Int)) (List.replicate (x46:Int).toNat (default:Bool)))])]))])])])),(ck (z0o x46 1) (catL [(ck (z0o x46 8) (catL [(catL [(catL [(some [(zj φ x46 x47 x48 x49 (List.replicate (x46:Int).toNat (default:Int)) (List.replicate (x46:Int).toNat (default:Bool)))])])])])),(catL [(ck (z0o x46 8) (catL [(catL [(some [(zj φ x46 x47 x48 x49 (List.replicate (x46:Int).toNat (default:Int)) (List.replicate (x46:Int).toNat (default:Bool)))])])]))])])),(catL [(ck (z0o x46 8) (catL [(ck (z0o x46 1) (catL [(catL [(some [(zj φ x46 x47 x48 x49 (List.replicate (x46:Int).toNat (default:Int)) (List.replicate (x46:Int).toNat (default:Bool)))])])])),(catL [(ck (z0o x46 1) (catL [(some [(zj φ x46 x47 x48 x49 (List.replicate (x46:Int).toNat (default:Int)) (List.replicate (x46:Int).toNat (default:Bool)))])]))])])),(ck (z0o x46 1) (catL [(ck (z0o x46 8) (catL [(catL [(some [(zj φ x46 x47 x48 x49 (List.replicate (x46:Int).toNat (default:Int)) (List.replicate (x46:Int).toNat (default:Bool)))])])]))]))])])])
def ze0 (φ:Nat) (x1:Int) (x2 :(List z8)) (x3:Int) (x4:Int):Option (Int×Bool×Int×Unit):=((zhg φ x1 x2).bind fun y5=>(if((y5.1:Int) !=0)=true then(some (0,false,y5.1,())) else(if((decide (((min2 x3 x4):Int)<0))||(decide ((x1:Int)<=(max2 x3 x4))))=true then(some (0,false,1,())) else((zf8 φ x1 x2).bind fun y6=>(if(decide ((0:Int)<=y6.2.2.1))=true then(some (0,false,230,())) else(z82 φ x1 x2 x3 x4))))))
def zlh (φ:Nat):Fsp TV:=⟨[0,43,0,0],[.val 0,.val 2,.val 0],fun z=>ze0 φ z.1 z.2.1 z.2.2.1 z.2.2.2.1⟩
def z20 (φ:Nat) (k15 :(Int->Int->Int->Int->(List Int)->zn->(List zk)->Pool->Int->Option ((List Int)×Int×Unit))):Nat->Int->Int->Int->Int->Int->Int->(List Int)->zn->(List zk)->Pool->Int->Option ((List Int)×Int×Unit)
 | 0,_,_,_,_,_,_,_,_,_,_,_=>none
 | n29+1,x18,x19,x20,x21,x22,x23,x24,x25,x26,x27,x28=>(if(decide (((W (x21+1)):Int)<x19))=true then((z4e φ x21 x20 x27 x26 x28).bind fun y30=>((z4c φ (W (x21+1)) x20 x27 x26 x28).bind fun y31=>(ck ((((!y30.2.1)||(!y31.2.1))=false)->(0:Int)<=x21/\x21 <(x26.length:Int)) (ck ((((!y30.2.1)||(!y31.2.1))=false/\(gt x26 x21).stay=true)->(0:Int)<=x21/\x21 <(x26.length:Int)) (if(((!y30.2.1)||(!y31.2.1))||((gt x26 x21).stay&&((x20:Int) !=(gt x26 x21).place)))=true then((z20 φ k15 n29) x18 x19 x20 (W (x21+1)) x22 x23 x24 x25 x26 x27 x28) else(ck ((0:Int)<=x21/\x21 <(x25.events.length:Int)) (ck ((0:Int)<=(W (x21+1))/\(W (x21+1)) <(x25.events.length:Int)) ((ze0 φ x25.vars x25.bounds ((gt x25.events x21).var) ((gt x25.events (W (x21+1))).var)).bind fun y32=>(if(decide (((W (y30.1+y31.1)):Int)<=y32.1))=true then(ck (fits (x24.length +([x20]).length) 8) (k15 x18 x19 x22 (W (x23+1)) (x24++[x20]) x25 x26 x27 x28)) else((z20 φ k15 n29) x18 x19 x20 (W (x21+1)) x22 x23 x24 x25 x26 x27 x28)))))))))) else(k15 x18 x19 x22 (W (x23+1)) x24 x25 x26 x27 x28))
def z09 (φ:Nat):Nat->Int->Int->Int->Int->(List Int)->zn->(List zk)->Pool->Int->Option ((List Int)×Int×Unit)
 | 0,_,_,_,_,_,_,_,_,_=>none
 | n15+1,x6,x7,x8,x9,x10,x11,x12,x13,x14=>(if(decide ((x9:Int)<x8))=true then(if((x6:Int)==x7)=true then(ck (fits (x10.length +([x9]).length) 8) ((z09 φ n15) x6 x7 x8 (W (x9+1)) (x10++[x9]) x11 x12 x13 x14)) else((z4c φ x6 x9 x13 x12 x14).bind fun y16=>(if y16.2.1=true then(ck (fits (x10.length +([x9]).length) 8) ((z09 φ n15) x6 x7 x8 (W (x9+1)) (x10++[x9]) x11 x12 x13 x14)) else((z4e φ (W (x7-1)) x9 x13 x12 x14).bind fun y17=>(if y17.2.1=true then(ck (fits (x10.length +([x9]).length) 8) ((z09 φ n15) x6 x7 x8 (W (x9+1)) (x10++[x9]) x11 x12 x13 x14)) else(z20 φ (z09 φ n15) φ x6 x7 x9 x6 x8 x9 x10 x11 x12 x13 x14)))))) else(some (x10,0,())))
def z43 (φ:Nat) (x1:Pool) (x2 :(List zd)) (x3:Int) (x4:Int):Option ((List Int)×Int×Unit):=((zae φ x1 x2 x3 x4).bind fun y5=>(if((y5.2.2.2.2.1:Int) !=0)=true then(some (([]:List Int),y5.2.2.2.2.1,())) else(z09 φ φ y5.2.2.1 y5.2.2.2.1 (x1.network.places.length:Int) 0 ([]:List Int) y5.1 y5.2.1 x1 x4)))
def z6l (φ:Nat):Fsp TV:=⟨[35,38,0,0],[.val 5,.val 0],fun z=>z43 φ z.1 z.2.1 z.2.2.1 z.2.2.2.1⟩
def z3n (φ:Nat):Nat->(List Int)->(List Int)->Int->Option (Bool×Unit)
 | 0,_,_,_=>none
 | n6+1,x3,x4,x5=>(if(decide ((x5:Int) <(x3.length:Int)))=true then(ck ((0:Int)<=x5/\x5 <(x3.length:Int)) (ck ((0:Int)<=x5/\x5 <(x4.length:Int)) (if(((gt x3 x5):Int) !=(gt x4 x5))=true then(some (false,())) else((z3n φ n6) x3 x4 (W (x5+1)))))) else(some (true,())))
def z7u (φ:Nat) (x1 :(List Int)) (x2 :(List Int)):Option (Bool×Unit):=(if(((x1.length:Int):Int) !=(x2.length:Int))=true then(some (false,())) else(z3n φ φ x1 x2 0))
def z85 (φ:Nat):Fsp TV:=⟨[5,5],[.val 2],fun z=>z7u φ z.1 z.2.1⟩
def za (φ:Nat) (x1 :(List zd)) (x2:Int) (x3 :(List Int)):Option (Bool×Unit):=((zi φ).bind fun y4=>((z43 φ y4.1 x1 0 x2).bind fun y5=>((zp (default,()) (((y5.2.1:Int)==0)=true) (z7u φ y5.1 x3)).bind fun y6=>(some ((((y5.2.1:Int)==0)&&y6.1),())))))
def zch (φ:Nat):Fsp TV:=⟨[38,0,5],[.val 2],fun z=>za φ z.1 z.2.1 z.2.2.1⟩
def zmh (φ:Nat):Option (Bool×Unit):=((z19 φ 1 0 100 200).bind fun y1=>((z18 φ 2 0 240).bind fun y2=>((zi φ).bind fun y3=>((zz φ y3.1 ([y1.1,y2.1])).bind fun y4=>((zi φ).bind fun y5=>((z6u φ y5.1 ([y1.1,y2.1])).bind fun y6=>((zp (default,()) ((((y4.2.1:Int) !=0)||((y6.2.1:Int) !=0))=false) (z37 φ y4.1 ([(⟨0,0,(⟨0,1⟩:Ref),true,100,100⟩:zk),(⟨0,0,(⟨0,1⟩:Ref),false,200,200⟩:zk),(⟨0,1,(⟨0,2⟩:Ref),false,230,245⟩:zk)]))).bind fun y7=>(if((((y4.2.1:Int) !=0)||((y6.2.1:Int) !=0))||(!y7.1))=true then(some (false,())) else(ck ((0:Int)<=2/\2 <(([(⟨0,0,(⟨0,1⟩:Ref),true,100,100⟩:zk),(⟨0,0,(⟨0,1⟩:Ref),false,200,200⟩:zk),(⟨0,1,(⟨0,2⟩:Ref),false,230,245⟩:zk)]).length:Int)) ((z37 φ y6.1 ((zw ([(⟨0,0,(⟨0,1⟩:Ref),true,100,100⟩:zk),(⟨0,0,(⟨0,1⟩:Ref),false,200,200⟩:zk),(⟨0,1,(⟨0,2⟩:Ref),false,230,245⟩:zk)]) 2 ((⟨((gt ([(⟨0,0,(⟨0,1⟩:Ref),true,100,100⟩:zk),(⟨0,0,(⟨0,1⟩:Ref),false,200,200⟩:zk),(⟨0,1,(⟨0,2⟩:Ref),false,230,245⟩:zk)]) 2)).wagon,((gt ([(⟨0,0,(⟨0,1⟩:Ref),true,100,100⟩:zk),(⟨0,0,(⟨0,1⟩:Ref),false,200,200⟩:zk),(⟨0,1,(⟨0,2⟩:Ref),false,230,245⟩:zk)]) 2)).place,((gt ([(⟨0,0,(⟨0,1⟩:Ref),true,100,100⟩:zk),(⟨0,0,(⟨0,1⟩:Ref),false,200,200⟩:zk),(⟨0,1,(⟨0,2⟩:Ref),false,230,245⟩:zk)]) 2)).ref,((gt ([(⟨0,0,(⟨0,1⟩:Ref),true,100,100⟩:zk),(⟨0,0,(⟨0,1⟩:Ref),false,200,200⟩:zk),(⟨0,1,(⟨0,2⟩:Ref),false,230,245⟩:zk)]) 2)).stay,((gt ([(⟨0,0,(⟨0,1⟩:Ref),true,100,100⟩:zk),(⟨0,0,(⟨0,1⟩:Ref),false,200,200⟩:zk),(⟨0,1,(⟨0,2⟩:Ref),false,230,245⟩:zk)]) 2)).early,230⟩:zk))))).bind fun y8=>((zp (default,()) ((!y8.1)=false) (z7j φ ([y1.1,y2.1]) 100)).bind fun y9=>((zp (default,()) (((!y8.1)||(!y9.1))=false) (z7j φ ([y1.1,y2.1]) 150)).bind fun y10=>((zp (default,()) ((((!y8.1)||(!y9.1))||(!y10.1))=false) (z7j φ ([y1.1,y2.1]) 200)).bind fun y11=>((zp (default,()) (((((!y8.1)||(!y9.1))||(!y10.1))||(!y11.1))=false) (z7j φ ([y1.1,y2.1]) 201)).bind fun y12=>((zp (default,()) ((((((!y8.1)||(!y9.1))||(!y10.1))||(!y11.1))||y12.1)=false) (z7j φ ([y1.1,y2.1]) 240)).bind fun y13=>(if((((((!y8.1)||(!y9.1))||(!y10.1))||(!y11.1))||y12.1)||y13.1)=true then(some (false,())) else((za φ ([y1.1,y2.1]) 50 ([0,1])).bind fun y14=>(if(!y14.1)=false then((za φ ([y1.1,y2.1]) 75 ([0])).bind fun y15=>(if(!y15.1)=false then((za φ ([y1.1,y2.1]) 150 ([0])).bind fun y16=>(if(!y16.1)=false then((za φ ([y1.1,y2.1]) 210 ([0])).bind fun y17=>((zp (default,()) ((!y17.1)=false) (za φ ([y1.1,y2.1]) 220 ([]:List Int))).bind fun y18=>(if((!y17.1)||(!y18.1))=true then(some (false,())) else((za φ ([y1.1,y2.1]) 230 ([1])).bind fun y19=>(if(!y19.1)=false then((za φ ([y1.1,y2.1]) 245 ([1])).bind fun y20=>(if(!y20.1)=false then((za φ ([y1.1,y2.1]) 260 ([0,1])).bind fun y21=>(if(!y21.1)=true then(some (false,())) else((zi φ).bind fun y22=>((z19 φ 1 0 100 200).bind fun y23=>((z18 φ 2 0 214).bind fun y24=>((zz φ y22.1 ([y23.1,y24.1])).bind fun y25=>((zi φ).bind fun y26=>((zc φ y26.1 ([y1.1,y2.1]) 1 5).bind fun y27=>((zi φ).bind fun y28=>((zc φ y28.1 ([y1.1,y2.1]) 0 (-1)).bind fun y29=>(some (((((y25.2.1:Int)==230)&&((y27.2.2.1:Int)==1))&&((y29.2.2.1:Int)==1)),())))))))))))) else(some (false,())))) else(if true=false then((za φ ([y1.1,y2.1]) 260 ([0,1])).bind fun y30=>(if(!y30.1)=true then(some (false,())) else((zi φ).bind fun y31=>((z19 φ 1 0 100 200).bind fun y32=>((z18 φ 2 0 214).bind fun y33=>((zz φ y31.1 ([y32.1,y33.1])).bind fun y34=>((zi φ).bind fun y35=>((zc φ y35.1 ([y1.1,y2.1]) 1 5).bind fun y36=>((zi φ).bind fun y37=>((zc φ y37.1 ([y1.1,y2.1]) 0 (-1)).bind fun y38=>(some (((((y34.2.1:Int)==230)&&((y36.2.2.1:Int)==1))&&((y38.2.2.1:Int)==1)),())))))))))))) else(some (false,())))))))) else((zp (default,()) (true=false) (za φ ([y1.1,y2.1]) 220 ([]:List Int))).bind fun y39=>(if(true||(!y39.1))=true then(some (false,())) else((za φ ([y1.1,y2.1]) 230 ([1])).bind fun y40=>(if(!y40.1)=false then((za φ ([y1.1,y2.1]) 245 ([1])).bind fun y41=>(if(!y41.1)=false then((za φ ([y1.1,y2.1]) 260 ([0,1])).bind fun y42=>(if(!y42.1)=true then(some (false,())) else((zi φ).bind fun y43=>((z19 φ 1 0 100 200).bind fun y44=>((z18 φ 2 0 214).bind fun y45=>((zz φ y43.1 ([y44.1,y45.1])).bind fun y46=>((zi φ).bind fun y47=>((zc φ y47.1 ([y1.1,y2.1]) 1 5).bind fun y48=>((zi φ).bind fun y49=>((zc φ y49.1 ([y1.1,y2.1]) 0 (-1)).bind fun y50=>(some (((((y46.2.1:Int)==230)&&((y48.2.2.1:Int)==1))&&((y50.2.2.1:Int)==1)),())))))))))))) else(some (false,())))) else(if true=false then((za φ ([y1.1,y2.1]) 260 ([0,1])).bind fun y51=>(if(!y51.1)=true then(some (false,())) else((zi φ).bind fun y52=>((z19 φ 1 0 100 200).bind fun y53=>((z18 φ 2 0 214).bind fun y54=>((zz φ y52.1 ([y53.1,y54.1])).bind fun y55=>((zi φ).bind fun y56=>((zc φ y56.1 ([y1.1,y2.1]) 1 5).bind fun y57=>((zi φ).bind fun y58=>((zc φ y58.1 ([y1.1,y2.1]) 0 (-1)).bind fun y59=>(some (((((y55.2.1:Int)==230)&&((y57.2.2.1:Int)==1))&&((y59.2.2.1:Int)==1)),())))))))))))) else(some (false,()))))))))) else(if true=false then((za φ ([y1.1,y2.1]) 210 ([0])).bind fun y60=>((zp (default,()) ((!y60.1)=false) (za φ ([y1.1,y2.1]) 220 ([]:List Int))).bind fun y61=>(if((!y60.1)||(!y61.1))=true then(some (false,())) else((za φ ([y1.1,y2.1]) 230 ([1])).bind fun y62=>(if(!y62.1)=false then((za φ ([y1.1,y2.1]) 245 ([1])).bind fun y63=>(if(!y63.1)=false then((za φ ([y1.1,y2.1]) 260 ([0,1])).bind fun y64=>(if(!y64.1)=true then(some (false,())) else((zi φ).bind fun y65=>((z19 φ 1 0 100 200).bind fun y66=>((z18 φ 2 0 214).bind fun y67=>((zz φ y65.1 ([y66.1,y67.1])).bind fun y68=>((zi φ).bind fun y69=>((zc φ y69.1 ([y1.1,y2.1]) 1 5).bind fun y70=>((zi φ).bind fun y71=>((zc φ y71.1 ([y1.1,y2.1]) 0 (-1)).bind fun y72=>(some (((((y68.2.1:Int)==230)&&((y70.2.2.1:Int)==1))&&((y72.2.2.1:Int)==1)),())))))))))))) else(some (false,())))) else(if true=false then((za φ ([y1.1,y2.1]) 260 ([0,1])).bind fun y73=>(if(!y73.1)=true then(some (false,())) else((zi φ).bind fun y74=>((z19 φ 1 0 100 200).bind fun y75=>((z18 φ 2 0 214).bind fun y76=>((zz φ y74.1 ([y75.1,y76.1])).bind fun y77=>((zi φ).bind fun y78=>((zc φ y78.1 ([y1.1,y2.1]) 1 5).bind fun y79=>((zi φ).bind fun y80=>((zc φ y80.1 ([y1.1,y2.1]) 0 (-1)).bind fun y81=>(some (((((y77.2.1:Int)==230)&&((y79.2.2.1:Int)==1))&&((y81.2.2.1:Int)==1)),())))))))))))) else(some (false,())))))))) else((zp (default,()) (true=false) (za φ ([y1.1,y2.1]) 220 ([]:List Int))).bind fun y82=>(if(true||(!y82.1))=true then(some (false,())) else((za φ ([y1.1,y2.1]) 230 ([1])).bind fun y83=>(if(!y83.1)=false then((za φ ([y1.1,y2.1]) 245 ([1])).bind fun y84=>(if(!y84.1)=false then((za φ ([y1.1,y2.1]) 260 ([0,1])).bind fun y85=>(if(!y85.1)=true then(some (false,())) else((zi φ).bind fun y86=>((z19 φ 1 0 100 200).bind fun y87=>((z18 φ 2 0 214).bind fun y88=>((zz φ y86.1 ([y87.1,y88.1])).bind fun y89=>((zi φ).bind fun y90=>((zc φ y90.1 ([y1.1,y2.1]) 1 5).bind fun y91=>((zi φ).bind fun y92=>((zc φ y92.1 ([y1.1,y2.1]) 0 (-1)).bind fun y93=>(some (((((y89.2.1:Int)==230)&&((y91.2.2.1:Int)==1))&&((y93.2.2.1:Int)==1)),())))))))))))) else(some (false,())))) else(if true=false then((za φ ([y1.1,y2.1]) 260 ([0,1])).bind fun y94=>(if(!y94.1)=true then(some (false,())) else((zi φ).bind fun y95=>((z19 φ 1 0 100 200).bind fun y96=>((z18 φ 2 0 214).bind fun y97=>((zz φ y95.1 ([y96.1,y97.1])).bind fun y98=>((zi φ).bind fun y99=>((zc φ y99.1 ([y1.1,y2.1]) 1 5).bind fun y100=>((zi φ).bind fun y101=>((zc φ y101.1 ([y1.1,y2.1]) 0 (-1)).bind fun y102=>(some (((((y98.2.1:Int)==230)&&((y100.2.2.1:Int)==1))&&((y102.2.2.1:Int)==1)),())))))))))))) else(some (false,())))))))))) else(if true=false then((za φ ([y1.1,y2.1]) 150 ([0])).bind fun y103=>(if(!y103.1)=false then((za φ ([y1.1,y2.1]) 210 ([0])).bind fun y104=>((zp (default,()) ((!y104.1)=false) (za φ ([y1.1,y2.1]) 220 ([]:List Int))).bind fun y105=>(if((!y104.1)||(!y105.1))=true then(some (false,())) else((za φ ([y1.1,y2.1]) 230 ([1])).bind fun y106=>(if(!y106.1)=false then((za φ ([y1.1,y2.1]) 245 ([1])).bind fun y107=>(if(!y107.1)=false then((za φ ([y1.1,y2.1]) 260 ([0,1])).bind fun y108=>(if(!y108.1)=true then(some (false,())) else((zi φ).bind fun y109=>((z19 φ 1 0 100 200).bind fun y110=>((z18 φ 2 0 214).bind fun y111=>((zz φ y109.1 ([y110.1,y111.1])).bind fun y112=>((zi φ).bind fun y113=>((zc φ y113.1 ([y1.1,y2.1]) 1 5).bind fun y114=>((zi φ).bind fun y115=>((zc φ y115.1 ([y1.1,y2.1]) 0 (-1)).bind fun y116=>(some (((((y112.2.1:Int)==230)&&((y114.2.2.1:Int)==1))&&((y116.2.2.1:Int)==1)),())))))))))))) else(some (false,())))) else(if true=false then((za φ ([y1.1,y2.1]) 260 ([0,1])).bind fun y117=>(if(!y117.1)=true then(some (false,())) else((zi φ).bind fun y118=>((z19 φ 1 0 100 200).bind fun y119=>((z18 φ 2 0 214).bind fun y120=>((zz φ y118.1 ([y119.1,y120.1])).bind fun y121=>((zi φ).bind fun y122=>((zc φ y122.1 ([y1.1,y2.1]) 1 5).bind fun y123=>((zi φ).bind fun y124=>((zc φ y124.1 ([y1.1,y2.1]) 0 (-1)).bind fun y125=>(some (((((y121.2.1:Int)==230)&&((y123.2.2.1:Int)==1))&&((y125.2.2.1:Int)==1)),())))))))))))) else(some (false,())))))))) else((zp (default,()) (true=false) (za φ ([y1.1,y2.1]) 220 ([]:List Int))).bind fun y126=>(if(true||(!y126.1))=true then(some (false,())) else((za φ ([y1.1,y2.1]) 230 ([1])).bind fun y127=>(if(!y127.1)=false then((za φ ([y1.1,y2.1]) 245 ([1])).bind fun y128=>(if(!y128.1)=false then((za φ ([y1.1,y2.1]) 260 ([0,1])).bind fun y129=>(if(!y129.1)=true then(some (false,())) else((zi φ).bind fun y130=>((z19 φ 1 0 100 200).bind fun y131=>((z18 φ 2 0 214).bind fun y132=>((zz φ y130.1 ([y131.1,y132.1])).bind fun y133=>((zi φ).bind fun y134=>((zc φ y134.1 ([y1.1,y2.1]) 1 5).bind fun y135=>((zi φ).bind fun y136=>((zc φ y136.1 ([y1.1,y2.1]) 0 (-1)).bind fun y137=>(some (((((y133.2.1:Int)==230)&&((y135.2.2.1:Int)==1))&&((y137.2.2.1:Int)==1)),())))))))))))) else(some (false,())))) else(if true=false then((za φ ([y1.1,y2.1]) 260 ([0,1])).bind fun y138=>(if(!y138.1)=true then(some (false,())) else((zi φ).bind fun y139=>((z19 φ 1 0 100 200).bind fun y140=>((z18 φ 2 0 214).bind fun y141=>((zz φ y139.1 ([y140.1,y141.1])).bind fun y142=>((zi φ).bind fun y143=>((zc φ y143.1 ([y1.1,y2.1]) 1 5).bind fun y144=>((zi φ).bind fun y145=>((zc φ y145.1 ([y1.1,y2.1]) 0 (-1)).bind fun y146=>(some (((((y142.2.1:Int)==230)&&((y144.2.2.1:Int)==1))&&((y146.2.2.1:Int)==1)),())))))))))))) else(some (false,()))))))))) else(if true=false then((za φ ([y1.1,y2.1]) 210 ([0])).bind fun y147=>((zp (default,()) ((!y147.1)=false) (za φ ([y1.1,y2.1]) 220 ([]:List Int))).bind fun y148=>(if((!y147.1)||(!y148.1))=true then(some (false,())) else((za φ ([y1.1,y2.1]) 230 ([1])).bind fun y149=>(if(!y149.1)=false then((za φ ([y1.1,y2.1]) 245 ([1])).bind fun y150=>(if(!y150.1)=false then((za φ ([y1.1,y2.1]) 260 ([0,1])).bind fun y151=>(if(!y151.1)=true then(some (false,())) else((zi φ).bind fun y152=>((z19 φ 1 0 100 200).bind fun y153=>((z18 φ 2 0 214).bind fun y154=>((zz φ y152.1 ([y153.1,y154.1])).bind fun y155=>((zi φ).bind fun y156=>((zc φ y156.1 ([y1.1,y2.1]) 1 5).bind fun y157=>((zi φ).bind fun y158=>((zc φ y158.1 ([y1.1,y2.1]) 0 (-1)).bind fun y159=>(some (((((y155.2.1:Int)==230)&&((y157.2.2.1:Int)==1))&&((y159.2.2.1:Int)==1)),())))))))))))) else(some (false,())))) else(if true=false then((za φ ([y1.1,y2.1]) 260 ([0,1])).bind fun y160=>(if(!y160.1)=true then(some (false,())) else((zi φ).bind fun y161=>((z19 φ 1 0 100 200).bind fun y162=>((z18 φ 2 0 214).bind fun y163=>((zz φ y161.1 ([y162.1,y163.1])).bind fun y164=>((zi φ).bind fun y165=>((zc φ y165.1 ([y1.1,y2.1]) 1 5).bind fun y166=>((zi φ).bind fun y167=>((zc φ y167.1 ([y1.1,y2.1]) 0 (-1)).bind fun y168=>(some (((((y164.2.1:Int)==230)&&((y166.2.2.1:Int)==1))&&((y168.2.2.1:Int)==1)),())))))))))))) else(some (false,())))))))) else((zp (default,()) (true=false) (za φ ([y1.1,y2.1]) 220 ([]:List Int))).bind fun y169=>(if(true||(!y169.1))=true then(some (false,())) else((za φ ([y1.1,y2.1]) 230 ([1])).bind fun y170=>(if(!y170.1)=false then((za φ ([y1.1,y2.1]) 245 ([1])).bind fun y171=>(if(!y171.1)=false then((za φ ([y1.1,y2.1]) 260 ([0,1])).bind fun y172=>(if(!y172.1)=true then(some (false,())) else((zi φ).bind fun y173=>((z19 φ 1 0 100 200).bind fun y174=>((z18 φ 2 0 214).bind fun y175=>((zz φ y173.1 ([y174.1,y175.1])).bind fun y176=>((zi φ).bind fun y177=>((zc φ y177.1 ([y1.1,y2.1]) 1 5).bind fun y178=>((zi φ).bind fun y179=>((zc φ y179.1 ([y1.1,y2.1]) 0 (-1)).bind fun y180=>(some (((((y176.2.1:Int)==230)&&((y178.2.2.1:Int)==1))&&((y180.2.2.1:Int)==1)),())))))))))))) else(some (false,())))) else(if true=false then((za φ ([y1.1,y2.1]) 260 ([0,1])).bind fun y181=>(if(!y181.1)=true then(some (false,())) else((zi φ).bind fun y182=>((z19 φ 1 0 100 200).bind fun y183=>((z18 φ 2 0 214).bind fun y184=>((zz φ y182.1 ([y183.1,y184.1])).bind fun y185=>((zi φ).bind fun y186=>((zc φ y186.1 ([y1.1,y2.1]) 1 5).bind fun y187=>((zi φ).bind fun y188=>((zc φ y188.1 ([y1.1,y2.1]) 0 (-1)).bind fun y189=>(some (((((y185.2.1:Int)==230)&&((y187.2.2.1:Int)==1))&&((y189.2.2.1:Int)==1)),())))))))))))) else(some (false,())))))))))))))))))))))))))))
def zkf (φ:Nat):Fsp TV:=⟨[],[.val 2],fun z=>zmh φ⟩
def z1w (φ:Nat):Nat->Int->Pool->Option (Bool×Unit)
 | 0,_,_=>none
 | n4+1,x2,x3=>(if(decide ((x2:Int) <(x3.railways.length:Int)))=true then(ck ((0:Int)<=x2/\x2 <(x3.railways.length:Int)) (if(decide ((100:Int) <((((gt x3.railways x2).calendar).holidays).length:Int)))=true then(some (false,())) else((z1w φ n4) (W (x2+1)) x3))) else(some (true,())))
def z9g (φ:Nat) (x1:Pool):Option (Bool×Unit):=(if(((((((decide ((16:Int) <(x1.network.places.length:Int)))||(decide ((40:Int) <(x1.network.edges.length:Int))))||(decide ((8:Int) <(x1.fleet.wagons.length:Int))))||(decide ((8:Int) <(x1.readers.length:Int))))||(decide ((100:Int) <(x1.fleet.swaps.length:Int))))||(decide ((100:Int) <(x1.fleet.washes.length:Int))))||(decide ((17:Int) <(x1.railways.length:Int))))=true then(some (false,())) else(z1w φ φ 0 x1))
def za4 (φ:Nat):Fsp TV:=⟨[35],[.val 2],fun z=>z9g φ z.1⟩
def z2c (φ:Nat):Nat->(List zd)->Int->Option (Bool×Unit)
 | 0,_,_=>none
 | n5+1,x3,x4=>(if(decide ((x4:Int) <(x3.length:Int)))=true then(ck ((0:Int)<=x4/\x4 <(x3.length:Int)) (ck (((decide ((40:Int) <((((gt x3 x4).item).parts).length:Int)))=false)->(0:Int)<=x4/\x4 <(x3.length:Int)) (if((decide ((40:Int) <((((gt x3 x4).item).parts).length:Int)))||(decide ((2000:Int) <(((gt x3 x4).item).text.size:Int))))=true then(some (false,())) else((z2c φ n5) x3 (W (x4+1)))))) else(some (true,())))
def z5y (φ:Nat) (x1 :(List zd)) (x2:Int):Option (Bool×Unit):=(if(decide ((x2:Int) <(x1.length:Int)))=true then(some (false,())) else(z2c φ φ x1 0))
def z99 (φ:Nat):Fsp TV:=⟨[38,0],[.val 2],fun z=>z5y φ z.1 z.2.1⟩
def zoa (φ:Nat) (x1:Pool) (x2 :(List zd)):Option (Bool×Unit):=((z9g φ x1).bind fun y3=>((zp (default,()) (y3.1=true) (z5y φ x2 8)).bind fun y4=>(some ((y3.1&&y4.1),()))))
def znw (φ:Nat):Fsp TV:=⟨[35,38],[.val 2],fun z=>zoa φ z.1 z.2.1⟩
def z1x (φ:Nat) (x1:Int) (x2:Int) (x3:Int):Option (Bool×Unit):=(some (((decide ((x2:Int)<=x1))&&(decide ((x1:Int)<=x3))),()))
def z6v (φ:Nat):Fsp TV:=⟨[0,0,0],[.val 2],fun z=>z1x φ z.1 z.2.1 z.2.2.1⟩
def ziq (φ:Nat) (x1:z8o):Option (Bool×Unit):=((z1x φ x1.kind 1 5).bind fun y2=>((zp (default,()) ((!y2.1)=false) (z1x φ x1.railway 0 15)).bind fun y3=>(if((!y2.1)||(!y3.1))=true then(some (false,())) else(if((x1.kind:Int)==3)=true then((z1x φ x1.other 0 15).bind fun y4=>(some ((y4.1&&((x1.other:Int) !=x1.railway)),()))) else(some (((x1.other:Int)==(-1)),()))))))
def ziu (φ:Nat):Fsp TV:=⟨[11],[.val 2],fun z=>ziq φ z.1⟩
def zm4 (φ:Nat) (x1:Edge) (x2:Int):Option (Bool×Unit):=((z1x φ x1.a 0 (W (x2-1))).bind fun y3=>((zp (default,()) (y3.1=true) (z1x φ x1.b 0 (W (x2-1)))).bind fun y4=>((zp (default,()) (((y3.1&&y4.1)&&((x1.a:Int) !=x1.b))=true) (z1x φ x1.railway 0 15)).bind fun y5=>((zp (default,()) ((((y3.1&&y4.1)&&((x1.a:Int) !=x1.b))&&y5.1)=true) (z1x φ x1.minutes 1 100000)).bind fun y6=>((zp (default,()) (((((y3.1&&y4.1)&&((x1.a:Int) !=x1.b))&&y5.1)&&y6.1)=true) (z1x φ x1.km 0 10000)).bind fun y7=>(some ((((((y3.1&&y4.1)&&((x1.a:Int) !=x1.b))&&y5.1)&&y6.1)&&y7.1),())))))))
def zkt (φ:Nat):Fsp TV:=⟨[13,0],[.val 2],fun z=>zm4 φ z.1 z.2.1⟩
def z4m (φ:Nat):Nat->Int->ze->Option (Int×Unit)
 | 0,_,_=>none
 | n8+1,x6,x7=>(if(decide ((x6:Int) <(x7.edges.length:Int)))=true then(ck ((0:Int)<=x6/\x6 <(x7.edges.length:Int)) ((zm4 φ (gt x7.edges x6) (x7.places.length:Int)).bind fun y9=>(if(!y9.1)=true then(some (1,())) else((z4m φ n8) (W (x6+1)) x7)))) else(some (0,())))
def z64 (φ:Nat):Nat->Int->ze->Option (Int×Unit)
 | 0,_,_=>none
 | n4+1,x2,x3=>(if(decide ((x2:Int) <(x3.places.length:Int)))=true then(ck ((0:Int)<=x2/\x2 <(x3.places.length:Int)) ((ziq φ (gt x3.places x2)).bind fun y5=>(if(!y5.1)=true then(some (1,())) else((z64 φ n4) (W (x2+1)) x3)))) else(z4m φ φ 0 x3))
def zfc (φ:Nat) (x1:ze):Option (Int×Unit):=(if((decide ((512:Int) <(x1.places.length:Int)))||(decide ((2048:Int) <(x1.edges.length:Int))))=true then(some (2,())) else(z64 φ φ 0 x1))
def zd5 (φ:Nat):Fsp TV:=⟨[15],[.val 0],fun z=>zfc φ z.1⟩
def z08 (φ:Nat) (x1:Int) (x2:Int) (x3:Int):Option (Bool×Unit):=(some (((decide ((x2:Int)<=x1))&&(decide ((x1:Int)<=x3))),()))
def z4s (φ:Nat):Fsp TV:=⟨[0,0,0],[.val 2],fun z=>z08 φ z.1 z.2.1 z.2.2.1⟩
def ze9 (φ:Nat) (x1:z3e):Option (Bool×Unit):=((z08 φ x1.load 0 1000000).bind fun y2=>((zp (default,()) (y2.1=true) (z08 φ x1.tare 0 1000000)).bind fun y3=>((zp (default,()) ((y2.1&&y3.1)=true) (z08 φ x1.length 0 1000000)).bind fun y4=>((zp (default,()) (((y2.1&&y3.1)&&y4.1)=true) (z08 φ x1.brake 0 1000000)).bind fun y5=>((zp (default,()) ((((y2.1&&y3.1)&&y4.1)&&y5.1)=true) (z08 φ x1.gauge 0 7)).bind fun y6=>((zp (default,()) (((((y2.1&&y3.1)&&y4.1)&&y5.1)&&y6.1)=true) (z08 φ x1.life 1 1073741824)).bind fun y7=>((zp (default,()) ((((((y2.1&&y3.1)&&y4.1)&&y5.1)&&y6.1)&&y7.1)=true) (z08 φ x1.floor 0 100)).bind fun y8=>(some (((((((y2.1&&y3.1)&&y4.1)&&y5.1)&&y6.1)&&y7.1)&&y8.1),())))))))))
def zac (φ:Nat):Fsp TV:=⟨[17],[.val 2],fun z=>ze9 φ z.1⟩
def zc5 (φ:Nat) (x1:ztp) (x2:Int):Option (Bool×Unit):=((z08 φ x1.type_ 0 (W (x2-1))).bind fun y3=>((zp (default,()) (y3.1=true) (z08 φ x1.owner 0 63)).bind fun y4=>((zp (default,()) ((y3.1&&y4.1)=true) (z08 φ x1.home 0 511)).bind fun y5=>((zp (default,()) (((y3.1&&y4.1)&&y5.1)=true) (z08 φ x1.built 0 1073741824)).bind fun y6=>((zp (default,()) ((((y3.1&&y4.1)&&y5.1)&&y6.1)=true) (z08 φ x1.worth 0 1099511627776)).bind fun y7=>(some (((((y3.1&&y4.1)&&y5.1)&&y6.1)&&y7.1),())))))))
def z9u (φ:Nat):Fsp TV:=⟨[19,0],[.val 2],fun z=>zc5 φ z.1 z.2.1⟩
def z5c (φ:Nat):Nat->(List Wash)->Int->(List Bool)->Option (Int×Unit)
 | 0,_,_,_=>none
 | n5+1,x2,x3,x4=>(if(decide ((x3:Int) <(x2.length:Int)))=true then(ck ((0:Int)<=x3/\x3 <(x2.length:Int)) ((z08 φ ((gt x2 x3).from_) 0 63).bind fun y6=>((zp (default,()) ((!y6.1)=false) (z08 φ ((gt x2 x3).to) 0 63)).bind fun y7=>((zp (default,()) ((((!y6.1)||(!y7.1))||(((gt x2 x3).from_:Int)==(gt x2 x3).to))=false) (z08 φ ((gt x2 x3).minutes) 0 100000)).bind fun y8=>(if((((!y6.1)||(!y7.1))||(((gt x2 x3).from_:Int)==(gt x2 x3).to))||(!y8.1))=true then(some (1,())) else(ck ((0:Int)<=(W ((W (64 *(gt x2 x3).from_)) +(gt x2 x3).to))/\(W ((W (64 *(gt x2 x3).from_)) +(gt x2 x3).to)) <(x4.length:Int)) (if(gt x4 ((W ((W (64 *(gt x2 x3).from_)) +(gt x2 x3).to))))=true then(some (1,())) else(ck ((0:Int)<=(W ((W (64 *(gt x2 x3).from_)) +(gt x2 x3).to))/\(W ((W (64 *(gt x2 x3).from_)) +(gt x2 x3).to)) <(x4.length:Int)) ((z5c φ n5) x2 (W (x3+1)) ((zw x4 ((W ((W (64 *(gt x2 x3).from_)) +(gt x2 x3).to))) true))))))))))) else(some (0,())))
def zbz (φ:Nat) (x1 :(List Wash)):Option (Int×Unit):=(ck (z0o 4096 1) (z5c φ φ x1 0 (List.replicate (4096:Int).toNat (default:Bool))))
def zh0 (φ:Nat):Fsp TV:=⟨[24],[.val 0],fun z=>zbz φ z.1⟩
def z3p (φ:Nat):Nat->Int->zc8->Option (Int×Unit)
 | 0,_,_=>none
 | n12+1,x10,x11=>(if(decide ((x10:Int) <(x11.swaps.length:Int)))=true then(ck ((0:Int)<=x10/\x10 <(x11.swaps.length:Int)) ((z08 φ ((gt x11.swaps x10).wanted) 0 (W ((x11.types.length:Int)-1))).bind fun y13=>((zp (default,()) ((!y13.1)=false) (z08 φ ((gt x11.swaps x10).given) 0 (W ((x11.types.length:Int)-1)))).bind fun y14=>((zp (default,()) ((((!y13.1)||(!y14.1))||(((gt x11.swaps x10).wanted:Int)==(gt x11.swaps x10).given))=false) (z08 φ ((gt x11.swaps x10).cost) 0 1000000000)).bind fun y15=>(if((((!y13.1)||(!y14.1))||(((gt x11.swaps x10).wanted:Int)==(gt x11.swaps x10).given))||(!y15.1))=true then(some (1,())) else((z3p φ n12) (W (x10+1)) x11)))))) else((zbz φ x11.washes).bind fun y16=>(some (y16.1,()))))
def z4l (φ:Nat):Nat->Int->zc8->Option (Int×Unit)
 | 0,_,_=>none
 | n8+1,x6,x7=>(if(decide ((x6:Int) <(x7.wagons.length:Int)))=true then(ck ((0:Int)<=x6/\x6 <(x7.wagons.length:Int)) ((zc5 φ (gt x7.wagons x6) (x7.types.length:Int)).bind fun y9=>(if(!y9.1)=true then(some (1,())) else((z4l φ n8) (W (x6+1)) x7)))) else(z3p φ φ 0 x7))
def z5z (φ:Nat):Nat->Int->zc8->Option (Int×Unit)
 | 0,_,_=>none
 | n4+1,x2,x3=>(if(decide ((x2:Int) <(x3.types.length:Int)))=true then(ck ((0:Int)<=x2/\x2 <(x3.types.length:Int)) ((ze9 φ (gt x3.types x2)).bind fun y5=>(if(!y5.1)=true then(some (1,())) else((z5z φ n4) (W (x2+1)) x3)))) else(z4l φ φ 0 x3))
def zjf (φ:Nat) (x1:zc8):Option (Int×Unit):=(if((((decide ((32:Int) <(x1.types.length:Int)))||(decide ((4096:Int) <(x1.wagons.length:Int))))||(decide ((1024:Int) <(x1.swaps.length:Int))))||(decide ((4096:Int) <(x1.washes.length:Int))))=true then(some (2,())) else(z5z φ φ 0 x1))
def zjb (φ:Nat):Fsp TV:=⟨[25],[.val 0],fun z=>zjf φ z.1⟩
def z4v (φ:Nat):Nat->Int->Int->Pool->Option (Bool×Unit)
 | 0,_,_,_=>none
 | n15+1,x12,x13,x14=>(if(decide ((x13:Int) <(x14.fleet.wagons.length:Int)))=true then(ck ((0:Int)<=x13/\x13 <(x14.fleet.wagons.length:Int)) (if(decide ((x12:Int)<=(gt x14.fleet.wagons x13).home))=true then(some (false,())) else((z4v φ n15) x12 (W (x13+1)) x14))) else(some (true,())))
def z4u (φ:Nat):Nat->Int->Int->Pool->Option (Bool×Unit)
 | 0,_,_,_=>none
 | n10+1,x7,x8,x9=>(if(decide ((x8:Int) <(x9.shippers.length:Int)))=true then(ck ((0:Int)<=x8/\x8 <(x9.shippers.length:Int)) ((z08 φ ((gt x9.shippers x8).place) 0 (W (x7-1))).bind fun y11=>(ck (((!y11.1)=false)->(0:Int)<=x8/\x8 <(x9.shippers.length:Int)) (ck (((!y11.1)=false)->(0:Int)<=(gt x9.shippers x8).place/\(gt x9.shippers x8).place <(x9.network.places.length:Int)) (if((!y11.1)||(((gt x9.network.places ((gt x9.shippers x8).place)).kind:Int) !=4))=true then(some (false,())) else((z4u φ n10) x7 (W (x8+1)) x9)))))) else(z4v φ φ x7 0 x9))
def z74 (φ:Nat):Nat->Int->Int->Pool->Option (Bool×Unit)
 | 0,_,_,_=>none
 | n5+1,x2,x3,x4=>(if(decide ((x3:Int) <(x4.readers.length:Int)))=true then(ck ((0:Int)<=x3/\x3 <(x4.readers.length:Int)) ((z08 φ ((gt x4.readers x3).place) 0 (W (x2-1))).bind fun y6=>(if((((!y6.1)||(decide (((gt x4.readers x3).low:Int) <(-1000))))||(decide (((gt x4.readers x3).high:Int) <(gt x4.readers x3).low)))||(decide ((1000:Int) <(gt x4.readers x3).high)))=true then(some (false,())) else((z74 φ n5) x2 (W (x3+1)) x4)))) else(z4u φ φ x2 0 x4))
def zmd (φ:Nat) (x1:Pool):Option (Bool×Unit):=(z74 φ φ (x1.network.places.length:Int) 0 x1)
def zkh (φ:Nat):Fsp TV:=⟨[35],[.val 2],fun z=>zmd φ z.1⟩
def z4j (φ:Nat):Nat->Int->Int->Pool->Option (Bool×Unit)
 | 0,_,_,_=>none
 | n9+1,x6,x7,x8=>(if(decide ((x7:Int) <(x8.network.edges.length:Int)))=true then(ck ((0:Int)<=x7/\x7 <(x8.network.edges.length:Int)) (if(decide ((x6:Int)<=(gt x8.network.edges x7).railway))=true then(some (false,())) else((z4j φ n9) x6 (W (x7+1)) x8))) else(some (true,())))
def z62 (φ:Nat):Nat->Int->Int->Pool->Option (Bool×Unit)
 | 0,_,_,_=>none
 | n5+1,x2,x3,x4=>(if(decide ((x3:Int) <(x4.network.places.length:Int)))=true then(ck ((0:Int)<=x3/\x3 <(x4.network.places.length:Int)) (if((decide ((x2:Int)<=(gt x4.network.places x3).railway))||(decide ((x2:Int)<=(gt x4.network.places x3).other)))=true then(some (false,())) else((z62 φ n5) x2 (W (x3+1)) x4))) else(z4j φ φ x2 0 x4))
def zhs (φ:Nat) (x1:Pool):Option (Bool×Unit):=(z62 φ φ (x1.railways.length:Int) 0 x1)
def zii (φ:Nat):Fsp TV:=⟨[35],[.val 2],fun z=>zhs φ z.1⟩
def z65 (φ:Nat):Nat->Int->z5n->Option (Int×Unit)
 | 0,_,_=>none
 | n7+1,x5,x6=>(if(decide ((x5:Int) <(x6.holidays.length:Int)))=true then(ck ((0:Int)<=x5/\x5 <(x6.holidays.length:Int)) (ck ((((decide (((gt x6.holidays x5):Int)<0))||(decide ((745654:Int) <(gt x6.holidays x5))))=false/\(decide ((0:Int)<x5))=true)->(0:Int)<=(W (x5-1))/\(W (x5-1)) <(x6.holidays.length:Int)) (if(((decide (((gt x6.holidays x5):Int)<0))||(decide ((745654:Int) <(gt x6.holidays x5))))||((decide ((0:Int)<x5))&&(decide (((gt x6.holidays x5):Int)<=(gt x6.holidays (W (x5-1)))))))=true then(some (1,())) else((z65 φ n7) (W (x5+1)) x6)))) else(some (0,())))
def z68 (φ:Nat):Nat->Int->z5n->Option (Int×Unit)
 | 0,_,_=>none
 | n4+1,x2,x3=>(if(decide ((x2:Int)<7))=true then(ck ((0:Int)<=x2/\x2 <(7:Int)) (if(((decide (((x3.open_ ((x2:Int).toNat)).from_:Int)<0))||(decide (((x3.open_ ((x2:Int).toNat)).to:Int) <(x3.open_ ((x2:Int).toNat)).from_)))||(decide ((1440:Int) <(x3.open_ ((x2:Int).toNat)).to)))=true then(some (1,())) else((z68 φ n4) (W (x2+1)) x3))) else(z65 φ φ 0 x3))
def zif (φ:Nat) (x1:z5n):Option (Int×Unit):=(z68 φ φ 0 x1)
def zi9 (φ:Nat):Fsp TV:=⟨[32],[.val 0],fun z=>zif φ z.1⟩
def z9x (φ:Nat) (k8 :(Int->Int->Int->Int->Option (Int×Unit))) (x9:Int) (x10:Int) (x11:Int) (x12:Int):Option (Int×Unit):=(ck (x11≠0) (if(2:Int)≠0 then(k8 ((((U (x9+x9)):Int).tmod x11)) (U ((x10:Int).tdiv 2)) x11 x12) else none))
def z3i (φ:Nat):Nat->Int->Int->Int->Int->Option (Int×Unit)
 | 0,_,_,_,_=>none
 | n8+1,x4,x5,x6,x7=>(if(decide ((0:Int)<x5))=true then(if(2:Int)≠0 then(if((((x5:Int).tmod 2):Int)==1)=true then(ck (x6≠0) (z9x φ (z3i φ n8) x4 x5 x6 ((((U (x7+x4)):Int).tmod x6)))) else(z9x φ (z3i φ n8) x4 x5 x6 x7)) else none) else(some (x7,())))
def ze3 (φ:Nat) (x1:Int) (x2:Int) (x3:Int):Option (Int×Unit):=(z3i φ φ x1 x2 x3 0)
def zhv (φ:Nat):Fsp TV:=⟨[16,16,16],[.val 16],fun z=>ze3 φ z.1 z.2.1 z.2.2.1⟩
def zdf (φ:Nat) (k6 :(Int->Int->Int->Option (Int×Unit))) (x7:Int) (x8:Int) (x9:Int):Option (Int×Unit):=((ze3 φ x7 x7 2305843009213690799).bind fun y11=>(if(2:Int)≠0 then(k6 y11.1 (U ((x8:Int).tdiv 2)) x9) else none))
def z5g (φ:Nat):Nat->Int->Int->Int->Option (Int×Unit)
 | 0,_,_,_=>none
 | n6+1,x3,x4,x5=>(if(decide ((0:Int)<x4))=true then(if(2:Int)≠0 then(if((((x4:Int).tmod 2):Int)==1)=true then((ze3 φ x5 x3 2305843009213690799).bind fun y12=>(zdf φ (z5g φ n6) x3 x4 y12.1)) else(zdf φ (z5g φ n6) x3 x4 x5)) else none) else(some (x5,())))
def zpl (φ:Nat) (x1:Int) (x2:Int):Option (Int×Unit):=(if(2305843009213690799:Int)≠0 then(z5g φ φ ((x1:Int).tmod 2305843009213690799) x2 1) else none)
def znj (φ:Nat):Fsp TV:=⟨[16,16],[.val 16],fun z=>zpl φ z.1 z.2.1⟩
def zio (φ:Nat) (x1:Int):Option (Bool×Unit):=((zp (default,()) (((decide ((2:Int)<=x1))&&(decide ((x1:Int)<2305843009213690799)))=true) (zpl φ x1 1152921504606845399)).bind fun y2=>(some ((((decide ((2:Int)<=x1))&&(decide ((x1:Int)<2305843009213690799)))&&((y2.1:Int)==1)),())))
def zjp (φ:Nat):Fsp TV:=⟨[16],[.val 2],fun z=>zio φ z.1⟩
def z1z (φ:Nat):Nat->Int->Pool->Option (Int×Unit)
 | 0,_,_=>none
 | n8+1,x6,x7=>(if(decide ((x6:Int) <(x7.railways.length:Int)))=true then(ck ((0:Int)<=x6/\x6 <(x7.railways.length:Int)) ((zif φ ((gt x7.railways x6).calendar)).bind fun y9=>(ck ((((y9.1:Int) !=0)=false)->(0:Int)<=x6/\x6 <(x7.railways.length:Int)) ((zp (default,()) (((y9.1:Int) !=0)=false) (zio φ ((gt x7.railways x6).key))).bind fun y10=>(if(((y9.1:Int) !=0)||(!y10.1))=true then(some (1,())) else((z1z φ n8) (W (x6+1)) x7)))))) else(if(((x7.railways.length:Int):Int)==0)=true then(some (1,())) else(some (0,()))))
def z6y (φ:Nat) (x1:Pool):Option (Int×Unit):=((zfc φ x1.network).bind fun y2=>(if((y2.1:Int) !=0)=true then(some (y2.1,())) else((zjf φ x1.fleet).bind fun y3=>(if((y3.1:Int) !=0)=true then(some (y3.1,())) else(if(((decide ((256:Int) <(x1.readers.length:Int)))||(decide ((256:Int) <(x1.shippers.length:Int))))||(decide ((16:Int) <(x1.railways.length:Int))))=true then(some (2,())) else((zmd φ x1).bind fun y4=>((zp (default,()) ((!y4.1)=false) (zhs φ x1)).bind fun y5=>(if((!y4.1)||(!y5.1))=true then(some (1,())) else(z1z φ φ 0 x1)))))))))
def z7i (φ:Nat):Fsp TV:=⟨[35],[.val 0],fun z=>z6y φ z.1⟩
def zd1 (φ:Nat) (x5:Int) (x6:Bool):Option (ByteArray×Unit):=(if x6=true then(some (zk2,())) else(if((x5:Int)==13)=true then(some (zuy,())) else(if((x5:Int)==15)=true then(some (zn4,())) else(some ((⟨#[]⟩:ByteArray),())))))
def zdi (φ:Nat) (x2:Int) (x3:Bool):Option (ByteArray×Unit):=(if x3=true then(some (z6a,())) else(if((x2:Int)==5)=true then(some (zmz,())) else(if((x2:Int)==6)=true then(some (z6a,())) else(if((x2:Int)==7)=true then(some (zet,())) else(if((x2:Int)==8)=true then(some (zn6,())) else(if((x2:Int)==9)=true then(some (zn5,())) else(if((x2:Int)==10)=true then(some (ztq,())) else(if((x2:Int)==11)=true then(zd1 φ x2 ((x2:Int)==11)) else(zd1 φ x2 ((x2:Int)==12))))))))))
def zmg (φ:Nat) (x1:Int):Option (ByteArray×Unit):=(if((x1:Int)==1)=true then(some (zlj,())) else(if((x1:Int)==2)=true then(some (zef,())) else(if((x1:Int)==3)=true then(zdi φ x1 ((x1:Int)==3)) else(zdi φ x1 ((x1:Int)==4)))))
def zko (φ:Nat):Fsp TV:=⟨[0],[.val 6],fun z=>zmg φ z.1⟩
def zh (φ:Nat) (x1:Int) (x2:Int) (x3:Int):Option (Bool×Unit):=(some (((decide ((x2:Int)<=x1))&&(decide ((x1:Int)<=x3))),()))
def z1a (φ:Nat):Fsp TV:=⟨[0,0,0],[.val 2],fun z=>zh φ z.1 z.2.1 z.2.2.1⟩
def z90 (φ:Nat) (x1:Item):Option (Bool×Unit):=(if(((x1.ref.railway:Int)==0)&&(((x1.ref.no:Int)==0)&&true))=true then(some (((x1.kind:Int) !=14),())) else((zh φ x1.ref.railway 0 15).bind fun y2=>((zp (default,()) (y2.1=true) (zh φ x1.ref.no 1 4096)).bind fun y3=>(some ((y2.1&&y3.1),())))))
def zam (φ:Nat):Fsp TV:=⟨[9],[.val 2],fun z=>z90 φ z.1⟩
def zf7 (φ:Nat):Nat->ByteArray->Int->Int->Option (Bool×Unit)
 | 0,_,_,_=>none
 | n6+1,x3,x4,x5=>(if(decide ((x5:Int) <(x3.size:Int)))=true then(ck ((0:Int)<=x5/\x5 <(x3.size:Int)) (if(((z6c x3 x5):Int)==x4)=true then(some (true,())) else((zf7 φ n6) x3 x4 (W (x5+1))))) else(some (false,())))
def zb0 (φ:Nat) (x1:ByteArray) (x2:Int):Option (Bool×Unit):=(zf7 φ φ x1 x2 0)
def zrg (φ:Nat):Fsp TV:=⟨[6,53],[.val 2],fun z=>zb0 φ z.1 z.2.1⟩
def zb8 (φ:Nat) (x4:Int) (x5:Int) (x6:Bool):Option (Bool×Unit):=(if x6=true then(some (((x4:Int)==3),())) else(if((x5:Int)==9)=true then(some (((x4:Int)==5),())) else(some (true,()))))
def zo0 (φ:Nat) (x1:Pool) (x2:Item):Option (Bool×Unit):=((zh φ x2.place 0 (W ((x1.network.places.length:Int)-1))).bind fun y3=>(if(!y3.1)=true then(some (false,())) else(ck ((0:Int)<=x2.place/\x2.place <(x1.network.places.length:Int)) (if((x2.kind:Int)==3)=true then(zb8 φ ((gt x1.network.places x2.place).kind) x2.kind ((x2.kind:Int)==3)) else(zb8 φ ((gt x1.network.places x2.place).kind) x2.kind ((x2.kind:Int)==4))))))
def zj9 (φ:Nat):Fsp TV:=⟨[35,9],[.val 2],fun z=>zo0 φ z.1 z.2.1⟩
def zbj (φ:Nat) (x4:Int) (x5:Bool) (x6:Pool) (x7:Item):Option (Bool×Unit):=(if x5=true then(ck ((0:Int)<=x7.place/\x7.place <(x6.network.places.length:Int)) (some ((((x7.other:Int)==(gt x6.network.places x7.place).railway)||((x7.other:Int)==(gt x6.network.places x7.place).other)),()))) else(if((x4:Int)==10)=true then((zh φ x7.other 0 63).bind fun y9=>(some (y9.1,()))) else((zh φ x7.other 0 (W ((x6.shippers.length:Int)-1))).bind fun y10=>(some (y10.1,())))))
def zny (φ:Nat) (x1:Pool) (x2:Item):Option (Bool×Unit):=(if((x2.kind:Int)==1)=true then((zh φ x2.other 0 (W ((x1.readers.length:Int)-1))).bind fun y3=>(some (y3.1,()))) else(if((x2.kind:Int)==3)=true then(zbj φ x2.kind ((x2.kind:Int)==3) x1 x2) else(zbj φ x2.kind ((x2.kind:Int)==4) x1 x2)))
def zjh (φ:Nat):Fsp TV:=⟨[35,9],[.val 2],fun z=>zny φ z.1 z.2.1⟩
def zl5 (φ:Nat) (x1:Pool) (x2:Item):Option (Bool×Unit):=(if((x2.kind:Int)==5)=true then((zh φ x2.number 1 1000000000).bind fun y3=>(some (y3.1,()))) else(if((x2.kind:Int)==15)=true then((zh φ x2.number 0 (W ((x1.fleet.types.length:Int)-1))).bind fun y4=>(some (y4.1,()))) else((zh φ x2.number 1 6).bind fun y5=>(some (y5.1,())))))
def zgu (φ:Nat):Fsp TV:=⟨[35,9],[.val 2],fun z=>zl5 φ z.1 z.2.1⟩
def zct (φ:Nat) (x2:Int) (x3:Bool) (x4:Item):Option (Bool×Unit):=(if x3=true then((zh φ x4.code 0 8).bind fun y6=>(some (y6.1,()))) else(if((x2:Int)==6)=true then((zh φ x4.code 0 1).bind fun y7=>(some (y7.1,()))) else(if((x2:Int)==8)=true then((zh φ x4.code 1 9).bind fun y8=>(some (y8.1,()))) else((zh φ x4.code 1 2).bind fun y9=>(some (y9.1,()))))))
def zq9 (φ:Nat) (x1:Item):Option (Bool×Unit):=(if((x1.kind:Int)==3)=true then(zct φ x1.kind ((x1.kind:Int)==3) x1) else(zct φ x1.kind ((x1.kind:Int)==4) x1))
def zlr (φ:Nat):Fsp TV:=⟨[9],[.val 2],fun z=>zq9 φ z.1⟩
def zer (φ:Nat) (x1:Pool) (x2:Item) (x3:Int):Option (Bool×Unit):=(if((x3:Int)==119)=true then((zh φ x2.wagon 0 (W ((x1.fleet.wagons.length:Int)-1))).bind fun y4=>(some (y4.1,()))) else(if((x3:Int)==112)=true then((zo0 φ x1 x2).bind fun y5=>(some (y5.1,()))) else(if((x3:Int)==111)=true then((zny φ x1 x2).bind fun y6=>(some (y6.1,()))) else(if((x3:Int)==110)=true then((zl5 φ x1 x2).bind fun y7=>(some (y7.1,()))) else(if((x3:Int)==102)=true then((zh φ x2.from_ 0 1073741824).bind fun y8=>(some (y8.1,()))) else(if((x3:Int)==116)=true then((zh φ x2.to x2.from_ 1073741824).bind fun y9=>(some (y9.1,()))) else(if((x3:Int)==99)=true then((zq9 φ x2).bind fun y10=>(some (y10.1,()))) else(if((x3:Int)==100)=true then((zh φ x2.dest 0 (W ((x1.network.places.length:Int)-1))).bind fun y11=>(some (y11.1,()))) else(if((x3:Int)==107)=true then((zh φ x2.class_ 0 63).bind fun y12=>(some (y12.1,()))) else(if((x3:Int)==103)=true then(if((x2.kind:Int)==15)=true then((zh φ x2.weight 1 1000).bind fun y13=>(some (y13.1,()))) else((zh φ x2.weight 0 1000000).bind fun y14=>(some (y14.1,())))) else((zh φ x2.amount 0 1000000000).bind fun y15=>(some (y15.1,())))))))))))))
def zj4 (φ:Nat):Fsp TV:=⟨[35,9,53],[.val 2],fun z=>zer φ z.1 z.2.1 z.2.2.1⟩
def zey (φ:Nat) (x1:Item) (x2:Int):Option (Int×Unit):=(if((x2:Int)==119)=true then(some (x1.wagon,())) else(if((x2:Int)==112)=true then(some (x1.place,())) else(if((x2:Int)==111)=true then(some (x1.other,())) else(if((x2:Int)==110)=true then(some (x1.number,())) else(if((x2:Int)==102)=true then(some (x1.from_,())) else(if((x2:Int)==116)=true then(some (x1.to,())) else(if((x2:Int)==99)=true then(some (x1.code,())) else(if((x2:Int)==100)=true then(some (x1.dest,())) else(if((x2:Int)==107)=true then(some (x1.class_,())) else(if((x2:Int)==103)=true then(some (x1.weight,())) else(some (x1.amount,()))))))))))))
def zia (φ:Nat):Fsp TV:=⟨[9,53],[.val 0],fun z=>zey φ z.1 z.2.1⟩
def z69 (φ:Nat):Nat->Int->Item->Option (Bool×Unit)
 | 0,_,_=>none
 | n4+1,x2,x3=>(if(decide ((x2:Int) <(x3.parts.length:Int)))=true then(ck ((0:Int)<=x2/\x2 <(x3.parts.length:Int)) ((zh φ ((gt x3.parts x2).kind) 1 3).bind fun y5=>((zp (default,()) ((!y5.1)=false) (zh φ ((gt x3.parts x2).serial) 0 1073741824)).bind fun y6=>(if(((!y5.1)||(!y6.1))||(((x3.kind:Int)==10)&&(gt x3.parts x2).fitted))=true then(some (false,())) else((z69 φ n4) (W (x2+1)) x3))))) else(some (true,())))
def zi6 (φ:Nat) (x1:Item):Option (Bool×Unit):=(if((decide ((16:Int) <(x1.parts.length:Int)))||(((x1.kind:Int)==10)&&(((x1.parts.length:Int):Int)==0)))=true then(some (false,())) else(z69 φ φ 0 x1))
def zi3 (φ:Nat):Fsp TV:=⟨[9],[.val 2],fun z=>zi6 φ z.1⟩
def z3x (φ:Nat):Nat->ByteArray->Int->Pool->Item->Option (Bool×Unit)
 | 0,_,_,_,_=>none
 | n10+1,x6,x7,x8,x9=>(if(decide ((x7:Int)<11))=true then(ck ((0:Int)<=x7/\x7 <(z3q.size:Int)) ((zb0 φ x6 (z6c z3q x7)).bind fun y11=>((zp (default,()) (y11.1=true) (zer φ x8 x9 (z6c z3q x7))).bind fun y12=>((zp (default,()) ((y11.1&&(!y12.1))=false) (zb0 φ x6 (z6c z3q x7))).bind fun y13=>((zp (default,()) ((y11.1&&(!y12.1))=false/\(!y13.1)=true) (zey φ x9 (z6c z3q x7))).bind fun y14=>(if((y11.1&&(!y12.1))||((!y13.1)&&((y14.1:Int) !=0)))=true then(some (false,())) else((z3x φ n10) x6 (W (x7+1)) x8 x9))))))) else((zb0 φ x6 120).bind fun y15=>(if((y15.1 !=(x9.text !=(⟨#[]⟩:ByteArray)))||(decide ((2000:Int) <(x9.text.size:Int))))=true then(some (false,())) else((zb0 φ x6 113).bind fun y16=>((zp (default,()) (y16.1=true) (zi6 φ x9)).bind fun y17=>((zp (default,()) ((y16.1&&y17.1)=false/\(((x9.parts.length:Int):Int)==0)=true) (zb0 φ x6 113)).bind fun y18=>(some (((y16.1&&y17.1)||((((x9.parts.length:Int):Int)==0)&&(!y18.1))),()))))))))
def ze4 (φ:Nat) (x1:Pool) (x2:Item):Option (Bool×Unit):=((zmg φ x2.kind).bind fun y3=>((zh φ x2.kind 1 15).bind fun y4=>((zp (default,()) ((!y4.1)=false) (z90 φ x2)).bind fun y5=>(if((!y4.1)||(!y5.1))=true then(some (false,())) else(z3x φ φ y3.1 0 x1 x2)))))
def zje (φ:Nat):Fsp TV:=⟨[35,9],[.val 2],fun z=>ze4 φ z.1 z.2.1⟩
def z3c (φ:Nat):Nat->(List zd)->Int->Pool->(List Int)->Option ((List Int)×Int×Unit)
 | 0,_,_,_,_=>none
 | n8+1,x4,x5,x6,x7=>(if(decide ((x5:Int) <(x4.length:Int)))=true then(ck ((0:Int)<=x5/\x5 <(x4.length:Int)) ((ze4 φ x6 ((gt x4 x5).item)).bind fun y9=>(if y9.1=true then(ck (fits (x7.length +([x5]).length) 8) ((z3c φ n8) x4 (W (x5+1)) x6 (x7++[x5]))) else((z3c φ n8) x4 (W (x5+1)) x6 x7)))) else(some (x7,0,())))
def z7c (φ:Nat) (x1:Pool) (x2 :(List zd)):Option ((List Int)×Int×Unit):=((z6y φ x1).bind fun y3=>(if((y3.1:Int) !=0)=true then(some (([]:List Int),y3.1,())) else(z3c φ φ x2 0 x1 ([]:List Int))))
def zel (φ:Nat):Fsp TV:=⟨[35,38],[.val 5,.val 0],fun z=>z7c φ z.1 z.2.1⟩
def z1r (φ:Nat):Nat->Int->Int->(List Int)->Option ((List Int)×Unit)
 | 0,_,_,_=>none
 | n12+1,x9,x10,x11=>(if(decide ((x10:Int) <(x11.length:Int)))=true then(ck ((0:Int)<=x10/\x10 <(x11.length:Int)) (if(((gt x11 x10):Int)==1)=true then(ck ((0:Int)<=x10/\x10 <(x11.length:Int)) ((z1r φ n12) (W (x9+1)) (W (x10+1)) (zw x11 x10 x9))) else((z1r φ n12) x9 (W (x10+1)) x11))) else(some (x11,())))
def z3a (φ:Nat):Nat->(List zd)->(List Int)->Int->(List Int)->Option ((List Int)×Unit)
 | 0,_,_,_,_=>none
 | n8+1,x4,x5,x6,x7=>(if(decide ((x6:Int) <(x5.length:Int)))=true then(ck ((0:Int)<=x6/\x6 <(x5.length:Int)) (ck ((0:Int)<=(gt x5 x6)/\(gt x5 x6) <(x4.length:Int)) (if((((gt x4 (gt x5 x6)).item).kind:Int)==1)=true then(ck ((0:Int)<=((gt x4 (gt x5 x6)).item).other/\((gt x4 (gt x5 x6)).item).other <(x7.length:Int)) ((z3a φ n8) x4 x5 (W (x6+1)) ((zw x7 (((gt x4 (gt x5 x6)).item).other) 1)))) else((z3a φ n8) x4 x5 (W (x6+1)) x7)))) else(z1r φ φ 1 0 x7))
def zdz (φ:Nat) (x1:Pool) (x2 :(List zd)) (x3 :(List Int)):Option ((List Int)×Unit):=(ck (z0o (x1.readers.length:Int) 8) (z3a φ φ x2 x3 0 (List.replicate ((x1.readers.length:Int):Int).toNat (default:Int))))
def zew (φ:Nat):Fsp TV:=⟨[35,38,5],[.val 5],fun z=>zdz φ z.1 z.2.1 z.2.2.1⟩
def z1c (φ:Nat) (x4:Int) (x5:Bool) (x6:Item) (x7:zb):Option ((List zb)×Unit):=(if x5=true then(some ([(⟨x7.place,x7.time,x7.ref,x7.second,x7.from_,true,x7.reader,x7.covers⟩:zb),(⟨x7.place,x6.to,x7.ref,true,x7.from_,true,x7.reader,x7.covers⟩:zb)],())) else(if((x4:Int)==3)=true then(if((x4:Int)==3)=true then(some ([x7],())) else(some (([]:List zb),()))) else(if((x4:Int)==4)=true then(if((x4:Int)==4)=true then(some ([x7],())) else(some (([]:List zb),()))) else(if((x4:Int)==6)=true then(if((x4:Int)==6)=true then(some ([x7],())) else(some (([]:List zb),()))) else(if((x4:Int)==7)=true then(some ([x7],())) else(some (([]:List zb),())))))))
def z2n (φ:Nat) (x1:Pool) (x2:zd) (x3:Int):Option ((List zb)×Unit):=(if((x2.item.kind:Int)==1)=true then(ck ((0:Int)<=x2.item.other/\x2.item.other <(x1.readers.length:Int)) (some ([(⟨(gt x1.readers x2.item.other).place,x2.item.from_,x2.ref,false,x3,false,x2.item.other,false⟩:zb)],()))) else(if((x2.item.kind:Int)==2)=true then(z1c φ x2.item.kind ((x2.item.kind:Int)==2) x2.item (⟨x2.item.place,x2.item.from_,x2.ref,false,x3,false,-1,false⟩:zb)) else(z1c φ x2.item.kind ((x2.item.kind:Int)==9) x2.item (⟨x2.item.place,x2.item.from_,x2.ref,false,x3,false,-1,false⟩:zb))))
def zh9 (φ:Nat):Fsp TV:=⟨[35,10,0],[.val 55],fun z=>z2n φ z.1 z.2.1 z.2.2.1⟩
def zkb (φ:Nat) (x1:Ref) (x2:Ref):Option (Bool×Unit):=(some (((decide ((x1.railway:Int)<x2.railway))||(((x1.railway:Int)==x2.railway)&&(decide ((x1.no:Int)<x2.no)))),()))
def zhf (φ:Nat):Fsp TV:=⟨[1,1],[.val 2],fun z=>zkb φ z.1 z.2.1⟩
def zgd (φ:Nat) (x1:zb) (x2:zb):Option (Bool×Unit):=(if((x1.time:Int) !=x2.time)=true then(some ((decide ((x1.time:Int)<x2.time)),())) else(if(!(((x1.ref.railway:Int)==x2.ref.railway)&&(((x1.ref.no:Int)==x2.ref.no)&&true)))=true then((zkb φ x1.ref x2.ref).bind fun y3=>(some (y3.1,()))) else(if(x1.second !=x2.second)=true then(some (x2.second,())) else(some ((decide ((x1.from_:Int)<x2.from_)),())))))
def zh5 (φ:Nat):Fsp TV:=⟨[54,54],[.val 2],fun z=>zgd φ z.1 z.2.1⟩
def z5f (φ:Nat):Nat->(List zb)->Int->zb->Option ((List zb)×Unit)
 | 0,_,_,_=>none
 | n6+1,x3,x4,x5=>(ck (((decide ((x4:Int) <(x3.length:Int)))=true)->(0:Int)<=x4/\x4 <(x3.length:Int)) ((zp (default,()) ((decide ((x4:Int) <(x3.length:Int)))=true) (zgd φ (gt x3 x4) x5)).bind fun y7=>(if((decide ((x4:Int) <(x3.length:Int)))&&y7.1)=true then((z5f φ n6) x3 (W (x4+1)) x5) else(ck ((0:Int)<=0/\0<=x4/\x4<=(x3.length:Int)) (ck (fits (([]:List zb).length +(z2k x3 (0:Int).toNat (x4:Int).toNat).length) 72) (ck (fits ((([]:List zb)++(z2k x3 (0:Int).toNat (x4:Int).toNat)).length +([x5]).length) 72) (ck ((0:Int)<=x4/\x4<=(x3.length:Int)/\(x3.length:Int)<=(x3.length:Int)) (ck (fits ((((([]:List zb)++(z2k x3 (0:Int).toNat (x4:Int).toNat))++[x5])).length +(z2k x3 (x4:Int).toNat ((x3.length:Int):Int).toNat).length) 72) (some ((((([]:List zb)++(z2k x3 (0:Int).toNat (x4:Int).toNat))++[x5])++(z2k x3 (x4:Int).toNat ((x3.length:Int):Int).toNat)),()))))))))))
def zft (φ:Nat) (x1 :(List zb)) (x2:zb):Option ((List zb)×Unit):=(z5f φ φ x1 0 x2)
def zgp (φ:Nat):Fsp TV:=⟨[55,54],[.row 189 54],fun z=>zft φ z.1 z.2.1⟩
def z3d (φ:Nat) (k11 :((List zd)->(List Int)->Int->Int->Pool->(List zb)->Option ((List zb)×Unit))):Nat->(List zd)->(List Int)->Int->Int->(List zb)->Int->Pool->(List zb)->Option ((List zb)×Unit)
 | 0,_,_,_,_,_,_,_,_=>none
 | n21+1,x13,x14,x15,x16,x17,x18,x19,x20=>(if(decide ((x18:Int) <(x17.length:Int)))=true then(ck ((0:Int)<=x18/\x18 <(x17.length:Int)) ((zft φ x20 (gt x17 x18)).bind fun y22=>((z3d φ k11 n21) x13 x14 x15 x16 x17 (W (x18+1)) x19 y22.1))) else(k11 x13 x14 x15 (W (x16+1)) x19 x20))
def z5w (φ:Nat) (k25 :(Int->(List zb)->Option ((List zb)×Unit))):Nat->Int->Int->(List zb)->Option ((List zb)×Unit)
 | 0,_,_,_=>none
 | n29+1,x26,x27,x28=>(ck ((0:Int)<=x27/\x27 <(x28.length:Int)) (ck (((!(gt x28 x27).second)=false)->(0:Int)<=x27/\x27 <(x28.length:Int)) (ck (((!(gt x28 x27).second)=false)->(0:Int)<=x26/\x26 <(x28.length:Int)) (if((!(gt x28 x27).second)||(((gt x28 x27).from_:Int) !=(gt x28 x26).from_))=true then(ck ((0:Int)<=x27/\x27 <(x28.length:Int)) ((z5w φ k25 n29) x26 (W (x27+1)) (zw x28 x27 (⟨(gt x28 x27).place,(gt x28 x27).time,(gt x28 x27).ref,(gt x28 x27).second,(gt x28 x27).from_,(gt x28 x27).stay,(gt x28 x27).reader,true⟩:zb)))) else(k25 (W (x26+1)) x28)))))
def z0i (φ:Nat):Nat->Int->(List zb)->Option ((List zb)×Unit)
 | 0,_,_=>none
 | n25+1,x23,x24=>(if(decide ((x23:Int) <(x24.length:Int)))=true then(ck ((0:Int)<=x23/\x23 <(x24.length:Int)) (ck (((!(gt x24 x23).stay)=false)->(0:Int)<=x23/\x23 <(x24.length:Int)) (if((!(gt x24 x23).stay)||(gt x24 x23).second)=true then((z0i φ n25) (W (x23+1)) x24) else(z5w φ (z0i φ n25) φ x23 x23 x24)))) else(some (x24,())))
def z3b (φ:Nat):Nat->(List zd)->(List Int)->Int->Int->Pool->(List zb)->Option ((List zb)×Unit)
 | 0,_,_,_,_,_,_=>none
 | n11+1,x5,x6,x7,x8,x9,x10=>(if(decide ((x8:Int) <(x6.length:Int)))=true then(ck ((0:Int)<=x8/\x8 <(x6.length:Int)) (ck ((0:Int)<=(gt x6 x8)/\(gt x6 x8) <(x5.length:Int)) (if((((gt x5 (gt x6 x8)).item).wagon:Int) !=x7)=true then((z3b φ n11) x5 x6 x7 (W (x8+1)) x9 x10) else(ck ((0:Int)<=x8/\x8 <(x6.length:Int)) ((z2n φ x9 (gt x5 (gt x6 x8)) (gt x6 x8)).bind fun y12=>(z3d φ (z3b φ n11) φ x5 x6 x7 x8 y12.1 0 x9 x10)))))) else(z0i φ φ 0 x10))
def zbt (φ:Nat) (x1:Pool) (x2 :(List zd)) (x3 :(List Int)) (x4:Int):Option ((List zb)×Unit):=(z3b φ φ x2 x3 x4 0 x1 ([]:List zb))
def zgv (φ:Nat):Fsp TV:=⟨[35,38,5,0],[.val 55],fun z=>zbt φ z.1 z.2.1 z.2.2.1 z.2.2.2.1⟩
def z8i (φ:Nat) (x1:ze) (x2:Int):Option (Bool×Unit):=((z1x φ x2 0 (W ((x1.places.length:Int)-1))).bind fun y3=>(some (y3.1,())))
def zbe (φ:Nat):Fsp TV:=⟨[15,0],[.val 2],fun z=>z8i φ z.1 z.2.1⟩
def zbr (φ:Nat) (x1:Int) (x2:Int):Option (Int×Unit):=(if(decide ((x1:Int)<0))=true then(some (x2,())) else(some ((min2 x1 x2),())))
def zgn (φ:Nat):Fsp TV:=⟨[0,0],[.val 0],fun z=>zbr φ z.1 z.2.1⟩
def z56 (φ:Nat) (k18 :(Bool->Int->ze->(List Int)->Option ((List Int)×Int×Unit))) (x27:Bool) (x28:Int) (x29:Int) (x30:Int) (x31:ze) (x32 :(List Int)) (x33:Edge):Option ((List Int)×Int×Unit):=(ck ((x27=false)->(0:Int)<=x33.a/\x33.a <(x32.length:Int)) (ck (((x27||(((gt x32 x33.a):Int) !=x29))=false)->(0:Int)<=x33.b/\x33.b <(x32.length:Int)) (k18 (((x27||(((gt x32 x33.a):Int) !=x29))||(((gt x32 x33.b):Int) !=x30))) (W (x28+1)) x31 x32)))
def z6x (φ:Nat) (k18 :(Bool->Int->ze->(List Int)->Option ((List Int)×Int×Unit))) (x19:Bool) (x20:Int) (x21:Int) (x22:Int) (x23:ze) (x24 :(List Int)) (x25:Edge):Option ((List Int)×Int×Unit):=(if(decide ((0:Int)<=x22))=true then((zbr φ x21 (W (x22+x25.minutes))).bind fun y35=>(ck ((0:Int)<=x25.a/\x25.a <(x24.length:Int)) (z56 φ k18 x19 x20 x21 x22 x23 (zw x24 x25.a y35.1) x25))) else(z56 φ k18 x19 x20 x21 x22 x23 x24 x25))
def z0s (φ:Nat) (k13 :(Bool->ze->(List Int)->Option ((List Int)×Int×Unit))):Nat->Bool->Int->ze->(List Int)->Option ((List Int)×Int×Unit)
 | 0,_,_,_,_=>none
 | n18+1,x14,x15,x16,x17=>(if(decide ((x15:Int) <(x16.edges.length:Int)))=true then(ck ((0:Int)<=x15/\x15 <(x16.edges.length:Int)) (ck ((0:Int)<=(gt x16.edges x15).a/\(gt x16.edges x15).a <(x17.length:Int)) (ck ((0:Int)<=(gt x16.edges x15).b/\(gt x16.edges x15).b <(x17.length:Int)) (if(decide ((0:Int)<=(gt x17 ((gt x16.edges x15).a))))=true then((zbr φ (gt x17 ((gt x16.edges x15).b)) ((W ((gt x17 ((gt x16.edges x15).a)) +(gt x16.edges x15).minutes)))).bind fun y36=>(ck ((0:Int)<=(gt x16.edges x15).b/\(gt x16.edges x15).b <(x17.length:Int)) (z6x φ (z0s φ k13 n18) x14 x15 (gt x17 ((gt x16.edges x15).a)) (gt x17 ((gt x16.edges x15).b)) x16 (zw x17 ((gt x16.edges x15).b) y36.1) (gt x16.edges x15)))) else(z6x φ (z0s φ k13 n18) x14 x15 (gt x17 ((gt x16.edges x15).a)) (gt x17 ((gt x16.edges x15).b)) x16 x17 (gt x16.edges x15)))))) else(k13 x14 x16 x17))
def z1y (φ:Nat):Nat->Bool->ze->(List Int)->Option ((List Int)×Int×Unit)
 | 0,_,_,_=>none
 | n13+1,x10,x11,x12=>(if x10=true then(z0s φ (z1y φ n13) φ false 0 x11 x12) else(some (x12,0,())))
def z67 (φ:Nat):Nat->Int->Int->ze->(List Int)->Option ((List Int)×Int×Unit)
 | 0,_,_,_,_=>none
 | n9+1,x5,x6,x7,x8=>(if(decide ((x6:Int) <(x8.length:Int)))=true then(ck ((0:Int)<=x6/\x6 <(x8.length:Int)) ((z67 φ n9) x5 (W (x6+1)) x7 (zw x8 x6 (-1)))) else(ck ((0:Int)<=x5/\x5 <(x8.length:Int)) (z1y φ φ true x7 (zw x8 x5 0))))
def zaw (φ:Nat) (x1:ze) (x2:Int):Option ((List Int)×Int×Unit):=((zfc φ x1).bind fun y3=>(if((y3.1:Int) !=0)=true then(some (([]:List Int),y3.1,())) else((z8i φ x1 x2).bind fun y4=>(if(!y4.1)=true then(some (([]:List Int),1,())) else(ck (z0o (x1.places.length:Int) 8) (z67 φ φ x2 0 x1 (List.replicate ((x1.places.length:Int):Int).toNat (default:Int))))))))
def zik (φ:Nat):Fsp TV:=⟨[15,0],[.val 5,.val 0],fun z=>zaw φ z.1 z.2.1⟩
def z4d (φ:Nat) (x1:ze) (x2:Int) (x3:Int):Option (Int×Int×Unit):=((zaw φ x1 x2).bind fun y4=>(if((y4.2.1:Int) !=0)=true then(some (0,y4.2.1,())) else((z8i φ x1 x3).bind fun y5=>(if(!y5.1)=true then(some (0,1,())) else(ck ((0:Int)<=x3/\x3 <(y4.1.length:Int)) (if(decide (((gt y4.1 x3):Int)<0))=true then(some (0,80,())) else(ck ((0:Int)<=x3/\x3 <(y4.1.length:Int)) (some ((gt y4.1 x3),0,())))))))))
def z9c (φ:Nat):Fsp TV:=⟨[15,0,0],[.val 0,.val 0],fun z=>z4d φ z.1 z.2.1 z.2.2.1⟩
def zg6 (φ:Nat) (x1:Pool) (x2:zb) (x3:zb):Option (Int×Unit):=((z4d φ x1.network x2.place x3.place).bind fun y4=>(if(((y4.2.1:Int) !=0)||(((x2.place:Int) !=x3.place)&&x2.covers))=true then(some (1073741825,())) else(some (y4.1,()))))
def zh8 (φ:Nat):Fsp TV:=⟨[35,54,54],[.val 0],fun z=>zg6 φ z.1 z.2.1 z.2.2.1⟩
def z6r (φ:Nat) (k62 :((List Int)->(List zb)->Int->Int->(List zd)->(List Int)->(List Int)->Int->Pool->(List Int)->Pool->(List zd)->(List Int)->Int->(List zb)->Int->Int->Pool->Ref->Pool->Int->(List z8)->(List (Nat->Ref))->(List z0h)->(List z8)->(List (Nat->Ref))->(List z0h)->Option (zn×Int×Unit))) (x63 :(List Int)) (x64 :(List zb)) (x65:Int) (x66:Int) (x67:Int) (x68 :(List zd)) (x69 :(List Int)) (x70 :(List Int)) (x71:Int) (x72:Pool) (x73 :(List Int)) (x74:Pool) (x75 :(List zd)) (x76 :(List Int)) (x77:Int) (x78 :(List zb)) (x79:Int) (x80:Int) (x81:Pool) (x82:Ref) (x83:Pool) (x84:Int) (x85 :(List z8)) (x86 :(List (Nat->Ref))) (x87 :(List z0h)) (x88 :(List z8)) (x89 :(List (Nat->Ref))) (x90 :(List z0h)):Option (zn×Int×Unit):=(if(decide ((0:Int)<x66))=true then(ck ((0:Int)<=(W (x66-1))/\(W (x66-1)) <(x64.length:Int)) (ck ((0:Int)<=x66/\x66 <(x64.length:Int)) ((zg6 φ x81 (gt x64 (W (x66-1))) (gt x64 x66)).bind fun y92=>(ck ((0:Int)<=(W (x66-1))/\(W (x66-1)) <(x64.length:Int)) (ck ((0:Int)<=x66/\x66 <(x64.length:Int)) (ck (fits (x85.length +([(⟨x67,W (x67-1),W (0-y92.1)⟩:z8)]).length) 24) (ck (fits (x86.length +([(upd ((upd (fun _=>(default:Ref)) 0 (((gt x64 (W (x66-1))).ref)))) 1 ((gt x64 x66).ref))]).length) 32) (k62 x63 x64 x65 (W (x66+1)) x68 x69 x70 x71 x72 x73 x74 x75 x76 x77 x78 x79 x80 x81 x82 x83 x84 (x85++[(⟨x67,W (x67-1),W (0-y92.1)⟩:z8)]) ((x86++[(upd ((upd (fun _=>(default:Ref)) 0 (((gt x64 (W (x66-1))).ref)))) 1 ((gt x64 x66).ref))])) x87 x88 x89 x90)))))))) else(k62 x63 x64 x65 (W (x66+1)) x68 x69 x70 x71 x72 x73 x74 x75 x76 x77 x78 x79 x80 x81 x82 x83 x84 x85 x86 x87 x88 x89 x90))
def z3v (φ:Nat) (k33 :((List zd)->(List Int)->(List Int)->Int->Pool->Int->Int->(List z8)->(List (Nat->Ref))->(List z0h)->(List z8)->(List (Nat->Ref))->(List z0h)->Option (zn×Int×Unit))):Nat->(List Int)->(List zb)->Int->Int->(List zd)->(List Int)->(List Int)->Int->Pool->(List Int)->Pool->(List zd)->(List Int)->Int->(List zb)->Int->Int->Pool->Ref->Pool->Int->(List z8)->(List (Nat->Ref))->(List z0h)->(List z8)->(List (Nat->Ref))->(List z0h)->Option (zn×Int×Unit)
 | 0,_,_,_,_,_,_,_,_,_,_,_,_,_,_,_,_,_,_,_,_,_,_,_,_,_,_,_=>none
 | n62+1,x35,x36,x37,x38,x39,x40,x41,x42,x43,x44,x45,x46,x47,x48,x49,x50,x51,x52,x53,x54,x55,x56,x57,x58,x59,x60,x61=>(if(decide ((x38:Int) <(x36.length:Int)))=true then(ck ((0:Int)<=x38/\x38 <(x36.length:Int)) (ck ((0:Int)<=x38/\x38 <(x36.length:Int)) (ck ((0:Int)<=x38/\x38 <(x36.length:Int)) (ck (fits (x58.length +([(⟨x37,(gt x36 x38).place,x51,(gt x36 x38).ref,(gt x36 x38).covers⟩:z0h)]).length) 48) (ck ((0:Int)<=x38/\x38 <(x36.length:Int)) (if(decide (((gt x36 x38).reader:Int)<0))=true then(ck ((0:Int)<=x38/\x38 <(x36.length:Int)) (ck ((0:Int)<=x38/\x38 <(x36.length:Int)) (ck (fits (x56.length +([(⟨0,x51,(gt x36 x38).time⟩:z8)]).length) 24) (ck (fits (x57.length +([(upd (upd (fun _=>(default:Ref)) 0 ((gt x36 x38).ref)) 1 x53)]).length) 32) (ck ((0:Int)<=x38/\x38 <(x36.length:Int)) (ck ((0:Int)<=x38/\x38 <(x36.length:Int)) (ck (fits ((x56++[(⟨0,x51,(gt x36 x38).time⟩:z8)]).length +([(⟨x51,0,W (0 -(gt x36 x38).time)⟩:z8)]).length) 24) (ck (fits (((x57++[(upd (upd (fun _=>(default:Ref)) 0 ((gt x36 x38).ref)) 1 x53)])).length +([(upd (upd (fun _=>(default:Ref)) 0 ((gt x36 x38).ref)) 1 x53)]).length) 32) (z6r φ (z3v φ k33 n62) x35 x36 x37 x38 x51 x39 x40 x41 x42 x43 x44 x45 x46 x47 x48 x49 x50 (W (x51+1)) x52 x53 x54 x55 (((x56++[(⟨0,x51,(gt x36 x38).time⟩:z8)])++[(⟨x51,0,W (0 -(gt x36 x38).time)⟩:z8)])) (((x57++[(upd (upd (fun _=>(default:Ref)) 0 ((gt x36 x38).ref)) 1 x53)])++[(upd (upd (fun _=>(default:Ref)) 0 ((gt x36 x38).ref)) 1 x53)])) (x58++[(⟨x37,(gt x36 x38).place,x51,(gt x36 x38).ref,(gt x36 x38).covers⟩:z0h)]) x59 x60 x61))))))))) else(ck ((0:Int)<=x38/\x38 <(x36.length:Int)) (ck ((0:Int)<=(gt x36 x38).reader/\(gt x36 x38).reader <(x35.length:Int)) (ck ((0:Int)<=x38/\x38 <(x36.length:Int)) (ck ((0:Int)<=x38/\x38 <(x36.length:Int)) (ck (fits (x56.length +([(⟨gt x35 ((gt x36 x38).reader),x51,(gt x36 x38).time⟩:z8)]).length) 24) (ck (fits (x57.length +([(upd (upd (fun _=>(default:Ref)) 0 ((gt x36 x38).ref)) 1 x53)]).length) 32) (ck ((0:Int)<=x38/\x38 <(x36.length:Int)) (ck ((0:Int)<=x38/\x38 <(x36.length:Int)) (ck (fits (((x56++[(⟨gt x35 ((gt x36 x38).reader),x51,(gt x36 x38).time⟩:z8)])).length +([(⟨x51,gt x35 ((gt x36 x38).reader),W (0 -(gt x36 x38).time)⟩:z8)]).length) 24) (ck (fits (((x57++[(upd (upd (fun _=>(default:Ref)) 0 ((gt x36 x38).ref)) 1 x53)])).length +([(upd (upd (fun _=>(default:Ref)) 0 ((gt x36 x38).ref)) 1 x53)]).length) 32) (ck ((0:Int)<=x38/\x38 <(x36.length:Int)) (ck (fits ((((x56++[(⟨gt x35 ((gt x36 x38).reader),x51,(gt x36 x38).time⟩:z8)])++[(⟨x51,gt x35 ((gt x36 x38).reader),W (0 -(gt x36 x38).time)⟩:z8)])).length +([(⟨0,x51,1073741824⟩:z8)]).length) 24) (ck (fits ((((x57++[(upd (upd (fun _=>(default:Ref)) 0 ((gt x36 x38).ref)) 1 x53)])++[(upd (upd (fun _=>(default:Ref)) 0 ((gt x36 x38).ref)) 1 x53)])).length +([(upd (upd (fun _=>(default:Ref)) 0 ((gt x36 x38).ref)) 1 x53)]).length) 32) (ck ((0:Int)<=x38/\x38 <(x36.length:Int)) (ck (fits (((((x56++[(⟨gt x35 ((gt x36 x38).reader),x51,(gt x36 x38).time⟩:z8)])++[(⟨x51,gt x35 ((gt x36 x38).reader),W (0 -(gt x36 x38).time)⟩:z8)])++[(⟨0,x51,1073741824⟩:z8)])).length +([(⟨x51,0,0⟩:z8)]).length) 24) (ck (fits (((((x57++[(upd (upd (fun _=>(default:Ref)) 0 ((gt x36 x38).ref)) 1 x53)])++[(upd (upd (fun _=>(default:Ref)) 0 ((gt x36 x38).ref)) 1 x53)])++[(upd (upd (fun _=>(default:Ref)) 0 ((gt x36 x38).ref)) 1 x53)])).length +([(upd (upd (fun _=>(default:Ref)) 0 ((gt x36 x38).ref)) 1 x53)]).length) 32) (z6r φ (z3v φ k33 n62) x35 x36 x37 x38 x51 x39 x40 x41 x42 x43 x44 x45 x46 x47 x48 x49 x50 (W (x51+1)) x52 x53 x54 x55 (((((x56++[(⟨gt x35 ((gt x36 x38).reader),x51,(gt x36 x38).time⟩:z8)])++[(⟨x51,gt x35 ((gt x36 x38).reader),W (0 -(gt x36 x38).time)⟩:z8)])++[(⟨0,x51,1073741824⟩:z8)])++[(⟨x51,0,0⟩:z8)])) (((((x57++[(upd (upd (fun _=>(default:Ref)) 0 ((gt x36 x38).ref)) 1 x53)])++[(upd (upd (fun _=>(default:Ref)) 0 ((gt x36 x38).ref)) 1 x53)])++[(upd (upd (fun _=>(default:Ref)) 0 ((gt x36 x38).ref)) 1 x53)])++[(upd (upd (fun _=>(default:Ref)) 0 ((gt x36 x38).ref)) 1 x53)])) (x58++[(⟨x37,(gt x36 x38).place,x51,(gt x36 x38).ref,(gt x36 x38).covers⟩:z0h)]) x59 x60 x61))))))))))))))))))))))) else(k33 x39 x40 x41 (W (x42+1)) x54 x55 x51 x59 x60 x61 x56 x57 x58))
def z2u (φ:Nat):Nat->(List zd)->(List Int)->(List Int)->Int->Pool->Int->Int->(List z8)->(List (Nat->Ref))->(List z0h)->(List z8)->(List (Nat->Ref))->(List z0h)->Option (zn×Int×Unit)
 | 0,_,_,_,_,_,_,_,_,_,_,_,_,_=>none
 | n33+1,x20,x21,x22,x23,x24,x25,x26,x27,x28,x29,x30,x31,x32=>(if(decide ((x23:Int) <(x24.fleet.wagons.length:Int)))=true then((zbt φ x24 x20 x21 x23).bind fun y34=>(z3v φ (z2u φ n33) φ x22 y34.1 x23 0 x20 x21 x22 x23 x24 x22 x24 x20 x21 x23 y34.1 x23 x26 x24 (⟨0,0⟩:Ref) x24 x25 x30 x31 x32 x27 x28 x29)) else(if((decide ((512:Int)<x26))||(decide ((4096:Int) <(x30.length:Int))))=true then(some ((⟨0,([]:List z8),([]:List (Nat->Ref)),([]:List z0h)⟩:zn),2,())) else(some ((⟨x26,x30,x31,x32⟩:zn),0,()))))
def z2v (φ:Nat):Nat->(List zd)->(List Int)->(List Int)->Int->Pool->Int->Int->Ref->(List z8)->(List (Nat->Ref))->(List z0h)->(List z8)->(List (Nat->Ref))->(List z0h)->Option (zn×Int×Unit)
 | 0,_,_,_,_,_,_,_,_,_,_,_,_,_,_=>none
 | n19+1,x5,x6,x7,x8,x9,x10,x11,x12,x13,x14,x15,x16,x17,x18=>(if(decide ((x8:Int) <(x7.length:Int)))=true then(ck ((0:Int)<=x8/\x8 <(x7.length:Int)) (if(decide ((0:Int) <(gt x7 x8)))=true then(ck ((0:Int)<=x8/\x8 <(x7.length:Int)) (ck ((0:Int)<=x8/\x8 <(x9.readers.length:Int)) (ck (fits (x16.length +([(⟨0,gt x7 x8,W (0 -(gt x9.readers x8).low)⟩:z8)]).length) 24) (ck (fits (x17.length +([(upd (upd (fun _=>(default:Ref)) 0 x12) 1 x12)]).length) 32) (ck ((0:Int)<=x8/\x8 <(x7.length:Int)) (ck ((0:Int)<=x8/\x8 <(x9.readers.length:Int)) (ck (fits (((x16++[(⟨0,gt x7 x8,W (0 -(gt x9.readers x8).low)⟩:z8)])).length +([(⟨gt x7 x8,0,(gt x9.readers x8).high⟩:z8)]).length) 24) (ck (fits (((x17++[(upd (upd (fun _=>(default:Ref)) 0 x12) 1 x12)])).length +([(upd (upd (fun _=>(default:Ref)) 0 x12) 1 x12)]).length) 32) ((z2v φ n19) x5 x6 x7 (W (x8+1)) x9 x10 (W (x11+1)) x12 x13 x14 x15 (((x16++[(⟨0,gt x7 x8,W (0 -(gt x9.readers x8).low)⟩:z8)])++[(⟨gt x7 x8,0,(gt x9.readers x8).high⟩:z8)])) (((x17++[(upd (upd (fun _=>(default:Ref)) 0 x12) 1 x12)])++[(upd (upd (fun _=>(default:Ref)) 0 x12) 1 x12)])) x18))))))))) else((z2v φ n19) x5 x6 x7 (W (x8+1)) x9 x10 x11 x12 x13 x14 x15 x16 x17 x18))) else(z2u φ φ x5 x6 x7 0 x9 x10 x11 x13 x14 x15 x16 x17 x18))
def za8 (φ:Nat) (x1:Pool) (x2 :(List zd)):Option (zn×Int×Unit):=((z7c φ x1 x2).bind fun y3=>(if((y3.2.1:Int) !=0)=true then(some ((⟨0,([]:List z8),([]:List (Nat->Ref)),([]:List z0h)⟩:zn),y3.2.1,())) else((zdz φ x1 x2 y3.1).bind fun y4=>(z2v φ φ x2 y3.1 y4.1 0 x1 0 1 (⟨0,0⟩:Ref) ([]:List z8) ([]:List (Nat->Ref)) ([]:List z0h) ([]:List z8) ([]:List (Nat->Ref)) ([]:List z0h)))))
def z9k (φ:Nat):Fsp TV:=⟨[35,38],[.val 48,.val 0],fun z=>za8 φ z.1 z.2.1⟩
def z61 (φ:Nat):Nat->Int->(List z8)->Int->Option (Int×Unit)
 | 0,_,_,_=>none
 | n6+1,x3,x4,x5=>(if(decide ((x5:Int) <(x4.length:Int)))=true then(ck ((0:Int)<=x5/\x5 <(x4.length:Int)) (if((((((decide (((gt x4 x5).i:Int)<0))||(decide ((x3:Int)<=(gt x4 x5).i)))||(decide (((gt x4 x5).j:Int)<0)))||(decide ((x3:Int)<=(gt x4 x5).j)))||(decide (((gt x4 x5).w:Int) <(-1099511627776))))||(decide ((1099511627776:Int) <(gt x4 x5).w)))=true then(some (1,())) else((z61 φ n6) x3 x4 (W (x5+1))))) else(some (0,())))
def zeo (φ:Nat) (x1:Int) (x2 :(List z8)):Option (Int×Unit):=(if(decide ((x1:Int)<1))=true then(some (1,())) else(if((decide ((512:Int)<x1))||(decide ((4096:Int) <(x2.length:Int))))=true then(some (2,())) else(z61 φ φ x1 x2 0)))
def zdq (φ:Nat):Fsp TV:=⟨[0,43],[.val 0],fun z=>zeo φ z.1 z.2.1⟩
def z1s (φ:Nat) (k15 :(Int->(List z8)->Int->Int->(List Int)->(List Int)->Option ((List Int)×(List Int)×Int×Unit))):Nat->Int->(List z8)->Int->Int->Int->(List Int)->(List Int)->Option ((List Int)×(List Int)×Int×Unit)
 | 0,_,_,_,_,_,_,_=>none
 | n23+1,x16,x17,x18,x19,x20,x21,x22=>(if(decide ((x20:Int) <(x17.length:Int)))=true then(ck ((0:Int)<=x20/\x20 <(x17.length:Int)) (ck ((0:Int)<=(gt x17 x20).i/\(gt x17 x20).i <(x21.length:Int)) (ck ((0:Int)<=(gt x17 x20).j/\(gt x17 x20).j <(x21.length:Int)) (if(decide (((W ((gt x21 ((gt x17 x20).i)) +(gt x17 x20).w)):Int) <(gt x21 ((gt x17 x20).j))))=true then(ck ((0:Int)<=(gt x17 x20).i/\(gt x17 x20).i <(x21.length:Int)) (ck ((0:Int)<=(gt x17 x20).j/\(gt x17 x20).j <(x21.length:Int)) (ck ((0:Int)<=(gt x17 x20).j/\(gt x17 x20).j <(x22.length:Int)) ((z1s φ k15 n23) x16 x17 x20 x19 (W (x20+1)) ((zw x21 ((gt x17 x20).j) ((W ((gt x21 ((gt x17 x20).i)) +(gt x17 x20).w))))) (zw x22 ((gt x17 x20).j) x20))))) else((z1s φ k15 n23) x16 x17 x18 x19 (W (x20+1)) x21 x22))))) else(k15 x16 x17 x18 (W (x19+1)) x21 x22))
def z2j (φ:Nat):Nat->Int->(List z8)->Int->Int->(List Int)->(List Int)->Option ((List Int)×(List Int)×Int×Unit)
 | 0,_,_,_,_,_,_=>none
 | n15+1,x9,x10,x11,x12,x13,x14=>(if((decide ((x12:Int)<x9))&&(decide ((0:Int)<=x11)))=true then(z1s φ (z2j φ n15) φ x9 x10 (-1) x12 0 x13 x14) else(some (x13,x14,x11,())))
def z4a (φ:Nat):Nat->Int->(List z8)->Int->(List Int)->(List Int)->Option ((List Int)×(List Int)×Int×Unit)
 | 0,_,_,_,_,_=>none
 | n8+1,x3,x4,x5,x6,x7=>(if(decide ((x5:Int)<x3))=true then(ck ((0:Int)<=x5/\x5 <(x7.length:Int)) ((z4a φ n8) x3 x4 (W (x5+1)) x6 (zw x7 x5 (-1)))) else(z2j φ φ x3 x4 0 0 x6 x7))
def zcz (φ:Nat) (x1:Int) (x2 :(List z8)):Option ((List Int)×(List Int)×Int×Unit):=(ck (z0o x1 8) (ck (z0o x1 8) (z4a φ φ x1 x2 0 (List.replicate (x1:Int).toNat (default:Int)) (List.replicate (x1:Int).toNat (default:Int)))))
def zfd (φ:Nat):Fsp TV:=⟨[0,43],[.val 5,.val 5,.val 0],fun z=>zcz φ z.1 z.2.1⟩
def zah (φ:Nat) (x1:Int) (x2 :(List z8)):Option ((List Int)×Int×Unit):=((zeo φ x1 x2).bind fun y3=>(if((y3.1:Int) !=0)=true then(some (([]:List Int),y3.1,())) else((zcz φ x1 x2).bind fun y4=>(if(decide ((0:Int)<=y4.2.2.1))=true then(some (([]:List Int),230,())) else(some (y4.1,0,()))))))
def z9p (φ:Nat):Fsp TV:=⟨[0,43],[.val 5,.val 0],fun z=>zah φ z.1 z.2.1⟩
def z2s (φ:Nat) (k12 :((List z8)->Int->Bool->(List Int)->(List Bool)->Option (Int×Bool×Int×Unit))):Nat->(List z8)->Int->Bool->Int->(List Int)->(List Bool)->Option (Int×Bool×Int×Unit)
 | 0,_,_,_,_,_,_=>none
 | n19+1,x13,x14,x15,x16,x17,x18=>(if(decide ((x16:Int) <(x13.length:Int)))=true then(ck ((0:Int)<=x16/\x16 <(x13.length:Int)) (ck ((0:Int)<=(gt x13 x16).i/\(gt x13 x16).i <(x18.length:Int)) (ck (((gt x18 ((gt x13 x16).i))=true)->(0:Int)<=(gt x13 x16).j/\(gt x13 x16).j <(x18.length:Int)) (ck (((gt x18 ((gt x13 x16).i))=true/\(!(gt x18 ((gt x13 x16).j)))=false)->(0:Int)<=(gt x13 x16).i/\(gt x13 x16).i <(x17.length:Int)) (ck (((gt x18 ((gt x13 x16).i))=true/\(!(gt x18 ((gt x13 x16).j)))=false)->(0:Int)<=(gt x13 x16).j/\(gt x13 x16).j <(x17.length:Int)) (if((gt x18 ((gt x13 x16).i))&&((!(gt x18 ((gt x13 x16).j)))||(decide (((W ((gt x17 ((gt x13 x16).i)) +(gt x13 x16).w)):Int) <(gt x17 ((gt x13 x16).j))))))=true then(ck ((0:Int)<=(gt x13 x16).i/\(gt x13 x16).i <(x17.length:Int)) (ck ((0:Int)<=(gt x13 x16).j/\(gt x13 x16).j <(x17.length:Int)) (ck ((0:Int)<=(gt x13 x16).j/\(gt x13 x16).j <(x18.length:Int)) ((z2s φ k12 n19) x13 x14 true (W (x16+1)) ((zw x17 ((gt x13 x16).j) ((W ((gt x17 ((gt x13 x16).i)) +(gt x13 x16).w))))) (zw x18 ((gt x13 x16).j) true))))) else((z2s φ k12 n19) x13 x14 x15 (W (x16+1)) x17 x18))))))) else(k12 x13 x14 x15 x17 x18))
def z40 (φ:Nat):Nat->(List z8)->Int->Bool->(List Int)->(List Bool)->Option (Int×Bool×Int×Unit)
 | 0,_,_,_,_,_=>none
 | n12+1,x7,x8,x9,x10,x11=>(if x9=true then(z2s φ (z40 φ n12) φ x7 x8 false 0 x10 x11) else(ck ((0:Int)<=x8/\x8 <(x11.length:Int)) (if(!(gt x11 x8))=true then(some (0,false,0,())) else(ck ((0:Int)<=x8/\x8 <(x10.length:Int)) (some ((gt x10 x8),true,0,()))))))
def zjg (φ:Nat) (x1:Int) (x2 :(List z8)) (x3:Int) (x4:Int):Option (Int×Bool×Int×Unit):=((zeo φ x1 x2).bind fun y5=>(if((y5.1:Int) !=0)=true then(some (0,false,y5.1,())) else(if((((decide ((x3:Int)<0))||(decide ((x1:Int)<=x3)))||(decide ((x4:Int)<0)))||(decide ((x1:Int)<=x4)))=true then(some (0,false,1,())) else((zah φ x1 x2).bind fun y6=>(if((y6.2.1:Int) !=0)=true then(some (0,false,y6.2.1,())) else(ck (z0o x1 8) (ck (z0o x1 1) (ck ((0:Int)<=x3/\x3 <((List.replicate (x1:Int).toNat (default:Bool)).length:Int)) (z40 φ φ x2 x4 true (List.replicate (x1:Int).toNat (default:Int)) (zw (List.replicate (x1:Int).toNat (default:Bool)) x3 true))))))))))
def zhz (φ:Nat):Fsp TV:=⟨[0,43,0,0],[.val 0,.val 2,.val 0],fun z=>zjg φ z.1 z.2.1 z.2.2.1 z.2.2.2.1⟩
def z2e (φ:Nat) (x1:zn) (x2:Int) (x3:Int):Option (Int×Unit):=((zjg φ x1.vars x1.bounds x2 x3).bind fun y4=>(some (y4.1,())))
def zc0 (φ:Nat):Fsp TV:=⟨[48,0,0],[.val 0],fun z=>z2e φ z.1 z.2.1 z.2.2.1⟩
def z3z (φ:Nat):Nat->Int->zn->(List zk)->Option ((List zk)×Int×Unit)
 | 0,_,_,_=>none
 | n8+1,x5,x6,x7=>(if(decide ((x5:Int) <(x6.events.length:Int)))=true then(ck ((0:Int)<=x5/\x5 <(x6.events.length:Int)) ((z2e φ x6 ((gt x6.events x5).var) 0).bind fun y9=>((z2e φ x6 0 ((gt x6.events x5).var)).bind fun y10=>(ck (fits (x7.length +([(⟨(gt x6.events x5).wagon,(gt x6.events x5).place,(gt x6.events x5).ref,(gt x6.events x5).stay,W (0-y9.1),y10.1⟩:zk)]).length) 56) ((z3z φ n8) (W (x5+1)) x6 (x7++[(⟨(gt x6.events x5).wagon,(gt x6.events x5).place,(gt x6.events x5).ref,(gt x6.events x5).stay,W (0-y9.1),y10.1⟩:zk)])))))) else(some (x7,0,())))
def z8l (φ:Nat) (x1:Pool) (x2 :(List zd)):Option ((List zk)×Int×Unit):=((za8 φ x1 x2).bind fun y3=>(if((y3.2.1:Int) !=0)=true then(some (([]:List zk),y3.2.1,())) else((zah φ y3.1.vars y3.1.bounds).bind fun y4=>(if((y4.2.1:Int) !=0)=true then(some (([]:List zk),y4.2.1,())) else(z3z φ φ 0 y3.1 ([]:List zk))))))
def z7w (φ:Nat):Fsp TV:=⟨[35,38],[.val 51,.val 0],fun z=>z8l φ z.1 z.2.1⟩
def ze2 (φ:Nat) (x1:Pool) (x2:Int) (x3:Int):Option (Int×Unit):=((z6y φ x1).bind fun y4=>(if((y4.1:Int) !=0)=true then(some (y4.1,())) else(if((((decide ((x2:Int)<0))||(decide (((x1.fleet.wagons.length:Int):Int)<=x2)))||(decide ((x3:Int)<0)))||(decide ((1073741824:Int)<x3)))=true then(some (1,())) else(some (0,())))))
def zds (φ:Nat):Fsp TV:=⟨[35,0,0],[.val 0],fun z=>ze2 φ z.1 z.2.1 z.2.2.1⟩
def z6o (φ:Nat):Nat->(List zk)->Int->Int->(List zk)->Option ((List zk)×Unit)
 | 0,_,_,_,_=>none
 | n7+1,x3,x4,x5,x6=>(if(decide ((x5:Int) <(x3.length:Int)))=true then(ck ((0:Int)<=x5/\x5 <(x3.length:Int)) (if(((gt x3 x5).wagon:Int)==x4)=true then(ck ((0:Int)<=x5/\x5 <(x3.length:Int)) (ck (fits (x6.length +([(gt x3 x5)]).length) 56) ((z6o φ n7) x3 x4 (W (x5+1)) (x6++[(gt x3 x5)])))) else((z6o φ n7) x3 x4 (W (x5+1)) x6))) else(some (x6,())))
def zpr (φ:Nat) (x1 :(List zk)) (x2:Int):Option ((List zk)×Unit):=(z6o φ φ x1 x2 0 ([]:List zk))
def znr (φ:Nat):Fsp TV:=⟨[51,0],[.val 51],fun z=>zpr φ z.1 z.2.1⟩
def z3k (φ:Nat):Nat->Int->(List zk)->Int->Int->Option (Int×Bool×Int×Unit)
 | 0,_,_,_,_=>none
 | n12+1,x8,x9,x10,x11=>(if(decide ((x11:Int) <(x9.length:Int)))=true then(ck ((0:Int)<=x11/\x11 <(x9.length:Int)) (if(gt x9 x11).stay=true then((z3k φ n12) x8 x9 x10 (W (x11+1))) else(ck ((0:Int)<=x10/\x10 <(x9.length:Int)) (ck (((decide (((gt x9 x10).late:Int)<=x8))=true)->(0:Int)<=x11/\x11 <(x9.length:Int)) (if((decide (((gt x9 x10).late:Int)<=x8))&&(decide ((x8:Int)<=(gt x9 x11).early)))=true then(ck ((0:Int)<=x10/\x10 <(x9.length:Int)) (some ((gt x9 x10).place,true,0,()))) else((z3k φ n12) x8 x9 (W (x11+1)) (W (x11+1)))))))) else(some (0,false,0,())))
def zdb (φ:Nat) (x1:Pool) (x2 :(List zd)) (x3:Int) (x4:Int):Option (Int×Bool×Int×Unit):=((ze2 φ x1 x3 x4).bind fun y5=>(if((y5.1:Int) !=0)=true then(some (0,false,y5.1,())) else((z8l φ x1 x2).bind fun y6=>(if((y6.2.1:Int) !=0)=true then(some (0,false,y6.2.1,())) else((zpr φ y6.1 x3).bind fun y7=>(z3k φ φ x4 y7.1 0 0))))))
def zep (φ:Nat):Fsp TV:=⟨[35,38,0,0],[.val 0,.val 2,.val 0],fun z=>zdb φ z.1 z.2.1 z.2.2.1 z.2.2.2.1⟩
def z7h (φ:Nat) (x18:Int) (x19:Int) (x20:Int) (x21:Int) (x22:zn):Option (Bool×Unit):=(ck ((((decide ((x18:Int)<0))||(decide ((x19:Int)<0)))=false)->(0:Int)<=x18/\x18 <(x22.events.length:Int)) (ck ((((decide ((x18:Int)<0))||(decide ((x19:Int)<0)))=false)->(0:Int)<=x19/\x19 <(x22.events.length:Int)) ((zp (default,()) (((decide ((x18:Int)<0))||(decide ((x19:Int)<0)))=false) (z2e φ x22 ((gt x22.events x18).var) ((gt x22.events x19).var))).bind fun y24=>(some ((((decide ((x18:Int)<0))||(decide ((x19:Int)<0)))||(decide (((W (x20+x21)):Int)<=y24.1))),())))))
def z73 (φ:Nat) (x8 :(List zk)) (x9:Int) (x10:Int) (x11:Int) (x12:Int) (x13:Int) (x14:Int) (x15:Pool) (x16:zn):Option (Bool×Unit):=(if(decide ((0:Int)<=x10))=true then(ck ((0:Int)<=x10/\x10 <(x8.length:Int)) ((z4d φ x15.network x11 ((gt x8 x10).place)).bind fun y25=>(ck ((((y25.2.1:Int) !=0)=false)->(0:Int)<=x10/\x10 <(x8.length:Int)) (if(((y25.2.1:Int) !=0)||(decide (((gt x8 x10).late:Int) <(W (x12+y25.1)))))=true then(some (false,())) else(z7h φ x9 x10 x13 y25.1 x16))))) else(z7h φ x9 x10 x13 x14 x16))
def z7x (φ:Nat) (x1:Pool) (x2:zn) (x3 :(List zk)) (x4:Int) (x5:Int) (x6:Int) (x7:Int):Option (Bool×Unit):=(if(decide ((0:Int)<=x4))=true then(ck ((0:Int)<=x4/\x4 <(x3.length:Int)) ((z4d φ x1.network ((gt x3 x4).place) x6).bind fun y26=>(ck ((((y26.2.1:Int) !=0)=false)->(0:Int)<=x4/\x4 <(x3.length:Int)) (ck (((((y26.2.1:Int) !=0)||(decide (((W (x7-y26.1)):Int) <(gt x3 x4).early)))=false/\(decide ((0:Int)<=x5))=true)->(0:Int)<=x4/\x4 <(x3.length:Int)) (ck (((((y26.2.1:Int) !=0)||(decide (((W (x7-y26.1)):Int) <(gt x3 x4).early)))=false/\((decide ((0:Int)<=x5))&&(gt x3 x4).stay)=true)->(0:Int)<=x4/\x4 <(x3.length:Int)) (if((((y26.2.1:Int) !=0)||(decide (((W (x7-y26.1)):Int) <(gt x3 x4).early)))||(((decide ((0:Int)<=x5))&&(gt x3 x4).stay)&&((x6:Int) !=(gt x3 x4).place)))=true then(some (false,())) else(z73 φ x3 x4 x5 x6 x7 y26.1 0 x1 x2))))))) else(z73 φ x3 x4 x5 x6 x7 0 0 x1 x2))
def zne (φ:Nat):Fsp TV:=⟨[35,48,51,0,0,0,0],[.val 2],fun z=>z7x φ z.1 z.2.1 z.2.2.1 z.2.2.2.1 z.2.2.2.2.1 z.2.2.2.2.2.1 z.2.2.2.2.2.2.1⟩
def z8u (φ:Nat):Nat->(List zk)->Int->Int->Int->Int->Pool->zn->Option (Bool×Unit)
 | 0,_,_,_,_,_,_,_=>none
 | n17+1,x10,x11,x12,x13,x14,x15,x16=>(if(decide (((W (x14+1)):Int)<x11))=true then((z7x φ x15 x16 x10 x14 (W (x14+1)) x12 x13).bind fun y18=>(if y18.1=true then(some (true,())) else((z8u φ n17) x10 x11 x12 x13 (W (x14+1)) x15 x16))) else(some (false,())))
def zov (φ:Nat) (x1:Pool) (x2:zn) (x3 :(List zk)) (x4:Int) (x5:Int) (x6:Int) (x7:Int):Option (Bool×Unit):=((zp (default,()) (((x4:Int)==x5)=false) (z7x φ x1 x2 x3 (-1) x4 x6 x7)).bind fun y8=>((zp (default,()) ((((x4:Int)==x5)||y8.1)=false) (z7x φ x1 x2 x3 (W (x5-1)) (-1) x6 x7)).bind fun y9=>(if((((x4:Int)==x5)||y8.1)||y9.1)=true then(some (true,())) else(z8u φ φ x3 x5 x6 x7 x4 x1 x2))))
def znq (φ:Nat):Fsp TV:=⟨[35,48,51,0,0,0,0],[.val 2],fun z=>zov φ z.1 z.2.1 z.2.2.1 z.2.2.2.1 z.2.2.2.2.1 z.2.2.2.2.2.1 z.2.2.2.2.2.2.1⟩
def z16 (φ:Nat):Nat->Int->(List zk)->Int->Int->Int->Pool->zn->(List Int)->Option ((List Int)×Int×Unit)
 | 0,_,_,_,_,_,_,_,_=>none
 | n31+1,x23,x24,x25,x26,x27,x28,x29,x30=>(if(decide ((x27:Int) <(x28.network.places.length:Int)))=true then((zov φ x28 x29 x24 x25 x26 x27 x23).bind fun y32=>(if y32.1=true then(ck (fits (x30.length +([x27]).length) 8) ((z16 φ n31) x23 x24 x25 x26 (W (x27+1)) x28 x29 (x30++[x27]))) else((z16 φ n31) x23 x24 x25 x26 (W (x27+1)) x28 x29 x30))) else(some (x30,0,())))
def z31 (φ:Nat):Nat->Int->Int->(List zk)->Int->Int->Pool->zn->Option ((List Int)×Int×Unit)
 | 0,_,_,_,_,_,_,_=>none
 | n22+1,x15,x16,x17,x18,x19,x20,x21=>(ck (((decide ((x19:Int) <(x17.length:Int)))=true)->(0:Int)<=x19/\x19 <(x17.length:Int)) (if((decide ((x19:Int) <(x17.length:Int)))&&(((gt x17 x19).wagon:Int)==x15))=true then((z31 φ n22) x15 x16 x17 x18 (W (x19+1)) x20 x21) else(z16 φ φ x16 x17 x18 x19 0 x20 x21 ([]:List Int))))
def z2z (φ:Nat):Nat->Int->Int->(List zk)->Int->Pool->zn->Option ((List Int)×Int×Unit)
 | 0,_,_,_,_,_,_=>none
 | n14+1,x8,x9,x10,x11,x12,x13=>(ck (((decide ((x11:Int) <(x10.length:Int)))=true)->(0:Int)<=x11/\x11 <(x10.length:Int)) (if((decide ((x11:Int) <(x10.length:Int)))&&(decide (((gt x10 x11).wagon:Int)<x8)))=true then((z2z φ n14) x8 x9 x10 (W (x11+1)) x12 x13) else(z31 φ φ x8 x9 x10 x11 x11 x12 x13)))
def zb3 (φ:Nat) (x1:Pool) (x2 :(List zd)) (x3:Int) (x4:Int):Option ((List Int)×Int×Unit):=((ze2 φ x1 x3 x4).bind fun y5=>(if((y5.1:Int) !=0)=true then(some (([]:List Int),y5.1,())) else((z8l φ x1 x2).bind fun y6=>(if((y6.2.1:Int) !=0)=true then(some (([]:List Int),y6.2.1,())) else((za8 φ x1 x2).bind fun y7=>(z2z φ φ x3 x4 y6.1 0 x1 y7.1))))))
def zcf (φ:Nat):Fsp TV:=⟨[35,38,0,0],[.val 5,.val 0],fun z=>zb3 φ z.1 z.2.1 z.2.2.1 z.2.2.2.1⟩
def z89 (φ:Nat):Nat->Int->Int->(List zk)->Option ((List zk)×Int×Unit)
 | 0,_,_,_=>none
 | n7+1,x4,x5,x6=>(if(decide ((x5:Int) <(x6.length:Int)))=true then(ck ((0:Int)<=x5/\x5 <(x6.length:Int)) (ck ((0:Int)<=x5/\x5 <(x6.length:Int)) ((z89 φ n7) x4 (W (x5+1)) (zw x6 x5 (⟨(gt x6 x5).wagon,(gt x6 x5).place,(gt x6 x5).ref,(gt x6 x5).stay,(gt x6 x5).early,(gt x6 x5).early⟩:zk))))) else(some (x6,x4,())))
def zaf (φ:Nat):Nat->Int->Int->(List zk)->Option ((List zk)×Int×Unit)
 | 0,_,_,_=>none
 | n12+1,x9,x10,x11=>(if(decide ((x10:Int) <(x11.length:Int)))=true then(ck ((0:Int)<=x10/\x10 <(x11.length:Int)) (ck ((0:Int)<=x10/\x10 <(x11.length:Int)) ((zaf φ n12) x9 (W (x10+1)) (zw x11 x10 (⟨(gt x11 x10).wagon,(gt x11 x10).place,(gt x11 x10).ref,(gt x11 x10).stay,(gt x11 x10).early,(gt x11 x10).early⟩:zk))))) else(some (x11,x9,())))
def z3j (φ:Nat):Nat->Int->Int->(List zk)->Option ((List zk)×Int×Unit)
 | 0,_,_,_=>none
 | n22+1,x19,x20,x21=>(if(decide ((x20:Int) <(x21.length:Int)))=true then(ck ((0:Int)<=x20/\x20 <(x21.length:Int)) (ck ((0:Int)<=x20/\x20 <(x21.length:Int)) ((z3j φ n22) x19 (W (x20+1)) (zw x21 x20 (⟨(gt x21 x20).wagon,(gt x21 x20).place,(gt x21 x20).ref,(gt x21 x20).stay,(gt x21 x20).early,(gt x21 x20).early⟩:zk))))) else(some (x21,x19,())))
def z29 (φ:Nat):Nat->Int->zn->(List zk)->Option ((List zk)×Int×Unit)
 | 0,_,_,_=>none
 | n16+1,x13,x14,x15=>(if(decide ((x13:Int) <(x14.events.length:Int)))=true then(ck ((0:Int)<=x13/\x13 <(x14.events.length:Int)) ((z2e φ x14 ((gt x14.events x13).var) 0).bind fun y17=>((z2e φ x14 0 ((gt x14.events x13).var)).bind fun y18=>(ck (fits (x15.length +([(⟨(gt x14.events x13).wagon,(gt x14.events x13).place,(gt x14.events x13).ref,(gt x14.events x13).stay,W (0-y17.1),y18.1⟩:zk)]).length) 56) ((z29 φ n16) (W (x13+1)) x14 (x15++[(⟨(gt x14.events x13).wagon,(gt x14.events x13).place,(gt x14.events x13).ref,(gt x14.events x13).stay,W (0-y17.1),y18.1⟩:zk)])))))) else(z3j φ φ 0 0 x15))
def zdk (φ:Nat) (x1:Pool) (x2 :(List zd)):Option ((List zk)×Int×Unit):=((za8 φ x1 x2).bind fun y3=>(if((y3.2.1:Int) !=0)=true then(z89 φ φ y3.2.1 0 ([]:List zk)) else((zah φ y3.1.vars y3.1.bounds).bind fun y8=>(if((y8.2.1:Int) !=0)=true then(zaf φ φ y8.2.1 0 ([]:List zk)) else(z29 φ φ 0 y3.1 ([]:List zk))))))
def zff (φ:Nat):Fsp TV:=⟨[35,38],[.val 51,.val 0],fun z=>zdk φ z.1 z.2.1⟩
def z0t (φ:Nat) (x1:Pool) (x2 :(List zd)) (x3:Int) (x4:Int):Option (Bool×Unit):=((zmh φ).bind fun y5=>(if(!y5.1)=true then(some (false,())) else((zoa φ x1 x2).bind fun y6=>(if(!y6.1)=true then(some (true,())) else((zz φ x1 x2).bind fun y7=>((z8l φ x1 x2).bind fun y8=>((zc φ x1 x2 x3 x4).bind fun y9=>((zdb φ x1 x2 x3 x4).bind fun y10=>((z43 φ x1 x2 x3 x4).bind fun y11=>((zb3 φ x1 x2 x3 x4).bind fun y12=>((z6u φ x1 x2).bind fun y13=>((zdk φ x1 x2).bind fun y14=>((z37 φ y7.1 y8.1).bind fun y15=>(if(((((!y15.1)||((y7.2.1:Int) !=y8.2.1))||((y9.1:Int) !=y10.1))||(y9.2.1 !=y10.2.1))||((y9.2.2.1:Int) !=y10.2.2.1))=true then(some (false,())) else((z7u φ y11.1 y12.1).bind fun y16=>((zp (default,()) ((y16.1&&((y11.2.1:Int)==y12.2.1))=true) (z37 φ y13.1 y14.1)).bind fun y17=>(some ((((y16.1&&((y11.2.1:Int)==y12.2.1))&&y17.1)&&((y13.2.1:Int)==y14.2.1)),()))))))))))))))))))
def z10 (φ:Nat):Fsp TV:=⟨[35,38,0,0],[.val 2],fun z=>z0t φ z.1 z.2.1 z.2.2.1 z.2.2.2.1⟩
end Px
end
