/- A part of the proof of emptiesProves_holds. Conditions: none. -/
import Derived.Test.YtcofccdjgfgeeaaKzag
set_option linter.unusedVariables false
set_option linter.unusedSimpArgs false
section
namespace Px
open Go
set_option maxRecDepth 100000
inductive Walk (E:List Swap) (a:Nat):List Nat->Nat->Int->Prop
 | nil:Walk E a [] a 0
 | step {vs:List Nat} {x:Int} {s:Swap} : Walk E a vs s.wanted.toNat x->s∈E->Walk E a (s.wanted.toNat::vs) s.given.toNat (x+s.cost)
def EOk (n:Nat) (E:List Swap):Prop:=∀ s∈E,0<=s.wanted/\s.wanted<n/\0<=s.given/\s.given<n/\0<=s.cost/\s.cost<=1000000000
theorem Walk.lt {E:List Swap} {a n:Nat} (hE:EOk n E) (ha:a<n) {vs:List Nat} {v:Nat} {x:Int} (h:Walk E a vs v x):v<n/\(∀ u∈vs,u<n)/\0<=x:=by
 induction h with
 | nil=>exact⟨ha,by simp,by omega⟩
 | step h hs ih=>
  have:=hE _ hs
  refine⟨by omega,?_,by omega⟩
  intro u hu
  rcases w09.1 hu with h | h
  ·omega
  ·exact ih.2.1 u h
theorem Walk.cut {E:List Swap} {a n:Nat} (hE:EOk n E) {vs:List Nat} {u:Nat} {x:Int} (h:Walk E a vs u x) (hnd :(u::vs).Nodup) :
  ∀ v∈u::vs,∃ vs' x',Walk E a vs' v x'/\x'<=x/\(v::vs').Nodup:=by
 induction h with
 | nil=>
  intro v hv
  have:v=a:=by simpa using hv
  subst this
  exact⟨[],0,.nil,by omega,by simp⟩
 | @step vs x s h hs ih=>
  intro v hv
  have hc:=hE _ hs
  rcases w09.1 hv with e | e
  ·subst e
   exact⟨_,_,.step h hs,w1r _,hnd⟩
  ·obtain⟨vs',x',h1,h2,h3⟩:=ih (w15.1 hnd).2 v e
   exact⟨vs',x',h1,by omega,h3⟩
theorem Walk.simple {E:List Swap} {a n:Nat} (hE:EOk n E) {vs:List Nat} {v:Nat} {x:Int} (h:Walk E a vs v x):∃ vs' x',Walk E a vs' v x'/\x'<=x/\(v::vs').Nodup:=by
 induction h with
 | nil=>exact⟨[],0,.nil,by omega,by simp⟩
 | @step vs x s h hs ih=>
  obtain⟨vs',x',h1,h2,h3⟩:=ih
  have hc:=hE _ hs
  by_cases hm:s.given.toNat∈s.wanted.toNat::vs'
  ·obtain⟨vs2,x2,k1,k2,k3⟩:=h1.cut hE h3 _ hm
   exact⟨vs2,x2,k1,by omega,k3⟩
  ·exact⟨_,_,.step h1 hs,by omega,w15.2 ⟨hm,h3⟩⟩
theorem zsn:∀(n:Nat) (l:List Nat),l.Nodup->(∀ x∈l,x<n)->l.length<=n
 | 0,l,_,h=>by
  cases l with
  | nil=>simp
  | cons x l=>have:=h x (by simp); omega
 | n+1,l,hd,h=>by
  have h1:=zsn n (l.erase n) (hd.erase n) (fun x hx=>by
   have:=(List.Nodup.mem_erase_iff hd).1 hx
   have:=h x this.2
   omega)
  have:l.length<=(l.erase n).length+1:=by
   by_cases hm:n∈l
   ·rw [List.length_erase_of_mem hm]; omega
   ·rw [List.erase_of_not_mem hm]; omega
  omega
theorem Walk.short {E:List Swap} {a n:Nat} (hE:EOk n E) (ha:a<n) {vs:List Nat} {v:Nat} {x:Int} (h:Walk E a vs v x):∃ vs' x',Walk E a vs' v x'/\x'<=x/\vs'.length+1<=n:=by
 obtain⟨vs',x',h1,h2,h3⟩:=h.simple hE
 obtain⟨g1,g2,_⟩:=h1.lt hE ha
 refine⟨vs',x',h1,h2,?_⟩
 have:=zsn n (v::vs') h3 (fun y hy=>by
  rcases w09.1 hy with e | e
  ·omega
  ·exact g2 y e)
 simpa using this
def z6d (c:Nat->Int) (s:Swap):Bool:=decide (0<=c s.wanted.toNat)&&(decide (c s.given.toNat<0)||decide (c s.wanted.toNat+s.cost<c s.given.toNat))
def z94 (c:Nat->Int) (s:Swap):Nat->Int:=bif z6d c s then upd c s.given.toNat (c s.wanted.toNat+s.cost) else c
def Down (c d:Nat->Int):Prop:=∀ v,0<=c v->0<=d v/\d v<=c v
theorem Down.refl (c:Nat->Int):Down c c:=fun v h=>⟨h,w1r _⟩
theorem Down.trans {c d e:Nat->Int} (h:Down c d) (g:Down d e):Down c e:=fun v hv=>⟨(g v (h v hv).1).1,Int.le_trans (g v (h v hv).1).2 (h v hv).2⟩
theorem zlf {α:Type} (f:Nat->α) (k:Nat) (x:α) (j:Nat):upd f k x j=if j=k then x else f j:=rfl
theorem znv {c:Nat->Int} {s:Swap} (hs:0<=s.cost):Down c (z94 c s):=by
 intro v hv
 unfold z94
 cases hb:z6d c s with
 | false=>exact⟨hv,w1r _⟩
 | true=>
  simp only [z6d,w02,w0q,decide_eq_true_eq] at hb
  simp only [cond_true,zlf]
  split
  ·rename_i e; subst e; omega
  ·exact⟨hv,w1r _⟩
theorem y6i {c:Nat->Int} {s:Swap} (hs:0<=s.cost) (hw:0<=c s.wanted.toNat):0<=z94 c s s.given.toNat/\z94 c s s.given.toNat<=c s.wanted.toNat+s.cost:=by
 unfold z94
 cases hb:z6d c s with
 | false=>
  simp only [z6d,Bool.and_eq_false_iff,w0v,decide_eq_false_iff_not] at hb
  simp only [cond_false]; omega
 | true=>simp only [cond_true,zlf,if_true]; omega
theorem zlv {c:Nat->Int} {s:Swap} (h:z6d c s=false):z94 c s=c:=by unfold z94; rw [h]; rfl
def zjg (E:List Swap) (c:Nat->Int):Nat->Int:=E.foldl z94 c
theorem zl2 {n:Nat} : ∀ {E:List Swap},EOk n E->∀ c,Down c (E.foldl z94 c)
 | [],_,c=>Down.refl c
 | s::E,h,c=>(znv (h s (by simp)).2.2.2.2.1).trans (zl2 (fun t ht=>h t (w08 _ ht)) _)
theorem y0t {n:Nat} : ∀ {E:List Swap},EOk n E->∀ c,∀ s∈E,0<=c s.wanted.toNat->0<=E.foldl z94 c s.given.toNat/\E.foldl z94 c s.given.toNat<=c s.wanted.toNat+s.cost
 | [],_,c,s,hs,_=>by simp at hs
 | t::E,h,c,s,hs,hw=>by
  have ht:=(h t (by simp)).2.2.2.2.1
  have hE:EOk n E:=fun t ht=>h t (w08 _ ht)
  rcases w09.1 hs with e | e
  ·subst e
   have h1:=y6i ht hw
   have h2:=zl2 hE (z94 c s) _ h1.1
   exact⟨h2.1,by simp only [w1h]; omega⟩
  ·have h1:=znv ht (c:=c) _ hw
   have h2:=y0t hE (z94 c t) s e h1.1
   exact⟨h2.1,by simp only [w1h]; omega⟩
def y05 (E:List Swap) (a:Nat) (c:Nat->Int):Prop:=∀ v,0<=c v->∃ vs,Walk E a vs v (c v)
theorem zv6 {E:List Swap} {a:Nat} {c:Nat->Int} {s:Swap} (hs:s∈E) (h:y05 E a c):y05 E a (z94 c s):=by
 intro v hv
 unfold z94 at hv ⊢
 cases hb:z6d c s with
 | false=>rw [hb] at hv; exact h v hv
 | true=>
  rw [hb] at hv
  simp only [z6d,w02,w0q,decide_eq_true_eq] at hb
  simp only [cond_true,zlf] at hv ⊢
  split
  ·rename_i e
   subst e
   obtain⟨vs,hw⟩:=h _ hb.1
   exact⟨_,.step hw hs⟩
  ·rename_i e
   rw [if_neg e] at hv
   exact h v hv
theorem zo7 {E:List Swap} {a:Nat} : ∀ {F:List Swap},(∀ s∈F,s∈E)->∀ c,y05 E a c->y05 E a (F.foldl z94 c)
 | [],_,c,h=>h
 | s::F,hF,c,h=>zo7 (fun t ht=>hF t (w08 _ ht)) _ (zv6 (hF s (by simp)) h)
def c0 (a:Nat):Nat->Int:=upd (fun j=>if j<32 then -1 else 0) a 0
def cRw (E:List Swap) (a:Nat):Nat->Nat->Int
 | 0=>fun j=>if j=a then 0 else -1
 | r+1=>zjg E (cRw E a r)
theorem zrp (E:List Swap) (a:Nat):∀ r,y05 E a (cRw E a r)
 | 0=>by
  intro v hv
  simp only [cRw] at hv ⊢
  split
  ·rename_i e; subst e; exact⟨[],.nil⟩
  ·rename_i e; rw [if_neg e] at hv; omega
 | r+1=>zo7 (fun s h=>h) _ (zrp E a r)
theorem y6x {E:List Swap} {n:Nat} (hE:EOk n E) (a:Nat) (r:Nat):Down (cRw E a r) (cRw E a (r+1)):=zl2 hE _
theorem zst {E:List Swap} {n:Nat} (hE:EOk n E) (a:Nat):∀(r:Nat) {vs:List Nat} {v:Nat} {x:Int},Walk E a vs v x->vs.length<=r->0<=cRw E a r v/\cRw E a r v<=x:=by
 intro r
 induction r with
 | zero=>
  intro vs v x h hl
  cases h with
  | nil=>simp [cRw]
  | step=>simp at hl
 | succ r ih=>
  intro vs v x h hl
  by_cases hr:vs.length<=r
  ·have h1:=ih h hr
   have h2:=y6x hE a r v h1.1
   exact⟨h2.1,by omega⟩
  ·cases h with
   | nil=>simp at hr
   | step h hs=>
    have h1:=ih h (by simpa using hl)
    have h2:=y0t hE (cRw E a r) _ hs h1.1
    exact⟨h2.1,by simp only [cRw,zjg]; omega⟩
def zdo (E:List Swap) (n a:Nat):Nat->Int:=cRw E a n
theorem ztv (E:List Swap) (n a:Nat) {v:Nat} (h:0<=zdo E n a v):∃ vs,Walk E a vs v (zdo E n a v):=zrp E a n v h
theorem znm {E:List Swap} {n a:Nat} (hE:EOk n E) (ha:a<n) {vs:List Nat} {v:Nat} {x:Int} (h:Walk E a vs v x):0<=zdo E n a v/\zdo E n a v<=x:=by
 obtain⟨vs',x',h1,h2,h3⟩:=h.short hE ha
 have:=zst hE a n h1 (by omega)
 exact⟨this.1,Int.le_trans this.2 h2⟩
theorem zzb {E:List Swap} {n a:Nat} (hE:EOk n E) (ha:a<n) {s:Swap} (hs:s∈E) (h:0<=zdo E n a s.wanted.toNat):0<=zdo E n a s.given.toNat/\zdo E n a s.given.toNat<=zdo E n a s.wanted.toNat+s.cost:=by
 obtain⟨vs,hw⟩:=ztv E n a h
 exact znm hE ha (.step hw hs)
theorem zum {E:List Swap} {n a:Nat} (hE:EOk n E) (ha:a<n):∀ s∈E,z6d (zdo E n a) s=false:=by
 intro s hs
 cases hb:z6d (zdo E n a) s with
 | false=>rfl
 | true=>
  simp only [z6d,w02,w0q,decide_eq_true_eq] at hb
  have:=zzb hE ha hs hb.1
  omega
theorem zfo:∀ {E:List Swap} {c:Nat->Int},(∀ s∈E,z6d c s=false)->E.foldl z94 c=c
 | [],c,_=>rfl
 | s::E,c,h=>by
  rw [w1h,zlv (h s (by simp))]
  exact zfo fun t ht=>h t (w08 _ ht)
theorem zsq {E:List Swap} {a r:Nat} (h:∀ s∈E,z6d (cRw E a r) s=false):∀ k,cRw E a (r+k)=cRw E a r
 | 0=>rfl
 | k+1=>by
  show zjg E (cRw E a (r+k))=_
  rw [zsq h k]
  exact zfo h
def BdC (B:Int) (c:Nat->Int):Prop:=∀ v,-1<=c v/\c v<=B
theorem y6c {n:Nat} {E:List Swap} (hE:EOk n E) {s:Swap} (hs:s∈E) {B:Int} {c:Nat->Int} (h:BdC B c):BdC (B+1000000000) (z94 c s):=by
 intro v
 have h1:=h v; have h2:=h s.wanted.toNat; have h3:=hE s hs
 unfold z94
 cases hb:z6d c s with
 | false=>simp only [cond_false]; omega
 | true=>
  simp only [z6d,w02,w0q,decide_eq_true_eq] at hb
  simp only [cond_true,zlf]
  split <;> omega
theorem ztw {n:Nat} {E:List Swap} (hE:EOk n E):∀ {F:List Swap},(∀ s∈F,s∈E)->∀ {B:Int} {c:Nat->Int},BdC B c->BdC (B+1000000000*F.length) (F.foldl z94 c)
 | [],_,B,c,h=>by simpa using h
 | s::F,hF,B,c,h=>by
  have:=ztw hE (F:=F) (fun t ht=>hF t (w08 _ ht)) (y6c hE (hF s (by simp)) h)
  rw [w1h]
  intro v
  have:=this v
  simp only [w0t]
  omega
theorem zwb {n:Nat} {E:List Swap} (hE:EOk n E) (hl:E.length<=1024) (a:Nat):∀ r:Nat,BdC (1024000000000*r) (cRw E a r)
 | 0=>by intro v; simp only [cRw]; split <;> omega
 | r+1=>by
  have:=ztw hE (F:=E) (fun s h=>h) (zwb hE hl a r)
  intro v
  have:=this v
  simp only [cRw,zjg]
  omega
end Px
end
section
namespace Px
open Go
set_option maxRecDepth 100000
def zic (a:Int) (T:Nat) (c:Nat->Int):List Swap:=(List.range T).filterMap fun i=>if 0<=c i then some ⟨a,i,c i⟩ else none
theorem zoa (a:Int) (i:Nat) (c:Nat->Int):zic a (i+1) c=if 0<=c i then zic a i c++[⟨a,i,c i⟩] else zic a i c:=by
 unfold zic
 rw [w16,List.filterMap_append]
 by_cases h:0<=c i
 ·simp [h]
 ·simp [h]
theorem zsg (a:Int) (T:Nat) (c:Nat->Int) :(zic a T c).length<=T:=by
 have:=List.length_filterMap_le (fun i=>if 0<=c i then some (⟨a,i,c i⟩:Swap) else none) (List.range T)
 simpa [zic] using this
theorem ycc {n:Nat} (h:n<=100000):fits n 24:=by unfold fits; omega
def z8r (x:z49) (a:Int):List Swap×Int×Unit:=
 if z1e x≠0 then([],z1e x,()) else if ¬(0<=a/\a<x.types.length) then([],90,()) else
 (zic a x.types.length (zdo x.swaps x.types.length a.toNat),0,())
theorem y80 {x:z49} (h:z1e x=0):EOk x.types.length x.swaps:=by
 intro s hs
 obtain⟨a1,a2,a3,a4,b1,b2,b3,b4⟩:=z4w h
 have:=b3 s hs
 simp only [zl9,w02,z64] at this
 omega
def zdy (p:Bool×(Nat->Int)) (s:Swap):Bool×(Nat->Int):=(p.1||z6d p.2 s,z94 p.2 s)
theorem zmw:∀(E:List Swap) (p:Bool×(Nat->Int)),(E.foldl zdy p).2=E.foldl z94 p.2
 | [],p=>rfl
 | s::E,p=>by rw [w1h,w1h,zmw E]; rfl
theorem zn4:∀(E:List Swap) (p:Bool×(Nat->Int)),(E.foldl zdy p).1=false->p.1=false/\∀ s∈E,z6d p.2 s=false
 | [],p,h=>⟨h,by simp⟩
 | s::E,p,h=>by
  rw [w1h] at h
  obtain⟨h1,h2⟩:=zn4 E _ h
  simp only [zdy,w0v] at h1
  rw [show (zdy p s).2=p.2 from zlv h1.2] at h2
  refine⟨h1.1,fun t ht=>?_⟩
  rcases w09.1 ht with e | e
  ·rw [e]; exact h1.2
  ·exact h2 t e
theorem zlh:∀(E:List Swap) (p:Bool×(Nat->Int)),(∀ s∈E,z6d p.2 s=false)->(E.foldl zdy p).1=p.1
 | [],p,h=>rfl
 | s::E,p,h=>by
  rw [w1h]
  have h1:=h s (by simp)
  have e:zdy p s=p:=by
   obtain⟨b,c⟩:=p
   simp only [zdy]
   rw [zlv h1,h1,Bool.or_false]
  rw [e]; exact zlh E p fun t ht=>h t (w08 _ ht)
theorem zjp {α β:Type} [Inhabited α] (f:β->α->β) (b:β) (l:List α) (i:Nat) (h:i<l.length) :(l.take (i+1)).foldl f b=f ((l.take i).foldl f b) (gt l (i:Int)):=by
 rw [z45 l i h,List.foldl_append]; rfl
theorem zll (φ:Nat) (x:z49) (a0:Int) (hE:EOk x.types.length x.swaps) (hT:x.types.length<=32) (hl:x.swaps.length<=1024) (k:Int->Bool->z49->(Nat->Int)->Option (List Swap×Int×Unit)) (r:Option (List Swap×Int×Unit)) {B:Int} (hB0:0<=B) (hB:B<=1000000000000000) (c:Nat->Int) (hc:BdC B c) (d:Nat->Int) (hd:∀ j<32,d j=c j)
  (hk:∀ d',(∀ j<32,d' j=zjg x.swaps c j)->k a0 (x.swaps.foldl zdy (false,c)).1 x d'=r) (n:Nat) (hn:x.swaps.length<n):z23 φ k n a0 false x.swaps (x.swaps.length:Int) 0 x d=r:=by
 refine z11 (fun n i (t:Bool×(Nat->Int))=>z23 φ k n a0 t.1 x.swaps (x.swaps.length:Int) i x t.2) x.swaps.length
  (fun i t=>t.1 =((x.swaps.take i).foldl zdy (false,c)).1/\∀ j<32,t.2 j =((x.swaps.take i).foldl zdy (false,c)).2 j) (fun o=>o=r) ?_ ?_ n (false,d) ⟨by simp,by simpa using hd⟩ hn
 ·intro n i t hi ⟨h1,h2⟩ hs
  have hW:W ((i:Int)+1) =(i:Int)+1:=W_id (by omega) (by omega)
  have hm:=za5 (l:=x.swaps) (i:=(i:Int)) (by omega) (by omega)
  have he:=hE _ hm
  have hbd:BdC (B+1000000000 *(x.swaps.take i).length) ((x.swaps.take i).foldl zdy (false,c)).2:=by
   rw [zmw]; exact ztw hE (fun s hs=>List.mem_of_mem_take hs) hc
  have hlen :(x.swaps.take i).length<=1024:=by rw [w11]; omega
  rw [z23,if_pos (by simp; omega),zb ⟨by omega,by omega⟩,zb ⟨by omega,by omega⟩,zb ⟨by omega,by omega⟩,zb (fun _=>⟨by omega,by omega⟩),zb (fun _=>⟨by omega,by omega⟩)]
  have hstep:=zjp zdy (false,c) x.swaps i hi
  generalize hp :(x.swaps.take i).foldl zdy (false,c)=p at *
  have ew:=h2 (gt x.swaps i).wanted.toNat (by omega)
  have eg:=h2 (gt x.swaps i).given.toNat (by omega)
  have bw:=hbd (gt x.swaps i).wanted.toNat
  rw [ew,eg,W_id (x:=p.2 (gt x.swaps i).wanted.toNat +(gt x.swaps i).cost) (by omega) (by omega)]
  have hbe :(decide (0<=p.2 (gt x.swaps i).wanted.toNat)&&(decide (p.2 (gt x.swaps i).given.toNat<0)||decide (p.2 (gt x.swaps i).wanted.toNat +(gt x.swaps i).cost<p.2 (gt x.swaps i).given.toNat)))=z6d p.2 (gt x.swaps i):=rfl
  rw [hbe]
  cases hb:z6d p.2 (gt x.swaps i) with
  | true=>
   rw [if_pos rfl,zb ⟨by omega,by omega⟩,hW]
   refine hs (true,upd t.2 (gt x.swaps i).given.toNat (p.2 (gt x.swaps i).wanted.toNat +(gt x.swaps i).cost)) ⟨by rw [hstep]; simp [zdy,hb],fun j hj=>?_⟩
   rw [hstep]
   simp only [zdy,z94,hb,cond_true,zlf]
   split
   ·rfl
   ·exact h2 j hj
  | false=>
   rw [if_neg (by simp),hW]
   refine hs (t.1,t.2) ⟨by rw [hstep]; simp [zdy,hb,h1],fun j hj=>?_⟩
   rw [hstep]
   simp only [zdy,z94,hb,cond_false]
   exact h2 j hj
 ·intro n t ⟨h1,h2⟩
  rw [w1l] at h1 h2
  rw [z23,if_neg (by simp),h1]
  refine hk _ fun j hj=>?_
  rw [h2 j hj,zmw]; rfl
theorem zr7 (φ:Nat) (x:z49) (hT:x.types.length<=32) (hφ:5000<φ) (a:Int) (c d:Nat->Int) (hd:∀ j<32,d j=c j):z1x φ φ a (x.types.length:Int) 0 d []=some (zic a x.types.length c,0,()):=by
 refine z11 (fun n i t=>z1x φ n a (x.types.length:Int) i d t) x.types.length (fun i t=>t=zic a i c) (fun o=>o=some (zic a x.types.length c,0,())) ?_ ?_ φ _ rfl (by omega)
 ·intro n i t hi ht hs
  have hW:W ((i:Int)+1) =(i:Int)+1:=W_id (by omega) (by omega)
  have hlen:=zsg a i c
  rw [z1x,if_pos (by simp; omega),zb ⟨by omega,by omega⟩,w1b,hd i (by omega)]
  by_cases h:0<=c i
  ·rw [if_pos (by simpa using h),zb ⟨by omega,by omega⟩,zb (ycc (by rw [ht]; simp; omega)),hW]
   exact hs _ (by rw [zoa,if_pos h,ht])
  ·rw [if_neg (by simpa using h),hW]
   exact hs _ (by rw [zoa,if_neg h,ht])
 ·intro n t ht
  rw [z1x,if_neg (by simp),ht]
theorem zyv (φ:Nat) (x:z49) (hE:EOk x.types.length x.swaps) (hT:x.types.length<=32) (hl:x.swaps.length<=1024) (a:Nat) (ha:a<x.types.length) (hφ:5000<φ) :
  ∀(m n i:Nat),x.types.length-i=m->i<=x.types.length->m+2<=n->∀ d,(∀ j<32,d j=cRw x.swaps a i j)->z1w φ n (a:Int) true x d=some (zic (a:Int) x.types.length (zdo x.swaps x.types.length a),0,()):=by
 intro m
 induction m with
 | zero=>
  intro n i hm hi hn d hd
  obtain⟨n,rfl⟩:∃ n',n=n'+2:=⟨n-2,by omega⟩
  have hi:i=x.types.length:=by omega
  subst hi
  rw [z1w,if_pos rfl]
  have hst:=zum hE ha
  have hb:=zwb hE hl a x.types.length
  refine zll φ x a hE hT hl _ _ (by omega) (by omega) _ hb d hd (fun d' hd'=>?_) φ (by omega)
  rw [zlh _ _ hst,z1w,if_neg (by simp)]
  refine zr7 φ x hT hφ a _ d' fun j hj=>?_
  rw [hd' j hj]
  show zjg x.swaps (zdo x.swaps x.types.length a) j=_
  unfold zjg
  rw [zfo hst]
 | succ m ih=>
  intro n i hm hi hn d hd
  obtain⟨n,rfl⟩:∃ n',n=n'+2:=⟨n-2,by omega⟩
  rw [z1w,if_pos rfl]
  have hb:=zwb hE hl a i
  refine zll φ x a hE hT hl _ _ (by omega) (by omega) _ hb d hd (fun d' hd'=>?_) φ (by omega)
  cases hch :(x.swaps.foldl zdy (false,cRw x.swaps a i)).1 with
  | true=>exact ih (n+1) (i+1) (by omega) (by omega) (by omega) d' hd'
  | false=>
   rw [z1w,if_neg (by simp)]
   refine zr7 φ x hT hφ a _ d' fun j hj=>?_
   have hst:=(zn4 _ _ hch).2
   have h1:=zsq hst (x.types.length-i)
   rw [show i +(x.types.length-i)=x.types.length by omega] at h1
   rw [hd' j hj]
   unfold zjg zdo
   rw [zfo hst,h1]
theorem znt (φ:Nat) (hφ:5000<φ) (x:z49) (a:Int):zcv φ x a=some (z8r x a):=by
 unfold zcv z8r
 rw [zby φ hφ,w03]
 by_cases h:z1e x=0
 ·obtain⟨a1,a2,a3,a4,b1,b2,b3,b4⟩:=z4w h
  rw [if_neg (by simp [h]),if_neg (fun e:z1e x≠0=>e h),W_id (by omega) (by omega),z1c,w03]
  by_cases hi:0<=a/\a<x.types.length
  ·rw [if_neg (by simp [bet]; omega),if_neg (fun e:¬(0<=a/\a <(x.types.length:Int))=>e hi)]
   refine z11 (fun n i t=>z4i φ n a i x t) 32 (fun i t=>∀ j<i,t j=-1) (fun o=>o=some (zic a x.types.length (zdo x.swaps x.types.length a.toNat),0,())) ?_ ?_ φ _ (by intro j hj; omega) (by omega)
   ·intro n i t hi2 ht hs
    rw [z4i,if_pos (by simp; omega),zb ⟨by omega,by omega⟩,W_id (by omega) (by omega)]
    refine hs _ fun j hj=>?_
    rw [zlf]
    split
    ·rfl
    ·rename_i e; rw [w1b] at e; exact ht j (by omega)
   ·intro n t ht
    rw [z4i,if_neg (by simp),zb ⟨by omega,by omega⟩]
    have ea:a =((a.toNat:Nat):Int):=by omega
    have hl:=zyv φ x (y80 h) a1 a3 a.toNat (by omega) hφ x.types.length φ 0 (by omega) (by omega) (by omega) (upd t a.toNat 0) (fun j hj=>by
     rw [zlf]
     simp only [cRw]
     split
     ·rfl
     ·exact ht j hj)
    rw [<- ea] at hl
    exact hl
  ·rw [if_pos (by simp [bet]; omega),if_pos (show ¬(0<=a/\a <(x.types.length:Int)) from hi)]
 ·rw [if_pos (by simp [h]),if_pos (show z1e x≠0 from h)]
def zi0 (x:z49) (a b:Int):Int×Int×Unit:=
 if z1e x≠0 then(0,z1e x,()) else if ¬((0<=a/\a<=63)/\0<=b/\b<=63) then(0,1,()) else
 match x.washes.find? (fun w=>(w.from_==a)&&(w.to==b)) with | some w=>(w.minutes,0,()) | none=>(0,0,())
theorem znq (φ:Nat) (hφ:5000<φ) (x:z49) (a b:Int):zah φ x a b=some (zi0 x a b):=by
 unfold zah zi0
 rw [zby φ hφ,w03]
 by_cases h:z1e x=0
 ·obtain⟨a1,a2,a3,a4,b1,b2,b3,b4⟩:=z4w h
  rw [if_neg (by simp [h]),if_neg (fun e:z1e x≠0=>e h)]
  simp only [z1c,w03]
  by_cases ha:0<=a/\a<=63
  ·rw [z64.2 ha,gz_t (by simp),w03]
   by_cases hb:0<=b/\b<=63
   ·rw [z64.2 hb,if_neg (by simp),if_neg (fun e=>e ⟨ha,hb⟩)]
    have key:∀(m n i:Nat),x.washes.length-i=m->i<=x.washes.length->m<n->(∀ j:Nat,j<i->((gt x.washes (j:Int)).from_==a&&(gt x.washes (j:Int)).to==b)=false)->
      z43 φ n x.washes (x.washes.length:Int) (i:Int) a b x=some (match (x.washes.drop i).find? (fun w=>(w.from_==a)&&(w.to==b)) with | some w=>(w.minutes,0,()) | none=>(0,0,())):=by
     intro m
     induction m with
     | zero=>
      intro n i hm hi hn hj
      obtain⟨n,rfl⟩:∃ n',n=n'+1:=⟨n-1,by omega⟩
      rw [z43,if_neg (by simp; omega),w28 (by omega)]; rfl
     | succ m ih=>
      intro n i hm hi hn hj
      obtain⟨n,rfl⟩:∃ n',n=n'+1:=⟨n-1,by omega⟩
      have hi':i<x.washes.length:=by omega
      have e:x.washes.drop i=gt x.washes (i:Int)::x.washes.drop (i+1):=by
       rw [z4p hi']; exact List.drop_eq_getElem_cons hi'
      rw [z43,if_pos (by simp; omega),zb ⟨by omega,by omega⟩,e,List.find?_cons]
      show (some _).bind _=_
      rw [w03]
      cases hc :((gt x.washes (i:Int)).from_==a&&(gt x.washes (i:Int)).to==b) with
      | true=>rw [if_pos rfl,if_neg (by simp),zb ⟨by omega,by omega⟩]
      | false=>
       rw [if_neg (by simp),W_id (by omega) (by omega),show (i:Int)+1 =((i+1:Nat):Int) by omega]
       exact ih n (i+1) (by omega) (by omega) (by omega) fun j hj'=>by
        by_cases e:j=i
        ·rw [e]; exact hc
        ·exact hj j (by omega)
    have:=key x.washes.length φ 0 (by omega) (by omega) (by omega) (fun j hj=>by omega)
    rw [List.drop_zero] at this
    exact this
   ·have e:bet b 0 63=false:=by rw [<- Bool.not_eq_true,z64]; exact hb
    rw [e,if_pos (by simp),if_pos (fun h=>hb h.2)]
  ·have e:bet a 0 63=false:=by rw [<- Bool.not_eq_true,z64]; exact ha
   rw [e,gz_f (by simp),w03,if_pos (by simp),if_pos (fun h=>ha h.1)]
 ·rw [if_pos (by simp [h]),if_pos (show z1e x≠0 from h)]
theorem zx2 (x:z49) (a b:Int):0<=(zi0 x a b).1/\(zi0 x a b).1<=100000:=by
 unfold zi0
 split
 ·simp
 ·rename_i h
  split
  ·simp
  ·cases hf:x.washes.find? (fun w=>(w.from_==a)&&(w.to==b)) with
   | none=>simp
   | some w=>
    have hm:=List.mem_of_find?_eq_some hf
    obtain⟨a1,a2,a3,a4,b1,b2,b3,b4⟩:=z4w (Classical.not_not.1 h)
    obtain⟨j,hj,e⟩:=w1x hm
    simp only [z93,w04,w0e] at b4
    have:=b4 j hj
    simp only [z5y,zwc,w02,z64] at this
    rw [z4p hj,e] at this
    exact⟨this.1.2.1,this.1.2.2⟩
theorem zx1 (x:z49) (a:Int):∀ s∈(z8r x a).1,0<=s.cost/\s.cost<=100000000000000:=by
 unfold z8r
 split
 ·simp
 ·rename_i h
  split
  ·simp
  ·intro s hs
   simp only [zic,List.mem_filterMap,w0e] at hs
   obtain⟨i,hi,e⟩:=hs
   obtain⟨a1,a2,a3,a4,b1,b2,b3,b4⟩:=z4w (Classical.not_not.1 h)
   have hb:=zwb (y80 (Classical.not_not.1 h)) a3 a.toNat x.types.length i
   split at e
   ·rename_i h0
    cases e
    unfold zdo at h0 ⊢
    exact⟨h0,by simp only; omega⟩
   ·cases e
end Px
end
section
namespace Px
open Go
def zhs (φ:Nat):Prop:=∀(x:zy) (a b:Int),∃ t e,z2r φ x a b=some (t,e,())/\0<=t/\t<=51200000
def betF (φ:Nat) (x:zy) (a b:Int):Int×Int:=match z2r φ x a b with | some (t,e,_)=>(t,e) | none=>(0,0)
theorem zhs.eq {φ:Nat} (h:zhs φ) (x:zy) (a b:Int):z2r φ x a b=some ((betF φ x a b).1,(betF φ x a b).2,())/\0<=(betF φ x a b).1/\(betF φ x a b).1<=51200000:=by
 obtain⟨t,e,h1,h2,h3⟩:=h x a b
 unfold betF
 rw [h1]
 exact⟨rfl,h2,h3⟩
def bitF (p:Pool) (s:z8) (o:zg):Bool:=(U ((BitVec.ofInt 64 (((gt p.fleet.types s.type_).classes:Int).fdiv (2 ^ (min (o.class_:Int).toNat 64)))&&& BitVec.ofInt 64 1).toNat):Int)==0
def minF (φ:Nat) (p:Pool) (s:z8) (o:zg):Int:=(betF φ p.network s.place o.place).1+if 0<=s.class_ then(zi0 p.fleet s.class_ o.class_).1 else 0
def ze1 (φ:Nat) (p:Pool) (s:z8) (o:zg):Int×Bool:=
 bif ((betF φ p.network s.place o.place).2 !=0)||bitF p s o then(0,false) else
 match (z8r p.fleet o.type_).1.find? (fun g=>g.given==s.type_) with
 | none=>(0,false)
 | some g=>bif decide (o.to<s.at_+minF φ p s o)||decide (1000000000<minF φ p s o+g.cost) then(0,false) else(minF φ p s o+g.cost,true)
theorem y2x {φ:Nat} (h:zhs φ) (p:Pool) (s:z8) (o:zg) :(betF φ p.network s.place o.place).1<=minF φ p s o/\0<=minF φ p s o/\minF φ p s o<=60000000:=by
 obtain⟨_,h1,h2⟩:=h.eq p.network s.place o.place
 have h3:=zx2 p.fleet s.class_ o.class_
 unfold minF
 split <;> omega
theorem zyu {φ:Nat} (p:Pool) (s:z8) (o:zg) (m:Int) (l:List Swap) (hl:l.length<=1000) (hm:0<=m/\m<=60000000) (ha:0<=s.at_/\s.at_<=1073741824) (hb:∀ g∈l,0<=g.cost/\g.cost<=100000000000000) :
  ∀(d n i:Nat),l.length-i=d->i<=l.length->d<n->z2n φ n l (l.length:Int) (i:Int) m l s o=some (match (l.drop i).find? (fun g=>g.given==s.type_) with
   | none=>(0,false,())
   | some g=>bif decide (o.to<s.at_+m)||decide (1000000000<m+g.cost) then(0,false,()) else(m+g.cost,true,())):=by
 have hW2:W (s.at_+m)=s.at_+m:=W_id (by omega) (by omega)
 intro d
 induction d with
 | zero=>
  intro n i hm hi hn
  obtain⟨n,rfl⟩:∃ n',n=n'+1:=⟨n-1,by omega⟩
  rw [z2n,if_neg (by simp; omega),w28 (by omega),zb (by simp),if_pos (by simp)]; rfl
 | succ d ih=>
  intro n i hm hi hn
  obtain⟨n,rfl⟩:∃ n',n=n'+1:=⟨n-1,by omega⟩
  have hi':i<l.length:=by omega
  have e:l.drop i=gt l (i:Int)::l.drop (i+1):=by
   rw [z4p hi']; exact List.drop_eq_getElem_cons hi'
  have hg:=hb (gt l (i:Int)) (za5 (by omega) (by omega))
  rw [z2n,if_pos (by simp; omega),zb ⟨by omega,by omega⟩,e,List.find?_cons]
  show (some _).bind _=_
  rw [w03]
  simp only
  cases hc :((gt l (i:Int)).given==s.type_) with
  | true=>
   have hW3:W (m +(gt l (i:Int)).cost)=m +(gt l (i:Int)).cost:=W_id (by omega) (by omega)
   rw [if_pos rfl,zb (fun _=>⟨by omega,by omega⟩),hW2,hW3,zb ⟨by omega,by omega⟩]
   simp only
   have e0:decide ((i:Int)<0)=false:=by simp
   rw [e0,w1g]
   cases (decide (o.to<s.at_+m)||decide (1000000000<m +(gt l (i:Int)).cost)) <;> rfl
  | false=>
   rw [if_neg (by simp),W_id (by omega) (by omega),show (i:Int)+1 =((i+1:Nat):Int) by omega]
   exact ih n (i+1) (by omega) (by omega) (by omega)
theorem zs2 (x:z49) (a:Int) :(z8r x a).1.length<=1000:=by
 unfold z8r
 split
 ·simp
 ·rename_i h
  obtain⟨a1,_⟩:=z4w (Classical.not_not.1 h)
  split
  ·simp
  ·have:=zsg a x.types.length (zdo x.swaps x.types.length a.toNat)
   simp only; omega
theorem zwo {φ:Nat} (hφ:5000<φ) (hB:zhs φ) (p:Pool) (s:z8) (o:zg) (ht:0<=s.type_/\s.type_ <(p.fleet.types.length:Int)) (ho:0<=o.class_) (ha:0<=s.at_/\s.at_<=1073741824) :
  z0z φ p s o=some ((ze1 φ p s o).1,(ze1 φ p s o).2,()):=by
 obtain⟨h1,h2,h3⟩:=hB.eq p.network s.place o.place
 have hm:=y2x hB p s o
 have hcl:=zx2 p.fleet s.class_ o.class_
 have j9:z1b φ (minF φ p s o) p s o=some (match (z8r p.fleet o.type_).1.find? (fun g=>g.given==s.type_) with
   | none=>(0,false,())
   | some g=>bif decide (o.to<s.at_+minF φ p s o)||decide (1000000000<minF φ p s o+g.cost) then(0,false,()) else(minF φ p s o+g.cost,true,())):=by
  unfold z1b
  rw [znt φ hφ,w03]
  have:=zyu (φ:=φ) p s o (minF φ p s o) (z8r p.fleet o.type_).1 (zs2 _ _) ⟨hm.2.1,hm.2.2⟩ ha (zx1 _ _) _ φ 0 rfl (by omega) (by have:=zs2 p.fleet o.type_; omega)
  rw [List.drop_zero] at this
  exact this
 unfold z0z ze1
 rw [h1,w03,zb (fun _=>ht),zb (fun _=>ho)]
 simp only
 show (if(((betF φ p.network s.place o.place).2 !=0)||bitF p s o)=true then _ else _)=_
 cases hc :(((betF φ p.network s.place o.place).2 !=0)||bitF p s o) with
 | true=>rfl
 | false=>
  rw [if_neg (by simp),cond_false]
  have hj :(if(decide ((0:Int)<=s.class_))=true then((zah φ p.fleet s.class_ o.class_).bind fun y20=>(z1b φ (W ((betF φ p.network s.place o.place).1+y20.1)) p s o)) else(z1b φ (betF φ p.network s.place o.place).1 p s o))=z1b φ (minF φ p s o) p s o:=by
   unfold minF
   by_cases hs:0<=s.class_
   ·rw [if_pos (by simpa using hs),znq φ hφ,w03,if_pos hs,W_id (by omega) (by omega)]
   ·rw [if_neg (by simpa using hs),if_neg hs,Int.add_zero]
  rw [hj,j9]
  cases (z8r p.fleet o.type_).1.find? (fun g=>g.given==s.type_) with
  | none=>rfl
  | some g=>
   simp only
   cases (decide (o.to<s.at_+minF φ p s o)||decide (1000000000<minF φ p s o+g.cost)) <;> rfl
theorem zzk {φ:Nat} (hB:zhs φ) {p:Pool} {s:z8} {o:zg} (h :(ze1 φ p s o).2=true):0<=(ze1 φ p s o).1/\(ze1 φ p s o).1<=1000000000/\(betF φ p.network s.place o.place).2=0/\(betF φ p.network s.place o.place).1<=(ze1 φ p s o).1:=by
 have hm:=y2x hB p s o
 unfold ze1 at h ⊢
 cases hc :(((betF φ p.network s.place o.place).2 !=0)||bitF p s o) with
 | true=>rw [hc] at h; cases h
 | false=>
  rw [hc] at h
  simp only [cond_false] at h ⊢
  cases hf :(z8r p.fleet o.type_).1.find? (fun g=>g.given==s.type_) with
  | none=>rw [hf] at h; cases h
  | some g=>
   rw [hf] at h
   simp only at h ⊢
   have hg:=zx1 _ _ g (List.mem_of_find?_eq_some hf)
   cases hd :(decide (o.to<s.at_+minF φ p s o)||decide (1000000000<minF φ p s o+g.cost)) with
   | true=>rw [hd] at h; cases h
   | false=>
    simp only [w0v,decide_eq_false_iff_not,bne_eq_false_iff_eq] at hd hc
    simp only [cond_false]
    exact⟨by omega,by omega,hc.1,by omega⟩
theorem yb6 {φ:Nat} {p:Pool} {s:z8} {o:zg} (h :(ze1 φ p s o).2=false) :(ze1 φ p s o).1=0:=by
 unfold ze1 at h ⊢
 cases hc :(((betF φ p.network s.place o.place).2 !=0)||bitF p s o) with
 | true=>rfl
 | false=>
  rw [hc] at h
  simp only [cond_false] at h ⊢
  cases hf :(z8r p.fleet o.type_).1.find? (fun g=>g.given==s.type_) with
  | none=>rfl
  | some g=>
   rw [hf] at h
   simp only at h ⊢
   cases hd :(decide (o.to<s.at_+minF φ p s o)||decide (1000000000<minF φ p s o+g.cost)) with
   | true=>rfl
   | false=>rw [hd] at h; cases h
theorem zko {p:Pool} (hp:p.fleet.types.length<=32/\p.network.places.length<=512) {s:z8} (h:okSu p s=true) :(0<=s.type_/\s.type_ <(p.fleet.types.length:Int))/\(0<=s.at_/\s.at_<=1073741824)/\1<=s.count/\s.count<=4096:=by
 unfold okSu at h
 rw [W_id (x:=(p.fleet.types.length:Int)-1) (by omega) (by omega),W_id (x:=(p.network.places.length:Int)-1) (by omega) (by omega)] at h
 simp only [w02,z64] at h
 obtain⟨⟨⟨⟨a,b⟩,c⟩,d⟩,e⟩:=h
 exact⟨⟨a.1,by omega⟩,d,e.1,e.2⟩
theorem zgy {p:Pool} (hp:p.fleet.types.length<=32/\p.network.places.length<=512) {o:zg} (h:okOr p o=true):0<=o.class_/\(1<=o.count/\o.count<=1000)/\0<=o.weight/\o.weight<=1000000000:=by
 unfold okOr at h
 simp only [w02,z64] at h
 obtain⟨⟨⟨⟨⟨⟨a,b⟩,c⟩,d⟩,e⟩,f⟩,g⟩:=h
 exact⟨b.1,f,g⟩
theorem zfq {p:Pool} (h:z7y p=0):p.fleet.types.length<=32/\p.network.places.length<=512:=by
 obtain⟨h1,h2,_⟩:=zxy h
 exact⟨(z4w h2).1,(zn5 h1).1⟩
theorem y9c {φ:Nat} (hφ:800000<φ) (hB:zhs φ) {p:Pool} (hp:z7y p=0) {s:z8} {o:zg} (hs:okSu p s=true) (ho:okOr p o=true):z69 φ p s o=some ((ze1 φ p s o).1,(ze1 φ p s o).2,0,()):=by
 obtain⟨a,b,c⟩:=zko (zfq hp) hs
 obtain⟨d,_⟩:=zgy (zfq hp) ho
 unfold z69
 rw [zb5 φ hφ,w03,if_neg (by simp [hp]),zck,w03,hs,gz_t (by simp),zdp,w03,ho,if_neg (by simp),zwo (by omega) hB p s o a d b,w03]
end Px
end
section
namespace Px
open Go
def cF (φ:Nat) (p:Pool) (s:List z8) (o:List zg) (i k:Nat):Int:=(ze1 φ p (gt s (i:Int)) (gt o (k:Int))).1
def bF (φ:Nat) (p:Pool) (s:List z8) (o:List zg) (i k:Nat):Bool:=(ze1 φ p (gt s (i:Int)) (gt o (k:Int))).2
def netF (φ:Nat) (p:Pool) (s:List z8) (o:List zg):zj:=netN s o (cF φ p s o) (bF φ p s o)
def zva (p:Pool) (s:List z8) (o:List zg):Bool:=s.all (okSu p)&&o.all (okOr p)
theorem za6 (s:List z8) (o:List zg) (c:Nat->Nat->Int) (b:Nat->Nat->Bool) (hs:s.length<=6) (ho:o.length<=6) :(z7 s o c b).length<=49:=by
 unfold z7 zlj
 have:=zkp (s:=s) (o:=o) (c:=c) (b:=b) ho s.length
 simp only [w0c,w0u,List.length_range,w0t,w2a]
 omega
theorem zxr {φ:Nat} (hφ:800000<φ) (hB:zhs φ) {p:Pool} (hp:z7y p=0) {s:List z8} {o:List zg} (hs:s.length<=6) (ho:o.length<=6) (hsv:s.all (okSu p)=true) (m:Nat) (hm:o.length<m) (hS:0<=sumS s s.length/\sumS s s.length<=100000) :
  z18 φ m s o (sumS s s.length) 0 o (o.length:Int) 0 p (s.map (·.count)) []=some (bif o.all (okOr p) then(netF φ p s o,0,()) else(⟨[],[]⟩,1,())):=by
 have hpl:=zfq hp
 have:=z8b (fun m i (st:Int×List Int)=>z18 φ m s o (sumS s s.length) st.1 o (o.length:Int) i p st.2 []) (fun st=>some (netF φ p s o,0,())) (some (⟨[],[]⟩,1,())) o (okOr p)
  (fun st y=>(st.1+y.count,st.2++[- y.count])) (fun i st=>(i=o.length->o.all (okOr p)=true)/\st.1=sumC o i/\0<=st.1/\st.1<=1000 *(i:Int)/\st.2=s.map (·.count)++(o.take i).map (fun y=>- y.count)/\∀ j:Nat,j<i->okOr p (gt o (j:Int))=true) ?_ ?_ m (0,s.map (·.count)) ⟨fun h=>by
   have:o = []:=w0w h.symm
   rw [this]; rfl,rfl,by simp,by simp,by simp,fun j hj=>by omega⟩ hm
 ·rw [this.1]
  cases o.all (okOr p) <;> rfl
 ·rintro m i ⟨c,l⟩ hi ⟨_,h1,h2,h3,h4,h5⟩
  simp only at h1 h2 h3 h4 h5
  have hW:W ((i:Int)+1) =(i:Int)+1:=W_id (by omega) (by omega)
  have hlen:l.length<=12:=by rw [h4]; simp only [w0c,w0u,w11]; omega
  show z18 φ (m+1) s o (sumS s s.length) c o (o.length:Int) (i:Int) p l []=_/\_
  rw [z18,if_pos (by simp; omega),zb ⟨by omega,by omega⟩,zdp,w03,hW]
  cases hok:okOr p (gt o (i:Int)) with
  | false=>exact⟨by simp,fun h=>by cases h⟩
  | true=>
   obtain⟨b1,b2,b3⟩:=zgy hpl hok
   have hW2:W (0 -(gt o (i:Int)).count)=-(gt o (i:Int)).count:=by rw [Int.zero_sub]; exact W_id (by omega) (by omega)
   have hW3:W (c +(gt o (i:Int)).count)=c +(gt o (i:Int)).count:=W_id (by omega) (by omega)
   have hall:∀ j:Nat,j<i+1->okOr p (gt o (j:Int))=true:=fun j hj=>by
    by_cases e:j=i
    ·rw [e]; exact hok
    ·exact h5 j (by omega)
   rw [if_neg (by simp),zb (by simp [fits]; omega),hW2,hW3]
   refine⟨rfl,fun _=>⟨fun h=>?_,by rw [h1]; rfl,by omega,by push_cast; omega,?_,hall⟩⟩
   ·rw [w04]
    intro x hx
    obtain⟨j,hj,e⟩:=w1x hx
    rw [<- e,<- z4p hj]
    exact hall j (by omega)
   ·rw [h4,z45 o i hi,w1j,<- w0l]; rfl
 ·rintro m ⟨c,l⟩ ⟨h0,h1,h2,h3,h4,h5⟩
  simp only at h1 h2 h3 h4 h5
  rw [w1l] at h4
  have hlen:l.length<=12:=by rw [h4]; simp only [w0c,w0u]; omega
  have hW2:W (0-sumS s s.length)=- sumS s s.length:=by rw [Int.zero_sub]; exact W_id (by omega) (by omega)
  have hW3:W ((s.length:Int) +(o.length:Int))=nodU s o:=W_id (by omega) (by omega)
  show z18 φ (m+1) s o (sumS s s.length) c o (o.length:Int) (o.length:Int) p l []=_
  rw [z18,if_neg (by simp),zb (by simp [fits]; omega),if_neg (by simp only [w0c,w0t,w2a,decide_eq_true_eq]; omega),hW2,hW3]
  have hu:0<=nodU s o/\nodU s o<=1000:=by unfold nodU; omega
  have hcnt:∀ k:Nat,k<o.length->0<=(gt o (k:Int)).count/\(gt o (k:Int)).count<=1000000:=fun k hk=>by
   obtain⟨b1,b2,b3⟩:=zgy hpl (h5 k hk)
   omega
  have hlp :((List.range s.length).flatMap (arcR s o (cF φ p s o) (bF φ p s o))).length<=500:=by
   have:=zkp (s:=s) (o:=o) (c:=cF φ p s o) (b:=bF φ p s o) ho s.length
   omega
  rw [zzo φ (nodU s o) 0 p s o _ (cF φ p s o) (bF φ p s o) (fun i k hi hk=>?_) hs ho (by omega) φ (by omega),zxz φ (nodU s o) s o _ _ hs ho hcnt hlp hu (by omega) φ (by omega)]
  ·unfold z0k
   have hal:=za6 s o (cF φ p s o) (bF φ p s o) hs ho
   have e :(List.range s.length).flatMap (arcR s o (cF φ p s o) (bF φ p s o))++(List.range o.length).map (arcO (nodU s o) (s.length:Int) o)++(List.range s.length).map (arcS (nodU s o) s)++[⟨nodU s o,nodU s o+1,sumC o o.length,0⟩]=z7 s o (cF φ p s o) (bF φ p s o):=rfl
   rw [e,if_neg (by simp only [decide_eq_true_eq]; omega),h1,h4]
   rfl
  ·obtain⟨a1,a2,a3⟩:=zko hpl (w04.1 hsv _ (za5 (i:=(i:Int)) (by omega) (by omega)))
   obtain⟨b1,b2,b3⟩:=zgy hpl (h5 k hk)
   exact zwo (by omega) hB p _ _ a1 b1 a2
theorem y8j {φ:Nat} (hφ:800000<φ) (hB:zhs φ) (p:Pool) {s:List z8} {o:List zg} (hs:s.length<=6) (ho:o.length<=6) :
  z67 φ p s o=some (if z7y p≠0 then(⟨[],[]⟩,z7y p,()) else bif zva p s o then(netF φ p s o,0,()) else(⟨[],[]⟩,1,())):=by
 unfold z67
 rw [zb5 φ hφ,w03]
 by_cases hp:z7y p=0
 case neg=>rw [if_pos (by simpa using hp),if_pos hp]
 rw [if_neg (by simpa using hp),if_neg (fun h=>h hp)]
 have hpl:=zfq hp
 have:=z8b (fun m i (st:Int×List Int)=>z20 φ m s o st.1 0 s (s.length:Int) i p st.2 []) (fun st=>some (bif o.all (okOr p) then(netF φ p s o,0,()) else(⟨[],[]⟩,1,()))) (some (⟨[],[]⟩,1,())) s (okSu p)
  (fun st y=>(st.1+y.count,st.2++[y.count])) (fun i st=>(i=s.length->s.all (okSu p)=true)/\st.1=sumS s i/\0<=st.1/\st.1<=4096 *(i:Int)/\st.2 =(s.take i).map (·.count)/\∀ j:Nat,j<i->okSu p (gt s (j:Int))=true) ?_ ?_ φ (0,[]) ⟨fun h=>by
   have:s = []:=w0w h.symm
   rw [this]; rfl,rfl,by simp,by simp,by simp,fun j hj=>by omega⟩ (by omega)
 ·rw [this.1]
  unfold zva
  cases s.all (okSu p) <;> rfl
 ·rintro m i ⟨c,l⟩ hi ⟨_,h1,h2,h3,h4,h5⟩
  simp only at h1 h2 h3 h4 h5
  have hW:W ((i:Int)+1) =(i:Int)+1:=W_id (by omega) (by omega)
  have hlen:l.length<=12:=by rw [h4]; simp only [w0u,w11]; omega
  show z20 φ (m+1) s o c 0 s (s.length:Int) (i:Int) p l []=_/\_
  rw [z20,if_pos (by simp; omega),zb ⟨by omega,by omega⟩,zck,w03,hW]
  cases hok:okSu p (gt s (i:Int)) with
  | false=>exact⟨by simp,fun h=>by cases h⟩
  | true=>
   obtain⟨b1,b2,b3⟩:=zko hpl hok
   have hW3:W (c +(gt s (i:Int)).count)=c +(gt s (i:Int)).count:=W_id (by omega) (by omega)
   have hall:∀ j:Nat,j<i+1->okSu p (gt s (j:Int))=true:=fun j hj=>by
    by_cases e:j=i
    ·rw [e]; exact hok
    ·exact h5 j (by omega)
   rw [if_neg (by simp),zb (by simp [fits]; omega),hW3]
   refine⟨rfl,fun _=>⟨fun h=>?_,by rw [h1]; rfl,by omega,by push_cast; omega,?_,hall⟩⟩
   ·rw [w04]
    intro x hx
    obtain⟨j,hj,e⟩:=w1x hx
    rw [<- e,<- z4p hj]
    exact hall j (by omega)
   ·rw [h4,z45 s i hi,w1j]; rfl
 ·rintro m ⟨c,l⟩ ⟨h0,h1,h2,h3,h4,h5⟩
  simp only at h1 h2 h3 h4 h5
  rw [w1l] at h4
  show z20 φ (m+1) s o c 0 s (s.length:Int) (s.length:Int) p l []=_
  rw [z20,if_neg (by simp),h1,h4]
  exact zxr hφ hB hp hs ho (h0 rfl) φ (by omega) ⟨by omega,by omega⟩
structure Val (φ:Nat) (p:Pool) (s:List z8) (o:List zg):Prop where
 hφ:800000<φ
 hB:zhs φ
 hp:z7y p=0
 hs:s.length<=6
 ho:o.length<=6
 su:∀ i:Nat,i<s.length->okSu p (gt s (i:Int))=true
 or:∀ k:Nat,k<o.length->okOr p (gt o (k:Int))=true
theorem Val.sc {φ:Nat} {p:Pool} {s:List z8} {o:List zg} (h:Val φ p s o) {i:Nat} (hi:i<s.length):1<=(gt s (i:Int)).count/\(gt s (i:Int)).count<=4096:=(zko (zfq h.hp) (h.su i hi)).2.2
theorem Val.oc {φ:Nat} {p:Pool} {s:List z8} {o:List zg} (h:Val φ p s o) {k:Nat} (hk:k<o.length) :(1<=(gt o (k:Int)).count/\(gt o (k:Int)).count<=1000)/\0<=(gt o (k:Int)).weight/\(gt o (k:Int)).weight<=1000000000:=(zgy (zfq h.hp) (h.or k hk)).2
theorem yc2 {φ:Nat} (hφ:800000<φ) (hB:zhs φ) {p:Pool} {s:List z8} {o:List zg} (hp:z7y p=0) (hs:s.length<=6) (ho:o.length<=6) (h:zva p s o=true):Val φ p s o:=by
 unfold zva at h
 rw [w02] at h
 exact⟨hφ,hB,hp,hs,ho,fun i hi=>w04.1 h.1 _ (za5 (by omega) (by omega)),fun k hk=>w04.1 h.2 _ (za5 (by omega) (by omega))⟩
theorem Val.all {φ:Nat} {p:Pool} {s:List z8} {o:List zg} (h:Val φ p s o):zva p s o=true:=by
 unfold zva
 rw [w02,w04,w04]
 refine⟨fun x hx=>?_,fun x hx=>?_⟩
 ·obtain⟨j,hj,e⟩:=w1x hx
  rw [<- e,<- z4p hj]; exact h.su j hj
 ·obtain⟨j,hj,e⟩:=w1x hx
  rw [<- e,<- z4p hj]; exact h.or j hj
theorem Val.net {φ:Nat} {p:Pool} {s:List z8} {o:List zg} (h:Val φ p s o):z67 φ p s o=some (netF φ p s o,0,()):=by
 rw [y8j h.hφ h.hB p h.hs h.ho,if_neg (fun e=>e h.hp),h.all]; rfl
theorem zo8 (f:Nat->Int) (a:Nat):∀ b:Nat,sumN (a+b) f=sumN a f+sumN b (fun k=>f (a+k))
 | 0=>by simp [sumN]
 | b+1=>by
  show sumN (a+b) f+f (a+b)=_
  rw [zo8 f a b]; simp only [sumN]; omega
theorem zwz (f:Nat->Int):∀ n:Nat,sumN n (fun i=>- f i)=- sumN n f
 | 0=>rfl
 | n+1=>by simp only [sumN,zwz f n]; omega
theorem Val.sumS_bd {φ:Nat} {p:Pool} {s:List z8} {o:List zg} (h:Val φ p s o):0<=sumS s s.length/\sumS s s.length<=24576:=by
 rw [zpc]
 have:=zd0 (m:=s.length) (f:=fun i=>(gt s (i:Int)).count) (B:=4096) fun i hi=>by have:=h.sc hi; exact⟨by omega,this.2⟩
 have:=h.hs
 omega
theorem Val.sumC_bd {φ:Nat} {p:Pool} {s:List z8} {o:List zg} (h:Val φ p s o):0<=sumC o o.length/\sumC o o.length<=6000:=by
 rw [zmv]
 have:=zd0 (m:=o.length) (f:=fun i=>(gt o (i:Int)).count) (B:=1000) fun i hi=>by have:=h.oc hi; exact⟨by omega,this.1.2⟩
 have:=h.ho
 omega
theorem y1j {α:Type} [Inhabited α] {l:List α} {P:α->Bool} (h:∀ i:Nat,i<l.length->P (gt l (i:Int))=true):l.all P=true:=by
 rw [w04]
 intro x hx
 obtain⟨j,hj,e⟩:=w1x hx
 rw [<- e,<- z4p hj]; exact h j hj
theorem Val.chk {φ:Nat} {p:Pool} {s:List z8} {o:List zg} (h:Val φ p s o):zt7 (netF φ p s o)=0:=by
 have hs:=h.hs
 have ho:=h.ho
 have hS:=h.sumS_bd
 have hC:=h.sumC_bd
 have hal:=za6 s o (cF φ p s o) (bF φ p s o) hs ho
 have hsl :(supN s o).length<=14:=by rw [z85]; omega
 have e0 :(netF φ p s o).supply=supN s o:=rfl
 have e1 :(netF φ p s o).arcs=z7 s o (cF φ p s o) (bF φ p s o):=rfl
 have h1 :(supN s o).all zsy=true:=by
  refine y1j fun v hv=>?_
  rw [z85] at hv
  show zsy (atN (supN s o) v)=true
  unfold zsy
  rw [z64]
  by_cases g1:v<s.length
  ·rw [zr9 g1]; have:=h.sc g1; omega
  ·by_cases g2:v<s.length+o.length
   ·obtain⟨k,rfl⟩:∃ k,v=s.length+k:=⟨v-s.length,by omega⟩
    rw [zth (by omega)]; have:=h.oc (k:=k) (by omega); omega
   ·by_cases g3:v=s.length+o.length
    ·rw [g3,zw6]; omega
    ·rw [show v=s.length+o.length+1 by omega,zw2]; omega
 have h2 :(z7 s o (cF φ p s o) (bF φ p s o)).all (zna (supN s o).length)=true:=by
  rw [w04]
  intro a ha
  rw [zss,z85]
  rcases zmg ha with⟨i,k,hi,hk,hb,e⟩ |⟨k,hk,e⟩ |⟨i,hi,e⟩ | e
  ·have h1:=h.sc hi
   have h2:=h.oc hk
   have h3:=zzk h.hB hb
   rw [e]
   show (0<=(i:Int)/\(i:Int)<_)/\(0<=(s.length:Int) +(k:Int)/\(s.length:Int) +(k:Int)<_)/\(i:Int)≠(s.length:Int) +(k:Int)/\(0<=min2 (gt s (i:Int)).count (gt o (k:Int)).count/\min2 (gt s (i:Int)).count (gt o (k:Int)).count<=1000000000)/\(0<=cF φ p s o i k/\cF φ p s o i k<=1000000000)
   have h4:0<=min2 (gt s (i:Int)).count (gt o (k:Int)).count/\min2 (gt s (i:Int)).count (gt o (k:Int)).count<=1000000000:=by unfold min2; split <;> omega
   exact⟨by omega,by omega,by omega,h4,h3.1,h3.2.1⟩
  ·have h2:=h.oc hk
   rw [e]
   show (0<=nodU s o/\nodU s o<_)/\(0<=(s.length:Int) +(k:Int)/\(s.length:Int) +(k:Int)<_)/\nodU s o≠(s.length:Int) +(k:Int)/\(0<=(gt o (k:Int)).count/\(gt o (k:Int)).count<=1000000000)/\(0<=(gt o (k:Int)).weight/\(gt o (k:Int)).weight<=1000000000)
   unfold nodU; omega
  ·have h1:=h.sc hi
   rw [e]
   show (0<=(i:Int)/\(i:Int)<_)/\(0<=nodU s o+1/\nodU s o+1<_)/\(i:Int)≠nodU s o+1/\(0<=(gt s (i:Int)).count/\(gt s (i:Int)).count<=1000000000)/\(0<=(0:Int)/\(0:Int)<=1000000000)
   unfold nodU; omega
  ·rw [e]
   show (0<=nodU s o/\nodU s o<_)/\(0<=nodU s o+1/\nodU s o+1<_)/\nodU s o≠nodU s o+1/\(0<=sumC o o.length/\sumC o o.length<=1000000000)/\(0<=(0:Int)/\(0:Int)<=1000000000)
   unfold nodU; omega
 have h3:sumL (supN s o)=0:=by
  rw [y2z,z85,show s.length+o.length+2=s.length+o.length+1+1 by rfl]
  simp only [sumN]
  rw [zo8,zw6,zw2]
  rw [ze (n:=s.length) (g:=fun i=>(gt s (i:Int)).count) fun i hi=>zr9 hi,ze (n:=o.length) (g:=fun k=>-(gt o (k:Int)).count) fun k hk=>zth hk,zwz,<- zpc,<- zmv]
  omega
 unfold zt7
 rw [e0,e1,h1,h2,h3]
 rw [show (decide (256 <(supN s o).length)||decide (2048 <(z7 s o (cF φ p s o) (bF φ p s o)).length))=false by simp; omega]
 rfl
theorem Val.fnet {φ:Nat} {p:Pool} {s:List z8} {o:List zg} (h:Val φ p s o):zg2 (netF φ p s o):=zm3 h.chk
theorem Val.poss0 {φ:Nat} {p:Pool} {s:List z8} {o:List zg} (h:Val φ p s o):Poss s o (bF φ p s o) (fun _ _=>0) where
 pos:=fun _ _ _ _=>w1r _
 no:=fun _ _ _ _ _=>rfl
 row:=fun i hi=>by rw [z8f]; have:=h.sc hi; omega
 col:=fun k hk=>by rw [z8f]; have:=h.oc hk; omega
end Px
end
section
namespace Px
open Go
def addX (X:Nat->Nat->Int) (t:z6):Nat->Nat->Int:=fun i k=>if i=t.supply.toNat/\k=t.order.toNat then X i k+t.count else X i k
def okT (s:List z8) (o:List zg) (b:Nat->Nat->Bool) (X:Nat->Nat->Int) (t:z6):Bool:=
 decide (0<=t.supply)&&decide (t.supply <(s.length:Int))&&decide (0<=t.order)&&decide (t.order <(o.length:Int))&&b t.supply.toNat t.order.toNat&&decide (0<=t.count)&&decide (t.count<=z68 s o X t.supply.toNat)&&decide (t.count<=z39 s o X t.order.toNat)
def okL (s:List z8) (o:List zg) (b:Nat->Nat->Bool) :(Nat->Nat->Int)->List z6->Bool
 | _,[]=>true
 | X,t::l=>okT s o b X t&&okL s o b (addX X t) l
def zjl (s:List z8) (o:List zg) (c X:Nat->Nat->Int):Int:=sumN s.length fun i=>sumN o.length fun k=>X i k*c i k
theorem zw0 (X:Nat->Nat->Int) (t:z6) (n i:Nat) (h:t.order.toNat<n) :(sumN n fun k=>addX X t i k) =(sumN n fun k=>X i k)+if i=t.supply.toNat then t.count else 0:=by
 by_cases e:i=t.supply.toNat
 ·rw [if_pos e]
  have:=z62 (fun _=>t.count) t.order.toNat n
  rw [if_pos h] at this
  rw [<- this,<- z9d]
  refine ze fun k hk=>?_
  unfold addX
  by_cases e2:k=t.order.toNat
  ·rw [if_pos ⟨e,e2⟩,if_pos e2]
  ·rw [if_neg (fun g=>e2 g.2),if_neg e2,Int.add_zero]
 ·rw [if_neg e,Int.add_zero]
  exact ze fun k hk=>by unfold addX; rw [if_neg (fun g=>e g.1)]
theorem zvx (X:Nat->Nat->Int) (t:z6) (n k:Nat) (h:t.supply.toNat<n) :(sumN n fun i=>addX X t i k) =(sumN n fun i=>X i k)+if k=t.order.toNat then t.count else 0:=by
 by_cases e:k=t.order.toNat
 ·rw [if_pos e]
  have:=z62 (fun _=>t.count) t.supply.toNat n
  rw [if_pos h] at this
  rw [<- this,<- z9d]
  refine ze fun i hi=>?_
  unfold addX
  by_cases e2:i=t.supply.toNat
  ·rw [if_pos ⟨e2,e⟩,if_pos e2]
  ·rw [if_neg (fun g=>e2 g.1),if_neg e2,Int.add_zero]
 ·rw [if_neg e,Int.add_zero]
  exact ze fun i hi=>by unfold addX; rw [if_neg (fun g=>e g.2)]
theorem zm1 (s:List z8) (o:List zg) (X:Nat->Nat->Int) (t:z6) (i:Nat) (h:t.order.toNat<o.length):z68 s o (addX X t) i=z68 s o X i-if i=t.supply.toNat then t.count else 0:=by
 unfold z68; rw [zw0 X t _ i h]; omega
theorem zn6 (s:List z8) (o:List zg) (X:Nat->Nat->Int) (t:z6) (k:Nat) (h:t.supply.toNat<s.length):z39 s o (addX X t) k=z39 s o X k-if k=t.order.toNat then t.count else 0:=by
 unfold z39; rw [zvx X t _ k h]; omega
theorem y2w (s:List z8) (o:List zg) (c X:Nat->Nat->Int) (t:z6) (h:t.supply.toNat<s.length) (h2:t.order.toNat<o.length):zjl s o c (addX X t)=zjl s o c X+t.count*c t.supply.toNat t.order.toNat:=by
 unfold zjl
 have h1:=z62 (fun i=>sumN o.length fun k=>if k=t.order.toNat then t.count*c i k else 0) t.supply.toNat s.length
 rw [if_pos h] at h1
 have h3:=z62 (fun k=>t.count*c t.supply.toNat k) t.order.toNat o.length
 rw [if_pos h2] at h3
 rw [h3] at h1
 rw [<- h1,<- z9d]
 refine ze fun i hi=>?_
 by_cases e:i=t.supply.toNat
 ·rw [if_pos e,<- z9d]
  refine ze fun k hk=>?_
  unfold addX
  by_cases e2:k=t.order.toNat
  ·rw [if_pos ⟨e,e2⟩,if_pos e2,Int.add_mul]
  ·rw [if_neg (fun g=>e2 g.2),if_neg e2,Int.add_zero]
 ·rw [if_neg e,Int.add_zero]
  exact ze fun k hk=>by unfold addX; rw [if_neg (fun g=>e g.1)]
theorem zil {s:List z8} {o:List zg} {b:Nat->Nat->Bool} {X:Nat->Nat->Int} {t:z6} : okT s o b X t=true↔
  ((0<=t.supply/\t.supply <(s.length:Int))/\0<=t.order/\t.order <(o.length:Int))/\b t.supply.toNat t.order.toNat=true/\0<=t.count/\t.count<=z68 s o X t.supply.toNat/\t.count<=z39 s o X t.order.toNat:=by
 unfold okT
 simp only [w02,decide_eq_true_eq]
 constructor
 ·rintro⟨⟨⟨⟨⟨⟨⟨a,b⟩,c⟩,d⟩,e⟩,f⟩,g⟩,h⟩; exact⟨⟨⟨a,b⟩,c,d⟩,e,f,g,h⟩
 ·rintro⟨⟨⟨a,b⟩,c,d⟩,e,f,g,h⟩; exact⟨⟨⟨⟨⟨⟨⟨a,b⟩,c⟩,d⟩,e⟩,f⟩,g⟩,h⟩
theorem Poss.add {s:List z8} {o:List zg} {b:Nat->Nat->Bool} {X:Nat->Nat->Int} (h:Poss s o b X) {t:z6} (ht:okT s o b X t=true):Poss s o b (addX X t):=by
 obtain⟨⟨⟨a1,a2⟩,a3,a4⟩,a5,a6,a7,a8⟩:=zil.1 ht
 refine⟨fun i k hi hk=>?_,fun i k hi hk hb=>?_,fun i hi=>?_,fun k hk=>?_⟩
 ·unfold addX
  have:=h.pos i k hi hk
  split <;> omega
 ·unfold addX
  have:=h.no i k hi hk hb
  split
  ·rename_i e; rw [e.1,e.2,a5] at hb; cases hb
  ·exact this
 ·rw [zw0 X t _ i (by omega)]
  have:=h.row i hi
  by_cases e:i=t.supply.toNat
  ·rw [if_pos e]; rw [<- e] at a7; unfold z68 at a7; omega
  ·rw [if_neg e]; omega
 ·rw [zvx X t _ k (by omega)]
  have:=h.col k hk
  by_cases e:k=t.order.toNat
  ·rw [if_pos e]; rw [<- e] at a8; unfold z39 at a8; omega
  ·rw [if_neg e]; omega
theorem zvh {s:List z8} {o:List zg} {b:Nat->Nat->Bool} : ∀ {l:List z6} {X:Nat->Nat->Int},Poss s o b X->okL s o b X l=true->Poss s o b (l.foldl addX X)
 | [],_,h,_=>h
 | t::l,X,h,hl=>by
  unfold okL at hl
  rw [w02] at hl
  exact zvh (l:=l) (h.add hl.1) hl.2
section
variable {φ:Nat} {p:Pool} {s:List z8} {o:List zg}
theorem Val.xle (h:Val φ p s o) {X:Nat->Nat->Int} (hX:Poss s o (bF φ p s o) X) {i k:Nat} (hi:i<s.length) (hk:k<o.length):0<=X i k/\X i k<=1000:=by
 have h1:=hX.pos i k hi hk
 have h2:=hX.col k hk
 have h3:=zmp (f:=fun i=>X i k) (fun j hj=>hX.pos j k hj hk) hi
 have h4:=h.oc hk
 refine⟨h1,?_⟩
 have:X i k<=sumN s.length fun i=>X i k:=h3
 omega
theorem Val.c_bd (h:Val φ p s o) (i k:Nat):0<=cF φ p s o i k/\cF φ p s o i k<=1000000000:=by
 unfold cF
 cases hb :(ze1 φ p (gt s (i:Int)) (gt o (k:Int))).2 with
 | true=>have:=zzk h.hB hb; exact⟨this.1,this.2.1⟩
 | false=>rw [yb6 hb]; simp
theorem Val.sumXC_bd (h:Val φ p s o) {X:Nat->Nat->Int} (hX:Poss s o (bF φ p s o) X):0<=zjl s o (cF φ p s o) X/\zjl s o (cF φ p s o) X<=36000000000000:=by
 have h1:∀ i,i<s.length->0<=(sumN o.length fun k=>X i k*cF φ p s o i k)/\(sumN o.length fun k=>X i k*cF φ p s o i k)<=6000000000000:=fun i hi=>by
  have:=zd0 (m:=o.length) (f:=fun k=>X i k*cF φ p s o i k) (B:=1000000000000) fun k hk=>by
   have h1:=h.xle hX hi hk
   have h2:=h.c_bd i k
   refine⟨w1e h1.1 h2.1,?_⟩
   have:=w2f h1.2 h2.2 h2.1 (by omega :(0:Int)<=1000)
   simpa using this
  have:=h.ho
  omega
 have:=zd0 (m:=s.length) (B:=6000000000000) h1
 have:=h.hs
 unfold zjl
 omega
theorem Val.open_bd (h:Val φ p s o) {X:Nat->Nat->Int} (hX:Poss s o (bF φ p s o) X) {k:Nat} (hk:k<o.length):0<=z39 s o X k/\z39 s o X k<=1000:=by
 have h1:=hX.col k hk
 have h2:=h.oc hk
 have h3:=z3h (f:=fun i=>X i k) (n:=s.length) fun i hi=>hX.pos i k hi hk
 unfold z39
 omega
theorem Val.left_bd (h:Val φ p s o) {X:Nat->Nat->Int} (hX:Poss s o (bF φ p s o) X) {i:Nat} (hi:i<s.length):0<=z68 s o X i/\z68 s o X i<=4096:=by
 have h1:=hX.row i hi
 have h2:=h.sc hi
 have h3:=z3h (f:=fun k=>X i k) (n:=o.length) fun k hk=>hX.pos i k hi hk
 unfold z68
 omega
theorem zy3 (h:Val φ p s o) {X:Nat->Nat->Int} (hX:Poss s o (bF φ p s o) X) (op:List Int) (hol:op.length=o.length) (hov:∀ k:Nat,k<o.length->gt op (k:Int)=z39 s o X k) (m:Nat) (hm:o.length<m) :
  z15 φ m o (zjl s o (cF φ p s o) X) 0 op=some (zmx s o (cF φ p s o) X,true,()):=by
 have hb:=h.sumXC_bd hX
 have ho:=h.ho
 refine z11 (fun m i n=>z15 φ m o n i op) o.length (fun i n=>n=zjl s o (cF φ p s o) X +(sumN i fun k=>z39 s o X k *(gt o (k:Int)).weight)/\0<=n/\n<=36000000000000+1000000000000 *(i:Int)) (fun r=>r=some (zmx s o (cF φ p s o) X,true,())) ?_ ?_ m _ ⟨by simp [sumN],by omega,by omega⟩ hm
 ·rintro m i n hi ⟨h1,h2,h3⟩ hs
  have hW:W ((i:Int)+1) =(i:Int)+1:=W_id (by omega) (by omega)
  have e1:=h.open_bd hX hi
  have e2:=h.oc hi
  have e3:0<=z39 s o X i *(gt o (i:Int)).weight/\z39 s o X i *(gt o (i:Int)).weight<=1000000000000:=by
   refine⟨w1e e1.1 e2.2.1,?_⟩
   have:=w2f e1.2 e2.2.2 e2.2.1 (by omega :(0:Int)<=1000)
   simpa using this
  show z15 φ (m+1) o n (i:Int) op=_
  rw [z15,if_pos (by simp; omega),zb ⟨by omega,by omega⟩,zb ⟨by omega,by omega⟩,hov i hi,W_id (x:=z39 s o X i *(gt o (i:Int)).weight) (by omega) (by omega),W_id (by omega) (by omega),hW]
  exact hs _ ⟨by rw [h1]; simp only [sumN]; omega,by omega,by push_cast; omega⟩
 ·rintro m n ⟨h1,h2,h3⟩
  show z15 φ (m+1) o n (o.length:Int) op=_
  rw [z15,if_neg (by simp),h1]; rfl
theorem y2v (h:Val φ p s o) (l:List z6) (hl:l.length<=100000) (hφ:l.length<φ):∀(d m i:Nat) (X:Nat->Nat->Int) (le op:List Int),l.length-i=d->i<=l.length->d<m->Poss s o (bF φ p s o) X->
  le.length=s.length->(∀ j:Nat,j<s.length->gt le (j:Int)=z68 s o X j)->op.length=o.length->(∀ k:Nat,k<o.length->gt op (k:Int)=z39 s o X k)->
  z3z φ m s o l (zjl s o (cF φ p s o) X) (i:Int) p le op=some (bif okL s o (bF φ p s o) X (l.drop i) then(zmx s o (cF φ p s o) ((l.drop i).foldl addX X),true,()) else(0,false,())):=by
 intro d
 have hφ8:=h.hφ
 have hol6:=h.ho
 have hsl6:=h.hs
 induction d with
 | zero=>
  intro m i X le op hd hi hm hX h1 h2 h3 h4
  obtain⟨m,rfl⟩:∃ m',m=m'+1:=⟨m-1,by omega⟩
  rw [z3z,if_neg (by simp; omega),w28 (by omega),zy3 h hX op h3 h4 φ (by omega)]
  rfl
 | succ d ih=>
  intro m i X le op hd hi hm hX h1 h2 h3 h4
  obtain⟨m,rfl⟩:∃ m',m=m'+1:=⟨m-1,by omega⟩
  have hi':i<l.length:=by omega
  have e:l.drop i=gt l (i:Int)::l.drop (i+1):=by
   rw [z4p hi']; exact List.drop_eq_getElem_cons hi'
  rw [z3z,if_pos (by simp; omega),zb ⟨by omega,by omega⟩,e]
  generalize gt l (i:Int)=t
  by_cases hr :(0<=t.supply/\t.supply <(s.length:Int))/\0<=t.order/\t.order <(o.length:Int)
  case neg=>
   have:okT s o (bF φ p s o) X t=false:=by
    cases g:okT s o (bF φ p s o) X t with
    | false=>rfl
    | true=>exact absurd (zil.1 g).1 hr
   rw [if_pos (by simp only [w0q,decide_eq_true_eq]; omega)]
   unfold okL
   rw [this]; rfl
  obtain⟨⟨r1,r2⟩,r3,r4⟩:=hr
  have ei :((t.supply.toNat:Nat):Int)=t.supply:=by omega
  have ek :((t.order.toNat:Nat):Int)=t.order:=by omega
  have hin:t.supply.toNat<s.length:=by omega
  have hkn:t.order.toNat<o.length:=by omega
  have hsu:=h.su t.supply.toNat hin
  have hor:=h.or t.order.toNat hkn
  have hl1:=h2 t.supply.toNat hin
  have hl2:=h4 t.order.toNat hkn
  rw [ei] at hsu hl1
  rw [ek] at hor hl2
  have ec :(ze1 φ p (gt s t.supply) (gt o t.order)).1=cF φ p s o t.supply.toNat t.order.toNat:=by unfold cF; rw [ei,ek]
  have eb :(ze1 φ p (gt s t.supply) (gt o t.order)).2=bF φ p s o t.supply.toNat t.order.toNat:=by unfold bF; rw [ei,ek]
  have hcb:=h.c_bd t.supply.toNat t.order.toNat
  rw [if_neg (by simp only [w0q,decide_eq_true_eq]; omega),zb ⟨r1,r2⟩,zb ⟨r3,r4⟩,y9c h.hφ h.hB h.hp hsu hor,w03]
  simp only
  rw [zb (fun _=>⟨r1,by omega⟩),zb (fun _=>⟨r3,by omega⟩),ec,eb,hl1,hl2]
  have hcond :(((((((!bF φ p s o t.supply.toNat t.order.toNat)||((0:Int) !=0))||(decide (cF φ p s o t.supply.toNat t.order.toNat<0)))||(decide ((1000000000:Int)<cF φ p s o t.supply.toNat t.order.toNat)))||(decide (t.count<0)))||(decide (z68 s o X t.supply.toNat<t.count)))||(decide (z39 s o X t.order.toNat<t.count))) = !okT s o (bF φ p s o) X t:=by
   have q1:decide (cF φ p s o t.supply.toNat t.order.toNat<0)=false:=by simp; omega
   have q2:decide ((1000000000:Int)<cF φ p s o t.supply.toNat t.order.toNat)=false:=by simp; omega
   rw [q1,q2]
   cases g:okT s o (bF φ p s o) X t with
   | true=>
    obtain⟨_,g2,g3,g4,g5⟩:=zil.1 g
    rw [g2]
    simp; omega
   | false=>
    have hn:¬(bF φ p s o t.supply.toNat t.order.toNat=true/\0<=t.count/\t.count<=z68 s o X t.supply.toNat/\t.count<=z39 s o X t.order.toNat):=fun q=>by
     have:okT s o (bF φ p s o) X t=true:=zil.2 ⟨⟨⟨r1,r2⟩,r3,r4⟩,q⟩
     rw [g] at this; cases this
    cases gb:bF φ p s o t.supply.toNat t.order.toNat with
    | false=>rfl
    | true=>
     have:¬(0<=t.count/\t.count<=z68 s o X t.supply.toNat/\t.count<=z39 s o X t.order.toNat):=fun q=>hn ⟨gb,q⟩
     simp only [w18,w1g,w1v,w0q,decide_eq_true_eq,bne_self_eq_false]
     omega
  rw [hcond]
  unfold okL
  cases g:okT s o (bF φ p s o) X t with
  | false=>rfl
  | true=>
   obtain⟨_,g2,g3,g4,g5⟩:=zil.1 g
   have hlb:=h.left_bd hX hin
   have hob:=h.open_bd hX hkn
   have hX':=hX.add g
   have hsb:=h.sumXC_bd hX
   have hmul:0<=cF φ p s o t.supply.toNat t.order.toNat*t.count/\cF φ p s o t.supply.toNat t.order.toNat*t.count<=1000000000000:=by
    refine⟨w1e hcb.1 g3,?_⟩
    have:=w2f hcb.2 (by omega:t.count<=1000) g3 (by omega :(0:Int)<=1000000000)
    simpa using this
   rw [if_neg (by simp),zb ⟨r1,by omega⟩,zb ⟨r1,by omega⟩,zb ⟨r3,by omega⟩,zb ⟨r3,by omega⟩]
   rw [W_id (x:=cF φ p s o t.supply.toNat t.order.toNat*t.count) (by omega) (by omega),W_id (x:=zjl s o (cF φ p s o) X+_) (by omega) (by omega),W_id (x:=(i:Int)+1) (by omega) (by omega),W_id (x:=z68 s o X t.supply.toNat-t.count) (by omega) (by omega),W_id (x:=z39 s o X t.order.toNat-t.count) (by omega) (by omega)]
   rw [w1n,<- y2w s o (cF φ p s o) X t hin hkn,show (i:Int)+1 =((i+1:Nat):Int) by omega]
   rw [ih m (i+1) (addX X t) _ _ (by omega) (by omega) (by omega) hX' (by rw [z0x]; exact h1) (fun j hj=>?_) (by rw [z0x]; exact h3) (fun k hk=>?_)]
   ·rfl
   ·rw [z0i _ _ _ _ r1 (by omega) (by omega),zm1 s o X t j hkn]
    by_cases ej:j=t.supply.toNat
    ·rw [if_pos (by omega),if_pos ej,ej]
    ·rw [if_neg (by omega),if_neg ej,h2 j hj]; omega
   ·rw [z0i _ _ _ _ r3 (by omega) (by omega),zn6 s o X t k hin]
    by_cases ej:k=t.order.toNat
    ·rw [if_pos (by omega),if_pos ej,ej]
    ·rw [if_neg (by omega),if_neg ej,h4 k hk]; omega
theorem zpb (h:Val φ p s o) (l:List z6) (hl:l.length<=100000):z3n φ p s o l=some (bif okL s o (bF φ p s o) (fun _ _=>0) l then(zmx s o (cF φ p s o) (l.foldl addX fun _ _=>0),true,()) else(0,false,())):=by
 have hφ8:=h.hφ
 have hol6:=h.ho
 have hsl6:=h.hs
 have hz:zjl s o (cF φ p s o) (fun _ _=>0)=0:=z04 fun i hi=>z04 fun k hk=>Int.zero_mul _
 unfold z3n
 refine z11 (fun m i le=>z21 φ m s o l i p le) s.length (fun i le=>le.length=i/\∀ j:Nat,j<i->gt le (j:Int) =(gt s (j:Int)).count) (fun r=>r=some (bif okL s o (bF φ p s o) (fun _ _=>0) l then(zmx s o (cF φ p s o) (l.foldl addX fun _ _=>0),true,()) else(0,false,()))) ?_ ?_ φ [] ⟨rfl,fun j hj=>by omega⟩ (by omega)
 ·rintro m i le hi ⟨h1,h2⟩ hs
  have hW:W ((i:Int)+1) =(i:Int)+1:=W_id (by omega) (by omega)
  show z21 φ (m+1) s o l (i:Int) p le=_
  rw [z21,if_pos (by simp; omega),zb ⟨by omega,by omega⟩,zb (by simp [fits]; omega),hW]
  refine hs _ ⟨by simp [h1],fun j hj=>?_⟩
  by_cases e:j<i
  ·rw [z7q _ _ _ (by omega) (by omega)]; exact h2 j e
  ·rw [z6c _ _ _ (by omega),show (j:Int) -(le.length:Int)=0 by omega,show j=i by omega]; rfl
 ·rintro m le ⟨h1,h2⟩
  show z21 φ (m+1) s o l (s.length:Int) p le=_
  rw [z21,if_neg (by simp)]
  refine z11 (fun m i op=>z22 φ m s o l i p le op) o.length (fun i op=>op.length=i/\∀ j:Nat,j<i->gt op (j:Int) =(gt o (j:Int)).count) (fun r=>r=some (bif okL s o (bF φ p s o) (fun _ _=>0) l then(zmx s o (cF φ p s o) (l.foldl addX fun _ _=>0),true,()) else(0,false,()))) ?_ ?_ φ [] ⟨rfl,fun j hj=>by omega⟩ (by omega)
  ·rintro m i op hi ⟨h3,h4⟩ hs
   have hW:W ((i:Int)+1) =(i:Int)+1:=W_id (by omega) (by omega)
   show z22 φ (m+1) s o l (i:Int) p le op=_
   rw [z22,if_pos (by simp; omega),zb ⟨by omega,by omega⟩,zb (by simp [fits]; omega),hW]
   refine hs _ ⟨by simp [h3],fun j hj=>?_⟩
   by_cases e:j<i
   ·rw [z7q _ _ _ (by omega) (by omega)]; exact h4 j e
   ·rw [z6c _ _ _ (by omega),show (j:Int) -(op.length:Int)=0 by omega,show j=i by omega]; rfl
  ·rintro m op ⟨h3,h4⟩
   show z22 φ (m+1) s o l (o.length:Int) p le op=_
   rw [z22,if_neg (by simp)]
   have:=y2v h l hl (by omega) l.length φ 0 (fun _ _=>0) le op (by omega) (by omega) (by omega) h.poss0 h1 (fun j hj=>by rw [h2 j hj]; unfold z68; rw [z8f]; omega) h3 (fun k hk=>by rw [h4 k hk]; unfold z39; rw [z8f]; omega)
   rw [hz,List.drop_zero] at this
   exact this
end
end Px
end
section
namespace Px
open Go
def z48 (s:List z8) (o:List zg) (a:Arc):Bool:=decide (a.from_ <(s.length:Int))&&decide (a.to<nodU s o)
def trT (s:List z8) (o:List zg) (arcs:List Arc) (y:Nat->Int) (j:Nat):List z6:=
 bif z48 s o (gt arcs (j:Int))&&decide (0<y j) then [⟨(gt arcs (j:Int)).from_,(gt arcs (j:Int)).to -(s.length:Int),y j⟩] else []
def trsI (s:List z8) (o:List zg) (arcs:List Arc) (y:Nat->Int) (i:Nat):List z6:=(List.range i).flatMap (trT s o arcs y)
theorem zef (s:List z8) (o:List zg) (arcs:List Arc) (y:Nat->Int) (i:Nat):trsI s o arcs y (i+1)=trsI s o arcs y i++trT s o arcs y i:=by
 unfold trsI; rw [w16,w13]; simp
theorem zfp {s:List z8} {o:List zg} {arcs:List Arc} {y z:Nat->Int} : ∀ {i:Nat},(∀ j,j<i->y j=z j)->trsI s o arcs y i=trsI s o arcs z i
 | 0,_=>rfl
 | i+1,h=>by
  rw [zef,zef,zfp (i:=i) fun j hj=>h j (by omega)]
  unfold trT; rw [h i (by omega)]
def XY (s:List z8) (o:List zg) (arcs:List Arc) (y:Nat->Int) (n:Nat) (i k:Nat):Int:=
 sumN n fun j=>if z48 s o (gt arcs (j:Int))=true/\(gt arcs (j:Int)).from_ =(i:Int)/\(gt arcs (j:Int)).to =(s.length:Int) +(k:Int) then y j else 0
theorem zf2 {n k0:Nat} (P:Nat->Prop) [DecidablePred P] (x:Int) (hk:k0<n) (h:∀ k,k<n->(P k↔k=k0)) :(sumN n fun k=>if P k then x else 0)=x:=by
 have:=z62 (fun _=>x) k0 n
 rw [if_pos hk] at this
 refine(ze fun k hk'=>?_).trans this
 by_cases e:k=k0
 ·rw [if_pos ((h k hk').2 e),if_pos e]
 ·rw [if_neg (fun g=>e ((h k hk').1 g)),if_neg e]
section
variable {s:List z8} {o:List zg} {c:Nat->Nat->Int} {b:Nat->Nat->Bool}
theorem zhd (i k:Nat) (hi:i<s.length) (hk:k<o.length):z48 s o (arcQ s o c i k)=true:=by
 show (decide ((i:Int) <(s.length:Int))&&decide ((s.length:Int) +(k:Int)<nodU s o))=true
 unfold nodU; simp; omega
theorem zn7 (k:Nat):z48 s o (arcO (nodU s o) (s.length:Int) o k)=false:=by
 show (decide (nodU s o <(s.length:Int))&&_)=false
 rw [show decide (nodU s o <(s.length:Int))=false by unfold nodU; simp; omega]; rfl
theorem zom (i:Nat):z48 s o (arcS (nodU s o) s i)=false:=by
 show (_&&decide (nodU s o+1<nodU s o))=false
 rw [show decide (nodU s o+1<nodU s o)=false by simp; omega,Bool.and_false]
theorem zws:z48 s o ⟨nodU s o,nodU s o+1,sumC o o.length,0⟩=false:=by
 show (_&&decide (nodU s o+1<nodU s o))=false
 rw [show decide (nodU s o+1<nodU s o)=false by simp; omega,Bool.and_false]
theorem z63 {j:Nat} (hj:j <(z7 s o c b).length) :(∃ i k,i<s.length/\k<o.length/\b i k=true/\gt (z7 s o c b) (j:Int)=arcQ s o c i k)\/(∃ k,k<o.length/\gt (z7 s o c b) (j:Int)=arcO (nodU s o) (s.length:Int) o k)\/(∃ i,i<s.length/\gt (z7 s o c b) (j:Int)=arcS (nodU s o) s i)\/gt (z7 s o c b) (j:Int) =⟨nodU s o,nodU s o+1,sumC o o.length,0⟩:=
 zmg (za5 (by omega) (by omega))
theorem zdh {j:Nat} (hj:j <(z7 s o c b).length) (h:z48 s o (gt (z7 s o c b) (j:Int))=true):∃ i k,i<s.length/\k<o.length/\b i k=true/\gt (z7 s o c b) (j:Int)=arcQ s o c i k:=by
 rcases z63 hj with h1 |⟨k,hk,e⟩ |⟨i,hi,e⟩ | e
 ·exact h1
 ·rw [e,zn7] at h; cases h
 ·rw [e,zom] at h; cases h
 ·rw [e,zws] at h; cases h
theorem zpn (y:Nat->Int) (hy:∀ j,j <(z7 s o c b).length->0<=y j):∀ n:Nat,n<=(z7 s o c b).length->(trsI s o (z7 s o c b) y n).foldl addX (fun _ _=>0)=XY s o (z7 s o c b) y n
 | 0,_=>rfl
 | n+1,hn=>by
  rw [zef,List.foldl_append,zpn y hy n (by omega)]
  have hy0:=hy n (by omega)
  funext i k
  show _=XY s o (z7 s o c b) y n i k+if _ then y n else 0
  unfold trT
  cases hp:z48 s o (gt (z7 s o c b) (n:Int)) with
  | false=>
   rw [if_neg (fun g=>by cases g.1)]
   show XY s o (z7 s o c b) y n i k=_
   omega
  | true=>
   obtain⟨i0,k0,hi0,hk0,hb,e⟩:=zdh (by omega) hp
   by_cases h0:0<y n
   ·have hd:decide (0<y n)=true:=by simpa using h0
    rw [hd]
    show addX (XY s o (z7 s o c b) y n) ⟨(gt (z7 s o c b) (n:Int)).from_,(gt (z7 s o c b) (n:Int)).to -(s.length:Int),y n⟩ i k=_
    unfold addX
    rw [e]
    show (if i =((i0:Int)).toNat/\k =((s.length:Int) +(k0:Int) -(s.length:Int)).toNat then _ else _)=_+if true=true/\(i0:Int) =(i:Int)/\(s.length:Int) +(k0:Int) =(s.length:Int) +(k:Int) then y n else 0
    by_cases g:i=i0/\k=k0
    ·rw [if_pos (by omega),if_pos ⟨rfl,by omega,by omega⟩]
    ·rw [if_neg (by omega),if_neg (by omega)]; omega
   ·have hd:decide (0<y n)=false:=by simpa using h0
    rw [hd]
    show XY s o (z7 s o c b) y n i k=_
    have:y n=0:=by omega
    rw [this]
    split <;> omega
theorem yc1 (y:Nat->Int) (i:Nat):∀ n,n<=(z7 s o c b).length->(sumN o.length fun k=>XY s o (z7 s o c b) y n i k)=sumN n fun j=>if z48 s o (gt (z7 s o c b) (j:Int))=true/\(gt (z7 s o c b) (j:Int)).from_ =(i:Int) then y j else 0:=by
 intro n hn
 unfold XY
 rw [z76]
 refine ze fun j hj=>?_
 by_cases hp:z48 s o (gt (z7 s o c b) (j:Int))=true
 ·obtain⟨i0,k0,hi0,hk0,hb,e⟩:=zdh (by omega) hp
  by_cases hi :(gt (z7 s o c b) (j:Int)).from_ =(i:Int)
  ·rw [if_pos ⟨hp,hi⟩]
   refine zf2 _ _ hk0 fun k hk=>?_
   rw [e]
   constructor
   ·rintro⟨_,_,g⟩
    have g :(s.length:Int) +(k0:Int) =(s.length:Int) +(k:Int):=g
    omega
   ·rintro rfl
    rw [e] at hp hi
    exact⟨hp,hi,rfl⟩
  ·rw [if_neg (fun g=>hi g.2)]
   exact z04 fun k hk=>if_neg fun g=>hi g.2.1
 ·rw [if_neg (fun g=>hp g.1)]
  exact z04 fun k hk=>if_neg fun g=>hp g.1
theorem y8g (y:Nat->Int) (k:Nat):∀ n,n<=(z7 s o c b).length->(sumN s.length fun i=>XY s o (z7 s o c b) y n i k)=sumN n fun j=>if z48 s o (gt (z7 s o c b) (j:Int))=true/\(gt (z7 s o c b) (j:Int)).to =(s.length:Int) +(k:Int) then y j else 0:=by
 intro n hn
 unfold XY
 rw [z76]
 refine ze fun j hj=>?_
 by_cases hp:z48 s o (gt (z7 s o c b) (j:Int))=true
 ·obtain⟨i0,k0,hi0,hk0,hb,e⟩:=zdh (by omega) hp
  by_cases hi :(gt (z7 s o c b) (j:Int)).to =(s.length:Int) +(k:Int)
  ·rw [if_pos ⟨hp,hi⟩]
   refine zf2 _ _ hi0 fun i hi'=>?_
   rw [e]
   constructor
   ·rintro⟨_,g,_⟩
    have g :(i0:Int) =(i:Int):=g
    omega
   ·rintro rfl
    rw [e] at hp hi
    exact⟨hp,rfl,hi⟩
  ·rw [if_neg (fun g=>hi g.2)]
   exact z04 fun k hk=>if_neg fun g=>hi g.2.2
 ·rw [if_neg (fun g=>hp g.1)]
  exact z04 fun k hk=>if_neg fun g=>hp g.1
theorem y0n {P Q:Prop} [Decidable P] [Decidable Q] {x:Int} (hx:0<=x) (h:P->Q) :(if P then x else 0)<=if Q then x else 0:=by
 by_cases hp:P
 ·rw [if_pos hp,if_pos (h hp)]; omega
 ·rw [if_neg hp]; split <;> omega
theorem y5d {y:Nat->Int} (hf :(nwOf (netN s o c b)).Feas (atN (supN s o)) y) {i:Nat} (hi:i<s.length) :(sumN (z7 s o c b).length fun j=>if(gt (z7 s o c b) (j:Int)).from_ =(i:Int) then y j else 0) =(gt s (i:Int)).count:=by
 have h:=hf.exc i (show i <(supN s o).length by rw [z85]; omega)
 unfold Nw.exc at h
 rw [zr9 hi] at h
 have h1 :(nwOf (netN s o c b)).inS y i=0:=z04 fun j hj=>if_neg fun g=>by
  have g :(gt (z7 s o c b) (j:Int)).to.toNat=i:=g
  rcases z63 (s:=s) (o:=o) (c:=c) (b:=b) (j:=j) hj with⟨i1,k1,a1,a2,a3,e⟩ |⟨k,hk,e⟩ |⟨i1,hi1,e⟩ | e
  ·rw [e] at g; have g :((s.length:Int) +(k1:Int)).toNat=i:=g; omega
  ·rw [e] at g; have g :((s.length:Int) +(k:Int)).toNat=i:=g; omega
  ·rw [e] at g; have g :(nodU s o+1).toNat=i:=g; unfold nodU at g; omega
  ·rw [e] at g; have g :(nodU s o+1).toNat=i:=g; unfold nodU at g; omega
 have h2 :(nwOf (netN s o c b)).outS y i=sumN (z7 s o c b).length fun j=>if(gt (z7 s o c b) (j:Int)).from_ =(i:Int) then y j else 0:=by
  refine ze fun j hj=>?_
  have hj:j <(z7 s o c b).length:=hj
  show (if(gt (z7 s o c b) (j:Int)).from_.toNat=i then y j else 0)=_
  have :(gt (z7 s o c b) (j:Int)).from_.toNat=i↔(gt (z7 s o c b) (j:Int)).from_ =(i:Int):=by
   have hnn:0<=(gt (z7 s o c b) (j:Int)).from_:=by
    rcases z63 hj with⟨i1,k1,a1,a2,a3,e⟩ |⟨k,hk,e⟩ |⟨i1,hi1,e⟩ | e
    ·rw [e]; show 0<=(i1:Int); omega
    ·rw [e]; show 0<=nodU s o; unfold nodU; omega
    ·rw [e]; show 0<=(i1:Int); omega
    ·rw [e]; show 0<=nodU s o; unfold nodU; omega
   omega
  by_cases g :(gt (z7 s o c b) (j:Int)).from_ =(i:Int)
  ·rw [if_pos g,if_pos (this.2 g)]
  ·rw [if_neg g,if_neg (fun q=>g (this.1 q))]
 rw [h1,h2] at h
 omega
theorem y1o {y:Nat->Int} (hf :(nwOf (netN s o c b)).Feas (atN (supN s o)) y) {k:Nat} (hk:k<o.length) :(sumN (z7 s o c b).length fun j=>if(gt (z7 s o c b) (j:Int)).to =(s.length:Int) +(k:Int) then y j else 0) =(gt o (k:Int)).count:=by
 have h:=hf.exc (s.length+k) (show s.length+k <(supN s o).length by rw [z85]; omega)
 unfold Nw.exc at h
 rw [zth hk] at h
 have h1 :(nwOf (netN s o c b)).outS y (s.length+k)=0:=z04 fun j hj=>if_neg fun g=>by
  have g :(gt (z7 s o c b) (j:Int)).from_.toNat=s.length+k:=g
  rcases z63 (s:=s) (o:=o) (c:=c) (b:=b) (j:=j) hj with⟨i1,k1,a1,a2,a3,e⟩ |⟨k,hk,e⟩ |⟨i1,hi1,e⟩ | e
  ·rw [e] at g; have g :((i1:Int)).toNat=s.length+k:=g; omega
  ·rw [e] at g; have g :(nodU s o).toNat=s.length+_:=g; unfold nodU at g; omega
  ·rw [e] at g; have g :((i1:Int)).toNat=s.length+k:=g; omega
  ·rw [e] at g; have g :(nodU s o).toNat=s.length+_:=g; unfold nodU at g; omega
 have h2 :(nwOf (netN s o c b)).inS y (s.length+k)=sumN (z7 s o c b).length fun j=>if(gt (z7 s o c b) (j:Int)).to =(s.length:Int) +(k:Int) then y j else 0:=by
  refine ze fun j hj=>?_
  have hj:j <(z7 s o c b).length:=hj
  show (if(gt (z7 s o c b) (j:Int)).to.toNat=s.length+k then y j else 0)=_
  have :(gt (z7 s o c b) (j:Int)).to.toNat=s.length+k↔(gt (z7 s o c b) (j:Int)).to =(s.length:Int) +(k:Int):=by
   have hnn:0<=(gt (z7 s o c b) (j:Int)).to:=by
    rcases z63 hj with⟨i1,k1,a1,a2,a3,e⟩ |⟨k,hk,e⟩ |⟨i1,hi1,e⟩ | e
    ·rw [e]; show 0<=(s.length:Int) +(k1:Int); omega
    ·rw [e]; show 0<=(s.length:Int) +(k:Int); omega
    ·rw [e]; show 0<=nodU s o+1; unfold nodU; omega
    ·rw [e]; show 0<=nodU s o+1; unfold nodU; omega
   omega
  by_cases g :(gt (z7 s o c b) (j:Int)).to =(s.length:Int) +(k:Int)
  ·rw [if_pos g,if_pos (this.2 g)]
  ·rw [if_neg g,if_neg (fun q=>g (this.1 q))]
 rw [h1,h2] at h
 omega
theorem zsu {y:Nat->Int} (hf :(nwOf (netN s o c b)).Feas (atN (supN s o)) y):Poss s o b (XY s o (z7 s o c b) y (z7 s o c b).length) where
 pos:=fun i k hi hk=>z3h fun j hj=>by
  have:=(hf.bnd j hj).1
  split <;> omega
 no:=fun i k hi hk hb=>z04 fun j hj=>if_neg fun g=>by
  obtain⟨i0,k0,hi0,hk0,hb0,e⟩:=zdh hj g.1
  rw [e] at g
  have g1 :(i0:Int) =(i:Int):=g.2.1
  have g2 :(s.length:Int) +(k0:Int) =(s.length:Int) +(k:Int):=g.2.2
  have:i0=i:=by omega
  have:k0=k:=by omega
  subst i0; subst k0
  rw [hb] at hb0; cases hb0
 row:=fun i hi=>by
  rw [yc1 y i _ (w0g _),<- y5d hf hi]
  exact zis fun j hj=>y0n (hf.bnd j hj).1 fun g=>g.2
 col:=fun k hk=>by
  rw [y8g y k _ (w0g _),<- y1o hf hk]
  exact zis fun j hj=>y0n (hf.bnd j hj).1 fun g=>g.2
theorem zrl {y:Nat->Int} (hf :(nwOf (netN s o c b)).Feas (atN (supN s o)) y):zmx s o c (XY s o (z7 s o c b) y (z7 s o c b).length) =(nwOf (netN s o c b)).costS y:=by
 unfold zmx
 have e1 :(sumN s.length fun i=>sumN o.length fun k=>XY s o (z7 s o c b) y (z7 s o c b).length i k*c i k)=sumN (z7 s o c b).length fun j=>if z48 s o (gt (z7 s o c b) (j:Int))=true then y j *(gt (z7 s o c b) (j:Int)).cost else 0:=by
  have h1:∀ i k,XY s o (z7 s o c b) y (z7 s o c b).length i k*c i k=sumN (z7 s o c b).length fun j=>if z48 s o (gt (z7 s o c b) (j:Int))=true/\(gt (z7 s o c b) (j:Int)).from_ =(i:Int)/\(gt (z7 s o c b) (j:Int)).to =(s.length:Int) +(k:Int) then y j *(gt (z7 s o c b) (j:Int)).cost else 0:=fun i k=>by
   unfold XY
   rw [w1n,<- zgs]
   refine ze fun j hj=>?_
   rw [zkr]
   by_cases g:z48 s o (gt (z7 s o c b) (j:Int))=true/\(gt (z7 s o c b) (j:Int)).from_ =(i:Int)/\(gt (z7 s o c b) (j:Int)).to =(s.length:Int) +(k:Int)
   ·rw [if_pos g,if_pos g]
    obtain⟨i0,k0,hi0,hk0,hb0,e⟩:=zdh hj g.1
    rw [e] at g
    have g1 :(i0:Int) =(i:Int):=g.2.1
    have g2 :(s.length:Int) +(k0:Int) =(s.length:Int) +(k:Int):=g.2.2
    have:i0=i:=by omega
    have:k0=k:=by omega
    subst i0; subst k0
    rw [e,w1n]; rfl
   ·rw [if_neg g,if_neg g]
  rw [ze fun i hi=>ze fun k hk=>h1 i k]
  rw [ze fun i hi=>z76 _ _ _,z76]
  refine ze fun j hj=>?_
  by_cases hp:z48 s o (gt (z7 s o c b) (j:Int))=true
  ·obtain⟨i0,k0,hi0,hk0,hb0,e⟩:=zdh hj hp
   rw [if_pos hp]
   have:∀ i,i<s.length->(sumN o.length fun k=>if z48 s o (gt (z7 s o c b) (j:Int))=true/\(gt (z7 s o c b) (j:Int)).from_ =(i:Int)/\(gt (z7 s o c b) (j:Int)).to =(s.length:Int) +(k:Int) then y j *(gt (z7 s o c b) (j:Int)).cost else 0)=if i=i0 then y j *(gt (z7 s o c b) (j:Int)).cost else 0:=fun i hi=>by
    by_cases ei:i=i0
    ·rw [if_pos ei]
     refine zf2 _ _ hk0 fun k hk=>?_
     rw [e]
     constructor
     ·rintro⟨_,_,g⟩
      have g :(s.length:Int) +(k0:Int) =(s.length:Int) +(k:Int):=g
      omega
     ·rintro rfl
      rw [e] at hp
      exact⟨hp,by rw [ei]; rfl,rfl⟩
    ·rw [if_neg ei]
     exact z04 fun k hk=>if_neg fun g=>by
      rw [e] at g
      have g1 :(i0:Int) =(i:Int):=g.2.1
      omega
   rw [ze this]
   exact zf2 _ _ hi0 fun i hi=>Iff.rfl
  ·rw [if_neg hp]
   exact z04 fun i hi=>z04 fun k hk=>if_neg fun g=>hp g.1
 have e2:∀ k,k<o.length->z39 s o (XY s o (z7 s o c b) y (z7 s o c b).length) k=sumN (z7 s o c b).length fun j=>if ¬ z48 s o (gt (z7 s o c b) (j:Int))=true/\(gt (z7 s o c b) (j:Int)).to =(s.length:Int) +(k:Int) then y j else 0:=fun k hk=>by
  unfold z39
  rw [y8g y k _ (w0g _),<- y1o hf hk,<- zbg]
  refine ze fun j hj=>?_
  by_cases g :(gt (z7 s o c b) (j:Int)).to =(s.length:Int) +(k:Int)
  ·by_cases hp:z48 s o (gt (z7 s o c b) (j:Int))=true
   ·rw [if_pos g,if_pos ⟨hp,g⟩,if_neg (fun q=>q.1 hp)]; omega
   ·rw [if_pos g,if_neg (fun q=>hp q.1),if_pos ⟨hp,g⟩]; omega
  ·rw [if_neg g,if_neg (fun q=>g q.2),if_neg (fun q=>g q.2)]; rfl
 have e3 :(sumN o.length fun k=>z39 s o (XY s o (z7 s o c b) y (z7 s o c b).length) k *(gt o (k:Int)).weight)=sumN (z7 s o c b).length fun j=>if ¬ z48 s o (gt (z7 s o c b) (j:Int))=true then y j *(gt (z7 s o c b) (j:Int)).cost else 0:=by
  have h1:∀ k,k<o.length->z39 s o (XY s o (z7 s o c b) y (z7 s o c b).length) k *(gt o (k:Int)).weight=sumN (z7 s o c b).length fun j=>if ¬ z48 s o (gt (z7 s o c b) (j:Int))=true/\(gt (z7 s o c b) (j:Int)).to =(s.length:Int) +(k:Int) then y j *(gt (z7 s o c b) (j:Int)).cost else 0:=fun k hk=>by
   rw [e2 k hk,w1n,<- zgs]
   refine ze fun j hj=>?_
   rw [zkr]
   by_cases g:¬ z48 s o (gt (z7 s o c b) (j:Int))=true/\(gt (z7 s o c b) (j:Int)).to =(s.length:Int) +(k:Int)
   ·rw [if_pos g,if_pos g,w1n]
    congr 1
    rcases z63 hj with⟨i1,k1,a1,a2,a3,e⟩ |⟨k1,hk1,e⟩ |⟨i1,hi1,e⟩ | e
    ·exact absurd (by rw [e]; exact zhd i1 k1 a1 a2) g.1
    ·rw [e] at g ⊢
     have g2 :(s.length:Int) +(k1:Int) =(s.length:Int) +(k:Int):=g.2
     have:k1=k:=by omega
     subst k1; rfl
    ·rw [e] at g
     have g2:nodU s o+1 =(s.length:Int) +(k:Int):=g.2
     unfold nodU at g2; omega
    ·rw [e] at g
     have g2:nodU s o+1 =(s.length:Int) +(k:Int):=g.2
     unfold nodU at g2; omega
   ·rw [if_neg g,if_neg g]
  rw [ze h1,z76]
  refine ze fun j hj=>?_
  by_cases hp:z48 s o (gt (z7 s o c b) (j:Int))=true
  ·rw [if_neg (fun g=>g hp)]
   exact z04 fun k hk=>if_neg fun g=>g.1 hp
  ·rw [if_pos hp]
   rcases z63 hj with⟨i1,k1,a1,a2,a3,e⟩ |⟨k1,hk1,e⟩ |⟨i1,hi1,e⟩ | e
   ·exact absurd (by rw [e]; exact zhd i1 k1 a1 a2) hp
   ·refine zf2 _ _ hk1 fun k hk=>?_
    rw [e]
    constructor
    ·rintro⟨_,g⟩
     have g :(s.length:Int) +(k1:Int) =(s.length:Int) +(k:Int):=g
     omega
    ·rintro rfl
     rw [e] at hp
     exact⟨hp,rfl⟩
   ·rw [e]
    refine(z04 fun k hk=>?_).trans (Int.mul_zero (y j)).symm
    split
    ·exact Int.mul_zero _
    ·rfl
   ·rw [e]
    refine(z04 fun k hk=>?_).trans (Int.mul_zero (y j)).symm
    split
    ·exact Int.mul_zero _
    ·rfl
 rw [e1,e3,<- z9d]
 refine ze fun j hj=>?_
 show _=y j *(gt (z7 s o c b) (j:Int)).cost
 by_cases hp:z48 s o (gt (z7 s o c b) (j:Int))=true
 ·rw [if_pos hp,if_neg (fun g=>g hp)]; omega
 ·rw [if_neg hp,if_pos hp]; omega
theorem y0c {l:List z6} : ∀ {X:Nat->Nat->Int},(∀ t∈l,(0<=t.supply/\t.supply <(s.length:Int))/\(0<=t.order/\t.order <(o.length:Int))/\0<=t.count)->
  (∀ i,z68 s o (l.foldl addX X) i<=z68 s o X i)/\∀ k,z39 s o (l.foldl addX X) k<=z39 s o X k:=by
 induction l with
 | nil=>intro X _; exact⟨fun _=>w1r _,fun _=>w1r _⟩
 | cons t l ih=>
  intro X h
  obtain⟨⟨a1,a2⟩,⟨a3,a4⟩,a5⟩:=h t (by simp)
  obtain⟨h1,h2⟩:=ih (X:=addX X t) fun u hu=>h u (w08 _ hu)
  refine⟨fun i=>?_,fun k=>?_⟩
  ·have:=h1 i
   rw [zm1 s o X t i (by omega)] at this
   show z68 s o (l.foldl addX (addX X t)) i<=_
   split at this <;> omega
  ·have:=h2 k
   rw [zn6 s o X t k (by omega)] at this
   show z39 s o (l.foldl addX (addX X t)) k<=_
   split at this <;> omega
theorem ydc {l:List z6} : ∀ {X:Nat->Nat->Int},(∀ t∈l,((0<=t.supply/\t.supply <(s.length:Int))/\(0<=t.order/\t.order <(o.length:Int))/\0<=t.count)/\b t.supply.toNat t.order.toNat=true)->
  (∀ i,i<s.length->0<=z68 s o (l.foldl addX X) i)->(∀ k,k<o.length->0<=z39 s o (l.foldl addX X) k)->okL s o b X l=true:=by
 induction l with
 | nil=>intro X _ _ _; rfl
 | cons t l ih=>
  intro X h h1 h2
  obtain⟨⟨⟨a1,a2⟩,⟨a3,a4⟩,a5⟩,a6⟩:=h t (by simp)
  obtain⟨g1,g2⟩:=y0c (s:=s) (o:=o) (l:=l) (X:=addX X t) fun u hu=>(h u (w08 _ hu)).1
  unfold okL
  rw [w02]
  refine⟨zil.2 ⟨⟨⟨a1,a2⟩,a3,a4⟩,a6,a5,?_,?_⟩,ih (fun u hu=>h u (w08 _ hu)) h1 h2⟩
  ·have e1:=g1 t.supply.toNat
   have e2:0<=z68 s o (l.foldl addX (addX X t)) t.supply.toNat:=h1 t.supply.toNat (by omega)
   rw [zm1 s o X t _ (by omega),if_pos rfl] at e1
   omega
  ·have e1:=g2 t.order.toNat
   have e2:0<=z39 s o (l.foldl addX (addX X t)) t.order.toNat:=h2 t.order.toNat (by omega)
   rw [zn6 s o X t _ (by omega),if_pos rfl] at e1
   omega
theorem ya6 {y:Nat->Int} {n:Nat} (hn:n<=(z7 s o c b).length) {t:z6} (ht:t∈trsI s o (z7 s o c b) y n) :((0<=t.supply/\t.supply <(s.length:Int))/\(0<=t.order/\t.order <(o.length:Int))/\0<=t.count)/\b t.supply.toNat t.order.toNat=true:=by
 unfold trsI at ht
 obtain⟨j,hj,ht⟩:=w14.1 ht
 have hj:=w0e.1 hj
 unfold trT at ht
 cases hp :(z48 s o (gt (z7 s o c b) (j:Int))&&decide (0<y j)) with
 | false=>rw [hp] at ht; cases ht
 | true=>
  rw [hp] at ht
  have ht:=w0b.1 ht
  rw [w02,decide_eq_true_eq] at hp
  obtain⟨i0,k0,hi0,hk0,hb0,e⟩:=zdh (by omega) hp.1
  rw [e] at ht
  subst ht
  show ((0<=(i0:Int)/\(i0:Int) <(s.length:Int))/\(0<=(s.length:Int) +(k0:Int) -(s.length:Int)/\(s.length:Int) +(k0:Int) -(s.length:Int) <(o.length:Int))/\0<=y j)/\b ((i0:Int)).toNat ((s.length:Int) +(k0:Int) -(s.length:Int)).toNat=true
  refine⟨⟨⟨by omega,by omega⟩,⟨by omega,by omega⟩,by omega⟩,?_⟩
  rw [show ((i0:Int)).toNat=i0 by omega,show ((s.length:Int) +(k0:Int) -(s.length:Int)).toNat=k0 by omega]
  exact hb0
theorem y6g {y:Nat->Int} (hf :(nwOf (netN s o c b)).Feas (atN (supN s o)) y):okL s o b (fun _ _=>0) (trsI s o (z7 s o c b) y (z7 s o c b).length)=true:=by
 have hp:=zsu hf
 have hfold:=zpn (s:=s) (o:=o) (c:=c) (b:=b) y (fun j hj=>(hf.bnd j hj).1) _ (w0g _)
 refine ydc (fun t ht=>ya6 (w0g _) ht) (fun i hi=>?_) (fun k hk=>?_)
 ·rw [hfold]
  have:=hp.row i hi
  unfold z68; omega
 ·rw [hfold]
  have:=hp.col k hk
  unfold z39; omega
theorem y0j (y:Nat->Int):∀ n,(trsI s o (z7 s o c b) y n).length<=n
 | 0=>by simp [trsI]
 | n+1=>by
  rw [zef,w0c]
  have:=y0j y n
  have :(trT s o (z7 s o c b) y n).length<=1:=by unfold trT; cases (z48 s o (gt (z7 s o c b) (n:Int))&&decide (0<y n)) <;> simp
  omega
end
theorem zz5 {φ:Nat} {p:Pool} {s:List z8} {o:List zg} (h:Val φ p s o) {y:Nat->Int} (hf :(nwOf (netF φ p s o)).Feas (atN (netF φ p s o).supply) y) :
  z3n φ p s o (trsI s o (netF φ p s o).arcs y (netF φ p s o).arcs.length)=some ((nwOf (netF φ p s o)).costS y,true,()):=by
 have hl:=y0j (s:=s) (o:=o) (c:=cF φ p s o) (b:=bF φ p s o) y (z7 s o (cF φ p s o) (bF φ p s o)).length
 have hal:=za6 s o (cF φ p s o) (bF φ p s o) h.hs h.ho
 rw [show (netF φ p s o).arcs=z7 s o (cF φ p s o) (bF φ p s o) from rfl,zpb h _ (by omega),y6g hf,zpn y (fun j hj=>(hf.bnd j hj).1) _ (w0g _),zrl hf]; rfl
theorem zyg {φ:Nat} {p:Pool} {s:List z8} {o:List zg} (h:Val φ p s o) {l:List z6} (hl:l.length<=100000):∃ c b,z3n φ p s o l=some (c,b,())/\(b=true->∃ y,(nwOf (netF φ p s o)).Feas (atN (netF φ p s o).supply) y/\(nwOf (netF φ p s o)).costS y=c):=by
 rw [zpb h l hl]
 cases hok:okL s o (bF φ p s o) (fun _ _=>0) l with
 | false=>exact⟨0,false,rfl,fun e=>by cases e⟩
 | true=>
  have hp:=zvh h.poss0 hok
  exact⟨_,true,rfl,fun _=>⟨_,hp.feas,hp.cost⟩⟩
end Px
end
section
namespace Px
open Go
def ydj (s:List z8) (o:List zg) (a a':Arc):Prop:=
 (z48 s o a=true->z48 s o a'=true->¬(a'.from_=a.from_/\a'.to=a.to))/\(z48 s o a=false->a.to<nodU s o->a'.to≠a.to)/\(z48 s o a=false->¬ a.to<nodU s o->a'.from_≠a.from_)
section
variable {s:List z8} {o:List zg} {c:Nat->Nat->Int} {b:Nat->Nat->Bool}
theorem y3i :(z7 s o c b).Pairwise (ydj s o):=by
 have hq:∀ {a:Arc},a∈zlj s o c b->∃ i k,i<s.length/\k<o.length/\a=arcQ s o c i k:=fun {a} h=>by
  unfold zlj arcR at h
  obtain⟨i,hi,h⟩:=w14.1 h
  obtain⟨k,hk,h⟩:=w14.1 h
  unfold arcP at h
  cases hb:b i k with
  | true=>rw [hb] at h; exact⟨i,k,w0e.1 hi,w0e.1 hk,w0b.1 h⟩
  | false=>rw [hb] at h; cases h
 unfold z7
 rw [List.pairwise_append]
 refine⟨?_,List.pairwise_singleton _ _,?_⟩
 ·rw [List.pairwise_append]
  refine⟨?_,?_,?_⟩
  ·rw [List.pairwise_append]
   refine⟨?_,?_,?_⟩
   ·unfold zlj
    rw [List.pairwise_flatMap]
    refine⟨fun i hi=>?_,?_⟩
    ·unfold arcR
     rw [List.pairwise_flatMap]
     refine⟨fun k hk=>?_,?_⟩
     ·unfold arcP
      cases b i k
      ·exact List.Pairwise.nil
      ·exact List.pairwise_singleton _ _
     ·refine List.Pairwise.imp_of_mem ?_ (List.pairwise_lt_range (n:=o.length))
      intro k1 k2 hk1 hk2 hlt x hx y hy
      unfold arcP at hx hy
      cases hb1:b i k1 with
      | false=>rw [hb1] at hx; cases hx
      | true=>
       cases hb2:b i k2 with
       | false=>rw [hb2] at hy; cases hy
       | true=>
        rw [hb1] at hx; rw [hb2] at hy
        have hx:=w0b.1 hx
        have hy:=w0b.1 hy
        have hp:=zhd (c:=c) i k1 (w0e.1 hi) (w0e.1 hk1)
        subst hx; subst hy
        refine⟨fun _ _ g=>?_,fun g=>?_,fun g=>?_⟩
        ·have g2 :(s.length:Int) +(k2:Int) =(s.length:Int) +(k1:Int):=g.2
         omega
        ·unfold arcQ at hp; rw [hp] at g; cases g
        ·unfold arcQ at hp; rw [hp] at g; cases g
    ·refine List.Pairwise.imp_of_mem ?_ (List.pairwise_lt_range (n:=s.length))
     intro i1 i2 hi1 hi2 hlt x hx y hy
     unfold arcR at hx hy
     obtain⟨k1,hk1,hx⟩:=w14.1 hx
     obtain⟨k2,hk2,hy⟩:=w14.1 hy
     unfold arcP at hx hy
     cases hb1:b i1 k1 with
     | false=>rw [hb1] at hx; cases hx
     | true=>
      cases hb2:b i2 k2 with
      | false=>rw [hb2] at hy; cases hy
      | true=>
       rw [hb1] at hx; rw [hb2] at hy
       have hx:=w0b.1 hx
       have hy:=w0b.1 hy
       have hp:=zhd (c:=c) i1 k1 (w0e.1 hi1) (w0e.1 hk1)
       subst hx; subst hy
       refine⟨fun _ _ g=>?_,fun g=>?_,fun g=>?_⟩
       ·have g2 :(i2:Int) =(i1:Int):=g.1
        omega
       ·unfold arcQ at hp; rw [hp] at g; cases g
       ·unfold arcQ at hp; rw [hp] at g; cases g
   ·rw [List.pairwise_map]
    refine List.Pairwise.imp_of_mem ?_ (List.pairwise_lt_range (n:=o.length))
    intro k1 k2 hk1 hk2 hlt
    refine⟨fun g=>(by rw [zn7] at g; cases g),fun _ _ g=>?_,fun _ g=>?_⟩
    ·have g2 :(s.length:Int) +(k2:Int) =(s.length:Int) +(k1:Int):=g
     omega
    ·have:=w0e.1 hk1
     exact absurd (show (s.length:Int) +(k1:Int)<nodU s o by unfold nodU; omega) g
   ·intro x hx y hy
    obtain⟨i,k,hi,hk,e⟩:=hq hx
    have hp:=zhd (c:=c) i k hi hk
    obtain⟨k2,hk2,e2⟩:=w0a.1 hy
    subst e; subst e2
    exact⟨fun _ g=>(by rw [zn7] at g; cases g),fun g=>(by rw [hp] at g; cases g),fun g=>(by rw [hp] at g; cases g)⟩
  ·rw [List.pairwise_map]
   refine List.Pairwise.imp_of_mem ?_ (List.pairwise_lt_range (n:=s.length))
   intro k1 k2 hk1 hk2 hlt
   refine⟨fun g=>(by rw [zom] at g; cases g),fun _ g=>?_,fun _ _ g=>?_⟩
   ·have g:nodU s o+1<nodU s o:=g
    omega
   ·have g2 :(k2:Int) =(k1:Int):=g
    omega
  ·intro x hx y hy
   obtain⟨i,hi,e⟩:=w0a.1 hy
   subst e
   rcases w0h.1 hx with hx | hx
   ·obtain⟨i,k,hi,hk,e⟩:=hq hx
    have hp:=zhd (c:=c) i k hi hk
    subst e
    exact⟨fun _ g=>(by rw [zom] at g; cases g),fun g=>(by rw [hp] at g; cases g),fun g=>(by rw [hp] at g; cases g)⟩
   ·obtain⟨k,hk,e⟩:=w0a.1 hx
    have hk:=w0e.1 hk
    subst e
    refine⟨fun g=>(by rw [zn7] at g; cases g),fun _ _ g=>?_,fun _ g=>?_⟩
    ·have g2:nodU s o+1 =(s.length:Int) +(k:Int):=g
     unfold nodU at g2; omega
    ·exact absurd (show (s.length:Int) +(k:Int)<nodU s o by unfold nodU; omega) g
 ·intro x hx y hy
  have hy:=w0b.1 hy
  subst hy
  rcases w0h.1 hx with hx | hx
  ·rcases w0h.1 hx with hx | hx
   ·obtain⟨i,k,hi,hk,e⟩:=hq hx
    have hp:=zhd (c:=c) i k hi hk
    subst e
    exact⟨fun _ g=>(by rw [zws] at g; cases g),fun g=>(by rw [hp] at g; cases g),fun g=>(by rw [hp] at g; cases g)⟩
   ·obtain⟨k,hk,e⟩:=w0a.1 hx
    have hk:=w0e.1 hk
    subst e
    refine⟨fun g=>(by rw [zn7] at g; cases g),fun _ _ g=>?_,fun _ g=>?_⟩
    ·have g2:nodU s o+1 =(s.length:Int) +(k:Int):=g
     unfold nodU at g2; omega
    ·exact absurd (show (s.length:Int) +(k:Int)<nodU s o by unfold nodU; omega) g
  ·obtain⟨i,hi,e⟩:=w0a.1 hx
   have hi:=w0e.1 hi
   subst e
   refine⟨fun g=>(by rw [zom] at g; cases g),fun _ g=>?_,fun _ _ g=>?_⟩
   ·have g:nodU s o+1<nodU s o:=g
    omega
   ·have g2:nodU s o =(i:Int):=g
    unfold nodU at g2; omega
theorem y68 {i j:Nat} (hij:i<j) (hj:j <(z7 s o c b).length):ydj s o (gt (z7 s o c b) (i:Int)) (gt (z7 s o c b) (j:Int)):=by
 rw [z4p (by omega),z4p hj]
 exact List.pairwise_iff_getElem.1 y3i i j (by omega) hj hij
end
def zg4 (s:List z8) (o:List zg) (a:Arc) (rest:List Int) (l:List z6):Option (Int×List z6):=
 if z48 s o a=true then(match l with
  | t::l'=>if t.supply=a.from_/\t.order=a.to -(s.length:Int) then(if t.count<1\/gt rest a.from_<t.count\/- gt rest a.to<t.count then none else some (t.count,l')) else some (0,l)
  | []=>some (0,[]))
 else if a.from_=nodU s o/\a.to<nodU s o then some (- gt rest a.to,l) else some (gt rest a.from_,l)
def znb (rest:List Int) (a:Arc) (z:Int):List Int:=zr (zr rest a.from_ (gt rest a.from_-z)) a.to (gt (zr rest a.from_ (gt rest a.from_-z)) a.to+z)
structure FI (s:List z8) (o:List zg) (c:Nat->Nat->Int) (b:Nat->Nat->Bool) (l0:List z6) (i:Nat) (x:List Int) (l:List z6) (rest:List Int):Prop where
 len:rest.length=s.length+o.length+2
 xl:x.length=i
 val:∀ v:Nat,v<s.length+o.length+2->atN rest v=atN (supN s o) v-outP (netN s o c b) (atN x) i v+inP (netN s o c b) (atN x) i v
 b1:∀ v:Nat,v<s.length->0<=atN rest v/\atN rest v<=4096
 b2:∀ k:Nat,k<o.length->-1000<=atN rest (s.length+k)/\atN rest (s.length+k)<=0
 b3 : -(30000+5000 *(i:Int))<=atN rest (s.length+o.length)/\atN rest (s.length+o.length)<=30000+5000 *(i:Int)
 b4 : -(30000+300000 *(i:Int))<=atN rest (s.length+o.length+1)/\atN rest (s.length+o.length+1)<=30000+300000 *(i:Int)
 tr:l0=trsI s o (z7 s o c b) (atN x) i++l
theorem zwi {x:List Int} {z:Int} {j:Nat} (h:j<x.length):atN (x++[z]) j=atN x j:=z7q _ _ _ (by omega) (by omega)
theorem zwq (x:List Int) (z:Int):atN (x++[z]) x.length=z:=by
 unfold atN; rw [z6c _ _ _ (by omega),Int.sub_self]; rfl
theorem y6y {rest:List Int} {a:Arc} {z:Int} (h1:0<=a.from_) (h2:a.from_ <(rest.length:Int)) (h3:0<=a.to) (h4:a.to <(rest.length:Int)) (h5:a.from_≠a.to) (v:Nat) :
  atN (znb rest a z) v=atN rest v -(if a.from_.toNat=v then z else 0)+if a.to.toNat=v then z else 0:=by
 unfold znb atN
 have f2:=z0i rest a.from_ a.to (gt rest a.from_-z) h1 h2 h3
 rw [z0i _ _ (v:Int) _ h3 (by rw [z0x]; exact h4) (by omega),f2,z0i _ _ (v:Int) _ h1 h2 (by omega)]
 by_cases e1 :(v:Int)=a.to
 ·rw [if_pos e1,if_neg (fun e=>h5 e.symm),if_neg (by omega),if_pos (by omega),<- e1]; omega
 ·rw [if_neg e1]
  by_cases e2 :(v:Int)=a.from_
  ·rw [if_pos e2,if_pos (by omega),if_neg (by omega),<- e2]; omega
  ·rw [if_neg e2,if_neg (by omega),if_neg (by omega)]; omega
section
variable {φ:Nat} {p:Pool} {s:List z8} {o:List zg} {c:Nat->Nat->Int} {b:Nat->Nat->Bool}
theorem FI.move (hs:s.length<=6) (ho:o.length<=6) {l0:List z6} {i:Nat} {x:List Int} {l:List z6} {rest:List Int} (h:FI s o c b l0 i x l rest) (hi:i <(z7 s o c b).length) {z:Int} {l':List z6} (hz:zg4 s o (gt (z7 s o c b) (i:Int)) rest l=some (z,l')) :
  FI s o c b l0 (i+1) (x++[z]) l' (znb rest (gt (z7 s o c b) (i:Int)) z)/\-1000000<=z/\z<=1000000:=by
 have hal:=za6 s o c b hs ho
 have hx:∀ j,j<i->atN (x++[z]) j=atN x j:=fun j hj=>zwi (by rw [h.xl]; exact hj)
 have hxi:atN (x++[z]) i=z:=by rw [<- h.xl]; exact zwq x z
 have hcg:∀ v,outP (netN s o c b) (atN (x++[z])) (i+1) v=outP (netN s o c b) (atN x) i v+if(gt (z7 s o c b) (i:Int)).from_.toNat=v then z else 0:=fun v=>by
  unfold outP
  show _ +(if _ then atN (x++[z]) i else 0)=_
  rw [hxi]
  congr 1
  exact ze fun j hj=>by rw [hx j hj]
 have hcg2:∀ v,inP (netN s o c b) (atN (x++[z])) (i+1) v=inP (netN s o c b) (atN x) i v+if(gt (z7 s o c b) (i:Int)).to.toNat=v then z else 0:=fun v=>by
  unfold inP
  show _ +(if _ then atN (x++[z]) i else 0)=_
  rw [hxi]
  congr 1
  exact ze fun j hj=>by rw [hx j hj]
 have htr:trsI s o (z7 s o c b) (atN (x++[z])) (i+1)=trsI s o (z7 s o c b) (atN x) i++(bif z48 s o (gt (z7 s o c b) (i:Int))&&decide (0<z) then [⟨(gt (z7 s o c b) (i:Int)).from_,(gt (z7 s o c b) (i:Int)).to -(s.length:Int),z⟩] else []):=by
  rw [zef,zfp hx]
  unfold trT
  rw [hxi]
 have mv:=fun h1 h2 h3 h4 h5=>y6y (rest:=rest) (a:=gt (z7 s o c b) (i:Int)) (z:=z) h1 h2 h3 h4 h5
 have hlen :(znb rest (gt (z7 s o c b) (i:Int)) z).length=s.length+o.length+2:=by unfold znb; rw [z0x,z0x,h.len]
 have hxl :(x++[z]).length=i+1:=by simp [h.xl]
 have hval :(∀ v,atN (znb rest (gt (z7 s o c b) (i:Int)) z) v=atN rest v -(if(gt (z7 s o c b) (i:Int)).from_.toNat=v then z else 0)+if(gt (z7 s o c b) (i:Int)).to.toNat=v then z else 0)->
   ∀ v:Nat,v<s.length+o.length+2->atN (znb rest (gt (z7 s o c b) (i:Int)) z) v=atN (supN s o) v-outP (netN s o c b) (atN (x++[z])) (i+1) v+inP (netN s o c b) (atN (x++[z])) (i+1) v:=fun hm v hv=>by
  rw [hm v,hcg v,hcg2 v,h.val v hv]; omega
 rcases z63 hi with⟨i0,k0,hi0,hk0,hb0,e⟩ |⟨k0,hk0,e⟩ |⟨i0,hi0,e⟩ | e
 ·have hp:=zhd (c:=c) i0 k0 hi0 hk0
  have hr1:=h.b1 i0 hi0
  have hr2:=h.b2 k0 hk0
  have hm:=mv (by rw [e]; show 0<=(i0:Int); omega) (by rw [e,h.len]; show (i0:Int)<_; omega) (by rw [e]; show 0<=(s.length:Int) +(k0:Int); omega) (by rw [e,h.len]; show (s.length:Int) +(k0:Int)<_; omega) (by rw [e]; show (i0:Int)≠(s.length:Int) +(k0:Int); omega)
  have hf :(gt (z7 s o c b) (i:Int)).from_.toNat=i0:=by rw [e]; show ((i0:Int)).toNat=i0; omega
  have ht :(gt (z7 s o c b) (i:Int)).to.toNat=s.length+k0:=by rw [e]; show ((s.length:Int) +(k0:Int)).toNat=_; omega
  have hzz :(0<=z/\z<=atN rest i0/\z<=- atN rest (s.length+k0))/\l =(bif decide (0<z) then [⟨(i0:Int),(s.length:Int) +(k0:Int) -(s.length:Int),z⟩] else [])++l':=by
   rw [e] at hz
   unfold zg4 at hz
   rw [if_pos hp] at hz
   have a1 :(arcQ s o c i0 k0).from_ =(i0:Int):=rfl
   have a2 :(arcQ s o c i0 k0).to =(s.length:Int) +(k0:Int):=rfl
   have a3:gt rest ((s.length:Int) +(k0:Int))=atN rest (s.length+k0):=by unfold atN; congr 1
   have a4:gt rest (i0:Int)=atN rest i0:=rfl
   cases l with
   | nil=>
    simp only [w00,w05] at hz
    obtain⟨rfl,rfl⟩:=hz
    exact⟨by omega,rfl⟩
   | cons t l2=>
    simp only at hz
    rw [a1,a2,a3,a4] at hz
    by_cases g:t.supply =(i0:Int)/\t.order =(s.length:Int) +(k0:Int) -(s.length:Int)
    ·rw [if_pos g] at hz
     by_cases g2:t.count<1\/atN rest i0<t.count\/- atN rest (s.length+k0)<t.count
     ·rw [if_pos g2] at hz; cases hz
     ·rw [if_neg g2] at hz
      simp only [w00,w05] at hz
      obtain⟨rfl,rfl⟩:=hz
      refine⟨by omega,?_⟩
      have:decide (0<t.count)=true:=by simp; omega
      rw [this,cond_true,<- g.1,<- g.2]; rfl
    ·rw [if_neg g] at hz
     simp only [w00,w05] at hz
     obtain⟨rfl,rfl⟩:=hz
     exact⟨by omega,rfl⟩
  obtain⟨⟨z1,z2,z3⟩,hl⟩:=hzz
  refine⟨⟨hlen,hxl,hval hm,fun v hv=>?_,fun k hk=>?_,?_,?_,?_⟩,by omega,by omega⟩
  ·rw [hm v,hf,ht]
   have:=h.b1 v hv
   by_cases g:i0=v
   ·subst g; rw [if_pos rfl,if_neg (by omega)]; omega
   ·rw [if_neg g,if_neg (by omega)]; omega
  ·rw [hm,hf,ht]
   have:=h.b2 k hk
   by_cases g:k0=k
   ·subst g; rw [if_pos rfl,if_neg (by omega)]; omega
   ·rw [if_neg (by omega),if_neg (by omega)]; omega
  ·rw [hm,hf,ht,if_neg (by omega),if_neg (by omega)]
   have:=h.b3; push_cast; omega
  ·rw [hm,hf,ht,if_neg (by omega),if_neg (by omega)]
   have:=h.b4; push_cast; omega
  ·rw [h.tr,htr,hl,e,hp,w1u,w0l]; rfl
 ·have hp:=zn7 (s:=s) (o:=o) k0
  have hr2:=h.b2 k0 hk0
  have hm:=mv (by rw [e]; show 0<=nodU s o; unfold nodU; omega) (by rw [e,h.len]; show nodU s o<_; unfold nodU; omega) (by rw [e]; show 0<=(s.length:Int) +(k0:Int); omega) (by rw [e,h.len]; show (s.length:Int) +(k0:Int)<_; omega) (by rw [e]; show nodU s o≠(s.length:Int) +(k0:Int); unfold nodU; omega)
  have hf :(gt (z7 s o c b) (i:Int)).from_.toNat=s.length+o.length:=by rw [e]; exact zhc
  have ht :(gt (z7 s o c b) (i:Int)).to.toNat=s.length+k0:=by rw [e]; show ((s.length:Int) +(k0:Int)).toNat=_; omega
  have hzz:z=- atN rest (s.length+k0)/\l=l':=by
   rw [e] at hz
   unfold zg4 at hz
   rw [hp,if_neg (by simp),if_pos ⟨rfl,show (s.length:Int) +(k0:Int)<nodU s o by unfold nodU; omega⟩] at hz
   simp only [w00,w05] at hz
   refine⟨?_,hz.2⟩
   rw [<- hz.1]
   show-gt rest ((s.length:Int) +(k0:Int))=_
   unfold atN; congr 2
  obtain⟨z1,rfl⟩:=hzz
  refine⟨⟨hlen,hxl,hval hm,fun v hv=>?_,fun k hk=>?_,?_,?_,?_⟩,by omega,by omega⟩
  ·rw [hm v,hf,ht,if_neg (by omega),if_neg (by omega)]
   have:=h.b1 v hv; omega
  ·rw [hm,hf,ht]
   have:=h.b2 k hk
   by_cases g:k0=k
   ·subst g; rw [if_pos rfl,if_neg (by omega)]; omega
   ·rw [if_neg (by omega),if_neg (by omega)]; omega
  ·rw [hm,hf,ht,if_pos rfl,if_neg (by omega)]
   have:=h.b3; push_cast; omega
  ·rw [hm,hf,ht,if_neg (by omega),if_neg (by omega)]
   have:=h.b4; push_cast; omega
  ·rw [h.tr,htr,e,hp,Bool.false_and]; simp
 ·have hp:=zom (s:=s) (o:=o) i0
  have hr1:=h.b1 i0 hi0
  have hm:=mv (by rw [e]; show 0<=(i0:Int); omega) (by rw [e,h.len]; show (i0:Int)<_; omega) (by rw [e]; show 0<=nodU s o+1; unfold nodU; omega) (by rw [e,h.len]; show nodU s o+1<_; unfold nodU; omega) (by rw [e]; show (i0:Int)≠nodU s o+1; unfold nodU; omega)
  have hf :(gt (z7 s o c b) (i:Int)).from_.toNat=i0:=by rw [e]; show ((i0:Int)).toNat=i0; omega
  have ht :(gt (z7 s o c b) (i:Int)).to.toNat=s.length+o.length+1:=by rw [e]; show (nodU s o+1).toNat=_; unfold nodU; omega
  have hzz:z=atN rest i0/\l=l':=by
   rw [e] at hz
   unfold zg4 at hz
   rw [hp,if_neg (by simp),if_neg (fun g=>by have g:nodU s o+1<nodU s o:=g.2; omega)] at hz
   simp only [w00,w05] at hz
   exact⟨hz.1.symm,hz.2⟩
  obtain⟨z1,rfl⟩:=hzz
  refine⟨⟨hlen,hxl,hval hm,fun v hv=>?_,fun k hk=>?_,?_,?_,?_⟩,by omega,by omega⟩
  ·rw [hm v,hf,ht]
   have:=h.b1 v hv
   by_cases g:i0=v
   ·subst g; rw [if_pos rfl,if_neg (by omega)]; omega
   ·rw [if_neg g,if_neg (by omega)]; omega
  ·rw [hm,hf,ht,if_neg (by omega),if_neg (by omega)]
   have:=h.b2 k hk; omega
  ·rw [hm,hf,ht,if_neg (by omega),if_neg (by omega)]
   have:=h.b3; push_cast; omega
  ·rw [hm,hf,ht,if_neg (by omega),if_pos rfl]
   have:=h.b4; push_cast; omega
  ·rw [h.tr,htr,e,hp,Bool.false_and]; simp
 ·have hp:=zws (s:=s) (o:=o)
  have hm:=mv (by rw [e]; show 0<=nodU s o; unfold nodU; omega) (by rw [e,h.len]; show nodU s o<_; unfold nodU; omega) (by rw [e]; show 0<=nodU s o+1; unfold nodU; omega) (by rw [e,h.len]; show nodU s o+1<_; unfold nodU; omega) (by rw [e]; show nodU s o≠nodU s o+1; omega)
  have hf :(gt (z7 s o c b) (i:Int)).from_.toNat=s.length+o.length:=by rw [e]; exact zhc
  have ht :(gt (z7 s o c b) (i:Int)).to.toNat=s.length+o.length+1:=by rw [e]; show (nodU s o+1).toNat=_; unfold nodU; omega
  have hzz:z=atN rest (s.length+o.length)/\l=l':=by
   rw [e] at hz
   unfold zg4 at hz
   rw [hp,if_neg (by simp),if_neg (fun g=>by have g:nodU s o+1<nodU s o:=g.2; omega)] at hz
   simp only [w00,w05] at hz
   refine⟨?_,hz.2⟩
   rw [<- hz.1]
   unfold atN nodU; congr 1
  obtain⟨z1,rfl⟩:=hzz
  have hb3:=h.b3
  refine⟨⟨hlen,hxl,hval hm,fun v hv=>?_,fun k hk=>?_,?_,?_,?_⟩,by omega,by omega⟩
  ·rw [hm v,hf,ht,if_neg (by omega),if_neg (by omega)]
   have:=h.b1 v hv; omega
  ·rw [hm,hf,ht,if_neg (by omega),if_neg (by omega)]
   have:=h.b2 k hk; omega
  ·rw [hm,hf,ht,if_pos rfl,if_neg (by omega)]
   push_cast; omega
  ·rw [hm,hf,ht,if_neg (by omega),if_pos rfl]
   have:=h.b4; push_cast; omega
  ·rw [h.tr,htr,e,hp,Bool.false_and]; simp
end
end Px
end
section
namespace Px
open Go
section
variable {φ:Nat} {p:Pool} {s:List z8} {o:List zg} {c:Nat->Nat->Int} {b:Nat->Nat->Bool}
theorem FI.bd {l0:List z6} {i:Nat} {x:List Int} {l:List z6} {rest:List Int} (h:FI s o c b l0 i x l rest) (hi:i<=49) (v:Int) (h0:0<=v) (hv:v <(s.length:Int) +(o.length:Int)+2) : -20000000<=gt rest v/\gt rest v<=20000000:=by
 obtain⟨n,rfl⟩:=Int.eq_ofNat_of_zero_le h0
 show -20000000<=atN rest n/\atN rest n<=20000000
 by_cases g1:n<s.length
 ·have:=h.b1 n g1; omega
 ·by_cases g2:n<s.length+o.length
  ·obtain⟨k,rfl⟩:∃ k,n=s.length+k:=⟨n-s.length,by omega⟩
   have:=h.b2 k (by omega); omega
  ·by_cases g3:n=s.length+o.length
   ·subst g3; have:=h.b3; omega
   ·have:n=s.length+o.length+1:=by omega
    subst this; have:=h.b4; omega
theorem zqs {j:Nat} (hj:j <(z7 s o c b).length) :(0<=(gt (z7 s o c b) (j:Int)).from_/\(gt (z7 s o c b) (j:Int)).from_ <(s.length:Int) +(o.length:Int)+2)/\(0<=(gt (z7 s o c b) (j:Int)).to/\(gt (z7 s o c b) (j:Int)).to <(s.length:Int) +(o.length:Int)+2)/\(gt (z7 s o c b) (j:Int)).from_≠(gt (z7 s o c b) (j:Int)).to:=by
 rcases z63 hj with⟨i0,k0,hi0,hk0,hb0,e⟩ |⟨k0,hk0,e⟩ |⟨i0,hi0,e⟩ | e
 ·rw [e]; show (0<=(i0:Int)/\(i0:Int)<_)/\(0<=(s.length:Int) +(k0:Int)/\(s.length:Int) +(k0:Int)<_)/\(i0:Int)≠(s.length:Int) +(k0:Int); omega
 ·rw [e]; show (0<=nodU s o/\nodU s o<_)/\(0<=(s.length:Int) +(k0:Int)/\(s.length:Int) +(k0:Int)<_)/\nodU s o≠(s.length:Int) +(k0:Int); unfold nodU; omega
 ·rw [e]; show (0<=(i0:Int)/\(i0:Int)<_)/\(0<=nodU s o+1/\nodU s o+1<_)/\(i0:Int)≠nodU s o+1; unfold nodU; omega
 ·rw [e]; show (0<=nodU s o/\nodU s o<_)/\(0<=nodU s o+1/\nodU s o+1<_)/\nodU s o≠nodU s o+1; unfold nodU; omega
theorem ztn (hs:s.length<=6) (ho:o.length<=6) {l0:List z6} {i:Nat} {x:List Int} {l:List z6} {rest:List Int} (h:FI s o c b l0 i x l rest) (hi:i <(z7 s o c b).length) (n:Nat) :
  zq φ (n+1) s l (nodU s o) (z7 s o c b) ((z7 s o c b).length:Int) (i:Int) x rest=match zg4 s o (gt (z7 s o c b) (i:Int)) rest l with
   | none=>some ([],false,())
   | some (z,l')=>zq φ n s l' (nodU s o) (z7 s o c b) ((z7 s o c b).length:Int) ((i+1:Nat):Int) (x++[z]) (znb rest (gt (z7 s o c b) (i:Int)) z):=by
 have hal:=za6 s o c b hs ho
 obtain⟨⟨f1,f2⟩,⟨t1,t2⟩,ft⟩:=zqs hi
 have hrl:=h.len
 have hxl:=h.xl
 have hbf:=h.bd (by omega) _ f1 f2
 have hbt:=h.bd (by omega) _ t1 t2
 have mv:=fun z l' (hz:zg4 s o (gt (z7 s o c b) (i:Int)) rest l=some (z,l'))=>h.move hs ho hi hz
 rw [zq,if_pos (by simp; omega),zb ⟨by omega,by omega⟩]
 generalize hA:gt (z7 s o c b) (i:Int)=a at *
 have hj:∀ z l',zg4 s o a rest l=some (z,l')->z2d φ (zq φ n) s l' (nodU s o) z (z7 s o c b) ((z7 s o c b).length:Int) (i:Int) x rest a=zq φ n s l' (nodU s o) (z7 s o c b) ((z7 s o c b).length:Int) ((i+1:Nat):Int) (x++[z]) (znb rest a z):=fun z l' hz=>by
  obtain⟨_,z1,z2⟩:=mv z l' hz
  have e2:gt (zr rest a.from_ (gt rest a.from_-z)) a.to=gt rest a.to:=by
   rw [z0i _ _ _ _ f1 (by omega) t1,if_neg (fun e=>ft e.symm)]
  unfold z2d znb
  rw [W_id (x:=gt rest a.from_-z) (by omega) (by omega),e2,W_id (x:=gt rest a.to+z) (by omega) (by omega),W_id (x:=(i:Int)+1) (by omega) (by omega),zb ⟨f1,by omega⟩,zb ⟨f1,by omega⟩,zb ⟨t1,by rw [z0x]; omega⟩,zb ⟨t1,by rw [z0x]; omega⟩,zb (by simp [fits]; omega),show (i:Int)+1 =((i+1:Nat):Int) by omega]
 have hp :(decide (a.from_ <(s.length:Int))&&decide (a.to<nodU s o))=z48 s o a:=rfl
 have hW0:W (0-gt rest a.to)=- gt rest a.to:=by rw [Int.zero_sub]; exact W_id (by omega) (by omega)
 have hW1:W (a.to -(s.length:Int))=a.to -(s.length:Int):=W_id (by omega) (by omega)
 rw [hp,hW0,hW1]
 unfold zg4 at hj ⊢
 by_cases hpa:z48 s o a=true
 ·rw [if_pos hpa]
  simp only [if_pos hpa] at hj ⊢
  cases l with
  | nil=>
   rw [zb (by simp),zb (by simp),if_neg (by simp)]
   exact hj 0 [] rfl
  | cons t l2=>
   have g0:gt (t::l2) 0=t:=rfl
   have hl0 :(0:Int) <((t::l2).length:Int):=by rw [w0t]; omega
   have hd:decide ((0:Int) <((t::l2).length:Int))=true:=decide_eq_true hl0
   rw [zb (fun _=>⟨by omega,hl0⟩),zb (fun _=>⟨by omega,hl0⟩),g0,hd,w1u]
   simp only at hj ⊢
   have hpart:z4e (t::l2) (1:Int).toNat (((t::l2).length:Int)).toNat=l2:=by simp [z4e]
   by_cases g:t.supply=a.from_/\t.order=a.to -(s.length:Int)
   ·have e1 :((t.supply==a.from_)&&(t.order==a.to -(s.length:Int)))=true:=by simp [g.1,g.2]
    rw [if_pos e1,zb ⟨by omega,hl0⟩,zb (fun _=>⟨f1,by omega⟩),zb (fun _=>⟨t1,by omega⟩),if_pos g]
    simp only [if_pos g] at hj
    by_cases g2:t.count<1\/gt rest a.from_<t.count\/- gt rest a.to<t.count
    ·rw [if_pos (by simp only [w0q,decide_eq_true_eq]; omega),if_pos g2]
    ·rw [if_neg (by simp only [w0q,decide_eq_true_eq]; omega),if_neg g2,zb ⟨by omega,by simp; omega,by omega⟩,hpart]
     exact hj _ _ (if_neg g2)
   ·have e1:¬((t.supply==a.from_)&&(t.order==a.to -(s.length:Int)))=true:=by
     simp only [w02,beq_iff_eq]; exact g
    rw [if_neg e1,if_neg g]
    exact hj _ _ (if_neg g)
 ·rw [if_neg hpa]
  simp only [if_neg hpa] at hj ⊢
  by_cases g:a.from_=nodU s o/\a.to<nodU s o
  ·have e1 :((a.from_==nodU s o)&&decide (a.to<nodU s o))=true:=by simp [g.1,g.2]
   rw [if_pos e1,zb ⟨t1,by omega⟩,if_pos g]
   exact hj _ _ (if_pos g)
  ·have e1:¬((a.from_==nodU s o)&&decide (a.to<nodU s o))=true:=by
    simp only [w02,beq_iff_eq,decide_eq_true_eq]; exact g
   rw [if_neg e1,zb ⟨f1,by omega⟩,if_neg g]
   exact hj _ _ (if_neg g)
theorem zs4 {l0:List z6} {x:List Int} {l:List z6} {rest:List Int} (n:Nat) :
  zq φ (n+1) s l (nodU s o) (z7 s o c b) ((z7 s o c b).length:Int) ((z7 s o c b).length:Int) x rest=some (x,((l.length:Int)==0),()):=by
 rw [zq,if_neg (by simp)]
theorem zxt (hs:s.length<=6) (ho:o.length<=6) {l0:List z6} : ∀(d n i:Nat) (x:List Int) (l:List z6) (rest:List Int),(z7 s o c b).length-i=d->i<=(z7 s o c b).length->d<n->FI s o c b l0 i x l rest->
  ∃ x' k,zq φ n s l (nodU s o) (z7 s o c b) ((z7 s o c b).length:Int) (i:Int) x rest=some (x',k,())/\(k=true->x'.length =(z7 s o c b).length/\l0=trsI s o (z7 s o c b) (atN x') (z7 s o c b).length):=by
 intro d
 induction d with
 | zero=>
  intro n i x l rest hd hi hn h
  obtain⟨n,rfl⟩:∃ n',n=n'+1:=⟨n-1,by omega⟩
  have:i =(z7 s o c b).length:=by omega
  subst this
  refine⟨x,_,zs4 (l0:=l0) n,fun hk=>⟨h.xl,?_⟩⟩
  have:l = []:=w0w (by have:=beq_iff_eq.1 hk; omega)
  rw [h.tr,this,w06]
 | succ d ih=>
  intro n i x l rest hd hi hn h
  obtain⟨n,rfl⟩:∃ n',n=n'+1:=⟨n-1,by omega⟩
  rw [ztn hs ho h (by omega) n]
  cases hz:zg4 s o (gt (z7 s o c b) (i:Int)) rest l with
  | none=>exact⟨[],false,rfl,fun hk=>by cases hk⟩
  | some w=>
   obtain⟨z,l'⟩:=w
   exact ih n (i+1) _ _ _ (by omega) (by omega) (by omega) (h.move hs ho (by omega) hz).1
theorem zol {f:Nat->Int} {i:Nat} : ∀ {m:Nat},i<=m->(∀ j,i<=j->j<m->f j=0)->sumN m f=sumN i f
 | 0,hi,_=>by rw [show i=0 by omega]
 | m+1,hi,h=>by
  by_cases e:i=m+1
  ·rw [e]
  ·rw [show sumN (m+1) f=sumN m f+f m from rfl,zol (m:=m) (i:=i) (by omega) fun j h1 h2=>h j h1 (by omega),h m (by omega) (by omega)]; omega
def trsJ (s:List z8) (o:List zg) (arcs:List Arc) (y:Nat->Int) (i n:Nat):List z6:=(List.range' i n).flatMap (trT s o arcs y)
theorem y2e (arcs:List Arc) (y:Nat->Int) (i n:Nat):trsJ s o arcs y i (n+1)=trT s o arcs y i++trsJ s o arcs y (i+1) n:=by
 unfold trsJ; rw [List.range'_succ,w0i]
theorem zyt (arcs:List Arc) (y:Nat->Int) (i n:Nat):trsI s o arcs y (i+n)=trsI s o arcs y i++trsJ s o arcs y i n:=by
 unfold trsI trsJ
 rw [w24,w24,<- w13]
 congr 1
 have:=List.range'_append_1 (s:=0) (m:=i) (n:=n)
 rw [w0y] at this
 exact this.symm
theorem y2y (hs:s.length<=6) (ho:o.length<=6) {y:Nat->Int} (hf :(nwOf (netN s o c b)).Feas (atN (supN s o)) y) {i:Nat} {x:List Int} {l:List z6} {rest:List Int} (h:FI s o c b (trsI s o (z7 s o c b) y (z7 s o c b).length) i x l rest) (hi:i <(z7 s o c b).length) (hx:∀ j,j<i->atN x j=y j) :
  ∃ l',zg4 s o (gt (z7 s o c b) (i:Int)) rest l=some (y i,l'):=by
 have hl:l=trT s o (z7 s o c b) y i++trsJ s o (z7 s o c b) y (i+1) ((z7 s o c b).length-i-1):=by
  have h1:=h.tr
  rw [zfp hx] at h1
  have h2:=zyt (s:=s) (o:=o) (z7 s o c b) y i ((z7 s o c b).length-i)
  rw [show i +((z7 s o c b).length-i) =(z7 s o c b).length by omega] at h2
  rw [h2] at h1
  have h3:=List.append_cancel_left h1
  rw [<- h3,show (z7 s o c b).length-i =((z7 s o c b).length-i-1)+1 by omega,y2e]
  rfl
 have hy0:=(hf.bnd i hi).1
 -- what is left is what flows later
 have hout:∀ v:Nat,v<s.length+o.length+2->atN rest v =((nwOf (netN s o c b)).outS y v-sumN i fun j=>if(nwOf (netN s o c b)).fr j=v then y j else 0) -((nwOf (netN s o c b)).inS y v-sumN i fun j=>if(nwOf (netN s o c b)).to j=v then y j else 0):=fun v hv=>by
  have h1:=hf.exc v (show v <(supN s o).length by rw [z85]; exact hv)
  have h2:=h.val v hv
  unfold Nw.exc at h1
  unfold outP inP at h2
  have e1 :(sumN i fun j=>if(nwOf (netN s o c b)).fr j=v then atN x j else 0)=sumN i fun j=>if(nwOf (netN s o c b)).fr j=v then y j else 0:=ze fun j hj=>by rw [hx j hj]
  have e2 :(sumN i fun j=>if(nwOf (netN s o c b)).to j=v then atN x j else 0)=sumN i fun j=>if(nwOf (netN s o c b)).to j=v then y j else 0:=ze fun j hj=>by rw [hx j hj]
  rw [e1,e2] at h2
  omega
 have mono:∀(P:Nat->Prop) [DecidablePred P],P i->(sumN i fun j=>if P j then y j else 0)+y i<=sumN (z7 s o c b).length fun j=>if P j then y j else 0:=fun P _ hP=>by
  have:=zml (f:=fun j=>if P j then y j else 0) (m:=(z7 s o c b).length) (i:=i+1) (by omega) fun j hj=>by
   have:=(hf.bnd j hj).1
   show 0<=if P j then y j else 0
   split <;> omega
  rw [show sumN (i+1) (fun j=>if P j then y j else 0) =(sumN i fun j=>if P j then y j else 0) +(if P i then y i else 0) from rfl,if_pos hP] at this
  exact this
 have still:∀(P:Nat->Prop) [DecidablePred P],P i->(∀ j,i<j->j <(z7 s o c b).length->¬ P j)->(sumN (z7 s o c b).length fun j=>if P j then y j else 0) =(sumN i fun j=>if P j then y j else 0)+y i:=fun P _ hP hn=>by
  rw [zol (i:=i+1) (by omega) fun j h1 h2=>if_neg (hn j (by omega) h2)]
  show _ +(if P i then y i else 0)=_
  rw [if_pos hP]
 have zero:∀(P:Nat->Prop) [DecidablePred P],(∀ j,j <(z7 s o c b).length->¬ P j)->(sumN (z7 s o c b).length fun j=>if P j then y j else 0)=0/\(sumN i fun j=>if P j then y j else 0)=0:=fun P _ hn=>
  ⟨z04 fun j hj=>if_neg (hn j hj),z04 fun j hj=>if_neg (hn j (by omega))⟩
 have noin:∀ v:Nat,v<s.length\/v=s.length+o.length->∀ j,j <(z7 s o c b).length->¬(nwOf (netN s o c b)).to j=v:=fun v hv j hj g=>by
  have g :(gt (z7 s o c b) (j:Int)).to.toNat=v:=g
  rcases z63 hj with⟨i0,k0,hi0,hk0,hb0,e⟩ |⟨k0,hk0,e⟩ |⟨i0,hi0,e⟩ | e
  ·rw [e] at g; have g :((s.length:Int) +(k0:Int)).toNat=v:=g; omega
  ·rw [e] at g; have g :((s.length:Int) +(k0:Int)).toNat=v:=g; omega
  ·rw [e] at g; have g :(nodU s o+1).toNat=v:=g; unfold nodU at g; omega
  ·rw [e] at g; have g :(nodU s o+1).toNat=v:=g; unfold nodU at g; omega
 have noout:∀ k:Nat,k<o.length->∀ j,j <(z7 s o c b).length->¬(nwOf (netN s o c b)).fr j=s.length+k:=fun k hk j hj g=>by
  have g :(gt (z7 s o c b) (j:Int)).from_.toNat=s.length+k:=g
  rcases z63 hj with⟨i0,k0,hi0,hk0,hb0,e⟩ |⟨k0,hk0,e⟩ |⟨i0,hi0,e⟩ | e
  ·rw [e] at g; have g :((i0:Int)).toNat=_:=g; omega
  ·rw [e] at g; have g :(nodU s o).toNat=_:=g; unfold nodU at g; omega
  ·rw [e] at g; have g :((i0:Int)).toNat=_:=g; omega
  ·rw [e] at g; have g :(nodU s o).toNat=_:=g; unfold nodU at g; omega
 have lat:=fun j (h1:i<j) (h2:j <(z7 s o c b).length)=>y68 (s:=s) (o:=o) (c:=c) (b:=b) h1 h2
 rcases z63 hi with⟨i0,k0,hi0,hk0,hb0,e⟩ |⟨k0,hk0,e⟩ |⟨i0,hi0,e⟩ | e
 ·-- from a supply to an order
  have hp:=zhd (c:=c) i0 k0 hi0 hk0
  have hr:y i<=atN rest i0:=by
   rw [hout i0 (by omega)]
   have h1:=zero (fun j=>(nwOf (netN s o c b)).to j=i0) (noin i0 (.inl hi0))
   have h2:=mono (fun j=>(nwOf (netN s o c b)).fr j=i0) (by show (gt (z7 s o c b) (i:Int)).from_.toNat=i0; rw [e]; show ((i0:Int)).toNat=i0; omega)
   have h3 :(nwOf (netN s o c b)).inS y i0=0:=h1.1
   have h4 :(nwOf (netN s o c b)).outS y i0=sumN (z7 s o c b).length fun j=>if(nwOf (netN s o c b)).fr j=i0 then y j else 0:=rfl
   rw [h3,h1.2,h4]
   omega
  have hr2:y i<=- atN rest (s.length+k0):=by
   rw [hout _ (by omega)]
   have h1:=zero (fun j=>(nwOf (netN s o c b)).fr j=s.length+k0) (noout k0 hk0)
   have h2:=mono (fun j=>(nwOf (netN s o c b)).to j=s.length+k0) (by show (gt (z7 s o c b) (i:Int)).to.toNat=_; rw [e]; show ((s.length:Int) +(k0:Int)).toNat=_; omega)
   have h3 :(nwOf (netN s o c b)).outS y (s.length+k0)=0:=h1.1
   have h4 :(nwOf (netN s o c b)).inS y (s.length+k0)=sumN (z7 s o c b).length fun j=>if(nwOf (netN s o c b)).to j=s.length+k0 then y j else 0:=rfl
   rw [h3,h1.2,h4]
   omega
  have hpe:z48 s o (gt (z7 s o c b) (i:Int))=true:=by rw [e]; exact hp
  unfold trT at hl
  rw [hpe] at hl
  unfold zg4
  rw [if_pos hpe]
  by_cases h0:0<y i
  ·rw [show decide (0<y i)=true by simpa using h0] at hl
   rw [hl]
   show ∃ l',(if _/\_ then _ else _)=some (y i,l')
   rw [if_pos ⟨rfl,rfl⟩,if_neg,]
   ·exact⟨_,rfl⟩
   ·show ¬(y i<1\/gt rest (gt (z7 s o c b) (i:Int)).from_<y i\/- gt rest (gt (z7 s o c b) (i:Int)).to<y i)
    rw [e]
    have q1:gt rest (arcQ s o c i0 k0).from_=atN rest i0:=rfl
    have q2:gt rest (arcQ s o c i0 k0).to=atN rest (s.length+k0):=by unfold atN; congr 1
    rw [q1,q2]; omega
  ·have hyz:y i=0:=by omega
   rw [show decide (0<y i)=false by simpa using h0] at hl
   have hl:l=trsJ s o (z7 s o c b) y (i+1) ((z7 s o c b).length-i-1):=hl
   rw [hyz]
   cases hc:l with
   | nil=>exact⟨[],rfl⟩
   | cons t l2=>
    refine⟨t::l2,?_⟩
    show (if _/\_ then _ else _)=_
    rw [if_neg]
    rintro⟨g1,g2⟩
    have ht:t∈trsJ s o (z7 s o c b) y (i+1) ((z7 s o c b).length-i-1):=by rw [<- hl,hc]; simp
    unfold trsJ at ht
    obtain⟨j,hj,ht⟩:=w14.1 ht
    have hj:=List.mem_range'_1.1 hj
    have hL:=(lat j (by omega) (by omega)).1 hpe
    unfold trT at ht
    cases hpj:z48 s o (gt (z7 s o c b) (j:Int)) with
    | false=>rw [hpj] at ht; cases ht
    | true=>
     cases hdj:decide (0<y j) with
     | false=>rw [hpj,hdj] at ht; cases ht
     | true=>
      rw [hpj,hdj] at ht
      have ht:=w0b.1 ht
      rw [ht] at g1 g2
      have g1 :(gt (z7 s o c b) (j:Int)).from_ =(gt (z7 s o c b) (i:Int)).from_:=g1
      have g2 :(gt (z7 s o c b) (j:Int)).to -(s.length:Int) =(gt (z7 s o c b) (i:Int)).to -(s.length:Int):=g2
      exact hL hpj ⟨g1,by omega⟩
 ·have hp:z48 s o (gt (z7 s o c b) (i:Int))=false:=by rw [e]; exact zn7 k0
  have hto :(gt (z7 s o c b) (i:Int)).to<nodU s o:=by rw [e]; show (s.length:Int) +(k0:Int)<nodU s o; unfold nodU; omega
  unfold zg4
  rw [if_neg (by rw [hp]; simp),if_pos ⟨by rw [e]; rfl,hto⟩]
  refine⟨l,?_⟩
  congr 2
  have q2:gt rest (gt (z7 s o c b) (i:Int)).to=atN rest (s.length+k0):=by rw [e]; unfold atN; congr 1
  have h1:=zero (fun j=>(nwOf (netN s o c b)).fr j=s.length+k0) (noout k0 hk0)
  have h2:=still (fun j=>(nwOf (netN s o c b)).to j=s.length+k0) (by show (gt (z7 s o c b) (i:Int)).to.toNat=_; rw [e]; show ((s.length:Int) +(k0:Int)).toNat=_; omega) fun j j1 j2 g=>by
   have g :(gt (z7 s o c b) (j:Int)).to.toNat=s.length+k0:=g
   have hL:=(lat j j1 j2).2.1 hp hto
   have:=(zqs (s:=s) (o:=o) (c:=c) (b:=b) j2).2.1.1
   apply hL
   rw [e]
   show _ =(s.length:Int) +(k0:Int)
   omega
  have h3 :(nwOf (netN s o c b)).outS y (s.length+k0)=0:=h1.1
  have h4 :(nwOf (netN s o c b)).inS y (s.length+k0)=sumN (z7 s o c b).length fun j=>if(nwOf (netN s o c b)).to j=s.length+k0 then y j else 0:=rfl
  rw [q2,hout _ (by omega),h3,h1.2,h4,h2]
  omega
 ·have hp:z48 s o (gt (z7 s o c b) (i:Int))=false:=by rw [e]; exact zom i0
  have hto:¬(gt (z7 s o c b) (i:Int)).to<nodU s o:=by rw [e]; show ¬ nodU s o+1<nodU s o; omega
  unfold zg4
  rw [if_neg (by rw [hp]; simp),if_neg (fun g=>hto g.2)]
  refine⟨l,?_⟩
  congr 2
  have q2:gt rest (gt (z7 s o c b) (i:Int)).from_=atN rest i0:=by rw [e]; rfl
  have h1:=zero (fun j=>(nwOf (netN s o c b)).to j=i0) (noin i0 (.inl hi0))
  have h2:=still (fun j=>(nwOf (netN s o c b)).fr j=i0) (by show (gt (z7 s o c b) (i:Int)).from_.toNat=_; rw [e]; show ((i0:Int)).toNat=_; omega) fun j j1 j2 g=>by
   have g :(gt (z7 s o c b) (j:Int)).from_.toNat=i0:=g
   have hL:=(lat j j1 j2).2.2 hp hto
   have:=(zqs (s:=s) (o:=o) (c:=c) (b:=b) j2).1.1
   apply hL
   rw [e]
   show _ =(i0:Int)
   omega
  have h3 :(nwOf (netN s o c b)).inS y i0=0:=h1.1
  have h4 :(nwOf (netN s o c b)).outS y i0=sumN (z7 s o c b).length fun j=>if(nwOf (netN s o c b)).fr j=i0 then y j else 0:=rfl
  rw [q2,hout _ (by omega),h3,h1.2,h4,h2]
  omega
 ·have hp:z48 s o (gt (z7 s o c b) (i:Int))=false:=by rw [e]; exact zws
  have hto:¬(gt (z7 s o c b) (i:Int)).to<nodU s o:=by rw [e]; show ¬ nodU s o+1<nodU s o; omega
  unfold zg4
  rw [if_neg (by rw [hp]; simp),if_neg (fun g=>hto g.2)]
  refine⟨l,?_⟩
  congr 2
  have q2:gt rest (gt (z7 s o c b) (i:Int)).from_=atN rest (s.length+o.length):=by rw [e]; unfold atN nodU; congr 1
  have h1:=zero (fun j=>(nwOf (netN s o c b)).to j=s.length+o.length) (noin _ (.inr rfl))
  have h2:=still (fun j=>(nwOf (netN s o c b)).fr j=s.length+o.length) (by show (gt (z7 s o c b) (i:Int)).from_.toNat=_; rw [e]; exact zhc) fun j j1 j2 g=>by
   have g :(gt (z7 s o c b) (j:Int)).from_.toNat=s.length+o.length:=g
   have hL:=(lat j j1 j2).2.2 hp hto
   have:=(zqs (s:=s) (o:=o) (c:=c) (b:=b) j2).1.1
   apply hL
   rw [e]
   show _=nodU s o
   unfold nodU
   omega
  have h3 :(nwOf (netN s o c b)).inS y (s.length+o.length)=0:=h1.1
  have h4 :(nwOf (netN s o c b)).outS y (s.length+o.length)=sumN (z7 s o c b).length fun j=>if(nwOf (netN s o c b)).fr j=s.length+o.length then y j else 0:=rfl
  rw [q2,hout _ (by omega),h3,h1.2,h4,h2]
  omega
theorem zpm (hs:s.length<=6) (ho:o.length<=6) {y:Nat->Int} (hf :(nwOf (netN s o c b)).Feas (atN (supN s o)) y):∀(d n i:Nat) (x:List Int) (l:List z6) (rest:List Int),(z7 s o c b).length-i=d->i<=(z7 s o c b).length->d<n->FI s o c b (trsI s o (z7 s o c b) y (z7 s o c b).length) i x l rest->(∀ j,j<i->atN x j=y j)->
  ∃ x',zq φ n s l (nodU s o) (z7 s o c b) ((z7 s o c b).length:Int) (i:Int) x rest=some (x',true,())/\x'.length =(z7 s o c b).length/\∀ j,j <(z7 s o c b).length->atN x' j=y j:=by
 intro d
 induction d with
 | zero=>
  intro n i x l rest hd hi hn h hx
  obtain⟨n,rfl⟩:∃ n',n=n'+1:=⟨n-1,by omega⟩
  have:i =(z7 s o c b).length:=by omega
  subst this
  refine⟨x,?_,h.xl,hx⟩
  have h1:=h.tr
  rw [zfp hx] at h1
  have:l = []:=by
   have h2:trsI s o (z7 s o c b) y (z7 s o c b).length++[]=trsI s o (z7 s o c b) y (z7 s o c b).length++l:=by rw [w06]; exact h1
   exact(List.append_cancel_left h2).symm
  rw [this,zs4 (l0:=[]) n]; rfl
 | succ d ih=>
  intro n i x l rest hd hi hn h hx
  obtain⟨n,rfl⟩:∃ n',n=n'+1:=⟨n-1,by omega⟩
  rw [ztn hs ho h (by omega) n]
  obtain⟨l',hz⟩:=y2y hs ho hf h (by omega) hx
  rw [hz]
  refine ih n (i+1) _ _ _ (by omega) (by omega) (by omega) (h.move hs ho (by omega) hz).1 fun j hj=>?_
  by_cases e:j=i
  ·subst e
   have:=zwq x (y j)
   rw [h.xl] at this; exact this
  ·rw [zwi (by rw [h.xl]; omega)]; exact hx j (by omega)
end
theorem zof {φ:Nat} {p:Pool} {s:List z8} {o:List zg} (h:Val φ p s o) (l0:List z6):FI s o (cF φ p s o) (bF φ p s o) l0 0 [] l0 (supN s o) where
 len:=z85 s o
 xl:=rfl
 val:=fun v hv=>by unfold outP inP; simp [sumN]
 b1:=fun v hv=>by rw [zr9 hv]; have:=h.sc hv; omega
 b2:=fun k hk=>by rw [zth hk]; have:=h.oc hk; omega
 b3:=by rw [zw6]; have:=h.sumC_bd; omega
 b4:=by rw [zw2]; have:=h.sumS_bd; omega
 tr:=rfl
theorem y1s {φ:Nat} {p:Pool} {s:List z8} {o:List zg} (h:Val φ p s o) (l:List z6):z6e φ (netF φ p s o) s o l=zq φ φ s l (nodU s o) (z7 s o (cF φ p s o) (bF φ p s o)) ((z7 s o (cF φ p s o) (bF φ p s o)).length:Int) 0 [] (supN s o):=by
 have hsl:=z85 s o
 have hs:=h.hs
 have ho:=h.ho
 unfold z6e za8
 show (ck ((supN s o).isEmpty=false) _).bind _=_
 rw [zb (by cases hc:supN s o with
  | nil=>rw [hc] at hsl; simp at hsl
  | cons _ _=>rfl)]
 show (ck (fits (([]:List Int).length +(supN s o).length) 8) _).bind _=_
 rw [zb (by simp [fits,hsl]; omega),w03,W_id (x:=(s.length:Int) +(o.length:Int)) (by omega) (by omega)]
 rfl
theorem y8u {φ:Nat} {p:Pool} {s:List z8} {o:List zg} (h:Val φ p s o) (l:List z6) :
  ∃ x k,z6e φ (netF φ p s o) s o l=some (x,k,())/\(k=true->x.length =(netF φ p s o).arcs.length/\l=trsI s o (netF φ p s o).arcs (atN x) (netF φ p s o).arcs.length):=by
 have hal:=za6 s o (cF φ p s o) (bF φ p s o) h.hs h.ho
 have hφ:=h.hφ
 rw [y1s h l]
 exact zxt h.hs h.ho _ φ 0 [] l (supN s o) rfl (by omega) (by omega) (zof h l)
theorem y6h {φ:Nat} {p:Pool} {s:List z8} {o:List zg} (h:Val φ p s o) {y:Nat->Int} (hf :(nwOf (netF φ p s o)).Feas (atN (netF φ p s o).supply) y) :
  ∃ x,z6e φ (netF φ p s o) s o (trsI s o (netF φ p s o).arcs y (netF φ p s o).arcs.length)=some (x,true,())/\x.length =(netF φ p s o).arcs.length/\∀ j,j <(netF φ p s o).arcs.length->atN x j=y j:=by
 have hal:=za6 s o (cF φ p s o) (bF φ p s o) h.hs h.ho
 have hφ:=h.hφ
 rw [y1s h]
 exact zpm h.hs h.ho hf _ φ 0 [] _ (supN s o) rfl (by omega) (by omega) (zof h _) (fun j hj=>by omega)
end Px
end
section
namespace Px
open Go
def PrOK (n:zj) (l:List Int):Prop:=l.length=n.supply.length/\∀ p∈l,-1125899906842624<=p/\p<=1125899906842624
structure AccP (φ:Nat) (p:Pool) (s:List z8) (o:List zg) (x:Plan) (y:List Int):Prop where
 len:y.length =(netF φ p s o).arcs.length
 tr:x.transfers=trsI s o (netF φ p s o).arcs (atN y) (netF φ p s o).arcs.length
 feas :(nwOf (netF φ p s o)).Feas (atN (netF φ p s o).supply) (atN y)
 pr:PrOK (netF φ p s o) x.price
 tight :(nwOf (netF φ p s o)).Tight (atN y) (atN x.price)
 cost :(nwOf (netF φ p s o)).costS (atN y)=x.cost
theorem zui {α:Type} [Inhabited α] {l m:List α} (h:l.length=m.length) (hv:∀ j:Nat,j<l.length->gt l (j:Int)=gt m (j:Int)):l=m:=by
 refine List.ext_getElem h fun j h1 h2=>?_
 rw [<- z4p h1,<- z4p h2]; exact hv j h1
section
variable {φ:Nat} {p:Pool} {s:List z8} {o:List zg}
theorem Val.cost_bd (h:Val φ p s o) {y:Nat->Int} (hf :(nwOf (netF φ p s o)).Feas (atN (netF φ p s o).supply) y):0<=(nwOf (netF φ p s o)).costS y/\(nwOf (netF φ p s o)).costS y<=42000000000000:=by
 have hp:=zsu hf
 have h1:=h.sumXC_bd hp
 have h2:=zd0 (m:=o.length) (f:=fun k=>z39 s o (XY s o (z7 s o (cF φ p s o) (bF φ p s o)) y (z7 s o (cF φ p s o) (bF φ p s o)).length) k *(gt o (k:Int)).weight) (B:=1000000000000) fun k hk=>by
  have e1:=h.open_bd hp hk
  have e2:=h.oc hk
  refine⟨w1e e1.1 e2.2.1,?_⟩
  have:=w2f e1.2 e2.2.2 e2.2.1 (by omega :(0:Int)<=1000)
  simpa using this
 have h3:=zrl hf
 have ho:=h.ho
 rw [show (nwOf (netF φ p s o)).costS y =(nwOf (netN s o (cF φ p s o) (bF φ p s o))).costS y from rfl,<- h3]
 unfold zmx
 unfold zjl at h1
 omega
theorem y27 (h:Val φ p s o) (x:Plan):∃ e,z4h φ p s o x=some (e,())/\(e=0\/e=370)/\(e=0↔∃ y,AccP φ p s o x y):=by
 have hφ:=h.hφ
 unfold z4h
 rw [h.net,w03,if_neg (by simp)]
 obtain⟨y,k,h1,h2⟩:=y8u h x.transfers
 rw [h1,w03]
 -- where a plan is in order,fill gives its flow
 have back:∀ z,AccP φ p s o x z->k=true/\y=z:=fun z hz=>by
  obtain⟨x',g1,g2,g3⟩:=y6h h hz.feas
  rw [<- hz.tr,h1] at g1
  simp only [w00,w05] at g1
  obtain⟨rfl,hk,_⟩:=g1
  exact⟨hk,zui (by rw [g2,hz.len]) fun j hj=>g3 j (by rw [<- g2]; exact hj)⟩
 cases hk:k with
 | false=>
  refine⟨370,by rw [gz_f (by simp),w03,if_pos (by simp)],.inr rfl,fun e=>by omega,?_⟩
  rintro⟨z,hz⟩
  have:=(back z hz).1
  rw [hk] at this; cases this
 | true=>
  obtain⟨q1,q2⟩:=h2 hk
  rw [gz_t (by simp)]
  obtain⟨e,a1,a2⟩:=zn9 φ (netF φ p s o) ⟨y,x.price⟩ h.chk (by omega)
  rw [a1,w03]
  by_cases he:e=0
  ·rw [if_neg (by simp [he])]
   obtain⟨b1,b2,b3,b4⟩:=a2.1 he
   obtain⟨c1,c2⟩:=(zgf h.fnet).1 b1
   have hcb:=h.cost_bd (y:=atN y) c2
   rw [ztg φ (netF φ p s o) ⟨y,x.price⟩ h.chk (by omega),b1,cond_true]
   rw [if_pos (show (nwOf (netF φ p s o)).costS (atN y)<=9007199254740992 by omega),w03]
   by_cases hc :(nwOf (netF φ p s o)).costS (atN y)=x.cost
   ·refine⟨0,by rw [if_neg (by simp [hc])],.inl rfl,fun _=>⟨y,⟨q1,q2,c2,⟨b2,b3⟩,b4,hc⟩⟩,fun _=>rfl⟩
   ·refine⟨370,by rw [if_pos (by simp [hc])],.inr rfl,fun e=>by omega,?_⟩
    rintro⟨z,hz⟩
    obtain⟨_,rfl⟩:=back z hz
    exact absurd hz.cost hc
  ·rw [if_pos (by simp [he])]
   refine⟨370,rfl,.inr rfl,fun e=>by omega,?_⟩
   rintro⟨z,hz⟩
   obtain⟨_,rfl⟩:=back z hz
   exact absurd (a2.2 ⟨(zgf h.fnet).2 ⟨hz.len,hz.feas⟩,hz.pr.1,hz.pr.2,hz.tight⟩) he
theorem zxo {e:Int} (h:z67 φ p s o=some (⟨[],[]⟩,e,())) (he:e≠0) (x:Plan):z4h φ p s o x=some (e,()):=by
 unfold z4h
 rw [h,w03,if_pos (by simpa using he)]
theorem AccP.cheapest {x:Plan} {y:List Int} (h:Val φ p s o) (ha:AccP φ p s o x y):z3n φ p s o x.transfers=some (x.cost,true,())/\∀ l:List z6,l.length<=100000->∃ c k,z3n φ p s o l=some (c,k,())/\(k=true->x.cost<=c):=by
 refine⟨by rw [ha.tr,<- ha.cost]; exact zz5 h ha.feas,fun l hl=>?_⟩
 obtain⟨c,k,h1,h2⟩:=zyg h hl
 refine⟨c,k,h1,fun hk=>?_⟩
 obtain⟨z,z1,z2⟩:=h2 hk
 rw [<- ha.cost,<- z2]
 exact Nw.dual h.fnet.nw ha.feas z1 ha.tight
end
theorem zy7 (φ:Nat) (hφ:1000<φ) (p:Pool):∃ b,z7f φ p=some (b,()):=by
 unfold z7f
 split
 ·exact⟨false,rfl⟩
 ·rename_i hc
  simp only [w0q,decide_eq_true_eq,not_or] at hc
  obtain⟨⟨⟨⟨⟨⟨c1,c2⟩,c3⟩,c4⟩,c5⟩,c6⟩,c7⟩:=hc
  refine z11 (fun n i (_:Unit)=>z26 φ n i p) p.railways.length (fun _ _=>True) (fun o=>∃ b,o=some (b,())) ?_ ?_ φ () trivial (by omega)
  ·intro n i _ hi _ hs
   rw [z26,if_pos (by simp; omega),zb ⟨by omega,by omega⟩,W_id (by omega) (by omega)]
   split
   ·exact⟨false,rfl⟩
   ·exact hs () trivial
  ·intro n _ _
   rw [z26,if_neg (by simp)]
   exact⟨true,rfl⟩
theorem y7f (φ:Nat) (hφ:1000<φ) (p:Pool) (s:List z8) (o:List zg):∃ b,zgl φ p s o=some (b,())/\(b=true->s.length<=6/\o.length<=6):=by
 unfold zgl
 obtain⟨b,hb⟩:=zy7 φ hφ p
 rw [hb,w03]
 refine⟨_,rfl,fun h=>?_⟩
 simp only [w02,decide_eq_true_eq] at h
 omega
theorem yci:zch 100000000=some (true,()):=by kernel_rfl
theorem y03 {φ:Nat} (hφ:800000<φ) (hB:zhs φ) (p:Pool) {s:List z8} {o:List zg} (hs:s.length<=6) (ho:o.length<=6):Val φ p s o\/∃ e,e≠0/\z67 φ p s o=some (⟨[],[]⟩,e,()):=by
 have h:=y8j hφ hB p hs ho
 by_cases hp:z7y p=0
 ·rw [if_neg (fun e=>e hp)] at h
  cases ha:zva p s o with
  | true=>exact .inl (yc2 hφ hB hp hs ho ha)
  | false=>rw [ha] at h; exact .inr ⟨1,by omega,h⟩
 ·rw [if_pos hp] at h
  exact .inr ⟨_,hp,h⟩
theorem zv5 {φ:Nat} (hφ:800000<φ) (hB:zhs φ) (hsane:zch φ=some (true,())) (p:Pool) (s:List z8) (o:List zg) (x:Plan) (other:List z6):z2s φ p s o x other=some (true,()):=by
 unfold z2s
 obtain⟨b,h1,h2⟩:=y7f φ (by omega) p s o
 rw [hsane,w03,if_neg (by simp),h1,w03]
 cases hc :(((!b)||(decide ((20:Int) <(other.length:Int))))||(decide ((100:Int) <(x.transfers.length:Int)))) with
 | true=>rw [gz_f (by simp),w03,if_pos (by simp)]
 | false=>
  simp only [w0v,Bool.not_eq_false',decide_eq_false_iff_not] at hc
  obtain⟨⟨c1,c2⟩,c3⟩:=hc
  obtain⟨hs,ho⟩:=h2 c1
  rw [gz_t rfl]
  rcases y03 hφ hB p hs ho with hv |⟨e,he,hn⟩
  ·obtain⟨e,a1,a2,a3⟩:=y27 hv x
   rw [a1,w03]
   by_cases he:e=0
   ·obtain⟨y,hy⟩:=a3.1 he
    obtain⟨t1,t2⟩:=hy.cheapest hv
    obtain⟨c,k,u1,u2⟩:=t2 other (by omega)
    obtain⟨c0,k0,v1,v2⟩:=t2 [] (by simp)
    have hk0:k0=true:=by
     have:=zpb hv [] (by simp)
     rw [v1] at this
     simp only [okL,cond_true,w00,w05] at this
     exact this.2.1
    rw [if_neg (by simp [he]),t1,w03,u1,w03,v1,w03]
    have q1:=v2 hk0
    cases k with
    | false=>simp [q1]
    | true=>have q2:=u2 rfl; simp [q1,q2]
   ·rw [if_pos (by simp [he])]
  ·rw [zxo hn he,w03,if_pos (by simp [he])]
end Px
end
section
namespace Px
open Go
theorem y7q {n b:Nat} (h:n<=100000) (hb:b<=1000):fits n b:=by
 unfold fits
 have:n*b<=100000*1000:=Nat.mul_le_mul h hb
 omega
abbrev Ln:=List ((Nat->Int)×Int)
abbrev keyP (a b:Int):Nat->Int:=upd (upd (fun _=>(default:Int)) 0 a) 1 b
abbrev lget (m:Ln) (a b:Int):Option Int:=cget z4m m (keyP a b)
abbrev lset (m:Ln) (a b i:Int):Ln:=cset z4m m (keyP a b) i
theorem kl32 (f:Nat->Int):z4m f = [f 0,f 1]:=rfl
theorem ybq (a b c d:Int) :(z4m (keyP c d)==z4m (keyP a b)) =(c==a&&d==b):=by
 rw [kl32,kl32]
 show ([c,d]==[a,b])=_
 simp
theorem zha {κ ν:Type} (e:κ->List Int) (k k':κ) (v:ν):∀ m:List (κ×ν),cget e (cset e m k v) k'=bif e k'==e k then some v else cget e m k'
 | []=>rfl
 |(a,b)::m=>by
  unfold cset
  cases h1 :(e k==e a) with
  | true=>
   have h1:=beq_iff_eq.1 h1
   rw [cond_true]
   show (bif e k'==e k then some v else cget e m k')=bif e k'==e k then some v else(bif e k'==e a then some b else cget e m k')
   rw [h1]
   cases (e k'==e a) <;> rfl
  | false=>
   rw [cond_false]
   cases h2:ltI (e k) (e a) with
   | true=>rfl
   | false=>
    rw [cond_false]
    show (bif e k'==e a then some b else cget e (cset e m k v) k')=bif e k'==e k then some v else(bif e k'==e a then some b else cget e m k')
    rw [zha e k k' v m]
    cases h3 :(e k'==e a) with
    | false=>rfl
    | true=>
     have h3:=beq_iff_eq.1 h3
     rw [h3]
     have :(e a==e k)=false:=by
      rw [<- Bool.not_eq_true,beq_iff_eq]
      intro g; rw [g] at h1; simp at h1
     rw [this]; rfl
theorem zmi (m:Ln) (a b i c d:Int):lget (lset m a b i) c d=if c=a/\d=b then some i else lget m c d:=by
 show cget z4m (cset z4m m (keyP a b) i) (keyP c d)=_
 rw [zha,ybq]
 by_cases h:c=a/\d=b
 ·rw [if_pos h]; simp [h]
 ·rw [if_neg h]
  have :(c==a&&d==b)=false:=by rw [<- Bool.not_eq_true]; simpa using h
  rw [this]; rfl
theorem y6r {b:Bool} (h:¬(!b)=true):b=true:=by cases b <;> simp_all
def ent1 (es:List Edge) (i a b:Int) (s:List (List Int)×Ln):List (List Int)×Ln:=
 (if(!(lget s.2 a b).isSome)=true then zr s.1 a (gt s.1 a++[b]) else s.1,
  if(!(lget s.2 a b).isSome||decide ((gt es i).minutes <(gt es ((lget s.2 a b).getD default)).minutes))=true then lset s.2 a b i else s.2)
def entE (es:List Edge) (i:Int) (s:List (List Int)×Ln):List (List Int)×Ln:=ent1 es i (gt es i).b (gt es i).a (ent1 es i (gt es i).a (gt es i).b s)
structure GI (es:List Edge) (P k:Nat) (s:List (List Int)×Ln):Prop where
 len:s.1.length=P
 near:∀ a b:Int,0<=a->a <(P:Int)->(b∈gt s.1 a↔(lget s.2 a b).isSome=true)
 line:∀ a b i:Int,lget s.2 a b=some i->0<=i/\i <(k:Int)/\(((gt es i).a=a/\(gt es i).b=b)\/((gt es i).a=b/\(gt es i).b=a))
 size:∀ a:Int,0<=a->a <(P:Int)->(gt s.1 a).length<=2*k
structure HI (es:List Edge) (P k:Nat) (s:List (List Int)×Ln):Prop extends GI es P k s where
 sym:∀ a b:Int,lget s.2 a b=lget s.2 b a
theorem y58 (es:List Edge) (P:Nat):HI es P 0 (List.replicate P (default:List Int),[]) where
 len:=by simp
 near:=fun a b h0 h1=>by
  rw [zev _ _ _ h0 (by omega)]
  show b∈([]:List Int)↔_
  simp [lget,cget]
 line:=fun a b i h=>by simp [lget,cget] at h
 size:=fun a h0 h1=>by rw [zev _ _ _ h0 (by omega)]; simp; rfl
 sym:=fun a b=>rfl
theorem y9d {es:List Edge} {P k:Nat} {s:List (List Int)×Ln} (h:GI es P k s) {a b:Int} (ha:0<=a) (ha':a <(P:Int)) (he :((gt es (k:Int)).a=a/\(gt es (k:Int)).b=b)\/((gt es (k:Int)).a=b/\(gt es (k:Int)).b=a)) :
  (ent1 es k a b s).1.length=P/\(∀ c d:Int,0<=c->c <(P:Int)->(d∈gt (ent1 es k a b s).1 c↔(lget (ent1 es k a b s).2 c d).isSome=true))/\
  (∀ c d i:Int,lget (ent1 es k a b s).2 c d=some i->0<=i/\i <((k+1:Nat):Int)/\(((gt es i).a=c/\(gt es i).b=d)\/((gt es i).a=d/\(gt es i).b=c)))/\
  (∀ c:Int,0<=c->c <(P:Int)->(gt (ent1 es k a b s).1 c).length<=(gt s.1 c).length+1)/\
  (∀ c d:Int,¬(c=a/\d=b)->lget (ent1 es k a b s).2 c d=lget s.2 c d)/\
  lget (ent1 es k a b s).2 a b =(if(!(lget s.2 a b).isSome||decide ((gt es (k:Int)).minutes <(gt es ((lget s.2 a b).getD default)).minutes))=true then some (k:Int) else lget s.2 a b):=by
 have hl2:∀ c d:Int,lget (ent1 es k a b s).2 c d=if(c=a/\d=b) then(if(!(lget s.2 a b).isSome||decide ((gt es (k:Int)).minutes <(gt es ((lget s.2 a b).getD default)).minutes))=true then some (k:Int) else lget s.2 a b) else lget s.2 c d:=by
  intro c d
  unfold ent1
  simp only []
  split
  ·rw [zmi]
  ·split
   ·rename_i q; rw [q.1,q.2]
   ·rfl
 have hsm :(lget (ent1 es k a b s).2 a b).isSome=true:=by
  rw [hl2,if_pos ⟨rfl,rfl⟩]
  split
  ·rfl
  ·rename_i q
   simp only [w0q,not_or] at q
   exact y6r q.1
 refine⟨?_,?_,?_,?_,fun c d hcd=>by rw [hl2,if_neg hcd],by rw [hl2,if_pos ⟨rfl,rfl⟩]⟩
 ·unfold ent1
  simp only []
  split
  ·rw [z0x]; exact h.len
  ·exact h.len
 ·intro c d hc hc'
  by_cases hcd:c=a/\d=b
  ·obtain⟨rfl,rfl⟩:=hcd
   rw [hsm]
   refine⟨fun _=>rfl,fun _=>?_⟩
   unfold ent1
   simp only []
   split
   ·rw [z0i _ _ _ _ hc (by rw [h.len]; exact hc') hc,if_pos rfl]; simp
   ·rename_i q
    exact(h.near c d hc hc').2 (y6r q)
  ·rw [hl2,if_neg hcd,<- h.near c d hc hc']
   unfold ent1
   simp only []
   split
   ·rw [z0i _ _ _ _ ha (by rw [h.len]; exact ha') hc]
    by_cases e:c=a
    ·subst e
     rw [if_pos rfl]
     simp only [w0h,w0b]
     exact⟨fun q=>q.resolve_right (fun e=>hcd ⟨rfl,e⟩),.inl⟩
    ·rw [if_neg e]
   ·exact Iff.rfl
 ·intro c d i hi
  rw [hl2] at hi
  split at hi
  ·rename_i q
   obtain⟨rfl,rfl⟩:=q
   split at hi
   ·have:=w07 hi
    subst this
    exact⟨by omega,by omega,he⟩
   ·obtain⟨h1,h2,h3⟩:=h.line _ _ _ hi
    exact⟨h1,by omega,h3⟩
  ·obtain⟨h1,h2,h3⟩:=h.line _ _ _ hi
   exact⟨h1,by omega,h3⟩
 ·intro c hc hc'
  unfold ent1
  simp only []
  split
  ·rw [z0i _ _ _ _ ha (by rw [h.len]; exact ha') hc]
   split
   ·rename_i e; subst e; simp
   ·omega
  ·omega
theorem ya7 {es:List Edge} {P k:Nat} {s:List (List Int)×Ln} (h:HI es P k s) (ha:0<=(gt es (k:Int)).a) (ha' :(gt es (k:Int)).a <(P:Int)) (hb:0<=(gt es (k:Int)).b) (hb' :(gt es (k:Int)).b <(P:Int)) (hne :(gt es (k:Int)).a≠(gt es (k:Int)).b) :
  HI es P (k+1) (entE es k s):=by
 obtain⟨a1,a2,a3,a4,a5,a6⟩:=y9d h.toGI ha ha' (.inl ⟨rfl,rfl⟩)
 unfold entE
 generalize hs1:ent1 es k (gt es (k:Int)).a (gt es (k:Int)).b s=s1 at *
 generalize (gt es (k:Int)).a=a at *
 generalize (gt es (k:Int)).b=b at *
 -- the second end,by the same law: only the bound on the numbers has moved
 have hl2:∀ c d:Int,lget (ent1 es k b a s1).2 c d=if(c=b/\d=a) then(if(!(lget s1.2 b a).isSome||decide ((gt es (k:Int)).minutes <(gt es ((lget s1.2 b a).getD default)).minutes))=true then some (k:Int) else lget s1.2 b a) else lget s1.2 c d:=by
  intro c d
  unfold ent1
  simp only []
  split
  ·rw [zmi]
  ·split
   ·rename_i q; rw [q.1,q.2]
   ·rfl
 have hba:lget s1.2 b a=lget s.2 a b:=by rw [a5 b a (fun q=>hne q.2),h.sym]
 have hsm :(lget (ent1 es k b a s1).2 b a).isSome=true:=by
  rw [hl2,if_pos ⟨rfl,rfl⟩]
  split
  ·rfl
  ·rename_i q
   simp only [w0q,not_or] at q
   exact y6r q.1
 have hlab:lget (ent1 es k b a s1).2 a b=lget s1.2 a b:=by rw [hl2,if_neg (fun q=>hne q.1)]
 have hlba:lget (ent1 es k b a s1).2 b a=lget s1.2 a b:=by
  rw [hl2,if_pos ⟨rfl,rfl⟩,hba,a6]
 have hab :((gt es (k:Int)).a=a/\(gt es (k:Int)).b=b)\/((gt es (k:Int)).a=b/\(gt es (k:Int)).b=a)->True:=fun _=>trivial
 refine⟨⟨?_,?_,?_,?_⟩,?_⟩
 ·unfold ent1
  simp only []
  split
  ·rw [z0x]; exact a1
  ·exact a1
 ·intro c d hc hc'
  by_cases hcd:c=b/\d=a
  ·obtain⟨rfl,rfl⟩:=hcd
   rw [hsm]
   refine⟨fun _=>rfl,fun _=>?_⟩
   unfold ent1
   simp only []
   split
   ·rw [z0i _ _ _ _ hc (by rw [a1]; exact hc') hc,if_pos rfl]; simp
   ·rename_i q
    exact(a2 c d hc hc').2 (y6r q)
  ·rw [hl2,if_neg hcd,<- a2 c d hc hc']
   unfold ent1
   simp only []
   split
   ·rw [z0i _ _ _ _ hb (by rw [a1]; exact hb') hc]
    by_cases e:c=b
    ·subst e
     rw [if_pos rfl]
     simp only [w0h,w0b]
     exact⟨fun q=>q.resolve_right (fun e=>hcd ⟨rfl,e⟩),.inl⟩
    ·rw [if_neg e]
   ·exact Iff.rfl
 ·intro c d i hi
  by_cases hcd:c=b/\d=a
  ·obtain⟨rfl,rfl⟩:=hcd
   rw [hlba] at hi
   obtain⟨h1,h2,h3⟩:=a3 _ _ _ hi
   exact⟨h1,h2,h3.elim .inr .inl⟩
  ·rw [hl2,if_neg hcd] at hi
   exact a3 _ _ _ hi
 ·intro c hc hc'
  have h1:=a4 c hc hc'
  have h0:=h.size c hc hc'
  have h2 :(gt (ent1 es k b a s1).1 c).length<=(gt s1.1 c).length+1:=by
   unfold ent1
   simp only []
   split
   ·rw [z0i _ _ _ _ hb (by rw [a1]; exact hb') hc]
    split
    ·rename_i e; subst e; simp
    ·omega
   ·omega
  omega
 ·intro c d
  by_cases h1:c=b/\d=a
  ·obtain⟨rfl,rfl⟩:=h1
   rw [hlba,hlab]
  ·by_cases h2:c=a/\d=b
   ·obtain⟨rfl,rfl⟩:=h2
    rw [hlab,hlba]
   ·rw [hl2,if_neg h1,hl2,if_neg (fun q=>h2 ⟨q.2,q.1⟩),a5 c d h2,a5 d c (fun q=>h1 ⟨q.2,q.1⟩),h.sym]
def zjj (es:List Edge) (P:Nat):Nat->List (List Int)×Ln
 | 0=>(List.replicate P default,[])
 | k+1=>entE es k (zjj es P k)
structure zl0 (x:zy):Prop where
 places:x.places.length<=512
 edges:x.edges.length<=2048
 edge:∀ i:Int,0<=i->i <(x.edges.length:Int)->zed x.places.length (gt x.edges i)=true
theorem ycd {x:zy} (h:za4 x=0):zl0 x:=by
 obtain⟨h1,h2,_,h4⟩:=zn5 h
 exact⟨h1,h2,fun i h0 hi=>h4 _ (za5 h0 hi)⟩
theorem zl0.ends {x:zy} (h:zl0 x) {i:Int} (h0:0<=i) (hi:i <(x.edges.length:Int)):0<=(gt x.edges i).a/\(gt x.edges i).a <(x.places.length:Int)/\0<=(gt x.edges i).b/\(gt x.edges i).b <(x.places.length:Int)/\
  (gt x.edges i).a≠(gt x.edges i).b/\0<=(gt x.edges i).railway/\(gt x.edges i).railway<=15/\1<=(gt x.edges i).minutes/\(gt x.edges i).minutes<=100000/\0<=(gt x.edges i).km/\(gt x.edges i).km<=10000:=by
 have:=h.edge i h0 hi
 simp only [zed,w02,z64,bne_iff_ne,ne_eq] at this
 obtain⟨⟨⟨⟨⟨q1,q2⟩,q3⟩,q4⟩,q5⟩,q6⟩:=this
 exact⟨q1.1,by omega,q2.1,by omega,q3,q4.1,q4.2,q5.1,q5.2,q6.1,q6.2⟩
theorem zfm {x:zy} (h:zl0 x):∀ k,k<=x.edges.length->HI x.edges x.places.length k (zjj x.edges x.places.length k)
 | 0,_=>y58 _ _
 | k+1,hk=>by
  obtain⟨a1,a2,a3,a4,a5,_⟩:=h.ends (i:=(k:Int)) (by omega) (by omega)
  exact ya7 (zfm h k (by omega)) a1 a2 a3 a4 a5
structure Gr (P:Nat) (near:List (List Int)) (wt:Int->Int->Int):Prop where
 len:near.length=P
 small:P<=512
 size:∀ a:Int,0<=a->a <(P:Int)->(gt near a).length<=5000
 rng:∀ a b:Int,0<=a->a <(P:Int)->b∈gt near a->0<=b/\b <(P:Int)
 sym:∀ a b:Int,0<=a->a <(P:Int)->b∈gt near a->a∈gt near b/\wt b a=wt a b
 wt:∀ a b:Int,0<=a->a <(P:Int)->b∈gt near a->1<=wt a b/\wt a b<=100000
def zac (x:zy):Ln:=(zjj x.edges x.places.length x.edges.length).2
def wtN (x:zy) (a b:Int):Int:=(gt x.edges ((lget (zac x) a b).getD default)).minutes
def zgg (x:zy):List (List Int):=(zjj x.edges x.places.length x.edges.length).1
def z5e (x:zy):List (List Int):=(zgg x).map fun l=>zqj (fun a b=>decide (a<b)) l
theorem y1h {α β:Type} [Inhabited α] [Inhabited β] (f:α->β) (l:List α) {i:Int} (h0:0<=i) (h:i <(l.length:Int)):gt (l.map f) i=f (gt l i):=by
 obtain⟨n,rfl⟩:∃ n:Nat,i =(n:Int):=⟨i.toNat,by omega⟩
 rw [z4p (by simp; omega),z4p (by omega)]
 simp
theorem zoy {x:zy} (h:zl0 x) {a b:Int} (ha:0<=a) (ha':a <(x.places.length:Int)) (hb:b∈gt (z5e x) a):∃ i,lget (zac x) a b=some i/\0<=i/\i <(x.edges.length:Int)/\(((gt x.edges i).a=a/\(gt x.edges i).b=b)\/((gt x.edges i).a=b/\(gt x.edges i).b=a)):=by
 have H:=zfm h x.edges.length (w0g _)
 unfold z5e at hb
 rw [y1h _ _ ha (by show a <((zgg x).length:Int); rw [show (zgg x).length=_ from H.len]; exact ha')] at hb
 have hb:=(z9g _ _).mem_iff.1 hb
 have:=(H.near a b ha ha').1 hb
 obtain⟨i,hi⟩:=w0r.1 this
 obtain⟨h1,h2,h3⟩:=H.line _ _ _ hi
 exact⟨i,hi,h1,h2,h3⟩
theorem grN {x:zy} (h:zl0 x):Gr x.places.length (z5e x) (wtN x):=by
 have H:=zfm h x.edges.length (w0g _)
 have hlen :(z5e x).length=x.places.length:=by unfold z5e; rw [w0u]; exact H.len
 have hl0 :(zgg x).length=x.places.length:=H.len
 have hmem:∀ a b:Int,0<=a->a <(x.places.length:Int)->(b∈gt (z5e x) a↔(lget (zac x) a b).isSome=true):=by
  intro a b ha ha'
  unfold z5e
  rw [y1h _ _ ha (by rw [hl0]; exact ha')]
  exact((z9g _ _).mem_iff).trans (H.near a b ha ha')
 refine⟨hlen,h.places,?_,?_,?_,?_⟩
 ·intro a ha ha'
  unfold z5e
  rw [y1h _ _ ha (by rw [hl0]; exact ha'),(z9g _ _).length_eq]
  have:=H.size a ha ha'
  have:=h.edges
  show (gt (zjj x.edges x.places.length x.edges.length).1 a).length<=_
  omega
 ·intro a b ha ha' hb
  obtain⟨i,_,h1,h2,h3⟩:=zoy h ha ha' hb
  obtain⟨e1,e2,e3,e4,_⟩:=h.ends h1 h2
  rcases h3 with⟨rfl,rfl⟩ |⟨rfl,rfl⟩
  ·exact⟨e3,e4⟩
  ·exact⟨e1,e2⟩
 ·intro a b ha ha' hb
  obtain⟨i,hi,h1,h2,h3⟩:=zoy h ha ha' hb
  obtain⟨e1,e2,e3,e4,_⟩:=h.ends h1 h2
  have hbr:0<=b/\b <(x.places.length:Int):=by
   rcases h3 with⟨rfl,rfl⟩ |⟨rfl,rfl⟩
   ·exact⟨e3,e4⟩
   ·exact⟨e1,e2⟩
  have hs:lget (zac x) b a=lget (zac x) a b:=H.sym b a
  refine⟨(hmem b a hbr.1 hbr.2).2 (by rw [hs,hi]; rfl),?_⟩
  unfold wtN
  rw [hs]
 ·intro a b ha ha' hb
  obtain⟨i,hi,h1,h2,_⟩:=zoy h ha ha' hb
  obtain⟨_,_,_,_,_,_,_,e1,e2,_⟩:=h.ends h1 h2
  unfold wtN
  rw [hi]
  exact⟨e1,e2⟩
structure DI (P:Nat) (near:List (List Int)) (wt:Int->Int->Int) (s:Int) (k:Nat) (t:List Int) (d:List Bool):Prop where
 lt:t.length=P
 ld:d.length=P
 src:gt t s=0
 bd:∀ i:Int,0<=i->i <(P:Int)->gt t i=-1\/(0<=gt t i/\gt t i<=100000*k)
 don:∀ i:Int,0<=i->i <(P:Int)->gt d i=true->0<=gt t i
 pre:∀ a:Int,0<=a->a <(P:Int)->a≠s->0<=gt t a->∃ q,0<=q/\q <(P:Int)/\gt d q=true/\q∈gt near a/\gt t a=gt t q+wt q a
 mon:∀ q i:Int,0<=q->q <(P:Int)->0<=i->i <(P:Int)->gt d q=true->gt d i=false->0<=gt t i->gt t q<=gt t i
 nbr:∀ q i:Int,0<=q->q <(P:Int)->gt d q=true->i∈gt near q->0<=gt t i/\gt t i<=gt t q+wt q i
 cnt:d.count true=k
structure RndI (P:Nat) (near:List (List Int)) (wt:Int->Int->Int) (s p:Int) (k:Nat) (t0:List Int) (d:List Bool) (seen:List Int) (t:List Int):Prop where
 lt:t.length=P
 own:gt t p=gt t0 p
 val:∀ i:Int,0<=i->i <(P:Int)->gt t i=gt t0 i\/(i∈seen/\gt t i=gt t0 p+wt p i/\(gt t0 i<0\/gt t0 p+wt p i<gt t0 i))
 got:∀ i∈seen,0<=i->0<=gt t i/\gt t i<=gt t p+wt p i
end Px
end
section
namespace Px
open Go
section
variable {P:Nat} {near:List (List Int)} {wt:Int->Int->Int} {s:Int}
theorem y1f {p:Int} {k:Nat} {t0:List Int} {d:List Bool} (h:DI P near wt s k t0 d):RndI P near wt s p k t0 d [] t0:=
 ⟨h.lt,rfl,fun i _ _=>.inl rfl,fun i hi=>by cases hi⟩
theorem y6l (hG:Gr P near wt) {p:Int} (hp:0<=p) (hp':p <(P:Int)) {k:Nat} {t0:List Int} {d:List Bool} (hp0:0<=gt t0 p) {seen t:List Int} (h:RndI P near wt s p k t0 d seen t) {q:Int} (hq:q∈gt near p) :
  RndI P near wt s p k t0 d (seen++[q]) (if(decide (gt t q<0)||decide (gt t p+wt p q<gt t q))=true then zr t q (gt t p+wt p q) else t):=by
 obtain⟨q0,q1⟩:=hG.rng p q hp hp' hq
 obtain⟨w0,w1⟩:=hG.wt p q hp hp' hq
 have hown:=h.own
 by_cases c:gt t q<0\/gt t p+wt p q<gt t q
 ·rw [if_pos (by simpa using c)]
  have hqp:q≠p:=fun e=>by subst e; omega
  refine⟨by rw [z0x]; exact h.lt,?_,fun i h0 h1=>?_,fun i hi hneg=>?_⟩
  ·rw [z0i _ _ _ _ q0 (by rw [h.lt]; exact q1) hp,if_neg (fun e=>hqp e.symm)]; exact hown
  ·rw [z0i _ _ _ _ q0 (by rw [h.lt]; exact q1) h0]
   by_cases e:i=q
   ·subst e
    rw [if_pos rfl]
    refine .inr ⟨by simp,by rw [hown],?_⟩
    rcases h.val i h0 h1 with h2 |⟨_,h2,_⟩
    ·rw [h2,hown] at c; exact c
    ·rw [h2,hown] at c; exfalso; omega
   ·rw [if_neg e]
    rcases h.val i h0 h1 with h2 |⟨h2,h3,h4⟩
    ·exact .inl h2
    ·exact .inr ⟨w19 _ h2,h3,h4⟩
  ·by_cases e:i=q
   ·subst e
    rw [z0i _ _ _ _ q0 (by rw [h.lt]; exact q1) q0,if_pos rfl,z0i _ _ _ _ q0 (by rw [h.lt]; exact q1) hp,if_neg (fun e=>hqp e.symm)]
    omega
   ·have hi:i∈seen:=by
     rcases w0h.1 hi with hi | hi
     ·exact hi
     ·exact absurd (w0b.1 hi) e
    rw [z0i _ _ _ _ q0 (by rw [h.lt]; exact q1) hneg,if_neg e,z0i _ _ _ _ q0 (by rw [h.lt]; exact q1) hp,if_neg (fun e=>hqp e.symm)]
    exact h.got i hi hneg
 ·rw [if_neg (by simpa using c)]
  refine⟨h.lt,hown,fun i h0 h1=>?_,fun i hi hneg=>?_⟩
  ·rcases h.val i h0 h1 with h2 |⟨h2,h3,h4⟩
   ·exact .inl h2
   ·exact .inr ⟨w19 _ h2,h3,h4⟩
  ·rcases w0h.1 hi with hi | hi
   ·exact h.got i hi hneg
   ·rw [w0b.1 hi]; omega
theorem zub {d:List Bool} {p:Int} (hp:0<=p) (hp':p <(d.length:Int)) (h:gt d p=false) :(zr d p true).count true=d.count true+1:=by
 obtain⟨n,rfl⟩:∃ n:Nat,p =(n:Int):=⟨p.toNat,by omega⟩
 have hn:n<d.length:=by omega
 rw [z4p hn] at h
 unfold zr
 rw [w1b,List.count_set hn,h]
 simp
theorem y6e (hG:Gr P near wt) {p:Int} (hp:0<=p) (hp':p <(P:Int)) {k:Nat} {t0:List Int} {d:List Bool} (h:DI P near wt s k t0 d) (hs:0<=s) (hs':s <(P:Int)) (hp0:0<=gt t0 p) (hd:gt d p=false)
  (hmin:∀ i:Int,0<=i->i <(P:Int)->0<=gt t0 i->gt d i=false->gt t0 p<=gt t0 i) {t:List Int} (hr:RndI P near wt s p k t0 d (gt near p) t):DI P near wt s (k+1) t (zr d p true):=by
 have hds:∀ i:Int,0<=i->gt (zr d p true) i=if i=p then true else gt d i:=fun i hi=>z0i _ _ _ _ hp (by rw [h.ld]; exact hp') hi
 have hw:∀ i,i∈gt near p->1<=wt p i/\wt p i<=100000:=fun i hi=>hG.wt p i hp hp' hi
 -- what is done stays
 have hdone:∀ i:Int,0<=i->i <(P:Int)->gt d i=true->gt t i=gt t0 i:=by
  intro i h0 h1 hdi
  rcases hr.val i h0 h1 with h2 |⟨h2,h3,h4⟩
  ·exact h2
  ·have:=hw i h2
   have:=h.don i h0 h1 hdi
   have:=h.mon i p h0 h1 hp hp' hdi hd hp0
   omega
 have hbdp:=(h.bd p hp hp').resolve_left (by omega)
 refine⟨hr.lt,by rw [z0x]; exact h.ld,?_,fun i h0 h1=>?_,fun i h0 h1 hdi=>?_,fun a h0 h1 has hta=>?_,fun q i q0 q1 h0 h1 hdq hdi hti=>?_,fun q i q0 q1 hdq hin=>?_,?_⟩
 ·rcases hr.val s hs hs' with h2 |⟨h2,h3,h4⟩
  ·rw [h2,h.src]
  ·have:=hw s h2
   have:=h.src
   omega
 ·rcases hr.val i h0 h1 with h2 |⟨h2,h3,h4⟩
  ·rw [h2]
   rcases h.bd i h0 h1 with h5 | h5
   ·exact .inl h5
   ·right; omega
  ·have:=hw i h2
   right; omega
 ·rw [hds i h0] at hdi
  by_cases e:i=p
  ·subst e; rw [hr.own]; exact hp0
  ·rw [if_neg e] at hdi
   rw [hdone i h0 h1 hdi]; exact h.don i h0 h1 hdi
 ·rcases hr.val a h0 h1 with h2 |⟨h2,h3,h4⟩
  ·rw [h2] at hta ⊢
   obtain⟨q,q0,q1,hdq,hqn,he⟩:=h.pre a h0 h1 has hta
   refine⟨q,q0,q1,?_,hqn,by rw [hdone q q0 q1 hdq]; exact he⟩
   rw [hds q q0]; split
   ·rfl
   ·exact hdq
  ·obtain⟨hsy,hwt⟩:=hG.sym p a hp hp' h2
   exact⟨p,hp,hp',by rw [hds p hp,if_pos rfl],hsy,by rw [hr.own,h3]⟩
 ·rw [hds q q0] at hdq
  rw [hds i h0] at hdi
  have hip:i≠p:=fun e=>by rw [if_pos e] at hdi; cases hdi
  rw [if_neg hip] at hdi
  have hge:gt t0 p<=gt t i:=by
   rcases hr.val i h0 h1 with h2 |⟨h2,h3,h4⟩
   ·rw [h2] at hti ⊢; exact hmin i h0 h1 hti hdi
   ·have:=hw i h2; omega
  by_cases e:q=p
  ·subst e; rw [hr.own]; exact hge
  ·rw [if_neg e] at hdq
   have:=h.mon q p q0 q1 hp hp' hdq hd hp0
   rw [hdone q q0 q1 hdq]; omega
 ·rw [hds q q0] at hdq
  by_cases e:q=p
  ·subst e; exact hr.got i hin (hG.rng q i hp hp' hin).1
  ·rw [if_neg e] at hdq
   obtain⟨i0,i1⟩:=hG.rng q i q0 q1 hin
   have:=h.nbr q i q0 q1 hdq hin
   rw [hdone q q0 q1 hdq]
   rcases hr.val i i0 i1 with h2 |⟨h2,h3,h4⟩
   ·rw [h2]; exact this
   ·have:=hw i h2; omega
 ·rw [zub hp (by rw [h.ld]; exact hp') hd,h.cnt]
structure DF (P:Nat) (near:List (List Int)) (wt:Int->Int->Int) (s:Int) (t:List Int):Prop where
 lt:t.length=P
 src:gt t s=0
 bd:∀ i:Int,0<=i->i <(P:Int)->gt t i=-1\/(0<=gt t i/\gt t i<=51200000)
 pre:∀ a:Int,0<=a->a <(P:Int)->a≠s->0<=gt t a->∃ q,0<=q/\q <(P:Int)/\q∈gt near a/\0<=gt t q/\gt t a=gt t q+wt q a
 nbr:∀ q i:Int,0<=q->q <(P:Int)->0<=gt t q->i∈gt near q->0<=gt t i/\gt t i<=gt t q+wt q i
theorem ydy (hG:Gr P near wt) {k:Nat} {t:List Int} {d:List Bool} (h:DI P near wt s k t d) (hall:∀ i:Int,0<=i->i <(P:Int)->0<=gt t i->gt d i=true):DF P near wt s t:=by
 have hk:k<=P:=by rw [<- h.cnt,<- h.ld]; exact List.count_le_length
 have:=hG.small
 refine⟨h.lt,h.src,fun i h0 h1=>?_,fun a h0 h1 ha hta=>?_,fun q i q0 q1 hq hi=>h.nbr q i q0 q1 (hall q q0 q1 hq) hi⟩
 ·rcases h.bd i h0 h1 with h2 | h2
  ·exact .inl h2
  ·right; omega
 ·obtain⟨q,q0,q1,hdq,hqn,he⟩:=h.pre a h0 h1 ha hta
  exact⟨q,q0,q1,hqn,h.don q q0 q1 hdq,he⟩
theorem y5t (hs:0<=s) (hs':s <(P:Int)) (t:List Int) (ht:t.length=P) (hall:∀ i:Int,0<=i->i <(P:Int)->gt t i=if i=s then 0 else -1):DI P near wt s 0 t (List.replicate P (default:Bool)):=by
 have hd:∀ i:Int,0<=i->i <(P:Int)->gt (List.replicate P (default:Bool)) i=false:=fun i h0 h1=>by rw [zev _ _ _ h0 (by omega)]; rfl
 refine⟨ht,by simp,by rw [hall s hs hs',if_pos rfl],fun i h0 h1=>?_,fun i h0 h1 h=>?_,fun a h0 h1 ha hta=>?_,fun q i q0 q1 h0 h1 hdq=>?_,fun q i q0 q1 hdq=>?_,?_⟩
 ·rw [hall i h0 h1]; split <;> omega
 ·rw [hd i h0 h1] at h; cases h
 ·rw [hall a h0 h1,if_neg ha] at hta; omega
 ·rw [hd q q0 q1] at hdq; cases hdq
 ·rw [hd q q0 q1] at hdq; cases hdq
 ·simp [List.count_replicate]
end
section walk
variable {ρ:Type} {P:Nat} {near:List (List Int)} {wt:Int->Int->Int} {s:Int}
theorem ydu (hP:P<=512) (A:Nat->Int->Int->Option ρ) (fin:Int->Option ρ) (t:List Int) (d:List Bool) (ht:t.length=P) (hd:d.length=P)
  (stp:∀ n p i,A (n+1) p i =(if(decide ((i:Int) <(P:Int)))=true then(ck ((0:Int)<=i/\i <(t.length:Int)) (ck (((decide ((0:Int)<=(gt t i)))=true)->(0:Int)<=i/\i <(d.length:Int)) (ck ((((decide ((0:Int)<=(gt t i)))&&(!(gt d i)))=true/\(decide ((p:Int)<0))=false)->(0:Int)<=i/\i <(t.length:Int)) (ck ((((decide ((0:Int)<=(gt t i)))&&(!(gt d i)))=true/\(decide ((p:Int)<0))=false)->(0:Int)<=p/\p <(t.length:Int)) (if(((decide ((0:Int)<=(gt t i)))&&(!(gt d i)))&&((decide ((p:Int)<0))||(decide (((gt t i):Int) <(gt t p)))))=true then(A n i (W (i+1))) else(A n p (W (i+1)))))))) else fin p)) (n:Nat) (hn:P<n) :
  ∃ p,A n (-1) 0=fin p/\((p=-1/\∀ i:Int,0<=i->i <(P:Int)->0<=gt t i->gt d i=true)\/(0<=p/\p <(P:Int)/\0<=gt t p/\gt d p=false/\∀ i:Int,0<=i->i <(P:Int)->0<=gt t i->gt d i=false->gt t p<=gt t i)):=by
 refine z11 (fun n i (p:Int)=>A n p i) P (fun i p=>(p=-1/\∀ j:Int,0<=j->j <(i:Int)->0<=gt t j->gt d j=true)\/(0<=p/\p <(i:Int)/\0<=gt t p/\gt d p=false/\∀ j:Int,0<=j->j <(i:Int)->0<=gt t j->gt d j=false->gt t p<=gt t j))
  (fun o=>∃ p,o=fin p/\((p=-1/\∀ i:Int,0<=i->i <(P:Int)->0<=gt t i->gt d i=true)\/(0<=p/\p <(P:Int)/\0<=gt t p/\gt d p=false/\∀ i:Int,0<=i->i <(P:Int)->0<=gt t i->gt d i=false->gt t p<=gt t i))) ?_ ?_ n (-1) (.inl ⟨rfl,fun j h0 h1=>by omega⟩) hn
 ·intro n i p hi hI hs
  rw [stp,if_pos (by simp; omega),zb ⟨by omega,by omega⟩,zb (fun _=>⟨by omega,by omega⟩),zb (fun _=>⟨by omega,by omega⟩),W_id (by omega) (by omega)]
  have hpr :(decide ((p:Int)<0))=false->(0:Int)<=p/\p <(t.length:Int):=by
   intro h
   simp only [decide_eq_false_iff_not] at h
   rcases hI with⟨rfl,_⟩ |⟨h1,h2,_⟩
   ·omega
   ·exact⟨h1,by omega⟩
  rw [zb (fun h=>hpr h.2)]
  have split_j:∀ j:Int,j <((i+1:Nat):Int)->j <(i:Int)\/j =(i:Int):=fun j h=>by omega
  by_cases c :(0<=gt t (i:Int)/\gt d (i:Int)=false)/\(p<0\/gt t (i:Int)<gt t p)
  ·rw [if_pos (by simpa using c)]
   refine hs _ (.inr ⟨by omega,by omega,c.1.1,c.1.2,fun j h0 h1 htj hdj=>?_⟩)
   rcases split_j j h1 with h2 | rfl
   ·rcases hI with⟨_,h3⟩ |⟨q0,_,_,_,h3⟩
    ·have:=h3 j h0 h2 htj; rw [hdj] at this; cases this
    ·have:=h3 j h0 h2 htj hdj
     have:=c.2.resolve_left (by omega)
     omega
   ·exact w1r _
  ·rw [if_neg (by simpa using c)]
   refine hs p ?_
   rcases hI with⟨rfl,h3⟩ |⟨q0,q1,q2,q3,h3⟩
   ·refine .inl ⟨rfl,fun j h0 h1 htj=>?_⟩
    rcases split_j j h1 with h2 | rfl
    ·exact h3 j h0 h2 htj
    ·cases hdi:gt d (i:Int) with
     | true=>rfl
     | false=>exact absurd ⟨⟨htj,hdi⟩,.inl (by omega)⟩ c
   ·refine .inr ⟨q0,by omega,q2,q3,fun j h0 h1 htj hdj=>?_⟩
    rcases split_j j h1 with h2 | rfl
    ·exact h3 j h0 h2 htj hdj
    ·rcases Int.lt_or_le (gt t (i:Int)) (gt t p) with h4 | h4
     ·exact absurd ⟨⟨htj,hdj⟩,.inr h4⟩ c
     ·exact h4
 ·intro n p hI
  rw [stp,if_neg (by simp)]
  exact⟨p,rfl,hI⟩
theorem ycr (hG:Gr P near wt) {p:Int} (hp:0<=p) (hp':p <(P:Int)) {k:Nat} (hk:k<=512) {t0:List Int} {d:List Bool} (hD:DI P near wt s k t0 d) (hp0:0<=gt t0 p) (B:Nat->Int->List Int->Option ρ) (K:List Int->Option ρ) (nb:List Int) (hnb:nb=gt near p) (E:Nat) (lg:Int->Int) (mins:Int->Int)
  (hlg:∀ q∈nb,0<=lg q/\lg q <(E:Int)/\mins (lg q)=wt p q)
  (stp:∀ n i t,B (n+1) i t =(if(decide ((i:Int) <(nb.length:Int)))=true then(ck ((0:Int)<=i/\i <(nb.length:Int)) (ck ((0:Int)<=p/\p <(t.length:Int)) (ck ((0:Int)<=lg (gt nb i)/\lg (gt nb i) <(E:Int)) (ck ((0:Int)<=(gt nb i)/\(gt nb i) <(t.length:Int)) (ck (((decide (((gt t (gt nb i)):Int)<0))=false)->(0:Int)<=(gt nb i)/\(gt nb i) <(t.length:Int)) (if((decide (((gt t (gt nb i)):Int)<0))||(decide (((W ((gt t p)+mins (lg (gt nb i)))):Int) <(gt t (gt nb i)))))=true then(ck ((0:Int)<=(gt nb i)/\(gt nb i) <(t.length:Int)) (B n (W (i+1)) (zr t (gt nb i) (W ((gt t p)+mins (lg (gt nb i))))))) else(B n (W (i+1)) t))))))) else K t)) (n:Nat) (hn:nb.length<n) :
  ∃ t,B n 0 t0=K t/\RndI P near wt s p k t0 d nb t:=by
 have hsz:nb.length<=5000:=by rw [hnb]; exact hG.size p hp hp'
 have hbp:=(hD.bd p hp hp').resolve_left (by omega)
 refine z11 (fun n i t=>B n i t) nb.length (fun i t=>RndI P near wt s p k t0 d (nb.take i) t) (fun o=>∃ t,o=K t/\RndI P near wt s p k t0 d nb t) ?_ ?_ n t0 (y1f hD) hn
 ·intro n i t hi hI hs
  have hm:gt nb (i:Int)∈gt near p:=by rw [<- hnb]; exact za5 (by omega) (by omega)
  obtain⟨q0,q1⟩:=hG.rng p _ hp hp' hm
  obtain⟨w0,w1⟩:=hG.wt p _ hp hp' hm
  obtain⟨l0,l1,l2⟩:=hlg (gt nb (i:Int)) (by rw [hnb]; rw [hnb] at hm; exact hm)
  have hlt:=hI.lt
  have hst:=y6l hG hp hp' hp0 hI hm
  rw [<- z45 nb i hi] at hst
  have hr:=hs _ hst
  have hown:=hI.own
  rw [stp,if_pos (by simp; omega),zb ⟨by omega,by omega⟩,zb ⟨by omega,by omega⟩,zb ⟨l0,l1⟩,zb ⟨by omega,by omega⟩,zb (fun _=>⟨by omega,by omega⟩),l2,W_id (x:=gt t p+_) (by omega) (by omega),W_id (by omega) (by omega)]
  generalize gt nb (i:Int)=q at *
  by_cases c :(decide (gt t q<0)||decide (gt t p+wt p q<gt t q))=true
  ·rw [if_pos c] at hr ⊢
   rw [zb ⟨by omega,by omega⟩]
   exact hr
  ·rw [if_neg c] at hr ⊢
   exact hr
 ·intro n t hI
  rw [stp,if_neg (by simp)]
  rw [w1l] at hI
  exact⟨t,rfl,hI⟩
theorem y7b (hG:Gr P near wt) (hs:0<=s) (hs':s <(P:Int)) (M:Nat->List Int->List Bool->Option ρ) (fin:List Int->Option ρ) (φ:Nat)
  (rnd:∀ n k t d,k<=512->DI P near wt s k t d->(∃ t',DF P near wt s t'/\M (n+1) t d=fin t')\/(∃ t' p,0<=p/\p <(P:Int)/\DI P near wt s (k+1) t' (zr d p true)/\M (n+1) t d=M n t' (zr d p true))) :
  ∀ n k t d,DI P near wt s k t d->P<n+k->∃ t',DF P near wt s t'/\M n t d=fin t':=by
 intro n
 induction n with
 | zero=>
  intro k t d h hn
  have hk:k<=P:=by rw [<- h.cnt,<- h.ld]; exact List.count_le_length
  omega
 | succ n ih=>
  intro k t d h hn
  have hk:k<=P:=by rw [<- h.cnt,<- h.ld]; exact List.count_le_length
  have:=hG.small
  rcases rnd n k t d (by omega) h with h1 |⟨t',p,_,_,h2,h3⟩
  ·exact h1
  ·rw [h3]
   exact ih (k+1) t' _ h2 (by omega)
end walk
end Px
end
section
namespace Px
open Go
section
variable (φ:Nat) (K:List Edge->Int->Int->zy->List (List Int)->Ln->Option (zo×Int×Unit)) (x:zy)
theorem zj5 {i:Nat} (hi:i<x.edges.length) {P:Nat} {near:List (List Int)} {line:Ln} {a b:Int} (hl:near.length=P) (ha:0<=a) (ha':a <(P:Int)) (hsz :(gt near a).length<=10000) (hx:x.edges.length<=2048) (hold:∀ o,lget line a b=some o->0<=o/\o <(x.edges.length:Int)) :
  (if(!(lget line a b).isSome)=true then(ck ((0:Int)<=a/\a <(near.length:Int)) (ck ((0:Int)<=a/\a <(near.length:Int)) (ck ((a:Int)=a) (ck (fits ((gt near a).length +([b]).length) 8) (ck ((0:Int)<=a/\a <(near.length:Int)) (ck ((a:Int)=a) (z3s φ K i ((lget line a b).getD default) ((lget line a b).isSome) x.edges (x.edges.length:Int) i x (keyP a b) (zr near a (gt near a++[b])) line))))))) else(z3s φ K i ((lget line a b).getD default) ((lget line a b).isSome) x.edges (x.edges.length:Int) i x (keyP a b) near line)) =
  K x.edges (x.edges.length:Int) ((i:Int)+1) x (ent1 x.edges i a b (near,line)).1 (ent1 x.edges i a b (near,line)).2:=by
 have hW:W ((i:Int)+1) =(i:Int)+1:=W_id (by omega) (by omega)
 unfold z3s ent1
 simp only []
 cases h:lget line a b with
 | none=>
  simp only [Option.isSome_none,w1v,if_true,Option.getD_none,Bool.true_or]
  rw [zb ⟨ha,by omega⟩,zb ⟨ha,by omega⟩,zb trivial,zb (y7q (by simp; omega) (by omega)),zb ⟨ha,by omega⟩,zb trivial,zb (by simp),zb (by simp),hW]
 | some o=>
  have ho:=hold o h
  simp only [Option.isSome_some,w18,w0k,if_false,w0x,w1g]
  rw [zb (fun _=>⟨by omega,by omega⟩),zb (fun _=>ho),hW]
  by_cases c:decide ((gt x.edges (i:Int)).minutes <(gt x.edges o).minutes)=true
  ·rw [if_pos c,if_pos c]
  ·rw [if_neg c,if_neg c]
theorem zsv {i:Nat} (hi:i<x.edges.length) {P:Nat} {near:List (List Int)} {line:Ln} {a b:Int} (hl:near.length=P) (ha:0<=a) (ha':a <(P:Int)) (hsz :(gt near a).length<=10000) (hx:x.edges.length<=2048) (hold:∀ o,lget line a b=some o->0<=o/\o <(x.edges.length:Int)) :
  (if(!(lget line a b).isSome)=true then(ck ((0:Int)<=a/\a <(near.length:Int)) (ck ((0:Int)<=a/\a <(near.length:Int)) (ck ((a:Int)=a) (ck (fits ((gt near a).length +([b]).length) 8) (ck ((0:Int)<=a/\a <(near.length:Int)) (ck ((a:Int)=a) (z3t φ K i ((lget line a b).getD default) ((lget line a b).isSome) x.edges (x.edges.length:Int) i x (keyP a b) (zr near a (gt near a++[b])) line))))))) else(z3t φ K i ((lget line a b).getD default) ((lget line a b).isSome) x.edges (x.edges.length:Int) i x (keyP a b) near line)) =
  K x.edges (x.edges.length:Int) ((i:Int)+1) x (ent1 x.edges i a b (near,line)).1 (ent1 x.edges i a b (near,line)).2:=zj5 φ K x hi hl ha ha' hsz hx hold
theorem zjd (hx:zl0 x) {i:Nat} (hi:i<x.edges.length) {near near1:List (List Int)} {line:Ln} (old:Int) (sm:Bool) (hl:near1.length=x.places.length) (ho:sm=true->0<=old/\old <(x.edges.length:Int))
  (hsz :(gt near1 (gt x.edges (i:Int)).b).length<=10000) (hline:∀ a b o,lget line a b=some o->0<=o/\o <(x.edges.length:Int)) (line1:Ln) (h1:line1=if(!sm||decide ((gt x.edges (i:Int)).minutes <(gt x.edges old).minutes))=true then lset line (gt x.edges (i:Int)).a (gt x.edges (i:Int)).b i else line) :
  z41 φ K i old sm i x.edges (x.edges.length:Int) i x (keyP (gt x.edges (i:Int)).a (gt x.edges (i:Int)).b) (gt x.edges (i:Int)) near1 line =
  K x.edges (x.edges.length:Int) ((i:Int)+1) x (ent1 x.edges i (gt x.edges (i:Int)).b (gt x.edges (i:Int)).a (near1,line1)).1 (ent1 x.edges i (gt x.edges (i:Int)).b (gt x.edges (i:Int)).a (near1,line1)).2:=by
 obtain⟨e1,e2,e3,e4,e5,_⟩:=hx.ends (i:=(i:Int)) (by omega) (by omega)
 unfold z41
 rw [zb (fun _=>⟨by omega,by omega⟩),zb (fun h=>ho (by simpa using h))]
 by_cases c :(!sm||decide ((gt x.edges (i:Int)).minutes <(gt x.edges old).minutes))=true
 ·rw [if_pos c] at h1 ⊢
  subst h1
  refine zj5 φ K x hi hl e3 e4 hsz hx.edges fun o h=>?_
  rw [zmi,if_neg (fun q=>e5 q.1.symm)] at h
  exact hline _ _ o h
 ·rw [if_neg c] at h1 ⊢
  subst h1
  exact zsv φ K x hi hl e3 e4 hsz hx.edges fun o h=>hline _ _ o h
end
section
variable (φ:Nat) (x:zy)
theorem zy0 (hx:zl0 x) (n:Nat) {i:Nat} (hi:i<x.edges.length) {s:List (List Int)×Ln} (h:HI x.edges x.places.length i s) :
  z01 φ (n+1) x.edges (x.edges.length:Int) i x s.1 s.2=z01 φ n x.edges (x.edges.length:Int) ((i:Int)+1) x (entE x.edges i s).1 (entE x.edges i s).2:=by
 obtain⟨e1,e2,e3,e4,e5,_⟩:=hx.ends (i:=(i:Int)) (by omega) (by omega)
 have hE:=hx.edges
 have hline:∀ a b o,lget s.2 a b=some o->0<=o/\o <(x.edges.length:Int):=fun a b o ho=>by
  obtain⟨h1,h2,_⟩:=h.line _ _ _ ho
  exact⟨h1,by omega⟩
 have hsa:=h.size _ e1 e2
 have hsb:=h.size _ e3 e4
 have hlen:=h.len
 rw [z01,if_pos (by simp; omega),zb ⟨by omega,by omega⟩]
 unfold entE
 generalize hs1:ent1 x.edges i (gt x.edges (i:Int)).a (gt x.edges (i:Int)).b s=s1
 have hs1':=hs1
 unfold ent1 at hs1'
 cases hg:lget s.2 (gt x.edges (i:Int)).a (gt x.edges (i:Int)).b with
 | none=>
  have hg':cget z4m s.2 (upd (upd (fun _=>(default:Int)) 0 (gt x.edges (i:Int)).a) 1 (gt x.edges (i:Int)).b)=none:=hg
  rw [hg] at hs1'
  simp only [Option.isSome_none,w1v,if_true,Option.getD_none,Bool.true_or] at hs1'
  rw [hg']
  simp only [Option.isSome_none,w1v,if_true,Option.getD_none]
  rw [zb ⟨e1,by omega⟩,zb ⟨e1,by omega⟩,zb trivial,zb (y7q (by simp; omega) (by omega)),zb ⟨e1,by omega⟩,zb trivial,<- hs1']
  refine zjd φ (z01 φ n) x hx hi (near:=s.1) _ _ (by rw [z0x]; exact hlen) (fun h=>by cases h) ?_ hline _ (by simp)
  rw [z0i _ _ _ _ e1 (by omega) e3,if_neg (fun q=>e5 q.symm)]
  omega
 | some o=>
  have hg':cget z4m s.2 (upd (upd (fun _=>(default:Int)) 0 (gt x.edges (i:Int)).a) 1 (gt x.edges (i:Int)).b)=some o:=hg
  rw [hg] at hs1'
  simp only [Option.isSome_some,w18,w0k,if_false,w0x,w1g] at hs1'
  rw [hg']
  simp only [Option.isSome_some,w18,w0k,if_false,w0x]
  rw [<- hs1']
  exact zjd φ (z01 φ n) x hx hi (near:=s.1) _ _ hlen (fun _=>hline _ _ _ hg) (by omega) hline _ (by simp)
theorem zy8 (hx:zl0 x) (hφ:5000<φ) (line:Ln):z1n φ φ ((zgg x).length:Int) 0 (zgg x) line=some (⟨z5e x,line⟩,0,()):=by
 have hl0 :(zgg x).length=x.places.length:=(zfm hx x.edges.length (w0g _)).len
 have hP:=hx.places
 have hE:=hx.edges
 obtain⟨n0,hn0⟩:∃ n0,n0=x.places.length:=⟨_,rfl⟩
 rw [<- hn0] at hl0 hP
 rw [hl0]
 have hfin:∀ o:List (List Int),o.length=n0->(∀ w:Nat,w<n0->gt o (w:Int)=zqj (fun a b=>decide (a<b)) (gt (zgg x) (w:Int)))->o=z5e x:=by
  intro o ho hw
  unfold z5e
  refine List.ext_getElem (by simp [ho,hl0]) fun i h1 h2=>?_
  have:=hw i (by omega)
  rw [z4p h1,z4p (by omega)] at this
  simpa using this
 refine z11 (fun n i o=>z1n φ n (n0:Int) i o line) n0 (fun i o=>o.length=n0/\∀ w:Nat,w<n0->gt o (w:Int)=if w<i then zqj (fun a b=>decide (a<b)) (gt (zgg x) (w:Int)) else gt (zgg x) (w:Int)) (fun o=>o=some (⟨z5e x,line⟩,0,())) ?_ ?_ φ (zgg x) ⟨hl0,fun w hw=>by rw [if_neg (by omega)]⟩ (by omega)
 ·intro n i o hi ⟨ho1,ho2⟩ hs
  have hsz:=(zfm hx x.edges.length (w0g _)).size (i:Int) (by omega) (by omega)
  have hsz :(gt (zgg x) (i:Int)).length<=2*x.edges.length:=hsz
  have hso:zpq (gt (zgg x) (i:Int))=some (zqj (fun a b=>decide (a<b)) (gt (zgg x) (i:Int))):=by
   unfold zpq zkd; rw [if_pos (by omega)]
  rw [z1n,if_pos (by simp; omega),zb ⟨by omega,by omega⟩,zb ⟨by omega,by omega⟩,zb rfl,ho2 i hi,if_neg (by omega),hso,w03,W_id (by omega) (by omega)]
  refine hs _ ⟨by rw [z0x]; exact ho1,fun w hw=>?_⟩
  rw [z0i _ _ _ _ (by omega) (by omega) (by omega)]
  by_cases e:w=i
  ·subst e; rw [if_pos rfl,if_pos (by omega)]
  ·rw [if_neg (by omega),ho2 w hw]
   by_cases h2:w<i
   ·rw [if_pos h2,if_pos (by omega)]
   ·rw [if_neg h2,if_neg (by omega)]
 ·intro n o ⟨ho1,ho2⟩
  have:=hfin o ho1 fun w hw=>by rw [ho2 w hw,if_pos hw]
  subst this
  rw [z1n,if_neg (by simp)]
theorem y07 (hx:zl0 x) (hφ:5000<φ):z01 φ φ x.edges (x.edges.length:Int) 0 x (List.replicate ((x.places.length:Int)).toNat (default:List Int)) []=some (⟨z5e x,zac x⟩,0,()):=by
 have hE:=hx.edges
 have h0 :(List.replicate ((x.places.length:Int)).toNat (default:List Int),([]:Ln))=zjj x.edges x.places.length 0:=by simp [zjj]
 refine z11 (fun n i (s:List (List Int)×Ln)=>z01 φ n x.edges (x.edges.length:Int) i x s.1 s.2) x.edges.length (fun i s=>s=zjj x.edges x.places.length i) (fun o=>o=some (⟨z5e x,zac x⟩,0,())) ?_ ?_ φ (List.replicate ((x.places.length:Int)).toNat (default:List Int),[]) h0 (by omega)
 ·intro n i s hi hs hk
  subst hs
  rw [zy0 φ x hx n hi (zfm hx i (by omega))]
  exact hk _ rfl
 ·intro n s hs
  subst hs
  rw [z01,if_neg (by simp)]
  exact zy8 φ x hx hφ (zac x)
theorem zzi (hx:zl0 x) (hφ:800000<φ) (a0:Int) (hs:0<=a0) (hs':a0 <(x.places.length:Int)):∃ t,DF x.places.length (z5e x) (wtN x) a0 t/\z9f φ x ⟨z5e x,zac x⟩ a0=some (t,()):=by
 have hG:=grN hx
 have hP:=hx.places
 have hrep :(List.replicate ((x.places.length:Int):Int).toNat (default:Int)).length=x.places.length:=by simp
 unfold z9f
 rw [hrep]
 have e1 :((x.places.length:Int)).toNat=x.places.length:=by simp
 rw [e1,zb (mk_t _ _ (by omega) (by omega) (by omega)),zb (mk_t _ _ (by omega) (by omega) (by omega))]
 have search:∀ t:List Int,t.length=x.places.length->(∀ i:Int,0<=i->i <(x.places.length:Int)->gt t i=if i=a0 then 0 else -1)->
   ∃ t',DF x.places.length (z5e x) (wtN x) a0 t'/\z02 φ φ x ⟨z5e x,zac x⟩ t (List.replicate x.places.length (default:Bool))=some (t',()):=by
  intro t ht hall
  refine y7b hG hs hs' (fun n t d=>z02 φ n x ⟨z5e x,zac x⟩ t d) (fun t'=>some (t',())) φ ?_ φ 0 t _ (y5t hs hs' t ht hall) (by omega)
  intro n k t d hk hD
  obtain⟨p,hp1,hp2⟩:=ydu hP (fun m p i=>z1q φ (z02 φ n) m p (x.places.length:Int) i x ⟨z5e x,zac x⟩ t d)
   (fun p=>(if(decide ((p:Int)<0))=true then(some (t,())) else(ck ((0:Int)<=p/\p <(d.length:Int)) (ck ((0:Int)<=p/\p <((z5e x).length:Int)) (z1r φ (z02 φ n) φ p (gt (z5e x) p) ((gt (z5e x) p).length:Int) 0 x ⟨z5e x,zac x⟩ t (zr d p true))))))
   t d hD.lt hD.ld (fun m p i=>by rw [z1q]) φ (by omega)
  have hM:z02 φ (n+1) x ⟨z5e x,zac x⟩ t d=z1q φ (z02 φ n) φ (-1) (x.places.length:Int) 0 x ⟨z5e x,zac x⟩ t d:=by
   rw [z02,hD.lt]
  try simp only [] at hp1
  simp only [hM]
  rw [hp1]
  rcases hp2 with⟨rfl,hall⟩ |⟨p0,p1,p2,p3,p4⟩
  ·left
   refine⟨t,ydy hG hD hall,?_⟩
   rw [if_pos (by decide)]
  ·right
   rw [if_neg (by simp; omega),zb ⟨p0,by rw [hD.ld]; exact p1⟩,zb ⟨p0,by rw [hG.len]; exact p1⟩]
   obtain⟨t',h1,h2⟩:=ycr hG p0 p1 hk hD p2 (fun m i t=>z1r φ (z02 φ n) m p (gt (z5e x) p) ((gt (z5e x) p).length:Int) i x ⟨z5e x,zac x⟩ t (zr d p true))
    (fun t=>z02 φ n x ⟨z5e x,zac x⟩ t (zr d p true)) (gt (z5e x) p) rfl x.edges.length (fun q=>(lget (zac x) p q).getD default) (fun i=>(gt x.edges i).minutes)
    (fun q hq=>by
     obtain⟨i,hi,i0,i1,_⟩:=zoy hx p0 p1 hq
     rw [hi]
     exact⟨i0,i1,by unfold wtN; rw [hi]⟩) (fun m i t=>by rw [z1r]) φ (by have:=hG.size p p0 p1; omega)
   exact⟨t',p,p0,p1,y6e hG p0 p1 hD hs hs' p2 p3 p4 h2,h1⟩
 refine z11 (fun n i t=>z2m φ n a0 (x.places.length:Int) i x ⟨z5e x,zac x⟩ t (List.replicate x.places.length (default:Bool))) x.places.length (fun i t=>t.length=x.places.length/\∀ j:Int,0<=j->j <(i:Int)->gt t j=-1) (fun o=>∃ t,DF x.places.length (z5e x) (wtN x) a0 t/\o=some (t,())) ?_ ?_ φ (List.replicate x.places.length (default:Int)) ⟨by simp,fun j j0 j1=>by omega⟩ (by omega)
 ·intro n i t hi ⟨h1,h2⟩ hs
  rw [z2m,if_pos (by simp; omega),zb ⟨by omega,by omega⟩,W_id (by omega) (by omega)]
  refine hs _ ⟨by rw [z0x]; exact h1,fun j j0 j1=>?_⟩
  rw [z0i _ _ _ _ (by omega) (by omega) j0]
  by_cases e:j =(i:Int)
  ·rw [if_pos e]
  ·rw [if_neg e]; exact h2 j j0 (by omega)
 ·intro n t ⟨h1,h2⟩
  rw [z2m,if_neg (by simp),zb ⟨hs,by omega⟩]
  exact search (zr t a0 0) (by rw [z0x]; exact h1) (fun i i0 i1=>by
   rw [z0i _ _ _ _ hs (by omega) i0]
   split
   ·rfl
   ·exact h2 i i0 i1)
end
theorem y4u (φ:Nat) (hφ:800000<φ) (x:zy) (a b:Int):∃ e,(za4 x=0/\(0<=a/\a <(x.places.length:Int))/\(0<=b/\b <(x.places.length:Int))/\z74 φ x [a,b]=some (⟨z5e x,zac x⟩,0,()))\/(e≠0/\∃ g,z74 φ x [a,b]=some (g,e,())):=by
 unfold z74
 rw [zds _ (by omega),w03]
 by_cases hn:za4 x=0
 case neg=>exact⟨za4 x,.inr ⟨hn,_,by rw [if_pos (by simpa using hn)]⟩⟩
 have hx:=ycd hn
 have hP:=hx.places
 rw [if_neg (by simp [hn])]
 obtain⟨m,rfl⟩:∃ m,φ=m+3:=⟨φ-3,by omega⟩
 have g0:gt [a,b] 0=a:=rfl
 have g1:gt [a,b] 1=b:=rfl
 have L :((([a,b]:List Int).length:Nat):Int)=2:=rfl
 rw [L,show m+3 =(m+2)+1 from rfl,z35,if_pos (by decide),zb (by rw [L]; decide),g0]
 by_cases ha:0<=a/\a <(x.places.length:Int)
 case neg=>
  rw [if_pos (by simp; omega)]
  exact⟨1,.inr ⟨by omega,_,rfl⟩⟩
 rw [if_neg (by simp; omega),show W (0+1)=1 by rfl,show m+2 =(m+1)+1 from rfl,z35,if_pos (by decide),zb (by rw [L]; decide),g1]
 by_cases hb:0<=b/\b <(x.places.length:Int)
 case neg=>
  rw [if_pos (by simp; omega)]
  exact⟨1,.inr ⟨by omega,_,rfl⟩⟩
 rw [if_neg (by simp; omega),show W (1+1)=2 by rfl,z35,if_neg (by decide),zb (mk_t _ _ (by omega) (by omega) (by omega)),y07 (m+1+1+1) x hx (by omega)]
 exact⟨0,.inl ⟨hn,ha,hb,rfl⟩⟩
theorem zy1 (φ:Nat) (hφ:800000<φ) (x:zy) (a b:Int):∃ t e,z2r φ x a b=some (t,e,())/\0<=t/\t<=51200000:=by
 unfold z2r
 obtain⟨e,⟨hn,ha,hb,h⟩ |⟨he,g,h⟩⟩:=y4u φ hφ x a b
 ·have hx:=ycd hn
  rw [h,w03,if_neg (by simp)]
  obtain⟨t,h1,h2⟩:=zzi φ x hx hφ a ha.1 ha.2
  rw [h2,w03,zb ⟨hb.1,by rw [h1.lt]; exact hb.2⟩]
  rcases h1.bd b hb.1 hb.2 with h3 |⟨h3,h4⟩
  ·rw [if_pos (by simp; omega)]
   exact⟨0,80,rfl,by omega,by omega⟩
  ·rw [if_neg (by simp; omega)]
   exact⟨_,0,rfl,h3,h4⟩
 ·rw [h,w03,if_pos (by simpa using he)]
  exact⟨0,e,rfl,by omega,by omega⟩
end Px
end
section
namespace Px
open Go
theorem yep (φ:Nat) (hφ:800000<φ):zhs φ:=zy1 φ hφ
theorem y47 (φ:Nat) (p:Pool) (s:List z8) (o:List zg) (x:Plan) (l:List z6) :(z3c φ).F (p,s,o,x,l,())=z2s φ p s o x l:=rfl
theorem zhf (y:Tup TT [26,36,37,47,46]) (h:yas TV 30 [26,36,37,47,46] y):∃ φ,(z3c φ).F y=some (true,()):=by
 obtain⟨p,s,o,x,l,u⟩:=y
 cases u
 change Pool at p
 change List z8 at s
 change List zg at o
 change Plan at x
 change List z6 at l
 suffices key:∀ φ:Nat,60000000<φ->zch φ=some (true,())->z2s φ p s o x l=some (true,()) from⟨100000000,(y47 _ p s o x l).trans (key _ (by omega) yci)⟩
 intro φ hφ hsane
 exact zv5 (by omega) (yep φ (by omega)) hsane p s o x l
end Px
end
