/- A part of the proof of custodyMatchesReference_holds. Conditions: none. -/
import Derived.Test.YtonbdachlfobnaaGreatZje
set_option linter.unusedVariables false
set_option linter.unusedSimpArgs false
section
namespace Px
open Go
section
variable {P:Nat} {near:List (List Int)} {wt:Int->Int->Int} {s:Int}
theorem zxj {α:Type} [Inhabited α] (l:List α) {i:Int} (h0:0<=i) (h:i <(l.length:Int)):zw l i (gt l i)=l:=by
 obtain⟨n,rfl⟩:∃ n:Nat,i =(n:Int):=⟨i.toNat,by omega⟩
 rw [z23 (by omega)]
 simp [zw]
theorem ygq {p:Int} {k:Nat} {t0:List Int} {d:List Bool} (h:DI P near wt s k t0 d):RndI P near wt s p k t0 d [] t0:=
 ⟨h.lt,rfl,fun i _ _=>.inl rfl,fun i hi=>by cases hi⟩
theorem yih (hG:Gr P near wt) {p:Int} (hp:0<=p) (hp':p <(P:Int)) {k:Nat} {t0:List Int} {d:List Bool} (hp0:0<=gt t0 p) {seen t:List Int} (h:RndI P near wt s p k t0 d seen t) {q:Int} (hq:q∈gt near p) :
  RndI P near wt s p k t0 d (seen++[q]) (if(decide (gt t q<0)||decide (gt t p+wt p q<gt t q))=true then zw t q (gt t p+wt p q) else t):=by
 obtain⟨q0,q1⟩:=hG.rng p q hp hp' hq
 obtain⟨w0,w1⟩:=hG.wt p q hp hp' hq
 have hown:=h.own
 by_cases c:gt t q<0\/gt t p+wt p q<gt t q
 ·rw [if_pos (by simpa using c)]
  have hqp:q≠p:=fun e=>by subst e; omega
  refine⟨by rw [z05]; exact h.lt,?_,fun i h0 h1=>?_,fun i hi hneg=>?_⟩
  ·rw [zy _ _ _ _ q0 (by rw [h.lt]; exact q1) hp,if_neg (fun e=>hqp e.symm)]; exact hown
  ·rw [zy _ _ _ _ q0 (by rw [h.lt]; exact q1) h0]
   by_cases e:i=q
   ·subst e
    rw [if_pos rfl]
    refine .inr ⟨by simp,by rw [hown],?_⟩
    rcases h.val i h0 h1 with h2 |⟨_,h2,_⟩
    ·rw [h2,hown] at c; exact c
    ·rw [h2,hown] at c; exfalso; omega
   ·rw [if_neg e]
    rcases h.val i h0 h1 with h2 |⟨h2,h3,h4⟩
    ·exact .inl h2
    ·exact .inr ⟨List.mem_append_left _ h2,h3,h4⟩
  ·by_cases e:i=q
   ·subst e
    rw [zy _ _ _ _ q0 (by rw [h.lt]; exact q1) q0,if_pos rfl,zy _ _ _ _ q0 (by rw [h.lt]; exact q1) hp,if_neg (fun e=>hqp e.symm)]
    omega
   ·have hi:i∈seen:=by
     rcases List.mem_append.1 hi with hi | hi
     ·exact hi
     ·exact absurd (List.mem_singleton.1 hi) e
    rw [zy _ _ _ _ q0 (by rw [h.lt]; exact q1) hneg,if_neg e,zy _ _ _ _ q0 (by rw [h.lt]; exact q1) hp,if_neg (fun e=>hqp e.symm)]
    exact h.got i hi hneg
 ·rw [if_neg (by simpa using c)]
  refine⟨h.lt,hown,fun i h0 h1=>?_,fun i hi hneg=>?_⟩
  ·rcases h.val i h0 h1 with h2 |⟨h2,h3,h4⟩
   ·exact .inl h2
   ·exact .inr ⟨List.mem_append_left _ h2,h3,h4⟩
  ·rcases List.mem_append.1 hi with hi | hi
   ·exact h.got i hi hneg
   ·rw [List.mem_singleton.1 hi]; omega
theorem y8g {d:List Bool} {p:Int} (hp:0<=p) (hp':p <(d.length:Int)) (h:gt d p=false) :(zw d p true).count true=d.count true+1:=by
 obtain⟨n,rfl⟩:∃ n:Nat,p =(n:Int):=⟨p.toNat,by omega⟩
 have hn:n<d.length:=by omega
 rw [z23 hn] at h
 unfold zw
 rw [Int.toNat_natCast,List.count_set hn,h]
 simp
theorem ykd (hG:Gr P near wt) {p:Int} (hp:0<=p) (hp':p <(P:Int)) {k:Nat} {t0:List Int} {d:List Bool} (h:DI P near wt s k t0 d) (hs:0<=s) (hs':s <(P:Int)) (hp0:0<=gt t0 p) (hd:gt d p=false)
  (hmin:∀ i:Int,0<=i->i <(P:Int)->0<=gt t0 i->gt d i=false->gt t0 p<=gt t0 i) {t:List Int} (hr:RndI P near wt s p k t0 d (gt near p) t):DI P near wt s (k+1) t (zw d p true):=by
 have hds:∀ i:Int,0<=i->gt (zw d p true) i=if i=p then true else gt d i:=fun i hi=>zy _ _ _ _ hp (by rw [h.ld]; exact hp') hi
 have hw:∀ i,i∈gt near p->1<=wt p i/\wt p i<=100000:=fun i hi=>hG.wt p i hp hp' hi
 -- what is done stays
 have hdone:∀ i:Int,0<=i->i <(P:Int)->gt d i=true->gt t i=gt t0 i:=by
  intro i h0 h1 hdi
  rcases hr.val i h0 h1 with h2 |⟨h2,h3,h4⟩
  ·exact h2
  ·have:=hw i h2
   have:=h.don i h0 h1 hdi
   have:=h.mon i p h0 h1 hp hp' hdi hd hp0
   omega
 have hbdp:=(h.bd p hp hp').resolve_left (by omega)
 refine⟨hr.lt,by rw [z05]; exact h.ld,?_,fun i h0 h1=>?_,fun i h0 h1 hdi=>?_,fun a h0 h1 has hta=>?_,fun q i q0 q1 h0 h1 hdq hdi hti=>?_,fun q i q0 q1 hdq hin=>?_,?_⟩
 ·rcases hr.val s hs hs' with h2 |⟨h2,h3,h4⟩
  ·rw [h2,h.src]
  ·have:=hw s h2
   have:=h.src
   omega
 ·rcases hr.val i h0 h1 with h2 |⟨h2,h3,h4⟩
  ·rw [h2]
   rcases h.bd i h0 h1 with h5 | h5
   ·exact .inl h5
   ·right; omega
  ·have:=hw i h2
   right; omega
 ·rw [hds i h0] at hdi
  by_cases e:i=p
  ·subst e; rw [hr.own]; exact hp0
  ·rw [if_neg e] at hdi
   rw [hdone i h0 h1 hdi]; exact h.don i h0 h1 hdi
 ·rcases hr.val a h0 h1 with h2 |⟨h2,h3,h4⟩
  ·rw [h2] at hta ⊢
   obtain⟨q,q0,q1,hdq,hqn,he⟩:=h.pre a h0 h1 has hta
   refine⟨q,q0,q1,?_,hqn,by rw [hdone q q0 q1 hdq]; exact he⟩
   rw [hds q q0]; split
   ·rfl
   ·exact hdq
  ·obtain⟨hsy,hwt⟩:=hG.sym p a hp hp' h2
   exact⟨p,hp,hp',by rw [hds p hp,if_pos rfl],hsy,by rw [hr.own,h3]⟩
 ·rw [hds q q0] at hdq
  rw [hds i h0] at hdi
  have hip:i≠p:=fun e=>by rw [if_pos e] at hdi; cases hdi
  rw [if_neg hip] at hdi
  have hge:gt t0 p<=gt t i:=by
   rcases hr.val i h0 h1 with h2 |⟨h2,h3,h4⟩
   ·rw [h2] at hti ⊢; exact hmin i h0 h1 hti hdi
   ·have:=hw i h2; omega
  by_cases e:q=p
  ·subst e; rw [hr.own]; exact hge
  ·rw [if_neg e] at hdq
   have:=h.mon q p q0 q1 hp hp' hdq hd hp0
   rw [hdone q q0 q1 hdq]; omega
 ·rw [hds q q0] at hdq
  by_cases e:q=p
  ·subst e; exact hr.got i hin (hG.rng q i hp hp' hin).1
  ·rw [if_neg e] at hdq
   obtain⟨i0,i1⟩:=hG.rng q i q0 q1 hin
   have:=h.nbr q i q0 q1 hdq hin
   rw [hdone q q0 q1 hdq]
   rcases hr.val i i0 i1 with h2 |⟨h2,h3,h4⟩
   ·rw [h2]; exact this
   ·have:=hw i h2; omega
 ·rw [y8g hp (by rw [h.ld]; exact hp') hd,h.cnt]
structure DF (P:Nat) (near:List (List Int)) (wt:Int->Int->Int) (s:Int) (t:List Int):Prop where
 lt:t.length=P
 src:gt t s=0
 bd:∀ i:Int,0<=i->i <(P:Int)->gt t i=-1\/(0<=gt t i/\gt t i<=51200000)
 pre:∀ a:Int,0<=a->a <(P:Int)->a≠s->0<=gt t a->∃ q,0<=q/\q <(P:Int)/\q∈gt near a/\0<=gt t q/\gt t a=gt t q+wt q a
 nbr:∀ q i:Int,0<=q->q <(P:Int)->0<=gt t q->i∈gt near q->0<=gt t i/\gt t i<=gt t q+wt q i
theorem yrj (hG:Gr P near wt) {k:Nat} {t:List Int} {d:List Bool} (h:DI P near wt s k t d) (hall:∀ i:Int,0<=i->i <(P:Int)->0<=gt t i->gt d i=true):DF P near wt s t:=by
 have hk:k<=P:=by rw [<- h.cnt,<- h.ld]; exact List.count_le_length
 have:=hG.small
 refine⟨h.lt,h.src,fun i h0 h1=>?_,fun a h0 h1 ha hta=>?_,fun q i q0 q1 hq hi=>h.nbr q i q0 q1 (hall q q0 q1 hq) hi⟩
 ·rcases h.bd i h0 h1 with h2 | h2
  ·exact .inl h2
  ·right; omega
 ·obtain⟨q,q0,q1,hdq,hqn,he⟩:=h.pre a h0 h1 ha hta
  exact⟨q,q0,q1,hqn,h.don q q0 q1 hdq,he⟩
theorem yig (hs:0<=s) (hs':s <(P:Int)) (t:List Int) (ht:t.length=P) (hall:∀ i:Int,0<=i->i <(P:Int)->gt t i=if i=s then 0 else -1):DI P near wt s 0 t (List.replicate P (default:Bool)):=by
 have hd:∀ i:Int,0<=i->i <(P:Int)->gt (List.replicate P (default:Bool)) i=false:=fun i h0 h1=>by rw [z17 _ _ _ h0 (by omega)]; rfl
 refine⟨ht,by simp,by rw [hall s hs hs',if_pos rfl],fun i h0 h1=>?_,fun i h0 h1 h=>?_,fun a h0 h1 ha hta=>?_,fun q i q0 q1 h0 h1 hdq=>?_,fun q i q0 q1 hdq=>?_,?_⟩
 ·rw [hall i h0 h1]; split <;> omega
 ·rw [hd i h0 h1] at h; cases h
 ·rw [hall a h0 h1,if_neg ha] at hta; omega
 ·rw [hd q q0 q1] at hdq; cases hdq
 ·rw [hd q q0 q1] at hdq; cases hdq
 ·simp [List.count_replicate]
end
section walk
variable {ρ:Type} {P:Nat} {near:List (List Int)} {wt:Int->Int->Int} {s:Int}
theorem yqf (hP:P<=512) (A:Nat->Int->Int->Option ρ) (fin:Int->Option ρ) (t:List Int) (d:List Bool) (ht:t.length=P) (hd:d.length=P)
  (stp:∀ n p i,A (n+1) p i =(if(decide ((i:Int) <(P:Int)))=true then(ck ((0:Int)<=i/\i <(t.length:Int)) (ck (((decide ((0:Int)<=(gt t i)))=true)->(0:Int)<=i/\i <(d.length:Int)) (ck ((((decide ((0:Int)<=(gt t i)))&&(!(gt d i)))=true/\(decide ((p:Int)<0))=false)->(0:Int)<=i/\i <(t.length:Int)) (ck ((((decide ((0:Int)<=(gt t i)))&&(!(gt d i)))=true/\(decide ((p:Int)<0))=false)->(0:Int)<=p/\p <(t.length:Int)) (if(((decide ((0:Int)<=(gt t i)))&&(!(gt d i)))&&((decide ((p:Int)<0))||(decide (((gt t i):Int) <(gt t p)))))=true then(A n i (W (i+1))) else(A n p (W (i+1)))))))) else fin p)) (n:Nat) (hn:P<n) :
  ∃ p,A n (-1) 0=fin p/\((p=-1/\∀ i:Int,0<=i->i <(P:Int)->0<=gt t i->gt d i=true)\/(0<=p/\p <(P:Int)/\0<=gt t p/\gt d p=false/\∀ i:Int,0<=i->i <(P:Int)->0<=gt t i->gt d i=false->gt t p<=gt t i)):=by
 refine zr (fun n i (p:Int)=>A n p i) P (fun i p=>(p=-1/\∀ j:Int,0<=j->j <(i:Int)->0<=gt t j->gt d j=true)\/(0<=p/\p <(i:Int)/\0<=gt t p/\gt d p=false/\∀ j:Int,0<=j->j <(i:Int)->0<=gt t j->gt d j=false->gt t p<=gt t j))
  (fun o=>∃ p,o=fin p/\((p=-1/\∀ i:Int,0<=i->i <(P:Int)->0<=gt t i->gt d i=true)\/(0<=p/\p <(P:Int)/\0<=gt t p/\gt d p=false/\∀ i:Int,0<=i->i <(P:Int)->0<=gt t i->gt d i=false->gt t p<=gt t i))) ?_ ?_ n (-1) (.inl ⟨rfl,fun j h0 h1=>by omega⟩) hn
 ·intro n i p hi hI hs
  rw [stp,if_pos (by simp; omega),z7 ⟨by omega,by omega⟩,z7 (fun _=>⟨by omega,by omega⟩),z7 (fun _=>⟨by omega,by omega⟩),W_id (by omega) (by omega)]
  have hpr :(decide ((p:Int)<0))=false->(0:Int)<=p/\p <(t.length:Int):=by
   intro h
   simp only [decide_eq_false_iff_not] at h
   rcases hI with⟨rfl,_⟩ |⟨h1,h2,_⟩
   ·omega
   ·exact⟨h1,by omega⟩
  rw [z7 (fun h=>hpr h.2)]
  have split_j:∀ j:Int,j <((i+1:Nat):Int)->j <(i:Int)\/j =(i:Int):=fun j h=>by omega
  by_cases c :(0<=gt t (i:Int)/\gt d (i:Int)=false)/\(p<0\/gt t (i:Int)<gt t p)
  ·rw [if_pos (by simpa using c)]
   refine hs _ (.inr ⟨by omega,by omega,c.1.1,c.1.2,fun j h0 h1 htj hdj=>?_⟩)
   rcases split_j j h1 with h2 | rfl
   ·rcases hI with⟨_,h3⟩ |⟨q0,_,_,_,h3⟩
    ·have:=h3 j h0 h2 htj; rw [hdj] at this; cases this
    ·have:=h3 j h0 h2 htj hdj
     have:=c.2.resolve_left (by omega)
     omega
   ·exact Int.le_refl _
  ·rw [if_neg (by simpa using c)]
   refine hs p ?_
   rcases hI with⟨rfl,h3⟩ |⟨q0,q1,q2,q3,h3⟩
   ·refine .inl ⟨rfl,fun j h0 h1 htj=>?_⟩
    rcases split_j j h1 with h2 | rfl
    ·exact h3 j h0 h2 htj
    ·cases hdi:gt d (i:Int) with
     | true=>rfl
     | false=>exact absurd ⟨⟨htj,hdi⟩,.inl (by omega)⟩ c
   ·refine .inr ⟨q0,by omega,q2,q3,fun j h0 h1 htj hdj=>?_⟩
    rcases split_j j h1 with h2 | rfl
    ·exact h3 j h0 h2 htj hdj
    ·rcases Int.lt_or_le (gt t (i:Int)) (gt t p) with h4 | h4
     ·exact absurd ⟨⟨htj,hdj⟩,.inr h4⟩ c
     ·exact h4
 ·intro n p hI
  rw [stp,if_neg (by simp)]
  exact⟨p,rfl,hI⟩
theorem ypv (hG:Gr P near wt) {p:Int} (hp:0<=p) (hp':p <(P:Int)) {k:Nat} (hk:k<=512) {t0:List Int} {d:List Bool} (hD:DI P near wt s k t0 d) (hp0:0<=gt t0 p) (B:Nat->Int->List Int->Option ρ) (K:List Int->Option ρ) (nb:List Int) (hnb:nb=gt near p) (E:Nat) (lg:Int->Int) (mins:Int->Int)
  (hlg:∀ q∈nb,0<=lg q/\lg q <(E:Int)/\mins (lg q)=wt p q)
  (stp:∀ n i t,B (n+1) i t =(if(decide ((i:Int) <(nb.length:Int)))=true then(ck ((0:Int)<=i/\i <(nb.length:Int)) (ck ((0:Int)<=p/\p <(t.length:Int)) (ck ((0:Int)<=lg (gt nb i)/\lg (gt nb i) <(E:Int)) (ck ((0:Int)<=(gt nb i)/\(gt nb i) <(t.length:Int)) (ck (((decide (((gt t (gt nb i)):Int)<0))=false)->(0:Int)<=(gt nb i)/\(gt nb i) <(t.length:Int)) (if((decide (((gt t (gt nb i)):Int)<0))||(decide (((W ((gt t p)+mins (lg (gt nb i)))):Int) <(gt t (gt nb i)))))=true then(ck ((0:Int)<=(gt nb i)/\(gt nb i) <(t.length:Int)) (B n (W (i+1)) (zw t (gt nb i) (W ((gt t p)+mins (lg (gt nb i))))))) else(B n (W (i+1)) t))))))) else K t)) (n:Nat) (hn:nb.length<n) :
  ∃ t,B n 0 t0=K t/\RndI P near wt s p k t0 d nb t:=by
 have hsz:nb.length<=5000:=by rw [hnb]; exact hG.size p hp hp'
 have hbp:=(hD.bd p hp hp').resolve_left (by omega)
 refine zr (fun n i t=>B n i t) nb.length (fun i t=>RndI P near wt s p k t0 d (nb.take i) t) (fun o=>∃ t,o=K t/\RndI P near wt s p k t0 d nb t) ?_ ?_ n t0 (ygq hD) hn
 ·intro n i t hi hI hs
  have hm:gt nb (i:Int)∈gt near p:=by rw [<- hnb]; exact z0p (by omega) (by omega)
  obtain⟨q0,q1⟩:=hG.rng p _ hp hp' hm
  obtain⟨w0,w1⟩:=hG.wt p _ hp hp' hm
  obtain⟨l0,l1,l2⟩:=hlg (gt nb (i:Int)) (by rw [hnb]; rw [hnb] at hm; exact hm)
  have hlt:=hI.lt
  have hst:=yih hG hp hp' hp0 hI hm
  rw [<- z0b nb i hi] at hst
  have hr:=hs _ hst
  have hown:=hI.own
  rw [stp,if_pos (by simp; omega),z7 ⟨by omega,by omega⟩,z7 ⟨by omega,by omega⟩,z7 ⟨l0,l1⟩,z7 ⟨by omega,by omega⟩,z7 (fun _=>⟨by omega,by omega⟩),l2,W_id (x:=gt t p+_) (by omega) (by omega),W_id (by omega) (by omega)]
  generalize gt nb (i:Int)=q at *
  by_cases c :(decide (gt t q<0)||decide (gt t p+wt p q<gt t q))=true
  ·rw [if_pos c] at hr ⊢
   rw [z7 ⟨by omega,by omega⟩]
   exact hr
  ·rw [if_neg c] at hr ⊢
   exact hr
 ·intro n t hI
  rw [stp,if_neg (by simp)]
  rw [List.take_length] at hI
  exact⟨t,rfl,hI⟩
theorem yj0 (hG:Gr P near wt) (hs:0<=s) (hs':s <(P:Int)) (M:Nat->List Int->List Bool->Option ρ) (fin:List Int->Option ρ) (φ:Nat)
  (rnd:∀ n k t d,k<=512->DI P near wt s k t d->(∃ t',DF P near wt s t'/\M (n+1) t d=fin t')\/(∃ t' p,0<=p/\p <(P:Int)/\DI P near wt s (k+1) t' (zw d p true)/\M (n+1) t d=M n t' (zw d p true))) :
  ∀ n k t d,DI P near wt s k t d->P<n+k->∃ t',DF P near wt s t'/\M n t d=fin t':=by
 intro n
 induction n with
 | zero=>
  intro k t d h hn
  have hk:k<=P:=by rw [<- h.cnt,<- h.ld]; exact List.count_le_length
  omega
 | succ n ih=>
  intro k t d h hn
  have hk:k<=P:=by rw [<- h.cnt,<- h.ld]; exact List.count_le_length
  have:=hG.small
  rcases rnd n k t d (by omega) h with h1 |⟨t',p,_,_,h2,h3⟩
  ·exact h1
  ·rw [h3]
   exact ih (k+1) t' _ h2 (by omega)
end walk
end Px
end
section
namespace Px
open Go
section zo
variable (φ:Nat) (K:List Edge->Int->Int->Int->Int->ze->ze->List (List Int)->Ln->Option (Int×Int×Unit)) (x:ze) (a0 b0:Int)
theorem z9z {i:Nat} (hi:i<x.edges.length) {P:Nat} {near:List (List Int)} {line:Ln} {a b:Int} (hl:near.length=P) (ha:0<=a) (ha':a <(P:Int)) (hsz :(gt near a).length<=10000) (hx:x.edges.length<=2048) (hold:∀ o,lget line a b=some o->0<=o/\o <(x.edges.length:Int)) :
  (if(!(lget line a b).isSome)=true then(ck ((0:Int)<=a/\a <(near.length:Int)) (ck ((0:Int)<=a/\a <(near.length:Int)) (ck ((a:Int)=a) (ck (fits ((gt near a).length +([b]).length) 8) (ck ((0:Int)<=a/\a <(near.length:Int)) (ck ((a:Int)=a) (z3r φ K i ((lget line a b).getD default) ((lget line a b).isSome) x.edges (x.edges.length:Int) i a0 b0 x (keyP a b) x (zw near a (gt near a++[b])) line))))))) else(z3r φ K i ((lget line a b).getD default) ((lget line a b).isSome) x.edges (x.edges.length:Int) i a0 b0 x (keyP a b) x near line)) =
  K x.edges (x.edges.length:Int) ((i:Int)+1) a0 b0 x x (ent1 x.edges i a b (near,line)).1 (ent1 x.edges i a b (near,line)).2:=by
 have hW:W ((i:Int)+1) =(i:Int)+1:=W_id (by omega) (by omega)
 unfold z3r ent1
 simp only []
 cases h:lget line a b with
 | none=>
  simp only [Option.isSome_none,Bool.not_false,if_true,Option.getD_none,Bool.true_or]
  rw [z7 ⟨ha,by omega⟩,z7 ⟨ha,by omega⟩,z7 trivial,z7 (ylw (by simp; omega) (by omega)),z7 ⟨ha,by omega⟩,z7 trivial,z7 (by simp),z7 (by simp),hW]
 | some o=>
  have ho:=hold o h
  simp only [Option.isSome_some,Bool.not_true,Bool.false_eq_true,if_false,Option.getD_some,Bool.false_or]
  rw [z7 (fun _=>⟨by omega,by omega⟩),z7 (fun _=>ho),hW]
  by_cases c:decide ((gt x.edges (i:Int)).minutes <(gt x.edges o).minutes)=true
  ·rw [if_pos c,if_pos c]
  ·rw [if_neg c,if_neg c]
theorem zjz {i:Nat} (hi:i<x.edges.length) {P:Nat} {near:List (List Int)} {line:Ln} {a b:Int} (hl:near.length=P) (ha:0<=a) (ha':a <(P:Int)) (hsz :(gt near a).length<=10000) (hx:x.edges.length<=2048) (hold:∀ o,lget line a b=some o->0<=o/\o <(x.edges.length:Int)) :
  (if(!(lget line a b).isSome)=true then(ck ((0:Int)<=a/\a <(near.length:Int)) (ck ((0:Int)<=a/\a <(near.length:Int)) (ck ((a:Int)=a) (ck (fits ((gt near a).length +([b]).length) 8) (ck ((0:Int)<=a/\a <(near.length:Int)) (ck ((a:Int)=a) (z3s φ K i ((lget line a b).getD default) ((lget line a b).isSome) x.edges (x.edges.length:Int) i a0 b0 x (keyP a b) x (zw near a (gt near a++[b])) line))))))) else(z3s φ K i ((lget line a b).getD default) ((lget line a b).isSome) x.edges (x.edges.length:Int) i a0 b0 x (keyP a b) x near line)) =
  K x.edges (x.edges.length:Int) ((i:Int)+1) a0 b0 x x (ent1 x.edges i a b (near,line)).1 (ent1 x.edges i a b (near,line)).2:=z9z φ K x a0 b0 hi hl ha ha' hsz hx hold
theorem za2 (hx:zbu x) {i:Nat} (hi:i<x.edges.length) {near near1:List (List Int)} {line:Ln} (old:Int) (sm:Bool) (hl:near1.length=x.places.length) (ho:sm=true->0<=old/\old <(x.edges.length:Int))
  (hsz :(gt near1 (gt x.edges (i:Int)).b).length<=10000) (hline:∀ a b o,lget line a b=some o->0<=o/\o <(x.edges.length:Int)) (line1:Ln) (h1:line1=if(!sm||decide ((gt x.edges (i:Int)).minutes <(gt x.edges old).minutes))=true then lset line (gt x.edges (i:Int)).a (gt x.edges (i:Int)).b i else line) :
  z3o φ K i old sm i x.edges (x.edges.length:Int) i a0 b0 x (keyP (gt x.edges (i:Int)).a (gt x.edges (i:Int)).b) (gt x.edges (i:Int)) x near1 line =
  K x.edges (x.edges.length:Int) ((i:Int)+1) a0 b0 x x (ent1 x.edges i (gt x.edges (i:Int)).b (gt x.edges (i:Int)).a (near1,line1)).1 (ent1 x.edges i (gt x.edges (i:Int)).b (gt x.edges (i:Int)).a (near1,line1)).2:=by
 obtain⟨e1,e2,e3,e4,e5,_⟩:=hx.ends (i:=(i:Int)) (by omega) (by omega)
 unfold z3o
 rw [z7 (fun _=>⟨by omega,by omega⟩),z7 (fun h=>ho (by simpa using h))]
 by_cases c :(!sm||decide ((gt x.edges (i:Int)).minutes <(gt x.edges old).minutes))=true
 ·rw [if_pos c] at h1 ⊢
  subst h1
  refine z9z φ K x a0 b0 hi hl e3 e4 hsz hx.edges fun o h=>?_
  rw [zoc,if_neg (fun q=>e5 q.1.symm)] at h
  exact hline _ _ o h
 ·rw [if_neg c] at h1 ⊢
  subst h1
  exact zjz φ K x a0 b0 hi hl e3 e4 hsz hx.edges fun o h=>hline _ _ o h
end zo
section zo
variable (φ:Nat) (x:ze) (a0 b0:Int)
theorem zmp (hx:zbu x) (n:Nat) {i:Nat} (hi:i<x.edges.length) {s:List (List Int)×Ln} (h:HI x.edges x.places.length i s) :
  z01 φ (n+1) x.edges (x.edges.length:Int) i a0 b0 x x s.1 s.2=z01 φ n x.edges (x.edges.length:Int) ((i:Int)+1) a0 b0 x x (entE x.edges i s).1 (entE x.edges i s).2:=by
 obtain⟨e1,e2,e3,e4,e5,_⟩:=hx.ends (i:=(i:Int)) (by omega) (by omega)
 have hE:=hx.edges
 have hline:∀ a b o,lget s.2 a b=some o->0<=o/\o <(x.edges.length:Int):=fun a b o ho=>by
  obtain⟨h1,h2,_⟩:=h.line _ _ _ ho
  exact⟨h1,by omega⟩
 have hsa:=h.size _ e1 e2
 have hsb:=h.size _ e3 e4
 have hlen:=h.len
 rw [z01,if_pos (by simp; omega),z7 ⟨by omega,by omega⟩]
 unfold entE
 generalize hs1:ent1 x.edges i (gt x.edges (i:Int)).a (gt x.edges (i:Int)).b s=s1
 have hs1':=hs1
 unfold ent1 at hs1'
 cases hg:lget s.2 (gt x.edges (i:Int)).a (gt x.edges (i:Int)).b with
 | none=>
  have hg' : @mget (Nat->Int) Int ⟨beqA 2⟩ s.2 (upd (upd (fun _=>(default:Int)) 0 (gt x.edges (i:Int)).a) 1 (gt x.edges (i:Int)).b)=none:=hg
  rw [hg] at hs1'
  simp only [Option.isSome_none,Bool.not_false,if_true,Option.getD_none,Bool.true_or] at hs1'
  rw [hg']
  simp only [Option.isSome_none,Bool.not_false,if_true,Option.getD_none]
  rw [z7 ⟨e1,by omega⟩,z7 ⟨e1,by omega⟩,z7 trivial,z7 (ylw (by simp; omega) (by omega)),z7 ⟨e1,by omega⟩,z7 trivial,<- hs1']
  refine za2 φ (z01 φ n) x a0 b0 hx hi (near:=s.1) _ _ (by rw [z05]; exact hlen) (fun h=>by cases h) ?_ hline _ (by simp)
  rw [zy _ _ _ _ e1 (by omega) e3,if_neg (fun q=>e5 q.symm)]
  omega
 | some o=>
  have hg' : @mget (Nat->Int) Int ⟨beqA 2⟩ s.2 (upd (upd (fun _=>(default:Int)) 0 (gt x.edges (i:Int)).a) 1 (gt x.edges (i:Int)).b)=some o:=hg
  rw [hg] at hs1'
  simp only [Option.isSome_some,Bool.not_true,Bool.false_eq_true,if_false,Option.getD_some,Bool.false_or] at hs1'
  rw [hg']
  simp only [Option.isSome_some,Bool.not_true,Bool.false_eq_true,if_false,Option.getD_some]
  rw [<- hs1']
  exact za2 φ (z01 φ n) x a0 b0 hx hi (near:=s.1) _ _ hlen (fun _=>hline _ _ _ hg) (by omega) hline _ (by simp)
theorem zmo (hx:zbu x) (hφ:5000<φ) (line:Ln):z1h φ φ ((znl x).length:Int) 0 a0 b0 (znl x) x line =(ck (z0o (x.places.length:Int) 8) (ck (z0o (((List.replicate ((x.places.length:Int):Int).toNat (default:Int)).length:Int)) 1) (z0f φ φ a0 (((List.replicate ((x.places.length:Int):Int).toNat (default:Int)).length:Int)) 0 b0 x (List.replicate ((x.places.length:Int):Int).toNat (default:Int)) ((List.replicate (((List.replicate ((x.places.length:Int):Int).toNat (default:Int)).length:Int):Int).toNat (default:Bool))) (z4y x) line))):=by
 have hl0 :(znl x).length=x.places.length:=(zj2 hx x.edges.length (Nat.le_refl _)).len
 have hP:=hx.places
 have hE:=hx.edges
 obtain⟨n0,hn0⟩:∃ n0,n0=x.places.length:=⟨_,rfl⟩
 rw [<- hn0] at hl0 hP
 rw [hl0]
 have hfin:∀ o:List (List Int),o.length=n0->(∀ w:Nat,w<n0->gt o (w:Int)=zky (fun a b=>decide (a<b)) (gt (znl x) (w:Int)))->o=z4y x:=by
  intro o ho hw
  unfold z4y
  refine List.ext_getElem (by simp [ho,hl0]) fun i h1 h2=>?_
  have:=hw i (by omega)
  rw [z23 h1,z23 (by omega)] at this
  simpa using this
 refine zr (fun n i o=>z1h φ n (n0:Int) i a0 b0 o x line) n0 (fun i o=>o.length=n0/\∀ w:Nat,w<n0->gt o (w:Int)=if w<i then zky (fun a b=>decide (a<b)) (gt (znl x) (w:Int)) else gt (znl x) (w:Int)) (fun o=>o =(ck (z0o (x.places.length:Int) 8) (ck (z0o (((List.replicate ((x.places.length:Int):Int).toNat (default:Int)).length:Int)) 1) (z0f φ φ a0 (((List.replicate ((x.places.length:Int):Int).toNat (default:Int)).length:Int)) 0 b0 x (List.replicate ((x.places.length:Int):Int).toNat (default:Int)) ((List.replicate (((List.replicate ((x.places.length:Int):Int).toNat (default:Int)).length:Int):Int).toNat (default:Bool))) (z4y x) line)))) ?_ ?_ φ (znl x) ⟨hl0,fun w hw=>by rw [if_neg (by omega)]⟩ (by omega)
 ·intro n i o hi ⟨ho1,ho2⟩ hs
  have hsz:=(zj2 hx x.edges.length (Nat.le_refl _)).size (i:Int) (by omega) (by omega)
  have hsz :(gt (znl x) (i:Int)).length<=2*x.edges.length:=hsz
  have hso:zzw (gt (znl x) (i:Int))=some (zky (fun a b=>decide (a<b)) (gt (znl x) (i:Int))):=by
   unfold zzw zt0; rw [if_pos (by omega)]
  rw [z1h,if_pos (by simp; omega),z7 ⟨by omega,by omega⟩,z7 ⟨by omega,by omega⟩,z7 rfl,ho2 i hi,if_neg (by omega),hso,Option.bind_some,W_id (by omega) (by omega)]
  refine hs _ ⟨by rw [z05]; exact ho1,fun w hw=>?_⟩
  rw [zy _ _ _ _ (by omega) (by omega) (by omega)]
  by_cases e:w=i
  ·subst e; rw [if_pos rfl,if_pos (by omega)]
  ·rw [if_neg (by omega),ho2 w hw]
   by_cases h2:w<i
   ·rw [if_pos h2,if_pos (by omega)]
   ·rw [if_neg h2,if_neg (by omega)]
 ·intro n o ⟨ho1,ho2⟩
  have:=hfin o ho1 fun w hw=>by rw [ho2 w hw,if_pos hw]
  subst this
  rw [z1h,if_neg (by simp)]
theorem zbs (hx:zbu x) (hφ:5000<φ):z01 φ φ x.edges (x.edges.length:Int) 0 a0 b0 x x (List.replicate ((x.places.length:Int)).toNat (default:List Int)) [] =(ck (z0o (x.places.length:Int) 8) (ck (z0o (((List.replicate ((x.places.length:Int):Int).toNat (default:Int)).length:Int)) 1) (z0f φ φ a0 (((List.replicate ((x.places.length:Int):Int).toNat (default:Int)).length:Int)) 0 b0 x (List.replicate ((x.places.length:Int):Int).toNat (default:Int)) ((List.replicate (((List.replicate ((x.places.length:Int):Int).toNat (default:Int)).length:Int):Int).toNat (default:Bool))) (z4y x) (zcx x)))):=by
 have hE:=hx.edges
 have h0 :(List.replicate ((x.places.length:Int)).toNat (default:List Int),([]:Ln))=zf4 x.edges x.places.length 0:=by simp [zf4]
 refine zr (fun n i (s:List (List Int)×Ln)=>z01 φ n x.edges (x.edges.length:Int) i a0 b0 x x s.1 s.2) x.edges.length (fun i s=>s=zf4 x.edges x.places.length i) (fun o=>o =(ck (z0o (x.places.length:Int) 8) (ck (z0o (((List.replicate ((x.places.length:Int):Int).toNat (default:Int)).length:Int)) 1) (z0f φ φ a0 (((List.replicate ((x.places.length:Int):Int).toNat (default:Int)).length:Int)) 0 b0 x (List.replicate ((x.places.length:Int):Int).toNat (default:Int)) ((List.replicate (((List.replicate ((x.places.length:Int):Int).toNat (default:Int)).length:Int):Int).toNat (default:Bool))) (z4y x) (zcx x))))) ?_ ?_ φ (List.replicate ((x.places.length:Int)).toNat (default:List Int),[]) h0 (by omega)
 ·intro n i s hi hs hk
  subst hs
  rw [zmp φ x a0 b0 hx n hi (zj2 hx i (by omega))]
  exact hk _ rfl
 ·intro n s hs
  subst hs
  rw [z01,if_neg (by simp)]
  exact zmo φ x a0 b0 hx hφ (zcx x)
end zo
section network_Route
variable (φ:Nat) (K:List Edge->Int->Int->Int->Int->ze->ze->List (List Int)->Ln->Option ((List Int)×Int×Unit)) (x:ze) (a0 b0:Int)
end network_Route
section network_Route
variable (φ:Nat) (x:ze) (a0 b0:Int)
end network_Route
section network_Shares
end network_Shares
section network_Shares
end network_Shares
end Px
end
section
namespace Px
open Go
section zo
variable (φ:Nat) (x:ze) (a0 b0:Int)
theorem zbp (hx:zbu x) (hφ:800000<φ) (hs:0<=a0) (hs':a0 <(x.places.length:Int)):∃ t,DF x.places.length (z4y x) (wtN x) a0 t/\
  z0f φ φ a0 (((List.replicate ((x.places.length:Int):Int).toNat (default:Int)).length:Int)) 0 b0 x (List.replicate ((x.places.length:Int):Int).toNat (default:Int)) ((List.replicate (((List.replicate ((x.places.length:Int):Int).toNat (default:Int)).length:Int):Int).toNat (default:Bool)))  (z4y x) (zcx x) =(ck ((0:Int)<=b0/\b0 <(t.length:Int)) (if(decide (((gt t b0):Int)<0))=true then(some (0,80,())) else(some ((gt t b0),0,())))):=by
 have hG:=grN hx
 have hP:=hx.places
 have hrep :(List.replicate ((x.places.length:Int):Int).toNat (default:Int)).length=x.places.length:=by simp
 rw [hrep]
 have e1 :((x.places.length:Int)).toNat=x.places.length:=by simp
 rw [e1]
 -- the search
 have search:∀ t:List Int,t.length=x.places.length->(∀ i:Int,0<=i->i <(x.places.length:Int)->gt t i=if i=a0 then 0 else -1)->
   ∃ t',DF x.places.length (z4y x) (wtN x) a0 t'/\z06 φ φ b0 x t (List.replicate x.places.length (default:Bool))  (z4y x) (zcx x) =(ck ((0:Int)<=b0/\b0 <(t'.length:Int)) (if(decide (((gt t' b0):Int)<0))=true then(some (0,80,())) else(some ((gt t' b0),0,())))):=by
  intro t ht hall
  refine yj0 hG hs hs' (fun n t d=>z06 φ n b0 x t d  (z4y x) (zcx x)) (fun t'=>(ck ((0:Int)<=b0/\b0 <(t'.length:Int)) (if(decide (((gt t' b0):Int)<0))=true then(some (0,80,())) else(some ((gt t' b0),0,()))))) φ ?_ φ 0 t _ (yig hs hs' t ht hall) (by omega)
  intro n k t d hk hD
  obtain⟨p,hp1,hp2⟩:=yqf hP (fun m p i=>z12 φ (z06 φ n) m p (x.places.length:Int) i b0 x t d  (z4y x) (zcx x))
   (fun p=>(if(decide ((p:Int)<0))=true then(ck ((0:Int)<=b0/\b0 <(t.length:Int)) (if(decide (((gt t b0):Int)<0))=true then(some (0,80,())) else(some ((gt t b0),0,())))) else(ck ((0:Int)<=p/\p <(d.length:Int)) (ck ((0:Int)<=p/\p <((z4y x).length:Int)) (ck ((0:Int)<=p/\p <((z4y x).length:Int)) (ck ((p:Int)=p) (z15 φ (z06 φ n) φ p ((gt (z4y x) p).length:Int) 0 b0 x t (zw d p true) (gt (z4y x) p)  (z4y x) p (zcx x))))))))
   t d hD.lt hD.ld (fun m p i=>by rw [z12]) φ (by omega)
  have hM:z06 φ (n+1) b0 x t d  (z4y x) (zcx x)=z12 φ (z06 φ n) φ (-1) (x.places.length:Int) 0 b0 x t d  (z4y x) (zcx x):=by
   rw [z06,hD.lt]
  simp only [] at hp1
  simp only [hM]
  rw [hp1]
  rcases hp2 with⟨rfl,hall⟩ |⟨p0,p1,p2,p3,p4⟩
  ·left
   refine⟨t,yrj hG hD hall,?_⟩
   rw [if_pos (by decide)]
  ·right
   rw [if_neg (by simp; omega),z7 ⟨p0,by rw [hD.ld]; exact p1⟩,z7 ⟨p0,by rw [hG.len]; exact p1⟩,z7 ⟨p0,by rw [hG.len]; exact p1⟩,z7 trivial]
   obtain⟨t',h1,h2⟩:=ypv hG p0 p1 hk hD p2 (fun m i t=>z15 φ (z06 φ n) m p ((gt (z4y x) p).length:Int) i b0 x t (zw d p true) (gt (z4y x) p)  (z4y x) p (zcx x))
    (fun t=>z06 φ n b0 x t (zw d p true)  (zw (z4y x) p (gt (z4y x) p)) (zcx x)) (gt (z4y x) p) rfl x.edges.length (fun q=>(lget (zcx x) p q).getD default) (fun i=>(gt x.edges i).minutes)
    (fun q hq=>by
     obtain⟨i,hi,i0,i1,_⟩:=y04 hx p0 p1 hq
     rw [hi]
     exact⟨i0,i1,by unfold wtN; rw [hi]⟩) (fun m i t=>by rw [z15]) φ (by have:=hG.size p p0 p1; omega)
   refine⟨t',p,p0,p1,ykd hG p0 p1 hD hs hs' p2 p3 p4 h2,?_⟩
   rw [zxj _ p0 (by rw [hG.len]; exact p1)] at h1
   exact h1
 -- all times are unknown at first
 refine zr (fun n i t=>z0f φ n a0 (x.places.length:Int) i b0 x t (List.replicate x.places.length (default:Bool))  (z4y x) (zcx x)) x.places.length (fun i t=>t.length=x.places.length/\∀ j:Int,0<=j->j <(i:Int)->gt t j=-1) (fun o=>∃ t,DF x.places.length (z4y x) (wtN x) a0 t/\o =(ck ((0:Int)<=b0/\b0 <(t.length:Int)) (if(decide (((gt t b0):Int)<0))=true then(some (0,80,())) else(some ((gt t b0),0,()))))) ?_ ?_ φ (List.replicate x.places.length (default:Int)) ⟨by simp,fun j h0 h1=>by omega⟩ (by omega)
 ·intro n i t hi ⟨h1,h2⟩ hs
  rw [z0f,if_pos (by simp; omega),z7 ⟨by omega,by omega⟩,W_id (by omega) (by omega)]
  refine hs _ ⟨by rw [z05]; exact h1,fun j j0 j1=>?_⟩
  rw [zy _ _ _ _ (by omega) (by omega) j0]
  by_cases e:j =(i:Int)
  ·rw [if_pos e]
  ·rw [if_neg e]; exact h2 j j0 (by omega)
 ·intro n t ⟨h1,h2⟩
  rw [z0f,if_neg (by simp),z7 ⟨hs,by omega⟩]
  obtain⟨t',h3,h4⟩:=search (zw t a0 0) (by rw [z05]; exact h1) (fun i i0 i1=>by
   rw [zy _ _ _ _ hs (by omega) i0]
   split
   ·rfl
   ·exact h2 i i0 i1)
  exact⟨t',h3,h4⟩
end zo
section network_Route
variable (φ:Nat) (x:ze) (a0 b0:Int)
end network_Route
theorem z4w {n b:Nat} (h:n<=100000000) (hb:b<=1000):fits n b:=by
 unfold fits
 have:n*b<=100000000*1000:=Nat.mul_le_mul h hb
 omega
theorem zqa (φ:Nat) (hφ:800000<φ) (x:ze) (a b:Int):∃ t e,zo φ x a b=some (t,e,())/\0<=t/\t<=51200000:=by
 unfold zo
 rw [z47 _ (by omega),Option.bind_some]
 by_cases hn:z7k x=0
 case neg=>
  rw [if_pos (by simpa using hn),if_pos (by simpa using hn)]
  exact⟨0,_,rfl,by omega,by omega⟩
 have hx:=yf7 hn
 have hP:=hx.places
 rw [if_neg (by simp [hn])]
 obtain⟨m,rfl⟩:∃ m,φ=m+3:=⟨φ-3,by omega⟩
 have g0:gt [a,b] 0=a:=rfl
 have g1:gt [a,b] 1=b:=rfl
 have L :((([a,b]:List Int).length:Nat):Int)=2:=rfl
 have step:∀ n i,z07 (m+3) (n+1) 2 i a b x [a,b] x [] =(if(decide ((i:Int)<2))=true then(ck ((0:Int)<=i/\i <(2:Int)) (if((decide (((gt [a,b] i):Int)<0))||(decide (((x.places.length:Int):Int)<=(gt [a,b] i))))=true then(some (0,1,())) else(z07 (m+3) n 2 (W (i+1)) a b x [a,b] x []))) else(ck (z0o (x.places.length:Int) 24) (z01 (m+3) (m+3) x.edges (x.edges.length:Int) 0 a b x x (List.replicate ((x.places.length:Int):Int).toNat (default :(List Int))) ([]:List ((Nat->Int)×Int))))):=fun n i=>by rw [z07]; rfl
 rw [L,show m+3 =(m+2)+1 from rfl,step,if_pos (by decide),z7 (by decide),g0]
 by_cases ha:0<=a/\a <(x.places.length:Int)
 case neg=>
  rw [if_pos (by simp; omega)]
  exact⟨0,1,rfl,by omega,by omega⟩
 rw [if_neg (by simp; omega),show W (0+1)=1 by rfl,show m+2 =(m+1)+1 from rfl,step,if_pos (by decide),z7 (by decide),g1]
 by_cases hb:0<=b/\b <(x.places.length:Int)
 case neg=>
  rw [if_pos (by simp; omega)]
  exact⟨0,1,rfl,by omega,by omega⟩
 rw [if_neg (by simp; omega),show W (1+1)=2 by rfl,step,if_neg (by decide),z7 (mk_t _ _ (by omega) (by omega) (by omega)),zbs (m+3) x a b hx (by omega),z7 (mk_t _ _ (by omega) (by omega) (by omega)),z7 (mk_t _ _ (by omega) (by simp; omega) (by omega))]
 obtain⟨t,h1,h2⟩:=zbp (m+3) x a b hx (by omega) ha.1 ha.2
 rw [h2,z7 ⟨hb.1,by rw [h1.lt]; exact hb.2⟩]
 rcases h1.bd b hb.1 hb.2 with h3 |⟨h3,h4⟩
 ·rw [if_pos (by simp; omega)]
  exact⟨0,80,rfl,by omega,by omega⟩
 ·rw [if_neg (by simp; omega)]
  exact⟨_,0,rfl,h3,h4⟩
end Px
end
section
namespace Px
open Go
theorem z5b (φ:Nat) (a b c:Int):z08 φ a b c=some (bet a b c,()):=rfl
theorem zt4 (φ:Nat) (l:List Wash) (hl:l.length<=4096) (hφ:5000<φ):zbz φ l=some (bif z6e l then 0 else 1,()):=by
 unfold zbz
 rw [z7 (mk_t _ _ (by omega) (by omega) (by omega))]
 refine zr (fun n i t=>z5c φ n l i t) l.length
  (fun i t=>(List.range i).all (z4g l)=true/\t.length=4096/\∀ j:Int,0<=j->j<4096->gt t j =(l.take i).any fun v=>keyW v==j)
  (fun o=>o=some (bif z6e l then 0 else 1,())) ?_ ?_ φ _ ⟨by simp,by rw [List.length_replicate]; rfl,fun j h0 h1=>by rw [z17 _ _ _ h0 (by rw [show (4096:Int).toNat=4096 from rfl]; omega)]; simp⟩ (by omega)
 ·intro n i t hi ⟨h1,h2,h3⟩ hs
  have hW:W ((i:Int)+1) =(i:Int)+1:=W_id (by omega) (by omega)
  have hsucc:=zbb (z4g l) i
  have hbad:z4g l i=false->z6e l=false:=by
   intro h
   unfold z6e
   rw [List.all_eq_false]
   exact⟨i,by simp; omega,by simp [h]⟩
  rw [z5c,if_pos (by simp; omega),z7 ⟨by omega,by omega⟩]
  simp only [z5b,Option.bind_some,zp]
  have hok:y4k (gt l i) =(bet (gt l i).from_ 0 63&&bet (gt l i).to 0 63&&((gt l i).from_ !=(gt l i).to)&&bet (gt l i).minutes 0 100000):=rfl
  have hne :((gt l i).from_==(gt l i).to) = !((gt l i).from_ !=(gt l i).to):=by simp [bne]
  rw [hne]
  cases hw:y4k (gt l i) with
  | false=>
   rw [hbad (by simp [z4g,hw])]
   rw [hw] at hok
   clear hne hs h3
   generalize bet (gt l i).from_ 0 63=a at *; generalize bet (gt l i).to 0 63=b at *; generalize ((gt l i).from_ !=(gt l i).to)=c at *; generalize bet (gt l i).minutes 0 100000=d at *
   cases a <;> cases b <;> cases c <;> cases d <;> first | rfl | exact absurd hok (by decide)
  | true=>
   rw [hw] at hok
   have hb:=hok.symm
   simp only [Bool.and_eq_true] at hb
   obtain⟨⟨⟨b1,b2⟩,b3⟩,b4⟩:=hb
   have c1:=zt7 b1; have c2:=zt7 b2
   have e1:W (64 *(gt l i).from_)=64 *(gt l i).from_:=W_id (by omega) (by omega)
   have e2:W (W (64 *(gt l i).from_) +(gt l i).to)=keyW (gt l i):=by rw [e1]; exact W_id (by omega) (by omega)
   have hk:0<=keyW (gt l i)/\keyW (gt l i)<4096:=by unfold keyW; omega
   simp only [b1,b2,b3,b4,Bool.not_true,Bool.or_false,if_true,e2,Bool.or_self,Bool.false_eq_true,if_false]
   rw [z7 ⟨hk.1,by omega⟩,h3 _ hk.1 hk.2]
   have hat:z4g l i = !(l.take i).any fun v=>keyW v==keyW (gt l i):=by simp only [z4g,hw,Bool.true_and]
   cases ha :(l.take i).any fun v=>keyW v==keyW (gt l i) with
   | true=>rw [hbad (by rw [hat,ha]; rfl)]; rfl
   | false=>
    rw [if_neg (by simp),z7 ⟨hk.1,by omega⟩,hW]
    refine hs _ ⟨by rw [hsucc,h1,hat,ha]; rfl,by rw [z05,h2],fun j j0 j1=>?_⟩
    rw [zy _ _ _ _ hk.1 (by omega) j0,zic _ _ _ hi,h3 j j0 j1]
    by_cases e:j=keyW (gt l i)
    ·simp [e]
    ·have :(keyW (gt l i)==j)=false:=by simp; exact fun h=>e h.symm
     simp [e,this]
 ·intro n t ⟨h1,h2,h3⟩
  rw [z5c,if_neg (by simp)]
  unfold z6e
  rw [h1]; rfl
theorem zwo (φ:Nat) (hφ:5000<φ) (x:zc8):zjf φ x=some (z5j x,()):=by
 have e :(((decide (32 <(x.types.length:Int))||decide (4096 <(x.wagons.length:Int)))||decide (1024 <(x.swaps.length:Int)))||decide (4096 <(x.washes.length:Int))) =
   (decide (32<x.types.length)||decide (4096<x.wagons.length)||decide (1024<x.swaps.length)||decide (4096<x.washes.length)):=by
  congr 1
  ·congr 1
   ·congr 1 <;>(apply decide_eq_decide.2; omega)
   ·apply decide_eq_decide.2; omega
  ·apply decide_eq_decide.2; omega
 unfold zjf z5j
 rw [e]
 cases h :(decide (32<x.types.length)||decide (4096<x.wagons.length)||decide (1024<x.swaps.length)||decide (4096<x.washes.length)) with
 | true=>rfl
 | false=>
  simp only [Bool.or_eq_false_iff,decide_eq_false_iff_not,Nat.not_lt] at h
  obtain⟨⟨⟨h1,h2⟩,h3⟩,h4⟩:=h
  have hp:W ((x.types.length:Int)-1) =(x.types.length:Int)-1:=W_id (by omega) (by omega)
  rw [if_neg (by simp)]
  rw [z52 (fun n i=>z5z φ n i x) (z4l φ φ 0 x) (some (1,())) x.types (fun t=>!zn1 t) ?_ ?_ φ (by omega)]
  ·rw [z52 (fun n i=>z4l φ n i x) (z3p φ φ 0 x) (some (1,())) x.wagons (fun t=>!zgw x.types.length t) ?_ ?_ φ (by omega)]
   ·rw [z52 (fun n i=>z3p φ n i x) ((zbz φ x.washes).bind fun y=>some (y.1,())) (some (1,())) x.swaps (fun t=>!zo9 x.types.length t) ?_ ?_ φ (by omega)]
    ·rw [zt4 _ _ h4 hφ]
     simp only [Option.bind_some]
     simp only [List.any_eq_not_all_not,Bool.not_not]
     cases x.types.all zn1 <;> cases x.wagons.all (zgw x.types.length) <;> cases x.swaps.all (zo9 x.types.length) <;> cases z6e x.washes <;> rfl
    ·intro n i hi
     have hW:W ((i:Int)+1) =(i:Int)+1:=W_id (by omega) (by omega)
     have hne :((gt x.swaps i).wanted==(gt x.swaps i).given) = !((gt x.swaps i).wanted !=(gt x.swaps i).given):=by simp [bne]
     rw [z3p,if_pos (by simp; omega),z7 ⟨by omega,by omega⟩]
     simp only [z5b,Option.bind_some,zo9,zp,hW,hp,hne]
     cases bet (gt x.swaps i).wanted 0 ((x.types.length:Int)-1) <;> cases bet (gt x.swaps i).given 0 ((x.types.length:Int)-1) <;> cases ((gt x.swaps i).wanted !=(gt x.swaps i).given) <;>
      cases bet (gt x.swaps i).cost 0 1000000000 <;> rfl
    ·intro n; rw [z3p,if_neg (by simp)]
   ·intro n i hi
    have hW:W ((i:Int)+1) =(i:Int)+1:=W_id (by omega) (by omega)
    rw [z4l,if_pos (by simp; omega),z7 ⟨by omega,by omega⟩]
    simp only [zc5,z5b,Option.bind_some,zgw,zp,hW,hp]
    cases bet (gt x.wagons i).type_ 0 ((x.types.length:Int)-1) <;> cases bet (gt x.wagons i).owner 0 63 <;> cases bet (gt x.wagons i).home 0 511 <;>
     cases bet (gt x.wagons i).built 0 1073741824 <;> cases bet (gt x.wagons i).worth 0 1099511627776 <;> rfl
   ·intro n; rw [z4l,if_neg (by simp)]
  ·intro n i hi
   have hW:W ((i:Int)+1) =(i:Int)+1:=W_id (by omega) (by omega)
   rw [z5z,if_pos (by simp; omega),z7 ⟨by omega,by omega⟩]
   simp only [ze9,z5b,Option.bind_some,zn1,zp,hW]
   cases bet (gt x.types i).load 0 1000000 <;> cases bet (gt x.types i).tare 0 1000000 <;> cases bet (gt x.types i).length 0 1000000 <;> cases bet (gt x.types i).brake 0 1000000 <;>
    cases bet (gt x.types i).gauge 0 7 <;> cases bet (gt x.types i).life 1 1073741824 <;> cases bet (gt x.types i).floor 0 100 <;> rfl
  ·intro n; rw [z5z,if_neg (by simp)]
theorem yli (b n:Nat):pw (b % PP) n=pw b n:=by unfold pw; rw [<- Nat.pow_mod]
theorem ypj (b n:Nat):pw (b*b % PP) n=pw b (2*n):=by
 rw [yli]; unfold pw; rw [Nat.pow_mul,Nat.pow_two]
theorem ybh (φ:Nat):∀(m:Nat) (a b c n:Nat),m<=64->b<2 ^ m->m<n->a<PP->c<PP->z3i φ n (a:Int) (b:Int) 2305843009213690799 (c:Int)=some ((((c+a*b) % PP:Nat):Int),()):=by
 intro m
 induction m with
 | zero=>
  intro a b c n hm64 hb hn ha hc
  obtain⟨n,rfl⟩:∃ n',n=n'+1:=⟨n-1,by omega⟩
  have:b=0:=by simpa using hb
  subst this
  rw [z3i,if_neg (by simp),Nat.mul_zero,Nat.add_zero,Nat.mod_eq_of_lt hc]
 | succ m ih=>
  intro a b c n hm64 hb hn ha hc
  obtain⟨n,rfl⟩:∃ n',n=n'+1:=⟨n-1,by omega⟩
  by_cases h0:b=0
  ·subst h0
   rw [z3i,if_neg (by simp),Nat.mul_zero,Nat.add_zero,Nat.mod_eq_of_lt hc]
  ·rw [z3i,if_pos (by simp; omega),if_pos (by decide :(2:Int)≠0)]
   have e1 :(b:Int).tdiv 2 =((b / 2:Nat):Int):=by rw [Int.tdiv_eq_ediv_of_nonneg (by omega)]; omega
   have e2 :(b:Int).tmod 2 =((b % 2:Nat):Int):=by rw [Int.tmod_eq_emod_of_nonneg (by omega)]; omega
   have hbl :(b / 2:Nat)<2 ^ m:=by rw [Nat.pow_succ] at hb; omega
   have h64 :(2:Nat) ^ m<=2 ^ 63:=Nat.pow_le_pow_right (by decide) (by omega)
   have hb2:U ((b / 2:Nat):Int) =((b / 2:Nat):Int):=U_id (by omega) (by omega)
   have ha0:=ha; have hc0:=hc
   unfold PP at ha hc
   have e3 :(U ((a:Int) +(a:Int))).tmod 2305843009213690799 =(((a+a) % PP:Nat):Int):=by
    rw [U_id (by omega) (by omega),Int.tmod_eq_emod_of_nonneg (by omega)]; unfold PP; omega
   have e4 :(U ((c:Int) +(a:Int))).tmod 2305843009213690799 =(((c+a) % PP:Nat):Int):=by
    rw [U_id (by omega) (by omega),Int.tmod_eq_emod_of_nonneg (by omega)]; unfold PP; omega
   unfold z9x
   rw [e1,e2,e3,e4,hb2]
   have hab:a*b =(a+a) *(b / 2)+a *(b % 2):=by
    conv=>lhs; rw [<- Nat.div_add_mod b 2]
    rw [Nat.mul_add,<- Nat.mul_assoc]; congr 1; rw [Nat.mul_two]
   have hfin:∀ c':Nat,(c' +(a+a) % PP *(b / 2)) % PP =(c' +(a+a) *(b / 2)) % PP:=fun c'=>by
    rw [Nat.add_mod,Nat.mul_mod,Nat.mod_mod,<- Nat.mul_mod,<- Nat.add_mod]
   have hlt:∀ z:Nat,z % PP<PP:=fun z=>Nat.mod_lt _ (by decide)
   rcases Nat.mod_two_eq_zero_or_one b with hbit | hbit
   ·rw [hbit,if_neg (by simp),z7 (by omega),if_pos (by decide :(2:Int)≠0),ih ((a+a) % PP) (b / 2) c n (by omega) hbl (by omega) (hlt _) hc0,hfin,hab,hbit,Nat.mul_zero,Nat.add_zero]
   ·rw [hbit,if_pos (by simp),z7 (by omega),z7 (by omega),if_pos (by decide :(2:Int)≠0),ih ((a+a) % PP) (b / 2) ((c+a) % PP) n (by omega) hbl (by omega) (hlt _) (hlt _),hfin,hab,hbit,Nat.mul_one,Nat.mod_add_mod,show c+a +(a+a) *(b / 2)=c +((a+a) *(b / 2)+a) by omega]
theorem zmy (φ:Nat) (hφ:70<φ) (a b:Nat) (ha:a<PP) (hb:b<PP):ze3 φ (a:Int) (b:Int) 2305843009213690799=some (((a*b % PP:Nat):Int),()):=by
 unfold ze3
 have h64:b<2 ^ 64:=Nat.lt_trans hb (by decide)
 have:=ybh φ 64 a b 0 φ (by omega) h64 (by omega) ha (by decide)
 rw [Nat.zero_add] at this
 exact this
theorem yie (φ:Nat) (hφ:100<φ):∀(m:Nat) (a e c n:Nat),m<=64->e<2 ^ m->m<n->a<PP->c<PP->z5g φ n (a:Int) (e:Int) (c:Int)=some (((c*pw a e % PP:Nat):Int),()):=by
 intro m
 induction m with
 | zero=>
  intro a e c n _ he hn ha hc
  obtain⟨n,rfl⟩:∃ n',n=n'+1:=⟨n-1,by omega⟩
  have:e=0:=by simpa using he
  subst this
  rw [z5g,if_neg (by simp),zyl,Nat.mul_one,Nat.mod_eq_of_lt hc]
 | succ m ih=>
  intro a e c n hm64 he hn ha hc
  obtain⟨n,rfl⟩:∃ n',n=n'+1:=⟨n-1,by omega⟩
  by_cases h0:e=0
  ·subst h0
   rw [z5g,if_neg (by simp),zyl,Nat.mul_one,Nat.mod_eq_of_lt hc]
  ·rw [z5g,if_pos (by simp; omega),if_pos (by decide :(2:Int)≠0)]
   have e1 :(e:Int).tdiv 2 =((e / 2:Nat):Int):=by rw [Int.tdiv_eq_ediv_of_nonneg (by omega)]; omega
   have e2 :(e:Int).tmod 2 =((e % 2:Nat):Int):=by rw [Int.tmod_eq_emod_of_nonneg (by omega)]; omega
   have hel :(e / 2:Nat)<2 ^ m:=by rw [Nat.pow_succ] at he; omega
   have h64 :(2:Nat) ^ m<=2 ^ 63:=Nat.pow_le_pow_right (by decide) (by omega)
   have hU:U ((e / 2:Nat):Int) =((e / 2:Nat):Int):=U_id (by omega) (by omega)
   have hlt:∀ z:Nat,z % PP<PP:=fun z=>Nat.mod_lt _ (by decide)
   unfold zdf
   rw [e1,e2,hU,zmy φ (by omega) a a ha ha]
   have hab:pw a e=pw (a*a % PP) (e / 2)*pw a (e % 2) % PP:=by
    rw [ypj,yds,Nat.div_add_mod]
   rcases Nat.mod_two_eq_zero_or_one e with hbit | hbit
   ·rw [hbit,if_neg (by simp),Option.bind_some,if_pos (by decide :(2:Int)≠0),ih _ _ _ n (by omega) hel (by omega) (hlt _) hc,hab,hbit,zyl,Nat.mul_one,Nat.mod_eq_of_lt (y6d _ _)]
   ·rw [hbit,if_pos (by simp),zmy φ (by omega) c a hc ha,Option.bind_some,Option.bind_some,if_pos (by decide :(2:Int)≠0),ih _ _ _ n (by omega) hel (by omega) (hlt _) (hlt _),hab,hbit,yls,Nat.mod_eq_of_lt ha]
    congr 2
    rw [Nat.mod_mul_mod,Nat.mul_mod_mod,Nat.mul_assoc,Nat.mul_comm a]
theorem y3w (φ:Nat) (hφ:100<φ) (b n:Nat) (hn:n<18446744073709551616):zpl φ (b:Int) (n:Int)=some (((pw b n:Nat):Int),()):=by
 unfold zpl
 rw [if_pos (by decide :(2305843009213690799:Int)≠0)]
 have hbm :((b:Int)).tmod 2305843009213690799 =((b % PP:Nat):Int):=by
  rw [Int.tmod_eq_emod_of_nonneg (by omega)]; unfold PP; omega
 rw [hbm]
 have:=yie φ hφ 64 (b % PP) n 1 φ (by omega) (by simpa using hn) (by omega) (Nat.mod_lt _ (by decide)) (by decide)
 rw [yli,Nat.one_mul,Nat.mod_eq_of_lt (y6d _ _)] at this
 exact this
theorem zwg (φ:Nat) (hφ:100<φ) (x:Int):zio φ x=some (yc5 x,()):=by
 unfold zio yc5
 cases h:decide (2<=x)&&decide (x<2305843009213690799) with
 | false=>rw [gz_f (by simp)]; simp
 | true=>
  simp only [Bool.and_eq_true,decide_eq_true_eq] at h
  have:=y3w φ hφ x.toNat QQ (by decide)
  rw [show ((x.toNat:Nat):Int)=x by omega,show ((QQ:Nat):Int)=1152921504606845399 by decide] at this
  rw [gz_t rfl,this,Option.bind_some,zt9]
theorem z5t (φ:Nat) (a b c:Int):z1x φ a b c=some (bet a b c,()):=rfl
theorem zvy (φ:Nat) (p:z8o):ziq φ p=some (z9j p,()):=by
 unfold ziq z9j
 simp only [z5t,Option.bind_some]
 cases bet p.kind 1 5 with
 | false=>rfl
 | true=>
  rw [gz_t (by simp),Option.bind_some]
  cases bet p.railway 0 15 with
  | false=>rfl
  | true=>
   rw [if_neg (by simp)]
   cases h:p.kind==3 with
   | false=>rfl
   | true=>rfl
theorem zzt (φ:Nat) (e:Edge) (n:Int) (h:W (n-1)=n-1):zm4 φ e n=some (zcq n e,()):=by
 unfold zm4 zcq
 simp only [z5t,Option.bind_some,h,zp]
 cases bet e.a 0 (n-1) <;> cases bet e.b 0 (n-1) <;> cases (e.a !=e.b) <;> cases bet e.railway 0 15 <;> cases bet e.minutes 1 100000 <;> cases bet e.km 0 10000 <;> rfl
theorem zaz (φ:Nat) (hφ:5000<φ) (x:ze):zfc φ x=some (z7k x,()):=by
 unfold zfc z7k
 rw [y9k]
 cases h:decide (512<x.places.length)||decide (2048<x.edges.length) with
 | true=>rfl
 | false=>
  simp only [Bool.or_eq_false_iff,decide_eq_false_iff_not,Nat.not_lt] at h
  rw [if_neg (by simp),z52 (fun n i=>z64 φ n i x) (z4m φ φ 0 x) (some (1,())) x.places (fun t=>!z9j t) ?_ ?_ φ (by omega)]
  ·rw [z52 (fun n i=>z4m φ n i x) (some (0,())) (some (1,())) x.edges (fun t=>!zcq x.places.length t) ?_ ?_ φ (by omega)]
   ·simp only [List.any_eq_not_all_not,Bool.not_not]
    cases x.places.all z9j <;> cases x.edges.all (zcq x.places.length) <;> rfl
   ·intro n i hi
    rw [z4m,if_pos (by simp; omega),z7 ⟨by omega,by omega⟩,zzt _ _ _ (W_id (by omega) (by omega)),Option.bind_some,W_id (by omega) (by omega)]
    cases zcq x.places.length (gt x.edges i) <;> rfl
   ·intro n; rw [z4m,if_neg (by simp)]
  ·intro n i hi
   rw [z64,if_pos (by simp; omega),z7 ⟨by omega,by omega⟩,zvy,Option.bind_some,W_id (by omega) (by omega)]
   cases z9j (gt x.places i) <;> rfl
  ·intro n; rw [z64,if_neg (by simp)]
def ze8 (l:List Int) (i:Nat):Int:=if i=0 then -1 else gt l ((i:Int)-1)
theorem yj3 (φ:Nat) (c:z5n):∀(n i:Nat),-1<=ze8 c.holidays i->(i:Int)<=ze8 c.holidays i+1->ze8 c.holidays i<=745654->i<=c.holidays.length->745656<=(n:Int)+ze8 c.holidays i->z65 φ n i c=some (bif y3s (ze8 c.holidays i) (c.holidays.drop i) then 0 else 1,()):=by
 intro n
 induction n with
 | zero=>intro i _ _ _ _ _; omega
 | succ n ih=>
  intro i hp hip hp2 hi hn
  by_cases h:i=c.holidays.length
  ·rw [z65,if_neg (by rw [h]; simp),h,List.drop_length]; rfl
  ·have hW:W ((i:Int)-1) =(i:Int)-1:=W_id (by omega) (by omega)
   rw [z65,if_pos (by simp; omega),z7 ⟨by omega,by omega⟩,hW,z7 (fun h=>by have:=h.2; simp at this; omega),y1c _ _ (by omega)]
   have hc :((decide ((gt c.holidays i)<0)||decide (745654 <(gt c.holidays i)))||(decide (0 <(i:Int))&&decide ((gt c.holidays i)<=(gt c.holidays ((i:Int)-1))))) = !(decide (ze8 c.holidays i<gt c.holidays i)&&decide (gt c.holidays i<=745654)):=by
    unfold ze8 at *
    rw [Bool.eq_iff_iff]
    by_cases h0:i=0
    ·subst h0; simp; omega
    ·rw [if_neg h0] at *; simp; omega
   rw [hc]
   cases hb:decide (ze8 c.holidays i<gt c.holidays i)&&decide (gt c.holidays i<=745654) with
   | false=>rw [if_pos (by simp)]; simp [y3s,hb]
   | true=>
    rw [if_neg (by simp),W_id (by omega) (by omega)]
    have hpe:ze8 c.holidays (i+1)=gt c.holidays i:=by
     unfold ze8
     rw [if_neg (by omega)]; congr 1; omega
    have hb':=hb
    simp only [Bool.and_eq_true,decide_eq_true_eq] at hb'
    have:=ih (i+1) (by rw [hpe]; omega) (by rw [hpe]; omega) (by rw [hpe]; omega) (by omega) (by rw [hpe]; omega)
    rw [hpe,show ((i+1:Nat):Int) =(i:Int)+1 by omega] at this
    rw [this]
    simp [y3s,hb]
theorem zwq (φ:Nat) (hφ:800000<φ) (c:z5n):zif φ c=some (bif zqy c then 0 else 1,()):=by
 unfold zif
 refine zr (fun n i (_:Unit)=>z68 φ n i c) 7 (fun i _=>((List.range i).all fun j=>zod (c.open_ j))=true) (fun o=>o=some (bif zqy c then 0 else 1,())) ?_ ?_ φ () (by simp) (by omega)
 ·intro n i _ hi h hs
  rw [z68,if_pos (by simp; omega),z7 ⟨by omega,by omega⟩,Int.toNat_natCast,zpq,W_id (by omega) (by omega)]
  cases ho:zod (c.open_ i) with
  | true=>
   rw [if_neg (by simp)]
   exact hs () (by rw [zbb,h,ho]; rfl)
  | false=>
   have:zqy c=false:=by
    unfold zqy
    have :((List.range 7).all fun j=>zod (c.open_ j))=false:=by
     rw [List.all_eq_false]; exact⟨i,by simp; omega,by simp [ho]⟩
    rw [this]; rfl
   rw [if_pos (by simp),this]; rfl
 ·intro n _ h
  rw [z68,if_neg (by simp)]
  unfold zqy
  rw [h,Bool.true_and]
  have:=yj3 φ c φ 0 (by simp [ze8]) (by simp [ze8]) (by simp [ze8]) (by omega) (by simp [ze8]; omega)
  simpa [ze8] using this
theorem zzh (φ:Nat) (hφ:800000<φ) (x:Pool) (h1:x.network.places.length<=512) (h2:x.fleet.wagons.length<=4096) (h3:x.readers.length<=256) (h4:x.shippers.length<=256) :
  zmd φ x=some (!((x.readers.any (z7v x.network.places.length)||x.shippers.any (z75 x.network))||x.fleet.wagons.any (fun w=>decide ((x.network.places.length:Int)<=w.home))),()):=by
 have hp:W ((x.network.places.length:Int)-1) =(x.network.places.length:Int)-1:=W_id (by omega) (by omega)
 unfold zmd
 rw [z52 (fun n i=>z74 φ n (x.network.places.length:Int) i x) (z4u φ φ (x.network.places.length:Int) 0 x) (some (false,())) x.readers (z7v x.network.places.length) ?_ ?_ φ (by omega)]
 rotate_left
 ·intro n i hi
  rw [z74,if_pos (by simp; omega),z7 ⟨by omega,by omega⟩,hp,W_id (by omega) (by omega),z5b,Option.bind_some]
  show (if z7v x.network.places.length (gt x.readers i)=true then some (false,()) else _)=_
  cases z7v x.network.places.length (gt x.readers i) <;> rfl
 ·intro n; rw [z74,if_neg (by simp)]
 rw [z52 (fun n i=>z4u φ n (x.network.places.length:Int) i x) (z4v φ φ (x.network.places.length:Int) 0 x) (some (false,())) x.shippers (z75 x.network) ?_ ?_ φ (by omega)]
 rotate_left
 ·intro n i hi
  rw [z4u,if_pos (by simp; omega),z7 ⟨by omega,by omega⟩,hp,W_id (by omega) (by omega),z5b,Option.bind_some,z7 (fun _=>⟨by omega,by omega⟩),z7 (fun h=>by
   simp only [Bool.not_eq_false'] at h
   have:=zt7 h; omega)]
  show (if z75 x.network (gt x.shippers i)=true then some (false,()) else _)=_
  cases z75 x.network (gt x.shippers i) <;> rfl
 ·intro n; rw [z4u,if_neg (by simp)]
 rw [z52 (fun n i=>z4v φ n (x.network.places.length:Int) i x) (some (true,())) (some (false,())) x.fleet.wagons (fun w=>decide ((x.network.places.length:Int)<=w.home)) ?_ ?_ φ (by omega)]
 rotate_left
 ·intro n i hi
  rw [z4v,if_pos (by simp; omega),z7 ⟨by omega,by omega⟩,W_id (by omega) (by omega)]
  cases decide ((x.network.places.length:Int)<=(gt x.fleet.wagons i).home) <;> rfl
 ·intro n; rw [z4v,if_neg (by simp)]
 cases x.readers.any (z7v x.network.places.length) <;> cases x.shippers.any (z75 x.network) <;> cases x.fleet.wagons.any (fun w=>decide ((x.network.places.length:Int)<=w.home)) <;> rfl
theorem zwx (φ:Nat) (hφ:800000<φ) (x:Pool) (h1:x.network.places.length<=512) (h2:x.network.edges.length<=2048) :
  zhs φ x=some (!(x.network.places.any (fun p=>decide ((x.railways.length:Int)<=p.railway)||decide ((x.railways.length:Int)<=p.other))||x.network.edges.any (fun e=>decide ((x.railways.length:Int)<=e.railway))),()):=by
 unfold zhs
 rw [z52 (fun n i=>z62 φ n (x.railways.length:Int) i x) (z4j φ φ (x.railways.length:Int) 0 x) (some (false,())) x.network.places (fun p=>decide ((x.railways.length:Int)<=p.railway)||decide ((x.railways.length:Int)<=p.other)) ?_ ?_ φ (by omega)]
 rotate_left
 ·intro n i hi
  rw [z62,if_pos (by simp; omega),z7 ⟨by omega,by omega⟩,W_id (by omega) (by omega)]
  cases decide ((x.railways.length:Int)<=(gt x.network.places i).railway)||decide ((x.railways.length:Int)<=(gt x.network.places i).other) <;> rfl
 ·intro n; rw [z62,if_neg (by simp)]
 rw [z52 (fun n i=>z4j φ n (x.railways.length:Int) i x) (some (true,())) (some (false,())) x.network.edges (fun e=>decide ((x.railways.length:Int)<=e.railway)) ?_ ?_ φ (by omega)]
 rotate_left
 ·intro n i hi
  rw [z4j,if_pos (by simp; omega),z7 ⟨by omega,by omega⟩,W_id (by omega) (by omega)]
  cases decide ((x.railways.length:Int)<=(gt x.network.edges i).railway) <;> rfl
 ·intro n; rw [z4j,if_neg (by simp)]
 cases x.network.places.any (fun p=>decide ((x.railways.length:Int)<=p.railway)||decide ((x.railways.length:Int)<=p.other)) <;> cases x.network.edges.any (fun e=>decide ((x.railways.length:Int)<=e.railway)) <;> rfl
theorem z8s (φ:Nat) (hφ:800000<φ) (x:Pool):z6y φ x=some (zt x,()):=by
 unfold z6y zt
 rw [zaz _ (by omega),Option.bind_some]
 by_cases hn:z7k x.network=0
 case neg=>rw [if_pos (by simp [hn]),if_pos hn]
 rw [if_neg (by simp [hn]),if_neg (fun e:z7k x.network≠0=>e hn),zwo _ (by omega),Option.bind_some]
 by_cases hf:z5j x.fleet=0
 case neg=>rw [if_pos (by simp [hf]),if_pos hf]
 rw [if_neg (by simp [hf]),if_neg (fun e:z5j x.fleet≠0=>e hf)]
 cases hb:zie x with
 | true=>
  have e :(((decide (256 <(x.readers.length:Int))||decide (256 <(x.shippers.length:Int)))||decide (16 <(x.railways.length:Int))))=zie x:=rfl
  rw [e,hb]; rfl
 | false=>
  have hb':¬(((decide (256 <(x.readers.length:Int))||decide (256 <(x.shippers.length:Int)))||decide (16 <(x.railways.length:Int)))=true):=by
   rw [show (((decide (256 <(x.readers.length:Int))||decide (256 <(x.shippers.length:Int)))||decide (16 <(x.railways.length:Int))))=zie x from rfl,hb]; simp
  rw [if_neg hb']
  simp only [Bool.or_eq_true,decide_eq_true_eq,not_or] at hb'
  obtain⟨n1,n2,_,_⟩:=zej hn
  obtain⟨f1,f2,_⟩:=z6n hf
  rw [zzh φ hφ _ n1 f2 (by omega) (by omega),Option.bind_some,zwx φ hφ _ n1 n2]
  have hL:z1z φ φ 0 x=bif x.railways.any znn then some (1,()) else(if(((x.railways.length:Int):Int)==0)=true then(some (1,())) else(some (0,()))):=by
   refine z52 (fun n i=>z1z φ n i x) (if(((x.railways.length:Int):Int)==0)=true then(some (1,())) else(some (0,()))) (some (1,())) x.railways znn ?_ ?_ φ (by omega)
   ·intro n i hi
    rw [z1z,if_pos (by simp; omega),z7 ⟨by omega,by omega⟩,W_id (by omega) (by omega),zwq _ hφ,Option.bind_some,z7 (fun _=>⟨by omega,by omega⟩)]
    unfold znn
    cases zqy (gt x.railways i).calendar with
    | false=>rw [gz_f (by simp)]; rfl
    | true=>
     rw [gz_t (by simp),zwg _ (by omega),Option.bind_some]
     cases yc5 (gt x.railways i).key <;> rfl
   ·intro n; rw [z1z,if_neg (by simp)]
  rw [hL]
  unfold zo4
  cases x.readers.any (z7v x.network.places.length) <;> cases x.shippers.any (z75 x.network) <;> cases x.fleet.wagons.any (fun w=>decide ((x.network.places.length:Int)<=w.home)) <;>
   cases x.network.places.any (fun p=>decide ((x.railways.length:Int)<=p.railway)||decide ((x.railways.length:Int)<=p.other)) <;> cases x.network.edges.any (fun e=>decide ((x.railways.length:Int)<=e.railway)) <;>
   cases x.railways.any znn <;> cases ((x.railways.length:Int)==0) <;> rfl
end Px
end
section
namespace Px
namespace BF
section
variable {β:Type} (si sj:β->Nat) (sw:β->Int)
abbrev X:=Nat->Option Int
def ltO (a:Int):Option Int->Bool
 | none=>true
 | some b=>decide (a<b)
def imp (x:X) (b:β):Bool:=match x (si b) with
 | none=>false
 | some a=>ltO (a+sw b) (x (sj b))
def rlx (x:X) (b:β):X:=match x (si b) with
 | none=>x
 | some a=>if ltO (a+sw b) (x (sj b))=true then fun v=>if v=sj b then some (a+sw b) else x v else x
def rnd (L:List β) (x:X):X:=L.foldl (rlx si sj sw) x
def rnds (L:List β) (x:X):Nat->X
 | 0=>x
 | n+1=>rnd si sj sw L (rnds L x n)
inductive Wk (x0:X) (L:List β):Nat->Nat->Int->Prop where
 | nil {v:Nat} {c:Int} : x0 v=some c->Wk x0 L 0 v c
 | step {m:Nat} {c:Int} {b:β} : Wk x0 L m (si b) c->b∈L->Wk x0 L (m+1) (sj b) (c+sw b)
def le (o:Option Int) (c:Int):Prop:=∃ a,o=some a/\a<=c
variable {si sj sw}
theorem rlx_not {x:X} {b:β} (h:imp si sj sw x b=false):rlx si sj sw x b=x:=by
 unfold imp at h; unfold rlx
 cases hx:x (si b) with
 | none=>rfl
 | some a=>rw [hx] at h; simp only at h ⊢; rw [if_neg (by rw [h]; simp)]
theorem rlx_imp {x:X} {b:β} (h:imp si sj sw x b=true):∃ a,x (si b)=some a/\ltO (a+sw b) (x (sj b))=true/\rlx si sj sw x b=fun v=>if v=sj b then some (a+sw b) else x v:=by
 unfold imp at h; unfold rlx
 cases hx:x (si b) with
 | none=>rw [hx] at h; cases h
 | some a=>rw [hx] at h; simp only at h ⊢; exact⟨a,rfl,h,by rw [if_pos h]⟩
theorem rlx_mono {x:X} {b:β} {v:Nat} {c:Int} (h:le (x v) c):le (rlx si sj sw x b v) c:=by
 cases hi:imp si sj sw x b with
 | false=>rw [rlx_not hi]; exact h
 | true=>
  obtain⟨a,ha,hl,e⟩:=rlx_imp hi
  rw [e]
  simp only
  split
  ·rename_i hv; subst hv
   obtain⟨d,hd,hc⟩:=h
   rw [hd] at hl
   simp only [ltO,decide_eq_true_eq] at hl
   exact⟨_,rfl,by omega⟩
  ·exact h
theorem rlx_new {x:X} {b:β} {c:Int} (h:le (x (si b)) c):le (rlx si sj sw x b (sj b)) (c+sw b):=by
 obtain⟨a,ha,hc⟩:=h
 cases hi:imp si sj sw x b with
 | false=>
  rw [rlx_not hi]
  unfold imp at hi
  rw [ha] at hi
  simp only at hi
  cases hx:x (sj b) with
  | none=>rw [hx] at hi; cases hi
  | some d=>rw [hx] at hi; simp only [ltO,decide_eq_false_iff_not] at hi; exact⟨d,rfl,by omega⟩
 | true=>
  obtain⟨a',ha',hl,e⟩:=rlx_imp hi
  rw [ha] at ha'; cases ha'
  rw [e]
  exact⟨_,if_pos rfl,by omega⟩
theorem rnd_mono {v:Nat} {c:Int} : ∀(L:List β) (x:X),le (x v) c->le (rnd si sj sw L x v) c
 | [],x,h=>h
 | b::L,x,h=>rnd_mono L _ (rlx_mono h)
theorem rnd_new {c:Int} : ∀(L:List β) (x:X) (b:β),b∈L->le (x (si b)) c->le (rnd si sj sw L x (sj b)) (c+sw b)
 | b'::L,x,b,hb,h=>by
  rcases List.mem_cons.1 hb with rfl | hb
  ·exact rnd_mono L _ (rlx_new h)
  ·exact rnd_new L _ b hb (rlx_mono h)
theorem rnds_mono (L:List β) {x:X} {v:Nat} {c:Int} (h:le (x v) c):∀ n,le (rnds si sj sw L x n v) c
 | 0=>h
 | n+1=>rnd_mono L _ (rnds_mono L h n)
theorem rnds_low {L:List β} {x0:X} : ∀(k m v:Nat) (c:Int),Wk si sj sw x0 L m v c->m<=k->le (rnds si sj sw L x0 k v) c
 | k,0,v,c,h,hm=>by cases h with | nil h=>exact rnds_mono L ⟨c,h,Int.le_refl _⟩ k
 | k+1,m+1,v,c,h,hm=>by
  cases h with
  | step h hb=>exact rnd_new L _ _ hb (rnds_low k m _ _ h (by omega))
def Inv (si sj:β->Nat) (sw:β->Int) (x0:X) (L:List β) (x:X):Prop:=∀ v a,x v=some a->∃ m,Wk si sj sw x0 L m v a
theorem Inv.rlx {x0 x:X} {L:List β} {b:β} (h:Inv si sj sw x0 L x) (hb:b∈L):Inv si sj sw x0 L (rlx si sj sw x b):=by
 cases hi:imp si sj sw x b with
 | false=>rw [rlx_not hi]; exact h
 | true=>
  obtain⟨a,ha,hl,e⟩:=rlx_imp hi
  intro v d hv
  rw [e] at hv
  simp only at hv
  split at hv
  ·rename_i hj; subst hj
   cases hv
   obtain⟨m,hm⟩:=h _ _ ha
   exact⟨_,.step hm hb⟩
  ·exact h v d hv
theorem Inv.rnd {x0:X} {L:List β} : ∀(M:List β) (x:X),(∀ b∈M,b∈L)->Inv si sj sw x0 L x->Inv si sj sw x0 L (rnd si sj sw M x)
 | [],x,_,h=>h
 | b::M,x,hM,h=>Inv.rnd M _ (fun b hb=>hM b (List.mem_cons_of_mem _ hb)) (h.rlx (hM b (List.mem_cons_self ..)))
theorem Inv.rnds {x0:X} {L:List β} : ∀ n,Inv si sj sw x0 L (rnds si sj sw L x0 n)
 | 0=>fun v a h=>⟨0,.nil h⟩
 | n+1=>Inv.rnd L _ (fun _ h=>h) (Inv.rnds n)
theorem least {Q:Nat->Prop} : ∀ n,Q n->∃ m,Q m/\∀ k,Q k->m<=k:=by
 intro n
 induction n using Nat.strongRecOn with
 | _ n ih=>
  intro h
  by_cases hk:∃ k,k<n/\Q k
  ·obtain⟨k,hk,hq⟩:=hk; exact ih k hk hq
  ·exact⟨n,h,fun k hq=>Nat.le_of_not_lt fun hl=>hk ⟨k,hl,hq⟩⟩
structure Feas (si sj:β->Nat) (sw:β->Int) (x0:X) (L:List β) (n:Nat):Prop where
 ex:∃(p:Nat->Int) (C:Int),(∀ b∈L,p (sj b)<=p (si b)+sw b)/\∀ v c,x0 v=some c->p v-c<=C
 j:∀ b∈L,sj b<n
 z:∀ v c,x0 v=some c->v<n
theorem Wk.lt {x0:X} {L:List β} {n:Nat} (F:Feas si sj sw x0 L n) {m v:Nat} {c:Int} (h:Wk si sj sw x0 L m v c):v<n:=by
 cases h with
 | nil h=>exact F.z _ _ h
 | step h hb=>exact F.j _ hb
theorem Wk.low {x0:X} {L:List β} {p:Nat->Int} {C:Int} (h1:∀ b∈L,p (sj b)<=p (si b)+sw b) (h2:∀ v c,x0 v=some c->p v-c<=C):∀ {m v:Nat} {c:Int},Wk si sj sw x0 L m v c->p v-c<=C
 | 0,_,_,.nil h=>h2 _ _ h
 | _+1,_,_,.step h hb=>by have:=Wk.low h1 h2 h; have:=h1 _ hb; omega
structure Mn (si sj:β->Nat) (sw:β->Int) (x0:X) (L:List β) (v m:Nat) (c:Int):Prop where
 w:Wk si sj sw x0 L m v c
 lo:∀ m' c',Wk si sj sw x0 L m' v c'->c<=c'
 sh:∀ m',Wk si sj sw x0 L m' v c->m<=m'
theorem Mn.ex {x0:X} {L:List β} {n:Nat} (F:Feas si sj sw x0 L n) {m v:Nat} {c:Int} (h:Wk si sj sw x0 L m v c):∃ m c,Mn si sj sw x0 L v m c:=by
 obtain⟨p,C,h1,h2⟩:=F.ex
 obtain⟨k,⟨m1,c1,hk,hw⟩,hl⟩:=least (Q:=fun k=>∃ m c,(C -(p v-c)).toNat=k/\Wk si sj sw x0 L m v c) _ ⟨m,c,rfl,h⟩
 obtain⟨m2,hm,hm2⟩:=least (Q:=fun m=>Wk si sj sw x0 L m v c1) m1 hw
 refine⟨m2,c1,hm,fun m' c' h'=>?_,hm2⟩
 have:=hl _ ⟨m',c',rfl,h'⟩
 have:=Wk.low h1 h2 hw
 have:=Wk.low h1 h2 h'
 omega
theorem Mn.pred {x0:X} {L:List β} {v m:Nat} {c:Int} (h:Mn si sj sw x0 L v (m+1) c):∃ u d,Mn si sj sw x0 L u m d:=by
 obtain⟨w,hc,hm⟩:=h
 cases w with
 | @step _ d b hw hb=>
  refine⟨si b,d,hw,fun m' c' h'=>?_,fun m' h'=>?_⟩
  ·have:=hc _ _ (.step h' hb); omega
  ·have:=hm _ (.step h' hb); omega
theorem Mn.all {x0:X} {L:List β} : ∀ {m v:Nat} {c:Int},Mn si sj sw x0 L v m c->∀ k,k<=m->∃ u d,Mn si sj sw x0 L u k d
 | 0,v,c,h,k,hk=>by
  have:k=0:=by omega
  subst this
  exact⟨v,c,h⟩
 | m+1,v,c,h,k,hk=>by
  by_cases e:k=m+1
  ·subst e; exact⟨v,c,h⟩
  ·obtain⟨u,d,h'⟩:=h.pred; exact Mn.all h' k (by omega)
theorem Mn.uniq {x0:X} {L:List β} {v m m':Nat} {c c':Int} (h:Mn si sj sw x0 L v m c) (h':Mn si sj sw x0 L v m' c'):c=c'/\m=m':=by
 have e:c=c':=Int.le_antisymm (h.lo _ _ h'.w) (h'.lo _ _ h.w)
 subst e
 exact⟨rfl,Nat.le_antisymm (h.sh _ h'.w) (h'.sh _ h.w)⟩
theorem holes:∀(n M:Nat) (R:Nat->Nat->Prop),(∀ k k' u,R k u->R k' u->k=k')->(∀ k,k<M->∃ u,u<n/\R k u)->M<=n
 | 0,M,R,_,h=>by
  cases M with
  | zero=>exact Nat.le_refl _
  | succ M=>obtain⟨u,hu,_⟩:=h 0 (by omega); omega
 | n+1,M,R,hR,h=>by
  by_cases hk:∃ k,k<M/\R k n
  ·obtain⟨k0,hk0,hr⟩:=hk
   have:=holes n (M-1) (fun k u=>R (if k<k0 then k else k+1) u) (fun k k' u h1 h2=>by
    have:=hR _ _ _ h1 h2
    split at this <;> split at this <;> omega) fun k hk=>by
    obtain⟨u,hu,hru⟩:=h (if k<k0 then k else k+1) (by split <;> omega)
    refine⟨u,?_,hru⟩
    by_cases e:u=n
    ·subst e
     have:=hR _ _ _ hru hr
     split at this <;> omega
    ·omega
   omega
  ·have:=holes n M R hR fun k hk'=>by
    obtain⟨u,hu,hru⟩:=h k hk'
    exact⟨u,by
     by_cases e:u=n
     ·subst e; exact(hk ⟨k,hk',hru⟩).elim
     ·omega,hru⟩
   omega
theorem Mn.short {x0:X} {L:List β} {n:Nat} (F:Feas si sj sw x0 L n) {m v:Nat} {c:Int} (h:Mn si sj sw x0 L v m c):m<n:=
 holes n (m+1) (fun k u=>∃ d,Mn si sj sw x0 L u k d) (fun k k' u ⟨_,a⟩ ⟨_,b⟩=>(a.uniq b).2) fun k hk=>by
  obtain⟨u,d,hu⟩:=h.all k (by omega)
  exact⟨u,hu.w.lt F,d,hu⟩
theorem done {x0:X} {L:List β} {n:Nat} (F:Feas si sj sw x0 L n) {k:Nat} (hk:n<=k+1):∀ b∈L,imp si sj sw (rnds si sj sw L x0 k) b=false:=by
 intro b hb
 unfold imp
 cases hx:rnds si sj sw L x0 k (si b) with
 | none=>rfl
 | some a=>
  obtain⟨m,hm⟩:=Inv.rnds k _ _ hx
  obtain⟨m',d,hd⟩:=Mn.ex F (.step hm hb)
  obtain⟨e,he,hed⟩:=rnds_low k m' _ _ hd.w (by have:=hd.short F; omega)
  have:=hd.lo _ _ (.step hm hb)
  rw [he]
  simp only [ltO,decide_eq_false_iff_not]
  omega
def Fix (si sj:β->Nat) (sw:β->Int) (L:List β) (x:X):Prop:=∀ b∈L,imp si sj sw x b=false
theorem Fix.le {L:List β} {x:X} (h:Fix si sj sw L x) {b:β} (hb:b∈L) {a:Int} (ha:x (si b)=some a):∃ d,x (sj b)=some d/\d<=a+sw b:=by
 have:=h b hb
 unfold imp at this
 rw [ha] at this
 simp only at this
 cases hx:x (sj b) with
 | none=>rw [hx] at this; cases this
 | some d=>rw [hx] at this; simp only [ltO,decide_eq_false_iff_not] at this; exact⟨d,rfl,by omega⟩
theorem Fix.wk {x0:X} {L:List β} {x:X} (h:Fix si sj sw L x) (h0:∀ v c,x0 v=some c->BF.le (x v) c):∀ {m v:Nat} {c:Int},Wk si sj sw x0 L m v c->BF.le (x v) c
 | 0,_,_,.nil h'=>h0 _ _ h'
 | _+1,_,_,.step (c:=c) h' hb=>by
  obtain⟨a,ha,hc⟩:=Fix.wk h h0 h'
  obtain⟨d,hd,hl⟩:=h.le hb ha
  exact⟨d,hd,by omega⟩
theorem Fix.uniq {x0:X} {L:List β} {x y:X} (hx:Fix si sj sw L x) (hy:Fix si sj sw L y) (ix:Inv si sj sw x0 L x) (iy:Inv si sj sw x0 L y) (x1:∀ v c,x0 v=some c->BF.le (x v) c) (y1:∀ v c,x0 v=some c->BF.le (y v) c):x=y:=by
 funext v
 have go:∀(x y:X),Fix si sj sw L y->Inv si sj sw x0 L x->(∀ v c,x0 v=some c->BF.le (y v) c)->∀ a,x v=some a->BF.le (y v) a:=fun x y hy ix y1 a ha=>by
  obtain⟨m,hm⟩:=ix v a ha
  exact hy.wk y1 hm
 cases h1:x v with
 | none=>
  cases h2:y v with
  | none=>rfl
  | some b=>obtain⟨a,ha,_⟩:=go y x hx iy x1 b h2; rw [h1] at ha; cases ha
 | some a=>
  obtain⟨b,hb,hab⟩:=go x y hy ix y1 a h1
  obtain⟨a',ha',hba⟩:=go y x hx iy x1 b hb
  rw [h1] at ha'; cases ha'
  rw [hb,Int.le_antisymm hab hba]
end
end BF
end Px
end
section
namespace Px
open Go
def zwy (e:Edge) (a b:Int):Prop:=(e.a=a/\e.b=b)\/(e.a=b/\e.b=a)
instance (e:Edge) (a b:Int):Decidable (zwy e a b):=inferInstanceAs (Decidable (_\/_))
def lnF (es:List Edge) (a b:Int):Nat->Int
 | 0=>-1
 | k+1=>if zwy (gt es (k:Int)) a b/\(lnF es a b k<0\/(gt es (k:Int)).minutes <(gt es (lnF es a b k)).minutes) then(k:Int) else lnF es a b k
theorem yak (es:List Edge) (a b:Int) (k:Nat):lnF es a b (k+1)=if zwy (gt es (k:Int)) a b/\(lnF es a b k<0\/(gt es (k:Int)).minutes <(gt es (lnF es a b k)).minutes) then(k:Int) else lnF es a b k:=rfl
theorem yab (es:List Edge) (a b:Int):∀ k:Nat,(-1<=lnF es a b k/\lnF es a b k <(k:Int))/\(0<=lnF es a b k->zwy (gt es (lnF es a b k)) a b)/\∀ j:Nat,j<k->zwy (gt es (j:Int)) a b->0<=lnF es a b k/\(gt es (lnF es a b k)).minutes<=(gt es (j:Int)).minutes
 | 0=>⟨⟨by simp [lnF],by simp [lnF]⟩,by simp [lnF],fun j hj=>by omega⟩
 | k+1=>by
  obtain⟨⟨h1,h2⟩,h3,h4⟩:=yab es a b k
  unfold lnF
  split
  ·rename_i hc
   refine⟨⟨by omega,by omega⟩,fun _=>hc.1,fun j hj hjj=>⟨by omega,?_⟩⟩
   by_cases e:j=k
   ·subst e; exact Int.le_refl _
   ·have:=h4 j (by omega) hjj
    rcases hc.2 with q | q <;> omega
  ·rename_i hc
   refine⟨⟨h1,by omega⟩,h3,fun j hj hjj=>?_⟩
   by_cases e:j=k
   ·subst e
    by_cases q:lnF es a b j<0
    ·exact absurd ⟨hjj,.inl q⟩ hc
    ·refine⟨by omega,?_⟩
     by_cases q2 :(gt es (j:Int)).minutes <(gt es (lnF es a b j)).minutes
     ·exact absurd ⟨hjj,.inr q2⟩ hc
     ·omega
   ·exact h4 j (by omega) hjj
theorem y1f (es:List Edge) (i a b:Int) (s:List (List Int)×Ln) (c d:Int):lget (ent1 es i a b s).2 c d=if(c=a/\d=b)/\((lget s.2 a b).isSome=false\/(gt es i).minutes <(gt es ((lget s.2 a b).getD default)).minutes) then some i else lget s.2 c d:=by
 unfold ent1
 simp only
 by_cases hc :(lget s.2 a b).isSome=false\/(gt es i).minutes <(gt es ((lget s.2 a b).getD default)).minutes
 ·rw [if_pos (by simpa using hc),zoc]
  by_cases q:c=a/\d=b
  ·rw [if_pos q,if_pos ⟨q,hc⟩]
  ·rw [if_neg q,if_neg (fun r=>q r.1)]
 ·rw [if_neg (by simpa using hc),if_neg (fun r=>hc r.2)]
theorem y0r {x:ze} (h:zbu x):∀ k,k<=x.edges.length->∀ c d:Int,lget (zf4 x.edges x.places.length k).2 c d=if lnF x.edges c d k<0 then none else some (lnF x.edges c d k)
 | 0,_,c,d=>by simp [zf4,lget,mget,lnF]
 | k+1,hk,c,d=>by
  obtain⟨_,_,_,_,hne,_⟩:=h.ends (i:=(k:Int)) (by omega) (by omega)
  have ih:=y0r h k (by omega)
  have key:∀ a b,(lget (zf4 x.edges x.places.length k).2 a b).isSome=false\/(gt x.edges (k:Int)).minutes <(gt x.edges ((lget (zf4 x.edges x.places.length k).2 a b).getD default)).minutes↔lnF x.edges a b k<0\/(gt x.edges (k:Int)).minutes <(gt x.edges (lnF x.edges a b k)).minutes:=by
   intro a b
   rw [ih a b]
   by_cases q:lnF x.edges a b k<0
   ·rw [if_pos q]; simp [q]
   ·rw [if_neg q]; simp [q]
  show lget (entE x.edges k (zf4 x.edges x.places.length k)).2 c d=_
  unfold entE
  have e2:lget (ent1 x.edges k (gt x.edges (k:Int)).a (gt x.edges (k:Int)).b (zf4 x.edges x.places.length k)).2 (gt x.edges (k:Int)).b (gt x.edges (k:Int)).a=lget (zf4 x.edges x.places.length k).2 (gt x.edges (k:Int)).b (gt x.edges (k:Int)).a:=by
   rw [y1f,if_neg (fun q=>hne q.1.2)]
  rw [y1f,e2,y1f]
  simp only [key]
  have yes:zwy (gt x.edges (k:Int)) c d/\(lnF x.edges c d k<0\/(gt x.edges (k:Int)).minutes <(gt x.edges (lnF x.edges c d k)).minutes)->lnF x.edges c d (k+1) =(k:Int):=fun q=>by rw [yak,if_pos q]
  have no:¬(zwy (gt x.edges (k:Int)) c d/\(lnF x.edges c d k<0\/(gt x.edges (k:Int)).minutes <(gt x.edges (lnF x.edges c d k)).minutes))->lnF x.edges c d (k+1)=lnF x.edges c d k:=fun q=>by rw [yak,if_neg q]
  by_cases q1:c =(gt x.edges (k:Int)).a/\d =(gt x.edges (k:Int)).b
  ·obtain⟨rfl,rfl⟩:=q1
   rw [if_neg (fun q=>hne q.1.1)]
   by_cases q2:lnF x.edges (gt x.edges (k:Int)).a (gt x.edges (k:Int)).b k<0\/(gt x.edges (k:Int)).minutes <(gt x.edges (lnF x.edges (gt x.edges (k:Int)).a (gt x.edges (k:Int)).b k)).minutes
   ·rw [yes ⟨.inl ⟨rfl,rfl⟩,q2⟩,if_pos ⟨⟨rfl,rfl⟩,q2⟩,if_neg (by omega)]
   ·rw [no (fun q=>q2 q.2),if_neg (fun q=>q2 q.2),ih]
  ·by_cases q3:c =(gt x.edges (k:Int)).b/\d =(gt x.edges (k:Int)).a
   ·obtain⟨rfl,rfl⟩:=q3
    by_cases q2:lnF x.edges (gt x.edges (k:Int)).b (gt x.edges (k:Int)).a k<0\/(gt x.edges (k:Int)).minutes <(gt x.edges (lnF x.edges (gt x.edges (k:Int)).b (gt x.edges (k:Int)).a k)).minutes
    ·rw [yes ⟨.inr ⟨rfl,rfl⟩,q2⟩,if_pos ⟨⟨rfl,rfl⟩,q2⟩,if_neg (by omega)]
    ·rw [no (fun q=>q2 q.2),if_neg (fun q=>q2 q.2),if_neg (fun q=>q1 q.1),ih]
   ·rw [no (fun q=>by
     rcases q.1 with⟨r1,r2⟩ |⟨r1,r2⟩
     ·exact q1 ⟨r1.symm,r2.symm⟩
     ·exact q3 ⟨r2.symm,r1.symm⟩),if_neg (fun q=>q3 q.1),if_neg (fun q=>q1 q.1),ih]
abbrev DE3:=Nat×Nat×Int
abbrev dI (e:DE3):Nat:=e.1
abbrev dJ (e:DE3):Nat:=e.2.1
abbrev dW (e:DE3):Int:=e.2.2
def dirs (e:Edge):List DE3:=[(e.a.toNat,e.b.toNat,e.minutes),(e.b.toNat,e.a.toNat,e.minutes)]
def dE (x:ze):List DE3:=x.edges.flatMap dirs
def tf (t:List Int):BF.X:=fun v=>if v<t.length/\0<=gt t (v:Int) then some (gt t (v:Int)) else none
def tz (s:Int):BF.X:=fun v=>if(v:Int)=s then some 0 else none
theorem y8y {t:List Int} {i:Int} (h0:0<=i) (h:i <(t.length:Int)):tf t i.toNat=if 0<=gt t i then some (gt t i) else none:=by
 unfold tf
 rw [show ((i.toNat:Nat):Int)=i by omega]
 by_cases q:0<=gt t i
 ·rw [if_pos ⟨by omega,q⟩,if_pos q]
 ·rw [if_neg (fun r=>q r.2),if_neg q]
def ryl (t:List Int) (a b m:Int):List Int:=if 0<=gt t a/\(gt t b<0\/gt t a+m<gt t b) then zw t b (gt t a+m) else t
theorem ya9 {t:List Int} {a b m:Int} (ha:0<=a) (ha':a <(t.length:Int)) (hb:0<=b) (hb':b <(t.length:Int)) (hm:1<=m) :
  tf (ryl t a b m)=BF.rlx dI dJ dW (tf t) (a.toNat,b.toNat,m)/\(BF.imp dI dJ dW (tf t) (a.toNat,b.toNat,m)=decide (0<=gt t a/\(gt t b<0\/gt t a+m<gt t b))):=by
 have e1:=y8y ha ha'
 have e2:=y8y hb hb'
 have ei:BF.imp dI dJ dW (tf t) (a.toNat,b.toNat,m)=decide (0<=gt t a/\(gt t b<0\/gt t a+m<gt t b)):=by
  unfold BF.imp
  simp only [dI,dJ,dW,e1,e2]
  by_cases q:0<=gt t a
  ·rw [if_pos q]
   by_cases q2:0<=gt t b
   ·rw [if_pos q2]
    simp only [BF.ltO]
    rw [decide_eq_decide]; omega
   ·rw [if_neg q2]
    simp only [BF.ltO]
    symm; rw [decide_eq_true_eq]; omega
  ·rw [if_neg q]
   symm; rw [decide_eq_false_iff_not]; exact fun r=>q r.1
 refine⟨?_,ei⟩
 unfold ryl
 by_cases q:0<=gt t a/\(gt t b<0\/gt t a+m<gt t b)
 ·rw [if_pos q]
  rw [decide_eq_true q] at ei
  obtain⟨c,hc,_,er⟩:=BF.rlx_imp ei
  rw [er]
  simp only [dI,e1,if_pos q.1,Option.some.injEq] at hc
  subst hc
  funext v
  unfold tf
  rw [z05]
  simp only [dJ,dW]
  by_cases hv:v<t.length
  ·rw [zy _ _ _ _ hb hb' (by omega)]
   by_cases e :(v:Int)=b
   ·rw [if_pos e,if_pos (show v<t.length/\0<=gt t a+m from⟨hv,by omega⟩),if_pos (show v=b.toNat by omega)]
   ·rw [if_neg e,if_neg (show ¬ v=b.toNat by omega)]
  ·rw [if_neg (fun r=>hv r.1),if_neg (show ¬ v=b.toNat by omega),if_neg (fun r=>hv r.1)]
 ·rw [if_neg q]
  rw [decide_eq_false q] at ei
  exact(BF.rlx_not ei).symm
def rst (t:List Int) (e:Edge):List Int:=ryl (ryl t e.a e.b e.minutes) e.b e.a e.minutes
def bett (x y:Int):Int:=if x<0 then y else min2 x y
theorem zvi (t:List Int) (a b m:Int) :(ryl t a b m).length=t.length:=by
 unfold ryl; split
 ·exact z05 ..
 ·rfl
theorem yre {t:List Int} {a b m:Int} (ha:0<=a) (ha':a <(t.length:Int)) (hb:0<=b) (hb':b <(t.length:Int)) (hne:a≠b) (hm:1<=m) (hta : -1<=gt t a) (htb : -1<=gt t b) :
  (if 0<=gt t b then zw (if 0<=gt t a then zw t b (bett (gt t b) (gt t a+m)) else t) a (bett (gt t a) (gt t b+m)) else(if 0<=gt t a then zw t b (bett (gt t b) (gt t a+m)) else t))=ryl (ryl t a b m) b a m:=by
 have hself:∀(u:List Int) (i:Int),0<=i->i <(u.length:Int)->zw u i (gt u i)=u:=fun u i h0 h1=>zxj u h0 h1
 by_cases q1:0<=gt t a
 ·by_cases q2:0<=gt t b
  ·rw [if_pos q2,if_pos q1]
   by_cases q3:gt t a+m<gt t b
   ·have e1:ryl t a b m=zw t b (gt t a+m):=by unfold ryl; rw [if_pos ⟨q1,.inr q3⟩]
    rw [e1]
    have g1:gt (zw t b (gt t a+m)) b=gt t a+m:=by rw [zy _ _ _ _ hb hb' hb,if_pos rfl]
    have g2:gt (zw t b (gt t a+m)) a=gt t a:=by rw [zy _ _ _ _ hb hb' ha,if_neg hne]
    have e2:ryl (zw t b (gt t a+m)) b a m=zw t b (gt t a+m):=by unfold ryl; rw [g1,g2,if_neg (by omega)]
    rw [e2,show bett (gt t b) (gt t a+m)=gt t a+m by unfold bett min2; rw [if_neg (by omega)]; split <;> omega,show bett (gt t a) (gt t b+m)=gt t a by unfold bett min2; rw [if_neg (by omega)]; split <;> omega]
    have:=hself (zw t b (gt t a+m)) a ha (by rw [z05]; exact ha')
    rwa [g2] at this
   ·have e1:ryl t a b m=t:=by unfold ryl; rw [if_neg (by omega)]
    rw [e1,show bett (gt t b) (gt t a+m)=gt t b by unfold bett min2; rw [if_neg (by omega)]; split <;> omega,hself t b hb hb']
    unfold ryl
    by_cases q4:gt t b+m<gt t a
    ·rw [if_pos ⟨q2,.inr q4⟩,show bett (gt t a) (gt t b+m)=gt t b+m by unfold bett min2; rw [if_neg (by omega)]; split <;> omega]
    ·rw [if_neg (by omega),show bett (gt t a) (gt t b+m)=gt t a by unfold bett min2; rw [if_neg (by omega)]; split <;> omega,hself t a ha ha']
  ·rw [if_neg q2,if_pos q1]
   have e1:ryl t a b m=zw t b (gt t a+m):=by unfold ryl; rw [if_pos ⟨q1,.inl (by omega)⟩]
   have g1:gt (zw t b (gt t a+m)) b=gt t a+m:=by rw [zy _ _ _ _ hb hb' hb,if_pos rfl]
   have g2:gt (zw t b (gt t a+m)) a=gt t a:=by rw [zy _ _ _ _ hb hb' ha,if_neg hne]
   rw [e1,show bett (gt t b) (gt t a+m)=gt t a+m by unfold bett; rw [if_pos (by omega)]]
   unfold ryl; rw [g1,g2,if_neg (by omega)]
 ·have e1:ryl t a b m=t:=by unfold ryl; rw [if_neg (fun r=>q1 r.1)]
  rw [if_neg q1,e1]
  by_cases q2:0<=gt t b
  ·rw [if_pos q2,show bett (gt t a) (gt t b+m)=gt t b+m by unfold bett; rw [if_pos (by omega)]]
   unfold ryl; rw [if_pos ⟨q2,.inl (by omega)⟩]
  ·rw [if_neg q2]
   unfold ryl; rw [if_neg (fun r=>q2 r.1)]
end Px
end
section
namespace Px
open Go
def chF (t:List Int) (e:Edge):Bool:=(gt (rst t e) e.a !=gt t e.a)||(gt (rst t e) e.b !=gt t e.b)
structure EdOK (P:Nat) (e:Edge):Prop where
 a0:0<=e.a
 a1:e.a <(P:Int)
 b0:0<=e.b
 b1:e.b <(P:Int)
 ne:e.a≠e.b
 m1:1<=e.minutes
 m2:e.minutes<=100000
theorem edOK {x:ze} (h:zbu x) {i:Nat} (hi:i<x.edges.length):EdOK x.places.length (gt x.edges (i:Int)):=by
 obtain⟨q1,q2,q3,q4,q5,_,_,q6,q7,_⟩:=h.ends (i:=(i:Int)) (by omega) (by omega)
 exact⟨q1,q2,q3,q4,q5,q6,q7⟩
theorem ygd (t:List Int) (e:Edge) :(rst t e).length=t.length:=by unfold rst; rw [zvi,zvi]
theorem yq0 {P:Nat} {t:List Int} (ht:t.length=P) {e:Edge} (he:EdOK P e):tf (rst t e) =(dirs e).foldl (BF.rlx dI dJ dW) (tf t):=by
 obtain⟨a0,a1,b0,b1,ne,m1,m2⟩:=he
 subst ht
 unfold rst dirs
 rw [(ya9 (t:=ryl t e.a e.b e.minutes) b0 (by rw [zvi]; exact b1) a0 (by rw [zvi]; exact a1) m1).1,(ya9 a0 a1 b0 b1 m1).1]
 rfl
theorem zud {t:List Int} {a b m:Int} (h:¬(0<=gt t a/\(gt t b<0\/gt t a+m<gt t b))):ryl t a b m=t:=by unfold ryl; rw [if_neg h]
theorem yb4 {P:Nat} {t:List Int} (ht:t.length=P) {e:Edge} (he:EdOK P e) :(chF t e=false->rst t e=t/\∀ d∈dirs e,BF.imp dI dJ dW (tf t) d=false)/\((∀ d∈dirs e,BF.imp dI dJ dW (tf t) d=false)->rst t e=t/\chF t e=false):=by
 obtain⟨a0,a1,b0,b1,ne,m1,m2⟩:=he
 subst ht
 have i1:=(ya9 a0 a1 b0 b1 m1).2
 have i2:=(ya9 b0 b1 a0 a1 m1).2
 constructor
 ·intro hc
  unfold chF at hc
  simp only [Bool.or_eq_false_iff,bne_eq_false_iff_eq] at hc
  obtain⟨h1,h2⟩:=hc
  have n1:¬(0<=gt t e.a/\(gt t e.b<0\/gt t e.a+e.minutes<gt t e.b)):=by
   intro q
   unfold rst at h2
   have e1:ryl t e.a e.b e.minutes=zw t e.b (gt t e.a+e.minutes):=by unfold ryl; rw [if_pos q]
   rw [e1] at h2
   have g1:gt (zw t e.b (gt t e.a+e.minutes)) e.b=gt t e.a+e.minutes:=by rw [zy _ _ _ _ b0 b1 b0,if_pos rfl]
   have g2:gt (zw t e.b (gt t e.a+e.minutes)) e.a=gt t e.a:=by rw [zy _ _ _ _ b0 b1 a0,if_neg ne]
   rw [zud (by rw [g1,g2]; omega),g1] at h2
   omega
  have e1:=zud n1
  have n2:¬(0<=gt t e.b/\(gt t e.a<0\/gt t e.b+e.minutes<gt t e.a)):=by
   intro q
   unfold rst at h1
   rw [e1] at h1
   have e2:ryl t e.b e.a e.minutes=zw t e.a (gt t e.b+e.minutes):=by unfold ryl; rw [if_pos q]
   rw [e2,zy _ _ _ _ a0 a1 a0,if_pos rfl] at h1
   omega
  refine⟨by unfold rst; rw [e1,zud n2],fun d hd=>?_⟩
  simp only [dirs,List.mem_cons,List.not_mem_nil,or_false] at hd
  rcases hd with rfl | rfl
  ·rw [i1,decide_eq_false n1]
  ·rw [i2,decide_eq_false n2]
 ·intro hq
  have q1:=hq (e.a.toNat,e.b.toNat,e.minutes) (by simp [dirs])
  have q2:=hq (e.b.toNat,e.a.toNat,e.minutes) (by simp [dirs])
  rw [i1,decide_eq_false_iff_not] at q1
  rw [i2,decide_eq_false_iff_not] at q2
  have hr:rst t e=t:=by unfold rst; rw [zud q1,zud q2]
  refine⟨hr,?_⟩
  unfold chF
  rw [hr]; simp
structure TB (P c:Nat) (t:List Int):Prop where
 len:t.length=P
 bd:∀ i:Int,0<=i->i <(P:Int)->-1<=gt t i/\gt t i<=100000 *(c:Int)
theorem TB.up {P c d:Nat} {t:List Int} (h:TB P c t) (hd:c<=d):TB P d t:=⟨h.len,fun i h0 h1=>by have:=h.bd i h0 h1; omega⟩
theorem TB.ryl {P c:Nat} {t:List Int} (h:TB P c t) {a b m:Int} (ha:0<=a) (ha':a <(P:Int)) (hb:0<=b) (hb':b <(P:Int)) (hm:1<=m) (hm':m<=100000):TB P (c+1) (Px.ryl t a b m):=by
 refine⟨by rw [zvi]; exact h.len,fun i h0 h1=>?_⟩
 have q1:=h.bd a ha ha'
 have q2:=h.bd i h0 h1
 unfold Px.ryl
 split
 ·rw [zy _ _ _ _ hb (by rw [h.len]; exact hb') h0]
  split <;> omega
 ·omega
theorem TB.rst {P c:Nat} {t:List Int} (h:TB P c t) {e:Edge} (he:EdOK P e):TB P (c+2) (Px.rst t e):=
 (h.ryl he.a0 he.a1 he.b0 he.b1 he.m1 he.m2).ryl he.b0 he.b1 he.a0 he.a1 he.m1 he.m2
def rnT (es:List Edge) (t:List Int):Nat->List Int
 | 0=>t
 | m+1=>rst (rnT es t m) (gt es (m:Int))
def fl (es:List Edge) (t:List Int):Nat->Bool
 | 0=>false
 | m+1=>fl es t m||chF (rnT es t m) (gt es (m:Int))
theorem zvb (φ:Nat) (x y:Int):zbr φ x y=some (bett x y,()):=by
 unfold zbr bett
 by_cases h:x<0
 ·rw [if_pos (by simpa using h),if_pos h]
 ·rw [if_neg (by simpa using h),if_neg h]
theorem yrb (φ:Nat) (k) (f:Bool) (i a b:Int) (x:ze) (t:List Int) (e:Edge) (h1:0<=e.a/\e.a <(t.length:Int)) (h2:0<=e.b/\e.b <(t.length:Int)):z56 φ k f i a b x t e=k ((f||(gt t e.a !=a))||(gt t e.b !=b)) (W (i+1)) x t:=by
 unfold z56
 rw [z7 (fun _=>h1),z7 (fun _=>h2)]
theorem yio (φ:Nat) (k) (n:Nat) (f:Bool) (i:Nat) {x:ze} (hi:i<x.edges.length) (hie:x.edges.length<=2048) {P c:Nat} (he:EdOK P (gt x.edges (i:Int))) {t:List Int} (ht:TB P c t) (hc:c<=10000000) :
  z0s φ k (n+1) f (i:Int) x t=z0s φ k n (f||chF t (gt x.edges (i:Int))) ((i:Int)+1) x (rst t (gt x.edges (i:Int))):=by
 obtain⟨a0,a1,b0,b1,ne,m1,m2⟩:=he
 have hl:=ht.len
 have qa:=ht.bd _ a0 a1
 have qb:=ht.bd _ b0 b1
 have hr:=yre (t:=t) a0 (by rw [hl]; exact a1) b0 (by rw [hl]; exact b1) ne m1 qa.1 qb.1
 have hr2:rst t (gt x.edges (i:Int))=ryl (ryl t (gt x.edges (i:Int)).a (gt x.edges (i:Int)).b (gt x.edges (i:Int)).minutes) (gt x.edges (i:Int)).b (gt x.edges (i:Int)).a (gt x.edges (i:Int)).minutes:=rfl
 rw [<- hr2] at hr
 rw [z0s,if_pos (by simp; omega),z7 ⟨by omega,by omega⟩,z7 ⟨a0,by rw [hl]; exact a1⟩,z7 ⟨b0,by rw [hl]; exact b1⟩]
 have fin:∀ u:List Int,u=rst t (gt x.edges (i:Int))->z56 φ (z0s φ k n) f (i:Int) (gt t (gt x.edges (i:Int)).a) (gt t (gt x.edges (i:Int)).b) x u (gt x.edges (i:Int))=z0s φ k n (f||chF t (gt x.edges (i:Int))) ((i:Int)+1) x (rst t (gt x.edges (i:Int))):=by
  intro u hu
  subst hu
  rw [yrb _ _ _ _ _ _ _ _ _ ⟨a0,by rw [ygd,hl]; exact a1⟩ ⟨b0,by rw [ygd,hl]; exact b1⟩,W_id (by omega) (by omega),Bool.or_assoc]
  rfl
 by_cases q1:0<=gt t (gt x.edges (i:Int)).a
 ·rw [if_pos (by simpa using q1),W_id (by omega) (by omega),zvb,Option.bind_some,z7 ⟨b0,by rw [hl]; exact b1⟩]
  rw [if_pos q1] at hr
  unfold z6x
  by_cases q2:0<=gt t (gt x.edges (i:Int)).b
  ·rw [if_pos q2] at hr
   rw [if_pos (by simpa using q2),W_id (by omega) (by omega),zvb,Option.bind_some,z7 ⟨a0,by rw [z05,hl]; exact a1⟩]
   exact fin _ hr
  ·rw [if_neg q2] at hr
   rw [if_neg (by simpa using q2)]
   exact fin _ hr
 ·rw [if_neg (by simpa using q1)]
  rw [if_neg q1] at hr
  unfold z6x
  by_cases q2:0<=gt t (gt x.edges (i:Int)).b
  ·rw [if_pos q2] at hr
   rw [if_pos (by simpa using q2),W_id (by omega) (by omega),zvb,Option.bind_some,z7 ⟨a0,by rw [hl]; exact a1⟩]
   exact fin _ hr
  ·rw [if_neg q2] at hr
   rw [if_neg (by simpa using q2)]
   exact fin _ hr
theorem y9g {x:ze} (h:zbu x) {c:Nat} {t:List Int} (ht:TB x.places.length c t):∀ m,m<=x.edges.length->TB x.places.length (c+2*m) (rnT x.edges t m)
 | 0,_=>ht
 | m+1,hm=>((y9g h ht m (by omega)).rst (edOK h (by omega))).up (by omega)
theorem ylh {x:ze} (h:zbu x) {c:Nat} {t:List Int} (ht:TB x.places.length c t):∀ m,m<=x.edges.length->tf (rnT x.edges t m) =((x.edges.take m).flatMap dirs).foldl (BF.rlx dI dJ dW) (tf t)
 | 0,_=>rfl
 | m+1,hm=>by
  have ih:=ylh h ht m (by omega)
  rw [z0b x.edges m (by omega),List.flatMap_append,List.foldl_append,<- ih]
  show tf (rst (rnT x.edges t m) (gt x.edges (m:Int)))=_
  rw [yq0 (y9g h ht m (by omega)).len (edOK h (by omega))]
  simp
theorem yb2 {x:ze} (h:zbu x) {c:Nat} {t:List Int} (ht:TB x.places.length c t):∀ m,m<=x.edges.length->fl x.edges t m=false->rnT x.edges t m=t/\∀ j:Nat,j<m->∀ d∈dirs (gt x.edges (j:Int)),BF.imp dI dJ dW (tf t) d=false
 | 0,_,_=>⟨rfl,fun j hj=>by omega⟩
 | m+1,hm,hf=>by
  simp only [fl,Bool.or_eq_false_iff] at hf
  obtain⟨h1,h2⟩:=yb2 h ht m (by omega) hf.1
  rw [h1] at hf
  obtain⟨h3,h4⟩:=(yb4 ht.len (edOK h (by omega))).1 hf.2
  refine⟨by show rst (rnT x.edges t m) _=t; rw [h1,h3],fun j hj=>?_⟩
  by_cases e:j=m
  ·subst e; exact h4
  ·exact h2 j (by omega)
theorem yra {x:ze} (h:zbu x) {c:Nat} {t:List Int} (ht:TB x.places.length c t) (hq:∀ d∈dE x,BF.imp dI dJ dW (tf t) d=false):∀ m,m<=x.edges.length->fl x.edges t m=false/\rnT x.edges t m=t
 | 0,_=>⟨rfl,rfl⟩
 | m+1,hm=>by
  obtain⟨h1,h2⟩:=yra h ht hq m (by omega)
  obtain⟨h3,h4⟩:=(yb4 ht.len (edOK h (i:=m) (by omega))).2 (fun d hd=>hq d (List.mem_flatMap.2 ⟨_,z0p (l:=x.edges) (i:=(m:Int)) (by omega) (by omega),hd⟩))
  refine⟨?_,by show rst (rnT x.edges t m) _=t; rw [h2,h3]⟩
  simp only [fl,h1,h2,h4,Bool.or_self]
theorem ys8 {x:ze} (h:zbu x) {s:Int} (hs:0<=s) (hs':s <(x.places.length:Int)):BF.Feas dI dJ dW (tz s) (dE x) x.places.length:=by
 refine⟨⟨fun _=>0,0,fun d hd=>?_,fun v c hv=>?_⟩,fun d hd=>?_,fun v c hv=>?_⟩
 ·obtain⟨e,he,hd⟩:=List.mem_flatMap.1 hd
  obtain⟨i,hi,rfl⟩:=zon he
  have:=(edOK h hi).m1
  simp only [dirs,List.mem_cons,List.not_mem_nil,or_false] at hd
  rcases hd with rfl | rfl
  ·show (0:Int)<=0 +(gt x.edges (i:Int)).minutes; omega
  ·show (0:Int)<=0 +(gt x.edges (i:Int)).minutes; omega
 ·unfold tz at hv
  split at hv
  ·cases hv; show (0:Int)-0<=0; omega
  ·cases hv
 ·obtain⟨e,he,hd⟩:=List.mem_flatMap.1 hd
  obtain⟨i,hi,rfl⟩:=zon he
  obtain⟨a0,a1,b0,b1,_⟩:=edOK h hi
  simp only [dirs,List.mem_cons,List.not_mem_nil,or_false] at hd
  rcases hd with rfl | rfl <;> simp only [dJ] <;> omega
 ·unfold tz at hv
  split at hv
  ·omega
  ·cases hv
structure TF (x:ze) (s:Int) (t:List Int):Prop where
 len:t.length=x.places.length
 lo:∀ i:Int,0<=i->i <(x.places.length:Int)->-1<=gt t i
 fix:BF.Fix dI dJ dW (dE x) (tf t)
 rnd:∃ k,tf t=BF.rnds dI dJ dW (dE x) (tz s) k
theorem yjb (φ:Nat) (hφ:5000<φ) {x:ze} (h:zbu x) {s:Int} (hs:0<=s) (hs':s <(x.places.length:Int)) (M:Nat) (hM:2*x.edges.length<=M) (hM2:M<=4096) (f:Nat):∀(k:Nat) (t:List Int),TB x.places.length (k*M) t->tf t=BF.rnds dI dJ dW (dE x) (tz s) k->k<=x.places.length->x.places.length+2<=f+k->
  ∃ t',z1y φ f true x t=some (t',0,())/\TF x s t':=by
 induction f with
 | zero=>intro k t _ _ h1 h2; omega
 | succ f ih=>
  intro k t hB ht h1 h2
  have hP:=h.places
  have hE:=h.edges
  have hround:z0s φ (z1y φ f) φ false 0 x t=z1y φ f (fl x.edges t x.edges.length) x (rnT x.edges t x.edges.length):=by
   refine zr (fun n i (u:Bool×List Int)=>z0s φ (z1y φ f) n u.1 i x u.2) x.edges.length (fun i u=>u =(fl x.edges t i,rnT x.edges t i)) (fun o=>o=_) ?_ ?_ φ (false,t) rfl (by omega)
   ·intro n i u hi hu hk
    subst hu
    have hb:=y9g h hB i (by omega)
    rw [yio φ _ n _ i hi hE (edOK h hi) hb (by
     have:=Nat.mul_le_mul (show k<=512 by omega) hM2
     omega)]
    exact hk _ rfl
   ·intro n u hu
    subst hu
    rw [z0s,if_neg (by simp)]
  rw [z1y,if_pos rfl,hround]
  have htf:=ylh h hB x.edges.length (Nat.le_refl _)
  rw [List.take_length] at htf
  have htf2:tf (rnT x.edges t x.edges.length)=BF.rnds dI dJ dW (dE x) (tz s) (k+1):=by rw [htf,ht]; rfl
  have hb:=y9g h hB x.edges.length (Nat.le_refl _)
  cases hfl:fl x.edges t x.edges.length with
  | false=>
   obtain⟨q1,q2⟩:=yb2 h hB x.edges.length (Nat.le_refl _) hfl
   obtain⟨f',rfl⟩:∃ f',f=f'+1:=⟨f-1,by omega⟩
   rw [z1y,if_neg (by simp)]
   refine⟨_,rfl,hb.len,fun i i0 i1=>(hb.bd i i0 i1).1,?_,k+1,htf2⟩
   rw [q1]
   intro d hd
   obtain⟨e,he,hd⟩:=List.mem_flatMap.1 hd
   obtain⟨i,hi,rfl⟩:=zon he
   exact q2 i hi d hd
  | true=>
   by_cases hk:x.places.length<=k+1
   ·exfalso
    have:=(yra h hB (fun d hd=>by have:=BF.done (ys8 h hs hs') hk d hd; rwa [<- ht] at this) x.edges.length (Nat.le_refl _)).1
    rw [this] at hfl; cases hfl
   ·exact ih (k+1) _ (hb.up (by rw [Nat.add_mul,Nat.one_mul]; omega)) htf2 (by omega) (by omega)
theorem yil {x:ze} {s:Int} (hs:0<=s) (hs':s <(x.places.length:Int)) {t:List Int} (ht:t.length=x.places.length) (h:∀ i:Int,0<=i->i <(x.places.length:Int)->gt t i=if i=s then 0 else -1):tf t=tz s:=by
 funext v
 unfold tf tz
 by_cases hv:v<t.length
 ·rw [h v (by omega) (by omega)]
  by_cases e :(v:Int)=s
  ·rw [if_pos e,if_pos ⟨hv,by omega⟩,if_pos e]
  ·rw [if_neg e,if_neg (fun q=>by have:=q.2; omega),if_neg e]
 ·rw [if_neg (fun q=>hv q.1),if_neg (by omega)]
theorem yjd (φ:Nat) (hφ:5000<φ) {x:ze} (hn:z7k x=0) {s:Int} (hs:0<=s) (hs':s <(x.places.length:Int)):∃ t,zaw φ x s=some (t,0,())/\TF x s t:=by
 have h:=yf7 hn
 have hP:=h.places
 unfold zaw z8i
 rw [zaz φ hφ,Option.bind_some,if_neg (by simp [hn]),z5t,W_id (by omega) (by omega),Option.bind_some,Option.bind_some,if_neg (by simp; exact zgy.2 ⟨hs,by omega⟩),z7 (mk_t _ _ (by omega) (by omega) (by omega)),Int.toNat_natCast]
 refine zr (fun n i t=>z67 φ n s i x t) x.places.length (fun i t=>t.length=x.places.length/\∀ j:Int,0<=j->j <(i:Int)->gt t j=-1) (fun o=>∃ t,o=some (t,0,())/\TF x s t) ?_ ?_ φ _ ⟨by simp,fun j h0 h1=>by omega⟩ (by omega)
 ·intro n i t hi ⟨q1,q2⟩ hk
  rw [z67,if_pos (by rw [q1]; simp; omega),z7 ⟨by omega,by omega⟩,W_id (by omega) (by omega)]
  refine hk _ ⟨by rw [z05]; exact q1,fun j j0 j1=>?_⟩
  rw [zy _ _ _ _ (by omega) (by omega) j0]
  split
  ·rfl
  ·exact q2 j j0 (by omega)
 ·intro n t ⟨q1,q2⟩
  rw [z67,if_neg (by rw [q1]; simp),z7 ⟨hs,by omega⟩]
  have hst:∀ i:Int,0<=i->i <(x.places.length:Int)->gt (zw t s 0) i=if i=s then 0 else -1:=fun i i0 i1=>by
   rw [zy _ _ _ _ hs (by omega) i0]
   split
   ·rfl
   ·exact q2 i i0 i1
  have hl :(zw t s 0).length=x.places.length:=by rw [z05]; exact q1
  have hE:=h.edges
  exact yjb φ hφ h hs hs' 4096 (by omega) (by omega) φ 0 _ ⟨hl,fun i i0 i1=>by rw [hst i i0 i1]; split <;> omega⟩ (yil hs hs' hl hst) (by omega) (by omega)
end Px
end
section
namespace Px
open Go
theorem zze {x:ze} (h:zbu x) {a b:Int} (ha:0<=a) (ha':a <(x.places.length:Int)):b∈gt (z4y x) a↔0<=lnF x.edges a b x.edges.length:=by
 have H:=zj2 h x.edges.length (Nat.le_refl _)
 have hl0 :(znl x).length=x.places.length:=H.len
 have e:=y0r h x.edges.length (Nat.le_refl _) a b
 unfold z4y
 rw [zrm _ _ ha (by rw [hl0]; exact ha')]
 refine((z1q _ _).mem_iff).trans ((H.near a b ha ha').trans ?_)
 rw [e]
 by_cases q:lnF x.edges a b x.edges.length<0
 ·rw [if_pos q]; simp; omega
 ·rw [if_neg q]; simp; omega
theorem yex {x:ze} (h:zbu x) {a b:Int} (hl:0<=lnF x.edges a b x.edges.length):wtN x a b =(gt x.edges (lnF x.edges a b x.edges.length)).minutes:=by
 unfold wtN zcx
 rw [y0r h x.edges.length (Nat.le_refl _) a b,if_neg (by omega)]; rfl
theorem yqj {x:ze} (h:zbu x) {d:DE3} (hd:d∈dE x):∃ a b:Int,0<=a/\a <(x.places.length:Int)/\0<=b/\b <(x.places.length:Int)/\d =(a.toNat,b.toNat,dW d)/\0<=lnF x.edges a b x.edges.length/\wtN x a b<=dW d:=by
 obtain⟨e,he,hd⟩:=List.mem_flatMap.1 hd
 obtain⟨i,hi,rfl⟩:=zon he
 obtain⟨a0,a1,b0,b1,_⟩:=edOK h hi
 simp only [dirs,List.mem_cons,List.not_mem_nil,or_false] at hd
 rcases hd with rfl | rfl
 ·obtain⟨q1,q2⟩:=(yab x.edges (gt x.edges (i:Int)).a (gt x.edges (i:Int)).b x.edges.length).2.2 i hi (.inl ⟨rfl,rfl⟩)
  exact⟨_,_,a0,a1,b0,b1,rfl,q1,by rw [yex h q1]; exact q2⟩
 ·obtain⟨q1,q2⟩:=(yab x.edges (gt x.edges (i:Int)).b (gt x.edges (i:Int)).a x.edges.length).2.2 i hi (.inr ⟨rfl,rfl⟩)
  exact⟨_,_,b0,b1,a0,a1,rfl,q1,by rw [yex h q1]; exact q2⟩
theorem ypa {x:ze} (h:zbu x) {a b:Int} (hl:0<=lnF x.edges a b x.edges.length) :(a.toNat,b.toNat,wtN x a b)∈dE x:=by
 obtain⟨⟨_,h2⟩,h3,_⟩:=yab x.edges a b x.edges.length
 rw [yex h hl]
 refine List.mem_flatMap.2 ⟨_,z0p (l:=x.edges) hl h2,?_⟩
 rcases h3 hl with⟨q1,q2⟩ |⟨q1,q2⟩
 ·simp only [dirs,q1,q2,List.mem_cons,true_or]
 ·simp only [dirs,q1,q2,List.mem_cons,true_or,or_true]
theorem yqv {x:ze} (h:zbu x) {s:Int} {t:List Int} (hD:DF x.places.length (z4y x) (wtN x) s t):BF.Fix dI dJ dW (dE x) (tf t):=by
 intro d hd
 obtain⟨a,b,a0,a1,b0,b1,e,hl,hw⟩:=yqj h hd
 have e1:tf t (dI d)=if 0<=gt t a then some (gt t a) else none:=by rw [e]; exact y8y a0 (by rw [hD.lt]; exact a1)
 have e2:tf t (dJ d)=if 0<=gt t b then some (gt t b) else none:=by rw [e]; exact y8y b0 (by rw [hD.lt]; exact b1)
 unfold BF.imp
 rw [e1,e2]
 by_cases q:0<=gt t a
 ·obtain⟨n1,n2⟩:=hD.nbr a b a0 a1 q ((zze h a0 a1).2 hl)
  rw [if_pos q,if_pos n1]
  simp only [BF.ltO,decide_eq_false_iff_not]
  omega
 ·rw [if_neg q]
theorem yqs {x:ze} (h:zbu x) {s:Int} (hs:0<=s) (hs':s <(x.places.length:Int)) {t:List Int} (hD:DF x.places.length (z4y x) (wtN x) s t):BF.Inv dI dJ dW (tz s) (dE x) (tf t):=by
 have key:∀(n:Nat) (v:Int),0<=v->v <(x.places.length:Int)->0<=gt t v->(gt t v).toNat=n->∃ m,BF.Wk dI dJ dW (tz s) (dE x) m v.toNat (gt t v):=by
  intro n
  induction n using Nat.strongRecOn with
  | _ n ih=>
   intro v v0 v1 hv hn
   by_cases e:v=s
   ·subst e
    rw [hD.src]
    exact⟨0,.nil (by unfold tz; rw [if_pos (by omega)])⟩
   ·obtain⟨q,q0,q1,q2,q3,q4⟩:=hD.pre v v0 v1 e hv
    have hl':=(zze h v0 v1).1 q2
    obtain⟨hsy,hwt⟩:=(grN h).sym v q v0 v1 q2
    have hl:=(zze h q0 q1).1 hsy
    have hw1:=((grN h).wt v q v0 v1 q2).1
    obtain⟨m,hm⟩:=ih (gt t q).toNat (by omega) q q0 q1 q3 rfl
    have:=BF.Wk.step (b:=(q.toNat,v.toNat,wtN x q v)) hm (ypa h hl)
    rw [q4]
    exact⟨_,this⟩
 intro v c hc
 unfold tf at hc
 split at hc
 ·rename_i hv
  cases hc
  obtain⟨m,hm⟩:=key _ (v:Int) (by omega) (by rw [<- hD.lt]; omega) hv.2 rfl
  rw [Int.toNat_natCast] at hm
  exact⟨m,hm⟩
 ·cases hc
theorem ycv {x:ze} (h:zbu x) {s:Int} (hs:0<=s) (hs':s <(x.places.length:Int)) {t u:List Int} (hD:DF x.places.length (z4y x) (wtN x) s t) (hT:TF x s u) {b:Int} (hb:0<=b) (hb':b <(x.places.length:Int)):gt t b=gt u b:=by
 obtain⟨k,hk⟩:=hT.rnd
 have st1:∀ v c,tz s v=some c->BF.le (tf t v) c:=fun v c hc=>by
  unfold tz at hc
  split at hc
  ·rename_i e
   cases hc
   refine⟨0,?_,Int.le_refl _⟩
   have:=y8y (t:=t) hs (by rw [hD.lt]; exact hs')
   rw [hD.src,if_pos (Int.le_refl _)] at this
   rw [show v=s.toNat by omega]; exact this
  ·cases hc
 have st2:∀ v c,tz s v=some c->BF.le (tf u v) c:=fun v c hc=>by
  rw [hk]; exact BF.rnds_mono _ ⟨c,hc,Int.le_refl _⟩ k
 have e:=BF.Fix.uniq (yqv h hD) hT.fix (yqs h hs hs' hD) (by rw [hk]; exact BF.Inv.rnds k) st1 st2
 have e1:=y8y (t:=t) hb (by rw [hD.lt]; exact hb')
 have e2:=y8y (t:=u) hb (by rw [hT.len]; exact hb')
 rw [e,e2] at e1
 have l1:=hD.bd b hb hb'
 have l2:=hT.lo b hb hb'
 by_cases q1:0<=gt u b
 ·by_cases q2:0<=gt t b
  ·rw [if_pos q1,if_pos q2] at e1; exact(Option.some.inj e1).symm
  ·rw [if_pos q1,if_neg q2] at e1; cases e1
 ·by_cases q2:0<=gt t b
  ·rw [if_neg q1,if_pos q2] at e1; cases e1
  ·omega
theorem zqd (φ:Nat) (hφ:800000<φ) {x:ze} (hn:z7k x=0) {a b:Int} (ha:0<=a/\a <(x.places.length:Int)) (hb:0<=b/\b <(x.places.length:Int)) :
  ∃ t,DF x.places.length (z4y x) (wtN x) a t/\zo φ x a b=some (if gt t b<0 then(0,80,()) else(gt t b,0,())):=by
 unfold zo
 rw [z47 _ (by omega),Option.bind_some]
 have hx:=yf7 hn
 have hP:=hx.places
 rw [if_neg (by simp [hn])]
 obtain⟨m,rfl⟩:∃ m,φ=m+3:=⟨φ-3,by omega⟩
 have g0:gt [a,b] 0=a:=rfl
 have g1:gt [a,b] 1=b:=rfl
 have L :((([a,b]:List Int).length:Nat):Int)=2:=rfl
 rw [L,show m+3 =(m+2)+1 from rfl,z07,if_pos (by decide),z7 (by rw [L]; decide),g0]
 rw [if_neg (by simp; omega),show W (0+1)=1 by rfl,show m+2 =(m+1)+1 from rfl,z07,if_pos (by decide),z7 (by rw [L]; decide),g1]
 rw [if_neg (by simp; omega),show W (1+1)=2 by rfl,z07,if_neg (by decide),z7 (mk_t _ _ (by omega) (by omega) (by omega))]
 have hbuild:=zbs (m+3) x a b hx (by omega)
 obtain⟨t,h1,h2⟩:=zbp (m+3) x a b hx (by omega) ha.1 ha.2
 refine⟨t,h1,?_⟩
 refine hbuild.trans ?_
 rw [z7 (mk_t _ _ (by omega) (by omega) (by omega)),z7 (mk_t _ _ (by omega) (by simp; omega) (by omega)),h2,z7 ⟨hb.1,by rw [h1.lt]; exact hb.2⟩]
 by_cases h3:gt t b<0
 ·rw [if_pos (by simpa using h3),if_pos h3]
 ·rw [if_neg (by simpa using h3),if_neg h3]
  try rfl
theorem zkk (φ:Nat) (hφ:800000<φ) (x:ze) (a b:Int):z4d φ x a b=zo φ x a b:=by
 by_cases hn:z7k x=0
 case neg=>
  unfold z4d zaw zo
  rw [zaz φ (by omega),z47 _ (by omega),Option.bind_some,Option.bind_some,if_pos (by simpa using hn),Option.bind_some,if_pos (by simpa using hn),if_pos (by simpa using hn),if_pos (by simpa using hn)]
 have hx:=yf7 hn
 have hP:=hx.places
 by_cases ha:0<=a/\a <(x.places.length:Int)
 case neg=>
  have e1:zo φ x a b=some (0,1,()):=by
   unfold zo
   rw [z47 _ (by omega),Option.bind_some,if_neg (by simp [hn])]
   obtain⟨m,rfl⟩:∃ m,φ=m+3:=⟨φ-3,by omega⟩
   rw [show m+3 =(m+2)+1 from rfl,z07,if_pos (by simp),z7 ⟨by omega,by simp⟩,show gt [a,b] 0=a from rfl,if_pos (by simp; omega)]
  rw [e1]
  unfold z4d zaw z8i
  rw [zaz φ (by omega),Option.bind_some,if_neg (by simp [hn]),z5t,W_id (by omega) (by omega),Option.bind_some,Option.bind_some,if_pos (by
   simp only [Bool.not_eq_true']
   rw [<- Bool.not_eq_true,zgy]; omega),Option.bind_some,if_pos (by simp)]
 obtain⟨u,hu,hT⟩:=yjd φ (by omega) hn ha.1 ha.2
 unfold z4d z8i
 rw [hu,Option.bind_some,if_neg (by simp),z5t,W_id (by omega) (by omega),Option.bind_some,Option.bind_some]
 by_cases hb:0<=b/\b <(x.places.length:Int)
 case neg=>
  have e1:zo φ x a b=some (0,1,()):=by
   unfold zo
   rw [z47 _ (by omega),Option.bind_some,if_neg (by simp [hn])]
   obtain⟨m,rfl⟩:∃ m,φ=m+3:=⟨φ-3,by omega⟩
   rw [show m+3 =(m+2)+1 from rfl,z07,if_pos (by simp),z7 ⟨by omega,by simp⟩,show gt [a,b] 0=a from rfl,if_neg (by simp; omega),show W (0+1)=1 by rfl,show m+2 =(m+1)+1 from rfl,z07,if_pos (by simp),z7 ⟨by omega,by simp⟩,show gt [a,b] 1=b from rfl,if_pos (by simp; omega)]
  rw [e1,if_pos (by
   simp only [Bool.not_eq_true']
   rw [<- Bool.not_eq_true,zgy]; omega)]
 obtain⟨t,hD,e1⟩:=zqd φ hφ hn ha hb
 have e2:=ycv hx ha.1 ha.2 hD hT hb.1 hb.2
 rw [e1,if_neg (by simp; exact zgy.2 ⟨hb.1,by omega⟩),z7 ⟨hb.1,by rw [hT.len]; exact hb.2⟩,<- e2]
 by_cases q:gt t b<0
 ·rw [if_pos (by simpa using q),if_pos q]
 ·rw [if_neg (by simpa using q),if_neg q,z7 ⟨hb.1,by rw [hT.len]; exact hb.2⟩]
end Px
end
section
namespace Px
open Go
theorem yq9 {P:Nat} {near:List (List Int)} {wt:Int->Int->Int} (hG:Gr P near wt) {s:Int} {t:List Int} (hT:DF P near wt s t) {c:Int} (c0:0<=c) (c1:c <(P:Int)) (hne:c≠s) (hc:0<=gt t c):1<=gt t c:=by
 obtain⟨q,q0,q1,q2,q3,q4⟩:=hT.pre c c0 c1 hne hc
 obtain⟨s1,s2⟩:=hG.sym c q c0 c1 q2
 have w:=(hG.wt q c q0 q1 s1).1
 omega
def Dst (φ:Nat) (x:ze) (a b:Int):Option Int:=match zo φ x a b with
 | some (t,e,_)=>if e=0 then some t else none
 | none=>none
def okPl (x:ze) (a:Int):Prop:=0<=a/\a <(x.places.length:Int)
section
variable {φ:Nat} (hφ:800000<φ) {x:ze} (hn:z7k x=0)
include hφ hn
theorem ym2 {a b:Int} (ha:okPl x a) (hb:okPl x b):∃ t,DF x.places.length (z4y x) (wtN x) a t/\Dst φ x a b=if gt t b<0 then none else some (gt t b):=by
 obtain⟨t,h1,h2⟩:=zqd φ hφ hn ha hb
 refine⟨t,h1,?_⟩
 unfold Dst
 rw [h2]
 by_cases q:gt t b<0
 ·rw [if_pos q,if_pos q]; rfl
 ·rw [if_neg q,if_neg q]; rfl
theorem zue {a b t:Int} (ha:okPl x a) (hb:okPl x b) (h:Dst φ x a b=some t):0<=t/\t<=51200000:=by
 obtain⟨u,h1,h2⟩:=ym2 hφ hn ha hb
 rw [h2] at h
 split at h
 ·cases h
 ·cases h
  rcases h1.bd b hb.1 hb.2 with q | q <;> omega
theorem yn7 {a b t:Int} (ha:okPl x a) (hb:okPl x b) (hne:a≠b) (h:Dst φ x a b=some t):1<=t:=by
 obtain⟨u,h1,h2⟩:=ym2 hφ hn ha hb
 rw [h2] at h
 split at h
 ·cases h
 ·cases h
  exact yq9 (grN (yf7 hn)) h1 hb.1 hb.2 (fun e=>hne e.symm) (by omega)
theorem zai {a b:Int} (ha:okPl x a) (hb:okPl x b):zo φ x a b=some (match Dst φ x a b with | some t=>(t,0,()) | none=>(0,80,())):=by
 obtain⟨t,h1,h2⟩:=zqd φ hφ hn ha hb
 unfold Dst
 rw [h2]
 by_cases q:gt t b<0
 ·rw [if_pos q]; rfl
 ·rw [if_neg q]; rfl
end
end Px
end
section
namespace Px
open Go
theorem zvm (φ:Nat):∀(n m N:Nat),m<=N->N<n+m->1<=m\/N=0->N<=5000->z5u φ n (m:Int) (List.replicate m (-1)++List.replicate (N-m) (default:Int))=some (List.replicate N (-1),())
 | 0,m,N,h1,h2,_,_=>by omega
 | n+1,m,N,h1,h2,h3,h4=>by
  have hlen :(List.replicate m (-1:Int)++List.replicate (N-m) (default:Int)).length=N:=by simp; omega
  rw [z5u,hlen]
  by_cases h:m<N
  ·rw [if_pos (by simp; omega),z7 ⟨by omega,by omega,by omega⟩,z7 ⟨by omega,by omega,by omega⟩]
   have e1:z2k (List.replicate m (-1:Int)++List.replicate (N-m) (default:Int)) ((0:Int).toNat) ((m:Int).toNat)=List.replicate m (-1):=by
    simp [z2k,List.take_append]
   rw [e1,List.length_replicate]
   have e2 :((N:Int).toNat -(m:Int).toNat)=N-m:=by omega
   have e3:W ((m:Int) +((min m (N-m):Nat):Int)) =((m+min m (N-m):Nat):Int):=by rw [W_id (by omega) (by omega)]; omega
   rw [e2,e3]
   have e4:cpy (List.replicate m (-1:Int)++List.replicate (N-m) (default:Int)) ((m:Int).toNat) (N-m) (List.replicate m (-1))=List.replicate (m+min m (N-m)) (-1)++List.replicate (N -(m+min m (N-m))) (default:Int):=by
    unfold cpy
    rw [Int.toNat_natCast,List.length_replicate,List.take_append_of_le_length (by simp),List.take_of_length_le (by simp),List.take_replicate,List.drop_append,List.drop_of_length_le (by simp),List.drop_replicate,List.length_replicate,List.nil_append]
    rw [show min (min m (N-m)) m=min m (N-m) by omega,List.replicate_append_replicate]
    congr 2
    omega
   rw [e4]
   exact zvm φ n (m+min m (N-m)) N (by omega) (by omega) (by omega) h4
  ·rw [if_neg (by simp; omega)]
   have:m=N:=by omega
   subst this
   simp
theorem yht (φ:Nat) (n:Nat) (hn:n<=5000) (hφ:5001<φ):z5m φ [-1] (n:Int)=some (List.replicate n (-1),()):=by
 unfold z5m zzf
 rw [if_neg (by simp),show (([-1]:List Int).length:Int)=1 from rfl,U_id (x:=1) (by omega) (by omega),U_id (x:=(n:Int)) (by omega) (by omega),y9m φ 1 n (by omega) (by omega) (by omega) (by omega)]
 simp only [Option.bind_some,Int.one_mul]
 have e1 :(n:Int) / 18446744073709551616=0:=by omega
 have e2 :(n:Int) % 18446744073709551616=n:=by omega
 rw [e1,e2,if_neg (by simp; omega),W_id (by omega) (by omega),z7 (mk_t _ _ (by omega) (by omega) (by omega))]
 rw [Int.toNat_natCast]
 have e3:cpy (List.replicate n (default:Int)) 0 ((List.replicate n (default:Int)).length-0) [-1]=List.replicate (min 1 n) (-1)++List.replicate (n-min 1 n) (default:Int):=by
  cases n with
  | zero=>rfl
  | succ n=>simp [cpy,show min 1 (n+1)=1 by omega]
 rw [e3,List.length_replicate]
 exact zvm φ φ (min 1 n) n (by omega) (by omega) (by omega) hn
structure LS where
 x:List Int
 y:List Int
 z:Int
def stp (b:z8) (i:Int) (s:LS):LS:=if gt s.x b.i+b.w<gt s.x b.j then⟨zw s.x b.j (gt s.x b.i+b.w),zw s.y b.j i,i⟩ else s
def rndL (L:List z8):Nat->LS->LS
 | 0,s=>s
 | m+1,s=>stp (gt L (m:Int)) m (rndL L m s)
def lowR (L:List z8):Nat->LS->LS
 | 0,s=>s
 | k+1,s=>if(rndL L L.length ⟨s.x,s.y,-1⟩).z<0 then rndL L L.length ⟨s.x,s.y,-1⟩ else lowR L k (rndL L L.length ⟨s.x,s.y,-1⟩)
def low (n:Nat) (L:List z8):LS:=lowR L n ⟨List.replicate n 0,List.replicate n (-1),-1⟩
def okBd (n:Nat) (b:z8):Prop:=0<=b.i/\b.i <(n:Int)/\0<=b.j/\b.j <(n:Int)/\-1099511627776<=b.w/\b.w<=1099511627776
structure LB (n c:Nat) (s:LS):Prop where
 lx:s.x.length=n
 ly:s.y.length=n
 bd:∀ i:Int,0<=i->i <(n:Int)->-(1099511627776 *(c:Int))<=gt s.x i/\gt s.x i<=0
theorem LB.up {n c d:Nat} {s:LS} (h:LB n c s) (hd:c<=d):LB n d s:=⟨h.lx,h.ly,fun i h0 h1=>by have:=h.bd i h0 h1; omega⟩
theorem LB.stp {n c:Nat} {s:LS} (h:LB n c s) {b:z8} (hb:okBd n b) (i:Int):LB n (c+1) (stp b i s):=by
 unfold Px.stp
 obtain⟨a1,a2,a3,a4,a5,a6⟩:=hb
 have hx:=h.lx
 have hy:=h.ly
 split
 ·rename_i hlt
  refine⟨by rw [z05]; exact hx,by rw [z05]; exact hy,fun k h0 h1=>?_⟩
  have q1:=h.bd b.i a1 a2
  have q2:=h.bd k h0 h1
  have q3:=h.bd b.j a3 a4
  rw [zy _ _ _ _ a3 (by rw [hx]; exact a4) h0]
  split <;> omega
 ·exact h.up (by omega)
theorem LB.rnd {n c:Nat} {s:LS} (h:LB n c s) {L:List z8} (hL:∀ b∈L,okBd n b):∀ m,m<=L.length->LB n (c+m) (rndL L m s)
 | 0,_=>h
 | m+1,hm=>(LB.rnd h hL m (by omega)).stp (hL _ (z0p (by omega) (by omega))) m
theorem yis (φ:Nat) (k:List z8->Int->Int->Int->List Int->List Int->Option (List Int×List Int×Int×Unit)) (L:List z8) (n:Nat) (r:Int) (c:Nat) (s:LS) (hs:LB n c s) (hL:∀ b∈L,okBd n b) (hl:L.length<=5000) (hc:c+L.length<=2100000) (hφ:5001<φ) :
  z2m φ k φ L s.z n r L (L.length:Int) 0 s.x s.y=if(rndL L L.length s).z<0 then some ((rndL L L.length s).x,(rndL L L.length s).y,(rndL L L.length s).z,()) else k L (rndL L L.length s).z n (W (r+1)) (rndL L L.length s).x (rndL L L.length s).y:=by
 refine zr (fun f i (t:LS)=>z2m φ k f L t.z n r L (L.length:Int) i t.x t.y) L.length (fun i t=>t=rndL L i s) (fun o=>o=_) ?_ ?_ φ s rfl (by omega)
 ·intro f i t hi ht hk
  have hB:=hs.rnd hL i (by omega)
  rw [<- ht] at hB
  obtain⟨a1,a2,a3,a4,a5,a6⟩:=hL _ (z0p (l:=L) (i:=(i:Int)) (by omega) (by omega))
  have q1:=hB.bd _ a1 a2
  have q2:=hB.bd _ a3 a4
  have hx:=hB.lx
  have hy:=hB.ly
  have hk':=hk (stp (gt L (i:Int)) i t) (by rw [ht]; rfl)
  rw [z2m,if_pos (by simp; omega),z7 ⟨by omega,by omega⟩,z7 ⟨a1,by rw [hx]; exact a2⟩,z7 ⟨a3,by rw [hx]; exact a4⟩,W_id (x:=gt t.x (gt L (i:Int)).i +(gt L (i:Int)).w) (by omega) (by omega)]
  unfold stp at hk'
  by_cases h:gt t.x (gt L (i:Int)).i +(gt L (i:Int)).w<gt t.x (gt L (i:Int)).j
  ·rw [if_pos h] at hk'
   rw [if_pos (by simpa using h),z6q,z7 ⟨a3,by rw [hx]; exact a4⟩,z7 ⟨a3,by rw [hy]; exact a4⟩,W_id (x:=(i:Int)+1) (by omega) (by omega)]
   exact hk'
  ·rw [if_neg h] at hk'
   rw [if_neg (by simpa using h),W_id (x:=(i:Int)+1) (by omega) (by omega)]
   exact hk'
 ·intro f t ht
  subst ht
  rw [z2m,if_neg (by simp)]
  by_cases h :(rndL L L.length s).z<0
  ·rw [if_pos (by simpa using h),if_pos h]; rfl
  ·rw [if_neg (by simpa using h),if_neg h]
theorem y1v (φ:Nat) (L:List z8) (n:Nat) (hn:n<=512) (hL:∀ b∈L,okBd n b) (hl:L.length<=4096) (hφ:5001<φ) :
  ∀(f k:Nat) (s:LS),LB n (k*L.length) s->k<=n->n<f+k->z59 φ f L s.z n (k:Int) s.x s.y=some ((lowR L (n-k) s).x,(lowR L (n-k) s).y,(lowR L (n-k) s).z,())
 | 0,k,s,_,h1,h2=>by omega
 | f+1,k,s,hs,h1,h2=>by
  rw [z59]
  by_cases h:k<n
  ·have hs1:LB n (k*L.length) ⟨s.x,s.y,-1⟩:=⟨hs.lx,hs.ly,hs.bd⟩
   have hb:=Nat.mul_le_mul (show k+1<=512 by omega) hl
   rw [Nat.add_mul,Nat.one_mul] at hb
   rw [if_pos (by simp; omega)]
   have:=yis φ (z59 φ f) L n (k:Int) _ ⟨s.x,s.y,-1⟩ hs1 hL (by omega) (by omega) hφ
   refine this.trans ?_
   rw [show n-k =(n -(k+1))+1 by omega,lowR,W_id (x:=(k:Int)+1) (by omega) (by omega)]
   have hs2:=hs1.rnd hL L.length (Nat.le_refl _)
   split
   ·rfl
   ·exact y1v φ L n hn hL hl hφ f (k+1) _ (hs2.up (by rw [Nat.add_mul,Nat.one_mul]; omega)) (by omega) (by omega)
  ·rw [if_neg (by simp; omega),show n-k=0 by omega]; rfl
theorem lb0 (n:Nat):LB n 0 ⟨List.replicate n 0,List.replicate n (-1),-1⟩:=⟨by simp,by simp,fun i h0 h1=>by rw [show gt (LS.x ⟨List.replicate n 0,List.replicate n (-1),-1⟩) i=0 from z17 n 0 i h0 h1]; omega⟩
theorem y5i (φ:Nat) (hφ:5001<φ) (L:List z8) (n:Nat) (hn:n<=512) (hL:∀ b∈L,okBd n b) (hl:L.length<=4096):zf8 φ (n:Int) L=some ((low n L).x,(low n L).y,(low n L).z,()):=by
 unfold zf8 z6s z60
 rw [z7 (mk_t _ _ (by omega) (by omega) (by omega)),yht φ n (by omega) hφ,Option.bind_some,Int.toNat_natCast]
 have:=y1v φ L n hn hL hl hφ φ 0 ⟨List.replicate n 0,List.replicate n (-1),-1⟩ ((lb0 n).up (by omega)) (by omega) (by omega)
 exact this
def znt (n:Int) (b:z8):Bool:=(((decide ((min2 b.i b.j)<0)||decide (n<=max2 b.i b.j))||decide (b.w <(-1099511627776)))||decide (1099511627776<b.w))
def chkD (n:Int) (L:List z8):Int:=if n<1 then 1 else if 512<n\/4096<L.length then 2 else bif L.any (znt n) then 1 else 0
theorem y2i {n:Nat} {b:z8} : znt n b=false↔okBd n b:=by
 unfold znt okBd
 simp only [Bool.or_eq_false_iff,decide_eq_false_iff_not,zza,yoj]
 have:¬((n:Int)<=max2 b.i b.j)↔b.i<n/\b.j<n:=by unfold max2; split <;> omega
 rw [this]
 omega
theorem zow (φ:Nat) (hφ:5001<φ) (n:Int) (L:List z8):zhg φ n L=some (chkD n L,()):=by
 unfold zhg chkD
 by_cases h1:n<1
 ·rw [if_pos (by simpa using h1),if_pos h1]
 ·rw [if_neg (by simpa using h1),if_neg h1]
  by_cases h2:512<n\/4096<L.length
  ·rw [if_pos (by simp; omega),if_pos h2]
  ·rw [if_neg (by simp; omega),if_neg h2]
   have:=z52 (fun f i=>z71 φ f n L (L.length:Int) i) (some (0,())) (some (1,())) L (znt n) (fun f i hi=>by
     rw [z71,if_pos (by simp; omega),z7 ⟨by omega,by omega⟩,W_id (by omega) (by omega)]
     show (if znt n (gt L (i:Int))=true then _ else _)=_
     cases znt n (gt L (i:Int)) <;> rfl) (fun f=>by
     rw [z71,if_neg (by simp)]) φ (by omega)
   rw [this]; cases L.any (znt n) <;> rfl
theorem ygw {n:Int} {L:List z8} (h:chkD n L=0):∃ m:Nat,n=m/\1<=m/\m<=512/\L.length<=4096/\∀ b∈L,okBd m b:=by
 unfold chkD at h
 split at h
 ·cases h
 ·split at h
  ·cases h
  ·refine⟨n.toNat,by omega,by omega,by omega,by omega,fun b hb=>?_⟩
   cases ha:L.any (znt n) with
   | true=>rw [ha] at h; cases h
   | false=>
    rw [<- y2i,show ((n.toNat:Nat):Int)=n by omega]
    cases hbb:znt n b with
    | false=>rfl
    | true=>rw [List.any_eq_false] at ha; exact absurd hbb (ha b hb)
theorem yeb {n:Nat} {L:List z8} (h1:1<=n) (h2:n<=512) (h3:L.length<=4096) (h4:∀ b∈L,okBd n b):chkD n L=0:=by
 unfold chkD
 rw [if_neg (by omega),if_neg (by omega)]
 have:L.any (znt n)=false:=by
  rw [List.any_eq_false]
  intro b hb h
  rw [y2i.2 (h4 b hb)] at h; cases h
 rw [this]; rfl
theorem y9i (φ:Nat) (hφ:5001<φ) (n:Int) (L:List z8):zar φ n L=some (if chkD n L≠0 then([],chkD n L,()) else if 0<=(low n.toNat L).z then([],230,()) else((low n.toNat L).x,0,())):=by
 unfold zar
 rw [zow φ hφ,Option.bind_some]
 by_cases h:chkD n L=0
 ·rw [if_neg (by simpa using h),if_neg (by simpa using h)]
  obtain⟨m,rfl,h1,h2,h3,h4⟩:=ygw h
  rw [y5i φ hφ L m h2 h4 h3,Option.bind_some,Int.toNat_natCast]
  by_cases hz:0<=(low m L).z
  ·rw [if_pos (by simpa using hz),if_pos hz]
  ·rw [if_neg (by simpa using hz),if_neg hz]
 ·rw [if_pos (by simpa using h),if_pos (by simpa using h)]
end Px
end
section
namespace Px
open Go
def bI (b:z8):Nat:=b.i.toNat
def bJ (b:z8):Nat:=b.j.toNat
def bW (b:z8):Int:=b.w
def xf (x:List Int):BF.X:=fun v=>if v<x.length then some (gt x (v:Int)) else none
theorem ykv {x:List Int} {i:Int} (h0:0<=i) (h:i <(x.length:Int)):xf x i.toNat=some (gt x i):=by
 unfold xf
 rw [if_pos (by omega),show ((i.toNat:Nat):Int)=i by omega]
theorem yfy {n:Nat} {s:LS} (hx:s.x.length=n) {b:z8} (hb:okBd n b) (i:Int) :
  xf (stp b i s).x=BF.rlx bI bJ bW (xf s.x) b/\(BF.imp bI bJ bW (xf s.x) b=true->(stp b i s).z=i)/\(BF.imp bI bJ bW (xf s.x) b=false->stp b i s=s):=by
 obtain⟨a1,a2,a3,a4,_,_⟩:=hb
 have e1:xf s.x (bI b)=some (gt s.x b.i):=ykv a1 (by rw [hx]; exact a2)
 have e2:xf s.x (bJ b)=some (gt s.x b.j):=ykv a3 (by rw [hx]; exact a4)
 have ei:BF.imp bI bJ bW (xf s.x) b=decide (gt s.x b.i+b.w<gt s.x b.j):=by
  unfold BF.imp; rw [e1,e2]; rfl
 have er:BF.rlx bI bJ bW (xf s.x) b=if gt s.x b.i+b.w<gt s.x b.j then fun v=>if v=bJ b then some (gt s.x b.i+b.w) else xf s.x v else xf s.x:=by
  unfold BF.rlx; rw [e1,e2]; simp only [BF.ltO,bW]
  by_cases h:gt s.x b.i+b.w<gt s.x b.j <;> simp [h]
 rw [ei,er]
 unfold stp
 by_cases h:gt s.x b.i+b.w<gt s.x b.j
 ·rw [if_pos h,if_pos h]
  refine⟨?_,fun _=>rfl,fun q=>by simp [h] at q⟩
  funext v
  unfold xf
  rw [z05]
  simp only
  by_cases hv:v<s.x.length
  ·rw [if_pos hv,if_pos hv,zy _ _ _ _ a3 (by rw [hx]; exact a4) (by omega)]
   by_cases e:v=bJ b
   ·rw [if_pos e,if_pos (by unfold bJ at e; omega)]
   ·rw [if_neg e,if_neg (by unfold bJ at e; omega)]
  ·rw [if_neg hv,if_neg hv,if_neg (fun e=>hv (by rw [hx,e]; unfold bJ; omega))]
 ·rw [if_neg h,if_neg h]
  exact⟨rfl,fun q=>by simp [h] at q,fun _=>rfl⟩
theorem zmi {n:Nat} {s:LS} (hs:s.x.length=n) {L:List z8} : ∀ m,(rndL L m s).x.length=n
 | 0=>hs
 | m+1=>by
  have:=zmi hs (L:=L) m
  unfold rndL stp
  split
  ·simp only [z05]; exact this
  ·exact this
theorem ygb {n:Nat} {s:LS} (hs:s.x.length=n) {L:List z8} (hL:∀ b∈L,okBd n b):∀ m,m<=L.length->xf (rndL L m s).x =(L.take m).foldl (BF.rlx bI bJ bW) (xf s.x)
 | 0,_=>rfl
 | m+1,hm=>by
  have ih:=ygb hs hL m (by omega)
  rw [z0b L m (by omega),List.foldl_append,<- ih]
  exact(yfy (zmi hs m) (hL _ (z0p (by omega) (by omega))) m).1
theorem ylz {n:Nat} {s:LS} (hs:s.x.length=n) {L:List z8} (hL:∀ b∈L,okBd n b) (hz:s.z=-1):∀ m,m<=L.length->
  ((rndL L m s).z<0->rndL L m s=s/\∀ k:Nat,k<m->BF.imp bI bJ bW (xf s.x) (gt L (k:Int))=false)/\-1<=(rndL L m s).z/\(rndL L m s).z<m
 | 0,_=>⟨fun _=>⟨rfl,fun k hk=>by omega⟩,by rw [show (rndL L 0 s).z=s.z from rfl]; omega,by rw [show (rndL L 0 s).z=s.z from rfl]; omega⟩
 | m+1,hm=>by
  obtain⟨h1,h2,h3⟩:=ylz hs hL hz m (by omega)
  obtain⟨q1,q2,q3⟩:=yfy (zmi hs m) (hL _ (z0p (l:=L) (i:=(m:Int)) (by omega) (by omega))) m
  change _/\-1<=(stp (gt L (m:Int)) m (rndL L m s)).z/\(stp (gt L (m:Int)) m (rndL L m s)).z<_
  cases hi:BF.imp bI bJ bW (xf (rndL L m s).x) (gt L (m:Int)) with
  | true=>
   have:=q2 hi
   refine⟨fun h=>?_,by omega,by omega⟩
   change (stp (gt L (m:Int)) m (rndL L m s)).z<0 at h
   omega
  | false=>
   have e:=q3 hi
   rw [e]
   refine⟨fun h=>?_,h2,by omega⟩
   change (stp (gt L (m:Int)) m (rndL L m s)).z<0 at h
   rw [e] at h
   obtain⟨e2,h4⟩:=h1 h
   refine⟨by change stp (gt L (m:Int)) m (rndL L m s)=s; rw [e,e2],fun k hk=>?_⟩
   by_cases hkm:k=m
   ·subst hkm; rw [e2] at hi; exact hi
   ·exact h4 k (by omega)
theorem y1t {n:Nat} {s:LS} (hs:s.x.length=n) {L:List z8} (hL:∀ b∈L,okBd n b) (hz:s.z=-1) (hf:∀ b∈L,BF.imp bI bJ bW (xf s.x) b=false):∀ m,m<=L.length->rndL L m s=s
 | 0,_=>rfl
 | m+1,hm=>by
  have ih:=y1t hs hL hz hf m (by omega)
  have hb:=z0p (l:=L) (i:=(m:Int)) (by omega) (by omega)
  change stp (gt L (m:Int)) m (rndL L m s)=s
  rw [ih]
  exact(yfy hs (hL _ hb) m).2.2 (hf _ hb)
def xz (n:Nat):BF.X:=fun v=>if v<n then some 0 else none
theorem yr2 (n:Nat):xf (List.replicate n 0)=xz n:=by
 funext v
 unfold xf xz
 rw [List.length_replicate]
 split
 ·rw [z17 _ _ _ (by omega) (by omega)]
 ·rfl
theorem yd3 {n:Nat} {L:List z8} (hL:∀ b∈L,okBd n b):∀(f k:Nat) (s:LS),s.x.length=n->xf s.x=BF.rnds bI bJ bW L (xz n) k->(lowR L f s).x.length=n/\
  (((lowR L f s).z<0->f≠0\/s.z<0)->((lowR L f s).z<0->f≠0)->((lowR L f s).z<0->BF.Fix bI bJ bW L (xf (lowR L f s).x)/\∃ k',xf (lowR L f s).x=BF.rnds bI bJ bW L (xz n) k'))/\
  (0<=(lowR L f s).z->f≠0->¬ BF.Feas bI bJ bW (xz n) L n\/k+f<n)/\(f≠0->-1<=(lowR L f s).z/\(lowR L f s).z<L.length)
 | 0,k,s,hs,hx=>⟨hs,fun _ h2 h=>absurd rfl (h2 h),fun _ h=>absurd rfl h,fun h=>absurd rfl h⟩
 | f+1,k,s,hs,hx=>by
  have hs1 :(LS.mk s.x s.y (-1)).x.length=n:=hs
  obtain⟨h1,h2,h3⟩:=ylz hs1 hL rfl L.length (Nat.le_refl _)
  have hr:=ygb hs1 hL L.length (Nat.le_refl _)
  rw [List.take_length] at hr
  have hr2:xf (rndL L L.length ⟨s.x,s.y,-1⟩).x=BF.rnds bI bJ bW L (xz n) (k+1):=by
   rw [hr,show xf (LS.mk s.x s.y (-1)).x=_ from hx]; rfl
  have hq:¬(rndL L L.length ⟨s.x,s.y,-1⟩).z<0->n<=k+1->¬ BF.Feas bI bJ bW (xz n) L n:=fun hz hk F=>by
   have:=y1t hs1 hL rfl (fun b hb=>by
    have:=BF.done F hk b hb
    rw [<- hx] at this; exact this) L.length (Nat.le_refl _)
   rw [this] at hz
   exact hz (by show (-1:Int)<0; omega)
  unfold lowR
  split
  ·rename_i hz
   obtain⟨e1,e2⟩:=h1 hz
   refine⟨zmi hs1 _,fun _ _ _=>⟨fun b hb=>?_,k+1,hr2⟩,fun h=>by omega,fun _=>⟨h2,h3⟩⟩
   rw [e1]
   obtain⟨i,hi,rfl⟩:=zon hb
   exact e2 i hi
  ·rename_i hz
   by_cases hf:f=0
   ·subst hf
    refine⟨zmi hs1 _,fun _ _ h=>absurd h hz,fun _ _=>?_,fun _=>⟨h2,h3⟩⟩
    by_cases hk:n<=k+1
    ·exact .inl (hq hz hk)
    ·exact .inr (by omega)
   ·obtain⟨i1,i2,i3,i4⟩:=yd3 hL f (k+1) _ (zmi hs1 L.length) hr2
    refine⟨i1,fun _ _ h=>i2 (fun _=>.inl hf) (fun _=>hf) h,fun h _=>?_,fun _=>i4 hf⟩
    rcases i3 h hf with h | h
    ·exact .inl h
    ·exact .inr (by omega)
structure ys1 (n:Nat) (L:List z8):Prop where
 len :(low n L).x.length=n
 fix :(low n L).z<0->BF.Fix bI bJ bW L (xf (low n L).x)
 rnd :(low n L).z<0->∃ k,xf (low n L).x=BF.rnds bI bJ bW L (xz n) k
 cyc:0<=(low n L).z->¬ BF.Feas bI bJ bW (xz n) L n
 lo : -1<=(low n L).z
 hi :(low n L).z<L.length
theorem ylc {n:Nat} {L:List z8} (h1:1<=n) (hL:∀ b∈L,okBd n b):ys1 n L:=by
 obtain⟨i1,i2,i3,i4⟩:=yd3 hL n 0 ⟨List.replicate n 0,List.replicate n (-1),-1⟩ (by simp) (yr2 n)
 have hn:n≠0:=by omega
 refine⟨i1,fun h=>(i2 (fun _=>.inl hn) (fun _=>hn) h).1,fun h=>(i2 (fun _=>.inl hn) (fun _=>hn) h).2,fun h=>?_,(i4 hn).1,(i4 hn).2⟩
 rcases i3 h hn with h | h
 ·exact h
 ·omega
theorem ymu {n:Nat} {L:List z8} (h1:1<=n) (hL:∀ b∈L,okBd n b) (hz :(low n L).z<0) {b:z8} (hb:b∈L):gt (low n L).x b.j-gt (low n L).x b.i<=b.w:=by
 have h:=ylc h1 hL
 obtain⟨a1,a2,a3,a4,_,_⟩:=hL b hb
 obtain⟨d,hd,hl⟩:=(h.fix hz).le hb (ykv a1 (by rw [h.len]; exact a2))
 have e:xf (low n L).x (bJ b)=some (gt (low n L).x b.j):=ykv a3 (by rw [h.len]; exact a4)
 rw [e] at hd
 cases hd
 unfold bW at hl
 omega
theorem ynj {n:Nat} {L:List z8} (hL:∀ b∈L,okBd n b) (p:Int->Int) (hp:∀ b∈L,p b.j-p b.i<=b.w):BF.Feas bI bJ bW (xz n) L n:=by
 refine⟨⟨fun v=>p (v:Int),((List.range n).map fun(v:Nat)=>p (v:Int)).foldl max 0,fun b hb=>?_,fun v c h=>?_⟩,fun b hb=>?_,fun v c h=>?_⟩
 ·obtain⟨a1,a2,a3,a4,_,_⟩:=hL b hb
  have:=hp b hb
  show p ((bJ b:Nat):Int)<=p ((bI b:Nat):Int)+bW b
  unfold bI bJ bW
  rw [show ((b.j.toNat:Nat):Int)=b.j by omega,show ((b.i.toNat:Nat):Int)=b.i by omega]
  omega
 ·unfold xz at h
  split at h
  ·rename_i hv
   cases h
   have key:∀(l:List Int) (m x:Int),(x∈l->x<=l.foldl max m)/\m<=l.foldl max m:=by
    intro l
    induction l with
    | nil=>intro m x; exact⟨fun h=>by simp at h,Int.le_refl _⟩
    | cons y l ih=>
     intro m x
     have h1:=ih (max m y) x
     have h2:=ih (max m y) y
     refine⟨fun h=>?_,?_⟩
     ·rcases List.mem_cons.1 h with rfl | h
      ·simp only [List.foldl_cons]; omega
      ·exact h1.1 h
     ·simp only [List.foldl_cons]; omega
   have:=(key ((List.range n).map fun(v:Nat)=>p (v:Int)) 0 (p (v:Int))).1 (List.mem_map.2 ⟨v,List.mem_range.2 hv,rfl⟩)
   show p (v:Int)-0<=_
   omega
  ·cases h
 ·obtain⟨a1,a2,a3,a4,_,_⟩:=hL b hb
  unfold bJ; omega
 ·unfold xz at h
  split at h
  ·assumption
  ·cases h
theorem yir {n:Nat} {L:List z8} (h1:1<=n) (hL:∀ b∈L,okBd n b) (p:Int->Int) (hp:∀ b∈L,p b.j-p b.i<=b.w) :(low n L).z<0:=by
 by_cases hz :(low n L).z<0
 ·exact hz
 ·exact absurd (ynj hL p hp) ((ylc h1 hL).cyc (by omega))
end Px
end
section
namespace Px
open Go
def bdI (r:Bool) (b:z8):Int:=if r=true then b.j else b.i
def bdJ (r:Bool) (b:z8):Int:=if r=true then b.i else b.j
def nI (r:Bool) (b:z8):Nat:=(bdI r b).toNat
def nJ (r:Bool) (b:z8):Nat:=(bdJ r b).toNat
def SolD (r:Bool) (L:List z8) (p:Int->Int):Prop:=∀ b∈L,p (bdJ r b)-p (bdI r b)<=b.w
theorem zpo {n:Nat} {b:z8} (h:okBd n b) (r:Bool):0<=bdI r b/\bdI r b <(n:Int)/\0<=bdJ r b/\bdJ r b <(n:Int)/\-1099511627776<=b.w/\b.w<=1099511627776:=by
 obtain⟨a1,a2,a3,a4,a5,a6⟩:=h
 cases r
 ·exact⟨a1,a2,a3,a4,a5,a6⟩
 ·exact⟨a3,a4,a1,a2,a5,a6⟩
theorem zo6 {r:Bool} {L:List z8} {p:Int->Int} (h:SolD r L p):SolD (!r) L fun v=>- p v:=fun b hb=>by
 have:=h b hb
 cases r
 ·simp only [bdI,bdJ,Bool.not_false,if_true,Bool.false_eq_true,if_false] at this ⊢; omega
 ·simp only [bdI,bdJ,Bool.not_true,if_true,Bool.false_eq_true,if_false] at this ⊢; omega
structure zn2 (r:Bool) (L:List z8) (n:Nat) (u:Int) (e:Int->Int):Prop where
 sat:SolD r L e
 top:∀ p,SolD r L p->∀ v,0<=v->v <(n:Int)->p v-p u<=e v
 zero:e u=0
theorem zn2.uniq {r:Bool} {L:List z8} {n:Nat} {u:Int} {e e':Int->Int} (h:zn2 r L n u e) (h':zn2 r L n u e') {v:Int} (h0:0<=v) (h1:v <(n:Int)):e v=e' v:=by
 have q1:=h.top e' h'.sat v h0 h1
 have q2:=h'.top e h.sat v h0 h1
 have q3:=h.zero
 have q4:=h'.zero
 omega
def xs1 (u:Nat):BF.X:=fun v=>if v=u then some 0 else none
theorem yl7 {r:Bool} {n:Nat} {L:List z8} (hL:∀ b∈L,okBd n b) {p:Int->Int} (hp:SolD r L p) {u:Nat} (hu:u<n):BF.Feas (nI r) (nJ r) bW (xs1 u) L n:=by
 refine⟨⟨fun v=>p (v:Int),p (u:Int),fun b hb=>?_,fun v c h=>?_⟩,fun b hb=>?_,fun v c h=>?_⟩
 ·obtain⟨a1,a2,a3,a4,_,_⟩:=zpo (hL b hb) r
  have:=hp b hb
  show p ((nJ r b:Nat):Int)<=p ((nI r b:Nat):Int)+bW b
  unfold nI nJ bW
  rw [show (((bdJ r b).toNat:Nat):Int)=bdJ r b by omega,show (((bdI r b).toNat:Nat):Int)=bdI r b by omega]
  omega
 ·unfold xs1 at h
  split at h
  ·rename_i e; cases h; subst e; show p (v:Int)-0<=p (v:Int); omega
  ·cases h
 ·obtain⟨a1,a2,a3,a4,_,_⟩:=zpo (hL b hb) r
  unfold nJ; omega
 ·unfold xs1 at h
  split at h
  ·rename_i e; subst e; exact hu
  ·cases h
theorem yd7 {r:Bool} {n:Nat} {L:List z8} (hL:∀ b∈L,okBd n b) {p:Int->Int} (hp:SolD r L p) {u:Nat} (hu:u<n) {x:BF.X} (hf:BF.Fix (nI r) (nJ r) bW L x) (hi:BF.Inv (nI r) (nJ r) bW (xs1 u) L x) (h0:BF.le (x u) 0)
  (hall:∀ v,v<n->(x v).isSome=true):zn2 r L n (u:Int) fun v=>(x v.toNat).getD 0:=by
 have low:∀ q,SolD r L q->∀ v a,x v=some a->q (v:Int)-q (u:Int)<=a:=by
  intro q hq v a hv
  obtain⟨m,hw⟩:=hi v a hv
  have:=BF.Wk.low (p:=fun v:Nat=>q (v:Int)) (C:=q (u:Int)) (fun b hb=>by
   obtain⟨a1,a2,a3,a4,_,_⟩:=zpo (hL b hb) r
   have:=hq b hb
   show q ((nJ r b:Nat):Int)<=q ((nI r b:Nat):Int)+bW b
   unfold nI nJ bW
   rw [show (((bdJ r b).toNat:Nat):Int)=bdJ r b by omega,show (((bdI r b).toNat:Nat):Int)=bdI r b by omega]
   omega) (fun v c h=>by
   unfold xs1 at h
   split at h
   ·rename_i e; cases h; subst e; show q (v:Int)-0<=q (v:Int); omega
   ·cases h) hw
  omega
 have at_:∀ v:Int,0<=v->v <(n:Int)->x v.toNat=some ((x v.toNat).getD 0):=fun v h1 h2=>by
  have:=hall v.toNat (by omega)
  cases hx:x v.toNat with
  | none=>rw [hx] at this; cases this
  | some a=>rfl
 refine⟨fun b hb=>?_,fun q hq v h1 h2=>?_,?_⟩
 ·obtain⟨a1,a2,a3,a4,_,_⟩:=zpo (hL b hb) r
  obtain⟨d,hd,hle⟩:=hf.le hb (at_ _ a1 a2)
  have e:=at_ _ a3 a4
  have hd':x (bdJ r b).toNat=some d:=hd
  rw [hd'] at e
  simp only [Option.some.injEq] at e
  rw [hd',Option.getD_some]
  unfold bW at hle
  omega
 ·have:=low q hq v.toNat _ (at_ v h1 h2)
  rw [show ((v.toNat:Nat):Int)=v by omega] at this
  exact this
 ·obtain⟨a,ha,hle⟩:=h0
  have:=low p hp u a ha
  simp only [Int.toNat_natCast,ha,Option.getD_some]
  omega
def Conn (L:List z8) (n:Nat):Prop:=∀ v:Int,1<=v->v <(n:Int)->(∃ b∈L,b.i=0/\b.j=v)/\∃ b∈L,b.i=v/\b.j=0
theorem Conn.d {L:List z8} {n:Nat} (h:Conn L n) (r:Bool):∀ v:Nat,1<=v->v<n->(∃ b∈L,nI r b=0/\nJ r b=v)/\∃ b∈L,nI r b=v/\nJ r b=0:=by
 intro v h1 h2
 obtain⟨⟨b,hb,b1,b2⟩,c,hc,c1,c2⟩:=h (v:Int) (by omega) (by omega)
 cases r
 ·exact⟨⟨b,hb,by unfold nI bdI; rw [if_neg (by simp),b1]; rfl,by unfold nJ bdJ; rw [if_neg (by simp),b2]; simp⟩,c,hc,by unfold nI bdI; rw [if_neg (by simp),c1]; simp,by unfold nJ bdJ; rw [if_neg (by simp),c2]; rfl⟩
 ·exact⟨⟨c,hc,by unfold nI bdI; rw [if_pos rfl,c2]; rfl,by unfold nJ bdJ; rw [if_pos rfl,c1]; simp⟩,b,hb,by unfold nI bdI; rw [if_pos rfl,b2]; simp,by unfold nJ bdJ; rw [if_pos rfl,b1]; rfl⟩
theorem yru {r:Bool} {n:Nat} {L:List z8} (hc:Conn L n) {u:Nat} (hu:u<n) {x:BF.X} (hf:BF.Fix (nI r) (nJ r) bW L x) (h0:BF.le (x u) 0):∀ v,v<n->(x v).isSome=true:=by
 have z0:∃ a,x 0=some a:=by
  by_cases h:u=0
  ·subst h; obtain⟨a,ha,_⟩:=h0; exact⟨a,ha⟩
  ·obtain⟨_,b,hb,b1,b2⟩:=hc.d r u (by omega) hu
   obtain⟨a,ha,_⟩:=h0
   obtain⟨d,hd,_⟩:=hf.le hb (by rw [b1]; exact ha)
   rw [b2] at hd
   exact⟨d,hd⟩
 intro v hv
 obtain⟨a,ha⟩:=z0
 by_cases h:v=0
 ·subst h; rw [ha]; rfl
 ·obtain⟨⟨b,hb,b1,b2⟩,_⟩:=hc.d r v (by omega) hv
  obtain⟨d,hd,_⟩:=hf.le hb (by rw [b1]; exact ha)
  rw [b2] at hd
  rw [hd]; rfl
theorem zqe {r:Bool} {n:Nat} {L:List z8} (hL:∀ b∈L,okBd n b) (hc:Conn L n) {p:Int->Int} (hp:SolD r L p) {u:Nat} (hu:u<n) {x:BF.X} (hf:BF.Fix (nI r) (nJ r) bW L x) {k:Nat} (hk:x=BF.rnds (nI r) (nJ r) bW L (xs1 u) k) :
  zn2 r L n (u:Int) (fun v=>(x v.toNat).getD 0)/\∀ v,v<n->(x v).isSome=true:=by
 have h0:BF.le (x u) 0:=by
  rw [hk]
  exact BF.rnds_mono L ⟨0,by unfold xs1; rw [if_pos rfl],Int.le_refl _⟩ k
 have hall:=yru hc hu hf h0
 exact⟨yd7 hL hp hu hf (by rw [hk]; exact BF.Inv.rnds k) h0 hall,hall⟩
def farN:Int:=1125899906842624
structure DS where
 d:List Int
 c:Bool
def stpD (r:Bool) (b:z8) (s:DS):DS:=if gt s.d (bdI r b)<farN/\gt s.d (bdI r b)+b.w<gt s.d (bdJ r b) then⟨zw s.d (bdJ r b) (gt s.d (bdI r b)+b.w),true⟩ else s
def rndD (r:Bool) (L:List z8):Nat->DS->DS
 | 0,s=>s
 | m+1,s=>stpD r (gt L (m:Int)) (rndD r L m s)
def runD (r:Bool) (L:List z8):Nat->DS->DS
 | 0,s=>s
 | k+1,s=>if s.c=true then runD r L k (rndD r L L.length ⟨s.d,false⟩) else s
def cntF (d:List Int):Nat:=d.countP fun a=>decide (a<farN)
structure DB (n c:Nat) (s:DS):Prop where
 len:s.d.length=n
 hi:∀ i:Int,0<=i->i <(n:Int)->gt s.d i=farN\/gt s.d i+1099511627776<=1099511627776 *(cntF s.d:Int)
 lo:∀ i:Int,0<=i->i <(n:Int)->-(1099511627776 *(c:Int))<=gt s.d i
theorem ynv (d:List Int):cntF d<=d.length:=List.countP_le_length
theorem DB.lt {n c:Nat} {s:DS} (h:DB n c s) (hn:n<=512) {i:Int} (h0:0<=i) (h1:i <(n:Int)):gt s.d i=farN\/gt s.d i<=561850441793536:=by
 have:=ynv s.d
 rw [h.len] at this
 rcases h.hi i h0 h1 with h | h
 ·exact .inl h
 ·exact .inr (by omega)
theorem yb3 {d:List Int} {i:Int} (h0:0<=i) (h1:i <(d.length:Int)) {v:Int} (hv:v<farN):cntF (zw d i v)=if gt d i<farN then cntF d else cntF d+1:=by
 have hi:i.toNat<d.length:=by omega
 have hg:d[i.toNat]=gt d i:=by
  have:=z23 hi
  rw [show ((i.toNat:Nat):Int)=i by omega] at this
  exact this.symm
 unfold cntF zw
 rw [List.countP_set hi,hg]
 have hv':decide (v<farN)=true:=by simpa using hv
 rw [if_pos hv']
 by_cases hq:gt d i<farN
 ·have:0<List.countP (fun a=>decide (a<farN)) d:=List.countP_pos_iff.2 ⟨gt d i,z0p h0 h1,by simpa using hq⟩
  rw [if_pos (by simpa using hq),if_pos hq]
  omega
 ·rw [if_neg (by simpa using hq),if_neg hq]
  omega
theorem DB.up {n c e:Nat} {s:DS} (h:DB n c s) (he:c<=e):DB n e s:=⟨h.len,h.hi,fun i h0 h1=>by have:=h.lo i h0 h1; omega⟩
theorem DB.stp {n c:Nat} {s:DS} (h:DB n c s) (hn:n<=512) {b:z8} (hb:okBd n b) (r:Bool):DB n (c+1) (stpD r b s):=by
 obtain⟨a1,a2,a3,a4,a5,a6⟩:=zpo hb r
 unfold stpD
 split
 ·rename_i hlt
  obtain⟨l1,l2⟩:=hlt
  have hx:=h.len
  have q1:=h.hi _ a1 a2
  have q2:=h.lt hn a1 a2
  have q3:=h.hi _ a3 a4
  have ql:=h.lo _ a1 a2
  have hnew:gt s.d (bdI r b)+b.w<farN:=by unfold farN at *; omega
  have hc:=yb3 (d:=s.d) a3 (by rw [hx]; exact a4) hnew
  refine⟨by rw [z05]; exact hx,fun k h0 h1=>?_,fun k h0 h1=>?_⟩
  ·simp only [hc]
   rw [zy _ _ _ _ a3 (by rw [hx]; exact a4) h0]
   have q4:=h.hi k h0 h1
   by_cases hk:k=bdJ r b
   ·rw [if_pos hk]
    right
    by_cases hq:gt s.d (bdJ r b)<farN
    ·rw [if_pos hq]; omega
    ·rw [if_neg hq]; unfold farN at *; omega
   ·rw [if_neg hk]
    rcases q4 with q4 | q4
    ·exact .inl q4
    ·right
     split <;> omega
  ·rw [zy _ _ _ _ a3 (by rw [hx]; exact a4) h0]
   have q4:=h.lo k h0 h1
   split <;> omega
 ·exact h.up (by omega)
theorem DB.rnd {n c:Nat} {s:DS} (h:DB n c s) (hn:n<=512) {L:List z8} (hL:∀ b∈L,okBd n b) (r:Bool):∀ m,m<=L.length->DB n (c+m) (rndD r L m s)
 | 0,_=>h
 | m+1,hm=>(DB.rnd h hn hL r m (by omega)).stp hn (hL _ (z0p (by omega) (by omega))) r
def xd (d:List Int):BF.X:=fun v=>if v<d.length then(if gt d (v:Int)<farN then some (gt d (v:Int)) else none) else none
theorem yn5 {d:List Int} {i:Int} (h0:0<=i) (h:i <(d.length:Int)):xd d i.toNat=if gt d i<farN then some (gt d i) else none:=by
 unfold xd
 rw [if_pos (by omega),show ((i.toNat:Nat):Int)=i by omega]
theorem yho {n c:Nat} (hn:n<=512) {s:DS} (hB:DB n c s) {b:z8} (hb:okBd n b) (r:Bool) :
  xd (stpD r b s).d=BF.rlx (nI r) (nJ r) bW (xd s.d) b/\(BF.imp (nI r) (nJ r) bW (xd s.d) b=true->(stpD r b s).c=true)/\(BF.imp (nI r) (nJ r) bW (xd s.d) b=false->stpD r b s=s):=by
 obtain⟨a1,a2,a3,a4,a5,a6⟩:=zpo hb r
 have hx:=hB.len
 have e1:xd s.d (nI r b)=_:=yn5 a1 (by rw [hx]; exact a2)
 have e2:xd s.d (nJ r b)=_:=yn5 a3 (by rw [hx]; exact a4)
 have q1:=hB.lt hn a1 a2
 have q2:=hB.lt hn a3 a4
 have ei:BF.imp (nI r) (nJ r) bW (xd s.d) b=decide (gt s.d (bdI r b)<farN/\gt s.d (bdI r b)+b.w<gt s.d (bdJ r b)):=by
  unfold BF.imp
  rw [e1,e2]
  by_cases h1:gt s.d (bdI r b)<farN
  ·rw [if_pos h1]
   by_cases h2:gt s.d (bdJ r b)<farN
   ·rw [if_pos h2]
    exact decide_eq_decide.2 ⟨fun h=>⟨h1,h⟩,fun h=>h.2⟩
   ·rw [if_neg h2]
    have:gt s.d (bdI r b)+b.w<gt s.d (bdJ r b):=by unfold farN at *; omega
    simp [BF.ltO,h1,this]
  ·rw [if_neg h1]; simp [h1]
 by_cases h:gt s.d (bdI r b)<farN/\gt s.d (bdI r b)+b.w<gt s.d (bdJ r b)
 ·have er:=ei
  rw [decide_eq_true h] at er
  obtain⟨a,ha,hlt,hr⟩:=BF.rlx_imp er
  rw [e1,if_pos h.1,Option.some.injEq] at ha
  subst ha
  unfold stpD
  rw [if_pos h]
  refine⟨?_,fun _=>rfl,fun q=>(by rw [er] at q; cases q)⟩
  rw [hr]
  funext v
  unfold xd
  simp only [z05]
  by_cases hv:v<s.d.length
  ·rw [if_pos hv,if_pos hv,zy _ _ _ _ a3 (by rw [hx]; exact a4) (by omega)]
   by_cases e:v=nJ r b
   ·have e' :(v:Int)=bdJ r b:=by unfold nJ at e; omega
    have hnew:gt s.d (bdI r b)+b.w<farN:=by unfold farN at *; omega
    rw [if_pos e,if_pos e',if_pos hnew]; rfl
   ·have e':¬(v:Int)=bdJ r b:=by unfold nJ at e; omega
    rw [if_neg e,if_neg e']
  ·rw [if_neg hv,if_neg hv,if_neg (fun e=>hv (by rw [hx,e]; unfold nJ; omega))]
 ·have er:=ei
  rw [decide_eq_false h] at er
  unfold stpD
  rw [if_neg h]
  exact⟨(BF.rlx_not er).symm,fun q=>(by rw [er] at q; cases q),fun _=>rfl⟩
theorem yf1 {n c:Nat} (hn:n<=512) {s:DS} (hB:DB n c s) {L:List z8} (hL:∀ b∈L,okBd n b) (r:Bool):∀ m,m<=L.length->xd (rndD r L m s).d =(L.take m).foldl (BF.rlx (nI r) (nJ r) bW) (xd s.d)
 | 0,_=>rfl
 | m+1,hm=>by
  have ih:=yf1 hn hB hL r m (by omega)
  rw [z0b L m (by omega),List.foldl_append,<- ih]
  exact(yho hn (hB.rnd hn hL r m (by omega)) (hL _ (z0p (by omega) (by omega))) r).1
theorem ym1 {n c:Nat} (hn:n<=512) {s:DS} (hB:DB n c s) {L:List z8} (hL:∀ b∈L,okBd n b) (r:Bool) (hc:s.c=false):∀ m,m<=L.length->(rndD r L m s).c=false->rndD r L m s=s/\∀ k:Nat,k<m->BF.imp (nI r) (nJ r) bW (xd s.d) (gt L (k:Int))=false
 | 0,_,_=>⟨rfl,fun k hk=>by omega⟩
 | m+1,hm,h=>by
  obtain⟨q1,q2,q3⟩:=yho hn (hB.rnd hn hL r m (by omega)) (hL _ (z0p (l:=L) (i:=(m:Int)) (by omega) (by omega))) r
  change (stpD r (gt L (m:Int)) (rndD r L m s)).c=false at h
  cases hi:BF.imp (nI r) (nJ r) bW (xd (rndD r L m s).d) (gt L (m:Int)) with
  | true=>rw [q2 hi] at h; cases h
  | false=>
   have e:=q3 hi
   rw [e] at h
   obtain⟨e2,h4⟩:=ym1 hn hB hL r hc m (by omega) h
   refine⟨by change stpD r (gt L (m:Int)) (rndD r L m s)=s; rw [e,e2],fun k hk=>?_⟩
   by_cases hkm:k=m
   ·subst hkm; rw [e2] at hi; exact hi
   ·exact h4 k (by omega)
theorem yei {r:Bool} {n:Nat} (hn:n<=512) {L:List z8} (hL:∀ b∈L,okBd n b) {x0:BF.X} (F:BF.Feas (nI r) (nJ r) bW x0 L n):∀(f k c:Nat) (s:DS),DB n c s->xd s.d=BF.rnds (nI r) (nJ r) bW L x0 k->(s.c=false->BF.Fix (nI r) (nJ r) bW L (xd s.d))->n<=k+f->
  (runD r L f s).d.length=n/\BF.Fix (nI r) (nJ r) bW L (xd (runD r L f s).d)/\(∃ k',xd (runD r L f s).d=BF.rnds (nI r) (nJ r) bW L x0 k')/\DB n (c+f*L.length) (runD r L f s)
 | 0,k,c,s,hB,hx,hc,hk=>by
  refine⟨hB.len,fun b hb=>?_,⟨k,hx⟩,hB.up (by omega)⟩
  have:=BF.done F (k:=k) (by omega) b hb
  rw [<- hx] at this
  exact this
 | f+1,k,c,s,hB,hx,hc,hk=>by
  unfold runD
  split
  ·have hB1:DB n c ⟨s.d,false⟩:=⟨hB.len,hB.hi,hB.lo⟩
   have hr:=yf1 hn hB1 hL r L.length (Nat.le_refl _)
   rw [List.take_length] at hr
   have hr2:xd (rndD r L L.length ⟨s.d,false⟩).d=BF.rnds (nI r) (nJ r) bW L x0 (k+1):=by
    rw [hr,show xd (DS.mk s.d false).d=_ from hx]; rfl
   have:=yei hn hL F f (k+1) (c+L.length) _ (hB1.rnd hn hL r L.length (Nat.le_refl _)) hr2 (fun h=>by
    obtain⟨e1,e2⟩:=ym1 hn hB1 hL r rfl L.length (Nat.le_refl _) h
    intro b hb
    rw [e1]
    obtain⟨i,hi,rfl⟩:=zon hb
    exact e2 i hi) (by omega)
   refine⟨this.1,this.2.1,this.2.2.1,this.2.2.2.up ?_⟩
   rw [Nat.add_mul,Nat.one_mul]; omega
  ·rename_i h
   exact⟨hB.len,hc (by cases hq:s.c with | true=>exact absurd hq h | false=>rfl),⟨k,hx⟩,hB.up (by omega)⟩
def d0 (n:Nat) (u:Int):List Int:=zw (List.replicate n farN) u 0
theorem yke {n:Nat} {u i:Int} (hu:0<=u) (hu':u <(n:Int)) (h0:0<=i) (h1:i <(n:Int)):gt (d0 n u) i=if i=u then 0 else farN:=by
 unfold d0
 rw [zy _ _ _ _ hu (by simpa using hu') h0,z17 _ _ _ h0 h1]
theorem yh7 (n:Nat) (u:Int) :(d0 n u).length=n:=by simp [d0,z05]
theorem yry {n:Nat} {u:Int} (hu:0<=u) (hu':u <(n:Int)):xd (d0 n u)=xs1 u.toNat:=by
 funext v
 unfold xd xs1
 rw [yh7]
 by_cases hv:v<n
 ·rw [if_pos hv,yke hu hu' (by omega) (by omega)]
  by_cases e :(v:Int)=u
  ·rw [if_pos e,if_pos (by omega:v=u.toNat),if_pos (by decide)]
  ·rw [if_neg e,if_neg (by omega:¬ v=u.toNat),if_neg (by decide)]
 ·rw [if_neg hv,if_neg (by omega)]
theorem ynu {n:Nat} {u:Int} (hu:0<=u) (hu':u <(n:Int)):DB n 0 ⟨d0 n u,true⟩:=by
 have hc:cntF (d0 n u)=1:=by
  unfold d0
  rw [yb3 hu (by simpa using hu') (by decide),z17 _ _ _ hu hu',if_neg (by decide)]
  have:cntF (List.replicate n farN)=0:=List.countP_eq_zero.2 fun a ha=>by
   rw [List.mem_replicate] at ha
   rw [ha.2]; decide
  rw [this]
 refine⟨yh7 n u,fun i h0 h1=>?_,fun i h0 h1=>?_⟩
 ·simp only [hc]
  rw [yke hu hu' h0 h1]
  split
  ·right; omega
  ·left; rfl
 ·simp only
  rw [yke hu hu' h0 h1]
  split
  ·omega
  ·unfold farN; omega
theorem zmc {r:Bool} {n:Nat} (hn:n<=512) {L:List z8} (hL:∀ b∈L,okBd n b) (hc:Conn L n) {p:Int->Int} (hp:SolD r L p) {u:Int} (hu:0<=u) (hu':u <(n:Int)) :
  (runD r L n ⟨d0 n u,true⟩).d.length=n/\zn2 r L n u (gt (runD r L n ⟨d0 n u,true⟩).d):=by
 have F:=yl7 hL hp (u:=u.toNat) (by omega)
 obtain⟨h1,h2,⟨k,h3⟩,h4⟩:=yei hn hL F n 0 0 ⟨d0 n u,true⟩ (ynu hu hu') (yry hu hu') (fun h=>by cases h) (by omega)
 obtain⟨g1,g2⟩:=zqe hL hc hp (u:=u.toNat) (by omega) h2 h3
 refine⟨h1,?_⟩
 have key:∀ v:Int,0<=v->v <(n:Int)->((xd (runD r L n ⟨d0 n u,true⟩).d) v.toNat).getD 0=gt (runD r L n ⟨d0 n u,true⟩).d v:=fun v q0 q1=>by
  have:=g2 v.toNat (by omega)
  have e:=yn5 (d:=(runD r L n ⟨d0 n u,true⟩).d) q0 (by rw [h1]; exact q1)
  rw [e] at this ⊢
  split
  ·rfl
  ·rename_i hq; rw [if_neg hq] at this; cases this
 rw [show ((u.toNat:Nat):Int)=u by omega] at g1
 refine⟨fun b hb=>?_,fun q hq v v0 v1=>?_,?_⟩
 ·obtain⟨a1,a2,a3,a4,_,_⟩:=zpo (hL b hb) r
  have:=g1.sat b hb
  rw [key _ a1 a2,key _ a3 a4] at this
  exact this
 ·have:=g1.top q hq v v0 v1
  rw [key _ v0 v1] at this
  exact this
 ·have:=g1.zero
  rw [key _ hu hu'] at this
  exact this
end Px
end
section
namespace Px
open Go
structure TS where
 d:List Int
 kn:List Bool
 z:Int
def stpT (b:z8) (i:Int) (s:TS):TS:=if(!(gt s.kn b.i)||((gt s.kn b.j)&&decide (gt s.d b.j<=gt s.d b.i+b.w)))=true then s else⟨zw s.d b.j (gt s.d b.i+b.w),zw s.kn b.j true,i⟩
def rndT (L:List z8):Nat->TS->TS
 | 0,s=>s
 | m+1,s=>stpT (gt L (m:Int)) m (rndT L m s)
def runT (L:List z8):Nat->TS->TS
 | 0,s=>s
 | k+1,s=>if(rndT L L.length ⟨s.d,s.kn,-1⟩).z<0 then rndT L L.length ⟨s.d,s.kn,-1⟩ else runT L k (rndT L L.length ⟨s.d,s.kn,-1⟩)
structure TiB (n c:Nat) (s:TS):Prop where
 ld:s.d.length=n
 lk:s.kn.length=n
 bd:∀ i:Int,0<=i->i <(n:Int)->-(1099511627776 *(c:Int))<=gt s.d i/\gt s.d i<=1099511627776 *(c:Int)
theorem TiB.up {n c e:Nat} {s:TS} (h:TiB n c s) (he:c<=e):TiB n e s:=⟨h.ld,h.lk,fun i h0 h1=>by have:=h.bd i h0 h1; omega⟩
theorem TiB.stp {n c:Nat} {s:TS} (h:TiB n c s) {b:z8} (hb:okBd n b) (i:Int):TiB n (c+1) (stpT b i s):=by
 obtain⟨a1,a2,a3,a4,a5,a6⟩:=hb
 unfold stpT
 split
 ·exact h.up (by omega)
 ·refine⟨by rw [z05]; exact h.ld,by rw [z05]; exact h.lk,fun k h0 h1=>?_⟩
  have q1:=h.bd b.i a1 a2
  have q2:=h.bd k h0 h1
  rw [zy _ _ _ _ a3 (by rw [h.ld]; exact a4) h0]
  split <;> omega
theorem TiB.rnd {n c:Nat} {s:TS} (h:TiB n c s) {L:List z8} (hL:∀ b∈L,okBd n b):∀ m,m<=L.length->TiB n (c+m) (rndT L m s)
 | 0,_=>h
 | m+1,hm=>(TiB.rnd h hL m (by omega)).stp (hL _ (z0p (by omega) (by omega))) m
def xk (s:TS):BF.X:=fun v=>if v<s.d.length then(if gt s.kn (v:Int)=true then some (gt s.d (v:Int)) else none) else none
theorem yc2 {s:TS} {i:Int} (h0:0<=i) (h:i <(s.d.length:Int)):xk s i.toNat=if gt s.kn i=true then some (gt s.d i) else none:=by
 unfold xk
 rw [if_pos (by omega),show ((i.toNat:Nat):Int)=i by omega]
theorem y6s {n c:Nat} {s:TS} (hB:TiB n c s) {b:z8} (hb:okBd n b) (i:Int) :
  xk (stpT b i s)=BF.rlx (nI false) (nJ false) bW (xk s) b/\(BF.imp (nI false) (nJ false) bW (xk s) b=true->(stpT b i s).z=i)/\(BF.imp (nI false) (nJ false) bW (xk s) b=false->stpT b i s=s):=by
 have hb2:=hb
 obtain⟨a1,a2,a3,a4,a5,a6⟩:=hb
 have hx:=hB.ld
 have e1:xk s (nI false b)=_:=yc2 (i:=b.i) a1 (by rw [hx]; exact a2)
 have e2:xk s (nJ false b)=_:=yc2 (i:=b.j) a3 (by rw [hx]; exact a4)
 have ei:BF.imp (nI false) (nJ false) bW (xk s) b = !(!(gt s.kn b.i)||((gt s.kn b.j)&&decide (gt s.d b.j<=gt s.d b.i+b.w))):=by
  unfold BF.imp
  rw [e1,e2]
  cases h1:gt s.kn b.i with
  | false=>rfl
  | true=>
   cases h2:gt s.kn b.j with
   | false=>simp [BF.ltO]
   | true=>
    simp only [if_true]
    show decide (gt s.d b.i+b.w<gt s.d b.j) = !(decide (gt s.d b.j<=gt s.d b.i+b.w))
    rw [<- decide_not]
    exact decide_eq_decide.2 (by omega)
 cases h :(!(gt s.kn b.i)||((gt s.kn b.j)&&decide (gt s.d b.j<=gt s.d b.i+b.w))) with
 | true=>
  rw [h] at ei
  unfold stpT
  rw [if_pos h]
  exact⟨(BF.rlx_not ei).symm,fun q=>(by rw [ei] at q; cases q),fun _=>rfl⟩
 | false=>
  rw [h] at ei
  obtain⟨a,ha,hlt,hr⟩:=BF.rlx_imp ei
  have hki:gt s.kn b.i=true:=by
   cases hk:gt s.kn b.i with
   | true=>rfl
   | false=>rw [hk] at h; cases h
  rw [e1,if_pos hki,Option.some.injEq] at ha
  subst ha
  unfold stpT
  rw [if_neg (by rw [h]; simp)]
  refine⟨?_,fun _=>rfl,fun q=>(by rw [ei] at q; cases q)⟩
  rw [hr]
  funext v
  unfold xk
  simp only [z05]
  by_cases hv:v<s.d.length
  ·rw [if_pos hv,if_pos hv,zy s.kn _ _ _ a3 (by rw [hB.lk]; exact a4) (by omega),zy s.d _ _ _ a3 (by rw [hx]; exact a4) (by omega)]
   by_cases e:v=nJ false b
   ·have e' :(v:Int)=b.j:=by unfold nJ bdJ at e; simp at e; omega
    rw [if_pos e,if_pos e',if_pos e',if_pos rfl]; rfl
   ·have e':¬(v:Int)=b.j:=by unfold nJ bdJ at e; simp at e; omega
    rw [if_neg e,if_neg e',if_neg e']
  ·rw [if_neg hv,if_neg hv,if_neg (fun e=>hv (by rw [hx,e]; unfold nJ bdJ; simp; omega))]
theorem y7g {n c:Nat} {s:TS} (hB:TiB n c s) {L:List z8} (hL:∀ b∈L,okBd n b):∀ m,m<=L.length->xk (rndT L m s) =(L.take m).foldl (BF.rlx (nI false) (nJ false) bW) (xk s)
 | 0,_=>rfl
 | m+1,hm=>by
  have ih:=y7g hB hL m (by omega)
  rw [z0b L m (by omega),List.foldl_append,<- ih]
  exact(y6s (hB.rnd hL m (by omega)) (hL _ (z0p (by omega) (by omega))) m).1
theorem yfc {n c:Nat} {s:TS} (hB:TiB n c s) {L:List z8} (hL:∀ b∈L,okBd n b):∀ m,m<=L.length->(rndT L m s).z<0->rndT L m s=s/\∀ k:Nat,k<m->BF.imp (nI false) (nJ false) bW (xk s) (gt L (k:Int))=false
 | 0,_,_=>⟨rfl,fun k hk=>by omega⟩
 | m+1,hm,h=>by
  obtain⟨q1,q2,q3⟩:=y6s (hB.rnd hL m (by omega)) (hL _ (z0p (l:=L) (i:=(m:Int)) (by omega) (by omega))) m
  change (stpT (gt L (m:Int)) m (rndT L m s)).z<0 at h
  cases hi:BF.imp (nI false) (nJ false) bW (xk (rndT L m s)) (gt L (m:Int)) with
  | true=>rw [q2 hi] at h; omega
  | false=>
   have e:=q3 hi
   rw [e] at h
   obtain⟨e2,h4⟩:=yfc hB hL m (by omega) h
   refine⟨by change stpT (gt L (m:Int)) m (rndT L m s)=s; rw [e,e2],fun k hk=>?_⟩
   by_cases hkm:k=m
   ·subst hkm; rw [e2] at hi; exact hi
   ·exact h4 k (by omega)
theorem y6p {n:Nat} {L:List z8} (hL:∀ b∈L,okBd n b) {x0:BF.X} (F:BF.Feas (nI false) (nJ false) bW x0 L n):∀(f k c:Nat) (s:TS),TiB n c s->xk s=BF.rnds (nI false) (nJ false) bW L x0 k->n<=k+f->
  TiB n (c+f*L.length) (runT L f s)/\BF.Fix (nI false) (nJ false) bW L (xk (runT L f s))/\∃ k',xk (runT L f s)=BF.rnds (nI false) (nJ false) bW L x0 k'
 | 0,k,c,s,hB,hx,hk=>by
  refine⟨hB.up (by omega),fun b hb=>?_,k,hx⟩
  have:=BF.done F (k:=k) (by omega) b hb
  rw [<- hx] at this
  exact this
 | f+1,k,c,s,hB,hx,hk=>by
  have hB1:TiB n c ⟨s.d,s.kn,-1⟩:=⟨hB.ld,hB.lk,hB.bd⟩
  have hr:=y7g hB1 hL L.length (Nat.le_refl _)
  rw [List.take_length] at hr
  have hr2:xk (rndT L L.length ⟨s.d,s.kn,-1⟩)=BF.rnds (nI false) (nJ false) bW L x0 (k+1):=by
   rw [hr,show xk (TS.mk s.d s.kn (-1))=_ from hx]; rfl
  have hB2:=hB1.rnd hL L.length (Nat.le_refl _)
  unfold runT
  split
  ·rename_i hz
   obtain⟨e1,e2⟩:=yfc hB1 hL L.length (Nat.le_refl _) hz
   refine⟨hB2.up (by rw [Nat.add_mul,Nat.one_mul]; omega),fun b hb=>?_,k+1,hr2⟩
   rw [e1]
   obtain⟨i,hi,rfl⟩:=zon hb
   exact e2 i hi
  ·have:=y6p hL F f (k+1) (c+L.length) _ hB2 hr2 (by omega)
   exact⟨this.1.up (by rw [Nat.add_mul,Nat.one_mul]; omega),this.2⟩
def t0 (n:Nat) (u:Int):TS:=⟨List.replicate n 0,zw (List.replicate n false) u true,-1⟩
theorem yju {n:Nat} {u:Int} : TiB n 0 (t0 n u):=⟨by simp [t0],by simp [t0,z05],fun i h0 h1=>by rw [show gt (t0 n u).d i=0 from z17 n 0 i h0 h1]; omega⟩
theorem yp7 {n:Nat} {u:Int} (hu:0<=u) (hu':u <(n:Int)):xk (t0 n u)=xs1 u.toNat:=by
 funext v
 unfold xk xs1 t0
 simp only [List.length_replicate]
 by_cases hv:v<n
 ·rw [if_pos hv,zy _ _ _ _ hu (by simpa using hu') (by omega),z17 _ _ _ (by omega) (by omega),z17 _ _ _ (by omega) (by omega)]
  by_cases e :(v:Int)=u
  ·rw [if_pos e,if_pos (by omega:v=u.toNat),if_pos rfl]
  ·rw [if_neg e,if_neg (by omega:¬ v=u.toNat),if_neg (by simp)]
 ·rw [if_neg hv,if_neg (by omega)]
theorem zqf {n:Nat} {L:List z8} (hL:∀ b∈L,okBd n b) (hc:Conn L n) {p:Int->Int} (hp:SolD false L p) {u:Int} (hu:0<=u) (hu':u <(n:Int)) :
  (runT L n (t0 n u)).d.length=n/\(runT L n (t0 n u)).kn.length=n/\zn2 false L n u (gt (runT L n (t0 n u)).d)/\∀ v:Int,0<=v->v <(n:Int)->gt (runT L n (t0 n u)).kn v=true:=by
 have F:=yl7 hL hp (u:=u.toNat) (by omega)
 obtain⟨h1,h2,k,h3⟩:=y6p hL F n 0 0 (t0 n u) yju (yp7 hu hu') (by omega)
 obtain⟨g1,g2⟩:=zqe hL hc hp (u:=u.toNat) (by omega) h2 h3
 have kn:∀ v:Int,0<=v->v <(n:Int)->gt (runT L n (t0 n u)).kn v=true:=fun v q0 q1=>by
  have:=g2 v.toNat (by omega)
  rw [yc2 q0 (by rw [h1.ld]; exact q1)] at this
  split at this
  ·assumption
  ·cases this
 have key:∀ v:Int,0<=v->v <(n:Int)->(xk (runT L n (t0 n u)) v.toNat).getD 0=gt (runT L n (t0 n u)).d v:=fun v q0 q1=>by
  rw [yc2 q0 (by rw [h1.ld]; exact q1),if_pos (kn v q0 q1)]; rfl
 rw [show ((u.toNat:Nat):Int)=u by omega] at g1
 refine⟨h1.ld,h1.lk,⟨fun b hb=>?_,fun q hq v v0 v1=>?_,?_⟩,kn⟩
 ·obtain⟨a1,a2,a3,a4,_,_⟩:=zpo (hL b hb) false
  have:=g1.sat b hb
  rw [key _ a1 a2,key _ a3 a4] at this
  exact this
 ·have:=g1.top q hq v v0 v1
  rw [key _ v0 v1] at this
  exact this
 ·have:=g1.zero
  rw [key _ hu hu'] at this
  exact this
end Px
end
section
namespace Px
open Go
set_option maxHeartbeats 4000000
def zbx (fit:Bool) (x:Part):Bool:=!(((((decide ((x.kind:Int)<1))||(decide ((3:Int)<x.kind)))||(decide ((x.serial:Int)<0)))||(decide ((1073741824:Int)<x.serial)))||(x.fitted&&(!fit)))
theorem z5h (φ:Nat) (l:List Part) (fit:Bool) (h:l.length<=1000) (hφ:1000<φ):zlp φ l fit=some (l.all (zbx fit)&&decide ((l.length:Int)<=16),()):=by
 unfold zlp
 rw [z52 (fun n i=>z8m φ n l fit l (l.length:Int) i) (some (decide ((l.length:Int)<=16),())) (some (false,())) l (fun x=>!zbx fit x) ?_ ?_ φ (by omega)]
 ·simp only [List.any_eq_not_all_not,Bool.not_not]
  cases l.all (zbx fit) <;> rfl
 ·intro n i hi
  rw [z8m,if_pos (by simp; omega),z7 ⟨by omega,by omega⟩,W_id (by omega) (by omega)]
  show _=bif !!_ then _ else _
  rw [Bool.not_not]
  cases (((((decide (((gt l i).kind:Int)<1))||(decide ((3:Int) <(gt l i).kind)))||(decide (((gt l i).serial:Int)<0)))||(decide ((1073741824:Int) <(gt l i).serial)))||((gt l i).fitted&&(!fit))) <;> rfl
 ·intro n; rw [z8m,if_neg (by simp)]
structure y2m (p:Pool) (it:Item):Prop where
 kind:1<=it.kind/\it.kind<=15
 wagon:it.kind<=9->0<=it.wagon/\it.wagon <(p.fleet.wagons.length:Int)
 read:it.kind=1->0<=it.other/\it.other <(p.readers.length:Int)
 place:it.kind=2\/it.kind=3\/it.kind=4\/it.kind=6\/it.kind=7\/it.kind=9->0<=it.place/\it.place <(p.network.places.length:Int)
 from_:it.kind<=9->0<=it.from_/\it.from_<=1073741824
 to:it.kind=2\/it.kind=9->it.from_<=it.to/\it.to<=1073741824
theorem zrq {ρ:Type} (c q:Bool) (K:Bool->Option ρ) :((zp (default,()) (c=true) (some (q,()))).bind fun y=>K (c&&y.1))=K (c&&q):=by
 unfold zp
 cases c <;> rfl
theorem yeq (p:Pool) (it:Item) (hparts:it.parts.length<=1000) (hw:p.fleet.wagons.length<=4096) (hr:p.readers.length<=256) (hs:p.shippers.length<=256) (hpl:p.network.places.length<=512) (ht:p.fleet.types.length<=32) :
  ∃ b,(∀ φ,1000<φ->z0n φ p it=some (b,()))/\(b=true->y2m p it):=by
 have w1:W ((p.fleet.wagons.length:Int)-1) =(p.fleet.wagons.length:Int)-1:=W_id (by omega) (by omega)
 have w2:W ((p.readers.length:Int)-1) =(p.readers.length:Int)-1:=W_id (by omega) (by omega)
 have w3:W ((p.shippers.length:Int)-1) =(p.shippers.length:Int)-1:=W_id (by omega) (by omega)
 have w4:W ((p.network.places.length:Int)-1) =(p.network.places.length:Int)-1:=W_id (by omega) (by omega)
 have w5:W ((p.fleet.types.length:Int)-1) =(p.fleet.types.length:Int)-1:=W_id (by omega) (by omega)
 have hm:∀ x z:Int,max2 x 0<=z↔x<=z/\0<=z:=by intro x z; unfold max2; split <;> omega
 by_cases hk0:it.kind<1
 ·refine⟨false,fun φ hφ=>?_,fun h=>by cases h⟩
  unfold z0n zg
  rw [if_pos (by simp; omega),if_pos (by simpa using hk0)]
  simp
 by_cases hk16:15<it.kind
 ·refine⟨false,fun φ hφ=>?_,fun h=>by cases h⟩
  have e:∀ k:Int,k<=15->(it.kind==k)=false:=fun k hk=>by simp; omega
  unfold z0n
  rw [if_neg (by simp; omega)]
  simp [e,z1t,zg]
 have hcases:it.kind=1\/it.kind=2\/it.kind=3\/it.kind=4\/it.kind=5\/it.kind=6\/it.kind=7\/it.kind=8\/it.kind=9\/it.kind=10\/it.kind=11\/it.kind=12\/it.kind=13\/it.kind=14\/it.kind=15:=by omega
 by_cases hin:0<=it.place/\it.place <(p.network.places.length:Int)
 ·have e1 :(decide ((0:Int)<=it.place)&&decide ((it.place:Int) <(p.network.places.length:Int)))=true:=by simp [hin]
  rcases hcases with hk | hk | hk | hk | hk | hk | hk | hk | hk | hk | hk | hk | hk | hk | hk
  case inr.inr.inr.inr.inr.inr.inr.inr.inl=>
   refine⟨_,fun φ hφ=>by
    unfold z0n
    simp only [hk,e1,z4q,z7 hin,w1,w2,w3,w4,w5,z5h φ _ _ hparts hφ,Option.bind_some,Int.reduceLE,Int.reduceLT,Int.reduceBEq,decide_true,decide_false,if_true,Bool.false_eq_true,if_false]
    refine(zrq _ _ (fun b=>zg φ ⟨_,_,b⟩)).trans ?_
    unfold zg
    rfl,fun hb=>?_⟩
   simp only [Bool.and_eq_true,decide_eq_true_eq,hm,beq_iff_eq,bne_iff_ne,ne_eq,Bool.or_eq_true] at hb
   constructor <;> omega
  case inr.inr.inr.inr.inr.inr.inr.inr.inr.inl=>
   refine⟨_,fun φ hφ=>by
    unfold z0n
    simp only [hk,e1,z7 hin,w1,w2,w3,w4,w5,z5h φ _ _ hparts hφ,Option.bind_some,Int.reduceLE,Int.reduceLT,Int.reduceBEq,decide_true,decide_false,if_true,Bool.false_eq_true,if_false]
    refine(zrq _ _ (fun b=>zg φ ⟨_,_,b⟩)).trans ?_
    unfold zg
    rfl,fun hb=>?_⟩
   constructor <;> omega
  all_goals
   refine⟨_,fun φ hφ=>by
    unfold z0n
    simp only [hk,e1,z5k,z4k,z4i,z4n,z4o,z4r,z1t,z4t,zg,z7 hin,w1,w2,w3,w4,w5,Option.bind_some,Int.reduceLE,Int.reduceLT,Int.reduceBEq,Int.reduceBNe,Int.reduceNe,decide_true,decide_false,if_true,Bool.false_eq_true,if_false]
    rfl,fun hb=>?_⟩
   simp only [Bool.and_eq_true,decide_eq_true_eq,hm,beq_iff_eq,bne_iff_ne,ne_eq,Bool.or_eq_true] at hb
   constructor <;> omega
 ·have e1 :(decide ((0:Int)<=it.place)&&decide ((it.place:Int) <(p.network.places.length:Int)))=false:=by
   rw [<- Bool.not_eq_true]; simpa using hin
  rcases hcases with hk | hk | hk | hk | hk | hk | hk | hk | hk | hk | hk | hk | hk | hk | hk
  case inr.inr.inr.inr.inr.inr.inr.inr.inl=>
   refine⟨_,fun φ hφ=>by
    unfold z0n
    simp only [hk,e1,z4q,w1,w2,w3,w4,w5,z5h φ _ _ hparts hφ,Option.bind_some,Int.reduceLE,Int.reduceLT,Int.reduceBEq,decide_true,decide_false,if_true,Bool.false_eq_true,if_false]
    refine(zrq _ _ (fun b=>zg φ ⟨_,_,b⟩)).trans ?_
    unfold zg
    rfl,fun hb=>?_⟩
   simp at hb
  case inr.inr.inr.inr.inr.inr.inr.inr.inr.inl=>
   refine⟨_,fun φ hφ=>by
    unfold z0n
    simp only [hk,e1,w1,w2,w3,w4,w5,z5h φ _ _ hparts hφ,Option.bind_some,Int.reduceLE,Int.reduceLT,Int.reduceBEq,decide_true,decide_false,if_true,Bool.false_eq_true,if_false]
    refine(zrq _ _ (fun b=>zg φ ⟨_,_,b⟩)).trans ?_
    unfold zg
    rfl,fun hb=>?_⟩
   constructor <;> omega
  all_goals
   refine⟨_,fun φ hφ=>by
    unfold z0n
    simp only [hk,e1,z5k,z4k,z4i,z4n,z4o,z4r,z1t,z4t,zg,w1,w2,w3,w4,w5,Option.bind_some,Int.reduceLE,Int.reduceLT,Int.reduceBEq,Int.reduceBNe,Int.reduceNe,decide_true,decide_false,if_true,Bool.false_eq_true,if_false]
    rfl,fun hb=>?_⟩
   simp only [Bool.and_eq_true,decide_eq_true_eq,hm,beq_iff_eq,bne_iff_ne,ne_eq,Bool.or_eq_true] at hb
   first |(constructor <;> omega) |(simp at hb; done) |(simp at hb; constructor <;> omega)
def zm7 (p:Pool) (it:Item):Bool:=((z0n 2000 p it).getD (false,())).1
def y6m (it:Item):Bool:=((z7d 0 it).getD (false,())).1
theorem y5v (φ:Nat) (it:Item):z7d φ it=some (y6m it,()):=by
 unfold y6m z7d
 split <;> rfl
def zhh (p:Pool) (it:Item):Bool:=y6m it&&zm7 p it
theorem ztn {p:Pool} (hc:zt p=0) {it:Item} (hparts:it.parts.length<=1000) :(∀ φ,1000<φ->z0n φ p it=some (zm7 p it,()))/\(zm7 p it=true->y2m p it):=by
 obtain⟨hn,hf,h1,h2,h3,hb⟩:=z3m hc
 obtain⟨n1,n2,_,_⟩:=zej hn
 obtain⟨f1,f2,_⟩:=z6n hf
 obtain⟨b,hφ,hok⟩:=yeq p it hparts f2 h1 h2 n1 f1
 have:zm7 p it=b:=by unfold zm7; rw [hφ 2000 (by omega)]; rfl
 rw [this]
 exact⟨hφ,hok⟩
theorem y5h (φ:Nat) (hφ:800000<φ) {p:Pool} (hc:zt p=0) {it:Item} (hparts:it.parts.length<=1000):zpm φ p it=some (bif zhh p it then 0 else 110,()):=by
 unfold zpm zhh
 rw [z9i φ hφ,Option.bind_some,if_neg (by simp [hc]),y5v,Option.bind_some]
 cases y6m it with
 | false=>rfl
 | true=>
  rw [gz_t (by simp),(ztn hc hparts).1 φ (by omega),Option.bind_some]
  cases zm7 p it <;> rfl
theorem zby {p:Pool} (hc:zt p=0) {it:Item} (hparts:it.parts.length<=1000) (h:zhh p it=true):y2m p it:=by
 simp only [zhh,Bool.and_eq_true] at h
 exact(ztn hc hparts).2 h.2
end Px
end
section
namespace Px
open Go
theorem zgg {n b:Nat} (h:n<=100000) (hb:b<=1000):fits n b:=by
 unfold fits
 have:n*b<=100000*1000:=Nat.mul_le_mul h hb
 omega
def z3f (r:zd) (place time:Int):zk:=⟨r.item.wagon,place,r.ref,false,time,time⟩
def evs (p:Pool) (r:zd) (i:Int):List z6:=
 if r.item.kind=1 then [⟨z3f r (gt p.readers r.item.other).place r.item.from_,i,false,false,r.item.other⟩]
 else if r.item.kind=2\/r.item.kind=9 then [⟨z3f r r.item.place r.item.from_,i,false,true,-1⟩,⟨z3f r r.item.place r.item.to,i,true,true,-1⟩]
 else if r.item.kind=3\/r.item.kind=4\/r.item.kind=6\/r.item.kind=7 then [⟨z3f r r.item.place r.item.from_,i,false,false,-1⟩] else []
theorem y8m (φ:Nat) (p:Pool) (r:zd) (i:Int) (h:r.item.kind=1->0<=r.item.other/\r.item.other <(p.readers.length:Int)):z1b φ p r i=some (evs p r i,()):=by
 by_cases h1:r.item.kind=1
 ·have h':=h h1
  simp [z1b,evs,h1,z7 h',z0d,z3f]
 by_cases h2:r.item.kind=2
 ·simp [z1b,evs,h2,z0j,z2y,z30,z0d,z3f]
 by_cases h9:r.item.kind=9
 ·simp [z1b,evs,h9,z0j,z2y,z30,z0d,z3f]
 by_cases h3:r.item.kind=3
 ·simp [z1b,evs,h3,z0j,z0k,z0d,z3f]
 by_cases h4:r.item.kind=4
 ·simp [z1b,evs,h4,z0j,z0k,z0d,z3f]
 by_cases h6:r.item.kind=6
 ·simp [z1b,evs,h6,z0j,z0k,z0d,z3f]
 by_cases h7:r.item.kind=7
 ·simp [z1b,evs,h7,z0j,z0k,z0d,z3f]
 ·simp [z1b,evs,h1,h2,h9,h3,h4,h6,h7,z0j,z0k]
theorem zmj {p:Pool} {r:zd} {i:Int} {x:z6} (h:x∈evs p r i):x.report=i/\x.visit.wagon=r.item.wagon/\x.visit.ref=r.ref:=by
 unfold evs at h
 split at h
 ·simp only [List.mem_singleton] at h; subst h; exact⟨rfl,rfl,rfl⟩
 ·split at h
  ·simp only [List.mem_cons,List.not_mem_nil,or_false] at h
   rcases h with rfl | rfl <;> exact⟨rfl,rfl,rfl⟩
  ·split at h
   ·simp only [List.mem_singleton] at h; subst h; exact⟨rfl,rfl,rfl⟩
   ·cases h
theorem y1a (p:Pool) (r:zd) (i:Int) :(evs p r i).length<=2:=by
 unfold evs
 split
 ·simp
 ·split
  ·simp
  ·split <;> simp
theorem ypf (p:Pool) (r:zd) (i:Int) :(evs p r i).Pairwise fun a b=>a.report≠b.report\/a.second≠b.second:=by
 unfold evs
 split
 ·simp
 ·split
  ·simp
  ·split <;> simp
def cntN (p:Pool) (l:List zd) (n:Nat):List Int:=((List.range n).filter fun(i:Nat)=>zhh p (gt l (i:Int)).item).map fun(i:Nat)=>(i:Int)
def cnt (p:Pool) (l:List zd):List Int:=cntN p l l.length
theorem y4b (p:Pool) (l:List zd) (n:Nat):cntN p l (n+1)=cntN p l n++(bif zhh p (gt l (n:Int)).item then [(n:Int)] else []):=by
 unfold cntN
 rw [List.range_succ,List.filter_append,List.map_append]
 congr 1
 cases h:zhh p (gt l (n:Int)).item <;> simp [h]
theorem zfy (p:Pool) (l:List zd) (n:Nat) :(cntN p l n).length<=n:=by
 unfold cntN
 rw [List.length_map]
 exact Nat.le_trans (List.length_filter_le _ _) (by simp)
theorem zv6 {p:Pool} {l:List zd} {i:Int} (h:i∈cnt p l):0<=i/\i <(l.length:Int)/\zhh p (gt l i).item=true:=by
 simp only [cnt,cntN,List.mem_map,List.mem_filter,List.mem_range] at h
 obtain⟨n,⟨h1,h2⟩,rfl⟩:=h
 exact⟨by omega,by omega,h2⟩
theorem yr4 (p:Pool) (l:List zd) :(cnt p l).Pairwise (· < ·):=by
 unfold cnt cntN
 rw [List.pairwise_map]
 refine(List.pairwise_lt_range.filter _).imp ?_
 intro a b h
 omega
structure FewL (l:List zd):Prop where
 len:l.length<=1000
 parts:∀ r∈l,r.item.parts.length<=1000
theorem FewL.gt {l:List zd} (h:FewL l) {i:Int} (h0:0<=i) (hi:i <(l.length:Int)) :(Px.gt l i).item.parts.length<=1000:=h.parts _ (z0p h0 hi)
theorem yc9 (φ:Nat) (hφ:800000<φ) {p:Pool} (hc:zt p=0) {l:List zd} (hl:FewL l):zcy φ p l=some (cnt p l,()):=by
 have h1:=hl.len
 unfold zcy
 refine zr (fun n i acc=>z34 φ n l (l.length:Int) i p acc) l.length (fun i acc=>acc=cntN p l i) (fun o=>o=some (cnt p l,())) ?_ ?_ φ [] rfl (by omega)
 ·intro n i acc hi hacc hs
  rw [z34,if_pos (by simp; omega),z7 ⟨by omega,by omega⟩,y5h φ hφ hc (hl.gt (by omega) (by omega)),Option.bind_some,W_id (by omega) (by omega)]
  have hs':=hs (cntN p l (i+1)) rfl
  rw [y4b] at hs'
  cases h:zhh p (gt l (i:Int)).item with
  | true=>
   rw [h] at hs'
   rw [if_pos (by rfl),z7 (zgg (by have:=zfy p l i; rw [hacc]; simp; omega) (by omega)),hacc]
   exact hs'
  | false=>
   rw [h] at hs'
   simp only [cond_false,List.append_nil] at hs'
   rw [if_neg (by decide),hacc]
   exact hs'
 ·intro n acc hacc
  rw [z34,if_neg (by simp),hacc]; rfl
def unsC (p:Pool) (l:List zd) (c:List Int) (w:Int):List z6:=c.flatMap fun i=>if(gt l i).item.wagon=w then evs p (gt l i) i else []
def uns (p:Pool) (l:List zd) (w:Int):List z6:=unsC p l (cnt p l) w
theorem zm8 (p:Pool) (l:List zd) (w:Int):∀ c:List Int,(unsC p l c w).length<=2*c.length
 | []=>by simp [unsC]
 | i::c=>by
  have:=zm8 p l w c
  have h2:=y1a p (gt l i) i
  unfold unsC at *
  rw [List.flatMap_cons,List.length_append,List.length_cons]
  split
  ·omega
  ·simp only [List.length_nil]; omega
theorem yez {a b:z6} (h:a.report≠b.report\/a.second≠b.second):cfEv a b<0\/cfEv b a<0:=by
 rw [zgr,zgr]
 have h2:a.second≠b.second->ordB a.second≠ordB b.second:=by
  cases a.second <;> cases b.second <;> simp [ordB]
 by_cases hs:a.second=b.second
 ·have h3:=h.resolve_right (fun q=>q hs)
  rw [hs]; omega
 ·have:=h2 hs
  omega
theorem ymb (p:Pool) (l:List zd) (w:Int) :(uns p l w).Pairwise fun a b=>a.report≠b.report\/a.second≠b.second:=by
 unfold uns unsC
 rw [List.pairwise_flatMap]
 refine⟨fun i hi=>?_,(yr4 p l).imp ?_⟩
 ·split
  ·exact ypf _ _ _
  ·exact List.Pairwise.nil
 ·intro i j hij x hx y hy
  split at hx
  ·split at hy
   ·rw [(zmj hx).1,(zmj hy).1]
    exact .inl (by omega)
   ·cases hy
  ·cases hx
theorem zva {p:Pool} {l:List zd} (hl:l.length<=1000) {w:Int} {x:z6} (h:x∈uns p l w):0<=x.report/\x.report <(l.length:Int)/\x.visit.wagon=w/\zhh p (gt l x.report).item=true/\x∈evs p (gt l x.report) x.report:=by
 simp only [uns,unsC,List.mem_flatMap] at h
 obtain⟨i,hi,hx⟩:=h
 obtain⟨h1,h2,h3⟩:=zv6 hi
 split at hx
 ·rename_i hw
  obtain⟨r1,r2,r3⟩:=zmj hx
  rw [r1]
  exact⟨h1,h2,by rw [r2,hw],h3,hx⟩
 ·cases hx
def ltEv (a b:z6):Bool:=decide (cfEv a b<0)
def srt (p:Pool) (l:List zd) (w:Int):List z6:=zky ltEv (uns p l w)
theorem ybu {p:Pool} {l:List zd} (hl:l.length<=1000) (w:Int):sortEv (uns p l w)=some (srt p l w):=by
 refine yia (fun y hy=>?_) ?_ ((ymb p l w).imp fun h=>yez h)
 ·obtain⟨h1,h2,_⟩:=zva hl hy
  simp only [okEv,decide_eq_true_eq]; omega
 ·have:=zm8 p l w (cnt p l)
  have h2:=zfy p l l.length
  unfold uns cnt at *
  omega
def covM (e:z6) (m:List (Int×Bool)):List (Int×Bool):=if(e.stay&&e.second)=true then mdel m e.report else if e.stay=true then mset m e.report true else m
def zj3 (e:z6) (b:Bool):z6:=⟨⟨e.visit.wagon,e.visit.place,e.visit.ref,b,e.visit.early,e.visit.late⟩,e.report,e.second,e.stay,e.reader⟩
def zkz:List z6->List (Int×Bool)->List z6
 | [],_=>[]
 | e::t,m=>zj3 e (decide ((0:Int) <((covM e m).length:Int)))::zkz t (covM e m)
theorem zbm:∀(t:List z6) (m:List (Int×Bool)),(zkz t m).length=t.length
 | [],_=>rfl
 | e::t,m=>by simp [zkz,zbm t]
def z42 (p:Pool) (l:List zd) (w:Int):List z6:=zkz (srt p l w) []
theorem ygn {α:Type} (a:List α) (x y:α) (b:List α):zw (a++x::b) (a.length:Int) y=a++y::b:=by
 simp [zw]
theorem yfn {α:Type} [Inhabited α] (a:List α) (x:α) (b:List α):gt (a++x::b) (a.length:Int)=x:=by
 simp [gt]
theorem ybs (φ:Nat) (k:Int->Int->List (List z6)->Option ((List (List z6))×Unit)) (x19 x20 x24:Int) (x23:List (List z6)) :
  ∀(n:Nat) (done todo:List z6) (m:List (Int×Bool)),todo.length<n->done.length+todo.length<=100000->
   z1f φ k n ((done.length+todo.length:Nat):Int) (done.length:Int) x19 x20 (done++todo) m x23 x24=k x19 (W (x20+1)) (zw x23 x24 (done++zkz todo m)):=by
 intro n
 induction n with
 | zero=>intro d t m h _; omega
 | succ n ih=>
  intro d t m hn hl
  cases t with
  | nil=>
   rw [z1f,if_neg (by simp)]
   rfl
  | cons e t=>
   simp only [List.length_cons] at hn hl
   have hin :(0:Int)<=(d.length:Int)/\(d.length:Int) <((d++e::t).length:Int):=⟨by omega,by simp; omega⟩
   have key:∀ m',z48 φ (z1f φ k n) (d.length:Int) ((d.length +(e::t).length:Nat):Int) (d.length:Int) x19 x20 (d++e::t) m' x23 x24 =
     k x19 (W (x20+1)) (zw x23 x24 (d++zj3 e (decide ((0:Int) <(m'.length:Int)))::zkz t m')):=by
    intro m'
    unfold z48
    rw [z7 hin,yfn,W_id (by omega) (by omega),ygn]
    have:=ih (d++[zj3 e (decide ((0:Int) <(m'.length:Int)))]) t m' (by omega) (by simp; omega)
    simp only [List.length_append,List.length_cons,List.length_nil,List.append_assoc,List.cons_append,List.nil_append] at this
    rw [show ((d.length +(e::t).length:Nat):Int) =((d.length +(0+1)+t.length:Nat):Int) by simp; omega,show (d.length:Int)+1 =((d.length +(0+1):Nat):Int) by omega]
    exact this
   rw [z1f,if_pos (by simp; omega),z7 hin,z7 (fun _=>hin),yfn]
   have hg:∀ m',covM e m=m'->zkz (e::t) m=zj3 e (decide ((0:Int) <(m'.length:Int)))::zkz t m':=fun m' hm=>by subst hm; rfl
   by_cases h1 :(e.stay&&e.second)=true
   ·rw [if_pos h1,z7 hin,key,hg _ (if_pos h1)]
   ·rw [if_neg h1,z7 hin]
    by_cases h2:e.stay=true
    ·rw [if_pos h2,z7 hin,key,hg (mset m e.report true) (by unfold covM; rw [if_neg h1,if_pos h2])]
    ·rw [if_neg h2,key,hg m (by unfold covM; rw [if_neg h1,if_neg h2])]
theorem ye8 (φ:Nat) (hφ:800000<φ) {p:Pool} (hc:zt p=0) {l:List zd} (hl:FewL l):zg2 φ p l=some ((List.range p.fleet.wagons.length).map fun(w:Nat)=>z42 p l (w:Int),()):=by
 have h1:=hl.len
 obtain⟨_,hf,_⟩:=z3m hc
 obtain⟨_,f2,_⟩:=z6n hf
 have hcl:=zfy p l l.length
 unfold zg2
 rw [z7 (mk_t _ _ (by omega) (by omega) (by omega)),yc9 φ hφ hc hl,Option.bind_some]
 generalize hn0:p.fleet.wagons.length=n0 at *
 have second:∀ out:List (List z6),out.length=n0->(∀ w:Nat,w<n0->gt out (w:Int)=uns p l w)->z21 φ φ (out.length:Int) 0 out=some ((List.range n0).map fun(w:Nat)=>z42 p l (w:Int),()):=by
  intro out ho hu
  rw [ho]
  refine zr (fun n i o=>z21 φ n (n0:Int) i o) n0 (fun i o=>o.length=n0/\∀ w:Nat,w<n0->gt o (w:Int)=if w<i then z42 p l w else uns p l w) (fun o=>o=some ((List.range n0).map fun(w:Nat)=>z42 p l (w:Int),())) ?_ ?_ φ out ⟨ho,fun w hw=>by rw [hu w hw,if_neg (by omega)]⟩ (by omega)
  ·intro n i o hi ⟨ho1,ho2⟩ hs
   rw [z21,if_pos (by simp; omega),z7 ⟨by omega,by omega⟩,z7 ⟨by omega,by omega⟩,z7 rfl,ho2 i hi,if_neg (by omega),ybu h1,Option.bind_some]
   have hsl :(srt p l (i:Int)).length<=2000:=by
    rw [srt,(z1q _ _).length_eq]
    have:=zm8 p l i (cnt p l)
    unfold uns cnt at *
    omega
   have:=ybs φ (z21 φ n) (n0:Int) (i:Int) (i:Int) o φ [] (srt p l (i:Int)) [] (by omega) (by simp; omega)
   simp only [List.length_nil,Nat.zero_add,List.nil_append] at this
   refine this.trans ?_
   rw [W_id (by omega) (by omega)]
   refine hs _ ⟨by rw [z05]; exact ho1,fun w hw=>?_⟩
   rw [zy _ _ _ _ (by omega) (by omega) (by omega)]
   by_cases e:w=i
   ·subst e; rw [if_pos rfl,if_pos (by omega)]; rfl
   ·rw [if_neg (by omega),ho2 w hw]
    by_cases h2:w<i
    ·rw [if_pos h2,if_pos (by omega)]
    ·rw [if_neg h2,if_neg (by omega)]
  ·intro n o ⟨ho1,ho2⟩
   rw [z21,if_neg (by simp)]
   congr 2
   refine List.ext_getElem (by simp [ho1]) fun w hw hw2=>?_
   have:=ho2 w (by omega)
   rw [z23 hw,if_pos (by omega)] at this
   simpa using this
 refine zr (fun n i o=>z36 φ n l (cnt p l) ((cnt p l).length:Int) i p o) (cnt p l).length (fun i o=>o.length=n0/\∀ w:Nat,w<n0->gt o (w:Int)=unsC p l ((cnt p l).take i) w) (fun o=>o=some ((List.range n0).map fun(w:Nat)=>z42 p l (w:Int),())) ?_ ?_ φ _ ⟨by simp,fun w hw=>?_⟩ (by unfold cnt; omega)
 ·intro n i o hi ⟨ho1,ho2⟩ hs
  have hmem:gt (cnt p l) (i:Int)∈cnt p l:=z0p (by omega) (by omega)
  obtain⟨c1,c2,c3⟩:=zv6 hmem
  have hI:=zby hc (hl.gt c1 c2) c3
  have hcn :(cnt p l).length<=1000:=by unfold cnt; omega
  rw [z36,if_pos (by simp; omega),z7 ⟨by omega,by omega⟩,z7 ⟨c1,c2⟩,y8m φ p _ _ hI.read,Option.bind_some]
  have hW:W ((i:Int)+1) =(i:Int)+1:=W_id (by omega) (by omega)
  have htake:∀ w,unsC p l ((cnt p l).take (i+1)) w=unsC p l ((cnt p l).take i) w++(if(gt l (gt (cnt p l) (i:Int))).item.wagon=w then evs p (gt l (gt (cnt p l) (i:Int))) (gt (cnt p l) (i:Int)) else []):=by
   intro w
   rw [z0b _ _ hi]
   simp [unsC]
  generalize gt (cnt p l) (i:Int)=ci at *
  generalize hev:evs p (gt l ci) ci=E at *
  have hE:E.length<=2:=by rw [<- hev]; exact y1a _ _ _
  simp only []
  by_cases h0:0<E.length
  ·have hkind :(gt l ci).item.kind<=9:=by
    rcases Int.lt_or_le 9 (gt l ci).item.kind with h | h
    ·exfalso
     have:E = []:=by
      rw [<- hev]; unfold evs
      rw [if_neg (by omega),if_neg (by omega),if_neg (by omega)]
     rw [this] at h0; simp at h0
    ·exact h
   have hwg:=hI.wagon hkind
   rw [hn0] at hwg
   obtain⟨w0,hw0⟩:∃ w0:Nat,(gt l ci).item.wagon =(w0:Int):=⟨(gt l ci).item.wagon.toNat,by omega⟩
   rw [hw0] at hwg htake ⊢
   have hwg' :(0:Int)<=(w0:Int)/\(w0:Int) <(o.length:Int):=⟨by omega,by omega⟩
   have hul:=zm8 p l w0 ((cnt p l).take i)
   rw [if_pos (by simpa using h0),z7 ⟨c1,c2⟩,z7 hwg',z7 hwg',z7 trivial,ho2 w0 (by omega),
    z7 (zgg (by rw [List.length_take] at hul; omega) (by omega)),z7 hwg',z7 trivial,hW]
   refine hs _ ⟨by rw [z05]; exact ho1,fun w hw=>?_⟩
   rw [zy _ _ _ _ (by omega) (by omega) (by omega),htake]
   by_cases e :(w:Int) =(w0:Int)
   ·rw [if_pos e,e,if_pos rfl]
   ·rw [if_neg e,if_neg (fun q=>e q.symm),List.append_nil,ho2 w hw]
  ·have hnil:E = []:=List.eq_nil_of_length_eq_zero (by omega)
   rw [if_neg (by simpa using h0),hW]
   refine hs _ ⟨ho1,fun w hw=>?_⟩
   rw [htake,hnil,ho2 w hw]
   split <;> simp
 ·intro n o ⟨ho1,ho2⟩
  rw [z36,if_neg (by simp)]
  refine second o ho1 fun w hw=>?_
  rw [ho2 w hw,List.take_length]; rfl
 ·rw [z17 _ _ _ (by omega) (by simp; omega)]
  simp [unsC]
  rfl
theorem yhq {p:Pool} {l:List zd} {w:Int} (h0:0<=w) (h:w <(p.fleet.wagons.length:Int)):gt ((List.range p.fleet.wagons.length).map fun(w:Nat)=>z42 p l (w:Int)) w=z42 p l w:=by
 obtain⟨n,rfl⟩:∃ n:Nat,w =(n:Int):=⟨w.toNat,by omega⟩
 rw [z23 (by simp; omega)]
 simp
end Px
end
section
namespace Px
open Go
theorem zfj (m:List (Int×Int)) (a v c:Int):mget (mset m a v) c=if c=a then some v else mget m c:=by
 induction m with
 | nil=>
  show (bif c==a then some v else none)=_
  by_cases h:c=a
  ·rw [if_pos h]; simp [h]
  ·rw [if_neg h]
   have :(c==a)=false:=by simpa using h
   rw [this]; rfl
 | cons p m ih=>
  obtain⟨k,w⟩:=p
  show mget (bif a==k then(a,v)::m else(k,w)::mset m a v) c=_
  have e1:mget ((k,w)::m) c=bif c==k then some w else mget m c:=rfl
  by_cases h1:a=k
  ·subst h1
   simp only [beq_self_eq_true,cond_true]
   show (bif c==a then some v else mget m c)=_
   rw [e1]
   by_cases h:c=a
   ·rw [if_pos h]; simp [h]
   ·rw [if_neg h]
    have :(c==a)=false:=by simpa using h
    rw [this]; rfl
  ·have :(a==k)=false:=by simpa using h1
   rw [this]
   show (bif c==k then some w else mget (mset m a v) c)=_
   rw [ih,e1]
   by_cases h2:c=k
   ·subst h2
    have h3:¬ c=a:=fun e=>h1 e.symm
    simp [h3]
   ·have :(c==k)=false:=by simpa using h2
    rw [this]; rfl
theorem zll {p:Pool} {l:List zd} (hl:l.length<=1000) (w:Int) :(z42 p l w).length<=2000:=by
 unfold z42
 rw [zbm,srt,(z1q _ _).length_eq]
 have:=zm8 p l w (cnt p l)
 have:=zfy p l l.length
 unfold uns cnt at *
 omega
end Px
end
section
namespace Px
open Go
theorem yff (φ:Nat) (hφ:800000<φ) (x:ze) (a b:zk):∃ t,z3g φ x a b=some (t,())/\0<=t/\t<=1073741825:=by
 unfold z3g
 split
 ·exact⟨_,rfl,by omega,by omega⟩
 ·obtain⟨t,e,h,h1,h2⟩:=zqa φ hφ x a.place b.place
  rw [h,Option.bind_some]
  split
  ·exact⟨_,rfl,by omega,by omega⟩
  ·exact⟨_,rfl,h1,by omega⟩
def tvl (φ:Nat) (x:ze) (a b:zk):Int:=((z3g φ x a b).getD default).1
theorem ydc (φ:Nat) (hφ:800000<φ) (x:ze) (a b:zk):z3g φ x a b=some (tvl φ x a b,())/\0<=tvl φ x a b/\tvl φ x a b<=1073741825:=by
 obtain⟨t,h,h1,h2⟩:=yff φ hφ x a b
 unfold tvl
 rw [h]
 exact⟨rfl,h1,h2⟩
def y0:Nat->Ref:=fun _=>(default:Ref)
def y1 (r:Ref):Nat->Ref:=upd (fun _=>(default:Ref)) 0 r
def y2 (r q:Ref):Nat->Ref:=upd (upd (fun _=>(default:Ref)) 0 r) 1 q
def zyj (m:List (Int×Int)) (e:z6):List (Int×Int):=if 0<=e.reader then mset m e.reader 0 else m
def zqx (m:List (Int×Int)) (t:List z6):List (Int×Int):=t.foldl zyj m
def used (ts:List (List z6)):List (Int×Int):=ts.foldl zqx []
structure BS where
 v:Int
 b:List z8
 y:List (Nat->Ref)
 e:List z0h
structure RS where
 v:Int
 m:List (Int×Int)
 b:List z8
 y:List (Nat->Ref)
def zlb (rs:List z26) (i:Nat) (s:RS):RS:=
 if(mget s.m (i:Int)).isSome=true then⟨s.v+1,mset s.m (i:Int) s.v,s.b++[⟨0,s.v,0 -(gt rs (i:Int)).low⟩,⟨s.v,0,(gt rs (i:Int)).high⟩],s.y++[y0,y0]⟩ else s
def rdsN (rs:List z26) (m:List (Int×Int)):Nat->RS
 | 0=>⟨1,m,[],[]⟩
 | n+1=>zlb rs n (rdsN rs m n)
def rv (m:List (Int×Int)) (e:z6):Int:=(mget m e.reader).getD default
def evB (m:List (Int×Int)) (v:Int) (e:z6):List z8:=
 if e.reader<0 then [⟨0,v,e.visit.early⟩,⟨v,0,0-e.visit.early⟩]
 else [⟨rv m e,v,e.visit.early⟩,⟨v,rv m e,0-e.visit.early⟩,⟨0,v,1073741824⟩,⟨v,0,0⟩]
def evY (e:z6):List (Nat->Ref):=List.replicate (if e.reader<0 then 2 else 4) (y1 e.visit.ref)
def trB (tv:zk->zk->Int) (v:Int) (pr:Option zk) (e:z6):List z8:=
 match pr with
 | none=>[]
 | some a=>[⟨v,v-1,0-tv a e.visit⟩]
def trY (pr:Option zk) (e:z6):List (Nat->Ref):=
 match pr with
 | none=>[]
 | some a=>[y2 a.ref e.visit.ref]
def zpa (tv:zk->zk->Int) (m:List (Int×Int)) (pr:Option zk) (e:z6) (s:BS):BS:=
 ⟨s.v+1,s.b++evB m s.v e++trB tv s.v pr e,s.y++evY e++trY pr e,s.e++[⟨e.visit.wagon,e.visit.place,s.v,e.visit.ref,e.visit.stay⟩]⟩
def bEv (tv:zk->zk->Int) (m:List (Int×Int)):Option zk->List z6->BS->BS
 | _,[],s=>s
 | pr,e::t,s=>bEv tv m (some e.visit) t (zpa tv m pr e s)
def bAll (tv:zk->zk->Int) (rs:List z26) (ts:List (List z6)):BS:=
 ts.foldl (fun s t=>bEv tv (rdsN rs (used ts) rs.length).m none t s) ⟨(rdsN rs (used ts) rs.length).v,(rdsN rs (used ts) rs.length).b,(rdsN rs (used ts) rs.length).y,[]⟩
def bEnd (s:BS):zn×Int×Unit:=if 512<s.v\/4096<s.b.length then(⟨0,[],[],[]⟩,2,()) else(⟨s.v,s.b,s.y,s.e⟩,0,())
def zf (p:Pool) (l:List zd):List (List z6):=(List.range p.fleet.wagons.length).map fun(w:Nat)=>z42 p l (w:Int)
theorem z96 (rs:List z26) (m:List (Int×Int)):∀ n,1<=(rdsN rs m n).v/\(rdsN rs m n).v<=1+n/\(rdsN rs m n).b.length<=2*n/\(rdsN rs m n).y.length<=2*n
 | 0=>⟨by simp [rdsN],by simp [rdsN],by simp [rdsN],by simp [rdsN]⟩
 | n+1=>by
  obtain⟨h1,h2,h3,h4⟩:=z96 rs m n
  simp only [rdsN,zlb]
  split
  ·refine⟨?_,?_,?_,?_⟩ <;> simp <;> omega
  ·refine⟨?_,?_,?_,?_⟩ <;> omega
theorem ymd (m:List (Int×Int)) (v:Int) (e:z6) :(evB m v e).length<=4:=by
 unfold evB; split <;> simp
theorem yov (e:z6) :(evY e).length<=4:=by
 unfold evY; split <;> simp
theorem ymk (tv:zk->zk->Int) (v:Int) (pr:Option zk) (e:z6) :(trB tv v pr e).length<=1:=by
 cases pr <;> simp [trB]
theorem yp2 (pr:Option zk) (e:z6) :(trY pr e).length<=1:=by
 cases pr <;> simp [trY]
structure BB (n:Nat) (s:BS):Prop where
 v0:1<=s.v
 v1:s.v<=257+n
 b:s.b.length<=512+5*n
 y:s.y.length<=512+5*n
 e:s.e.length<=n
theorem BB.step {n:Nat} {s:BS} (h:BB n s) (tv m pr e):BB (n+1) (zpa tv m pr e s):=by
 have h1:=ymd m s.v e
 have h2:=yov e
 have h3:=ymk tv s.v pr e
 have h4:=yp2 pr e
 obtain⟨a,b,c,d,f⟩:=h
 unfold zpa
 constructor
 ·show 1<=s.v+1; omega
 ·show s.v+1<=257 +((n+1:Nat):Int); omega
 ·show (s.b++evB m s.v e++trB tv s.v pr e).length<=_
  rw [List.length_append,List.length_append]; omega
 ·show (s.y++evY e++trY pr e).length<=_
  rw [List.length_append,List.length_append]; omega
 ·show (s.e++[_]).length<=_
  rw [List.length_append]; simp; omega
theorem BB.ev (tv m):∀(t:List z6) (n:Nat) (pr:Option zk) (s:BS),BB n s->BB (n+t.length) (bEv tv m pr t s)
 | [],n,pr,s,h=>h
 | e::t,n,pr,s,h=>by
  have:=BB.ev tv m t (n+1) (some e.visit) (zpa tv m pr e s) (h.step tv m pr e)
  rw [show n +(e::t).length=n+1+t.length by simp; omega]
  exact this
section
variable (φ:Nat)
theorem ys3 (hφ:10<φ) (k) (x55 x56 x57 x58 x59 x60 x61 x62 x63 x64 x65 x66 x67 x68) (B:List z8) (x70 x71 x72 x73) (b:List z8) (y:List (Nat->Ref)) (x76 x77 x78 x79) (hB:B.length<=4) (hb:b.length<=50000000) (hy:y.length<=50000000) :
  z3u φ k φ (B.length:Int) 0 x55 x56 x57 x58 x59 x60 x61 x62 x63 x64 x65 x66 x67 x68 B x70 x71 x72 x73 b y x76 x77 x78 x79=k x55 x56 x57 (W (x58+1)) x70 x71 (W (x67+1)) x72 x77 x78 x79 (b++B) (y++List.replicate B.length x68) x76:=by
 refine zr (fun n i (s:List z8×List (Nat->Ref))=>z3u φ k n (B.length:Int) i x55 x56 x57 x58 x59 x60 x61 x62 x63 x64 x65 x66 x67 x68 B x70 x71 x72 x73 s.1 s.2 x76 x77 x78 x79) B.length (fun i s=>s.1=b++B.take i/\s.2=y++List.replicate i x68) (fun o=>o=k x55 x56 x57 (W (x58+1)) x70 x71 (W (x67+1)) x72 x77 x78 x79 (b++B) (y++List.replicate B.length x68) x76) ?_ ?_ φ (b,y) ⟨by simp,by simp⟩ (by omega)
 ·intro n i s hi ⟨h1,h2⟩ hs
  rw [z3u,if_pos (by simp; omega),z7 ⟨by omega,by omega⟩,z7 (z4w (by rw [h1]; simp; omega) (by omega)),z7 (z4w (by rw [h2]; simp; omega) (by omega)),W_id (by omega) (by omega)]
  exact hs (_,_) ⟨by rw [h1,z0b B i hi,List.append_assoc],by rw [h2,List.replicate_succ',List.append_assoc]⟩
 ·intro n s ⟨h1,h2⟩
  rw [z3u,if_neg (by simp),h1,h2,List.take_length]
theorem yqt (hφ:10<φ) (k) (x137 x138 x139 x140 x141 x142 x143 x144 x145 x146 x147 x148 x149 x150 x151 x152 x153 x154 x155 x156 x157) (B:List z8) (x159 x160 x161 x162 x163) (b:List z8) (y:List (Nat->Ref)) (x166 x167 x168 x169) (hB:B.length<=4) (hb:b.length<=50000000) (hy:y.length<=50000000) :
  z38 φ k φ (B.length:Int) 0 x137 x138 x139 x140 x141 x142 x143 x144 x145 x146 x147 x148 x149 x150 x151 x152 x153 x154 x155 x156 x157 B x159 x160 x161 x162 x163 b y x166 x167 x168 x169=k x137 x138 x139 x140 x141 x142 (W (x143+1)) x159 x160 x156 x161 x167 x168 x169 (b++B) (y++List.replicate B.length x157) x166:=by
 refine zr (fun n i (s:List z8×List (Nat->Ref))=>z38 φ k n (B.length:Int) i x137 x138 x139 x140 x141 x142 x143 x144 x145 x146 x147 x148 x149 x150 x151 x152 x153 x154 x155 x156 x157 B x159 x160 x161 x162 x163 s.1 s.2 x166 x167 x168 x169) B.length (fun i s=>s.1=b++B.take i/\s.2=y++List.replicate i x157) (fun o=>o=k x137 x138 x139 x140 x141 x142 (W (x143+1)) x159 x160 x156 x161 x167 x168 x169 (b++B) (y++List.replicate B.length x157) x166) ?_ ?_ φ (b,y) ⟨by simp,by simp⟩ (by omega)
 ·intro n i s hi ⟨h1,h2⟩ hs
  rw [z38,if_pos (by simp; omega),z7 ⟨by omega,by omega⟩,z7 (z4w (by rw [h1]; simp; omega) (by omega)),z7 (z4w (by rw [h2]; simp; omega) (by omega)),W_id (by omega) (by omega)]
  exact hs (_,_) ⟨by rw [h1,z0b B i hi,List.append_assoc],by rw [h2,List.replicate_succ',List.append_assoc]⟩
 ·intro n s ⟨h1,h2⟩
  rw [z38,if_neg (by simp),h1,h2,List.take_length]
theorem ypo (hφ:10<φ) (k) (x173 x174 x175 x176 x177 x178 x179 x180 x181 x182 x183) (B:List z8) (x185 x186 x187 x188) (b:List z8) (y:List (Nat->Ref)) (x191 x192 x193 x194) (hB:B.length<=4) (hb:b.length<=50000000) (hy:y.length<=50000000) :
  z32 φ k φ (B.length:Int) 0 x173 x174 x175 x176 x177 x178 x179 x180 x181 x182 x183 B x185 x186 x187 x188 b y x191 x192 x193 x194=z1e φ k x173 x174 x175 x176 x177 x178 x179 x180 x181 x185 x186 x182 x187 x188 x192 x193 x194 (b++B) (y++List.replicate B.length x183) x191:=by
 refine zr (fun n i (s:List z8×List (Nat->Ref))=>z32 φ k n (B.length:Int) i x173 x174 x175 x176 x177 x178 x179 x180 x181 x182 x183 B x185 x186 x187 x188 s.1 s.2 x191 x192 x193 x194) B.length (fun i s=>s.1=b++B.take i/\s.2=y++List.replicate i x183) (fun o=>o=z1e φ k x173 x174 x175 x176 x177 x178 x179 x180 x181 x185 x186 x182 x187 x188 x192 x193 x194 (b++B) (y++List.replicate B.length x183) x191) ?_ ?_ φ (b,y) ⟨by simp,by simp⟩ (by omega)
 ·intro n i s hi ⟨h1,h2⟩ hs
  rw [z32,if_pos (by simp; omega),z7 ⟨by omega,by omega⟩,z7 (z4w (by rw [h1]; simp; omega) (by omega)),z7 (z4w (by rw [h2]; simp; omega) (by omega)),W_id (by omega) (by omega)]
  exact hs (_,_) ⟨by rw [h1,z0b B i hi,List.append_assoc],by rw [h2,List.replicate_succ',List.append_assoc]⟩
 ·intro n s ⟨h1,h2⟩
  rw [z32,if_neg (by simp),h1,h2,List.take_length]
theorem yr0 (hφ:10<φ) (k) (x173 x174 x175 x176 x177 x178 x179 x180 x181 x182 x183) (B:List z8) (x185 x186 x187 x188) (b:List z8) (y:List (Nat->Ref)) (x191 x192 x193 x194) (hB:B.length<=4) (hb:b.length<=50000000) (hy:y.length<=50000000) :
  z35 φ k φ (B.length:Int) 0 x173 x174 x175 x176 x177 x178 x179 x180 x181 x182 x183 B x185 x186 x187 x188 b y x191 x192 x193 x194=z1e φ k x173 x174 x175 x176 x177 x178 x179 x180 x181 x185 x186 x182 x187 x188 x192 x193 x194 (b++B) (y++List.replicate B.length x183) x191:=by
 refine zr (fun n i (s:List z8×List (Nat->Ref))=>z35 φ k n (B.length:Int) i x173 x174 x175 x176 x177 x178 x179 x180 x181 x182 x183 B x185 x186 x187 x188 s.1 s.2 x191 x192 x193 x194) B.length (fun i s=>s.1=b++B.take i/\s.2=y++List.replicate i x183) (fun o=>o=z1e φ k x173 x174 x175 x176 x177 x178 x179 x180 x181 x185 x186 x182 x187 x188 x192 x193 x194 (b++B) (y++List.replicate B.length x183) x191) ?_ ?_ φ (b,y) ⟨by simp,by simp⟩ (by omega)
 ·intro n i s hi ⟨h1,h2⟩ hs
  rw [z35,if_pos (by simp; omega),z7 ⟨by omega,by omega⟩,z7 (z4w (by rw [h1]; simp; omega) (by omega)),z7 (z4w (by rw [h2]; simp; omega) (by omega)),W_id (by omega) (by omega)]
  exact hs (_,_) ⟨by rw [h1,z0b B i hi,List.append_assoc],by rw [h2,List.replicate_succ',List.append_assoc]⟩
 ·intro n s ⟨h1,h2⟩
  rw [z35,if_neg (by simp),h1,h2,List.take_length]
theorem yhn (hφ:800000<φ) (k) (T:List z6) (n:Nat) (hn:n<T.length) (x115 x116 x117 x118 x119 x120) (x122:Pool) (x123:Int) (x125:List (Int×Int)) (e:z6) (pr:Option zk) (hpr:pr=if 0<n then some (gt T ((n:Int)-1)).visit else none) (x127 x128 x129) (b:List z8) (y:List (Nat->Ref)) (x132) (hb:b.length<=50000000) (hy:y.length<=50000000) (h15:0<=x115/\x115<=100000000) (hT:n<=100000000) :
  z1e φ k T (n:Int) x115 x116 x117 x118 x119 x120 (n:Int) x122 x123 (x115+1) x125 e x127 x128 x129 b y x132 =
   k T x116 x117 x118 x119 x120 ((n+1:Nat):Int) x122 x123 (x115+1) x125 x127 x128 x129 (b++trB (tvl φ x122.network) x115 pr e) (y++trY pr e) x132:=by
 have hW:W ((n:Int)+1) =((n+1:Nat):Int):=by rw [W_id (by omega) (by omega)]; omega
 unfold z1e
 by_cases h:0<n
 ·obtain⟨ht,t1,t2⟩:=ydc φ hφ x122.network (gt T ((n:Int)-1)).visit e.visit
  rw [if_pos (by simp; omega),W_id (x:=(n:Int)-1) (by omega) (by omega),z7 ⟨by omega,by omega⟩,ht,Option.bind_some,W_id (x:=x115-1) (by omega) (by omega)]
  rw [hpr,if_pos h]
  simp only [trB,trY]
  generalize tvl φ x122.network (gt T ((n:Int)-1)).visit e.visit=tt at *
  rw [W_id (x:=0-tt) (by omega) (by omega)]
  refine(yqt φ (by omega) k T x116 x117 x118 x119 x120 (n:Int) _ _ _ _ _ _ _ _ _ _ _ _ _ _ ([⟨x115,x115-1,0-tt⟩]:List z8) x122 x123 x125 _ _ b y x132 x127 x128 x129 (by simp) hb hy).trans ?_
  rw [hW]
  rfl
 ·rw [if_neg (by simp; omega),hW,hpr,if_neg h]
  simp only [trB,trY,List.append_nil]
theorem yck (hφ:800000<φ) (k) (x96 x97 x98) (T:List z6) (hE:∀ e∈T,0<=e.visit.early/\e.visit.early<=1073741824) (x102:Pool) (x103:Int) (m:List (Int×Int)) (g1 g2 g3) (hT:T.length<=2000) :
  ∀(n i N:Nat) (s:BS),T.length<n+i->i<=T.length->BB N s->N<=8300000+i->
   z0q φ k n T x96 x97 x98 T (T.length:Int) (i:Int) x102 x103 s.v m g1 g2 g3 s.b s.y s.e =
    (fun s':BS=>k x96 x97 (W (x98+1)) x102 x103 s'.v m g1 g2 g3 s'.b s'.y s'.e) (bEv (tvl φ x102.network) m (if 0<i then some (gt T ((i:Int)-1)).visit else none) (T.drop i) s):=by
 intro n
 induction n with
 | zero=>intro i N s h1 h2; exfalso; omega
 | succ n ih=>
  intro i N s h1 h2 hB hN
  obtain⟨v0,v1,b1,b2,b3⟩:=hB
  by_cases hi:i<T.length
  ·obtain⟨e0,e1⟩:=hE _ (z0p (l:=T) (i:=(i:Int)) (by omega) (by omega))
   have hWv:W (s.v+1)=s.v+1:=W_id (by omega) (by omega)
   have hWe:W (0 -(gt T (i:Int)).visit.early)=0 -(gt T (i:Int)).visit.early:=W_id (by omega) (by omega)
   have hnext:=ih (i+1) (N+1) (zpa (tvl φ x102.network) m (if 0<i then some (gt T ((i:Int)-1)).visit else none) (gt T (i:Int)) s) (by omega) (by omega) (BB.step ⟨v0,v1,b1,b2,b3⟩ _ _ _ _) (by omega)
   rw [if_pos (show 0<i+1 by omega),show ((i+1:Nat):Int)-1 =(i:Int) by omega] at hnext
   rw [y1c T i hi]
   refine Eq.trans ?_ hnext
   rw [z0q,if_pos (by simp; omega),z7 ⟨by omega,by omega⟩,z7 (z4w (by simp; omega) (by omega)),hWv,hWe]
   by_cases hr :(gt T (i:Int)).reader<0
   ·rw [if_pos (by simpa using hr)]
    refine(ypo φ (by omega) (z0q φ k n) T (i:Int) s.v x96 x97 x98 T (T.length:Int) (i:Int) (s.v+1) (y1 (gt T (i:Int)).visit.ref) ([⟨0,s.v,(gt T (i:Int)).visit.early⟩,⟨s.v,0,0 -(gt T (i:Int)).visit.early⟩]:List z8) x102 x103 m (gt T (i:Int)) s.b s.y _ g1 g2 g3 (by simp) (by omega) (by omega)).trans ?_
    refine(yhn φ hφ (z0q φ k n) T i hi s.v x96 x97 x98 T (T.length:Int) x102 x103 m (gt T (i:Int)) _ rfl g1 g2 g3 _ _ _ (by simp; omega) (by simp; omega) ⟨by omega,by omega⟩ (by omega)).trans ?_
    simp only [zpa,evB,evY,if_pos hr]
    rfl
   ·rw [if_neg (by simpa using hr)]
    refine(yr0 φ (by omega) (z0q φ k n) T (i:Int) s.v x96 x97 x98 T (T.length:Int) (i:Int) (s.v+1) (y1 (gt T (i:Int)).visit.ref) ([⟨rv m (gt T (i:Int)),s.v,(gt T (i:Int)).visit.early⟩,⟨s.v,rv m (gt T (i:Int)),0 -(gt T (i:Int)).visit.early⟩,⟨0,s.v,1073741824⟩,⟨s.v,0,0⟩]:List z8) x102 x103 m (gt T (i:Int)) s.b s.y _ g1 g2 g3 (by simp) (by omega) (by omega)).trans ?_
    refine(yhn φ hφ (z0q φ k n) T i hi s.v x96 x97 x98 T (T.length:Int) x102 x103 m (gt T (i:Int)) _ rfl g1 g2 g3 _ _ _ (by simp; omega) (by simp; omega) ⟨by omega,by omega⟩ (by omega)).trans ?_
    simp only [zpa,evB,evY,if_neg hr]
    rfl
  ·have:i=T.length:=by omega
   subst this
   rw [z0q,if_neg (by simp),List.drop_length]
   rfl
theorem y6h (hφ:800000<φ) (ts:List (List z6)) (hE:∀ T∈ts,T.length<=2000/\∀ e∈T,0<=e.visit.early/\e.visit.early<=1073741824) (hts:ts.length<=4096) (x84:Pool) (x85:Int) (m:List (Int×Int)) (g1 g2 g3) (s:BS) (hs:BB 0 s) :
  z2o φ φ ts (ts.length:Int) 0 x84 x85 s.v m g1 g2 g3 s.b s.y s.e=some (bEnd (ts.foldl (fun s t=>bEv (tvl φ x84.network) m none t s) s)):=by
 refine zr (fun n i (s:BS)=>z2o φ n ts (ts.length:Int) i x84 x85 s.v m g1 g2 g3 s.b s.y s.e) ts.length (fun i s'=>BB (2000*i) s'/\s' =(ts.take i).foldl (fun s t=>bEv (tvl φ x84.network) m none t s) s) (fun o=>o=some (bEnd (ts.foldl (fun s t=>bEv (tvl φ x84.network) m none t s) s))) ?_ ?_ φ s ⟨hs,rfl⟩ (by omega)
 ·intro n i s' hi ⟨h1,h2⟩ hk
  obtain⟨q1,q2⟩:=hE _ (z0p (l:=ts) (i:=(i:Int)) (by omega) (by omega))
  rw [z2o,if_pos (by simp; omega),z7 ⟨by omega,by omega⟩]
  have:=yck φ hφ (z2o φ n) ts (ts.length:Int) (i:Int) (gt ts (i:Int)) q2 x84 x85 m g1 g2 g3 q1 φ 0 (2000*i) s' (by omega) (by omega) h1 (by omega)
  refine this.trans ?_
  simp only [W_id (x:=(i:Int)+1) (by omega) (by omega),List.drop_zero]
  rw [if_neg (by omega)]
  refine hk _ ⟨?_,?_⟩
  ·have:=BB.ev (tvl φ x84.network) m (gt ts (i:Int)) (2000*i) none s' h1
   obtain⟨a,b,c,d,f⟩:=this
   exact⟨a,by omega,by omega,by omega,by omega⟩
  ·rw [z0b ts i hi,List.foldl_append,<- h2]; rfl
 ·intro n s' ⟨h1,h2⟩
  rw [List.take_length] at h2
  rw [z2o,if_neg (by simp),<- h2]
  unfold bEnd
  by_cases h:512<s'.v\/4096<s'.b.length
  ·rw [if_pos (by simp; omega),if_pos h]
  ·rw [if_neg (by simp; omega),if_neg h]
theorem y5k (hφ:800000<φ) (ts:List (List z6)) (hE:∀ T∈ts,T.length<=2000/\∀ e∈T,0<=e.visit.early/\e.visit.early<=1073741824) (hts:ts.length<=4096) (p:Pool) (hp:p.readers.length<=256) (hr:∀ r∈p.readers,-1000<=r.low/\r.low<=1000) (x43:Int) (m:List (Int×Int)) (g1 g2) :
  z1v φ φ ts p.readers (p.readers.length:Int) 0 p x43 1 m g1 g2 [] [] [] []=some (bEnd (ts.foldl (fun s t=>bEv (tvl φ p.network) (rdsN p.readers m p.readers.length).m none t s) ⟨(rdsN p.readers m p.readers.length).v,(rdsN p.readers m p.readers.length).b,(rdsN p.readers m p.readers.length).y,[]⟩)):=by
 refine zr (fun n i (s:RS)=>z1v φ n ts p.readers (p.readers.length:Int) i p x43 s.v s.m g1 g2 [] s.b s.y []) p.readers.length (fun i s=>s=rdsN p.readers m i) (fun o=>o=_) ?_ ?_ φ ⟨1,m,[],[]⟩ rfl (by omega)
 ·intro n i s hi hs hk
  obtain⟨a1,a2,a3,a4⟩:=z96 p.readers m i
  rw [<- hs] at a1 a2 a3 a4
  obtain⟨r1,r2⟩:=hr _ (z0p (l:=p.readers) (i:=(i:Int)) (by omega) (by omega))
  have hk':=hk (rdsN p.readers m (i+1)) rfl
  simp only [rdsN,zlb] at hk'
  rw [<- hs] at hk'
  have hW:W ((i:Int)+1) =(i:Int)+1:=W_id (by omega) (by omega)
  rw [z1v,if_pos (by simp; omega),z7 ⟨by omega,by omega⟩]
  by_cases h :(mget s.m (i:Int)).isSome=true
  ·rw [if_pos h] at hk' ⊢
   have hWl:W (0 -(gt p.readers (i:Int)).low)=0 -(gt p.readers (i:Int)).low:=W_id (by omega) (by omega)
   rw [hWl]
   refine(ys3 φ (by omega) (z1v φ n) ts p.readers (p.readers.length:Int) (i:Int) _ _ _ _ _ _ _ _ _ _ ([⟨0,s.v,0 -(gt p.readers (i:Int)).low⟩,⟨s.v,0,(gt p.readers (i:Int)).high⟩]:List z8) p x43 (mset s.m (i:Int) s.v) _ s.b s.y [] g1 g2 [] (by simp) (by omega) (by omega)).trans ?_
   rw [hW,W_id (x:=s.v+1) (by omega) (by omega)]
   exact hk'
  ·rw [if_neg h] at hk' ⊢
   rw [hW]
   exact hk'
 ·intro n s hs
  rw [z1v,if_neg (by simp),<- hs]
  obtain⟨a1,a2,a3,a4⟩:=z96 p.readers m p.readers.length
  rw [<- hs] at a1 a2 a3 a4
  exact y6h φ hφ ts hE hts p x43 s.m g1 g2 [] ⟨s.v,s.b,s.y,[]⟩ ⟨a1,by show s.v<=_; omega,by show s.b.length<=_; omega,by show s.y.length<=_; omega,by simp⟩
theorem yea (k) (x20 x21 x22 x23) (T:List z6) (hT:T.length<=2000) (hφ:800000<φ) (x27 x28 x29 x30 x31 x32 x33 x34 x35 x36) :
  z2l φ k φ x20 x21 x22 x23 T (T.length:Int) 0 x27 x28 x29 x30 x31 x32 x33 x34 x35 x36=k x20 x21 x22 (W (x23+1)) x27 x28 x29 (zqx x30 T) x31 x32 x33 x34 x35 x36:=by
 refine zr (fun n i (m:List (Int×Int))=>z2l φ k n x20 x21 x22 x23 T (T.length:Int) i x27 x28 x29 m x31 x32 x33 x34 x35 x36) T.length (fun i m=>m=zqx x30 (T.take i)) (fun o=>o=_) ?_ ?_ φ x30 rfl (by omega)
 ·intro n i m hi hm hk
  have hk':=hk (zqx x30 (T.take (i+1))) rfl
  rw [z0b T i hi] at hk'
  simp only [zqx,List.foldl_append,List.foldl_cons,List.foldl_nil] at hk' hm
  rw [<- hm] at hk'
  rw [z2l,if_pos (by simp; omega),z7 ⟨by omega,by omega⟩,W_id (by omega) (by omega)]
  unfold zyj at hk'
  by_cases h:0<=(gt T (i:Int)).reader
  ·rw [if_pos h] at hk'
   rw [if_pos (by simpa using h)]
   exact hk'
  ·rw [if_neg h] at hk'
   rw [if_neg (by simpa using h)]
   exact hk'
 ·intro n m hm
  rw [List.take_length] at hm
  rw [z2l,if_neg (by simp),hm]
theorem yg6 {p:Pool} {r:zd} (h:y2m p r.item) {i:Int} {x:z6} (hx:x∈evs p r i):0<=x.visit.early/\x.visit.early<=1073741824:=by
 have hf:=h.from_
 have ht:=h.to
 unfold evs at hx
 split at hx
 ·simp only [List.mem_singleton] at hx; subst hx
  simp only [z3f]; omega
 ·split at hx
  ·simp only [List.mem_cons,List.not_mem_nil,or_false] at hx
   rcases hx with rfl | rfl <;> simp only [z3f] <;> omega
  ·split at hx
   ·simp only [List.mem_singleton] at hx; subst hx
    simp only [z3f]; omega
   ·cases hx
theorem y3h:∀ {t:List z6} {m:List (Int×Bool)} {x:z6},x∈zkz t m->∃ y∈t,∃ b,x=zj3 y b
 | [],m,x,h=>by cases h
 | e::t,m,x,h=>by
  rcases List.mem_cons.1 h with rfl | h
  ·exact⟨e,List.mem_cons_self,_,rfl⟩
  ·obtain⟨y,hy,b,hb⟩:=y3h h
   exact⟨y,List.mem_cons_of_mem _ hy,b,hb⟩
theorem zlf {p:Pool} {l:List zd} {w:Int} {x:z6} (h:x∈z42 p l w):∃ y∈uns p l w,∃ b,x=zj3 y b:=by
 obtain⟨y,hy,b,hb⟩:=y3h h
 exact⟨y,(z1q _ _).mem_iff.1 hy,b,hb⟩
theorem zte {p:Pool} (hc:zt p=0) {l:List zd} (hl:FewL l) {w:Int} {x:z6} (h:x∈z42 p l w):0<=x.visit.early/\x.visit.early<=1073741824:=by
 obtain⟨y,hy,b,rfl⟩:=zlf h
 obtain⟨h1,h2,_,h3,h4⟩:=zva hl.len hy
 show 0<=y.visit.early/\y.visit.early<=1073741824
 exact yg6 (zby hc (hl.gt h1 h2) h3) h4
theorem zmb (hφ:800000<φ) (p:Pool) {l:List zd} (hl:FewL l) :
  zap φ p l=some (if zt p=0 then bEnd (bAll (tvl φ p.network) p.readers (zf p l)) else(⟨0,[],[],[]⟩,zt p,())):=by
 unfold zap
 rw [z9i φ hφ,Option.bind_some]
 by_cases hc:zt p=0
 case neg=>rw [if_pos (by simpa using hc),if_neg hc]
 rw [if_neg (by simp [hc]),if_pos hc,ye8 φ hφ hc hl,Option.bind_some]
 obtain⟨_,hf,hr1,_⟩:=z3m hc
 obtain⟨_,f2,_⟩:=z6n hf
 have hrd:=(zm2 hc).1
 show z2p φ φ (zf p l) (zf p l) ((zf p l).length:Int) 0 p 0 1 [] [] [] [] [] [] []=_
 have hlen :(zf p l).length<=4096:=by unfold zf; simp; omega
 have hE:∀ T∈zf p l,T.length<=2000/\∀ e∈T,0<=e.visit.early/\e.visit.early<=1073741824:=by
  intro T hT
  unfold zf at hT
  obtain⟨w,_,rfl⟩:=List.mem_map.1 hT
  exact⟨zll hl.len _,fun e he=>zte hc hl he⟩
 generalize zf p l=ts at *
 refine zr (fun n i (m:List (Int×Int))=>z2p φ n ts ts (ts.length:Int) i p 0 1 m [] [] [] [] [] []) ts.length (fun i m=>m =(ts.take i).foldl zqx []) (fun o=>o=some (bEnd (bAll (tvl φ p.network) p.readers ts))) ?_ ?_ φ [] rfl (by omega)
 ·intro n i m hi hm hk
  rw [z2p,if_pos (by simp; omega),z7 ⟨by omega,by omega⟩]
  rw [yea φ (z2p φ n) ts ts (ts.length:Int) (i:Int) (gt ts (i:Int)) (hE _ (z0p (by omega) (by omega))).1 hφ,W_id (by omega) (by omega)]
  exact hk _ (by rw [z0b ts i hi,List.foldl_append,<- hm]; rfl)
 ·intro n m hm
  rw [List.take_length] at hm
  rw [z2p,if_neg (by simp)]
  refine(y5k φ hφ ts hE hlen p hr1 (fun r hr=>?_) 0 m [] []).trans ?_
  ·have:=hrd r hr; omega
  ·rw [hm]; rfl
end
end Px
end
section
namespace Px
open Go
def idx:List zd->Ref->Int
 | [],_=>0
 | r::l,q=>if r.ref.railway=q.railway/\r.ref.no=q.no then 0 else idx l q+1
theorem zz6:Sort.SWO ltEv where
 irrefl:=fun x=>by
  unfold ltEv
  simp only [decide_eq_false_iff_not]
  rw [zgr]; omega
 trans:=fun x y z h1 h2=>by
  unfold ltEv at *
  simp only [decide_eq_true_eq] at *
  rw [zgr] at *
  omega
 ntrans:=fun x y z h1 h2=>by
  unfold ltEv at *
  simp only [decide_eq_false_iff_not] at *
  rw [zgr] at *
  omega
theorem zlv (φ:Nat) (x:List zk) (hb:x.length<φ) (h:x.length<=100000000):z37 φ x x=some (true,()):=by
 unfold z37
 rw [if_neg (by simp)]
 refine zr (fun n i (_:Unit)=>z2b φ n x x i) x.length (fun _ _=>True) (fun o=>o=some (true,())) ?_ ?_ φ () trivial hb
 ·intro n i _ hi _ hs
  rw [z2b,if_pos (by simp; omega),z7 ⟨by omega,by omega⟩,z7 ⟨by omega,by omega⟩,if_neg (by simp),W_id (by omega) (by omega)]
  exact hs () trivial
 intro n _ _
 rw [z2b,if_neg (by simp)]
end Px
end
section
namespace Px
open Go
def evE (v:Int) (e:z6):z0h:=⟨e.visit.wagon,e.visit.place,v,e.visit.ref,e.visit.stay⟩
def evsE:Int->List z6->List z0h
 | _,[]=>[]
 | v,e::t=>evE v e::evsE (v+1) t
def bnds (tv:zk->zk->Int) (m:List (Int×Int)):Option zk->Int->List z6->List z8
 | _,_,[]=>[]
 | pr,v,e::t=>evB m v e++trB tv v pr e++bnds tv m (some e.visit) (v+1) t
theorem yge (tv m):∀(t:List z6) (pr) (s:BS),(bEv tv m pr t s).v=s.v+t.length
 | [],pr,s=>by simp [bEv]
 | e::t,pr,s=>by
  rw [bEv,yge tv m t]
  simp only [zpa,List.length_cons]; omega
theorem yk7 (tv m):∀(t:List z6) (pr) (s:BS),(bEv tv m pr t s).b=s.b++bnds tv m pr s.v t
 | [],pr,s=>by simp [bEv,bnds]
 | e::t,pr,s=>by
  rw [bEv,yk7 tv m t]
  simp only [zpa,bnds,List.append_assoc]
theorem y6z (tv m):∀(t:List z6) (pr) (s:BS),(bEv tv m pr t s).e=s.e++evsE s.v t
 | [],pr,s=>by simp [bEv,evsE]
 | e::t,pr,s=>by
  rw [bEv,y6z tv m t]
  simp only [zpa,evsE,evE,List.append_assoc,List.cons_append,List.nil_append]
theorem zyk:∀(t:List z6) (v:Int),(evsE v t).length=t.length
 | [],v=>rfl
 | e::t,v=>by simp [evsE,zyk t]
theorem zq0:∀(t:List z6) (v:Int) (i:Nat),(evsE v t)[i]? =(t[i]?).map (evE (v+i))
 | [],v,i=>by simp [evsE]
 | e::t,v,0=>by simp [evsE]
 | e::t,v,i+1=>by
  simp only [evsE,List.getElem?_cons_succ]
  rw [zq0 t (v+1) i]
  congr 2; omega
theorem zy0 (tv m):∀(t:List z6) (pr) (v:Int) (i:Nat) (e:z6),t[i]? = some e->∀ b∈evB m (v+i) e,b∈bnds tv m pr v t
 | [],pr,v,i,e,h,b,hb=>by simp at h
 | x::t,pr,v,0,e,h,b,hb=>by
  simp at h; subst h
  rw [show v +((0:Nat):Int)=v by omega] at hb
  simp only [bnds]
  exact List.mem_append_left _ (List.mem_append_left _ hb)
 | x::t,pr,v,i+1,e,h,b,hb=>by
  simp only [bnds]
  refine List.mem_append_right _ (zy0 tv m t _ (v+1) i e (by simpa using h) b ?_)
  rw [show v+1 +(i:Int)=v +((i+1:Nat):Int) by omega]; exact hb
theorem yga (tv m):∀(t:List z6) (pr) (v:Int) (i:Nat) (a e:z6),t[i]? = some a->t[i+1]? = some e->(⟨v+i+1,v+i,0-tv a.visit e.visit⟩:z8)∈bnds tv m pr v t
 | [],pr,v,i,a,e,h,_=>by simp at h
 | [x],pr,v,0,a,e,h,h2=>by simp at h2
 | x::y::t,pr,v,0,a,e,h,h2=>by
  simp at h h2; subst h; subst h2
  simp only [bnds,trB]
  refine List.mem_append_right _ (List.mem_append_left _ (List.mem_append_right _ (List.mem_singleton.2 ?_)))
  simp
 | x::t,pr,v,i+1,a,e,h,h2=>by
  have:=yga tv m t (some x.visit) (v+1) i a e (by simpa using h) (by simpa using h2)
  simp only [bnds]
  refine List.mem_append_right _ ?_
  rw [show v +((i+1:Nat):Int)+1=v+1 +(i:Int)+1 by omega,show v +((i+1:Nat):Int)=v+1 +(i:Int) by omega]
  exact this
theorem zxk (tv m):∀(t:List z6) (pr) (v:Int) (b:z8),b∈bnds tv m pr v t->∃ i:Nat,∃ e:z6,t[i]? = some e/\(b∈evB m (v+i) e\/∃ a:zk,(0<i\/pr.isSome=true)/\b =⟨v+i,v+i-1,0-tv a e.visit⟩)
 | [],pr,v,b,h=>by simp [bnds] at h
 | x::t,pr,v,b,h=>by
  simp only [bnds,List.mem_append] at h
  rcases h with(h | h) | h
  ·exact⟨0,x,rfl,.inl (by rw [show v +((0:Nat):Int)=v by omega]; exact h)⟩
  ·cases pr with
   | none=>simp [trB] at h
   | some a=>
    simp only [trB,List.mem_singleton] at h
    exact⟨0,x,rfl,.inr ⟨a,.inr rfl,by rw [h]; simp⟩⟩
  ·obtain⟨i,e,hi,hb⟩:=zxk tv m t _ _ b h
   refine⟨i+1,e,by simpa using hi,?_⟩
   rw [show v +((i+1:Nat):Int)=v+1 +(i:Int) by omega]
   rcases hb with hb |⟨a,_,hb⟩
   ·exact .inl hb
   ·exact .inr ⟨a,.inl (by omega),hb⟩
def fB (tv:zk->zk->Int) (m:List (Int×Int)) (ts:List (List z6)) (s:BS):BS:=ts.foldl (fun s t=>bEv tv m none t s) s
theorem ym9 (tv m) (A B:List (List z6)) (s:BS):fB tv m (A++B) s=fB tv m B (fB tv m A s):=List.foldl_append ..
theorem zr0 (tv m):∀(ts:List (List z6)) (s:BS),s.v<=(fB tv m ts s).v/\(∃ b,(fB tv m ts s).b=s.b++b)/\∃ e,(fB tv m ts s).e=s.e++e
 | [],s=>⟨Int.le_refl _,⟨[],by simp [fB]⟩,[],by simp [fB]⟩
 | t::ts,s=>by
  obtain⟨h1,⟨b,h2⟩,e,h3⟩:=zr0 tv m ts (bEv tv m none t s)
  have e1:fB tv m (t::ts) s=fB tv m ts (bEv tv m none t s):=rfl
  rw [e1]
  rw [yge] at h1
  rw [yk7] at h2
  rw [y6z] at h3
  exact⟨by omega,⟨_,by rw [h2,List.append_assoc]⟩,_,by rw [h3,List.append_assoc]⟩
theorem zya (tv m) (A B:List (List z6)) (t:List z6) (s:BS):s.v<=(fB tv m A s).v/\(fB tv m A s).v+t.length<=(fB tv m (A++t::B) s).v/\
  (∀ b∈bnds tv m none (fB tv m A s).v t,b∈(fB tv m (A++t::B) s).b)/\∃ e,(fB tv m (A++t::B) s).e =(fB tv m A s).e++(evsE (fB tv m A s).v t++e):=by
 have e1:fB tv m (A++t::B) s=fB tv m B (bEv tv m none t (fB tv m A s)):=by rw [ym9]; rfl
 obtain⟨h1,⟨b,h2⟩,e,h3⟩:=zr0 tv m B (bEv tv m none t (fB tv m A s))
 rw [e1]
 rw [yge] at h1
 rw [yk7] at h2
 rw [y6z] at h3
 refine⟨(zr0 tv m A s).1,h1,fun x hx=>?_,e,by rw [h3,List.append_assoc]⟩
 rw [h2]
 exact List.mem_append_left _ (List.mem_append_right _ hx)
theorem yfq (tv m):∀(ts:List (List z6)) (s:BS) (b:z8),b∈(fB tv m ts s).b->b∈s.b\/∃ A t B,ts=A++t::B/\b∈bnds tv m none (fB tv m A s).v t
 | [],s,b,h=>.inl h
 | t::ts,s,b,h=>by
  have e1:fB tv m (t::ts) s=fB tv m ts (bEv tv m none t s):=rfl
  rw [e1] at h
  rcases yfq tv m ts _ b h with h2 |⟨A,t',B,e2,h2⟩
  ·rw [yk7] at h2
   rcases List.mem_append.1 h2 with h2 | h2
   ·exact .inl h2
   ·exact .inr ⟨[],t,ts,rfl,h2⟩
  ·exact .inr ⟨t::A,t',B,by rw [e2]; rfl,h2⟩
theorem y6q (tv m):∀(ts:List (List z6)) (s:BS) (x:z0h),x∈(fB tv m ts s).e->x∈s.e\/∃ A t B,ts=A++t::B/\x∈evsE (fB tv m A s).v t
 | [],s,b,h=>.inl h
 | t::ts,s,b,h=>by
  have e1:fB tv m (t::ts) s=fB tv m ts (bEv tv m none t s):=rfl
  rw [e1] at h
  rcases y6q tv m ts _ b h with h2 |⟨A,t',B,e2,h2⟩
  ·rw [y6z] at h2
   rcases List.mem_append.1 h2 with h2 | h2
   ·exact .inl h2
   ·exact .inr ⟨[],t,ts,rfl,h2⟩
  ·exact .inr ⟨t::A,t',B,by rw [e2]; rfl,h2⟩
theorem zoo (rs:List z26) (m:List (Int×Int)):∀ n:Nat,(∀ i:Nat,i<n->(mget m (i:Int)).isSome=true->∃ v,mget (rdsN rs m n).m (i:Int)=some v/\1<=v/\v <(rdsN rs m n).v)/\∀ k:Int,(n:Int)<=k->mget (rdsN rs m n).m k=mget m k
 | 0=>⟨fun i h=>by omega,fun k _=>rfl⟩
 | n+1=>by
  obtain⟨h1,h2⟩:=zoo rs m n
  have hv:=(z96 rs m n).1
  have h3:=h2 (n:Int) (Int.le_refl _)
  simp only [rdsN,zlb]
  split
  ·rename_i hs
   refine⟨fun i hi hm=>?_,fun k hk=>?_⟩
   ·simp only [zfj]
    by_cases e:i=n
    ·subst e; exact⟨_,if_pos rfl,hv,by omega⟩
    ·obtain⟨v,q1,q2,q3⟩:=h1 i (by omega) hm
     exact⟨v,by rw [if_neg (by omega)]; exact q1,q2,by omega⟩
   ·simp only [zfj]
    rw [if_neg (by omega)]; exact h2 k (by omega)
  ·rename_i hs
   refine⟨fun i hi hm=>?_,fun k hk=>h2 k (by omega)⟩
   by_cases e:i=n
   ·subst e; rw [h3] at hs; exact absurd hm hs
   ·exact h1 i (by omega) hm
theorem ybm {m:List (Int×Int)} {e:z6} {k:Int} (h :(mget m k).isSome=true) :(mget (zyj m e) k).isSome=true:=by
 unfold zyj
 split
 ·rw [zfj]; split
  ·rfl
  ·exact h
 ·exact h
theorem zqv:∀(t:List z6) {m:List (Int×Int)} {k:Int},(mget m k).isSome=true->(mget (zqx m t) k).isSome=true
 | [],m,k,h=>h
 | e::t,m,k,h=>zqv t (ybm h)
theorem y1w:∀(t:List z6) (m:List (Int×Int)) (e:z6),e∈t->0<=e.reader->(mget (zqx m t) e.reader).isSome=true
 | x::t,m,e,he,h=>by
  rcases List.mem_cons.1 he with rfl | he
  ·refine zqv t (m:=zyj m e) ?_
   unfold zyj
   rw [if_pos h,zfj,if_pos rfl]; rfl
  ·exact y1w t _ e he h
theorem yen (ts:List (List z6)) {k:Int} : ∀ {m:List (Int×Int)},(mget m k).isSome=true->(mget (ts.foldl zqx m) k).isSome=true:=by
 induction ts with
 | nil=>intro m h; exact h
 | cons t ts ih=>intro m h; rw [List.foldl_cons]; exact ih (zqv t h)
theorem y0n (ts:List (List z6)):∀(m:List (Int×Int)) (t:List z6) (e:z6),t∈ts->e∈t->0<=e.reader->(mget (ts.foldl zqx m) e.reader).isSome=true:=by
 induction ts with
 | nil=>intro m t e ht; cases ht
 | cons x ts ih=>
  intro m t e ht he h
  rw [List.foldl_cons]
  rcases List.mem_cons.1 ht with e1 | ht
  ·subst e1
   exact yen ts (y1w t m e he h)
  ·exact ih _ t e ht he h
structure TsOK (rs:List z26) (ts:List (List z6)):Prop where
 early:∀ t∈ts,∀ e∈t,0<=e.visit.early/\e.visit.early<=1073741824
 reader:∀ t∈ts,∀ e∈t,e.reader <(rs.length:Int)
 rs:∀ r∈rs,-1000<=r.low/\r.low<=r.high/\r.high<=1000
abbrev rdM (rs:List z26) (ts:List (List z6)):List (Int×Int):=(rdsN rs (used ts) rs.length).m
abbrev rd0 (rs:List z26) (ts:List (List z6)):BS:=⟨(rdsN rs (used ts) rs.length).v,(rdsN rs (used ts) rs.length).b,(rdsN rs (used ts) rs.length).y,[]⟩
theorem zng (tv) (rs:List z26) (ts:List (List z6)):bAll tv rs ts=fB tv (rdM rs ts) ts (rd0 rs ts):=rfl
theorem ysb {rs:List z26} {ts:List (List z6)} (h:TsOK rs ts) {t:List z6} (ht:t∈ts) {e:z6} (he:e∈t) (hr:0<=e.reader):mget (rdM rs ts) e.reader=some (rv (rdM rs ts) e)/\1<=rv (rdM rs ts) e/\rv (rdM rs ts) e <(rd0 rs ts).v:=by
 have h2:=h.reader t ht e he
 have:=y0n ts [] t e ht he hr
 obtain⟨v,q1,q2,q3⟩:=(zoo rs (used ts) rs.length).1 e.reader.toNat (by omega) (by rw [show ((e.reader.toNat:Nat):Int)=e.reader by omega]; exact this)
 rw [show ((e.reader.toNat:Nat):Int)=e.reader by omega] at q1
 have e1:rv (rdM rs ts) e=v:=by unfold rv; rw [show mget (rdM rs ts) e.reader=some v from q1]; rfl
 rw [e1]
 exact⟨q1,q2,q3⟩
theorem ym7 (rs:List z26) (m:List (Int×Int)):∀ n:Nat,n<=rs.length->∀ b∈(rdsN rs m n).b,∃ r∈rs,∃ v,1<=v/\v <(rdsN rs m n).v/\(b =⟨0,v,0-r.low⟩\/b =⟨v,0,r.high⟩)
 | 0,_,b,hb=>by simp [rdsN] at hb
 | n+1,hn,b,hb=>by
  have hv:=(z96 rs m n).1
  have ih:=ym7 rs m n (by omega)
  simp only [rdsN,zlb] at hb ⊢
  split at hb
  ·rename_i hs
   rw [if_pos hs]
   simp only [List.mem_append,List.mem_cons,List.not_mem_nil,or_false] at hb
   rcases hb with hb | rfl | rfl
   ·obtain⟨r,hr,v,q1,q2,q3⟩:=ih b hb
    exact⟨r,hr,v,q1,by simp only; omega,q3⟩
   ·exact⟨_,z0p (l:=rs) (i:=(n:Int)) (by omega) (by omega),_,hv,by simp only; omega,.inl rfl⟩
   ·exact⟨_,z0p (l:=rs) (i:=(n:Int)) (by omega) (by omega),_,hv,by simp only; omega,.inr rfl⟩
  ·rename_i hs
   rw [if_neg hs]
   exact ih b hb
theorem ypt {rs:List z26} {ts:List (List z6)} (h:TsOK rs ts) {t:List z6} (ht:t∈ts) {e:z6} (he:e∈t) {v:Int} (hv :(rd0 rs ts).v<=v) {n:Nat} (hn:v <(n:Int)) {b:z8} (hb:b∈evB (rdM rs ts) v e):okBd n b:=by
 have h1:=h.early t ht e he
 have h0:=(z96 rs (used ts) rs.length).1
 change 1<=(rd0 rs ts).v at h0
 unfold evB at hb
 split at hb
 ·simp only [List.mem_cons,List.not_mem_nil,or_false] at hb
  rcases hb with rfl | rfl <;> exact⟨by simp only; omega,by simp only; omega,by simp only; omega,by simp only; omega,by simp only; omega,by simp only; omega⟩
 ·rename_i hr
  obtain⟨_,q1,q2⟩:=ysb h ht he (by omega)
  simp only [List.mem_cons,List.not_mem_nil,or_false] at hb
  rcases hb with rfl | rfl | rfl | rfl <;> exact⟨by simp only; omega,by simp only; omega,by simp only; omega,by simp only; omega,by simp only; omega,by simp only; omega⟩
theorem yoe {tv:zk->zk->Int} (htv:∀ a b,0<=tv a b/\tv a b<=1073741825) {rs:List z26} {ts:List (List z6)} (h:TsOK rs ts):1<=(bAll tv rs ts).v/\∀ b∈(bAll tv rs ts).b,okBd (bAll tv rs ts).v.toNat b:=by
 have h0:=(z96 rs (used ts) rs.length).1
 change 1<=(rd0 rs ts).v at h0
 rw [zng]
 obtain⟨m1,m2,m3⟩:=zr0 tv (rdM rs ts) ts (rd0 rs ts)
 refine⟨by omega,fun b hb=>?_⟩
 rcases yfq tv (rdM rs ts) ts _ b hb with hb |⟨A,t,B,rfl,hb⟩
 ·obtain⟨r,hr,v,q1,q2,q3⟩:=ym7 rs (used ts) rs.length (Nat.le_refl _) b hb
  change v <(rd0 rs ts).v at q2
  have:=h.rs r hr
  rcases q3 with rfl | rfl <;> exact⟨by simp only; omega,by simp only; omega,by simp only; omega,by simp only; omega,by simp only; omega,by simp only; omega⟩
 ·obtain⟨k1,k2,k3,k4⟩:=zya tv (rdM rs (A++t::B)) A B t (rd0 rs (A++t::B))
  obtain⟨i,e,hi,hb⟩:=zxk tv _ t none _ b hb
  have hlt:=(List.getElem?_eq_some_iff.1 hi).1
  have hte:t∈A++t::B:=by simp
  have hee:e∈t:=List.mem_of_getElem? hi
  rcases hb with hb |⟨a,ha,rfl⟩
  ·exact ypt h hte hee (by omega) (by omega) hb
  ·have:=htv a e.visit
   have hi0:0<i:=ha.resolve_right (by simp)
   exact⟨by simp only; omega,by simp only; omega,by simp only; omega,by simp only; omega,by simp only; omega,by simp only; omega⟩
section
variable {X:Int->Int} {m:List (Int×Int)} {v:Int} {e:z6}
theorem y6l (hX:∀ b∈evB m v e,X b.j-X b.i<=b.w) (he:0<=e.visit.early/\e.visit.early<=1073741824):0<=X v-X 0/\X v-X 0<=1073741824:=by
 unfold evB at hX
 split at hX
 ·have h1:=hX ⟨0,v,e.visit.early⟩ (by simp)
  have h2:=hX ⟨v,0,0-e.visit.early⟩ (by simp)
  simp only at h1 h2; omega
 ·have h1:=hX ⟨0,v,1073741824⟩ (by simp)
  have h2:=hX ⟨v,0,0⟩ (by simp)
  simp only at h1 h2; omega
end
theorem zrt {p:Pool} (hc:zt p=0) {l:List zd} (hl:FewL l) {w:Int} {x:z6} (h:x∈z42 p l w):x.reader <(p.readers.length:Int):=by
 obtain⟨y,hy,b,rfl⟩:=zlf h
 obtain⟨h1,h2,_,h3,h4⟩:=zva hl.len hy
 show y.reader<_
 have ho:=zby hc (hl.gt h1 h2) h3
 unfold evs at h4
 split at h4
 ·rename_i hk
  simp only [List.mem_singleton] at h4
  rw [h4]; exact(ho.read hk).2
 ·split at h4
  ·simp only [List.mem_cons,List.not_mem_nil,or_false] at h4
   rcases h4 with q | q <;> rw [q] <;> simp only <;> omega
  ·split at h4
   ·simp only [List.mem_singleton] at h4
    rw [h4]; simp only; omega
   ·cases h4
theorem tsOK {p:Pool} (hc:zt p=0) {l:List zd} (hl:FewL l):TsOK p.readers (zf p l):=by
 refine⟨fun t ht e he=>?_,fun t ht e he=>?_,fun r hr=>?_⟩
 ·obtain⟨w,_,rfl⟩:=List.mem_map.1 ht; exact zte hc hl he
 ·obtain⟨w,_,rfl⟩:=List.mem_map.1 ht; exact zrt hc hl he
 ·have:=(zm2 hc).1 r hr; omega
end Px
end
section
namespace Px
open Go
def KU (m:List (Int×Bool)):Prop:=(m.map (·.1)).Nodup
theorem yae {k:Int} {v:Bool} : ∀ {m:List (Int×Bool)} {q:Int×Bool},q∈mset m k v->q∈m\/q.1=k
 | [],q,h=>by simp [mset] at h; exact .inr (by rw [h])
 |(a,b)::m,q,h=>by
  simp only [mset] at h
  cases hk :(k==a) with
  | true=>
   rw [hk] at h
   rcases List.mem_cons.1 h with rfl | h
   ·exact .inr rfl
   ·exact .inl (List.mem_cons_of_mem _ h)
  | false=>
   rw [hk] at h
   rcases List.mem_cons.1 h with rfl | h
   ·exact .inl (List.mem_cons_self ..)
   ·exact(yae h).imp (List.mem_cons_of_mem _) id
theorem KU.mset {k:Int} {v:Bool} : ∀ {m:List (Int×Bool)},KU m->KU (Px.mset m k v)
 | [],_=>by simp [Px.mset,KU]
 |(a,b)::m,h=>by
  simp only [KU,List.map_cons,List.nodup_cons] at h
  simp only [Px.mset]
  cases hk :(k==a) with
  | true=>
   have:k=a:=by simpa using hk
   subst this
   simp only [cond_true,KU,List.map_cons,List.nodup_cons]
   exact h
  | false=>
   simp only [cond_false,KU,List.map_cons,List.nodup_cons]
   refine⟨fun hm=>?_,KU.mset h.2⟩
   obtain⟨q,hq,he⟩:=List.mem_map.1 hm
   rcases yae hq with hq | hq
   ·exact h.1 (List.mem_map.2 ⟨q,hq,he⟩)
   ·rw [hq] at he; rw [he] at hk; simp at hk
theorem KU.mdel {k:Int} : ∀ {m:List (Int×Bool)},KU m->KU (Px.mdel m k)/\∀ q∈Px.mdel m k,q∈m/\q.1≠k
 | [],h=>⟨h,fun q hq=>by cases hq⟩
 |(a,b)::m,h=>by
  have h0:=h
  simp only [KU,List.map_cons,List.nodup_cons] at h
  simp only [Px.mdel]
  cases hk :(k==a) with
  | true=>
   have:k=a:=by simpa using hk
   subst this
   refine⟨h.2,fun q hq=>⟨List.mem_cons_of_mem _ hq,fun e=>h.1 (List.mem_map.2 ⟨q,hq,e⟩)⟩⟩
  | false=>
   obtain⟨i1,i2⟩:=KU.mdel (k:=k) (m:=m) h.2
   refine⟨?_,fun q hq=>?_⟩
   ·simp only [cond_false,KU,List.map_cons,List.nodup_cons]
    refine⟨fun hm=>?_,i1⟩
    obtain⟨q,hq,he⟩:=List.mem_map.1 hm
    exact h.1 (List.mem_map.2 ⟨q,(i2 q hq).1,he⟩)
   ·rcases List.mem_cons.1 hq with rfl | hq
    ·exact⟨List.mem_cons_self ..,fun e=>by simp at hk; exact hk e.symm⟩
    ·exact⟨List.mem_cons_of_mem _ (i2 q hq).1,(i2 q hq).2⟩
def Ends (t:List z6):Prop:=∀ A e B,t=A++e::B->e.stay=true->e.second=false->∃ y∈B,y.stay=true/\y.second=true/\y.report=e.report
theorem y5s:∀(A B:List z6) (m:List (Int×Bool)),zkz (A++B) m=zkz A m++zkz B (A.foldl (fun m e=>covM e m) m)
 | [],B,m=>rfl
 | e::A,B,m=>by simp only [List.cons_append,zkz,List.foldl_cons,y5s A B]
theorem yno {p:Pool} (hc:zt p=0) {l:List zd} (hl:FewL l) {w:Int} {x:z6} (h:x∈uns p l w) (h1:x.stay=true) (h2:x.second=false):∃ y∈uns p l w,y.stay=true/\y.second=true/\y.report=x.report/\ltEv x y=true:=by
 obtain⟨a1,a2,a3,a4,a5⟩:=zva hl.len h
 have ho:=zby hc (hl.gt a1 a2) a4
 simp only [uns,unsC,List.mem_flatMap] at h
 obtain⟨i,hi,hx⟩:=h
 split at hx
 case isFalse=>cases hx
 rename_i hw
 obtain⟨r1,r2,r3⟩:=zmj hx
 rw [r1] at ho a5
 unfold evs at a5
 split at a5
 ·simp only [List.mem_singleton] at a5; rw [a5] at h1; cases h1
 ·rename_i hk1
  split at a5
  ·rename_i hk
   simp only [List.mem_cons,List.not_mem_nil,or_false] at a5
   rcases a5 with a5 | a5
   ·refine⟨⟨z3f (gt l i) (gt l i).item.place (gt l i).item.to,i,true,true,-1⟩,?_,rfl,rfl,by rw [a5],?_⟩
    ·simp only [uns,unsC,List.mem_flatMap]
     refine⟨i,hi,?_⟩
     rw [if_pos hw,evs,if_neg hk1,if_pos hk]
     simp
    ·have:=(ho.to hk).1
     rw [a5]
     simp only [ltEv,decide_eq_true_eq,zgr,z3f,ordB]
     simp
     omega
   ·rw [a5] at h2; cases h2
  ·split at a5
   ·simp only [List.mem_singleton] at a5; rw [a5] at h1; cases h1
   ·cases a5
theorem yj1 {p:Pool} (hc:zt p=0) {l:List zd} (hl:FewL l) (w:Int):Ends (srt p l w):=by
 intro A e B hs h1 h2
 have hmem:∀ x,x∈srt p l w↔x∈uns p l w:=fun x=>(z1q _ _).mem_iff
 obtain⟨y,hy,y1,y2,y3,y4⟩:=yno hc hl ((hmem e).1 (by rw [hs]; simp)) h1 h2
 have hy2:=(hmem y).2 hy
 rw [hs] at hy2
 have hpw:=zbv zz6 (uns p l w)
 change (srt p l w).Pairwise _ at hpw
 rw [hs,List.pairwise_append] at hpw
 rcases List.mem_append.1 hy2 with hy2 | hy2
 ·have:=hpw.2.2 y hy2 e (List.mem_cons_self ..)
  rw [this] at y4; cases y4
 ·rcases List.mem_cons.1 hy2 with rfl | hy2
  ·rw [y2] at h2; cases h2
  ·exact⟨y,hy2,y1,y2,y3⟩
theorem yol {φ:Nat} {x:ze} {a b:zk} (h:a.stay=true) (h2:a.place≠b.place):tvl φ x a b=1073741825:=by
 unfold tvl z3g
 rw [if_pos (by simp [h,h2])]; rfl
theorem yel {α:Type} [Inhabited α] {l:List α} {i:Nat} (h:i<l.length):l[i]? = some (gt l (i:Int)):=by rw [z23 h]; exact List.getElem?_eq_getElem h
end Px
end
section
namespace Px
open Go
theorem yqo {φ:Nat} (hφ:800000<φ) {x:ze} {a b:zk} (h:tvl φ x a b<1073741825):∃ t,zo φ x a.place b.place=some (t,0,())/\tvl φ x a b=t:=by
 unfold tvl z3g at h ⊢
 split at h
 ·simp at h
 ·rename_i hc
  rw [if_neg hc]
  obtain⟨t,e,hb,_,_⟩:=zqa φ hφ x a.place b.place
  rw [hb,Option.bind_some] at h
  rw [hb,Option.bind_some]
  split at h
  ·simp at h
  ·rename_i he
   rw [if_neg he]
   simp only [bne_iff_ne,ne_eq,Decidable.not_not] at he
   subst he
   exact⟨t,rfl,rfl⟩
theorem y8n {α:Type} {A B:List α} {i:Nat} {a b:α} (h1 :(A++B)[i]? = some a) (h2 :(A++B)[i+1]? = some b) :(A[i]? = some a/\A[i+1]? = some b)\/(a∈A/\B[0]? = some b)\/∃ k,B[k]? = some a/\B[k+1]? = some b:=by
 by_cases q:i+1<A.length
 ·rw [List.getElem?_append_left q] at h2
  rw [List.getElem?_append_left (by omega)] at h1
  exact .inl ⟨h1,h2⟩
 ·rw [List.getElem?_append_right (by omega)] at h2
  by_cases q2:i<A.length
  ·rw [List.getElem?_append_left q2] at h1
   refine .inr (.inl ⟨List.mem_of_getElem? h1,?_⟩)
   rwa [show i+1-A.length=0 by omega] at h2
  ·rw [List.getElem?_append_right (by omega)] at h1
   refine .inr (.inr ⟨i-A.length,h1,?_⟩)
   rwa [show i+1-A.length=i-A.length+1 by omega] at h2
def yng (ts:List (List z6)):Prop:=ts.Pairwise fun t t'=>∀ x∈t,∀ y∈t',x.visit.wagon≠y.visit.wagon
theorem yej (tv m) (s:BS) (hs:s.e = []):∀(n:Nat) (ts:List (List z6)),ts.length=n->yng ts->∀(i:Nat) (a b:z0h),(fB tv m ts s).e[i]? = some a->(fB tv m ts s).e[i+1]? = some b->a.wagon=b.wagon->
  ∃ A t B,∃ k:Nat,∃ x y,ts=A++t::B/\t[k]? = some x/\t[k+1]? = some y/\a=evE ((fB tv m A s).v +(k:Int)) x/\b=evE ((fB tv m A s).v +((k+1:Nat):Int)) y
 | 0,ts,hn,_,i,a,b,h1,h2,_=>by
  have:ts = []:=List.eq_nil_of_length_eq_zero hn
  subst this
  simp [fB,hs] at h1
 | n+1,ts,hn,hA,i,a,b,h1,h2,hw=>by
  rcases List.eq_nil_or_concat ts with rfl |⟨us,t,rfl⟩
  ·simp at hn
  ·rw [List.concat_eq_append] at *
   have e1:fB tv m (us++[t]) s=bEv tv m none t (fB tv m us s):=by rw [ym9]; rfl
   rw [e1,y6z] at h1 h2
   have hA2:=List.pairwise_append.1 hA
   rcases y8n h1 h2 with⟨q1,q2⟩ |⟨q1,q2⟩ |⟨k,q1,q2⟩
   ·obtain⟨A,t',B,k,x,y,r1,r2⟩:=yej tv m s hs n us (by simpa using hn) hA2.1 i a b q1 q2 hw
    exact⟨A,t',B++[t],k,x,y,by rw [r1]; simp,r2⟩
   ·exfalso
    rw [zq0] at q2
    obtain⟨y,hy,rfl⟩:=Option.map_eq_some_iff.1 q2
    rcases y6q tv m us s a q1 with h |⟨A,t',B,r1,r2⟩
    ·rw [hs] at h; cases h
    ·obtain⟨j,hj⟩:=List.getElem?_of_mem r2
     rw [zq0] at hj
     obtain⟨x,hx,rfl⟩:=Option.map_eq_some_iff.1 hj
     exact hA2.2.2 t' (by rw [r1]; simp) t (by simp) x (List.mem_of_getElem? hx) y (List.mem_of_getElem? hy) hw
   ·rw [zq0] at q1 q2
    obtain⟨x,hx,rfl⟩:=Option.map_eq_some_iff.1 q1
    obtain⟨y,hy,rfl⟩:=Option.map_eq_some_iff.1 q2
    exact⟨us,t,[],k,x,y,rfl,hx,hy,rfl,rfl⟩
theorem z6w {p:Pool} {l:List zd} (hl:FewL l) {w:Int} {x:z6} (h:x∈z42 p l w):x.visit.wagon=w:=by
 obtain⟨y,hy,b,rfl⟩:=zlf h
 exact(zva hl.len hy).2.2.1
theorem y1s (p:Pool) {l:List zd} (hl:FewL l):yng (zf p l):=by
 unfold yng zf
 rw [List.pairwise_map]
 refine List.pairwise_lt_range.imp fun {a b} hab x hx y hy=>?_
 rw [z6w hl hx,z6w hl hy]
 omega
theorem ypk {tv:zk->zk->Int} {rs:List z26} {ts:List (List z6)} {ev:z0h} (h:ev∈(bAll tv rs ts).e):∃ t∈ts,∃ x∈t,∃ v,ev=evE v x/\1<=v/\v <(bAll tv rs ts).v/\∀ b∈evB (rdM rs ts) v x,b∈(bAll tv rs ts).b:=by
 rw [zng] at h ⊢
 have h0:=(z96 rs (used ts) rs.length).1
 change 1<=(rd0 rs ts).v at h0
 rcases y6q tv (rdM rs ts) ts _ ev h with h |⟨A,t,B,rfl,h⟩
 ·cases h
 ·obtain⟨k1,k2,k3,k4⟩:=zya tv (rdM rs (A++t::B)) A B t (rd0 rs (A++t::B))
  obtain⟨i,hi⟩:=List.getElem?_of_mem h
  rw [zq0] at hi
  obtain⟨x,hx,rfl⟩:=Option.map_eq_some_iff.1 hi
  have hlt:=(List.getElem?_eq_some_iff.1 hx).1
  exact⟨t,by simp,x,List.mem_of_getElem? hx,_,rfl,by omega,by omega,fun b hb=>k3 b (zy0 tv _ t none _ i x hx b hb)⟩
theorem yqy {tv:zk->zk->Int} {rs:List z26} {ts:List (List z6)} {ev:z0h} (h:ev∈(bAll tv rs ts).e):1<=ev.var/\ev.var <(bAll tv rs ts).v:=by
 obtain⟨t,ht,y,hy,v,rfl,v1,v2,hv⟩:=ypk h
 exact⟨v1,v2⟩
theorem ydp (tv m):∀(ts:List (List z6)) (s:BS),(fB tv m ts s).e.length<=s.e.length +((fB tv m ts s).v-s.v).toNat
 | [],s=>by simp [fB]
 | t::ts,s=>by
  have ih:=ydp tv m ts (bEv tv m none t s)
  have hm:=(zr0 tv m ts (bEv tv m none t s)).1
  have e1:fB tv m (t::ts) s=fB tv m ts (bEv tv m none t s):=rfl
  rw [e1]
  rw [yge] at ih hm
  rw [y6z,List.length_append,zyk] at ih
  omega
theorem ye7 (tv) (rs:List z26) (ts:List (List z6)) :((bAll tv rs ts).e.length:Int)<=(bAll tv rs ts).v:=by
 have h0:=(z96 rs (used ts) rs.length).1
 change 1<=(rd0 rs ts).v at h0
 have:=ydp tv (rdM rs ts) ts (rd0 rs ts)
 have hm:=(zr0 tv (rdM rs ts) ts (rd0 rs ts)).1
 rw [zng]
 simp only [rd0,List.length_nil] at this
 simp only [rd0] at hm h0 ⊢
 omega
end Px
end
section
namespace Px
open Go
def y3z (n:Int) (L:List z8):Prop:=∀ v:Int,1<=v->v<n->(∃ b∈L,b.i=0/\b.j=v)/\∃ b∈L,b.i=v/\b.j=0
theorem y3z.app {n:Int} {L M:List z8} (h:y3z n L):y3z n (L++M):=fun v h1 h2=>by
 obtain⟨⟨b,q1,q2⟩,c,q3,q4⟩:=h v h1 h2
 exact⟨⟨b,List.mem_append_left _ q1,q2⟩,c,List.mem_append_left _ q3,q4⟩
theorem y5q (rs:List z26) (m:List (Int×Int)):∀ n:Nat,y3z (rdsN rs m n).v (rdsN rs m n).b
 | 0=>fun v h1 h2=>by simp only [rdsN] at h2; omega
 | n+1=>by
  have ih:=y5q rs m n
  simp only [rdsN,zlb]
  split
  ·intro v h1 h2
   simp only at h2 ⊢
   by_cases e:v =(rdsN rs m n).v
   ·subst e
    exact⟨⟨_,List.mem_append_right _ (List.mem_cons_self ..),rfl,rfl⟩,_,List.mem_append_right _ (List.mem_cons_of_mem _ (List.mem_cons_self ..)),rfl,rfl⟩
   ·exact ih.app v h1 (by omega)
  ·exact ih
theorem yki (m:List (Int×Int)) (v:Int) (e:z6) :(∃ b∈evB m v e,b.i=0/\b.j=v)/\∃ b∈evB m v e,b.i=v/\b.j=0:=by
 unfold evB
 split
 ·exact⟨⟨⟨0,v,e.visit.early⟩,by simp,rfl,rfl⟩,⟨v,0,0-e.visit.early⟩,by simp,rfl,rfl⟩
 ·exact⟨⟨⟨0,v,1073741824⟩,by simp,rfl,rfl⟩,⟨v,0,0⟩,by simp,rfl,rfl⟩
theorem yaf (tv m):∀(t:List z6) (pr) (s:BS),y3z s.v s.b->y3z (bEv tv m pr t s).v (bEv tv m pr t s).b
 | [],pr,s,h=>h
 | e::t,pr,s,h=>yaf tv m t _ _ (by
  intro v h1 h2
  simp only [zpa] at h2 ⊢
  by_cases q:v=s.v
  ·subst q
   obtain⟨⟨b,b1,b2⟩,c,c1,c2⟩:=yki m s.v e
   exact⟨⟨b,List.mem_append_left _ (List.mem_append_right _ b1),b2⟩,c,List.mem_append_left _ (List.mem_append_right _ c1),c2⟩
  ·exact(h.app.app) v h1 (by omega))
theorem ydq (tv m):∀(ts:List (List z6)) (s:BS),y3z s.v s.b->y3z (fB tv m ts s).v (fB tv m ts s).b
 | [],s,h=>h
 | t::ts,s,h=>ydq tv m ts _ (yaf tv m t none s h)
theorem ygv (tv) (rs:List z26) (ts:List (List z6)):Conn (bAll tv rs ts).b (bAll tv rs ts).v.toNat:=by
 have h:=ydq tv (rdM rs ts) ts (rd0 rs ts) (y5q rs (used ts) rs.length)
 rw [<- zng] at h
 exact fun v h1 h2=>h v h1 (by omega)
def SolF (s:BS) (X:Int->Int):Prop:=∀ b∈s.b,X b.j-X b.i<=b.w
theorem zf6 {s:BS} {X:Int->Int} : SolF s X↔SolD false s.b X:=by
 unfold SolF SolD bdJ bdI
 simp
theorem ypp {L:List z8} {d:Int->Int} (h:SolD true L d):∀ b∈L,(- d b.j) -(- d b.i)<=b.w:=fun b hb=>by
 have:=h b hb
 simp only [bdJ,bdI,if_true] at this
 omega
structure ETs (s:BS) (E T:Int->Int):Prop where
 eS:SolF s E
 tS:SolF s T
 e0:E 0=0
 t0:T 0=0
 e:∀ X,SolF s X->∀ v,0<=v->v<s.v->E v<=X v-X 0
 t:∀ X,SolF s X->∀ v,0<=v->v<s.v->X v-X 0<=T v
theorem yr1 {s:BS} (h1:1<=s.v) {d t:Int->Int} (hd:zn2 true s.b s.v.toNat 0 d) (ht:zn2 false s.b s.v.toNat 0 t):ETs s (fun v=>- d v) t:=by
 refine⟨ypp hd.sat,zf6.2 ht.sat,by have:=hd.zero; omega,ht.zero,fun X hX v v0 v1=>?_,fun X hX v v0 v1=>ht.top X (zf6.1 hX) v v0 (by omega)⟩
 have:=hd.top (fun v=>- X v) (zo6 (zf6.1 hX)) v v0 (by omega)
 omega
section
variable {φ:Nat} (hφ:800000<φ) {p:Pool} (hc:zt p=0) {l:List zd} (hl:FewL l)
theorem ydh {p:Pool} (hc:zt p=0) {r:zd} (h:y2m p r.item) {i:Int} {x:z6} (hx:x∈evs p r i):okPl p.network x.visit.place:=by
 unfold evs at hx
 split at hx
 ·rename_i hk
  simp only [List.mem_singleton] at hx; subst hx
  obtain⟨h0,h1⟩:=h.read hk
  have:=(zm2 hc).1 _ (z0p (l:=p.readers) h0 h1)
  exact⟨this.1,this.2.1⟩
 ·split at hx
  ·rename_i hk
   have:=h.place (by omega)
   simp only [List.mem_cons,List.not_mem_nil,or_false] at hx
   rcases hx with rfl | rfl <;> exact this
  ·split at hx
   ·rename_i hk
    have:=h.place (by omega)
    simp only [List.mem_singleton] at hx; subst hx
    exact this
   ·cases hx
include hc hl
theorem y6v {w:Int} {x:z6} (h:x∈z42 p l w):okPl p.network x.visit.place:=by
 obtain⟨y,hy,b,rfl⟩:=zlf h
 obtain⟨h1,h2,_,h3,h4⟩:=zva hl.len hy
 exact ydh (x:=y) hc (zby hc (hl.gt h1 h2) h3) h4
theorem ymx {tv:zk->zk->Int} {ev:z0h} (h:ev∈(bAll tv p.readers (zf p l)).e):okPl p.network ev.place/\1<=ev.var/\ev.var <(bAll tv p.readers (zf p l)).v/\
  (∀ X,SolF (bAll tv p.readers (zf p l)) X->0<=X ev.var-X 0/\X ev.var-X 0<=1073741824)/\0<=ev.wagon/\ev.wagon <(p.fleet.wagons.length:Int):=by
 obtain⟨t,ht,x,hx,v,rfl,v1,v2,hv⟩:=ypk h
 have hT:=tsOK hc hl
 have ht2:=ht
 obtain⟨w,hw,rfl⟩:=List.mem_map.1 ht2
 refine⟨y6v hc hl hx,v1,v2,fun X hX=>y6l (X:=X) (fun b hb=>hX b (hv b hb)) (hT.early _ ht x hx),?_⟩
 have:=z6w hl hx
 show 0<=x.visit.wagon/\x.visit.wagon<_
 rw [List.mem_range] at hw
 omega
include hφ
theorem yq4 {s:BS} (hs:s=bAll (tvl φ p.network) p.readers (zf p l)) {X:Int->Int} (hX:SolF s X) {i:Nat} {a b:z0h} (ha:s.e[i]? = some a) (hb:s.e[i+1]? = some b) (hw:a.wagon=b.wagon) :
  ∃ t,Dst φ p.network a.place b.place=some t/\t<=X b.var-X a.var/\(a.stay=true->a.place=b.place):=by
 have hT:=tsOK hc hl
 subst hs
 rw [zng] at ha hb
 obtain⟨A,t,B,k,y,z,e1,hy,hz,rfl,rfl⟩:=yej (tvl φ p.network) (rdM p.readers (zf p l)) (rd0 p.readers (zf p l)) rfl _ (zf p l) rfl (y1s p hl) i a b ha hb hw
 have hsat:=hX
 rw [zng] at hsat
 have ht:t∈zf p l:=by rw [e1]; simp
 obtain⟨k1,k2,k3,k4⟩:=zya (tvl φ p.network) (rdM p.readers (zf p l)) A B t (rd0 p.readers (zf p l))
 rw [<- e1] at k3
 have q1:=y6l (X:=X) (fun c hc=>hsat c (k3 c (zy0 _ _ t none _ k y hy c hc))) (hT.early t ht y (List.mem_of_getElem? hy))
 have q2:=y6l (X:=X) (fun c hc=>hsat c (k3 c (zy0 _ _ t none _ (k+1) z hz c hc))) (hT.early t ht z (List.mem_of_getElem? hz))
 have q3:=hsat _ (k3 _ (yga (tvl φ p.network) (rdM p.readers (zf p l)) t none _ k y z hy hz))
 generalize (fB (tvl φ p.network) (rdM p.readers (zf p l)) A (rd0 p.readers (zf p l))).v=v at *
 simp only at q3
 rw [show v +((k+1:Nat):Int)=v+k+1 by omega] at q2 ⊢
 obtain⟨n,hn,hn2⟩:=yqo (a:=y.visit) (b:=z.visit) (x:=p.network) hφ (by omega)
 refine⟨n,by show Dst φ p.network y.visit.place z.visit.place=_; unfold Dst; rw [hn]; rfl,by show n<=X (v+k+1)-X (v+k); omega,fun hst=>?_⟩
 show y.visit.place=z.visit.place
 by_cases e:y.visit.place=z.visit.place
 ·exact e
 ·have:=yol (φ:=φ) (x:=p.network) (a:=y.visit) (b:=z.visit) hst e
  omega
end
end Px
end
section
namespace Px
open Go
theorem y9j {α:Type} [Inhabited α] {a b:List α} (h:a.length=b.length) (hg:∀ i:Int,0<=i->i <(a.length:Int)->gt a i=gt b i):a=b:=by
 refine List.ext_getElem h fun i h1 h2=>?_
 have:=hg (i:Int) (by omega) (by omega)
 rw [z23 h1,z23 h2] at this
 exact this
theorem ycs (φ:Nat) (k:Int->Int->zn->Bool->Bool->List Int->Option (List Int×Unit)) (x:zn) (r:Bool) (n:Nat) (q:Int) (c:Nat) (s:DS) (hn:n<=512) (hs:DB n c s) (hL:∀ b∈x.bounds,okBd n b) (hl:x.bounds.length<=4096) (hc:c+x.bounds.length<=2100000) (hφ:5001<φ) :
  z0c φ k φ n q x.bounds (x.bounds.length:Int) 0 x s.c r s.d=k n (W (q+1)) x (rndD r x.bounds x.bounds.length s).c r (rndD r x.bounds x.bounds.length s).d:=by
 refine zr (fun f i (t:DS)=>z0c φ k f n q x.bounds (x.bounds.length:Int) i x t.c r t.d) x.bounds.length (fun i t=>t=rndD r x.bounds i s) (fun o=>o=_) ?_ ?_ φ s rfl (by omega)
 ·intro f i t hi ht hk
  have hB:=hs.rnd hn hL r i (by omega)
  rw [<- ht] at hB
  have hb:=hL _ (z0p (l:=x.bounds) (i:=(i:Int)) (by omega) (by omega))
  have hk':=hk (stpD r (gt x.bounds (i:Int)) t) (by rw [ht]; rfl)
  have e:z0c φ k (f+1) n q x.bounds (x.bounds.length:Int) i x t.c r t.d=z2r φ (z0c φ k f) (bdI r (gt x.bounds (i:Int))) (bdJ r (gt x.bounds (i:Int))) n q x.bounds (x.bounds.length:Int) i t.c (gt x.bounds (i:Int)) x r t.d:=by
   rw [z0c,if_pos (by simp; omega),z7 ⟨by omega,by omega⟩]
   cases r
   ·rw [if_neg (by simp)]; rfl
   ·rw [if_pos rfl]; rfl
  rw [e]
  generalize gt x.bounds (i:Int)=b at *
  obtain⟨a1,a2,a3,a4,a5,a6⟩:=zpo hb r
  have hx:=hB.len
  have q1:=hB.lt hn a1 a2
  have q3:=hB.lo _ a1 a2
  unfold farN at q1
  have hW:W (gt t.d (bdI r b)+b.w)=gt t.d (bdI r b)+b.w:=W_id (by omega) (by omega)
  have hWi:W ((i:Int)+1) =(i:Int)+1:=W_id (by omega) (by omega)
  unfold z2r
  rw [z7 ⟨a1,by rw [hx]; exact a2⟩,z7 (fun _=>⟨a1,by rw [hx]; exact a2⟩),z7 (fun _=>⟨a3,by rw [hx]; exact a4⟩),hW,hWi]
  unfold stpD farN at hk'
  by_cases h:gt t.d (bdI r b)<1125899906842624/\gt t.d (bdI r b)+b.w<gt t.d (bdJ r b)
  ·rw [if_pos h] at hk'
   rw [if_pos (by simpa using h),z7 ⟨a1,by rw [hx]; exact a2⟩,z7 ⟨a3,by rw [hx]; exact a4⟩]
   exact hk'
  ·rw [if_neg h] at hk'
   rw [if_neg (by simpa using h)]
   exact hk'
 ·intro f t ht
  subst ht
  rw [z0c,if_neg (by simp)]
theorem ztg (φ:Nat) (x:zn) (r:Bool) (n:Nat) (hn:n<=512) (hL:∀ b∈x.bounds,okBd n b) (hl:x.bounds.length<=4096) (hφ:5001<φ) :
  ∀(f k:Nat) (s:DS),DB n (k*x.bounds.length) s->k<=n->n<f+k->z1o φ f n (k:Int) x s.c r s.d=some ((runD r x.bounds (n-k) s).d,())
 | 0,k,s,_,h1,h2=>by omega
 | f+1,k,s,hs,h1,h2=>by
  rw [z1o]
  by_cases h:k<n
  ·rw [if_pos (by simp; omega),show n-k =(n -(k+1))+1 by omega,runD]
   cases hc:s.c with
   | false=>rw [if_pos (show (!false)=true from rfl),if_neg (by simp)]
   | true=>
    rw [if_neg (by simp),if_pos rfl]
    have hs1:DB n (k*x.bounds.length) ⟨s.d,false⟩:=⟨hs.len,hs.hi,hs.lo⟩
    have hb:=Nat.mul_le_mul (show k+1<=512 by omega) hl
    rw [Nat.add_mul,Nat.one_mul] at hb
    have:=ycs φ (z1o φ f) x r n (k:Int) _ ⟨s.d,false⟩ hn hs1 hL hl (by omega) hφ
    refine this.trans ?_
    have hs2:=hs1.rnd hn hL r x.bounds.length (Nat.le_refl _)
    rw [W_id (x:=(k:Int)+1) (by omega) (by omega)]
    exact ztg φ x r n hn hL hl hφ f (k+1) _ (hs2.up (by rw [Nat.add_mul,Nat.one_mul]; omega)) (by omega) (by omega)
  ·rw [if_neg (by simp; omega),show n-k=0 by omega]; rfl
theorem ynb (φ:Nat) (hφ:5001<φ) (x:zn) (r:Bool) (n:Nat) (hv:x.vars =(n:Int)) (h1:1<=n) (hn:n<=512) (hL:∀ b∈x.bounds,okBd n b) (hl:x.bounds.length<=4096) :
  z1p φ x r=some ((runD r x.bounds n ⟨d0 n 0,true⟩).d,()):=by
 unfold z1p
 rw [hv,z7 (mk_t _ _ (by omega) (by omega) (by omega)),Int.toNat_natCast,List.length_replicate]
 refine zr (fun f i (d:List Int)=>z14 φ f (n:Int) i x r d) n (fun i d=>d.length=n/\∀ j:Int,0<=j->j <(n:Int)->gt d j=if 0<j/\j <(i:Int) then farN else 0) (fun o=>o=_) ?_ ?_ φ _
  ⟨by simp,fun j h0 h1=>by rw [z17 _ _ _ h0 h1,if_neg (by omega)]; rfl⟩ (by omega)
 ·intro f i d hi ⟨hd,hg⟩ hk
  rw [z14,if_pos (by simp; omega),W_id (x:=(i:Int)+1) (by omega) (by omega)]
  by_cases h:0<i
  ·rw [if_pos (by simp; omega),z7 ⟨by omega,by omega⟩]
   refine hk _ ⟨by rw [z05]; exact hd,fun j j0 j1=>?_⟩
   rw [zy _ _ _ _ (by omega) (by omega) j0,hg j j0 j1]
   by_cases e:j =(i:Int)
   ·rw [if_pos e,if_pos (by omega)]; rfl
   ·rw [if_neg e]
    by_cases e2:0<j/\j <(i:Int)
    ·rw [if_pos e2,if_pos (by omega)]
    ·rw [if_neg e2,if_neg (by omega)]
  ·rw [if_neg (by simp; omega)]
   refine hk _ ⟨hd,fun j j0 j1=>?_⟩
   rw [hg j j0 j1,if_neg (by omega),if_neg (by omega)]
 ·intro f d ⟨hd,hg⟩
  have e:d=d0 n 0:=y9j (by rw [hd,yh7]) fun j j0 j1=>by
   rw [hd] at j1
   rw [hg j j0 j1,yke (by omega) (by omega) j0 j1]
   by_cases q:j=0
   ·rw [if_pos q,if_neg (by omega)]
   ·rw [if_neg q,if_pos (by omega)]
  rw [z14,if_neg (by simp),hv,e]
  have:=ztg φ x r n hn hL hl hφ φ 0 ⟨d0 n 0,true⟩ ((ynu (by omega) (by omega)).up (by omega)) (by omega) (by omega)
  exact this
theorem ye5 {r:Bool} {n:Nat} (hn:n<=512) {L:List z8} (hL:∀ b∈L,okBd n b) (hl:L.length<=4096):∀(f k:Nat) (s:DS),DB n (k*L.length) s->f+k<=n->DB n 2097152 (runD r L f s)
 | 0,k,s,h,hk=>h.up (by
  have:=Nat.mul_le_mul (show k<=512 by omega) hl
  omega)
 | f+1,k,s,h,hk=>by
  have hu:k*L.length<=2097152:=by
   have:=Nat.mul_le_mul (show k<=512 by omega) hl
   omega
  unfold runD
  split
  ·have h1:DB n (k*L.length) ⟨s.d,false⟩:=⟨h.len,h.hi,h.lo⟩
   exact ye5 hn hL hl f (k+1) _ ((h1.rnd hn hL r L.length (Nat.le_refl _)).up (by rw [Nat.add_mul,Nat.one_mul]; omega)) (by omega)
  ·exact h.up hu
theorem y6x (φ:Nat) (k:List z8->Int->Int->Int->Int->List Bool->List Int->Option (Int×Bool×Int×Unit)) (L:List z8) (n:Nat) (q j:Int) (c:Nat) (s:TS) (hj:0<=j/\j <(n:Int)) (hs:TiB n c s) (hL:∀ b∈L,okBd n b) (hl:L.length<=4096) (hc:c+L.length<=2100000) (hφ:5001<φ) :
  z3h φ k φ L s.z n q L (L.length:Int) 0 j s.kn s.d=if(rndT L L.length s).z<0 then(if gt (rndT L L.length s).kn j=true then some (gt (rndT L L.length s).d j,true,0,()) else some (0,false,0,())) else k L (rndT L L.length s).z n (W (q+1)) j (rndT L L.length s).kn (rndT L L.length s).d:=by
 refine zr (fun f i (t:TS)=>z3h φ k f L t.z n q L (L.length:Int) i j t.kn t.d) L.length (fun i t=>t=rndT L i s) (fun o=>o=_) ?_ ?_ φ s rfl (by omega)
 ·intro f i t hi ht hk
  have hB:=hs.rnd hL i (by omega)
  rw [<- ht] at hB
  have hb:=hL _ (z0p (l:=L) (i:=(i:Int)) (by omega) (by omega))
  have hk':=hk (stpT (gt L (i:Int)) i t) (by rw [ht]; rfl)
  rw [z3h,if_pos (by simp; omega),z7 ⟨by omega,by omega⟩]
  generalize gt L (i:Int)=b at *
  obtain⟨a1,a2,a3,a4,a5,a6⟩:=hb
  have hx:=hB.ld
  have hy:=hB.lk
  have q1:=hB.bd _ a1 a2
  have hW:W (gt t.d b.i+b.w)=gt t.d b.i+b.w:=W_id (by omega) (by omega)
  have hWi:W ((i:Int)+1) =(i:Int)+1:=W_id (by omega) (by omega)
  rw [z7 ⟨a1,by rw [hy]; exact a2⟩,z7 (fun _=>⟨a3,by rw [hy]; exact a4⟩),z7 (fun _=>⟨a3,by rw [hx]; exact a4⟩),z7 (fun _=>⟨a1,by rw [hx]; exact a2⟩),hW,hWi]
  unfold stpT at hk'
  cases h :(!(gt t.kn b.i)||((gt t.kn b.j)&&decide (gt t.d b.j<=gt t.d b.i+b.w))) with
  | true=>
   rw [h,if_pos rfl] at hk'
   rw [if_pos rfl]
   exact hk'
  | false=>
   rw [h,if_neg (by simp)] at hk'
   rw [if_neg (by simp),z83,z7 ⟨a1,by rw [hx]; exact a2⟩,z7 ⟨a3,by rw [hx]; exact a4⟩,z7 ⟨a3,by rw [hy]; exact a4⟩,hW,hWi]
   exact hk'
 ·intro f t ht
  have hB:=hs.rnd hL L.length (Nat.le_refl _)
  subst ht
  rw [z3h,if_neg (by simp)]
  by_cases h :(rndT L L.length s).z<0
  ·rw [if_pos (by simpa using h),if_pos h,z7 ⟨hj.1,by rw [hB.lk]; exact hj.2⟩]
   cases hk:gt (rndT L L.length s).kn j with
   | false=>rw [if_pos (show (!false)=true from rfl),if_neg (by simp)]
   | true=>rw [if_neg (by simp),if_pos rfl,z7 ⟨hj.1,by rw [hB.ld]; exact hj.2⟩]
  ·rw [if_neg (by simpa using h),if_neg h]
theorem zrk (φ:Nat) (L:List z8) (n:Nat) (j:Int) (hj:0<=j/\j <(n:Int)) (hn:n<=512) (hL:∀ b∈L,okBd n b) (hl:L.length<=4096) (hφ:5001<φ) :
  ∀(f k:Nat) (s:TS),TiB n (k*L.length) s->k<=n->n<f+k->z63 φ f L s.z n (k:Int) j s.kn s.d=if gt (runT L (n-k) s).kn j=true then some (gt (runT L (n-k) s).d j,true,0,()) else some (0,false,0,())
 | 0,k,s,_,h1,h2=>by omega
 | f+1,k,s,hs,h1,h2=>by
  rw [z63]
  by_cases h:k<n
  ·have hs1:TiB n (k*L.length) ⟨s.d,s.kn,-1⟩:=⟨hs.ld,hs.lk,hs.bd⟩
   have hb:=Nat.mul_le_mul (show k+1<=512 by omega) hl
   rw [Nat.add_mul,Nat.one_mul] at hb
   rw [if_pos (by simp; omega)]
   have:=y6x φ (z63 φ f) L n (k:Int) j _ ⟨s.d,s.kn,-1⟩ hj hs1 hL hl (by omega) hφ
   refine this.trans ?_
   rw [show n-k =(n -(k+1))+1 by omega,runT,W_id (x:=(k:Int)+1) (by omega) (by omega)]
   have hs2:=hs1.rnd hL L.length (Nat.le_refl _)
   by_cases hz :(rndT L L.length ⟨s.d,s.kn,-1⟩).z<0
   ·rw [if_pos hz,if_pos hz]
   ·rw [if_neg hz,if_neg hz]
    exact zrk φ L n j hj hn hL hl hφ f (k+1) _ (hs2.up (by rw [Nat.add_mul,Nat.one_mul]; omega)) (by omega) (by omega)
  ·rw [if_neg (by simp; omega),show n-k=0 by omega,z7 ⟨hj.1,by rw [hs.lk]; exact hj.2⟩]
   show _=if gt s.kn j=true then some (gt s.d j,true,0,()) else some (0,false,0,())
   cases hk:gt s.kn j with
   | false=>rw [if_pos (show (!false)=true from rfl),if_neg (by simp)]
   | true=>rw [if_neg (by simp),if_pos rfl,z7 ⟨hj.1,by rw [hs.ld]; exact hj.2⟩]
theorem yjo (φ:Nat) (hφ:5001<φ) (L:List z8) (n:Nat) (h1:1<=n) (hn:n<=512) (hL:∀ b∈L,okBd n b) (hl:L.length<=4096) (hz :(low n L).z<0) {i j:Int} (hi:0<=i/\i <(n:Int)) (hj:0<=j/\j <(n:Int)) :
  ze0 φ (n:Int) L i j=if gt (runT L n (t0 n i)).kn j=true then some (gt (runT L n (t0 n i)).d j,true,0,()) else some (0,false,0,()):=by
 unfold ze0
 rw [zow φ hφ,Option.bind_some,yeb h1 hn hl hL,if_neg (by simp),if_neg (by
  simp only [Bool.or_eq_true,decide_eq_true_eq,zza]
  unfold max2; split <;> omega),y5i φ hφ L n hn hL hl,Option.bind_some,if_neg (by simp; omega)]
 unfold z82 zj
 rw [z7 (mk_t _ _ (by omega) (by omega) (by omega)),z7 (mk_t _ _ (by omega) (by omega) (by omega)),Int.toNat_natCast,z7 ⟨hi.1,by rw [List.length_replicate]; exact hi.2⟩]
 exact zrk φ L n j hj hn hL hl hφ φ 0 (t0 n i) (yju.up (by omega)) (by omega) (by omega)
end Px
end
section
namespace Px
open Go
structure EvC (φ:Nat) (x:ze) (s:BS) (E T:Int->Int) (pl vr:Nat->Int) (st:Nat->Bool) (f e:Nat):Prop where
 ok:∀ k,f<=k->k<e->okPl x (pl k)/\0<=vr k/\vr k<s.v
 ets:ETs s E T
 pr:∀ k,f<=k->k+1<e->∃ t,Dst φ x (pl k) (pl (k+1))=some t/\0<=t/\(∀ X,SolF s X->t<=X (vr (k+1))-X (vr k))/\(st k=true->pl k=pl (k+1))/\(pl k≠pl (k+1)->1<=t)
structure yg9 (E T:Int->Int) (vr:Nat->Int) (st:Nat->Bool) (m:Int) (f e r i:Nat):Prop where
 cf:f<=r
 ci:r<=i
 ce:i<e
 cst:∀ k,r<=k->k<i->st k=true
 cns:st i=false
 cl:T (vr r)<=m
 ch:m<=E (vr i)
def zrz (φ:Nat) (x:ze) (T:Int->Int) (pl vr:Nat->Int) (m q:Int) (k:Nat):Prop:=∃ w,Dst φ x q (pl k)=some w/\m+w<=T (vr k)
def zrn (φ:Nat) (x:ze) (E:Int->Int) (pl vr:Nat->Int) (m q:Int) (k:Nat):Prop:=∃ w,Dst φ x (pl k) q=some w/\E (vr k)+w<=m
def gapW (φ:Nat) (x:ze) (E T:Int->Int) (D:Nat->Int) (pl vr:Nat->Int) (st:Nat->Bool) (m q:Int) (k:Nat):Prop:=
 ∃ a b,Dst φ x (pl k) q=some a/\E (vr k)+a<=m/\Dst φ x q (pl (k+1))=some b/\m+b<=T (vr (k+1))/\(st k=true->q=pl k)/\a+b<=D k
def PosW (φ:Nat) (x:ze) (E T:Int->Int) (D:Nat->Int) (pl vr:Nat->Int) (st:Nat->Bool) (f e:Nat) (m q:Int):Prop:=
 f=e\/zrz φ x T pl vr m q f\/zrn φ x E pl vr m q (e-1)\/∃ k,f<=k/\k+1<e/\gapW φ x E T D pl vr st m q k
section
variable {φ:Nat} (hφ:800000<φ) {x:ze} (hn:z7k x=0) {s:BS} {E T:Int->Int} {pl vr:Nat->Int} {st:Nat->Bool} {f e:Nat}
theorem EvC.mono (H:EvC φ x s E T pl vr st f e) {X:Int->Int} (hX:SolF s X) {i:Nat} (hi:f<=i):∀ {j:Nat},i<=j->j<e->X (vr i)<=X (vr j)/\(X (vr j)<=X (vr i)->pl i=pl j):=by
 intro j
 induction j with
 | zero=>
  intro h1 h2
  have:i=0:=by omega
  subst this
  exact⟨Int.le_refl _,fun _=>rfl⟩
 | succ j ih=>
  intro h1 h2
  by_cases q:i=j+1
  ·subst q; exact⟨Int.le_refl _,fun _=>rfl⟩
  ·obtain⟨a1,a2⟩:=ih (by omega) (by omega)
   obtain⟨t,_,b0,b1,_,b2⟩:=H.pr j (by omega) h2
   have b1:=b1 X hX
   refine⟨by omega,fun h=>?_⟩
   rw [a2 (by omega)]
   by_cases z:pl j=pl (j+1)
   ·exact z
   ·have:=b2 z; omega
include hφ hn
omit hφ hn in
end
end Px
end
