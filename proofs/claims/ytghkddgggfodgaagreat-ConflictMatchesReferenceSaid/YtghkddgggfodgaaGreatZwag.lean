/- A part of the proof of conflictMatchesReference_holds. Conditions: none. -/
import Derived.Test.YtghkddgggfodgaaGreatZwaf
set_option linter.unusedVariables false
set_option linter.unusedSimpArgs false
section
namespace Px
open Go
section
variable {P:Nat} {near:List (List Int)} {wt:Int->Int->Int} {s:Int}
theorem zx1 {α:Type} [Inhabited α] (l:List α) {i:Int} (h0:0<=i) (h:i <(l.length:Int)):zp l i (gt l i)=l:=by
 obtain⟨n,rfl⟩:∃ n:Nat,i =(n:Int):=⟨i.toNat,by omega⟩
 rw [z0x (by omega)]
 simp [zp]
theorem ycp {p:Int} {k:Nat} {t0:List Int} {d:List Bool} (h:DI P near wt s k t0 d):RndI P near wt s p k t0 d [] t0:=
 ⟨h.lt,rfl,fun i _ _=>.inl rfl,fun i hi=>by cases hi⟩
theorem yhl (hG:Gr P near wt) {p:Int} (hp:0<=p) (hp':p <(P:Int)) {k:Nat} {t0:List Int} {d:List Bool} (hp0:0<=gt t0 p) {seen t:List Int} (h:RndI P near wt s p k t0 d seen t) {q:Int} (hq:q∈gt near p) :
  RndI P near wt s p k t0 d (seen++[q]) (if(decide (gt t q<0)||decide (gt t p+wt p q<gt t q))=true then zp t q (gt t p+wt p q) else t):=by
 obtain⟨q0,q1⟩:=hG.rng p q hp hp' hq
 obtain⟨w0,w1⟩:=hG.wt p q hp hp' hq
 have hown:=h.own
 by_cases c:gt t q<0\/gt t p+wt p q<gt t q
 ·rw [if_pos (by simpa using c)]
  have hqp:q≠p:=fun e=>by subst e; omega
  refine⟨by rw [z0b]; exact h.lt,?_,fun i h0 h1=>?_,fun i hi hneg=>?_⟩
  ·rw [zu _ _ _ _ q0 (by rw [h.lt]; exact q1) hp,if_neg (fun e=>hqp e.symm)]; exact hown
  ·rw [zu _ _ _ _ q0 (by rw [h.lt]; exact q1) h0]
   by_cases e:i=q
   ·subst e
    rw [if_pos rfl]
    refine .inr ⟨by simp,by rw [hown],?_⟩
    rcases h.val i h0 h1 with h2 |⟨_,h2,_⟩
    ·rw [h2,hown] at c; exact c
    ·rw [h2,hown] at c; exfalso; omega
   ·rw [if_neg e]
    rcases h.val i h0 h1 with h2 |⟨h2,h3,h4⟩
    ·exact .inl h2
    ·exact .inr ⟨List.mem_append_left _ h2,h3,h4⟩
  ·by_cases e:i=q
   ·subst e
    rw [zu _ _ _ _ q0 (by rw [h.lt]; exact q1) q0,if_pos rfl,zu _ _ _ _ q0 (by rw [h.lt]; exact q1) hp,if_neg (fun e=>hqp e.symm)]
    omega
   ·have hi:i∈seen:=by
     rcases List.mem_append.1 hi with hi | hi
     ·exact hi
     ·exact absurd (List.mem_singleton.1 hi) e
    rw [zu _ _ _ _ q0 (by rw [h.lt]; exact q1) hneg,if_neg e,zu _ _ _ _ q0 (by rw [h.lt]; exact q1) hp,if_neg (fun e=>hqp e.symm)]
    exact h.got i hi hneg
 ·rw [if_neg (by simpa using c)]
  refine⟨h.lt,hown,fun i h0 h1=>?_,fun i hi hneg=>?_⟩
  ·rcases h.val i h0 h1 with h2 |⟨h2,h3,h4⟩
   ·exact .inl h2
   ·exact .inr ⟨List.mem_append_left _ h2,h3,h4⟩
  ·rcases List.mem_append.1 hi with hi | hi
   ·exact h.got i hi hneg
   ·rw [List.mem_singleton.1 hi]; omega
theorem y6r {d:List Bool} {p:Int} (hp:0<=p) (hp':p <(d.length:Int)) (h:gt d p=false) :(zp d p true).count true=d.count true+1:=by
 obtain⟨n,rfl⟩:∃ n:Nat,p =(n:Int):=⟨p.toNat,by omega⟩
 have hn:n<d.length:=by omega
 rw [z0x hn] at h
 unfold zp
 rw [Int.toNat_natCast,List.count_set hn,h]
 simp
theorem ygr (hG:Gr P near wt) {p:Int} (hp:0<=p) (hp':p <(P:Int)) {k:Nat} {t0:List Int} {d:List Bool} (h:DI P near wt s k t0 d) (hs:0<=s) (hs':s <(P:Int)) (hp0:0<=gt t0 p) (hd:gt d p=false)
  (hmin:∀ i:Int,0<=i->i <(P:Int)->0<=gt t0 i->gt d i=false->gt t0 p<=gt t0 i) {t:List Int} (hr:RndI P near wt s p k t0 d (gt near p) t):DI P near wt s (k+1) t (zp d p true):=by
 have hds:∀ i:Int,0<=i->gt (zp d p true) i=if i=p then true else gt d i:=fun i hi=>zu _ _ _ _ hp (by rw [h.ld]; exact hp') hi
 have hw:∀ i,i∈gt near p->1<=wt p i/\wt p i<=100000:=fun i hi=>hG.wt p i hp hp' hi
 -- what is done stays
 have hdone:∀ i:Int,0<=i->i <(P:Int)->gt d i=true->gt t i=gt t0 i:=by
  intro i h0 h1 hdi
  rcases hr.val i h0 h1 with h2 |⟨h2,h3,h4⟩
  ·exact h2
  ·have:=hw i h2
   have:=h.don i h0 h1 hdi
   have:=h.mon i p h0 h1 hp hp' hdi hd hp0
   omega
 have hbdp:=(h.bd p hp hp').resolve_left (by omega)
 refine⟨hr.lt,by rw [z0b]; exact h.ld,?_,fun i h0 h1=>?_,fun i h0 h1 hdi=>?_,fun a h0 h1 has hta=>?_,fun q i q0 q1 h0 h1 hdq hdi hti=>?_,fun q i q0 q1 hdq hin=>?_,?_⟩
 ·rcases hr.val s hs hs' with h2 |⟨h2,h3,h4⟩
  ·rw [h2,h.src]
  ·have:=hw s h2
   have:=h.src
   omega
 ·rcases hr.val i h0 h1 with h2 |⟨h2,h3,h4⟩
  ·rw [h2]
   rcases h.bd i h0 h1 with h5 | h5
   ·exact .inl h5
   ·right; omega
  ·have:=hw i h2
   right; omega
 ·rw [hds i h0] at hdi
  by_cases e:i=p
  ·subst e; rw [hr.own]; exact hp0
  ·rw [if_neg e] at hdi
   rw [hdone i h0 h1 hdi]; exact h.don i h0 h1 hdi
 ·rcases hr.val a h0 h1 with h2 |⟨h2,h3,h4⟩
  ·rw [h2] at hta ⊢
   obtain⟨q,q0,q1,hdq,hqn,he⟩:=h.pre a h0 h1 has hta
   refine⟨q,q0,q1,?_,hqn,by rw [hdone q q0 q1 hdq]; exact he⟩
   rw [hds q q0]; split
   ·rfl
   ·exact hdq
  ·obtain⟨hsy,hwt⟩:=hG.sym p a hp hp' h2
   exact⟨p,hp,hp',by rw [hds p hp,if_pos rfl],hsy,by rw [hr.own,h3]⟩
 ·rw [hds q q0] at hdq
  rw [hds i h0] at hdi
  have hip:i≠p:=fun e=>by rw [if_pos e] at hdi; cases hdi
  rw [if_neg hip] at hdi
  have hge:gt t0 p<=gt t i:=by
   rcases hr.val i h0 h1 with h2 |⟨h2,h3,h4⟩
   ·rw [h2] at hti ⊢; exact hmin i h0 h1 hti hdi
   ·have:=hw i h2; omega
  by_cases e:q=p
  ·subst e; rw [hr.own]; exact hge
  ·rw [if_neg e] at hdq
   have:=h.mon q p q0 q1 hp hp' hdq hd hp0
   rw [hdone q q0 q1 hdq]; omega
 ·rw [hds q q0] at hdq
  by_cases e:q=p
  ·subst e; exact hr.got i hin (hG.rng q i hp hp' hin).1
  ·rw [if_neg e] at hdq
   obtain⟨i0,i1⟩:=hG.rng q i q0 q1 hin
   have:=h.nbr q i q0 q1 hdq hin
   rw [hdone q q0 q1 hdq]
   rcases hr.val i i0 i1 with h2 |⟨h2,h3,h4⟩
   ·rw [h2]; exact this
   ·have:=hw i h2; omega
 ·rw [y6r hp (by rw [h.ld]; exact hp') hd,h.cnt]
structure DF (P:Nat) (near:List (List Int)) (wt:Int->Int->Int) (s:Int) (t:List Int):Prop where
 lt:t.length=P
 src:gt t s=0
 bd:∀ i:Int,0<=i->i <(P:Int)->gt t i=-1\/(0<=gt t i/\gt t i<=51200000)
 pre:∀ a:Int,0<=a->a <(P:Int)->a≠s->0<=gt t a->∃ q,0<=q/\q <(P:Int)/\q∈gt near a/\0<=gt t q/\gt t a=gt t q+wt q a
 nbr:∀ q i:Int,0<=q->q <(P:Int)->0<=gt t q->i∈gt near q->0<=gt t i/\gt t i<=gt t q+wt q i
theorem yrd (hG:Gr P near wt) {k:Nat} {t:List Int} {d:List Bool} (h:DI P near wt s k t d) (hall:∀ i:Int,0<=i->i <(P:Int)->0<=gt t i->gt d i=true):DF P near wt s t:=by
 have hk:k<=P:=by rw [<- h.cnt,<- h.ld]; exact List.count_le_length
 have:=hG.small
 refine⟨h.lt,h.src,fun i h0 h1=>?_,fun a h0 h1 ha hta=>?_,fun q i q0 q1 hq hi=>h.nbr q i q0 q1 (hall q q0 q1 hq) hi⟩
 ·rcases h.bd i h0 h1 with h2 | h2
  ·exact .inl h2
  ·right; omega
 ·obtain⟨q,q0,q1,hdq,hqn,he⟩:=h.pre a h0 h1 ha hta
  exact⟨q,q0,q1,hqn,h.don q q0 q1 hdq,he⟩
theorem yil (hs:0<=s) (hs':s <(P:Int)) (t:List Int) (ht:t.length=P) (hall:∀ i:Int,0<=i->i <(P:Int)->gt t i=if i=s then 0 else -1):DI P near wt s 0 t (List.replicate P (default:Bool)):=by
 have hd:∀ i:Int,0<=i->i <(P:Int)->gt (List.replicate P (default:Bool)) i=false:=fun i h0 h1=>by rw [z3e _ _ _ h0 (by omega)]; rfl
 refine⟨ht,by simp,by rw [hall s hs hs',if_pos rfl],fun i h0 h1=>?_,fun i h0 h1 h=>?_,fun a h0 h1 ha hta=>?_,fun q i q0 q1 h0 h1 hdq=>?_,fun q i q0 q1 hdq=>?_,?_⟩
 ·rw [hall i h0 h1]; split <;> omega
 ·rw [hd i h0 h1] at h; cases h
 ·rw [hall a h0 h1,if_neg ha] at hta; omega
 ·rw [hd q q0 q1] at hdq; cases hdq
 ·rw [hd q q0 q1] at hdq; cases hdq
 ·simp [List.count_replicate]
end
section walk
variable {ρ:Type} {P:Nat} {near:List (List Int)} {wt:Int->Int->Int} {s:Int}
theorem ypu (hP:P<=512) (A:Nat->Int->Int->Option ρ) (fin:Int->Option ρ) (t:List Int) (d:List Bool) (ht:t.length=P) (hd:d.length=P)
  (stp:∀ n p i,A (n+1) p i =(if(decide ((i:Int) <(P:Int)))=true then(ck ((0:Int)<=i/\i <(t.length:Int)) (ck (((decide ((0:Int)<=(gt t i)))=true)->(0:Int)<=i/\i <(d.length:Int)) (ck ((((decide ((0:Int)<=(gt t i)))&&(!(gt d i)))=true/\(decide ((p:Int)<0))=false)->(0:Int)<=i/\i <(t.length:Int)) (ck ((((decide ((0:Int)<=(gt t i)))&&(!(gt d i)))=true/\(decide ((p:Int)<0))=false)->(0:Int)<=p/\p <(t.length:Int)) (if(((decide ((0:Int)<=(gt t i)))&&(!(gt d i)))&&((decide ((p:Int)<0))||(decide (((gt t i):Int) <(gt t p)))))=true then(A n i (W (i+1))) else(A n p (W (i+1)))))))) else fin p)) (n:Nat) (hn:P<n) :
  ∃ p,A n (-1) 0=fin p/\((p=-1/\∀ i:Int,0<=i->i <(P:Int)->0<=gt t i->gt d i=true)\/(0<=p/\p <(P:Int)/\0<=gt t p/\gt d p=false/\∀ i:Int,0<=i->i <(P:Int)->0<=gt t i->gt d i=false->gt t p<=gt t i)):=by
 refine zi (fun n i (p:Int)=>A n p i) P (fun i p=>(p=-1/\∀ j:Int,0<=j->j <(i:Int)->0<=gt t j->gt d j=true)\/(0<=p/\p <(i:Int)/\0<=gt t p/\gt d p=false/\∀ j:Int,0<=j->j <(i:Int)->0<=gt t j->gt d j=false->gt t p<=gt t j))
  (fun o=>∃ p,o=fin p/\((p=-1/\∀ i:Int,0<=i->i <(P:Int)->0<=gt t i->gt d i=true)\/(0<=p/\p <(P:Int)/\0<=gt t p/\gt d p=false/\∀ i:Int,0<=i->i <(P:Int)->0<=gt t i->gt d i=false->gt t p<=gt t i))) ?_ ?_ n (-1) (.inl ⟨rfl,fun j h0 h1=>by omega⟩) hn
 ·intro n i p hi hI hs
  rw [stp,if_pos (by simp; omega),z7 ⟨by omega,by omega⟩,z7 (fun _=>⟨by omega,by omega⟩),z7 (fun _=>⟨by omega,by omega⟩),W_id (by omega) (by omega)]
  have hpr :(decide ((p:Int)<0))=false->(0:Int)<=p/\p <(t.length:Int):=by
   intro h
   simp only [decide_eq_false_iff_not] at h
   rcases hI with⟨rfl,_⟩ |⟨h1,h2,_⟩
   ·omega
   ·exact⟨h1,by omega⟩
  rw [z7 (fun h=>hpr h.2)]
  have split_j:∀ j:Int,j <((i+1:Nat):Int)->j <(i:Int)\/j =(i:Int):=fun j h=>by omega
  by_cases c :(0<=gt t (i:Int)/\gt d (i:Int)=false)/\(p<0\/gt t (i:Int)<gt t p)
  ·rw [if_pos (by simpa using c)]
   refine hs _ (.inr ⟨by omega,by omega,c.1.1,c.1.2,fun j h0 h1 htj hdj=>?_⟩)
   rcases split_j j h1 with h2 | rfl
   ·rcases hI with⟨_,h3⟩ |⟨q0,_,_,_,h3⟩
    ·have:=h3 j h0 h2 htj; rw [hdj] at this; cases this
    ·have:=h3 j h0 h2 htj hdj
     have:=c.2.resolve_left (by omega)
     omega
   ·exact Int.le_refl _
  ·rw [if_neg (by simpa using c)]
   refine hs p ?_
   rcases hI with⟨rfl,h3⟩ |⟨q0,q1,q2,q3,h3⟩
   ·refine .inl ⟨rfl,fun j h0 h1 htj=>?_⟩
    rcases split_j j h1 with h2 | rfl
    ·exact h3 j h0 h2 htj
    ·cases hdi:gt d (i:Int) with
     | true=>rfl
     | false=>exact absurd ⟨⟨htj,hdi⟩,.inl (by omega)⟩ c
   ·refine .inr ⟨q0,by omega,q2,q3,fun j h0 h1 htj hdj=>?_⟩
    rcases split_j j h1 with h2 | rfl
    ·exact h3 j h0 h2 htj hdj
    ·rcases Int.lt_or_le (gt t (i:Int)) (gt t p) with h4 | h4
     ·exact absurd ⟨⟨htj,hdj⟩,.inr h4⟩ c
     ·exact h4
 ·intro n p hI
  rw [stp,if_neg (by simp)]
  exact⟨p,rfl,hI⟩
theorem yok (hG:Gr P near wt) {p:Int} (hp:0<=p) (hp':p <(P:Int)) {k:Nat} (hk:k<=512) {t0:List Int} {d:List Bool} (hD:DI P near wt s k t0 d) (hp0:0<=gt t0 p) (B:Nat->Int->List Int->Option ρ) (K:List Int->Option ρ) (nb:List Int) (hnb:nb=gt near p) (E:Nat) (lg:Int->Int) (mins:Int->Int)
  (hlg:∀ q∈nb,0<=lg q/\lg q <(E:Int)/\mins (lg q)=wt p q)
  (stp:∀ n i t,B (n+1) i t =(if(decide ((i:Int) <(nb.length:Int)))=true then(ck ((0:Int)<=i/\i <(nb.length:Int)) (ck ((0:Int)<=p/\p <(t.length:Int)) (ck ((0:Int)<=lg (gt nb i)/\lg (gt nb i) <(E:Int)) (ck ((0:Int)<=(gt nb i)/\(gt nb i) <(t.length:Int)) (ck (((decide (((gt t (gt nb i)):Int)<0))=false)->(0:Int)<=(gt nb i)/\(gt nb i) <(t.length:Int)) (if((decide (((gt t (gt nb i)):Int)<0))||(decide (((W ((gt t p)+mins (lg (gt nb i)))):Int) <(gt t (gt nb i)))))=true then(ck ((0:Int)<=(gt nb i)/\(gt nb i) <(t.length:Int)) (B n (W (i+1)) (zp t (gt nb i) (W ((gt t p)+mins (lg (gt nb i))))))) else(B n (W (i+1)) t))))))) else K t)) (n:Nat) (hn:nb.length<n) :
  ∃ t,B n 0 t0=K t/\RndI P near wt s p k t0 d nb t:=by
 have hsz:nb.length<=5000:=by rw [hnb]; exact hG.size p hp hp'
 have hbp:=(hD.bd p hp hp').resolve_left (by omega)
 refine zi (fun n i t=>B n i t) nb.length (fun i t=>RndI P near wt s p k t0 d (nb.take i) t) (fun o=>∃ t,o=K t/\RndI P near wt s p k t0 d nb t) ?_ ?_ n t0 (ycp hD) hn
 ·intro n i t hi hI hs
  have hm:gt nb (i:Int)∈gt near p:=by rw [<- hnb]; exact z0y (by omega) (by omega)
  obtain⟨q0,q1⟩:=hG.rng p _ hp hp' hm
  obtain⟨w0,w1⟩:=hG.wt p _ hp hp' hm
  obtain⟨l0,l1,l2⟩:=hlg (gt nb (i:Int)) (by rw [hnb]; rw [hnb] at hm; exact hm)
  have hlt:=hI.lt
  have hst:=yhl hG hp hp' hp0 hI hm
  rw [<- z09 nb i hi] at hst
  have hr:=hs _ hst
  have hown:=hI.own
  rw [stp,if_pos (by simp; omega),z7 ⟨by omega,by omega⟩,z7 ⟨by omega,by omega⟩,z7 ⟨l0,l1⟩,z7 ⟨by omega,by omega⟩,z7 (fun _=>⟨by omega,by omega⟩),l2,W_id (x:=gt t p+_) (by omega) (by omega),W_id (by omega) (by omega)]
  generalize gt nb (i:Int)=q at *
  by_cases c :(decide (gt t q<0)||decide (gt t p+wt p q<gt t q))=true
  ·rw [if_pos c] at hr ⊢
   rw [z7 ⟨by omega,by omega⟩]
   exact hr
  ·rw [if_neg c] at hr ⊢
   exact hr
 ·intro n t hI
  rw [stp,if_neg (by simp)]
  rw [List.take_length] at hI
  exact⟨t,rfl,hI⟩
theorem ygv (hG:Gr P near wt) (hs:0<=s) (hs':s <(P:Int)) (M:Nat->List Int->List Bool->Option ρ) (fin:List Int->Option ρ) (φ:Nat)
  (rnd:∀ n k t d,k<=512->DI P near wt s k t d->(∃ t',DF P near wt s t'/\M (n+1) t d=fin t')\/(∃ t' p,0<=p/\p <(P:Int)/\DI P near wt s (k+1) t' (zp d p true)/\M (n+1) t d=M n t' (zp d p true))) :
  ∀ n k t d,DI P near wt s k t d->P<n+k->∃ t',DF P near wt s t'/\M n t d=fin t':=by
 intro n
 induction n with
 | zero=>
  intro k t d h hn
  have hk:k<=P:=by rw [<- h.cnt,<- h.ld]; exact List.count_le_length
  omega
 | succ n ih=>
  intro k t d h hn
  have hk:k<=P:=by rw [<- h.cnt,<- h.ld]; exact List.count_le_length
  have:=hG.small
  rcases rnd n k t d (by omega) h with h1 |⟨t',p,_,_,h2,h3⟩
  ·exact h1
  ·rw [h3]
   exact ih (k+1) t' _ h2 (by omega)
end walk
end Px
end
section
namespace Px
open Go
section zm
variable (φ:Nat) (K:List Edge->Int->Int->Int->Int->zc->zc->List (List Int)->Ln->Option (Int×Int×Unit)) (x:zc) (a0 b0:Int)
theorem za0 {i:Nat} (hi:i<x.edges.length) {P:Nat} {near:List (List Int)} {line:Ln} {a b:Int} (hl:near.length=P) (ha:0<=a) (ha':a <(P:Int)) (hsz :(gt near a).length<=10000) (hx:x.edges.length<=2048) (hold:∀ o,lget line a b=some o->0<=o/\o <(x.edges.length:Int)) :
  (if(!(lget line a b).isSome)=true then(ck ((0:Int)<=a/\a <(near.length:Int)) (ck ((0:Int)<=a/\a <(near.length:Int)) (ck ((a:Int)=a) (ck (fits ((gt near a).length +([b]).length) 8) (ck ((0:Int)<=a/\a <(near.length:Int)) (ck ((a:Int)=a) (z3p φ K i ((lget line a b).getD default) ((lget line a b).isSome) x.edges (x.edges.length:Int) i a0 b0 x (keyP a b) x (zp near a (gt near a++[b])) line))))))) else(z3p φ K i ((lget line a b).getD default) ((lget line a b).isSome) x.edges (x.edges.length:Int) i a0 b0 x (keyP a b) x near line)) =
  K x.edges (x.edges.length:Int) ((i:Int)+1) a0 b0 x x (ent1 x.edges i a b (near,line)).1 (ent1 x.edges i a b (near,line)).2:=by
 have hW:W ((i:Int)+1) =(i:Int)+1:=W_id (by omega) (by omega)
 unfold z3p ent1
 simp only []
 cases h:lget line a b with
 | none=>
  simp only [Option.isSome_none,Bool.not_false,if_true,Option.getD_none,Bool.true_or]
  rw [z7 ⟨ha,by omega⟩,z7 ⟨ha,by omega⟩,z7 trivial,z7 (ykf (by simp; omega) (by omega)),z7 ⟨ha,by omega⟩,z7 trivial,z7 (by simp),z7 (by simp),hW]
 | some o=>
  have ho:=hold o h
  simp only [Option.isSome_some,Bool.not_true,Bool.false_eq_true,if_false,Option.getD_some,Bool.false_or]
  rw [z7 (fun _=>⟨by omega,by omega⟩),z7 (fun _=>ho),hW]
  by_cases c:decide ((gt x.edges (i:Int)).minutes <(gt x.edges o).minutes)=true
  ·rw [if_pos c,if_pos c]
  ·rw [if_neg c,if_neg c]
theorem zje {i:Nat} (hi:i<x.edges.length) {P:Nat} {near:List (List Int)} {line:Ln} {a b:Int} (hl:near.length=P) (ha:0<=a) (ha':a <(P:Int)) (hsz :(gt near a).length<=10000) (hx:x.edges.length<=2048) (hold:∀ o,lget line a b=some o->0<=o/\o <(x.edges.length:Int)) :
  (if(!(lget line a b).isSome)=true then(ck ((0:Int)<=a/\a <(near.length:Int)) (ck ((0:Int)<=a/\a <(near.length:Int)) (ck ((a:Int)=a) (ck (fits ((gt near a).length +([b]).length) 8) (ck ((0:Int)<=a/\a <(near.length:Int)) (ck ((a:Int)=a) (z3m φ K i ((lget line a b).getD default) ((lget line a b).isSome) x.edges (x.edges.length:Int) i a0 b0 x (keyP a b) x (zp near a (gt near a++[b])) line))))))) else(z3m φ K i ((lget line a b).getD default) ((lget line a b).isSome) x.edges (x.edges.length:Int) i a0 b0 x (keyP a b) x near line)) =
  K x.edges (x.edges.length:Int) ((i:Int)+1) a0 b0 x x (ent1 x.edges i a b (near,line)).1 (ent1 x.edges i a b (near,line)).2:=za0 φ K x a0 b0 hi hl ha ha' hsz hx hold
theorem z9y (hx:zbp x) {i:Nat} (hi:i<x.edges.length) {near near1:List (List Int)} {line:Ln} (old:Int) (sm:Bool) (hl:near1.length=x.places.length) (ho:sm=true->0<=old/\old <(x.edges.length:Int))
  (hsz :(gt near1 (gt x.edges (i:Int)).b).length<=10000) (hline:∀ a b o,lget line a b=some o->0<=o/\o <(x.edges.length:Int)) (line1:Ln) (h1:line1=if(!sm||decide ((gt x.edges (i:Int)).minutes <(gt x.edges old).minutes))=true then lset line (gt x.edges (i:Int)).a (gt x.edges (i:Int)).b i else line) :
  z3s φ K i old sm i x.edges (x.edges.length:Int) i a0 b0 x (keyP (gt x.edges (i:Int)).a (gt x.edges (i:Int)).b) (gt x.edges (i:Int)) x near1 line =
  K x.edges (x.edges.length:Int) ((i:Int)+1) a0 b0 x x (ent1 x.edges i (gt x.edges (i:Int)).b (gt x.edges (i:Int)).a (near1,line1)).1 (ent1 x.edges i (gt x.edges (i:Int)).b (gt x.edges (i:Int)).a (near1,line1)).2:=by
 obtain⟨e1,e2,e3,e4,e5,_⟩:=hx.ends (i:=(i:Int)) (by omega) (by omega)
 unfold z3s
 rw [z7 (fun _=>⟨by omega,by omega⟩),z7 (fun h=>ho (by simpa using h))]
 by_cases c :(!sm||decide ((gt x.edges (i:Int)).minutes <(gt x.edges old).minutes))=true
 ·rw [if_pos c] at h1 ⊢
  subst h1
  refine za0 φ K x a0 b0 hi hl e3 e4 hsz hx.edges fun o h=>?_
  rw [zod,if_neg (fun q=>e5 q.1.symm)] at h
  exact hline _ _ o h
 ·rw [if_neg c] at h1 ⊢
  subst h1
  exact zje φ K x a0 b0 hi hl e3 e4 hsz hx.edges fun o h=>hline _ _ o h
end zm
section zm
variable (φ:Nat) (x:zc) (a0 b0:Int)
theorem zmj (hx:zbp x) (n:Nat) {i:Nat} (hi:i<x.edges.length) {s:List (List Int)×Ln} (h:HI x.edges x.places.length i s) :
  zr φ (n+1) x.edges (x.edges.length:Int) i a0 b0 x x s.1 s.2=zr φ n x.edges (x.edges.length:Int) ((i:Int)+1) a0 b0 x x (entE x.edges i s).1 (entE x.edges i s).2:=by
 obtain⟨e1,e2,e3,e4,e5,_⟩:=hx.ends (i:=(i:Int)) (by omega) (by omega)
 have hE:=hx.edges
 have hline:∀ a b o,lget s.2 a b=some o->0<=o/\o <(x.edges.length:Int):=fun a b o ho=>by
  obtain⟨h1,h2,_⟩:=h.line _ _ _ ho
  exact⟨h1,by omega⟩
 have hsa:=h.size _ e1 e2
 have hsb:=h.size _ e3 e4
 have hlen:=h.len
 rw [zr,if_pos (by simp; omega),z7 ⟨by omega,by omega⟩]
 unfold entE
 generalize hs1:ent1 x.edges i (gt x.edges (i:Int)).a (gt x.edges (i:Int)).b s=s1
 have hs1':=hs1
 unfold ent1 at hs1'
 cases hg:lget s.2 (gt x.edges (i:Int)).a (gt x.edges (i:Int)).b with
 | none=>
  have hg' : @mget (Nat->Int) Int ⟨beqA 2⟩ s.2 (upd (upd (fun _=>(default:Int)) 0 (gt x.edges (i:Int)).a) 1 (gt x.edges (i:Int)).b)=none:=hg
  rw [hg] at hs1'
  simp only [Option.isSome_none,Bool.not_false,if_true,Option.getD_none,Bool.true_or] at hs1'
  rw [hg']
  simp only [Option.isSome_none,Bool.not_false,if_true,Option.getD_none]
  rw [z7 ⟨e1,by omega⟩,z7 ⟨e1,by omega⟩,z7 trivial,z7 (ykf (by simp; omega) (by omega)),z7 ⟨e1,by omega⟩,z7 trivial,<- hs1']
  refine z9y φ (zr φ n) x a0 b0 hx hi (near:=s.1) _ _ (by rw [z0b]; exact hlen) (fun h=>by cases h) ?_ hline _ (by simp)
  rw [zu _ _ _ _ e1 (by omega) e3,if_neg (fun q=>e5 q.symm)]
  omega
 | some o=>
  have hg' : @mget (Nat->Int) Int ⟨beqA 2⟩ s.2 (upd (upd (fun _=>(default:Int)) 0 (gt x.edges (i:Int)).a) 1 (gt x.edges (i:Int)).b)=some o:=hg
  rw [hg] at hs1'
  simp only [Option.isSome_some,Bool.not_true,Bool.false_eq_true,if_false,Option.getD_some,Bool.false_or] at hs1'
  rw [hg']
  simp only [Option.isSome_some,Bool.not_true,Bool.false_eq_true,if_false,Option.getD_some]
  rw [<- hs1']
  exact z9y φ (zr φ n) x a0 b0 hx hi (near:=s.1) _ _ hlen (fun _=>hline _ _ _ hg) (by omega) hline _ (by simp)
theorem zmh (hx:zbp x) (hφ:5000<φ) (line:Ln):z1g φ φ ((zn2 x).length:Int) 0 a0 b0 (zn2 x) x line =(ck (z4v (x.places.length:Int) 8) (ck (z4v (((List.replicate ((x.places.length:Int):Int).toNat (default:Int)).length:Int)) 1) (z05 φ φ a0 (((List.replicate ((x.places.length:Int):Int).toNat (default:Int)).length:Int)) 0 b0 x (List.replicate ((x.places.length:Int):Int).toNat (default:Int)) ((List.replicate (((List.replicate ((x.places.length:Int):Int).toNat (default:Int)).length:Int):Int).toNat (default:Bool))) (z4u x) line))):=by
 have hl0 :(zn2 x).length=x.places.length:=(zis hx x.edges.length (Nat.le_refl _)).len
 have hP:=hx.places
 have hE:=hx.edges
 obtain⟨n0,hn0⟩:∃ n0,n0=x.places.length:=⟨_,rfl⟩
 rw [<- hn0] at hl0 hP
 rw [hl0]
 have hfin:∀ o:List (List Int),o.length=n0->(∀ w:Nat,w<n0->gt o (w:Int)=zkl (fun a b=>decide (a<b)) (gt (zn2 x) (w:Int)))->o=z4u x:=by
  intro o ho hw
  unfold z4u
  refine List.ext_getElem (by simp [ho,hl0]) fun i h1 h2=>?_
  have:=hw i (by omega)
  rw [z0x h1,z0x (by omega)] at this
  simpa using this
 refine zi (fun n i o=>z1g φ n (n0:Int) i a0 b0 o x line) n0 (fun i o=>o.length=n0/\∀ w:Nat,w<n0->gt o (w:Int)=if w<i then zkl (fun a b=>decide (a<b)) (gt (zn2 x) (w:Int)) else gt (zn2 x) (w:Int)) (fun o=>o =(ck (z4v (x.places.length:Int) 8) (ck (z4v (((List.replicate ((x.places.length:Int):Int).toNat (default:Int)).length:Int)) 1) (z05 φ φ a0 (((List.replicate ((x.places.length:Int):Int).toNat (default:Int)).length:Int)) 0 b0 x (List.replicate ((x.places.length:Int):Int).toNat (default:Int)) ((List.replicate (((List.replicate ((x.places.length:Int):Int).toNat (default:Int)).length:Int):Int).toNat (default:Bool))) (z4u x) line)))) ?_ ?_ φ (zn2 x) ⟨hl0,fun w hw=>by rw [if_neg (by omega)]⟩ (by omega)
 ·intro n i o hi ⟨ho1,ho2⟩ hs
  have hsz:=(zis hx x.edges.length (Nat.le_refl _)).size (i:Int) (by omega) (by omega)
  have hsz :(gt (zn2 x) (i:Int)).length<=2*x.edges.length:=hsz
  have hso:zxn (gt (zn2 x) (i:Int))=some (zkl (fun a b=>decide (a<b)) (gt (zn2 x) (i:Int))):=by
   unfold zxn zrx; rw [if_pos (by omega)]
  rw [z1g,if_pos (by simp; omega),z7 ⟨by omega,by omega⟩,z7 ⟨by omega,by omega⟩,z7 rfl,ho2 i hi,if_neg (by omega),hso,Option.bind_some,W_id (by omega) (by omega)]
  refine hs _ ⟨by rw [z0b]; exact ho1,fun w hw=>?_⟩
  rw [zu _ _ _ _ (by omega) (by omega) (by omega)]
  by_cases e:w=i
  ·subst e; rw [if_pos rfl,if_pos (by omega)]
  ·rw [if_neg (by omega),ho2 w hw]
   by_cases h2:w<i
   ·rw [if_pos h2,if_pos (by omega)]
   ·rw [if_neg h2,if_neg (by omega)]
 ·intro n o ⟨ho1,ho2⟩
  have:=hfin o ho1 fun w hw=>by rw [ho2 w hw,if_pos hw]
  subst this
  rw [z1g,if_neg (by simp)]
theorem zbs (hx:zbp x) (hφ:5000<φ):zr φ φ x.edges (x.edges.length:Int) 0 a0 b0 x x (List.replicate ((x.places.length:Int)).toNat (default:List Int)) [] =(ck (z4v (x.places.length:Int) 8) (ck (z4v (((List.replicate ((x.places.length:Int):Int).toNat (default:Int)).length:Int)) 1) (z05 φ φ a0 (((List.replicate ((x.places.length:Int):Int).toNat (default:Int)).length:Int)) 0 b0 x (List.replicate ((x.places.length:Int):Int).toNat (default:Int)) ((List.replicate (((List.replicate ((x.places.length:Int):Int).toNat (default:Int)).length:Int):Int).toNat (default:Bool))) (z4u x) (zcy x)))):=by
 have hE:=hx.edges
 have h0 :(List.replicate ((x.places.length:Int)).toNat (default:List Int),([]:Ln))=zey x.edges x.places.length 0:=by simp [zey]
 refine zi (fun n i (s:List (List Int)×Ln)=>zr φ n x.edges (x.edges.length:Int) i a0 b0 x x s.1 s.2) x.edges.length (fun i s=>s=zey x.edges x.places.length i) (fun o=>o =(ck (z4v (x.places.length:Int) 8) (ck (z4v (((List.replicate ((x.places.length:Int):Int).toNat (default:Int)).length:Int)) 1) (z05 φ φ a0 (((List.replicate ((x.places.length:Int):Int).toNat (default:Int)).length:Int)) 0 b0 x (List.replicate ((x.places.length:Int):Int).toNat (default:Int)) ((List.replicate (((List.replicate ((x.places.length:Int):Int).toNat (default:Int)).length:Int):Int).toNat (default:Bool))) (z4u x) (zcy x))))) ?_ ?_ φ (List.replicate ((x.places.length:Int)).toNat (default:List Int),[]) h0 (by omega)
 ·intro n i s hi hs hk
  subst hs
  rw [zmj φ x a0 b0 hx n hi (zis hx i (by omega))]
  exact hk _ rfl
 ·intro n s hs
  subst hs
  rw [zr,if_neg (by simp)]
  exact zmh φ x a0 b0 hx hφ (zcy x)
end zm
section network_Route
variable (φ:Nat) (K:List Edge->Int->Int->Int->Int->zc->zc->List (List Int)->Ln->Option ((List Int)×Int×Unit)) (x:zc) (a0 b0:Int)
end network_Route
section network_Route
variable (φ:Nat) (x:zc) (a0 b0:Int)
end network_Route
section network_Shares
end network_Shares
section network_Shares
end network_Shares
end Px
end
section
namespace Px
open Go
section zm
variable (φ:Nat) (x:zc) (a0 b0:Int)
theorem zbq (hx:zbp x) (hφ:800000<φ) (hs:0<=a0) (hs':a0 <(x.places.length:Int)):∃ t,DF x.places.length (z4u x) (wtN x) a0 t/\
  z05 φ φ a0 (((List.replicate ((x.places.length:Int):Int).toNat (default:Int)).length:Int)) 0 b0 x (List.replicate ((x.places.length:Int):Int).toNat (default:Int)) ((List.replicate (((List.replicate ((x.places.length:Int):Int).toNat (default:Int)).length:Int):Int).toNat (default:Bool)))  (z4u x) (zcy x) =(ck ((0:Int)<=b0/\b0 <(t.length:Int)) (if(decide (((gt t b0):Int)<0))=true then(some (0,80,())) else(some ((gt t b0),0,())))):=by
 have hG:=grN hx
 have hP:=hx.places
 have hrep :(List.replicate ((x.places.length:Int):Int).toNat (default:Int)).length=x.places.length:=by simp
 rw [hrep]
 have e1 :((x.places.length:Int)).toNat=x.places.length:=by simp
 rw [e1]
 -- the search
 have search:∀ t:List Int,t.length=x.places.length->(∀ i:Int,0<=i->i <(x.places.length:Int)->gt t i=if i=a0 then 0 else -1)->
   ∃ t',DF x.places.length (z4u x) (wtN x) a0 t'/\zw φ φ b0 x t (List.replicate x.places.length (default:Bool))  (z4u x) (zcy x) =(ck ((0:Int)<=b0/\b0 <(t'.length:Int)) (if(decide (((gt t' b0):Int)<0))=true then(some (0,80,())) else(some ((gt t' b0),0,())))):=by
  intro t ht hall
  refine ygv hG hs hs' (fun n t d=>zw φ n b0 x t d  (z4u x) (zcy x)) (fun t'=>(ck ((0:Int)<=b0/\b0 <(t'.length:Int)) (if(decide (((gt t' b0):Int)<0))=true then(some (0,80,())) else(some ((gt t' b0),0,()))))) φ ?_ φ 0 t _ (yil hs hs' t ht hall) (by omega)
  intro n k t d hk hD
  obtain⟨p,hp1,hp2⟩:=ypu hP (fun m p i=>z11 φ (zw φ n) m p (x.places.length:Int) i b0 x t d  (z4u x) (zcy x))
   (fun p=>(if(decide ((p:Int)<0))=true then(ck ((0:Int)<=b0/\b0 <(t.length:Int)) (if(decide (((gt t b0):Int)<0))=true then(some (0,80,())) else(some ((gt t b0),0,())))) else(ck ((0:Int)<=p/\p <(d.length:Int)) (ck ((0:Int)<=p/\p <((z4u x).length:Int)) (ck ((0:Int)<=p/\p <((z4u x).length:Int)) (ck ((p:Int)=p) (z12 φ (zw φ n) φ p ((gt (z4u x) p).length:Int) 0 b0 x t (zp d p true) (gt (z4u x) p)  (z4u x) p (zcy x))))))))
   t d hD.lt hD.ld (fun m p i=>by rw [z11]) φ (by omega)
  have hM:zw φ (n+1) b0 x t d  (z4u x) (zcy x)=z11 φ (zw φ n) φ (-1) (x.places.length:Int) 0 b0 x t d  (z4u x) (zcy x):=by
   rw [zw,hD.lt]
  simp only [] at hp1
  simp only [hM]
  rw [hp1]
  rcases hp2 with⟨rfl,hall⟩ |⟨p0,p1,p2,p3,p4⟩
  ·left
   refine⟨t,yrd hG hD hall,?_⟩
   rw [if_pos (by decide)]
  ·right
   rw [if_neg (by simp; omega),z7 ⟨p0,by rw [hD.ld]; exact p1⟩,z7 ⟨p0,by rw [hG.len]; exact p1⟩,z7 ⟨p0,by rw [hG.len]; exact p1⟩,z7 trivial]
   obtain⟨t',h1,h2⟩:=yok hG p0 p1 hk hD p2 (fun m i t=>z12 φ (zw φ n) m p ((gt (z4u x) p).length:Int) i b0 x t (zp d p true) (gt (z4u x) p)  (z4u x) p (zcy x))
    (fun t=>zw φ n b0 x t (zp d p true)  (zp (z4u x) p (gt (z4u x) p)) (zcy x)) (gt (z4u x) p) rfl x.edges.length (fun q=>(lget (zcy x) p q).getD default) (fun i=>(gt x.edges i).minutes)
    (fun q hq=>by
     obtain⟨i,hi,i0,i1,_⟩:=zz6 hx p0 p1 hq
     rw [hi]
     exact⟨i0,i1,by unfold wtN; rw [hi]⟩) (fun m i t=>by rw [z12]) φ (by have:=hG.size p p0 p1; omega)
   refine⟨t',p,p0,p1,ygr hG p0 p1 hD hs hs' p2 p3 p4 h2,?_⟩
   rw [zx1 _ p0 (by rw [hG.len]; exact p1)] at h1
   exact h1
 -- all times are unknown at first
 refine zi (fun n i t=>z05 φ n a0 (x.places.length:Int) i b0 x t (List.replicate x.places.length (default:Bool))  (z4u x) (zcy x)) x.places.length (fun i t=>t.length=x.places.length/\∀ j:Int,0<=j->j <(i:Int)->gt t j=-1) (fun o=>∃ t,DF x.places.length (z4u x) (wtN x) a0 t/\o =(ck ((0:Int)<=b0/\b0 <(t.length:Int)) (if(decide (((gt t b0):Int)<0))=true then(some (0,80,())) else(some ((gt t b0),0,()))))) ?_ ?_ φ (List.replicate x.places.length (default:Int)) ⟨by simp,fun j h0 h1=>by omega⟩ (by omega)
 ·intro n i t hi ⟨h1,h2⟩ hs
  rw [z05,if_pos (by simp; omega),z7 ⟨by omega,by omega⟩,W_id (by omega) (by omega)]
  refine hs _ ⟨by rw [z0b]; exact h1,fun j j0 j1=>?_⟩
  rw [zu _ _ _ _ (by omega) (by omega) j0]
  by_cases e:j =(i:Int)
  ·rw [if_pos e]
  ·rw [if_neg e]; exact h2 j j0 (by omega)
 ·intro n t ⟨h1,h2⟩
  rw [z05,if_neg (by simp),z7 ⟨hs,by omega⟩]
  obtain⟨t',h3,h4⟩:=search (zp t a0 0) (by rw [z0b]; exact h1) (fun i i0 i1=>by
   rw [zu _ _ _ _ hs (by omega) i0]
   split
   ·rfl
   ·exact h2 i i0 i1)
  exact⟨t',h3,h4⟩
end zm
section network_Route
variable (φ:Nat) (x:zc) (a0 b0:Int)
end network_Route
theorem z4t {n b:Nat} (h:n<=100000000) (hb:b<=1000):fits n b:=by
 unfold fits
 have:n*b<=100000000*1000:=Nat.mul_le_mul h hb
 omega
theorem zqu (φ:Nat) (hφ:800000<φ) (x:zc) (a b:Int):∃ t e,zm φ x a b=some (t,e,())/\0<=t/\t<=51200000:=by
 unfold zm
 rw [z3x _ (by omega),Option.bind_some]
 by_cases hn:z7z x=0
 case neg=>
  rw [if_pos (by simpa using hn),if_pos (by simpa using hn)]
  exact⟨0,_,rfl,by omega,by omega⟩
 have hx:=yfw hn
 have hP:=hx.places
 rw [if_neg (by simp [hn])]
 obtain⟨m,rfl⟩:∃ m,φ=m+3:=⟨φ-3,by omega⟩
 have g0:gt [a,b] 0=a:=rfl
 have g1:gt [a,b] 1=b:=rfl
 have L :((([a,b]:List Int).length:Nat):Int)=2:=rfl
 have step:∀ n i,zx (m+3) (n+1) 2 i a b x [a,b] x [] =(if(decide ((i:Int)<2))=true then(ck ((0:Int)<=i/\i <(2:Int)) (if((decide (((gt [a,b] i):Int)<0))||(decide (((x.places.length:Int):Int)<=(gt [a,b] i))))=true then(some (0,1,())) else(zx (m+3) n 2 (W (i+1)) a b x [a,b] x []))) else(ck (z4v (x.places.length:Int) 24) (zr (m+3) (m+3) x.edges (x.edges.length:Int) 0 a b x x (List.replicate ((x.places.length:Int):Int).toNat (default :(List Int))) ([]:List ((Nat->Int)×Int))))):=fun n i=>by rw [zx]; rfl
 rw [L,show m+3 =(m+2)+1 from rfl,step,if_pos (by decide),z7 (by decide),g0]
 by_cases ha:0<=a/\a <(x.places.length:Int)
 case neg=>
  rw [if_pos (by simp; omega)]
  exact⟨0,1,rfl,by omega,by omega⟩
 rw [if_neg (by simp; omega),show W (0+1)=1 by rfl,show m+2 =(m+1)+1 from rfl,step,if_pos (by decide),z7 (by decide),g1]
 by_cases hb:0<=b/\b <(x.places.length:Int)
 case neg=>
  rw [if_pos (by simp; omega)]
  exact⟨0,1,rfl,by omega,by omega⟩
 rw [if_neg (by simp; omega),show W (1+1)=2 by rfl,step,if_neg (by decide),z7 (mk_t _ _ (by omega) (by omega) (by omega)),zbs (m+3) x a b hx (by omega),z7 (mk_t _ _ (by omega) (by omega) (by omega)),z7 (mk_t _ _ (by omega) (by simp; omega) (by omega))]
 obtain⟨t,h1,h2⟩:=zbq (m+3) x a b hx (by omega) ha.1 ha.2
 rw [h2,z7 ⟨hb.1,by rw [h1.lt]; exact hb.2⟩]
 rcases h1.bd b hb.1 hb.2 with h3 |⟨h3,h4⟩
 ·rw [if_pos (by simp; omega)]
  exact⟨0,80,rfl,by omega,by omega⟩
 ·rw [if_neg (by simp; omega)]
  exact⟨_,0,rfl,h3,h4⟩
end Px
end
section
namespace Px
open Go
theorem z5c (φ:Nat) (a b c:Int):zy φ a b c=some (bet a b c,()):=rfl
theorem zs9 (φ:Nat) (l:List Wash) (hl:l.length<=4096) (hφ:5000<φ):zbv φ l=some (bif z6j l then 0 else 1,()):=by
 unfold zbv
 rw [z7 (mk_t _ _ (by omega) (by omega) (by omega))]
 refine zi (fun n i t=>z4z φ n l i t) l.length
  (fun i t=>(List.range i).all (z4b l)=true/\t.length=4096/\∀ j:Int,0<=j->j<4096->gt t j =(l.take i).any fun v=>keyW v==j)
  (fun o=>o=some (bif z6j l then 0 else 1,())) ?_ ?_ φ _ ⟨by simp,by rw [List.length_replicate]; rfl,fun j h0 h1=>by rw [z3e _ _ _ h0 (by rw [show (4096:Int).toNat=4096 from rfl]; omega)]; simp⟩ (by omega)
 ·intro n i t hi ⟨h1,h2,h3⟩ hs
  have hW:W ((i:Int)+1) =(i:Int)+1:=W_id (by omega) (by omega)
  have hsucc:=zas (z4b l) i
  have hbad:z4b l i=false->z6j l=false:=by
   intro h
   unfold z6j
   rw [List.all_eq_false]
   exact⟨i,by simp; omega,by simp [h]⟩
  rw [z4z,if_pos (by simp; omega),z7 ⟨by omega,by omega⟩]
  simp only [z5c,Option.bind_some,zn]
  have hok:y1k (gt l i) =(bet (gt l i).from_ 0 63&&bet (gt l i).to 0 63&&((gt l i).from_ !=(gt l i).to)&&bet (gt l i).minutes 0 100000):=rfl
  have hne :((gt l i).from_==(gt l i).to) = !((gt l i).from_ !=(gt l i).to):=by simp [bne]
  rw [hne]
  cases hw:y1k (gt l i) with
  | false=>
   rw [hbad (by simp [z4b,hw])]
   rw [hw] at hok
   clear hne hs h3
   generalize bet (gt l i).from_ 0 63=a at *; generalize bet (gt l i).to 0 63=b at *; generalize ((gt l i).from_ !=(gt l i).to)=c at *; generalize bet (gt l i).minutes 0 100000=d at *
   cases a <;> cases b <;> cases c <;> cases d <;> first | rfl | exact absurd hok (by decide)
  | true=>
   rw [hw] at hok
   have hb:=hok.symm
   simp only [Bool.and_eq_true] at hb
   obtain⟨⟨⟨b1,b2⟩,b3⟩,b4⟩:=hb
   have c1:=zug b1; have c2:=zug b2
   have e1:W (64 *(gt l i).from_)=64 *(gt l i).from_:=W_id (by omega) (by omega)
   have e2:W (W (64 *(gt l i).from_) +(gt l i).to)=keyW (gt l i):=by rw [e1]; exact W_id (by omega) (by omega)
   have hk:0<=keyW (gt l i)/\keyW (gt l i)<4096:=by unfold keyW; omega
   simp only [b1,b2,b3,b4,Bool.not_true,Bool.or_false,if_true,e2,Bool.or_self,Bool.false_eq_true,if_false]
   rw [z7 ⟨hk.1,by omega⟩,h3 _ hk.1 hk.2]
   have hat:z4b l i = !(l.take i).any fun v=>keyW v==keyW (gt l i):=by simp only [z4b,hw,Bool.true_and]
   cases ha :(l.take i).any fun v=>keyW v==keyW (gt l i) with
   | true=>rw [hbad (by rw [hat,ha]; rfl)]; rfl
   | false=>
    rw [if_neg (by simp),z7 ⟨hk.1,by omega⟩,hW]
    refine hs _ ⟨by rw [hsucc,h1,hat,ha]; rfl,by rw [z0b,h2],fun j j0 j1=>?_⟩
    rw [zu _ _ _ _ hk.1 (by omega) j0,zj6 _ _ _ hi,h3 j j0 j1]
    by_cases e:j=keyW (gt l i)
    ·simp [e]
    ·have :(keyW (gt l i)==j)=false:=by simp; exact fun h=>e h.symm
     simp [e,this]
 ·intro n t ⟨h1,h2,h3⟩
  rw [z4z,if_neg (by simp)]
  unfold z6j
  rw [h1]; rfl
theorem zwb (φ:Nat) (hφ:5000<φ) (x:zbf):zhz φ x=some (z5i x,()):=by
 have e :(((decide (32 <(x.types.length:Int))||decide (4096 <(x.wagons.length:Int)))||decide (1024 <(x.swaps.length:Int)))||decide (4096 <(x.washes.length:Int))) =
   (decide (32<x.types.length)||decide (4096<x.wagons.length)||decide (1024<x.swaps.length)||decide (4096<x.washes.length)):=by
  congr 1
  ·congr 1
   ·congr 1 <;>(apply decide_eq_decide.2; omega)
   ·apply decide_eq_decide.2; omega
  ·apply decide_eq_decide.2; omega
 unfold zhz z5i
 rw [e]
 cases h :(decide (32<x.types.length)||decide (4096<x.wagons.length)||decide (1024<x.swaps.length)||decide (4096<x.washes.length)) with
 | true=>rfl
 | false=>
  simp only [Bool.or_eq_false_iff,decide_eq_false_iff_not,Nat.not_lt] at h
  obtain⟨⟨⟨h1,h2⟩,h3⟩,h4⟩:=h
  have hp:W ((x.types.length:Int)-1) =(x.types.length:Int)-1:=W_id (by omega) (by omega)
  rw [if_neg (by simp)]
  rw [z4x (fun n i=>z6b φ n i x) (z4l φ φ 0 x) (some (1,())) x.types (fun t=>!zmp t) ?_ ?_ φ (by omega)]
  ·rw [z4x (fun n i=>z4l φ n i x) (z3q φ φ 0 x) (some (1,())) x.wagons (fun t=>!zg8 x.types.length t) ?_ ?_ φ (by omega)]
   ·rw [z4x (fun n i=>z3q φ n i x) ((zbv φ x.washes).bind fun y=>some (y.1,())) (some (1,())) x.swaps (fun t=>!zo1 x.types.length t) ?_ ?_ φ (by omega)]
    ·rw [zs9 _ _ h4 hφ]
     simp only [Option.bind_some]
     simp only [List.any_eq_not_all_not,Bool.not_not]
     cases x.types.all zmp <;> cases x.wagons.all (zg8 x.types.length) <;> cases x.swaps.all (zo1 x.types.length) <;> cases z6j x.washes <;> rfl
    ·intro n i hi
     have hW:W ((i:Int)+1) =(i:Int)+1:=W_id (by omega) (by omega)
     have hne :((gt x.swaps i).wanted==(gt x.swaps i).given) = !((gt x.swaps i).wanted !=(gt x.swaps i).given):=by simp [bne]
     rw [z3q,if_pos (by simp; omega),z7 ⟨by omega,by omega⟩]
     simp only [z5c,Option.bind_some,zo1,zn,hW,hp,hne]
     cases bet (gt x.swaps i).wanted 0 ((x.types.length:Int)-1) <;> cases bet (gt x.swaps i).given 0 ((x.types.length:Int)-1) <;> cases ((gt x.swaps i).wanted !=(gt x.swaps i).given) <;>
      cases bet (gt x.swaps i).cost 0 1000000000 <;> rfl
    ·intro n; rw [z3q,if_neg (by simp)]
   ·intro n i hi
    have hW:W ((i:Int)+1) =(i:Int)+1:=W_id (by omega) (by omega)
    rw [z4l,if_pos (by simp; omega),z7 ⟨by omega,by omega⟩]
    simp only [zc4,z5c,Option.bind_some,zg8,zn,hW,hp]
    cases bet (gt x.wagons i).type_ 0 ((x.types.length:Int)-1) <;> cases bet (gt x.wagons i).owner 0 63 <;> cases bet (gt x.wagons i).home 0 511 <;>
     cases bet (gt x.wagons i).built 0 1073741824 <;> cases bet (gt x.wagons i).worth 0 1099511627776 <;> rfl
   ·intro n; rw [z4l,if_neg (by simp)]
  ·intro n i hi
   have hW:W ((i:Int)+1) =(i:Int)+1:=W_id (by omega) (by omega)
   rw [z6b,if_pos (by simp; omega),z7 ⟨by omega,by omega⟩]
   simp only [zdt,z5c,Option.bind_some,zmp,zn,hW]
   cases bet (gt x.types i).load 0 1000000 <;> cases bet (gt x.types i).tare 0 1000000 <;> cases bet (gt x.types i).length 0 1000000 <;> cases bet (gt x.types i).brake 0 1000000 <;>
    cases bet (gt x.types i).gauge 0 7 <;> cases bet (gt x.types i).life 1 1073741824 <;> cases bet (gt x.types i).floor 0 100 <;> rfl
  ·intro n; rw [z6b,if_neg (by simp)]
theorem ykr (b n:Nat):pw (b % PP) n=pw b n:=by unfold pw; rw [<- Nat.pow_mod]
theorem yoo (b n:Nat):pw (b*b % PP) n=pw b (2*n):=by
 rw [ykr]; unfold pw; rw [Nat.pow_mul,Nat.pow_two]
theorem yat (φ:Nat):∀(m:Nat) (a b c n:Nat),m<=64->b<2 ^ m->m<n->a<PP->c<PP->z3d φ n (a:Int) (b:Int) 2305843009213690799 (c:Int)=some ((((c+a*b) % PP:Nat):Int),()):=by
 intro m
 induction m with
 | zero=>
  intro a b c n hm64 hb hn ha hc
  obtain⟨n,rfl⟩:∃ n',n=n'+1:=⟨n-1,by omega⟩
  have:b=0:=by simpa using hb
  subst this
  rw [z3d,if_neg (by simp),Nat.mul_zero,Nat.add_zero,Nat.mod_eq_of_lt hc]
 | succ m ih=>
  intro a b c n hm64 hb hn ha hc
  obtain⟨n,rfl⟩:∃ n',n=n'+1:=⟨n-1,by omega⟩
  by_cases h0:b=0
  ·subst h0
   rw [z3d,if_neg (by simp),Nat.mul_zero,Nat.add_zero,Nat.mod_eq_of_lt hc]
  ·rw [z3d,if_pos (by simp; omega),if_pos (by decide :(2:Int)≠0)]
   have e1 :(b:Int).tdiv 2 =((b / 2:Nat):Int):=by rw [Int.tdiv_eq_ediv_of_nonneg (by omega)]; omega
   have e2 :(b:Int).tmod 2 =((b % 2:Nat):Int):=by rw [Int.tmod_eq_emod_of_nonneg (by omega)]; omega
   have hbl :(b / 2:Nat)<2 ^ m:=by rw [Nat.pow_succ] at hb; omega
   have h64 :(2:Nat) ^ m<=2 ^ 63:=Nat.pow_le_pow_right (by decide) (by omega)
   have hb2:U ((b / 2:Nat):Int) =((b / 2:Nat):Int):=U_id (by omega) (by omega)
   have ha0:=ha; have hc0:=hc
   unfold PP at ha hc
   have e3 :(U ((a:Int) +(a:Int))).tmod 2305843009213690799 =(((a+a) % PP:Nat):Int):=by
    rw [U_id (by omega) (by omega),Int.tmod_eq_emod_of_nonneg (by omega)]; unfold PP; omega
   have e4 :(U ((c:Int) +(a:Int))).tmod 2305843009213690799 =(((c+a) % PP:Nat):Int):=by
    rw [U_id (by omega) (by omega),Int.tmod_eq_emod_of_nonneg (by omega)]; unfold PP; omega
   unfold z8y
   rw [e1,e2,e3,e4,hb2]
   have hab:a*b =(a+a) *(b / 2)+a *(b % 2):=by
    conv=>lhs; rw [<- Nat.div_add_mod b 2]
    rw [Nat.mul_add,<- Nat.mul_assoc]; congr 1; rw [Nat.mul_two]
   have hfin:∀ c':Nat,(c' +(a+a) % PP *(b / 2)) % PP =(c' +(a+a) *(b / 2)) % PP:=fun c'=>by
    rw [Nat.add_mod,Nat.mul_mod,Nat.mod_mod,<- Nat.mul_mod,<- Nat.add_mod]
   have hlt:∀ z:Nat,z % PP<PP:=fun z=>Nat.mod_lt _ (by decide)
   rcases Nat.mod_two_eq_zero_or_one b with hbit | hbit
   ·rw [hbit,if_neg (by simp),z7 (by omega),if_pos (by decide :(2:Int)≠0),ih ((a+a) % PP) (b / 2) c n (by omega) hbl (by omega) (hlt _) hc0,hfin,hab,hbit,Nat.mul_zero,Nat.add_zero]
   ·rw [hbit,if_pos (by simp),z7 (by omega),z7 (by omega),if_pos (by decide :(2:Int)≠0),ih ((a+a) % PP) (b / 2) ((c+a) % PP) n (by omega) hbl (by omega) (hlt _) (hlt _),hfin,hab,hbit,Nat.mul_one,Nat.mod_add_mod,show c+a +(a+a) *(b / 2)=c +((a+a) *(b / 2)+a) by omega]
theorem zmw (φ:Nat) (hφ:70<φ) (a b:Nat) (ha:a<PP) (hb:b<PP):zed φ (a:Int) (b:Int) 2305843009213690799=some (((a*b % PP:Nat):Int),()):=by
 unfold zed
 have h64:b<2 ^ 64:=Nat.lt_trans hb (by decide)
 have:=yat φ 64 a b 0 φ (by omega) h64 (by omega) ha (by decide)
 rw [Nat.zero_add] at this
 exact this
theorem yhx (φ:Nat) (hφ:100<φ):∀(m:Nat) (a e c n:Nat),m<=64->e<2 ^ m->m<n->a<PP->c<PP->z5g φ n (a:Int) (e:Int) (c:Int)=some (((c*pw a e % PP:Nat):Int),()):=by
 intro m
 induction m with
 | zero=>
  intro a e c n _ he hn ha hc
  obtain⟨n,rfl⟩:∃ n',n=n'+1:=⟨n-1,by omega⟩
  have:e=0:=by simpa using he
  subst this
  rw [z5g,if_neg (by simp),zzo,Nat.mul_one,Nat.mod_eq_of_lt hc]
 | succ m ih=>
  intro a e c n hm64 he hn ha hc
  obtain⟨n,rfl⟩:∃ n',n=n'+1:=⟨n-1,by omega⟩
  by_cases h0:e=0
  ·subst h0
   rw [z5g,if_neg (by simp),zzo,Nat.mul_one,Nat.mod_eq_of_lt hc]
  ·rw [z5g,if_pos (by simp; omega),if_pos (by decide :(2:Int)≠0)]
   have e1 :(e:Int).tdiv 2 =((e / 2:Nat):Int):=by rw [Int.tdiv_eq_ediv_of_nonneg (by omega)]; omega
   have e2 :(e:Int).tmod 2 =((e % 2:Nat):Int):=by rw [Int.tmod_eq_emod_of_nonneg (by omega)]; omega
   have hel :(e / 2:Nat)<2 ^ m:=by rw [Nat.pow_succ] at he; omega
   have h64 :(2:Nat) ^ m<=2 ^ 63:=Nat.pow_le_pow_right (by decide) (by omega)
   have hU:U ((e / 2:Nat):Int) =((e / 2:Nat):Int):=U_id (by omega) (by omega)
   have hlt:∀ z:Nat,z % PP<PP:=fun z=>Nat.mod_lt _ (by decide)
   unfold zd4
   rw [e1,e2,hU,zmw φ (by omega) a a ha ha]
   have hab:pw a e=pw (a*a % PP) (e / 2)*pw a (e % 2) % PP:=by
    rw [yoo,ycm,Nat.div_add_mod]
   rcases Nat.mod_two_eq_zero_or_one e with hbit | hbit
   ·rw [hbit,if_neg (by simp),Option.bind_some,if_pos (by decide :(2:Int)≠0),ih _ _ _ n (by omega) hel (by omega) (hlt _) hc,hab,hbit,zzo,Nat.mul_one,Nat.mod_eq_of_lt (y6e _ _)]
   ·rw [hbit,if_pos (by simp),zmw φ (by omega) c a hc ha,Option.bind_some,Option.bind_some,if_pos (by decide :(2:Int)≠0),ih _ _ _ n (by omega) hel (by omega) (hlt _) (hlt _),hab,hbit,yl5,Nat.mod_eq_of_lt ha]
    congr 2
    rw [Nat.mod_mul_mod,Nat.mul_mod_mod,Nat.mul_assoc,Nat.mul_comm a]
theorem y1g (φ:Nat) (hφ:100<φ) (b n:Nat) (hn:n<18446744073709551616):zl0 φ (b:Int) (n:Int)=some (((pw b n:Nat):Int),()):=by
 unfold zl0
 rw [if_pos (by decide :(2305843009213690799:Int)≠0)]
 have hbm :((b:Int)).tmod 2305843009213690799 =((b % PP:Nat):Int):=by
  rw [Int.tmod_eq_emod_of_nonneg (by omega)]; unfold PP; omega
 rw [hbm]
 have:=yhx φ hφ 64 (b % PP) n 1 φ (by omega) (by simpa using hn) (by omega) (Nat.mod_lt _ (by decide)) (by decide)
 rw [ykr,Nat.one_mul,Nat.mod_eq_of_lt (y6e _ _)] at this
 exact this
theorem zwa (φ:Nat) (hφ:100<φ) (x:Int):ziv φ x=some (y9x x,()):=by
 unfold ziv y9x
 cases h:decide (2<=x)&&decide (x<2305843009213690799) with
 | false=>rw [gz_f (by simp)]; simp
 | true=>
  simp only [Bool.and_eq_true,decide_eq_true_eq] at h
  have:=y1g φ hφ x.toNat QQ (by decide)
  rw [show ((x.toNat:Nat):Int)=x by omega,show ((QQ:Nat):Int)=1152921504606845399 by decide] at this
  rw [gz_t rfl,this,Option.bind_some,zup]
theorem z5x (φ:Nat) (a b c:Int):z1u φ a b c=some (bet a b c,()):=rfl
theorem zw6 (φ:Nat) (p:z6v):zi4 φ p=some (z9l p,()):=by
 unfold zi4 z9l
 simp only [z5x,Option.bind_some]
 cases bet p.kind 1 5 with
 | false=>rfl
 | true=>
  rw [gz_t (by simp),Option.bind_some]
  cases bet p.railway 0 15 with
  | false=>rfl
  | true=>
   rw [if_neg (by simp)]
   cases h:p.kind==3 with
   | false=>rfl
   | true=>rfl
theorem zym (φ:Nat) (e:Edge) (n:Int) (h:W (n-1)=n-1):zlu φ e n=some (zcd n e,()):=by
 unfold zlu zcd
 simp only [z5x,Option.bind_some,h,zn]
 cases bet e.a 0 (n-1) <;> cases bet e.b 0 (n-1) <;> cases (e.a !=e.b) <;> cases bet e.railway 0 15 <;> cases bet e.minutes 1 100000 <;> cases bet e.km 0 10000 <;> rfl
theorem zb4 (φ:Nat) (hφ:5000<φ) (x:zc):ze0 φ x=some (z7z x,()):=by
 unfold ze0 z7z
 rw [y7p]
 cases h:decide (512<x.places.length)||decide (2048<x.edges.length) with
 | true=>rfl
 | false=>
  simp only [Bool.or_eq_false_iff,decide_eq_false_iff_not,Nat.not_lt] at h
  rw [if_neg (by simp),z4x (fun n i=>z62 φ n i x) (z4g φ φ 0 x) (some (1,())) x.places (fun t=>!z9l t) ?_ ?_ φ (by omega)]
  ·rw [z4x (fun n i=>z4g φ n i x) (some (0,())) (some (1,())) x.edges (fun t=>!zcd x.places.length t) ?_ ?_ φ (by omega)]
   ·simp only [List.any_eq_not_all_not,Bool.not_not]
    cases x.places.all z9l <;> cases x.edges.all (zcd x.places.length) <;> rfl
   ·intro n i hi
    rw [z4g,if_pos (by simp; omega),z7 ⟨by omega,by omega⟩,zym _ _ _ (W_id (by omega) (by omega)),Option.bind_some,W_id (by omega) (by omega)]
    cases zcd x.places.length (gt x.edges i) <;> rfl
   ·intro n; rw [z4g,if_neg (by simp)]
  ·intro n i hi
   rw [z62,if_pos (by simp; omega),z7 ⟨by omega,by omega⟩,zw6,Option.bind_some,W_id (by omega) (by omega)]
   cases z9l (gt x.places i) <;> rfl
  ·intro n; rw [z62,if_neg (by simp)]
def ze9 (l:List Int) (i:Nat):Int:=if i=0 then -1 else gt l ((i:Int)-1)
theorem yj3 (φ:Nat) (c:z4w):∀(n i:Nat),-1<=ze9 c.holidays i->(i:Int)<=ze9 c.holidays i+1->ze9 c.holidays i<=745654->i<=c.holidays.length->745656<=(n:Int)+ze9 c.holidays i->z6c φ n i c=some (bif y3l (ze9 c.holidays i) (c.holidays.drop i) then 0 else 1,()):=by
 intro n
 induction n with
 | zero=>intro i _ _ _ _ _; omega
 | succ n ih=>
  intro i hp hip hp2 hi hn
  by_cases h:i=c.holidays.length
  ·rw [z6c,if_neg (by rw [h]; simp),h,List.drop_length]; rfl
  ·have hW:W ((i:Int)-1) =(i:Int)-1:=W_id (by omega) (by omega)
   rw [z6c,if_pos (by simp; omega),z7 ⟨by omega,by omega⟩,hW,z7 (fun h=>by have:=h.2; simp at this; omega),y03 _ _ (by omega)]
   have hc :((decide ((gt c.holidays i)<0)||decide (745654 <(gt c.holidays i)))||(decide (0 <(i:Int))&&decide ((gt c.holidays i)<=(gt c.holidays ((i:Int)-1))))) = !(decide (ze9 c.holidays i<gt c.holidays i)&&decide (gt c.holidays i<=745654)):=by
    unfold ze9 at *
    rw [Bool.eq_iff_iff]
    by_cases h0:i=0
    ·subst h0; simp; omega
    ·rw [if_neg h0] at *; simp; omega
   rw [hc]
   cases hb:decide (ze9 c.holidays i<gt c.holidays i)&&decide (gt c.holidays i<=745654) with
   | false=>rw [if_pos (by simp)]; simp [y3l,hb]
   | true=>
    rw [if_neg (by simp),W_id (by omega) (by omega)]
    have hpe:ze9 c.holidays (i+1)=gt c.holidays i:=by
     unfold ze9
     rw [if_neg (by omega)]; congr 1; omega
    have hb':=hb
    simp only [Bool.and_eq_true,decide_eq_true_eq] at hb'
    have:=ih (i+1) (by rw [hpe]; omega) (by rw [hpe]; omega) (by rw [hpe]; omega) (by omega) (by rw [hpe]; omega)
    rw [hpe,show ((i+1:Nat):Int) =(i:Int)+1 by omega] at this
    rw [this]
    simp [y3l,hb]
theorem zv1 (φ:Nat) (hφ:800000<φ) (c:z4w):zhn φ c=some (bif zqh c then 0 else 1,()):=by
 unfold zhn
 refine zi (fun n i (_:Unit)=>z65 φ n i c) 7 (fun i _=>((List.range i).all fun j=>zo6 (c.open_ j))=true) (fun o=>o=some (bif zqh c then 0 else 1,())) ?_ ?_ φ () (by simp) (by omega)
 ·intro n i _ hi h hs
  rw [z65,if_pos (by simp; omega),z7 ⟨by omega,by omega⟩,Int.toNat_natCast,zoq,W_id (by omega) (by omega)]
  cases ho:zo6 (c.open_ i) with
  | true=>
   rw [if_neg (by simp)]
   exact hs () (by rw [zas,h,ho]; rfl)
  | false=>
   have:zqh c=false:=by
    unfold zqh
    have :((List.range 7).all fun j=>zo6 (c.open_ j))=false:=by
     rw [List.all_eq_false]; exact⟨i,by simp; omega,by simp [ho]⟩
    rw [this]; rfl
   rw [if_pos (by simp),this]; rfl
 ·intro n _ h
  rw [z65,if_neg (by simp)]
  unfold zqh
  rw [h,Bool.true_and]
  have:=yj3 φ c φ 0 (by simp [ze9]) (by simp [ze9]) (by simp [ze9]) (by omega) (by simp [ze9]; omega)
  simpa [ze9] using this
theorem zzy (φ:Nat) (hφ:800000<φ) (x:Pool) (h1:x.network.places.length<=512) (h2:x.fleet.wagons.length<=4096) (h3:x.readers.length<=256) (h4:x.shippers.length<=256) :
  zm1 φ x=some (!((x.readers.any (z7v x.network.places.length)||x.shippers.any (z78 x.network))||x.fleet.wagons.any (fun w=>decide ((x.network.places.length:Int)<=w.home))),()):=by
 have hp:W ((x.network.places.length:Int)-1) =(x.network.places.length:Int)-1:=W_id (by omega) (by omega)
 unfold zm1
 rw [z4x (fun n i=>z7d φ n (x.network.places.length:Int) i x) (z4s φ φ (x.network.places.length:Int) 0 x) (some (false,())) x.readers (z7v x.network.places.length) ?_ ?_ φ (by omega)]
 rotate_left
 ·intro n i hi
  rw [z7d,if_pos (by simp; omega),z7 ⟨by omega,by omega⟩,hp,W_id (by omega) (by omega),z5c,Option.bind_some]
  show (if z7v x.network.places.length (gt x.readers i)=true then some (false,()) else _)=_
  cases z7v x.network.places.length (gt x.readers i) <;> rfl
 ·intro n; rw [z7d,if_neg (by simp)]
 rw [z4x (fun n i=>z4s φ n (x.network.places.length:Int) i x) (z4n φ φ (x.network.places.length:Int) 0 x) (some (false,())) x.shippers (z78 x.network) ?_ ?_ φ (by omega)]
 rotate_left
 ·intro n i hi
  rw [z4s,if_pos (by simp; omega),z7 ⟨by omega,by omega⟩,hp,W_id (by omega) (by omega),z5c,Option.bind_some,z7 (fun _=>⟨by omega,by omega⟩),z7 (fun h=>by
   simp only [Bool.not_eq_false'] at h
   have:=zug h; omega)]
  show (if z78 x.network (gt x.shippers i)=true then some (false,()) else _)=_
  cases z78 x.network (gt x.shippers i) <;> rfl
 ·intro n; rw [z4s,if_neg (by simp)]
 rw [z4x (fun n i=>z4n φ n (x.network.places.length:Int) i x) (some (true,())) (some (false,())) x.fleet.wagons (fun w=>decide ((x.network.places.length:Int)<=w.home)) ?_ ?_ φ (by omega)]
 rotate_left
 ·intro n i hi
  rw [z4n,if_pos (by simp; omega),z7 ⟨by omega,by omega⟩,W_id (by omega) (by omega)]
  cases decide ((x.network.places.length:Int)<=(gt x.fleet.wagons i).home) <;> rfl
 ·intro n; rw [z4n,if_neg (by simp)]
 cases x.readers.any (z7v x.network.places.length) <;> cases x.shippers.any (z78 x.network) <;> cases x.fleet.wagons.any (fun w=>decide ((x.network.places.length:Int)<=w.home)) <;> rfl
theorem zvq (φ:Nat) (hφ:800000<φ) (x:Pool) (h1:x.network.places.length<=512) (h2:x.network.edges.length<=2048) :
  zh4 φ x=some (!(x.network.places.any (fun p=>decide ((x.railways.length:Int)<=p.railway)||decide ((x.railways.length:Int)<=p.other))||x.network.edges.any (fun e=>decide ((x.railways.length:Int)<=e.railway))),()):=by
 unfold zh4
 rw [z4x (fun n i=>z64 φ n (x.railways.length:Int) i x) (z4r φ φ (x.railways.length:Int) 0 x) (some (false,())) x.network.places (fun p=>decide ((x.railways.length:Int)<=p.railway)||decide ((x.railways.length:Int)<=p.other)) ?_ ?_ φ (by omega)]
 rotate_left
 ·intro n i hi
  rw [z64,if_pos (by simp; omega),z7 ⟨by omega,by omega⟩,W_id (by omega) (by omega)]
  cases decide ((x.railways.length:Int)<=(gt x.network.places i).railway)||decide ((x.railways.length:Int)<=(gt x.network.places i).other) <;> rfl
 ·intro n; rw [z64,if_neg (by simp)]
 rw [z4x (fun n i=>z4r φ n (x.railways.length:Int) i x) (some (true,())) (some (false,())) x.network.edges (fun e=>decide ((x.railways.length:Int)<=e.railway)) ?_ ?_ φ (by omega)]
 rotate_left
 ·intro n i hi
  rw [z4r,if_pos (by simp; omega),z7 ⟨by omega,by omega⟩,W_id (by omega) (by omega)]
  cases decide ((x.railways.length:Int)<=(gt x.network.edges i).railway) <;> rfl
 ·intro n; rw [z4r,if_neg (by simp)]
 cases x.network.places.any (fun p=>decide ((x.railways.length:Int)<=p.railway)||decide ((x.railways.length:Int)<=p.other)) <;> cases x.network.edges.any (fun e=>decide ((x.railways.length:Int)<=e.railway)) <;> rfl
theorem zfu (φ:Nat) (hφ:800000<φ) (x:Pool):z8j φ x=some (zl x,()):=by
 unfold z8j zl
 rw [zb4 _ (by omega),Option.bind_some]
 by_cases hn:z7z x.network=0
 case neg=>rw [if_pos (by simp [hn]),if_pos hn]
 rw [if_neg (by simp [hn]),if_neg (fun e:z7z x.network≠0=>e hn),zwb _ (by omega),Option.bind_some]
 by_cases hf:z5i x.fleet=0
 case neg=>rw [if_pos (by simp [hf]),if_pos hf]
 rw [if_neg (by simp [hf]),if_neg (fun e:z5i x.fleet≠0=>e hf)]
 cases hb:zhg x with
 | true=>
  have e :(((decide (256 <(x.readers.length:Int))||decide (256 <(x.shippers.length:Int)))||decide (16 <(x.railways.length:Int))))=zhg x:=rfl
  rw [e,hb]; rfl
 | false=>
  have hb':¬(((decide (256 <(x.readers.length:Int))||decide (256 <(x.shippers.length:Int)))||decide (16 <(x.railways.length:Int)))=true):=by
   rw [show (((decide (256 <(x.readers.length:Int))||decide (256 <(x.shippers.length:Int)))||decide (16 <(x.railways.length:Int))))=zhg x from rfl,hb]; simp
  rw [if_neg hb']
  simp only [Bool.or_eq_true,decide_eq_true_eq,not_or] at hb'
  obtain⟨n1,n2,_,_⟩:=zld hn
  obtain⟨f1,f2,_⟩:=z6t hf
  rw [zzy φ hφ _ n1 f2 (by omega) (by omega),Option.bind_some,zvq φ hφ _ n1 n2]
  have hL:z1t φ φ 0 x=bif x.railways.any zmy then some (1,()) else(if(((x.railways.length:Int):Int)==0)=true then(some (1,())) else(some (0,()))):=by
   refine z4x (fun n i=>z1t φ n i x) (if(((x.railways.length:Int):Int)==0)=true then(some (1,())) else(some (0,()))) (some (1,())) x.railways zmy ?_ ?_ φ (by omega)
   ·intro n i hi
    rw [z1t,if_pos (by simp; omega),z7 ⟨by omega,by omega⟩,W_id (by omega) (by omega),zv1 _ hφ,Option.bind_some,z7 (fun _=>⟨by omega,by omega⟩)]
    unfold zmy
    cases zqh (gt x.railways i).calendar with
    | false=>rw [gz_f (by simp)]; rfl
    | true=>
     rw [gz_t (by simp),zwa _ (by omega),Option.bind_some]
     cases y9x (gt x.railways i).key <;> rfl
   ·intro n; rw [z1t,if_neg (by simp)]
  rw [hL]
  unfold zn3
  cases x.readers.any (z7v x.network.places.length) <;> cases x.shippers.any (z78 x.network) <;> cases x.fleet.wagons.any (fun w=>decide ((x.network.places.length:Int)<=w.home)) <;>
   cases x.network.places.any (fun p=>decide ((x.railways.length:Int)<=p.railway)||decide ((x.railways.length:Int)<=p.other)) <;> cases x.network.edges.any (fun e=>decide ((x.railways.length:Int)<=e.railway)) <;>
   cases x.railways.any zmy <;> cases ((x.railways.length:Int)==0) <;> rfl
end Px
end
section
namespace Px
namespace BF
section
variable {β:Type} (si sj:β->Nat) (sw:β->Int)
abbrev X:=Nat->Option Int
def ltO (a:Int):Option Int->Bool
 | none=>true
 | some b=>decide (a<b)
def imp (x:X) (b:β):Bool:=match x (si b) with
 | none=>false
 | some a=>ltO (a+sw b) (x (sj b))
def rlx (x:X) (b:β):X:=match x (si b) with
 | none=>x
 | some a=>if ltO (a+sw b) (x (sj b))=true then fun v=>if v=sj b then some (a+sw b) else x v else x
def rnd (L:List β) (x:X):X:=L.foldl (rlx si sj sw) x
def rnds (L:List β) (x:X):Nat->X
 | 0=>x
 | n+1=>rnd si sj sw L (rnds L x n)
inductive Wk (x0:X) (L:List β):Nat->Nat->Int->Prop where
 | nil {v:Nat} {c:Int} : x0 v=some c->Wk x0 L 0 v c
 | step {m:Nat} {c:Int} {b:β} : Wk x0 L m (si b) c->b∈L->Wk x0 L (m+1) (sj b) (c+sw b)
def le (o:Option Int) (c:Int):Prop:=∃ a,o=some a/\a<=c
variable {si sj sw}
theorem rlx_not {x:X} {b:β} (h:imp si sj sw x b=false):rlx si sj sw x b=x:=by
 unfold imp at h; unfold rlx
 cases hx:x (si b) with
 | none=>rfl
 | some a=>rw [hx] at h; simp only at h ⊢; rw [if_neg (by rw [h]; simp)]
theorem rlx_imp {x:X} {b:β} (h:imp si sj sw x b=true):∃ a,x (si b)=some a/\ltO (a+sw b) (x (sj b))=true/\rlx si sj sw x b=fun v=>if v=sj b then some (a+sw b) else x v:=by
 unfold imp at h; unfold rlx
 cases hx:x (si b) with
 | none=>rw [hx] at h; cases h
 | some a=>rw [hx] at h; simp only at h ⊢; exact⟨a,rfl,h,by rw [if_pos h]⟩
theorem rlx_mono {x:X} {b:β} {v:Nat} {c:Int} (h:le (x v) c):le (rlx si sj sw x b v) c:=by
 cases hi:imp si sj sw x b with
 | false=>rw [rlx_not hi]; exact h
 | true=>
  obtain⟨a,ha,hl,e⟩:=rlx_imp hi
  rw [e]
  simp only
  split
  ·rename_i hv; subst hv
   obtain⟨d,hd,hc⟩:=h
   rw [hd] at hl
   simp only [ltO,decide_eq_true_eq] at hl
   exact⟨_,rfl,by omega⟩
  ·exact h
theorem rlx_new {x:X} {b:β} {c:Int} (h:le (x (si b)) c):le (rlx si sj sw x b (sj b)) (c+sw b):=by
 obtain⟨a,ha,hc⟩:=h
 cases hi:imp si sj sw x b with
 | false=>
  rw [rlx_not hi]
  unfold imp at hi
  rw [ha] at hi
  simp only at hi
  cases hx:x (sj b) with
  | none=>rw [hx] at hi; cases hi
  | some d=>rw [hx] at hi; simp only [ltO,decide_eq_false_iff_not] at hi; exact⟨d,rfl,by omega⟩
 | true=>
  obtain⟨a',ha',hl,e⟩:=rlx_imp hi
  rw [ha] at ha'; cases ha'
  rw [e]
  exact⟨_,if_pos rfl,by omega⟩
theorem rnd_mono {v:Nat} {c:Int} : ∀(L:List β) (x:X),le (x v) c->le (rnd si sj sw L x v) c
 | [],x,h=>h
 | b::L,x,h=>rnd_mono L _ (rlx_mono h)
theorem rnd_new {c:Int} : ∀(L:List β) (x:X) (b:β),b∈L->le (x (si b)) c->le (rnd si sj sw L x (sj b)) (c+sw b)
 | b'::L,x,b,hb,h=>by
  rcases List.mem_cons.1 hb with rfl | hb
  ·exact rnd_mono L _ (rlx_new h)
  ·exact rnd_new L _ b hb (rlx_mono h)
theorem rnds_mono (L:List β) {x:X} {v:Nat} {c:Int} (h:le (x v) c):∀ n,le (rnds si sj sw L x n v) c
 | 0=>h
 | n+1=>rnd_mono L _ (rnds_mono L h n)
theorem rnds_low {L:List β} {x0:X} : ∀(k m v:Nat) (c:Int),Wk si sj sw x0 L m v c->m<=k->le (rnds si sj sw L x0 k v) c
 | k,0,v,c,h,hm=>by cases h with | nil h=>exact rnds_mono L ⟨c,h,Int.le_refl _⟩ k
 | k+1,m+1,v,c,h,hm=>by
  cases h with
  | step h hb=>exact rnd_new L _ _ hb (rnds_low k m _ _ h (by omega))
def Inv (si sj:β->Nat) (sw:β->Int) (x0:X) (L:List β) (x:X):Prop:=∀ v a,x v=some a->∃ m,Wk si sj sw x0 L m v a
theorem Inv.rlx {x0 x:X} {L:List β} {b:β} (h:Inv si sj sw x0 L x) (hb:b∈L):Inv si sj sw x0 L (rlx si sj sw x b):=by
 cases hi:imp si sj sw x b with
 | false=>rw [rlx_not hi]; exact h
 | true=>
  obtain⟨a,ha,hl,e⟩:=rlx_imp hi
  intro v d hv
  rw [e] at hv
  simp only at hv
  split at hv
  ·rename_i hj; subst hj
   cases hv
   obtain⟨m,hm⟩:=h _ _ ha
   exact⟨_,.step hm hb⟩
  ·exact h v d hv
theorem Inv.rnd {x0:X} {L:List β} : ∀(M:List β) (x:X),(∀ b∈M,b∈L)->Inv si sj sw x0 L x->Inv si sj sw x0 L (rnd si sj sw M x)
 | [],x,_,h=>h
 | b::M,x,hM,h=>Inv.rnd M _ (fun b hb=>hM b (List.mem_cons_of_mem _ hb)) (h.rlx (hM b (List.mem_cons_self ..)))
theorem Inv.rnds {x0:X} {L:List β} : ∀ n,Inv si sj sw x0 L (rnds si sj sw L x0 n)
 | 0=>fun v a h=>⟨0,.nil h⟩
 | n+1=>Inv.rnd L _ (fun _ h=>h) (Inv.rnds n)
theorem least {Q:Nat->Prop} : ∀ n,Q n->∃ m,Q m/\∀ k,Q k->m<=k:=by
 intro n
 induction n using Nat.strongRecOn with
 | _ n ih=>
  intro h
  by_cases hk:∃ k,k<n/\Q k
  ·obtain⟨k,hk,hq⟩:=hk; exact ih k hk hq
  ·exact⟨n,h,fun k hq=>Nat.le_of_not_lt fun hl=>hk ⟨k,hl,hq⟩⟩
structure Feas (si sj:β->Nat) (sw:β->Int) (x0:X) (L:List β) (n:Nat):Prop where
 ex:∃(p:Nat->Int) (C:Int),(∀ b∈L,p (sj b)<=p (si b)+sw b)/\∀ v c,x0 v=some c->p v-c<=C
 j:∀ b∈L,sj b<n
 z:∀ v c,x0 v=some c->v<n
theorem Wk.lt {x0:X} {L:List β} {n:Nat} (F:Feas si sj sw x0 L n) {m v:Nat} {c:Int} (h:Wk si sj sw x0 L m v c):v<n:=by
 cases h with
 | nil h=>exact F.z _ _ h
 | step h hb=>exact F.j _ hb
theorem Wk.low {x0:X} {L:List β} {p:Nat->Int} {C:Int} (h1:∀ b∈L,p (sj b)<=p (si b)+sw b) (h2:∀ v c,x0 v=some c->p v-c<=C):∀ {m v:Nat} {c:Int},Wk si sj sw x0 L m v c->p v-c<=C
 | 0,_,_,.nil h=>h2 _ _ h
 | _+1,_,_,.step h hb=>by have:=Wk.low h1 h2 h; have:=h1 _ hb; omega
structure Mn (si sj:β->Nat) (sw:β->Int) (x0:X) (L:List β) (v m:Nat) (c:Int):Prop where
 w:Wk si sj sw x0 L m v c
 lo:∀ m' c',Wk si sj sw x0 L m' v c'->c<=c'
 sh:∀ m',Wk si sj sw x0 L m' v c->m<=m'
theorem Mn.ex {x0:X} {L:List β} {n:Nat} (F:Feas si sj sw x0 L n) {m v:Nat} {c:Int} (h:Wk si sj sw x0 L m v c):∃ m c,Mn si sj sw x0 L v m c:=by
 obtain⟨p,C,h1,h2⟩:=F.ex
 obtain⟨k,⟨m1,c1,hk,hw⟩,hl⟩:=least (Q:=fun k=>∃ m c,(C -(p v-c)).toNat=k/\Wk si sj sw x0 L m v c) _ ⟨m,c,rfl,h⟩
 obtain⟨m2,hm,hm2⟩:=least (Q:=fun m=>Wk si sj sw x0 L m v c1) m1 hw
 refine⟨m2,c1,hm,fun m' c' h'=>?_,hm2⟩
 have:=hl _ ⟨m',c',rfl,h'⟩
 have:=Wk.low h1 h2 hw
 have:=Wk.low h1 h2 h'
 omega
theorem Mn.pred {x0:X} {L:List β} {v m:Nat} {c:Int} (h:Mn si sj sw x0 L v (m+1) c):∃ u d,Mn si sj sw x0 L u m d:=by
 obtain⟨w,hc,hm⟩:=h
 cases w with
 | @step _ d b hw hb=>
  refine⟨si b,d,hw,fun m' c' h'=>?_,fun m' h'=>?_⟩
  ·have:=hc _ _ (.step h' hb); omega
  ·have:=hm _ (.step h' hb); omega
theorem Mn.all {x0:X} {L:List β} : ∀ {m v:Nat} {c:Int},Mn si sj sw x0 L v m c->∀ k,k<=m->∃ u d,Mn si sj sw x0 L u k d
 | 0,v,c,h,k,hk=>by
  have:k=0:=by omega
  subst this
  exact⟨v,c,h⟩
 | m+1,v,c,h,k,hk=>by
  by_cases e:k=m+1
  ·subst e; exact⟨v,c,h⟩
  ·obtain⟨u,d,h'⟩:=h.pred; exact Mn.all h' k (by omega)
theorem Mn.uniq {x0:X} {L:List β} {v m m':Nat} {c c':Int} (h:Mn si sj sw x0 L v m c) (h':Mn si sj sw x0 L v m' c'):c=c'/\m=m':=by
 have e:c=c':=Int.le_antisymm (h.lo _ _ h'.w) (h'.lo _ _ h.w)
 subst e
 exact⟨rfl,Nat.le_antisymm (h.sh _ h'.w) (h'.sh _ h.w)⟩
theorem holes:∀(n M:Nat) (R:Nat->Nat->Prop),(∀ k k' u,R k u->R k' u->k=k')->(∀ k,k<M->∃ u,u<n/\R k u)->M<=n
 | 0,M,R,_,h=>by
  cases M with
  | zero=>exact Nat.le_refl _
  | succ M=>obtain⟨u,hu,_⟩:=h 0 (by omega); omega
 | n+1,M,R,hR,h=>by
  by_cases hk:∃ k,k<M/\R k n
  ·obtain⟨k0,hk0,hr⟩:=hk
   have:=holes n (M-1) (fun k u=>R (if k<k0 then k else k+1) u) (fun k k' u h1 h2=>by
    have:=hR _ _ _ h1 h2
    split at this <;> split at this <;> omega) fun k hk=>by
    obtain⟨u,hu,hru⟩:=h (if k<k0 then k else k+1) (by split <;> omega)
    refine⟨u,?_,hru⟩
    by_cases e:u=n
    ·subst e
     have:=hR _ _ _ hru hr
     split at this <;> omega
    ·omega
   omega
  ·have:=holes n M R hR fun k hk'=>by
    obtain⟨u,hu,hru⟩:=h k hk'
    exact⟨u,by
     by_cases e:u=n
     ·subst e; exact(hk ⟨k,hk',hru⟩).elim
     ·omega,hru⟩
   omega
theorem Mn.short {x0:X} {L:List β} {n:Nat} (F:Feas si sj sw x0 L n) {m v:Nat} {c:Int} (h:Mn si sj sw x0 L v m c):m<n:=
 holes n (m+1) (fun k u=>∃ d,Mn si sj sw x0 L u k d) (fun k k' u ⟨_,a⟩ ⟨_,b⟩=>(a.uniq b).2) fun k hk=>by
  obtain⟨u,d,hu⟩:=h.all k (by omega)
  exact⟨u,hu.w.lt F,d,hu⟩
theorem done {x0:X} {L:List β} {n:Nat} (F:Feas si sj sw x0 L n) {k:Nat} (hk:n<=k+1):∀ b∈L,imp si sj sw (rnds si sj sw L x0 k) b=false:=by
 intro b hb
 unfold imp
 cases hx:rnds si sj sw L x0 k (si b) with
 | none=>rfl
 | some a=>
  obtain⟨m,hm⟩:=Inv.rnds k _ _ hx
  obtain⟨m',d,hd⟩:=Mn.ex F (.step hm hb)
  obtain⟨e,he,hed⟩:=rnds_low k m' _ _ hd.w (by have:=hd.short F; omega)
  have:=hd.lo _ _ (.step hm hb)
  rw [he]
  simp only [ltO,decide_eq_false_iff_not]
  omega
def Fix (si sj:β->Nat) (sw:β->Int) (L:List β) (x:X):Prop:=∀ b∈L,imp si sj sw x b=false
theorem Fix.le {L:List β} {x:X} (h:Fix si sj sw L x) {b:β} (hb:b∈L) {a:Int} (ha:x (si b)=some a):∃ d,x (sj b)=some d/\d<=a+sw b:=by
 have:=h b hb
 unfold imp at this
 rw [ha] at this
 simp only at this
 cases hx:x (sj b) with
 | none=>rw [hx] at this; cases this
 | some d=>rw [hx] at this; simp only [ltO,decide_eq_false_iff_not] at this; exact⟨d,rfl,by omega⟩
theorem Fix.wk {x0:X} {L:List β} {x:X} (h:Fix si sj sw L x) (h0:∀ v c,x0 v=some c->BF.le (x v) c):∀ {m v:Nat} {c:Int},Wk si sj sw x0 L m v c->BF.le (x v) c
 | 0,_,_,.nil h'=>h0 _ _ h'
 | _+1,_,_,.step (c:=c) h' hb=>by
  obtain⟨a,ha,hc⟩:=Fix.wk h h0 h'
  obtain⟨d,hd,hl⟩:=h.le hb ha
  exact⟨d,hd,by omega⟩
theorem Fix.uniq {x0:X} {L:List β} {x y:X} (hx:Fix si sj sw L x) (hy:Fix si sj sw L y) (ix:Inv si sj sw x0 L x) (iy:Inv si sj sw x0 L y) (x1:∀ v c,x0 v=some c->BF.le (x v) c) (y1:∀ v c,x0 v=some c->BF.le (y v) c):x=y:=by
 funext v
 have go:∀(x y:X),Fix si sj sw L y->Inv si sj sw x0 L x->(∀ v c,x0 v=some c->BF.le (y v) c)->∀ a,x v=some a->BF.le (y v) a:=fun x y hy ix y1 a ha=>by
  obtain⟨m,hm⟩:=ix v a ha
  exact hy.wk y1 hm
 cases h1:x v with
 | none=>
  cases h2:y v with
  | none=>rfl
  | some b=>obtain⟨a,ha,_⟩:=go y x hx iy x1 b h2; rw [h1] at ha; cases ha
 | some a=>
  obtain⟨b,hb,hab⟩:=go x y hy ix y1 a h1
  obtain⟨a',ha',hba⟩:=go y x hx iy x1 b hb
  rw [h1] at ha'; cases ha'
  rw [hb,Int.le_antisymm hab hba]
end
end BF
end Px
end
section
namespace Px
open Go
def zv7 (e:Edge) (a b:Int):Prop:=(e.a=a/\e.b=b)\/(e.a=b/\e.b=a)
instance (e:Edge) (a b:Int):Decidable (zv7 e a b):=inferInstanceAs (Decidable (_\/_))
def lnF (es:List Edge) (a b:Int):Nat->Int
 | 0=>-1
 | k+1=>if zv7 (gt es (k:Int)) a b/\(lnF es a b k<0\/(gt es (k:Int)).minutes <(gt es (lnF es a b k)).minutes) then(k:Int) else lnF es a b k
theorem y7w (es:List Edge) (a b:Int) (k:Nat):lnF es a b (k+1)=if zv7 (gt es (k:Int)) a b/\(lnF es a b k<0\/(gt es (k:Int)).minutes <(gt es (lnF es a b k)).minutes) then(k:Int) else lnF es a b k:=rfl
theorem y8z (es:List Edge) (a b:Int):∀ k:Nat,(-1<=lnF es a b k/\lnF es a b k <(k:Int))/\(0<=lnF es a b k->zv7 (gt es (lnF es a b k)) a b)/\∀ j:Nat,j<k->zv7 (gt es (j:Int)) a b->0<=lnF es a b k/\(gt es (lnF es a b k)).minutes<=(gt es (j:Int)).minutes
 | 0=>⟨⟨by simp [lnF],by simp [lnF]⟩,by simp [lnF],fun j hj=>by omega⟩
 | k+1=>by
  obtain⟨⟨h1,h2⟩,h3,h4⟩:=y8z es a b k
  unfold lnF
  split
  ·rename_i hc
   refine⟨⟨by omega,by omega⟩,fun _=>hc.1,fun j hj hjj=>⟨by omega,?_⟩⟩
   by_cases e:j=k
   ·subst e; exact Int.le_refl _
   ·have:=h4 j (by omega) hjj
    rcases hc.2 with q | q <;> omega
  ·rename_i hc
   refine⟨⟨h1,by omega⟩,h3,fun j hj hjj=>?_⟩
   by_cases e:j=k
   ·subst e
    by_cases q:lnF es a b j<0
    ·exact absurd ⟨hjj,.inl q⟩ hc
    ·refine⟨by omega,?_⟩
     by_cases q2 :(gt es (j:Int)).minutes <(gt es (lnF es a b j)).minutes
     ·exact absurd ⟨hjj,.inr q2⟩ hc
     ·omega
   ·exact h4 j (by omega) hjj
theorem zxt (es:List Edge) (i a b:Int) (s:List (List Int)×Ln) (c d:Int):lget (ent1 es i a b s).2 c d=if(c=a/\d=b)/\((lget s.2 a b).isSome=false\/(gt es i).minutes <(gt es ((lget s.2 a b).getD default)).minutes) then some i else lget s.2 c d:=by
 unfold ent1
 simp only
 by_cases hc :(lget s.2 a b).isSome=false\/(gt es i).minutes <(gt es ((lget s.2 a b).getD default)).minutes
 ·rw [if_pos (by simpa using hc),zod]
  by_cases q:c=a/\d=b
  ·rw [if_pos q,if_pos ⟨q,hc⟩]
  ·rw [if_neg q,if_neg (fun r=>q r.1)]
 ·rw [if_neg (by simpa using hc),if_neg (fun r=>hc r.2)]
theorem zxh {x:zc} (h:zbp x):∀ k,k<=x.edges.length->∀ c d:Int,lget (zey x.edges x.places.length k).2 c d=if lnF x.edges c d k<0 then none else some (lnF x.edges c d k)
 | 0,_,c,d=>by simp [zey,lget,mget,lnF]
 | k+1,hk,c,d=>by
  obtain⟨_,_,_,_,hne,_⟩:=h.ends (i:=(k:Int)) (by omega) (by omega)
  have ih:=zxh h k (by omega)
  have key:∀ a b,(lget (zey x.edges x.places.length k).2 a b).isSome=false\/(gt x.edges (k:Int)).minutes <(gt x.edges ((lget (zey x.edges x.places.length k).2 a b).getD default)).minutes↔lnF x.edges a b k<0\/(gt x.edges (k:Int)).minutes <(gt x.edges (lnF x.edges a b k)).minutes:=by
   intro a b
   rw [ih a b]
   by_cases q:lnF x.edges a b k<0
   ·rw [if_pos q]; simp [q]
   ·rw [if_neg q]; simp [q]
  show lget (entE x.edges k (zey x.edges x.places.length k)).2 c d=_
  unfold entE
  have e2:lget (ent1 x.edges k (gt x.edges (k:Int)).a (gt x.edges (k:Int)).b (zey x.edges x.places.length k)).2 (gt x.edges (k:Int)).b (gt x.edges (k:Int)).a=lget (zey x.edges x.places.length k).2 (gt x.edges (k:Int)).b (gt x.edges (k:Int)).a:=by
   rw [zxt,if_neg (fun q=>hne q.1.2)]
  rw [zxt,e2,zxt]
  simp only [key]
  have yes:zv7 (gt x.edges (k:Int)) c d/\(lnF x.edges c d k<0\/(gt x.edges (k:Int)).minutes <(gt x.edges (lnF x.edges c d k)).minutes)->lnF x.edges c d (k+1) =(k:Int):=fun q=>by rw [y7w,if_pos q]
  have no:¬(zv7 (gt x.edges (k:Int)) c d/\(lnF x.edges c d k<0\/(gt x.edges (k:Int)).minutes <(gt x.edges (lnF x.edges c d k)).minutes))->lnF x.edges c d (k+1)=lnF x.edges c d k:=fun q=>by rw [y7w,if_neg q]
  by_cases q1:c =(gt x.edges (k:Int)).a/\d =(gt x.edges (k:Int)).b
  ·obtain⟨rfl,rfl⟩:=q1
   rw [if_neg (fun q=>hne q.1.1)]
   by_cases q2:lnF x.edges (gt x.edges (k:Int)).a (gt x.edges (k:Int)).b k<0\/(gt x.edges (k:Int)).minutes <(gt x.edges (lnF x.edges (gt x.edges (k:Int)).a (gt x.edges (k:Int)).b k)).minutes
   ·rw [yes ⟨.inl ⟨rfl,rfl⟩,q2⟩,if_pos ⟨⟨rfl,rfl⟩,q2⟩,if_neg (by omega)]
   ·rw [no (fun q=>q2 q.2),if_neg (fun q=>q2 q.2),ih]
  ·by_cases q3:c =(gt x.edges (k:Int)).b/\d =(gt x.edges (k:Int)).a
   ·obtain⟨rfl,rfl⟩:=q3
    by_cases q2:lnF x.edges (gt x.edges (k:Int)).b (gt x.edges (k:Int)).a k<0\/(gt x.edges (k:Int)).minutes <(gt x.edges (lnF x.edges (gt x.edges (k:Int)).b (gt x.edges (k:Int)).a k)).minutes
    ·rw [yes ⟨.inr ⟨rfl,rfl⟩,q2⟩,if_pos ⟨⟨rfl,rfl⟩,q2⟩,if_neg (by omega)]
    ·rw [no (fun q=>q2 q.2),if_neg (fun q=>q2 q.2),if_neg (fun q=>q1 q.1),ih]
   ·rw [no (fun q=>by
     rcases q.1 with⟨r1,r2⟩ |⟨r1,r2⟩
     ·exact q1 ⟨r1.symm,r2.symm⟩
     ·exact q3 ⟨r2.symm,r1.symm⟩),if_neg (fun q=>q3 q.1),if_neg (fun q=>q1 q.1),ih]
abbrev DE3:=Nat×Nat×Int
abbrev dI (e:DE3):Nat:=e.1
abbrev dJ (e:DE3):Nat:=e.2.1
abbrev dW (e:DE3):Int:=e.2.2
def dirs (e:Edge):List DE3:=[(e.a.toNat,e.b.toNat,e.minutes),(e.b.toNat,e.a.toNat,e.minutes)]
def dE (x:zc):List DE3:=x.edges.flatMap dirs
def tf (t:List Int):BF.X:=fun v=>if v<t.length/\0<=gt t (v:Int) then some (gt t (v:Int)) else none
def tz (s:Int):BF.X:=fun v=>if(v:Int)=s then some 0 else none
theorem y73 {t:List Int} {i:Int} (h0:0<=i) (h:i <(t.length:Int)):tf t i.toNat=if 0<=gt t i then some (gt t i) else none:=by
 unfold tf
 rw [show ((i.toNat:Nat):Int)=i by omega]
 by_cases q:0<=gt t i
 ·rw [if_pos ⟨by omega,q⟩,if_pos q]
 ·rw [if_neg (fun r=>q r.2),if_neg q]
def ryl (t:List Int) (a b m:Int):List Int:=if 0<=gt t a/\(gt t b<0\/gt t a+m<gt t b) then zp t b (gt t a+m) else t
theorem y8r {t:List Int} {a b m:Int} (ha:0<=a) (ha':a <(t.length:Int)) (hb:0<=b) (hb':b <(t.length:Int)) (hm:1<=m) :
  tf (ryl t a b m)=BF.rlx dI dJ dW (tf t) (a.toNat,b.toNat,m)/\(BF.imp dI dJ dW (tf t) (a.toNat,b.toNat,m)=decide (0<=gt t a/\(gt t b<0\/gt t a+m<gt t b))):=by
 have e1:=y73 ha ha'
 have e2:=y73 hb hb'
 have ei:BF.imp dI dJ dW (tf t) (a.toNat,b.toNat,m)=decide (0<=gt t a/\(gt t b<0\/gt t a+m<gt t b)):=by
  unfold BF.imp
  simp only [dI,dJ,dW,e1,e2]
  by_cases q:0<=gt t a
  ·rw [if_pos q]
   by_cases q2:0<=gt t b
   ·rw [if_pos q2]
    simp only [BF.ltO]
    rw [decide_eq_decide]; omega
   ·rw [if_neg q2]
    simp only [BF.ltO]
    symm; rw [decide_eq_true_eq]; omega
  ·rw [if_neg q]
   symm; rw [decide_eq_false_iff_not]; exact fun r=>q r.1
 refine⟨?_,ei⟩
 unfold ryl
 by_cases q:0<=gt t a/\(gt t b<0\/gt t a+m<gt t b)
 ·rw [if_pos q]
  rw [decide_eq_true q] at ei
  obtain⟨c,hc,_,er⟩:=BF.rlx_imp ei
  rw [er]
  simp only [dI,e1,if_pos q.1,Option.some.injEq] at hc
  subst hc
  funext v
  unfold tf
  rw [z0b]
  simp only [dJ,dW]
  by_cases hv:v<t.length
  ·rw [zu _ _ _ _ hb hb' (by omega)]
   by_cases e :(v:Int)=b
   ·rw [if_pos e,if_pos (show v<t.length/\0<=gt t a+m from⟨hv,by omega⟩),if_pos (show v=b.toNat by omega)]
   ·rw [if_neg e,if_neg (show ¬ v=b.toNat by omega)]
  ·rw [if_neg (fun r=>hv r.1),if_neg (show ¬ v=b.toNat by omega),if_neg (fun r=>hv r.1)]
 ·rw [if_neg q]
  rw [decide_eq_false q] at ei
  exact(BF.rlx_not ei).symm
def rst (t:List Int) (e:Edge):List Int:=ryl (ryl t e.a e.b e.minutes) e.b e.a e.minutes
def bett (x y:Int):Int:=if x<0 then y else min2 x y
theorem zuu (t:List Int) (a b m:Int) :(ryl t a b m).length=t.length:=by
 unfold ryl; split
 ·exact z0b ..
 ·rfl
theorem yph {t:List Int} {a b m:Int} (ha:0<=a) (ha':a <(t.length:Int)) (hb:0<=b) (hb':b <(t.length:Int)) (hne:a≠b) (hm:1<=m) (hta : -1<=gt t a) (htb : -1<=gt t b) :
  (if 0<=gt t b then zp (if 0<=gt t a then zp t b (bett (gt t b) (gt t a+m)) else t) a (bett (gt t a) (gt t b+m)) else(if 0<=gt t a then zp t b (bett (gt t b) (gt t a+m)) else t))=ryl (ryl t a b m) b a m:=by
 have hself:∀(u:List Int) (i:Int),0<=i->i <(u.length:Int)->zp u i (gt u i)=u:=fun u i h0 h1=>zx1 u h0 h1
 by_cases q1:0<=gt t a
 ·by_cases q2:0<=gt t b
  ·rw [if_pos q2,if_pos q1]
   by_cases q3:gt t a+m<gt t b
   ·have e1:ryl t a b m=zp t b (gt t a+m):=by unfold ryl; rw [if_pos ⟨q1,.inr q3⟩]
    rw [e1]
    have g1:gt (zp t b (gt t a+m)) b=gt t a+m:=by rw [zu _ _ _ _ hb hb' hb,if_pos rfl]
    have g2:gt (zp t b (gt t a+m)) a=gt t a:=by rw [zu _ _ _ _ hb hb' ha,if_neg hne]
    have e2:ryl (zp t b (gt t a+m)) b a m=zp t b (gt t a+m):=by unfold ryl; rw [g1,g2,if_neg (by omega)]
    rw [e2,show bett (gt t b) (gt t a+m)=gt t a+m by unfold bett min2; rw [if_neg (by omega)]; split <;> omega,show bett (gt t a) (gt t b+m)=gt t a by unfold bett min2; rw [if_neg (by omega)]; split <;> omega]
    have:=hself (zp t b (gt t a+m)) a ha (by rw [z0b]; exact ha')
    rwa [g2] at this
   ·have e1:ryl t a b m=t:=by unfold ryl; rw [if_neg (by omega)]
    rw [e1,show bett (gt t b) (gt t a+m)=gt t b by unfold bett min2; rw [if_neg (by omega)]; split <;> omega,hself t b hb hb']
    unfold ryl
    by_cases q4:gt t b+m<gt t a
    ·rw [if_pos ⟨q2,.inr q4⟩,show bett (gt t a) (gt t b+m)=gt t b+m by unfold bett min2; rw [if_neg (by omega)]; split <;> omega]
    ·rw [if_neg (by omega),show bett (gt t a) (gt t b+m)=gt t a by unfold bett min2; rw [if_neg (by omega)]; split <;> omega,hself t a ha ha']
  ·rw [if_neg q2,if_pos q1]
   have e1:ryl t a b m=zp t b (gt t a+m):=by unfold ryl; rw [if_pos ⟨q1,.inl (by omega)⟩]
   have g1:gt (zp t b (gt t a+m)) b=gt t a+m:=by rw [zu _ _ _ _ hb hb' hb,if_pos rfl]
   have g2:gt (zp t b (gt t a+m)) a=gt t a:=by rw [zu _ _ _ _ hb hb' ha,if_neg hne]
   rw [e1,show bett (gt t b) (gt t a+m)=gt t a+m by unfold bett; rw [if_pos (by omega)]]
   unfold ryl; rw [g1,g2,if_neg (by omega)]
 ·have e1:ryl t a b m=t:=by unfold ryl; rw [if_neg (fun r=>q1 r.1)]
  rw [if_neg q1,e1]
  by_cases q2:0<=gt t b
  ·rw [if_pos q2,show bett (gt t a) (gt t b+m)=gt t b+m by unfold bett; rw [if_pos (by omega)]]
   unfold ryl; rw [if_pos ⟨q2,.inl (by omega)⟩]
  ·rw [if_neg q2]
   unfold ryl; rw [if_neg (fun r=>q2 r.1)]
end Px
end
section
namespace Px
open Go
def chF (t:List Int) (e:Edge):Bool:=(gt (rst t e) e.a !=gt t e.a)||(gt (rst t e) e.b !=gt t e.b)
structure EdOK (P:Nat) (e:Edge):Prop where
 a0:0<=e.a
 a1:e.a <(P:Int)
 b0:0<=e.b
 b1:e.b <(P:Int)
 ne:e.a≠e.b
 m1:1<=e.minutes
 m2:e.minutes<=100000
theorem edOK {x:zc} (h:zbp x) {i:Nat} (hi:i<x.edges.length):EdOK x.places.length (gt x.edges (i:Int)):=by
 obtain⟨q1,q2,q3,q4,q5,_,_,q6,q7,_⟩:=h.ends (i:=(i:Int)) (by omega) (by omega)
 exact⟨q1,q2,q3,q4,q5,q6,q7⟩
theorem yfl (t:List Int) (e:Edge) :(rst t e).length=t.length:=by unfold rst; rw [zuu,zuu]
theorem ypn {P:Nat} {t:List Int} (ht:t.length=P) {e:Edge} (he:EdOK P e):tf (rst t e) =(dirs e).foldl (BF.rlx dI dJ dW) (tf t):=by
 obtain⟨a0,a1,b0,b1,ne,m1,m2⟩:=he
 subst ht
 unfold rst dirs
 rw [(y8r (t:=ryl t e.a e.b e.minutes) b0 (by rw [zuu]; exact b1) a0 (by rw [zuu]; exact a1) m1).1,(y8r a0 a1 b0 b1 m1).1]
 rfl
theorem zui {t:List Int} {a b m:Int} (h:¬(0<=gt t a/\(gt t b<0\/gt t a+m<gt t b))):ryl t a b m=t:=by unfold ryl; rw [if_neg h]
theorem y81 {P:Nat} {t:List Int} (ht:t.length=P) {e:Edge} (he:EdOK P e) :(chF t e=false->rst t e=t/\∀ d∈dirs e,BF.imp dI dJ dW (tf t) d=false)/\((∀ d∈dirs e,BF.imp dI dJ dW (tf t) d=false)->rst t e=t/\chF t e=false):=by
 obtain⟨a0,a1,b0,b1,ne,m1,m2⟩:=he
 subst ht
 have i1:=(y8r a0 a1 b0 b1 m1).2
 have i2:=(y8r b0 b1 a0 a1 m1).2
 constructor
 ·intro hc
  unfold chF at hc
  simp only [Bool.or_eq_false_iff,bne_eq_false_iff_eq] at hc
  obtain⟨h1,h2⟩:=hc
  have n1:¬(0<=gt t e.a/\(gt t e.b<0\/gt t e.a+e.minutes<gt t e.b)):=by
   intro q
   unfold rst at h2
   have e1:ryl t e.a e.b e.minutes=zp t e.b (gt t e.a+e.minutes):=by unfold ryl; rw [if_pos q]
   rw [e1] at h2
   have g1:gt (zp t e.b (gt t e.a+e.minutes)) e.b=gt t e.a+e.minutes:=by rw [zu _ _ _ _ b0 b1 b0,if_pos rfl]
   have g2:gt (zp t e.b (gt t e.a+e.minutes)) e.a=gt t e.a:=by rw [zu _ _ _ _ b0 b1 a0,if_neg ne]
   rw [zui (by rw [g1,g2]; omega),g1] at h2
   omega
  have e1:=zui n1
  have n2:¬(0<=gt t e.b/\(gt t e.a<0\/gt t e.b+e.minutes<gt t e.a)):=by
   intro q
   unfold rst at h1
   rw [e1] at h1
   have e2:ryl t e.b e.a e.minutes=zp t e.a (gt t e.b+e.minutes):=by unfold ryl; rw [if_pos q]
   rw [e2,zu _ _ _ _ a0 a1 a0,if_pos rfl] at h1
   omega
  refine⟨by unfold rst; rw [e1,zui n2],fun d hd=>?_⟩
  simp only [dirs,List.mem_cons,List.not_mem_nil,or_false] at hd
  rcases hd with rfl | rfl
  ·rw [i1,decide_eq_false n1]
  ·rw [i2,decide_eq_false n2]
 ·intro hq
  have q1:=hq (e.a.toNat,e.b.toNat,e.minutes) (by simp [dirs])
  have q2:=hq (e.b.toNat,e.a.toNat,e.minutes) (by simp [dirs])
  rw [i1,decide_eq_false_iff_not] at q1
  rw [i2,decide_eq_false_iff_not] at q2
  have hr:rst t e=t:=by unfold rst; rw [zui q1,zui q2]
  refine⟨hr,?_⟩
  unfold chF
  rw [hr]; simp
structure TB (P c:Nat) (t:List Int):Prop where
 len:t.length=P
 bd:∀ i:Int,0<=i->i <(P:Int)->-1<=gt t i/\gt t i<=100000 *(c:Int)
theorem TB.up {P c d:Nat} {t:List Int} (h:TB P c t) (hd:c<=d):TB P d t:=⟨h.len,fun i h0 h1=>by have:=h.bd i h0 h1; omega⟩
theorem TB.ryl {P c:Nat} {t:List Int} (h:TB P c t) {a b m:Int} (ha:0<=a) (ha':a <(P:Int)) (hb:0<=b) (hb':b <(P:Int)) (hm:1<=m) (hm':m<=100000):TB P (c+1) (Px.ryl t a b m):=by
 refine⟨by rw [zuu]; exact h.len,fun i h0 h1=>?_⟩
 have q1:=h.bd a ha ha'
 have q2:=h.bd i h0 h1
 unfold Px.ryl
 split
 ·rw [zu _ _ _ _ hb (by rw [h.len]; exact hb') h0]
  split <;> omega
 ·omega
theorem TB.rst {P c:Nat} {t:List Int} (h:TB P c t) {e:Edge} (he:EdOK P e):TB P (c+2) (Px.rst t e):=
 (h.ryl he.a0 he.a1 he.b0 he.b1 he.m1 he.m2).ryl he.b0 he.b1 he.a0 he.a1 he.m1 he.m2
def rnT (es:List Edge) (t:List Int):Nat->List Int
 | 0=>t
 | m+1=>rst (rnT es t m) (gt es (m:Int))
def fl (es:List Edge) (t:List Int):Nat->Bool
 | 0=>false
 | m+1=>fl es t m||chF (rnT es t m) (gt es (m:Int))
theorem ztw (φ:Nat) (x y:Int):zbi φ x y=some (bett x y,()):=by
 unfold zbi bett
 by_cases h:x<0
 ·rw [if_pos (by simpa using h),if_pos h]
 ·rw [if_neg (by simpa using h),if_neg h]
theorem ypl (φ:Nat) (k) (f:Bool) (i a b:Int) (x:zc) (t:List Int) (e:Edge) (h1:0<=e.a/\e.a <(t.length:Int)) (h2:0<=e.b/\e.b <(t.length:Int)):z52 φ k f i a b x t e=k ((f||(gt t e.a !=a))||(gt t e.b !=b)) (W (i+1)) x t:=by
 unfold z52
 rw [z7 (fun _=>h1),z7 (fun _=>h2)]
theorem yk6 (φ:Nat) (k) (n:Nat) (f:Bool) (i:Nat) {x:zc} (hi:i<x.edges.length) (hie:x.edges.length<=2048) {P c:Nat} (he:EdOK P (gt x.edges (i:Int))) {t:List Int} (ht:TB P c t) (hc:c<=10000000) :
  z0m φ k (n+1) f (i:Int) x t=z0m φ k n (f||chF t (gt x.edges (i:Int))) ((i:Int)+1) x (rst t (gt x.edges (i:Int))):=by
 obtain⟨a0,a1,b0,b1,ne,m1,m2⟩:=he
 have hl:=ht.len
 have qa:=ht.bd _ a0 a1
 have qb:=ht.bd _ b0 b1
 have hr:=yph (t:=t) a0 (by rw [hl]; exact a1) b0 (by rw [hl]; exact b1) ne m1 qa.1 qb.1
 have hr2:rst t (gt x.edges (i:Int))=ryl (ryl t (gt x.edges (i:Int)).a (gt x.edges (i:Int)).b (gt x.edges (i:Int)).minutes) (gt x.edges (i:Int)).b (gt x.edges (i:Int)).a (gt x.edges (i:Int)).minutes:=rfl
 rw [<- hr2] at hr
 rw [z0m,if_pos (by simp; omega),z7 ⟨by omega,by omega⟩,z7 ⟨a0,by rw [hl]; exact a1⟩,z7 ⟨b0,by rw [hl]; exact b1⟩]
 have fin:∀ u:List Int,u=rst t (gt x.edges (i:Int))->z52 φ (z0m φ k n) f (i:Int) (gt t (gt x.edges (i:Int)).a) (gt t (gt x.edges (i:Int)).b) x u (gt x.edges (i:Int))=z0m φ k n (f||chF t (gt x.edges (i:Int))) ((i:Int)+1) x (rst t (gt x.edges (i:Int))):=by
  intro u hu
  subst hu
  rw [ypl _ _ _ _ _ _ _ _ _ ⟨a0,by rw [yfl,hl]; exact a1⟩ ⟨b0,by rw [yfl,hl]; exact b1⟩,W_id (by omega) (by omega),Bool.or_assoc]
  rfl
 by_cases q1:0<=gt t (gt x.edges (i:Int)).a
 ·rw [if_pos (by simpa using q1),W_id (by omega) (by omega),ztw,Option.bind_some,z7 ⟨b0,by rw [hl]; exact b1⟩]
  rw [if_pos q1] at hr
  unfold z6z
  by_cases q2:0<=gt t (gt x.edges (i:Int)).b
  ·rw [if_pos q2] at hr
   rw [if_pos (by simpa using q2),W_id (by omega) (by omega),ztw,Option.bind_some,z7 ⟨a0,by rw [z0b,hl]; exact a1⟩]
   exact fin _ hr
  ·rw [if_neg q2] at hr
   rw [if_neg (by simpa using q2)]
   exact fin _ hr
 ·rw [if_neg (by simpa using q1)]
  rw [if_neg q1] at hr
  unfold z6z
  by_cases q2:0<=gt t (gt x.edges (i:Int)).b
  ·rw [if_pos q2] at hr
   rw [if_pos (by simpa using q2),W_id (by omega) (by omega),ztw,Option.bind_some,z7 ⟨a0,by rw [hl]; exact a1⟩]
   exact fin _ hr
  ·rw [if_neg q2] at hr
   rw [if_neg (by simpa using q2)]
   exact fin _ hr
theorem y83 {x:zc} (h:zbp x) {c:Nat} {t:List Int} (ht:TB x.places.length c t):∀ m,m<=x.edges.length->TB x.places.length (c+2*m) (rnT x.edges t m)
 | 0,_=>ht
 | m+1,hm=>((y83 h ht m (by omega)).rst (edOK h (by omega))).up (by omega)
theorem yki {x:zc} (h:zbp x) {c:Nat} {t:List Int} (ht:TB x.places.length c t):∀ m,m<=x.edges.length->tf (rnT x.edges t m) =((x.edges.take m).flatMap dirs).foldl (BF.rlx dI dJ dW) (tf t)
 | 0,_=>rfl
 | m+1,hm=>by
  have ih:=yki h ht m (by omega)
  rw [z09 x.edges m (by omega),List.flatMap_append,List.foldl_append,<- ih]
  show tf (rst (rnT x.edges t m) (gt x.edges (m:Int)))=_
  rw [ypn (y83 h ht m (by omega)).len (edOK h (by omega))]
  simp
theorem y88 {x:zc} (h:zbp x) {c:Nat} {t:List Int} (ht:TB x.places.length c t):∀ m,m<=x.edges.length->fl x.edges t m=false->rnT x.edges t m=t/\∀ j:Nat,j<m->∀ d∈dirs (gt x.edges (j:Int)),BF.imp dI dJ dW (tf t) d=false
 | 0,_,_=>⟨rfl,fun j hj=>by omega⟩
 | m+1,hm,hf=>by
  simp only [fl,Bool.or_eq_false_iff] at hf
  obtain⟨h1,h2⟩:=y88 h ht m (by omega) hf.1
  rw [h1] at hf
  obtain⟨h3,h4⟩:=(y81 ht.len (edOK h (by omega))).1 hf.2
  refine⟨by show rst (rnT x.edges t m) _=t; rw [h1,h3],fun j hj=>?_⟩
  by_cases e:j=m
  ·subst e; exact h4
  ·exact h2 j (by omega)
theorem yop {x:zc} (h:zbp x) {c:Nat} {t:List Int} (ht:TB x.places.length c t) (hq:∀ d∈dE x,BF.imp dI dJ dW (tf t) d=false):∀ m,m<=x.edges.length->fl x.edges t m=false/\rnT x.edges t m=t
 | 0,_=>⟨rfl,rfl⟩
 | m+1,hm=>by
  obtain⟨h1,h2⟩:=yop h ht hq m (by omega)
  obtain⟨h3,h4⟩:=(y81 ht.len (edOK h (i:=m) (by omega))).2 (fun d hd=>hq d (List.mem_flatMap.2 ⟨_,z0y (l:=x.edges) (i:=(m:Int)) (by omega) (by omega),hd⟩))
  refine⟨?_,by show rst (rnT x.edges t m) _=t; rw [h2,h3]⟩
  simp only [fl,h1,h2,h4,Bool.or_self]
theorem yrs {x:zc} (h:zbp x) {s:Int} (hs:0<=s) (hs':s <(x.places.length:Int)):BF.Feas dI dJ dW (tz s) (dE x) x.places.length:=by
 refine⟨⟨fun _=>0,0,fun d hd=>?_,fun v c hv=>?_⟩,fun d hd=>?_,fun v c hv=>?_⟩
 ·obtain⟨e,he,hd⟩:=List.mem_flatMap.1 hd
  obtain⟨i,hi,rfl⟩:=zgx he
  have:=(edOK h hi).m1
  simp only [dirs,List.mem_cons,List.not_mem_nil,or_false] at hd
  rcases hd with rfl | rfl
  ·show (0:Int)<=0 +(gt x.edges (i:Int)).minutes; omega
  ·show (0:Int)<=0 +(gt x.edges (i:Int)).minutes; omega
 ·unfold tz at hv
  split at hv
  ·cases hv; show (0:Int)-0<=0; omega
  ·cases hv
 ·obtain⟨e,he,hd⟩:=List.mem_flatMap.1 hd
  obtain⟨i,hi,rfl⟩:=zgx he
  obtain⟨a0,a1,b0,b1,_⟩:=edOK h hi
  simp only [dirs,List.mem_cons,List.not_mem_nil,or_false] at hd
  rcases hd with rfl | rfl <;> simp only [dJ] <;> omega
 ·unfold tz at hv
  split at hv
  ·omega
  ·cases hv
structure TF (x:zc) (s:Int) (t:List Int):Prop where
 len:t.length=x.places.length
 lo:∀ i:Int,0<=i->i <(x.places.length:Int)->-1<=gt t i
 fix:BF.Fix dI dJ dW (dE x) (tf t)
 rnd:∃ k,tf t=BF.rnds dI dJ dW (dE x) (tz s) k
theorem yie (φ:Nat) (hφ:5000<φ) {x:zc} (h:zbp x) {s:Int} (hs:0<=s) (hs':s <(x.places.length:Int)) (M:Nat) (hM:2*x.edges.length<=M) (hM2:M<=4096) (f:Nat):∀(k:Nat) (t:List Int),TB x.places.length (k*M) t->tf t=BF.rnds dI dJ dW (dE x) (tz s) k->k<=x.places.length->x.places.length+2<=f+k->
  ∃ t',z1s φ f true x t=some (t',0,())/\TF x s t':=by
 induction f with
 | zero=>intro k t _ _ h1 h2; omega
 | succ f ih=>
  intro k t hB ht h1 h2
  have hP:=h.places
  have hE:=h.edges
  have hround:z0m φ (z1s φ f) φ false 0 x t=z1s φ f (fl x.edges t x.edges.length) x (rnT x.edges t x.edges.length):=by
   refine zi (fun n i (u:Bool×List Int)=>z0m φ (z1s φ f) n u.1 i x u.2) x.edges.length (fun i u=>u =(fl x.edges t i,rnT x.edges t i)) (fun o=>o=_) ?_ ?_ φ (false,t) rfl (by omega)
   ·intro n i u hi hu hk
    subst hu
    have hb:=y83 h hB i (by omega)
    rw [yk6 φ _ n _ i hi hE (edOK h hi) hb (by
     have:=Nat.mul_le_mul (show k<=512 by omega) hM2
     omega)]
    exact hk _ rfl
   ·intro n u hu
    subst hu
    rw [z0m,if_neg (by simp)]
  rw [z1s,if_pos rfl,hround]
  have htf:=yki h hB x.edges.length (Nat.le_refl _)
  rw [List.take_length] at htf
  have htf2:tf (rnT x.edges t x.edges.length)=BF.rnds dI dJ dW (dE x) (tz s) (k+1):=by rw [htf,ht]; rfl
  have hb:=y83 h hB x.edges.length (Nat.le_refl _)
  cases hfl:fl x.edges t x.edges.length with
  | false=>
   obtain⟨q1,q2⟩:=y88 h hB x.edges.length (Nat.le_refl _) hfl
   obtain⟨f',rfl⟩:∃ f',f=f'+1:=⟨f-1,by omega⟩
   rw [z1s,if_neg (by simp)]
   refine⟨_,rfl,hb.len,fun i i0 i1=>(hb.bd i i0 i1).1,?_,k+1,htf2⟩
   rw [q1]
   intro d hd
   obtain⟨e,he,hd⟩:=List.mem_flatMap.1 hd
   obtain⟨i,hi,rfl⟩:=zgx he
   exact q2 i hi d hd
  | true=>
   by_cases hk:x.places.length<=k+1
   ·exfalso
    have:=(yop h hB (fun d hd=>by have:=BF.done (yrs h hs hs') hk d hd; rwa [<- ht] at this) x.edges.length (Nat.le_refl _)).1
    rw [this] at hfl; cases hfl
   ·exact ih (k+1) _ (hb.up (by rw [Nat.add_mul,Nat.one_mul]; omega)) htf2 (by omega) (by omega)
theorem yjh {x:zc} {s:Int} (hs:0<=s) (hs':s <(x.places.length:Int)) {t:List Int} (ht:t.length=x.places.length) (h:∀ i:Int,0<=i->i <(x.places.length:Int)->gt t i=if i=s then 0 else -1):tf t=tz s:=by
 funext v
 unfold tf tz
 by_cases hv:v<t.length
 ·rw [h v (by omega) (by omega)]
  by_cases e :(v:Int)=s
  ·rw [if_pos e,if_pos ⟨hv,by omega⟩,if_pos e]
  ·rw [if_neg e,if_neg (fun q=>by have:=q.2; omega),if_neg e]
 ·rw [if_neg (fun q=>hv q.1),if_neg (by omega)]
theorem yi0 (φ:Nat) (hφ:5000<φ) {x:zc} (hn:z7z x=0) {s:Int} (hs:0<=s) (hs':s <(x.places.length:Int)):∃ t,za6 φ x s=some (t,0,())/\TF x s t:=by
 have h:=yfw hn
 have hP:=h.places
 unfold za6 z8d
 rw [zb4 φ hφ,Option.bind_some,if_neg (by simp [hn]),z5x,W_id (by omega) (by omega),Option.bind_some,Option.bind_some,if_neg (by simp; exact zg6.2 ⟨hs,by omega⟩),z7 (mk_t _ _ (by omega) (by omega) (by omega)),Int.toNat_natCast]
 refine zi (fun n i t=>z6a φ n s i x t) x.places.length (fun i t=>t.length=x.places.length/\∀ j:Int,0<=j->j <(i:Int)->gt t j=-1) (fun o=>∃ t,o=some (t,0,())/\TF x s t) ?_ ?_ φ _ ⟨by simp,fun j h0 h1=>by omega⟩ (by omega)
 ·intro n i t hi ⟨q1,q2⟩ hk
  rw [z6a,if_pos (by rw [q1]; simp; omega),z7 ⟨by omega,by omega⟩,W_id (by omega) (by omega)]
  refine hk _ ⟨by rw [z0b]; exact q1,fun j j0 j1=>?_⟩
  rw [zu _ _ _ _ (by omega) (by omega) j0]
  split
  ·rfl
  ·exact q2 j j0 (by omega)
 ·intro n t ⟨q1,q2⟩
  rw [z6a,if_neg (by rw [q1]; simp),z7 ⟨hs,by omega⟩]
  have hst:∀ i:Int,0<=i->i <(x.places.length:Int)->gt (zp t s 0) i=if i=s then 0 else -1:=fun i i0 i1=>by
   rw [zu _ _ _ _ hs (by omega) i0]
   split
   ·rfl
   ·exact q2 i i0 i1
  have hl :(zp t s 0).length=x.places.length:=by rw [z0b]; exact q1
  have hE:=h.edges
  exact yie φ hφ h hs hs' 4096 (by omega) (by omega) φ 0 _ ⟨hl,fun i i0 i1=>by rw [hst i i0 i1]; split <;> omega⟩ (yjh hs hs' hl hst) (by omega) (by omega)
end Px
end
section
namespace Px
open Go
theorem y02 {x:zc} (h:zbp x) {a b:Int} (ha:0<=a) (ha':a <(x.places.length:Int)):b∈gt (z4u x) a↔0<=lnF x.edges a b x.edges.length:=by
 have H:=zis h x.edges.length (Nat.le_refl _)
 have hl0 :(zn2 x).length=x.places.length:=H.len
 have e:=zxh h x.edges.length (Nat.le_refl _) a b
 unfold z4u
 rw [zr2 _ _ ha (by rw [hl0]; exact ha')]
 refine((z0v _ _).mem_iff).trans ((H.near a b ha ha').trans ?_)
 rw [e]
 by_cases q:lnF x.edges a b x.edges.length<0
 ·rw [if_pos q]; simp; omega
 ·rw [if_neg q]; simp; omega
theorem ydz {x:zc} (h:zbp x) {a b:Int} (hl:0<=lnF x.edges a b x.edges.length):wtN x a b =(gt x.edges (lnF x.edges a b x.edges.length)).minutes:=by
 unfold wtN zcy
 rw [zxh h x.edges.length (Nat.le_refl _) a b,if_neg (by omega)]; rfl
theorem yov {x:zc} (h:zbp x) {d:DE3} (hd:d∈dE x):∃ a b:Int,0<=a/\a <(x.places.length:Int)/\0<=b/\b <(x.places.length:Int)/\d =(a.toNat,b.toNat,dW d)/\0<=lnF x.edges a b x.edges.length/\wtN x a b<=dW d:=by
 obtain⟨e,he,hd⟩:=List.mem_flatMap.1 hd
 obtain⟨i,hi,rfl⟩:=zgx he
 obtain⟨a0,a1,b0,b1,_⟩:=edOK h hi
 simp only [dirs,List.mem_cons,List.not_mem_nil,or_false] at hd
 rcases hd with rfl | rfl
 ·obtain⟨q1,q2⟩:=(y8z x.edges (gt x.edges (i:Int)).a (gt x.edges (i:Int)).b x.edges.length).2.2 i hi (.inl ⟨rfl,rfl⟩)
  exact⟨_,_,a0,a1,b0,b1,rfl,q1,by rw [ydz h q1]; exact q2⟩
 ·obtain⟨q1,q2⟩:=(y8z x.edges (gt x.edges (i:Int)).b (gt x.edges (i:Int)).a x.edges.length).2.2 i hi (.inr ⟨rfl,rfl⟩)
  exact⟨_,_,b0,b1,a0,a1,rfl,q1,by rw [ydz h q1]; exact q2⟩
theorem yq3 {x:zc} (h:zbp x) {a b:Int} (hl:0<=lnF x.edges a b x.edges.length) :(a.toNat,b.toNat,wtN x a b)∈dE x:=by
 obtain⟨⟨_,h2⟩,h3,_⟩:=y8z x.edges a b x.edges.length
 rw [ydz h hl]
 refine List.mem_flatMap.2 ⟨_,z0y (l:=x.edges) hl h2,?_⟩
 rcases h3 hl with⟨q1,q2⟩ |⟨q1,q2⟩
 ·simp only [dirs,q1,q2,List.mem_cons,true_or]
 ·simp only [dirs,q1,q2,List.mem_cons,true_or,or_true]
theorem ypw {x:zc} (h:zbp x) {s:Int} {t:List Int} (hD:DF x.places.length (z4u x) (wtN x) s t):BF.Fix dI dJ dW (dE x) (tf t):=by
 intro d hd
 obtain⟨a,b,a0,a1,b0,b1,e,hl,hw⟩:=yov h hd
 have e1:tf t (dI d)=if 0<=gt t a then some (gt t a) else none:=by rw [e]; exact y73 a0 (by rw [hD.lt]; exact a1)
 have e2:tf t (dJ d)=if 0<=gt t b then some (gt t b) else none:=by rw [e]; exact y73 b0 (by rw [hD.lt]; exact b1)
 unfold BF.imp
 rw [e1,e2]
 by_cases q:0<=gt t a
 ·obtain⟨n1,n2⟩:=hD.nbr a b a0 a1 q ((y02 h a0 a1).2 hl)
  rw [if_pos q,if_pos n1]
  simp only [BF.ltO,decide_eq_false_iff_not]
  omega
 ·rw [if_neg q]
theorem yow {x:zc} (h:zbp x) {s:Int} (hs:0<=s) (hs':s <(x.places.length:Int)) {t:List Int} (hD:DF x.places.length (z4u x) (wtN x) s t):BF.Inv dI dJ dW (tz s) (dE x) (tf t):=by
 have key:∀(n:Nat) (v:Int),0<=v->v <(x.places.length:Int)->0<=gt t v->(gt t v).toNat=n->∃ m,BF.Wk dI dJ dW (tz s) (dE x) m v.toNat (gt t v):=by
  intro n
  induction n using Nat.strongRecOn with
  | _ n ih=>
   intro v v0 v1 hv hn
   by_cases e:v=s
   ·subst e
    rw [hD.src]
    exact⟨0,.nil (by unfold tz; rw [if_pos (by omega)])⟩
   ·obtain⟨q,q0,q1,q2,q3,q4⟩:=hD.pre v v0 v1 e hv
    have hl':=(y02 h v0 v1).1 q2
    obtain⟨hsy,hwt⟩:=(grN h).sym v q v0 v1 q2
    have hl:=(y02 h q0 q1).1 hsy
    have hw1:=((grN h).wt v q v0 v1 q2).1
    obtain⟨m,hm⟩:=ih (gt t q).toNat (by omega) q q0 q1 q3 rfl
    have:=BF.Wk.step (b:=(q.toNat,v.toNat,wtN x q v)) hm (yq3 h hl)
    rw [q4]
    exact⟨_,this⟩
 intro v c hc
 unfold tf at hc
 split at hc
 ·rename_i hv
  cases hc
  obtain⟨m,hm⟩:=key _ (v:Int) (by omega) (by rw [<- hD.lt]; omega) hv.2 rfl
  rw [Int.toNat_natCast] at hm
  exact⟨m,hm⟩
 ·cases hc
theorem ya2 {x:zc} (h:zbp x) {s:Int} (hs:0<=s) (hs':s <(x.places.length:Int)) {t u:List Int} (hD:DF x.places.length (z4u x) (wtN x) s t) (hT:TF x s u) {b:Int} (hb:0<=b) (hb':b <(x.places.length:Int)):gt t b=gt u b:=by
 obtain⟨k,hk⟩:=hT.rnd
 have st1:∀ v c,tz s v=some c->BF.le (tf t v) c:=fun v c hc=>by
  unfold tz at hc
  split at hc
  ·rename_i e
   cases hc
   refine⟨0,?_,Int.le_refl _⟩
   have:=y73 (t:=t) hs (by rw [hD.lt]; exact hs')
   rw [hD.src,if_pos (Int.le_refl _)] at this
   rw [show v=s.toNat by omega]; exact this
  ·cases hc
 have st2:∀ v c,tz s v=some c->BF.le (tf u v) c:=fun v c hc=>by
  rw [hk]; exact BF.rnds_mono _ ⟨c,hc,Int.le_refl _⟩ k
 have e:=BF.Fix.uniq (ypw h hD) hT.fix (yow h hs hs' hD) (by rw [hk]; exact BF.Inv.rnds k) st1 st2
 have e1:=y73 (t:=t) hb (by rw [hD.lt]; exact hb')
 have e2:=y73 (t:=u) hb (by rw [hT.len]; exact hb')
 rw [e,e2] at e1
 have l1:=hD.bd b hb hb'
 have l2:=hT.lo b hb hb'
 by_cases q1:0<=gt u b
 ·by_cases q2:0<=gt t b
  ·rw [if_pos q1,if_pos q2] at e1; exact(Option.some.inj e1).symm
  ·rw [if_pos q1,if_neg q2] at e1; cases e1
 ·by_cases q2:0<=gt t b
  ·rw [if_neg q1,if_pos q2] at e1; cases e1
  ·omega
theorem zwn (φ:Nat) (hφ:800000<φ) {x:zc} (hn:z7z x=0) {a b:Int} (ha:0<=a/\a <(x.places.length:Int)) (hb:0<=b/\b <(x.places.length:Int)) :
  ∃ t,DF x.places.length (z4u x) (wtN x) a t/\zm φ x a b=some (if gt t b<0 then(0,80,()) else(gt t b,0,())):=by
 unfold zm
 rw [z3x _ (by omega),Option.bind_some]
 have hx:=yfw hn
 have hP:=hx.places
 rw [if_neg (by simp [hn])]
 obtain⟨m,rfl⟩:∃ m,φ=m+3:=⟨φ-3,by omega⟩
 have g0:gt [a,b] 0=a:=rfl
 have g1:gt [a,b] 1=b:=rfl
 have L :((([a,b]:List Int).length:Nat):Int)=2:=rfl
 rw [L,show m+3 =(m+2)+1 from rfl,zx,if_pos (by decide),z7 (by rw [L]; decide),g0]
 rw [if_neg (by simp; omega),show W (0+1)=1 by rfl,show m+2 =(m+1)+1 from rfl,zx,if_pos (by decide),z7 (by rw [L]; decide),g1]
 rw [if_neg (by simp; omega),show W (1+1)=2 by rfl,zx,if_neg (by decide),z7 (mk_t _ _ (by omega) (by omega) (by omega))]
 have hbuild:=zbs (m+3) x a b hx (by omega)
 obtain⟨t,h1,h2⟩:=zbq (m+3) x a b hx (by omega) ha.1 ha.2
 refine⟨t,h1,?_⟩
 refine hbuild.trans ?_
 rw [z7 (mk_t _ _ (by omega) (by omega) (by omega)),z7 (mk_t _ _ (by omega) (by simp; omega) (by omega)),h2,z7 ⟨hb.1,by rw [h1.lt]; exact hb.2⟩]
 by_cases h3:gt t b<0
 ·rw [if_pos (by simpa using h3),if_pos h3]
 ·rw [if_neg (by simpa using h3),if_neg h3]
  try rfl
theorem yel (φ:Nat) (hφ:800000<φ) (x:zc) (a b:Int):z7j φ x a b=zm φ x a b:=by
 by_cases hn:z7z x=0
 case neg=>
  unfold z7j za6 zm
  rw [zb4 φ (by omega),z3x _ (by omega),Option.bind_some,Option.bind_some,if_pos (by simpa using hn),Option.bind_some,if_pos (by simpa using hn),if_pos (by simpa using hn),if_pos (by simpa using hn)]
 have hx:=yfw hn
 have hP:=hx.places
 by_cases ha:0<=a/\a <(x.places.length:Int)
 case neg=>
  have e1:zm φ x a b=some (0,1,()):=by
   unfold zm
   rw [z3x _ (by omega),Option.bind_some,if_neg (by simp [hn])]
   obtain⟨m,rfl⟩:∃ m,φ=m+3:=⟨φ-3,by omega⟩
   rw [show m+3 =(m+2)+1 from rfl,zx,if_pos (by simp),z7 ⟨by omega,by simp⟩,show gt [a,b] 0=a from rfl,if_pos (by simp; omega)]
  rw [e1]
  unfold z7j za6 z8d
  rw [zb4 φ (by omega),Option.bind_some,if_neg (by simp [hn]),z5x,W_id (by omega) (by omega),Option.bind_some,Option.bind_some,if_pos (by
   simp only [Bool.not_eq_true']
   rw [<- Bool.not_eq_true,zg6]; omega),Option.bind_some,if_pos (by simp)]
 obtain⟨u,hu,hT⟩:=yi0 φ (by omega) hn ha.1 ha.2
 unfold z7j z8d
 rw [hu,Option.bind_some,if_neg (by simp),z5x,W_id (by omega) (by omega),Option.bind_some,Option.bind_some]
 by_cases hb:0<=b/\b <(x.places.length:Int)
 case neg=>
  have e1:zm φ x a b=some (0,1,()):=by
   unfold zm
   rw [z3x _ (by omega),Option.bind_some,if_neg (by simp [hn])]
   obtain⟨m,rfl⟩:∃ m,φ=m+3:=⟨φ-3,by omega⟩
   rw [show m+3 =(m+2)+1 from rfl,zx,if_pos (by simp),z7 ⟨by omega,by simp⟩,show gt [a,b] 0=a from rfl,if_neg (by simp; omega),show W (0+1)=1 by rfl,show m+2 =(m+1)+1 from rfl,zx,if_pos (by simp),z7 ⟨by omega,by simp⟩,show gt [a,b] 1=b from rfl,if_pos (by simp; omega)]
  rw [e1,if_pos (by
   simp only [Bool.not_eq_true']
   rw [<- Bool.not_eq_true,zg6]; omega)]
 obtain⟨t,hD,e1⟩:=zwn φ hφ hn ha hb
 have e2:=ya2 hx ha.1 ha.2 hD hT hb.1 hb.2
 rw [e1,if_neg (by simp; exact zg6.2 ⟨hb.1,by omega⟩),z7 ⟨hb.1,by rw [hT.len]; exact hb.2⟩,<- e2]
 by_cases q:gt t b<0
 ·rw [if_pos (by simpa using q),if_pos q]
 ·rw [if_neg (by simpa using q),if_neg q,z7 ⟨hb.1,by rw [hT.len]; exact hb.2⟩]
end Px
end
section
namespace Px
open Go
theorem yl9 {P:Nat} {near:List (List Int)} {wt:Int->Int->Int} (hG:Gr P near wt) {s b:Int} {t u:List Int} (hT:DF P near wt s t) (hU:DF P near wt b u) (hb:0<=gt t b) :
  ∀(n:Nat) (c:Int),0<=c->c <(P:Int)->0<=gt u c->(gt u c).toNat=n->0<=gt t c/\gt t c<=gt t b+gt u c:=by
 intro n
 induction n using Nat.strongRecOn with
 | _ n ih=>
  intro c c0 c1 hc hn
  by_cases e:c=b
  ·subst e; rw [hU.src]; omega
  ·obtain⟨q,q0,q1,q2,q3,q4⟩:=hU.pre c c0 c1 e hc
   obtain⟨s1,s2⟩:=hG.sym c q c0 c1 q2
   have w:=(hG.wt q c q0 q1 s1).1
   obtain⟨i1,i2⟩:=ih (gt u q).toNat (by omega) q q0 q1 q3 rfl
   obtain⟨n1,n2⟩:=hT.nbr q c q0 q1 i1 s1
   omega
theorem ymi {P:Nat} {near:List (List Int)} {wt:Int->Int->Int} (hG:Gr P near wt) {s:Int} {t u:List Int} (hT:DF P near wt s t) (hU:DF P near wt s u) {c:Int} (c0:0<=c) (c1:c <(P:Int)):gt t c=gt u c:=by
 have t0:=hT.src
 have u0:=hU.src
 have key:∀ {t u:List Int},DF P near wt s t->DF P near wt s u->0<=gt u c->0<=gt t c/\gt t c<=gt u c:=fun {t u} hT hU h=>by
  have:=yl9 hG hT hU (by rw [hT.src]; omega) _ c c0 c1 h rfl
  rw [hT.src] at this
  omega
 rcases hT.bd c c0 c1 with h1 | h1
 ·rcases hU.bd c c0 c1 with h2 | h2
  ·omega
  ·have:=key hT hU h2.1; omega
 ·have a:=key hU hT h1.1
  have b:=key hT hU a.1
  omega
def Dst (φ:Nat) (x:zc) (a b:Int):Option Int:=match zm φ x a b with
 | some (t,e,_)=>if e=0 then some t else none
 | none=>none
def okPl (x:zc) (a:Int):Prop:=0<=a/\a <(x.places.length:Int)
section
variable {φ:Nat} (hφ:800000<φ) {x:zc} (hn:z7z x=0)
include hφ hn
theorem ybl {a b:Int} (ha:okPl x a) (hb:okPl x b):∃ t,DF x.places.length (z4u x) (wtN x) a t/\Dst φ x a b=if gt t b<0 then none else some (gt t b):=by
 obtain⟨t,h1,h2⟩:=zwn φ hφ hn ha hb
 refine⟨t,h1,?_⟩
 unfold Dst
 rw [h2]
 by_cases q:gt t b<0
 ·rw [if_pos q,if_pos q]; rfl
 ·rw [if_neg q,if_neg q]; rfl
theorem ymn {a b c p q:Int} (ha:okPl x a) (hb:okPl x b) (hc:okPl x c) (h1:Dst φ x a b=some p) (h2:Dst φ x b c=some q):∃ r,Dst φ x a c=some r/\r<=p+q:=by
 obtain⟨t,d1,e1⟩:=ybl hφ hn ha hb
 obtain⟨t',d1',e3⟩:=ybl hφ hn ha hc
 obtain⟨u,d2,e2⟩:=ybl hφ hn hb hc
 have hG:=grN (yfw hn)
 rw [e1] at h1
 rw [e2] at h2
 split at h1
 ·cases h1
 split at h2
 ·cases h2
 cases h1; cases h2
 have:=yl9 hG d1 d2 (by omega) _ c hc.1 hc.2 (by omega) rfl
 have e:=ymi hG d1' d1 hc.1 hc.2
 rw [e3,e,if_neg (by omega)]
 exact⟨_,rfl,this.2⟩
end
end Px
end
section
namespace Px
open Go
theorem zts (φ:Nat):∀(n m N:Nat),m<=N->N<n+m->1<=m\/N=0->N<=5000->z5u φ n (m:Int) (List.replicate m (-1)++List.replicate (N-m) (default:Int))=some (List.replicate N (-1),())
 | 0,m,N,h1,h2,_,_=>by omega
 | n+1,m,N,h1,h2,h3,h4=>by
  have hlen :(List.replicate m (-1:Int)++List.replicate (N-m) (default:Int)).length=N:=by simp; omega
  rw [z5u,hlen]
  by_cases h:m<N
  ·rw [if_pos (by simp; omega),z7 ⟨by omega,by omega,by omega⟩,z7 ⟨by omega,by omega,by omega⟩]
   have e1:z0k (List.replicate m (-1:Int)++List.replicate (N-m) (default:Int)) ((0:Int).toNat) ((m:Int).toNat)=List.replicate m (-1):=by
    simp [z0k,List.take_append]
   rw [e1,List.length_replicate]
   have e2 :((N:Int).toNat -(m:Int).toNat)=N-m:=by omega
   have e3:W ((m:Int) +((min m (N-m):Nat):Int)) =((m+min m (N-m):Nat):Int):=by rw [W_id (by omega) (by omega)]; omega
   rw [e2,e3]
   have e4:cpy (List.replicate m (-1:Int)++List.replicate (N-m) (default:Int)) ((m:Int).toNat) (N-m) (List.replicate m (-1))=List.replicate (m+min m (N-m)) (-1)++List.replicate (N -(m+min m (N-m))) (default:Int):=by
    unfold cpy
    rw [Int.toNat_natCast,List.length_replicate,List.take_append_of_le_length (by simp),List.take_of_length_le (by simp),List.take_replicate,List.drop_append,List.drop_of_length_le (by simp),List.drop_replicate,List.length_replicate,List.nil_append]
    rw [show min (min m (N-m)) m=min m (N-m) by omega,List.replicate_append_replicate]
    congr 2
    omega
   rw [e4]
   exact zts φ n (m+min m (N-m)) N (by omega) (by omega) (by omega) h4
  ·rw [if_neg (by simp; omega)]
   have:m=N:=by omega
   subst this
   simp
theorem yeh (φ:Nat) (n:Nat) (hn:n<=5000) (hφ:5001<φ):z5p φ [-1] (n:Int)=some (List.replicate n (-1),()):=by
 unfold z5p y01
 rw [if_neg (by simp),show (([-1]:List Int).length:Int)=1 from rfl,U_id (x:=1) (by omega) (by omega),U_id (x:=(n:Int)) (by omega) (by omega),y95 φ 1 n (by omega) (by omega) (by omega) (by omega)]
 simp only [Option.bind_some,Int.one_mul]
 have e1 :(n:Int) / 18446744073709551616=0:=by omega
 have e2 :(n:Int) % 18446744073709551616=n:=by omega
 rw [e1,e2,if_neg (by simp; omega),W_id (by omega) (by omega),z7 (mk_t _ _ (by omega) (by omega) (by omega))]
 rw [Int.toNat_natCast]
 have e3:cpy (List.replicate n (default:Int)) 0 ((List.replicate n (default:Int)).length-0) [-1]=List.replicate (min 1 n) (-1)++List.replicate (n-min 1 n) (default:Int):=by
  cases n with
  | zero=>rfl
  | succ n=>simp [cpy,show min 1 (n+1)=1 by omega]
 rw [e3,List.length_replicate]
 exact zts φ φ (min 1 n) n (by omega) (by omega) (by omega) hn
structure LS where
 x:List Int
 y:List Int
 z:Int
def stp (b:zb) (i:Int) (s:LS):LS:=if gt s.x b.i+b.w<gt s.x b.j then⟨zp s.x b.j (gt s.x b.i+b.w),zp s.y b.j i,i⟩ else s
def rndL (L:List zb):Nat->LS->LS
 | 0,s=>s
 | m+1,s=>stp (gt L (m:Int)) m (rndL L m s)
def lowR (L:List zb):Nat->LS->LS
 | 0,s=>s
 | k+1,s=>if(rndL L L.length ⟨s.x,s.y,-1⟩).z<0 then rndL L L.length ⟨s.x,s.y,-1⟩ else lowR L k (rndL L L.length ⟨s.x,s.y,-1⟩)
def low (n:Nat) (L:List zb):LS:=lowR L n ⟨List.replicate n 0,List.replicate n (-1),-1⟩
def okBd (n:Nat) (b:zb):Prop:=0<=b.i/\b.i <(n:Int)/\0<=b.j/\b.j <(n:Int)/\-1099511627776<=b.w/\b.w<=1099511627776
structure LB (n c:Nat) (s:LS):Prop where
 lx:s.x.length=n
 ly:s.y.length=n
 bd:∀ i:Int,0<=i->i <(n:Int)->-(1099511627776 *(c:Int))<=gt s.x i/\gt s.x i<=0
theorem LB.up {n c d:Nat} {s:LS} (h:LB n c s) (hd:c<=d):LB n d s:=⟨h.lx,h.ly,fun i h0 h1=>by have:=h.bd i h0 h1; omega⟩
theorem LB.stp {n c:Nat} {s:LS} (h:LB n c s) {b:zb} (hb:okBd n b) (i:Int):LB n (c+1) (stp b i s):=by
 unfold Px.stp
 obtain⟨a1,a2,a3,a4,a5,a6⟩:=hb
 have hx:=h.lx
 have hy:=h.ly
 split
 ·rename_i hlt
  refine⟨by rw [z0b]; exact hx,by rw [z0b]; exact hy,fun k h0 h1=>?_⟩
  have q1:=h.bd b.i a1 a2
  have q2:=h.bd k h0 h1
  have q3:=h.bd b.j a3 a4
  rw [zu _ _ _ _ a3 (by rw [hx]; exact a4) h0]
  split <;> omega
 ·exact h.up (by omega)
theorem LB.rnd {n c:Nat} {s:LS} (h:LB n c s) {L:List zb} (hL:∀ b∈L,okBd n b):∀ m,m<=L.length->LB n (c+m) (rndL L m s)
 | 0,_=>h
 | m+1,hm=>(LB.rnd h hL m (by omega)).stp (hL _ (z0y (by omega) (by omega))) m
theorem yhw (φ:Nat) (k:List zb->Int->Int->Int->List Int->List Int->Option (List Int×List Int×Int×Unit)) (L:List zb) (n:Nat) (r:Int) (c:Nat) (s:LS) (hs:LB n c s) (hL:∀ b∈L,okBd n b) (hl:L.length<=5000) (hc:c+L.length<=2100000) (hφ:5001<φ) :
  z2n φ k φ L s.z n r L (L.length:Int) 0 s.x s.y=if(rndL L L.length s).z<0 then some ((rndL L L.length s).x,(rndL L L.length s).y,(rndL L L.length s).z,()) else k L (rndL L L.length s).z n (W (r+1)) (rndL L L.length s).x (rndL L L.length s).y:=by
 refine zi (fun f i (t:LS)=>z2n φ k f L t.z n r L (L.length:Int) i t.x t.y) L.length (fun i t=>t=rndL L i s) (fun o=>o=_) ?_ ?_ φ s rfl (by omega)
 ·intro f i t hi ht hk
  have hB:=hs.rnd hL i (by omega)
  rw [<- ht] at hB
  obtain⟨a1,a2,a3,a4,a5,a6⟩:=hL _ (z0y (l:=L) (i:=(i:Int)) (by omega) (by omega))
  have q1:=hB.bd _ a1 a2
  have q2:=hB.bd _ a3 a4
  have hx:=hB.lx
  have hy:=hB.ly
  have hk':=hk (stp (gt L (i:Int)) i t) (by rw [ht]; rfl)
  rw [z2n,if_pos (by simp; omega),z7 ⟨by omega,by omega⟩,z7 ⟨a1,by rw [hx]; exact a2⟩,z7 ⟨a3,by rw [hx]; exact a4⟩,W_id (x:=gt t.x (gt L (i:Int)).i +(gt L (i:Int)).w) (by omega) (by omega)]
  unfold stp at hk'
  by_cases h:gt t.x (gt L (i:Int)).i +(gt L (i:Int)).w<gt t.x (gt L (i:Int)).j
  ·rw [if_pos h] at hk'
   rw [if_pos (by simpa using h),z6o,z7 ⟨a3,by rw [hx]; exact a4⟩,z7 ⟨a3,by rw [hy]; exact a4⟩,W_id (x:=(i:Int)+1) (by omega) (by omega)]
   exact hk'
  ·rw [if_neg h] at hk'
   rw [if_neg (by simpa using h),W_id (x:=(i:Int)+1) (by omega) (by omega)]
   exact hk'
 ·intro f t ht
  subst ht
  rw [z2n,if_neg (by simp)]
  by_cases h :(rndL L L.length s).z<0
  ·rw [if_pos (by simpa using h),if_pos h]; rfl
  ·rw [if_neg (by simpa using h),if_neg h]
theorem y3h (φ:Nat) (L:List zb) (n:Nat) (hn:n<=512) (hL:∀ b∈L,okBd n b) (hl:L.length<=4096) (hφ:5001<φ) :
  ∀(f k:Nat) (s:LS),LB n (k*L.length) s->k<=n->n<f+k->z56 φ f L s.z n (k:Int) s.x s.y=some ((lowR L (n-k) s).x,(lowR L (n-k) s).y,(lowR L (n-k) s).z,())
 | 0,k,s,_,h1,h2=>by omega
 | f+1,k,s,hs,h1,h2=>by
  rw [z56]
  by_cases h:k<n
  ·have hs1:LB n (k*L.length) ⟨s.x,s.y,-1⟩:=⟨hs.lx,hs.ly,hs.bd⟩
   have hb:=Nat.mul_le_mul (show k+1<=512 by omega) hl
   rw [Nat.add_mul,Nat.one_mul] at hb
   rw [if_pos (by simp; omega)]
   have:=yhw φ (z56 φ f) L n (k:Int) _ ⟨s.x,s.y,-1⟩ hs1 hL (by omega) (by omega) hφ
   refine this.trans ?_
   rw [show n-k =(n -(k+1))+1 by omega,lowR,W_id (x:=(k:Int)+1) (by omega) (by omega)]
   have hs2:=hs1.rnd hL L.length (Nat.le_refl _)
   split
   ·rfl
   ·exact y3h φ L n hn hL hl hφ f (k+1) _ (hs2.up (by rw [Nat.add_mul,Nat.one_mul]; omega)) (by omega) (by omega)
  ·rw [if_neg (by simp; omega),show n-k=0 by omega]; rfl
theorem lb0 (n:Nat):LB n 0 ⟨List.replicate n 0,List.replicate n (-1),-1⟩:=⟨by simp,by simp,fun i h0 h1=>by rw [show gt (LS.x ⟨List.replicate n 0,List.replicate n (-1),-1⟩) i=0 from z3e n 0 i h0 h1]; omega⟩
theorem yep (φ:Nat) (hφ:5001<φ) (L:List zb) (n:Nat) (hn:n<=512) (hL:∀ b∈L,okBd n b) (hl:L.length<=4096):zi6 φ (n:Int) L=some ((low n L).x,(low n L).y,(low n L).z,()):=by
 unfold zi6 z6u z69
 rw [z7 (mk_t _ _ (by omega) (by omega) (by omega)),yeh φ n (by omega) hφ,Option.bind_some,Int.toNat_natCast]
 have:=y3h φ L n hn hL hl hφ φ 0 ⟨List.replicate n 0,List.replicate n (-1),-1⟩ ((lb0 n).up (by omega)) (by omega) (by omega)
 exact this
def zni (n:Int) (b:zb):Bool:=(((decide ((min2 b.i b.j)<0)||decide (n<=max2 b.i b.j))||decide (b.w <(-1099511627776)))||decide (1099511627776<b.w))
def chkD (n:Int) (L:List zb):Int:=if n<1 then 1 else if 512<n\/4096<L.length then 2 else bif L.any (zni n) then 1 else 0
theorem y0t {n:Nat} {b:zb} : zni n b=false↔okBd n b:=by
 unfold zni okBd
 simp only [Bool.or_eq_false_iff,decide_eq_false_iff_not,y5j,ynt]
 have:¬((n:Int)<=max2 b.i b.j)↔b.i<n/\b.j<n:=by unfold max2; split <;> omega
 rw [this]
 omega
theorem y0c (φ:Nat) (hφ:5001<φ) (n:Int) (L:List zb):zmd φ n L=some (chkD n L,()):=by
 unfold zmd chkD
 by_cases h1:n<1
 ·rw [if_pos (by simpa using h1),if_pos h1]
 ·rw [if_neg (by simpa using h1),if_neg h1]
  by_cases h2:512<n\/4096<L.length
  ·rw [if_pos (by simp; omega),if_pos h2]
  ·rw [if_neg (by simp; omega),if_neg h2]
   have:=z4x (fun f i=>z7a φ f n L (L.length:Int) i) (some (0,())) (some (1,())) L (zni n) (fun f i hi=>by
     rw [z7a,if_pos (by simp; omega),z7 ⟨by omega,by omega⟩,W_id (by omega) (by omega)]
     show (if zni n (gt L (i:Int))=true then _ else _)=_
     cases zni n (gt L (i:Int)) <;> rfl) (fun f=>by
     rw [z7a,if_neg (by simp)]) φ (by omega)
   rw [this]; cases L.any (zni n) <;> rfl
theorem yed {n:Int} {L:List zb} (h:chkD n L=0):∃ m:Nat,n=m/\1<=m/\m<=512/\L.length<=4096/\∀ b∈L,okBd m b:=by
 unfold chkD at h
 split at h
 ·cases h
 ·split at h
  ·cases h
  ·refine⟨n.toNat,by omega,by omega,by omega,by omega,fun b hb=>?_⟩
   cases ha:L.any (zni n) with
   | true=>rw [ha] at h; cases h
   | false=>
    rw [<- y0t,show ((n.toNat:Nat):Int)=n by omega]
    cases hbb:zni n b with
    | false=>rfl
    | true=>rw [List.any_eq_false] at ha; exact absurd hbb (ha b hb)
theorem ylf {n:Nat} {L:List zb} (h1:1<=n) (h2:n<=512) (h3:L.length<=4096) (h4:∀ b∈L,okBd n b):chkD n L=0:=by
 unfold chkD
 rw [if_neg (by omega),if_neg (by omega)]
 have:L.any (zni n)=false:=by
  rw [List.any_eq_false]
  intro b hb h
  rw [y0t.2 (h4 b hb)] at h; cases h
 rw [this]; rfl
theorem y8k (φ:Nat) (hφ:5001<φ) (n:Int) (L:List zb):zdj φ n L=some (if chkD n L≠0 then([],chkD n L,()) else if 0<=(low n.toNat L).z then([],230,()) else((low n.toNat L).x,0,())):=by
 unfold zdj
 rw [y0c φ hφ,Option.bind_some]
 by_cases h:chkD n L=0
 ·rw [if_neg (by simpa using h),if_neg (by simpa using h)]
  obtain⟨m,rfl,h1,h2,h3,h4⟩:=yed h
  rw [yep φ hφ L m h2 h4 h3,Option.bind_some,Int.toNat_natCast]
  by_cases hz:0<=(low m L).z
  ·rw [if_pos (by simpa using hz),if_pos hz]
  ·rw [if_neg (by simpa using hz),if_neg hz]
 ·rw [if_pos (by simpa using h),if_pos (by simpa using h)]
end Px
end
section
namespace Px
open Go
def bI (b:zb):Nat:=b.i.toNat
def bJ (b:zb):Nat:=b.j.toNat
def bW (b:zb):Int:=b.w
def xf (x:List Int):BF.X:=fun v=>if v<x.length then some (gt x (v:Int)) else none
theorem yh7 {x:List Int} {i:Int} (h0:0<=i) (h:i <(x.length:Int)):xf x i.toNat=some (gt x i):=by
 unfold xf
 rw [if_pos (by omega),show ((i.toNat:Nat):Int)=i by omega]
theorem ych {n:Nat} {s:LS} (hx:s.x.length=n) {b:zb} (hb:okBd n b) (i:Int) :
  xf (stp b i s).x=BF.rlx bI bJ bW (xf s.x) b/\(BF.imp bI bJ bW (xf s.x) b=true->(stp b i s).z=i)/\(BF.imp bI bJ bW (xf s.x) b=false->stp b i s=s):=by
 obtain⟨a1,a2,a3,a4,_,_⟩:=hb
 have e1:xf s.x (bI b)=some (gt s.x b.i):=yh7 a1 (by rw [hx]; exact a2)
 have e2:xf s.x (bJ b)=some (gt s.x b.j):=yh7 a3 (by rw [hx]; exact a4)
 have ei:BF.imp bI bJ bW (xf s.x) b=decide (gt s.x b.i+b.w<gt s.x b.j):=by
  unfold BF.imp; rw [e1,e2]; rfl
 have er:BF.rlx bI bJ bW (xf s.x) b=if gt s.x b.i+b.w<gt s.x b.j then fun v=>if v=bJ b then some (gt s.x b.i+b.w) else xf s.x v else xf s.x:=by
  unfold BF.rlx; rw [e1,e2]; simp only [BF.ltO,bW]
  by_cases h:gt s.x b.i+b.w<gt s.x b.j <;> simp [h]
 rw [ei,er]
 unfold stp
 by_cases h:gt s.x b.i+b.w<gt s.x b.j
 ·rw [if_pos h,if_pos h]
  refine⟨?_,fun _=>rfl,fun q=>by simp [h] at q⟩
  funext v
  unfold xf
  rw [z0b]
  simp only
  by_cases hv:v<s.x.length
  ·rw [if_pos hv,if_pos hv,zu _ _ _ _ a3 (by rw [hx]; exact a4) (by omega)]
   by_cases e:v=bJ b
   ·rw [if_pos e,if_pos (by unfold bJ at e; omega)]
   ·rw [if_neg e,if_neg (by unfold bJ at e; omega)]
  ·rw [if_neg hv,if_neg hv,if_neg (fun e=>hv (by rw [hx,e]; unfold bJ; omega))]
 ·rw [if_neg h,if_neg h]
  exact⟨rfl,fun q=>by simp [h] at q,fun _=>rfl⟩
theorem zma {n:Nat} {s:LS} (hs:s.x.length=n) {L:List zb} : ∀ m,(rndL L m s).x.length=n
 | 0=>hs
 | m+1=>by
  have:=zma hs (L:=L) m
  unfold rndL stp
  split
  ·simp only [z0b]; exact this
  ·exact this
theorem yd1 {n:Nat} {s:LS} (hs:s.x.length=n) {L:List zb} (hL:∀ b∈L,okBd n b):∀ m,m<=L.length->xf (rndL L m s).x =(L.take m).foldl (BF.rlx bI bJ bW) (xf s.x)
 | 0,_=>rfl
 | m+1,hm=>by
  have ih:=yd1 hs hL m (by omega)
  rw [z09 L m (by omega),List.foldl_append,<- ih]
  exact(ych (zma hs m) (hL _ (z0y (by omega) (by omega))) m).1
theorem ykd {n:Nat} {s:LS} (hs:s.x.length=n) {L:List zb} (hL:∀ b∈L,okBd n b) (hz:s.z=-1):∀ m,m<=L.length->
  ((rndL L m s).z<0->rndL L m s=s/\∀ k:Nat,k<m->BF.imp bI bJ bW (xf s.x) (gt L (k:Int))=false)/\-1<=(rndL L m s).z/\(rndL L m s).z<m
 | 0,_=>⟨fun _=>⟨rfl,fun k hk=>by omega⟩,by rw [show (rndL L 0 s).z=s.z from rfl]; omega,by rw [show (rndL L 0 s).z=s.z from rfl]; omega⟩
 | m+1,hm=>by
  obtain⟨h1,h2,h3⟩:=ykd hs hL hz m (by omega)
  obtain⟨q1,q2,q3⟩:=ych (zma hs m) (hL _ (z0y (l:=L) (i:=(m:Int)) (by omega) (by omega))) m
  change _/\-1<=(stp (gt L (m:Int)) m (rndL L m s)).z/\(stp (gt L (m:Int)) m (rndL L m s)).z<_
  cases hi:BF.imp bI bJ bW (xf (rndL L m s).x) (gt L (m:Int)) with
  | true=>
   have:=q2 hi
   refine⟨fun h=>?_,by omega,by omega⟩
   change (stp (gt L (m:Int)) m (rndL L m s)).z<0 at h
   omega
  | false=>
   have e:=q3 hi
   rw [e]
   refine⟨fun h=>?_,h2,by omega⟩
   change (stp (gt L (m:Int)) m (rndL L m s)).z<0 at h
   rw [e] at h
   obtain⟨e2,h4⟩:=h1 h
   refine⟨by change stp (gt L (m:Int)) m (rndL L m s)=s; rw [e,e2],fun k hk=>?_⟩
   by_cases hkm:k=m
   ·subst hkm; rw [e2] at hi; exact hi
   ·exact h4 k (by omega)
theorem y3j {n:Nat} {s:LS} (hs:s.x.length=n) {L:List zb} (hL:∀ b∈L,okBd n b) (hz:s.z=-1) (hf:∀ b∈L,BF.imp bI bJ bW (xf s.x) b=false):∀ m,m<=L.length->rndL L m s=s
 | 0,_=>rfl
 | m+1,hm=>by
  have ih:=y3j hs hL hz hf m (by omega)
  have hb:=z0y (l:=L) (i:=(m:Int)) (by omega) (by omega)
  change stp (gt L (m:Int)) m (rndL L m s)=s
  rw [ih]
  exact(ych hs (hL _ hb) m).2.2 (hf _ hb)
def xz (n:Nat):BF.X:=fun v=>if v<n then some 0 else none
theorem ypj (n:Nat):xf (List.replicate n 0)=xz n:=by
 funext v
 unfold xf xz
 rw [List.length_replicate]
 split
 ·rw [z3e _ _ _ (by omega) (by omega)]
 ·rfl
theorem ydm {n:Nat} {L:List zb} (hL:∀ b∈L,okBd n b):∀(f k:Nat) (s:LS),s.x.length=n->xf s.x=BF.rnds bI bJ bW L (xz n) k->(lowR L f s).x.length=n/\
  (((lowR L f s).z<0->f≠0\/s.z<0)->((lowR L f s).z<0->f≠0)->((lowR L f s).z<0->BF.Fix bI bJ bW L (xf (lowR L f s).x)/\∃ k',xf (lowR L f s).x=BF.rnds bI bJ bW L (xz n) k'))/\
  (0<=(lowR L f s).z->f≠0->¬ BF.Feas bI bJ bW (xz n) L n\/k+f<n)/\(f≠0->-1<=(lowR L f s).z/\(lowR L f s).z<L.length)
 | 0,k,s,hs,hx=>⟨hs,fun _ h2 h=>absurd rfl (h2 h),fun _ h=>absurd rfl h,fun h=>absurd rfl h⟩
 | f+1,k,s,hs,hx=>by
  have hs1 :(LS.mk s.x s.y (-1)).x.length=n:=hs
  obtain⟨h1,h2,h3⟩:=ykd hs1 hL rfl L.length (Nat.le_refl _)
  have hr:=yd1 hs1 hL L.length (Nat.le_refl _)
  rw [List.take_length] at hr
  have hr2:xf (rndL L L.length ⟨s.x,s.y,-1⟩).x=BF.rnds bI bJ bW L (xz n) (k+1):=by
   rw [hr,show xf (LS.mk s.x s.y (-1)).x=_ from hx]; rfl
  have hq:¬(rndL L L.length ⟨s.x,s.y,-1⟩).z<0->n<=k+1->¬ BF.Feas bI bJ bW (xz n) L n:=fun hz hk F=>by
   have:=y3j hs1 hL rfl (fun b hb=>by
    have:=BF.done F hk b hb
    rw [<- hx] at this; exact this) L.length (Nat.le_refl _)
   rw [this] at hz
   exact hz (by show (-1:Int)<0; omega)
  unfold lowR
  split
  ·rename_i hz
   obtain⟨e1,e2⟩:=h1 hz
   refine⟨zma hs1 _,fun _ _ _=>⟨fun b hb=>?_,k+1,hr2⟩,fun h=>by omega,fun _=>⟨h2,h3⟩⟩
   rw [e1]
   obtain⟨i,hi,rfl⟩:=zgx hb
   exact e2 i hi
  ·rename_i hz
   by_cases hf:f=0
   ·subst hf
    refine⟨zma hs1 _,fun _ _ h=>absurd h hz,fun _ _=>?_,fun _=>⟨h2,h3⟩⟩
    by_cases hk:n<=k+1
    ·exact .inl (hq hz hk)
    ·exact .inr (by omega)
   ·obtain⟨i1,i2,i3,i4⟩:=ydm hL f (k+1) _ (zma hs1 L.length) hr2
    refine⟨i1,fun _ _ h=>i2 (fun _=>.inl hf) (fun _=>hf) h,fun h _=>?_,fun _=>i4 hf⟩
    rcases i3 h hf with h | h
    ·exact .inl h
    ·exact .inr (by omega)
structure ys3 (n:Nat) (L:List zb):Prop where
 len :(low n L).x.length=n
 fix :(low n L).z<0->BF.Fix bI bJ bW L (xf (low n L).x)
 rnd :(low n L).z<0->∃ k,xf (low n L).x=BF.rnds bI bJ bW L (xz n) k
 cyc:0<=(low n L).z->¬ BF.Feas bI bJ bW (xz n) L n
 lo : -1<=(low n L).z
 hi :(low n L).z<L.length
theorem yl1 {n:Nat} {L:List zb} (h1:1<=n) (hL:∀ b∈L,okBd n b):ys3 n L:=by
 obtain⟨i1,i2,i3,i4⟩:=ydm hL n 0 ⟨List.replicate n 0,List.replicate n (-1),-1⟩ (by simp) (ypj n)
 have hn:n≠0:=by omega
 refine⟨i1,fun h=>(i2 (fun _=>.inl hn) (fun _=>hn) h).1,fun h=>(i2 (fun _=>.inl hn) (fun _=>hn) h).2,fun h=>?_,(i4 hn).1,(i4 hn).2⟩
 rcases i3 h hn with h | h
 ·exact h
 ·omega
theorem yn5 {n:Nat} {L:List zb} (h1:1<=n) (hL:∀ b∈L,okBd n b) (hz :(low n L).z<0) {b:zb} (hb:b∈L):gt (low n L).x b.j-gt (low n L).x b.i<=b.w:=by
 have h:=yl1 h1 hL
 obtain⟨a1,a2,a3,a4,_,_⟩:=hL b hb
 obtain⟨d,hd,hl⟩:=(h.fix hz).le hb (yh7 a1 (by rw [h.len]; exact a2))
 have e:xf (low n L).x (bJ b)=some (gt (low n L).x b.j):=yh7 a3 (by rw [h.len]; exact a4)
 rw [e] at hd
 cases hd
 unfold bW at hl
 omega
theorem yn9 {n:Nat} {L:List zb} (hL:∀ b∈L,okBd n b) (p:Int->Int) (hp:∀ b∈L,p b.j-p b.i<=b.w):BF.Feas bI bJ bW (xz n) L n:=by
 refine⟨⟨fun v=>p (v:Int),((List.range n).map fun(v:Nat)=>p (v:Int)).foldl max 0,fun b hb=>?_,fun v c h=>?_⟩,fun b hb=>?_,fun v c h=>?_⟩
 ·obtain⟨a1,a2,a3,a4,_,_⟩:=hL b hb
  have:=hp b hb
  show p ((bJ b:Nat):Int)<=p ((bI b:Nat):Int)+bW b
  unfold bI bJ bW
  rw [show ((b.j.toNat:Nat):Int)=b.j by omega,show ((b.i.toNat:Nat):Int)=b.i by omega]
  omega
 ·unfold xz at h
  split at h
  ·rename_i hv
   cases h
   have key:∀(l:List Int) (m x:Int),(x∈l->x<=l.foldl max m)/\m<=l.foldl max m:=by
    intro l
    induction l with
    | nil=>intro m x; exact⟨fun h=>by simp at h,Int.le_refl _⟩
    | cons y l ih=>
     intro m x
     have h1:=ih (max m y) x
     have h2:=ih (max m y) y
     refine⟨fun h=>?_,?_⟩
     ·rcases List.mem_cons.1 h with rfl | h
      ·simp only [List.foldl_cons]; omega
      ·exact h1.1 h
     ·simp only [List.foldl_cons]; omega
   have:=(key ((List.range n).map fun(v:Nat)=>p (v:Int)) 0 (p (v:Int))).1 (List.mem_map.2 ⟨v,List.mem_range.2 hv,rfl⟩)
   show p (v:Int)-0<=_
   omega
  ·cases h
 ·obtain⟨a1,a2,a3,a4,_,_⟩:=hL b hb
  unfold bJ; omega
 ·unfold xz at h
  split at h
  ·assumption
  ·cases h
theorem ygt {n:Nat} {L:List zb} (h1:1<=n) (hL:∀ b∈L,okBd n b) (p:Int->Int) (hp:∀ b∈L,p b.j-p b.i<=b.w) :(low n L).z<0:=by
 by_cases hz :(low n L).z<0
 ·exact hz
 ·exact absurd (yn9 hL p hp) ((yl1 h1 hL).cyc (by omega))
end Px
end
section
namespace Px
open Go
def bdI (r:Bool) (b:zb):Int:=if r=true then b.j else b.i
def bdJ (r:Bool) (b:zb):Int:=if r=true then b.i else b.j
def nI (r:Bool) (b:zb):Nat:=(bdI r b).toNat
def nJ (r:Bool) (b:zb):Nat:=(bdJ r b).toNat
def SolD (r:Bool) (L:List zb) (p:Int->Int):Prop:=∀ b∈L,p (bdJ r b)-p (bdI r b)<=b.w
theorem zun {n:Nat} {b:zb} (h:okBd n b) (r:Bool):0<=bdI r b/\bdI r b <(n:Int)/\0<=bdJ r b/\bdJ r b <(n:Int)/\-1099511627776<=b.w/\b.w<=1099511627776:=by
 obtain⟨a1,a2,a3,a4,a5,a6⟩:=h
 cases r
 ·exact⟨a1,a2,a3,a4,a5,a6⟩
 ·exact⟨a3,a4,a1,a2,a5,a6⟩
theorem y7s {r:Bool} {L:List zb} {p:Int->Int} (h:SolD r L p):SolD (!r) L fun v=>- p v:=fun b hb=>by
 have:=h b hb
 cases r
 ·simp only [bdI,bdJ,Bool.not_false,if_true,Bool.false_eq_true,if_false] at this ⊢; omega
 ·simp only [bdI,bdJ,Bool.not_true,if_true,Bool.false_eq_true,if_false] at this ⊢; omega
structure y1z (r:Bool) (L:List zb) (n:Nat) (u:Int) (e:Int->Int):Prop where
 sat:SolD r L e
 top:∀ p,SolD r L p->∀ v,0<=v->v <(n:Int)->p v-p u<=e v
 zero:e u=0
def xs1 (u:Nat):BF.X:=fun v=>if v=u then some 0 else none
theorem yqz {r:Bool} {n:Nat} {L:List zb} (hL:∀ b∈L,okBd n b) {p:Int->Int} (hp:SolD r L p) {u:Nat} (hu:u<n):BF.Feas (nI r) (nJ r) bW (xs1 u) L n:=by
 refine⟨⟨fun v=>p (v:Int),p (u:Int),fun b hb=>?_,fun v c h=>?_⟩,fun b hb=>?_,fun v c h=>?_⟩
 ·obtain⟨a1,a2,a3,a4,_,_⟩:=zun (hL b hb) r
  have:=hp b hb
  show p ((nJ r b:Nat):Int)<=p ((nI r b:Nat):Int)+bW b
  unfold nI nJ bW
  rw [show (((bdJ r b).toNat:Nat):Int)=bdJ r b by omega,show (((bdI r b).toNat:Nat):Int)=bdI r b by omega]
  omega
 ·unfold xs1 at h
  split at h
  ·rename_i e; cases h; subst e; show p (v:Int)-0<=p (v:Int); omega
  ·cases h
 ·obtain⟨a1,a2,a3,a4,_,_⟩:=zun (hL b hb) r
  unfold nJ; omega
 ·unfold xs1 at h
  split at h
  ·rename_i e; subst e; exact hu
  ·cases h
theorem yce {r:Bool} {n:Nat} {L:List zb} (hL:∀ b∈L,okBd n b) {p:Int->Int} (hp:SolD r L p) {u:Nat} (hu:u<n) {x:BF.X} (hf:BF.Fix (nI r) (nJ r) bW L x) (hi:BF.Inv (nI r) (nJ r) bW (xs1 u) L x) (h0:BF.le (x u) 0)
  (hall:∀ v,v<n->(x v).isSome=true):y1z r L n (u:Int) fun v=>(x v.toNat).getD 0:=by
 have low:∀ q,SolD r L q->∀ v a,x v=some a->q (v:Int)-q (u:Int)<=a:=by
  intro q hq v a hv
  obtain⟨m,hw⟩:=hi v a hv
  have:=BF.Wk.low (p:=fun v:Nat=>q (v:Int)) (C:=q (u:Int)) (fun b hb=>by
   obtain⟨a1,a2,a3,a4,_,_⟩:=zun (hL b hb) r
   have:=hq b hb
   show q ((nJ r b:Nat):Int)<=q ((nI r b:Nat):Int)+bW b
   unfold nI nJ bW
   rw [show (((bdJ r b).toNat:Nat):Int)=bdJ r b by omega,show (((bdI r b).toNat:Nat):Int)=bdI r b by omega]
   omega) (fun v c h=>by
   unfold xs1 at h
   split at h
   ·rename_i e; cases h; subst e; show q (v:Int)-0<=q (v:Int); omega
   ·cases h) hw
  omega
 have at_:∀ v:Int,0<=v->v <(n:Int)->x v.toNat=some ((x v.toNat).getD 0):=fun v h1 h2=>by
  have:=hall v.toNat (by omega)
  cases hx:x v.toNat with
  | none=>rw [hx] at this; cases this
  | some a=>rfl
 refine⟨fun b hb=>?_,fun q hq v h1 h2=>?_,?_⟩
 ·obtain⟨a1,a2,a3,a4,_,_⟩:=zun (hL b hb) r
  obtain⟨d,hd,hle⟩:=hf.le hb (at_ _ a1 a2)
  have e:=at_ _ a3 a4
  have hd':x (bdJ r b).toNat=some d:=hd
  rw [hd'] at e
  simp only [Option.some.injEq] at e
  rw [hd',Option.getD_some]
  unfold bW at hle
  omega
 ·have:=low q hq v.toNat _ (at_ v h1 h2)
  rw [show ((v.toNat:Nat):Int)=v by omega] at this
  exact this
 ·obtain⟨a,ha,hle⟩:=h0
  have:=low p hp u a ha
  simp only [Int.toNat_natCast,ha,Option.getD_some]
  omega
def Conn (L:List zb) (n:Nat):Prop:=∀ v:Int,1<=v->v <(n:Int)->(∃ b∈L,b.i=0/\b.j=v)/\∃ b∈L,b.i=v/\b.j=0
theorem Conn.d {L:List zb} {n:Nat} (h:Conn L n) (r:Bool):∀ v:Nat,1<=v->v<n->(∃ b∈L,nI r b=0/\nJ r b=v)/\∃ b∈L,nI r b=v/\nJ r b=0:=by
 intro v h1 h2
 obtain⟨⟨b,hb,b1,b2⟩,c,hc,c1,c2⟩:=h (v:Int) (by omega) (by omega)
 cases r
 ·exact⟨⟨b,hb,by unfold nI bdI; rw [if_neg (by simp),b1]; rfl,by unfold nJ bdJ; rw [if_neg (by simp),b2]; simp⟩,c,hc,by unfold nI bdI; rw [if_neg (by simp),c1]; simp,by unfold nJ bdJ; rw [if_neg (by simp),c2]; rfl⟩
 ·exact⟨⟨c,hc,by unfold nI bdI; rw [if_pos rfl,c2]; rfl,by unfold nJ bdJ; rw [if_pos rfl,c1]; simp⟩,b,hb,by unfold nI bdI; rw [if_pos rfl,b2]; simp,by unfold nJ bdJ; rw [if_pos rfl,b1]; rfl⟩
theorem ys0 {r:Bool} {n:Nat} {L:List zb} (hc:Conn L n) {u:Nat} (hu:u<n) {x:BF.X} (hf:BF.Fix (nI r) (nJ r) bW L x) (h0:BF.le (x u) 0):∀ v,v<n->(x v).isSome=true:=by
 have z0:∃ a,x 0=some a:=by
  by_cases h:u=0
  ·subst h; obtain⟨a,ha,_⟩:=h0; exact⟨a,ha⟩
  ·obtain⟨_,b,hb,b1,b2⟩:=hc.d r u (by omega) hu
   obtain⟨a,ha,_⟩:=h0
   obtain⟨d,hd,_⟩:=hf.le hb (by rw [b1]; exact ha)
   rw [b2] at hd
   exact⟨d,hd⟩
 intro v hv
 obtain⟨a,ha⟩:=z0
 by_cases h:v=0
 ·subst h; rw [ha]; rfl
 ·obtain⟨⟨b,hb,b1,b2⟩,_⟩:=hc.d r v (by omega) hv
  obtain⟨d,hd,_⟩:=hf.le hb (by rw [b1]; exact ha)
  rw [b2] at hd
  rw [hd]; rfl
theorem yaw {r:Bool} {n:Nat} {L:List zb} (hL:∀ b∈L,okBd n b) (hc:Conn L n) {p:Int->Int} (hp:SolD r L p) {u:Nat} (hu:u<n) {x:BF.X} (hf:BF.Fix (nI r) (nJ r) bW L x) {k:Nat} (hk:x=BF.rnds (nI r) (nJ r) bW L (xs1 u) k) :
  y1z r L n (u:Int) (fun v=>(x v.toNat).getD 0)/\∀ v,v<n->(x v).isSome=true:=by
 have h0:BF.le (x u) 0:=by
  rw [hk]
  exact BF.rnds_mono L ⟨0,by unfold xs1; rw [if_pos rfl],Int.le_refl _⟩ k
 have hall:=ys0 hc hu hf h0
 exact⟨yce hL hp hu hf (by rw [hk]; exact BF.Inv.rnds k) h0 hall,hall⟩
def farN:Int:=1125899906842624
structure DS where
 d:List Int
 c:Bool
def stpD (r:Bool) (b:zb) (s:DS):DS:=if gt s.d (bdI r b)<farN/\gt s.d (bdI r b)+b.w<gt s.d (bdJ r b) then⟨zp s.d (bdJ r b) (gt s.d (bdI r b)+b.w),true⟩ else s
def rndD (r:Bool) (L:List zb):Nat->DS->DS
 | 0,s=>s
 | m+1,s=>stpD r (gt L (m:Int)) (rndD r L m s)
def runD (r:Bool) (L:List zb):Nat->DS->DS
 | 0,s=>s
 | k+1,s=>if s.c=true then runD r L k (rndD r L L.length ⟨s.d,false⟩) else s
def cntF (d:List Int):Nat:=d.countP fun a=>decide (a<farN)
structure DB (n c:Nat) (s:DS):Prop where
 len:s.d.length=n
 hi:∀ i:Int,0<=i->i <(n:Int)->gt s.d i=farN\/gt s.d i+1099511627776<=1099511627776 *(cntF s.d:Int)
 lo:∀ i:Int,0<=i->i <(n:Int)->-(1099511627776 *(c:Int))<=gt s.d i
theorem ynm (d:List Int):cntF d<=d.length:=List.countP_le_length
theorem DB.lt {n c:Nat} {s:DS} (h:DB n c s) (hn:n<=512) {i:Int} (h0:0<=i) (h1:i <(n:Int)):gt s.d i=farN\/gt s.d i<=561850441793536:=by
 have:=ynm s.d
 rw [h.len] at this
 rcases h.hi i h0 h1 with h | h
 ·exact .inl h
 ·exact .inr (by omega)
theorem y8c {d:List Int} {i:Int} (h0:0<=i) (h1:i <(d.length:Int)) {v:Int} (hv:v<farN):cntF (zp d i v)=if gt d i<farN then cntF d else cntF d+1:=by
 have hi:i.toNat<d.length:=by omega
 have hg:d[i.toNat]=gt d i:=by
  have:=z0x hi
  rw [show ((i.toNat:Nat):Int)=i by omega] at this
  exact this.symm
 unfold cntF zp
 rw [List.countP_set hi,hg]
 have hv':decide (v<farN)=true:=by simpa using hv
 rw [if_pos hv']
 by_cases hq:gt d i<farN
 ·have:0<List.countP (fun a=>decide (a<farN)) d:=List.countP_pos_iff.2 ⟨gt d i,z0y h0 h1,by simpa using hq⟩
  rw [if_pos (by simpa using hq),if_pos hq]
  omega
 ·rw [if_neg (by simpa using hq),if_neg hq]
  omega
theorem DB.up {n c e:Nat} {s:DS} (h:DB n c s) (he:c<=e):DB n e s:=⟨h.len,h.hi,fun i h0 h1=>by have:=h.lo i h0 h1; omega⟩
theorem DB.stp {n c:Nat} {s:DS} (h:DB n c s) (hn:n<=512) {b:zb} (hb:okBd n b) (r:Bool):DB n (c+1) (stpD r b s):=by
 obtain⟨a1,a2,a3,a4,a5,a6⟩:=zun hb r
 unfold stpD
 split
 ·rename_i hlt
  obtain⟨l1,l2⟩:=hlt
  have hx:=h.len
  have q1:=h.hi _ a1 a2
  have q2:=h.lt hn a1 a2
  have q3:=h.hi _ a3 a4
  have ql:=h.lo _ a1 a2
  have hnew:gt s.d (bdI r b)+b.w<farN:=by unfold farN at *; omega
  have hc:=y8c (d:=s.d) a3 (by rw [hx]; exact a4) hnew
  refine⟨by rw [z0b]; exact hx,fun k h0 h1=>?_,fun k h0 h1=>?_⟩
  ·simp only [hc]
   rw [zu _ _ _ _ a3 (by rw [hx]; exact a4) h0]
   have q4:=h.hi k h0 h1
   by_cases hk:k=bdJ r b
   ·rw [if_pos hk]
    right
    by_cases hq:gt s.d (bdJ r b)<farN
    ·rw [if_pos hq]; omega
    ·rw [if_neg hq]; unfold farN at *; omega
   ·rw [if_neg hk]
    rcases q4 with q4 | q4
    ·exact .inl q4
    ·right
     split <;> omega
  ·rw [zu _ _ _ _ a3 (by rw [hx]; exact a4) h0]
   have q4:=h.lo k h0 h1
   split <;> omega
 ·exact h.up (by omega)
theorem DB.rnd {n c:Nat} {s:DS} (h:DB n c s) (hn:n<=512) {L:List zb} (hL:∀ b∈L,okBd n b) (r:Bool):∀ m,m<=L.length->DB n (c+m) (rndD r L m s)
 | 0,_=>h
 | m+1,hm=>(DB.rnd h hn hL r m (by omega)).stp hn (hL _ (z0y (by omega) (by omega))) r
def xd (d:List Int):BF.X:=fun v=>if v<d.length then(if gt d (v:Int)<farN then some (gt d (v:Int)) else none) else none
theorem yn3 {d:List Int} {i:Int} (h0:0<=i) (h:i <(d.length:Int)):xd d i.toNat=if gt d i<farN then some (gt d i) else none:=by
 unfold xd
 rw [if_pos (by omega),show ((i.toNat:Nat):Int)=i by omega]
theorem ye5 {n c:Nat} (hn:n<=512) {s:DS} (hB:DB n c s) {b:zb} (hb:okBd n b) (r:Bool) :
  xd (stpD r b s).d=BF.rlx (nI r) (nJ r) bW (xd s.d) b/\(BF.imp (nI r) (nJ r) bW (xd s.d) b=true->(stpD r b s).c=true)/\(BF.imp (nI r) (nJ r) bW (xd s.d) b=false->stpD r b s=s):=by
 obtain⟨a1,a2,a3,a4,a5,a6⟩:=zun hb r
 have hx:=hB.len
 have e1:xd s.d (nI r b)=_:=yn3 a1 (by rw [hx]; exact a2)
 have e2:xd s.d (nJ r b)=_:=yn3 a3 (by rw [hx]; exact a4)
 have q1:=hB.lt hn a1 a2
 have q2:=hB.lt hn a3 a4
 have ei:BF.imp (nI r) (nJ r) bW (xd s.d) b=decide (gt s.d (bdI r b)<farN/\gt s.d (bdI r b)+b.w<gt s.d (bdJ r b)):=by
  unfold BF.imp
  rw [e1,e2]
  by_cases h1:gt s.d (bdI r b)<farN
  ·rw [if_pos h1]
   by_cases h2:gt s.d (bdJ r b)<farN
   ·rw [if_pos h2]
    exact decide_eq_decide.2 ⟨fun h=>⟨h1,h⟩,fun h=>h.2⟩
   ·rw [if_neg h2]
    have:gt s.d (bdI r b)+b.w<gt s.d (bdJ r b):=by unfold farN at *; omega
    simp [BF.ltO,h1,this]
  ·rw [if_neg h1]; simp [h1]
 by_cases h:gt s.d (bdI r b)<farN/\gt s.d (bdI r b)+b.w<gt s.d (bdJ r b)
 ·have er:=ei
  rw [decide_eq_true h] at er
  obtain⟨a,ha,hlt,hr⟩:=BF.rlx_imp er
  rw [e1,if_pos h.1,Option.some.injEq] at ha
  subst ha
  unfold stpD
  rw [if_pos h]
  refine⟨?_,fun _=>rfl,fun q=>(by rw [er] at q; cases q)⟩
  rw [hr]
  funext v
  unfold xd
  simp only [z0b]
  by_cases hv:v<s.d.length
  ·rw [if_pos hv,if_pos hv,zu _ _ _ _ a3 (by rw [hx]; exact a4) (by omega)]
   by_cases e:v=nJ r b
   ·have e' :(v:Int)=bdJ r b:=by unfold nJ at e; omega
    have hnew:gt s.d (bdI r b)+b.w<farN:=by unfold farN at *; omega
    rw [if_pos e,if_pos e',if_pos hnew]; rfl
   ·have e':¬(v:Int)=bdJ r b:=by unfold nJ at e; omega
    rw [if_neg e,if_neg e']
  ·rw [if_neg hv,if_neg hv,if_neg (fun e=>hv (by rw [hx,e]; unfold nJ; omega))]
 ·have er:=ei
  rw [decide_eq_false h] at er
  unfold stpD
  rw [if_neg h]
  exact⟨(BF.rlx_not er).symm,fun q=>(by rw [er] at q; cases q),fun _=>rfl⟩
theorem ycr {n c:Nat} (hn:n<=512) {s:DS} (hB:DB n c s) {L:List zb} (hL:∀ b∈L,okBd n b) (r:Bool):∀ m,m<=L.length->xd (rndD r L m s).d =(L.take m).foldl (BF.rlx (nI r) (nJ r) bW) (xd s.d)
 | 0,_=>rfl
 | m+1,hm=>by
  have ih:=ycr hn hB hL r m (by omega)
  rw [z09 L m (by omega),List.foldl_append,<- ih]
  exact(ye5 hn (hB.rnd hn hL r m (by omega)) (hL _ (z0y (by omega) (by omega))) r).1
theorem ykg {n c:Nat} (hn:n<=512) {s:DS} (hB:DB n c s) {L:List zb} (hL:∀ b∈L,okBd n b) (r:Bool) (hc:s.c=false):∀ m,m<=L.length->(rndD r L m s).c=false->rndD r L m s=s/\∀ k:Nat,k<m->BF.imp (nI r) (nJ r) bW (xd s.d) (gt L (k:Int))=false
 | 0,_,_=>⟨rfl,fun k hk=>by omega⟩
 | m+1,hm,h=>by
  obtain⟨q1,q2,q3⟩:=ye5 hn (hB.rnd hn hL r m (by omega)) (hL _ (z0y (l:=L) (i:=(m:Int)) (by omega) (by omega))) r
  change (stpD r (gt L (m:Int)) (rndD r L m s)).c=false at h
  cases hi:BF.imp (nI r) (nJ r) bW (xd (rndD r L m s).d) (gt L (m:Int)) with
  | true=>rw [q2 hi] at h; cases h
  | false=>
   have e:=q3 hi
   rw [e] at h
   obtain⟨e2,h4⟩:=ykg hn hB hL r hc m (by omega) h
   refine⟨by change stpD r (gt L (m:Int)) (rndD r L m s)=s; rw [e,e2],fun k hk=>?_⟩
   by_cases hkm:k=m
   ·subst hkm; rw [e2] at hi; exact hi
   ·exact h4 k (by omega)
theorem yf4 {r:Bool} {n:Nat} (hn:n<=512) {L:List zb} (hL:∀ b∈L,okBd n b) {x0:BF.X} (F:BF.Feas (nI r) (nJ r) bW x0 L n):∀(f k c:Nat) (s:DS),DB n c s->xd s.d=BF.rnds (nI r) (nJ r) bW L x0 k->(s.c=false->BF.Fix (nI r) (nJ r) bW L (xd s.d))->n<=k+f->
  (runD r L f s).d.length=n/\BF.Fix (nI r) (nJ r) bW L (xd (runD r L f s).d)/\(∃ k',xd (runD r L f s).d=BF.rnds (nI r) (nJ r) bW L x0 k')/\DB n (c+f*L.length) (runD r L f s)
 | 0,k,c,s,hB,hx,hc,hk=>by
  refine⟨hB.len,fun b hb=>?_,⟨k,hx⟩,hB.up (by omega)⟩
  have:=BF.done F (k:=k) (by omega) b hb
  rw [<- hx] at this
  exact this
 | f+1,k,c,s,hB,hx,hc,hk=>by
  unfold runD
  split
  ·have hB1:DB n c ⟨s.d,false⟩:=⟨hB.len,hB.hi,hB.lo⟩
   have hr:=ycr hn hB1 hL r L.length (Nat.le_refl _)
   rw [List.take_length] at hr
   have hr2:xd (rndD r L L.length ⟨s.d,false⟩).d=BF.rnds (nI r) (nJ r) bW L x0 (k+1):=by
    rw [hr,show xd (DS.mk s.d false).d=_ from hx]; rfl
   have:=yf4 hn hL F f (k+1) (c+L.length) _ (hB1.rnd hn hL r L.length (Nat.le_refl _)) hr2 (fun h=>by
    obtain⟨e1,e2⟩:=ykg hn hB1 hL r rfl L.length (Nat.le_refl _) h
    intro b hb
    rw [e1]
    obtain⟨i,hi,rfl⟩:=zgx hb
    exact e2 i hi) (by omega)
   refine⟨this.1,this.2.1,this.2.2.1,this.2.2.2.up ?_⟩
   rw [Nat.add_mul,Nat.one_mul]; omega
  ·rename_i h
   exact⟨hB.len,hc (by cases hq:s.c with | true=>exact absurd hq h | false=>rfl),⟨k,hx⟩,hB.up (by omega)⟩
def d0 (n:Nat) (u:Int):List Int:=zp (List.replicate n farN) u 0
theorem ynb {n:Nat} {u i:Int} (hu:0<=u) (hu':u <(n:Int)) (h0:0<=i) (h1:i <(n:Int)):gt (d0 n u) i=if i=u then 0 else farN:=by
 unfold d0
 rw [zu _ _ _ _ hu (by simpa using hu') h0,z3e _ _ _ h0 h1]
theorem ykj (n:Nat) (u:Int) :(d0 n u).length=n:=by simp [d0,z0b]
theorem yqy {n:Nat} {u:Int} (hu:0<=u) (hu':u <(n:Int)):xd (d0 n u)=xs1 u.toNat:=by
 funext v
 unfold xd xs1
 rw [ykj]
 by_cases hv:v<n
 ·rw [if_pos hv,ynb hu hu' (by omega) (by omega)]
  by_cases e :(v:Int)=u
  ·rw [if_pos e,if_pos (by omega:v=u.toNat),if_pos (by decide)]
  ·rw [if_neg e,if_neg (by omega:¬ v=u.toNat),if_neg (by decide)]
 ·rw [if_neg hv,if_neg (by omega)]
theorem yre {n:Nat} {u:Int} (hu:0<=u) (hu':u <(n:Int)):DB n 0 ⟨d0 n u,true⟩:=by
 have hc:cntF (d0 n u)=1:=by
  unfold d0
  rw [y8c hu (by simpa using hu') (by decide),z3e _ _ _ hu hu',if_neg (by decide)]
  have:cntF (List.replicate n farN)=0:=List.countP_eq_zero.2 fun a ha=>by
   rw [List.mem_replicate] at ha
   rw [ha.2]; decide
  rw [this]
 refine⟨ykj n u,fun i h0 h1=>?_,fun i h0 h1=>?_⟩
 ·simp only [hc]
  rw [ynb hu hu' h0 h1]
  split
  ·right; omega
  ·left; rfl
 ·simp only
  rw [ynb hu hu' h0 h1]
  split
  ·omega
  ·unfold farN; omega
theorem zwq {r:Bool} {n:Nat} (hn:n<=512) {L:List zb} (hL:∀ b∈L,okBd n b) (hc:Conn L n) {p:Int->Int} (hp:SolD r L p) {u:Int} (hu:0<=u) (hu':u <(n:Int)) :
  (runD r L n ⟨d0 n u,true⟩).d.length=n/\y1z r L n u (gt (runD r L n ⟨d0 n u,true⟩).d):=by
 have F:=yqz hL hp (u:=u.toNat) (by omega)
 obtain⟨h1,h2,⟨k,h3⟩,h4⟩:=yf4 hn hL F n 0 0 ⟨d0 n u,true⟩ (yre hu hu') (yqy hu hu') (fun h=>by cases h) (by omega)
 obtain⟨g1,g2⟩:=yaw hL hc hp (u:=u.toNat) (by omega) h2 h3
 refine⟨h1,?_⟩
 have key:∀ v:Int,0<=v->v <(n:Int)->((xd (runD r L n ⟨d0 n u,true⟩).d) v.toNat).getD 0=gt (runD r L n ⟨d0 n u,true⟩).d v:=fun v q0 q1=>by
  have:=g2 v.toNat (by omega)
  have e:=yn3 (d:=(runD r L n ⟨d0 n u,true⟩).d) q0 (by rw [h1]; exact q1)
  rw [e] at this ⊢
  split
  ·rfl
  ·rename_i hq; rw [if_neg hq] at this; cases this
 rw [show ((u.toNat:Nat):Int)=u by omega] at g1
 refine⟨fun b hb=>?_,fun q hq v v0 v1=>?_,?_⟩
 ·obtain⟨a1,a2,a3,a4,_,_⟩:=zun (hL b hb) r
  have:=g1.sat b hb
  rw [key _ a1 a2,key _ a3 a4] at this
  exact this
 ·have:=g1.top q hq v v0 v1
  rw [key _ v0 v1] at this
  exact this
 ·have:=g1.zero
  rw [key _ hu hu'] at this
  exact this
end Px
end
section
namespace Px
open Go
structure TS where
 d:List Int
 kn:List Bool
 z:Int
def t0 (n:Nat) (u:Int):TS:=⟨List.replicate n 0,zp (List.replicate n false) u true,-1⟩
end Px
end
section
namespace Px
open Go
set_option maxHeartbeats 4000000
def zbt (fit:Bool) (x:Part):Bool:=!(((((decide ((x.kind:Int)<1))||(decide ((3:Int)<x.kind)))||(decide ((x.serial:Int)<0)))||(decide ((1073741824:Int)<x.serial)))||(x.fitted&&(!fit)))
theorem z5f (φ:Nat) (l:List Part) (fit:Bool) (h:l.length<=1000) (hφ:1000<φ):zle φ l fit=some (l.all (zbt fit)&&decide ((l.length:Int)<=16),()):=by
 unfold zle
 rw [z4x (fun n i=>z8c φ n l fit l (l.length:Int) i) (some (decide ((l.length:Int)<=16),())) (some (false,())) l (fun x=>!zbt fit x) ?_ ?_ φ (by omega)]
 ·simp only [List.any_eq_not_all_not,Bool.not_not]
  cases l.all (zbt fit) <;> rfl
 ·intro n i hi
  rw [z8c,if_pos (by simp; omega),z7 ⟨by omega,by omega⟩,W_id (by omega) (by omega)]
  show _=bif !!_ then _ else _
  rw [Bool.not_not]
  cases (((((decide (((gt l i).kind:Int)<1))||(decide ((3:Int) <(gt l i).kind)))||(decide (((gt l i).serial:Int)<0)))||(decide ((1073741824:Int) <(gt l i).serial)))||((gt l i).fitted&&(!fit))) <;> rfl
 ·intro n; rw [z8c,if_neg (by simp)]
structure y4k (p:Pool) (it:Item):Prop where
 kind:1<=it.kind/\it.kind<=15
 wagon:it.kind<=9->0<=it.wagon/\it.wagon <(p.fleet.wagons.length:Int)
 read:it.kind=1->0<=it.other/\it.other <(p.readers.length:Int)
 place:it.kind=2\/it.kind=3\/it.kind=4\/it.kind=6\/it.kind=7\/it.kind=9->0<=it.place/\it.place <(p.network.places.length:Int)
 from_:it.kind<=9->0<=it.from_/\it.from_<=1073741824
 to:it.kind=2\/it.kind=9->it.from_<=it.to/\it.to<=1073741824
theorem zr5 {ρ:Type} (c q:Bool) (K:Bool->Option ρ) :((zn (default,()) (c=true) (some (q,()))).bind fun y=>K (c&&y.1))=K (c&&q):=by
 unfold zn
 cases c <;> rfl
theorem yg5 (p:Pool) (it:Item) (hparts:it.parts.length<=1000) (hw:p.fleet.wagons.length<=4096) (hr:p.readers.length<=256) (hs:p.shippers.length<=256) (hpl:p.network.places.length<=512) (ht:p.fleet.types.length<=32) :
  ∃ b,(∀ φ,1000<φ->z0i φ p it=some (b,()))/\(b=true->y4k p it):=by
 have w1:W ((p.fleet.wagons.length:Int)-1) =(p.fleet.wagons.length:Int)-1:=W_id (by omega) (by omega)
 have w2:W ((p.readers.length:Int)-1) =(p.readers.length:Int)-1:=W_id (by omega) (by omega)
 have w3:W ((p.shippers.length:Int)-1) =(p.shippers.length:Int)-1:=W_id (by omega) (by omega)
 have w4:W ((p.network.places.length:Int)-1) =(p.network.places.length:Int)-1:=W_id (by omega) (by omega)
 have w5:W ((p.fleet.types.length:Int)-1) =(p.fleet.types.length:Int)-1:=W_id (by omega) (by omega)
 have hm:∀ x z:Int,max2 x 0<=z↔x<=z/\0<=z:=by intro x z; unfold max2; split <;> omega
 by_cases hk0:it.kind<1
 ·refine⟨false,fun φ hφ=>?_,fun h=>by cases h⟩
  unfold z0i ze
  rw [if_pos (by simp; omega),if_pos (by simpa using hk0)]
  simp
 by_cases hk16:15<it.kind
 ·refine⟨false,fun φ hφ=>?_,fun h=>by cases h⟩
  have e:∀ k:Int,k<=15->(it.kind==k)=false:=fun k hk=>by simp; omega
  unfold z0i
  rw [if_neg (by simp; omega)]
  simp [e,z1q,ze]
 have hcases:it.kind=1\/it.kind=2\/it.kind=3\/it.kind=4\/it.kind=5\/it.kind=6\/it.kind=7\/it.kind=8\/it.kind=9\/it.kind=10\/it.kind=11\/it.kind=12\/it.kind=13\/it.kind=14\/it.kind=15:=by omega
 by_cases hin:0<=it.place/\it.place <(p.network.places.length:Int)
 ·have e1 :(decide ((0:Int)<=it.place)&&decide ((it.place:Int) <(p.network.places.length:Int)))=true:=by simp [hin]
  rcases hcases with hk | hk | hk | hk | hk | hk | hk | hk | hk | hk | hk | hk | hk | hk | hk
  case inr.inr.inr.inr.inr.inr.inr.inr.inl=>
   refine⟨_,fun φ hφ=>by
    unfold z0i
    simp only [hk,e1,z4e,z7 hin,w1,w2,w3,w4,w5,z5f φ _ _ hparts hφ,Option.bind_some,Int.reduceLE,Int.reduceLT,Int.reduceBEq,decide_true,decide_false,if_true,Bool.false_eq_true,if_false]
    refine(zr5 _ _ (fun b=>ze φ ⟨_,_,b⟩)).trans ?_
    unfold ze
    rfl,fun hb=>?_⟩
   simp only [Bool.and_eq_true,decide_eq_true_eq,hm,beq_iff_eq,bne_iff_ne,ne_eq,Bool.or_eq_true] at hb
   constructor <;> omega
  case inr.inr.inr.inr.inr.inr.inr.inr.inr.inl=>
   refine⟨_,fun φ hφ=>by
    unfold z0i
    simp only [hk,e1,z7 hin,w1,w2,w3,w4,w5,z5f φ _ _ hparts hφ,Option.bind_some,Int.reduceLE,Int.reduceLT,Int.reduceBEq,decide_true,decide_false,if_true,Bool.false_eq_true,if_false]
    refine(zr5 _ _ (fun b=>ze φ ⟨_,_,b⟩)).trans ?_
    unfold ze
    rfl,fun hb=>?_⟩
   constructor <;> omega
  all_goals
   refine⟨_,fun φ hφ=>by
    unfold z0i
    simp only [hk,e1,z5m,z4i,z4j,z4m,z4o,z4c,z1q,z4p,ze,z7 hin,w1,w2,w3,w4,w5,Option.bind_some,Int.reduceLE,Int.reduceLT,Int.reduceBEq,Int.reduceBNe,Int.reduceNe,decide_true,decide_false,if_true,Bool.false_eq_true,if_false]
    rfl,fun hb=>?_⟩
   simp only [Bool.and_eq_true,decide_eq_true_eq,hm,beq_iff_eq,bne_iff_ne,ne_eq,Bool.or_eq_true] at hb
   constructor <;> omega
 ·have e1 :(decide ((0:Int)<=it.place)&&decide ((it.place:Int) <(p.network.places.length:Int)))=false:=by
   rw [<- Bool.not_eq_true]; simpa using hin
  rcases hcases with hk | hk | hk | hk | hk | hk | hk | hk | hk | hk | hk | hk | hk | hk | hk
  case inr.inr.inr.inr.inr.inr.inr.inr.inl=>
   refine⟨_,fun φ hφ=>by
    unfold z0i
    simp only [hk,e1,z4e,w1,w2,w3,w4,w5,z5f φ _ _ hparts hφ,Option.bind_some,Int.reduceLE,Int.reduceLT,Int.reduceBEq,decide_true,decide_false,if_true,Bool.false_eq_true,if_false]
    refine(zr5 _ _ (fun b=>ze φ ⟨_,_,b⟩)).trans ?_
    unfold ze
    rfl,fun hb=>?_⟩
   simp at hb
  case inr.inr.inr.inr.inr.inr.inr.inr.inr.inl=>
   refine⟨_,fun φ hφ=>by
    unfold z0i
    simp only [hk,e1,w1,w2,w3,w4,w5,z5f φ _ _ hparts hφ,Option.bind_some,Int.reduceLE,Int.reduceLT,Int.reduceBEq,decide_true,decide_false,if_true,Bool.false_eq_true,if_false]
    refine(zr5 _ _ (fun b=>ze φ ⟨_,_,b⟩)).trans ?_
    unfold ze
    rfl,fun hb=>?_⟩
   constructor <;> omega
  all_goals
   refine⟨_,fun φ hφ=>by
    unfold z0i
    simp only [hk,e1,z5m,z4i,z4j,z4m,z4o,z4c,z1q,z4p,ze,w1,w2,w3,w4,w5,Option.bind_some,Int.reduceLE,Int.reduceLT,Int.reduceBEq,Int.reduceBNe,Int.reduceNe,decide_true,decide_false,if_true,Bool.false_eq_true,if_false]
    rfl,fun hb=>?_⟩
   simp only [Bool.and_eq_true,decide_eq_true_eq,hm,beq_iff_eq,bne_iff_ne,ne_eq,Bool.or_eq_true] at hb
   first |(constructor <;> omega) |(simp at hb; done) |(simp at hb; constructor <;> omega)
def zm7 (p:Pool) (it:Item):Bool:=((z0i 2000 p it).getD (false,())).1
def y5x (it:Item):Bool:=((z7i 0 it).getD (false,())).1
theorem y1d (φ:Nat) (it:Item):z7i φ it=some (y5x it,()):=by
 unfold y5x z7i
 split <;> rfl
def zdx (p:Pool) (it:Item):Bool:=y5x it&&zm7 p it
theorem zse {p:Pool} (hc:zl p=0) {it:Item} (hparts:it.parts.length<=1000) :(∀ φ,1000<φ->z0i φ p it=some (zm7 p it,()))/\(zm7 p it=true->y4k p it):=by
 obtain⟨hn,hf,h1,h2,h3,hb⟩:=z68 hc
 obtain⟨n1,n2,_,_⟩:=zld hn
 obtain⟨f1,f2,_⟩:=z6t hf
 obtain⟨b,hφ,hok⟩:=yg5 p it hparts f2 h1 h2 n1 f1
 have:zm7 p it=b:=by unfold zm7; rw [hφ 2000 (by omega)]; rfl
 rw [this]
 exact⟨hφ,hok⟩
theorem y3u (φ:Nat) (hφ:800000<φ) {p:Pool} (hc:zl p=0) {it:Item} (hparts:it.parts.length<=1000):znq φ p it=some (bif zdx p it then 0 else 110,()):=by
 unfold znq zdx
 rw [zf4 φ hφ,Option.bind_some,if_neg (by simp [hc]),y1d,Option.bind_some]
 cases y5x it with
 | false=>rfl
 | true=>
  rw [gz_t (by simp),(zse hc hparts).1 φ (by omega),Option.bind_some]
  cases zm7 p it <;> rfl
theorem zbu {p:Pool} (hc:zl p=0) {it:Item} (hparts:it.parts.length<=1000) (h:zdx p it=true):y4k p it:=by
 simp only [zdx,Bool.and_eq_true] at h
 exact(zse hc hparts).2 h.2
end Px
end
section
namespace Px
open Go
theorem ze3 {n b:Nat} (h:n<=100000) (hb:b<=1000):fits n b:=by
 unfold fits
 have:n*b<=100000*1000:=Nat.mul_le_mul h hb
 omega
def z3c (r:z8) (place time:Int):z19:=⟨r.item.wagon,place,r.ref,false,time,time⟩
def evs (p:Pool) (r:z8) (i:Int):List z6:=
 if r.item.kind=1 then [⟨z3c r (gt p.readers r.item.other).place r.item.from_,i,false,false,r.item.other⟩]
 else if r.item.kind=2\/r.item.kind=9 then [⟨z3c r r.item.place r.item.from_,i,false,true,-1⟩,⟨z3c r r.item.place r.item.to,i,true,true,-1⟩]
 else if r.item.kind=3\/r.item.kind=4\/r.item.kind=6\/r.item.kind=7 then [⟨z3c r r.item.place r.item.from_,i,false,false,-1⟩] else []
theorem y6z (φ:Nat) (p:Pool) (r:z8) (i:Int) (h:r.item.kind=1->0<=r.item.other/\r.item.other <(p.readers.length:Int)):z17 φ p r i=some (evs p r i,()):=by
 by_cases h1:r.item.kind=1
 ·have h':=h h1
  simp [z17,evs,h1,z7 h',z02,z3c]
 by_cases h2:r.item.kind=2
 ·simp [z17,evs,h2,z0d,z2v,z2t,z02,z3c]
 by_cases h9:r.item.kind=9
 ·simp [z17,evs,h9,z0d,z2v,z2t,z02,z3c]
 by_cases h3:r.item.kind=3
 ·simp [z17,evs,h3,z0d,z0e,z02,z3c]
 by_cases h4:r.item.kind=4
 ·simp [z17,evs,h4,z0d,z0e,z02,z3c]
 by_cases h6:r.item.kind=6
 ·simp [z17,evs,h6,z0d,z0e,z02,z3c]
 by_cases h7:r.item.kind=7
 ·simp [z17,evs,h7,z0d,z0e,z02,z3c]
 ·simp [z17,evs,h1,h2,h9,h3,h4,h6,h7,z0d,z0e]
theorem za3 {p:Pool} {r:z8} {i:Int} {x:z6} (h:x∈evs p r i):x.report=i/\x.visit.wagon=r.item.wagon/\x.visit.ref=r.ref:=by
 unfold evs at h
 split at h
 ·simp only [List.mem_singleton] at h; subst h; exact⟨rfl,rfl,rfl⟩
 ·split at h
  ·simp only [List.mem_cons,List.not_mem_nil,or_false] at h
   rcases h with rfl | rfl <;> exact⟨rfl,rfl,rfl⟩
  ·split at h
   ·simp only [List.mem_singleton] at h; subst h; exact⟨rfl,rfl,rfl⟩
   ·cases h
theorem zyo (p:Pool) (r:z8) (i:Int) :(evs p r i).length<=2:=by
 unfold evs
 split
 ·simp
 ·split
  ·simp
  ·split <;> simp
theorem yq7 (p:Pool) (r:z8) (i:Int) :(evs p r i).Pairwise fun a b=>a.report≠b.report\/a.second≠b.second:=by
 unfold evs
 split
 ·simp
 ·split
  ·simp
  ·split <;> simp
def cntN (p:Pool) (l:List z8) (n:Nat):List Int:=((List.range n).filter fun(i:Nat)=>zdx p (gt l (i:Int)).item).map fun(i:Nat)=>(i:Int)
def cnt (p:Pool) (l:List z8):List Int:=cntN p l l.length
theorem zu2 (p:Pool) (l:List z8) (n:Nat):cntN p l (n+1)=cntN p l n++(bif zdx p (gt l (n:Int)).item then [(n:Int)] else []):=by
 unfold cntN
 rw [List.range_succ,List.filter_append,List.map_append]
 congr 1
 cases h:zdx p (gt l (n:Int)).item <;> simp [h]
theorem zfl (p:Pool) (l:List z8) (n:Nat) :(cntN p l n).length<=n:=by
 unfold cntN
 rw [List.length_map]
 exact Nat.le_trans (List.length_filter_le _ _) (by simp)
theorem ztp {p:Pool} {l:List z8} {i:Int} (h:i∈cnt p l):0<=i/\i <(l.length:Int)/\zdx p (gt l i).item=true:=by
 simp only [cnt,cntN,List.mem_map,List.mem_filter,List.mem_range] at h
 obtain⟨n,⟨h1,h2⟩,rfl⟩:=h
 exact⟨by omega,by omega,h2⟩
theorem yor (p:Pool) (l:List z8) :(cnt p l).Pairwise (· < ·):=by
 unfold cnt cntN
 rw [List.pairwise_map]
 refine(List.pairwise_lt_range.filter _).imp ?_
 intro a b h
 omega
structure FewL (l:List z8):Prop where
 len:l.length<=1000
 parts:∀ r∈l,r.item.parts.length<=1000
theorem FewL.gt {l:List z8} (h:FewL l) {i:Int} (h0:0<=i) (hi:i <(l.length:Int)) :(Px.gt l i).item.parts.length<=1000:=h.parts _ (z0y h0 hi)
theorem ya9 (φ:Nat) (hφ:800000<φ) {p:Pool} (hc:zl p=0) {l:List z8} (hl:FewL l):zcz φ p l=some (cnt p l,()):=by
 have h1:=hl.len
 unfold zcz
 refine zi (fun n i acc=>z2x φ n l (l.length:Int) i p acc) l.length (fun i acc=>acc=cntN p l i) (fun o=>o=some (cnt p l,())) ?_ ?_ φ [] rfl (by omega)
 ·intro n i acc hi hacc hs
  rw [z2x,if_pos (by simp; omega),z7 ⟨by omega,by omega⟩,y3u φ hφ hc (hl.gt (by omega) (by omega)),Option.bind_some,W_id (by omega) (by omega)]
  have hs':=hs (cntN p l (i+1)) rfl
  rw [zu2] at hs'
  cases h:zdx p (gt l (i:Int)).item with
  | true=>
   rw [h] at hs'
   rw [if_pos (by rfl),z7 (ze3 (by have:=zfl p l i; rw [hacc]; simp; omega) (by omega)),hacc]
   exact hs'
  | false=>
   rw [h] at hs'
   simp only [cond_false,List.append_nil] at hs'
   rw [if_neg (by decide),hacc]
   exact hs'
 ·intro n acc hacc
  rw [z2x,if_neg (by simp),hacc]; rfl
def unsC (p:Pool) (l:List z8) (c:List Int) (w:Int):List z6:=c.flatMap fun i=>if(gt l i).item.wagon=w then evs p (gt l i) i else []
def uns (p:Pool) (l:List z8) (w:Int):List z6:=unsC p l (cnt p l) w
theorem zm2 (p:Pool) (l:List z8) (w:Int):∀ c:List Int,(unsC p l c w).length<=2*c.length
 | []=>by simp [unsC]
 | i::c=>by
  have:=zm2 p l w c
  have h2:=zyo p (gt l i) i
  unfold unsC at *
  rw [List.flatMap_cons,List.length_append,List.length_cons]
  split
  ·omega
  ·simp only [List.length_nil]; omega
theorem y6c {a b:z6} (h:a.report≠b.report\/a.second≠b.second):cfEv a b<0\/cfEv b a<0:=by
 rw [zdw,zdw]
 have h2:a.second≠b.second->ordB a.second≠ordB b.second:=by
  cases a.second <;> cases b.second <;> simp [ordB]
 by_cases hs:a.second=b.second
 ·have h3:=h.resolve_right (fun q=>q hs)
  rw [hs]; omega
 ·have:=h2 hs
  omega
theorem yco (p:Pool) (l:List z8) (w:Int) :(uns p l w).Pairwise fun a b=>a.report≠b.report\/a.second≠b.second:=by
 unfold uns unsC
 rw [List.pairwise_flatMap]
 refine⟨fun i hi=>?_,(yor p l).imp ?_⟩
 ·split
  ·exact yq7 _ _ _
  ·exact List.Pairwise.nil
 ·intro i j hij x hx y hy
  split at hx
  ·split at hy
   ·rw [(za3 hx).1,(za3 hy).1]
    exact .inl (by omega)
   ·cases hy
  ·cases hx
theorem zja {p:Pool} {l:List z8} (hl:l.length<=1000) {w:Int} {x:z6} (h:x∈uns p l w):0<=x.report/\x.report <(l.length:Int)/\x.visit.wagon=w/\zdx p (gt l x.report).item=true/\x∈evs p (gt l x.report) x.report:=by
 simp only [uns,unsC,List.mem_flatMap] at h
 obtain⟨i,hi,hx⟩:=h
 obtain⟨h1,h2,h3⟩:=ztp hi
 split at hx
 ·rename_i hw
  obtain⟨r1,r2,r3⟩:=za3 hx
  rw [r1]
  exact⟨h1,h2,by rw [r2,hw],h3,hx⟩
 ·cases hx
def ltEv (a b:z6):Bool:=decide (cfEv a b<0)
def srt (p:Pool) (l:List z8) (w:Int):List z6:=zkl ltEv (uns p l w)
theorem yan {p:Pool} {l:List z8} (hl:l.length<=1000) (w:Int):sortEv (uns p l w)=some (srt p l w):=by
 refine yik (fun y hy=>?_) ?_ ((yco p l w).imp fun h=>y6c h)
 ·obtain⟨h1,h2,_⟩:=zja hl hy
  simp only [okEv,decide_eq_true_eq]; omega
 ·have:=zm2 p l w (cnt p l)
  have h2:=zfl p l l.length
  unfold uns cnt at *
  omega
def covM (e:z6) (m:List (Int×Bool)):List (Int×Bool):=if(e.stay&&e.second)=true then mdel m e.report else if e.stay=true then mset m e.report true else m
def za7 (e:z6) (b:Bool):z6:=⟨⟨e.visit.wagon,e.visit.place,e.visit.ref,b,e.visit.early,e.visit.late⟩,e.report,e.second,e.stay,e.reader⟩
def zgs:List z6->List (Int×Bool)->List z6
 | [],_=>[]
 | e::t,m=>za7 e (decide ((0:Int) <((covM e m).length:Int)))::zgs t (covM e m)
theorem z6w:∀(t:List z6) (m:List (Int×Bool)),(zgs t m).length=t.length
 | [],_=>rfl
 | e::t,m=>by simp [zgs,z6w t]
def z10 (p:Pool) (l:List z8) (w:Int):List z6:=zgs (srt p l w) []
theorem ydj {α:Type} (a:List α) (x y:α) (b:List α):zp (a++x::b) (a.length:Int) y=a++y::b:=by
 simp [zp]
theorem ycw {α:Type} [Inhabited α] (a:List α) (x:α) (b:List α):gt (a++x::b) (a.length:Int)=x:=by
 simp [gt]
theorem yak (φ:Nat) (k:Int->Int->List (List z6)->Option ((List (List z6))×Unit)) (x19 x20 x24:Int) (x23:List (List z6)) :
  ∀(n:Nat) (done todo:List z6) (m:List (Int×Bool)),todo.length<n->done.length+todo.length<=100000->
   z18 φ k n ((done.length+todo.length:Nat):Int) (done.length:Int) x19 x20 (done++todo) m x23 x24=k x19 (W (x20+1)) (zp x23 x24 (done++zgs todo m)):=by
 intro n
 induction n with
 | zero=>intro d t m h _; omega
 | succ n ih=>
  intro d t m hn hl
  cases t with
  | nil=>
   rw [z18,if_neg (by simp)]
   rfl
  | cons e t=>
   simp only [List.length_cons] at hn hl
   have hin :(0:Int)<=(d.length:Int)/\(d.length:Int) <((d++e::t).length:Int):=⟨by omega,by simp; omega⟩
   have key:∀ m',z3y φ (z18 φ k n) (d.length:Int) ((d.length +(e::t).length:Nat):Int) (d.length:Int) x19 x20 (d++e::t) m' x23 x24 =
     k x19 (W (x20+1)) (zp x23 x24 (d++za7 e (decide ((0:Int) <(m'.length:Int)))::zgs t m')):=by
    intro m'
    unfold z3y
    rw [z7 hin,ycw,W_id (by omega) (by omega),ydj]
    have:=ih (d++[za7 e (decide ((0:Int) <(m'.length:Int)))]) t m' (by omega) (by simp; omega)
    simp only [List.length_append,List.length_cons,List.length_nil,List.append_assoc,List.cons_append,List.nil_append] at this
    rw [show ((d.length +(e::t).length:Nat):Int) =((d.length +(0+1)+t.length:Nat):Int) by simp; omega,show (d.length:Int)+1 =((d.length +(0+1):Nat):Int) by omega]
    exact this
   rw [z18,if_pos (by simp; omega),z7 hin,z7 (fun _=>hin),ycw]
   have hg:∀ m',covM e m=m'->zgs (e::t) m=za7 e (decide ((0:Int) <(m'.length:Int)))::zgs t m':=fun m' hm=>by subst hm; rfl
   by_cases h1 :(e.stay&&e.second)=true
   ·rw [if_pos h1,z7 hin,key,hg _ (if_pos h1)]
   ·rw [if_neg h1,z7 hin]
    by_cases h2:e.stay=true
    ·rw [if_pos h2,z7 hin,key,hg (mset m e.report true) (by unfold covM; rw [if_neg h1,if_pos h2])]
    ·rw [if_neg h2,key,hg m (by unfold covM; rw [if_neg h1,if_neg h2])]
theorem ye8 (φ:Nat) (hφ:800000<φ) {p:Pool} (hc:zl p=0) {l:List z8} (hl:FewL l):zfr φ p l=some ((List.range p.fleet.wagons.length).map fun(w:Nat)=>z10 p l (w:Int),()):=by
 have h1:=hl.len
 obtain⟨_,hf,_⟩:=z68 hc
 obtain⟨_,f2,_⟩:=z6t hf
 have hcl:=zfl p l l.length
 unfold zfr
 rw [z7 (mk_t _ _ (by omega) (by omega) (by omega)),ya9 φ hφ hc hl,Option.bind_some]
 generalize hn0:p.fleet.wagons.length=n0 at *
 have second:∀ out:List (List z6),out.length=n0->(∀ w:Nat,w<n0->gt out (w:Int)=uns p l w)->z20 φ φ (out.length:Int) 0 out=some ((List.range n0).map fun(w:Nat)=>z10 p l (w:Int),()):=by
  intro out ho hu
  rw [ho]
  refine zi (fun n i o=>z20 φ n (n0:Int) i o) n0 (fun i o=>o.length=n0/\∀ w:Nat,w<n0->gt o (w:Int)=if w<i then z10 p l w else uns p l w) (fun o=>o=some ((List.range n0).map fun(w:Nat)=>z10 p l (w:Int),())) ?_ ?_ φ out ⟨ho,fun w hw=>by rw [hu w hw,if_neg (by omega)]⟩ (by omega)
  ·intro n i o hi ⟨ho1,ho2⟩ hs
   rw [z20,if_pos (by simp; omega),z7 ⟨by omega,by omega⟩,z7 ⟨by omega,by omega⟩,z7 rfl,ho2 i hi,if_neg (by omega),yan h1,Option.bind_some]
   have hsl :(srt p l (i:Int)).length<=2000:=by
    rw [srt,(z0v _ _).length_eq]
    have:=zm2 p l i (cnt p l)
    unfold uns cnt at *
    omega
   have:=yak φ (z20 φ n) (n0:Int) (i:Int) (i:Int) o φ [] (srt p l (i:Int)) [] (by omega) (by simp; omega)
   simp only [List.length_nil,Nat.zero_add,List.nil_append] at this
   refine this.trans ?_
   rw [W_id (by omega) (by omega)]
   refine hs _ ⟨by rw [z0b]; exact ho1,fun w hw=>?_⟩
   rw [zu _ _ _ _ (by omega) (by omega) (by omega)]
   by_cases e:w=i
   ·subst e; rw [if_pos rfl,if_pos (by omega)]; rfl
   ·rw [if_neg (by omega),ho2 w hw]
    by_cases h2:w<i
    ·rw [if_pos h2,if_pos (by omega)]
    ·rw [if_neg h2,if_neg (by omega)]
  ·intro n o ⟨ho1,ho2⟩
   rw [z20,if_neg (by simp)]
   congr 2
   refine List.ext_getElem (by simp [ho1]) fun w hw hw2=>?_
   have:=ho2 w (by omega)
   rw [z0x hw,if_pos (by omega)] at this
   simpa using this
 refine zi (fun n i o=>z33 φ n l (cnt p l) ((cnt p l).length:Int) i p o) (cnt p l).length (fun i o=>o.length=n0/\∀ w:Nat,w<n0->gt o (w:Int)=unsC p l ((cnt p l).take i) w) (fun o=>o=some ((List.range n0).map fun(w:Nat)=>z10 p l (w:Int),())) ?_ ?_ φ _ ⟨by simp,fun w hw=>?_⟩ (by unfold cnt; omega)
 ·intro n i o hi ⟨ho1,ho2⟩ hs
  have hmem:gt (cnt p l) (i:Int)∈cnt p l:=z0y (by omega) (by omega)
  obtain⟨c1,c2,c3⟩:=ztp hmem
  have hI:=zbu hc (hl.gt c1 c2) c3
  have hcn :(cnt p l).length<=1000:=by unfold cnt; omega
  rw [z33,if_pos (by simp; omega),z7 ⟨by omega,by omega⟩,z7 ⟨c1,c2⟩,y6z φ p _ _ hI.read,Option.bind_some]
  have hW:W ((i:Int)+1) =(i:Int)+1:=W_id (by omega) (by omega)
  have htake:∀ w,unsC p l ((cnt p l).take (i+1)) w=unsC p l ((cnt p l).take i) w++(if(gt l (gt (cnt p l) (i:Int))).item.wagon=w then evs p (gt l (gt (cnt p l) (i:Int))) (gt (cnt p l) (i:Int)) else []):=by
   intro w
   rw [z09 _ _ hi]
   simp [unsC]
  generalize gt (cnt p l) (i:Int)=ci at *
  generalize hev:evs p (gt l ci) ci=E at *
  have hE:E.length<=2:=by rw [<- hev]; exact zyo _ _ _
  simp only []
  by_cases h0:0<E.length
  ·have hkind :(gt l ci).item.kind<=9:=by
    rcases Int.lt_or_le 9 (gt l ci).item.kind with h | h
    ·exfalso
     have:E = []:=by
      rw [<- hev]; unfold evs
      rw [if_neg (by omega),if_neg (by omega),if_neg (by omega)]
     rw [this] at h0; simp at h0
    ·exact h
   have hwg:=hI.wagon hkind
   rw [hn0] at hwg
   obtain⟨w0,hw0⟩:∃ w0:Nat,(gt l ci).item.wagon =(w0:Int):=⟨(gt l ci).item.wagon.toNat,by omega⟩
   rw [hw0] at hwg htake ⊢
   have hwg' :(0:Int)<=(w0:Int)/\(w0:Int) <(o.length:Int):=⟨by omega,by omega⟩
   have hul:=zm2 p l w0 ((cnt p l).take i)
   rw [if_pos (by simpa using h0),z7 ⟨c1,c2⟩,z7 hwg',z7 hwg',z7 trivial,ho2 w0 (by omega),
    z7 (ze3 (by rw [List.length_take] at hul; omega) (by omega)),z7 hwg',z7 trivial,hW]
   refine hs _ ⟨by rw [z0b]; exact ho1,fun w hw=>?_⟩
   rw [zu _ _ _ _ (by omega) (by omega) (by omega),htake]
   by_cases e :(w:Int) =(w0:Int)
   ·rw [if_pos e,e,if_pos rfl]
   ·rw [if_neg e,if_neg (fun q=>e q.symm),List.append_nil,ho2 w hw]
  ·have hnil:E = []:=List.eq_nil_of_length_eq_zero (by omega)
   rw [if_neg (by simpa using h0),hW]
   refine hs _ ⟨ho1,fun w hw=>?_⟩
   rw [htake,hnil,ho2 w hw]
   split <;> simp
 ·intro n o ⟨ho1,ho2⟩
  rw [z33,if_neg (by simp)]
  refine second o ho1 fun w hw=>?_
  rw [ho2 w hw,List.take_length]; rfl
 ·rw [z3e _ _ _ (by omega) (by simp; omega)]
  simp [unsC]
  rfl
theorem ydq {p:Pool} {l:List z8} {w:Int} (h0:0<=w) (h:w <(p.fleet.wagons.length:Int)):gt ((List.range p.fleet.wagons.length).map fun(w:Nat)=>z10 p l (w:Int)) w=z10 p l w:=by
 obtain⟨n,rfl⟩:∃ n:Nat,w =(n:Int):=⟨w.toNat,by omega⟩
 rw [z0x (by simp; omega)]
 simp
end Px
end
section
namespace Px
open Go
theorem z8r (m:List (Int×Int)) (a v c:Int):mget (mset m a v) c=if c=a then some v else mget m c:=by
 induction m with
 | nil=>
  show (bif c==a then some v else none)=_
  by_cases h:c=a
  ·rw [if_pos h]; simp [h]
  ·rw [if_neg h]
   have :(c==a)=false:=by simpa using h
   rw [this]; rfl
 | cons p m ih=>
  obtain⟨k,w⟩:=p
  show mget (bif a==k then(a,v)::m else(k,w)::mset m a v) c=_
  have e1:mget ((k,w)::m) c=bif c==k then some w else mget m c:=rfl
  by_cases h1:a=k
  ·subst h1
   simp only [beq_self_eq_true,cond_true]
   show (bif c==a then some v else mget m c)=_
   rw [e1]
   by_cases h:c=a
   ·rw [if_pos h]; simp [h]
   ·rw [if_neg h]
    have :(c==a)=false:=by simpa using h
    rw [this]; rfl
  ·have :(a==k)=false:=by simpa using h1
   rw [this]
   show (bif c==k then some w else mget (mset m a v) c)=_
   rw [ih,e1]
   by_cases h2:c=k
   ·subst h2
    have h3:¬ c=a:=fun e=>h1 e.symm
    simp [h3]
   ·have :(c==k)=false:=by simpa using h2
    rw [this]; rfl
theorem zli {p:Pool} {l:List z8} (hl:l.length<=1000) (w:Int) :(z10 p l w).length<=2000:=by
 unfold z10
 rw [z6w,srt,(z0v _ _).length_eq]
 have:=zm2 p l w (cnt p l)
 have:=zfl p l l.length
 unfold uns cnt at *
 omega
end Px
end
section
namespace Px
open Go
theorem ybq (φ:Nat) (hφ:800000<φ) (x:zc) (a b:z19):∃ t,z2s φ x a b=some (t,())/\0<=t/\t<=1073741825:=by
 unfold z2s
 split
 ·exact⟨_,rfl,by omega,by omega⟩
 ·obtain⟨t,e,h,h1,h2⟩:=zqu φ hφ x a.place b.place
  rw [h,Option.bind_some]
  split
  ·exact⟨_,rfl,by omega,by omega⟩
  ·exact⟨_,rfl,h1,by omega⟩
def tvl (φ:Nat) (x:zc) (a b:z19):Int:=((z2s φ x a b).getD default).1
theorem yg3 (φ:Nat) (hφ:800000<φ) (x:zc) (a b:z19):z2s φ x a b=some (tvl φ x a b,())/\0<=tvl φ x a b/\tvl φ x a b<=1073741825:=by
 obtain⟨t,h,h1,h2⟩:=ybq φ hφ x a b
 unfold tvl
 rw [h]
 exact⟨rfl,h1,h2⟩
def y0:Nat->Ref:=fun _=>(default:Ref)
def y1 (r:Ref):Nat->Ref:=upd (fun _=>(default:Ref)) 0 r
def y2 (r q:Ref):Nat->Ref:=upd (upd (fun _=>(default:Ref)) 0 r) 1 q
def zxa (m:List (Int×Int)) (e:z6):List (Int×Int):=if 0<=e.reader then mset m e.reader 0 else m
def zql (m:List (Int×Int)) (t:List z6):List (Int×Int):=t.foldl zxa m
def used (ts:List (List z6)):List (Int×Int):=ts.foldl zql []
structure BS where
 v:Int
 b:List zb
 y:List (Nat->Ref)
 e:List z0o
structure RS where
 v:Int
 m:List (Int×Int)
 b:List zb
 y:List (Nat->Ref)
def zh0 (rs:List z15) (i:Nat) (s:RS):RS:=
 if(mget s.m (i:Int)).isSome=true then⟨s.v+1,mset s.m (i:Int) s.v,s.b++[⟨0,s.v,0 -(gt rs (i:Int)).low⟩,⟨s.v,0,(gt rs (i:Int)).high⟩],s.y++[y0,y0]⟩ else s
def rdsN (rs:List z15) (m:List (Int×Int)):Nat->RS
 | 0=>⟨1,m,[],[]⟩
 | n+1=>zh0 rs n (rdsN rs m n)
def rv (m:List (Int×Int)) (e:z6):Int:=(mget m e.reader).getD default
def evB (m:List (Int×Int)) (v:Int) (e:z6):List zb:=
 if e.reader<0 then [⟨0,v,e.visit.early⟩,⟨v,0,0-e.visit.early⟩]
 else [⟨rv m e,v,e.visit.early⟩,⟨v,rv m e,0-e.visit.early⟩,⟨0,v,1073741824⟩,⟨v,0,0⟩]
def evY (e:z6):List (Nat->Ref):=List.replicate (if e.reader<0 then 2 else 4) (y1 e.visit.ref)
def trB (tv:z19->z19->Int) (v:Int) (pr:Option z19) (e:z6):List zb:=
 match pr with
 | none=>[]
 | some a=>[⟨v,v-1,0-tv a e.visit⟩]
def trY (pr:Option z19) (e:z6):List (Nat->Ref):=
 match pr with
 | none=>[]
 | some a=>[y2 a.ref e.visit.ref]
def zcg (tv:z19->z19->Int) (m:List (Int×Int)) (pr:Option z19) (e:z6) (s:BS):BS:=
 ⟨s.v+1,s.b++evB m s.v e++trB tv s.v pr e,s.y++evY e++trY pr e,s.e++[⟨e.visit.wagon,e.visit.place,s.v,e.visit.ref,e.visit.stay⟩]⟩
def bEv (tv:z19->z19->Int) (m:List (Int×Int)):Option z19->List z6->BS->BS
 | _,[],s=>s
 | pr,e::t,s=>bEv tv m (some e.visit) t (zcg tv m pr e s)
def bAll (tv:z19->z19->Int) (rs:List z15) (ts:List (List z6)):BS:=
 ts.foldl (fun s t=>bEv tv (rdsN rs (used ts) rs.length).m none t s) ⟨(rdsN rs (used ts) rs.length).v,(rdsN rs (used ts) rs.length).b,(rdsN rs (used ts) rs.length).y,[]⟩
def bEnd (s:BS):z0p×Int×Unit:=if 512<s.v\/4096<s.b.length then(⟨0,[],[],[]⟩,2,()) else(⟨s.v,s.b,s.y,s.e⟩,0,())
def zd (p:Pool) (l:List z8):List (List z6):=(List.range p.fleet.wagons.length).map fun(w:Nat)=>z10 p l (w:Int)
theorem z7o (rs:List z15) (m:List (Int×Int)):∀ n,1<=(rdsN rs m n).v/\(rdsN rs m n).v<=1+n/\(rdsN rs m n).b.length<=2*n/\(rdsN rs m n).y.length<=2*n
 | 0=>⟨by simp [rdsN],by simp [rdsN],by simp [rdsN],by simp [rdsN]⟩
 | n+1=>by
  obtain⟨h1,h2,h3,h4⟩:=z7o rs m n
  simp only [rdsN,zh0]
  split
  ·refine⟨?_,?_,?_,?_⟩ <;> simp <;> omega
  ·refine⟨?_,?_,?_,?_⟩ <;> omega
theorem yoj (m:List (Int×Int)) (v:Int) (e:z6) :(evB m v e).length<=4:=by
 unfold evB; split <;> simp
theorem yna (e:z6) :(evY e).length<=4:=by
 unfold evY; split <;> simp
theorem yo2 (tv:z19->z19->Int) (v:Int) (pr:Option z19) (e:z6) :(trB tv v pr e).length<=1:=by
 cases pr <;> simp [trB]
theorem yli (pr:Option z19) (e:z6) :(trY pr e).length<=1:=by
 cases pr <;> simp [trY]
structure BB (n:Nat) (s:BS):Prop where
 v0:1<=s.v
 v1:s.v<=257+n
 b:s.b.length<=512+5*n
 y:s.y.length<=512+5*n
 e:s.e.length<=n
theorem BB.step {n:Nat} {s:BS} (h:BB n s) (tv m pr e):BB (n+1) (zcg tv m pr e s):=by
 have h1:=yoj m s.v e
 have h2:=yna e
 have h3:=yo2 tv s.v pr e
 have h4:=yli pr e
 obtain⟨a,b,c,d,f⟩:=h
 unfold zcg
 constructor
 ·show 1<=s.v+1; omega
 ·show s.v+1<=257 +((n+1:Nat):Int); omega
 ·show (s.b++evB m s.v e++trB tv s.v pr e).length<=_
  rw [List.length_append,List.length_append]; omega
 ·show (s.y++evY e++trY pr e).length<=_
  rw [List.length_append,List.length_append]; omega
 ·show (s.e++[_]).length<=_
  rw [List.length_append]; simp; omega
theorem BB.ev (tv m):∀(t:List z6) (n:Nat) (pr:Option z19) (s:BS),BB n s->BB (n+t.length) (bEv tv m pr t s)
 | [],n,pr,s,h=>h
 | e::t,n,pr,s,h=>by
  have:=BB.ev tv m t (n+1) (some e.visit) (zcg tv m pr e s) (h.step tv m pr e)
  rw [show n +(e::t).length=n+1+t.length by simp; omega]
  exact this
section
variable (φ:Nat)
theorem yrp (hφ:10<φ) (k) (x55 x56 x57 x58 x59 x60 x61 x62 x63 x64 x65 x66 x67 x68) (B:List zb) (x70 x71 x72 x73) (b:List zb) (y:List (Nat->Ref)) (x76 x77 x78 x79) (hB:B.length<=4) (hb:b.length<=50000000) (hy:y.length<=50000000) :
  z3r φ k φ (B.length:Int) 0 x55 x56 x57 x58 x59 x60 x61 x62 x63 x64 x65 x66 x67 x68 B x70 x71 x72 x73 b y x76 x77 x78 x79=k x55 x56 x57 (W (x58+1)) x70 x71 (W (x67+1)) x72 x77 x78 x79 (b++B) (y++List.replicate B.length x68) x76:=by
 refine zi (fun n i (s:List zb×List (Nat->Ref))=>z3r φ k n (B.length:Int) i x55 x56 x57 x58 x59 x60 x61 x62 x63 x64 x65 x66 x67 x68 B x70 x71 x72 x73 s.1 s.2 x76 x77 x78 x79) B.length (fun i s=>s.1=b++B.take i/\s.2=y++List.replicate i x68) (fun o=>o=k x55 x56 x57 (W (x58+1)) x70 x71 (W (x67+1)) x72 x77 x78 x79 (b++B) (y++List.replicate B.length x68) x76) ?_ ?_ φ (b,y) ⟨by simp,by simp⟩ (by omega)
 ·intro n i s hi ⟨h1,h2⟩ hs
  rw [z3r,if_pos (by simp; omega),z7 ⟨by omega,by omega⟩,z7 (z4t (by rw [h1]; simp; omega) (by omega)),z7 (z4t (by rw [h2]; simp; omega) (by omega)),W_id (by omega) (by omega)]
  exact hs (_,_) ⟨by rw [h1,z09 B i hi,List.append_assoc],by rw [h2,List.replicate_succ',List.append_assoc]⟩
 ·intro n s ⟨h1,h2⟩
  rw [z3r,if_neg (by simp),h1,h2,List.take_length]
theorem yqr (hφ:10<φ) (k) (x137 x138 x139 x140 x141 x142 x143 x144 x145 x146 x147 x148 x149 x150 x151 x152 x153 x154 x155 x156 x157) (B:List zb) (x159 x160 x161 x162 x163) (b:List zb) (y:List (Nat->Ref)) (x166 x167 x168 x169) (hB:B.length<=4) (hb:b.length<=50000000) (hy:y.length<=50000000) :
  z30 φ k φ (B.length:Int) 0 x137 x138 x139 x140 x141 x142 x143 x144 x145 x146 x147 x148 x149 x150 x151 x152 x153 x154 x155 x156 x157 B x159 x160 x161 x162 x163 b y x166 x167 x168 x169=k x137 x138 x139 x140 x141 x142 (W (x143+1)) x159 x160 x156 x161 x167 x168 x169 (b++B) (y++List.replicate B.length x157) x166:=by
 refine zi (fun n i (s:List zb×List (Nat->Ref))=>z30 φ k n (B.length:Int) i x137 x138 x139 x140 x141 x142 x143 x144 x145 x146 x147 x148 x149 x150 x151 x152 x153 x154 x155 x156 x157 B x159 x160 x161 x162 x163 s.1 s.2 x166 x167 x168 x169) B.length (fun i s=>s.1=b++B.take i/\s.2=y++List.replicate i x157) (fun o=>o=k x137 x138 x139 x140 x141 x142 (W (x143+1)) x159 x160 x156 x161 x167 x168 x169 (b++B) (y++List.replicate B.length x157) x166) ?_ ?_ φ (b,y) ⟨by simp,by simp⟩ (by omega)
 ·intro n i s hi ⟨h1,h2⟩ hs
  rw [z30,if_pos (by simp; omega),z7 ⟨by omega,by omega⟩,z7 (z4t (by rw [h1]; simp; omega) (by omega)),z7 (z4t (by rw [h2]; simp; omega) (by omega)),W_id (by omega) (by omega)]
  exact hs (_,_) ⟨by rw [h1,z09 B i hi,List.append_assoc],by rw [h2,List.replicate_succ',List.append_assoc]⟩
 ·intro n s ⟨h1,h2⟩
  rw [z30,if_neg (by simp),h1,h2,List.take_length]
theorem yql (hφ:10<φ) (k) (x173 x174 x175 x176 x177 x178 x179 x180 x181 x182 x183) (B:List zb) (x185 x186 x187 x188) (b:List zb) (y:List (Nat->Ref)) (x191 x192 x193 x194) (hB:B.length<=4) (hb:b.length<=50000000) (hy:y.length<=50000000) :
  z36 φ k φ (B.length:Int) 0 x173 x174 x175 x176 x177 x178 x179 x180 x181 x182 x183 B x185 x186 x187 x188 b y x191 x192 x193 x194=z1a φ k x173 x174 x175 x176 x177 x178 x179 x180 x181 x185 x186 x182 x187 x188 x192 x193 x194 (b++B) (y++List.replicate B.length x183) x191:=by
 refine zi (fun n i (s:List zb×List (Nat->Ref))=>z36 φ k n (B.length:Int) i x173 x174 x175 x176 x177 x178 x179 x180 x181 x182 x183 B x185 x186 x187 x188 s.1 s.2 x191 x192 x193 x194) B.length (fun i s=>s.1=b++B.take i/\s.2=y++List.replicate i x183) (fun o=>o=z1a φ k x173 x174 x175 x176 x177 x178 x179 x180 x181 x185 x186 x182 x187 x188 x192 x193 x194 (b++B) (y++List.replicate B.length x183) x191) ?_ ?_ φ (b,y) ⟨by simp,by simp⟩ (by omega)
 ·intro n i s hi ⟨h1,h2⟩ hs
  rw [z36,if_pos (by simp; omega),z7 ⟨by omega,by omega⟩,z7 (z4t (by rw [h1]; simp; omega) (by omega)),z7 (z4t (by rw [h2]; simp; omega) (by omega)),W_id (by omega) (by omega)]
  exact hs (_,_) ⟨by rw [h1,z09 B i hi,List.append_assoc],by rw [h2,List.replicate_succ',List.append_assoc]⟩
 ·intro n s ⟨h1,h2⟩
  rw [z36,if_neg (by simp),h1,h2,List.take_length]
theorem yot (hφ:10<φ) (k) (x173 x174 x175 x176 x177 x178 x179 x180 x181 x182 x183) (B:List zb) (x185 x186 x187 x188) (b:List zb) (y:List (Nat->Ref)) (x191 x192 x193 x194) (hB:B.length<=4) (hb:b.length<=50000000) (hy:y.length<=50000000) :
  z38 φ k φ (B.length:Int) 0 x173 x174 x175 x176 x177 x178 x179 x180 x181 x182 x183 B x185 x186 x187 x188 b y x191 x192 x193 x194=z1a φ k x173 x174 x175 x176 x177 x178 x179 x180 x181 x185 x186 x182 x187 x188 x192 x193 x194 (b++B) (y++List.replicate B.length x183) x191:=by
 refine zi (fun n i (s:List zb×List (Nat->Ref))=>z38 φ k n (B.length:Int) i x173 x174 x175 x176 x177 x178 x179 x180 x181 x182 x183 B x185 x186 x187 x188 s.1 s.2 x191 x192 x193 x194) B.length (fun i s=>s.1=b++B.take i/\s.2=y++List.replicate i x183) (fun o=>o=z1a φ k x173 x174 x175 x176 x177 x178 x179 x180 x181 x185 x186 x182 x187 x188 x192 x193 x194 (b++B) (y++List.replicate B.length x183) x191) ?_ ?_ φ (b,y) ⟨by simp,by simp⟩ (by omega)
 ·intro n i s hi ⟨h1,h2⟩ hs
  rw [z38,if_pos (by simp; omega),z7 ⟨by omega,by omega⟩,z7 (z4t (by rw [h1]; simp; omega) (by omega)),z7 (z4t (by rw [h2]; simp; omega) (by omega)),W_id (by omega) (by omega)]
  exact hs (_,_) ⟨by rw [h1,z09 B i hi,List.append_assoc],by rw [h2,List.replicate_succ',List.append_assoc]⟩
 ·intro n s ⟨h1,h2⟩
  rw [z38,if_neg (by simp),h1,h2,List.take_length]
theorem ye9 (hφ:800000<φ) (k) (T:List z6) (n:Nat) (hn:n<T.length) (x115 x116 x117 x118 x119 x120) (x122:Pool) (x123:Int) (x125:List (Int×Int)) (e:z6) (pr:Option z19) (hpr:pr=if 0<n then some (gt T ((n:Int)-1)).visit else none) (x127 x128 x129) (b:List zb) (y:List (Nat->Ref)) (x132) (hb:b.length<=50000000) (hy:y.length<=50000000) (h15:0<=x115/\x115<=100000000) (hT:n<=100000000) :
  z1a φ k T (n:Int) x115 x116 x117 x118 x119 x120 (n:Int) x122 x123 (x115+1) x125 e x127 x128 x129 b y x132 =
   k T x116 x117 x118 x119 x120 ((n+1:Nat):Int) x122 x123 (x115+1) x125 x127 x128 x129 (b++trB (tvl φ x122.network) x115 pr e) (y++trY pr e) x132:=by
 have hW:W ((n:Int)+1) =((n+1:Nat):Int):=by rw [W_id (by omega) (by omega)]; omega
 unfold z1a
 by_cases h:0<n
 ·obtain⟨ht,t1,t2⟩:=yg3 φ hφ x122.network (gt T ((n:Int)-1)).visit e.visit
  rw [if_pos (by simp; omega),W_id (x:=(n:Int)-1) (by omega) (by omega),z7 ⟨by omega,by omega⟩,ht,Option.bind_some,W_id (x:=x115-1) (by omega) (by omega)]
  rw [hpr,if_pos h]
  simp only [trB,trY]
  generalize tvl φ x122.network (gt T ((n:Int)-1)).visit e.visit=tt at *
  rw [W_id (x:=0-tt) (by omega) (by omega)]
  refine(yqr φ (by omega) k T x116 x117 x118 x119 x120 (n:Int) _ _ _ _ _ _ _ _ _ _ _ _ _ _ ([⟨x115,x115-1,0-tt⟩]:List zb) x122 x123 x125 _ _ b y x132 x127 x128 x129 (by simp) hb hy).trans ?_
  rw [hW]
  rfl
 ·rw [if_neg (by simp; omega),hW,hpr,if_neg h]
  simp only [trB,trY,List.append_nil]
theorem yai (hφ:800000<φ) (k) (x96 x97 x98) (T:List z6) (hE:∀ e∈T,0<=e.visit.early/\e.visit.early<=1073741824) (x102:Pool) (x103:Int) (m:List (Int×Int)) (g1 g2 g3) (hT:T.length<=2000) :
  ∀(n i N:Nat) (s:BS),T.length<n+i->i<=T.length->BB N s->N<=8300000+i->
   z0l φ k n T x96 x97 x98 T (T.length:Int) (i:Int) x102 x103 s.v m g1 g2 g3 s.b s.y s.e =
    (fun s':BS=>k x96 x97 (W (x98+1)) x102 x103 s'.v m g1 g2 g3 s'.b s'.y s'.e) (bEv (tvl φ x102.network) m (if 0<i then some (gt T ((i:Int)-1)).visit else none) (T.drop i) s):=by
 intro n
 induction n with
 | zero=>intro i N s h1 h2; exfalso; omega
 | succ n ih=>
  intro i N s h1 h2 hB hN
  obtain⟨v0,v1,b1,b2,b3⟩:=hB
  by_cases hi:i<T.length
  ·obtain⟨e0,e1⟩:=hE _ (z0y (l:=T) (i:=(i:Int)) (by omega) (by omega))
   have hWv:W (s.v+1)=s.v+1:=W_id (by omega) (by omega)
   have hWe:W (0 -(gt T (i:Int)).visit.early)=0 -(gt T (i:Int)).visit.early:=W_id (by omega) (by omega)
   have hnext:=ih (i+1) (N+1) (zcg (tvl φ x102.network) m (if 0<i then some (gt T ((i:Int)-1)).visit else none) (gt T (i:Int)) s) (by omega) (by omega) (BB.step ⟨v0,v1,b1,b2,b3⟩ _ _ _ _) (by omega)
   rw [if_pos (show 0<i+1 by omega),show ((i+1:Nat):Int)-1 =(i:Int) by omega] at hnext
   rw [y03 T i hi]
   refine Eq.trans ?_ hnext
   rw [z0l,if_pos (by simp; omega),z7 ⟨by omega,by omega⟩,z7 (z4t (by simp; omega) (by omega)),hWv,hWe]
   by_cases hr :(gt T (i:Int)).reader<0
   ·rw [if_pos (by simpa using hr)]
    refine(yql φ (by omega) (z0l φ k n) T (i:Int) s.v x96 x97 x98 T (T.length:Int) (i:Int) (s.v+1) (y1 (gt T (i:Int)).visit.ref) ([⟨0,s.v,(gt T (i:Int)).visit.early⟩,⟨s.v,0,0 -(gt T (i:Int)).visit.early⟩]:List zb) x102 x103 m (gt T (i:Int)) s.b s.y _ g1 g2 g3 (by simp) (by omega) (by omega)).trans ?_
    refine(ye9 φ hφ (z0l φ k n) T i hi s.v x96 x97 x98 T (T.length:Int) x102 x103 m (gt T (i:Int)) _ rfl g1 g2 g3 _ _ _ (by simp; omega) (by simp; omega) ⟨by omega,by omega⟩ (by omega)).trans ?_
    simp only [zcg,evB,evY,if_pos hr]
    rfl
   ·rw [if_neg (by simpa using hr)]
    refine(yot φ (by omega) (z0l φ k n) T (i:Int) s.v x96 x97 x98 T (T.length:Int) (i:Int) (s.v+1) (y1 (gt T (i:Int)).visit.ref) ([⟨rv m (gt T (i:Int)),s.v,(gt T (i:Int)).visit.early⟩,⟨s.v,rv m (gt T (i:Int)),0 -(gt T (i:Int)).visit.early⟩,⟨0,s.v,1073741824⟩,⟨s.v,0,0⟩]:List zb) x102 x103 m (gt T (i:Int)) s.b s.y _ g1 g2 g3 (by simp) (by omega) (by omega)).trans ?_
    refine(ye9 φ hφ (z0l φ k n) T i hi s.v x96 x97 x98 T (T.length:Int) x102 x103 m (gt T (i:Int)) _ rfl g1 g2 g3 _ _ _ (by simp; omega) (by simp; omega) ⟨by omega,by omega⟩ (by omega)).trans ?_
    simp only [zcg,evB,evY,if_neg hr]
    rfl
  ·have:i=T.length:=by omega
   subst this
   rw [z0l,if_neg (by simp),List.drop_length]
   rfl
theorem y6f (hφ:800000<φ) (ts:List (List z6)) (hE:∀ T∈ts,T.length<=2000/\∀ e∈T,0<=e.visit.early/\e.visit.early<=1073741824) (hts:ts.length<=4096) (x84:Pool) (x85:Int) (m:List (Int×Int)) (g1 g2 g3) (s:BS) (hs:BB 0 s) :
  z2o φ φ ts (ts.length:Int) 0 x84 x85 s.v m g1 g2 g3 s.b s.y s.e=some (bEnd (ts.foldl (fun s t=>bEv (tvl φ x84.network) m none t s) s)):=by
 refine zi (fun n i (s:BS)=>z2o φ n ts (ts.length:Int) i x84 x85 s.v m g1 g2 g3 s.b s.y s.e) ts.length (fun i s'=>BB (2000*i) s'/\s' =(ts.take i).foldl (fun s t=>bEv (tvl φ x84.network) m none t s) s) (fun o=>o=some (bEnd (ts.foldl (fun s t=>bEv (tvl φ x84.network) m none t s) s))) ?_ ?_ φ s ⟨hs,rfl⟩ (by omega)
 ·intro n i s' hi ⟨h1,h2⟩ hk
  obtain⟨q1,q2⟩:=hE _ (z0y (l:=ts) (i:=(i:Int)) (by omega) (by omega))
  rw [z2o,if_pos (by simp; omega),z7 ⟨by omega,by omega⟩]
  have:=yai φ hφ (z2o φ n) ts (ts.length:Int) (i:Int) (gt ts (i:Int)) q2 x84 x85 m g1 g2 g3 q1 φ 0 (2000*i) s' (by omega) (by omega) h1 (by omega)
  refine this.trans ?_
  simp only [W_id (x:=(i:Int)+1) (by omega) (by omega),List.drop_zero]
  rw [if_neg (by omega)]
  refine hk _ ⟨?_,?_⟩
  ·have:=BB.ev (tvl φ x84.network) m (gt ts (i:Int)) (2000*i) none s' h1
   obtain⟨a,b,c,d,f⟩:=this
   exact⟨a,by omega,by omega,by omega,by omega⟩
  ·rw [z09 ts i hi,List.foldl_append,<- h2]; rfl
 ·intro n s' ⟨h1,h2⟩
  rw [List.take_length] at h2
  rw [z2o,if_neg (by simp),<- h2]
  unfold bEnd
  by_cases h:512<s'.v\/4096<s'.b.length
  ·rw [if_pos (by simp; omega),if_pos h]
  ·rw [if_neg (by simp; omega),if_neg h]
theorem y0w (hφ:800000<φ) (ts:List (List z6)) (hE:∀ T∈ts,T.length<=2000/\∀ e∈T,0<=e.visit.early/\e.visit.early<=1073741824) (hts:ts.length<=4096) (p:Pool) (hp:p.readers.length<=256) (hr:∀ r∈p.readers,-1000<=r.low/\r.low<=1000) (x43:Int) (m:List (Int×Int)) (g1 g2) :
  z1x φ φ ts p.readers (p.readers.length:Int) 0 p x43 1 m g1 g2 [] [] [] []=some (bEnd (ts.foldl (fun s t=>bEv (tvl φ p.network) (rdsN p.readers m p.readers.length).m none t s) ⟨(rdsN p.readers m p.readers.length).v,(rdsN p.readers m p.readers.length).b,(rdsN p.readers m p.readers.length).y,[]⟩)):=by
 refine zi (fun n i (s:RS)=>z1x φ n ts p.readers (p.readers.length:Int) i p x43 s.v s.m g1 g2 [] s.b s.y []) p.readers.length (fun i s=>s=rdsN p.readers m i) (fun o=>o=_) ?_ ?_ φ ⟨1,m,[],[]⟩ rfl (by omega)
 ·intro n i s hi hs hk
  obtain⟨a1,a2,a3,a4⟩:=z7o p.readers m i
  rw [<- hs] at a1 a2 a3 a4
  obtain⟨r1,r2⟩:=hr _ (z0y (l:=p.readers) (i:=(i:Int)) (by omega) (by omega))
  have hk':=hk (rdsN p.readers m (i+1)) rfl
  simp only [rdsN,zh0] at hk'
  rw [<- hs] at hk'
  have hW:W ((i:Int)+1) =(i:Int)+1:=W_id (by omega) (by omega)
  rw [z1x,if_pos (by simp; omega),z7 ⟨by omega,by omega⟩]
  by_cases h :(mget s.m (i:Int)).isSome=true
  ·rw [if_pos h] at hk' ⊢
   have hWl:W (0 -(gt p.readers (i:Int)).low)=0 -(gt p.readers (i:Int)).low:=W_id (by omega) (by omega)
   rw [hWl]
   refine(yrp φ (by omega) (z1x φ n) ts p.readers (p.readers.length:Int) (i:Int) _ _ _ _ _ _ _ _ _ _ ([⟨0,s.v,0 -(gt p.readers (i:Int)).low⟩,⟨s.v,0,(gt p.readers (i:Int)).high⟩]:List zb) p x43 (mset s.m (i:Int) s.v) _ s.b s.y [] g1 g2 [] (by simp) (by omega) (by omega)).trans ?_
   rw [hW,W_id (x:=s.v+1) (by omega) (by omega)]
   exact hk'
  ·rw [if_neg h] at hk' ⊢
   rw [hW]
   exact hk'
 ·intro n s hs
  rw [z1x,if_neg (by simp),<- hs]
  obtain⟨a1,a2,a3,a4⟩:=z7o p.readers m p.readers.length
  rw [<- hs] at a1 a2 a3 a4
  exact y6f φ hφ ts hE hts p x43 s.m g1 g2 [] ⟨s.v,s.b,s.y,[]⟩ ⟨a1,by show s.v<=_; omega,by show s.b.length<=_; omega,by show s.y.length<=_; omega,by simp⟩
theorem yci (k) (x20 x21 x22 x23) (T:List z6) (hT:T.length<=2000) (hφ:800000<φ) (x27 x28 x29 x30 x31 x32 x33 x34 x35 x36) :
  z2k φ k φ x20 x21 x22 x23 T (T.length:Int) 0 x27 x28 x29 x30 x31 x32 x33 x34 x35 x36=k x20 x21 x22 (W (x23+1)) x27 x28 x29 (zql x30 T) x31 x32 x33 x34 x35 x36:=by
 refine zi (fun n i (m:List (Int×Int))=>z2k φ k n x20 x21 x22 x23 T (T.length:Int) i x27 x28 x29 m x31 x32 x33 x34 x35 x36) T.length (fun i m=>m=zql x30 (T.take i)) (fun o=>o=_) ?_ ?_ φ x30 rfl (by omega)
 ·intro n i m hi hm hk
  have hk':=hk (zql x30 (T.take (i+1))) rfl
  rw [z09 T i hi] at hk'
  simp only [zql,List.foldl_append,List.foldl_cons,List.foldl_nil] at hk' hm
  rw [<- hm] at hk'
  rw [z2k,if_pos (by simp; omega),z7 ⟨by omega,by omega⟩,W_id (by omega) (by omega)]
  unfold zxa at hk'
  by_cases h:0<=(gt T (i:Int)).reader
  ·rw [if_pos h] at hk'
   rw [if_pos (by simpa using h)]
   exact hk'
  ·rw [if_neg h] at hk'
   rw [if_neg (by simpa using h)]
   exact hk'
 ·intro n m hm
  rw [List.take_length] at hm
  rw [z2k,if_neg (by simp),hm]
theorem yfg {p:Pool} {r:z8} (h:y4k p r.item) {i:Int} {x:z6} (hx:x∈evs p r i):0<=x.visit.early/\x.visit.early<=1073741824:=by
 have hf:=h.from_
 have ht:=h.to
 unfold evs at hx
 split at hx
 ·simp only [List.mem_singleton] at hx; subst hx
  simp only [z3c]; omega
 ·split at hx
  ·simp only [List.mem_cons,List.not_mem_nil,or_false] at hx
   rcases hx with rfl | rfl <;> simp only [z3c] <;> omega
  ·split at hx
   ·simp only [List.mem_singleton] at hx; subst hx
    simp only [z3c]; omega
   ·cases hx
theorem y4s:∀ {t:List z6} {m:List (Int×Bool)} {x:z6},x∈zgs t m->∃ y∈t,∃ b,x=za7 y b
 | [],m,x,h=>by cases h
 | e::t,m,x,h=>by
  rcases List.mem_cons.1 h with rfl | h
  ·exact⟨e,List.mem_cons_self,_,rfl⟩
  ·obtain⟨y,hy,b,hb⟩:=y4s h
   exact⟨y,List.mem_cons_of_mem _ hy,b,hb⟩
theorem zbo {p:Pool} {l:List z8} {w:Int} {x:z6} (h:x∈z10 p l w):∃ y∈uns p l w,∃ b,x=za7 y b:=by
 obtain⟨y,hy,b,hb⟩:=y4s h
 exact⟨y,(z0v _ _).mem_iff.1 hy,b,hb⟩
theorem zut {p:Pool} (hc:zl p=0) {l:List z8} (hl:FewL l) {w:Int} {x:z6} (h:x∈z10 p l w):0<=x.visit.early/\x.visit.early<=1073741824:=by
 obtain⟨y,hy,b,rfl⟩:=zbo h
 obtain⟨h1,h2,_,h3,h4⟩:=zja hl.len hy
 show 0<=y.visit.early/\y.visit.early<=1073741824
 exact yfg (zbu hc (hl.gt h1 h2) h3) h4
theorem zyi (hφ:800000<φ) (p:Pool) {l:List z8} (hl:FewL l) :
  zeo φ p l=some (if zl p=0 then bEnd (bAll (tvl φ p.network) p.readers (zd p l)) else(⟨0,[],[],[]⟩,zl p,())):=by
 unfold zeo
 rw [zf4 φ hφ,Option.bind_some]
 by_cases hc:zl p=0
 case neg=>rw [if_pos (by simpa using hc),if_neg hc]
 rw [if_neg (by simp [hc]),if_pos hc,ye8 φ hφ hc hl,Option.bind_some]
 obtain⟨_,hf,hr1,_⟩:=z68 hc
 obtain⟨_,f2,_⟩:=z6t hf
 have hrd:=(zm9 hc).1
 show z2p φ φ (zd p l) (zd p l) ((zd p l).length:Int) 0 p 0 1 [] [] [] [] [] [] []=_
 have hlen :(zd p l).length<=4096:=by unfold zd; simp; omega
 have hE:∀ T∈zd p l,T.length<=2000/\∀ e∈T,0<=e.visit.early/\e.visit.early<=1073741824:=by
  intro T hT
  unfold zd at hT
  obtain⟨w,_,rfl⟩:=List.mem_map.1 hT
  exact⟨zli hl.len _,fun e he=>zut hc hl he⟩
 generalize zd p l=ts at *
 refine zi (fun n i (m:List (Int×Int))=>z2p φ n ts ts (ts.length:Int) i p 0 1 m [] [] [] [] [] []) ts.length (fun i m=>m =(ts.take i).foldl zql []) (fun o=>o=some (bEnd (bAll (tvl φ p.network) p.readers ts))) ?_ ?_ φ [] rfl (by omega)
 ·intro n i m hi hm hk
  rw [z2p,if_pos (by simp; omega),z7 ⟨by omega,by omega⟩]
  rw [yci φ (z2p φ n) ts ts (ts.length:Int) (i:Int) (gt ts (i:Int)) (hE _ (z0y (by omega) (by omega))).1 hφ,W_id (by omega) (by omega)]
  exact hk _ (by rw [z09 ts i hi,List.foldl_append,<- hm]; rfl)
 ·intro n m hm
  rw [List.take_length] at hm
  rw [z2p,if_neg (by simp)]
  refine(y0w φ hφ ts hE hlen p hr1 (fun r hr=>?_) 0 m [] []).trans ?_
  ·have:=hrd r hr; omega
  ·rw [hm]; rfl
end
end Px
end
section
namespace Px
open Go
def idx:List z8->Ref->Int
 | [],_=>0
 | r::l,q=>if r.ref.railway=q.railway/\r.ref.no=q.no then 0 else idx l q+1
def yga (x:z6) (i:Int):z6:=⟨x.visit,i,x.second,x.stay,x.reader⟩
def ren (κ:Int->Int) (x:z6):z6:=yga x (κ x.report)
theorem zwp (p:Pool) (r:z8) (i:Int):evs p r i =(evs p r 0).map fun x=>yga x i:=by
 unfold evs
 split
 ·rfl
 ·split
  ·rfl
  ·split <;> rfl
theorem znp:Sort.SWO ltEv where
 irrefl:=fun x=>by
  unfold ltEv
  simp only [decide_eq_false_iff_not]
  rw [zdw]; omega
 trans:=fun x y z h1 h2=>by
  unfold ltEv at *
  simp only [decide_eq_true_eq] at *
  rw [zdw] at *
  omega
 ntrans:=fun x y z h1 h2=>by
  unfold ltEv at *
  simp only [decide_eq_false_iff_not] at *
  rw [zdw] at *
  omega
end Px
end
section
namespace Px
open Go
def evE (v:Int) (e:z6):z0o:=⟨e.visit.wagon,e.visit.place,v,e.visit.ref,e.visit.stay⟩
def evsE:Int->List z6->List z0o
 | _,[]=>[]
 | v,e::t=>evE v e::evsE (v+1) t
def bnds (tv:z19->z19->Int) (m:List (Int×Int)):Option z19->Int->List z6->List zb
 | _,_,[]=>[]
 | pr,v,e::t=>evB m v e++trB tv v pr e++bnds tv m (some e.visit) (v+1) t
theorem y9s (tv m):∀(t:List z6) (pr) (s:BS),(bEv tv m pr t s).v=s.v+t.length
 | [],pr,s=>by simp [bEv]
 | e::t,pr,s=>by
  rw [bEv,y9s tv m t]
  simp only [zcg,List.length_cons]; omega
theorem yk4 (tv m):∀(t:List z6) (pr) (s:BS),(bEv tv m pr t s).b=s.b++bnds tv m pr s.v t
 | [],pr,s=>by simp [bEv,bnds]
 | e::t,pr,s=>by
  rw [bEv,yk4 tv m t]
  simp only [zcg,bnds,List.append_assoc]
theorem yas (tv m):∀(t:List z6) (pr) (s:BS),(bEv tv m pr t s).e=s.e++evsE s.v t
 | [],pr,s=>by simp [bEv,evsE]
 | e::t,pr,s=>by
  rw [bEv,yas tv m t]
  simp only [zcg,evsE,evE,List.append_assoc,List.cons_append,List.nil_append]
theorem y8e:∀(t:List z6) (v:Int),(evsE v t).length=t.length
 | [],v=>rfl
 | e::t,v=>by simp [evsE,y8e t]
theorem yfi:∀(t:List z6) (v:Int) (i:Nat),(evsE v t)[i]? =(t[i]?).map (evE (v+i))
 | [],v,i=>by simp [evsE]
 | e::t,v,0=>by simp [evsE]
 | e::t,v,i+1=>by
  simp only [evsE,List.getElem?_cons_succ]
  rw [yfi t (v+1) i]
  congr 2; omega
theorem y6w (tv m):∀(t:List z6) (pr) (v:Int) (i:Nat) (e:z6),t[i]? = some e->∀ b∈evB m (v+i) e,b∈bnds tv m pr v t
 | [],pr,v,i,e,h,b,hb=>by simp at h
 | x::t,pr,v,0,e,h,b,hb=>by
  simp at h; subst h
  rw [show v +((0:Nat):Int)=v by omega] at hb
  simp only [bnds]
  exact List.mem_append_left _ (List.mem_append_left _ hb)
 | x::t,pr,v,i+1,e,h,b,hb=>by
  simp only [bnds]
  refine List.mem_append_right _ (y6w tv m t _ (v+1) i e (by simpa using h) b ?_)
  rw [show v+1 +(i:Int)=v +((i+1:Nat):Int) by omega]; exact hb
theorem yf6 (tv m):∀(t:List z6) (pr) (v:Int) (i:Nat) (a e:z6),t[i]? = some a->t[i+1]? = some e->(⟨v+i+1,v+i,0-tv a.visit e.visit⟩:zb)∈bnds tv m pr v t
 | [],pr,v,i,a,e,h,_=>by simp at h
 | [x],pr,v,0,a,e,h,h2=>by simp at h2
 | x::y::t,pr,v,0,a,e,h,h2=>by
  simp at h h2; subst h; subst h2
  simp only [bnds,trB]
  refine List.mem_append_right _ (List.mem_append_left _ (List.mem_append_right _ (List.mem_singleton.2 ?_)))
  simp
 | x::t,pr,v,i+1,a,e,h,h2=>by
  have:=yf6 tv m t (some x.visit) (v+1) i a e (by simpa using h) (by simpa using h2)
  simp only [bnds]
  refine List.mem_append_right _ ?_
  rw [show v +((i+1:Nat):Int)+1=v+1 +(i:Int)+1 by omega,show v +((i+1:Nat):Int)=v+1 +(i:Int) by omega]
  exact this
theorem zwj (tv m):∀(t:List z6) (pr) (v:Int) (b:zb),b∈bnds tv m pr v t->∃ i:Nat,∃ e:z6,t[i]? = some e/\(b∈evB m (v+i) e\/∃ a:z19,(0<i\/pr.isSome=true)/\b =⟨v+i,v+i-1,0-tv a e.visit⟩)
 | [],pr,v,b,h=>by simp [bnds] at h
 | x::t,pr,v,b,h=>by
  simp only [bnds,List.mem_append] at h
  rcases h with(h | h) | h
  ·exact⟨0,x,rfl,.inl (by rw [show v +((0:Nat):Int)=v by omega]; exact h)⟩
  ·cases pr with
   | none=>simp [trB] at h
   | some a=>
    simp only [trB,List.mem_singleton] at h
    exact⟨0,x,rfl,.inr ⟨a,.inr rfl,by rw [h]; simp⟩⟩
  ·obtain⟨i,e,hi,hb⟩:=zwj tv m t _ _ b h
   refine⟨i+1,e,by simpa using hi,?_⟩
   rw [show v +((i+1:Nat):Int)=v+1 +(i:Int) by omega]
   rcases hb with hb |⟨a,_,hb⟩
   ·exact .inl hb
   ·exact .inr ⟨a,.inl (by omega),hb⟩
def fB (tv:z19->z19->Int) (m:List (Int×Int)) (ts:List (List z6)) (s:BS):BS:=ts.foldl (fun s t=>bEv tv m none t s) s
theorem yps (tv m) (A B:List (List z6)) (s:BS):fB tv m (A++B) s=fB tv m B (fB tv m A s):=List.foldl_append ..
theorem zmz (tv m):∀(ts:List (List z6)) (s:BS),s.v<=(fB tv m ts s).v/\(∃ b,(fB tv m ts s).b=s.b++b)/\∃ e,(fB tv m ts s).e=s.e++e
 | [],s=>⟨Int.le_refl _,⟨[],by simp [fB]⟩,[],by simp [fB]⟩
 | t::ts,s=>by
  obtain⟨h1,⟨b,h2⟩,e,h3⟩:=zmz tv m ts (bEv tv m none t s)
  have e1:fB tv m (t::ts) s=fB tv m ts (bEv tv m none t s):=rfl
  rw [e1]
  rw [y9s] at h1
  rw [yk4] at h2
  rw [yas] at h3
  exact⟨by omega,⟨_,by rw [h2,List.append_assoc]⟩,_,by rw [h3,List.append_assoc]⟩
theorem zy2 (tv m) (A B:List (List z6)) (t:List z6) (s:BS):s.v<=(fB tv m A s).v/\(fB tv m A s).v+t.length<=(fB tv m (A++t::B) s).v/\
  (∀ b∈bnds tv m none (fB tv m A s).v t,b∈(fB tv m (A++t::B) s).b)/\∃ e,(fB tv m (A++t::B) s).e =(fB tv m A s).e++(evsE (fB tv m A s).v t++e):=by
 have e1:fB tv m (A++t::B) s=fB tv m B (bEv tv m none t (fB tv m A s)):=by rw [yps]; rfl
 obtain⟨h1,⟨b,h2⟩,e,h3⟩:=zmz tv m B (bEv tv m none t (fB tv m A s))
 rw [e1]
 rw [y9s] at h1
 rw [yk4] at h2
 rw [yas] at h3
 refine⟨(zmz tv m A s).1,h1,fun x hx=>?_,e,by rw [h3,List.append_assoc]⟩
 rw [h2]
 exact List.mem_append_left _ (List.mem_append_right _ hx)
theorem yfx (tv m):∀(ts:List (List z6)) (s:BS) (b:zb),b∈(fB tv m ts s).b->b∈s.b\/∃ A t B,ts=A++t::B/\b∈bnds tv m none (fB tv m A s).v t
 | [],s,b,h=>.inl h
 | t::ts,s,b,h=>by
  have e1:fB tv m (t::ts) s=fB tv m ts (bEv tv m none t s):=rfl
  rw [e1] at h
  rcases yfx tv m ts _ b h with h2 |⟨A,t',B,e2,h2⟩
  ·rw [yk4] at h2
   rcases List.mem_append.1 h2 with h2 | h2
   ·exact .inl h2
   ·exact .inr ⟨[],t,ts,rfl,h2⟩
  ·exact .inr ⟨t::A,t',B,by rw [e2]; rfl,h2⟩
theorem ybz (tv m):∀(ts:List (List z6)) (s:BS) (x:z0o),x∈(fB tv m ts s).e->x∈s.e\/∃ A t B,ts=A++t::B/\x∈evsE (fB tv m A s).v t
 | [],s,b,h=>.inl h
 | t::ts,s,b,h=>by
  have e1:fB tv m (t::ts) s=fB tv m ts (bEv tv m none t s):=rfl
  rw [e1] at h
  rcases ybz tv m ts _ b h with h2 |⟨A,t',B,e2,h2⟩
  ·rw [yas] at h2
   rcases List.mem_append.1 h2 with h2 | h2
   ·exact .inl h2
   ·exact .inr ⟨[],t,ts,rfl,h2⟩
  ·exact .inr ⟨t::A,t',B,by rw [e2]; rfl,h2⟩
theorem zm6 (rs:List z15) (m:List (Int×Int)):∀ n:Nat,(∀ i:Nat,i<n->(mget m (i:Int)).isSome=true->∃ v,mget (rdsN rs m n).m (i:Int)=some v/\1<=v/\v <(rdsN rs m n).v)/\∀ k:Int,(n:Int)<=k->mget (rdsN rs m n).m k=mget m k
 | 0=>⟨fun i h=>by omega,fun k _=>rfl⟩
 | n+1=>by
  obtain⟨h1,h2⟩:=zm6 rs m n
  have hv:=(z7o rs m n).1
  have h3:=h2 (n:Int) (Int.le_refl _)
  simp only [rdsN,zh0]
  split
  ·rename_i hs
   refine⟨fun i hi hm=>?_,fun k hk=>?_⟩
   ·simp only [z8r]
    by_cases e:i=n
    ·subst e; exact⟨_,if_pos rfl,hv,by omega⟩
    ·obtain⟨v,q1,q2,q3⟩:=h1 i (by omega) hm
     exact⟨v,by rw [if_neg (by omega)]; exact q1,q2,by omega⟩
   ·simp only [z8r]
    rw [if_neg (by omega)]; exact h2 k (by omega)
  ·rename_i hs
   refine⟨fun i hi hm=>?_,fun k hk=>h2 k (by omega)⟩
   by_cases e:i=n
   ·subst e; rw [h3] at hs; exact absurd hm hs
   ·exact h1 i (by omega) hm
theorem ya1 {m:List (Int×Int)} {e:z6} {k:Int} (h :(mget m k).isSome=true) :(mget (zxa m e) k).isSome=true:=by
 unfold zxa
 split
 ·rw [z8r]; split
  ·rfl
  ·exact h
 ·exact h
theorem zpx:∀(t:List z6) {m:List (Int×Int)} {k:Int},(mget m k).isSome=true->(mget (zql m t) k).isSome=true
 | [],m,k,h=>h
 | e::t,m,k,h=>zpx t (ya1 h)
theorem y3o:∀(t:List z6) (m:List (Int×Int)) (e:z6),e∈t->0<=e.reader->(mget (zql m t) e.reader).isSome=true
 | x::t,m,e,he,h=>by
  rcases List.mem_cons.1 he with rfl | he
  ·refine zpx t (m:=zxa m e) ?_
   unfold zxa
   rw [if_pos h,z8r,if_pos rfl]; rfl
  ·exact y3o t _ e he h
theorem yfu (ts:List (List z6)) {k:Int} : ∀ {m:List (Int×Int)},(mget m k).isSome=true->(mget (ts.foldl zql m) k).isSome=true:=by
 induction ts with
 | nil=>intro m h; exact h
 | cons t ts ih=>intro m h; rw [List.foldl_cons]; exact ih (zpx t h)
theorem zrv (ts:List (List z6)):∀(m:List (Int×Int)) (t:List z6) (e:z6),t∈ts->e∈t->0<=e.reader->(mget (ts.foldl zql m) e.reader).isSome=true:=by
 induction ts with
 | nil=>intro m t e ht; cases ht
 | cons x ts ih=>
  intro m t e ht he h
  rw [List.foldl_cons]
  rcases List.mem_cons.1 ht with e1 | ht
  ·subst e1
   exact yfu ts (y3o t m e he h)
  ·exact ih _ t e ht he h
structure TsOK (rs:List z15) (ts:List (List z6)):Prop where
 early:∀ t∈ts,∀ e∈t,0<=e.visit.early/\e.visit.early<=1073741824
 reader:∀ t∈ts,∀ e∈t,e.reader <(rs.length:Int)
 rs:∀ r∈rs,-1000<=r.low/\r.low<=r.high/\r.high<=1000
abbrev rdM (rs:List z15) (ts:List (List z6)):List (Int×Int):=(rdsN rs (used ts) rs.length).m
abbrev rd0 (rs:List z15) (ts:List (List z6)):BS:=⟨(rdsN rs (used ts) rs.length).v,(rdsN rs (used ts) rs.length).b,(rdsN rs (used ts) rs.length).y,[]⟩
theorem zqn (tv) (rs:List z15) (ts:List (List z6)):bAll tv rs ts=fB tv (rdM rs ts) ts (rd0 rs ts):=rfl
theorem yod {rs:List z15} {ts:List (List z6)} (h:TsOK rs ts) {t:List z6} (ht:t∈ts) {e:z6} (he:e∈t) (hr:0<=e.reader):mget (rdM rs ts) e.reader=some (rv (rdM rs ts) e)/\1<=rv (rdM rs ts) e/\rv (rdM rs ts) e <(rd0 rs ts).v:=by
 have h2:=h.reader t ht e he
 have:=zrv ts [] t e ht he hr
 obtain⟨v,q1,q2,q3⟩:=(zm6 rs (used ts) rs.length).1 e.reader.toNat (by omega) (by rw [show ((e.reader.toNat:Nat):Int)=e.reader by omega]; exact this)
 rw [show ((e.reader.toNat:Nat):Int)=e.reader by omega] at q1
 have e1:rv (rdM rs ts) e=v:=by unfold rv; rw [show mget (rdM rs ts) e.reader=some v from q1]; rfl
 rw [e1]
 exact⟨q1,q2,q3⟩
theorem y9j (rs:List z15) (m:List (Int×Int)):∀ n:Nat,n<=rs.length->∀ b∈(rdsN rs m n).b,∃ r∈rs,∃ v,1<=v/\v <(rdsN rs m n).v/\(b =⟨0,v,0-r.low⟩\/b =⟨v,0,r.high⟩)
 | 0,_,b,hb=>by simp [rdsN] at hb
 | n+1,hn,b,hb=>by
  have hv:=(z7o rs m n).1
  have ih:=y9j rs m n (by omega)
  simp only [rdsN,zh0] at hb ⊢
  split at hb
  ·rename_i hs
   rw [if_pos hs]
   simp only [List.mem_append,List.mem_cons,List.not_mem_nil,or_false] at hb
   rcases hb with hb | rfl | rfl
   ·obtain⟨r,hr,v,q1,q2,q3⟩:=ih b hb
    exact⟨r,hr,v,q1,by simp only; omega,q3⟩
   ·exact⟨_,z0y (l:=rs) (i:=(n:Int)) (by omega) (by omega),_,hv,by simp only; omega,.inl rfl⟩
   ·exact⟨_,z0y (l:=rs) (i:=(n:Int)) (by omega) (by omega),_,hv,by simp only; omega,.inr rfl⟩
  ·rename_i hs
   rw [if_neg hs]
   exact ih b hb
theorem yq8 {rs:List z15} {ts:List (List z6)} (h:TsOK rs ts) {t:List z6} (ht:t∈ts) {e:z6} (he:e∈t) {v:Int} (hv :(rd0 rs ts).v<=v) {n:Nat} (hn:v <(n:Int)) {b:zb} (hb:b∈evB (rdM rs ts) v e):okBd n b:=by
 have h1:=h.early t ht e he
 have h0:=(z7o rs (used ts) rs.length).1
 change 1<=(rd0 rs ts).v at h0
 unfold evB at hb
 split at hb
 ·simp only [List.mem_cons,List.not_mem_nil,or_false] at hb
  rcases hb with rfl | rfl <;> exact⟨by simp only; omega,by simp only; omega,by simp only; omega,by simp only; omega,by simp only; omega,by simp only; omega⟩
 ·rename_i hr
  obtain⟨_,q1,q2⟩:=yod h ht he (by omega)
  simp only [List.mem_cons,List.not_mem_nil,or_false] at hb
  rcases hb with rfl | rfl | rfl | rfl <;> exact⟨by simp only; omega,by simp only; omega,by simp only; omega,by simp only; omega,by simp only; omega,by simp only; omega⟩
theorem yoi {tv:z19->z19->Int} (htv:∀ a b,0<=tv a b/\tv a b<=1073741825) {rs:List z15} {ts:List (List z6)} (h:TsOK rs ts):1<=(bAll tv rs ts).v/\∀ b∈(bAll tv rs ts).b,okBd (bAll tv rs ts).v.toNat b:=by
 have h0:=(z7o rs (used ts) rs.length).1
 change 1<=(rd0 rs ts).v at h0
 rw [zqn]
 obtain⟨m1,m2,m3⟩:=zmz tv (rdM rs ts) ts (rd0 rs ts)
 refine⟨by omega,fun b hb=>?_⟩
 rcases yfx tv (rdM rs ts) ts _ b hb with hb |⟨A,t,B,rfl,hb⟩
 ·obtain⟨r,hr,v,q1,q2,q3⟩:=y9j rs (used ts) rs.length (Nat.le_refl _) b hb
  change v <(rd0 rs ts).v at q2
  have:=h.rs r hr
  rcases q3 with rfl | rfl <;> exact⟨by simp only; omega,by simp only; omega,by simp only; omega,by simp only; omega,by simp only; omega,by simp only; omega⟩
 ·obtain⟨k1,k2,k3,k4⟩:=zy2 tv (rdM rs (A++t::B)) A B t (rd0 rs (A++t::B))
  obtain⟨i,e,hi,hb⟩:=zwj tv _ t none _ b hb
  have hlt:=(List.getElem?_eq_some_iff.1 hi).1
  have hte:t∈A++t::B:=by simp
  have hee:e∈t:=List.mem_of_getElem? hi
  rcases hb with hb |⟨a,ha,rfl⟩
  ·exact yq8 h hte hee (by omega) (by omega) hb
  ·have:=htv a e.visit
   have hi0:0<i:=ha.resolve_right (by simp)
   exact⟨by simp only; omega,by simp only; omega,by simp only; omega,by simp only; omega,by simp only; omega,by simp only; omega⟩
section
variable {X:Int->Int} {m:List (Int×Int)} {v:Int} {e:z6}
theorem y5u (hX:∀ b∈evB m v e,X b.j-X b.i<=b.w) (he:0<=e.visit.early/\e.visit.early<=1073741824):0<=X v-X 0/\X v-X 0<=1073741824:=by
 unfold evB at hX
 split at hX
 ·have h1:=hX ⟨0,v,e.visit.early⟩ (by simp)
  have h2:=hX ⟨v,0,0-e.visit.early⟩ (by simp)
  simp only at h1 h2; omega
 ·have h1:=hX ⟨0,v,1073741824⟩ (by simp)
  have h2:=hX ⟨v,0,0⟩ (by simp)
  simp only at h1 h2; omega
theorem yi7 (hX:∀ b∈evB m v e,X b.j-X b.i<=b.w) (he:0<=e.reader):X v-X (rv m e)=e.visit.early:=by
 unfold evB at hX
 rw [if_neg (by omega)] at hX
 have h1:=hX ⟨rv m e,v,e.visit.early⟩ (by simp)
 have h2:=hX ⟨v,rv m e,0-e.visit.early⟩ (by simp)
 simp only at h1 h2; omega
end
theorem zqx {p:Pool} (hc:zl p=0) {l:List z8} (hl:FewL l) {w:Int} {x:z6} (h:x∈z10 p l w):x.reader <(p.readers.length:Int):=by
 obtain⟨y,hy,b,rfl⟩:=zbo h
 obtain⟨h1,h2,_,h3,h4⟩:=zja hl.len hy
 show y.reader<_
 have ho:=zbu hc (hl.gt h1 h2) h3
 unfold evs at h4
 split at h4
 ·rename_i hk
  simp only [List.mem_singleton] at h4
  rw [h4]; exact(ho.read hk).2
 ·split at h4
  ·simp only [List.mem_cons,List.not_mem_nil,or_false] at h4
   rcases h4 with q | q <;> rw [q] <;> simp only <;> omega
  ·split at h4
   ·simp only [List.mem_singleton] at h4
    rw [h4]; simp only; omega
   ·cases h4
theorem tsOK {p:Pool} (hc:zl p=0) {l:List z8} (hl:FewL l):TsOK p.readers (zd p l):=by
 refine⟨fun t ht e he=>?_,fun t ht e he=>?_,fun r hr=>?_⟩
 ·obtain⟨w,_,rfl⟩:=List.mem_map.1 ht; exact zut hc hl he
 ·obtain⟨w,_,rfl⟩:=List.mem_map.1 ht; exact zqx hc hl he
 ·have:=(zm9 hc).1 r hr; omega
end Px
end
section
namespace Px
open Go
def KU (m:List (Int×Bool)):Prop:=(m.map (·.1)).Nodup
theorem y82 {k:Int} {v:Bool} : ∀ {m:List (Int×Bool)} {q:Int×Bool},q∈mset m k v->q∈m\/q.1=k
 | [],q,h=>by simp [mset] at h; exact .inr (by rw [h])
 |(a,b)::m,q,h=>by
  simp only [mset] at h
  cases hk :(k==a) with
  | true=>
   rw [hk] at h
   rcases List.mem_cons.1 h with rfl | h
   ·exact .inr rfl
   ·exact .inl (List.mem_cons_of_mem _ h)
  | false=>
   rw [hk] at h
   rcases List.mem_cons.1 h with rfl | h
   ·exact .inl (List.mem_cons_self ..)
   ·exact(y82 h).imp (List.mem_cons_of_mem _) id
theorem KU.mset {k:Int} {v:Bool} : ∀ {m:List (Int×Bool)},KU m->KU (Px.mset m k v)
 | [],_=>by simp [Px.mset,KU]
 |(a,b)::m,h=>by
  simp only [KU,List.map_cons,List.nodup_cons] at h
  simp only [Px.mset]
  cases hk :(k==a) with
  | true=>
   have:k=a:=by simpa using hk
   subst this
   simp only [cond_true,KU,List.map_cons,List.nodup_cons]
   exact h
  | false=>
   simp only [cond_false,KU,List.map_cons,List.nodup_cons]
   refine⟨fun hm=>?_,KU.mset h.2⟩
   obtain⟨q,hq,he⟩:=List.mem_map.1 hm
   rcases y82 hq with hq | hq
   ·exact h.1 (List.mem_map.2 ⟨q,hq,he⟩)
   ·rw [hq] at he; rw [he] at hk; simp at hk
theorem KU.mdel {k:Int} : ∀ {m:List (Int×Bool)},KU m->KU (Px.mdel m k)/\∀ q∈Px.mdel m k,q∈m/\q.1≠k
 | [],h=>⟨h,fun q hq=>by cases hq⟩
 |(a,b)::m,h=>by
  have h0:=h
  simp only [KU,List.map_cons,List.nodup_cons] at h
  simp only [Px.mdel]
  cases hk :(k==a) with
  | true=>
   have:k=a:=by simpa using hk
   subst this
   refine⟨h.2,fun q hq=>⟨List.mem_cons_of_mem _ hq,fun e=>h.1 (List.mem_map.2 ⟨q,hq,e⟩)⟩⟩
  | false=>
   obtain⟨i1,i2⟩:=KU.mdel (k:=k) (m:=m) h.2
   refine⟨?_,fun q hq=>?_⟩
   ·simp only [cond_false,KU,List.map_cons,List.nodup_cons]
    refine⟨fun hm=>?_,i1⟩
    obtain⟨q,hq,he⟩:=List.mem_map.1 hm
    exact h.1 (List.mem_map.2 ⟨q,(i2 q hq).1,he⟩)
   ·rcases List.mem_cons.1 hq with rfl | hq
    ·exact⟨List.mem_cons_self ..,fun e=>by simp at hk; exact hk e.symm⟩
    ·exact⟨List.mem_cons_of_mem _ (i2 q hq).1,(i2 q hq).2⟩
def Ends (t:List z6):Prop:=∀ A e B,t=A++e::B->e.stay=true->e.second=false->∃ y∈B,y.stay=true/\y.second=true/\y.report=e.report
theorem zsq:∀(A B:List z6) (m:List (Int×Bool)),zgs (A++B) m=zgs A m++zgs B (A.foldl (fun m e=>covM e m) m)
 | [],B,m=>rfl
 | e::A,B,m=>by simp only [List.cons_append,zgs,List.foldl_cons,zsq A B]
theorem yme {p:Pool} (hc:zl p=0) {l:List z8} (hl:FewL l) {w:Int} {x:z6} (h:x∈uns p l w) (h1:x.stay=true) (h2:x.second=false):∃ y∈uns p l w,y.stay=true/\y.second=true/\y.report=x.report/\ltEv x y=true:=by
 obtain⟨a1,a2,a3,a4,a5⟩:=zja hl.len h
 have ho:=zbu hc (hl.gt a1 a2) a4
 simp only [uns,unsC,List.mem_flatMap] at h
 obtain⟨i,hi,hx⟩:=h
 split at hx
 case isFalse=>cases hx
 rename_i hw
 obtain⟨r1,r2,r3⟩:=za3 hx
 rw [r1] at ho a5
 unfold evs at a5
 split at a5
 ·simp only [List.mem_singleton] at a5; rw [a5] at h1; cases h1
 ·rename_i hk1
  split at a5
  ·rename_i hk
   simp only [List.mem_cons,List.not_mem_nil,or_false] at a5
   rcases a5 with a5 | a5
   ·refine⟨⟨z3c (gt l i) (gt l i).item.place (gt l i).item.to,i,true,true,-1⟩,?_,rfl,rfl,by rw [a5],?_⟩
    ·simp only [uns,unsC,List.mem_flatMap]
     refine⟨i,hi,?_⟩
     rw [if_pos hw,evs,if_neg hk1,if_pos hk]
     simp
    ·have:=(ho.to hk).1
     rw [a5]
     simp only [ltEv,decide_eq_true_eq,zdw,z3c,ordB]
     simp
     omega
   ·rw [a5] at h2; cases h2
  ·split at a5
   ·simp only [List.mem_singleton] at a5; rw [a5] at h1; cases h1
   ·cases a5
theorem y7o {p:Pool} (hc:zl p=0) {l:List z8} (hl:FewL l) (w:Int):Ends (srt p l w):=by
 intro A e B hs h1 h2
 have hmem:∀ x,x∈srt p l w↔x∈uns p l w:=fun x=>(z0v _ _).mem_iff
 obtain⟨y,hy,y1,y2,y3,y4⟩:=yme hc hl ((hmem e).1 (by rw [hs]; simp)) h1 h2
 have hy2:=(hmem y).2 hy
 rw [hs] at hy2
 have hpw:=z8e znp (uns p l w)
 change (srt p l w).Pairwise _ at hpw
 rw [hs,List.pairwise_append] at hpw
 rcases List.mem_append.1 hy2 with hy2 | hy2
 ·have:=hpw.2.2 y hy2 e (List.mem_cons_self ..)
  rw [this] at y4; cases y4
 ·rcases List.mem_cons.1 hy2 with rfl | hy2
  ·rw [y2] at h2; cases h2
  ·exact⟨y,hy2,y1,y2,y3⟩
theorem ymq {φ:Nat} {x:zc} {a b:z19} (h:a.stay=true) (h2:a.place≠b.place):tvl φ x a b=1073741825:=by
 unfold tvl z2s
 rw [if_pos (by simp [h,h2])]; rfl
theorem yei {α:Type} [Inhabited α] {l:List α} {i:Nat} (h:i<l.length):l[i]? = some (gt l (i:Int)):=by rw [z0x h]; exact List.getElem?_eq_getElem h
end Px
end
section
namespace Px
open Go
theorem yq2 {φ:Nat} (hφ:800000<φ) {x:zc} {a b:z19} (h:tvl φ x a b<1073741825):∃ t,zm φ x a.place b.place=some (t,0,())/\tvl φ x a b=t:=by
 unfold tvl z2s at h ⊢
 split at h
 ·simp at h
 ·rename_i hc
  rw [if_neg hc]
  obtain⟨t,e,hb,_,_⟩:=zqu φ hφ x a.place b.place
  rw [hb,Option.bind_some] at h
  rw [hb,Option.bind_some]
  split at h
  ·simp at h
  ·rename_i he
   rw [if_neg he]
   simp only [bne_iff_ne,ne_eq,Decidable.not_not] at he
   subst he
   exact⟨t,rfl,rfl⟩
theorem y4z {p:Pool} {l:List z8} (hl:FewL l) {w:Int} {x:z6} (h:x∈z10 p l w):x.visit.wagon=w:=by
 obtain⟨y,hy,b,rfl⟩:=zbo h
 exact(zja hl.len hy).2.2.1
theorem yrw {tv:z19->z19->Int} {rs:List z15} {ts:List (List z6)} {ev:z0o} (h:ev∈(bAll tv rs ts).e):∃ t∈ts,∃ x∈t,∃ v,ev=evE v x/\1<=v/\v <(bAll tv rs ts).v/\∀ b∈evB (rdM rs ts) v x,b∈(bAll tv rs ts).b:=by
 rw [zqn] at h ⊢
 have h0:=(z7o rs (used ts) rs.length).1
 change 1<=(rd0 rs ts).v at h0
 rcases ybz tv (rdM rs ts) ts _ ev h with h |⟨A,t,B,rfl,h⟩
 ·cases h
 ·obtain⟨k1,k2,k3,k4⟩:=zy2 tv (rdM rs (A++t::B)) A B t (rd0 rs (A++t::B))
  obtain⟨i,hi⟩:=List.getElem?_of_mem h
  rw [yfi] at hi
  obtain⟨x,hx,rfl⟩:=Option.map_eq_some_iff.1 hi
  have hlt:=(List.getElem?_eq_some_iff.1 hx).1
  exact⟨t,by simp,x,List.mem_of_getElem? hx,_,rfl,by omega,by omega,fun b hb=>k3 b (y6w tv _ t none _ i x hx b hb)⟩
theorem yp2 {tv:z19->z19->Int} {rs:List z15} {ts:List (List z6)} {ev:z0o} (h:ev∈(bAll tv rs ts).e):1<=ev.var/\ev.var <(bAll tv rs ts).v:=by
 obtain⟨t,ht,y,hy,v,rfl,v1,v2,hv⟩:=yrw h
 exact⟨v1,v2⟩
theorem ydy (tv m):∀(ts:List (List z6)) (s:BS),(fB tv m ts s).e.length<=s.e.length +((fB tv m ts s).v-s.v).toNat
 | [],s=>by simp [fB]
 | t::ts,s=>by
  have ih:=ydy tv m ts (bEv tv m none t s)
  have hm:=(zmz tv m ts (bEv tv m none t s)).1
  have e1:fB tv m (t::ts) s=fB tv m ts (bEv tv m none t s):=rfl
  rw [e1]
  rw [y9s] at ih hm
  rw [yas,List.length_append,y8e] at ih
  omega
theorem ydn (tv) (rs:List z15) (ts:List (List z6)) :((bAll tv rs ts).e.length:Int)<=(bAll tv rs ts).v:=by
 have h0:=(z7o rs (used ts) rs.length).1
 change 1<=(rd0 rs ts).v at h0
 have:=ydy tv (rdM rs ts) ts (rd0 rs ts)
 have hm:=(zmz tv (rdM rs ts) ts (rd0 rs ts)).1
 rw [zqn]
 simp only [rd0,List.length_nil] at this
 simp only [rd0] at hm h0 ⊢
 omega
end Px
end
section
namespace Px
open Go
def y1j (n:Int) (L:List zb):Prop:=∀ v:Int,1<=v->v<n->(∃ b∈L,b.i=0/\b.j=v)/\∃ b∈L,b.i=v/\b.j=0
theorem y1j.app {n:Int} {L M:List zb} (h:y1j n L):y1j n (L++M):=fun v h1 h2=>by
 obtain⟨⟨b,q1,q2⟩,c,q3,q4⟩:=h v h1 h2
 exact⟨⟨b,List.mem_append_left _ q1,q2⟩,c,List.mem_append_left _ q3,q4⟩
theorem y45 (rs:List z15) (m:List (Int×Int)):∀ n:Nat,y1j (rdsN rs m n).v (rdsN rs m n).b
 | 0=>fun v h1 h2=>by simp only [rdsN] at h2; omega
 | n+1=>by
  have ih:=y45 rs m n
  simp only [rdsN,zh0]
  split
  ·intro v h1 h2
   simp only at h2 ⊢
   by_cases e:v =(rdsN rs m n).v
   ·subst e
    exact⟨⟨_,List.mem_append_right _ (List.mem_cons_self ..),rfl,rfl⟩,_,List.mem_append_right _ (List.mem_cons_of_mem _ (List.mem_cons_self ..)),rfl,rfl⟩
   ·exact ih.app v h1 (by omega)
  ·exact ih
theorem yjy (m:List (Int×Int)) (v:Int) (e:z6) :(∃ b∈evB m v e,b.i=0/\b.j=v)/\∃ b∈evB m v e,b.i=v/\b.j=0:=by
 unfold evB
 split
 ·exact⟨⟨⟨0,v,e.visit.early⟩,by simp,rfl,rfl⟩,⟨v,0,0-e.visit.early⟩,by simp,rfl,rfl⟩
 ·exact⟨⟨⟨0,v,1073741824⟩,by simp,rfl,rfl⟩,⟨v,0,0⟩,by simp,rfl,rfl⟩
theorem y8o (tv m):∀(t:List z6) (pr) (s:BS),y1j s.v s.b->y1j (bEv tv m pr t s).v (bEv tv m pr t s).b
 | [],pr,s,h=>h
 | e::t,pr,s,h=>y8o tv m t _ _ (by
  intro v h1 h2
  simp only [zcg] at h2 ⊢
  by_cases q:v=s.v
  ·subst q
   obtain⟨⟨b,b1,b2⟩,c,c1,c2⟩:=yjy m s.v e
   exact⟨⟨b,List.mem_append_left _ (List.mem_append_right _ b1),b2⟩,c,List.mem_append_left _ (List.mem_append_right _ c1),c2⟩
  ·exact(h.app.app) v h1 (by omega))
theorem yd4 (tv m):∀(ts:List (List z6)) (s:BS),y1j s.v s.b->y1j (fB tv m ts s).v (fB tv m ts s).b
 | [],s,h=>h
 | t::ts,s,h=>yd4 tv m ts _ (y8o tv m t none s h)
theorem ybc (tv) (rs:List z15) (ts:List (List z6)):Conn (bAll tv rs ts).b (bAll tv rs ts).v.toNat:=by
 have h:=yd4 tv (rdM rs ts) ts (rd0 rs ts) (y45 rs (used ts) rs.length)
 rw [<- zqn] at h
 exact fun v h1 h2=>h v h1 (by omega)
def SolF (s:BS) (X:Int->Int):Prop:=∀ b∈s.b,X b.j-X b.i<=b.w
theorem y2t {s:BS} {X:Int->Int} : SolF s X↔SolD false s.b X:=by
 unfold SolF SolD bdJ bdI
 simp
theorem yos {L:List zb} {d:Int->Int} (h:SolD true L d):∀ b∈L,(- d b.j) -(- d b.i)<=b.w:=fun b hb=>by
 have:=h b hb
 simp only [bdJ,bdI,if_true] at this
 omega
structure ETs (s:BS) (E T:Int->Int):Prop where
 eS:SolF s E
 tS:SolF s T
 e0:E 0=0
 t0:T 0=0
 e:∀ X,SolF s X->∀ v,0<=v->v<s.v->E v<=X v-X 0
 t:∀ X,SolF s X->∀ v,0<=v->v<s.v->X v-X 0<=T v
theorem ypt {s:BS} (h1:1<=s.v) {d t:Int->Int} (hd:y1z true s.b s.v.toNat 0 d) (ht:y1z false s.b s.v.toNat 0 t):ETs s (fun v=>- d v) t:=by
 refine⟨yos hd.sat,y2t.2 ht.sat,by have:=hd.zero; omega,ht.zero,fun X hX v v0 v1=>?_,fun X hX v v0 v1=>ht.top X (y2t.1 hX) v v0 (by omega)⟩
 have:=hd.top (fun v=>- X v) (y7s (y2t.1 hX)) v v0 (by omega)
 omega
section
variable {φ:Nat} (hφ:800000<φ) {p:Pool} (hc:zl p=0) {l:List z8} (hl:FewL l)
theorem ycx {p:Pool} (hc:zl p=0) {r:z8} (h:y4k p r.item) {i:Int} {x:z6} (hx:x∈evs p r i):okPl p.network x.visit.place:=by
 unfold evs at hx
 split at hx
 ·rename_i hk
  simp only [List.mem_singleton] at hx; subst hx
  obtain⟨h0,h1⟩:=h.read hk
  have:=(zm9 hc).1 _ (z0y (l:=p.readers) h0 h1)
  exact⟨this.1,this.2.1⟩
 ·split at hx
  ·rename_i hk
   have:=h.place (by omega)
   simp only [List.mem_cons,List.not_mem_nil,or_false] at hx
   rcases hx with rfl | rfl <;> exact this
  ·split at hx
   ·rename_i hk
    have:=h.place (by omega)
    simp only [List.mem_singleton] at hx; subst hx
    exact this
   ·cases hx
include hc hl
theorem y70 {w:Int} {x:z6} (h:x∈z10 p l w):okPl p.network x.visit.place:=by
 obtain⟨y,hy,b,rfl⟩:=zbo h
 obtain⟨h1,h2,_,h3,h4⟩:=zja hl.len hy
 exact ycx (x:=y) hc (zbu hc (hl.gt h1 h2) h3) h4
include hφ
end
end Px
end
section
namespace Px
open Go
theorem ypp {α:Type} [Inhabited α] {a b:List α} (h:a.length=b.length) (hg:∀ i:Int,0<=i->i <(a.length:Int)->gt a i=gt b i):a=b:=by
 refine List.ext_getElem h fun i h1 h2=>?_
 have:=hg (i:Int) (by omega) (by omega)
 rw [z0x h1,z0x h2] at this
 exact this
end Px
end
section
namespace Px
open Go
abbrev bsB (φ:Nat) (p:Pool) (l:List z8):BS:=bAll (tvl φ p.network) p.readers (zd p l)
structure Good (s:BS):Prop where
 v1:1<=s.v
 v2:s.v<=512
 bl:s.b.length<=4096
 ok:∀ b∈s.b,okBd s.v.toNat b
 conn:Conn s.b s.v.toNat
 ev:∀ y∈s.e,1<=y.var/\y.var<s.v
 el :(s.e.length:Int)<=s.v
theorem ydr {φ:Nat} (hφ:800000<φ) {p:Pool} (hc:zl p=0) {l:List z8} (hl:FewL l) (hb:¬(512 <(bsB φ p l).v\/4096 <(bsB φ p l).b.length)):Good (bsB φ p l):=by
 obtain⟨h1,h2⟩:=yoi (tv:=tvl φ p.network) (fun a b=>(yg3 φ hφ p.network a b).2) (tsOK hc hl)
 exact⟨h1,by omega,by omega,h2,ybc _ _ _,fun y hy=>yp2 hy,ydn _ _ _⟩
def yrx (s:BS):List Int:=(runD false s.b s.v.toNat ⟨d0 s.v.toNat 0,true⟩).d
def yr1 (s:BS):List Int:=(runD true s.b s.v.toNat ⟨d0 s.v.toNat 0,true⟩).d
def yr2 (s:BS) (v:Int):Int:=gt (yrx s) v
def yoa (s:BS) (v:Int):Int:=- gt (yr1 s) v
theorem Good.ets {s:BS} (h:Good s) {X:Int->Int} (hX:SolF s X):ETs s (yoa s) (yr2 s):=by
 have hv:=h.v1
 have hv2:=h.v2
 have e:=zwq (r:=true) (n:=s.v.toNat) (by omega) h.ok h.conn (p:=fun v=>- X v) (y7s (y2t.1 hX)) (u:=0) (by omega) (by omega)
 have t:=zwq (r:=false) (n:=s.v.toNat) (by omega) h.ok h.conn (y2t.1 hX) (u:=0) (by omega) (by omega)
 exact ypt hv e.2 t.2
def visE (E T:Int->Int) (y:z0o):z19:=⟨y.wagon,y.place,y.ref,y.stay,E y.var,T y.var⟩
def hisL (s:BS):List z19:=s.e.map (visE (yoa s) (yoa s))
theorem Good.chk {s:BS} (h:Good s):chkD s.v s.b=0:=by
 have hv:=h.v1
 have hv2:=h.v2
 have:=ylf (n:=s.v.toNat) (by omega) (by omega) h.bl h.ok
 rwa [show ((s.v.toNat:Nat):Int)=s.v by omega] at this
theorem Good.solve {s:BS} (h:Good s) (φ:Nat) (hφ:5001<φ):zdj φ s.v s.b=some (if 0<=(low s.v.toNat s.b).z then([],230,()) else((low s.v.toNat s.b).x,0,())):=by
 rw [y8k φ hφ,h.chk,if_neg (by simp)]
def hst (φ:Nat) (p:Pool) (l:List z8):List z19×Int×Unit:=
 if zl p≠0 then([],zl p,())
 else if 512 <(bsB φ p l).v\/4096 <(bsB φ p l).b.length then([],2,())
 else if 0<=(low (bsB φ p l).v.toNat (bsB φ p l).b).z then([],230,())
 else(hisL (bsB φ p l),0,())
theorem Good.sol {s:BS} (h:Good s) :(low s.v.toNat s.b).z<0↔∃ X,SolF s X:=by
 have hv:=h.v1
 constructor
 ·exact fun hz=>⟨gt (low s.v.toNat s.b).x,fun b hb=>yn5 (by omega) h.ok hz hb⟩
 ·rintro⟨X,hX⟩
  exact ygt (by omega) h.ok X hX
end Px
end
section
namespace Px
open Go
theorem yjq (φ:Nat) (hφ:1000<φ) (p:Pool):∃ b,z9b φ p=some (b,())/\(b=true->p.network.places.length<=16/\p.network.edges.length<=40/\p.fleet.wagons.length<=8/\p.readers.length<=8):=by
 unfold z9b
 split
 ·exact⟨false,rfl,fun h=>by cases h⟩
 ·rename_i hc
  simp only [Bool.or_eq_true,decide_eq_true_eq,not_or] at hc
  obtain⟨⟨⟨⟨⟨⟨c1,c2⟩,c3⟩,c4⟩,c5⟩,c6⟩,c7⟩:=hc
  have:∃ b,z1w φ φ 0 p=some (b,()):=by
   refine zi (fun n i (_:Unit)=>z1w φ n i p) p.railways.length (fun _ _=>True) (fun o=>∃ b,o=some (b,())) ?_ ?_ φ () trivial (by omega)
   ·intro n i _ hi _ hs
    rw [z1w,if_pos (by simp; omega),z7 ⟨by omega,by omega⟩,W_id (by omega) (by omega)]
    split
    ·exact⟨false,rfl⟩
    ·exact hs () trivial
   ·intro n _ _
    rw [z1w,if_neg (by simp)]
    exact⟨true,rfl⟩
  obtain⟨b,hb⟩:=this
  exact⟨b,hb,fun _=>by omega⟩
theorem yob (φ:Nat) (hφ:1000<φ) (l:List z8) (N:Nat) (hN:N<=500):∃ b,z61 φ l N=some (b,())/\(b=true->FewL l/\l.length<=N)/\(b=true↔l.length<=N/\∀ r∈l,r.item.parts.length<=40/\r.item.text.size<=2000):=by
 unfold z61
 by_cases h60:N<l.length
 ·rw [if_pos (by simp; omega)]
  exact⟨false,rfl,(fun h=>by cases h),(fun h=>by cases h),fun h=>by omega⟩
 ·rw [if_neg (by simp; omega)]
  refine zi (fun n i (_:Unit)=>z2a φ n l i) l.length (fun i _=>∀ j:Nat,j<i->(gt l (j:Int)).item.parts.length<=40/\(gt l (j:Int)).item.text.size<=2000)
   (fun o=>∃ b,o=some (b,())/\(b=true->FewL l/\l.length<=N)/\(b=true↔l.length<=N/\∀ r∈l,r.item.parts.length<=40/\r.item.text.size<=2000)) ?_ ?_ φ () (fun j hj=>by omega) (by omega)
  ·intro n i _ hi hI hs
   rw [z2a,if_pos (by simp; omega),z7 ⟨by omega,by omega⟩,z7 (fun _=>⟨by omega,by omega⟩),W_id (by omega) (by omega)]
   split
   ·rename_i hc
    simp only [Bool.or_eq_true,decide_eq_true_eq] at hc
    refine⟨false,rfl,(fun h=>by cases h),(fun h=>by cases h),fun h=>?_⟩
    have:=h.2 _ (z0y (l:=l) (i:=(i:Int)) (by omega) (by omega))
    omega
   ·rename_i hc
    simp only [Bool.or_eq_true,decide_eq_true_eq,not_or] at hc
    refine hs () fun j hj=>?_
    by_cases e:j=i
    ·subst e; omega
    ·exact hI j (by omega)
  ·intro n _ hI
   rw [z2a,if_neg (by simp)]
   have all:∀ r∈l,r.item.parts.length<=40/\r.item.text.size<=2000:=fun r hr=>by
    obtain⟨j,hj,rfl⟩:=zgx hr
    exact hI j hj
   exact⟨true,rfl,fun _=>⟨⟨by omega,fun r hr=>by have:=all r hr; omega⟩,by omega⟩,fun _=>⟨by omega,all⟩,fun _=>rfl⟩
theorem yev (k:Nat) (x:Int):∀ n:Nat,((List.range n).map fun(w:Nat)=>if x =(w:Int) then k else 0).sum<=if x <(n:Int) then k else 0
 | 0=>by simp
 | n+1=>by
  have ih:=yev k x n
  rw [List.range_succ,List.map_append,List.sum_append]
  simp only [List.map_cons,List.map_nil,List.sum_cons,List.sum_nil,Nat.add_zero]
  by_cases h:x =(n:Int)
  ·rw [if_pos h,if_pos (by omega)]
   rw [if_neg (by omega)] at ih
   omega
  ·rw [if_neg h]
   by_cases h2:x <(n:Int)
   ·rw [if_pos h2] at ih; rw [if_pos (by omega)]; omega
   ·rw [if_neg h2] at ih; omega
theorem yc6 (f g:Nat->Nat):∀ l:List Nat,(l.map fun w=>f w+g w).sum =(l.map f).sum +(l.map g).sum
 | []=>rfl
 | a::l=>by
  have:=yc6 f g l
  simp only [List.map_cons,List.sum_cons]
  omega
theorem yek (p:Pool) (l:List z8) (n:Nat):∀ c:List Int,((List.range n).map fun(w:Nat)=>(unsC p l c (w:Int)).length).sum<=2*c.length
 | []=>by
  have:∀ l:List Nat,(l.map fun _=>0).sum=0:=fun l=>by
   induction l with
   | nil=>rfl
   | cons a l ih=>rw [List.map_cons,List.sum_cons,ih]
  have h:=this (List.range n)
  show ((List.range n).map fun(w:Nat)=>([]:List z6).length).sum<=0
  exact Nat.le_of_eq h
 | i::c=>by
  have ih:=yek p l n c
  have e:∀ w:Int,(unsC p l (i::c) w).length =(if(gt l i).item.wagon=w then(evs p (gt l i) i).length else 0) +(unsC p l c w).length:=fun w=>by
   unfold unsC
   rw [List.flatMap_cons,List.length_append]
   split <;> rfl
  simp only [e]
  rw [yc6]
  have h1:=yev (evs p (gt l i) i).length (gt l i).item.wagon n
  have h2:=zyo p (gt l i) i
  rw [List.length_cons]
  split at h1 <;> omega
theorem yhf (p:Pool) (l:List z8) :(zd p l).flatten.length<=2*l.length:=by
 rw [List.length_flatten]
 unfold zd
 rw [List.map_map]
 have h:=yek p l p.fleet.wagons.length (cnt p l)
 have h2:=zfl p l l.length
 have e :(List.length ∘ fun(w:Nat)=>z10 p l (w:Int))=fun(w:Nat)=>(unsC p l (cnt p l) (w:Int)).length:=by
  funext w
  simp only [Function.comp]
  unfold z10 srt
  rw [z6w,(z0v _ _).length_eq]
  rfl
 rw [e]
 unfold cnt at h ⊢
 omega
theorem BB.fold (tv m):∀(ts:List (List z6)) (n:Nat) (s:BS),BB n s->BB (n+ts.flatten.length) (fB tv m ts s)
 | [],n,s,h=>h
 | t::ts,n,s,h=>by
  have:=BB.fold tv m ts _ _ (BB.ev tv m t n none s h)
  rw [Nat.add_assoc] at this
  rw [List.flatten_cons,List.length_append]
  exact this
theorem ym9 (tv) {rs:List z15} (hr:rs.length<=256) (ts:List (List z6)):BB ts.flatten.length (bAll tv rs ts):=by
 obtain⟨h1,h2,h3,h4⟩:=z7o rs (used ts) rs.length
 have h0:BB 0 (rd0 rs ts):=⟨h1,by show (rdsN rs (used ts) rs.length).v<=_; omega,by show (rdsN rs (used ts) rs.length).b.length<=_; omega,by show (rdsN rs (used ts) rs.length).y.length<=_; omega,by simp⟩
 have:=BB.fold tv (rdM rs ts) ts 0 _ h0
 rw [Nat.zero_add] at this
 exact this
theorem ybr {φ:Nat} {p:Pool} (hc:zl p=0) {l:List z8} (hl:l.length<=100) :(bsB φ p l).v<=257+2*l.length/\(bsB φ p l).b.length<=512+10*l.length/\(bsB φ p l).e.length<=2*l.length/\¬(512 <(bsB φ p l).v\/4096 <(bsB φ p l).b.length):=by
 have h:BB (zd p l).flatten.length (bsB φ p l):=ym9 (tvl φ p.network) (z68 hc).2.2.1 (zd p l)
 have h2:=yhf p l
 have q1:=h.v1
 have q2:=h.b
 have q3:=h.e
 refine⟨by omega,by omega,?_,by omega⟩
 omega
theorem y7r:∀(a b:List z6) (v:Int),evsE v (a++b)=evsE v a++evsE (v+a.length) b
 | [],b,v=>by simp [evsE]
 | x::a,b,v=>by
  simp only [List.cons_append,evsE,y7r a b (v+1),List.length_cons]
  rw [show v+1 +(a.length:Int)=v +((a.length+1:Nat):Int) by omega]
theorem y5f (tv m):∀(ts:List (List z6)) (s:BS),(fB tv m ts s).e=s.e++evsE s.v ts.flatten/\(fB tv m ts s).v=s.v+ts.flatten.length
 | [],s=>by simp [fB,evsE]
 | t::ts,s=>by
  obtain⟨h1,h2⟩:=y5f tv m ts (bEv tv m none t s)
  have e:fB tv m (t::ts) s=fB tv m ts (bEv tv m none t s):=rfl
  rw [e,h1,h2,yas,y9s,List.flatten_cons,y7r,List.length_append,List.append_assoc]
  exact⟨rfl,by omega⟩
def v0E (p:Pool) (l:List z8):Int:=(rd0 p.readers (zd p l)).v
def offW (p:Pool) (l:List z8) (w:Nat):Nat:=((zd p l).take w).flatten.length
theorem zlx (p:Pool) (l:List z8) {w:Nat} (h:w<p.fleet.wagons.length) :(zd p l)[w]? = some (z10 p l (w:Int)):=by
 unfold zd
 simp [h]
theorem zi2 (p:Pool) (l:List z8) {w:Nat} (h:w<p.fleet.wagons.length):zd p l =(zd p l).take w++z10 p l (w:Int)::(zd p l).drop (w+1):=by
 have hl :(zd p l).length=p.fleet.wagons.length:=by simp [zd]
 have h2:=zlx p l h
 rw [List.getElem?_eq_getElem (by omega),Option.some.injEq] at h2
 rw [<- h2]
 simp
theorem zpn (p:Pool) (l:List z8) {w:Nat} (h:w<p.fleet.wagons.length) :(zd p l).flatten =((zd p l).take w).flatten++(z10 p l (w:Int)++((zd p l).drop (w+1)).flatten):=by
 conv=>lhs; rw [zi2 p l h]
 rw [List.flatten_append,List.flatten_cons]
theorem yka (p:Pool) (l:List z8) {w:Nat} (h:w<p.fleet.wagons.length):offW p l w +(z10 p l (w:Int)).length<=(zd p l).flatten.length:=by
 rw [zpn p l h,List.length_append,List.length_append]
 unfold offW; omega
theorem ymh (p:Pool) (l:List z8) {w:Nat} (h:w<p.fleet.wagons.length) {i:Nat} (hi:i <(z10 p l (w:Int)).length):gt (zd p l).flatten ((offW p l w+i:Nat):Int)=gt (z10 p l (w:Int)) (i:Int):=by
 have:=yka p l h
 rw [z0x (by omega),z0x hi]
 have e:∀(k:Nat) (hk:k <(zd p l).flatten.length),(zd p l).flatten[k] =(((zd p l).take w).flatten++(z10 p l (w:Int)++((zd p l).drop (w+1)).flatten))[k]'(by rw [<- zpn p l h]; exact hk):=fun k hk=>by
  congr 1; exact zpn p l h
 rw [e,List.getElem_append_right (by unfold offW; omega)]
 unfold offW
 rw [List.getElem_append_left (by omega)]
 congr 1; omega
section
variable (φ:Nat) {p:Pool} {l:List z8} (hl:FewL l) {w:Int} (w0:0<=w) (w1:w <(p.fleet.wagons.length:Int))
include hl w0 w1
end
end Px
end
section
namespace Px
open Go
theorem y8i (rs:List z15) (m:List (Int×Int)) (ρ:Int->Int) (hr:∀ i:Nat,i<rs.length->0 -(gt rs (i:Int)).high<=ρ i/\ρ i<=0 -(gt rs (i:Int)).low):∀ n:Nat,n<=rs.length->
  ∃ X:Int->Int,X 0=0/\(∀ b∈(rdsN rs m n).b,X b.j-X b.i<=b.w)/\∀ i:Nat,i<n->(mget m (i:Int)).isSome=true->∀ v,mget (rdsN rs m n).m (i:Int)=some v->X v=ρ i
 | 0,_=>⟨fun _=>0,rfl,fun b hb=>by simp [rdsN] at hb,fun i hi=>by omega⟩
 | n+1,hn=>by
  obtain⟨X,x0,x1,x2⟩:=y8i rs m ρ hr n (by omega)
  obtain⟨g1,g2⟩:=zm6 rs m n
  have hb:=y9j rs m n (by omega)
  have hv:=(z7o rs m n).1
  have h3:=g2 (n:Int) (Int.le_refl _)
  have hrn:=hr n (by omega)
  simp only [rdsN,zh0]
  split
  ·rename_i hs
   generalize hvv :(rdsN rs m n).v=vv at *
   refine⟨fun v=>if v=vv then ρ n else X v,by simp only; rw [if_neg (by omega),x0],fun b q=>?_,fun i hi hm v q=>?_⟩
   ·simp only [List.mem_append,List.mem_cons,List.not_mem_nil,or_false] at q
    rcases q with q | rfl | rfl
    ·obtain⟨r,_,v,v1,v2,v3⟩:=hb b q
     have:=x1 b q
     rcases v3 with rfl | rfl
     ·simp only at this ⊢; rw [if_neg (by omega),if_neg (by omega)]; exact this
     ·simp only at this ⊢; rw [if_neg (by omega),if_neg (by omega)]; exact this
    ·simp only; rw [if_pos trivial,if_neg (by omega),x0]; omega
    ·simp only; rw [if_pos trivial,if_neg (by omega),x0]; omega
   ·simp only [z8r] at q
    by_cases e:i=n
    ·subst e
     rw [if_pos rfl] at q
     cases q
     simp only; rw [if_pos trivial]
    ·rw [if_neg (by omega)] at q
     obtain⟨u,q1,q2,q3⟩:=g1 i (by omega) hm
     rw [q1] at q; cases q
     simp only; rw [if_neg (by omega)]
     exact x2 i (by omega) hm _ q1
  ·rename_i hs
   refine⟨X,x0,x1,fun i hi hm v q=>?_⟩
   by_cases e:i=n
   ·subst e; rw [h3] at hs; exact absurd hm hs
   ·exact x2 i (by omega) hm v q
def ChT (tv:z19->z19->Int) (f:z6->Int):Option (z19×Int)->List z6->Prop
 | _,[]=>True
 | pr,e::t=>(∀ a,pr=some a->tv a.1 e.visit<=f e-a.2)/\ChT tv f (some (e.visit,f e)) t
def EvT (f:z6->Int) (ρ:Int->Int) (e:z6):Prop:=(e.reader<0->f e=e.visit.early)/\(0<=e.reader->f e=e.visit.early+ρ e.reader/\0<=f e/\f e<=1073741824)
structure PS (m:List (Int×Int)) (ρ:Int->Int) (c:Int) (s:BS) (X:Int->Int):Prop where
 x0:X 0=0
 sol:SolF s X
 bd:∀ b∈s.b,b.i<s.v/\b.j<s.v
 v:1<=s.v
 cv:c<=s.v
theorem yc5 (tv:z19->z19->Int) (m:List (Int×Int)) (ρ:Int->Int) (f:z6->Int) (c:Int):∀(t:List z6) (pr:Option (z19×Int)) (s:BS) (X:Int->Int),PS m ρ c s X->
  (∀ e∈t,0<=e.reader->1<=rv m e/\rv m e<c/\X (rv m e)=ρ e.reader)->(∀ e∈t,EvT f ρ e)->ChT tv f pr t->(∀ a,pr=some a->X (s.v-1)=a.2/\2<=s.v)->
  ∃ X',PS m ρ c (bEv tv m (pr.map (·.1)) t s) X'/\(∀ v,v<s.v->X' v=X v)/\∀(i:Nat) e,t[i]? = some e->X' (s.v+i)=f e
 | [],pr,s,X,H,_,_,_,_=>⟨X,H,fun _ _=>rfl,fun i e h=>by simp at h⟩
 | e::t,pr,s,X,H,hr,hf,hch,hp=>by
  have he:=hf e (List.mem_cons_self ..)
  have hre:=hr e (List.mem_cons_self ..)
  have hv:=H.v
  have hcv:=H.cv
  have h0:=H.x0
  let X1:Int->Int:=fun v=>if v=s.v then f e else X v
  have hX1:∀ v,v<s.v->X1 v=X v:=fun v hv=>by show (if v=s.v then f e else X v)=_; rw [if_neg (by omega)]
  have hXv:X1 s.v=f e:=by show (if s.v=s.v then f e else X s.v)=_; rw [if_pos rfl]
  have hX0:X1 0=0:=by rw [hX1 0 (by omega)]; exact h0
  have P1:PS m ρ c (zcg tv m (pr.map (·.1)) e s) X1:=by
   have key:∀ b∈evB m s.v e++trB tv s.v (pr.map (·.1)) e,X1 b.j-X1 b.i<=b.w/\b.i<s.v+1/\b.j<s.v+1:=by
    intro b hb
    rcases List.mem_append.1 hb with hb | hb
    ·unfold evB at hb
     split at hb
     ·rename_i q
      have:=he.1 q
      simp only [List.mem_cons,List.not_mem_nil,or_false] at hb
      rcases hb with rfl | rfl
      ·simp only [hXv,hX0]; omega
      ·simp only [hXv,hX0]; omega
     ·rename_i q
      obtain⟨r1,r2,r3⟩:=hre (by omega)
      obtain⟨f1,f2,f3⟩:=he.2 (by omega)
      have hXr:X1 (rv m e)=ρ e.reader:=by rw [hX1 _ (by omega)]; exact r3
      simp only [List.mem_cons,List.not_mem_nil,or_false] at hb
      rcases hb with rfl | rfl | rfl | rfl
      ·simp only [hXv,hXr]; omega
      ·simp only [hXv,hXr]; omega
      ·simp only [hXv,hX0]; omega
      ·simp only [hXv,hX0]; omega
    ·cases pr with
     | none=>simp [trB] at hb
     | some a=>
      simp only [Option.map_some,trB,List.mem_singleton] at hb
      obtain⟨p1,p2⟩:=hp a rfl
      have:=hch.1 a rfl
      subst hb
      simp only [hXv,hX1 (s.v-1) (by omega),p1]
      omega
   refine⟨hX0,fun b hb=>?_,fun b hb=>?_,by simp only [zcg]; omega,by simp only [zcg]; omega⟩
   ·simp only [zcg,List.append_assoc] at hb
    rcases List.mem_append.1 hb with hb | hb
    ·have:=H.bd b hb
     rw [hX1 _ this.1,hX1 _ this.2]
     exact H.sol b hb
    ·exact(key b hb).1
   ·simp only [zcg,List.append_assoc] at hb ⊢
    rcases List.mem_append.1 hb with hb | hb
    ·have:=H.bd b hb; omega
    ·exact(key b hb).2
  obtain⟨X2,g1,g2,g3⟩:=yc5 tv m ρ f c t (some (e.visit,f e)) (zcg tv m (pr.map (·.1)) e s) X1 P1 (fun y hy q=>by
   obtain⟨r1,r2,r3⟩:=hr y (List.mem_cons_of_mem _ hy) q
   exact⟨r1,r2,by rw [hX1 _ (by omega)]; exact r3⟩) (fun y hy=>hf y (List.mem_cons_of_mem _ hy)) hch.2 (fun a ha=>by
   cases ha
   simp only [zcg]
   exact⟨by rw [show s.v+1-1=s.v by omega]; exact hXv,by omega⟩)
  refine⟨X2,g1,fun v hv=>?_,fun i y hy=>?_⟩
  ·rw [g2 v (by simp only [zcg]; omega)]; exact hX1 v hv
  ·cases i with
   | zero=>
    simp at hy; subst hy
    rw [show s.v +((0:Nat):Int)=s.v by omega,g2 s.v (by simp only [zcg]; omega)]
    exact hXv
   | succ i=>
    have:=g3 i y (by simpa using hy)
    simp only [zcg] at this
    rw [show s.v +((i+1:Nat):Int)=s.v+1 +(i:Int) by omega]
    exact this
theorem yl0 (tv:z19->z19->Int) (m:List (Int×Int)) (ρ:Int->Int) (f:z6->Int) (c:Int):∀(ts:List (List z6)) (s:BS) (X:Int->Int),PS m ρ c s X->
  (∀ t∈ts,∀ e∈t,0<=e.reader->1<=rv m e/\rv m e<c/\X (rv m e)=ρ e.reader)->(∀ t∈ts,∀ e∈t,EvT f ρ e)->(∀ t∈ts,ChT tv f none t)->
  ∃ X',PS m ρ c (fB tv m ts s) X'/\(∀ v,v<s.v->X' v=X v)/\∀ A t B,ts=A++t::B->∀(i:Nat) e,t[i]? = some e->X' ((fB tv m A s).v+i)=f e
 | [],s,X,H,_,_,_=>⟨X,H,fun _ _=>rfl,fun A t B h=>by cases A <;> cases h⟩
 | t::ts,s,X,H,hr,hf,hch=>by
  obtain⟨X1,g1,g2,g3⟩:=yc5 tv m ρ f c t none s X H (hr t (List.mem_cons_self ..)) (hf t (List.mem_cons_self ..)) (hch t (List.mem_cons_self ..)) (fun a ha=>by cases ha)
  have hcv:=H.cv
  obtain⟨X2,k1,k2,k3⟩:=yl0 tv m ρ f c ts (bEv tv m none t s) X1 g1 (fun u hu e he q=>by
   obtain⟨r1,r2,r3⟩:=hr u (List.mem_cons_of_mem _ hu) e he q
   exact⟨r1,r2,by rw [g2 _ (by omega)]; exact r3⟩) (fun u hu=>hf u (List.mem_cons_of_mem _ hu)) (fun u hu=>hch u (List.mem_cons_of_mem _ hu))
  have hbv :(bEv tv m none t s).v=s.v+t.length:=y9s tv m t none s
  refine⟨X2,k1,fun v hv=>?_,fun A u B hAB i e he=>?_⟩
  ·rw [k2 v (by rw [hbv]; omega)]; exact g2 v hv
  ·cases A with
   | nil=>
    simp only [List.nil_append,List.cons.injEq] at hAB
    obtain⟨rfl,rfl⟩:=hAB
    have hlt:=(List.getElem?_eq_some_iff.1 he).1
    show X2 (s.v+i)=f e
    rw [k2 _ (by rw [hbv]; omega)]
    exact g3 i e he
   | cons a A=>
    simp only [List.cons_append,List.cons.injEq] at hAB
    obtain⟨rfl,rfl⟩:=hAB
    exact k3 A u B rfl i e he
theorem yhr {tv:z19->z19->Int} {rs:List z15} {ts:List (List z6)} (hT:TsOK rs ts) {ρ:Int->Int} {f:z6->Int} (hr:∀ i:Nat,i<rs.length->0 -(gt rs (i:Int)).high<=ρ i/\ρ i<=0 -(gt rs (i:Int)).low)
  (hf:∀ t∈ts,∀ e∈t,EvT f ρ e) (hch:∀ t∈ts,ChT tv f none t):∃ X,X 0=0/\SolF (bAll tv rs ts) X/\∀ A t B,ts=A++t::B->∀(i:Nat) e,t[i]? = some e->X ((fB tv (rdM rs ts) A (rd0 rs ts)).v+i)=f e:=by
 obtain⟨X,x0,x1,x2⟩:=y8i rs (used ts) ρ hr rs.length (Nat.le_refl _)
 have h0:=(z7o rs (used ts) rs.length).1
 have hb:=y9j rs (used ts) rs.length (Nat.le_refl _)
 have P0:PS (rdM rs ts) ρ (rd0 rs ts).v (rd0 rs ts) X:=⟨x0,x1,fun b q=>by
  obtain⟨r,_,v,v1,v2,v3⟩:=hb b q
  change v <(rd0 rs ts).v at v2
  rcases v3 with rfl | rfl
  ·exact⟨by show (0:Int)<_; omega,v2⟩
  ·exact⟨v2,by show (0:Int)<_; omega⟩,h0,Int.le_refl _⟩
 obtain⟨X',g1,g2,g3⟩:=yl0 tv (rdM rs ts) ρ f _ ts (rd0 rs ts) X P0 (fun t ht e he q=>by
  obtain⟨r1,r2,r3⟩:=yod hT ht he q
  have hlt:=hT.reader t ht e he
  refine⟨r2,r3,?_⟩
  have hu:=zrv ts [] t e ht he q
  have e1 :((e.reader.toNat:Nat):Int)=e.reader:=by omega
  have:=x2 e.reader.toNat (by omega) (by rw [e1]; exact hu) _ (by rw [e1]; exact r1)
  rw [e1] at this
  exact this) hf hch
 exact⟨X',g1.x0,g1.sol,g3⟩
end Px
end
section
namespace Px
open Go
def zrq (m:List (Int×Bool)):List Int:=m.map (·.1)
theorem ydg {k:Int} {v:Bool} {c:Int} : ∀ m:List (Int×Bool),c∈zrq (mset m k v)↔c=k\/c∈zrq m:=by
 intro m
 induction m with
 | nil=>simp [mset,zrq]
 | cons q m ih=>
  obtain⟨a,b⟩:=q
  simp only [mset]
  cases hk :(k==a) with
  | true=>
   have:k=a:=by simpa using hk
   subst this
   simp [zrq]
  | false=>
   simp only [cond_false,zrq,List.map_cons,List.mem_cons] at ih ⊢
   rw [ih]
   constructor
   ·rintro(h | h | h)
    ·exact .inr (.inl h)
    ·exact .inl h
    ·exact .inr (.inr h)
   ·rintro(h | h | h)
    ·exact .inr (.inl h)
    ·exact .inl h
    ·exact .inr (.inr h)
theorem ybw {k:Int} {c:Int} : ∀ m:List (Int×Bool),KU m->(c∈zrq (mdel m k)↔c≠k/\c∈zrq m):=by
 intro m
 induction m with
 | nil=>intro _; simp [mdel,zrq]
 | cons q m ih=>
  obtain⟨a,b⟩:=q
  intro h
  simp only [KU,List.map_cons,List.nodup_cons] at h
  have ih:=ih h.2
  simp only [mdel]
  cases hk :(k==a) with
  | true=>
   have:k=a:=by simpa using hk
   subst this
   simp only [cond_true,zrq,List.map_cons,List.mem_cons]
   constructor
   ·intro hc
    exact⟨fun e=>h.1 (e ▸ hc),.inr hc⟩
   ·rintro⟨h1,h2 | h2⟩
    ·exact absurd h2 h1
    ·exact h2
  | false=>
   have hne:¬ k=a:=by simpa using hk
   simp only [cond_false,zrq,List.map_cons,List.mem_cons] at ih ⊢
   rw [ih]
   constructor
   ·rintro(h | h)
    ·exact⟨fun e=>hne (by rw [<- e,h]),.inl h⟩
    ·exact⟨h.1,.inr h.2⟩
   ·rintro⟨h1,h2 | h2⟩
    ·exact .inl h2
    ·exact .inr ⟨h1,h2⟩
def mAt (t:List z6) (n:Nat):List (Int×Bool):=(t.take n).foldl (fun m e=>covM e m) []
theorem zs1 {t:List z6} {n:Nat} (h:n<t.length):mAt t (n+1)=covM (gt t (n:Int)) (mAt t n):=by
 unfold mAt
 rw [List.take_succ_eq_append_getElem h,List.foldl_append,z0x h]
 rfl
theorem yl2 (t:List z6):∀ n,n<=t.length->KU (mAt t n)
 | 0,_=>by simp [mAt,KU]
 | n+1,h=>by
  rw [zs1 (by omega)]
  have:=yl2 t n (by omega)
  unfold covM
  split
  ·exact(KU.mdel this).1
  ·split
   ·exact KU.mset this
   ·exact this
def Mt (t:List z6) (q:Int) (j:Nat):Prop:=(gt t (j:Int)).second=true/\(gt t (j:Int)).report=q
def Beg (t:List z6) (i:Nat):Prop:=(gt t (i:Int)).stay=true/\(gt t (i:Int)).second=false
theorem y75 {t:List z6} (hs:∀ e∈t,e.second=true->e.stay=true) (q:Int):∀ n,n<=t.length->
  (q∈zrq (mAt t n)↔∃ i,i<n/\Beg t i/\(gt t (i:Int)).report=q/\∀ j,i<=j->j<n->¬ Mt t q j)
 | 0,_=>by simp [mAt,zrq]
 | n+1,h=>by
  have ih:=y75 hs q n (by omega)
  rw [zs1 (by omega)]
  have hmem:gt t (n:Int)∈t:=z0y (by omega) (by omega)
  have hse:=hs _ hmem
  unfold covM
  by_cases h2 :(gt t (n:Int)).second=true
  ·rw [if_pos (by rw [h2,hse h2]; rfl),ybw _ (yl2 t n (by omega)),ih]
   constructor
   ·rintro⟨h1,i,hi,hst,hr,hall⟩
    refine⟨i,by omega,hst,hr,fun j hj hj'=>?_⟩
    by_cases hjn:j=n
    ·subst hjn; exact fun hm=>h1 hm.2.symm
    ·exact hall j hj (by omega)
   ·rintro⟨i,hi,hst,hr,hall⟩
    have hin:i≠n:=by intro e; subst e; rw [hst.2] at h2; cases h2
    exact⟨fun e=>hall n (by omega) (by omega) ⟨h2,e.symm⟩,i,by omega,hst,hr,fun j hj hj'=>hall j hj (by omega)⟩
  ·have h2' :(gt t (n:Int)).second=false:=by simpa using h2
   have nm:∀ q,¬ Mt t q n:=fun q hm=>h2 hm.1
   have hext:∀ i,i<n->((∀ j,i<=j->j<n->¬ Mt t q j)↔∀ j,i<=j->j<n+1->¬ Mt t q j):=by
    intro i hi
    constructor
    ·intro h j hj hj'
     by_cases hjn:j=n
     ·subst hjn; exact nm q
     ·exact h j hj (by omega)
    ·intro h j hj hj'; exact h j hj (by omega)
   rw [if_neg (by rw [h2']; simp)]
   by_cases h1 :(gt t (n:Int)).stay=true
   ·rw [if_pos h1,ydg,ih]
    constructor
    ·rintro(h |⟨i,hi,hst,hr,hall⟩)
     ·exact⟨n,by omega,⟨h1,h2'⟩,h.symm,fun j hj hj'=>by rw [show j=n by omega]; exact nm q⟩
     ·exact⟨i,by omega,hst,hr,(hext i hi).1 hall⟩
    ·rintro⟨i,hi,hst,hr,hall⟩
     by_cases hin:i=n
     ·subst hin; exact .inl hr.symm
     ·exact .inr ⟨i,by omega,hst,hr,(hext i (by omega)).2 hall⟩
   ·rw [if_neg h1,ih]
    constructor
    ·rintro⟨i,hi,hst,hr,hall⟩
     exact⟨i,by omega,hst,hr,(hext i hi).1 hall⟩
    ·rintro⟨i,hi,hst,hr,hall⟩
     have hin:i≠n:=by intro e; subst e; exact h1 hst.1
     exact⟨i,by omega,hst,hr,(hext i (by omega)).2 hall⟩
def Cov (t:List z6) (n k:Nat):Prop:=∃ i,i<n/\i<=k/\Beg t i/\∀ j,i<=j->j<=k->¬ Mt t (gt t (i:Int)).report j
theorem ycc {t:List z6} (hs:∀ e∈t,e.second=true->e.stay=true) {k:Nat} (hk:k<t.length):0 <(mAt t (k+1)).length↔Cov t t.length k:=by
 constructor
 ·intro h
  obtain⟨q,hq⟩:=List.exists_mem_of_length_pos h
  obtain⟨i,hi,hst,hr,hall⟩:=(y75 hs q.1 (k+1) (by omega)).1 (List.mem_map.2 ⟨q,hq,rfl⟩)
  exact⟨i,by omega,by omega,hst,fun j hj hj'=>by rw [hr]; exact hall j hj (by omega)⟩
 ·rintro⟨i,hi,hik,hst,hall⟩
  have:=(y75 hs _ (k+1) (by omega)).2 ⟨i,by omega,hst,rfl,fun j hj hj'=>hall j hj (by omega)⟩
  obtain⟨q,hq,_⟩:=List.mem_map.1 this
  exact List.length_pos_of_mem hq
theorem yfc {t:List z6} (hE:Ends t) {i:Nat} (hi:i<t.length) (hst:Beg t i):∃ j,i<=j/\j<t.length/\Mt t (gt t (i:Int)).report j:=by
 have hsp:t=t.take i++gt t (i:Int)::t.drop (i+1):=by
  rw [z0x hi]
  simp
 obtain⟨y,hy,y1,y2,y3⟩:=hE _ _ _ hsp hst.1 hst.2
 obtain⟨m,hm,he⟩:=List.getElem_of_mem hy
 rw [List.length_drop] at hm
 refine⟨i+1+m,by omega,by omega,?_⟩
 have:gt t ((i+1+m:Nat):Int)=y:=by
  rw [z0x (by omega),<- he,List.getElem_drop]
 unfold Mt
 rw [this]
 exact⟨y2,y3⟩
theorem y9p {t:List z6} {j:Nat} (h1:j<t.length):gt (zgs t []) (j:Int)=za7 (gt t (j:Int)) (decide ((0:Int) <((mAt t (j+1)).length:Int))):=by
 have hsp:t=t.take j++gt t (j:Int)::t.drop (j+1):=by
  rw [z0x h1]
  simp
 have hg :(zgs t [])[j]? = some (za7 (gt t (j:Int)) (decide ((0:Int) <((mAt t (j+1)).length:Int)))):=by
  rw [zs1 h1]
  conv=>lhs; rw [hsp]
  rw [zsq]
  have hl :(zgs (t.take j) []).length=j:=by rw [z6w,List.length_take]; omega
  rw [List.getElem?_append_right (by omega),hl,Nat.sub_self]
  rfl
 rw [yei (by rw [z6w]; exact h1),Option.some.injEq] at hg
 exact hg
end Px
end
