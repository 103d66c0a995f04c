/- A part of the proof of custodyMatchesReference_holds. Conditions: none. -/
import Derived.Test.YtonbdachlfobnaaGreatZjf
set_option linter.unusedVariables false
set_option linter.unusedSimpArgs false
section
namespace Px
open Go
abbrev bsB (φ:Nat) (p:Pool) (l:List zd):BS:=bAll (tvl φ p.network) p.readers (zf p l)
structure Good (s:BS):Prop where
 v1:1<=s.v
 v2:s.v<=512
 bl:s.b.length<=4096
 ok:∀ b∈s.b,okBd s.v.toNat b
 conn:Conn s.b s.v.toNat
 ev:∀ y∈s.e,1<=y.var/\y.var<s.v
 el :(s.e.length:Int)<=s.v
theorem zu0 {φ:Nat} (hφ:800000<φ) {p:Pool} (hc:zt p=0) {l:List zd} (hl:FewL l) (hb:¬(512 <(bsB φ p l).v\/4096 <(bsB φ p l).b.length)):Good (bsB φ p l):=by
 obtain⟨h1,h2⟩:=yoe (tv:=tvl φ p.network) (fun a b=>(ydc φ hφ p.network a b).2) (tsOK hc hl)
 exact⟨h1,by omega,by omega,h2,ygv _ _ _,fun y hy=>yqy hy,ye7 _ _ _⟩
def zwn (s:BS):List Int:=(runD false s.b s.v.toNat ⟨d0 s.v.toNat 0,true⟩).d
def zmv (s:BS):List Int:=(runD true s.b s.v.toNat ⟨d0 s.v.toNat 0,true⟩).d
def z33 (s:BS) (v:Int):Int:=gt (zwn s) v
def z1n (s:BS) (v:Int):Int:=- gt (zmv s) v
theorem Good.ets {s:BS} (h:Good s) {X:Int->Int} (hX:SolF s X):ETs s (z1n s) (z33 s):=by
 have hv:=h.v1
 have hv2:=h.v2
 have e:=zmc (r:=true) (n:=s.v.toNat) (by omega) h.ok h.conn (p:=fun v=>- X v) (zo6 (zf6.1 hX)) (u:=0) (by omega) (by omega)
 have t:=zmc (r:=false) (n:=s.v.toNat) (by omega) h.ok h.conn (zf6.1 hX) (u:=0) (by omega) (by omega)
 exact yr1 hv e.2 t.2
theorem Good.db {s:BS} (h:Good s) (r:Bool):DB s.v.toNat 2097152 (runD r s.b s.v.toNat ⟨d0 s.v.toNat 0,true⟩):=by
 have hv:=h.v1
 have hv2:=h.v2
 exact ye5 (by omega) h.ok h.bl s.v.toNat 0 _ ((ynu (by omega) (by omega)).up (by omega)) (by omega)
theorem Good.bd {s:BS} (h:Good s) (r:Bool) {v:Int} (h0:0<=v) (h1:v<s.v):v <((runD r s.b s.v.toNat ⟨d0 s.v.toNat 0,true⟩).d.length:Int)/\-2305843009213693952<=gt (runD r s.b s.v.toNat ⟨d0 s.v.toNat 0,true⟩).d v/\gt (runD r s.b s.v.toNat ⟨d0 s.v.toNat 0,true⟩).d v<=1125899906842624:=by
 have hv:=h.v1
 have hv2:=h.v2
 have hd:=h.db r
 have hl:=hd.len
 have q1:=hd.lo v h0 (by omega)
 have q2:=hd.lt (by omega) h0 (by omega)
 unfold farN at q2
 exact⟨by omega,by omega,by omega⟩
def visE (E T:Int->Int) (y:z0h):zk:=⟨y.wagon,y.place,y.ref,y.stay,E y.var,T y.var⟩
def visL (s:BS):List zk:=s.e.map (visE (z1n s) (z33 s))
def hisL (s:BS):List zk:=s.e.map (visE (z1n s) (z1n s))
theorem yah {s:BS} (h:Good s) {y:z0h} (hy:y∈s.e):0<=y.var/\y.var <((zmv s).length:Int)/\y.var <((zwn s).length:Int)/\(⟨y.wagon,y.place,y.ref,y.stay,W (0-gt (zmv s) y.var),gt (zwn s) y.var⟩:zk)=visE (z1n s) (z33 s) y:=by
 obtain⟨h1,h2⟩:=h.ev y hy
 have b1:=h.bd true (v:=y.var) (by omega) h2
 have b2:=h.bd false (v:=y.var) (by omega) h2
 change y.var <((zmv s).length:Int)/\_<=gt (zmv s) y.var/\gt (zmv s) y.var<=_ at b1
 change y.var <((zwn s).length:Int)/\_ at b2
 refine⟨by omega,b1.1,b2.1,?_⟩
 rw [W_id (by omega) (by omega)]
 unfold visE z1n z33
 rw [show (0:Int)-gt (zmv s) y.var=- gt (zmv s) y.var by omega]
theorem ycz (φ:Nat) (hφ:800000<φ) {s:BS} (h:Good s) (x:zn):z2g φ φ (zwn s) (zmv s) s.e (s.e.length:Int) 0 x []=some (x,visL s,0,()):=by
 have hel:=h.el
 have hv2:=h.v2
 refine zr (fun f i (v:List zk)=>z2g φ f (zwn s) (zmv s) s.e (s.e.length:Int) i x v) s.e.length (fun i v=>v =(s.e.take i).map (visE (z1n s) (z33 s))) (fun o=>o=_) ?_ ?_ φ _ (by simp) (by omega)
 ·intro f i v hi hv hk
  obtain⟨s1,s2,s3,s4⟩:=yah h (z0p (l:=s.e) (i:=(i:Int)) (by omega) (by omega))
  have hlen:v.length<=1000:=by rw [hv]; simp; omega
  rw [z2g,if_pos (by simp; omega),z7 ⟨by omega,by omega⟩,z7 ⟨s1,s2⟩,z7 ⟨s1,s3⟩,z7 (zgg (by simp; omega) (by omega)),s4,W_id (x:=(i:Int)+1) (by omega) (by omega)]
  refine hk _ ?_
  rw [hv,z0b s.e i hi,List.map_append]; rfl
 ·intro f v hv
  rw [z2g,if_neg (by simp),hv,List.take_length]; rfl
def slv (φ:Nat) (p:Pool) (l:List zd):zn×List zk×Int×Unit:=
 if zt p≠0 then(⟨0,[],[],[]⟩,[],zt p,())
 else if 512 <(bsB φ p l).v\/4096 <(bsB φ p l).b.length then(⟨0,[],[],[]⟩,[],2,())
 else if 0<=(low (bsB φ p l).v.toNat (bsB φ p l).b).z then(⟨0,[],[],[]⟩,[],230,())
 else(⟨(bsB φ p l).v,(bsB φ p l).b,(bsB φ p l).y,(bsB φ p l).e⟩,visL (bsB φ p l),0,())
theorem Good.chk {s:BS} (h:Good s):chkD s.v s.b=0:=by
 have hv:=h.v1
 have hv2:=h.v2
 have:=yeb (n:=s.v.toNat) (by omega) (by omega) h.bl h.ok
 rwa [show ((s.v.toNat:Nat):Int)=s.v by omega] at this
theorem Good.solve {s:BS} (h:Good s) (φ:Nat) (hφ:5001<φ):zar φ s.v s.b=some (if 0<=(low s.v.toNat s.b).z then([],230,()) else((low s.v.toNat s.b).x,0,())):=by
 rw [y9i φ hφ,h.chk,if_neg (by simp)]
theorem Good.dist {s:BS} (h:Good s) (φ:Nat) (hφ:5001<φ) (r:Bool) (y:List (Nat->Ref)) (e:List z0h):z1p φ ⟨s.v,s.b,y,e⟩ r=some ((runD r s.b s.v.toNat ⟨d0 s.v.toNat 0,true⟩).d,()):=by
 have hv:=h.v1
 have hv2:=h.v2
 exact ynb φ hφ ⟨s.v,s.b,y,e⟩ r s.v.toNat (by simp only; omega) (by omega) (by omega) h.ok h.bl
theorem y9n (φ:Nat) (hφ:800000<φ) (p:Pool) {l:List zd} (hl:FewL l):z8t φ p l=some (slv φ p l):=by
 unfold z8t slv
 rw [zmb φ hφ p hl,Option.bind_some,show bAll (tvl φ p.network) p.readers (zf p l)=bsB φ p l from rfl]
 by_cases hc:zt p=0
 case neg=>rw [if_neg hc,if_pos hc]; simp only; rw [if_pos (by simpa using hc)]
 rw [if_pos hc,if_neg (show ¬ zt p≠0 from fun h=>h hc)]
 unfold bEnd
 by_cases hb:512 <(bsB φ p l).v\/4096 <(bsB φ p l).b.length
 ·rw [if_pos hb,if_pos hb]; simp only; rw [if_pos (by simp)]
 rw [if_neg hb,if_neg hb]
 have hG:=zu0 hφ hc hl hb
 simp only
 generalize bsB φ p l=s at *
 rw [if_neg (by simp),hG.solve φ (by omega),Option.bind_some]
 by_cases hz:0<=(low s.v.toNat s.b).z
 ·rw [if_pos hz,if_pos hz]; simp only; rw [if_pos (by simp)]
 rw [if_neg hz,if_neg hz]
 simp only
 rw [if_neg (by simp),hG.dist φ (by omega),Option.bind_some,hG.dist φ (by omega),Option.bind_some]
 exact ycz φ hφ hG _
theorem yfz (φ:Nat) (hφ:800000<φ) (p:Pool) {l:List zd} (hl:FewL l):zz φ p l=some ((slv φ p l).2.1,(slv φ p l).2.2.1,()):=by
 unfold zz
 rw [y9n φ hφ p hl,Option.bind_some]
def hst (φ:Nat) (p:Pool) (l:List zd):List zk×Int×Unit:=
 if zt p≠0 then([],zt p,())
 else if 512 <(bsB φ p l).v\/4096 <(bsB φ p l).b.length then([],2,())
 else if 0<=(low (bsB φ p l).v.toNat (bsB φ p l).b).z then([],230,())
 else(hisL (bsB φ p l),0,())
theorem yim (φ:Nat) (hφ:800000<φ) {s:BS} (h:Good s) (x:zn):z1g φ φ (zwn s) (zmv s) s.e (s.e.length:Int) 0 x []=some (hisL s,0,()):=by
 have hel:=h.el
 have hv2:=h.v2
 refine zr (fun f i (v:List zk)=>z1g φ f (zwn s) (zmv s) s.e (s.e.length:Int) i x v) s.e.length (fun i v=>v =(s.e.take i).map (visE (z1n s) (z33 s))) (fun o=>o=_) ?_ ?_ φ _ (by simp) (by omega)
 ·intro f i v hi hv hk
  obtain⟨s1,s2,s3,s4⟩:=yah h (z0p (l:=s.e) (i:=(i:Int)) (by omega) (by omega))
  have hlen:v.length<=1000:=by rw [hv]; simp; omega
  rw [z1g,if_pos (by simp; omega),z7 ⟨by omega,by omega⟩,z7 ⟨s1,s2⟩,z7 ⟨s1,s3⟩,z7 (zgg (by simp; omega) (by omega)),s4,W_id (x:=(i:Int)+1) (by omega) (by omega)]
  refine hk _ ?_
  rw [hv,z0b s.e i hi,List.map_append]; rfl
 ·intro f v hv
  rw [z1g,if_neg (by simp)]
  rw [List.take_length] at hv
  have hlen:v.length=s.e.length:=by rw [hv]; simp
  have hat:∀ i:Nat,i<s.e.length->gt v (i:Int)=visE (z1n s) (z33 s) (gt s.e (i:Int)):=fun i hi=>by
   rw [z23 (by omega),z23 hi]; simp [hv]
  refine zr (fun f i (u:List zk)=>z2a φ f 0 (v.length:Int) i u) v.length (fun i u=>u.length=v.length/\∀ j:Nat,j<v.length->gt u (j:Int)=if j<i then visE (z1n s) (z1n s) (gt s.e (j:Int)) else gt v (j:Int)) (fun o=>o=_) ?_ ?_ φ v ⟨rfl,fun j hj=>by rw [if_neg (by omega)]⟩ (by omega)
  ·intro f i u hi ⟨hu,hg⟩ hk
   rw [z2a,if_pos (by simp; omega),z7 ⟨by omega,by omega⟩,z7 ⟨by omega,by omega⟩,W_id (x:=(i:Int)+1) (by omega) (by omega)]
   refine hk _ ⟨by rw [z05]; exact hu,fun j hj=>?_⟩
   rw [zy _ _ _ _ (by omega) (by omega) (by omega),hg j hj,hg i hi,if_neg (by omega:¬ i<i)]
   by_cases e:j=i
   ·subst e
    rw [if_pos rfl,if_pos (by omega),hat j (by omega)]; rfl
   ·rw [if_neg (by omega)]
    by_cases e2:j<i
    ·rw [if_pos e2,if_pos (by omega)]
    ·rw [if_neg e2,if_neg (by omega)]
  ·intro f u ⟨hu,hg⟩
   rw [z2a,if_neg (by simp)]
   have:u=hisL s:=y9j (by rw [hu,hlen]; simp [hisL]) fun i h0 h1=>by
    have:=hg i.toNat (by omega)
    rw [if_pos (by omega),show ((i.toNat:Nat):Int)=i by omega] at this
    rw [this]
    have hi:i.toNat<s.e.length:=by omega
    have e:=z23 (l:=hisL s) (i:=i.toNat) (by simp [hisL]; omega)
    rw [show ((i.toNat:Nat):Int)=i by omega] at e
    have e2:=z23 (l:=s.e) (i:=i.toNat) hi
    rw [show ((i.toNat:Nat):Int)=i by omega] at e2
    rw [e,e2]; simp [hisL]
   rw [this]
theorem ybw (φ:Nat) (hφ:800000<φ) (p:Pool) {l:List zd} (hl:FewL l):z6u φ p l=some (hst φ p l):=by
 unfold z6u hst
 rw [zmb φ hφ p hl,Option.bind_some,show bAll (tvl φ p.network) p.readers (zf p l)=bsB φ p l from rfl]
 by_cases hc:zt p=0
 case neg=>
  rw [if_neg hc,if_pos hc]; simp only; rw [if_pos (by simpa using hc)]
  obtain⟨f,rfl⟩:∃ f,φ=f+1:=⟨φ-1,by omega⟩
  rw [z6f,if_neg (by simp)]
 rw [if_pos hc,if_neg (show ¬ zt p≠0 from fun h=>h hc)]
 unfold bEnd
 by_cases hb:512 <(bsB φ p l).v\/4096 <(bsB φ p l).b.length
 ·rw [if_pos hb,if_pos hb]; simp only; rw [if_pos (by simp)]
  obtain⟨f,rfl⟩:∃ f,φ=f+1:=⟨φ-1,by omega⟩
  rw [z6f,if_neg (by simp)]
 rw [if_neg hb,if_neg hb]
 have hG:=zu0 hφ hc hl hb
 simp only
 generalize bsB φ p l=s at *
 rw [if_neg (by simp),hG.solve φ (by omega),Option.bind_some]
 by_cases hz:0<=(low s.v.toNat s.b).z
 ·rw [if_pos hz,if_pos hz]; simp only; rw [if_pos (by simp)]
  obtain⟨f,rfl⟩:∃ f,φ=f+1:=⟨φ-1,by omega⟩
  rw [z8f,if_neg (by simp)]
 rw [if_neg hz,if_neg hz]
 simp only
 rw [if_neg (by simp),hG.dist φ (by omega),Option.bind_some,hG.dist φ (by omega),Option.bind_some]
 exact yim φ hφ hG _
theorem Good.sol {s:BS} (h:Good s) :(low s.v.toNat s.b).z<0↔∃ X,SolF s X:=by
 have hv:=h.v1
 constructor
 ·exact fun hz=>⟨gt (low s.v.toNat s.b).x,fun b hb=>ymu (by omega) h.ok hz hb⟩
 ·rintro⟨X,hX⟩
  exact yir (by omega) h.ok X hX
end Px
end
section
namespace Px
open Go
def plE (s:BS) (k:Nat):Int:=(gt s.e (k:Int)).place
def vrE (s:BS) (k:Nat):Int:=(gt s.e (k:Int)).var
def stE (s:BS) (k:Nat):Bool:=(gt s.e (k:Int)).stay
def wgE (s:BS) (k:Nat):Int:=(gt s.e (k:Int)).wagon
structure RunW (s:BS) (w:Int) (f e:Nat):Prop where
 fe:f<=e
 el:e<=s.e.length
 own:∀ k,f<=k->k<e->wgE s k=w
 lo:∀ k,k<f->wgE s k<w
 nf:f<s.e.length->w<=wgE s f
 ne:e<s.e.length->wgE s e≠w
theorem RunW.uniq {s:BS} {w:Int} {f e f' e':Nat} (h:RunW s w f e) (h':RunW s w f' e'):f=f'/\e=e':=by
 have a1:=h.fe
 have a2:=h.el
 have b1:=h'.fe
 have b2:=h'.el
 have hf:f=f':=by
  by_cases q:f<f'
  ·have:=h.nf (by omega)
   have:=h'.lo f q
   omega
  ·by_cases q':f'<f
   ·have:=h'.nf (by omega)
    have:=h.lo f' q'
    omega
   ·omega
 subst hf
 refine⟨rfl,?_⟩
 by_cases q:e<e'
 ·exact absurd (h'.own e a1 q) (h.ne (by omega))
 ·by_cases q':e'<e
  ·exact absurd (h.own e' b1 q') (h'.ne (by omega))
  ·omega
theorem zjs {s:BS} {E T:Int->Int} {k:Nat} (h:k<s.e.length):gt (s.e.map (visE E T)) (k:Int) =⟨wgE s k,plE s k,(gt s.e (k:Int)).ref,stE s k,E (vrE s k),T (vrE s k)⟩:=by
 rw [z23 (by simpa using h)]
 simp only [List.getElem_map,visE,wgE,plE,stE,vrE,z23 h]
section
variable {φ:Nat} (hφ:800000<φ) {p:Pool} (hc:zt p=0) {l:List zd} (hl:FewL l)
include hφ hc hl
theorem yg4 (hG:Good (bsB φ p l)) {X:Int->Int} (hX:SolF (bsB φ p l) X) {w:Int} {f e:Nat} (hR:RunW (bsB φ p l) w f e) :
  EvC φ p.network (bsB φ p l) (z1n (bsB φ p l)) (z33 (bsB φ p l)) (plE (bsB φ p l)) (vrE (bsB φ p l)) (stE (bsB φ p l)) f e:=by
 have hel:=hR.el
 refine⟨fun k k1 k2=>?_,hG.ets hX,fun k k1 k2=>?_⟩
 ·have:=ymx hc hl (tv:=tvl φ p.network) (ev:=gt (bsB φ p l).e (k:Int)) (z0p (l:=(bsB φ p l).e) (by omega) (by omega))
  exact⟨this.1,by unfold vrE; omega,this.2.2.1⟩
 ·have ha:=yel (l:=(bsB φ p l).e) (i:=k) (by omega)
  have hb:=yel (l:=(bsB φ p l).e) (i:=k+1) (by omega)
  have o1:=(ymx hc hl (tv:=tvl φ p.network) (ev:=gt (bsB φ p l).e (k:Int)) (z0p (l:=(bsB φ p l).e) (by omega) (by omega))).1
  have o2:=(ymx hc hl (tv:=tvl φ p.network) (ev:=gt (bsB φ p l).e ((k+1:Nat):Int)) (z0p (l:=(bsB φ p l).e) (by omega) (by omega))).1
  have hw:wgE (bsB φ p l) k=wgE (bsB φ p l) (k+1):=by rw [hR.own k k1 (by omega),hR.own (k+1) (by omega) k2]
  obtain⟨t,t1,t2,t3⟩:=yq4 hφ hc hl rfl hX ha hb hw
  have hn:=(z3m hc).1
  refine⟨t,t1,(zue hφ hn o1 o2 t1).1,fun Y hY=>?_,t3,fun hne=>yn7 hφ hn o1 o2 hne t1⟩
  obtain⟨t',u1,u2,_⟩:=yq4 hφ hc hl rfl hY ha hb hw
  rw [t1] at u1; cases u1
  exact u2
end
def zfb (φ:Nat) (p:Pool) (l:List zd) (w m:Int):Int:=
 if zt p≠0 then zt p else if w<0\/(p.fleet.wagons.length:Int)<=w\/m<0\/1073741824<m then 1 else(slv φ p l).2.2.1
theorem y5r {φ:Nat} (hφ:800000<φ) {p:Pool} (hc:zt p=0) {l:List zd} (hl:FewL l) :
  (slv φ p l =(⟨0,[],[],[]⟩,[],(slv φ p l).2.2.1,())/\(slv φ p l).2.2.1≠0)\/
  (slv φ p l =(⟨(bsB φ p l).v,(bsB φ p l).b,(bsB φ p l).y,(bsB φ p l).e⟩,visL (bsB φ p l),0,())/\Good (bsB φ p l)/\∃ X,SolF (bsB φ p l) X):=by
 unfold slv
 rw [if_neg (by simpa using hc)]
 by_cases hb:512 <(bsB φ p l).v\/4096 <(bsB φ p l).b.length
 ·rw [if_pos hb]; exact .inl ⟨rfl,by simp⟩
 rw [if_neg hb]
 have hG:=zu0 hφ hc hl hb
 by_cases hz:0<=(low (bsB φ p l).v.toNat (bsB φ p l).b).z
 ·rw [if_pos hz]; exact .inl ⟨rfl,by simp⟩
 rw [if_neg hz]
 exact .inr ⟨rfl,hG,hG.sol.1 (by omega)⟩
structure yjw (φ:Nat) (p:Pool) (l:List zd) (w m:Int):Prop where
 hc:zt p=0
 w0:0<=w
 w1:w <(p.fleet.wagons.length:Int)
 m0:0<=m
 m1:m<=1073741824
 good:Good (bsB φ p l)
 sol:∃ X,SolF (bsB φ p l) X
theorem yhr (φ:Nat) (hφ:800000<φ) (p:Pool) {l:List zd} (hl:FewL l) (w m:Int) :
  (zfb φ p l w m≠0/\∃ x v f e,zae φ p l w m=some (x,v,f,e,zfb φ p l w m,()))\/
  (zfb φ p l w m=0/\yjw φ p l w m/\∃ f e:Nat,RunW (bsB φ p l) w f e/\zae φ p l w m=some (⟨(bsB φ p l).v,(bsB φ p l).b,(bsB φ p l).y,(bsB φ p l).e⟩,visL (bsB φ p l),(f:Int),(e:Int),0,())):=by
 unfold zae zfb
 rw [z9i φ hφ,Option.bind_some]
 by_cases hc:zt p=0
 case neg=>
  simp only [if_pos (show zt p≠0 from hc)]
  rw [if_pos (show (zt p !=0)=true by simpa using hc)]
  exact .inl ⟨hc,_,_,_,_,rfl⟩
 simp only [if_neg (show ¬ zt p≠0 from fun h=>h hc)]
 rw [if_neg (show ¬(zt p !=0)=true by simpa using hc)]
 by_cases ha:w<0\/(p.fleet.wagons.length:Int)<=w\/m<0\/1073741824<m
 ·simp only [if_pos ha]
  rw [if_pos (by simp only [Bool.or_eq_true,decide_eq_true_eq]; omega)]
  exact .inl ⟨by omega,_,_,_,_,rfl⟩
 simp only [if_neg ha]
 rw [if_neg (by simp only [Bool.or_eq_true,decide_eq_true_eq]; omega),y9n φ hφ p hl,Option.bind_some]
 obtain⟨f0,rfl⟩:∃ f,φ=f+1:=⟨φ-1,by omega⟩
 rcases y5r hφ hc hl with⟨h1,h2⟩ |⟨h1,h2,h3⟩
 ·refine .inl ⟨h2,?_⟩
  generalize hq :(slv (f0+1) p l).2.2.1=q at *
  rw [h1]
  simp only
  rw [z41,z7 (by simp),if_neg (by simp),z3y,z7 (by simp),if_neg (by simp)]
  exact⟨_,_,_,_,rfl⟩
 ·refine .inr ⟨by rw [h1],⟨hc,by omega,by omega,by omega,by omega,h2,h3⟩,?_⟩
  rw [h1]
  simp only
  generalize hs:bsB (f0+1) p l=s at *
  have hel:=h2.el
  have hv2:=h2.v2
  have hvl :(visL s).length=s.e.length:=by simp [visL]
  have hat:∀ k:Nat,k<s.e.length->(gt (visL s) (k:Int)).wagon=wgE s k:=fun k hk=>by unfold visL; rw [zjs hk]
  -- the first event
  have key:∀(n i:Nat),s.e.length-i<n->i<=s.e.length->(∀ k,k<i->wgE s k<w)->∃ f:Nat,f<=s.e.length/\(∀ k,k<f->wgE s k<w)/\(f<s.e.length->w<=wgE s f)/\
    z41 (f0+1) n w (visL s) (i:Int) 0 ⟨s.v,s.b,s.y,s.e⟩=z3y (f0+1) (f0+1) w (visL s) (f:Int) (f:Int) 0 ⟨s.v,s.b,s.y,s.e⟩:=by
   intro n
   induction n with
   | zero=>intro i h; omega
   | succ n ih=>
    intro i hn hi hlo
    rw [z41,hvl]
    by_cases q:i<s.e.length
    ·rw [z7 (fun _=>⟨by omega,by omega⟩),hat i q]
     by_cases q2:wgE s i<w
     ·rw [if_pos (by simp only [Bool.and_eq_true,decide_eq_true_eq]; omega),W_id (x:=(i:Int)+1) (by omega) (by omega)]
      exact ih (i+1) (by omega) (by omega) fun k hk=>by
       by_cases e:k=i
       ·subst e; exact q2
       ·exact hlo k (by omega)
     ·rw [if_neg (by simp only [Bool.and_eq_true,decide_eq_true_eq]; omega)]
      exact⟨i,hi,hlo,fun _=>by omega,rfl⟩
    ·rw [z7 (fun h=>absurd h (by simp; omega)),if_neg (by simp only [Bool.and_eq_true,decide_eq_true_eq]; omega)]
     exact⟨i,hi,hlo,fun h=>absurd h q,rfl⟩
  obtain⟨f,g1,g2,g3,g4⟩:=key (f0+1) 0 (by omega) (by omega) (fun k hk=>by omega)
  have key2:∀(n i:Nat),s.e.length-i<n->f<=i->i<=s.e.length->(∀ k,f<=k->k<i->wgE s k=w)->∃ e:Nat,f<=e/\e<=s.e.length/\(∀ k,f<=k->k<e->wgE s k=w)/\(e<s.e.length->wgE s e≠w)/\
    z3y (f0+1) n w (visL s) (f:Int) (i:Int) 0 ⟨s.v,s.b,s.y,s.e⟩=some (⟨s.v,s.b,s.y,s.e⟩,visL s,(f:Int),(e:Int),0,()):=by
   intro n
   induction n with
   | zero=>intro i h; omega
   | succ n ih=>
    intro i hn hf hi hlo
    rw [z3y,hvl]
    by_cases q:i<s.e.length
    ·rw [z7 (fun _=>⟨by omega,by omega⟩),hat i q]
     by_cases q2:wgE s i=w
     ·rw [if_pos (by simp only [Bool.and_eq_true,decide_eq_true_eq,beq_iff_eq]; omega),W_id (x:=(i:Int)+1) (by omega) (by omega)]
      exact ih (i+1) (by omega) (by omega) (by omega) fun k hk1 hk=>by
       by_cases e:k=i
       ·subst e; exact q2
       ·exact hlo k hk1 (by omega)
     ·rw [if_neg (by simp only [Bool.and_eq_true,decide_eq_true_eq,beq_iff_eq]; omega)]
      exact⟨i,hf,hi,hlo,fun _=>q2,rfl⟩
    ·rw [z7 (fun h=>absurd h (by simp; omega)),if_neg (by simp only [Bool.and_eq_true,decide_eq_true_eq,beq_iff_eq]; omega)]
     exact⟨i,hf,hi,hlo,fun h=>absurd h q,rfl⟩
  obtain⟨e,k1,k2,k3,k4,k5⟩:=key2 (f0+1) f (by omega) (Nat.le_refl _) g1 (fun k h1 h2=>by omega)
  refine⟨f,e,⟨k1,k2,k3,g2,g3,k4⟩,?_⟩
  have g4':z41 (f0+1) (f0+1) w (visL s) 0 0 ⟨s.v,s.b,s.y,s.e⟩=_:=g4
  rw [g4',k5]
theorem yc8 (φ:Nat) (hφ:800000<φ) (p:Pool) {l:List zd} (hl:FewL l) (w m:Int) :
  ∃ a ok,zc φ p l w m=some (a,ok,zfb φ p l w m,())/\(zfb φ p l w m≠0->a=0/\ok=false)/\
   (zfb φ p l w m=0->yjw φ p l w m/\∃ f e:Nat,RunW (bsB φ p l) w f e/\
    ((ok=true/\∃ r i,yg9 (z1n (bsB φ p l)) (z33 (bsB φ p l)) (vrE (bsB φ p l)) (stE (bsB φ p l)) m f e r i/\a=plE (bsB φ p l) r)\/
     (ok=false/\a=0/\∀ r i,¬ yg9 (z1n (bsB φ p l)) (z33 (bsB φ p l)) (vrE (bsB φ p l)) (stE (bsB φ p l)) m f e r i))):=by
 unfold zc
 rcases yhr φ hφ p hl w m with⟨h1,x,v,f,e,h2⟩ |⟨h1,hA,f,e,hR,h2⟩
 ·rw [h2,Option.bind_some]
  simp only
  rw [if_pos (by simpa using h1)]
  exact⟨_,_,rfl,fun _=>⟨rfl,rfl⟩,fun h=>absurd h h1⟩
 ·rw [h2,Option.bind_some,h1]
  simp only
  rw [if_neg (by simp)]
  obtain⟨X,hX⟩:=hA.sol
  have hG:=hA.good
  have hE:=yg4 hφ hA.hc hl hG hX hR
  generalize bsB φ p l=s at *
  have hel:=hG.el
  have hv2:=hG.v2
  have r1:=hR.fe
  have r2:=hR.el
  have hvl :(visL s).length=s.e.length:=by simp [visL]
  suffices key:∀(n i run:Nat),e-i<n->f<=run->run<=i->i<=e->(∀ k,run<=k->k<i->stE s k=true)->(run=f\/stE s (run-1)=false)->(∀ r j,yg9 (z1n s) (z33 s) (vrE s) (stE s) m f e r j->i<=j)->
    ∃ a ok,z0v φ n m (visL s) (run:Int) (e:Int) (i:Int)=some (a,ok,0,())/\((ok=true/\∃ r i,yg9 (z1n s) (z33 s) (vrE s) (stE s) m f e r i/\a=plE s r)\/(ok=false/\a=0/\∀ r i,¬ yg9 (z1n s) (z33 s) (vrE s) (stE s) m f e r i)) by
   obtain⟨a,ok,k1,k2⟩:=key φ f f (by omega) (Nat.le_refl _) (Nat.le_refl _) r1 (fun k h1 h2=>by omega) (.inl rfl) (fun r j hC=>by have:=hC.cf; have:=hC.ci; omega)
   exact⟨a,ok,k1,fun h=>absurd rfl h,fun _=>⟨hA,f,e,hR,k2⟩⟩
  intro n
  induction n with
  | zero=>intro i run h; omega
  | succ n ih=>
   intro i run hn hf hr hi hst hpre hno
   rw [z0v]
   by_cases q:i<e
   ·have hvi:gt (visL s) (i:Int)=_:=zjs (E:=z1n s) (T:=z33 s) (k:=i) (by omega)
    rw [if_pos (by simp; omega),hvl,z7 ⟨by omega,by omega⟩,hvi]
    cases hs:stE s i with
    | true=>
     rw [if_pos rfl,W_id (x:=(i:Int)+1) (by omega) (by omega)]
     refine ih (i+1) run (by omega) hf (by omega) (by omega) (fun k k1 k2=>?_) hpre fun r j hC=>?_
     ·by_cases e:k=i
      ·subst e; exact hs
      ·exact hst k k1 (by omega)
     ·have:=hno r j hC
      by_cases e:j=i
      ·subst e; have:=hC.cns; rw [hs] at this; cases this
      ·omega
    | false=>
     have hvr:gt (visL s) (run:Int)=_:=zjs (E:=z1n s) (T:=z33 s) (k:=run) (by omega)
     rw [if_neg (by simp),z7 ⟨by omega,by omega⟩,z7 (fun _=>⟨by omega,by omega⟩),hvr]
     by_cases h:z33 s (vrE s run)<=m/\m<=z1n s (vrE s i)
     ·rw [if_pos (by simpa using h),z7 ⟨by omega,by omega⟩]
      exact⟨_,_,rfl,.inl ⟨rfl,run,i,⟨hf,hr,q,hst,hs,h.1,h.2⟩,rfl⟩⟩
     ·rw [if_neg (by simpa using h),W_id (x:=(i:Int)+1) (by omega) (by omega)]
      refine ih (i+1) (i+1) (by omega) (by omega) (Nat.le_refl _) (by omega) (fun k k1 k2=>by omega) (.inr (by simpa using hs)) fun r j hC=>?_
      have:=hno r j hC
      by_cases e:j=i
      ·exfalso
       subst e
       have hrr:run<=r:=by
        by_cases z:run<=r
        ·exact z
        ·rcases hpre with z2 | z2
         ·have:=hC.cf; omega
         ·have:=hC.cst (run-1) (by omega) (by omega)
          rw [z2] at this; cases this
       have:=(hE.mono hE.ets.tS hf hrr (by have:=hC.ci; omega)).1
       have:=hC.cl
       exact h ⟨by omega,hC.ch⟩
      ·omega
   ·rw [if_neg (by simp; omega)]
    exact⟨_,_,rfl,.inr ⟨rfl,rfl,fun r j hC=>by have:=hno r j hC; have:=hC.ce; omega⟩⟩
def gapT (s:BS) (k:Nat):Int:=gt (runT s.b s.v.toNat (t0 s.v.toNat (vrE s k))).d (vrE s (k+1))
theorem yep {s:BS} (h:Good s) {X:Int->Int} (hX:SolF s X) (φ:Nat) (hφ:5001<φ) {k:Nat} (hk:k+1<s.e.length) :
  ze0 φ s.v s.b (vrE s k) (vrE s (k+1))=some (gapT s k,true,0,())/\-2305843009213693952<=gapT s k/\gapT s k<=2305843009213693952/\∃ Y,SolF s Y/\Y (vrE s k)=0/\Y (vrE s (k+1))=gapT s k/\∀ X,SolF s X->∀ v,0<=v->v<s.v->X v-X (vrE s k)<=Y v:=by
 have hv:=h.v1
 have hv2:=h.v2
 obtain⟨i1,i2⟩:=h.ev (gt s.e (k:Int)) (z0p (by omega) (by omega))
 obtain⟨j1,j2⟩:=h.ev (gt s.e ((k+1:Nat):Int)) (z0p (by omega) (by omega))
 change 1<=vrE s k at i1
 change vrE s k<s.v at i2
 change 1<=vrE s (k+1) at j1
 change vrE s (k+1)<s.v at j2
 obtain⟨g1,g2,g3,g4⟩:=zqf (n:=s.v.toNat) h.ok h.conn (zf6.1 hX) (u:=vrE s k) (by omega) (by omega)
 have e:=yjo φ hφ s.b s.v.toNat (by omega) (by omega) h.ok h.bl (h.sol.2 ⟨X,hX⟩) (i:=vrE s k) (j:=vrE s (k+1)) (by omega) (by omega)
 rw [show ((s.v.toNat:Nat):Int)=s.v by omega] at e
 have hb:=(y6p h.ok (yl7 h.ok (zf6.1 hX) (u:=(vrE s k).toNat) (by omega)) s.v.toNat 0 0 (t0 s.v.toNat (vrE s k)) yju (yp7 (by omega) (by omega)) (by omega)).1
 have hm:=Nat.mul_le_mul (show s.v.toNat<=512 by omega) h.bl
 have hb2:=(hb.up (e:=2097152) (by omega)).bd (vrE s (k+1)) (by omega) (by omega)
 refine⟨?_,?_,?_,_,zf6.2 g3.sat,g3.zero,rfl,fun Z hZ v v0 v1=>g3.top Z (zf6.1 hZ) v v0 (by omega)⟩
 ·rw [e,g4 _ (by omega) (by omega),if_pos rfl]; rfl
 ·unfold gapT; omega
 ·unfold gapT; omega
structure PosL (φ:Nat) (p:Pool) (s:BS) (f e:Nat) (m:Int) (L:List Int):Prop where
 inc:L.Pairwise (· < ·)
 mem:∀ q,q∈L↔okPl p.network q/\PosW φ p.network (z1n s) (z33 s) (gapT s) (plE s) (vrE s) (stE s) f e m q
theorem zvn (φ:Nat) (hφ:800000<φ) (p:Pool) {l:List zd} (hl:FewL l) (w m:Int) :
  ∃ L,z43 φ p l w m=some (L,zfb φ p l w m,())/\(zfb φ p l w m≠0->L = [])/\
   (zfb φ p l w m=0->yjw φ p l w m/\∃ f e:Nat,RunW (bsB φ p l) w f e/\PosL φ p (bsB φ p l) f e m L/\L.length<=p.network.places.length):=by
 unfold z43
 rcases yhr φ hφ p hl w m with⟨h1,x,v,f,e,h2⟩ |⟨h1,hA,f,e,hR,h2⟩
 ·rw [h2,Option.bind_some]
  simp only
  rw [if_pos (by simpa using h1)]
  exact⟨_,rfl,fun _=>rfl,fun h=>absurd h h1⟩
 ·rw [h2,Option.bind_some,h1]
  simp only
  rw [if_neg (by simp)]
  obtain⟨X,hX⟩:=hA.sol
  have hG:=hA.good
  have hE:=yg4 hφ hA.hc hl hG hX hR
  have hn:=(z3m hA.hc).1
  have hP:=(zej hn).1
  generalize bsB φ p l=s at *
  have hel:=hG.el
  have hv2:=hG.v2
  have r1:=hR.fe
  have r2:=hR.el
  have m0:=hA.m0
  have m1:=hA.m1
  have hvl :(visL s).length=s.e.length:=by simp [visL]
  -- the two questions of a place
  have p1:∀(k:Nat) (q:Int),f<=k->k<e->okPl p.network q->∃ w b,z4e φ (k:Int) q p (visL s) m=some (w,b,())/\(b=true↔zrn φ p.network (z1n s) (plE s) (vrE s) m q k)/\(b=true->Dst φ p.network (plE s k) q=some w)/\0<=w/\w<=51200000:=by
   intro k q k1 k2 hq
   have hv:gt (visL s) (k:Int)=_:=zjs (E:=z1n s) (T:=z33 s) (k:=k) (by omega)
   unfold z4e
   rw [hvl,z7 ⟨by omega,by omega⟩,hv]
   simp only
   rw [zai hφ hn (hE.ok k k1 k2).1 hq,Option.bind_some,z7 (fun _=>⟨by omega,by omega⟩)]
   cases hd:Dst φ p.network (plE s k) q with
   | none=>exact⟨_,_,rfl,by simp [zrn,hd],by simp,by simp,by simp⟩
   | some t=>
    have ht:=zue hφ hn (hE.ok k k1 k2).1 hq hd
    simp only
    rw [W_id (x:=m-t) (by omega) (by omega)]
    refine⟨_,_,rfl,?_,fun _=>rfl,ht.1,ht.2⟩
    simp only [zrn,hd,Option.some.injEq,exists_eq_left',beq_self_eq_true,Bool.true_and,decide_eq_true_eq]
    omega
  have p2:∀(k:Nat) (q:Int),f<=k->k<e->okPl p.network q->∃ w b,z4c φ (k:Int) q p (visL s) m=some (w,b,())/\(b=true↔zrz φ p.network (z33 s) (plE s) (vrE s) m q k)/\(b=true->Dst φ p.network q (plE s k)=some w)/\0<=w/\w<=51200000:=by
   intro k q k1 k2 hq
   have hv:gt (visL s) (k:Int)=_:=zjs (E:=z1n s) (T:=z33 s) (k:=k) (by omega)
   unfold z4c
   rw [hvl,z7 ⟨by omega,by omega⟩,hv]
   simp only
   rw [zai hφ hn hq (hE.ok k k1 k2).1,Option.bind_some,z7 (fun _=>⟨by omega,by omega⟩)]
   cases hd:Dst φ p.network q (plE s k) with
   | none=>exact⟨_,_,rfl,by simp [zrz,hd],by simp,by simp,by simp⟩
   | some t=>
    have ht:=zue hφ hn hq (hE.ok k k1 k2).1 hd
    simp only
    rw [W_id (x:=m+t) (by omega) (by omega)]
    refine⟨_,_,rfl,?_,fun _=>rfl,ht.1,ht.2⟩
    simp only [zrz,hd,Option.some.injEq,exists_eq_left',beq_self_eq_true,Bool.true_and,decide_eq_true_eq]
  have gaps:∀(K:Int->Int->Int->Int->List Int->zn->List zk->Pool->Int->Option (List Int×Int×Unit)) (q x23:Int) (acc:List Int),okPl p.network q->acc.length<=1000->∀(n i:Nat),e-i<n->f<=i->i<=e->(∀ k,f<=k->k+1<e->k<i->¬ gapW φ p.network (z1n s) (z33 s) (gapT s) (plE s) (vrE s) (stE s) m q k)->
    ∃ b:Bool,(b=true↔∃ k,f<=k/\k+1<e/\gapW φ p.network (z1n s) (z33 s) (gapT s) (plE s) (vrE s) (stE s) m q k)/\
     z20 φ K n (f:Int) (e:Int) q (i:Int) (p.network.places.length:Int) x23 acc ⟨s.v,s.b,s.y,s.e⟩ (visL s) p m=K (f:Int) (e:Int) (p.network.places.length:Int) (W (x23+1)) (if b=true then acc++[q] else acc) ⟨s.v,s.b,s.y,s.e⟩ (visL s) p m:=by
   intro K q x23 acc hq hacc n
   induction n with
   | zero=>intro i h; omega
   | succ n ih=>
    intro i hn' hf hi hno
    have hWi:W ((i:Int)+1) =((i+1:Nat):Int):=by rw [W_id (by omega) (by omega)]; omega
    rw [z20,hWi]
    by_cases qe:i+1<e
    ·obtain⟨w1,b1,e1,c1,d1,_,_⟩:=p1 i q hf (by omega) hq
     obtain⟨w2,b2,e2,c2,d2,_,_⟩:=p2 (i+1) q (by omega) qe hq
     have hv:gt (visL s) (i:Int)=_:=zjs (E:=z1n s) (T:=z33 s) (k:=i) (by omega)
     rw [if_pos (by simp; omega),e1,Option.bind_some,e2,Option.bind_some,hvl,z7 (fun _=>⟨by omega,by omega⟩),z7 (fun _=>⟨by omega,by omega⟩),hv]
     simp only
     have next:¬ gapW φ p.network (z1n s) (z33 s) (gapT s) (plE s) (vrE s) (stE s) m q i->∀ k,f<=k->k+1<e->k<i+1->¬ gapW φ p.network (z1n s) (z33 s) (gapT s) (plE s) (vrE s) (stE s) m q k:=fun hg k k1 k2 k3=>by
      by_cases e:k=i
      ·subst e; exact hg
      ·exact hno k k1 k2 (by omega)
     by_cases hcond :(((!b1)||(!b2))||(stE s i&&(q !=plE s i)))=true
     ·rw [if_pos hcond]
      refine ih (i+1) (by omega) (by omega) (by omega) (next ?_)
      rintro⟨a,b,g1,g2,g3,g4,g5,g6⟩
      have t1:b1=true:=c1.2 ⟨a,g1,g2⟩
      have t2:b2=true:=c2.2 ⟨b,g3,g4⟩
      rw [t1,t2] at hcond
      simp only [Bool.not_true,Bool.false_or,Bool.and_eq_true,bne_iff_ne,ne_eq] at hcond
      exact hcond.2 (g5 hcond.1)
     ·rw [if_neg hcond]
      simp only [Bool.or_eq_true,Bool.not_eq_true',Bool.and_eq_true,bne_iff_ne,ne_eq,not_or,not_and,Decidable.not_not,Bool.not_eq_false] at hcond
      obtain⟨⟨t1,t2⟩,t3⟩:=hcond
      obtain⟨tg,tl,th,_⟩:=yep hG hX φ (by omega) (k:=i) (by omega)
      rw [z7 ⟨by omega,by omega⟩,z7 ⟨by omega,by omega⟩]
      change ∃ b:Bool,_/\(ze0 φ s.v s.b (vrE s i) (vrE s (i+1))).bind _=_
      rw [tg,Option.bind_some,W_id (x:=w1+w2) (by omega) (by omega)]
      simp only
      have hl1:=d1 t1
      have hl2:=d2 t2
      obtain⟨y1,z1,z2⟩:=c1.1 t1
      obtain⟨y2,z3,z4⟩:=c2.1 t2
      rw [hl1] at z1; cases z1
      rw [hl2] at z3; cases z3
      by_cases hle:w1+w2<=gapT s i
      ·rw [if_pos (by simpa using hle),z7 (zgg (by simp; omega) (by omega))]
       refine⟨true,⟨fun _=>⟨i,hf,qe,w1,w2,hl1,z2,hl2,z4,t3,hle⟩,fun _=>rfl⟩,?_⟩
       rw [if_pos rfl]
      ·rw [if_neg (by simpa using hle)]
       refine ih (i+1) (by omega) (by omega) (by omega) (next ?_)
       rintro⟨a,b,g1,g2,g3,g4,g5,g6⟩
       rw [hl1] at g1; cases g1
       rw [hl2] at g3; cases g3
       exact hle g6
    ·rw [if_neg (by simp; omega)]
     refine⟨false,⟨fun h=>(by cases h),?_⟩,by rw [if_neg (by simp)]⟩
     rintro⟨k,k1,k2,k3⟩
     exact absurd k3 (hno k k1 k2 (by omega))
  suffices key:∃ L,z09 φ φ (f:Int) (e:Int) (p.network.places.length:Int) 0 [] ⟨s.v,s.b,s.y,s.e⟩ (visL s) p m=some (L,0,())/\PosL φ p s f e m L/\L.length<=p.network.places.length by
   obtain⟨L,k1,k2,k3⟩:=key
   exact⟨L,k1,fun h=>absurd rfl h,fun _=>⟨hA,f,e,hR,k2,k3⟩⟩
  refine zr (fun n i (L:List Int)=>z09 φ n (f:Int) (e:Int) (p.network.places.length:Int) i L ⟨s.v,s.b,s.y,s.e⟩ (visL s) p m) p.network.places.length
   (fun i L=>L.length<=i/\L.Pairwise (· < ·)/\∀ q,q∈L↔0<=q/\q <(i:Int)/\PosW φ p.network (z1n s) (z33 s) (gapT s) (plE s) (vrE s) (stE s) f e m q) (fun o=>∃ L,o=some (L,0,())/\PosL φ p s f e m L/\L.length<=p.network.places.length) ?_ ?_ φ [] ⟨by simp,by simp,fun q=>⟨fun h=>(by cases h),fun h=>by omega⟩⟩ (by omega)
  ·intro n i L hi ⟨hlen,hpw,hmem⟩ hk
   have hq:okPl p.network (i:Int):=⟨by omega,by omega⟩
   have yes:PosW φ p.network (z1n s) (z33 s) (gapT s) (plE s) (vrE s) (stE s) f e m i->(L++[(i:Int)]).length<=i+1/\(L++[(i:Int)]).Pairwise (· < ·)/\∀ q,q∈L++[(i:Int)]↔0<=q/\q <((i+1:Nat):Int)/\PosW φ p.network (z1n s) (z33 s) (gapT s) (plE s) (vrE s) (stE s) f e m q:=fun hp=>by
    refine⟨by simp; omega,List.pairwise_append.2 ⟨hpw,by simp,fun a ha b hb=>?_⟩,fun q=>?_⟩
    ·rw [List.mem_singleton] at hb
     have:=(hmem a).1 ha
     omega
    ·rw [List.mem_append,List.mem_singleton,hmem q]
     constructor
     ·rintro(⟨h1,h2,h3⟩ | rfl)
      ·exact⟨h1,by omega,h3⟩
      ·exact⟨by omega,by omega,hp⟩
     ·rintro⟨h1,h2,h3⟩
      by_cases z:q =(i:Int)
      ·exact .inr z
      ·exact .inl ⟨h1,by omega,h3⟩
   have no:¬ PosW φ p.network (z1n s) (z33 s) (gapT s) (plE s) (vrE s) (stE s) f e m i->L.length<=i+1/\L.Pairwise (· < ·)/\∀ q,q∈L↔0<=q/\q <((i+1:Nat):Int)/\PosW φ p.network (z1n s) (z33 s) (gapT s) (plE s) (vrE s) (stE s) f e m q:=fun hp=>by
    refine⟨by omega,hpw,fun q=>?_⟩
    rw [hmem q]
    constructor
    ·rintro⟨h1,h2,h3⟩
     exact⟨h1,by omega,h3⟩
    ·rintro⟨h1,h2,h3⟩
     by_cases z:q =(i:Int)
     ·subst z; exact absurd h3 hp
     ·exact⟨h1,by omega,h3⟩
   have hWi:W ((i:Int)+1) =(i:Int)+1:=W_id (by omega) (by omega)
   have hfit:fits (L.length +([(i:Int)]:List Int).length) 8:=zgg (by simp; omega) (by omega)
   rw [z09,if_pos (by simp; omega),hWi]
   by_cases hfe:f=e
   ·rw [if_pos (by simp [hfe]),z7 hfit]
    exact hk _ (yes (.inl hfe))
   ·rw [if_neg (by simp; omega)]
    obtain⟨w2,b2,e2,c2,_,_,_⟩:=p2 f i (Nat.le_refl _) (by omega) hq
    rw [e2,Option.bind_some]
    cases b2 with
    | true=>
     rw [if_pos rfl,z7 hfit]
     exact hk _ (yes (.inr (.inl (c2.1 rfl))))
    | false=>
     rw [if_neg (by simp)]
     obtain⟨w1,b1,e1,c1,_,_,_⟩:=p1 (e-1) i (by omega) (by omega) hq
     rw [show W ((e:Int)-1) =((e-1:Nat):Int) by rw [W_id (by omega) (by omega)]; omega,e1,Option.bind_some]
     cases b1 with
     | true=>
      rw [if_pos rfl,z7 hfit]
      exact hk _ (yes (.inr (.inr (.inl (c1.1 rfl)))))
     | false=>
      rw [if_neg (by simp)]
      obtain⟨b,hb1,hb2⟩:=gaps (z09 φ n) i i L hq (by omega) φ f (by omega) (Nat.le_refl _) r1 (fun k k1 k2 k3=>by omega)
      rw [hb2,hWi]
      refine hk _ ?_
      cases b with
      | true=>rw [if_pos rfl]; exact yes (.inr (.inr (.inr (hb1.1 rfl))))
      | false=>
       rw [if_neg (by simp)]
       refine no ?_
       rintro(h | h | h | h)
       ·exact hfe h
       ·exact absurd (c2.2 h) (by simp)
       ·exact absurd (c1.2 h) (by simp)
       ·exact absurd (hb1.2 h) (by simp)
  ·intro n L ⟨hlen,hpw,hmem⟩
   rw [z09,if_neg (by simp)]
   exact⟨L,rfl,⟨hpw,fun q=>by rw [hmem q]; unfold okPl; rw [and_assoc]⟩,hlen⟩
end Px
end
section
namespace Px
open Go
theorem zn7 (φ:Nat) (hφ:5001<φ) (n:Int) (L:List z8):zeo φ n L=some (chkD n L,()):=by
 unfold zeo chkD
 by_cases h1:n<1
 ·rw [if_pos (by simpa using h1),if_pos h1]
 ·rw [if_neg (by simpa using h1),if_neg h1]
  by_cases h2:512<n\/4096<L.length
  ·rw [if_pos (by simp; omega),if_pos h2]
  ·rw [if_neg (by simp; omega),if_neg h2]
   have:=z52 (fun f i=>z61 φ f n L i) (some (0,())) (some (1,())) L (znt n) (fun f i hi=>by
     rw [z61,if_pos (by simp; omega),z7 ⟨by omega,by omega⟩,W_id (by omega) (by omega)]
     generalize gt L (i:Int)=b
     have e :((((((decide ((b.i:Int)<0))||(decide ((n:Int)<=b.i)))||(decide ((b.j:Int)<0)))||(decide ((n:Int)<=b.j)))||(decide ((b.w:Int) <(-1099511627776))))||(decide ((1099511627776:Int)<b.w)))=znt n b:=by
      have hm :(n<=max2 b.i b.j)↔(n<=b.i\/n<=b.j):=by unfold max2; split <;> omega
      unfold znt
      rw [Bool.eq_iff_iff]
      simp only [Bool.or_eq_true,decide_eq_true_eq,zza,hm]
      omega
     rw [e]
     cases znt n b <;> rfl) (fun f=>by
     rw [z61,if_neg (by simp)]) φ (by omega)
   rw [this]; cases L.any (znt n) <;> rfl
theorem yhb (φ:Nat) (k:Int->List z8->Int->Int->List Int->List Int->Option (List Int×List Int×Int×Unit)) (L:List z8) (n:Nat) (r:Int) (c:Nat) (s:LS) (hs:LB n c s) (hL:∀ b∈L,okBd n b) (hl:L.length<=5000) (hc:c+L.length<=2100000) (hφ:5001<φ) :
  z1s φ k φ n L s.z r 0 s.x s.y=k n L (rndL L L.length s).z (W (r+1)) (rndL L L.length s).x (rndL L L.length s).y:=by
 refine zr (fun f i (t:LS)=>z1s φ k f n L t.z r i t.x t.y) L.length (fun i t=>t=rndL L i s) (fun o=>o=_) ?_ ?_ φ s rfl (by omega)
 ·intro f i t hi ht hk
  have hB:=hs.rnd hL i (by omega)
  rw [<- ht] at hB
  obtain⟨a1,a2,a3,a4,a5,a6⟩:=hL _ (z0p (l:=L) (i:=(i:Int)) (by omega) (by omega))
  have q1:=hB.bd _ a1 a2
  have q2:=hB.bd _ a3 a4
  have hx:=hB.lx
  have hy:=hB.ly
  have hk':=hk (stp (gt L (i:Int)) i t) (by rw [ht]; rfl)
  rw [z1s,if_pos (by simp; omega),z7 ⟨by omega,by omega⟩,z7 ⟨a1,by rw [hx]; exact a2⟩,z7 ⟨a3,by rw [hx]; exact a4⟩,W_id (x:=gt t.x (gt L (i:Int)).i +(gt L (i:Int)).w) (by omega) (by omega)]
  unfold stp at hk'
  by_cases h:gt t.x (gt L (i:Int)).i +(gt L (i:Int)).w<gt t.x (gt L (i:Int)).j
  ·rw [if_pos h] at hk'
   rw [if_pos (by simpa using h),z7 ⟨a1,by rw [hx]; exact a2⟩,z7 ⟨a3,by rw [hx]; exact a4⟩,z7 ⟨a3,by rw [hy]; exact a4⟩,W_id (x:=(i:Int)+1) (by omega) (by omega)]
   exact hk'
  ·rw [if_neg h] at hk'
   rw [if_neg (by simpa using h),W_id (x:=(i:Int)+1) (by omega) (by omega)]
   exact hk'
 ·intro f t ht
  subst ht
  rw [z1s,if_neg (by simp)]
theorem zxd (φ:Nat) (L:List z8) (n:Nat) (hn:n<=512) (hL:∀ b∈L,okBd n b) (hl:L.length<=4096) (hφ:5001<φ) :
  ∀(f k:Nat) (s:LS),LB n (k*L.length) s->k<=n->n<f+k->0<=s.z->z2j φ f n L s.z (k:Int) s.x s.y=some ((lowR L (n-k) s).x,(lowR L (n-k) s).y,(lowR L (n-k) s).z,())
 | 0,k,s,_,h1,h2,_=>by omega
 | f+1,k,s,hs,h1,h2,hz=>by
  rw [z2j]
  by_cases h:k<n
  ·have hs1:LB n (k*L.length) ⟨s.x,s.y,-1⟩:=⟨hs.lx,hs.ly,hs.bd⟩
   have hb:=Nat.mul_le_mul (show k+1<=512 by omega) hl
   rw [Nat.add_mul,Nat.one_mul] at hb
   rw [if_pos (by simp; omega)]
   have:=yhb φ (z2j φ f) L n (k:Int) _ ⟨s.x,s.y,-1⟩ hs1 hL (by omega) (by omega) hφ
   refine this.trans ?_
   rw [show n-k =(n -(k+1))+1 by omega,lowR,W_id (x:=(k:Int)+1) (by omega) (by omega)]
   have hs2:=hs1.rnd hL L.length (Nat.le_refl _)
   by_cases hq :(rndL L L.length ⟨s.x,s.y,-1⟩).z<0
   ·rw [if_pos hq]
    obtain⟨g,rfl⟩:∃ g,f=g+1:=⟨f-1,by omega⟩
    rw [z2j,if_neg (by simp; omega)]
   ·rw [if_neg hq]
    exact zxd φ L n hn hL hl hφ f (k+1) _ (hs2.up (by rw [Nat.add_mul,Nat.one_mul]; omega)) (by omega) (by omega) (by omega)
  ·rw [if_neg (by simp; omega),show n-k=0 by omega]; rfl
theorem ybn (φ:Nat) (hφ:5001<φ) (L:List z8) (n:Nat) (h1:1<=n) (hn:n<=512) (hL:∀ b∈L,okBd n b) (hl:L.length<=4096):zcz φ (n:Int) L=some ((low n L).x,(low n L).y,(low n L).z,()):=by
 unfold zcz
 rw [z7 (mk_t _ _ (by omega) (by omega) (by omega)),z7 (mk_t _ _ (by omega) (by omega) (by omega)),Int.toNat_natCast]
 refine zr (fun f i (y:List Int)=>z4a φ f n L i (List.replicate n (default:Int)) y) n (fun i y=>y.length=n/\∀ j:Int,0<=j->j <(i:Int)->gt y j=-1) (fun o=>o=_) ?_ ?_ φ _ ⟨by simp,fun j h0 h1=>by omega⟩ (by omega)
 ·intro f i y hi ⟨hy,hg⟩ hk
  rw [z4a,if_pos (by simp; omega),z7 ⟨by omega,by omega⟩,W_id (x:=(i:Int)+1) (by omega) (by omega)]
  refine hk _ ⟨by rw [z05]; exact hy,fun j j0 j1=>?_⟩
  rw [zy _ _ _ _ (by omega) (by omega) j0]
  by_cases e:j =(i:Int)
  ·rw [if_pos e]
  ·rw [if_neg e,hg j j0 (by omega)]
 ·intro f y ⟨hy,hg⟩
  have e:y=List.replicate n (-1):=y9j (by rw [hy]; simp) fun j j0 j1=>by
   rw [hy] at j1
   rw [hg j j0 j1,z17 _ _ _ j0 j1]
  rw [z4a,if_neg (by simp),e]
  have:=zxd φ L n hn hL hl hφ φ 0 ⟨List.replicate n 0,List.replicate n (-1),0⟩ ⟨by simp,by simp,((lb0 n).up (by omega)).bd⟩ (by omega) (by omega) (Int.le_refl _)
  refine this.trans ?_
  have e2:lowR L (n-0) ⟨List.replicate n 0,List.replicate n (-1),0⟩=low n L:=by
   unfold low
   obtain⟨m,rfl⟩:∃ m,n=m+1:=⟨n-1,by omega⟩
   rw [Nat.sub_zero,lowR,lowR]
  rw [e2]
theorem zh6 (φ:Nat) (hφ:5001<φ) (n:Int) (L:List z8):zah φ n L=zar φ n L:=by
 rw [y9i φ hφ]
 unfold zah
 rw [zn7 φ hφ,Option.bind_some]
 by_cases h:chkD n L=0
 ·rw [if_neg (by simpa using h),if_neg (by simpa using h)]
  obtain⟨m,rfl,h1,h2,h3,h4⟩:=ygw h
  rw [ybn φ hφ L m h1 h2 h4 h3,Option.bind_some,Int.toNat_natCast]
  by_cases hz:0<=(low m L).z
  ·rw [if_pos (by simpa using hz),if_pos hz]
  ·rw [if_neg (by simpa using hz),if_neg hz]
 ·rw [if_pos (by simpa using h),if_pos (by simpa using h)]
theorem zxq {n c:Nat} {s:TS} (hB:TiB n c s) (hz:s.z=-1) {L:List z8} (hL:∀ b∈L,okBd n b) (hf:BF.Fix (nI false) (nJ false) bW L (xk s)):∀ m,m<=L.length->rndT L m s=s
 | 0,_=>rfl
 | m+1,hm=>by
  have ih:=zxq hB hz hL hf m (by omega)
  change stpT (gt L (m:Int)) m (rndT L m s)=s
  rw [ih]
  have hin:=z0p (l:=L) (i:=(m:Int)) (by omega) (by omega)
  exact(y6s hB (hL _ hin) m).2.2 (hf _ hin)
theorem ycg (φ:Nat) (k:List z8->Int->Bool->List Int->List Bool->Option (Int×Bool×Int×Unit)) (L:List z8) (n:Nat) (j:Int) (c:Nat) (s:TS) (hs:TiB n c s) (hz:s.z=-1) (hL:∀ b∈L,okBd n b) (hl:L.length<=4096) (hc:c+L.length<=2110000) (hφ:5001<φ) :
  z2s φ k φ L j false 0 s.d s.kn=k L j (decide (0<=(rndT L L.length s).z)) (rndT L L.length s).d (rndT L L.length s).kn:=by
 have e:decide ((0:Int)<=s.z)=false:=by rw [hz]; rfl
 rw [<- e]
 refine zr (fun f i (t:TS)=>z2s φ k f L j (decide (0<=t.z)) i t.d t.kn) L.length (fun i t=>t=rndT L i s) (fun o=>o=k L j (decide (0<=(rndT L L.length s).z)) (rndT L L.length s).d (rndT L L.length s).kn) ?_ ?_ φ s rfl (by omega)
 ·intro f i t hi ht hk
  have hB:=hs.rnd hL i (by omega)
  rw [<- ht] at hB
  have hb:=hL _ (z0p (l:=L) (i:=(i:Int)) (by omega) (by omega))
  have hk':=hk (stpT (gt L (i:Int)) i t) (by rw [ht]; rfl)
  rw [z2s,if_pos (by simp; omega),z7 ⟨by omega,by omega⟩]
  generalize gt L (i:Int)=b at *
  obtain⟨a1,a2,a3,a4,a5,a6⟩:=hb
  have hx:=hB.ld
  have hy:=hB.lk
  have q1:=hB.bd _ a1 a2
  have hW:W (gt t.d b.i+b.w)=gt t.d b.i+b.w:=W_id (by omega) (by omega)
  have hWi:W ((i:Int)+1) =(i:Int)+1:=W_id (by omega) (by omega)
  rw [z7 ⟨a1,by rw [hy]; exact a2⟩,z7 (fun _=>⟨a3,by rw [hy]; exact a4⟩),z7 (fun _=>⟨a1,by rw [hx]; exact a2⟩),z7 (fun _=>⟨a3,by rw [hx]; exact a4⟩),hW,hWi]
  have hcond :((gt t.kn b.i)&&((!(gt t.kn b.j))||(decide ((gt t.d b.i+b.w:Int) <(gt t.d b.j))))) = !(!(gt t.kn b.i)||((gt t.kn b.j)&&decide (gt t.d b.j<=gt t.d b.i+b.w))):=by
   have e:decide ((gt t.d b.i+b.w:Int) <(gt t.d b.j)) = !decide (gt t.d b.j<=gt t.d b.i+b.w):=by
    rw [<- decide_not]; exact decide_eq_decide.2 (by omega)
   rw [e]
   cases gt t.kn b.i <;> cases gt t.kn b.j <;> rfl
  rw [hcond]
  unfold stpT at hk'
  cases h :(!(gt t.kn b.i)||((gt t.kn b.j)&&decide (gt t.d b.j<=gt t.d b.i+b.w))) with
  | true=>
   rw [h,if_pos rfl] at hk'
   rw [if_neg (by simp)]
   exact hk'
  | false=>
   rw [h,if_neg (by simp)] at hk'
   rw [if_pos (by simp),z7 ⟨a1,by rw [hx]; exact a2⟩,z7 ⟨a3,by rw [hx]; exact a4⟩,z7 ⟨a3,by rw [hy]; exact a4⟩]
   have e:decide ((0:Int)<=(i:Int))=true:=by simp
   simp only [e] at hk'
   exact hk'
 ·intro f t ht
  subst ht
  rw [z2s,if_neg (by simp)]
theorem ztr (φ:Nat) (L:List z8) (n:Nat) (j:Int) (hj:0<=j/\j <(n:Int)) (hn:n<=512) (hL:∀ b∈L,okBd n b) (hl:L.length<=4096) (hφ:5001<φ) {x0:BF.X} (F:BF.Feas (nI false) (nJ false) bW x0 L n) :
  ∀(f k:Nat) (s:TS) (ch:Bool),TiB n (k*L.length) s->xk s=BF.rnds (nI false) (nJ false) bW L x0 k->(ch=false->BF.Fix (nI false) (nJ false) bW L (xk s))->k<=n+1->(k=n+1->ch=false)->n+2<f+k->
   ∃ t:TS,t.d.length=n/\t.kn.length=n/\BF.Fix (nI false) (nJ false) bW L (xk t)/\(∃ k',xk t=BF.rnds (nI false) (nJ false) bW L x0 k')/\z40 φ f L j ch s.d s.kn=if gt t.kn j=true then some (gt t.d j,true,0,()) else some (0,false,0,())
 | 0,k,s,ch,_,_,_,h1,_,h2=>by omega
 | f+1,k,s,ch,hs,hx,hfix,hk,hk2,hf=>by
  rw [z40]
  cases ch with
  | false=>
   refine⟨s,hs.ld,hs.lk,hfix rfl,⟨k,hx⟩,?_⟩
   rw [if_neg (by simp),z7 ⟨hj.1,by rw [hs.lk]; exact hj.2⟩]
   cases hkn:gt s.kn j with
   | false=>rw [if_pos (show (!false)=true from rfl),if_neg (by simp)]
   | true=>rw [if_neg (by simp),if_pos rfl,z7 ⟨hj.1,by rw [hs.ld]; exact hj.2⟩]
  | true=>
   have hkn:k<n+1:=by
    by_cases e:k=n+1
    ·have:=hk2 e; cases this
    ·omega
   have hs1:TiB n (k*L.length) ⟨s.d,s.kn,-1⟩:=⟨hs.ld,hs.lk,hs.bd⟩
   have hb:=Nat.mul_le_mul (show k+1<=513 by omega) hl
   rw [Nat.add_mul,Nat.one_mul] at hb
   have hr:=y7g hs1 hL L.length (Nat.le_refl _)
   rw [List.take_length] at hr
   have hr2:xk (rndT L L.length ⟨s.d,s.kn,-1⟩)=BF.rnds (nI false) (nJ false) bW L x0 (k+1):=by
    rw [hr,show xk (TS.mk s.d s.kn (-1))=_ from hx]; rfl
   rw [if_pos rfl]
   have hrd:=ycg φ (z40 φ f) L n j _ ⟨s.d,s.kn,-1⟩ hs1 rfl hL hl (by omega) hφ
   rw [hrd]
   refine ztr φ L n j hj hn hL hl hφ F f (k+1) _ _ ((hs1.rnd hL L.length (Nat.le_refl _)).up (by rw [Nat.add_mul,Nat.one_mul]; omega)) hr2 (fun hz=>?_) (by omega) (fun e=>?_) (by omega)
   ·have hz' :(rndT L L.length ⟨s.d,s.kn,-1⟩).z<0:=by
     have:=of_decide_eq_false hz
     omega
    obtain⟨e1,e2⟩:=yfc hs1 hL L.length (Nat.le_refl _) hz'
    intro b hb
    rw [e1]
    obtain⟨i,hi,rfl⟩:=zon hb
    exact e2 i hi
   ·have hfx:BF.Fix (nI false) (nJ false) bW L (xk (TS.mk s.d s.kn (-1))):=by
     intro b hb
     have:=BF.done F (k:=k) (by omega) b hb
     rw [<- hx] at this
     exact this
    rw [zxq hs1 rfl hL hfx L.length (Nat.le_refl _)]
    rfl
theorem za3 (φ:Nat) (hφ:5001<φ) {s:BS} (h:Good s) {X:Int->Int} (hX:SolF s X) {i j:Int} (hi:0<=i/\i<s.v) (hj:0<=j/\j<s.v) {e:Int->Int} (he:zn2 false s.b s.v.toNat i e):zjg φ s.v s.b i j=some (e j,true,0,()):=by
 have hv:=h.v1
 have hv2:=h.v2
 have hz:=h.sol.2 ⟨X,hX⟩
 have hnv :((s.v.toNat:Nat):Int)=s.v:=by omega
 unfold zjg
 rw [zn7 φ hφ,Option.bind_some,h.chk,if_neg (by simp),if_neg (by simp; omega),zh6 φ hφ,h.solve φ hφ,Option.bind_some,if_neg (show ¬ 0<=(low s.v.toNat s.b).z by omega)]
 simp only
 rw [if_neg (by simp),z7 (mk_t _ _ (by omega) (by omega) (by omega)),z7 (mk_t _ _ (by omega) (by omega) (by omega)),z7 ⟨by omega,by simp; omega⟩]
 have F:=yl7 h.ok (zf6.1 hX) (u:=i.toNat) (by omega)
 obtain⟨t,t1,t2,t3,⟨k',t4⟩,t5⟩:=ztr φ s.b s.v.toNat j (by omega) (by omega) h.ok h.bl hφ F φ 0 (t0 s.v.toNat i) true (yju.up (by omega)) (yp7 (by omega) (by omega)) (fun q=>by cases q) (by omega) (fun q=>by omega) (by omega)
 obtain⟨g1,g2⟩:=zqe h.ok h.conn (zf6.1 hX) (u:=i.toNat) (by omega) t3 t4
 have kn:gt t.kn j=true:=by
  have:=g2 j.toNat (by omega)
  rw [yc2 hj.1 (by rw [t1]; omega)] at this
  split at this
  ·assumption
  ·cases this
 have val :(xk t j.toNat).getD 0=gt t.d j:=by
  rw [yc2 hj.1 (by rw [t1]; omega),if_pos kn]; rfl
 rw [show ((i.toNat:Nat):Int)=i by omega] at g1
 have hu:=g1.uniq he hj.1 (by omega)
 rw [val] at hu
 have t5':z40 φ φ s.b j true (List.replicate s.v.toNat (default:Int)) (zw (List.replicate s.v.toNat (default:Bool)) i true)=_:=t5
 rw [t5',if_pos kn,hu]
theorem Good.late (φ:Nat) (hφ:5001<φ) {s:BS} (h:Good s) {X:Int->Int} (hX:SolF s X) {v:Int} (h0:0<=v) (h1:v<s.v) (y:List (Nat->Ref)) (e:List z0h) :
  z2e φ ⟨s.v,s.b,y,e⟩ 0 v=some (z33 s v,())/\z2e φ ⟨s.v,s.b,y,e⟩ v 0=some (- z1n s v,()):=by
 have hv:=h.v1
 have hv2:=h.v2
 have ht:=(zmc (r:=false) (n:=s.v.toNat) (by omega) h.ok h.conn (zf6.1 hX) (u:=0) (by omega) (by omega)).2
 have hd:=(zmc (r:=true) (n:=s.v.toNat) (by omega) h.ok h.conn (p:=fun v=>- X v) (zo6 (zf6.1 hX)) (u:=0) (by omega) (by omega)).2
 obtain⟨g1,g2,g3,g4⟩:=zqf (n:=s.v.toNat) h.ok h.conn (zf6.1 hX) (u:=v) (by omega) (by omega)
 refine⟨?_,?_⟩
 ·unfold z2e
  rw [za3 φ hφ h hX (i:=0) (j:=v) (by omega) (by omega) ht,Option.bind_some]; rfl
 ·unfold z2e
  rw [za3 φ hφ h hX (i:=v) (j:=0) (by omega) (by omega) g3,Option.bind_some]
  have q1:=hd.top _ (zo6 (r:=false) g3.sat) v h0 (by omega)
  have q2:=g3.top _ (zo6 (r:=true) hd.sat) 0 (by omega) (by omega)
  have z1:=g3.zero
  have z2:=hd.zero
  have e1:z1n s v=- gt (runD true s.b s.v.toNat ⟨d0 s.v.toNat 0,true⟩).d v:=rfl
  rw [e1]
  congr 2
  omega
theorem Good.gapT_eq (φ:Nat) (hφ:5001<φ) {s:BS} (h:Good s) {X:Int->Int} (hX:SolF s X) {k:Nat} (hk:k+1<s.e.length) (y:List (Nat->Ref)) :
  z2e φ ⟨s.v,s.b,y,s.e⟩ (vrE s k) (vrE s (k+1))=some (gapT s k,()):=by
 have hv:=h.v1
 have hv2:=h.v2
 obtain⟨i1,i2⟩:=h.ev (gt s.e (k:Int)) (z0p (by omega) (by omega))
 obtain⟨j1,j2⟩:=h.ev (gt s.e ((k+1:Nat):Int)) (z0p (by omega) (by omega))
 change 1<=vrE s k at i1
 change vrE s k<s.v at i2
 change 1<=vrE s (k+1) at j1
 change vrE s (k+1)<s.v at j2
 obtain⟨g1,g2,g3,g4⟩:=zqf (n:=s.v.toNat) h.ok h.conn (zf6.1 hX) (u:=vrE s k) (by omega) (by omega)
 unfold z2e
 rw [za3 φ hφ h hX (i:=vrE s k) (j:=vrE s (k+1)) (by omega) (by omega) g3,Option.bind_some]; rfl
end Px
end
section
namespace Px
open Go
theorem yk0 (φ:Nat) (hφ:1000<φ) (p:Pool):∃ b,z9g φ p=some (b,())/\(b=true->p.network.places.length<=16/\p.network.edges.length<=40/\p.fleet.wagons.length<=8/\p.readers.length<=8):=by
 unfold z9g
 split
 ·exact⟨false,rfl,fun h=>by cases h⟩
 ·rename_i hc
  simp only [Bool.or_eq_true,decide_eq_true_eq,not_or] at hc
  obtain⟨⟨⟨⟨⟨⟨c1,c2⟩,c3⟩,c4⟩,c5⟩,c6⟩,c7⟩:=hc
  have:∃ b,z1w φ φ 0 p=some (b,()):=by
   refine zr (fun n i (_:Unit)=>z1w φ n i p) p.railways.length (fun _ _=>True) (fun o=>∃ b,o=some (b,())) ?_ ?_ φ () trivial (by omega)
   ·intro n i _ hi _ hs
    rw [z1w,if_pos (by simp; omega),z7 ⟨by omega,by omega⟩,W_id (by omega) (by omega)]
    split
    ·exact⟨false,rfl⟩
    ·exact hs () trivial
   ·intro n _ _
    rw [z1w,if_neg (by simp)]
    exact⟨true,rfl⟩
  obtain⟨b,hb⟩:=this
  exact⟨b,hb,fun _=>by omega⟩
theorem yox (φ:Nat) (hφ:1000<φ) (l:List zd) (N:Nat) (hN:N<=500):∃ b,z5y φ l N=some (b,())/\(b=true->FewL l/\l.length<=N)/\(b=true↔l.length<=N/\∀ r∈l,r.item.parts.length<=40/\r.item.text.size<=2000):=by
 unfold z5y
 by_cases h60:N<l.length
 ·rw [if_pos (by simp; omega)]
  exact⟨false,rfl,(fun h=>by cases h),(fun h=>by cases h),fun h=>by omega⟩
 ·rw [if_neg (by simp; omega)]
  refine zr (fun n i (_:Unit)=>z2c φ n l i) l.length (fun i _=>∀ j:Nat,j<i->(gt l (j:Int)).item.parts.length<=40/\(gt l (j:Int)).item.text.size<=2000)
   (fun o=>∃ b,o=some (b,())/\(b=true->FewL l/\l.length<=N)/\(b=true↔l.length<=N/\∀ r∈l,r.item.parts.length<=40/\r.item.text.size<=2000)) ?_ ?_ φ () (fun j hj=>by omega) (by omega)
  ·intro n i _ hi hI hs
   rw [z2c,if_pos (by simp; omega),z7 ⟨by omega,by omega⟩,z7 (fun _=>⟨by omega,by omega⟩),W_id (by omega) (by omega)]
   split
   ·rename_i hc
    simp only [Bool.or_eq_true,decide_eq_true_eq] at hc
    refine⟨false,rfl,(fun h=>by cases h),(fun h=>by cases h),fun h=>?_⟩
    have:=h.2 _ (z0p (l:=l) (i:=(i:Int)) (by omega) (by omega))
    omega
   ·rename_i hc
    simp only [Bool.or_eq_true,decide_eq_true_eq,not_or] at hc
    refine hs () fun j hj=>?_
    by_cases e:j=i
    ·subst e; omega
    ·exact hI j (by omega)
  ·intro n _ hI
   rw [z2c,if_neg (by simp)]
   have all:∀ r∈l,r.item.parts.length<=40/\r.item.text.size<=2000:=fun r hr=>by
    obtain⟨j,hj,rfl⟩:=zon hr
    exact hI j hj
   exact⟨true,rfl,fun _=>⟨⟨by omega,fun r hr=>by have:=all r hr; omega⟩,by omega⟩,fun _=>⟨by omega,all⟩,fun _=>rfl⟩
theorem ydx (k:Nat) (x:Int):∀ n:Nat,((List.range n).map fun(w:Nat)=>if x =(w:Int) then k else 0).sum<=if x <(n:Int) then k else 0
 | 0=>by simp
 | n+1=>by
  have ih:=ydx k x n
  rw [List.range_succ,List.map_append,List.sum_append]
  simp only [List.map_cons,List.map_nil,List.sum_cons,List.sum_nil,Nat.add_zero]
  by_cases h:x =(n:Int)
  ·rw [if_pos h,if_pos (by omega)]
   rw [if_neg (by omega)] at ih
   omega
  ·rw [if_neg h]
   by_cases h2:x <(n:Int)
   ·rw [if_pos h2] at ih; rw [if_pos (by omega)]; omega
   ·rw [if_neg h2] at ih; omega
theorem ydd (f g:Nat->Nat):∀ l:List Nat,(l.map fun w=>f w+g w).sum =(l.map f).sum +(l.map g).sum
 | []=>rfl
 | a::l=>by
  have:=ydd f g l
  simp only [List.map_cons,List.sum_cons]
  omega
theorem yhh (p:Pool) (l:List zd) (n:Nat):∀ c:List Int,((List.range n).map fun(w:Nat)=>(unsC p l c (w:Int)).length).sum<=2*c.length
 | []=>by
  have:∀ l:List Nat,(l.map fun _=>0).sum=0:=fun l=>by
   induction l with
   | nil=>rfl
   | cons a l ih=>rw [List.map_cons,List.sum_cons,ih]
  have h:=this (List.range n)
  show ((List.range n).map fun(w:Nat)=>([]:List z6).length).sum<=0
  exact Nat.le_of_eq h
 | i::c=>by
  have ih:=yhh p l n c
  have e:∀ w:Int,(unsC p l (i::c) w).length =(if(gt l i).item.wagon=w then(evs p (gt l i) i).length else 0) +(unsC p l c w).length:=fun w=>by
   unfold unsC
   rw [List.flatMap_cons,List.length_append]
   split <;> rfl
  simp only [e]
  rw [ydd]
  have h1:=ydx (evs p (gt l i) i).length (gt l i).item.wagon n
  have h2:=y1a p (gt l i) i
  rw [List.length_cons]
  split at h1 <;> omega
theorem yiu (p:Pool) (l:List zd) :(zf p l).flatten.length<=2*l.length:=by
 rw [List.length_flatten]
 unfold zf
 rw [List.map_map]
 have h:=yhh p l p.fleet.wagons.length (cnt p l)
 have h2:=zfy p l l.length
 have e :(List.length ∘ fun(w:Nat)=>z42 p l (w:Int))=fun(w:Nat)=>(unsC p l (cnt p l) (w:Int)).length:=by
  funext w
  simp only [Function.comp]
  unfold z42 srt
  rw [zbm,(z1q _ _).length_eq]
  rfl
 rw [e]
 unfold cnt at h ⊢
 omega
theorem BB.fold (tv m):∀(ts:List (List z6)) (n:Nat) (s:BS),BB n s->BB (n+ts.flatten.length) (fB tv m ts s)
 | [],n,s,h=>h
 | t::ts,n,s,h=>by
  have:=BB.fold tv m ts _ _ (BB.ev tv m t n none s h)
  rw [Nat.add_assoc] at this
  rw [List.flatten_cons,List.length_append]
  exact this
theorem yog (tv) {rs:List z26} (hr:rs.length<=256) (ts:List (List z6)):BB ts.flatten.length (bAll tv rs ts):=by
 obtain⟨h1,h2,h3,h4⟩:=z96 rs (used ts) rs.length
 have h0:BB 0 (rd0 rs ts):=⟨h1,by show (rdsN rs (used ts) rs.length).v<=_; omega,by show (rdsN rs (used ts) rs.length).b.length<=_; omega,by show (rdsN rs (used ts) rs.length).y.length<=_; omega,by simp⟩
 have:=BB.fold tv (rdM rs ts) ts 0 _ h0
 rw [Nat.zero_add] at this
 exact this
theorem yde {φ:Nat} {p:Pool} (hc:zt p=0) {l:List zd} (hl:l.length<=100) :(bsB φ p l).v<=257+2*l.length/\(bsB φ p l).b.length<=512+10*l.length/\(bsB φ p l).e.length<=2*l.length/\¬(512 <(bsB φ p l).v\/4096 <(bsB φ p l).b.length):=by
 have h:BB (zf p l).flatten.length (bsB φ p l):=yog (tvl φ p.network) (z3m hc).2.2.1 (zf p l)
 have h2:=yiu p l
 have q1:=h.v1
 have q2:=h.b
 have q3:=h.e
 refine⟨by omega,by omega,?_,by omega⟩
 omega
theorem ybe:∀(a b:List z6) (v:Int),evsE v (a++b)=evsE v a++evsE (v+a.length) b
 | [],b,v=>by simp [evsE]
 | x::a,b,v=>by
  simp only [List.cons_append,evsE,ybe a b (v+1),List.length_cons]
  rw [show v+1 +(a.length:Int)=v +((a.length+1:Nat):Int) by omega]
theorem yfg (tv m):∀(ts:List (List z6)) (s:BS),(fB tv m ts s).e=s.e++evsE s.v ts.flatten/\(fB tv m ts s).v=s.v+ts.flatten.length
 | [],s=>by simp [fB,evsE]
 | t::ts,s=>by
  obtain⟨h1,h2⟩:=yfg tv m ts (bEv tv m none t s)
  have e:fB tv m (t::ts) s=fB tv m ts (bEv tv m none t s):=rfl
  rw [e,h1,h2,y6z,yge,List.flatten_cons,ybe,List.length_append,List.append_assoc]
  exact⟨rfl,by omega⟩
def v0E (p:Pool) (l:List zd):Int:=(rd0 p.readers (zf p l)).v
theorem y0o (φ:Nat) (p:Pool) (l:List zd) :(bsB φ p l).e=evsE (v0E p l) (zf p l).flatten/\(bsB φ p l).v=v0E p l +(zf p l).flatten.length:=by
 rw [bsB,zng]
 obtain⟨h1,h2⟩:=yfg (tvl φ p.network) (rdM p.readers (zf p l)) (zf p l) (rd0 p.readers (zf p l))
 rw [h1,h2]
 exact⟨List.nil_append _,rfl⟩
theorem y7w (φ:Nat) (p:Pool) (l:List zd) :(bsB φ p l).e.length =(zf p l).flatten.length:=by rw [(y0o φ p l).1,zyk]
theorem ylp (φ:Nat) (p:Pool) (l:List zd) {k:Nat} (h:k <(zf p l).flatten.length):gt (bsB φ p l).e (k:Int)=evE (v0E p l+k) (gt (zf p l).flatten (k:Int)):=by
 have h2:=y7w φ p l
 have:=yel (l:=(bsB φ p l).e) (i:=k) (by omega)
 rw [(y0o φ p l).1,zq0,yel h,Option.map_some,Option.some.injEq] at this
 rw [(y0o φ p l).1]; exact this.symm
def offW (p:Pool) (l:List zd) (w:Nat):Nat:=((zf p l).take w).flatten.length
theorem ybk (p:Pool) (l:List zd) {w:Nat} (h:w<p.fleet.wagons.length) :(zf p l)[w]? = some (z42 p l (w:Int)):=by
 unfold zf
 simp [h]
theorem zxy (p:Pool) (l:List zd) {w:Nat} (h:w<p.fleet.wagons.length):zf p l =(zf p l).take w++z42 p l (w:Int)::(zf p l).drop (w+1):=by
 have hl :(zf p l).length=p.fleet.wagons.length:=by simp [zf]
 have h2:=ybk p l h
 rw [List.getElem?_eq_getElem (by omega),Option.some.injEq] at h2
 rw [<- h2]
 simp
theorem zly (p:Pool) (l:List zd) {w:Nat} (h:w<p.fleet.wagons.length) :(zf p l).flatten =((zf p l).take w).flatten++(z42 p l (w:Int)++((zf p l).drop (w+1)).flatten):=by
 conv=>lhs; rw [zxy p l h]
 rw [List.flatten_append,List.flatten_cons]
theorem ylq (p:Pool) (l:List zd) {w:Nat} (h:w<p.fleet.wagons.length):offW p l w +(z42 p l (w:Int)).length<=(zf p l).flatten.length:=by
 rw [zly p l h,List.length_append,List.length_append]
 unfold offW; omega
theorem yew (p:Pool) (l:List zd) {w:Nat} (h:w<p.fleet.wagons.length) {i:Nat} (hi:i <(z42 p l (w:Int)).length):gt (zf p l).flatten ((offW p l w+i:Nat):Int)=gt (z42 p l (w:Int)) (i:Int):=by
 have:=ylq p l h
 rw [z23 (by omega),z23 hi]
 have e:∀(k:Nat) (hk:k <(zf p l).flatten.length),(zf p l).flatten[k] =(((zf p l).take w).flatten++(z42 p l (w:Int)++((zf p l).drop (w+1)).flatten))[k]'(by rw [<- zly p l h]; exact hk):=fun k hk=>by
  congr 1; exact zly p l h
 rw [e,List.getElem_append_right (by unfold offW; omega)]
 unfold offW
 rw [List.getElem_append_left (by omega)]
 congr 1; omega
theorem ztl {p:Pool} {l:List zd} {w:Nat} {t:List z6} (h:t∈(zf p l).take w):∃ u:Nat,u<w/\u<p.fleet.wagons.length/\t=z42 p l (u:Int):=by
 obtain⟨u,hu,e⟩:=List.getElem_of_mem h
 rw [List.length_take] at hu
 have hl :(zf p l).length=p.fleet.wagons.length:=by simp [zf]
 refine⟨u,by omega,by omega,?_⟩
 rw [List.getElem_take] at e
 rw [<- e]; simp [zf]
theorem zux {p:Pool} {l:List zd} {w:Nat} {t:List z6} (h:t∈(zf p l).drop w):∃ u:Nat,w<=u/\u<p.fleet.wagons.length/\t=z42 p l (u:Int):=by
 obtain⟨u,hu,e⟩:=List.getElem_of_mem h
 rw [List.length_drop] at hu
 have hl :(zf p l).length=p.fleet.wagons.length:=by simp [zf]
 refine⟨w+u,by omega,by omega,?_⟩
 rw [List.getElem_drop] at e
 rw [<- e]; simp [zf]
theorem zm5 {p:Pool} {l:List zd} (hl:FewL l) {w:Nat} (h:w<p.fleet.wagons.length) {k:Nat} (hk:k <(zf p l).flatten.length) :
  (k<offW p l w->(gt (zf p l).flatten (k:Int)).visit.wagon <(w:Int))/\(offW p l w +(z42 p l (w:Int)).length<=k->(w:Int) <(gt (zf p l).flatten (k:Int)).visit.wagon):=by
 have e:=yel hk
 generalize gt (zf p l).flatten (k:Int)=x at *
 rw [zly p l h] at e
 constructor
 ·intro hlt
  rw [List.getElem?_append_left (by unfold offW at hlt; exact hlt)] at e
  obtain⟨t,ht,hx⟩:=List.mem_flatten.1 (List.mem_of_getElem? e)
  obtain⟨u,u1,_,rfl⟩:=ztl ht
  rw [z6w hl hx]; omega
 ·intro hge
  unfold offW at hge
  rw [List.getElem?_append_right (by omega),List.getElem?_append_right (by omega)] at e
  obtain⟨t,ht,hx⟩:=List.mem_flatten.1 (List.mem_of_getElem? e)
  obtain⟨u,u1,_,rfl⟩:=zux ht
  rw [z6w hl hx]; omega
section
variable (φ:Nat) {p:Pool} {l:List zd} (hl:FewL l) {w:Int} (w0:0<=w) (w1:w <(p.fleet.wagons.length:Int))
include hl w0 w1
theorem yn4:RunW (bsB φ p l) w (offW p l w.toNat) (offW p l w.toNat +(z42 p l w).length):=by
 have hw :((w.toNat:Nat):Int)=w:=by omega
 have hlt:w.toNat<p.fleet.wagons.length:=by omega
 have hle:=ylq p l hlt
 rw [hw] at hle
 have hlen:=y7w φ p l
 have wg:∀ k,k <(zf p l).flatten.length->wgE (bsB φ p l) k =(gt (zf p l).flatten (k:Int)).visit.wagon:=fun k hk=>by
  unfold wgE; rw [ylp φ p l hk]; rfl
 refine⟨by omega,by omega,fun k k1 k2=>?_,fun k hk=>?_,fun h=>?_,fun h=>?_⟩
 ·rw [wg k (by omega)]
  have:=yew p l hlt (i:=k-offW p l w.toNat) (by rw [hw]; omega)
  rw [show offW p l w.toNat +(k-offW p l w.toNat)=k by omega,hw] at this
  rw [this]
  exact z6w hl (z0p (by omega) (by omega))
 ·rw [wg k (by omega)]
  have:=(zm5 hl hlt (k:=k) (by omega)).1 hk
  omega
 ·rw [wg _ (by omega)]
  by_cases hz :(z42 p l w).length=0
  ·have:=(zm5 hl hlt (k:=offW p l w.toNat) (by omega)).2 (by rw [hw]; omega)
   omega
  ·have:=yew p l hlt (i:=0) (by rw [hw]; omega)
   rw [Nat.add_zero,hw] at this
   rw [this,z6w hl (z0p (by omega) (by omega))]
   omega
 ·rw [wg _ (by omega)]
  have:=(zm5 hl hlt (k:=offW p l w.toNat +(z42 p l w).length) (by omega)).2 (by rw [hw]; omega)
  omega
theorem yh2 {f e:Nat} (hR:RunW (bsB φ p l) w f e) {k:Nat} (hk:k <(bsB φ p l).e.length) (h:wgE (bsB φ p l) k=w):f<=k/\k<e:=by
 have hw :((w.toNat:Nat):Int)=w:=by omega
 have hlt:w.toNat<p.fleet.wagons.length:=by omega
 obtain⟨rfl,rfl⟩:=hR.uniq (yn4 φ hl w0 w1)
 rw [y7w] at hk
 unfold wgE at h
 rw [ylp φ p l hk] at h
 change (gt (zf p l).flatten (k:Int)).visit.wagon=w at h
 have h2:=zm5 hl hlt hk
 rw [hw] at h2
 constructor
 ·by_cases q:k<offW p l w.toNat
  ·have:=h2.1 q; omega
  ·omega
 ·by_cases q:offW p l w.toNat +(z42 p l w).length<=k
  ·have:=h2.2 q; omega
  ·omega
end
end Px
end
section
namespace Px
open Go
theorem yrf:zmh 100000000=some (true,()):=by kernel_rfl
end Px
end
section
namespace Px
open Go
theorem ykk (φ:Nat) (hφ:1000<φ) (p:Pool) (l:List zd):∃ b,zoa φ p l=some (b,())/\(b=true->FewL l/\l.length<=8/\p.network.places.length<=16/\p.network.edges.length<=40/\p.fleet.wagons.length<=8/\p.readers.length<=8)/\
  (b=true->∀ r∈l,r.item.parts.length<=40/\r.item.text.size<=2000):=by
 obtain⟨b1,h1,h2⟩:=yk0 φ hφ p
 obtain⟨b2,h3,h4,h5⟩:=yox φ hφ l 8 (by omega)
 unfold zoa
 rw [h1,Option.bind_some]
 cases b1 with
 | false=>
  rw [gz_f (by simp),Option.bind_some]
  exact⟨_,rfl,(fun h=>by cases h),fun h=>by cases h⟩
 | true=>
  have h3':z5y φ l 8=some (b2,()):=h3
  rw [gz_t rfl,h3',Option.bind_some]
  refine⟨_,rfl,fun h=>?_,fun h=>(h5.1 h).2⟩
  obtain⟨q1,q2⟩:=h4 h
  obtain⟨a1,a2,a3,a4⟩:=h2 rfl
  exact⟨q1,q2,a1,a2,a3,a4⟩
end Px
end
section
namespace Px
open Go
theorem y0c (φ:Nat) (x:List Int) (hb:x.length<φ) (h:x.length<=100000000):z7u φ x x=some (true,()):=by
 unfold z7u
 rw [if_neg (by simp)]
 refine zr (fun n i (_:Unit)=>z3n φ n x x i) x.length (fun _ _=>True) (fun o=>o=some (true,())) ?_ ?_ φ () trivial hb
 ·intro n i _ hi _ hs
  rw [z3n,if_pos (by simp; omega),z7 ⟨by omega,by omega⟩,z7 ⟨by omega,by omega⟩,if_neg (by simp),W_id (by omega) (by omega)]
  exact hs () trivial
 ·intro n _ _
  rw [z3n,if_neg (by simp)]
theorem yns (φ:Nat) (p:Pool) {l:List zd} (hl:l.length<=100) :(slv φ p l).2.1.length<=200:=by
 unfold slv
 by_cases hc:zt p=0
 ·rw [if_neg (show ¬ zt p≠0 from fun h=>h hc)]
  have:=(yde (φ:=φ) hc hl).2.2.1
  split
  ·simp
  ·split
   ·simp
   ·simp only [visL,List.length_map]; omega
 ·rw [if_pos hc]; simp
end Px
end
section
namespace Px
open Go
def inB (s:ByteArray) (c:Int):Bool:=(List.range s.size).any fun(i:Nat)=>z6c s (i:Int)==c
theorem ydb (φ:Nat) (s:ByteArray) (c:Int) (hs:s.size<=100):∀(n i:Nat),i<=s.size->s.size<n+i->((List.range i).any fun(j:Nat)=>z6c s (j:Int)==c)=false->zf7 φ n s c (i:Int)=some (inB s c,())
 | 0,i,h1,h2,_=>by omega
 | n+1,i,h1,h2,h3=>by
  rw [zf7]
  by_cases h:i<s.size
  ·rw [if_pos (by simp; omega),z7 ⟨by omega,by omega⟩,W_id (by omega) (by omega)]
   by_cases hc :(z6c s (i:Int)==c)=true
   ·rw [if_pos hc]
    have:inB s c=true:=List.any_eq_true.2 ⟨i,List.mem_range.2 h,hc⟩
    rw [this]
   ·rw [if_neg hc]
    have:=ydb φ s c hs n (i+1) (by omega) (by omega) (by rw [List.range_succ,List.any_append,h3]; simpa using hc)
    simpa using this
  ·rw [if_neg (by simp; omega)]
   have:i=s.size:=by omega
   subst this
   unfold inB
   rw [h3]
theorem yn8 (φ:Nat) (s:ByteArray) (c:Int) (hs:s.size<=100) (hφ:200<φ):zb0 φ s c=some (inB s c,()):=by
 have:=ydb φ s c hs φ 0 (by omega) (by omega) (by simp)
 simpa [zb0] using this
def zwm (k:Int):ByteArray:=
 if k=1 then zlj else if k=2 then zef else if k=3\/k=4\/k=6 then z6a else if k=5 then zmz else if k=7 then zet else if k=8 then zn6
 else if k=9 then zn5 else if k=10 then ztq else if k=11\/k=12 then zk2 else if k=13 then zuy else if k=15 then zn4 else⟨#[]⟩
theorem yo5 (φ:Nat) (k:Int):zmg φ k=some (zwm k,()):=by
 unfold zmg zdi zd1 zwm
 by_cases h1:k=1; · simp [h1]
 by_cases h2:k=2; · simp [h2]
 by_cases h3:k=3; · simp [h3]
 by_cases h4:k=4; · simp [h4]
 by_cases h5:k=5; · simp [h5]
 by_cases h6:k=6; · simp [h6]
 by_cases h7:k=7; · simp [h7]
 by_cases h8:k=8; · simp [h8]
 by_cases h9:k=9; · simp [h9]
 by_cases h10:k=10; · simp [h10]
 by_cases h11:k=11; · simp [h11]
 by_cases h12:k=12; · simp [h12]
 by_cases h13:k=13; · simp [h13]
 by_cases h15:k=15; · simp [h15]
 simp [h1,h2,h3,h4,h5,h6,h7,h8,h9,h10,h11,h12,h13,h15]
theorem ye2 (k:Int) :(zwm k).size<=8:=by
 unfold zwm
 repeat' split
 all_goals decide
def zpp (p:Pool) (it:Item):Bool:=bet it.place 0 ((p.network.places.length:Int)-1)&&(if it.kind=3\/it.kind=4 then(gt p.network.places it.place).kind==3 else if it.kind=9 then(gt p.network.places it.place).kind==5 else true)
def zru (p:Pool) (it:Item):Bool:=if it.kind=1 then bet it.other 0 ((p.readers.length:Int)-1) else if it.kind=3\/it.kind=4 then(it.other==(gt p.network.places it.place).railway||it.other==(gt p.network.places it.place).other)
 else if it.kind=10 then bet it.other 0 63 else bet it.other 0 ((p.shippers.length:Int)-1)
def zku (p:Pool) (it:Item):Bool:=if it.kind=5 then bet it.number 1 1000000000 else if it.kind=15 then bet it.number 0 ((p.fleet.types.length:Int)-1) else bet it.number 1 6
def y1p (it:Item):Bool:=if it.kind=3\/it.kind=4 then bet it.code 0 8 else if it.kind=6 then bet it.code 0 1 else if it.kind=8 then bet it.code 1 9 else bet it.code 1 2
def zhl (p:Pool) (it:Item) (c:Int):Bool:=
 if c=119 then bet it.wagon 0 ((p.fleet.wagons.length:Int)-1) else if c=112 then zpp p it else if c=111 then zru p it else if c=110 then zku p it else if c=102 then bet it.from_ 0 1073741824
 else if c=116 then bet it.to it.from_ 1073741824 else if c=99 then y1p it else if c=100 then bet it.dest 0 ((p.network.places.length:Int)-1) else if c=107 then bet it.class_ 0 63
 else if c=103 then(if it.kind=15 then bet it.weight 1 1000 else bet it.weight 0 1000000) else bet it.amount 0 1000000000
def zju (it:Item) (c:Int):Int:=
 if c=119 then it.wagon else if c=112 then it.place else if c=111 then it.other else if c=110 then it.number else if c=102 then it.from_ else if c=116 then it.to else if c=99 then it.code else if c=100 then it.dest else if c=107 then it.class_ else if c=103 then it.weight else it.amount
theorem yl3 (φ:Nat) (it:Item) (c:Int):zey φ it c=some (zju it c,()):=by
 unfold zey zju
 simp only [beq_iff_eq]
 repeat' split
 all_goals rfl
structure PSz (p:Pool):Prop where
 w:p.fleet.wagons.length<=4096
 r:p.readers.length<=256
 s:p.shippers.length<=256
 pl:p.network.places.length<=512
 t:p.fleet.types.length<=32
theorem ykq (φ:Nat) {p:Pool} (hp:PSz p) (it:Item) (c:Int) (h:c=111->it.kind=3\/it.kind=4->0<=it.place/\it.place <(p.network.places.length:Int)):zer φ p it c=some (zhl p it c,()):=by
 obtain⟨h1,h2,h3,h4,h5⟩:=hp
 have w1:W ((p.fleet.wagons.length:Int)-1) =(p.fleet.wagons.length:Int)-1:=W_id (by omega) (by omega)
 have w2:W ((p.readers.length:Int)-1) =(p.readers.length:Int)-1:=W_id (by omega) (by omega)
 have w3:W ((p.shippers.length:Int)-1) =(p.shippers.length:Int)-1:=W_id (by omega) (by omega)
 have w4:W ((p.network.places.length:Int)-1) =(p.network.places.length:Int)-1:=W_id (by omega) (by omega)
 have w5:W ((p.fleet.types.length:Int)-1) =(p.fleet.types.length:Int)-1:=W_id (by omega) (by omega)
 unfold zer zhl
 by_cases c1:c=119
 ·simp [c1,zh,w1,bet]
 by_cases c2:c=112
 ·simp only [c2,Int.reduceBEq,Int.reduceEq,if_false,if_true,Bool.false_eq_true,zo0,zh,w4,Option.bind_some]
  unfold zpp
  change _=some (bet it.place 0 ((p.network.places.length:Int)-1)&&_,())
  cases hb:bet it.place 0 ((p.network.places.length:Int)-1) with
  | false=>
   change (decide _&&decide _)=false at hb
   rw [hb]; rfl
  | true=>
   have hb2:=zt7 hb
   change (decide _&&decide _)=true at hb
   rw [hb]
   simp only [Bool.not_true,Bool.false_eq_true,if_false,Bool.true_and]
   rw [z7 (by omega)]
   unfold zb8
   by_cases k3:it.kind=3
   ·simp [k3]
   by_cases k4:it.kind=4
   ·simp [k4]
   by_cases k9:it.kind=9
   ·simp [k9]
   ·simp [k3,k4,k9]
 by_cases c3:c=111
 ·have hin:=h c3
  simp only [c3,Int.reduceBEq,Int.reduceEq,if_false,if_true,Bool.false_eq_true,zny,zbj,zh,w2,w3,Option.bind_some]
  unfold zru
  by_cases k1:it.kind=1
  ·simp [k1,bet]
  by_cases k3:it.kind=3
  ·have:=hin (.inl k3)
   simp [k3,z7 this]
  by_cases k4:it.kind=4
  ·have:=hin (.inr k4)
   simp [k4,z7 this]
  by_cases k10:it.kind=10
  ·simp [k10,bet]
  ·simp [k1,k3,k4,k10,bet]
 by_cases c4:c=110
 ·simp only [c4,Int.reduceBEq,Int.reduceEq,if_false,if_true,Bool.false_eq_true,zl5,zh,w5,Option.bind_some]
  unfold zku
  by_cases k5:it.kind=5
  ·simp [k5,bet]
  by_cases k15:it.kind=15
  ·simp [k15,bet]
  ·simp [k5,k15,bet]
 by_cases c5:c=102
 ·simp [c5,zh,bet]
 by_cases c6:c=116
 ·simp [c6,zh,bet]
 by_cases c7:c=99
 ·simp only [c7,Int.reduceBEq,Int.reduceEq,if_false,if_true,Bool.false_eq_true,zq9,zct,zh,Option.bind_some]
  unfold y1p
  by_cases k3:it.kind=3
  ·simp [k3,bet]
  by_cases k4:it.kind=4
  ·simp [k4,bet]
  by_cases k6:it.kind=6
  ·simp [k6,bet]
  by_cases k8:it.kind=8
  ·simp [k8,bet]
  ·simp [k3,k4,k6,k8,bet]
 by_cases c8:c=100
 ·simp [c8,zh,w4,bet]
 by_cases c9:c=107
 ·simp [c9,zh,bet]
 by_cases c10:c=103
 ·by_cases k15:it.kind=15
  ·simp [c10,k15,zh,bet]
  ·simp [c10,k15,zh,bet]
 ·simp [c1,c2,c3,c4,c5,c6,c7,c8,c9,c10,zh,bet]
def zc7 (k:Int) (x:Part):Bool:=(bet x.kind 1 3&&bet x.serial 0 1073741824)&&!((k==10)&&x.fitted)
def zpj (it:Item):Bool:=(decide (it.parts.length<=16)&&!((it.kind==10)&&(it.parts.length==0)))&&it.parts.all (zc7 it.kind)
theorem yja (φ:Nat) (hφ:100<φ) (it:Item):zi6 φ it=some (zpj it,()):=by
 unfold zi6 zpj
 by_cases h:16<it.parts.length
 ·rw [if_pos (by simp; omega)]
  rw [decide_eq_false (show ¬ it.parts.length<=16 by omega)]; rfl
 rw [decide_eq_true (show it.parts.length<=16 by omega),Bool.true_and]
 by_cases h2 :((it.kind==10)&&(it.parts.length==0))=true
 ·rw [if_pos (by simp at h2 ⊢; exact .inr h2),h2]; rfl
 ·rw [if_neg (by simp at h2 ⊢; exact⟨by omega,h2⟩),Bool.not_eq_true _ |>.mp h2]
  simp only [Bool.not_false,Bool.true_and]
  refine zr (fun n i (_:Unit)=>z69 φ n i it) it.parts.length (fun i _=>(it.parts.take i).all (zc7 it.kind)=true) (fun o=>o=some (it.parts.all (zc7 it.kind),())) ?_ ?_ φ () (by simp) (by omega)
  ·intro n i _ hi hI hk
   rw [z69,if_pos (by simp; omega),z7 ⟨by omega,by omega⟩,W_id (by omega) (by omega)]
   have key:zc7 it.kind (gt it.parts (i:Int))=false->it.parts.all (zc7 it.kind)=false:=fun hf=>by
    rw [List.all_eq_false]
    exact⟨_,z0p (l:=it.parts) (i:=(i:Int)) (by omega) (by omega),by rw [hf]; simp⟩
   have hnext:zc7 it.kind (gt it.parts (i:Int))=true->(it.parts.take (i+1)).all (zc7 it.kind)=true:=fun ht=>by rw [zpv _ _ _ hi,hI,ht]; rfl
   have e:zc7 it.kind (gt it.parts (i:Int)) =((bet (gt it.parts (i:Int)).kind 1 3&&bet (gt it.parts (i:Int)).serial 0 1073741824)&&!((it.kind==10)&&(gt it.parts (i:Int)).fitted)):=rfl
   rw [e] at key hnext
   clear e
   simp only [zh,Option.bind_some]
   change ((zp (default,()) ((!bet (gt it.parts (i:Int)).kind 1 3)=false) (some (bet (gt it.parts (i:Int)).serial 0 1073741824,()))).bind fun y6=>if(((!bet (gt it.parts (i:Int)).kind 1 3)||(!y6.1))||(((it.kind:Int)==10)&&(gt it.parts (i:Int)).fitted))=true then _ else _)=_
   generalize bet (gt it.parts (i:Int)).kind 1 3=a at *
   generalize bet (gt it.parts (i:Int)).serial 0 1073741824=b at *
   generalize (((it.kind:Int)==10)&&(gt it.parts (i:Int)).fitted)=d at *
   cases a <;> cases b <;> cases d <;> simp only [zp,Bool.not_true,Bool.not_false,Bool.false_eq_true,Bool.true_eq_false,if_true,if_false,Option.bind_some,Bool.or_true,Bool.true_or,Bool.or_false,Bool.false_or]
   all_goals first |(rw [key rfl]) | exact hk () (hnext rfl)
  ·intro n _ hI
   rw [List.take_length] at hI
   rw [z69,if_neg (by simp),hI]
def zol (p:Pool) (it:Item) (u:ByteArray) (c:Int):Bool:=if inB u c=true then zhl p it c else zju it c==0
def letB (i:Nat):Int:=z6c z3q (i:Int)
def ybp (it:Item) (u:ByteArray):Bool:=((inB u 120==(it.text !=(⟨#[]⟩:ByteArray)))&&decide ((it.text.size:Int)<=2000))&&(if inB u 113=true then(zpj it||false) else((it.parts.length:Int)==0))
theorem ypq {u:ByteArray} {p:Pool} {it:Item} (hall :(List.range 2).all (fun i=>zol p it u (letB i))=true) (hu:inB u 112=true):0<=it.place/\it.place <(p.network.places.length:Int):=by
 have:=List.all_eq_true.1 hall 1 (by simp)
 unfold zol at this
 rw [show letB 1=112 from by decide,if_pos hu] at this
 unfold zhl zpp at this
 simp at this
 have h2:=zt7 this.1
 omega
theorem ycj (φ:Nat) (hφ:300<φ) {p:Pool} (hp:PSz p) (it:Item) (u:ByteArray) (hu:u.size<=8) (hk:it.kind=3\/it.kind=4->inB u 112=true) :
  z3x φ φ u 0 p it=some (((List.range 11).all fun i=>zol p it u (letB i))&&ybp it u,()):=by
 refine zr (fun n i (_:Unit)=>z3x φ n u i p it) 11 (fun i _=>(List.range i).all (fun i=>zol p it u (letB i))=true) (fun o=>o=some (((List.range 11).all fun i=>zol p it u (letB i))&&ybp it u,())) ?_ ?_ φ () rfl (by omega)
 ·intro n i _ hi hI hkk
  have hsz:z3q.size=11:=by decide
  have hl:∀ b,zol p it u (letB i)=b->(List.range (i+1)).all (fun i=>zol p it u (letB i))=b:=fun b hb=>by
   rw [List.range_succ,List.all_append,hI]; simp [hb]
  have hbad:zol p it u (letB i)=false->(((List.range 11).all fun i=>zol p it u (letB i))&&ybp it u)=false:=fun hf=>by
   have :((List.range 11).all fun i=>zol p it u (letB i))=false:=by
    rw [List.all_eq_false]; exact⟨i,List.mem_range.2 hi,by rw [hf]; simp⟩
   rw [this]; rfl
  rw [z3x,if_pos (by simp; omega),z7 ⟨by omega,by rw [hsz]; omega⟩,W_id (by omega) (by omega)]
  change ((zb0 φ u (letB i)).bind fun y11=>((zp (default,()) (y11.1=true) (zer φ p it (letB i))).bind fun y12=>((zp (default,()) ((y11.1&&(!y12.1))=false) (zb0 φ u (letB i))).bind fun y13=>((zp (default,()) ((y11.1&&(!y12.1))=false/\(!y13.1)=true) (zey φ it (letB i))).bind fun y14=>(if((y11.1&&(!y12.1))||((!y13.1)&&((y14.1:Int) !=0)))=true then _ else _)))))=_
  rw [yn8 φ u _ (by omega) (by omega),Option.bind_some,yl3]
  have hr:letB i=111->it.kind=3\/it.kind=4->0<=it.place/\it.place <(p.network.places.length:Int):=by
   intro h1 h2
   have hi2:2<=i:=by
    have hc:∀ j:Nat,j<2->letB j≠111:=by decide
    by_cases hlt:i<2
    ·exact absurd h1 (hc i hlt)
    ·omega
   refine ypq (u:=u) (List.all_eq_true.2 fun j hj=>List.all_eq_true.1 hI j (by simp at hj ⊢; omega)) (hk h2)
  rw [ykq φ hp it _ hr]
  have e:zol p it u (letB i)=if inB u (letB i)=true then zhl p it (letB i) else zju it (letB i)==0:=rfl
  rw [e] at hl hbad
  clear e
  cases hin:inB u (letB i) with
  | true=>
   rw [if_pos hin] at hl hbad
   cases hrb:zhl p it (letB i) with
   | true=>simp [zp]; exact hkk () (hl true hrb)
   | false=>rw [hbad hrb]; simp [zp]
  | false=>
   rw [if_neg (by rw [hin]; simp)] at hl hbad
   by_cases hf:zju it (letB i)=0
   ·have:=hkk () (hl true (by rw [hf]; rfl))
    simp [zp,hf]; exact this
   ·rw [hbad (by simpa using hf)]
    simp [zp,hf]
 ·intro n _ hI
  rw [z3x,if_neg (by simp),hI,yn8 φ u _ (by omega) (by omega),yn8 φ u _ (by omega) (by omega),Option.bind_some,Option.bind_some,yja φ (by omega),Bool.true_and]
  unfold ybp
  cases h1:inB u 120==(it.text !=(⟨#[]⟩:ByteArray)) with
  | false=>rw [if_pos (by rw [Bool.or_eq_true]; left; rw [bne,h1]; rfl)]; rfl
  | true=>
   by_cases h2 :(it.text.size:Int)<=2000
   ·rw [if_neg (by rw [bne,h1]; simp; omega),decide_eq_true h2]
    cases h3:inB u 113 with
    | true=>by_cases h4:it.parts = [] <;> cases zpj it <;> simp [zp,h4]
    | false=>by_cases h4 :(it.parts.length:Int)=0 <;> simp [zp,h4]
   ·rw [if_pos (by rw [Bool.or_eq_true]; right; simp; omega),decide_eq_false h2]; rfl
def zxl (it:Item):Bool:=if(it.ref.railway=0/\it.ref.no=0) then it.kind !=14 else(bet it.ref.railway 0 15&&bet it.ref.no 1 4096)
theorem zzd (φ:Nat) (it:Item):z90 φ it=some (zxl it,()):=by
 unfold z90 zxl
 by_cases h:it.ref.railway=0/\it.ref.no=0
 ·rw [if_pos (by simpa using h),if_pos h]
 ·rw [if_neg (by simpa using h),if_neg h]
  simp only [zh,Option.bind_some]
  change ((zp (default,()) (bet it.ref.railway 0 15=true) (some (bet it.ref.no 1 4096,()))).bind fun y3=>some (bet it.ref.railway 0 15&&y3.1,()))=_
  cases bet it.ref.railway 0 15 <;> rfl
theorem yp3 (it:Item):y6m it=zxl it:=by
 unfold y6m zxl z7d
 by_cases h:it.ref.railway=0/\it.ref.no=0
 ·rw [if_pos (by simpa using h),if_pos h]; rfl
 ·rw [if_neg (by simpa using h),if_neg h]
  rw [Bool.eq_iff_iff]
  simp [bet]
  omega
def zex (p:Pool) (it:Item):Bool:=bet it.kind 1 15&&(((List.range 11).all fun i=>zol p it (zwm it.kind) (letB i))&&ybp it (zwm it.kind))
theorem ygm (φ:Nat) (hφ:300<φ) {p:Pool} (hp:PSz p) (it:Item):ze4 φ p it=some (y6m it&&zex p it,()):=by
 unfold ze4 zex
 rw [yo5,Option.bind_some,zzd,yp3,ycj φ hφ hp it _ (ye2 _) (fun h=>by
  have:it.kind=3\/it.kind=4\/it.kind=6:=by omega
  have h1:it.kind≠1:=by omega
  have h2:it.kind≠2:=by omega
  rw [zwm,if_neg h1,if_neg h2,if_pos this]; decide)]
 simp only [zh,Option.bind_some]
 change ((zp (default,()) ((!bet it.kind 1 15)=false) (some (zxl it,()))).bind fun y5=>if((!bet it.kind 1 15)||(!y5.1))=true then some (false,()) else _)=_
 cases bet it.kind 1 15 <;> cases zxl it <;> simp [zp]
end Px
end
section
namespace Px
open Go
set_option maxHeartbeats 4000000
def tabL (k:Int):List Int:=
 if k=1 then [119,111,102] else if k=2 then [119,112,102,116] else if k=3 then [119,112,111,102,99] else if k=4 then [119,112,111,102,99] else if k=5 then [110,119,111,112,100,107,103,102]
 else if k=6 then [119,112,111,102,99] else if k=7 then [119,112,111,102] else if k=8 then [119,102,99] else if k=9 then [119,112,102,116,99,97,113] else if k=10 then [111,113]
 else if k=11 then [110,102,120] else if k=12 then [110,102,120] else if k=13 then [110,102] else if k=15 then [111,112,107,110,103,102,116,97] else []
def zy3:List Int:=[119,112,111,110,102,116,99,100,107,103,97,120,113]
theorem yo7 :((List.range 16).all fun k=>zy3.all fun c=>inB (zwm (k:Int)) c==(tabL (k:Int)).contains c)=true:=by decide +kernel
theorem y9a {k c:Int} (h:1<=k/\k<=15) (hc:c∈zy3):inB (zwm k) c =(tabL k).contains c:=by
 have:=List.all_eq_true.1 yo7 k.toNat (List.mem_range.2 (by omega))
 have:=List.all_eq_true.1 this c hc
 rw [show ((k.toNat:Nat):Int)=k by omega] at this
 simpa using this
def sB (p:Pool) (it:Item) (c:Int):Bool:=if(tabL it.kind).contains c=true then zhl p it c else zju it c==0
def RF (p:Pool) (it:Item):Bool:=
 (sB p it 119&&(sB p it 112&&(sB p it 111&&(sB p it 110&&(sB p it 102&&(sB p it 116&&(sB p it 99&&(sB p it 100&&(sB p it 107&&(sB p it 103&&sB p it 97))))))))))&&
  ((((tabL it.kind).contains 120==(it.text !=(⟨#[]⟩:ByteArray)))&&decide ((it.text.size:Int)<=2000))&&(if(tabL it.kind).contains 113=true then zpj it else((it.parts.length:Int)==0)))
theorem y2g (p:Pool) (it:Item) (h:1<=it.kind/\it.kind<=15):zex p it=RF p it:=by
 unfold zex RF ybp
 rw [zgy.2 h,Bool.true_and,y9a h (c:=120) (by decide),y9a h (c:=113) (by decide),Bool.or_false]
 congr 1
 have e:∀ c∈zy3,zol p it (zwm it.kind) c=sB p it c:=fun c hc=>by unfold zol sB; rw [y9a h hc]
 have r:List.range 11 = [0,1,2,3,4,5,6,7,8,9,10]:=by decide
 rw [r]
 simp only [List.all_cons,List.all_nil,Bool.and_true]
 rw [show letB 0=119 from by decide,show letB 1=112 from by decide,show letB 2=111 from by decide,show letB 3=110 from by decide,show letB 4=102 from by decide,show letB 5=116 from by decide,show letB 6=99 from by decide,show letB 7=100 from by decide,show letB 8=107 from by decide,show letB 9=103 from by decide,show letB 10=97 from by decide]
 rw [e 119 (by decide),e 112 (by decide),e 111 (by decide),e 110 (by decide),e 102 (by decide),e 116 (by decide),e 99 (by decide),e 100 (by decide),e 107 (by decide),e 103 (by decide),e 97 (by decide)]
theorem zmf (s:ByteArray) :(s==(⟨#[]⟩:ByteArray))=decide ((s.size:Int)=0):=by
 obtain⟨a⟩:=s
 show (a==(#[]:Array UInt8))=decide ((a.size:Int)=0)
 rw [Bool.eq_iff_iff]
 simp
theorem yj2 (x:Part):zbx true x =(bet x.kind 1 3&&bet x.serial 0 1073741824):=by
 rw [Bool.eq_iff_iff]; unfold zbx
 simp [bet]; omega
theorem yjn (x:Part):zbx false x =((bet x.kind 1 3&&bet x.serial 0 1073741824)&&!x.fitted):=by
 rw [Bool.eq_iff_iff]; unfold zbx
 cases x.fitted <;> simp [bet] <;> omega
theorem yeg (it:Item) (h:it.kind=9):zpj it =(it.parts.all (zbx true)&&decide ((it.parts.length:Int)<=16)):=by
 have e:zc7 it.kind=zbx true:=by funext x; rw [yj2]; unfold zc7; rw [h]; simp
 unfold zpj
 rw [e,h]
 cases it.parts.all (zbx true) with
 | false=>simp
 | true=>simp; omega
theorem yax (it:Item) (h:it.kind=10):zpj it =((decide ((0:Int) <(it.parts.length:Int))&&it.parts.all (zbx false))&&decide ((it.parts.length:Int)<=16)):=by
 have e:zc7 it.kind=zbx false:=by funext x; rw [yjn]; unfold zc7; rw [h]; simp
 unfold zpj
 rw [e,h]
 cases it.parts.all (zbx false)
 ·simp
 ·generalize it.parts.length=m
  rw [Bool.eq_iff_iff]; simp; omega
theorem ykw (p:Pool) (it:Item) (hp:PSz p) (hparts:it.parts.length<=1000) (hpk:∀ x∈p.network.places,1<=x.kind):∃ b,(∀ φ,1000<φ->z0n φ p it=some (b,()))/\b=zex p it:=by
 obtain⟨hw,hr,hs,hpl,ht⟩:=hp
 have w1:W ((p.fleet.wagons.length:Int)-1) =(p.fleet.wagons.length:Int)-1:=W_id (by omega) (by omega)
 have w2:W ((p.readers.length:Int)-1) =(p.readers.length:Int)-1:=W_id (by omega) (by omega)
 have w3:W ((p.shippers.length:Int)-1) =(p.shippers.length:Int)-1:=W_id (by omega) (by omega)
 have w4:W ((p.network.places.length:Int)-1) =(p.network.places.length:Int)-1:=W_id (by omega) (by omega)
 have w5:W ((p.fleet.types.length:Int)-1) =(p.fleet.types.length:Int)-1:=W_id (by omega) (by omega)
 have hE :((⟨#[]⟩:ByteArray)=ByteArray.empty):=rfl
 have hm:∀ x z:Int,max2 x 0<=z↔x<=z/\0<=z:=by intro x z; unfold max2; split <;> omega
 by_cases hk0:it.kind<1
 ·refine⟨false,fun φ hφ=>?_,?_⟩
  ·unfold z0n zg
   rw [if_pos (by simp; omega),if_pos (by simpa using hk0)]
   simp
  ·unfold zex
   rw [show bet it.kind 1 15=false by rw [<- Bool.not_eq_true,zgy]; omega]; rfl
 by_cases hk16:15<it.kind
 ·refine⟨false,fun φ hφ=>?_,?_⟩
  ·have e:∀ k:Int,k<=15->(it.kind==k)=false:=fun k hk=>by simp; omega
   unfold z0n
   rw [if_neg (by simp; omega)]
   simp [e,z1t,zg]
  ·unfold zex
   rw [show bet it.kind 1 15=false by rw [<- Bool.not_eq_true,zgy]; omega]; rfl
 rw [y2g p it (by omega)]
 have hcases:it.kind=1\/it.kind=2\/it.kind=3\/it.kind=4\/it.kind=5\/it.kind=6\/it.kind=7\/it.kind=8\/it.kind=9\/it.kind=10\/it.kind=11\/it.kind=12\/it.kind=13\/it.kind=14\/it.kind=15:=by omega
 by_cases hin:0<=it.place/\it.place <(p.network.places.length:Int)
 ·have e1 :(decide ((0:Int)<=it.place)&&decide ((it.place:Int) <(p.network.places.length:Int)))=true:=by simp [hin]
  have hpk1:=hpk _ (z0p hin.1 hin.2)
  rcases hcases with hk | hk | hk | hk | hk | hk | hk | hk | hk | hk | hk | hk | hk | hk | hk
  case inr.inr.inr.inr.inr.inr.inr.inr.inl=>
   refine⟨_,fun φ hφ=>by
    unfold z0n
    simp only [hk,e1,z4q,z7 hin,w1,w2,w3,w4,w5,z5h φ _ _ hparts hφ,Option.bind_some,Int.reduceLE,Int.reduceLT,Int.reduceBEq,decide_true,decide_false,if_true,Bool.false_eq_true,if_false]
    refine(zrq _ _ (fun b=>zg φ ⟨_,_,b⟩)).trans ?_
    unfold zg
    rfl,?_⟩
   unfold RF sB
   rw [yeg it hk]
   simp only [bne,zmf,hk,tabL,zhl,zju,zpp,zru,zku,y1p]
   rw [Bool.eq_iff_iff]
   generalize it.parts.all (zbx true)=al
   generalize it.text.size=n
   generalize it.parts.length=m
   cases al <;> simp [bet,hm,hE] <;> omega
  case inr.inr.inr.inr.inr.inr.inr.inr.inr.inl=>
   refine⟨_,fun φ hφ=>by
    unfold z0n
    simp only [hk,e1,z7 hin,w1,w2,w3,w4,w5,z5h φ _ _ hparts hφ,Option.bind_some,Int.reduceLE,Int.reduceLT,Int.reduceBEq,decide_true,decide_false,if_true,Bool.false_eq_true,if_false]
    refine(zrq _ _ (fun b=>zg φ ⟨_,_,b⟩)).trans ?_
    unfold zg
    rfl,?_⟩
   unfold RF sB
   rw [yax it hk]
   simp only [bne,zmf,hk,tabL,zhl,zju,zpp,zru,zku,y1p]
   rw [Bool.eq_iff_iff]
   generalize it.parts.all (zbx false)=al
   generalize it.text.size=n
   generalize it.parts.length=m
   cases al <;> simp [bet,hm,hE] <;> omega
  all_goals
   refine⟨_,fun φ hφ=>by
    unfold z0n
    simp only [hk,e1,z5k,z4k,z4i,z4n,z4o,z4r,z1t,z4t,zg,z7 hin,w1,w2,w3,w4,w5,Option.bind_some,Int.reduceLE,Int.reduceLT,Int.reduceBEq,Int.reduceBNe,Int.reduceNe,decide_true,decide_false,if_true,Bool.false_eq_true,if_false]
    rfl,?_⟩
   unfold RF sB
   simp only [bne,zmf,hk,tabL,zhl,zju,zpp,zru,zku,y1p]
   generalize it.text.size=n
   generalize it.parts.length=m
   rw [Bool.eq_iff_iff]
   simp [bet,hm,hE]
   omega
 ·have e1 :(decide ((0:Int)<=it.place)&&decide ((it.place:Int) <(p.network.places.length:Int)))=false:=by
   rw [<- Bool.not_eq_true]; simpa using hin
  rcases hcases with hk | hk | hk | hk | hk | hk | hk | hk | hk | hk | hk | hk | hk | hk | hk
  case inr.inr.inr.inr.inr.inr.inr.inr.inl=>
   refine⟨_,fun φ hφ=>by
    unfold z0n
    simp only [hk,e1,z4q,w1,w2,w3,w4,w5,z5h φ _ _ hparts hφ,Option.bind_some,Int.reduceLE,Int.reduceLT,Int.reduceBEq,decide_true,decide_false,if_true,Bool.false_eq_true,if_false]
    refine(zrq _ _ (fun b=>zg φ ⟨_,_,b⟩)).trans ?_
    unfold zg
    rfl,?_⟩
   unfold RF sB
   rw [yeg it hk]
   simp only [bne,zmf,hk,tabL,zhl,zju,zpp,zru,zku,y1p]
   rw [Bool.eq_iff_iff]
   generalize it.parts.all (zbx true)=al
   generalize it.text.size=n
   generalize it.parts.length=m
   cases al <;> simp [bet,hm,hE] <;> omega
  case inr.inr.inr.inr.inr.inr.inr.inr.inr.inl=>
   refine⟨_,fun φ hφ=>by
    unfold z0n
    simp only [hk,e1,w1,w2,w3,w4,w5,z5h φ _ _ hparts hφ,Option.bind_some,Int.reduceLE,Int.reduceLT,Int.reduceBEq,decide_true,decide_false,if_true,Bool.false_eq_true,if_false]
    refine(zrq _ _ (fun b=>zg φ ⟨_,_,b⟩)).trans ?_
    unfold zg
    rfl,?_⟩
   unfold RF sB
   rw [yax it hk]
   simp only [bne,zmf,hk,tabL,zhl,zju,zpp,zru,zku,y1p]
   rw [Bool.eq_iff_iff]
   generalize it.parts.all (zbx false)=al
   generalize it.text.size=n
   generalize it.parts.length=m
   cases al <;> simp [bet,hm,hE] <;> omega
  all_goals
   refine⟨_,fun φ hφ=>by
    unfold z0n
    simp only [hk,e1,z5k,z4k,z4i,z4n,z4o,z4r,z1t,z4t,zg,w1,w2,w3,w4,w5,Option.bind_some,Int.reduceLE,Int.reduceLT,Int.reduceBEq,Int.reduceBNe,Int.reduceNe,decide_true,decide_false,if_true,Bool.false_eq_true,if_false]
    rfl,?_⟩
   unfold RF sB
   simp only [bne,zmf,hk,tabL,zhl,zju,zpp,zru,zku,y1p]
   generalize it.text.size=n
   generalize it.parts.length=m
   rw [Bool.eq_iff_iff]
   simp [bet,hm,hE]
   omega
theorem psz {p:Pool} (hc:zt p=0):PSz p/\∀ x∈p.network.places,1<=x.kind:=by
 obtain⟨hn,hf,h1,h2,h3,_⟩:=z3m hc
 obtain⟨n1,n2,n3,n4⟩:=zej hn
 obtain⟨f1,f2,f3⟩:=z6n hf
 refine⟨⟨by omega,by omega,by omega,by omega,by omega⟩,fun x hx=>?_⟩
 have:=n3 x hx
 unfold z9j at this
 simp only [Bool.and_eq_true] at this
 exact(zt7 this.1.1).1
theorem ykh (φ:Nat) (hφ:300<φ) {p:Pool} (hc:zt p=0) {it:Item} (hparts:it.parts.length<=1000):ze4 φ p it=some (zhh p it,()):=by
 obtain⟨hp,hk⟩:=psz hc
 rw [ygm φ hφ hp]
 obtain⟨b,h1,h2⟩:=ykw p it hp hparts hk
 have h3:=(ztn hc hparts).1 2000 (by omega)
 rw [h1 2000 (by omega)] at h3
 simp only [Option.some.injEq,Prod.mk.injEq,and_true] at h3
 unfold zhh
 rw [<- h2,h3]
end Px
end
section
namespace Px
open Go
theorem yft (φ:Nat) (hφ:800000<φ) {p:Pool} (hc:zt p=0) {l:List zd} (hl:FewL l):z7c φ p l=some (cnt p l,0,()):=by
 have h1:=hl.len
 unfold z7c
 rw [z8s _ hφ,Option.bind_some,if_neg (by simp [hc])]
 refine zr (fun n i acc=>z3c φ n l i p acc) l.length (fun i acc=>acc=cntN p l i) (fun o=>o=some (cnt p l,0,())) ?_ ?_ φ [] rfl (by omega)
 ·intro n i acc hi hacc hs
  rw [z3c,if_pos (by simp; omega),z7 ⟨by omega,by omega⟩,ykh φ (by omega) hc (hl.gt (by omega) (by omega)),Option.bind_some,W_id (by omega) (by omega)]
  have hs':=hs (cntN p l (i+1)) rfl
  rw [y4b] at hs'
  cases h:zhh p (gt l (i:Int)).item with
  | true=>
   rw [h] at hs'
   rw [if_pos (by rfl),z7 (zgg (by have:=zfy p l i; rw [hacc]; simp; omega) (by omega)),hacc]
   exact hs'
  | false=>
   rw [h] at hs'
   simp only [cond_false,List.append_nil] at hs'
   rw [if_neg (by decide),hacc]
   exact hs'
 ·intro n acc hacc
  rw [z3c,if_neg (by simp),hacc]; rfl
theorem y6t (φ:Nat) (hφ:800000<φ) {p:Pool} (hc:zt p≠0) (l:List zd):z7c φ p l=some ([],zt p,()):=by
 unfold z7c
 rw [z8s _ hφ,Option.bind_some,if_pos (by simpa using hc)]
def rE (e:z6):zb:=⟨e.visit.place,e.visit.early,e.visit.ref,e.second,e.report,e.stay,e.reader,e.visit.stay⟩
theorem yje (φ:Nat) (p:Pool) (r:zd) (i:Int) (h:r.item.kind=1->0<=r.item.other/\r.item.other <(p.readers.length:Int)):z2n φ p r i=some ((evs p r i).map rE,()):=by
 by_cases h1:r.item.kind=1
 ·have h':=h h1
  simp [z2n,evs,h1,z7 h',z3f,rE]
 by_cases h2:r.item.kind=2
 ·simp [z2n,evs,h2,z1c,z3f,rE]
 by_cases h9:r.item.kind=9
 ·simp [z2n,evs,h9,z1c,z3f,rE]
 by_cases h3:r.item.kind=3
 ·simp [z2n,evs,h3,z1c,z3f,rE]
 by_cases h4:r.item.kind=4
 ·simp [z2n,evs,h4,z1c,z3f,rE]
 by_cases h6:r.item.kind=6
 ·simp [z2n,evs,h6,z1c,z3f,rE]
 by_cases h7:r.item.kind=7
 ·simp [z2n,evs,h7,z1c,z3f,rE]
 ·simp [z2n,evs,h1,h2,h9,h3,h4,h6,h7,z1c]
theorem ykx (φ:Nat) (a b:z6):zgd φ (rE a) (rE b)=some (ltEv a b,()):=by
 unfold zgd zkb ltEv rE
 have hd:decide (cfEv a b<0)=decide (a.visit.early<b.visit.early\/(a.visit.early=b.visit.early/\(a.visit.ref.railway<b.visit.ref.railway\/(a.visit.ref.railway=b.visit.ref.railway/\(a.visit.ref.no<b.visit.ref.no\/(a.visit.ref.no=b.visit.ref.no/\
  (ordB a.second<ordB b.second\/(ordB a.second=ordB b.second/\a.report<b.report)))))))):=decide_eq_decide.2 zgr
 rw [hd]
 by_cases h1:a.visit.early=b.visit.early
 ·rw [if_neg (by simp [h1])]
  by_cases h2:a.visit.ref.railway=b.visit.ref.railway
  ·by_cases h3:a.visit.ref.no=b.visit.ref.no
   ·rw [if_neg (by simp [h2,h3])]
    cases ha:a.second <;> cases hb:b.second <;> simp [h1,h2,h3,ordB]
   ·rw [if_pos (by simp [h3]),Option.bind_some]
    simp [h1,h2,h3]
  ·rw [if_pos (by simp [h2]),Option.bind_some]
   simp [h1,h2]
 ·rw [if_pos (by simpa using h1)]
  simp [h1]
theorem yni {α β:Type} [Inhabited β] (f:α->β) (a:List α) (x:α) (b:List α):gt ((a++x::b).map f) (a.length:Int)=f x:=by
 rw [List.map_append,List.map_cons]
 have:=yfn (a.map f) (f x) (b.map f)
 rwa [List.length_map] at this
theorem y7l (φ:Nat) (x:z6) (N:Nat) (hN:N<=10000):∀(n:Nat) (b a:List z6),b.length<n->a.length+b.length=N->
  z5f φ n ((a++b).map rE) (a.length:Int) (rE x)=some ((a++insL ltEv x b).map rE,()):=by
 intro n
 induction n with
 | zero=>intro b a h; omega
 | succ n ih=>
  intro b a hn hl
  have fin:∀ g:zb->zb,(ck ((0:Int)<=0/\0<=(a.length:Int)/\(a.length:Int)<=(((a++b).map rE).length:Int)) (ck (fits (([]:List zb).length +(z2k ((a++b).map rE) (0:Int).toNat (a.length:Int).toNat).length) 72) (ck (fits ((([]:List zb)++(z2k ((a++b).map rE) (0:Int).toNat (a.length:Int).toNat)).length +([rE x]).length) 72) (ck ((0:Int)<=(a.length:Int)/\(a.length:Int)<=(((a++b).map rE).length:Int)/\(((a++b).map rE).length:Int)<=(((a++b).map rE).length:Int)) (ck (fits ((((([]:List zb)++(z2k ((a++b).map rE) (0:Int).toNat (a.length:Int).toNat))++[rE x])).length +(z2k ((a++b).map rE) (a.length:Int).toNat ((((a++b).map rE).length:Int):Int).toNat).length) 72) (some ((((([]:List zb)++(z2k ((a++b).map rE) (0:Int).toNat (a.length:Int).toNat))++[rE x])++(z2k ((a++b).map rE) (a.length:Int).toNat ((((a++b).map rE).length:Int):Int).toNat)),())))))))
    = some ((a++x::b).map rE,()):=by
   intro _
   have e1:z2k ((a++b).map rE) (0:Int).toNat (a.length:Int).toNat=a.map rE:=by
    unfold z2k
    simp
   have e2:z2k ((a++b).map rE) (a.length:Int).toNat ((((a++b).map rE).length:Int):Int).toNat=b.map rE:=by
    unfold z2k
    rw [Int.toNat_natCast,Int.toNat_natCast,List.take_length,List.map_append,List.drop_append_of_le_length (by simp)]
    simp
   rw [e1,e2,z7 ⟨by omega,by omega,by simp; omega⟩,z7 (zgg (by simp; omega) (by omega)),z7 (zgg (by simp; omega) (by omega)),z7 ⟨by omega,by simp; omega,by omega⟩,z7 (zgg (by simp; omega) (by omega))]
   simp
  cases b with
  | nil=>
   rw [z5f,z7 (fun h=>by simp at h),gz_f (by simp),Option.bind_some,if_neg (by simp)]
   exact fin id
  | cons y b=>
   simp only [List.length_cons] at hn hl
   have hin :(0:Int)<=(a.length:Int)/\(a.length:Int) <(((a++y::b).map rE).length:Int):=⟨by omega,by simp; omega⟩
   rw [z5f,z7 (fun _=>hin),gz_t (by simp; omega),yni,ykx,Option.bind_some]
   cases h:ltEv y x with
   | true=>
    rw [if_pos (by simp; omega),W_id (by omega) (by omega)]
    have:=ih b (a++[y]) (by omega) (by simp; omega)
    simp only [List.length_append,List.length_cons,List.length_nil,List.append_assoc,List.cons_append,List.nil_append] at this
    rw [show (a.length:Int)+1 =((a.length +(0+1):Nat):Int) by omega,this]
    simp [insL,h]
   | false=>
    rw [if_neg (by simp)]
    have:=fin id
    rw [show insL ltEv x (y::b)=x::y::b by simp [insL,h]]
    exact this
theorem yjv (φ:Nat) (hφ:20000<φ) (x:z6) (t:List z6) (ht:t.length<=10000):zft φ (t.map rE) (rE x)=some ((insL ltEv x t).map rE,()):=by
 have:=y7l φ x t.length ht φ t [] (by omega) (by simp)
 simpa [zft] using this
def insF (t:List z6) (l:List z6):List z6:=l.foldl (fun t x=>insL ltEv x t) t
theorem y5e (l:List z6):∀ t,(insF t l).Perm (l++t):=by
 induction l with
 | nil=>intro t; exact List.Perm.refl _
 | cons x l ih=>
  intro t
  refine(ih (insL ltEv x t)).trans ?_
  refine((zpe ltEv x t).append_left l).trans ?_
  exact List.perm_middle
theorem y7u (l:List z6):∀ t,(t.Pairwise fun a b=>ltEv b a=false)->(insF t l).Pairwise fun a b=>ltEv b a=false:=by
 induction l with
 | nil=>intro t h; exact h
 | cons x l ih=>intro t h; exact ih _ (znu zz6 x t h)
theorem ya5 (l t:List z6) :(insF t l).length=l.length+t.length:=by rw [(y5e l t).length_eq,List.length_append]
theorem yip (p:Pool) (l:List zd) (w:Int):insF [] (uns p l w)=srt p l w:=by
 refine zxs (lt:=ltEv) (l:=uns p l w) ?_ ((y5e _ _).trans (by rw [List.append_nil])) (z1q _ _) (y7u _ _ List.Pairwise.nil) (zbv zz6 _)
 refine(ymb p l w).imp fun {a b} h=>?_
 have:=yez h
 unfold ltEv
 simpa using this
theorem yiv (φ:Nat) (hφ:20000<φ) (k) (x13:List zd) (x14:List Int) (x15 x16:Int) (x19:Pool) (L:List z6) (hL:L.length<=2) (t:List z6) (ht:t.length<=5000) :
  z3d φ k φ x13 x14 x15 x16 (L.map rE) 0 x19 (t.map rE)=k x13 x14 x15 (W (x16+1)) x19 ((insF t L).map rE):=by
 refine zr (fun n i acc=>z3d φ k n x13 x14 x15 x16 (L.map rE) i x19 acc) L.length (fun i acc=>acc =(insF t (L.take i)).map rE) (fun o=>o=k x13 x14 x15 (W (x16+1)) x19 ((insF t L).map rE)) ?_ ?_ φ (t.map rE) rfl (by omega)
 ·intro n i acc hi hacc hs
  have hl:=ya5 (L.take i) t
  rw [z3d,if_pos (by simp; omega),z7 ⟨by omega,by simp; omega⟩,zrm rE L (by omega) (by omega),hacc,yjv φ hφ _ _ (by rw [hl,List.length_take]; omega),Option.bind_some,W_id (by omega) (by omega)]
  refine hs _ ?_
  rw [List.take_succ_eq_append_getElem hi]
  unfold insF
  rw [List.foldl_append]
  show _ =(insL ltEv L[i] _).map rE
  rw [z23 hi]
 ·intro n acc hacc
  rw [z3d,if_neg (by simp),hacc,List.take_length]
theorem yhu (p:Pool) (l:List zd) (c:List Int) (i:Int) (w:Int):unsC p l (c++[i]) w=unsC p l c w++(if(gt l i).item.wagon=w then evs p (gt l i) i else []):=by
 unfold unsC
 rw [List.flatMap_append]
 simp
theorem yjx (φ:Nat) (hφ:800000<φ) {p:Pool} (hc:zt p=0) {l:List zd} (hl:FewL l) (w:Int) :
  zbt φ p l (cnt p l) w=z0i φ φ 0 ((srt p l w).map rE):=by
 have h1:=hl.len
 have hcl :(cnt p l).length<=l.length:=zfy p l _
 unfold zbt
 refine zr (fun n i acc=>z3b φ n l (cnt p l) w i p acc) (cnt p l).length (fun i acc=>acc =(insF [] (unsC p l ((cnt p l).take i) w)).map rE) (fun o=>o=z0i φ φ 0 ((srt p l w).map rE)) ?_ ?_ φ [] rfl (by omega)
 ·intro n i acc hi hacc hs
  have hm:=zv6 (z0p (l:=cnt p l) (i:=(i:Int)) (by omega) (by omega))
  have hok:=zby hc (hl.gt hm.1 hm.2.1) hm.2.2
  have htk :(cnt p l).take (i+1) =(cnt p l).take i++[gt (cnt p l) (i:Int)]:=by
   rw [List.take_succ_eq_append_getElem hi,z23 hi]
  have hs':=hs _ rfl
  rw [htk,yhu] at hs'
  rw [z3b,if_pos (by simp; omega),z7 ⟨by omega,by omega⟩,z7 ⟨hm.1,hm.2.1⟩]
  by_cases hw :(gt l (gt (cnt p l) (i:Int))).item.wagon=w
  ·rw [if_neg (by simp [hw]),z7 ⟨by omega,by omega⟩,yje φ p _ _ (fun h=>hok.read h),Option.bind_some,hacc,yiv φ (by omega) _ _ _ _ _ _ _ (y1a _ _ _) _ (by
    have h2:=zm8 p l w ((cnt p l).take i)
    rw [ya5,List.length_nil]
    rw [List.length_take] at h2
    omega)]
   rw [if_pos hw] at hs'
   rw [W_id (by omega) (by omega)]
   have e:insF (insF [] (unsC p l ((cnt p l).take i) w)) (evs p (gt l (gt (cnt p l) (i:Int))) (gt (cnt p l) (i:Int)))=insF [] (unsC p l ((cnt p l).take i) w++evs p (gt l (gt (cnt p l) (i:Int))) (gt (cnt p l) (i:Int))):=by
    unfold insF; rw [List.foldl_append]
   rw [e]
   exact hs'
  ·rw [if_neg hw,List.append_nil] at hs'
   rw [if_pos (by simpa using hw),W_id (by omega) (by omega),hacc]
   exact hs'
 ·intro n acc hacc
  rw [z3b,if_neg (by simp),hacc,List.take_length]
  show z0i φ φ 0 ((insF [] (uns p l w)).map rE)=_
  rw [yip]
end Px
end
section
namespace Px
open Go
def zsj (m:List (Int×Bool)):List Int:=m.map (·.1)
theorem yf0 {k:Int} {v:Bool} {c:Int} : ∀ m:List (Int×Bool),c∈zsj (mset m k v)↔c=k\/c∈zsj m:=by
 intro m
 induction m with
 | nil=>simp [mset,zsj]
 | cons q m ih=>
  obtain⟨a,b⟩:=q
  simp only [mset]
  cases hk :(k==a) with
  | true=>
   have:k=a:=by simpa using hk
   subst this
   simp [zsj]
  | false=>
   simp only [cond_false,zsj,List.map_cons,List.mem_cons] at ih ⊢
   rw [ih]
   constructor
   ·rintro(h | h | h)
    ·exact .inr (.inl h)
    ·exact .inl h
    ·exact .inr (.inr h)
   ·rintro(h | h | h)
    ·exact .inr (.inl h)
    ·exact .inl h
    ·exact .inr (.inr h)
theorem yh9 {k:Int} {c:Int} : ∀ m:List (Int×Bool),KU m->(c∈zsj (mdel m k)↔c≠k/\c∈zsj m):=by
 intro m
 induction m with
 | nil=>intro _; simp [mdel,zsj]
 | cons q m ih=>
  obtain⟨a,b⟩:=q
  intro h
  simp only [KU,List.map_cons,List.nodup_cons] at h
  have ih:=ih h.2
  simp only [mdel]
  cases hk :(k==a) with
  | true=>
   have:k=a:=by simpa using hk
   subst this
   simp only [cond_true,zsj,List.map_cons,List.mem_cons]
   constructor
   ·intro hc
    exact⟨fun e=>h.1 (e ▸ hc),.inr hc⟩
   ·rintro⟨h1,h2 | h2⟩
    ·exact absurd h2 h1
    ·exact h2
  | false=>
   have hne:¬ k=a:=by simpa using hk
   simp only [cond_false,zsj,List.map_cons,List.mem_cons] at ih ⊢
   rw [ih]
   constructor
   ·rintro(h | h)
    ·exact⟨fun e=>hne (by rw [<- e,h]),.inl h⟩
    ·exact⟨h.1,.inr h.2⟩
   ·rintro⟨h1,h2 | h2⟩
    ·exact .inl h2
    ·exact .inr ⟨h1,h2⟩
def mAt (t:List z6) (n:Nat):List (Int×Bool):=(t.take n).foldl (fun m e=>covM e m) []
theorem y1j {t:List z6} {n:Nat} (h:n<t.length):mAt t (n+1)=covM (gt t (n:Int)) (mAt t n):=by
 unfold mAt
 rw [List.take_succ_eq_append_getElem h,List.foldl_append,z23 h]
 rfl
theorem ylm (t:List z6):∀ n,n<=t.length->KU (mAt t n)
 | 0,_=>by simp [mAt,KU]
 | n+1,h=>by
  rw [y1j (by omega)]
  have:=ylm t n (by omega)
  unfold covM
  split
  ·exact(KU.mdel this).1
  ·split
   ·exact KU.mset this
   ·exact this
def Mt (t:List z6) (q:Int) (j:Nat):Prop:=(gt t (j:Int)).second=true/\(gt t (j:Int)).report=q
def Beg (t:List z6) (i:Nat):Prop:=(gt t (i:Int)).stay=true/\(gt t (i:Int)).second=false
theorem y8z {t:List z6} (hs:∀ e∈t,e.second=true->e.stay=true) (q:Int):∀ n,n<=t.length->
  (q∈zsj (mAt t n)↔∃ i,i<n/\Beg t i/\(gt t (i:Int)).report=q/\∀ j,i<=j->j<n->¬ Mt t q j)
 | 0,_=>by simp [mAt,zsj]
 | n+1,h=>by
  have ih:=y8z hs q n (by omega)
  rw [y1j (by omega)]
  have hmem:gt t (n:Int)∈t:=z0p (by omega) (by omega)
  have hse:=hs _ hmem
  unfold covM
  by_cases h2 :(gt t (n:Int)).second=true
  ·rw [if_pos (by rw [h2,hse h2]; rfl),yh9 _ (ylm t n (by omega)),ih]
   constructor
   ·rintro⟨h1,i,hi,hst,hr,hall⟩
    refine⟨i,by omega,hst,hr,fun j hj hj'=>?_⟩
    by_cases hjn:j=n
    ·subst hjn; exact fun hm=>h1 hm.2.symm
    ·exact hall j hj (by omega)
   ·rintro⟨i,hi,hst,hr,hall⟩
    have hin:i≠n:=by intro e; subst e; rw [hst.2] at h2; cases h2
    exact⟨fun e=>hall n (by omega) (by omega) ⟨h2,e.symm⟩,i,by omega,hst,hr,fun j hj hj'=>hall j hj (by omega)⟩
  ·have h2' :(gt t (n:Int)).second=false:=by simpa using h2
   have nm:∀ q,¬ Mt t q n:=fun q hm=>h2 hm.1
   have hext:∀ i,i<n->((∀ j,i<=j->j<n->¬ Mt t q j)↔∀ j,i<=j->j<n+1->¬ Mt t q j):=by
    intro i hi
    constructor
    ·intro h j hj hj'
     by_cases hjn:j=n
     ·subst hjn; exact nm q
     ·exact h j hj (by omega)
    ·intro h j hj hj'; exact h j hj (by omega)
   rw [if_neg (by rw [h2']; simp)]
   by_cases h1 :(gt t (n:Int)).stay=true
   ·rw [if_pos h1,yf0,ih]
    constructor
    ·rintro(h |⟨i,hi,hst,hr,hall⟩)
     ·exact⟨n,by omega,⟨h1,h2'⟩,h.symm,fun j hj hj'=>by rw [show j=n by omega]; exact nm q⟩
     ·exact⟨i,by omega,hst,hr,(hext i hi).1 hall⟩
    ·rintro⟨i,hi,hst,hr,hall⟩
     by_cases hin:i=n
     ·subst hin; exact .inl hr.symm
     ·exact .inr ⟨i,by omega,hst,hr,(hext i (by omega)).2 hall⟩
   ·rw [if_neg h1,ih]
    constructor
    ·rintro⟨i,hi,hst,hr,hall⟩
     exact⟨i,by omega,hst,hr,(hext i hi).1 hall⟩
    ·rintro⟨i,hi,hst,hr,hall⟩
     have hin:i≠n:=by intro e; subst e; exact h1 hst.1
     exact⟨i,by omega,hst,hr,(hext i (by omega)).2 hall⟩
def Cov (t:List z6) (n k:Nat):Prop:=∃ i,i<n/\i<=k/\Beg t i/\∀ j,i<=j->j<=k->¬ Mt t (gt t (i:Int)).report j
theorem yoz {t:List z6} (hs:∀ e∈t,e.second=true->e.stay=true) {k:Nat} (hk:k<t.length):0 <(mAt t (k+1)).length↔Cov t t.length k:=by
 constructor
 ·intro h
  obtain⟨q,hq⟩:=List.exists_mem_of_length_pos h
  obtain⟨i,hi,hst,hr,hall⟩:=(y8z hs q.1 (k+1) (by omega)).1 (List.mem_map.2 ⟨q,hq,rfl⟩)
  exact⟨i,by omega,by omega,hst,fun j hj hj'=>by rw [hr]; exact hall j hj (by omega)⟩
 ·rintro⟨i,hi,hik,hst,hall⟩
  have:=(y8z hs _ (k+1) (by omega)).2 ⟨i,by omega,hst,rfl,fun j hj hj'=>hall j hj (by omega)⟩
  obtain⟨q,hq,_⟩:=List.mem_map.1 this
  exact List.length_pos_of_mem hq
theorem ynx {t:List z6} (hE:Ends t) {i:Nat} (hi:i<t.length) (hst:Beg t i):∃ j,i<=j/\j<t.length/\Mt t (gt t (i:Int)).report j:=by
 have hsp:t=t.take i++gt t (i:Int)::t.drop (i+1):=by
  rw [z23 hi]
  simp
 obtain⟨y,hy,y1,y2,y3⟩:=hE _ _ _ hsp hst.1 hst.2
 obtain⟨m,hm,he⟩:=List.getElem_of_mem hy
 rw [List.length_drop] at hm
 refine⟨i+1+m,by omega,by omega,?_⟩
 have:gt t ((i+1+m:Nat):Int)=y:=by
  rw [z23 (by omega),<- he,List.getElem_drop]
 unfold Mt
 rw [this]
 exact⟨y2,y3⟩
end Px
end
section
namespace Px
open Go
def rEc (e:z6) (b:Bool):zb:=⟨e.visit.place,e.visit.early,e.visit.ref,e.second,e.report,e.stay,e.reader,b⟩
open Classical in
noncomputable def cvL (t:List z6) (P:Nat->Prop):List zb:=(List.range t.length).map fun(k:Nat)=>rEc (gt t (k:Int)) (decide (P k))
theorem zcb (t P) :(cvL t P).length=t.length:=by simp [cvL]
open Classical in
theorem ydw {t:List z6} {P:Nat->Prop} {k:Nat} (h:k<t.length):gt (cvL t P) (k:Int)=rEc (gt t (k:Int)) (decide (P k)):=by
 rw [z23 (by rw [zcb]; exact h)]
 simp [cvL]
theorem zka {t:List z6} {P Q:Nat->Prop} (h:∀ k,k<t.length->(P k↔Q k)):cvL t P=cvL t Q:=by
 unfold cvL
 refine List.map_congr_left fun k hk=>?_
 have:=h k (List.mem_range.1 hk)
 congr 1
 exact decide_eq_decide.2 this
theorem ynz {t:List z6} {P:Nat->Prop} {k:Nat} (h:k<t.length):zw (cvL t P) (k:Int) (rEc (gt t (k:Int)) true)=cvL t fun j=>P j\/j=k:=by
 refine List.ext_getElem (by simp [zcb,zw]) fun j h1 h2=>?_
 rw [zcb] at h2
 simp only [zw]
 rw [List.getElem_set]
 by_cases hj:j=k
 ·subst hj
  rw [if_pos (by simp)]
  simp [cvL]
 ·rw [if_neg (by intro e; exact hj (by simpa using e.symm))]
  simp only [cvL,List.getElem_map,List.getElem_range]
  congr 1
  exact decide_eq_decide.2 ⟨.inl,fun h=>h.resolve_right (by simpa using hj)⟩
theorem yms (φ:Nat) (k25) {t:List z6} (ht:t.length<=10000) {i:Nat} (hi:i<t.length) (P:Nat->Prop):∀(n k:Nat),t.length<n+k->i<=k->(∃ j,k<=j/\j<t.length/\Mt t (gt t (i:Int)).report j)->
  (∀ j,i<=j->j<k->¬ Mt t (gt t (i:Int)).report j)->
  ∃ e,i<=e/\e<t.length/\Mt t (gt t (i:Int)).report e/\(∀ j,i<=j->j<e->¬ Mt t (gt t (i:Int)).report j)/\
   z5w φ k25 n (i:Int) (k:Int) (cvL t fun j=>P j\/(i<=j/\j<k))=k25 (W ((i:Int)+1)) (cvL t fun j=>P j\/(i<=j/\j<e)):=by
 intro n
 induction n with
 | zero=>intro k h _ ⟨j,h1,h2,_⟩; omega
 | succ n ih=>
  intro k hn hik ⟨j,h1,h2,h3⟩ hall
  have hk:k<t.length:=by omega
  have i1 :(0:Int)<=(k:Int)/\(k:Int) <((cvL t fun j=>P j\/(i<=j/\j<k)).length:Int):=⟨by omega,by rw [zcb]; omega⟩
  have i2 :(0:Int)<=(i:Int)/\(i:Int) <((cvL t fun j=>P j\/(i<=j/\j<k)).length:Int):=⟨by omega,by rw [zcb]; omega⟩
  rw [z5w,z7 i1,z7 (fun _=>i1),z7 (fun _=>i2),ydw hk,ydw hi]
  by_cases hm:Mt t (gt t (i:Int)).report k
  ·refine⟨k,hik,hk,hm,hall,?_⟩
   rw [if_neg (by simp only [rEc]; rw [hm.1,hm.2]; simp)]
  ·have hne:k≠j:=by intro e; subst e; exact hm h3
   obtain⟨e,e1,e2,e3,e4,e5⟩:=ih (k+1) (by omega) (by omega) ⟨j,by omega,h2,h3⟩ (fun j hj hj'=>by
    by_cases hjk:j=k
    ·subst hjk; exact hm
    ·exact hall j hj (by omega))
   refine⟨e,e1,e2,e3,e4,?_⟩
   rw [if_pos (by
    simp only [rEc,Bool.or_eq_true,Bool.not_eq_true',bne_iff_ne,ne_eq]
    by_cases h :(gt t (k:Int)).second=true
    ·exact .inr fun q=>hm ⟨h,q⟩
    ·exact .inl (by simpa using h)),z7 i1,W_id (by omega) (by omega),<- e5]
   have hset:=ynz (P:=fun j=>P j\/(i<=j/\j<k)) hk
   simp only [rEc] at hset ⊢
   rw [hset]
   congr 1
   refine zka fun m hm=>?_
   constructor
   ·rintro((h | h) | h)
    ·exact .inl h
    ·exact .inr (by omega)
    ·exact .inr (by omega)
   ·rintro(h | h)
    ·exact .inl (.inl h)
    ·by_cases hmk:m=k
     ·exact .inr hmk
     ·exact .inl (.inr (by omega))
theorem yp1 (φ:Nat) (hφ:20000<φ) {t:List z6} (ht:t.length<=10000) (hE:Ends t):z0i φ φ 0 (cvL t fun _=>False)=some (cvL t (Cov t t.length),()):=by
 refine zr (fun n i acc=>z0i φ n i acc) t.length (fun i acc=>acc=cvL t (Cov t i)) (fun o=>o=some (cvL t (Cov t t.length),())) ?_ ?_ φ _ (zka fun k _=>⟨fun h=>h.elim,fun⟨i,h,_⟩=>by omega⟩) (by omega)
 ·intro n i acc hi hacc hs
  have i1 :(0:Int)<=(i:Int)/\(i:Int) <((cvL t (Cov t i)).length:Int):=⟨by omega,by rw [zcb]; omega⟩
  subst hacc
  rw [z0i,if_pos (by rw [zcb]; simp; omega),z7 i1,z7 (fun _=>i1),ydw hi]
  by_cases hst:Beg t i
  ·rw [if_neg (by simp only [rEc]; rw [hst.1,hst.2]; simp)]
   obtain⟨e,e1,e2,e3,e4,e5⟩:=yms φ (z0i φ n) ht hi (Cov t i) φ i (by omega) (Nat.le_refl _) (ynx hE hi hst) (fun j h1 h2=>by omega)
   rw [show cvL t (Cov t i)=cvL t fun j=>Cov t i j\/(i<=j/\j<i) from zka fun k _=>⟨.inl,fun h=>h.elim id fun h=>by omega⟩,e5,W_id (by omega) (by omega)]
   refine hs _ (zka fun k hk=>?_)
   constructor
   ·rintro(⟨m,h1,h2⟩ |⟨h1,h2⟩)
    ·exact⟨m,by omega,h2⟩
    ·exact⟨i,by omega,h1,hst,fun j hj hj'=>e4 j hj (by omega)⟩
   ·rintro⟨m,h1,h2,h3,h4⟩
    by_cases hmi:m=i
    ·subst hmi
     refine .inr ⟨h2,?_⟩
     by_cases hke:k<e
     ·exact hke
     ·exact absurd e3 (h4 e e1 (by omega))
    ·exact .inl ⟨m,by omega,h2,h3,h4⟩
  ·rw [if_pos (by
    simp only [rEc,Bool.or_eq_true,Bool.not_eq_true']
    by_cases h :(gt t (i:Int)).stay=true
    ·refine .inr ?_
     cases h2 :(gt t (i:Int)).second
     ·exact absurd ⟨h,h2⟩ hst
     ·rfl
    ·exact .inl (by simpa using h)),W_id (by omega) (by omega)]
   refine hs _ (zka fun k hk=>?_)
   constructor
   ·rintro⟨m,h1,h2⟩
    exact⟨m,by omega,h2⟩
   ·rintro⟨m,h1,h2,h3,h4⟩
    have hmi:m≠i:=by intro e; subst e; exact hst h3
    exact⟨m,by omega,h2,h3,h4⟩
 ·intro n acc hacc
  rw [z0i,if_neg (by rw [hacc,zcb]; simp),hacc]
theorem yi1 {t:List z6} (h:∀ e∈t,e.visit.stay=false):cvL t (fun _=>False)=t.map rE:=by
 refine List.ext_getElem (by simp [zcb]) fun j h1 h2=>?_
 rw [zcb] at h1
 simp only [cvL,List.getElem_map,List.getElem_range,rEc,rE,z23 h1,h _ (List.getElem_mem h1)]
 simp
open Classical in
theorem ymg {t:List z6} (hs:∀ e∈t,e.second=true->e.stay=true):cvL t (Cov t t.length) =(zkz t []).map rE:=by
 refine List.ext_getElem (by simp [zcb,zbm]) fun j h1 h2=>?_
 rw [zcb] at h1
 have hsp:t=t.take j++gt t (j:Int)::t.drop (j+1):=by
  rw [z23 h1]
  simp
 have hg :(zkz t [])[j]? = some (zj3 (gt t (j:Int)) (decide ((0:Int) <((mAt t (j+1)).length:Int)))):=by
  rw [y1j h1]
  conv=>lhs; rw [hsp]
  rw [y5s]
  have hl :(zkz (t.take j) []).length=j:=by rw [zbm,List.length_take]; omega
  rw [List.getElem?_append_right (by omega),hl,Nat.sub_self]
  rfl
 simp only [List.length_map,zbm] at h2
 rw [List.getElem?_eq_getElem (by rw [zbm]; exact h2)] at hg
 simp only [List.getElem_map]
 rw [Option.some.inj hg]
 simp only [cvL,List.getElem_map,List.getElem_range,rEc,rE,zj3]
 have:=yoz hs h1
 congr 1
 rw [decide_eq_decide,<- this]
 omega
theorem y9z {p:Pool} {l:List zd} (hl:l.length<=1000) {w:Int} {x:z6} (h:x∈uns p l w):x.visit.stay=false/\(x.second=true->x.stay=true):=by
 obtain⟨_,_,_,_,a5⟩:=zva hl h
 unfold evs at a5
 split at a5
 ·simp only [List.mem_singleton] at a5; rw [a5]; exact⟨rfl,fun h=>by cases h⟩
 ·split at a5
  ·simp only [List.mem_cons,List.not_mem_nil,or_false] at a5
   rcases a5 with a5 | a5 <;> rw [a5] <;> exact⟨rfl,fun _=>rfl⟩
  ·split at a5
   ·simp only [List.mem_singleton] at a5; rw [a5]; exact⟨rfl,fun h=>by cases h⟩
   ·cases a5
theorem yku (φ:Nat) (hφ:800000<φ) {p:Pool} (hc:zt p=0) {l:List zd} (hl:FewL l) (w:Int) :
  zbt φ p l (cnt p l) w=some ((z42 p l w).map rE,()):=by
 have hmem:∀ x,x∈srt p l w↔x∈uns p l w:=fun x=>(z1q _ _).mem_iff
 have hlen:=zll hl.len (p:=p) w
 rw [z42,zbm] at hlen
 rw [yjx φ hφ hc hl,<- yi1 (fun e he=>(y9z hl.len ((hmem e).1 he)).1),yp1 φ (by omega) (by omega) (yj1 hc hl w),ymg (fun e he=>(y9z hl.len ((hmem e).1 he)).2)]
 rfl
end Px
end
section
namespace Px
open Go
theorem yj7 (φ:Nat) (hφ:800000<φ) (p:Pool) (a b:z6):zg6 φ p (rE a) (rE b)=some (tvl φ p.network a.visit b.visit,()):=by
 unfold zg6
 rw [zkk φ hφ]
 obtain⟨t,e,h,h1,h2⟩:=zqa φ hφ p.network a.visit.place b.visit.place
 have ht:z3g φ p.network a.visit b.visit=some (if(((e:Int) !=0)||(((a.visit.place:Int) !=b.visit.place)&&a.visit.stay))=true then 1073741825 else t,()):=by
  unfold z3g
  by_cases hs :(((a.visit.place:Int) !=b.visit.place)&&a.visit.stay)=true
  ·rw [if_pos hs,if_pos (by rw [hs]; simp)]
  ·rw [if_neg hs,h,Option.bind_some]
   have hs' :(((a.visit.place:Int) !=b.visit.place)&&a.visit.stay)=false:=by simpa using hs
   rw [hs']
   simp only [Bool.or_false]
   split <;> rfl
 show (zo φ p.network a.visit.place b.visit.place).bind _=_
 rw [h,Option.bind_some]
 unfold tvl
 rw [ht]
 show (if(((e:Int) !=0)||(((a.visit.place:Int) !=b.visit.place)&&a.visit.stay))=true then some ((1073741825:Int),()) else some (t,()))=some (if(((e:Int) !=0)||(((a.visit.place:Int) !=b.visit.place)&&a.visit.stay))=true then 1073741825 else t,())
 split <;> rfl
def RdC (l:List zd) (c:List Int) (j:Int):Prop:=∃ i∈c,(gt l i).item.kind=1/\(gt l i).item.other=j
theorem ycb {m:List (Int×Int)} {e:z6} {k:Int} (h :(mget (zyj m e) k).isSome=true) :(mget m k).isSome=true\/(e.reader=k/\0<=e.reader):=by
 unfold zyj at h
 split at h
 ·rename_i hr
  rw [zfj] at h
  by_cases hk:k=e.reader
  ·exact .inr ⟨hk.symm,hr⟩
  ·rw [if_neg hk] at h; exact .inl h
 ·exact .inl h
theorem ybi (t:List z6):∀ {m:List (Int×Int)} {k:Int},(mget (zqx m t) k).isSome=true->(mget m k).isSome=true\/∃ e∈t,e.reader=k/\0<=e.reader:=by
 induction t with
 | nil=>intro m k h; exact .inl h
 | cons e t ih=>
  intro m k h
  rcases ih (m:=zyj m e) h with h |⟨x,hx,h⟩
  ·rcases ycb h with h | h
   ·exact .inl h
   ·exact .inr ⟨e,List.mem_cons_self ..,h⟩
  ·exact .inr ⟨x,List.mem_cons_of_mem _ hx,h⟩
theorem yfj (ts:List (List z6)):∀ {m:List (Int×Int)} {k:Int},(mget (ts.foldl zqx m) k).isSome=true->(mget m k).isSome=true\/∃ t∈ts,∃ e∈t,e.reader=k/\0<=e.reader:=by
 induction ts with
 | nil=>intro m k h; exact .inl h
 | cons t ts ih=>
  intro m k h
  rcases ih (m:=zqx m t) h with h |⟨u,hu,x,hx,h⟩
  ·rcases ybi t h with h |⟨x,hx,h⟩
   ·exact .inl h
   ·exact .inr ⟨t,List.mem_cons_self ..,x,hx,h⟩
  ·exact .inr ⟨u,List.mem_cons_of_mem _ hu,x,hx,h⟩
theorem yce {y:z6} : ∀(t:List z6) (m:List (Int×Bool)),y∈t->∃ b,zj3 y b∈zkz t m:=by
 intro t
 induction t with
 | nil=>intro m h; cases h
 | cons e t ih=>
  intro m h
  rcases List.mem_cons.1 h with rfl | h
  ·exact⟨_,List.mem_cons_self ..⟩
  ·obtain⟨b,hb⟩:=ih (covM e m) h
   exact⟨b,List.mem_cons_of_mem _ hb⟩
theorem ya1 {p:Pool} (hc:zt p=0) {l:List zd} (hl:FewL l) (j:Int) (hj:0<=j) :(mget (used (zf p l)) j).isSome=true↔RdC l (cnt p l) j:=by
 constructor
 ·intro h
  rcases yfj (zf p l) (m:=[]) h with h |⟨t,ht,e,he,h1,h2⟩
  ·cases h
  ·obtain⟨w,_,rfl⟩:=List.mem_map.1 ht
   obtain⟨y,hy,b,rfl⟩:=zlf he
   change y.reader=j at h1
   change 0<=y.reader at h2
   have hu:=hy
   simp only [uns,unsC,List.mem_flatMap] at hu
   obtain⟨i,hi,hx⟩:=hu
   split at hx
   case isFalse=>cases hx
   refine⟨i,hi,?_⟩
   unfold evs at hx
   split at hx
   ·rename_i hk
    simp only [List.mem_singleton] at hx
    rw [hx] at h1
    exact⟨hk,h1⟩
   ·split at hx
    ·simp only [List.mem_cons,List.not_mem_nil,or_false] at hx
     rcases hx with q | q <;> rw [q] at h2 <;> simp at h2
    ·split at hx
     ·simp only [List.mem_singleton] at hx
      rw [hx] at h2; simp at h2
     ·cases hx
 ·rintro⟨i,hi,hk,ho⟩
  obtain⟨a1,a2,a3⟩:=zv6 hi
  have hok:=zby hc (hl.gt a1 a2) a3
  obtain⟨w1,w2⟩:=hok.wagon (by omega)
  have hx :(⟨z3f (gt l i) (gt p.readers (gt l i).item.other).place (gt l i).item.from_,i,false,false,(gt l i).item.other⟩:z6)∈uns p l (gt l i).item.wagon:=by
   simp only [uns,unsC,List.mem_flatMap]
   refine⟨i,hi,?_⟩
   rw [if_pos rfl,evs,if_pos hk]
   simp
  obtain⟨b,hb⟩:=yce (srt p l (gt l i).item.wagon) [] ((z1q _ _).mem_iff.2 hx)
  have:=y0n (zf p l) [] (z42 p l (gt l i).item.wagon) _ (List.mem_map.2 ⟨(gt l i).item.wagon.toNat,List.mem_range.2 (by omega),by rw [Int.toNat_of_nonneg w1]⟩) hb (by show 0<=(gt l i).item.other; omega)
  rw [<- ho]
  exact this
structure RdN (rs:List z26) (m:List (Int×Int)) (n:Nat) (x:List Int):Prop where
 len:x.length=rs.length
 num:∀ j:Nat,j<n->gt x (j:Int)=if(mget m (j:Int)).isSome=true then(rdsN rs m j).v else 0
 raw:∀ j:Nat,n<=j->j<rs.length->gt x (j:Int)=if(mget m (j:Int)).isSome=true then 1 else 0
theorem yj6 (rs:List z26) (m:List (Int×Int)) (n:Nat):1<=(rdsN rs m n).v:=(z96 rs m n).1
theorem yeh (φ:Nat) (hφ:2000<φ) (rs:List z26) (hrs:rs.length<=256) (m:List (Int×Int)) (x:List Int) (hx:RdN rs m 0 x):∃ x',z1r φ φ 1 0 x=some (x',())/\RdN rs m rs.length x':=by
 refine zr (fun n i (s:Int×List Int)=>z1r φ n s.1 i s.2) rs.length (fun i s=>s.1 =(rdsN rs m i).v/\RdN rs m i s.2) (fun o=>∃ x',o=some (x',())/\RdN rs m rs.length x') ?_ ?_ φ (1,x) ⟨rfl,hx⟩ (by omega)
 ·intro n i ⟨v,s⟩ hi ⟨h1,h2⟩ hs
  simp only at h1 h2 ⊢
  obtain⟨l1,l2,l3⟩:=h2
  have hb:=z96 rs m i
  have hv :(rdsN rs m (i+1)).v=if(mget m (i:Int)).isSome=true then(rdsN rs m i).v+1 else(rdsN rs m i).v:=by
   simp only [rdsN,zlb]
   rw [(zoo rs m i).2 _ (Int.le_refl _)]
   split <;> rfl
  rw [z1r,if_pos (by simp; omega),z7 ⟨by omega,by omega⟩,W_id (x:=(i:Int)+1) (by omega) (by omega),l3 i (Nat.le_refl _) hi]
  by_cases hu :(mget m (i:Int)).isSome=true
  ·rw [if_pos (by rw [if_pos hu]; rfl),z7 ⟨by omega,by omega⟩,W_id (x:=v+1) (by omega) (by omega)]
   refine hs (v+1,zw s (i:Int) v) ⟨by rw [hv,if_pos hu,h1],by rw [z05]; exact l1,fun j hj=>?_,fun j hj hj'=>?_⟩
   ·rw [zy _ _ _ _ (by omega) (by omega) (by omega)]
    by_cases hji:j=i
    ·subst hji; rw [if_pos rfl,if_pos hu,h1]
    ·rw [if_neg (by omega)]; exact l2 j (by omega)
   ·rw [zy _ _ _ _ (by omega) (by omega) (by omega),if_neg (by omega)]; exact l3 j (by omega) hj'
  ·rw [if_neg (by rw [if_neg hu]; simp)]
   refine hs (v,s) ⟨by rw [hv,if_neg hu,h1],l1,fun j hj=>?_,fun j hj hj'=>l3 j (by omega) hj'⟩
   by_cases hji:j=i
   ·subst hji; rw [if_neg hu]; have:=l3 j (Nat.le_refl _) hi; rw [if_neg hu] at this; exact this
   ·exact l2 j (by omega)
 ·intro n ⟨v,s⟩ ⟨h1,h2⟩
  simp only at h1 h2 ⊢
  have:=h2.len
  rw [z1r,if_neg (by simp; omega)]
  exact⟨s,rfl,h2⟩
theorem yfa (φ:Nat) (hφ:800000<φ) {p:Pool} (hc:zt p=0) {l:List zd} (hl:FewL l):∃ x,zdz φ p l (cnt p l)=some (x,())/\RdN p.readers (used (zf p l)) p.readers.length x:=by
 have h1:=hl.len
 have hcl :(cnt p l).length<=l.length:=zfy p l _
 obtain⟨_,_,hr1,_⟩:=z3m hc
 unfold zdz
 rw [z7 (by simp [z0o]; omega),Int.toNat_natCast]
 refine zr (fun n i x=>z3a φ n l (cnt p l) i x) (cnt p l).length (fun i x=>x.length=p.readers.length/\∀ j:Nat,j<p.readers.length->(RdC l ((cnt p l).take i) (j:Int)->gt x (j:Int)=1)/\(¬ RdC l ((cnt p l).take i) (j:Int)->gt x (j:Int)=0))
  (fun o=>∃ x,o=some (x,())/\RdN p.readers (used (zf p l)) p.readers.length x) ?_ ?_ φ _ ⟨by simp,fun j hj=>⟨fun⟨i,hi,_⟩=>by simp at hi,fun _=>?_⟩⟩ (by omega)
 ·intro n i x hi ⟨hx1,hx2⟩ hs
  have hgm:gt (cnt p l) (i:Int)∈cnt p l:=z0p (by omega) (by omega)
  obtain⟨a1,a2,a3⟩:=zv6 hgm
  have hok:=zby hc (hl.gt a1 a2) a3
  have hsucc:∀ j,RdC l ((cnt p l).take (i+1)) j↔RdC l ((cnt p l).take i) j\/((gt l (gt (cnt p l) (i:Int))).item.kind=1/\(gt l (gt (cnt p l) (i:Int))).item.other=j):=by
   intro j
   unfold RdC
   rw [z0b _ i hi]
   constructor
   ·rintro⟨q,hq,h⟩
    rcases List.mem_append.1 hq with hq | hq
    ·exact .inl ⟨q,hq,h⟩
    ·simp only [List.mem_singleton] at hq; subst hq; exact .inr h
   ·rintro(⟨q,hq,h⟩ | h)
    ·exact⟨q,List.mem_append_left _ hq,h⟩
    ·exact⟨_,List.mem_append_right _ (List.mem_singleton.2 rfl),h⟩
  rw [z3a,if_pos (by simp; omega),z7 ⟨by omega,by omega⟩,z7 ⟨a1,a2⟩,W_id (by omega) (by omega)]
  by_cases hk :(gt l (gt (cnt p l) (i:Int))).item.kind=1
  ·obtain⟨o1,o2⟩:=hok.read hk
   rw [if_pos (by simpa using hk),z7 ⟨o1,by omega⟩]
   refine hs _ ⟨by rw [z05]; exact hx1,fun j hj=>?_⟩
   rw [hsucc,zy _ _ _ _ o1 (by omega) (by omega)]
   by_cases hjo :(j:Int) =(gt l (gt (cnt p l) (i:Int))).item.other
   ·rw [if_pos hjo]
    exact⟨fun _=>rfl,fun hn=>absurd (.inr ⟨hk,hjo.symm⟩) hn⟩
   ·rw [if_neg hjo]
    exact⟨fun h=>h.elim (hx2 j hj).1 fun h=>absurd h.2.symm hjo,fun hn=>(hx2 j hj).2 fun h=>hn (.inl h)⟩
  ·rw [if_neg (by simpa using hk)]
   refine hs _ ⟨hx1,fun j hj=>?_⟩
   rw [hsucc]
   exact⟨fun h=>h.elim (hx2 j hj).1 fun h=>absurd h.1 hk,fun hn=>(hx2 j hj).2 fun h=>hn (.inl h)⟩
 ·intro n x ⟨hx1,hx2⟩
  rw [List.take_length] at hx2
  rw [z3a,if_neg (by simp)]
  refine yeh φ (by omega) p.readers hr1 _ x ⟨hx1,fun j hj=>by omega,fun j _ hj=>?_⟩
  obtain⟨h2,h3⟩:=hx2 j hj
  by_cases hu:RdC l (cnt p l) (j:Int)
  ·rw [if_pos ((ya1 hc hl _ (by omega)).2 hu)]; exact h2 hu
  ·rw [if_neg (fun h=>hu ((ya1 hc hl _ (by omega)).1 h))]; exact h3 hu
 ·rw [z23 (by simpa using hj)]; simp
theorem yi6 (rs:List z26) (m:List (Int×Int)):∀ n:Nat,∀ j:Nat,j<n->(mget m (j:Int)).isSome=true->mget (rdsN rs m n).m (j:Int)=some (rdsN rs m j).v:=by
 intro n
 induction n with
 | zero=>intro j h; omega
 | succ n ih=>
  intro j hj hu
  simp only [rdsN,zlb]
  by_cases hjn:j=n
  ·subst hjn
   rw [if_pos (by rw [(zoo rs m j).2 _ (Int.le_refl _)]; exact hu)]
   show mget (mset _ _ _) _=_
   rw [zfj,if_pos rfl]
  ·have:=ih j (by omega) hu
   split
   ·show mget (mset _ _ _) _=_
    rw [zfj,if_neg (by omega)]; exact this
   ·exact this
end Px
end
section
namespace Px
open Go
theorem y7m {α:Type} (f:Nat->α) (k:Nat) {x:α} (h:f k=x):upd f k x=f:=by
 funext j
 unfold upd
 split
 ·rename_i e; rw [e,h]
 ·rfl
theorem nr0 :(upd (upd (fun _=>(default:Ref)) 0 (⟨0,0⟩:Ref)) 1 (⟨0,0⟩:Ref))=y0:=by
 have h1:upd (fun _=>(default:Ref)) 0 (⟨0,0⟩:Ref)=fun _=>(default:Ref):=y7m _ 0 rfl
 have h2:upd (fun _=>(default:Ref)) 1 (⟨0,0⟩:Ref)=fun _=>(default:Ref):=y7m _ 1 rfl
 rw [h1,h2]; rfl
theorem nr1 (r:Ref) :(upd (upd (fun _=>(default:Ref)) 0 r) 1 (⟨0,0⟩:Ref))=y1 r:=by
 exact y7m (upd (fun _=>(default:Ref)) 0 r) 1 rfl
section
variable (φ:Nat)
theorem ypu (hφ:800000<φ) (k) (T:List z6) (n:Nat) (hn:n<T.length) (x63 x65:_) (v:Int) (x68 x69 x70 x71 x72 x73 x74 x75 x76 x77 x78 x79 x80) (p:Pool) (x82 x83 x84) (b:List z8) (y:List (Nat->Ref)) (x87 x88 x89 x90) (hb:b.length<=50000000) (hy:y.length<=50000000) (h15:0<=v/\v<=100000000) (hT:n<=100000000) :
  z6r φ k x63 (T.map rE) x65 (n:Int) v x68 x69 x70 x71 x72 x73 x74 x75 x76 x77 x78 x79 x80 p x82 x83 x84 b y x87 x88 x89 x90 =
   k x63 (T.map rE) x65 ((n+1:Nat):Int) x68 x69 x70 x71 x72 x73 x74 x75 x76 x77 x78 x79 x80 p x82 x83 x84
    (b++trB (tvl φ p.network) v (if 0<n then some (gt T ((n:Int)-1)).visit else none) (gt T (n:Int))) (y++trY (if 0<n then some (gt T ((n:Int)-1)).visit else none) (gt T (n:Int))) x87 x88 x89 x90:=by
 have hW:W ((n:Int)+1) =((n+1:Nat):Int):=by rw [W_id (by omega) (by omega)]; omega
 unfold z6r
 by_cases h:0<n
 ·obtain⟨_,t1,t2⟩:=ydc φ hφ p.network (gt T ((n:Int)-1)).visit (gt T (n:Int)).visit
  rw [if_pos (by simp; omega),W_id (x:=(n:Int)-1) (by omega) (by omega),zrm rE T (by omega) (by omega),zrm rE T (i:=(n:Int)) (by omega) (by omega),yj7 φ hφ,Option.bind_some,
   z7 ⟨by omega,by simp; omega⟩,z7 ⟨by omega,by simp; omega⟩,z7 ⟨by omega,by simp; omega⟩,z7 ⟨by omega,by simp; omega⟩,z7 (z4w (by simp; omega) (by omega)),z7 (z4w (by simp; omega) (by omega)),W_id (x:=v-1) (by omega) (by omega),W_id (x:=0-_) (by show _<=0-tvl φ p.network (gt T ((n:Int)-1)).visit (gt T (n:Int)).visit; omega) (by show 0-tvl φ p.network (gt T ((n:Int)-1)).visit (gt T (n:Int)).visit<=_; omega),hW,if_pos h]
  rfl
 ·rw [if_neg (by simp; omega),hW,if_neg h]
  simp only [trB,trY,List.append_nil]
theorem yhf (hφ:800000<φ) (k33) {rs:List z26} {m:List (Int×Int)} (hrs:rs.length<=256) {x:List Int} (hx:RdN rs m rs.length x) (w:Int) (T:List z6) (hE:∀ e∈T,0<=e.visit.early/\e.visit.early<=1073741824/\e.visit.wagon=w/\e.reader <(rs.length:Int)/\(0<=e.reader->(mget m e.reader).isSome=true)) (hT:T.length<=2000)
  (x39 x40 x41) (x42:Int) (x43 x44 x45 x46 x47 x48 x49 x50) (p:Pool) (x54 x55 x59 x60 x61) :
  ∀(n i N:Nat) (s:BS),T.length<n+i->i<=T.length->BB N s->N<=8300000+i->
   z3v φ k33 n x (T.map rE) w (i:Int) x39 x40 x41 x42 x43 x44 x45 x46 x47 x48 x49 x50 s.v p ⟨0,0⟩ x54 x55 s.b s.y s.e x59 x60 x61 =
    (fun s':BS=>k33 x39 x40 x41 (W (x42+1)) x54 x55 s'.v x59 x60 x61 s'.b s'.y s'.e) (bEv (tvl φ p.network) (rdsN rs m rs.length).m (if 0<i then some (gt T ((i:Int)-1)).visit else none) (T.drop i) s):=by
 intro n
 induction n with
 | zero=>intro i N s h1 h2; exfalso; omega
 | succ n ih=>
  intro i N s h1 h2 hB hN
  obtain⟨v0,v1,b1,b2,b3⟩:=hB
  by_cases hi:i<T.length
  ·obtain⟨e0,e1,e2,e3,e4⟩:=hE _ (z0p (l:=T) (i:=(i:Int)) (by omega) (by omega))
   have hWv:W (s.v+1)=s.v+1:=W_id (by omega) (by omega)
   have hWe:W (0 -(gt T (i:Int)).visit.early)=0 -(gt T (i:Int)).visit.early:=W_id (by omega) (by omega)
   have hnext:=ih (i+1) (N+1) (zpa (tvl φ p.network) (rdsN rs m rs.length).m (if 0<i then some (gt T ((i:Int)-1)).visit else none) (gt T (i:Int)) s) (by omega) (by omega) (BB.step ⟨v0,v1,b1,b2,b3⟩ _ _ _ _) (by omega)
   rw [if_pos (show 0<i+1 by omega),show ((i+1:Nat):Int)-1 =(i:Int) by omega] at hnext
   rw [y1c T i hi]
   refine Eq.trans ?_ hnext
   have hin :(0:Int)<=(i:Int)/\(i:Int) <((T.map rE).length:Int):=⟨by omega,by simp; omega⟩
   have hg:gt (T.map rE) (i:Int)=rE (gt T (i:Int)):=zrm rE T (by omega) (by omega)
   rw [z3v,if_pos (by simp; omega),z7 hin,z7 hin,z7 hin,z7 (z4w (by simp; omega) (by omega)),z7 hin,hg]
   by_cases hr :(gt T (i:Int)).reader<0
   ·rw [if_pos (decide_eq_true (p:=(rE (gt T (i:Int))).reader<0) hr),z7 hin,z7 hin,z7 (z4w (by simp; omega) (by omega)),z7 (z4w (by simp; omega) (by omega)),z7 hin,z7 hin,z7 (z4w (by simp; omega) (by omega)),z7 (z4w (by simp; omega) (by omega)),hWv,ypu φ hφ _ T i hi _ _ _ _ _ _ _ _ _ _ _ _ _ _ _ _ _ _ _ _ _ _ _ _ _ _ (by simp; omega) (by simp; omega) ⟨by omega,by omega⟩ (by omega)]
    simp only [rE,hWe,nr1]
    simp only [zpa,evB,evY,if_pos hr]
    rw [e2]
    simp only [List.append_assoc,List.cons_append,List.nil_append]
    rfl
   ·have hrn:gt x (gt T (i:Int)).reader=rv (rdsN rs m rs.length).m (gt T (i:Int)):=by
     have hj:=hx.num (gt T (i:Int)).reader.toNat (by omega)
     have hq:=yi6 rs m rs.length (gt T (i:Int)).reader.toNat (by omega)
     rw [Int.toNat_of_nonneg (by omega)] at hj hq
     have hu:=e4 (by omega)
     rw [hj,if_pos hu,rv,hq hu]
     rfl
    have hxl:=hx.len
    have hin2 :(0:Int)<=(rE (gt T (i:Int))).reader/\(rE (gt T (i:Int))).reader <(x.length:Int):=⟨by show 0<=(gt T (i:Int)).reader; omega,by show (gt T (i:Int)).reader<_; omega⟩
    rw [if_neg (fun h=>hr (of_decide_eq_true (p:=(rE (gt T (i:Int))).reader<0) h)),z7 hin,z7 hin2,z7 hin,z7 hin,z7 (z4w (by simp; omega) (by omega)),z7 (z4w (by simp; omega) (by omega)),z7 hin,z7 hin,z7 (z4w (by simp; omega) (by omega)),z7 (z4w (by simp; omega) (by omega)),z7 hin,z7 (z4w (by simp; omega) (by omega)),z7 (z4w (by simp; omega) (by omega)),z7 hin,z7 (z4w (by simp; omega) (by omega)),z7 (z4w (by simp; omega) (by omega)),hWv,ypu φ hφ _ T i hi _ _ _ _ _ _ _ _ _ _ _ _ _ _ _ _ _ _ _ _ _ _ _ _ _ _ (by simp; omega) (by simp; omega) ⟨by omega,by omega⟩ (by omega)]
    simp only [rE,hWe,nr1,hrn]
    simp only [zpa,evB,evY,if_neg hr]
    rw [e2]
    simp only [List.append_assoc,List.cons_append,List.nil_append]
    rfl
  ·have:i=T.length:=by omega
   subst this
   rw [z3v,if_neg (by simp),List.drop_length]
   rfl
theorem y6i {p:Pool} (hc:zt p=0) {l:List zd} (hl:FewL l) {w:Nat} (hw:w<p.fleet.wagons.length) {e:z6} (he:e∈z42 p l (w:Int)) :
  0<=e.visit.early/\e.visit.early<=1073741824/\e.visit.wagon =(w:Int)/\e.reader <(p.readers.length:Int)/\(0<=e.reader->(mget (used (zf p l)) e.reader).isSome=true):=by
 obtain⟨h1,h2⟩:=zte hc hl he
 exact⟨h1,h2,z6w hl he,zrt hc hl he,fun h=>y0n (zf p l) [] _ e (List.mem_map.2 ⟨w,List.mem_range.2 hw,rfl⟩) he h⟩
theorem ybr (hφ:800000<φ) {p:Pool} (hc:zt p=0) {l:List zd} (hl:FewL l) {x:List Int} (hx:RdN p.readers (used (zf p l)) p.readers.length x) (x25 x27 x28 x29) (s:BS) (hs:BB 0 s) :
  z2u φ φ l (cnt p l) x 0 p x25 s.v x27 x28 x29 s.b s.y s.e=some (bEnd ((zf p l).foldl (fun s t=>bEv (tvl φ p.network) (rdsN p.readers (used (zf p l)) p.readers.length).m none t s) s)):=by
 obtain⟨_,hf,hr1,_⟩:=z3m hc
 obtain⟨_,f2,_⟩:=z6n hf
 have hlen :(zf p l).length=p.fleet.wagons.length:=by unfold zf; simp
 refine zr (fun n i (s:BS)=>z2u φ n l (cnt p l) x i p x25 s.v x27 x28 x29 s.b s.y s.e) (zf p l).length (fun i s'=>BB (2000*i) s'/\s' =((zf p l).take i).foldl (fun s t=>bEv (tvl φ p.network) (rdsN p.readers (used (zf p l)) p.readers.length).m none t s) s)
  (fun o=>o=some (bEnd ((zf p l).foldl (fun s t=>bEv (tvl φ p.network) (rdsN p.readers (used (zf p l)) p.readers.length).m none t s) s))) ?_ ?_ φ s ⟨hs,rfl⟩ (by omega)
 ·intro n i s' hi ⟨h1,h2⟩ hk
  have hti:gt (zf p l) (i:Int)=z42 p l (i:Int):=yhq (by omega) (by omega)
  rw [z2u,if_pos (by simp; omega),yku φ hφ hc hl,Option.bind_some]
  have:=yhf φ hφ (z2u φ n) hr1 hx (i:Int) (z42 p l (i:Int)) (fun e he=>y6i hc hl (by omega) he) (zll hl.len _) l (cnt p l) x (i:Int) p x p l (cnt p l) (i:Int) ((z42 p l (i:Int)).map rE) (i:Int) p p x25 x27 x28 x29 φ 0 (2000*i) s' (by have:=zll (p:=p) hl.len (i:Int); omega) (by omega) h1 (by omega)
  refine this.trans ?_
  simp only [W_id (x:=(i:Int)+1) (by omega) (by omega),List.drop_zero]
  rw [if_neg (by omega)]
  refine hk _ ⟨?_,?_⟩
  ·have hb:=BB.ev (tvl φ p.network) (rdsN p.readers (used (zf p l)) p.readers.length).m (z42 p l (i:Int)) (2000*i) none s' h1
   have ht:=zll (p:=p) hl.len (i:Int)
   obtain⟨a,b,c,d,f⟩:=hb
   exact⟨a,by omega,by omega,by omega,by omega⟩
  ·rw [z0b _ i hi,List.foldl_append,<- h2,hti]; rfl
 ·intro n s' ⟨h1,h2⟩
  rw [List.take_length] at h2
  rw [z2u,if_neg (by simp; omega),<- h2]
  unfold bEnd
  by_cases h:512<s'.v\/4096<s'.b.length
  ·rw [if_pos (by simp; omega),if_pos h]
  ·rw [if_neg (by simp; omega),if_neg h]
theorem y6y (hφ:800000<φ) (p:Pool) {l:List zd} (hl:FewL l):za8 φ p l=zap φ p l:=by
 rw [zmb φ hφ p hl]
 unfold za8
 by_cases hc:zt p=0
 case neg=>rw [y6t φ hφ hc,Option.bind_some,if_pos (by simpa using hc),if_neg hc]
 rw [yft φ hφ hc hl,Option.bind_some,if_neg (by simp),if_pos hc]
 obtain⟨x,hx1,hx⟩:=yfa φ hφ hc hl
 obtain⟨_,_,hr1,_⟩:=z3m hc
 have hrd:=(zm2 hc).1
 rw [hx1,Option.bind_some]
 show z2v φ φ l (cnt p l) x 0 p 0 1 ⟨0,0⟩ [] [] [] [] [] []=_
 have hxl:=hx.len
 refine zr (fun n i (s:RS)=>z2v φ n l (cnt p l) x i p 0 s.v ⟨0,0⟩ [] [] [] s.b s.y []) p.readers.length
  (fun i s=>s.v =(rdsN p.readers (used (zf p l)) i).v/\s.b =(rdsN p.readers (used (zf p l)) i).b/\s.y =(rdsN p.readers (used (zf p l)) i).y)
  (fun o=>o=some (bEnd (bAll (tvl φ p.network) p.readers (zf p l)))) ?_ ?_ φ ⟨1,[],[],[]⟩ ⟨rfl,rfl,rfl⟩ (by omega)
 ·intro n i ⟨v,mm,b,y⟩ hi ⟨q1,q2,q3⟩ hk
  simp only at q1 q2 q3 ⊢
  obtain⟨a1,a2,a3,a4⟩:=z96 p.readers (used (zf p l)) i
  rw [<- q1] at a1 a2; rw [<- q2] at a3; rw [<- q3] at a4
  have hlow:=hrd _ (z0p (l:=p.readers) (i:=(i:Int)) (by omega) (by omega))
  have hW:W ((i:Int)+1) =(i:Int)+1:=W_id (by omega) (by omega)
  have hin :(0:Int)<=(i:Int)/\(i:Int) <(x.length:Int):=⟨by omega,by omega⟩
  have hir :(0:Int)<=(i:Int)/\(i:Int) <(p.readers.length:Int):=⟨by omega,by omega⟩
  have hstep :(rdsN p.readers (used (zf p l)) (i+1))=zlb p.readers i (rdsN p.readers (used (zf p l)) i):=rfl
  have hm0:=(zoo p.readers (used (zf p l)) i).2 _ (Int.le_refl _)
  rw [z2v,if_pos (by simp; omega),z7 hin,hx.num i hi]
  by_cases hu :(mget (used (zf p l)) (i:Int)).isSome=true
  ·rw [if_pos hu,if_pos (by have:=yj6 p.readers (used (zf p l)) i; simp; omega),z7 hin,z7 hir,z7 (z4w (by simp; omega) (by omega)),z7 (z4w (by simp; omega) (by omega)),z7 hin,z7 hir,z7 (z4w (by simp; omega) (by omega)),z7 (z4w (by simp; omega) (by omega)),hW,W_id (x:=v+1) (by omega) (by omega),W_id (x:=0 -(gt p.readers (i:Int)).low) (by omega) (by omega),nr0]
   refine hk ⟨v+1,mm,_,_⟩ ?_
   rw [hstep,zlb,if_pos (by rw [hm0]; exact hu)]
   refine⟨by rw [q1],?_,?_⟩
   ·show b++_++_=_; rw [q2]; simp
   ·show y++_++_=_; rw [q3]; simp
  ·rw [if_neg hu,if_neg (by simp),hW]
   refine hk ⟨v,mm,b,y⟩ ?_
   rw [hstep,zlb,if_neg (by rw [hm0]; exact hu)]
   exact⟨q1,q2,q3⟩
 ·intro n ⟨v,mm,b,y⟩ ⟨q1,q2,q3⟩
  simp only at q1 q2 q3 ⊢
  obtain⟨a1,a2,a3,a4⟩:=z96 p.readers (used (zf p l)) p.readers.length
  rw [z2v,if_neg (by simp; omega),q1,q2,q3]
  exact ybr φ hφ hc hl hx 0 [] [] [] ⟨_,_,_,[]⟩ ⟨a1,by show (rdsN p.readers (used (zf p l)) p.readers.length).v<=_; omega,by show (rdsN p.readers (used (zf p l)) p.readers.length).b.length<=_; omega,by show (rdsN p.readers (used (zf p l)) p.readers.length).y.length<=_; omega,by simp⟩
end
end Px
end
section
namespace Px
open Go
theorem y2s (φ:Nat) (hφ:800000<φ) {s:BS} (h:Good s) {X:Int->Int} (hX:SolF s X) {y:z0h} (hy:y∈s.e):z2e φ ⟨s.v,s.b,s.y,s.e⟩ y.var 0=some (- z1n s y.var,())/\z2e φ ⟨s.v,s.b,s.y,s.e⟩ 0 y.var=some (z33 s y.var,())/\W (0 -(- z1n s y.var))=z1n s y.var:=by
 obtain⟨h1,h2⟩:=h.ev y hy
 obtain⟨l1,l2⟩:=h.late φ (by omega) hX (v:=y.var) (by omega) h2 s.y s.e
 have b1:=h.bd true (v:=y.var) (by omega) h2
 change _/\_<=gt (zmv s) y.var/\gt (zmv s) y.var<=_ at b1
 refine⟨l2,l1,?_⟩
 unfold z1n
 rw [W_id (by omega) (by omega)]; omega
theorem y1y (φ:Nat) (hφ:800000<φ) {s:BS} (h:Good s) {X:Int->Int} (hX:SolF s X):z3z φ φ 0 ⟨s.v,s.b,s.y,s.e⟩ []=some (visL s,0,()):=by
 have hel:=h.el
 have hv2:=h.v2
 refine zr (fun f i (v:List zk)=>z3z φ f i ⟨s.v,s.b,s.y,s.e⟩ v) s.e.length (fun i v=>v =(s.e.take i).map (visE (z1n s) (z33 s))) (fun o=>o=_) ?_ ?_ φ _ (by simp) (by omega)
 ·intro f i v hi hv hk
  obtain⟨s1,s2,s3⟩:=y2s φ hφ h hX (z0p (l:=s.e) (i:=(i:Int)) (by omega) (by omega))
  have hlen:v.length<=1000:=by rw [hv]; simp; omega
  rw [z3z,if_pos (by simp; omega),z7 ⟨by omega,by simp only; omega⟩]
  simp only
  rw [s1,Option.bind_some,s2,Option.bind_some,z7 (zgg (by simp; omega) (by omega)),s3,W_id (x:=(i:Int)+1) (by omega) (by omega)]
  refine hk _ ?_
  rw [hv,z0b s.e i hi,List.map_append]; rfl
 ·intro f v hv
  rw [z3z,if_neg (by simp),hv,List.take_length]; rfl
theorem zcv (φ:Nat) (hφ:800000<φ) (p:Pool) {l:List zd} (hl:FewL l):z8l φ p l=some ((slv φ p l).2.1,(slv φ p l).2.2.1,()):=by
 unfold z8l slv
 rw [y6y φ hφ p hl,zmb φ hφ p hl,Option.bind_some,show bAll (tvl φ p.network) p.readers (zf p l)=bsB φ p l from rfl]
 by_cases hc:zt p=0
 case neg=>rw [if_neg hc,if_pos hc]; simp only; rw [if_pos (by simpa using hc)]
 rw [if_pos hc,if_neg (show ¬ zt p≠0 from fun h=>h hc)]
 unfold bEnd
 by_cases hb:512 <(bsB φ p l).v\/4096 <(bsB φ p l).b.length
 ·rw [if_pos hb,if_pos hb]; simp only; rw [if_pos (by simp)]
 rw [if_neg hb,if_neg hb]
 have hG:=zu0 hφ hc hl hb
 simp only
 generalize bsB φ p l=s at *
 rw [if_neg (by simp),zh6 φ (by omega),hG.solve φ (by omega),Option.bind_some]
 by_cases hz:0<=(low s.v.toNat s.b).z
 ·rw [if_pos hz,if_pos hz]; simp only; rw [if_pos (by simp)]
 rw [if_neg hz,if_neg hz]
 obtain⟨X,hX⟩:=hG.sol.1 (by omega)
 simp only
 rw [if_neg (by simp)]
 exact y1y φ hφ hG hX
theorem y5a (φ:Nat) (hφ:800000<φ) {s:BS} (h:Good s) {X:Int->Int} (hX:SolF s X):z29 φ φ 0 ⟨s.v,s.b,s.y,s.e⟩ []=some (hisL s,0,()):=by
 have hel:=h.el
 have hv2:=h.v2
 refine zr (fun f i (v:List zk)=>z29 φ f i ⟨s.v,s.b,s.y,s.e⟩ v) s.e.length (fun i v=>v =(s.e.take i).map (visE (z1n s) (z33 s))) (fun o=>o=_) ?_ ?_ φ _ (by simp) (by omega)
 ·intro f i v hi hv hk
  obtain⟨s1,s2,s3⟩:=y2s φ hφ h hX (z0p (l:=s.e) (i:=(i:Int)) (by omega) (by omega))
  have hlen:v.length<=1000:=by rw [hv]; simp; omega
  rw [z29,if_pos (by simp; omega),z7 ⟨by omega,by simp only; omega⟩]
  simp only
  rw [s1,Option.bind_some,s2,Option.bind_some,z7 (zgg (by simp; omega) (by omega)),s3,W_id (x:=(i:Int)+1) (by omega) (by omega)]
  refine hk _ ?_
  rw [hv,z0b s.e i hi,List.map_append]; rfl
 ·intro f v hv
  rw [z29,if_neg (by simp)]
  rw [List.take_length] at hv
  have hlen:v.length=s.e.length:=by rw [hv]; simp
  have hat:∀ i:Nat,i<s.e.length->gt v (i:Int)=visE (z1n s) (z33 s) (gt s.e (i:Int)):=fun i hi=>by
   rw [z23 (by omega),z23 hi]; simp [hv]
  refine zr (fun f i (u:List zk)=>z3j φ f 0 i u) v.length (fun i u=>u.length=v.length/\∀ j:Nat,j<v.length->gt u (j:Int)=if j<i then visE (z1n s) (z1n s) (gt s.e (j:Int)) else gt v (j:Int)) (fun o=>o=_) ?_ ?_ φ v ⟨rfl,fun j hj=>by rw [if_neg (by omega)]⟩ (by omega)
  ·intro f i u hi ⟨hu,hg⟩ hk
   rw [z3j,if_pos (by simp; omega),z7 ⟨by omega,by omega⟩,z7 ⟨by omega,by omega⟩,W_id (x:=(i:Int)+1) (by omega) (by omega)]
   refine hk _ ⟨by rw [z05]; exact hu,fun j hj=>?_⟩
   rw [zy _ _ _ _ (by omega) (by omega) (by omega),hg j hj,hg i hi,if_neg (by omega:¬ i<i)]
   by_cases e:j=i
   ·subst e
    rw [if_pos rfl,if_pos (by omega),hat j (by omega)]; rfl
   ·rw [if_neg (by omega)]
    by_cases e2:j<i
    ·rw [if_pos e2,if_pos (by omega)]
    ·rw [if_neg e2,if_neg (by omega)]
  ·intro f u ⟨hu,hg⟩
   rw [z3j,if_neg (by rw [hu]; simp)]
   have:u=hisL s:=y9j (by rw [hu,hlen]; simp [hisL]) fun i h0 h1=>by
    have:=hg i.toNat (by omega)
    rw [if_pos (by omega),show ((i.toNat:Nat):Int)=i by omega] at this
    rw [this]
    have hi:i.toNat<s.e.length:=by omega
    have e:=z23 (l:=hisL s) (i:=i.toNat) (by simp [hisL]; omega)
    rw [show ((i.toNat:Nat):Int)=i by omega] at e
    have e2:=z23 (l:=s.e) (i:=i.toNat) hi
    rw [show ((i.toNat:Nat):Int)=i by omega] at e2
    rw [e,e2]; simp [hisL]
   rw [this]
theorem zwu (φ:Nat) (hφ:800000<φ) (p:Pool) {l:List zd} (hl:FewL l):zdk φ p l=some (hst φ p l):=by
 unfold zdk hst
 rw [y6y φ hφ p hl,zmb φ hφ p hl,Option.bind_some,show bAll (tvl φ p.network) p.readers (zf p l)=bsB φ p l from rfl]
 by_cases hc:zt p=0
 case neg=>
  rw [if_neg hc,if_pos hc]; simp only; rw [if_pos (by simpa using hc)]
  obtain⟨f,rfl⟩:∃ f,φ=f+1:=⟨φ-1,by omega⟩
  rw [z89,if_neg (by simp)]
 rw [if_pos hc,if_neg (show ¬ zt p≠0 from fun h=>h hc)]
 unfold bEnd
 by_cases hb:512 <(bsB φ p l).v\/4096 <(bsB φ p l).b.length
 ·rw [if_pos hb,if_pos hb]; simp only; rw [if_pos (by simp)]
  obtain⟨f,rfl⟩:∃ f,φ=f+1:=⟨φ-1,by omega⟩
  rw [z89,if_neg (by simp)]
 rw [if_neg hb,if_neg hb]
 have hG:=zu0 hφ hc hl hb
 simp only
 generalize bsB φ p l=s at *
 rw [if_neg (by simp),zh6 φ (by omega),hG.solve φ (by omega),Option.bind_some]
 by_cases hz:0<=(low s.v.toNat s.b).z
 ·rw [if_pos hz,if_pos hz]; simp only; rw [if_pos (by simp)]
  obtain⟨f,rfl⟩:∃ f,φ=f+1:=⟨φ-1,by omega⟩
  rw [zaf,if_neg (by simp)]
 rw [if_neg hz,if_neg hz]
 obtain⟨X,hX⟩:=hG.sol.1 (by omega)
 simp only
 rw [if_neg (by simp)]
 exact y5a φ hφ hG hX
theorem zry (φ:Nat) (hφ:800000<φ) (p:Pool) (l:List zd) (w m:Int):∃ e,ze2 φ p w m=some (e,())/\(e≠0->zfb φ p l w m=e)/\(e=0->zt p=0/\0<=w/\w <(p.fleet.wagons.length:Int)/\0<=m/\m<=1073741824/\zfb φ p l w m =(slv φ p l).2.2.1):=by
 unfold ze2 zfb
 rw [z8s φ hφ,Option.bind_some]
 by_cases hc:zt p=0
 ·rw [if_neg (by simpa using hc),if_neg (show ¬ zt p≠0 from fun h=>h hc)]
  by_cases ha:w<0\/(p.fleet.wagons.length:Int)<=w\/m<0\/1073741824<m
  ·rw [if_pos (by simp only [Bool.or_eq_true,decide_eq_true_eq]; omega),if_pos ha]
   exact⟨_,rfl,fun _=>rfl,fun h=>by cases h⟩
  ·rw [if_neg (by simp only [Bool.or_eq_true,decide_eq_true_eq]; omega),if_neg ha]
   exact⟨_,rfl,fun h=>absurd rfl h,fun _=>⟨hc,by omega,by omega,by omega,by omega,rfl⟩⟩
 ·rw [if_pos (by simpa using hc),if_pos hc]
  exact⟨_,rfl,fun _=>rfl,fun h=>absurd h hc⟩
theorem y9p {φ:Nat} (hφ:800000<φ) {p:Pool} {l:List zd} (hl:FewL l) {w m:Int} (hc:zt p=0) (h1:0<=w) (h2:w <(p.fleet.wagons.length:Int)) (h3:0<=m) (h4:m<=1073741824) (h5 :(slv φ p l).2.2.1=0):yjw φ p l w m/\(slv φ p l).2.1=visL (bsB φ p l):=by
 rcases y5r hφ hc hl with⟨_,h⟩ |⟨he,hG,hX⟩
 ·exact absurd h5 h
 ·exact⟨⟨hc,h1,h2,h3,h4,hG,hX⟩,by rw [he]⟩
theorem ypm (φ:Nat) (hφ:800000<φ) {p:Pool} {l:List zd} (hl:FewL l) {w:Int} (h0:0<=w) (h1:w <(p.fleet.wagons.length:Int)) (hG:Good (bsB φ p l)) {f e:Nat} (hR:RunW (bsB φ p l) w f e) :
  zpr φ (visL (bsB φ p l)) w=some (((visL (bsB φ p l)).take e).drop f,()):=by
 have hall:=fun k hk hw=>yh2 φ hl h0 h1 hR (k:=k) hk hw
 generalize bsB φ p l=s at *
 have hel:=hG.el
 have hv2:=hG.v2
 have r1:=hR.fe
 have r2:=hR.el
 have hvl :(visL s).length=s.e.length:=by simp [visL]
 unfold zpr
 refine zr (fun n i (a:List zk)=>z6o φ n (visL s) w i a) s.e.length (fun i a=>a =((visL s).take (min i e)).drop f) (fun o=>o=_) ?_ ?_ φ _ (by simp) (by omega)
 ·intro n i a hi ha hk
  have hlen:a.length<=1000:=by rw [ha]; simp; omega
  have hv:gt (visL s) (i:Int)=_:=zjs (E:=z1n s) (T:=z33 s) (k:=i) (by omega)
  have hw :(gt (visL s) (i:Int)).wagon=wgE s i:=by rw [hv]
  rw [z6o,if_pos (by simp; omega),z7 ⟨by omega,by omega⟩,W_id (x:=(i:Int)+1) (by omega) (by omega),hw]
  by_cases q:wgE s i=w
  ·obtain⟨q1,q2⟩:=hall i hi q
   rw [if_pos (by simpa using q),z7 ⟨by omega,by omega⟩,z7 (zgg (by simp; omega) (by omega))]
   refine hk _ ?_
   rw [ha,show min i e=i by omega,show min (i+1) e=i+1 by omega,z0b (visL s) i (by omega),List.drop_append_of_le_length (by simp; omega)]
  ·rw [if_neg (by simpa using q)]
   refine hk _ ?_
   rw [ha]
   by_cases z:i<f
   ·rw [List.drop_of_length_le (by simp; omega),List.drop_of_length_le (by simp; omega)]
   ·by_cases z2:i<e
    ·exact absurd (hR.own i (by omega) z2) q
    ·rw [show min i e=e by omega,show min (i+1) e=e by omega]
 ·intro n a ha
  rw [z6o,if_neg (by rw [hvl]; simp),ha,show min s.e.length e=e by omega]
theorem zis (φ:Nat) (m:Int) (v v':List zk) (f e:Nat) (he:e<=v.length) (hv:v.length<=1000) (hlen:v'.length=e-f) (hfe:f<=e) (hat:∀ i:Nat,i<e-f->gt v' (i:Int)=gt v ((f+i:Nat):Int)) :
  ∀(n first i:Nat),first<=i->i<=e-f->z3k φ n m v' (first:Int) (i:Int)=z0v φ n m v ((f+first:Nat):Int) (e:Int) ((f+i:Nat):Int)
 | 0,_,_,_,_=>rfl
 | n+1,first,i,h1,h2=>by
  rw [z3k,z0v]
  by_cases q:i<e-f
  ·have e1:W ((i:Int)+1) =((i+1:Nat):Int):=by rw [W_id (by omega) (by omega)]; omega
   have e2:W (((f+i:Nat):Int)+1) =((f +(i+1):Nat):Int):=by rw [W_id (by omega) (by omega)]; omega
   have i1 :(0:Int)<=(first:Int)/\(first:Int) <(v'.length:Int):=⟨by omega,by omega⟩
   have i2 :(0:Int)<=((f+first:Nat):Int)/\((f+first:Nat):Int) <(v.length:Int):=⟨by omega,by omega⟩
   have j1 :(0:Int)<=(i:Int)/\(i:Int) <(v'.length:Int):=⟨by omega,by omega⟩
   have j2 :(0:Int)<=((f+i:Nat):Int)/\((f+i:Nat):Int) <(v.length:Int):=⟨by omega,by omega⟩
   rw [if_pos (show decide ((i:Int) <(v'.length:Int))=true by simp; omega),if_pos (show decide (((f+i:Nat):Int) <(e:Int))=true by simp; omega),z7 j1,z7 j2,hat i q,hat first (by omega),e1,e2,zis φ m v v' f e he hv hlen hfe hat n first (i+1) (by omega) (by omega),zis φ m v v' f e he hv hlen hfe hat n (i+1) (i+1) (by omega) (by omega),z7 i1,z7 i2,z7 (fun _=>j1),z7 (fun _=>j2),z7 i1,z7 i2]
  ·rw [if_neg (show ¬ decide ((i:Int) <(v'.length:Int))=true by simp; omega),if_neg (show ¬ decide (((f+i:Nat):Int) <(e:Int))=true by simp; omega)]
theorem zx5 (φ:Nat) (hφ:800000<φ) (p:Pool) {l:List zd} (hl:FewL l) (w m:Int):zdb φ p l w m=zc φ p l w m:=by
 unfold zdb zc
 obtain⟨e0,h1,h2,h3⟩:=zry φ hφ p l w m
 rw [h1,Option.bind_some]
 rcases yhr φ hφ p hl w m with⟨k1,x,v,f,e,k2⟩ |⟨k1,hA,f,e,hR,k2⟩
 ·rw [k2,Option.bind_some]
  simp only
  by_cases he:e0=0
  ·obtain⟨a1,a2,a3,a4,a5,a6⟩:=h3 he
   rw [if_neg (by simpa using he),zcv φ hφ p hl,Option.bind_some]
   simp only
   rw [<- a6,if_pos (by simpa using k1),if_pos (by simpa using k1)]
  ·rw [if_pos (by simpa using he),h2 he,if_pos (by simpa using he)]
 ·rw [k2,Option.bind_some]
  simp only
  have he:e0=0:=by
   by_cases he:e0=0
   ·exact he
   ·have:=h2 he; omega
  obtain⟨a1,a2,a3,a4,a5,a6⟩:=h3 he
  obtain⟨_,hvis⟩:=y9p hφ hl a1 a2 a3 a4 a5 (by omega)
  rw [if_neg (by simpa using he),zcv φ hφ p hl,Option.bind_some]
  simp only
  rw [<- a6,k1,if_neg (by simp),if_neg (by simp),hvis,ypm φ hφ hl a2 a3 hA.good hR,Option.bind_some]
  have hG:=hA.good
  have hel:=hG.el
  have hv2:=hG.v2
  have r1:=hR.fe
  have r2:=hR.el
  have hvl :(visL (bsB φ p l)).length =(bsB φ p l).e.length:=by simp [visL]
  have:=zis φ m (visL (bsB φ p l)) (((visL (bsB φ p l)).take e).drop f) f e (by omega) (by omega) (by simp; omega) r1 (fun i hi=>by
   rw [z23 (by simp; omega),z23 (by omega)]; simp) φ 0 0 (Nat.le_refl _) (by omega)
  rw [Nat.add_zero] at this
  exact this
theorem yne {L M:List Int} (h1:L.Pairwise (· < ·)) (h2:M.Pairwise (· < ·)) (h:∀ q,q∈L↔q∈M):L=M:=by
 have n1:L.Nodup:=h1.imp fun h=>by omega
 have n2:M.Nodup:=h2.imp fun h=>by omega
 exact List.Perm.eq_of_pairwise (le:=fun a b:Int=>a<b) (fun a b _ _ h1 h2=>by omega) h1 h2 ((List.perm_ext_iff_of_nodup n1 n2).2 h)
theorem ynp (φ:Nat) (hφ:800000<φ) {p:Pool} (hc:zt p=0) {s:BS} (hG:Good s) {X:Int->Int} (hX:SolF s X) {f e:Nat} (he:e<=s.e.length) (hok:∀ k,f<=k->k<e->okPl p.network (plE s k)) {m q:Int} (m0:0<=m) (m1:m<=1073741824) (hq:okPl p.network q) :
  (f<e->∃ b,z7x φ p ⟨s.v,s.b,s.y,s.e⟩ (visL s) (-1) (f:Int) q m=some (b,())/\(b=true↔zrz φ p.network (z33 s) (plE s) (vrE s) m q f))/\
  (f<e->∃ b,z7x φ p ⟨s.v,s.b,s.y,s.e⟩ (visL s) ((e-1:Nat):Int) (-1) q m=some (b,())/\(b=true↔zrn φ p.network (z1n s) (plE s) (vrE s) m q (e-1)))/\
  ∀ k:Nat,f<=k->k+1<e->∃ b,z7x φ p ⟨s.v,s.b,s.y,s.e⟩ (visL s) (k:Int) ((k+1:Nat):Int) q m=some (b,())/\(b=true↔gapW φ p.network (z1n s) (z33 s) (gapT s) (plE s) (vrE s) (stE s) m q k):=by
 have hn:=(z3m hc).1
 have hel:=hG.el
 have hv2:=hG.v2
 have hvl :(visL s).length=s.e.length:=by simp [visL]
 have hev:∀ k:Nat,k<s.e.length->-2305843009213693952<=z1n s (vrE s k)/\z1n s (vrE s k)<=2305843009213693952/\-2305843009213693952<=z33 s (vrE s k)/\z33 s (vrE s k)<=1125899906842624:=fun k hk=>by
  obtain⟨h1,h2⟩:=hG.ev _ (z0p (l:=s.e) (i:=(k:Int)) (by omega) (by omega))
  have b1:=hG.bd true (v:=vrE s k) (by unfold vrE; omega) h2
  have b2:=hG.bd false (v:=vrE s k) (by unfold vrE; omega) h2
  change _/\_<=gt (zmv s) (vrE s k)/\gt (zmv s) (vrE s k)<=_ at b1
  change _/\_<=gt (zwn s) (vrE s k)/\gt (zwn s) (vrE s k)<=_ at b2
  unfold z1n z33
  omega
 refine⟨fun hlt=>?_,fun hlt=>?_,fun k k1 k2=>?_⟩
 ·have hv:gt (visL s) (f:Int)=_:=zjs (E:=z1n s) (T:=z33 s) (k:=f) (by omega)
  unfold z7x z73
  rw [if_neg (by decide),if_pos (by simp),hvl,z7 ⟨by omega,by omega⟩,hv,zkk φ hφ]
  simp only
  rw [zai hφ hn hq (hok f (Nat.le_refl _) hlt),Option.bind_some,z7 (fun _=>⟨by omega,by omega⟩)]
  cases hd:Dst φ p.network q (plE s f) with
  | none=>
   simp only
   rw [if_pos (by simp)]
   exact⟨_,rfl,by simp [zrz,hd]⟩
  | some t=>
   have ht:=zue hφ hn hq (hok f (Nat.le_refl _) hlt) hd
   simp only
   rw [W_id (x:=m+t) (by omega) (by omega)]
   by_cases h:m+t<=z33 s (vrE s f)
   ·rw [if_neg (by simp; omega)]
    unfold z7h
    rw [z7 (fun h=>by simp at h),z7 (fun h=>by simp at h),gz_f (by simp),Option.bind_some]
    exact⟨_,rfl,by simp [zrz,hd,h]⟩
   ·rw [if_pos (by simp; omega)]
    exact⟨_,rfl,by simp [zrz,hd,h]⟩
 ·have hv:gt (visL s) ((e-1:Nat):Int)=_:=zjs (E:=z1n s) (T:=z33 s) (k:=e-1) (by omega)
  have hev1:=hev (e-1) (by omega)
  unfold z7x
  rw [if_pos (by simp),hvl,z7 ⟨by omega,by omega⟩,hv,zkk φ hφ]
  simp only
  rw [zai hφ hn (hok (e-1) (by omega) (by omega)) hq,Option.bind_some,z7 (fun _=>⟨by omega,by omega⟩),z7 (fun _=>⟨by omega,by omega⟩),z7 (fun _=>⟨by omega,by omega⟩)]
  cases hd:Dst φ p.network (plE s (e-1)) q with
  | none=>
   simp only
   rw [if_pos (by simp)]
   exact⟨_,rfl,by simp [zrn,hd]⟩
  | some t=>
   have ht:=zue hφ hn (hok (e-1) (by omega) (by omega)) hq hd
   simp only
   rw [W_id (x:=m-t) (by omega) (by omega)]
   by_cases h:z1n s (vrE s (e-1))+t<=m
   ·rw [if_neg (by simp; omega)]
    unfold z73 z7h
    rw [if_neg (by decide),z7 (fun h=>by simp at h),z7 (fun h=>by simp at h),gz_f (by simp),Option.bind_some]
    exact⟨_,rfl,by simp [zrn,hd,h]⟩
   ·rw [if_pos (by simp; omega)]
    exact⟨_,rfl,by simp [zrn,hd,h]⟩
 ·have hv:gt (visL s) (k:Int)=_:=zjs (E:=z1n s) (T:=z33 s) (k:=k) (by omega)
  have hv':gt (visL s) ((k+1:Nat):Int)=_:=zjs (E:=z1n s) (T:=z33 s) (k:=k+1) (by omega)
  have hev1:=hev k (by omega)
  have hev2:=hev (k+1) (by omega)
  have hg:=hG.gapT_eq φ (by omega) hX (k:=k) (by omega) s.y
  unfold z7x
  rw [if_pos (by simp),hvl,z7 ⟨by omega,by omega⟩,hv,zkk φ hφ]
  simp only
  rw [zai hφ hn (hok k k1 (by omega)) hq,Option.bind_some,z7 (fun _=>⟨by omega,by omega⟩),z7 (fun _=>⟨by omega,by omega⟩),z7 (fun _=>⟨by omega,by omega⟩)]
  cases hd:Dst φ p.network (plE s k) q with
  | none=>
   simp only
   rw [if_pos (by simp)]
   exact⟨_,rfl,by simp [gapW,hd]⟩
  | some t=>
   have ht:=zue hφ hn (hok k k1 (by omega)) hq hd
   simp only
   rw [W_id (x:=m-t) (by omega) (by omega)]
   by_cases h:z1n s (vrE s k)+t<=m/\(stE s k=true->q=plE s k)
   case neg=>
    rw [if_pos (by
     simp only [Bool.or_eq_true,Bool.and_eq_true,decide_eq_true_eq,bne_iff_ne,ne_eq]
     by_cases h1:z1n s (vrE s k)+t<=m
     ·right
      have:¬(stE s k=true->q=plE s k):=fun z=>h ⟨h1,z⟩
      rw [Classical.not_imp] at this
      exact⟨⟨by omega,this.1⟩,this.2⟩
     ·left; right; omega)]
    refine⟨_,rfl,?_⟩
    simp only [Bool.false_eq_true,false_iff]
    rintro⟨a,b,g1,g2,g3,g4,g5,g6⟩
    rw [hd] at g1; cases g1
    exact h ⟨g2,g5⟩
   obtain⟨h,hst⟩:=h
   rw [if_neg (by
    simp only [Bool.or_eq_true,Bool.and_eq_true,decide_eq_true_eq,bne_iff_ne,ne_eq,not_or,not_and,Decidable.not_not]
    exact⟨⟨by simp,by omega⟩,fun z=>hst z.2⟩)]
   unfold z73
   rw [if_pos (by simp; omega),hvl,z7 ⟨by omega,by omega⟩,hv',zkk φ hφ]
   simp only
   rw [zai hφ hn hq (hok (k+1) (by omega) k2),Option.bind_some,z7 (fun _=>⟨by omega,by omega⟩)]
   cases hd2:Dst φ p.network q (plE s (k+1)) with
   | none=>
    simp only
    rw [if_pos (by simp)]
    refine⟨_,rfl,?_⟩
    simp only [Bool.false_eq_true,false_iff]
    rintro⟨a,b,g1,g2,g3,g4,g5,g6⟩
    rw [hd2] at g3; cases g3
   | some u=>
    have hu:=zue hφ hn hq (hok (k+1) (by omega) k2) hd2
    simp only
    rw [W_id (x:=m+u) (by omega) (by omega)]
    by_cases h2:m+u<=z33 s (vrE s (k+1))
    ·rw [if_neg (by simp; omega)]
     unfold z7h
     rw [z7 (fun _=>⟨by omega,by simp only; omega⟩),z7 (fun _=>⟨by omega,by simp only; omega⟩),gz_t (by simp; omega)]
     change ∃ b,(z2e φ ⟨s.v,s.b,s.y,s.e⟩ (vrE s k) (vrE s (k+1))).bind _=_/\_
     rw [hg,Option.bind_some,W_id (x:=t+u) (by omega) (by omega)]
     refine⟨_,rfl,?_⟩
     have e1:decide ((k:Int)<0)=false:=by simp
     have e2:decide (((k+1:Nat):Int)<0)=false:=by simp; omega
     rw [e1,e2]
     simp only [Bool.or_self,Bool.false_or,decide_eq_true_eq]
     constructor
     ·intro h3
      exact⟨t,u,hd,h,hd2,h2,hst,h3⟩
     ·rintro⟨a,b,g1,g2,g3,g4,g5,g6⟩
      rw [hd] at g1; cases g1
      rw [hd2] at g3; cases g3
      exact g6
    ·rw [if_pos (by simp; omega)]
     refine⟨_,rfl,?_⟩
     simp only [Bool.false_eq_true,false_iff]
     rintro⟨a,b,g1,g2,g3,g4,g5,g6⟩
     rw [hd2] at g3; cases g3
     exact h2 g4
theorem yoi (φ:Nat) (hφ:800000<φ) {p:Pool} (hc:zt p=0) {s:BS} (hG:Good s) {X:Int->Int} (hX:SolF s X) {f e:Nat} (hfe:f<=e) (he:e<=s.e.length) (hok:∀ k,f<=k->k<e->okPl p.network (plE s k)) {m q:Int} (m0:0<=m) (m1:m<=1073741824) (hq:okPl p.network q) :
  ∃ b,zov φ p ⟨s.v,s.b,s.y,s.e⟩ (visL s) (f:Int) (e:Int) q m=some (b,())/\(b=true↔PosW φ p.network (z1n s) (z33 s) (gapT s) (plE s) (vrE s) (stE s) f e m q):=by
 obtain⟨h1,h2,h3⟩:=ynp φ hφ hc hG hX he hok m0 m1 hq
 have hel:=hG.el
 have hv2:=hG.v2
 unfold zov
 by_cases hz:f=e
 ·rw [gz_f (by simp [hz]),Option.bind_some,gz_f (by simp [hz]),Option.bind_some,if_pos (by simp [hz])]
  exact⟨_,rfl,fun _=>.inl hz,fun _=>rfl⟩
 obtain⟨b1,e1,c1⟩:=h1 (by omega)
 obtain⟨b2,e2,c2⟩:=h2 (by omega)
 have hne :((f:Int)==(e:Int))=false:=by simp; omega
 rw [hne,gz_t rfl,e1,Option.bind_some]
 simp only [Bool.false_or]
 cases b1 with
 | true=>
  rw [gz_f (by simp),Option.bind_some,if_pos (by simp)]
  exact⟨_,rfl,fun _=>.inr (.inl (c1.1 rfl)),fun _=>rfl⟩
 | false=>
  rw [gz_t rfl,show W ((e:Int)-1) =((e-1:Nat):Int) by rw [W_id (by omega) (by omega)]; omega,e2,Option.bind_some]
  cases b2 with
  | true=>
   rw [if_pos (by simp)]
   exact⟨_,rfl,fun _=>.inr (.inr (.inl (c2.1 rfl))),fun _=>rfl⟩
  | false=>
   rw [if_neg (by simp)]
   have key:∀(n i:Nat),e-i<n->f<=i->i<=e->(∀ k,f<=k->k+1<e->k<i->¬ gapW φ p.network (z1n s) (z33 s) (gapT s) (plE s) (vrE s) (stE s) m q k)->
     ∃ b,z8u φ n (visL s) (e:Int) q m (i:Int) p ⟨s.v,s.b,s.y,s.e⟩=some (b,())/\(b=true↔∃ k,f<=k/\k+1<e/\gapW φ p.network (z1n s) (z33 s) (gapT s) (plE s) (vrE s) (stE s) m q k):=by
    intro n
    induction n with
    | zero=>intro i h; omega
    | succ n ih=>
     intro i hn hf hi hno
     have hWi:W ((i:Int)+1) =((i+1:Nat):Int):=by rw [W_id (by omega) (by omega)]; omega
     rw [z8u,hWi]
     by_cases qe:i+1<e
     ·obtain⟨b,g1,g2⟩:=h3 i hf qe
      rw [if_pos (by simp; omega),g1,Option.bind_some]
      cases b with
      | true=>
       rw [if_pos rfl]
       exact⟨_,rfl,fun _=>⟨i,hf,qe,g2.1 rfl⟩,fun _=>rfl⟩
      | false=>
       rw [if_neg (by simp)]
       refine ih (i+1) (by omega) (by omega) (by omega) fun k k1 k2 k3=>?_
       by_cases z:k=i
       ·subst z; exact fun h=>absurd (g2.2 h) (by simp)
       ·exact hno k k1 k2 (by omega)
     ·rw [if_neg (by simp; omega)]
      refine⟨_,rfl,(fun h=>by cases h),?_⟩
      rintro⟨k,k1,k2,k3⟩
      exact absurd k3 (hno k k1 k2 (by omega))
   obtain⟨b,g1,g2⟩:=key φ f (by omega) (Nat.le_refl _) hfe (fun k k1 k2 k3=>by omega)
   refine⟨b,g1,fun h=>.inr (.inr (.inr (g2.1 h))),?_⟩
   rintro(h | h | h | h)
   ·exact absurd h hz
   ·exact absurd (c1.2 h) (by simp)
   ·exact absurd (c2.2 h) (by simp)
   ·exact g2.2 h
theorem zt8 (φ:Nat) (hφ:800000<φ) (p:Pool) {l:List zd} (hl:FewL l) (w m:Int):zb3 φ p l w m=z43 φ p l w m:=by
 obtain⟨L,c1,c2,c3⟩:=zvn φ hφ p hl w m
 rw [c1]
 unfold zb3
 obtain⟨e0,h1,h2,h3⟩:=zry φ hφ p l w m
 rw [h1,Option.bind_some]
 by_cases he:e0=0
 case neg=>
  have:=h2 he
  rw [if_pos (by simpa using he),c2 (by rw [this]; exact he),this]
 obtain⟨a1,a2,a3,a4,a5,a6⟩:=h3 he
 rw [if_neg (by simpa using he),zcv φ hφ p hl,Option.bind_some]
 simp only
 rw [<- a6]
 by_cases hk:zfb φ p l w m=0
 case neg=>rw [if_pos (by simpa using hk),c2 hk]
 obtain⟨hA,f,e,hR,hP,hLl⟩:=c3 hk
 obtain⟨_,hvis⟩:=y9p hφ hl a1 a2 a3 a4 a5 (by omega)
 have hG:=hA.good
 have hel:=hG.el
 have hv2:=hG.v2
 have r1:=hR.fe
 have r2:=hR.el
 obtain⟨X,hX⟩:=hA.sol
 have hE:=yg4 hφ a1 hl hG hX hR
 rw [if_neg (by simpa using hk),y6y φ hφ p hl,zmb φ hφ p hl,if_pos a1,Option.bind_some,show bAll (tvl φ p.network) p.readers (zf p l)=bsB φ p l from rfl,hvis,hk]
 unfold bEnd
 rw [if_neg (by have:=hG.bl; omega)]
 simp only
 have hpl:=(zej (z3m a1).1).1
 have hall:=fun k hk hw=>yh2 φ hl a2 a3 hR (k:=k) hk hw
 generalize bsB φ p l=s at *
 have hvl :(visL s).length=s.e.length:=by simp [visL]
 have hat:∀ k:Nat,k<s.e.length->(gt (visL s) (k:Int)).wagon=wgE s k:=fun k hk=>by unfold visL; rw [zjs hk]
 have key:∀(n i:Nat),s.e.length-i<n->i<=f->z2z φ n w m (visL s) (i:Int) p ⟨s.v,s.b,s.y,s.e⟩=z31 φ φ w m (visL s) (f:Int) (f:Int) p ⟨s.v,s.b,s.y,s.e⟩:=by
  intro n
  induction n with
  | zero=>intro i h; omega
  | succ n ih=>
   intro i hn hi
   rw [z2z,hvl]
   by_cases q:i<f
   ·rw [z7 (fun _=>⟨by omega,by omega⟩),hat i (by omega),if_pos (by have:=hR.lo i q; simp only [Bool.and_eq_true,decide_eq_true_eq]; omega),W_id (x:=(i:Int)+1) (by omega) (by omega)]
    exact ih (i+1) (by omega) (by omega)
   ·have:i=f:=by omega
    subst this
    by_cases q2:i<s.e.length
    ·rw [z7 (fun _=>⟨by omega,by omega⟩),hat i q2,if_neg (by have:=hR.nf q2; simp only [Bool.and_eq_true,decide_eq_true_eq]; omega)]
    ·rw [z7 (fun h=>absurd h (by simp; omega)),if_neg (by simp only [Bool.and_eq_true,decide_eq_true_eq]; omega)]
 have key2:∀(n i:Nat),s.e.length-i<n->f<=i->i<=e->z31 φ n w m (visL s) (f:Int) (i:Int) p ⟨s.v,s.b,s.y,s.e⟩=z16 φ φ m (visL s) (f:Int) (e:Int) 0 p ⟨s.v,s.b,s.y,s.e⟩ []:=by
  intro n
  induction n with
  | zero=>intro i h; omega
  | succ n ih=>
   intro i hn hf hi
   rw [z31,hvl]
   by_cases q:i<e
   ·rw [z7 (fun _=>⟨by omega,by omega⟩),hat i (by omega),if_pos (by have:=hR.own i hf q; simp only [Bool.and_eq_true,decide_eq_true_eq,beq_iff_eq]; omega),W_id (x:=(i:Int)+1) (by omega) (by omega)]
    exact ih (i+1) (by omega) (by omega) (by omega)
   ·have:i=e:=by omega
    subst this
    by_cases q2:i<s.e.length
    ·rw [z7 (fun _=>⟨by omega,by omega⟩),hat i q2,if_neg (by have:=hR.ne q2; simp only [Bool.and_eq_true,decide_eq_true_eq,beq_iff_eq]; omega)]
    ·rw [z7 (fun h=>absurd h (by simp; omega)),if_neg (by simp only [Bool.and_eq_true,decide_eq_true_eq]; omega)]
 have k1:=key φ 0 (by omega) (by omega)
 have k2:=key2 φ f (by omega) (Nat.le_refl _) r1
 have k1':z2z φ φ w m (visL s) 0 p ⟨s.v,s.b,s.y,s.e⟩=_:=k1
 rw [k1',k2]
 refine zr (fun n i (M:List Int)=>z16 φ n m (visL s) (f:Int) (e:Int) i p ⟨s.v,s.b,s.y,s.e⟩ M) p.network.places.length
  (fun i M=>M.length<=i/\M.Pairwise (· < ·)/\∀ q,q∈M↔0<=q/\q <(i:Int)/\PosW φ p.network (z1n s) (z33 s) (gapT s) (plE s) (vrE s) (stE s) f e m q) (fun o=>o=some (L,0,())) ?_ ?_ φ [] ⟨by simp,by simp,fun q=>⟨fun h=>(by cases h),fun h=>by omega⟩⟩ (by omega)
 ·intro n i M hi ⟨hlen,hpw,hmem⟩ hkk
  have hq:okPl p.network (i:Int):=⟨by omega,by omega⟩
  obtain⟨b,g1,g2⟩:=yoi φ hφ a1 hG hX r1 r2 (fun k k1 k2=>(hE.ok k k1 k2).1) a4 a5 hq
  rw [z16,if_pos (by simp; omega),g1,Option.bind_some,W_id (x:=(i:Int)+1) (by omega) (by omega)]
  cases b with
  | true=>
   rw [if_pos rfl,z7 (zgg (by simp; omega) (by omega))]
   refine hkk _ ⟨by simp; omega,List.pairwise_append.2 ⟨hpw,by simp,fun a ha b hb=>?_⟩,fun q=>?_⟩
   ·rw [List.mem_singleton] at hb
    have:=(hmem a).1 ha
    omega
   ·rw [List.mem_append,List.mem_singleton,hmem q]
    constructor
    ·rintro(⟨h1,h2,h3⟩ | rfl)
     ·exact⟨h1,by omega,h3⟩
     ·exact⟨by omega,by omega,g2.1 rfl⟩
    ·rintro⟨h1,h2,h3⟩
     by_cases z:q =(i:Int)
     ·exact .inr z
     ·exact .inl ⟨h1,by omega,h3⟩
  | false=>
   rw [if_neg (by simp)]
   refine hkk _ ⟨by omega,hpw,fun q=>?_⟩
   rw [hmem q]
   constructor
   ·rintro⟨h1,h2,h3⟩
    exact⟨h1,by omega,h3⟩
   ·rintro⟨h1,h2,h3⟩
    by_cases z:q =(i:Int)
    ·subst z; exact absurd (g2.2 h3) (by simp)
    ·exact⟨h1,by omega,h3⟩
 ·intro n M ⟨hlen,hpw,hmem⟩
  rw [z16,if_neg (by simp)]
  have:M=L:=yne hpw hP.inc fun q=>by
   rw [hmem q,hP.mem q]; unfold okPl; rw [and_assoc]
  rw [this]
theorem ymh (φ:Nat) (p:Pool) {l:List zd} (hl:l.length<=100) :(hst φ p l).1.length<=200:=by
 unfold hst
 by_cases hc:zt p=0
 ·rw [if_neg (show ¬ zt p≠0 from fun h=>h hc)]
  have:=(yde (φ:=φ) hc hl).2.2.1
  split
  ·simp
  ·split
   ·simp
   ·simp only [hisL,List.length_map]; omega
 ·rw [if_pos hc]; simp
theorem y6n (φ:Nat) (p:Pool) (l:List zd) (w m:Int) :(z10 φ).F (p,l,w,m,())=z0t φ p l w m:=rfl
theorem zdo (x:Tup TT [35,38,0,0]) (h:ynq TV 30 [35,38,0,0] x):∃ φ,(z10 φ).F x=some (true,()):=by
 obtain⟨p,l,w,m,_⟩:=x
 change List zd at l
 change Pool at p
 change Int at w m
 suffices key:∃ φ,z0t φ p l w m=some (true,()) by
  obtain⟨φ,h⟩:=key
  exact⟨φ,(y6n φ p l w m).trans h⟩
 suffices key:∀ φ:Nat,60000000<φ->zmh φ=some (true,())->z0t φ p l w m=some (true,()) from⟨100000000,key _ (by omega) yrf⟩
 intro φ hφ hsane
 unfold z0t
 obtain⟨bf,hbf,hfew,_⟩:=ykk φ (by omega) p l
 rw [hsane,Option.bind_some,if_neg (by simp),hbf,Option.bind_some]
 cases bf with
 | false=>rw [if_pos (by simp)]
 | true=>
 obtain⟨hl,hlen,hpl,_⟩:=hfew rfl
 obtain⟨a,ok,e1,_,_⟩:=yc8 φ (by omega) p hl w m
 obtain⟨L,p1,p2,p3⟩:=zvn φ (by omega) p hl w m
 have hLl:L.length<=512:=by
  by_cases he:zfb φ p l w m=0
  ·obtain⟨_,f,e,_,_,h⟩:=p3 he
   omega
  ·rw [p2 he]; simp
 have hsl:=yns φ p (l:=l) (by omega)
 have hhl:=ymh φ p (l:=l) (by omega)
 rw [if_neg (by simp),yfz φ (by omega) p hl,Option.bind_some,zcv φ (by omega) p hl,Option.bind_some,zx5 φ (by omega) p hl,e1,Option.bind_some,Option.bind_some,zt8 φ (by omega) p hl,p1,Option.bind_some,Option.bind_some,ybw φ (by omega) p hl,Option.bind_some,zwu φ (by omega) p hl,Option.bind_some]
 simp only
 rw [zlv φ _ (by omega) (by omega),Option.bind_some,if_neg (by simp),y0c φ L (by omega) (by omega),Option.bind_some]
 simp only [Bool.true_and,beq_self_eq_true]
 rw [gz_t trivial,zlv φ _ (by omega) (by omega),Option.bind_some]
 rfl
end Px
end
