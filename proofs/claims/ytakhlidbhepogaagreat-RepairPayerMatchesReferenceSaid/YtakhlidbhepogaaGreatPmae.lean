/- A part of the proof of repairPayerMatchesReference_holds. Conditions: none. -/
import Derived.Test.YtakhlidbhepogaaGreatPmad
set_option linter.unusedVariables false
set_option linter.unusedSimpArgs false
section
namespace Px
open Go Go.RowKit
section
variable {V:TE} {N:Env V} {R:Type} {r:R} {C:Cx N.P}
theorem yio {α:Type} {E:TypeId} {e:α->List VP} {sz:Nat} {l:List α} {sv v:Value} {hi:Nat} (he:∀ x,(e x).length=sz) {S r:Nat->Prop} {w:World} (h :(Px.row E e sz l sv).h S r w) (hv :(prtp sv 0 hi sz).h r w v) :(Px.row E e sz (z0q l 0 hi) v).h S r w:=by
 have e0:z0q l 0 hi=l.take hi:=by simp [z0q]
 rw [e0]
 rcases h with⟨rfl,rfl⟩ |⟨g,cap,cur,rfl,hS,hcur,hl,hm,hsz,hc⟩
 ·rcases hv with⟨_,_,_,rfl⟩ |⟨g,n,cap,a,hn,_⟩
  ·exact .inl ⟨rfl,by simp⟩
  ·cases hn
 ·rcases hv with⟨hn,_⟩ |⟨g2,n,cap2,a,hn,h1,h2,rfl,ha⟩
  ·cases hn
  ·simp only [Value.slice.injEq,Option.some.injEq,Addr.mk.injEq] at hn
   obtain⟨⟨rfl,_⟩,rfl,rfl⟩:=hn
   have hlen :(l.take hi).length=hi:=by rw [List.length_take]; omega
   refine .inr ⟨g,cap,cur,?_,hS,hcur,by omega,hm,hsz,?_⟩
   ·rw [ha (.inr rfl),hlen]; simp
   ·rw [hlen]
    have e2 :(l.take hi).flatMap e =(l.flatMap e).take (hi*sz):=by
     conv=>rhs; rw [<- List.take_append_drop hi l,List.flatMap_append]
     rw [List.take_left']
     rw [z1u he,hlen]
    have e3:cur.toList.take (hi*sz) =(cur.toList.take (l.length*sz)).take (hi*sz):=by
     rw [List.take_take,Nat.min_eq_left (Nat.mul_le_mul_right _ (by omega))]
    rw [e2,e3]
    exact hc.takeN _
theorem WInv.last [Dr] {w0 w:World} {base:Nat} {objs:List HP} {r:Nat->Prop} {S:Nat->Nat->Prop} (hw:WInv w0 base objs r S w) {i:Nat} (hi:i<objs.length) {H:HP} (hH:H.h (S i) r w) :
  WInv w0 base (objs.set i Px.emp++[H]) r (fun j b=>(j=objs.length/\S i b)\/(j≠i/\j<objs.length/\S j b)) w where
 below:=hw.below
 size:=hw.size
 obj:=by
  intro j X hj
  rw [List.getElem?_append] at hj
  simp only [List.length_set] at hj
  split at hj
  ·rename_i hlt
   rw [List.getElem?_set] at hj
   split at hj
   ·cases hj; trivial
   ·rename_i e
    have :(fun b=>(j=objs.length/\S i b)\/(j≠i/\j<objs.length/\S j b))=S j:=by
     funext b; exact propext ⟨fun h=>h.elim (fun q=>absurd q.1 (by omega)) fun q=>q.2.2,fun h=>.inr ⟨fun q=>e q.symm,hlt,h⟩⟩
    rw [this]; exact hw.obj j X hj
  ·rename_i hge
   have hj0:j=objs.length:=by
    have:=(List.getElem?_eq_some_iff.1 hj).1
    simp at this; omega
   subst hj0
   simp at hj; subst hj
   have :(fun b=>(objs.length=objs.length/\S i b)\/(objs.length≠i/\objs.length<objs.length/\S objs.length b))=S i:=by
    funext b; exact propext ⟨fun h=>h.elim (fun q=>q.2) fun q=>absurd q.2.1 (by omega),fun h=>.inl ⟨rfl,h⟩⟩
   rw [this]; exact hH
 own:=by
  rintro j b (⟨rfl,hb⟩ |⟨_,hlt,hb⟩)
  ·obtain⟨_,h2⟩:=hw.own i b hb
   exact⟨by simp,h2⟩
  ·obtain⟨h1,h2⟩:=hw.own j b hb
   exact⟨by simp; omega,h2⟩
 apart:=by
  rintro j k b (⟨rfl,hb⟩ |⟨n1,l1,hb⟩) (⟨rfl,hb'⟩ |⟨n2,l2,hb'⟩)
  ·rfl
  ·exact absurd (hw.apart i k b hb hb').symm n2
  ·exact absurd (hw.apart j i b hb hb') n1
  ·exact hw.apart j k b hb hb'
 old:=hw.old
theorem yls [Dr] {C:Cx N.P} {acts:List Act} {s:SS V.T} {a:Act} {w:World} (t:Nat) (H:SatS V C acts s a w):SatS V C acts (cutX V s t) a w:=by
 unfold cutX
 split
 ·rename_i i hi z h1 h2
  split
  ·rename_i E c l ho
   cases hz:Nat.beq z (V.sz c) with
   | false=>exact H
   | true=>
    have ez:=Nat.eq_of_beq_eq_true hz
    subst ez
    simp only [cond_true]
    obtain⟨hd,hsz,hch,hg,A,ro,S,hl,hw,he,hs,hst⟩:=H
    have li:=(List.getElem?_eq_some_iff.1 ho).1
    obtain⟨q,hq⟩:∃ q,A[i]? = some q:=⟨A[i],by simp [hl,li]⟩
    have hv:=hs t _ (by simp only [slD,h1]; rfl)
    simp only [denE,SV.den,hq] at hv
    have hrow:=yio (V.ev_len c) (hw.obj i _ (zk V N.P hq ho)) hv
    have hlen:=zfb V N.P (A:=A) A s.ob hl
    have hw':=hw.last (i:=i) (by omega) hrow
    rw [hlen] at hw'
    obtain⟨v,hve⟩:∃ v,v=a.tmps.getD t undef:=⟨_,rfl⟩
    rw [<- hve] at hw'
    have hB :(A++[((0:Nat),v)])[s.ob.length]? = some (0,v):=by rw [<- hl]; simp
    have e4:obD V N.P A A (s.ob.set i .emp) =(obD V N.P A A s.ob).set i Px.emp:=by rw [z5z V N.P A s.ob i q _ hq]; rfl
    rw [<- e4] at hw'
    obtain⟨S2,hw2⟩:=z6k (P:=N.P) (A:=A) (B:=[(0,v)]) (ob:=s.ob.set i .emp) (by simpa using hl) (us:=[.row E c (z0q l 0 hi)]) (H:=[Px.row E (V.ev c) (V.sz c) (z0q l 0 hi) v]) ⟨EntH.refl,trivial⟩ _ _ _ _ _ hw'
    refine⟨hd,hsz,hch,⟨?_,?_,hg.kn⟩,A++[(0,v)],ro,S2,by simp [hl],?_,he,?_,Stk.ext (AExt.app A _) (Evo.refl C.base _ _) hst⟩
    ·intro u g hu ch y hy
     simp only [z0b] at hy
     by_cases e:u=t
     ·subst e; simp only at hu; rw [h2] at hu; cases hu
     ·rw [if_neg e] at hy; exact hg.val u g hu ch y hy
    ·intro u ch y hy
     simp only [z0b] at hy
     by_cases e:u=t
     ·rw [if_pos e] at hy; simp only [Option.some.injEq,Prod.mk.injEq] at hy; rw [<- hy.1]; intro p hp; cases hp
     ·rw [if_neg e] at hy; exact hg.ch u ch y hy
    ·exact hw2
    ·intro u X hX
     simp only [slD,z0b] at hX
     by_cases e:u=t
     ·rw [if_pos e] at hX
      simp only [Option.map_some,Option.some.injEq] at hX
      subst hX
      simp only [denE,SV.den,hB]
      rw [e,<- hve]; exact rfl
     ·rw [if_neg e] at hX
      exact zni V N.P (AExt.app A _) hs u X hX
  ·exact H
 ·exact H
theorem y8f [Dr] (hN:za4 V N) {R':Type} {leaf:Option R->Option R'} {comb:List (Option R')->Option R'} {G:R'->Prop} (hcomb:ybd leaf comb r G) {inl:Nat->Inl V R} {id:Nat} {ops:Array Oper} {K:KX V R} (hinl:∀ i f fn c,N.P.funcs[f]? = some fn->fn.body=some c->zrz C r (inl i f) c (inlK V N fn (zrq V N inl ops i K)))
  {acts:List Act} {Q:Exit->Act->World->Prop} (hK:∀ e s a w,K e s=some r->SatS V C acts s a w->Q e a w) (hm:N.P.follows .mixedOrders=true) {ls:List Nat} {L:R'} {s:SS V.T} {a:Act} {w:World}
  (h:altT V N leaf comb inl ops ls s K=some L) (hL:G L) (hs:SatS V C acts s a w) :(Code.region id ops true).wp N.P Q a w:=by
 unfold altT yq6 at h
 obtain⟨hd,hn,hkn,hgb,A,ro,S,hl,hw,hev,hsl,hst⟩:=hs
 generalize hbs :(s.sl.filter fun p=>!isDs (wrO V ops s) p.1||yi8 ops.toList p.1)=bs at h
 have hlk:∀ {t:Nat} {x:Ch×SV V.T},lk bs t=some x->lk s.sl t=some x:=fun {t x} hx=>zn3 (fun k=>!isDs (wrO V ops s) k||yi8 ops.toList k) (by rw [hbs]; exact hx)
 have hgb0:GbOK (⟨bs,s.gb,s.kn,s.n⟩:Fm V.T):=⟨fun t g hg ch z hz=>hgb.val t g hg ch z (hlk hz),fun t ch z hz=>hgb.ch t ch z (hlk hz),hgb.kn⟩
 have hbs':zg (slD V N.P A s.gb bs) a ro w:=by
  intro t X hX
  simp only [slD] at hX
  cases hb:lk bs t with
  | none=>rw [hb] at hX; cases hX
  | some e=>
   rw [hb] at hX
   exact hsl t X (by simp only [slD,hlk hb]; exact hX)
 have hreg:=yhl hN hcomb hinl (hK .normal) hev _ _ [] [] bs [] s A L h hL (AExt.refl A) hl hst ⟨fun e he=>absurd he List.not_mem_nil,fun e he=>absurd he List.not_mem_nil,fun e he=>absurd he List.not_mem_nil,fun e he=>absurd he List.not_mem_nil,fun e he=>absurd he List.not_mem_nil⟩ hgb0 hkn (fun e he=>absurd he List.not_mem_nil)
 exact zo9.draw hm hreg a w ⟨hd,hn,ro,S,hw,Evo.refl _ _ _,hbs'⟩
theorem ydw [Dr] (hN:za4 V N) {inl:Nat->Inl V R} {id:Nat} {ops:Array Oper} {d:Bool} {K:KX V R} (hinl:∀ i f fn c,N.P.funcs[f]? = some fn->fn.body=some c->zrz C r (inl i f) c (inlK V N fn (zrq V N inl ops i K)))
  {acts:List Act} {Q:Exit->Act->World->Prop} (hK:∀ e s a w,K e s=some r->SatS V C acts s a w->Q e a w) {s:SS V.T} {a:Act} {w:World} (h:regX V N inl ops d s K=some r) (hs:SatS V C acts s a w) :(Code.region id ops d).wp N.P Q a w:=by
 unfold regX at h
 cases d with
 | true=>
  simp only [cond_true] at h
  cases hm:N.P.follows .mixedOrders with
  | false=>rw [hm] at h; cases h
  | true=>
   rw [hm] at h
   simp only [cond_true] at h
   split at h
   ·split at h
    ·exact ynm hN (K:=fun s=>K .normal s) (hK .normal) hm h hs
    ·exact y8f hN y9w hinl hK hm h rfl hs
   ·exact y8f hN y9w hinl hK hm h rfl hs
 | false=>
  simp only [cond_false] at h
  refine wp_region ?_
  have:=zw2 hN hinl (hK .normal) ops.toList 0 s a w rfl h hs
  rw [<- List.range_eq_range'] at this
  simpa using this
theorem y2v [Dr] {acts:List Act} {Q:Exit->Act->World->Prop} {n:SS V.T->Option R} {K:KX V R} {W:Act->World->Prop} (hn:∀ s a w,n s=some r->SatS V C acts s a w->W a w) (hK:∀ e s a w,K e s=some r->SatS V C acts s a w->Q e a w) :
  ∀ e s a w,seqK V n K e s=some r->SatS V C acts s a w->Exit.then W Q e a w:=by
 intro e s a w h hs
 cases e with
 | normal=>exact hn s a w h hs
 | _=>exact hK _ s a w h hs
theorem yfk [Dr] {acts:List Act} {Q:Exit->Act->World->Prop} {id:Nat} {K:KX V R} (hK:∀ e s a w,K e s=some r->SatS V C acts s a w->Q e a w) :
  ∀ e s a w,blkK V id K e s=some r->SatS V C acts s a w->Exit.inBlock id Q e a w:=by
 intro e s a w h hs
 cases e with
 | exit i=>
  simp only [blkK] at h
  simp only [Exit.inBlock]
  by_cases e:i=id
  ·subst e
   rw [Nat.beq_refl] at h
   rw [if_pos rfl]
   exact hK .normal s a w h hs
  ·rw [zy7 e] at h
   rw [if_neg e]
   exact hK _ s a w h hs
 | _=>exact hK _ s a w h hs
theorem ykv [Dr] {acts:List Act} {Q:Exit->Act->World->Prop} {K:KX V R} (hK:∀ e s a w,K e s=some r->SatS V C acts s a w->Q e a w) :
  ∀ e s a w,ngK V K e s=some r->SatS V C acts s a w->Exit.noGoto Q e a w:=by
 intro e s a w h hs
 cases e with
 | goto l=>cases h
 | _=>exact hK _ s a w h hs
theorem yai [Dr] {acts:List Act} {Q:Exit->Act->World->Prop} {o:Operand} {c d:Code} {x y:Option R} {s:SS V.T} {a:Act} {w:World} (h:yib V s o x y=some r) (hs:SatS V C acts s a w) (hx:x=some r->c.wp N.P Q a w) (hy:y=some r->d.wp N.P Q a w) :(Code.cond o c d).wp N.P Q a w:=by
 unfold yib at h
 split at h
 ·rename_i b hb
  obtain⟨_,_,hkn,hgb,A,ro,S,hl,hw,hev,hsl,hst⟩:=hs
  have he:=z1o V N.P (A:=A) (zg2 hb) trivial a ro w hsl
  simp only [SV.den] at he
  refine wp_cond_split he (fun e=>hx ?_) (fun e=>hy ?_)
  ·subst e; simpa using h
  ·subst e; simpa using h
 ·cases h
theorem yaf [Dr] (hN:za4 V N) {dfl:Inl V R} (hd:∀ f fn c K,N.P.funcs[f]? = some fn->fn.body=some c->zrz C r (dfl f) c K):∀(c:Code) (K:KX V R),zrz C r (y2m V N dfl) c K:=by
 intro c
 induction c with
 | skip=>exact fun K acts Q hK s a w h hs=>wp_skip (hK _ s a w h hs)
 | label l=>exact fun K acts Q hK s a w h hs=>wp_label (hK _ s a w h hs)
 | region id ops d=>exact fun K acts Q hK s a w h hs=>ydw hN (fun i f fn c h1 h2=>hd f fn c _ h1 h2) hK h hs
 | seq x y hx hy=>
  intro K acts Q hK s a w h hs
  exact wp_seq (hx _ acts _ (y2v (fun s a w h hs=>hy K acts Q hK s a w h hs) hK) s a w h hs)
 | cond o x y hx hy=>
  intro K acts Q hK s a w h hs
  exact yai h hs (fun h=>hx K acts Q hK s a w h hs) (fun h=>hy K acts Q hK s a w h hs)
 | block id c hc=>
  intro K acts Q hK s a w h hs
  exact wp_block (hc _ acts _ (yfk hK) s a w h hs)
 | scope c hc=>
  intro K acts Q hK s a w h hs
  exact wp_scope_straight (hc _ acts _ (ykv hK) s a w h hs)
 | exit id=>exact fun K acts Q hK s a w h hs=>wp_exit (hK _ s a w h hs)
 | ret=>exact fun K acts Q hK s a w h hs=>wp_ret (hK _ s a w h hs)
 | _=>exact fun K acts Q hK s a w h hs=>by cases h
theorem zac [Dr] (hN:za4 V N):∀(n f:Nat) (c:Code) (K:KX V R),zrz C r (dflN V N n f) c K
 | 0,f,c,K=>fun acts Q hK s a w h hs=>by cases h
 | n+1,f,c,K=>yaf hN (fun f fn c K _ _=>zac hN n f c K) c K
theorem zih {α:Type} {x:Option α} {k:α->Option R} (h:zzi x k=some r):∃ z,x=some z/\k z=some r:=by
 cases x with
 | none=>cases h
 | some z=>exact⟨z,rfl,h⟩
theorem yff {s:SS V.T} {t:Nat} {x:Ch×SV V.T} (h:lk (clrG V s).sl t=some x):lk s.sl t=some x/\x.1 = []:=by
 have h1:=zn3 (fun k=>y9c s.sl k) h
 refine⟨h1,?_⟩
 have:=(List.mem_filter.1 (zre h)).2
 simp only [y9c,h1] at this
 obtain⟨ch,v⟩:=x
 cases ch with
 | nil=>rfl
 | cons _ _=>cases this
theorem ylz [Dr] {acts:List Act} {s:SS V.T} {a:Act} {w:World} (hs:SatS V C acts s a w):SatS V C acts (clrG V s) a w:=by
 obtain⟨hd,hn,hkn,hgb,A,ro,S,hl,hw,hev,hsl,hst⟩:=hs
 refine⟨hd,hn,trivial,⟨fun t g h=>by simp [clrG,lk] at h,fun t ch z hz p hp=>?_,fun p hp=>by simp [clrG] at hp⟩,A,ro,S,hl,hw,hev,?_,hst⟩
 ·have:=(yff hz).2
  simp only at this
  subst this; cases hp
 ·intro t X hX
  simp only [slD] at hX
  cases hz:lk (clrG V s).sl t with
  | none=>rw [hz] at hX; cases hX
  | some e=>
   rw [hz] at hX
   obtain⟨h1,h2⟩:=yff hz
   obtain⟨ch,v⟩:=e
   simp only at h2
   subst h2
   refine hsl t X ?_
   simp only [slD,h1]
   exact hX
theorem ylx [Dr] {acts:List Act} {dst:Option Tmp} {x:Operand} {ty:TypeId} {pos:String} {aft:Array Edge} {s:SS V.T} {j kc vc:Nat} {rem:List (V.T kc×V.T vc)} {cur:Option (V.T kc×V.T vc)} {k:SS V.T->Option R}
  (hx:evO s.sl s.kn x=some (.own j)) (hob:s.ob[j]? = some (.x (.it kc vc rem cur))) (hkey:rem≠[]->V.key kc=true) (h0:rem = []->after V s dst ([],.tup [.bool false]) k=some r)
  (h1:∀ e rem',rem.Perm (e::rem')->after V (updO V s j (.x (.it kc vc rem' (some e)))) dst ([],.tup [.bool true,V.encV kc e.1,V.encV vc e.2]) k=some r) {a:Act} {w:World} (hs:SatS V C acts s a w) {next:Act->World->Prop} {Q:Exit->Act->World->Prop}
  (hk:∀ s2 v0 w',k s2=some r->SatS V C acts s2 (a.put dst v0) w'->next (a.put dst v0) w') :(⟨dst,.next x false,ty,pos,aft,none⟩:Oper).wp N.P a w next Q:=by
 obtain⟨hd,hn,hkn,hgb,A,ro,S,hl,hw,hev,hsl,hst⟩:=hs
 have hx':=z1o V N.P (A:=A) hx hkn
 simp only [SV.den] at hx'
 have hjl:=(List.getElem?_eq_some_iff.1 hob).1
 obtain⟨q,ha⟩:∃ q,A[j]? = some q:=⟨_,List.getElem?_eq_getElem (hl ▸ hjl)⟩
 rw [ha] at hx'
 have hdn:=zk V N.P (A:=A) (ps:=A) ha hob
 have hq:q.2 = .pointer (some ⟨q.1,0,none⟩):=(hw.obj j _ hdn).1
 have hlt:j <(s.st V N.P A).objs.length:=(List.getElem?_eq_some_iff.1 hdn).1
 have hOp:OpT (P:=N.P) { C with n:=s.n } (⟨dst,.next x false,ty,pos,aft,none⟩:Oper) (s.st V N.P A) (LOK V N.P r A s fun v s=>after V s dst ([],v) k):=by
  refine OpT.weak (s':=⟨(s.st V N.P A).slots,(s.st V N.P A).objs.set j (itr q.1 (V.kl kc) (V.kv kc) (fun y=>V.vl vc y) rem cur)⟩) (fun _ _ _ h=>h) (ObW.set' hdn fun S r w h=>h.2) ?_
  have hX:∀ k,Ent (eqv (V.kv kc k)) (if V.key kc=true then V.vl kc k else eqv (V.kv kc k)):=fun k=>by
   split
   ·rename_i hk; exact(yfo hk k).2
   ·exact Ent.refl
  refine yoa (s:=⟨(s.st V N.P A).slots,(s.st V N.P A).objs.set j (itr q.1 (V.kl kc) (V.kv kc) (fun y=>V.vl vc y) rem cur)⟩) hX j (by rw [List.getElem?_set_self hlt]) (show Ev (s.st V N.P A) x (eqv (.pointer (some ⟨q.1,0,none⟩))) by rw [<- hq]; exact hx') ?_ ?_
  ·intro hr
   refine⟨[],s.ob,_,h0 hr,by simp [hl],by rw [List.append_nil]; exact Ent.refl,?_⟩
   rw [List.append_nil]
   have :(s.st V N.P A).objs.set j (itr q.1 (V.kl kc) (V.kv kc) (fun y=>V.vl vc y) rem cur) =(s.st V N.P A).objs.set j (itr q.1 (V.kl kc) (V.kv kc) (fun y=>V.vl vc y) rem cur):=rfl
   refine ObW.trans (ObW.set' (H2:=(SO.x (.it kc vc rem cur):SO V.T).den V N.P A q) (i:=j) (by rw [List.getElem?_set_self hlt]) fun S r w h=>⟨hq,h⟩) ?_
   rw [List.set_set]
   have e1 :(s.st V N.P A).objs.set j ((SO.x (.it kc vc rem cur):SO V.T).den V N.P A q)=obD V N.P A A s.ob:=by
    rw [show (s.st V N.P A).objs=obD V N.P A A s.ob from rfl,<- z5z V N.P A s.ob j q _ ha,setSame hob]
   rw [e1]
   exact ObW.refl
  ·intro k0 y rem' hp
   have hne:rem≠[]:=fun e=>by subst e; exact absurd hp.length_eq (by simp)
   have hkey:=hkey hne
   refine⟨[],s.ob.set j (.x (.it kc vc rem' (some (k0,y)))),_,h1 (k0,y) rem' hp,by simp [hl],?_,?_⟩
   ·rw [List.append_nil]
    simp only [SV.den,denV,z5q,hkey,if_true]
    exact Ent.refl
   ·rw [List.append_nil,List.set_set,z5z V N.P A s.ob j q _ ha]
    exact ObW.le (znk (show EntH (itr q.1 (V.kl kc) (V.kv kc) (fun y=>V.vl vc y) rem' (some (k0,y))) ((SO.x (.it kc vc rem' (some (k0,y))):SO V.T).den V N.P A q) from fun S r w h=>⟨hq,h⟩) _ _)
 refine Oper.wp_mono ?_ (hOp a w ro S Q hd hn hw hsl)
 rintro a' w' ⟨v0,ro',S',x,objs',rfl,hev',hw',hx,B,ob',v,hkv,hlen,hent,hobw⟩
 obtain⟨S2,hw2⟩:=hobw _ _ _ _ _ hw'
 change after V { s with ob:=ob' } dst ([],v) k=some r at hkv
 unfold after at hkv
 split at hkv
 ·rename_i s2 hset
  exact hk s2 v0 w' hkv (zwf (e:=([],v)) hset (fun p hp=>by simp at hp) hd hn hkn hgb hlen hw2 hev hev' hsl hst (hent _ _ _ hx))
 ·cases hkv
 where setSame:∀ {l:List (SO V.T)} {i:Nat} {H:SO V.T},l[i]? = some H->l.set i H=l
 | _::_,0,_,h=>by simp at h; subst h; rfl
 | _::l,i+1,_,h=>by simp only [List.set_cons_succ]; rw [setSame (by simpa using h)]
 | [],_,_,h=>by simp at h
mutual
theorem yqg:∀(l:LC) {ρ:Type} (P:ρ->ρ->Prop) (z:LC.Z V.T l ρ) (r2:ρ),P (enV V l z).2 r2->∃ z2,LC.eqZ V.T l P z z2/\enV V l z2 =((enV V l z).1,r2)
 | .val c,_,P,z,r2,h=>⟨(z.1,r2),⟨rfl,h⟩,rfl⟩
 | .cmp c,_,P,z,r2,h=>⟨(z.1,r2),⟨rfl,h⟩,rfl⟩
 | .rop c,_,P,z,r2,h=>⟨(z.1,r2),⟨rfl,h⟩,rfl⟩
 | .rom kc vc,_,P,z,r2,h=>⟨(z.1,r2),⟨rfl,h⟩,rfl⟩
 | .own j,_,P,z,r2,h=>⟨r2,h,rfl⟩
 | .ptr j o,_,P,z,r2,h=>⟨r2,h,rfl⟩
 | .nil,_,P,z,r2,h=>⟨r2,h,rfl⟩
 | .raw v,_,P,z,r2,h=>⟨r2,h,rfl⟩
 | .agg ls,_,P,z,r2,h=>by
  obtain⟨z2,h1,h2⟩:=zrc ls P z r2 h
  refine⟨z2,h1,?_⟩
  show (SV.agg (enL V ls z2).1,(enL V ls z2).2)=_
  rw [h2]; rfl
 | .func f ls,_,P,z,r2,h=>by
  obtain⟨z2,h1,h2⟩:=yfc ls P z r2 h
  refine⟨z2,h1,?_⟩
  show (SV.func f (enW V ls z2).1,(enW V ls z2).2)=_
  rw [h2]; rfl
theorem zrc:∀(ls:List LC) {ρ:Type} (P:ρ->ρ->Prop) (z:Zl V.T ls ρ) (r2:ρ),P (enL V ls z).2 r2->∃ z2,eqZl V.T ls P z z2/\enL V ls z2 =((enL V ls z).1,r2)
 | [],_,P,z,r2,h=>⟨r2,h,rfl⟩
 | .val c::ls,_,P,z,r2,h=>by
  obtain⟨z2,h1,h2⟩:=zrc ls P z.2 r2 h
  refine⟨(z.1,z2),⟨rfl,h1⟩,?_⟩
  show (V.enc c z.1++(enL V ls z2).1,(enL V ls z2).2)=_
  rw [h2]; rfl
 | .cmp c::ls,_,P,z,r2,h=>by
  obtain⟨z2,h1,h2⟩:=zrc ls P z.2 r2 h
  exact⟨(z.1,z2),⟨rfl,h1⟩,by show (_::(enL V ls z2).1,(enL V ls z2).2)=_; rw [h2]; rfl⟩
 | .rop c::ls,_,P,z,r2,h=>by
  obtain⟨z2,h1,h2⟩:=zrc ls P z.2 r2 h
  exact⟨(z.1,z2),⟨rfl,h1⟩,by show (_::(enL V ls z2).1,(enL V ls z2).2)=_; rw [h2]; rfl⟩
 | .rom kc vc::ls,_,P,z,r2,h=>by
  obtain⟨z2,h1,h2⟩:=zrc ls P z.2 r2 h
  exact⟨(z.1,z2),⟨rfl,h1⟩,by show (_::(enL V ls z2).1,(enL V ls z2).2)=_; rw [h2]; rfl⟩
 | .own j::ls,_,P,z,r2,h=>by
  obtain⟨z2,h1,h2⟩:=zrc ls P z r2 h
  exact⟨z2,h1,by show (_::(enL V ls z2).1,(enL V ls z2).2)=_; rw [h2]; rfl⟩
 | .ptr j o::ls,_,P,z,r2,h=>by
  obtain⟨z2,h1,h2⟩:=zrc ls P z r2 h
  exact⟨z2,h1,by show (_::(enL V ls z2).1,(enL V ls z2).2)=_; rw [h2]; rfl⟩
 | .nil::ls,_,P,z,r2,h=>by
  obtain⟨z2,h1,h2⟩:=zrc ls P z r2 h
  exact⟨z2,h1,by show (_::(enL V ls z2).1,(enL V ls z2).2)=_; rw [h2]; rfl⟩
 | .raw v::ls,_,P,z,r2,h=>by
  obtain⟨z2,h1,h2⟩:=zrc ls P z r2 h
  exact⟨z2,h1,by show (_::(enL V ls z2).1,(enL V ls z2).2)=_; rw [h2]; rfl⟩
 | .agg ks::ls,_,P,z,r2,h=>by
  obtain⟨y2,g1,g2⟩:=zrc ls P (enL V ks z).2 r2 h
  obtain⟨z2,h1,h2⟩:=zrc ks (eqZl V.T ls P) z y2 g1
  refine⟨z2,h1,?_⟩
  show (SV.agg (enL V ks z2).1::(enL V ls (enL V ks z2).2).1,(enL V ls (enL V ks z2).2).2)=_
  rw [h2]
  show (SV.agg (enL V ks z).1::(enL V ls y2).1,(enL V ls y2).2)=_
  rw [g2]; rfl
 | .func f ks::ls,_,P,z,r2,h=>by
  obtain⟨y2,g1,g2⟩:=zrc ls P (enW V ks z).2 r2 h
  obtain⟨z2,h1,h2⟩:=yfc ks (eqZl V.T ls P) z y2 g1
  refine⟨z2,h1,?_⟩
  show (SV.func f (enW V ks z2).1::(enL V ls (enW V ks z2).2).1,(enL V ls (enW V ks z2).2).2)=_
  rw [h2]
  show (SV.func f (enW V ks z).1::(enL V ls y2).1,(enL V ls y2).2)=_
  rw [g2]; rfl
theorem yfc:∀(ls:List LC) {ρ:Type} (P:ρ->ρ->Prop) (z:Zl V.T ls ρ) (r2:ρ),P (enW V ls z).2 r2->∃ z2,eqZl V.T ls P z z2/\enW V ls z2 =((enW V ls z).1,r2)
 | [],_,P,z,r2,h=>⟨r2,h,rfl⟩
 | l::ls,_,P,z,r2,h=>by
  obtain⟨y2,g1,g2⟩:=yfc ls P (enV V l z).2 r2 h
  obtain⟨z2,h1,h2⟩:=yqg l (eqZl V.T ls P) z y2 g1
  refine⟨z2,h1,?_⟩
  show ((enV V l z2).1::(enW V ls (enV V l z2).2).1,(enW V ls (enV V l z2).2).2)=_
  rw [h2]
  show ((enV V l z).1::(enW V ls y2).1,(enW V ls y2).2)=_
  rw [g2]; rfl
end
theorem ypz [Dr]:∀(ls:List (Nat×LC)) {ρ:Type} (P:ρ->ρ->Prop) (z:Zs V.T ls ρ) (r2:ρ),P (enS V ls z).2 r2->∃ z2,eqZs V.T ls P z z2/\enS V ls z2 =((enS V ls z).1,r2)
 | [],_,P,z,r2,h=>⟨r2,h,rfl⟩
 |(t,l)::ls,_,P,z,r2,h=>by
  obtain⟨y2,g1,g2⟩:=ypz ls P (enV V l z).2 r2 h
  obtain⟨z2,h1,h2⟩:=yqg l (eqZs V.T ls P) z y2 g1
  refine⟨z2,h1,?_⟩
  show ((t,[],(enV V l z2).1)::(enS V ls (enV V l z2).2).1,(enS V ls (enV V l z2).2).2)=_
  rw [h2]
  show ((t,[],(enV V l z).1)::(enS V ls y2).1,(enS V ls y2).2)=_
  rw [g2]; rfl
theorem ypx [Dr]:∀(ls:List (Nat×List (Nat×LC))) {ρ:Type} (P:ρ->ρ->Prop) (z:Zf V.T ls ρ) (r2:ρ),P (enF V ls z).2 r2->∃ z2,eqZf V.T ls P z z2/\enF V ls z2 =((enF V ls z).1,r2)
 | [],_,P,z,r2,h=>⟨r2,h,rfl⟩
 |(n,l)::ls,_,P,z,r2,h=>by
  obtain⟨y2,g1,g2⟩:=ypx ls P (enS V l z).2 r2 h
  obtain⟨z2,h1,h2⟩:=ypz l (eqZf V.T ls P) z y2 g1
  refine⟨z2,h1,?_⟩
  show (⟨(enS V l z2).1,[],[],n⟩::(enF V ls (enS V l z2).2).1,(enF V ls (enS V l z2).2).2)=_
  rw [h2]
  show (⟨(enS V l z).1,[],[],n⟩::(enF V ls y2).1,(enF V ls y2).2)=_
  rw [g2]; rfl
mutual
theorem yi9:∀(l:LC) {ρ:Type} (P:ρ->ρ->Prop),(∀ z,P z z)->∀ z,LC.eqZ V.T l P z z
 | .val c,_,P,h,z=>⟨rfl,h _⟩
 | .cmp c,_,P,h,z=>⟨rfl,h _⟩
 | .rop c,_,P,h,z=>⟨rfl,h _⟩
 | .rom kc vc,_,P,h,z=>⟨rfl,h _⟩
 | .own j,_,P,h,z=>h z
 | .ptr j o,_,P,h,z=>h z
 | .nil,_,P,h,z=>h z
 | .raw v,_,P,h,z=>h z
 | .agg ls,_,P,h,z=>zql ls P h z
 | .func f ls,_,P,h,z=>zql ls P h z
theorem zql:∀(ls:List LC) {ρ:Type} (P:ρ->ρ->Prop),(∀ z,P z z)->∀ z,eqZl V.T ls P z z
 | [],_,P,h,z=>h z
 | l::ls,_,P,h,z=>yi9 l (eqZl V.T ls P) (zql ls P h) z
end
theorem zd1 [Dr]:∀(os:List OC) (z:Zo V.T os),eqZo V.T os z z
 | [],_=>trivial
 | .box t ls::os,z=>zql ls (eqZo V.T os) (zd1 os) z
 | .row _ _::os,z=>⟨rfl,zd1 os z.2⟩
 | .map _ _ _::os,z=>⟨rfl,zd1 os z.2⟩
 | .it _ _::os,z=>⟨List.Perm.refl _,zd1 os z.2⟩
 | .nst _ _ _ none::os,z=>⟨rfl,zd1 os z.2⟩
 | .nst _ _ _ (some _)::os,z=>⟨rfl,rfl,zd1 os z.2.2⟩
 | .fix _ _::os,z=>⟨rfl,zd1 os z.2⟩
theorem y3i [Dr]:∀(os:List OC) (z:Zo V.T os) {j kc vc:Nat} {rem rem2:List (V.T kc×V.T vc)} {cur:Option (V.T kc×V.T vc)},(enO V os z)[j]? = some (.x (.it kc vc rem cur))->rem.Perm rem2->
  ∃ z2,eqZo V.T os z z2/\enO V os z2 =(enO V os z).set j (.x (.it kc vc rem2 none))
 | [],z,j,kc,vc,rem,rem2,cur,h,hp=>by simp [enO] at h
 | .it kc' vc'::os,z,0,kc,vc,rem,rem2,cur,h,hp=>by
  have e :(SO.x (.it kc' vc' z.1 none):SO V.T) = .x (.it kc vc rem cur):=Option.some.inj h
  cases e
  exact⟨(rem2,z.2),⟨hp,zd1 os z.2⟩,rfl⟩
 | .it kc' vc'::os,z,j+1,kc,vc,rem,rem2,cur,h,hp=>by
  obtain⟨z2,h1,h2⟩:=y3i os z.2 (j:=j) h hp
  exact⟨(z.1,z2),⟨List.Perm.refl _,h1⟩,by show _::enO V os z2=_; rw [h2]; rfl⟩
 | .row E c::os,z,j+1,kc,vc,rem,rem2,cur,h,hp=>by
  obtain⟨z2,h1,h2⟩:=y3i os z.2 (j:=j) h hp
  exact⟨(z.1,z2),⟨rfl,h1⟩,by show _::enO V os z2=_; rw [h2]; rfl⟩
 | .map _ _ _::os,z,j+1,kc,vc,rem,rem2,cur,h,hp=>by
  obtain⟨z2,h1,h2⟩:=y3i os z.2 (j:=j) h hp
  exact⟨(z.1,z2),⟨rfl,h1⟩,by show _::enO V os z2=_; rw [h2]; rfl⟩
 | .fix E c::os,z,j+1,kc,vc,rem,rem2,cur,h,hp=>by
  obtain⟨z2,h1,h2⟩:=y3i os z.2 (j:=j) h hp
  exact⟨(z.1,z2),⟨rfl,h1⟩,by show _::enO V os z2=_; rw [h2]; rfl⟩
 | .nst _ _ _ none::os,z,j+1,kc,vc,rem,rem2,cur,h,hp=>by
  obtain⟨z2,h1,h2⟩:=y3i os z.2 (j:=j) h hp
  exact⟨(z.1,z2),⟨rfl,h1⟩,by show _::enO V os z2=_; rw [h2]; rfl⟩
 | .nst _ _ _ (some _)::os,z,j+1,kc,vc,rem,rem2,cur,h,hp=>by
  obtain⟨z2,h1,h2⟩:=y3i os z.2.2 (j:=j) h hp
  exact⟨(z.1,z.2.1,z2),⟨rfl,rfl,h1⟩,by show _::enO V os z2=_; rw [h2]; rfl⟩
 | .box t ls::os,z,j+1,kc,vc,rem,rem2,cur,h,hp=>by
  obtain⟨y2,g1,g2⟩:=y3i os (enL V ls z).2 (j:=j) h hp
  obtain⟨z2,h1,h2⟩:=zrc ls (eqZo V.T os) z y2 g1
  refine⟨z2,h1,?_⟩
  show .box t (enL V ls z2).1::enO V os (enL V ls z2).2=_
  rw [h2,show enO V os ((enL V ls z).1,y2).2=enO V os y2 from rfl,g2]
  rfl
 | .row E c::os,z,0,kc,vc,rem,rem2,cur,h,hp=>by cases (Option.some.inj h :(SO.row E c z.1:SO V.T)=_)
 | .map _ _ _::os,z,0,kc,vc,rem,rem2,cur,h,hp=>by cases (Option.some.inj h :(SO.x (.map _ _ _ z.1 none):SO V.T)=_)
 | .fix E c::os,z,0,kc,vc,rem,rem2,cur,h,hp=>by cases (Option.some.inj h :(SO.x (.fix E c z.1):SO V.T)=_)
 | .nst E E2 c none::os,z,0,kc,vc,rem,rem2,cur,h,hp=>by cases (Option.some.inj h :(SO.x (.nst E E2 c z.1 none):SO V.T)=_)
 | .nst E E2 c (some q)::os,z,0,kc,vc,rem,rem2,cur,h,hp=>by cases (Option.some.inj h :(SO.x (.nst E E2 c z.1 (some (z.2.1,q))):SO V.T)=_)
 | .box t ls::os,z,0,kc,vc,rem,rem2,cur,h,hp=>by cases (Option.some.inj h :(SO.box t (enL V ls z).1:SO V.T)=_)
theorem ylh {fs:List (Fm V.T)} {os:List (SO V.T)} :(mkS V fs os).ob=os:=by cases fs <;> rfl
theorem ym7 [Dr] {acts:List Act} {s:SS V.T} {a:Act} {w:World} (h:SatS V C acts s a w):∀ o∈s.ob,okO V o:=by
 obtain⟨hd,hn,hkn,hgb,A,ro,S,hl,hw,hev,hsl,hst⟩:=h
 intro o ho
 obtain⟨i,hi⟩:=List.getElem?_of_mem ho
 have hlt:=(List.getElem?_eq_some_iff.1 hi).1
 obtain⟨q,hq⟩:∃ q,A[i]? = some q:=⟨A[i],by simp [hl,hlt]⟩
 have hd:=hw.obj i _ (zk V N.P (A:=A) (ps:=A) hq hi)
 unfold okO
 split
 ·obtain⟨_,t,Sk,hm,_,hc,_⟩:=hd
  rw [<- hm]
  exact List.pairwise_map.2 hc.1
 ·exact hd.2.2.1
 ·trivial
theorem ypr [Dr] (hN:za4 V N) {h:Sh} {z:h.Z V.T} {ops:Array Oper} {K:KX V R} {acts:List Act} {Q:Exit->Act->World->Prop} (hz:∀ z',h.eqZ V.T z z'->pkX V N ops (h.enc V z') K=some r) (h0:pkX V N ops (h.enc V z) K=some r)
  (hK:∀ e s a w,K e s=some r->SatS V C acts s a w->Q e a w) {id:Nat} {a:Act} {w:World} (hs:SatS V C acts (h.enc V z) a w) :(Code.region id ops false).wp N.P Q a w:=by
 refine wp_region ?_
 have hrun:∀(os:List Oper) (s:SS V.T) (a:Act) (w:World),os=ops.toList.drop 1->z84 V N (fun _=>Dfl V N R) ops.toList 1 os s (fun s=>K .normal s)=some r->SatS V C acts s a w->wpOps N.P ops Q (List.range' 1 os.length) a w:=
  fun os s a w ho h hs=>zw2 hN (fun i f fn c _ _=>zac hN 8 f c _) (hK .normal) os 1 s a w ho h hs
 have h0':=h0
 unfold pkX at h0
 cases hl:ops.toList with
 | nil=>rw [hl] at h0; cases h0
 | cons o os=>
  obtain⟨dst,op,ty,pos,aft,guard⟩:=o
  have ho:ops[0]? = some ⟨dst,op,ty,pos,aft,guard⟩:=by
   have:ops.toList[0]? = some ⟨dst,op,ty,pos,aft,guard⟩:=by rw [hl]; rfl
   simpa using this
  have hsz:ops.size=os.length+1:=by have:=congrArg List.length hl; simpa using this
  have hos:os=ops.toList.drop 1:=by rw [hl]; rfl
  rw [hl] at h0
  simp only at h0
  split at h0
  ·rename_i x
   split at h0
   ·rename_i j hx
    split at h0
    ·rename_i kc vc rem cur hob
     rw [hsz,List.range_eq_range',List.range'_succ,wpOps]
     simp only [ho,Region.wanted,if_true]
     refine .inl (ylx (k:=fun s=>z84 V N (fun _=>Dfl V N R) ops.toList 1 os s (fun s=>K .normal s)) hx hob ?_ ?_ ?_ hs fun s2 v0 w' hk hs2=>hrun os s2 _ w' hos hk hs2)
     ·intro hne
      cases rem with
      | nil=>exact absurd rfl hne
      | cons e rem=>
       simp only at h0
       cases hk:V.key kc with
       | true=>rfl
       | false=>rw [hk] at h0; cases h0
     ·intro hr
      subst hr
      simp only at h0
      rw [hl]; exact h0
     ·intro e rem' hp
      have hob' :(enO V h.ob (enF V h.fr z).2)[j]? = some (.x (.it kc vc rem cur)):=by
       have :(h.enc V z).ob=enO V h.ob (enF V h.fr z).2:=ylh
       rw [<- this]; exact hob
      obtain⟨y2,g1,g2⟩:=y3i h.ob (enF V h.fr z).2 hob' hp
      obtain⟨z2,f1,f2⟩:=ypx h.fr (eqZo V.T h.ob) z y2 g1
      have hpk:=hz z2 f1
      have henc:h.enc V z2 = { h.enc V z with ob:=(h.enc V z).ob.set j (.x (.it kc vc (e::rem') none)) }:=by
       show mkS V (enF V h.fr z2).1 (enO V h.ob (enF V h.fr z2).2) = { mkS V (enF V h.fr z).1 (enO V h.ob (enF V h.fr z).2) with ob:=(mkS V (enF V h.fr z).1 (enO V h.ob (enF V h.fr z).2)).ob.set j (.x (.it kc vc (e::rem') none)) }
       rw [f2,ylh]
       show mkS V (enF V h.fr z).1 (enO V h.ob y2)=_
       rw [g2]
       cases (enF V h.fr z).1 <;> rfl
      have hjl:=(List.getElem?_eq_some_iff.1 hob).1
      rw [henc] at hpk
      unfold pkX at hpk
      rw [hl] at hpk
      simp only [hx,List.getElem?_set_self hjl] at hpk
      cases hk:V.key kc with
      | false=>rw [hk] at hpk; cases hpk
      | true=>
       rw [hk] at hpk
       simp only [cond_true,updO,List.set_set] at hpk
       simp only [updO]
       rw [hl]; exact hpk
    ·cases h0
   ·cases h0
  ·cases h0
theorem yq7 [Dr] (hN:za4 V N) (φ:Nat) (h:H V R) :(∀ c K,obl V N φ h none c K->zrz C r (ex V N φ h).run c K)/\
  (∀ full id ops d K,obl V N φ h (some full) (.region id ops d) K->∀ i f fn c,N.P.funcs[f]? = some fn->fn.body=some c->zrz C r ((ex V N φ h).inl i f) c (inlK V N fn (zrq V N full ops i K))):=by
 induction h with
 | x=>exact⟨fun c K _=>yaf hN (fun f fn c K _ _=>zac hN 8 f c K) c K,fun full id ops d K _ i f fn c _ _=>zac hN 8 f c _⟩
 | no=>
  refine⟨fun c K ho=>?_,fun full id ops d K _ i f fn c _ _=>zac hN 8 f c _⟩
  intro acts Q hK s a w h hs
  cases h
 | seq h1 h2 i1 i2=>
  refine⟨fun c K ho=>?_,fun full id ops d K _ i f fn c _ _=>zac hN 8 f c _⟩
  cases c with
  | seq x y=>
   intro acts Q hK s a w h hs
   exact wp_seq (i1.1 _ _ ho.1 acts _ (y2v (fun s a w h hs=>i2.1 y K ho.2 acts Q hK s a w h hs) hK) s a w h hs)
  | _=>exact ho.elim
 | cond h1 h2 i1 i2=>
  refine⟨fun c K ho=>?_,fun full id ops d K _ i f fn c _ _=>zac hN 8 f c _⟩
  cases c with
  | cond o x y=>
   intro acts Q hK s a w h hs
   exact yai h hs (fun h=>i1.1 x K ho.1 acts Q hK s a w h hs) (fun h=>i2.1 y K ho.2 acts Q hK s a w h hs)
  | _=>exact ho.elim
 | body h ih=>
  refine⟨fun c K ho=>?_,fun full id ops d K _ i f fn c _ _=>zac hN 8 f c _⟩
  cases c with
  | block id c=>
   intro acts Q hK s a w h hs
   exact wp_block (ih.1 c _ ho acts _ (yfk hK) s a w h hs)
  | scope c=>
   intro acts Q hK s a w h hs
   exact wp_scope_straight (ih.1 c _ ho acts _ (ykv hK) s a w h hs)
  | _=>exact ho.elim
 | loop h L b ih=>
  refine⟨fun c K ho=>?_,fun full id ops d K _ i f fn c _ _=>zac hN 8 f c _⟩
  cases c with
  | loop c=>
   obtain⟨h0,hS,hb⟩:=ho
   intro acts Q hK s a w hr hs
   obtain⟨z,hz,hL⟩:=zih hr
   have key:∀ n z,L n z=some r->∀ a w,SatS V C acts (h.enc V z) a w->Code.rounds N.P c Q n a w:=by
    intro n
    induction n with
    | zero=>intro z hz; rw [h0] at hz; cases hz
    | succ n ihn=>
     intro z hz a w hs
     rw [hS] at hz
     refine(ih (L n)).1 c _ (hb n) acts (Exit.then (Code.rounds N.P c Q n) Q) (y2v (fun s a w h hs=>?_) hK) _ a w hz hs
     obtain⟨z',hz',hL'⟩:=zih h
     exact ihn z' hL' a w (zy6 hs _ z' hz')
   exact wp_loop_rounds φ (key φ z hL a w (zy6 hs h z hz))
  | _=>exact ho.elim
 | join h J b ih=>
  refine⟨fun c K ho=>?_,fun full id ops d K _ i f fn c _ _=>zac hN 8 f c _⟩
  have ho' :(∀ z,J z=K .normal (h.enc V z))/\obl V N φ b none c (seqK V (fun s=>zzi (h.dec V s) J) K):=by
   cases c <;> exact ho
  intro acts Q hK s a w hr hs
  refine ih.1 c _ ho'.2 acts Q (fun e s a w hk hs=>?_) s a w hr hs
  cases e with
  | normal=>
   obtain⟨z,hz,hJ⟩:=zih hk
   rw [ho'.1] at hJ
   exact hK _ _ a w hJ (zy6 hs h z hz)
  | _=>exact hK _ s a w hk hs
 | ins i f h rest ih1 ih2=>
  have B:∀ full id ops d K,obl V N φ (.ins i f h rest) (some full) (.region id ops d) K->∀ j g fn c,N.P.funcs[g]? = some fn->fn.body=some c->zrz C r ((ex V N φ (.ins i f h rest)).inl j g) c (inlK V N fn (zrq V N full ops j K)):=by
   intro full id ops d K ho j g fn c hf hc
   obtain⟨ho1,ho2⟩:=ho
   show zrz C r (fun c s K=>bif Nat.beq j i&&Nat.beq g f then(ex V N φ h).run c s K else(ex V N φ rest).inl j g c s K) c _
   cases he :(Nat.beq j i&&Nat.beq g f) with
   | false=>exact ih2.2 full id ops d K ho2 j g fn c hf hc
   | true=>
    simp only [Bool.and_eq_true] at he
    have e1:=Nat.eq_of_beq_eq_true he.1
    have e2:=Nat.eq_of_beq_eq_true he.2
    subst e1; subst e2
    rw [hf] at ho1
    simp only [hc] at ho1
    exact ih1.1 c _ ho1
  refine⟨fun c K ho=>?_,B⟩
  cases c with
  | region id ops d=>
   intro acts Q hK s a w h hs
   exact ydw hN (fun j g fn c hf hc=>B _ id ops d K ho j g fn c hf hc) hK h hs
  | _=>exact ho.elim
 | foc p q h ih=>
  refine⟨fun c K ho=>?_,fun full id ops d K ho=>ih.2 full id ops d K ho⟩
  have ho':obl V N φ h none c K:=by cases c <;> exact ho
  intro acts Q hK s a w hr hs
  change (match yf8 V s p.1 p.2 with
   | some (.own i)=>bif yfj s.ob[i]? then focM V s i (keyX V s q) fun s=>(ex V N φ h).run c s K else(match focP V p q s with
    | some (i,m)=>focX V s i m fun s=>(ex V N φ h).run c s K
    | none=>none)
   | _=>none)=some r at hr
  split at hr
  ·rename_i i _
   cases hm:yfj s.ob[i]? with
   | true=>
    rw [hm] at hr
    simp only [cond_true] at hr
    obtain⟨s',h1,h2⟩:=yn4 hr hs
    exact ih.1 c K ho' acts Q hK s' a w h1 h2
   | false=>
    rw [hm] at hr
    simp only [cond_false] at hr
    split at hr
    ·obtain⟨s',h1,h2⟩:=yna hr hs
     exact ih.1 c K ho' acts Q hK s' a w h1 h2
    ·cases hr
  ·cases hr
 | pk h J=>
  refine⟨fun c K ho=>?_,fun full id ops d K _ i f fn c _ _=>zac hN 8 f c _⟩
  cases c with
  | region id ops d=>
   obtain⟨rfl,hz,hA⟩:=ho
   intro acts Q hK s a w hr hs
   obtain⟨z,hz1,hJ⟩:=zih hr
   exact ypr hN (fun z' he=>by rw [<- hz,hA z z' he (ym7 (zy6 hs h z hz1))]; exact hJ) (by rw [<- hz]; exact hJ) hK (zy6 hs h z hz1)
  | _=>exact ho.elim
 | unr n h ih=>
  refine⟨fun c K ho=>?_,fun full id ops d K _ i f fn c _ _=>zac hN 8 f c _⟩
  cases c with
  | loop c=>
   intro acts Q hK s a w hr hs
   have key:∀ m s a w,unrX V ((ex V N φ h).run c) m s K=some r->SatS V C acts s a w->Code.rounds N.P c Q m a w:=by
    intro m
    induction m with
    | zero=>intro s a w hz; cases hz
    | succ m ihm=>
     intro s a w hz hs
     exact ih.1 c _ (ho _) acts (Exit.then (Code.rounds N.P c Q m) Q) (y2v (fun s a w h hs=>ihm s a w h hs) hK) _ a w hz (ylz hs)
   exact wp_loop_rounds n (key n s a w hr hs)
  | _=>exact ho.elim
 | alt h J J2=>
  refine⟨fun c K ho=>?_,fun full id ops d K _ i f fn c _ _=>zac hN 8 f c _⟩
  cases c with
  | region id ops d=>
   obtain⟨hd,hz,hA⟩:=ho
   simp only [Bool.and_eq_true] at hd
   obtain⟨rfl,hm⟩:=hd
   intro acts Q hK s a w hr hs
   obtain⟨z,hz1,hJ⟩:=zih hr
   obtain⟨L,h1,h2⟩:=(hA z).ok r hJ
   rw [hz] at h1
   exact y8f hN yj6 (inl:=fun _=>Dfl V N R) (fun i f fn c _ _=>zac hN 8 f c _) hK hm h1 h2 (zy6 hs h z hz1)
  | _=>exact ho.elim
 | frz ps h ih=>
  refine⟨fun c K ho=>?_,fun full id ops d K ho=>ih.2 full id ops d K ho⟩
  have ho':obl V N φ h none c K:=by cases c <;> exact ho
  intro acts Q hK s a w hr hs
  exact ih.1 c K ho' acts Q hK _ a w hr (zug _ hs)
 | cut t h ih=>
  refine⟨fun c K ho=>?_,fun full id ops d K ho=>ih.2 full id ops d K ho⟩
  have ho':obl V N φ h none c K:=by cases c <;> exact ho
  intro acts Q hK s a w hr hs
  exact ih.1 c K ho' acts Q hK _ a w hr (yls t hs)
end
end Px
end
section
namespace Px
open Go Go.RowKit
section
variable {V:TE} {N:Env V}
theorem y8s [Dr] {P:Program} {A B:Asg} {s:SS V.T} (hl:A.length=s.ob.length):∀(cs:List RC) (l:List (SV V.T)) (y:RTup V.T cs) (n:Nat),decR V s cs l=some y->(∀ k i,(ztw V cs l)[k]? = some i->B[n+k]? = some (A.getD i default))->
  F2 Ent (denV V P A l) (denV V P B (encR V n cs y))/\ze0 (obD V P A A s.ob) (ztw V cs l) (obD V P B ((ztw V cs l).map fun i=>A.getD i default) (newR V cs y))/\(newR V cs y).length =(ztw V cs l).length
 | [],l,y,n,h,hB=>by
  cases l with
  | nil=>exact⟨trivial,trivial,rfl⟩
  | cons x l=>exact zf h
 | .val c::cs,l,y,n,h,hB=>by
  cases l with
  | nil=>exact zf h
  | cons x l=>
   change (match V.dec (rdSl []) c x,decR V s cs l with
    | some y,some r=>some (y,r)
    | _,_=>none)=some y at h
   split at h
   ·rename_i y1 r hy hr
    have e:=Option.some.inj h
    subst e
    obtain⟨h1,h2,h3⟩:=y8s hl cs l r n hr hB
    refine⟨⟨?_,h1⟩,h2,h3⟩
    rw [z5q]
    exact z8y V P hy
   ·exact zf h
 | .row E c::cs,l,y,n,h,hB=>by
  cases l with
  | nil=>exact zf h
  | cons x l=>
   cases x with
   | own i=>
    cases hr:decR V s cs l with
    | none=>simp [decR,hr] at h
    | some r=>
     simp only [decR,hr] at h
     split at h
     ·rename_i E' c' z hz
      cases hE:Nat.beq E E' with
      | false=>rw [hE] at h; exact zf h
      | true=>
       rw [hE] at h
       have:=Nat.eq_of_beq_eq_true hE
       subst this
       simp only [cond_true] at h
       split at h
       ·rename_i e
        subst e
        have e:=Option.some.inj h
        subst e
        have hlt:i<A.length:=by rw [hl]; exact(List.getElem?_eq_some_iff.1 hz).1
        have ha:A[i]? = some (A.getD i default):=by simp [List.getD,List.getElem?_eq_getElem hlt]
        obtain⟨h1,h2,h3⟩:=y8s hl cs l r (n+1) hr fun k j hk=>by
         have:=hB (k+1) j (by simpa [ztw] using hk)
         rw [<- this]; congr 1; omega
        have hb:=hB 0 i rfl
        refine⟨⟨?_,h1⟩,⟨⟨_,zk V P ha hz,EntH.refl⟩,h2⟩,by simp [ztw,newR,h3]⟩
        simp only [SV.den]
        rw [ha,show B[n]? = some (A.getD i default) from hb]
        exact Ent.refl
       ·exact zf h
     ·exact zf h
   | _=>simp [decR] at h
theorem yk8 [Dr] {P:Program} {A B:Asg} : ∀ {l m:List (SV V.T)},F2 Ent (denV V P A l) (denV V P B m)->Ent ((resV V l).den V P A) ((resV V m).den V P B)
 | [],[],_=>by simp only [resV,SV.den]; exact Ent.refl
 | [x],[y],h=>h.1
 | x::x'::l,y::y'::m,h=>by simp only [resV,SV.den]; exact ygy h
 | [],_::_,h=>h.elim
 | _::_,[],h=>h.elim
 | [_],_::_::_,h=>h.2.elim
 | _::_::_,[_],h=>h.2.elim
theorem zur [Dr] {P:Program} {A:Asg} : ∀(cs:List Nat) (x:Tup V.T cs),denV V P A (encA V cs x)=vls V cs x
 | [],_=>rfl
 | c::cs,x=>by simp only [encA,denV,vls,z5q,zur cs]
theorem zyx:∀(cs:List Nat) (x:Tup V.T cs),(encA V cs x).length=cs.length
 | [],_=>rfl
 | c::cs,x=>by simp only [encA,List.length_cons,zyx cs]
theorem ybf:∀(cs:List KC) (x:KCs V.T cs),(encK V cs x).length=cs.length
 | [],_=>rfl
 | c::cs,x=>by simp only [encK,List.length_cons,ybf cs]
theorem ykw [Dr] (hN:za4 V N) {f φ:Nat} {fn:Func} {rs:List RC} (h:H V (RTup V.T rs)) (hf:N.P.funcs[f]? = some fn) {us:List (SV V.T)} (hle:us.length<=fn.ntmps) {r:RTup V.T rs}
  (hr:fnV V N φ fn rs h us=some r) (ho:fnO V N φ fn rs h):zla N.P f (denV V N.P [] us) (Kres V N.P rs r):=by
 unfold fnV at hr
 unfold fnO at ho
 split at hr
 ·rename_i c hb
  rw [hb] at ho
  intro r0 w vs hr0 hl hA
  rw [zqj] at hl
  refine calls_of_wp hf hb ((yq7 hN (r:=r) (C:=(⟨w,w.heap.size,r0,w,fn.ntmps⟩:Cx N.P)) φ h).1 c _ ho [] _ ?_ _ _ _ hr ?_)
  ·intro e s a' w' hK hs
   have fin :(match zoo V N s fn.results.toList with
     | some l=>match zoo V N (y3z V s (y8u V rs l)) fn.results.toList with
      | some l'=>bif ze4 (ztw V rs l') then decR V (y3z V s (y8u V rs l)) rs l' else none
      | none=>none
     | none=>none)=some r->a'.defers = []/\∃ v,(results fn a'.tmps).run N.P w' = .ok v w'/\retR w w.heap.size r0 w (Kres V N.P rs r) (.returned v) w':=by
    intro hK
    split at hK
    ·rename_i l hl1
     split at hK
     ·rename_i l' hl2
      cases hnd:ze4 (ztw V rs l') with
      | false=>rw [hnd] at hK; cases hK
      | true=>
       rw [hnd] at hK
       simp only [cond_true] at hK
       obtain⟨hd',hn',hkn',hgb',A',ro',S',hl',hw',hev',hsl',hst'⟩:=zug (y8u V rs l) hs
       obtain⟨v,hv,hvx⟩:=zs5 hw' hsl' hl2
       obtain⟨k1,k2,k3⟩:=y8s (P:=N.P) (B:=(ztw V rs l').map fun i=>A'.getD i default) hl' rs l' r 0 hK fun k i hk=>by
        rw [Nat.zero_add,List.getElem?_map,hk]; rfl
       exact⟨hd',v,hv,v,_,_,ro',_,rfl,hev',hw'.sel k2 hnd,yk8 k1 _ _ _ hvx,_,by rw [k3]; simp,rfl,rfl⟩
     ·cases hK
    ·cases hK
   cases e with
   | ret=>exact fin hK
   | normal=>exact fin hK
   | exit id=>simp [retK] at hK
   | goto l=>simp [retK] at hK
   | panic ch=>simp [retK] at hK
   | outgrown=>simp [retK] at hK
  ·refine⟨rfl,by simp [hl]; omega,trivial,⟨fun t g h=>by simp [lk] at h,fun t ch z hz p hp=>?_,fun p hp=>by simp at hp⟩,[],r0,fun _ _=>False,rfl,⟨Bel.refl _ _,Nat.le_refl _,fun i H hi=>by simp [obD] at hi,fun i b hb=>hb.elim,fun i j b hb=>hb.elim,hr0⟩,Evo.refl _ _ _,?_,trivial⟩
   ·rw [zki] at hz
    simp only [Nat.zero_le,if_true,Option.map_eq_some_iff,Prod.mk.injEq] at hz
    obtain⟨_,_,rfl,_⟩:=hz
    simp at hp
   ·intro t X hX
    simp only [slD,zki,Nat.zero_le,if_true,Nat.sub_zero,Option.map_map,Option.map_eq_some_iff] at hX
    obtain⟨y,hy,rfl⟩:=hX
    have hlt:=(List.getElem?_eq_some_iff.1 hy).1
    have hdv:∀(l:List (SV V.T)) (t:Nat),l[t]? = some y->(denV V N.P [] l)[t]? = some (y.den V N.P []):=by
     intro l
     induction l with
     | nil=>intro t h; simp at h
     | cons z l ih=>intro t h; cases t with
      | zero=>simp at h; subst h; rfl
      | succ t=>simp at h; simpa [denV] using ih t h
    have:=hA t _ (hdv _ t hy)
    have hvt:t<vs.size:=hl ▸ hlt
    simpa [denE,Array.getD_eq_getD_getElem?,Array.getElem?_append,hvt] using this
 ·cases hr
theorem zx [Dr] (hN:za4 V N) {f φ:Nat} {fn:Func} {as:List Nat} {rs:List RC} {F:Tup V.T as->Option (RTup V.T rs)} (h:H V (RTup V.T rs)) (hf:N.P.funcs[f]? = some fn) (hn:Nat.ble as.length fn.ntmps=true)
  (hF:∀ a,F a=fnX V N φ fn as rs h a) (ho:fnO V N φ fn rs h):zr V N.P f ⟨as,rs,F⟩:=by
 intro x r hr
 simp only at x r hr
 rw [hF] at hr
 have:=ykw hN (us:=encA V as x) h hf (by rw [zyx]; exact Nat.le_of_ble_eq_true hn) hr ho
 rwa [zur] at this
theorem ykm [Dr] (hN:za4 V N) {f φ:Nat} {fn:Func} {as:List Nat} {cs:List KC} {rs:List RC} {F:Tup V.T as->KCs V.T cs->Option (RTup V.T rs)} (h:H V (RTup V.T rs)) (hf:N.P.funcs[f]? = some fn) (hn:Nat.ble (as.length+cs.length) fn.ntmps=true)
  (hF:∀ a b,F a b=fnXc V N φ fn as cs rs h a b) (ho:fnO V N φ fn rs h):ycd V N.P f ⟨as,cs,rs,F⟩:=by
 intro x y r hr
 simp only at x y r hr
 rw [hF] at hr
 have:=ykw hN (us:=encA V as x++encK V cs y) h hf (by rw [List.length_append,zyx,ybf]; exact Nat.le_of_ble_eq_true hn) hr ho
 rwa [zzo,zur] at this
theorem y0r [Dr] {P:Program} {A:Asg} : ∀(ms:List MA) (a:MTup V.T ms) (k:Nat) (y:SV V.T),(encM V ms a)[k]? = some y->∃ B,(msD V P ms a)[k]? = some B/\Ent B (y.den V P A)
 | [],a,k,y,h=>by simp [encM] at h
 | .fn f::ms,a,0,y,h=>by simp [encM] at h; subst h; exact⟨_,rfl,ye0⟩
 | .val c::ms,a,0,y,h=>by simp [encM] at h; subst h; exact⟨_,rfl,Ent.of_eq (z5q V P A c a.1).symm⟩
 | .cmp c::ms,a,0,y,h=>by simp [encM] at h; subst h; exact⟨_,rfl,Ent.refl⟩
 | .fn f::ms,a,k+1,y,h=>y0r ms a.2 k y (by simpa [encM] using h)
 | .val c::ms,a,k+1,y,h=>y0r ms a.2 k y (by simpa [encM] using h)
 | .cmp c::ms,a,k+1,y,h=>y0r ms a.2 k y (by simpa [encM] using h)
theorem zvb [Dr] {P:Program} : ∀(ms:List MA) (a:MTup V.T ms),(msD V P ms a).length=ms.length
 | [],_=>rfl
 | .fn f::ms,a=>by simp [msD,zvb ms]
 | .val c::ms,a=>by simp [msD,zvb ms]
 | .cmp c::ms,a=>by simp [msD,zvb ms]
theorem zb9 [Dr] (hN:za4 V N) {f φ:Nat} {fn:Func} {E c:Nat} {ms:List MA} {F:List (V.T c)->MTup V.T ms->Option (List (V.T c))} (h:H V (List (V.T c))) (hf:N.P.funcs[f]? = some fn) (hn:Nat.ble (ms.length+1) fn.ntmps=true)
  (hF:∀ l a,F l a=fnM V N φ fn E c ms h l a) (ho:fnMO V N φ fn E c h):zft V N.P f ⟨E,c,ms,F⟩:=by
 intro l a l' sv hr w0 base r w_S w vs hw hl hA
 change F l a=some l' at hr
 rw [hF] at hr
 unfold fnM at hr
 unfold fnMO at ho
 have hle:=Nat.le_of_ble_eq_true hn
 split at hr
 ·rename_i b hb
  rw [hb] at ho
  simp only [List.length_cons,zvb] at hl
  refine calls_of_wp hf hb ((yq7 hN (r:=l') (C:=(⟨w0,base,r,w,fn.ntmps⟩:Cx N.P)) φ h).1 b _ ho [⟨#[sv],[]⟩] _ ?_ _ _ _ hr ?_)
  ·intro e s a' w' hK hs
   have fin:ymm V fn E c s=some l'->a'.defers = []/\∃ v,(results fn a'.tmps).run N.P w' = .ok v w'/\retR w0 base r w (fun x objs=>∃ l2,objs = [Px.row E (V.ev c) (V.sz c) l2 sv]/\x=eqv (.tuple #[])/\l2=l') (.returned v) w':=by
    intro hK
    unfold ymm at hK
    cases he:fn.results.isEmpty with
    | false=>rw [he] at hK; cases hK
    | true=>
     rw [he] at hK
     simp only [cond_true] at hK
     obtain⟨hd',hn',hkn',hgb',A',ro',S',hl',hw',hev',hsl',hst'⟩:=hs
     split at hK
     ·rename_i f0 hstk
      split at hK
      ·rename_i j hj
       split at hK
       ·rename_i E' c' l2 hob
        cases hE:Nat.beq E' E with
        | false=>rw [hE] at hK; cases hK
        | true=>
         rw [hE] at hK
         have eE:=Nat.eq_of_beq_eq_true hE
         subst eE
         simp only [cond_true] at hK
         split at hK
         ·rename_i ec
          subst ec
          simp only [Option.some.injEq] at hK
          subst hK
          rw [hstk] at hst'
          have hlt:j<A'.length:=by rw [hl']; exact(List.getElem?_eq_some_iff.1 hob).1
          have hq:A'[j]? = some (A'[j]'hlt):=List.getElem?_eq_getElem hlt
          have hsv:=hst'.1.1 0 _ (by simp only [slD,hj]; rfl)
          simp only [denE,SV.den,hq] at hsv
          have hsv:sv =(A'[j]'hlt).2:=hsv
          have hres:zoo V N s fn.results.toList=some []:=by
           have:fn.results.toList = []:=by simpa using he
           rw [this]; rfl
          obtain⟨v,hv,hvx⟩:=zs5 hw' hsl' hres
          have hsel:ze0 (obD V N.P A' A' s.ob) [j] [Px.row E' (V.ev c') (V.sz c') l2 sv]:=⟨⟨_,zk V N.P hq hob,by rw [hsv]; exact EntH.refl⟩,trivial⟩
          exact⟨hd',v,hv,v,_,_,ro',_,rfl,hev',hw'.sel hsel rfl,hvx,l2,rfl,rfl,rfl⟩
         ·cases hK
       ·cases hK
      ·cases hK
     ·cases hK
   cases e with
   | ret=>exact fin hK
   | normal=>exact fin hK
   | exit id=>simp [retM] at hK
   | goto l=>simp [retM] at hK
   | panic ch=>simp [retM] at hK
   | outgrown=>simp [retM] at hK
  ·refine⟨rfl,by simp [hl]; omega,trivial,⟨fun t g h=>by simp [lk] at h,fun t ch z hz p hp=>?_,fun p hp=>by simp at hp⟩,[(0,sv)],r,w_S,rfl,hw,Evo.refl _ _ _,?_,⟨fun t X hX=>?_,trivial,⟨fun t g h=>by simp [lk] at h,fun t ch z hz p hp=>?_,fun p hp=>by simp at hp⟩,rfl,rfl⟩,trivial⟩
   ·rw [zki] at hz
    simp only [Nat.zero_le,if_true,Option.map_eq_some_iff,Prod.mk.injEq] at hz
    obtain⟨_,_,rfl,_⟩:=hz
    simp at hp
   ·intro t X hX
    simp only [slD,zki,Nat.zero_le,if_true,Nat.sub_zero,Option.map_map,Option.map_eq_some_iff] at hX
    obtain⟨y,hy,rfl⟩:=hX
    have key:∃ B,(eqv sv::msD V N.P ms a)[t]? = some B/\Ent B (y.den V N.P [(0,sv)]):=by
     cases t with
     | zero=>simp at hy; subst hy; exact⟨_,rfl,Ent.refl⟩
     | succ t=>obtain⟨B,h1,h2⟩:=y0r (P:=N.P) (A:=[(0,sv)]) ms a t y (by simpa using hy); exact⟨B,by simpa using h1,h2⟩
    obtain⟨B,hB,hE⟩:=key
    have:=hE _ _ _ (hA t B hB)
    have hvt:t<vs.size:=by
     have:=(List.getElem?_eq_some_iff.1 hB).1
     simp only [List.length_cons,zvb] at this
     omega
    simpa [denE,Array.getD_eq_getD_getElem?,Array.getElem?_append,hvt] using this
   ·have hX2 :(lk [((0:Nat),(([]:Ch),(SV.own 0:SV V.T)))] t).map (denE V N.P [(0,sv)] [])=some X:=hX
    rw [z0b] at hX2
    split at hX2
    ·rename_i e0
     subst e0
     simp only [Option.map_some,Option.some.injEq] at hX2
     subst hX2
     exact(rfl:sv=sv)
    ·simp [lk] at hX2
   ·have hz2:lk [((0:Nat),(([]:Ch),(SV.own 0:SV V.T)))] t=some (ch,z):=hz
    rw [z0b] at hz2
    split at hz2
    ·cases hz2; simp at hp
    ·simp [lk] at hz2
 ·cases hr
theorem y3a {α:Type} {Q:Nat->α->Prop} : ∀ {l:List (Nat×α)},AllP (fun p=>Q p.1 p.2) l->∀ f x,lk l f=some x->Q f x
 | [],_,f,x,h=>by cases h
 |(k,y)::l,hl,f,x,h=>by
  rw [z0b] at h
  by_cases e:f=k
  ·rw [if_pos e] at h; cases h; subst e; exact hl.1
  ·rw [if_neg e] at h; exact y3a hl.2 f x h
theorem zd [Dr] {P:Program} {l:List (Nat×Fsp V)} {m:List (Nat×Msp V)} {n:List (Nat×Csp V)} {s:List (Nat×SoSp)} (h:AllP (fun p=>zr V P p.1 p.2) l) (hm:AllP (fun p=>zft V P p.1 p.2) m) (hn:AllP (fun p=>ycd V P p.1 p.2) n)
  (hs:AllP (fun p=>SoOK V P p.1 p.2) s):za4 V (⟨P,lk l,lk m,lk n,lk s⟩:Env V):=
 ⟨fun f sp hf=>y3a hn f sp hf,fun f sp hf=>y3a hm f sp hf,fun f sp hf=>y3a h f sp hf,fun f sp hf=>y3a hs f sp hf⟩
end
end Px
end
