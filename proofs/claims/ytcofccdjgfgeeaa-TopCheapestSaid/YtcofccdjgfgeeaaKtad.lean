/- A part of the proof of topCheapest_holds. Conditions: none. -/
import Derived.Test.YtcofccdjgfgeeaaKtac
import Derived.Laws.Panics
set_option linter.unusedVariables false
set_option linter.unusedSimpArgs false
section
namespace Px
open Go Go.RowKit
section
variable{V:TE}{N:Env V}{R:Type}{r:R}{C:Cx N.P}
theorem zy7[Dr]{A:Asg}{s:SS V.T}{a:Act}{ro:Nat->Prop}{S:Nat->Nat->Prop}{w:World}(hw:WInv C.w0 C.base (obD V N.P A A s.ob) ro S w)(hs:zj (slD V N.P A s.gb s.sl) a ro w):
  ∀{rs:List ResultVar}{l:List (SV V.T)},zg2 V N s rs=some l->∃vs,(rs.mapM (zrc a.tmps)).run N.P w = .ok vs w/\vs.length =(denV V N.P A l).length/\∀(i:Nat)(B:VP),(denV V N.P A l)[i]? = some B->B.h ro w (vs.getD i undef)
 | [],l,h=>by simp only[zg2,w00] at h;subst h;exact⟨[],rfl,rfl,λi B h=>by simp[denV] at h⟩
 |rv::rs,l,h=>by
  have step:∀(x:SV V.T)(m:List (SV V.T))(v:Value),zg2 V N s rs=some m->(zrc a.tmps rv).run N.P w = .ok v w->(x.den V N.P A).h ro w v->l=x::m->
    ∃vs,((rv::rs).mapM (zrc a.tmps)).run N.P w = .ok vs w/\vs.length =(denV V N.P A l).length/\∀(i:Nat)(B:VP),(denV V N.P A l)[i]? = some B->B.h ro w (vs.getD i undef):=by
   intro x m v hm hv hx hl;subst hl;obtain⟨vs,e1,e2,e3⟩:=zy7 hw hs hm;refine⟨v::vs,?_,by simp[denV,e2],λi B hB=>?_⟩
   .rw[List.mapM_cons];simp only[w06,hv,w05,e1,w0g]
   .cases i with
    |zero=>simp[denV] at hB;subst hB;simpa using hx
    |succ i=>simpa using e3 i B (by simpa[denV] using hB)
  have slot:∀t x,lk s.sl t=some ([],x)->(x.den V N.P A).h ro w (a.tmps.getD t undef):=λt x hx=>hs t _ (by simp[slD,hx];rfl)
  cases rv with
  |tmp t=>
   simp only[zg2] at h;split at h
   .rename_i x hx;split at h
    .rename_i m hm;simp only[w00] at h;exact step x m _ hm rfl (slot t x hx) h.symm
    .cases h
   .cases h
  |cell b t=>
   simp only[zg2] at h;split at h
   .rename_i p g n hp ht;split at h
    .rename_i x hx;split at h
     .rename_i m hm;simp only[w00] at h;have hev:Ev (s.st V N.P A) (.tmp b) (p.den V N.P A):=Ev.tmp (by simp[SS.st,slD,hp];rfl);have hrv:∃v,(zrc a.tmps (.cell b t)).run N.P w = .ok v w/\(x.den V N.P A).h ro w v:=by
       rcases ydt V N.P (C:=C) hx hev with h1|⟨rfl,cs,h1⟩|⟨rfl,cs,e,hl,h1⟩
       .exact(h1 a ro w hs).elim
       .exact RV.run (C:=C) (s:=s.st V N.P A) (rv:=.cell b t) (.inl ⟨n,ht,cs,h1⟩) hw hs
       .exact RV.run (C:=C) (s:=s.st V N.P A) (rv:=.cell b t) (.inr ⟨cs,e,hl ▸ ht,h1⟩) hw hs
      obtain⟨v,h1,h2⟩:=hrv;exact step x m v hm h1 h2 h.symm
     .cases h
    .cases h
   .cases h
theorem zij[Dr]{A:Asg}{s:SS V.T}{fn:Func}{a:Act}{ro:Nat->Prop}{S:Nat->Nat->Prop}{w:World}(hw:WInv C.w0 C.base (obD V N.P A A s.ob) ro S w)(hs:zj (slD V N.P A s.gb s.sl) a ro w)
  {l:List (SV V.T)} (h:zg2 V N s fn.results.toList=some l):∃v,(results fn a.tmps).run N.P w = .ok v w/\((resV V l).den V N.P A).h ro w v:=by
 obtain⟨vs,h1,h2,h3⟩:=zy7 hw hs h;have hm :(fn.results.mapM (zrc a.tmps)).run N.P w = .ok vs.toArray w:=by rw[Array.mapM_eq_mapM_toList];simp only[Sem.run_map,h1,w05]
 refine⟨if h:vs.toArray.size=1 then vs.toArray[0] else .tuple vs.toArray,?_,?_⟩
 .rw[zzl];simp only[w06,hm,w05,w0g]
 .match l,vs with
  | [],[]=>rfl
  | [x],[v]=>simpa[resV,denV] using h3 0 _ (by simp[denV])
  |x::y::l,v::u::vs=>simp only[resV,SV.den];refine⟨(v::u::vs).toArray,by simp,by simpa using h2,λi B hB=>?_⟩;have:=h3 i B hB;simpa[w07,w1k] using this
  | [],_::_=>simp[denV] at h2
  |_::_,[]=>simp[denV] at h2
  | [_],_::_::_=>simp[denV] at h2
  |_::_::_,[_]=>simp[denV] at h2
def zjt[Dr](Γ:List (Option (Nat×Nat)))(C:Cx N.P)(r:R)(run:Code->SS V.T->KX V R->Option R)(c:Code)(K:KX V R):Prop:=∀(rd:Option Nat)(acts:List GA)(Q:Exit->Act->World->Prop),acts.map GA.lpI=Γ->(rd=none\/noRF c=true)->(∀e s a w,K e s=some r->SatS V C acts s a w->Q e a w)->∀s a w,run c s K=some r->SatS V C acts s a w->c.wpIn (fz rd) 0 N.P Q a w
theorem ya7[Dr]{B b:Nat}{w0 w:World}(h:Bel B w0 w)(hb:B<=b)(o:Obj):Bel B w0 (w.putObj b o):=h.trans ⟨⟨rfl,rfl,rfl,by simp,λk hk=>w1a (by omega)⟩,λ_=>w0x _⟩
theorem WInv.put[Dr]{w0 w:World}{base b:Nat}{objs:List HP}{ro:Nat->Prop}{S:Nat->Nat->Prop}(h:WInv w0 base objs ro S w)(hro:ro b)(hB:base<=b)(hr:Rec w.heap[b]?)(o:Obj):WInv w0 base objs ro S (w.putObj b o) where
 below:=ya7 h.below hB o
 size:=by simp;exact h.size
 obj:=λi H hi=>H.wk (λ_ h=>h) (λx _ hn=>w1a λe=>hn (e ▸ hr)) (λx hx=>w1a λe=>(h.own i x hx).2.2.2 (e ▸ hro)) (h.obj i H hi)
 own:=λi x hx=>by obtain⟨h1,h2,h3,h4⟩:=h.own i x hx;exact⟨h1,h2,by simpa using h3,h4⟩
 apart:=h.apart
 old:=λx hx=>by simpa using h.old x hx
theorem zj.putR{s:z8z}{a:Act}{ro:Nat->Prop}{w:World}{b:Nat}(hr:Rec w.heap[b]?)(o:Obj)(h:zj s a ro w):zj s a ro (w.putObj b o):=λt A ht=>A.wk (λ_ h=>h) (λx _ hn=>w1a λe=>hn (e ▸ hr)) (h t A ht)
theorem Stk.putR[Dr]{P:Program}{A:Asg}{ro:Nat->Prop}{w:World}{b:Nat}(hr:Rec w.heap[b]?)(o:Obj):∀{fs:List (Fm V.T)}{gs:List GA},Stk V P A ro w fs gs->Stk V P A ro (w.putObj b o) fs gs
 | [],[],_=>trivial
 |f::fs,g::gs,h=>⟨⟨h.1.1.putR hr o,h.1.2⟩,Stk.putR hr o h.2⟩
 | [],_::_,h=>h.elim
 |_::_,[],h=>h.elim
theorem Evo.putR{B b:Nat}{r0 ro:Nat->Prop}{wI w:World}(h:Evo B r0 wI ro w)(hb:¬r0 b)(o:Obj):Evo B r0 wI ro (w.putObj b o):=⟨h.1,λx hx=>(w1a λ(e:x=b)=>hb (by rw[<- e];exact hx)).trans (h.2.1 x hx),h.2.2⟩
theorem zjh{F:Fence}{n:Nat}{P:Program}{fn:Func}{tmps:Array Value}{R:Ending->World->Prop}(Φ:World->Prop)(hend:∀w,Φ w->∃v,(results fn tmps).run P w = .ok v w/\R (.returned v) w):∀(Ds:List Nat)(w:World),Ds.Nodup->
  (∀D∈Ds,w.heap[D]? = some (.deferred (some [])))->Φ w->(∀w,∀D∈Ds,w.heap[D]? = some (.deferred (some []))->Φ w->Φ (w.putObj D (.deferred none)))->LeavesInM F n P fn tmps R (Ds.map mkD) .returning w
 | [],w,_,_,h,_=>hend w h
 |D::Ds,w,hnd,hw,h,hs=>by have h1:=hw D (w0m ..);have hnd':=w1w.1 hnd;refine⟨λe=>(by cases e),.inl ⟨D,_,rfl,run_takeDeferred h1,zjh Φ hend Ds _ hnd'.2 (λE hE=>?_) (hs w D (w0m ..) h1 h) λw E hE=>hs w E (w09 _ hE)⟩⟩;rw[w1a λ(e:E=D)=>hnd'.1 (by rw[<- e];exact hE)];exact hw E (w09 _ hE)
theorem zj7{P:Program}{f:FuncId}{fn:Func}{c:Code}{args:Array Value}{w:World}{R:Ending->World->Prop}(hf:P.funcs[f]? = some fn)(hb:fn.body=some c)
  (h:c.wpIn (fz none) 0 P (bodyPostM (fz none) 0 P fn R) { tmps:=args++Array.replicate (fn.ntmps-args.size) undef,defers:=[] } w):Calls P f args w R:=
 y5q (n:=0) (callsIn_of_wp_marks hf hb trivial h rfl)
theorem zqs[Dr]{A:Asg}{acts:List GA}{s:SS V.T}{a:Act}{w:World}{ro:Nat->Prop}{S:Nat->Nat->Prop}{fn:Func}(hw:WInv C.w0 C.base (obD V N.P A A s.ob) ro S w)(hev:EvM C.base C.r0 C.wI (mks a acts) (lps acts) ro w)
  (hsl:zj (slD V N.P A s.gb s.sl) a ro w) (hst:Stk V N.P A ro w s.stk acts) {R':Ending->World->Prop}
  (hk:∀w',WInv C.w0 C.base (obD V N.P A A s.ob) ro S w'->EvM C.base C.r0 C.wI (acts.flatMap (·.act.defers)) (lps acts) ro w'->zj (slD V N.P A s.gb s.sl) a ro w'->Stk V N.P A ro w' s.stk acts->∃v,(results fn a.tmps).run N.P w' = .ok v w'/\R' (.returned v) w') :
  LeavesInM (fz none) 0 N.P fn a.tmps R' a.defers .returning w:=by
 obtain⟨Ds,h1,h2,h3⟩:=hev.bk.df;unfold mks at h1;obtain⟨Ds1,Ds2,rfl,e1,e2⟩:=List.map_eq_append_iff.1 h1.symm;obtain⟨n1,n2,n3⟩:=w58.1 h2;have hbase:∀D∈Ds1,C.base<=D:=λD hD=>by obtain⟨q1,q2,_⟩:=h3 D (w1g _ hD);exact(hev.ev.2.2 D q1).resolve_left q2
 rw[<- e1];refine zjh (λw'=>WInv C.w0 C.base (obD V N.P A A s.ob) ro S w'/\EvM C.base C.r0 C.wI (acts.flatMap (·.act.defers)) (lps acts) ro w'/\zj (slD V N.P A s.gb s.sl) a ro w'/\Stk V N.P A ro w' s.stk acts)
  (λw' h=>hk w' h.1 h.2.1 h.2.2.1 h.2.2.2) Ds1 w n1 (λD hD=>(h3 D (w1g _ hD)).2.2) ⟨hw,⟨hev.ev,⟨Ds2,e2.symm,n2,λD hD=>h3 D (w1j _ hD)⟩,hev.bk.lp⟩,hsl,hst⟩ ?_
 rintro w' D hD hdf ⟨g1,g2,g3,g4⟩;obtain⟨q1,q2,_⟩:=h3 D (w1g _ hD);have hr:Rec w'.heap[D]?:=.inl ⟨_,hdf⟩;refine⟨g1.put q1 (hbase D hD) hr _,⟨g2.ev.putR q2 _,?_,g2.bk.lp.1,λp hp=>?_⟩,g3.putR hr _,g4.putR hr _⟩
 .refine⟨Ds2,e2.symm,n2,λE hE=>?_⟩;obtain⟨x1,x2,x3⟩:=h3 E (w1j _ hE);refine⟨x1,x2,?_⟩;rw[w1a λe=>n3 D hD E hE e.symm];obtain⟨Es,y1,y2,y3⟩:=g2.bk.df;have:E∈Es:=by
   have h5:mkD E∈Es.map mkD:=by rw[<- y1,<- e2];exact List.mem_map_of_mem hE
   obtain⟨E',hE',e'⟩:=w0h.1 h5;have:E'=E:=by simpa[mkD] using e'
   rw[<- this];exact hE'
  exact(y3 E this).2.2
 .obtain⟨x1,x2,x3⟩:=g2.bk.lp.2 p hp;refine⟨x1,x2,?_⟩;rw[w1a λe=>by rw[e,hdf] at x3;cases x3];exact x3
theorem zez:∀(n:Nat)(l:List (SV V.T))(t:Nat),lk (zff V n l) t=if n<=t then(l[t-n]?).map λx=>([],x) else none
 |n,[],t=>by simp[zff,lk]
 |n,x::l,t=>by
  simp only[zff,z0c,zez (n+1) l t];by_cases h:t=n
  .subst h;simp
  .rw[if_neg h];by_cases h2:n+1<=t
   .rw[if_pos h2,if_pos (by omega)];have:t-n =(t-(n+1))+1:=by omega
    rw[this,w2n]
   .rw[if_neg h2,if_neg (by omega)]
theorem zwn[Dr]{A:Asg}{as:List (SV V.T)}{vs:Array Value}{ro:Nat->Prop}{w:World}{df:List Deferred}{n:Nat}(hvl:vs.size=as.length)(hvs:∀(i:Nat)(B:VP),(denV V N.P A as)[i]? = some B->B.h ro w (vs.getD i undef)):
  zj (slD V N.P A [] (zff V 0 as)) { tmps:=vs++Array.replicate n undef,defers:=df } ro w:=by
 intro t X hX;simp only[slD,zez,w3q,if_true,w49,Option.map_map,w1u] at hX;obtain⟨x,hx,rfl⟩:=hX;have hlt:=(w04.1 hx).1;have hdv:∀(l:List (SV V.T))(t:Nat),l[t]? = some x->(denV V N.P A l)[t]? = some (x.den V N.P A):=by
  intro l
  induction l with
  |nil=>intro t h;simp at h
  |cons y l ih=>intro t h;cases t with
   |zero=>simp at h;subst h;rfl
   |succ t=>simp at h;simpa[denV] using ih t h
 have:=hvs t _ (hdv as t hx);have hvt:t<vs.size:=hvl ▸ hlt;simpa[denE,w07,w17,hvt] using this
theorem yb6[Dr]{Γ:List (Option (Nat×Nat))}{acts:List GA}(hΓ:acts.map GA.lpI=Γ){inl:Inl V R}{s:SS V.T}{f:Nat}{as:List (SV V.T)}{k:SV V.T->SS V.T->Option R}(h:goIn V N inl s f as k=some r)
  (hinl:∀fn c,N.P.funcs[f]? = some fn->fn.body=some c->zjt (none::Γ) C r (inl f) c (inlK V N fn k)) {a:Act} {w:World} {A:Asg} {ro:Nat->Prop} {S:Nat->Nat->Prop}
  (hn:a.tmps.size=s.n) (hkn:chP s.gb s.kn) (hgb:GbOK s.toFm) (hl:A.length=s.ob.length) (hw:WInv C.w0 C.base (obD V N.P A A s.ob) ro S w) (hev:EvM C.base C.r0 C.wI (mks a acts) (lps acts) ro w) (hsl:zj (slD V N.P A s.gb s.sl) a ro w) (hst:Stk V N.P A ro w s.stk acts)
  {vs:Array Value} (hvl:vs.size=as.length) (hvs:∀(i:Nat)(B:VP),(denV V N.P A as)[i]? = some B->B.h ro w (vs.getD i undef))
  {R':Value->World->Prop} (hk:∀v s' A' ro' S' w' u,k v s'=some r->a.tmps.size=s'.n->chP s'.gb s'.kn->GbOK s'.toFm->A'.length=s'.ob.length->WInv C.w0 C.base (obD V N.P A' A' s'.ob) ro' S' w'->EvM C.base C.r0 C.wI (mks a acts) (lps acts) ro' w'->
   zj (slD V N.P A' s'.gb s'.sl) a ro' w'->Stk V N.P A' ro' w' s'.stk acts->(v.den V N.P A').h ro' w' u->R' u w'):FnOK N.P f/\Calls N.P f vs w λe w'=>∃u,e = .returned u/\R' u w':=by
 unfold goIn at h;split at h
 .rename_i fn hf;split at h
  .rename_i c hb;cases hc :(zn.fnok N.P f&&Nat.ble as.length fn.ntmps) with
   |false=>rw[hc] at h;cases h
   |true=>
    rw[hc] at h;simp only[w02] at hc;simp only[cond_true] at h;refine⟨z7u N.P hc.1,?_⟩;have hle:=w0u hc.2;refine zj7 hf hb (hinl fn c hf hb none (⟨a,none⟩::acts) _ (by rw[w0p,hΓ];rfl) (.inl rfl) ?_ _ _ _ h ?_)
    .-- the callee has ended
     intro e s' a' w' hK hs';have fin :(match zg2 V N s' fn.results.toList,s'.stk with
       |some l,f::stk=>k (resV V l) { f with stk:=stk,ob:=s'.ob }
       |_,_=>none)=some r->LeavesInM (fz none) 0 N.P fn a'.tmps (λe w'=>∃u,e = .returned u/\R' u w') a'.defers .returning w':=by
      intro hK;split at hK
      .rename_i l fm stk hres hstk;obtain⟨_,hn',hkn',hgb',A',ro',S',hl',hw',hev',hsl',hst'⟩:=hs';refine zqs hw' hev' hsl' hst' λw2 g1 g2 g3 g4=>?_
       obtain⟨v,hv,hvx⟩:=zij g1 g3 hres;rw[hstk] at g4;exact⟨v,hv,v,rfl,hk _ _ A' ro' S' w2 v hK g4.1.2.2.2.2 g4.1.2.1 g4.1.2.2.1 hl' g1 g2 g4.1.1 g4.2 hvx⟩
      .cases hK
     cases e with
     |ret=>exact fin hK
     |normal=>exact fin hK
     |exit id=>simp[inlK] at hK
     |goto l=>simp[inlK] at hK
     |panic ch=>simp[inlK] at hK
     |outgrown=>simp[inlK] at hK
    .refine⟨trivial,by simp[hvl];omega,trivial,⟨λt g h=>by simp[lk] at h,λt ch z hz p hp=>?_,λp hp=>by simp at hp⟩,A,ro,S,hl,hw,hev,zwn hvl hvs,⟨⟨hsl,hkn,hgb,(λx e=>by cases e),hn⟩,hst⟩⟩;rw[zez] at hz;simp only[w3q,if_true,w1u,w0b] at hz;obtain⟨_,_,rfl,_⟩:=hz;simp at hp
  .cases h
 .cases h
def YOK[Dr](Γ:List (Option (Nat×Nat)))(C:Cx N.P)(r:R)(inl:Inl V R)(k:SV V.T->SS V.T->Option R):Prop:=
 ∀(rd:Option Nat)(acts:List GA),acts.map GA.lpI=Γ->∀(s:SS V.T)(vs:List (SV V.T))(a:Act)(w:World)(A:Asg)(ro:Nat->Prop)(S:Nat->Nat->Prop),zwg V inl s vs k=some r->
  a.tmps.size=s.n->chP s.gb s.kn->GbOK s.toFm->A.length=s.ob.length->WInv C.w0 C.base (obD V N.P A A s.ob) ro S w->EvM C.base C.r0 C.wI (mks a acts) (lps acts) ro w->zj (slD V N.P A s.gb s.sl) a ro w->Stk V N.P A ro w s.stk acts->
  ∀(args:Array Value),args.size=vs.length->(∀(i:Nat)(B:VP),(denV V N.P A vs)[i]? = some B->B.h ro w (args.getD i undef))->
  ∀(R':Value->World->Prop),(∀v s' A' ro' S' w' u,k v s'=some r->a.tmps.size=s'.n->chP s'.gb s'.kn->GbOK s'.toFm->A'.length=s'.ob.length->WInv C.w0 C.base (obD V N.P A' A' s'.ob) ro' S' w'->EvM C.base C.r0 C.wI (mks a acts) (lps acts) ro' w'->
   zj (slD V N.P A' s'.gb s'.sl) a ro' w'->Stk V N.P A' ro' w' s'.stk acts->(v.den V N.P A').h ro' w' u->R' u w')->
  ∃g gs L x,acts=g::gs/\g.lp=some (L,x)/\∃fn tmps asg bd,(Instr.yield L args).run N.P w = .ok (.round L fn tmps asg bd) w/\RoundIn (fz rd) 0 N.P L fn tmps asg bd w λe w'=>∃u,e = .returned u/\R' u w'
end
end Px
end
section
namespace Px
open Go Go.RowKit
section
variable{V:TE}{N:Env V}{R:Type}{r:R}{C:Cx N.P}
theorem zga[Dr]{A:Asg}{s:SS V.T}{ch:Ch}(hc:chP s.gb ch):∀{os:List Operand}{l:List (SV V.T)},zs0 V s.sl ch os=some l->∀a ro w,zj (slD V N.P A s.gb s.sl) a ro w->
  os.length=l.length/\∀(i:Nat)(B:VP),(denV V N.P A l)[i]? = some B->B.h ro w ((os.map a.eval).getD i undef)
 | [],l,h,a,ro,w,_=>by simp[zs0] at h;subst h;exact⟨rfl,λi B h=>by simp[denV] at h⟩
 |o::os,l,h,a,ro,w,hs=>by
  simp only[zs0] at h;split at h
  .rename_i x hx;split at h
   .rename_i m hm;simp only[w00] at h;subst h;obtain⟨e1,e2⟩:=zga hc hm a ro w hs;refine⟨by simp[e1],λi B hB=>?_⟩;cases i with
    |zero=>simp[denV] at hB;subst hB;exact z2h V N.P hx hc a ro w hs
    |succ i=>simpa using e2 i B (by simpa[denV] using hB)
   .cases h
  .cases h
theorem zpx[Dr]{P:Program}{A:Asg}: ∀(l m:List (SV V.T)),denV V P A (l++m)=denV V P A l++denV V P A m
 | [],m=>rfl
 |x::l,m=>by simp only[w2u,denV,zpx l m]
theorem zf3[Dr]{P:Program}{A:Asg}: ∀(l:List (SV V.T)),(denV V P A l).length=l.length
 | []=>rfl
 |x::l=>by simp only[denV,w1b,zf3 l]
theorem zr0[Dr]{A:Asg}{ob:List (SO V.T)}{w0:World}{base:Nat}{ro:Nat->Prop}{S:Nat->Nat->Prop}{w:World}(h:WInv w0 base (obD V N.P A A ob) ro S w):OneA V A ob:=by
 intro i q o ha ho hb;have h5:=h.obj i _ (zt V N.P ha ho);cases o with
 |row E c l=>exact zw6 h5
 |x o=>
  cases o with
  |map kc vc E m hh=>have h6:=h5.1.1;rw[h6];rfl
  |it kc vc m c=>have h6:=h5.1;rw[h6];rfl
  |fix E c l=>exact zw6 h5.2
  |nst E E2 c l hh=>obtain⟨_,vs,S0,Sk,_,h7,_⟩:=h5;exact zw6 h7
 |box t cs=>cases hb
 |emp=>cases hb
theorem ybe[Dr]{s:SS V.T}{o:Oper}{f:Nat}{vs:List (SV V.T)}(h:inlC V N s o.op=some (f,vs))(hkn:chP s.gb s.kn){A:Asg}{a:Act}{ro:Nat->Prop}{w:World}(hs:zj (slD V N.P A s.gb s.sl) a ro w):
  ∃args:Array Value,args.size=vs.length/\(∀(i:Nat)(B:VP),(denV V N.P A vs)[i]? = some B->B.h ro w (args.getD i undef))/\(FnOK N.P f->(execOp a.eval o).run N.P w = .ok (.enter f args) w):=by
 obtain⟨dst,op,ty,pos,aft,guard⟩:=o;unfold inlC at h;split at h
 .rename_i c hop;obtain⟨callee,as,ts⟩:=c;simp only at hop;subst hop;have run:∀(fo:Operand)(caps:Array Value),a.eval fo = .func (.func f) #[] caps->FnOK N.P f->(execOp a.eval ⟨dst,.call { callee:=.value fo,args:=as,argTypes:=ts },ty,pos,aft,guard⟩).run N.P w = .ok (.enter f (as.map a.eval++caps)) w:=by rintro fo caps hfo ⟨fn,h1,h2,h3⟩;simp[execOp,Go.resolve,hfo,Deferred.ofValue,invoke,z1x h1 h2 h3]
  split at h
  .rename_i g hcal;simp only at hcal;subst hcal;split at h
   .rename_i us hus;simp only[w00,w0b] at h;obtain⟨rfl,rfl⟩:=h;obtain⟨e1,e2⟩:=zga (N:=N) (A:=A) hkn hus a ro w hs;refine⟨as.map a.eval,by simpa using e1,λi B hB=>?_,λhF=>?_⟩
    .have:=e2 i B hB
     simpa[w07,w1k] using this
    .have:=run (.func g) #[] rfl hF
     simpa using this
   .cases h
  .rename_i t hcal;simp only at hcal;subst hcal;split at h
   .rename_i g caps us hg hus;split at h
    rotate_left
    .cases h
    simp only[w00,w0b] at h;obtain⟨rfl,rfl⟩:=h;obtain⟨e1,e2⟩:=zga (N:=N) (A:=A) hkn hus a ro w hs;have hfv:=z2h V N.P (A:=A) hg hkn a ro w hs;simp only[SV.den] at hfv;obtain⟨cv,h1,h2,h3⟩:=hfv;rw[zf3] at h2;refine⟨as.map a.eval++cv,by simp at e1;simp[e1,h2],λi B hB=>?_,λhF=>run (.tmp t) cv h1 hF⟩;rw[zpx,w23] at hB;simp at e1;split at hB
    .rename_i hlt;rw[zf3] at hlt;have:=e2 i B hB;have hlt':i<as.size:=by omega
     simpa[w07,w1k,w17,hlt'] using this
    .rename_i hge;rw[zf3] at hge hB;have:=h3 _ B hB;have hge':¬i<as.size:=by omega
     rw[e1] at hge';simpa[w07,w17,hge',e1] using this
   .cases h
  .cases h
 .cases h
theorem ybd{s:SS V.T}{o:Op}{p:Nat×List (SV V.T)}(h:inlC V N s o=some p):∀c,o≠.defer c:=by rintro c rfl;simp[inlC] at h
theorem ycz{s:SS V.T}{o:Op}{vs:List (SV V.T)}(h:yldC V s o=some vs):∀c,o≠.defer c:=by rintro c rfl;simp[yldC] at h
theorem yd0[Dr]{s:SS V.T}{o:Oper}{vs:List (SV V.T)}(h:yldC V s o.op=some vs)(hkn:chP s.gb s.kn){A:Asg}{a:Act}{ro:Nat->Prop}{w:World}(hs:zj (slD V N.P A s.gb s.sl) a ro w):
  ∃args:Array Value,args.size=vs.length/\(∀(i:Nat)(B:VP),(denV V N.P A vs)[i]? = some B->B.h ro w (args.getD i undef))/\
   ∀g gs L x,Stk V N.P A ro w s.stk (g::gs)->g.lp=some (L,x)->(execOp a.eval o).run N.P w =(Instr.yield L args).run N.P w:=by
 obtain⟨dst,op,ty,pos,aft,guard⟩:=o;unfold yldC at h;split at h
 .rename_i c hop;obtain⟨callee,as,ts⟩:=c;simp only at hop;subst hop;split at h
  .rename_i t f fs hcal hstk;simp only at hcal;subst hcal;split at h
   .rename_i i j us hi hj hus;cases hij:Nat.beq i j with
    |false=>rw[hij] at h;cases h
    |true=>
     rw[hij] at h;simp only[cond_true,w00] at h;subst h;have hij:=w01 hij;subst hij;obtain⟨e1,e2⟩:=zga (N:=N) (A:=A) hkn hus a ro w hs;refine⟨as.map a.eval,by simpa using e1,λi B hB=>?_,?_⟩
     .have:=e2 i B hB
      simpa[w07,w1k] using this
     .intro g gs L x hst hg;have hv:=z2h V N.P (A:=A) hi hkn a ro w hs;rw[hstk] at hst;have hst1:=hst.1;have hsl:=hst1.1 (f.n-1) _ (by simp only[slD,hj];rfl);have htm:g.tm.tmps.getD (f.n-1) undef = .func (.yield L) #[] #[]:=by
       have h1:=hst1.2.2.2.2;unfold GA.tm at h1⊢;rw[hg] at h1⊢;simp only[w5l] at h1⊢;have:f.n-1=g.act.tmps.size:=by omega
       rw[this];simp
      have hfo:a.eval (.tmp t) = .func (.yield L) #[] #[]:=by
       simp only[SV.den,denE] at hv hsl;cases hA:A[i]? with
       |none=>rw[hA] at hv;exact hv.elim
       |some q=>rw[hA] at hv hsl;rw[show a.eval (.tmp t)=q.2 from hv,<- htm];exact hsl.symm
      simp[execOp,Go.resolve,hfo,Deferred.ofValue,invoke]
   .cases h
  .cases h
 .cases h
theorem y73[Dr](hN:z5f V N){Γ:List (Option (Nat×Nat))}{rd:Option Nat}{acts:List GA}(hΓ:acts.map GA.lpI=Γ){inl:Inl V R}{o:Oper}{s:SS V.T}{k:SS V.T->Option R}(h:zz9 V N inl o s k=some r)
  (hinl:∀f fn c,N.P.funcs[f]? = some fn->fn.body=some c->zjt (none::Γ) C r (inl f) c (inlK V N fn λv s=>after V s o.dst ([],v) k)) (hyl:YOK Γ C r inl λv s=>after V s o.dst ([],v) k) {a:Act} {w:World} (hs:SatS V C acts s a w) {next:Act->World->Prop} {Q:Exit->Act->World->Prop}
  (hk:∀s2 v0 w',k s2=some r->SatS V C acts s2 (a.put o.dst v0) w'->next (a.put o.dst v0) w'):o.wpIn (fz rd) 0 N.P a w next Q:=by
 unfold zz9 at h;cases hdst:zv3 o with
 |false=>rw[hdst] at h;cases h
 |true=>
  rw[hdst] at h;simp only[cond_true] at h;have hs1:=zkv (zz0 V N s o.op) hs;revert h hs1;generalize zt6 V s (zz0 V N s o.op)=s1;intro h hs1;obtain⟨hd,hn,hkn,hgb,A,ro,S,hl,hw,hev,hsl,hst⟩:=hs1
  -- what follows on a value
  have fin:∀(v:SV V.T)(s':SS V.T)(A' B':Asg)(ro0 ro':Nat->Prop)(S':Nat->Nat->Prop)(w1 w':World)(u:Value),after V s' o.dst ([],v) k=some r->a.tmps.size=s'.n->chP s'.gb s'.kn->GbOK s'.toFm->(A'++B').length=s'.ob.length->
    WInv C.w0 C.base (obD V N.P (A'++B') (A'++B') s'.ob) ro' S' w'->EvM C.base C.r0 C.wI (mks a acts) (lps acts) ro0 w1->Evo C.base ro0 w1 ro' w'->zj (slD V N.P A' s'.gb s'.sl) a ro0 w1->Stk V N.P A' ro0 w1 s'.stk acts->(v.den V N.P (A'++B')).h ro' w' u->next (a.put o.dst u) w':=by
   intro v s' A' B' ro0 ro' S' w1 w' u ha h1 h2 h3 h4 h5 h6 h6' h7 h8 h9;unfold after at ha;split at ha
   .rename_i s2 hset;exact hk s2 u w' ha (zrd (e:=([],v)) hset (λp hp=>by simp at hp) hd h1 h2 h3 h4 h5 h6 h6' h7 h8 h9)
   .cases ha
  unfold loud at h;split at h
  .rename_i vs hyd;obtain⟨args,e1,e2,e3⟩:=yd0 hyd hkn hsl;obtain⟨g,gs,L,x,rfl,hg,fn,tmps,asg,bd,hrun,hrnd⟩:=hyl rd acts hΓ s1 vs a w A ro S h hn hkn hgb hl hw hev hsl hst args e1 e2 (λu w'=>next (a.put o.dst u) w')
    (λv s' A' ro' S' w' u g1 g2 g3 g4 g5 g6 g7 g8 g9 g10=>fin v s' A' [] ro' ro' S' w' w' u g1 g2 g3 g4 (by rw[w0e];exact g5) (by rw[w0e];exact g6) g7 (Evo.refl _ _ _) g8 g9 (by rw[w0e];exact g10))
   refine⟨λ_ _=>trivial,?_⟩;rw[Oper.semAt_eq _ _ _ (ycz hyd),e3 g gs L x hst hg,hrun,Oper.uponIn_round];refine⟨λe=>(by simp at e),hrnd.mono ?_⟩;rintro e w' ⟨u,rfl,hu⟩;exact hu
  split at h
  .rename_i f vs hin;obtain⟨args,e1,e2,e3⟩:=ybe hin hkn hsl;obtain⟨hF,hcalls⟩:=yb6 hΓ h (hinl f) hn hkn hgb hl hw hev hsl hst e1 e2 (R':=λu w'=>next (a.put o.dst u) w')
    (λv s' A' ro' S' w' u g1 g2 g3 g4 g5 g6 g7 g8 g9 g10=>fin v s' A' [] ro' ro' S' w' w' u g1 g2 g3 g4 (by rw[w0e];exact g5) (by rw[w0e];exact g6) g7 (Evo.refl _ _ _) g8 g9 (by rw[w0e];exact g10))
   refine Oper.wp_fz (ybd hin) ?_;unfold Oper.wp;rw[e3 hF,Oper.upon_enter];refine hcalls.mono ?_;rintro e w' ⟨u,rfl,hu⟩;exact hu
  .obtain⟨dst,op,ty,pos,aft,guard⟩:=o;have hOp:=zxq (C:={ C with n:=s1.n,df:=a.defers }) hN hl hkn hgb (zr0 hw) h dst pos aft guard (λe=>by
    cases dst with
    |none=>rfl
    |some d=>cases op<;>simp[ybj] at e<;>simp[zv3] at hdst)
   refine Oper.wpIn_mono ?_ (OpT.fz hOp a w ro S Q rfl hn hw hsl);rintro a' w' ⟨v0,ro',S',x,objs',rfl,hev',hw',hx,B,ob',v,hkv,hlen,hent,hobw⟩;obtain⟨S2,hw2⟩:=hobw _ _ _ _ _ hw';exact fin v { s1 with ob:=ob' } A B ro ro' S2 w w' v0 hkv hn hkn hgb hlen hw2 hev hev' hsl hst (hent _ _ _ hx)
theorem zh1[Dr](hN:z5f V N){rd:Option Nat}{acts:List GA}{o:Oper}{s:SS V.T}{cur:Ch}{k:SS V.T->Option R}(h:zn V N s cur o.op o.type (λv=>after V s o.dst (cur,v) k)=some r)(hcur:∀p∈cur,(lk s.gb p.1).isSome=true){a:Act}{w:World}(hs:SatS V C acts s a w){next:Act->World->Prop}{Q:Exit->Act->World->Prop}
  (hk:∀s2 v0 w',k s2=some r->SatS V C acts s2 (a.put o.dst v0) w'->next (a.put o.dst v0) w') :(chP s.gb cur->o.wpIn (fz rd) 0 N.P a w next Q)/\(¬chP s.gb cur->next (a.put o.dst undef) w):=by
 obtain⟨hd,hn,hkn,hgb,A,ro,S,hl,hw,hev,hsl,hst⟩:=hs;obtain⟨v,hv,hq⟩:=zd3 (C:={ C with n:=s.n,df:=a.defers }) (A:=A) hN hkn hgb (zr0 hw) h;unfold after at hv;split at hv
 .rename_i s2 hset;refine⟨λhc=>?_,λhc=>?_⟩
  .obtain⟨dst,op,ty,pos,aft,guard⟩:=o;refine Oper.wpIn_mono ?_ (OpT.fz (hq hc dst pos aft guard) a w ro S Q rfl hn hw hsl);rintro a' w' ⟨v0,ro',S',x,objs',rfl,hev',hw',hx,rfl,rfl⟩;refine hk s2 v0 w' hv (zrd (B:=[]) (e:=(cur,v)) hset hcur hd hn hkn hgb (by rw[w0e];exact hl) (by rw[w0e];exact hw') hev hev' hsl hst ?_);rw[w0e];unfold denE;cases cur with
   |nil=>exact hx
   |cons p l=>exact⟨λ_=>hx,λh=>absurd hc h⟩
  .refine hk s2 undef w hv (zrd (B:=[]) (e:=(cur,v)) hset hcur hd hn hkn hgb (by rw[w0e];exact hl) (by rw[w0e];exact hw) hev (Evo.refl _ _ _) hsl hst ?_);unfold denE;cases cur with
   |nil=>exact(hc trivial).elim
   |cons p l=>exact⟨λh=>absurd h hc,λ_=>rfl⟩
 .cases hv
theorem zwc[Dr]{acts:List GA}{o:Oper}{s:SS V.T}{k:SS V.T->Option R}(h:after V s o.dst ([],.und) k=some r){a:Act}{w:World}(hs:SatS V C acts s a w){next:Act->World->Prop}
  (hk:∀s2 v0 w',k s2=some r->SatS V C acts s2 (a.put o.dst v0) w'->next (a.put o.dst v0) w'):next (a.put o.dst undef) w:=by
 obtain⟨hd,hn,hkn,hgb,A,ro,S,hl,hw,hev,hsl,hst⟩:=hs;unfold after at h;split at h
 .rename_i s2 hset;exact hk s2 undef w h (zrd (B:=[]) (e:=([],.und)) hset (λp hp=>by simp at hp) hd hn hkn hgb (by rw[w0e];exact hl) (by rw[w0e];exact hw) hev (Evo.refl _ _ _) hsl hst rfl)
 .cases h
end
end Px
end
section
namespace Px
open Go Go.RowKit
section
variable{V:TE}{N:Env V}{R:Type}{r:R}{C:Cx N.P}
theorem zu7[Dr]{acts:List GA}{k:SS V.T->Option R}: ∀{es:List (Nat×Bool)}{s:SS V.T}{kn:Ch},zye V s k es kn=some r->(∀p∈es,(lk s.gb p.1).isSome=true)->∀{a:Act}{w:World},SatS V C acts { s with kn:=kn } a w->
  ∃s',k s'=some r/\SatS V C acts s' a w/\s'.gb=s.gb
 | [],s,kn,h,_,a,w,hs=>⟨_,h,hs,rfl⟩
 |(t,wt)::es,s,kn,h,he,a,w,hs=>by
  simp only[zye] at h;have hone:=he _ (w0m ..);obtain⟨hd,hn,hkn,hgb,hrest⟩:=hs;have mk:∀b,(lk s.gb t).getD false=b->SatS V C acts { s with kn:=(t,b)::kn } a w:=by
   intro b hb;refine⟨hd,hn,?_,⟨hgb.val,hgb.ch,?_⟩,hrest⟩
   .rw[z7m] at hkn⊢;intro p hp;rcases w0c.1 hp with rfl|hp
    .exact hb
    .exact hkn p hp
   .intro p hp;rcases w0c.1 hp with rfl|hp
    .exact hone
    .exact hgb.kn p hp
  split at h
  .rename_i hg;exact zu7 h (λp hp=>he p (w09 _ hp)) (mk wt hg)
  .rename_i hg;refine⟨_,h,mk (!wt) ?_,rfl⟩;cases hx :(lk s.gb t).getD false<;>cases wt<;>simp_all
theorem opK{α:Type}{l:List α}{i:Nat}{o:α}{os:List α}(h:o::os=l.drop i):l[i]? = some o/\os=l.drop (i+1):=by
 have h1 :(l.drop i)[0]? = some o:=by rw[<- h];rfl
 refine⟨by simpa using h1,?_⟩;have :(l.drop i).drop 1=os:=by rw[<- h];rfl
 rw[w3h] at this;exact this.symm
def zrv[Dr](Γ:List (Option (Nat×Nat)))(C:Cx N.P)(r:R)(inl:Nat->Inl V R)(ops:Array Oper)(full:Nat->Inl V R)(K:KX V R):Prop:=(∀i f fn c,N.P.funcs[f]? = some fn->fn.body=some c->zjt (none::Γ) C r (inl i f) c (inlK V N fn (zzk V N full ops i K)))/\∀i,YOK Γ C r (inl i) (zzk V N full ops i K)
theorem zn5[Dr](hN:z5f V N){Γ:List (Option (Nat×Nat))}{rd:Option Nat}{acts:List GA}(hΓ:acts.map GA.lpI=Γ){inl:Nat->Inl V R}{ops:Array Oper}{K:KX V R}{Q:Exit->Act->World->Prop}
  (hinl:zrv Γ C r inl ops inl K)
  (hK:∀s a w,K .normal s=some r->SatS V C acts s a w->Q .normal a w):∀(os:List Oper)(i:Nat)(s:SS V.T)(a:Act)(w:World),os=ops.toList.drop i->
  z7b V N inl ops.toList i os s (λs=>K .normal s)=some r->SatS V C acts s a w->wpOpsIn (fz rd) 0 N.P ops Q (List.range' i os.length) a w
 | [],i,s,a,w,_,h,hs=>by simp only[z7b] at h;exact hK s a w h hs
 |o::os,i,s,a,w,hos,h,hs=>by
  obtain⟨hoi,hos'⟩:=opK hos;have ho:ops[i]? = some o:=by simpa using hoi
  have ih:=zn5 (rd:=rd) hN hΓ hinl hK os (i+1);have hk:∀s2 v0 w',z7b V N inl ops.toList (i+1) os s2 (λs=>K .normal s)=some r->SatS V C acts s2 (a.put o.dst v0) w'->wpOpsIn (fz rd) 0 N.P ops Q (List.range' (i+1) os.length) (a.put o.dst v0) w':=λs2 v0 w' h hs=>ih s2 _ w' hos' h hs
  have hrest :(λv s=>after V s o.dst ([],v) λs=>z7b V N inl ops.toList (i+1) os s (λs=>K .normal s))=zzk V N inl ops i K:=by funext v s;simp only[zzk,ho,<- hos']
  have loudH:∀s,zz9 V N (inl i) o s (λs=>z7b V N inl ops.toList (i+1) os s (λs=>K .normal s))=some r->SatS V C acts s a w->o.wpIn (fz rd) 0 N.P a w (wpOpsIn (fz rd) 0 N.P ops Q (List.range' (i+1) os.length)) Q:=by
   intro s h hs;refine y73 hN hΓ h (λf fn c hf hb=>?_) ?_ hs hk
   .rw[hrest];exact hinl.1 i f fn c hf hb
   .rw[hrest];exact hinl.2 i
  simp only[w1b,w4j,wpOpsIn,ho];simp only[z7b] at h;cases hg:o.guard with
  |none=>
   rw[hg] at h;simp only at h;simp only[Region.wanted,hg,if_true];cases hlo:zm7 V N s [] o.op with
   |true=>rw[hlo] at h;exact loudH s h hs
   |false=>rw[hlo] at h;exact(zh1 hN h (λp hp=>by simp at hp) hs hk).1 trivial
  |some g=>
   rw[hg] at h;simp only at h;simp only[Region.wanted,hg];cases hgo:zee V ops.toList s g with
   |none=>rw[hgo] at h;cases h
   |some q=>
    obtain⟨x,s1⟩:=q;rw[hgo] at h;obtain⟨hs1,e1,e2,hx⟩:=zz2 hgo hs;cases x with
    |none=>
     simp only at h hx;have :(yielded ops a.tmps g.1==some g.2)=false:=by rw[hx];rfl
     rw[this];simp only[w0t,if_false];exact⟨λ_ _=>trivial,zwc h hs1 hk⟩
    |some ch=>
     simp only at h hx;obtain⟨hx1,hx2,hx3⟩:=hx;have hkn:=hs1.2.2.1
     -- the operation runs if its guards hold
     have done:∀(p:Prop),(p↔chP s1.gb ch)->(p->o.wpIn (fz rd) 0 N.P a w (wpOpsIn (fz rd) 0 N.P ops Q (List.range' (i+1) os.length)) Q)->(¬p->wpOpsIn (fz rd) 0 N.P ops Q (List.range' (i+1) os.length) (a.put o.dst undef) w)->
       if(yielded ops a.tmps g.1==some g.2)=true then o.wpIn (fz rd) 0 N.P a w (wpOpsIn (fz rd) 0 N.P ops Q (List.range' (i+1) os.length)) Q else(∀f,o.about N.P w a.eval=some f->True)/\wpOpsIn (fz rd) 0 N.P ops Q (List.range' (i+1) os.length) (a.put o.dst undef) w:=by
      intro p hp hy hn;by_cases hc:chP s1.gb ch
      .rw[hx2 hc];simp only[BEq.rfl,if_true];exact hy (hp.2 hc)
      .have :(yielded ops a.tmps g.1==some g.2)=false:=by
        cases hb :(yielded ops a.tmps g.1==some g.2) with
        |false=>rfl
        |true=>exact absurd (by simpa using hb) (hx3 hc)
       rw[this];simp only[w0t,if_false];exact⟨λ_ _=>trivial,hn (λh=>hc (hp.1 h))⟩
     obtain⟨hr1,hr2⟩:=zii hkn (ch:=ch);cases hrs:resolve s1.kn ch with
     |none=>rw[hrs] at h;simp only at h;exact done False ⟨False.elim,hr2 hrs⟩ False.elim λ_=>zwc h hs1 hk
     |some cur=>
      obtain⟨hc1,hc2⟩:=hr1 cur hrs;rw[hrs] at h;cases cur with
      |nil=>
       simp only at h;refine done True ⟨λ_=>hc1.2 trivial,λ_=>trivial⟩ (λ_=>?_) (λh=>absurd trivial h);cases hlo:zm7 V N s1 [] o.op with
       |true=>rw[hlo] at h;exact loudH s1 h hs1
       |false=>rw[hlo] at h;exact(zh1 hN h (λp hp=>by simp at hp) hs1 hk).1 trivial
      |cons c0 cur=>
       simp only at h;cases hlo:zm7 V N s1 (c0::cur) o.op with
       |true=>
        rw[hlo] at h;simp only[cond_true] at h;obtain⟨s',hk',hs',hgb'⟩:=zu7 h (λp hp=>hx1 p (hc2 p (List.mem_reverse.1 hp))) hs1;obtain⟨hq1,hq2⟩:=zii hs'.2.2.1 (ch:=ch);rw[hgb'] at hq1 hq2;split at hk'
        .rename_i hre;exact done True ⟨λ_=>(hq1 [] hre).1.2 trivial,λ_=>trivial⟩ (λ_=>loudH s' hk' hs') (λh=>absurd trivial h)
        .rename_i hre;exact done False ⟨False.elim,hq2 hre⟩ False.elim λ_=>zwc hk' hs' hk
        .cases hk'
       |false=>rw[hlo] at h;simp only[cond_false] at h;obtain⟨g1,g2⟩:=zh1 hN h (λp hp=>hx1 p (hc2 p hp)) hs1 hk;exact done _ hc1.symm g1 g2
end
end Px
end
section
namespace Px
open Go Go.RowKit
section
variable{V:TE}{P:Program}
def HB(A A':Asg)(b:Bd):Prop:=∀(j i:Nat)(p:Nat×Value),lk b j=some i->A[i]? = some p->A'[j]? = some p
theorem y2d{b:Bd}{j i:Nat}(h:isO b j i=true):lk b j=some i:=by
 unfold isO at h;split at h
 .rename_i i' hi;rw[hi,w01 h]
 .cases h
theorem ycb[Dr]{A A':Asg}{b:Bd}(hb:HB A A' b){j i:Nat}(h:lk b j=some i):Ent ((SV.own i:SV V.T).den V P A) ((SV.own j:SV V.T).den V P A'):=by
 simp only[SV.den];cases ha:A[i]? with
 |none=>exact λ_ _ _ hv=>hv.elim
 |some p=>rw[hb j i p h ha];exact Ent.refl
theorem yci[Dr]{A A':Asg}{b:Bd}(hb:HB A A' b){j i o:Nat}(h:lk b j=some i):Ent ((SV.ptr i o:SV V.T).den V P A) ((SV.ptr j o:SV V.T).den V P A'):=by
 simp only[SV.den];cases ha:A[i]? with
 |none=>exact λ_ _ _ hv=>hv.elim
 |some p=>rw[hb j i p h ha];exact Ent.refl
def zxl{T:Nat->Type}: SV T->Bool
 | .arr ..=>true
 |_=>false
theorem y0v[Dr]{A:Asg}{x:SV V.T}(h:zxl x=false):denL V P A [x] = [x.den V P A]:=by cases x<;>simp[zxl] at h<;>rfl
theorem zk{α:Type}{z:α}{p:Prop}(h :(none:Option α)=some z):p:=by cases h
mutual
theorem y0s[Dr]{A A':Asg}{b:Bd}(hb:HB A A' b){r:Type}: ∀(l:LC)(x:SV V.T)(z0:r)(z:LC.Z V.T l r),deV V b l x z0=some z->(enV V l z).2=z0/\Ent (x.den V P A) ((enV V l z).1.den V P A')/\((∀c,l≠.val c)->zxl x=false/\zxl (enV V l z).1=false)
 | .val c,x,z0,z,h=>by
  change (match V.dec (rdSl []) c x with|some y=>some (y,z0)|none=>none)=some z at h;split at h
  .rename_i y hy;have e:=w0f h;subst e;refine⟨rfl,?_,λhn=>absurd rfl (hn c)⟩;show Ent (x.den V P A) ((V.encV c y).den V P A');rw[z43];exact z6h V P hy
  .exact zk h
 | .cmp c,x,z0,z,h=>by
  cases x with
  |cmp c' f=>
   change (if h:c'=c then some (h ▸ f,z0) else none)=some z at h;split at h
   .rename_i e;subst e;have e:=w0f h;subst e;exact⟨rfl,Ent.refl,λ_=>⟨rfl,rfl⟩⟩
   .exact zk h
  |_=>exact zk h
 | .agg ls,x,z0,z,h=>by
  cases x with
  |agg cs=>obtain⟨h1,h2⟩:=zx0 hb ls cs z0 z h;exact⟨h1,Ent.agg h2.ents,λ_=>⟨rfl,rfl⟩⟩
  |_=>exact zk h
 | .func f ls,x,z0,z,h=>by
  cases x with
  |func g cs=>
   change (bif Nat.beq f g then deW V b ls cs z0 else none)=some z at h;cases hfg:Nat.beq f g with
   |false=>rw[hfg] at h;exact zk h
   |true=>rw[hfg] at h;have:=w01 hfg;subst this;obtain⟨h1,h2⟩:=y96 hb ls cs z0 z h;exact⟨h1,y1l h2,λ_=>⟨rfl,rfl⟩⟩
  |_=>exact zk h
 | .own j,x,z0,z,h=>by
  cases x with
  |own i=>
   change (bif isO b j i then some z0 else none)=some z at h;cases hi:isO b j i with
   |false=>rw[hi] at h;exact zk h
   |true=>rw[hi] at h;have e:=w0f h;subst e;exact⟨rfl,ycb hb (y2d hi),λ_=>⟨rfl,rfl⟩⟩
  |_=>exact zk h
 | .ptr j o,x,z0,z,h=>by
  cases x with
  |ptr i o'=>
   change (bif isO b j i&&Nat.beq o o' then some z0 else none)=some z at h;cases hi :(isO b j i&&Nat.beq o o') with
   |false=>rw[hi] at h;exact zk h
   |true=>rw[hi] at h;have hi':=(w02 _ _ ▸ hi:isO b j i=true/\Nat.beq o o'=true);have:=w01 hi'.2;subst this;have e:=w0f h;subst e;exact⟨rfl,yci hb (y2d hi'.1),λ_=>⟨rfl,rfl⟩⟩
  |_=>exact zk h
 | .nil,x,z0,z,h=>by
  cases x with
  |val v=>
   have h':v = .slice none 0 0/\some z0=some z:=by
    cases v with
    |slice p l c=>
     cases p with
     |none=>
      cases l with
      |zero=>cases c with
       |zero=>exact⟨rfl,h⟩
       |succ c=>exact zk h
      |succ l=>exact zk h
     |some p=>exact zk h
    |_=>exact zk h
   obtain⟨rfl,h⟩:=h';have e:=w0f h;subst e;exact⟨rfl,Ent.refl,λ_=>⟨rfl,rfl⟩⟩
  |_=>exact zk h
 | .raw v,x,z0,z,h=>by
  cases x with
  |val u=>
   change (bif beqZ u v then some z0 else none)=some z at h;cases hb:beqZ u v with
   |false=>rw[hb] at h;exact zk h
   |true=>rw[hb] at h;have e:=w0f h;subst e;obtain⟨rfl,_⟩:=zl7 hb;exact⟨rfl,Ent.refl,λ_=>⟨rfl,rfl⟩⟩
  |_=>exact zk h
 | .rop c,x,z0,z,h=>by
  cases x with
  |rop cs=>
   have h :(match decN V (rdSl []) (c+1) c cs with
    |some (y,[])=>some (y,z0)
    |_=>none)=some z:=h
   split at h
   .rename_i y hy;have e:=w0f h;subst e;obtain⟨pre,e1,e2⟩:=zpw (P:=P) (A:=A) (R:=Ent) (zmz []) (λ_ _ _ _ _=>zik) (λ_=>Ent.refl) (λ_ _ _ h=>zr3 h) _ _ _ _ _ hy;refine⟨rfl,?_,λ_=>⟨rfl,rfl⟩⟩;show Ent ((SV.rop cs:SV V.T).den V P A) ((SV.rop (V.enc c y):SV V.T).den V P A');rw[w0e] at e1;subst e1;simp only[SV.den,z1m];exact y48 e2
   .exact zk h
  |_=>exact zk h
 | .rom kc vc,x,z0,z,h=>by
  cases x with
  |rop cs=>
   cases cs with
   |nil=>exact zk h
   |cons y ys=>
    cases y with
    |rom kc' vc' m=>
     cases ys with
     |nil=>
      change (if h:kc'=kc then(if h2:vc'=vc then some (h ▸ h2 ▸ m,z0) else none) else none)=some z at h;split at h
      .rename_i e1;split at h
       .rename_i e2;subst e1 e2;have e:=w0f h;subst e;exact⟨rfl,Ent.refl,λ_=>⟨rfl,rfl⟩⟩
       .exact zk h
      .exact zk h
     |cons _ _=>exact zk h
    |_=>exact zk h
  |_=>exact zk h
theorem zx0[Dr]{A A':Asg}{b:Bd}(hb:HB A A' b){r:Type}: ∀(ls:List LC)(cs:List (SV V.T))(z0:r)(z:Zl V.T ls r),deL V b ls cs z0=some z->(enL V ls z).2=z0/\F2 Ent (denL V P A cs) (denL V P A' (enL V ls z).1)
 | [],cs,z0,z,h=>by
  cases cs with
  |nil=>have e:=w0f (show some z0 =(some z:Option r) from h);exact⟨e.symm,trivial⟩
  |cons x cs=>exact zk h
 |l::ls,cs,z0,z,h=>by
  by_cases hv:∃c,l = .val c
  .obtain⟨c,rfl⟩:=hv;have h :(match decN V (rdSl []) (c+1) c cs with
    |some (y,cs)=>match deL V b ls cs z0 with
     |some z=>some (y,z)
     |none=>none
    |none=>none)=some z:=h
   split at h
   .rename_i y cs' hy;split at h
    .rename_i z' hz;have e:=w0f h;subst e;obtain⟨pre,e1,e2⟩:=zpw (P:=P) (A:=A) (R:=Ent) (zmz []) (λ_ _ _ _ _=>zik) (λ_=>Ent.refl) (λ_ _ _ h=>zr3 h) _ _ _ _ _ hy;obtain⟨h1,h2⟩:=zx0 hb ls cs' z0 z' hz;refine⟨h1,?_⟩;show F2 Ent _ (denL V P A' (V.enc c y++(enL V ls z').1));rw[e1,z1q,z1q,z1m];exact e2.append h2
    .exact zk h
   .exact zk h
  .have hv':∀c,l≠.val c:=λc e=>hv ⟨c,e⟩
   cases cs with
   |nil=>cases l<;>first|exact zk h|exact absurd rfl (hv' _)
   |cons x cs=>
    have h' :(match deL V b ls cs z0 with|some z=>deV V b l x z|none=>none)=some z:=by cases l<;>first|exact h|exact absurd rfl (hv' _)
    split at h'
    .rename_i z' hz;obtain⟨h1,h2⟩:=zx0 hb ls cs z0 z' hz;obtain⟨h3,h4,h5⟩:=y0s hb l x z' z h';have he:enL V (l::ls) z =((enV V l z).1::(enL V ls (enV V l z).2).1,(enL V ls (enV V l z).2).2):=by cases l<;>first|rfl|exact absurd rfl (hv' _)
     rw[he];simp only[h3];refine⟨h1,?_⟩;rw[z3d,z3d V P (enV V l z).1];rw[y0v (h5 hv').1,y0v (h5 hv').2];exact⟨h4,h2⟩
    .exact zk h'
theorem y96[Dr]{A A':Asg}{b:Bd}(hb:HB A A' b){r:Type}: ∀(ls:List LC)(cs:List (SV V.T))(z0:r)(z:Zl V.T ls r),deW V b ls cs z0=some z->(enW V ls z).2=z0/\F2 Ent (denV V P A cs) (denV V P A' (enW V ls z).1)
 | [],cs,z0,z,h=>by
  cases cs with
  |nil=>have e:=w0f (show some z0 =(some z:Option r) from h);exact⟨e.symm,trivial⟩
  |cons x cs=>exact zk h
 |l::ls,cs,z0,z,h=>by
  cases cs with
  |nil=>exact zk h
  |cons x cs=>
   change (match deW V b ls cs z0 with|some z=>deV V b l x z|none=>none)=some z at h;split at h
   .rename_i z' hz;obtain⟨h1,h2⟩:=y96 hb ls cs z0 z' hz;obtain⟨h3,h4,_⟩:=y0s hb l x z' z h;show (enW V ls (enV V l z).2).2=z0/\F2 Ent _ (denV V P A' ((enV V l z).1::(enW V ls (enV V l z).2).1));rw[h3];exact⟨h1,h4,h2⟩
   .exact zk h
end
theorem y95[Dr]{A A':Asg}{b:Bd}(hb:HB A A' b){r:Type}{gb:List (Nat×Bool)}{a:Act}{ro:Nat->Prop}{w:World}(sl:Sls V.T)(hs:zj (slD V P A gb sl) a ro w):
  ∀(ls:List (Nat×LC))(z0:r)(z:Zs V.T ls r),deS V b sl ls z0=some z->(enS V ls z).2=z0/\zj (slD V P A' [] (enS V ls z).1) a ro w
 | [],z0,z,h=>by have e:=w0f (show some z0 =(some z:Option r) from h);exact⟨e.symm,λt X hX=>by cases hX⟩
 |(t,l)::ls,z0,z,h=>by
  change (match lk sl t,deS V b sl ls z0 with
   |some ([],x),some z=>deV V b l x z
   |_,_=>none)=some z at h
  cases hx:lk sl t with
  |none=>rw[hx] at h;exact zk h
  |some e=>
   obtain⟨ch,x⟩:=e;rw[hx] at h;cases ch with
   |cons c ch=>exact zk h
   |nil=>
    cases hz:deS V b sl ls z0 with
    |none=>rw[hz] at h;exact zk h
    |some z'=>
     rw[hz] at h;change deV V b l x z'=some z at h;obtain⟨h1,h2⟩:=y95 hb sl hs ls z0 z' hz;obtain⟨h3,h4,_⟩:=y0s (P:=P) hb l x z' z h;refine⟨by show (enS V ls (enV V l z).2).2=z0;rw[h3];exact h1,?_⟩;show zj (slD V P A' [] ((t,[],(enV V l z).1)::(enS V ls (enV V l z).2).1)) a ro w;rw[h3];intro u X hX;simp only[slD] at hX;rw[z0c] at hX;by_cases e:u=t
     .subst e;rw[if_pos rfl] at hX;simp only[w0r,w00] at hX;subst hX;exact h4 _ _ _ (hs u _ (by simp only[slD,hx,w0r];rfl))
     .rw[if_neg e] at hX;exact h2 u X hX
theorem y97{r:Type}: ∀(ls:List (Nat×LC))(z:Zs V.T ls r)(t:Nat)(ch:Ch)(x:SV V.T),lk (enS V ls z).1 t=some (ch,x)->ch = []
 | [],z,t,ch,x,h=>by cases h
 |(u,l)::ls,z,t,ch,x,h=>by
  change lk ((u,[],(enV V l z).1)::(enS V ls (enV V l z).2).1) t=some (ch,x) at h;rw[z0c] at h;by_cases e:t=u
  .rw[if_pos e] at h;cases h;rfl
  .rw[if_neg e] at h;exact y97 ls _ t ch x h
theorem yde{r:Type}(ls:List (Nat×LC))(z:Zs V.T ls r)(n:Nat):GbOK (⟨(enS V ls z).1,[],[],n⟩:Fm V.T) where
 val:=λt g h=>by cases h
 ch:=λt ch x h p hp=>by have:=y97 ls z t ch x h;subst this;cases hp
 kn:=λp hp=>by cases hp
theorem y94[Dr]{A A':Asg}{b:Bd}(hb:HB A A' b){r:Type}{ro:Nat->Prop}{w:World}:
  ∀(ls:List (Nat×List (Nat×LC)))(fs:List (Fm V.T))(as:List GA)(z0:r)(z:Zf V.T ls r),Stk V P A ro w fs as->deF V b ls fs z0=some z->(enF V ls z).2=z0/\Stk V P A' ro w (enF V ls z).1 as
 | [],fs,as,z0,z,hs,h=>by
  cases fs with
  |nil=>
   have e:=w0f (show some z0 =(some z:Option r) from h);refine⟨e.symm,?_⟩;cases as with
   |nil=>trivial
   |cons a as=>exact hs.elim
  |cons f fs=>exact zk h
 |(n,l)::ls,fs,as,z0,z,hs,h=>by
  cases fs with
  |nil=>exact zk h
  |cons f fs=>
   cases as with
   |nil=>exact hs.elim
   |cons a as=>
    change (match deF V b ls fs z0 with
     |some z=>bif Nat.beq n f.n then deS V b f.sl l z else none
     |none=>none)=some z at h
    split at h
    .rename_i z' hz;cases hn:Nat.beq n f.n with
     |false=>rw[hn] at h;exact zk h
     |true=>rw[hn] at h;have hn':=w01 hn;obtain⟨h1,h2⟩:=y94 hb ls fs as z0 z' hs.2 hz;obtain⟨h3,h4⟩:=y95 hb f.sl hs.1.1 l z' z h;show (enF V ls (enS V l z).2).2=z0/\Stk V P A' ro w (⟨(enS V l z).1,[],[],n⟩::(enF V ls (enS V l z).2).1) (a::as);rw[h3];exact⟨h1,⟨h4,trivial,yde l z n,hs.1.2.2.2.1,by rw[hs.1.2.2.2.2,hn']⟩,h2⟩
    .exact zk h
theorem zge[Dr]{A A':Asg}{b:Bd}(hb:HB A A' b)(ob:List (SO V.T))(hl:A.length=ob.length):∀(os:List OC)(j:Nat)(is:List Nat)(z:Zo V.T os),bound b os.length j=some is->deO V b ob j os=some z->
  zfp (obD V P A A ob) is (obD V P A' (is.map λi=>A.getD i default) (enO V os z))
 | [],j,is,z,hi,h=>by have e:=w0f (show some []=some is from hi);subst e;trivial
 | .box t ls::os,j,is,z,hi,h=>by
  change (match lk b j,bound b os.length (j+1) with
   |some i,some l=>some (i::l)
   |_,_=>none)=some is at hi
  split at hi
  .rename_i i l hj hl';have e:=w0f hi;subst e;change (match (lk b j).bind λi=>ob[i]?,deO V b ob (j+1) os with
    |some (.box t' cs),some z=>bif Nat.beq t t' then deL V b ls cs z else none
    |_,_=>none)=some z at h
   rw[hj] at h;split at h
   .rename_i t' cs z' ho hz;simp only[w03] at ho;cases ht:Nat.beq t t' with
    |false=>rw[ht] at h;exact zk h
    |true=>
     rw[ht] at h;have:=w01 ht;subst this;obtain⟨h1,h2⟩:=zx0 (P:=P) hb ls cs z' z h;have hlt:i<A.length:=by rw[hl];exact(w04.1 ho).1
     have ha:A[i]? = some (A.getD i default):=by simp[List.getD,w0a hlt]
     refine⟨⟨_,zt V P ha ho,?_⟩,?_⟩
     .exact λS r w ⟨hS,cur,hc,hh⟩=>⟨hS,cur,hc,zhm h2 hh⟩
     .show zfp _ l (obD V P A' (l.map λi=>A.getD i default) (enO V os (enL V ls z).2));rw[h1];exact zge hb ob hl os (j+1) l z' hl' hz
   .exact zk h
  .exact zk hi
 | .row E c::os,j,is,z,hi,h=>by
  change (match lk b j,bound b os.length (j+1) with
   |some i,some l=>some (i::l)
   |_,_=>none)=some is at hi
  split at hi
  .rename_i i l hj hl';have e:=w0f hi;subst e;change (match (lk b j).bind λi=>ob[i]?,deO V b ob (j+1) os with
    |some (.row E' c' l),some z=>bif Nat.beq E E' then(if h:c'=c then some (h ▸ l,z) else none) else none
    |_,_=>none)=some z at h
   rw[hj] at h;split at h
   .rename_i E' c' y z' ho hz;simp only[w03] at ho;cases ht:Nat.beq E E' with
    |false=>rw[ht] at h;exact zk h
    |true=>
     rw[ht] at h;have:=w01 ht;subst this;change (if h:c'=c then some (h ▸ y,z') else none)=some z at h;split at h
     .rename_i e;subst e;have e:=w0f h;subst e;have hlt:i<A.length:=by rw[hl];exact(w04.1 ho).1
      have ha:A[i]? = some (A.getD i default):=by simp[List.getD,w0a hlt]
      exact⟨⟨_,zt V P ha ho,EntH.refl⟩,zge hb ob hl os (j+1) l z' hl' hz⟩
     .exact zk h
   .exact zk h
  .exact zk hi
 | .emp::os,j,is,z,hi,h=>by
  change (match lk b j,bound b os.length (j+1) with
   |some i,some l=>some (i::l)
   |_,_=>none)=some is at hi
  split at hi
  .rename_i i l hj hl';have e:=w0f hi;subst e;change (match (lk b j).bind λi=>ob[i]?,deO V b ob (j+1) os with
    |some .emp,some z=>some z
    |_,_=>none)=some z at h
   rw[hj] at h;split at h
   .rename_i z' ho hz;simp only[w03] at ho;have e:=w0f h;subst e;have hlt:i<A.length:=by rw[hl];exact(w04.1 ho).1
    have ha:A[i]? = some (A.getD i default):=by simp[List.getD,w0a hlt]
    exact⟨⟨_,zt V P ha ho,EntH.refl⟩,zge hb ob hl os (j+1) l z' hl' hz⟩
   .exact zk h
  .exact zk hi
 | .fix E c::os,j,is,z,hi,h=>by
  change (match lk b j,bound b os.length (j+1) with
   |some i,some l=>some (i::l)
   |_,_=>none)=some is at hi
  split at hi
  .rename_i i l hj hl';have e:=w0f hi;subst e;change (match (lk b j).bind λi=>ob[i]?,deO V b ob (j+1) os with
    |some (.x (.fix E' c' l)),some z=>bif Nat.beq E E' then(if h:c'=c then some (h ▸ l,z) else none) else none
    |_,_=>none)=some z at h
   rw[hj] at h;split at h
   .rename_i E' c' y z' ho hz;simp only[w03] at ho;cases ht:Nat.beq E E' with
    |false=>rw[ht] at h;exact zk h
    |true=>
     rw[ht] at h;have:=w01 ht;subst this;change (if h:c'=c then some (h ▸ y,z') else none)=some z at h;split at h
     .rename_i e;subst e;have e:=w0f h;subst e;have hlt:i<A.length:=by rw[hl];exact(w04.1 ho).1
      have ha:A[i]? = some (A.getD i default):=by simp[List.getD,w0a hlt]
      exact⟨⟨_,zt V P ha ho,EntH.refl⟩,zge hb ob hl os (j+1) l z' hl' hz⟩
     .exact zk h
   .exact zk h
  .exact zk hi
 | .map kc vc E::os,j,is,z,hi,h=>by
  change (match lk b j,bound b os.length (j+1) with
   |some i,some l=>some (i::l)
   |_,_=>none)=some is at hi
  split at hi
  .rename_i i l hj hl';have e:=w0f hi;subst e;change (match (lk b j).bind λi=>ob[i]?,deO V b ob (j+1) os with
    |some (.x (.map kc' vc' E' m none)),some z=>bif Nat.beq E' E then(if h:kc'=kc then(if h2:vc'=vc then some (h ▸ h2 ▸ m,z) else none) else none) else none
    |_,_=>none)=some z at h
   rw[hj] at h;split at h
   .rename_i kc' vc' E' y z' ho hz;simp only[w03] at ho;cases hE:Nat.beq E' E with
    |false=>rw[hE] at h;exact zk h
    |true=>
    rw[hE] at h;have:=w01 hE;subst this;change (if h:kc'=kc then(if h2:vc'=vc then some (h ▸ h2 ▸ y,z') else none) else none)=some z at h;split at h
    .rename_i e;subst e;split at h
     .rename_i e;subst e;have e:=w0f h;subst e;have hlt:i<A.length:=by rw[hl];exact(w04.1 ho).1
      have ha:A[i]? = some (A.getD i default):=by simp[List.getD,w0a hlt]
      exact⟨⟨_,zt V P ha ho,λS r w h=>⟨⟨h.1.1,λk j e=>by cases e⟩,h.2⟩⟩,zge hb ob hl os (j+1) l z' hl' hz⟩
     .exact zk h
    .exact zk h
   .exact zk h
  .exact zk hi
 | .it kc vc::os,j,is,z,hi,h=>by
  change (match lk b j,bound b os.length (j+1) with
   |some i,some l=>some (i::l)
   |_,_=>none)=some is at hi
  split at hi
  .rename_i i l hj hl';have e:=w0f hi;subst e;change (match (lk b j).bind λi=>ob[i]?,deO V b ob (j+1) os with
    |some (.x (.it kc' vc' m _)),some z=>if h:kc'=kc then(if h2:vc'=vc then some (h ▸ h2 ▸ m,z) else none) else none
    |_,_=>none)=some z at h
   rw[hj] at h;split at h
   .rename_i kc' vc' y cc z' ho hz;simp only[w03] at ho;split at h
    .rename_i e;subst e;split at h
     .rename_i e;subst e;have e:=w0f h;subst e;have hlt:i<A.length:=by rw[hl];exact(w04.1 ho).1
      have ha:A[i]? = some (A.getD i default):=by simp[List.getD,w0a hlt]
      exact⟨⟨_,zt V P ha ho,λS r w h=>⟨h.1,ybl h.2⟩⟩,zge hb ob hl os (j+1) l z' hl' hz⟩
     .exact zk h
    .exact zk h
   .exact zk h
  .exact zk hi
 | .nst E E2 c none::os,j,is,z,hi,h=>by
  change (match lk b j,bound b os.length (j+1) with
   |some i,some l=>some (i::l)
   |_,_=>none)=some is at hi
  split at hi
  .rename_i i l hj hl';have e:=w0f hi;subst e;change (match (lk b j).bind λi=>ob[i]?,deO V b ob (j+1) os with
    |some (.x (.nst E' E2' c' l none)),some z=>bif Nat.beq E E'&&Nat.beq E2 E2' then(if h:c'=c then some (h ▸ l,z) else none) else none
    |_,_=>none)=some z at h
   rw[hj] at h;split at h
   .rename_i E' E2' c' y z' ho hz;simp only[w03] at ho;cases ht :(Nat.beq E E'&&Nat.beq E2 E2') with
    |false=>rw[ht] at h;exact zk h
    |true=>
     rw[ht] at h;simp only[w02] at ht;have e1:=w01 ht.1;have e2:=w01 ht.2;subst e1;subst e2;change (if h:c'=c then some (h ▸ y,z') else none)=some z at h;split at h
     .rename_i e;subst e;have e:=w0f h;subst e;have hlt:i<A.length:=by rw[hl];exact(w04.1 ho).1
      have ha:A[i]? = some (A.getD i default):=by simp[List.getD,w0a hlt]
      refine⟨⟨_,zt V P ha ho,?_⟩,zge hb ob hl os (j+1) l z' hl' hz⟩;exact λS r w h=>⟨⟨h.1.1,λk j e=>by cases e⟩,h.2⟩
     .exact zk h
   .exact zk h
  .exact zk hi
 | .nst E E2 c (some q)::os,j,is,z,hi,h=>by
  change (match lk b j,bound b os.length (j+1) with
   |some i,some l=>some (i::l)
   |_,_=>none)=some is at hi
  split at hi
  .rename_i i l hj hl';have e:=w0f hi;subst e;change (match (lk b j).bind λi=>ob[i]?,deO V b ob (j+1) os with
    |some (.x (.nst E' E2' c' l (some (k,i)))),some z=>bif Nat.beq E E'&&Nat.beq E2 E2'&&isO b q i then(if h:c'=c then some (h ▸ l,k,z) else none) else none
    |_,_=>none)=some z at h
   rw[hj] at h;split at h
   .rename_i E' E2' c' y k i2 z' ho hz;simp only[w03] at ho;cases ht :(Nat.beq E E'&&Nat.beq E2 E2'&&isO b q i2) with
    |false=>rw[ht] at h;exact zk h
    |true=>
     rw[ht] at h;simp only[w02] at ht;have e1:=w01 ht.1.1;have e2:=w01 ht.1.2;have e3:=y2d ht.2;subst e1;subst e2;change (if h:c'=c then some (h ▸ y,k,z') else none)=some z at h;split at h
     .rename_i e;subst e;have e:=w0f h;subst e;have hlt:i<A.length:=by rw[hl];exact(w04.1 ho).1
      have ha:A[i]? = some (A.getD i default):=by simp[List.getD,w0a hlt]
      refine⟨⟨_,zt V P ha ho,?_⟩,zge hb ob hl os (j+1) l z' hl' hz⟩;rintro S r w ⟨hp,hn⟩;obtain⟨p,hp2⟩:=w11.1 (hp.2 _ _ rfl);have hq:=hb q i2 p e3 hp2;refine⟨⟨hp.1,λk j e=>?_⟩,?_⟩
      .simp only[w00,w0b] at e;rw[<- e.2,hq];rfl
      .simp only[zef,hp2] at hn;simp only[zef,hq];exact hn
     .exact zk h
   .exact zk h
  .exact zk hi
theorem zws{b:Bd}: ∀{n j:Nat}{is:List Nat},bound b n j=some is->is.length=n/\∀k,k<n->lk b (j+k)=is[k]?
 |0,j,is,h=>by cases w0f (show some []=some is from h);exact⟨rfl,λk hk=>by omega⟩
 |n+1,j,is,h=>by
  change (match lk b j,bound b n (j+1) with
   |some i,some l=>some (i::l)
   |_,_=>none)=some is at h
  split at h
  .rename_i i l hj hl;cases w0f h;obtain⟨h1,h2⟩:=zws hl;refine⟨by simp[h1],λk hk=>?_⟩;cases k with
   |zero=>simpa using hj
   |succ k=>have:=h2 k (by omega);simp only[w2n];rw[<- this];congr 1;omega
  .cases h
theorem zei{α:Type}: ∀{l:List (Nat×α)}{t:Nat}{x:α},lk l t=some x->(t,x)∈l
 |(k,y)::l,t,x,h=>by
  rw[z0c] at h;by_cases e:t=k
  .subst e;rw[if_pos rfl] at h;cases h;exact w0m
  .rw[if_neg e] at h;exact w09 _ (zei h)
theorem zcn:∀(os:List OC)(z:Zo V.T os),(enO V os z).length=os.length
 | [],_=>rfl
 | .box t ls::os,z=>by show (enO V os (enL V ls z).2).length+1=os.length+1;rw[zcn os]
 | .row E c::os,z=>by show (enO V os z.2).length+1=os.length+1;rw[zcn os]
 | .fix E c::os,z=>by show (enO V os z.2).length+1=os.length+1;rw[zcn os]
 | .emp::os,z=>congrArg (· + 1) (zcn os (show Zo V.T os from z))
 | .map kc vc E::os,z=>by show (enO V os z.2).length+1=os.length+1;rw[zcn os]
 | .it kc vc::os,z=>by show (enO V os z.2).length+1=os.length+1;rw[zcn os]
 | .nst E E2 c none::os,z=>by show (enO V os z.2).length+1=os.length+1;rw[zcn os]
 | .nst E E2 c (some j)::os,z=>by show (enO V os z.2.2).length+1=os.length+1;rw[zcn os]
def Nils(B:Asg)(n m:Nat):Prop:=∀k,k<m->B[n+k]? = some (0,.slice none 0 0)
theorem z5y[Dr]{B:Asg}{os:List OC}{gb:List (Nat×Bool)}: ∀(ls:List (Nat×LC))(sl:Sls V.T)(n:Nat),Nils B n (zmq V os gb ls sl n).2.length->
  slD V P B gb (zmq V os gb ls sl n).1=slD V P B gb sl/\(∀kn m,GbOK (⟨sl,gb,kn,m⟩:Fm V.T)->GbOK (⟨(zmq V os gb ls sl n).1,gb,kn,m⟩:Fm V.T))/\∀o∈(zmq V os gb ls sl n).2,∃E c,o = .row E c []
 | [],sl,n,_=>⟨rfl,λ_ _ h=>h,λo ho=>by simp[zmq] at ho⟩
 |(t,.own j)::ls,sl,n,h=>by
  simp only[zmq] at h⊢;split at h
  .rename_i E c h1 h2 h3;simp only[h1,h2,h3];have hB:B[n]? = some (0,.slice none 0 0):=by have:=h 0 (by simp);simpa using this
   obtain⟨k1,k2,k3⟩:=z5y ls ((t,[],.own n)::sl) (n+1) (λk hk=>by have:=h (k+1) (by simpa using hk);rw[<- this];congr 1;omega);refine⟨?_,λkn m hg=>k2 kn m ⟨?_,?_,hg.kn⟩,?_⟩
   .rw[k1];funext u;simp only[slD,z0c];by_cases e:u=t
    .subst e;rw[if_pos rfl,h1];simp[denE,SV.den,hB]
    .rw[if_neg e]
   .intro u g hu ch z hz;simp only[z0c] at hz;by_cases e:u=t
    .subst e;simp only at hu;rw[h3] at hu;cases hu
    .rw[if_neg e] at hz;exact hg.val u g hu ch z hz
   .intro u ch z hz;simp only[z0c] at hz;by_cases e:u=t
    .rw[if_pos e] at hz;simp only[w00,w0b] at hz;rw[<- hz.1];intro p hp;cases hp
    .rw[if_neg e] at hz;exact hg.ch u ch z hz
   .intro o ho;simp only[w0c] at ho;rcases ho with rfl|ho
    .exact⟨E,c,rfl⟩
    .exact k3 o ho
  .exact z5y ls sl n h
 |(t,.val c)::ls,sl,n,h=>z5y ls sl n h
 |(t,.ptr a b)::ls,sl,n,h=>z5y ls sl n h
 |(t,.agg a)::ls,sl,n,h=>z5y ls sl n h
 |(t,.func a b)::ls,sl,n,h=>z5y ls sl n h
 |(t,.cmp a)::ls,sl,n,h=>z5y ls sl n h
 |(t,.nil)::ls,sl,n,h=>z5y ls sl n h
 |(t,.raw a)::ls,sl,n,h=>z5y ls sl n h
 |(t,.rop a)::ls,sl,n,h=>z5y ls sl n h
 |(t,.rom a b)::ls,sl,n,h=>z5y ls sl n h
theorem Nils.left{B:Asg}{n a b:Nat}(h:Nils B n (a+b)):Nils B n a:=λk hk=>h k (by omega)
theorem Nils.right{B:Asg}{n a b:Nat}(h:Nils B n (a+b)):Nils B (n+a) b:=λk hk=>by have:=h (a+k) (by omega);rw[<- this];congr 1;omega
theorem zqv[Dr]{B:Asg}{os:List OC}{ro:Nat->Prop}{w:World}: ∀(ls:List (Nat×List (Nat×LC)))(fs:List (Fm V.T))(as:List GA)(n:Nat),Nils B n (zkd V os ls fs n).2.length->
  (Stk V P B ro w fs as->Stk V P B ro w (zkd V os ls fs n).1 as)/\∀o∈(zkd V os ls fs n).2,∃E c,o = .row E c []
 | [],fs,as,n,_=>⟨λh=>by simpa only[zkd] using h,λo ho=>by simp[zkd] at ho⟩
 |(_,l)::ls,[],as,n,_=>⟨λh=>by simpa only[zkd] using h,λo ho=>by simp[zkd] at ho⟩
 |(_,l)::ls,f::fs,as,n,h=>by
  simp only[zkd,w0i] at h⊢;obtain⟨k1,k2,k3⟩:=z5y (P:=P) (os:=os) (gb:=f.gb) l f.sl n h.left;cases as with
  |nil=>obtain⟨m1,m2⟩:=zqv (ro:=ro) (w:=w) ls fs [] _ h.right;exact⟨λq=>q.elim,λo ho=>(w0k.1 ho).elim (k3 o) (m2 o)⟩
  |cons a as=>obtain⟨m1,m2⟩:=zqv (ro:=ro) (w:=w) ls fs as _ h.right;refine⟨λq=>⟨⟨?_,q.1.2.1,k2 _ _ q.1.2.2.1,q.1.2.2.2⟩,m1 q.2⟩,λo ho=>(w0k.1 ho).elim (k3 o) (m2 o)⟩;show zj (slD V P B f.gb (zmq V os f.gb l f.sl n).1) a.tm ro w;rw[k1];exact q.1.1
theorem ybv[Dr]{B:Asg}{os:List OC}: ∀(ls:List LC)(cs:List (SV V.T))(n:Nat),Nils B n (nilL V os ls cs n).2.length->
  denL V P B (nilL V os ls cs n).1=denL V P B cs/\∀o∈(nilL V os ls cs n).2,∃E c,o = .row E c []:=by
 intro ls cs n
 fun_induction nilL V os ls cs n with
 |case1 c ls cs n a r hr ha r' m hm ih=>intro h;simp only[hm] at ih;obtain⟨k1,k2⟩:=ih h;refine⟨?_,k2⟩;rw[z1q,k1,(zgd V P cs _ a ha).1,(zb1 V P cs _ r hr).1,w25]
 |case2=>intro h;exact⟨rfl,λo ho=>by cases ho⟩
 |case3 j ls cs n E c hj r m hm ih=>
  intro h;simp only[hm] at ih;obtain⟨k1,k2⟩:=ih λk hk=>by have:=h (k+1) (by simpa using hk);rw[<- this];congr 1;omega
  have hB:B[n]? = some (0,.slice none 0 0):=by have:=h 0 (by simp);simpa using this
  refine⟨?_,λo ho=>?_⟩
  .simp only[denL,k1,SV.den,hB]
  .simp only[w0c] at ho;rcases ho with rfl|ho
   .exact⟨E,c,rfl⟩
   .exact k2 o ho
 |case4=>intro h;exact⟨rfl,λo ho=>by cases ho⟩
 |case5 l ls x cs n h1 h2 r m hm ih=>intro h;simp only[hm] at ih;obtain⟨k1,k2⟩:=ih h;exact⟨by rw[z3d V P x r,z3d V P x cs,k1],k2⟩
 |case6=>intro h;exact⟨rfl,λo ho=>by cases ho⟩
theorem y0d[Dr]{w0 w:World}{base:Nat}{r:Nat->Prop}{B:Asg}: ∀(m:List (SO V.T))(objs:List HP)(S:Nat->Nat->Prop),(∀o∈m,∃E c,o = .row E c [])->WInv w0 base objs r S w->
  WInv w0 base (objs++obD V P B (List.replicate m.length (0,.slice none 0 0)) m) r S w
 | [],objs,S,_,h=>by simpa[obD] using h
 |o::m,objs,S,hm,h=>by obtain⟨E,c,rfl⟩:=hm o (w0m ..);have h1:=h.addNil (row E (V.ev c) (V.sz c) ([]:List (V.T c)) (.slice none 0 0)) (.inl ⟨rfl,rfl⟩);have h2:=y0d (B:=B) m _ S (λo ho=>hm o (w09 _ ho)) h1;rw[w0q] at h2;exact h2
theorem zuj[Dr]{A:Asg}{ob:List (SO V.T)}(hl:A.length=ob.length){w0 w:World}{base:Nat}{r:Nat->Prop}{S:Nat->Nat->Prop}{m:List (SO V.T)}(hm:∀o∈m,∃E c,o = .row E c [])(h:WInv w0 base (obD V P A A ob) r S w):
  ∃S',WInv w0 base (obD V P (A++List.replicate m.length (0,.slice none 0 0)) (A++List.replicate m.length (0,.slice none 0 0)) (ob++m)) r S' w:=by
 have h1:=y0d (P:=P) (B:=A++List.replicate m.length (0,.slice none 0 0)) m _ S hm h;exact z3q hl (B:=List.replicate m.length (0,.slice none 0 0)) (zfx _) _ _ _ _ _ h1
theorem y36{A:Asg}{n m:Nat}(hl:A.length=n):Nils (A++List.replicate m (0,.slice none 0 0)) n m:=λk hk=>by rw[w0z (by omega),hl,w3l,w30,if_pos hk]
theorem zbq[Dr]{C:Cx P}{acts:List GA}{a:Act}{w:World}{s:SS V.T}(all:List OC):∀(os:List OC)(j:Nat)(b:Bd)(ob:List (SO V.T)),SatS V C acts { s with ob:=ob } a w->SatS V C acts { s with ob:=nilB V all j os b ob } a w
 | [],j,b,ob,h=>h
 | .box t ls::os,j,b,ob,h=>by
  simp only[nilB];split
  .rename_i i hi;split
   .rename_i t cs ho;refine zbq all os _ _ _ (h.objs (ob':=ob.set i (.box t (nilL V all ls cs ob.length).1)++(nilL V all ls cs ob.length).2) λA ro S hl hw=>?_);obtain⟨k1,k2⟩:=ybv (P:=P) (os:=all) ls cs ob.length (y36 (A:=A) (m:=(nilL V all ls cs ob.length).2.length) hl);obtain⟨S',hw'⟩:=zuj (P:=P) hl k2 hw;refine⟨List.replicate (nilL V all ls cs ob.length).2.length (0,.slice none 0 0),S',by simp[hl],?_⟩;have li:=(w04.1 ho).1;obtain⟨qi,hqi⟩:∃q,A[i]? = some q:=⟨A[i],by simp[hl,li]⟩;have hq2 :(A++List.replicate (nilL V all ls cs ob.length).2.length ((0:Nat),Value.slice none 0 0))[i]? = some qi:=by rw[w0j (by simp at hl;omega)];exact hqi
    have e1:ob.set i (.box t (nilL V all ls cs ob.length).1)++(nilL V all ls cs ob.length).2 =(ob++(nilL V all ls cs ob.length).2).set i (.box t (nilL V all ls cs ob.length).1):=by rw[List.set_append_left _ _ li]
    have e2 :(ob++(nilL V all ls cs ob.length).2) =(ob++(nilL V all ls cs ob.length).2).set i (.box t cs):=by rw[List.set_append_left _ _ li];congr 1;exact(so_set_same ho).symm
    rw[e1,z4r V P _ _ i qi _ hq2];rw[e2,z4r V P _ _ i qi _ hq2] at hw';simp only[SO.den] at hw'⊢;rw[k1];exact hw'
   .exact zbq all os _ _ _ h
  .exact zbq all os _ _ _ h
 | .row _ _::os,j,b,ob,h=>zbq all os _ _ _ h
 | .fix _ _::os,j,b,ob,h=>zbq all os _ _ _ h
 | .emp::os,j,b,ob,h=>zbq all os _ _ _ h
 | .map _ _ _::os,j,b,ob,h=>zbq all os _ _ _ h
 | .it _ _::os,j,b,ob,h=>zbq all os _ _ _ h
 | .nst _ _ _ _::os,j,b,ob,h=>zbq all os _ _ _ h
 where so_set_same:∀{l:List (SO V.T)}{i:Nat}{H:SO V.T},l[i]? = some H->l.set i H=l
 |_::_,0,_,h=>by simp at h;subst h;rfl
 |_::l,i+1,_,h=>by simp only[w48];rw[so_set_same (by simpa using h)]
 | [],_,_,h=>by simp at h
theorem ybw[Dr]{C:Cx P}{acts:List GA}{s:SS V.T}{a:Act}{w:World}(h:Sh)(H:SatS V C acts s a w):SatS V C acts (nilS V h s) a w:=by
 unfold nilS;split
 .rename_i f fs m hm;obtain⟨hd,hsz,hch,hg,A,ro,S,hl,hw,he,hs,hst⟩:=H;have h0:Nils (A++List.replicate (zkd V h.ob h.fr (s.toFm::s.stk) s.ob.length).2.length (0,.slice none 0 0)) s.ob.length (zkd V h.ob h.fr (s.toFm::s.stk) s.ob.length).2.length:=y36 hl;obtain⟨k1,k2⟩:=zqv (P:=P) (ro:=ro) (w:=w) (os:=h.ob) h.fr (s.toFm::s.stk) (⟨a,none⟩::acts) s.ob.length h0;rw[hm] at k1 k2;obtain⟨S',hw'⟩:=zuj (P:=P) hl k2 hw;have hst0:Stk V P A ro w (s.toFm::s.stk) (⟨a,none⟩::acts):=⟨⟨hs,hch,hg,(λx e=>by cases e),hsz⟩,hst⟩;obtain⟨⟨q1,q2,q3,q4,q5⟩,q6⟩:=k1 (Stk.ext (AExt.app A _) (Evo.refl C.base _ _) hst0);exact zbq (s:={ f with stk:=fs,ob:=s.ob++m }) h.ob h.ob 0 _ _ ⟨trivial,q5,q2,q3,A++List.replicate m.length (0,.slice none 0 0),ro,S',by simp[hl],hw',he,q1,q6⟩
 .exact H
theorem y6o{s:SS V.T}(i:Nat):(zt4 V s i).toFm=s.toFm/\(zt4 V s i).stk=s.stk:=by
 unfold zt4 zv9;split
 .split
  .split
   .generalize V.key _=q;cases q<;>exact⟨rfl,rfl⟩
   .exact⟨rfl,rfl⟩
  .exact⟨rfl,rfl⟩
 .split
  .rename_i E' c' l' _;cases Nat.beq E' _ with
   |false=>exact⟨rfl,rfl⟩
   |true=>simp only[cond_true];split<;>exact⟨rfl,rfl⟩
  .exact⟨rfl,rfl⟩
 .exact⟨rfl,rfl⟩
theorem zt5[Dr]{C:Cx P}{acts:List GA}{a:Act}{w:World}: ∀(is:List Nat){s:SS V.T},SatS V C acts s a w->SatS V C acts (zov V s is) a w/\(zov V s is).toFm=s.toFm/\(zov V s is).stk=s.stk
 | [],s,h=>⟨h,rfl,rfl⟩
 |i::is,s,h=>by obtain⟨h1,h2,h3⟩:=zt5 is (zxd i h);obtain⟨h4,h5⟩:=y6o (V:=V) (s:=s) i;exact⟨h1,h2.trans h4,h3.trans h5⟩
theorem yan[Dr]{C:Cx P}{acts:List GA}{s:SS V.T}{a:Act}{w:World}(H:SatS V C acts s a w)(h:Sh)(z:h.Z V.T)(b:Bd)(hb:∀j i,lk b j=some i->j<h.ob.length)(hz:h.decB V s b=some z):SatS V C acts (h.enc V z) a w:=by
 unfold Sh.decB at hz;split at hz
 .rename_i is hi;cases hn:zek is with
  |false=>rw[hn] at hz;exact zk hz
  |true=>
   rw[hn] at hz;change (match deO V b (zov V s (zlz h.ob is)).ob 0 h.ob with
    |some z=>deF V b h.fr (s.toFm::s.stk) z
    |none=>none)=some z at hz
   obtain⟨H2,f1,f2⟩:=zt5 (zlz h.ob is) H;rw[<- f1,<- f2] at hz;revert hz H2;generalize zov V s (zlz h.ob is)=s2;intro hz H2;obtain⟨hd,hsz,hch,hg,A,ro,S,hl,hw,he,hs,hst⟩:=H2;split at hz
   .rename_i z' ho;obtain⟨hi1,hi2⟩:=zws hi;have HBb:HB A (is.map λi=>A.getD i default) b:=by intro j i p hj hp;have hjm:=hb j i hj;have:=hi2 j hjm;rw[w13,hj] at this;rw[w12,<- this];simp[List.getD,hp]
    have hsel:=zge (P:=P) HBb s2.ob hl h.ob 0 is z' hi ho;obtain⟨h1,h2⟩:=y94 (P:=P) (ro:=ro) (w:=w) HBb h.fr (s2.toFm::s2.stk) (⟨a,none⟩::acts) z' z ⟨⟨hs,hch,hg,(λx e=>by cases e),hsz⟩,hst⟩ hz;show SatS V C acts (mkS V (enF V h.fr z).1 (enO V h.ob (enF V h.fr z).2)) a w;rw[h1];generalize (enF V h.fr z).1=fs at h2;cases fs with
    |nil=>exact h2.elim
    |cons f fs=>obtain⟨⟨k1,k2,k3,k4,k5⟩,k6⟩:=h2;exact⟨trivial,k5,k2,k3,_,ro,_,by simp only[mkS,w1c,zcn];exact hi1,hw.sel hsel hn,he,k1,k6⟩
   .exact zk hz
 .exact zk hz
theorem zon[Dr]{C:Cx P}{acts:List GA}{s:SS V.T}{a:Act}{w:World}(H:SatS V C acts s a w)(h:Sh)(z:h.Z V.T)(hz:h.dec V s=some z):SatS V C acts (h.enc V z) a w:=by refine yan (ybw h H) h z (h.bd V (nilS V h s)) (λj i hj=>?_) hz;have hm:=zei hj;unfold Sh.bd at hm;rw[w0v] at hm;exact of_eq_true ((congrArg (λx=>x) (w2d (x:=j) (y:=h.ob.length))) ▸ eq_true hm.2)
end
end Px
end
section
namespace Px
open Go Go.RowKit
section
variable{V:TE}{N:Env V}{R:Type}{r:R}
def GbX(g g':List (Nat×Bool)):Prop:=∀t b,lk g t=some b->lk g' t=some b
theorem GbX.refl(g:List (Nat×Bool)):GbX g g:=λ_ _ h=>h
theorem GbX.trans{a b c:List (Nat×Bool)}(h:GbX a b)(k:GbX b c):GbX a c:=λt x e=>k t x (h t x e)
theorem GbX.isSome{a b:List (Nat×Bool)}(h:GbX a b){t:Nat}(k :(lk a t).isSome=true):(lk b t).isSome=true:=by
 cases e:lk a t with
 |none=>rw[e] at k;cases k
 |some x=>rw[h t x e];rfl
theorem GbX.chP{a b:List (Nat×Bool)}(h:GbX a b){ch:Ch}(k:∀p∈ch,(lk a p.1).isSome=true):chP a ch=chP b ch:=by
 refine propext ?_;rw[z7m,z7m];have e:∀p∈ch,lk b p.1=lk a p.1:=λp hp=>by
  cases e:lk a p.1 with
  |none=>have:=k p hp;rw[e] at this;cases this
  |some x=>rw[h _ x e]
 exact⟨λH p hp=>by rw[e p hp];exact H p hp,λH p hp=>by rw[<- e p hp];exact H p hp⟩
theorem GbX.denE[Dr]{P:Program}{A:Asg}{a b:List (Nat×Bool)}(h:GbX a b){e:Ch×SV V.T}(k:∀p∈e.1,(lk a p.1).isSome=true):denE V P A a e=denE V P A b e:=by
 obtain⟨ch,x⟩:=e;cases ch with
 |nil=>rfl
 |cons p l=>show cnd (Px.chP a (p::l)) _=cnd (Px.chP b (p::l)) _;rw[h.chP k]
def y6x{T:Nat->Type}: SV T->Bool
 | .func ..=>true
 |_=>false
structure EsOK(tab:Tab)(gb:List (Nat×Bool))(bs:Sls V.T)(es:List (DE V.T)):Prop where
 dst:∀e∈es,tab.dst e.1=some e.2.1
 ch:∀e∈es,∀p∈e.2.2.1,(lk gb p.1).isSome=true
 val:∀e∈es,∀g,lk gb e.2.1=some g->e.2.2.2 = .bool g
 inj:∀e∈es,∀e'∈es,e.2.1=e'.2.1->e=e'
 bs:∀e∈es,lk bs e.2.1=none\/(lk bs e.2.1=some e.2.2/\y6x e.2.2.2=true)
theorem zte{α:Type}: ∀(l m:List (Nat×α))(t:Nat),lk (l++m) t =(match lk l t with|some x=>some x|none=>lk m t)
 | [],m,t=>rfl
 |(k,y)::l,m,t=>by
  simp only[w2u,z0c];by_cases h:t=k
  .rw[if_pos h,if_pos h]
  .rw[if_neg h,if_neg h];exact zte l m t
theorem zho{f:Nat->Bool}{bs:Sls V.T}{es:List (DE V.T)}{t:Nat}{x:Ch×SV V.T}(h:lk (drSl V f bs es) t=some x):(∃e∈es,e.2 =(t,x))\/lk bs t=some x:=by
 unfold drSl at h;rw[zte] at h;split at h
 .rename_i y hy;cases h;obtain⟨e,he,h2⟩:=w0h.1 (zei hy);exact .inl ⟨e,(w0v.1 he).1,h2⟩
 .exact .inr h
theorem EsOK.gb{tab:Tab}{gb:List (Nat×Bool)}{kn:Ch}{n:Nat}{bs:Sls V.T}{es:List (DE V.T)}(h:EsOK tab gb bs es)(hb:GbOK (⟨bs,gb,kn,n⟩:Fm V.T))(f:Nat->Bool):GbOK (⟨drSl V f bs es,gb,kn,n⟩:Fm V.T) where
 val:=λt g hg ch z hl=>by
  rcases zho hl with⟨e,he,h2⟩|hl
  .have:=h.val e he g (by rw[h2];exact hg)
   rw[h2] at this;exact this
  .exact hb.val t g hg ch z hl
 ch:=λt ch z hl p hp=>by
  rcases zho hl with⟨e,he,h2⟩|hl
  .exact h.ch e he p (by rw[h2];exact hp)
  .exact hb.ch t ch z hl p hp
 kn:=hb.kn
def qrOf[Dr](P:Program)(A:Asg)(gb:List (Nat×Bool))(es:List (DE V.T)):List (Nat×VP):=es.map λe=>(e.1,denE V P A gb e.2.2)
theorem z74[Dr]{P:Program}{A:Asg}{tab:Tab}{gb:List (Nat×Bool)}{bs:Sls V.T}(f:Nat->Bool):∀{es:List (DE V.T)},(∀e∈es,tab.dst e.1=some e.2.1)->z3z tab f (slD V P A gb bs) (qrOf P A gb es)=slD V P A gb (drSl V f bs es)
 | [],h=>by funext t;rfl
 |e::es,h=>by
  funext t;have ih:=congrFun (z74 (P:=P) (A:=A) (gb:=gb) (bs:=bs) f λe he=>h e (w09 _ he)) t;have hd:=h e (w0m ..);simp only[qrOf,w0p,z3z,hd,zgu];obtain⟨i,d,x⟩:=e;simp only[drSl] at ih⊢;cases hf:f i with
  |false=>rw[List.filter_cons_of_neg (by simpa using hf)];simpa[qrOf] using ih
  |true=>
   rw[w4c (by simpa using hf)];simp only[w0p,w2u,slD,z0c];by_cases e:t=d
   .subst e;simp
   .have:Nat.beq d t=false:=zs1 λe'=>e e'.symm
    rw[if_neg e,this];simpa[qrOf,slD] using ih
theorem zp3{tab:Tab}{f:Nat->Bool}{s:z8z}: ∀{l m:List (Nat×VP)},(∀p∈l,f p.1=false)->z3z tab f s (l++m)=z3z tab f s m
 | [],m,h=>rfl
 |(q,x)::l,m,h=>by funext t;have h1:=h (q,x) (w0m ..);simp only at h1;simp only[w2u,z3z,h1,w3w,cond_false];rw[zp3 λp hp=>h p (w09 _ hp)]
theorem zyd[Dr]{P:Program}{A:Asg}{g g':List (Nat×Bool)}(hx:GbX g g'){kn:Ch}{n:Nat}{sl:Sls V.T}(h:GbOK (⟨sl,g,kn,n⟩:Fm V.T)):slD V P A g sl=slD V P A g' sl:=by
 funext t;simp only[slD];cases e:lk sl t with
 |none=>rfl
 |some x=>obtain⟨ch,z⟩:=x;simp only[w0r,w00];exact hx.denE (h.ch t ch z e)
theorem zqw[Dr]{A:Asg}{P:Program}{tab:Tab}{gb:List (Nat×Bool)}{bs:Sls V.T}{es:List (DE V.T)}(h:EsOK tab gb bs es):zwk tab (slD V P A gb bs) (qrOf P A gb es):=by
 intro p hp t ht;obtain⟨e,he,rfl⟩:=w0h.1 hp;rw[h.dst e he] at ht;cases ht;rcases h.bs e he with q|⟨q,_⟩
 .exact .inl (by simp only[slD,q,w37])
 .exact .inr (by simp only[slD,q,w0r])
theorem zfc{ops:Array Oper}{i:Nat}{o:Oper}(h:ops[i]? = some o):Tab.deps (z0j ops) i=z0d o:=by simp only[Tab.deps,zjq rfl h];rfl
theorem zrm{ops:Array Oper}{i:Nat}{o:Oper}(h:ops[i]? = some o):Tab.dst (z0j ops) i=o.dst:=by simp only[Tab.dst,zjq rfl h]
theorem ydb{tab:Tab}{n:Nat}{keys:List Nat}(h:chk tab n [] keys [] []=true){i e:Nat}(hi:i<tab.length)(he:e∈tab.deps i):e<i:=by simp only[chk,w02,w08,w0l,decide_eq_true_eq] at h;exact h.2 i hi e he
theorem EsOK.more{tab:Tab}{gb:List (Nat×Bool)}{kn:Ch}{n:Nat}{bs:Sls V.T}{es:List (DE V.T)}(h:EsOK tab gb bs es)(hb:GbOK (⟨bs,gb,kn,n⟩:Fm V.T)){f:Nat->Bool}{t:Nat}{ch:Ch}{b:Bool}
  (hl:lk (drSl V f bs es) t=some (ch,.bool b)) (hg:lk gb t=none):EsOK tab ((t,b)::gb) bs es/\GbOK (⟨bs,(t,b)::gb,kn,n⟩:Fm V.T)/\GbX gb ((t,b)::gb):=by
 have hX:GbX gb ((t,b)::gb):=by
  intro u c hu;rw[z0c,if_neg]
  .exact hu
  .rintro rfl;rw[hg] at hu;cases hu
 refine⟨⟨h.dst,λe he p hp=>hX.isSome (h.ch e he p hp),λe he g hgt=>?_,h.inj,h.bs⟩,⟨λu g hu c z hz=>?_,λu c z hz p hp=>hX.isSome (hb.ch u c z hz p hp),λp hp=>hX.isSome (hb.kn p hp)⟩,hX⟩
 .rw[z0c] at hgt;split at hgt
  .rename_i e1;cases hgt;rcases zho hl with⟨e',he',h2⟩|hl'
   .have:=h.inj e he e' he' (by rw[e1,h2])
    subst this;rw[h2]
   .rcases h.bs e he with this|⟨this,hf⟩
    .rw[e1,hl'] at this;cases this
    .rw[e1,hl'] at this;have:=w0f this;rw[<- this] at hf;cases hf
  .exact h.val e he g hgt
 .rw[z0c] at hu;split at hu
  .rename_i e1;cases hu;subst e1;rcases zho hl with⟨e',he',h2⟩|hl'
   .rcases h.bs e' he' with this|⟨_,hf⟩
    .rw[h2] at this;change lk bs u=none at this;have hz':lk bs u=some (c,z):=hz;rw[this] at hz';cases hz'
    .rw[h2] at hf;cases hf
   .have hz':lk bs u=some (c,z):=hz;rw[hl'] at hz';cases hz';rfl
  .exact hb.val u g hu c z hz
theorem EsOK.put{tab:Tab}{gb:List (Nat×Bool)}{bs:Sls V.T}{es:List (DE V.T)}(h:EsOK tab gb bs es){i d:Nat}{ch:Ch}{v:SV V.T}(hd:tab.dst i=some d)(hg:lk gb d=none)(hb:lk bs d=none\/(lk bs d=some (ch,v)/\y6x v=true))
  (hn :(es.any λe=>Nat.beq e.2.1 d)=false) (hc:∀p∈ch,(lk gb p.1).isSome=true):EsOK tab gb bs ((i,d,ch,v)::es):=by
 have hn':∀e∈es,e.2.1≠d:=λe he e1=>by have :(es.any λe=>Nat.beq e.2.1 d)=true:=w2g.2 ⟨e,he,by rw[e1];exact w2o d⟩;rw[hn] at this;cases this
 refine⟨λe he=>?_,λe he p hp=>?_,λe he g hgt=>?_,λe he e' he' h1=>?_,λe he=>?_⟩
 .rcases w0c.1 he with rfl|he
  .exact hd
  .exact h.dst e he
 .rcases w0c.1 he with rfl|he
  .exact hc p hp
  .exact h.ch e he p hp
 .rcases w0c.1 he with rfl|he
  .change lk gb d=some g at hgt;rw[hg] at hgt;cases hgt
  .exact h.val e he g hgt
 .rcases w0c.1 he with rfl|he
  .rcases w0c.1 he' with rfl|he'
   .rfl
   .exact absurd h1.symm (hn' e' he')
  .rcases w0c.1 he' with rfl|he'
   .exact absurd h1 (hn' e he)
   .exact h.inj e he e' he' h1
 .rcases w0c.1 he with rfl|he
  .exact hb
  .exact h.bs e he
theorem zx5[Dr](hN:z5f V N){C:Cx N.P}{A:Asg}{ops:Array Oper}{bs:Sls V.T}{k:SS V.T->Option R}: ∀(os:List Oper)(i:Nat)(s:SS V.T)(es:List (DE V.T)),os=ops.toList.drop i->zso V N ops bs i os s es k=some r->
  EsOK (z0j ops) s.gb bs es->GbOK (⟨bs,s.gb,s.kn,s.n⟩:Fm V.T)->chP s.gb s.kn->OneA V A s.ob->
  ∃(gb':List (Nat×Bool))(new:List (DE V.T)),GbX s.gb gb'/\k { s with gb:=gb',sl:=drSl V (λ_=>true) bs (new++es) } = some r/\EsOK (z0j ops) gb' bs (new++es)/\GbOK (⟨bs,gb',s.kn,s.n⟩:Fm V.T)/\
   chk (z0j ops) s.n [] ((new++es).map (·.1)) [] []=true/\(∀e∈new,i<=e.1)/\
   ∀e∈new,∃o,ops[e.1]? = some o/\GQ C (z0j ops) o ⟨z3z (z0j ops) (memB (Tab.deps (z0j ops) e.1)) (slD V N.P A gb' bs) (qrOf N.P A gb' (new++es)),obD V N.P A A s.ob⟩ (denE V N.P A gb' e.2.2)
 | [],i,s,es,hos,h,hes,hgb,hkn,h1=>by
  simp only[zso] at h;cases hc:chk (z0j ops) s.n [] (es.map (·.1)) [] [] with
  |false=>rw[hc] at h;cases h
  |true=>rw[hc] at h;exact⟨s.gb,[],GbX.refl _,h,hes,hgb,hc,(λe he=>absurd he w1q),(λe he=>absurd he w1q)⟩
 |o::os,i,s,es,hos,h,hes,hgb,hkn,h1=>by
  obtain⟨hoi,hos'⟩:=opK hos;have ho:ops[i]? = some o:=by simpa using hoi
  have hlen:i<(z0j ops).length:=by rw[zit rfl];exact(w20.1 ho).1
  simp only[zso] at h;cases hd:o.dst with
  |none=>rw[hd] at h;cases h
  |some d=>
   rw[hd] at h;simp only at h;split at h
   .rename_i hg0 hb0;cases hany :(es.any λe=>Nat.beq e.2.1 d) with
    |true=>rw[hany] at h;cases h
    |false=>
     rw[hany] at h;simp only[cond_false] at h;have hdt:Tab.dst (z0j ops) i=some d:=by rw[zrm ho,hd]
     have hRt:=hes.gb hgb (memB (z0d o))
     -- what the rest shows
     have fin:∀(g1:List (Nat×Bool))(ch:Ch)(v:SV V.T),GbX s.gb g1->EsOK (z0j ops) g1 bs es->GbOK (⟨bs,g1,s.kn,s.n⟩:Fm V.T)->lk g1 d=none->(∀p∈ch,(lk g1 p.1).isSome=true)->
       zso V N ops bs (i+1) os { s with gb:=g1 } ((i,d,ch,v)::es) k=some r->
       (∀gb' st,GbX g1 gb'->st =(⟨slD V N.P A g1 (drSl V (memB (z0d o)) bs es),obD V N.P A A s.ob⟩:St)->GQ C (z0j ops) o st (denE V N.P A gb' (ch,v)))->
       ∃(gb':List (Nat×Bool))(new:List (DE V.T)),GbX s.gb gb'/\k { s with gb:=gb',sl:=drSl V (λ_=>true) bs (new++es) } = some r/\EsOK (z0j ops) gb' bs (new++es)/\GbOK (⟨bs,gb',s.kn,s.n⟩:Fm V.T)/\
        chk (z0j ops) s.n [] ((new++es).map (·.1)) [] []=true/\(∀e∈new,i<=e.1)/\
        ∀e∈new,∃o,ops[e.1]? = some o/\GQ C (z0j ops) o ⟨z3z (z0j ops) (memB (Tab.deps (z0j ops) e.1)) (slD V N.P A gb' bs) (qrOf N.P A gb' (new++es)),obD V N.P A A s.ob⟩ (denE V N.P A gb' e.2.2):=by
      intro g1 ch v hX hes1 hgb1 hgd hch hr hq;obtain⟨gb',new,x1,x2,x3,x4,x5,x6,x7⟩:=zx5 hN (C:=C) (A:=A) os (i+1) { s with gb:=g1 } _ hos' hr (hes1.put (v:=v) hdt hgd (.inl hb0) hany hch) hgb1 ((hX.chP hgb.kn) ▸ hkn) h1;have eapp :(new++[(i,d,ch,v)])++es=new++(i,d,ch,v)::es:=by simp
      refine⟨gb',new++[(i,d,ch,v)],hX.trans x1,?_,?_,x4,?_,λe he=>?_,λe he=>?_⟩
      .rw[eapp];exact x2
      .rw[eapp];exact x3
      .rw[eapp];exact x5
      .rcases w0k.1 he with he|he
       .have:=x6 e he;omega
       .simp at he;subst he;exact w0x _
      .rw[eapp];rcases w0k.1 he with he|he
       .exact x7 e he
       .simp only[w0d] at he;subst he;refine⟨o,ho,hq gb' _ x1 ?_⟩;have hR1:=hes1.gb hgb1 (memB (z0d o));rw[zyd x1 hR1,<- z74 (tab:=z0j ops) _ hes1.dst,zfc ho];have hf:∀q,i<=q->memB (z0d o) q=false:=λq hq=>by
         cases hm:memB (z0d o) q with
         |false=>rfl
         |true=>have:=ydb x5 hlen (by rw[zfc ho];exact z0t.1 hm);omega
        have:qrOf N.P A gb' (new++(i,d,ch,v)::es)=qrOf N.P A gb' (new++[(i,d,ch,v)])++qrOf N.P A gb' es:=by simp[qrOf]
        rw[this,zp3];intro p hp;simp only[qrOf,w0h] at hp;obtain⟨e,he,rfl⟩:=hp;rcases w0k.1 he with he|he
        .exact hf _ (by have:=x6 e he;simp only;omega)
        .simp at he;subst he;exact hf _ (w0x _)
     split at h
     .rename_i hg;obtain⟨v,hv,hq⟩:=zd3 (C:=C) (A:=A) (s:={ s with sl:=drSl V (memB (z0d o)) bs es }) hN hkn hRt h1 h;refine fin s.gb [] v (GbX.refl _) hes hgb hg0 (λp hp=>by cases hp) hv λgb' st _ hst=>?_
      subst hst;obtain⟨dst,op,ty,pos,aft,guard⟩:=o;simp only at hg;subst hg;exact hq trivial dst pos aft none
     .rename_i g hg;split at h
      .rename_i ch s' hgo;unfold zee at hgo;split at hgo
       .rename_i t ht;have htj:Tab.dst (z0j ops) g.1=some t:=by
         cases ho':ops[g.1]? with
         |none=>simp[ho'] at ht
         |some o'=>rw[zrm ho'];simpa[ho'] using ht
        split at hgo
        .cases hgo
        .rename_i chj b hl;have hcase:∃g1,s' = { s with gb:=g1,sl:=drSl V (memB (z0d o)) bs es }/\ch =(t,g.2)::chj/\GbX s.gb g1/\EsOK (z0j ops) g1 bs es/\GbOK (⟨bs,g1,s.kn,s.n⟩:Fm V.T)/\lk g1 t=some b/\(∀u,u≠t->lk g1 u=lk s.gb u):=by
          split at hgo
          .rename_i g' hg';simp only[w00,w0b] at hgo;obtain⟨rfl,rfl⟩:=hgo;have e:=hRt.val t g' hg' chj _ hl;simp only[SV.bool.injEq] at e;subst e;exact⟨s.gb,rfl,rfl,GbX.refl _,hes,hgb,hg',λ_ _=>rfl⟩
          .rename_i hg';simp only[w00,w0b] at hgo;obtain⟨rfl,rfl⟩:=hgo;obtain⟨m1,m2,m3⟩:=hes.more hgb hl hg';exact⟨_,rfl,rfl,m3,m1,m2,by simp[z0c],λu hu=>by rw[z0c,if_neg hu]⟩
         obtain⟨g1,rfl,rfl,hX,hes1,hgb1,hgt,hoth⟩:=hcase;have hR1:=hes1.gb hgb1 (memB (z0d o));obtain⟨v,hv,hq⟩:=zd3 (C:=C) (A:=A) (s:={ s with gb:=g1,sl:=drSl V (memB (z0d o)) bs es }) hN ((hX.chP hgb.kn) ▸ hkn) hR1 h1 h;have hchj:∀p∈chj,(lk g1 p.1).isSome=true:=hR1.ch t chj _ hl;have hch:∀p∈(t,g.2)::chj,(lk g1 p.1).isSome=true:=λp hp=>by
          rcases w0c.1 hp with rfl|hp
          .simp[hgt]
          .exact hchj p hp
         have hg1d:lk g1 d=none:=by
          cases e1:lk g1 d with
          |none=>rfl
          |some b'=>
           exfalso;by_cases e2:d=t
           .subst e2;rcases zho hl with⟨e,he,h2⟩|hl'
            .have :(es.any λe=>Nat.beq e.2.1 d)=true:=w2g.2 ⟨e,he,by rw[h2];exact w2o d⟩;rw[hany] at this;cases this
            .rw[hb0] at hl';cases hl'
           .rw[hoth d e2,hg0] at e1;cases e1
         refine fin g1 _ v hX hes1 hgb1 hg1d hch hv λgb' st hX' hst=>?_
         subst hst;obtain⟨dst,op,ty,pos,aft,guard⟩:=o;simp only at hg;subst hg;refine⟨chP gb' ((t,g.2)::chj),v.den V N.P A,t,htj,rfl,λhp=>hq ((hX'.chP hch) ▸ hp) dst pos aft _,?_⟩;have hsl:slD V N.P A g1 (drSl V (memB (z0d ⟨dst,op,ty,pos,aft,some g⟩)) bs es) t=some (denE V N.P A g1 (chj,.bool b)):=by simp only[slD,hl,w0r]
         have hgt':=hX' t b hgt;cases chj with
         |nil=>refine .inl ⟨b,hsl,?_⟩;simp[chP,hgt']
         |cons c0 cl=>refine .inr ⟨chP g1 (c0::cl),b,hsl,?_⟩;rw[hX'.chP hchj];simp[chP,hgt']
        .cases hgo
       .cases hgo
      .cases h
   .cases h
theorem zhi{α:Type}{P:α->Prop}: ∀{l:List α},(∀a∈l,P a)->AllP P l
 | [],_=>trivial
 |a::l,h=>⟨h a (w0m ..),zhi λb hb=>h b (w09 _ hb)⟩
theorem zad{α:Type}(f:Nat->Bool):∀{l:List (Nat×α)}{t:Nat}{x:α},lk (l.filter λp=>f p.1) t=some x->lk l t=some x
 | [],t,x,h=>by cases h
 |(k,y)::l,t,x,h=>by
  cases hf:f k with
  |false=>
   rw[List.filter_cons_of_neg (by simpa using hf)] at h;have:=zad f h;rw[z0c];by_cases e:t=k
   .subst e;have hm:=zei h;have:=(w0v.1 hm).2;simp only at this;rw[hf] at this;cases this
   .rw[if_neg e];exact this
  |true=>
   rw[w4c (by simpa using hf),z0c] at h;rw[z0c];by_cases e:t=k
   .rw[if_pos e] at h⊢;exact h
   .rw[if_neg e] at h⊢;exact zad f h
theorem yas[Dr](hN:z5f V N){C:Cx N.P}{rd:Option Nat}{acts:List GA}{ops:Array Oper}{id:Nat}{K:SS V.T->Option R}{Q:Exit->Act->World->Prop}(hK:∀s a w,K s=some r->SatS V C acts s a w->Q .normal a w)
  {s:SS V.T} {a:Act} {w:World} (hm:N.P.follows .mixedOrders=true) (h:zso V N ops (s.sl.filter λp=>!isDs ops.toList p.1) 0 ops.toList s [] K=some r) (hs:SatS V C acts s a w) :(Code.region id ops true).wpIn (fz rd) 0 N.P Q a w:=by
 obtain⟨hd,hn,hkn,hgb,A,ro,S,hl,hw,hev,hsl,hst⟩:=hs;generalize hbs :(s.sl.filter λp=>!isDs ops.toList p.1)=bs at h;have hlk:∀{t:Nat}{x:Ch×SV V.T},lk bs t=some x->lk s.sl t=some x:=λ{t x}hx=>zad (λk=>!isDs ops.toList k) (by rw[hbs];exact hx)
 have hgb0:GbOK (⟨bs,s.gb,s.kn,s.n⟩:Fm V.T):=⟨λt g hg ch z hz=>hgb.val t g hg ch z (hlk hz),λt ch z hz=>hgb.ch t ch z (hlk hz),hgb.kn⟩;obtain⟨gb',new,x1,x2,x3,x4,x5,x6,x7⟩:=zx5 hN (C:={ C with n:=s.n,r0:=ro,wI:=w,rd:=rd,df:=a.defers }) (A:=A) ops.toList 0 s [] rfl h ⟨λe he=>absurd he w1q,λe he=>absurd he w1q,λe he=>absurd he w1q,λe he=>absurd he w1q,λe he=>absurd he w1q⟩ hgb0 hkn (zr0 hw);rw[w0e] at x2 x3 x5 x7;have hkeys :(qrOf N.P A gb' new).map (·.1)=new.map (·.1):=by simp[qrOf]
 have hbs':zj (slD V N.P A gb' bs) a ro w:=by
  rw[<- zyd x1 hgb0];intro t X hX;simp only[slD] at hX;cases hb:lk bs t with
  |none=>rw[hb] at hX;cases hX
  |some e=>rw[hb] at hX;exact hsl t X (by simp only[slD,hlk hb];exact hX)
 refine y0x (C:={ C with n:=s.n,r0:=ro,wI:=w,rd:=rd,df:=a.defers }) (s:=⟨slD V N.P A gb' bs,obD V N.P A A s.ob⟩) (QR:=qrOf N.P A gb' new) (tab:=z0j ops) hm ?_ ⟨rfl,hn,ro,S,hw,Evo.refl _ _ _,hbs'⟩;refine Reg.introG [] [] rfl (by rw[hkeys];exact x5) ?_ ?_ trivial ?_
 .exact zqw x3
 .refine zhi λp hp _=>?_
  simp only[qrOf,w0h] at hp;obtain⟨e,he,rfl⟩:=hp;exact x7 e he
 .intro _ a' w' hsat;obtain⟨hd',hn',ro',S',hw',hev',hsl'⟩:=hsat;rw[z74 _ x3.dst] at hsl';exact hK _ a' w' x2 ⟨trivial,hn',(x1.chP hgb.kn) ▸ hkn,x3.gb x4 _,A,ro',S',hl,hw',y2x hd' ▸ hev.trans hev',hsl',hst.ext (AExt.refl _) hev'⟩
end
end Px
end
section
namespace Px
open Go Go.RowKit
section reg
variable{P:Program}{C:Cx P}{ops:Array Oper}{tab:Tab}{Q:Exit->Act->World->Prop}
theorem Reg.withInv[Dr]{D:List Nat}{s:St}{QR:List (Nat×VP)}(h :(∃r S w,WInv C.w0 C.base s.objs r S w)->Reg C ops tab Q D s QR):Reg C ops tab Q D s QR:=λfuel listed a w E r S hN hd hn hw he hs hf=>h ⟨r,S,w,hw⟩ fuel listed a w E r S hN hd hn hw he hs hf
theorem Reg.weak[Dr]{D:List Nat}{s s':St}{QR QR':List (Nat×VP)}(hs:∀a r w,zj s.slots a r w->zj s'.slots a r w)(ho:ObW s.objs s'.objs)(hk:∀q∈QR.map (·.1),q∈QR'.map (·.1))
  (hf:∀p∈QR',p.1∈QR.map (·.1)->∃x,(p.1,x)∈QR/\Ent x p.2) (h:Reg C ops tab Q D s' QR'):Reg C ops tab Q D s QR:=by
 intro fuel listed a w E r S hN hd hn hw he hsl hfa;obtain⟨S',hw'⟩:=ho _ _ _ _ _ hw;refine h fuel listed a w E r S' ⟨hN.closed,hN.size,hN.lst,λq hq=>hk q (hN.sub q hq),hN.fuel⟩ hd hn hw' he (hs _ _ _ hsl) ?_;intro q x t hq hm ht;obtain⟨x0,h1,h2⟩:=hf (q,x) hm (hN.sub q hq);exact h2 _ _ _ (hfa q x0 t hq h1 ht)
theorem zsl{rd:Option Nat}(htab:z0j ops=tab)(hk5:∀j,j<tab.length->∀e∈tab.deps j,e<j):∀(n m:Nat)(fuel:Nat)(L:Array Bool)(a:Act)(w:World),m+n=ops.size->n<=fuel->L.size=ops.size->
  (∀j,j<ops.size->(L.getD j true=true↔j<m))->(∀j,m<j->j<ops.size->j-1∈tab.deps j)->wpOpsIn (fz rd) 0 P ops Q (List.range' m n) a w->wpAnyIn (fz rd) 0 P .any ops Q fuel L a w
 |0,m,fuel,L,a,w,hm,hfu,hsz,hL,hch,h=>by
  have hr:Region.ready .any ops L = []:=by apply w4o.2;intro j hj;obtain⟨h1,h2,_⟩:=zh2 hj;rw[(hL j h1).2 (by omega)] at h2;cases h2
  cases fuel with
  |zero=>exact⟨hr,h⟩
  |succ fuel=>exact⟨λ_=>h,λj hj=>by rw[hr] at hj;cases hj⟩
 |n+1,m,0,L,a,w,hm,hfu,hsz,hL,hch,h=>by omega
 |n+1,m,fuel+1,L,a,w,hm,hfu,hsz,hL,hch,h=>by
  have hmsz:m<ops.size:=by omega
  have hlen:=zit htab;have gd:∀(L:Array Bool)(k:Nat),k<L.size->L.getD k true=true->L.getD k false=true:=λL k hk h=>by simp[hk] at h⊢;exact h
  have hmr:m∈Region.ready .any ops L:=by
   simp only[Region.ready,w0v,w0l,w02,w0w];refine⟨hmsz,?_,?_⟩
   .cases hb:L.getD m true with
    |false=>rfl
    |true=>have:=(hL m hmsz).1 hb;omega
   .simp only[w2b hmsz,w0r,w19,w2s];intro e hem;by_cases hb:Region.binds .any e=true
    .simp only[hb,w1r,w26];have htb:=zjq htab (i:=m) (o:=ops[m]) (by simp[hmsz]);have hlt:=hk5 m (by omega) e.on (by simp only[Tab.deps,htb];exact w0h.2 ⟨e,w0v.2 ⟨by simpa using hem,hb⟩,rfl⟩);exact gd _ _ (by omega) ((hL e.on (by omega)).2 hlt)
    .simp[hb]
  have honly:∀j∈Region.ready .any ops L,j=m:=by
   intro j hj;obtain⟨h1,h2,o,ho,h3⟩:=zh2 hj;have hge:¬j<m:=λq=>by rw[(hL j h1).2 q] at h2;cases h2
   by_cases e:j=m
   .exact e
   exfalso;have hd:=hch j (by omega) h1;have htb:=zjq htab ho;simp only[Tab.deps,htb] at hd;obtain⟨e,he,hon⟩:=w0h.1 hd;obtain⟨he1,he2⟩:=w0v.1 he;have h4:=h3 e (by simpa using he1) he2;rw[hon] at h4;have h5:L.getD (j-1) true=true:=by
    have:j-1<L.size:=by omega
    simp[this] at h4⊢;exact h4
   have:=(hL (j-1) (by omega)).1 h5;omega
  refine⟨λhr=>(by rw[hr] at hmr;cases hmr),λi hi=>?_⟩;have:=honly i hi;subst this;rw[w4j,wpOpsIn_cons] at h;refine wpOpIn_mono (λa' w' h'=>?_) h;refine zsl htab hk5 n (i+1) fuel _ a' w' (by omega) (by omega) (by simp[hsz]) (λj hj=>?_) (λj h1 h2=>hch j (by omega) h2) h';by_cases e:j=i
  .subst e;have:j<L.size:=by omega
   simp[this]
  .have:¬i=j:=λh=>e h.symm
   simp only[w07,w2w this];have:=hL j hj;simp only[w07] at this;rw[this];omega
theorem Reg.tail[Dr]{D:List Nat}{s:St}{QR:List (Nat×VP)}(l:Nat)(sure:List Nat)(htab:z0j ops=tab)(hchk:chk tab C.n D (QR.map (·.1)) [l] sure=true)(hnone':zwk tab s.slots QR)
  (hQ':AllP (λp=>memB sure p.1=false->∃o,ops[p.1]? = some o/\GQ C tab o ⟨z3z tab (memB (tab.deps p.1)) s.slots QR,s.objs⟩ p.2) QR)
  (hcl :(QR.map (·.1)).all (λq=>(l::(D++QR.map (·.1))).any λj=>memB (Tab.deps tab j) q)=true) (hall :(List.range ops.size).all (λq=>Nat.ble l q||memB D q||memB (QR.map (·.1)) q)=true)
  (hlow :(D++QR.map (·.1)).all (λq=>Nat.blt q l)=true) (hch :(List.range ops.size).all (λj=>Nat.ble j l||memB (Tab.deps tab j) (j-1))=true) (hsz:l<ops.size) (hl:zck tab D (QR.map (·.1))=false)
  (hW:∀a w,Sat C ⟨z3z tab (λ_=>true) s.slots QR,s.objs⟩ a w->wpOpsIn (fz C.rd) 0 P ops Q (List.range' l (ops.size-l)) a w):Reg C ops tab Q D s QR:=by
 refine Reg.introW [] [l] sure htab hchk hnone' hQ' trivial ?_ (λhc=>by rw[hl] at hc;cases hc);intro i hi fuel listed a w E r S hN hd hn hw he hs hf hisz hdeps hoth;simp only[w0d] at hi;subst hi;have hk3:∀q∈QR.map (·.1),q ∉ D/\q<tab.length:=by intro q hq;simp only[chk,w02,w08,decide_eq_true_eq] at hchk;obtain⟨⟨⟨_,h1⟩,h2⟩,_⟩:=hchk.1.1.2 q hq;exact⟨λh=>by rw[z0t.2 h] at h1;simp at h1,h2⟩
 have hk5:∀j,j<tab.length->∀e∈tab.deps j,e<j:=by intro j hj e hej;simp only[chk,w02,w08,decide_eq_true_eq,w0l] at hchk;exact hchk.2 j hj e hej
 have key:∀m q,q∈QR.map (·.1)->tab.length<=m+q->q∈E:=by
  intro m
  induction m with
  |zero=>intro q hq hm;have:=(hk3 q hq).2;omega
  |succ m ihm=>
   intro q hq hm;have h1:=w08.1 hcl q hq;obtain⟨j,hj,hd⟩:=w2g.1 h1;have hd:=z0t.1 hd;rcases w0c.1 hj with rfl|hj
   .exact(hdeps q hd).resolve_left (hk3 q hq).1
   rcases w0k.1 hj with hj|hj
   .exact(hN.closed j (.inl hj) q hd).resolve_left (hk3 q hq).1
   .have hlt:=hk5 j (hk3 j hj).2 q hd;exact(hN.closed j (.inr (ihm j hj (by omega))) q hd).resolve_left (hk3 q hq).1
 have hkeys:∀q∈QR.map (·.1),q∈E:=λq hq=>key tab.length q hq (by omega)
 have hlo:∀q,q∈D\/q∈QR.map (·.1)->q<i:=λq hq=>by have:=w08.1 hlow q (w0k.2 hq);exact w0u this
 have hlis:∀j,j<ops.size->(listed.getD j true=true↔j<i):=by
  intro j hj;rw[hN.lst j hj];constructor
  .rintro(h|h)
   .exact hlo j (.inl h)
   .exact hlo j (.inr (hN.sub j h))
  .intro hji;have:=w08.1 hall j (by simpa using hj);simp only[w0s] at this;rcases this with(q|q)|q
   .have:=w0u q;omega
   .exact .inl (z0t.1 q)
   .exact .inr (hkeys j (z0t.1 q))
 have hfu:ops.size-i<=fuel+1:=by
  have hc:=hN.fuel;have e1 :((List.range ops.size).filter λi=>!listed.getD i true) =(List.range ops.size).filter λj=>!Nat.blt j i:=by
   refine w57 λj hj=>?_
   have:listed.getD j true=Nat.blt j i:=by rw[w3n,hlis j (w0l.1 hj),w2d]
   rw[this]
  rw[e1] at hc;have e2:∀n,n-i<=((List.range n).filter λj=>!Nat.blt j i).length:=by
   intro n
   induction n with
   |zero=>simp
   |succ n ih=>
    rw[w1o,w4y,w0i];by_cases h:n<i
    .omega
    .have:Nat.blt n i=false:=by
      cases hb:Nat.blt n i with
      |false=>rfl
      |true=>exact absurd (w0u hb) h
     simp only[w5d,this,w2m,if_true,List.filter_nil,List.length_singleton];omega
  have:=e2 ops.size;omega
 have hchain:∀j,i<j->j<ops.size->j-1∈tab.deps j:=λj h1 h2=>by
  have:=w08.1 hch j (w0l.2 h2);simp only[w0s] at this;rcases this with q|q
  .have:=w0u q;omega
  .exact z0t.1 q
 have h0:=hW a w ⟨hd,hn,r,S,hw,he,zh0 hs λq x t hm _ ht=>hf q x t (hkeys q (w0h.2 ⟨_,hm,rfl⟩)) hm ht⟩;have h1:=zsl (rd:=C.rd) htab hk5 (ops.size-i) i (fuel+1) listed a w (by omega) hfu hN.size hlis hchain h0;exact h1.2 i (by
  have hr:=h1.1;simp only[Region.ready,w0v,w0l,w02,w0w];refine⟨hsz,?_,?_⟩
  .cases hb:listed.getD i true with
   |false=>rfl
   |true=>have:=(hlis i hsz).1 hb;omega
  .simp only[w2b hsz,w0r,w19,w2s];intro e hem;by_cases hb:Region.binds .any e=true
   .simp only[hb,w1r,w26];have htb:=zjq htab (i:=i) (o:=ops[i]) (by simp[hsz]);have hlt:=hk5 i (by rw[zit htab];exact hsz) e.on (by simp only[Tab.deps,htb];exact w0h.2 ⟨e,w0v.2 ⟨by simpa using hem,hb⟩,rfl⟩);have h4:=(hlis e.on (by omega)).2 hlt;have hb2:e.on<listed.size:=by rw[hN.size];omega
    simp[hb2] at h4⊢;exact h4
   .simp[hb])
theorem OpQ.slots[Dr]{o:Oper}{s s':St}{x:VP}(ho:s'.objs=s.objs)(hs:∀t A,s.slots t=some A->s'.slots t=some A)(h:OpQ C o s x):OpQ C o s' x:=by
 intro a w ro S Q hd hn hw hsl;have:=h a w ro S Q hd hn (ho ▸ hw) λt A ht=>hsl t A (hs t A ht)
 rw[ho];exact this
theorem GQ.slots[Dr]{o:Oper}{s s':St}{x:VP}(ho:s'.objs=s.objs)(hs:∀t A,s.slots t=some A->s'.slots t=some A)(h:GQ C tab o s x):GQ C tab o s' x:=by
 unfold GQ at h⊢;cases hg:o.guard with
 |none=>rw[hg] at h;exact h.slots ho hs
 |some jw=>rw[hg] at h;obtain⟨p,x0,t,h1,h2,h3,h4⟩:=h;exact⟨p,x0,t,h1,h2,λhp=>(h3 hp).slots ho hs,h4.imp (λ⟨g,a,b⟩=>⟨g,hs _ _ a,b⟩) λ⟨c,g,a,b⟩=>⟨c,g,hs _ _ a,b⟩⟩
end reg
section free
variable{V:TE}{N:Env V}{R:Type}{r:R}
theorem z5g{α β:Type}{p:Prop}[Decidable p]{x:Option α}{k:α->Option β}:(ck p x).bind k=ck p (x.bind k):=by unfold ck;split<;>rfl
theorem z1p{α β:Type}{b:Bool}{x y:Option α}{k:α->Option β}:(bif b then x else y).bind k=bif b then x.bind k else y.bind k:=by cases b<;>rfl
theorem y0i{s:SS V.T}{op:BinOp}{t:TypeId}{y:Operand}{a b:SV V.T}(k:SV V.T->Option R):binX V N s [] op t y a b k =(binX V N s [] op t y a b some).bind k:=by
 unfold binX;split
 .cases zqo op with
  |true=>simp only[cond_true];unfold shift;split<;>first|rfl |(split<;>rfl)|simp[ckG,z5g]
  |false=>
   simp only[cond_false];split
   .unfold zuu;split<;>first|rfl |(unfold zuu.ckD;split<;>first |(split<;>rfl)|simp[ckG,z5g])|simp[ckG,z5g]
   .rfl
 .split<;>rfl
 .split<;>rfl
 .split<;>rfl
 .split<;>rfl
 .split<;>first|rfl|simp[ckG,z5g]
 .split
  .rw[z1p];cases (!(z18 a&&z18 b)) with
   |true=>rfl
   |false=>
    simp only[cond_false];split
    .rw[z1p];cases N.P.eqGuardType N.P.depth t with
     |true=>rfl
     |false=>simp only[cond_false];split<;>rfl
    .rfl
  .rfl
theorem zl9{α β γ:Type}(x:Option α)(f:α->Option β)(g:β->Option γ):(x.bind f).bind g=x.bind λa=>(f a).bind g:=by cases x<;>rfl
theorem y1s{s:SS V.T}{o:Op}(hf:zt7 o=true)(ty:TypeId)(k:SV V.T->Option R):zn V N s [] o ty k =(zn V N s [] o ty some).bind k:=by
 cases o<;>simp[zt7] at hf
 case move x=>simp only[zn];split<;>rfl
 case assign x=>simp only[zn];split<;>rfl
 case nilCheck x=>simp only[zn];split<;>rfl
 case fieldAddr t x f=>
  simp only[zn];split<;>first|rfl|skip
  split<;>rfl
 case load t x=>
  simp only[zn];split<;>first|rfl|skip
  split
  .generalize (!_&&Nat.beq _ 1)=bb;cases bb<;>simp[ckG,z5g]
  .split<;>rfl
 case indexAddr t x i=>
  simp only[zn];split
  .cases Nat.beq _ _<;>simp[ckG,z5g]
  .split
   .cases Nat.beq _ _<;>simp[ckG,z5g]
   .cases Nat.beq _ _<;>simp[ckG,z5g]
   .cases Nat.beq _ _<;>simp[ckG,z5g]
   .rfl
  .split
   .split
    .cases (Nat.blt _ _&&Nat.beq _ _&&Nat.beq _ _)<;>simp[ckG,z5g]
    .rfl
   .rfl
  .cases (Nat.blt _ _&&Nat.beq _ _&&Nat.beq _ _)<;>simp[ckG,z5g]
  .cases (Nat.beq _ _&&Nat.beq _ _)<;>simp[ckG,z5g]
  .rfl
 case slice t x lo hi mx=>
  cases mx with
  |some o=>rfl
  |none=>
   simp only[zn];split
   .split
    .cases Nat.beq _ _<;>simp[ckG,z5g]
    .rfl
   .split
    .split
     .cases Nat.beq _ _<;>simp[ckG,z5g]
     .rfl
    .rfl
   .split
    .simp[ckG,z5g]
    .rfl
   .split
    .rw[z1p];rfl
    .rfl
   .split
    .split
     .simp[ckG,z5g]
     .rfl
    .rfl
   .rfl
 case build t parts=>
  simp only[zn];split
  .rw[z1p];congr 1
   .split<;>rfl
   .rw[z1p];congr 1;split<;>rfl
  .rfl
 case binOp op t x y c=>
  simp only[zn];split
  .exact y0i k
  .rfl
 case unOp op t x=>cases op<;>simp only[zn]<;>first|rfl |(split<;>rfl)
 case convert a b x=>
  simp only[zn];split
  .rw[z1p];rfl
  .split
   .split<;>rfl
   .rfl
  .rfl
 case extract x i=>
  simp only[zn];split
  .split<;>rfl
  .rfl
 case call c=>
  obtain⟨callee,args,ts⟩:=c;cases callee with
  |value fo=>
   cases fo with
   |func f=>
    simp only[zn];split
    .rw[z1p];congr 1;split
     .rw[z1p];congr 1;simp only[zpp,zl9];rfl
     .rfl
    .rfl
   |tmp t=>
    simp only[zn];split
    .split
     .split
      .simp only[zpp,zl9];rfl
      .rfl
     .rfl
    .split
     .rw[z1p];congr 1;split
      .rw[z1p];congr 1;simp only[zpp,zl9];rfl
      .rfl
     .rfl
    .rfl
   |const v=>simp only[zn];rfl
   |global g=>simp only[zn];rfl
  |builtin b=>
   cases b<;>simp at hf;simp only[zn];rcases hargs:args.toList with _|⟨x,_|⟨y,l⟩⟩
   .rfl
   .simp only;split
    .rw[z1p];rfl
    .split
     .rw[z1p];rfl
     .rw[z1p];rfl
     .rw[z1p];rfl
     .rw[z1p];rfl
     .rfl
    .rw[z1p];rfl
    .rw[z1p];rfl
    .rw[z1p];rfl
    .rfl
   .rfl
  |_=>simp at hf
structure SubS(s s':SS V.T):Prop where
 sl:∀(t:Nat)(x:Ch×SV V.T),lk s.sl t=some x->lk s'.sl t=some x
 kn:s'.kn=s.kn
 ob:∀(i:Nat)(x:SO V.T),s.ob[i]? = some x->x=SO.emp\/s'.ob[i]? = some x
theorem SubS.ev{s s':SS V.T}(h:SubS s s'){o:Operand}{ch:Ch}{x:SV V.T}(hx:evO s.sl ch o=some x):evO s'.sl ch o=some x:=by
 cases o with
 |tmp t=>
  simp only[evO] at hx⊢;cases hl:lk s.sl t with
  |none=>rw[hl] at hx;cases hx
  |some e=>rw[hl] at hx;rw[h.sl t e hl];exact hx
 |const v=>exact hx
 |func f=>exact hx
 |global g=>exact hx
theorem SubS.at{s s':SS V.T}(h:SubS s s'){i:Nat}{x:SO V.T}(hx:s.ob[i]? = some x)(he:x≠SO.emp):s'.ob[i]? = some x:=(h.ob i x hx).resolve_left he
theorem ydu{s s':SS V.T}(h:SubS s s'){g:Bool}{n:Nat}{p v:SV V.T}(hv:ld V s g n p=some v):ld V s' g n p=some v:=by
 cases p<;>simp only[ld] at hv⊢
 case ptr i off=>
  split at hv
  .rename_i ho;rw[h.at ho (by simp)];exact hv
  .cases hv
 case pta i off m z idx cnt fo=>
  split at hv
  .rename_i ho;rw[h.at ho (by simp)];exact hv
  .cases hv
 case rop cs=>exact hv
 case elt i k z fo=>
  split at hv
  .rename_i ho;rw[h.at ho (by simp)];exact hv
  .rename_i ho;rw[h.at ho (by simp)];exact hv
  .cases hv
 all_goals cases hv
theorem zj3{s s':SS V.T}(h:SubS s s'){ch:Ch}{d:Int}{o:Option Operand}{m:Int}(hb:bdX V s.sl ch d o=some m):bdX V s'.sl ch d o=some m:=by
 cases o with
 |none=>exact hb
 |some o=>
  simp only[bdX] at hb⊢;split at hb
  .rename_i k q hq;simp only[h.ev (z05 hq),w03,zbp];exact hb
  .cases hb
theorem y6q{s s':SS V.T}(h:SubS s s'){p:SV V.T}{q:Int×Int×Nat}(hq:zje V s p=some q):zje V s' p=some q:=by
 unfold zje at hq⊢;split at hq
 .split at hq
  .rename_i ho;simp only[h.at ho (by simp)];exact hq
  .cases hq
 .cases hq
theorem yb7{s s':SS V.T}(h:SubS s s'){g:Bool}{n:Nat}{p v:SV V.T}(hv:ld V s g n p=some v):zje V s' p=none:=by
 unfold zje;split
 .rename_i i m z;simp only[ld] at hv;split at hv
  .rename_i ho;rw[h.at ho (by simp)]
  .rename_i ho;rw[h.at ho (by simp)]
  .cases hv
 .rfl
theorem zx3{g g' :(c:Nat)->List (SV V.T)->Option (V.T c×List (SV V.T))}(hg:∀c l y,g c l=some y->g' c l=some y):∀(fs:List Nat)(l:List (SV V.T))(y:Tup V.T fs×List (SV V.T)),decT g fs l=some y->decT g' fs l=some y
 | [],_,_,h=>h
 |c::cs,l,y,h=>by
  simp only[decT] at h⊢;cases h1:g c l with
  |none=>rw[h1] at h;cases h
  |some p=>
   rw[h1] at h;rw[hg _ _ _ h1];simp only at h⊢;cases h2:decT g cs p.2 with
   |none=>rw[h2] at h;cases h
   |some q=>rw[h2] at h;rw[zx3 hg cs _ _ h2];exact h
theorem y87{rd rd' :(c:Nat)->SV V.T->Option (List (V.T c))}(hr:∀c x l,rd c x=some l->rd' c x=some l){kc vc:Nat}{x:SV V.T}{l:List (V.T kc×V.T vc)}(h:rdMp rd kc vc x=some l):rdMp rd' kc vc x=some l:=by
 unfold rdMp at h⊢;split at h
 .exact h
 .split at h
  .rename_i q hq;rw[hr _ _ _ hq];exact h
  .cases h
 .cases h
theorem y68{rd rd' :(c:Nat)->SV V.T->Option (List (V.T c))}{g g' :(c:Nat)->List (SV V.T)->Option (V.T c×List (SV V.T))}(hr:∀c x l,rd c x=some l->rd' c x=some l)(hg:∀c l y,g c l=some y->g' c l=some y):
  ∀{α:Type}(d:Ds V.T α)(l:List (SV V.T))(y:α×List (SV V.T)),decD rd g d l=some y->decD rd' g' d l=some y:=by
 intro α d l y h;cases d with
 |sl c=>
  cases l with
  |nil=>simp[decD] at h
  |cons x l=>
   simp only[decD] at h⊢;cases h1:rd c x with
   |none=>rw[h1] at h;cases h
   |some m=>rw[h1] at h;rw[hr _ _ _ h1];exact h
 |map kc vc=>
  cases l with
  |nil=>simp[decD] at h
  |cons x l=>
   simp only[decD] at h⊢;cases h1:rdMp rd kc vc x with
   |none=>rw[h1] at h;cases h
   |some m=>rw[h1] at h;rw[y87 hr h1];exact h
 |st fs mk un law=>
  simp only[decD] at h⊢;cases h1:decT g fs l with
  |none=>rw[h1] at h;cases h
  |some p=>rw[h1] at h;rw[zx3 hg _ _ _ h1];exact h
 |int k=>cases l with
  |nil=>simp[decD] at h
  |cons x l=>cases x<;>exact h
 |bool=>cases l with
  |nil=>simp[decD] at h
  |cons x l=>cases x<;>exact h
 |str=>cases l with
  |nil=>simp[decD] at h
  |cons x l=>cases x<;>exact h
 |arr n c=>cases l with
  |nil=>simp[decD] at h
  |cons x l=>cases x<;>exact h
theorem zx2{rd rd' :(c:Nat)->SV V.T->Option (List (V.T c))}(hr:∀c x l,rd c x=some l->rd' c x=some l):∀(n c:Nat)(l:List (SV V.T))(y:V.T c×List (SV V.T)),decN V rd n c l=some y->decN V rd' n c l=some y
 |0,_,_,_,h=>by simp[decN] at h
 |n+1,c,l,y,h=>y68 hr (zx2 hr n) (V.d c) l y h
theorem zx1{rd rd' :(c:Nat)->SV V.T->Option (List (V.T c))}(hr:∀c x l,rd c x=some l->rd' c x=some l){c:Nat}{l:List (SV V.T)}{y:V.T c}(h:V.decC rd c l=some y):V.decC rd' c l=some y:=by
 unfold TE.decC at h⊢;cases h1:decN V rd (c+1) c l with
 |none=>rw[h1] at h;cases h
 |some p=>rw[h1] at h;rw[zx2 hr _ _ _ _ h1];exact h
theorem yaq{rd rd' :(c:Nat)->SV V.T->Option (List (V.T c))}(hr:∀c x l,rd c x=some l->rd' c x=some l){c:Nat}{x:SV V.T}{y:V.T c}(h:V.dec rd c x=some y):V.dec rd' c x=some y:=by
 unfold TE.dec at h⊢;cases hb :(z5o (V.d c)==z18 x) with
 |false=>rw[hb] at h;cases h
 |true=>rw[hb] at h;exact zx1 hr h
theorem SubS.rd{s s':SS V.T}(h:SubS s s')(c:Nat)(x:SV V.T)(l:List (V.T c))(hl:rdSl s.ob c x=some l):rdSl s'.ob c x=some l:=by
 unfold rdSl at hl⊢;split at hl
 .exact hl
 .split at hl
  .rename_i ho;simp only[h.at ho (by simp)];exact hl
  .rename_i ho;simp only[h.at ho (by simp)];exact hl
  .cases hl
 .exact hl
 .cases hl
theorem SubS.rdB{s s':SS V.T}(h:SubS s s')(c:Nat)(x:SV V.T)(l:List (V.T c))(hl:rdB s.ob c x=some l):rdB s'.ob c x=some l:=by
 unfold Px.rdB at hl⊢;split at hl
 .exact hl
 .split at hl
  .rename_i ho;simp only[h.at ho (by simp)];exact hl
  .cases hl
 .exact hl
 .cases hl
theorem SubS.rdQ{s s':SS V.T}(h:SubS s s'){res:List RC}(c:Nat)(x:SV V.T)(l:List (V.T c))(hl:rdQ V s.ob res c x=some l):rdQ V s'.ob res c x=some l:=by
 unfold Px.rdQ at hl⊢;cases h1:res.all (flR V) with
 |true=>rw[h1] at hl;exact h.rd c x l hl
 |false=>
  rw[h1] at hl;cases h2:res.all (sepR V) with
  |true=>rw[h2] at hl;exact h.rdB c x l hl
  |false=>rw[h2] at hl;exact hl
theorem zkr{rd rd' :(c:Nat)->SV V.T->Option (List (V.T c))}(hr:∀c x l,rd c x=some l->rd' c x=some l){s s':SS V.T}(h:SubS s s'){ch:Ch}: ∀{cs:List Nat}{os:List Operand}{a:Tup V.T cs},decA V rd s.sl ch cs os=some a->decA V rd' s'.sl ch cs os=some a
 | [],[],_,ha=>ha
 |c::cs,o::os,a,ha=>by
  simp only[decA] at ha⊢;cases h1:evO s.sl ch o with
  |none=>rw[h1] at ha;cases ha
  |some x=>
   rw[h1] at ha;rw[h.ev h1];simp only at ha⊢;cases h2:V.dec rd c x with
   |none=>simp only[h2] at ha;cases ha
   |some y=>
    simp only[h2] at ha;simp only[yaq hr h2];cases h3:decA V rd s.sl ch cs os with
    |none=>rw[h3] at ha;cases ha
    |some b=>rw[h3] at ha;rw[zkr hr h h3];exact ha
 | [],_::_,_,ha=>by simp[decA] at ha
 |_::_,[],_,ha=>by simp[decA] at ha
theorem y5x{s s':SS V.T}(h:SubS s s'){c:Nat}{x:SV V.T}{y:V.T c}(hy:capX V s.ob c x=some y):capX V s'.ob c x=some y:=by
 unfold capX at hy⊢;split at hy
 .exact hy
 .split at hy
  .rename_i ho;simp only[h.at ho (by simp)];exact zx1 h.rd hy
  .cases hy
 .cases hy
theorem y5v{s s':SS V.T}(h:SubS s s'){kc vc:Nat}{x:SV V.T}{y:List (V.T kc×V.T vc)}(hy:capM V s.ob kc vc x=some y):capM V s'.ob kc vc x=some y:=by
 unfold capM at hy⊢;split at hy
 .exact hy
 .split at hy
  .rename_i ho;simp only[h.at ho (by simp)];split at hy
   .rename_i ho2;simp only[h.at ho2 (by simp)];exact hy
   .cases hy
  .rename_i ho;simp only[h.at ho (by simp)];exact hy
  .cases hy
 .cases hy
theorem zwv{s s':SS V.T}(h:SubS s s'){k:KB}{x:SV V.T}{y:k.T V.T}(hy:capB V s.ob k x=some y):capB V s'.ob k x=some y:=by
 cases k with
 |val c=>exact y5x h hy
 |map kc vc=>exact y5v h hy
theorem zla{s s':SS V.T}(h:SubS s s'):∀{cs:List KB}{l:List (SV V.T)}{b:KBs V.T cs},zfg V s.ob cs l=some b->zfg V s'.ob cs l=some b
 | [],[],_,hb=>hb
 |c::cs,x::l,b,hb=>by
  simp only[zfg] at hb⊢;split at hb
  .rename_i y r h1 h2;rw[zwv h h1,zla h h2];exact hb
  .cases hb
 | [],_::_,_,hb=>by simp[zfg] at hb
 |_::_,[],_,hb=>by simp[zfg] at hb
theorem y5s{s s':SS V.T}(h:SubS s s'){k:KC}{x:SV V.T}{y:k.T V.T}(hy:capC V s.ob k x=some y):capC V s'.ob k x=some y:=by
 cases k with
 |b k=>exact zwv h hy
 |fn f ks=>
  change capF V s.ob f ks x=some y at hy;change capF V s'.ob f ks x=some y;unfold capF at hy⊢;split at hy
  .rename_i g l;cases hb:Nat.beq f g with
   |false=>rw[hb] at hy;cases hy
   |true=>rw[hb] at hy;exact zla h hy
  .split at hy
   .rename_i g l ho;simp only[h.at ho (by simp)];cases hb:Nat.beq f g with
    |false=>rw[hb] at hy;cases hy
    |true=>rw[hb] at hy;exact zla h hy
   .cases hy
  .cases hy
theorem zsh{s s':SS V.T}(h:SubS s s'):∀{cs:List KC}{l:List (SV V.T)}{b:KCs V.T cs},zdz V s.ob cs l=some b->zdz V s'.ob cs l=some b
 | [],[],_,hb=>hb
 |c::cs,x::l,b,hb=>by
  simp only[zdz] at hb⊢;split at hb
  .rename_i y r h1 h2;rw[y5s h h1,zsh h h2];exact hb
  .cases hb
 | [],_::_,_,hb=>by simp[zdz] at hb
 |_::_,[],_,hb=>by simp[zdz] at hb
theorem SubS.storable{s s':SS V.T}(h:SubS s s'){x:SV V.T}(hx:storable V s.ob x=true):storable V s'.ob x=true:=by
 unfold Px.storable at hx⊢;simp only[w0s] at hx⊢;refine hx.imp id λhx=>?_
 cases x<;>simp only[oneS] at hx⊢<;>first|exact hx|skip
 split at hx
 .rename_i ho;simp only[h.at ho (by simp)]
 .rename_i ho;simp only[h.at ho (by simp)]
 .cases hx
theorem zqr{s s':SS V.T}(h:SubS s s'){P:Program}{t:TypeId}{ch:Ch}: ∀{ps:List (Nat×Operand)}{cs v:List (SV V.T)},layX V P t s.ob s.sl ch cs ps=some v->layX V P t s'.ob s'.sl ch cs ps=some v
 | [],_,_,hv=>hv
 |(i,o)::ps,cs,v,hv=>by
  simp only[layX] at hv⊢;split at hv
  .rename_i off n x h1 h2;simp only[h.ev h2];cases hb :(Nat.beq n (clen V (cellsOf x))&&storable V s.ob x) with
   |false=>rw[hb] at hv;cases hv
   |true=>
    rw[hb] at hv;simp only[w02] at hb;simp only[cond_true] at hv;simp only[h1,hb.1,h.storable hb.2,w4g,cond_true];split at hv
    .exact zqr h hv
    .cases hv
  .cases hv
theorem ya8{s s':SS V.T}(hss:SubS s s'){op:BinOp}{t:TypeId}{y:Operand}{a b:SV V.T}{k:SV V.T->Option R}(h:binX V N s [] op t y a b k=some r):binX V N s' [] op t y a b k=some r:=by
 unfold binX at h⊢;split at h
 .cases hs:zqo op with
  |true=>rw[hs] at h;simp only[cond_true] at h⊢;unfold shift at h⊢;exact h
  |false=>
   rw[hs] at h;simp only[cond_false] at h⊢;split at h
   .rename_i e;rw[if_pos e];unfold zuu at h⊢;exact h
   .cases h
 .exact h
 .exact h
 .split at h
  .rename_i hu ho;simp only[hu,hss.at ho (by simp)];exact h
  .cases h
 .exact h
 .exact h
 .exact h
theorem zql{s s':SS V.T}(h:SubS s s'){o:Op}(hf:zt7 o=true){ty:TypeId}{k:SV V.T->Option R}(hr:zn V N s [] o ty k=some r):zn V N s' [] o ty k=some r:=by
 have hk:=h.kn;cases o<;>simp[zt7] at hf
 case move x=>
  simp only[zn] at hr⊢;rw[hk];split at hr
  .rename_i v hv;rw[h.ev hv];exact hr
  .cases hr
 case assign x=>
  simp only[zn] at hr⊢;rw[hk];split at hr
  .rename_i v hv;rw[h.ev hv];exact hr
  .cases hr
 case nilCheck x=>
  simp only[zn] at hr⊢;rw[hk];split at hr
  .rename_i i o hv;rw[h.ev hv];exact hr
  .cases hr
 case fieldAddr t x f=>
  simp only[zn] at hr⊢;rw[hk];split at hr
  .rename_i hof hv;simp only[hof,h.ev hv];exact hr
  .rename_i hof hv;simp only[hof,h.ev hv];exact hr
  .rename_i hof hv;simp only[hof,h.ev hv];exact hr
  .rename_i hof hv;simp only[hof,h.ev hv];exact hr
  .cases hr
 case load t x=>
  simp only[zn] at hr⊢;rw[hk];split at hr
  .rename_i g n p ht hv;simp only[ht,h.ev hv];split at hr
   .rename_i hh;simp only[y6q h hh];exact hr
   .split at hr
    .rename_i v hl;simp only[yb7 h hl,ydu h hl];exact hr
    .cases hr
  .cases hr
 case slice t x lo hi mx=>
  cases mx with
  |some o=>cases hr
  |none=>
   simp only[zn] at hr⊢;rw[hk];split at hr
   .rename_i ht hx;simp only[ht,h.ev hx];split at hr
    .rename_i hm hn;simp only[zj3 h hm,zj3 h hn];exact hr
    .cases hr
   .rename_i ht hx;simp only[ht,h.ev hx];split at hr
    .rename_i ho;simp only[h.at ho (by simp)];split at hr
     .rename_i hm hn;simp only[zj3 h hm,zj3 h hn];exact hr
     .cases hr
    .cases hr
   .rename_i ht hx;simp only[ht,h.ev hx];split at hr
    .rename_i hm hn;simp only[zj3 h hm,zj3 h hn];exact hr
    .cases hr
   .rename_i ht hx;simp only[ht,h.ev hx];exact hr
   .rename_i ht hx;simp only[ht,h.ev hx];split at hr
    .rename_i hu
     try simp only[hu]
     split at hr
     .rename_i hm hn;simp only[zj3 h hm,zj3 h hn];exact hr
     .cases hr
    .cases hr
   .cases hr
 case indexAddr t x i=>
  simp only[zn] at hr⊢;rw[hk];split at hr
  .rename_i ht hx hi;have hi':=z05 hi;simp only[ht,h.ev hx,h.ev hi',w03,zbp];exact hr
  .rename_i ht hx hi;have hi':=z05 hi;simp only[ht,h.ev hx,h.ev hi',w03,zbp];split at hr
   .rename_i ho;simp only[h.at ho (by simp)];exact hr
   .rename_i ho;simp only[h.at ho (by simp)];exact hr
   .rename_i ho;simp only[h.at ho (by simp)];exact hr
   .cases hr
  .rename_i ht hx hi;have hi':=z05 hi;simp only[ht,h.ev hx,h.ev hi',w03,zbp];split at hr
   .rename_i ho;simp only[h.at ho (by simp)];exact hr
   .cases hr
  .rename_i ht hx hi;have hi':=z05 hi;simp only[ht,h.ev hx,h.ev hi',w03,zbp];exact hr
  .rename_i ht hx hi;have hi':=z05 hi;simp only[ht,h.ev hx,h.ev hi',w03,zbp];exact hr
  .cases hr
 case build t parts=>
  simp only[zn] at hr⊢;rw[hk];split at hr
  .rename_i zs hz;cases hb :(zdn V (V.zero (V.code t)) zs&&zjr N.P t) with
   |true=>
    rw[hb] at hr;simp only[cond_true] at hr⊢;split at hr
    .rename_i v hv;simp only[zqr h hv];exact hr
    .cases hr
   |false=>
    rw[hb] at hr;simp only[cond_false] at hr⊢;cases hb2 :(zs.all (·.oneCell')&&zjr N.P t) with
    |false=>rw[hb2] at hr;cases hr
    |true=>
     rw[hb2] at hr;simp only[cond_true] at hr⊢;split at hr
     .rename_i v hv;simp only[zqr h hv];exact hr
     .cases hr
  .cases hr
 case binOp op t x y c=>
  simp only[zn] at hr⊢;rw[hk];split at hr
  .rename_i hx hy;simp only[h.ev hx,h.ev hy];exact ya8 h hr
  .cases hr
 case unOp op t x=>
  cases op with
  |neg=>
   simp only[zn] at hr⊢;rw[hk];split at hr
   .rename_i i m hb;have hb':=z05 hb;simp only[h.ev hb',w03,zbp];exact hr
   .cases hr
  |xor=>
   simp only[zn] at hr⊢;rw[hk];split at hr
   .rename_i i m hb;have hb':=z05 hb;simp only[h.ev hb',w03,zbp];exact hr
   .cases hr
  |not=>
   simp only[zn] at hr⊢;rw[hk];split at hr
   .rename_i b hb;have hb':=z9x hb;simp only[h.ev hb',w03,zgb];exact hr
   .cases hr
  |plus=>simp[zn] at hr
 case convert a b x=>
  simp only[zn] at hr⊢;rw[hk];split at hr
  .rename_i i j m hu hb;have hb':=z05 hb;simp only[hu,h.ev hb',w03,zbp];exact hr
  .rename_i E q hu;split at hr
   .rename_i b he hs hx;simp only[hu,he,hs,h.ev hx];exact hr
   .cases hr
  .cases hr
 case extract x i=>
  simp only[zn] at hr⊢;rw[hk];split at hr
  .rename_i l hx;simp only[h.ev hx];exact hr
  .cases hr
 case call c=>
  obtain⟨callee,args,ts⟩:=c;cases callee with
  |value fo=>
   cases fo with
   |func f=>
    simp only[zn] at hr⊢;rw[hk];split at hr
    .rename_i sp hsp;cases h1:sp.res.any zd2 with
     |true=>rw[h1] at hr;cases hr
     |false=>
      rw[h1] at hr;simp only[cond_false] at hr⊢;split at hr
      .rename_i a ha;have:decA V (Px.rdQ V s'.ob sp.res) s'.sl ([]++s.kn) sp.args args.toList=some a:=zkr h.rdQ h ha;simp only[this];exact hr
      .cases hr
    .cases hr
   |tmp t=>
    simp only[zn] at hr⊢;rw[hk];split at hr
    .rename_i c f hf;simp only[h.ev hf];split at hr
     .rename_i x y _;split at hr
      .rename_i a b ha hb;cases hx:evO s.sl ([]++s.kn) x with
       |none=>rw[hx] at ha;cases ha
       |some vx=>
        cases hy:evO s.sl ([]++s.kn) y with
        |none=>rw[hy] at hb;cases hb
        |some vy=>rw[hx] at ha;rw[hy] at hb;simp only[h.ev hx,h.ev hy,ha,hb];exact hr
      .cases hr
     .cases hr
    .rename_i f caps hf;simp only[h.ev hf];split at hr
     .rename_i sp hsp;cases h1:sp.res.any zd2 with
      |true=>rw[h1] at hr;cases hr
      |false=>
       rw[h1] at hr;simp only[cond_false] at hr⊢;split at hr
       .rename_i a b ha hb;cases h2:sp.res.all (flR V) with
        |true=>rw[h2] at ha hb;simp only[cond_true] at ha hb;simp only[cond_true,zkr h.rd h ha,zsh h hb];exact hr
        |false=>rw[h2] at ha hb;simp only[cond_false] at ha hb;simp only[cond_false,zkr (λ_ _ _ h=>h) h ha,hb];exact hr
       .cases hr
     .cases hr
    .cases hr
   |const v=>simp[zn] at hr
   |global g=>simp[zn] at hr
  |builtin b=>
   cases b<;>simp at hf;simp only[zn] at hr⊢;rw[hk];rcases hargs:args.toList with _|⟨x,_|⟨y,l⟩⟩
   .simp only[hargs] at hr;cases hr
   .simp only[hargs] at hr⊢;split at hr
    .rename_i hx;simp only[h.ev hx];exact hr
    .rename_i hx;simp only[h.ev hx];split at hr
     .rename_i ho;simp only[h.at ho (by simp)];exact hr
     .rename_i ho;simp only[h.at ho (by simp)];exact hr
     .rename_i ho;simp only[h.at ho (by simp)];exact hr
     .rename_i ho;simp only[h.at ho (by simp)];exact hr
     .cases hr
    .rename_i hx;simp only[h.ev hx];exact hr
    .rename_i hx;simp only[h.ev hx];exact hr
    .rename_i hx;simp only[h.ev hx];exact hr
    .cases hr
   .simp only[hargs] at hr;cases hr
  |_=>simp at hf
end free
end Px
end
section
namespace Px
open Go Go.RowKit
section
variable{V:TE}{N:Env V}{R:Type}{r:R}
theorem zkt{f:Nat->Bool}{bs:Sls V.T}{es:List (DE V.T)}{t:Nat}{x:Ch×SV V.T}(h:lk (drSl V f bs es) t=some x):(∃e∈es,f e.1=true/\e.2 =(t,x))\/lk bs t=some x:=by
 unfold drSl at h;rw[zte] at h;cases hl:lk ((es.filter λe=>f e.1).map (·.2)) t with
 |none=>rw[hl] at h;exact .inr h
 |some y=>rw[hl] at h;simp only[w00] at h;subst h;obtain⟨e,he,h2⟩:=w0h.1 (zei hl);obtain⟨h3,h4⟩:=w0v.1 he;exact .inl ⟨e,h3,h4,h2⟩
theorem zfk{α:Type}: ∀{l:List (Nat×α)}{t:Nat}{x:α},(t,x)∈l->∃y,lk l t=some y
 |(k,y)::l,t,x,h=>by
  rw[z0c];by_cases e:t=k
  .exact⟨y,by rw[if_pos e]⟩
  .rw[if_neg e];rcases w0c.1 h with h|h
   .cases h;exact absurd rfl e
   .exact zfk h
theorem zx4{tab:Tab}{gb:List (Nat×Bool)}{bs:Sls V.T}{new es:List (DE V.T)}(h:EsOK tab gb bs (new++es))(f:Nat->Bool){t:Nat}{x:Ch×SV V.T}(hx:lk (drSl V f bs es) t=some x):lk (drSl V f bs (new++es)) t=some x:=by
 have hs:∃y,lk (drSl V f bs (new++es)) t=some y:=by
  rcases zkt hx with⟨e,he,hf,h2⟩|hb
  .refine zfk (x:=x) ?_;unfold drSl;refine w1g _ (w0h.2 ⟨e,w0v.2 ⟨w1j _ he,hf⟩,h2⟩)
  .unfold drSl;rw[zte];cases lk (((new++es).filter λe=>f e.1).map (·.2)) t with
   |some y=>exact⟨y,rfl⟩
   |none=>exact⟨x,hb⟩
 obtain⟨y,hy⟩:=hs;rw[hy];rcases zkt hx with⟨e,he,hf,h2⟩|hb
 .rcases zkt hy with⟨e',he',hf',h2'⟩|hb'
  .have:=h.inj e (w1j _ he) e' he' (by rw[h2,h2'])
   subst this;rw[h2] at h2';cases h2';rfl
  .rcases h.bs e (w1j _ he) with this|⟨this,_⟩
   .rw[h2] at this;change lk bs t=none at this;rw[this] at hb';cases hb'
   .rw[h2] at this;change lk bs t=some x at this;rw[<- hb',this]
 .rcases zkt hy with⟨e',he',hf',h2'⟩|hb'
  .rcases h.bs e' he' with this|⟨this,_⟩
   .rw[h2'] at this;change lk bs t=none at this;rw[this] at hb;cases hb
   .rw[h2'] at this;change lk bs t=some y at this;rw[<- this,hb]
  .rw[<- hb,hb']
def Cls(ops:List Oper)(clo:List Nat)(n0:Nat)(later:List Nat)(q:Nat)(obm:List (SO V.T)):Prop:=∀l∈later,bitB (clo.getD l 0) q=false->∀(i:Nat)(x:SO V.T),obm[i]? = some x->x=SO.emp\/ztc ops n0 l i (zdk x)=true
def zdo(N:Env V)(ops:Array Oper)(clo:List Nat)(n0:Nat)(later:List Nat)(bs:Sls V.T)(es:List (DE V.T))(s:SS V.T)(e:DE V.T):Prop:=
 ∃(o:Oper)(obm:List (SO V.T)),ops[e.1]? = some o/\o.guard=none/\zt7 o.op=true/\e.2.2.1 = []/\(∀(i:Nat)(x:SO V.T),obm[i]? = some x->x=SO.emp\/s.ob[i]? = some x)/\Cls ops.toList clo n0 later e.1 obm/\
  zn V N { s with sl:=drSl V (memB (z0d o)) bs es,ob:=obm } [] o.op o.type some=some e.2.2.2
theorem y1t[Dr](hN:z5f V N){C:Cx N.P}{A:Asg}{ops:Array Oper}{clo:List Nat}{n0:Nat}{later:List Nat}{bs:Sls V.T}{es:List (DE V.T)}{s:SS V.T}{e:DE V.T}(h:zdo N ops clo n0 later bs es s e)(hes:EsOK (z0j ops) s.gb bs es)
  (hgb:GbOK (⟨bs,s.gb,s.kn,s.n⟩:Fm V.T)) (hkn:chP s.gb s.kn) (h1:OneA V A s.ob) :
  ∃o,ops[e.1]? = some o/\GQ C (z0j ops) o ⟨z3z (z0j ops) (memB (Tab.deps (z0j ops) e.1)) (slD V N.P A s.gb bs) (qrOf N.P A s.gb es),obD V N.P A A s.ob⟩ (denE V N.P A s.gb e.2.2):=by
 obtain⟨o,obm,ho,hg,hf,hch,hob,hcls,hq⟩:=h;refine⟨o,ho,?_⟩;have h2:=zql (s:={ s with sl:=drSl V (memB (z0d o)) bs es,ob:=obm }) (s':={ s with sl:=drSl V (memB (z0d o)) bs es }) ⟨λ_ _ h=>h,rfl,hob⟩ hf hq;obtain⟨v,hv,hQ⟩:=zd3 (C:=C) (A:=A) (s:={ s with sl:=drSl V (memB (z0d o)) bs es }) hN hkn (hes.gb hgb _) h1 h2;cases hv;rw[zfc ho,z74 _ hes.dst];obtain⟨dst,op,ty,pos,aft,guard⟩:=o;simp only at hg;subst hg;have:=hQ trivial dst pos aft none;unfold GQ denE;rw[hch];exact this
theorem zdo.more{ops:Array Oper}{clo:List Nat}{n0:Nat}{later:List Nat}{bs:Sls V.T}{new es:List (DE V.T)}{s s':SS V.T}{e:DE V.T}(h:zdo N ops clo n0 later bs es s e){gb:List (Nat×Bool)}(hes:EsOK (z0j ops) gb bs (new++es))(hk:s'.kn=s.kn)(ho:s'.ob=s.ob):
  zdo N ops clo n0 later bs (new++es) s' e:=by
 obtain⟨o,obm,h1,h2,h3,h4,h5,h6,h7⟩:=h;refine⟨o,obm,h1,h2,h3,h4,by rw[ho];exact h5,h6,zql (s:={ s with sl:=drSl V (memB (z0d o)) bs es,ob:=obm }) (s':={ s' with sl:=drSl V (memB (z0d o)) bs (new++es),ob:=obm }) ⟨λt x hx=>zx4 hes _ hx,hk,λi x hx=>.inr hx⟩ h3 h7⟩
theorem zre{ops:List Oper}{n0:Nat}{ls:List Nat}: ∀(ob:List (SO V.T))(i0 i:Nat)(x:SO V.T),(zzp V ops n0 ls i0 ob)[i]? = some x->x=SO.emp\/(ob[i]? = some x/\∀l∈ls,ztc ops n0 l (i0+i) (zdk x)=true)
 | [],i0,i,x,h=>by simp[zzp] at h
 |y::ob,i0,0,x,h=>by
  simp only[zzp,w31,w00] at h;cases hb :(ls.all λl=>ztc ops n0 l i0 (zdk y)) with
  |true=>rw[hb] at h;simp only[cond_true] at h;subst h;exact .inr ⟨rfl,λl hl=>w08.1 hb l hl⟩
  |false=>rw[hb] at h;exact .inl h.symm
 |y::ob,i0,i+1,x,h=>by
  simp only[zzp,w2n] at h⊢;have:=zre ob (i0+1) i x h
  rwa [Nat.add_right_comm,w2h] at this
theorem ycs{clo:List Nat}{ops:Array Oper}{n0 q:Nat}{o:Oper}{later:List Nat}{ob obm:List (SO V.T)}(h:seen V clo ops.toList n0 q o later ob=some obm):
  (obm=ob/\∀l∈later,bitB (clo.getD l 0) q=true)\/(o.guard=none/\zt7 o.op=true/\(∀(i:Nat)(x:SO V.T),obm[i]? = some x->x=SO.emp\/ob[i]? = some x)/\Cls ops.toList clo n0 later q obm):=by
 unfold seen at h;split at h
 .rename_i hl;simp only[w00] at h;refine .inl ⟨h.symm,λl hlm=>?_⟩;cases hb:bitB (clo.getD l 0) q with
  |true=>rfl
  |false=>
   have:l∈later.filter λl=>!bitB (clo.getD l 0) q:=w0v.2 ⟨hlm,by rw[hb];rfl⟩
   rw[hl] at this;cases this
 .cases hb :(zt7 o.op&&o.guard.isNone) with
  |false=>rw[hb] at h;cases h
  |true=>
   rw[hb] at h;simp only[w02,w3f] at hb;simp only[cond_true,w00] at h;subst h;refine .inr ⟨hb.2,hb.1,λi x hx=>(zre ob 0 i x hx).imp id (·.1),λl hl hbl i x hx=>?_⟩;refine(zre ob 0 i x hx).imp id λq=>?_
   have:=q.2 l (w0v.2 ⟨hl,by rw[hbl];rfl⟩)
   rwa [w13] at this
theorem y8g{T:Nat->Type}{x y:SV T}(h:y8f x y=true):x=y:=by
 cases x<;>cases y<;>first
  |(simp only[y8f,w02] at h;obtain⟨h1,h2⟩:=h;rw[w01 h1,w01 h2])
  |(simp only[y8f] at h;rw[w01 h])
  |cases h
theorem zya{T:Nat->Type}: ∀{l m:List (SV T)},y8h l m=true->l=m
 | [],[],_=>rfl
 | [],_::_,h=>by cases h
 |_::_,[],h=>by cases h
 |x::l,y::m,h=>by simp only[y8h,w02] at h;rw[y8g h.1,zya h.2]
theorem y9r{T:Nat->Type}{x:Option (Ch×SV T)}{v:SV T}(h:okB x v=true):x=none\/(x=some ([],v)/\y6x v=true):=by
 cases x with
 |none=>exact .inl rfl
 |some e=>
  obtain⟨ch,w⟩:=e;cases ch with
  |cons p l=>cases h
  |nil=>
   change ycq v w=true at h;cases v with
   |func f l=>
    cases w with
    |func g m=>simp only[ycq,w02] at h;have:=w01 h.1;subst this;rw[zya h.2];exact .inr ⟨rfl,rfl⟩
    |_=>cases h
   |_=>cases h
theorem y4f[Dr](hN:z5f V N){C:Cx N.P}{A:Asg}{ops:Array Oper}{clo:List Nat}{n0:Nat}{later:List Nat}{bs:Sls V.T}{k:SS V.T->List (DE V.T)->Option R}: ∀(is:List Nat)(s:SS V.T)(es:List (DE V.T)),segX V N ops clo n0 later bs is s es k=some r->
  EsOK (z0j ops) s.gb bs es->GbOK (⟨bs,s.gb,s.kn,s.n⟩:Fm V.T)->chP s.gb s.kn->OneA V A s.ob->
  ∃(gb':List (Nat×Bool))(new:List (DE V.T)),GbX s.gb gb'/\k { s with gb:=gb' } (new++es)=some r/\EsOK (z0j ops) gb' bs (new++es)/\GbOK (⟨bs,gb',s.kn,s.n⟩:Fm V.T)/\
   ∀e∈new,(∃o,ops[e.1]? = some o/\GQ C (z0j ops) o ⟨z3z (z0j ops) (memB (Tab.deps (z0j ops) e.1)) (slD V N.P A gb' bs) (qrOf N.P A gb' (new++es)),obD V N.P A A s.ob⟩ (denE V N.P A gb' e.2.2))/\
    ((∃l∈later,bitB (clo.getD l 0) e.1=false)->zdo N ops clo n0 later bs (new++es) { s with gb:=gb' } e)
 | [],s,es,h,hes,hgb,hkn,h1=>⟨s.gb,[],GbX.refl _,h,hes,hgb,λe he=>absurd he w1q⟩
 |i::is,s,es,h,hes,hgb,hkn,h1=>by
  simp only[segX] at h;cases ho:ops[i]? with
  |none=>rw[ho] at h;cases h
  |some o=>
  rw[ho] at h;simp only at h;split at h
  .rename_i d obm hd hseen;split at h
   .rename_i hg0;cases hany :(es.any λe=>Nat.beq e.2.1 d) with
    |true=>rw[hany] at h;cases h
    |false=>
     rw[hany] at h;simp only[cond_false] at h;have hdt:Tab.dst (z0j ops) i=some d:=by rw[zrm ho,hd]
     have hRt:=hes.gb hgb (memB (z0d o));have hseen':=ycs hseen
     -- what the rest shows
     have fin:∀(g1:List (Nat×Bool))(ch:Ch)(v:SV V.T),GbX s.gb g1->EsOK (z0j ops) g1 bs es->GbOK (⟨bs,g1,s.kn,s.n⟩:Fm V.T)->lk g1 d=none->(lk bs d=none\/(lk bs d=some (ch,v)/\y6x v=true))->(∀p∈ch,(lk g1 p.1).isSome=true)->
       segX V N ops clo n0 later bs is { s with gb:=g1 } ((i,d,ch,v)::es) k=some r->
       (∀gb' st,GbX g1 gb'->st =(⟨slD V N.P A g1 (drSl V (memB (z0d o)) bs es),obD V N.P A A s.ob⟩:St)->GQ C (z0j ops) o st (denE V N.P A gb' (ch,v)))->
       ((∃l∈later,bitB (clo.getD l 0) i=false)->zdo N ops clo n0 later bs es s (i,d,ch,v))->
       ∃(gb':List (Nat×Bool))(new:List (DE V.T)),GbX s.gb gb'/\k { s with gb:=gb' } (new++es)=some r/\EsOK (z0j ops) gb' bs (new++es)/\GbOK (⟨bs,gb',s.kn,s.n⟩:Fm V.T)/\
        ∀e∈new,(∃o,ops[e.1]? = some o/\GQ C (z0j ops) o ⟨z3z (z0j ops) (memB (Tab.deps (z0j ops) e.1)) (slD V N.P A gb' bs) (qrOf N.P A gb' (new++es)),obD V N.P A A s.ob⟩ (denE V N.P A gb' e.2.2))/\
         ((∃l∈later,bitB (clo.getD l 0) e.1=false)->zdo N ops clo n0 later bs (new++es) { s with gb:=gb' } e):=by
      intro g1 ch v hX hes1 hgb1 hgd hb0 hch hr hq hfr;obtain⟨gb',new,x1,x2,x3,x4,x5⟩:=y4f hN (C:=C) (A:=A) is { s with gb:=g1 } _ hr (hes1.put (v:=v) hdt hgd hb0 hany hch) hgb1 ((hX.chP hgb.kn) ▸ hkn) h1;have eapp :(new++[(i,d,ch,v)])++es=new++(i,d,ch,v)::es:=by simp
      refine⟨gb',new++[(i,d,ch,v)],hX.trans x1,by rw[eapp];exact x2,by rw[eapp];exact x3,x4,λe he=>?_⟩;rw[eapp];rcases w0k.1 he with he|he
      .exact x5 e he
      .simp only[w0d] at he;subst he;have hR1:=hes1.gb hgb1 (memB (z0d o));have x3':=x3;rw[<- eapp] at x3';refine⟨⟨o,ho,?_⟩,λhl=>?_⟩
       .have h6:=hq gb' _ x1 rfl;rw[zyd x1 hR1] at h6;rw[zfc ho,z74 _ x3.dst];refine GQ.slots (s:=⟨slD V N.P A gb' (drSl V (memB (z0d o)) bs es),obD V N.P A A s.ob⟩) rfl (λt X hX'=>?_) h6;simp only[slD] at hX'⊢;cases hl:lk (drSl V (memB (z0d o)) bs es) t with
        |none=>rw[hl] at hX';cases hX'
        |some y=>rw[hl] at hX';have:=zx4 x3' (memB (z0d o)) hl;rw[eapp] at this;rw[this];exact hX'
       .have:=(hfr hl).more (s':={ s with gb:=gb' }) x3' rfl rfl
        rw[eapp] at this;exact this
     split at h
     .rename_i hg;rcases hseen' with⟨rfl,hno⟩|⟨_,hf,hsub,hcls⟩
      .obtain⟨v,hv,hq⟩:=zd3 (C:=C) (A:=A) (s:={ s with sl:=drSl V (memB (z0d o)) bs es }) hN hkn hRt h1 h;cases hok:okB (lk bs d) v with
       |false=>rw[hok] at hv;cases hv
       |true=>
       rw[hok] at hv;simp only[cond_true] at hv;refine fin s.gb [] v (GbX.refl _) hes hgb hg0 (y9r hok) (λp hp=>by cases hp) hv (λgb' st _ hst=>?_) (λ⟨l,hl,hb⟩=>by rw[hno l hl] at hb;cases hb);subst hst;obtain⟨dst,op,ty,pos,aft,guard⟩:=o;simp only at hg;subst hg;exact hq trivial dst pos aft none
      .rw[y1s hf] at h;obtain⟨v,hv0,hv⟩:=bind_some h;cases hok:okB (lk bs d) v with
       |false=>rw[hok] at hv;cases hv
       |true=>
       rw[hok] at hv;simp only[cond_true] at hv;have hF:zdo N ops clo n0 later bs es s (i,d,[],v):=⟨o,obm,ho,hg,hf,rfl,hsub,hcls,hv0⟩;obtain⟨o',ho',hq⟩:=y1t hN (C:=C) (A:=A) hF hes hgb hkn h1;rw[ho] at ho';cases ho';refine fin s.gb [] v (GbX.refl _) hes hgb hg0 (y9r hok) (λp hp=>by cases hp) hv (λgb' st _ hst=>?_) (λ_=>hF);subst hst;rw[zfc ho,z74 _ hes.dst] at hq;exact hq
     .rename_i g hg;cases hbs :(lk bs d).isSome with
      |true=>rw[hbs] at h;cases h
      |false=>
      rw[hbs] at h;simp only[cond_false] at h;have hb0:lk bs d=none:=by simpa using hbs
      rcases hseen' with⟨rfl,hno⟩|⟨hgn,_⟩
      rotate_left
      .rw[hg] at hgn;cases hgn
      split at h
      .rename_i ch s' hgo;unfold zee at hgo;split at hgo
       .rename_i t ht;have htj:Tab.dst (z0j ops) g.1=some t:=by
         cases ho':ops[g.1]? with
         |none=>simp[ho'] at ht
         |some o'=>rw[zrm ho'];simpa[ho'] using ht
        split at hgo
        .cases hgo
        .rename_i chj b hl;have hcase:∃g1,s' = { s with gb:=g1,sl:=drSl V (memB (z0d o)) bs es }/\ch =(t,g.2)::chj/\GbX s.gb g1/\EsOK (z0j ops) g1 bs es/\GbOK (⟨bs,g1,s.kn,s.n⟩:Fm V.T)/\lk g1 t=some b/\(∀u,u≠t->lk g1 u=lk s.gb u):=by
          split at hgo
          .rename_i g' hg';simp only[w00,w0b] at hgo;obtain⟨rfl,rfl⟩:=hgo;have e:=hRt.val t g' hg' chj _ hl;simp only[SV.bool.injEq] at e;subst e;exact⟨s.gb,rfl,rfl,GbX.refl _,hes,hgb,hg',λ_ _=>rfl⟩
          .rename_i hg';simp only[w00,w0b] at hgo;obtain⟨rfl,rfl⟩:=hgo;obtain⟨m1,m2,m3⟩:=hes.more hgb hl hg';exact⟨_,rfl,rfl,m3,m1,m2,by simp[z0c],λu hu=>by rw[z0c,if_neg hu]⟩
         obtain⟨g1,rfl,rfl,hX,hes1,hgb1,hgt,hoth⟩:=hcase;have hR1:=hes1.gb hgb1 (memB (z0d o));obtain⟨v,hv,hq⟩:=zd3 (C:=C) (A:=A) (s:={ s with gb:=g1,sl:=drSl V (memB (z0d o)) bs es }) hN ((hX.chP hgb.kn) ▸ hkn) hR1 h1 h;have hchj:∀p∈chj,(lk g1 p.1).isSome=true:=hR1.ch t chj _ hl;have hch:∀p∈(t,g.2)::chj,(lk g1 p.1).isSome=true:=λp hp=>by
          rcases w0c.1 hp with rfl|hp
          .simp[hgt]
          .exact hchj p hp
         have hg1d:lk g1 d=none:=by
          cases e1:lk g1 d with
          |none=>rfl
          |some b'=>
           exfalso;by_cases e2:d=t
           .subst e2;rcases zho hl with⟨e,he,h2⟩|hl'
            .have :(es.any λe=>Nat.beq e.2.1 d)=true:=w2g.2 ⟨e,he,by rw[h2];exact w2o d⟩;rw[hany] at this;cases this
            .rw[hb0] at hl';cases hl'
           .rw[hoth d e2,hg0] at e1;cases e1
         refine fin g1 _ v hX hes1 hgb1 hg1d (.inl hb0) hch hv (λgb' st hX' hst=>?_) (λ⟨l,hl,hb⟩=>by rw[hno l hl] at hb;cases hb);subst hst;obtain⟨dst,op,ty,pos,aft,guard⟩:=o;simp only at hg;subst hg;refine⟨chP gb' ((t,g.2)::chj),v.den V N.P A,t,htj,rfl,λhp=>hq ((hX'.chP hch) ▸ hp) dst pos aft _,?_⟩;have hsl:slD V N.P A g1 (drSl V (memB (z0d ⟨dst,op,ty,pos,aft,some g⟩)) bs es) t=some (denE V N.P A g1 (chj,.bool b)):=by simp only[slD,hl,w0r]
         have hgt':=hX' t b hgt;cases chj with
         |nil=>refine .inl ⟨b,hsl,?_⟩;simp[chP,hgt']
         |cons c0 cl=>refine .inr ⟨chP g1 (c0::cl),b,hsl,?_⟩;rw[hX'.chP hchj];simp[chP,hgt']
        .cases hgo
       .cases hgo
      .cases h
   .cases h
  .cases h
end
end Px
end
section
namespace Px
open Go Go.RowKit
section
variable{V:TE}{N:Env V}{R:Type}{r:R}
def Chg(o:Op)(fs es:Bool)(n0:Nat)(ob ob':List (SO V.T)):Prop:=∀(i:Nat)(x:SO V.T),ob[i]? = some x->(znw o||zae o||(appO o&&zdk x)||(fs&&Nat.blt i n0)||(es&&zdk x))=true->ob'[i]? = some x
theorem zfr(o:Op)(fs es:Bool)(n0:Nat)(ob us:List (SO V.T)):Chg o fs es n0 ob (ob++us):=λi x hx _=>by rw[w0j (w04.1 hx).1];exact hx
open Classical in
theorem y2p{s:SS V.T}{o:Op}{fs es:Bool}{n0:Nat}{ty:TypeId}{k:SV V.T->SS V.T->Option R}(hst:fs=true->∃t p v i off,o = .store t p v/\evO s.sl s.kn p=some (.ptr i off)/\n0<=i)(hel:es=true->∃t p v i j z fo,o = .store t p v/\evO s.sl s.kn p=some (.elt i j z fo))(h:z3n V N s o ty k=some r):z3n V N s o ty (λv s'=>if Chg o fs es n0 s.ob s'.ob then k v s' else none)=some r:=by
 by_cases hld:znw o=true
 .have hs:Chg (V:=V) o fs es n0 s.ob s.ob:=λi x h _=>h
  cases o<;>simp[znw] at hld
  case load t x=>simp only[z3n] at h⊢;simp only[if_pos hs];exact h
  case call c=>
   have hb:c.callee = .builtin .len:=by
    split at hld
    .assumption
    .cases hld
   simp only[z3n,hb] at h⊢;simp only[if_pos hs];exact h
 by_cases ha:appO o=true
 .have hfs:fs=false:=by
   cases hf:fs with
   |false=>rfl
   |true=>obtain⟨t,p,v,i,off,rfl,_⟩:=hst hf;simp[appO,zae] at ha
  have hes:es=false:=by
   cases hf:es with
   |false=>rfl
   |true=>obtain⟨t,p,v,i,j,z,fo,rfl,_⟩:=hel hf;simp[appO,zae] at ha
  subst hfs;subst hes;cases o<;>simp[appO,zae] at ha
  case box t x=>simp only[z3n] at h⊢;split at h<;>first |(simp only[if_pos (zfr _ _ _ _ _ _)];exact h)|cases h
  case alloc t=>
   simp only[z3n] at h⊢;split at h
   .simp only[if_pos (zfr _ _ _ _ _ _)];exact h
   .cases h
  case buildSlice t n parts=>
   simp only[z3n] at h⊢;split at h
   .split at h<;>first |(simp only[if_pos (zfr _ _ _ _ _ _)];exact h)|cases h
   .cases h
  case makeSlice t x y=>
   simp only[z3n] at h⊢;split at h
   .split at h
    .simp only[if_pos (zfr _ _ _ _ _ _)];exact h
    .cases h
   .cases h
  case makeMap t hint=>
   cases hint with
   |some o=>simp[z3n,zn] at h
   |none=>simp only[z3n] at h⊢;split at h<;>first |(simp only[if_pos (zfr _ _ _ _ _ _)];exact h)|cases h
  case mapUpdate t x i y=>
   have hc:∀(j:Nat)(z:SO V.T)(u:XO V.T),s.ob[j]? = some (.x u)->Chg (V:=V) (.mapUpdate t x i y) false false n0 s.ob (updO V s j z).ob:=by
    intro j z u ho q w hq hcond;have hx:zdk w=true:=by simpa[zae,appO,znw] using hcond
    have:j≠q:=λe=>by subst e;rw[ho] at hq;cases hq;cases hx
    show (s.ob.set j z)[q]? = some w;rw[w24 this];exact hq
   simp only[z3n] at h⊢;split at h
   .split at h
    .rename_i ho;split at h
     .cases hb:zaw (V.d _) with
      |true=>
       rw[hb] at h;simp only[cond_true] at h⊢;split at h
       .simp only[if_pos (hc _ _ _ ho)];exact h
       .cases h
      |false=>
       rw[hb] at h;simp only[cond_false] at h⊢;split at h
       .split at h
        .simp only[if_pos (hc _ _ _ ho)];exact h
        .simp only[if_pos (hc _ _ _ ho)];exact h
       .cases h
     .cases h
    .cases h
   .cases h
  case call c=>
   by_cases hbf:∃f,c.callee = .value (.func f)
   .obtain⟨f,hb⟩:=hbf;have hlo:znw (.call c)=false:=by simp[znw,hb]
    have hcu:∀(i:Nat)(E c0:Nat)(l:List (V.T c0))(y:SO V.T),s.ob[i]? = some (.row E c0 l)->Chg (.call c) false false n0 s.ob (updO V s i y).ob:=by
     intro i E c0 l y ho j x hj hcond;have hx:zdk x=true:=by simp only[hlo,zae,w26,w3w,Bool.or_false,w02] at hcond;exact hcond.2
     have hij:i≠j:=λe=>by subst e;rw[ho] at hj;cases hj;cases hx
     show (s.ob.set i y)[j]? = some x;rw[w24 hij];exact hj
    simp only[z3n,hb] at h⊢;split at h
    .rename_i sp hsp;split at h
     .rename_i a' ha';cases hq:zn.fnok N.P f with
      |false=>rw[hq] at h;cases h
      |true=>rw[hq] at h;simp only[cond_true,if_pos (zfr _ _ _ _ _ _)] at h⊢;exact h
     .cases h
    .split at h
     .split at h
      .rename_i i hi;split at h
       .rename_i E c0 l a' ho ha';simp only[if_pos (hcu i E c0 l _ ho)] at h⊢;exact h
       .cases h
      .cases h
     .unfold soX at h⊢;split at h
      .simp only[if_pos (zfr _ _ _ _ _ _)];exact h
      .cases h
     .cases h
   have hb:c.callee = .builtin .append:=by
    split at ha
    .assumption
    .rename_i f hb;exact absurd ⟨f,hb⟩ hbf
    .cases ha
   have hc:∀(i:Nat)(us:List (SO V.T))(E c0:Nat)(l:List (V.T c0)),s.ob[i]? = some (.row E c0 l)->Chg (.call c) false false n0 s.ob (s.ob.set i .emp++us):=by
    intro i us E c0 l ho j x hj hcond;have hx:zdk x=true:=by simpa[zae] using And.right (by simpa[zae,znw,hb] using hcond:appO (.call c)=true/\zdk x=true)
    have hij:i≠j:=λe=>by subst e;rw[ho] at hj;cases hj;cases hx
    have hlt:=(w04.1 hj).1;rw[w0j (by simpa using hlt),w24 hij];exact hj
   have hc2:∀(E c0:Nat)(us:List (SO V.T)),Chg (.call c) false false n0 s.ob ((s.ob++[(SO.row E c0 []:SO V.T)]).set s.ob.length .emp++us):=by intro E c0 us j x hj hcond;have hlt:=(w04.1 hj).1;rw[w0j (by simp;omega),w24 (by omega),w0j hlt];exact hj
   simp only[z3n,hb] at h⊢;split at h
   .rename_i x y hcb _;cases hcb
   .split at h
    .rename_i t t' _;cases hbb:Nat.beq t t' with
     |false=>rw[hbb] at h;cases h
     |true=>
      rw[hbb] at h;simp only[cond_true] at h⊢;split at h
      .split at h
       .rename_i i yv _ _ _ _ E' c0 l ho;cases hb2 :(Nat.beq _ E'&&Nat.beq _ (V.sz c0)&&Nat.blt 0 _) with
        |false=>rw[hb2] at h;cases h
        |true=>
         rw[hb2] at h;simp only[cond_true,appX] at h⊢;split at h
         .simp only[if_pos (hc _ _ _ _ _ ho)];exact h
         .cases h
       .cases h
      .rename_i E z by' yv _ _ _;cases hb2 :(Nat.beq z (V.sz (V.code E))&&Nat.blt 0 by') with
       |false=>rw[hb2] at h;cases h
       |true=>
        rw[hb2] at h;simp only[cond_true,appX] at h⊢;split at h
        .simp only[if_pos (hc2 _ _ _)];exact h
        .cases h
      .cases h
    .cases h
   .rename_i x y hcb _;cases hcb
   .rename_i hcb;cases hcb
   .rename_i hcb;cases hcb
   .cases h
 .have hm:¬zae o=true:=λq=>ha (by cases o<;>simp[zae] at q<;>rfl)
  cases hf:fs with
  |false=>
   cases he:es with
   |false=>
    have:∀ob',Chg (V:=V) o false false n0 s.ob ob':=λob' i x _ hcond=>by simp[hld,hm,ha] at hcond
    simp only[if_pos (this _)];exact h
   |true=>
    obtain⟨t,p,v,i,j,z,fo,rfl,hp⟩:=hel he;have hc:∀o y,s.ob[i]? = some o->zdk o=false->Chg (V:=V) (.store t p v) false true n0 s.ob (updO V s i y).ob:=by
     intro o y ho hb q x hq hcond;show (s.ob.set i y)[q]? = some x;have hx:zdk x=true:=by simpa[zae,appO,znw] using hcond
     have:i≠q:=λe=>by subst e;rw[ho] at hq;cases hq;rw[hb] at hx;cases hx
     rw[w24 this];exact hq
    simp only[z3n,hp] at h⊢;split at h
    .rename_i n p' v' ht hp' hv;cases hp';simp only[stoX] at h⊢;split at h
     .rename_i E E2 c l hh ho;split at h
      .split at h
       .simp only[if_pos (hc _ _ ho rfl)];exact h
       .simp only[if_pos (hc _ _ ho rfl)];exact h
      .cases h
     .rename_i E c l ho;simp only[if_pos (hc _ _ ho rfl)];exact h
     .rename_i E c l ho;simp only[if_pos (hc _ _ ho rfl)];exact h
     .cases h
    .cases h
  |true=>
   obtain⟨t,p,v,i,off,rfl,hp,hi⟩:=hst hf;have hef:es=false:=by
    cases he:es with
    |false=>rfl
    |true=>obtain⟨t,p,v,i,j,z,fo,e,hp2⟩:=hel he;cases e;rw[hp] at hp2;cases hp2
   subst hef;have hc:∀y,Chg (V:=V) (.store t p v) true false n0 s.ob (updO V s i y).ob:=by
    intro y j x hj hcond;show (s.ob.set i y)[j]? = some x;have:j<n0:=by simpa[zae,appO,znw] using hcond
    rw[w24 (by omega)];exact hj
   simp only[z3n,hp] at h⊢;split at h
   .rename_i n p' v' ht hp' hv;cases hp';simp only[stoX] at h⊢;split at h
    .split at h
     .rename_i hh;simp only[if_pos (hc _)];exact h
     .exact h
    .cases h
   .cases h
theorem zdo.step{ops:Array Oper}{clo:List Nat}{n0:Nat}{later:List Nat}{l:Nat}{bs:Sls V.T}{es:List (DE V.T)}{s s':SS V.T}{e:DE V.T}{d:Option Nat}{v:SV V.T}{o:Oper}(h:zdo N ops clo n0 later bs es s e)(hm:l∈later)(hb:bitB (clo.getD l 0) e.1=false)(ho:ops[l]? = some o)
  (hd:∀x,d=some x->lk bs x=none/\∀e∈es,e.2.1≠x) (hes:EsOK (z0j ops) s.gb bs es) (hk:s'.kn=s.kn) (hc:Chg o.op (stoF ops.toList l) (eltF ops.toList l) n0 s.ob s'.ob):zdo N ops clo n0 (later.filter λx=>!Nat.beq x l) (putB V bs v d) es s' e:=by
 obtain⟨o',obm,h1,h2,h3,h4,h5,h6,h7⟩:=h;have hop:opAt ops.toList l=o.op:=by unfold opAt;rw[w3x,ho]
 have hsl:∀t x,lk (drSl V (memB (z0d o')) bs es) t=some x->lk (drSl V (memB (z0d o')) (putB V bs v d) es) t=some x:=by
  intro t x hx;cases d with
  |none=>exact hx
  |some d=>
   obtain⟨k1,k2⟩:=hd d rfl;unfold drSl putB at *;rw[zte] at hx⊢;cases hl:lk ((es.filter λe=>memB (z0d o') e.1).map (·.2)) t with
   |some y=>rw[hl] at hx;exact hx
   |none=>
    rw[hl] at hx;simp only at hx⊢;rw[z0c,if_neg]
    .exact hx
    .intro e2;subst e2;rw[k1] at hx;cases hx
 refine⟨o',obm,h1,h2,h3,h4,λi x hx=>?_,λl' hl'=>h6 l' (w0v.1 hl').1,zql (s:={ s with sl:=drSl V (memB (z0d o')) bs es,ob:=obm }) (s':={ s' with sl:=drSl V (memB (z0d o')) (putB V bs v d) es,ob:=obm }) ⟨hsl,hk,λi x hx=>.inr hx⟩ h3 h7⟩;rcases h5 i x hx with q|q
 .exact .inl q
 .rcases h6 l hm hb i x hx with q2|q2
  .exact .inl q2
  .refine .inr (hc i x q ?_);unfold ztc at q2
   rwa [hop] at q2
theorem zr2[Dr]{A:Asg}{P:Program}{gb:List (Nat×Bool)}(es:List (DE V.T)):(qrOf P A gb es).map (·.1)=es.map (·.1):=by unfold qrOf;rw[w4a];rfl
theorem ycj[Dr]{A:Asg}{P:Program}{tab:Tab}{n:Nat}{D cands sure:List Nat}{gb gb':List (Nat×Bool)}{bs:Sls V.T}{new es:List (DE V.T)}(hx:GbX gb gb')(hes:EsOK tab gb bs es)(hc:chk tab n D ((new++es).map (·.1)) cands sure=true):
  ∀p∈qrOf P A gb' (new++es),p.1∈(qrOf P A gb es).map (·.1)->∃x,(p.1,x)∈qrOf P A gb es/\Ent x p.2:=by
 intro p hp hpe;simp only[chk,w02] at hc;have hnd:=zcb hc.1.1.1.1.2;simp only[qrOf,w0h] at hp;obtain⟨e,he,rfl⟩:=hp;have hpe':e.1∈es.map (·.1):=by rw[zr2] at hpe;exact hpe
 obtain⟨e2,he2,h2⟩:=w0h.1 hpe';have:=za4 hnd he (w1j _ he2) h2.symm;subst this;exact⟨denE V P A gb e.2.2,w0h.2 ⟨e,he2,rfl⟩,Ent.of_eq (hx.denE (hes.ch e he2))⟩
theorem ydo{ops:Array Oper}{clo:List Nat}{n0:Nat}{later sure:List Nat}{bs:Sls V.T}{new es:List (DE V.T)}{s:SS V.T}{gb':List (Nat×Bool)}(hx:GbX s.gb gb')(h3:EsOK (z0j ops) gb' bs (new++es))(h:∀e∈es,memB sure e.1=false->zdo N ops clo n0 later bs es s e):
  ∀e∈es,memB sure e.1=false->zdo N ops clo n0 later bs (new++es) { s with gb:=gb' } e:=
 λe he hs=>(h e he hs).more (s':={ s with gb:=gb' }) h3 rfl rfl
theorem yfe[Dr](hN:z5f V N){C:Cx N.P}{A:Asg}{ops:Array Oper}{clo:List Nat}{n0:Nat}{later sure:List Nat}{bs:Sls V.T}{new es:List (DE V.T)}{s:SS V.T}{gb':List (Nat×Bool)}(hf:∀e∈es,memB sure e.1=false->zdo N ops clo n0 later bs (new++es) { s with gb:=gb' } e)
  (x5:∀e∈new,(∃o,ops[e.1]? = some o/\GQ C (z0j ops) o ⟨z3z (z0j ops) (memB (Tab.deps (z0j ops) e.1)) (slD V N.P A gb' bs) (qrOf N.P A gb' (new++es)),obD V N.P A A s.ob⟩ (denE V N.P A gb' e.2.2))/\
    ((∃l∈later,bitB (clo.getD l 0) e.1=false)->zdo N ops clo n0 later bs (new++es) { s with gb:=gb' } e))
  (x3:EsOK (z0j ops) gb' bs (new++es)) (x4:GbOK (⟨bs,gb',s.kn,s.n⟩:Fm V.T)) (hkn:chP gb' s.kn) (h1:OneA V A s.ob) {p:Nat×VP} (hp:p∈qrOf N.P A gb' (new++es)) (hs:memB sure p.1=false) :
  ∃o,ops[p.1]? = some o/\GQ C (z0j ops) o ⟨z3z (z0j ops) (memB (Tab.deps (z0j ops) p.1)) (slD V N.P A gb' bs) (qrOf N.P A gb' (new++es)),obD V N.P A A s.ob⟩ p.2:=by
 simp only[qrOf,w0h] at hp;obtain⟨e,he,rfl⟩:=hp;rcases w0k.1 he with hn|ho
 .exact(x5 e hn).1
 .exact y1t hN (s:={ s with gb:=gb' }) (hf e ho hs) x3 x4 hkn h1
end
end Px
end
section
namespace Px
open Go Go.RowKit
section
variable{V:TE}{N:Env V}{R:Type}{r:R}
structure zwi{R R':Type}(leaf:Option R->Option R')(comb:List (Option R')->Option R')(r:R)(G:R'->Prop):Prop where
 leaf:∀x y,leaf x=some y->G y->x=some r
 comb:∀l y,comb l=some y->G y->∀x∈l,∃a,x=some a/\G a
theorem zwx:zwi id one1 r (λy=>y=r) where
 leaf:=λx y h e=>by subst e;exact h
 comb:=λl y h e x hx=>by
  unfold one1 at h;split at h
  .simp only[w0d] at hx;subst hx;exact⟨y,h,e⟩
  .cases h
theorem y63:zwi (λx:Option R=>some [x]) catL r (λL=>∀x∈L,x=some r) where
 leaf:=λx y h e=>by simp only[w00] at h;subst h;exact e x (w0d.2 rfl)
 comb:=λl=>by
  induction l with
  |nil=>intro y _ _ x hx;cases hx
  |cons z l ih=>
   intro y h e x hx;simp only[catL] at h;cases hz:z with
   |none=>rw[hz] at h;simp[cat2] at h
   |some a=>
    cases hl:catL l with
    |none=>rw[hz,hl] at h;simp[cat2] at h
    |some b=>
     rw[hz,hl] at h;simp only[cat2,w00] at h;subst h;rcases w0c.1 hx with rfl|hx
     .exact⟨a,hz,λq hq=>e q (w1g _ hq)⟩
     .exact ih b hl (λq hq=>e q (w1j _ hq)) x hx
def zuo[Dr](x:VP)(objs:List HP)(x2:VP)(objs2:List HP):Prop:=(x2=x/\objs2=objs)\/
 ∃(O:List HP)(i:Nat)(sv:Value)(H:HP),ObW objs O/\O[i]? = some H/\Ent x (eqv sv)/\(∀r S w,H.h S r w->x2.h (λb=>r b\/S b) w sv)/\objs2=O.set i emp
theorem zm1{sv:Value}{X:VP}: ∀(l:List HP),zj1 sv X l l
 | []=>trivial
 |A::l=>⟨λ_ _ _ _ h=>h,zm1 l⟩
theorem OpT.frz[Dr]{P:Program}{C:Cx P}{o:Oper}{s:St}{K K':VP->List HP->Prop}(h:OpT C o s K)(hk:∀x objs,K x objs->∃x2 objs2,zuo x objs x2 objs2/\K' x2 objs2):OpT C o s K':=by
 intro a w ro S Q hd hn hw hs;refine Oper.wp_mono ?_ (h a w ro S Q hd hn hw hs);rintro a' w' ⟨v,ro',S',x,objs',ha,e,hw',hx,hkk⟩;obtain⟨x2,objs2,hf,hk2⟩:=hk _ _ hkk;rcases hf with⟨rfl,rfl⟩|⟨O,i,sv,H,hO,hi,hent,hX,rfl⟩
 .exact⟨v,ro',S',x2,objs2,ha,e,hw',hx,hk2⟩
 .obtain⟨S2,hw2⟩:=hO _ _ _ _ _ hw';have hv:v=sv:=hent _ _ _ hx;subst hv;obtain⟨r3,S3,hrr,hw3,hev3,hx3⟩:=y1u i (w04.1 hi).1 hw2 e (hX _ _ _ (hw2.obj i H hi)) (zm1 _);exact⟨v,r3,S3,x2,_,ha,hev3,hw3,hx3,hk2⟩
theorem yb5[Dr]{P:Program}{ops:List Oper}{l n0:Nat}{o:Op}{fs es:Bool}{ob ob':List (SO V.T)}{v:SV V.T}{A:Asg}{x:VP}{objs:List HP}(hlen:A.length=ob'.length)(hent:Ent x (v.den V P A))(hobw:ObW objs (obD V P A A ob'))(hchg:Chg o fs es n0 ob ob'):
  ∃x2 objs2,zuo x objs x2 objs2/\Ent x2 ((frzN V ops l ob.length v ob').1.den V P A)/\ObW objs2 (obD V P A A (frzN V ops l ob.length v ob').2)/\A.length =(frzN V ops l ob.length v ob').2.length/\Chg o fs es n0 ob (frzN V ops l ob.length v ob').2:=by
 have idle:∃x2 objs2,zuo x objs x2 objs2/\Ent x2 (v.den V P A)/\ObW objs2 (obD V P A A ob')/\A.length=ob'.length/\Chg o fs es n0 ob ob':=⟨x,objs,.inl ⟨rfl,rfl⟩,hent,hobw,hlen,hchg⟩;unfold frzN;cases elB ops l with
 |false=>exact idle
 |true=>
 simp only[cond_true];split
 .rename_i n;cases hb:Nat.ble ob.length n with
  |false=>exact idle
  |true=>
  simp only[cond_true];split
  .rename_i E c l' hn;have hlt:=(w04.1 hn).1;obtain⟨q,hq⟩:∃q,A[n]? = some q:=⟨_,w0a (hlen ▸ hlt)⟩;have hob:=zt V P (A:=A) (ps:=A) hq hn;refine⟨Px.ro (V.ev c) (V.sz c) l',_,.inr ⟨_,n,q.2,_,hobw,hob,?_,λr S w h=>zp9 (V.ev_len c) h,rfl⟩,?_,?_,by simpa using hlen,λi y hi hc=>?_⟩
   .simp only[SV.den,hq] at hent;exact hent
   .simp only[SV.den];exact Ent.refl
   .rw[z4r V P A ob' n q .emp hq];exact ObW.refl
   .have hi2:=(w04.1 hi).1;have hge:=w0u hb;rw[w24 (by omega)];exact hchg i y hi hc
  .exact idle
 .exact idle
theorem y6c[Dr](hN:z5f V N){R':Type}{leaf:Option R->Option R'}{comb:List (Option R')->Option R'}{G:R'->Prop}(hcomb:zwi leaf comb r G){C:Cx N.P}{Γ:List (Option (Nat×Nat))}{rd:Option Nat}{acts:List GA}(hΓ:acts.map GA.lpI=Γ){ops:Array Oper}{inl:Nat->Inl V R}{K:KX V R}{Q:Exit->Act->World->Prop}{clo:List Nat}{n0:Nat}{A0:Asg}{ro0:Nat->Prop}{wz:World}{a0:Act}
  (hinl:zrv Γ C r inl ops inl K)
  (hK:∀s a w,K .normal s=some r->SatS V C acts s a w->Q .normal a w) (hev0:EvM C.base C.r0 C.wI (mks a0 acts) (lps acts) ro0 wz) :
  ∀(n:Nat)(later done sure:List Nat)(bs:Sls V.T)(es:List (DE V.T))(s:SS V.T)(A:Asg)(L:R'),y0w V N leaf comb inl ops clo n0 (λs=>K .normal s) n later done sure bs es s=some L->G L->
   AExt A0 A->A.length=s.ob.length->Stk V N.P A0 ro0 wz s.stk acts->
   EsOK (z0j ops) s.gb bs es->GbOK (⟨bs,s.gb,s.kn,s.n⟩:Fm V.T)->chP s.gb s.kn->(∀e∈es,memB sure e.1=false->zdo N ops clo n0 later bs es s e)->
   Reg (P:=N.P) { C with n:=s.n,r0:=ro0,wI:=wz,rd:=rd,df:=a0.defers } ops (z0j ops) Q done ⟨slD V N.P A s.gb bs,obD V N.P A A s.ob⟩ (qrOf N.P A s.gb es):=by
 intro n
 induction n with
 |zero=>intro later done sure bs es s A L h;cases h
 |succ n ih=>
  intro later done sure bs es s A L h hL hA hl hst hes hgb hkn hfree;refine Reg.withInv λ⟨r1,S1,w1,hw1⟩=>?_
  have h1:=zr0 hw1;simp only[y0w] at h;obtain⟨gb',new,x1,x2,x3,x4,x5⟩:=y4f hN (C:={ C with n:=s.n,r0:=ro0,wI:=wz,rd:=rd,df:=a0.defers }) (A:=A) _ s es h hes hgb hkn h1;have hkn':chP gb' s.kn:=(x1.chP hgb.kn) ▸ hkn;have hf2:=ydo x1 x3 hfree;simp only at x2;revert x2 x3 x5 hf2;have hdist:chk (z0j ops) s.n done ((new++es).map (·.1)) (z4d clo later) sure=true->∀p∈qrOf N.P A gb' (new++es),p.1∈(qrOf N.P A s.gb es).map (·.1)->∃x,(p.1,x)∈qrOf N.P A s.gb es/\Ent x p.2:=λhc=>ycj x1 hes hc
  generalize hE:new++es=E at *;intro x2 x3 x5 hf2;cases hck:chk (z0j ops) s.n done (E.map (·.1)) (z4d clo later) sure with
  |false=>rw[hck] at x2;cases x2
  |true=>
  rw[hck] at x2;simp only[cond_true] at x2;have hkeys:=zr2 (P:=N.P) (A:=A) (gb:=gb') E;have hgq:∀p∈qrOf N.P A gb' E,memB sure p.1=false->∃o,ops[p.1]? = some o/\GQ (P:=N.P) (C:={ C with n:=s.n,r0:=ro0,wI:=wz,rd:=rd,df:=a0.defers }) (z0j ops) o ⟨z3z (z0j ops) (memB (Tab.deps (z0j ops) p.1)) (slD V N.P A gb' bs) (qrOf N.P A gb' E),obD V N.P A A s.ob⟩ p.2:=by intro p hp hs;subst hE;exact yfe hN hf2 x5 x3 x4 hkn' h1 hp hs
  refine Reg.weak (s':=⟨slD V N.P A gb' bs,obD V N.P A A s.ob⟩) (QR':=qrOf N.P A gb' E) (λa r w q=>by rw[<- zyd x1 hgb];exact q) ObW.refl ?_ (hdist hck) ?_
  .intro q hq;rw[hkeys,<- hE,w2f];refine w1j _ ?_;rw[zr2] at hq;exact hq
  cases later with
  |nil=>have hk:=hcomb.leaf _ _ x2 hL;refine Reg.introG [] sure rfl (by rw[hkeys];exact hck) (zqw x3) (zhi λp hp hs=>hgq p hp hs) trivial ?_;intro _ a' w' hsat;obtain⟨hd',hn',ro',S',hw',hev',hsl'⟩:=hsat;rw[z74 _ x3.dst] at hsl';exact hK _ a' w' hk ⟨trivial,hn',hkn',x3.gb x4 _,A,ro',S',hl,hw',y2x hd' ▸ hev0.trans hev',hsl',hst.ext hA hev'⟩
  |cons l0 lt=>
  generalize hlat:l0::lt=later at *;have x2' :(bif (z4d clo later).isEmpty then none else comb ((z4d clo later).map λl=>match ops[l]? with
    |some o=>bif !memB done l&&!memB (E.map (·.1)) l then(bif zrn ops done (E.map (·.1)) (z4d clo later) l||zzx V N bs { s with gb:=gb',sl:=drSl V (memB (z0d o)) bs E } o then(bif zrn ops done (E.map (·.1)) (z4d clo later) l then
       leaf (z7b V N inl ops.toList l (ops.toList.drop l) { s with gb:=gb',sl:=drSl V (λ_=>true) bs E } (λs=>K .normal s)) else none) else
      bif zv3 o&&ze1 V { s with gb:=gb' } bs E o.dst&&((zz0 V N { s with gb:=gb',sl:=drSl V (memB (z0d o)) bs E } o.op).isEmpty&&y4m V ops.toList n0 l { s with gb:=gb',sl:=drSl V (memB (z0d o)) bs E } o.op) then
       z3n (R:=R') V N { s with gb:=gb',sl:=drSl V (memB (z0d o)) bs E } o.op o.type λv s'=>y0w V N leaf comb inl ops clo n0 (λs=>K .normal s) n (later.filter λx=>!Nat.beq x l) (l::done) (sure++(E.map (·.1)).filter λq=>bitB (clo.getD l 0) q&&!memB sure q) (putB V bs (frzN V ops.toList l s.ob.length v s'.ob).1 o.dst) E { s with gb:=gb',ob:=(frzN V ops.toList l s.ob.length v s'.ob).2 } else none) else none
    |none=>none))=some L:=by
   subst hlat;exact x2
  clear x2;cases hem :(z4d clo later).isEmpty with
  |true=>rw[hem] at x2';cases x2'
  |false=>
  rw[hem] at x2';simp only[cond_false] at x2';have hat:=λl(hl:l∈z4d clo later)=>hcomb.comb _ _ x2' hL _ (List.mem_map_of_mem hl)
  have hfacts:∀l∈z4d clo later,∃o,ops[l]? = some o/\memB done l=false/\memB (E.map (·.1)) l=false:=by
   intro l hl;obtain⟨a,ha,_⟩:=hat l hl;cases ho:ops[l]? with
   |none=>rw[ho] at ha;cases ha
   |some o=>
    rw[ho] at ha;simp only at ha;cases hc :(!memB done l&&!memB (E.map (·.1)) l) with
    |false=>rw[hc] at ha;cases ha
    |true=>simp only[w02,w0w] at hc;exact⟨o,rfl,hc.1,hc.2⟩
  have hco:zck (z0j ops) done (E.map (·.1))=false:=by
   obtain⟨l,hl⟩:∃l,l∈z4d clo later:=by
    cases hcx:z4d clo later with
    |nil=>rw[hcx] at hem;cases hem
    |cons l _=>exact⟨l,w0m ..⟩
   obtain⟨o,ho,hld,hle⟩:=hfacts l hl;cases hco:zck (z0j ops) done (E.map (·.1)) with
   |false=>rfl
   |true=>unfold zck at hco;have:=w08.1 hco l (by rw[w0l,zit rfl];exact(w20.1 ho).1);rw[hld,hle] at this;cases this
  by_cases htl:∃l∈z4d clo later,∃o,ops[l]? = some o/\(zrn ops done (E.map (·.1)) (z4d clo later) l||zzx V N bs { s with gb:=gb',sl:=drSl V (memB (z0d o)) bs E } o)=true
  .-- what is left is run in the order of the text
   obtain⟨l,hlc,o,ho,ht⟩:=htl;obtain⟨a,ha,haL⟩:=hat l hlc;obtain⟨o',ho',hld,hle⟩:=hfacts l hlc;rw[ho] at ho';cases ho';simp only[ho,hld,hle,ht,w2m,w4g,cond_true] at ha;cases hcc:zrn ops done (E.map (·.1)) (z4d clo later) l with
   |false=>rw[hcc] at ha;cases ha
   |true=>
    rw[hcc] at ha;simp only[cond_true] at ha;have x2:=hcomb.leaf _ _ ha haL;unfold zrn at hcc;simp only[w02] at hcc;obtain⟨⟨⟨⟨⟨hone,hcl⟩,hall⟩,hlow⟩,hch⟩,hsz⟩:=hcc;have hone:=w01 hone;have hsz:l<ops.size:=w0u hsz;have hlat1:z4d clo later = [l]:=by
     revert hone hlc;generalize z4d clo later=cs;intro hml hone
     match cs,hone,hml with
     | [y],_,hml=>simp at hml;rw[hml]
    rw[hlat1] at hck;refine Reg.tail l sure rfl (by rw[hkeys];exact hck) (zqw x3) (zhi λp hp hs=>hgq p hp hs) (by rw[hkeys];exact hcl) (by rw[hkeys];exact hall) (by rw[hkeys];exact hlow) hch hsz ?_ ?_
    .rw[hkeys];exact hco
    .intro a w hsat;obtain⟨hd',hn',ro',S',hw',hev',hsl'⟩:=hsat;rw[z74 _ x3.dst] at hsl';have:=zn5 (rd:=rd) (Q:=Q) hN hΓ hinl hK (ops.toList.drop l) l _ a w rfl x2 ⟨trivial,hn',hkn',x3.gb x4 _,A,ro',S',hl,hw',y2x hd' ▸ hev0.trans hev',hsl',hst.ext hA hev'⟩;rw[show (ops.toList.drop l).length=ops.size-l by simp] at this;exact this
  .-- others
   refine Reg.introG (z4d clo later) sure rfl (by rw[hkeys];exact hck) (zqw x3) (zhi λp hp hs=>hgq p hp hs) (zhi λl hlc=>?_) (λhc2=>by rw[hkeys,hco] at hc2;cases hc2);obtain⟨a,ha,haL⟩:=hat l hlc;obtain⟨o,ho,hld,hle⟩:=hfacts l hlc;have htw :(zrn ops done (E.map (·.1)) (z4d clo later) l||zzx V N bs { s with gb:=gb',sl:=drSl V (memB (z0d o)) bs E } o)=false:=by
    cases e :(zrn ops done (E.map (·.1)) (z4d clo later) l||zzx V N bs { s with gb:=gb',sl:=drSl V (memB (z0d o)) bs E } o) with
    |false=>rfl
    |true=>exact absurd ⟨l,hlc,o,ho,e⟩ htl
   have htw':=(w10.1 htw).2;unfold zzx at htw';simp only[w10] at htw';obtain⟨⟨⟨hg,htb⟩,hni⟩,hny⟩:=htw';have hg:o.guard=none:=by cases e:o.guard with
    |none=>rfl
    |some g=>rw[e] at hg;cases hg
   simp only[ho,hld,hle,htw,w2m,w4g,cond_true,cond_false] at ha;cases hdd :(zv3 o&&ze1 V { s with gb:=gb' } bs E o.dst) with
   |false=>rw[hdd] at ha;cases ha
   |true=>
   rw[hdd,w2l] at ha;simp only[w02] at hdd;obtain⟨hdst,hdf⟩:=hdd;cases hfz :((zz0 V N { s with gb:=gb',sl:=drSl V (memB (z0d o)) bs E } o.op).isEmpty&&y4m V ops.toList n0 l { s with gb:=gb',sl:=drSl V (memB (z0d o)) bs E } o.op) with
   |false=>rw[hfz] at ha;cases ha
   |true=>
    rw[hfz] at ha;simp only[cond_true] at ha;simp only[w02] at hfz;have hchg:=y2p (fs:=stoF ops.toList l) (es:=eltF ops.toList l) (n0:=n0) (λhf=>by
     have h2:=hfz.2;unfold y4m at h2;split at h2
     .rename_i t p v hop;simp only[w02] at h2;have h2:=h2.1;rw[hf] at h2;simp only[w1r,w26] at h2;split at h2
      .rename_i i off hp;exact⟨t,p,v,i,off,hop,hp,w0u h2⟩
      .cases h2
     .rename_i hop;exfalso;unfold stoF at hf;have hop2:opAt ops.toList l=o.op:=by unfold opAt;rw[w3x,ho]
      rw[hop2] at hf;split at hf
      .rename_i t p v hopp;exact hop _ _ _ hopp
      .cases hf) (λhf=>by
     have h2:=hfz.2;unfold y4m at h2;split at h2
     .rename_i t p v hop;simp only[w02] at h2;have h2:=h2.2;rw[hf] at h2;simp only[w1r,w26] at h2;split at h2
      .rename_i i j z fo hp;exact⟨t,p,v,i,j,z,fo,hop,hp⟩
      .cases h2
     .rename_i hop;exfalso;unfold eltF at hf;have hop2:opAt ops.toList l=o.op:=by unfold opAt;rw[w3x,ho]
      rw[hop2] at hf;split at hf
      .rename_i t p v hopp;exact hop _ _ _ hopp
      .cases hf) ha
    have hOp:=λdst pos aft guard hd=>zxq (C:={ C with n:=s.n,r0:=ro0,wI:=wz,rd:=rd,df:=a0.defers }) (s:={ s with gb:=gb',sl:=drSl V (memB (z0d o)) bs E }) hN hl hkn' (x3.gb x4 _) h1 hchg dst pos aft guard hd
    refine⟨o,ho,?_,?_,?_⟩
    .unfold z45;cases hod:o.dst with
     |none=>rfl
     |some d=>rw[hod] at hdf;simp only[ze1,w02,w2d] at hdf;simpa using hdf.1.1.1
    .rw[hkeys];refine w08.2 λq hq=>?_
     obtain⟨e,he,rfl⟩:=w0h.1 hq;rw[x3.dst e he];cases hod:o.dst with
     |none=>rfl
     |some d=>
      rw[hod] at hdf;simp only[ze1,w02,w0w] at hdf;simp only[y0y,w0w];cases hb:Nat.beq e.2.1 d with
      |false=>rfl
      |true=>have :(E.any λe=>Nat.beq e.2.1 d)=true:=w2g.2 ⟨e,he,hb⟩;rw[hdf.2] at this;cases this
    .unfold y07;rw[hg];have h6:=hOp o.dst o.pos o.after none (λe=>by
      cases hod:o.dst with
      |none=>rfl
      |some d=>obtain⟨dst,op,ty,pos,aft,guard⟩:=o;simp only at hod;subst hod;cases op<;>simp[ybj] at e<;>simp[zv3] at hdst)
     have ho3 :(⟨o.dst,o.op,o.type,o.pos,o.after,none⟩:Oper)=o:=by obtain⟨dst,op,ty,pos,aft,guard⟩:=o;simp only at hg;subst hg;rfl
     rw[ho3] at h6;have e4 :(⟨z3z (z0j ops) (memB (Tab.deps (z0j ops) l)) (slD V N.P A gb' bs) (qrOf N.P A gb' E),obD V N.P A A s.ob⟩:St)=SS.st V N.P A { s with gb:=gb',sl:=drSl V (memB (z0d o)) bs E }:=by rw[zfc ho,z74 _ x3.dst];rfl
     rw[e4];refine h6.frz ?_;rintro x objs ⟨B,ob',v,hkv,hlen,hent,hobw⟩;simp only at hkv;split at hkv
     .rename_i hchg2;obtain⟨x',objs',hfz',hent',hobw',hlen',hchg'⟩:=yb5 (ops:=ops.toList) (l:=l) hlen hent hobw hchg2;refine⟨x',objs',hfz',[],rfl,?_⟩;rw[w0e];clear hent hobw hlen hchg2 hfz';revert hkv hent' hobw' hlen' hchg';generalize frzN V ops.toList l s.ob.length v ob'=fz;obtain⟨v,ob'⟩:=fz;clear x objs;revert x' objs';intro x objs hkv hent hobw hlen hchg2;simp only at hkv hent hobw hlen hchg2;have hfree3:∀e∈E,memB (sure++(E.map (·.1)).filter λq=>bitB (clo.getD l 0) q&&!memB sure q) e.1=false->zdo N ops clo n0 (later.filter λx=>!Nat.beq x l) (putB V bs v o.dst) E { s with gb:=gb',ob:=ob' } e:=by
       intro e he hs;have hs1:memB sure e.1=false:=by
        cases hm:memB sure e.1 with
        |false=>rfl
        |true=>rw[z0t.2 (w1g _ (z0t.1 hm))] at hs;cases hs
       have hs2:bitB (clo.getD l 0) e.1=false:=by
        cases hm:bitB (clo.getD l 0) e.1 with
        |false=>rfl
        |true=>rw[z0t.2 (w1j _ (w0v.2 ⟨w0h.2 ⟨e,he,rfl⟩,by rw[hm,hs1];rfl⟩))] at hs;cases hs
       have hF:zdo N ops clo n0 later bs E { s with gb:=gb' } e:=by
        subst hE;rcases w0k.1 he with hn|ho2
        .exact(x5 e hn).2 ⟨l,(w0v.1 hlc).1,hs2⟩
        .exact hf2 e ho2 hs1
       refine hF.step (w0v.1 hlc).1 hs2 ho ?_ x3 rfl hchg2;intro d hd;rw[hd] at hdf;simp only[ze1,w02,w3f,w0w] at hdf;refine⟨hdf.1.2,λe2 he2 q=>?_⟩;have :(E.any λe=>Nat.beq e.2.1 d)=true:=w2g.2 ⟨e2,he2,by rw[q];exact w2o d⟩;rw[hdf.2] at this;cases this
      have hesn:EsOK (z0j ops) gb' (putB V bs v o.dst) E:=by
       refine⟨x3.dst,x3.ch,x3.val,x3.inj,λe he=>?_⟩;cases hod:o.dst with
       |none=>exact x3.bs e he
       |some d=>
        rw[hod] at hdf;simp only[ze1,w02,w0w] at hdf;simp only[putB,z0c];rw[if_neg]
        .exact x3.bs e he
        .intro q;have :(E.any λe=>Nat.beq e.2.1 d)=true:=w2g.2 ⟨e,he,by rw[q];exact w2o d⟩;rw[hdf.2] at this;cases this
      have hgbn:GbOK (⟨putB V bs v o.dst,gb',s.kn,s.n⟩:Fm V.T):=by
       cases hod:o.dst with
       |none=>exact x4
       |some d=>
        rw[hod] at hdf;simp only[ze1,w02,w3f] at hdf;refine⟨λt g ht ch z hz=>?_,λt ch z hz p hp=>?_,x4.kn⟩
        .simp only[putB,z0c] at hz;by_cases e:t=d
         .subst e;have hgd:lk gb' t=none:=hdf.1.1.2;have ht':lk gb' t=some g:=ht;rw[hgd] at ht';cases ht'
         .rw[if_neg e] at hz;exact x4.val t g ht ch z hz
        .simp only[putB,z0c] at hz;by_cases e:t=d
         .rw[if_pos e] at hz;cases hz;cases hp
         .rw[if_neg e] at hz;exact x4.ch t ch z hz p hp
      have hrec:=ih _ (l::done) _ (putB V bs v o.dst) E { s with gb:=gb',ob:=ob' } (A++B) a hkv haL (λi p hp=>AExt.app A B i p (hA i p hp)) hlen hst hesn hgbn hkn' hfree3;refine Reg.weak (λa r w hsl=>?_) hobw ?_ ?_ hrec
      .intro t X hX;simp only[slD] at hX;cases hod:o.dst with
       |none=>rw[hod] at hX hsl;exact zdd V N.P (AExt.app A B) hsl t X hX
       |some d=>
        rw[hod] at hX hsl;simp only[putB,z0c] at hX;by_cases e:t=d
        .subst e;rw[if_pos rfl] at hX;simp only[w0r,w00] at hX;subst hX;have:=hsl t x (by simp only[z8z.set,w2o,cond_true]);exact hent _ _ _ this
        .rw[if_neg e] at hX;have hsl2:zj (slD V N.P A gb' bs) a r w\/True:=.inr trivial;cases hbs:lk bs t with
         |none=>rw[hbs] at hX;cases hX
         |some y=>rw[hbs] at hX;simp only[w0r,w00] at hX;subst hX;have:=hsl t (denE V N.P A gb' y) (by simp only[z8z.set,zs1 e,cond_false,slD,hbs,w0r]);exact zle V N.P (AExt.app A B) y _ _ _ this
      .intro q hq;rw[zr2] at hq⊢;exact hq
      .intro p hp _;simp only[qrOf,w0h] at hp;obtain⟨e,he,rfl⟩:=hp;exact⟨denE V N.P A gb' e.2.2,w0h.2 ⟨e,he,rfl⟩,zle V N.P (AExt.app A B) e.2.2⟩
     .cases hkv
end
end Px
end
section
namespace Px
open Go Go.RowKit
def Pres{α:Type}(m:Sem α):Prop:=∀(P:Program)(w:World)(x:α)(w':World),m.run P w = .ok x w'->w'=w
theorem Pres.pure{α:Type}(x:α):Pres (Pure.pure x:Sem α):=λP w y w' h=>by rw[w0g] at h;cases h;rfl
theorem Pres.bind{α β:Type}{m:Sem α}{f:α->Sem β}(h:Pres m)(k:∀x,Pres (f x)):Pres (m >>= f):=λP w y w' hr=>by
 rw[w06] at hr;cases hm:m.run P w with
 |ok x w1=>rw[hm] at hr;have e:=h P w x w1 hm;subst e;exact k x P _ y w' hr
 |halt x w1=>rw[hm] at hr;cases hr
theorem Pres.halt{α:Type}{h:Halt}: Pres (.halt h:Sem α):=λP w y w' hr=>by cases hr
theorem Pres.program:Pres Go.program:=λP w y w' hr=>by cases hr;rfl
theorem Pres.stuck{α:Type}{s:String}: Pres (Go.stuck s:Sem α):=Pres.halt
theorem Pres.unsupported{α:Type}{s:Unsupported}: Pres (Go.unsupported s:Sem α):=Pres.halt
theorem Pres.shape{r:Nat}: Pres (Go.shape r):=λP w y w' hr=>by cases hr;rfl
theorem Pres.load{a:Addr}: Pres (Go.load a):=λP w y w' hr=>by
 rw[run_load] at hr;split at hr
 .cases hr;rfl
 .split at hr<;>cases hr;rfl
theorem Pres.typeInfo{t:TypeId}: Pres (Go.typeInfo t):=by
 unfold Go.typeInfo;refine Pres.program.bind λp=>?_
 split
 .exact Pres.pure _
 .exact Pres.stuck
theorem Pres.underlying{t:TypeId}: Pres (Go.underlying t):=by
 unfold Go.underlying;refine Pres.program.bind λp=>?_
 split
 .exact Pres.pure _
 .exact Pres.stuck
theorem Pres.sizeOf{t:TypeId}: Pres (Go.sizeOf t):=Pres.typeInfo.bind λ_=>Pres.pure _
theorem Pres.isAgg{t:TypeId}: Pres (Go.isAgg t):=by
 unfold Go.isAgg;refine Pres.underlying.bind λp=>?_
 split<;>exact Pres.pure _
theorem Pres.loadCellsFrom{a:Addr}: ∀(n i:Nat)(acc:Array Value),Pres (Go.loadCellsFrom a i n acc)
 |0,_,_=>Pres.pure _
 |n+1,i,acc=>Pres.load.bind λ_=>Pres.loadCellsFrom n _ _
theorem Pres.loadVar{t:TypeId}{a:Addr}: Pres (Go.loadVar t a):=by
 unfold Go.loadVar;refine Pres.isAgg.bind λb=>?_
 split
 .exact Pres.bind Pres.sizeOf λn=>Pres.bind (Pres.loadCellsFrom _ _ _) λ_=>Pres.pure _
 .exact Pres.load
theorem Pres.sureAddr{v:Value}: Pres (Instr.sureAddr v):=by
 unfold Instr.sureAddr;split
 .exact Pres.pure _
 .exact Pres.stuck
theorem Pres.asIntOf{v:Value}: Pres (Go.asIntOf v):=by
 unfold Go.asIntOf;split
 .exact Pres.pure _
 .exact Pres.unsupported
 .exact Pres.stuck
theorem Pres.boundsPanic{α:Type}{k:IntKind}{x y:Int}{c:BoundsCode}: Pres (Go.boundsPanic k x y c:Sem α):=λP w z w' hr=>by obtain⟨s,w1,h⟩:=run_boundsPanic (P:=P) (w:=w) (α:=α) k x y c;rw[h] at hr;cases hr
theorem Pres.getObj{r:Nat}: Pres (Go.getObj r):=λP w y w' hr=>by
 simp only[Go.getObj,Sem.run] at hr;split at hr
 .cases hr
 .cases hr;rfl
 .cases hr
theorem Pres.viewAt{r:Nat}: Pres (Go.viewAt r):=by
 unfold Go.viewAt;refine Pres.shape.bind λx=>?_
 split
 .exact Pres.pure _
 .refine Pres.getObj.bind λo=>?_
  split<;>exact Pres.pure _
theorem Pres.noView{a:Addr}: Pres (Go.noView a):=by
 unfold Go.noView;refine Pres.viewAt.bind λx=>?_
 split
 .exact Pres.unsupported
 .exact Pres.pure _
theorem Pres.byteOf{a:Addr}: Pres (Go.byteOf a):=by
 unfold Go.byteOf;split
 .exact Pres.pure _
 .refine Pres.program.bind λp=>Pres.noView.bind λ_=>Pres.shape.bind λx=>?_
  split
  .dsimp only;split
   .exact Pres.pure _
   .split
    .exact Pres.pure _
    .exact Pres.stuck
  .exact Pres.stuck
def IntV(v:Value):Prop:=∃k n,v = .int k n
theorem Pres.fold{f:Value->Value->Sem Value}(hf:∀k x j y,∃v,IntV v/\f (.int k x) (.int j y)=Pure.pure v):∀(l:List Value)(x:Value),IntV x->(∀y∈l,IntV y)->Pres (l.foldlM f x)
 | [],x,_,_=>Pres.pure _
 |y::l,x,hx,hl=>by obtain⟨k,n,rfl⟩:=hx;obtain⟨j,m,rfl⟩:=hl y (w0m ..);obtain⟨v,hv,e⟩:=hf k n j m;rw[w5c,e];intro P w z w' hr;rw[w06,w0g,w05] at hr;exact Pres.fold hf l v hv (λy hy=>hl y (w09 _ hy)) P w z w' hr
theorem Pres.fieldPlace{a:Addr}{f:Field}: Pres (Go.fieldPlace a f):=by
 unfold Go.fieldPlace;refine Pres.sizeOf.bind λn=>?_
 split
 .exact Pres.bind Pres.byteOf λ_=>Pres.bind Pres.byteOf λ_=>Pres.pure _
 .exact Pres.pure _
theorem Pres.fieldAt{s:TypeId}{v:Value}{f:Nat}: Pres (Instr.fieldAt s v f):=by
 unfold Instr.fieldAt;refine Pres.underlying.bind λn=>?_
 split
 .split
  .exact Pres.sureAddr.bind λ_=>Pres.fieldPlace.bind λ_=>Pres.pure _
  .exact Pres.stuck
 .exact Pres.stuck
theorem Pres.indexAt{t:TypeId}{v i:Value}: Pres (Instr.indexAt t v i):=by
 unfold Instr.indexAt;refine Pres.asIntOf.bind λk=>?_
 refine Pres.underlying.bind λu=>?_
 dsimp only;split
 .refine Pres.sureAddr.bind λa=>Pres.bind (Pres.pure _) λq=>?_
  obtain⟨base,len,elem⟩:=q;dsimp only;refine Pres.underlying.bind λu2=>?_
  split
  .split
   .exact Pres.sizeOf.bind λ_=>Pres.pure _
   .split<;>(split<;>first|exact Pres.unsupported|exact Pres.boundsPanic)
  .exact Pres.boundsPanic
 .refine Pres.bind (Pres.pure _) λq=>?_
  obtain⟨base,len,elem⟩:=q;dsimp only;refine Pres.underlying.bind λu2=>?_
  split
  .split
   .exact Pres.sizeOf.bind λ_=>Pres.pure _
   .split<;>(split<;>first|exact Pres.unsupported|exact Pres.boundsPanic)
  .exact Pres.boundsPanic
 .refine Pres.bind Pres.stuck λq=>?_
  obtain⟨base,len,elem⟩:=q;dsimp only;refine Pres.underlying.bind λu2=>?_
  split
  .split
   .exact Pres.sizeOf.bind λ_=>Pres.pure _
   .split<;>(split<;>first|exact Pres.unsupported|exact Pres.boundsPanic)
  .exact Pres.boundsPanic
def yf6(m:Sem Next):Prop:=∀(P:Program)(w:World)(x:Next)(w':World),m.run P w = .ok x w'->w'=w/\∃v,x = .value v
theorem Pres.v{m:Sem Value}(h:Pres m):yf6 (do Pure.pure (Next.value (<- m)):Sem Next):=λP w x w' hr=>by
 rw[w06] at hr;cases hm:m.run P w with
 |ok y w1=>rw[hm] at hr;have e:=h P w y w1 hm;subst e;rw[w05,w0g] at hr;cases hr;exact⟨rfl,_,rfl⟩
 |halt y w1=>rw[hm] at hr;cases hr
section
variable{V:TE}{N:Env V}{R:Type}{r:R}{C:Cx N.P}
theorem zzv[Dr]{s:SS V.T}{o:Oper}(h:zjp V s o=true)(hkn:chP s.gb s.kn){A:Asg}{a:Act}{ro:Nat->Prop}{w w':World}{x:Next}(hs:zj (slD V N.P A s.gb s.sl) a ro w)(hr :(execOp a.eval o).run N.P w = .ok x w'):w'=w/\∃v,x = .value v:=by
 obtain⟨dst,op,ty,pos,aft,guard⟩:=o;unfold zjp at h;simp only[w02] at h;obtain⟨_,h⟩:=h;split at h
 .simp only[execOp,w0g] at hr;cases hr;exact⟨rfl,_,rfl⟩
 .simp only[execOp,w0g] at hr;cases hr;exact⟨rfl,_,rfl⟩
 .exact(Pres.v (Pres.sureAddr.bind λ_=>Pres.loadVar)) _ _ _ _ hr
 .exact(Pres.v Pres.fieldAt) _ _ _ _ hr
 .exact(Pres.v Pres.indexAt) _ _ _ _ hr
 .rename_i x0;split at h
  .rename_i i off hx;have hv:=z2h V N.P (A:=A) hx hkn a ro w hs;simp only[SV.den] at hv;cases ha:A[i]? with
   |none=>rw[ha] at hv;exact hv.elim
   |some q=>rw[ha] at hv;have hv:a.eval x0 = .pointer (some ⟨q.1,off,none⟩):=hv;simp only[execOp,hv,w0g] at hr;cases hr;exact⟨rfl,_,rfl⟩
  .cases h
 .rename_i c;obtain⟨callee,as,ts⟩:=c;simp only at h;split at h
  .rename_i us hus;rw[cond_eq_ite] at h;split at h
   rotate_left
   .cases h
   .rename_i hb;obtain⟨e1,e2⟩:=zga (N:=N) (A:=A) hkn hus a ro w hs;have hint:∀y∈(as.map a.eval).toList,IntV y:=by
     intro y hy;rw[Array.toList_map] at hy;obtain⟨i,hi⟩:=w41 hy;have hlt:=(w04.1 hi).1;rw[w1c] at hlt;have hu:i<us.length:=e1 ▸ hlt;obtain⟨z,hz⟩:∃z,us[i]? = some z:=⟨us[i],w0a hu⟩;have hzi:=w08.1 hb z (w0y hz);have hden:∀(l:List (SV V.T))(i:Nat),l[i]? = some z->(denV V N.P A l)[i]? = some (z.den V N.P A):=by
      intro l
      induction l with
      |nil=>intro i h;simp at h
      |cons u l ih=>intro i h;cases i with
       |zero=>simp at h;subst h;rfl
       |succ i=>simp at h;simpa[denV] using ih i h
     have:=e2 i _ (hden us i hz);rw[w1k,hi] at this;cases z with
     |int k n=>exact⟨k,n,this⟩
     |_=>simp at hzi
    have hfold:∀{f:Value->Value->Sem Value},(∀k x j y,∃v,IntV v/\f (.int k x) (.int j y)=Pure.pure v)->Pres (match (as.map a.eval).toList with
      | [] => Go.stuck "min: at least one argument expected"
      |x::rest=>rest.foldlM f x)/\Pres (match (as.map a.eval).toList with
      | [] => Go.stuck "max: at least one argument expected"
      |x::rest=>rest.foldlM f x):=by
     intro f hf;cases hl :(as.map a.eval).toList with
     |nil=>exact⟨Pres.stuck,Pres.stuck⟩
     |cons x l=>
      rw[hl] at hint;have:=Pres.fold hf l x (hint x (w0m ..)) λy hy=>hint y (w09 _ hy)
      exact⟨this,this⟩
    split at h
    .simp only at *;simp only[execOp,Go.resolve,w06,w0g,w05] at hr;exact(Pres.v (hfold (f:=Builtin.min2) λk x j y=>⟨_,⟨_,_,rfl⟩,rfl⟩).1) _ _ _ _ hr
    .simp only at *;simp only[execOp,Go.resolve,w06,w0g,w05] at hr;exact(Pres.v (hfold (f:=Builtin.max2) λk x j y=>⟨_,⟨_,_,rfl⟩,rfl⟩).2) _ _ _ _ hr
    .cases h
  .cases h
 .cases h
theorem zu8{s:SS V.T}{o:Oper}(h:zjp V s o=true):o.guard=none:=by unfold zjp at h;simp only[w02,w3f] at h;exact h.1
theorem y4l{s:SS V.T}{o:Oper}(h:zjp V s o=true):∀c,o.op≠.defer c:=by intro c e;unfold zjp at h;rw[e] at h;simp at h
theorem zy9[Dr](hN:z5f V N){acts:List GA}{ops:Array Oper}{K:SS V.T->Option R}{Q:Exit->Act->World->Prop}{w:World}(hK:∀s a,K s=some r->SatS V C acts s a w->Q .normal a w):
  ∀(os:List Oper)(s:SS V.T)(a:Act),y4a V N os s K=some r->SatS V C acts s a w->wpStill N.P ops w (λa=>Q .normal a w) os a
 | [],s,a,h,hs=>hK s a h hs
 |o::os,s,a,h,hs=>by
  unfold y4a at h;cases hst:zjp V s o with
  |false=>rw[hst] at h;cases h
  |true=>
   rw[hst] at h;simp only[cond_true] at h;have hq:=(zh1 (rd:=none) hN h (λp hp=>by simp at hp) hs (next:=λa' w'=>w'=w->wpStill N.P ops w (λa=>Q .normal a w) os a') (Q:=λ_ _ _=>False) λs2 v0 w' hk hs2 e=>by subst e;exact zy9 hN hK os s2 _ hk hs2).1 trivial;obtain⟨_,hq⟩:=hq;rw[Oper.semAt_eq _ _ _ (y4l hst)] at hq;obtain⟨hd,hn,hkn,hgb,A,ro,S,hl,hw,hev,hsl,hstk⟩:=hs;have hp:=λx w'=>zzv (N:=N) (x:=x) (w':=w') hst hkn hsl
   unfold wpStill;simp only[Region.wanted,zu8 hst,if_true];unfold Oper.still;generalize (execOp a.eval o).run N.P w=res at hq hp;cases res with
   |ok x w'=>obtain⟨e,v,rfl⟩:=hp x w' rfl;subst e;rw[Oper.stillUpon_value];exact hq rfl
   |halt x w'=>cases x<;>exact hq.elim
theorem zfe{rd:Option Nat}{P:Program}{md:Region.Mode}{ops:Array Oper}{Q:Exit->Act->World->Prop}(hQ:∀a w,¬Q .outgrown a w)(hnd:∀(i:Nat)o,ops[i]? = some o->∀c,o.op≠.defer c):∀(fuel:Nat)(listed:Array Bool)(a:Act)(w:World),
  wpAny P md ops Q fuel listed a w->wpAnyIn (fz rd) 0 P md ops Q fuel listed a w
 |0,_,_,_,h=>h
 |fuel+1,listed,a,w,h=>⟨h.1,λi hi=>by
  have h1:=h.2 i hi;unfold wpOp at h1;unfold wpOpIn;split
  .rename_i ho;rw[ho] at h1;exact zfe hQ hnd fuel _ a w h1
  .rename_i o ho;rw[ho] at h1;simp only at h1;split
   .rename_i hw;rw[if_pos hw] at h1;rcases h1 with h1|h1
    .exact Oper.wp_fz (hnd i o ho) (Oper.wp_mono (λa' w'=>zfe hQ hnd fuel _ a' w') h1)
    .obtain⟨_,a0,w0,h2⟩:=h1;exact(hQ _ _ h2).elim
   .rename_i hw;rw[if_neg hw] at h1;exact⟨λ_ _=>trivial,zfe hQ hnd fuel _ _ w h1⟩⟩
theorem SatS.drawn[Dr]{acts:List GA}{s:SS V.T}{a:Act}{w:World}(h:SatS V C acts s a w)(k:Nat)(hk:w.drawn<=k):SatS V C acts s a { w with drawn:=k }:=by obtain⟨hd,hn,hkn,hgb,A,ro,S,hl,hw,hev,hsl,hst⟩:=h;have he:Evo C.base ro w ro { w with drawn:=k }:=⟨λ_ h=>h,λ_ _=>rfl,λ_ h=>.inl h⟩;exact⟨hd,hn,hkn,hgb,A,ro,S,hl,hw.drawn k hk,hev.trans he,hsl.evo he,hst.ext (AExt.refl A) he⟩
theorem y8n[Dr](hN:z5f V N){rd:Option Nat}{id:Nat}{acts:List GA}{ops:Array Oper}{K:KX V R}{Q:Exit->Act->World->Prop}(hK:∀e s a w,K e s=some r->SatS V C acts s a w->Q e a w)(hm:N.P.follows .mixedOrders=true)(hB:Region.lexB .any ops=true)(hk:ops.toList.all ybn=true)
  {s:SS V.T} {a:Act} {w:World} (h:y4a V N ops.toList s (λs=>K .normal s)=some r) (hs:SatS V C acts s a w) :(Code.region id ops true).wpIn (fz rd) 0 N.P Q a w:=by
 refine wpIn_mono (Q:=λe a w=>e = .normal/\Q .normal a w) (wpIn_region_any hm ?_) (by rintro e a w ⟨rfl,h⟩;exact h);refine zfe (λa w h=>by cases h.1) (λi o ho c e=>?_) _ _ _ _ (wpAny_of_still (Q:=λa'=>Q .normal a' { w with drawn:=w.drawn+1 }) (λa h=>⟨rfl,h⟩) _ _ _ ?_)
 .have:=w08.1 hk o (w0y (by rw[w3x];exact ho))
  unfold ybn at this;rw[e] at this;cases this
 .simp only[Region.lexB,w02] at hB;have h2:=zy9 (ops:=ops) hN (w:={ w with drawn:=w.drawn+1 }) (Q:=Q) (λs a h hs=>hK .normal s a _ h hs) ops.toList s a h (hs.drawn _ (w5m _));have:=wpAnyS_lex (md:=.any) hB.1 ops.toList 0 (Array.replicate ops.size false) a (by simp) (by simpa using hB.2) h2;simpa using this
end
end Px
end
section
namespace Px
open Go Go.RowKit
section
variable{V:TE}{N:Env V}{R:Type}{r:R}{C:Cx N.P}
theorem y81{α:Type}{E:TypeId}{e:α->List VP}{sz:Nat}{l:List α}{sv v:Value}{hi:Nat}(he:∀x,(e x).length=sz){S r:Nat->Prop}{w:World}(h :(Px.row E e sz l sv).h S r w)(hv :(prtp sv 0 hi sz).h r w v):(Px.row E e sz (z3y l 0 hi) v).h S r w:=by
 have e0:z3y l 0 hi=l.take hi:=by simp[z3y]
 rw[e0];rcases h with⟨rfl,rfl⟩|⟨g,cap,cur,rfl,hS,hcur,hl,hm,hsz,hc⟩
 .rcases hv with⟨_,_,_,rfl⟩|⟨g,n,cap,a,hn,_⟩
  .exact .inl ⟨rfl,by simp⟩
  .cases hn
 .rcases hv with⟨hn,_⟩|⟨g2,n,cap2,a,hn,h1,h2,rfl,ha⟩
  .cases hn
  .simp only[Value.slice.injEq,w00,Addr.mk.injEq] at hn;obtain⟨⟨rfl,_⟩,rfl,rfl⟩:=hn;have hlen :(l.take hi).length=hi:=by rw[w1y];omega
   refine .inr ⟨g,cap,cur,?_,hS,hcur,by omega,hm,hsz,?_⟩
   .rw[ha (.inr rfl),hlen];simp
   .rw[hlen];have e2 :(l.take hi).flatMap e =(l.flatMap e).take (hi*sz):=by
     conv=>rhs;rw[<- w25 hi l,w1x]
     rw[w5j];rw[z3j he,hlen]
    have e3:cur.toList.take (hi*sz) =(cur.toList.take (l.length*sz)).take (hi*sz):=by rw[List.take_take,w5i (w14 _ (by omega))]
    rw[e2,e3];exact hc.takeN _
theorem WInv.last[Dr]{w0 w:World}{base:Nat}{objs:List HP}{r:Nat->Prop}{S:Nat->Nat->Prop}(hw:WInv w0 base objs r S w){i:Nat}(hi:i<objs.length){H:HP}(hH:H.h (S i) r w):
  WInv w0 base (objs.set i Px.emp++[H]) r (λj b=>(j=objs.length/\S i b)\/(j≠i/\j<objs.length/\S j b)) w where
 below:=hw.below
 size:=hw.size
 obj:=by
  intro j X hj;rw[w23] at hj;simp only[w2e] at hj;split at hj
  .rename_i hlt;rw[w1s] at hj;split at hj
   .cases hj;trivial
   .rename_i e;have :(λb=>(j=objs.length/\S i b)\/(j≠i/\j<objs.length/\S j b))=S j:=by funext b;exact propext ⟨λh=>h.elim (λq=>absurd q.1 (by omega)) λq=>q.2.2,λh=>.inr ⟨λq=>e q.symm,hlt,h⟩⟩
    rw[this];exact hw.obj j X hj
  .rename_i hge;have hj0:j=objs.length:=by have:=(w04.1 hj).1;simp at this;omega
   subst hj0;simp at hj;subst hj;have :(λb=>(objs.length=objs.length/\S i b)\/(objs.length≠i/\objs.length<objs.length/\S objs.length b))=S i:=by funext b;exact propext ⟨λh=>h.elim (λq=>q.2) λq=>absurd q.2.1 (by omega),λh=>.inl ⟨rfl,h⟩⟩
   rw[this];exact hH
 own:=by
  rintro j b (⟨rfl,hb⟩|⟨_,hlt,hb⟩)
  .obtain⟨_,h2⟩:=hw.own i b hb;exact⟨by simp,h2⟩
  .obtain⟨h1,h2⟩:=hw.own j b hb;exact⟨by simp;omega,h2⟩
 apart:=by
  rintro j k b (⟨rfl,hb⟩|⟨n1,l1,hb⟩) (⟨rfl,hb'⟩|⟨n2,l2,hb'⟩)
  .rfl
  .exact absurd (hw.apart i k b hb hb').symm n2
  .exact absurd (hw.apart j i b hb hb') n1
  .exact hw.apart j k b hb hb'
 old:=hw.old
theorem yao[Dr]{C:Cx N.P}{acts:List GA}{s:SS V.T}{a:Act}{w:World}(t:Nat)(H:SatS V C acts s a w):SatS V C acts (cutX V s t) a w:=by
 unfold cutX;split
 .rename_i i hi z h1 h2;split
  .rename_i E c l ho;cases hz:Nat.beq z (V.sz c) with
   |false=>exact H
   |true=>
    have ez:=w01 hz;subst ez;simp only[cond_true];obtain⟨hd,hsz,hch,hg,A,ro,S,hl,hw,he,hs,hst⟩:=H;have li:=(w04.1 ho).1;obtain⟨q,hq⟩:∃q,A[i]? = some q:=⟨A[i],by simp[hl,li]⟩;have hv:=hs t _ (by simp only[slD,h1];rfl);simp only[denE,SV.den,hq] at hv;have hrow:=y81 (V.ev_len c) (hw.obj i _ (zt V N.P hq ho)) hv;have hlen:=zbs V N.P (A:=A) A s.ob hl;have hw':=hw.last (i:=i) (by omega) hrow;rw[hlen] at hw';obtain⟨v,hve⟩:∃v,v=a.tmps.getD t undef:=⟨_,rfl⟩;rw[<- hve] at hw';have hB :(A++[((0:Nat),v)])[s.ob.length]? = some (0,v):=by rw[<- hl];simp
    have e4:obD V N.P A A (s.ob.set i .emp) =(obD V N.P A A s.ob).set i Px.emp:=by rw[z4r V N.P A s.ob i q _ hq];rfl
    rw[<- e4] at hw';obtain⟨S2,hw2⟩:=z3q (P:=N.P) (A:=A) (B:=[(0,v)]) (ob:=s.ob.set i .emp) (by simpa using hl) (us:=[.row E c (z3y l 0 hi)]) (H:=[Px.row E (V.ev c) (V.sz c) (z3y l 0 hi) v]) ⟨EntH.refl,trivial⟩ _ _ _ _ _ hw';refine⟨hd,hsz,hch,⟨?_,?_,hg.kn⟩,A++[(0,v)],ro,S2,by simp[hl],?_,he,?_,Stk.ext (AExt.app A _) (Evo.refl C.base _ _) hst⟩
    .intro u g hu ch y hy;simp only[z0c] at hy;by_cases e:u=t
     .subst e;simp only at hu;rw[h2] at hu;cases hu
     .rw[if_neg e] at hy;exact hg.val u g hu ch y hy
    .intro u ch y hy;simp only[z0c] at hy;by_cases e:u=t
     .rw[if_pos e] at hy;simp only[w00,w0b] at hy;rw[<- hy.1];intro p hp;cases hp
     .rw[if_neg e] at hy;exact hg.ch u ch y hy
    .exact hw2
    .intro u X hX;simp only[slD,z0c] at hX;by_cases e:u=t
     .rw[if_pos e] at hX;simp only[w0r,w00] at hX;subst hX;simp only[denE,SV.den,hB];rw[e,<- hve];exact rfl
     .rw[if_neg e] at hX;exact zdd V N.P (AExt.app A _) hs u X hX
  .exact H
 .exact H
theorem zus[Dr](hN:z5f V N){R':Type}{leaf:Option R->Option R'}{comb:List (Option R')->Option R'}{G:R'->Prop}(hcomb:zwi leaf comb r G){inl:Nat->Inl V R}{id:Nat}{ops:Array Oper}{K:KX V R}{Γ:List (Option (Nat×Nat))}{rd:Option Nat}(hinl:zrv Γ C r inl ops inl K)
  {acts:List GA} (hΓ:acts.map GA.lpI=Γ) {Q:Exit->Act->World->Prop} (hK:∀e s a w,K e s=some r->SatS V C acts s a w->Q e a w) (hm:N.P.follows .mixedOrders=true) {ls:List Nat} {L:R'} {s:SS V.T} {a:Act} {w:World}
  (h:altT V N leaf comb inl ops ls s K=some L) (hL:G L) (hs:SatS V C acts s a w) :(Code.region id ops true).wpIn (fz rd) 0 N.P Q a w:=by
 unfold altT yd7 at h;obtain⟨hd,hn,hkn,hgb,A,ro,S,hl,hw,hev,hsl,hst⟩:=hs;generalize hbs :(s.sl.filter λp=>!isDs (wrO V ops s) p.1||y8j ops.toList p.1)=bs at h;have hlk:∀{t:Nat}{x:Ch×SV V.T},lk bs t=some x->lk s.sl t=some x:=λ{t x}hx=>zad (λk=>!isDs (wrO V ops s) k||y8j ops.toList k) (by rw[hbs];exact hx)
 have hgb0:GbOK (⟨bs,s.gb,s.kn,s.n⟩:Fm V.T):=⟨λt g hg ch z hz=>hgb.val t g hg ch z (hlk hz),λt ch z hz=>hgb.ch t ch z (hlk hz),hgb.kn⟩;have hbs':zj (slD V N.P A s.gb bs) a ro w:=by
  intro t X hX;simp only[slD] at hX;cases hb:lk bs t with
  |none=>rw[hb] at hX;cases hX
  |some e=>rw[hb] at hX;exact hsl t X (by simp only[slD,hlk hb];exact hX)
 have hreg:=y6c (rd:=rd) hN hcomb hΓ hinl (hK .normal) hev _ _ [] [] bs [] s A L h hL (AExt.refl A) hl hst ⟨λe he=>absurd he w1q,λe he=>absurd he w1q,λe he=>absurd he w1q,λe he=>absurd he w1q,λe he=>absurd he w1q⟩ hgb0 hkn (λe he=>absurd he w1q);exact y0x (C:={ C with n:=s.n,r0:=ro,wI:=w,rd:=rd,df:=a.defers }) hm hreg ⟨rfl,hn,ro,S,hw,Evo.refl _ _ _,hbs'⟩
theorem zw4[Dr](hN:z5f V N){inl:Nat->Inl V R}{id:Nat}{ops:Array Oper}{d:Bool}{K:KX V R}{Γ:List (Option (Nat×Nat))}{rd:Option Nat}(hinl:zrv Γ C r inl ops inl K)
  {acts:List GA} (hΓ:acts.map GA.lpI=Γ) {Q:Exit->Act->World->Prop} (hK:∀e s a w,K e s=some r->SatS V C acts s a w->Q e a w) {s:SS V.T} {a:Act} {w:World} (h:regX V N inl ops d s K=some r) (hs:SatS V C acts s a w) :(Code.region id ops d).wpIn (fz rd) 0 N.P Q a w:=by
 unfold regX at h;cases d with
 |true=>
  simp only[cond_true] at h;cases hm:N.P.follows .mixedOrders with
  |false=>rw[hm] at h;cases h
  |true=>
   rw[hm] at h;simp only[cond_true] at h;cases hst:y4k V ops s with
   |true=>rw[hst] at h;simp only[y4k,w02] at hst;exact y8n hN hK hm hst.2 hst.1.1 h hs
   |false=>
   rw[hst] at h;simp only[cond_false] at h;split at h
   .split at h
    .exact yas hN (K:=λs=>K .normal s) (hK .normal) hm h hs
    .exact zus hN zwx hinl hΓ hK hm h rfl hs
   .exact zus hN zwx hinl hΓ hK hm h rfl hs
 |false=>simp only[cond_false] at h;refine wpIn_region ?_;have:=zn5 (rd:=rd) hN hΓ hinl (hK .normal) ops.toList 0 s a w rfl h hs;rw[<- w3e] at this;simpa using this
theorem zrf[Dr]{acts:List GA}{Q:Exit->Act->World->Prop}{n:SS V.T->Option R}{K:KX V R}{W:Act->World->Prop}(hn:∀s a w,n s=some r->SatS V C acts s a w->W a w)(hK:∀e s a w,K e s=some r->SatS V C acts s a w->Q e a w):
  ∀e s a w,seqK V n K e s=some r->SatS V C acts s a w->Exit.then W Q e a w:=by
 intro e s a w h hs;cases e with
 |normal=>exact hn s a w h hs
 |_=>exact hK _ s a w h hs
theorem y0j[Dr]{acts:List GA}{Q:Exit->Act->World->Prop}{id:Nat}{K:KX V R}(hK:∀e s a w,K e s=some r->SatS V C acts s a w->Q e a w):
  ∀e s a w,blkK V id K e s=some r->SatS V C acts s a w->Exit.inBlock id Q e a w:=by
 intro e s a w h hs;cases e with
 |exit i=>
  simp only[blkK] at h;simp only[Exit.inBlock];by_cases e:i=id
  .subst e;rw[w2o] at h;rw[if_pos rfl];exact hK .normal s a w h hs
  .rw[zs1 e] at h;rw[if_neg e];exact hK _ s a w h hs
 |_=>exact hK _ s a w h hs
theorem y9o[Dr]{acts:List GA}{Q:Exit->Act->World->Prop}{K:KX V R}(hK:∀e s a w,K e s=some r->SatS V C acts s a w->Q e a w):
  ∀e s a w,ngK V K e s=some r->SatS V C acts s a w->Exit.noGoto Q e a w:=by
 intro e s a w h hs;cases e with
 |goto l=>cases h
 |_=>exact hK _ s a w h hs
theorem zwy[Dr]{acts:List GA}{rd:Option Nat}{Q:Exit->Act->World->Prop}{o:Operand}{c d:Code}{x y:Option R}{s:SS V.T}{a:Act}{w:World}(h:y64 V s o x y=some r)(hs:SatS V C acts s a w)(hx:x=some r->c.wpIn (fz rd) 0 N.P Q a w)(hy:y=some r->d.wpIn (fz rd) 0 N.P Q a w):(Code.cond o c d).wpIn (fz rd) 0 N.P Q a w:=by
 unfold y64 at h;split at h
 .rename_i b hb;obtain⟨_,_,hkn,hgb,A,ro,S,hl,hw,hev,hsl,hst⟩:=hs;have he:=z2h V N.P (A:=A) (z9x hb) trivial a ro w hsl;simp only[SV.den] at he;refine wpIn_cond_split he (λe=>hx ?_) (λe=>hy ?_)
  .subst e;simpa using h
  .subst e;simpa using h
 .cases h
theorem zvm{rd:Option Nat}{x y:Code}(h:rd=none\/noRF (.seq x y)=true):(rd=none\/noRF x=true)/\(rd=none\/noRF y=true):=by
 rcases h with h|h
 .exact⟨.inl h,.inl h⟩
 .have h :(noRF x&&noRF y)=true:=h;simp only[w02] at h;exact⟨.inr h.1,.inr h.2⟩
theorem zxw{rd:Option Nat}{o:Operand}{x y:Code}(h:rd=none\/noRF (.cond o x y)=true):(rd=none\/noRF x=true)/\(rd=none\/noRF y=true):=zvm (x:=x) (y:=y) h
theorem zq4[Dr](hN:z5f V N){dfl:Inl V R}(hd:∀Γ f fn c K,N.P.funcs[f]? = some fn->fn.body=some c->zjt Γ C r (dfl f) c K)(hy:∀Γ k,YOK Γ C r dfl k):∀(c:Code)(Γ:List (Option (Nat×Nat)))(K:KX V R),zjt Γ C r (znq V N dfl) c K:=by
 intro c
 induction c with
 |skip=>exact λΓ K rd acts Q hΓ hrd hK s a w h hs=>wpIn_skip (hK _ s a w h hs)
 |label l=>exact λΓ K rd acts Q hΓ hrd hK s a w h hs=>wpIn_label (hK _ s a w h hs)
 |region id ops d=>exact λΓ K rd acts Q hΓ hrd hK s a w h hs=>zw4 hN ⟨λi f fn c h1 h2=>hd _ f fn c _ h1 h2,λi=>hy _ _⟩ hΓ hK h hs
 |seq x y hx hy=>intro Γ K rd acts Q hΓ hrd hK s a w h hs;obtain⟨r1,r2⟩:=zvm hrd;exact wpIn_seq (hx Γ _ rd acts _ hΓ r1 (zrf (λs a w h hs=>hy Γ K rd acts Q hΓ r2 hK s a w h hs) hK) s a w h hs)
 |cond o x y hx hy=>intro Γ K rd acts Q hΓ hrd hK s a w h hs;obtain⟨r1,r2⟩:=zxw hrd;exact zwy h hs (λh=>hx Γ K rd acts Q hΓ r1 hK s a w h hs) (λh=>hy Γ K rd acts Q hΓ r2 hK s a w h hs)
 |block id c hc=>intro Γ K rd acts Q hΓ hrd hK s a w h hs;exact wpIn_block (hc Γ _ rd acts _ hΓ hrd (y0j hK) s a w h hs)
 |scope c hc=>intro Γ K rd acts Q hΓ hrd hK s a w h hs;exact zpi (hc Γ _ rd acts _ hΓ hrd (y9o hK) s a w h hs)
 |exit id=>exact λΓ K rd acts Q hΓ hrd hK s a w h hs=>wpIn_exit (hK _ s a w h hs)
 |ret=>exact λΓ K rd acts Q hΓ hrd hK s a w h hs=>wpIn_ret (hK _ s a w h hs)
 |_=>exact λΓ K rd acts Q hΓ hrd hK s a w h hs=>by cases h
theorem zks[Dr]:∀(n:Nat)(Γ:List (Option (Nat×Nat)))(k:SV V.T->SS V.T->Option R),YOK Γ C r (dflN V N n) k
 |0,Γ,k=>λrd acts hΓ s vs a w A ro S h=>by cases h
 |n+1,Γ,k=>λrd acts hΓ s vs a w A ro S h=>by cases h
theorem zpy[Dr](hN:z5f V N):∀(n:Nat)(Γ:List (Option (Nat×Nat)))(f:Nat)(c:Code)(K:KX V R),zjt Γ C r (dflN V N n f) c K
 |0,Γ,f,c,K=>λrd acts Q hΓ hrd hK s a w h hs=>by cases h
 |n+1,Γ,f,c,K=>zq4 hN (λΓ f fn c K _ _=>zpy hN n Γ f c K) (λΓ k=>zks n Γ k) c Γ K
theorem z93[Dr](hN:z5f V N)(Γ:List (Option (Nat×Nat))){ops:Array Oper}{full:Nat->Inl V R}{K:KX V R}: zrv Γ C r (λ_=>Dfl V N R) ops full K:=⟨λi f fn c _ _=>zpy hN 8 _ f c _,λi=>zks 8 _ _⟩
theorem zc7{α:Type}{x:Option α}{k:α->Option R}(h:zpm x k=some r):∃z,x=some z/\k z=some r:=by
 cases x with
 |none=>cases h
 |some z=>exact⟨z,rfl,h⟩
theorem y0q{s:SS V.T}{t:Nat}{x:Ch×SV V.T}(h:lk (clrG V s).sl t=some x):lk s.sl t=some x/\x.1 = []:=by
 have h1:=zad (λk=>zbu s.sl k) h;refine⟨h1,?_⟩;have:=(w0v.1 (zei h)).2;simp only[zbu,h1] at this;obtain⟨ch,v⟩:=x;cases ch with
 |nil=>rfl
 |cons _ _=>cases this
theorem yai[Dr]{acts:List GA}{s:SS V.T}{a:Act}{w:World}(hs:SatS V C acts s a w):SatS V C acts (clrG V s) a w:=by
 obtain⟨hd,hn,hkn,hgb,A,ro,S,hl,hw,hev,hsl,hst⟩:=hs;refine⟨hd,hn,trivial,⟨λt g h=>by simp[clrG,lk] at h,λt ch z hz p hp=>?_,λp hp=>by simp[clrG] at hp⟩,A,ro,S,hl,hw,hev,?_,hst⟩
 .have:=(y0q hz).2
  simp only at this;subst this;cases hp
 .intro t X hX;simp only[slD] at hX;cases hz:lk (clrG V s).sl t with
  |none=>rw[hz] at hX;cases hX
  |some e=>rw[hz] at hX;obtain⟨h1,h2⟩:=y0q hz;obtain⟨ch,v⟩:=e;simp only at h2;subst h2;refine hsl t X ?_;simp only[slD,h1];exact hX
theorem ycr[Dr]{acts:List GA}{s:SS V.T}{a:Act}{w:World}(h:SatS V C acts s a w):∀o∈s.ob,okO V o:=by
 obtain⟨hd,hn,hkn,hgb,A,ro,S,hl,hw,hev,hsl,hst⟩:=h;intro o ho;obtain⟨i,hi⟩:=w41 ho;have hlt:=(w04.1 hi).1;obtain⟨q,hq⟩:∃q,A[i]? = some q:=⟨A[i],by simp[hl,hlt]⟩;have hd:=hw.obj i _ (zt V N.P (A:=A) (ps:=A) hq hi);unfold okO;split
 .obtain⟨_,t,Sk,hm,_,hc,_⟩:=hd;rw[<- hm];exact w3s.2 hc.1
 .exact hd.2.2.1
 .trivial
theorem yel[Dr](hN:z5f V N){h:Sh}{z:h.Z V.T}{ops:Array Oper}{K:KX V R}{acts:List GA}{Q:Exit->Act->World->Prop}(hz:∀z',h.eqZ V.T z z'->pkX V N ops (h.enc V z') K=some r)(h0:pkX V N ops (h.enc V z) K=some r)
  (hK:∀e s a w,K e s=some r->SatS V C acts s a w->Q e a w) {Γ:List (Option (Nat×Nat))} (hΓ:acts.map GA.lpI=Γ) {rd:Option Nat} {id:Nat} {a:Act} {w:World} (hs:SatS V C acts (h.enc V z) a w) :(Code.region id ops false).wpIn (fz rd) 0 N.P Q a w:=by
 unfold pkX at h0;simp at h0
theorem y74{g:GA}{f k:Nat}(h:g.lpI=some (f,k)):∃L rec,g.lp=some (L,rec,f,k)/\rec.state = .ready:=by
 unfold GA.lpI at h;split at h
 .rename_i L rec q hq;split at h
  .rename_i hr;simp only[w00] at h;subst h;exact⟨L,rec,hq,hr⟩
  .cases h
 .cases h
theorem zzt[Dr]{A:Asg}{sl:Sls V.T}{p:Nat}{x:SV V.T}{a:Act}{ro:Nat->Prop}{w:World}{v:Value}(hp:p<a.tmps.size)(h:zj (slD V N.P A [] sl) a ro w)(hx :(x.den V N.P A).h ro w v):
  zj (slD V N.P A [] ((p,[],x)::sl)) { a with tmps:=a.tmps.setIfInBounds p v } ro w:=by
 intro t X hX;have hg:=zgt a (some p) v t (λy hy=>by simp at hy;subst hy;exact hp);change ({ a with tmps:=a.tmps.setIfInBounds p v } : Act).tmps.getD t undef=_ at hg;rw[hg];simp only[slD,z0c] at hX;by_cases e:t=p
 .rw[if_pos e] at hX;simp only[w0r,w00] at hX;subst hX;rw[if_pos (by rw[e])];exact hx
 .rw[if_neg e] at hX;rw[if_neg (λq=>e (by simpa using q.symm))];exact h t X hX
theorem zuk[Dr]{A:Asg}{ro:Nat->Prop}{w:World}: ∀(ps:List Nat)(vs:List (SV V.T))(us:List Value)(sl:Sls V.T)(tm:Array Value)(df:List Deferred),ps.length=vs.length->us.length=vs.length->(∀p∈ps,p<tm.size)->
  (∀(i:Nat)(B:VP),(denV V N.P A vs)[i]? = some B->B.h ro w (us.getD i undef))->zj (slD V N.P A [] sl) { tmps:=tm,defers:=df } ro w->
  zj (slD V N.P A [] (zipP ps vs sl)) { tmps:=(ps.zip us).foldl (λt q=>t.setIfInBounds q.1 q.2) tm,defers:=df } ro w
 | [],vs,us,sl,tm,df,_,_,_,_,h=>by cases vs<;>exact h
 |p::ps,[],us,sl,tm,df,h1,_,_,_,_=>by cases h1
 |p::ps,v::vs,[],sl,tm,df,_,h2,_,_,_=>by cases h2
 |p::ps,v::vs,u::us,sl,tm,df,h1,h2,h3,h4,h=>by
  have hv :(v.den V N.P A).h ro w u:=by simpa using h4 0 _ (by simp[denV])
  have hs:=zzt (a:={ tmps:=tm,defers:=df }) (h3 p (w0m ..)) h hv;exact zuk ps vs us ((p,[],v)::sl) (tm.setIfInBounds p u) df (by simpa using h1) (by simpa using h2) (λq hq=>by simpa using h3 q (w09 _ hq)) (λi B hB=>by simpa using h4 (i+1) B (by simpa[denV] using hB)) hs
theorem zpj:∀(ps:List Nat)(vs:List (SV V.T))(sl:Sls V.T),(∀t ch z,lk sl t=some (ch,z)->ch = [])->∀t ch z,lk (zipP ps vs sl) t=some (ch,z)->ch = []
 | [],vs,sl,h=>by cases vs<;>exact h
 |p::ps,[],sl,h=>h
 |p::ps,v::vs,sl,h=>zpj ps vs _ λt ch z hz=>by
  simp only[z0c] at hz;split at hz
  .simp only[w00,w0b] at hz;exact hz.1.symm
  .exact h t ch z hz
theorem zou:∀(l:List (Nat×Value))(tm:Array Value),(l.foldl (λt q=>t.setIfInBounds q.1 q.2) tm).size=tm.size
 | [],_=>rfl
 |q::l,tm=>by rw[w27,zou l];simp
theorem zvv[Dr]{A:Asg}{f:Fm V.T}{m:Nat}{a:Act}{ro:Nat->Prop}{w:World}(h:zj (slD V N.P A f.gb f.sl) a ro w){tm:Array Value}{df:List Deferred}(htm:∀t,t<m->tm.getD t undef=a.tmps.getD t undef):
  zj (slD V N.P A [] (f.sl.filter λp=>zbu f.sl p.1&&Nat.blt p.1 m)) { tmps:=tm,defers:=df } ro w/\∀t ch z,lk (f.sl.filter λp=>zbu f.sl p.1&&Nat.blt p.1 m) t=some (ch,z)->ch = []:=by
 have key:∀t ch z,lk (f.sl.filter λp=>zbu f.sl p.1&&Nat.blt p.1 m) t=some (ch,z)->lk f.sl t=some (ch,z)/\ch = []/\t<m:=by
  intro t ch z hz;have h1:=zad (λk=>zbu f.sl k&&Nat.blt k m) hz;have h2:=(w0v.1 (zei hz)).2;simp only[zbu,h1,w02] at h2;refine⟨h1,?_,w0u h2.2⟩;cases ch with
  |nil=>rfl
  |cons _ _=>cases h2.1
 refine⟨λt X hX=>?_,λt ch z hz=>(key t ch z hz).2.1⟩;simp only[slD] at hX;cases hz:lk (f.sl.filter λp=>zbu f.sl p.1&&Nat.blt p.1 m) t with
 |none=>rw[hz] at hX;cases hX
 |some e=>obtain⟨ch,z⟩:=e;rw[hz] at hX;obtain⟨h1,h2,h3⟩:=key t ch z hz;subst h2;show X.h ro w (tm.getD t undef);rw[htm t h3];exact h t X (by simp only[slD,h1];exact hX)
theorem EvM.recS[Dr]{B:Nat}{r0 ro:Nat->Prop}{wI w:World}{l l':List Deferred}{L:Nat}{rec rec':Loop}{q:Nat×Nat}{ps:List (Nat×Loop×Nat×Nat)}(h:EvM B r0 wI (l++l') ((L,rec,q)::ps) ro w):EvM B r0 wI l' ((L,rec',q)::ps) ro (w.putObj L (.loop rec')):=by
 have hn:=w1w.1 h.bk.lp.1;obtain⟨g1,g2,g3⟩:=h.bk.lp.2 _ (w0m ..);obtain⟨Ds,h1,h2,h3⟩:=h.bk.df;obtain⟨Ds1,Ds2,rfl,e1,e2⟩:=List.map_eq_append_iff.1 h1.symm;refine⟨h.ev.putR g2 _,⟨Ds2,e2.symm,(w58.1 h2).2.1,λD hD=>?_⟩,h.bk.lp.1,λp hp=>?_⟩
 .obtain⟨a,b,c⟩:=h3 D (w1j _ hD);refine⟨a,b,?_⟩;rw[w1a λ(e:D=L)=>by rw[e,g3] at c;cases c];exact c
 .rcases w0c.1 hp with rfl|hp
  .exact⟨g1,g2,World.putObj_heap_same (w20.1 g3).1⟩
  .obtain⟨a,b,c⟩:=h.bk.lp.2 p (w09 _ hp);refine⟨a,b,?_⟩;rw[w1a λ(e:p.1=L)=>hn.1 (w0h.2 ⟨p,hp,e⟩)];exact c
theorem Stk.swap[Dr]{P:Program}{A:Asg}{ro:Nat->Prop}{w:World}{L:Nat}{rec rec':Loop}{q:Nat×Nat}{act:Act}(h1:rec'.tmps=rec.tmps)(h2:rec'.pending=rec.pending)(h3:rec'.params=rec.params)(h4:rec'.assign=rec.assign)(h5:rec'.body=rec.body){fs:List (Fm V.T)}{gs:List GA}
  (h:Stk V P A ro w fs (⟨act,some (L,rec,q)⟩::gs)):Stk V P A ro w fs (⟨act,some (L,rec',q)⟩::gs):=by
 cases fs with
 |nil=>exact h.elim
 |cons f fs=>obtain⟨⟨k1,k2,k3,k4,k5⟩,k6⟩:=h;refine⟨⟨k1,k2,k3,λx hx=>?_,k5⟩,k6⟩;simp only[w00] at hx;subst hx;obtain⟨m1,m2,g,m3⟩:=k4 _ rfl;exact⟨h1.trans m1,h2.trans m2,g,by rw[h3,h4,h5];exact m3⟩
theorem Stk.swap2[Dr]{P:Program}{A:Asg}{ro:Nat->Prop}{w:World}{L:Nat}{rec rec':Loop}{q:Nat×Nat}{act:Act}{g:GA}(h1:rec'.tmps=rec.tmps)(h2:rec'.pending=rec.pending)(h3:rec'.params=rec.params)(h4:rec'.assign=rec.assign)(h5:rec'.body=rec.body){fs:List (Fm V.T)}{gs:List GA}
  (h:Stk V P A ro w fs (g::⟨act,some (L,rec,q)⟩::gs)):Stk V P A ro w fs (g::⟨act,some (L,rec',q)⟩::gs):=by
 cases fs with
 |nil=>exact h.elim
 |cons f fs=>exact⟨h.1,Stk.swap h1 h2 h3 h4 h5 h.2⟩
theorem zy6{B:Nat}{r0 ro:Nat->Prop}{wI w:World}{l:List Deferred}{L:Nat}{rec:Loop}{q:Nat×Nat}{ps:List (Nat×Loop×Nat×Nat)}(h:EvM B r0 wI l ((L,rec,q)::ps) ro w):ro L/\B<=L/\w.heap[L]? = some (.loop rec):=by obtain⟨g1,g2,g3⟩:=h.bk.lp.2 _ (w0m ..);exact⟨g1,(h.ev.2.2 L g1).resolve_left g2,g3⟩
theorem EvM.gone[Dr]{B:Nat}{r0 ro:Nat->Prop}{wI w:World}{l:List Deferred}{L:Nat}{rec:Loop}{q:Nat×Nat}{ps:List (Nat×Loop×Nat×Nat)}(h:EvM B r0 wI l ((L,rec,q)::ps) ro w)(o:Obj):EvM B r0 wI l ps ro (w.putObj L o):=by
 have hn:=w1w.1 h.bk.lp.1;obtain⟨g1,g2,g3⟩:=h.bk.lp.2 _ (w0m ..);obtain⟨Ds,h1,h2,h3⟩:=h.bk.df;refine⟨h.ev.putR g2 _,⟨Ds,h1,h2,λD hD=>?_⟩,hn.2,λp hp=>?_⟩
 .obtain⟨a,b,c⟩:=h3 D hD;refine⟨a,b,?_⟩;rw[w1a λ(e:D=L)=>by rw[e,g3] at c;cases c];exact c
 .obtain⟨a,b,c⟩:=h.bk.lp.2 p (w09 _ hp);refine⟨a,b,?_⟩;rw[w1a λ(e:p.1=L)=>hn.1 (w0h.2 ⟨p,hp,e⟩)];exact c
theorem yg2[Dr](hN:z5f V N){Γ:List (Option (Nat×Nat))}{f k:Nat}(hΓ:Γ.head? = some (some (f,k))){run:Code->SS V.T->KX V R->Option R}{g0:Operand}{ps:Array Tmp}{asg bd:Code}(h0:rfAt N.P f k=some (g0,ps,asg,bd))
  {inl:Inl V R} (hin:∀s K,inl YID (.goto 0) s K=ylX V N run f k s K) {kk:SV V.T->SS V.T->Option R} (hbd:zjt (none::none::Γ.tail) C r run bd (yK V kk)):YOK Γ C r inl kk:=by
 intro rd acts hacts s vs a w A ro S hy hn hkn hgb hl hw hev hsl hst args ha1 ha2 R' hk;unfold zwg at hy;rw[hin] at hy;cases acts with
 |nil=>subst hacts;cases hΓ
 |cons g gs=>
  subst hacts;simp only[w0p,List.head?_cons,w00] at hΓ;obtain⟨L,rec,hg,hrdy⟩:=y74 hΓ;obtain⟨gact,glp⟩:=g;change glp=_ at hg;subst hg;unfold ylX at hy;rw[h0] at hy;split at hy
  rotate_left
  .cases hy
  rename_i gg ps' asg' bd' it ow stk heq hstk;simp only[w00,w0b] at heq;obtain⟨rfl,rfl,rfl,rfl⟩:=heq;simp only[w2y] at hstk;obtain⟨rfl,hstk⟩:=hstk;have hlen :(zff V 0 vs).length=vs.length:=by
   have:∀(n:Nat)(l:List (SV V.T)),(zff V n l).length=l.length:=by
    intro n l
    induction l generalizing n with
    |nil=>rfl
    |cons x l ih=>simp[zff,ih]
   exact this 0 vs
  have hmap :(zff V 0 vs).map (λx=>x.2.2)=vs:=by
   have:∀(n:Nat)(l:List (SV V.T)),(zff V n l).map (λx=>x.2.2)=l:=by
    intro n l
    induction l generalizing n with
    |nil=>rfl
    |cons x l ih=>simp[zff,ih]
   exact this 0 vs
  simp only[hmap,hlen] at hy;cases hb :(noRF asg&&noRF bd&&Nat.beq ps.size vs.length&&ps.toList.all (λp=>Nat.blt p (ow.n-1))) with
  |false=>rw[hb] at hy;cases hy
  |true=>
  rw[hb] at hy;simp only[cond_true] at hy;simp only[w02] at hb;obtain⟨⟨⟨b1,b2⟩,b3⟩,b4⟩:=hb;have b3:=w01 b3;have b4:∀p∈ps.toList,p<ow.n-1:=λp hp=>w0u (w08.1 b4 p hp)
  have hst0:=hst;rw[hstk] at hst0;obtain⟨⟨f1,f2,f3,f4,f5⟩,f6⟩:=hst0;obtain⟨m1,m2,g1,m3⟩:=f4 _ rfl;rw[h0] at m3;simp only[w00,w0b] at m3;obtain⟨rfl,m4,m5,m6⟩:=m3;have hon:gact.tmps.size=ow.n-1:=by have :(gact.tmps.push (.func (.yield L) #[] #[])).size=ow.n:=f5;simp only[w5l] at this;omega
  obtain⟨q1,q2,q3⟩:=zy6 hev;refine⟨⟨gact,some (L,rec,f,k)⟩,gs,L,(rec,f,k),rfl,rfl,rec.fn,_,rec.assign,rec.body,run_yield q3 (by rw[ha1,<- m4,b3]),?_⟩;refine roundIn_of_wpIn trivial ?_;rw[<- m5,<- m6,<- m4,m1];have hasg:=zq4 (C:=C) (r:=r) hN (dfl:=Dfl V N R) (λΓ f fn c K _ _=>zpy hN 8 Γ f c K) (λΓ k=>zks 8 Γ k) asg (none::(GA.lpI ⟨gact,some (L,rec,f,k)⟩::gs.map GA.lpI))
   (λe s1=>match e with
     | .normal=>run bd s1 (yK V kk)
     |_=>none) (some L) (⟨a,none⟩::⟨gact,some (L,rec,f,k)⟩::gs)
   (Exit.then (λa₁ w₁=>∃w₂,(Instr.beginRound L).run N.P w₁ = .ok () w₂/\bd.wpIn ((fz rd).inRound L) 0 N.P (roundPost N.P L λe w'=>∃u,e = .returned u/\R' u w') a₁ w₂) (λ_ _ _=>False)) rfl (.inr b1)
  refine hasg ?_ _ _ _ hy ?_
  .intro e s1 a1 w1 hK hs1;cases e with
   |normal=>
    obtain⟨_,hn1,hkn1,hgb1,A1,ro1,S1,hl1,hw1,hev1,hsl1,hst1⟩:=hs1;obtain⟨p1,p2,p3⟩:=zy6 (ps:=lps gs) hev1;have hr1:Rec w1.heap[L]?:=.inr ⟨_,p3⟩;refine⟨_,run_beginRound p3 hrdy,?_⟩;refine hbd (some L) (⟨a,none⟩::⟨gact,some (L,{ rec with state:=.busy },f,k)⟩::gs) _ ?_ (.inr b2) ?_ s1 a1 _ hK ?_
    .rfl
    .intro e s2 a2 w2 hK2 hs2;cases e with
     |normal=>
      simp only[yK] at hK2;split at hK2
      .rename_i fm stk2 hstk2;obtain⟨_,hn2,hkn2,hgb2,A2,ro2,S2,hl2,hw2,hev2,hsl2,hst2⟩:=hs2;have hev2':EvM C.base C.r0 C.wI (a2.defers++mks a (⟨gact,some (L,rec,f,k)⟩::gs)) ((L,{ rec with state:=.busy },f,k)::lps gs) ro2 w2:=hev2;obtain⟨v1,v2,v3⟩:=zy6 hev2';have hr2:Rec w2.heap[L]?:=.inr ⟨_,v3⟩;refine⟨_,_,run_endRound none v3,.bool true,rfl,?_⟩;have hrec :(({ { rec with state:=.busy } with state:=if(none:Option Code).isNone then .ready else .done,pending:=none } : Loop))=rec:=by obtain⟨st,pe,_⟩:=rec;simp only at hrdy m2;subst hrdy;subst m2;rfl
       rw[hrec];have hst2':=Stk.swap2 (rec:={ rec with state:=.busy }) (rec':=rec) rfl rfl rfl rfl rfl (hst2.putR hr2 (.loop rec));rw[hstk2] at hst2';exact hk (.bool true) _ A2 ro2 S2 _ (.bool true) hK2 hst2'.1.2.2.2.2 hst2'.1.2.1 hst2'.1.2.2.1 hl2 (hw2.put v1 v2 hr2 _) (EvM.recS hev2') hst2'.1.1 hst2'.2 (by simp only[SV.den];rfl)
      .cases hK2
     |exit id=>simp[yK] at hK2
     |goto l=>simp[yK] at hK2
     |ret=>simp[yK] at hK2
     |panic ch=>simp[yK] at hK2
     |outgrown=>simp[yK] at hK2
    .exact⟨trivial,hn1,hkn1,hgb1,A1,ro1,S1,hl1,hw1.put p1 p2 hr1 _,EvM.recS (l:=[]) (ps:=lps gs) hev1,hsl1.putR hr1 _,Stk.swap2 (rec:=rec) (rec':={ rec with state:=.busy }) rfl rfl rfl rfl rfl (hst1.putR hr1 _)⟩
   |exit id=>cases hK
   |goto l=>cases hK
   |ret=>cases hK
   |panic ch=>cases hK
   |outgrown=>cases hK
  .have hps:=zvv (N:=N) (A:=A) (f:=ow) (m:=ow.n-1) f1 (tm:=gact.tmps) (df:=[]) (λt ht=>by
    show _ =(gact.tmps.push (.func (.yield L) #[] #[])).getD t undef;have:t<gact.tmps.size:=by omega
    simp[w07,w4u,Nat.ne_of_lt this])
   have hargs:args.toList.length=vs.length:=by simpa using ha1
   have hfold :(ps.zip args).foldl (λtmps(t,a)=>tmps.setIfInBounds t a) gact.tmps =(ps.toList.zip args.toList).foldl (λt q=>t.setIfInBounds q.1 q.2) gact.tmps:=by rw[<- Array.foldl_toList,Array.toList_zip]
   refine⟨trivial,?_,trivial,⟨λt g h=>by simp[lk] at h,λt ch z hz p hp=>?_,λp hp=>by simp at hp⟩,A,ro,S,hl,hw,hev,?_,⟨⟨hsl,hkn,hgb,(λx e=>by cases e),hn⟩,hst⟩⟩
   .rw[hfold,zou];exact hon
   .rw[zpj _ _ _ hps.2 t ch z hz] at hp;simp at hp
   .rw[hfold];exact zuk ps.toList vs args.toList _ gact.tmps [] (by simpa using b3) hargs (λp hp=>by rw[hon];exact b4 p hp) (λi B hB=>by have:=ha2 i B hB;simpa[w07,w1k] using this) hps.1
theorem WInv.two[Dr]{w0 w:World}{base:Nat}{objs:List HP}{ro:Nat->Prop}{S:Nat->Nat->Prop}(h:WInv w0 base objs ro S w)(o1 o2:Obj):
  WInv w0 base objs (λb=>ro b\/b=w.heap.size\/b=w.heap.size+1) S ((w.alloc o1).alloc o2)/\Evo base ro w (λb=>ro b\/b=w.heap.size\/b=w.heap.size+1) ((w.alloc o1).alloc o2):=by
 have hh:∀b,b<w.heap.size->((w.alloc o1).alloc o2).heap[b]? = w.heap[b]?:=λb hb=>(Below.heap_alloc _ _ _ (by simp;omega)).trans (Below.heap_alloc _ _ _ hb)
 refine⟨⟨(h.below.alloc h.size _).alloc (by have:=h.size;simp;omega) _,by have:=h.size;simp;omega,λi H hi=>H.mono (λ_ h=>.inl h) (λb hb=>hh b (h.old b hb)) (λb hb=>hh b (h.own i b hb).2.2.1) (h.obj i H hi),λi b hb=>?_,h.apart,?_⟩,λ_ h=>.inl h,λb hb=>hh b (h.old b hb),?_⟩
 .obtain⟨k1,k2,k3,k4⟩:=h.own i b hb;refine⟨k1,k2,by simp;omega,?_⟩;rintro(k|k|k)
  .exact k4 k
  .omega
  .omega
 .rintro b (k|k|k)
  .have:=h.old b k;simp;omega
  .simp;omega
  .simp;omega
 .have:=h.size
  rintro b (k|k|k)
  .exact .inl k
  .exact .inr (by omega)
  .exact .inr (by omega)
theorem yg0[Dr]{Γ:List (Option (Nat×Nat))}{fi f k:Nat}{run:Code->SS V.T->KX V R->Option R}{g0:Operand}{ps:Array Tmp}{asg bd:Code}{K:KX V R}{fn:Func}{c:Code}(h0:rfAt N.P f k=some (g0,ps,asg,bd))(hf:N.P.funcs[fi]? = some fn)(hc:fn.body=some c)
  (hrun:zjt (some (f,k)::Γ) C r run c (rfK V K)) {run':Code->SS V.T->KX V R->Option R} (hr':∀s,run' (.rangeFunc g0 ps asg bd) s K=rfX V N fi run g0 s K):zjt Γ C r run' (.rangeFunc g0 ps asg bd) K:=by
 intro rd acts Q hΓ hrd hK s a w h hs;have hrd:rd=none:=hrd.elim id λe=>by cases e
 subst hrd;rw[hr'] at h;unfold rfX at h;split at h
 rotate_left
 .cases h
 rename_i f' caps hev hgn;split at h
 rotate_left
 .cases h
 rename_i fn' hf';split at h
 rotate_left
 .cases h
 rename_i c' hc';cases hb :(Nat.beq f' fi&&zn.fnok N.P f'&&Nat.ble (caps.length+1) fn'.ntmps&&fn'.results.isEmpty) with
 |false=>rw[hb] at h;cases h
 |true=>
 rw[hb] at h;simp only[cond_true] at h;simp only[w02] at hb;obtain⟨⟨⟨b1,b2⟩,b3⟩,b4⟩:=hb;have b1:=w01 b1;subst b1;rw[hf] at hf';cases hf';rw[hc] at hc';cases hc';have b3:=w0u b3;obtain⟨hd,hn,hkn,hgb,A,ro,S,hl,hw,hem,hsl,hst⟩:=hs;have hfv:=z2h V N.P (A:=A) hev hkn a ro w hsl;simp only[SV.den] at hfv;obtain⟨cv,e1,e2,e3⟩:=hfv;rw[zf3] at e2;obtain⟨fn1,k1,k2,k3⟩:=z7u N.P b2;refine wpIn_rangeFunc λfn0 _=>?_
 obtain⟨rec,hrec⟩:∃rec:Loop,rec = { state:=.ready,pending:=none,fn:=fn0,tmps:=a.tmps,params:=ps,assign:=asg,body:=bd,defers:=w.heap.size }:=⟨_,rfl⟩;obtain⟨W1,hW1⟩:∃W1,(w.alloc (.deferred (some []))).alloc (.loop rec)=W1:=⟨_,rfl⟩;have hL1:W1.heap[w.heap.size+1]? = some (.loop rec):=by rw[<- hW1];have:=World.alloc_heap_new (w.alloc (.deferred (some []))) (.loop rec);rwa [World.size_alloc] at this
 have hD1:W1.heap[w.heap.size]? = some (.deferred (some [])):=by rw[<- hW1];exact(Below.heap_alloc _ _ _ (by simp)).trans (World.alloc_heap_new w _)
 obtain⟨hwT,hevT⟩:=hw.two (.deferred (some [])) (.loop rec);rw[hW1] at hwT hevT;refine⟨w.heap.size+1,[mkD w.heap.size],W1,{ target:=.fn (.func f') cv,args:=#[.func (.yield (w.heap.size+1)) #[] #[]] },W1,f',#[.func (.yield (w.heap.size+1)) #[] #[]]++cv,W1,?_,?_,λ_ _=>trivial,?_,λe=>by simp at e,?_⟩
 .rw[<- hW1,hrec];exact run_enterLoop_outer _ _ _ _ _
 .simp only[Go.resolve,e1];simp[go_sem]
 .simp[invoke,z1x k1 k2 k3]
 show CallsIn (fz none) 0 N.P f' _ W1 _;refine callsIn_of_wp_marks hf hc trivial ?_ rfl;obtain⟨a',ha'⟩:∃a':Act,a' = { a with defers:=mkD w.heap.size::a.defers }:=⟨_,rfl⟩;have hfresh:∀b,ro b->b≠w.heap.size/\b≠w.heap.size+1:=λb hb=>by have:=hw.old b hb;omega
 have hr0:∀b,C.r0 b->ro b:=hem.ev.1;refine hrun none (⟨a',some (w.heap.size+1,rec,f,k)⟩::acts) _ (by rw[w0p,hΓ,hrec];rfl) (.inl rfl) ?_ _ _ _ h ?_
 .intro e s' a2 w' hKe hs';have fin :(match s'.stk with
    |fm::stk=>K .normal { popG V fm with stk:=stk,ob:=s'.ob }
    | []=>none)=some r->LeavesInM (fz none) 0 N.P fn a2.tmps (rangePost (fz none) 0 N.P (w.heap.size+1) Q { a with defers:=[mkD w.heap.size]++a.defers }) a2.defers .returning w':=by
   intro hKe;split at hKe
   .rename_i fm stk hstk;obtain⟨_,hn',hkn',hgb',A',ro',S',hl',hw',hev',hsl',hst'⟩:=hs';refine zqs hw' hev' hsl' hst' λw2 g1 g2 g3 g4=>?_
    have hres:zg2 V N s' fn.results.toList=some []:=by
     have:fn.results.toList = []:=by simpa using b4
     rw[this];rfl
    obtain⟨v,hv,_⟩:=zij g1 g3 hres;refine⟨v,hv,?_⟩;obtain⟨p1,p2,p3⟩:=zy6 (ps:=lps acts) g2;have hr2:Rec w2.heap[w.heap.size+1]?:=.inr ⟨_,p3⟩;have hst2:rec.state = .ready:=by rw[hrec]
    refine⟨_,_,run_endLoop p3 (by rw[hst2];decide),?_⟩;rw[show rec.pending=none by rw[hrec]];rw[hstk] at g4;obtain⟨⟨m1,m2,m3,m4,m5⟩,m6⟩:=g4;have hfn:a.tmps.size=fm.n-1:=by have :(a'.tmps.push (.func (.yield (w.heap.size+1)) #[] #[])).size=fm.n:=m5;rw[ha'] at this;simp only[w5l] at this;omega
    have hlkf:∀t x,lk (popG V fm).sl t=some x->lk fm.sl t=some x/\t≠fm.n-1:=by intro t x hx;refine⟨zad (λp=>!Nat.beq p (fm.n-1)) hx,?_⟩;have:=(w0v.1 (zei hx)).2;intro e;subst e;simp[w2o] at this
    refine hK _ _ _ _ hKe ⟨trivial,hfn,m2,⟨λt g hg ch z hz=>m3.val t g hg ch z (hlkf _ _ hz).1,λt ch z hz=>m3.ch t ch z (hlkf _ _ hz).1,m3.kn⟩,A',ro',S',hl',g1.put p1 p2 hr2 _,?_,?_,m6.putR hr2 _⟩
    .have:=EvM.gone (ps:=lps acts) g2 (.loop { rec with state:=.exhausted,pending:=none })
     rw[ha',w0n] at this;exact this
    .refine zj.putR hr2 _ λt X hX=>?_
     simp only[slD] at hX;cases hz:lk (popG V fm).sl t with
     |none=>rw[hz] at hX;cases hX
     |some x=>
      rw[hz] at hX;obtain⟨z1,z2⟩:=hlkf _ _ hz;have:=m1 t X (by simp only[slD,z1];exact hX);rw[show (GA.tm ⟨a',some (w.heap.size+1,rec,f,k)⟩).tmps=a.tmps.push (.func (.yield (w.heap.size+1)) #[] #[]) by rw[ha'];rfl] at this;have hne:t≠a.tmps.size:=by omega
      simpa[w07,w4u,hne] using this
   .cases hKe
  cases e with
  |ret=>exact fin hKe
  |normal=>exact fin hKe
  |exit id=>simp[rfK] at hKe
  |goto l=>simp[rfK] at hKe
  |panic ch=>simp[rfK] at hKe
  |outgrown=>simp[rfK] at hKe
 .have hA1:AExt A (A++[((0:Nat),(.func (.yield (w.heap.size+1)) #[] #[]:Value))]):=AExt.app A _;have hAt :(A++[((0:Nat),(.func (.yield (w.heap.size+1)) #[] #[]:Value))])[s.ob.length]? = some (0,.func (.yield (w.heap.size+1)) #[] #[]):=zay A _ _ hl;obtain⟨S2,hw2⟩:=z3q (P:=N.P) (A:=A) (B:=[((0:Nat),(.func (.yield (w.heap.size+1)) #[] #[]:Value))]) (ob:=s.ob) hl (us:=[.emp]) (H:=[Px.emp]) ⟨EntH.refl,trivial⟩ _ _ _ _ _ (hwT.addNil Px.emp trivial);have hslT:=hsl.evo hevT;refine⟨trivial,by simp[e2];omega,trivial,⟨λt g h=>by simp[lk] at h,λt ch z hz p hp=>?_,λp hp=>by simp at hp⟩,A++[(0,.func (.yield (w.heap.size+1)) #[] #[])],_,S2,by simp[hl],hw2,?_,?_,⟨⟨?_,hkn,⟨?_,?_,hgb.kn⟩,?_,?_⟩,hst.ext hA1 hevT⟩⟩
  .rw[zez] at hz;simp only[w3q,if_true,w1u,w0b] at hz;obtain⟨_,_,rfl,_⟩:=hz;simp at hp
  .have hem1:=hem.trans hevT;obtain⟨Ds,d1,d2,d3⟩:=hem1.bk.df;obtain⟨Ds0,d10,d20,d30⟩:=hem.bk.df;have hDs:Ds=Ds0:=by
    have hinj:∀(l m:List Nat),l.map mkD=m.map mkD->l=m:=by
     intro l
     induction l with
     |nil=>intro m h;cases m with
      |nil=>rfl
      |cons _ _=>simp at h
     |cons x l ih=>intro m h;cases m with
      |nil=>simp at h
      |cons y m=>
       simp only[w0p,w2y] at h;rw[ih m h.2];have:x=y:=by simpa[mkD] using h.1
       rw[this]
    exact hinj _ _ (d1.symm.trans d10)
   subst hDs;refine⟨hem1.ev,⟨w.heap.size::Ds,?_,?_,?_⟩,?_,?_⟩
   .show mks _ (_::acts)=_;have:mks a acts=Ds.map mkD:=d1;rw[ha',w0p,<- this];rfl
   .exact w1w.2 ⟨λhm=>(hfresh _ (d30 _ hm).1).1 rfl,d2⟩
   .intro D hD;rcases w0c.1 hD with rfl|hD
    .exact⟨.inr (.inl rfl),λe=>(hfresh _ (hr0 _ e)).1 rfl,hD1⟩
    .exact d3 D hD
   .show (((w.heap.size+1,rec,f,k)::lps acts).map (·.1)).Nodup;rw[w0p];refine w1w.2 ⟨λhm=>?_,hem1.bk.lp.1⟩;obtain⟨p,hp,e⟩:=w0h.1 hm;exact(hfresh _ (hem.bk.lp.2 p hp).1).2 e
   .intro p hp;have hp:p∈(w.heap.size+1,rec,f,k)::lps acts:=hp;rcases w0c.1 hp with rfl|hp
    .exact⟨.inr (.inr rfl),λe=>(hfresh _ (hr0 _ e)).2 rfl,hL1⟩
    .exact hem1.bk.lp.2 p hp
  .refine zwn (by simp[e2];omega) λi B hB=>?_
   cases i with
   |zero=>simp only[denV,w31,w00] at hB;subst hB;simp only[SV.den,hAt];show (#[Value.func (.yield (w.heap.size+1)) #[] #[]]++cv).getD 0 undef=Value.func (.yield (w.heap.size+1)) #[] #[];simp[w07,w17]
   |succ i=>simp only[denV,w2n] at hB;obtain⟨X,x1,x2⟩:=(zoh (zgh V N.P hA1 caps)).2 i B hB;have:=x2 _ _ _ ((X.evo hevT) (e3 i X x1));simpa[w07,w17] using this
  .intro t X hX;have htm :(GA.tm ⟨a',some (w.heap.size+1,rec,f,k)⟩).tmps=a.tmps.push (.func (.yield (w.heap.size+1)) #[] #[]):=by rw[ha'];rfl
   rw[htm];simp only[slD,z0c] at hX;by_cases e:t=s.n
   .rw[if_pos e] at hX;simp only[w0r,w00] at hX;subst hX;simp only[denE,SV.den,hAt];rw[e,<- hn];show (a.tmps.push (.func (.yield (w.heap.size+1)) #[] #[])).getD a.tmps.size undef = .func (.yield (w.heap.size+1)) #[] #[];simp[w07]
   .rw[if_neg e] at hX;have h1:=zdd V N.P hA1 hslT t X hX;have hne:t≠a.tmps.size:=by omega
    simpa[w07,w4u,hne] using h1
  .intro t g hg ch z hz;have hz:lk ((s.n,[],SV.own s.ob.length)::s.sl) t=some (ch,z):=hz;rw[z0c] at hz;by_cases e:t=s.n
   .have hg:lk s.gb t=some g:=hg;rw[e,hgn] at hg;cases hg
   .rw[if_neg e] at hz;exact hgb.val t g hg ch z hz
  .intro t ch z hz p hp;have hz:lk ((s.n,[],SV.own s.ob.length)::s.sl) t=some (ch,z):=hz;rw[z0c] at hz;by_cases e:t=s.n
   .rw[if_pos e] at hz;simp only[w00,w0b] at hz;rw[<- hz.1] at hp;cases hp
   .rw[if_neg e] at hz;exact hgb.ch t ch z hz p hp
  .intro x hx;simp only[w00] at hx;subst hx;exact⟨by rw[hrec,ha'],by rw[hrec],g0,by rw[hrec];exact h0⟩
  .show (GA.tm ⟨a',some (w.heap.size+1,rec,f,k)⟩).tmps.size=s.n+1;rw[show (GA.tm ⟨a',some (w.heap.size+1,rec,f,k)⟩).tmps=a.tmps.push (.func (.yield (w.heap.size+1)) #[] #[]) by rw[ha'];rfl];simp[hn]
theorem yfd[Dr](hN:z5f V N)(φ:Nat)(h:H V R):(∀Γ c K,obl V N φ Γ h none c K->zjt Γ C r (ex V N φ h).run c K)/\
  (∀Γ full id ops d K,obl V N φ Γ h (some full) (.region id ops d) K->zrv Γ C r (ex V N φ h).inl ops full K):=by
 induction h with
 |x=>exact⟨λΓ c K _=>zq4 hN (λΓ f fn c K _ _=>zpy hN 8 Γ f c K) (λΓ k=>zks 8 Γ k) c Γ K,λΓ full id ops d K _=>z93 hN Γ⟩
 |no=>refine⟨λΓ c K ho=>?_,λΓ full id ops d K _=>z93 hN Γ⟩;intro rd acts Q hΓ hrd hK s a w h hs;cases h
 |seq h1 h2 i1 i2=>
  refine⟨λΓ c K ho=>?_,λΓ full id ops d K _=>z93 hN Γ⟩;cases c with
  |seq x y=>intro rd acts Q hΓ hrd hK s a w h hs;obtain⟨r1,r2⟩:=zvm hrd;exact wpIn_seq (i1.1 _ _ _ ho.1 rd acts _ hΓ r1 (zrf (λs a w h hs=>i2.1 _ y K ho.2 rd acts Q hΓ r2 hK s a w h hs) hK) s a w h hs)
  |_=>exact ho.elim
 |cond h1 h2 i1 i2=>
  refine⟨λΓ c K ho=>?_,λΓ full id ops d K _=>z93 hN Γ⟩;cases c with
  |cond o x y=>intro rd acts Q hΓ hrd hK s a w h hs;obtain⟨r1,r2⟩:=zxw hrd;exact zwy h hs (λh=>i1.1 _ x K ho.1 rd acts Q hΓ r1 hK s a w h hs) (λh=>i2.1 _ y K ho.2 rd acts Q hΓ r2 hK s a w h hs)
  |_=>exact ho.elim
 |body h ih=>
  refine⟨λΓ c K ho=>?_,λΓ full id ops d K _=>z93 hN Γ⟩;cases c with
  |block id c=>intro rd acts Q hΓ hrd hK s a w h hs;exact wpIn_block (ih.1 _ c _ ho rd acts _ hΓ hrd (y0j hK) s a w h hs)
  |scope c=>intro rd acts Q hΓ hrd hK s a w h hs;exact zpi (ih.1 _ c _ ho rd acts _ hΓ hrd (y9o hK) s a w h hs)
  |_=>exact ho.elim
 |loop h L b ih=>
  refine⟨λΓ c K ho=>?_,λΓ full id ops d K _=>z93 hN Γ⟩;cases c with
  |loop c=>
   obtain⟨h0,hS,hb⟩:=ho;intro rd acts Q hΓ hrd hK s a w hr hs;obtain⟨z,hz,hL⟩:=zc7 hr;have key:∀n z,L n z=some r->∀a w,SatS V C acts (h.enc V z) a w->Code.roundsIn (fz rd) 0 N.P c Q n a w:=by
    intro n
    induction n with
    |zero=>intro z hz;rw[h0] at hz;cases hz
    |succ n ihn=>intro z hz a w hs;rw[hS] at hz;refine(ih (L n)).1 Γ c _ (hb n) rd acts (Exit.then (Code.roundsIn (fz rd) 0 N.P c Q n) Q) hΓ hrd (zrf (λs a w h hs=>?_) hK) _ a w hz hs;obtain⟨z',hz',hL'⟩:=zc7 h;exact ihn z' hL' a w (zon hs _ z' hz')
   exact wpIn_loop_rounds φ (key φ z hL a w (zon hs h z hz))
  |_=>exact ho.elim
 |join h J b ih=>
  refine⟨λΓ c K ho=>?_,λΓ full id ops d K _=>z93 hN Γ⟩;have ho' :(∀z,J z=K .normal (h.enc V z))/\obl V N φ Γ b none c (seqK V (λs=>zpm (h.dec V s) J) K):=by cases c<;>exact ho
  intro rd acts Q hΓ hrd hK s a w hr hs;refine ih.1 Γ c _ ho'.2 rd acts Q hΓ hrd (λe s a w hk hs=>?_) s a w hr hs;cases e with
  |normal=>obtain⟨z,hz,hJ⟩:=zc7 hk;rw[ho'.1] at hJ;exact hK _ _ a w hJ (zon hs h z hz)
  |_=>exact hK _ s a w hk hs
 |ins i f h rest ih1 ih2=>
  have B:∀Γ full id ops d K,obl V N φ Γ (.ins i f h rest) (some full) (.region id ops d) K->zrv Γ C r (ex V N φ (.ins i f h rest)).inl ops full K:=by
   intro Γ full id ops d K ho;obtain⟨ho1,ho2⟩:=ho;obtain⟨b1,b2⟩:=ih2.2 Γ full id ops d K ho2;refine⟨λj g fn c hf hc=>?_,λj=>?_⟩
   .show zjt _ C r (λc s K=>bif Nat.beq j i&&Nat.beq g f&&Nat.ble (g+1) YID then(ex V N φ h).run c s K else(ex V N φ rest).inl j g c s K) c _;cases he :(Nat.beq j i&&Nat.beq g f&&Nat.ble (g+1) YID) with
    |false=>exact b1 j g fn c hf hc
    |true=>simp only[w02] at he;have e1:=w01 he.1.1;have e2:=w01 he.1.2;subst e1;subst e2;rw[hf] at ho1;simp only[hc] at ho1;exact ih1.1 _ c _ ho1
   .have:=b2 j
    intro rd acts hΓ s vs a w A ro S hy;refine this rd acts hΓ s vs a w A ro S ?_;have e :(Nat.beq j i&&Nat.beq YID f&&Nat.ble (YID+1) YID)=false:=by rw[show Nat.ble (YID+1) YID=false from rfl,Bool.and_false]
    change (bif Nat.beq j i&&Nat.beq YID f&&Nat.ble (YID+1) YID then _ else(ex V N φ rest).inl j YID _ _ _)=_ at hy;rw[e] at hy;exact hy
  refine⟨λΓ c K ho=>?_,B⟩;cases c with
  |region id ops d=>intro rd acts Q hΓ hrd hK s a w h hs;exact zw4 hN (B Γ _ id ops d K ho) hΓ hK h hs
  |_=>exact ho.elim
 |rf f k fi h ih=>
  refine⟨λΓ c K ho=>?_,λΓ full id ops d K _=>z93 hN Γ⟩;cases c with
  |rangeFunc g ps asg bd=>
   obtain⟨h0,ho⟩:=ho;split at ho
   .rename_i fn hf;split at ho
    .rename_i c hc;exact yg0 h0 hf hc (ih.1 _ c _ ho) λs=>rfl
    .exact ho.elim
   .exact ho.elim
  |_=>exact ho.elim
 |yl i f k h rest ih1 ih2=>
  have B:∀Γ full id ops d K,obl V N φ Γ (.yl i f k h rest) (some full) (.region id ops d) K->zrv Γ C r (ex V N φ (.yl i f k h rest)).inl ops full K:=by
   intro Γ full id ops d K ho;obtain⟨⟨hΓ,hY,ho1⟩,ho2⟩:=ho;obtain⟨b1,b2⟩:=ih2.2 Γ full id ops d K ho2;refine⟨λj g fn c hf hc=>?_,λj=>?_⟩
   .show zjt _ C r (λc s K=>bif Nat.beq j i&&Nat.beq g YID then ylX V N (ex V N φ h).run f k s K else(ex V N φ rest).inl j g c s K) c _;cases he :(Nat.beq j i&&Nat.beq g YID) with
    |false=>exact b1 j g fn c hf hc
    |true=>simp only[w02] at he;have e2:=w01 he.2;subst e2;rw[hY] at hf;cases hf
   .cases he:Nat.beq j i with
    |false=>have:=b2 j;intro rd acts hΓ s vs a w A ro S hy;refine this rd acts hΓ s vs a w A ro S ?_;change (bif Nat.beq j i&&Nat.beq YID YID then _ else(ex V N φ rest).inl j YID _ _ _)=_ at hy;rw[he] at hy;exact hy
    |true=>
     have e1:=w01 he;subst e1;split at ho1
     .rename_i g0 ps asg bd h0;refine yg2 hN hΓ h0 (λs K=>?_) (ih1.1 _ bd _ ho1);show (bif Nat.beq j j&&Nat.beq YID YID then ylX V N (ex V N φ h).run f k s K else _)=_;rw[he,w2o];rfl
     .exact ho1.elim
  refine⟨λΓ c K ho=>?_,B⟩;cases c with
  |region id ops d=>intro rd acts Q hΓ hrd hK s a w h hs;exact zw4 hN (B Γ _ id ops d K ho) hΓ hK h hs
  |_=>exact ho.elim
 |foc p q h ih=>
  refine⟨λΓ c K ho=>?_,λΓ full id ops d K ho=>ih.2 Γ full id ops d K ho⟩;have ho':obl V N φ Γ h none c K:=by cases c<;>exact ho
  intro rd acts Q hΓ hrd hK s a w hr hs;change (match y3v V s p.1 p.2 with
   |some (.own i)=>bif y2c s.ob[i]? then focM V s i (keyX V s q) λs=>(ex V N φ h).run c s K else(match focP V p q s with
    |some (i,m)=>focX V s i m λs=>(ex V N φ h).run c s K
    |none=>none)
   |_=>none)=some r at hr
  split at hr
  .rename_i i _;cases hm:y2c s.ob[i]? with
   |true=>rw[hm] at hr;simp only[cond_true] at hr;obtain⟨s',h1,h2⟩:=yb3 hr hs;exact ih.1 Γ c K ho' rd acts Q hΓ hrd hK s' a w h1 h2
   |false=>
    rw[hm] at hr;simp only[cond_false] at hr;split at hr
    .obtain⟨s',h1,h2⟩:=yb4 hr hs;exact ih.1 Γ c K ho' rd acts Q hΓ hrd hK s' a w h1 h2
    .cases hr
  .cases hr
 |pk h J=>
  refine⟨λΓ c K ho=>?_,λΓ full id ops d K _=>z93 hN Γ⟩;cases c with
  |region id ops d=>obtain⟨rfl,hz,hA⟩:=ho;intro rd acts Q hΓ hrd hK s a w hr hs;obtain⟨z,hz1,hJ⟩:=zc7 hr;exact yel hN (λz' he=>by rw[<- hz,hA z z' he (ycr (zon hs h z hz1))];exact hJ) (by rw[<- hz];exact hJ) hK hΓ (zon hs h z hz1)
  |_=>exact ho.elim
 |unr n h ih=>
  refine⟨λΓ c K ho=>?_,λΓ full id ops d K _=>z93 hN Γ⟩;cases c with
  |loop c=>
   intro rd acts Q hΓ hrd hK s a w hr hs;have key:∀m s a w,unrX V ((ex V N φ h).run c) m s K=some r->SatS V C acts s a w->Code.roundsIn (fz rd) 0 N.P c Q m a w:=by
    intro m
    induction m with
    |zero=>intro s a w hz;cases hz
    |succ m ihm=>intro s a w hz hs;exact ih.1 Γ c _ (ho _) rd acts (Exit.then (Code.roundsIn (fz rd) 0 N.P c Q m) Q) hΓ hrd (zrf (λs a w h hs=>ihm s a w h hs) hK) _ a w hz (yai hs)
   exact wpIn_loop_rounds n (key n s a w hr hs)
  |_=>exact ho.elim
 |alt h J J2=>
  refine⟨λΓ c K ho=>?_,λΓ full id ops d K _=>z93 hN Γ⟩;cases c with
  |region id ops d=>obtain⟨hd,hz,hA⟩:=ho;simp only[w02] at hd;obtain⟨rfl,hm⟩:=hd;intro rd acts Q hΓ hrd hK s a w hr hs;obtain⟨z,hz1,hJ⟩:=zc7 hr;obtain⟨L,h1,h2⟩:=(hA z).ok r hJ;rw[hz] at h1;exact zus hN y63 (inl:=λ_=>Dfl V N R) (z93 hN Γ) hΓ hK hm h1 h2 (zon hs h z hz1)
  |_=>exact ho.elim
 |frz ps h ih=>
  refine⟨λΓ c K ho=>?_,λΓ full id ops d K ho=>ih.2 Γ full id ops d K ho⟩;have ho':obl V N φ Γ h none c K:=by cases c<;>exact ho
  intro rd acts Q hΓ hrd hK s a w hr hs;exact ih.1 Γ c K ho' rd acts Q hΓ hrd hK _ a w hr (zkv _ hs)
 |cut t h ih=>
  refine⟨λΓ c K ho=>?_,λΓ full id ops d K ho=>ih.2 Γ full id ops d K ho⟩;have ho':obl V N φ Γ h none c K:=by cases c<;>exact ho
  intro rd acts Q hΓ hrd hK s a w hr hs;exact ih.1 Γ c K ho' rd acts Q hΓ hrd hK _ a w hr (yao t hs)
end
end Px
end
section
namespace Px
open Go Go.RowKit
section
variable{V:TE}{N:Env V}
theorem zv2[Dr]{P:Program}{A B:Asg}{s:SS V.T}(hl:A.length=s.ob.length):∀(cs:List RC)(l:List (SV V.T))(y:RTup V.T cs)(n:Nat),decR V s cs l=some y->(∀k i,(zkn V cs l)[k]? = some i->B[n+k]? = some (A.getD i default))->
  F2 Ent (denV V P A l) (denV V P B (encR V n cs y))/\zfp (obD V P A A s.ob) (zkn V cs l) (obD V P B ((zkn V cs l).map λi=>A.getD i default) (newR V cs y))/\(newR V cs y).length =(zkn V cs l).length
 | [],l,y,n,h,hB=>by
  cases l with
  |nil=>exact⟨trivial,trivial,rfl⟩
  |cons x l=>exact zk h
 | .val c::cs,l,y,n,h,hB=>by
  cases l with
  |nil=>exact zk h
  |cons x l=>
   change (match V.dec (rdSl []) c x,decR V s cs l with
    |some y,some r=>some (y,r)
    |_,_=>none)=some y at h
   split at h
   .rename_i y1 r hy hr;have e:=w0f h;subst e;obtain⟨h1,h2,h3⟩:=zv2 hl cs l r n hr hB;refine⟨⟨?_,h1⟩,h2,h3⟩;rw[z43];exact z6h V P hy
   .exact zk h
 | .row E c::cs,l,y,n,h,hB=>by
  cases l with
  |nil=>exact zk h
  |cons x l=>
   cases x with
   |own i=>
    cases hr:decR V s cs l with
    |none=>simp[decR,hr] at h
    |some r=>
     simp only[decR,hr] at h;split at h
     .rename_i E' c' z hz;cases hE:Nat.beq E E' with
      |false=>rw[hE] at h;exact zk h
      |true=>
       rw[hE] at h;have:=w01 hE;subst this;simp only[cond_true] at h;split at h
       .rename_i e;subst e;have e:=w0f h;subst e;have hlt:i<A.length:=by rw[hl];exact(w04.1 hz).1
        have ha:A[i]? = some (A.getD i default):=by simp[List.getD,w0a hlt]
        obtain⟨h1,h2,h3⟩:=zv2 hl cs l r (n+1) hr λk j hk=>by have:=hB (k+1) j (by simpa[zkn] using hk);rw[<- this];congr 1;omega
        have hb:=hB 0 i rfl;refine⟨⟨?_,h1⟩,⟨⟨_,zt V P ha hz,EntH.refl⟩,h2⟩,by simp[zkn,newR,h3]⟩;simp only[SV.den];rw[ha,show B[n]? = some (A.getD i default) from hb];exact Ent.refl
       .exact zk h
     .exact zk h
   |_=>simp[decR] at h
theorem y8a[Dr]{P:Program}{A B:Asg}: ∀{l m:List (SV V.T)},F2 Ent (denV V P A l) (denV V P B m)->Ent ((resV V l).den V P A) ((resV V m).den V P B)
 | [],[],_=>by simp only[resV,SV.den];exact Ent.refl
 | [x],[y],h=>h.1
 |x::x'::l,y::y'::m,h=>by simp only[resV,SV.den];exact y4y h
 | [],_::_,h=>h.elim
 |_::_,[],h=>h.elim
 | [_],_::_::_,h=>h.2.elim
 |_::_::_,[_],h=>h.2.elim
theorem zlf[Dr]{P:Program}{A:Asg}: ∀(cs:List Nat)(x:Tup V.T cs),denV V P A (encA V cs x)=vls V cs x
 | [],_=>rfl
 |c::cs,x=>by simp only[encA,denV,vls,z43,zlf cs]
theorem zq3:∀(cs:List Nat)(x:Tup V.T cs),(encA V cs x).length=cs.length
 | [],_=>rfl
 |c::cs,x=>by simp only[encA,w1b,zq3 cs]
theorem zx7:∀(cs:List KC)(x:KCs V.T cs),(encK V cs x).length=cs.length
 | [],_=>rfl
 |c::cs,x=>by simp only[encK,w1b,zx7 cs]
theorem y9x[Dr](hN:z5f V N){f φ:Nat}{fn:Func}{rs:List RC}(h:H V (RTup V.T rs))(hf:N.P.funcs[f]? = some fn){us:List (SV V.T)}(hle:us.length<=fn.ntmps){r:RTup V.T rs}
  (hr:fnV V N φ fn rs h us=some r) (ho:fnO V N φ fn rs h):zdq N.P f (denV V N.P [] us) (Kres V N.P rs r):=by
 unfold fnV at hr;unfold fnO at ho;split at hr
 .rename_i c hb;rw[hb] at ho;intro r0 w vs hr0 hl hA;rw[zf3] at hl;refine zj7 hf hb ((yfd hN (r:=r) (C:=(⟨w,w.heap.size,r0,w,fn.ntmps,none,[]⟩:Cx N.P)) φ h).1 [] c _ ho none [] _ rfl (.inl rfl) ?_ _ _ _ hr ?_)
  .intro e s a' w' hK hs;have fin :(match zg2 V N s fn.results.toList with
     |some l=>match zg2 V N (zt6 V s (zvr V rs l)) fn.results.toList with
      |some l'=>bif zek (zkn V rs l') then decR V (zt6 V s (zvr V rs l)) rs l' else none
      |none=>none
     |none=>none)=some r->LeavesInM (fz none) 0 N.P fn a'.tmps (retR w w.heap.size r0 w (Kres V N.P rs r)) a'.defers .returning w':=by
    intro hK;split at hK
    .rename_i l hl1;split at hK
     .rename_i l' hl2;cases hnd:zek (zkn V rs l') with
      |false=>rw[hnd] at hK;cases hK
      |true=>
       rw[hnd] at hK;simp only[cond_true] at hK;obtain⟨hd',hn',hkn',hgb',A',ro',S',hl',hw',hev',hsl',hst'⟩:=zkv (zvr V rs l) hs;refine zqs hw' hev' hsl' hst' λw2 g1 g2 g3 g4=>?_
       obtain⟨v,hv,hvx⟩:=zij g1 g3 hl2;obtain⟨k1,k2,k3⟩:=zv2 (P:=N.P) (B:=(zkn V rs l').map λi=>A'.getD i default) hl' rs l' r 0 hK λk i hk=>by rw[w13,w12,hk];rfl
       exact⟨v,hv,v,_,_,ro',_,rfl,g2.ev,g1.sel k2 hnd,y8a k1 _ _ _ hvx,_,by rw[k3];simp,rfl,rfl⟩
     .cases hK
    .cases hK
   cases e with
   |ret=>exact fin hK
   |normal=>exact fin hK
   |exit id=>simp[retK] at hK
   |goto l=>simp[retK] at hK
   |panic ch=>simp[retK] at hK
   |outgrown=>simp[retK] at hK
  .refine⟨trivial,by simp[hl];omega,trivial,⟨λt g h=>by simp[lk] at h,λt ch z hz p hp=>?_,λp hp=>by simp at hp⟩,[],r0,λ_ _=>False,rfl,⟨Bel.refl _ _,w0x _,λi H hi=>by simp[obD] at hi,λi b hb=>hb.elim,λi j b hb=>hb.elim,hr0⟩,⟨Evo.refl _ _ _,⟨⟨[],rfl,List.nodup_nil,λ_ h=>by cases h⟩,List.nodup_nil,λp h=>by cases h⟩⟩,?_,trivial⟩
   .rw[zez] at hz;simp only[w3q,if_true,w1u,w0b] at hz;obtain⟨_,_,rfl,_⟩:=hz;simp at hp
   .intro t X hX;simp only[slD,zez,w3q,if_true,w49,Option.map_map,w1u] at hX;obtain⟨y,hy,rfl⟩:=hX;have hlt:=(w04.1 hy).1;have hdv:∀(l:List (SV V.T))(t:Nat),l[t]? = some y->(denV V N.P [] l)[t]? = some (y.den V N.P []):=by
     intro l
     induction l with
     |nil=>intro t h;simp at h
     |cons z l ih=>intro t h;cases t with
      |zero=>simp at h;subst h;rfl
      |succ t=>simp at h;simpa[denV] using ih t h
    have:=hA t _ (hdv _ t hy);have hvt:t<vs.size:=hl ▸ hlt;simpa[denE,w07,w17,hvt] using this
 .cases hr
theorem z1s[Dr](hN:z5f V N){f φ:Nat}{fn:Func}{as:List Nat}{rs:List RC}{F:Tup V.T as->Option (RTup V.T rs)}(h:H V (RTup V.T rs))(hf:N.P.funcs[f]? = some fn)(hn:Nat.ble as.length fn.ntmps=true)
  (hF:∀a,F a=fnX V N φ fn as rs h a) (ho:fnO V N φ fn rs h):z19 V N.P f ⟨as,rs,F⟩:=by
 intro x r hr;simp only at x r hr;rw[hF] at hr;have:=y9x hN (us:=encA V as x) h hf (by rw[zq3];exact w0u hn) hr ho
 rwa [zlf] at this
theorem y93[Dr](hN:z5f V N){f φ:Nat}{fn:Func}{as:List Nat}{cs:List KC}{rs:List RC}{F:Tup V.T as->KCs V.T cs->Option (RTup V.T rs)}(h:H V (RTup V.T rs))(hf:N.P.funcs[f]? = some fn)(hn:Nat.ble (as.length+cs.length) fn.ntmps=true)
  (hF:∀a b,F a b=fnXc V N φ fn as cs rs h a b) (ho:fnO V N φ fn rs h):zyl V N.P f ⟨as,cs,rs,F⟩:=by
 intro x y r hr;simp only at x y r hr;rw[hF] at hr;have:=y9x hN (us:=encA V as x++encK V cs y) h hf (by rw[w0i,zq3,zx7];exact w0u hn) hr ho
 rwa [zpx,zlf] at this
theorem ztd{α:Type}{Q:Nat->α->Prop}: ∀{l:List (Nat×α)},AllP (λp=>Q p.1 p.2) l->∀f x,lk l f=some x->Q f x
 | [],_,f,x,h=>by cases h
 |(k,y)::l,hl,f,x,h=>by
  rw[z0c] at h;by_cases e:f=k
  .rw[if_pos e] at h;cases h;subst e;exact hl.1
  .rw[if_neg e] at h;exact ztd hl.2 f x h
theorem z09[Dr]{P:Program}{l:List (Nat×Fsp V)}{m:List (Nat×Msp V)}{n:List (Nat×Csp V)}{s:List (Nat×SoSp)}(h:AllP (λp=>z19 V P p.1 p.2) l)(hm:AllP (λp=>ya2 V P p.1 p.2) m)(hn:AllP (λp=>zyl V P p.1 p.2) n)
  (hs:AllP (λp=>SoOK V P p.1 p.2) s):z5f V (⟨P,lk l,lk m,lk n,lk s⟩:Env V):=
 ⟨λf sp hf=>ztd hn f sp hf,λf sp hf=>ztd hm f sp hf,λf sp hf=>ztd h f sp hf,λf sp hf=>ztd hs f sp hf⟩
end
end Px
end
