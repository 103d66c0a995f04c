/- A part of the proof of topCheapest_holds. Conditions: none. -/
import Derived.Test.YtcofccdjgfgeeaaKtab
set_option linter.unusedVariables false
set_option linter.unusedSimpArgs false
section
namespace Px
open Go Go.RowKit
section
variable(V:TE)(P:Program)
theorem y4h{T:Nat->Type}{l:List (SV T)}{x:SV T}(h:zyc l=some x):l = [x]:=by
 match l,h with
 | [y],h=>simp[zyc] at h;rw[h]
theorem zf6{α:Type}{z:α}{l:List α}{i:Int}(h:0<=i/\i<(l.length:Int)):l[i.toNat]? = some (gtz z l i):=by
 have hlt:i.toNat<l.length:=by omega
 simp[gtz,hlt]
theorem yen[Dr]{C:Cx P}{s:St}{x:Operand}{i E c fo:Nat}{k:Int}{l:List (V.T c)}{sv:Value}(hx:Ev s x (eltp sv k (k.toNat*V.sz c+fo)))(ho:s.objs[i]? = some (row E (V.ev c) (V.sz c) l sv)):
  Pt C s x ((V.ev c (gtz (V.z c) l k)).drop fo):=by
 intro a r S w hw hs;obtain⟨g,n,cap,hv,_,h0,h1⟩:=hx a r w hs;have hlen:n=l.length\/False:=by
  rcases hw.obj i _ ho with⟨hn,_⟩|⟨g',cap',cur,hv',_⟩
  .rw[hv] at hn;cases hn
  .rw[hv] at hv';simp only[Value.slice.injEq] at hv';exact .inl hv'.2.1
 rcases hlen with rfl|hf
 .exact Pt.row C i (V.ev_len c) (Ev.ent' hx zq0) ho rfl (zf6 ⟨h0,h1⟩) rfl a r S w hw hs
 .exact hf.elim
theorem ych[Dr]{C:Cx P}{s:St}{x:Operand}{i E c fo:Nat}{k:Int}{l:List (V.T c)}{sv:Value}(hx:Ev s x (eltp sv k (k.toNat*V.sz c+fo)))(ho:ObIs s.objs i (row E (V.ev c) (V.sz c) l sv)):
  Pt C s x ((V.ev c (gtz (V.z c) l k)).drop fo):=by
 intro a r S w hw hs;obtain⟨g,n,cap,hv,hx,h0,h1⟩:=hx a r w hs;refine⟨g,_,hx,?_⟩;rcases ObIs.at hw ho with⟨hn,_⟩|⟨g',cap',cur,hv',hS,hcur,hl,hm,hsz,hh⟩
 .rw[hv] at hn;cases hn
 .rw[hv] at hv';simp only[Value.slice.injEq,w00,Addr.mk.injEq] at hv';obtain⟨⟨rfl,_⟩,rfl,_⟩:=hv';intro j A hj;rw[w1v] at hj;have hfm:=z3e (V.ev_len c) l k.toNat _ (zf6 (z:=V.z c) ⟨h0,h1⟩) (fo+j) A hj;obtain⟨u,hu,hA,h1⟩:=hh.2 _ _ hfm;refine⟨u,?_,hA,h1⟩;rw[w0o] at hu;split at hu
  .rw[cell_of_row w g _ cur E (0,0) hcur,w2h];simpa using hu
  .cases hu
theorem zsw[Dr]{A:Asg}{s:SS V.T}{j E c:Nat}{l:List (V.T c)}{q:Nat×Value}(ha:A[j]? = some q)(ho:s.ob[j]? = some (.x (.fix E c l))):ObIs (s.st V P A).objs j (row E (V.ev c) (V.sz c) l q.2):=⟨_,zt V P ha ho,λ_ _ _ h=>h.2⟩
def LdR[Dr](C:Cx P)(s:St)(x:Operand)(g:Bool)(n:Nat)(v:VP):Prop:=Ev s x nov\/(g=false/\∃cs,Pt C s x (v::cs))\/(g=true/\∃cs,v=Px.agg cs/\cs.length=n/\Pt C s x cs)
theorem ydt[Dr]{C:Cx P}{A:Asg}{s:SS V.T}{g:Bool}{n:Nat}{p v:SV V.T}{x:Operand}(h:ld V s g n p=some v)(hx:Ev (s.st V P A) x (p.den V P A)):
  LdR P C (s.st V P A) x g n (v.den V P A):=by
 have fin:∀(cs:List (SV V.T)),zeh V g n (some cs)=some v->Pt C (s.st V P A) x (denL V P A cs)->LdR P C (s.st V P A) x g n (v.den V P A):=by
  intro cs hc hp;simp only[zeh] at hc;cases h1:zld V cs n with
  |none=>rw[h1] at hc;cases hc
  |some l=>
   rw[h1] at hc;obtain⟨e,hl⟩:=zgd V P (A:=A) cs n l h1;have hlen :(denL V P A l).length=n:=by rw[e,w1y];omega
   have hp':=hp.take n e.symm;cases g with
   |true=>simp only[cond_true,w00] at hc;subst hc;simp only[SV.den];exact .inr (.inr ⟨rfl,_,rfl,hlen,hp'⟩)
   |false=>
    simp only[cond_false] at hc;cases h2:zyc l with
    |none=>rw[h2] at hc;cases hc
    |some y=>
     rw[h2] at hc;simp only at hc;have hl1:=y4h h2;subst hl1;cases h3:z18 y with
     |true=>rw[h3] at hc;cases hc
     |false=>rw[h3] at hc;simp only[cond_false,w00] at hc;subst hc;rw[zgg V P h3] at hp';exact .inr (.inl ⟨rfl,_,hp'⟩)
 have dr:∀(cs:List (SV V.T))(o:Nat),zeh V g n (z6f V cs o)=some v->Pt C (s.st V P A) x ((denL V P A cs).drop o)->LdR P C (s.st V P A) x g n (v.den V P A):=by
  intro cs o hc hp;cases h1:z6f V cs o with
  |none=>rw[h1] at hc;cases hc
  |some m=>rw[h1] at hc;have e:=(zb1 V P (A:=A) cs o m h1).1;exact fin m hc (by rw[e];exact hp)
 cases p with
 |ptr i off=>
  simp only[ld] at h;cases ho:s.ob[i]? with
  |none=>rw[ho] at h;cases h
  |some ob=>
   rw[ho] at h;cases ob with
   |box T cs=>
    simp only at h;simp only[SV.den] at hx;cases ha:A[i]? with
    |none=>rw[ha] at hx;exact .inl hx
    |some q=>obtain⟨b,u⟩:=q;rw[ha] at hx;exact dr cs off h (Pt.box i hx (zt V P ha ho) rfl)
   |row _ _ _=>cases h
   |x _=>cases h
   |emp=>cases h
 |pta i off m z idx cnt fo=>
  simp only[ld] at h;cases ho:s.ob[i]? with
  |none=>rw[ho] at h;cases h
  |some ob=>
   rw[ho] at h;cases ob with
   |box T cs=>
    simp only at h;cases hcd:z6f V cs off with
    |none=>rw[hcd] at h;cases h
    |some cs'=>
     rw[hcd] at h;cases cs' with
     |nil=>cases h
     |cons y post=>
      cases y with
      |arr m' c f=>
       simp only at h;cases hb :(Nat.beq m m'&&Nat.beq z (V.sz c)&&Nat.beq cnt 1) with
       |false=>rw[hb] at h;cases h
       |true=>
        rw[hb] at h;simp only[cond_true] at h;simp only[w02] at hb;have e1:=w01 hb.1.1;have e2:=w01 hb.1.2;have e3:=w01 hb.2;subst e1;subst e2;subst e3;simp only[SV.den] at hx;cases ha:A[i]? with
        |none=>rw[ha] at hx;exact .inl hx
        |some q=>
         obtain⟨b,u⟩:=q;rw[ha] at hx;have e:=(zb1 V P (A:=A) cs off _ hcd);have hsplit:denL V P A cs =(denL V P A cs).take off++Px.arr m (V.ev c) f++denL V P A post:=by have:=w25 off (denL V P A cs);rw[<- e.1] at this;simpa only[denL,w0q] using this.symm
         have hob:=zt V P (A:=A) (ps:=A) ha ho;simp only[SO.den] at hob;rw[hsplit] at hob;refine dr (V.enc c (f idx)) fo h ?_;rw[z1m];intro a r S w hw hs;obtain⟨hlt,hv⟩:=hx a r w hs;refine Pt.ofArrF (C:=C) (s:=s.st V P A) (x:=.const (.pointer (some ⟨b,off+idx*V.sz c+fo,none⟩))) i (Ev.const _) hob (V.ev_len c) (by rw[w1y];omega) (by omega) rfl a r S w hw hs |>.imp λb' ⟨o',e1,e2⟩=>⟨o',?_,e2⟩
         rw[hv,<- e1];rfl
      |_=>cases h
   |row _ _ _=>cases h
   |x _=>cases h
   |emp=>cases h
 |rop cs=>simp only[ld] at h;simp only[SV.den] at hx;exact fin cs h (Pt.rop hx)
 |elt i k z fo=>
  simp only[ld] at h;cases ho:s.ob[i]? with
  |none=>rw[ho] at h;cases h
  |some ob=>
   rw[ho] at h;cases ob with
   |row E c l=>
    simp only at h;cases hb:Nat.beq z (V.sz c) with
    |false=>rw[hb] at h;cases h
    |true=>
     rw[hb] at h;simp only[cond_true] at h;have e1:=w01 hb;subst e1;simp only[SV.den] at hx;cases ha:A[i]? with
     |none=>rw[ha] at hx;exact .inl hx
     |some q=>obtain⟨b,u⟩:=q;rw[ha] at hx;have hob:=zt V P (A:=A) (ps:=A) ha ho;refine dr (V.enc c (gtz (V.z c) l k)) fo h ?_;rw[z1m];exact yen V P hx hob
   |x o=>
    cases o with
    |fix E c l=>
     simp only at h;cases hb:Nat.beq z (V.sz c) with
     |false=>rw[hb] at h;cases h
     |true=>
      rw[hb] at h;simp only[cond_true] at h;have e1:=w01 hb;subst e1;simp only[SV.den] at hx;cases ha:A[i]? with
      |none=>rw[ha] at hx;exact .inl hx
      |some q=>obtain⟨b,u⟩:=q;rw[ha] at hx;refine dr (V.enc c (gtz (V.z c) l k)) fo h ?_;rw[z1m];exact ych V P hx (zsw V P ha ho)
    |map _ _ _ _ _=>cases h
    |it _ _ _ _=>cases h
    |nst _ _ _ _ _=>cases h
   |box _ _=>cases h
   |emp=>cases h
 |_=>simp[ld] at h
theorem yff[Dr]{C:Cx P}{A:Asg}{s:SS V.T}{g:Bool}{n:Nat}{p v:SV V.T}{t:TypeId}{x:Operand}{dst:Option Tmp}{ty:TypeId}{pos:String}{after:Array Edge}{guard:Option (Nat×Bool)}(ht:z3p P t=some (g,n))(h:ld V s g n p=some v)(hx:Ev (s.st V P A) x (p.den V P A)):
  OpQ C ⟨dst,.load t x,ty,pos,after,guard⟩ (s.st V P A) (v.den V P A):=by
 rcases ydt V P (C:=C) h hx with h1|⟨rfl,cs,h1⟩|⟨rfl,cs,e,hl,h1⟩
 .exact z5p P h1
 .exact y3q ht h1
 .rw[e];exact y7u ht hl h1
end
end Px
end
section
namespace Px
open Go Go.RowKit
section
variable(V:TE)
def vls :(cs:List Nat)->Tup V.T cs->List VP
 | [],_=>[]
 |c::cs,x=>V.vl c x.1::vls cs x.2
def Kres[Dr](P:Program)(res:List RC)(r:RTup V.T res)(x:VP)(news:List HP):Prop:=∃B:Asg,B.length =(newR V res r).length/\x =(resV V (encR V 0 res r)).den V P B/\news=obD V P B B (newR V res r)
def z19[Dr](P:Program)(f:Nat)(sp:Fsp V):Prop:=∀a r,sp.F a=some r->zdq P f (vls V sp.args a) (Kres V P sp.res r)
def msD[Dr](P:Program):(ms:List MA)->MTup V.T ms->List VP
 | [],_=>[]
 | .fn f::ms,x=>eqv (.func (.func f) #[] #[])::msD P ms x.2
 | .val c::ms,x=>V.vl c x.1::msD P ms x.2
 | .cmp c::ms,x=>fcmp P (λy=>V.vl c y) x.1::msD P ms x.2
def ya2[Dr](P:Program)(f:Nat)(m:Msp V):Prop:=∀l a l' sv,m.F l a=some l'->MutT P f (eqv sv::msD V P m.ms a) m.E (V.ev m.c) (V.sz m.c) l sv λx l2=>x=eqv (.tuple #[])/\l2=l'
def zyl[Dr](P:Program)(f:Nat)(m:Csp V):Prop:=∀a b r,m.F a b=some r->zdq P f (vls V m.args a++denV V P [] (encK V m.caps b)) (Kres V P m.res r)
def rop0(cs:List VP):VP:=⟨λr w v=>∃b,v = .pointer (some ⟨b,0,none⟩)/\r b/\z3r w r b 0 cs,λh1 h2 ⟨b,hv,hr,h⟩=>⟨b,hv,h1 _ hr,h.wk h1 h2 (h2 _ hr)⟩⟩
def SoOK[Dr](P:Program)(f:Nat)(sp:SoSp):Prop:=∀m:List (V.T sp.kc×V.T sp.vc),soK (V.kl sp.kc) m=true->
 zdq P f [fnc sp.g [rop0 [V.mv V.ev sp.kc sp.vc m]]] λx news=>∃sv,x=eqv sv/\news = [row sp.E (V.ev sp.kc) (V.sz sp.kc) (m.map (·.1)) sv]
structure z5f[Dr](N:Env V):Prop where
 cl:∀f m,N.cl f=some m->zyl V N.P f m
 mu:∀f m,N.mu f=some m->ya2 V N.P f m
 fn:∀f sp,N.fn f=some sp->z19 V N.P f sp
 so:∀f sp,N.so f=some sp->SoOK V N.P f sp
end
theorem z4e{R:Type}{gb:List (Nat×Bool)}{cur:Ch}{p:Prop}[Decidable p]{k:Option R}{r:R}(h:ckG gb cur p k=some r):(chP gb cur->p)/\k=some r:=by
 cases cur with
 |nil=>exact⟨λ_=>(zci h).1,(zci h).2⟩
 |cons a l=>
  simp only[ckG,ck] at h;split at h
  .rename_i hh;exact⟨hh,h⟩
  .cases h
theorem zpq{α R:Type}{gb:List (Nat×Bool)}{cur:Ch}{z:α}{x:Option α}{k:α->Option R}{r:R}(h:zpp gb cur z x k=some r):∃y,(chP gb cur->x=some y)/\k y=some r:=by
 cases cur with
 |nil=>obtain⟨y,e,hk⟩:=bind_some h;exact⟨y,λ_=>e,hk⟩
 |cons a l=>
  obtain⟨y,e,hk⟩:=bind_some h;refine⟨y,λhc=>?_,hk⟩;unfold z0u at e
  rwa [if_pos hc] at e
theorem FEnt.rowI[Dr]{P:Program}{C:Cx P}{s:St}{α:Type}(i:Nat){E:TypeId}{e:α->List VP}{sz:Nat}{l:List α}{sv:Value}(he:∀x,(e x).length=sz)(ho:ObIs s.objs i (Px.row E e sz l sv)):FEnt C s (eqv sv) (Px.ro e sz l):=by
 intro r S w v hw h;simp only[eqv] at h;subst h;rcases ObIs.at hw ho with⟨rfl,rfl⟩|⟨g,cap,cur,rfl,hS,hcur,hl,hm,hsz,hh⟩
 .exact .inl ⟨⟨none,0,rfl⟩,rfl⟩
 .refine .inr ⟨g,0,cap-l.length,by rw[w2j hl],λk x hk=>⟨.inr ⟨i,hS⟩,λj A hj=>?_⟩⟩;obtain⟨u,hu,hA,h1⟩:=hh.2 _ A (z3e he l k x hk j A hj);refine⟨u,?_,A.mono (λb hb=>.inl hb) (λ_ _=>rfl) hA,h1⟩;rw[w13,cell_of_row w g _ cur E (0,0) hcur];rw[w0o] at hu;split at hu
  .simpa using hu
  .cases hu
section
variable(V:TE)(P:Program)
theorem z6h[Dr]{A:Asg}{c:Nat}{x:SV V.T}{y:V.T c}(h:V.dec (rdSl []) c x=some y):Ent (x.den V P A) (V.vl c y):=y0u (zmz []) (λ_ _ _ _ _=>zik) (λ_=>Ent.refl) (λ_ _ _ h=>zr3 h) (λ_ _ h=>Ent.agg h.ents) h
theorem FEnt.nilM[Dr]{C:Cx P}{s:St}{kc vc:Nat}: FEnt C s (eqv (.map none)) (V.mv V.ev kc vc []):=λr S w v hw h=>.inl ⟨h,rfl⟩
theorem y6a[Dr]{C:Cx P}{A:Asg}{s:SS V.T}{c:Nat}{x:SV V.T}{y:V.T c}(h:V.dec (rdSl s.ob) c x=some y):FEnt C (s.st V P A) (x.den V P A) (V.vl c y):=by
 refine y0u (R:=FEnt C (s.st V P A)) (zmz s.ob) (λ_ _ _ _ _=>FEnt.nilM V P) (λ_=>FEnt.refl) (λc y l h=>?_) (λ_ _ h=>FEnt.agg h.fents) h;unfold rdSl at h;split at h
 .split at h
  .rename_i e;subst e;simp only[w00] at h;subst h;exact FEnt.refl
  .cases h
 .rename_i i;cases ho:s.ob[i]? with
  |none=>rw[ho] at h;cases h
  |some o=>
   rw[ho] at h;cases o with
   |row E c' l'=>
    simp only at h;split at h
    .rename_i e;subst e;simp only[w00] at h;subst h;simp only[SV.den];cases ha:A[i]? with
     |none=>exact λr S w v _ hv=>hv.elim
     |some q=>exact FEnt.row i (V.ev_len _) (zt V P ha ho)
    .cases h
   |x o=>
    cases o with
    |fix E c' l'=>
     simp only at h;split at h
     .rename_i e;subst e;simp only[w00] at h;subst h;simp only[SV.den];cases ha:A[i]? with
      |none=>exact λr S w v _ hv=>hv.elim
      |some q=>exact FEnt.rowI i (V.ev_len _) (zsw V P ha ho)
     .cases h
    |map _ _ _ _ _=>cases h
    |it _ _ _ _=>cases h
    |nst _ _ _ _ _=>cases h
   |box _ _=>cases h
   |emp=>cases h
 .simp only[w00] at h;subst h;exact FEnt.nil
 .cases h
theorem FEnt.box[Dr]{C:Cx P}{s:St}(i:Nat){b:Nat}{T:TypeId}{cs ds:List VP}(ho:s.objs[i]? = some (Px.box b T cs))(h:zhg C s cs ds):FEnt C s (eqv (.pointer (some ⟨b,0,none⟩))) (Px.rop ds):=by intro r S w v hw hv;have hv:v = .pointer (some ⟨b,0,none⟩):=hv;subst hv;obtain⟨hS,cur,hcur,hh⟩:=hw.obj i _ ho;obtain⟨h1,h2⟩:=h.ok;refine⟨b,0,rfl,.inr ⟨i,hS⟩,λj B hB=>?_⟩;obtain⟨A,hA,hAB⟩:=h2 j B hB;obtain⟨u,hu,hAu,ho1⟩:=hh.2 j A hA;refine⟨u,?_,hAB r S w u hw hAu,ho1⟩;rw[w13,cell_of_row w b j cur T (0,0) hcur];simpa using hu
theorem FEnt.box0[Dr]{C:Cx P}{s:St}(i:Nat){b:Nat}{T:TypeId}{cs ds:List VP}(ho:s.objs[i]? = some (Px.box b T cs))(h:zhg C s cs ds):FEnt C s (eqv (.pointer (some ⟨b,0,none⟩))) (rop0 ds):=by intro r S w v hw hv;have hv:v = .pointer (some ⟨b,0,none⟩):=hv;subst hv;obtain⟨hS,cur,hcur,hh⟩:=hw.obj i _ ho;obtain⟨h1,h2⟩:=h.ok;refine⟨b,rfl,.inr ⟨i,hS⟩,λj B hB=>?_⟩;obtain⟨A,hA,hAB⟩:=h2 j B hB;obtain⟨u,hu,hAu,ho1⟩:=hh.2 j A hA;refine⟨u,?_,hAB r S w u hw hAu,ho1⟩;rw[w13,cell_of_row w b j cur T (0,0) hcur];simpa using hu
theorem y46[Dr]{C:Cx P}{A:Asg}{s:SS V.T}(c:Nat)(y:SV V.T)(l:List (V.T c))(h:rdSl s.ob c y=some l):FEnt C (s.st V P A) (y.den V P A) (Px.ro (V.ev c) (V.sz c) l):=by
 unfold rdSl at h;split at h
 .split at h
  .rename_i e;subst e;simp only[w00] at h;subst h;exact FEnt.refl
  .cases h
 .rename_i i;cases ho:s.ob[i]? with
  |none=>rw[ho] at h;cases h
  |some o=>
   rw[ho] at h;cases o with
   |row E c' l'=>
    simp only at h;split at h
    .rename_i e;subst e;simp only[w00] at h;subst h;simp only[SV.den];cases ha:A[i]? with
     |none=>exact λr S w v _ hv=>hv.elim
     |some q=>exact FEnt.row i (V.ev_len _) (zt V P ha ho)
    .cases h
   |x o=>
    cases o with
    |fix E c' l'=>
     simp only at h;split at h
     .rename_i e;subst e;simp only[w00] at h;subst h;simp only[SV.den];cases ha:A[i]? with
      |none=>exact λr S w v _ hv=>hv.elim
      |some q=>exact FEnt.rowI i (V.ev_len _) (zsw V P ha ho)
     .cases h
    |map _ _ _ _ _=>cases h
    |it _ _ _ _=>cases h
    |nst _ _ _ _ _=>cases h
   |box _ _=>cases h
   |emp=>cases h
 .simp only[w00] at h;subst h;exact FEnt.nil
 .cases h
theorem yaf[Dr]{C:Cx P}{A:Asg}{s:SS V.T}{c:Nat}{x:SV V.T}{y:V.T c}(h:capX V s.ob c x=some y):FEnt C (s.st V P A) (x.den V P A) (Px.rop (V.ev c y)):=by
 unfold capX at h;split at h
 .rename_i cs;have:=zun (ze0 (P:=P) (A:=A) (R:=Eq) zp5 zp6 (λ_=>rfl) (λ_ _ _ h=>zp4 h) h);simp only[SV.den];rw[this];exact FEnt.refl
 .rename_i i;split at h
  .rename_i T cs ho;have:=ze0 (P:=P) (A:=A) (R:=FEnt C (s.st V P A)) (zmz s.ob) (λ_ _ _ _ _=>FEnt.nilM V P) (λ_=>FEnt.refl) (y46 V P) h;simp only[SV.den];cases ha:A[i]? with
   |none=>exact λr S w v _ hv=>hv.elim
   |some q=>exact FEnt.box P i (zt V P ha ho) this.fents
  .cases h
 .cases h
theorem y55{c:Nat}{x:V.T c}(h:zaw (V.d c)=true):V.vl c x=eqv (V.kv c x):=by unfold TE.vl TE.kv;generalize (λc=>kvS (V.d c))=g;revert x h;generalize V.ev c=e;generalize V.d c=d;revert e d;generalize V.T c=α;intro e d x h;cases d<;>first|rfl|simp[zaw] at h
theorem ydp{E c:Nat}(h:V.okV c=true){x:V.T c}{v:Value}{S r:Nat->Prop}{w:World}(hx :(V.inm E c x v).h S r w):(V.vl c x).h (λb=>r b\/S b) w v:=by
 unfold TE.okV at h;unfold TE.inm at hx;unfold TE.vl;revert x h;generalize V.ev c=e;generalize V.d c=d;revert e d;generalize V.T c=α;intro e d h x hx;cases d with
 |int k=>exact hx
 |bool=>exact hx
 |str=>exact hx
 |sl c'=>exact zp9 (V.ev_len c') hx
 |map kc vc=>
  obtain⟨b,rfl,hn⟩:=hx;show (V.mv V.ev kc vc x).h _ _ _;rw[zzb];refine y9p hn λy v S' hy=>?_
  simp only[okD] at h;rw[y55 V h];exact hy
 |arr n c'=>simp[okD,zaw] at h
 |st fs mk un law=>simp[okD,zaw] at h
theorem y9l{E kc vc:Nat}{m:List (V.T kc×V.T vc)}{b:Nat}{S r:Nat->Prop}{w:World}(h:V.okV vc=true)(hx :(nmp b (V.kl kc) (V.kv kc) (V.inm E vc) m none).h S r w):(V.mv V.ev kc vc m).h (λb=>r b\/S b) w (.map (some b)):=by rw[zzb];exact y9p hx λy v S' hy=>ydp V h hy
theorem FEnt.map[Dr]{C:Cx P}{A:Asg}{s:SS V.T}{j kc vc E:Nat}{m:List (V.T kc×V.T vc)}{q:Nat×Value}(hok:V.okV vc=true)(ha:A[j]? = some q)(ho:s.ob[j]? = some (.x (.map kc vc E m none))):FEnt C (s.st V P A) (eqv q.2) (V.mv V.ev kc vc m):=by intro r S w v hw hv;have hv:v=q.2:=hv;subst hv;obtain⟨⟨hq,_⟩,hn⟩:=hw.obj j _ (zt V P ha ho);rw[hq];exact(V.mv V.ev kc vc m).mono (λc hc=>hc.elim .inl λq=>.inr ⟨j,q⟩) (λ_ _=>rfl) (y9l V hok hn)
theorem FEnt.fnc[Dr]{C:Cx P}{s:St}{f:FuncId}{Xs Ys:List VP}(h:zhg C s Xs Ys):FEnt C s (Px.fnc f Xs) (Px.fnc f Ys):=by rintro r S w v hw ⟨caps,hv,hl,hc⟩;obtain⟨h1,h2⟩:=h.ok;refine⟨caps,hv,by rw[<- h1];exact hl,λi B hB=>?_⟩;obtain⟨A,hA,hAB⟩:=h2 i B hB;exact hAB r S w _ hw (hc i A hA)
theorem FEnt.rop1[Dr]{C:Cx P}{s:St}{As Bs:List VP}(h:zhg C s As Bs):FEnt C s (Px.rop As) (Px.rop Bs):=by rintro r S w v hw ⟨b,o,hv,hr,hh⟩;obtain⟨h1,h2⟩:=h.ok;refine⟨b,o,hv,.inl hr,λj B hB=>?_⟩;obtain⟨A,hA,hAB⟩:=h2 j B hB;obtain⟨u,hu,hAu,ho⟩:=hh j A hA;exact⟨u,hu,hAB r S w u hw hAu,ho⟩
theorem yae[Dr]{C:Cx P}{A:Asg}{s:SS V.T}{kc vc:Nat}{x:SV V.T}{y:List (V.T kc×V.T vc)}(h:capM V s.ob kc vc x=some y):FEnt C (s.st V P A) (x.den V P A) (Px.rop [V.mv V.ev kc vc y]):=by
 unfold capM at h;split at h
 .rename_i kc' vc' m;split at h
  .rename_i e1;split at h
   .rename_i e2;subst e1 e2;simp only[w00] at h;subst h;simp only[SV.den,denL];exact FEnt.refl
   .cases h
  .cases h
 .rename_i i;split at h
  .rename_i T j ho;split at h
   .rename_i kc' vc' E m hj;cases hok:V.okV vc' with
    |false=>rw[hok] at h;cases h
    |true=>
    rw[hok] at h;simp only[cond_true] at h;split at h
    .rename_i e1;split at h
     .rename_i e2;subst e1 e2;simp only[w00] at h;subst h;simp only[SV.den];cases ha:A[i]? with
      |none=>exact λr S w v _ hv=>hv.elim
      |some q=>
       refine FEnt.box P i (zt V P ha ho) ?_;simp only[denL,SV.den];cases hq:A[j]? with
       |none=>exact⟨λr S w v _ hv=>hv.elim,trivial⟩
       |some p=>exact⟨FEnt.map V P hok hq hj,trivial⟩
     .cases h
    .cases h
   .cases h
  .rename_i T kc' vc' m ho;split at h
   .rename_i e1;split at h
    .rename_i e2;subst e1 e2;simp only[w00] at h;subst h;simp only[SV.den];cases ha:A[i]? with
     |none=>exact λr S w v _ hv=>hv.elim
     |some q=>refine FEnt.box P i (zt V P ha ho) ?_;simp only[denL,SV.den];exact⟨FEnt.refl,trivial⟩
    .cases h
   .cases h
  .cases h
 .cases h
theorem y5u[Dr]{C:Cx P}{A:Asg}{s:SS V.T}{kc vc i:Nat}{y:List (V.T kc×V.T vc)}(h:capM V s.ob kc vc (.ptr i 0)=some y):FEnt C (s.st V P A) ((SV.ptr i 0:SV V.T).den V P A) (rop0 [V.mv V.ev kc vc y]):=by
 simp only[capM] at h;split at h
 .rename_i T j ho;split at h
  .rename_i kc' vc' E m hj;cases hok:V.okV vc' with
   |false=>rw[hok] at h;cases h
   |true=>
   rw[hok] at h;simp only[cond_true] at h;split at h
   .rename_i e1;split at h
    .rename_i e2;subst e1 e2;simp only[w00] at h;subst h;simp only[SV.den];cases ha:A[i]? with
     |none=>exact λr S w v _ hv=>hv.elim
     |some q=>
      refine FEnt.box0 P i (zt V P ha ho) ?_;simp only[denL,SV.den];cases hq:A[j]? with
      |none=>exact⟨λr S w v _ hv=>hv.elim,trivial⟩
      |some p=>exact⟨FEnt.map V P hok hq hj,trivial⟩
    .cases h
   .cases h
  .cases h
 .rename_i T kc' vc' m ho;split at h
  .rename_i e1;split at h
   .rename_i e2;subst e1 e2;simp only[w00] at h;subst h;simp only[SV.den];cases ha:A[i]? with
    |none=>exact λr S w v _ hv=>hv.elim
    |some q=>refine FEnt.box0 P i (zt V P ha ho) ?_;simp only[denL,SV.den];exact⟨FEnt.refl,trivial⟩
   .cases h
  .cases h
 .cases h
theorem y0l[Dr]{C:Cx P}{A:Asg}{s:SS V.T}{k:KB}{x:SV V.T}{y:k.T V.T}(h:capB V s.ob k x=some y):FEnt C (s.st V P A) (x.den V P A) ((enB V k y).den V P []):=by
 cases k with
 |val c=>simp only[enB,SV.den,z1m];exact yaf V P h
 |map kc vc=>simp only[enB,SV.den,denL];exact yae V P h
theorem zpr[Dr]{C:Cx P}{A:Asg}{s:SS V.T}: ∀{cs:List KB}{l:List (SV V.T)}{b:KBs V.T cs},zfg V s.ob cs l=some b->zhg C (s.st V P A) (denV V P A l) (denV V P [] (enBs V cs b))
 | [],[],_,_=>trivial
 |c::cs,x::l,b,h=>by
  simp only[zfg] at h;split at h
  .rename_i y r h1 h2;simp only[w00] at h;subst h;exact⟨y0l V P h1,zpr h2⟩
  .cases h
 | [],_::_,_,h=>by simp[zfg] at h
 |_::_,[],_,h=>by simp[zfg] at h
theorem yad[Dr]{C:Cx P}{A:Asg}{s:SS V.T}{f:Nat}{ks:List KB}{x:SV V.T}{y:KBs V.T ks}(h:capF V s.ob f ks x=some y):FEnt C (s.st V P A) (x.den V P A) (Px.rop [Px.fnc f (denV V P [] (enBs V ks y))]):=by
 unfold capF at h;split at h
 .rename_i g l;cases hb:Nat.beq f g with
  |false=>rw[hb] at h;cases h
  |true=>rw[hb] at h;have e:=w01 hb;subst e;simp only[SV.den,denL];exact FEnt.rop1 P ⟨FEnt.fnc P (zpr V P h),trivial⟩
 .rename_i i;split at h
  .rename_i T g l ho;cases hb:Nat.beq f g with
   |false=>rw[hb] at h;cases h
   |true=>
    rw[hb] at h;have e:=w01 hb;subst e;simp only[SV.den];cases ha:A[i]? with
    |none=>exact λr S w v _ hv=>hv.elim
    |some q=>refine FEnt.box P i (zt V P ha ho) ?_;simp only[denL,SV.den];exact⟨FEnt.fnc P (zpr V P h),trivial⟩
  .cases h
 .cases h
theorem yac[Dr]{C:Cx P}{A:Asg}{s:SS V.T}{k:KC}{x:SV V.T}{y:k.T V.T}(h:capC V s.ob k x=some y):FEnt C (s.st V P A) (x.den V P A) ((enC V k y).den V P []):=by
 cases k with
 |b k=>exact y0l V P h
 |fn f ks=>simp only[enC,SV.den,denL];exact yad V P h
theorem zps[Dr]{C:Cx P}{A:Asg}{s:SS V.T}: ∀{cs:List KC}{l:List (SV V.T)}{b:KCs V.T cs},zdz V s.ob cs l=some b->zhg C (s.st V P A) (denV V P A l) (denV V P [] (encK V cs b))
 | [],[],_,_=>trivial
 |c::cs,x::l,b,h=>by
  simp only[zdz] at h;split at h
  .rename_i y r h1 h2;simp only[w00] at h;subst h;exact⟨yac V P h1,zps h2⟩
  .cases h
 | [],_::_,_,h=>by simp[zdz] at h
 |_::_,[],_,h=>by simp[zdz] at h
theorem y5w[Dr]{A:Asg}{c:Nat}{x:SV V.T}{y:V.T c}(h:capX V [] c x=some y):x.den V P A=Px.rop (V.ev c y):=by
 unfold capX at h;split at h
 .rename_i cs;have:=zun (ze0 (P:=P) (A:=A) (R:=Eq) zp5 zp6 (λ_=>rfl) (λ_ _ _ h=>zp4 h) h);simp only[SV.den];rw[this]
 .simp at h
 .cases h
theorem y5t[Dr]{A:Asg}{kc vc:Nat}{x:SV V.T}{y:List (V.T kc×V.T vc)}(h:capM V [] kc vc x=some y):x.den V P A=Px.rop [V.mv V.ev kc vc y]:=by
 unfold capM at h;split at h
 .rename_i kc' vc' m;split at h
  .rename_i e1;split at h
   .rename_i e2;subst e1 e2;simp only[w00] at h;subst h;simp only[SV.den,denL]
   .cases h
  .cases h
 .simp at h
 .cases h
theorem zwu[Dr]{A:Asg}{k:KB}{x:SV V.T}{y:k.T V.T}(h:capB V [] k x=some y):x.den V P A =(enB V k y).den V P []:=by
 cases k with
 |val c=>simp only[enB,SV.den,z1m];exact y5w V P h
 |map kc vc=>simp only[enB,SV.den,denL];exact y5t V P h
theorem zsf[Dr]{A:Asg}: ∀{cs:List KB}{l:List (SV V.T)}{b:KBs V.T cs},zfg V [] cs l=some b->denV V P A l=denV V P [] (enBs V cs b)
 | [],[],_,_=>rfl
 |c::cs,x::l,b,h=>by
  simp only[zfg] at h;split at h
  .rename_i y r h1 h2;simp only[w00] at h;subst h;simp only[denV,enBs];rw[zwu (A:=A) V P h1,zsf (A:=A) h2]
  .cases h
 | [],_::_,_,h=>by simp[zfg] at h
 |_::_,[],_,h=>by simp[zfg] at h
theorem y5r[Dr]{A:Asg}{k:KC}{x:SV V.T}{y:k.T V.T}(h:capC V [] k x=some y):x.den V P A =(enC V k y).den V P []:=by
 cases k with
 |b k=>exact zwu V P h
 |fn f ks=>
  change capF V [] f ks x=some y at h;unfold capF at h;split at h
  .rename_i g l;cases hb:Nat.beq f g with
   |false=>rw[hb] at h;cases h
   |true=>rw[hb] at h;have e:=w01 hb;subst e;simp only[enC,SV.den,denL];rw[zsf (A:=A) V P h]
  .simp at h
  .cases h
theorem zsg[Dr]{A:Asg}: ∀{cs:List KC}{l:List (SV V.T)}{b:KCs V.T cs},zdz V [] cs l=some b->denV V P A l=denV V P [] (encK V cs b)
 | [],[],_,_=>rfl
 |c::cs,x::l,b,h=>by
  simp only[zdz] at h;split at h
  .rename_i y r h1 h2;simp only[w00] at h;subst h;simp only[denV,encK];rw[y5r (A:=A) V P h1,zsg (A:=A) h2]
  .cases h
 | [],_::_,_,h=>by simp[zdz] at h
 |_::_,[],_,h=>by simp[zdz] at h
theorem zgf[Dr]{A:Asg}{s:SS V.T}{ch:Ch}(hc:chP s.gb ch):∀{cs:List Nat}{os:List Operand}{a:Tup V.T cs},decA V (rdSl []) s.sl ch cs os=some a->Args (s.st V P A) os (vls V cs a)
 | [],[],_,_=>trivial
 |c::cs,o::os,a,h=>by
  simp only[decA] at h;cases h1:evO s.sl ch o with
  |none=>rw[h1] at h;cases h
  |some x=>
   rw[h1] at h;cases h2:V.dec (rdSl []) c x with
   |none=>simp only[h2] at h;cases h
   |some y=>
    simp only[h2] at h;cases h3:decA V (rdSl []) s.sl ch cs os with
    |none=>rw[h3] at h;cases h
    |some b=>rw[h3] at h;simp only[w00] at h;subst h;exact⟨Ev.ent' (z2h V P h1 hc) (z6h V P h2),zgf hc h3⟩
 | [],_::_,_,h=>by simp[decA] at h
 |_::_,[],_,h=>by simp[decA] at h
theorem zf2[Dr]{C:Cx P}{A:Asg}{s:SS V.T}{ch:Ch}(hc:chP s.gb ch):∀{cs:List Nat}{os:List Operand}{a:Tup V.T cs},decA V (rdSl s.ob) s.sl ch cs os=some a->zrt C (s.st V P A) os (vls V cs a)
 | [],[],_,_=>trivial
 |c::cs,o::os,a,h=>by
  simp only[decA] at h;cases h1:evO s.sl ch o with
  |none=>rw[h1] at h;cases h
  |some x=>
   rw[h1] at h;cases h2:V.dec (rdSl s.ob) c x with
   |none=>simp only[h2] at h;cases h
   |some y=>
    simp only[h2] at h;cases h3:decA V (rdSl s.ob) s.sl ch cs os with
    |none=>rw[h3] at h;cases h
    |some b=>rw[h3] at h;simp only[w00] at h;subst h;exact⟨EvF.of (z2h V P h1 hc) (y6a V P h2),zf2 hc h3⟩
 | [],_::_,_,h=>by simp[decA] at h
 |_::_,[],_,h=>by simp[decA] at h
theorem zxb{T:Nat->Type}{g :(c:Nat)->T c->List VP}{fl:Nat->Bool}(h:∀c,fl c=true->∀x,z9w (g c x)):∀(fs:List Nat)(x:Tup T fs),fs.all fl=true->z9w (evT g fs x)
 | [],_,_=>trivial
 |c::cs,x,hl=>by
  simp only[w1h,w02] at hl;have h1:=h c hl.1 x.1;have h2:=zxb h cs x.2 hl.2;simp only[evT];revert h1;generalize g c x.1=l;intro h1
  induction l with
  |nil=>exact h2
  |cons a l ih=>exact⟨h1.1,ih h1.2⟩
theorem zyq{l:List VP}(h:∀A∈l,A.flat):z9w l:=by
 induction l with
 |nil=>trivial
 |cons a l ih=>exact⟨h a (w0m ..),ih λb hb=>h b (w09 _ hb)⟩
theorem zhw:∀(n c:Nat),flN V n c=true->∀x,z9w (V.ev c x)
 |0,_,h=>by simp[flN] at h
 |n+1,c,h=>by
  intro x;rw[V.ev_eq];simp only[flN] at h;revert x h;generalize V.d c=d;generalize V.T c=α at d;intro h x;cases d with
  |int k=>exact⟨zco,trivial⟩
  |bool=>exact⟨zco,trivial⟩
  |str=>exact⟨zco,trivial⟩
  |sl c'=>simp[flD] at h
  |map kc vc=>simp[flD] at h
  |arr m c'=>
   simp only[flD] at h;refine zyq λB hB=>?_
   simp only[evD,arr,w1p] at hB;obtain⟨i,_,hB⟩:=hB;exact z9w.mem (zhw n c' h _) B hB
  |st fs mk un law=>exact zxb (fl:=flN V n) (λc h=>zhw n c h) fs (un x) h
theorem y54{c:Nat}(h:V.fl c=true)(x:V.T c):(V.vl c x).flat:=by
 have h1:=zhw V _ _ h x;cases ha:z5o (V.d c) with
 |true=>rw[znh x ha];exact y1j h1
 |false=>rw[zni x ha] at h1;exact h1.1
theorem zgj[Dr]{B:Asg}: ∀(n:Nat)(res:List RC)(r:RTup V.T res),res.any zd2=false->newR V res r = []/\∀A,denV V P A (encR V n res r)=denV V P B (encR V 0 res r)
 |n,[],r,_=>⟨rfl,λA=>rfl⟩
 |n,.val c::cs,r,h=>by simp only[w4f,zd2,w26] at h;obtain⟨h1,h2⟩:=zgj (B:=B) n cs r.2 h;obtain⟨_,h3⟩:=zgj (B:=B) 0 cs r.2 h;refine⟨by simpa only[newR] using h1,λA=>?_⟩;simp only[encR,denV,z43,h2]
 |n,.row E c::cs,r,h=>by simp[zd2] at h
theorem zra[Dr]{A B:Asg}{l m:List (SV V.T)}(h:denV V P A l=denV V P B m):(resV V l).den V P A =(resV V m).den V P B:=by
 match l,m with
 | [],[]=>rfl
 | [x],[y]=>simp only[denV] at h;simpa[resV] using h
 |x::y::l,a::b::m=>simp only[resV,SV.den,h]
 | [],_::_=>simp[denV] at h
 |_::_,[]=>simp[denV] at h
 | [_],_::_::_=>simp[denV] at h
 |_::_::_,[_]=>simp[denV] at h
theorem zln[Dr]{A:Asg}: ∀(n:Nat)(res:List RC)(r:RTup V.T res),res.any zd2=false->res.all (flR V)=true->∀B∈denV V P A (encR V n res r),B.flat
 |n,[],r,_,_,B,hB=>by simp[encR,denV] at hB
 |n,.val c::cs,r,h,hf,B,hB=>by
  simp only[w4f,zd2,w26] at h;simp only[w1h,w02,flR] at hf;simp only[encR,denV,w0c,z43] at hB;rcases hB with rfl|hB
  .exact y54 V hf.1 _
  .exact zln n cs r.2 h hf.2 B hB
 |n,.row E c::cs,r,h,_,_,_=>by simp[zd2] at h
theorem zn4[Dr]{A:Asg}{l:List (SV V.T)}(h:∀B∈denV V P A l,B.flat):((resV V l).den V P A).flat:=by
 match l with
 | []=>exact zco
 | [x]=>exact h _ (by simp[resV,denV])
 |x::y::l=>simp only[resV,SV.den];exact y6m h
theorem z7u{f:Nat}(h:zn.fnok P f=true):FnOK P f:=by
 unfold zn.fnok at h;split at h
 .rename_i fn hf;simp only[w02,w0w] at h;exact⟨fn,hf,h.1,h.2⟩
 .cases h
end
end Px
end
section
namespace Px
open Go Go.RowKit
def zru(D:Nat->Prop)(w:World):Prop:=∀b,D b->∀o u,w.cell? ⟨b,o,none⟩=some u->∃g,u = .bool g
def Sep(A:VP):Prop:=∀(D r:Nat->Prop)(w:World)(v:Value),zru D w->A.h r w v->A.h (λb=>r b/\¬D b) w v
def NoB(A:VP):Prop:=∀r w g,¬A.h r w (.bool g)
theorem Sep.eqv{v:Value}: Sep (Px.eqv v):=λ_ _ _ _ _ h=>h
theorem y4g{cs:List VP}(h:∀A∈cs,Sep A){D r:Nat->Prop}{w:World}{b o:Nat}(hD:zru D w)(k:z3r w r b o cs):z3r w (λb=>r b/\¬D b) b o cs:=λj A hj=>by obtain⟨u,h1,h2,h3⟩:=k j A hj;exact⟨u,h1,h A (w0y hj) D r w u hD h2,h3⟩
theorem Sep.ro{α:Type}{e:α->List VP}{sz:Nat}{l:List α}(he:∀x,∀A∈e x,Sep A)(hn:∀x,∃(j:Nat)(A:VP),(e x)[j]? = some A/\NoB A):Sep (Px.ro e sz l):=by
 intro D r w v hD h;rcases h with h|⟨b,o,cap,hv,h⟩
 .exact .inl h
 .refine .inr ⟨b,o,cap,hv,λi x hi=>?_⟩;obtain⟨h1,h2⟩:=h i x hi;refine⟨⟨h1,λhd=>?_⟩,y4g (he x) hD h2⟩;obtain⟨j,A,hj,hA⟩:=hn x;obtain⟨u,h3,h4,_⟩:=h2 j A hj;obtain⟨g,rfl⟩:=hD b hd _ _ h3;exact hA _ _ _ h4
theorem Sep.agg{cs:List VP}(h:∀A∈cs,Sep A):Sep (Px.agg cs):=by rintro D r w v hD ⟨vs,rfl,hh⟩;refine⟨vs,rfl,hh.1,λj A hj=>?_⟩;obtain⟨u,h1,h2,h3⟩:=hh.2 j A hj;exact⟨u,h1,h A (w0y hj) D r w u hD h2,h3⟩
theorem Sep.tup{xs:List VP}(h:∀A∈xs,Sep A):Sep (Px.tupv xs):=by rintro D r w v hD ⟨vs,hv,hl,hh⟩;exact⟨vs,hv,hl,λi A hi=>h A (w0y hi) D r w _ hD (hh i A hi)⟩
section
variable(V:TE)
def zpk(l:List VP):Prop:=∃(j:Nat)(A:VP),l[j]? = some A/\NoB A
theorem zpk.left{a b:List VP}(h:zpk a):zpk (a++b):=by obtain⟨j,A,hj,hA⟩:=h;exact⟨j,A,by rw[w0j (w04.1 hj).1];exact hj,hA⟩
theorem zpk.right{a b:List VP}(h:zpk b):zpk (a++b):=by obtain⟨j,A,hj,hA⟩:=h;exact⟨a.length+j,A,by rw[w0z (by omega),w3l];exact hj,hA⟩
theorem y99{T:Nat->Type}{g :(c:Nat)->T c->List VP}{nb:Nat->Bool}(h:∀c,nb c=true->∀x,zpk (g c x)):∀(fs:List Nat)(x:Tup T fs),fs.any nb=true->zpk (evT g fs x)
 | [],_,hl=>by simp at hl
 |c::cs,x,hl=>by
  simp only[w4f,w0s] at hl;rcases hl with hl|hl
  .exact(h c hl x.1).left
  .exact(y99 h cs x.2 hl).right
theorem yay:∀(n c:Nat),nbN V n c=true->∀x,zpk (V.ev c x)
 |0,_,h=>by simp[nbN] at h
 |n+1,c,h=>by
  intro x;rw[V.ev_eq];simp only[nbN] at h;revert x h;generalize V.d c=d;generalize V.T c=α at d;intro h x;cases d with
  |int k=>exact⟨0,_,rfl,λr w g q=>by cases q⟩
  |bool=>simp[nbD] at h
  |str=>exact⟨0,_,rfl,λr w g q=>by cases q⟩
  |sl c'=>exact⟨0,_,rfl,λr w g q=>by rcases q with⟨⟨a,cap,q⟩,_⟩|⟨b,o,cap,q,_⟩<;>cases q⟩
  |map kc vc=>exact⟨0,_,rfl,λr w g q=>by rcases q with⟨q,_⟩|⟨b,t,q,_⟩<;>cases q⟩
  |arr m c'=>simp only[nbD,w02,w2d] at h;obtain⟨m,rfl⟩:∃q,m=q+1:=⟨m-1,by omega⟩;simp only[evD,arr];rw[List.range_succ_eq_map,w0n];exact(yay n c' h.2 _).left
  |st fs mk un law=>exact y99 (nb:=nbN V n) (λc h=>yay n c h) fs (un x) h
theorem y1e{T:Nat->Type}{g :(c:Nat)->T c->List VP}{sp:Nat->Bool}(h:∀c,sp c=true->∀x,∀A∈g c x,Sep A):∀(fs:List Nat)(x:Tup T fs),fs.all sp=true->∀A∈evT g fs x,Sep A
 | [],_,_,A,hA=>by cases hA
 |c::cs,x,hl,A,hA=>by
  simp only[w1h,w02] at hl;rcases w0k.1 hA with hA|hA
  .exact h c hl.1 x.1 A hA
  .exact y1e h cs x.2 hl.2 A hA
theorem zsr:∀(n c:Nat),sepN V n c=true->∀x,∀A∈V.ev c x,Sep A
 |0,_,h=>by simp[sepN] at h
 |n+1,c,h=>by
  intro x A hA;rw[V.ev_eq] at hA;simp only[sepN] at h;revert x h;generalize V.d c=d;generalize V.T c=α at d;intro h x hA;cases d with
  |int k=>simp only[evD,w0d] at hA;rw[hA];exact Sep.eqv
  |bool=>simp only[evD,w0d] at hA;rw[hA];exact Sep.eqv
  |str=>simp only[evD,w0d] at hA;rw[hA];exact Sep.eqv
  |sl c'=>simp only[sepD,w02] at h;simp only[evD,w0d] at hA;rw[hA];exact Sep.ro (λy B hB=>zsr n c' h.1 y B hB) λy=>yay V n c' h.2 y
  |map kc vc=>simp[sepD] at h
  |arr m c'=>simp only[sepD] at h;simp only[evD,arr,w1p] at hA;obtain⟨i,_,hA⟩:=hA;exact zsr n c' h _ A hA
  |st fs mk un law=>exact y1e (sp:=sepN V n) (λc h=>zsr n c h) fs (un x) h A hA
theorem yf2{c:Nat}(h:V.sep c=true)(x:V.T c):Sep (V.vl c x):=by
 have h1:=zsr V _ _ h x;cases ha:z5o (V.d c) with
 |true=>rw[znh x ha];exact Sep.agg h1
 |false=>rw[zni x ha] at h1;exact h1 _ w0m
variable(P:Program)
theorem zx8[Dr]{A:Asg}: ∀(n:Nat)(res:List RC)(r:RTup V.T res),res.any zd2=false->res.all (sepR V)=true->∀B∈denV V P A (encR V n res r),Sep B
 |n,[],r,_,_,B,hB=>by simp[encR,denV] at hB
 |n,.val c::cs,r,h,hf,B,hB=>by
  simp only[w4f,zd2,w26] at h;simp only[w1h,w02,sepR] at hf;simp only[encR,denV,w0c,z43] at hB;rcases hB with rfl|hB
  .exact yf2 V hf.1 _
  .exact zx8 n cs r.2 h hf.2 B hB
 |n,.row E c::cs,r,h,_,_,_=>by simp[zd2] at h
theorem y8b[Dr]{A:Asg}{l:List (SV V.T)}(h:∀B∈denV V P A l,Sep B):Sep ((resV V l).den V P A):=by
 match l with
 | []=>exact Sep.eqv
 | [x]=>exact h _ (by simp[resV,denV])
 |x::y::l=>simp only[resV,SV.den];exact Sep.tup h
def fixD(A:Asg)(ob:List (SO V.T))(b:Nat):Prop:=∃(i E c:Nat)(l:List (V.T c))(q:Nat×Value)(n:Nat),ob[i]? = some (.x (.fix E c l))/\A[i]? = some q/\q.2 = .slice (some ⟨b,0,none⟩) n n
theorem ybh{c:Nat}(h:zve (V.d c)=true):V.sz c=1/\∀x,∃g,V.ev c x = [bv g]:=by
 refine⟨?_,λx=>?_⟩
 .rw[V.sz_eq];revert h;generalize V.d c=d;generalize V.T c=α at d;intro h;cases d<;>simp[zve] at h<;>rfl
 .rw[V.ev_eq];revert x h;generalize V.d c=d;generalize V.T c=α at d;intro h x;cases d<;>simp[zve] at h;exact⟨x,rfl⟩
theorem y1i[Dr]{A:Asg}{ob:List (SO V.T)}{w0 w:World}{base:Nat}{r:Nat->Prop}{S:Nat->Nat->Prop}(hw:WInv w0 base (obD V P A A ob) r S w):zru (fixD V A ob) w/\∀b,fixD V A ob b->∃i,S i b:=by
 have main:∀b,fixD V A ob b->(∃i,S i b)/\∀o u,w.cell? ⟨b,o,none⟩=some u->∃g,u = .bool g:=by
  rintro b ⟨i,E,c,l,q,n,ho,ha,hq⟩;obtain⟨⟨hb,_⟩,hr⟩:=hw.obj i _ (zt V P ha ho);obtain⟨e1,e2⟩:=ybh V hb;rcases hr with⟨hn,_⟩|⟨g,cap,cur,hv,hS,hcur,hl,hm,hsz,hh⟩
  .rw[hq] at hn;cases hn
  .rw[hq] at hv;simp only[Value.slice.injEq,w00,Addr.mk.injEq] at hv;obtain⟨⟨rfl,_⟩,rfl,rfl⟩:=hv;refine⟨⟨i,hS⟩,λo u hu=>?_⟩;rw[cell_of_row w b o cur E (0,0) hcur] at hu;have hlt:o<cur.size:=(w20.1 hu).1;have hfl:=z3j (V.ev_len c) l;have hlt2:o<(l.flatMap (V.ev c)).length:=by rw[hfl,<- hsz];exact hlt
   obtain⟨u',h1,h2,_⟩:=hh.2 o _ (w0a hlt2);rw[w0o,if_pos (by rw[<- hsz];exact hlt)] at h1;have hu2:u'=u:=by
    have:cur.toList[o]? = cur[o]?:=by simp
    rw[this,hu] at h1;exact(w0f h1).symm
   subst hu2;obtain⟨x,_,hx⟩:=w1p.1 (List.getElem_mem hlt2);obtain⟨g,hg⟩:=e2 x;rw[hg,w0d] at hx;rw[hx] at h2;exact⟨g,h2⟩
 exact⟨λb hb=>(main b hb).2,λb hb=>(main b hb).1⟩
def EntD[Dr](C:Cx P)(s:St)(D:Nat->Prop)(A B:VP):Prop:=∀r S w v,WInv C.w0 C.base s.objs r S w->A.h r w v->B.h (λb=>r b\/D b) w v
theorem EntD.refl[Dr]{C:Cx P}{s:St}{D:Nat->Prop}{A:VP}: EntD P C s D A A:=λr S w v hw h=>A.mono (λb hb=>.inl hb) (λ_ _=>rfl) h
theorem EntD.ent[Dr]{C:Cx P}{s:St}{D:Nat->Prop}{A B:VP}(k:Ent A B):EntD P C s D A B:=λr S w v hw h=>B.mono (λb hb=>.inl hb) (λ_ _=>rfl) (k r w v h)
theorem F2.at{R:VP->VP->Prop}: ∀{As Bs:List VP},F2 R As Bs->As.length=Bs.length/\∀(j:Nat)(B:VP),Bs[j]? = some B->∃A,As[j]? = some A/\R A B
 | [],[],_=>⟨rfl,λj B h=>by simp at h⟩
 |A::As,B::Bs,⟨h,hr⟩=>by
  obtain⟨h1,h2⟩:=F2.at hr;refine⟨by simp[h1],λj D hj=>?_⟩;cases j with
  |zero=>simp at hj;subst hj;exact⟨A,rfl,h⟩
  |succ j=>simpa using h2 j D (by simpa using hj)
 | [],_::_,h=>h.elim
 |_::_,[],h=>h.elim
theorem EntD.agg[Dr]{C:Cx P}{s:St}{D:Nat->Prop}{cs ds:List VP}(h:F2 (EntD P C s D) cs ds):EntD P C s D (Px.agg cs) (Px.agg ds):=by rintro r S w v hw ⟨vs,rfl,hh⟩;obtain⟨h1,h2⟩:=h.at;refine⟨vs,rfl,by rw[<- h1];exact hh.1,λj B hj=>?_⟩;obtain⟨A,hA,hAB⟩:=h2 j B hj;obtain⟨u,hu,hAu,ho⟩:=hh.2 j A hA;exact⟨u,hu,hAB r S w u hw hAu,ho⟩
theorem yeq(ob:List (SO V.T)):∀c n d(f:Nat->V.T d)l,rdB ob c (.arr n d f)=some l->False:=λc n d f l h=>by simp[rdB] at h
theorem ycm[Dr]{C:Cx P}{A:Asg}{s:SS V.T}(c:Nat)(y:SV V.T)(l:List (V.T c))(h:rdB s.ob c y=some l):EntD P C (s.st V P A) (fixD V A s.ob) (y.den V P A) (Px.ro (V.ev c) (V.sz c) l):=by
 unfold rdB at h;split at h
 .split at h
  .rename_i e;subst e;simp only[w00] at h;subst h;exact EntD.refl P
  .cases h
 .rename_i i;split at h
  .rename_i E c' l' ho;split at h
   .rename_i e;subst e;simp only[w00] at h;subst h;simp only[SV.den];cases ha:A[i]? with
    |none=>exact λr S w v _ hv=>hv.elim
    |some q=>
     intro r S w v hw hv;have hv:v=q.2:=hv;subst hv;obtain⟨⟨hb,g0,n0,hg0⟩,hr⟩:=hw.obj i _ (zt V P ha ho);rcases hr with⟨hn,rfl⟩|⟨g,cap,cur,hv,hS,hcur,hl,hm,hsz,hh⟩
     .exact .inl ⟨⟨none,0,hn⟩,rfl⟩
     .have hD:fixD V A s.ob g:=by refine⟨i,E,_,l',q,n0,ho,ha,?_⟩;rw[hg0] at hv⊢;simp only[Value.slice.injEq,w00,Addr.mk.injEq] at hv;rw[hv.1.1]
      refine .inr ⟨g,0,cap-l'.length,by rw[w2j hl];exact hv,λk x hk=>⟨.inr hD,λj A hj=>?_⟩⟩;obtain⟨u,hu,hA,h1⟩:=hh.2 _ A (z3e (V.ev_len _) l' k x hk j A hj);refine⟨u,?_,A.mono (λb hb=>.inl hb) (λ_ _=>rfl) hA,h1⟩;rw[w13,cell_of_row w g _ cur E (0,0) hcur];rw[w0o] at hu;split at hu
      .simpa using hu
      .cases hu
   .cases h
  .cases h
 .simp only[w00] at h;subst h;exact EntD.ent P Ent.nil
 .cases h
theorem y69[Dr]{C:Cx P}{A:Asg}{s:SS V.T}{c:Nat}{x:SV V.T}{y:V.T c}(h:V.dec (rdB s.ob) c x=some y):EntD P C (s.st V P A) (fixD V A s.ob) (x.den V P A) (V.vl c y):=y0u (R:=EntD P C (s.st V P A) (fixD V A s.ob)) (yeq V s.ob) (λ_ _ _ _ _=>EntD.ent P zik) (λ_=>EntD.refl P) (λc y l h=>ycm V P c y l h) (λ_ _ h=>EntD.agg P h) h
theorem zoo[Dr]{C:Cx P}{A:Asg}{s:SS V.T}{ch:Ch}(hc:chP s.gb ch):∀{cs:List Nat}{os:List Operand}{a:Tup V.T cs},decA V (rdB s.ob) s.sl ch cs os=some a->
  ∀ac r S w,WInv C.w0 C.base (s.st V P A).objs r S w->zj (s.st V P A).slots ac r w->(os.map ac.eval).length =(vls V cs a).length/\∀(i:Nat)(B:VP),(vls V cs a)[i]? = some B->B.h (λb=>r b\/fixD V A s.ob b) w ((os.map ac.eval).getD i undef)
 | [],[],_,_=>λac r S w hw hs=>⟨rfl,λi B h=>by simp[vls] at h⟩
 |c::cs,o::os,a,h=>by
  intro ac r S w hw hs;simp only[decA] at h;cases h1:evO s.sl ch o with
  |none=>rw[h1] at h;cases h
  |some x=>
   rw[h1] at h;cases h2:V.dec (rdB s.ob) c x with
   |none=>simp only[h2] at h;cases h
   |some y=>
    simp only[h2] at h;cases h3:decA V (rdB s.ob) s.sl ch cs os with
    |none=>rw[h3] at h;cases h
    |some b=>
     rw[h3] at h;simp only[w00] at h;subst h;obtain⟨k1,k2⟩:=zoo hc h3 ac r S w hw hs;refine⟨by simpa[vls] using k1,λi B hB=>?_⟩;cases i with
     |zero=>simp only[vls,w31,w00] at hB;subst hB;exact y69 V P h2 r S w _ hw (z2h V P h1 hc ac r w hs)
     |succ i=>simpa using k2 i B (by simpa[vls] using hB)
 | [],_::_,_,h=>by simp[decA] at h
 |_::_,[],_,h=>by simp[decA] at h
theorem yc3[Dr]{C:Cx P}{s:St}{dst:Option Tmp}{ty:TypeId}{pos:String}{after:Array Edge}{guard:Option (Nat×Bool)}{f:FuncId}{as:Array Operand}{ts:Array TypeId}{args:List VP}{x:VP}{D:Nat->Prop}(hf:FnOK P f)
  (ha:∀ac r S w,WInv C.w0 C.base s.objs r S w->zj s.slots ac r w->(as.toList.map ac.eval).length=args.length/\∀(i:Nat)(B:VP),args[i]? = some B->B.h (λb=>r b\/D b) w ((as.toList.map ac.eval).getD i undef))
  (hD:∀r S w,WInv C.w0 C.base s.objs r S w->zru D w/\∀b,D b->∃i,S i b) (h:zdq P f args λy news=>y=x/\news = []) (hx:Sep x) :
  OpQ C ⟨dst,.call { callee:=.value (.func f),args:=as,argTypes:=ts },ty,pos,after,guard⟩ s x:=
 .calls hf (Ev.func f) λa r S w hd hw hs=>by
  obtain⟨h1,h2⟩:=ha a r S w hw hs;obtain⟨hB,hO⟩:=hD r S w hw;have hlen:as.size=args.length:=by simpa using h1
  refine(h (λb=>r b\/D b) w _ (λb hb=>hb.elim (hw.old b) λq=>?_) (by simp[hlen]) λi A hi=>?_).mono ?_
  .obtain⟨i,hi⟩:=hO b q;exact(hw.own i b hi).2.2.1
  .have:=h2 i A hi
   have hlt:i<as.size:=by have:=(w04.1 hi).1;omega
   simpa[w12,hlt] using this
  .rintro e w' ⟨v,y,news,r',S',rfl,he,hw',hxv,rfl,rfl⟩;have hnd:∀b,r b->¬D b:=λb hb q=>by obtain⟨i,hi⟩:=hO b q;exact(hw.own i b hi).2.2.2 hb
   have hB':zru D w':=λb hb o u hu=>hB b hb o u (by rw[<- hu];exact(zlb (he.2.1 b (.inr hb))).symm)
   have h3:∀b,(r' b/\¬D b)->r b\/(w.heap.size<=b/\r' b):=λb ⟨hb,hn⟩=>by
    rcases he.2.2 b hb with(q|q)|q
    .exact .inl q
    .exact absurd q hn
    .exact .inr ⟨q,hb⟩
   refine⟨v,y,_,λb=>r' b/\¬D b,_,rfl,⟨λb hb=>⟨he.1 b (.inl hb),hnd b hb⟩,λb hb=>he.2.1 b (.inl hb),λb hb=>?_⟩,
    hw.join hw' _ (λb hb=>⟨he.1 b (.inl hb),hnd b hb⟩) h3 (λi H hi=>by simp at hi),hx D r' w' v hB' hxv,rfl,by simp⟩
   rcases h3 b hb with q|q
   .exact .inl q
   .exact .inr (w34 hw.size q.1)
theorem yct{α:Type}{E:TypeId}{e:α->List VP}{sz:Nat}{l:List α}{sv:Value}(he:∀x,∀A∈e x,Sep A){D S r:Nat->Prop}{w:World}(hD:zru D w)(h :(row E e sz l sv).h S r w):(row E e sz l sv).h S (λb=>r b/\¬D b) w:=by
 rcases h with hn|⟨g,cap,cur,hv,hS,hcur,hl,hm,hsz,hc⟩
 .exact .inl hn
 .refine .inr ⟨g,cap,cur,hv,hS,hcur,hl,hm,hsz,hc.1,λj A hj=>?_⟩;obtain⟨u,h1,h2,h3⟩:=hc.2 j A hj;obtain⟨x,_,hx⟩:=w1p.1 (w0y hj);exact⟨u,h1,he x A hx D r w u hD h2,h3⟩
theorem WInv.sub[Dr]{w0 w:World}{base:Nat}{objs:List HP}{r:Nat->Prop}{S T:Nat->Nat->Prop}(hw:WInv w0 base objs r S w){objs':List HP}(hl:objs'.length=objs.length)(hT:∀j b,T j b->S j b)(ho:∀(j:Nat)(H:HP),objs'[j]? = some H->H.h (T j) r w):WInv w0 base objs' r T w where
 below:=hw.below
 size:=hw.size
 obj:=ho
 own:=λj b hb=>by obtain⟨h1,h2⟩:=hw.own j b (hT j b hb);exact⟨hl ▸ h1,h2⟩
 apart:=λj k b hj hk=>hw.apart j k b (hT j b hj) (hT k b hk)
 old:=hw.old
theorem y7m[Dr]{C:Cx P}{s:St}{dst:Option Tmp}{ty:TypeId}{pos:String}{after:Array Edge}{guard:Option (Nat×Bool)}{K:VP->List HP->Prop}{α:Type}{E:TypeId}{e:α->List VP}{sz:Nat}{l:List α}{sv:Value}{f:FuncId}{as:Array Operand}{ts:Array TypeId}{args:List VP}{K':VP->List α->Prop}(i:Nat)
  (ho:s.objs[i]? = some (row E e sz l sv))
  (hT:∀r S w,WInv C.w0 C.base s.objs r S w->∃T:Nat->Nat->Prop,(∀j b,T j b->j≠i/\S j b)/\(∀(j:Nat)(H:HP),j≠i->s.objs[j]? = some H->H.h (T j) r w)/\((∀x,∀A∈e x,A.flat)\/((∀x,∀A∈e x,Sep A)/\zru (λb=>∃j,T j b) w)))
  (hf:FnOK P f) (ha:∀ac r T w,WInv C.w0 C.base (s.objs.set i Px.emp) r T w->zj s.slots ac r w->(as.toList.map ac.eval).length=args.length/\∀(k:Nat)(A:VP),args[k]? = some A->A.h (λb=>r b\/∃j,T j b) w ((as.toList.map ac.eval).getD k undef))
  (h:MutT P f args E e sz l sv K') (k:∀x l',K' x l'->x.flat/\K x (s.objs.set i (row E e sz l' sv))) :
  OpT C ⟨dst,.call { callee:=.value (.func f),args:=as,argTypes:=ts },ty,pos,after,guard⟩ s K:=
 .calls hf (Ev.func f) λa r S w hd hw hs=>by
  have hi:i<s.objs.length:=(w04.1 ho).1;obtain⟨T,t1,t2,t3⟩:=hT r S w hw;have hwT:WInv C.w0 C.base (s.objs.set i Px.emp) r T w:=hw.sub (by simp) (λj b hb=>(t1 j b hb).2) λj H hj=>by
   rw[w1s] at hj;split at hj
   .cases hj;trivial
   .rename_i e;exact t2 j H (λq=>e q.symm) hj
  obtain⟨h1,h2⟩:=ha a r T w hwT hs
  let O:Nat->Prop:=λb=>∃j,T j b
  let r':Nat->Prop:=λb=>r b\/O b
  have hrr:∀b,r b->r' b:=λb hb=>.inl hb
  have hO:∀b,O b->¬r b:=λb ⟨j,hb⟩=>(hwT.own j b hb).2.2.2
  have hwi:WInv C.w0 C.base [row E e sz l sv] r' (λj b=>j=0/\S i b) w:=by
   refine⟨hw.below,hw.size,?_,?_,?_,?_⟩
   .intro j B hj
    match j,hj with
    |0,hj=>
     simp at hj;subst hj;have :(λb=>(0:Nat)=0/\S i b)=S i:=by funext b;simp
     rw[this];exact HP.mono _ hrr (λ_ _=>rfl) (λ_ _=>rfl) (hw.obj i _ ho)
    |j+1,hj=>simp at hj
   .rintro j b ⟨rfl,hb⟩;obtain⟨_,b2,b3,b4⟩:=hw.own i b hb;refine⟨by simp,b2,b3,?_⟩;rintro(q|⟨j,q⟩)
    .exact b4 q
    .exact(t1 j b q).1 (hw.apart j i b (t1 j b q).2 hb)
   .rintro j k b ⟨rfl,_⟩ ⟨rfl,_⟩;rfl
   .rintro b (q|⟨j,q⟩)
    .exact hw.old b q
    .exact(hwT.own j b q).2.2.1
  refine(h C.w0 C.base r' _ w _ hwi (by simp at h1;simp[h1]) λj A hj=>?_).mono ?_
  .have:=h2 j A hj
   have hlt:j<as.size:=by have:=(w04.1 hj).1;simp at h1;omega
   simpa[w12,hlt] using this
  .rintro e' w' ⟨v,x,objs',r2,S2,rfl,he,hw',hx,l',rfl,hk'⟩;obtain⟨kf,kk⟩:=k _ _ hk';have nT:∀b,¬T i b:=λb hb=>(t1 i b hb).1 rfl
   refine⟨v,x,_,λb=>r2 b/\¬O b,λj b=>if j=i then S2 0 b else T j b,rfl,⟨λb hb=>⟨he.1 b (.inl hb),λq=>hO b q hb⟩,λb hb=>he.2.1 b (.inl hb),λb hb=>?_⟩,⟨hw'.below,hw'.size,?_,?_,?_,?_⟩,kf _ _ _ _ _ hx,kk⟩
   .rcases he.2.2 b hb.1 with(q|q)|q
    .exact .inl q
    .exact absurd q hb.2
    .exact .inr q
   .intro j B hj;rw[w1s] at hj;split at hj
    .rename_i eij;subst eij;have hj':row E e sz l' sv=B:=by simpa[hi] using hj
     subst hj';simp only[if_true];rcases t3 with hfl|⟨hsp,hB⟩
     .exact zxc hfl _ _ _ _ (hw'.obj 0 _ rfl)
     .exact yct hsp (λb hb o u hu=>hB b hb o u (by rw[<- hu];exact(zlb (he.2.1 b (.inr hb))).symm)) (hw'.obj 0 _ rfl)
    .rename_i eij;have eji:¬j=i:=λq=>eij q.symm
     simp only[eji,if_false];exact B.mono (w:=w) (λb hb=>⟨he.1 b (.inl hb),λq=>hO b q hb⟩) (λb hb=>he.2.1 b (.inl hb)) (λb hb=>he.2.1 b (.inr ⟨j,hb⟩)) (t2 j B eji hj)
   .intro j b hb;by_cases eji:j=i
    .subst eji;simp only[if_true] at hb;obtain⟨_,b2,b3,b4⟩:=hw'.own 0 b hb;exact⟨by simpa using hi,b2,b3,λq=>b4 q.1⟩
    .simp only[eji,if_false] at hb;obtain⟨b1,b2,b3,b4⟩:=hwT.own j b hb;exact⟨by simpa using b1,b2,hw'.old b (he.1 b (.inr ⟨j,hb⟩)),λq=>q.2 ⟨j,hb⟩⟩
   .intro j k' b hb hb';by_cases ej:j=i<;>by_cases ek:k'=i
    .rw[ej,ek]
    .simp only[ej,if_true] at hb;simp only[ek,if_false] at hb';exact absurd (he.1 b (.inr ⟨k',hb'⟩)) (hw'.own 0 b hb).2.2.2
    .simp only[ek,if_true] at hb';simp only[ej,if_false] at hb;exact absurd (he.1 b (.inr ⟨j,hb⟩)) (hw'.own 0 b hb').2.2.2
    .simp only[ej,ek,if_false] at hb hb';exact hwT.apart j k' b hb hb'
   .exact λb hb=>hw'.old b hb.1
end
end Px
end
section
namespace Px
open Go Go.RowKit
section
variable(V:TE)(P:Program)
def QOK[Dr](C:Cx P)(A:Asg)(s:SS V.T)(cur:Ch)(o:Op)(ty:TypeId)(v:SV V.T):Prop:=chP s.gb cur->∀dst pos after guard,OpQ C ⟨dst,o,ty,pos,after,guard⟩ (s.st V P A) (v.den V P A)
variable{V P}{R:Type}{r:R}{C:Cx P}{A:Asg}{s:SS V.T}{cur:Ch}
theorem evO2[Dr](hkn:chP s.gb s.kn)(hc:chP s.gb cur){o:Operand}{x:SV V.T}(h:evO s.sl (cur++s.kn) o=some x):Ev (s.st V P A) o (x.den V P A):=z2h V P h (z48 hc hkn)
theorem z05{T:Nat->Type}{x:Option (SV T)}{k:IntKind}{n:Int}(h:x.bind zbp=some (k,n)):x=some (.int k n):=by
 cases x with
 |none=>cases h
 |some y=>cases y<;>simp[zbp] at h;rw[h.1,h.2]
theorem z9x{T:Nat->Type}{x:Option (SV T)}{b:Bool}(h:x.bind zgb=some b):x=some (.bool b):=by
 cases x with
 |none=>cases h
 |some y=>cases y<;>simp[zgb] at h;rw[h]
theorem y5i[Dr]{op:BinOp}{yc:Operand}{i:IntKind}{m n:Int}{k:SV V.T->Option R}{t ty:TypeId}{x y:Operand}{t':TypeId}(h:zuu V s.gb cur op y i m n k=some r)
  (hx:chP s.gb cur->Ev (s.st V P A) x (iv i m)) (hy:chP s.gb cur->Ev (s.st V P A) y (iv i n)):∃v,k v=some r/\QOK V P C A s cur (.binOp op t x y t') ty v:=by
 have ckd:∀(p:Prop)[Decidable p](z:Option R),zuu.ckD s.gb cur y p z=some r->(chP s.gb cur->p)/\z=some r:=by
  intro p _ z hz;unfold zuu.ckD at hz;split at hz
  .split at hz
   .rename_i hp;exact⟨λ_=>hp,hz⟩
   .cases hz
  .exact z4e hz
 cases op with
 |add=>exact⟨_,h,λhc dst pos after guard=>yfg (hx hc) (hy hc)⟩
 |sub=>exact⟨_,h,λhc dst pos after guard=>yfz (hx hc) (hy hc)⟩
 |mul=>exact⟨_,h,λhc dst pos after guard=>yfs (hx hc) (hy hc)⟩
 |and=>exact⟨_,h,λhc dst pos after guard=>ye7 (hx hc) (hy hc)⟩
 |or=>exact⟨_,h,λhc dst pos after guard=>yfi (hx hc) (hy hc)⟩
 |xor=>exact⟨_,h,λhc dst pos after guard=>ye8 (hx hc) (hy hc)⟩
 |eql=>exact⟨_,h,λhc dst pos after guard=>yfl (hx hc) (hy hc)⟩
 |neq=>exact⟨_,h,λhc dst pos after guard=>yfv (hx hc) (hy hc)⟩
 |lss=>exact⟨_,h,λhc dst pos after guard=>yfp (hx hc) (hy hc)⟩
 |leq=>exact⟨_,h,λhc dst pos after guard=>yfo (hx hc) (hy hc)⟩
 |gtr=>exact⟨_,h,λhc dst pos after guard=>yfn (hx hc) (hy hc)⟩
 |geq=>exact⟨_,h,λhc dst pos after guard=>yfm (hx hc) (hy hc)⟩
 |quo=>exact⟨_,(ckd _ _ h).2,λhc dst pos after guard=>yfx (hx hc) (hy hc) ((ckd _ _ h).1 hc)⟩
 |rem=>exact⟨_,(ckd _ _ h).2,λhc dst pos after guard=>yfy (hx hc) (hy hc) ((ckd _ _ h).1 hc)⟩
 |shl=>cases h
 |shr=>cases h
 |andNot=>cases h
theorem y8l[Dr]{op:BinOp}{i j:IntKind}{m n:Int}{k:SV V.T->Option R}{t ty:TypeId}{x y:Operand}{t':TypeId}(h:shift V s.gb cur op y i m n k=some r)
  (hx:chP s.gb cur->Ev (s.st V P A) x (iv i m)) (hy:chP s.gb cur->Ev (s.st V P A) y (iv j n)):∃v,k v=some r/\QOK V P C A s cur (.binOp op t x y t') ty v:=by
 unfold shift at h;split at h
 .split at h
  .rename_i h0;exact⟨_,h,λhc dst pos after guard=>yeh (hx hc) (hy hc) h0⟩
  .cases h
 .split at h
  .rename_i h0;exact⟨_,h,λhc dst pos after guard=>yei (hx hc) (hy hc) h0⟩
  .cases h
 .exact⟨_,(z4e h).2,λhc dst pos after guard=>yeh (hx hc) (hy hc) ((z4e h).1 hc)⟩
 .exact⟨_,(z4e h).2,λhc dst pos after guard=>yei (hx hc) (hy hc) ((z4e h).1 hc)⟩
 .cases h
theorem y4z[Dr]{x:SV V.T}{v:Value}(h:y8w x=some v):x.den V P A=eqv v/\z18 x=false:=by cases x<;>simp[y8w] at h<;>subst h<;>exact⟨rfl,rfl⟩
theorem zce[Dr]:∀{l:List (SV V.T)}{vs:List Value},zng l=some vs->denL V P A l=vs.map eqv
 | [],vs,h=>by simp[zng] at h;subst h;rfl
 |x::l,vs,h=>by
  simp only[zng] at h;cases h1:y8w x with
  |none=>rw[h1] at h;cases h
  |some v=>
   cases h2:zng l with
   |none=>rw[h1,h2] at h;cases h
   |some us=>rw[h1,h2] at h;simp only[w00] at h;subst h;obtain⟨e1,e2⟩:=y4z (P:=P) (A:=A) h1;rw[z3d,zgg V P e2,e1,zce h2];rfl
theorem y58[Dr]{n c:Nat}{f:Nat->V.T c}: ∀(l:List Nat),denL V P A (l.flatMap λi=>V.enc c (f i))=l.flatMap λi=>V.ev c (f i)
 | []=>rfl
 |i::l=>by rw[w0n,w0n,z1q,z1m,y58 (n:=n) l]
theorem zrr[Dr]:∀(l:List (SV V.T)),denL V P A (xpd V l)=denL V P A l
 | []=>rfl
 | .arr n c f::l=>by simp only[xpd,z1q,denL,zrr l];rw[y58 (n:=n)];rfl
 | .int ..::l | .bool ..::l | .str ..::l | .val ..::l | .agg ..::l | .tup ..::l | .ro ..::l | .rop ..::l | .ptr ..::l | .own ..::l | .elt ..::l | .pta ..::l | .prt ..::l | .und::l
 | .func ..::l | .rom ..::l | .cmp ..::l | .top::l=>by simp only[xpd,denL,zrr l]
theorem zrz[Dr]{x:SV V.T}(h:z18 x=true):x.den V P A=Px.agg (denL V P A (zyp x)):=by cases x<;>simp[z18] at h<;>simp[zyp,SV.den,denL]
theorem zox[Dr]{j kc vc E:Nat}{m:List (V.T kc×V.T vc)}{hh:Option (V.T kc×Nat)}{C:Cx P}{q:Nat×Value}{o:Oper}{K:VP->List HP->Prop}(ha:A[j]? = some q)(ho:s.ob[j]? = some (.x (.map kc vc E m hh)))
  (h:q.2 = .map (some q.1)->(∀k i,hh=some (k,i)->(A[i]?).isSome=true)->OpT C o (s.st V P A) K):OpT C o (s.st V P A) K:=
 λa w ro S Q hd hn hw hs=>h (hw.obj j _ (zt V P ha ho)).1.1 (hw.obj j _ (zt V P ha ho)).1.2 a w ro S Q hd hn hw hs
theorem ya9[Dr]{N:Env V}{C:Cx N.P}{A:Asg}{op:BinOp}{t ty:TypeId}{x y:Operand}{t':TypeId}{a b:SV V.T}{k:SV V.T->Option R}(h:binX V N s cur op t y a b k=some r)
  (hx:chP s.gb cur->Ev (s.st V N.P A) x (a.den V N.P A)) (hy:chP s.gb cur->Ev (s.st V N.P A) y (b.den V N.P A)):∃v,k v=some r/\QOK V N.P C A s cur (.binOp op t x y t') ty v:=by
 unfold binX at h;split at h
 .rename_i i m j n;cases hs:zqo op with
  |true=>rw[hs] at h;exact y8l h hx hy
  |false=>
   rw[hs] at h;simp only[cond_false] at h;split at h
   .rename_i e;subst e;exact y5i (yc:=y) h hx hy
   .cases h
 .split at h
  .rename_i hu;exact⟨_,h,λhc dst pos after guard=>yea hu (hx hc) (hy hc)⟩
  .rename_i hu;exact⟨_,h,λhc dst pos after guard=>yeg hu (hx hc) (hy hc)⟩
  .cases h
 .split at h
  .rename_i hu;exact⟨_,h,λhc dst pos after guard=>yc7 hu (hx hc) (hy hc)⟩
  .rename_i hu;exact⟨_,h,λhc dst pos after guard=>yc9 hu (hx hc) (hy hc)⟩
  .cases h
 .rename_i i;split at h
  .rename_i kt et kc vc E m hh hu ho;refine⟨_,h,λhc dst pos after guard=>?_⟩;have hx':=hx hc;simp only[SV.den] at hx';cases ha:A[i]? with
   |none=>rw[ha] at hx';exact z5p N.P hx'
   |some q=>rw[ha] at hx';exact zox ha ho λhq _=>y7f hu (b:=q.1) (by rw[<- hq];exact hx') (hy hc)
  .cases h
 .split at h
  .rename_i hu;exact⟨_,h,λhc dst pos after guard=>y3b hu (hx hc) (hy hc)⟩
  .cases h
 .split at h
  .rename_i hu;exact⟨_,(z4e h).2,λhc dst pos after guard=>y3c hu ((z4e h).1 hc) (hx hc) (hy hc)⟩
  .cases h
 .split at h
  .rename_i us vs h1 h2;cases hag :(z18 a&&z18 b) with
   |false=>rw[hag] at h;cases h
   |true=>
   rw[hag] at h;simp only[w1r,cond_false] at h;simp only[w02] at hag;have hx:chP s.gb cur->Ev (s.st V N.P A) x (Px.agg (denL V N.P A (xpd V (zyp a)))):=λhc=>by rw[zrr,<- zrz hag.1];exact hx hc
   have hy:chP s.gb cur->Ev (s.st V N.P A) y (Px.agg (denL V N.P A (xpd V (zyp b)))):=λhc=>by rw[zrr,<- zrz hag.2];exact hy hc
   split at h
   .rename_i g hg;cases hgd:N.P.eqGuardType N.P.depth t with
    |true=>rw[hgd] at h;cases h
    |false=>
     rw[hgd] at h;simp only[cond_false] at h;split at h
     .exact⟨_,h,λhc dst pos after guard=>yfk us vs (hx hc) (hy hc) (zce h1) (zce h2) hgd (λw=>zil w hg)⟩
     .exact⟨_,h,λhc dst pos after guard=>yft us vs (hx hc) (hy hc) (zce h1) (zce h2) hgd (λw=>zil w hg)⟩
     .cases h
   .cases h
  .cases h
structure GbOK{T:Nat->Type}(f:Fm T):Prop where
 val:∀t g,lk f.gb t=some g->∀ch z,lk f.sl t=some (ch,z)->z = .bool g
 ch:∀t ch z,lk f.sl t=some (ch,z)->∀p∈ch,(lk f.gb p.1).isSome=true
 kn:∀p∈f.kn,(lk f.gb p.1).isSome=true
theorem ybp{gb:List (Nat×Bool)}{kn:Ch}{t:Nat}{b:Bool}(h:chP gb kn)(hk:lk kn t=some b):(lk gb t).getD false=b:=by
 rw[z7m] at h;have:∀(l:Ch),lk l t=some b->(t,b)∈l:=by
  intro l
  induction l with
  |nil=>intro h;cases h
  |cons p l ih=>
   obtain⟨u,w⟩:=p;intro h;simp only[lk] at h;cases hb:Nat.beq u t with
   |true=>rw[hb] at h;simp at h;have:=w01 hb;subst this;subst h;exact w0m ..
   |false=>rw[hb] at h;exact w09 _ (ih h)
 exact h _ (this kn hk)
theorem yax{sl:Sls V.T}{ch:Ch}{t:Nat}{x:SV V.T}(h:evO sl ch (.tmp t)=some x):∃c,lk sl t=some (c,x):=by
 simp only[evO] at h;cases h1:lk sl t with
 |none=>rw[h1] at h;cases h
 |some e=>
  obtain⟨c,y⟩:=e;rw[h1] at h;simp only at h;cases h2:y4o c ch with
  |false=>rw[h2] at h;cases h
  |true=>rw[h2] at h;simp at h;exact⟨c,by rw[h]⟩
theorem y4i{t:Nat}{g:Bool}(hgb:GbOK s.toFm)(hs:lk s.gb t=some g){ch:Ch}{x:SV V.T}(h:evO s.sl ch (.tmp t)=some x):x = .bool g:=by obtain⟨c,hc⟩:=yax h;exact hgb.val t g hs c x hc
theorem zxa[Dr](hkn:chP s.gb s.kn)(hc:chP s.gb cur)(hgb:GbOK s.toFm){t:Nat}{w g:Bool}{x:Operand}{v:SV V.T}(hg:evO s.sl (cur++s.kn) (.tmp t)=some (.bool g))(hgw:g=w)
  (h:evO s.sl (zoy V s cur t w) x=some v):Ev (s.st V P A) x (v.den V P A):=by
 unfold zoy at h;cases hl:lk s.gb t with
 |some g'=>
  rw[hl] at h;have:=y4i hgb hl hg;simp only[SV.bool.injEq] at this;subst this;refine z2h V P h ?_;rw[z7m];intro p hp;rcases w0c.1 hp with rfl|hp
  .simp only[hl,w19];exact hgw
  .exact z7m.1 (z48 hc hkn) p hp
 |none=>rw[hl] at h;exact evO2 hkn hc h
theorem y82[Dr]{c x y:Operand}{ty:TypeId}{k:SV V.T->Option R}(hkn:chP s.gb s.kn)(hgb:GbOK s.toFm)(h:ycg V s cur c x y k=some r):∃v,k v=some r/\QOK V P C A s cur (.pick c x y) ty v:=by
 unfold ycg at h;split at h
 .rename_i t;split at h
  .rename_i g hg;have hcg:chP s.gb cur->Ev (s.st V P A) (.tmp t) (bv g):=λhc=>evO2 hkn hc hg
   split at h
   .rename_i g' h1 h2;have e:=y4i hgb h2 hg;simp only[SV.bool.injEq] at e;have e2:=ybp hkn h1;rw[h2] at e2;simp only[w19] at e2;subst e2;subst e;split at h
    .rename_i v hv;exact⟨v,h,λhc dst pos after guard=>zy1 (hcg hc) (λ_=>evO2 hkn hc hv) (λe=>nomatch e)⟩
    .cases h
   .rename_i g' h1 h2;have e:=y4i hgb h2 hg;simp only[SV.bool.injEq] at e;have e2:=ybp hkn h1;rw[h2] at e2;simp only[w19] at e2;subst e2;subst e;split at h
    .rename_i v hv;exact⟨v,h,λhc dst pos after guard=>zy1 (hcg hc) (λe=>nomatch e) (λ_=>evO2 hkn hc hv)⟩
    .cases h
   .split at h
    .cases hq :(evO s.sl (zoy V s cur t true) x).bind zgb with
     |none=>rw[hq] at h;cases h
     |some q=>rw[hq] at h;have hq':=z9x hq;exact⟨_,h,λhc dst pos after guard=>yfh (hcg hc) (λe=>zxa hkn hc hgb hg e hq') (Ev.const _)⟩
    .split at h
     .cases hq :(evO s.sl (zoy V s cur t false) y).bind zgb with
      |none=>rw[hq] at h;cases h
      |some q=>rw[hq] at h;have hq':=z9x hq;exact⟨_,h,λhc dst pos after guard=>opOr (hcg hc) (Ev.const _) (λe=>zxa hkn hc hgb hg e hq')⟩
     .cases h
  .cases h
 .cases h
end
end Px
end
section
namespace Px
open Go Go.RowKit
theorem zl7{a b:Value}(h:beqZ a b=true):a=b/\a.oneCell'=true:=by
 unfold beqZ at h;split at h
 .simp only[w02,decide_eq_true_eq] at h;obtain⟨rfl,rfl⟩:=h;exact⟨rfl,rfl⟩
 .simp only[beq_iff_eq] at h;subst h;exact⟨rfl,rfl⟩
 .rename_i x y;simp only[w02,beq_iff_eq] at h;have e:x=y:=by cases x with|mk dx=>cases y with|mk dy=>simp[ByteArray.size] at h;rw[h.1,h.2]
  subst e;exact⟨rfl,rfl⟩
 .exact⟨rfl,rfl⟩
 .exact⟨rfl,rfl⟩
 .exact⟨rfl,rfl⟩
 .exact⟨rfl,rfl⟩
 .cases h
section
variable(V:TE)(P:Program)
theorem ya1[Dr]{A:Asg}{x:SV V.T}{v:Value}(h:zmV V [v] x=true):denL V P A [x] = [eqv v]/\v.oneCell'=true:=by cases x<;>simp only[zmV,w0t] at h<;>obtain⟨e,h1⟩:=zl7 h<;>subst e<;>exact⟨rfl,h1⟩
theorem y5a[Dr]{A:Asg}: ∀{l:List (SV V.T)}{vs:List Value},zmL V l vs=true->denL V P A l=vs.map eqv/\vs.all (·.oneCell')=true/\vs.length=l.length
 | [],[],_=>⟨rfl,rfl,rfl⟩
 |x::l,v::vs,h=>by simp only[zmL,w02] at h;obtain⟨h1,h2⟩:=ya1 V P (A:=A) h.1;obtain⟨h3,h4,h5⟩:=y5a (A:=A) h.2;exact⟨by rw[z3d,h1,h3];rfl,by simp[h2,h4],by simp[h5]⟩
 | [],_::_,h=>by simp[zmL] at h
 |_::_,[],h=>by simp[zmL] at h
theorem ya0[Dr]{A:Asg}{m:List (SV V.T)}: ∀{n:Nat}{vs:List Value},zmA V m n vs=true->(List.replicate n (denL V P A m)).flatten=vs.map eqv/\vs.all (·.oneCell')=true
 |0,vs,h=>by simp only[zmA,w4k] at h;subst h;exact⟨rfl,rfl⟩
 |n+1,vs,h=>by
  simp only[zmA,w02] at h;obtain⟨h1,h2,_⟩:=y5a V P (A:=A) h.1;obtain⟨h3,h4⟩:=ya0 (A:=A) h.2;have e:=w25 m.length vs;refine⟨?_,?_⟩
  .rw[List.replicate_succ,List.flatten_cons,h3,h1,<- w2f,e]
  .rw[<- e,w4p,h2,h4];rfl
theorem y5k{α:Type}(e:α->List VP)(z:α):∀(n:Nat),Px.arr n e (λ_=>z) =(List.replicate n (e z)).flatten:=by
 intro n;unfold Px.arr
 induction n with
 |zero=>rfl
 |succ n ih=>rw[w1o,w1x,ih,List.replicate_succ',List.flatten_append];simp
theorem zey[Dr]{A:Asg}: ∀{l:List (SV V.T)}{vs:List Value},zdn V l vs=true->denL V P A (fixZ V l)=vs.map eqv/\vs.all (·.oneCell')=true
 | [],vs,h=>by
  cases vs with
  |nil=>exact⟨rfl,rfl⟩
  |cons v vs=>simp[zdn] at h
 | .arr n c f::l,vs,h=>by
  simp only[zdn,w02] at h;obtain⟨h1,h2⟩:=ya0 V P (A:=A) h.1;obtain⟨h3,h4⟩:=zey (A:=A) h.2;rw[z1m] at h1;have e:=w25 (n*V.sz c) vs;refine⟨?_,?_⟩
  .simp only[fixZ,denL,y5k,h1,h3];rw[<- w2f,e]
  .rw[<- e,w4p,h2,h4];rfl
 | .int ..::l,v::vs,h | .bool ..::l,v::vs,h | .str ..::l,v::vs,h | .val ..::l,v::vs,h | .agg ..::l,v::vs,h | .tup ..::l,v::vs,h | .ro ..::l,v::vs,h | .rop ..::l,v::vs,h
 | .ptr ..::l,v::vs,h | .own ..::l,v::vs,h | .elt ..::l,v::vs,h | .pta ..::l,v::vs,h | .prt ..::l,v::vs,h | .und::l,v::vs,h | .func ..::l,v::vs,h | .rom ..::l,v::vs,h | .cmp ..::l,v::vs,h | .top::l,v::vs,h=>by simp only[zdn,w02] at h;obtain⟨h1,h2⟩:=ya1 V P (A:=A) h.1;obtain⟨h3,h4⟩:=zey (A:=A) h.2;refine⟨?_,by simp[h2,h4]⟩;simp only[fixZ];rw[z3d,h1,h3];rfl
 | .int ..::l,[],h | .bool ..::l,[],h | .str ..::l,[],h | .val ..::l,[],h | .agg ..::l,[],h | .tup ..::l,[],h | .ro ..::l,[],h | .rop ..::l,[],h
 | .ptr ..::l,[],h | .own ..::l,[],h | .elt ..::l,[],h | .pta ..::l,[],h | .prt ..::l,[],h | .und::l,[],h | .func ..::l,[],h | .rom ..::l,[],h | .cmp ..::l,[],h | .top::l,[],h=>by simp[zdn] at h
theorem zvx[Dr]{A:Asg}: ∀(vs:List Value),denL V P A (vs.map zqz)=vs.map eqv
 | []=>rfl
 |v::vs=>by
  have h:denL V P A [(zqz v:SV V.T)] = [eqv v]:=by cases v<;>rfl
  rw[w0p,z3d,h,zvx vs];rfl
def ownO{T:Nat->Type}: SO T->Bool
 | .row ..=>true
 | .x _=>true
 |_=>false
def OneA(A:Asg)(ob:List (SO V.T)):Prop:=∀(i:Nat)(q:Nat×Value)(o:SO V.T),A[i]? = some q->ob[i]? = some o->ownO o=true->q.2.oneCell'=true
theorem y3h[Dr]{A:Asg}{ob:List (SO V.T)}(h1:OneA V A ob){x:SV V.T}(h:oneS V ob x=true):One (x.den V P A)/\z18 x=false:=by
 cases x with
 |int k n=>exact⟨One.eqv rfl,rfl⟩
 |bool b=>exact⟨One.eqv rfl,rfl⟩
 |str b=>exact⟨One.eqv rfl,rfl⟩
 |val v=>exact⟨One.eqv h,rfl⟩
 |ro c l=>exact⟨One.ro,rfl⟩
 |rom kc vc m=>exact⟨λr w v(h :(V.mv V.ev kc vc m).h r w v)=>by rcases h with⟨rfl,_⟩|⟨b,t,rfl,_⟩<;>rfl,rfl⟩
 |rop cs=>exact⟨One.rop,rfl⟩
 |ptr i off=>
  refine⟨?_,rfl⟩;simp only[SV.den];cases A[i]? with
  |none=>exact λ_ _ _ hv=>hv.elim
  |some q=>exact One.eqv rfl
 |own i=>
  refine⟨?_,rfl⟩;simp only[SV.den];cases ha:A[i]? with
  |none=>exact λ_ _ _ hv=>hv.elim
  |some q=>
   simp only[oneS] at h;split at h
   .rename_i E c l ho;exact One.eqv (h1 i q _ ha ho rfl)
   .rename_i xo ho;exact One.eqv (h1 i q _ ha ho rfl)
   .cases h
 |elt i k z fo=>
  refine⟨?_,rfl⟩;simp only[SV.den];cases A[i]? with
  |none=>exact λ_ _ _ hv=>hv.elim
  |some q=>exact λr w v ⟨g,n,cap,_,hv,_⟩=>by subst hv;rfl
 |func f caps=>refine⟨?_,rfl⟩;simp only[SV.den];exact λr w v ⟨caps,hv,_⟩=>by subst hv;rfl
 |_=>simp[oneS] at h
theorem yd9[Dr]{A:Asg}{s:St}{ob:List (SO V.T)}(h1:OneA V A ob){x:SV V.T}{o:Operand}(hs:storable V ob x=true)(h:Ev s o (x.den V P A)):Ce s o (denL V P A (cellsOf x)):=by
 unfold storable at hs;cases ha:z18 x with
 |true=>rw[zuw V P ha] at h;exact Ce.agg h
 |false=>
  rw[ha,w26] at hs;have hc:cellsOf x = [x]:=by cases x<;>simp[z18] at ha<;>rfl
  rw[hc,zgg V P ha];exact Ce.one h (y3h V P h1 hs).1
theorem ycu[Dr]{A:Asg}{l new m:List (SV V.T)}{o n:Nat}(h:splL V l o new n=some m):denL V P A m =(denL V P A l).take o++denL V P A new++(denL V P A l).drop (o+n)/\o+n<=(denL V P A l).length:=by
 unfold splL at h;cases hs:splC V l o new n with
 |some q=>rw[hs] at h;cases h;exact zn8 V P hs
 |none=>
  rw[hs] at h;simp only at h;unfold splA at h;split at h
  .rename_i k c f;cases hb :(Nat.beq n (V.sz c)&&Nat.beq (o % n) 0&&Nat.ble (o / n+1) k) with
   |false=>rw[hb] at h;cases h
   |true=>
    rw[hb] at h;simp only[cond_true] at h;simp only[w02] at hb;have e1:=w01 hb.1.1;have e2:=w01 hb.1.2;have e3:=w0u hb.2;split at h
    .rename_i y hy;cases h;have e5:=zun (ze0 (P:=P) (A:=A) (R:=Eq) zp5 zp6 (λ_=>rfl) (λ_ _ _ h=>zp4 h) hy);have e6:o=o / n*V.sz c:=by have:=w4m o n;rw[e2,w3u] at this;rw[<- e1,w5a];exact this.symm
     have h3:=zdr (N:=k) (f:=f) (V.ev_len c);have h4 :(o / n+1)*V.sz c<=k*V.sz c:=w14 _ e3;rw[w1e] at h4;have h5:=zoj (pre:=[]) (post:=[]) (N:=k) (sz:=V.sz c) (k:=o / n) (off:=o) (n:=n) (e:=V.ev c) (f:=f) (y:=y) (cs:=denL V P A new) (V.ev_len c) (by simpa using e6) e3 e1 e5;simp only[w39,w0e] at h5;simp only[denL,w0e];refine⟨h5.symm,?_⟩;rw[h3];omega
    .cases h
  .cases h
theorem zvi[Dr]{A:Asg}{s:SS V.T}{ob:List (SO V.T)}{ch:Ch}{t:TypeId}(h1:OneA V A ob)(hc:chP s.gb ch):∀{ps:List (Nat×Operand)}{cs out:List (SV V.T)},layX V P t ob s.sl ch cs ps=some out->
  ∃qs,y5e (s.st V P A) (zjs P t) (clen V cs) ps qs/\lay (denL V P A cs) qs=denL V P A out
 | [],cs,out,h=>by simp[layX] at h;subst h;exact⟨[],trivial,rfl⟩
 |(i,o)::ps,cs,out,h=>by
  simp only[layX] at h;cases hp:zjs P t i with
  |none=>rw[hp] at h;cases h
  |some q=>
   obtain⟨off,n⟩:=q;cases hx:evO s.sl ch o with
   |none=>rw[hp,hx] at h;cases h
   |some x=>
    rw[hp,hx] at h;simp only at h;cases hb :(Nat.beq n (clen V (cellsOf x))&&storable V ob x) with
    |false=>rw[hb] at h;cases h
    |true=>
     rw[hb] at h;simp only[cond_true] at h;simp only[w02] at hb;have en:=w01 hb.1;cases hs:splL V cs off (cellsOf x) n with
     |none=>rw[hs] at h;cases h
     |some cs'=>
      rw[hs] at h;simp only at h;obtain⟨e,hl⟩:=ycu V P (A:=A) hs;obtain⟨qs,hq,hlay⟩:=zvi h1 hc h;have hlen:=zcj V P (A:=A) (cellsOf x);have hcs:=zcj V P (A:=A) cs;have hcs':=zcj V P (A:=A) cs';have hsame:clen V cs'=clen V cs:=by rw[<- hcs',e];simp[hlen,en] at *;omega
      refine⟨(off,denL V P A (cellsOf x))::qs,⟨by rw[hp,hlen,en],by rw[hlen,<- en,<- hcs];exact hl,yd9 V P h1 hb.2 (z2h V P hx hc),by rw[<- hsame];exact hq⟩,?_⟩;simp only[lay];rw[<- hlay,e,hlen,en]
end
end Px
end
section
namespace Px
open Go Go.RowKit
section
variable{V:TE}{N:Env V}{R:Type}{r:R}{C:Cx N.P}{A:Asg}{s:SS V.T}{cur:Ch}
theorem y0m[Dr](hc:chP s.gb cur)(hkn:chP s.gb s.kn):∀{os:List Operand}{l:List (SV V.T)},zn.capsX V s.sl (cur++s.kn) os=some l->
  ∀a ro w,zj (s.st V N.P A).slots a ro w->(os.map a.eval).length =(denV V N.P A l).length/\∀(i:Nat)(B:VP),(denV V N.P A l)[i]? = some B->B.h ro w ((os.map a.eval).getD i undef)
 | [],l,h,a,ro,w,_=>by simp[zn.capsX] at h;subst h;simp[denV]
 |o::os,l,h,a,ro,w,hs=>by
  simp only[zn.capsX] at h;cases h1:evO s.sl (cur++s.kn) o with
  |none=>rw[h1] at h;cases h
  |some x=>
   rw[h1] at h;cases h2:zn.capsX V s.sl (cur++s.kn) os with
   |none=>simp only[h2] at h;cases h
   |some m=>
    simp only[h2,w00] at h;subst h;obtain⟨e1,e2⟩:=y0m hc hkn h2 a ro w hs;refine⟨by simp[denV] at e1⊢;exact e1,λi B hB=>?_⟩;cases i with
    |zero=>simp[denV] at hB;subst hB;exact evO2 hkn hc h1 a ro w hs
    |succ i=>simpa using e2 i B (by simpa[denV] using hB)
theorem y3r[Dr]{P:Program}{C:Cx P}{s:St}{dst:Option Tmp}{ty:TypeId}{pos:String}{after:Array Edge}{guard:Option (Nat×Bool)}{f:FuncId}{first caps:Array Operand}{Xs:List VP}(hf:first.isEmpty=true)
  (h:∀a ro w,zj s.slots a ro w->(caps.toList.map a.eval).length=Xs.length/\∀(i:Nat)(B:VP),Xs[i]? = some B->B.h ro w ((caps.toList.map a.eval).getD i undef)) :
  OpQ C ⟨dst,.makeFunc (.func f) first caps,ty,pos,after,guard⟩ s (fnc f Xs):=
 .val λa ro w hs=>by
  obtain⟨e1,e2⟩:=h a ro w hs;have:first = #[]:=by simpa using hf
  subst this;refine⟨.func (.func f) #[] (caps.map a.eval),by simp[execOp,Instr.makeFunc],caps.map a.eval,rfl,by simpa using e1,λi B hB=>?_⟩;have:=e2 i B hB;simpa[w07,w1k] using this
theorem zvd[Dr](hc:chP s.gb cur)(hkn:chP s.gb s.kn){k:IntKind}: ∀{os:List Operand}{l:List Int},zz5 s.sl (cur++s.kn) k os=some l->zl2 (s.st V N.P A) k os l
 | [],l,h=>by simp[zz5] at h;subst h;trivial
 |o::os,l,h=>by
  simp only[zz5] at h;split at h
  .rename_i k' n h1;split at h
   .rename_i e;subst e;split at h
    .rename_i m h2;simp only[w00] at h;subst h;exact⟨evO2 hkn hc h1,zvd hc hkn h2⟩
    .cases h
   .cases h
  .cases h
theorem zf8{P:Program}{ts:Array TypeId}(h:zn.isSl1 P ts=true):∃t,ts = #[t]/\isSl P t=true:=by
 unfold zn.isSl1 at h;split at h
 .rename_i t ht;exact⟨t,by cases ts;simp at ht;rw[ht],h⟩
 .cases h
theorem y2e{P:Program}{ts:Array TypeId}(h:zn.isStr1 P ts=true):∃t,ts = #[t]/\P.underlying t=some .string:=by
 unfold zn.isStr1 at h;split at h
 .rename_i t ht;split at h
  .rename_i hu;exact⟨t,by cases ts;simp at ht;rw[ht],hu⟩
  .cases h
 .cases h
theorem yba[Dr]{P:Program}{C:Cx P}{s:St}{dst:Option Tmp}{ty:TypeId}{pos:String}{after:Array Edge}{guard:Option (Nat×Bool)}{j E c:Nat}{t:TypeId}{x i:Operand}{l:List (V.T c)}{sv:Value}{k:IntKind}{m:Int}
  (ht:tidx P t=some (false,0,V.sz c)) (h:Ev s x (eqv sv)) (ho:s.objs[j]? = some (row E (V.ev c) (V.sz c) l sv)) (hi:Ev s i (iv k m)) (h0:0<=m) (h1:m<(l.length:Int)) :
  OpQ C ⟨dst,.indexAddr t x i,ty,pos,after,guard⟩ s (eltp sv m (m.toNat*V.sz c)):=
 .valO λa r S w hw hs=>by
  have h2:=hi a r w hs;have h3:=h a r w hs;simp only[iv,eqv] at h2 h3;rcases hw.obj j _ ho with⟨_,rfl⟩|⟨g,cap,cur,hv,hS,hcur,hl,hm,hsz,hh⟩
  .simp at h1;omega
  .exact⟨_,by simp only[execOp,h3,hv,h2,w06,zdc w ht h0 h1,w13];rfl,g,_,cap,hv,rfl,h0,h1⟩
theorem y6r[Dr]{P:Program}{C:Cx P}{s:St}{dst:Option Tmp}{ty:TypeId}{pos:String}{after:Array Edge}{guard:Option (Nat×Bool)}{j E c:Nat}{t:TypeId}{x i:Operand}{l:List (V.T c)}{sv:Value}{k:IntKind}{m:Int}
  (ht:tidx P t=some (false,0,V.sz c)) (h:Ev s x (eqv sv)) (ho:ObIs s.objs j (row E (V.ev c) (V.sz c) l sv)) (hi:Ev s i (iv k m)) (h0:0<=m) (h1:m<(l.length:Int)) :
  OpQ C ⟨dst,.indexAddr t x i,ty,pos,after,guard⟩ s (eltp sv m (m.toNat*V.sz c)):=
 .valO λa r S w hw hs=>by
  have h2:=hi a r w hs;have h3:=h a r w hs;simp only[iv,eqv] at h2 h3;rcases ObIs.at hw ho with⟨_,rfl⟩|⟨g,cap,cur,hv,hS,hcur,hl,hm,hsz,hh⟩
  .simp at h1;omega
  .exact⟨_,by simp only[execOp,h3,hv,h2,w06,zdc w ht h0 h1,w13];rfl,g,_,cap,hv,rfl,h0,h1⟩
theorem yeb[Dr]{P:Program}{C:Cx P}{s:St}{dst:Option Tmp}{ty:TypeId}{pos:String}{after:Array Edge}{guard:Option (Nat×Bool)}{α:Type}{E:TypeId}{e:α->List VP}{sz:Nat}{l:List α}{sv:Value}(j:Nat){t:TypeId}{x:Operand}(ht:isSl P t=true)(h:Ev s x (eqv sv))(ho:ObIs s.objs j (row E e sz l sv)):
  OpQ C ⟨dst,.call { callee:=.builtin .len,args:=#[x],argTypes:=#[t] },ty,pos,after,guard⟩ s (iv .i64 l.length):=
 .valO λa r S w hw hs=>by
  have h3:=h a r w hs;simp only[eqv] at h3;rcases ObIs.at hw ho with⟨hv,rfl⟩|⟨g,cap,cur,hv,_⟩
  .exact⟨_,z4x (by rw[h3,hv];exact z7c w ht),rfl⟩
  .exact⟨_,z4x (by rw[h3,hv];exact z7c w ht),rfl⟩
theorem y4r{P:Program}{t:TypeId}{n e:Nat}(h:tidx P t=some (false,n,e)):n=0:=by
 unfold tidx at h;split at h
 .rename_i n' e' hu;cases hi:P.info? e' with
  |none=>rw[hi] at h;simp at h
  |some i=>rw[hi] at h;simp at h
 .rename_i e' hu;cases hi:P.info? e' with
  |none=>rw[hi] at h;simp at h
  |some i=>rw[hi] at h;simp at h;omega
 .cases h
theorem y9y(m:Int)(k:Nat):scl m k=m.toNat*k:=by
 unfold scl;cases h:Nat.beq k 1 with
 |false=>rfl
 |true=>have:=w01 h;subst this;simp
theorem y23[Dr]{P:Program}{C:Cx P}{s:St}{dst:Option Tmp}{ty:TypeId}{pos:String}{after:Array Edge}{guard:Option (Nat×Bool)}{t:TypeId}{x i:Operand}{k:IntKind}{m:Int}{n e b off:Nat}{F:Prop}
  (ht:tidx P t=some (true,n,e)) (hx:Ev s x ⟨λ_ _ v=>F/\v = .pointer (some ⟨b,off,none⟩),λ_ _ h=>h⟩) (hi:Ev s i (iv k m)) (h0:0<=m) (h1:m<(n:Int)) {F':Prop} (hF:F->F') {off':Nat} (ho:off'=off+m.toNat*e) :
  OpQ C ⟨dst,.indexAddr t x i,ty,pos,after,guard⟩ s ⟨λ_ _ v=>F'/\v = .pointer (some ⟨b,off',none⟩),λ_ _ h=>h⟩:=
 .val λa r w hs=>by
  have h2:=hi a r w hs;obtain⟨hf,h3⟩:=hx a r w hs;simp only[iv,eqv] at h2;subst ho;exact⟨_,by simp only[execOp,h3,h2,w06,zjo w ht h0 h1];rfl,hF hf,rfl⟩
theorem yc5[Dr]{s:St}{dst:Option Tmp}{pos:String}{after:Array Edge}{guard:Option (Nat×Bool)}{f:FuncId}{fo:Operand}{as:Array Operand}{ts:Array TypeId}{ty:TypeId}{Xs Ys args:List VP}{x:VP}(hf:FnOK N.P f)(hfo:Ev s fo (fnc f Xs))(hX:zhg C s Xs Ys)(ha:zrt C s as.toList args)
  (h:zdq N.P f (args++Ys) λy news=>y=x/\news = []) (hx:x.flat):OpQ C ⟨dst,.call { callee:=.value fo,args:=as,argTypes:=ts },ty,pos,after,guard⟩ s x:=by
 intro a w r S Q hd hn hw hs;obtain⟨fn,h1,h2,h3⟩:=hf;obtain⟨caps,hv,hl,hc⟩:=hfo a r w hs;obtain⟨e1,e2⟩:=ha.ok hw hs;obtain⟨e3,e4⟩:=hX.ok;unfold Oper.wp;have hrun :(execOp a.eval ⟨dst,.call { callee:=.value fo,args:=as,argTypes:=ts },ty,pos,after,guard⟩).run N.P w = .ok (.enter f (as.map a.eval++caps)) w:=by simp[execOp,Go.resolve,hv,Deferred.ofValue,invoke,z1x h1 h2 h3]
 rw[hrun,Oper.upon_enter];have hsz:as.size=args.length:=by simpa using e1
 refine(h (λb=>b<w.heap.size) w _ (λ_ h=>h) (by simp[hsz,hl,e3]) λi A hi=>?_).mono ?_
 .rw[w23] at hi;split at hi
  .rename_i hlt;have:=e2 i A hi;have hlt':i<as.size:=by omega
   simpa[w07,w17,hlt',w12] using this
  .rename_i hge;obtain⟨B,hB,hBA⟩:=e4 _ A hi;have:=A.mono (λ_ hb=>hw.all hb) (λ_ _=>rfl) (hBA r S w _ hw (hc _ B hB));have hge':¬i<args.length:=by omega
   simpa[w07,w17,hge',hsz] using this
 .rintro e w' ⟨v,X,news,r',S',rfl,he,hw',hxv,rfl,rfl⟩;exact⟨v,r,_,_,_,rfl,⟨λ_ h=>h,λb hb=>he.2.1 b (hw.old b hb),λ_ h=>.inl h⟩,hw.join hw' r (λ_ h=>h) (λb hb=>.inl hb) (λi H hi=>by simp at hi),hx _ _ _ _ _ hxv,rfl,by simp⟩
theorem y7l[Dr]{s:St}{dst:Option Tmp}{pos:String}{after:Array Edge}{guard:Option (Nat×Bool)}{f:FuncId}{fo:Operand}{as:Array Operand}{ts:Array TypeId}{ty:TypeId}{Xs args:List VP}{K K':VP->List HP->Prop}(hf:FnOK N.P f)(hfo:Ev s fo (fnc f Xs))(ha:Args s as.toList args)
  (h:zdq N.P f (args++Xs) K') (k:∀x news,K' x news->K x (s.objs++news)):OpT C ⟨dst,.call { callee:=.value fo,args:=as,argTypes:=ts },ty,pos,after,guard⟩ s K:=by
 intro a w r S Q hd hn hw hs;obtain⟨fn,h1,h2,h3⟩:=hf;obtain⟨caps,hv,hl,hc⟩:=hfo a r w hs;obtain⟨e1,e2⟩:=ha.ok hs;unfold Oper.wp;have hrun :(execOp a.eval ⟨dst,.call { callee:=.value fo,args:=as,argTypes:=ts },ty,pos,after,guard⟩).run N.P w = .ok (.enter f (as.map a.eval++caps)) w:=by simp[execOp,Go.resolve,hv,Deferred.ofValue,invoke,z1x h1 h2 h3]
 rw[hrun,Oper.upon_enter];have hsz:as.size=args.length:=by simpa using e1
 refine(h r w _ hw.old (by simp[hsz,hl]) λi A hi=>?_).mono ?_
 .rw[w23] at hi;split at hi
  .rename_i hlt;have:=e2 i A hi;have hlt':i<as.size:=by omega
   simpa[w07,w17,hlt',w12] using this
  .rename_i hge;have:=hc _ A hi;have hge':¬i<args.length:=by omega
   simpa[w07,w17,hge',hsz] using this
 .rintro e w' ⟨v,x,news,r',S',rfl,he,hw',hx,hk⟩;refine⟨v,r',_,x,_,rfl,⟨he.1,he.2.1,λb hb=>(he.2.2 b hb).imp id (λq=>w34 hw.size q)⟩,hw.join hw' r' he.1 (λb hb=>?_) hw'.obj,hx,k _ _ hk⟩;rcases he.2.2 b hb with q|q
  .exact .inl q
  .exact .inr ⟨q,hb⟩
theorem y45[Dr](hN:z5f V N)(hkn:chP s.gb s.kn){f t:Nat}{caps:List (SV V.T)}{as:Array Operand}{ts:Array TypeId}{ty:TypeId}{k:SV V.T->Option R}{sp:Csp V}(hsp:N.cl f=some sp)(hv:evO s.sl (cur++s.kn) (.tmp t)=some (.func f caps))
  (h :(bif sp.res.any zd2 then none else(match decA V (bif sp.res.all (flR V) then rdSl s.ob else rdSl []) s.sl (cur++s.kn) sp.args as.toList,zdz V (bif sp.res.all (flR V) then s.ob else []) sp.caps caps with
    |some a,some b=>bif zn.fnok N.P f then zpp s.gb cur (zR V sp.res) (sp.F a b) λr=>k (resV V (encR V 0 sp.res r)) else none
    |_,_=>none))=some r):∃v,k v=some r/\QOK V N.P C A s cur (.call { callee:=.value (.tmp t),args:=as,argTypes:=ts }) ty v:=by
 cases h1:sp.res.any zd2 with
 |true=>rw[h1] at h;cases h
 |false=>
  rw[h1] at h;simp only[cond_false] at h;split at h
  .rename_i a b h3 h5;cases h4:zn.fnok N.P f with
   |false=>rw[h4] at h;cases h
   |true=>
    rw[h4] at h;simp only[cond_true] at h;obtain⟨y,hy,hk⟩:=zpq h;refine⟨_,hk,λhc dst pos after guard=>?_⟩;have hp:=hN.cl f sp hsp a b y (hy hc);have key:∀x news,Kres V N.P sp.res y x news->x =(resV V (encR V 0 sp.res y)).den V N.P A/\news = []:=by rintro x news ⟨B,hB,rfl,rfl⟩;obtain⟨e1,e2⟩:=zgj V N.P (B:=B) 0 sp.res y h1;refine⟨zra V N.P (e2 A).symm,?_⟩;rw[e1];cases B<;>rfl
    have hv':=evO2 (A:=A) (P:=N.P) hkn hc hv;simp only[SV.den] at hv';cases h2:sp.res.all (flR V) with
    |true=>rw[h2] at h3 h5;exact yc5 (z7u N.P h4) hv' (zps V N.P h5) (zf2 V N.P (z48 hc hkn) h3) (hp.mono key) (zn4 V N.P (zln V N.P 0 sp.res y h1 h2))
    |false=>
     rw[h2] at h3 h5;rw[zsg (A:=A) V N.P h5] at hv';refine y7l (z7u N.P h4) hv' (zgf V N.P (z48 hc hkn) h3) hp λx news hK=>?_
     obtain⟨h6,h7⟩:=key x news hK;exact⟨h6,by rw[h7,w0e]⟩
  .cases h
theorem zzj[Dr](hN:z5f V N)(hkn:chP s.gb s.kn){f:Nat}{as:Array Operand}{ts:Array TypeId}{ty:TypeId}{k:SV V.T->Option R}{sp:Fsp V}(hsp:N.fn f=some sp)
  (h :(bif sp.res.any zd2 then none else(match decA V (rdQ V s.ob sp.res) s.sl (cur++s.kn) sp.args as.toList with
    |some a=>bif zn.fnok N.P f then zpp s.gb cur (zR V sp.res) (sp.F a) λr=>k (resV V (encR V 0 sp.res r)) else none
    |none=>none))=some r):∃v,k v=some r/\QOK V N.P C A s cur (.call { callee:=.value (.func f),args:=as,argTypes:=ts }) ty v:=by
 cases h1:sp.res.any zd2 with
 |true=>rw[h1] at h;cases h
 |false=>
  rw[h1] at h;simp only[cond_false] at h;split at h
  .rename_i a h3;cases h4:zn.fnok N.P f with
   |false=>rw[h4] at h;cases h
   |true=>
    rw[h4] at h;simp only[cond_true] at h;obtain⟨y,hy,hk⟩:=zpq h;refine⟨_,hk,λhc dst pos after guard=>?_⟩;have hp:=hN.fn f sp hsp a y (hy hc);have key:∀x news,Kres V N.P sp.res y x news->x =(resV V (encR V 0 sp.res y)).den V N.P A/\news = []:=by rintro x news ⟨B,hB,rfl,rfl⟩;obtain⟨e1,e2⟩:=zgj V N.P (B:=B) 0 sp.res y h1;refine⟨zra V N.P (e2 A).symm,?_⟩;rw[e1];cases B<;>rfl
    cases h2:sp.res.all (flR V) with
    |true=>unfold rdQ at h3;rw[h2] at h3;exact yc6 (z7u N.P h4) (zf2 V N.P (z48 hc hkn) h3) (hp.mono key) (zn4 V N.P (zln V N.P 0 sp.res y h1 h2))
    |false=>
     unfold rdQ at h3;rw[h2] at h3;cases h7:sp.res.all (sepR V) with
     |true=>rw[h7] at h3;exact yc3 N.P (z7u N.P h4) (zoo V N.P (z48 hc hkn) h3) (λr S w hw=>y1i V N.P hw) (hp.mono key) (y8b V N.P (zx8 V N.P 0 sp.res y h1 h7))
     |false=>
     rw[h7] at h3;refine y3l (z7u N.P h4) (zgf V N.P (z48 hc hkn) h3) hp λx news hK=>?_
     obtain⟨h5,h6⟩:=key x news hK;exact⟨h5,by rw[h6,w0e]⟩
  .cases h
end
section xo
variable{V:TE}{P:Program}{C:Cx P}{A:Asg}{s:SS V.T}
theorem y3a[Dr]{j E E2 c:Nat}{l:List (V.T c)}{h:Option (Int×Nat)}{q:Nat×Value}(ha:A[j]? = some q)(ho:s.ob[j]? = some (.x (.nst E E2 c l h))):ObIs (s.st V P A).objs j (nst E (V.inn E2 c) l (zef A h) q.2):=⟨_,zt V P ha ho,λ_ _ _ h=>h.2⟩
theorem zxt[Dr]{j kc vc E:Nat}{m:List (V.T kc×V.T vc)}{hh:Option (V.T kc×Nat)}{q:Nat×Value}(ha:A[j]? = some q)(ho:s.ob[j]? = some (.x (.map kc vc E m hh))):ObIs (s.st V P A).objs j (nmp q.1 (V.kl kc) (V.kv kc) (V.inm E vc) m (zav A hh)):=⟨_,zt V P ha ho,λ_ _ _ h=>h.2⟩
theorem zta{E c:Nat}(h:zaw (V.d c)=true):V.inm E c=plI (V.kv c):=by funext x v;unfold TE.inm TE.kv plI;generalize (λc=>kvS (V.d c))=g;revert x h;generalize V.d c=d;revert d;generalize V.T c=α;intro d h x;cases d<;>first|rfl|simp[zaw] at h
theorem ydj[Dr]{j E c:Nat}{l:List (V.T c)}{q:Nat×Value}{o:Oper}{K:VP->List HP->Prop}(ha:A[j]? = some q)(ho:s.ob[j]? = some (.x (.fix E c l)))(h:zve (V.d c)=true/\exSl q.2->OpT C o (s.st V P A) K):OpT C o (s.st V P A) K:=λa w ro S Q hd hn hw hs=>h (hw.obj j _ (zt V P ha ho)).1 a w ro S Q hd hn hw hs
theorem y9q[Dr]{j E E2 c:Nat}{l:List (V.T c)}{hh:Option (Int×Nat)}{q:Nat×Value}{o:Oper}{K:VP->List HP->Prop}(ha:A[j]? = some q)(ho:s.ob[j]? = some (.x (.nst E E2 c l hh)))
  (h:ztb (V.d c)=true/\(∀k j,hh=some (k,j)->(A[j]?).isSome=true)->OpT C o (s.st V P A) K):OpT C o (s.st V P A) K:=
 λa w ro S Q hd hn hw hs=>h (hw.obj j _ (zt V P ha ho)).1 a w ro S Q hd hn hw hs
theorem zxm{ts:Array TypeId}(h:zn.isMp1 P ts=true):∃t kt et,ts = #[t]/\P.underlying t=some (.map kt et):=by
 unfold zn.isMp1 at h;split at h
 .rename_i t ht;split at h
  .rename_i kt et hu;exact⟨t,kt,et,by cases ts;simp at ht;rw[ht],hu⟩
  .cases h
 .cases h
theorem zvh{N:Env V}{t kc et:Nat}(h:keyT V N t kc=some et):∃kt,N.P.underlying t=some (.map kt et)/\keyE N.P V.d kt (V.d kc) (N.P.underlying kt)=true:=by
 unfold keyT at h;split at h
 .rename_i kt et' hu;cases hb:keyE N.P V.d kt (V.d kc) (N.P.underlying kt) with
  |false=>rw[hb] at h;cases h
  |true=>rw[hb] at h;simp only[cond_true,w00] at h;subst h;exact⟨kt,hu,hb⟩
 .cases h
theorem y60{r:Nat->Prop}{w:World}{l us:List Value}(h:zo r w (l.map eqv) us):us=l:=by
 refine w3d λi=>?_
 have hl:=h.1;rw[w1c] at hl;by_cases hi:i<l.length
 .obtain⟨u,hu,hA,_⟩:=h.2 i (eqv l[i]) (by simp[hi]);simp only[eqv] at hA;rw[hu,hA];simp[hi]
 .rw[w1m (by omega),w1m (by omega)]
theorem y0e{l:List Value}: Ent (Px.agg (l.map eqv)) (eqv (.agg l.toArray)):=by rintro r w v ⟨vs,rfl,hh⟩;simp only[eqv];rw[<- y60 hh]
theorem y1c{l:List Value}(h:∀v∈l,∃q n,v = .int q n):Ent (eqv (.agg l.toArray)) (Px.agg (l.map eqv)):=by rintro r w v hv;simp only[eqv] at hv;subst hv;refine⟨l.toArray,rfl,?_⟩;exact zfq (by rw[w08];intro v hv;obtain⟨q,n,rfl⟩:=h v (by simpa using hv);rfl)
theorem zvc{c:Nat}(h:zz6 (V.d c)=true):∃q,∀y:V.T c,kvS (V.d c) y = .int q (klS (V.d c) y)/\V.ev c y = [eqv (.int q (klS (V.d c) y))]:=by
 have hev:=λy=>V.ev_eq c y
 revert h hev;generalize V.ev c=e;generalize V.d c=d;revert e d;generalize V.T c=α;intro e d h hev;cases d with
 |int q=>exact⟨q,λy=>⟨rfl,hev y⟩⟩
 |_=>simp[zz6] at h
theorem zqq{T:Nat->Type}{α:Type}{d:Ds T α}{u:Option TypeDesc}(h:keyD d u=true):zz6 d=true/\∃q,u=some (.int q)/\∀y,kvS d y = .int q (klS d y):=by
 cases d with
 |int q=>
  cases u with
  |none=>simp[keyD] at h
  |some u=>cases u<;>simp[keyD] at h;subst h;exact⟨rfl,_,rfl,λy=>rfl⟩
 |_=>cases u<;>simp[keyD] at h
theorem zrj:∀{fs:List Nat},fs.all (λc=>zz6 (V.d c))=true->∃qs:List IntKind,∀x:Tup V.T fs,kvT (λc=>kvS (V.d c)) fs x=zipI qs (klT (λc=>klS (V.d c)) fs x)/\evT V.ev fs x =(zipI qs (klT (λc=>klS (V.d c)) fs x)).map eqv
 | [],_=>⟨[],λ_=>⟨rfl,rfl⟩⟩
 |c::cs,h=>by simp only[w1h,w02] at h;obtain⟨q,hq⟩:=zvc h.1;obtain⟨qs,hqs⟩:=zrj h.2;refine⟨q::qs,λx=>?_⟩;obtain⟨h1,h2⟩:=hq x.1;obtain⟨h3,h4⟩:=hqs x.2;exact⟨by simp only[kvT,klT,zipI,h1,h3],by simp only[evT,klT,zipI,h2,h4,w0p];rfl⟩
theorem zwd:∀{fs:List Nat}{l:List Field}{o:Nat},zvg P V.d fs l o=true->fs.all (λc=>zz6 (V.d c))=true/\∃qs:List IntKind,zi2 P qs l o=true/\∀x:Tup V.T fs,kvT (λc=>kvS (V.d c)) fs x=zipI qs (klT (λc=>klS (V.d c)) fs x)/\(klT (λc=>klS (V.d c)) fs x).length=qs.length
 | [],[],_,_=>⟨rfl,[],rfl,λ_=>⟨rfl,rfl⟩⟩
 |c::cs,f::fs,o,h=>by
  simp only[zvg,w02] at h;obtain⟨⟨⟨⟨h1,h2⟩,h3⟩,h4⟩,h5⟩:=h;obtain⟨k1,q,k2,k3⟩:=zqq h3;obtain⟨k4,qs,k5,k6⟩:=zwd h5;refine⟨by simp only[w1h,k1,k4,w4g],q::qs,?_,λx=>?_⟩
  .unfold zi2;rw[h1,h2,k2,k5];simp only[decide_true,w2l,Bool.and_true];exact h4
  .exact⟨by simp only[kvT,klT,zipI,k3,(k6 x.2).1],by simp only[klT,w1b,(k6 x.2).2]⟩
 | [],_::_,_,h=>by simp[zvg] at h
 |_::_,[],_,h=>by simp[zvg] at h
theorem zxn{n c kt:Nat}{u:Option TypeDesc}(h:keyE P V.d kt (.arr n c) u=true):∃e,u=some (.array n e)/\keyD (V.d c) (P.underlying e)=true/\z3p P e=some (false,1):=by
 cases u with
 |none=>simp[keyE,keyD] at h
 |some u=>
  cases u<;>simp only[keyE,keyD,w0t] at h;rename_i m e;simp only[w02] at h;have e1:=w01 h.1.1;subst e1;refine⟨e,rfl,h.1.2,?_⟩;have h2:=h.2;split at h2
  .assumption
  .cases h2
theorem y2g{fs:List Nat}{α:Type}{mk:Tup V.T fs->α}{un:α->Tup V.T fs}{law:∀t,un (mk t)=t}{kt:Nat}{u:Option TypeDesc}(h:keyE P V.d kt (.st fs mk un law) u=true):∃l,u=some (.struct l)/\P.stoodInHeld kt=false/\zvg P V.d fs l.toList 0=true:=by
 cases u with
 |none=>simp[keyE,keyD] at h
 |some u=>cases u<;>simp only[keyE,keyD,w0t] at h;simp only[w02,w0w] at h;exact⟨_,rfl,h.1,h.2⟩
theorem y70{c kt:Nat}{u:Option TypeDesc}(h:keyE P V.d kt (V.d c) u=true):V.key c=true:=by
 unfold TE.key;revert h;generalize V.d c=d;revert d;generalize V.T c=α;intro d h;cases d with
 |int q=>rfl
 |arr n c'=>obtain⟨e,_,hk,_⟩:=zxn h;exact(zqq hk).1
 |st fs mk un law=>obtain⟨l,_,_,hk⟩:=y2g h;exact(zwd hk).1
 |bool=>simp[keyE,keyD] at h
 |str=>simp[keyE,keyD] at h
 |sl c'=>simp[keyE,keyD] at h
 |map kc vc=>simp[keyE,keyD] at h
theorem y9h{c:Nat}(h:V.key c=true)(x:V.T c):Ent (V.vl c x) (eqv (V.kv c x))/\Ent (eqv (V.kv c x)) (V.vl c x):=by
 unfold TE.key at h;unfold TE.vl TE.kv;have hev:=V.ev_eq c x;revert x h;generalize V.ev c=e;generalize V.d c=d;revert e d;generalize V.T c=α;intro e d h x hev;cases d with
 |int q=>exact⟨Ent.refl,Ent.refl⟩
 |arr n c'=>
  obtain⟨q,hq⟩:=zvc (V:=V) (c:=c') h;have h2:Px.arr n (V.ev c') x =((List.range n).map λj=>kvS (V.d c') (x j)).map eqv:=by
   unfold Px.arr;generalize List.range n=l
   induction l with
   |nil=>rfl
   |cons j l ih=>rw[w0n,ih,(hq _).2,w0p,w0p,(hq _).1];rfl
  show Ent (Px.agg (e x)) (eqv (.agg ((List.range n).map λj=>kvS (V.d c') (x j)).toArray))/\Ent (eqv (.agg ((List.range n).map λj=>kvS (V.d c') (x j)).toArray)) (Px.agg (e x));rw[hev];show Ent (Px.agg (Px.arr n (V.ev c') x)) _/\Ent _ (Px.agg (Px.arr n (V.ev c') x));rw[h2];exact⟨y0e,y1c λv hv=>by obtain⟨j,_,rfl⟩:=w0h.1 hv;exact⟨_,_,(hq _).1⟩⟩
 |st fs mk un law=>obtain⟨qs,hq⟩:=zrj (V:=V) (fs:=fs) h;show Ent (Px.agg (e x)) (eqv (.agg (kvT (λc=>kvS (V.d c)) fs (un x)).toArray))/\Ent (eqv (.agg (kvT (λc=>kvS (V.d c)) fs (un x)).toArray)) (Px.agg (e x));rw[hev];show Ent (Px.agg (evT V.ev fs (un x))) _/\Ent _ (Px.agg (evT V.ev fs (un x)));rw[(hq _).2,(hq _).1];exact⟨y0e,y1c (zrs _ _)⟩
 |bool=>simp[keyF] at h
 |str=>simp[keyF] at h
 |sl c'=>simp[keyF] at h
 |map kc vc=>simp[keyF] at h
theorem y53{c kt:Nat}{x:V.T c}{u:Option TypeDesc}(h:keyE P V.d kt (V.d c) u=true):Ent (V.vl c x) (eqv (V.kv c x)):=(y9h (y70 h) x).1
theorem ydr{c:Nat}(h:V.key c=true)(a b:V.T c)(hk:V.kl c a=V.kl c b):V.kv c a=V.kv c b:=by
 unfold TE.key at h;unfold TE.kl at hk;unfold TE.kv;revert a b h;generalize V.d c=d;revert d;generalize V.T c=α;intro d h a b hk;cases d with
 |int q=>simp only[klF,klS,w2y,and_true] at hk;rw[hk]
 |arr n c'=>
  obtain⟨q,hq⟩:=zvc (V:=V) (c:=c') h;show Value.agg ((List.range n).map λj=>kvS (V.d c') (a j)).toArray=Value.agg ((List.range n).map λj=>kvS (V.d c') (b j)).toArray;have e1:∀f:Nat->V.T c',((List.range n).map λj=>kvS (V.d c') (f j)) =((List.range n).map λj=>klS (V.d c') (f j)).map (Value.int q):=λf=>by rw[w4a];exact List.map_congr_left λj _=>(hq _).1
  have hk :((List.range n).map λj=>klS (V.d c') (a j)) =(List.range n).map λj=>klS (V.d c') (b j):=hk
  rw[e1,e1,hk]
 |st fs mk un law=>obtain⟨qs,hq⟩:=zrj (V:=V) (fs:=fs) h;show Value.agg (kvT (λc=>kvS (V.d c)) fs (un a)).toArray=Value.agg (kvT (λc=>kvS (V.d c)) fs (un b)).toArray;have hk:klT (λc=>klS (V.d c)) fs (un a)=klT (λc=>klS (V.d c)) fs (un b):=hk;rw[(hq _).1,(hq _).1,hk]
 |bool=>simp[keyF] at h
 |str=>simp[keyF] at h
 |sl c'=>simp[keyF] at h
 |map kc vc=>simp[keyF] at h
theorem zeg{kt c:Nat}(h:keyE P V.d kt (V.d c) (P.underlying kt)=true):KeyC P kt (V.kl c) (V.kv c):=by
 have e1:V.kv c=λx=>kvF (λc=>kvS (V.d c)) (V.d c) x:=rfl
 have e2:V.kl c=λx=>klF (λc=>klS (V.d c)) (V.d c) x:=rfl
 rw[e1,e2];clear e1 e2;revert h;generalize V.d c=d;revert d;generalize V.T c=α;intro d h;cases d with
 |int q=>simp only[keyE] at h;obtain⟨_,q',hu,_⟩:=zqq h;rw[hu] at h;simp only[keyD,decide_eq_true_eq] at h;subst h;exact y6z hu
 |arr n c'=>
  obtain⟨e',hu,hk,hE⟩:=zxn h;obtain⟨_,q,hq,_⟩:=zqq hk;rw[hq] at hk;show KeyC P kt (λf:Nat->V.T c'=>(List.range n).map λj=>klS (V.d c') (f j)) (λf=>.agg ((List.range n).map λj=>kvS (V.d c') (f j)).toArray);revert hk;generalize V.d c'=d;revert d;generalize V.T c'=β;intro d hk;cases d with
  |int q'=>simp only[keyD,decide_eq_true_eq] at hk;subst hk;exact y6y hu hq hE
  |_=>simp[keyD] at hk
 |st fs mk un law=>
  obtain⟨l,hu,hs,hk⟩:=y2g h;obtain⟨_,qs,hq,hx⟩:=zwd hk;have:=ybm (e:=λx=>klT (λc=>klS (V.d c)) fs (un x)) hu hs hq (λx=>(hx _).2);have e3 :(λx=>Value.agg (zipI qs (klT (λc=>klS (V.d c)) fs (un x))).toArray)=λx=>kvF (λc=>kvS (V.d c)) (.st fs mk un law) x:=funext λx=>by show _=Value.agg (kvT (λc=>kvS (V.d c)) fs (un x)).toArray;rw[(hx _).1]
  rw[<- e3];exact this
 |bool=>simp[keyE,keyD] at h
 |str=>simp[keyE,keyD] at h
 |sl c'=>simp[keyE,keyD] at h
 |map kc vc=>simp[keyE,keyD] at h
theorem zwh{vc:Nat}{z:Value}(h:V.zok vc z=true):Ent (eqv z) (V.vl vc (V.z vc)):=by
 unfold TE.zok at h;unfold TE.vl;generalize V.ev vc (V.z vc)=l;revert h;generalize V.z vc=y;generalize V.d vc=d;revert y d;generalize V.T vc=α;intro y d h;cases d with
 |int q=>have:=(zl7 h).1;subst this;exact Ent.refl
 |bool=>have:=(zl7 h).1;subst this;exact Ent.refl
 |str=>have:=(zl7 h).1;subst this;exact Ent.refl
 |sl c=>
  simp only[zokD,w02] at h;have hy:y = []:=w4k.1 h.2;subst hy;have hz:z = .slice none 0 0:=by
   have:=h.1;unfold y9f at this;split at this
   .rfl
   .cases this
  subst hz;exact Ent.nil
 |map kc vc=>
  simp only[zokD,w02] at h;have hy:y = []:=w4k.1 h.2;subst hy;have hz:z = .map none:=by
   have:=h.1;unfold y9e at this;split at this
   .rfl
   .cases this
  subst hz;exact zik
 |arr n c=>simp[zokD] at h
 |st fs mk un law=>simp[zokD] at h
theorem y7q[Dr]{dst:Option Tmp}{ty:TypeId}{pos:String}{after:Array Edge}{guard:Option (Nat×Bool)}{s:St}{t E:TypeId}{n:Nat}{x i:Operand}{k:IntKind}{m:Int}{l:List VP}{B:VP}(ht:tarr P t=some (n,E))(hE:z3p P E=some (false,1))(h:Ev s x (agg l))(hi:Ev s i (iv k m))
  (hl:l[m.toNat]? = some B) (h0:0<=m) (h1:m<n):OpQ C ⟨dst,.index t x i,ty,pos,after,guard⟩ s B:=
 .val λa r w hs=>by
  have h2:=hi a r w hs;simp only[iv,eqv] at h2;obtain⟨vs,hx,hh⟩:=h a r w hs;obtain⟨u,hu,hAu,_⟩:=hh.2 _ _ hl;have hp:=zh9 (vs:=vs) (off:=m.toNat*1) (u:=u) w hE (by simpa using hu);exact⟨u,by simp only[execOp,Instr.index,hx,h2,w06,asIntOf,w0g,w05,run_underlying (ziu ht),if_pos (And.intro h0 h1),z68 w hE,hp],hAu⟩
theorem zvu[Dr]:∀{cs:List (SV V.T)}{i:Nat}{v:SV V.T},cs.all zy5=true->cs[i]? = some v->(denL V P A cs)[i]? = some (v.den V P A):=by
 intro cs
 induction cs with
 |nil=>intro i v _ h;simp at h
 |cons x cs ih=>
  intro i v hp h;simp only[w1h,w02] at hp;have e1:denL V P A (x::cs)=x.den V P A::denL V P A cs:=by cases x<;>first|rfl|simp[zy5] at hp
  rw[e1];cases i with
  |zero=>simp at h;subst h;rfl
  |succ i=>simpa using ih hp.2 (by simpa using h)
theorem yb8[Dr]{dst:Option Tmp}{ty:TypeId}{pos:String}{after:Array Edge}{guard:Option (Nat×Bool)}{p:SV V.T}{m q:Int}{j:Nat}{t:TypeId}{x:Operand}(hh:zje V s p=some (m,q,j))(ht:z3p P t=some (false,1))(hq:m=q)
  (hx:Ev (s.st V P A) x (p.den V P A)):OpQ C ⟨dst,.load t x,ty,pos,after,guard⟩ (s.st V P A) ((SV.own j:SV V.T).den V P A):=by
 unfold zje at hh;split at hh
 .rename_i i m' z;split at hh
  .rename_i E E2 c l q' j' ho;cases hb:Nat.beq z 1 with
   |false=>rw[hb] at hh;cases hh
   |true=>
    rw[hb] at hh;simp only[cond_true,w00,w0b] at hh;obtain⟨rfl,rfl,rfl⟩:=hh;have hz:=w01 hb;subst hz;subst hq;simp only[SV.den] at hx⊢;cases ha:A[i]? with
    |none=>rw[ha] at hx;exact z5p P hx
    |some p=>
     rw[ha] at hx;refine y9q ha ho λhp=>?_
     obtain⟨p2,hp2⟩:=w11.1 (hp.2 _ _ rfl);rw[hp2];have hi:=y3a (P:=P) ha ho;simp only[zef,hp2] at hi;refine y3q ht (yeo (hx.ent' ?_) hi);rintro r w v ⟨g,n,cap,h1,h2,_⟩;exact⟨g,n,cap,h1,by simpa using h2⟩
  .cases hh
 .cases hh
end xo
end Px
end
section
namespace Px
open Go Go.RowKit
section
variable{V:TE}{N:Env V}{R:Type}{r:R}{C:Cx N.P}{A:Asg}{s:SS V.T}{cur:Ch}
theorem ye6{V:TE}{c:Nat}(h:z5o (V.d c)=false)(y:V.T c):One (V.vl c y):=by
 unfold TE.vl;generalize V.ev c y=l0;revert y h;generalize V.d c=d;revert d;generalize V.T c=α;intro d h y;cases d<;>simp[z5o] at h<;>simp only[vlF]
 .exact One.eqv rfl
 .exact One.eqv rfl
 .exact One.eqv rfl
 .exact One.ro
 .exact λr w v h=>by rcases h with⟨rfl,_⟩|⟨b,t,rfl,_⟩<;>rfl
theorem y5y{V:TE}{s:St}{c:Nat}{x:Operand}{y:V.T c}(h:Ev s x (V.vl c y)):Ce s x (V.ev c y):=by
 cases hag:z5o (V.d c) with
 |true=>rw[znh y hag] at h;exact Ce.agg h
 |false=>rw[zni y hag];exact Ce.one h (ye6 hag y)
theorem zpz[Dr]{P:Program}{ch:Ch}(hkn:chP s.gb ch){c:Nat}: ∀{ps:List (Nat×Operand)}{n:Nat}{l:List (V.T c)},zv4 V s.sl ch c n ps=some l->y05 (s.st V P A) (V.ev c) n ps l
 | [],n,l,h=>by simp[zv4] at h;subst h;trivial
 |(i,o)::ps,n,l,h=>by
  simp only[zv4] at h;cases hb:Nat.beq i n with
  |false=>rw[hb] at h;cases h
  |true=>
   rw[hb] at h;simp only[cond_true] at h;split at h
   .rename_i y hy;split at h
    .rename_i m hm;simp only[w00] at h;subst h;cases hx:evO s.sl ch o with
     |none=>rw[hx] at hy;cases hy
     |some x=>rw[hx] at hy;exact⟨w01 hb,y5y (Ev.ent' (z2h V P hx hkn) (z6h V P hy)),zpz hkn hm⟩
    .cases h
   .cases h
theorem y6f[Dr](hkn:chP s.gb s.kn){t:TypeId}{x:Operand}{f:Nat}{ty:TypeId}{k:SV V.T->Option R}(h:zn V N s cur (.fieldAddr t x f) ty k=some r):∃v,k v=some r/\QOK V N.P C A s cur (.fieldAddr t x f) ty v:=by
 simp only[zn] at h;split at h
 .rename_i off i o hf hx;refine⟨_,h,λhc dst pos after guard=>?_⟩;have hx':=evO2 (A:=A) (P:=N.P) hkn hc hx;simp only[SV.den] at hx'⊢;cases ha:A[i]? with
  |none=>rw[ha] at hx';exact z5p N.P hx'
  |some q=>rw[ha] at hx';exact y7o hf hx'
 .rename_i off i o m z idx cnt fo hf hx;refine⟨_,h,λhc dst pos after guard=>?_⟩;have hx':=evO2 (A:=A) (P:=N.P) hkn hc hx;simp only[SV.den] at hx'⊢;cases ha:A[i]? with
  |none=>rw[ha] at hx';exact z5p N.P hx'
  |some q=>
   rw[ha] at hx';refine .val λa ro w hs=>?_
   obtain⟨h1,h2⟩:=hx' a ro w hs;exact⟨.pointer (some ⟨q.1,o+idx*z+fo+off,none⟩),by simp[execOp,h2,zdb w hf],h1,by rw[w2h]⟩
 .rename_i off cs hf hx;split at h
  .rename_i l hl;refine⟨_,h,λhc dst pos after guard=>?_⟩;have hx':=evO2 (A:=A) (P:=N.P) hkn hc hx;simp only[SV.den] at hx'⊢;exact y7p hf hx' (zb1 V N.P cs off l hl).1.symm
  .cases h
 .rename_i off i j z fo hf hx;refine⟨_,h,λhc dst pos after guard=>?_⟩;have hx':=evO2 (A:=A) (P:=N.P) hkn hc hx;simp only[SV.den] at hx'⊢;cases ha:A[i]? with
  |none=>rw[ha] at hx';exact z5p N.P hx'
  |some q=>
   rw[ha] at hx';refine .val λa ro w hs=>?_
   obtain⟨g,n,cap,h1,h2,h3⟩:=hx' a ro w hs;exact⟨.pointer (some ⟨g,j.toNat*z+fo+off,none⟩),by simp[execOp,h2,zdb w hf],g,n,cap,h1,by rw[w2h],h3⟩
 .cases h
theorem y24[Dr](hkn:chP s.gb s.kn){t:TypeId}{x i:Operand}{ty:TypeId}{k:SV V.T->Option R}(h:zn V N s cur (.indexAddr t x i) ty k=some r):∃v,k v=some r/\QOK V N.P C A s cur (.indexAddr t x i) ty v:=by
 simp only[zn] at h;split at h
 .-- what is only read
  rename_i n0 e c l q m ht hx hi;have hi:=z05 hi;have hn:=y4r ht;subst hn;cases hb:Nat.beq e (V.sz c) with
  |false=>rw[hb] at h;cases h
  |true=>rw[hb] at h;have he:=w01 hb;subst he;obtain⟨hck,hk⟩:=z4e h;refine⟨_,hk,λhc dst pos after guard=>?_⟩;have hx':=evO2 (A:=A) (P:=N.P) hkn hc hx;have hi':=evO2 (A:=A) (P:=N.P) hkn hc hi;simp only[SV.den] at hx' hi'⊢;rw[z1m];exact y7r ht hx' hi' (hck hc).1 (zf6 (hck hc))
 .-- a slice of the call's own
  rename_i n0 e j q m ht hx hi;have hi:=z05 hi;have hn:=y4r ht;subst hn;split at h
  .rename_i E c l ho;cases hb:Nat.beq e (V.sz c) with
   |false=>rw[hb] at h;cases h
   |true=>
    rw[hb] at h;have he:=w01 hb;subst he;obtain⟨hck,hk⟩:=z4e h;refine⟨_,hk,λhc dst pos after guard=>?_⟩;have hx':=evO2 (A:=A) (P:=N.P) hkn hc hx;have hi':=evO2 (A:=A) (P:=N.P) hkn hc hi;simp only[SV.den] at hx' hi'⊢;cases ha:A[j]? with
    |none=>rw[ha] at hx';exact z5p N.P hx'
    |some q=>rw[ha] at hx';exact yba ht hx' (zt V N.P ha ho) hi' (hck hc).1 (hck hc).2
  .rename_i E E2 c l hh ho;cases hb:Nat.beq e 1 with
   |false=>rw[hb] at h;cases h
   |true=>
    rw[hb] at h;have he:=w01 hb;subst he;obtain⟨hck,hk⟩:=z4e h;refine⟨_,hk,λhc dst pos after guard=>?_⟩;have hx':=evO2 (A:=A) (P:=N.P) hkn hc hx;have hi':=evO2 (A:=A) (P:=N.P) hkn hc hi;simp only[SV.den] at hx' hi'⊢;cases ha:A[j]? with
    |none=>rw[ha] at hx';exact z5p N.P hx'
    |some q=>rw[ha] at hx';have h9:=ybb (C:=C) (dst:=dst) (ty:=ty) (pos:=pos) (after:=after) (guard:=guard) ht hx' (y3a ha ho) hi' (hck hc).1 (hck hc).2;simpa[eltp] using h9
  .rename_i E c l ho;cases hb:Nat.beq e (V.sz c) with
   |false=>rw[hb] at h;cases h
   |true=>
    rw[hb] at h;have he:=w01 hb;subst he;obtain⟨hck,hk⟩:=z4e h;refine⟨_,hk,λhc dst pos after guard=>?_⟩;have hx':=evO2 (A:=A) (P:=N.P) hkn hc hx;have hi':=evO2 (A:=A) (P:=N.P) hkn hc hi;simp only[SV.den] at hx' hi'⊢;cases ha:A[j]? with
    |none=>rw[ha] at hx';exact z5p N.P hx'
    |some q=>rw[ha] at hx';exact y6r ht hx' (zsw V N.P ha ho) hi' (hck hc).1 (hck hc).2
  .cases h
 .-- an array within a variable
  rename_i n e j o q m ht hx hi;have hi:=z05 hi;split at h
  .rename_i T cs ho;split at h
   .rename_i n' c f post hcd;cases hb :(Nat.blt 0 (V.sz c)&&Nat.beq (e / V.sz c*V.sz c) e&&Nat.beq (n*(e / V.sz c)) n') with
    |false=>rw[hb] at h;cases h
    |true=>
     rw[hb] at h;simp only[w02] at hb;have e1:=w01 hb.1.2;have e2:=w01 hb.2;obtain⟨hck,hk⟩:=z4e h;refine⟨_,hk,λhc dst pos after guard=>?_⟩;have hx':=evO2 (A:=A) (P:=N.P) hkn hc hx;have hi':=evO2 (A:=A) (P:=N.P) hkn hc hi;simp only[SV.den] at hx' hi'⊢;cases ha:A[j]? with
     |none=>rw[ha] at hx';exact z5p N.P hx'
     |some q=>
      rw[ha] at hx';simp only[y9y];refine y23 (F:=True) (off:=o) ht (λa ro w hs=>⟨trivial,hx' a ro w hs⟩) hi' (hck hc).1 (hck hc).2 (λ_=>?_) ?_
      .rw[<- e2];have h3:m.toNat+1<=n:=by have:=(hck hc).1;have:=(hck hc).2;omega
       have:=w14 (e / V.sz c) h3;rw[w1e,w45] at this;exact this
      .rw[w55,e1];omega
   .cases h
  .cases h
 .-- an array within an array
  rename_i n e j o n' z idx cnt q m ht hx hi;have hi:=z05 hi;cases hb :(Nat.blt 0 z&&Nat.beq (e / z*z) e&&Nat.beq (n*(e / z)) cnt) with
  |false=>rw[hb] at h;cases h
  |true=>
   rw[hb] at h;simp only[w02] at hb;have e1:=w01 hb.1.2;have e2:=w01 hb.2;obtain⟨hck,hk⟩:=z4e h;refine⟨_,hk,λhc dst pos after guard=>?_⟩;have hx':=evO2 (A:=A) (P:=N.P) hkn hc hx;have hi':=evO2 (A:=A) (P:=N.P) hkn hc hi;simp only[SV.den] at hx' hi'⊢;cases ha:A[j]? with
   |none=>rw[ha] at hx';exact z5p N.P hx'
   |some q=>
    rw[ha] at hx';simp only[y9y];refine y23 (F:=idx+cnt<=n') (off:=o+idx*z+0) ht hx' hi' (hck hc).1 (hck hc).2 (λhle=>?_) ?_
    .have h3:m.toNat+1<=n:=by have:=(hck hc).1;have:=(hck hc).2;omega
     have:=w14 (e / z) h3;rw[w1e,w45,e2] at this;omega
    .rw[w1e,w55,e1];omega
 .-- an array that is only read
  rename_i n e n' c f post q m ht hx hi;have hi:=z05 hi;cases hb :(Nat.beq e (V.sz c)&&Nat.beq n n') with
  |false=>rw[hb] at h;cases h
  |true=>rw[hb] at h;simp only[w02] at hb;have e1:=w01 hb.1;have e2:=w01 hb.2;subst e1;subst e2;obtain⟨hck,hk⟩:=z4e h;refine⟨_,hk,λhc dst pos after guard=>?_⟩;have hx':=evO2 (A:=A) (P:=N.P) hkn hc hx;have hi':=evO2 (A:=A) (P:=N.P) hkn hc hi;simp only[SV.den,denL] at hx' hi'⊢;rw[z1m];refine y3n ht (Ev.ent' hx' λr w v ⟨b,o,hv,hr,hh⟩=>⟨b,o,hv,hr,?_⟩) hi' (V.ev_len c) (hck hc).1 (hck hc).2;have:=hh.take (arr n (V.ev c) f).length;rw[w5j  rfl] at this;simpa using this
 .cases h
theorem y6u[Dr](hkn:chP s.gb s.kn){t:TypeId}{x i:Operand}{ty:TypeId}{k:SV V.T->Option R}(h:zn V N s cur (.index t x i) ty k=some r):∃v,k v=some r/\QOK V N.P C A s cur (.index t x i) ty v:=by
 have arrc:∀{n c:Nat}{f:Nat->V.T c}{q:IntKind}{m:Int}(hx:chP s.gb cur->Ev (s.st V N.P A) x (Px.agg (Px.arr n (V.ev c) f)))(hi:chP s.gb cur->Ev (s.st V N.P A) i (iv q m)),
   (match tarr N.P t with
   |some (n',E)=>match z3p N.P E with
    |some (g,z)=>bif Nat.beq n n'&&Nat.beq z (V.sz c)&&(g==z5o (V.d c)) then ckG s.gb cur ((0:Int)<=m/\m<(n:Int)) (k (V.encV c (f m.toNat))) else none
    |none=>none
   |none=>none)=some r->∃v,k v=some r/\QOK V N.P C A s cur (.index t x i) ty v:=by
  intro n c f q m hx hi h;split at h
  .rename_i n' E ht;split at h
   .rename_i g z hE;cases hb :(Nat.beq n n'&&Nat.beq z (V.sz c)&&(g==z5o (V.d c))) with
    |false=>rw[hb] at h;cases h
    |true=>
     rw[hb] at h;simp only[w02,beq_iff_eq] at hb;have e1:=w01 hb.1.1;have e2:=w01 hb.1.2;have e3:=hb.2;subst e1;subst e2;subst e3;obtain⟨hck,hk⟩:=z4e h;refine⟨_,hk,λhc dst pos after guard=>?_⟩;rw[z43];cases ha:z5o (V.d c) with
     |true=>rw[ha] at hE;rw[znh _ ha];exact y3p ht hE (hx hc) (hi hc) (V.ev_len c) (hck hc).1 (hck hc).2
     |false=>rw[ha] at hE;have h1:=zni (f m.toNat) ha;have h2:=V.ev_len c (f m.toNat);rw[h1] at h2;simp only[w1b,w38] at h2;rw[<- h2] at hE;exact y3o ht hE (hx hc) (hi hc) (λy=>by rw[V.ev_len];exact h2.symm) h1 (hck hc).1 (hck hc).2
   .cases h
  .cases h
 simp only[zn] at h;split at h
 .rename_i b q m hx hi;have hi:=z05 hi;split at h
  .rename_i hu;obtain⟨hck,hk⟩:=z4e h;refine⟨_,hk,λhc dst pos after guard=>?_⟩;exact y7s hu (evO2 hkn hc hx) (evO2 hkn hc hi) rfl (hck hc).1 (hck hc).2
  .cases h
 .rename_i n c f q m hx hi;have hi:=z05 hi;exact arrc (λhc=>evO2 hkn hc hx) (λhc=>evO2 hkn hc hi) h
 .rename_i n c f q m hx hi;have hi:=z05 hi;exact arrc (λhc=>by have:=evO2 (A:=A) (P:=N.P) hkn hc hx;simpa[SV.den,denL] using this) (λhc=>evO2 hkn hc hi) h
 .rename_i cs q m _ hx hi;have hi:=z05 hi;split at h
  .rename_i n' E ht;cases hb :(y4u N.P E&&Nat.beq cs.length n'&&cs.all zy5) with
   |false=>rw[hb] at h;cases h
   |true=>
    rw[hb] at h;simp only[w02] at hb;simp only[cond_true] at h;split at h
    .rename_i v hv;obtain⟨hck,hk⟩:=z4e h;refine⟨_,hk,λhc dst pos after guard=>?_⟩;have hE:z3p N.P E=some (false,1):=by
      have:=hb.1.1;unfold y4u at this;split at this
      .assumption
      .cases this
     have hx':=evO2 (A:=A) (P:=N.P) hkn hc hx;simp only[SV.den] at hx';exact y7q ht hE hx' (evO2 hkn hc hi) (zvu hb.2 hv) (hck hc).1 (hck hc).2
    .cases h
  .cases h
 .cases h
theorem yab[Dr](hN:z5f V N)(hkn:chP s.gb s.kn){c:Call}{ty:TypeId}{k:SV V.T->Option R}(h:zn V N s cur (.call c) ty k=some r):∃v,k v=some r/\QOK V N.P C A s cur (.call c) ty v:=by
 obtain⟨callee,args,ts⟩:=c;simp only[zn] at h;split at h
 .-- len
  rename_i x hargs;have ha:args = #[x]:=by cases args;simp at hargs;rw[hargs]
  subst ha;split at h
  .rename_i c l hx;cases hb:zn.isSl1 N.P ts with
   |false=>rw[hb] at h;cases h
   |true=>rw[hb] at h;obtain⟨t,rfl,ht⟩:=zf8 hb;exact⟨_,h,λhc dst pos after guard=>yed ht (evO2 hkn hc hx)⟩
  .rename_i j hx;split at h
   .rename_i E c l ho;cases hb:zn.isSl1 N.P ts with
    |false=>rw[hb] at h;cases h
    |true=>
     rw[hb] at h;obtain⟨t,rfl,ht⟩:=zf8 hb;refine⟨_,h,λhc dst pos after guard=>?_⟩;have hx':=evO2 (A:=A) (P:=N.P) hkn hc hx;simp only[SV.den] at hx';cases ha:A[j]? with
     |none=>rw[ha] at hx';exact z5p N.P hx'
     |some q=>rw[ha] at hx';exact yec j ht hx' (zt V N.P ha ho)
   .rename_i E E2 c l hh ho;cases hb:zn.isSl1 N.P ts with
    |false=>rw[hb] at h;cases h
    |true=>
     rw[hb] at h;obtain⟨t,rfl,ht⟩:=zf8 hb;refine⟨_,h,λhc dst pos after guard=>?_⟩;have hx':=evO2 (A:=A) (P:=N.P) hkn hc hx;simp only[SV.den] at hx';cases ha:A[j]? with
     |none=>rw[ha] at hx';exact z5p N.P hx'
     |some q=>rw[ha] at hx';exact ybq j ht hx' (y3a ha ho)
   .rename_i E c l ho;cases hb:zn.isSl1 N.P ts with
    |false=>rw[hb] at h;cases h
    |true=>
     rw[hb] at h;obtain⟨t,rfl,ht⟩:=zf8 hb;refine⟨_,h,λhc dst pos after guard=>?_⟩;have hx':=evO2 (A:=A) (P:=N.P) hkn hc hx;simp only[SV.den] at hx';cases ha:A[j]? with
     |none=>rw[ha] at hx';exact z5p N.P hx'
     |some q=>rw[ha] at hx';exact yeb j ht hx' (zsw V N.P ha ho)
   .rename_i kc vc m ho;cases hb:zn.isMp1 N.P ts with
    |false=>rw[hb] at h;cases h
    |true=>
     rw[hb] at h;obtain⟨t,kt,et,rfl,ht⟩:=zxm hb;refine⟨_,h,λhc dst pos after guard=>?_⟩;have hx':=evO2 (A:=A) (P:=N.P) hkn hc hx;simp only[SV.den] at hx';cases ha:A[j]? with
     |none=>rw[ha] at hx';exact z5p N.P hx'
     |some q=>rw[ha] at hx';exact zox ha ho λhq _=>ye3 j ht (zxt ha ho) (by rw[<- hq];exact hx')
   .cases h
  .rename_i kc vc m hx;cases hb:zn.isMp1 N.P ts with
   |false=>rw[hb] at h;cases h
   |true=>rw[hb] at h;obtain⟨t,kt,et,rfl,ht⟩:=zxm hb;refine⟨_,h,λhc dst pos after guard=>?_⟩;have hx':=evO2 (A:=A) (P:=N.P) hkn hc hx;simp only[SV.den,zzb] at hx';exact yby ht hx'
  .rename_i hx;cases hb:zn.isSl1 N.P ts with
   |false=>rw[hb] at h;cases h
   |true=>rw[hb] at h;obtain⟨t,rfl,ht⟩:=zf8 hb;exact⟨_,h,λhc dst pos after guard=>y7t ht (evO2 hkn hc hx)⟩
  .rename_i b hx;cases hb:zn.isStr1 N.P ts with
   |false=>rw[hb] at h;cases h
   |true=>rw[hb] at h;obtain⟨t,rfl,ht⟩:=y2e hb;exact⟨_,h,λhc dst pos after guard=>yee ht (evO2 hkn hc hx)⟩
  .cases h
 .-- cap
  rename_i x hargs;have ha:args = #[x]:=by cases args;simp at hargs;rw[hargs]
  subst ha;split at h
  .rename_i hx;cases hb:zn.isSl1 N.P ts with
   |false=>rw[hb] at h;cases h
   |true=>rw[hb] at h;obtain⟨t,rfl,ht⟩:=zf8 hb;exact⟨_,h,λhc dst pos after guard=>y7n ht (evO2 hkn hc hx)⟩
  .cases h
 .-- min
  rename_i x xs hargs;have ha:args =⟨x::xs⟩:=by cases args;simp at hargs;rw[hargs]
  subst ha;split at h
  .rename_i i m hx;split at h
   .rename_i ns hns;exact⟨_,h,λhc dst pos after guard=>yfr (evO2 hkn hc (z05 hx)) (zvd hc hkn hns)⟩
   .cases h
  .cases h
 .-- max
  rename_i x xs hargs;have ha:args =⟨x::xs⟩:=by cases args;simp at hargs;rw[hargs]
  subst ha;split at h
  .rename_i i m hx;split at h
   .rename_i ns hns;exact⟨_,h,λhc dst pos after guard=>yfq (evO2 hkn hc (z05 hx)) (zvd hc hkn hns)⟩
   .cases h
  .cases h
 .-- a function with a contract
  rename_i f;split at h
  .rename_i sp hsp;exact zzj hN hkn hsp h
  .cases h
 .-- a function value
  rename_i t as' hargs;split at h
  .rename_i c f hf;split at h
   .rename_i x y hxy;have ha:args = #[x,y]:=by cases args;simp at hxy;rw[hxy]
    subst ha;split at h
    .rename_i a b ha hb;obtain⟨z,hz,hk⟩:=zpq h;refine⟨_,hk,λhc dst pos after guard=>?_⟩;cases hx:evO s.sl (cur++s.kn) x with
     |none=>rw[hx] at ha;cases ha
     |some vx=>
      cases hy:evO s.sl (cur++s.kn) y with
      |none=>rw[hy] at hb;cases hb
      |some vy=>rw[hx] at ha;rw[hy] at hb;exact yc4 (evO2 hkn hc hf) (Ev.ent' (evO2 hkn hc hx) (z6h V N.P ha)) (Ev.ent' (evO2 hkn hc hy) (z6h V N.P hb)) (hz hc)
    .cases h
   .cases h
  .rename_i f caps hf;split at h
   .rename_i sp hsp;exact y45 hN hkn hsp hf h
   .cases h
  .cases h
 .cases h
theorem zxo{kc vc:Nat}{m:List (V.T kc×V.T vc)}{key:V.T kc}{ok:Bool}{z:Value}{k:SV V.T->Option R}(h:y72 V kc vc m key ok z k=some r):V.zok vc z=true/\
  k (bif ok then .tup [V.encV vc ((cget (V.kl kc) m key).getD (V.z vc)),.bool (cget (V.kl kc) m key).isSome] else V.encV vc ((cget (V.kl kc) m key).getD (V.z vc)))=some r:=by
 unfold y72 at h;cases hb:V.zok vc z with
 |false=>rw[hb] at h;cases h
 |true=>rw[hb] at h;exact⟨rfl,h⟩
theorem yf3{vc:Nat}{z:Value}(hs:zaw (V.d vc)=true)(h:V.zok vc z=true):z=V.kv vc (V.z vc):=by have h1:=zwh (V:=V) h (λ_=>True) default z rfl;rw[y55 V hs] at h1;exact h1
theorem y2m[Dr](hkn:chP s.gb s.kn){t:TypeId}{x i:Operand}{ok:Bool}{ty:TypeId}{k:SV V.T->Option R}(h:zn V N s cur (.lookup t x i ok) ty k=some r):∃v,k v=some r/\QOK V N.P C A s cur (.lookup t x i ok) ty v:=by
 simp only[zn] at h;split at h
 .rename_i j y hx hi;split at h
  .rename_i kc vc E m hh ho;split at h
   .rename_i et key hm hd;obtain⟨kt,ht,hk⟩:=zvh hm;split at h
    .rename_i z hz;have hget:chP s.gb cur->Ev (s.st V N.P A) x ((SV.own j:SV V.T).den V N.P A):=λhc=>evO2 (A:=A) (P:=N.P) hkn hc hx
     have hkey:chP s.gb cur->Ev (s.st V N.P A) i (eqv (V.kv kc key)):=λhc=>((evO2 (A:=A) (P:=N.P) hkn hc hi).ent' (z6h V N.P hd)).ent' (y53 hk)
     cases hh with
     |some p=>
      obtain⟨q,jj⟩:=p;simp only at h;cases ok with
      |true=>cases h
      |false=>
       simp only[cond_false] at h;obtain⟨hq,hk2⟩:=z4e h;refine⟨_,hk2,λhc dst pos after guard=>?_⟩;have hx':=hget hc;have hi':=hkey hc;simp only[SV.den] at hx'⊢;cases ha:A[j]? with
       |none=>rw[ha] at hx';exact z5p N.P hx'
       |some p=>
        rw[ha] at hx';refine zox ha ho λhp hs=>?_
        obtain⟨p2,hp2⟩:=w11.1 (hs _ _ rfl);rw[hp2];have hm2:=zxt (P:=N.P) ha ho;simp only[zav,hp2] at hm2;exact zze j (zeg hk) ht hm2 (hq hc) (by rw[<- hp];exact hx') hi'
     |none=>
      simp only at h;cases hsc:zaw (V.d vc) with
      |true=>
       rw[hsc] at h;simp only[cond_true] at h;obtain⟨hzo,h2⟩:=zxo h;have hzk:=yf3 hsc hzo;subst hzk;refine⟨_,h2,λhc dst pos after guard=>?_⟩;have hx':=hget hc;have hi':=hkey hc;simp only[SV.den] at hx';cases ha:A[j]? with
       |none=>rw[ha] at hx';exact z5p N.P hx'
       |some p=>
        rw[ha] at hx';refine zox ha ho λhp _=>?_
        have hm2:=zxt (P:=N.P) ha ho;rw[zta hsc] at hm2;cases ok with
        |false=>simp only[cond_false,z43,y55 V hsc];exact y3e j (zeg hk) ht hz hm2 (by rw[<- hp];exact hx') hi'
        |true=>simp only[cond_true,SV.den,denV,z43,y55 V hsc];exact zzd j (zeg hk) ht hz hm2 (by rw[<- hp];exact hx') hi'
      |false=>
       rw[hsc] at h;simp only[cond_false] at h;cases ok with
       |true=>cases h
       |false=>
        simp only[cond_false] at h;obtain⟨hq,hk2⟩:=z4e h;refine⟨_,hk2,λhc dst pos after guard=>?_⟩;have hx':=hget hc;have hi':=hkey hc;simp only[SV.den] at hx'⊢;cases ha:A[j]? with
        |none=>rw[ha] at hx';exact z5p N.P hx'
        |some p=>
         rw[ha] at hx';refine zox ha ho λhp _=>?_
         exact zzf j (zeg hk) ht hz (zxt ha ho) (by simpa using hq hc) (by rw[<- hp];exact hx') hi'
    .cases h
   .cases h
  .cases h
 .rename_i kc vc m y hx hi;split at h
  .rename_i et key hm hd;obtain⟨kt,ht,hk⟩:=zvh hm;split at h
   .rename_i z hz;obtain⟨hzo,h⟩:=zxo h;refine⟨_,h,λhc dst pos after guard=>?_⟩;have hx':=evO2 (A:=A) (P:=N.P) hkn hc hx;have hi':=((evO2 (A:=A) (P:=N.P) hkn hc hi).ent' (z6h V N.P hd)).ent' (y53 hk);simp only[SV.den,zzb] at hx';cases ok with
    |false=>simp only[cond_false,z43];exact y7g (E:=λy=>V.vl vc y) (zeg hk) ht hz (zwh hzo) hx' hi'
    |true=>simp only[cond_true,SV.den,denV,z43];exact y3d (E:=λy=>V.vl vc y) (zeg hk) ht hz (zwh hzo) hx' hi'
   .cases h
  .cases h
 .cases h
theorem y6d[Dr](hkn:chP s.gb s.kn){x:Operand}{ty:TypeId}{k:SV V.T->Option R}(h:zn V N s cur (.entry x) ty k=some r):∃v,k v=some r/\QOK V N.P C A s cur (.entry x) ty v:=by
 simp only[zn] at h;split at h
 .rename_i j hx;split at h
  .rename_i kc vc rem e ho;cases hk:V.key kc with
   |false=>rw[hk] at h;cases h
   |true=>
    rw[hk] at h;refine⟨_,h,λhc dst pos after guard=>?_⟩;have hx':=evO2 (A:=A) (P:=N.P) hkn hc hx;simp only[SV.den] at hx';cases ha:A[j]? with
    |none=>rw[ha] at hx';exact z5p N.P hx'
    |some q=>
     rw[ha] at hx';have hob:=zt V N.P (A:=A) (ps:=A) ha ho;have hgo:∀{o:Oper}{K:VP->List HP->Prop},(q.2 = .pointer (some ⟨q.1,0,none⟩)->OpT C o (s.st V N.P A) K)->OpT C o (s.st V N.P A) K:=λh a w ro S Q hd hn hw hs=>h (hw.obj j _ hob).1 a w ro S Q hd hn hw hs
     refine hgo λhq=>?_
     simp only[SV.den,denV,z43];exact y7e (eK:=V.kv kc) (E:=λy=>V.vl vc y) j (y9h hk e.1).2 ⟨_,hob,λ_ _ _ h=>h.2⟩ (show Ev (s.st V N.P A) x (eqv (.pointer (some ⟨q.1,0,none⟩))) by rw[<- hq];exact hx')
  .cases h
 .cases h
theorem zj2[Dr](hkn:chP s.gb s.kn)(hc:chP s.gb cur){d:Nat}{o:Option Operand}{m:Int}(h:bdX V s.sl (cur++s.kn) (d:Int) o=some m)(h0:0<=m):BdE (s.st V N.P A) o m.toNat d:=by
 cases o with
 |none=>have:=w0f h;show m.toNat=d;omega
 |some o=>
  simp only[bdX] at h;split at h
  .rename_i k q hq;have h:=w0f h;subst h;have:=evO2 (A:=A) (P:=N.P) hkn hc (z05 hq);simp only[SV.den] at this;refine⟨k,?_⟩;rw[w3k h0];exact this
  .cases h
theorem y8m[Dr](hkn:chP s.gb s.kn){t:TypeId}{x:Operand}{lo hi mx:Option Operand}{ty:TypeId}{k:SV V.T->Option R}(h:zn V N s cur (.slice t x lo hi mx) ty k=some r):∃v,k v=some r/\QOK V N.P C A s cur (.slice t x lo hi mx) ty v:=by
 cases mx with
 |some o=>cases h
 |none=>
 simp only[zn] at h;split at h
 .rename_i n0 e c l ht hx;have hn:=y4r ht;subst hn;split at h
  .rename_i m n hm hn;cases hb:Nat.beq e (V.sz c) with
   |false=>rw[hb] at h;cases h
   |true=>rw[hb] at h;have he:=w01 hb;subst he;obtain⟨hck,hk⟩:=z4e h;refine⟨_,hk,λhc dst pos after guard=>?_⟩;obtain⟨q1,q2,q3⟩:=hck hc;have hx':=evO2 (A:=A) (P:=N.P) hkn hc hx;simp only[SV.den] at hx'⊢;exact y7x ht hx' (zj2 hkn hc (d:=0) hm q1) (zj2 hkn hc hn (by omega)) (by omega) (by omega)
  .cases h
 .rename_i n0 e j ht hx;have hn:=y4r ht;subst hn;split at h
  .rename_i E c l ho;split at h
   .rename_i m n hm hn;cases hb:Nat.beq e (V.sz c) with
    |false=>rw[hb] at h;cases h
    |true=>
     rw[hb] at h;have he:=w01 hb;subst he;obtain⟨hck,hk⟩:=z4e h;refine⟨_,hk,λhc dst pos after guard=>?_⟩;obtain⟨q1,q2,q3⟩:=hck hc;have hx':=evO2 (A:=A) (P:=N.P) hkn hc hx;simp only[SV.den] at hx'⊢;cases ha:A[j]? with
     |none=>rw[ha] at hx';exact z5p N.P hx'
     |some p=>rw[ha] at hx';exact y7w j ht hx' (zt V N.P ha ho) (zj2 hkn hc (d:=0) hm q1) (zj2 hkn hc hn (by omega)) (by omega) (by omega)
   .cases h
  .cases h
 .rename_i n0 e ht hx;have hn:=y4r ht;subst hn;split at h
  .rename_i m n hm hn;obtain⟨hck,hk⟩:=z4e h;refine⟨_,hk,λhc dst pos after guard=>?_⟩;obtain⟨rfl,rfl⟩:=hck hc;have hx':=evO2 (A:=A) (P:=N.P) hkn hc hx;simp only[SV.den] at hx'⊢;exact y7v ht hx' (zj2 hkn hc (d:=0) hm (w1i 0)) (zj2 hkn hc (d:=0) hn (w1i 0))
  .cases h
 .rename_i n' e n c f l ht hx;split at h
  .cases hb :(Nat.beq n n'&&Nat.beq e (V.sz c)) with
   |false=>rw[hb] at h;cases h
   |true=>rw[hb] at h;simp only[w02] at hb;have e1:=w01 hb.1;have e2:=w01 hb.2;subst e1;subst e2;refine⟨_,h,λhc dst pos after guard=>?_⟩;have hx':=evO2 (A:=A) (P:=N.P) hkn hc hx;simp only[SV.den] at hx'⊢;exact y3s ht (V.ev_len c) hx'
  .cases h
 .rename_i b ht hx;split at h
  .rename_i hu;split at h
   .rename_i m n hm hn;obtain⟨hck,hk⟩:=z4e h;refine⟨_,hk,λhc dst pos after guard=>?_⟩;obtain⟨q1,q2,q3⟩:=hck hc;have hx':=evO2 (A:=A) (P:=N.P) hkn hc hx;simp only[SV.den] at hx'⊢;exact y7y hu hx' (zj2 hkn hc (d:=0) hm q1) (zj2 hkn hc hn (by omega)) (by omega) (by omega)
   .cases h
  .cases h
 .cases h
theorem ye4{T:Nat->Type}(g :(c:Nat)->T c->List VP)(M :(kc vc:Nat)->List (T kc×T vc)->VP)(sz:Nat->Nat){α:Type}(d:Ds T α){l:List Int}{l':List α}(h:ofI d l=some l'):Px.ro (evD g M sz d) (szD sz d) l'=Px.ro (λn:Int=>[iv .u8 n]) 1 l:=by
 cases d with
 |int k=>cases k<;>simp only[ofI,w00,reduceCtorEq] at h;subst h;rfl
 |_=>simp[ofI] at h
theorem ybz{V:TE}{c:Nat}{l:List Int}{l':List (V.T c)}(h:ofI (V.d c) l=some l'):Px.ro (V.ev c) (V.sz c) l'=Px.ro (λn:Int=>[iv .u8 n]) 1 l:=by rw[show V.ev c=evD V.ev (V.mv V.ev) V.sz (V.d c) from funext λx=>V.ev_eq c x,V.sz_eq];exact ye4 _ _ _ _ h
theorem zd3[Dr](hN:z5f V N)(hkn:chP s.gb s.kn)(hgb:GbOK s.toFm)(h1:OneA V A s.ob){o:Op}{ty:TypeId}{k:SV V.T->Option R}(h:zn V N s cur o ty k=some r):∃v,k v=some r/\QOK V N.P C A s cur o ty v:=by
 cases o with
 |move x=>
  simp only[zn] at h;split at h
  .rename_i v hv;exact⟨v,h,λhc dst pos after guard=>yef (evO2 hkn hc hv)⟩
  .cases h
 |assign x=>
  simp only[zn] at h;split at h
  .rename_i v hv;exact⟨v,h,λhc dst pos after guard=>y7k (evO2 hkn hc hv)⟩
  .cases h
 |pick c x y=>exact y82 hkn hgb h
 |binOp op t x y t'=>
  simp only[zn] at h;split at h
  .rename_i a b ha hb;exact ya9 h (λhc=>evO2 hkn hc ha) (λhc=>evO2 hkn hc hb)
  .cases h
 |unOp op t x=>
  cases op with
  |not=>
   simp only[zn] at h;split at h
   .rename_i b hb;exact⟨_,h,λhc dst pos after guard=>yfw (evO2 hkn hc (z9x hb))⟩
   .cases h
  |neg=>
   simp only[zn] at h;split at h
   .rename_i i m hb;exact⟨_,h,λhc dst pos after guard=>yfu (evO2 hkn hc (z05 hb))⟩
   .cases h
  |xor=>
   simp only[zn] at h;split at h
   .rename_i i m hb;exact⟨_,h,λhc dst pos after guard=>yej (evO2 hkn hc (z05 hb))⟩
   .cases h
  |plus=>simp[zn] at h
 |convert src d x=>
  simp only[zn] at h;split at h
  .rename_i i q m hd hx;cases hb :(N.P.underlying src).isSome with
   |false=>rw[hb] at h;cases h
   |true=>rw[hb] at h;exact⟨_,h,λhc dst pos after guard=>ye9 hb hd (evO2 hkn hc (z05 hx))⟩
  .rename_i E q hd;split at h
   .rename_i b he hs hx;split at h
    .rename_i l hl;refine⟨_,h,λhc dst pos after guard=>?_⟩;have hx':=evO2 (A:=A) (P:=N.P) hkn hc hx;simp only[SV.den] at hx'⊢;rw[ybz hl];exact yc2 hs hd he hx'
    .cases h
   .cases h
  .cases h
 |load t x=>
  simp only[zn] at h;split at h
  .rename_i g n p ht hx;split at h
   .rename_i m q j hh;cases hb :(!g&&Nat.beq n 1) with
    |false=>rw[hb] at h;cases h
    |true=>rw[hb] at h;obtain⟨hck,hk⟩:=z4e h;refine⟨_,hk,λhc dst pos after guard=>?_⟩;simp only[w02,w0w] at hb;obtain⟨rfl,hn⟩:=hb;have hn:=w01 hn;subst hn;exact yb8 hh ht (hck hc) (evO2 hkn hc hx)
   .split at h
    .rename_i v hv;exact⟨v,h,λhc dst pos after guard=>yff V N.P ht hv (evO2 hkn hc hx)⟩
    .cases h
  .cases h
 |fieldAddr t x f=>exact y6f hkn h
 |indexAddr t x i=>exact y24 hkn h
 |slice t x lo hi mx=>exact y8m hkn h
 |index t x i=>exact y6u hkn h
 |lookup t x i ok=>exact y2m hkn h
 |entry x=>exact y6d hkn h
 |extract x i=>
  simp only[zn] at h;split at h
  .rename_i l hx;split at h
   .rename_i v hv;refine⟨v,h,λhc dst pos after guard=>y3m (xs:=denV V N.P A l) (evO2 hkn hc hx) ?_⟩;have key:∀(l:List (SV V.T))(i:Nat),l[i]? = some v->(denV V N.P A l)[i]? = some (v.den V N.P A):=by
     intro l
     induction l with
     |nil=>intro i h;simp at h
     |cons y l ih=>
      intro i h;cases i with
      |zero=>simp at h;subst h;rfl
      |succ i=>simp at h;simpa[denV] using ih i h
    exact key l i hv
   .cases h
  .cases h
 |buildSlice t n parts=>
  simp only[zn] at h;split at h
  .rename_i E z by' ht;split at h
   .rename_i l hel;cases hb :(Nat.beq z (V.sz (V.code E))&&Nat.beq l.length n&&Nat.ble (n*z) 16777216) with
    |false=>rw[hb] at h;cases h
    |true=>rw[hb] at h;simp only[w02] at hb;have e1:=w01 hb.1.1;have e2:=w01 hb.1.2;have e3:=w0u hb.2;subst e1;simp only[cond_true] at h;refine⟨_,h,λhc dst pos after guard=>?_⟩;simp only[SV.den];exact y3k l ht (V.ev_len _) e2 e3 (zpz (z48 hc hkn) hel)
   .cases h
  .cases h
 |build t parts=>
  simp only[zn] at h;split at h
  .rename_i zs hz;cases hb :(zdn V (V.zero (V.code t)) zs&&zjr N.P t) with
   |false=>
    rw[hb] at h;simp only[cond_false] at h;cases hb2 :(zs.all (·.oneCell')&&zjr N.P t) with
    |false=>rw[hb2] at h;cases h
    |true=>
     rw[hb2] at h;simp only[w02] at hb2;simp only[cond_true] at h;split at h
     .rename_i cs hl;refine⟨_,h,λhc dst pos after guard=>?_⟩;have e1:=zvx V N.P (A:=A) zs;obtain⟨qs,hp,hlay⟩:=zvi V N.P h1 (z48 hc hkn) hl;have hlen:=zcj V N.P (A:=A) (zs.map zqz);rw[e1,w1c] at hlen;simp only[SV.den];rw[e1] at hlay;exact y3j zs qs hz hb2.1 hb2.2 (hlen ▸ hp) hlay
     .cases h
   |true=>
    rw[hb] at h;simp only[w02] at hb;simp only[cond_true] at h;split at h
    .rename_i cs hl;refine⟨_,h,λhc dst pos after guard=>?_⟩;obtain⟨e1,e2⟩:=zey V N.P (A:=A) hb.1;obtain⟨qs,hp,hlay⟩:=zvi V N.P h1 (z48 hc hkn) hl;have hlen:=zcj V N.P (A:=A) (fixZ V (V.zero (V.code t)));rw[e1,w1c] at hlen;simp only[SV.den];rw[e1] at hlay;exact y3j zs qs hz e2 hb.2 (hlen ▸ hp) hlay
    .cases h
  .cases h
 |nilCheck x=>
  simp only[zn] at h;split at h
  .rename_i i o hx;refine⟨_,h,λhc dst pos after guard=>?_⟩;have hx':=evO2 (A:=A) (P:=N.P) hkn hc hx;simp only[SV.den] at hx'⊢;cases ha:A[i]? with
   |none=>rw[ha] at hx';exact z5p N.P hx'
   |some q=>rw[ha] at hx';exact zzh hx'
  .cases h
 |makeFunc fn first caps=>
  cases fn with
  |func f=>
   simp only[zn] at h;cases hb:first.isEmpty with
   |false=>rw[hb] at h;cases h
   |true=>
    rw[hb] at h;simp only[cond_true] at h;split at h
    .rename_i l hl;exact⟨_,h,λhc dst pos after guard=>y3r hb (y0m hc hkn hl)⟩
    .cases h
  |_=>simp[zn] at h
 |call c=>exact yab hN hkn h
 |_=>simp[zn] at h
end
end Px
end
section
namespace Px
open Go Go.RowKit
def AExt(A B:Asg):Prop:=∀(i:Nat)(p:Nat×Value),A[i]? = some p->B[i]? = some p
theorem AExt.refl(A:Asg):AExt A A:=λ_ _ h=>h
theorem AExt.app(A B:Asg):AExt A (A++B):=λi p h=>by rw[w0j (w04.1 h).1];exact h
section
variable(V:TE)(P:Program)
theorem zum(l:List VP):F2 Ent l l:=F2.refl (λ_=>Ent.refl) l
theorem zoh{R:VP->VP->Prop}: ∀{a b:List VP},F2 R a b->a.length=b.length/\∀(i:Nat)(B:VP),b[i]? = some B->∃A,a[i]? = some A/\R A B
 | [],[],_=>⟨rfl,λi B h=>by simp at h⟩
 |x::a,y::b,h=>by
  obtain⟨h1,h2⟩:=zoh h.2;refine⟨by simp[h1],λi B hB=>?_⟩;cases i with
  |zero=>simp at hB;subst hB;exact⟨x,rfl,h.1⟩
  |succ i=>simpa using h2 i B (by simpa using hB)
 | [],_::_,h=>h.elim
 |_::_,[],h=>h.elim
theorem y4y{a b:List VP}(h:F2 Ent a b):Ent (tupv a) (tupv b):=by rintro r w v ⟨vs,e,hl,hh⟩;obtain⟨h1,h2⟩:=zoh h;refine⟨vs,e,by rw[hl,h1],λi B hB=>?_⟩;obtain⟨A,hA,hAB⟩:=h2 i B hB;exact hAB _ _ _ (hh i A hA)
theorem y1l{f:Nat}{a b:List VP}(h:F2 Ent a b):Ent (fnc f a) (fnc f b):=by rintro r w v ⟨vs,e,hl,hh⟩;obtain⟨h1,h2⟩:=zoh h;refine⟨vs,e,by rw[hl,h1],λi B hB=>?_⟩;obtain⟨A,hA,hAB⟩:=h2 i B hB;exact hAB _ _ _ (hh i A hA)
theorem y48{a b:List VP}(h:F2 Ent a b):Ent (rop a) (rop b):=by rintro r w v ⟨bl,o,e,hr,hh⟩;obtain⟨h1,h2⟩:=zoh h;refine⟨bl,o,e,hr,λj B hB=>?_⟩;obtain⟨A,hA,hAB⟩:=h2 j B hB;obtain⟨u,h3,h4,h5⟩:=hh j A hA;exact⟨u,h3,hAB _ _ _ h4,h5⟩
theorem zhm{r:Nat->Prop}{w:World}{a b:List VP}{vs:List Value}(h:F2 Ent a b)(k:zo r w a vs):zo r w b vs:=by obtain⟨h1,h2⟩:=zoh h;refine⟨by rw[<- h1];exact k.1,λj B hB=>?_⟩;obtain⟨A,hA,hAB⟩:=h2 j B hB;obtain⟨u,h3,h4,h5⟩:=k.2 j A hA;exact⟨u,h3,hAB _ _ _ h4,h5⟩
mutual
theorem z21[Dr]{A B:Asg}(h:AExt A B):∀(x:SV V.T),Ent (x.den V P A) (x.den V P B)
 | .int k n=>by simp only[SV.den];exact Ent.refl
 | .bool b=>by simp only[SV.den];exact Ent.refl
 | .str s=>by simp only[SV.den];exact Ent.refl
 | .val v=>by simp only[SV.den];exact Ent.refl
 | .arr n c f=>by simp only[SV.den];exact Ent.refl
 | .agg cs=>by simp only[SV.den];exact Ent.agg (z0m h cs).ents
 | .tup xs=>by simp only[SV.den];exact y4y (zgh h xs)
 | .ro c l=>by simp only[SV.den];exact Ent.refl
 | .rop cs=>by simp only[SV.den];exact y48 (z0m h cs)
 | .ptr i off=>by
  simp only[SV.den];cases ha:A[i]? with
  |none=>exact λ_ _ _ hv=>hv.elim
  |some p=>rw[h i p ha];exact Ent.refl
 | .own i=>by
  simp only[SV.den];cases ha:A[i]? with
  |none=>exact λ_ _ _ hv=>hv.elim
  |some p=>rw[h i p ha];exact Ent.refl
 | .elt i k z fo=>by
  simp only[SV.den];cases ha:A[i]? with
  |none=>exact λ_ _ _ hv=>hv.elim
  |some p=>rw[h i p ha];exact Ent.refl
 | .pta i off n z idx cnt fo=>by
  simp only[SV.den];cases ha:A[i]? with
  |none=>exact λ_ _ _ hv=>hv.elim
  |some p=>rw[h i p ha];exact Ent.refl
 | .prt i lo hi z=>by
  simp only[SV.den];cases ha:A[i]? with
  |none=>exact λ_ _ _ hv=>hv.elim
  |some p=>rw[h i p ha];exact Ent.refl
 | .und=>by simp only[SV.den];exact Ent.refl
 | .func f caps=>by simp only[SV.den];exact y1l (zgh h caps)
 | .rom kc vc m=>by simp only[SV.den];exact Ent.refl
 | .cmp c f=>by simp only[SV.den];exact Ent.refl
 | .top=>by simp only[SV.den];exact Ent.refl
theorem z0m[Dr]{A B:Asg}(h:AExt A B):∀(l:List (SV V.T)),F2 Ent (denL V P A l) (denL V P B l)
 | []=>trivial
 | .arr n c f::l=>by simp only[denL];exact(zum _).append (z0m h l)
 | .int k n::l=>by simp only[denL];exact⟨z21 h (.int k n),z0m h l⟩
 | .bool b::l=>by simp only[denL];exact⟨z21 h (.bool b),z0m h l⟩
 | .str b::l=>by simp only[denL];exact⟨z21 h (.str b),z0m h l⟩
 | .val b::l=>by simp only[denL];exact⟨z21 h (.val b),z0m h l⟩
 | .agg b::l=>by simp only[denL];exact⟨z21 h (.agg b),z0m h l⟩
 | .tup b::l=>by simp only[denL];exact⟨z21 h (.tup b),z0m h l⟩
 | .ro c b::l=>by simp only[denL];exact⟨z21 h (.ro c b),z0m h l⟩
 | .rop b::l=>by simp only[denL];exact⟨z21 h (.rop b),z0m h l⟩
 | .ptr i o::l=>by simp only[denL];exact⟨z21 h (.ptr i o),z0m h l⟩
 | .own i::l=>by simp only[denL];exact⟨z21 h (.own i),z0m h l⟩
 | .elt i k z fo::l=>by simp only[denL];exact⟨z21 h (.elt i k z fo),z0m h l⟩
 | .pta i o n z x c fo::l=>by simp only[denL];exact⟨z21 h (.pta i o n z x c fo),z0m h l⟩
 | .prt i lo hi z::l=>by simp only[denL];exact⟨z21 h (.prt i lo hi z),z0m h l⟩
 | .und::l=>by simp only[denL];exact⟨z21 h .und,z0m h l⟩
 | .func f caps::l=>by simp only[denL];exact⟨z21 h (.func f caps),z0m h l⟩
 | .rom a b m::l=>by simp only[denL];exact⟨z21 h (.rom a b m),z0m h l⟩
 | .cmp c f::l=>by simp only[denL];exact⟨z21 h (.cmp c f),z0m h l⟩
 | .top::l=>by simp only[denL];exact⟨z21 h .top,z0m h l⟩
theorem zgh[Dr]{A B:Asg}(h:AExt A B):∀(l:List (SV V.T)),F2 Ent (denV V P A l) (denV V P B l)
 | []=>trivial
 |x::l=>by simp only[denV];exact⟨z21 h x,zgh h l⟩
end
theorem yam{c:Prop}{x y:VP}(h:Ent x y):Ent (cnd c x) (cnd c y):=λr w v hv=>⟨λhc=>h _ _ _ (hv.1 hc),hv.2⟩
theorem zle[Dr]{A B:Asg}(h:AExt A B){gb:List (Nat×Bool)}(e:Ch×SV V.T):Ent (denE V P A gb e) (denE V P B gb e):=by
 unfold denE;obtain⟨ch,x⟩:=e;cases ch with
 |nil=>exact z21 V P h x
 |cons a l=>exact yam (z21 V P h x)
theorem zdd[Dr]{A B:Asg}(h:AExt A B){gb:List (Nat×Bool)}{sl:Sls V.T}{a:Act}{ro:Nat->Prop}{w:World}(hs:zj (slD V P A gb sl) a ro w):zj (slD V P B gb sl) a ro w:=by
 intro t X ht;simp only[slD] at ht;cases hl:lk sl t with
 |none=>rw[hl] at ht;cases ht
 |some e=>rw[hl] at ht;simp only[w0r,w00] at ht;subst ht;exact zle V P h e _ _ _ (hs t _ (by simp[slD,hl]))
def ObW[Dr](objs O:List HP):Prop:=∀w0 base r S w,WInv w0 base objs r S w->∃S',WInv w0 base O r S' w
theorem ObW.refl[Dr]{O:List HP}: ObW O O:=λ_ _ _ S _ h=>⟨S,h⟩
theorem ObW.trans[Dr]{a b c:List HP}(h:ObW a b)(k:ObW b c):ObW a c:=λw0 base r S w hw=>let ⟨S',h'⟩:=h w0 base r S w hw;k w0 base r S' w h'
theorem ObW.le[Dr]{a b:List HP}(h:z5c a b):ObW a b:=λ_ _ _ _ _ hw=>⟨_,hw.le h⟩
theorem zfx:∀(l:List HP),z5c l l
 | []=>trivial
 |_::l=>⟨EntH.refl,zfx l⟩
theorem zi8{H H2:HP}(h:EntH H H2):∀(l:List HP)(i:Nat),z5c (l.set i H) (l.set i H2)
 | [],_=>trivial
 |_::l,0=>⟨h,zfx l⟩
 |_::l,i+1=>⟨EntH.refl,zi8 h l i⟩
theorem zfw:∀{l m:List HP},z5c l m->∀(i:Nat)(H:HP),z5c (l.set i H) (m.set i H)
 |l,[],_,i,H=>by simp[z5c]
 |_::l,_::m,h,0,H=>⟨EntH.refl,h.2⟩
 |_::l,_::m,h,i+1,H=>⟨h.1,zfw h.2 i H⟩
 | [],_::_,h,_,_=>h.elim
theorem zyb:∀{l:List HP}{i:Nat}{H:HP},l[i]? = some H->l.set i H=l
 |_::_,0,_,h=>by simp at h;subst h;rfl
 |_::l,i+1,_,h=>by simp only[w48];rw[zyb (by simpa using h)]
 | [],_,_,h=>by simp at h
theorem ObW.set'[Dr]{objs:List HP}{i:Nat}{H H2:HP}(ho:objs[i]? = some H)(h:EntH H H2):ObW objs (objs.set i H2):=by have h1:=zi8 h objs i;rw[zyb ho] at h1;exact ObW.le h1
theorem OpT.weak[Dr]{P:Program}{C:Cx P}{o:Oper}{s s':St}{K:VP->List HP->Prop}(hs:∀a ro w,zj s.slots a ro w->zj s'.slots a ro w)(ho:ObW s.objs s'.objs)(h:OpT C o s' K):OpT C o s K:=by intro a w ro S Q hd hn hw hsl;obtain⟨S',hw'⟩:=ho _ _ _ _ _ hw;exact h a w ro S' Q hd hn hw' (hs a ro w hsl)
theorem ObW.mv[Dr]{objs:List HP}{i:Nat}{H:HP}(hi:objs[i]? = some H):ObW objs (objs.set i emp++[H]):=by
 intro w0 base r S w h;have hlt:i<objs.length:=(w04.1 hi).1;refine⟨λk b=>(k=objs.length/\S i b)\/(k<objs.length/\k≠i/\S k b),h.below,h.size,?_,?_,?_,h.old⟩
 .intro k K hk;by_cases hk1:k<objs.length
  .rw[w0j (by simpa using hk1)] at hk;by_cases e:k=i
   .subst e;rw[w2p hk1] at hk;simp only[w00] at hk;subst hk;trivial
   .rw[w24 (λh=>e h.symm)] at hk;have :(λb=>(k=objs.length/\S i b)\/(k<objs.length/\k≠i/\S k b))=S k:=by
     funext b;have:¬k=objs.length:=by omega
     simp[this,hk1,e]
    rw[this];exact h.obj k K hk
  .rw[w0z (by simpa using hk1)] at hk;have e:k=objs.length:=by have:=(w04.1 hk).1;simp at this;omega
   subst e;simp at hk;subst hk;have :(λb=>(objs.length=objs.length/\S i b)\/(objs.length<objs.length/\objs.length≠i/\S objs.length b))=S i:=by funext b;simp
   rw[this];exact h.obj i _ hi
 .rintro k b (⟨rfl,hb⟩|⟨hk,_,hb⟩)
  .obtain⟨_,h2,h3,h4⟩:=h.own i b hb;exact⟨by simp,h2,h3,h4⟩
  .obtain⟨_,h2,h3,h4⟩:=h.own k b hb;exact⟨by simp;omega,h2,h3,h4⟩
 .rintro k l b (⟨rfl,hb⟩|⟨hk,hk',hb⟩) (⟨rfl,hc⟩|⟨hl,hl',hc⟩)
  .rfl
  .exact absurd (h.apart l i b hc hb) hl'
  .exact absurd (h.apart k i b hb hc) hk'
  .exact h.apart k l b hb hc
theorem yb9[Dr]{A B:Asg}(h:AExt A B)(p:Nat×Value)(o:SO V.T):EntH (o.den V P A p) (o.den V P B p):=by
 cases o with
 |box t cs=>exact λS r w ⟨hS,cur,hc,hh⟩=>⟨hS,cur,hc,zhm (z0m V P h cs) hh⟩
 |row E c l=>exact EntH.refl
 |x o=>
  cases o with
  |map kc vc E m hh=>
   rintro S r w ⟨hp,hn⟩;have e:zav A hh=zav B hh:=by
    cases hh with
    |none=>rfl
    |some kj=>obtain⟨q,hq⟩:=w11.1 (hp.2 _ _ rfl);simp only[zav,hq,h _ _ hq]
   refine⟨⟨hp.1,λk j e2=>?_⟩,by rw[<- e];exact hn⟩;obtain⟨q,hq⟩:=w11.1 (hp.2 k j e2);rw[h _ _ hq];rfl
  |it kc vc rem cur=>exact EntH.refl
  |fix E c l=>exact EntH.refl
  |nst E E2 c l hh=>
   rintro S r w ⟨hp,hn⟩;have e:zef A hh=zef B hh:=by
    cases hh with
    |none=>rfl
    |some kj=>obtain⟨q,hq⟩:=w11.1 (hp.2 _ _ rfl);simp only[zef,hq,h _ _ hq]
   refine⟨⟨hp.1,λk j e2=>?_⟩,by rw[<- e];exact hn⟩;obtain⟨q,hq⟩:=w11.1 (hp.2 k j e2);rw[h _ _ hq];rfl
 |emp=>exact EntH.refl
theorem zkz[Dr]{A B:Asg}(h:AExt A B):∀(ps:Asg)(os:List (SO V.T)),z5c (obD V P A ps os) (obD V P B ps os)
 | [],os=>trivial
 |p::ps,[]=>trivial
 |p::ps,o::os=>⟨yb9 V P h p o,zkz h ps os⟩
theorem zbs[Dr]{A:Asg}: ∀(ps:Asg)(os:List (SO V.T)),ps.length=os.length->(obD V P A ps os).length=os.length
 | [],[],_=>rfl
 |p::ps,o::os,h=>by simp only[obD,w1b];rw[zbs ps os (by simpa using h)]
 | [],_::_,h=>by simp at h
 |_::_,[],h=>by simp at h
theorem zqx[Dr]{A:Asg}: ∀(ps:Asg)(os:List (SO V.T))(qs:Asg)(us:List (SO V.T)),ps.length=os.length->obD V P A (ps++qs) (os++us)=obD V P A ps os++obD V P A qs us
 | [],[],_,_,_=>rfl
 |p::ps,o::os,qs,us,h=>by simp only[w2u,obD];rw[zqx ps os qs us (by simpa using h)]
 | [],_::_,_,_,h=>by simp at h
 |_::_,[],_,_,h=>by simp at h
theorem z4r[Dr]{A:Asg}: ∀(ps:Asg)(os:List (SO V.T))(i:Nat)(p:Nat×Value)(o:SO V.T),ps[i]? = some p->obD V P A ps (os.set i o) =(obD V P A ps os).set i (o.den V P A p)
 | [],os,i,p,o,h=>by simp at h
 |q::ps,[],i,p,o,h=>by cases i<;>simp[obD]
 |q::ps,u::os,0,p,o,h=>by simp at h;subst h;rfl
 |q::ps,u::os,i+1,p,o,h=>by simp only[w48,obD];rw[z4r ps os i p o (by simpa using h)]
structure GA where
 act:Act
 lp:Option (Nat×Loop×Nat×Nat)
def GA.lpI(g:GA):Option (Nat×Nat):=match g.lp with
 |some (_,rec,q)=>match rec.state with
  | .ready=>some q
  |_=>none
 |none=>none
def GA.tm(g:GA):Act:=match g.lp with
 |none=>g.act
 |some (L,_)=>{ g.act with tmps:=g.act.tmps.push (.func (.yield L) #[] #[]) }
def LpOK(P:Program)(x:Nat×Loop×Nat×Nat)(a:Act):Prop:=x.2.1.tmps=a.tmps/\x.2.1.pending=none/\∃g,rfAt P x.2.2.1 x.2.2.2=some (g,x.2.1.params,x.2.1.assign,x.2.1.body)
def mkD(D:Nat):Deferred:={ target:=.collected D,args:=#[] }
def mks(a:Act)(gs:List GA):List Deferred:=a.defers++gs.flatMap (·.act.defers)
theorem y2x{a a':Act}{gs:List GA}(h:a'.defers=a.defers):mks a gs=mks a' gs:=by unfold mks;rw[h]
def lps(gs:List GA):List (Nat×Loop×Nat×Nat):=gs.filterMap (·.lp)
structure Mk(r0 ro:Nat->Prop)(w:World)(l:List Deferred)(ps:List (Nat×Loop×Nat×Nat)):Prop where
 df:∃Ds:List Nat,l=Ds.map mkD/\Ds.Nodup/\∀D∈Ds,ro D/\¬r0 D/\w.heap[D]? = some (.deferred (some []))
 lp :(ps.map (·.1)).Nodup/\∀p∈ps,ro p.1/\¬r0 p.1/\w.heap[p.1]? = some (.loop p.2.1)
structure EvM(B:Nat)(r0:Nat->Prop)(wI:World)(l:List Deferred)(ps:List (Nat×Loop×Nat×Nat))(ro:Nat->Prop)(w:World):Prop where
 ev:Evo B r0 wI ro w
 bk:Mk r0 ro w l ps
theorem EvM.trans{B:Nat}{r0 ro ro':Nat->Prop}{wI w w':World}{l:List Deferred}{ps:List (Nat×Loop×Nat×Nat)}(h:EvM B r0 wI l ps ro w)(k:Evo B ro w ro' w'):EvM B r0 wI l ps ro' w':=by obtain⟨Ds,h1,h2,h3⟩:=h.bk.df;exact⟨h.ev.trans k,⟨Ds,h1,h2,λD hD=>let ⟨a,b,c⟩:=h3 D hD;⟨k.1 D a,b,(k.2.1 D a).trans c⟩⟩,h.bk.lp.1,λp hp=>let ⟨a,b,c⟩:=h.bk.lp.2 p hp;⟨k.1 _ a,b,(k.2.1 _ a).trans c⟩⟩
theorem EvM.up{B:Nat}{r0 ro ro':Nat->Prop}{wI w:World}{l:List Deferred}{ps:List (Nat×Loop×Nat×Nat)}(h:EvM B r0 wI l ps ro w)(e:Evo B r0 wI ro' w)(hrr:∀b,ro b->ro' b):EvM B r0 wI l ps ro' w:=by obtain⟨Ds,h1,h2,h3⟩:=h.bk.df;exact⟨e,⟨Ds,h1,h2,λD hD=>let ⟨a,b,c⟩:=h3 D hD;⟨hrr D a,b,c⟩⟩,h.bk.lp.1,λp hp=>let ⟨a,b,c⟩:=h.bk.lp.2 p hp;⟨hrr _ a,b,c⟩⟩
def Stk[Dr](A:Asg)(ro:Nat->Prop)(w:World):List (Fm V.T)->List GA->Prop
 | [],[]=>True
 |f::fs,a::as=>(zj (slD V P A f.gb f.sl) a.tm ro w/\chP f.gb f.kn/\GbOK f/\(∀x,a.lp=some x->LpOK P x a.act)/\a.tm.tmps.size=f.n)/\Stk A ro w fs as
 |_,_=>False
variable{V P}
theorem Stk.ext[Dr]{A B:Asg}(hAB:AExt A B){base:Nat}{ro ro':Nat->Prop}{w w':World}(he:Evo base ro w ro' w'):∀{fs:List (Fm V.T)}{as:List GA},Stk V P A ro w fs as->Stk V P B ro' w' fs as
 | [],[],_=>trivial
 |f::fs,a::as,h=>⟨⟨zdd V P hAB (h.1.1.evo he),h.1.2⟩,Stk.ext hAB he h.2⟩
 | [],_::_,h=>h.elim
 |_::_,[],h=>h.elim
variable(V)
def SatS[Dr](C:Cx P)(acts:List GA)(s:SS V.T)(a:Act)(w:World):Prop:=
 True/\a.tmps.size=s.n/\chP s.gb s.kn/\GbOK s.toFm/\∃A ro S,A.length=s.ob.length/\WInv C.w0 C.base (obD V P A A s.ob) ro S w/\EvM C.base C.r0 C.wI (mks a acts) (lps acts) ro w/\
  zj (slD V P A s.gb s.sl) a ro w/\Stk V P A ro w s.stk acts
end
end Px
end
section
namespace Px
open Go Go.RowKit
section
variable{V:TE}{N:Env V}{R:Type}{r:R}{C:Cx N.P}{A:Asg}{s:SS V.T}
def LOK[Dr](V:TE)(P:Program){R:Type}(r:R)(A:Asg)(s:SS V.T)(k:SV V.T->SS V.T->Option R)(x:VP)(objs:List HP):Prop:=∃(B:Asg)(ob':List (SO V.T))(v:SV V.T),k v { s with ob:=ob' } = some r/\(A++B).length=ob'.length/\Ent x (v.den V P (A++B))/\ObW objs (obD V P (A++B) (A++B) ob')
theorem zay(A:Asg)(b:Nat×Value)(n:Nat)(h:A.length=n):(A++[b])[n]? = some b:=by subst h;simp
theorem z5c.app:∀{a b c d:List HP},a.length=b.length->z5c a b->z5c c d->z5c (a++c) (b++d)
 | [],[],_,_,_,_,h=>h
 |x::a,y::b,c,d,hl,h,k=>⟨h.1,z5c.app (by simpa using hl) h.2 k⟩
 | [],_::_,_,_,hl,_,_=>by simp at hl
 |_::_,[],_,_,hl,_,_=>by simp at hl
theorem z3q[Dr]{P:Program}{A B:Asg}{ob:List (SO V.T)}(hl:A.length=ob.length){H:List HP}{us:List (SO V.T)}(hH:z5c H (obD V P (A++B) B us)):ObW (obD V P A A ob++H) (obD V P (A++B) (A++B) (ob++us)):=by rw[zqx V P A ob B us hl];refine ObW.le (z5c.app ?_ (zkz V P (AExt.app A B) A ob) hH);rw[zbs V P A ob hl,zbs V P A ob hl]
theorem ce2[Dr]{P:Program}{A:Asg}(hkn:chP s.gb s.kn)(h1:OneA V A s.ob){o:Operand}{x:SV V.T}(h:evO s.sl s.kn o=some x)(hs:storable V s.ob x=true):Ce (s.st V P A) o (denL V P A (cellsOf x)):=yd9 V P h1 hs (z2h V P h hkn)
theorem yd8[Dr](hl:A.length=s.ob.length)(hkn:chP s.gb s.kn)(h1:OneA V A s.ob){t ty:TypeId}{x:Operand}{k:SV V.T->SS V.T->Option R}(h:z3n V N s (.box t x) ty k=some r)(dst pos after guard):
  OpT C ⟨dst,.box t x,ty,pos,after,guard⟩ (s.st V N.P A) (LOK V N.P r A s k):=by
 simp only[z3n] at h;split at h
 .rename_i v hv;cases hs:storable V s.ob v with
  |false=>rw[hs] at h;cases h
  |true=>
   rw[hs] at h;simp only[cond_true] at h;refine yfj (ce2 hkn h1 hv hs) λb=>⟨[(b,undef)],_,_,h,by simp[hl],?_,?_⟩
   .simp only[SV.den,zay A _ _ hl];exact Ent.refl
   .refine z3q hl (us:=[.box t (cellsOf v)]) ⟨?_,trivial⟩;exact λS r w ⟨hS,cur,hc,hh⟩=>⟨hS,cur,hc,zhm (z0m V N.P (AExt.app A _) _) hh⟩
 .cases h
theorem y5h[Dr](hl:A.length=s.ob.length){t ty:TypeId}{k:SV V.T->SS V.T->Option R}(h:z3n V N s (.alloc t) ty k=some r)(dst pos after guard):
  OpT C ⟨dst,.alloc t,ty,pos,after,guard⟩ (s.st V N.P A) (LOK V N.P r A s k):=by
 simp only[z3n] at h;split at h
 .rename_i zs hz;cases hs:zdn V (V.zero (V.code t)) zs with
  |false=>
   rw[hs] at h;simp only[cond_false] at h;cases h2:zs.all (·.oneCell') with
   |false=>rw[h2] at h;cases h
   |true=>
    rw[h2] at h;simp only[cond_true] at h;refine y3i zs hz h2 λb=>⟨[(b,undef)],_,_,h,by simp[hl],?_,?_⟩
    .simp only[SV.den,zay A _ _ hl];exact Ent.refl
    .refine z3q hl (us:=[.box t (zs.map zqz)]) ⟨?_,trivial⟩;simp only[SO.den];rw[zvx V N.P zs];exact EntH.refl
  |true=>
   rw[hs] at h;simp only[cond_true] at h;obtain⟨_,e2⟩:=zey V N.P (A:=A) hs;refine y3i zs hz e2 λb=>⟨[(b,undef)],_,_,h,by simp[hl],?_,?_⟩
   .simp only[SV.den,zay A _ _ hl];exact Ent.refl
   .refine z3q hl (us:=[.box t (fixZ V (V.zero (V.code t)))]) ⟨?_,trivial⟩;simp only[SO.den];rw[(zey V N.P (A:=A++[(b,undef)]) hs).1];exact EntH.refl
 .cases h
theorem zy2[Dr]{P:Program}{C:Cx P}{s:St}{pos:String}{after:Array Edge}{guard:Option (Nat×Bool)}{ty:TypeId}{K:VP->List HP->Prop}(i:Nat){t T:TypeId}{g:Bool}{n b off:Nat}{x y:Operand}{cells cs out:List VP}(ht:z3p P t=some (g,n))(hx:Ev s x (eqv (.pointer (some ⟨b,off,none⟩))))(hy:Ce s y cs)(ho:s.objs[i]? = some (box b T cells))
  (hl:cs.length=n) (hb:off+n<=cells.length) (hout:cells.take off++cs++cells.drop (off+n)=out)
  (k:K topv (s.objs.set i (box b T out))):OpT C ⟨none,.store t x y,ty,pos,after,guard⟩ s K:=yca i ht hx hy ho hl hb hout k
theorem zbr[Dr]{P:Program}{s:St}{x:Operand}{C:Cx P}{o:Oper}{K:VP->List HP->Prop}(h:Ev s x nov):OpT C o s K:=λa w r S Q hd hn hw hs=>(h a r w hs).elim
theorem zp{α:Type}(l:List α)(i:Int)(x:α):(zu l i x).length=l.length:=by simp[zu]
theorem OpT.pure[Dr]{P:Program}{C:Cx P}{o:Oper}{s:St}{K:VP->List HP->Prop}{x:Operand}{F:Prop}{u:Value}(hx:Ev s x ⟨λ_ _ v=>F/\v=u,λ_ _ h=>h⟩)(h:F->Ev s x (eqv u)->OpT C o s K):OpT C o s K:=λa w ro S Q hd hn hw hs=>h (hx a ro w hs).1 (λa ro w hs=>(hx a ro w hs).2) a w ro S Q hd hn hw hs
theorem zvt{E cs:List VP}{o sz:Nat}(L M:List VP)(fo n:Nat)(h:L.drop o=E++M)(hE:E.length=sz)(hf:fo+n<=sz)(hc:cs.length=n):
  L.take (o+fo)++cs++L.drop (o+fo+n)=L.take o++(E.take fo++cs++E.drop (fo+n))++L.drop (o+sz):=by
 have hM:L.drop (o+sz)=M:=by rw[<- w3h,h,List.drop_left' hE]
 have h1:L.take (o+fo)=L.take o++E.take fo:=by rw[List.take_add,h,w22 (by omega)]
 have h2:L.drop (o+fo+n)=E.drop (fo+n)++M:=by rw[w2h,<- w3h,h,w2c (by omega)]
 rw[h1,h2,hM];simp only[w0q]
theorem y5j{V:TE}{pre post:List VP}{m c idx off:Nat}{f:Nat->V.T c}(hp:pre.length=off)(hlt:idx+1<=m):
  (pre++Px.arr m (V.ev c) f++post).drop (off+idx*V.sz c)=V.ev c (f idx)++(pre++Px.arr m (V.ev c) f++post).drop (off+idx*V.sz c+V.sz c):=by
 have h1:=zoi (N:=m) (k:=idx) (f:=f) (V.ev_len c) hlt;have h3:=zdr (N:=m) (f:=f) (V.ev_len c);have h4 :(idx+1)*V.sz c<=m*V.sz c:=w14 _ hlt;rw[w1e] at h4;have:=w25 (V.sz c) ((pre++Px.arr m (V.ev c) f++post).drop (off+idx*V.sz c));rw[<- this,w3h];congr 1;rw[<- h1,w0q,w5b,List.drop_eq_nil_of_le (as:=pre) (by omega),w39,hp,w3l,w2c (by omega),w22 (by rw[w4i];omega)]
theorem y8o[Dr](hl:A.length=s.ob.length)(hkn:chP s.gb s.kn)(h1:OneA V A s.ob){t ty:TypeId}{a x:Operand}{k:SV V.T->SS V.T->Option R}(h:z3n V N s (.store t a x) ty k=some r)(pos after guard):
  OpT C ⟨none,.store t a x,ty,pos,after,guard⟩ (s.st V N.P A) (LOK V N.P r A s k):=by
 simp only[z3n] at h;split at h
 .rename_i g n p v ht hp hv;have hp':=z2h V N.P (A:=A) hp hkn;have hv':=z2h V N.P (A:=A) hv hkn
  -- how the objects go on
  have fin:∀(i:Nat)(q:Nat×Value)(o':SO V.T)(H:HP),A[i]? = some q->i<s.ob.length->EntH H (o'.den V N.P A q)->k .top (updO V s i o')=some r->LOK V N.P r A s k topv ((s.st V N.P A).objs.set i H):=by
   intro i q o' H ha hi hH hk;refine⟨[],s.ob.set i o',.top,hk,by simp[hl],Ent.refl,?_⟩;rw[w0e,z4r V N.P A s.ob i q o' ha];refine ObW.le ?_;have key:∀(l:List HP)(i:Nat),z5c (l.set i H) (l.set i (o'.den V N.P A q)):=by
    intro l
    induction l with
    |nil=>intro i;trivial
    |cons y l ih=>
     intro i;cases i with
     |zero=>exact⟨hH,by induction l with|nil=>trivial|cons z l ih2=>exact⟨EntH.refl,ih2 (λi=>(ih (i+1)).2)⟩⟩
     |succ i=>exact⟨EntH.refl,ih i⟩
   exact key _ i
  cases p with
  |ptr i off=>
   simp only[stoX] at h;split at h
   .rename_i T cs ho;cases hs :(storable V s.ob v&&Nat.beq n (clen V (cellsOf v))) with
    |false=>rw[hs] at h;cases h
    |true=>
     rw[hs] at h;simp only[w02] at hs;have en:=w01 hs.2;simp only[cond_true] at h;split at h
     .rename_i cs' hcs;obtain⟨e,hle⟩:=zn8 V N.P (A:=A) hcs;simp only[SV.den] at hp';cases ha:A[i]? with
      |none=>rw[ha] at hp';exact zbr hp'
      |some q=>rw[ha] at hp';refine zy2 i ht hp' (ce2 hkn h1 hv hs.1) (zt V N.P ha ho) (by rw[zcj];exact en.symm) hle rfl ?_;exact fin i q (.box T cs') _ ha (w04.1 ho).1 (by simp only[SO.den,e];exact EntH.refl) h
     .cases h
   .cases h
  |pta i off m z idx cnt fo=>
   simp only[stoX] at h;split at h
   .rename_i T cs y ho hy;split at h
    .rename_i pre m' c f post hpre hcd;cases hb :(Nat.beq m m'&&Nat.beq z (V.sz c)&&Nat.beq cnt 1&&Nat.beq n (V.sz (V.code t))) with
     |false=>rw[hb] at h;cases h
     |true=>
      rw[hb] at h;simp only[w02] at hb;have e1:=w01 hb.1.1.1;have e2:=w01 hb.1.1.2;have e3:=w01 hb.1.2;have e4:=w01 hb.2;subst e1;subst e2;subst e3;simp only[cond_true] at h;split at h
      .rename_i cs' hcs;split at h
       .rename_i y' hy';obtain⟨e,hle⟩:=zn8 V N.P (A:=A) hcs;have e5:=zun (ze0 (P:=N.P) (A:=A) (R:=Eq) zp5 zp6 (λ_=>rfl) (λ_ _ _ h=>zp4 h) hy');rw[e,z1m,z1m] at e5;rw[z1m,V.ev_len] at hle;obtain⟨p1,_⟩:=zgd V N.P (A:=A) cs off pre hpre;obtain⟨p2,p3⟩:=zb1 V N.P (A:=A) cs off _ hcd;have hsplit:denL V N.P A cs=denL V N.P A pre++Px.arr m (V.ev c) f++denL V N.P A post:=by have:=w25 off (denL V N.P A cs);rw[<- p1,<- p2] at this;simpa only[denL,w0q] using this.symm
        have hpl :(denL V N.P A pre).length=off:=by rw[p1,w1y];omega
        simp only[SV.den] at hp';cases ha:A[i]? with
        |none=>rw[ha] at hp';exact zbr hp'
        |some q=>
         rw[ha] at hp';have hob:=zt V N.P (A:=A) (ps:=A) ha ho;simp only[SO.den] at hob;have hce:Ce (s.st V N.P A) x (V.ev (V.code t) y):=y5y (Ev.ent' hv' (z6h V N.P hy));refine OpT.pure hp' λhlt hp2=>?_
         rw[hsplit] at hob;refine zy2 (out:=denL V N.P A pre++Px.arr m (V.ev c) (upd f idx y')++denL V N.P A post) i ht hp2 hce hob (by rw[V.ev_len];exact e4.symm) ?_ ?_ ?_
         .have h3:=zdr (N:=m) (f:=f) (V.ev_len c);have h4 :(idx+1)*V.sz c<=m*V.sz c:=w14 _ hlt;rw[w1e] at h4;simp only[w0i,h3,hpl];omega
         .rw[<- zoj (y:=y') (off:=off+idx*V.sz c) (n:=V.sz c) (V.ev_len c) (by rw[hpl]) hlt rfl rfl,<- e5];exact zvt _ _ fo n (y5j hpl hlt) (V.ev_len c _) (by omega) (by rw[V.ev_len];exact e4.symm)
         .refine fin i q (.box T (pre++.arr m c (upd f idx y')::post)) _ ha (w04.1 ho).1 ?_ h;simp only[SO.den,z1q,denL,w0q];exact EntH.refl
       .cases h
      .cases h
    .cases h
   .cases h
  |elt i j z fo=>
   simp only[stoX] at h;split at h
   .rename_i E E2 c l hh ho;split at h
    .rename_i qq;cases hb :(Nat.beq z 1&&Nat.beq fo 0&&Nat.beq n 1&&oneS V s.ob (.own qq)) with
     |false=>rw[hb] at h;cases h
     |true=>
      rw[hb] at h;simp only[cond_true] at h;simp only[w02] at hb;have e1:=w01 hb.1.1.1;have e2:=w01 hb.1.1.2;have e3:=w01 hb.1.2;have hone:=(y3h V N.P h1 hb.2).1;subst e1;subst e2;subst e3;simp only[SV.den] at hp' hv' hone;cases ha:A[i]? with
      |none=>rw[ha] at hp';exact zbr hp'
      |some q=>
       cases hq:A[qq]? with
       |none=>rw[hq] at hv';exact zbr hv'
       |some p=>
        rw[ha] at hp';rw[hq] at hv' hone;refine y9q ha ho λhprop=>?_
        have main:k .top (updO V s i (.x (.nst E E2 c l (some (j,qq)))))=some r->(∀p,zef A hh=some p->p.1=j.toNat)->
          OpT C ⟨none,.store t a x,ty,pos,after,guard⟩ (s.st V N.P A) (LOK V N.P r A s k):=by
         intro hk hhole;refine OpT.weak (s':=⟨(s.st V N.P A).slots,(s.st V N.P A).objs.set i (nst E (V.inn E2 c) l (zef A hh) q.2)⟩) (λ_ _ _ h=>h) (ObW.set' (zt V N.P ha ho) λS r w h=>h.2) ?_;have hil:i<(s.st V N.P A).objs.length:=(w04.1 (zt V N.P (A:=A) (ps:=A) ha ho)).1;have hget :((s.st V N.P A).objs.set i (nst E (V.inn E2 c) l (zef A hh) q.2))[i]? = some (nst E (V.inn E2 c) l (zef A hh) q.2):=by rw[w2p hil]
         intro aa w ro S Q hd hn hw hsl;obtain⟨g',n',cap,h3,h4,h5,h6⟩:=hp' aa ro w hsl;have hlen:n'=l.length:=by
          obtain⟨vs,S0,Sk,hvl,h7,_⟩:=hw.obj i _ hget;rcases h7 with⟨hx,_⟩|⟨g2,cap',cur,hv3,_⟩
          .rw[h3] at hx;cases hx
          .rw[h3] at hv3;simp only[Value.slice.injEq] at hv3;rw[<- hvl];exact hv3.2.1
         subst hlen;refine y4n (s:=⟨(s.st V N.P A).slots,(s.st V N.P A).objs.set i (nst E (V.inn E2 c) l (zef A hh) q.2)⟩) (v:=p.2) (l:=l) i ht (k:=j.toNat) (Ev.ent' hp' ?_) (Ce.one hv' hone) hget hhole (by omega) ?_ aa w ro S Q hd hn hw hsl
         .rintro r w v ⟨g,n,cap,h1,h2,_⟩;exact⟨g,n,cap,h1,by simpa using h2⟩
         .rw[w5e];refine fin i q (.x (.nst E E2 c l (some (j,qq)))) _ ha (w04.1 ho).1 ?_ hk;refine λS r w h=>⟨⟨hprop.1,λk2 j2 e2=>?_⟩,?_⟩
          .simp only[w00,w0b] at e2;rw[<- e2.2,hq];rfl
          .simp only[zef,hq];exact h
        cases hh with
        |none=>exact main h (λp hp=>by cases hp)
        |some jj=>obtain⟨rfl,hk⟩:=zci h;exact main hk (λp hp=>by simp only[zef,w00] at hp;rw[<- hp])
    .cases h
   .rename_i E c l ho;split at h
    rotate_left
    .cases h
    rename_i y hy;cases hb :(Nat.beq z (V.sz c)&&Nat.beq n (V.sz (V.code t))) with
    |false=>rw[hb] at h;cases h
    |true=>
     rw[hb] at h;simp only[w02] at hb;have e1:=w01 hb.1;have e4:=w01 hb.2;subst e1;simp only[cond_true] at h;split at h
     .rename_i cs' hcs;split at h
      .rename_i y' hy';obtain⟨e,hle⟩:=zn8 V N.P (A:=A) hcs;have e5:=zun (ze0 (P:=N.P) (A:=A) (R:=Eq) zp5 zp6 (λ_=>rfl) (λ_ _ _ h=>zp4 h) hy');rw[e,z1m,z1m] at e5;rw[z1m,V.ev_len] at hle;simp only[SV.den] at hp';cases ha:A[i]? with
       |none=>rw[ha] at hp';exact zbr hp'
       |some q=>
        rw[ha] at hp';have hob:=zt V N.P (A:=A) (ps:=A) ha ho;have hce:Ce (s.st V N.P A) x (V.ev (V.code t) y):=y5y (Ev.ent' hv' (z6h V N.P hy));intro aa w ro S Q hd hn hw hsl;obtain⟨g',n',cap,h3,_,h5,h6⟩:=hp' aa ro w hsl;have hlen:n'=l.length:=by
         rcases hw.obj i _ hob with⟨hx,_⟩|⟨g2,cap',cur,hv3,_⟩
         .rw[h3] at hx;cases hx
         .rw[h3] at hv3;simp only[Value.slice.injEq] at hv3;exact hv3.2.1
        subst hlen;refine zy3 (k:=j.toNat) (fo:=fo) (z:=gtz (V.z c) l j) (z':=y') i (V.ev_len c) ht (Ev.ent' hp' zq0) hce hob (by rw[V.ev_len];exact e4.symm) rfl (zf6 ⟨h5,h6⟩) hle (by rw[<- e4] at *;exact e5.symm) ?_ aa w ro S Q hd hn hw hsl;exact fin i q (.row E c (zu l j y')) _ ha (w04.1 ho).1 EntH.refl h
      .cases h
     .cases h
   .rename_i E c l ho;split at h
    rotate_left
    .cases h
    rename_i y hy;cases hb :(Nat.beq z (V.sz c)&&Nat.beq n (V.sz (V.code t))) with
    |false=>rw[hb] at h;cases h
    |true=>
     rw[hb] at h;simp only[w02] at hb;have e1:=w01 hb.1;have e4:=w01 hb.2;subst e1;simp only[cond_true] at h;split at h
     .rename_i cs' hcs;split at h
      .rename_i y' hy';obtain⟨e,hle⟩:=zn8 V N.P (A:=A) hcs;have e5:=zun (ze0 (P:=N.P) (A:=A) (R:=Eq) zp5 zp6 (λ_=>rfl) (λ_ _ _ h=>zp4 h) hy');rw[e,z1m,z1m] at e5;rw[z1m,V.ev_len] at hle;simp only[SV.den] at hp';cases ha:A[i]? with
       |none=>rw[ha] at hp';exact zbr hp'
       |some q=>
        rw[ha] at hp';refine ydj ha ho λhprop=>?_
        refine OpT.weak (s':=⟨(s.st V N.P A).slots,(s.st V N.P A).objs.set i (row E (V.ev c) (V.sz c) l q.2)⟩) (λ_ _ _ h=>h) (ObW.set' (zt V N.P ha ho) λS r w h=>h.2) ?_;have hil:i<(s.st V N.P A).objs.length:=(w04.1 (zt V N.P (A:=A) (ps:=A) ha ho)).1;have hob :((s.st V N.P A).objs.set i (row E (V.ev c) (V.sz c) l q.2))[i]? = some (row E (V.ev c) (V.sz c) l q.2):=by rw[w2p hil]
        have hce:Ce (s.st V N.P A) x (V.ev (V.code t) y):=y5y (Ev.ent' hv' (z6h V N.P hy));intro aa w ro S Q hd hn hw hsl;obtain⟨g',n',cap,h3,_,h5,h6⟩:=hp' aa ro w hsl;have hlen:n'=l.length:=by
         rcases hw.obj i _ hob with⟨hx,_⟩|⟨g2,cap',cur,hv3,_⟩
         .rw[h3] at hx;cases hx
         .rw[h3] at hv3;simp only[Value.slice.injEq] at hv3;exact hv3.2.1
        subst hlen;refine zy3 (s:=⟨(s.st V N.P A).slots,(s.st V N.P A).objs.set i (row E (V.ev c) (V.sz c) l q.2)⟩) (k:=j.toNat) (fo:=fo) (z:=gtz (V.z c) l j) (z':=y') i (V.ev_len c) ht (Ev.ent' hp' zq0) hce hob (by rw[V.ev_len];exact e4.symm) rfl (zf6 ⟨h5,h6⟩) hle (by rw[<- e4] at *;exact e5.symm) ?_ aa w ro S Q hd hn hw hsl;rw[w5e];exact fin i q (.x (.fix E c (zu l j y'))) _ ha (w04.1 ho).1 (λS r w h=>⟨hprop,h⟩) h
      .cases h
     .cases h
   .cases h
  |_=>simp[stoX] at h
 .cases h
end
end Px
end
section
namespace Px
open Go Go.RowKit
section
variable{V:TE}{N:Env V}{R:Type}{r:R}{C:Cx N.P}{A:Asg}{s:SS V.T}
theorem zpn[Dr](hl:A.length=s.ob.length)(hkn:chP s.gb s.kn){t n ty:Nat}{parts:Array (Nat×Operand)}{k:SV V.T->SS V.T->Option R}(h:z3n V N s (.buildSlice t n parts) ty k=some r)(dst pos after guard):
  OpT C ⟨dst,.buildSlice t n parts,ty,pos,after,guard⟩ (s.st V N.P A) (LOK V N.P r A s k):=by
 simp only[z3n] at h;split at h
 .rename_i E z by' ht;split at h
  .rename_i l hel;cases hb :(Nat.beq z (V.sz (V.code E))&&Nat.beq l.length n&&Nat.ble (n*z) 16777216) with
   |false=>rw[hb] at h;cases h
   |true=>
    rw[hb] at h;simp only[w02] at hb;have e1:=w01 hb.1.1;have e2:=w01 hb.1.2;have e3:=w0u hb.2;subst e1;simp only[cond_true] at h;refine zjj l ht (V.ev_len _) e2 e3 (zpz hkn hel) λv'=>⟨[(0,v')],_,_,h,by simp[hl],?_,?_⟩
    .simp only[SV.den,zay A _ _ hl];exact Ent.refl
    .exact z3q hl (us:=[.row E (V.code E) l]) ⟨EntH.refl,trivial⟩
  .cases h
 .cases h
theorem zty[Dr]{P:Program}{x y:Operand}{k1 k2:IntKind}{n n':Int}(hs:z3n.sameO x y=true)(hkn:chP s.gb s.kn)(hx:evO s.sl s.kn x=some (.int k1 n))(hy:evO s.sl s.kn y=some (.int k2 n')):Ev (s.st V P A) y (iv k2 n):=by
 have h2:=z2h V P (A:=A) hy hkn;unfold z3n.sameO at hs;split at hs
 .have:=w01 hs
  subst this;rw[hx] at hy;simp only[w00,SV.int.injEq] at hy;obtain⟨rfl,rfl⟩:=hy;exact h2
 .rename_i q a q' b;simp only[decide_eq_true_eq] at hs;subst hs;simp only[evO,zqz,w00,SV.int.injEq] at hx hy;obtain⟨_,rfl⟩:=hx;obtain⟨_,rfl⟩:=hy;exact h2
 .cases hs
theorem ybu{T:Nat->Type}{α:Type}{d:Ds T α}{x:α}(h:nilD d x=true):(zax d x).2 = []:=by cases d<;>simp[nilD] at h;exact h
theorem ztf[Dr](hl:A.length=s.ob.length)(hkn:chP s.gb s.kn){t ty:Nat}{x y:Operand}{k:SV V.T->SS V.T->Option R}(h:z3n V N s (.makeSlice t x y) ty k=some r)(dst pos after guard):
  OpT C ⟨dst,.makeSlice t x y,ty,pos,after,guard⟩ (s.st V N.P A) (LOK V N.P r A s k):=by
 simp only[z3n] at h;split at h
 .rename_i E z by' q n q' n' ht hx hy;have hx:=z05 hx;have hy:=z05 hy;split at h
  .rename_i zs hz;cases hsl:ztb (V.d (V.code E)) with
   |true=>
    rw[hsl] at h;simp only[cond_true] at h;split at h
    .rename_i E2 hu;cases hb :(z3n.sameO x y&&Nat.beq z 1&&zmN zs&&nilD (V.d (V.code E)) (V.z (V.code E))) with
     |false=>rw[hb] at h;cases h
     |true=>
      rw[hb] at h;simp only[w02] at hb;have e1:=w01 hb.1.1.2;subst e1;simp only[cond_true] at h;obtain⟨hm,hk⟩:=zci h;have hzs:zs = [.slice none 0 0]:=by
       have h5:=hb.1.2;unfold zmN at h5;split at h5
       .rfl
       .cases h5
      subst hzs;refine y9s (e:=λv:Value=>[eqv v]) (Value.slice none 0 0) _ ht (λ_=>rfl) hz rfl rfl (z2h V N.P hx hkn) (zty hb.1.1.1 hkn hx hy) hm.1 hm.2.1 hm.2.2 λv' _=>⟨[(0,v')],_,_,hk,by simp[hl],?_,?_⟩
      .simp only[SV.den,zay A _ _ hl];exact Ent.refl
      .refine z3q hl (us:=[.x (.nst E E2 (V.code E) (List.replicate n.toNat (V.z (V.code E))) none)]) ⟨?_,trivial⟩;intro S r w h;exact⟨⟨hsl,λk j e=>by cases e⟩,ycn (.inl ⟨rfl,ybu hb.2⟩) h⟩
    .cases h
   |false=>
   rw[hsl] at h;simp only[cond_false] at h;cases hb :(z3n.sameO x y&&Nat.beq z (V.sz (V.code E))&&zmL V (V.enc (V.code E) (V.z (V.code E))) zs) with
   |false=>rw[hb] at h;cases h
   |true=>
    rw[hb] at h;simp only[w02] at hb;have e1:=w01 hb.1.2;subst e1;simp only[cond_true] at h;obtain⟨hm,hk⟩:=zci h;obtain⟨e2,e3,_⟩:=y5a V N.P (A:=A) hb.2;rw[z1m] at e2;refine y9s (V.z (V.code E)) zs ht (V.ev_len _) hz e3 e2 (z2h V N.P hx hkn) (zty hb.1.1 hkn hx hy) hm.1 hm.2.1 hm.2.2 λv' hv'=>⟨[(0,v')],_,_,hk,by simp[hl],?_,?_⟩
    .simp only[SV.den,zay A _ _ hl];exact Ent.refl
    .cases hbl:zve (V.d (V.code E)) with
     |false=>exact z3q hl (us:=[.row E (V.code E) (List.replicate n.toNat (V.z (V.code E)))]) ⟨EntH.refl,trivial⟩
     |true=>exact z3q hl (us:=[.x (.fix E (V.code E) (List.replicate n.toNat (V.z (V.code E))))]) ⟨λS r w h=>⟨⟨hbl,hv'⟩,h⟩,trivial⟩
  .cases h
 .cases h
theorem zza[Dr](hl:A.length=s.ob.length){t ty:Nat}{hint:Option Operand}{k:SV V.T->SS V.T->Option R}(h:z3n V N s (.makeMap t hint) ty k=some r)(dst pos after guard):
  OpT C ⟨dst,.makeMap t hint,ty,pos,after,guard⟩ (s.st V N.P A) (LOK V N.P r A s k):=by
 cases hint with
 |some o=>simp[z3n,zn] at h
 |none=>
  simp only[z3n] at h;split at h
  .rename_i kt et hu;refine zzg (κ:=V.T (V.code kt)) (ν:=V.T (V.code et)) (e:=V.kl (V.code kt)) (eK:=V.kv (V.code kt)) (I:=V.inm (match N.P.underlying et with|some (.slice E)=>E|_=>0) (V.code et)) λb=>⟨[(b,.map (some b))],_,_,h,by simp[hl],?_,?_⟩
   .simp only[SV.den,zay A _ _ hl];exact Ent.refl
   .refine z3q hl (us:=[.x (.map (V.code kt) (V.code et) (match N.P.underlying et with|some (.slice E)=>E|_=>0) [] none)]) ⟨?_,trivial⟩;exact λS r w h=>⟨⟨rfl,λ_ _ q=>by cases q⟩,h⟩
  .cases h
theorem y86[Dr](hl:A.length=s.ob.length)(hkn:chP s.gb s.kn){t ty:Nat}{x:Operand}{k:SV V.T->SS V.T->Option R}(h:z3n V N s (.range t x) ty k=some r)(dst pos after guard):
  OpT C ⟨dst,.range t x,ty,pos,after,guard⟩ (s.st V N.P A) (LOK V N.P r A s k):=by
 simp only[z3n] at h;have fin:∀{kc vc kt et:Nat}{m:List (V.T kc×V.T vc)},N.P.underlying t=some (.map kt et)->Ev (s.st V N.P A) x (romE (V.kl kc) (V.kv kc) (λy=>V.vl vc y) m)->k (.own s.ob.length) { s with ob:=s.ob++[.x (.it kc vc m none)] } = some r->
   OpT C ⟨dst,.range t x,ty,pos,after,guard⟩ (s.st V N.P A) (LOK V N.P r A s k):=by
  intro kc vc kt et m hu hx h;refine y7h hu hx λb=>⟨[(b,.pointer (some ⟨b,0,none⟩))],_,_,h,by simp[hl],?_,?_⟩
  .simp only[SV.den,zay A _ _ hl];exact Ent.refl
  .refine z3q hl (us:=[.x (.it kc vc m none)]) ⟨?_,trivial⟩;exact λS r w h=>⟨rfl,h⟩
 split at h
 .rename_i kt et kc vc m hu hx;have hx':=z2h V N.P (A:=A) hx hkn;simp only[SV.den,zzb] at hx';exact fin hu hx' h
 .rename_i kt et hu hx;have hx':=z2h V N.P (A:=A) hx hkn;refine fin hu (hx'.ent' ?_) h;rw[<- zzb];exact zik
 .cases h
theorem y2u[Dr](hl:A.length=s.ob.length){j kc vc E:Nat}{m m':List (V.T kc×V.T vc)}{hh hh':Option (V.T kc×Nat)}{q:Nat×Value}(ha:A[j]? = some q){k:SV V.T->SS V.T->Option R}{y:SV V.T}{x:VP}(hx:Ent x (y.den V N.P A))
  (hq:q.2 = .map (some q.1)) (hs:∀k i,hh'=some (k,i)->(A[i]?).isSome=true) (hk:k y (updO V s j (.x (.map kc vc E m' hh')))=some r):LOK V N.P r A s k x (((s.st V N.P A).objs.set j (nmp q.1 (V.kl kc) (V.kv kc) (V.inm E vc) m (zav A hh))).set j (nmp q.1 (V.kl kc) (V.kv kc) (V.inm E vc) m' (zav A hh'))):=by
 refine⟨[],s.ob.set j (.x (.map kc vc E m' hh')),y,hk,by simp[hl],by rw[w0e];exact hx,?_⟩;rw[w0e,z4r V N.P A s.ob j q _ ha,w5e];exact ObW.le (zi8 (show EntH (nmp q.1 (V.kl kc) (V.kv kc) (V.inm E vc) m' (zav A hh')) ((SO.x (.map kc vc E m' hh'):SO V.T).den V N.P A q) from λS r w h=>⟨⟨hq,hs⟩,h⟩) _ _)
theorem y76[Dr]{j kc vc E:Nat}{m:List (V.T kc×V.T vc)}{hh:Option (V.T kc×Nat)}{q:Nat×Value}{o:Oper}{K:VP->List HP->Prop}(ha:A[j]? = some q)(ho:s.ob[j]? = some (.x (.map kc vc E m hh)))
  (h:q.2 = .map (some q.1)->(∀k i,hh=some (k,i)->(A[i]?).isSome=true)->((s.st V N.P A).objs.set j (nmp q.1 (V.kl kc) (V.kv kc) (V.inm E vc) m (zav A hh)))[j]? = some (nmp q.1 (V.kl kc) (V.kv kc) (V.inm E vc) m (zav A hh))->
   OpT C o ⟨(s.st V N.P A).slots,(s.st V N.P A).objs.set j (nmp q.1 (V.kl kc) (V.kv kc) (V.inm E vc) m (zav A hh))⟩ K):OpT C o (s.st V N.P A) K:=by
 refine zox ha ho λhq hs=>?_
 have hget:=zt V N.P (A:=A) (ps:=A) ha ho;have hlt:j<(s.st V N.P A).objs.length:=(w04.1 hget).1;exact OpT.weak (s':=⟨(s.st V N.P A).slots,(s.st V N.P A).objs.set j (nmp q.1 (V.kl kc) (V.kv kc) (V.inm E vc) m (zav A hh))⟩) (λ_ _ _ h=>h) (ObW.set' hget λS r w h=>h.2) (h hq hs (by rw[w2p hlt]))
theorem ztg[Dr](hl:A.length=s.ob.length)(hkn:chP s.gb s.kn){t ty:Nat}{x i y:Operand}{k:SV V.T->SS V.T->Option R}(h:z3n V N s (.mapUpdate t x i y) ty k=some r)(pos after guard):
  OpT C ⟨none,.mapUpdate t x i y,ty,pos,after,guard⟩ (s.st V N.P A) (LOK V N.P r A s k):=by
 simp only[z3n] at h;split at h
 .rename_i j u v hx hi hy;split at h
  .rename_i kc vc E m hh ho;split at h
   .rename_i et key hm hd;obtain⟨kt,ht,hk⟩:=zvh hm;have hx':=z2h V N.P (A:=A) hx hkn;have hi':=((z2h V N.P (A:=A) hi hkn).ent' (z6h V N.P hd)).ent' (y53 hk);have hy0:=z2h V N.P (A:=A) hy hkn;simp only[SV.den] at hx';cases ha:A[j]? with
    |none=>rw[ha] at hx';exact zbr hx'
    |some q=>
     rw[ha] at hx';refine y76 ha ho λhq hs' hget=>?_
     have hx2:Ev (s.st V N.P A) x (eqv (.map (some q.1))):=by rw[<- hq];exact hx'
     cases hs:zaw (V.d vc) with
     |true=>
      rw[hs] at h;simp only[cond_true] at h;split at h
      .rename_i val hv;have hy':=hy0.ent' (z6h V N.P hv);rw[y55 V hs] at hy';exact zji (s:=⟨(s.st V N.P A).slots,(s.st V N.P A).objs.set j (nmp q.1 (V.kl kc) (V.kv kc) (V.inm E vc) m (zav A none))⟩) (z:=val) (hole':=none) j (zeg hk) ht hget hx2 hi' hy' (λq hq=>by cases hq) (.inl ⟨rfl,λS r w=>by rw[zta hs];rfl⟩)
        (y2u hl ha (hh:=none) (hh':=none) (y:=.top) Ent.refl hq (λ_ _ q=>by cases q) h)
      .cases h
     |false=>
      rw[hs] at h;simp only[cond_false] at h;split at h
      .rename_i q2;simp only[SV.den] at hy0;cases ha2:A[q2]? with
       |none=>rw[ha2] at hy0;exact zbr hy0
       |some p2=>
        rw[ha2] at hy0;have hsome:∀k i,some (key,q2)=some (k,i)->(A[i]?).isSome=true:=λk i e=>by cases e;rw[ha2];rfl
        have hhole:zav A (some (key,q2))=some (key,p2.2):=by simp only[zav,ha2]
        have fin :(∀p,zav A hh=some p->V.kl kc p.1=V.kl kc key)->k .top (updO V s j (.x (.map kc vc E (cset (V.kl kc) m key (V.z vc)) (some (key,q2)))))=some r->
          OpT C ⟨none,.mapUpdate t x i y,ty,pos,after,guard⟩ ⟨(s.st V N.P A).slots,(s.st V N.P A).objs.set j (nmp q.1 (V.kl kc) (V.kv kc) (V.inm E vc) m (zav A hh))⟩ (LOK V N.P r A s k):=λhc h=>
         zji (s:=⟨(s.st V N.P A).slots,(s.st V N.P A).objs.set j (nmp q.1 (V.kl kc) (V.kv kc) (V.inm E vc) m (zav A hh))⟩) (z:=V.z vc) (hole':=some (key,p2.2)) j (zeg hk) ht hget hx2 hi' hy0 hc (.inr rfl)
          (hhole ▸ y2u hl ha (hh:=hh) (hh':=some (key,q2)) (y:=.top) Ent.refl hq hsome h)
        split at h
        .exact fin (λp hp=>by cases hp) h
        .rename_i q' j';obtain⟨hc,h⟩:=zci h;exact fin (λp hp=>by simp only[zav,w00] at hp;subst hp;exact hc) h
      .cases h
   .cases h
  .cases h
 .cases h
theorem yey[Dr]{P:Program}{C:Cx P}{c:Nat}{y:SV V.T}{m:List (V.T c)}{o:Operand}(hpos:0<V.sz c)(h:srcX V s.ob c y=some m)(hy:Ev (s.st V P A) o (y.den V P A)):Src C (s.st V P A) o m.length (m.flatMap (V.ev c)):=by
 unfold srcX at h;split at h
 .split at h
  .rename_i e;subst e;simp only[w00] at h;subst h;exact Src.ro (V.ev_len _) hpos hy
  .cases h
 .rename_i j;split at h
  .rename_i E c' l ho;split at h
   .rename_i e;subst e;simp only[w00] at h;subst h;simp only[SV.den] at hy;cases ha:A[j]? with
    |none=>rw[ha] at hy;exact λa r S w hw hs=>(hy a r w hs).elim
    |some q=>rw[ha] at hy;exact Src.row j hy (zt V P ha ho)
   .cases h
  .cases h
 .rename_i j lo hi z;split at h
  .rename_i E c' l ho;split at h
   .rename_i e;subst e;cases hb:Nat.beq z (V.sz c') with
    |false=>rw[hb] at h;cases h
    |true=>
     rw[hb] at h;have e:=w01 hb;subst e;simp only[cond_true,w00] at h;subst h;simp only[SV.den] at hy;cases ha:A[j]? with
     |none=>rw[ha] at hy;exact λa r S w hw hs=>(hy a r w hs).elim
     |some q=>rw[ha] at hy;exact Src.prt j (V.ev_len _) hy (zt V P ha ho)
   .cases h
  .cases h
 .simp only[w00] at h;subst h;exact Src.nil hy
 .cases h
theorem y92[Dr](hl:A.length=s.ob.length){i E c z by' t ty:Nat}{l:List (V.T c)}{y:SV V.T}{x o:Operand}{k:SV V.T->SS V.T->Option R}(h:appX V s ty i E c by' l y k=some r)(ho:s.ob[i]? = some (.row E c l))(ht:tsl N.P t=some (E,z,by'))(hz:z=V.sz c)
  (hby:0<by') (hx:Ev (s.st V N.P A) x ((SV.own i:SV V.T).den V N.P A)) (hy:Ev (s.st V N.P A) o (y.den V N.P A)) (dst pos after guard) :
  OpT C ⟨dst,.call { callee:=.builtin .append,args:=#[x,o],argTypes:=#[t,t] },ty,pos,after,guard⟩ (s.st V N.P A) (LOK V N.P r A s k):=by
 unfold appX at h;subst hz;split at h
 .rename_i m hm;obtain⟨hf,hk⟩:=zci h;simp only[SV.den] at hx;cases ha:A[i]? with
  |none=>rw[ha] at hx;exact zbr hx
  |some q=>
   rw[ha] at hx;have hob:=zt V N.P (A:=A) (ps:=A) ha ho;obtain⟨_,_,_,_,_,_,_,_,hpos⟩:=zhf ht;refine y7j i ht (V.ev_len c) hx hob (yey (by simpa using hpos) hm hy) hf (y6i hby hf) λv'=>⟨[(0,v')],_,_,hk,by simp[hl],?_,?_⟩
   .simp only[SV.den];rw[zay A _ _ hl];exact Ent.refl
   .have hi:=(w04.1 ho).1;have hlen:=zbs V N.P (A:=A) A s.ob hl;refine ObW.trans (ObW.mv (i:=i) (H:=row E (V.ev c) (V.sz c) (l++m) v') (by rw[w2p (by simpa[SS.st,hlen] using hi)])) ?_;have e1 :((s.st V N.P A).objs.set i (row E (V.ev c) (V.sz c) (l++m) v')).set i emp=obD V N.P A A (s.ob.set i .emp):=by rw[w5e,z4r V N.P A s.ob i q .emp ha];rfl
    rw[e1];exact z3q (by simp[hl]) (us:=[.row E c (l++m)]) ⟨EntH.refl,trivial⟩
 .cases h
end
end Px
end
section
namespace Px
open Go Go.RowKit
section
variable{V:TE}{N:Env V}{R:Type}{r:R}{C:Cx N.P}{A:Asg}{s:SS V.T}
theorem y7b[Dr]{P:Program}(hl:A.length=s.ob.length){C:Cx P}{o:Oper}(E c:Nat){K:VP->List HP->Prop}(h:OpT C o (({ s with ob:=s.ob++[.row E c []] } : SS V.T).st V P (A++[(0,.slice none 0 0)])) K):OpT C o (s.st V P A) K:=by refine OpT.weak (λa ro w hs=>zdd V P (AExt.app A _) hs) ?_ h;refine ObW.trans (b:=obD V P A A s.ob++[row E (V.ev c) (V.sz c) [] (.slice none 0 0)]) (λw0 base r S w hw=>⟨S,hw.addNil _ (.inl ⟨rfl,rfl⟩)⟩) ?_;exact z3q hl (us:=[.row E c []]) ⟨EntH.refl,trivial⟩
theorem y0g[Dr](hl:A.length=s.ob.length)(hkn:chP s.gb s.kn){E c z by' t ty:Nat}{y:SV V.T}{x o:Operand}{k:SV V.T->SS V.T->Option R}(h:appX V { s with ob:=s.ob++[.row E c []] } ty s.ob.length E c by' [] y k=some r)(ht:tsl N.P t=some (E,z,by'))(hz:z=V.sz c)
  (hby:0<by') (hx:evO s.sl s.kn x=some (.val (.slice none 0 0))) (hy:evO s.sl s.kn o=some y) (dst pos after guard) :
  OpT C ⟨dst,.call { callee:=.builtin .append,args:=#[x,o],argTypes:=#[t,t] },ty,pos,after,guard⟩ (s.st V N.P A) (LOK V N.P r A s k):=by
 refine y7b hl E c ?_;have hl1 :(A++[((0:Nat),Value.slice none 0 0)]).length =({ s with ob:=s.ob++[.row E c []] } : SS V.T).ob.length:=by simp[hl]
 have hx1:=z2h V N.P (A:=A++[((0:Nat),Value.slice none 0 0)]) (s:={ s with ob:=s.ob++[.row E c []] }) hx hkn;have hy1:=z2h V N.P (A:=A++[((0:Nat),Value.slice none 0 0)]) (s:={ s with ob:=s.ob++[.row E c []] }) hy hkn;refine(y92 hl1 h (by simp) ht hz hby ?_ hy1 dst pos after guard).mono ?_
 .simp only[SV.den] at hx1⊢;rw[zay A _ _ hl];exact hx1
 .rintro v objs ⟨B,ob',w,h1,h2,h3,h4⟩;rw[w0q] at h2 h3 h4;exact⟨_,ob',w,h1,h2,h3,h4⟩
theorem zvn[Dr]{P:Program}{A B:Asg}: ∀(ps:Asg)(cs:List RC)(x:RTup V.T cs),obD V P A ps (newR V cs x)=obD V P B ps (newR V cs x)
 |ps,[],x=>by cases ps<;>rfl
 |ps,.val c::cs,x=>by simp only[newR];exact zvn ps cs x.2
 | [],.row E c::cs,x=>by simp[newR,obD]
 |p::ps,.row E c::cs,x=>by simp only[newR,obD,SO.den];rw[zvn ps cs x.2]
theorem zqy[Dr]{P:Program}{A:Asg}: ∀(ps:Asg)(cs:List RC)(x:RTup V.T cs),cs.all (flR V)=true->∀H∈obD V P A ps (newR V cs x),H.flat
 |ps,[],x,_,H,hH=>by cases ps<;>simp[newR,obD] at hH
 |ps,.val c::cs,x,h,H,hH=>by simp only[w1h,w02] at h;simp only[newR] at hH;exact zqy ps cs x.2 h.2 H hH
 | [],.row E c::cs,x,h,H,hH=>by simp[newR,obD] at hH
 |p::ps,.row E c::cs,x,h,H,hH=>by
  simp only[w1h,w02,flR] at h;simp only[newR,obD,SO.den,w0c] at hH;rcases hH with rfl|hH
  .exact zsx (zhw V _ c h.1)
  .exact zqy ps cs x.2 h.2 H hH
theorem zhv[Dr]{P:Program}{A B:Asg}{n:Nat}(hl:A.length=n):∀(j:Nat)(cs:List RC)(x:RTup V.T cs),denV V P (A++B) (encR V (n+j) cs x)=denV V P B (encR V j cs x)
 |j,[],x=>rfl
 |j,.val c::cs,x=>by simp only[encR,denV,z43,zhv hl j cs x.2]
 |j,.row E c::cs,x=>by
  have h1 :(A++B)[n+j]? = B[j]?:=by rw[w0z (by omega)];congr 1;omega
  simp only[encR,denV,SV.den,h1];rw[w2h,zhv hl (j+1) cs x.2]
theorem zhu[Dr]{P:Program}{B:Asg}: ∀(n:Nat)(res:List RC)(r:RTup V.T res),res.all (flR V)=true->∀X∈denV V P B (encR V n res r),X.flat
 |n,[],r,_,X,hX=>by simp[encR,denV] at hX
 |n,.val c::cs,r,hf,X,hX=>by
  simp only[w1h,w02,flR] at hf;simp only[encR,denV,w0c,z43] at hX;rcases hX with rfl|hX
  .exact y54 V hf.1 _
  .exact zhu n cs r.2 hf.2 X hX
 |n,.row E c::cs,r,hf,X,hX=>by
  simp only[w1h,w02] at hf;simp only[encR,denV,w0c] at hX;rcases hX with rfl|hX
  .simp only[SV.den];cases B[n]? with
   |none=>exact λ_ _ _ _ _ h=>h.elim
   |some q=>exact zco
  .exact zhu (n+1) cs r.2 hf.2 X hX
theorem y5p[Dr](hN:z5f V N)(hl:A.length=s.ob.length)(hkn:chP s.gb s.kn){f:Nat}{as:Array Operand}{ts:Array TypeId}{ty:TypeId}{k:SV V.T->SS V.T->Option R}{sp:Fsp V}(hsp:N.fn f=some sp)
  (h :(match decA V (bif sp.res.all (flR V) then rdSl s.ob else rdSl []) s.sl s.kn sp.args as.toList with
    |some a=>bif zn.fnok N.P f then(sp.F a).bind λr=>k (resV V (encR V s.ob.length sp.res r)) { s with ob:=s.ob++newR V sp.res r } else none
    |none=>none)=some r) (dst pos after guard) :
  OpT C ⟨dst,.call { callee:=.value (.func f),args:=as,argTypes:=ts },ty,pos,after,guard⟩ (s.st V N.P A) (LOK V N.P r A s k):=by
 split at h
 .rename_i a ha;cases h4:zn.fnok N.P f with
  |false=>rw[h4] at h;cases h
  |true=>
   rw[h4] at h;simp only[cond_true] at h;obtain⟨y,hy,hk⟩:=bind_some h;have hp:=hN.fn f sp hsp a y hy;have fin:∀x news,Kres V N.P sp.res y x news->LOK V N.P r A s k x ((s.st V N.P A).objs++news):=by
    rintro x news ⟨B,hB,rfl,rfl⟩;refine⟨B,_,_,hk,by simp[hl,hB],?_,?_⟩
    .have:=zhv (P:=N.P) (V:=V) (B:=B) hl 0 sp.res y
     rw[w3u] at this;exact Ent.of_eq (zra V N.P this.symm)
    .refine z3q hl ?_;rw[zvn (A:=B) (B:=A++B)];exact(by
      generalize obD V N.P (A++B) B (newR V sp.res y)=l
      induction l with
      |nil=>trivial
      |cons a l ih=>exact⟨EntH.refl,ih⟩)
   cases h5:sp.res.all (flR V) with
   |true=>
    rw[h5] at ha;refine zvq (z7u N.P h4) (zf2 V N.P hkn ha) hp λx news hK=>?_
    obtain⟨B,hB,hx,hn⟩:=id hK;subst hx;subst hn;exact⟨zn4 V N.P (zhu 0 sp.res y h5),zqy B sp.res y h5,fin _ _ hK⟩
   |false=>rw[h5] at ha;exact y3l (z7u N.P h4) (zgf V N.P hkn ha) hp fin
 .cases h
theorem ybg{c:Nat}{x:V.T c}{n:Int}(h:intD (V.d c) x=some n):V.vl c x=iv .i64 n:=by
 revert h;unfold TE.vl;generalize V.ev c x=m;revert x;generalize V.d c=d;generalize V.T c=α at d;intro x h;cases d with
 |int k=>
  simp only[intD] at h;split at h
  .rename_i e;subst e;simp only[w00] at h;subst h;rfl
  .cases h
 |_=>simp[intD] at h
theorem zwj[Dr]{P:Program}{q:Nat}{r:RTup V.T [.val q]}{n:Int}(h:intD (V.d q) r.1=some n){x:VP}{news:List HP}(hk:Kres V P [.val q] r x news):x=iv .i64 n/\news = []:=by obtain⟨B,_,rfl,rfl⟩:=hk;refine⟨?_,by cases B<;>rfl⟩;simp only[encR,resV,z43];exact ybg h
theorem FEnt.ent[Dr]{P:Program}{C:Cx P}{s:St}{X Y Z:VP}(h:FEnt C s X Y)(k:Ent Y Z):FEnt C s X Z:=λr S w v hw hx=>k _ w v (h r S w v hw hx)
theorem yak[Dr]{P:Program}{c f:Nat}{sp:Fsp V}{g:V.T c->V.T c->Option Int}(hsp:z19 V P f sp)(h:cmpF V c sp=some g)(x y:V.T c)(n:Int)(hn:g x y=some n):zdq P f [V.vl c x,V.vl c y] λX news=>X=iv .i64 n/\news = []:=by
 unfold cmpF at h;split at h
 .rename_i a b q F;split at h
  .rename_i e;split at h
   .rename_i e2;subst e;subst e2;simp only[w00] at h;subst h;obtain⟨r,hr,hq⟩:=bind_some hn;exact(hsp (x,y,()) r hr).mono λX news hk=>zwj hq hk
   .cases h
  .cases h
 .cases h
theorem yaj[Dr]{P:Program}{c f:Nat}{sp:Csp V}{z:KCs V.T sp.caps}{g:V.T c->V.T c->Option Int}(hsp:zyl V P f sp)(h:cmpC V c sp z=some g)(x y:V.T c)(n:Int)(hn:g x y=some n):zdq P f ([V.vl c x,V.vl c y]++denV V P [] (encK V sp.caps z)) λX news=>X=iv .i64 n/\news = []:=by
 unfold cmpC at h;split at h
 .rename_i a b _ q F z;split at h
  .rename_i e;split at h
   .rename_i e2;subst e;subst e2;simp only[w00] at h;subst h;obtain⟨r,hr,hq⟩:=bind_some hn;exact(hsp (x,y,()) z r hr).mono λX news hk=>zwj hq hk
   .cases h
  .cases h
 .cases h
theorem yal[Dr](hN:z5f V N){c:Nat}{x:SV V.T}{g:V.T c->V.T c->Option Int}(h:cmpX V N s.ob c x=some g):FEnt C (s.st V N.P A) (x.den V N.P A) (fcmp N.P (λy=>V.vl c y) g):=by
 unfold cmpX at h;split at h
 .split at h
  .rename_i e;subst e;simp only[w00] at h;subst h;exact FEnt.refl
  .cases h
 .rename_i f caps;cases h4:zn.fnok N.P f with
  |false=>rw[h4] at h;cases h
  |true=>
   rw[h4] at h;simp only[cond_true] at h;cases hf:N.fn f with
   |some sp=>
    rw[hf] at h;cases hc:caps.isEmpty with
    |false=>rw[hc] at h;cases h
    |true=>rw[hc] at h;simp only[cond_true] at h;have e:caps = []:=w4k.1 hc;subst e;simp only[SV.den,denV];exact FEnt.refl.ent (zlo (z7u N.P h4) λx y n hn=>yak (hN.fn f sp hf) h x y n hn)
   |none=>
    rw[hf] at h;simp only at h;cases hcl:N.cl f with
    |none=>rw[hcl] at h;cases h
    |some sp=>
     rw[hcl] at h;simp only at h;split at h
     .rename_i z hz;simp only[SV.den];exact(FEnt.fnc N.P (zps V N.P hz)).ent (zlo (z7u N.P h4) λx y n hn=>yaj (hN.cl f sp hcl) h x y n hn)
     .cases h
 .cases h
theorem y75[Dr](hN:z5f V N)(hkn:chP s.gb s.kn){sl:Sls V.T}(hsl:sl=s.sl):∀{ms:List MA}{os:List Operand}{a:MTup V.T ms},zmb V N s.ob sl s.kn ms os=some a->∀ac r T w,WInv C.w0 C.base (s.st V N.P A).objs r T w->zj (s.st V N.P A).slots ac r w->
  (os.map ac.eval).length =(msD V N.P ms a).length/\∀(k:Nat)(B:VP),(msD V N.P ms a)[k]? = some B->B.h (λb=>r b\/∃j,T j b) w ((os.map ac.eval).getD k undef):=by
 subst hsl;have step:∀{X:VP}{Xs:List VP}{o:Operand}{os:List Operand}{ac:Act}{R:Nat->Prop}{w:World},X.h R w (ac.eval o)->(os.map ac.eval).length=Xs.length/\(∀(k:Nat)(B:VP),Xs[k]? = some B->B.h R w ((os.map ac.eval).getD k undef))->
   ((o::os).map ac.eval).length =(X::Xs).length/\∀(k:Nat)(B:VP),(X::Xs)[k]? = some B->B.h R w (((o::os).map ac.eval).getD k undef):=by
  intro X Xs o os ac R w h1 ⟨h2,h3⟩;refine⟨by simpa using h2,λk B hB=>?_⟩;cases k with
  |zero=>simp at hB;subst hB;exact h1
  |succ k=>simpa using h3 k B (by simpa using hB)
 intro ms
 induction ms with
 |nil=>
  intro os a h ac r T w hw hs;cases os with
  |nil=>exact⟨rfl,λk B h=>by simp[msD] at h⟩
  |cons o os=>simp[zmb] at h
 |cons m ms ih=>
  intro os a h ac r T w hw hs;cases os with
  |nil=>cases m<;>simp[zmb] at h
  |cons o os=>
   cases m with
   |fn f=>
    simp only[zmb] at h;split at h
    .rename_i g ho;cases hb:Nat.beq f g with
     |false=>rw[hb] at h;cases h
     |true=>
      rw[hb] at h;have e:=w01 hb;subst e;simp only[cond_true] at h;split at h
      .rename_i q hq;simp only[w00] at h;subst h;refine step ?_ (ih hq ac r T w hw hs);obtain⟨caps,hv,hc,_⟩:=z2h V N.P (A:=A) ho hkn ac r w hs;have:caps = #[]:=by simp only[denV,w38] at hc;exact Array.eq_empty_of_size_eq_zero hc
       subst this;exact hv
      .cases h
    .cases h
   |val c=>
    simp only[zmb] at h;split at h
    .rename_i y hy;split at h
     .rename_i q hq;simp only[w00] at h;subst h;obtain⟨x,ho,hd⟩:=w4d.1 hy;refine step ?_ (ih hq ac r T w hw hs);exact VP.mono _ (λ_ hb=>.inl hb) (λ_ _=>rfl) (z6h V N.P hd _ _ _ (z2h V N.P (A:=A) ho hkn ac r w hs))
     .cases h
    .cases h
   |cmp c=>
    simp only[zmb] at h;split at h
    .rename_i y hy;split at h
     .rename_i q hq;simp only[w00] at h;subst h;obtain⟨x,ho,hd⟩:=w4d.1 hy;exact step (yal (C:=C) (A:=A) hN hd r T w _ hw (z2h V N.P (A:=A) ho hkn ac r w hs)) (ih hq ac r T w hw hs)
     .cases h
    .cases h
def actB(A:Asg)(ob:List (SO V.T))(j b:Nat):Prop:=∃q,A[j]? = some q/\((∃kc vc E m,ob[j]? = some (.x (.map kc vc E m none))/\b=q.1)\/(∃kc vc m c,ob[j]? = some (.x (.it kc vc m c))/\b=q.1)\/∃E c l n,ob[j]? = some (.x (.fix E c l))/\q.2 = .slice (some ⟨b,0,none⟩) n n)
theorem y0c[Dr]{P:Program}{w0 w:World}{base:Nat}{r:Nat->Prop}{S:Nat->Nat->Prop}(hw:WInv w0 base (obD V P A A s.ob) r S w):zru (λb=>∃j,actB A s.ob j b) w:=by
 rintro b ⟨j,q,hq,h⟩ o u hu;rcases h with⟨kc,vc,E,m,ho,rfl⟩|⟨kc,vc,m,c,ho,rfl⟩|⟨E,c,l,n,ho,hn⟩
 .obtain⟨hv,hn⟩:=hw.obj j _ (zt V P hq ho);obtain⟨es,clock,hc,_⟩:=y38 hn;simp[World.cell?,hc] at hu
 .obtain⟨hv,hS,_,hn⟩:=hw.obj j _ (zt V P hq ho);rcases hn with⟨a,c',d,hc,_⟩|⟨_,_,_,_,_,hc,_⟩<;>simp[World.cell?,hc] at hu
 .exact(y1i V P hw).1 b ⟨j,E,c,l,q,n,ho,hq,hn⟩ o u hu
theorem ye1{κ ν:Type}{e:κ->List Int}{eK:κ->Value}{eV:ν->Value}{m:List (κ×ν)}{b:Nat}{S S' r:Nat->Prop}{w:World}(h :(nmp b e eK (plI eV) m none).h S r w)(hb:S b->S' b):(nmp b e eK (plI eV) m none).h S' r w:=by obtain⟨t,Sk,hm,hS,hc,hh,hE,_⟩:=h;exact⟨t,λ_ _=>False,hm,hb hS,hc,hh,λp hp hne=>hE p hp hne,λc x hx=>hx.elim,λc c' x hx=>hx.elim⟩
theorem zy0{i:Nat}: ∀{ob:List (SO V.T)}{n j:Nat}{o:SO V.T},zmt V i n ob=true->ob[j]? = some o->i≠n+j->o = .emp\/(∃kc vc E m,o = .x (.map kc vc E m none)/\zaw (V.d vc)=true)\/(∃kc vc m c,o = .x (.it kc vc m c))\/∃E c l,o = .x (.fix E c l)
 | [],n,j,o,h,hj,hne=>by simp at hj
 |p::ob,n,j,o,h,hj,hne=>by
  have key :(p = .emp\/(∃kc vc E m,p = .x (.map kc vc E m none)/\zaw (V.d vc)=true)\/(∃kc vc m c,p = .x (.it kc vc m c))\/(∃E c l,p = .x (.fix E c l))\/i=n)/\zmt V i (n+1) ob=true:=by
   unfold zmt at h;split at h
   .rename_i e;cases e
   .rename_i e;cases e;exact⟨.inl rfl,h⟩
   .rename_i e;cases e;simp only[w02] at h;exact⟨.inr (.inl ⟨_,_,_,_,rfl,h.1⟩),h.2⟩
   .rename_i e;cases e;exact⟨.inr (.inr (.inl ⟨_,_,_,_,rfl⟩)),h⟩
   .rename_i e;cases e;exact⟨.inr (.inr (.inr (.inl ⟨_,_,_,rfl⟩))),h⟩
   .rename_i e;cases e;simp only[w02] at h;exact⟨.inr (.inr (.inr (.inr (w01 h.1)))),h.2⟩
  cases j with
  |zero=>
   simp at hj;subst hj;rcases key.1 with q|q|q|q|q
   .exact .inl q
   .exact .inr (.inl q)
   .exact .inr (.inr (.inl q))
   .exact .inr (.inr (.inr q))
   .exact absurd q hne
  |succ j=>exact zy0 key.2 (by simpa using hj) (by omega)
theorem y5o[Dr](hN:z5f V N)(hl:A.length=s.ob.length)(hkn:chP s.gb s.kn){f:Nat}{args:Array Operand}{ts:Array TypeId}{ty:TypeId}{k:SV V.T->SS V.T->Option R}{m:Msp V}{x:Operand}{gs:List Operand}(hmu:N.mu f=some m)(hargs:args.toList=x::gs)
  (h :(match evO s.sl s.kn x with
     |some (.own i)=>match s.ob[i]?,zmb V N (s.ob.set i .emp) s.sl s.kn m.ms gs with
      |some (.row E c l),some a=>bif Nat.beq E m.E&&(V.fl m.c||(V.sep m.c&&zmt V i 0 s.ob))&&zn.fnok N.P f then(if h:c=m.c then(m.F (h ▸ l) a).bind λl'=>k (.val (.tuple #[])) (updO V s i (.row m.E m.c l')) else none) else none
      |_,_=>none
     |_=>none)=some r) (dst pos after guard) :
  OpT C ⟨dst,.call { callee:=.value (.func f),args:=args,argTypes:=ts },ty,pos,after,guard⟩ (s.st V N.P A) (LOK V N.P r A s k):=by
 split at h
 .rename_i i hx;split at h
  .rename_i E c l a ho hm;cases hb :(Nat.beq E m.E&&(V.fl m.c||(V.sep m.c&&zmt V i 0 s.ob))&&zn.fnok N.P f) with
   |false=>rw[hb] at h;cases h
   |true=>
    rw[hb] at h;simp only[w02,w0s] at hb;have e1:=w01 hb.1.1;subst e1;simp only[cond_true] at h;split at h
    .rename_i e;subst e;obtain⟨l',hl',hk⟩:=bind_some h;have hx':=z2h V N.P (A:=A) hx hkn;simp only[SV.den] at hx';cases ha:A[i]? with
     |none=>rw[ha] at hx';exact zbr hx'
     |some q=>
      rw[ha] at hx';have hob:=zt V N.P (A:=A) (ps:=A) ha ho;refine y7m N.P (sv:=q.2) i hob ?_ (z7u N.P hb.2) (args:=eqv q.2::msD V N.P m.ms a) ?_ (hN.mu f m hmu l a l' q.2 hl') ?_
      .intro r0 S w hw;rcases hb.1.2 with hfl|⟨hsp,hon⟩
       .exact⟨λj b=>j≠i/\S j b,λj b h=>h,λj H hj hH=>by
         have :(λb=>j≠i/\S j b)=S j:=by funext b;exact propext ⟨λh=>h.2,λh=>⟨hj,h⟩⟩
         show H.h (λb=>j≠i/\S j b) r0 w;rw[this];exact hw.obj j H hH,.inl λy B hB=>(zhw V _ _ hfl y).mem B hB⟩
       .refine⟨λj b=>j≠i/\S j b/\actB A s.ob j b,λj b h=>⟨h.1,h.2.1⟩,λj H hj hH=>?_,.inr ⟨λy B hB=>zsr V _ _ hsp y B hB,?_⟩⟩
        .have hjl:j<s.ob.length:=by have:=(w04.1 hH).1;have e2 :(s.st V N.P A).objs.length=s.ob.length:=zbs V N.P A s.ob hl;omega
         have hjo:s.ob[j]? = some (s.ob[j]'hjl):=w0a hjl;obtain⟨p,hp⟩:∃p,A[j]? = some p:=⟨_,w0a (hl ▸ hjl)⟩;have hH2:=zt V N.P (A:=A) (ps:=A) hp hjo;have eH:H =(s.ob[j]'hjl).den V N.P A p:=by have:=hH.symm.trans hH2;simpa using this
         have hd:=hw.obj j H hH;rcases zy0 (n:=0) hon hjo (by omega) with q1|⟨kc,vc,E2,mm,q1,hsc⟩|⟨kc,vc,mm,cc,q1⟩|⟨E2,c2,l2,q1⟩
         .rw[eH,q1];trivial
         .rw[q1] at eH hjo;subst eH;obtain⟨hv,hn⟩:=hd;refine⟨hv,?_⟩;rw[zta hsc] at hn⊢;exact ye1 hn λhS=>⟨hj,hS,p,hp,.inl ⟨kc,vc,E2,mm,hjo,rfl⟩⟩
         .rw[q1] at eH hjo;subst eH;obtain⟨hv,hS,hn⟩:=hd;exact⟨hv,⟨hj,hS,p,hp,.inr (.inl ⟨kc,vc,mm,cc,hjo,rfl⟩)⟩,hn⟩
         .rw[q1] at eH hjo;subst eH;obtain⟨⟨hbl,g0,n0,hg0⟩,hr⟩:=hd;refine⟨⟨hbl,g0,n0,hg0⟩,?_⟩;rcases hr with hn|⟨g,cap,cur,hv,hS,hcur,h5⟩
          .exact .inl hn
          .refine .inr ⟨g,cap,cur,hv,⟨hj,hS,p,hp,.inr (.inr ⟨E2,c2,l2,n0,hjo,?_⟩)⟩,hcur,h5⟩;rw[hg0] at hv⊢;simp only[Value.slice.injEq,w00,Addr.mk.injEq] at hv;rw[hv.1.1]
        .rintro b ⟨j,_,_,hab⟩;exact y0c hw b ⟨j,hab⟩
      .intro ac r0 T w hw hs;have hob':obD V N.P A A (s.ob.set i .emp) =(s.st V N.P A).objs.set i Px.emp:=by rw[z4r V N.P A s.ob i q _ ha];rfl
       have hM:=y75 (C:=C) (A:=A) (s:={ s with ob:=s.ob.set i .emp }) hN hkn rfl hm ac r0 T w (by show WInv C.w0 C.base (obD V N.P A A (s.ob.set i .emp)) r0 T w;rw[hob'];exact hw) hs;rw[hargs];refine⟨by simpa using hM.1,λk B hB=>?_⟩;cases k with
       |zero=>simp at hB;subst hB;exact hx' ac r0 w hs
       |succ k=>simpa using hM.2 k B (by simpa using hB)
      .rintro y l2 ⟨rfl,rfl⟩;refine⟨zco,[],s.ob.set i (.row m.E m.c l2),.val (.tuple #[]),hk,by simp[hl],by rw[w0e];exact Ent.refl,?_⟩;rw[w0e,z4r V N.P A s.ob i q _ ha];exact ObW.refl
    .cases h
  .cases h
 .cases h
theorem yex[Dr](hN:z5f V N)(hl:A.length=s.ob.length)(hkn:chP s.gb s.kn){f:Nat}{x:Operand}{ts:Array TypeId}{ty:TypeId}{k:SV V.T->SS V.T->Option R}(h:soX V N s f x k=some r)(dst pos after guard):
  OpT C ⟨dst,.call { callee:=.value (.func f),args:=#[x],argTypes:=ts },ty,pos,after,guard⟩ (s.st V N.P A) (LOK V N.P r A s k):=by
 unfold soX at h;split at h
 .rename_i sp g y hsp hx;cases hb :(Nat.beq g sp.g&&zn.fnok N.P f&&V.fl sp.kc) with
  |false=>rw[hb] at h;cases h
  |true=>
   rw[hb] at h;simp only[w02] at hb;have e:=w01 hb.1.1;subst e;simp only[cond_true] at h;split at h
   .rename_i m hm;obtain⟨hk,h⟩:=zci h;have hv:=z2h V N.P (A:=A) hx hkn;rw[SV.den] at hv;simp only[denV] at hv;refine zvq (z7u N.P hb.1.2) (args:=[fnc sp.g [rop0 [V.mv V.ev sp.kc sp.vc m]]]) ?_ (hN.so f sp hsp m hk) λx news hK=>?_
    .exact⟨EvF.of hv (FEnt.fnc N.P ⟨y5u V N.P hm,trivial⟩),trivial⟩
    .obtain⟨sv,rfl,rfl⟩:=hK;refine⟨zco,λH hH=>?_,⟨[(0,sv)],_,_,h,by simp[hl],?_,?_⟩⟩
     .simp only[w0d] at hH;subst hH;exact zsx (zhw V _ _ hb.2)
     .simp only[SV.den,zay A _ _ hl];exact Ent.refl
     .exact z3q (V:=V) (P:=N.P) (A:=A) (B:=[(0,sv)]) hl (us:=[.row sp.E sp.kc (m.map (·.1))]) (H:=[row sp.E (V.ev sp.kc) (V.sz sp.kc) (m.map (·.1)) sv]) ⟨EntH.refl,trivial⟩
   .cases h
 .cases h
def ybj:Op->Bool
 | .store ..=>true
 | .mapUpdate ..=>true
 |_=>false
theorem zxq[Dr](hN:z5f V N)(hl:A.length=s.ob.length)(hkn:chP s.gb s.kn)(hgb:GbOK s.toFm)(h1:OneA V A s.ob){o:Op}{ty:TypeId}{k:SV V.T->SS V.T->Option R}(h:z3n V N s o ty k=some r)(dst pos after guard)
  (hd:ybj o=true->dst=none):OpT C ⟨dst,o,ty,pos,after,guard⟩ (s.st V N.P A) (LOK V N.P r A s k):=by
 have q:∀{o:Op},zn V N s [] o ty (λv=>k v s)=some r->OpT C ⟨dst,o,ty,pos,after,guard⟩ (s.st V N.P A) (LOK V N.P r A s k):=by intro o h;obtain⟨v,hv,hq⟩:=zd3 (C:=C) (A:=A) hN hkn hgb h1 h;refine OpT.of_q (hq trivial dst pos after guard) ⟨[],s.ob,v,hv,by simp[hl],by rw[w0e];exact Ent.refl,by rw[w0e];exact ObW.refl⟩
 cases o with
 |box t x=>exact yd8 hl hkn h1 h dst pos after guard
 |alloc t=>exact y5h hl h dst pos after guard
 |store t a x=>have:=hd rfl;subst this;exact y8o hl hkn h1 h pos after guard
 |buildSlice t n parts=>exact zpn hl hkn h dst pos after guard
 |makeSlice t x y=>exact ztf hl hkn h dst pos after guard
 |makeMap t hint=>exact zza hl h dst pos after guard
 |range t x=>exact y86 hl hkn h dst pos after guard
 |mapUpdate t x i y=>have:=hd rfl;subst this;exact ztg hl hkn h pos after guard
 |call c=>
  obtain⟨callee,args,ts⟩:=c;simp only[z3n] at h;split at h
  .cases h
  .rename_i x y hargs;have ha:args = #[x,y]:=by cases args;simp at hargs;rw[hargs]
   subst ha;split at h
   .rename_i t t' hts;cases hb:Nat.beq t t' with
    |false=>rw[hb] at h;cases h
    |true=>
     rw[hb] at h;have e:=w01 hb;subst e;have ht:ts = #[t,t]:=by cases ts;simp at hts;rw[hts]
     subst ht;simp only[cond_true] at h;split at h
     .rename_i E z by' i yv htsl hx hy;split at h
      .rename_i E' c l ho;cases hb2 :(Nat.beq E E'&&Nat.beq z (V.sz c)&&Nat.blt 0 by') with
       |false=>rw[hb2] at h;cases h
       |true=>rw[hb2] at h;simp only[w02,w2d] at hb2;have e1:=w01 hb2.1.1;have e2:=w01 hb2.1.2;subst e1;exact y92 hl h ho htsl e2 hb2.2 (z2h V N.P hx hkn) (z2h V N.P hy hkn) dst pos after guard
      .cases h
     .rename_i E z by' yv htsl hx hy;cases hb2 :(Nat.beq z (V.sz (V.code E))&&Nat.blt 0 by') with
      |false=>rw[hb2] at h;cases h
      |true=>rw[hb2] at h;simp only[w02,w2d] at hb2;exact y0g hl hkn h htsl (w01 hb2.1) hb2.2 hx hy dst pos after guard
     .cases h
   .cases h
  .rename_i x y hargs;have ha:args = #[x,y]:=by cases args;simp at hargs;rw[hargs]
   subst ha;cases h
  .exact q h
  .rename_i f;split at h
   .rename_i sp hsp;exact y5p hN hl hkn hsp h dst pos after guard
   .split at h
    .rename_i m x gs hmu hargs;exact y5o hN hl hkn hmu hargs h dst pos after guard
    .rename_i x hmu hargs;have ha:args = #[x]:=by cases args;simp at hargs;rw[hargs]
     subst ha;exact yex hN hl hkn h dst pos after guard
    .cases h
  .cases h
 |_=>exact q h
end
end Px
end
section
namespace Px
open Go Go.RowKit
theorem FzV.tup{sv:Value}{X:VP}{a b:List VP}(h:FzVs sv X a b):FzV sv X (tupv a) (tupv b):=by rintro r w v hx ⟨vs,e,hl,hh⟩;obtain⟨h1,h2⟩:=h.at;refine⟨vs,e,by rw[hl,h1],λi B hB=>?_⟩;obtain⟨A,hA,hAB⟩:=h2 i B hB;exact hAB _ _ _ hx (hh i A hA)
theorem FzV.rop{sv:Value}{X:VP}{a b:List VP}(h:FzVs sv X a b):FzV sv X (rop a) (rop b):=by rintro r w v hx ⟨bl,o,e,hr,hh⟩;obtain⟨h1,h2⟩:=h.at;refine⟨bl,o,e,hr,λj B hB=>?_⟩;obtain⟨A,hA,hAB⟩:=h2 j B hB;obtain⟨u,h3,h4,h5⟩:=hh j A hA;exact⟨u,h3,hAB _ _ _ hx h4,h5⟩
theorem FzVs.reflL{sv:Value}{X:VP}: ∀(l:List VP),FzVs sv X l l
 | []=>trivial
 |a::l=>⟨FzV.refl,FzVs.reflL l⟩
theorem FzVs.app{sv:Value}{X:VP}: ∀{a b c d:List VP},FzVs sv X a c->FzVs sv X b d->FzVs sv X (a++b) (c++d)
 | [],_,[],_,_,h=>h
 |_::_,_,_::_,_,h,k=>⟨h.1,FzVs.app h.2 k⟩
 | [],_,_::_,_,h,_=>h.elim
 |_::_,_,[],_,h,_=>h.elim
section
variable(V:TE)(P:Program)
mutual
theorem zgs[Dr]{A:Asg}{i:Nat}{u:SV V.T}{g:Nat->SV V.T}(hu:z18 u=false)(hga:∀off,z18 (g off)=false){sv:Value}{X:VP}(hA:FzV sv X ((SV.own i:SV V.T).den V P A) (u.den V P A))(hG:∀off,FzV sv X ((SV.ptr i off:SV V.T).den V P A) ((g off).den V P A)):∀(x:SV V.T),FzV sv X (x.den V P A) ((frV i u g x).den V P A)
 | .own j=>by
  simp only[frV];cases hj:Nat.beq j i with
  |false=>exact FzV.refl
  |true=>have:=w01 hj;subst this;exact hA
 | .ptr j off=>by
  simp only[frV];cases hj:Nat.beq j i with
  |false=>exact FzV.refl
  |true=>have:=w01 hj;subst this;exact hG off
 | .agg cs=>by simp only[frV,SV.den];exact FzV.agg (z5d hu hga hA hG cs)
 | .tup xs=>by simp only[frV,SV.den];exact FzV.tup (y1r hu hga hA hG xs)
 | .rop cs=>by simp only[frV,SV.den];exact FzV.rop (z5d hu hga hA hG cs)
 | .func f caps=>by simp only[frV,SV.den];exact FzV.fnc2 (y1r hu hga hA hG caps)
 | .int k n=>FzV.refl
 | .bool b=>FzV.refl
 | .str s=>FzV.refl
 | .val v=>FzV.refl
 | .arr n c f=>FzV.refl
 | .ro c l=>FzV.refl
 | .elt i k z fo=>FzV.refl
 | .pta i off n z idx cnt fo=>FzV.refl
 | .prt i lo hi z=>FzV.refl
 | .und=>FzV.refl
 | .rom kc vc m=>FzV.refl
 | .cmp c f=>FzV.refl
 | .top=>FzV.refl
theorem z5d[Dr]{A:Asg}{i:Nat}{u:SV V.T}{g:Nat->SV V.T}(hu:z18 u=false)(hga:∀off,z18 (g off)=false){sv:Value}{X:VP}(hA:FzV sv X ((SV.own i:SV V.T).den V P A) (u.den V P A))(hG:∀off,FzV sv X ((SV.ptr i off:SV V.T).den V P A) ((g off).den V P A)):∀(cs:List (SV V.T)),FzVs sv X (denL V P A cs) (denL V P A (frL i u g cs))
 | []=>trivial
 | .arr n c f::cs=>by simp only[frL,frV,denL];exact(FzVs.reflL _).app (z5d hu hga hA hG cs)
 | .own j::cs=>by
  have h1:=zgs hu hga hA hG (.own j);simp only[frL,denL];have h2:=z5d hu hga hA hG cs;simp only[frV] at h1⊢;cases hj:Nat.beq j i with
  |false=>rw[hj] at h1;exact⟨h1,h2⟩
  |true=>rw[hj] at h1;simp only[cond_true] at h1⊢;rw[z3d V P u,zgg V P hu];exact⟨h1,h2⟩
 | .ptr j off::cs=>by
  have h1:=zgs hu hga hA hG (.ptr j off);simp only[frL,denL];have h2:=z5d hu hga hA hG cs;simp only[frV] at h1⊢;cases hj:Nat.beq j i with
  |false=>rw[hj] at h1;exact⟨h1,h2⟩
  |true=>rw[hj] at h1;simp only[cond_true] at h1⊢;rw[z3d V P (g off),zgg V P (hga off)];exact⟨h1,h2⟩
 | .agg xs::cs=>by simp only[frL,frV,denL];exact⟨by simpa only[frV] using zgs hu hga hA hG (.agg xs),z5d hu hga hA hG cs⟩
 | .tup xs::cs=>by simp only[frL,frV,denL];exact⟨by simpa only[frV] using zgs hu hga hA hG (.tup xs),z5d hu hga hA hG cs⟩
 | .rop xs::cs=>by simp only[frL,frV,denL];exact⟨by simpa only[frV] using zgs hu hga hA hG (.rop xs),z5d hu hga hA hG cs⟩
 | .func f xs::cs=>by simp only[frL,frV,denL];exact⟨by simpa only[frV] using zgs hu hga hA hG (.func f xs),z5d hu hga hA hG cs⟩
 | .int k n::cs=>by simp only[frL,frV,denL];exact⟨FzV.refl,z5d hu hga hA hG cs⟩
 | .bool b::cs=>by simp only[frL,frV,denL];exact⟨FzV.refl,z5d hu hga hA hG cs⟩
 | .str s::cs=>by simp only[frL,frV,denL];exact⟨FzV.refl,z5d hu hga hA hG cs⟩
 | .val v::cs=>by simp only[frL,frV,denL];exact⟨FzV.refl,z5d hu hga hA hG cs⟩
 | .ro c l::cs=>by simp only[frL,frV,denL];exact⟨FzV.refl,z5d hu hga hA hG cs⟩
 | .elt i k z fo::cs=>by simp only[frL,frV,denL];exact⟨FzV.refl,z5d hu hga hA hG cs⟩
 | .pta i off n z idx cnt fo::cs=>by simp only[frL,frV,denL];exact⟨FzV.refl,z5d hu hga hA hG cs⟩
 | .prt i lo hi z::cs=>by simp only[frL,frV,denL];exact⟨FzV.refl,z5d hu hga hA hG cs⟩
 | .und::cs=>by simp only[frL,frV,denL];exact⟨FzV.refl,z5d hu hga hA hG cs⟩
 | .rom kc vc m::cs=>by simp only[frL,frV,denL];exact⟨FzV.refl,z5d hu hga hA hG cs⟩
 | .cmp c f::cs=>by simp only[frL,frV,denL];exact⟨FzV.refl,z5d hu hga hA hG cs⟩
 | .top::cs=>by simp only[frL,frV,denL];exact⟨FzV.refl,z5d hu hga hA hG cs⟩
theorem y1r[Dr]{A:Asg}{i:Nat}{u:SV V.T}{g:Nat->SV V.T}(hu:z18 u=false)(hga:∀off,z18 (g off)=false){sv:Value}{X:VP}(hA:FzV sv X ((SV.own i:SV V.T).den V P A) (u.den V P A))(hG:∀off,FzV sv X ((SV.ptr i off:SV V.T).den V P A) ((g off).den V P A)):∀(cs:List (SV V.T)),FzVs sv X (denV V P A cs) (denV V P A (frL i u g cs))
 | []=>trivial
 |x::cs=>by simp only[frL,denV];exact⟨zgs hu hga hA hG x,y1r hu hga hA hG cs⟩
end
theorem ydm[Dr]{A:Asg}{i:Nat}{u:SV V.T}{g:Nat->SV V.T}(hu:z18 u=false)(hga:∀off,z18 (g off)=false){sv:Value}{X:VP}(hA:FzV sv X ((SV.own i:SV V.T).den V P A) (u.den V P A))(hG:∀off,FzV sv X ((SV.ptr i off:SV V.T).den V P A) ((g off).den V P A))(p:Nat×Value)(o:SO V.T):FzH sv X (o.den V P A p) ((frO i u g o).den V P A p):=by
 cases o with
 |box t cs=>exact FzH.box (z5d V P hu hga hA hG cs)
 |row E c l=>exact FzH.refl
 |x o=>exact FzH.refl
 |emp=>exact FzH.refl
theorem zxf[Dr]{A:Asg}{i:Nat}{u:SV V.T}{g:Nat->SV V.T}(hu:z18 u=false)(hga:∀off,z18 (g off)=false){sv:Value}{X:VP}(hA:FzV sv X ((SV.own i:SV V.T).den V P A) (u.den V P A))(hG:∀off,FzV sv X ((SV.ptr i off:SV V.T).den V P A) ((g off).den V P A)):∀(ps:Asg)(os:List (SO V.T)),zj1 sv X (obD V P A ps os) (obD V P A ps (os.map (frO i u g)))
 | [],os=>by cases os<;>trivial
 |p::ps,[]=>trivial
 |p::ps,o::os=>⟨ydm V P hu hga hA hG p o,zxf hu hga hA hG ps os⟩
theorem y9k{α β:Type}(f:α->β):∀(l:List (Nat×α))(t:Nat),lk (l.map λp=>(p.1,f p.2)) t =(lk l t).map f
 | [],t=>rfl
 |(k,x)::l,t=>by
  simp only[w0p,lk];cases Nat.beq k t with
  |true=>rfl
  |false=>exact y9k f l t
theorem y1p{i:Nat}{u:SV V.T}{g:Nat->SV V.T}(sl:Sls V.T)(t:Nat):lk (frSl i u g sl) t =(lk sl t).map λe=>(e.1,frV i u g e.2):=y9k (λe:Ch×SV V.T=>(e.1,frV i u g e.2)) sl t
theorem y1q[Dr]{A:Asg}{i:Nat}{u:SV V.T}{g:Nat->SV V.T}(hu:z18 u=false)(hga:∀off,z18 (g off)=false){sv:Value}{X:VP}(hA:FzV sv X ((SV.own i:SV V.T).den V P A) (u.den V P A))(hG:∀off,FzV sv X ((SV.ptr i off:SV V.T).den V P A) ((g off).den V P A)){gb:List (Nat×Bool)}{sl:Sls V.T}{a:Act}{ro:Nat->Prop}{w:World}(hx:X.h ro w sv)
  (hs:zj (slD V P A gb sl) a ro w):zj (slD V P A gb (frSl i u g sl)) a ro w:=by
 intro t B hB;simp only[slD,y1p] at hB;cases hl:lk sl t with
 |none=>rw[hl] at hB;cases hB
 |some e=>
  rw[hl] at hB;simp only[w0r,w00] at hB;subst hB;have h1:=hs t (denE V P A gb e) (by simp[slD,hl]);obtain⟨ch,x⟩:=e;cases ch with
  |nil=>exact zgs V P hu hga hA hG x _ _ _ hx h1
  |cons a r=>exact⟨λhc=>zgs V P hu hga hA hG x _ _ _ hx (h1.1 hc),h1.2⟩
theorem y1o{i:Nat}{u:SV V.T}{g:Nat->SV V.T}{f:Fm V.T}(h:GbOK f):GbOK { f with sl:=frSl i u g f.sl }:=by
 have back:∀t ch z,lk (frSl i u g f.sl) t=some (ch,z)->∃z',lk f.sl t=some (ch,z')/\frV i u g z'=z:=by
  intro t ch z hz;simp only[y1p] at hz;cases hl:lk f.sl t with
  |none=>rw[hl] at hz;cases hz
  |some e=>rw[hl] at hz;simp only[w0r,w00,w0b] at hz;exact⟨e.2,by rw[<- hz.1],hz.2⟩
 refine⟨λt g hg ch z hz=>?_,λt ch z hz=>?_,h.kn⟩
 .obtain⟨z',h1,h2⟩:=back t ch z hz;rw[<- h2,h.val t g hg ch z' h1];rfl
 .obtain⟨z',h1,_⟩:=back t ch z hz;exact h.ch t ch z' h1
variable{V P}
theorem zxg[Dr]{A:Asg}{i:Nat}{u:SV V.T}{g:Nat->SV V.T}(hu:z18 u=false)(hga:∀off,z18 (g off)=false){sv:Value}{X:VP}(hA:FzV sv X ((SV.own i:SV V.T).den V P A) (u.den V P A))(hG:∀off,FzV sv X ((SV.ptr i off:SV V.T).den V P A) ((g off).den V P A)){ro:Nat->Prop}{w:World}(hx:X.h ro w sv):
  ∀{fs:List (Fm V.T)}{as:List GA},Stk V P A ro w fs as->Stk V P A ro w (fs.map λp=>{ p with sl:=frSl i u g p.sl }) as
 | [],[],_=>trivial
 |f::fs,a::as,h=>⟨⟨y1q V P hu hga hA hG hx h.1.1,h.1.2.1,y1o V h.1.2.2.1,h.1.2.2.2⟩,zxg hu hga hA hG hx h.2⟩
 | [],_::_,h=>h.elim
 |_::_,[],h=>h.elim
theorem Stk.mono[Dr]{A:Asg}{ro ro':Nat->Prop}{w:World}(h:∀b,ro b->ro' b):∀{fs:List (Fm V.T)}{as:List GA},Stk V P A ro w fs as->Stk V P A ro' w fs as
 | [],[],_=>trivial
 |f::fs,a::as,hh=>⟨⟨λt B hB=>B.mono h (λ_ _=>rfl) (hh.1.1 t B hB),hh.1.2⟩,Stk.mono h hh.2⟩
 | [],_::_,h=>h.elim
 |_::_,[],h=>h.elim
theorem y9c[Dr]{C:Cx P}{acts:List GA}{s:SS V.T}{a:Act}{w:World}(i:Nat)(u:SV V.T)(g:Nat->SV V.T)(hu:z18 u=false)(hga:∀off,z18 (g off)=false){o:SO V.T}(ho:s.ob[i]? = some o)
  (hx:∀A q r S,A[i]? = some q->(o.den V P A q).h S r w->∃sv X,X.h (λb=>r b\/S b) w sv/\FzV sv X ((SV.own i:SV V.T).den V P A) (u.den V P A)/\∀off,FzV sv X ((SV.ptr i off:SV V.T).den V P A) ((g off).den V P A)) (h:SatS V C acts s a w):SatS V C acts (frC s i u g) a w:=by
 obtain⟨hd,hn,hkn,hgb,A,ro,S,hl,hw,hev,hsl,hst⟩:=h;cases ha:A[i]? with
 |none=>have h1:=(w04.1 ho).1;rw[List.getElem?_eq_none_iff] at ha;omega
 |some q=>
  have hob:=zt V P (A:=A) (ps:=A) ha ho;have hlt:i<(obD V P A A s.ob).length:=(w04.1 hob).1;obtain⟨sv,X,hX,hA,hG⟩:=hx A _ ro (S i) ha (hw.obj i _ hob);have hfo:zj1 sv X ((obD V P A A s.ob).set i Px.emp) (obD V P A A ((s.ob.set i .emp).map (frO i u g))):=by
   have e1 :(obD V P A A s.ob).set i Px.emp=obD V P A A (s.ob.set i .emp):=by rw[z4r V P A s.ob i q .emp ha];rfl
   rw[e1];exact zxf V P hu hga hA hG A _
  obtain⟨r',S',hrr,hw',hev',hx'⟩:=y1u i hlt hw hev.ev hX hfo;exact⟨hd,hn,hkn,y1o V hgb,A,r',S',by simp[frC,hl],hw',hev.up hev' hrr,y1q V P hu hga hA hG hx' (λt B hB=>B.mono hrr (λ_ _=>rfl) (hsl t B hB)),zxg hu hga hA hG hx' (hst.mono hrr)⟩
theorem zxe[Dr]{C:Cx P}{acts:List GA}{s:SS V.T}{a:Act}{w:World}(i:Nat)(u:SV V.T)(hu:z18 u=false){o:SO V.T}(ho:s.ob[i]? = some o)
  (hx:∀A q r S,A[i]? = some q->(o.den V P A q).h S r w->(u.den V P A).h (λb=>r b\/S b) w q.2) (h:SatS V C acts s a w):SatS V C acts (frC s i u (.ptr i)) a w:=
 y9c i u (.ptr i) hu (λ_=>rfl) ho (λA q r S ha hh=>⟨q.2,_,hx A q r S ha hh,by simp only[SV.den,ha];exact FzV.here,λ_=>FzV.refl⟩) h
theorem yfc{c:Nat}(h:ztb (V.d c)=true)(x:V.T c):V.ev c x = [Px.ro (V.ev (zax (V.d c) x).1) (V.sz (zax (V.d c) x).1) (zax (V.d c) x).2]:=by rw[V.ev_eq];revert x h;generalize V.d c=d;generalize V.T c=α at d;intro h x;cases d<;>simp[ztb] at h<;>rfl
theorem yg1{c:Nat}(h:ztb (V.d c)=true):V.sz c=1:=by rw[V.sz_eq];revert h;generalize V.d c=d;generalize V.T c=α at d;intro h;cases d<;>simp[ztb] at h<;>rfl
theorem ydn[Dr]{C:Cx P}{acts:List GA}{s:SS V.T}{a:Act}{w:World}(i:Nat)(h:SatS V C acts s a w):SatS V C acts (frS V s i) a w:=by
 unfold frS;split
 .rename_i T cs ho;refine y9c i (.own i) (frG V i cs) rfl (λoff=>by unfold frG;split<;>rfl) ho (λA q r S ha hh=>?_) h;obtain⟨hS,cur,hcur,hc⟩:=hh;refine⟨.pointer (some ⟨q.1,0,none⟩),Px.rop (denL V P A cs),⟨q.1,0,rfl,.inr hS,λj B hB=>?_⟩,FzV.refl,λoff=>?_⟩
  .obtain⟨v,hv,hBv,ho1⟩:=hc.2 j B hB;refine⟨v,?_,B.mono (λb hb=>.inl hb) (λ_ _=>rfl) hBv,ho1⟩;rw[w13,cell_of_row w q.1 j cur T (0,0) hcur];simpa using hv
  .unfold frG;split
   .rename_i l hl;obtain⟨e1,e2⟩:=zb1 V P (A:=A) cs off l hl;intro r' w' v hX hv;simp only[SV.den,ha,eqv] at hv;subst hv;obtain⟨b,o',hb,hr,hcs⟩:=hX;simp only[Value.pointer.injEq,w00,Addr.mk.injEq,and_true] at hb;obtain⟨rfl,rfl⟩:=hb;simp only[SV.den];refine⟨_,off,rfl,hr,λj B hB=>?_⟩;rw[e1,w1v] at hB;obtain⟨v,hv,hBv⟩:=hcs (off+j) B hB;exact⟨v,by rw[<- hv,w13],hBv⟩
   .exact FzV.refl
 .rename_i o hno ho;cases hf:frX V o with
  |none=>exact h
  |some u=>
   simp only;unfold frX at hf;split at hf
   .rename_i E c l;cases hf;exact zxe i (.ro c l) rfl ho (λA q r S ha h=>zp9 (V.ev_len c) h) h
   .rename_i E E2 c l;cases hf;refine zxe i (.ro c l) rfl ho (λA q r S ha h=>?_) h;obtain⟨hp,hn⟩:=h;show (Px.ro (V.ev c) (V.sz c) l).h _ _ _;have e1:V.ev c=λx=>[Px.ro (V.ev (zax (V.d c) x).1) (V.sz (zax (V.d c) x).1) (zax (V.d c) x).2]:=funext λx=>yfc hp.1 x
    rw[e1,yg1 hp.1];exact ye2 hn λx v S' hh=>zp9 (V.ev_len _) hh
   .rename_i E c l;cases hf;exact zxe i (.ro c l) rfl ho (λA q r S ha h=>zp9 (V.ev_len c) h.2) h
   .rename_i kc vc E m;cases hk:V.okV vc with
    |false=>rw[hk] at hf;cases hf
    |true=>rw[hk] at hf;cases hf;refine zxe i (.rom kc vc m) rfl ho (λA q r S ha h=>?_) h;obtain⟨hp,hn⟩:=h;rw[hp.1];exact y9l V hk hn
   .cases hf
 .exact h
theorem y6w{T:Nat->Type}{c':Nat}{l:List (T c')}: ∀{α:Type}{d:Ds T α}{y:α},y6v c' l d=some y->zax d y =⟨c',l⟩
 |_,.sl c,y,h=>by
  simp only[y6v] at h;split at h
  .rename_i e;subst e;simp only[w00] at h;subst h;rfl
  .cases h
 |_,.int _,_,h|_,.bool,_,h|_,.str,_,h|_,.arr _ _,_,h|_,.map _ _,_,h|_,.st _ _ _ _,_,h=>by simp[y6v] at h
theorem y2a{E kc vc E':Nat}{m:List (V.T kc×V.T vc)}{p:V.T kc×Nat}{α:Type}{d:Ds V.T α}: insM V E d (.x (.map kc vc E' m (some p)))=none:=by
 cases d with
 |map kc' vc'=>simp only[insM,insP];cases zaw (V.d vc')<;>rfl
 |_=>rfl
theorem ybf[Dr]{A:Asg}{E c:Nat}{o:SO V.T}{y:V.T c}{q:Nat×Value}{S r:Nat->Prop}{w:World}(h:insM V E (V.d c) o=some y)(ho :(o.den V P A q).h S r w):(V.inm E c y q.2).h S r w:=by
 unfold TE.inm;revert y h;generalize V.d c=d;revert d;generalize V.T c=α;intro d y h;cases d with
 |sl c=>
  simp only[insM] at h;unfold insS at h;split at h
  .rename_i E' c' l;cases hb:Nat.beq E' E with
   |false=>rw[hb] at h;cases h
   |true=>
    rw[hb] at h;have:=w01 hb;subst this;simp only[cond_true] at h;split at h
    .rename_i e;subst e;cases h;exact ho
    .cases h
  .cases h
 |map kc vc=>
  simp only[insM] at h;cases hs:zaw (V.d vc) with
  |false=>rw[hs] at h;cases h
  |true=>
   rw[hs] at h;simp only[cond_true] at h;unfold insP at h;split at h
   .rename_i kc' vc' E' m;split at h
    .rename_i e;subst e;split at h
     .rename_i e;subst e;cases h;obtain⟨hp,hn⟩:=ho;refine⟨q.1,hp.1,?_⟩;simp only[zta hs] at hn;exact hn
     .cases h
    .cases h
   .cases h
 |_=>simp[insM] at h
theorem SatS.objs[Dr]{C:Cx P}{acts:List GA}{s:SS V.T}{a:Act}{w:World}{ob':List (SO V.T)}(h:SatS V C acts s a w)
  (k:∀A ro S,A.length=s.ob.length->WInv C.w0 C.base (obD V P A A s.ob) ro S w->∃B S',(A++B).length=ob'.length/\WInv C.w0 C.base (obD V P (A++B) (A++B) ob') ro S' w):SatS V C acts { s with ob:=ob' } a w:=by
 obtain⟨hd,hn,hkn,hgb,A,ro,S,hl,hw,hev,hsl,hst⟩:=h;obtain⟨B,S',h1,h2⟩:=k A ro S hl hw;exact⟨hd,hn,hkn,hgb,A++B,ro,S',h1,h2,hev,zdd V P (AExt.app A B) hsl,Stk.ext (AExt.app A B) (Evo.refl C.base _ _) hst⟩
theorem zqj[Dr]{C:Cx P}{acts:List GA}{s s':SS V.T}{a:Act}{w:World}(i:Nat)(hs:zv9 V s i=some s')(h:SatS V C acts s a w):SatS V C acts s' a w:=by
 unfold zv9 at hs;split at hs
 .rename_i kc vc E m k j ho;split at hs
  .rename_i o hj;split at hs
   .rename_i y hy;cases hk:V.key kc with
    |false=>rw[hk] at hs;cases hs
    |true=>
     rw[hk] at hs;simp only[cond_true,w00] at hs;subst hs;refine h.objs λA ro S hl hw=>⟨[],?_⟩
     rw[w0e];have li:=(w04.1 ho).1;have lj:=(w04.1 hj).1;have hij:i≠j:=λe=>by subst e;rw[ho] at hj;cases hj;rw[y2a] at hy;cases hy
     obtain⟨qi,hqi⟩:∃q,A[i]? = some q:=⟨A[i],by simp[hl,li]⟩;obtain⟨qj,hqj⟩:∃q,A[j]? = some q:=⟨A[j],by simp[hl,lj]⟩;have hi:=zt V P (A:=A) (ps:=A) hqi ho;have hj2:=zt V P (A:=A) (ps:=A) hqj hj;obtain⟨S',hw'⟩:=hw.fuse i j (H:=(SO.x (.map kc vc E (cset (V.kl kc) m k y) none):SO V.T).den V P A qi) hij hi hj2 (λh1 h2 hd=>by obtain⟨hp,hn⟩:=h1;refine⟨⟨hp.1,λ_ _ e=>by cases e⟩,?_⟩;simp only[zav,hqj] at hn;exact y7c (ydr hk) hn (ybf hy h2) hd);refine⟨S',by simp[hl],?_⟩;rw[z4r V P A _ j qj .emp hqj,z4r V P A _ i qi _ hqi];exact hw'
   .cases hs
  .cases hs
 .rename_i E E2 c l k j ho;split at hs
  .rename_i E' c' l' hj;cases hb:Nat.beq E' E2 with
   |false=>rw[hb] at hs;cases hs
   |true=>
    rw[hb] at hs;have e1:=w01 hb;subst e1;simp only[cond_true] at hs;split at hs
    .rename_i y hy;simp only[w00] at hs;subst hs;refine h.objs λA ro S hl hw=>⟨[],?_⟩
     rw[w0e];have li:=(w04.1 ho).1;have lj:=(w04.1 hj).1;have hij:i≠j:=λe=>by subst e;rw[ho] at hj;cases hj
     obtain⟨qi,hqi⟩:∃q,A[i]? = some q:=⟨A[i],by simp[hl,li]⟩;obtain⟨qj,hqj⟩:∃q,A[j]? = some q:=⟨A[j],by simp[hl,lj]⟩;have hi:=zt V P (A:=A) (ps:=A) hqi ho;have hj2:=zt V P (A:=A) (ps:=A) hqj hj;obtain⟨S',hw'⟩:=hw.fuse i j (H:=(SO.x (.nst E E' c (zu l k y) none):SO V.T).den V P A qi) hij hi hj2 (λh1 h2 hd=>by obtain⟨hp,hn⟩:=h1;refine⟨⟨hp.1,λ_ _ e=>by cases e⟩,?_⟩;simp only[zef,hqj] at hn;refine y7d hn ?_ hd;unfold TE.inn;rw[y6w hy];exact h2);refine⟨S',by simp[hl],?_⟩;have e3 :(s.ob.set i (.x (.nst E E' c (zu l k y) none)))[j]? = some (.row E' c' l'):=by rw[w24 hij];exact hj
     rw[z4r V P A _ j qj .emp hqj,z4r V P A _ i qi _ hqi];exact hw'
    .cases hs
  .cases hs
 .simp only[w00] at hs;subst hs;exact h
theorem zxd[Dr]{C:Cx P}{acts:List GA}{s:SS V.T}{a:Act}{w:World}(i:Nat)(h:SatS V C acts s a w):SatS V C acts (zt4 V s i) a w:=by
 unfold zt4;cases hf:zv9 V s i with
 |none=>exact h
 |some s'=>exact zqj i hf h
theorem yb4[Dr]{C:Cx P}{R:Type}{r:R}{acts:List GA}{s:SS V.T}{a:Act}{w:World}{i:Nat}{m:Int}{k:SS V.T->Option R}(hf:focX V s i m k=some r)(h:SatS V C acts s a w):∃s',k s'=some r/\SatS V C acts s' a w:=by
 unfold focX at hf;split at hf
 .rename_i s1 hs1;have h1:=zqj i hs1 h;split at hf
  .rename_i E E2 c l ho;obtain⟨hm,hk⟩:=zci hf;refine⟨_,hk,h1.objs λA ro S hl hw=>?_⟩;have li:=(w04.1 ho).1;obtain⟨qi,hqi⟩:∃q,A[i]? = some q:=⟨A[i],by simp[hl,li]⟩;have hi:=zt V P (A:=A) (ps:=A) hqi ho;have hl2 :(obD V P A A s1.ob).length=s1.ob.length:=zbs V P A s1.ob hl;obtain⟨hp,hn⟩:=hw.obj i _ hi;obtain⟨v,S1,S2,n1,n2,n3,n4,n5⟩:=y39 hn (zf6 (z:=V.z c) hm);have hlt:i<(obD V P A A s1.ob).length:=(w04.1 hi).1;have hat :(A++[((0:Nat),v)])[s1.ob.length]? = some (0,v):=zay A _ _ hl;obtain⟨S',hw'⟩:=hw.split i (H1:=(SO.x (.nst E E2 c l (some (m,s1.ob.length))):SO V.T).den V P (A++[(0,v)]) qi) (H2:=row E2 (V.ev (zax (V.d c) (gtz (V.z c) l m)).1) (V.sz (zax (V.d c) (gtz (V.z c) l m)).1) (zax (V.d c) (gtz (V.z c) l m)).2 v) hlt S1 S2 (by
     refine⟨⟨hp.1,λk j e=>?_⟩,?_⟩
     .simp only[w00,w0b] at e;rw[<- e.2,hat];rfl
     .simp only[zef,hat];exact n1) n2 n3 n4 n5
   refine⟨[(0,v)],?_⟩;have hset :(s1.ob.set i (.x (.nst E E2 c l (some (m,s1.ob.length))))).length=A.length:=by simp[hl]
   have hA2 :(A++[((0:Nat),v)])[i]? = some qi:=by rw[w0j (by omega)];exact hqi
   obtain⟨S3,hw3⟩:=ObW.le (z5c.app (c:=[row E2 (V.ev (zax (V.d c) (gtz (V.z c) l m)).1) (V.sz (zax (V.d c) (gtz (V.z c) l m)).1) (zax (V.d c) (gtz (V.z c) l m)).2 v]) (d:=[row E2 (V.ev (zax (V.d c) (gtz (V.z c) l m)).1) (V.sz (zax (V.d c) (gtz (V.z c) l m)).1) (zax (V.d c) (gtz (V.z c) l m)).2 v])
    (by rw[w2e,w2e,hl2,zbs V P A s1.ob hl]) (zfw (zkz V P (AExt.app A [(0,v)]) A s1.ob) i _) ⟨EntH.refl,trivial⟩) _ _ _ _ _ hw'
   refine⟨S3,by simp[hl],?_⟩;rw[zqx V P A _ [(0,v)] _ hset.symm,z4r V P A s1.ob i qi _ hqi];exact hw3
  .cases hf
 .cases hf
theorem ycv[Dr]{E c:Nat}{o:SO V.T}{y:V.T c}{v:Value}{S r:Nat->Prop}{w:World}(h:splM V E (V.d c) y=some o)(hy :(V.inm E c y v).h S r w):∃b,∀A,(o.den V P A (b,v)).h S r w:=by
 unfold TE.inm at hy;revert y h;generalize V.d c=d;revert d;generalize V.T c=α;intro d y h hy;cases d with
 |sl c'=>simp only[splM,w00] at h;subst h;exact⟨0,λA=>hy⟩
 |map kc vc=>
  simp only[splM] at h;cases hs:zaw (V.d vc) with
  |false=>rw[hs] at h;cases h
  |true=>rw[hs] at h;cases h;obtain⟨b,rfl,hn⟩:=hy;refine⟨b,λA=>⟨⟨rfl,λ_ _ e=>by cases e⟩,?_⟩⟩;show (nmp b (V.kl kc) (V.kv kc) (V.inm 0 vc) y none).h S r w;rw[zta hs];exact hn
 |_=>simp[splM] at h
theorem yb3[Dr]{C:Cx P}{R:Type}{r:R}{acts:List GA}{s:SS V.T}{a:Act}{w:World}{i:Nat}{key :(kc:Nat)->Option (V.T kc)}{k:SS V.T->Option R}(hf:focM V s i key k=some r)(h:SatS V C acts s a w):∃s',k s'=some r/\SatS V C acts s' a w:=by
 unfold focM at hf;split at hf
 .rename_i s1 hs1;have h1:=zqj i hs1 h;split at hf
  .rename_i kc vc E m ho;split at hf
   .rename_i y hy;split at hf
    .rename_i x hx;split at hf
     .rename_i o hsp;refine⟨_,hf,h1.objs λA ro S hl hw=>?_⟩;have li:=(w04.1 ho).1;obtain⟨qi,hqi⟩:∃q,A[i]? = some q:=⟨A[i],by simp[hl,li]⟩;have hi:=zt V P (A:=A) (ps:=A) hqi ho;have hl2 :(obD V P A A s1.ob).length=s1.ob.length:=zbs V P A s1.ob hl;obtain⟨hp,hn⟩:=hw.obj i _ hi;obtain⟨v,S1,S2,n1,n2,n3,n4,n5⟩:=y37 hn hx;obtain⟨b,hb⟩:=ycv (P:=P) hsp n2;have hlt:i<(obD V P A A s1.ob).length:=(w04.1 hi).1;have hat :(A++[(b,v)])[s1.ob.length]? = some (b,v):=zay A _ _ hl;obtain⟨S',hw'⟩:=hw.split i (H1:=(SO.x (.map kc vc E m (some (y,s1.ob.length))):SO V.T).den V P (A++[(b,v)]) qi) (H2:=o.den V P (A++[(b,v)]) (b,v)) hlt S1 S2 (by
        refine⟨⟨hp.1,λk j e=>?_⟩,?_⟩
        .simp only[w00,w0b] at e;rw[<- e.2,hat];rfl
        .simp only[zav,hat];exact n1) (hb _) n3 n4 n5
      refine⟨[(b,v)],?_⟩;have hset :(s1.ob.set i (.x (.map kc vc E m (some (y,s1.ob.length))))).length=A.length:=by simp[hl]
      have hA2 :(A++[(b,v)])[i]? = some qi:=by rw[w0j (by omega)];exact hqi
      obtain⟨S3,hw3⟩:=ObW.le (z5c.app (c:=[o.den V P (A++[(b,v)]) (b,v)]) (d:=[o.den V P (A++[(b,v)]) (b,v)])
       (by rw[w2e,w2e,hl2,zbs V P A s1.ob hl]) (zfw (zkz V P (AExt.app A [(b,v)]) A s1.ob) i _) ⟨EntH.refl,trivial⟩) _ _ _ _ _ hw'
      refine⟨S3,by simp[hl],?_⟩;rw[zqx V P A _ [(b,v)] _ hset.symm,z4r V P A s1.ob i qi _ hqi];exact hw3
     .cases hf
    .exact⟨_,hf,h1⟩
   .cases hf
  .cases hf
 .cases hf
theorem zkv[Dr]{C:Cx P}{acts:List GA}{a:Act}{w:World}: ∀(is:List Nat){s:SS V.T},SatS V C acts s a w->SatS V C acts (zt6 V s is) a w
 | [],_,h=>h
 |i::is,s,h=>zkv is (s:=frS V (zt4 V s i) i) (ydn i (zxd i h))
end
end Px
end
section
namespace Px
open Go Go.RowKit
theorem y0p{gb gb':List (Nat×Bool)}{ch:Ch}(h:∀p∈ch,(lk gb p.1).isSome=true->lk gb' p.1=lk gb p.1)(hs:∀p∈ch,(lk gb p.1).isSome=true):chP gb ch↔chP gb' ch:=by
 rw[z7m,z7m];constructor
 .intro k p hp;rw[h p hp (hs p hp)];exact k p hp
 .intro k p hp;rw[<- h p hp (hs p hp)];exact k p hp
theorem zii{gb:List (Nat×Bool)}{kn:Ch}(hk:chP gb kn):∀{ch:Ch},(∀cur,resolve kn ch=some cur->(chP gb ch↔chP gb cur)/\∀p∈cur,p∈ch)/\(resolve kn ch=none->¬chP gb ch)
 | []=>⟨λcur h=>by simp[resolve] at h;subst h;exact⟨Iff.rfl,λp h=>h⟩,λh=>by simp[resolve] at h⟩
 |(t,w)::r=>by
  obtain⟨h1,h2⟩:=zii hk (ch:=r);have cons_iff:∀(p:Nat×Bool)(l:Ch),chP gb (p::l)↔(lk gb p.1).getD false=p.2/\chP gb l:=by intro p l;rw[z7m,z7m,List.forall_mem_cons]
  cases hr:resolve kn r with
  |none=>refine⟨λcur h=>?_,λ_ h=>h2 hr ((cons_iff _ _).1 h).2⟩;simp only[resolve,hr] at h;cases lk kn t<;>cases h
  |some q=>
   obtain⟨e1,e2⟩:=h1 q hr;cases hb:lk kn t with
   |none=>
    refine⟨λcur h=>?_,λh=>by simp[resolve,hr,hb] at h⟩;simp only[resolve,hr,hb,w00] at h;subst h;refine⟨by rw[cons_iff,cons_iff,e1],λp hp=>?_⟩;rcases w0c.1 hp with rfl|hp
    .exact w0m ..
    .exact w09 _ (e2 p hp)
   |some b=>
    have hkt:=ybp hk hb;cases hbw :(b==w) with
    |true=>
     have:b=w:=by simpa using hbw
     subst this;refine⟨λcur h=>?_,λh=>by simp[resolve,hr,hb] at h⟩;simp only[resolve,hr,hb,BEq.rfl,cond_true,w00] at h;subst h;exact⟨by rw[cons_iff,e1];exact⟨λh=>h.2,λh=>⟨hkt,h⟩⟩,λp hp=>w09 _ (e2 p hp)⟩
    |false=>refine⟨λcur h=>by simp[resolve,hr,hb,hbw] at h,λ_ h=>?_⟩;have:=((cons_iff _ _).1 h).1;simp only at this;rw[hkt] at this;subst this;simp at hbw
section
variable{V:TE}{N:Env V}{R:Type}{r:R}{C:Cx N.P}
theorem z0c{α:Type}{d:Nat}{x:α}{l:List (Nat×α)}{t:Nat}: lk ((d,x)::l) t=if t=d then some x else lk l t:=by
 simp only[lk];by_cases h:t=d
 .subst h;simp
 .have:Nat.beq d t=false:=zs1 (λe=>h e.symm);rw[this,if_neg h];rfl
theorem zrd[Dr]{acts:List GA}{s s2:SS V.T}{d:Option Nat}{e:Ch×SV V.T}(hset:y8k V s d e=some s2)(hech:∀p∈e.1,(lk s.gb p.1).isSome=true){A B:Asg}{a:Act}{w w':World}{ro ro':Nat->Prop}{S':Nat->Nat->Prop}{v0:Value}
  (hd:True) (hn:a.tmps.size=s.n) (hkn:chP s.gb s.kn) (hgb:GbOK s.toFm) (hl :(A++B).length=s.ob.length) (hw:WInv C.w0 C.base (obD V N.P (A++B) (A++B) s.ob) ro' S' w') (hev0:EvM C.base C.r0 C.wI (mks a acts) (lps acts) ro w) (hev:Evo C.base ro w ro' w')
  (hsl:zj (slD V N.P A s.gb s.sl) a ro w) (hst:Stk V N.P A ro w s.stk acts) (hx :(denE V N.P (A++B) s.gb e).h ro' w' v0):SatS V C acts s2 (a.put d v0) w':=by
 have hAB:=AExt.app A B;have hsl':=zdd V N.P hAB (hsl.evo hev);cases d with
 |none=>simp only[y8k,w00] at hset;subst hset;exact⟨hd,hn,hkn,hgb,A++B,ro',S',hl,hw,hev0.trans hev,hsl',hst.ext hAB hev⟩
 |some d=>
  simp only[y8k] at hset;cases hg:lk s.gb d with
  |some g=>rw[hg] at hset;cases hset
  |none=>
   rw[hg] at hset;cases hb:Nat.blt d s.n with
   |false=>simp only[hb] at hset;cases hset
   |true=>
    simp only[hb,cond_true,w00] at hset;subst hset;have hlt:d<s.n:=by simpa using hb
    refine⟨hd,by simp[Act.put,hn],hkn,⟨?_,?_,hgb.kn⟩,A++B,ro',S',hl,hw,hev0.trans hev,?_,hst.ext hAB hev⟩
    .intro t g htg ch z hz;simp only[z0c] at hz;split at hz
     .rename_i e1;subst e1;simp only at htg;rw[hg] at htg;cases htg
     .exact hgb.val t g htg ch z hz
    .intro t ch z hz;simp only[z0c] at hz;split at hz
     .simp only[w00] at hz;rw[<- show e.1=ch by rw[hz]];exact hech
     .exact hgb.ch t ch z hz
    .intro t X hX;simp only[slD,z0c] at hX;rw[zgt a (some d) v0 t (λy hy=>by simp at hy;subst hy;rw[hn];exact hlt)];by_cases h:t=d
     .subst h;simp only[if_true,w0r,w00] at hX;subst hX;simpa using hx
     .rw[if_neg h] at hX;rw[if_neg (λe=>h (by simpa using e.symm))];exact hsl' t X hX
theorem zxk[Dr]{A:Asg}{s:SS V.T}{ops:Array Oper}{a:Act}{ro:Nat->Prop}{w:World}{j t:Nat}{ch:Ch}{b want:Bool}(hj :(ops[j]?).bind (·.dst)=some t)(hl:lk s.sl t=some (ch,.bool b))(hg:lk s.gb t=some b)
  (hs:zj (slD V N.P A s.gb s.sl) a ro w) :(chP s.gb ((t,want)::ch)->yielded ops a.tmps j=some want)/\(¬chP s.gb ((t,want)::ch)->yielded ops a.tmps j≠some want):=by
 cases ch with
 |nil=>have:=zqn (want:=want) hj (by simp[slD,hl];rfl) hs;simpa only[chP,hg,w19] using this
 |cons c l=>have:=zvb (want:=want) hj (by simp[slD,hl];rfl) hs;simpa only[chP,hg,w19] using this
theorem yf0[Dr]{A:Asg}{s:SS V.T}{ops:Array Oper}{a:Act}{ro:Nat->Prop}{w:World}{j t:Nat}(hj :(ops[j]?).bind (·.dst)=some t)(hl:lk s.sl t=some ([],.und))(hs:zj (slD V N.P A s.gb s.sl) a ro w):yielded ops a.tmps j=none:=(zcf hj).2 (hs t (eqv undef) (by simp[slD,hl];rfl))
theorem y9d{f:Fm V.T}{t:Nat}{ch:Ch}{b:Bool}(hgb:GbOK f)(hl:lk f.sl t=some (ch,.bool b))(hg:lk f.gb t=none):GbOK { f with gb:=(t,b)::f.gb }/\(∀c:Ch,(∀p∈c,(lk f.gb p.1).isSome=true)->(chP f.gb c↔chP ((t,b)::f.gb) c)):=by
 have key:∀(u:Nat),(lk f.gb u).isSome=true->lk ((t,b)::f.gb) u=lk f.gb u:=by intro u hu;rw[z0c,if_neg];rintro rfl;rw[hg] at hu;cases hu
 refine⟨⟨?_,?_,?_⟩,λc hc=>y0p (λp _ h=>key p.1 h) hc⟩
 .intro u g hu c z hz;simp only[z0c] at hu;split at hu
  .rename_i e;subst e;simp only[w00] at hu;subst hu;rw[hl] at hz;simp only[w00,w0b] at hz;exact hz.2.symm
  .exact hgb.val u g hu c z hz
 .intro u c z hz p hp;have:=hgb.ch u c z hz p hp;simp only[key p.1 this,this]
 .intro p hp;have:=hgb.kn p hp;simp only[key p.1 this,this]
theorem yew[Dr]{P:Program}{A:Asg}{f:Fm V.T}{t:Nat}{ch:Ch}{b:Bool}(hgb:GbOK f)(hl:lk f.sl t=some (ch,.bool b))(hg:lk f.gb t=none){a:Act}{ro:Nat->Prop}{w:World}(h:zj (slD V P A f.gb f.sl) a ro w):
  zj (slD V P A ((t,b)::f.gb) f.sl) a ro w:=by
 intro u X hX;simp only[slD] at hX;cases hu:lk f.sl u with
 |none=>rw[hu] at hX;cases hX
 |some e=>
  rw[hu] at hX;simp only[w0r,w00] at hX;subst hX;have h1:=h u (denE V P A f.gb e) (by simp[slD,hu]);obtain⟨c,x⟩:=e;cases c with
  |nil=>exact h1
  |cons p l=>have e1:=(y9d hgb hl hg).2 (p::l) (hgb.ch u _ _ hu);exact⟨λhc=>h1.1 (e1.2 hc),λhc=>h1.2 (λh=>hc (e1.1 h))⟩
theorem zz2[Dr]{acts:List GA}{ops:Array Oper}{s:SS V.T}{g:Nat×Bool}{x:Option Ch}{s':SS V.T}{a:Act}{w:World}(h:zee V ops.toList s g=some (x,s'))(hs:SatS V C acts s a w):
  SatS V C acts s' a w/\s'.sl=s.sl/\s'.ob=s.ob/\match x with
   |none=>yielded ops a.tmps g.1=none
   |some ch=>(∀p∈ch,(lk s'.gb p.1).isSome=true)/\(chP s'.gb ch->yielded ops a.tmps g.1=some g.2)/\(¬chP s'.gb ch->yielded ops a.tmps g.1≠some g.2):=by
 unfold zee at h;have hop:∀t,(ops.toList[g.1]?).bind (·.dst)=some t->(ops[g.1]?).bind (·.dst)=some t:=λt h=>by simpa using h
 split at h
 .rename_i t ht;have ht:=hop t ht;split at h
  .rename_i hl;simp only[w00,w0b] at h;obtain⟨rfl,rfl⟩:=h;obtain⟨_,_,_,_,A,ro,S,_,_,_,hsl,_⟩:=id hs;exact⟨hs,rfl,rfl,yf0 ht hl hsl⟩
  .rename_i ch b hl;split at h
   .rename_i g' hg;simp only[w00,w0b] at h;obtain⟨rfl,rfl⟩:=h;obtain⟨_,_,_,hgb,A,ro,S,_,_,_,hsl,_⟩:=id hs;have e:=hgb.val t g' hg ch _ hl;simp only[SV.bool.injEq] at e;subst e;obtain⟨h1,h2⟩:=zxk (want:=g.2) ht hl hg hsl;refine⟨hs,rfl,rfl,λp hp=>?_,h1,h2⟩;rcases w0c.1 hp with rfl|hp
    .simp[hg]
    .exact hgb.ch t ch _ hl p hp
   .rename_i hg;simp only[w00,w0b] at h;obtain⟨rfl,rfl⟩:=h;obtain⟨hd,hn,hkn,hgb,A,ro,S,hlen,hw,hev,hsl,hst⟩:=id hs;obtain⟨g1,g2⟩:=y9d hgb hl hg;have hsl':=yew hgb hl hg hsl;obtain⟨h1,h2⟩:=zxk (s:={ s with gb:=(t,b)::s.gb }) (want:=g.2) ht hl (by simp[z0c]) hsl';refine⟨⟨hd,hn,(g2 _ hgb.kn).1 hkn,g1,A,ro,S,hlen,hw,hev,hsl',hst⟩,rfl,rfl,λp hp=>?_,h1,h2⟩;rcases w0c.1 hp with rfl|hp
    .simp[z0c]
    .exact g1.ch t ch _ hl p hp
  .cases h
 .cases h
end
end Px
end
