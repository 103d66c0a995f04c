/- A part of the proof of emptiesIdle_holds. Conditions: none. -/
import Derived.Test.YtcofccdjgfgeeaaGreatKibc
import Derived.Laws.Panics
set_option linter.unusedVariables false
set_option linter.unusedSimpArgs false
section
namespace Px
open Go Go.RowKit
section
variable{V:TE}{N:Env V}{R:Type}{r:R}{C:Cx N.P}{A:Asg}{s:SS V.T}
theorem zzt[Dr]{P:Program}(hl:A.length=s.ob.length){C:Cx P}{o:Oper}(E c:Nat){K:VP->List HP->Prop}(h:OpT C o (({ s with ob:=s.ob++[.row E c []] } : SS V.T).st V P (A++[(0,.slice none 0 0)])) K):OpT C o (s.st V P A) K:=by refine OpT.weak (λa ro w hs=>zey V P (AExt.app A _) hs) ?_ h;refine ObW.trans (b:=obD V P A A s.ob++[row E (V.ev c) (V.sz c) [] (.slice none 0 0)]) (λw0 base r S w hw=>⟨S,hw.addNil _ (.inl ⟨rfl,rfl⟩)⟩) ?_;exact z3j hl (us:=[.row E c []]) ⟨EntH.refl,trivial⟩
theorem y2i[Dr](hl:A.length=s.ob.length)(hkn:chP s.gb s.kn){E c z by' t ty:Nat}{y:SV V.T}{x o:Operand}{k:SV V.T->SS V.T->Option R}(h:appX V { s with ob:=s.ob++[.row E c []] } ty s.ob.length E c by' [] y k=some r)(ht:tsl N.P t=some (E,z,by'))(hz:z=V.sz c)
  (hby:0<by') (hx:evO s.sl s.kn x=some (.val (.slice none 0 0))) (hy:evO s.sl s.kn o=some y) (dst pos after guard) :
  OpT C ⟨dst,.call { callee:=.builtin .append,args:=#[x,o],argTypes:=#[t,t] },ty,pos,after,guard⟩ (s.st V N.P A) (LOK V N.P r A s k):=by
 refine zzt hl E c ?_;have hl1 :(A++[((0:Nat),Value.slice none 0 0)]).length =({ s with ob:=s.ob++[.row E c []] } : SS V.T).ob.length:=by simp[hl]
 have hx1:=z0t V N.P (A:=A++[((0:Nat),Value.slice none 0 0)]) (s:={ s with ob:=s.ob++[.row E c []] }) hx hkn;have hy1:=z0t V N.P (A:=A++[((0:Nat),Value.slice none 0 0)]) (s:={ s with ob:=s.ob++[.row E c []] }) hy hkn;refine(yan hl1 h (by simp) ht hz hby ?_ hy1 dst pos after guard).mono ?_
 .simp only[SV.den] at hx1⊢;rw[zaq A _ _ hl];exact hx1
 .rintro v objs ⟨B,ob',w,h1,h2,h3,h4⟩;rw[w0t] at h2 h3 h4;exact⟨_,ob',w,h1,h2,h3,h4⟩
theorem y0u[Dr](hl:A.length=s.ob.length)(hkn:chP s.gb s.kn){t t' ty:Nat}{x y:Operand}{k:SV V.T->SS V.T->Option R}
  (h :(match tsl N.P t,evO s.sl s.kn x,(evO s.sl s.kn y).bind intOf,N.P.underlying t' with
    |some (E,z,by'),some (.val (.slice none 0 0)),some (_,n),some (.int _)=>match zlr N.P E with
     |some zs=>bif Nat.beq z (V.sz (V.code E))&&Nat.blt 0 by'&&zmL V (V.enc (V.code E) (V.z (V.code E))) zs then
       ck (0<n/\fits n.toNat by') (k (.own (s.ob.length+1)) { s with ob:=s.ob++[.emp,.row E (V.code E) (List.replicate n.toNat (V.z (V.code E)))] }) else none
     |none=>none
    |_,_,_,_=>none)=some r) (dst pos after guard) :
  OpT C ⟨dst,.call { callee:=.builtin .append,args:=#[x,y],argTypes:=#[t,t'] },ty,pos,after,guard⟩ (s.st V N.P A) (LOK V N.P r A s k):=by
 split at h
 .rename_i E z by' q n q' ht hx hy hu;split at h
  .rename_i zs hz;cases hb :(Nat.beq z (V.sz (V.code E))&&Nat.blt 0 by'&&zmL V (V.enc (V.code E) (V.z (V.code E))) zs) with
   |false=>rw[hb] at h;cases h
   |true=>
    rw[hb] at h;simp only[w03,w23] at hb;have e1:=w01 hb.1.1;subst e1;simp only[cond_true] at h;obtain⟨hm,hk⟩:=zcv h;obtain⟨e2,e3,_⟩:=y75 V N.P (A:=A) hb.2;rw[z1b] at e2;refine zzt hl E (V.code E) ?_;have hl1 :(A++[((0:Nat),Value.slice none 0 0)]).length =(s.ob++[SO.row E (V.code E) []]).length:=by simp[hl]
    have hx1:=z0t V N.P (A:=A++[((0:Nat),Value.slice none 0 0)]) (s:={ s with ob:=s.ob++[.row E (V.code E) []] }) hx hkn;have hy1:=z0t V N.P (A:=A++[((0:Nat),Value.slice none 0 0)]) (s:={ s with ob:=s.ob++[.row E (V.code E) []] }) (zy hy) hkn;have ha1 :(A++[((0:Nat),Value.slice none 0 0)])[s.ob.length]? = some (0,.slice none 0 0):=zaq A _ _ hl;have ho1 :(s.ob++[SO.row E (V.code E) []])[s.ob.length]? = some (.row E (V.code E) []):=by simp
    have hob:=zn V N.P (A:=A++[((0:Nat),Value.slice none 0 0)]) (ps:=A++[((0:Nat),Value.slice none 0 0)]) ha1 ho1;refine y5o s.ob.length (V.z (V.code E)) zs ht hu (V.ev_len _) hz e3 e2 hx1 hob hy1 hm.1 hm.2 (zz5 hb.1.2 hm.2) λv'=>⟨[(0,.slice none 0 0),(0,v')],_,_,hk,by simp[hl],?_,?_⟩
    .have :(A++[((0:Nat),Value.slice none 0 0),(0,v')])[s.ob.length+1]? = some (0,v'):=by rw[w11 (by omega),hl];simp
     simp only[SV.den,this];exact Ent.refl
    .have hlen:=zc8 V N.P (A:=A++[((0:Nat),Value.slice none 0 0)]) _ _ hl1;refine ObW.trans (ObW.mv (i:=s.ob.length) (H:=row E (V.ev (V.code E)) (V.sz (V.code E)) (List.replicate n.toNat (V.z (V.code E))) v') (by rw[w1i (by simp[SS.st,hlen])])) ?_;have e1 :((({ s with ob:=s.ob++[.row E (V.code E) []] } : SS V.T).st V N.P (A++[((0:Nat),Value.slice none 0 0)])).objs.set s.ob.length (row E (V.ev (V.code E)) (V.sz (V.code E)) (List.replicate n.toNat (V.z (V.code E))) v')).set s.ob.length emp=obD V N.P (A++[((0:Nat),Value.slice none 0 0)]) (A++[((0:Nat),Value.slice none 0 0)]) (s.ob++[.emp]):=by
      have e5:s.ob++[(SO.emp:SO V.T)] =(s.ob++[SO.row E (V.code E) []]).set s.ob.length .emp:=by rw[List.set_append_right _ _ (w0s _)];simp
      rw[w31,e5,z35 V N.P _ _ s.ob.length _ .emp ha1];rfl
     rw[e1];have:=z3j (P:=N.P) (V:=V) (A:=A++[((0:Nat),Value.slice none 0 0)]) (B:=[(0,v')]) (ob:=s.ob++[.emp]) (by simp[hl]) (us:=[.row E (V.code E) (List.replicate n.toNat (V.z (V.code E)))]) (H:=[row E (V.ev (V.code E)) (V.sz (V.code E)) (List.replicate n.toNat (V.z (V.code E))) v']) ⟨EntH.refl,trivial⟩;simpa using this
  .cases h
 .cases h
theorem zxs[Dr]{P:Program}{A B:Asg}: ∀(ps:Asg)(cs:List RC)(x:RTup V.T cs),obD V P A ps (newR V cs x)=obD V P B ps (newR V cs x)
 |ps,[],x=>by cases ps<;>rfl
 |ps,.val c::cs,x=>by simp only[newR];exact zxs ps cs x.2
 | [],.row E c::cs,x=>by simp[newR,obD]
 |p::ps,.row E c::cs,x=>by simp only[newR,obD,SO.den];rw[zxs ps cs x.2]
theorem zt7[Dr]{P:Program}{A:Asg}: ∀(ps:Asg)(cs:List RC)(x:RTup V.T cs),cs.all (flR V)=true->∀H∈obD V P A ps (newR V cs x),H.flat
 |ps,[],x,_,H,hH=>by cases ps<;>simp[newR,obD] at hH
 |ps,.val c::cs,x,h,H,hH=>by simp only[w1b,w03] at h;simp only[newR] at hH;exact zt7 ps cs x.2 h.2 H hH
 | [],.row E c::cs,x,h,H,hH=>by simp[newR,obD] at hH
 |p::ps,.row E c::cs,x,h,H,hH=>by
  simp only[w1b,w03,flR] at h;simp only[newR,obD,SO.den,w08] at hH;rcases hH with rfl|hH
  .exact zuu (zkq V _ c h.1)
  .exact zt7 ps cs x.2 h.2 H hH
theorem zko[Dr]{P:Program}{A B:Asg}{n:Nat}(hl:A.length=n):∀(j:Nat)(cs:List RC)(x:RTup V.T cs),denV V P (A++B) (encR V (n+j) cs x)=denV V P B (encR V j cs x)
 |j,[],x=>rfl
 |j,.val c::cs,x=>by simp only[encR,denV,z30,zko hl j cs x.2]
 |j,.row E c::cs,x=>by
  have h1 :(A++B)[n+j]? = B[j]?:=by rw[w11 (by omega)];congr 1;omega
  simp only[encR,denV,SV.den,h1];rw[w2k,zko hl (j+1) cs x.2]
theorem zkn[Dr]{P:Program}{B:Asg}: ∀(n:Nat)(res:List RC)(r:RTup V.T res),res.all (flR V)=true->∀X∈denV V P B (encR V n res r),X.flat
 |n,[],r,_,X,hX=>by simp[encR,denV] at hX
 |n,.val c::cs,r,hf,X,hX=>by
  simp only[w1b,w03,flR] at hf;simp only[encR,denV,w08,z30] at hX;rcases hX with rfl|hX
  .exact y71 V hf.1 _
  .exact zkn n cs r.2 hf.2 X hX
 |n,.row E c::cs,r,hf,X,hX=>by
  simp only[w1b,w03] at hf;simp only[encR,denV,w08] at hX;rcases hX with rfl|hX
  .simp only[SV.den];cases B[n]? with
   |none=>exact λ_ _ _ _ _ h=>h.elim
   |some q=>exact zed
  .exact zkn (n+1) cs r.2 hf.2 X hX
theorem y7m[Dr](hN:z4t V N)(hl:A.length=s.ob.length)(hkn:chP s.gb s.kn){f:Nat}{as:Array Operand}{ts:Array TypeId}{ty:TypeId}{k:SV V.T->SS V.T->Option R}{sp:Fsp V}(hsp:N.fn f=some sp)
  (h :(match decA V (bif sp.res.all (flR V) then rdSl s.ob else rdSl []) s.sl s.kn sp.args as.toList with
    |some a=>bif zm.fnok N.P f then(sp.F a).bind λr=>k (resV V (encR V s.ob.length sp.res r)) { s with ob:=s.ob++newR V sp.res r } else none
    |none=>none)=some r) (dst pos after guard) :
  OpT C ⟨dst,.call { callee:=.value (.func f),args:=as,argTypes:=ts },ty,pos,after,guard⟩ (s.st V N.P A) (LOK V N.P r A s k):=by
 split at h
 .rename_i a ha;cases h4:zm.fnok N.P f with
  |false=>rw[h4] at h;cases h
  |true=>
   rw[h4] at h;simp only[cond_true] at h;obtain⟨y,hy,hk⟩:=bind_some h;have hp:=hN.fn f sp hsp a y hy;have fin:∀x news,Kres V N.P sp.res y x news->LOK V N.P r A s k x ((s.st V N.P A).objs++news):=by
    rintro x news ⟨B,hB,rfl,rfl⟩;refine⟨B,_,_,hk,by simp[hl,hB],?_,?_⟩
    .have:=zko (P:=N.P) (V:=V) (B:=B) hl 0 sp.res y
     rw[w3y] at this;exact Ent.of_eq (ztc V N.P this.symm)
    .refine z3j hl ?_;rw[zxs (A:=B) (B:=A++B)];exact(by
      generalize obD V N.P (A++B) B (newR V sp.res y)=l
      induction l with
      |nil=>trivial
      |cons a l ih=>exact⟨EntH.refl,ih⟩)
   cases h5:sp.res.all (flR V) with
   |true=>
    rw[h5] at ha;refine zxv (z8p N.P h4) (zgw V N.P hkn ha) hp λx news hK=>?_
    obtain⟨B,hB,hx,hn⟩:=id hK;subst hx;subst hn;exact⟨zpq V N.P (zkn 0 sp.res y h5),zt7 B sp.res y h5,fin _ _ hK⟩
   |false=>rw[h5] at ha;exact y5n (z8p N.P h4) (ziq V N.P hkn ha) hp fin
 .cases h
theorem yd2{c:Nat}{x:V.T c}{n:Int}(h:intD (V.d c) x=some n):V.vl c x=iv .i64 n:=by
 revert h;unfold TE.vl;generalize V.ev c x=m;revert x;generalize V.d c=d;generalize V.T c=α at d;intro x h;cases d with
 |int k=>
  simp only[intD] at h;split at h
  .rename_i e;subst e;simp only[w00] at h;subst h;rfl
  .cases h
 |_=>simp[intD] at h
theorem zyl[Dr]{P:Program}{q:Nat}{r:RTup V.T [.val q]}{n:Int}(h:intD (V.d q) r.1=some n){x:VP}{news:List HP}(hk:Kres V P [.val q] r x news):x=iv .i64 n/\news = []:=by obtain⟨B,_,rfl,rfl⟩:=hk;refine⟨?_,by cases B<;>rfl⟩;simp only[encR,resV,z30];exact yd2 h
theorem FEnt.ent[Dr]{P:Program}{C:Cx P}{s:St}{X Y Z:VP}(h:FEnt C s X Y)(k:Ent Y Z):FEnt C s X Z:=λr S w v hw hx=>k _ w v (h r S w v hw hx)
theorem yc4[Dr]{P:Program}{c f:Nat}{sp:Fsp V}{g:V.T c->V.T c->Option Int}(hsp:z1k V P f sp)(h:cmpF V c sp=some g)(x y:V.T c)(n:Int)(hn:g x y=some n):zdn P f [V.vl c x,V.vl c y] λX news=>X=iv .i64 n/\news = []:=by
 unfold cmpF at h;split at h
 .rename_i a b q F;split at h
  .rename_i e;split at h
   .rename_i e2;subst e;subst e2;simp only[w00] at h;subst h;obtain⟨r,hr,hq⟩:=bind_some hn;exact(hsp (x,y,()) r hr).mono λX news hk=>zyl hq hk
   .cases h
  .cases h
 .cases h
theorem yc3[Dr]{P:Program}{c f:Nat}{sp:Csp V}{z:KCs V.T sp.caps}{g:V.T c->V.T c->Option Int}(hsp:y0k V P f sp)(h:cmpC V c sp z=some g)(x y:V.T c)(n:Int)(hn:g x y=some n):zdn P f ([V.vl c x,V.vl c y]++denV V P [] (encK V sp.caps z)) λX news=>X=iv .i64 n/\news = []:=by
 unfold cmpC at h;split at h
 .rename_i a b _ q F z;split at h
  .rename_i e;split at h
   .rename_i e2;subst e;subst e2;simp only[w00] at h;subst h;obtain⟨r,hr,hq⟩:=bind_some hn;exact(hsp (x,y,()) z r hr).mono λX news hk=>zyl hq hk
   .cases h
  .cases h
 .cases h
theorem yc5[Dr](hN:z4t V N){c:Nat}{x:SV V.T}{g:V.T c->V.T c->Option Int}(h:cmpX V N s.ob c x=some g):FEnt C (s.st V N.P A) (x.den V N.P A) (fcmp N.P (λy=>V.vl c y) g):=by
 unfold cmpX at h;split at h
 .split at h
  .rename_i e;subst e;simp only[w00] at h;subst h;exact FEnt.refl
  .cases h
 .rename_i f caps;cases h4:zm.fnok N.P f with
  |false=>rw[h4] at h;cases h
  |true=>
   rw[h4] at h;simp only[cond_true] at h;cases hf:N.fn f with
   |some sp=>
    rw[hf] at h;cases hc:caps.isEmpty with
    |false=>rw[hc] at h;cases h
    |true=>rw[hc] at h;simp only[cond_true] at h;have e:caps = []:=w3h.1 hc;subst e;simp only[SV.den,denV];exact FEnt.refl.ent (zo7 (z8p N.P h4) λx y n hn=>yc4 (hN.fn f sp hf) h x y n hn)
   |none=>
    rw[hf] at h;simp only at h;cases hcl:N.cl f with
    |none=>rw[hcl] at h;cases h
    |some sp=>
     rw[hcl] at h;simp only at h;split at h
     .rename_i z hz;simp only[SV.den];exact(FEnt.fnc N.P (zs1 V N.P hz)).ent (zo7 (z8p N.P h4) λx y n hn=>yc3 (hN.cl f sp hcl) h x y n hn)
     .cases h
 .cases h
theorem y94[Dr](hN:z4t V N)(hkn:chP s.gb s.kn){sl:Sls V.T}(hsl:sl=s.sl):∀{ms:List MA}{os:List Operand}{a:MTup V.T ms},zp0 V N s.ob sl s.kn ms os=some a->∀ac r T w,WInv C.w0 C.base (s.st V N.P A).objs r T w->ze (s.st V N.P A).slots ac r w->
  (os.map ac.eval).length =(msD V N.P ms a).length/\∀(k:Nat)(B:VP),(msD V N.P ms a)[k]? = some B->B.h (λb=>r b\/∃j,T j b) w ((os.map ac.eval).getD k undef):=by
 subst hsl;have step:∀{X:VP}{Xs:List VP}{o:Operand}{os:List Operand}{ac:Act}{R:Nat->Prop}{w:World},X.h R w (ac.eval o)->(os.map ac.eval).length=Xs.length/\(∀(k:Nat)(B:VP),Xs[k]? = some B->B.h R w ((os.map ac.eval).getD k undef))->
   ((o::os).map ac.eval).length =(X::Xs).length/\∀(k:Nat)(B:VP),(X::Xs)[k]? = some B->B.h R w (((o::os).map ac.eval).getD k undef):=by
  intro X Xs o os ac R w h1 ⟨h2,h3⟩;refine⟨by simpa using h2,λk B hB=>?_⟩;cases k with
  |zero=>simp at hB;subst hB;exact h1
  |succ k=>simpa using h3 k B (by simpa using hB)
 intro ms
 induction ms with
 |nil=>
  intro os a h ac r T w hw hs;cases os with
  |nil=>exact⟨rfl,λk B h=>by simp[msD] at h⟩
  |cons o os=>simp[zp0] at h
 |cons m ms ih=>
  intro os a h ac r T w hw hs;cases os with
  |nil=>cases m<;>simp[zp0] at h
  |cons o os=>
   cases m with
   |fn f=>
    simp only[zp0] at h;split at h
    .rename_i g ho;cases hb:Nat.beq f g with
     |false=>rw[hb] at h;cases h
     |true=>
      rw[hb] at h;have e:=w01 hb;subst e;simp only[cond_true] at h;split at h
      .rename_i q hq;simp only[w00] at h;subst h;refine step ?_ (ih hq ac r T w hw hs);obtain⟨caps,hv,hc,_⟩:=z0t V N.P (A:=A) ho hkn ac r w hs;have:caps = #[]:=by simp only[denV,w1u] at hc;exact w4h hc
       subst this;exact hv
      .cases h
    .cases h
   |val c=>
    simp only[zp0] at h;split at h
    .rename_i y hy;split at h
     .rename_i q hq;simp only[w00] at h;subst h;obtain⟨x,ho,hd⟩:=w3k.1 hy;refine step ?_ (ih hq ac r T w hw hs);exact VP.mono _ (λ_ hb=>.inl hb) (λ_ _=>rfl) (z4h V N.P hd _ _ _ (z0t V N.P (A:=A) ho hkn ac r w hs))
     .cases h
    .cases h
   |cmp c=>
    simp only[zp0] at h;split at h
    .rename_i y hy;split at h
     .rename_i q hq;simp only[w00] at h;subst h;obtain⟨x,ho,hd⟩:=w3k.1 hy;exact step (yc5 (C:=C) (A:=A) hN hd r T w _ hw (z0t V N.P (A:=A) ho hkn ac r w hs)) (ih hq ac r T w hw hs)
     .cases h
    .cases h
def actB(A:Asg)(ob:List (SO V.T))(j b:Nat):Prop:=∃q,A[j]? = some q/\((∃kc vc E m,ob[j]? = some (.x (.map kc vc E m none))/\b=q.1)\/(∃kc vc m c,ob[j]? = some (.x (.it kc vc m c))/\b=q.1)\/∃E c l n,ob[j]? = some (.x (.fix E c l))/\q.2 = .slice (some ⟨b,0,none⟩) n n)
theorem y2f[Dr]{P:Program}{w0 w:World}{base:Nat}{r:Nat->Prop}{S:Nat->Nat->Prop}(hw:WInv w0 base (obD V P A A s.ob) r S w):ztu (λb=>∃j,actB A s.ob j b) w:=by
 rintro b ⟨j,q,hq,h⟩ o u hu;rcases h with⟨kc,vc,E,m,ho,rfl⟩|⟨kc,vc,m,c,ho,rfl⟩|⟨E,c,l,n,ho,hn⟩
 .obtain⟨hv,hn⟩:=hw.obj j _ (zn V P hq ho);obtain⟨es,clock,hc,_⟩:=y4y hn;simp[World.cell?,hc] at hu
 .obtain⟨hv,hS,_,hn⟩:=hw.obj j _ (zn V P hq ho);rcases hn with⟨a,c',d,hc,_⟩|⟨_,_,_,_,_,hc,_⟩<;>simp[World.cell?,hc] at hu
 .exact(y3j V P hw).1 b ⟨j,E,c,l,q,n,ho,hq,hn⟩ o u hu
theorem yft{κ ν:Type}{e:κ->List Int}{eK:κ->Value}{eV:ν->Value}{m:List (κ×ν)}{b:Nat}{S S' r:Nat->Prop}{w:World}(h :(nmp b e eK (plI eV) m none).h S r w)(hb:S b->S' b):(nmp b e eK (plI eV) m none).h S' r w:=by obtain⟨t,Sk,hm,hS,hc,hh,hE,_⟩:=h;exact⟨t,λ_ _=>False,hm,hb hS,hc,hh,λp hp hne=>hE p hp hne,λc x hx=>hx.elim,λc c' x hx=>hx.elim⟩
theorem zzw{i:Nat}: ∀{ob:List (SO V.T)}{n j:Nat}{o:SO V.T},zpj V i n ob=true->ob[j]? = some o->i≠n+j->o = .emp\/(∃kc vc E m,o = .x (.map kc vc E m none)/\zbd (V.d vc)=true)\/(∃kc vc m c,o = .x (.it kc vc m c))\/∃E c l,o = .x (.fix E c l)
 | [],n,j,o,h,hj,hne=>by simp at hj
 |p::ob,n,j,o,h,hj,hne=>by
  have key :(p = .emp\/(∃kc vc E m,p = .x (.map kc vc E m none)/\zbd (V.d vc)=true)\/(∃kc vc m c,p = .x (.it kc vc m c))\/(∃E c l,p = .x (.fix E c l))\/i=n)/\zpj V i (n+1) ob=true:=by
   unfold zpj at h;split at h
   .rename_i e;cases e
   .rename_i e;cases e;exact⟨.inl rfl,h⟩
   .rename_i e;cases e;simp only[w03] at h;exact⟨.inr (.inl ⟨_,_,_,_,rfl,h.1⟩),h.2⟩
   .rename_i e;cases e;exact⟨.inr (.inr (.inl ⟨_,_,_,_,rfl⟩)),h⟩
   .rename_i e;cases e;exact⟨.inr (.inr (.inr (.inl ⟨_,_,_,rfl⟩))),h⟩
   .rename_i e;cases e;simp only[w03] at h;exact⟨.inr (.inr (.inr (.inr (w01 h.1)))),h.2⟩
  cases j with
  |zero=>
   simp at hj;subst hj;rcases key.1 with q|q|q|q|q
   .exact .inl q
   .exact .inr (.inl q)
   .exact .inr (.inr (.inl q))
   .exact .inr (.inr (.inr q))
   .exact absurd q hne
  |succ j=>exact zzw key.2 (by simpa using hj) (by omega)
theorem y7l[Dr](hN:z4t V N)(hl:A.length=s.ob.length)(hkn:chP s.gb s.kn){f:Nat}{args:Array Operand}{ts:Array TypeId}{ty:TypeId}{k:SV V.T->SS V.T->Option R}{m:Msp V}{x:Operand}{gs:List Operand}(hmu:N.mu f=some m)(hargs:args.toList=x::gs)
  (h :(match evO s.sl s.kn x with
     |some (.own i)=>match s.ob[i]?,zp0 V N (s.ob.set i .emp) s.sl s.kn m.ms gs with
      |some (.row E c l),some a=>bif Nat.beq E m.E&&(V.fl m.c||(V.sep m.c&&zpj V i 0 s.ob))&&zm.fnok N.P f then(if h:c=m.c then(m.F (h ▸ l) a).bind λl'=>k (.val (.tuple #[])) (updO V s i (.row m.E m.c l')) else none) else none
      |_,_=>none
     |_=>none)=some r) (dst pos after guard) :
  OpT C ⟨dst,.call { callee:=.value (.func f),args:=args,argTypes:=ts },ty,pos,after,guard⟩ (s.st V N.P A) (LOK V N.P r A s k):=by
 split at h
 .rename_i i hx;split at h
  .rename_i E c l a ho hm;cases hb :(Nat.beq E m.E&&(V.fl m.c||(V.sep m.c&&zpj V i 0 s.ob))&&zm.fnok N.P f) with
   |false=>rw[hb] at h;cases h
   |true=>
    rw[hb] at h;simp only[w03,w1h] at hb;have e1:=w01 hb.1.1;subst e1;simp only[cond_true] at h;split at h
    .rename_i e;subst e;obtain⟨l',hl',hk⟩:=bind_some h;have hx':=z0t V N.P (A:=A) hx hkn;simp only[SV.den] at hx';cases ha:A[i]? with
     |none=>rw[ha] at hx';exact zc7 hx'
     |some q=>
      rw[ha] at hx';have hob:=zn V N.P (A:=A) (ps:=A) ha ho;refine y9i N.P (sv:=q.2) i hob ?_ (z8p N.P hb.2) (args:=eqv q.2::msD V N.P m.ms a) ?_ (hN.mu f m hmu l a l' q.2 hl') ?_
      .intro r0 S w hw;rcases hb.1.2 with hfl|⟨hsp,hon⟩
       .exact⟨λj b=>j≠i/\S j b,λj b h=>h,λj H hj hH=>by
         have :(λb=>j≠i/\S j b)=S j:=by funext b;exact propext ⟨λh=>h.2,λh=>⟨hj,h⟩⟩
         show H.h (λb=>j≠i/\S j b) r0 w;rw[this];exact hw.obj j H hH,.inl λy B hB=>(zkq V _ _ hfl y).mem B hB⟩
       .refine⟨λj b=>j≠i/\S j b/\actB A s.ob j b,λj b h=>⟨h.1,h.2.1⟩,λj H hj hH=>?_,.inr ⟨λy B hB=>zup V _ _ hsp y B hB,?_⟩⟩
        .have hjl:j<s.ob.length:=by have:=(w02.1 hH).1;have e2 :(s.st V N.P A).objs.length=s.ob.length:=zc8 V N.P A s.ob hl;omega
         have hjo:s.ob[j]? = some (s.ob[j]'hjl):=w09 hjl;obtain⟨p,hp⟩:∃p,A[j]? = some p:=⟨_,w09 (hl ▸ hjl)⟩;have hH2:=zn V N.P (A:=A) (ps:=A) hp hjo;have eH:H =(s.ob[j]'hjl).den V N.P A p:=by have:=hH.symm.trans hH2;simpa using this
         have hd:=hw.obj j H hH;rcases zzw (n:=0) hon hjo (by omega) with q1|⟨kc,vc,E2,mm,q1,hsc⟩|⟨kc,vc,mm,cc,q1⟩|⟨E2,c2,l2,q1⟩
         .rw[eH,q1];trivial
         .rw[q1] at eH hjo;subst eH;obtain⟨hv,hn⟩:=hd;refine⟨hv,?_⟩;rw[zm1 hsc] at hn⊢;exact yft hn λhS=>⟨hj,hS,p,hp,.inl ⟨kc,vc,E2,mm,hjo,rfl⟩⟩
         .rw[q1] at eH hjo;subst eH;obtain⟨hv,hS,hn⟩:=hd;exact⟨hv,⟨hj,hS,p,hp,.inr (.inl ⟨kc,vc,mm,cc,hjo,rfl⟩)⟩,hn⟩
         .rw[q1] at eH hjo;subst eH;obtain⟨⟨hbl,g0,n0,hg0⟩,hr⟩:=hd;refine⟨⟨hbl,g0,n0,hg0⟩,?_⟩;rcases hr with hn|⟨g,cap,cur,hv,hS,hcur,h5⟩
          .exact .inl hn
          .refine .inr ⟨g,cap,cur,hv,⟨hj,hS,p,hp,.inr (.inr ⟨E2,c2,l2,n0,hjo,?_⟩)⟩,hcur,h5⟩;rw[hg0] at hv⊢;simp only[Value.slice.injEq,w00,Addr.mk.injEq] at hv;rw[hv.1.1]
        .rintro b ⟨j,_,_,hab⟩;exact y2f hw b ⟨j,hab⟩
      .intro ac r0 T w hw hs;have hob':obD V N.P A A (s.ob.set i .emp) =(s.st V N.P A).objs.set i Px.emp:=by rw[z35 V N.P A s.ob i q _ ha];rfl
       have hM:=y94 (C:=C) (A:=A) (s:={ s with ob:=s.ob.set i .emp }) hN hkn rfl hm ac r0 T w (by show WInv C.w0 C.base (obD V N.P A A (s.ob.set i .emp)) r0 T w;rw[hob'];exact hw) hs;rw[hargs];refine⟨by simpa using hM.1,λk B hB=>?_⟩;cases k with
       |zero=>simp at hB;subst hB;exact hx' ac r0 w hs
       |succ k=>simpa using hM.2 k B (by simpa using hB)
      .rintro y l2 ⟨rfl,rfl⟩;refine⟨zed,[],s.ob.set i (.row m.E m.c l2),.val (.tuple #[]),hk,by simp[hl],by rw[w0b];exact Ent.refl,?_⟩;rw[w0b,z35 V N.P A s.ob i q _ ha];exact ObW.refl
    .cases h
  .cases h
 .cases h
theorem yc8[Dr](hl:A.length=s.ob.length)(hkn:chP s.gb s.kn){t t':TypeId}{x y:Operand}{ty:TypeId}{k:SV V.T->SS V.T->Option R}(h:z3i V N s (.call { callee:=.builtin .copy,args:=#[x,y],argTypes:=#[t,t'] }) ty k=some r)(dst pos after guard):
  OpT C ⟨dst,.call { callee:=.builtin .copy,args:=#[x,y],argTypes:=#[t,t'] },ty,pos,after,guard⟩ (s.st V N.P A) (LOK V N.P r A s k):=by
 simp only[z3i] at h;split at h
 .rename_i E z by' i lo hi yv htsl hx hy;split at h
  .rename_i E' c l ho;split at h
   .rename_i m hm;cases hb :(Nat.beq E E'&&Nat.beq z (V.sz c)) with
    |false=>rw[hb] at h;cases h
    |true=>
     rw[hb] at h;simp only[w03] at hb;have e1:=w01 hb.1;have e2:=w01 hb.2;subst e1;subst e2;simp only[cond_true] at h;have hi':=(w02.1 ho).1;obtain⟨q,ha⟩:∃q,A[i]? = some q:=⟨_,w09 (hl ▸ hi')⟩;have hob:=zn V N.P (A:=A) (ps:=A) ha ho;obtain⟨xv,hxv,hd⟩:=w3k.1 hx;have hx':=z0t V N.P (A:=A) hxv hkn;have hprt:Prt C (s.st V N.P A) x q.2 lo hi (V.sz c):=by
      unfold dstX at hd;split at hd
      .split at hd
       .rename_i E2 c2 l2 ho2;simp only[w00,w0f] at hd;obtain⟨rfl,rfl,rfl⟩:=hd;rw[ho] at ho2;cases ho2;simp only[SV.den,ha] at hx';exact Prt.own _ hx' hob
       .cases hd
      .split at hd
       .rename_i E2 c2 l2 ho2;cases hb3:Nat.beq _ (V.sz c2) with
        |false=>rw[hb3] at hd;cases hd
        |true=>rw[hb3] at hd;have e3:=w01 hb3;simp only[cond_true,w00,w0f] at hd;obtain⟨rfl,rfl,rfl⟩:=hd;rw[ho] at ho2;cases ho2;subst e3;simp only[SV.den,ha] at hx';exact Prt.ev hx'
       .cases hd
      .cases hd
     obtain⟨_,_,_,_,_,_,_,_,hpos⟩:=zcb htsl;refine yg2 i htsl (V.ev_len c) hprt hob (ybj hpos hm (z0t V N.P hy hkn)) ⟨[],s.ob.set i (.row E c (cpy l lo (hi-lo) m)),_,h,by simp[hl],by rw[w0b];exact Ent.refl,?_⟩;rw[w0b,z35 V N.P A s.ob i q _ ha];exact ObW.refl
   .cases h
  .cases h
 .cases h
theorem ygq[Dr](hN:z4t V N)(hl:A.length=s.ob.length)(hkn:chP s.gb s.kn){f:Nat}{x:Operand}{ts:Array TypeId}{ty:TypeId}{k:SV V.T->SS V.T->Option R}(h:soX V N s f x k=some r)(dst pos after guard):
  OpT C ⟨dst,.call { callee:=.value (.func f),args:=#[x],argTypes:=ts },ty,pos,after,guard⟩ (s.st V N.P A) (LOK V N.P r A s k):=by
 unfold soX at h;split at h
 .rename_i sp g y hsp hx;cases hb :(Nat.beq g sp.g&&zm.fnok N.P f&&V.fl sp.kc) with
  |false=>rw[hb] at h;cases h
  |true=>
   rw[hb] at h;simp only[w03] at hb;have e:=w01 hb.1.1;subst e;simp only[cond_true] at h;split at h
   .rename_i m hm;obtain⟨hk,h⟩:=zcv h;have hv:=z0t V N.P (A:=A) hx hkn;rw[SV.den] at hv;simp only[denV] at hv;refine zxv (z8p N.P hb.1.2) (args:=[fnc sp.g [rop0 [V.mv V.ev sp.kc sp.vc m]]]) ?_ (hN.so f sp hsp m hk) λx news hK=>?_
    .exact⟨EvF.of hv (FEnt.fnc N.P ⟨y7r V N.P hm,trivial⟩),trivial⟩
    .obtain⟨sv,rfl,rfl⟩:=hK;refine⟨zed,λH hH=>?_,⟨[(0,sv)],_,_,h,by simp[hl],?_,?_⟩⟩
     .simp only[w0v] at hH;subst hH;exact zuu (zkq V _ _ hb.2)
     .simp only[SV.den,zaq A _ _ hl];exact Ent.refl
     .exact z3j (V:=V) (P:=N.P) (A:=A) (B:=[(0,sv)]) hl (us:=[.row sp.E sp.kc (m.map (·.1))]) (H:=[row sp.E (V.ev sp.kc) (V.sz sp.kc) (m.map (·.1)) sv]) ⟨EntH.refl,trivial⟩
   .cases h
 .cases h
def yd6:Op->Bool
 | .store ..=>true
 | .mapUpdate ..=>true
 |_=>false
theorem zzn[Dr](hN:z4t V N)(hl:A.length=s.ob.length)(hkn:chP s.gb s.kn)(hgb:GbOK s.toFm)(h1:OneA V A s.ob){o:Op}{ty:TypeId}{k:SV V.T->SS V.T->Option R}(h:z3i V N s o ty k=some r)(dst pos after guard)
  (hd:yd6 o=true->dst=none):OpT C ⟨dst,o,ty,pos,after,guard⟩ (s.st V N.P A) (LOK V N.P r A s k):=by
 have q:∀{o:Op},zm V N s [] o ty (λv=>k v s)=some r->OpT C ⟨dst,o,ty,pos,after,guard⟩ (s.st V N.P A) (LOK V N.P r A s k):=by intro o h;obtain⟨v,hv,hq⟩:=zeu (C:=C) (A:=A) hN hkn hgb h1 h;refine OpT.of_q (hq trivial dst pos after guard) ⟨[],s.ob,v,hv,by simp[hl],by rw[w0b];exact Ent.refl,by rw[w0b];exact ObW.refl⟩
 cases o with
 |box t x=>exact yey hl hkn h1 h dst pos after guard
 |alloc t=>exact y7f hl h dst pos after guard
 |store t a x=>have:=hd rfl;subst this;exact yah hl hkn h1 h pos after guard
 |buildSlice t n parts=>exact zrw hl hkn h dst pos after guard
 |makeSlice t x y=>exact zvg hl hkn h dst pos after guard
 |makeMap t hint=>exact y1d hl h dst pos after guard
 |range t x=>exact ya4 hl hkn h dst pos after guard
 |mapUpdate t x i y=>have:=hd rfl;subst this;exact zvh hl hkn h pos after guard
 |call c=>
  obtain⟨callee,args,ts⟩:=c;simp only[z3i] at h;split at h
  .rename_i x i hargs;have ha:args = #[x,i]:=by cases args;simp at hargs;rw[hargs]
   subst ha;exact y35 hl hkn h dst pos after guard
  .rename_i x y hargs;have ha:args = #[x,y]:=by cases args;simp at hargs;rw[hargs]
   subst ha;split at h
   .rename_i t t' hts;cases hb:Nat.beq t t' with
    |false=>
     rw[hb] at h;have ht:ts = #[t,t']:=by cases ts;simp at hts;rw[hts]
     subst ht;exact y0u hl hkn h dst pos after guard
    |true=>
     rw[hb] at h;have e:=w01 hb;subst e;have ht:ts = #[t,t]:=by cases ts;simp at hts;rw[hts]
     subst ht;simp only[cond_true] at h;split at h
     .rename_i E z by' i yv htsl hx hy;split at h
      .rename_i E' c l ho;cases hb2 :(Nat.beq E E'&&Nat.beq z (V.sz c)&&Nat.blt 0 by') with
       |false=>rw[hb2] at h;cases h
       |true=>rw[hb2] at h;simp only[w03,w23] at hb2;have e1:=w01 hb2.1.1;have e2:=w01 hb2.1.2;subst e1;exact yan hl h ho htsl e2 hb2.2 (z0t V N.P hx hkn) (z0t V N.P hy hkn) dst pos after guard
      .cases h
     .rename_i E z by' yv htsl hx hy;cases hb2 :(Nat.beq z (V.sz (V.code E))&&Nat.blt 0 by') with
      |false=>rw[hb2] at h;cases h
      |true=>rw[hb2] at h;simp only[w03,w23] at hb2;exact y2i hl hkn h htsl (w01 hb2.1) hb2.2 hx hy dst pos after guard
     .cases h
   .cases h
  .rename_i x y hargs;have ha:args = #[x,y]:=by cases args;simp at hargs;rw[hargs]
   subst ha;split at h
   .rename_i t t' hts;have ht:ts = #[t,t']:=by cases ts;simp at hts;rw[hts]
    subst ht;exact yc8 hl hkn h dst pos after guard
   .cases h
  .exact q h
  .rename_i f;split at h
   .rename_i sp hsp;exact y7m hN hl hkn hsp h dst pos after guard
   .split at h
    .rename_i m x gs hmu hargs;exact y7l hN hl hkn hmu hargs h dst pos after guard
    .rename_i x hmu hargs;have ha:args = #[x]:=by cases args;simp at hargs;rw[hargs]
     subst ha;exact ygq hN hl hkn h dst pos after guard
    .cases h
  .cases h
 |_=>exact q h
end
end Px
end
section
namespace Px
open Go Go.RowKit
theorem FzV.tup{sv:Value}{X:VP}{a b:List VP}(h:FzVs sv X a b):FzV sv X (tupv a) (tupv b):=by rintro r w v hx ⟨vs,e,hl,hh⟩;obtain⟨h1,h2⟩:=h.at;refine⟨vs,e,by rw[hl,h1],λi B hB=>?_⟩;obtain⟨A,hA,hAB⟩:=h2 i B hB;exact hAB _ _ _ hx (hh i A hA)
theorem FzV.rop{sv:Value}{X:VP}{a b:List VP}(h:FzVs sv X a b):FzV sv X (rop a) (rop b):=by rintro r w v hx ⟨bl,o,e,hr,hh⟩;obtain⟨h1,h2⟩:=h.at;refine⟨bl,o,e,hr,λj B hB=>?_⟩;obtain⟨A,hA,hAB⟩:=h2 j B hB;obtain⟨u,h3,h4,h5⟩:=hh j A hA;exact⟨u,h3,hAB _ _ _ hx h4,h5⟩
theorem FzVs.reflL{sv:Value}{X:VP}: ∀(l:List VP),FzVs sv X l l
 | []=>trivial
 |a::l=>⟨FzV.refl,FzVs.reflL l⟩
theorem FzVs.app{sv:Value}{X:VP}: ∀{a b c d:List VP},FzVs sv X a c->FzVs sv X b d->FzVs sv X (a++b) (c++d)
 | [],_,[],_,_,h=>h
 |_::_,_,_::_,_,h,k=>⟨h.1,FzVs.app h.2 k⟩
 | [],_,_::_,_,h,_=>h.elim
 |_::_,_,[],_,h,_=>h.elim
section
variable(V:TE)(P:Program)
mutual
theorem zj6[Dr]{A:Asg}{i:Nat}{u:SV V.T}{g:Nat->SV V.T}(hu:z15 u=false)(hga:∀off,z15 (g off)=false){sv:Value}{X:VP}(hA:FzV sv X ((SV.own i:SV V.T).den V P A) (u.den V P A))(hG:∀off,FzV sv X ((SV.ptr i off:SV V.T).den V P A) ((g off).den V P A)):∀(x:SV V.T),FzV sv X (x.den V P A) ((frV i u g x).den V P A)
 | .own j=>by
  simp only[frV];cases hj:Nat.beq j i with
  |false=>exact FzV.refl
  |true=>have:=w01 hj;subst this;exact hA
 | .ptr j off=>by
  simp only[frV];cases hj:Nat.beq j i with
  |false=>exact FzV.refl
  |true=>have:=w01 hj;subst this;exact hG off
 | .agg cs=>by simp only[frV,SV.den];exact FzV.agg (z5t hu hga hA hG cs)
 | .tup xs=>by simp only[frV,SV.den];exact FzV.tup (y3s hu hga hA hG xs)
 | .rop cs=>by simp only[frV,SV.den];exact FzV.rop (z5t hu hga hA hG cs)
 | .func f caps=>by simp only[frV,SV.den];exact FzV.fnc2 (y3s hu hga hA hG caps)
 | .int k n=>FzV.refl
 | .bool b=>FzV.refl
 | .str s=>FzV.refl
 | .val v=>FzV.refl
 | .arr n c f=>FzV.refl
 | .ro c l=>FzV.refl
 | .elt i k z fo=>FzV.refl
 | .pta i off n z idx cnt fo=>FzV.refl
 | .prt i lo hi z=>FzV.refl
 | .und=>FzV.refl
 | .rom kc vc m=>FzV.refl
 | .cmp c f=>FzV.refl
 | .top=>FzV.refl
theorem z5t[Dr]{A:Asg}{i:Nat}{u:SV V.T}{g:Nat->SV V.T}(hu:z15 u=false)(hga:∀off,z15 (g off)=false){sv:Value}{X:VP}(hA:FzV sv X ((SV.own i:SV V.T).den V P A) (u.den V P A))(hG:∀off,FzV sv X ((SV.ptr i off:SV V.T).den V P A) ((g off).den V P A)):∀(cs:List (SV V.T)),FzVs sv X (denL V P A cs) (denL V P A (frL i u g cs))
 | []=>trivial
 | .arr n c f::cs=>by simp only[frL,frV,denL];exact(FzVs.reflL _).app (z5t hu hga hA hG cs)
 | .own j::cs=>by
  have h1:=zj6 hu hga hA hG (.own j);simp only[frL,denL];have h2:=z5t hu hga hA hG cs;simp only[frV] at h1⊢;cases hj:Nat.beq j i with
  |false=>rw[hj] at h1;exact⟨h1,h2⟩
  |true=>rw[hj] at h1;simp only[cond_true] at h1⊢;rw[z2l V P u,zir V P hu];exact⟨h1,h2⟩
 | .ptr j off::cs=>by
  have h1:=zj6 hu hga hA hG (.ptr j off);simp only[frL,denL];have h2:=z5t hu hga hA hG cs;simp only[frV] at h1⊢;cases hj:Nat.beq j i with
  |false=>rw[hj] at h1;exact⟨h1,h2⟩
  |true=>rw[hj] at h1;simp only[cond_true] at h1⊢;rw[z2l V P (g off),zir V P (hga off)];exact⟨h1,h2⟩
 | .agg xs::cs=>by simp only[frL,frV,denL];exact⟨by simpa only[frV] using zj6 hu hga hA hG (.agg xs),z5t hu hga hA hG cs⟩
 | .tup xs::cs=>by simp only[frL,frV,denL];exact⟨by simpa only[frV] using zj6 hu hga hA hG (.tup xs),z5t hu hga hA hG cs⟩
 | .rop xs::cs=>by simp only[frL,frV,denL];exact⟨by simpa only[frV] using zj6 hu hga hA hG (.rop xs),z5t hu hga hA hG cs⟩
 | .func f xs::cs=>by simp only[frL,frV,denL];exact⟨by simpa only[frV] using zj6 hu hga hA hG (.func f xs),z5t hu hga hA hG cs⟩
 | .int k n::cs=>by simp only[frL,frV,denL];exact⟨FzV.refl,z5t hu hga hA hG cs⟩
 | .bool b::cs=>by simp only[frL,frV,denL];exact⟨FzV.refl,z5t hu hga hA hG cs⟩
 | .str s::cs=>by simp only[frL,frV,denL];exact⟨FzV.refl,z5t hu hga hA hG cs⟩
 | .val v::cs=>by simp only[frL,frV,denL];exact⟨FzV.refl,z5t hu hga hA hG cs⟩
 | .ro c l::cs=>by simp only[frL,frV,denL];exact⟨FzV.refl,z5t hu hga hA hG cs⟩
 | .elt i k z fo::cs=>by simp only[frL,frV,denL];exact⟨FzV.refl,z5t hu hga hA hG cs⟩
 | .pta i off n z idx cnt fo::cs=>by simp only[frL,frV,denL];exact⟨FzV.refl,z5t hu hga hA hG cs⟩
 | .prt i lo hi z::cs=>by simp only[frL,frV,denL];exact⟨FzV.refl,z5t hu hga hA hG cs⟩
 | .und::cs=>by simp only[frL,frV,denL];exact⟨FzV.refl,z5t hu hga hA hG cs⟩
 | .rom kc vc m::cs=>by simp only[frL,frV,denL];exact⟨FzV.refl,z5t hu hga hA hG cs⟩
 | .cmp c f::cs=>by simp only[frL,frV,denL];exact⟨FzV.refl,z5t hu hga hA hG cs⟩
 | .top::cs=>by simp only[frL,frV,denL];exact⟨FzV.refl,z5t hu hga hA hG cs⟩
theorem y3s[Dr]{A:Asg}{i:Nat}{u:SV V.T}{g:Nat->SV V.T}(hu:z15 u=false)(hga:∀off,z15 (g off)=false){sv:Value}{X:VP}(hA:FzV sv X ((SV.own i:SV V.T).den V P A) (u.den V P A))(hG:∀off,FzV sv X ((SV.ptr i off:SV V.T).den V P A) ((g off).den V P A)):∀(cs:List (SV V.T)),FzVs sv X (denV V P A cs) (denV V P A (frL i u g cs))
 | []=>trivial
 |x::cs=>by simp only[frL,denV];exact⟨zj6 hu hga hA hG x,y3s hu hga hA hG cs⟩
end
theorem yfc[Dr]{A:Asg}{i:Nat}{u:SV V.T}{g:Nat->SV V.T}(hu:z15 u=false)(hga:∀off,z15 (g off)=false){sv:Value}{X:VP}(hA:FzV sv X ((SV.own i:SV V.T).den V P A) (u.den V P A))(hG:∀off,FzV sv X ((SV.ptr i off:SV V.T).den V P A) ((g off).den V P A))(p:Nat×Value)(o:SO V.T):FzH sv X (o.den V P A p) ((frO i u g o).den V P A p):=by
 cases o with
 |box t cs=>exact FzH.box (z5t V P hu hga hA hG cs)
 |row E c l=>exact FzH.refl
 |x o=>exact FzH.refl
 |emp=>exact FzH.refl
theorem zz9[Dr]{A:Asg}{i:Nat}{u:SV V.T}{g:Nat->SV V.T}(hu:z15 u=false)(hga:∀off,z15 (g off)=false){sv:Value}{X:VP}(hA:FzV sv X ((SV.own i:SV V.T).den V P A) (u.den V P A))(hG:∀off,FzV sv X ((SV.ptr i off:SV V.T).den V P A) ((g off).den V P A)):∀(ps:Asg)(os:List (SO V.T)),zls sv X (obD V P A ps os) (obD V P A ps (os.map (frO i u g)))
 | [],os=>by cases os<;>trivial
 |p::ps,[]=>trivial
 |p::ps,o::os=>⟨yfc V P hu hga hA hG p o,zz9 hu hga hA hG ps os⟩
theorem yb3{α β:Type}(f:α->β):∀(l:List (Nat×α))(t:Nat),lk (l.map λp=>(p.1,f p.2)) t =(lk l t).map f
 | [],t=>rfl
 |(k,x)::l,t=>by
  simp only[w0e,lk];cases Nat.beq k t with
  |true=>rfl
  |false=>exact yb3 f l t
theorem y3q{i:Nat}{u:SV V.T}{g:Nat->SV V.T}(sl:Sls V.T)(t:Nat):lk (frSl i u g sl) t =(lk sl t).map λe=>(e.1,frV i u g e.2):=yb3 (λe:Ch×SV V.T=>(e.1,frV i u g e.2)) sl t
theorem y3r[Dr]{A:Asg}{i:Nat}{u:SV V.T}{g:Nat->SV V.T}(hu:z15 u=false)(hga:∀off,z15 (g off)=false){sv:Value}{X:VP}(hA:FzV sv X ((SV.own i:SV V.T).den V P A) (u.den V P A))(hG:∀off,FzV sv X ((SV.ptr i off:SV V.T).den V P A) ((g off).den V P A)){gb:List (Nat×Bool)}{sl:Sls V.T}{a:Act}{ro:Nat->Prop}{w:World}(hx:X.h ro w sv)
  (hs:ze (slD V P A gb sl) a ro w):ze (slD V P A gb (frSl i u g sl)) a ro w:=by
 intro t B hB;simp only[slD,y3q] at hB;cases hl:lk sl t with
 |none=>rw[hl] at hB;cases hB
 |some e=>
  rw[hl] at hB;simp only[w0u,w00] at hB;subst hB;have h1:=hs t (denE V P A gb e) (by simp[slD,hl]);obtain⟨ch,x⟩:=e;cases ch with
  |nil=>exact zj6 V P hu hga hA hG x _ _ _ hx h1
  |cons a r=>exact⟨λhc=>zj6 V P hu hga hA hG x _ _ _ hx (h1.1 hc),h1.2⟩
theorem y3p{i:Nat}{u:SV V.T}{g:Nat->SV V.T}{f:Fm V.T}(h:GbOK f):GbOK { f with sl:=frSl i u g f.sl }:=by
 have back:∀t ch z,lk (frSl i u g f.sl) t=some (ch,z)->∃z',lk f.sl t=some (ch,z')/\frV i u g z'=z:=by
  intro t ch z hz;simp only[y3q] at hz;cases hl:lk f.sl t with
  |none=>rw[hl] at hz;cases hz
  |some e=>rw[hl] at hz;simp only[w0u,w00,w0f] at hz;exact⟨e.2,by rw[<- hz.1],hz.2⟩
 refine⟨λt g hg ch z hz=>?_,λt ch z hz=>?_,h.kn⟩
 .obtain⟨z',h1,h2⟩:=back t ch z hz;rw[<- h2,h.val t g hg ch z' h1];rfl
 .obtain⟨z',h1,_⟩:=back t ch z hz;exact h.ch t ch z' h1
variable{V P}
theorem zza[Dr]{A:Asg}{i:Nat}{u:SV V.T}{g:Nat->SV V.T}(hu:z15 u=false)(hga:∀off,z15 (g off)=false){sv:Value}{X:VP}(hA:FzV sv X ((SV.own i:SV V.T).den V P A) (u.den V P A))(hG:∀off,FzV sv X ((SV.ptr i off:SV V.T).den V P A) ((g off).den V P A)){ro:Nat->Prop}{w:World}(hx:X.h ro w sv):
  ∀{fs:List (Fm V.T)}{as:List GA},Stk V P A ro w fs as->Stk V P A ro w (fs.map λp=>{ p with sl:=frSl i u g p.sl }) as
 | [],[],_=>trivial
 |f::fs,a::as,h=>⟨⟨y3r V P hu hga hA hG hx h.1.1,h.1.2.1,y3p V h.1.2.2.1,h.1.2.2.2⟩,zza hu hga hA hG hx h.2⟩
 | [],_::_,h=>h.elim
 |_::_,[],h=>h.elim
theorem Stk.mono[Dr]{A:Asg}{ro ro':Nat->Prop}{w:World}(h:∀b,ro b->ro' b):∀{fs:List (Fm V.T)}{as:List GA},Stk V P A ro w fs as->Stk V P A ro' w fs as
 | [],[],_=>trivial
 |f::fs,a::as,hh=>⟨⟨λt B hB=>B.mono h (λ_ _=>rfl) (hh.1.1 t B hB),hh.1.2⟩,Stk.mono h hh.2⟩
 | [],_::_,h=>h.elim
 |_::_,[],h=>h.elim
theorem yaw[Dr]{C:Cx P}{acts:List GA}{s:SS V.T}{a:Act}{w:World}(i:Nat)(u:SV V.T)(g:Nat->SV V.T)(hu:z15 u=false)(hga:∀off,z15 (g off)=false){o:SO V.T}(ho:s.ob[i]? = some o)
  (hx:∀A q r S,A[i]? = some q->(o.den V P A q).h S r w->∃sv X,X.h (λb=>r b\/S b) w sv/\FzV sv X ((SV.own i:SV V.T).den V P A) (u.den V P A)/\∀off,FzV sv X ((SV.ptr i off:SV V.T).den V P A) ((g off).den V P A)) (h:SatS V C acts s a w):SatS V C acts (frC s i u g) a w:=by
 obtain⟨hd,hn,hkn,hgb,A,ro,S,hl,hw,hev,hsl,hst⟩:=h;cases ha:A[i]? with
 |none=>have h1:=(w02.1 ho).1;rw[List.getElem?_eq_none_iff] at ha;omega
 |some q=>
  have hob:=zn V P (A:=A) (ps:=A) ha ho;have hlt:i<(obD V P A A s.ob).length:=(w02.1 hob).1;obtain⟨sv,X,hX,hA,hG⟩:=hx A _ ro (S i) ha (hw.obj i _ hob);have hfo:zls sv X ((obD V P A A s.ob).set i Px.emp) (obD V P A A ((s.ob.set i .emp).map (frO i u g))):=by
   have e1 :(obD V P A A s.ob).set i Px.emp=obD V P A A (s.ob.set i .emp):=by rw[z35 V P A s.ob i q .emp ha];rfl
   rw[e1];exact zz9 V P hu hga hA hG A _
  obtain⟨r',S',hrr,hw',hev',hx'⟩:=y3v i hlt hw hev.ev hX hfo;exact⟨hd,hn,hkn,y3p V hgb,A,r',S',by simp[frC,hl],hw',hev.up hev' hrr,y3r V P hu hga hA hG hx' (λt B hB=>B.mono hrr (λ_ _=>rfl) (hsl t B hB)),zza hu hga hA hG hx' (hst.mono hrr)⟩
theorem zz8[Dr]{C:Cx P}{acts:List GA}{s:SS V.T}{a:Act}{w:World}(i:Nat)(u:SV V.T)(hu:z15 u=false){o:SO V.T}(ho:s.ob[i]? = some o)
  (hx:∀A q r S,A[i]? = some q->(o.den V P A q).h S r w->(u.den V P A).h (λb=>r b\/S b) w q.2) (h:SatS V C acts s a w):SatS V C acts (frC s i u (.ptr i)) a w:=
 yaw i u (.ptr i) hu (λ_=>rfl) ho (λA q r S ha hh=>⟨q.2,_,hx A q r S ha hh,by simp only[SV.den,ha];exact FzV.here,λ_=>FzV.refl⟩) h
theorem yh3{c:Nat}(h:zv6 (V.d c)=true)(x:V.T c):V.ev c x = [Px.ro (V.ev (zcc (V.d c) x).1) (V.sz (zcc (V.d c) x).1) (zcc (V.d c) x).2]:=by rw[V.ev_eq];revert x h;generalize V.d c=d;generalize V.T c=α at d;intro h x;cases d<;>simp[zv6] at h<;>rfl
theorem yhv{c:Nat}(h:zv6 (V.d c)=true):V.sz c=1:=by rw[V.sz_eq];revert h;generalize V.d c=d;generalize V.T c=α at d;intro h;cases d<;>simp[zv6] at h<;>rfl
theorem yfd[Dr]{C:Cx P}{acts:List GA}{s:SS V.T}{a:Act}{w:World}(i:Nat)(h:SatS V C acts s a w):SatS V C acts (frS V s i) a w:=by
 unfold frS;split
 .rename_i T cs ho;refine yaw i (.own i) (frG V i cs) rfl (λoff=>by unfold frG;split<;>rfl) ho (λA q r S ha hh=>?_) h;obtain⟨hS,cur,hcur,hc⟩:=hh;refine⟨.pointer (some ⟨q.1,0,none⟩),Px.rop (denL V P A cs),⟨q.1,0,rfl,.inr hS,λj B hB=>?_⟩,FzV.refl,λoff=>?_⟩
  .obtain⟨v,hv,hBv,ho1⟩:=hc.2 j B hB;refine⟨v,?_,B.mono (λb hb=>.inl hb) (λ_ _=>rfl) hBv,ho1⟩;rw[w1c,cell_of_row w q.1 j cur T (0,0) hcur];simpa using hv
  .unfold frG;split
   .rename_i l hl;obtain⟨e1,e2⟩:=zcg V P (A:=A) cs off l hl;intro r' w' v hX hv;simp only[SV.den,ha,eqv] at hv;subst hv;obtain⟨b,o',hb,hr,hcs⟩:=hX;simp only[Value.pointer.injEq,w00,Addr.mk.injEq,and_true] at hb;obtain⟨rfl,rfl⟩:=hb;simp only[SV.den];refine⟨_,off,rfl,hr,λj B hB=>?_⟩;rw[e1,w1l] at hB;obtain⟨v,hv,hBv⟩:=hcs (off+j) B hB;exact⟨v,by rw[<- hv,w1c],hBv⟩
   .exact FzV.refl
 .rename_i o hno ho;cases hf:frX V o with
  |none=>exact h
  |some u=>
   simp only;unfold frX at hf;split at hf
   .rename_i E c l;cases hf;exact zz8 i (.ro c l) rfl ho (λA q r S ha h=>zrl (V.ev_len c) h) h
   .rename_i E E2 c l;cases hf;refine zz8 i (.ro c l) rfl ho (λA q r S ha h=>?_) h;obtain⟨hp,hn⟩:=h;show (Px.ro (V.ev c) (V.sz c) l).h _ _ _;have e1:V.ev c=λx=>[Px.ro (V.ev (zcc (V.d c) x).1) (V.sz (zcc (V.d c) x).1) (zcc (V.d c) x).2]:=funext λx=>yh3 hp.1 x
    rw[e1,yhv hp.1];exact yfu hn λx v S' hh=>zrl (V.ev_len _) hh
   .rename_i E c l;cases hf;exact zz8 i (.ro c l) rfl ho (λA q r S ha h=>zrl (V.ev_len c) h.2) h
   .rename_i kc vc E m;cases hk:V.okV vc with
    |false=>rw[hk] at hf;cases hf
    |true=>rw[hk] at hf;cases hf;refine zz8 i (.rom kc vc m) rfl ho (λA q r S ha h=>?_) h;obtain⟨hp,hn⟩:=h;rw[hp.1];exact yb5 V hk hn
   .cases hf
 .exact h
theorem y8t{T:Nat->Type}{c':Nat}{l:List (T c')}: ∀{α:Type}{d:Ds T α}{y:α},y8s c' l d=some y->zcc d y =⟨c',l⟩
 |_,.sl c,y,h=>by
  simp only[y8s] at h;split at h
  .rename_i e;subst e;simp only[w00] at h;subst h;rfl
  .cases h
 |_,.int _,_,h|_,.bool,_,h|_,.str,_,h|_,.arr _ _,_,h|_,.map _ _,_,h|_,.st _ _ _ _,_,h=>by simp[y8s] at h
theorem y4c{E kc vc E':Nat}{m:List (V.T kc×V.T vc)}{p:V.T kc×Nat}{α:Type}{d:Ds V.T α}: insM V E d (.x (.map kc vc E' m (some p)))=none:=by
 cases d with
 |map kc' vc'=>simp only[insM,insP];cases zbd (V.d vc')<;>rfl
 |_=>rfl
theorem yd1[Dr]{A:Asg}{E c:Nat}{o:SO V.T}{y:V.T c}{q:Nat×Value}{S r:Nat->Prop}{w:World}(h:insM V E (V.d c) o=some y)(ho :(o.den V P A q).h S r w):(V.inm E c y q.2).h S r w:=by
 unfold TE.inm;revert y h;generalize V.d c=d;revert d;generalize V.T c=α;intro d y h;cases d with
 |sl c=>
  simp only[insM] at h;unfold insS at h;split at h
  .rename_i E' c' l;cases hb:Nat.beq E' E with
   |false=>rw[hb] at h;cases h
   |true=>
    rw[hb] at h;have:=w01 hb;subst this;simp only[cond_true] at h;split at h
    .rename_i e;subst e;cases h;exact ho
    .cases h
  .cases h
 |map kc vc=>
  simp only[insM] at h;cases hs:zbd (V.d vc) with
  |false=>rw[hs] at h;cases h
  |true=>
   rw[hs] at h;simp only[cond_true] at h;unfold insP at h;split at h
   .rename_i kc' vc' E' m;split at h
    .rename_i e;subst e;split at h
     .rename_i e;subst e;cases h;obtain⟨hp,hn⟩:=ho;refine⟨q.1,hp.1,?_⟩;simp only[zm1 hs] at hn;exact hn
     .cases h
    .cases h
   .cases h
 |_=>simp[insM] at h
theorem SatS.objs[Dr]{C:Cx P}{acts:List GA}{s:SS V.T}{a:Act}{w:World}{ob':List (SO V.T)}(h:SatS V C acts s a w)
  (k:∀A ro S,A.length=s.ob.length->WInv C.w0 C.base (obD V P A A s.ob) ro S w->∃B S',(A++B).length=ob'.length/\WInv C.w0 C.base (obD V P (A++B) (A++B) ob') ro S' w):SatS V C acts { s with ob:=ob' } a w:=by
 obtain⟨hd,hn,hkn,hgb,A,ro,S,hl,hw,hev,hsl,hst⟩:=h;obtain⟨B,S',h1,h2⟩:=k A ro S hl hw;exact⟨hd,hn,hkn,hgb,A++B,ro,S',h1,h2,hev,zey V P (AExt.app A B) hsl,Stk.ext (AExt.app A B) (Evo.refl C.base _ _) hst⟩
theorem zsp[Dr]{C:Cx P}{acts:List GA}{s s':SS V.T}{a:Act}{w:World}(i:Nat)(hs:zxe V s i=some s')(h:SatS V C acts s a w):SatS V C acts s' a w:=by
 unfold zxe at hs;split at hs
 .rename_i kc vc E m k j ho;split at hs
  .rename_i o hj;split at hs
   .rename_i y hy;cases hk:V.key kc with
    |false=>rw[hk] at hs;cases hs
    |true=>
     rw[hk] at hs;simp only[cond_true,w00] at hs;subst hs;refine h.objs λA ro S hl hw=>⟨[],?_⟩
     rw[w0b];have li:=(w02.1 ho).1;have lj:=(w02.1 hj).1;have hij:i≠j:=λe=>by subst e;rw[ho] at hj;cases hj;rw[y4c] at hy;cases hy
     obtain⟨qi,hqi⟩:∃q,A[i]? = some q:=⟨A[i],by simp[hl,li]⟩;obtain⟨qj,hqj⟩:∃q,A[j]? = some q:=⟨A[j],by simp[hl,lj]⟩;have hi:=zn V P (A:=A) (ps:=A) hqi ho;have hj2:=zn V P (A:=A) (ps:=A) hqj hj;obtain⟨S',hw'⟩:=hw.fuse i j (H:=(SO.x (.map kc vc E (cset (V.kl kc) m k y) none):SO V.T).den V P A qi) hij hi hj2 (λh1 h2 hd=>by obtain⟨hp,hn⟩:=h1;refine⟨⟨hp.1,λ_ _ e=>by cases e⟩,?_⟩;simp only[zbc,hqj] at hn;exact y97 (yfl hk) hn (yd1 hy h2) hd);refine⟨S',by simp[hl],?_⟩;rw[z35 V P A _ j qj .emp hqj,z35 V P A _ i qi _ hqi];exact hw'
   .cases hs
  .cases hs
 .rename_i E E2 c l k j ho;split at hs
  .rename_i E' c' l' hj;cases hb:Nat.beq E' E2 with
   |false=>rw[hb] at hs;cases hs
   |true=>
    rw[hb] at hs;have e1:=w01 hb;subst e1;simp only[cond_true] at hs;split at hs
    .rename_i y hy;simp only[w00] at hs;subst hs;refine h.objs λA ro S hl hw=>⟨[],?_⟩
     rw[w0b];have li:=(w02.1 ho).1;have lj:=(w02.1 hj).1;have hij:i≠j:=λe=>by subst e;rw[ho] at hj;cases hj
     obtain⟨qi,hqi⟩:∃q,A[i]? = some q:=⟨A[i],by simp[hl,li]⟩;obtain⟨qj,hqj⟩:∃q,A[j]? = some q:=⟨A[j],by simp[hl,lj]⟩;have hi:=zn V P (A:=A) (ps:=A) hqi ho;have hj2:=zn V P (A:=A) (ps:=A) hqj hj;obtain⟨S',hw'⟩:=hw.fuse i j (H:=(SO.x (.nst E E' c (zt l k y) none):SO V.T).den V P A qi) hij hi hj2 (λh1 h2 hd=>by obtain⟨hp,hn⟩:=h1;refine⟨⟨hp.1,λ_ _ e=>by cases e⟩,?_⟩;simp only[zgc,hqj] at hn;refine y98 hn ?_ hd;unfold TE.inn;rw[y8t hy];exact h2);refine⟨S',by simp[hl],?_⟩;have e3 :(s.ob.set i (.x (.nst E E' c (zt l k y) none)))[j]? = some (.row E' c' l'):=by rw[w22 hij];exact hj
     rw[z35 V P A _ j qj .emp hqj,z35 V P A _ i qi _ hqi];exact hw'
    .cases hs
  .cases hs
 .simp only[w00] at hs;subst hs;exact h
theorem zz7[Dr]{C:Cx P}{acts:List GA}{s:SS V.T}{a:Act}{w:World}(i:Nat)(h:SatS V C acts s a w):SatS V C acts (zv0 V s i) a w:=by
 unfold zv0;cases hf:zxe V s i with
 |none=>exact h
 |some s'=>exact zsp i hf h
theorem ycm[Dr]{C:Cx P}{R:Type}{r:R}{acts:List GA}{s:SS V.T}{a:Act}{w:World}{i:Nat}{m:Int}{k:SS V.T->Option R}(hf:focX V s i m k=some r)(h:SatS V C acts s a w):∃s',k s'=some r/\SatS V C acts s' a w:=by
 unfold focX at hf;split at hf
 .rename_i s1 hs1;have h1:=zsp i hs1 h;split at hf
  .rename_i E E2 c l ho;obtain⟨hm,hk⟩:=zcv hf;refine⟨_,hk,h1.objs λA ro S hl hw=>?_⟩;have li:=(w02.1 ho).1;obtain⟨qi,hqi⟩:∃q,A[i]? = some q:=⟨A[i],by simp[hl,li]⟩;have hi:=zn V P (A:=A) (ps:=A) hqi ho;have hl2 :(obD V P A A s1.ob).length=s1.ob.length:=zc8 V P A s1.ob hl;obtain⟨hp,hn⟩:=hw.obj i _ hi;obtain⟨v,S1,S2,n1,n2,n3,n4,n5⟩:=y4z hn (zh3 (z:=V.z c) hm);have hlt:i<(obD V P A A s1.ob).length:=(w02.1 hi).1;have hat :(A++[((0:Nat),v)])[s1.ob.length]? = some (0,v):=zaq A _ _ hl;obtain⟨S',hw'⟩:=hw.split i (H1:=(SO.x (.nst E E2 c l (some (m,s1.ob.length))):SO V.T).den V P (A++[(0,v)]) qi) (H2:=row E2 (V.ev (zcc (V.d c) (gtz (V.z c) l m)).1) (V.sz (zcc (V.d c) (gtz (V.z c) l m)).1) (zcc (V.d c) (gtz (V.z c) l m)).2 v) hlt S1 S2 (by
     refine⟨⟨hp.1,λk j e=>?_⟩,?_⟩
     .simp only[w00,w0f] at e;rw[<- e.2,hat];rfl
     .simp only[zgc,hat];exact n1) n2 n3 n4 n5
   refine⟨[(0,v)],?_⟩;have hset :(s1.ob.set i (.x (.nst E E2 c l (some (m,s1.ob.length))))).length=A.length:=by simp[hl]
   have hA2 :(A++[((0:Nat),v)])[i]? = some qi:=by rw[w0n (by omega)];exact hqi
   obtain⟨S3,hw3⟩:=ObW.le (z5s.app (c:=[row E2 (V.ev (zcc (V.d c) (gtz (V.z c) l m)).1) (V.sz (zcc (V.d c) (gtz (V.z c) l m)).1) (zcc (V.d c) (gtz (V.z c) l m)).2 v]) (d:=[row E2 (V.ev (zcc (V.d c) (gtz (V.z c) l m)).1) (V.sz (zcc (V.d c) (gtz (V.z c) l m)).1) (zcc (V.d c) (gtz (V.z c) l m)).2 v])
    (by rw[w27,w27,hl2,zc8 V P A s1.ob hl]) (zi3 (znh V P (AExt.app A [(0,v)]) A s1.ob) i _) ⟨EntH.refl,trivial⟩) _ _ _ _ _ hw'
   refine⟨S3,by simp[hl],?_⟩;rw[zt6 V P A _ [(0,v)] _ hset.symm,z35 V P A s1.ob i qi _ hqi];exact hw3
  .cases hf
 .cases hf
theorem yel[Dr]{E c:Nat}{o:SO V.T}{y:V.T c}{v:Value}{S r:Nat->Prop}{w:World}(h:splM V E (V.d c) y=some o)(hy :(V.inm E c y v).h S r w):∃b,∀A,(o.den V P A (b,v)).h S r w:=by
 unfold TE.inm at hy;revert y h;generalize V.d c=d;revert d;generalize V.T c=α;intro d y h hy;cases d with
 |sl c'=>simp only[splM,w00] at h;subst h;exact⟨0,λA=>hy⟩
 |map kc vc=>
  simp only[splM] at h;cases hs:zbd (V.d vc) with
  |false=>rw[hs] at h;cases h
  |true=>rw[hs] at h;cases h;obtain⟨b,rfl,hn⟩:=hy;refine⟨b,λA=>⟨⟨rfl,λ_ _ e=>by cases e⟩,?_⟩⟩;show (nmp b (V.kl kc) (V.kv kc) (V.inm 0 vc) y none).h S r w;rw[zm1 hs];exact hn
 |_=>simp[splM] at h
theorem ycl[Dr]{C:Cx P}{R:Type}{r:R}{acts:List GA}{s:SS V.T}{a:Act}{w:World}{i:Nat}{key :(kc:Nat)->Option (V.T kc)}{k:SS V.T->Option R}(hf:focM V s i key k=some r)(h:SatS V C acts s a w):∃s',k s'=some r/\SatS V C acts s' a w:=by
 unfold focM at hf;split at hf
 .rename_i s1 hs1;have h1:=zsp i hs1 h;split at hf
  .rename_i kc vc E m ho;split at hf
   .rename_i y hy;split at hf
    .rename_i x hx;split at hf
     .rename_i o hsp;refine⟨_,hf,h1.objs λA ro S hl hw=>?_⟩;have li:=(w02.1 ho).1;obtain⟨qi,hqi⟩:∃q,A[i]? = some q:=⟨A[i],by simp[hl,li]⟩;have hi:=zn V P (A:=A) (ps:=A) hqi ho;have hl2 :(obD V P A A s1.ob).length=s1.ob.length:=zc8 V P A s1.ob hl;obtain⟨hp,hn⟩:=hw.obj i _ hi;obtain⟨v,S1,S2,n1,n2,n3,n4,n5⟩:=y4x hn hx;obtain⟨b,hb⟩:=yel (P:=P) hsp n2;have hlt:i<(obD V P A A s1.ob).length:=(w02.1 hi).1;have hat :(A++[(b,v)])[s1.ob.length]? = some (b,v):=zaq A _ _ hl;obtain⟨S',hw'⟩:=hw.split i (H1:=(SO.x (.map kc vc E m (some (y,s1.ob.length))):SO V.T).den V P (A++[(b,v)]) qi) (H2:=o.den V P (A++[(b,v)]) (b,v)) hlt S1 S2 (by
        refine⟨⟨hp.1,λk j e=>?_⟩,?_⟩
        .simp only[w00,w0f] at e;rw[<- e.2,hat];rfl
        .simp only[zbc,hat];exact n1) (hb _) n3 n4 n5
      refine⟨[(b,v)],?_⟩;have hset :(s1.ob.set i (.x (.map kc vc E m (some (y,s1.ob.length))))).length=A.length:=by simp[hl]
      have hA2 :(A++[(b,v)])[i]? = some qi:=by rw[w0n (by omega)];exact hqi
      obtain⟨S3,hw3⟩:=ObW.le (z5s.app (c:=[o.den V P (A++[(b,v)]) (b,v)]) (d:=[o.den V P (A++[(b,v)]) (b,v)])
       (by rw[w27,w27,hl2,zc8 V P A s1.ob hl]) (zi3 (znh V P (AExt.app A [(b,v)]) A s1.ob) i _) ⟨EntH.refl,trivial⟩) _ _ _ _ _ hw'
      refine⟨S3,by simp[hl],?_⟩;rw[zt6 V P A _ [(b,v)] _ hset.symm,z35 V P A s1.ob i qi _ hqi];exact hw3
     .cases hf
    .exact⟨_,hf,h1⟩
   .cases hf
  .cases hf
 .cases hf
theorem znd[Dr]{C:Cx P}{acts:List GA}{a:Act}{w:World}: ∀(is:List Nat){s:SS V.T},SatS V C acts s a w->SatS V C acts (zv2 V s is) a w
 | [],_,h=>h
 |i::is,s,h=>znd is (s:=frS V (zv0 V s i) i) (yfd i (zz7 i h))
end
end Px
end
section
namespace Px
open Go Go.RowKit
theorem y2r{gb gb':List (Nat×Bool)}{ch:Ch}(h:∀p∈ch,(lk gb p.1).isSome=true->lk gb' p.1=lk gb p.1)(hs:∀p∈ch,(lk gb p.1).isSome=true):chP gb ch↔chP gb' ch:=by
 rw[z8e,z8e];constructor
 .intro k p hp;rw[h p hp (hs p hp)];exact k p hp
 .intro k p hp;rw[<- h p hp (hs p hp)];exact k p hp
theorem zlf{gb:List (Nat×Bool)}{kn:Ch}(hk:chP gb kn):∀{ch:Ch},(∀cur,resolve kn ch=some cur->(chP gb ch↔chP gb cur)/\∀p∈cur,p∈ch)/\(resolve kn ch=none->¬chP gb ch)
 | []=>⟨λcur h=>by simp[resolve] at h;subst h;exact⟨Iff.rfl,λp h=>h⟩,λh=>by simp[resolve] at h⟩
 |(t,w)::r=>by
  obtain⟨h1,h2⟩:=zlf hk (ch:=r);have cons_iff:∀(p:Nat×Bool)(l:Ch),chP gb (p::l)↔(lk gb p.1).getD false=p.2/\chP gb l:=by intro p l;rw[z8e,z8e,List.forall_mem_cons]
  cases hr:resolve kn r with
  |none=>refine⟨λcur h=>?_,λ_ h=>h2 hr ((cons_iff _ _).1 h).2⟩;simp only[resolve,hr] at h;cases lk kn t<;>cases h
  |some q=>
   obtain⟨e1,e2⟩:=h1 q hr;cases hb:lk kn t with
   |none=>
    refine⟨λcur h=>?_,λh=>by simp[resolve,hr,hb] at h⟩;simp only[resolve,hr,hb,w00] at h;subst h;refine⟨by rw[cons_iff,cons_iff,e1],λp hp=>?_⟩;rcases w08.1 hp with rfl|hp
    .exact w0l ..
    .exact w0h _ (e2 p hp)
   |some b=>
    have hkt:=yda hk hb;cases hbw :(b==w) with
    |true=>
     have:b=w:=by simpa using hbw
     subst this;refine⟨λcur h=>?_,λh=>by simp[resolve,hr,hb] at h⟩;simp only[resolve,hr,hb,BEq.rfl,cond_true,w00] at h;subst h;exact⟨by rw[cons_iff,e1];exact⟨λh=>h.2,λh=>⟨hkt,h⟩⟩,λp hp=>w0h _ (e2 p hp)⟩
    |false=>refine⟨λcur h=>by simp[resolve,hr,hb,hbw] at h,λ_ h=>?_⟩;have:=((cons_iff _ _).1 h).1;simp only at this;rw[hkt] at this;subst this;simp at hbw
section
variable{V:TE}{N:Env V}{R:Type}{r:R}{C:Cx N.P}
theorem z07{α:Type}{d:Nat}{x:α}{l:List (Nat×α)}{t:Nat}: lk ((d,x)::l) t=if t=d then some x else lk l t:=by
 simp only[lk];by_cases h:t=d
 .subst h;simp
 .have:Nat.beq d t=false:=znn (λe=>h e.symm);rw[this,if_neg h];rfl
theorem zpr[Dr]{acts:List GA}{s s2:SS V.T}{d:Option Nat}{e:Ch×SV V.T}(hset:yad V s d e=some s2)(hech:∀p∈e.1,(lk s.gb p.1).isSome=true){A B:Asg}{a:Act}{w w':World}{ro ro':Nat->Prop}{S':Nat->Nat->Prop}{v0:Value}
  (hd:True) (hn:a.tmps.size=s.n) (hkn:chP s.gb s.kn) (hgb:GbOK s.toFm) (hl :(A++B).length=s.ob.length) (hw:WInv C.w0 C.base (obD V N.P (A++B) (A++B) s.ob) ro' S' w') (hev0:EvM C.base C.r0 C.wI (mks a acts) (lps acts) ro w) (hev:Evo C.base ro w ro' w')
  (hsl:ze (slD V N.P A s.gb s.sl) a ro w) (hst:Stk V N.P A ro w s.stk acts) (hx :(denE V N.P (A++B) s.gb e).h ro' w' v0):SatS V C acts s2 (a.put d v0) w':=by
 have hAB:=AExt.app A B;have hsl':=zey V N.P hAB (hsl.evo hev);cases d with
 |none=>simp only[yad,w00] at hset;subst hset;exact⟨hd,hn,hkn,hgb,A++B,ro',S',hl,hw,hev0.trans hev,hsl',hst.ext hAB hev⟩
 |some d=>
  simp only[yad] at hset;cases hg:lk s.gb d with
  |some g=>rw[hg] at hset;cases hset
  |none=>
   rw[hg] at hset;cases hb:Nat.blt d s.n with
   |false=>simp only[hb] at hset;cases hset
   |true=>
    simp only[hb,cond_true,w00] at hset;subst hset;have hlt:d<s.n:=by simpa using hb
    refine⟨hd,by simp[Act.put,hn],hkn,⟨?_,?_,hgb.kn⟩,A++B,ro',S',hl,hw,hev0.trans hev,?_,hst.ext hAB hev⟩
    .intro t g htg ch z hz;simp only[z07] at hz;split at hz
     .rename_i e1;subst e1;simp only at htg;rw[hg] at htg;cases htg
     .exact hgb.val t g htg ch z hz
    .intro t ch z hz;simp only[z07] at hz;split at hz
     .simp only[w00] at hz;rw[<- show e.1=ch by rw[hz]];exact hech
     .exact hgb.ch t ch z hz
    .intro t X hX;simp only[slD,z07] at hX;rw[zj7 a (some d) v0 t (λy hy=>by simp at hy;subst hy;rw[hn];exact hlt)];by_cases h:t=d
     .subst h;simp only[if_true,w0u,w00] at hX;subst hX;simpa using hx
     .rw[if_neg h] at hX;rw[if_neg (λe=>h (by simpa using e.symm))];exact hsl' t X hX
theorem zze[Dr]{A:Asg}{s:SS V.T}{ops:Array Oper}{a:Act}{ro:Nat->Prop}{w:World}{j t:Nat}{ch:Ch}{b want:Bool}(hj :(ops[j]?).bind (·.dst)=some t)(hl:lk s.sl t=some (ch,.bool b))(hg:lk s.gb t=some b)
  (hs:ze (slD V N.P A s.gb s.sl) a ro w) :(chP s.gb ((t,want)::ch)->yielded ops a.tmps j=some want)/\(¬chP s.gb ((t,want)::ch)->yielded ops a.tmps j≠some want):=by
 cases ch with
 |nil=>have:=zst (want:=want) hj (by simp[slD,hl];rfl) hs;simpa only[chP,hg,w1e] using this
 |cons c l=>have:=zxg (want:=want) hj (by simp[slD,hl];rfl) hs;simpa only[chP,hg,w1e] using this
theorem ygw[Dr]{A:Asg}{s:SS V.T}{ops:Array Oper}{a:Act}{ro:Nat->Prop}{w:World}{j t:Nat}(hj :(ops[j]?).bind (·.dst)=some t)(hl:lk s.sl t=some ([],.und))(hs:ze (slD V N.P A s.gb s.sl) a ro w):yielded ops a.tmps j=none:=(ze1 hj).2 (hs t (eqv undef) (by simp[slD,hl];rfl))
theorem yax{f:Fm V.T}{t:Nat}{ch:Ch}{b:Bool}(hgb:GbOK f)(hl:lk f.sl t=some (ch,.bool b))(hg:lk f.gb t=none):GbOK { f with gb:=(t,b)::f.gb }/\(∀c:Ch,(∀p∈c,(lk f.gb p.1).isSome=true)->(chP f.gb c↔chP ((t,b)::f.gb) c)):=by
 have key:∀(u:Nat),(lk f.gb u).isSome=true->lk ((t,b)::f.gb) u=lk f.gb u:=by intro u hu;rw[z07,if_neg];rintro rfl;rw[hg] at hu;cases hu
 refine⟨⟨?_,?_,?_⟩,λc hc=>y2r (λp _ h=>key p.1 h) hc⟩
 .intro u g hu c z hz;simp only[z07] at hu;split at hu
  .rename_i e;subst e;simp only[w00] at hu;subst hu;rw[hl] at hz;simp only[w00,w0f] at hz;exact hz.2.symm
  .exact hgb.val u g hu c z hz
 .intro u c z hz p hp;have:=hgb.ch u c z hz p hp;simp only[key p.1 this,this]
 .intro p hp;have:=hgb.kn p hp;simp only[key p.1 this,this]
theorem ygo[Dr]{P:Program}{A:Asg}{f:Fm V.T}{t:Nat}{ch:Ch}{b:Bool}(hgb:GbOK f)(hl:lk f.sl t=some (ch,.bool b))(hg:lk f.gb t=none){a:Act}{ro:Nat->Prop}{w:World}(h:ze (slD V P A f.gb f.sl) a ro w):
  ze (slD V P A ((t,b)::f.gb) f.sl) a ro w:=by
 intro u X hX;simp only[slD] at hX;cases hu:lk f.sl u with
 |none=>rw[hu] at hX;cases hX
 |some e=>
  rw[hu] at hX;simp only[w0u,w00] at hX;subst hX;have h1:=h u (denE V P A f.gb e) (by simp[slD,hu]);obtain⟨c,x⟩:=e;cases c with
  |nil=>exact h1
  |cons p l=>have e1:=(yax hgb hl hg).2 (p::l) (hgb.ch u _ _ hu);exact⟨λhc=>h1.1 (e1.2 hc),λhc=>h1.2 (λh=>hc (e1.1 h))⟩
theorem y0w[Dr]{acts:List GA}{ops:Array Oper}{s:SS V.T}{g:Nat×Bool}{x:Option Ch}{s':SS V.T}{a:Act}{w:World}(h:zgb V ops.toList s g=some (x,s'))(hs:SatS V C acts s a w):
  SatS V C acts s' a w/\s'.sl=s.sl/\s'.ob=s.ob/\match x with
   |none=>yielded ops a.tmps g.1=none
   |some ch=>(∀p∈ch,(lk s'.gb p.1).isSome=true)/\(chP s'.gb ch->yielded ops a.tmps g.1=some g.2)/\(¬chP s'.gb ch->yielded ops a.tmps g.1≠some g.2):=by
 unfold zgb at h;have hop:∀t,(ops.toList[g.1]?).bind (·.dst)=some t->(ops[g.1]?).bind (·.dst)=some t:=λt h=>by simpa using h
 split at h
 .rename_i t ht;have ht:=hop t ht;split at h
  .rename_i hl;simp only[w00,w0f] at h;obtain⟨rfl,rfl⟩:=h;obtain⟨_,_,_,_,A,ro,S,_,_,_,hsl,_⟩:=id hs;exact⟨hs,rfl,rfl,ygw ht hl hsl⟩
  .rename_i ch b hl;split at h
   .rename_i g' hg;simp only[w00,w0f] at h;obtain⟨rfl,rfl⟩:=h;obtain⟨_,_,_,hgb,A,ro,S,_,_,_,hsl,_⟩:=id hs;have e:=hgb.val t g' hg ch _ hl;simp only[SV.bool.injEq] at e;subst e;obtain⟨h1,h2⟩:=zze (want:=g.2) ht hl hg hsl;refine⟨hs,rfl,rfl,λp hp=>?_,h1,h2⟩;rcases w08.1 hp with rfl|hp
    .simp[hg]
    .exact hgb.ch t ch _ hl p hp
   .rename_i hg;simp only[w00,w0f] at h;obtain⟨rfl,rfl⟩:=h;obtain⟨hd,hn,hkn,hgb,A,ro,S,hlen,hw,hev,hsl,hst⟩:=id hs;obtain⟨g1,g2⟩:=yax hgb hl hg;have hsl':=ygo hgb hl hg hsl;obtain⟨h1,h2⟩:=zze (s:={ s with gb:=(t,b)::s.gb }) (want:=g.2) ht hl (by simp[z07]) hsl';refine⟨⟨hd,hn,(g2 _ hgb.kn).1 hkn,g1,A,ro,S,hlen,hw,hev,hsl',hst⟩,rfl,rfl,λp hp=>?_,h1,h2⟩;rcases w08.1 hp with rfl|hp
    .simp[z07]
    .exact g1.ch t ch _ hl p hp
  .cases h
 .cases h
end
end Px
end
section
namespace Px
open Go Go.RowKit
section
variable{V:TE}{N:Env V}{R:Type}{r:R}{C:Cx N.P}
theorem y05[Dr]{A:Asg}{s:SS V.T}{a:Act}{ro:Nat->Prop}{S:Nat->Nat->Prop}{w:World}(hw:WInv C.w0 C.base (obD V N.P A A s.ob) ro S w)(hs:ze (slD V N.P A s.gb s.sl) a ro w):
  ∀{rs:List ResultVar}{l:List (SV V.T)},zhi V N s rs=some l->∃vs,(rs.mapM (zte a.tmps)).run N.P w = .ok vs w/\vs.length =(denV V N.P A l).length/\∀(i:Nat)(B:VP),(denV V N.P A l)[i]? = some B->B.h ro w (vs.getD i undef)
 | [],l,h=>by simp only[zhi,w00] at h;subst h;exact⟨[],rfl,rfl,λi B h=>by simp[denV] at h⟩
 |rv::rs,l,h=>by
  have step:∀(x:SV V.T)(m:List (SV V.T))(v:Value),zhi V N s rs=some m->(zte a.tmps rv).run N.P w = .ok v w->(x.den V N.P A).h ro w v->l=x::m->
    ∃vs,((rv::rs).mapM (zte a.tmps)).run N.P w = .ok vs w/\vs.length =(denV V N.P A l).length/\∀(i:Nat)(B:VP),(denV V N.P A l)[i]? = some B->B.h ro w (vs.getD i undef):=by
   intro x m v hm hv hx hl;subst hl;obtain⟨vs,e1,e2,e3⟩:=y05 hw hs hm;refine⟨v::vs,?_,by simp[denV,e2],λi B hB=>?_⟩
   .rw[List.mapM_cons];simp only[w06,hv,w05,e1,w0j]
   .cases i with
    |zero=>simp[denV] at hB;subst hB;simpa using hx
    |succ i=>simpa using e3 i B (by simpa[denV] using hB)
  have slot:∀t x,lk s.sl t=some ([],x)->(x.den V N.P A).h ro w (a.tmps.getD t undef):=λt x hx=>hs t _ (by simp[slD,hx];rfl)
  cases rv with
  |tmp t=>
   simp only[zhi] at h;split at h
   .rename_i x hx;split at h
    .rename_i m hm;simp only[w00] at h;exact step x m _ hm rfl (slot t x hx) h.symm
    .cases h
   .cases h
  |cell b t=>
   simp only[zhi] at h;split at h
   .rename_i p g n hp ht;split at h
    .rename_i x hx;split at h
     .rename_i m hm;simp only[w00] at h;have hev:Ev (s.st V N.P A) (.tmp b) (p.den V N.P A):=Ev.tmp (by simp[SS.st,slD,hp];rfl);have hrv:∃v,(zte a.tmps (.cell b t)).run N.P w = .ok v w/\(x.den V N.P A).h ro w v:=by
       rcases yfn V N.P (C:=C) hx hev with h1|⟨rfl,cs,h1⟩|⟨rfl,cs,e,hl,h1⟩
       .exact(h1 a ro w hs).elim
       .exact RV.run (C:=C) (s:=s.st V N.P A) (rv:=.cell b t) (.inl ⟨n,ht,cs,h1⟩) hw hs
       .exact RV.run (C:=C) (s:=s.st V N.P A) (rv:=.cell b t) (.inr ⟨cs,e,hl ▸ ht,h1⟩) hw hs
      obtain⟨v,h1,h2⟩:=hrv;exact step x m v hm h1 h2 h.symm
     .cases h
    .cases h
   .cases h
theorem zhb[Dr]{A:Asg}{s:SS V.T}{fn:Func}{a:Act}{ro:Nat->Prop}{S:Nat->Nat->Prop}{w:World}(hw:WInv C.w0 C.base (obD V N.P A A s.ob) ro S w)(hs:ze (slD V N.P A s.gb s.sl) a ro w)
  {l:List (SV V.T)} (h:zhi V N s fn.results.toList=some l):∃v,(results fn a.tmps).run N.P w = .ok v w/\((resV V l).den V N.P A).h ro w v:=by
 obtain⟨vs,h1,h2,h3⟩:=y05 hw hs h;have hm :(fn.results.mapM (zte a.tmps)).run N.P w = .ok vs.toArray w:=by rw[Array.mapM_eq_mapM_toList];simp only[Sem.run_map,h1,w05]
 refine⟨if h:vs.toArray.size=1 then vs.toArray[0] else .tuple vs.toArray,?_,?_⟩
 .rw[y1q];simp only[w06,hm,w05,w0j]
 .match l,vs with
  | [],[]=>rfl
  | [x],[v]=>simpa[resV,denV] using h3 0 _ (by simp[denV])
  |x::y::l,v::u::vs=>simp only[resV,SV.den];refine⟨(v::u::vs).toArray,by simp,by simpa using h2,λi B hB=>?_⟩;have:=h3 i B hB;simpa[w07,w1q] using this
  | [],_::_=>simp[denV] at h2
  |_::_,[]=>simp[denV] at h2
  | [_],_::_::_=>simp[denV] at h2
  |_::_::_,[_]=>simp[denV] at h2
def zmf[Dr](Γ:List (Option (Nat×Nat)))(C:Cx N.P)(r:R)(run:Code->SS V.T->KX V R->Option R)(c:Code)(K:KX V R):Prop:=∀(rd:Option Nat)(acts:List GA)(Q:Exit->Act->World->Prop),acts.map GA.lpI=Γ->(rd=none\/noRF c=true)->(∀e s a w,K e s=some r->SatS V C acts s a w->Q e a w)->∀s a w,run c s K=some r->SatS V C acts s a w->c.wpIn (fz rd) 0 N.P Q a w
theorem ybp[Dr]{B b:Nat}{w0 w:World}(h:Bel B w0 w)(hb:B<=b)(o:Obj):Bel B w0 (w.putObj b o):=h.trans ⟨⟨rfl,rfl,rfl,by simp,λk hk=>w1d (by omega)⟩,λ_=>w0s _⟩
theorem WInv.put[Dr]{w0 w:World}{base b:Nat}{objs:List HP}{ro:Nat->Prop}{S:Nat->Nat->Prop}(h:WInv w0 base objs ro S w)(hro:ro b)(hB:base<=b)(hr:Rec w.heap[b]?)(o:Obj):WInv w0 base objs ro S (w.putObj b o) where
 below:=ybp h.below hB o
 size:=by simp;exact h.size
 obj:=λi H hi=>H.wk (λ_ h=>h) (λx _ hn=>w1d λe=>hn (e ▸ hr)) (λx hx=>w1d λe=>(h.own i x hx).2.2.2 (e ▸ hro)) (h.obj i H hi)
 own:=λi x hx=>by obtain⟨h1,h2,h3,h4⟩:=h.own i x hx;exact⟨h1,h2,by simpa using h3,h4⟩
 apart:=h.apart
 old:=λx hx=>by simpa using h.old x hx
theorem ze.putR{s:z8a}{a:Act}{ro:Nat->Prop}{w:World}{b:Nat}(hr:Rec w.heap[b]?)(o:Obj)(h:ze s a ro w):ze s a ro (w.putObj b o):=λt A ht=>A.wk (λ_ h=>h) (λx _ hn=>w1d λe=>hn (e ▸ hr)) (h t A ht)
theorem Stk.putR[Dr]{P:Program}{A:Asg}{ro:Nat->Prop}{w:World}{b:Nat}(hr:Rec w.heap[b]?)(o:Obj):∀{fs:List (Fm V.T)}{gs:List GA},Stk V P A ro w fs gs->Stk V P A ro (w.putObj b o) fs gs
 | [],[],_=>trivial
 |f::fs,g::gs,h=>⟨⟨h.1.1.putR hr o,h.1.2⟩,Stk.putR hr o h.2⟩
 | [],_::_,h=>h.elim
 |_::_,[],h=>h.elim
theorem Evo.putR{B b:Nat}{r0 ro:Nat->Prop}{wI w:World}(h:Evo B r0 wI ro w)(hb:¬r0 b)(o:Obj):Evo B r0 wI ro (w.putObj b o):=⟨h.1,λx hx=>(w1d λ(e:x=b)=>hb (by rw[<- e];exact hx)).trans (h.2.1 x hx),h.2.2⟩
theorem zm3{F:Fence}{n:Nat}{P:Program}{fn:Func}{tmps:Array Value}{R:Ending->World->Prop}(Φ:World->Prop)(hend:∀w,Φ w->∃v,(results fn tmps).run P w = .ok v w/\R (.returned v) w):∀(Ds:List Nat)(w:World),Ds.Nodup->
  (∀D∈Ds,w.heap[D]? = some (.deferred (some [])))->Φ w->(∀w,∀D∈Ds,w.heap[D]? = some (.deferred (some []))->Φ w->Φ (w.putObj D (.deferred none)))->LeavesInM F n P fn tmps R (Ds.map mkD) .returning w
 | [],w,_,_,h,_=>hend w h
 |D::Ds,w,hnd,hw,h,hs=>by have h1:=hw D (w0l ..);have hnd':=w1x.1 hnd;refine⟨λe=>(by cases e),.inl ⟨D,_,rfl,run_takeDeferred h1,zm3 Φ hend Ds _ hnd'.2 (λE hE=>?_) (hs w D (w0l ..) h1 h) λw E hE=>hs w E (w0h _ hE)⟩⟩;rw[w1d λ(e:E=D)=>hnd'.1 (by rw[<- e];exact hE)];exact hw E (w0h _ hE)
theorem zfs{P:Program}{f:FuncId}{fn:Func}{c:Code}{args:Array Value}{w:World}{R:Ending->World->Prop}(hf:P.funcs[f]? = some fn)(hb:fn.body=some c)
  (h:c.wpIn (fz none) 0 P (bodyPostM (fz none) 0 P fn R) { tmps:=args++Array.replicate (fn.ntmps-args.size) undef,defers:=[] } w):Calls P f args w R:=
 y7n (n:=0) (callsIn_of_wp_marks hf hb trivial h rfl)
theorem znf[Dr]{A:Asg}{acts:List GA}{s:SS V.T}{a:Act}{w:World}{ro:Nat->Prop}{S:Nat->Nat->Prop}{fn:Func}(hw:WInv C.w0 C.base (obD V N.P A A s.ob) ro S w)(hev:EvM C.base C.r0 C.wI (mks a acts) (lps acts) ro w)
  (hsl:ze (slD V N.P A s.gb s.sl) a ro w) (hst:Stk V N.P A ro w s.stk acts) {R':Ending->World->Prop}
  (hk:∀w',WInv C.w0 C.base (obD V N.P A A s.ob) ro S w'->EvM C.base C.r0 C.wI (acts.flatMap (·.act.defers)) (lps acts) ro w'->ze (slD V N.P A s.gb s.sl) a ro w'->Stk V N.P A ro w' s.stk acts->∃v,(results fn a.tmps).run N.P w' = .ok v w'/\R' (.returned v) w') :
  LeavesInM (fz none) 0 N.P fn a.tmps R' a.defers .returning w:=by
 obtain⟨Ds,h1,h2,h3⟩:=hev.bk.df;unfold mks at h1;obtain⟨Ds1,Ds2,rfl,e1,e2⟩:=List.map_eq_append_iff.1 h1.symm;obtain⟨n1,n2,n3⟩:=w43.1 h2;have hbase:∀D∈Ds1,C.base<=D:=λD hD=>by obtain⟨q1,q2,_⟩:=h3 D (w1k _ hD);exact(hev.ev.2.2 D q1).resolve_left q2
 rw[<- e1];refine zm3 (λw'=>WInv C.w0 C.base (obD V N.P A A s.ob) ro S w'/\EvM C.base C.r0 C.wI (acts.flatMap (·.act.defers)) (lps acts) ro w'/\ze (slD V N.P A s.gb s.sl) a ro w'/\Stk V N.P A ro w' s.stk acts)
  (λw' h=>hk w' h.1 h.2.1 h.2.2.1 h.2.2.2) Ds1 w n1 (λD hD=>(h3 D (w1k _ hD)).2.2) ⟨hw,⟨hev.ev,⟨Ds2,e2.symm,n2,λD hD=>h3 D (w1n _ hD)⟩,hev.bk.lp⟩,hsl,hst⟩ ?_
 rintro w' D hD hdf ⟨g1,g2,g3,g4⟩;obtain⟨q1,q2,_⟩:=h3 D (w1k _ hD);have hr:Rec w'.heap[D]?:=.inl ⟨_,hdf⟩;refine⟨g1.put q1 (hbase D hD) hr _,⟨g2.ev.putR q2 _,?_,g2.bk.lp.1,λp hp=>?_⟩,g3.putR hr _,g4.putR hr _⟩
 .refine⟨Ds2,e2.symm,n2,λE hE=>?_⟩;obtain⟨x1,x2,x3⟩:=h3 E (w1n _ hE);refine⟨x1,x2,?_⟩;rw[w1d λe=>n3 D hD E hE e.symm];obtain⟨Es,y1,y2,y3⟩:=g2.bk.df;have:E∈Es:=by
   have h5:mkD E∈Es.map mkD:=by rw[<- y1,<- e2];exact List.mem_map_of_mem hE
   obtain⟨E',hE',e'⟩:=w0a.1 h5;have:E'=E:=by simpa[mkD] using e'
   rw[<- this];exact hE'
  exact(y3 E this).2.2
 .obtain⟨x1,x2,x3⟩:=g2.bk.lp.2 p hp;refine⟨x1,x2,?_⟩;rw[w1d λe=>by rw[e,hdf] at x3;cases x3];exact x3
theorem zcd:∀(n:Nat)(l:List (SV V.T))(t:Nat),lk (zfj V n l) t=if n<=t then(l[t-n]?).map λx=>([],x) else none
 |n,[],t=>by simp[zfj,lk]
 |n,x::l,t=>by
  simp only[zfj,z07,zcd (n+1) l t];by_cases h:t=n
  .subst h;simp
  .rw[if_neg h];by_cases h2:n+1<=t
   .rw[if_pos h2,if_pos (by omega)];have:t-n =(t-(n+1))+1:=by omega
    rw[this,w20]
   .rw[if_neg h2,if_neg (by omega)]
theorem zyn[Dr]{A:Asg}{as:List (SV V.T)}{vs:Array Value}{ro:Nat->Prop}{w:World}{df:List Deferred}{n:Nat}(hvl:vs.size=as.length)(hvs:∀(i:Nat)(B:VP),(denV V N.P A as)[i]? = some B->B.h ro w (vs.getD i undef)):
  ze (slD V N.P A [] (zfj V 0 as)) { tmps:=vs++Array.replicate n undef,defers:=df } ro w:=by
 intro t X hX;simp only[slD,zcd,w2p,if_true,w39,Option.map_map,w1j] at hX;obtain⟨x,hx,rfl⟩:=hX;have hlt:=(w02.1 hx).1;have hdv:∀(l:List (SV V.T))(t:Nat),l[t]? = some x->(denV V N.P A l)[t]? = some (x.den V N.P A):=by
  intro l
  induction l with
  |nil=>intro t h;simp at h
  |cons y l ih=>intro t h;cases t with
   |zero=>simp at h;subst h;rfl
   |succ t=>simp at h;simpa[denV] using ih t h
 have:=hvs t _ (hdv as t hx);have hvt:t<vs.size:=hvl ▸ hlt;simpa[denE,w07,w15,hvt] using this
theorem ycp[Dr]{Γ:List (Option (Nat×Nat))}{acts:List GA}(hΓ:acts.map GA.lpI=Γ){inl:Inl V R}{s:SS V.T}{f:Nat}{as:List (SV V.T)}{k:SV V.T->SS V.T->Option R}(h:goIn V N inl s f as k=some r)
  (hinl:∀fn c,N.P.funcs[f]? = some fn->fn.body=some c->zmf (none::Γ) C r (inl f) c (inlK V N fn k)) {a:Act} {w:World} {A:Asg} {ro:Nat->Prop} {S:Nat->Nat->Prop}
  (hn:a.tmps.size=s.n) (hkn:chP s.gb s.kn) (hgb:GbOK s.toFm) (hl:A.length=s.ob.length) (hw:WInv C.w0 C.base (obD V N.P A A s.ob) ro S w) (hev:EvM C.base C.r0 C.wI (mks a acts) (lps acts) ro w) (hsl:ze (slD V N.P A s.gb s.sl) a ro w) (hst:Stk V N.P A ro w s.stk acts)
  {vs:Array Value} (hvl:vs.size=as.length) (hvs:∀(i:Nat)(B:VP),(denV V N.P A as)[i]? = some B->B.h ro w (vs.getD i undef))
  {R':Value->World->Prop} (hk:∀v s' A' ro' S' w' u,k v s'=some r->a.tmps.size=s'.n->chP s'.gb s'.kn->GbOK s'.toFm->A'.length=s'.ob.length->WInv C.w0 C.base (obD V N.P A' A' s'.ob) ro' S' w'->EvM C.base C.r0 C.wI (mks a acts) (lps acts) ro' w'->
   ze (slD V N.P A' s'.gb s'.sl) a ro' w'->Stk V N.P A' ro' w' s'.stk acts->(v.den V N.P A').h ro' w' u->R' u w'):FnOK N.P f/\Calls N.P f vs w λe w'=>∃u,e = .returned u/\R' u w':=by
 unfold goIn at h;split at h
 .rename_i fn hf;split at h
  .rename_i c hb;cases hc :(zm.fnok N.P f&&Nat.ble as.length fn.ntmps) with
   |false=>rw[hc] at h;cases h
   |true=>
    rw[hc] at h;simp only[w03] at hc;simp only[cond_true] at h;refine⟨z8p N.P hc.1,?_⟩;have hle:=w0p hc.2;refine zfs hf hb (hinl fn c hf hb none (⟨a,none⟩::acts) _ (by rw[w0e,hΓ];rfl) (.inl rfl) ?_ _ _ _ h ?_)
    .-- the callee has ended
     intro e s' a' w' hK hs';have fin :(match zhi V N s' fn.results.toList,s'.stk with
       |some l,f::stk=>k (resV V l) { f with stk:=stk,ob:=s'.ob }
       |_,_=>none)=some r->LeavesInM (fz none) 0 N.P fn a'.tmps (λe w'=>∃u,e = .returned u/\R' u w') a'.defers .returning w':=by
      intro hK;split at hK
      .rename_i l fm stk hres hstk;obtain⟨_,hn',hkn',hgb',A',ro',S',hl',hw',hev',hsl',hst'⟩:=hs';refine znf hw' hev' hsl' hst' λw2 g1 g2 g3 g4=>?_
       obtain⟨v,hv,hvx⟩:=zhb g1 g3 hres;rw[hstk] at g4;exact⟨v,hv,v,rfl,hk _ _ A' ro' S' w2 v hK g4.1.2.2.2.2 g4.1.2.1 g4.1.2.2.1 hl' g1 g2 g4.1.1 g4.2 hvx⟩
      .cases hK
     cases e with
     |ret=>exact fin hK
     |normal=>exact fin hK
     |exit id=>simp[inlK] at hK
     |goto l=>simp[inlK] at hK
     |panic ch=>simp[inlK] at hK
     |outgrown=>simp[inlK] at hK
    .refine⟨trivial,by simp[hvl];omega,trivial,⟨λt g h=>by simp[lk] at h,λt ch z hz p hp=>?_,λp hp=>by simp at hp⟩,A,ro,S,hl,hw,hev,zyn hvl hvs,⟨⟨hsl,hkn,hgb,(λx e=>by cases e),hn⟩,hst⟩⟩;rw[zcd] at hz;simp only[w2p,if_true,w1j,w0f] at hz;obtain⟨_,_,rfl,_⟩:=hz;simp at hp
  .cases h
 .cases h
def YOK[Dr](Γ:List (Option (Nat×Nat)))(C:Cx N.P)(r:R)(inl:Inl V R)(k:SV V.T->SS V.T->Option R):Prop:=
 ∀(rd:Option Nat)(acts:List GA),acts.map GA.lpI=Γ->∀(s:SS V.T)(vs:List (SV V.T))(a:Act)(w:World)(A:Asg)(ro:Nat->Prop)(S:Nat->Nat->Prop),zyi V inl s vs k=some r->
  a.tmps.size=s.n->chP s.gb s.kn->GbOK s.toFm->A.length=s.ob.length->WInv C.w0 C.base (obD V N.P A A s.ob) ro S w->EvM C.base C.r0 C.wI (mks a acts) (lps acts) ro w->ze (slD V N.P A s.gb s.sl) a ro w->Stk V N.P A ro w s.stk acts->
  ∀(args:Array Value),args.size=vs.length->(∀(i:Nat)(B:VP),(denV V N.P A vs)[i]? = some B->B.h ro w (args.getD i undef))->
  ∀(R':Value->World->Prop),(∀v s' A' ro' S' w' u,k v s'=some r->a.tmps.size=s'.n->chP s'.gb s'.kn->GbOK s'.toFm->A'.length=s'.ob.length->WInv C.w0 C.base (obD V N.P A' A' s'.ob) ro' S' w'->EvM C.base C.r0 C.wI (mks a acts) (lps acts) ro' w'->
   ze (slD V N.P A' s'.gb s'.sl) a ro' w'->Stk V N.P A' ro' w' s'.stk acts->(v.den V N.P A').h ro' w' u->R' u w')->
  ∃g gs L x,acts=g::gs/\g.lp=some (L,x)/\∃fn tmps asg bd,(Instr.yield L args).run N.P w = .ok (.round L fn tmps asg bd) w/\RoundIn (fz rd) 0 N.P L fn tmps asg bd w λe w'=>∃u,e = .returned u/\R' u w'
end
end Px
end
section
namespace Px
open Go Go.RowKit
section
variable{V:TE}{N:Env V}{R:Type}{r:R}{C:Cx N.P}
theorem zih[Dr]{A:Asg}{s:SS V.T}{ch:Ch}(hc:chP s.gb ch):∀{os:List Operand}{l:List (SV V.T)},ztz V s.sl ch os=some l->∀a ro w,ze (slD V N.P A s.gb s.sl) a ro w->
  os.length=l.length/\∀(i:Nat)(B:VP),(denV V N.P A l)[i]? = some B->B.h ro w ((os.map a.eval).getD i undef)
 | [],l,h,a,ro,w,_=>by simp[ztz] at h;subst h;exact⟨rfl,λi B h=>by simp[denV] at h⟩
 |o::os,l,h,a,ro,w,hs=>by
  simp only[ztz] at h;split at h
  .rename_i x hx;split at h
   .rename_i m hm;simp only[w00] at h;subst h;obtain⟨e1,e2⟩:=zih hc hm a ro w hs;refine⟨by simp[e1],λi B hB=>?_⟩;cases i with
    |zero=>simp[denV] at hB;subst hB;exact z0t V N.P hx hc a ro w hs
    |succ i=>simpa using e2 i B (by simpa[denV] using hB)
   .cases h
  .cases h
theorem zs8[Dr]{P:Program}{A:Asg}: ∀(l m:List (SV V.T)),denV V P A (l++m)=denV V P A l++denV V P A m
 | [],m=>rfl
 |x::l,m=>by simp only[w2a,denV,zs8 l m]
theorem zgx[Dr]{P:Program}{A:Asg}: ∀(l:List (SV V.T)),(denV V P A l).length=l.length
 | []=>rfl
 |x::l=>by simp only[denV,w0k,zgx l]
theorem zpi[Dr]{A:Asg}{ob:List (SO V.T)}{w0:World}{base:Nat}{ro:Nat->Prop}{S:Nat->Nat->Prop}{w:World}(h:WInv w0 base (obD V N.P A A ob) ro S w):OneA V A ob:=by
 intro i q o ha ho hb;have h5:=h.obj i _ (zn V N.P ha ho);cases o with
 |row E c l=>exact zy8 h5
 |x o=>
  cases o with
  |map kc vc E m hh=>have h6:=h5.1.1;rw[h6];rfl
  |it kc vc m c=>have h6:=h5.1;rw[h6];rfl
  |fix E c l=>exact zy8 h5.2
  |nst E E2 c l hh=>obtain⟨_,vs,S0,Sk,_,h7,_⟩:=h5;exact zy8 h7
 |box t cs=>cases hb
 |emp=>cases hb
theorem yd0[Dr]{s:SS V.T}{o:Oper}{f:Nat}{vs:List (SV V.T)}(h:inlC V N s o.op=some (f,vs))(hkn:chP s.gb s.kn){A:Asg}{a:Act}{ro:Nat->Prop}{w:World}(hs:ze (slD V N.P A s.gb s.sl) a ro w):
  ∃args:Array Value,args.size=vs.length/\(∀(i:Nat)(B:VP),(denV V N.P A vs)[i]? = some B->B.h ro w (args.getD i undef))/\(FnOK N.P f->(execOp a.eval o).run N.P w = .ok (.enter f args) w):=by
 obtain⟨dst,op,ty,pos,aft,guard⟩:=o;unfold inlC at h;split at h
 .rename_i c hop;obtain⟨callee,as,ts⟩:=c;simp only at hop;subst hop;have run:∀(fo:Operand)(caps:Array Value),a.eval fo = .func (.func f) #[] caps->FnOK N.P f->(execOp a.eval ⟨dst,.call { callee:=.value fo,args:=as,argTypes:=ts },ty,pos,aft,guard⟩).run N.P w = .ok (.enter f (as.map a.eval++caps)) w:=by rintro fo caps hfo ⟨fn,h1,h2,h3⟩;simp[execOp,Go.resolve,hfo,Deferred.ofValue,invoke,z1v h1 h2 h3]
  split at h
  .rename_i g hcal;simp only at hcal;subst hcal;split at h
   .rename_i us hus;simp only[w00,w0f] at h;obtain⟨rfl,rfl⟩:=h;obtain⟨e1,e2⟩:=zih (N:=N) (A:=A) hkn hus a ro w hs;refine⟨as.map a.eval,by simpa using e1,λi B hB=>?_,λhF=>?_⟩
    .have:=e2 i B hB
     simpa[w07,w1q] using this
    .have:=run (.func g) #[] rfl hF
     simpa using this
   .cases h
  .rename_i t hcal;simp only at hcal;subst hcal;split at h
   .rename_i g caps us hg hus;split at h
    rotate_left
    .cases h
    simp only[w00,w0f] at h;obtain⟨rfl,rfl⟩:=h;obtain⟨e1,e2⟩:=zih (N:=N) (A:=A) hkn hus a ro w hs;have hfv:=z0t V N.P (A:=A) hg hkn a ro w hs;simp only[SV.den] at hfv;obtain⟨cv,h1,h2,h3⟩:=hfv;rw[zgx] at h2;refine⟨as.map a.eval++cv,by simp at e1;simp[e1,h2],λi B hB=>?_,λhF=>run (.tmp t) cv h1 hF⟩;rw[zs8,w1w] at hB;simp at e1;split at hB
    .rename_i hlt;rw[zgx] at hlt;have:=e2 i B hB;have hlt':i<as.size:=by omega
     simpa[w07,w1q,w15,hlt'] using this
    .rename_i hge;rw[zgx] at hge hB;have:=h3 _ B hB;have hge':¬i<as.size:=by omega
     rw[e1] at hge';simpa[w07,w15,hge',e1] using this
   .cases h
  .cases h
 .cases h
theorem ycz{s:SS V.T}{o:Op}{p:Nat×List (SV V.T)}(h:inlC V N s o=some p):∀c,o≠.defer c:=by rintro c rfl;simp[inlC] at h
theorem yep{s:SS V.T}{o:Op}{vs:List (SV V.T)}(h:yldC V s o=some vs):∀c,o≠.defer c:=by rintro c rfl;simp[yldC] at h
theorem yeq[Dr]{s:SS V.T}{o:Oper}{vs:List (SV V.T)}(h:yldC V s o.op=some vs)(hkn:chP s.gb s.kn){A:Asg}{a:Act}{ro:Nat->Prop}{w:World}(hs:ze (slD V N.P A s.gb s.sl) a ro w):
  ∃args:Array Value,args.size=vs.length/\(∀(i:Nat)(B:VP),(denV V N.P A vs)[i]? = some B->B.h ro w (args.getD i undef))/\
   ∀g gs L x,Stk V N.P A ro w s.stk (g::gs)->g.lp=some (L,x)->(execOp a.eval o).run N.P w =(Instr.yield L args).run N.P w:=by
 obtain⟨dst,op,ty,pos,aft,guard⟩:=o;unfold yldC at h;split at h
 .rename_i c hop;obtain⟨callee,as,ts⟩:=c;simp only at hop;subst hop;split at h
  .rename_i t f fs hcal hstk;simp only at hcal;subst hcal;split at h
   .rename_i i j us hi hj hus;cases hij:Nat.beq i j with
    |false=>rw[hij] at h;cases h
    |true=>
     rw[hij] at h;simp only[cond_true,w00] at h;subst h;have hij:=w01 hij;subst hij;obtain⟨e1,e2⟩:=zih (N:=N) (A:=A) hkn hus a ro w hs;refine⟨as.map a.eval,by simpa using e1,λi B hB=>?_,?_⟩
     .have:=e2 i B hB
      simpa[w07,w1q] using this
     .intro g gs L x hst hg;have hv:=z0t V N.P (A:=A) hi hkn a ro w hs;rw[hstk] at hst;have hst1:=hst.1;have hsl:=hst1.1 (f.n-1) _ (by simp only[slD,hj];rfl);have htm:g.tm.tmps.getD (f.n-1) undef = .func (.yield L) #[] #[]:=by
       have h1:=hst1.2.2.2.2;unfold GA.tm at h1⊢;rw[hg] at h1⊢;simp only[w56] at h1⊢;have:f.n-1=g.act.tmps.size:=by omega
       rw[this];simp
      have hfo:a.eval (.tmp t) = .func (.yield L) #[] #[]:=by
       simp only[SV.den,denE] at hv hsl;cases hA:A[i]? with
       |none=>rw[hA] at hv;exact hv.elim
       |some q=>rw[hA] at hv hsl;rw[show a.eval (.tmp t)=q.2 from hv,<- htm];exact hsl.symm
      simp[execOp,Go.resolve,hfo,Deferred.ofValue,invoke]
   .cases h
  .cases h
 .cases h
theorem y91[Dr](hN:z4t V N){Γ:List (Option (Nat×Nat))}{rd:Option Nat}{acts:List GA}(hΓ:acts.map GA.lpI=Γ){inl:Inl V R}{o:Oper}{s:SS V.T}{k:SS V.T->Option R}(h:y1c V N inl o s k=some r)
  (hinl:∀f fn c,N.P.funcs[f]? = some fn->fn.body=some c->zmf (none::Γ) C r (inl f) c (inlK V N fn λv s=>after V s o.dst ([],v) k)) (hyl:YOK Γ C r inl λv s=>after V s o.dst ([],v) k) {a:Act} {w:World} (hs:SatS V C acts s a w) {next:Act->World->Prop} {Q:Exit->Act->World->Prop}
  (hk:∀s2 v0 w',k s2=some r->SatS V C acts s2 (a.put o.dst v0) w'->next (a.put o.dst v0) w'):o.wpIn (fz rd) 0 N.P a w next Q:=by
 unfold y1c at h;cases hdst:zx1 o with
 |false=>rw[hdst] at h;cases h
 |true=>
  rw[hdst] at h;simp only[cond_true] at h;have hs1:=znd (y0r V N s o.op) hs;revert h hs1;generalize zv2 V s (y0r V N s o.op)=s1;intro h hs1;obtain⟨hd,hn,hkn,hgb,A,ro,S,hl,hw,hev,hsl,hst⟩:=hs1
  -- what follows on a value
  have fin:∀(v:SV V.T)(s':SS V.T)(A' B':Asg)(ro0 ro':Nat->Prop)(S':Nat->Nat->Prop)(w1 w':World)(u:Value),after V s' o.dst ([],v) k=some r->a.tmps.size=s'.n->chP s'.gb s'.kn->GbOK s'.toFm->(A'++B').length=s'.ob.length->
    WInv C.w0 C.base (obD V N.P (A'++B') (A'++B') s'.ob) ro' S' w'->EvM C.base C.r0 C.wI (mks a acts) (lps acts) ro0 w1->Evo C.base ro0 w1 ro' w'->ze (slD V N.P A' s'.gb s'.sl) a ro0 w1->Stk V N.P A' ro0 w1 s'.stk acts->(v.den V N.P (A'++B')).h ro' w' u->next (a.put o.dst u) w':=by
   intro v s' A' B' ro0 ro' S' w1 w' u ha h1 h2 h3 h4 h5 h6 h6' h7 h8 h9;unfold after at ha;split at ha
   .rename_i s2 hset;exact hk s2 u w' ha (zpr (e:=([],v)) hset (λp hp=>by simp at hp) hd h1 h2 h3 h4 h5 h6 h6' h7 h8 h9)
   .cases ha
  unfold loud at h;split at h
  .rename_i vs hyd;obtain⟨args,e1,e2,e3⟩:=yeq hyd hkn hsl;obtain⟨g,gs,L,x,rfl,hg,fn,tmps,asg,bd,hrun,hrnd⟩:=hyl rd acts hΓ s1 vs a w A ro S h hn hkn hgb hl hw hev hsl hst args e1 e2 (λu w'=>next (a.put o.dst u) w')
    (λv s' A' ro' S' w' u g1 g2 g3 g4 g5 g6 g7 g8 g9 g10=>fin v s' A' [] ro' ro' S' w' w' u g1 g2 g3 g4 (by rw[w0b];exact g5) (by rw[w0b];exact g6) g7 (Evo.refl _ _ _) g8 g9 (by rw[w0b];exact g10))
   refine⟨λ_ _=>trivial,?_⟩;rw[Oper.semAt_eq _ _ _ (yep hyd),e3 g gs L x hst hg,hrun,Oper.uponIn_round];refine⟨λe=>(by simp at e),hrnd.mono ?_⟩;rintro e w' ⟨u,rfl,hu⟩;exact hu
  split at h
  .rename_i f vs hin;obtain⟨args,e1,e2,e3⟩:=yd0 hin hkn hsl;obtain⟨hF,hcalls⟩:=ycp hΓ h (hinl f) hn hkn hgb hl hw hev hsl hst e1 e2 (R':=λu w'=>next (a.put o.dst u) w')
    (λv s' A' ro' S' w' u g1 g2 g3 g4 g5 g6 g7 g8 g9 g10=>fin v s' A' [] ro' ro' S' w' w' u g1 g2 g3 g4 (by rw[w0b];exact g5) (by rw[w0b];exact g6) g7 (Evo.refl _ _ _) g8 g9 (by rw[w0b];exact g10))
   refine Oper.wp_fz (ycz hin) ?_;unfold Oper.wp;rw[e3 hF,Oper.upon_enter];refine hcalls.mono ?_;rintro e w' ⟨u,rfl,hu⟩;exact hu
  .obtain⟨dst,op,ty,pos,aft,guard⟩:=o;have hOp:=zzn (C:={ C with n:=s1.n,df:=a.defers }) hN hl hkn hgb (zpi hw) h dst pos aft guard (λe=>by
    cases dst with
    |none=>rfl
    |some d=>cases op<;>simp[yd6] at e<;>simp[zx1] at hdst)
   refine Oper.wpIn_mono ?_ (OpT.fz hOp a w ro S Q rfl hn hw hsl);rintro a' w' ⟨v0,ro',S',x,objs',rfl,hev',hw',hx,B,ob',v,hkv,hlen,hent,hobw⟩;obtain⟨S2,hw2⟩:=hobw _ _ _ _ _ hw';exact fin v { s1 with ob:=ob' } A B ro ro' S2 w w' v0 hkv hn hkn hgb hlen hw2 hev hev' hsl hst (hent _ _ _ hx)
theorem zjm[Dr](hN:z4t V N){rd:Option Nat}{acts:List GA}{o:Oper}{s:SS V.T}{cur:Ch}{k:SS V.T->Option R}(h:zm V N s cur o.op o.type (λv=>after V s o.dst (cur,v) k)=some r)(hcur:∀p∈cur,(lk s.gb p.1).isSome=true){a:Act}{w:World}(hs:SatS V C acts s a w){next:Act->World->Prop}{Q:Exit->Act->World->Prop}
  (hk:∀s2 v0 w',k s2=some r->SatS V C acts s2 (a.put o.dst v0) w'->next (a.put o.dst v0) w') :(chP s.gb cur->o.wpIn (fz rd) 0 N.P a w next Q)/\(¬chP s.gb cur->next (a.put o.dst undef) w):=by
 obtain⟨hd,hn,hkn,hgb,A,ro,S,hl,hw,hev,hsl,hst⟩:=hs;obtain⟨v,hv,hq⟩:=zeu (C:={ C with n:=s.n,df:=a.defers }) (A:=A) hN hkn hgb (zpi hw) h;unfold after at hv;split at hv
 .rename_i s2 hset;refine⟨λhc=>?_,λhc=>?_⟩
  .obtain⟨dst,op,ty,pos,aft,guard⟩:=o;refine Oper.wpIn_mono ?_ (OpT.fz (hq hc dst pos aft guard) a w ro S Q rfl hn hw hsl);rintro a' w' ⟨v0,ro',S',x,objs',rfl,hev',hw',hx,rfl,rfl⟩;refine hk s2 v0 w' hv (zpr (B:=[]) (e:=(cur,v)) hset hcur hd hn hkn hgb (by rw[w0b];exact hl) (by rw[w0b];exact hw') hev hev' hsl hst ?_);rw[w0b];unfold denE;cases cur with
   |nil=>exact hx
   |cons p l=>exact⟨λ_=>hx,λh=>absurd hc h⟩
  .refine hk s2 undef w hv (zpr (B:=[]) (e:=(cur,v)) hset hcur hd hn hkn hgb (by rw[w0b];exact hl) (by rw[w0b];exact hw) hev (Evo.refl _ _ _) hsl hst ?_);unfold denE;cases cur with
   |nil=>exact(hc trivial).elim
   |cons p l=>exact⟨λh=>absurd h hc,λ_=>rfl⟩
 .cases hv
theorem zyb[Dr]{acts:List GA}{o:Oper}{s:SS V.T}{k:SS V.T->Option R}(h:after V s o.dst ([],.und) k=some r){a:Act}{w:World}(hs:SatS V C acts s a w){next:Act->World->Prop}
  (hk:∀s2 v0 w',k s2=some r->SatS V C acts s2 (a.put o.dst v0) w'->next (a.put o.dst v0) w'):next (a.put o.dst undef) w:=by
 obtain⟨hd,hn,hkn,hgb,A,ro,S,hl,hw,hev,hsl,hst⟩:=hs;unfold after at h;split at h
 .rename_i s2 hset;exact hk s2 undef w h (zpr (B:=[]) (e:=([],.und)) hset (λp hp=>by simp at hp) hd hn hkn hgb (by rw[w0b];exact hl) (by rw[w0b];exact hw) hev (Evo.refl _ _ _) hsl hst rfl)
 .cases h
end
end Px
end
section
namespace Px
open Go Go.RowKit
section
variable{V:TE}{N:Env V}{R:Type}{r:R}{C:Cx N.P}
theorem zw7[Dr]{acts:List GA}{k:SS V.T->Option R}: ∀{es:List (Nat×Bool)}{s:SS V.T}{kn:Ch},y0d V s k es kn=some r->(∀p∈es,(lk s.gb p.1).isSome=true)->∀{a:Act}{w:World},SatS V C acts { s with kn:=kn } a w->
  ∃s',k s'=some r/\SatS V C acts s' a w/\s'.gb=s.gb
 | [],s,kn,h,_,a,w,hs=>⟨_,h,hs,rfl⟩
 |(t,wt)::es,s,kn,h,he,a,w,hs=>by
  simp only[y0d] at h;have hone:=he _ (w0l ..);obtain⟨hd,hn,hkn,hgb,hrest⟩:=hs;have mk:∀b,(lk s.gb t).getD false=b->SatS V C acts { s with kn:=(t,b)::kn } a w:=by
   intro b hb;refine⟨hd,hn,?_,⟨hgb.val,hgb.ch,?_⟩,hrest⟩
   .rw[z8e] at hkn⊢;intro p hp;rcases w08.1 hp with rfl|hp
    .exact hb
    .exact hkn p hp
   .intro p hp;rcases w08.1 hp with rfl|hp
    .exact hone
    .exact hgb.kn p hp
  split at h
  .rename_i hg;exact zw7 h (λp hp=>he p (w0h _ hp)) (mk wt hg)
  .rename_i hg;refine⟨_,h,mk (!wt) ?_,rfl⟩;cases hx :(lk s.gb t).getD false<;>cases wt<;>simp_all
theorem opK{α:Type}{l:List α}{i:Nat}{o:α}{os:List α}(h:o::os=l.drop i):l[i]? = some o/\os=l.drop (i+1):=by
 have h1 :(l.drop i)[0]? = some o:=by rw[<- h];rfl
 refine⟨by simpa using h1,?_⟩;have :(l.drop i).drop 1=os:=by rw[<- h];rfl
 rw[w3e] at this;exact this.symm
def ztv[Dr](Γ:List (Option (Nat×Nat)))(C:Cx N.P)(r:R)(inl:Nat->Inl V R)(ops:Array Oper)(full:Nat->Inl V R)(K:KX V R):Prop:=(∀i f fn c,N.P.funcs[f]? = some fn->fn.body=some c->zmf (none::Γ) C r (inl i f) c (inlK V N fn (y1p V N full ops i K)))/\∀i,YOK Γ C r (inl i) (y1p V N full ops i K)
theorem zjv[Dr](hN:z4t V N){Γ:List (Option (Nat×Nat))}{rd:Option Nat}{acts:List GA}(hΓ:acts.map GA.lpI=Γ){inl:Nat->Inl V R}{ops:Array Oper}{K:KX V R}{Q:Exit->Act->World->Prop}
  (hinl:ztv Γ C r inl ops inl K)
  (hK:∀s a w,K .normal s=some r->SatS V C acts s a w->Q .normal a w):∀(os:List Oper)(i:Nat)(s:SS V.T)(a:Act)(w:World),os=ops.toList.drop i->
  z59 V N inl ops.toList i os s (λs=>K .normal s)=some r->SatS V C acts s a w->wpOpsIn (fz rd) 0 N.P ops Q (List.range' i os.length) a w
 | [],i,s,a,w,_,h,hs=>by simp only[z59] at h;exact hK s a w h hs
 |o::os,i,s,a,w,hos,h,hs=>by
  obtain⟨hoi,hos'⟩:=opK hos;have ho:ops[i]? = some o:=by simpa using hoi
  have ih:=zjv (rd:=rd) hN hΓ hinl hK os (i+1);have hk:∀s2 v0 w',z59 V N inl ops.toList (i+1) os s2 (λs=>K .normal s)=some r->SatS V C acts s2 (a.put o.dst v0) w'->wpOpsIn (fz rd) 0 N.P ops Q (List.range' (i+1) os.length) (a.put o.dst v0) w':=λs2 v0 w' h hs=>ih s2 _ w' hos' h hs
  have hrest :(λv s=>after V s o.dst ([],v) λs=>z59 V N inl ops.toList (i+1) os s (λs=>K .normal s))=y1p V N inl ops i K:=by funext v s;simp only[y1p,ho,<- hos']
  have loudH:∀s,y1c V N (inl i) o s (λs=>z59 V N inl ops.toList (i+1) os s (λs=>K .normal s))=some r->SatS V C acts s a w->o.wpIn (fz rd) 0 N.P a w (wpOpsIn (fz rd) 0 N.P ops Q (List.range' (i+1) os.length)) Q:=by
   intro s h hs;refine y91 hN hΓ h (λf fn c hf hb=>?_) ?_ hs hk
   .rw[hrest];exact hinl.1 i f fn c hf hb
   .rw[hrest];exact hinl.2 i
  simp only[w0k,w49,wpOpsIn,ho];simp only[z59] at h;cases hg:o.guard with
  |none=>
   rw[hg] at h;simp only at h;simp only[Region.wanted,hg,if_true];cases hlo:zox V N s [] o.op with
   |true=>rw[hlo] at h;exact loudH s h hs
   |false=>rw[hlo] at h;exact(zjm hN h (λp hp=>by simp at hp) hs hk).1 trivial
  |some g=>
   rw[hg] at h;simp only at h;simp only[Region.wanted,hg];cases hgo:zgb V ops.toList s g with
   |none=>rw[hgo] at h;cases h
   |some q=>
    obtain⟨x,s1⟩:=q;rw[hgo] at h;obtain⟨hs1,e1,e2,hx⟩:=y0w hgo hs;cases x with
    |none=>
     simp only at h hx;have :(yielded ops a.tmps g.1==some g.2)=false:=by rw[hx];rfl
     rw[this];simp only[w0q,if_false];exact⟨λ_ _=>trivial,zyb h hs1 hk⟩
    |some ch=>
     simp only at h hx;obtain⟨hx1,hx2,hx3⟩:=hx;have hkn:=hs1.2.2.1
     -- the operation runs if its guards hold
     have done:∀(p:Prop),(p↔chP s1.gb ch)->(p->o.wpIn (fz rd) 0 N.P a w (wpOpsIn (fz rd) 0 N.P ops Q (List.range' (i+1) os.length)) Q)->(¬p->wpOpsIn (fz rd) 0 N.P ops Q (List.range' (i+1) os.length) (a.put o.dst undef) w)->
       if(yielded ops a.tmps g.1==some g.2)=true then o.wpIn (fz rd) 0 N.P a w (wpOpsIn (fz rd) 0 N.P ops Q (List.range' (i+1) os.length)) Q else(∀f,o.about N.P w a.eval=some f->True)/\wpOpsIn (fz rd) 0 N.P ops Q (List.range' (i+1) os.length) (a.put o.dst undef) w:=by
      intro p hp hy hn;by_cases hc:chP s1.gb ch
      .rw[hx2 hc];simp only[BEq.rfl,if_true];exact hy (hp.2 hc)
      .have :(yielded ops a.tmps g.1==some g.2)=false:=by
        cases hb :(yielded ops a.tmps g.1==some g.2) with
        |false=>rfl
        |true=>exact absurd (by simpa using hb) (hx3 hc)
       rw[this];simp only[w0q,if_false];exact⟨λ_ _=>trivial,hn (λh=>hc (hp.1 h))⟩
     obtain⟨hr1,hr2⟩:=zlf hkn (ch:=ch);cases hrs:resolve s1.kn ch with
     |none=>rw[hrs] at h;simp only at h;exact done False ⟨False.elim,hr2 hrs⟩ False.elim λ_=>zyb h hs1 hk
     |some cur=>
      obtain⟨hc1,hc2⟩:=hr1 cur hrs;rw[hrs] at h;cases cur with
      |nil=>
       simp only at h;refine done True ⟨λ_=>hc1.2 trivial,λ_=>trivial⟩ (λ_=>?_) (λh=>absurd trivial h);cases hlo:zox V N s1 [] o.op with
       |true=>rw[hlo] at h;exact loudH s1 h hs1
       |false=>rw[hlo] at h;exact(zjm hN h (λp hp=>by simp at hp) hs1 hk).1 trivial
      |cons c0 cur=>
       simp only at h;cases hlo:zox V N s1 (c0::cur) o.op with
       |true=>
        rw[hlo] at h;simp only[cond_true] at h;obtain⟨s',hk',hs',hgb'⟩:=zw7 h (λp hp=>hx1 p (hc2 p (List.mem_reverse.1 hp))) hs1;obtain⟨hq1,hq2⟩:=zlf hs'.2.2.1 (ch:=ch);rw[hgb'] at hq1 hq2;split at hk'
        .rename_i hre;exact done True ⟨λ_=>(hq1 [] hre).1.2 trivial,λ_=>trivial⟩ (λ_=>loudH s' hk' hs') (λh=>absurd trivial h)
        .rename_i hre;exact done False ⟨False.elim,hq2 hre⟩ False.elim λ_=>zyb hk' hs' hk
        .cases hk'
       |false=>rw[hlo] at h;simp only[cond_false] at h;obtain⟨g1,g2⟩:=zjm hN h (λp hp=>hx1 p (hc2 p hp)) hs1 hk;exact done _ hc1.symm g1 g2
end
end Px
end
section
namespace Px
open Go Go.RowKit
section
variable{V:TE}{P:Program}
def HB(A A':Asg)(b:Bd):Prop:=∀(j i:Nat)(p:Nat×Value),lk b j=some i->A[i]? = some p->A'[j]? = some p
theorem y4e{b:Bd}{j i:Nat}(h:isO b j i=true):lk b j=some i:=by
 unfold isO at h;split at h
 .rename_i i' hi;rw[hi,w01 h]
 .cases h
theorem ydw[Dr]{A A':Asg}{b:Bd}(hb:HB A A' b){j i:Nat}(h:lk b j=some i):Ent ((SV.own i:SV V.T).den V P A) ((SV.own j:SV V.T).den V P A'):=by
 simp only[SV.den];cases ha:A[i]? with
 |none=>exact λ_ _ _ hv=>hv.elim
 |some p=>rw[hb j i p h ha];exact Ent.refl
theorem ye5[Dr]{A A':Asg}{b:Bd}(hb:HB A A' b){j i o:Nat}(h:lk b j=some i):Ent ((SV.ptr i o:SV V.T).den V P A) ((SV.ptr j o:SV V.T).den V P A'):=by
 simp only[SV.den];cases ha:A[i]? with
 |none=>exact λ_ _ _ hv=>hv.elim
 |some p=>rw[hb j i p h ha];exact Ent.refl
def zzh{T:Nat->Type}: SV T->Bool
 | .arr ..=>true
 |_=>false
theorem y36[Dr]{A:Asg}{x:SV V.T}(h:zzh x=false):denL V P A [x] = [x.den V P A]:=by cases x<;>simp[zzh] at h<;>rfl
theorem zi{α:Type}{z:α}{p:Prop}(h :(none:Option α)=some z):p:=by cases h
mutual
theorem y2x[Dr]{A A':Asg}{b:Bd}(hb:HB A A' b){r:Type}: ∀(l:LC)(x:SV V.T)(z0:r)(z:LC.Z V.T l r),deV V b l x z0=some z->(enV V l z).2=z0/\Ent (x.den V P A) ((enV V l z).1.den V P A')/\((∀c,l≠.val c)->zzh x=false/\zzh (enV V l z).1=false)
 | .val c,x,z0,z,h=>by
  change (match V.dec (rdSl []) c x with|some y=>some (y,z0)|none=>none)=some z at h;split at h
  .rename_i y hy;have e:=w0c h;subst e;refine⟨rfl,?_,λhn=>absurd rfl (hn c)⟩;show Ent (x.den V P A) ((V.encV c y).den V P A');rw[z30];exact z4h V P hy
  .exact zi h
 | .cmp c,x,z0,z,h=>by
  cases x with
  |cmp c' f=>
   change (if h:c'=c then some (h ▸ f,z0) else none)=some z at h;split at h
   .rename_i e;subst e;have e:=w0c h;subst e;exact⟨rfl,Ent.refl,λ_=>⟨rfl,rfl⟩⟩
   .exact zi h
  |_=>exact zi h
 | .agg ls,x,z0,z,h=>by
  cases x with
  |agg cs=>obtain⟨h1,h2⟩:=zyv hb ls cs z0 z h;exact⟨h1,Ent.agg h2.ents,λ_=>⟨rfl,rfl⟩⟩
  |_=>exact zi h
 | .func f ls,x,z0,z,h=>by
  cases x with
  |func g cs=>
   change (bif Nat.beq f g then deW V b ls cs z0 else none)=some z at h;cases hfg:Nat.beq f g with
   |false=>rw[hfg] at h;exact zi h
   |true=>rw[hfg] at h;have:=w01 hfg;subst this;obtain⟨h1,h2⟩:=yas hb ls cs z0 z h;exact⟨h1,y3l h2,λ_=>⟨rfl,rfl⟩⟩
  |_=>exact zi h
 | .own j,x,z0,z,h=>by
  cases x with
  |own i=>
   change (bif isO b j i then some z0 else none)=some z at h;cases hi:isO b j i with
   |false=>rw[hi] at h;exact zi h
   |true=>rw[hi] at h;have e:=w0c h;subst e;exact⟨rfl,ydw hb (y4e hi),λ_=>⟨rfl,rfl⟩⟩
  |_=>exact zi h
 | .ptr j o,x,z0,z,h=>by
  cases x with
  |ptr i o'=>
   change (bif isO b j i&&Nat.beq o o' then some z0 else none)=some z at h;cases hi :(isO b j i&&Nat.beq o o') with
   |false=>rw[hi] at h;exact zi h
   |true=>rw[hi] at h;have hi':=(w03 _ _ ▸ hi:isO b j i=true/\Nat.beq o o'=true);have:=w01 hi'.2;subst this;have e:=w0c h;subst e;exact⟨rfl,ye5 hb (y4e hi'.1),λ_=>⟨rfl,rfl⟩⟩
  |_=>exact zi h
 | .nil,x,z0,z,h=>by
  cases x with
  |val v=>
   have h':v = .slice none 0 0/\some z0=some z:=by
    cases v with
    |slice p l c=>
     cases p with
     |none=>
      cases l with
      |zero=>cases c with
       |zero=>exact⟨rfl,h⟩
       |succ c=>exact zi h
      |succ l=>exact zi h
     |some p=>exact zi h
    |_=>exact zi h
   obtain⟨rfl,h⟩:=h';have e:=w0c h;subst e;exact⟨rfl,Ent.refl,λ_=>⟨rfl,rfl⟩⟩
  |_=>exact zi h
 | .raw v,x,z0,z,h=>by
  cases x with
  |val u=>
   change (bif beqZ u v then some z0 else none)=some z at h;cases hb:beqZ u v with
   |false=>rw[hb] at h;exact zi h
   |true=>rw[hb] at h;have e:=w0c h;subst e;obtain⟨rfl,_⟩:=znm hb;exact⟨rfl,Ent.refl,λ_=>⟨rfl,rfl⟩⟩
  |_=>exact zi h
 | .rop c,x,z0,z,h=>by
  cases x with
  |rop cs=>
   have h :(match decN V (rdSl []) (c+1) c cs with
    |some (y,[])=>some (y,z0)
    |_=>none)=some z:=h
   split at h
   .rename_i y hy;have e:=w0c h;subst e;obtain⟨pre,e1,e2⟩:=zs7 (P:=P) (A:=A) (R:=Ent) (zpp []) (λ_ _ _ _ _=>zlg) (λ_=>Ent.refl) (λ_ _ _ h=>ztb h) _ _ _ _ _ hy;refine⟨rfl,?_,λ_=>⟨rfl,rfl⟩⟩;show Ent ((SV.rop cs:SV V.T).den V P A) ((SV.rop (V.enc c y):SV V.T).den V P A');rw[w0b] at e1;subst e1;simp only[SV.den,z1b];exact y69 e2
   .exact zi h
  |_=>exact zi h
 | .rom kc vc,x,z0,z,h=>by
  cases x with
  |rop cs=>
   cases cs with
   |nil=>exact zi h
   |cons y ys=>
    cases y with
    |rom kc' vc' m=>
     cases ys with
     |nil=>
      change (if h:kc'=kc then(if h2:vc'=vc then some (h ▸ h2 ▸ m,z0) else none) else none)=some z at h;split at h
      .rename_i e1;split at h
       .rename_i e2;subst e1 e2;have e:=w0c h;subst e;exact⟨rfl,Ent.refl,λ_=>⟨rfl,rfl⟩⟩
       .exact zi h
      .exact zi h
     |cons _ _=>exact zi h
    |_=>exact zi h
  |_=>exact zi h
theorem zyv[Dr]{A A':Asg}{b:Bd}(hb:HB A A' b){r:Type}: ∀(ls:List LC)(cs:List (SV V.T))(z0:r)(z:Zl V.T ls r),deL V b ls cs z0=some z->(enL V ls z).2=z0/\F2 Ent (denL V P A cs) (denL V P A' (enL V ls z).1)
 | [],cs,z0,z,h=>by
  cases cs with
  |nil=>have e:=w0c (show some z0 =(some z:Option r) from h);exact⟨e.symm,trivial⟩
  |cons x cs=>exact zi h
 |l::ls,cs,z0,z,h=>by
  by_cases hv:∃c,l = .val c
  .obtain⟨c,rfl⟩:=hv;have h :(match decN V (rdSl []) (c+1) c cs with
    |some (y,cs)=>match deL V b ls cs z0 with
     |some z=>some (y,z)
     |none=>none
    |none=>none)=some z:=h
   split at h
   .rename_i y cs' hy;split at h
    .rename_i z' hz;have e:=w0c h;subst e;obtain⟨pre,e1,e2⟩:=zs7 (P:=P) (A:=A) (R:=Ent) (zpp []) (λ_ _ _ _ _=>zlg) (λ_=>Ent.refl) (λ_ _ _ h=>ztb h) _ _ _ _ _ hy;obtain⟨h1,h2⟩:=zyv hb ls cs' z0 z' hz;refine⟨h1,?_⟩;show F2 Ent _ (denL V P A' (V.enc c y++(enL V ls z').1));rw[e1,z1r,z1r,z1b];exact e2.append h2
    .exact zi h
   .exact zi h
  .have hv':∀c,l≠.val c:=λc e=>hv ⟨c,e⟩
   cases cs with
   |nil=>cases l<;>first|exact zi h|exact absurd rfl (hv' _)
   |cons x cs=>
    have h' :(match deL V b ls cs z0 with|some z=>deV V b l x z|none=>none)=some z:=by cases l<;>first|exact h|exact absurd rfl (hv' _)
    split at h'
    .rename_i z' hz;obtain⟨h1,h2⟩:=zyv hb ls cs z0 z' hz;obtain⟨h3,h4,h5⟩:=y2x hb l x z' z h';have he:enL V (l::ls) z =((enV V l z).1::(enL V ls (enV V l z).2).1,(enL V ls (enV V l z).2).2):=by cases l<;>first|rfl|exact absurd rfl (hv' _)
     rw[he];simp only[h3];refine⟨h1,?_⟩;rw[z2l,z2l V P (enV V l z).1];rw[y36 (h5 hv').1,y36 (h5 hv').2];exact⟨h4,h2⟩
    .exact zi h'
theorem yas[Dr]{A A':Asg}{b:Bd}(hb:HB A A' b){r:Type}: ∀(ls:List LC)(cs:List (SV V.T))(z0:r)(z:Zl V.T ls r),deW V b ls cs z0=some z->(enW V ls z).2=z0/\F2 Ent (denV V P A cs) (denV V P A' (enW V ls z).1)
 | [],cs,z0,z,h=>by
  cases cs with
  |nil=>have e:=w0c (show some z0 =(some z:Option r) from h);exact⟨e.symm,trivial⟩
  |cons x cs=>exact zi h
 |l::ls,cs,z0,z,h=>by
  cases cs with
  |nil=>exact zi h
  |cons x cs=>
   change (match deW V b ls cs z0 with|some z=>deV V b l x z|none=>none)=some z at h;split at h
   .rename_i z' hz;obtain⟨h1,h2⟩:=yas hb ls cs z0 z' hz;obtain⟨h3,h4,_⟩:=y2x hb l x z' z h;show (enW V ls (enV V l z).2).2=z0/\F2 Ent _ (denV V P A' ((enV V l z).1::(enW V ls (enV V l z).2).1));rw[h3];exact⟨h1,h4,h2⟩
   .exact zi h
end
theorem yar[Dr]{A A':Asg}{b:Bd}(hb:HB A A' b){r:Type}{gb:List (Nat×Bool)}{a:Act}{ro:Nat->Prop}{w:World}(sl:Sls V.T)(hs:ze (slD V P A gb sl) a ro w):
  ∀(ls:List (Nat×LC))(z0:r)(z:Zs V.T ls r),deS V b sl ls z0=some z->(enS V ls z).2=z0/\ze (slD V P A' [] (enS V ls z).1) a ro w
 | [],z0,z,h=>by have e:=w0c (show some z0 =(some z:Option r) from h);exact⟨e.symm,λt X hX=>by cases hX⟩
 |(t,l)::ls,z0,z,h=>by
  change (match lk sl t,deS V b sl ls z0 with
   |some ([],x),some z=>deV V b l x z
   |_,_=>none)=some z at h
  cases hx:lk sl t with
  |none=>rw[hx] at h;exact zi h
  |some e=>
   obtain⟨ch,x⟩:=e;rw[hx] at h;cases ch with
   |cons c ch=>exact zi h
   |nil=>
    cases hz:deS V b sl ls z0 with
    |none=>rw[hz] at h;exact zi h
    |some z'=>
     rw[hz] at h;change deV V b l x z'=some z at h;obtain⟨h1,h2⟩:=yar hb sl hs ls z0 z' hz;obtain⟨h3,h4,_⟩:=y2x (P:=P) hb l x z' z h;refine⟨by show (enS V ls (enV V l z).2).2=z0;rw[h3];exact h1,?_⟩;show ze (slD V P A' [] ((t,[],(enV V l z).1)::(enS V ls (enV V l z).2).1)) a ro w;rw[h3];intro u X hX;simp only[slD] at hX;rw[z07] at hX;by_cases e:u=t
     .subst e;rw[if_pos rfl] at hX;simp only[w0u,w00] at hX;subst hX;exact h4 _ _ _ (hs u _ (by simp only[slD,hx,w0u];rfl))
     .rw[if_neg e] at hX;exact h2 u X hX
theorem yat{r:Type}: ∀(ls:List (Nat×LC))(z:Zs V.T ls r)(t:Nat)(ch:Ch)(x:SV V.T),lk (enS V ls z).1 t=some (ch,x)->ch = []
 | [],z,t,ch,x,h=>by cases h
 |(u,l)::ls,z,t,ch,x,h=>by
  change lk ((u,[],(enV V l z).1)::(enS V ls (enV V l z).2).1) t=some (ch,x) at h;rw[z07] at h;by_cases e:t=u
  .rw[if_pos e] at h;cases h;rfl
  .rw[if_neg e] at h;exact yat ls _ t ch x h
theorem yf5{r:Type}(ls:List (Nat×LC))(z:Zs V.T ls r)(n:Nat):GbOK (⟨(enS V ls z).1,[],[],n⟩:Fm V.T) where
 val:=λt g h=>by cases h
 ch:=λt ch x h p hp=>by have:=yat ls z t ch x h;subst this;cases hp
 kn:=λp hp=>by cases hp
theorem yaq[Dr]{A A':Asg}{b:Bd}(hb:HB A A' b){r:Type}{ro:Nat->Prop}{w:World}:
  ∀(ls:List (Nat×List (Nat×LC)))(fs:List (Fm V.T))(as:List GA)(z0:r)(z:Zf V.T ls r),Stk V P A ro w fs as->deF V b ls fs z0=some z->(enF V ls z).2=z0/\Stk V P A' ro w (enF V ls z).1 as
 | [],fs,as,z0,z,hs,h=>by
  cases fs with
  |nil=>
   have e:=w0c (show some z0 =(some z:Option r) from h);refine⟨e.symm,?_⟩;cases as with
   |nil=>trivial
   |cons a as=>exact hs.elim
  |cons f fs=>exact zi h
 |(n,l)::ls,fs,as,z0,z,hs,h=>by
  cases fs with
  |nil=>exact zi h
  |cons f fs=>
   cases as with
   |nil=>exact hs.elim
   |cons a as=>
    change (match deF V b ls fs z0 with
     |some z=>bif Nat.beq n f.n then deS V b f.sl l z else none
     |none=>none)=some z at h
    split at h
    .rename_i z' hz;cases hn:Nat.beq n f.n with
     |false=>rw[hn] at h;exact zi h
     |true=>rw[hn] at h;have hn':=w01 hn;obtain⟨h1,h2⟩:=yaq hb ls fs as z0 z' hs.2 hz;obtain⟨h3,h4⟩:=yar hb f.sl hs.1.1 l z' z h;show (enF V ls (enS V l z).2).2=z0/\Stk V P A' ro w (⟨(enS V l z).1,[],[],n⟩::(enF V ls (enS V l z).2).1) (a::as);rw[h3];exact⟨h1,⟨h4,trivial,yf5 l z n,hs.1.2.2.2.1,by rw[hs.1.2.2.2.2,hn']⟩,h2⟩
    .exact zi h
theorem zio[Dr]{A A':Asg}{b:Bd}(hb:HB A A' b)(ob:List (SO V.T))(hl:A.length=ob.length):∀(os:List OC)(j:Nat)(is:List Nat)(z:Zo V.T os),zhp b os.length j=some is->deO V b ob j os=some z->
  zfi (obD V P A A ob) is (obD V P A' (is.map λi=>A.getD i default) (enO V os z))
 | [],j,is,z,hi,h=>by have e:=w0c (show some []=some is from hi);subst e;trivial
 | .box t ls::os,j,is,z,hi,h=>by
  change (match lk b j,zhp b os.length (j+1) with
   |some i,some l=>some (i::l)
   |_,_=>none)=some is at hi
  split at hi
  .rename_i i l hj hl';have e:=w0c hi;subst e;change (match (lk b j).bind λi=>ob[i]?,deO V b ob (j+1) os with
    |some (.box t' cs),some z=>bif Nat.beq t t' then deL V b ls cs z else none
    |_,_=>none)=some z at h
   rw[hj] at h;split at h
   .rename_i t' cs z' ho hz;simp only[w04] at ho;cases ht:Nat.beq t t' with
    |false=>rw[ht] at h;exact zi h
    |true=>
     rw[ht] at h;have:=w01 ht;subst this;obtain⟨h1,h2⟩:=zyv (P:=P) hb ls cs z' z h;have hlt:i<A.length:=by rw[hl];exact(w02.1 ho).1
     have ha:A[i]? = some (A.getD i default):=by simp[List.getD,w09 hlt]
     refine⟨⟨_,zn V P ha ho,?_⟩,?_⟩
     .exact λS r w ⟨hS,cur,hc,hh⟩=>⟨hS,cur,hc,zkf h2 hh⟩
     .show zfi _ l (obD V P A' (l.map λi=>A.getD i default) (enO V os (enL V ls z).2));rw[h1];exact zio hb ob hl os (j+1) l z' hl' hz
   .exact zi h
  .exact zi hi
 | .row E c::os,j,is,z,hi,h=>by
  change (match lk b j,zhp b os.length (j+1) with
   |some i,some l=>some (i::l)
   |_,_=>none)=some is at hi
  split at hi
  .rename_i i l hj hl';have e:=w0c hi;subst e;change (match (lk b j).bind λi=>ob[i]?,deO V b ob (j+1) os with
    |some (.row E' c' l),some z=>bif Nat.beq E E' then(if h:c'=c then some (h ▸ l,z) else none) else none
    |_,_=>none)=some z at h
   rw[hj] at h;split at h
   .rename_i E' c' y z' ho hz;simp only[w04] at ho;cases ht:Nat.beq E E' with
    |false=>rw[ht] at h;exact zi h
    |true=>
     rw[ht] at h;have:=w01 ht;subst this;change (if h:c'=c then some (h ▸ y,z') else none)=some z at h;split at h
     .rename_i e;subst e;have e:=w0c h;subst e;have hlt:i<A.length:=by rw[hl];exact(w02.1 ho).1
      have ha:A[i]? = some (A.getD i default):=by simp[List.getD,w09 hlt]
      exact⟨⟨_,zn V P ha ho,EntH.refl⟩,zio hb ob hl os (j+1) l z' hl' hz⟩
     .exact zi h
   .exact zi h
  .exact zi hi
 | .emp::os,j,is,z,hi,h=>by
  change (match lk b j,zhp b os.length (j+1) with
   |some i,some l=>some (i::l)
   |_,_=>none)=some is at hi
  split at hi
  .rename_i i l hj hl';have e:=w0c hi;subst e;change (match (lk b j).bind λi=>ob[i]?,deO V b ob (j+1) os with
    |some .emp,some z=>some z
    |_,_=>none)=some z at h
   rw[hj] at h;split at h
   .rename_i z' ho hz;simp only[w04] at ho;have e:=w0c h;subst e;have hlt:i<A.length:=by rw[hl];exact(w02.1 ho).1
    have ha:A[i]? = some (A.getD i default):=by simp[List.getD,w09 hlt]
    exact⟨⟨_,zn V P ha ho,EntH.refl⟩,zio hb ob hl os (j+1) l z' hl' hz⟩
   .exact zi h
  .exact zi hi
 | .fix E c::os,j,is,z,hi,h=>by
  change (match lk b j,zhp b os.length (j+1) with
   |some i,some l=>some (i::l)
   |_,_=>none)=some is at hi
  split at hi
  .rename_i i l hj hl';have e:=w0c hi;subst e;change (match (lk b j).bind λi=>ob[i]?,deO V b ob (j+1) os with
    |some (.x (.fix E' c' l)),some z=>bif Nat.beq E E' then(if h:c'=c then some (h ▸ l,z) else none) else none
    |_,_=>none)=some z at h
   rw[hj] at h;split at h
   .rename_i E' c' y z' ho hz;simp only[w04] at ho;cases ht:Nat.beq E E' with
    |false=>rw[ht] at h;exact zi h
    |true=>
     rw[ht] at h;have:=w01 ht;subst this;change (if h:c'=c then some (h ▸ y,z') else none)=some z at h;split at h
     .rename_i e;subst e;have e:=w0c h;subst e;have hlt:i<A.length:=by rw[hl];exact(w02.1 ho).1
      have ha:A[i]? = some (A.getD i default):=by simp[List.getD,w09 hlt]
      exact⟨⟨_,zn V P ha ho,EntH.refl⟩,zio hb ob hl os (j+1) l z' hl' hz⟩
     .exact zi h
   .exact zi h
  .exact zi hi
 | .map kc vc E::os,j,is,z,hi,h=>by
  change (match lk b j,zhp b os.length (j+1) with
   |some i,some l=>some (i::l)
   |_,_=>none)=some is at hi
  split at hi
  .rename_i i l hj hl';have e:=w0c hi;subst e;change (match (lk b j).bind λi=>ob[i]?,deO V b ob (j+1) os with
    |some (.x (.map kc' vc' E' m none)),some z=>bif Nat.beq E' E then(if h:kc'=kc then(if h2:vc'=vc then some (h ▸ h2 ▸ m,z) else none) else none) else none
    |_,_=>none)=some z at h
   rw[hj] at h;split at h
   .rename_i kc' vc' E' y z' ho hz;simp only[w04] at ho;cases hE:Nat.beq E' E with
    |false=>rw[hE] at h;exact zi h
    |true=>
    rw[hE] at h;have:=w01 hE;subst this;change (if h:kc'=kc then(if h2:vc'=vc then some (h ▸ h2 ▸ y,z') else none) else none)=some z at h;split at h
    .rename_i e;subst e;split at h
     .rename_i e;subst e;have e:=w0c h;subst e;have hlt:i<A.length:=by rw[hl];exact(w02.1 ho).1
      have ha:A[i]? = some (A.getD i default):=by simp[List.getD,w09 hlt]
      exact⟨⟨_,zn V P ha ho,λS r w h=>⟨⟨h.1.1,λk j e=>by cases e⟩,h.2⟩⟩,zio hb ob hl os (j+1) l z' hl' hz⟩
     .exact zi h
    .exact zi h
   .exact zi h
  .exact zi hi
 | .it kc vc::os,j,is,z,hi,h=>by
  change (match lk b j,zhp b os.length (j+1) with
   |some i,some l=>some (i::l)
   |_,_=>none)=some is at hi
  split at hi
  .rename_i i l hj hl';have e:=w0c hi;subst e;change (match (lk b j).bind λi=>ob[i]?,deO V b ob (j+1) os with
    |some (.x (.it kc' vc' m _)),some z=>if h:kc'=kc then(if h2:vc'=vc then some (h ▸ h2 ▸ m,z) else none) else none
    |_,_=>none)=some z at h
   rw[hj] at h;split at h
   .rename_i kc' vc' y cc z' ho hz;simp only[w04] at ho;split at h
    .rename_i e;subst e;split at h
     .rename_i e;subst e;have e:=w0c h;subst e;have hlt:i<A.length:=by rw[hl];exact(w02.1 ho).1
      have ha:A[i]? = some (A.getD i default):=by simp[List.getD,w09 hlt]
      exact⟨⟨_,zn V P ha ho,λS r w h=>⟨h.1,yd7 h.2⟩⟩,zio hb ob hl os (j+1) l z' hl' hz⟩
     .exact zi h
    .exact zi h
   .exact zi h
  .exact zi hi
 | .nst E E2 c none::os,j,is,z,hi,h=>by
  change (match lk b j,zhp b os.length (j+1) with
   |some i,some l=>some (i::l)
   |_,_=>none)=some is at hi
  split at hi
  .rename_i i l hj hl';have e:=w0c hi;subst e;change (match (lk b j).bind λi=>ob[i]?,deO V b ob (j+1) os with
    |some (.x (.nst E' E2' c' l none)),some z=>bif Nat.beq E E'&&Nat.beq E2 E2' then(if h:c'=c then some (h ▸ l,z) else none) else none
    |_,_=>none)=some z at h
   rw[hj] at h;split at h
   .rename_i E' E2' c' y z' ho hz;simp only[w04] at ho;cases ht :(Nat.beq E E'&&Nat.beq E2 E2') with
    |false=>rw[ht] at h;exact zi h
    |true=>
     rw[ht] at h;simp only[w03] at ht;have e1:=w01 ht.1;have e2:=w01 ht.2;subst e1;subst e2;change (if h:c'=c then some (h ▸ y,z') else none)=some z at h;split at h
     .rename_i e;subst e;have e:=w0c h;subst e;have hlt:i<A.length:=by rw[hl];exact(w02.1 ho).1
      have ha:A[i]? = some (A.getD i default):=by simp[List.getD,w09 hlt]
      refine⟨⟨_,zn V P ha ho,?_⟩,zio hb ob hl os (j+1) l z' hl' hz⟩;exact λS r w h=>⟨⟨h.1.1,λk j e=>by cases e⟩,h.2⟩
     .exact zi h
   .exact zi h
  .exact zi hi
 | .nst E E2 c (some q)::os,j,is,z,hi,h=>by
  change (match lk b j,zhp b os.length (j+1) with
   |some i,some l=>some (i::l)
   |_,_=>none)=some is at hi
  split at hi
  .rename_i i l hj hl';have e:=w0c hi;subst e;change (match (lk b j).bind λi=>ob[i]?,deO V b ob (j+1) os with
    |some (.x (.nst E' E2' c' l (some (k,i)))),some z=>bif Nat.beq E E'&&Nat.beq E2 E2'&&isO b q i then(if h:c'=c then some (h ▸ l,k,z) else none) else none
    |_,_=>none)=some z at h
   rw[hj] at h;split at h
   .rename_i E' E2' c' y k i2 z' ho hz;simp only[w04] at ho;cases ht :(Nat.beq E E'&&Nat.beq E2 E2'&&isO b q i2) with
    |false=>rw[ht] at h;exact zi h
    |true=>
     rw[ht] at h;simp only[w03] at ht;have e1:=w01 ht.1.1;have e2:=w01 ht.1.2;have e3:=y4e ht.2;subst e1;subst e2;change (if h:c'=c then some (h ▸ y,k,z') else none)=some z at h;split at h
     .rename_i e;subst e;have e:=w0c h;subst e;have hlt:i<A.length:=by rw[hl];exact(w02.1 ho).1
      have ha:A[i]? = some (A.getD i default):=by simp[List.getD,w09 hlt]
      refine⟨⟨_,zn V P ha ho,?_⟩,zio hb ob hl os (j+1) l z' hl' hz⟩;rintro S r w ⟨hp,hn⟩;obtain⟨p,hp2⟩:=w18.1 (hp.2 _ _ rfl);have hq:=hb q i2 p e3 hp2;refine⟨⟨hp.1,λk j e=>?_⟩,?_⟩
      .simp only[w00,w0f] at e;rw[<- e.2,hq];rfl
      .simp only[zgc,hp2] at hn;simp only[zgc,hq];exact hn
     .exact zi h
   .exact zi h
  .exact zi hi
theorem zyp{b:Bd}: ∀{n j:Nat}{is:List Nat},zhp b n j=some is->is.length=n/\∀k,k<n->lk b (j+k)=is[k]?
 |0,j,is,h=>by cases w0c (show some []=some is from h);exact⟨rfl,λk hk=>by omega⟩
 |n+1,j,is,h=>by
  change (match lk b j,zhp b n (j+1) with
   |some i,some l=>some (i::l)
   |_,_=>none)=some is at h
  split at h
  .rename_i i l hj hl;cases w0c h;obtain⟨h1,h2⟩:=zyp hl;refine⟨by simp[h1],λk hk=>?_⟩;cases k with
   |zero=>simpa using hj
   |succ k=>have:=h2 k (by omega);simp only[w20];rw[<- this];congr 1;omega
  .cases h
theorem zgh{α:Type}: ∀{l:List (Nat×α)}{t:Nat}{x:α},lk l t=some x->(t,x)∈l
 |(k,y)::l,t,x,h=>by
  rw[z07] at h;by_cases e:t=k
  .subst e;rw[if_pos rfl] at h;cases h;exact w0l
  .rw[if_neg e] at h;exact w0h _ (zgh h)
theorem zec:∀(os:List OC)(z:Zo V.T os),(enO V os z).length=os.length
 | [],_=>rfl
 | .box t ls::os,z=>by show (enO V os (enL V ls z).2).length+1=os.length+1;rw[zec os]
 | .row E c::os,z=>by show (enO V os z.2).length+1=os.length+1;rw[zec os]
 | .fix E c::os,z=>by show (enO V os z.2).length+1=os.length+1;rw[zec os]
 | .emp::os,z=>congrArg (· + 1) (zec os (show Zo V.T os from z))
 | .map kc vc E::os,z=>by show (enO V os z.2).length+1=os.length+1;rw[zec os]
 | .it kc vc::os,z=>by show (enO V os z.2).length+1=os.length+1;rw[zec os]
 | .nst E E2 c none::os,z=>by show (enO V os z.2).length+1=os.length+1;rw[zec os]
 | .nst E E2 c (some j)::os,z=>by show (enO V os z.2.2).length+1=os.length+1;rw[zec os]
def Nils(B:Asg)(n m:Nat):Prop:=∀k,k<m->B[n+k]? = some (0,.slice none 0 0)
theorem z6j[Dr]{B:Asg}{os:List OC}{gb:List (Nat×Bool)}: ∀(ls:List (Nat×LC))(sl:Sls V.T)(n:Nat),Nils B n (zpg V os gb ls sl n).2.length->
  slD V P B gb (zpg V os gb ls sl n).1=slD V P B gb sl/\(∀kn m,GbOK (⟨sl,gb,kn,m⟩:Fm V.T)->GbOK (⟨(zpg V os gb ls sl n).1,gb,kn,m⟩:Fm V.T))/\∀o∈(zpg V os gb ls sl n).2,∃E c,o = .row E c []
 | [],sl,n,_=>⟨rfl,λ_ _ h=>h,λo ho=>by simp[zpg] at ho⟩
 |(t,.own j)::ls,sl,n,h=>by
  simp only[zpg] at h⊢;split at h
  .rename_i E c h1 h2 h3;simp only[h1,h2,h3];have hB:B[n]? = some (0,.slice none 0 0):=by have:=h 0 (by simp);simpa using this
   obtain⟨k1,k2,k3⟩:=z6j ls ((t,[],.own n)::sl) (n+1) (λk hk=>by have:=h (k+1) (by simpa using hk);rw[<- this];congr 1;omega);refine⟨?_,λkn m hg=>k2 kn m ⟨?_,?_,hg.kn⟩,?_⟩
   .rw[k1];funext u;simp only[slD,z07];by_cases e:u=t
    .subst e;rw[if_pos rfl,h1];simp[denE,SV.den,hB]
    .rw[if_neg e]
   .intro u g hu ch z hz;simp only[z07] at hz;by_cases e:u=t
    .subst e;simp only at hu;rw[h3] at hu;cases hu
    .rw[if_neg e] at hz;exact hg.val u g hu ch z hz
   .intro u ch z hz;simp only[z07] at hz;by_cases e:u=t
    .rw[if_pos e] at hz;simp only[w00,w0f] at hz;rw[<- hz.1];intro p hp;cases hp
    .rw[if_neg e] at hz;exact hg.ch u ch z hz
   .intro o ho;simp only[w08] at ho;rcases ho with rfl|ho
    .exact⟨E,c,rfl⟩
    .exact k3 o ho
  .exact z6j ls sl n h
 |(t,.val c)::ls,sl,n,h=>z6j ls sl n h
 |(t,.ptr a b)::ls,sl,n,h=>z6j ls sl n h
 |(t,.agg a)::ls,sl,n,h=>z6j ls sl n h
 |(t,.func a b)::ls,sl,n,h=>z6j ls sl n h
 |(t,.cmp a)::ls,sl,n,h=>z6j ls sl n h
 |(t,.nil)::ls,sl,n,h=>z6j ls sl n h
 |(t,.raw a)::ls,sl,n,h=>z6j ls sl n h
 |(t,.rop a)::ls,sl,n,h=>z6j ls sl n h
 |(t,.rom a b)::ls,sl,n,h=>z6j ls sl n h
theorem Nils.left{B:Asg}{n a b:Nat}(h:Nils B n (a+b)):Nils B n a:=λk hk=>h k (by omega)
theorem Nils.right{B:Asg}{n a b:Nat}(h:Nils B n (a+b)):Nils B (n+a) b:=λk hk=>by have:=h (a+k) (by omega);rw[<- this];congr 1;omega
theorem zt5[Dr]{B:Asg}{os:List OC}{ro:Nat->Prop}{w:World}: ∀(ls:List (Nat×List (Nat×LC)))(fs:List (Fm V.T))(as:List GA)(n:Nat),Nils B n (zmx V os ls fs n).2.length->
  (Stk V P B ro w fs as->Stk V P B ro w (zmx V os ls fs n).1 as)/\∀o∈(zmx V os ls fs n).2,∃E c,o = .row E c []
 | [],fs,as,n,_=>⟨λh=>by simpa only[zmx] using h,λo ho=>by simp[zmx] at ho⟩
 |(_,l)::ls,[],as,n,_=>⟨λh=>by simpa only[zmx] using h,λo ho=>by simp[zmx] at ho⟩
 |(_,l)::ls,f::fs,as,n,h=>by
  simp only[zmx,w0d] at h⊢;obtain⟨k1,k2,k3⟩:=z6j (P:=P) (os:=os) (gb:=f.gb) l f.sl n h.left;cases as with
  |nil=>obtain⟨m1,m2⟩:=zt5 (ro:=ro) (w:=w) ls fs [] _ h.right;exact⟨λq=>q.elim,λo ho=>(w0m.1 ho).elim (k3 o) (m2 o)⟩
  |cons a as=>obtain⟨m1,m2⟩:=zt5 (ro:=ro) (w:=w) ls fs as _ h.right;refine⟨λq=>⟨⟨?_,q.1.2.1,k2 _ _ q.1.2.2.1,q.1.2.2.2⟩,m1 q.2⟩,λo ho=>(w0m.1 ho).elim (k3 o) (m2 o)⟩;show ze (slD V P B f.gb (zpg V os f.gb l f.sl n).1) a.tm ro w;rw[k1];exact q.1.1
theorem yde[Dr]{B:Asg}{os:List OC}: ∀(ls:List LC)(cs:List (SV V.T))(n:Nat),Nils B n (nilL V os ls cs n).2.length->
  denL V P B (nilL V os ls cs n).1=denL V P B cs/\∀o∈(nilL V os ls cs n).2,∃E c,o = .row E c []:=by
 intro ls cs n
 fun_induction nilL V os ls cs n with
 |case1 c ls cs n a r hr ha r' m hm ih=>intro h;simp only[hm] at ih;obtain⟨k1,k2⟩:=ih h;refine⟨?_,k2⟩;rw[z1r,k1,(zin V P cs _ a ha).1,(zcg V P cs _ r hr).1,w14]
 |case2=>intro h;exact⟨rfl,λo ho=>by cases ho⟩
 |case3 j ls cs n E c hj r m hm ih=>
  intro h;simp only[hm] at ih;obtain⟨k1,k2⟩:=ih λk hk=>by have:=h (k+1) (by simpa using hk);rw[<- this];congr 1;omega
  have hB:B[n]? = some (0,.slice none 0 0):=by have:=h 0 (by simp);simpa using this
  refine⟨?_,λo ho=>?_⟩
  .simp only[denL,k1,SV.den,hB]
  .simp only[w08] at ho;rcases ho with rfl|ho
   .exact⟨E,c,rfl⟩
   .exact k2 o ho
 |case4=>intro h;exact⟨rfl,λo ho=>by cases ho⟩
 |case5 l ls x cs n h1 h2 r m hm ih=>intro h;simp only[hm] at ih;obtain⟨k1,k2⟩:=ih h;exact⟨by rw[z2l V P x r,z2l V P x cs,k1],k2⟩
 |case6=>intro h;exact⟨rfl,λo ho=>by cases ho⟩
theorem y2g[Dr]{w0 w:World}{base:Nat}{r:Nat->Prop}{B:Asg}: ∀(m:List (SO V.T))(objs:List HP)(S:Nat->Nat->Prop),(∀o∈m,∃E c,o = .row E c [])->WInv w0 base objs r S w->
  WInv w0 base (objs++obD V P B (List.replicate m.length (0,.slice none 0 0)) m) r S w
 | [],objs,S,_,h=>by simpa[obD] using h
 |o::m,objs,S,hm,h=>by obtain⟨E,c,rfl⟩:=hm o (w0l ..);have h1:=h.addNil (row E (V.ev c) (V.sz c) ([]:List (V.T c)) (.slice none 0 0)) (.inl ⟨rfl,rfl⟩);have h2:=y2g (B:=B) m _ S (λo ho=>hm o (w0h _ ho)) h1;rw[w0t] at h2;exact h2
theorem zwc[Dr]{A:Asg}{ob:List (SO V.T)}(hl:A.length=ob.length){w0 w:World}{base:Nat}{r:Nat->Prop}{S:Nat->Nat->Prop}{m:List (SO V.T)}(hm:∀o∈m,∃E c,o = .row E c [])(h:WInv w0 base (obD V P A A ob) r S w):
  ∃S',WInv w0 base (obD V P (A++List.replicate m.length (0,.slice none 0 0)) (A++List.replicate m.length (0,.slice none 0 0)) (ob++m)) r S' w:=by
 have h1:=y2g (P:=P) (B:=A++List.replicate m.length (0,.slice none 0 0)) m _ S hm h;exact z3j hl (B:=List.replicate m.length (0,.slice none 0 0)) (zi4 _) _ _ _ _ _ h1
theorem y4w{A:Asg}{n m:Nat}(hl:A.length=n):Nils (A++List.replicate m (0,.slice none 0 0)) n m:=λk hk=>by rw[w11 (by omega),hl,w3j,w41,if_pos hk]
theorem zdd[Dr]{C:Cx P}{acts:List GA}{a:Act}{w:World}{s:SS V.T}(all:List OC):∀(os:List OC)(j:Nat)(b:Bd)(ob:List (SO V.T)),SatS V C acts { s with ob:=ob } a w->SatS V C acts { s with ob:=nilB V all j os b ob } a w
 | [],j,b,ob,h=>h
 | .box t ls::os,j,b,ob,h=>by
  simp only[nilB];split
  .rename_i i hi;split
   .rename_i t cs ho;refine zdd all os _ _ _ (h.objs (ob':=ob.set i (.box t (nilL V all ls cs ob.length).1)++(nilL V all ls cs ob.length).2) λA ro S hl hw=>?_);obtain⟨k1,k2⟩:=yde (P:=P) (os:=all) ls cs ob.length (y4w (A:=A) (m:=(nilL V all ls cs ob.length).2.length) hl);obtain⟨S',hw'⟩:=zwc (P:=P) hl k2 hw;refine⟨List.replicate (nilL V all ls cs ob.length).2.length (0,.slice none 0 0),S',by simp[hl],?_⟩;have li:=(w02.1 ho).1;obtain⟨qi,hqi⟩:∃q,A[i]? = some q:=⟨A[i],by simp[hl,li]⟩;have hq2 :(A++List.replicate (nilL V all ls cs ob.length).2.length ((0:Nat),Value.slice none 0 0))[i]? = some qi:=by rw[w0n (by simp at hl;omega)];exact hqi
    have e1:ob.set i (.box t (nilL V all ls cs ob.length).1)++(nilL V all ls cs ob.length).2 =(ob++(nilL V all ls cs ob.length).2).set i (.box t (nilL V all ls cs ob.length).1):=by rw[List.set_append_left _ _ li]
    have e2 :(ob++(nilL V all ls cs ob.length).2) =(ob++(nilL V all ls cs ob.length).2).set i (.box t cs):=by rw[List.set_append_left _ _ li];congr 1;exact(so_set_same ho).symm
    rw[e1,z35 V P _ _ i qi _ hq2];rw[e2,z35 V P _ _ i qi _ hq2] at hw';simp only[SO.den] at hw'⊢;rw[k1];exact hw'
   .exact zdd all os _ _ _ h
  .exact zdd all os _ _ _ h
 | .row _ _::os,j,b,ob,h=>zdd all os _ _ _ h
 | .fix _ _::os,j,b,ob,h=>zdd all os _ _ _ h
 | .emp::os,j,b,ob,h=>zdd all os _ _ _ h
 | .map _ _ _::os,j,b,ob,h=>zdd all os _ _ _ h
 | .it _ _::os,j,b,ob,h=>zdd all os _ _ _ h
 | .nst _ _ _ _::os,j,b,ob,h=>zdd all os _ _ _ h
 where so_set_same:∀{l:List (SO V.T)}{i:Nat}{H:SO V.T},l[i]? = some H->l.set i H=l
 |_::_,0,_,h=>by simp at h;subst h;rfl
 |_::l,i+1,_,h=>by simp only[w3l];rw[so_set_same (by simpa using h)]
 | [],_,_,h=>by simp at h
theorem ydf[Dr]{C:Cx P}{acts:List GA}{s:SS V.T}{a:Act}{w:World}(h:Sh)(H:SatS V C acts s a w):SatS V C acts (nilS V h s) a w:=by
 unfold nilS;split
 .rename_i f fs m hm;obtain⟨hd,hsz,hch,hg,A,ro,S,hl,hw,he,hs,hst⟩:=H;have h0:Nils (A++List.replicate (zmx V h.ob h.fr (s.toFm::s.stk) s.ob.length).2.length (0,.slice none 0 0)) s.ob.length (zmx V h.ob h.fr (s.toFm::s.stk) s.ob.length).2.length:=y4w hl;obtain⟨k1,k2⟩:=zt5 (P:=P) (ro:=ro) (w:=w) (os:=h.ob) h.fr (s.toFm::s.stk) (⟨a,none⟩::acts) s.ob.length h0;rw[hm] at k1 k2;obtain⟨S',hw'⟩:=zwc (P:=P) hl k2 hw;have hst0:Stk V P A ro w (s.toFm::s.stk) (⟨a,none⟩::acts):=⟨⟨hs,hch,hg,(λx e=>by cases e),hsz⟩,hst⟩;obtain⟨⟨q1,q2,q3,q4,q5⟩,q6⟩:=k1 (Stk.ext (AExt.app A _) (Evo.refl C.base _ _) hst0);exact zdd (s:={ f with stk:=fs,ob:=s.ob++m }) h.ob h.ob 0 _ _ ⟨trivial,q5,q2,q3,A++List.replicate m.length (0,.slice none 0 0),ro,S',by simp[hl],hw',he,q1,q6⟩
 .exact H
theorem y8i{s:SS V.T}(i:Nat):(zv0 V s i).toFm=s.toFm/\(zv0 V s i).stk=s.stk:=by
 unfold zv0 zxe;split
 .split
  .split
   .generalize V.key _=q;cases q<;>exact⟨rfl,rfl⟩
   .exact⟨rfl,rfl⟩
  .exact⟨rfl,rfl⟩
 .split
  .rename_i E' c' l' _;cases Nat.beq E' _ with
   |false=>exact⟨rfl,rfl⟩
   |true=>simp only[cond_true];split<;>exact⟨rfl,rfl⟩
  .exact⟨rfl,rfl⟩
 .exact⟨rfl,rfl⟩
theorem zv1[Dr]{C:Cx P}{acts:List GA}{a:Act}{w:World}: ∀(is:List Nat){s:SS V.T},SatS V C acts s a w->SatS V C acts (zr9 V s is) a w/\(zr9 V s is).toFm=s.toFm/\(zr9 V s is).stk=s.stk
 | [],s,h=>⟨h,rfl,rfl⟩
 |i::is,s,h=>by obtain⟨h1,h2,h3⟩:=zv1 is (zz7 i h);obtain⟨h4,h5⟩:=y8i (V:=V) (s:=s) i;exact⟨h1,h2.trans h4,h3.trans h5⟩
theorem yc9[Dr]{C:Cx P}{acts:List GA}{s:SS V.T}{a:Act}{w:World}(H:SatS V C acts s a w)(h:Sh)(z:h.Z V.T)(b:Bd)(hb:∀j i,lk b j=some i->j<h.ob.length)(hz:h.decB V s b=some z):SatS V C acts (h.enc V z) a w:=by
 unfold Sh.decB at hz;split at hz
 .rename_i is hi;cases hn:zgl is with
  |false=>rw[hn] at hz;exact zi hz
  |true=>
   rw[hn] at hz;change (match deO V b (zr9 V s (zom h.ob is)).ob 0 h.ob with
    |some z=>deF V b h.fr (s.toFm::s.stk) z
    |none=>none)=some z at hz
   obtain⟨H2,f1,f2⟩:=zv1 (zom h.ob is) H;rw[<- f1,<- f2] at hz;revert hz H2;generalize zr9 V s (zom h.ob is)=s2;intro hz H2;obtain⟨hd,hsz,hch,hg,A,ro,S,hl,hw,he,hs,hst⟩:=H2;split at hz
   .rename_i z' ho;obtain⟨hi1,hi2⟩:=zyp hi;have HBb:HB A (is.map λi=>A.getD i default) b:=by intro j i p hj hp;have hjm:=hb j i hj;have:=hi2 j hjm;rw[w1c,hj] at this;rw[w1a,<- this];simp[List.getD,hp]
    have hsel:=zio (P:=P) HBb s2.ob hl h.ob 0 is z' hi ho;obtain⟨h1,h2⟩:=yaq (P:=P) (ro:=ro) (w:=w) HBb h.fr (s2.toFm::s2.stk) (⟨a,none⟩::acts) z' z ⟨⟨hs,hch,hg,(λx e=>by cases e),hsz⟩,hst⟩ hz;show SatS V C acts (mkS V (enF V h.fr z).1 (enO V h.ob (enF V h.fr z).2)) a w;rw[h1];generalize (enF V h.fr z).1=fs at h2;cases fs with
    |nil=>exact h2.elim
    |cons f fs=>obtain⟨⟨k1,k2,k3,k4,k5⟩,k6⟩:=h2;exact⟨trivial,k5,k2,k3,_,ro,_,by simp only[mkS,w0x,zec];exact hi1,hw.sel hsel hn,he,k1,k6⟩
   .exact zi hz
 .exact zi hz
theorem zr2[Dr]{C:Cx P}{acts:List GA}{s:SS V.T}{a:Act}{w:World}(H:SatS V C acts s a w)(h:Sh)(z:h.Z V.T)(hz:h.dec V s=some z):SatS V C acts (h.enc V z) a w:=by refine yc9 (ydf h H) h z (h.bd V (nilS V h s)) (λj i hj=>?_) hz;have hm:=zgh hj;unfold Sh.bd at hm;rw[w0i] at hm;exact of_eq_true ((congrArg (λx=>x) (w23 (x:=j) (y:=h.ob.length))) ▸ eq_true hm.2)
end
end Px
end
section
namespace Px
open Go Go.RowKit
section
variable{V:TE}{N:Env V}{R:Type}{r:R}
def GbX(g g':List (Nat×Bool)):Prop:=∀t b,lk g t=some b->lk g' t=some b
theorem GbX.refl(g:List (Nat×Bool)):GbX g g:=λ_ _ h=>h
theorem GbX.trans{a b c:List (Nat×Bool)}(h:GbX a b)(k:GbX b c):GbX a c:=λt x e=>k t x (h t x e)
theorem GbX.isSome{a b:List (Nat×Bool)}(h:GbX a b){t:Nat}(k :(lk a t).isSome=true):(lk b t).isSome=true:=by
 cases e:lk a t with
 |none=>rw[e] at k;cases k
 |some x=>rw[h t x e];rfl
theorem GbX.chP{a b:List (Nat×Bool)}(h:GbX a b){ch:Ch}(k:∀p∈ch,(lk a p.1).isSome=true):chP a ch=chP b ch:=by
 refine propext ?_;rw[z8e,z8e];have e:∀p∈ch,lk b p.1=lk a p.1:=λp hp=>by
  cases e:lk a p.1 with
  |none=>have:=k p hp;rw[e] at this;cases this
  |some x=>rw[h _ x e]
 exact⟨λH p hp=>by rw[e p hp];exact H p hp,λH p hp=>by rw[<- e p hp];exact H p hp⟩
theorem GbX.denE[Dr]{P:Program}{A:Asg}{a b:List (Nat×Bool)}(h:GbX a b){e:Ch×SV V.T}(k:∀p∈e.1,(lk a p.1).isSome=true):denE V P A a e=denE V P A b e:=by
 obtain⟨ch,x⟩:=e;cases ch with
 |nil=>rfl
 |cons p l=>show cnd (Px.chP a (p::l)) _=cnd (Px.chP b (p::l)) _;rw[h.chP k]
def y8u{T:Nat->Type}: SV T->Bool
 | .func ..=>true
 |_=>false
structure EsOK(tab:Tab)(gb:List (Nat×Bool))(bs:Sls V.T)(es:List (DE V.T)):Prop where
 dst:∀e∈es,tab.dst e.1=some e.2.1
 ch:∀e∈es,∀p∈e.2.2.1,(lk gb p.1).isSome=true
 val:∀e∈es,∀g,lk gb e.2.1=some g->e.2.2.2 = .bool g
 inj:∀e∈es,∀e'∈es,e.2.1=e'.2.1->e=e'
 bs:∀e∈es,lk bs e.2.1=none\/(lk bs e.2.1=some e.2.2/\y8u e.2.2.2=true)
theorem zrb{α:Type}: ∀(l m:List (Nat×α))(t:Nat),lk (l++m) t =(match lk l t with|some x=>some x|none=>lk m t)
 | [],m,t=>rfl
 |(k,y)::l,m,t=>by
  simp only[w2a,z07];by_cases h:t=k
  .rw[if_pos h,if_pos h]
  .rw[if_neg h,if_neg h];exact zrb l m t
theorem zkh{f:Nat->Bool}{bs:Sls V.T}{es:List (DE V.T)}{t:Nat}{x:Ch×SV V.T}(h:lk (drSl V f bs es) t=some x):(∃e∈es,e.2 =(t,x))\/lk bs t=some x:=by
 unfold drSl at h;rw[zrb] at h;split at h
 .rename_i y hy;cases h;obtain⟨e,he,h2⟩:=w0a.1 (zgh hy);exact .inl ⟨e,(w0i.1 he).1,h2⟩
 .exact .inr h
theorem EsOK.gb{tab:Tab}{gb:List (Nat×Bool)}{kn:Ch}{n:Nat}{bs:Sls V.T}{es:List (DE V.T)}(h:EsOK tab gb bs es)(hb:GbOK (⟨bs,gb,kn,n⟩:Fm V.T))(f:Nat->Bool):GbOK (⟨drSl V f bs es,gb,kn,n⟩:Fm V.T) where
 val:=λt g hg ch z hl=>by
  rcases zkh hl with⟨e,he,h2⟩|hl
  .have:=h.val e he g (by rw[h2];exact hg)
   rw[h2] at this;exact this
  .exact hb.val t g hg ch z hl
 ch:=λt ch z hl p hp=>by
  rcases zkh hl with⟨e,he,h2⟩|hl
  .exact h.ch e he p (by rw[h2];exact hp)
  .exact hb.ch t ch z hl p hp
 kn:=hb.kn
def qrOf[Dr](P:Program)(A:Asg)(gb:List (Nat×Bool))(es:List (DE V.T)):List (Nat×VP):=es.map λe=>(e.1,denE V P A gb e.2.2)
theorem z3x[Dr]{P:Program}{A:Asg}{tab:Tab}{gb:List (Nat×Bool)}{bs:Sls V.T}(f:Nat->Bool):∀{es:List (DE V.T)},(∀e∈es,tab.dst e.1=some e.2.1)->z18 tab f (slD V P A gb bs) (qrOf P A gb es)=slD V P A gb (drSl V f bs es)
 | [],h=>by funext t;rfl
 |e::es,h=>by
  funext t;have ih:=congrFun (z3x (P:=P) (A:=A) (gb:=gb) (bs:=bs) f λe he=>h e (w0h _ he)) t;have hd:=h e (w0l ..);simp only[qrOf,w0e,z18,hd,zdq];obtain⟨i,d,x⟩:=e;simp only[drSl] at ih⊢;cases hf:f i with
  |false=>rw[w42 (by simpa using hf)];simpa[qrOf] using ih
  |true=>
   rw[w2q (by simpa using hf)];simp only[w0e,w2a,slD,z07];by_cases e:t=d
   .subst e;simp
   .have:Nat.beq d t=false:=znn λe'=>e e'.symm
    rw[if_neg e,this];simpa[qrOf,slD] using ih
theorem zl9{tab:Tab}{f:Nat->Bool}{s:z8a}: ∀{l m:List (Nat×VP)},(∀p∈l,f p.1=false)->z18 tab f s (l++m)=z18 tab f s m
 | [],m,h=>rfl
 |(q,x)::l,m,h=>by funext t;have h1:=h (q,x) (w0l ..);simp only at h1;simp only[w2a,z18,h1,Bool.false_and,cond_false];rw[zl9 λp hp=>h p (w0h _ hp)]
theorem zw0[Dr]{P:Program}{A:Asg}{g g':List (Nat×Bool)}(hx:GbX g g'){kn:Ch}{n:Nat}{sl:Sls V.T}(h:GbOK (⟨sl,g,kn,n⟩:Fm V.T)):slD V P A g sl=slD V P A g' sl:=by
 funext t;simp only[slD];cases e:lk sl t with
 |none=>rfl
 |some x=>obtain⟨ch,z⟩:=x;simp only[w0u,w00];exact hx.denE (h.ch t ch z e)
theorem zl5[Dr]{A:Asg}{P:Program}{tab:Tab}{gb:List (Nat×Bool)}{bs:Sls V.T}{es:List (DE V.T)}(h:EsOK tab gb bs es):ztw tab (slD V P A gb bs) (qrOf P A gb es):=by
 intro p hp t ht;obtain⟨e,he,rfl⟩:=w0a.1 hp;rw[h.dst e he] at ht;cases ht;rcases h.bs e he with q|⟨q,_⟩
 .exact .inl (by simp only[slD,q,w2t])
 .exact .inr (by simp only[slD,q,w0u])
theorem zhe{ops:Array Oper}{i:Nat}{o:Oper}(h:ops[i]? = some o):Tab.deps (zr ops) i=z0b o:=by simp only[Tab.deps,zm9 rfl h];rfl
theorem zia{ops:Array Oper}{i:Nat}{o:Oper}(h:ops[i]? = some o):Tab.dst (zr ops) i=o.dst:=by simp only[Tab.dst,zm9 rfl h]
theorem yf2{tab:Tab}{n:Nat}{keys:List Nat}(h:chk tab n [] keys [] []=true){i e:Nat}(hi:i<tab.length)(he:e∈tab.deps i):e<i:=by simp only[chk,w03,w0g,w1p,decide_eq_true_eq] at h;exact h.2 i hi e he
theorem EsOK.more{tab:Tab}{gb:List (Nat×Bool)}{kn:Ch}{n:Nat}{bs:Sls V.T}{es:List (DE V.T)}(h:EsOK tab gb bs es)(hb:GbOK (⟨bs,gb,kn,n⟩:Fm V.T)){f:Nat->Bool}{t:Nat}{ch:Ch}{b:Bool}
  (hl:lk (drSl V f bs es) t=some (ch,.bool b)) (hg:lk gb t=none):EsOK tab ((t,b)::gb) bs es/\GbOK (⟨bs,(t,b)::gb,kn,n⟩:Fm V.T)/\GbX gb ((t,b)::gb):=by
 have hX:GbX gb ((t,b)::gb):=by
  intro u c hu;rw[z07,if_neg]
  .exact hu
  .rintro rfl;rw[hg] at hu;cases hu
 refine⟨⟨h.dst,λe he p hp=>hX.isSome (h.ch e he p hp),λe he g hgt=>?_,h.inj,h.bs⟩,⟨λu g hu c z hz=>?_,λu c z hz p hp=>hX.isSome (hb.ch u c z hz p hp),λp hp=>hX.isSome (hb.kn p hp)⟩,hX⟩
 .rw[z07] at hgt;split at hgt
  .rename_i e1;cases hgt;rcases zkh hl with⟨e',he',h2⟩|hl'
   .have:=h.inj e he e' he' (by rw[e1,h2])
    subst this;rw[h2]
   .rcases h.bs e he with this|⟨this,hf⟩
    .rw[e1,hl'] at this;cases this
    .rw[e1,hl'] at this;have:=w0c this;rw[<- this] at hf;cases hf
  .exact h.val e he g hgt
 .rw[z07] at hu;split at hu
  .rename_i e1;cases hu;subst e1;rcases zkh hl with⟨e',he',h2⟩|hl'
   .rcases h.bs e' he' with this|⟨_,hf⟩
    .rw[h2] at this;change lk bs u=none at this;have hz':lk bs u=some (c,z):=hz;rw[this] at hz';cases hz'
    .rw[h2] at hf;cases hf
   .have hz':lk bs u=some (c,z):=hz;rw[hl'] at hz';cases hz';rfl
  .exact hb.val u g hu c z hz
theorem EsOK.put{tab:Tab}{gb:List (Nat×Bool)}{bs:Sls V.T}{es:List (DE V.T)}(h:EsOK tab gb bs es){i d:Nat}{ch:Ch}{v:SV V.T}(hd:tab.dst i=some d)(hg:lk gb d=none)(hb:lk bs d=none\/(lk bs d=some (ch,v)/\y8u v=true))
  (hn :(es.any λe=>Nat.beq e.2.1 d)=false) (hc:∀p∈ch,(lk gb p.1).isSome=true):EsOK tab gb bs ((i,d,ch,v)::es):=by
 have hn':∀e∈es,e.2.1≠d:=λe he e1=>by have :(es.any λe=>Nat.beq e.2.1 d)=true:=w2h.2 ⟨e,he,by rw[e1];exact w2j d⟩;rw[hn] at this;cases this
 refine⟨λe he=>?_,λe he p hp=>?_,λe he g hgt=>?_,λe he e' he' h1=>?_,λe he=>?_⟩
 .rcases w08.1 he with rfl|he
  .exact hd
  .exact h.dst e he
 .rcases w08.1 he with rfl|he
  .exact hc p hp
  .exact h.ch e he p hp
 .rcases w08.1 he with rfl|he
  .change lk gb d=some g at hgt;rw[hg] at hgt;cases hgt
  .exact h.val e he g hgt
 .rcases w08.1 he with rfl|he
  .rcases w08.1 he' with rfl|he'
   .rfl
   .exact absurd h1.symm (hn' e' he')
  .rcases w08.1 he' with rfl|he'
   .exact absurd h1 (hn' e he)
   .exact h.inj e he e' he' h1
 .rcases w08.1 he with rfl|he
  .exact hb
  .exact h.bs e he
theorem zsb[Dr](hN:z4t V N){C:Cx N.P}{A:Asg}{ops:Array Oper}{bs:Sls V.T}{k:SS V.T->List (DE V.T)->Option R}: ∀(os:List Oper)(i:Nat)(s:SS V.T)(es:List (DE V.T)),(∀(q:Nat)(o:Oper),os[q]? = some o->ops[i+q]? = some o)->zwy V N ops bs i os s es k=some r->
  EsOK (zr ops) s.gb bs es->GbOK (⟨bs,s.gb,s.kn,s.n⟩:Fm V.T)->chP s.gb s.kn->OneA V A s.ob->
  ∃(gb':List (Nat×Bool))(new:List (DE V.T)),GbX s.gb gb'/\k { s with gb:=gb' } (new++es)=some r/\EsOK (zr ops) gb' bs (new++es)/\GbOK (⟨bs,gb',s.kn,s.n⟩:Fm V.T)/\
   (∀e∈new,i<=e.1/\e.1<i+os.length)/\
   ((∀i,i<(zr ops).length->∀e∈Tab.deps (zr ops) i,e<i)->∀e∈new,∃o,ops[e.1]? = some o/\GQ C (zr ops) o ⟨z18 (zr ops) (memB (Tab.deps (zr ops) e.1)) (slD V N.P A gb' bs) (qrOf N.P A gb' (new++es)),obD V N.P A A s.ob⟩ (denE V N.P A gb' e.2.2))
 | [],i,s,es,hos,h,hes,hgb,hkn,h1=>by exact⟨s.gb,[],GbX.refl _,h,hes,hgb,(λe he=>absurd he w10),(λ_ e he=>absurd he w10)⟩
 |o::os,i,s,es,hos,h,hes,hgb,hkn,h1=>by
  have ho:ops[i]? = some o:=hos 0 o rfl;have hos':∀(q:Nat)(o':Oper),os[q]? = some o'->ops[i+1+q]? = some o':=λq o' hq=>by
   have:=hos (q+1) o' (by simpa using hq)
   rwa [show i+(q+1)=i+1+q by omega] at this
  have hlen:i<(zr ops).length:=by rw[zf1 rfl];exact(w19.1 ho).1
  simp only[zwy] at h;cases hd:o.dst with
  |none=>rw[hd] at h;cases h
  |some d=>
   rw[hd] at h;simp only at h;split at h
   .rename_i hg0 hb0;cases hany :(es.any λe=>Nat.beq e.2.1 d) with
    |true=>rw[hany] at h;cases h
    |false=>
     rw[hany] at h;simp only[cond_false] at h;have hdt:Tab.dst (zr ops) i=some d:=by rw[zia ho,hd]
     have hRt:=hes.gb hgb (memB (z0b o))
     -- what the rest shows
     have fin:∀(g1:List (Nat×Bool))(ch:Ch)(v:SV V.T),GbX s.gb g1->EsOK (zr ops) g1 bs es->GbOK (⟨bs,g1,s.kn,s.n⟩:Fm V.T)->lk g1 d=none->(∀p∈ch,(lk g1 p.1).isSome=true)->
       zwy V N ops bs (i+1) os { s with gb:=g1 } ((i,d,ch,v)::es) k=some r->
       (∀gb' st,GbX g1 gb'->st =(⟨slD V N.P A g1 (drSl V (memB (z0b o)) bs es),obD V N.P A A s.ob⟩:St)->GQ C (zr ops) o st (denE V N.P A gb' (ch,v)))->
       ∃(gb':List (Nat×Bool))(new:List (DE V.T)),GbX s.gb gb'/\k { s with gb:=gb' } (new++es)=some r/\EsOK (zr ops) gb' bs (new++es)/\GbOK (⟨bs,gb',s.kn,s.n⟩:Fm V.T)/\
        (∀e∈new,i<=e.1/\e.1<i+(o::os).length)/\
        ((∀i,i<(zr ops).length->∀e∈Tab.deps (zr ops) i,e<i)->∀e∈new,∃o,ops[e.1]? = some o/\GQ C (zr ops) o ⟨z18 (zr ops) (memB (Tab.deps (zr ops) e.1)) (slD V N.P A gb' bs) (qrOf N.P A gb' (new++es)),obD V N.P A A s.ob⟩ (denE V N.P A gb' e.2.2)):=by
      intro g1 ch v hX hes1 hgb1 hgd hch hr hq;obtain⟨gb',new,x1,x2,x3,x4,x6,x7⟩:=zsb hN (C:=C) (A:=A) os (i+1) { s with gb:=g1 } _ hos' hr (hes1.put (v:=v) hdt hgd (.inl hb0) hany hch) hgb1 ((hX.chP hgb.kn) ▸ hkn) h1;have eapp :(new++[(i,d,ch,v)])++es=new++(i,d,ch,v)::es:=by simp
      refine⟨gb',new++[(i,d,ch,v)],hX.trans x1,?_,?_,x4,λe he=>?_,λhlt e he=>?_⟩
      .rw[eapp];exact x2
      .rw[eapp];exact x3
      .rw[w0k];rcases w0m.1 he with he|he
       .have:=x6 e he;omega
       .simp at he;subst he;exact⟨w0s _,by omega⟩
      .rw[eapp];rcases w0m.1 he with he|he
       .exact x7 hlt e he
       .simp only[w0v] at he;subst he;refine⟨o,ho,hq gb' _ x1 ?_⟩;have hR1:=hes1.gb hgb1 (memB (z0b o));rw[zw0 x1 hR1,<- z3x (tab:=zr ops) _ hes1.dst,zhe ho];have hf:∀q,i<=q->memB (z0b o) q=false:=λq hq=>by
         cases hm:memB (z0b o) q with
         |false=>rfl
         |true=>have:=hlt i hlen q (by rw[zhe ho];exact z06.1 hm);omega
        have:qrOf N.P A gb' (new++(i,d,ch,v)::es)=qrOf N.P A gb' (new++[(i,d,ch,v)])++qrOf N.P A gb' es:=by simp[qrOf]
        rw[this,zl9];intro p hp;simp only[qrOf,w0a] at hp;obtain⟨e,he,rfl⟩:=hp;rcases w0m.1 he with he|he
        .exact hf _ (by have:=(x6 e he).1;simp only;omega)
        .simp at he;subst he;exact hf _ (w0s _)
     split at h
     .rename_i hg;obtain⟨v,hv,hq⟩:=zeu (C:=C) (A:=A) (s:={ s with sl:=drSl V (memB (z0b o)) bs es }) hN hkn hRt h1 h;refine fin s.gb [] v (GbX.refl _) hes hgb hg0 (λp hp=>by cases hp) hv λgb' st _ hst=>?_
      subst hst;obtain⟨dst,op,ty,pos,aft,guard⟩:=o;simp only at hg;subst hg;exact hq trivial dst pos aft none
     .rename_i g hg;split at h
      .rename_i ch s' hgo;unfold zgb at hgo;split at hgo
       .rename_i t ht;have htj:Tab.dst (zr ops) g.1=some t:=by
         cases ho':ops[g.1]? with
         |none=>simp[ho'] at ht
         |some o'=>rw[zia ho'];simpa[ho'] using ht
        split at hgo
        .cases hgo
        .rename_i chj b hl;have hcase:∃g1,s' = { s with gb:=g1,sl:=drSl V (memB (z0b o)) bs es }/\ch =(t,g.2)::chj/\GbX s.gb g1/\EsOK (zr ops) g1 bs es/\GbOK (⟨bs,g1,s.kn,s.n⟩:Fm V.T)/\lk g1 t=some b/\(∀u,u≠t->lk g1 u=lk s.gb u):=by
          split at hgo
          .rename_i g' hg';simp only[w00,w0f] at hgo;obtain⟨rfl,rfl⟩:=hgo;have e:=hRt.val t g' hg' chj _ hl;simp only[SV.bool.injEq] at e;subst e;exact⟨s.gb,rfl,rfl,GbX.refl _,hes,hgb,hg',λ_ _=>rfl⟩
          .rename_i hg';simp only[w00,w0f] at hgo;obtain⟨rfl,rfl⟩:=hgo;obtain⟨m1,m2,m3⟩:=hes.more hgb hl hg';exact⟨_,rfl,rfl,m3,m1,m2,by simp[z07],λu hu=>by rw[z07,if_neg hu]⟩
         obtain⟨g1,rfl,rfl,hX,hes1,hgb1,hgt,hoth⟩:=hcase;have hR1:=hes1.gb hgb1 (memB (z0b o));obtain⟨v,hv,hq⟩:=zeu (C:=C) (A:=A) (s:={ s with gb:=g1,sl:=drSl V (memB (z0b o)) bs es }) hN ((hX.chP hgb.kn) ▸ hkn) hR1 h1 h;have hchj:∀p∈chj,(lk g1 p.1).isSome=true:=hR1.ch t chj _ hl;have hch:∀p∈(t,g.2)::chj,(lk g1 p.1).isSome=true:=λp hp=>by
          rcases w08.1 hp with rfl|hp
          .simp[hgt]
          .exact hchj p hp
         have hg1d:lk g1 d=none:=by
          cases e1:lk g1 d with
          |none=>rfl
          |some b'=>
           exfalso;by_cases e2:d=t
           .subst e2;rcases zkh hl with⟨e,he,h2⟩|hl'
            .have :(es.any λe=>Nat.beq e.2.1 d)=true:=w2h.2 ⟨e,he,by rw[h2];exact w2j d⟩;rw[hany] at this;cases this
            .rw[hb0] at hl';cases hl'
           .rw[hoth d e2,hg0] at e1;cases e1
         refine fin g1 _ v hX hes1 hgb1 hg1d hch hv λgb' st hX' hst=>?_
         subst hst;obtain⟨dst,op,ty,pos,aft,guard⟩:=o;simp only at hg;subst hg;refine⟨chP gb' ((t,g.2)::chj),v.den V N.P A,t,htj,rfl,λhp=>hq ((hX'.chP hch) ▸ hp) dst pos aft _,?_⟩;have hsl:slD V N.P A g1 (drSl V (memB (z0b ⟨dst,op,ty,pos,aft,some g⟩)) bs es) t=some (denE V N.P A g1 (chj,.bool b)):=by simp only[slD,hl,w0u]
         have hgt':=hX' t b hgt;cases chj with
         |nil=>refine .inl ⟨b,hsl,?_⟩;simp[chP,hgt']
         |cons c0 cl=>refine .inr ⟨chP g1 (c0::cl),b,hsl,?_⟩;rw[hX'.chP hchj];simp[chP,hgt']
        .cases hgo
       .cases hgo
      .cases h
   .cases h
theorem y8b[Dr](hN:z4t V N){C:Cx N.P}{A:Asg}{ops:Array Oper}{bs:Sls V.T}{k:SS V.T->Option R}(os:List Oper)(i:Nat)(s:SS V.T)(es:List (DE V.T))(hos:os=ops.toList.drop i)(h:yce V N ops bs i os s es k=some r)
  (hes:EsOK (zr ops) s.gb bs es) (hgb:GbOK (⟨bs,s.gb,s.kn,s.n⟩:Fm V.T)) (hkn:chP s.gb s.kn) (h1:OneA V A s.ob) :
  ∃(gb':List (Nat×Bool))(new:List (DE V.T)),GbX s.gb gb'/\k { s with gb:=gb',sl:=drSl V (λ_=>true) bs (new++es) } = some r/\EsOK (zr ops) gb' bs (new++es)/\GbOK (⟨bs,gb',s.kn,s.n⟩:Fm V.T)/\
   chk (zr ops) s.n [] ((new++es).map (·.1)) [] []=true/\
   ∀e∈new,∃o,ops[e.1]? = some o/\GQ C (zr ops) o ⟨z18 (zr ops) (memB (Tab.deps (zr ops) e.1)) (slD V N.P A gb' bs) (qrOf N.P A gb' (new++es)),obD V N.P A A s.ob⟩ (denE V N.P A gb' e.2.2):=by
 obtain⟨gb',new,x1,x2,x3,x4,_,x7⟩:=zsb hN (C:=C) (A:=A) os i s es (λq o hq=>by rw[hos,w1l] at hq;simpa using hq) h hes hgb hkn h1;cases hc:chk (zr ops) s.n [] ((new++es).map (·.1)) [] [] with
 |false=>simp only at x2;rw[hc] at x2;cases x2
 |true=>simp only at x2;rw[hc] at x2;exact⟨gb',new,x1,x2,x3,x4,hc,x7 λi hi e he=>yf2 hc hi he⟩
theorem ze3{α:Type}{P:α->Prop}: ∀{l:List α},(∀a∈l,P a)->AllP P l
 | [],_=>trivial
 |a::l,h=>⟨h a (w0l ..),ze3 λb hb=>h b (w0h _ hb)⟩
theorem z9h{α:Type}(f:Nat->Bool):∀{l:List (Nat×α)}{t:Nat}{x:α},lk (l.filter λp=>f p.1) t=some x->lk l t=some x
 | [],t,x,h=>by cases h
 |(k,y)::l,t,x,h=>by
  cases hf:f k with
  |false=>
   rw[w42 (by simpa using hf)] at h;have:=z9h f h;rw[z07];by_cases e:t=k
   .subst e;have hm:=zgh h;have:=(w0i.1 hm).2;simp only at this;rw[hf] at this;cases this
   .rw[if_neg e];exact this
  |true=>
   rw[w2q (by simpa using hf),z07] at h;rw[z07];by_cases e:t=k
   .rw[if_pos e] at h⊢;exact h
   .rw[if_neg e] at h⊢;exact z9h f h
theorem ycf[Dr](hN:z4t V N){C:Cx N.P}{rd:Option Nat}{acts:List GA}{ops:Array Oper}{id:Nat}{K:SS V.T->Option R}{Q:Exit->Act->World->Prop}(hK:∀s a w,K s=some r->SatS V C acts s a w->Q .normal a w)
  {s:SS V.T} {a:Act} {w:World} (hm:N.P.follows .mixedOrders=true) (h:yce V N ops (s.sl.filter λp=>!isDs ops.toList p.1) 0 ops.toList s [] K=some r) (hs:SatS V C acts s a w) :(Code.region id ops true).wpIn (fz rd) 0 N.P Q a w:=by
 obtain⟨hd,hn,hkn,hgb,A,ro,S,hl,hw,hev,hsl,hst⟩:=hs;generalize hbs :(s.sl.filter λp=>!isDs ops.toList p.1)=bs at h;have hlk:∀{t:Nat}{x:Ch×SV V.T},lk bs t=some x->lk s.sl t=some x:=λ{t x}hx=>z9h (λk=>!isDs ops.toList k) (by rw[hbs];exact hx)
 have hgb0:GbOK (⟨bs,s.gb,s.kn,s.n⟩:Fm V.T):=⟨λt g hg ch z hz=>hgb.val t g hg ch z (hlk hz),λt ch z hz=>hgb.ch t ch z (hlk hz),hgb.kn⟩;obtain⟨gb',new,x1,x2,x3,x4,x5,x7⟩:=y8b hN (C:={ C with n:=s.n,r0:=ro,wI:=w,rd:=rd,df:=a.defers }) (A:=A) ops.toList 0 s [] rfl h ⟨λe he=>absurd he w10,λe he=>absurd he w10,λe he=>absurd he w10,λe he=>absurd he w10,λe he=>absurd he w10⟩ hgb0 hkn (zpi hw);rw[w0b] at x2 x3 x5 x7;have hkeys :(qrOf N.P A gb' new).map (·.1)=new.map (·.1):=by simp[qrOf]
 have hbs':ze (slD V N.P A gb' bs) a ro w:=by
  rw[<- zw0 x1 hgb0];intro t X hX;simp only[slD] at hX;cases hb:lk bs t with
  |none=>rw[hb] at hX;cases hX
  |some e=>rw[hb] at hX;exact hsl t X (by simp only[slD,hlk hb];exact hX)
 refine zwz (C:={ C with n:=s.n,r0:=ro,wI:=w,rd:=rd,df:=a.defers }) (s:=⟨slD V N.P A gb' bs,obD V N.P A A s.ob⟩) (QR:=qrOf N.P A gb' new) (tab:=zr ops) hm ?_ ⟨rfl,hn,ro,S,hw,Evo.refl _ _ _,hbs'⟩;refine Reg.introG [] [] rfl (by rw[hkeys];exact x5) ?_ ?_ trivial ?_
 .exact zl5 x3
 .refine ze3 λp hp _=>?_
  simp only[qrOf,w0a] at hp;obtain⟨e,he,rfl⟩:=hp;exact x7 e he
 .intro _ a' w' hsat;obtain⟨hd',hn',ro',S',hw',hev',hsl'⟩:=hsat;rw[z3x _ x3.dst] at hsl';exact hK _ a' w' x2 ⟨trivial,hn',(x1.chP hgb.kn) ▸ hkn,x3.gb x4 _,A,ro',S',hl,hw',zzr hd' ▸ hev.trans hev',hsl',hst.ext (AExt.refl _) hev'⟩
end
end Px
end
section
namespace Px
open Go Go.RowKit
section reg
variable{P:Program}{C:Cx P}{ops:Array Oper}{tab:Tab}{Q:Exit->Act->World->Prop}
theorem Reg.withInv[Dr]{D:List Nat}{s:St}{QR:List (Nat×VP)}(h :(∃r S w,WInv C.w0 C.base s.objs r S w)->Reg C ops tab Q D s QR):Reg C ops tab Q D s QR:=λfuel listed a w E r S hN hd hn hw he hs hf=>h ⟨r,S,w,hw⟩ fuel listed a w E r S hN hd hn hw he hs hf
theorem Reg.weak[Dr]{D:List Nat}{s s':St}{QR QR':List (Nat×VP)}(hs:∀a r w,ze s.slots a r w->ze s'.slots a r w)(ho:ObW s.objs s'.objs)(hk:∀q∈QR.map (·.1),q∈QR'.map (·.1))
  (hf:∀p∈QR',p.1∈QR.map (·.1)->∃x,(p.1,x)∈QR/\Ent x p.2) (h:Reg C ops tab Q D s' QR'):Reg C ops tab Q D s QR:=by
 intro fuel listed a w E r S hN hd hn hw he hsl hfa;obtain⟨S',hw'⟩:=ho _ _ _ _ _ hw;refine h fuel listed a w E r S' ⟨hN.closed,hN.size,hN.lst,λq hq=>hk q (hN.sub q hq),hN.fuel⟩ hd hn hw' he (hs _ _ _ hsl) ?_;intro q x t hq hm ht;obtain⟨x0,h1,h2⟩:=hf (q,x) hm (hN.sub q hq);exact h2 _ _ _ (hfa q x0 t hq h1 ht)
theorem zud{rd:Option Nat}(htab:zr ops=tab)(hk5:∀j,j<tab.length->∀e∈tab.deps j,e<j):∀(n m:Nat)(fuel:Nat)(L:Array Bool)(a:Act)(w:World),m+n=ops.size->n<=fuel->L.size=ops.size->
  (∀j,j<ops.size->(L.getD j true=true↔j<m))->(∀j,m<j->j<ops.size->j-1∈tab.deps j)->wpOpsIn (fz rd) 0 P ops Q (List.range' m n) a w->wpAnyIn (fz rd) 0 P .any ops Q fuel L a w
 |0,m,fuel,L,a,w,hm,hfu,hsz,hL,hch,h=>by
  have hr:Region.ready .any ops L = []:=by apply w4f.2;intro j hj;obtain⟨h1,h2,_⟩:=zjn hj;rw[(hL j h1).2 (by omega)] at h2;cases h2
  cases fuel with
  |zero=>exact⟨hr,h⟩
  |succ fuel=>exact⟨λ_=>h,λj hj=>by rw[hr] at hj;cases hj⟩
 |n+1,m,0,L,a,w,hm,hfu,hsz,hL,hch,h=>by omega
 |n+1,m,fuel+1,L,a,w,hm,hfu,hsz,hL,hch,h=>by
  have hmsz:m<ops.size:=by omega
  have hlen:=zf1 htab;have gd:∀(L:Array Bool)(k:Nat),k<L.size->L.getD k true=true->L.getD k false=true:=λL k hk h=>by simp[hk] at h⊢;exact h
  have hmr:m∈Region.ready .any ops L:=by
   simp only[Region.ready,w0i,w1p,w03,w0z];refine⟨hmsz,?_,?_⟩
   .cases hb:L.getD m true with
    |false=>rfl
    |true=>have:=(hL m hmsz).1 hb;omega
   .simp only[w1t hmsz,w0u,w1e,w2x];intro e hem;by_cases hb:Region.binds .any e=true
    .simp only[hb,w2o,w2w];have htb:=zm9 htab (i:=m) (o:=ops[m]) (by simp[hmsz]);have hlt:=hk5 m (by omega) e.on (by simp only[Tab.deps,htb];exact w0a.2 ⟨e,w0i.2 ⟨by simpa using hem,hb⟩,rfl⟩);exact gd _ _ (by omega) ((hL e.on (by omega)).2 hlt)
    .simp[hb]
  have honly:∀j∈Region.ready .any ops L,j=m:=by
   intro j hj;obtain⟨h1,h2,o,ho,h3⟩:=zjn hj;have hge:¬j<m:=λq=>by rw[(hL j h1).2 q] at h2;cases h2
   by_cases e:j=m
   .exact e
   exfalso;have hd:=hch j (by omega) h1;have htb:=zm9 htab ho;simp only[Tab.deps,htb] at hd;obtain⟨e,he,hon⟩:=w0a.1 hd;obtain⟨he1,he2⟩:=w0i.1 he;have h4:=h3 e (by simpa using he1) he2;rw[hon] at h4;have h5:L.getD (j-1) true=true:=by
    have:j-1<L.size:=by omega
    simp[this] at h4⊢;exact h4
   have:=(hL (j-1) (by omega)).1 h5;omega
  refine⟨λhr=>(by rw[hr] at hmr;cases hmr),λi hi=>?_⟩;have:=honly i hi;subst this;rw[w49,wpOpsIn_cons] at h;refine wpOpIn_mono (λa' w' h'=>?_) h;refine zud htab hk5 n (i+1) fuel _ a' w' (by omega) (by omega) (by simp[hsz]) (λj hj=>?_) (λj h1 h2=>hch j (by omega) h2) h';by_cases e:j=i
  .subst e;have:j<L.size:=by omega
   simp[this]
  .have:¬i=j:=λh=>e h.symm
   simp only[w07,w30 this];have:=hL j hj;simp only[w07] at this;rw[this];omega
theorem Reg.tail[Dr]{D:List Nat}{s:St}{QR:List (Nat×VP)}(l:Nat)(sure:List Nat)(htab:zr ops=tab)(hchk:chk tab C.n D (QR.map (·.1)) [l] sure=true)(hnone':ztw tab s.slots QR)
  (hQ':AllP (λp=>memB sure p.1=false->∃o,ops[p.1]? = some o/\GQ C tab o ⟨z18 tab (memB (tab.deps p.1)) s.slots QR,s.objs⟩ p.2) QR)
  (hcl :(QR.map (·.1)).all (λq=>(l::(D++QR.map (·.1))).any λj=>memB (Tab.deps tab j) q)=true) (hall :(List.range ops.size).all (λq=>Nat.ble l q||memB D q||memB (QR.map (·.1)) q)=true)
  (hlow :(D++QR.map (·.1)).all (λq=>Nat.blt q l)=true) (hch :(List.range ops.size).all (λj=>Nat.ble j l||memB (Tab.deps tab j) (j-1))=true) (hsz:l<ops.size) (hl:ze8 tab D (QR.map (·.1))=false)
  (hW:∀a w,Sat C ⟨z18 tab (λ_=>true) s.slots QR,s.objs⟩ a w->wpOpsIn (fz C.rd) 0 P ops Q (List.range' l (ops.size-l)) a w):Reg C ops tab Q D s QR:=by
 refine Reg.introW [] [l] sure htab hchk hnone' hQ' trivial ?_ (λhc=>by rw[hl] at hc;cases hc);intro i hi fuel listed a w E r S hN hd hn hw he hs hf hisz hdeps hoth;simp only[w0v] at hi;subst hi;have hk3:∀q∈QR.map (·.1),q ∉ D/\q<tab.length:=by intro q hq;simp only[chk,w03,w0g,decide_eq_true_eq] at hchk;obtain⟨⟨⟨_,h1⟩,h2⟩,_⟩:=hchk.1.1.2 q hq;exact⟨λh=>by rw[z06.2 h] at h1;simp at h1,h2⟩
 have hk5:∀j,j<tab.length->∀e∈tab.deps j,e<j:=by intro j hj e hej;simp only[chk,w03,w0g,decide_eq_true_eq,w1p] at hchk;exact hchk.2 j hj e hej
 have key:∀m q,q∈QR.map (·.1)->tab.length<=m+q->q∈E:=by
  intro m
  induction m with
  |zero=>intro q hq hm;have:=(hk3 q hq).2;omega
  |succ m ihm=>
   intro q hq hm;have h1:=w0g.1 hcl q hq;obtain⟨j,hj,hd⟩:=w2h.1 h1;have hd:=z06.1 hd;rcases w08.1 hj with rfl|hj
   .exact(hdeps q hd).resolve_left (hk3 q hq).1
   rcases w0m.1 hj with hj|hj
   .exact(hN.closed j (.inl hj) q hd).resolve_left (hk3 q hq).1
   .have hlt:=hk5 j (hk3 j hj).2 q hd;exact(hN.closed j (.inr (ihm j hj (by omega))) q hd).resolve_left (hk3 q hq).1
 have hkeys:∀q∈QR.map (·.1),q∈E:=λq hq=>key tab.length q hq (by omega)
 have hlo:∀q,q∈D\/q∈QR.map (·.1)->q<i:=λq hq=>by have:=w0g.1 hlow q (w0m.2 hq);exact w0p this
 have hlis:∀j,j<ops.size->(listed.getD j true=true↔j<i):=by
  intro j hj;rw[hN.lst j hj];constructor
  .rintro(h|h)
   .exact hlo j (.inl h)
   .exact hlo j (.inr (hN.sub j h))
  .intro hji;have:=w0g.1 hall j (by simpa using hj);simp only[w1h] at this;rcases this with(q|q)|q
   .have:=w0p q;omega
   .exact .inl (z06.1 q)
   .exact .inr (hkeys j (z06.1 q))
 have hfu:ops.size-i<=fuel+1:=by
  have hc:=hN.fuel;have e1 :((List.range ops.size).filter λi=>!listed.getD i true) =(List.range ops.size).filter λj=>!Nat.blt j i:=by
   refine w2c λj hj=>?_
   have:listed.getD j true=Nat.blt j i:=by rw[w2n,hlis j (w1p.1 hj),w23]
   rw[this]
  rw[e1] at hc;have e2:∀n,n-i<=((List.range n).filter λj=>!Nat.blt j i).length:=by
   intro n
   induction n with
   |zero=>simp
   |succ n ih=>
    rw[w3w,w1g,w0d];by_cases h:n<i
    .omega
    .have:Nat.blt n i=false:=by
      cases hb:Nat.blt n i with
      |false=>rfl
      |true=>exact absurd (w0p hb) h
     simp only[w1o,this,w3f,if_true,List.filter_nil,List.length_singleton];omega
  have:=e2 ops.size;omega
 have hchain:∀j,i<j->j<ops.size->j-1∈tab.deps j:=λj h1 h2=>by
  have:=w0g.1 hch j (w1p.2 h2);simp only[w1h] at this;rcases this with q|q
  .have:=w0p q;omega
  .exact z06.1 q
 have h0:=hW a w ⟨hd,hn,r,S,hw,he,zjl hs λq x t hm _ ht=>hf q x t (hkeys q (w0a.2 ⟨_,hm,rfl⟩)) hm ht⟩;have h1:=zud (rd:=C.rd) htab hk5 (ops.size-i) i (fuel+1) listed a w (by omega) hfu hN.size hlis hchain h0;exact h1.2 i (by
  have hr:=h1.1;simp only[Region.ready,w0i,w1p,w03,w0z];refine⟨hsz,?_,?_⟩
  .cases hb:listed.getD i true with
   |false=>rfl
   |true=>have:=(hlis i hsz).1 hb;omega
  .simp only[w1t hsz,w0u,w1e,w2x];intro e hem;by_cases hb:Region.binds .any e=true
   .simp only[hb,w2o,w2w];have htb:=zm9 htab (i:=i) (o:=ops[i]) (by simp[hsz]);have hlt:=hk5 i (by rw[zf1 htab];exact hsz) e.on (by simp only[Tab.deps,htb];exact w0a.2 ⟨e,w0i.2 ⟨by simpa using hem,hb⟩,rfl⟩);have h4:=(hlis e.on (by omega)).2 hlt;have hb2:e.on<listed.size:=by rw[hN.size];omega
    simp[hb2] at h4⊢;exact h4
   .simp[hb])
theorem OpQ.slots[Dr]{o:Oper}{s s':St}{x:VP}(ho:s'.objs=s.objs)(hs:∀t A,s.slots t=some A->s'.slots t=some A)(h:OpQ C o s x):OpQ C o s' x:=by
 intro a w ro S Q hd hn hw hsl;have:=h a w ro S Q hd hn (ho ▸ hw) λt A ht=>hsl t A (hs t A ht)
 rw[ho];exact this
theorem GQ.slots[Dr]{o:Oper}{s s':St}{x:VP}(ho:s'.objs=s.objs)(hs:∀t A,s.slots t=some A->s'.slots t=some A)(h:GQ C tab o s x):GQ C tab o s' x:=by
 unfold GQ at h⊢;cases hg:o.guard with
 |none=>rw[hg] at h;exact h.slots ho hs
 |some jw=>rw[hg] at h;obtain⟨p,x0,t,h1,h2,h3,h4⟩:=h;exact⟨p,x0,t,h1,h2,λhp=>(h3 hp).slots ho hs,h4.imp (λ⟨g,a,b⟩=>⟨g,hs _ _ a,b⟩) λ⟨c,g,a,b⟩=>⟨c,g,hs _ _ a,b⟩⟩
end reg
section free
variable{V:TE}{N:Env V}{R:Type}{r:R}
theorem z5w{α β:Type}{p:Prop}[Decidable p]{x:Option α}{k:α->Option β}:(ck p x).bind k=ck p (x.bind k):=by unfold ck;split<;>rfl
theorem z1q{α β:Type}{b:Bool}{x y:Option α}{k:α->Option β}:(bif b then x else y).bind k=bif b then x.bind k else y.bind k:=by cases b<;>rfl
theorem y2m{s:SS V.T}{op:BinOp}{t:TypeId}{y:Operand}{a b:SV V.T}(k:SV V.T->Option R):binX V N s [] op t y a b k =(binX V N s [] op t y a b some).bind k:=by
 unfold binX;split
 .cases zsu op with
  |true=>simp only[cond_true];unfold shift;split<;>first|rfl |(split<;>rfl)|simp[ckG,z5w]
  |false=>
   simp only[cond_false];split
   .unfold zwo;split<;>first|rfl |(unfold zwo.ckD;split<;>first |(split<;>rfl)|simp[ckG,z5w])|simp[ckG,z5w]
   .rfl
 .split<;>rfl
 .split<;>rfl
 .split<;>rfl
 .split<;>rfl
 .split<;>rfl
 .split<;>first|rfl|simp[ckG,z5w]
 .split
  .rw[z1q];cases (!(z15 a&&z15 b)) with
   |true=>rfl
   |false=>
    simp only[cond_false];split
    .rw[z1q];cases N.P.eqGuardType N.P.depth t with
     |true=>rfl
     |false=>simp only[cond_false];split<;>rfl
    .rfl
  .rfl
theorem zno{α β γ:Type}(x:Option α)(f:α->Option β)(g:β->Option γ):(x.bind f).bind g=x.bind λa=>(f a).bind g:=by cases x<;>rfl
theorem y3t{s:SS V.T}{o:Op}(hf:zv3 o=true)(ty:TypeId)(k:SV V.T->Option R):zm V N s [] o ty k =(zm V N s [] o ty some).bind k:=by
 cases o<;>simp[zv3] at hf
 case move x=>simp only[zm];split<;>rfl
 case assign x=>simp only[zm];split<;>rfl
 case nilCheck x=>simp only[zm];split<;>rfl
 case fieldAddr t x f=>
  simp only[zm];split<;>first|rfl|skip
  split<;>rfl
 case load t x=>
  simp only[zm];split<;>first|rfl|skip
  split
  .generalize (!_&&Nat.beq _ 1)=bb;cases bb<;>simp[ckG,z5w]
  .split<;>rfl
 case indexAddr t x i=>
  simp only[zm];split
  .cases Nat.beq _ _<;>simp[ckG,z5w]
  .split
   .cases Nat.beq _ _<;>simp[ckG,z5w]
   .cases Nat.beq _ _<;>simp[ckG,z5w]
   .cases Nat.beq _ _<;>simp[ckG,z5w]
   .rfl
  .split
   .split
    .cases (Nat.blt _ _&&Nat.beq _ _&&Nat.beq _ _)<;>simp[ckG,z5w]
    .rfl
   .rfl
  .cases (Nat.blt _ _&&Nat.beq _ _&&Nat.beq _ _)<;>simp[ckG,z5w]
  .cases (Nat.beq _ _&&Nat.beq _ _)<;>simp[ckG,z5w]
  .rfl
 case slice t x lo hi mx=>
  cases mx with
  |some o=>rfl
  |none=>
   simp only[zm];split
   .split
    .cases Nat.beq _ _<;>simp[ckG,z5w]
    .rfl
   .split
    .split
     .cases Nat.beq _ _<;>simp[ckG,z5w]
     .rfl
    .rfl
   .split
    .simp[ckG,z5w]
    .rfl
   .split
    .rw[z1q];rfl
    .rfl
   .split
    .split
     .simp[ckG,z5w]
     .rfl
    .rfl
   .rfl
 case build t parts=>
  simp only[zm];split
  .rw[z1q];congr 1
   .split<;>rfl
   .rw[z1q];congr 1;split<;>rfl
  .rfl
 case binOp op t x y c=>
  simp only[zm];split
  .exact y2m k
  .rfl
 case unOp op t x=>cases op<;>simp only[zm]<;>first|rfl |(split<;>rfl)
 case convert a b x=>
  simp only[zm];split
  .rw[z1q];rfl
  .split
   .split<;>rfl
   .rfl
  .rfl
 case extract x i=>
  simp only[zm];split
  .split<;>rfl
  .rfl
 case call c=>
  obtain⟨callee,args,ts⟩:=c;cases callee with
  |value fo=>
   cases fo with
   |func f=>
    simp only[zm];split
    .rw[z1q];congr 1;split
     .rw[z1q];congr 1;simp only[zry,zno];rfl
     .rfl
    .rfl
   |tmp t=>
    simp only[zm];split
    .split
     .split
      .simp only[zry,zno];rfl
      .rfl
     .rfl
    .split
     .rw[z1q];congr 1;split
      .rw[z1q];congr 1;simp only[zry,zno];rfl
      .rfl
     .rfl
    .rfl
   |const v=>simp only[zm];rfl
   |global g=>simp only[zm];rfl
  |builtin b=>
   cases b<;>simp at hf;simp only[zm];rcases hargs:args.toList with _|⟨x,_|⟨y,l⟩⟩
   .rfl
   .simp only;split
    .rw[z1q];rfl
    .split
     .rw[z1q];rfl
     .rw[z1q];rfl
     .rw[z1q];rfl
     .rw[z1q];rfl
     .rfl
    .rw[z1q];rfl
    .rw[z1q];rfl
    .rw[z1q];rfl
    .rfl
   .rfl
  |_=>simp at hf
structure SubS(s s':SS V.T):Prop where
 sl:∀(t:Nat)(x:Ch×SV V.T),lk s.sl t=some x->lk s'.sl t=some x
 kn:s'.kn=s.kn
 ob:∀(i:Nat)(x:SO V.T),s.ob[i]? = some x->x=SO.emp\/s'.ob[i]? = some x
theorem SubS.ev{s s':SS V.T}(h:SubS s s'){o:Operand}{ch:Ch}{x:SV V.T}(hx:evO s.sl ch o=some x):evO s'.sl ch o=some x:=by
 cases o with
 |tmp t=>
  simp only[evO] at hx⊢;cases hl:lk s.sl t with
  |none=>rw[hl] at hx;cases hx
  |some e=>rw[hl] at hx;rw[h.sl t e hl];exact hx
 |const v=>exact hx
 |func f=>exact hx
 |global g=>exact hx
theorem SubS.at{s s':SS V.T}(h:SubS s s'){i:Nat}{x:SO V.T}(hx:s.ob[i]? = some x)(he:x≠SO.emp):s'.ob[i]? = some x:=(h.ob i x hx).resolve_left he
theorem yfo{s s':SS V.T}(h:SubS s s'){g:Bool}{n:Nat}{p v:SV V.T}(hv:ld V s g n p=some v):ld V s' g n p=some v:=by
 cases p<;>simp only[ld] at hv⊢
 case ptr i off=>
  split at hv
  .rename_i ho;rw[h.at ho (by simp)];exact hv
  .cases hv
 case pta i off m z idx cnt fo=>
  split at hv
  .rename_i ho;rw[h.at ho (by simp)];exact hv
  .cases hv
 case rop cs=>exact hv
 case elt i k z fo=>
  split at hv
  .rename_i ho;rw[h.at ho (by simp)];exact hv
  .rename_i ho;rw[h.at ho (by simp)];exact hv
  .cases hv
 all_goals cases hv
theorem zlu{s s':SS V.T}(h:SubS s s'){ch:Ch}{d:Int}{o:Option Operand}{m:Int}(hb:bdX V s.sl ch d o=some m):bdX V s'.sl ch d o=some m:=by
 cases o with
 |none=>exact hb
 |some o=>
  simp only[bdX] at hb⊢;split at hb
  .rename_i k q hq;simp only[h.ev (zy hq),w04,intOf];exact hb
  .cases hb
theorem y8n{s s':SS V.T}(h:SubS s s'){p:SV V.T}{q:Int×Int×Nat}(hq:zlz V s p=some q):zlz V s' p=some q:=by
 unfold zlz at hq⊢;split at hq
 .split at hq
  .rename_i ho;simp only[h.at ho (by simp)];exact hq
  .cases hq
 .cases hq
theorem ycu{s s':SS V.T}(h:SubS s s'){g:Bool}{n:Nat}{p v:SV V.T}(hv:ld V s g n p=some v):zlz V s' p=none:=by
 unfold zlz;split
 .rename_i i m z;simp only[ld] at hv;split at hv
  .rename_i ho;rw[h.at ho (by simp)]
  .rename_i ho;rw[h.at ho (by simp)]
  .cases hv
 .rfl
theorem zyy{g g' :(c:Nat)->List (SV V.T)->Option (V.T c×List (SV V.T))}(hg:∀c l y,g c l=some y->g' c l=some y):∀(fs:List Nat)(l:List (SV V.T))(y:Tup V.T fs×List (SV V.T)),decT g fs l=some y->decT g' fs l=some y
 | [],_,_,h=>h
 |c::cs,l,y,h=>by
  simp only[decT] at h⊢;cases h1:g c l with
  |none=>rw[h1] at h;cases h
  |some p=>
   rw[h1] at h;rw[hg _ _ _ h1];simp only at h⊢;cases h2:decT g cs p.2 with
   |none=>rw[h2] at h;cases h
   |some q=>rw[h2] at h;rw[zyy hg cs _ _ h2];exact h
theorem ya5{rd rd' :(c:Nat)->SV V.T->Option (List (V.T c))}(hr:∀c x l,rd c x=some l->rd' c x=some l){kc vc:Nat}{x:SV V.T}{l:List (V.T kc×V.T vc)}(h:rdMp rd kc vc x=some l):rdMp rd' kc vc x=some l:=by
 unfold rdMp at h⊢;split at h
 .exact h
 .split at h
  .rename_i q hq;rw[hr _ _ _ hq];exact h
  .cases h
 .cases h
theorem y86{rd rd' :(c:Nat)->SV V.T->Option (List (V.T c))}{g g' :(c:Nat)->List (SV V.T)->Option (V.T c×List (SV V.T))}(hr:∀c x l,rd c x=some l->rd' c x=some l)(hg:∀c l y,g c l=some y->g' c l=some y):
  ∀{α:Type}(d:Ds V.T α)(l:List (SV V.T))(y:α×List (SV V.T)),decD rd g d l=some y->decD rd' g' d l=some y:=by
 intro α d l y h;cases d with
 |sl c=>
  cases l with
  |nil=>simp[decD] at h
  |cons x l=>
   simp only[decD] at h⊢;cases h1:rd c x with
   |none=>rw[h1] at h;cases h
   |some m=>rw[h1] at h;rw[hr _ _ _ h1];exact h
 |map kc vc=>
  cases l with
  |nil=>simp[decD] at h
  |cons x l=>
   simp only[decD] at h⊢;cases h1:rdMp rd kc vc x with
   |none=>rw[h1] at h;cases h
   |some m=>rw[h1] at h;rw[ya5 hr h1];exact h
 |st fs mk un law=>
  simp only[decD] at h⊢;cases h1:decT g fs l with
  |none=>rw[h1] at h;cases h
  |some p=>rw[h1] at h;rw[zyy hg _ _ _ h1];exact h
 |int k=>cases l with
  |nil=>simp[decD] at h
  |cons x l=>cases x<;>exact h
 |bool=>cases l with
  |nil=>simp[decD] at h
  |cons x l=>cases x<;>exact h
 |str=>cases l with
  |nil=>simp[decD] at h
  |cons x l=>cases x<;>exact h
 |arr n c=>cases l with
  |nil=>simp[decD] at h
  |cons x l=>cases x<;>exact h
theorem zyx{rd rd' :(c:Nat)->SV V.T->Option (List (V.T c))}(hr:∀c x l,rd c x=some l->rd' c x=some l):∀(n c:Nat)(l:List (SV V.T))(y:V.T c×List (SV V.T)),decN V rd n c l=some y->decN V rd' n c l=some y
 |0,_,_,_,h=>by simp[decN] at h
 |n+1,c,l,y,h=>y86 hr (zyx hr n) (V.d c) l y h
theorem zyw{rd rd' :(c:Nat)->SV V.T->Option (List (V.T c))}(hr:∀c x l,rd c x=some l->rd' c x=some l){c:Nat}{l:List (SV V.T)}{y:V.T c}(h:V.decC rd c l=some y):V.decC rd' c l=some y:=by
 unfold TE.decC at h⊢;cases h1:decN V rd (c+1) c l with
 |none=>rw[h1] at h;cases h
 |some p=>rw[h1] at h;rw[zyx hr _ _ _ _ h1];exact h
theorem ycc{rd rd' :(c:Nat)->SV V.T->Option (List (V.T c))}(hr:∀c x l,rd c x=some l->rd' c x=some l){c:Nat}{x:SV V.T}{y:V.T c}(h:V.dec rd c x=some y):V.dec rd' c x=some y:=by
 unfold TE.dec at h⊢;cases hb :(z5u (V.d c)==z15 x) with
 |false=>rw[hb] at h;cases h
 |true=>rw[hb] at h;exact zyw hr h
theorem SubS.rd{s s':SS V.T}(h:SubS s s')(c:Nat)(x:SV V.T)(l:List (V.T c))(hl:rdSl s.ob c x=some l):rdSl s'.ob c x=some l:=by
 unfold rdSl at hl⊢;split at hl
 .exact hl
 .split at hl
  .rename_i ho;simp only[h.at ho (by simp)];exact hl
  .rename_i ho;simp only[h.at ho (by simp)];exact hl
  .cases hl
 .exact hl
 .cases hl
theorem SubS.rdB{s s':SS V.T}(h:SubS s s')(c:Nat)(x:SV V.T)(l:List (V.T c))(hl:rdB s.ob c x=some l):rdB s'.ob c x=some l:=by
 unfold Px.rdB at hl⊢;split at hl
 .exact hl
 .split at hl
  .rename_i ho;simp only[h.at ho (by simp)];exact hl
  .cases hl
 .exact hl
 .cases hl
theorem SubS.rdQ{s s':SS V.T}(h:SubS s s'){res:List RC}(c:Nat)(x:SV V.T)(l:List (V.T c))(hl:rdQ V s.ob res c x=some l):rdQ V s'.ob res c x=some l:=by
 unfold Px.rdQ at hl⊢;cases h1:res.all (flR V) with
 |true=>rw[h1] at hl;exact h.rd c x l hl
 |false=>
  rw[h1] at hl;cases h2:res.all (sepR V) with
  |true=>rw[h2] at hl;exact h.rdB c x l hl
  |false=>rw[h2] at hl;exact hl
theorem zna{rd rd' :(c:Nat)->SV V.T->Option (List (V.T c))}(hr:∀c x l,rd c x=some l->rd' c x=some l){s s':SS V.T}(h:SubS s s'){ch:Ch}: ∀{cs:List Nat}{os:List Operand}{a:Tup V.T cs},decA V rd s.sl ch cs os=some a->decA V rd' s'.sl ch cs os=some a
 | [],[],_,ha=>ha
 |c::cs,o::os,a,ha=>by
  simp only[decA] at ha⊢;cases h1:evO s.sl ch o with
  |none=>rw[h1] at ha;cases ha
  |some x=>
   rw[h1] at ha;rw[h.ev h1];simp only at ha⊢;cases h2:V.dec rd c x with
   |none=>simp only[h2] at ha;cases ha
   |some y=>
    simp only[h2] at ha;simp only[ycc hr h2];cases h3:decA V rd s.sl ch cs os with
    |none=>rw[h3] at ha;cases ha
    |some b=>rw[h3] at ha;rw[zna hr h h3];exact ha
 | [],_::_,_,ha=>by simp[decA] at ha
 |_::_,[],_,ha=>by simp[decA] at ha
theorem y7u{s s':SS V.T}(h:SubS s s'){c:Nat}{x:SV V.T}{y:V.T c}(hy:capX V s.ob c x=some y):capX V s'.ob c x=some y:=by
 unfold capX at hy⊢;split at hy
 .exact hy
 .split at hy
  .rename_i ho;simp only[h.at ho (by simp)];exact zyw h.rd hy
  .cases hy
 .cases hy
theorem y7s{s s':SS V.T}(h:SubS s s'){kc vc:Nat}{x:SV V.T}{y:List (V.T kc×V.T vc)}(hy:capM V s.ob kc vc x=some y):capM V s'.ob kc vc x=some y:=by
 unfold capM at hy⊢;split at hy
 .exact hy
 .split at hy
  .rename_i ho;simp only[h.at ho (by simp)];split at hy
   .rename_i ho2;simp only[h.at ho2 (by simp)];exact hy
   .cases hy
  .rename_i ho;simp only[h.at ho (by simp)];exact hy
  .cases hy
 .cases hy
theorem zyr{s s':SS V.T}(h:SubS s s'){k:KB}{x:SV V.T}{y:k.T V.T}(hy:capB V s.ob k x=some y):capB V s'.ob k x=some y:=by
 cases k with
 |val c=>exact y7u h hy
 |map kc vc=>exact y7s h hy
theorem znp{s s':SS V.T}(h:SubS s s'):∀{cs:List KB}{l:List (SV V.T)}{b:KBs V.T cs},zhg V s.ob cs l=some b->zhg V s'.ob cs l=some b
 | [],[],_,hb=>hb
 |c::cs,x::l,b,hb=>by
  simp only[zhg] at hb⊢;split at hb
  .rename_i y r h1 h2;rw[zyr h h1,znp h h2];exact hb
  .cases hb
 | [],_::_,_,hb=>by simp[zhg] at hb
 |_::_,[],_,hb=>by simp[zhg] at hb
theorem y7p{s s':SS V.T}(h:SubS s s'){k:KC}{x:SV V.T}{y:k.T V.T}(hy:capC V s.ob k x=some y):capC V s'.ob k x=some y:=by
 cases k with
 |b k=>exact zyr h hy
 |fn f ks=>
  change capF V s.ob f ks x=some y at hy;change capF V s'.ob f ks x=some y;unfold capF at hy⊢;split at hy
  .rename_i g l;cases hb:Nat.beq f g with
   |false=>rw[hb] at hy;cases hy
   |true=>rw[hb] at hy;exact znp h hy
  .split at hy
   .rename_i g l ho;simp only[h.at ho (by simp)];cases hb:Nat.beq f g with
    |false=>rw[hb] at hy;cases hy
    |true=>rw[hb] at hy;exact znp h hy
   .cases hy
  .cases hy
theorem zua{s s':SS V.T}(h:SubS s s'):∀{cs:List KC}{l:List (SV V.T)}{b:KCs V.T cs},zft V s.ob cs l=some b->zft V s'.ob cs l=some b
 | [],[],_,hb=>hb
 |c::cs,x::l,b,hb=>by
  simp only[zft] at hb⊢;split at hb
  .rename_i y r h1 h2;rw[y7p h h1,zua h h2];exact hb
  .cases hb
 | [],_::_,_,hb=>by simp[zft] at hb
 |_::_,[],_,hb=>by simp[zft] at hb
theorem SubS.storable{s s':SS V.T}(h:SubS s s'){x:SV V.T}(hx:storable V s.ob x=true):storable V s'.ob x=true:=by
 unfold Px.storable at hx⊢;simp only[w1h] at hx⊢;refine hx.imp id λhx=>?_
 cases x<;>simp only[oneS] at hx⊢<;>first|exact hx|skip
 split at hx
 .rename_i ho;simp only[h.at ho (by simp)]
 .rename_i ho;simp only[h.at ho (by simp)]
 .cases hx
theorem zt2{s s':SS V.T}(h:SubS s s'){P:Program}{t:TypeId}{ch:Ch}: ∀{ps:List (Nat×Operand)}{cs v:List (SV V.T)},layX V P t s.ob s.sl ch cs ps=some v->layX V P t s'.ob s'.sl ch cs ps=some v
 | [],_,_,hv=>hv
 |(i,o)::ps,cs,v,hv=>by
  simp only[layX] at hv⊢;split at hv
  .rename_i off n x h1 h2;simp only[h.ev h2];cases hb :(Nat.beq n (clen V (cellsOf x))&&storable V s.ob x) with
   |false=>rw[hb] at hv;cases hv
   |true=>
    rw[hb] at hv;simp only[w03] at hb;simp only[cond_true] at hv;simp only[h1,hb.1,h.storable hb.2,w3t,cond_true];split at hv
    .exact zt2 h hv
    .cases hv
  .cases hv
theorem ybr{s s':SS V.T}(hss:SubS s s'){op:BinOp}{t:TypeId}{y:Operand}{a b:SV V.T}{k:SV V.T->Option R}(h:binX V N s [] op t y a b k=some r):binX V N s' [] op t y a b k=some r:=by
 unfold binX at h⊢;split at h
 .cases hs:zsu op with
  |true=>rw[hs] at h;simp only[cond_true] at h⊢;unfold shift at h⊢;exact h
  |false=>
   rw[hs] at h;simp only[cond_false] at h⊢;split at h
   .rename_i e;rw[if_pos e];unfold zwo at h⊢;exact h
   .cases h
 .exact h
 .exact h
 .split at h
  .rename_i hu ho;simp only[hu,hss.at ho (by simp)];exact h
  .cases h
 .exact h
 .exact h
 .exact h
 .exact h
theorem zsq{s s':SS V.T}(h:SubS s s'){o:Op}(hf:zv3 o=true){ty:TypeId}{k:SV V.T->Option R}(hr:zm V N s [] o ty k=some r):zm V N s' [] o ty k=some r:=by
 have hk:=h.kn;cases o<;>simp[zv3] at hf
 case move x=>
  simp only[zm] at hr⊢;rw[hk];split at hr
  .rename_i v hv;rw[h.ev hv];exact hr
  .cases hr
 case assign x=>
  simp only[zm] at hr⊢;rw[hk];split at hr
  .rename_i v hv;rw[h.ev hv];exact hr
  .cases hr
 case nilCheck x=>
  simp only[zm] at hr⊢;rw[hk];split at hr
  .rename_i i o hv;rw[h.ev hv];exact hr
  .cases hr
 case fieldAddr t x f=>
  simp only[zm] at hr⊢;rw[hk];split at hr
  .rename_i hof hv;simp only[hof,h.ev hv];exact hr
  .rename_i hof hv;simp only[hof,h.ev hv];exact hr
  .rename_i hof hv;simp only[hof,h.ev hv];exact hr
  .rename_i hof hv;simp only[hof,h.ev hv];exact hr
  .cases hr
 case load t x=>
  simp only[zm] at hr⊢;rw[hk];split at hr
  .rename_i g n p ht hv;simp only[ht,h.ev hv];split at hr
   .rename_i hh;simp only[y8n h hh];exact hr
   .split at hr
    .rename_i v hl;simp only[ycu h hl,yfo h hl];exact hr
    .cases hr
  .cases hr
 case slice t x lo hi mx=>
  cases mx with
  |some o=>cases hr
  |none=>
   simp only[zm] at hr⊢;rw[hk];split at hr
   .rename_i ht hx;simp only[ht,h.ev hx];split at hr
    .rename_i hm hn;simp only[zlu h hm,zlu h hn];exact hr
    .cases hr
   .rename_i ht hx;simp only[ht,h.ev hx];split at hr
    .rename_i ho;simp only[h.at ho (by simp)];split at hr
     .rename_i hm hn;simp only[zlu h hm,zlu h hn];exact hr
     .cases hr
    .cases hr
   .rename_i ht hx;simp only[ht,h.ev hx];split at hr
    .rename_i hm hn;simp only[zlu h hm,zlu h hn];exact hr
    .cases hr
   .rename_i ht hx;simp only[ht,h.ev hx];exact hr
   .rename_i ht hx;simp only[ht,h.ev hx];split at hr
    .rename_i hu
     try simp only[hu]
     split at hr
     .rename_i hm hn;simp only[zlu h hm,zlu h hn];exact hr
     .cases hr
    .cases hr
   .cases hr
 case indexAddr t x i=>
  simp only[zm] at hr⊢;rw[hk];split at hr
  .rename_i ht hx hi;have hi':=zy hi;simp only[ht,h.ev hx,h.ev hi',w04,intOf];exact hr
  .rename_i ht hx hi;have hi':=zy hi;simp only[ht,h.ev hx,h.ev hi',w04,intOf];split at hr
   .rename_i ho;simp only[h.at ho (by simp)];exact hr
   .rename_i ho;simp only[h.at ho (by simp)];exact hr
   .rename_i ho;simp only[h.at ho (by simp)];exact hr
   .cases hr
  .rename_i ht hx hi;have hi':=zy hi;simp only[ht,h.ev hx,h.ev hi',w04,intOf];split at hr
   .rename_i ho;simp only[h.at ho (by simp)];exact hr
   .cases hr
  .rename_i ht hx hi;have hi':=zy hi;simp only[ht,h.ev hx,h.ev hi',w04,intOf];exact hr
  .rename_i ht hx hi;have hi':=zy hi;simp only[ht,h.ev hx,h.ev hi',w04,intOf];exact hr
  .cases hr
 case build t parts=>
  simp only[zm] at hr⊢;rw[hk];split at hr
  .rename_i zs hz;cases hb :(zf9 V (V.zero (V.code t)) zs&&zma N.P t) with
   |true=>
    rw[hb] at hr;simp only[cond_true] at hr⊢;split at hr
    .rename_i v hv;simp only[zt2 h hv];exact hr
    .cases hr
   |false=>
    rw[hb] at hr;simp only[cond_false] at hr⊢;cases hb2 :(zs.all (·.oneCell')&&zma N.P t) with
    |false=>rw[hb2] at hr;cases hr
    |true=>
     rw[hb2] at hr;simp only[cond_true] at hr⊢;split at hr
     .rename_i v hv;simp only[zt2 h hv];exact hr
     .cases hr
  .cases hr
 case binOp op t x y c=>
  simp only[zm] at hr⊢;rw[hk];split at hr
  .rename_i hx hy;simp only[h.ev hx,h.ev hy];exact ybr h hr
  .cases hr
 case unOp op t x=>
  cases op with
  |neg=>
   simp only[zm] at hr⊢;rw[hk];split at hr
   .rename_i i m hb;have hb':=zy hb;simp only[h.ev hb',w04,intOf];exact hr
   .cases hr
  |xor=>
   simp only[zm] at hr⊢;rw[hk];split at hr
   .rename_i i m hb;have hb':=zy hb;simp only[h.ev hb',w04,intOf];exact hr
   .cases hr
  |not=>
   simp only[zm] at hr⊢;rw[hk];split at hr
   .rename_i b hb;have hb':=zar hb;simp only[h.ev hb',w04,zii];exact hr
   .cases hr
  |plus=>simp[zm] at hr
 case convert a b x=>
  simp only[zm] at hr⊢;rw[hk];split at hr
  .rename_i i j m hu hb;have hb':=zy hb;simp only[hu,h.ev hb',w04,intOf];exact hr
  .rename_i E q hu;split at hr
   .rename_i b he hs hx;simp only[hu,he,hs,h.ev hx];exact hr
   .cases hr
  .cases hr
 case extract x i=>
  simp only[zm] at hr⊢;rw[hk];split at hr
  .rename_i l hx;simp only[h.ev hx];exact hr
  .cases hr
 case call c=>
  obtain⟨callee,args,ts⟩:=c;cases callee with
  |value fo=>
   cases fo with
   |func f=>
    simp only[zm] at hr⊢;rw[hk];split at hr
    .rename_i sp hsp;cases h1:sp.res.any zer with
     |true=>rw[h1] at hr;cases hr
     |false=>
      rw[h1] at hr;simp only[cond_false] at hr⊢;split at hr
      .rename_i a ha;have:decA V (Px.rdQ V s'.ob sp.res) s'.sl ([]++s.kn) sp.args args.toList=some a:=zna h.rdQ h ha;simp only[this];exact hr
      .cases hr
    .cases hr
   |tmp t=>
    simp only[zm] at hr⊢;rw[hk];split at hr
    .rename_i c f hf;simp only[h.ev hf];split at hr
     .rename_i x y _;split at hr
      .rename_i a b ha hb;cases hx:evO s.sl ([]++s.kn) x with
       |none=>rw[hx] at ha;cases ha
       |some vx=>
        cases hy:evO s.sl ([]++s.kn) y with
        |none=>rw[hy] at hb;cases hb
        |some vy=>rw[hx] at ha;rw[hy] at hb;simp only[h.ev hx,h.ev hy,ha,hb];exact hr
      .cases hr
     .cases hr
    .rename_i f caps hf;simp only[h.ev hf];split at hr
     .rename_i sp hsp;cases h1:sp.res.any zer with
      |true=>rw[h1] at hr;cases hr
      |false=>
       rw[h1] at hr;simp only[cond_false] at hr⊢;split at hr
       .rename_i a b ha hb;cases h2:sp.res.all (flR V) with
        |true=>rw[h2] at ha hb;simp only[cond_true] at ha hb;simp only[cond_true,zna h.rd h ha,zua h hb];exact hr
        |false=>rw[h2] at ha hb;simp only[cond_false] at ha hb;simp only[cond_false,zna (λ_ _ _ h=>h) h ha,hb];exact hr
       .cases hr
     .cases hr
    .cases hr
   |const v=>simp[zm] at hr
   |global g=>simp[zm] at hr
  |builtin b=>
   cases b<;>simp at hf;simp only[zm] at hr⊢;rw[hk];rcases hargs:args.toList with _|⟨x,_|⟨y,l⟩⟩
   .simp only[hargs] at hr;cases hr
   .simp only[hargs] at hr⊢;split at hr
    .rename_i hx;simp only[h.ev hx];exact hr
    .rename_i hx;simp only[h.ev hx];split at hr
     .rename_i ho;simp only[h.at ho (by simp)];exact hr
     .rename_i ho;simp only[h.at ho (by simp)];exact hr
     .rename_i ho;simp only[h.at ho (by simp)];exact hr
     .rename_i ho;simp only[h.at ho (by simp)];exact hr
     .cases hr
    .rename_i hx;simp only[h.ev hx];exact hr
    .rename_i hx;simp only[h.ev hx];exact hr
    .rename_i hx;simp only[h.ev hx];exact hr
    .cases hr
   .simp only[hargs] at hr;cases hr
  |_=>simp at hf
end free
end Px
end
section
namespace Px
open Go Go.RowKit
section
variable{V:TE}{N:Env V}{R:Type}{r:R}
theorem zae{f:Nat->Bool}{bs:Sls V.T}{es:List (DE V.T)}{t:Nat}{x:Ch×SV V.T}(h:lk (drSl V f bs es) t=some x):(∃e∈es,f e.1=true/\e.2 =(t,x))\/lk bs t=some x:=by
 unfold drSl at h;rw[zrb] at h;cases hl:lk ((es.filter λe=>f e.1).map (·.2)) t with
 |none=>rw[hl] at h;exact .inr h
 |some y=>rw[hl] at h;simp only[w00] at h;subst h;obtain⟨e,he,h2⟩:=w0a.1 (zgh hl);obtain⟨h3,h4⟩:=w0i.1 he;exact .inl ⟨e,h3,h4,h2⟩
theorem z9c{α:Type}: ∀{l:List (Nat×α)}{t:Nat}{x:α},(t,x)∈l->∃y,lk l t=some y
 |(k,y)::l,t,x,h=>by
  rw[z07];by_cases e:t=k
  .exact⟨y,by rw[if_pos e]⟩
  .rw[if_neg e];rcases w08.1 h with h|h
   .cases h;exact absurd rfl e
   .exact z9c h
theorem zsa{tab:Tab}{gb:List (Nat×Bool)}{bs:Sls V.T}{new es:List (DE V.T)}(h:EsOK tab gb bs (new++es))(f:Nat->Bool){t:Nat}{x:Ch×SV V.T}(hx:lk (drSl V f bs es) t=some x):lk (drSl V f bs (new++es)) t=some x:=by
 have hs:∃y,lk (drSl V f bs (new++es)) t=some y:=by
  rcases zae hx with⟨e,he,hf,h2⟩|hb
  .refine z9c (x:=x) ?_;unfold drSl;refine w1k _ (w0a.2 ⟨e,w0i.2 ⟨w1n _ he,hf⟩,h2⟩)
  .unfold drSl;rw[zrb];cases lk (((new++es).filter λe=>f e.1).map (·.2)) t with
   |some y=>exact⟨y,rfl⟩
   |none=>exact⟨x,hb⟩
 obtain⟨y,hy⟩:=hs;rw[hy];rcases zae hx with⟨e,he,hf,h2⟩|hb
 .rcases zae hy with⟨e',he',hf',h2'⟩|hb'
  .have:=h.inj e (w1n _ he) e' he' (by rw[h2,h2'])
   subst this;rw[h2] at h2';cases h2';rfl
  .rcases h.bs e (w1n _ he) with this|⟨this,_⟩
   .rw[h2] at this;change lk bs t=none at this;rw[this] at hb';cases hb'
   .rw[h2] at this;change lk bs t=some x at this;rw[<- hb',this]
 .rcases zae hy with⟨e',he',hf',h2'⟩|hb'
  .rcases h.bs e' he' with this|⟨this,_⟩
   .rw[h2'] at this;change lk bs t=none at this;rw[this] at hb;cases hb
   .rw[h2'] at this;change lk bs t=some y at this;rw[<- this,hb]
  .rw[<- hb,hb']
def Cls(ops:List Oper)(clo:List Nat)(n0:Nat)(later:List Nat)(q:Nat)(obm:List (SO V.T)):Prop:=∀l∈later,bitB (clo.getD l 0) q=false->∀(i:Nat)(x:SO V.T),obm[i]? = some x->x=SO.emp\/zv8 ops n0 l i (zf6 x)=true
def zfa(N:Env V)(ops:Array Oper)(clo:List Nat)(n0:Nat)(later:List Nat)(bs:Sls V.T)(es:List (DE V.T))(s:SS V.T)(e:DE V.T):Prop:=
 ∃(o:Oper)(obm:List (SO V.T)),ops[e.1]? = some o/\o.guard=none/\zv3 o.op=true/\e.2.2.1 = []/\(∀(i:Nat)(x:SO V.T),obm[i]? = some x->x=SO.emp\/s.ob[i]? = some x)/\Cls ops.toList clo n0 later e.1 obm/\
  zm V N { s with sl:=drSl V (memB (z0b o)) bs es,ob:=obm } [] o.op o.type some=some e.2.2.2
theorem y3u[Dr](hN:z4t V N){C:Cx N.P}{A:Asg}{ops:Array Oper}{clo:List Nat}{n0:Nat}{later:List Nat}{bs:Sls V.T}{es:List (DE V.T)}{s:SS V.T}{e:DE V.T}(h:zfa N ops clo n0 later bs es s e)(hes:EsOK (zr ops) s.gb bs es)
  (hgb:GbOK (⟨bs,s.gb,s.kn,s.n⟩:Fm V.T)) (hkn:chP s.gb s.kn) (h1:OneA V A s.ob) :
  ∃o,ops[e.1]? = some o/\GQ C (zr ops) o ⟨z18 (zr ops) (memB (Tab.deps (zr ops) e.1)) (slD V N.P A s.gb bs) (qrOf N.P A s.gb es),obD V N.P A A s.ob⟩ (denE V N.P A s.gb e.2.2):=by
 obtain⟨o,obm,ho,hg,hf,hch,hob,hcls,hq⟩:=h;refine⟨o,ho,?_⟩;have h2:=zsq (s:={ s with sl:=drSl V (memB (z0b o)) bs es,ob:=obm }) (s':={ s with sl:=drSl V (memB (z0b o)) bs es }) ⟨λ_ _ h=>h,rfl,hob⟩ hf hq;obtain⟨v,hv,hQ⟩:=zeu (C:=C) (A:=A) (s:={ s with sl:=drSl V (memB (z0b o)) bs es }) hN hkn (hes.gb hgb _) h1 h2;cases hv;rw[zhe ho,z3x _ hes.dst];obtain⟨dst,op,ty,pos,aft,guard⟩:=o;simp only at hg;subst hg;have:=hQ trivial dst pos aft none;unfold GQ denE;rw[hch];exact this
theorem zfa.more{ops:Array Oper}{clo:List Nat}{n0:Nat}{later:List Nat}{bs:Sls V.T}{new es:List (DE V.T)}{s s':SS V.T}{e:DE V.T}(h:zfa N ops clo n0 later bs es s e){gb:List (Nat×Bool)}(hes:EsOK (zr ops) gb bs (new++es))(hk:s'.kn=s.kn)(ho:s'.ob=s.ob):
  zfa N ops clo n0 later bs (new++es) s' e:=by
 obtain⟨o,obm,h1,h2,h3,h4,h5,h6,h7⟩:=h;refine⟨o,obm,h1,h2,h3,h4,by rw[ho];exact h5,h6,zsq (s:={ s with sl:=drSl V (memB (z0b o)) bs es,ob:=obm }) (s':={ s' with sl:=drSl V (memB (z0b o)) bs (new++es),ob:=obm }) ⟨λt x hx=>zsa hes _ hx,hk,λi x hx=>.inr hx⟩ h3 h7⟩
theorem ztg{ops:List Oper}{n0:Nat}{ls:List Nat}: ∀(ob:List (SO V.T))(i0 i:Nat)(x:SO V.T),(y1r V ops n0 ls i0 ob)[i]? = some x->x=SO.emp\/(ob[i]? = some x/\∀l∈ls,zv8 ops n0 l (i0+i) (zf6 x)=true)
 | [],i0,i,x,h=>by simp[y1r] at h
 |y::ob,i0,0,x,h=>by
  simp only[y1r,w1z,w00] at h;cases hb :(ls.all λl=>zv8 ops n0 l i0 (zf6 y)) with
  |true=>rw[hb] at h;simp only[cond_true] at h;subst h;exact .inr ⟨rfl,λl hl=>w0g.1 hb l hl⟩
  |false=>rw[hb] at h;exact .inl h.symm
 |y::ob,i0,i+1,x,h=>by
  simp only[y1r,w20] at h⊢;have:=ztg ob (i0+1) i x h
  rwa [Nat.add_right_comm,w2k] at this
theorem yei{clo:List Nat}{ops:Array Oper}{n0 q:Nat}{o:Oper}{later:List Nat}{ob obm:List (SO V.T)}(h:seen V clo ops.toList n0 q o later ob=some obm):
  (obm=ob/\∀l∈later,bitB (clo.getD l 0) q=true)\/(o.guard=none/\zv3 o.op=true/\(∀(i:Nat)(x:SO V.T),obm[i]? = some x->x=SO.emp\/ob[i]? = some x)/\Cls ops.toList clo n0 later q obm):=by
 unfold seen at h;split at h
 .rename_i hl;simp only[w00] at h;refine .inl ⟨h.symm,λl hlm=>?_⟩;cases hb:bitB (clo.getD l 0) q with
  |true=>rfl
  |false=>
   have:l∈later.filter λl=>!bitB (clo.getD l 0) q:=w0i.2 ⟨hlm,by rw[hb];rfl⟩
   rw[hl] at this;cases this
 .cases hb :(zv3 o.op&&o.guard.isNone) with
  |false=>rw[hb] at h;cases h
  |true=>
   rw[hb] at h;simp only[w03,w2z] at hb;simp only[cond_true,w00] at h;subst h;refine .inr ⟨hb.2,hb.1,λi x hx=>(ztg ob 0 i x hx).imp id (·.1),λl hl hbl i x hx=>?_⟩;refine(ztg ob 0 i x hx).imp id λq=>?_
   have:=q.2 l (w0i.2 ⟨hl,by rw[hbl];rfl⟩)
   rwa [w1c] at this
theorem yaa{T:Nat->Type}{x y:SV T}(h:ya9 x y=true):x=y:=by
 cases x<;>cases y<;>first
  |(simp only[ya9,w03] at h;obtain⟨h1,h2⟩:=h;rw[w01 h1,w01 h2])
  |(simp only[ya9] at h;rw[w01 h])
  |cases h
theorem y09{T:Nat->Type}: ∀{l m:List (SV T)},yab l m=true->l=m
 | [],[],_=>rfl
 | [],_::_,h=>by cases h
 |_::_,[],h=>by cases h
 |x::l,y::m,h=>by simp only[yab,w03] at h;rw[yaa h.1,y09 h.2]
theorem yba{T:Nat->Type}{x:Option (Ch×SV T)}{v:SV T}(h:okB x v=true):x=none\/(x=some ([],v)/\y8u v=true):=by
 cases x with
 |none=>exact .inl rfl
 |some e=>
  obtain⟨ch,w⟩:=e;cases ch with
  |cons p l=>cases h
  |nil=>
   change yef v w=true at h;cases v with
   |func f l=>
    cases w with
    |func g m=>simp only[yef,w03] at h;have:=w01 h.1;subst this;rw[y09 h.2];exact .inr ⟨rfl,rfl⟩
    |_=>cases h
   |_=>cases h
theorem y6f[Dr](hN:z4t V N){C:Cx N.P}{A:Asg}{ops:Array Oper}{clo:List Nat}{n0:Nat}{later:List Nat}{bs:Sls V.T}{k:SS V.T->List (DE V.T)->Option R}: ∀(is:List Nat)(s:SS V.T)(es:List (DE V.T)),segX V N ops clo n0 later bs is s es k=some r->
  EsOK (zr ops) s.gb bs es->GbOK (⟨bs,s.gb,s.kn,s.n⟩:Fm V.T)->chP s.gb s.kn->OneA V A s.ob->
  ∃(gb':List (Nat×Bool))(new:List (DE V.T)),GbX s.gb gb'/\k { s with gb:=gb' } (new++es)=some r/\EsOK (zr ops) gb' bs (new++es)/\GbOK (⟨bs,gb',s.kn,s.n⟩:Fm V.T)/\
   ∀e∈new,(∃o,ops[e.1]? = some o/\GQ C (zr ops) o ⟨z18 (zr ops) (memB (Tab.deps (zr ops) e.1)) (slD V N.P A gb' bs) (qrOf N.P A gb' (new++es)),obD V N.P A A s.ob⟩ (denE V N.P A gb' e.2.2))/\
    ((∃l∈later,bitB (clo.getD l 0) e.1=false)->zfa N ops clo n0 later bs (new++es) { s with gb:=gb' } e)
 | [],s,es,h,hes,hgb,hkn,h1=>⟨s.gb,[],GbX.refl _,h,hes,hgb,λe he=>absurd he w10⟩
 |i::is,s,es,h,hes,hgb,hkn,h1=>by
  simp only[segX] at h;cases ho:ops[i]? with
  |none=>rw[ho] at h;cases h
  |some o=>
  rw[ho] at h;simp only at h;split at h
  .rename_i d obm hd hseen;split at h
   .rename_i hg0;cases hany :(es.any λe=>Nat.beq e.2.1 d) with
    |true=>rw[hany] at h;cases h
    |false=>
     rw[hany] at h;simp only[cond_false] at h;have hdt:Tab.dst (zr ops) i=some d:=by rw[zia ho,hd]
     have hRt:=hes.gb hgb (memB (z0b o));have hseen':=yei hseen
     -- what the rest shows
     have fin:∀(g1:List (Nat×Bool))(ch:Ch)(v:SV V.T),GbX s.gb g1->EsOK (zr ops) g1 bs es->GbOK (⟨bs,g1,s.kn,s.n⟩:Fm V.T)->lk g1 d=none->(lk bs d=none\/(lk bs d=some (ch,v)/\y8u v=true))->(∀p∈ch,(lk g1 p.1).isSome=true)->
       segX V N ops clo n0 later bs is { s with gb:=g1 } ((i,d,ch,v)::es) k=some r->
       (∀gb' st,GbX g1 gb'->st =(⟨slD V N.P A g1 (drSl V (memB (z0b o)) bs es),obD V N.P A A s.ob⟩:St)->GQ C (zr ops) o st (denE V N.P A gb' (ch,v)))->
       ((∃l∈later,bitB (clo.getD l 0) i=false)->zfa N ops clo n0 later bs es s (i,d,ch,v))->
       ∃(gb':List (Nat×Bool))(new:List (DE V.T)),GbX s.gb gb'/\k { s with gb:=gb' } (new++es)=some r/\EsOK (zr ops) gb' bs (new++es)/\GbOK (⟨bs,gb',s.kn,s.n⟩:Fm V.T)/\
        ∀e∈new,(∃o,ops[e.1]? = some o/\GQ C (zr ops) o ⟨z18 (zr ops) (memB (Tab.deps (zr ops) e.1)) (slD V N.P A gb' bs) (qrOf N.P A gb' (new++es)),obD V N.P A A s.ob⟩ (denE V N.P A gb' e.2.2))/\
         ((∃l∈later,bitB (clo.getD l 0) e.1=false)->zfa N ops clo n0 later bs (new++es) { s with gb:=gb' } e):=by
      intro g1 ch v hX hes1 hgb1 hgd hb0 hch hr hq hfr;obtain⟨gb',new,x1,x2,x3,x4,x5⟩:=y6f hN (C:=C) (A:=A) is { s with gb:=g1 } _ hr (hes1.put (v:=v) hdt hgd hb0 hany hch) hgb1 ((hX.chP hgb.kn) ▸ hkn) h1;have eapp :(new++[(i,d,ch,v)])++es=new++(i,d,ch,v)::es:=by simp
      refine⟨gb',new++[(i,d,ch,v)],hX.trans x1,by rw[eapp];exact x2,by rw[eapp];exact x3,x4,λe he=>?_⟩;rw[eapp];rcases w0m.1 he with he|he
      .exact x5 e he
      .simp only[w0v] at he;subst he;have hR1:=hes1.gb hgb1 (memB (z0b o));have x3':=x3;rw[<- eapp] at x3';refine⟨⟨o,ho,?_⟩,λhl=>?_⟩
       .have h6:=hq gb' _ x1 rfl;rw[zw0 x1 hR1] at h6;rw[zhe ho,z3x _ x3.dst];refine GQ.slots (s:=⟨slD V N.P A gb' (drSl V (memB (z0b o)) bs es),obD V N.P A A s.ob⟩) rfl (λt X hX'=>?_) h6;simp only[slD] at hX'⊢;cases hl:lk (drSl V (memB (z0b o)) bs es) t with
        |none=>rw[hl] at hX';cases hX'
        |some y=>rw[hl] at hX';have:=zsa x3' (memB (z0b o)) hl;rw[eapp] at this;rw[this];exact hX'
       .have:=(hfr hl).more (s':={ s with gb:=gb' }) x3' rfl rfl
        rw[eapp] at this;exact this
     split at h
     .rename_i hg;rcases hseen' with⟨rfl,hno⟩|⟨_,hf,hsub,hcls⟩
      .obtain⟨v,hv,hq⟩:=zeu (C:=C) (A:=A) (s:={ s with sl:=drSl V (memB (z0b o)) bs es }) hN hkn hRt h1 h;cases hok:okB (lk bs d) v with
       |false=>rw[hok] at hv;cases hv
       |true=>
       rw[hok] at hv;simp only[cond_true] at hv;refine fin s.gb [] v (GbX.refl _) hes hgb hg0 (yba hok) (λp hp=>by cases hp) hv (λgb' st _ hst=>?_) (λ⟨l,hl,hb⟩=>by rw[hno l hl] at hb;cases hb);subst hst;obtain⟨dst,op,ty,pos,aft,guard⟩:=o;simp only at hg;subst hg;exact hq trivial dst pos aft none
      .rw[y3t hf] at h;obtain⟨v,hv0,hv⟩:=bind_some h;cases hok:okB (lk bs d) v with
       |false=>rw[hok] at hv;cases hv
       |true=>
       rw[hok] at hv;simp only[cond_true] at hv;have hF:zfa N ops clo n0 later bs es s (i,d,[],v):=⟨o,obm,ho,hg,hf,rfl,hsub,hcls,hv0⟩;obtain⟨o',ho',hq⟩:=y3u hN (C:=C) (A:=A) hF hes hgb hkn h1;rw[ho] at ho';cases ho';refine fin s.gb [] v (GbX.refl _) hes hgb hg0 (yba hok) (λp hp=>by cases hp) hv (λgb' st _ hst=>?_) (λ_=>hF);subst hst;rw[zhe ho,z3x _ hes.dst] at hq;exact hq
     .rename_i g hg;cases hbs :(lk bs d).isSome with
      |true=>rw[hbs] at h;cases h
      |false=>
      rw[hbs] at h;simp only[cond_false] at h;have hb0:lk bs d=none:=by simpa using hbs
      rcases hseen' with⟨rfl,hno⟩|⟨hgn,_⟩
      rotate_left
      .rw[hg] at hgn;cases hgn
      split at h
      .rename_i ch s' hgo;unfold zgb at hgo;split at hgo
       .rename_i t ht;have htj:Tab.dst (zr ops) g.1=some t:=by
         cases ho':ops[g.1]? with
         |none=>simp[ho'] at ht
         |some o'=>rw[zia ho'];simpa[ho'] using ht
        split at hgo
        .cases hgo
        .rename_i chj b hl;have hcase:∃g1,s' = { s with gb:=g1,sl:=drSl V (memB (z0b o)) bs es }/\ch =(t,g.2)::chj/\GbX s.gb g1/\EsOK (zr ops) g1 bs es/\GbOK (⟨bs,g1,s.kn,s.n⟩:Fm V.T)/\lk g1 t=some b/\(∀u,u≠t->lk g1 u=lk s.gb u):=by
          split at hgo
          .rename_i g' hg';simp only[w00,w0f] at hgo;obtain⟨rfl,rfl⟩:=hgo;have e:=hRt.val t g' hg' chj _ hl;simp only[SV.bool.injEq] at e;subst e;exact⟨s.gb,rfl,rfl,GbX.refl _,hes,hgb,hg',λ_ _=>rfl⟩
          .rename_i hg';simp only[w00,w0f] at hgo;obtain⟨rfl,rfl⟩:=hgo;obtain⟨m1,m2,m3⟩:=hes.more hgb hl hg';exact⟨_,rfl,rfl,m3,m1,m2,by simp[z07],λu hu=>by rw[z07,if_neg hu]⟩
         obtain⟨g1,rfl,rfl,hX,hes1,hgb1,hgt,hoth⟩:=hcase;have hR1:=hes1.gb hgb1 (memB (z0b o));obtain⟨v,hv,hq⟩:=zeu (C:=C) (A:=A) (s:={ s with gb:=g1,sl:=drSl V (memB (z0b o)) bs es }) hN ((hX.chP hgb.kn) ▸ hkn) hR1 h1 h;have hchj:∀p∈chj,(lk g1 p.1).isSome=true:=hR1.ch t chj _ hl;have hch:∀p∈(t,g.2)::chj,(lk g1 p.1).isSome=true:=λp hp=>by
          rcases w08.1 hp with rfl|hp
          .simp[hgt]
          .exact hchj p hp
         have hg1d:lk g1 d=none:=by
          cases e1:lk g1 d with
          |none=>rfl
          |some b'=>
           exfalso;by_cases e2:d=t
           .subst e2;rcases zkh hl with⟨e,he,h2⟩|hl'
            .have :(es.any λe=>Nat.beq e.2.1 d)=true:=w2h.2 ⟨e,he,by rw[h2];exact w2j d⟩;rw[hany] at this;cases this
            .rw[hb0] at hl';cases hl'
           .rw[hoth d e2,hg0] at e1;cases e1
         refine fin g1 _ v hX hes1 hgb1 hg1d (.inl hb0) hch hv (λgb' st hX' hst=>?_) (λ⟨l,hl,hb⟩=>by rw[hno l hl] at hb;cases hb);subst hst;obtain⟨dst,op,ty,pos,aft,guard⟩:=o;simp only at hg;subst hg;refine⟨chP gb' ((t,g.2)::chj),v.den V N.P A,t,htj,rfl,λhp=>hq ((hX'.chP hch) ▸ hp) dst pos aft _,?_⟩;have hsl:slD V N.P A g1 (drSl V (memB (z0b ⟨dst,op,ty,pos,aft,some g⟩)) bs es) t=some (denE V N.P A g1 (chj,.bool b)):=by simp only[slD,hl,w0u]
         have hgt':=hX' t b hgt;cases chj with
         |nil=>refine .inl ⟨b,hsl,?_⟩;simp[chP,hgt']
         |cons c0 cl=>refine .inr ⟨chP g1 (c0::cl),b,hsl,?_⟩;rw[hX'.chP hchj];simp[chP,hgt']
        .cases hgo
       .cases hgo
      .cases h
   .cases h
  .cases h
end
end Px
end
section
namespace Px
open Go Go.RowKit
section
variable{V:TE}{N:Env V}{R:Type}{r:R}
def Chg(o:Op)(fs es:Bool)(n0:Nat)(ob ob':List (SO V.T)):Prop:=∀(i:Nat)(x:SO V.T),ob[i]? = some x->(zqk o||zby o||(appO o&&zf6 x)||(fs&&Nat.blt i n0)||(es&&zf6 x))=true->ob'[i]? = some x
theorem zfu(o:Op)(fs es:Bool)(n0:Nat)(ob us:List (SO V.T)):Chg o fs es n0 ob (ob++us):=λi x hx _=>by rw[w0n (w02.1 hx).1];exact hx
open Classical in
theorem y4p{s:SS V.T}{o:Op}{fs es:Bool}{n0:Nat}{ty:TypeId}{k:SV V.T->SS V.T->Option R}(hst:fs=true->∃t p v i off,o = .store t p v/\evO s.sl s.kn p=some (.ptr i off)/\n0<=i)(hel:es=true->∃t p v i j z fo,o = .store t p v/\evO s.sl s.kn p=some (.elt i j z fo))(h:z3i V N s o ty k=some r):z3i V N s o ty (λv s'=>if Chg o fs es n0 s.ob s'.ob then k v s' else none)=some r:=by
 by_cases hld:zqk o=true
 .have hs:Chg (V:=V) o fs es n0 s.ob s.ob:=λi x h _=>h
  cases o<;>simp[zqk] at hld
  case load t x=>simp only[z3i] at h⊢;simp only[if_pos hs];exact h
  case call c=>
   have hb:c.callee = .builtin .len:=by
    split at hld
    .assumption
    .cases hld
   simp only[z3i,hb] at h⊢;simp only[if_pos hs];exact h
 by_cases ha:appO o=true
 .have hfs:fs=false:=by
   cases hf:fs with
   |false=>rfl
   |true=>obtain⟨t,p,v,i,off,rfl,_⟩:=hst hf;simp[appO,zby] at ha
  have hes:es=false:=by
   cases hf:es with
   |false=>rfl
   |true=>obtain⟨t,p,v,i,j,z,fo,rfl,_⟩:=hel hf;simp[appO,zby] at ha
  subst hfs;subst hes;cases o<;>simp[appO,zby] at ha
  case box t x=>simp only[z3i] at h⊢;split at h<;>first |(simp only[if_pos (zfu _ _ _ _ _ _)];exact h)|cases h
  case alloc t=>
   simp only[z3i] at h⊢;split at h
   .simp only[if_pos (zfu _ _ _ _ _ _)];exact h
   .cases h
  case buildSlice t n parts=>
   simp only[z3i] at h⊢;split at h
   .split at h<;>first |(simp only[if_pos (zfu _ _ _ _ _ _)];exact h)|cases h
   .cases h
  case makeSlice t x y=>
   simp only[z3i] at h⊢;split at h
   .split at h
    .simp only[if_pos (zfu _ _ _ _ _ _)];exact h
    .cases h
   .cases h
  case makeMap t hint=>
   cases hint with
   |some o=>simp[z3i,zm] at h
   |none=>simp only[z3i] at h⊢;split at h<;>first |(simp only[if_pos (zfu _ _ _ _ _ _)];exact h)|cases h
  case mapUpdate t x i y=>
   have hc:∀(j:Nat)(z:SO V.T)(u:XO V.T),s.ob[j]? = some (.x u)->Chg (V:=V) (.mapUpdate t x i y) false false n0 s.ob (updO V s j z).ob:=by
    intro j z u ho q w hq hcond;have hx:zf6 w=true:=by simpa[zby,appO,zqk] using hcond
    have:j≠q:=λe=>by subst e;rw[ho] at hq;cases hq;cases hx
    show (s.ob.set j z)[q]? = some w;rw[w22 this];exact hq
   simp only[z3i] at h⊢;split at h
   .split at h
    .rename_i ho;split at h
     .cases hb:zbd (V.d _) with
      |true=>
       rw[hb] at h;simp only[cond_true] at h⊢;split at h
       .simp only[if_pos (hc _ _ _ ho)];exact h
       .cases h
      |false=>
       rw[hb] at h;simp only[cond_false] at h⊢;split at h
       .split at h
        .simp only[if_pos (hc _ _ _ ho)];exact h
        .simp only[if_pos (hc _ _ _ ho)];exact h
       .cases h
     .cases h
    .cases h
   .cases h
  case call c=>
   by_cases hbf:∃f,c.callee = .value (.func f)
   .obtain⟨f,hb⟩:=hbf;have hlo:zqk (.call c)=false:=by simp[zqk,hb]
    have hcu:∀(i:Nat)(E c0:Nat)(l:List (V.T c0))(y:SO V.T),s.ob[i]? = some (.row E c0 l)->Chg (.call c) false false n0 s.ob (updO V s i y).ob:=by
     intro i E c0 l y ho j x hj hcond;have hx:zf6 x=true:=by simp only[hlo,zby,w2w,Bool.false_and,Bool.or_false,w03] at hcond;exact hcond.2
     have hij:i≠j:=λe=>by subst e;rw[ho] at hj;cases hj;cases hx
     show (s.ob.set i y)[j]? = some x;rw[w22 hij];exact hj
    simp only[z3i,hb] at h⊢;split at h
    .rename_i sp hsp;split at h
     .rename_i a' ha';cases hq:zm.fnok N.P f with
      |false=>rw[hq] at h;cases h
      |true=>rw[hq] at h;simp only[cond_true,if_pos (zfu _ _ _ _ _ _)] at h⊢;exact h
     .cases h
    .split at h
     .split at h
      .rename_i i hi;split at h
       .rename_i E c0 l a' ho ha';simp only[if_pos (hcu i E c0 l _ ho)] at h⊢;exact h
       .cases h
      .cases h
     .unfold soX at h⊢;split at h
      .simp only[if_pos (zfu _ _ _ _ _ _)];exact h
      .cases h
     .cases h
   have hb:c.callee = .builtin .append:=by
    split at ha
    .assumption
    .rename_i f hb;exact absurd ⟨f,hb⟩ hbf
    .cases ha
   have hc:∀(i:Nat)(us:List (SO V.T))(E c0:Nat)(l:List (V.T c0)),s.ob[i]? = some (.row E c0 l)->Chg (.call c) false false n0 s.ob (s.ob.set i .emp++us):=by
    intro i us E c0 l ho j x hj hcond;have hx:zf6 x=true:=by simpa[zby] using And.right (by simpa[zby,zqk,hb] using hcond:appO (.call c)=true/\zf6 x=true)
    have hij:i≠j:=λe=>by subst e;rw[ho] at hj;cases hj;cases hx
    have hlt:=(w02.1 hj).1;rw[w0n (by simpa using hlt),w22 hij];exact hj
   have hc2:∀(E c0:Nat)(us:List (SO V.T)),Chg (.call c) false false n0 s.ob ((s.ob++[(SO.row E c0 []:SO V.T)]).set s.ob.length .emp++us):=by intro E c0 us j x hj hcond;have hlt:=(w02.1 hj).1;rw[w0n (by simp;omega),w22 (by omega),w0n hlt];exact hj
   simp only[z3i,hb] at h⊢;split at h
   .rename_i x y hcb _;cases hcb
   .split at h
    .rename_i t t' _;cases hbb:Nat.beq t t' with
     |false=>
      rw[hbb] at h;simp only[cond_false] at h⊢;split at h
      .split at h<;>first |(simp only[if_pos (zfu _ _ _ _ _ _)];exact h)|cases h
      .cases h
     |true=>
      rw[hbb] at h;simp only[cond_true] at h⊢;split at h
      .split at h
       .rename_i i yv _ _ _ _ E' c0 l ho;cases hb2 :(Nat.beq _ E'&&Nat.beq _ (V.sz c0)&&Nat.blt 0 _) with
        |false=>rw[hb2] at h;cases h
        |true=>
         rw[hb2] at h;simp only[cond_true,appX] at h⊢;split at h
         .simp only[if_pos (hc _ _ _ _ _ ho)];exact h
         .cases h
       .cases h
      .rename_i E z by' yv _ _ _;cases hb2 :(Nat.beq z (V.sz (V.code E))&&Nat.blt 0 by') with
       |false=>rw[hb2] at h;cases h
       |true=>
        rw[hb2] at h;simp only[cond_true,appX] at h⊢;split at h
        .simp only[if_pos (hc2 _ _ _)];exact h
        .cases h
      .cases h
    .cases h
   .rename_i x y hcb _;cases hcb
   .rename_i hcb;cases hcb
   .rename_i hcb;cases hcb
   .cases h
 .have hm:¬zby o=true:=λq=>ha (by cases o<;>simp[zby] at q<;>rfl)
  cases hf:fs with
  |false=>
   cases he:es with
   |false=>
    have:∀ob',Chg (V:=V) o false false n0 s.ob ob':=λob' i x _ hcond=>by simp[hld,hm,ha] at hcond
    simp only[if_pos (this _)];exact h
   |true=>
    obtain⟨t,p,v,i,j,z,fo,rfl,hp⟩:=hel he;have hc:∀o y,s.ob[i]? = some o->zf6 o=false->Chg (V:=V) (.store t p v) false true n0 s.ob (updO V s i y).ob:=by
     intro o y ho hb q x hq hcond;show (s.ob.set i y)[q]? = some x;have hx:zf6 x=true:=by simpa[zby,appO,zqk] using hcond
     have:i≠q:=λe=>by subst e;rw[ho] at hq;cases hq;rw[hb] at hx;cases hx
     rw[w22 this];exact hq
    simp only[z3i,hp] at h⊢;split at h
    .rename_i n p' v' ht hp' hv;cases hp';simp only[stoX] at h⊢;split at h
     .rename_i E E2 c l hh ho;split at h
      .split at h
       .simp only[if_pos (hc _ _ ho rfl)];exact h
       .simp only[if_pos (hc _ _ ho rfl)];exact h
      .cases h
     .rename_i E c l ho;simp only[if_pos (hc _ _ ho rfl)];exact h
     .rename_i E c l ho;simp only[if_pos (hc _ _ ho rfl)];exact h
     .cases h
    .cases h
  |true=>
   obtain⟨t,p,v,i,off,rfl,hp,hi⟩:=hst hf;have hef:es=false:=by
    cases he:es with
    |false=>rfl
    |true=>obtain⟨t,p,v,i,j,z,fo,e,hp2⟩:=hel he;cases e;rw[hp] at hp2;cases hp2
   subst hef;have hc:∀y,Chg (V:=V) (.store t p v) true false n0 s.ob (updO V s i y).ob:=by
    intro y j x hj hcond;show (s.ob.set i y)[j]? = some x;have:j<n0:=by simpa[zby,appO,zqk] using hcond
    rw[w22 (by omega)];exact hj
   simp only[z3i,hp] at h⊢;split at h
   .rename_i n p' v' ht hp' hv;cases hp';simp only[stoX] at h⊢;split at h
    .split at h
     .rename_i hh;simp only[if_pos (hc _)];exact h
     .exact h
    .cases h
   .cases h
theorem y89{tab:Tab}{gb:List (Nat×Bool)}{bs:Sls V.T}{es:List (DE V.T)}(h:EsOK tab gb bs es)(f:Nat->Bool){t:Nat}{x:Ch×SV V.T}(hx:lk (drSl V f bs es) t=some x):lk (drSl V (λ_=>true) bs es) t=some x:=by
 have hs:∃y,lk (drSl V (λ_=>true) bs es) t=some y:=by
  rcases zae hx with⟨e,he,hf,h2⟩|hb
  .refine z9c (x:=x) ?_;unfold drSl;exact w1k _ (w0a.2 ⟨e,w0i.2 ⟨he,rfl⟩,h2⟩)
  .unfold drSl;rw[zrb];cases lk ((es.filter λe=>true).map (·.2)) t with
   |some y=>exact⟨y,rfl⟩
   |none=>exact⟨x,hb⟩
 obtain⟨y,hy⟩:=hs;rw[hy];rcases zae hx with⟨e,he,hf,h2⟩|hb
 .rcases zae hy with⟨e',he',hf',h2'⟩|hb'
  .have:=h.inj e he e' he' (by rw[h2,h2'])
   subst this;rw[h2] at h2';cases h2';rfl
  .rcases h.bs e he with this|⟨this,_⟩
   .rw[h2] at this;change lk bs t=none at this;rw[this] at hb';cases hb'
   .rw[h2] at this;change lk bs t=some x at this;rw[<- hb',this]
 .rcases zae hy with⟨e',he',hf',h2'⟩|hb'
  .rcases h.bs e' he' with this|⟨this,_⟩
   .rw[h2'] at this;change lk bs t=none at this;rw[this] at hb;cases hb
   .rw[h2'] at this;change lk bs t=some y at this;rw[<- this,hb]
  .rw[<- hb,hb']
theorem zfa.step{ops:Array Oper}{clo:List Nat}{n0:Nat}{later:List Nat}{l:Nat}{bs:Sls V.T}{es:List (DE V.T)}{s s':SS V.T}{e:DE V.T}{d:Option Nat}{v:SV V.T}{o:Oper}(h:zfa N ops clo n0 later bs es s e)(hm:l∈later)(hb:bitB (clo.getD l 0) e.1=false)(ho:ops[l]? = some o)
  (hd:∀x,d=some x->lk bs x=none/\∀e∈es,e.2.1≠x) (hes:EsOK (zr ops) s.gb bs es) (hk:s'.kn=s.kn) (hc:Chg o.op (stoF ops.toList l) (eltF ops.toList l) n0 s.ob s'.ob):zfa N ops clo n0 (later.filter λx=>!Nat.beq x l) (putB V bs v d) es s' e:=by
 obtain⟨o',obm,h1,h2,h3,h4,h5,h6,h7⟩:=h;have hop:opAt ops.toList l=o.op:=by unfold opAt;rw[w3a,ho]
 have hsl:∀t x,lk (drSl V (memB (z0b o')) bs es) t=some x->lk (drSl V (memB (z0b o')) (putB V bs v d) es) t=some x:=by
  intro t x hx;cases d with
  |none=>exact hx
  |some d=>
   obtain⟨k1,k2⟩:=hd d rfl;unfold drSl putB at *;rw[zrb] at hx⊢;cases hl:lk ((es.filter λe=>memB (z0b o') e.1).map (·.2)) t with
   |some y=>rw[hl] at hx;exact hx
   |none=>
    rw[hl] at hx;simp only at hx⊢;rw[z07,if_neg]
    .exact hx
    .intro e2;subst e2;rw[k1] at hx;cases hx
 refine⟨o',obm,h1,h2,h3,h4,λi x hx=>?_,λl' hl'=>h6 l' (w0i.1 hl').1,zsq (s:={ s with sl:=drSl V (memB (z0b o')) bs es,ob:=obm }) (s':={ s' with sl:=drSl V (memB (z0b o')) (putB V bs v d) es,ob:=obm }) ⟨hsl,hk,λi x hx=>.inr hx⟩ h3 h7⟩;rcases h5 i x hx with q|q
 .exact .inl q
 .rcases h6 l hm hb i x hx with q2|q2
  .exact .inl q2
  .refine .inr (hc i x q ?_);unfold zv8 at q2
   rwa [hop] at q2
theorem zta[Dr]{A:Asg}{P:Program}{gb:List (Nat×Bool)}(es:List (DE V.T)):(qrOf P A gb es).map (·.1)=es.map (·.1):=by unfold qrOf;rw[w2e];rfl
theorem ye7[Dr]{A:Asg}{P:Program}{tab:Tab}{n:Nat}{D cands sure:List Nat}{gb gb':List (Nat×Bool)}{bs:Sls V.T}{new es:List (DE V.T)}(hx:GbX gb gb')(hes:EsOK tab gb bs es)(hc:chk tab n D ((new++es).map (·.1)) cands sure=true):
  ∀p∈qrOf P A gb' (new++es),p.1∈(qrOf P A gb es).map (·.1)->∃x,(p.1,x)∈qrOf P A gb es/\Ent x p.2:=by
 intro p hp hpe;simp only[chk,w03] at hc;have hnd:=zao hc.1.1.1.1.2;simp only[qrOf,w0a] at hp;obtain⟨e,he,rfl⟩:=hp;have hpe':e.1∈es.map (·.1):=by rw[zta] at hpe;exact hpe
 obtain⟨e2,he2,h2⟩:=w0a.1 hpe';have:=zaz hnd he (w1n _ he2) h2.symm;subst this;exact⟨denE V P A gb e.2.2,w0a.2 ⟨e,he2,rfl⟩,Ent.of_eq (hx.denE (hes.ch e he2))⟩
theorem yfh{ops:Array Oper}{clo:List Nat}{n0:Nat}{later sure:List Nat}{bs:Sls V.T}{new es:List (DE V.T)}{s:SS V.T}{gb':List (Nat×Bool)}(hx:GbX s.gb gb')(h3:EsOK (zr ops) gb' bs (new++es))(h:∀e∈es,memB sure e.1=false->zfa N ops clo n0 later bs es s e):
  ∀e∈es,memB sure e.1=false->zfa N ops clo n0 later bs (new++es) { s with gb:=gb' } e:=
 λe he hs=>(h e he hs).more (s':={ s with gb:=gb' }) h3 rfl rfl
theorem yh6[Dr](hN:z4t V N){C:Cx N.P}{A:Asg}{ops:Array Oper}{clo:List Nat}{n0:Nat}{later sure:List Nat}{bs:Sls V.T}{new es:List (DE V.T)}{s:SS V.T}{gb':List (Nat×Bool)}(hf:∀e∈es,memB sure e.1=false->zfa N ops clo n0 later bs (new++es) { s with gb:=gb' } e)
  (x5:∀e∈new,(∃o,ops[e.1]? = some o/\GQ C (zr ops) o ⟨z18 (zr ops) (memB (Tab.deps (zr ops) e.1)) (slD V N.P A gb' bs) (qrOf N.P A gb' (new++es)),obD V N.P A A s.ob⟩ (denE V N.P A gb' e.2.2))/\
    ((∃l∈later,bitB (clo.getD l 0) e.1=false)->zfa N ops clo n0 later bs (new++es) { s with gb:=gb' } e))
  (x3:EsOK (zr ops) gb' bs (new++es)) (x4:GbOK (⟨bs,gb',s.kn,s.n⟩:Fm V.T)) (hkn:chP gb' s.kn) (h1:OneA V A s.ob) {p:Nat×VP} (hp:p∈qrOf N.P A gb' (new++es)) (hs:memB sure p.1=false) :
  ∃o,ops[p.1]? = some o/\GQ C (zr ops) o ⟨z18 (zr ops) (memB (Tab.deps (zr ops) p.1)) (slD V N.P A gb' bs) (qrOf N.P A gb' (new++es)),obD V N.P A A s.ob⟩ p.2:=by
 simp only[qrOf,w0a] at hp;obtain⟨e,he,rfl⟩:=hp;rcases w0m.1 he with hn|ho
 .exact(x5 e hn).1
 .exact y3u hN (s:={ s with gb:=gb' }) (hf e ho hs) x3 x4 hkn h1
end
end Px
end
section
namespace Px
open Go Go.RowKit
section
variable{V:TE}{N:Env V}{R:Type}{r:R}
structure zyk{R R':Type}(leaf:Option R->Option R')(comb:List (Option R')->Option R')(r:R)(G:R'->Prop):Prop where
 leaf:∀x y,leaf x=some y->G y->x=some r
 comb:∀l y,comb l=some y->G y->∀x∈l,∃a,x=some a/\G a
theorem zys:zyk id one1 r (λy=>y=r) where
 leaf:=λx y h e=>by subst e;exact h
 comb:=λl y h e x hx=>by
  unfold one1 at h;split at h
  .simp only[w0v] at hx;subst hx;exact⟨y,h,e⟩
  .cases h
theorem y82:zyk (λx:Option R=>some [x]) catL r (λL=>∀x∈L,x=some r) where
 leaf:=λx y h e=>by simp only[w00] at h;subst h;exact e x (w0v.2 rfl)
 comb:=λl=>by
  induction l with
  |nil=>intro y _ _ x hx;cases hx
  |cons z l ih=>
   intro y h e x hx;simp only[catL] at h;cases hz:z with
   |none=>rw[hz] at h;simp[cat2] at h
   |some a=>
    cases hl:catL l with
    |none=>rw[hz,hl] at h;simp[cat2] at h
    |some b=>
     rw[hz,hl] at h;simp only[cat2,w00] at h;subst h;rcases w08.1 hx with rfl|hx
     .exact⟨a,hz,λq hq=>e q (w1k _ hq)⟩
     .exact ih b hl (λq hq=>e q (w1n _ hq)) x hx
def zwi[Dr](x:VP)(objs:List HP)(x2:VP)(objs2:List HP):Prop:=(x2=x/\objs2=objs)\/
 ∃(O:List HP)(i:Nat)(sv:Value)(H:HP),ObW objs O/\O[i]? = some H/\Ent x (eqv sv)/\(∀r S w,H.h S r w->x2.h (λb=>r b\/S b) w sv)/\objs2=O.set i emp
theorem zon{sv:Value}{X:VP}: ∀(l:List HP),zls sv X l l
 | []=>trivial
 |A::l=>⟨λ_ _ _ _ h=>h,zon l⟩
theorem OpT.frz[Dr]{P:Program}{C:Cx P}{o:Oper}{s:St}{K K':VP->List HP->Prop}(h:OpT C o s K)(hk:∀x objs,K x objs->∃x2 objs2,zwi x objs x2 objs2/\K' x2 objs2):OpT C o s K':=by
 intro a w ro S Q hd hn hw hs;refine Oper.wp_mono ?_ (h a w ro S Q hd hn hw hs);rintro a' w' ⟨v,ro',S',x,objs',ha,e,hw',hx,hkk⟩;obtain⟨x2,objs2,hf,hk2⟩:=hk _ _ hkk;rcases hf with⟨rfl,rfl⟩|⟨O,i,sv,H,hO,hi,hent,hX,rfl⟩
 .exact⟨v,ro',S',x2,objs2,ha,e,hw',hx,hk2⟩
 .obtain⟨S2,hw2⟩:=hO _ _ _ _ _ hw';have hv:v=sv:=hent _ _ _ hx;subst hv;obtain⟨r3,S3,hrr,hw3,hev3,hx3⟩:=y3v i (w02.1 hi).1 hw2 e (hX _ _ _ (hw2.obj i H hi)) (zon _);exact⟨v,r3,S3,x2,_,ha,hev3,hw3,hx3,hk2⟩
theorem ycn[Dr]{P:Program}{ops:List Oper}{l n0:Nat}{o:Op}{fs es:Bool}{ob ob':List (SO V.T)}{v:SV V.T}{A:Asg}{x:VP}{objs:List HP}(hlen:A.length=ob'.length)(hent:Ent x (v.den V P A))(hobw:ObW objs (obD V P A A ob'))(hchg:Chg o fs es n0 ob ob'):
  ∃x2 objs2,zwi x objs x2 objs2/\Ent x2 ((frzN V ops l ob.length v ob').1.den V P A)/\ObW objs2 (obD V P A A (frzN V ops l ob.length v ob').2)/\A.length =(frzN V ops l ob.length v ob').2.length/\Chg o fs es n0 ob (frzN V ops l ob.length v ob').2:=by
 have idle:∃x2 objs2,zwi x objs x2 objs2/\Ent x2 (v.den V P A)/\ObW objs2 (obD V P A A ob')/\A.length=ob'.length/\Chg o fs es n0 ob ob':=⟨x,objs,.inl ⟨rfl,rfl⟩,hent,hobw,hlen,hchg⟩;unfold frzN;cases elB ops l with
 |false=>exact idle
 |true=>
 simp only[cond_true];split
 .rename_i n;cases hb:Nat.ble ob.length n with
  |false=>exact idle
  |true=>
  simp only[cond_true];split
  .rename_i E c l' hn;have hlt:=(w02.1 hn).1;obtain⟨q,hq⟩:∃q,A[n]? = some q:=⟨_,w09 (hlen ▸ hlt)⟩;have hob:=zn V P (A:=A) (ps:=A) hq hn;refine⟨Px.ro (V.ev c) (V.sz c) l',_,.inr ⟨_,n,q.2,_,hobw,hob,?_,λr S w h=>zrl (V.ev_len c) h,rfl⟩,?_,?_,by simpa using hlen,λi y hi hc=>?_⟩
   .simp only[SV.den,hq] at hent;exact hent
   .simp only[SV.den];exact Ent.refl
   .rw[z35 V P A ob' n q .emp hq];exact ObW.refl
   .have hi2:=(w02.1 hi).1;have hge:=w0p hb;rw[w22 (by omega)];exact hchg i y hi hc
  .exact idle
 .exact idle
theorem y8a[Dr](hN:z4t V N){R':Type}{leaf:Option R->Option R'}{comb:List (Option R')->Option R'}{G:R'->Prop}(hcomb:zyk leaf comb r G){C:Cx N.P}{Γ:List (Option (Nat×Nat))}{rd:Option Nat}{acts:List GA}(hΓ:acts.map GA.lpI=Γ){ops:Array Oper}{inl:Nat->Inl V R}{K:KX V R}{Q:Exit->Act->World->Prop}{clo:List Nat}{n0:Nat}{A0:Asg}{ro0:Nat->Prop}{wz:World}{a0:Act}
  (hinl:ztv Γ C r inl ops inl K)
  (hK:∀s a w,K .normal s=some r->SatS V C acts s a w->Q .normal a w) (hev0:EvM C.base C.r0 C.wI (mks a0 acts) (lps acts) ro0 wz) :
  ∀(n:Nat)(later done sure:List Nat)(bs:Sls V.T)(es:List (DE V.T))(s:SS V.T)(A:Asg)(L:R'),y38 V N leaf comb inl ops clo n0 (λs=>K .normal s) n later done sure bs es s=some L->G L->
   AExt A0 A->A.length=s.ob.length->Stk V N.P A0 ro0 wz s.stk acts->
   EsOK (zr ops) s.gb bs es->GbOK (⟨bs,s.gb,s.kn,s.n⟩:Fm V.T)->chP s.gb s.kn->(∀e∈es,memB sure e.1=false->zfa N ops clo n0 later bs es s e)->
   Reg (P:=N.P) { C with n:=s.n,r0:=ro0,wI:=wz,rd:=rd,df:=a0.defers } ops (zr ops) Q done ⟨slD V N.P A s.gb bs,obD V N.P A A s.ob⟩ (qrOf N.P A s.gb es):=by
 intro n
 induction n with
 |zero=>intro later done sure bs es s A L h;cases h
 |succ n ih=>
  intro later done sure bs es s A L h hL hA hl hst hes hgb hkn hfree;refine Reg.withInv λ⟨r1,S1,w1,hw1⟩=>?_
  have h1:=zpi hw1;simp only[y38] at h;obtain⟨gb',new,x1,x2,x3,x4,x5⟩:=y6f hN (C:={ C with n:=s.n,r0:=ro0,wI:=wz,rd:=rd,df:=a0.defers }) (A:=A) _ s es h hes hgb hkn h1;have hkn':chP gb' s.kn:=(x1.chP hgb.kn) ▸ hkn;have hf2:=yfh x1 x3 hfree;simp only at x2;revert x2 x3 x5 hf2;have hdist:chk (zr ops) s.n done ((new++es).map (·.1)) (z4n clo later) sure=true->∀p∈qrOf N.P A gb' (new++es),p.1∈(qrOf N.P A s.gb es).map (·.1)->∃x,(p.1,x)∈qrOf N.P A s.gb es/\Ent x p.2:=λhc=>ye7 x1 hes hc
  generalize hE:new++es=E at *;intro x2 x3 x5 hf2;cases hck:chk (zr ops) s.n done (E.map (·.1)) (z4n clo later) sure with
  |false=>rw[hck] at x2;cases x2
  |true=>
  rw[hck] at x2;simp only[cond_true] at x2;have hkeys:=zta (P:=N.P) (A:=A) (gb:=gb') E;have hgq:∀p∈qrOf N.P A gb' E,memB sure p.1=false->∃o,ops[p.1]? = some o/\GQ (P:=N.P) (C:={ C with n:=s.n,r0:=ro0,wI:=wz,rd:=rd,df:=a0.defers }) (zr ops) o ⟨z18 (zr ops) (memB (Tab.deps (zr ops) p.1)) (slD V N.P A gb' bs) (qrOf N.P A gb' E),obD V N.P A A s.ob⟩ p.2:=by intro p hp hs;subst hE;exact yh6 hN hf2 x5 x3 x4 hkn' h1 hp hs
  refine Reg.weak (s':=⟨slD V N.P A gb' bs,obD V N.P A A s.ob⟩) (QR':=qrOf N.P A gb' E) (λa r w q=>by rw[<- zw0 x1 hgb];exact q) ObW.refl ?_ (hdist hck) ?_
  .intro q hq;rw[hkeys,<- hE,w25];refine w1n _ ?_;rw[zta] at hq;exact hq
  cases later with
  |nil=>have hk:=hcomb.leaf _ _ x2 hL;refine Reg.introG [] sure rfl (by rw[hkeys];exact hck) (zl5 x3) (ze3 λp hp hs=>hgq p hp hs) trivial ?_;intro _ a' w' hsat;obtain⟨hd',hn',ro',S',hw',hev',hsl'⟩:=hsat;rw[z3x _ x3.dst] at hsl';exact hK _ a' w' hk ⟨trivial,hn',hkn',x3.gb x4 _,A,ro',S',hl,hw',zzr hd' ▸ hev0.trans hev',hsl',hst.ext hA hev'⟩
  |cons l0 lt=>
  generalize hlat:l0::lt=later at *;have x2' :(bif (z4n clo later).isEmpty then none else comb ((z4n clo later).map λl=>match ops[l]? with
    |some o=>bif !memB done l&&!memB (E.map (·.1)) l then(bif ztm ops done (E.map (·.1)) (z4n clo later) l||y1z V N bs { s with gb:=gb',sl:=drSl V (memB (z0b o)) bs E } o then(bif ztm ops done (E.map (·.1)) (z4n clo later) l then
       leaf (z59 V N inl ops.toList l (ops.toList.drop l) { s with gb:=gb',sl:=drSl V (λ_=>true) bs E } (λs=>K .normal s)) else none) else
      bif zx1 o&&zfx V { s with gb:=gb' } bs E o.dst&&((y0r V N { s with gb:=gb',sl:=drSl V (memB (z0b o)) bs E } o.op).isEmpty&&y6q V ops.toList n0 l { s with gb:=gb',sl:=drSl V (memB (z0b o)) bs E } o.op) then
       z3i (R:=R') V N { s with gb:=gb',sl:=drSl V (memB (z0b o)) bs E } o.op o.type λv s'=>y38 V N leaf comb inl ops clo n0 (λs=>K .normal s) n (later.filter λx=>!Nat.beq x l) (l::done) (sure++(E.map (·.1)).filter λq=>bitB (clo.getD l 0) q&&!memB sure q) (putB V bs (frzN V ops.toList l s.ob.length v s'.ob).1 o.dst) E { s with gb:=gb',ob:=(frzN V ops.toList l s.ob.length v s'.ob).2 } else none) else none
    |none=>none))=some L:=by
   subst hlat;exact x2
  clear x2;cases hem :(z4n clo later).isEmpty with
  |true=>rw[hem] at x2';cases x2'
  |false=>
  rw[hem] at x2';simp only[cond_false] at x2';have hat:=λl(hl:l∈z4n clo later)=>hcomb.comb _ _ x2' hL _ (List.mem_map_of_mem hl)
  have hfacts:∀l∈z4n clo later,∃o,ops[l]? = some o/\memB done l=false/\memB (E.map (·.1)) l=false:=by
   intro l hl;obtain⟨a,ha,_⟩:=hat l hl;cases ho:ops[l]? with
   |none=>rw[ho] at ha;cases ha
   |some o=>
    rw[ho] at ha;simp only at ha;cases hc :(!memB done l&&!memB (E.map (·.1)) l) with
    |false=>rw[hc] at ha;cases ha
    |true=>simp only[w03,w0z] at hc;exact⟨o,rfl,hc.1,hc.2⟩
  have hco:ze8 (zr ops) done (E.map (·.1))=false:=by
   obtain⟨l,hl⟩:∃l,l∈z4n clo later:=by
    cases hcx:z4n clo later with
    |nil=>rw[hcx] at hem;cases hem
    |cons l _=>exact⟨l,w0l ..⟩
   obtain⟨o,ho,hld,hle⟩:=hfacts l hl;cases hco:ze8 (zr ops) done (E.map (·.1)) with
   |false=>rfl
   |true=>unfold ze8 at hco;have:=w0g.1 hco l (by rw[w1p,zf1 rfl];exact(w19.1 ho).1);rw[hld,hle] at this;cases this
  by_cases htl:∃l∈z4n clo later,∃o,ops[l]? = some o/\(ztm ops done (E.map (·.1)) (z4n clo later) l||y1z V N bs { s with gb:=gb',sl:=drSl V (memB (z0b o)) bs E } o)=true
  .-- what is left is run in the order of the text
   obtain⟨l,hlc,o,ho,ht⟩:=htl;obtain⟨a,ha,haL⟩:=hat l hlc;obtain⟨o',ho',hld,hle⟩:=hfacts l hlc;rw[ho] at ho';cases ho';simp only[ho,hld,hle,ht,w3f,w3t,cond_true] at ha;cases hcc:ztm ops done (E.map (·.1)) (z4n clo later) l with
   |false=>rw[hcc] at ha;cases ha
   |true=>
    rw[hcc] at ha;simp only[cond_true] at ha;have x2:=hcomb.leaf _ _ ha haL;unfold ztm at hcc;simp only[w03] at hcc;obtain⟨⟨⟨⟨⟨hone,hcl⟩,hall⟩,hlow⟩,hch⟩,hsz⟩:=hcc;have hone:=w01 hone;have hsz:l<ops.size:=w0p hsz;have hlat1:z4n clo later = [l]:=by
     revert hone hlc;generalize z4n clo later=cs;intro hml hone
     match cs,hone,hml with
     | [y],_,hml=>simp at hml;rw[hml]
    rw[hlat1] at hck;refine Reg.tail l sure rfl (by rw[hkeys];exact hck) (zl5 x3) (ze3 λp hp hs=>hgq p hp hs) (by rw[hkeys];exact hcl) (by rw[hkeys];exact hall) (by rw[hkeys];exact hlow) hch hsz ?_ ?_
    .rw[hkeys];exact hco
    .intro a w hsat;obtain⟨hd',hn',ro',S',hw',hev',hsl'⟩:=hsat;rw[z3x _ x3.dst] at hsl';have:=zjv (rd:=rd) (Q:=Q) hN hΓ hinl hK (ops.toList.drop l) l _ a w rfl x2 ⟨trivial,hn',hkn',x3.gb x4 _,A,ro',S',hl,hw',zzr hd' ▸ hev0.trans hev',hsl',hst.ext hA hev'⟩;rw[show (ops.toList.drop l).length=ops.size-l by simp] at this;exact this
  .-- others
   refine Reg.introG (z4n clo later) sure rfl (by rw[hkeys];exact hck) (zl5 x3) (ze3 λp hp hs=>hgq p hp hs) (ze3 λl hlc=>?_) (λhc2=>by rw[hkeys,hco] at hc2;cases hc2);obtain⟨a,ha,haL⟩:=hat l hlc;obtain⟨o,ho,hld,hle⟩:=hfacts l hlc;have htw :(ztm ops done (E.map (·.1)) (z4n clo later) l||y1z V N bs { s with gb:=gb',sl:=drSl V (memB (z0b o)) bs E } o)=false:=by
    cases e :(ztm ops done (E.map (·.1)) (z4n clo later) l||y1z V N bs { s with gb:=gb',sl:=drSl V (memB (z0b o)) bs E } o) with
    |false=>rfl
    |true=>exact absurd ⟨l,hlc,o,ho,e⟩ htl
   have htw':=(w2i.1 htw).2;unfold y1z at htw';simp only[w2i] at htw';obtain⟨⟨⟨hg,htb⟩,hni⟩,hny⟩:=htw';have hg:o.guard=none:=by cases e:o.guard with
    |none=>rfl
    |some g=>rw[e] at hg;cases hg
   simp only[ho,hld,hle,htw,w3f,w3t,cond_true,cond_false] at ha;cases hdd :(zx1 o&&zfx V { s with gb:=gb' } bs E o.dst) with
   |false=>rw[hdd] at ha;cases ha
   |true=>
   rw[hdd,w3d] at ha;simp only[w03] at hdd;obtain⟨hdst,hdf⟩:=hdd;cases hfz :((y0r V N { s with gb:=gb',sl:=drSl V (memB (z0b o)) bs E } o.op).isEmpty&&y6q V ops.toList n0 l { s with gb:=gb',sl:=drSl V (memB (z0b o)) bs E } o.op) with
   |false=>rw[hfz] at ha;cases ha
   |true=>
    rw[hfz] at ha;simp only[cond_true] at ha;simp only[w03] at hfz;have hchg:=y4p (fs:=stoF ops.toList l) (es:=eltF ops.toList l) (n0:=n0) (λhf=>by
     have h2:=hfz.2;unfold y6q at h2;split at h2
     .rename_i t p v hop;simp only[w03] at h2;have h2:=h2.1;rw[hf] at h2;simp only[w2o,w2w] at h2;split at h2
      .rename_i i off hp;exact⟨t,p,v,i,off,hop,hp,w0p h2⟩
      .cases h2
     .rename_i hop;exfalso;unfold stoF at hf;have hop2:opAt ops.toList l=o.op:=by unfold opAt;rw[w3a,ho]
      rw[hop2] at hf;split at hf
      .rename_i t p v hopp;exact hop _ _ _ hopp
      .cases hf) (λhf=>by
     have h2:=hfz.2;unfold y6q at h2;split at h2
     .rename_i t p v hop;simp only[w03] at h2;have h2:=h2.2;rw[hf] at h2;simp only[w2o,w2w] at h2;split at h2
      .rename_i i j z fo hp;exact⟨t,p,v,i,j,z,fo,hop,hp⟩
      .cases h2
     .rename_i hop;exfalso;unfold eltF at hf;have hop2:opAt ops.toList l=o.op:=by unfold opAt;rw[w3a,ho]
      rw[hop2] at hf;split at hf
      .rename_i t p v hopp;exact hop _ _ _ hopp
      .cases hf) ha
    have hOp:=λdst pos aft guard hd=>zzn (C:={ C with n:=s.n,r0:=ro0,wI:=wz,rd:=rd,df:=a0.defers }) (s:={ s with gb:=gb',sl:=drSl V (memB (z0b o)) bs E }) hN hl hkn' (x3.gb x4 _) h1 hchg dst pos aft guard hd
    refine⟨o,ho,?_,?_,?_⟩
    .unfold z6m;cases hod:o.dst with
     |none=>rfl
     |some d=>rw[hod] at hdf;simp only[zfx,w03,w23] at hdf;simpa using hdf.1.1.1
    .rw[hkeys];refine w0g.2 λq hq=>?_
     obtain⟨e,he,rfl⟩:=w0a.1 hq;rw[x3.dst e he];cases hod:o.dst with
     |none=>rfl
     |some d=>
      rw[hod] at hdf;simp only[zfx,w03,w0z] at hdf;simp only[zx0,w0z];cases hb:Nat.beq e.2.1 d with
      |false=>rfl
      |true=>have :(E.any λe=>Nat.beq e.2.1 d)=true:=w2h.2 ⟨e,he,hb⟩;rw[hdf.2] at this;cases this
    .unfold y2d;rw[hg];have h6:=hOp o.dst o.pos o.after none (λe=>by
      cases hod:o.dst with
      |none=>rfl
      |some d=>obtain⟨dst,op,ty,pos,aft,guard⟩:=o;simp only at hod;subst hod;cases op<;>simp[yd6] at e<;>simp[zx1] at hdst)
     have ho3 :(⟨o.dst,o.op,o.type,o.pos,o.after,none⟩:Oper)=o:=by obtain⟨dst,op,ty,pos,aft,guard⟩:=o;simp only at hg;subst hg;rfl
     rw[ho3] at h6;have e4 :(⟨z18 (zr ops) (memB (Tab.deps (zr ops) l)) (slD V N.P A gb' bs) (qrOf N.P A gb' E),obD V N.P A A s.ob⟩:St)=SS.st V N.P A { s with gb:=gb',sl:=drSl V (memB (z0b o)) bs E }:=by rw[zhe ho,z3x _ x3.dst];rfl
     rw[e4];refine h6.frz ?_;rintro x objs ⟨B,ob',v,hkv,hlen,hent,hobw⟩;simp only at hkv;split at hkv
     .rename_i hchg2;obtain⟨x',objs',hfz',hent',hobw',hlen',hchg'⟩:=ycn (ops:=ops.toList) (l:=l) hlen hent hobw hchg2;refine⟨x',objs',hfz',[],rfl,?_⟩;rw[w0b];clear hent hobw hlen hchg2 hfz';revert hkv hent' hobw' hlen' hchg';generalize frzN V ops.toList l s.ob.length v ob'=fz;obtain⟨v,ob'⟩:=fz;clear x objs;revert x' objs';intro x objs hkv hent hobw hlen hchg2;simp only at hkv hent hobw hlen hchg2;have hfree3:∀e∈E,memB (sure++(E.map (·.1)).filter λq=>bitB (clo.getD l 0) q&&!memB sure q) e.1=false->zfa N ops clo n0 (later.filter λx=>!Nat.beq x l) (putB V bs v o.dst) E { s with gb:=gb',ob:=ob' } e:=by
       intro e he hs;have hs1:memB sure e.1=false:=by
        cases hm:memB sure e.1 with
        |false=>rfl
        |true=>rw[z06.2 (w1k _ (z06.1 hm))] at hs;cases hs
       have hs2:bitB (clo.getD l 0) e.1=false:=by
        cases hm:bitB (clo.getD l 0) e.1 with
        |false=>rfl
        |true=>rw[z06.2 (w1n _ (w0i.2 ⟨w0a.2 ⟨e,he,rfl⟩,by rw[hm,hs1];rfl⟩))] at hs;cases hs
       have hF:zfa N ops clo n0 later bs E { s with gb:=gb' } e:=by
        subst hE;rcases w0m.1 he with hn|ho2
        .exact(x5 e hn).2 ⟨l,(w0i.1 hlc).1,hs2⟩
        .exact hf2 e ho2 hs1
       refine hF.step (w0i.1 hlc).1 hs2 ho ?_ x3 rfl hchg2;intro d hd;rw[hd] at hdf;simp only[zfx,w03,w2z,w0z] at hdf;refine⟨hdf.1.2,λe2 he2 q=>?_⟩;have :(E.any λe=>Nat.beq e.2.1 d)=true:=w2h.2 ⟨e2,he2,by rw[q];exact w2j d⟩;rw[hdf.2] at this;cases this
      have hesn:EsOK (zr ops) gb' (putB V bs v o.dst) E:=by
       refine⟨x3.dst,x3.ch,x3.val,x3.inj,λe he=>?_⟩;cases hod:o.dst with
       |none=>exact x3.bs e he
       |some d=>
        rw[hod] at hdf;simp only[zfx,w03,w0z] at hdf;simp only[putB,z07];rw[if_neg]
        .exact x3.bs e he
        .intro q;have :(E.any λe=>Nat.beq e.2.1 d)=true:=w2h.2 ⟨e,he,by rw[q];exact w2j d⟩;rw[hdf.2] at this;cases this
      have hgbn:GbOK (⟨putB V bs v o.dst,gb',s.kn,s.n⟩:Fm V.T):=by
       cases hod:o.dst with
       |none=>exact x4
       |some d=>
        rw[hod] at hdf;simp only[zfx,w03,w2z] at hdf;refine⟨λt g ht ch z hz=>?_,λt ch z hz p hp=>?_,x4.kn⟩
        .simp only[putB,z07] at hz;by_cases e:t=d
         .subst e;have hgd:lk gb' t=none:=hdf.1.1.2;have ht':lk gb' t=some g:=ht;rw[hgd] at ht';cases ht'
         .rw[if_neg e] at hz;exact x4.val t g ht ch z hz
        .simp only[putB,z07] at hz;by_cases e:t=d
         .rw[if_pos e] at hz;cases hz;cases hp
         .rw[if_neg e] at hz;exact x4.ch t ch z hz p hp
      have hrec:=ih _ (l::done) _ (putB V bs v o.dst) E { s with gb:=gb',ob:=ob' } (A++B) a hkv haL (λi p hp=>AExt.app A B i p (hA i p hp)) hlen hst hesn hgbn hkn' hfree3;refine Reg.weak (λa r w hsl=>?_) hobw ?_ ?_ hrec
      .intro t X hX;simp only[slD] at hX;cases hod:o.dst with
       |none=>rw[hod] at hX hsl;exact zey V N.P (AExt.app A B) hsl t X hX
       |some d=>
        rw[hod] at hX hsl;simp only[putB,z07] at hX;by_cases e:t=d
        .subst e;rw[if_pos rfl] at hX;simp only[w0u,w00] at hX;subst hX;have:=hsl t x (by simp only[z8a.set,w2j,cond_true]);exact hent _ _ _ this
        .rw[if_neg e] at hX;have hsl2:ze (slD V N.P A gb' bs) a r w\/True:=.inr trivial;cases hbs:lk bs t with
         |none=>rw[hbs] at hX;cases hX
         |some y=>rw[hbs] at hX;simp only[w0u,w00] at hX;subst hX;have:=hsl t (denE V N.P A gb' y) (by simp only[z8a.set,znn e,cond_false,slD,hbs,w0u]);exact znv V N.P (AExt.app A B) y _ _ _ this
      .intro q hq;rw[zta] at hq⊢;exact hq
      .intro p hp _;simp only[qrOf,w0a] at hp;obtain⟨e,he,rfl⟩:=hp;exact⟨denE V N.P A gb' e.2.2,w0a.2 ⟨e,he,rfl⟩,znv V N.P (AExt.app A B) e.2.2⟩
     .cases hkv
end
end Px
end
