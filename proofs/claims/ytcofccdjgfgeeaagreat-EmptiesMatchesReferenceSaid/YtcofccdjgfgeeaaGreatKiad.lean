/- A part of the proof of emptiesMatchesReference_holds. Conditions: none. -/
import Derived.Test.YtcofccdjgfgeeaaGreatKiac
import Derived.Laws.Panics
set_option linter.unusedVariables false
set_option linter.unusedSimpArgs false
section
namespace Px
open Go Go.RowKit
section
variable{V:TE}{N:Env V}{R:Type}{r:R}{C:Cx N.P}{A:Asg}{s:SS V.T}
theorem ye2[Dr]{P:Program}(d:A.length=s.ob.length){C:Cx P}{o:Oper}(E c:Nat){K:VP->List HP->Prop}(h:OpT C o (({ s with ob:=s.ob++[.row E c []] } : SS V.T).st V P (A++[(0,.slice none 0 0)])) K):OpT C o (s.st V P A) K:=by refine OpT.weak (λa ro w f=>zhe V P (AExt.app A _) f) ?_ h;refine ObW.trans (b:=obD V P A A s.ob++[row E (V.ev c) (V.sz c) [] (.slice none 0 0)]) (λw0 base r S w g=>⟨S,g.addNil _ (.inl ⟨rfl,rfl⟩)⟩) ?_;exact z6g d (us:=[.row E c []]) ⟨EntH.refl,trivial⟩
theorem y7u[Dr](u:A.length=s.ob.length)(f:chP s.gb s.kn){E c z d t ty:Nat}{y:SV V.T}{x o:Operand}{k:SV V.T->SS V.T->Option R}(h:appX V { s with ob:=s.ob++[.row E c []] } ty s.ob.length E c d [] y k=some r)(ht:tsl N.P t=some (E,z,d))(hz:z=V.sz c)
  (j:0<d) (hx:evO s.sl s.kn x=some (.val (.slice none 0 0))) (hy:evO s.sl s.kn o=some y) (dst pos after guard) :
  OpT C ⟨dst,.call { callee:=.builtin .append,args:=#[x,o],argTypes:=#[t,t] },ty,pos,after,guard⟩ (s.st V N.P A) (LOK V N.P r A s k):=by
 refine ye2 u E c ?_;have a0 :(A++[((0:Nat),Value.slice none 0 0)]).length =({ s with ob:=s.ob++[.row E c []] } : SS V.T).ob.length:=by simp[u]
 have g:=z1t V N.P (A:=A++[((0:Nat),Value.slice none 0 0)]) (s:={ s with ob:=s.ob++[.row E c []] }) hx f;have a1:=z1t V N.P (A:=A++[((0:Nat),Value.slice none 0 0)]) (s:={ s with ob:=s.ob++[.row E c []] }) hy f;refine(yfr a0 h (by simp) ht hz j ?_ a1 dst pos after guard).mono ?_
 .simp only[SV.den] at g⊢;rw[zd4 A _ _ u];exact g
 .rintro v objs ⟨B,ob',w,h1,h2,h3,h4⟩;rw[w0m] at h2 h3 h4;exact⟨_,ob',w,h1,h2,h3,h4⟩
theorem y1l[Dr]{P:Program}{A B:Asg}: ∀(ps:Asg)(cs:List RC)(x:RTup V.T cs),obD V P A ps (newR V cs x)=obD V P B ps (newR V cs x)
 |ps,[],x=>by cases ps<;>rfl
 |ps,.val c::cs,x=>by simp only[newR];exact y1l ps cs x.2
 | [],.row E c::cs,x=>by simp[newR,obD]
 |p::ps,.row E c::cs,x=>by simp only[newR,obD,SO.den];rw[y1l ps cs x.2]
theorem zuu[Dr]{P:Program}{A:Asg}: ∀(ps:Asg)(cs:List RC)(x:RTup V.T cs),cs.all (flR V)=true->∀H∈obD V P A ps (newR V cs x),H.flat
 |ps,[],x,_,H,hH=>by cases ps<;>simp[newR,obD] at hH
 |ps,.val c::cs,x,h,H,hH=>by simp only[w1h,w02] at h;simp only[newR] at hH;exact zuu ps cs x.2 h.2 H hH
 | [],.row E c::cs,x,h,H,hH=>by simp[newR,obD] at hH
 |p::ps,.row E c::cs,x,h,H,hH=>by
  simp only[w1h,w02,flR] at h;simp only[newR,obD,SO.den,w05] at hH;rcases hH with rfl|hH
  .exact zxo (zl7 V _ c h.1)
  .exact zuu ps cs x.2 h.2 H hH
theorem zl5[Dr]{P:Program}{A B:Asg}{n:Nat}(d:A.length=n):∀(j:Nat)(cs:List RC)(x:RTup V.T cs),denV V P (A++B) (encR V (n+j) cs x)=denV V P B (encR V j cs x)
 |j,[],x=>rfl
 |j,.val c::cs,x=>by simp only[encR,denV,z4l,zl5 d j cs x.2]
 |j,.row E c::cs,x=>by
  have f :(A++B)[n+j]? = B[j]?:=by rw[w18 (by omega)];congr 1;omega
  simp only[encR,denV,SV.den,f];rw[w2v,zl5 d (j+1) cs x.2]
theorem zl4[Dr]{P:Program}{B:Asg}: ∀(n:Nat)(d:List RC)(r:RTup V.T d),d.all (flR V)=true->∀X∈denV V P B (encR V n d r),X.flat
 |n,[],r,_,X,hX=>by simp[encR,denV] at hX
 |n,.val c::cs,r,f,X,hX=>by
  simp only[w1h,w02,flR] at f;simp only[encR,denV,w05,z4l] at hX;rcases hX with rfl|hX
  .exact ybq V f.1 _
  .exact zl4 n cs r.2 f.2 X hX
 |n,.row E c::cs,r,f,X,hX=>by
  simp only[w1h,w02] at f;simp only[encR,denV,w05] at hX;rcases hX with rfl|hX
  .simp only[SV.den];cases B[n]? with
   |none=>exact λ_ _ _ _ _ h=>h.elim
   |some q=>exact zem
  .exact zl4 (n+1) cs r.2 f.2 X hX
theorem ycj[Dr](hN:z6x V N)(z:A.length=s.ob.length)(d:chP s.gb s.kn){f:Nat}{as:Array Operand}{ts:Array TypeId}{ty:TypeId}{k:SV V.T->SS V.T->Option R}{sp:Fsp V}(a0:N.fn f=some sp)
  (h :(match decA V (bif sp.res.all (flR V) then rdSl s.ob else rdSl []) s.sl s.kn sp.args as.toList with
    |some a=>bif zt.fnok N.P f then(sp.F a).bind λr=>k (resV V (encR V s.ob.length sp.res r)) { s with ob:=s.ob++newR V sp.res r } else none
    |none=>none)=some r) (dst pos after guard) :
  OpT C ⟨dst,.call { callee:=.value (.func f),args:=as,argTypes:=ts },ty,pos,after,guard⟩ (s.st V N.P A) (LOK V N.P r A s k):=by
 split at h
 .rename_i a u;cases g:zt.fnok N.P f with
  |false=>rw[g] at h;cases h
  |true=>
   rw[g] at h;simp only[cond_true] at h;obtain⟨y,hy,hk⟩:=bind_some h;have hp:=hN.fn f sp a0 a y hy;have fin:∀x news,Kres V N.P sp.res y x news->LOK V N.P r A s k x ((s.st V N.P A).objs++news):=by
    rintro x news ⟨B,hB,rfl,rfl⟩;refine⟨B,_,_,hk,by simp[z,hB],?_,?_⟩
    .have:=zl5 (P:=N.P) (V:=V) (B:=B) z 0 sp.res y
     rw[w3r] at this;exact Ent.of_eq (zw2 V N.P this.symm)
    .refine z6g z ?_;rw[y1l (A:=B) (B:=A++B)];exact(by
      generalize obD V N.P (A++B) B (newR V sp.res y)=l
      induction l with
      |nil=>trivial
      |cons a l ih=>exact⟨EntH.refl,ih⟩)
   cases j:sp.res.all (flR V) with
   |true=>
    rw[j] at u;refine y1o (z9q N.P g) (zgs V N.P d u) hp λx news hK=>?_
    obtain⟨B,hB,hx,hn⟩:=id hK;subst hx;subst hn;exact⟨zqq V N.P (zl4 0 sp.res y j),zuu B sp.res y j,fin _ _ hK⟩
   |false=>rw[j] at u;exact yah (z9q N.P g) (zj0 V N.P d u) hp fin
 .cases h
theorem yid{c:Nat}{x:V.T c}{n:Int}(h:intD (V.d c) x=some n):V.vl c x=iv .i64 n:=by
 revert h;unfold TE.vl;generalize V.ev c x=m;revert x;generalize V.d c=d;generalize V.T c=α at d;intro x h;cases d with
 |int k=>
  simp only[intD] at h;split at h
  .rename_i e;subst e;simp only[w01] at h;subst h;rfl
  .cases h
 |_=>simp[intD] at h
theorem y2t[Dr]{P:Program}{q:Nat}{r:RTup V.T [.val q]}{n:Int}(h:intD (V.d q) r.1=some n){x:VP}{d:List HP}(f:Kres V P [.val q] r x d):x=iv .i64 n/\d = []:=by obtain⟨B,_,rfl,rfl⟩:=f;refine⟨?_,by cases B<;>rfl⟩;simp only[encR,resV,z4l];exact yid h
theorem FEnt.ent[Dr]{P:Program}{C:Cx P}{s:St}{X Y Z:VP}(h:FEnt C s X Y)(k:Ent Y Z):FEnt C s X Z:=λr S w v d hx=>k _ w v (h r S w v d hx)
theorem yhf[Dr]{P:Program}{c f:Nat}{sp:Fsp V}{g:V.T c->V.T c->Option Int}(d:zz V P f sp)(h:cmpF V c sp=some g)(x y:V.T c)(n:Int)(z:g x y=some n):zdv P f [V.vl c x,V.vl c y] λX news=>X=iv .i64 n/\news = []:=by
 unfold cmpF at h;split at h
 .rename_i a b q F;split at h
  .rename_i e;split at h
   .rename_i j;subst e;subst j;simp only[w01] at h;subst h;obtain⟨r,hr,hq⟩:=bind_some z;exact(d (x,y,()) r hr).mono λX news u=>y2t hq u
   .cases h
  .cases h
 .cases h
theorem yhe[Dr]{P:Program}{c f:Nat}{sp:Csp V}{z:KCs V.T sp.caps}{g:V.T c->V.T c->Option Int}(d:ztc V P f sp)(h:cmpC V c sp z=some g)(x y:V.T c)(n:Int)(hn:g x y=some n):zdv P f ([V.vl c x,V.vl c y]++denV V P [] (encK V sp.caps z)) λX news=>X=iv .i64 n/\news = []:=by
 unfold cmpC at h;split at h
 .rename_i a b _ q F z;split at h
  .rename_i e;split at h
   .rename_i j;subst e;subst j;simp only[w01] at h;subst h;obtain⟨r,hr,hq⟩:=bind_some hn;exact(d (x,y,()) z r hr).mono λX news u=>y2t hq u
   .cases h
  .cases h
 .cases h
theorem yhg[Dr](hN:z6x V N){c:Nat}{x:SV V.T}{g:V.T c->V.T c->Option Int}(h:cmpX V N s.ob c x=some g):FEnt C (s.st V N.P A) (x.den V N.P A) (fcmp N.P (λy=>V.vl c y) g):=by
 unfold cmpX at h;split at h
 .split at h
  .rename_i e;subst e;simp only[w01] at h;subst h;exact FEnt.refl
  .cases h
 .rename_i f caps;cases j:zt.fnok N.P f with
  |false=>rw[j] at h;cases h
  |true=>
   rw[j] at h;simp only[cond_true] at h;cases hf:N.fn f with
   |some sp=>
    rw[hf] at h;cases u:caps.isEmpty with
    |false=>rw[u] at h;cases h
    |true=>rw[u] at h;simp only[cond_true] at h;have e:caps = []:=w3s.1 u;subst e;simp only[SV.den,denV];exact FEnt.refl.ent (zoq (z9q N.P j) λx y n hn=>yhf (hN.fn f sp hf) h x y n hn)
   |none=>
    rw[hf] at h;simp only at h;cases d:N.cl f with
    |none=>rw[d] at h;cases h
    |some sp=>
     rw[d] at h;simp only at h;split at h
     .rename_i z hz;simp only[SV.den];exact(FEnt.fnc N.P (ztn V N.P hz)).ent (zoq (z9q N.P j) λx y n hn=>yhe (hN.cl f sp d) h x y n hn)
     .cases h
 .cases h
theorem ye0[Dr](hN:z6x V N)(u:chP s.gb s.kn){sl:Sls V.T}(a0:sl=s.sl):∀{ms:List MA}{os:List Operand}{a:MTup V.T ms},zpe V N s.ob sl s.kn ms os=some a->∀d r T w,WInv C.w0 C.base (s.st V N.P A).objs r T w->zj (s.st V N.P A).slots d r w->
  (os.map d.eval).length =(msD V N.P ms a).length/\∀(k:Nat)(B:VP),(msD V N.P ms a)[k]? = some B->B.h (λb=>r b\/∃j,T j b) w ((os.map d.eval).getD k undef):=by
 subst a0;have step:∀{X:VP}{Xs:List VP}{o:Operand}{os:List Operand}{d:Act}{R:Nat->Prop}{w:World},X.h R w (d.eval o)->(os.map d.eval).length=Xs.length/\(∀(k:Nat)(B:VP),Xs[k]? = some B->B.h R w ((os.map d.eval).getD k undef))->
   ((o::os).map d.eval).length =(X::Xs).length/\∀(k:Nat)(B:VP),(X::Xs)[k]? = some B->B.h R w (((o::os).map d.eval).getD k undef):=by
  intro X Xs o os d R w h1 ⟨h2,h3⟩;refine⟨by simpa using h2,λk B hB=>?_⟩;cases k with
  |zero=>simp at hB;subst hB;exact h1
  |succ k=>simpa using h3 k B (by simpa using hB)
 intro ms
 induction ms with
 |nil=>
  intro os a h d r T w hw z;cases os with
  |nil=>exact⟨rfl,λk B h=>by simp[msD] at h⟩
  |cons o os=>simp[zpe] at h
 |cons m ms ih=>
  intro os a h d r T w hw z;cases os with
  |nil=>cases m<;>simp[zpe] at h
  |cons o os=>
   cases m with
   |fn f=>
    simp only[zpe] at h;split at h
    .rename_i g ho;cases hb:Nat.beq f g with
     |false=>rw[hb] at h;cases h
     |true=>
      rw[hb] at h;have e:=w03 hb;subst e;simp only[cond_true] at h;split at h
      .rename_i q hq;simp only[w01] at h;subst h;refine step ?_ (ih hq d r T w hw z);obtain⟨caps,hv,hc,_⟩:=z1t V N.P (A:=A) ho u d r w z;have:caps = #[]:=by simp only[denV,w2h] at hc;exact w4v hc
       subst this;exact hv
      .cases h
    .cases h
   |val c=>
    simp only[zpe] at h;split at h
    .rename_i y hy;split at h
     .rename_i q hq;simp only[w01] at h;subst h;obtain⟨x,ho,hd⟩:=w4j.1 hy;refine step ?_ (ih hq d r T w hw z);exact VP.mono _ (λ_ hb=>.inl hb) (λ_ _=>rfl) (z6y V N.P hd _ _ _ (z1t V N.P (A:=A) ho u d r w z))
     .cases h
    .cases h
   |cmp c=>
    simp only[zpe] at h;split at h
    .rename_i y hy;split at h
     .rename_i q hq;simp only[w01] at h;subst h;obtain⟨x,ho,hd⟩:=w4j.1 hy;exact step (yhg (C:=C) (A:=A) hN hd r T w _ hw (z1t V N.P (A:=A) ho u d r w z)) (ih hq d r T w hw z)
     .cases h
    .cases h
def actB(A:Asg)(ob:List (SO V.T))(j b:Nat):Prop:=∃q,A[j]? = some q/\((∃kc vc E m,ob[j]? = some (.x (.map kc vc E m none))/\b=q.1)\/(∃kc vc m c,ob[j]? = some (.x (.it kc vc m c))/\b=q.1)\/∃E c l n,ob[j]? = some (.x (.fix E c l))/\q.2 = .slice (some ⟨b,0,none⟩) n n)
theorem y7r[Dr]{P:Program}{w0 w:World}{f:Nat}{r:Nat->Prop}{S:Nat->Nat->Prop}(hw:WInv w0 f (obD V P A A s.ob) r S w):zwl (λb=>∃j,actB A s.ob j b) w:=by
 rintro b ⟨j,q,hq,h⟩ o u hu;rcases h with⟨kc,vc,E,m,z,rfl⟩|⟨kc,vc,m,c,z,rfl⟩|⟨E,c,l,n,z,g⟩
 .obtain⟨hv,g⟩:=hw.obj j _ (zw V P hq z);obtain⟨es,clock,hc,_⟩:=ya1 g;simp[World.cell?,hc] at hu
 .obtain⟨hv,hS,_,g⟩:=hw.obj j _ (zw V P hq z);rcases g with⟨a,c',d,hc,_⟩|⟨_,_,_,_,_,hc,_⟩<;>simp[World.cell?,hc] at hu
 .exact(y8s V P hw).1 b ⟨j,E,c,l,q,n,z,hq,g⟩ o u hu
theorem ylg{κ ν:Type}{e:κ->List Int}{eK:κ->Value}{g:ν->Value}{m:List (κ×ν)}{b:Nat}{S f r:Nat->Prop}{w:World}(h :(nmp b e eK (plI g) m none).h S r w)(z:S b->f b):(nmp b e eK (plI g) m none).h f r w:=by obtain⟨t,Sk,hm,u,hc,hh,j,_⟩:=h;exact⟨t,λ_ _=>False,hm,z u,hc,hh,λp hp d=>j p hp d,λc x hx=>hx.elim,λc c' x hx=>hx.elim⟩
theorem y4n{i:Nat}: ∀{ob:List (SO V.T)}{n j:Nat}{o:SO V.T},zpv V i n ob=true->ob[j]? = some o->i≠n+j->o = .emp\/(∃kc vc E m,o = .x (.map kc vc E m none)/\zbz (V.d vc)=true)\/(∃kc vc m c,o = .x (.it kc vc m c))\/∃E c l,o = .x (.fix E c l)
 | [],n,j,o,h,d,f=>by simp at d
 |p::ob,n,j,o,h,d,f=>by
  have key :(p = .emp\/(∃kc vc E m,p = .x (.map kc vc E m none)/\zbz (V.d vc)=true)\/(∃kc vc m c,p = .x (.it kc vc m c))\/(∃E c l,p = .x (.fix E c l))\/i=n)/\zpv V i (n+1) ob=true:=by
   unfold zpv at h;split at h
   .rename_i e;cases e
   .rename_i e;cases e;exact⟨.inl rfl,h⟩
   .rename_i e;cases e;simp only[w02] at h;exact⟨.inr (.inl ⟨_,_,_,_,rfl,h.1⟩),h.2⟩
   .rename_i e;cases e;exact⟨.inr (.inr (.inl ⟨_,_,_,_,rfl⟩)),h⟩
   .rename_i e;cases e;exact⟨.inr (.inr (.inr (.inl ⟨_,_,_,rfl⟩))),h⟩
   .rename_i e;cases e;simp only[w02] at h;exact⟨.inr (.inr (.inr (.inr (w03 h.1)))),h.2⟩
  cases j with
  |zero=>
   simp at d;subst d;rcases key.1 with q|q|q|q|q
   .exact .inl q
   .exact .inr (.inl q)
   .exact .inr (.inr (.inl q))
   .exact .inr (.inr (.inr q))
   .exact absurd q f
  |succ j=>exact y4n key.2 (by simpa using d) (by omega)
theorem yci[Dr](hN:z6x V N)(hl:A.length=s.ob.length)(a3:chP s.gb s.kn){f:Nat}{args:Array Operand}{ts:Array TypeId}{ty:TypeId}{k:SV V.T->SS V.T->Option R}{m:Msp V}{x:Operand}{gs:List Operand}(ab:N.mu f=some m)(a0:args.toList=x::gs)
  (h :(match evO s.sl s.kn x with
     |some (.own i)=>match s.ob[i]?,zpe V N (s.ob.set i .emp) s.sl s.kn m.ms gs with
      |some (.row E c l),some a=>bif Nat.beq E m.E&&(V.fl m.c||(V.sep m.c&&zpv V i 0 s.ob))&&zt.fnok N.P f then(if h:c=m.c then(m.F (h ▸ l) a).bind λl'=>k (.val (.tuple #[])) (updO V s i (.row m.E m.c l')) else none) else none
      |_,_=>none
     |_=>none)=some r) (dst pos after guard) :
  OpT C ⟨dst,.call { callee:=.value (.func f),args:=args,argTypes:=ts },ty,pos,after,guard⟩ (s.st V N.P A) (LOK V N.P r A s k):=by
 split at h
 .rename_i i hx;split at h
  .rename_i E c l a ho hm;cases hb :(Nat.beq E m.E&&(V.fl m.c||(V.sep m.c&&zpv V i 0 s.ob))&&zt.fnok N.P f) with
   |false=>rw[hb] at h;cases h
   |true=>
    rw[hb] at h;simp only[w02,w0w] at hb;have e1:=w03 hb.1.1;subst e1;simp only[cond_true] at h;split at h
    .rename_i e;subst e;obtain⟨l',aa,hk⟩:=bind_some h;have u:=z1t V N.P (A:=A) hx a3;simp only[SV.den] at u;cases ha:A[i]? with
     |none=>rw[ha] at u;exact zck u
     |some q=>
      rw[ha] at u;have ad:=zw V N.P (A:=A) (ps:=A) ha ho;refine yef N.P (sv:=q.2) i ad ?_ (z9q N.P hb.2) (args:=eqv q.2::msD V N.P m.ms a) ?_ (hN.mu f m ab l a l' q.2 aa) ?_
      .intro r0 S w hw;rcases hb.1.2 with a9|⟨ag,ae⟩
       .exact⟨λj b=>j≠i/\S j b,λj b h=>h,λj H hj hH=>by
         have :(λb=>j≠i/\S j b)=S j:=by funext b;exact propext ⟨λh=>h.2,λh=>⟨hj,h⟩⟩
         show H.h (λb=>j≠i/\S j b) r0 w;rw[this];exact hw.obj j H hH,.inl λy B hB=>(zl7 V _ _ a9 y).mem B hB⟩
       .refine⟨λj b=>j≠i/\S j b/\actB A s.ob j b,λj b h=>⟨h.1,h.2.1⟩,λj H hj hH=>?_,.inr ⟨λy B hB=>zxl V _ _ ag y B hB,?_⟩⟩
        .have z:j<s.ob.length:=by have:=(w04.1 hH).1;have e2 :(s.st V N.P A).objs.length=s.ob.length:=zeu V N.P A s.ob hl;omega
         have d:s.ob[j]? = some (s.ob[j]'z):=w0c z;obtain⟨p,hp⟩:∃p,A[j]? = some p:=⟨_,w0c (hl ▸ z)⟩;have a6:=zw V N.P (A:=A) (ps:=A) hp d;have eH:H =(s.ob[j]'z).den V N.P A p:=by have:=hH.symm.trans a6;simpa using this
         have hd:=hw.obj j H hH;rcases y4n (n:=0) ae d (by omega) with q1|⟨kc,vc,E2,mm,q1,af⟩|⟨kc,vc,mm,cc,q1⟩|⟨E2,c2,l2,q1⟩
         .rw[eH,q1];trivial
         .rw[q1] at eH d;subst eH;obtain⟨hv,hn⟩:=hd;refine⟨hv,?_⟩;rw[zmp af] at hn⊢;exact ylg hn λhS=>⟨hj,hS,p,hp,.inl ⟨kc,vc,E2,mm,d,rfl⟩⟩
         .rw[q1] at eH d;subst eH;obtain⟨hv,hS,hn⟩:=hd;exact⟨hv,⟨hj,hS,p,hp,.inr (.inl ⟨kc,vc,mm,cc,d,rfl⟩)⟩,hn⟩
         .rw[q1] at eH d;subst eH;obtain⟨⟨a8,g0,n0,a2⟩,hr⟩:=hd;refine⟨⟨a8,g0,n0,a2⟩,?_⟩;rcases hr with hn|⟨g,a5,cur,hv,hS,a1,h5⟩
          .exact .inl hn
          .refine .inr ⟨g,a5,cur,hv,⟨hj,hS,p,hp,.inr (.inr ⟨E2,c2,l2,n0,d,?_⟩)⟩,a1,h5⟩;rw[a2] at hv⊢;simp only[Value.slice.injEq,w01,Addr.mk.injEq] at hv;rw[hv.1.1]
        .rintro b ⟨j,_,_,a7⟩;exact y7r hw b ⟨j,a7⟩
      .intro ac r0 T w hw hs;have a4:obD V N.P A A (s.ob.set i .emp) =(s.st V N.P A).objs.set i Px.emp:=by rw[z6f V N.P A s.ob i q _ ha];rfl
       have hM:=ye0 (C:=C) (A:=A) (s:={ s with ob:=s.ob.set i .emp }) hN a3 rfl hm ac r0 T w (by show WInv C.w0 C.base (obD V N.P A A (s.ob.set i .emp)) r0 T w;rw[a4];exact hw) hs;rw[a0];refine⟨by simpa using hM.1,λk B hB=>?_⟩;cases k with
       |zero=>simp at hB;subst hB;exact u ac r0 w hs
       |succ k=>simpa using hM.2 k B (by simpa using hB)
      .rintro y l2 ⟨rfl,rfl⟩;refine⟨zem,[],s.ob.set i (.row m.E m.c l2),.val (.tuple #[]),hk,by simp[hl],by rw[w0e];exact Ent.refl,?_⟩;rw[w0e,z6f V N.P A s.ob i q _ ha];exact ObW.refl
    .cases h
  .cases h
 .cases h
theorem yme[Dr](hN:z6x V N)(u:A.length=s.ob.length)(j:chP s.gb s.kn){f:Nat}{x:Operand}{ts:Array TypeId}{ty:TypeId}{k:SV V.T->SS V.T->Option R}(h:soX V N s f x k=some r)(dst pos after guard):
  OpT C ⟨dst,.call { callee:=.value (.func f),args:=#[x],argTypes:=ts },ty,pos,after,guard⟩ (s.st V N.P A) (LOK V N.P r A s k):=by
 unfold soX at h;split at h
 .rename_i sp g y z hx;cases d :(Nat.beq g sp.g&&zt.fnok N.P f&&V.fl sp.kc) with
  |false=>rw[d] at h;cases h
  |true=>
   rw[d] at h;simp only[w02] at d;have e:=w03 d.1.1;subst e;simp only[cond_true] at h;split at h
   .rename_i m hm;obtain⟨hk,h⟩:=zef h;have hv:=z1t V N.P (A:=A) hx j;rw[SV.den] at hv;simp only[denV] at hv;refine y1o (z9q N.P d.1.2) (args:=[fnc sp.g [rop0 [V.mv V.ev sp.kc sp.vc m]]]) ?_ (hN.so f sp z m hk) λx news hK=>?_
    .exact⟨EvF.of hv (FEnt.fnc N.P ⟨yco V N.P hm,trivial⟩),trivial⟩
    .obtain⟨sv,rfl,rfl⟩:=hK;refine⟨zem,λH hH=>?_,⟨[(0,sv)],_,_,h,by simp[u],?_,?_⟩⟩
     .simp only[w0d] at hH;subst hH;exact zxo (zl7 V _ _ d.2)
     .simp only[SV.den,zd4 A _ _ u];exact Ent.refl
     .exact z6g (V:=V) (P:=N.P) (A:=A) (B:=[(0,sv)]) u (us:=[.row sp.E sp.kc (m.map (·.1))]) (H:=[row sp.E (V.ev sp.kc) (V.sz sp.kc) (m.map (·.1)) sv]) ⟨EntH.refl,trivial⟩
   .cases h
 .cases h
def yih:Op->Bool
 | .store ..=>true
 | .mapUpdate ..=>true
 |_=>false
theorem y4e[Dr](hN:z6x V N)(u:A.length=s.ob.length)(g:chP s.gb s.kn)(a4:GbOK s.toFm)(h1:OneA V A s.ob){o:Op}{ty:TypeId}{k:SV V.T->SS V.T->Option R}(h:z5m V N s o ty k=some r)(dst pos after guard)
  (hd:yih o=true->dst=none):OpT C ⟨dst,o,ty,pos,after,guard⟩ (s.st V N.P A) (LOK V N.P r A s k):=by
 have q:∀{o:Op},zt V N s [] o ty (λv=>k v s)=some r->OpT C ⟨dst,o,ty,pos,after,guard⟩ (s.st V N.P A) (LOK V N.P r A s k):=by intro o h;obtain⟨v,hv,hq⟩:=zex (C:=C) (A:=A) hN g a4 h1 h;refine OpT.of_q (hq trivial dst pos after guard) ⟨[],s.ob,v,hv,by simp[u],by rw[w0e];exact Ent.refl,by rw[w0e];exact ObW.refl⟩
 cases o with
 |box t x=>exact ykc u g h1 h dst pos after guard
 |alloc t=>exact yc9 u h dst pos after guard
 |store t a x=>have:=hd rfl;subst this;exact yfj u g h1 h pos after guard
 |buildSlice t n parts=>exact ztj u g h dst pos after guard
 |makeSlice t x y=>exact zy7 u g h dst pos after guard
 |makeMap t hint=>exact y6e u h dst pos after guard
 |range t x=>exact yez u g h dst pos after guard
 |mapUpdate t x i y=>have:=hd rfl;subst this;exact zy8 u g h pos after guard
 |call c=>
  obtain⟨callee,args,ts⟩:=c;simp only[z5m] at h;split at h
  .rename_i x i d;have ha:args = #[x,i]:=by cases args;simp at d;rw[d]
   subst ha;exact y8d u g h dst pos after guard
  .rename_i x y d;have ha:args = #[x,y]:=by cases args;simp at d;rw[d]
   subst ha;split at h
   .rename_i t t' a3;cases hb:Nat.beq t t' with
    |false=>rw[hb] at h;cases h
    |true=>
     rw[hb] at h;have e:=w03 hb;subst e;have ht:ts = #[t,t]:=by cases ts;simp at a3;rw[a3]
     subst ht;simp only[cond_true] at h;split at h
     .rename_i E z a1 i yv a0 hx hy;split at h
      .rename_i E' c l ho;cases j :(Nat.beq E E'&&Nat.beq z (V.sz c)&&Nat.blt 0 a1) with
       |false=>rw[j] at h;cases h
       |true=>rw[j] at h;simp only[w02,w2e] at j;have e1:=w03 j.1.1;have e2:=w03 j.1.2;subst e1;exact yfr u h ho a0 e2 j.2 (z1t V N.P hx g) (z1t V N.P hy g) dst pos after guard
      .cases h
     .rename_i E z a1 yv a0 hx hy;cases j :(Nat.beq z (V.sz (V.code E))&&Nat.blt 0 a1) with
      |false=>rw[j] at h;cases h
      |true=>rw[j] at h;simp only[w02,w2e] at j;exact y7u u g h a0 (w03 j.1) j.2 hx hy dst pos after guard
     .cases h
   .cases h
  .rename_i x y d;have ha:args = #[x,y]:=by cases args;simp at d;rw[d]
   subst ha;cases h
  .exact q h
  .rename_i f;split at h
   .rename_i sp a5;exact ycj hN u g a5 h dst pos after guard
   .split at h
    .rename_i m x gs a2 d;exact yci hN u g a2 d h dst pos after guard
    .rename_i x a2 d;have ha:args = #[x]:=by cases args;simp at d;rw[d]
     subst ha;exact yme hN u g h dst pos after guard
    .cases h
  .cases h
 |_=>exact q h
end
end Px
end
section
namespace Px
open Go Go.RowKit
theorem FzV.tup{sv:Value}{X:VP}{a b:List VP}(h:FzVs sv X a b):FzV sv X (tupv a) (tupv b):=by rintro r w v hx ⟨vs,e,z,hh⟩;obtain⟨f,g⟩:=h.at;refine⟨vs,e,by rw[z,f],λi B u=>?_⟩;obtain⟨A,j,d⟩:=g i B u;exact d _ _ _ hx (hh i A j)
theorem FzV.rop{sv:Value}{X:VP}{a b:List VP}(h:FzVs sv X a b):FzV sv X (rop a) (rop b):=by rintro r w v hx ⟨f,o,e,hr,hh⟩;obtain⟨h1,g⟩:=h.at;refine⟨f,o,e,hr,λj B hB=>?_⟩;obtain⟨A,hA,d⟩:=g j B hB;obtain⟨u,z,h4,h5⟩:=hh j A hA;exact⟨u,z,d _ _ _ hx h4,h5⟩
theorem FzVs.reflL{sv:Value}{X:VP}: ∀(l:List VP),FzVs sv X l l
 | []=>trivial
 |a::l=>⟨FzV.refl,FzVs.reflL l⟩
theorem FzVs.app{sv:Value}{X:VP}: ∀{a b c d:List VP},FzVs sv X a c->FzVs sv X b d->FzVs sv X (a++b) (c++d)
 | [],_,[],_,_,h=>h
 |_::_,_,_::_,_,h,k=>⟨h.1,FzVs.app h.2 k⟩
 | [],_,_::_,_,h,_=>h.elim
 |_::_,_,[],_,h,_=>h.elim
section
variable(V:TE)(P:Program)
mutual
theorem zjh[Dr]{A:Asg}{i:Nat}{u:SV V.T}{g:Nat->SV V.T}(hu:z1g u=false)(d:∀off,z1g (g off)=false){sv:Value}{X:VP}(h:FzV sv X ((SV.own i:SV V.T).den V P A) (u.den V P A))(hG:∀off,FzV sv X ((SV.ptr i off:SV V.T).den V P A) ((g off).den V P A)):∀(x:SV V.T),FzV sv X (x.den V P A) ((frV i u g x).den V P A)
 | .own j=>by
  simp only[frV];cases hj:Nat.beq j i with
  |false=>exact FzV.refl
  |true=>have:=w03 hj;subst this;exact h
 | .ptr j off=>by
  simp only[frV];cases hj:Nat.beq j i with
  |false=>exact FzV.refl
  |true=>have:=w03 hj;subst this;exact hG off
 | .agg cs=>by simp only[frV,SV.den];exact FzV.agg (z7z hu d h hG cs)
 | .tup xs=>by simp only[frV,SV.den];exact FzV.tup (y93 hu d h hG xs)
 | .rop cs=>by simp only[frV,SV.den];exact FzV.rop (z7z hu d h hG cs)
 | .func f caps=>by simp only[frV,SV.den];exact FzV.fnc2 (y93 hu d h hG caps)
 | .int k n=>FzV.refl
 | .bool b=>FzV.refl
 | .str s=>FzV.refl
 | .val v=>FzV.refl
 | .arr n c f=>FzV.refl
 | .ro c l=>FzV.refl
 | .elt i k z fo=>FzV.refl
 | .pta i off n z a1 a0 fo=>FzV.refl
 | .prt i lo hi z=>FzV.refl
 | .und=>FzV.refl
 | .rom kc vc m=>FzV.refl
 | .cmp c f=>FzV.refl
 | .top=>FzV.refl
theorem z7z[Dr]{A:Asg}{i:Nat}{u:SV V.T}{g:Nat->SV V.T}(h:z1g u=false)(d:∀off,z1g (g off)=false){sv:Value}{X:VP}(hA:FzV sv X ((SV.own i:SV V.T).den V P A) (u.den V P A))(hG:∀off,FzV sv X ((SV.ptr i off:SV V.T).den V P A) ((g off).den V P A)):∀(cs:List (SV V.T)),FzVs sv X (denL V P A cs) (denL V P A (frL i u g cs))
 | []=>trivial
 | .arr n c f::cs=>by simp only[frL,frV,denL];exact(FzVs.reflL _).app (z7z h d hA hG cs)
 | .own j::cs=>by
  have h1:=zjh h d hA hG (.own j);simp only[frL,denL];have h2:=z7z h d hA hG cs;simp only[frV] at h1⊢;cases hj:Nat.beq j i with
  |false=>rw[hj] at h1;exact⟨h1,h2⟩
  |true=>rw[hj] at h1;simp only[cond_true] at h1⊢;rw[z3p V P u,zj1 V P h];exact⟨h1,h2⟩
 | .ptr j off::cs=>by
  have h1:=zjh h d hA hG (.ptr j off);simp only[frL,denL];have h2:=z7z h d hA hG cs;simp only[frV] at h1⊢;cases hj:Nat.beq j i with
  |false=>rw[hj] at h1;exact⟨h1,h2⟩
  |true=>rw[hj] at h1;simp only[cond_true] at h1⊢;rw[z3p V P (g off),zj1 V P (d off)];exact⟨h1,h2⟩
 | .agg xs::cs=>by simp only[frL,frV,denL];exact⟨by simpa only[frV] using zjh h d hA hG (.agg xs),z7z h d hA hG cs⟩
 | .tup xs::cs=>by simp only[frL,frV,denL];exact⟨by simpa only[frV] using zjh h d hA hG (.tup xs),z7z h d hA hG cs⟩
 | .rop xs::cs=>by simp only[frL,frV,denL];exact⟨by simpa only[frV] using zjh h d hA hG (.rop xs),z7z h d hA hG cs⟩
 | .func f xs::cs=>by simp only[frL,frV,denL];exact⟨by simpa only[frV] using zjh h d hA hG (.func f xs),z7z h d hA hG cs⟩
 | .int k n::cs=>by simp only[frL,frV,denL];exact⟨FzV.refl,z7z h d hA hG cs⟩
 | .bool b::cs=>by simp only[frL,frV,denL];exact⟨FzV.refl,z7z h d hA hG cs⟩
 | .str s::cs=>by simp only[frL,frV,denL];exact⟨FzV.refl,z7z h d hA hG cs⟩
 | .val v::cs=>by simp only[frL,frV,denL];exact⟨FzV.refl,z7z h d hA hG cs⟩
 | .ro c l::cs=>by simp only[frL,frV,denL];exact⟨FzV.refl,z7z h d hA hG cs⟩
 | .elt i k z fo::cs=>by simp only[frL,frV,denL];exact⟨FzV.refl,z7z h d hA hG cs⟩
 | .pta i off n z a1 a0 fo::cs=>by simp only[frL,frV,denL];exact⟨FzV.refl,z7z h d hA hG cs⟩
 | .prt i lo hi z::cs=>by simp only[frL,frV,denL];exact⟨FzV.refl,z7z h d hA hG cs⟩
 | .und::cs=>by simp only[frL,frV,denL];exact⟨FzV.refl,z7z h d hA hG cs⟩
 | .rom kc vc m::cs=>by simp only[frL,frV,denL];exact⟨FzV.refl,z7z h d hA hG cs⟩
 | .cmp c f::cs=>by simp only[frL,frV,denL];exact⟨FzV.refl,z7z h d hA hG cs⟩
 | .top::cs=>by simp only[frL,frV,denL];exact⟨FzV.refl,z7z h d hA hG cs⟩
theorem y93[Dr]{A:Asg}{i:Nat}{u:SV V.T}{g:Nat->SV V.T}(j:z1g u=false)(d:∀off,z1g (g off)=false){sv:Value}{X:VP}(f:FzV sv X ((SV.own i:SV V.T).den V P A) (u.den V P A))(h:∀off,FzV sv X ((SV.ptr i off:SV V.T).den V P A) ((g off).den V P A)):∀(cs:List (SV V.T)),FzVs sv X (denV V P A cs) (denV V P A (frL i u g cs))
 | []=>trivial
 |x::cs=>by simp only[frL,denV];exact⟨zjh j d f h x,y93 j d f h cs⟩
end
theorem ykx[Dr]{A:Asg}{i:Nat}{u:SV V.T}{g:Nat->SV V.T}(j:z1g u=false)(d:∀off,z1g (g off)=false){sv:Value}{X:VP}(f:FzV sv X ((SV.own i:SV V.T).den V P A) (u.den V P A))(h:∀off,FzV sv X ((SV.ptr i off:SV V.T).den V P A) ((g off).den V P A))(p:Nat×Value)(o:SO V.T):FzH sv X (o.den V P A p) ((frO i u g o).den V P A p):=by
 cases o with
 |box t cs=>exact FzH.box (z7z V P j d f h cs)
 |row E c l=>exact FzH.refl
 |x o=>exact FzH.refl
 |emp=>exact FzH.refl
theorem y3s[Dr]{A:Asg}{i:Nat}{u:SV V.T}{g:Nat->SV V.T}(j:z1g u=false)(d:∀off,z1g (g off)=false){sv:Value}{X:VP}(f:FzV sv X ((SV.own i:SV V.T).den V P A) (u.den V P A))(h:∀off,FzV sv X ((SV.ptr i off:SV V.T).den V P A) ((g off).den V P A)):∀(ps:Asg)(os:List (SO V.T)),zmf sv X (obD V P A ps os) (obD V P A ps (os.map (frO i u g)))
 | [],os=>by cases os<;>trivial
 |p::ps,[]=>trivial
 |p::ps,o::os=>⟨ykx V P j d f h p o,y3s j d f h ps os⟩
theorem yg8{α β:Type}(f:α->β):∀(l:List (Nat×α))(t:Nat),lk (l.map λp=>(p.1,f p.2)) t =(lk l t).map f
 | [],t=>rfl
 |(k,x)::l,t=>by
  simp only[w0l,lk];cases Nat.beq k t with
  |true=>rfl
  |false=>exact yg8 f l t
theorem y91{i:Nat}{u:SV V.T}{g:Nat->SV V.T}(sl:Sls V.T)(t:Nat):lk (frSl i u g sl) t =(lk sl t).map λe=>(e.1,frV i u g e.2):=yg8 (λe:Ch×SV V.T=>(e.1,frV i u g e.2)) sl t
theorem y92[Dr]{A:Asg}{i:Nat}{u:SV V.T}{g:Nat->SV V.T}(hu:z1g u=false)(f:∀off,z1g (g off)=false){sv:Value}{X:VP}(z:FzV sv X ((SV.own i:SV V.T).den V P A) (u.den V P A))(hG:∀off,FzV sv X ((SV.ptr i off:SV V.T).den V P A) ((g off).den V P A)){gb:List (Nat×Bool)}{sl:Sls V.T}{a:Act}{ro:Nat->Prop}{w:World}(hx:X.h ro w sv)
  (hs:zj (slD V P A gb sl) a ro w):zj (slD V P A gb (frSl i u g sl)) a ro w:=by
 intro t B d;simp only[slD,y91] at d;cases j:lk sl t with
 |none=>rw[j] at d;cases d
 |some e=>
  rw[j] at d;simp only[w0z,w01] at d;subst d;have h:=hs t (denE V P A gb e) (by simp[slD,j]);obtain⟨ch,x⟩:=e;cases ch with
  |nil=>exact zjh V P hu f z hG x _ _ _ hx h
  |cons a r=>exact⟨λhc=>zjh V P hu f z hG x _ _ _ hx (h.1 hc),h.2⟩
theorem y90{i:Nat}{u:SV V.T}{g:Nat->SV V.T}{f:Fm V.T}(h:GbOK f):GbOK { f with sl:=frSl i u g f.sl }:=by
 have back:∀t ch z,lk (frSl i u g f.sl) t=some (ch,z)->∃z',lk f.sl t=some (ch,z')/\frV i u g z'=z:=by
  intro t ch z d;simp only[y91] at d;cases hl:lk f.sl t with
  |none=>rw[hl] at d;cases d
  |some e=>rw[hl] at d;simp only[w0z,w01,w0k] at d;exact⟨e.2,by rw[<- d.1],d.2⟩
 refine⟨λt g hg ch z d=>?_,λt ch z d=>?_,h.kn⟩
 .obtain⟨z',j,h2⟩:=back t ch z d;rw[<- h2,h.val t g hg ch z' j];rfl
 .obtain⟨z',j,_⟩:=back t ch z d;exact h.ch t ch z' j
variable{V P}
theorem y3t[Dr]{A:Asg}{i:Nat}{u:SV V.T}{g:Nat->SV V.T}(hu:z1g u=false)(d:∀off,z1g (g off)=false){sv:Value}{X:VP}(j:FzV sv X ((SV.own i:SV V.T).den V P A) (u.den V P A))(z:∀off,FzV sv X ((SV.ptr i off:SV V.T).den V P A) ((g off).den V P A)){ro:Nat->Prop}{w:World}(hx:X.h ro w sv):
  ∀{fs:List (Fm V.T)}{as:List GA},Stk V P A ro w fs as->Stk V P A ro w (fs.map λp=>{ p with sl:=frSl i u g p.sl }) as
 | [],[],_=>trivial
 |f::fs,a::as,h=>⟨⟨y92 V P hu d j z hx h.1.1,h.1.2.1,y90 V h.1.2.2.1,h.1.2.2.2⟩,y3t hu d j z hx h.2⟩
 | [],_::_,h=>h.elim
 |_::_,[],h=>h.elim
theorem Stk.mono[Dr]{A:Asg}{ro d:Nat->Prop}{w:World}(h:∀b,ro b->d b):∀{fs:List (Fm V.T)}{as:List GA},Stk V P A ro w fs as->Stk V P A d w fs as
 | [],[],_=>trivial
 |f::fs,a::as,hh=>⟨⟨λt B g=>B.mono h (λ_ _=>rfl) (hh.1.1 t B g),hh.1.2⟩,Stk.mono h hh.2⟩
 | [],_::_,h=>h.elim
 |_::_,[],h=>h.elim
theorem yg2[Dr]{C:Cx P}{d:List GA}{s:SS V.T}{a:Act}{w:World}(i:Nat)(u:SV V.T)(g:Nat->SV V.T)(hu:z1g u=false)(f:∀off,z1g (g off)=false){o:SO V.T}(ho:s.ob[i]? = some o)
  (hx:∀A q r S,A[i]? = some q->(o.den V P A q).h S r w->∃sv X,X.h (λb=>r b\/S b) w sv/\FzV sv X ((SV.own i:SV V.T).den V P A) (u.den V P A)/\∀off,FzV sv X ((SV.ptr i off:SV V.T).den V P A) ((g off).den V P A)) (h:SatS V C d s a w):SatS V C d (frC s i u g) a w:=by
 obtain⟨hd,hn,a5,a4,A,ro,S,hl,hw,z,a7,a8⟩:=h;cases ha:A[i]? with
 |none=>have h1:=(w04.1 ho).1;rw[List.getElem?_eq_none_iff] at ha;omega
 |some q=>
  have a1:=zw V P (A:=A) (ps:=A) ha ho;have a6:i<(obD V P A A s.ob).length:=(w04.1 a1).1;obtain⟨sv,X,hX,hA,hG⟩:=hx A _ ro (S i) ha (hw.obj i _ a1);have a3:zmf sv X ((obD V P A A s.ob).set i Px.emp) (obD V P A A ((s.ob.set i .emp).map (frO i u g))):=by
   have e1 :(obD V P A A s.ob).set i Px.emp=obD V P A A (s.ob.set i .emp):=by rw[z6f V P A s.ob i q .emp ha];rfl
   rw[e1];exact y3s V P hu f hA hG A _
  obtain⟨r',S',j,a9,a0,a2⟩:=y96 i a6 hw z.ev hX a3;exact⟨hd,hn,a5,y90 V a4,A,r',S',by simp[frC,hl],a9,z.up a0 j,y92 V P hu f hA hG a2 (λt B hB=>B.mono j (λ_ _=>rfl) (a7 t B hB)),y3t hu f hA hG a2 (a8.mono j)⟩
theorem y3r[Dr]{C:Cx P}{d:List GA}{s:SS V.T}{a:Act}{w:World}(i:Nat)(u:SV V.T)(j:z1g u=false){o:SO V.T}(g:s.ob[i]? = some o)
  (z:∀A q r S,A[i]? = some q->(o.den V P A q).h S r w->(u.den V P A).h (λb=>r b\/S b) w q.2) (h:SatS V C d s a w):SatS V C d (frC s i u (.ptr i)) a w:=
 yg2 i u (.ptr i) j (λ_=>rfl) g (λA q r S f hh=>⟨q.2,_,z A q r S f hh,by simp only[SV.den,f];exact FzV.here,λ_=>FzV.refl⟩) h
theorem yms{c:Nat}(h:zxy (V.d c)=true)(x:V.T c):V.ev c x = [Px.ro (V.ev (zd2 (V.d c) x).1) (V.sz (zd2 (V.d c) x).1) (zd2 (V.d c) x).2]:=by rw[V.ev_eq];revert x h;generalize V.d c=d;generalize V.T c=α at d;intro h x;cases d<;>simp[zxy] at h<;>rfl
theorem ynk{c:Nat}(h:zxy (V.d c)=true):V.sz c=1:=by rw[V.sz_eq];revert h;generalize V.d c=d;generalize V.T c=α at d;intro h;cases d<;>simp[zxy] at h<;>rfl
theorem yky[Dr]{C:Cx P}{f:List GA}{s:SS V.T}{a:Act}{w:World}(i:Nat)(h:SatS V C f s a w):SatS V C f (frS V s i) a w:=by
 unfold frS;split
 .rename_i T cs z;refine yg2 i (.own i) (frG V i cs) rfl (λoff=>by unfold frG;split<;>rfl) z (λA q r S ha hh=>?_) h;obtain⟨hS,cur,a0,hc⟩:=hh;refine⟨.pointer (some ⟨q.1,0,none⟩),Px.rop (denL V P A cs),⟨q.1,0,rfl,.inr hS,λj B hB=>?_⟩,FzV.refl,λoff=>?_⟩
  .obtain⟨v,hv,g,a2⟩:=hc.2 j B hB;refine⟨v,?_,B.mono (λb hb=>.inl hb) (λ_ _=>rfl) g,a2⟩;rw[w1j,cell_of_row w q.1 j cur T (0,0) a0];simpa using hv
  .unfold frG;split
   .rename_i l hl;obtain⟨e1,e2⟩:=zd5 V P (A:=A) cs off l hl;intro r' w' v hX hv;simp only[SV.den,ha,eqv] at hv;subst hv;obtain⟨b,o',hb,hr,a1⟩:=hX;simp only[Value.pointer.injEq,w01,Addr.mk.injEq,and_true] at hb;obtain⟨rfl,rfl⟩:=hb;simp only[SV.den];refine⟨_,off,rfl,hr,λj B hB=>?_⟩;rw[e1,w20] at hB;obtain⟨v,hv,g⟩:=a1 (off+j) B hB;exact⟨v,by rw[<- hv,w1j],g⟩
   .exact FzV.refl
 .rename_i o a3 z;cases d:frX V o with
  |none=>exact h
  |some u=>
   simp only;unfold frX at d;split at d
   .rename_i E c l;cases d;exact y3r i (.ro c l) rfl z (λA q r S ha h=>zt5 (V.ev_len c) h) h
   .rename_i E E2 c l;cases d;refine y3r i (.ro c l) rfl z (λA q r S ha h=>?_) h;obtain⟨hp,hn⟩:=h;show (Px.ro (V.ev c) (V.sz c) l).h _ _ _;have e1:V.ev c=λx=>[Px.ro (V.ev (zd2 (V.d c) x).1) (V.sz (zd2 (V.d c) x).1) (zd2 (V.d c) x).2]:=funext λx=>yms hp.1 x
    rw[e1,ynk hp.1];exact ylh hn λx v S' hh=>zt5 (V.ev_len _) hh
   .rename_i E c l;cases d;exact y3r i (.ro c l) rfl z (λA q r S ha h=>zt5 (V.ev_len c) h.2) h
   .rename_i kc vc E m;cases hk:V.okV vc with
    |false=>rw[hk] at d;cases d
    |true=>rw[hk] at d;cases d;refine y3r i (.rom kc vc m) rfl z (λA q r S ha h=>?_) h;obtain⟨hp,hn⟩:=h;rw[hp.1];exact yga V hk hn
   .cases d
 .exact h
theorem ydp{T:Nat->Type}{f:Nat}{l:List (T f)}: ∀{α:Type}{d:Ds T α}{y:α},ydo f l d=some y->zd2 d y =⟨f,l⟩
 |_,.sl c,y,h=>by
  simp only[ydo] at h;split at h
  .rename_i e;subst e;simp only[w01] at h;subst h;rfl
  .cases h
 |_,.int _,_,h|_,.bool,_,h|_,.str,_,h|_,.arr _ _,_,h|_,.map _ _,_,h|_,.st _ _ _ _,_,h=>by simp[ydo] at h
theorem y9f{E kc vc g:Nat}{m:List (V.T kc×V.T vc)}{p:V.T kc×Nat}{α:Type}{d:Ds V.T α}: insM V E d (.x (.map kc vc g m (some p)))=none:=by
 cases d with
 |map h f=>simp only[insM,insP];cases zbz (V.d f)<;>rfl
 |_=>rfl
theorem yib[Dr]{A:Asg}{E c:Nat}{o:SO V.T}{y:V.T c}{q:Nat×Value}{S r:Nat->Prop}{w:World}(h:insM V E (V.d c) o=some y)(z :(o.den V P A q).h S r w):(V.inm E c y q.2).h S r w:=by
 unfold TE.inm;revert y h;generalize V.d c=d;revert d;generalize V.T c=α;intro d y h;cases d with
 |sl c=>
  simp only[insM] at h;unfold insS at h;split at h
  .rename_i j c' l;cases f:Nat.beq j E with
   |false=>rw[f] at h;cases h
   |true=>
    rw[f] at h;have:=w03 f;subst this;simp only[cond_true] at h;split at h
    .rename_i e;subst e;cases h;exact z
    .cases h
  .cases h
 |map kc vc=>
  simp only[insM] at h;cases g:zbz (V.d vc) with
  |false=>rw[g] at h;cases h
  |true=>
   rw[g] at h;simp only[cond_true] at h;unfold insP at h;split at h
   .rename_i a0 a1 j m;split at h
    .rename_i e;subst e;split at h
     .rename_i e;subst e;cases h;obtain⟨hp,u⟩:=z;refine⟨q.1,hp.1,?_⟩;simp only[zmp g] at u;exact u
     .cases h
    .cases h
   .cases h
 |_=>simp[insM] at h
theorem SatS.objs[Dr]{C:Cx P}{d:List GA}{s:SS V.T}{a:Act}{w:World}{ob':List (SO V.T)}(h:SatS V C d s a w)
  (k:∀A ro S,A.length=s.ob.length->WInv C.w0 C.base (obD V P A A s.ob) ro S w->∃B f,(A++B).length=ob'.length/\WInv C.w0 C.base (obD V P (A++B) (A++B) ob') ro f w):SatS V C d { s with ob:=ob' } a w:=by
 obtain⟨hd,hn,u,j,A,ro,S,hl,hw,g,z,a0⟩:=h;obtain⟨B,f,h1,h2⟩:=k A ro S hl hw;exact⟨hd,hn,u,j,A++B,ro,f,h1,h2,g,zhe V P (AExt.app A B) z,Stk.ext (AExt.app A B) (Evo.refl C.base _ _) a0⟩
theorem zua[Dr]{C:Cx P}{a0:List GA}{s s':SS V.T}{a:Act}{w:World}(i:Nat)(d:y0v V s i=some s')(h:SatS V C a0 s a w):SatS V C a0 s' a w:=by
 unfold y0v at d;split at d
 .rename_i kc vc E m k j ho;split at d
  .rename_i o u;split at d
   .rename_i y hy;cases hk:V.key kc with
    |false=>rw[hk] at d;cases d
    |true=>
     rw[hk] at d;simp only[cond_true,w01] at d;subst d;refine h.objs λA ro S hl hw=>⟨[],?_⟩
     rw[w0e];have li:=(w04.1 ho).1;have lj:=(w04.1 u).1;have z:i≠j:=λe=>by subst e;rw[ho] at u;cases u;rw[y9f] at hy;cases hy
     obtain⟨qi,g⟩:∃q,A[i]? = some q:=⟨A[i],by simp[hl,li]⟩;obtain⟨qj,f⟩:∃q,A[j]? = some q:=⟨A[j],by simp[hl,lj]⟩;have hi:=zw V P (A:=A) (ps:=A) g ho;have a1:=zw V P (A:=A) (ps:=A) f u;obtain⟨S',a2⟩:=hw.fuse i j (H:=(SO.x (.map kc vc E (cset (V.kl kc) m k y) none):SO V.T).den V P A qi) z hi a1 (λh1 h2 hd=>by obtain⟨hp,hn⟩:=h1;refine⟨⟨hp.1,λ_ _ e=>by cases e⟩,?_⟩;simp only[zby,f] at hn;exact ye3 (yl6 hk) hn (yib hy h2) hd);refine⟨S',by simp[hl],?_⟩;rw[z6f V P A _ j qj .emp f,z6f V P A _ i qi _ g];exact a2
   .cases d
  .cases d
 .rename_i E E2 c l k j ho;split at d
  .rename_i E' c' l' u;cases hb:Nat.beq E' E2 with
   |false=>rw[hb] at d;cases d
   |true=>
    rw[hb] at d;have e1:=w03 hb;subst e1;simp only[cond_true] at d;split at d
    .rename_i y hy;simp only[w01] at d;subst d;refine h.objs λA ro S hl hw=>⟨[],?_⟩
     rw[w0e];have li:=(w04.1 ho).1;have lj:=(w04.1 u).1;have z:i≠j:=λe=>by subst e;rw[ho] at u;cases u
     obtain⟨qi,g⟩:∃q,A[i]? = some q:=⟨A[i],by simp[hl,li]⟩;obtain⟨qj,f⟩:∃q,A[j]? = some q:=⟨A[j],by simp[hl,lj]⟩;have hi:=zw V P (A:=A) (ps:=A) g ho;have a1:=zw V P (A:=A) (ps:=A) f u;obtain⟨S',a2⟩:=hw.fuse i j (H:=(SO.x (.nst E E' c (zo l k y) none):SO V.T).den V P A qi) z hi a1 (λh1 h2 hd=>by obtain⟨hp,hn⟩:=h1;refine⟨⟨hp.1,λ_ _ e=>by cases e⟩,?_⟩;simp only[zg4,f] at hn;refine ye4 hn ?_ hd;unfold TE.inn;rw[ydp hy];exact h2);refine⟨S',by simp[hl],?_⟩;have e3 :(s.ob.set i (.x (.nst E E' c (zo l k y) none)))[j]? = some (.row E' c' l'):=by rw[w2b z];exact u
     rw[z6f V P A _ j qj .emp f,z6f V P A _ i qi _ g];exact a2
    .cases d
  .cases d
 .simp only[w01] at d;subst d;exact h
theorem y3q[Dr]{C:Cx P}{d:List GA}{s:SS V.T}{a:Act}{w:World}(i:Nat)(h:SatS V C d s a w):SatS V C d (zxs V s i) a w:=by
 unfold zxs;cases f:y0v V s i with
 |none=>exact h
 |some s'=>exact zua i f h
theorem yhx[Dr]{C:Cx P}{R:Type}{r:R}{g:List GA}{s:SS V.T}{a:Act}{w:World}{i:Nat}{m:Int}{k:SS V.T->Option R}(hf:focX V s i m k=some r)(h:SatS V C g s a w):∃s',k s'=some r/\SatS V C g s' a w:=by
 unfold focX at hf;split at hf
 .rename_i f a4;have h1:=zua i a4 h;split at hf
  .rename_i E E2 c l ho;obtain⟨hm,hk⟩:=zef hf;refine⟨_,hk,h1.objs λA ro S hl hw=>?_⟩;have li:=(w04.1 ho).1;obtain⟨qi,u⟩:∃q,A[i]? = some q:=⟨A[i],by simp[hl,li]⟩;have hi:=zw V P (A:=A) (ps:=A) u ho;have a2 :(obD V P A A f.ob).length=f.ob.length:=zeu V P A f.ob hl;obtain⟨hp,hn⟩:=hw.obj i _ hi;obtain⟨v,S1,S2,n1,n2,n3,n4,n5⟩:=ya2 hn (zgw (z:=V.z c) hm);have a3:i<(obD V P A A f.ob).length:=(w04.1 hi).1;have a0 :(A++[((0:Nat),v)])[f.ob.length]? = some (0,v):=zd4 A _ _ hl;obtain⟨S',a5⟩:=hw.split i (H1:=(SO.x (.nst E E2 c l (some (m,f.ob.length))):SO V.T).den V P (A++[(0,v)]) qi) (H2:=row E2 (V.ev (zd2 (V.d c) (gtz (V.z c) l m)).1) (V.sz (zd2 (V.d c) (gtz (V.z c) l m)).1) (zd2 (V.d c) (gtz (V.z c) l m)).2 v) a3 S1 S2 (by
     refine⟨⟨hp.1,λk j e=>?_⟩,?_⟩
     .simp only[w01,w0k] at e;rw[<- e.2,a0];rfl
     .simp only[zg4,a0];exact n1) n2 n3 n4 n5
   refine⟨[(0,v)],?_⟩;have a1 :(f.ob.set i (.x (.nst E E2 c l (some (m,f.ob.length))))).length=A.length:=by simp[hl]
   have a7 :(A++[((0:Nat),v)])[i]? = some qi:=by rw[w0r (by omega)];exact u
   obtain⟨S3,a6⟩:=ObW.le (z7y.app (c:=[row E2 (V.ev (zd2 (V.d c) (gtz (V.z c) l m)).1) (V.sz (zd2 (V.d c) (gtz (V.z c) l m)).1) (zd2 (V.d c) (gtz (V.z c) l m)).2 v]) (d:=[row E2 (V.ev (zd2 (V.d c) (gtz (V.z c) l m)).1) (V.sz (zd2 (V.d c) (gtz (V.z c) l m)).1) (zd2 (V.d c) (gtz (V.z c) l m)).2 v])
    (by rw[w2o,w2o,a2,zeu V P A f.ob hl]) (zib (zo0 V P (AExt.app A [(0,v)]) A f.ob) i _) ⟨EntH.refl,trivial⟩) _ _ _ _ _ a5
   refine⟨S3,by simp[hl],?_⟩;rw[zut V P A _ [(0,v)] _ a1.symm,z6f V P A f.ob i qi _ u];exact a6
  .cases hf
 .cases hf
theorem yjy[Dr]{E c:Nat}{o:SO V.T}{y:V.T c}{v:Value}{S r:Nat->Prop}{w:World}(h:splM V E (V.d c) y=some o)(f :(V.inm E c y v).h S r w):∃b,∀A,(o.den V P A (b,v)).h S r w:=by
 unfold TE.inm at f;revert y h;generalize V.d c=d;revert d;generalize V.T c=α;intro d y h f;cases d with
 |sl u=>simp only[splM,w01] at h;subst h;exact⟨0,λA=>f⟩
 |map kc vc=>
  simp only[splM] at h;cases g:zbz (V.d vc) with
  |false=>rw[g] at h;cases h
  |true=>rw[g] at h;cases h;obtain⟨b,rfl,j⟩:=f;refine⟨b,λA=>⟨⟨rfl,λ_ _ e=>by cases e⟩,?_⟩⟩;show (nmp b (V.kl kc) (V.kv kc) (V.inm 0 vc) y none).h S r w;rw[zmp g];exact j
 |_=>simp[splM] at h
theorem yhw[Dr]{C:Cx P}{R:Type}{r:R}{u:List GA}{s:SS V.T}{a:Act}{w:World}{i:Nat}{key :(kc:Nat)->Option (V.T kc)}{k:SS V.T->Option R}(f:focM V s i key k=some r)(h:SatS V C u s a w):∃s',k s'=some r/\SatS V C u s' a w:=by
 unfold focM at f;split at f
 .rename_i g a4;have h1:=zua i a4 h;split at f
  .rename_i kc vc E m ho;split at f
   .rename_i y hy;split at f
    .rename_i x hx;split at f
     .rename_i o a5;refine⟨_,f,h1.objs λA ro S hl hw=>?_⟩;have li:=(w04.1 ho).1;obtain⟨qi,z⟩:∃q,A[i]? = some q:=⟨A[i],by simp[hl,li]⟩;have hi:=zw V P (A:=A) (ps:=A) z ho;have a2 :(obD V P A A g.ob).length=g.ob.length:=zeu V P A g.ob hl;obtain⟨hp,hn⟩:=hw.obj i _ hi;obtain⟨v,S1,S2,n1,n2,n3,n4,n5⟩:=ya0 hn hx;obtain⟨b,hb⟩:=yjy (P:=P) a5 n2;have a3:i<(obD V P A A g.ob).length:=(w04.1 hi).1;have a0 :(A++[(b,v)])[g.ob.length]? = some (b,v):=zd4 A _ _ hl;obtain⟨S',a6⟩:=hw.split i (H1:=(SO.x (.map kc vc E m (some (y,g.ob.length))):SO V.T).den V P (A++[(b,v)]) qi) (H2:=o.den V P (A++[(b,v)]) (b,v)) a3 S1 S2 (by
        refine⟨⟨hp.1,λk j e=>?_⟩,?_⟩
        .simp only[w01,w0k] at e;rw[<- e.2,a0];rfl
        .simp only[zby,a0];exact n1) (hb _) n3 n4 n5
      refine⟨[(b,v)],?_⟩;have a1 :(g.ob.set i (.x (.map kc vc E m (some (y,g.ob.length))))).length=A.length:=by simp[hl]
      have a8 :(A++[(b,v)])[i]? = some qi:=by rw[w0r (by omega)];exact z
      obtain⟨S3,a7⟩:=ObW.le (z7y.app (c:=[o.den V P (A++[(b,v)]) (b,v)]) (d:=[o.den V P (A++[(b,v)]) (b,v)])
       (by rw[w2o,w2o,a2,zeu V P A g.ob hl]) (zib (zo0 V P (AExt.app A [(b,v)]) A g.ob) i _) ⟨EntH.refl,trivial⟩) _ _ _ _ _ a6
      refine⟨S3,by simp[hl],?_⟩;rw[zut V P A _ [(b,v)] _ a1.symm,z6f V P A g.ob i qi _ z];exact a7
     .cases f
    .exact⟨_,f,h1⟩
   .cases f
  .cases f
 .cases f
theorem znx[Dr]{C:Cx P}{d:List GA}{a:Act}{w:World}: ∀(f:List Nat){s:SS V.T},SatS V C d s a w->SatS V C d (zxu V s f) a w
 | [],_,h=>h
 |i::f,s,h=>znx f (s:=frS V (zxs V s i) i) (yky i (y3q i h))
end
end Px
end
section
namespace Px
open Go Go.RowKit
theorem y83{gb f:List (Nat×Bool)}{ch:Ch}(h:∀p∈ch,(lk gb p.1).isSome=true->lk f p.1=lk gb p.1)(g:∀p∈ch,(lk gb p.1).isSome=true):chP gb ch↔chP f ch:=by
 rw[z9k,z9k];constructor
 .intro k p d;rw[h p d (g p d)];exact k p d
 .intro k p d;rw[<- h p d (g p d)];exact k p d
theorem zm6{gb:List (Nat×Bool)}{kn:Ch}(hk:chP gb kn):∀{ch:Ch},(∀cur,resolve kn ch=some cur->(chP gb ch↔chP gb cur)/\∀p∈cur,p∈ch)/\(resolve kn ch=none->¬chP gb ch)
 | []=>⟨λcur h=>by simp[resolve] at h;subst h;exact⟨Iff.rfl,λp h=>h⟩,λh=>by simp[resolve] at h⟩
 |(t,w)::r=>by
  obtain⟨h1,h2⟩:=zm6 hk (ch:=r);have cons_iff:∀(p:Nat×Bool)(l:Ch),chP gb (p::l)↔(lk gb p.1).getD false=p.2/\chP gb l:=by intro p l;rw[z9k,z9k,List.forall_mem_cons]
  cases d:resolve kn r with
  |none=>refine⟨λcur h=>?_,λ_ h=>h2 d ((cons_iff _ _).1 h).2⟩;simp only[resolve,d] at h;cases lk kn t<;>cases h
  |some q=>
   obtain⟨u,z⟩:=h1 q d;cases g:lk kn t with
   |none=>
    refine⟨λcur h=>?_,λh=>by simp[resolve,d,g] at h⟩;simp only[resolve,d,g,w01] at h;subst h;refine⟨by rw[cons_iff,cons_iff,u],λp hp=>?_⟩;rcases w05.1 hp with rfl|hp
    .exact w0n ..
    .exact w0g _ (z p hp)
   |some b=>
    have j:=yim hk g;cases f :(b==w) with
    |true=>
     have:b=w:=by simpa using f
     subst this;refine⟨λcur h=>?_,λh=>by simp[resolve,d,g] at h⟩;simp only[resolve,d,g,BEq.rfl,cond_true,w01] at h;subst h;exact⟨by rw[cons_iff,u];exact⟨λh=>h.2,λh=>⟨j,h⟩⟩,λp hp=>w0g _ (z p hp)⟩
    |false=>refine⟨λcur h=>by simp[resolve,d,g,f] at h,λ_ h=>?_⟩;have:=((cons_iff _ _).1 h).1;simp only at this;rw[j] at this;subst this;simp at f
section
variable{V:TE}{N:Env V}{R:Type}{r:R}{C:Cx N.P}
theorem z0k{α:Type}{d:Nat}{x:α}{l:List (Nat×α)}{t:Nat}: lk ((d,x)::l) t=if t=d then some x else lk l t:=by
 simp only[lk];by_cases h:t=d
 .subst h;simp
 .have:Nat.beq d t=false:=zo7 (λe=>h e.symm);rw[this,if_neg h];rfl
theorem zqu[Dr]{j:List GA}{s s2:SS V.T}{d:Option Nat}{e:Ch×SV V.T}(f:yff V s d e=some s2)(a6:∀p∈e.1,(lk s.gb p.1).isSome=true){A B:Asg}{a:Act}{w w':World}{ro a0:Nat->Prop}{S':Nat->Nat->Prop}{v0:Value}
  (hd:True) (hn:a.tmps.size=s.n) (a7:chP s.gb s.kn) (a1:GbOK s.toFm) (hl :(A++B).length=s.ob.length) (hw:WInv C.w0 C.base (obD V N.P (A++B) (A++B) s.ob) a0 S' w') (a3:EvM C.base C.r0 C.wI (mks a j) (lps j) ro w) (u:Evo C.base ro w a0 w')
  (aa:zj (slD V N.P A s.gb s.sl) a ro w) (a8:Stk V N.P A ro w s.stk j) (hx :(denE V N.P (A++B) s.gb e).h a0 w' v0):SatS V C j s2 (a.put d v0) w':=by
 have a5:=AExt.app A B;have a4:=zhe V N.P a5 (aa.evo u);cases d with
 |none=>simp only[yff,w01] at f;subst f;exact⟨hd,hn,a7,a1,A++B,a0,S',hl,hw,a3.trans u,a4,a8.ext a5 u⟩
 |some d=>
  simp only[yff] at f;cases hg:lk s.gb d with
  |some g=>rw[hg] at f;cases f
  |none=>
   rw[hg] at f;cases hb:Nat.blt d s.n with
   |false=>simp only[hb] at f;cases f
   |true=>
    simp only[hb,cond_true,w01] at f;subst f;have a9:d<s.n:=by simpa using hb
    refine⟨hd,by simp[Act.put,hn],a7,⟨?_,?_,a1.kn⟩,A++B,a0,S',hl,hw,a3.trans u,?_,a8.ext a5 u⟩
    .intro t g a2 ch z hz;simp only[z0k] at hz;split at hz
     .rename_i e1;subst e1;simp only at a2;rw[hg] at a2;cases a2
     .exact a1.val t g a2 ch z hz
    .intro t ch z hz;simp only[z0k] at hz;split at hz
     .simp only[w01] at hz;rw[<- show e.1=ch by rw[hz]];exact a6
     .exact a1.ch t ch z hz
    .intro t X hX;simp only[slD,z0k] at hX;rw[zji a (some d) v0 t (λy hy=>by simp at hy;subst hy;rw[hn];exact a9)];by_cases h:t=d
     .subst h;simp only[if_true,w0z,w01] at hX;subst hX;simpa using hx
     .rw[if_neg h] at hX;rw[if_neg (λe=>h (by simpa using e.symm))];exact a4 t X hX
theorem y3z[Dr]{A:Asg}{s:SS V.T}{ops:Array Oper}{a:Act}{ro:Nat->Prop}{w:World}{j t:Nat}{ch:Ch}{b want:Bool}(f :(ops[j]?).bind (·.dst)=some t)(g:lk s.sl t=some (ch,.bool b))(d:lk s.gb t=some b)
  (h:zj (slD V N.P A s.gb s.sl) a ro w) :(chP s.gb ((t,want)::ch)->yielded ops a.tmps j=some want)/\(¬chP s.gb ((t,want)::ch)->yielded ops a.tmps j≠some want):=by
 cases ch with
 |nil=>have:=zud (want:=want) f (by simp[slD,g];rfl) h;simpa only[chP,d,w1b] using this
 |cons c l=>have:=y0w (want:=want) f (by simp[slD,g];rfl) h;simpa only[chP,d,w1b] using this
theorem yml[Dr]{A:Asg}{s:SS V.T}{ops:Array Oper}{a:Act}{ro:Nat->Prop}{w:World}{j t:Nat}(d :(ops[j]?).bind (·.dst)=some t)(f:lk s.sl t=some ([],.und))(g:zj (slD V N.P A s.gb s.sl) a ro w):yielded ops a.tmps j=none:=(ze7 d).2 (g t (eqv undef) (by simp[slD,f];rfl))
theorem yg3{f:Fm V.T}{t:Nat}{ch:Ch}{b:Bool}(j:GbOK f)(hl:lk f.sl t=some (ch,.bool b))(hg:lk f.gb t=none):GbOK { f with gb:=(t,b)::f.gb }/\(∀c:Ch,(∀p∈c,(lk f.gb p.1).isSome=true)->(chP f.gb c↔chP ((t,b)::f.gb) c)):=by
 have key:∀(u:Nat),(lk f.gb u).isSome=true->lk ((t,b)::f.gb) u=lk f.gb u:=by intro u d;rw[z0k,if_neg];rintro rfl;rw[hg] at d;cases d
 refine⟨⟨?_,?_,?_⟩,λc hc=>y83 (λp _ h=>key p.1 h) hc⟩
 .intro u g d c z hz;simp only[z0k] at d;split at d
  .rename_i e;subst e;simp only[w01] at d;subst d;rw[hl] at hz;simp only[w01,w0k] at hz;exact hz.2.symm
  .exact j.val u g d c z hz
 .intro u c z hz p hp;have:=j.ch u c z hz p hp;simp only[key p.1 this,this]
 .intro p hp;have:=j.kn p hp;simp only[key p.1 this,this]
theorem ymb[Dr]{P:Program}{A:Asg}{f:Fm V.T}{t:Nat}{ch:Ch}{b:Bool}(g:GbOK f)(hl:lk f.sl t=some (ch,.bool b))(hg:lk f.gb t=none){a:Act}{ro:Nat->Prop}{w:World}(h:zj (slD V P A f.gb f.sl) a ro w):
  zj (slD V P A ((t,b)::f.gb) f.sl) a ro w:=by
 intro u X d;simp only[slD] at d;cases j:lk f.sl u with
 |none=>rw[j] at d;cases d
 |some e=>
  rw[j] at d;simp only[w0z,w01] at d;subst d;have z:=h u (denE V P A f.gb e) (by simp[slD,j]);obtain⟨c,x⟩:=e;cases c with
  |nil=>exact z
  |cons p l=>have e1:=(yg3 g hl hg).2 (p::l) (g.ch u _ _ j);exact⟨λhc=>z.1 (e1.2 hc),λhc=>z.2 (λh=>hc (e1.1 h))⟩
theorem y65[Dr]{u:List GA}{ops:Array Oper}{s:SS V.T}{g:Nat×Bool}{x:Option Ch}{s':SS V.T}{a:Act}{w:World}(h:zg3 V ops.toList s g=some (x,s'))(hs:SatS V C u s a w):
  SatS V C u s' a w/\s'.sl=s.sl/\s'.ob=s.ob/\match x with
   |none=>yielded ops a.tmps g.1=none
   |some ch=>(∀p∈ch,(lk s'.gb p.1).isSome=true)/\(chP s'.gb ch->yielded ops a.tmps g.1=some g.2)/\(¬chP s'.gb ch->yielded ops a.tmps g.1≠some g.2):=by
 unfold zg3 at h;have a3:∀t,(ops.toList[g.1]?).bind (·.dst)=some t->(ops[g.1]?).bind (·.dst)=some t:=λt h=>by simpa using h
 split at h
 .rename_i t ht;have ht:=a3 t ht;split at h
  .rename_i j;simp only[w01,w0k] at h;obtain⟨rfl,rfl⟩:=h;obtain⟨_,_,_,_,A,ro,S,_,_,_,f,_⟩:=id hs;exact⟨hs,rfl,rfl,yml ht j f⟩
  .rename_i ch b j;split at h
   .rename_i g' hg;simp only[w01,w0k] at h;obtain⟨rfl,rfl⟩:=h;obtain⟨_,_,_,d,A,ro,S,_,_,_,f,_⟩:=id hs;have e:=d.val t g' hg ch _ j;simp only[SV.bool.injEq] at e;subst e;obtain⟨h1,h2⟩:=y3z (want:=g.2) ht j hg f;refine⟨hs,rfl,rfl,λp hp=>?_,h1,h2⟩;rcases w05.1 hp with rfl|hp
    .simp[hg]
    .exact d.ch t ch _ j p hp
   .rename_i hg;simp only[w01,w0k] at h;obtain⟨rfl,rfl⟩:=h;obtain⟨hd,hn,a2,d,A,ro,S,a0,hw,a1,f,a4⟩:=id hs;obtain⟨g1,g2⟩:=yg3 d j hg;have z:=ymb d j hg f;obtain⟨h1,h2⟩:=y3z (s:={ s with gb:=(t,b)::s.gb }) (want:=g.2) ht j (by simp[z0k]) z;refine⟨⟨hd,hn,(g2 _ d.kn).1 a2,g1,A,ro,S,a0,hw,a1,z,a4⟩,rfl,rfl,λp hp=>?_,h1,h2⟩;rcases w05.1 hp with rfl|hp
    .simp[z0k]
    .exact g1.ch t ch _ j p hp
  .cases h
 .cases h
end
end Px
end
section
namespace Px
open Go Go.RowKit
section
variable{V:TE}{N:Env V}{R:Type}{r:R}{C:Cx N.P}
theorem y4y[Dr]{A:Asg}{s:SS V.T}{a:Act}{ro:Nat->Prop}{S:Nat->Nat->Prop}{w:World}(hw:WInv C.w0 C.base (obD V N.P A A s.ob) ro S w)(j:zj (slD V N.P A s.gb s.sl) a ro w):
  ∀{u:List ResultVar}{l:List (SV V.T)},zhm V N s u=some l->∃vs,(u.mapM (zw4 a.tmps)).run N.P w = .ok vs w/\vs.length =(denV V N.P A l).length/\∀(i:Nat)(B:VP),(denV V N.P A l)[i]? = some B->B.h ro w (vs.getD i undef)
 | [],l,h=>by simp only[zhm,w01] at h;subst h;exact⟨[],rfl,rfl,λi B h=>by simp[denV] at h⟩
 |rv::u,l,h=>by
  have step:∀(x:SV V.T)(m:List (SV V.T))(v:Value),zhm V N s u=some m->(zw4 a.tmps rv).run N.P w = .ok v w->(x.den V N.P A).h ro w v->l=x::m->
    ∃vs,((rv::u).mapM (zw4 a.tmps)).run N.P w = .ok vs w/\vs.length =(denV V N.P A l).length/\∀(i:Nat)(B:VP),(denV V N.P A l)[i]? = some B->B.h ro w (vs.getD i undef):=by
   intro x m v f hv hx hl;subst hl;obtain⟨vs,e1,e2,e3⟩:=y4y hw j f;refine⟨v::vs,?_,by simp[denV,e2],λi B z=>?_⟩
   .rw[List.mapM_cons];simp only[w08,hv,w06,e1,w0p]
   .cases i with
    |zero=>simp[denV] at z;subst z;simpa using hx
    |succ i=>simpa using e3 i B (by simpa[denV] using z)
  have slot:∀t x,lk s.sl t=some ([],x)->(x.den V N.P A).h ro w (a.tmps.getD t undef):=λt x hx=>j t _ (by simp[slD,hx];rfl)
  cases rv with
  |tmp t=>
   simp only[zhm] at h;split at h
   .rename_i x hx;split at h
    .rename_i m f;simp only[w01] at h;exact step x m _ f rfl (slot t x hx) h.symm
    .cases h
   .cases h
  |cell b t=>
   simp only[zhm] at h;split at h
   .rename_i p g n hp ht;split at h
    .rename_i x hx;split at h
     .rename_i m f;simp only[w01] at h;have a0:Ev (s.st V N.P A) (.tmp b) (p.den V N.P A):=Ev.tmp (by simp[SS.st,slD,hp];rfl);have a1:∃v,(zw4 a.tmps (.cell b t)).run N.P w = .ok v w/\(x.den V N.P A).h ro w v:=by
       rcases yl8 V N.P (C:=C) hx a0 with d|⟨rfl,cs,d⟩|⟨rfl,cs,e,hl,d⟩
       .exact(d a ro w j).elim
       .exact RV.run (C:=C) (s:=s.st V N.P A) (rv:=.cell b t) (.inl ⟨n,ht,cs,d⟩) hw j
       .exact RV.run (C:=C) (s:=s.st V N.P A) (rv:=.cell b t) (.inr ⟨cs,e,hl ▸ ht,d⟩) hw j
      obtain⟨v,d,h2⟩:=a1;exact step x m v f d h2 h.symm
     .cases h
    .cases h
   .cases h
theorem zhc[Dr]{A:Asg}{s:SS V.T}{fn:Func}{a:Act}{ro:Nat->Prop}{S:Nat->Nat->Prop}{w:World}(hw:WInv C.w0 C.base (obD V N.P A A s.ob) ro S w)(hs:zj (slD V N.P A s.gb s.sl) a ro w)
  {l:List (SV V.T)} (h:zhm V N s fn.results.toList=some l):∃v,(results fn a.tmps).run N.P w = .ok v w/\((resV V l).den V N.P A).h ro w v:=by
 obtain⟨vs,g,d,f⟩:=y4y hw hs h;have z :(fn.results.mapM (zw4 a.tmps)).run N.P w = .ok vs.toArray w:=by rw[Array.mapM_eq_mapM_toList];simp only[Sem.run_map,g,w06]
 refine⟨if h:vs.toArray.size=1 then vs.toArray[0] else .tuple vs.toArray,?_,?_⟩
 .rw[y6z];simp only[w08,z,w06,w0p]
 .match l,vs with
  | [],[]=>rfl
  | [x],[v]=>simpa[resV,denV] using f 0 _ (by simp[denV])
  |x::y::l,v::u::vs=>simp only[resV,SV.den];refine⟨(v::u::vs).toArray,by simp,by simpa using d,λi B j=>?_⟩;have:=f i B j;simpa[w07,w26] using this
  | [],_::_=>simp[denV] at d
  |_::_,[]=>simp[denV] at d
  | [_],_::_::_=>simp[denV] at d
  |_::_::_,[_]=>simp[denV] at d
def zn5[Dr](Γ:List (Option (Nat×Nat)))(C:Cx N.P)(r:R)(run:Code->SS V.T->KX V R->Option R)(c:Code)(K:KX V R):Prop:=∀(rd:Option Nat)(acts:List GA)(Q:Exit->Act->World->Prop),acts.map GA.lpI=Γ->(rd=none\/noRF c=true)->(∀e s a w,K e s=some r->SatS V C acts s a w->Q e a w)->∀s a w,run c s K=some r->SatS V C acts s a w->c.wpIn (fz rd) 0 N.P Q a w
theorem yh1[Dr]{B b:Nat}{d w:World}(h:Bel B d w)(f:B<=b)(o:Obj):Bel B d (w.putObj b o):=h.trans ⟨⟨rfl,rfl,rfl,by simp,λk g=>w1m (by omega)⟩,λ_=>w16 _⟩
theorem WInv.put[Dr]{j w:World}{d b:Nat}{f:List HP}{ro:Nat->Prop}{S:Nat->Nat->Prop}(h:WInv j d f ro S w)(g:ro b)(hB:d<=b)(hr:Rec w.heap[b]?)(o:Obj):WInv j d f ro S (w.putObj b o) where
 below:=yh1 h.below hB o
 size:=by simp;exact h.size
 obj:=λi H hi=>H.wk (λ_ h=>h) (λx _ hn=>w1m λe=>hn (e ▸ hr)) (λx hx=>w1m λe=>(h.own i x hx).2.2.2 (e ▸ g)) (h.obj i H hi)
 own:=λi x hx=>by obtain⟨u,z,h3,h4⟩:=h.own i x hx;exact⟨u,z,by simpa using h3,h4⟩
 apart:=h.apart
 old:=λx hx=>by simpa using h.old x hx
theorem zj.putR{s:z9i}{a:Act}{ro:Nat->Prop}{w:World}{b:Nat}(f:Rec w.heap[b]?)(o:Obj)(h:zj s a ro w):zj s a ro (w.putObj b o):=λt A g=>A.wk (λ_ h=>h) (λx _ d=>w1m λe=>d (e ▸ f)) (h t A g)
theorem Stk.putR[Dr]{P:Program}{A:Asg}{ro:Nat->Prop}{w:World}{b:Nat}(j:Rec w.heap[b]?)(o:Obj):∀{fs:List (Fm V.T)}{d:List GA},Stk V P A ro w fs d->Stk V P A ro (w.putObj b o) fs d
 | [],[],_=>trivial
 |f::fs,g::d,h=>⟨⟨h.1.1.putR j o,h.1.2⟩,Stk.putR j o h.2⟩
 | [],_::_,h=>h.elim
 |_::_,[],h=>h.elim
theorem Evo.putR{B b:Nat}{r0 ro:Nat->Prop}{wI w:World}(h:Evo B r0 wI ro w)(d:¬r0 b)(o:Obj):Evo B r0 wI ro (w.putObj b o):=⟨h.1,λx hx=>(w1m λ(e:x=b)=>d (by rw[<- e];exact hx)).trans (h.2.1 x hx),h.2.2⟩
theorem zmr{F:Fence}{n:Nat}{P:Program}{fn:Func}{tmps:Array Value}{R:Ending->World->Prop}(Φ:World->Prop)(d:∀w,Φ w->∃v,(results fn tmps).run P w = .ok v w/\R (.returned v) w):∀(Ds:List Nat)(w:World),Ds.Nodup->
  (∀D∈Ds,w.heap[D]? = some (.deferred (some [])))->Φ w->(∀w,∀D∈Ds,w.heap[D]? = some (.deferred (some []))->Φ w->Φ (w.putObj D (.deferred none)))->LeavesInM F n P fn tmps R (Ds.map mkD) .returning w
 | [],w,_,_,h,_=>d w h
 |D::Ds,w,j,hw,h,z=>by have u:=hw D (w0n ..);have f:=w1x.1 j;refine⟨λe=>(by cases e),.inl ⟨D,_,rfl,run_takeDeferred u,zmr Φ d Ds _ f.2 (λE g=>?_) (z w D (w0n ..) u h) λw E g=>z w E (w0g _ g)⟩⟩;rw[w1m λ(e:E=D)=>f.1 (by rw[<- e];exact g)];exact hw E (w0g _ g)
theorem zfv{P:Program}{f:FuncId}{fn:Func}{c:Code}{args:Array Value}{w:World}{R:Ending->World->Prop}(g:P.funcs[f]? = some fn)(d:fn.body=some c)
  (h:c.wpIn (fz none) 0 P (bodyPostM (fz none) 0 P fn R) { tmps:=args++Array.replicate (fn.ntmps-args.size) undef,defers:=[] } w):Calls P f args w R:=
 yck (n:=0) (callsIn_of_wp_marks g d trivial h rfl)
theorem zny[Dr]{A:Asg}{d:List GA}{s:SS V.T}{a:Act}{w:World}{ro:Nat->Prop}{S:Nat->Nat->Prop}{fn:Func}(hw:WInv C.w0 C.base (obD V N.P A A s.ob) ro S w)(g:EvM C.base C.r0 C.wI (mks a d) (lps d) ro w)
  (a2:zj (slD V N.P A s.gb s.sl) a ro w) (a3:Stk V N.P A ro w s.stk d) {R':Ending->World->Prop}
  (hk:∀w',WInv C.w0 C.base (obD V N.P A A s.ob) ro S w'->EvM C.base C.r0 C.wI (d.flatMap (·.act.defers)) (lps d) ro w'->zj (slD V N.P A s.gb s.sl) a ro w'->Stk V N.P A ro w' s.stk d->∃v,(results fn a.tmps).run N.P w' = .ok v w'/\R' (.returned v) w') :
  LeavesInM (fz none) 0 N.P fn a.tmps R' a.defers .returning w:=by
 obtain⟨Ds,h1,h2,h3⟩:=g.bk.df;unfold mks at h1;obtain⟨u,z,rfl,e1,e2⟩:=List.map_eq_append_iff.1 h1.symm;obtain⟨n1,n2,n3⟩:=w4m.1 h2;have j:∀D∈u,C.base<=D:=λD f=>by obtain⟨q1,q2,_⟩:=h3 D (w1f _ f);exact(g.ev.2.2 D q1).resolve_left q2
 rw[<- e1];refine zmr (λw'=>WInv C.w0 C.base (obD V N.P A A s.ob) ro S w'/\EvM C.base C.r0 C.wI (d.flatMap (·.act.defers)) (lps d) ro w'/\zj (slD V N.P A s.gb s.sl) a ro w'/\Stk V N.P A ro w' s.stk d)
  (λw' h=>hk w' h.1 h.2.1 h.2.2.1 h.2.2.2) u w n1 (λD f=>(h3 D (w1f _ f)).2.2) ⟨hw,⟨g.ev,⟨z,e2.symm,n2,λD f=>h3 D (w1u _ f)⟩,g.bk.lp⟩,a2,a3⟩ ?_
 rintro w' D f a0 ⟨g1,g2,g3,g4⟩;obtain⟨q1,q2,_⟩:=h3 D (w1f _ f);have hr:Rec w'.heap[D]?:=.inl ⟨_,a0⟩;refine⟨g1.put q1 (j D f) hr _,⟨g2.ev.putR q2 _,?_,g2.bk.lp.1,λp hp=>?_⟩,g3.putR hr _,g4.putR hr _⟩
 .refine⟨z,e2.symm,n2,λE hE=>?_⟩;obtain⟨x1,x2,x3⟩:=h3 E (w1u _ hE);refine⟨x1,x2,?_⟩;rw[w1m λe=>n3 D f E hE e.symm];obtain⟨Es,y1,y2,y3⟩:=g2.bk.df;have:E∈Es:=by
   have h5:mkD E∈Es.map mkD:=by rw[<- y1,<- e2];exact List.mem_map_of_mem hE
   obtain⟨E',a1,e'⟩:=w0b.1 h5;have:E'=E:=by simpa[mkD] using e'
   rw[<- this];exact a1
  exact(y3 E this).2.2
 .obtain⟨x1,x2,x3⟩:=g2.bk.lp.2 p hp;refine⟨x1,x2,?_⟩;rw[w1m λe=>by rw[e,a0] at x3;cases x3];exact x3
theorem zd3:∀(n:Nat)(l:List (SV V.T))(t:Nat),lk (zfr V n l) t=if n<=t then(l[t-n]?).map λx=>([],x) else none
 |n,[],t=>by simp[zfr,lk]
 |n,x::l,t=>by
  simp only[zfr,z0k,zd3 (n+1) l t];by_cases h:t=n
  .subst h;simp
  .rw[if_neg h];by_cases d:n+1<=t
   .rw[if_pos d,if_pos (by omega)];have:t-n =(t-(n+1))+1:=by omega
    rw[this,w29]
   .rw[if_neg d,if_neg (by omega)]
theorem y2w[Dr]{A:Asg}{as:List (SV V.T)}{vs:Array Value}{ro:Nat->Prop}{w:World}{df:List Deferred}{n:Nat}(g:vs.size=as.length)(j:∀(i:Nat)(B:VP),(denV V N.P A as)[i]? = some B->B.h ro w (vs.getD i undef)):
  zj (slD V N.P A [] (zfr V 0 as)) { tmps:=vs++Array.replicate n undef,defers:=df } ro w:=by
 intro t X z;simp only[slD,zd3,w30,if_true,w3f,Option.map_map,w1w] at z;obtain⟨x,hx,rfl⟩:=z;have f:=(w04.1 hx).1;have d:∀(l:List (SV V.T))(t:Nat),l[t]? = some x->(denV V N.P A l)[t]? = some (x.den V N.P A):=by
  intro l
  induction l with
  |nil=>intro t h;simp at h
  |cons y l ih=>intro t h;cases t with
   |zero=>simp at h;subst h;rfl
   |succ t=>simp at h;simpa[denV] using ih t h
 have:=j t _ (d as t hx);have u:t<vs.size:=g ▸ f;simpa[denE,w07,w1a,u] using this
theorem yi1[Dr]{Γ:List (Option (Nat×Nat))}{d:List GA}(hΓ:d.map GA.lpI=Γ){inl:Inl V R}{s:SS V.T}{f:Nat}{as:List (SV V.T)}{k:SV V.T->SS V.T->Option R}(h:goIn V N inl s f as k=some r)
  (a1:∀fn c,N.P.funcs[f]? = some fn->fn.body=some c->zn5 (none::Γ) C r (inl f) c (inlK V N fn k)) {a:Act} {w:World} {A:Asg} {ro:Nat->Prop} {S:Nat->Nat->Prop}
  (hn:a.tmps.size=s.n) (a9:chP s.gb s.kn) (a8:GbOK s.toFm) (hl:A.length=s.ob.length) (hw:WInv C.w0 C.base (obD V N.P A A s.ob) ro S w) (a7:EvM C.base C.r0 C.wI (mks a d) (lps d) ro w) (ac:zj (slD V N.P A s.gb s.sl) a ro w) (ad:Stk V N.P A ro w s.stk d)
  {vs:Array Value} (a6:vs.size=as.length) (ae:∀(i:Nat)(B:VP),(denV V N.P A as)[i]? = some B->B.h ro w (vs.getD i undef))
  {R':Value->World->Prop} (hk:∀v s' A' j S' w' u,k v s'=some r->a.tmps.size=s'.n->chP s'.gb s'.kn->GbOK s'.toFm->A'.length=s'.ob.length->WInv C.w0 C.base (obD V N.P A' A' s'.ob) j S' w'->EvM C.base C.r0 C.wI (mks a d) (lps d) j w'->
   zj (slD V N.P A' s'.gb s'.sl) a j w'->Stk V N.P A' j w' s'.stk d->(v.den V N.P A').h j w' u->R' u w'):FnOK N.P f/\Calls N.P f vs w λe w'=>∃u,e = .returned u/\R' u w':=by
 unfold goIn at h;split at h
 .rename_i fn hf;split at h
  .rename_i c hb;cases hc :(zt.fnok N.P f&&Nat.ble as.length fn.ntmps) with
   |false=>rw[hc] at h;cases h
   |true=>
    rw[hc] at h;simp only[w02] at hc;simp only[cond_true] at h;refine⟨z9q N.P hc.1,?_⟩;have ak:=w0s hc.2;refine zfv hf hb (a1 fn c hf hb none (⟨a,none⟩::d) _ (by rw[w0l,hΓ];rfl) (.inl rfl) ?_ _ _ _ h ?_)
    .-- ao callee aj ended
     intro e s' a' w' hK ab;have fin :(match zhm V N s' fn.results.toList,s'.stk with
       |some l,f::stk=>k (resV V l) { f with stk:=stk,ob:=s'.ob }
       |_,_=>none)=some r->LeavesInM (fz none) 0 N.P fn a'.tmps (λe w'=>∃u,e = .returned u/\R' u w') a'.defers .returning w':=by
      intro hK;split at hK
      .rename_i l fm stk a2 a5;obtain⟨_,am,ai,ah,A',j,S',aa,ag,a0,a3,a4⟩:=ab;refine zny ag a0 a3 a4 λw2 g1 g2 g3 g4=>?_
       obtain⟨v,hv,af⟩:=zhc g1 g3 a2;rw[a5] at g4;exact⟨v,hv,v,rfl,hk _ _ A' j S' w2 v hK g4.1.2.2.2.2 g4.1.2.1 g4.1.2.2.1 aa g1 g2 g4.1.1 g4.2 af⟩
      .cases hK
     cases e with
     |ret=>exact fin hK
     |normal=>exact fin hK
     |exit id=>simp[inlK] at hK
     |goto l=>simp[inlK] at hK
     |panic ch=>simp[inlK] at hK
     |outgrown=>simp[inlK] at hK
    .refine⟨trivial,by simp[a6];omega,trivial,⟨λt g h=>by simp[lk] at h,λt ch z hz p hp=>?_,λp hp=>by simp at hp⟩,A,ro,S,hl,hw,a7,y2w a6 ae,⟨⟨ac,a9,a8,(λx e=>by cases e),hn⟩,ad⟩⟩;rw[zd3] at hz;simp only[w30,if_true,w1w,w0k] at hz;obtain⟨_,_,rfl,_⟩:=hz;simp at hp
  .cases h
 .cases h
def YOK[Dr](Γ:List (Option (Nat×Nat)))(C:Cx N.P)(r:R)(inl:Inl V R)(k:SV V.T->SS V.T->Option R):Prop:=
 ∀(rd:Option Nat)(acts:List GA),acts.map GA.lpI=Γ->∀(s:SS V.T)(vs:List (SV V.T))(a:Act)(w:World)(A:Asg)(ro:Nat->Prop)(S:Nat->Nat->Prop),y2p V inl s vs k=some r->
  a.tmps.size=s.n->chP s.gb s.kn->GbOK s.toFm->A.length=s.ob.length->WInv C.w0 C.base (obD V N.P A A s.ob) ro S w->EvM C.base C.r0 C.wI (mks a acts) (lps acts) ro w->zj (slD V N.P A s.gb s.sl) a ro w->Stk V N.P A ro w s.stk acts->
  ∀(args:Array Value),args.size=vs.length->(∀(i:Nat)(B:VP),(denV V N.P A vs)[i]? = some B->B.h ro w (args.getD i undef))->
  ∀(R':Value->World->Prop),(∀v s' A' ro' S' w' u,k v s'=some r->a.tmps.size=s'.n->chP s'.gb s'.kn->GbOK s'.toFm->A'.length=s'.ob.length->WInv C.w0 C.base (obD V N.P A' A' s'.ob) ro' S' w'->EvM C.base C.r0 C.wI (mks a acts) (lps acts) ro' w'->
   zj (slD V N.P A' s'.gb s'.sl) a ro' w'->Stk V N.P A' ro' w' s'.stk acts->(v.den V N.P A').h ro' w' u->R' u w')->
  ∃g gs L x,acts=g::gs/\g.lp=some (L,x)/\∃fn tmps asg bd,(Instr.yield L args).run N.P w = .ok (.round L fn tmps asg bd) w/\RoundIn (fz rd) 0 N.P L fn tmps asg bd w λe w'=>∃u,e = .returned u/\R' u w'
end
end Px
end
section
namespace Px
open Go Go.RowKit
section
variable{V:TE}{N:Env V}{R:Type}{r:R}{C:Cx N.P}
theorem ziq[Dr]{A:Asg}{s:SS V.T}{ch:Ch}(f:chP s.gb ch):∀{os:List Operand}{l:List (SV V.T)},zws V s.sl ch os=some l->∀a ro w,zj (slD V N.P A s.gb s.sl) a ro w->
  os.length=l.length/\∀(i:Nat)(B:VP),(denV V N.P A l)[i]? = some B->B.h ro w ((os.map a.eval).getD i undef)
 | [],l,h,a,ro,w,_=>by simp[zws] at h;subst h;exact⟨rfl,λi B h=>by simp[denV] at h⟩
 |o::os,l,h,a,ro,w,g=>by
  simp only[zws] at h;split at h
  .rename_i x hx;split at h
   .rename_i m z;simp only[w01] at h;subst h;obtain⟨j,u⟩:=ziq f z a ro w g;refine⟨by simp[j],λi B d=>?_⟩;cases i with
    |zero=>simp[denV] at d;subst d;exact z1t V N.P hx f a ro w g
    |succ i=>simpa using u i B (by simpa[denV] using d)
   .cases h
  .cases h
theorem ztt[Dr]{P:Program}{A:Asg}: ∀(l m:List (SV V.T)),denV V P A (l++m)=denV V P A l++denV V P A m
 | [],m=>rfl
 |x::l,m=>by simp only[w2j,denV,ztt l m]
theorem zgt[Dr]{P:Program}{A:Asg}: ∀(l:List (SV V.T)),(denV V P A l).length=l.length
 | []=>rfl
 |x::l=>by simp only[denV,w0o,zgt l]
theorem zpu[Dr]{A:Asg}{ob:List (SO V.T)}{w0:World}{d:Nat}{ro:Nat->Prop}{S:Nat->Nat->Prop}{w:World}(h:WInv w0 d (obD V N.P A A ob) ro S w):OneA V A ob:=by
 intro i q o z ho j;have f:=h.obj i _ (zw V N.P z ho);cases o with
 |row E c l=>exact y2e f
 |x o=>
  cases o with
  |map kc vc E m hh=>have g:=f.1.1;rw[g];rfl
  |it kc vc m c=>have g:=f.1;rw[g];rfl
  |fix E c l=>exact y2e f.2
  |nst E E2 c l hh=>obtain⟨_,vs,S0,Sk,_,u,_⟩:=f;exact y2e u
 |box t cs=>cases j
 |emp=>cases j
theorem yia[Dr]{s:SS V.T}{o:Oper}{f:Nat}{vs:List (SV V.T)}(h:inlC V N s o.op=some (f,vs))(a0:chP s.gb s.kn){A:Asg}{a:Act}{ro:Nat->Prop}{w:World}(hs:zj (slD V N.P A s.gb s.sl) a ro w):
  ∃args:Array Value,args.size=vs.length/\(∀(i:Nat)(B:VP),(denV V N.P A vs)[i]? = some B->B.h ro w (args.getD i undef))/\(FnOK N.P f->(execOp a.eval o).run N.P w = .ok (.enter f args) w):=by
 obtain⟨dst,op,ty,pos,a6,guard⟩:=o;unfold inlC at h;split at h
 .rename_i c a4;obtain⟨callee,as,ts⟩:=c;simp only at a4;subst a4;have a5:∀(fo:Operand)(caps:Array Value),a.eval fo = .func (.func f) #[] caps->FnOK N.P f->(execOp a.eval ⟨dst,.call { callee:=.value fo,args:=as,argTypes:=ts },ty,pos,a6,guard⟩).run N.P w = .ok (.enter f (as.map a.eval++caps)) w:=by rintro fo caps a7 ⟨fn,h1,h2,h3⟩;simp[execOp,Go.resolve,a7,Deferred.ofValue,invoke,z2w h1 h2 h3]
  split at h
  .rename_i g d;simp only at d;subst d;split at h
   .rename_i us a1;simp only[w01,w0k] at h;obtain⟨rfl,rfl⟩:=h;obtain⟨u,e2⟩:=ziq (N:=N) (A:=A) a0 a1 a ro w hs;refine⟨as.map a.eval,by simpa using u,λi B z=>?_,λhF=>?_⟩
    .have:=e2 i B z
     simpa[w07,w26] using this
    .have:=a5 (.func g) #[] rfl hF
     simpa using this
   .cases h
  .rename_i t d;simp only at d;subst d;split at h
   .rename_i g caps us hg a1;split at h
    rotate_left
    .cases h
    simp only[w01,w0k] at h;obtain⟨rfl,rfl⟩:=h;obtain⟨u,e2⟩:=ziq (N:=N) (A:=A) a0 a1 a ro w hs;have a2:=z1t V N.P (A:=A) hg a0 a ro w hs;simp only[SV.den] at a2;obtain⟨cv,h1,h2,h3⟩:=a2;rw[zgt] at h2;refine⟨as.map a.eval++cv,by simp at u;simp[u,h2],λi B z=>?_,λhF=>a5 (.tmp t) cv h1 hF⟩;rw[ztt,w2g] at z;simp at u;split at z
    .rename_i a9;rw[zgt] at a9;have:=e2 i B z;have a3:i<as.size:=by omega
     simpa[w07,w26,w1a,a3] using this
    .rename_i a8;rw[zgt] at a8 z;have:=h3 _ B z;have j:¬i<as.size:=by omega
     rw[u] at j;simpa[w07,w1a,j,u] using this
   .cases h
  .cases h
 .cases h
theorem yi9{s:SS V.T}{o:Op}{p:Nat×List (SV V.T)}(h:inlC V N s o=some p):∀c,o≠.defer c:=by rintro c rfl;simp[inlC] at h
theorem yk4{s:SS V.T}{o:Op}{vs:List (SV V.T)}(h:yldC V s o=some vs):∀c,o≠.defer c:=by rintro c rfl;simp[yldC] at h
theorem yk5[Dr]{s:SS V.T}{o:Oper}{vs:List (SV V.T)}(h:yldC V s o.op=some vs)(a1:chP s.gb s.kn){A:Asg}{a:Act}{ro:Nat->Prop}{w:World}(hs:zj (slD V N.P A s.gb s.sl) a ro w):
  ∃args:Array Value,args.size=vs.length/\(∀(i:Nat)(B:VP),(denV V N.P A vs)[i]? = some B->B.h ro w (args.getD i undef))/\
   ∀g gs L x,Stk V N.P A ro w s.stk (g::gs)->g.lp=some (L,x)->(execOp a.eval o).run N.P w =(Instr.yield L args).run N.P w:=by
 obtain⟨dst,op,ty,pos,a8,guard⟩:=o;unfold yldC at h;split at h
 .rename_i c a2;obtain⟨callee,as,ts⟩:=c;simp only at a2;subst a2;split at h
  .rename_i t f fs u a4;simp only at u;subst u;split at h
   .rename_i i j us hi hj a7;cases d:Nat.beq i j with
    |false=>rw[d] at h;cases h
    |true=>
     rw[d] at h;simp only[cond_true,w01] at h;subst h;have d:=w03 d;subst d;obtain⟨e1,e2⟩:=ziq (N:=N) (A:=A) a1 a7 a ro w hs;refine⟨as.map a.eval,by simpa using e1,λi B hB=>?_,?_⟩
     .have:=e2 i B hB
      simpa[w07,w26] using this
     .intro g gs L x a3 hg;have hv:=z1t V N.P (A:=A) hi a1 a ro w hs;rw[a4] at a3;have z:=a3.1;have a0:=z.1 (f.n-1) _ (by simp only[slD,hj];rfl);have a6:g.tm.tmps.getD (f.n-1) undef = .func (.yield L) #[] #[]:=by
       have h1:=z.2.2.2.2;unfold GA.tm at h1⊢;rw[hg] at h1⊢;simp only[w5t] at h1⊢;have:f.n-1=g.act.tmps.size:=by omega
       rw[this];simp
      have a5:a.eval (.tmp t) = .func (.yield L) #[] #[]:=by
       simp only[SV.den,denE] at hv a0;cases hA:A[i]? with
       |none=>rw[hA] at hv;exact hv.elim
       |some q=>rw[hA] at hv a0;rw[show a.eval (.tmp t)=q.2 from hv,<- a6];exact a0.symm
      simp[execOp,Go.resolve,a5,Deferred.ofValue,invoke]
   .cases h
  .cases h
 .cases h
theorem ydx[Dr](hN:z6x V N){Γ:List (Option (Nat×Nat))}{rd:Option Nat}{z:List GA}(hΓ:z.map GA.lpI=Γ){inl:Inl V R}{o:Oper}{s:SS V.T}{k:SS V.T->Option R}(h:y6d V N inl o s k=some r)
  (ac:∀f fn c,N.P.funcs[f]? = some fn->fn.body=some c->zn5 (none::Γ) C r (inl f) c (inlK V N fn λv s=>after V s o.dst ([],v) k)) (ar:YOK Γ C r inl λv s=>after V s o.dst ([],v) k) {a:Act} {w:World} (hs:SatS V C z s a w) {next:Act->World->Prop} {Q:Exit->Act->World->Prop}
  (hk:∀s2 v0 w',k s2=some r->SatS V C z s2 (a.put o.dst v0) w'->next (a.put o.dst v0) w'):o.wpIn (fz rd) 0 N.P a w next Q:=by
 unfold y6d at h;cases a2:y0j o with
 |false=>rw[a2] at h;cases h
 |true=>
  rw[a2] at h;simp only[cond_true] at h;have a8:=znx (y62 V N s o.op) hs;revert h a8;generalize zxu V s (y62 V N s o.op)=s1;intro h a8;obtain⟨hd,hn,a0,a4,A,ro,S,hl,hw,a7,a1,a5⟩:=a8
  have fin:∀(v:SV V.T)(s':SS V.T)(A' B':Asg)(a3 j:Nat->Prop)(S':Nat->Nat->Prop)(w1 w':World)(u:Value),after V s' o.dst ([],v) k=some r->a.tmps.size=s'.n->chP s'.gb s'.kn->GbOK s'.toFm->(A'++B').length=s'.ob.length->
    WInv C.w0 C.base (obD V N.P (A'++B') (A'++B') s'.ob) j S' w'->EvM C.base C.r0 C.wI (mks a z) (lps z) a3 w1->Evo C.base a3 w1 j w'->zj (slD V N.P A' s'.gb s'.sl) a a3 w1->Stk V N.P A' a3 w1 s'.stk z->(v.den V N.P (A'++B')).h j w' u->next (a.put o.dst u) w':=by
   intro v s' A' B' a3 j S' w1 w' u ha h1 h2 h3 h4 h5 h6 ak h7 h8 h9;unfold after at ha;split at ha
   .rename_i s2 ah;exact hk s2 u w' ha (zqu (e:=([],v)) ah (λp hp=>by simp at hp) hd h1 h2 h3 h4 h5 h6 ak h7 h8 h9)
   .cases ha
  unfold loud at h;split at h
  .rename_i vs ai;obtain⟨args,e1,e2,e3⟩:=yk5 ai a0 a1;obtain⟨g,gs,L,x,rfl,hg,fn,tmps,au,bd,ag,af⟩:=ar rd z hΓ s1 vs a w A ro S h hn a0 a4 hl hw a7 a1 a5 args e1 e2 (λu w'=>next (a.put o.dst u) w')
    (λv s' A' j S' w' u g1 g2 g3 g4 g5 g6 g7 g8 g9 a6=>fin v s' A' [] j j S' w' w' u g1 g2 g3 g4 (by rw[w0e];exact g5) (by rw[w0e];exact g6) g7 (Evo.refl _ _ _) g8 g9 (by rw[w0e];exact a6))
   refine⟨λ_ _=>trivial,?_⟩;rw[Oper.semAt_eq _ _ _ (yk4 ai),e3 g gs L x a5 hg,ag,Oper.uponIn_round];refine⟨λe=>(by simp at e),af.mono ?_⟩;rintro e w' ⟨u,rfl,hu⟩;exact hu
  split at h
  .rename_i f vs ab;obtain⟨args,e1,e2,e3⟩:=yia ab a0 a1;obtain⟨hF,hcalls⟩:=yi1 hΓ h (ac f) hn a0 a4 hl hw a7 a1 a5 e1 e2 (R':=λu w'=>next (a.put o.dst u) w')
    (λv s' A' j S' w' u g1 g2 g3 g4 g5 g6 g7 g8 g9 a6=>fin v s' A' [] j j S' w' w' u g1 g2 g3 g4 (by rw[w0e];exact g5) (by rw[w0e];exact g6) g7 (Evo.refl _ _ _) g8 g9 (by rw[w0e];exact a6))
   refine Oper.wp_fz (yi9 ab) ?_;unfold Oper.wp;rw[e3 hF,Oper.upon_enter];refine hcalls.mono ?_;rintro e w' ⟨u,rfl,hu⟩;exact hu
  .obtain⟨dst,op,ty,pos,aj,guard⟩:=o;have am:=y4e (C:={ C with n:=s1.n,df:=a.defers }) hN hl a0 a4 (zpu hw) h dst pos aj guard (λe=>by
    cases dst with
    |none=>rfl
    |some d=>cases op<;>simp[yih] at e<;>simp[y0j] at a2)
   refine Oper.wpIn_mono ?_ (OpT.fz am a w ro S Q rfl hn hw a1);rintro a' w' ⟨v0,j,S',x,objs',rfl,aa,ap,hx,B,ob',v,ao,ad,a9,ae⟩;obtain⟨S2,aq⟩:=ae _ _ _ _ _ ap;exact fin v { s1 with ob:=ob' } A B ro j S2 w w' v0 ao hn a0 a4 ad aq a7 aa a1 a5 (a9 _ _ _ hx)
theorem zk0[Dr](hN:z6x V N){rd:Option Nat}{f:List GA}{o:Oper}{s:SS V.T}{d:Ch}{k:SS V.T->Option R}(h:zt V N s d o.op o.type (λv=>after V s o.dst (d,v) k)=some r)(g:∀p∈d,(lk s.gb p.1).isSome=true){a:Act}{w:World}(hs:SatS V C f s a w){next:Act->World->Prop}{Q:Exit->Act->World->Prop}
  (hk:∀s2 v0 w',k s2=some r->SatS V C f s2 (a.put o.dst v0) w'->next (a.put o.dst v0) w') :(chP s.gb d->o.wpIn (fz rd) 0 N.P a w next Q)/\(¬chP s.gb d->next (a.put o.dst undef) w):=by
 obtain⟨hd,hn,z,u,A,ro,S,hl,hw,a1,a0,a3⟩:=hs;obtain⟨v,hv,hq⟩:=zex (C:={ C with n:=s.n,df:=a.defers }) (A:=A) hN z u (zpu hw) h;unfold after at hv;split at hv
 .rename_i s2 j;refine⟨λhc=>?_,λhc=>?_⟩
  .obtain⟨dst,op,ty,pos,a4,guard⟩:=o;refine Oper.wpIn_mono ?_ (OpT.fz (hq hc dst pos a4 guard) a w ro S Q rfl hn hw a0);rintro a' w' ⟨v0,a6,S',x,objs',rfl,a2,a5,hx,rfl,rfl⟩;refine hk s2 v0 w' hv (zqu (B:=[]) (e:=(d,v)) j g hd hn z u (by rw[w0e];exact hl) (by rw[w0e];exact a5) a1 a2 a0 a3 ?_);rw[w0e];unfold denE;cases d with
   |nil=>exact hx
   |cons p l=>exact⟨λ_=>hx,λh=>absurd hc h⟩
  .refine hk s2 undef w hv (zqu (B:=[]) (e:=(d,v)) j g hd hn z u (by rw[w0e];exact hl) (by rw[w0e];exact hw) a1 (Evo.refl _ _ _) a0 a3 ?_);unfold denE;cases d with
   |nil=>exact(hc trivial).elim
   |cons p l=>exact⟨λh=>absurd h hc,λ_=>rfl⟩
 .cases hv
theorem y2h[Dr]{d:List GA}{o:Oper}{s:SS V.T}{k:SS V.T->Option R}(h:after V s o.dst ([],.und) k=some r){a:Act}{w:World}(hs:SatS V C d s a w){next:Act->World->Prop}
  (hk:∀g v0 w',k g=some r->SatS V C d g (a.put o.dst v0) w'->next (a.put o.dst v0) w'):next (a.put o.dst undef) w:=by
 obtain⟨hd,hn,z,u,A,ro,S,hl,hw,j,a0,a1⟩:=hs;unfold after at h;split at h
 .rename_i g f;exact hk g undef w h (zqu (B:=[]) (e:=([],.und)) f (λp hp=>by simp at hp) hd hn z u (by rw[w0e];exact hl) (by rw[w0e];exact hw) j (Evo.refl _ _ _) a0 a1 rfl)
 .cases h
end
end Px
end
section
namespace Px
open Go Go.RowKit
section
variable{V:TE}{N:Env V}{R:Type}{r:R}{C:Cx N.P}
theorem zzh[Dr]{d:List GA}{k:SS V.T->Option R}: ∀{es:List (Nat×Bool)}{s:SS V.T}{kn:Ch},y5h V s k es kn=some r->(∀p∈es,(lk s.gb p.1).isSome=true)->∀{a:Act}{w:World},SatS V C d { s with kn:=kn } a w->
  ∃s',k s'=some r/\SatS V C d s' a w/\s'.gb=s.gb
 | [],s,kn,h,_,a,w,z=>⟨_,h,z,rfl⟩
 |(t,wt)::es,s,kn,h,he,a,w,z=>by
  simp only[y5h] at h;have u:=he _ (w0n ..);obtain⟨hd,hn,j,f,g⟩:=z;have mk:∀b,(lk s.gb t).getD false=b->SatS V C d { s with kn:=(t,b)::kn } a w:=by
   intro b hb;refine⟨hd,hn,?_,⟨f.val,f.ch,?_⟩,g⟩
   .rw[z9k] at j⊢;intro p hp;rcases w05.1 hp with rfl|hp
    .exact hb
    .exact j p hp
   .intro p hp;rcases w05.1 hp with rfl|hp
    .exact u
    .exact f.kn p hp
  split at h
  .rename_i hg;exact zzh h (λp hp=>he p (w0g _ hp)) (mk wt hg)
  .rename_i hg;refine⟨_,h,mk (!wt) ?_,rfl⟩;cases hx :(lk s.gb t).getD false<;>cases wt<;>simp_all
theorem opK{α:Type}{l:List α}{i:Nat}{o:α}{os:List α}(h:o::os=l.drop i):l[i]? = some o/\os=l.drop (i+1):=by
 have d :(l.drop i)[0]? = some o:=by rw[<- h];rfl
 refine⟨by simpa using d,?_⟩;have :(l.drop i).drop 1=os:=by rw[<- h];rfl
 rw[w3o] at this;exact this.symm
def zwm[Dr](Γ:List (Option (Nat×Nat)))(C:Cx N.P)(r:R)(inl:Nat->Inl V R)(ops:Array Oper)(full:Nat->Inl V R)(K:KX V R):Prop:=(∀i f fn c,N.P.funcs[f]? = some fn->fn.body=some c->zn5 (none::Γ) C r (inl i f) c (inlK V N fn (y6y V N full ops i K)))/\∀i,YOK Γ C r (inl i) (y6y V N full ops i K)
theorem zkl[Dr](hN:z6x V N){Γ:List (Option (Nat×Nat))}{rd:Option Nat}{d:List GA}(hΓ:d.map GA.lpI=Γ){inl:Nat->Inl V R}{ops:Array Oper}{K:KX V R}{Q:Exit->Act->World->Prop}
  (z:zwm Γ C r inl ops inl K)
  (hK:∀s a w,K .normal s=some r->SatS V C d s a w->Q .normal a w):∀(os:List Oper)(i:Nat)(s:SS V.T)(a:Act)(w:World),os=ops.toList.drop i->
  z7o V N inl ops.toList i os s (λs=>K .normal s)=some r->SatS V C d s a w->wpOpsIn (fz rd) 0 N.P ops Q (List.range' i os.length) a w
 | [],i,s,a,w,_,h,hs=>by simp only[z7o] at h;exact hK s a w h hs
 |o::os,i,s,a,w,af,h,hs=>by
  obtain⟨ae,a3⟩:=opK af;have ho:ops[i]? = some o:=by simpa using ae
  have ih:=zkl (rd:=rd) hN hΓ z hK os (i+1);have hk:∀s2 v0 w',z7o V N inl ops.toList (i+1) os s2 (λs=>K .normal s)=some r->SatS V C d s2 (a.put o.dst v0) w'->wpOpsIn (fz rd) 0 N.P ops Q (List.range' (i+1) os.length) (a.put o.dst v0) w':=λs2 v0 w' h hs=>ih s2 _ w' a3 h hs
  have a0 :(λv s=>after V s o.dst ([],v) λs=>z7o V N inl ops.toList (i+1) os s (λs=>K .normal s))=y6y V N inl ops i K:=by funext v s;simp only[y6y,ho,<- a3]
  have loudH:∀s,y6d V N (inl i) o s (λs=>z7o V N inl ops.toList (i+1) os s (λs=>K .normal s))=some r->SatS V C d s a w->o.wpIn (fz rd) 0 N.P a w (wpOpsIn (fz rd) 0 N.P ops Q (List.range' (i+1) os.length)) Q:=by
   intro s h hs;refine ydx hN hΓ h (λf fn c hf hb=>?_) ?_ hs hk
   .rw[a0];exact z.1 i f fn c hf hb
   .rw[a0];exact z.2 i
  simp only[w0o,w4p,wpOpsIn,ho];simp only[z7o] at h;cases hg:o.guard with
  |none=>
   rw[hg] at h;simp only at h;simp only[Region.wanted,hg,if_true];cases j:zpc V N s [] o.op with
   |true=>rw[j] at h;exact loudH s h hs
   |false=>rw[j] at h;exact(zk0 hN h (λp hp=>by simp at hp) hs hk).1 trivial
  |some g=>
   rw[hg] at h;simp only at h;simp only[Region.wanted,hg];cases a4:zg3 V ops.toList s g with
   |none=>rw[a4] at h;cases h
   |some q=>
    obtain⟨x,s1⟩:=q;rw[a4] at h;obtain⟨u,e1,e2,hx⟩:=y65 a4 hs;cases x with
    |none=>
     simp only at h hx;have :(yielded ops a.tmps g.1==some g.2)=false:=by rw[hx];rfl
     rw[this];simp only[w09,if_false];exact⟨λ_ _=>trivial,y2h h u hk⟩
    |some ch=>
     simp only at h hx;obtain⟨ac,ai,aj⟩:=hx;have ad:=u.2.2.1
     have done:∀(p:Prop),(p↔chP s1.gb ch)->(p->o.wpIn (fz rd) 0 N.P a w (wpOpsIn (fz rd) 0 N.P ops Q (List.range' (i+1) os.length)) Q)->(¬p->wpOpsIn (fz rd) 0 N.P ops Q (List.range' (i+1) os.length) (a.put o.dst undef) w)->
       if(yielded ops a.tmps g.1==some g.2)=true then o.wpIn (fz rd) 0 N.P a w (wpOpsIn (fz rd) 0 N.P ops Q (List.range' (i+1) os.length)) Q else(∀f,o.about N.P w a.eval=some f->True)/\wpOpsIn (fz rd) 0 N.P ops Q (List.range' (i+1) os.length) (a.put o.dst undef) w:=by
      intro p hp hy hn;by_cases hc:chP s1.gb ch
      .rw[ai hc];simp only[BEq.rfl,if_true];exact hy (hp.2 hc)
      .have :(yielded ops a.tmps g.1==some g.2)=false:=by
        cases hb :(yielded ops a.tmps g.1==some g.2) with
        |false=>rfl
        |true=>exact absurd (by simpa using hb) (aj hc)
       rw[this];simp only[w09,if_false];exact⟨λ_ _=>trivial,hn (λh=>hc (hp.1 h))⟩
     obtain⟨ag,ah⟩:=zm6 ad (ch:=ch);cases a2:resolve s1.kn ch with
     |none=>rw[a2] at h;simp only at h;exact done False ⟨False.elim,ah a2⟩ False.elim λ_=>y2h h u hk
     |some cur=>
      obtain⟨a7,a8⟩:=ag cur a2;rw[a2] at h;cases cur with
      |nil=>
       simp only at h;refine done True ⟨λ_=>a7.2 trivial,λ_=>trivial⟩ (λ_=>?_) (λh=>absurd trivial h);cases j:zpc V N s1 [] o.op with
       |true=>rw[j] at h;exact loudH s1 h u
       |false=>rw[j] at h;exact(zk0 hN h (λp hp=>by simp at hp) u hk).1 trivial
      |cons c0 cur=>
       simp only at h;cases j:zpc V N s1 (c0::cur) o.op with
       |true=>
        rw[j] at h;simp only[cond_true] at h;obtain⟨s',a1,a6,a9⟩:=zzh h (λp hp=>ac p (a8 p (List.mem_reverse.1 hp))) u;obtain⟨aa,ab⟩:=zm6 a6.2.2.1 (ch:=ch);rw[a9] at aa ab;split at a1
        .rename_i a5;exact done True ⟨λ_=>(aa [] a5).1.2 trivial,λ_=>trivial⟩ (λ_=>loudH s' a1 a6) (λh=>absurd trivial h)
        .rename_i a5;exact done False ⟨False.elim,ab a5⟩ False.elim λ_=>y2h a1 a6 hk
        .cases a1
       |false=>rw[j] at h;simp only[cond_false] at h;obtain⟨g1,g2⟩:=zk0 hN h (λp hp=>ac p (a8 p hp)) u hk;exact done _ a7.symm g1 g2
end
end Px
end
section
namespace Px
open Go Go.RowKit
section
variable{V:TE}{P:Program}
def HB(A A':Asg)(b:Bd):Prop:=∀(j i:Nat)(p:Nat×Value),lk b j=some i->A[i]? = some p->A'[j]? = some p
theorem y9h{b:Bd}{j i:Nat}(h:isO b j i=true):lk b j=some i:=by
 unfold isO at h;split at h
 .rename_i f d;rw[d,w03 h]
 .cases h
theorem yj8[Dr]{A d:Asg}{b:Bd}(g:HB A d b){j i:Nat}(h:lk b j=some i):Ent ((SV.own i:SV V.T).den V P A) ((SV.own j:SV V.T).den V P d):=by
 simp only[SV.den];cases f:A[i]? with
 |none=>exact λ_ _ _ u=>u.elim
 |some p=>rw[g j i p h f];exact Ent.refl
theorem yjf[Dr]{A d:Asg}{b:Bd}(g:HB A d b){j i o:Nat}(h:lk b j=some i):Ent ((SV.ptr i o:SV V.T).den V P A) ((SV.ptr j o:SV V.T).den V P d):=by
 simp only[SV.den];cases f:A[i]? with
 |none=>exact λ_ _ _ u=>u.elim
 |some p=>rw[g j i p h f];exact Ent.refl
def y44{T:Nat->Type}: SV T->Bool
 | .arr ..=>true
 |_=>false
theorem y8e[Dr]{A:Asg}{x:SV V.T}(h:y44 x=false):denL V P A [x] = [x.den V P A]:=by cases x<;>simp[y44] at h<;>rfl
theorem zm{α:Type}{z:α}{p:Prop}(h :(none:Option α)=some z):p:=by cases h
mutual
theorem y8a[Dr]{A A':Asg}{b:Bd}(d:HB A A' b){r:Type}: ∀(l:LC)(x:SV V.T)(z0:r)(z:LC.Z V.T l r),deV V b l x z0=some z->(enV V l z).2=z0/\Ent (x.den V P A) ((enV V l z).1.den V P A')/\((∀c,l≠.val c)->y44 x=false/\y44 (enV V l z).1=false)
 | .val c,x,z0,z,h=>by
  change (match V.dec (rdSl []) c x with|some y=>some (y,z0)|none=>none)=some z at h;split at h
  .rename_i y hy;have e:=w0f h;subst e;refine⟨rfl,?_,λhn=>absurd rfl (hn c)⟩;show Ent (x.den V P A) ((V.encV c y).den V P A');rw[z4l];exact z6y V P hy
  .exact zm h
 | .cmp c,x,z0,z,h=>by
  cases x with
  |cmp c' f=>
   change (if h:c'=c then some (h ▸ f,z0) else none)=some z at h;split at h
   .rename_i e;subst e;have e:=w0f h;subst e;exact⟨rfl,Ent.refl,λ_=>⟨rfl,rfl⟩⟩
   .exact zm h
  |_=>exact zm h
 | .agg ls,x,z0,z,h=>by
  cases x with
  |agg cs=>obtain⟨h1,h2⟩:=y3d d ls cs z0 z h;exact⟨h1,Ent.agg h2.ents,λ_=>⟨rfl,rfl⟩⟩
  |_=>exact zm h
 | .func f ls,x,z0,z,h=>by
  cases x with
  |func g cs=>
   change (bif Nat.beq f g then deW V b ls cs z0 else none)=some z at h;cases a0:Nat.beq f g with
   |false=>rw[a0] at h;exact zm h
   |true=>rw[a0] at h;have:=w03 a0;subst this;obtain⟨h1,h2⟩:=yfw d ls cs z0 z h;exact⟨h1,y8v h2,λ_=>⟨rfl,rfl⟩⟩
  |_=>exact zm h
 | .own j,x,z0,z,h=>by
  cases x with
  |own i=>
   change (bif isO b j i then some z0 else none)=some z at h;cases hi:isO b j i with
   |false=>rw[hi] at h;exact zm h
   |true=>rw[hi] at h;have e:=w0f h;subst e;exact⟨rfl,yj8 d (y9h hi),λ_=>⟨rfl,rfl⟩⟩
  |_=>exact zm h
 | .ptr j o,x,z0,z,h=>by
  cases x with
  |ptr i o'=>
   change (bif isO b j i&&Nat.beq o o' then some z0 else none)=some z at h;cases hi :(isO b j i&&Nat.beq o o') with
   |false=>rw[hi] at h;exact zm h
   |true=>rw[hi] at h;have a1:=(w02 _ _ ▸ hi:isO b j i=true/\Nat.beq o o'=true);have:=w03 a1.2;subst this;have e:=w0f h;subst e;exact⟨rfl,yjf d (y9h a1.1),λ_=>⟨rfl,rfl⟩⟩
  |_=>exact zm h
 | .nil,x,z0,z,h=>by
  cases x with
  |val v=>
   have h':v = .slice none 0 0/\some z0=some z:=by
    cases v with
    |slice p l c=>
     cases p with
     |none=>
      cases l with
      |zero=>cases c with
       |zero=>exact⟨rfl,h⟩
       |succ c=>exact zm h
      |succ l=>exact zm h
     |some p=>exact zm h
    |_=>exact zm h
   obtain⟨rfl,h⟩:=h';have e:=w0f h;subst e;exact⟨rfl,Ent.refl,λ_=>⟨rfl,rfl⟩⟩
  |_=>exact zm h
 | .raw v,x,z0,z,h=>by
  cases x with
  |val u=>
   change (bif beqZ u v then some z0 else none)=some z at h;cases d:beqZ u v with
   |false=>rw[d] at h;exact zm h
   |true=>rw[d] at h;have e:=w0f h;subst e;obtain⟨rfl,_⟩:=zo6 d;exact⟨rfl,Ent.refl,λ_=>⟨rfl,rfl⟩⟩
  |_=>exact zm h
 | .rop c,x,z0,z,h=>by
  cases x with
  |rop cs=>
   have h :(match decN V (rdSl []) (c+1) c cs with
    |some (y,[])=>some (y,z0)
    |_=>none)=some z:=h
   split at h
   .rename_i y hy;have e:=w0f h;subst e;obtain⟨pre,e1,e2⟩:=zts (P:=P) (A:=A) (R:=Ent) (zq4 []) (λ_ _ _ _ _=>zm7) (λ_=>Ent.refl) (λ_ _ _ h=>zuz h) _ _ _ _ _ hy;refine⟨rfl,?_,λ_=>⟨rfl,rfl⟩⟩;show Ent ((SV.rop cs:SV V.T).den V P A) ((SV.rop (V.enc c y):SV V.T).den V P A');rw[w0e] at e1;subst e1;simp only[SV.den,z2g];exact yay e2
   .exact zm h
  |_=>exact zm h
 | .rom kc vc,x,z0,z,h=>by
  cases x with
  |rop cs=>
   cases cs with
   |nil=>exact zm h
   |cons y ys=>
    cases y with
    |rom a2 a3 m=>
     cases ys with
     |nil=>
      change (if h:a2=kc then(if h2:a3=vc then some (h ▸ h2 ▸ m,z0) else none) else none)=some z at h;split at h
      .rename_i e1;split at h
       .rename_i e2;subst e1 e2;have e:=w0f h;subst e;exact⟨rfl,Ent.refl,λ_=>⟨rfl,rfl⟩⟩
       .exact zm h
      .exact zm h
     |cons _ _=>exact zm h
    |_=>exact zm h
  |_=>exact zm h
theorem y3d[Dr]{A g:Asg}{b:Bd}(hb:HB A g b){r:Type}: ∀(d:List LC)(cs:List (SV V.T))(z0:r)(z:Zl V.T d r),deL V b d cs z0=some z->(enL V d z).2=z0/\F2 Ent (denL V P A cs) (denL V P g (enL V d z).1)
 | [],cs,z0,z,h=>by
  cases cs with
  |nil=>have e:=w0f (show some z0 =(some z:Option r) from h);exact⟨e.symm,trivial⟩
  |cons x cs=>exact zm h
 |l::d,cs,z0,z,h=>by
  by_cases hv:∃c,l = .val c
  .obtain⟨c,rfl⟩:=hv;have h :(match decN V (rdSl []) (c+1) c cs with
    |some (y,cs)=>match deL V b d cs z0 with
     |some z=>some (y,z)
     |none=>none
    |none=>none)=some z:=h
   split at h
   .rename_i y j hy;split at h
    .rename_i z' hz;have e:=w0f h;subst e;obtain⟨pre,e1,e2⟩:=zts (P:=P) (A:=A) (R:=Ent) (zq4 []) (λ_ _ _ _ _=>zm7) (λ_=>Ent.refl) (λ_ _ _ h=>zuz h) _ _ _ _ _ hy;obtain⟨h1,h2⟩:=y3d hb d j z0 z' hz;refine⟨h1,?_⟩;show F2 Ent _ (denL V P g (V.enc c y++(enL V d z').1));rw[e1,z2k,z2k,z2g];exact e2.append h2
    .exact zm h
   .exact zm h
  .have f:∀c,l≠.val c:=λc e=>hv ⟨c,e⟩
   cases cs with
   |nil=>cases l<;>first|exact zm h|exact absurd rfl (f _)
   |cons x cs=>
    have u :(match deL V b d cs z0 with|some z=>deV V b l x z|none=>none)=some z:=by cases l<;>first|exact h|exact absurd rfl (f _)
    split at u
    .rename_i z' hz;obtain⟨h1,h2⟩:=y3d hb d cs z0 z' hz;obtain⟨h3,h4,h5⟩:=y8a hb l x z' z u;have he:enL V (l::d) z =((enV V l z).1::(enL V d (enV V l z).2).1,(enL V d (enV V l z).2).2):=by cases l<;>first|rfl|exact absurd rfl (f _)
     rw[he];simp only[h3];refine⟨h1,?_⟩;rw[z3p,z3p V P (enV V l z).1];rw[y8e (h5 f).1,y8e (h5 f).2];exact⟨h4,h2⟩
    .exact zm u
theorem yfw[Dr]{A f:Asg}{b:Bd}(g:HB A f b){r:Type}: ∀(d:List LC)(cs:List (SV V.T))(z0:r)(z:Zl V.T d r),deW V b d cs z0=some z->(enW V d z).2=z0/\F2 Ent (denV V P A cs) (denV V P f (enW V d z).1)
 | [],cs,z0,z,h=>by
  cases cs with
  |nil=>have e:=w0f (show some z0 =(some z:Option r) from h);exact⟨e.symm,trivial⟩
  |cons x cs=>exact zm h
 |l::d,cs,z0,z,h=>by
  cases cs with
  |nil=>exact zm h
  |cons x cs=>
   change (match deW V b d cs z0 with|some z=>deV V b l x z|none=>none)=some z at h;split at h
   .rename_i z' hz;obtain⟨j,u⟩:=yfw g d cs z0 z' hz;obtain⟨h3,h4,_⟩:=y8a g l x z' z h;show (enW V d (enV V l z).2).2=z0/\F2 Ent _ (denV V P f ((enV V l z).1::(enW V d (enV V l z).2).1));rw[h3];exact⟨j,h4,u⟩
   .exact zm h
end
theorem yfv[Dr]{A g:Asg}{b:Bd}(hb:HB A g b){r:Type}{gb:List (Nat×Bool)}{a:Act}{ro:Nat->Prop}{w:World}(sl:Sls V.T)(hs:zj (slD V P A gb sl) a ro w):
  ∀(d:List (Nat×LC))(z0:r)(z:Zs V.T d r),deS V b sl d z0=some z->(enS V d z).2=z0/\zj (slD V P g [] (enS V d z).1) a ro w
 | [],z0,z,h=>by have e:=w0f (show some z0 =(some z:Option r) from h);exact⟨e.symm,λt X f=>by cases f⟩
 |(t,l)::d,z0,z,h=>by
  change (match lk sl t,deS V b sl d z0 with
   |some ([],x),some z=>deV V b l x z
   |_,_=>none)=some z at h
  cases hx:lk sl t with
  |none=>rw[hx] at h;exact zm h
  |some e=>
   obtain⟨ch,x⟩:=e;rw[hx] at h;cases ch with
   |cons c ch=>exact zm h
   |nil=>
    cases j:deS V b sl d z0 with
    |none=>rw[j] at h;exact zm h
    |some z'=>
     rw[j] at h;change deV V b l x z'=some z at h;obtain⟨h1,h2⟩:=yfv hb sl hs d z0 z' j;obtain⟨h3,h4,_⟩:=y8a (P:=P) hb l x z' z h;refine⟨by show (enS V d (enV V l z).2).2=z0;rw[h3];exact h1,?_⟩;show zj (slD V P g [] ((t,[],(enV V l z).1)::(enS V d (enV V l z).2).1)) a ro w;rw[h3];intro u X f;simp only[slD] at f;rw[z0k] at f;by_cases e:u=t
     .subst e;rw[if_pos rfl] at f;simp only[w0z,w01] at f;subst f;exact h4 _ _ _ (hs u _ (by simp only[slD,hx,w0z];rfl))
     .rw[if_neg e] at f;exact h2 u X f
theorem yfx{r:Type}: ∀(d:List (Nat×LC))(z:Zs V.T d r)(t:Nat)(ch:Ch)(x:SV V.T),lk (enS V d z).1 t=some (ch,x)->ch = []
 | [],z,t,ch,x,h=>by cases h
 |(u,l)::d,z,t,ch,x,h=>by
  change lk ((u,[],(enV V l z).1)::(enS V d (enV V l z).2).1) t=some (ch,x) at h;rw[z0k] at h;by_cases e:t=u
  .rw[if_pos e] at h;cases h;rfl
  .rw[if_neg e] at h;exact yfx d _ t ch x h
theorem yko{r:Type}(f:List (Nat×LC))(z:Zs V.T f r)(n:Nat):GbOK (⟨(enS V f z).1,[],[],n⟩:Fm V.T) where
 val:=λt g h=>by cases h
 ch:=λt ch x h p d=>by have:=yfx f z t ch x h;subst this;cases d
 kn:=λp d=>by cases d
theorem yfu[Dr]{A j:Asg}{b:Bd}(hb:HB A j b){r:Type}{ro:Nat->Prop}{w:World}:
  ∀(d:List (Nat×List (Nat×LC)))(fs:List (Fm V.T))(as:List GA)(z0:r)(z:Zf V.T d r),Stk V P A ro w fs as->deF V b d fs z0=some z->(enF V d z).2=z0/\Stk V P j ro w (enF V d z).1 as
 | [],fs,as,z0,z,g,h=>by
  cases fs with
  |nil=>
   have e:=w0f (show some z0 =(some z:Option r) from h);refine⟨e.symm,?_⟩;cases as with
   |nil=>trivial
   |cons a as=>exact g.elim
  |cons f fs=>exact zm h
 |(n,l)::d,fs,as,z0,z,g,h=>by
  cases fs with
  |nil=>exact zm h
  |cons f fs=>
   cases as with
   |nil=>exact g.elim
   |cons a as=>
    change (match deF V b d fs z0 with
     |some z=>bif Nat.beq n f.n then deS V b f.sl l z else none
     |none=>none)=some z at h
    split at h
    .rename_i z' hz;cases u:Nat.beq n f.n with
     |false=>rw[u] at h;exact zm h
     |true=>rw[u] at h;have a0:=w03 u;obtain⟨h1,h2⟩:=yfu hb d fs as z0 z' g.2 hz;obtain⟨h3,h4⟩:=yfv hb f.sl g.1.1 l z' z h;show (enF V d (enS V l z).2).2=z0/\Stk V P j ro w (⟨(enS V l z).1,[],[],n⟩::(enF V d (enS V l z).2).1) (a::as);rw[h3];exact⟨h1,⟨h4,trivial,yko l z n,g.1.2.2.2.1,by rw[g.1.2.2.2.2,a0]⟩,h2⟩
    .exact zm h
theorem ziz[Dr]{A A':Asg}{b:Bd}(hb:HB A A' b)(ob:List (SO V.T))(hl:A.length=ob.length):∀(os:List OC)(j:Nat)(is:List Nat)(z:Zo V.T os),zfu b os.length j=some is->deO V b ob j os=some z->
  zfq (obD V P A A ob) is (obD V P A' (is.map λi=>A.getD i default) (enO V os z))
 | [],j,is,z,d,h=>by have e:=w0f (show some []=some is from d);subst e;trivial
 | .box t ls::os,j,is,z,d,h=>by
  change (match lk b j,zfu b os.length (j+1) with
   |some i,some l=>some (i::l)
   |_,_=>none)=some is at d
  split at d
  .rename_i i l hj f;have e:=w0f d;subst e;change (match (lk b j).bind λi=>ob[i]?,deO V b ob (j+1) os with
    |some (.box t' cs),some z=>bif Nat.beq t t' then deL V b ls cs z else none
    |_,_=>none)=some z at h
   rw[hj] at h;split at h
   .rename_i t' cs z' u hz;simp only[w00] at u;cases ht:Nat.beq t t' with
    |false=>rw[ht] at h;exact zm h
    |true=>
     rw[ht] at h;have:=w03 ht;subst this;obtain⟨h1,h2⟩:=y3d (P:=P) hb ls cs z' z h;have g:i<A.length:=by rw[hl];exact(w04.1 u).1
     have ha:A[i]? = some (A.getD i default):=by simp[List.getD,w0c g]
     refine⟨⟨_,zw V P ha u,?_⟩,?_⟩
     .exact λS r w ⟨hS,cur,hc,hh⟩=>⟨hS,cur,hc,zky h2 hh⟩
     .show zfq _ l (obD V P A' (l.map λi=>A.getD i default) (enO V os (enL V ls z).2));rw[h1];exact ziz hb ob hl os (j+1) l z' f hz
   .exact zm h
  .exact zm d
 | .row E c::os,j,is,z,d,h=>by
  change (match lk b j,zfu b os.length (j+1) with
   |some i,some l=>some (i::l)
   |_,_=>none)=some is at d
  split at d
  .rename_i i l hj f;have e:=w0f d;subst e;change (match (lk b j).bind λi=>ob[i]?,deO V b ob (j+1) os with
    |some (.row E' c' l),some z=>bif Nat.beq E E' then(if h:c'=c then some (h ▸ l,z) else none) else none
    |_,_=>none)=some z at h
   rw[hj] at h;split at h
   .rename_i E' c' y z' u hz;simp only[w00] at u;cases ht:Nat.beq E E' with
    |false=>rw[ht] at h;exact zm h
    |true=>
     rw[ht] at h;have:=w03 ht;subst this;change (if h:c'=c then some (h ▸ y,z') else none)=some z at h;split at h
     .rename_i e;subst e;have e:=w0f h;subst e;have g:i<A.length:=by rw[hl];exact(w04.1 u).1
      have ha:A[i]? = some (A.getD i default):=by simp[List.getD,w0c g]
      exact⟨⟨_,zw V P ha u,EntH.refl⟩,ziz hb ob hl os (j+1) l z' f hz⟩
     .exact zm h
   .exact zm h
  .exact zm d
 | .emp::os,j,is,z,d,h=>by
  change (match lk b j,zfu b os.length (j+1) with
   |some i,some l=>some (i::l)
   |_,_=>none)=some is at d
  split at d
  .rename_i i l hj f;have e:=w0f d;subst e;change (match (lk b j).bind λi=>ob[i]?,deO V b ob (j+1) os with
    |some .emp,some z=>some z
    |_,_=>none)=some z at h
   rw[hj] at h;split at h
   .rename_i z' u hz;simp only[w00] at u;have e:=w0f h;subst e;have g:i<A.length:=by rw[hl];exact(w04.1 u).1
    have ha:A[i]? = some (A.getD i default):=by simp[List.getD,w0c g]
    exact⟨⟨_,zw V P ha u,EntH.refl⟩,ziz hb ob hl os (j+1) l z' f hz⟩
   .exact zm h
  .exact zm d
 | .fix E c::os,j,is,z,d,h=>by
  change (match lk b j,zfu b os.length (j+1) with
   |some i,some l=>some (i::l)
   |_,_=>none)=some is at d
  split at d
  .rename_i i l hj f;have e:=w0f d;subst e;change (match (lk b j).bind λi=>ob[i]?,deO V b ob (j+1) os with
    |some (.x (.fix E' c' l)),some z=>bif Nat.beq E E' then(if h:c'=c then some (h ▸ l,z) else none) else none
    |_,_=>none)=some z at h
   rw[hj] at h;split at h
   .rename_i E' c' y z' u hz;simp only[w00] at u;cases ht:Nat.beq E E' with
    |false=>rw[ht] at h;exact zm h
    |true=>
     rw[ht] at h;have:=w03 ht;subst this;change (if h:c'=c then some (h ▸ y,z') else none)=some z at h;split at h
     .rename_i e;subst e;have e:=w0f h;subst e;have g:i<A.length:=by rw[hl];exact(w04.1 u).1
      have ha:A[i]? = some (A.getD i default):=by simp[List.getD,w0c g]
      exact⟨⟨_,zw V P ha u,EntH.refl⟩,ziz hb ob hl os (j+1) l z' f hz⟩
     .exact zm h
   .exact zm h
  .exact zm d
 | .map kc vc E::os,j,is,z,d,h=>by
  change (match lk b j,zfu b os.length (j+1) with
   |some i,some l=>some (i::l)
   |_,_=>none)=some is at d
  split at d
  .rename_i i l hj f;have e:=w0f d;subst e;change (match (lk b j).bind λi=>ob[i]?,deO V b ob (j+1) os with
    |some (.x (.map a1 a2 E' m none)),some z=>bif Nat.beq E' E then(if h:a1=kc then(if h2:a2=vc then some (h ▸ h2 ▸ m,z) else none) else none) else none
    |_,_=>none)=some z at h
   rw[hj] at h;split at h
   .rename_i a1 a2 E' y z' u hz;simp only[w00] at u;cases hE:Nat.beq E' E with
    |false=>rw[hE] at h;exact zm h
    |true=>
    rw[hE] at h;have:=w03 hE;subst this;change (if h:a1=kc then(if h2:a2=vc then some (h ▸ h2 ▸ y,z') else none) else none)=some z at h;split at h
    .rename_i e;subst e;split at h
     .rename_i e;subst e;have e:=w0f h;subst e;have g:i<A.length:=by rw[hl];exact(w04.1 u).1
      have ha:A[i]? = some (A.getD i default):=by simp[List.getD,w0c g]
      exact⟨⟨_,zw V P ha u,λS r w h=>⟨⟨h.1.1,λk j e=>by cases e⟩,h.2⟩⟩,ziz hb ob hl os (j+1) l z' f hz⟩
     .exact zm h
    .exact zm h
   .exact zm h
  .exact zm d
 | .it kc vc::os,j,is,z,d,h=>by
  change (match lk b j,zfu b os.length (j+1) with
   |some i,some l=>some (i::l)
   |_,_=>none)=some is at d
  split at d
  .rename_i i l hj f;have e:=w0f d;subst e;change (match (lk b j).bind λi=>ob[i]?,deO V b ob (j+1) os with
    |some (.x (.it a1 a2 m _)),some z=>if h:a1=kc then(if h2:a2=vc then some (h ▸ h2 ▸ m,z) else none) else none
    |_,_=>none)=some z at h
   rw[hj] at h;split at h
   .rename_i a1 a2 y cc z' u hz;simp only[w00] at u;split at h
    .rename_i e;subst e;split at h
     .rename_i e;subst e;have e:=w0f h;subst e;have g:i<A.length:=by rw[hl];exact(w04.1 u).1
      have ha:A[i]? = some (A.getD i default):=by simp[List.getD,w0c g]
      exact⟨⟨_,zw V P ha u,λS r w h=>⟨h.1,yii h.2⟩⟩,ziz hb ob hl os (j+1) l z' f hz⟩
     .exact zm h
    .exact zm h
   .exact zm h
  .exact zm d
 | .nst E E2 c none::os,j,is,z,d,h=>by
  change (match lk b j,zfu b os.length (j+1) with
   |some i,some l=>some (i::l)
   |_,_=>none)=some is at d
  split at d
  .rename_i i l hj f;have e:=w0f d;subst e;change (match (lk b j).bind λi=>ob[i]?,deO V b ob (j+1) os with
    |some (.x (.nst E' a0 c' l none)),some z=>bif Nat.beq E E'&&Nat.beq E2 a0 then(if h:c'=c then some (h ▸ l,z) else none) else none
    |_,_=>none)=some z at h
   rw[hj] at h;split at h
   .rename_i E' a0 c' y z' u hz;simp only[w00] at u;cases ht :(Nat.beq E E'&&Nat.beq E2 a0) with
    |false=>rw[ht] at h;exact zm h
    |true=>
     rw[ht] at h;simp only[w02] at ht;have e1:=w03 ht.1;have e2:=w03 ht.2;subst e1;subst e2;change (if h:c'=c then some (h ▸ y,z') else none)=some z at h;split at h
     .rename_i e;subst e;have e:=w0f h;subst e;have g:i<A.length:=by rw[hl];exact(w04.1 u).1
      have ha:A[i]? = some (A.getD i default):=by simp[List.getD,w0c g]
      refine⟨⟨_,zw V P ha u,?_⟩,ziz hb ob hl os (j+1) l z' f hz⟩;exact λS r w h=>⟨⟨h.1.1,λk j e=>by cases e⟩,h.2⟩
     .exact zm h
   .exact zm h
  .exact zm d
 | .nst E E2 c (some q)::os,j,is,z,d,h=>by
  change (match lk b j,zfu b os.length (j+1) with
   |some i,some l=>some (i::l)
   |_,_=>none)=some is at d
  split at d
  .rename_i i l hj f;have e:=w0f d;subst e;change (match (lk b j).bind λi=>ob[i]?,deO V b ob (j+1) os with
    |some (.x (.nst E' a0 c' l (some (k,i)))),some z=>bif Nat.beq E E'&&Nat.beq E2 a0&&isO b q i then(if h:c'=c then some (h ▸ l,k,z) else none) else none
    |_,_=>none)=some z at h
   rw[hj] at h;split at h
   .rename_i E' a0 c' y k i2 z' u hz;simp only[w00] at u;cases ht :(Nat.beq E E'&&Nat.beq E2 a0&&isO b q i2) with
    |false=>rw[ht] at h;exact zm h
    |true=>
     rw[ht] at h;simp only[w02] at ht;have e1:=w03 ht.1.1;have e2:=w03 ht.1.2;have e3:=y9h ht.2;subst e1;subst e2;change (if h:c'=c then some (h ▸ y,k,z') else none)=some z at h;split at h
     .rename_i e;subst e;have e:=w0f h;subst e;have g:i<A.length:=by rw[hl];exact(w04.1 u).1
      have ha:A[i]? = some (A.getD i default):=by simp[List.getD,w0c g]
      refine⟨⟨_,zw V P ha u,?_⟩,ziz hb ob hl os (j+1) l z' f hz⟩;rintro S r w ⟨hp,hn⟩;obtain⟨p,a3⟩:=w19.1 (hp.2 _ _ rfl);have hq:=hb q i2 p e3 a3;refine⟨⟨hp.1,λk j e=>?_⟩,?_⟩
      .simp only[w01,w0k] at e;rw[<- e.2,hq];rfl
      .simp only[zg4,a3] at hn;simp only[zg4,hq];exact hn
     .exact zm h
   .exact zm h
  .exact zm d
theorem y2y{b:Bd}: ∀{n j:Nat}{d:List Nat},zfu b n j=some d->d.length=n/\∀k,k<n->lk b (j+k)=d[k]?
 |0,j,d,h=>by cases w0f (show some []=some d from h);exact⟨rfl,λk z=>by omega⟩
 |n+1,j,d,h=>by
  change (match lk b j,zfu b n (j+1) with
   |some i,some l=>some (i::l)
   |_,_=>none)=some d at h
  split at h
  .rename_i i l u hl;cases w0f h;obtain⟨f,g⟩:=y2y hl;refine⟨by simp[f],λk z=>?_⟩;cases k with
   |zero=>simpa using u
   |succ k=>have:=g k (by omega);simp only[w29];rw[<- this];congr 1;omega
  .cases h
theorem zg7{α:Type}: ∀{l:List (Nat×α)}{t:Nat}{x:α},lk l t=some x->(t,x)∈l
 |(k,y)::l,t,x,h=>by
  rw[z0k] at h;by_cases e:t=k
  .subst e;rw[if_pos rfl] at h;cases h;exact w0n
  .rw[if_neg e] at h;exact w0g _ (zg7 h)
theorem zel:∀(os:List OC)(z:Zo V.T os),(enO V os z).length=os.length
 | [],_=>rfl
 | .box t f::os,z=>by show (enO V os (enL V f z).2).length+1=os.length+1;rw[zel os]
 | .row E c::os,z=>by show (enO V os z.2).length+1=os.length+1;rw[zel os]
 | .fix E c::os,z=>by show (enO V os z.2).length+1=os.length+1;rw[zel os]
 | .emp::os,z=>congrArg (· + 1) (zel os (show Zo V.T os from z))
 | .map kc vc E::os,z=>by show (enO V os z.2).length+1=os.length+1;rw[zel os]
 | .it kc vc::os,z=>by show (enO V os z.2).length+1=os.length+1;rw[zel os]
 | .nst E d c none::os,z=>by show (enO V os z.2).length+1=os.length+1;rw[zel os]
 | .nst E d c (some j)::os,z=>by show (enO V os z.2.2).length+1=os.length+1;rw[zel os]
def Nils(B:Asg)(n m:Nat):Prop:=∀k,k<m->B[n+k]? = some (0,.slice none 0 0)
theorem z8b[Dr]{B:Asg}{os:List OC}{gb:List (Nat×Bool)}: ∀(d:List (Nat×LC))(sl:Sls V.T)(n:Nat),Nils B n (zps V os gb d sl n).2.length->
  slD V P B gb (zps V os gb d sl n).1=slD V P B gb sl/\(∀kn m,GbOK (⟨sl,gb,kn,m⟩:Fm V.T)->GbOK (⟨(zps V os gb d sl n).1,gb,kn,m⟩:Fm V.T))/\∀o∈(zps V os gb d sl n).2,∃E c,o = .row E c []
 | [],sl,n,_=>⟨rfl,λ_ _ h=>h,λo ho=>by simp[zps] at ho⟩
 |(t,.own j)::d,sl,n,h=>by
  simp only[zps] at h⊢;split at h
  .rename_i E c h1 h2 h3;simp only[h1,h2,h3];have hB:B[n]? = some (0,.slice none 0 0):=by have:=h 0 (by simp);simpa using this
   obtain⟨k1,k2,k3⟩:=z8b d ((t,[],.own n)::sl) (n+1) (λk hk=>by have:=h (k+1) (by simpa using hk);rw[<- this];congr 1;omega);refine⟨?_,λkn m hg=>k2 kn m ⟨?_,?_,hg.kn⟩,?_⟩
   .rw[k1];funext u;simp only[slD,z0k];by_cases e:u=t
    .subst e;rw[if_pos rfl,h1];simp[denE,SV.den,hB]
    .rw[if_neg e]
   .intro u g hu ch z f;simp only[z0k] at f;by_cases e:u=t
    .subst e;simp only at hu;rw[h3] at hu;cases hu
    .rw[if_neg e] at f;exact hg.val u g hu ch z f
   .intro u ch z f;simp only[z0k] at f;by_cases e:u=t
    .rw[if_pos e] at f;simp only[w01,w0k] at f;rw[<- f.1];intro p hp;cases hp
    .rw[if_neg e] at f;exact hg.ch u ch z f
   .intro o ho;simp only[w05] at ho;rcases ho with rfl|ho
    .exact⟨E,c,rfl⟩
    .exact k3 o ho
  .exact z8b d sl n h
 |(t,.val c)::d,sl,n,h=>z8b d sl n h
 |(t,.ptr a b)::d,sl,n,h=>z8b d sl n h
 |(t,.agg a)::d,sl,n,h=>z8b d sl n h
 |(t,.func a b)::d,sl,n,h=>z8b d sl n h
 |(t,.cmp a)::d,sl,n,h=>z8b d sl n h
 |(t,.nil)::d,sl,n,h=>z8b d sl n h
 |(t,.raw a)::d,sl,n,h=>z8b d sl n h
 |(t,.rop a)::d,sl,n,h=>z8b d sl n h
 |(t,.rom a b)::d,sl,n,h=>z8b d sl n h
theorem Nils.left{B:Asg}{n a b:Nat}(h:Nils B n (a+b)):Nils B n a:=λk d=>h k (by omega)
theorem Nils.right{B:Asg}{n a b:Nat}(h:Nils B n (a+b)):Nils B (n+a) b:=λk d=>by have:=h (a+k) (by omega);rw[<- this];congr 1;omega
theorem zus[Dr]{B:Asg}{os:List OC}{ro:Nat->Prop}{w:World}: ∀(g:List (Nat×List (Nat×LC)))(fs:List (Fm V.T))(as:List GA)(n:Nat),Nils B n (znf V os g fs n).2.length->
  (Stk V P B ro w fs as->Stk V P B ro w (znf V os g fs n).1 as)/\∀o∈(znf V os g fs n).2,∃E c,o = .row E c []
 | [],fs,as,n,_=>⟨λh=>by simpa only[znf] using h,λo d=>by simp[znf] at d⟩
 |(_,l)::g,[],as,n,_=>⟨λh=>by simpa only[znf] using h,λo d=>by simp[znf] at d⟩
 |(_,l)::g,f::fs,as,n,h=>by
  simp only[znf,w0h] at h⊢;obtain⟨k1,k2,u⟩:=z8b (P:=P) (os:=os) (gb:=f.gb) l f.sl n h.left;cases as with
  |nil=>obtain⟨z,j⟩:=zus (ro:=ro) (w:=w) g fs [] _ h.right;exact⟨λq=>q.elim,λo d=>(w0j.1 d).elim (u o) (j o)⟩
  |cons a as=>obtain⟨z,j⟩:=zus (ro:=ro) (w:=w) g fs as _ h.right;refine⟨λq=>⟨⟨?_,q.1.2.1,k2 _ _ q.1.2.2.1,q.1.2.2.2⟩,z q.2⟩,λo d=>(w0j.1 d).elim (u o) (j o)⟩;show zj (slD V P B f.gb (zps V os f.gb l f.sl n).1) a.tm ro w;rw[k1];exact q.1.1
theorem yis[Dr]{B:Asg}{os:List OC}: ∀(f:List LC)(cs:List (SV V.T))(n:Nat),Nils B n (nilL V os f cs n).2.length->
  denL V P B (nilL V os f cs n).1=denL V P B cs/\∀o∈(nilL V os f cs n).2,∃E c,o = .row E c []:=by
 intro f cs n
 fun_induction nilL V os f cs n with
 |case1 c f cs n a r hr ha r' m g d=>intro h;simp only[g] at d;obtain⟨u,z⟩:=d h;refine⟨?_,z⟩;rw[z2k,u,(ziy V P cs _ a ha).1,(zd5 V P cs _ r hr).1,w2l]
 |case2=>intro h;exact⟨rfl,λo ho=>by cases ho⟩
 |case3 j f cs n E c hj r m g d=>
  intro h;simp only[g] at d;obtain⟨u,z⟩:=d λk hk=>by have:=h (k+1) (by simpa using hk);rw[<- this];congr 1;omega
  have hB:B[n]? = some (0,.slice none 0 0):=by have:=h 0 (by simp);simpa using this
  refine⟨?_,λo ho=>?_⟩
  .simp only[denL,u,SV.den,hB]
  .simp only[w05] at ho;rcases ho with rfl|ho
   .exact⟨E,c,rfl⟩
   .exact z o ho
 |case4=>intro h;exact⟨rfl,λo ho=>by cases ho⟩
 |case5 l f x cs n h1 h2 r m g d=>intro h;simp only[g] at d;obtain⟨u,z⟩:=d h;exact⟨by rw[z3p V P x r,z3p V P x cs,u],z⟩
 |case6=>intro h;exact⟨rfl,λo ho=>by cases ho⟩
theorem y7s[Dr]{j w:World}{d:Nat}{r:Nat->Prop}{B:Asg}: ∀(m:List (SO V.T))(objs:List HP)(S:Nat->Nat->Prop),(∀o∈m,∃E c,o = .row E c [])->WInv j d objs r S w->
  WInv j d (objs++obD V P B (List.replicate m.length (0,.slice none 0 0)) m) r S w
 | [],objs,S,_,h=>by simpa[obD] using h
 |o::m,objs,S,g,h=>by obtain⟨E,c,rfl⟩:=g o (w0n ..);have u:=h.addNil (row E (V.ev c) (V.sz c) ([]:List (V.T c)) (.slice none 0 0)) (.inl ⟨rfl,rfl⟩);have f:=y7s (B:=B) m _ S (λo z=>g o (w0g _ z)) u;rw[w0m] at f;exact f
theorem zzp[Dr]{A:Asg}{ob:List (SO V.T)}(u:A.length=ob.length){f w:World}{d:Nat}{r:Nat->Prop}{S:Nat->Nat->Prop}{m:List (SO V.T)}(z:∀o∈m,∃E c,o = .row E c [])(h:WInv f d (obD V P A A ob) r S w):
  ∃g,WInv f d (obD V P (A++List.replicate m.length (0,.slice none 0 0)) (A++List.replicate m.length (0,.slice none 0 0)) (ob++m)) r g w:=by
 have j:=y7s (P:=P) (B:=A++List.replicate m.length (0,.slice none 0 0)) m _ S z h;exact z6g u (B:=List.replicate m.length (0,.slice none 0 0)) (zic _) _ _ _ _ _ j
theorem y9z{A:Asg}{n m:Nat}(f:A.length=n):Nils (A++List.replicate m (0,.slice none 0 0)) n m:=λk d=>by rw[w18 (by omega),f,w3t,w4i,if_pos d]
theorem zdr[Dr]{C:Cx P}{f:List GA}{a:Act}{w:World}{s:SS V.T}(all:List OC):∀(os:List OC)(j:Nat)(b:Bd)(ob:List (SO V.T)),SatS V C f { s with ob:=ob } a w->SatS V C f { s with ob:=nilB V all j os b ob } a w
 | [],j,b,ob,h=>h
 | .box t d::os,j,b,ob,h=>by
  simp only[nilB];split
  .rename_i i hi;split
   .rename_i t cs ho;refine zdr all os _ _ _ (h.objs (ob':=ob.set i (.box t (nilL V all d cs ob.length).1)++(nilL V all d cs ob.length).2) λA ro S u hw=>?_);obtain⟨k1,k2⟩:=yis (P:=P) (os:=all) d cs ob.length (y9z (A:=A) (m:=(nilL V all d cs ob.length).2.length) u);obtain⟨S',g⟩:=zzp (P:=P) u k2 hw;refine⟨List.replicate (nilL V all d cs ob.length).2.length (0,.slice none 0 0),S',by simp[u],?_⟩;have li:=(w04.1 ho).1;obtain⟨qi,a0⟩:∃q,A[i]? = some q:=⟨A[i],by simp[u,li]⟩;have z :(A++List.replicate (nilL V all d cs ob.length).2.length ((0:Nat),Value.slice none 0 0))[i]? = some qi:=by rw[w0r (by simp at u;omega)];exact a0
    have e1:ob.set i (.box t (nilL V all d cs ob.length).1)++(nilL V all d cs ob.length).2 =(ob++(nilL V all d cs ob.length).2).set i (.box t (nilL V all d cs ob.length).1):=by rw[List.set_append_left _ _ li]
    have e2 :(ob++(nilL V all d cs ob.length).2) =(ob++(nilL V all d cs ob.length).2).set i (.box t cs):=by rw[List.set_append_left _ _ li];congr 1;exact(so_set_same ho).symm
    rw[e1,z6f V P _ _ i qi _ z];rw[e2,z6f V P _ _ i qi _ z] at g;simp only[SO.den] at g⊢;rw[k1];exact g
   .exact zdr all os _ _ _ h
  .exact zdr all os _ _ _ h
 | .row _ _::os,j,b,ob,h=>zdr all os _ _ _ h
 | .fix _ _::os,j,b,ob,h=>zdr all os _ _ _ h
 | .emp::os,j,b,ob,h=>zdr all os _ _ _ h
 | .map _ _ _::os,j,b,ob,h=>zdr all os _ _ _ h
 | .it _ _::os,j,b,ob,h=>zdr all os _ _ _ h
 | .nst _ _ _ _::os,j,b,ob,h=>zdr all os _ _ _ h
 where so_set_same:∀{l:List (SO V.T)}{i:Nat}{H:SO V.T},l[i]? = some H->l.set i H=l
 |_::_,0,_,h=>by simp at h;subst h;rfl
 |_::l,i+1,_,h=>by simp only[w3v];rw[so_set_same (by simpa using h)]
 | [],_,_,h=>by simp at h
theorem yit[Dr]{C:Cx P}{d:List GA}{s:SS V.T}{a:Act}{w:World}(h:Sh)(H:SatS V C d s a w):SatS V C d (nilS V h s) a w:=by
 unfold nilS;split
 .rename_i f fs m hm;obtain⟨hd,a0,j,hg,A,ro,S,u,hw,he,hs,z⟩:=H;have h0:Nils (A++List.replicate (znf V h.ob h.fr (s.toFm::s.stk) s.ob.length).2.length (0,.slice none 0 0)) s.ob.length (znf V h.ob h.fr (s.toFm::s.stk) s.ob.length).2.length:=y9z u;obtain⟨k1,k2⟩:=zus (P:=P) (ro:=ro) (w:=w) (os:=h.ob) h.fr (s.toFm::s.stk) (⟨a,none⟩::d) s.ob.length h0;rw[hm] at k1 k2;obtain⟨S',a1⟩:=zzp (P:=P) u k2 hw;have g:Stk V P A ro w (s.toFm::s.stk) (⟨a,none⟩::d):=⟨⟨hs,j,hg,(λx e=>by cases e),a0⟩,z⟩;obtain⟨⟨q1,q2,q3,q4,q5⟩,q6⟩:=k1 (Stk.ext (AExt.app A _) (Evo.refl C.base _ _) g);exact zdr (s:={ f with stk:=fs,ob:=s.ob++m }) h.ob h.ob 0 _ _ ⟨trivial,q5,q2,q3,A++List.replicate m.length (0,.slice none 0 0),ro,S',by simp[u],a1,he,q1,q6⟩
 .exact H
theorem ydh{s:SS V.T}(i:Nat):(zxs V s i).toFm=s.toFm/\(zxs V s i).stk=s.stk:=by
 unfold zxs y0v;split
 .split
  .split
   .generalize V.key _=q;cases q<;>exact⟨rfl,rfl⟩
   .exact⟨rfl,rfl⟩
  .exact⟨rfl,rfl⟩
 .split
  .rename_i d f g _;cases Nat.beq d _ with
   |false=>exact⟨rfl,rfl⟩
   |true=>simp only[cond_true];split<;>exact⟨rfl,rfl⟩
  .exact⟨rfl,rfl⟩
 .exact⟨rfl,rfl⟩
theorem zxt[Dr]{C:Cx P}{d:List GA}{a:Act}{w:World}: ∀(f:List Nat){s:SS V.T},SatS V C d s a w->SatS V C d (zss V s f) a w/\(zss V s f).toFm=s.toFm/\(zss V s f).stk=s.stk
 | [],s,h=>⟨h,rfl,rfl⟩
 |i::f,s,h=>by obtain⟨g,j,u⟩:=zxt f (y3q i h);obtain⟨z,h5⟩:=ydh (V:=V) (s:=s) i;exact⟨g,j.trans z,u.trans h5⟩
theorem yhj[Dr]{C:Cx P}{d:List GA}{s:SS V.T}{a:Act}{w:World}(H:SatS V C d s a w)(h:Sh)(z:h.Z V.T)(b:Bd)(hb:∀j i,lk b j=some i->j<h.ob.length)(g:h.decB V s b=some z):SatS V C d (h.enc V z) a w:=by
 unfold Sh.decB at g;split at g
 .rename_i u hi;cases hn:zga u with
  |false=>rw[hn] at g;exact zm g
  |true=>
   rw[hn] at g;change (match deO V b (zss V s (zp0 h.ob u)).ob 0 h.ob with
    |some z=>deF V b h.fr (s.toFm::s.stk) z
    |none=>none)=some z at g
   obtain⟨H2,f1,f2⟩:=zxt (zp0 h.ob u) H;rw[<- f1,<- f2] at g;revert g H2;generalize zss V s (zp0 h.ob u)=s2;intro g H2;obtain⟨hd,a7,a2,hg,A,ro,S,hl,hw,he,hs,a6⟩:=H2;split at g
   .rename_i z' ho;obtain⟨a3,a4⟩:=y2y hi;have a0:HB A (u.map λi=>A.getD i default) b:=by intro j i p hj hp;have a5:=hb j i hj;have:=a4 j a5;rw[w1j,hj] at this;rw[w1r,<- this];simp[List.getD,hp]
    have a1:=ziz (P:=P) a0 s2.ob hl h.ob 0 u z' hi ho;obtain⟨h1,h2⟩:=yfu (P:=P) (ro:=ro) (w:=w) a0 h.fr (s2.toFm::s2.stk) (⟨a,none⟩::d) z' z ⟨⟨hs,a2,hg,(λx e=>by cases e),a7⟩,a6⟩ g;show SatS V C d (mkS V (enF V h.fr z).1 (enO V h.ob (enF V h.fr z).2)) a w;rw[h1];generalize (enF V h.fr z).1=fs at h2;cases fs with
    |nil=>exact h2.elim
    |cons f fs=>obtain⟨⟨k1,k2,k3,k4,k5⟩,k6⟩:=h2;exact⟨trivial,k5,k2,k3,_,ro,_,by simp only[mkS,w0q,zel];exact a3,hw.sel a1 hn,he,k1,k6⟩
   .exact zm g
 .exact zm g
theorem zsk[Dr]{C:Cx P}{d:List GA}{s:SS V.T}{a:Act}{w:World}(H:SatS V C d s a w)(h:Sh)(z:h.Z V.T)(u:h.dec V s=some z):SatS V C d (h.enc V z) a w:=by refine yhj (yit h H) h z (h.bd V (nilS V h s)) (λj i g=>?_) u;have f:=zg7 g;unfold Sh.bd at f;rw[w0i] at f;exact of_eq_true ((congrArg (λx=>x) (w2e (x:=j) (y:=h.ob.length))) ▸ eq_true f.2)
end
end Px
end
section
namespace Px
open Go Go.RowKit
section
variable{V:TE}{N:Env V}{R:Type}{r:R}
def GbX(g g':List (Nat×Bool)):Prop:=∀t b,lk g t=some b->lk g' t=some b
theorem GbX.refl(g:List (Nat×Bool)):GbX g g:=λ_ _ h=>h
theorem GbX.trans{a b c:List (Nat×Bool)}(h:GbX a b)(k:GbX b c):GbX a c:=λt x e=>k t x (h t x e)
theorem GbX.isSome{a b:List (Nat×Bool)}(h:GbX a b){t:Nat}(k :(lk a t).isSome=true):(lk b t).isSome=true:=by
 cases e:lk a t with
 |none=>rw[e] at k;cases k
 |some x=>rw[h t x e];rfl
theorem GbX.chP{a b:List (Nat×Bool)}(h:GbX a b){ch:Ch}(k:∀p∈ch,(lk a p.1).isSome=true):chP a ch=chP b ch:=by
 refine propext ?_;rw[z9k,z9k];have e:∀p∈ch,lk b p.1=lk a p.1:=λp d=>by
  cases e:lk a p.1 with
  |none=>have:=k p d;rw[e] at this;cases this
  |some x=>rw[h _ x e]
 exact⟨λH p d=>by rw[e p d];exact H p d,λH p d=>by rw[<- e p d];exact H p d⟩
theorem GbX.denE[Dr]{P:Program}{A:Asg}{a b:List (Nat×Bool)}(h:GbX a b){e:Ch×SV V.T}(k:∀p∈e.1,(lk a p.1).isSome=true):denE V P A a e=denE V P A b e:=by
 obtain⟨ch,x⟩:=e;cases ch with
 |nil=>rfl
 |cons p l=>show cnd (Px.chP a (p::l)) _=cnd (Px.chP b (p::l)) _;rw[h.chP k]
def ydq{T:Nat->Type}: SV T->Bool
 | .func ..=>true
 |_=>false
structure EsOK(tab:Tab)(gb:List (Nat×Bool))(bs:Sls V.T)(es:List (DE V.T)):Prop where
 dst:∀e∈es,tab.dst e.1=some e.2.1
 ch:∀e∈es,∀p∈e.2.2.1,(lk gb p.1).isSome=true
 val:∀e∈es,∀g,lk gb e.2.1=some g->e.2.2.2 = .bool g
 inj:∀e∈es,∀e'∈es,e.2.1=e'.2.1->e=e'
 bs:∀e∈es,lk bs e.2.1=none\/(lk bs e.2.1=some e.2.2/\ydq e.2.2.2=true)
theorem zsv{α:Type}: ∀(l m:List (Nat×α))(t:Nat),lk (l++m) t =(match lk l t with|some x=>some x|none=>lk m t)
 | [],m,t=>rfl
 |(k,y)::l,m,t=>by
  simp only[w2j,z0k];by_cases h:t=k
  .rw[if_pos h,if_pos h]
  .rw[if_neg h,if_neg h];exact zsv l m t
theorem zl0{f:Nat->Bool}{bs:Sls V.T}{es:List (DE V.T)}{t:Nat}{x:Ch×SV V.T}(h:lk (drSl V f bs es) t=some x):(∃e∈es,e.2 =(t,x))\/lk bs t=some x:=by
 unfold drSl at h;rw[zsv] at h;split at h
 .rename_i y hy;cases h;obtain⟨e,g,d⟩:=w0b.1 (zg7 hy);exact .inl ⟨e,(w0i.1 g).1,d⟩
 .exact .inr h
theorem EsOK.gb{tab:Tab}{gb:List (Nat×Bool)}{kn:Ch}{n:Nat}{bs:Sls V.T}{es:List (DE V.T)}(h:EsOK tab gb bs es)(j:GbOK (⟨bs,gb,kn,n⟩:Fm V.T))(f:Nat->Bool):GbOK (⟨drSl V f bs es,gb,kn,n⟩:Fm V.T) where
 val:=λt g hg ch z hl=>by
  rcases zl0 hl with⟨e,u,d⟩|hl
  .have:=h.val e u g (by rw[d];exact hg)
   rw[d] at this;exact this
  .exact j.val t g hg ch z hl
 ch:=λt ch z hl p hp=>by
  rcases zl0 hl with⟨e,u,d⟩|hl
  .exact h.ch e u p (by rw[d];exact hp)
  .exact j.ch t ch z hl p hp
 kn:=j.kn
def qrOf[Dr](P:Program)(A:Asg)(gb:List (Nat×Bool))(es:List (DE V.T)):List (Nat×VP):=es.map λe=>(e.1,denE V P A gb e.2.2)
theorem z5w[Dr]{P:Program}{A:Asg}{tab:Tab}{gb:List (Nat×Bool)}{bs:Sls V.T}(f:Nat->Bool):∀{es:List (DE V.T)},(∀e∈es,tab.dst e.1=some e.2.1)->z1k tab f (slD V P A gb bs) (qrOf P A gb es)=slD V P A gb (drSl V f bs es)
 | [],h=>by funext t;rfl
 |e::es,h=>by
  funext t;have g:=congrFun (z5w (P:=P) (A:=A) (gb:=gb) (bs:=bs) f λe he=>h e (w0g _ he)) t;have z:=h e (w0n ..);simp only[qrOf,w0l,z1k,z,zdz];obtain⟨i,d,x⟩:=e;simp only[drSl] at g⊢;cases j:f i with
  |false=>rw[w4l (by simpa using j)];simpa[qrOf] using g
  |true=>
   rw[w2w (by simpa using j)];simp only[w0l,w2j,slD,z0k];by_cases e:t=d
   .subst e;simp
   .have:Nat.beq d t=false:=zo7 λu=>e u.symm
    rw[if_neg e,this];simpa[qrOf,slD] using g
theorem zlq{tab:Tab}{f:Nat->Bool}{s:z9i}: ∀{l m:List (Nat×VP)},(∀p∈l,f p.1=false)->z1k tab f s (l++m)=z1k tab f s m
 | [],m,h=>rfl
 |(q,x)::l,m,h=>by funext t;have d:=h (q,x) (w0n ..);simp only at d;simp only[w2j,z1k,d,Bool.false_and,cond_false];rw[zlq λp g=>h p (w0g _ g)]
theorem zzc[Dr]{P:Program}{A:Asg}{g d:List (Nat×Bool)}(f:GbX g d){kn:Ch}{n:Nat}{sl:Sls V.T}(h:GbOK (⟨sl,g,kn,n⟩:Fm V.T)):slD V P A g sl=slD V P A d sl:=by
 funext t;simp only[slD];cases e:lk sl t with
 |none=>rfl
 |some x=>obtain⟨ch,z⟩:=x;simp only[w0z,w01];exact f.denE (h.ch t ch z e)
theorem zlm[Dr]{A:Asg}{P:Program}{tab:Tab}{gb:List (Nat×Bool)}{bs:Sls V.T}{es:List (DE V.T)}(h:EsOK tab gb bs es):zwo tab (slD V P A gb bs) (qrOf P A gb es):=by
 intro p g t f;obtain⟨e,d,rfl⟩:=w0b.1 g;rw[h.dst e d] at f;cases f;rcases h.bs e d with q|⟨q,_⟩
 .exact .inl (by simp only[slD,q,w5u])
 .exact .inr (by simp only[slD,q,w0z])
theorem zhf{ops:Array Oper}{i:Nat}{o:Oper}(h:ops[i]? = some o):Tab.deps (z02 ops) i=z0l o:=by simp only[Tab.deps,zmx rfl h];rfl
theorem zii{ops:Array Oper}{i:Nat}{o:Oper}(h:ops[i]? = some o):Tab.dst (z02 ops) i=o.dst:=by simp only[Tab.dst,zmx rfl h]
theorem ykh{tab:Tab}{n:Nat}{d:List Nat}(h:chk tab n [] d [] []=true){i e:Nat}(g:i<tab.length)(f:e∈tab.deps i):e<i:=by simp only[chk,w02,w0a,w1d,decide_eq_true_eq] at h;exact h.2 i g e f
theorem EsOK.more{tab:Tab}{gb:List (Nat×Bool)}{kn:Ch}{n:Nat}{bs:Sls V.T}{es:List (DE V.T)}(h:EsOK tab gb bs es)(hb:GbOK (⟨bs,gb,kn,n⟩:Fm V.T)){f:Nat->Bool}{t:Nat}{ch:Ch}{b:Bool}
  (hl:lk (drSl V f bs es) t=some (ch,.bool b)) (hg:lk gb t=none):EsOK tab ((t,b)::gb) bs es/\GbOK (⟨bs,(t,b)::gb,kn,n⟩:Fm V.T)/\GbX gb ((t,b)::gb):=by
 have hX:GbX gb ((t,b)::gb):=by
  intro u c hu;rw[z0k,if_neg]
  .exact hu
  .rintro rfl;rw[hg] at hu;cases hu
 refine⟨⟨h.dst,λe he p hp=>hX.isSome (h.ch e he p hp),λe he g j=>?_,h.inj,h.bs⟩,⟨λu g hu c z hz=>?_,λu c z hz p hp=>hX.isSome (hb.ch u c z hz p hp),λp hp=>hX.isSome (hb.kn p hp)⟩,hX⟩
 .rw[z0k] at j;split at j
  .rename_i e1;cases j;rcases zl0 hl with⟨e',a0,h2⟩|hl'
   .have:=h.inj e he e' a0 (by rw[e1,h2])
    subst this;rw[h2]
   .rcases h.bs e he with this|⟨this,hf⟩
    .rw[e1,hl'] at this;cases this
    .rw[e1,hl'] at this;have:=w0f this;rw[<- this] at hf;cases hf
  .exact h.val e he g j
 .rw[z0k] at hu;split at hu
  .rename_i e1;cases hu;subst e1;rcases zl0 hl with⟨e',a0,h2⟩|hl'
   .rcases h.bs e' a0 with this|⟨_,hf⟩
    .rw[h2] at this;change lk bs u=none at this;have d:lk bs u=some (c,z):=hz;rw[this] at d;cases d
    .rw[h2] at hf;cases hf
   .have d:lk bs u=some (c,z):=hz;rw[hl'] at d;cases d;rfl
  .exact hb.val u g hu c z hz
theorem EsOK.put{tab:Tab}{gb:List (Nat×Bool)}{bs:Sls V.T}{es:List (DE V.T)}(h:EsOK tab gb bs es){i d:Nat}{ch:Ch}{v:SV V.T}(hd:tab.dst i=some d)(hg:lk gb d=none)(hb:lk bs d=none\/(lk bs d=some (ch,v)/\ydq v=true))
  (hn :(es.any λe=>Nat.beq e.2.1 d)=false) (hc:∀p∈ch,(lk gb p.1).isSome=true):EsOK tab gb bs ((i,d,ch,v)::es):=by
 have j:∀e∈es,e.2.1≠d:=λe he e1=>by have :(es.any λe=>Nat.beq e.2.1 d)=true:=w1q.2 ⟨e,he,by rw[e1];exact w2p d⟩;rw[hn] at this;cases this
 refine⟨λe he=>?_,λe he p hp=>?_,λe he g f=>?_,λe he z he' u=>?_,λe he=>?_⟩
 .rcases w05.1 he with rfl|he
  .exact hd
  .exact h.dst e he
 .rcases w05.1 he with rfl|he
  .exact hc p hp
  .exact h.ch e he p hp
 .rcases w05.1 he with rfl|he
  .change lk gb d=some g at f;rw[hg] at f;cases f
  .exact h.val e he g f
 .rcases w05.1 he with rfl|he
  .rcases w05.1 he' with rfl|he'
   .rfl
   .exact absurd u.symm (j z he')
  .rcases w05.1 he' with rfl|he'
   .exact absurd u (j e he)
   .exact h.inj e he z he' u
 .rcases w05.1 he with rfl|he
  .exact hb
  .exact h.bs e he
theorem ztw[Dr](hN:z6x V N){C:Cx N.P}{A:Asg}{ops:Array Oper}{bs:Sls V.T}{k:SS V.T->List (DE V.T)->Option R}: ∀(os:List Oper)(i:Nat)(s:SS V.T)(es:List (DE V.T)),(∀(q:Nat)(o:Oper),os[q]? = some o->ops[i+q]? = some o)->y0g V N ops bs i os s es k=some r->
  EsOK (z02 ops) s.gb bs es->GbOK (⟨bs,s.gb,s.kn,s.n⟩:Fm V.T)->chP s.gb s.kn->OneA V A s.ob->
  ∃(f:List (Nat×Bool))(j:List (DE V.T)),GbX s.gb f/\k { s with gb:=f } (j++es)=some r/\EsOK (z02 ops) f bs (j++es)/\GbOK (⟨bs,f,s.kn,s.n⟩:Fm V.T)/\
   (∀e∈j,i<=e.1/\e.1<i+os.length)/\
   ((∀i,i<(z02 ops).length->∀e∈Tab.deps (z02 ops) i,e<i)->∀e∈j,∃o,ops[e.1]? = some o/\GQ C (z02 ops) o ⟨z1k (z02 ops) (memB (Tab.deps (z02 ops) e.1)) (slD V N.P A f bs) (qrOf N.P A f (j++es)),obD V N.P A A s.ob⟩ (denE V N.P A f e.2.2))
 | [],i,s,es,ag,h,a5,a2,aa,h1=>by exact⟨s.gb,[],GbX.refl _,h,a5,a2,(λe he=>absurd he w0y),(λ_ e he=>absurd he w0y)⟩
 |o::os,i,s,es,ag,h,a5,a2,aa,h1=>by
  have ho:ops[i]? = some o:=ag 0 o rfl;have ar:∀(q:Nat)(o':Oper),os[q]? = some o'->ops[i+1+q]? = some o':=λq o' hq=>by
   have:=ag (q+1) o' (by simpa using hq)
   rwa [show i+(q+1)=i+1+q by omega] at this
  have ap:i<(z02 ops).length:=by rw[zfa rfl];exact(w1c.1 ho).1
  simp only[y0g] at h;cases hd:o.dst with
  |none=>rw[hd] at h;cases h
  |some d=>
   rw[hd] at h;simp only at h;split at h
   .rename_i ak aj;cases a4 :(es.any λe=>Nat.beq e.2.1 d) with
    |true=>rw[a4] at h;cases h
    |false=>
     rw[a4] at h;simp only[cond_false] at h;have aw:Tab.dst (z02 ops) i=some d:=by rw[zii ho,hd]
     have ai:=a5.gb a2 (memB (z0l o))
     have fin:∀(g1:List (Nat×Bool))(ch:Ch)(v:SV V.T),GbX s.gb g1->EsOK (z02 ops) g1 bs es->GbOK (⟨bs,g1,s.kn,s.n⟩:Fm V.T)->lk g1 d=none->(∀p∈ch,(lk g1 p.1).isSome=true)->
       y0g V N ops bs (i+1) os { s with gb:=g1 } ((i,d,ch,v)::es) k=some r->
       (∀f st,GbX g1 f->st =(⟨slD V N.P A g1 (drSl V (memB (z0l o)) bs es),obD V N.P A A s.ob⟩:St)->GQ C (z02 ops) o st (denE V N.P A f (ch,v)))->
       ∃(f:List (Nat×Bool))(j:List (DE V.T)),GbX s.gb f/\k { s with gb:=f } (j++es)=some r/\EsOK (z02 ops) f bs (j++es)/\GbOK (⟨bs,f,s.kn,s.n⟩:Fm V.T)/\
        (∀e∈j,i<=e.1/\e.1<i+(o::os).length)/\
        ((∀i,i<(z02 ops).length->∀e∈Tab.deps (z02 ops) i,e<i)->∀e∈j,∃o,ops[e.1]? = some o/\GQ C (z02 ops) o ⟨z1k (z02 ops) (memB (Tab.deps (z02 ops) e.1)) (slD V N.P A f bs) (qrOf N.P A f (j++es)),obD V N.P A A s.ob⟩ (denE V N.P A f e.2.2)):=by
      intro g1 ch v hX a0 a3 ax a8 hr hq;obtain⟨f,j,x1,x2,x3,x4,x6,x7⟩:=ztw hN (C:=C) (A:=A) os (i+1) { s with gb:=g1 } _ ar hr (a0.put (v:=v) aw ax (.inl aj) a4 a8) a3 ((hX.chP a2.kn) ▸ aa) h1;have eapp :(j++[(i,d,ch,v)])++es=j++(i,d,ch,v)::es:=by simp
      refine⟨f,j++[(i,d,ch,v)],hX.trans x1,?_,?_,x4,λe he=>?_,λaq e he=>?_⟩
      .rw[eapp];exact x2
      .rw[eapp];exact x3
      .rw[w0o];rcases w0j.1 he with he|he
       .have:=x6 e he;omega
       .simp at he;subst he;exact⟨w16 _,by omega⟩
      .rw[eapp];rcases w0j.1 he with he|he
       .exact x7 aq e he
       .simp only[w0d] at he;subst he;refine⟨o,ho,hq f _ x1 ?_⟩;have a7:=a0.gb a3 (memB (z0l o));rw[zzc x1 a7,<- z5w (tab:=z02 ops) _ a0.dst,zhf ho];have hf:∀q,i<=q->memB (z0l o) q=false:=λq hq=>by
         cases hm:memB (z0l o) q with
         |false=>rfl
         |true=>have:=aq i ap q (by rw[zhf ho];exact z0f.1 hm);omega
        have:qrOf N.P A f (j++(i,d,ch,v)::es)=qrOf N.P A f (j++[(i,d,ch,v)])++qrOf N.P A f es:=by simp[qrOf]
        rw[this,zlq];intro p hp;simp only[qrOf,w0b] at hp;obtain⟨e,he,rfl⟩:=hp;rcases w0j.1 he with he|he
        .exact hf _ (by have:=(x6 e he).1;simp only;omega)
        .simp at he;subst he;exact hf _ (w16 _)
     split at h
     .rename_i hg;obtain⟨v,hv,hq⟩:=zex (C:=C) (A:=A) (s:={ s with sl:=drSl V (memB (z0l o)) bs es }) hN aa ai h1 h;refine fin s.gb [] v (GbX.refl _) a5 a2 ak (λp hp=>by cases hp) hv λf st _ ah=>?_
      subst ah;obtain⟨dst,op,ty,pos,a6,guard⟩:=o;simp only at hg;subst hg;exact hq trivial dst pos a6 none
     .rename_i g hg;split at h
      .rename_i ch s' z;unfold zg3 at z;split at z
       .rename_i t ht;have ay:Tab.dst (z02 ops) g.1=some t:=by
         cases af:ops[g.1]? with
         |none=>simp[af] at ht
         |some o'=>rw[zii af];simpa[af] using ht
        split at z
        .cases z
        .rename_i a1 b hl;have ae:∃g1,s' = { s with gb:=g1,sl:=drSl V (memB (z0l o)) bs es }/\ch =(t,g.2)::a1/\GbX s.gb g1/\EsOK (z02 ops) g1 bs es/\GbOK (⟨bs,g1,s.kn,s.n⟩:Fm V.T)/\lk g1 t=some b/\(∀u,u≠t->lk g1 u=lk s.gb u):=by
          split at z
          .rename_i g' a9;simp only[w01,w0k] at z;obtain⟨rfl,rfl⟩:=z;have e:=ai.val t g' a9 a1 _ hl;simp only[SV.bool.injEq] at e;subst e;exact⟨s.gb,rfl,rfl,GbX.refl _,a5,a2,a9,λ_ _=>rfl⟩
          .rename_i a9;simp only[w01,w0k] at z;obtain⟨rfl,rfl⟩:=z;obtain⟨m1,m2,m3⟩:=a5.more a2 hl a9;exact⟨_,rfl,rfl,m3,m1,m2,by simp[z0k],λu hu=>by rw[z0k,if_neg hu]⟩
         obtain⟨g1,rfl,rfl,hX,a0,a3,ao,au⟩:=ae;have a7:=a0.gb a3 (memB (z0l o));obtain⟨v,hv,hq⟩:=zex (C:=C) (A:=A) (s:={ s with gb:=g1,sl:=drSl V (memB (z0l o)) bs es }) hN ((hX.chP a2.kn) ▸ aa) a7 h1 h;have ab:∀p∈a1,(lk g1 p.1).isSome=true:=a7.ch t a1 _ hl;have a8:∀p∈(t,g.2)::a1,(lk g1 p.1).isSome=true:=λp hp=>by
          rcases w05.1 hp with rfl|hp
          .simp[ao]
          .exact ab p hp
         have am:lk g1 d=none:=by
          cases e1:lk g1 d with
          |none=>rfl
          |some b'=>
           exfalso;by_cases e2:d=t
           .subst e2;rcases zl0 hl with⟨e,he,h2⟩|hl'
            .have :(es.any λe=>Nat.beq e.2.1 d)=true:=w1q.2 ⟨e,he,by rw[h2];exact w2p d⟩;rw[a4] at this;cases this
            .rw[aj] at hl';cases hl'
           .rw[au d e2,ak] at e1;cases e1
         refine fin g1 _ v hX a0 a3 am a8 hv λf st ad ah=>?_
         subst ah;obtain⟨dst,op,ty,pos,a6,guard⟩:=o;simp only at hg;subst hg;refine⟨chP f ((t,g.2)::a1),v.den V N.P A,t,ay,rfl,λhp=>hq ((ad.chP a8) ▸ hp) dst pos a6 _,?_⟩;have av:slD V N.P A g1 (drSl V (memB (z0l ⟨dst,op,ty,pos,a6,some g⟩)) bs es) t=some (denE V N.P A g1 (a1,.bool b)):=by simp only[slD,hl,w0z]
         have ac:=ad t b ao;cases a1 with
         |nil=>refine .inl ⟨b,av,?_⟩;simp[chP,ac]
         |cons c0 cl=>refine .inr ⟨chP g1 (c0::cl),b,av,?_⟩;rw[ad.chP ab];simp[chP,ac]
        .cases z
       .cases z
      .cases h
   .cases h
theorem yd8[Dr](hN:z6x V N){C:Cx N.P}{A:Asg}{ops:Array Oper}{bs:Sls V.T}{k:SS V.T->Option R}(os:List Oper)(i:Nat)(s:SS V.T)(es:List (DE V.T))(a1:os=ops.toList.drop i)(h:yho V N ops bs i os s es k=some r)
  (u:EsOK (z02 ops) s.gb bs es) (z:GbOK (⟨bs,s.gb,s.kn,s.n⟩:Fm V.T)) (a0:chP s.gb s.kn) (h1:OneA V A s.ob) :
  ∃(d:List (Nat×Bool))(f:List (DE V.T)),GbX s.gb d/\k { s with gb:=d,sl:=drSl V (λ_=>true) bs (f++es) } = some r/\EsOK (z02 ops) d bs (f++es)/\GbOK (⟨bs,d,s.kn,s.n⟩:Fm V.T)/\
   chk (z02 ops) s.n [] ((f++es).map (·.1)) [] []=true/\
   ∀e∈f,∃o,ops[e.1]? = some o/\GQ C (z02 ops) o ⟨z1k (z02 ops) (memB (Tab.deps (z02 ops) e.1)) (slD V N.P A d bs) (qrOf N.P A d (f++es)),obD V N.P A A s.ob⟩ (denE V N.P A d e.2.2):=by
 obtain⟨d,f,x1,g,x3,x4,_,x7⟩:=ztw hN (C:=C) (A:=A) os i s es (λq o hq=>by rw[a1,w20] at hq;simpa using hq) h u z a0 h1;cases j:chk (z02 ops) s.n [] ((f++es).map (·.1)) [] [] with
 |false=>simp only at g;rw[j] at g;cases g
 |true=>simp only at g;rw[j] at g;exact⟨d,f,x1,g,x3,x4,j,x7 λi hi e he=>ykh j hi he⟩
theorem zea{α:Type}{P:α->Prop}: ∀{l:List α},(∀a∈l,P a)->AllP P l
 | [],_=>trivial
 |a::l,h=>⟨h a (w0n ..),zea λb d=>h b (w0g _ d)⟩
theorem zae{α:Type}(f:Nat->Bool):∀{l:List (Nat×α)}{t:Nat}{x:α},lk (l.filter λp=>f p.1) t=some x->lk l t=some x
 | [],t,x,h=>by cases h
 |(k,y)::l,t,x,h=>by
  cases d:f k with
  |false=>
   rw[w4l (by simpa using d)] at h;have:=zae f h;rw[z0k];by_cases e:t=k
   .subst e;have g:=zg7 h;have:=(w0i.1 g).2;simp only at this;rw[d] at this;cases this
   .rw[if_neg e];exact this
  |true=>
   rw[w2w (by simpa using d),z0k] at h;rw[z0k];by_cases e:t=k
   .rw[if_pos e] at h⊢;exact h
   .rw[if_neg e] at h⊢;exact zae f h
theorem yhp[Dr](hN:z6x V N){C:Cx N.P}{rd:Option Nat}{u:List GA}{ops:Array Oper}{id:Nat}{K:SS V.T->Option R}{Q:Exit->Act->World->Prop}(hK:∀s a w,K s=some r->SatS V C u s a w->Q .normal a w)
  {s:SS V.T} {a:Act} {w:World} (hm:N.P.follows .mixedOrders=true) (h:yho V N ops (s.sl.filter λp=>!isDs ops.toList p.1) 0 ops.toList s [] K=some r) (hs:SatS V C u s a w) :(Code.region id ops true).wpIn (fz rd) 0 N.P Q a w:=by
 obtain⟨hd,hn,a7,j,A,ro,S,hl,hw,ab,ad,ae⟩:=hs;generalize a9 :(s.sl.filter λp=>!isDs ops.toList p.1)=bs at h;have a4:∀{t:Nat}{x:Ch×SV V.T},lk bs t=some x->lk s.sl t=some x:=λ{t x}hx=>zae (λk=>!isDs ops.toList k) (by rw[a9];exact hx)
 have a1:GbOK (⟨bs,s.gb,s.kn,s.n⟩:Fm V.T):=⟨λt g hg ch z hz=>j.val t g hg ch z (a4 hz),λt ch z hz=>j.ch t ch z (a4 hz),j.kn⟩;obtain⟨f,a5,x1,x2,x3,x4,x5,x7⟩:=yd8 hN (C:={ C with n:=s.n,r0:=ro,wI:=w,rd:=rd,df:=a.defers }) (A:=A) ops.toList 0 s [] rfl h ⟨λe d=>absurd d w0y,λe d=>absurd d w0y,λe d=>absurd d w0y,λe d=>absurd d w0y,λe d=>absurd d w0y⟩ a1 a7 (zpu hw);rw[w0e] at x2 x3 x5 x7;have a3 :(qrOf N.P A f a5).map (·.1)=a5.map (·.1):=by simp[qrOf]
 have a6:zj (slD V N.P A f bs) a ro w:=by
  rw[<- zzc x1 a1];intro t X hX;simp only[slD] at hX;cases hb:lk bs t with
  |none=>rw[hb] at hX;cases hX
  |some e=>rw[hb] at hX;exact ad t X (by simp only[slD,a4 hb];exact hX)
 refine y0h (C:={ C with n:=s.n,r0:=ro,wI:=w,rd:=rd,df:=a.defers }) (s:=⟨slD V N.P A f bs,obD V N.P A A s.ob⟩) (QR:=qrOf N.P A f a5) (tab:=z02 ops) hm ?_ ⟨rfl,hn,ro,S,hw,Evo.refl _ _ _,a6⟩;refine Reg.introG [] [] rfl (by rw[a3];exact x5) ?_ ?_ trivial ?_
 .exact zlm x3
 .refine zea λp hp _=>?_
  simp only[qrOf,w0b] at hp;obtain⟨e,d,rfl⟩:=hp;exact x7 e d
 .intro _ a' w' a8;obtain⟨aa,ac,ag,S',af,a0,a2⟩:=a8;rw[z5w _ x3.dst] at a2;exact hK _ a' w' x2 ⟨trivial,ac,(x1.chP j.kn) ▸ a7,x3.gb x4 _,A,ag,S',hl,af,y4i aa ▸ ab.trans a0,a2,ae.ext (AExt.refl _) a0⟩
end
end Px
end
section
namespace Px
open Go Go.RowKit
section reg
variable{P:Program}{C:Cx P}{ops:Array Oper}{tab:Tab}{Q:Exit->Act->World->Prop}
theorem Reg.withInv[Dr]{D:List Nat}{s:St}{QR:List (Nat×VP)}(h :(∃r S w,WInv C.w0 C.base s.objs r S w)->Reg C ops tab Q D s QR):Reg C ops tab Q D s QR:=λfuel listed a w E r S f g z d j hs u=>h ⟨r,S,w,d⟩ fuel listed a w E r S f g z d j hs u
theorem Reg.weak[Dr]{D:List Nat}{s s':St}{QR QR':List (Nat×VP)}(hs:∀a r w,zj s.slots a r w->zj s'.slots a r w)(ho:ObW s.objs s'.objs)(hk:∀q∈QR.map (·.1),q∈QR'.map (·.1))
  (hf:∀p∈QR',p.1∈QR.map (·.1)->∃x,(p.1,x)∈QR/\Ent x p.2) (h:Reg C ops tab Q D s' QR'):Reg C ops tab Q D s QR:=by
 intro fuel listed a w E r S d hd hn hw he j g;obtain⟨z,u⟩:=ho _ _ _ _ _ hw;refine h fuel listed a w E r z ⟨d.closed,d.size,d.lst,λq f=>hk q (d.sub q f),d.fuel⟩ hd hn u he (hs _ _ _ j) ?_;intro q x t f hm ht;obtain⟨x0,h1,h2⟩:=hf (q,x) hm (d.sub q f);exact h2 _ _ _ (g q x0 t f h1 ht)
theorem zxb{rd:Option Nat}(f:z02 ops=tab)(a4:∀j,j<tab.length->∀e∈tab.deps j,e<j):∀(n m:Nat)(fuel:Nat)(L:Array Bool)(a:Act)(w:World),m+n=ops.size->n<=fuel->L.size=ops.size->
  (∀j,j<ops.size->(L.getD j true=true↔j<m))->(∀j,m<j->j<ops.size->j-1∈tab.deps j)->wpOpsIn (fz rd) 0 P ops Q (List.range' m n) a w->wpAnyIn (fz rd) 0 P .any ops Q fuel L a w
 |0,m,fuel,L,a,w,hm,a3,a1,u,g,h=>by
  have hr:Region.ready .any ops L = []:=by apply w4t.2;intro j z;obtain⟨h1,h2,_⟩:=zk1 z;rw[(u j h1).2 (by omega)] at h2;cases h2
  cases fuel with
  |zero=>exact⟨hr,h⟩
  |succ fuel=>exact⟨λ_=>h,λj z=>by rw[hr] at z;cases z⟩
 |n+1,m,0,L,a,w,hm,a3,a1,u,g,h=>by omega
 |n+1,m,fuel+1,L,a,w,hm,a3,a1,u,g,h=>by
  have d:m<ops.size:=by omega
  have ab:=zfa f;have gd:∀(L:Array Bool)(k:Nat),k<L.size->L.getD k true=true->L.getD k false=true:=λL k hk h=>by simp[hk] at h⊢;exact h
  have a5:m∈Region.ready .any ops L:=by
   simp only[Region.ready,w0i,w1d,w02,w0v];refine⟨d,?_,?_⟩
   .cases hb:L.getD m true with
    |false=>rfl
    |true=>have:=(u m d).1 hb;omega
   .simp only[w23 d,w0z,w1b,w31];intro e a8;by_cases hb:Region.binds .any e=true
    .simp only[hb,w21,w2c];have a2:=zmx f (i:=m) (o:=ops[m]) (by simp[d]);have a9:=a4 m (by omega) e.on (by simp only[Tab.deps,a2];exact w0b.2 ⟨e,w0i.2 ⟨by simpa using a8,hb⟩,rfl⟩);exact gd _ _ (by omega) ((u e.on (by omega)).2 a9)
    .simp[hb]
  have a0:∀j∈Region.ready .any ops L,j=m:=by
   intro j z;obtain⟨h1,h2,o,ho,h3⟩:=zk1 z;have ac:¬j<m:=λq=>by rw[(u j h1).2 q] at h2;cases h2
   by_cases e:j=m
   .exact e
   exfalso;have hd:=g j (by omega) h1;have a2:=zmx f ho;simp only[Tab.deps,a2] at hd;obtain⟨e,he,aa⟩:=w0b.1 hd;obtain⟨a6,a7⟩:=w0i.1 he;have h4:=h3 e (by simpa using a6) a7;rw[aa] at h4;have h5:L.getD (j-1) true=true:=by
    have:j-1<L.size:=by omega
    simp[this] at h4⊢;exact h4
   have:=(u (j-1) (by omega)).1 h5;omega
  refine⟨λhr=>(by rw[hr] at a5;cases a5),λi hi=>?_⟩;have:=a0 i hi;subst this;rw[w4p,wpOpsIn_cons] at h;refine wpOpIn_mono (λa' w' h'=>?_) h;refine zxb f a4 n (i+1) fuel _ a' w' (by omega) (by omega) (by simp[a1]) (λj z=>?_) (λj h1 h2=>g j (by omega) h2) h';by_cases e:j=i
  .subst e;have:j<L.size:=by omega
   simp[this]
  .have:¬i=j:=λh=>e h.symm
   simp only[w07,w35 this];have:=u j z;simp only[w07] at this;rw[this];omega
theorem Reg.tail[Dr]{D:List Nat}{s:St}{QR:List (Nat×VP)}(l:Nat)(a2:List Nat)(g:z02 ops=tab)(d:chk tab C.n D (QR.map (·.1)) [l] a2=true)(a3:zwo tab s.slots QR)
  (aa:AllP (λp=>memB a2 p.1=false->∃o,ops[p.1]? = some o/\GQ C tab o ⟨z1k tab (memB (tab.deps p.1)) s.slots QR,s.objs⟩ p.2) QR)
  (ad :(QR.map (·.1)).all (λq=>(l::(D++QR.map (·.1))).any λj=>memB (Tab.deps tab j) q)=true) (a6 :(List.range ops.size).all (λq=>Nat.ble l q||memB D q||memB (QR.map (·.1)) q)=true)
  (a8 :(D++QR.map (·.1)).all (λq=>Nat.blt q l)=true) (ac :(List.range ops.size).all (λj=>Nat.ble j l||memB (Tab.deps tab j) (j-1))=true) (a1:l<ops.size) (hl:zek tab D (QR.map (·.1))=false)
  (hW:∀a w,Sat C ⟨z1k tab (λ_=>true) s.slots QR,s.objs⟩ a w->wpOpsIn (fz C.rd) 0 P ops Q (List.range' l (ops.size-l)) a w):Reg C ops tab Q D s QR:=by
 refine Reg.introW [] [l] a2 g d a3 aa trivial ?_ (λhc=>by rw[hl] at hc;cases hc);intro i hi fuel listed a w E r S hN hd hn hw he hs hf aj a4 ak;simp only[w0d] at hi;subst hi;have z:∀q∈QR.map (·.1),q ∉ D/\q<tab.length:=by intro q u;simp only[chk,w02,w0a,decide_eq_true_eq] at d;obtain⟨⟨⟨_,h1⟩,h2⟩,_⟩:=d.1.1.2 q u;exact⟨λh=>by rw[z0f.2 h] at h1;simp at h1,h2⟩
 have a5:∀j,j<tab.length->∀e∈tab.deps j,e<j:=by intro j hj e ae;simp only[chk,w02,w0a,decide_eq_true_eq,w1d] at d;exact d.2 j hj e ae
 have key:∀m q,q∈QR.map (·.1)->tab.length<=m+q->q∈E:=by
  intro m
  induction m with
  |zero=>intro q u hm;have:=(z q u).2;omega
  |succ m ai=>
   intro q u hm;have h1:=w0a.1 ad q u;obtain⟨j,hj,hd⟩:=w1q.1 h1;have hd:=z0f.1 hd;rcases w05.1 hj with rfl|hj
   .exact(a4 q hd).resolve_left (z q u).1
   rcases w0j.1 hj with hj|hj
   .exact(hN.closed j (.inl hj) q hd).resolve_left (z q u).1
   .have a9:=a5 j (z j hj).2 q hd;exact(hN.closed j (.inr (ai j hj (by omega))) q hd).resolve_left (z q u).1
 have a0:∀q∈QR.map (·.1),q∈E:=λq u=>key tab.length q u (by omega)
 have a7:∀q,q∈D\/q∈QR.map (·.1)->q<i:=λq u=>by have:=w0a.1 a8 q (w0j.2 u);exact w0s this
 have f:∀j,j<ops.size->(listed.getD j true=true↔j<i):=by
  intro j hj;rw[hN.lst j hj];constructor
  .rintro(h|h)
   .exact a7 j (.inl h)
   .exact a7 j (.inr (hN.sub j h))
  .intro am;have:=w0a.1 a6 j (by simpa using hj);simp only[w0w] at this;rcases this with(q|q)|q
   .have:=w0s q;omega
   .exact .inl (z0f.1 q)
   .exact .inr (a0 j (z0f.1 q))
 have ag:ops.size-i<=fuel+1:=by
  have hc:=hN.fuel;have e1 :((List.range ops.size).filter λi=>!listed.getD i true) =(List.range ops.size).filter λj=>!Nat.blt j i:=by
   refine w3l λj hj=>?_
   have:listed.getD j true=Nat.blt j i:=by rw[w0t,f j (w1d.1 hj),w2e]
   rw[this]
  rw[e1] at hc;have e2:∀n,n-i<=((List.range n).filter λj=>!Nat.blt j i).length:=by
   intro n
   induction n with
   |zero=>simp
   |succ n ih=>
    rw[w1n,w12,w0h];by_cases h:n<i
    .omega
    .have:Nat.blt n i=false:=by
      cases hb:Nat.blt n i with
      |false=>rfl
      |true=>exact absurd (w0s hb) h
     simp only[w15,this,w2m,if_true,w4w,w3y];omega
  have:=e2 ops.size;omega
 have hchain:∀j,i<j->j<ops.size->j-1∈tab.deps j:=λj h1 h2=>by
  have:=w0a.1 ac j (w1d.2 h2);simp only[w0w] at this;rcases this with q|q
  .have:=w0s q;omega
  .exact z0f.1 q
 have h0:=hW a w ⟨hd,hn,r,S,hw,he,zjz hs λq x t hm _ ht=>hf q x t (a0 q (w0b.2 ⟨_,hm,rfl⟩)) hm ht⟩;have h1:=zxb (rd:=C.rd) g a5 (ops.size-i) i (fuel+1) listed a w (by omega) ag hN.size f hchain h0;exact h1.2 i (by
  have hr:=h1.1;simp only[Region.ready,w0i,w1d,w02,w0v];refine⟨a1,?_,?_⟩
  .cases hb:listed.getD i true with
   |false=>rfl
   |true=>have:=(f i a1).1 hb;omega
  .simp only[w23 a1,w0z,w1b,w31];intro e af;by_cases hb:Region.binds .any e=true
   .simp only[hb,w21,w2c];have ah:=zmx g (i:=i) (o:=ops[i]) (by simp[a1]);have a9:=a5 i (by rw[zfa g];exact a1) e.on (by simp only[Tab.deps,ah];exact w0b.2 ⟨e,w0i.2 ⟨by simpa using af,hb⟩,rfl⟩);have h4:=(f e.on (by omega)).2 a9;have ab:e.on<listed.size:=by rw[hN.size];omega
    simp[ab] at h4⊢;exact h4
   .simp[hb])
theorem OpQ.slots[Dr]{o:Oper}{s s':St}{x:VP}(f:s'.objs=s.objs)(u:∀t A,s.slots t=some A->s'.slots t=some A)(h:OpQ C o s x):OpQ C o s' x:=by
 intro a w ro S Q g j hw d;have:=h a w ro S Q g j (f ▸ hw) λt A z=>d t A (u t A z)
 rw[f];exact this
theorem GQ.slots[Dr]{o:Oper}{s s':St}{x:VP}(j:s'.objs=s.objs)(d:∀t A,s.slots t=some A->s'.slots t=some A)(h:GQ C tab o s x):GQ C tab o s' x:=by
 unfold GQ at h⊢;cases f:o.guard with
 |none=>rw[f] at h;exact h.slots j d
 |some jw=>rw[f] at h;obtain⟨p,x0,t,u,z,h3,h4⟩:=h;exact⟨p,x0,t,u,z,λhp=>(h3 hp).slots j d,h4.imp (λ⟨g,a,b⟩=>⟨g,d _ _ a,b⟩) λ⟨c,g,a,b⟩=>⟨c,g,d _ _ a,b⟩⟩
end reg
section free
variable{V:TE}{N:Env V}{R:Type}{r:R}
theorem zam{α β:Type}{p:Prop}[Decidable p]{x:Option α}{k:α->Option β}:(ck p x).bind k=ck p (x.bind k):=by unfold ck;split<;>rfl
theorem z35{α β:Type}{b:Bool}{x y:Option α}{k:α->Option β}:(bif b then x else y).bind k=bif b then x.bind k else y.bind k:=by cases b<;>rfl
theorem y7y{s:SS V.T}{d:BinOp}{t:TypeId}{y:Operand}{a b:SV V.T}(k:SV V.T->Option R):binX V N s [] d t y a b k =(binX V N s [] d t y a b some).bind k:=by
 unfold binX;split
 .cases zug d with
  |true=>simp only[cond_true];unfold shift;split<;>first|rfl |(split<;>rfl)|simp[ckG,zam]
  |false=>
   simp only[cond_false];split
   .unfold y06;split<;>first|rfl |(unfold y06.ckD;split<;>first |(split<;>rfl)|simp[ckG,zam])|simp[ckG,zam]
   .rfl
 .split<;>rfl
 .split<;>rfl
 .split<;>rfl
 .split<;>rfl
 .split<;>rfl
 .split<;>first|rfl|simp[ckG,zam]
 .split
  .rw[z35];cases (!(z1g a&&z1g b)) with
   |true=>rfl
   |false=>
    simp only[cond_false];split
    .rw[z35];cases N.P.eqGuardType N.P.depth t with
     |true=>rfl
     |false=>simp only[cond_false];split<;>rfl
    .rfl
  .rfl
theorem zo9{α β γ:Type}(x:Option α)(f:α->Option β)(g:β->Option γ):(x.bind f).bind g=x.bind λa=>(f a).bind g:=by cases x<;>rfl
theorem y94{s:SS V.T}{o:Op}(h:zxv o=true)(ty:TypeId)(k:SV V.T->Option R):zt V N s [] o ty k =(zt V N s [] o ty some).bind k:=by
 cases o<;>simp[zxv] at h
 case move x=>simp only[zt];split<;>rfl
 case assign x=>simp only[zt];split<;>rfl
 case nilCheck x=>simp only[zt];split<;>rfl
 case fieldAddr t x f=>
  simp only[zt];split<;>first|rfl|skip
  split<;>rfl
 case load t x=>
  simp only[zt];split<;>first|rfl|skip
  split
  .generalize (!_&&Nat.beq _ 1)=u;cases u<;>simp[ckG,zam]
  .split<;>rfl
 case indexAddr t x i=>
  simp only[zt];split
  .cases Nat.beq _ _<;>simp[ckG,zam]
  .split
   .cases Nat.beq _ _<;>simp[ckG,zam]
   .cases Nat.beq _ _<;>simp[ckG,zam]
   .cases Nat.beq _ _<;>simp[ckG,zam]
   .rfl
  .split
   .split
    .cases (Nat.blt _ _&&Nat.beq _ _&&Nat.beq _ _)<;>simp[ckG,zam]
    .rfl
   .rfl
  .cases (Nat.blt _ _&&Nat.beq _ _&&Nat.beq _ _)<;>simp[ckG,zam]
  .cases (Nat.beq _ _&&Nat.beq _ _)<;>simp[ckG,zam]
  .rfl
 case slice t x lo z mx=>rfl
 case build t parts=>
  simp only[zt];split
  .rw[z35];congr 1
   .split<;>rfl
   .rw[z35];congr 1;split<;>rfl
  .rfl
 case binOp j t x y c=>
  simp only[zt];split
  .exact y7y k
  .rfl
 case unOp j t x=>cases j<;>simp only[zt]<;>first|rfl |(split<;>rfl)
 case convert a b x=>
  simp only[zt];split
  .rw[z35];rfl
  .rfl
 case extract x i=>
  simp only[zt];split
  .split<;>rfl
  .rfl
 case call c=>
  obtain⟨callee,args,ts⟩:=c;cases callee with
  |value fo=>
   cases fo with
   |func f=>
    simp only[zt];split
    .rw[z35];congr 1;split
     .rw[z35];congr 1;simp only[ztk,zo9];rfl
     .rfl
    .rfl
   |tmp t=>
    simp only[zt];split
    .split
     .split
      .simp only[ztk,zo9];rfl
      .rfl
     .rfl
    .split
     .rw[z35];congr 1;split
      .rw[z35];congr 1;simp only[ztk,zo9];rfl
      .rfl
     .rfl
    .rfl
   |const v=>simp only[zt];rfl
   |global g=>simp only[zt];rfl
  |builtin b=>
   cases b<;>simp at h;simp only[zt];rcases d:args.toList with _|⟨x,_|⟨y,l⟩⟩
   .rfl
   .simp only;split
    .rw[z35];rfl
    .split
     .rw[z35];rfl
     .rw[z35];rfl
     .rw[z35];rfl
     .rw[z35];rfl
     .rfl
    .rw[z35];rfl
    .rw[z35];rfl
    .rw[z35];rfl
    .rfl
   .rfl
  |_=>simp at h
structure SubS(s s':SS V.T):Prop where
 sl:∀(t:Nat)(x:Ch×SV V.T),lk s.sl t=some x->lk s'.sl t=some x
 kn:s'.kn=s.kn
 ob:∀(i:Nat)(x:SO V.T),s.ob[i]? = some x->x=SO.emp\/s'.ob[i]? = some x
theorem SubS.ev{s s':SS V.T}(h:SubS s s'){o:Operand}{ch:Ch}{x:SV V.T}(d:evO s.sl ch o=some x):evO s'.sl ch o=some x:=by
 cases o with
 |tmp t=>
  simp only[evO] at d⊢;cases j:lk s.sl t with
  |none=>rw[j] at d;cases d
  |some e=>rw[j] at d;rw[h.sl t e j];exact d
 |const v=>exact d
 |func f=>exact d
 |global g=>exact d
theorem SubS.at{s s':SS V.T}(h:SubS s s'){i:Nat}{x:SO V.T}(f:s.ob[i]? = some x)(d:x≠SO.emp):s'.ob[i]? = some x:=(h.ob i x f).resolve_left d
theorem yl9{s s':SS V.T}(h:SubS s s'){g:Bool}{n:Nat}{p v:SV V.T}(d:ld V s g n p=some v):ld V s' g n p=some v:=by
 cases p<;>simp only[ld] at d⊢
 case ptr i off=>
  split at d
  .rename_i f;rw[h.at f (by simp)];exact d
  .cases d
 case pta i off m z u j fo=>
  split at d
  .rename_i f;rw[h.at f (by simp)];exact d
  .cases d
 case rop cs=>exact d
 case elt i k z fo=>
  split at d
  .rename_i f;rw[h.at f (by simp)];exact d
  .rename_i f;rw[h.at f (by simp)];exact d
  .cases d
 all_goals cases d
theorem ydk{s s':SS V.T}(h:SubS s s'){p:SV V.T}{q:Int×Int×Nat}(d:zmn V s p=some q):zmn V s' p=some q:=by
 unfold zmn at d⊢;split at d
 .split at d
  .rename_i f;simp only[h.at f (by simp)];exact d
  .cases d
 .cases d
theorem yi3{s s':SS V.T}(h:SubS s s'){g:Bool}{n:Nat}{p v:SV V.T}(f:ld V s g n p=some v):zmn V s' p=none:=by
 unfold zmn;split
 .rename_i i m z;simp only[ld] at f;split at f
  .rename_i d;rw[h.at d (by simp)]
  .rename_i d;rw[h.at d (by simp)]
  .cases f
 .rfl
theorem y3g{g j :(c:Nat)->List (SV V.T)->Option (V.T c×List (SV V.T))}(u:∀c l y,g c l=some y->j c l=some y):∀(fs:List Nat)(l:List (SV V.T))(y:Tup V.T fs×List (SV V.T)),decT g fs l=some y->decT j fs l=some y
 | [],_,_,h=>h
 |c::cs,l,y,h=>by
  simp only[decT] at h⊢;cases d:g c l with
  |none=>rw[d] at h;cases h
  |some p=>
   rw[d] at h;rw[u _ _ _ d];simp only at h⊢;cases f:decT g cs p.2 with
   |none=>rw[f] at h;cases h
   |some q=>rw[f] at h;rw[y3g u cs _ _ f];exact h
theorem yf0{rd d :(c:Nat)->SV V.T->Option (List (V.T c))}(g:∀c x l,rd c x=some l->d c x=some l){kc vc:Nat}{x:SV V.T}{l:List (V.T kc×V.T vc)}(h:rdMp rd kc vc x=some l):rdMp d kc vc x=some l:=by
 unfold rdMp at h⊢;split at h
 .exact h
 .split at h
  .rename_i q f;rw[g _ _ _ f];exact h
  .cases h
 .cases h
theorem yd2{rd j :(c:Nat)->SV V.T->Option (List (V.T c))}{g u :(c:Nat)->List (SV V.T)->Option (V.T c×List (SV V.T))}(z:∀c x l,rd c x=some l->j c x=some l)(hg:∀c l y,g c l=some y->u c l=some y):
  ∀{α:Type}(d:Ds V.T α)(l:List (SV V.T))(y:α×List (SV V.T)),decD rd g d l=some y->decD j u d l=some y:=by
 intro α d l y h;cases d with
 |sl c=>
  cases l with
  |nil=>simp[decD] at h
  |cons x l=>
   simp only[decD] at h⊢;cases f:rd c x with
   |none=>rw[f] at h;cases h
   |some m=>rw[f] at h;rw[z _ _ _ f];exact h
 |map kc vc=>
  cases l with
  |nil=>simp[decD] at h
  |cons x l=>
   simp only[decD] at h⊢;cases f:rdMp rd kc vc x with
   |none=>rw[f] at h;cases h
   |some m=>rw[f] at h;rw[yf0 z f];exact h
 |st fs mk un a0=>
  simp only[decD] at h⊢;cases f:decT g fs l with
  |none=>rw[f] at h;cases h
  |some p=>rw[f] at h;rw[y3g hg _ _ _ f];exact h
 |int k=>cases l with
  |nil=>simp[decD] at h
  |cons x l=>cases x<;>exact h
 |bool=>cases l with
  |nil=>simp[decD] at h
  |cons x l=>cases x<;>exact h
 |str=>cases l with
  |nil=>simp[decD] at h
  |cons x l=>cases x<;>exact h
 |arr n c=>cases l with
  |nil=>simp[decD] at h
  |cons x l=>cases x<;>exact h
theorem y3f{rd d :(c:Nat)->SV V.T->Option (List (V.T c))}(f:∀c x l,rd c x=some l->d c x=some l):∀(n c:Nat)(l:List (SV V.T))(y:V.T c×List (SV V.T)),decN V rd n c l=some y->decN V d n c l=some y
 |0,_,_,_,h=>by simp[decN] at h
 |n+1,c,l,y,h=>yd2 f (y3f f n) (V.d c) l y h
theorem y3e{rd d :(c:Nat)->SV V.T->Option (List (V.T c))}(g:∀c x l,rd c x=some l->d c x=some l){c:Nat}{l:List (SV V.T)}{y:V.T c}(h:V.decC rd c l=some y):V.decC d c l=some y:=by
 unfold TE.decC at h⊢;cases f:decN V rd (c+1) c l with
 |none=>rw[f] at h;cases h
 |some p=>rw[f] at h;rw[y3f g _ _ _ _ f];exact h
theorem yhm{rd d :(c:Nat)->SV V.T->Option (List (V.T c))}(g:∀c x l,rd c x=some l->d c x=some l){c:Nat}{x:SV V.T}{y:V.T c}(h:V.dec rd c x=some y):V.dec d c x=some y:=by
 unfold TE.dec at h⊢;cases f :(z81 (V.d c)==z1g x) with
 |false=>rw[f] at h;cases h
 |true=>rw[f] at h;exact y3e g h
theorem SubS.rd{s s':SS V.T}(h:SubS s s')(c:Nat)(x:SV V.T)(l:List (V.T c))(d:rdSl s.ob c x=some l):rdSl s'.ob c x=some l:=by
 unfold rdSl at d⊢;split at d
 .exact d
 .split at d
  .rename_i f;simp only[h.at f (by simp)];exact d
  .rename_i f;simp only[h.at f (by simp)];exact d
  .cases d
 .exact d
 .cases d
theorem SubS.rdB{s s':SS V.T}(h:SubS s s')(c:Nat)(x:SV V.T)(l:List (V.T c))(d:rdB s.ob c x=some l):rdB s'.ob c x=some l:=by
 unfold Px.rdB at d⊢;split at d
 .exact d
 .split at d
  .rename_i f;simp only[h.at f (by simp)];exact d
  .cases d
 .exact d
 .cases d
theorem SubS.rdQ{s s':SS V.T}(h:SubS s s'){d:List RC}(c:Nat)(x:SV V.T)(l:List (V.T c))(f:rdQ V s.ob d c x=some l):rdQ V s'.ob d c x=some l:=by
 unfold Px.rdQ at f⊢;cases g:d.all (flR V) with
 |true=>rw[g] at f;exact h.rd c x l f
 |false=>
  rw[g] at f;cases j:d.all (sepR V) with
  |true=>rw[j] at f;exact h.rdB c x l f
  |false=>rw[j] at f;exact f
theorem znu{rd f :(c:Nat)->SV V.T->Option (List (V.T c))}(z:∀c x l,rd c x=some l->f c x=some l){s s':SS V.T}(h:SubS s s'){ch:Ch}: ∀{cs:List Nat}{os:List Operand}{a:Tup V.T cs},decA V rd s.sl ch cs os=some a->decA V f s'.sl ch cs os=some a
 | [],[],_,d=>d
 |c::cs,o::os,a,d=>by
  simp only[decA] at d⊢;cases g:evO s.sl ch o with
  |none=>rw[g] at d;cases d
  |some x=>
   rw[g] at d;rw[h.ev g];simp only at d⊢;cases j:V.dec rd c x with
   |none=>simp only[j] at d;cases d
   |some y=>
    simp only[j] at d;simp only[yhm z j];cases u:decA V rd s.sl ch cs os with
    |none=>rw[u] at d;cases d
    |some b=>rw[u] at d;rw[znu z h u];exact d
 | [],_::_,_,d=>by simp[decA] at d
 |_::_,[],_,d=>by simp[decA] at d
theorem ycr{s s':SS V.T}(h:SubS s s'){c:Nat}{x:SV V.T}{y:V.T c}(d:capX V s.ob c x=some y):capX V s'.ob c x=some y:=by
 unfold capX at d⊢;split at d
 .exact d
 .split at d
  .rename_i f;simp only[h.at f (by simp)];exact y3e h.rd d
  .cases d
 .cases d
theorem ycp{s s':SS V.T}(h:SubS s s'){kc vc:Nat}{x:SV V.T}{y:List (V.T kc×V.T vc)}(d:capM V s.ob kc vc x=some y):capM V s'.ob kc vc x=some y:=by
 unfold capM at d⊢;split at d
 .exact d
 .split at d
  .rename_i f;simp only[h.at f (by simp)];split at d
   .rename_i g;simp only[h.at g (by simp)];exact d
   .cases d
  .rename_i f;simp only[h.at f (by simp)];exact d
  .cases d
 .cases d
theorem y38{s s':SS V.T}(h:SubS s s'){k:KB}{x:SV V.T}{y:k.T V.T}(d:capB V s.ob k x=some y):capB V s'.ob k x=some y:=by
 cases k with
 |val c=>exact ycr h d
 |map kc vc=>exact ycp h d
theorem zoa{s s':SS V.T}(h:SubS s s'):∀{cs:List KB}{l:List (SV V.T)}{b:KBs V.T cs},zhj V s.ob cs l=some b->zhj V s'.ob cs l=some b
 | [],[],_,d=>d
 |c::cs,x::l,b,d=>by
  simp only[zhj] at d⊢;split at d
  .rename_i y r f g;rw[y38 h f,zoa h g];exact d
  .cases d
 | [],_::_,_,d=>by simp[zhj] at d
 |_::_,[],_,d=>by simp[zhj] at d
theorem ycm{s s':SS V.T}(h:SubS s s'){k:KC}{x:SV V.T}{y:k.T V.T}(d:capC V s.ob k x=some y):capC V s'.ob k x=some y:=by
 cases k with
 |b k=>exact y38 h d
 |fn f u=>
  change capF V s.ob f u x=some y at d;change capF V s'.ob f u x=some y;unfold capF at d⊢;split at d
  .rename_i g l;cases j:Nat.beq f g with
   |false=>rw[j] at d;cases d
   |true=>rw[j] at d;exact zoa h d
  .split at d
   .rename_i g l z;simp only[h.at z (by simp)];cases j:Nat.beq f g with
    |false=>rw[j] at d;cases d
    |true=>rw[j] at d;exact zoa h d
   .cases d
  .cases d
theorem zx7{s s':SS V.T}(h:SubS s s'):∀{cs:List KC}{l:List (SV V.T)}{b:KCs V.T cs},zfw V s.ob cs l=some b->zfw V s'.ob cs l=some b
 | [],[],_,d=>d
 |c::cs,x::l,b,d=>by
  simp only[zfw] at d⊢;split at d
  .rename_i y r f g;rw[ycm h f,zx7 h g];exact d
  .cases d
 | [],_::_,_,d=>by simp[zfw] at d
 |_::_,[],_,d=>by simp[zfw] at d
theorem SubS.storable{s s':SS V.T}(h:SubS s s'){x:SV V.T}(d:storable V s.ob x=true):storable V s'.ob x=true:=by
 unfold Px.storable at d⊢;simp only[w0w] at d⊢;refine d.imp id λd=>?_
 cases x<;>simp only[oneS] at d⊢<;>first|exact d|skip
 split at d
 .rename_i f;simp only[h.at f (by simp)]
 .rename_i f;simp only[h.at f (by simp)]
 .cases d
theorem zum{s s':SS V.T}(h:SubS s s'){P:Program}{t:TypeId}{ch:Ch}: ∀{ps:List (Nat×Operand)}{cs v:List (SV V.T)},layX V P t s.ob s.sl ch cs ps=some v->layX V P t s'.ob s'.sl ch cs ps=some v
 | [],_,_,d=>d
 |(i,o)::ps,cs,v,d=>by
  simp only[layX] at d⊢;split at d
  .rename_i off n x g j;simp only[h.ev j];cases f :(Nat.beq n (clen V (cellsOf x))&&storable V s.ob x) with
   |false=>rw[f] at d;cases d
   |true=>
    rw[f] at d;simp only[w02] at f;simp only[cond_true] at d;simp only[g,f.1,h.storable f.2,w4a,cond_true];split at d
    .exact zum h d
    .cases d
  .cases d
theorem yh2{s s':SS V.T}(d:SubS s s'){f:BinOp}{t:TypeId}{y:Operand}{a b:SV V.T}{k:SV V.T->Option R}(h:binX V N s [] f t y a b k=some r):binX V N s' [] f t y a b k=some r:=by
 unfold binX at h⊢;split at h
 .cases g:zug f with
  |true=>rw[g] at h;simp only[cond_true] at h⊢;unfold shift at h⊢;exact h
  |false=>
   rw[g] at h;simp only[cond_false] at h⊢;split at h
   .rename_i e;rw[if_pos e];unfold y06 at h⊢;exact h
   .cases h
 .exact h
 .exact h
 .split at h
  .rename_i u j;simp only[u,d.at j (by simp)];exact h
  .cases h
 .exact h
 .exact h
 .exact h
 .exact h
theorem zuc{s s':SS V.T}(h:SubS s s'){o:Op}(hf:zxv o=true){ty:TypeId}{k:SV V.T->Option R}(d:zt V N s [] o ty k=some r):zt V N s' [] o ty k=some r:=by
 have hk:=h.kn;cases o<;>simp[zxv] at hf
 case move x=>
  simp only[zt] at d⊢;rw[hk];split at d
  .rename_i v hv;rw[h.ev hv];exact d
  .cases d
 case assign x=>
  simp only[zt] at d⊢;rw[hk];split at d
  .rename_i v hv;rw[h.ev hv];exact d
  .cases d
 case nilCheck x=>
  simp only[zt] at d⊢;rw[hk];split at d
  .rename_i i o hv;rw[h.ev hv];exact d
  .cases d
 case fieldAddr t x f=>
  simp only[zt] at d⊢;rw[hk];split at d
  .rename_i a1 hv;simp only[a1,h.ev hv];exact d
  .rename_i a1 hv;simp only[a1,h.ev hv];exact d
  .rename_i a1 hv;simp only[a1,h.ev hv];exact d
  .rename_i a1 hv;simp only[a1,h.ev hv];exact d
  .cases d
 case load t x=>
  simp only[zt] at d⊢;rw[hk];split at d
  .rename_i g n p ht hv;simp only[ht,h.ev hv];split at d
   .rename_i hh;simp only[ydk h hh];exact d
   .split at d
    .rename_i v hl;simp only[yi3 h hl,yl9 h hl];exact d
    .cases d
  .cases d
 case slice t x lo hi mx=>cases d
 case indexAddr t x i=>
  simp only[zt] at d⊢;rw[hk];split at d
  .rename_i ht hx hi;have z:=z0n hi;simp only[ht,h.ev hx,h.ev z,w00,intOf];exact d
  .rename_i ht hx hi;have z:=z0n hi;simp only[ht,h.ev hx,h.ev z,w00,intOf];split at d
   .rename_i ho;simp only[h.at ho (by simp)];exact d
   .rename_i ho;simp only[h.at ho (by simp)];exact d
   .rename_i ho;simp only[h.at ho (by simp)];exact d
   .cases d
  .rename_i ht hx hi;have z:=z0n hi;simp only[ht,h.ev hx,h.ev z,w00,intOf];split at d
   .rename_i ho;simp only[h.at ho (by simp)];exact d
   .cases d
  .rename_i ht hx hi;have z:=z0n hi;simp only[ht,h.ev hx,h.ev z,w00,intOf];exact d
  .rename_i ht hx hi;have z:=z0n hi;simp only[ht,h.ev hx,h.ev z,w00,intOf];exact d
  .cases d
 case build t parts=>
  simp only[zt] at d⊢;rw[hk];split at d
  .rename_i zs hz;cases u :(zfk V (V.zero (V.code t)) zs&&zmy N.P t) with
   |true=>
    rw[u] at d;simp only[cond_true] at d⊢;split at d
    .rename_i v hv;simp only[zum h hv];exact d
    .cases d
   |false=>
    rw[u] at d;simp only[cond_false] at d⊢;cases a3 :(zs.all (·.oneCell')&&zmy N.P t) with
    |false=>rw[a3] at d;cases d
    |true=>
     rw[a3] at d;simp only[cond_true] at d⊢;split at d
     .rename_i v hv;simp only[zum h hv];exact d
     .cases d
  .cases d
 case binOp op t x y c=>
  simp only[zt] at d⊢;rw[hk];split at d
  .rename_i hx hy;simp only[h.ev hx,h.ev hy];exact yh2 h d
  .cases d
 case unOp op t x=>
  cases op with
  |neg=>
   simp only[zt] at d⊢;rw[hk];split at d
   .rename_i i m u;have a2:=z0n u;simp only[h.ev a2,w00,intOf];exact d
   .cases d
  |xor=>simp[zt] at d
  |not=>
   simp only[zt] at d⊢;rw[hk];split at d
   .rename_i b u;have a2:=zbj u;simp only[h.ev a2,w00,zir];exact d
   .cases d
  |plus=>simp[zt] at d
 case convert a b x=>
  simp only[zt] at d⊢;rw[hk];split at d
  .rename_i i j m hu u;have a2:=z0n u;simp only[hu,h.ev a2,w00,intOf];exact d
  .cases d
 case extract x i=>
  simp only[zt] at d⊢;rw[hk];split at d
  .rename_i l hx;simp only[h.ev hx];exact d
  .cases d
 case call c=>
  obtain⟨callee,args,ts⟩:=c;cases callee with
  |value fo=>
   cases fo with
   |func f=>
    simp only[zt] at d⊢;rw[hk];split at d
    .rename_i sp a4;cases h1:sp.res.any zet with
     |true=>rw[h1] at d;cases d
     |false=>
      rw[h1] at d;simp only[cond_false] at d⊢;split at d
      .rename_i a ha;have:decA V (Px.rdQ V s'.ob sp.res) s'.sl ([]++s.kn) sp.args args.toList=some a:=znu h.rdQ h ha;simp only[this];exact d
      .cases d
    .cases d
   |tmp t=>
    simp only[zt] at d⊢;rw[hk];split at d
    .rename_i c f hf;simp only[h.ev hf];split at d
     .rename_i x y _;split at d
      .rename_i a b ha u;cases hx:evO s.sl ([]++s.kn) x with
       |none=>rw[hx] at ha;cases ha
       |some vx=>
        cases hy:evO s.sl ([]++s.kn) y with
        |none=>rw[hy] at u;cases u
        |some vy=>rw[hx] at ha;rw[hy] at u;simp only[h.ev hx,h.ev hy,ha,u];exact d
      .cases d
     .cases d
    .rename_i f caps hf;simp only[h.ev hf];split at d
     .rename_i sp a4;cases h1:sp.res.any zet with
      |true=>rw[h1] at d;cases d
      |false=>
       rw[h1] at d;simp only[cond_false] at d⊢;split at d
       .rename_i a b ha u;cases h2:sp.res.all (flR V) with
        |true=>rw[h2] at ha u;simp only[cond_true] at ha u;simp only[cond_true,znu h.rd h ha,zx7 h u];exact d
        |false=>rw[h2] at ha u;simp only[cond_false] at ha u;simp only[cond_false,znu (λ_ _ _ h=>h) h ha,u];exact d
       .cases d
     .cases d
    .cases d
   |const v=>simp[zt] at d
   |global g=>simp[zt] at d
  |builtin b=>
   cases b<;>simp at hf;simp only[zt] at d⊢;rw[hk];rcases a0:args.toList with _|⟨x,_|⟨y,l⟩⟩
   .simp only[a0] at d;cases d
   .simp only[a0] at d⊢;split at d
    .rename_i hx;simp only[h.ev hx];exact d
    .rename_i hx;simp only[h.ev hx];split at d
     .rename_i ho;simp only[h.at ho (by simp)];exact d
     .rename_i ho;simp only[h.at ho (by simp)];exact d
     .rename_i ho;simp only[h.at ho (by simp)];exact d
     .rename_i ho;simp only[h.at ho (by simp)];exact d
     .cases d
    .rename_i hx;simp only[h.ev hx];exact d
    .rename_i hx;simp only[h.ev hx];exact d
    .rename_i hx;simp only[h.ev hx];exact d
    .cases d
   .simp only[a0] at d;cases d
  |_=>simp at hf
end free
end Px
end
section
namespace Px
open Go Go.RowKit
section
variable{V:TE}{N:Env V}{R:Type}{r:R}
theorem zb2{f:Nat->Bool}{bs:Sls V.T}{es:List (DE V.T)}{t:Nat}{x:Ch×SV V.T}(h:lk (drSl V f bs es) t=some x):(∃e∈es,f e.1=true/\e.2 =(t,x))\/lk bs t=some x:=by
 unfold drSl at h;rw[zsv] at h;cases d:lk ((es.filter λe=>f e.1).map (·.2)) t with
 |none=>rw[d] at h;exact .inr h
 |some y=>rw[d] at h;simp only[w01] at h;subst h;obtain⟨e,z,g⟩:=w0b.1 (zg7 d);obtain⟨j,u⟩:=w0i.1 z;exact .inl ⟨e,j,u,g⟩
theorem za2{α:Type}: ∀{l:List (Nat×α)}{t:Nat}{x:α},(t,x)∈l->∃y,lk l t=some y
 |(k,y)::l,t,x,h=>by
  rw[z0k];by_cases e:t=k
  .exact⟨y,by rw[if_pos e]⟩
  .rw[if_neg e];rcases w05.1 h with h|h
   .cases h;exact absurd rfl e
   .exact za2 h
theorem ztv{tab:Tab}{gb:List (Nat×Bool)}{bs:Sls V.T}{g es:List (DE V.T)}(h:EsOK tab gb bs (g++es))(f:Nat->Bool){t:Nat}{x:Ch×SV V.T}(hx:lk (drSl V f bs es) t=some x):lk (drSl V f bs (g++es)) t=some x:=by
 have hs:∃y,lk (drSl V f bs (g++es)) t=some y:=by
  rcases zb2 hx with⟨e,z,hf,u⟩|hb
  .refine za2 (x:=x) ?_;unfold drSl;refine w1f _ (w0b.2 ⟨e,w0i.2 ⟨w1u _ z,hf⟩,u⟩)
  .unfold drSl;rw[zsv];cases lk (((g++es).filter λe=>f e.1).map (·.2)) t with
   |some y=>exact⟨y,rfl⟩
   |none=>exact⟨x,hb⟩
 obtain⟨y,hy⟩:=hs;rw[hy];rcases zb2 hx with⟨e,z,hf,u⟩|hb
 .rcases zb2 hy with⟨e',j,a0,d⟩|hb'
  .have:=h.inj e (w1u _ z) e' j (by rw[u,d])
   subst this;rw[u] at d;cases d;rfl
  .rcases h.bs e (w1u _ z) with this|⟨this,_⟩
   .rw[u] at this;change lk bs t=none at this;rw[this] at hb';cases hb'
   .rw[u] at this;change lk bs t=some x at this;rw[<- hb',this]
 .rcases zb2 hy with⟨e',j,a0,d⟩|hb'
  .rcases h.bs e' j with this|⟨this,_⟩
   .rw[d] at this;change lk bs t=none at this;rw[this] at hb;cases hb
   .rw[d] at this;change lk bs t=some y at this;rw[<- this,hb]
  .rw[<- hb,hb']
def Cls(ops:List Oper)(clo:List Nat)(n0:Nat)(later:List Nat)(q:Nat)(obm:List (SO V.T)):Prop:=∀l∈later,bitB (clo.getD l 0) q=false->∀(i:Nat)(x:SO V.T),obm[i]? = some x->x=SO.emp\/zy0 ops n0 l i (zfg x)=true
def zfl(N:Env V)(ops:Array Oper)(clo:List Nat)(n0:Nat)(later:List Nat)(bs:Sls V.T)(es:List (DE V.T))(s:SS V.T)(e:DE V.T):Prop:=
 ∃(o:Oper)(obm:List (SO V.T)),ops[e.1]? = some o/\o.guard=none/\zxv o.op=true/\e.2.2.1 = []/\(∀(i:Nat)(x:SO V.T),obm[i]? = some x->x=SO.emp\/s.ob[i]? = some x)/\Cls ops.toList clo n0 later e.1 obm/\
  zt V N { s with sl:=drSl V (memB (z0l o)) bs es,ob:=obm } [] o.op o.type some=some e.2.2.2
theorem y95[Dr](hN:z6x V N){C:Cx N.P}{A:Asg}{ops:Array Oper}{j:List Nat}{n0:Nat}{d:List Nat}{bs:Sls V.T}{es:List (DE V.T)}{s:SS V.T}{e:DE V.T}(h:zfl N ops j n0 d bs es s e)(f:EsOK (z02 ops) s.gb bs es)
  (z:GbOK (⟨bs,s.gb,s.kn,s.n⟩:Fm V.T)) (a0:chP s.gb s.kn) (h1:OneA V A s.ob) :
  ∃o,ops[e.1]? = some o/\GQ C (z02 ops) o ⟨z1k (z02 ops) (memB (Tab.deps (z02 ops) e.1)) (slD V N.P A s.gb bs) (qrOf N.P A s.gb es),obD V N.P A A s.ob⟩ (denE V N.P A s.gb e.2.2):=by
 obtain⟨o,a2,ho,hg,hf,u,a1,a3,hq⟩:=h;refine⟨o,ho,?_⟩;have h2:=zuc (s:={ s with sl:=drSl V (memB (z0l o)) bs es,ob:=a2 }) (s':={ s with sl:=drSl V (memB (z0l o)) bs es }) ⟨λ_ _ h=>h,rfl,a1⟩ hf hq;obtain⟨v,hv,hQ⟩:=zex (C:=C) (A:=A) (s:={ s with sl:=drSl V (memB (z0l o)) bs es }) hN a0 (f.gb z _) h1 h2;cases hv;rw[zhf ho,z5w _ f.dst];obtain⟨dst,op,ty,pos,g,guard⟩:=o;simp only at hg;subst hg;have:=hQ trivial dst pos g none;unfold GQ denE;rw[u];exact this
theorem zfl.more{ops:Array Oper}{j:List Nat}{n0:Nat}{d:List Nat}{bs:Sls V.T}{f es:List (DE V.T)}{s s':SS V.T}{e:DE V.T}(h:zfl N ops j n0 d bs es s e){gb:List (Nat×Bool)}(u:EsOK (z02 ops) gb bs (f++es))(hk:s'.kn=s.kn)(ho:s'.ob=s.ob):
  zfl N ops j n0 d bs (f++es) s' e:=by
 obtain⟨o,g,h1,h2,z,h4,h5,h6,h7⟩:=h;refine⟨o,g,h1,h2,z,h4,by rw[ho];exact h5,h6,zuc (s:={ s with sl:=drSl V (memB (z0l o)) bs es,ob:=g }) (s':={ s' with sl:=drSl V (memB (z0l o)) bs (f++es),ob:=g }) ⟨λt x hx=>ztv u _ hx,hk,λi x hx=>.inr hx⟩ z h7⟩
theorem zw6{ops:List Oper}{n0:Nat}{g:List Nat}: ∀(ob:List (SO V.T))(d i:Nat)(x:SO V.T),(y71 V ops n0 g d ob)[i]? = some x->x=SO.emp\/(ob[i]? = some x/\∀l∈g,zy0 ops n0 l (d+i) (zfg x)=true)
 | [],d,i,x,h=>by simp[y71] at h
 |y::ob,d,0,x,h=>by
  simp only[y71,w2f,w01] at h;cases f :(g.all λl=>zy0 ops n0 l d (zfg y)) with
  |true=>rw[f] at h;simp only[cond_true] at h;subst h;exact .inr ⟨rfl,λl j=>w0a.1 f l j⟩
  |false=>rw[f] at h;exact .inl h.symm
 |y::ob,d,i+1,x,h=>by
  simp only[y71,w29] at h⊢;have:=zw6 ob (d+1) i x h
  rwa [Nat.add_right_comm,w2v] at this
theorem yjv{f:List Nat}{ops:Array Oper}{n0 q:Nat}{o:Oper}{d:List Nat}{ob g:List (SO V.T)}(h:seen V f ops.toList n0 q o d ob=some g):
  (g=ob/\∀l∈d,bitB (f.getD l 0) q=true)\/(o.guard=none/\zxv o.op=true/\(∀(i:Nat)(x:SO V.T),g[i]? = some x->x=SO.emp\/ob[i]? = some x)/\Cls ops.toList f n0 d q g):=by
 unfold seen at h;split at h
 .rename_i z;simp only[w01] at h;refine .inl ⟨h.symm,λl a0=>?_⟩;cases j:bitB (f.getD l 0) q with
  |true=>rfl
  |false=>
   have:l∈d.filter λl=>!bitB (f.getD l 0) q:=w0i.2 ⟨a0,by rw[j];rfl⟩
   rw[z] at this;cases this
 .cases j :(zxv o.op&&o.guard.isNone) with
  |false=>rw[j] at h;cases h
  |true=>
   rw[j] at h;simp only[w02,w34] at j;simp only[cond_true,w01] at h;subst h;refine .inr ⟨j.2,j.1,λi x hx=>(zw6 ob 0 i x hx).imp id (·.1),λl z u i x hx=>?_⟩;refine(zw6 ob 0 i x hx).imp id λq=>?_
   have:=q.2 l (w0i.2 ⟨z,by rw[u];rfl⟩)
   rwa [w1j] at this
theorem yfc{T:Nat->Type}{x y:SV T}(h:yfb x y=true):x=y:=by
 cases x<;>cases y<;>first
  |(simp only[yfb,w02] at h;obtain⟨d,f⟩:=h;rw[w03 d,w03 f])
  |(simp only[yfb] at h;rw[w03 h])
  |cases h
theorem y5d{T:Nat->Type}: ∀{l m:List (SV T)},yfd l m=true->l=m
 | [],[],_=>rfl
 | [],_::_,h=>by cases h
 |_::_,[],h=>by cases h
 |x::l,y::m,h=>by simp only[yfd,w02] at h;rw[yfc h.1,y5d h.2]
theorem ygf{T:Nat->Type}{x:Option (Ch×SV T)}{v:SV T}(h:okB x v=true):x=none\/(x=some ([],v)/\ydq v=true):=by
 cases x with
 |none=>exact .inl rfl
 |some e=>
  obtain⟨ch,w⟩:=e;cases ch with
  |cons p l=>cases h
  |nil=>
   change yjp v w=true at h;cases v with
   |func f l=>
    cases w with
    |func g m=>simp only[yjp,w02] at h;have:=w03 h.1;subst this;rw[y5d h.2];exact .inr ⟨rfl,rfl⟩
    |_=>cases h
   |_=>cases h
theorem yb6[Dr](hN:z6x V N){C:Cx N.P}{A:Asg}{ops:Array Oper}{a2:List Nat}{n0:Nat}{j:List Nat}{bs:Sls V.T}{k:SS V.T->List (DE V.T)->Option R}: ∀(is:List Nat)(s:SS V.T)(es:List (DE V.T)),segX V N ops a2 n0 j bs is s es k=some r->
  EsOK (z02 ops) s.gb bs es->GbOK (⟨bs,s.gb,s.kn,s.n⟩:Fm V.T)->chP s.gb s.kn->OneA V A s.ob->
  ∃(f:List (Nat×Bool))(z:List (DE V.T)),GbX s.gb f/\k { s with gb:=f } (z++es)=some r/\EsOK (z02 ops) f bs (z++es)/\GbOK (⟨bs,f,s.kn,s.n⟩:Fm V.T)/\
   ∀e∈z,(∃o,ops[e.1]? = some o/\GQ C (z02 ops) o ⟨z1k (z02 ops) (memB (Tab.deps (z02 ops) e.1)) (slD V N.P A f bs) (qrOf N.P A f (z++es)),obD V N.P A A s.ob⟩ (denE V N.P A f e.2.2))/\
    ((∃l∈j,bitB (a2.getD l 0) e.1=false)->zfl N ops a2 n0 j bs (z++es) { s with gb:=f } e)
 | [],s,es,h,a4,a1,ac,h1=>⟨s.gb,[],GbX.refl _,h,a4,a1,λe he=>absurd he w0y⟩
 |i::is,s,es,h,a4,a1,ac,h1=>by
  simp only[segX] at h;cases ho:ops[i]? with
  |none=>rw[ho] at h;cases h
  |some o=>
  rw[ho] at h;simp only at h;split at h
  .rename_i d b8 hd ar;split at h
   .rename_i ap;cases a9 :(es.any λe=>Nat.beq e.2.1 d) with
    |true=>rw[a9] at h;cases h
    |false=>
     rw[a9] at h;simp only[cond_false] at h;have b3:Tab.dst (z02 ops) i=some d:=by rw[zii ho,hd]
     have av:=a4.gb a1 (memB (z0l o));have aa:=yjv ar
     have fin:∀(g1:List (Nat×Bool))(ch:Ch)(v:SV V.T),GbX s.gb g1->EsOK (z02 ops) g1 bs es->GbOK (⟨bs,g1,s.kn,s.n⟩:Fm V.T)->lk g1 d=none->(lk bs d=none\/(lk bs d=some (ch,v)/\ydq v=true))->(∀p∈ch,(lk g1 p.1).isSome=true)->
       segX V N ops a2 n0 j bs is { s with gb:=g1 } ((i,d,ch,v)::es) k=some r->
       (∀f st,GbX g1 f->st =(⟨slD V N.P A g1 (drSl V (memB (z0l o)) bs es),obD V N.P A A s.ob⟩:St)->GQ C (z02 ops) o st (denE V N.P A f (ch,v)))->
       ((∃l∈j,bitB (a2.getD l 0) i=false)->zfl N ops a2 n0 j bs es s (i,d,ch,v))->
       ∃(f:List (Nat×Bool))(z:List (DE V.T)),GbX s.gb f/\k { s with gb:=f } (z++es)=some r/\EsOK (z02 ops) f bs (z++es)/\GbOK (⟨bs,f,s.kn,s.n⟩:Fm V.T)/\
        ∀e∈z,(∃o,ops[e.1]? = some o/\GQ C (z02 ops) o ⟨z1k (z02 ops) (memB (Tab.deps (z02 ops) e.1)) (slD V N.P A f bs) (qrOf N.P A f (z++es)),obD V N.P A A s.ob⟩ (denE V N.P A f e.2.2))/\
         ((∃l∈j,bitB (a2.getD l 0) e.1=false)->zfl N ops a2 n0 j bs (z++es) { s with gb:=f } e):=by
      intro g1 ch v hX a6 a7 b5 ag ah hr hq b4;obtain⟨f,z,x1,x2,x3,x4,x5⟩:=yb6 hN (C:=C) (A:=A) is { s with gb:=g1 } _ hr (a6.put (v:=v) b3 b5 ag a9 ah) a7 ((hX.chP a1.kn) ▸ ac) h1;have eapp :(z++[(i,d,ch,v)])++es=z++(i,d,ch,v)::es:=by simp
      refine⟨f,z++[(i,d,ch,v)],hX.trans x1,by rw[eapp];exact x2,by rw[eapp];exact x3,x4,λe he=>?_⟩;rw[eapp];rcases w0j.1 he with he|he
      .exact x5 e he
      .simp only[w0d] at he;subst he;have af:=a6.gb a7 (memB (z0l o));have au:=x3;rw[<- eapp] at au;refine⟨⟨o,ho,?_⟩,λhl=>?_⟩
       .have h6:=hq f _ x1 rfl;rw[zzc x1 af] at h6;rw[zhf ho,z5w _ x3.dst];refine GQ.slots (s:=⟨slD V N.P A f (drSl V (memB (z0l o)) bs es),obD V N.P A A s.ob⟩) rfl (λt X a3=>?_) h6;simp only[slD] at a3⊢;cases hl:lk (drSl V (memB (z0l o)) bs es) t with
        |none=>rw[hl] at a3;cases a3
        |some y=>rw[hl] at a3;have:=ztv au (memB (z0l o)) hl;rw[eapp] at this;rw[this];exact a3
       .have:=(b4 hl).more (s':={ s with gb:=f }) au rfl rfl
        rw[eapp] at this;exact this
     split at h
     .rename_i hg;rcases aa with⟨rfl,aq⟩|⟨_,hf,b2,aw⟩
      .obtain⟨v,hv,hq⟩:=zex (C:=C) (A:=A) (s:={ s with sl:=drSl V (memB (z0l o)) bs es }) hN ac av h1 h;cases a8:okB (lk bs d) v with
       |false=>rw[a8] at hv;cases hv
       |true=>
       rw[a8] at hv;simp only[cond_true] at hv;refine fin s.gb [] v (GbX.refl _) a4 a1 ap (ygf a8) (λp hp=>by cases hp) hv (λf st _ ad=>?_) (λ⟨l,hl,hb⟩=>by rw[aq l hl] at hb;cases hb);subst ad;obtain⟨dst,op,ty,pos,ae,guard⟩:=o;simp only at hg;subst hg;exact hq trivial dst pos ae none
      .rw[y94 hf] at h;obtain⟨v,b7,hv⟩:=bind_some h;cases a8:okB (lk bs d) v with
       |false=>rw[a8] at hv;cases hv
       |true=>
       rw[a8] at hv;simp only[cond_true] at hv;have hF:zfl N ops a2 n0 j bs es s (i,d,[],v):=⟨o,b8,ho,hg,hf,rfl,b2,aw,b7⟩;obtain⟨o',ab,hq⟩:=y95 hN (C:=C) (A:=A) hF a4 a1 ac h1;rw[ho] at ab;cases ab;refine fin s.gb [] v (GbX.refl _) a4 a1 ap (ygf a8) (λp hp=>by cases hp) hv (λf st _ ad=>?_) (λ_=>hF);subst ad;rw[zhf ho,z5w _ a4.dst] at hq;exact hq
     .rename_i g hg;cases am :(lk bs d).isSome with
      |true=>rw[am] at h;cases h
      |false=>
      rw[am] at h;simp only[cond_false] at h;have ag:lk bs d=none:=by simpa using am
      rcases aa with⟨rfl,aq⟩|⟨ay,_⟩
      rotate_left
      .rw[hg] at ay;cases ay
      split at h
      .rename_i ch s' a0;unfold zg3 at a0;split at a0
       .rename_i t ht;have b6:Tab.dst (z02 ops) g.1=some t:=by
         cases ab:ops[g.1]? with
         |none=>simp[ab] at ht
         |some o'=>rw[zii ab];simpa[ab] using ht
        split at a0
        .cases a0
        .rename_i a5 b hl;have ao:∃g1,s' = { s with gb:=g1,sl:=drSl V (memB (z0l o)) bs es }/\ch =(t,g.2)::a5/\GbX s.gb g1/\EsOK (z02 ops) g1 bs es/\GbOK (⟨bs,g1,s.kn,s.n⟩:Fm V.T)/\lk g1 t=some b/\(∀u,u≠t->lk g1 u=lk s.gb u):=by
          split at a0
          .rename_i g' ai;simp only[w01,w0k] at a0;obtain⟨rfl,rfl⟩:=a0;have e:=av.val t g' ai a5 _ hl;simp only[SV.bool.injEq] at e;subst e;exact⟨s.gb,rfl,rfl,GbX.refl _,a4,a1,ai,λ_ _=>rfl⟩
          .rename_i ai;simp only[w01,w0k] at a0;obtain⟨rfl,rfl⟩:=a0;obtain⟨m1,m2,m3⟩:=a4.more a1 hl ai;exact⟨_,rfl,rfl,m3,m1,m2,by simp[z0k],λu hu=>by rw[z0k,if_neg hu]⟩
         obtain⟨g1,rfl,rfl,hX,a6,a7,az,b0⟩:=ao;have af:=a6.gb a7 (memB (z0l o));obtain⟨v,hv,hq⟩:=zex (C:=C) (A:=A) (s:={ s with gb:=g1,sl:=drSl V (memB (z0l o)) bs es }) hN ((hX.chP a1.kn) ▸ ac) af h1 h;have aj:∀p∈a5,(lk g1 p.1).isSome=true:=af.ch t a5 _ hl;have ah:∀p∈(t,g.2)::a5,(lk g1 p.1).isSome=true:=λp hp=>by
          rcases w05.1 hp with rfl|hp
          .simp[az]
          .exact aj p hp
         have ax:lk g1 d=none:=by
          cases e1:lk g1 d with
          |none=>rfl
          |some b'=>
           exfalso;by_cases e2:d=t
           .subst e2;rcases zl0 hl with⟨e,he,h2⟩|hl'
            .have :(es.any λe=>Nat.beq e.2.1 d)=true:=w1q.2 ⟨e,he,by rw[h2];exact w2p d⟩;rw[a9] at this;cases this
            .rw[ag] at hl';cases hl'
           .rw[b0 d e2,ap] at e1;cases e1
         refine fin g1 _ v hX a6 a7 ax (.inl ag) ah hv (λf st a3 ad=>?_) (λ⟨l,hl,hb⟩=>by rw[aq l hl] at hb;cases hb);subst ad;obtain⟨dst,op,ty,pos,ae,guard⟩:=o;simp only at hg;subst hg;refine⟨chP f ((t,g.2)::a5),v.den V N.P A,t,b6,rfl,λhp=>hq ((a3.chP ah) ▸ hp) dst pos ae _,?_⟩;have b1:slD V N.P A g1 (drSl V (memB (z0l ⟨dst,op,ty,pos,ae,some g⟩)) bs es) t=some (denE V N.P A g1 (a5,.bool b)):=by simp only[slD,hl,w0z]
         have ak:=a3 t b az;cases a5 with
         |nil=>refine .inl ⟨b,b1,?_⟩;simp[chP,ak]
         |cons c0 cl=>refine .inr ⟨chP g1 (c0::cl),b,b1,?_⟩;rw[a3.chP aj];simp[chP,ak]
        .cases a0
       .cases a0
      .cases h
   .cases h
  .cases h
end
end Px
end
section
namespace Px
open Go Go.RowKit
section
variable{V:TE}{N:Env V}{R:Type}{r:R}
def Chg(o:Op)(fs es:Bool)(n0:Nat)(ob ob':List (SO V.T)):Prop:=∀(i:Nat)(x:SO V.T),ob[i]? = some x->(zrl o||zcj o||(appO o&&zfg x)||(fs&&Nat.blt i n0)||(es&&zfg x))=true->ob'[i]? = some x
theorem zi6(o:Op)(fs es:Bool)(n0:Nat)(ob us:List (SO V.T)):Chg o fs es n0 ob (ob++us):=λi x hx _=>by rw[w0r (w04.1 hx).1];exact hx
open Classical in
theorem y9s{s:SS V.T}{o:Op}{fs es:Bool}{n0:Nat}{ty:TypeId}{k:SV V.T->SS V.T->Option R}(aa:fs=true->∃t p v i off,o = .store t p v/\evO s.sl s.kn p=some (.ptr i off)/\n0<=i)(a3:es=true->∃t p v i j z fo,o = .store t p v/\evO s.sl s.kn p=some (.elt i j z fo))(h:z5m V N s o ty k=some r):z5m V N s o ty (λv s'=>if Chg o fs es n0 s.ob s'.ob then k v s' else none)=some r:=by
 by_cases a2:zrl o=true
 .have hs:Chg (V:=V) o fs es n0 s.ob s.ob:=λi x h _=>h
  cases o<;>simp[zrl] at a2
  case load t x=>simp only[z5m] at h⊢;simp only[if_pos hs];exact h
  case call c=>
   have hb:c.callee = .builtin .len:=by
    split at a2
    .assumption
    .cases a2
   simp only[z5m,hb] at h⊢;simp only[if_pos hs];exact h
 by_cases ha:appO o=true
 .have ah:fs=false:=by
   cases hf:fs with
   |false=>rfl
   |true=>obtain⟨t,p,v,i,off,rfl,_⟩:=aa hf;simp[appO,zcj] at ha
  have ag:es=false:=by
   cases hf:es with
   |false=>rfl
   |true=>obtain⟨t,p,v,i,j,z,fo,rfl,_⟩:=a3 hf;simp[appO,zcj] at ha
  subst ah;subst ag;cases o<;>simp[appO,zcj] at ha
  case box t x=>simp only[z5m] at h⊢;split at h<;>first |(simp only[if_pos (zi6 _ _ _ _ _ _)];exact h)|cases h
  case alloc t=>
   simp only[z5m] at h⊢;split at h
   .simp only[if_pos (zi6 _ _ _ _ _ _)];exact h
   .cases h
  case buildSlice t n parts=>
   simp only[z5m] at h⊢;split at h
   .split at h<;>first |(simp only[if_pos (zi6 _ _ _ _ _ _)];exact h)|cases h
   .cases h
  case makeSlice t x y=>
   simp only[z5m] at h⊢;split at h
   .split at h
    .simp only[if_pos (zi6 _ _ _ _ _ _)];exact h
    .cases h
   .cases h
  case makeMap t hint=>
   cases hint with
   |some o=>simp[z5m,zt] at h
   |none=>simp only[z5m] at h⊢;split at h<;>first |(simp only[if_pos (zi6 _ _ _ _ _ _)];exact h)|cases h
  case mapUpdate t x i y=>
   have hc:∀(j:Nat)(z:SO V.T)(u:XO V.T),s.ob[j]? = some (.x u)->Chg (V:=V) (.mapUpdate t x i y) false false n0 s.ob (updO V s j z).ob:=by
    intro j z u g q w hq d;have hx:zfg w=true:=by simpa[zcj,appO,zrl] using d
    have:j≠q:=λe=>by subst e;rw[g] at hq;cases hq;cases hx
    show (s.ob.set j z)[q]? = some w;rw[w2b this];exact hq
   simp only[z5m] at h⊢;split at h
   .split at h
    .rename_i g;split at h
     .cases hb:zbz (V.d _) with
      |true=>
       rw[hb] at h;simp only[cond_true] at h⊢;split at h
       .simp only[if_pos (hc _ _ _ g)];exact h
       .cases h
      |false=>
       rw[hb] at h;simp only[cond_false] at h⊢;split at h
       .split at h
        .simp only[if_pos (hc _ _ _ g)];exact h
        .simp only[if_pos (hc _ _ _ g)];exact h
       .cases h
     .cases h
    .cases h
   .cases h
  case call c=>
   by_cases a8:∃f,c.callee = .value (.func f)
   .obtain⟨f,hb⟩:=a8;have ai:zrl (.call c)=false:=by simp[zrl,hb]
    have ae:∀(i:Nat)(E c0:Nat)(l:List (V.T c0))(y:SO V.T),s.ob[i]? = some (.row E c0 l)->Chg (.call c) false false n0 s.ob (updO V s i y).ob:=by
     intro i E c0 l y g j x hj d;have hx:zfg x=true:=by simp only[ai,zcj,w2c,Bool.false_and,w4b,w02] at d;exact d.2
     have a4:i≠j:=λe=>by subst e;rw[g] at hj;cases hj;cases hx
     show (s.ob.set i y)[j]? = some x;rw[w2b a4];exact hj
    simp only[z5m,hb] at h⊢;split at h
    .rename_i sp aj;split at h
     .rename_i a' ac;cases hq:zt.fnok N.P f with
      |false=>rw[hq] at h;cases h
      |true=>rw[hq] at h;simp only[cond_true,if_pos (zi6 _ _ _ _ _ _)] at h⊢;exact h
     .cases h
    .split at h
     .split at h
      .rename_i i hi;split at h
       .rename_i E c0 l a' g ac;simp only[if_pos (ae i E c0 l _ g)] at h⊢;exact h
       .cases h
      .cases h
     .unfold soX at h⊢;split at h
      .simp only[if_pos (zi6 _ _ _ _ _ _)];exact h
      .cases h
     .cases h
   have hb:c.callee = .builtin .append:=by
    split at ha
    .assumption
    .rename_i f hb;exact absurd ⟨f,hb⟩ a8
    .cases ha
   have hc:∀(i:Nat)(us:List (SO V.T))(E c0:Nat)(l:List (V.T c0)),s.ob[i]? = some (.row E c0 l)->Chg (.call c) false false n0 s.ob (s.ob.set i .emp++us):=by
    intro i us E c0 l g j x hj d;have hx:zfg x=true:=by simpa[zcj] using And.right (by simpa[zcj,zrl,hb] using d:appO (.call c)=true/\zfg x=true)
    have a4:i≠j:=λe=>by subst e;rw[g] at hj;cases hj;cases hx
    have a5:=(w04.1 hj).1;rw[w0r (by simpa using a5),w2b a4];exact hj
   have ad:∀(E c0:Nat)(us:List (SO V.T)),Chg (.call c) false false n0 s.ob ((s.ob++[(SO.row E c0 []:SO V.T)]).set s.ob.length .emp++us):=by intro E c0 us j x hj d;have a5:=(w04.1 hj).1;rw[w0r (by simp;omega),w2b (by omega),w0r a5];exact hj
   simp only[z5m,hb] at h⊢;split at h
   .rename_i x y a0 _;cases a0
   .split at h
    .rename_i t t' _;cases a7:Nat.beq t t' with
     |false=>rw[a7] at h;cases h
     |true=>
      rw[a7] at h;simp only[cond_true] at h⊢;split at h
      .split at h
       .rename_i i yv _ _ _ _ E' c0 l g;cases a1 :(Nat.beq _ E'&&Nat.beq _ (V.sz c0)&&Nat.blt 0 _) with
        |false=>rw[a1] at h;cases h
        |true=>
         rw[a1] at h;simp only[cond_true,appX] at h⊢;split at h
         .simp only[if_pos (hc _ _ _ _ _ g)];exact h
         .cases h
       .cases h
      .rename_i E z ab yv _ _ _;cases a1 :(Nat.beq z (V.sz (V.code E))&&Nat.blt 0 ab) with
       |false=>rw[a1] at h;cases h
       |true=>
        rw[a1] at h;simp only[cond_true,appX] at h⊢;split at h
        .simp only[if_pos (ad _ _ _)];exact h
        .cases h
      .cases h
    .cases h
   .rename_i x y a0 _;cases a0
   .rename_i a0;cases a0
   .rename_i a0;cases a0
   .cases h
 .have hm:¬zcj o=true:=λq=>ha (by cases o<;>simp[zcj] at q<;>rfl)
  cases hf:fs with
  |false=>
   cases he:es with
   |false=>
    have:∀ob',Chg (V:=V) o false false n0 s.ob ob':=λob' i x _ d=>by simp[a2,hm,ha] at d
    simp only[if_pos (this _)];exact h
   |true=>
    obtain⟨t,p,v,i,j,z,fo,rfl,hp⟩:=a3 he;have hc:∀o y,s.ob[i]? = some o->zfg o=false->Chg (V:=V) (.store t p v) false true n0 s.ob (updO V s i y).ob:=by
     intro o y g hb q x hq d;show (s.ob.set i y)[q]? = some x;have hx:zfg x=true:=by simpa[zcj,appO,zrl] using d
     have:i≠q:=λe=>by subst e;rw[g] at hq;cases hq;rw[hb] at hx;cases hx
     rw[w2b this];exact hq
    simp only[z5m,hp] at h⊢;split at h
    .rename_i n p' v' ht a6 hv;cases a6;simp only[stoX] at h⊢;split at h
     .rename_i E E2 c l hh g;split at h
      .split at h
       .simp only[if_pos (hc _ _ g rfl)];exact h
       .simp only[if_pos (hc _ _ g rfl)];exact h
      .cases h
     .rename_i E c l g;simp only[if_pos (hc _ _ g rfl)];exact h
     .rename_i E c l g;simp only[if_pos (hc _ _ g rfl)];exact h
     .cases h
    .cases h
  |true=>
   obtain⟨t,p,v,i,off,rfl,hp,hi⟩:=aa hf;have af:es=false:=by
    cases he:es with
    |false=>rfl
    |true=>obtain⟨t,p,v,i,j,z,fo,e,a9⟩:=a3 he;cases e;rw[hp] at a9;cases a9
   subst af;have hc:∀y,Chg (V:=V) (.store t p v) true false n0 s.ob (updO V s i y).ob:=by
    intro y j x hj d;show (s.ob.set i y)[j]? = some x;have:j<n0:=by simpa[zcj,appO,zrl] using d
    rw[w2b (by omega)];exact hj
   simp only[z5m,hp] at h⊢;split at h
   .rename_i n p' v' ht a6 hv;cases a6;simp only[stoX] at h⊢;split at h
    .split at h
     .rename_i hh;simp only[if_pos (hc _)];exact h
     .exact h
    .cases h
   .cases h
theorem yd6{tab:Tab}{gb:List (Nat×Bool)}{bs:Sls V.T}{es:List (DE V.T)}(h:EsOK tab gb bs es)(f:Nat->Bool){t:Nat}{x:Ch×SV V.T}(hx:lk (drSl V f bs es) t=some x):lk (drSl V (λ_=>true) bs es) t=some x:=by
 have hs:∃y,lk (drSl V (λ_=>true) bs es) t=some y:=by
  rcases zb2 hx with⟨e,u,hf,j⟩|hb
  .refine za2 (x:=x) ?_;unfold drSl;exact w1f _ (w0b.2 ⟨e,w0i.2 ⟨u,rfl⟩,j⟩)
  .unfold drSl;rw[zsv];cases lk ((es.filter λe=>true).map (·.2)) t with
   |some y=>exact⟨y,rfl⟩
   |none=>exact⟨x,hb⟩
 obtain⟨y,hy⟩:=hs;rw[hy];rcases zb2 hx with⟨e,u,hf,j⟩|hb
 .rcases zb2 hy with⟨z,g,a0,d⟩|hb'
  .have:=h.inj e u z g (by rw[j,d])
   subst this;rw[j] at d;cases d;rfl
  .rcases h.bs e u with this|⟨this,_⟩
   .rw[j] at this;change lk bs t=none at this;rw[this] at hb';cases hb'
   .rw[j] at this;change lk bs t=some x at this;rw[<- hb',this]
 .rcases zb2 hy with⟨z,g,a0,d⟩|hb'
  .rcases h.bs z g with this|⟨this,_⟩
   .rw[d] at this;change lk bs t=none at this;rw[this] at hb;cases hb
   .rw[d] at this;change lk bs t=some y at this;rw[<- this,hb]
  .rw[<- hb,hb']
theorem zfl.step{ops:Array Oper}{g:List Nat}{n0:Nat}{f:List Nat}{l:Nat}{bs:Sls V.T}{es:List (DE V.T)}{s s':SS V.T}{e:DE V.T}{d:Option Nat}{v:SV V.T}{o:Oper}(h:zfl N ops g n0 f bs es s e)(hm:l∈f)(hb:bitB (g.getD l 0) e.1=false)(ho:ops[l]? = some o)
  (hd:∀x,d=some x->lk bs x=none/\∀e∈es,e.2.1≠x) (a2:EsOK (z02 ops) s.gb bs es) (hk:s'.kn=s.kn) (hc:Chg o.op (stoF ops.toList l) (eltF ops.toList l) n0 s.ob s'.ob):zfl N ops g n0 (f.filter λx=>!Nat.beq x l) (putB V bs v d) es s' e:=by
 obtain⟨u,j,h1,h2,h3,h4,h5,h6,h7⟩:=h;have a0:opAt ops.toList l=o.op:=by unfold opAt;rw[w3h,ho]
 have a1:∀t x,lk (drSl V (memB (z0l u)) bs es) t=some x->lk (drSl V (memB (z0l u)) (putB V bs v d) es) t=some x:=by
  intro t x hx;cases d with
  |none=>exact hx
  |some d=>
   obtain⟨k1,k2⟩:=hd d rfl;unfold drSl putB at *;rw[zsv] at hx⊢;cases hl:lk ((es.filter λe=>memB (z0l u) e.1).map (·.2)) t with
   |some y=>rw[hl] at hx;exact hx
   |none=>
    rw[hl] at hx;simp only at hx⊢;rw[z0k,if_neg]
    .exact hx
    .intro e2;subst e2;rw[k1] at hx;cases hx
 refine⟨u,j,h1,h2,h3,h4,λi x hx=>?_,λl' z=>h6 l' (w0i.1 z).1,zuc (s:={ s with sl:=drSl V (memB (z0l u)) bs es,ob:=j }) (s':={ s' with sl:=drSl V (memB (z0l u)) (putB V bs v d) es,ob:=j }) ⟨a1,hk,λi x hx=>.inr hx⟩ h3 h7⟩;rcases h5 i x hx with q|q
 .exact .inl q
 .rcases h6 l hm hb i x hx with q2|q2
  .exact .inl q2
  .refine .inr (hc i x q ?_);unfold zy0 at q2
   rwa [a0] at q2
theorem zuy[Dr]{A:Asg}{P:Program}{gb:List (Nat×Bool)}(es:List (DE V.T)):(qrOf P A gb es).map (·.1)=es.map (·.1):=by unfold qrOf;rw[w2n];rfl
theorem yjg[Dr]{A:Asg}{P:Program}{tab:Tab}{n:Nat}{D d z:List Nat}{gb g:List (Nat×Bool)}{bs:Sls V.T}{u es:List (DE V.T)}(hx:GbX gb g)(a0:EsOK tab gb bs es)(hc:chk tab n D ((u++es).map (·.1)) d z=true):
  ∀p∈qrOf P A g (u++es),p.1∈(qrOf P A gb es).map (·.1)->∃x,(p.1,x)∈qrOf P A gb es/\Ent x p.2:=by
 intro p hp h;simp only[chk,w02] at hc;have a1:=zbg hc.1.1.1.1.2;simp only[qrOf,w0b] at hp;obtain⟨e,he,rfl⟩:=hp;have j:e.1∈es.map (·.1):=by rw[zuy] at h;exact h
 obtain⟨e2,f,h2⟩:=w0b.1 j;have:=zbq a1 he (w1u _ f) h2.symm;subst this;exact⟨denE V P A gb e.2.2,w0b.2 ⟨e,f,rfl⟩,Ent.of_eq (hx.denE (a0.ch e f))⟩
theorem yl1{ops:Array Oper}{j:List Nat}{n0:Nat}{d g:List Nat}{bs:Sls V.T}{u es:List (DE V.T)}{s:SS V.T}{f:List (Nat×Bool)}(hx:GbX s.gb f)(z:EsOK (z02 ops) f bs (u++es))(h:∀e∈es,memB g e.1=false->zfl N ops j n0 d bs es s e):
  ∀e∈es,memB g e.1=false->zfl N ops j n0 d bs (u++es) { s with gb:=f } e:=
 λe he hs=>(h e he hs).more (s':={ s with gb:=f }) z rfl rfl
theorem ymv[Dr](hN:z6x V N){C:Cx N.P}{A:Asg}{ops:Array Oper}{j:List Nat}{n0:Nat}{f h:List Nat}{bs:Sls V.T}{g es:List (DE V.T)}{s:SS V.T}{d:List (Nat×Bool)}(hf:∀e∈es,memB h e.1=false->zfl N ops j n0 f bs (g++es) { s with gb:=d } e)
  (x5:∀e∈g,(∃o,ops[e.1]? = some o/\GQ C (z02 ops) o ⟨z1k (z02 ops) (memB (Tab.deps (z02 ops) e.1)) (slD V N.P A d bs) (qrOf N.P A d (g++es)),obD V N.P A A s.ob⟩ (denE V N.P A d e.2.2))/\
    ((∃l∈f,bitB (j.getD l 0) e.1=false)->zfl N ops j n0 f bs (g++es) { s with gb:=d } e))
  (x3:EsOK (z02 ops) d bs (g++es)) (x4:GbOK (⟨bs,d,s.kn,s.n⟩:Fm V.T)) (u:chP d s.kn) (h1:OneA V A s.ob) {p:Nat×VP} (z:p∈qrOf N.P A d (g++es)) (hs:memB h p.1=false) :
  ∃o,ops[p.1]? = some o/\GQ C (z02 ops) o ⟨z1k (z02 ops) (memB (Tab.deps (z02 ops) p.1)) (slD V N.P A d bs) (qrOf N.P A d (g++es)),obD V N.P A A s.ob⟩ p.2:=by
 simp only[qrOf,w0b] at z;obtain⟨e,he,rfl⟩:=z;rcases w0j.1 he with hn|ho
 .exact(x5 e hn).1
 .exact y95 hN (s:={ s with gb:=d }) (hf e ho hs) x3 x4 u h1
end
end Px
end
section
namespace Px
open Go Go.RowKit
section
variable{V:TE}{N:Env V}{R:Type}{r:R}
structure y2r{R R':Type}(leaf:Option R->Option R')(comb:List (Option R')->Option R')(r:R)(G:R'->Prop):Prop where
 leaf:∀x y,leaf x=some y->G y->x=some r
 comb:∀l y,comb l=some y->G y->∀x∈l,∃a,x=some a/\G a
theorem y3a:y2r id one1 r (λy=>y=r) where
 leaf:=λx y h e=>by subst e;exact h
 comb:=λl y h e x hx=>by
  unfold one1 at h;split at h
  .simp only[w0d] at hx;subst hx;exact⟨y,h,e⟩
  .cases h
theorem ycy:y2r (λx:Option R=>some [x]) catL r (λL=>∀x∈L,x=some r) where
 leaf:=λx y h e=>by simp only[w01] at h;subst h;exact e x (w0d.2 rfl)
 comb:=λl=>by
  induction l with
  |nil=>intro y _ _ x hx;cases hx
  |cons z l j=>
   intro y h e x hx;simp only[catL] at h;cases d:z with
   |none=>rw[d] at h;simp[cat2] at h
   |some a=>
    cases f:catL l with
    |none=>rw[d,f] at h;simp[cat2] at h
    |some b=>
     rw[d,f] at h;simp only[cat2,w01] at h;subst h;rcases w05.1 hx with rfl|hx
     .exact⟨a,d,λq g=>e q (w1f _ g)⟩
     .exact j b f (λq g=>e q (w1u _ g)) x hx
def zzz[Dr](x:VP)(objs:List HP)(x2:VP)(objs2:List HP):Prop:=(x2=x/\objs2=objs)\/
 ∃(O:List HP)(i:Nat)(sv:Value)(H:HP),ObW objs O/\O[i]? = some H/\Ent x (eqv sv)/\(∀r S w,H.h S r w->x2.h (λb=>r b\/S b) w sv)/\objs2=O.set i emp
theorem zp2{sv:Value}{X:VP}: ∀(l:List HP),zmf sv X l l
 | []=>trivial
 |A::l=>⟨λ_ _ _ _ h=>h,zp2 l⟩
theorem OpT.frz[Dr]{P:Program}{C:Cx P}{o:Oper}{s:St}{K K':VP->List HP->Prop}(h:OpT C o s K)(hk:∀x objs,K x objs->∃z objs2,zzz x objs z objs2/\K' z objs2):OpT C o s K':=by
 intro a w ro S Q hd hn hw hs;refine Oper.wp_mono ?_ (h a w ro S Q hd hn hw hs);rintro a' w' ⟨v,a3,S',x,objs',ha,e,j,hx,a0⟩;obtain⟨z,objs2,hf,g⟩:=hk _ _ a0;rcases hf with⟨rfl,rfl⟩|⟨O,i,sv,H,hO,hi,d,hX,rfl⟩
 .exact⟨v,a3,S',z,objs2,ha,e,j,hx,g⟩
 .obtain⟨S2,u⟩:=hO _ _ _ _ _ j;have hv:v=sv:=d _ _ _ hx;subst hv;obtain⟨r3,S3,a4,a1,f,a2⟩:=y96 i (w04.1 hi).1 u e (hX _ _ _ (u.obj i H hi)) (zp2 _);exact⟨v,r3,S3,z,_,ha,f,a1,a2,g⟩
theorem yhy[Dr]{P:Program}{ops:List Oper}{l n0:Nat}{o:Op}{fs es:Bool}{ob ob':List (SO V.T)}{v:SV V.T}{A:Asg}{x:VP}{d:List HP}(g:A.length=ob'.length)(f:Ent x (v.den V P A))(u:ObW d (obD V P A A ob'))(j:Chg o fs es n0 ob ob'):
  ∃z objs2,zzz x d z objs2/\Ent z ((frzN V ops l ob.length v ob').1.den V P A)/\ObW objs2 (obD V P A A (frzN V ops l ob.length v ob').2)/\A.length =(frzN V ops l ob.length v ob').2.length/\Chg o fs es n0 ob (frzN V ops l ob.length v ob').2:=by
 have idle:∃z objs2,zzz x d z objs2/\Ent z (v.den V P A)/\ObW objs2 (obD V P A A ob')/\A.length=ob'.length/\Chg o fs es n0 ob ob':=⟨x,d,.inl ⟨rfl,rfl⟩,f,u,g,j⟩;unfold frzN;cases elB ops l with
 |false=>exact idle
 |true=>
 simp only[cond_true];split
 .rename_i n;cases hb:Nat.ble ob.length n with
  |false=>exact idle
  |true=>
  simp only[cond_true];split
  .rename_i E c l' hn;have a0:=(w04.1 hn).1;obtain⟨q,hq⟩:∃q,A[n]? = some q:=⟨_,w0c (g ▸ a0)⟩;have a1:=zw V P (A:=A) (ps:=A) hq hn;refine⟨Px.ro (V.ev c) (V.sz c) l',_,.inr ⟨_,n,q.2,_,u,a1,?_,λr S w h=>zt5 (V.ev_len c) h,rfl⟩,?_,?_,by simpa using g,λi y hi hc=>?_⟩
   .simp only[SV.den,hq] at f;exact f
   .simp only[SV.den];exact Ent.refl
   .rw[z6f V P A ob' n q .emp hq];exact ObW.refl
   .have a3:=(w04.1 hi).1;have a2:=w0s hb;rw[w2b (by omega)];exact j i y hi hc
  .exact idle
 .exact idle
theorem yd7[Dr](hN:z6x V N){R':Type}{leaf:Option R->Option R'}{comb:List (Option R')->Option R'}{G:R'->Prop}(af:y2r leaf comb r G){C:Cx N.P}{Γ:List (Option (Nat×Nat))}{rd:Option Nat}{a6:List GA}(hΓ:a6.map GA.lpI=Γ){ops:Array Oper}{inl:Nat->Inl V R}{K:KX V R}{Q:Exit->Act->World->Prop}{u:List Nat}{n0:Nat}{A0:Asg}{ai:Nat->Prop}{wz:World}{a0:Act}
  (bx:zwm Γ C r inl ops inl K)
  (hK:∀s a w,K .normal s=some r->SatS V C a6 s a w->Q .normal a w) (b2:EvM C.base C.r0 C.wI (mks a0 a6) (lps a6) ai wz) :
  ∀(n:Nat)(later done sure:List Nat)(bs:Sls V.T)(es:List (DE V.T))(s:SS V.T)(A:Asg)(L:R'),y8g V N leaf comb inl ops u n0 (λs=>K .normal s) n later done sure bs es s=some L->G L->
   AExt A0 A->A.length=s.ob.length->Stk V N.P A0 ai wz s.stk a6->
   EsOK (z02 ops) s.gb bs es->GbOK (⟨bs,s.gb,s.kn,s.n⟩:Fm V.T)->chP s.gb s.kn->(∀e∈es,memB sure e.1=false->zfl N ops u n0 later bs es s e)->
   Reg (P:=N.P) { C with n:=s.n,r0:=ai,wI:=wz,rd:=rd,df:=a0.defers } ops (z02 ops) Q done ⟨slD V N.P A s.gb bs,obD V N.P A A s.ob⟩ (qrOf N.P A s.gb es):=by
 intro n
 induction n with
 |zero=>intro later done sure bs es s A L h;cases h
 |succ n ih=>
  intro later done sure bs es s A L h hL hA hl bj bt bd bz bc;refine Reg.withInv λ⟨r1,S1,w1,cj⟩=>?_
  have h1:=zpu cj;simp only[y8g] at h;obtain⟨f,bm,x1,x2,x3,x4,x5⟩:=yb6 hN (C:={ C with n:=s.n,r0:=ai,wI:=wz,rd:=rd,df:=a0.defers }) (A:=A) _ s es h bt bd bz h1;have a9:chP f s.kn:=(x1.chP bd.kn) ▸ bz;have b0:=yl1 x1 x3 bc;simp only at x2;revert x2 x3 x5 b0;have ba:chk (z02 ops) s.n done ((bm++es).map (·.1)) (z78 u later) sure=true->∀p∈qrOf N.P A f (bm++es),p.1∈(qrOf N.P A s.gb es).map (·.1)->∃x,(p.1,x)∈qrOf N.P A s.gb es/\Ent x p.2:=λhc=>yjg x1 bt hc
  generalize hE:bm++es=E at *;intro x2 x3 x5 b0;cases ae:chk (z02 ops) s.n done (E.map (·.1)) (z78 u later) sure with
  |false=>rw[ae] at x2;cases x2
  |true=>
  rw[ae] at x2;simp only[cond_true] at x2;have a1:=zuy (P:=N.P) (A:=A) (gb:=f) E;have be:∀p∈qrOf N.P A f E,memB sure p.1=false->∃o,ops[p.1]? = some o/\GQ (P:=N.P) (C:={ C with n:=s.n,r0:=ai,wI:=wz,rd:=rd,df:=a0.defers }) (z02 ops) o ⟨z1k (z02 ops) (memB (Tab.deps (z02 ops) p.1)) (slD V N.P A f bs) (qrOf N.P A f E),obD V N.P A A s.ob⟩ p.2:=by intro p hp hs;subst hE;exact ymv hN b0 x5 x3 x4 a9 h1 hp hs
  refine Reg.weak (s':=⟨slD V N.P A f bs,obD V N.P A A s.ob⟩) (QR':=qrOf N.P A f E) (λa r w q=>by rw[<- zzc x1 bd];exact q) ObW.refl ?_ (ba ae) ?_
  .intro q hq;rw[a1,<- hE,w1g];refine w1u _ ?_;rw[zuy] at hq;exact hq
  cases later with
  |nil=>have hk:=af.leaf _ _ x2 hL;refine Reg.introG [] sure rfl (by rw[a1];exact ae) (zlm x3) (zea λp hp hs=>be p hp hs) trivial ?_;intro _ a' w' au;obtain⟨b9,bh,bn,S',bl,a8,ad⟩:=au;rw[z5w _ x3.dst] at ad;exact hK _ a' w' hk ⟨trivial,bh,a9,x3.gb x4 _,A,bn,S',hl,bl,y4i b9 ▸ b2.trans a8,ad,bj.ext hA a8⟩
  |cons l0 lt=>
  generalize c1:l0::lt=later at *;have ax :(bif (z78 u later).isEmpty then none else comb ((z78 u later).map λl=>match ops[l]? with
    |some o=>bif !memB done l&&!memB (E.map (·.1)) l then(bif zwc ops done (E.map (·.1)) (z78 u later) l||y7b V N bs { s with gb:=f,sl:=drSl V (memB (z0l o)) bs E } o then(bif zwc ops done (E.map (·.1)) (z78 u later) l then
       leaf (z7o V N inl ops.toList l (ops.toList.drop l) { s with gb:=f,sl:=drSl V (λ_=>true) bs E } (λs=>K .normal s)) else none) else
      bif y0j o&&zfy V { s with gb:=f } bs E o.dst&&((y62 V N { s with gb:=f,sl:=drSl V (memB (z0l o)) bs E } o.op).isEmpty&&ybi V ops.toList n0 l { s with gb:=f,sl:=drSl V (memB (z0l o)) bs E } o.op) then
       z5m (R:=R') V N { s with gb:=f,sl:=drSl V (memB (z0l o)) bs E } o.op o.type λv s'=>y8g V N leaf comb inl ops u n0 (λs=>K .normal s) n (later.filter λx=>!Nat.beq x l) (l::done) (sure++(E.map (·.1)).filter λq=>bitB (u.getD l 0) q&&!memB sure q) (putB V bs (frzN V ops.toList l s.ob.length v s'.ob).1 o.dst) E { s with gb:=f,ob:=(frzN V ops.toList l s.ob.length v s'.ob).2 } else none) else none
    |none=>none))=some L:=by
   subst c1;exact x2
  clear x2;cases az :(z78 u later).isEmpty with
  |true=>rw[az] at ax;cases ax
  |false=>
  rw[az] at ax;simp only[cond_false] at ax;have b6:=λl(hl:l∈z78 u later)=>af.comb _ _ ax hL _ (List.mem_map_of_mem hl)
  have hfacts:∀l∈z78 u later,∃o,ops[l]? = some o/\memB done l=false/\memB (E.map (·.1)) l=false:=by
   intro l hl;obtain⟨a,ha,_⟩:=b6 l hl;cases ho:ops[l]? with
   |none=>rw[ho] at ha;cases ha
   |some o=>
    rw[ho] at ha;simp only at ha;cases hc :(!memB done l&&!memB (E.map (·.1)) l) with
    |false=>rw[hc] at ha;cases ha
    |true=>simp only[w02,w0v] at hc;exact⟨o,rfl,hc.1,hc.2⟩
  have ak:zek (z02 ops) done (E.map (·.1))=false:=by
   obtain⟨l,hl⟩:∃l,l∈z78 u later:=by
    cases cd:z78 u later with
    |nil=>rw[cd] at az;cases az
    |cons l _=>exact⟨l,w0n ..⟩
   obtain⟨o,ho,ao,ap⟩:=hfacts l hl;cases ak:zek (z02 ops) done (E.map (·.1)) with
   |false=>rfl
   |true=>unfold zek at ak;have:=w0a.1 ak l (by rw[w1d,zfa rfl];exact(w1c.1 ho).1);rw[ao,ap] at this;cases this
  by_cases c8:∃l∈z78 u later,∃o,ops[l]? = some o/\(zwc ops done (E.map (·.1)) (z78 u later) l||y7b V N bs { s with gb:=f,sl:=drSl V (memB (z0l o)) bs E } o)=true
  .-- what is left is cw in cm order of cm text
   obtain⟨l,a5,o,ho,ht⟩:=c8;obtain⟨a,ha,b5⟩:=b6 l a5;obtain⟨o',c3,ao,ap⟩:=hfacts l a5;rw[ho] at c3;cases c3;simp only[ho,ao,ap,ht,w2m,w4a,cond_true] at ha;cases aj:zwc ops done (E.map (·.1)) (z78 u later) l with
   |false=>rw[aj] at ha;cases ha
   |true=>
    rw[aj] at ha;simp only[cond_true] at ha;have x2:=af.leaf _ _ ha b5;unfold zwc at aj;simp only[w02] at aj;obtain⟨⟨⟨⟨⟨ac,cc⟩,bo⟩,c2⟩,cb⟩,bk⟩:=aj;have ac:=w03 ac;have bk:l<ops.size:=w0s bk;have bf:z78 u later = [l]:=by
     revert ac a5;generalize z78 u later=cs;intro b1 ac
     match cs,ac,b1 with
     | [y],_,b1=>simp at b1;rw[b1]
    rw[bf] at ae;refine Reg.tail l sure rfl (by rw[a1];exact ae) (zlm x3) (zea λp hp hs=>be p hp hs) (by rw[a1];exact cc) (by rw[a1];exact bo) (by rw[a1];exact c2) cb bk ?_ ?_
    .rw[a1];exact ak
    .intro a w au;obtain⟨b9,bh,bn,S',bl,a8,ad⟩:=au;rw[z5w _ x3.dst] at ad;have:=zkl (rd:=rd) (Q:=Q) hN hΓ bx hK (ops.toList.drop l) l _ a w rfl x2 ⟨trivial,bh,a9,x3.gb x4 _,A,bn,S',hl,bl,y4i b9 ▸ b2.trans a8,ad,bj.ext hA a8⟩;rw[show (ops.toList.drop l).length=ops.size-l by simp] at this;exact this
  .-- others
   refine Reg.introG (z78 u later) sure rfl (by rw[a1];exact ae) (zlm x3) (zea λp hp hs=>be p hp hs) (zea λl a5=>?_) (λbp=>by rw[a1,ak] at bp;cases bp);obtain⟨a,ha,b5⟩:=b6 l a5;obtain⟨o,ho,ao,ap⟩:=hfacts l a5;have c9 :(zwc ops done (E.map (·.1)) (z78 u later) l||y7b V N bs { s with gb:=f,sl:=drSl V (memB (z0l o)) bs E } o)=false:=by
    cases e :(zwc ops done (E.map (·.1)) (z78 u later) l||y7b V N bs { s with gb:=f,sl:=drSl V (memB (z0l o)) bs E } o) with
    |false=>rfl
    |true=>exact absurd ⟨l,a5,o,ho,e⟩ c8
   have aw:=(w1l.1 c9).2;unfold y7b at aw;simp only[w1l] at aw;obtain⟨⟨⟨hg,cv⟩,cp⟩,cu⟩:=aw;have hg:o.guard=none:=by cases e:o.guard with
    |none=>rfl
    |some g=>rw[e] at hg;cases hg
   simp only[ho,ao,ap,c9,w2m,w4a,cond_true,cond_false] at ha;cases ay :(y0j o&&zfy V { s with gb:=f } bs E o.dst) with
   |false=>rw[ay] at ha;cases ha
   |true=>
   rw[ay,w25] at ha;simp only[w02] at ay;obtain⟨br,a2⟩:=ay;cases am :((y62 V N { s with gb:=f,sl:=drSl V (memB (z0l o)) bs E } o.op).isEmpty&&ybi V ops.toList n0 l { s with gb:=f,sl:=drSl V (memB (z0l o)) bs E } o.op) with
   |false=>rw[am] at ha;cases ha
   |true=>
    rw[am] at ha;simp only[cond_true] at ha;simp only[w02] at am;have bq:=y9s (fs:=stoF ops.toList l) (es:=eltF ops.toList l) (n0:=n0) (λhf=>by
     have h2:=am.2;unfold ybi at h2;split at h2
     .rename_i t p v ah;simp only[w02] at h2;have h2:=h2.1;rw[hf] at h2;simp only[w21,w2c] at h2;split at h2
      .rename_i i off hp;exact⟨t,p,v,i,off,ah,hp,w0s h2⟩
      .cases h2
     .rename_i ah;exfalso;unfold stoF at hf;have aq:opAt ops.toList l=o.op:=by unfold opAt;rw[w3h,ho]
      rw[aq] at hf;split at hf
      .rename_i t p v ar;exact ah _ _ _ ar
      .cases hf) (λhf=>by
     have h2:=am.2;unfold ybi at h2;split at h2
     .rename_i t p v ah;simp only[w02] at h2;have h2:=h2.2;rw[hf] at h2;simp only[w21,w2c] at h2;split at h2
      .rename_i i j z fo hp;exact⟨t,p,v,i,j,z,fo,ah,hp⟩
      .cases h2
     .rename_i ah;exfalso;unfold eltF at hf;have aq:opAt ops.toList l=o.op:=by unfold opAt;rw[w3h,ho]
      rw[aq] at hf;split at hf
      .rename_i t p v ar;exact ah _ _ _ ar
      .cases hf) ha
    have ca:=λdst pos b4 guard hd=>y4e (C:={ C with n:=s.n,r0:=ai,wI:=wz,rd:=rd,df:=a0.defers }) (s:={ s with gb:=f,sl:=drSl V (memB (z0l o)) bs E }) hN hl a9 (x3.gb x4 _) h1 bq dst pos b4 guard hd
    refine⟨o,ho,?_,?_,?_⟩
    .unfold z8g;cases a3:o.dst with
     |none=>rfl
     |some d=>rw[a3] at a2;simp only[zfy,w02,w2e] at a2;simpa using a2.1.1.1
    .rw[a1];refine w0a.2 λq hq=>?_
     obtain⟨e,he,rfl⟩:=w0b.1 hq;rw[x3.dst e he];cases a3:o.dst with
     |none=>rfl
     |some d=>
      rw[a3] at a2;simp only[zfy,w02,w0v] at a2;simp only[y0i,w0v];cases hb:Nat.beq e.2.1 d with
      |false=>rfl
      |true=>have :(E.any λe=>Nat.beq e.2.1 d)=true:=w1q.2 ⟨e,he,hb⟩;rw[a2.2] at this;cases this
    .unfold y7m;rw[hg];have h6:=ca o.dst o.pos o.after none (λe=>by
      cases a3:o.dst with
      |none=>rfl
      |some d=>obtain⟨dst,op,ty,pos,b4,guard⟩:=o;simp only at a3;subst a3;cases op<;>simp[yih] at e<;>simp[y0j] at br)
     have ci :(⟨o.dst,o.op,o.type,o.pos,o.after,none⟩:Oper)=o:=by obtain⟨dst,op,ty,pos,b4,guard⟩:=o;simp only at hg;subst hg;rfl
     rw[ci] at h6;have e4 :(⟨z1k (z02 ops) (memB (Tab.deps (z02 ops) l)) (slD V N.P A f bs) (qrOf N.P A f E),obD V N.P A A s.ob⟩:St)=SS.st V N.P A { s with gb:=f,sl:=drSl V (memB (z0l o)) bs E }:=by rw[zhf ho,z5w _ x3.dst];rfl
     rw[e4];refine h6.frz ?_;rintro x objs ⟨B,ob',v,ag,aa,a7,ab⟩;simp only at ag;split at ag
     .rename_i a4;obtain⟨x',objs',b3,bb,bi,bg,b8⟩:=yhy (ops:=ops.toList) (l:=l) aa a7 ab a4;refine⟨x',objs',b3,[],rfl,?_⟩;rw[w0e];clear a7 ab aa a4 b3;revert ag bb bi bg b8;generalize frzN V ops.toList l s.ob.length v ob'=fz;obtain⟨v,ob'⟩:=fz;clear x objs;revert x' objs';intro x objs ag a7 ab aa a4;simp only at ag a7 ab aa a4;have hfree3:∀e∈E,memB (sure++(E.map (·.1)).filter λq=>bitB (u.getD l 0) q&&!memB sure q) e.1=false->zfl N ops u n0 (later.filter λx=>!Nat.beq x l) (putB V bs v o.dst) E { s with gb:=f,ob:=ob' } e:=by
       intro e he hs;have c5:memB sure e.1=false:=by
        cases hm:memB sure e.1 with
        |false=>rfl
        |true=>rw[z0f.2 (w1f _ (z0f.1 hm))] at hs;cases hs
       have c6:bitB (u.getD l 0) e.1=false:=by
        cases hm:bitB (u.getD l 0) e.1 with
        |false=>rfl
        |true=>rw[z0f.2 (w1u _ (w0i.2 ⟨w0b.2 ⟨e,he,rfl⟩,by rw[hm,c5];rfl⟩))] at hs;cases hs
       have hF:zfl N ops u n0 later bs E { s with gb:=f } e:=by
        subst hE;rcases w0j.1 he with hn|ho2
        .exact(x5 e hn).2 ⟨l,(w0i.1 a5).1,c6⟩
        .exact b0 e ho2 c5
       refine hF.step (w0i.1 a5).1 c6 ho ?_ x3 rfl a4;intro d hd;rw[hd] at a2;simp only[zfy,w02,w34,w0v] at a2;refine⟨a2.1.2,λe2 ce q=>?_⟩;have :(E.any λe=>Nat.beq e.2.1 d)=true:=w1q.2 ⟨e2,ce,by rw[q];exact w2p d⟩;rw[a2.2] at this;cases this
      have bu:EsOK (z02 ops) f (putB V bs v o.dst) E:=by
       refine⟨x3.dst,x3.ch,x3.val,x3.inj,λe he=>?_⟩;cases a3:o.dst with
       |none=>exact x3.bs e he
       |some d=>
        rw[a3] at a2;simp only[zfy,w02,w0v] at a2;simp only[putB,z0k];rw[if_neg]
        .exact x3.bs e he
        .intro q;have :(E.any λe=>Nat.beq e.2.1 d)=true:=w1q.2 ⟨e,he,by rw[q];exact w2p d⟩;rw[a2.2] at this;cases this
      have bw:GbOK (⟨putB V bs v o.dst,f,s.kn,s.n⟩:Fm V.T):=by
       cases a3:o.dst with
       |none=>exact x4
       |some d=>
        rw[a3] at a2;simp only[zfy,w02,w34] at a2;refine⟨λt g ht ch z hz=>?_,λt ch z hz p hp=>?_,x4.kn⟩
        .simp only[putB,z0k] at hz;by_cases e:t=d
         .subst e;have cf:lk f t=none:=a2.1.1.2;have c7:lk f t=some g:=ht;rw[cf] at c7;cases c7
         .rw[if_neg e] at hz;exact x4.val t g ht ch z hz
        .simp only[putB,z0k] at hz;by_cases e:t=d
         .rw[if_pos e] at hz;cases hz;cases hp
         .rw[if_neg e] at hz;exact x4.ch t ch z hz p hp
      have c4:=ih _ (l::done) _ (putB V bs v o.dst) E { s with gb:=f,ob:=ob' } (A++B) a ag b5 (λi p hp=>AExt.app A B i p (hA i p hp)) aa bj bu bw a9 hfree3;refine Reg.weak (λa r w av=>?_) ab ?_ ?_ c4
      .intro t X hX;simp only[slD] at hX;cases a3:o.dst with
       |none=>rw[a3] at hX av;exact zhe V N.P (AExt.app A B) av t X hX
       |some d=>
        rw[a3] at hX av;simp only[putB,z0k] at hX;by_cases e:t=d
        .subst e;rw[if_pos rfl] at hX;simp only[w0z,w01] at hX;subst hX;have:=av t x (by simp only[z9i.set,w2p,cond_true]);exact a7 _ _ _ this
        .rw[if_neg e] at hX;have co:zj (slD V N.P A f bs) a r w\/True:=.inr trivial;cases b7:lk bs t with
         |none=>rw[b7] at hX;cases hX
         |some y=>rw[b7] at hX;simp only[w0z,w01] at hX;subst hX;have:=av t (denE V N.P A f y) (by simp only[z9i.set,zo7 e,cond_false,slD,b7,w0z]);exact zoh V N.P (AExt.app A B) y _ _ _ this
      .intro q hq;rw[zuy] at hq⊢;exact hq
      .intro p hp _;simp only[qrOf,w0b] at hp;obtain⟨e,he,rfl⟩:=hp;exact⟨denE V N.P A f e.2.2,w0b.2 ⟨e,he,rfl⟩,zoh V N.P (AExt.app A B) e.2.2⟩
     .cases ag
end
end Px
end
