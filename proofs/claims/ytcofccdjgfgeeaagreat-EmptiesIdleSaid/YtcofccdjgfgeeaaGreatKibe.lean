/- A part of the proof of emptiesIdle_holds. Conditions: none. -/
import Derived.Test.YtcofccdjgfgeeaaGreatKibd
set_option linter.unusedVariables false
set_option linter.unusedSimpArgs false
section
namespace Px
open Go Go.RowKit
def Pres{α:Type}(m:Sem α):Prop:=∀(P:Program)(w:World)(x:α)(w':World),m.run P w = .ok x w'->w'=w
theorem Pres.pure{α:Type}(x:α):Pres (Pure.pure x:Sem α):=λP w y w' h=>by rw[w0j] at h;cases h;rfl
theorem Pres.bind{α β:Type}{m:Sem α}{f:α->Sem β}(h:Pres m)(k:∀x,Pres (f x)):Pres (m >>= f):=λP w y w' hr=>by
 rw[w06] at hr;cases hm:m.run P w with
 |ok x w1=>rw[hm] at hr;have e:=h P w x w1 hm;subst e;exact k x P _ y w' hr
 |halt x w1=>rw[hm] at hr;cases hr
theorem Pres.halt{α:Type}{h:Halt}: Pres (.halt h:Sem α):=λP w y w' hr=>by cases hr
theorem Pres.program:Pres Go.program:=λP w y w' hr=>by cases hr;rfl
theorem Pres.stuck{α:Type}{s:String}: Pres (Go.stuck s:Sem α):=Pres.halt
theorem Pres.unsupported{α:Type}{s:Unsupported}: Pres (Go.unsupported s:Sem α):=Pres.halt
theorem Pres.shape{r:Nat}: Pres (Go.shape r):=λP w y w' hr=>by cases hr;rfl
theorem Pres.load{a:Addr}: Pres (Go.load a):=λP w y w' hr=>by
 rw[run_load] at hr;split at hr
 .cases hr;rfl
 .split at hr<;>cases hr;rfl
theorem Pres.typeInfo{t:TypeId}: Pres (Go.typeInfo t):=by
 unfold Go.typeInfo;refine Pres.program.bind λp=>?_
 split
 .exact Pres.pure _
 .exact Pres.stuck
theorem Pres.underlying{t:TypeId}: Pres (Go.underlying t):=by
 unfold Go.underlying;refine Pres.program.bind λp=>?_
 split
 .exact Pres.pure _
 .exact Pres.stuck
theorem Pres.sizeOf{t:TypeId}: Pres (Go.sizeOf t):=Pres.typeInfo.bind λ_=>Pres.pure _
theorem Pres.isAgg{t:TypeId}: Pres (Go.isAgg t):=by
 unfold Go.isAgg;refine Pres.underlying.bind λp=>?_
 split<;>exact Pres.pure _
theorem Pres.loadCellsFrom{a:Addr}: ∀(n i:Nat)(acc:Array Value),Pres (Go.loadCellsFrom a i n acc)
 |0,_,_=>Pres.pure _
 |n+1,i,acc=>Pres.load.bind λ_=>Pres.loadCellsFrom n _ _
theorem Pres.loadVar{t:TypeId}{a:Addr}: Pres (Go.loadVar t a):=by
 unfold Go.loadVar;refine Pres.isAgg.bind λb=>?_
 split
 .exact Pres.bind Pres.sizeOf λn=>Pres.bind (Pres.loadCellsFrom _ _ _) λ_=>Pres.pure _
 .exact Pres.load
theorem Pres.sureAddr{v:Value}: Pres (Instr.sureAddr v):=by
 unfold Instr.sureAddr;split
 .exact Pres.pure _
 .exact Pres.stuck
theorem Pres.asIntOf{v:Value}: Pres (Go.asIntOf v):=by
 unfold Go.asIntOf;split
 .exact Pres.pure _
 .exact Pres.unsupported
 .exact Pres.stuck
theorem Pres.boundsPanic{α:Type}{k:IntKind}{x y:Int}{c:BoundsCode}: Pres (Go.boundsPanic k x y c:Sem α):=λP w z w' hr=>by obtain⟨s,w1,h⟩:=run_boundsPanic (P:=P) (w:=w) (α:=α) k x y c;rw[h] at hr;cases hr
theorem Pres.getObj{r:Nat}: Pres (Go.getObj r):=λP w y w' hr=>by
 simp only[Go.getObj,Sem.run] at hr;split at hr
 .cases hr
 .cases hr;rfl
 .cases hr
theorem Pres.viewAt{r:Nat}: Pres (Go.viewAt r):=by
 unfold Go.viewAt;refine Pres.shape.bind λx=>?_
 split
 .exact Pres.pure _
 .refine Pres.getObj.bind λo=>?_
  split<;>exact Pres.pure _
theorem Pres.noView{a:Addr}: Pres (Go.noView a):=by
 unfold Go.noView;refine Pres.viewAt.bind λx=>?_
 split
 .exact Pres.unsupported
 .exact Pres.pure _
theorem Pres.byteOf{a:Addr}: Pres (Go.byteOf a):=by
 unfold Go.byteOf;split
 .exact Pres.pure _
 .refine Pres.program.bind λp=>Pres.noView.bind λ_=>Pres.shape.bind λx=>?_
  split
  .dsimp only;split
   .exact Pres.pure _
   .split
    .exact Pres.pure _
    .exact Pres.stuck
  .exact Pres.stuck
def IntV(v:Value):Prop:=∃k n,v = .int k n
theorem Pres.fold{f:Value->Value->Sem Value}(hf:∀k x j y,∃v,IntV v/\f (.int k x) (.int j y)=Pure.pure v):∀(l:List Value)(x:Value),IntV x->(∀y∈l,IntV y)->Pres (l.foldlM f x)
 | [],x,_,_=>Pres.pure _
 |y::l,x,hx,hl=>by obtain⟨k,n,rfl⟩:=hx;obtain⟨j,m,rfl⟩:=hl y (w0l ..);obtain⟨v,hv,e⟩:=hf k n j m;rw[w53,e];intro P w z w' hr;rw[w06,w0j,w05] at hr;exact Pres.fold hf l v hv (λy hy=>hl y (w0h _ hy)) P w z w' hr
theorem Pres.fieldPlace{a:Addr}{f:Field}: Pres (Go.fieldPlace a f):=by
 unfold Go.fieldPlace;refine Pres.sizeOf.bind λn=>?_
 split
 .exact Pres.bind Pres.byteOf λ_=>Pres.bind Pres.byteOf λ_=>Pres.pure _
 .exact Pres.pure _
theorem Pres.fieldAt{s:TypeId}{v:Value}{f:Nat}: Pres (Instr.fieldAt s v f):=by
 unfold Instr.fieldAt;refine Pres.underlying.bind λn=>?_
 split
 .split
  .exact Pres.sureAddr.bind λ_=>Pres.fieldPlace.bind λ_=>Pres.pure _
  .exact Pres.stuck
 .exact Pres.stuck
theorem Pres.indexAt{t:TypeId}{v i:Value}: Pres (Instr.indexAt t v i):=by
 unfold Instr.indexAt;refine Pres.asIntOf.bind λk=>?_
 refine Pres.underlying.bind λu=>?_
 dsimp only;split
 .refine Pres.sureAddr.bind λa=>Pres.bind (Pres.pure _) λq=>?_
  obtain⟨base,len,elem⟩:=q;dsimp only;refine Pres.underlying.bind λu2=>?_
  split
  .split
   .exact Pres.sizeOf.bind λ_=>Pres.pure _
   .split<;>(split<;>first|exact Pres.unsupported|exact Pres.boundsPanic)
  .exact Pres.boundsPanic
 .refine Pres.bind (Pres.pure _) λq=>?_
  obtain⟨base,len,elem⟩:=q;dsimp only;refine Pres.underlying.bind λu2=>?_
  split
  .split
   .exact Pres.sizeOf.bind λ_=>Pres.pure _
   .split<;>(split<;>first|exact Pres.unsupported|exact Pres.boundsPanic)
  .exact Pres.boundsPanic
 .refine Pres.bind Pres.stuck λq=>?_
  obtain⟨base,len,elem⟩:=q;dsimp only;refine Pres.underlying.bind λu2=>?_
  split
  .split
   .exact Pres.sizeOf.bind λ_=>Pres.pure _
   .split<;>(split<;>first|exact Pres.unsupported|exact Pres.boundsPanic)
  .exact Pres.boundsPanic
def yh0(m:Sem Next):Prop:=∀(P:Program)(w:World)(x:Next)(w':World),m.run P w = .ok x w'->w'=w/\∃v,x = .value v
theorem Pres.v{m:Sem Value}(h:Pres m):yh0 (do Pure.pure (Next.value (<- m)):Sem Next):=λP w x w' hr=>by
 rw[w06] at hr;cases hm:m.run P w with
 |ok y w1=>rw[hm] at hr;have e:=h P w y w1 hm;subst e;rw[w05,w0j] at hr;cases hr;exact⟨rfl,_,rfl⟩
 |halt y w1=>rw[hm] at hr;cases hr
section
variable{V:TE}{N:Env V}{R:Type}{r:R}{C:Cx N.P}
theorem y1y[Dr]{s:SS V.T}{o:Oper}(h:zm8 V s o=true)(hkn:chP s.gb s.kn){A:Asg}{a:Act}{ro:Nat->Prop}{w w':World}{x:Next}(hs:ze (slD V N.P A s.gb s.sl) a ro w)(hr :(execOp a.eval o).run N.P w = .ok x w'):w'=w/\∃v,x = .value v:=by
 obtain⟨dst,op,ty,pos,aft,guard⟩:=o;unfold zm8 at h;simp only[w03] at h;obtain⟨_,h⟩:=h;split at h
 .simp only[execOp,w0j] at hr;cases hr;exact⟨rfl,_,rfl⟩
 .simp only[execOp,w0j] at hr;cases hr;exact⟨rfl,_,rfl⟩
 .exact(Pres.v (Pres.sureAddr.bind λ_=>Pres.loadVar)) _ _ _ _ hr
 .exact(Pres.v Pres.fieldAt) _ _ _ _ hr
 .exact(Pres.v Pres.indexAt) _ _ _ _ hr
 .rename_i x0;split at h
  .rename_i i off hx;have hv:=z0t V N.P (A:=A) hx hkn a ro w hs;simp only[SV.den] at hv;cases ha:A[i]? with
   |none=>rw[ha] at hv;exact hv.elim
   |some q=>rw[ha] at hv;have hv:a.eval x0 = .pointer (some ⟨q.1,off,none⟩):=hv;simp only[execOp,hv,w0j] at hr;cases hr;exact⟨rfl,_,rfl⟩
  .cases h
 .rename_i c;obtain⟨callee,as,ts⟩:=c;simp only at h;split at h
  .rename_i us hus;rw[cond_eq_ite] at h;split at h
   rotate_left
   .cases h
   .rename_i hb;obtain⟨e1,e2⟩:=zih (N:=N) (A:=A) hkn hus a ro w hs;have hint:∀y∈(as.map a.eval).toList,IntV y:=by
     intro y hy;rw[Array.toList_map] at hy;obtain⟨i,hi⟩:=w3o hy;have hlt:=(w02.1 hi).1;rw[w0x] at hlt;have hu:i<us.length:=e1 ▸ hlt;obtain⟨z,hz⟩:∃z,us[i]? = some z:=⟨us[i],w09 hu⟩;have hzi:=w0g.1 hb z (w12 hz);have hden:∀(l:List (SV V.T))(i:Nat),l[i]? = some z->(denV V N.P A l)[i]? = some (z.den V N.P A):=by
      intro l
      induction l with
      |nil=>intro i h;simp at h
      |cons u l ih=>intro i h;cases i with
       |zero=>simp at h;subst h;rfl
       |succ i=>simp at h;simpa[denV] using ih i h
     have:=e2 i _ (hden us i hz);rw[w1q,hi] at this;cases z with
     |int k n=>exact⟨k,n,this⟩
     |_=>simp at hzi
    have hfold:∀{f:Value->Value->Sem Value},(∀k x j y,∃v,IntV v/\f (.int k x) (.int j y)=Pure.pure v)->Pres (match (as.map a.eval).toList with
      | [] => Go.stuck "min: at least one argument expected"
      |x::rest=>rest.foldlM f x)/\Pres (match (as.map a.eval).toList with
      | [] => Go.stuck "max: at least one argument expected"
      |x::rest=>rest.foldlM f x):=by
     intro f hf;cases hl :(as.map a.eval).toList with
     |nil=>exact⟨Pres.stuck,Pres.stuck⟩
     |cons x l=>
      rw[hl] at hint;have:=Pres.fold hf l x (hint x (w0l ..)) λy hy=>hint y (w0h _ hy)
      exact⟨this,this⟩
    split at h
    .simp only at *;simp only[execOp,Go.resolve,w06,w0j,w05] at hr;exact(Pres.v (hfold (f:=Builtin.min2) λk x j y=>⟨_,⟨_,_,rfl⟩,rfl⟩).1) _ _ _ _ hr
    .simp only at *;simp only[execOp,Go.resolve,w06,w0j,w05] at hr;exact(Pres.v (hfold (f:=Builtin.max2) λk x j y=>⟨_,⟨_,_,rfl⟩,rfl⟩).2) _ _ _ _ hr
    .cases h
  .cases h
 .cases h
theorem zw9{s:SS V.T}{o:Oper}(h:zm8 V s o=true):o.guard=none:=by unfold zm8 at h;simp only[w03,w2z] at h;exact h.1
theorem y6p{s:SS V.T}{o:Oper}(h:zm8 V s o=true):∀c,o.op≠.defer c:=by intro c e;unfold zm8 at h;rw[e] at h;simp at h
theorem y07[Dr](hN:z4t V N){acts:List GA}{ops:Array Oper}{K:SS V.T->Option R}{Q:Exit->Act->World->Prop}{w:World}(hK:∀s a,K s=some r->SatS V C acts s a w->Q .normal a w):
  ∀(os:List Oper)(s:SS V.T)(a:Act),y6a V N os s K=some r->SatS V C acts s a w->wpStill N.P ops w (λa=>Q .normal a w) os a
 | [],s,a,h,hs=>hK s a h hs
 |o::os,s,a,h,hs=>by
  unfold y6a at h;cases hst:zm8 V s o with
  |false=>rw[hst] at h;cases h
  |true=>
   rw[hst] at h;simp only[cond_true] at h;have hq:=(zjm (rd:=none) hN h (λp hp=>by simp at hp) hs (next:=λa' w'=>w'=w->wpStill N.P ops w (λa=>Q .normal a w) os a') (Q:=λ_ _ _=>False) λs2 v0 w' hk hs2 e=>by subst e;exact y07 hN hK os s2 _ hk hs2).1 trivial;obtain⟨_,hq⟩:=hq;rw[Oper.semAt_eq _ _ _ (y6p hst)] at hq;obtain⟨hd,hn,hkn,hgb,A,ro,S,hl,hw,hev,hsl,hstk⟩:=hs;have hp:=λx w'=>y1y (N:=N) (x:=x) (w':=w') hst hkn hsl
   unfold wpStill;simp only[Region.wanted,zw9 hst,if_true];unfold Oper.still;generalize (execOp a.eval o).run N.P w=res at hq hp;cases res with
   |ok x w'=>obtain⟨e,v,rfl⟩:=hp x w' rfl;subst e;rw[Oper.stillUpon_value];exact hq rfl
   |halt x w'=>cases x<;>exact hq.elim
theorem zhf{rd:Option Nat}{P:Program}{md:Region.Mode}{ops:Array Oper}{Q:Exit->Act->World->Prop}(hQ:∀a w,¬Q .outgrown a w)(hnd:∀(i:Nat)o,ops[i]? = some o->∀c,o.op≠.defer c):∀(fuel:Nat)(listed:Array Bool)(a:Act)(w:World),
  wpAny P md ops Q fuel listed a w->wpAnyIn (fz rd) 0 P md ops Q fuel listed a w
 |0,_,_,_,h=>h
 |fuel+1,listed,a,w,h=>⟨h.1,λi hi=>by
  have h1:=h.2 i hi;unfold wpOp at h1;unfold wpOpIn;split
  .rename_i ho;rw[ho] at h1;exact zhf hQ hnd fuel _ a w h1
  .rename_i o ho;rw[ho] at h1;simp only at h1;split
   .rename_i hw;rw[if_pos hw] at h1;rcases h1 with h1|h1
    .exact Oper.wp_fz (hnd i o ho) (Oper.wp_mono (λa' w'=>zhf hQ hnd fuel _ a' w') h1)
    .obtain⟨_,a0,w0,h2⟩:=h1;exact(hQ _ _ h2).elim
   .rename_i hw;rw[if_neg hw] at h1;exact⟨λ_ _=>trivial,zhf hQ hnd fuel _ _ w h1⟩⟩
theorem SatS.drawn[Dr]{acts:List GA}{s:SS V.T}{a:Act}{w:World}(h:SatS V C acts s a w)(k:Nat)(hk:w.drawn<=k):SatS V C acts s a { w with drawn:=k }:=by obtain⟨hd,hn,hkn,hgb,A,ro,S,hl,hw,hev,hsl,hst⟩:=h;have he:Evo C.base ro w ro { w with drawn:=k }:=⟨λ_ h=>h,λ_ _=>rfl,λ_ h=>.inl h⟩;exact⟨hd,hn,hkn,hgb,A,ro,S,hl,hw.drawn k hk,hev.trans he,hsl.evo he,hst.ext (AExt.refl A) he⟩
theorem yag[Dr](hN:z4t V N){rd:Option Nat}{id:Nat}{acts:List GA}{ops:Array Oper}{K:KX V R}{Q:Exit->Act->World->Prop}(hK:∀e s a w,K e s=some r->SatS V C acts s a w->Q e a w)(hm:N.P.follows .mixedOrders=true)(hB:Region.lexB .any ops=true)(hk:ops.toList.all yd9=true)
  {s:SS V.T} {a:Act} {w:World} (h:y6a V N ops.toList s (λs=>K .normal s)=some r) (hs:SatS V C acts s a w) :(Code.region id ops true).wpIn (fz rd) 0 N.P Q a w:=by
 refine wpIn_mono (Q:=λe a w=>e = .normal/\Q .normal a w) (wpIn_region_any hm ?_) (by rintro e a w ⟨rfl,h⟩;exact h);refine zhf (λa w h=>by cases h.1) (λi o ho c e=>?_) _ _ _ _ (wpAny_of_still (Q:=λa'=>Q .normal a' { w with drawn:=w.drawn+1 }) (λa h=>⟨rfl,h⟩) _ _ _ ?_)
 .have:=w0g.1 hk o (w12 (by rw[w3a];exact ho))
  unfold yd9 at this;rw[e] at this;cases this
 .simp only[Region.lexB,w03] at hB;have h2:=y07 (ops:=ops) hN (w:={ w with drawn:=w.drawn+1 }) (Q:=Q) (λs a h hs=>hK .normal s a _ h hs) ops.toList s a h (hs.drawn _ (w44 _));have:=wpAnyS_lex (md:=.any) hB.1 ops.toList 0 (Array.replicate ops.size false) a (by simp) (by simpa using hB.2) h2;simpa using this
end
end Px
end
section
namespace Px
open Go Go.RowKit
set_option linter.unusedSectionVars false
theorem zvl{α:Type}{f g:α->α}: ∀{l:List α}{j:Nat}{a:α},l[j]? = some a->f a=g a->l.modify j f=l.modify j g
 | [],j,a,h,_=>by simp at h
 |b::l,0,a,h,e=>by simp only[w1z,w00] at h;subst h;simp[List.modify_zero_cons,e]
 |b::l,j+1,a,h,e=>by simp only[w20] at h;simp[List.modify_succ_cons,zvl h e]
theorem zwr:∀{l:List MapEntry}{j:Nat}{x:MapEntry},(l.map (·.born)).Nodup->l[j]? = some x->l.findIdx? (λe=>((e.born:Nat):Int)==((x.born:Nat):Int))=some j
 | [],j,x,_,h=>by simp at h
 |a::l,0,x,_,h=>by simp only[w1z,w00] at h;subst h;simp[List.findIdx?_cons]
 |a::l,j+1,x,hn,h=>by
  simp only[w20] at h;simp only[w0e,w1x] at hn;have hne:a.born≠x.born:=λe1=>hn.1 (w0a.2 ⟨x,w12 h,e1.symm⟩)
  have hb :(((a.born:Nat):Int)==((x.born:Nat):Int))=false:=by simp only[beq_eq_false_iff_ne,ne_eq,Int.natCast_inj];exact hne
  rw[List.findIdx?_cons,hb];simp[zwr hn.2 h]
theorem y47(xs:Array MapEntry)(p:MapEntry->Bool):xs.findIdx? p=xs.toList.findIdx? p:=by cases xs;simp
theorem zrc{α:Type}(f:α->α)(a:α):∀l:List α,(l++[a]).modify l.length f=l++[f a]
 | []=>rfl
 |b::r=>by simp[List.modify_succ_cons,zrc f a r]
section
variable{κ ν:Type}
theorem y3o[BEq κ]{k:κ}: ∀{ks:List κ}{es:List MapEntry}{i j:Nat}{u:Value},fnd k ks es i=some (j,u)->i<=j/\∃en,es[j-i]? = some en/\en.val=u
 | [],es,i,j,u,h=>by cases es<;>simp[fnd] at h
 |a::ks,[],i,j,u,h=>by simp[fnd] at h
 |a::ks,e::es,i,j,u,h=>by
  unfold fnd at h;cases hk:k==a with
  |true=>rw[hk] at h;simp only[cond_true,w00,w0f] at h;obtain⟨rfl,rfl⟩:=h;exact⟨w0s _,e,by simp,rfl⟩
  |false=>rw[hk] at h;simp only[cond_false] at h;obtain⟨h1,en,h2,h3⟩:=y3o h;refine⟨by omega,en,?_,h3⟩;rw[show j-i =(j-(i+1))+1 by omega];simpa using h2
variable{e:κ->List Int}{eK:κ->Value}{eV:ν->Value}
theorem CM.ent{P:Program}{t kt et:TypeId}{w:World}{b:Nat}{m:List (κ×ν)}(hk:KeyC P kt e eK)(ht:P.underlying t=some (.map kt et))(h:CM w b e eK eV m)(k:κ)(d:ν)(hz:tz1 P et=some (eV d))(hb:b<w.heap.size):
  ∃(es:Array MapEntry)(c:Nat)(v0:Value)(st j:Nat),(Instr.mapEntry t (.map (some b)) (eK k)).run P w = .ok (.tuple #[v0,goInt st]) (setB w b (.map es c))/\CM (setB w b (.map es c)) b e eK eV (cset e m k ((cget e m k).getD d))/\
   es.findIdx? (λx=>((x.born:Nat):Int)==((st:Nat):Int))=some j/\∀v(w':World),w'.heap[b]? = some (.map (es.modify j λx=>{ x with val:=eV v }) c)->CM w' b e eK eV (cset e m k v):=by
 letI:BEq κ:=bqC e
 obtain⟨h0,es,c,m',h1,h2,h3,h4⟩:=h;have hf:=hk.find w k _ _ (zsw h4);have hn':=h0.ndp.perm h3.symm;have hp:∀v,((k,v)::cdel e m' k).Perm (cset e m k v):=λv=>((zij hn' h3 k).cons _).trans (zim h0 k v).symm
 cases hfd : @fnd κ (bqC e) k (m'.map (·.1)) es.toList 0 with
 |none=>
  rw[hfd] at hf;have hn:=@zj3 κ ν (bqC e) eK eV k _ _ _ h4 hfd;have hg:cget e m k=none:=by rw[zik h0.ndp h3.symm,<- zvk];exact hn
  have hd:cdel e m' k=m':=by rw[<- zvj];exact @zje κ ν (bqC e) k _ hn
  have upd:∀v(w':World),w'.heap[b]? = some (.map (es.push { key:=eK k,val:=eV v,born:=c }) (c+1))->CM w' b e eK eV (cset e m k v):=λv w' hw=>by
   have hp':=hp v;rw[hd] at hp';refine⟨h0.set k v,_,_,m'++[(k,v)],hw,?_,(w4a (l₁:=m') (l₂:=[(k,v)])).trans hp',?_⟩
   .rw[w33];exact h2.push _ _
   .rw[w33,w25,h4,w25];rfl
  refine⟨es.push { key:=eK k,val:=eV d,born:=c },c+1,eV d,c,es.size,?_,?_,?_,λv w' hw=>upd v w' ?_⟩
  .simp only[Instr.mapEntry,w06,run_underlying ht,w05,w0y h1,hk.check,hf,zlq hz,w2l _ h1];rfl
  .rw[hg];exact upd d _ (z3h w b _ hb)
  .rw[y47];refine zwr (x:={ key:=eK k,val:=eV d,born:=c }) ?_ (by simp);rw[w33];exact(h2.push _ _).nd
  .rw[hw];congr 2;apply w4g;rw[w1s,w33,w33,<- w1y];rw[zrc]
 |some q=>
  obtain⟨j',u⟩:=q;rw[hfd] at hf;obtain⟨_,⟨v,hv,hu⟩,⟨k',hk',en,he,hke⟩,h5⟩:=@zj4 κ ν (bqC e) eK eV k _ _ _ _ _ h4 hfd;obtain⟨_,en2,he2,hval⟩:=@y3o κ (bqC e) k _ _ _ _ _ hfd;rw[w39] at he he2 h5;rw[he] at he2;cases he2;have he':es[j']? = some en:=by simpa using he
  have hg:cget e m k=some v:=by rw[zik h0.ndp h3.symm,<- zvk];exact hv
  have upd:∀v(w':World),w'.heap[b]? = some (.map (es.modify j' λx=>{ x with key:=eK k,val:=eV v }) c)->CM w' b e eK eV (cset e m k v):=λv w' hw=>by
   refine⟨h0.set k v,_,_,@mset κ ν (bqC e) m' k v,hw,?_,(y4u m' k v).trans (hp v),?_⟩
   .rw[w1s];exact h2.mod λ_=>rfl
   .rw[w1s];exact h5 v
  refine⟨es.modify j' λx=>{ x with key:=eK k },c,u,en.born,j',?_,?_,?_,λv w' hw=>upd v w' ?_⟩
  .simp only[Instr.mapEntry,w06,run_underlying ht,w05,w0y h1,hk.check,hf,he',w0u,w1e,hke,hk.stays w k k' hk',w2l _ h1];rfl
  .rw[hg];refine upd v _ ((z3h w b _ hb).trans ?_);congr 2;apply w4g;rw[w1s,w1s];exact zvl he (by rw[hval.trans hu])
  .rw[y47];refine zwr (x:={ en with key:=eK k }) ?_ ?_
   .rw[w1s];exact(h2.mod (f:=λx=>{ x with key:=eK k }) λ_=>rfl).nd
   .rw[w1s,List.getElem?_modify];simp[he]
  .rw[hw];congr 2;apply w4g;rw[w1s,w1s,w1s,List.modify_modify_eq];rfl
end
section
variable{κ ν:Type}{e:κ->List Int}{eK:κ->Value}{eV:ν->Value}{m:List (κ×ν)}{b:Nat}{S r:Nat->Prop}{w:World}
def entm(b:Nat)(e:κ->List Int)(eK:κ->Value)(eV:ν->Value)(m:List (κ×ν))(k:κ)(d:ν)(st:Nat):HP:=
 ⟨λS r w=>S b/\(nmp b e eK (plI eV) (cset e m k ((cget e m k).getD d)) none).h S r w/\∃(es:Array MapEntry)(c j:Nat),w.heap[b]? = some (.map es c)/\es.findIdx? (λx=>((x.born:Nat):Int)==((st:Nat):Int))=some j/\
   ∀v(r':Nat->Prop)(w':World),w'.heap[b]? = some (.map (es.modify j λx=>{ x with val:=eV v }) c)->(nmp b e eK (plI eV) (cset e m k v) none).h S r' w',
  λh1 h2 h3 h=>by obtain⟨a,h4,es,c,j,x1,x2,x3⟩:=h;exact⟨a,(nmp b e eK (plI eV) (cset e m k ((cget e m k).getD d)) none).wk h1 h2 h3 h4,es,c,j,(h3 _ a).trans x1,x2,x3⟩⟩
theorem ydg{P:Program}{t kt et:TypeId}{d:ν}(hk:KeyC P kt e eK)(ht:P.underlying t=some (.map kt et))(hz:tz1 P et=some (eV d))(h :(nmp b e eK (plI eV) m none).h S r w)(k:κ)(hb:b<w.heap.size):
  ∃(es:Array MapEntry)(c:Nat)(v0:Value)(st:Nat),(Instr.mapEntry t (.map (some b)) (eK k)).run P w = .ok (.tuple #[v0,goInt st]) (setB w b (.map es c))/\(entm b e eK eV m k d st).h S r (setB w b (.map es c)):=by
 obtain⟨t',Sk,hm,hS,hc,hh,hE,hf,hg⟩:=h;have h0:=hc.1;obtain⟨es,c,v0,st,j,hrun,hnow,hidx,hall⟩:=hc.ent hk ht k (d,eV d) (hz:tz1 P et=some ((d,eV d):ν×Value).2) hb;have hI:∀p∈t',p.2.2=eV p.2.1:=λp hp=>hE p hp (by simp)
 have mk:∀(v:ν)(r':Nat->Prop)(w':World),CM w' b e eK (·.2) (cset e t' k (v,eV v))->(nmp b e eK (plI eV) (cset e m k v) none).h S r' w':=λv r' w' hc'=>by
  refine⟨cset e t' k (v,eV v),Sk,?_,hS,hc',(λ_ _ q=>by cases q),?_,hf,hg⟩
  .rw[<- hm];exact zs6 (λp:ν×Value=>p.1) t' k (v,eV v)
  .intro p hp _;show p.2.2=eV p.2.1;rcases(z2z h0).1 hp with rfl|⟨hp,_⟩
   .rfl
   .exact hI p hp
 refine⟨es,c,v0,st,hrun,hS,mk _ r _ ?_,es,c,j,z3h w b _ hb,hidx,λv r' w' hw=>mk v r' w' (hall (v,eV v) w' hw)⟩;have hq :(cget e t' k).getD (d,eV d) =((cget e m k).getD d,eV ((cget e m k).getD d)):=by
  rw[zqz hm];cases hq:cget e t' k with
  |none=>rfl
  |some q=>obtain⟨a,ha,_⟩:=zab hq;have:=hI _ ha;show q =(q.1,eV q.1);rw[<- this]
 rw[<- hq];exact hnow
variable{P:Program}{C:Cx P}{s:St}{dst:Option Tmp}{ty:TypeId}{pos:String}{after:Array Edge}{guard:Option (Nat×Bool)}{K:VP->List HP->Prop}
theorem OpT.storeBX[Dr]{ζ:Type}{o:Oper}(i:Nat)(H:ζ->HP)(x:ζ->VP)(hi:i<s.objs.length)
  (hr:∀a r S w,WInv C.w0 C.base s.objs r S w->ze s.slots a r w->∃b ob v z,S i b/\(execOp a.eval o).run P w = .ok (.value v) (setB w b ob)/\(H z).h (S i) r (setB w b ob)/\∀w',(x z).h r w' v)
  (k:∀z,K (x z) (s.objs.set i (H z))):OpT C o s K:=by
 intro a w r S Q hd hn hw hs;obtain⟨b,ob,v,z,hS,hrun,hH,hx⟩:=hr a r S w hw hs;unfold Oper.wp;rw[hrun,Oper.upon_value];have hblk:∀b',b'<w.heap.size->¬S i b'->(setB w b ob).heap[b']? = w.heap[b']?:=λb' _ hb'=>z1e w b b' ob (λe=>hb' (e ▸ hS))
 exact⟨v,r,_,x z,_,rfl,hw.evo_repl i hblk,hw.repl i (H z) (S i) hi rfl ⟨rfl,w0s _⟩ rfl (by simp[setB]) hblk (λb' hb'=>by obtain⟨h1,h2,h3,h4⟩:=hw.own i b' hb';exact⟨h2,by simpa[setB] using h3,h4,λj hj hS'=>hj (hw.apart j i b' hS' hb')⟩) hH,hx _,k z⟩
theorem zxt[Dr]{t kt et:TypeId}{x i:Operand}{k:κ}{d:ν}(j:Nat)(hk:KeyC P kt e eK)(ht:P.underlying t=some (.map kt et))(hz:tz1 P et=some (eV d))(ho:s.objs[j]? = some (nmp b e eK (plI eV) m none))
  (hx:Ev s x (eqv (.map (some b)))) (hi:Ev s i (eqv (eK k))) (kk:∀st,K (tupv [topv,eqv (goInt (st:Nat))]) (s.objs.set j (entm b e eK eV m k d st))):OpT C ⟨dst,.mapEntry t x i,ty,pos,after,guard⟩ s K:=
 .storeBX j (λst=>entm b e eK eV m k d st) (λst=>tupv [topv,eqv (goInt (st:Nat))]) (w02.1 ho).1 (λa r S w hw hs=>by
  have h1:=hx a r w hs;have h2:=hi a r w hs;simp only[eqv] at h1 h2;have hn:=hw.obj j _ ho;have hS:S j b:=by obtain⟨_,_,_,hS,_⟩:=hn;exact hS
  obtain⟨_,_,hlt,hr⟩:=hw.own j b hS;obtain⟨es,c,v0,st,hrun,hH⟩:=ydg hk ht hz hn k hlt;refine⟨b,.map es c,.tuple #[v0,goInt st],st,hS,?_,hH,λw'=>tup2 trivial rfl⟩;simp only[execOp,h1,h2,w06,hrun,w05];rfl) kk
theorem zt8[Dr]{t:TypeId}{x i y:Operand}{k:κ}{d v:ν}{st:Nat}(j:Nat)(ho:s.objs[j]? = some (entm b e eK eV m k d st))
  (hx:Ev s x (eqv (.map (some b)))) (hi:Ev s i (eqv (goInt (st:Nat)))) (hy:Ev s y (eqv (eV v))) (kk:K topv (s.objs.set j (nmp b e eK (plI eV) (cset e m k v) none))):OpT C ⟨none,.entryStore t x i y,ty,pos,after,guard⟩ s K:=
 .storeB rfl j _ (w02.1 ho).1 (λa r S w hw hs=>by
  have h1:=hx a r w hs;have h2:=hi a r w hs;have h3:=hy a r w hs;simp only[eqv] at h1 h2 h3;obtain⟨hS,_,es,c,j',x1,x2,x3⟩:=hw.obj j _ ho;obtain⟨_,_,hlt,hr⟩:=hw.own j b hS;refine⟨b,.map (es.modify j' λx=>{ x with val:=eV v }) c,hS,?_,x3 v r _ (z3h w b _ hlt)⟩;have hrun :(Instr.entryStore t (.map (some b)) (goInt st) (eV v)).run P w = .ok () (setB w b (.map (es.modify j' λx=>{ x with val:=eV v }) c)):=by simp only[Instr.entryStore,w06,w0y x1,w05,asInt,asIntOf,goInt,w0j,x2,w2l _ x1];rfl
  simp only[execOp,h1,h2,h3,w06,hrun,w05];rfl) kk
theorem zub(e:κ->List Int)(k:κ)(v:ν):∀m:List (κ×ν),cget e (cset e m k v) k=some v
 | []=>by simp[cset,cget]
 |(a,b)::m=>by
  unfold cset;cases h :(e k==e a) with
  |true=>simp[cget]
  |false=>
   cases h2:ltI (e k) (e a) with
   |true=>simp[cget]
   |false=>simp only[cond_false];unfold cget;rw[h];exact zub e k v m
theorem y1h[Dr]{t kt et:TypeId}{x i:Operand}{k:κ}{d:ν}{st:Nat}(j:Nat)(hk:KeyC P kt e eK)(ht:P.underlying t=some (.map kt et))(hz:tz1 P et=some (eV d))(ho:s.objs[j]? = some (entm b e eK eV m k d st))
  (hx:Ev s x (eqv (.map (some b)))) (hi:Ev s i (eqv (eK k))):OpQ C ⟨dst,.lookup t x i false,ty,pos,after,guard⟩ s (eqv (eV ((cget e m k).getD d))):=
 .valO λa r S w hw hs=>by
  have h1:=hx a r w hs;have h2:=hi a r w hs;simp only[eqv] at h1 h2
  letI:BEq κ:=bqC e
  have hn:=(hw.obj j _ ho).2.1;obtain⟨es,clock,hc,_,f,hf,hnn,hv,_⟩:=zjh hk hn k;have hg:cget e (cset e m k ((cget e m k).getD d)) k=some ((cget e m k).getD d):=zub e k _ m;obtain⟨j',v,hj,hI⟩:=hv _ hg;obtain⟨_,hI⟩:=hI (by simp);rw[hj] at hf;refine⟨v,?_,hI⟩;simp only[execOp,h1,h2,Instr.lookup,w06,run_underlying ht,w05,w0y hc,w0j,hk.check,hf];simp
end
end Px
end
section
namespace Px
open Go Go.RowKit
section
variable{V:TE}{N:Env V}{R:Type}{r:R}
theorem zpo{tab:Tab}{ok:Nat->Bool}{s s':z8a}{m:List (Nat×VP)}(h:∀t A,s t=some A->z18 tab ok s' m t=some A):∀(l:List (Nat×VP))t A,z18 tab ok s l t=some A->z18 tab ok s' (l++m) t=some A
 | [],t,A,hA=>h t A hA
 |(q,x)::l,t,A,hA=>by
  simp only[w2a,z18] at hA⊢;cases hc :(ok q&&zdq (tab.dst q) t) with
  |true=>rw[hc] at hA;exact hA
  |false=>rw[hc] at hA;exact zpo h l t A hA
theorem ztf{a b:Operand}(h:y6d a b=true):a=b:=by cases a<;>cases b<;>simp[y6d] at h;subst h;rfl
theorem y3b{ops:Array Oper}{dL dB dE dX t:Nat}{x i y:Operand}(h:y3a ops=some (dL,dB,dE,dX,t,x,i,y)):5<=ops.size/\
  (∃ty pos aft,ops[ops.size-5]? = some ⟨some dL,.lookup t x i false,ty,pos,aft,none⟩)/\(∃t1 t2 ty pos aft,ops[ops.size-5+1]? = some ⟨some dB,.binOp .add t1 (.tmp dL) y t2,ty,pos,aft,none⟩)/\
  (∃ty pos aft,ops[ops.size-5+2]? = some ⟨some dE,.mapEntry t x i,ty,pos,aft,none⟩)/\(∃ty pos aft,ops[ops.size-5+3]? = some ⟨some dX,.extract (.tmp dE) 1,ty,pos,aft,none⟩)/\
  ∃t3 ty pos aft,ops[ops.size-5+4]? = some ⟨none,.entryStore t3 x (.tmp dX) (.tmp dB),ty,pos,aft,none⟩:=by
 unfold y3a at h;split at h
 .rename_i hl;rw[Bool.cond_eq_ite] at h;split at h
  .rename_i hc;simp only[w03] at hc;obtain⟨⟨⟨⟨⟨⟨⟨⟨c1,c2⟩,c3⟩,c4⟩,c5⟩,c6⟩,c7⟩,c8⟩,c9⟩:=hc;have e1:=w01 c1;have e2:=w01 c2;have e3:=w01 c3;have e4:=w01 c4;have e5:=w01 c5;have e6:=ztf c6;have e7:=ztf c7;have e8:=ztf c8;have hk:∀k,ops[ops.size-5+k]? =(ops.toList.drop (ops.size-5))[k]?:=λk=>by rw[w1l];simp
   rw[hl] at hk;cases h;subst e1;subst e2;subst e3;subst e4;subst e5;subst e6;subst e7;subst e8;exact⟨w0p c9,⟨_,_,_,hk 0⟩,⟨_,_,_,_,_,hk 1⟩,⟨_,_,_,hk 2⟩,⟨_,_,_,hk 3⟩,_,_,_,_,hk 4⟩
  .cases h
 .cases h
theorem yd5{tab:Tab}{gb:List (Nat×Bool)}{bs:Sls V.T}{es:List (DE V.T)}(h:EsOK tab gb bs es){f:Nat->Bool}{kn:Ch}{o:Operand}{v:SV V.T}(hi:isEv V (drSl V f bs es) kn o=true)(ha:evO (drSl V (λ_=>true) bs es) kn o=some v):
  evO (drSl V f bs es) kn o=some v:=by
 unfold isEv at hi;cases o with
 |tmp t=>
  simp only[evO] at hi ha⊢;cases hl:lk (drSl V f bs es) t with
  |none=>rw[hl] at hi;simp at hi
  |some p=>rw[y89 h f hl] at ha;exact ha
 |_=>exact ha
theorem y37{tab:Tab}{gb:List (Nat×Bool)}{bs:Sls V.T}{es:List (DE V.T)}(h:EsOK tab gb bs es){f:Nat->Bool}{e:DE V.T}(he:e∈es)(hf:f e.1=true):lk (drSl V f bs es) e.2.1=some e.2.2:=by
 obtain⟨y,hy⟩:∃y,lk (drSl V f bs es) e.2.1=some y:=by refine z9c (x:=e.2.2) ?_;unfold drSl;exact w1k _ (w0a.2 ⟨e,w0i.2 ⟨he,hf⟩,rfl⟩)
 rw[hy];rcases zae hy with⟨e',he',_,h2⟩|hb
 .have:=h.inj e he e' he' (by rw[h2])
  subst this;rw[h2]
 .rcases h.bs e he with q|⟨q,_⟩
  .rw[hb] at q;cases q
  .rw[hb] at q;cases q;rfl
theorem zpn{tab:Tab}{ok:Nat->Bool}{s:z8a}{t:Nat}: ∀{l:List (Nat×VP)},(∀p∈l,tab.dst p.1≠some t)->z18 tab ok s l t=s t
 | [],_=>rfl
 |(q,x)::l,h=>by
  have h1:zdq (tab.dst q) t=false:=by
   cases hc:zdq (tab.dst q) t with
   |false=>rfl
   |true=>exact absurd (zoq.1 hc) (h (q,x) (w0l ..))
  simp only[z18,h1,Bool.and_false,cond_false];exact zpn λp hp=>h p (w0h _ hp)
theorem zpm{tab:Tab}{ok:Nat->Bool}{s:z8a}{t:Nat}{m:List (Nat×VP)}: ∀{l:List (Nat×VP)},(∀p∈l,tab.dst p.1≠some t)->z18 tab ok s (l++m) t=z18 tab ok s m t
 | [],_=>rfl
 |(q,x)::l,h=>by
  have h1:zdq (tab.dst q) t=false:=by
   cases hc:zdq (tab.dst q) t with
   |false=>rfl
   |true=>exact absurd (zoq.1 hc) (h (q,x) (w0l ..))
  simp only[w2a,z18,h1,Bool.and_false,cond_false];exact zpm λp hp=>h p (w0h _ hp)
theorem yf7[Dr](hN:z4t V N){C:Cx N.P}{rd:Option Nat}{acts:List GA}{ops:Array Oper}{id:Nat}{K:SS V.T->Option R}{Q:Exit->Act->World->Prop}(hK:∀s a w,K s=some r->SatS V C acts s a w->Q .normal a w)
  {s:SS V.T} {a:Act} {w:World} (hm:N.P.follows .mixedOrders=true) (h:entX V N ops s K=some r) (hs:SatS V C acts s a w) :(Code.region id ops true).wpIn (fz rd) 0 N.P Q a w:=by
 unfold entX at h;split at h
 case h_2=>cases h
 rename_i dL dB dE dX t x i y hop;obtain⟨h5,⟨tyL,posL,aftL,hL⟩,⟨tb1,tb2,tyB,posB,aftB,hB⟩,⟨tyE,posE,aftE,hE⟩,⟨tyX,posX,aftX,hX⟩,tS,tyS,posS,aftS,hS⟩:=y3b hop;obtain⟨hd,hn,hkn,hgb,A,ro,S,hl,hw,hev,hsl,hst⟩:=hs;generalize hbs:y2k V ops s=bs at h;have hlk:∀{t:Nat}{x:Ch×SV V.T},lk bs t=some x->lk s.sl t=some x:=λ{t x}hx=>z9h (λk=>!isDs ops.toList k) (by unfold y2k at hbs;rw[hbs];exact hx)
 have hgb0:GbOK (⟨bs,s.gb,s.kn,s.n⟩:Fm V.T):=⟨λt g hg ch z hz=>hgb.val t g hg ch z (hlk hz),λt ch z hz=>hgb.ch t ch z (hlk hz),hgb.kn⟩;obtain⟨gb',new,x1,x2,x3,x4,x6,x7⟩:=zsb hN (C:={ C with n:=s.n,r0:=ro,wI:=w,rd:=rd,df:=a.defers }) (A:=A) (ops.toList.take (ops.size-5)) 0 s [] (λq o hq=>by
  rw[w0r] at hq;split at hq
  .simpa using hq
  .cases hq) h ⟨λe he=>absurd he w10,λe he=>absurd he w10,λe he=>absurd he w10,λe he=>absurd he w10,λe he=>absurd he w10⟩ hgb0 hkn (zpi hw)
 simp only[w0b] at x2 x3 x7;have hkn':chP gb' s.kn:=(x1.chP hgb.kn) ▸ hkn;unfold entK at x2;split at x2
 case h_2=>cases x2
 rename_i j u ky w2 hx hi hy;split at x2
 case h_2=>cases x2
 rename_i kc vc E m ho;split at x2
 case h_2=>cases x2
 rename_i et key hkt hdec;split at x2
 case h_2=>cases x2
 rename_i z kv w1 hz hv;split at x2
 case h_2=>cases x2
 rename_i val hval;rw[Bool.cond_eq_ite] at x2;split at x2
 case isFalse=>cases x2
 rename_i hc;simp only[w03,decide_eq_true_eq] at hc;obtain⟨⟨⟨hsc,hzo⟩,hkk⟩,hcc⟩:=hc;subst hkk;simp only[entC,w03,w0z,w2z] at hcc;obtain⟨⟨⟨⟨⟨⟨⟨⟨⟨⟨⟨⟨⟨⟨⟨⟨⟨⟨⟨⟨⟨⟨⟨⟨evLx,evLi⟩,evBy⟩,mBL⟩,evEx⟩,evEi⟩,mXE⟩,evSx⟩,mSB⟩,mSX⟩,chk1⟩,chk2⟩,chk3⟩,gL⟩,gB⟩,bL⟩,bB⟩,bE⟩,bX⟩,eL⟩,eB⟩,nLB⟩,nE⟩,ltE⟩,nX⟩:=hcc;have hzk:=ybm hsc hzo;subst hzk;obtain⟨kt,ht,hk⟩:=zky hkt;obtain⟨q,ha⟩:∃q,A[j]? = some q:=by
  have hj:j<A.length:=by rw[hl];exact(w02.1 ho).1
  exact⟨A[j],w09 hj⟩
 generalize hn5:ops.size-5=n5 at *;have hlt:∀i,i<(zr ops).length->∀e∈Tab.deps (zr ops) i,e<i:=λi hi e he=>by simp only[chk,w03,w0g,w1p,decide_eq_true_eq] at chk1;exact chk1.2 i hi e he
 have x7:=x7 hlt;have dLt:Tab.dst (zr ops) n5=some dL:=by rw[zia hL]
 have dBt:Tab.dst (zr ops) (n5+1)=some dB:=by rw[zia hB]
 have dXt:Tab.dst (zr ops) (n5+3)=some dX:=by rw[zia hX]
 -- all zm ones
 have hes1:EsOK (zr ops) gb' bs ((n5,dL,[],SV.int kv w1)::new):=x3.put dLt gL (.inl bL) eL (λp hp=>by cases hp);have hes2:EsOK (zr ops) gb' bs ((n5+1,dB,[],SV.int kv (kv.wrap (w1+w2)))::(n5,dL,[],SV.int kv w1)::new):=hes1.put dBt gB (.inl bB) (by rw[w3s,eB,Bool.or_false];exact nLB) (λp hp=>by cases hp);generalize hes :((n5+1,dB,[],SV.int kv (kv.wrap (w1+w2)))::(n5,dL,[],SV.int kv w1)::new:List (DE V.T))=es2 at *;have hes2':EsOK (zr ops) gb' bs ([(n5+1,dB,[],SV.int kv (kv.wrap (w1+w2))),(n5,dL,[],SV.int kv w1)]++new):=by have:=hes2;rw[<- hes] at this;exact this
 have up:∀{f:Nat->Bool}{o:Operand}{v:SV V.T},isEv V (drSl V f bs new) s.kn o=true->evO (drSl V (λ_=>true) bs new) s.kn o=some v->evO (drSl V f bs es2) s.kn o=some v:=λ{f o v}h1 h2=>by have h3:=yd5 x3 h1 h2;rw[<- hes];exact SubS.ev (s:={ s with sl:=drSl V f bs new }) (s':={ s with sl:=drSl V f bs ([(n5+1,dB,[],SV.int kv (kv.wrap (w1+w2))),(n5,dL,[],SV.int kv w1)]++new) }) ⟨λt x hx=>zsa hes2' f hx,rfl,λi x hx=>.inr hx⟩ h3
 have inB :(n5+1,dB,[],SV.int kv (kv.wrap (w1+w2)))∈es2:=by rw[<- hes];simp
 have inL :(n5,dL,[],SV.int kv w1)∈es2:=by rw[<- hes];simp
 have upB:∀{f:Nat->Bool},f (n5+1)=true->evO (drSl V f bs es2) s.kn (.tmp dB)=some (.int kv (kv.wrap (w1+w2))):=λ{f}hf=>by simp only[evO,y37 hes2 inB hf];rfl
 have upL:∀{f:Nat->Bool},f n5=true->evO (drSl V f bs es2) s.kn (.tmp dL)=some (.int kv w1):=λ{f}hf=>by simp only[evO,y37 hes2 inL hf];rfl
 -- what is known of operands
 have ev1:∀{f:Nat->Bool}{o:Operand}{v:SV V.T}(O:List HP),evO (drSl V f bs es2) s.kn o=some v->Ev ⟨slD V N.P A gb' (drSl V f bs es2),O⟩ o (v.den V N.P A):=λ{f o v}O he=>z0t V N.P (A:=A) (s:={ s with gb:=gb',sl:=drSl V f bs es2 }) he hkn'
 have hkeys :(qrOf N.P A gb' es2).map (·.1) =(n5+1)::n5::new.map (·.1):=by rw[<- hes];simp[qrOf]
 have hbn:∀{t:Nat}{B:VP},slD V N.P A gb' bs t=some B->lk bs t≠none:=λ{t B}hB hn0=>by simp only[slD,hn0,w2t] at hB;cases hB
 have nEq:∀p∈qrOf N.P A gb' es2,Tab.dst (zr ops) p.1≠some dE:=λp hp hq=>by have:=w0g.1 nE p.1 (by rw[<- hkeys];exact w1k _ (w0a.2 ⟨p,hp,rfl⟩));exact zit this dE hq rfl
 have nXq:∀p∈qrOf N.P A gb' es2,Tab.dst (zr ops) p.1≠some dX:=λp hp hq=>by have:=w0g.1 nX p.1 (by rw[<- hkeys];exact w0a.2 ⟨p,hp,rfl⟩);exact zit this dX hq rfl
 have neXE:dX≠dE:=λe=>by have:=w0g.1 nE (n5+3) (by simp);exact zit this dX dXt (by rw[e])
 have upS:∀{f:Nat->Bool}(X Y:VP){t:Nat}{B:VP},slD V N.P A gb' (drSl V f bs es2) t=some B->z18 (zr ops) f ((slD V N.P A gb' bs).set (some dE) X) (qrOf N.P A gb' es2++[(n5+3,Y)]) t=some B:=λ{f}X Y{t B}hB=>by
  rw[<- z3x (tab:=zr ops) f hes2.dst] at hB;refine zpo (λt B hB=>?_) _ _ _ hB;have hnX:t≠dX:=λe=>hbn hB (e ▸ bX)
  have hnE:t≠dE:=λe=>hbn hB (e ▸ bE)
  rw[zpn (λp hp hq=>by simp only[w0v] at hp;subst hp;rw[dXt] at hq;cases hq;exact hnX rfl)];show (bif Nat.beq t dE then some X else slD V N.P A gb' bs t)=some B;rw[znn hnE];exact hB
 have ev2:∀{f:Nat->Bool}{o:Operand}{v:SV V.T}(X Y:VP)(O:List HP),evO (drSl V f bs es2) s.kn o=some v->Ev ⟨z18 (zr ops) f ((slD V N.P A gb' bs).set (some dE) X) (qrOf N.P A gb' es2++[(n5+3,Y)]),O⟩ o (v.den V N.P A):=λ{f o v}X Y O he a r w hs=>ev1 O he a r w λt B hB=>hs t B (upS X Y hB)
 have kd:∀{s0:St} ,Ev s0 i (u.den V N.P A)->Ev s0 i (eqv (V.kv kc key)):=λ{s0}he=>(he.ent' (z4h V N.P hdec)).ent' (zrp hk)
 have od:∀{s0:St},q.2 = .map (some q.1)->Ev s0 x ((SV.own j:SV V.T).den V N.P A)->Ev s0 x (eqv (.map (some q.1))):=λ{s0}hq he=>by simp only[SV.den,ha] at he;rw[<- hq];exact he
 have vlL:eqv (V.kv vc ((cget (V.kl kc) m key).getD (V.z vc))) =(SV.int kv w1:SV V.T).den V N.P A:=by rw[<- hv,z30,zyg V hsc]
 have gqB:∀{C2:Cx N.P}(s0:St),Ev s0 (.tmp dL) ((SV.int kv w1:SV V.T).den V N.P A)->Ev s0 y ((SV.int kv w2:SV V.T).den V N.P A)->
   GQ C2 (zr ops) ⟨some dB,.binOp .add tb1 (.tmp dL) y tb2,tyB,posB,aftB,none⟩ s0 (denE V N.P A gb' ([],SV.int kv (kv.wrap (w1+w2)))):=λ{C2}s0 h1 h2=>by
  show OpQ C2 _ _ _;exact yfy (C:=C2) h1 h2
 -- the values after the entry is made
 have hbs':ze (slD V N.P A gb' bs) a ro w:=by
  rw[<- zw0 x1 hgb0];intro t X hX;simp only[slD] at hX;cases hb:lk bs t with
  |none=>rw[hb] at hX;cases hX
  |some e=>rw[hb] at hX;exact hsl t X (by simp only[slD,hlk hb];exact hX)
 refine zwz (C:={ C with n:=s.n,r0:=ro,wI:=w,rd:=rd,df:=a.defers }) (s:=⟨slD V N.P A gb' bs,obD V N.P A A s.ob⟩) (QR:=qrOf N.P A gb' es2) (tab:=zr ops) hm ?_ ⟨rfl,hn,ro,S,hw,Evo.refl _ _ _,hbs'⟩;refine Reg.introG [n5+2] [] rfl (by rw[hkeys];exact chk1) (zl5 hes2) ?_ ⟨⟨_,hE,?_,?_,?_⟩,trivial⟩ ?_
 .refine ze3 λp hp _=>?_
  simp only[qrOf,w0a] at hp;obtain⟨e,he,rfl⟩:=hp;rw[<- hes] at he;rcases w08.1 he with rfl|he
  .refine⟨_,hB,?_⟩;rw[z3x _ hes2.dst];exact gqB _ (ev1 _ (upL mBL)) (ev1 _ (up evBy hy))
  .rcases w08.1 he with rfl|he
   .refine⟨_,hL,?_⟩;rw[z3x _ hes2.dst];show OpQ _ _ _ ((SV.int kv w1:SV V.T).den V N.P A);rw[<- vlL];refine zp1 (s:={ s with gb:=gb',sl:=drSl V (memB (Tab.deps (zr ops) n5)) bs es2 }) ha ho λhq _=>?_
    have hm2:=zvi (P:=N.P) (s:={ s with gb:=gb',sl:=drSl V (memB (Tab.deps (zr ops) n5)) bs es2 }) ha ho;rw[zm1 hsc] at hm2;exact zvm j (z8q hk) ht hz hm2 (od hq (ev1 _ (up evLx hx))) (kd (ev1 _ (up evLi hi)))
   .obtain⟨o,h1,h2⟩:=x7 e he;refine⟨o,h1,?_⟩;have hlo:=x6 e he;have hle:e.1<(zr ops).length:=by rw[zf1 rfl];exact(w19.1 h1).1
    have hq2:qrOf N.P A gb' es2 = [(n5+1,denE V N.P A gb' ([],SV.int kv (kv.wrap (w1+w2)))),(n5,denE V N.P A gb' ([],SV.int kv w1))]++qrOf N.P A gb' new:=by rw[<- hes];rfl
    have hno:∀k,n5<=k->memB (Tab.deps (zr ops) e.1) k=false:=λk hk=>by
     cases hmm:memB (Tab.deps (zr ops) e.1) k with
     |false=>rfl
     |true=>have:=hlt e.1 hle k (z06.1 hmm);have h3:=List.length_take_le n5 ops.toList;omega
    rw[hq2,zl9]
    .exact h2
    .intro p hp;simp only[w08,w10,or_false] at hp;rcases hp with rfl|rfl
     .exact hno _ (by simp)
     .exact hno _ (w0s _)
 .simpa[z6m] using ltE
 .rw[hkeys];refine w0g.2 λk hk'=>w0g.1 nE k (w1k _ hk')
 .show OpT _ _ _ _;rw[z3x _ hes2.dst];refine zt4 (s:={ s with gb:=gb',sl:=drSl V (memB (Tab.deps (zr ops) (n5+2))) bs es2 }) ha ho λhq hs' hget=>?_
  rw[zm1 hsc] at hget⊢;refine zxt (d:=V.z vc) j (z8q hk) ht hz hget (od hq (ev1 _ (up evEx hx))) (kd (ev1 _ (up evEi hi))) λst=>?_
  generalize hX1:tupv [topv,eqv (goInt (st:Nat))]=X1;generalize hY1:eqv (goInt (st:Nat))=Y1;have hnd:=chk2;simp only[chk,w03] at hnd;have hnd:=zao hnd.1.1.1.1.2;have n3:∀k∈(n5+1)::n5::new.map (·.1),k≠n5+3:=λk hk' e=>by subst e;exact(w43.1 hnd).2.2 _ hk' _ (by simp) rfl
  refine⟨[(n5+3,Y1)],?_,?_⟩
  .rw[hkeys];simp only[w1b,List.all_nil,Bool.and_true,w0z];cases hmm:memB ((n5+1)::n5::new.map (·.1)) (n5+3) with
   |false=>rfl
   |true=>exact absurd rfl (n3 _ (z06.1 hmm))
  have hkeys2 :(qrOf N.P A gb' es2++[(n5+3,Y1)]).map (·.1) =((n5+1)::n5::new.map (·.1))++[n5+3]:=by rw[w25,hkeys];rfl
  have hlj:j<(obD V N.P A A s.ob).length:=(w02.1 (zn V N.P (A:=A) (ps:=A) ha ho)).1;have hno2:ztw (zr ops) ((slD V N.P A gb' bs).set (some dE) X1) (qrOf N.P A gb' es2++[(n5+3,Y1)]):=λp hp t ht=>by
   have hset:t≠dE->(slD V N.P A gb' bs).set (some dE) X1 t=slD V N.P A gb' bs t:=λhne=>by show (bif Nat.beq t dE then some X1 else slD V N.P A gb' bs t)=_;rw[znn hne];rfl
   rcases w0m.1 hp with hp|hp
   .rw[hset (λe=>nEq p hp (e ▸ ht))];exact zl5 hes2 p hp t ht
   .simp only[w0v] at hp;subst hp;rw[dXt] at ht;cases ht;rw[hset neXE];exact .inl (by simp only[slD,bX,w2t])
  have small:∀e∈new,e.1<n5:=λe he=>by have hlo:=x6 e he;have h3:=List.length_take_le n5 ops.toList;omega
  simp only[w31];refine Reg.introG [n5+4] (new.map (·.1)) rfl (by rw[hkeys2];exact chk2) hno2 ?_ ⟨⟨_,hS,?_,?_,?_⟩,trivial⟩ ?_
  .refine ze3 λp hp hsure=>?_
   rcases w0m.1 hp with hp|hp
   .simp only[qrOf,w0a] at hp;obtain⟨e,he,rfl⟩:=hp;rw[<- hes] at he;rcases w08.1 he with rfl|he
    .exact⟨_,hB,gqB _ (ev2 X1 Y1 _ (upL mBL)) (ev2 X1 Y1 _ (up evBy hy))⟩
    .rcases w08.1 he with rfl|he
     .refine⟨_,hL,?_⟩;show OpQ _ _ _ ((SV.int kv w1:SV V.T).den V N.P A);rw[<- vlL];exact y1h (st:=st) j (z8q hk) ht hz (w1i hlj) (od hq (ev2 X1 Y1 _ (up evLx hx))) (kd (ev2 X1 Y1 _ (up evLi hi)))
     .have:memB (new.map (·.1)) e.1=true:=z06.2 (w0a.2 ⟨e,he,rfl⟩);simp only at hsure;rw[this] at hsure;cases hsure
   .simp only[w0v] at hp;subst hp;refine⟨_,hX,?_⟩;show OpQ _ _ _ _;refine zvn (xs:=[topv,Y1]) (λa r w hs=>hs dE _ ?_) rfl;refine(zpn (λp hp hq'=>by
     rcases w0m.1 hp with hp|hp
     .exact nEq p hp hq'
     .simp only[w0v] at hp;subst hp;rw[dXt] at hq';cases hq';exact neXE rfl)).trans ?_
    show (bif Nat.beq dE dE then some X1 else _)=_;rw[w2j,<- hX1,hY1];rfl
  .rfl
  .refine w0g.2 λk _=>?_
   cases Tab.dst (zr ops) k<;>rfl
  .show OpT _ _ _ _;refine zt8 (st:=st) (v:=val) j (w1i hlj) (od hq (ev2 X1 Y1 _ (up evSx hx))) (λa r w hs=>?_) ?_ ?_
   .rw[hY1];refine hs dX Y1 ?_;refine(zpm nXq).trans ?_;simp only[z18,mSX,dXt,zdq,w2j,w3t,cond_true]
   .have:=(ev2 (f:=memB (Tab.deps (zr ops) (n5+4))) X1 Y1 ((obD V N.P A A s.ob).set j (entm q.1 (V.kl kc) (V.kv kc) (V.kv vc) m key (V.z vc) st)) (upB mSB)).ent' (z4h V N.P hval)
    rw[zyg V hsc] at this;exact this
   .refine⟨[],rfl,?_⟩;simp only[w31,w0b];refine Reg.introG [] (((n5+1)::n5::new.map (·.1))++[n5+3]) rfl (by rw[hkeys2];exact chk3) hno2 ?_ trivial ?_
    .refine ze3 λp hp hsure=>?_
     have:memB (((n5+1)::n5::new.map (·.1))++[n5+3]) p.1=true:=z06.2 (by rw[<- hkeys2];exact w0a.2 ⟨p,hp,rfl⟩);rw[this] at hsure;cases hsure
    .intro _ a' w' hsat;obtain⟨hd',hn',ro',S',hw',hev',hsl'⟩:=hsat;have how:ObW ((obD V N.P A A s.ob).set j (nmp q.1 (V.kl kc) (V.kv kc) (plI (V.kv vc)) (cset (V.kl kc) m key val) none)) (obD V N.P A A (s.ob.set j (.x (.map kc vc E (cset (V.kl kc) m key val) none)))):=by rw[z35 V N.P A s.ob j q _ ha];exact ObW.le (zdu (show EntH _ ((SO.x (.map kc vc E (cset (V.kl kc) m key val) none):SO V.T).den V N.P A q) from λS r w h=>⟨⟨hq,λ_ _ q=>by cases q⟩,by rw[zm1 hsc];exact h⟩) _ _)
     obtain⟨S2,hw2⟩:=how _ _ _ _ _ hw';exact hK _ a' w' x2 ⟨trivial,hn',hkn',hes2.gb x4 _,A,ro',S2,by rw[w27];exact hl,hw2,zzr hd' ▸ hev.trans hev',λt B hB=>hsl' t B (upS X1 Y1 hB),hst.ext (AExt.refl _) hev'⟩
  .intro hcomp;exfalso;have h4:n5+4<(zr ops).length:=by rw[zf1 rfl];exact(w19.1 hS).1
   have:=w0g.1 hcomp (n5+4) (w1p.2 h4);rw[hkeys2,w1h,z06,z06] at this;simp only[w08,w0m,w0a,w10,or_false] at this;rcases this with h |(h|h|⟨e,he,h⟩)|h
   .omega
   .omega
   .omega
   .have:=small e he;omega
   .omega
 .intro hcomp;exfalso;have h4:n5+2<(zr ops).length:=by rw[zf1 rfl];exact(w19.1 hE).1
  have:=w0g.1 hcomp (n5+2) (w1p.2 h4);rw[hkeys,w1h,z06,z06] at this;simp only[w08,w0a,w10,false_or] at this;rcases this with h|h|⟨e,he,h⟩
  .omega
  .omega
  .have hlo:=x6 e he;have h3:=List.length_take_le n5 ops.toList;omega
end
end Px
end
section
namespace Px
open Go Go.RowKit
section
variable{V:TE}{N:Env V}{R:Type}{r:R}{C:Cx N.P}
theorem y9y{α:Type}{E:TypeId}{e:α->List VP}{sz:Nat}{l:List α}{sv v:Value}{hi:Nat}(he:∀x,(e x).length=sz){S r:Nat->Prop}{w:World}(h :(Px.row E e sz l sv).h S r w)(hv :(prtp sv 0 hi sz).h r w v):(Px.row E e sz (z5v l 0 hi) v).h S r w:=by
 have e0:z5v l 0 hi=l.take hi:=by simp[z5v]
 rw[e0];rcases h with⟨rfl,rfl⟩|⟨g,cap,cur,rfl,hS,hcur,hl,hm,hsz,hc⟩
 .rcases hv with⟨_,_,_,rfl⟩|⟨g,n,cap,a,hn,_⟩
  .exact .inl ⟨rfl,by simp⟩
  .cases hn
 .rcases hv with⟨hn,_⟩|⟨g2,n,cap2,a,hn,h1,h2,rfl,ha⟩
  .cases hn
  .simp only[Value.slice.injEq,w00,Addr.mk.injEq] at hn;obtain⟨⟨rfl,_⟩,rfl,rfl⟩:=hn;have hlen :(l.take hi).length=hi:=by rw[w1f];omega
   refine .inr ⟨g,cap,cur,?_,hS,hcur,by omega,hm,hsz,?_⟩
   .rw[ha (.inr rfl),hlen];simp
   .rw[hlen];have e2 :(l.take hi).flatMap e =(l.flatMap e).take (hi*sz):=by
     conv=>rhs;rw[<- w14 hi l,w35]
     rw[w4d];rw[z1c he,hlen]
    have e3:cur.toList.take (hi*sz) =(cur.toList.take (l.length*sz)).take (hi*sz):=by rw[w4p,w4c (w13 _ (by omega))]
    rw[e2,e3];exact hc.takeN _
theorem WInv.last[Dr]{w0 w:World}{base:Nat}{objs:List HP}{r:Nat->Prop}{S:Nat->Nat->Prop}(hw:WInv w0 base objs r S w){i:Nat}(hi:i<objs.length){H:HP}(hH:H.h (S i) r w):
  WInv w0 base (objs.set i Px.emp++[H]) r (λj b=>(j=objs.length/\S i b)\/(j≠i/\j<objs.length/\S j b)) w where
 below:=hw.below
 size:=hw.size
 obj:=by
  intro j X hj;rw[w1w] at hj;simp only[w27] at hj;split at hj
  .rename_i hlt;rw[w1v] at hj;split at hj
   .cases hj;trivial
   .rename_i e;have :(λb=>(j=objs.length/\S i b)\/(j≠i/\j<objs.length/\S j b))=S j:=by funext b;exact propext ⟨λh=>h.elim (λq=>absurd q.1 (by omega)) λq=>q.2.2,λh=>.inr ⟨λq=>e q.symm,hlt,h⟩⟩
    rw[this];exact hw.obj j X hj
  .rename_i hge;have hj0:j=objs.length:=by have:=(w02.1 hj).1;simp at this;omega
   subst hj0;simp at hj;subst hj;have :(λb=>(objs.length=objs.length/\S i b)\/(objs.length≠i/\objs.length<objs.length/\S objs.length b))=S i:=by funext b;exact propext ⟨λh=>h.elim (λq=>q.2) λq=>absurd q.2.1 (by omega),λh=>.inl ⟨rfl,h⟩⟩
   rw[this];exact hH
 own:=by
  rintro j b (⟨rfl,hb⟩|⟨_,hlt,hb⟩)
  .obtain⟨_,h2⟩:=hw.own i b hb;exact⟨by simp,h2⟩
  .obtain⟨h1,h2⟩:=hw.own j b hb;exact⟨by simp;omega,h2⟩
 apart:=by
  rintro j k b (⟨rfl,hb⟩|⟨n1,l1,hb⟩) (⟨rfl,hb'⟩|⟨n2,l2,hb'⟩)
  .rfl
  .exact absurd (hw.apart i k b hb hb').symm n2
  .exact absurd (hw.apart j i b hb hb') n1
  .exact hw.apart j k b hb hb'
 old:=hw.old
theorem yca[Dr]{C:Cx N.P}{acts:List GA}{s:SS V.T}{a:Act}{w:World}(t:Nat)(H:SatS V C acts s a w):SatS V C acts (cutX V s t) a w:=by
 unfold cutX;split
 .rename_i i hi z h1 h2;split
  .rename_i E c l ho;cases hz:Nat.beq z (V.sz c) with
   |false=>exact H
   |true=>
    have ez:=w01 hz;subst ez;simp only[cond_true];obtain⟨hd,hsz,hch,hg,A,ro,S,hl,hw,he,hs,hst⟩:=H;have li:=(w02.1 ho).1;obtain⟨q,hq⟩:∃q,A[i]? = some q:=⟨A[i],by simp[hl,li]⟩;have hv:=hs t _ (by simp only[slD,h1];rfl);simp only[denE,SV.den,hq] at hv;have hrow:=y9y (V.ev_len c) (hw.obj i _ (zn V N.P hq ho)) hv;have hlen:=zc8 V N.P (A:=A) A s.ob hl;have hw':=hw.last (i:=i) (by omega) hrow;rw[hlen] at hw';obtain⟨v,hve⟩:∃v,v=a.tmps.getD t undef:=⟨_,rfl⟩;rw[<- hve] at hw';have hB :(A++[((0:Nat),v)])[s.ob.length]? = some (0,v):=by rw[<- hl];simp
    have e4:obD V N.P A A (s.ob.set i .emp) =(obD V N.P A A s.ob).set i Px.emp:=by rw[z35 V N.P A s.ob i q _ hq];rfl
    rw[<- e4] at hw';obtain⟨S2,hw2⟩:=z3j (P:=N.P) (A:=A) (B:=[(0,v)]) (ob:=s.ob.set i .emp) (by simpa using hl) (us:=[.row E c (z5v l 0 hi)]) (H:=[Px.row E (V.ev c) (V.sz c) (z5v l 0 hi) v]) ⟨EntH.refl,trivial⟩ _ _ _ _ _ hw';refine⟨hd,hsz,hch,⟨?_,?_,hg.kn⟩,A++[(0,v)],ro,S2,by simp[hl],?_,he,?_,Stk.ext (AExt.app A _) (Evo.refl C.base _ _) hst⟩
    .intro u g hu ch y hy;simp only[z07] at hy;by_cases e:u=t
     .subst e;simp only at hu;rw[h2] at hu;cases hu
     .rw[if_neg e] at hy;exact hg.val u g hu ch y hy
    .intro u ch y hy;simp only[z07] at hy;by_cases e:u=t
     .rw[if_pos e] at hy;simp only[w00,w0f] at hy;rw[<- hy.1];intro p hp;cases hp
     .rw[if_neg e] at hy;exact hg.ch u ch y hy
    .exact hw2
    .intro u X hX;simp only[slD,z07] at hX;by_cases e:u=t
     .rw[if_pos e] at hX;simp only[w0u,w00] at hX;subst hX;simp only[denE,SV.den,hB];rw[e,<- hve];exact rfl
     .rw[if_neg e] at hX;exact zey V N.P (AExt.app A _) hs u X hX
  .exact H
 .exact H
theorem zwn[Dr](hN:z4t V N){R':Type}{leaf:Option R->Option R'}{comb:List (Option R')->Option R'}{G:R'->Prop}(hcomb:zyk leaf comb r G){inl:Nat->Inl V R}{id:Nat}{ops:Array Oper}{K:KX V R}{Γ:List (Option (Nat×Nat))}{rd:Option Nat}(hinl:ztv Γ C r inl ops inl K)
  {acts:List GA} (hΓ:acts.map GA.lpI=Γ) {Q:Exit->Act->World->Prop} (hK:∀e s a w,K e s=some r->SatS V C acts s a w->Q e a w) (hm:N.P.follows .mixedOrders=true) {ls:List Nat} {L:R'} {s:SS V.T} {a:Act} {w:World}
  (h:altT V N leaf comb inl ops ls s K=some L) (hL:G L) (hs:SatS V C acts s a w) :(Code.region id ops true).wpIn (fz rd) 0 N.P Q a w:=by
 unfold altT yex at h;obtain⟨hd,hn,hkn,hgb,A,ro,S,hl,hw,hev,hsl,hst⟩:=hs;generalize hbs :(s.sl.filter λp=>!isDs (wrO V ops s) p.1||yac ops.toList p.1)=bs at h;have hlk:∀{t:Nat}{x:Ch×SV V.T},lk bs t=some x->lk s.sl t=some x:=λ{t x}hx=>z9h (λk=>!isDs (wrO V ops s) k||yac ops.toList k) (by rw[hbs];exact hx)
 have hgb0:GbOK (⟨bs,s.gb,s.kn,s.n⟩:Fm V.T):=⟨λt g hg ch z hz=>hgb.val t g hg ch z (hlk hz),λt ch z hz=>hgb.ch t ch z (hlk hz),hgb.kn⟩;have hbs':ze (slD V N.P A s.gb bs) a ro w:=by
  intro t X hX;simp only[slD] at hX;cases hb:lk bs t with
  |none=>rw[hb] at hX;cases hX
  |some e=>rw[hb] at hX;exact hsl t X (by simp only[slD,hlk hb];exact hX)
 have hreg:=y8a (rd:=rd) hN hcomb hΓ hinl (hK .normal) hev _ _ [] [] bs [] s A L h hL (AExt.refl A) hl hst ⟨λe he=>absurd he w10,λe he=>absurd he w10,λe he=>absurd he w10,λe he=>absurd he w10,λe he=>absurd he w10⟩ hgb0 hkn (λe he=>absurd he w10);exact zwz (C:={ C with n:=s.n,r0:=ro,wI:=w,rd:=rd,df:=a.defers }) hm hreg ⟨rfl,hn,ro,S,hw,Evo.refl _ _ _,hbs'⟩
theorem zy4[Dr](hN:z4t V N){inl:Nat->Inl V R}{id:Nat}{ops:Array Oper}{d:Bool}{K:KX V R}{Γ:List (Option (Nat×Nat))}{rd:Option Nat}(hinl:ztv Γ C r inl ops inl K)
  {acts:List GA} (hΓ:acts.map GA.lpI=Γ) {Q:Exit->Act->World->Prop} (hK:∀e s a w,K e s=some r->SatS V C acts s a w->Q e a w) {s:SS V.T} {a:Act} {w:World} (h:regX V N inl ops d s K=some r) (hs:SatS V C acts s a w) :(Code.region id ops d).wpIn (fz rd) 0 N.P Q a w:=by
 unfold regX at h;cases d with
 |true=>
  simp only[cond_true] at h;cases hm:N.P.follows .mixedOrders with
  |false=>rw[hm] at h;cases h
  |true=>
   rw[hm] at h;simp only[cond_true] at h;cases hen :(y3a ops).isSome with
   |true=>rw[hen] at h;exact yf7 hN (K:=λs=>K .normal s) (hK .normal) hm h hs
   |false=>
   rw[hen] at h;simp only[cond_false] at h;cases hst:y6o V ops s with
   |true=>rw[hst] at h;simp only[y6o,w03] at hst;exact yag hN hK hm hst.2 hst.1.1 h hs
   |false=>
   rw[hst] at h;simp only[cond_false] at h;split at h
   .split at h
    .exact ycf hN (K:=λs=>K .normal s) (hK .normal) hm h hs
    .exact zwn hN zys hinl hΓ hK hm h rfl hs
   .exact zwn hN zys hinl hΓ hK hm h rfl hs
 |false=>simp only[cond_false] at h;refine wpIn_region ?_;have:=zjv (rd:=rd) hN hΓ hinl (hK .normal) ops.toList 0 s a w rfl h hs;rw[<- w3q] at this;simpa using this
theorem zth[Dr]{acts:List GA}{Q:Exit->Act->World->Prop}{n:SS V.T->Option R}{K:KX V R}{W:Act->World->Prop}(hn:∀s a w,n s=some r->SatS V C acts s a w->W a w)(hK:∀e s a w,K e s=some r->SatS V C acts s a w->Q e a w):
  ∀e s a w,seqK V n K e s=some r->SatS V C acts s a w->Exit.then W Q e a w:=by
 intro e s a w h hs;cases e with
 |normal=>exact hn s a w h hs
 |_=>exact hK _ s a w h hs
theorem y2n[Dr]{acts:List GA}{Q:Exit->Act->World->Prop}{id:Nat}{K:KX V R}(hK:∀e s a w,K e s=some r->SatS V C acts s a w->Q e a w):
  ∀e s a w,blkK V id K e s=some r->SatS V C acts s a w->Exit.inBlock id Q e a w:=by
 intro e s a w h hs;cases e with
 |exit i=>
  simp only[blkK] at h;simp only[Exit.inBlock];by_cases e:i=id
  .subst e;rw[w2j] at h;rw[if_pos rfl];exact hK .normal s a w h hs
  .rw[znn e] at h;rw[if_neg e];exact hK _ s a w h hs
 |_=>exact hK _ s a w h hs
theorem yb7[Dr]{acts:List GA}{Q:Exit->Act->World->Prop}{K:KX V R}(hK:∀e s a w,K e s=some r->SatS V C acts s a w->Q e a w):
  ∀e s a w,ngK V K e s=some r->SatS V C acts s a w->Exit.noGoto Q e a w:=by
 intro e s a w h hs;cases e with
 |goto l=>cases h
 |_=>exact hK _ s a w h hs
theorem zyt[Dr]{acts:List GA}{rd:Option Nat}{Q:Exit->Act->World->Prop}{o:Operand}{c d:Code}{x y:Option R}{s:SS V.T}{a:Act}{w:World}(h:y83 V s o x y=some r)(hs:SatS V C acts s a w)(hx:x=some r->c.wpIn (fz rd) 0 N.P Q a w)(hy:y=some r->d.wpIn (fz rd) 0 N.P Q a w):(Code.cond o c d).wpIn (fz rd) 0 N.P Q a w:=by
 unfold y83 at h;split at h
 .rename_i b hb;obtain⟨_,_,hkn,hgb,A,ro,S,hl,hw,hev,hsl,hst⟩:=hs;have he:=z0t V N.P (A:=A) (zar hb) trivial a ro w hsl;simp only[SV.den] at he;refine wpIn_cond_split he (λe=>hx ?_) (λe=>hy ?_)
  .subst e;simpa using h
  .subst e;simpa using h
 .cases h
theorem zxr{rd:Option Nat}{x y:Code}(h:rd=none\/noRF (.seq x y)=true):(rd=none\/noRF x=true)/\(rd=none\/noRF y=true):=by
 rcases h with h|h
 .exact⟨.inl h,.inl h⟩
 .have h :(noRF x&&noRF y)=true:=h;simp only[w03] at h;exact⟨.inr h.1,.inr h.2⟩
theorem zzv{rd:Option Nat}{o:Operand}{x y:Code}(h:rd=none\/noRF (.cond o x y)=true):(rd=none\/noRF x=true)/\(rd=none\/noRF y=true):=zxr (x:=x) (y:=y) h
theorem zsg[Dr](hN:z4t V N){dfl:Inl V R}(hd:∀Γ f fn c K,N.P.funcs[f]? = some fn->fn.body=some c->zmf Γ C r (dfl f) c K)(hy:∀Γ k,YOK Γ C r dfl k):∀(c:Code)(Γ:List (Option (Nat×Nat)))(K:KX V R),zmf Γ C r (zqf V N dfl) c K:=by
 intro c
 induction c with
 |skip=>exact λΓ K rd acts Q hΓ hrd hK s a w h hs=>wpIn_skip (hK _ s a w h hs)
 |label l=>exact λΓ K rd acts Q hΓ hrd hK s a w h hs=>wpIn_label (hK _ s a w h hs)
 |region id ops d=>exact λΓ K rd acts Q hΓ hrd hK s a w h hs=>zy4 hN ⟨λi f fn c h1 h2=>hd _ f fn c _ h1 h2,λi=>hy _ _⟩ hΓ hK h hs
 |seq x y hx hy=>intro Γ K rd acts Q hΓ hrd hK s a w h hs;obtain⟨r1,r2⟩:=zxr hrd;exact wpIn_seq (hx Γ _ rd acts _ hΓ r1 (zth (λs a w h hs=>hy Γ K rd acts Q hΓ r2 hK s a w h hs) hK) s a w h hs)
 |cond o x y hx hy=>intro Γ K rd acts Q hΓ hrd hK s a w h hs;obtain⟨r1,r2⟩:=zzv hrd;exact zyt h hs (λh=>hx Γ K rd acts Q hΓ r1 hK s a w h hs) (λh=>hy Γ K rd acts Q hΓ r2 hK s a w h hs)
 |block id c hc=>intro Γ K rd acts Q hΓ hrd hK s a w h hs;exact wpIn_block (hc Γ _ rd acts _ hΓ hrd (y2n hK) s a w h hs)
 |scope c hc=>intro Γ K rd acts Q hΓ hrd hK s a w h hs;exact zrq (hc Γ _ rd acts _ hΓ hrd (yb7 hK) s a w h hs)
 |exit id=>exact λΓ K rd acts Q hΓ hrd hK s a w h hs=>wpIn_exit (hK _ s a w h hs)
 |ret=>exact λΓ K rd acts Q hΓ hrd hK s a w h hs=>wpIn_ret (hK _ s a w h hs)
 |_=>exact λΓ K rd acts Q hΓ hrd hK s a w h hs=>by cases h
theorem znb[Dr]:∀(n:Nat)(Γ:List (Option (Nat×Nat)))(k:SV V.T->SS V.T->Option R),YOK Γ C r (dflN V N n) k
 |0,Γ,k=>λrd acts hΓ s vs a w A ro S h=>by cases h
 |n+1,Γ,k=>λrd acts hΓ s vs a w A ro S h=>by cases h
theorem zs9[Dr](hN:z4t V N):∀(n:Nat)(Γ:List (Option (Nat×Nat)))(f:Nat)(c:Code)(K:KX V R),zmf Γ C r (dflN V N n f) c K
 |0,Γ,f,c,K=>λrd acts Q hΓ hrd hK s a w h hs=>by cases h
 |n+1,Γ,f,c,K=>zsg hN (λΓ f fn c K _ _=>zs9 hN n Γ f c K) (λΓ k=>znb n Γ k) c Γ K
theorem z8g[Dr](hN:z4t V N)(Γ:List (Option (Nat×Nat))){ops:Array Oper}{full:Nat->Inl V R}{K:KX V R}: ztv Γ C r (λ_=>Dfl V N R) ops full K:=⟨λi f fn c _ _=>zs9 hN 8 _ f c _,λi=>znb 8 _ _⟩
theorem zdo{α:Type}{x:Option α}{k:α->Option R}(h:zrv x k=some r):∃z,x=some z/\k z=some r:=by
 cases x with
 |none=>cases h
 |some z=>exact⟨z,rfl,h⟩
theorem y2s{s:SS V.T}{t:Nat}{x:Ch×SV V.T}(h:lk (clrG V s).sl t=some x):lk s.sl t=some x/\x.1 = []:=by
 have h1:=z9h (λk=>zde s.sl k) h;refine⟨h1,?_⟩;have:=(w0i.1 (zgh h)).2;simp only[zde,h1] at this;obtain⟨ch,v⟩:=x;cases ch with
 |nil=>rfl
 |cons _ _=>cases this
theorem yc1[Dr]{acts:List GA}{s:SS V.T}{a:Act}{w:World}(hs:SatS V C acts s a w):SatS V C acts (clrG V s) a w:=by
 obtain⟨hd,hn,hkn,hgb,A,ro,S,hl,hw,hev,hsl,hst⟩:=hs;refine⟨hd,hn,trivial,⟨λt g h=>by simp[clrG,lk] at h,λt ch z hz p hp=>?_,λp hp=>by simp[clrG] at hp⟩,A,ro,S,hl,hw,hev,?_,hst⟩
 .have:=(y2s hz).2
  simp only at this;subst this;cases hp
 .intro t X hX;simp only[slD] at hX;cases hz:lk (clrG V s).sl t with
  |none=>rw[hz] at hX;cases hX
  |some e=>rw[hz] at hX;obtain⟨h1,h2⟩:=y2s hz;obtain⟨ch,v⟩:=e;simp only at h2;subst h2;refine hsl t X ?_;simp only[slD,h1];exact hX
theorem ye3[Dr]{acts:List GA}{dst:Option Tmp}{x:Operand}{ty:TypeId}{pos:String}{aft:Array Edge}{s:SS V.T}{j kc vc:Nat}{rem:List (V.T kc×V.T vc)}{cur:Option (V.T kc×V.T vc)}{k:SS V.T->Option R}
  (hx:evO s.sl s.kn x=some (.own j)) (hob:s.ob[j]? = some (.x (.it kc vc rem cur))) (hkey:rem≠[]->V.key kc=true) (h0:rem = []->after V s dst ([],.tup [.bool false]) k=some r)
  (h1:∀e rem',rem.Perm (e::rem')->after V (updO V s j (.x (.it kc vc rem' (some e)))) dst ([],.tup [.bool true,V.encV kc e.1,V.encV vc e.2]) k=some r) {a:Act} {w:World} (hs:SatS V C acts s a w) {rd:Option Nat} {next:Act->World->Prop} {Q:Exit->Act->World->Prop}
  (hk:∀s2 v0 w',k s2=some r->SatS V C acts s2 (a.put dst v0) w'->next (a.put dst v0) w') :(⟨dst,.next x false,ty,pos,aft,none⟩:Oper).wpIn (fz rd) 0 N.P a w next Q:=by
 obtain⟨hd,hn,hkn,hgb,A,ro,S,hl,hw,hev,hsl,hst⟩:=hs;have hx':=z0t V N.P (A:=A) hx hkn;simp only[SV.den] at hx';have hjl:=(w02.1 hob).1;obtain⟨q,ha⟩:∃q,A[j]? = some q:=⟨_,w09 (hl ▸ hjl)⟩;rw[ha] at hx';have hdn:=zn V N.P (A:=A) (ps:=A) ha hob;have hq:q.2 = .pointer (some ⟨q.1,0,none⟩):=(hw.obj j _ hdn).1;have hlt:j<(s.st V N.P A).objs.length:=(w02.1 hdn).1;have hOp:OpT (P:=N.P) { C with n:=s.n,df:=a.defers } (⟨dst,.next x false,ty,pos,aft,none⟩:Oper) (s.st V N.P A) (LOK V N.P r A s λv s=>after V s dst ([],v) k):=by
  refine OpT.weak (s':=⟨(s.st V N.P A).slots,(s.st V N.P A).objs.set j (itr q.1 (V.kl kc) (V.kv kc) (λy=>V.vl vc y) rem cur)⟩) (λ_ _ _ h=>h) (ObW.set' hdn λS r w h=>h.2) ?_;have hX:∀k,Ent (eqv (V.kv kc k)) (if V.key kc=true then V.vl kc k else eqv (V.kv kc k)):=λk=>by
   split
   .rename_i hk;exact(y4h hk k).2
   .exact Ent.refl
  refine ydj (s:=⟨(s.st V N.P A).slots,(s.st V N.P A).objs.set j (itr q.1 (V.kl kc) (V.kv kc) (λy=>V.vl vc y) rem cur)⟩) hX j (by rw[w1i hlt]) (show Ev (s.st V N.P A) x (eqv (.pointer (some ⟨q.1,0,none⟩))) by rw[<- hq];exact hx') ?_ ?_
  .intro hr;refine⟨[],s.ob,_,h0 hr,by simp[hl],by rw[w0b];exact Ent.refl,?_⟩;rw[w0b];have :(s.st V N.P A).objs.set j (itr q.1 (V.kl kc) (V.kv kc) (λy=>V.vl vc y) rem cur) =(s.st V N.P A).objs.set j (itr q.1 (V.kl kc) (V.kv kc) (λy=>V.vl vc y) rem cur):=rfl;refine ObW.trans (ObW.set' (H2:=(SO.x (.it kc vc rem cur):SO V.T).den V N.P A q) (i:=j) (by rw[w1i hlt]) λS r w h=>⟨hq,h⟩) ?_;rw[w31];have e1 :(s.st V N.P A).objs.set j ((SO.x (.it kc vc rem cur):SO V.T).den V N.P A q)=obD V N.P A A s.ob:=by rw[show (s.st V N.P A).objs=obD V N.P A A s.ob from rfl,<- z35 V N.P A s.ob j q _ ha,setSame hob]
   rw[e1];exact ObW.refl
  .intro k0 y rem' hp;have hne:rem≠[]:=λe=>by subst e;exact absurd hp.length_eq (by simp)
   have hkey:=hkey hne;refine⟨[],s.ob.set j (.x (.it kc vc rem' (some (k0,y)))),_,h1 (k0,y) rem' hp,by simp[hl],?_,?_⟩
   .rw[w0b];simp only[SV.den,denV,z30,hkey,if_true];exact Ent.refl
   .rw[w0b,w31,z35 V N.P A s.ob j q _ ha];exact ObW.le (zdu (show EntH (itr q.1 (V.kl kc) (V.kv kc) (λy=>V.vl vc y) rem' (some (k0,y))) ((SO.x (.it kc vc rem' (some (k0,y))):SO V.T).den V N.P A q) from λS r w h=>⟨hq,h⟩) _ _)
 refine Oper.wpIn_mono ?_ (OpT.fz hOp a w ro S Q rfl hn hw hsl);rintro a' w' ⟨v0,ro',S',x,objs',rfl,hev',hw',hx,B,ob',v,hkv,hlen,hent,hobw⟩;obtain⟨S2,hw2⟩:=hobw _ _ _ _ _ hw';change after V { s with ob:=ob' } dst ([],v) k=some r at hkv;unfold after at hkv;split at hkv
 .rename_i s2 hset;exact hk s2 v0 w' hkv (zpr (e:=([],v)) hset (λp hp=>by simp at hp) hd hn hkn hgb hlen hw2 hev hev' hsl hst (hent _ _ _ hx))
 .cases hkv
 where setSame:∀{l:List (SO V.T)}{i:Nat}{H:SO V.T},l[i]? = some H->l.set i H=l
 |_::_,0,_,h=>by simp at h;subst h;rfl
 |_::l,i+1,_,h=>by simp only[w3l];rw[setSame (by simpa using h)]
 | [],_,_,h=>by simp at h
mutual
theorem ygv:∀(l:LC){ρ:Type}(P:ρ->ρ->Prop)(z:LC.Z V.T l ρ)(r2:ρ),P (enV V l z).2 r2->∃z2,LC.eqZ V.T l P z z2/\enV V l z2 =((enV V l z).1,r2)
 | .val c,_,P,z,r2,h=>⟨(z.1,r2),⟨rfl,h⟩,rfl⟩
 | .cmp c,_,P,z,r2,h=>⟨(z.1,r2),⟨rfl,h⟩,rfl⟩
 | .rop c,_,P,z,r2,h=>⟨(z.1,r2),⟨rfl,h⟩,rfl⟩
 | .rom kc vc,_,P,z,r2,h=>⟨(z.1,r2),⟨rfl,h⟩,rfl⟩
 | .own j,_,P,z,r2,h=>⟨r2,h,rfl⟩
 | .ptr j o,_,P,z,r2,h=>⟨r2,h,rfl⟩
 | .nil,_,P,z,r2,h=>⟨r2,h,rfl⟩
 | .raw v,_,P,z,r2,h=>⟨r2,h,rfl⟩
 | .agg ls,_,P,z,r2,h=>by obtain⟨z2,h1,h2⟩:=zlo ls P z r2 h;refine⟨z2,h1,?_⟩;show (SV.agg (enL V ls z2).1,(enL V ls z2).2)=_;rw[h2];rfl
 | .func f ls,_,P,z,r2,h=>by obtain⟨z2,h1,h2⟩:=yen ls P z r2 h;refine⟨z2,h1,?_⟩;show (SV.func f (enW V ls z2).1,(enW V ls z2).2)=_;rw[h2];rfl
theorem zlo:∀(ls:List LC){ρ:Type}(P:ρ->ρ->Prop)(z:Zl V.T ls ρ)(r2:ρ),P (enL V ls z).2 r2->∃z2,eqZl V.T ls P z z2/\enL V ls z2 =((enL V ls z).1,r2)
 | [],_,P,z,r2,h=>⟨r2,h,rfl⟩
 | .val c::ls,_,P,z,r2,h=>by obtain⟨z2,h1,h2⟩:=zlo ls P z.2 r2 h;refine⟨(z.1,z2),⟨rfl,h1⟩,?_⟩;show (V.enc c z.1++(enL V ls z2).1,(enL V ls z2).2)=_;rw[h2];rfl
 | .cmp c::ls,_,P,z,r2,h=>by obtain⟨z2,h1,h2⟩:=zlo ls P z.2 r2 h;exact⟨(z.1,z2),⟨rfl,h1⟩,by show (_::(enL V ls z2).1,(enL V ls z2).2)=_;rw[h2];rfl⟩
 | .rop c::ls,_,P,z,r2,h=>by obtain⟨z2,h1,h2⟩:=zlo ls P z.2 r2 h;exact⟨(z.1,z2),⟨rfl,h1⟩,by show (_::(enL V ls z2).1,(enL V ls z2).2)=_;rw[h2];rfl⟩
 | .rom kc vc::ls,_,P,z,r2,h=>by obtain⟨z2,h1,h2⟩:=zlo ls P z.2 r2 h;exact⟨(z.1,z2),⟨rfl,h1⟩,by show (_::(enL V ls z2).1,(enL V ls z2).2)=_;rw[h2];rfl⟩
 | .own j::ls,_,P,z,r2,h=>by obtain⟨z2,h1,h2⟩:=zlo ls P z r2 h;exact⟨z2,h1,by show (_::(enL V ls z2).1,(enL V ls z2).2)=_;rw[h2];rfl⟩
 | .ptr j o::ls,_,P,z,r2,h=>by obtain⟨z2,h1,h2⟩:=zlo ls P z r2 h;exact⟨z2,h1,by show (_::(enL V ls z2).1,(enL V ls z2).2)=_;rw[h2];rfl⟩
 | .nil::ls,_,P,z,r2,h=>by obtain⟨z2,h1,h2⟩:=zlo ls P z r2 h;exact⟨z2,h1,by show (_::(enL V ls z2).1,(enL V ls z2).2)=_;rw[h2];rfl⟩
 | .raw v::ls,_,P,z,r2,h=>by obtain⟨z2,h1,h2⟩:=zlo ls P z r2 h;exact⟨z2,h1,by show (_::(enL V ls z2).1,(enL V ls z2).2)=_;rw[h2];rfl⟩
 | .agg ks::ls,_,P,z,r2,h=>by obtain⟨y2,g1,g2⟩:=zlo ls P (enL V ks z).2 r2 h;obtain⟨z2,h1,h2⟩:=zlo ks (eqZl V.T ls P) z y2 g1;refine⟨z2,h1,?_⟩;show (SV.agg (enL V ks z2).1::(enL V ls (enL V ks z2).2).1,(enL V ls (enL V ks z2).2).2)=_;rw[h2];show (SV.agg (enL V ks z).1::(enL V ls y2).1,(enL V ls y2).2)=_;rw[g2];rfl
 | .func f ks::ls,_,P,z,r2,h=>by obtain⟨y2,g1,g2⟩:=zlo ls P (enW V ks z).2 r2 h;obtain⟨z2,h1,h2⟩:=yen ks (eqZl V.T ls P) z y2 g1;refine⟨z2,h1,?_⟩;show (SV.func f (enW V ks z2).1::(enL V ls (enW V ks z2).2).1,(enL V ls (enW V ks z2).2).2)=_;rw[h2];show (SV.func f (enW V ks z).1::(enL V ls y2).1,(enL V ls y2).2)=_;rw[g2];rfl
theorem yen:∀(ls:List LC){ρ:Type}(P:ρ->ρ->Prop)(z:Zl V.T ls ρ)(r2:ρ),P (enW V ls z).2 r2->∃z2,eqZl V.T ls P z z2/\enW V ls z2 =((enW V ls z).1,r2)
 | [],_,P,z,r2,h=>⟨r2,h,rfl⟩
 |l::ls,_,P,z,r2,h=>by obtain⟨y2,g1,g2⟩:=yen ls P (enV V l z).2 r2 h;obtain⟨z2,h1,h2⟩:=ygv l (eqZl V.T ls P) z y2 g1;refine⟨z2,h1,?_⟩;show ((enV V l z2).1::(enW V ls (enV V l z2).2).1,(enW V ls (enV V l z2).2).2)=_;rw[h2];show ((enV V l z).1::(enW V ls y2).1,(enW V ls y2).2)=_;rw[g2];rfl
end
theorem ygu[Dr]:∀(ls:List (Nat×LC)){ρ:Type}(P:ρ->ρ->Prop)(z:Zs V.T ls ρ)(r2:ρ),P (enS V ls z).2 r2->∃z2,eqZs V.T ls P z z2/\enS V ls z2 =((enS V ls z).1,r2)
 | [],_,P,z,r2,h=>⟨r2,h,rfl⟩
 |(t,l)::ls,_,P,z,r2,h=>by obtain⟨y2,g1,g2⟩:=ygu ls P (enV V l z).2 r2 h;obtain⟨z2,h1,h2⟩:=ygv l (eqZs V.T ls P) z y2 g1;refine⟨z2,h1,?_⟩;show ((t,[],(enV V l z2).1)::(enS V ls (enV V l z2).2).1,(enS V ls (enV V l z2).2).2)=_;rw[h2];show ((t,[],(enV V l z).1)::(enS V ls y2).1,(enS V ls y2).2)=_;rw[g2];rfl
theorem ygt[Dr]:∀(ls:List (Nat×List (Nat×LC))){ρ:Type}(P:ρ->ρ->Prop)(z:Zf V.T ls ρ)(r2:ρ),P (enF V ls z).2 r2->∃z2,eqZf V.T ls P z z2/\enF V ls z2 =((enF V ls z).1,r2)
 | [],_,P,z,r2,h=>⟨r2,h,rfl⟩
 |(n,l)::ls,_,P,z,r2,h=>by obtain⟨y2,g1,g2⟩:=ygt ls P (enS V l z).2 r2 h;obtain⟨z2,h1,h2⟩:=ygu l (eqZf V.T ls P) z y2 g1;refine⟨z2,h1,?_⟩;show (⟨(enS V l z2).1,[],[],n⟩::(enF V ls (enS V l z2).2).1,(enF V ls (enS V l z2).2).2)=_;rw[h2];show (⟨(enS V l z).1,[],[],n⟩::(enF V ls y2).1,(enF V ls y2).2)=_;rw[g2];rfl
mutual
theorem y8d:∀(l:LC){ρ:Type}(P:ρ->ρ->Prop),(∀z,P z z)->∀z,LC.eqZ V.T l P z z
 | .val c,_,P,h,z=>⟨rfl,h _⟩
 | .cmp c,_,P,h,z=>⟨rfl,h _⟩
 | .rop c,_,P,h,z=>⟨rfl,h _⟩
 | .rom kc vc,_,P,h,z=>⟨rfl,h _⟩
 | .own j,_,P,h,z=>h z
 | .ptr j o,_,P,h,z=>h z
 | .nil,_,P,h,z=>h z
 | .raw v,_,P,h,z=>h z
 | .agg ls,_,P,h,z=>ziv ls P h z
 | .func f ls,_,P,h,z=>ziv ls P h z
theorem ziv:∀(ls:List LC){ρ:Type}(P:ρ->ρ->Prop),(∀z,P z z)->∀z,eqZl V.T ls P z z
 | [],_,P,h,z=>h z
 |l::ls,_,P,h,z=>y8d l (eqZl V.T ls P) (ziv ls P h) z
end
theorem z79[Dr]:∀(os:List OC)(z:Zo V.T os),eqZo V.T os z z
 | [],_=>trivial
 | .box t ls::os,z=>ziv ls (eqZo V.T os) (z79 os) z
 | .row _ _::os,z=>⟨rfl,z79 os z.2⟩
 | .map _ _ _::os,z=>⟨rfl,z79 os z.2⟩
 | .it _ _::os,z=>⟨List.Perm.refl _,z79 os z.2⟩
 | .nst _ _ _ none::os,z=>⟨rfl,z79 os z.2⟩
 | .nst _ _ _ (some _)::os,z=>⟨rfl,rfl,z79 os z.2.2⟩
 | .fix _ _::os,z=>⟨rfl,z79 os z.2⟩
 | .emp::os,z=>z79 os z
theorem ztn[Dr]:∀(os:List OC)(z:Zo V.T os){j kc vc:Nat}{rem rem2:List (V.T kc×V.T vc)}{cur:Option (V.T kc×V.T vc)},(enO V os z)[j]? = some (.x (.it kc vc rem cur))->rem.Perm rem2->
  ∃z2,eqZo V.T os z z2/\enO V os z2 =(enO V os z).set j (.x (.it kc vc rem2 none))
 | [],z,j,kc,vc,rem,rem2,cur,h,hp=>by simp[enO] at h
 | .it kc' vc'::os,z,0,kc,vc,rem,rem2,cur,h,hp=>by have e :(SO.x (.it kc' vc' z.1 none):SO V.T) = .x (.it kc vc rem cur):=w0c h;cases e;exact⟨(rem2,z.2),⟨hp,z79 os z.2⟩,rfl⟩
 | .it kc' vc'::os,z,j+1,kc,vc,rem,rem2,cur,h,hp=>by obtain⟨z2,h1,h2⟩:=ztn os z.2 (j:=j) h hp;exact⟨(z.1,z2),⟨List.Perm.refl _,h1⟩,by show _::enO V os z2=_;rw[h2];rfl⟩
 | .emp::os,z,j+1,kc,vc,rem,rem2,cur,h,hp=>by obtain⟨z2,h1,h2⟩:=ztn os z (j:=j) h hp;exact⟨z2,h1,by show _::enO V os z2=_;rw[h2];rfl⟩
 | .row E c::os,z,j+1,kc,vc,rem,rem2,cur,h,hp=>by obtain⟨z2,h1,h2⟩:=ztn os z.2 (j:=j) h hp;exact⟨(z.1,z2),⟨rfl,h1⟩,by show _::enO V os z2=_;rw[h2];rfl⟩
 | .map _ _ _::os,z,j+1,kc,vc,rem,rem2,cur,h,hp=>by obtain⟨z2,h1,h2⟩:=ztn os z.2 (j:=j) h hp;exact⟨(z.1,z2),⟨rfl,h1⟩,by show _::enO V os z2=_;rw[h2];rfl⟩
 | .fix E c::os,z,j+1,kc,vc,rem,rem2,cur,h,hp=>by obtain⟨z2,h1,h2⟩:=ztn os z.2 (j:=j) h hp;exact⟨(z.1,z2),⟨rfl,h1⟩,by show _::enO V os z2=_;rw[h2];rfl⟩
 | .nst _ _ _ none::os,z,j+1,kc,vc,rem,rem2,cur,h,hp=>by obtain⟨z2,h1,h2⟩:=ztn os z.2 (j:=j) h hp;exact⟨(z.1,z2),⟨rfl,h1⟩,by show _::enO V os z2=_;rw[h2];rfl⟩
 | .nst _ _ _ (some _)::os,z,j+1,kc,vc,rem,rem2,cur,h,hp=>by obtain⟨z2,h1,h2⟩:=ztn os z.2.2 (j:=j) h hp;exact⟨(z.1,z.2.1,z2),⟨rfl,rfl,h1⟩,by show _::enO V os z2=_;rw[h2];rfl⟩
 | .box t ls::os,z,j+1,kc,vc,rem,rem2,cur,h,hp=>by obtain⟨y2,g1,g2⟩:=ztn os (enL V ls z).2 (j:=j) h hp;obtain⟨z2,h1,h2⟩:=zlo ls (eqZo V.T os) z y2 g1;refine⟨z2,h1,?_⟩;show .box t (enL V ls z2).1::enO V os (enL V ls z2).2=_;rw[h2,show enO V os ((enL V ls z).1,y2).2=enO V os y2 from rfl,g2];rfl
 | .emp::os,z,0,kc,vc,rem,rem2,cur,h,hp=>by cases (w0c h :(SO.emp:SO V.T)=_)
 | .row E c::os,z,0,kc,vc,rem,rem2,cur,h,hp=>by cases (w0c h :(SO.row E c z.1:SO V.T)=_)
 | .map _ _ _::os,z,0,kc,vc,rem,rem2,cur,h,hp=>by cases (w0c h :(SO.x (.map _ _ _ z.1 none):SO V.T)=_)
 | .fix E c::os,z,0,kc,vc,rem,rem2,cur,h,hp=>by cases (w0c h :(SO.x (.fix E c z.1):SO V.T)=_)
 | .nst E E2 c none::os,z,0,kc,vc,rem,rem2,cur,h,hp=>by cases (w0c h :(SO.x (.nst E E2 c z.1 none):SO V.T)=_)
 | .nst E E2 c (some q)::os,z,0,kc,vc,rem,rem2,cur,h,hp=>by cases (w0c h :(SO.x (.nst E E2 c z.1 (some (z.2.1,q))):SO V.T)=_)
 | .box t ls::os,z,0,kc,vc,rem,rem2,cur,h,hp=>by cases (w0c h :(SO.box t (enL V ls z).1:SO V.T)=_)
theorem yb6{fs:List (Fm V.T)}{os:List (SO V.T)}:(mkS V fs os).ob=os:=by cases fs<;>rfl
theorem yeh[Dr]{acts:List GA}{s:SS V.T}{a:Act}{w:World}(h:SatS V C acts s a w):∀o∈s.ob,okO V o:=by
 obtain⟨hd,hn,hkn,hgb,A,ro,S,hl,hw,hev,hsl,hst⟩:=h;intro o ho;obtain⟨i,hi⟩:=w3o ho;have hlt:=(w02.1 hi).1;obtain⟨q,hq⟩:∃q,A[i]? = some q:=⟨A[i],by simp[hl,hlt]⟩;have hd:=hw.obj i _ (zn V N.P (A:=A) (ps:=A) hq hi);unfold okO;split
 .obtain⟨_,t,Sk,hm,_,hc,_⟩:=hd;rw[<- hm];exact w2s.2 hc.1
 .exact hd.2.2.1
 .trivial
theorem ygf[Dr](hN:z4t V N){h:Sh}{z:h.Z V.T}{ops:Array Oper}{K:KX V R}{acts:List GA}{Q:Exit->Act->World->Prop}(hz:∀z',h.eqZ V.T z z'->pkX V N ops (h.enc V z') K=some r)(h0:pkX V N ops (h.enc V z) K=some r)
  (hK:∀e s a w,K e s=some r->SatS V C acts s a w->Q e a w) {Γ:List (Option (Nat×Nat))} (hΓ:acts.map GA.lpI=Γ) {rd:Option Nat} {id:Nat} {a:Act} {w:World} (hs:SatS V C acts (h.enc V z) a w) :(Code.region id ops false).wpIn (fz rd) 0 N.P Q a w:=by
 refine wpIn_region ?_;have hrun:∀(os:List Oper)(s:SS V.T)(a:Act)(w:World),os=ops.toList.drop 1->z59 V N (λ_=>Dfl V N R) ops.toList 1 os s (λs=>K .normal s)=some r->SatS V C acts s a w->wpOpsIn (fz rd) 0 N.P ops Q (List.range' 1 os.length) a w:=λos s a w ho h hs=>zjv hN hΓ (z8g hN Γ) (hK .normal) os 1 s a w ho h hs
 have h0':=h0;unfold pkX at h0;cases hl:ops.toList with
 |nil=>rw[hl] at h0;cases h0
 |cons o os=>
  obtain⟨dst,op,ty,pos,aft,guard⟩:=o;have ho:ops[0]? = some ⟨dst,op,ty,pos,aft,guard⟩:=by
   have:ops.toList[0]? = some ⟨dst,op,ty,pos,aft,guard⟩:=by rw[hl];rfl
   simpa using this
  have hsz:ops.size=os.length+1:=by have:=congrArg List.length hl;simpa using this
  have hos:os=ops.toList.drop 1:=by rw[hl];rfl
  rw[hl] at h0;simp only at h0;split at h0
  .rename_i x;split at h0
   .rename_i j hx;split at h0
    .rename_i kc vc rem cur hob;rw[hsz,w3q,w49,wpOpsIn];simp only[ho,Region.wanted,if_true];refine(ye3 (k:=λs=>z59 V N (λ_=>Dfl V N R) ops.toList 1 os s (λs=>K .normal s)) hx hob ?_ ?_ ?_ hs λs2 v0 w' hk hs2=>hrun os s2 _ w' hos hk hs2)
     .intro hne;cases rem with
      |nil=>exact absurd rfl hne
      |cons e rem=>
       simp only at h0;cases hk:V.key kc with
       |true=>rfl
       |false=>rw[hk] at h0;cases h0
     .intro hr;subst hr;simp only at h0;rw[hl];exact h0
     .intro e rem' hp;have hob' :(enO V h.ob (enF V h.fr z).2)[j]? = some (.x (.it kc vc rem cur)):=by have :(h.enc V z).ob=enO V h.ob (enF V h.fr z).2:=yb6;rw[<- this];exact hob
      obtain⟨y2,g1,g2⟩:=ztn h.ob (enF V h.fr z).2 hob' hp;obtain⟨z2,f1,f2⟩:=ygt h.fr (eqZo V.T h.ob) z y2 g1;have hpk:=hz z2 f1;have henc:h.enc V z2 = { h.enc V z with ob:=(h.enc V z).ob.set j (.x (.it kc vc (e::rem') none)) }:=by show mkS V (enF V h.fr z2).1 (enO V h.ob (enF V h.fr z2).2) = { mkS V (enF V h.fr z).1 (enO V h.ob (enF V h.fr z).2) with ob:=(mkS V (enF V h.fr z).1 (enO V h.ob (enF V h.fr z).2)).ob.set j (.x (.it kc vc (e::rem') none)) };rw[f2,yb6];show mkS V (enF V h.fr z).1 (enO V h.ob y2)=_;rw[g2];cases (enF V h.fr z).1<;>rfl
      have hjl:=(w02.1 hob).1;rw[henc] at hpk;unfold pkX at hpk;rw[hl] at hpk;simp only[hx,w1i hjl] at hpk;cases hk:V.key kc with
      |false=>rw[hk] at hpk;cases hpk
      |true=>rw[hk] at hpk;simp only[cond_true,updO,w31] at hpk;simp only[updO];rw[hl];exact hpk
    .cases h0
   .cases h0
  .cases h0
theorem y92{g:GA}{f k:Nat}(h:g.lpI=some (f,k)):∃L rec,g.lp=some (L,rec,f,k)/\rec.state = .ready:=by
 unfold GA.lpI at h;split at h
 .rename_i L rec q hq;split at h
  .rename_i hr;simp only[w00] at h;subst h;exact⟨L,rec,hq,hr⟩
  .cases h
 .cases h
theorem y1v[Dr]{A:Asg}{sl:Sls V.T}{p:Nat}{x:SV V.T}{a:Act}{ro:Nat->Prop}{w:World}{v:Value}(hp:p<a.tmps.size)(h:ze (slD V N.P A [] sl) a ro w)(hx :(x.den V N.P A).h ro w v):
  ze (slD V N.P A [] ((p,[],x)::sl)) { a with tmps:=a.tmps.setIfInBounds p v } ro w:=by
 intro t X hX;have hg:=zj7 a (some p) v t (λy hy=>by simp at hy;subst hy;exact hp);change ({ a with tmps:=a.tmps.setIfInBounds p v } : Act).tmps.getD t undef=_ at hg;rw[hg];simp only[slD,z07] at hX;by_cases e:t=p
 .rw[if_pos e] at hX;simp only[w0u,w00] at hX;subst hX;rw[if_pos (by rw[e])];exact hx
 .rw[if_neg e] at hX;rw[if_neg (λq=>e (by simpa using q.symm))];exact h t X hX
theorem zwe[Dr]{A:Asg}{ro:Nat->Prop}{w:World}: ∀(ps:List Nat)(vs:List (SV V.T))(us:List Value)(sl:Sls V.T)(tm:Array Value)(df:List Deferred),ps.length=vs.length->us.length=vs.length->(∀p∈ps,p<tm.size)->
  (∀(i:Nat)(B:VP),(denV V N.P A vs)[i]? = some B->B.h ro w (us.getD i undef))->ze (slD V N.P A [] sl) { tmps:=tm,defers:=df } ro w->
  ze (slD V N.P A [] (zipP ps vs sl)) { tmps:=(ps.zip us).foldl (λt q=>t.setIfInBounds q.1 q.2) tm,defers:=df } ro w
 | [],vs,us,sl,tm,df,_,_,_,_,h=>by cases vs<;>exact h
 |p::ps,[],us,sl,tm,df,h1,_,_,_,_=>by cases h1
 |p::ps,v::vs,[],sl,tm,df,_,h2,_,_,_=>by cases h2
 |p::ps,v::vs,u::us,sl,tm,df,h1,h2,h3,h4,h=>by
  have hv :(v.den V N.P A).h ro w u:=by simpa using h4 0 _ (by simp[denV])
  have hs:=y1v (a:={ tmps:=tm,defers:=df }) (h3 p (w0l ..)) h hv;exact zwe ps vs us ((p,[],v)::sl) (tm.setIfInBounds p u) df (by simpa using h1) (by simpa using h2) (λq hq=>by simpa using h3 q (w0h _ hq)) (λi B hB=>by simpa using h4 (i+1) B (by simpa[denV] using hB)) hs
theorem zrr:∀(ps:List Nat)(vs:List (SV V.T))(sl:Sls V.T),(∀t ch z,lk sl t=some (ch,z)->ch = [])->∀t ch z,lk (zipP ps vs sl) t=some (ch,z)->ch = []
 | [],vs,sl,h=>by cases vs<;>exact h
 |p::ps,[],sl,h=>h
 |p::ps,v::vs,sl,h=>zrr ps vs _ λt ch z hz=>by
  simp only[z07] at hz;split at hz
  .simp only[w00,w0f] at hz;exact hz.1.symm
  .exact h t ch z hz
theorem zr8:∀(l:List (Nat×Value))(tm:Array Value),(l.foldl (λt q=>t.setIfInBounds q.1 q.2) tm).size=tm.size
 | [],_=>rfl
 |q::l,tm=>by rw[w2f,zr8 l];simp
theorem zy1[Dr]{A:Asg}{f:Fm V.T}{m:Nat}{a:Act}{ro:Nat->Prop}{w:World}(h:ze (slD V N.P A f.gb f.sl) a ro w){tm:Array Value}{df:List Deferred}(htm:∀t,t<m->tm.getD t undef=a.tmps.getD t undef):
  ze (slD V N.P A [] (f.sl.filter λp=>zde f.sl p.1&&Nat.blt p.1 m)) { tmps:=tm,defers:=df } ro w/\∀t ch z,lk (f.sl.filter λp=>zde f.sl p.1&&Nat.blt p.1 m) t=some (ch,z)->ch = []:=by
 have key:∀t ch z,lk (f.sl.filter λp=>zde f.sl p.1&&Nat.blt p.1 m) t=some (ch,z)->lk f.sl t=some (ch,z)/\ch = []/\t<m:=by
  intro t ch z hz;have h1:=z9h (λk=>zde f.sl k&&Nat.blt k m) hz;have h2:=(w0i.1 (zgh hz)).2;simp only[zde,h1,w03] at h2;refine⟨h1,?_,w0p h2.2⟩;cases ch with
  |nil=>rfl
  |cons _ _=>cases h2.1
 refine⟨λt X hX=>?_,λt ch z hz=>(key t ch z hz).2.1⟩;simp only[slD] at hX;cases hz:lk (f.sl.filter λp=>zde f.sl p.1&&Nat.blt p.1 m) t with
 |none=>rw[hz] at hX;cases hX
 |some e=>obtain⟨ch,z⟩:=e;rw[hz] at hX;obtain⟨h1,h2,h3⟩:=key t ch z hz;subst h2;show X.h ro w (tm.getD t undef);rw[htm t h3];exact h t X (by simp only[slD,h1];exact hX)
theorem EvM.recS[Dr]{B:Nat}{r0 ro:Nat->Prop}{wI w:World}{l l':List Deferred}{L:Nat}{rec rec':Loop}{q:Nat×Nat}{ps:List (Nat×Loop×Nat×Nat)}(h:EvM B r0 wI (l++l') ((L,rec,q)::ps) ro w):EvM B r0 wI l' ((L,rec',q)::ps) ro (w.putObj L (.loop rec')):=by
 have hn:=w1x.1 h.bk.lp.1;obtain⟨g1,g2,g3⟩:=h.bk.lp.2 _ (w0l ..);obtain⟨Ds,h1,h2,h3⟩:=h.bk.df;obtain⟨Ds1,Ds2,rfl,e1,e2⟩:=List.map_eq_append_iff.1 h1.symm;refine⟨h.ev.putR g2 _,⟨Ds2,e2.symm,(w43.1 h2).2.1,λD hD=>?_⟩,h.bk.lp.1,λp hp=>?_⟩
 .obtain⟨a,b,c⟩:=h3 D (w1n _ hD);refine⟨a,b,?_⟩;rw[w1d λ(e:D=L)=>by rw[e,g3] at c;cases c];exact c
 .rcases w08.1 hp with rfl|hp
  .exact⟨g1,g2,World.putObj_heap_same (w19.1 g3).1⟩
  .obtain⟨a,b,c⟩:=h.bk.lp.2 p (w0h _ hp);refine⟨a,b,?_⟩;rw[w1d λ(e:p.1=L)=>hn.1 (w0a.2 ⟨p,hp,e⟩)];exact c
theorem Stk.swap[Dr]{P:Program}{A:Asg}{ro:Nat->Prop}{w:World}{L:Nat}{rec rec':Loop}{q:Nat×Nat}{act:Act}(h1:rec'.tmps=rec.tmps)(h2:rec'.pending=rec.pending)(h3:rec'.params=rec.params)(h4:rec'.assign=rec.assign)(h5:rec'.body=rec.body){fs:List (Fm V.T)}{gs:List GA}
  (h:Stk V P A ro w fs (⟨act,some (L,rec,q)⟩::gs)):Stk V P A ro w fs (⟨act,some (L,rec',q)⟩::gs):=by
 cases fs with
 |nil=>exact h.elim
 |cons f fs=>obtain⟨⟨k1,k2,k3,k4,k5⟩,k6⟩:=h;refine⟨⟨k1,k2,k3,λx hx=>?_,k5⟩,k6⟩;simp only[w00] at hx;subst hx;obtain⟨m1,m2,g,m3⟩:=k4 _ rfl;exact⟨h1.trans m1,h2.trans m2,g,by rw[h3,h4,h5];exact m3⟩
theorem Stk.swap2[Dr]{P:Program}{A:Asg}{ro:Nat->Prop}{w:World}{L:Nat}{rec rec':Loop}{q:Nat×Nat}{act:Act}{g:GA}(h1:rec'.tmps=rec.tmps)(h2:rec'.pending=rec.pending)(h3:rec'.params=rec.params)(h4:rec'.assign=rec.assign)(h5:rec'.body=rec.body){fs:List (Fm V.T)}{gs:List GA}
  (h:Stk V P A ro w fs (g::⟨act,some (L,rec,q)⟩::gs)):Stk V P A ro w fs (g::⟨act,some (L,rec',q)⟩::gs):=by
 cases fs with
 |nil=>exact h.elim
 |cons f fs=>exact⟨h.1,Stk.swap h1 h2 h3 h4 h5 h.2⟩
theorem y03{B:Nat}{r0 ro:Nat->Prop}{wI w:World}{l:List Deferred}{L:Nat}{rec:Loop}{q:Nat×Nat}{ps:List (Nat×Loop×Nat×Nat)}(h:EvM B r0 wI l ((L,rec,q)::ps) ro w):ro L/\B<=L/\w.heap[L]? = some (.loop rec):=by obtain⟨g1,g2,g3⟩:=h.bk.lp.2 _ (w0l ..);exact⟨g1,(h.ev.2.2 L g1).resolve_left g2,g3⟩
theorem EvM.gone[Dr]{B:Nat}{r0 ro:Nat->Prop}{wI w:World}{l:List Deferred}{L:Nat}{rec:Loop}{q:Nat×Nat}{ps:List (Nat×Loop×Nat×Nat)}(h:EvM B r0 wI l ((L,rec,q)::ps) ro w)(o:Obj):EvM B r0 wI l ps ro (w.putObj L o):=by
 have hn:=w1x.1 h.bk.lp.1;obtain⟨g1,g2,g3⟩:=h.bk.lp.2 _ (w0l ..);obtain⟨Ds,h1,h2,h3⟩:=h.bk.df;refine⟨h.ev.putR g2 _,⟨Ds,h1,h2,λD hD=>?_⟩,hn.2,λp hp=>?_⟩
 .obtain⟨a,b,c⟩:=h3 D hD;refine⟨a,b,?_⟩;rw[w1d λ(e:D=L)=>by rw[e,g3] at c;cases c];exact c
 .obtain⟨a,b,c⟩:=h.bk.lp.2 p (w0h _ hp);refine⟨a,b,?_⟩;rw[w1d λ(e:p.1=L)=>hn.1 (w0a.2 ⟨p,hp,e⟩)];exact c
theorem yhx[Dr](hN:z4t V N){Γ:List (Option (Nat×Nat))}{f k:Nat}(hΓ:Γ.head? = some (some (f,k))){run:Code->SS V.T->KX V R->Option R}{g0:Operand}{ps:Array Tmp}{asg bd:Code}(h0:rfAt N.P f k=some (g0,ps,asg,bd))
  {inl:Inl V R} (hin:∀s K,inl YID (.goto 0) s K=ylX V N run f k s K) {kk:SV V.T->SS V.T->Option R} (hbd:zmf (none::none::Γ.tail) C r run bd (yK V kk)):YOK Γ C r inl kk:=by
 intro rd acts hacts s vs a w A ro S hy hn hkn hgb hl hw hev hsl hst args ha1 ha2 R' hk;unfold zyi at hy;rw[hin] at hy;cases acts with
 |nil=>subst hacts;cases hΓ
 |cons g gs=>
  subst hacts;simp only[w0e,List.head?_cons,w00] at hΓ;obtain⟨L,rec,hg,hrdy⟩:=y92 hΓ;obtain⟨gact,glp⟩:=g;change glp=_ at hg;subst hg;unfold ylX at hy;rw[h0] at hy;split at hy
  rotate_left
  .cases hy
  rename_i gg ps' asg' bd' it ow stk heq hstk;simp only[w00,w0f] at heq;obtain⟨rfl,rfl,rfl,rfl⟩:=heq;simp only[w28] at hstk;obtain⟨rfl,hstk⟩:=hstk;have hlen :(zfj V 0 vs).length=vs.length:=by
   have:∀(n:Nat)(l:List (SV V.T)),(zfj V n l).length=l.length:=by
    intro n l
    induction l generalizing n with
    |nil=>rfl
    |cons x l ih=>simp[zfj,ih]
   exact this 0 vs
  have hmap :(zfj V 0 vs).map (λx=>x.2.2)=vs:=by
   have:∀(n:Nat)(l:List (SV V.T)),(zfj V n l).map (λx=>x.2.2)=l:=by
    intro n l
    induction l generalizing n with
    |nil=>rfl
    |cons x l ih=>simp[zfj,ih]
   exact this 0 vs
  simp only[hmap,hlen] at hy;cases hb :(noRF asg&&noRF bd&&Nat.beq ps.size vs.length&&ps.toList.all (λp=>Nat.blt p (ow.n-1))) with
  |false=>rw[hb] at hy;cases hy
  |true=>
  rw[hb] at hy;simp only[cond_true] at hy;simp only[w03] at hb;obtain⟨⟨⟨b1,b2⟩,b3⟩,b4⟩:=hb;have b3:=w01 b3;have b4:∀p∈ps.toList,p<ow.n-1:=λp hp=>w0p (w0g.1 b4 p hp)
  have hst0:=hst;rw[hstk] at hst0;obtain⟨⟨f1,f2,f3,f4,f5⟩,f6⟩:=hst0;obtain⟨m1,m2,g1,m3⟩:=f4 _ rfl;rw[h0] at m3;simp only[w00,w0f] at m3;obtain⟨rfl,m4,m5,m6⟩:=m3;have hon:gact.tmps.size=ow.n-1:=by have :(gact.tmps.push (.func (.yield L) #[] #[])).size=ow.n:=f5;simp only[w56] at this;omega
  obtain⟨q1,q2,q3⟩:=y03 hev;refine⟨⟨gact,some (L,rec,f,k)⟩,gs,L,(rec,f,k),rfl,rfl,rec.fn,_,rec.assign,rec.body,run_yield q3 (by rw[ha1,<- m4,b3]),?_⟩;refine roundIn_of_wpIn trivial ?_;rw[<- m5,<- m6,<- m4,m1];have hasg:=zsg (C:=C) (r:=r) hN (dfl:=Dfl V N R) (λΓ f fn c K _ _=>zs9 hN 8 Γ f c K) (λΓ k=>znb 8 Γ k) asg (none::(GA.lpI ⟨gact,some (L,rec,f,k)⟩::gs.map GA.lpI))
   (λe s1=>match e with
     | .normal=>run bd s1 (yK V kk)
     |_=>none) (some L) (⟨a,none⟩::⟨gact,some (L,rec,f,k)⟩::gs)
   (Exit.then (λa₁ w₁=>∃w₂,(Instr.beginRound L).run N.P w₁ = .ok () w₂/\bd.wpIn ((fz rd).inRound L) 0 N.P (roundPost N.P L λe w'=>∃u,e = .returned u/\R' u w') a₁ w₂) (λ_ _ _=>False)) rfl (.inr b1)
  refine hasg ?_ _ _ _ hy ?_
  .intro e s1 a1 w1 hK hs1;cases e with
   |normal=>
    obtain⟨_,hn1,hkn1,hgb1,A1,ro1,S1,hl1,hw1,hev1,hsl1,hst1⟩:=hs1;obtain⟨p1,p2,p3⟩:=y03 (ps:=lps gs) hev1;have hr1:Rec w1.heap[L]?:=.inr ⟨_,p3⟩;refine⟨_,run_beginRound p3 hrdy,?_⟩;refine hbd (some L) (⟨a,none⟩::⟨gact,some (L,{ rec with state:=.busy },f,k)⟩::gs) _ ?_ (.inr b2) ?_ s1 a1 _ hK ?_
    .rfl
    .intro e s2 a2 w2 hK2 hs2;cases e with
     |normal=>
      simp only[yK] at hK2;split at hK2
      .rename_i fm stk2 hstk2;obtain⟨_,hn2,hkn2,hgb2,A2,ro2,S2,hl2,hw2,hev2,hsl2,hst2⟩:=hs2;have hev2':EvM C.base C.r0 C.wI (a2.defers++mks a (⟨gact,some (L,rec,f,k)⟩::gs)) ((L,{ rec with state:=.busy },f,k)::lps gs) ro2 w2:=hev2;obtain⟨v1,v2,v3⟩:=y03 hev2';have hr2:Rec w2.heap[L]?:=.inr ⟨_,v3⟩;refine⟨_,_,run_endRound none v3,.bool true,rfl,?_⟩;have hrec :(({ { rec with state:=.busy } with state:=if(none:Option Code).isNone then .ready else .done,pending:=none } : Loop))=rec:=by obtain⟨st,pe,_⟩:=rec;simp only at hrdy m2;subst hrdy;subst m2;rfl
       rw[hrec];have hst2':=Stk.swap2 (rec:={ rec with state:=.busy }) (rec':=rec) rfl rfl rfl rfl rfl (hst2.putR hr2 (.loop rec));rw[hstk2] at hst2';exact hk (.bool true) _ A2 ro2 S2 _ (.bool true) hK2 hst2'.1.2.2.2.2 hst2'.1.2.1 hst2'.1.2.2.1 hl2 (hw2.put v1 v2 hr2 _) (EvM.recS hev2') hst2'.1.1 hst2'.2 (by simp only[SV.den];rfl)
      .cases hK2
     |exit id=>simp[yK] at hK2
     |goto l=>simp[yK] at hK2
     |ret=>simp[yK] at hK2
     |panic ch=>simp[yK] at hK2
     |outgrown=>simp[yK] at hK2
    .exact⟨trivial,hn1,hkn1,hgb1,A1,ro1,S1,hl1,hw1.put p1 p2 hr1 _,EvM.recS (l:=[]) (ps:=lps gs) hev1,hsl1.putR hr1 _,Stk.swap2 (rec:=rec) (rec':={ rec with state:=.busy }) rfl rfl rfl rfl rfl (hst1.putR hr1 _)⟩
   |exit id=>cases hK
   |goto l=>cases hK
   |ret=>cases hK
   |panic ch=>cases hK
   |outgrown=>cases hK
  .have hps:=zy1 (N:=N) (A:=A) (f:=ow) (m:=ow.n-1) f1 (tm:=gact.tmps) (df:=[]) (λt ht=>by
    show _ =(gact.tmps.push (.func (.yield L) #[] #[])).getD t undef;have:t<gact.tmps.size:=by omega
    simp[w07,w4o,Nat.ne_of_lt this])
   have hargs:args.toList.length=vs.length:=by simpa using ha1
   have hfold :(ps.zip args).foldl (λtmps(t,a)=>tmps.setIfInBounds t a) gact.tmps =(ps.toList.zip args.toList).foldl (λt q=>t.setIfInBounds q.1 q.2) gact.tmps:=by rw[<- Array.foldl_toList,Array.toList_zip]
   refine⟨trivial,?_,trivial,⟨λt g h=>by simp[lk] at h,λt ch z hz p hp=>?_,λp hp=>by simp at hp⟩,A,ro,S,hl,hw,hev,?_,⟨⟨hsl,hkn,hgb,(λx e=>by cases e),hn⟩,hst⟩⟩
   .rw[hfold,zr8];exact hon
   .rw[zrr _ _ _ hps.2 t ch z hz] at hp;simp at hp
   .rw[hfold];exact zwe ps.toList vs args.toList _ gact.tmps [] (by simpa using b3) hargs (λp hp=>by rw[hon];exact b4 p hp) (λi B hB=>by have:=ha2 i B hB;simpa[w07,w1q] using this) hps.1
theorem WInv.two[Dr]{w0 w:World}{base:Nat}{objs:List HP}{ro:Nat->Prop}{S:Nat->Nat->Prop}(h:WInv w0 base objs ro S w)(o1 o2:Obj):
  WInv w0 base objs (λb=>ro b\/b=w.heap.size\/b=w.heap.size+1) S ((w.alloc o1).alloc o2)/\Evo base ro w (λb=>ro b\/b=w.heap.size\/b=w.heap.size+1) ((w.alloc o1).alloc o2):=by
 have hh:∀b,b<w.heap.size->((w.alloc o1).alloc o2).heap[b]? = w.heap[b]?:=λb hb=>(Below.heap_alloc _ _ _ (by simp;omega)).trans (Below.heap_alloc _ _ _ hb)
 refine⟨⟨(h.below.alloc h.size _).alloc (by have:=h.size;simp;omega) _,by have:=h.size;simp;omega,λi H hi=>H.mono (λ_ h=>.inl h) (λb hb=>hh b (h.old b hb)) (λb hb=>hh b (h.own i b hb).2.2.1) (h.obj i H hi),λi b hb=>?_,h.apart,?_⟩,λ_ h=>.inl h,λb hb=>hh b (h.old b hb),?_⟩
 .obtain⟨k1,k2,k3,k4⟩:=h.own i b hb;refine⟨k1,k2,by simp;omega,?_⟩;rintro(k|k|k)
  .exact k4 k
  .omega
  .omega
 .rintro b (k|k|k)
  .have:=h.old b k;simp;omega
  .simp;omega
  .simp;omega
 .have:=h.size
  rintro b (k|k|k)
  .exact .inl k
  .exact .inr (by omega)
  .exact .inr (by omega)
theorem yht[Dr]{Γ:List (Option (Nat×Nat))}{fi f k:Nat}{run:Code->SS V.T->KX V R->Option R}{g0:Operand}{ps:Array Tmp}{asg bd:Code}{K:KX V R}{fn:Func}{c:Code}(h0:rfAt N.P f k=some (g0,ps,asg,bd))(hf:N.P.funcs[fi]? = some fn)(hc:fn.body=some c)
  (hrun:zmf (some (f,k)::Γ) C r run c (rfK V K)) {run':Code->SS V.T->KX V R->Option R} (hr':∀s,run' (.rangeFunc g0 ps asg bd) s K=rfX V N fi run g0 s K):zmf Γ C r run' (.rangeFunc g0 ps asg bd) K:=by
 intro rd acts Q hΓ hrd hK s a w h hs;have hrd:rd=none:=hrd.elim id λe=>by cases e
 subst hrd;rw[hr'] at h;unfold rfX at h;split at h
 rotate_left
 .cases h
 rename_i f' caps hev hgn;split at h
 rotate_left
 .cases h
 rename_i fn' hf';split at h
 rotate_left
 .cases h
 rename_i c' hc';cases hb :(Nat.beq f' fi&&zm.fnok N.P f'&&Nat.ble (caps.length+1) fn'.ntmps&&fn'.results.isEmpty) with
 |false=>rw[hb] at h;cases h
 |true=>
 rw[hb] at h;simp only[cond_true] at h;simp only[w03] at hb;obtain⟨⟨⟨b1,b2⟩,b3⟩,b4⟩:=hb;have b1:=w01 b1;subst b1;rw[hf] at hf';cases hf';rw[hc] at hc';cases hc';have b3:=w0p b3;obtain⟨hd,hn,hkn,hgb,A,ro,S,hl,hw,hem,hsl,hst⟩:=hs;have hfv:=z0t V N.P (A:=A) hev hkn a ro w hsl;simp only[SV.den] at hfv;obtain⟨cv,e1,e2,e3⟩:=hfv;rw[zgx] at e2;obtain⟨fn1,k1,k2,k3⟩:=z8p N.P b2;refine wpIn_rangeFunc λfn0 _=>?_
 obtain⟨rec,hrec⟩:∃rec:Loop,rec = { state:=.ready,pending:=none,fn:=fn0,tmps:=a.tmps,params:=ps,assign:=asg,body:=bd,defers:=w.heap.size }:=⟨_,rfl⟩;obtain⟨W1,hW1⟩:∃W1,(w.alloc (.deferred (some []))).alloc (.loop rec)=W1:=⟨_,rfl⟩;have hL1:W1.heap[w.heap.size+1]? = some (.loop rec):=by rw[<- hW1];have:=World.alloc_heap_new (w.alloc (.deferred (some []))) (.loop rec);rwa [World.size_alloc] at this
 have hD1:W1.heap[w.heap.size]? = some (.deferred (some [])):=by rw[<- hW1];exact(Below.heap_alloc _ _ _ (by simp)).trans (World.alloc_heap_new w _)
 obtain⟨hwT,hevT⟩:=hw.two (.deferred (some [])) (.loop rec);rw[hW1] at hwT hevT;refine⟨w.heap.size+1,[mkD w.heap.size],W1,{ target:=.fn (.func f') cv,args:=#[.func (.yield (w.heap.size+1)) #[] #[]] },W1,f',#[.func (.yield (w.heap.size+1)) #[] #[]]++cv,W1,?_,?_,λ_ _=>trivial,?_,λe=>by simp at e,?_⟩
 .rw[<- hW1,hrec];exact run_enterLoop_outer _ _ _ _ _
 .simp only[Go.resolve,e1];simp[go_sem]
 .simp[invoke,z1v k1 k2 k3]
 show CallsIn (fz none) 0 N.P f' _ W1 _;refine callsIn_of_wp_marks hf hc trivial ?_ rfl;obtain⟨a',ha'⟩:∃a':Act,a' = { a with defers:=mkD w.heap.size::a.defers }:=⟨_,rfl⟩;have hfresh:∀b,ro b->b≠w.heap.size/\b≠w.heap.size+1:=λb hb=>by have:=hw.old b hb;omega
 have hr0:∀b,C.r0 b->ro b:=hem.ev.1;refine hrun none (⟨a',some (w.heap.size+1,rec,f,k)⟩::acts) _ (by rw[w0e,hΓ,hrec];rfl) (.inl rfl) ?_ _ _ _ h ?_
 .intro e s' a2 w' hKe hs';have fin :(match s'.stk with
    |fm::stk=>K .normal { popG V fm with stk:=stk,ob:=s'.ob }
    | []=>none)=some r->LeavesInM (fz none) 0 N.P fn a2.tmps (rangePost (fz none) 0 N.P (w.heap.size+1) Q { a with defers:=[mkD w.heap.size]++a.defers }) a2.defers .returning w':=by
   intro hKe;split at hKe
   .rename_i fm stk hstk;obtain⟨_,hn',hkn',hgb',A',ro',S',hl',hw',hev',hsl',hst'⟩:=hs';refine znf hw' hev' hsl' hst' λw2 g1 g2 g3 g4=>?_
    have hres:zhi V N s' fn.results.toList=some []:=by
     have:fn.results.toList = []:=by simpa using b4
     rw[this];rfl
    obtain⟨v,hv,_⟩:=zhb g1 g3 hres;refine⟨v,hv,?_⟩;obtain⟨p1,p2,p3⟩:=y03 (ps:=lps acts) g2;have hr2:Rec w2.heap[w.heap.size+1]?:=.inr ⟨_,p3⟩;have hst2:rec.state = .ready:=by rw[hrec]
    refine⟨_,_,run_endLoop p3 (by rw[hst2];decide),?_⟩;rw[show rec.pending=none by rw[hrec]];rw[hstk] at g4;obtain⟨⟨m1,m2,m3,m4,m5⟩,m6⟩:=g4;have hfn:a.tmps.size=fm.n-1:=by have :(a'.tmps.push (.func (.yield (w.heap.size+1)) #[] #[])).size=fm.n:=m5;rw[ha'] at this;simp only[w56] at this;omega
    have hlkf:∀t x,lk (popG V fm).sl t=some x->lk fm.sl t=some x/\t≠fm.n-1:=by intro t x hx;refine⟨z9h (λp=>!Nat.beq p (fm.n-1)) hx,?_⟩;have:=(w0i.1 (zgh hx)).2;intro e;subst e;simp[w2j] at this
    refine hK _ _ _ _ hKe ⟨trivial,hfn,m2,⟨λt g hg ch z hz=>m3.val t g hg ch z (hlkf _ _ hz).1,λt ch z hz=>m3.ch t ch z (hlkf _ _ hz).1,m3.kn⟩,A',ro',S',hl',g1.put p1 p2 hr2 _,?_,?_,m6.putR hr2 _⟩
    .have:=EvM.gone (ps:=lps acts) g2 (.loop { rec with state:=.exhausted,pending:=none })
     rw[ha',w0w] at this;exact this
    .refine ze.putR hr2 _ λt X hX=>?_
     simp only[slD] at hX;cases hz:lk (popG V fm).sl t with
     |none=>rw[hz] at hX;cases hX
     |some x=>
      rw[hz] at hX;obtain⟨z1,z2⟩:=hlkf _ _ hz;have:=m1 t X (by simp only[slD,z1];exact hX);rw[show (GA.tm ⟨a',some (w.heap.size+1,rec,f,k)⟩).tmps=a.tmps.push (.func (.yield (w.heap.size+1)) #[] #[]) by rw[ha'];rfl] at this;have hne:t≠a.tmps.size:=by omega
      simpa[w07,w4o,hne] using this
   .cases hKe
  cases e with
  |ret=>exact fin hKe
  |normal=>exact fin hKe
  |exit id=>simp[rfK] at hKe
  |goto l=>simp[rfK] at hKe
  |panic ch=>simp[rfK] at hKe
  |outgrown=>simp[rfK] at hKe
 .have hA1:AExt A (A++[((0:Nat),(.func (.yield (w.heap.size+1)) #[] #[]:Value))]):=AExt.app A _;have hAt :(A++[((0:Nat),(.func (.yield (w.heap.size+1)) #[] #[]:Value))])[s.ob.length]? = some (0,.func (.yield (w.heap.size+1)) #[] #[]):=zaq A _ _ hl;obtain⟨S2,hw2⟩:=z3j (P:=N.P) (A:=A) (B:=[((0:Nat),(.func (.yield (w.heap.size+1)) #[] #[]:Value))]) (ob:=s.ob) hl (us:=[.emp]) (H:=[Px.emp]) ⟨EntH.refl,trivial⟩ _ _ _ _ _ (hwT.addNil Px.emp trivial);have hslT:=hsl.evo hevT;refine⟨trivial,by simp[e2];omega,trivial,⟨λt g h=>by simp[lk] at h,λt ch z hz p hp=>?_,λp hp=>by simp at hp⟩,A++[(0,.func (.yield (w.heap.size+1)) #[] #[])],_,S2,by simp[hl],hw2,?_,?_,⟨⟨?_,hkn,⟨?_,?_,hgb.kn⟩,?_,?_⟩,hst.ext hA1 hevT⟩⟩
  .rw[zcd] at hz;simp only[w2p,if_true,w1j,w0f] at hz;obtain⟨_,_,rfl,_⟩:=hz;simp at hp
  .have hem1:=hem.trans hevT;obtain⟨Ds,d1,d2,d3⟩:=hem1.bk.df;obtain⟨Ds0,d10,d20,d30⟩:=hem.bk.df;have hDs:Ds=Ds0:=by
    have hinj:∀(l m:List Nat),l.map mkD=m.map mkD->l=m:=by
     intro l
     induction l with
     |nil=>intro m h;cases m with
      |nil=>rfl
      |cons _ _=>simp at h
     |cons x l ih=>intro m h;cases m with
      |nil=>simp at h
      |cons y m=>
       simp only[w0e,w28] at h;rw[ih m h.2];have:x=y:=by simpa[mkD] using h.1
       rw[this]
    exact hinj _ _ (d1.symm.trans d10)
   subst hDs;refine⟨hem1.ev,⟨w.heap.size::Ds,?_,?_,?_⟩,?_,?_⟩
   .show mks _ (_::acts)=_;have:mks a acts=Ds.map mkD:=d1;rw[ha',w0e,<- this];rfl
   .exact w1x.2 ⟨λhm=>(hfresh _ (d30 _ hm).1).1 rfl,d2⟩
   .intro D hD;rcases w08.1 hD with rfl|hD
    .exact⟨.inr (.inl rfl),λe=>(hfresh _ (hr0 _ e)).1 rfl,hD1⟩
    .exact d3 D hD
   .show (((w.heap.size+1,rec,f,k)::lps acts).map (·.1)).Nodup;rw[w0e];refine w1x.2 ⟨λhm=>?_,hem1.bk.lp.1⟩;obtain⟨p,hp,e⟩:=w0a.1 hm;exact(hfresh _ (hem.bk.lp.2 p hp).1).2 e
   .intro p hp;have hp:p∈(w.heap.size+1,rec,f,k)::lps acts:=hp;rcases w08.1 hp with rfl|hp
    .exact⟨.inr (.inr rfl),λe=>(hfresh _ (hr0 _ e)).2 rfl,hL1⟩
    .exact hem1.bk.lp.2 p hp
  .refine zyn (by simp[e2];omega) λi B hB=>?_
   cases i with
   |zero=>simp only[denV,w1z,w00] at hB;subst hB;simp only[SV.den,hAt];show (#[Value.func (.yield (w.heap.size+1)) #[] #[]]++cv).getD 0 undef=Value.func (.yield (w.heap.size+1)) #[] #[];simp[w07,w15]
   |succ i=>simp only[denV,w20] at hB;obtain⟨X,x1,x2⟩:=(zqu (zis V N.P hA1 caps)).2 i B hB;have:=x2 _ _ _ ((X.evo hevT) (e3 i X x1));simpa[w07,w15] using this
  .intro t X hX;have htm :(GA.tm ⟨a',some (w.heap.size+1,rec,f,k)⟩).tmps=a.tmps.push (.func (.yield (w.heap.size+1)) #[] #[]):=by rw[ha'];rfl
   rw[htm];simp only[slD,z07] at hX;by_cases e:t=s.n
   .rw[if_pos e] at hX;simp only[w0u,w00] at hX;subst hX;simp only[denE,SV.den,hAt];rw[e,<- hn];show (a.tmps.push (.func (.yield (w.heap.size+1)) #[] #[])).getD a.tmps.size undef = .func (.yield (w.heap.size+1)) #[] #[];simp[w07]
   .rw[if_neg e] at hX;have h1:=zey V N.P hA1 hslT t X hX;have hne:t≠a.tmps.size:=by omega
    simpa[w07,w4o,hne] using h1
  .intro t g hg ch z hz;have hz:lk ((s.n,[],SV.own s.ob.length)::s.sl) t=some (ch,z):=hz;rw[z07] at hz;by_cases e:t=s.n
   .have hg:lk s.gb t=some g:=hg;rw[e,hgn] at hg;cases hg
   .rw[if_neg e] at hz;exact hgb.val t g hg ch z hz
  .intro t ch z hz p hp;have hz:lk ((s.n,[],SV.own s.ob.length)::s.sl) t=some (ch,z):=hz;rw[z07] at hz;by_cases e:t=s.n
   .rw[if_pos e] at hz;simp only[w00,w0f] at hz;rw[<- hz.1] at hp;cases hp
   .rw[if_neg e] at hz;exact hgb.ch t ch z hz p hp
  .intro x hx;simp only[w00] at hx;subst hx;exact⟨by rw[hrec,ha'],by rw[hrec],g0,by rw[hrec];exact h0⟩
  .show (GA.tm ⟨a',some (w.heap.size+1,rec,f,k)⟩).tmps.size=s.n+1;rw[show (GA.tm ⟨a',some (w.heap.size+1,rec,f,k)⟩).tmps=a.tmps.push (.func (.yield (w.heap.size+1)) #[] #[]) by rw[ha'];rfl];simp[hn]
theorem yf9[Dr](hN:z4t V N)(φ:Nat)(h:H V R):(∀Γ c K,obl V N φ Γ h none c K->zmf Γ C r (ex V N φ h).run c K)/\
  (∀Γ full id ops d K,obl V N φ Γ h (some full) (.region id ops d) K->ztv Γ C r (ex V N φ h).inl ops full K):=by
 induction h with
 |x=>exact⟨λΓ c K _=>zsg hN (λΓ f fn c K _ _=>zs9 hN 8 Γ f c K) (λΓ k=>znb 8 Γ k) c Γ K,λΓ full id ops d K _=>z8g hN Γ⟩
 |no=>refine⟨λΓ c K ho=>?_,λΓ full id ops d K _=>z8g hN Γ⟩;intro rd acts Q hΓ hrd hK s a w h hs;cases h
 |seq h1 h2 i1 i2=>
  refine⟨λΓ c K ho=>?_,λΓ full id ops d K _=>z8g hN Γ⟩;cases c with
  |seq x y=>intro rd acts Q hΓ hrd hK s a w h hs;obtain⟨r1,r2⟩:=zxr hrd;exact wpIn_seq (i1.1 _ _ _ ho.1 rd acts _ hΓ r1 (zth (λs a w h hs=>i2.1 _ y K ho.2 rd acts Q hΓ r2 hK s a w h hs) hK) s a w h hs)
  |_=>exact ho.elim
 |cond h1 h2 i1 i2=>
  refine⟨λΓ c K ho=>?_,λΓ full id ops d K _=>z8g hN Γ⟩;cases c with
  |cond o x y=>intro rd acts Q hΓ hrd hK s a w h hs;obtain⟨r1,r2⟩:=zzv hrd;exact zyt h hs (λh=>i1.1 _ x K ho.1 rd acts Q hΓ r1 hK s a w h hs) (λh=>i2.1 _ y K ho.2 rd acts Q hΓ r2 hK s a w h hs)
  |_=>exact ho.elim
 |body h ih=>
  refine⟨λΓ c K ho=>?_,λΓ full id ops d K _=>z8g hN Γ⟩;cases c with
  |block id c=>intro rd acts Q hΓ hrd hK s a w h hs;exact wpIn_block (ih.1 _ c _ ho rd acts _ hΓ hrd (y2n hK) s a w h hs)
  |scope c=>intro rd acts Q hΓ hrd hK s a w h hs;exact zrq (ih.1 _ c _ ho rd acts _ hΓ hrd (yb7 hK) s a w h hs)
  |_=>exact ho.elim
 |loop h L b ih=>
  refine⟨λΓ c K ho=>?_,λΓ full id ops d K _=>z8g hN Γ⟩;cases c with
  |loop c=>
   obtain⟨h0,hS,hb⟩:=ho;intro rd acts Q hΓ hrd hK s a w hr hs;obtain⟨z,hz,hL⟩:=zdo hr;have key:∀n z,L n z=some r->∀a w,SatS V C acts (h.enc V z) a w->Code.roundsIn (fz rd) 0 N.P c Q n a w:=by
    intro n
    induction n with
    |zero=>intro z hz;rw[h0] at hz;cases hz
    |succ n ihn=>intro z hz a w hs;rw[hS] at hz;refine(ih (L n)).1 Γ c _ (hb n) rd acts (Exit.then (Code.roundsIn (fz rd) 0 N.P c Q n) Q) hΓ hrd (zth (λs a w h hs=>?_) hK) _ a w hz hs;obtain⟨z',hz',hL'⟩:=zdo h;exact ihn z' hL' a w (zr2 hs _ z' hz')
   exact wpIn_loop_rounds φ (key φ z hL a w (zr2 hs h z hz))
  |_=>exact ho.elim
 |join h J b ih=>
  refine⟨λΓ c K ho=>?_,λΓ full id ops d K _=>z8g hN Γ⟩;have ho' :(∀z,J z=K .normal (h.enc V z))/\obl V N φ Γ b none c (seqK V (λs=>zrv (h.dec V s) J) K):=by cases c<;>exact ho
  intro rd acts Q hΓ hrd hK s a w hr hs;refine ih.1 Γ c _ ho'.2 rd acts Q hΓ hrd (λe s a w hk hs=>?_) s a w hr hs;cases e with
  |normal=>obtain⟨z,hz,hJ⟩:=zdo hk;rw[ho'.1] at hJ;exact hK _ _ a w hJ (zr2 hs h z hz)
  |_=>exact hK _ s a w hk hs
 |ins i f h rest ih1 ih2=>
  have B:∀Γ full id ops d K,obl V N φ Γ (.ins i f h rest) (some full) (.region id ops d) K->ztv Γ C r (ex V N φ (.ins i f h rest)).inl ops full K:=by
   intro Γ full id ops d K ho;obtain⟨ho1,ho2⟩:=ho;obtain⟨b1,b2⟩:=ih2.2 Γ full id ops d K ho2;refine⟨λj g fn c hf hc=>?_,λj=>?_⟩
   .show zmf _ C r (λc s K=>bif Nat.beq j i&&Nat.beq g f&&Nat.ble (g+1) YID then(ex V N φ h).run c s K else(ex V N φ rest).inl j g c s K) c _;cases he :(Nat.beq j i&&Nat.beq g f&&Nat.ble (g+1) YID) with
    |false=>exact b1 j g fn c hf hc
    |true=>simp only[w03] at he;have e1:=w01 he.1.1;have e2:=w01 he.1.2;subst e1;subst e2;rw[hf] at ho1;simp only[hc] at ho1;exact ih1.1 _ c _ ho1
   .have:=b2 j
    intro rd acts hΓ s vs a w A ro S hy;refine this rd acts hΓ s vs a w A ro S ?_;have e :(Nat.beq j i&&Nat.beq YID f&&Nat.ble (YID+1) YID)=false:=by rw[show Nat.ble (YID+1) YID=false from rfl,Bool.and_false]
    change (bif Nat.beq j i&&Nat.beq YID f&&Nat.ble (YID+1) YID then _ else(ex V N φ rest).inl j YID _ _ _)=_ at hy;rw[e] at hy;exact hy
  refine⟨λΓ c K ho=>?_,B⟩;cases c with
  |region id ops d=>intro rd acts Q hΓ hrd hK s a w h hs;exact zy4 hN (B Γ _ id ops d K ho) hΓ hK h hs
  |_=>exact ho.elim
 |rf f k fi h ih=>
  refine⟨λΓ c K ho=>?_,λΓ full id ops d K _=>z8g hN Γ⟩;cases c with
  |rangeFunc g ps asg bd=>
   obtain⟨h0,ho⟩:=ho;split at ho
   .rename_i fn hf;split at ho
    .rename_i c hc;exact yht h0 hf hc (ih.1 _ c _ ho) λs=>rfl
    .exact ho.elim
   .exact ho.elim
  |_=>exact ho.elim
 |yl i f k h rest ih1 ih2=>
  have B:∀Γ full id ops d K,obl V N φ Γ (.yl i f k h rest) (some full) (.region id ops d) K->ztv Γ C r (ex V N φ (.yl i f k h rest)).inl ops full K:=by
   intro Γ full id ops d K ho;obtain⟨⟨hΓ,hY,ho1⟩,ho2⟩:=ho;obtain⟨b1,b2⟩:=ih2.2 Γ full id ops d K ho2;refine⟨λj g fn c hf hc=>?_,λj=>?_⟩
   .show zmf _ C r (λc s K=>bif Nat.beq j i&&Nat.beq g YID then ylX V N (ex V N φ h).run f k s K else(ex V N φ rest).inl j g c s K) c _;cases he :(Nat.beq j i&&Nat.beq g YID) with
    |false=>exact b1 j g fn c hf hc
    |true=>simp only[w03] at he;have e2:=w01 he.2;subst e2;rw[hY] at hf;cases hf
   .cases he:Nat.beq j i with
    |false=>have:=b2 j;intro rd acts hΓ s vs a w A ro S hy;refine this rd acts hΓ s vs a w A ro S ?_;change (bif Nat.beq j i&&Nat.beq YID YID then _ else(ex V N φ rest).inl j YID _ _ _)=_ at hy;rw[he] at hy;exact hy
    |true=>
     have e1:=w01 he;subst e1;split at ho1
     .rename_i g0 ps asg bd h0;refine yhx hN hΓ h0 (λs K=>?_) (ih1.1 _ bd _ ho1);show (bif Nat.beq j j&&Nat.beq YID YID then ylX V N (ex V N φ h).run f k s K else _)=_;rw[he,w2j];rfl
     .exact ho1.elim
  refine⟨λΓ c K ho=>?_,B⟩;cases c with
  |region id ops d=>intro rd acts Q hΓ hrd hK s a w h hs;exact zy4 hN (B Γ _ id ops d K ho) hΓ hK h hs
  |_=>exact ho.elim
 |foc p q h ih=>
  refine⟨λΓ c K ho=>?_,λΓ full id ops d K ho=>ih.2 Γ full id ops d K ho⟩;have ho':obl V N φ Γ h none c K:=by cases c<;>exact ho
  intro rd acts Q hΓ hrd hK s a w hr hs;change (match y5w V s p.1 p.2 with
   |some (.own i)=>bif y4d s.ob[i]? then focM V s i (keyX V s q) λs=>(ex V N φ h).run c s K else(match focP V p q s with
    |some (i,m)=>focX V s i m λs=>(ex V N φ h).run c s K
    |none=>none)
   |_=>none)=some r at hr
  split at hr
  .rename_i i _;cases hm:y4d s.ob[i]? with
   |true=>rw[hm] at hr;simp only[cond_true] at hr;obtain⟨s',h1,h2⟩:=ycl hr hs;exact ih.1 Γ c K ho' rd acts Q hΓ hrd hK s' a w h1 h2
   |false=>
    rw[hm] at hr;simp only[cond_false] at hr;split at hr
    .obtain⟨s',h1,h2⟩:=ycm hr hs;exact ih.1 Γ c K ho' rd acts Q hΓ hrd hK s' a w h1 h2
    .cases hr
  .cases hr
 |pk h J=>
  refine⟨λΓ c K ho=>?_,λΓ full id ops d K _=>z8g hN Γ⟩;cases c with
  |region id ops d=>obtain⟨rfl,hz,hA⟩:=ho;intro rd acts Q hΓ hrd hK s a w hr hs;obtain⟨z,hz1,hJ⟩:=zdo hr;exact ygf hN (λz' he=>by rw[<- hz,hA z z' he (yeh (zr2 hs h z hz1))];exact hJ) (by rw[<- hz];exact hJ) hK hΓ (zr2 hs h z hz1)
  |_=>exact ho.elim
 |unr n h ih=>
  refine⟨λΓ c K ho=>?_,λΓ full id ops d K _=>z8g hN Γ⟩;cases c with
  |loop c=>
   intro rd acts Q hΓ hrd hK s a w hr hs;have key:∀m s a w,unrX V ((ex V N φ h).run c) m s K=some r->SatS V C acts s a w->Code.roundsIn (fz rd) 0 N.P c Q m a w:=by
    intro m
    induction m with
    |zero=>intro s a w hz;cases hz
    |succ m ihm=>intro s a w hz hs;exact ih.1 Γ c _ (ho _) rd acts (Exit.then (Code.roundsIn (fz rd) 0 N.P c Q m) Q) hΓ hrd (zth (λs a w h hs=>ihm s a w h hs) hK) _ a w hz (yc1 hs)
   exact wpIn_loop_rounds n (key n s a w hr hs)
  |_=>exact ho.elim
 |alt h J J2=>
  refine⟨λΓ c K ho=>?_,λΓ full id ops d K _=>z8g hN Γ⟩;cases c with
  |region id ops d=>obtain⟨hd,hz,hA⟩:=ho;simp only[w03] at hd;obtain⟨rfl,hm⟩:=hd;intro rd acts Q hΓ hrd hK s a w hr hs;obtain⟨z,hz1,hJ⟩:=zdo hr;obtain⟨L,h1,h2⟩:=(hA z).ok r hJ;rw[hz] at h1;exact zwn hN y82 (inl:=λ_=>Dfl V N R) (z8g hN Γ) hΓ hK hm h1 h2 (zr2 hs h z hz1)
  |_=>exact ho.elim
 |frz ps h ih=>
  refine⟨λΓ c K ho=>?_,λΓ full id ops d K ho=>ih.2 Γ full id ops d K ho⟩;have ho':obl V N φ Γ h none c K:=by cases c<;>exact ho
  intro rd acts Q hΓ hrd hK s a w hr hs;exact ih.1 Γ c K ho' rd acts Q hΓ hrd hK _ a w hr (znd _ hs)
 |cut t h ih=>
  refine⟨λΓ c K ho=>?_,λΓ full id ops d K ho=>ih.2 Γ full id ops d K ho⟩;have ho':obl V N φ Γ h none c K:=by cases c<;>exact ho
  intro rd acts Q hΓ hrd hK s a w hr hs;exact ih.1 Γ c K ho' rd acts Q hΓ hrd hK _ a w hr (yca t hs)
end
end Px
end
section
namespace Px
open Go Go.RowKit
section
variable{V:TE}{N:Env V}
theorem zwx[Dr]{P:Program}{A B:Asg}{s:SS V.T}(hl:A.length=s.ob.length):∀(cs:List RC)(l:List (SV V.T))(y:RTup V.T cs)(n:Nat),decR V s cs l=some y->(∀k i,(zn2 V cs l)[k]? = some i->B[n+k]? = some (A.getD i default))->
  F2 Ent (denV V P A l) (denV V P B (encR V n cs y))/\zfi (obD V P A A s.ob) (zn2 V cs l) (obD V P B ((zn2 V cs l).map λi=>A.getD i default) (newR V cs y))/\(newR V cs y).length =(zn2 V cs l).length
 | [],l,y,n,h,hB=>by
  cases l with
  |nil=>exact⟨trivial,trivial,rfl⟩
  |cons x l=>exact zi h
 | .val c::cs,l,y,n,h,hB=>by
  cases l with
  |nil=>exact zi h
  |cons x l=>
   change (match V.dec (rdSl []) c x,decR V s cs l with
    |some y,some r=>some (y,r)
    |_,_=>none)=some y at h
   split at h
   .rename_i y1 r hy hr;have e:=w0c h;subst e;obtain⟨h1,h2,h3⟩:=zwx hl cs l r n hr hB;refine⟨⟨?_,h1⟩,h2,h3⟩;rw[z30];exact z4h V P hy
   .exact zi h
 | .row E c::cs,l,y,n,h,hB=>by
  cases l with
  |nil=>exact zi h
  |cons x l=>
   cases x with
   |own i=>
    cases hr:decR V s cs l with
    |none=>simp[decR,hr] at h
    |some r=>
     simp only[decR,hr] at h;split at h
     .rename_i E' c' z hz;cases hE:Nat.beq E E' with
      |false=>rw[hE] at h;exact zi h
      |true=>
       rw[hE] at h;have:=w01 hE;subst this;simp only[cond_true] at h;split at h
       .rename_i e;subst e;have e:=w0c h;subst e;have hlt:i<A.length:=by rw[hl];exact(w02.1 hz).1
        have ha:A[i]? = some (A.getD i default):=by simp[List.getD,w09 hlt]
        obtain⟨h1,h2,h3⟩:=zwx hl cs l r (n+1) hr λk j hk=>by have:=hB (k+1) j (by simpa[zn2] using hk);rw[<- this];congr 1;omega
        have hb:=hB 0 i rfl;refine⟨⟨?_,h1⟩,⟨⟨_,zn V P ha hz,EntH.refl⟩,h2⟩,by simp[zn2,newR,h3]⟩;simp only[SV.den];rw[ha,show B[n]? = some (A.getD i default) from hb];exact Ent.refl
       .exact zi h
     .exact zi h
   |_=>simp[decR] at h
theorem ya6[Dr]{P:Program}{A B:Asg}: ∀{l m:List (SV V.T)},F2 Ent (denV V P A l) (denV V P B m)->Ent ((resV V l).den V P A) ((resV V m).den V P B)
 | [],[],_=>by simp only[resV,SV.den];exact Ent.refl
 | [x],[y],h=>h.1
 |x::x'::l,y::y'::m,h=>by simp only[resV,SV.den];exact y6y h
 | [],_::_,h=>h.elim
 |_::_,[],h=>h.elim
 | [_],_::_::_,h=>h.2.elim
 |_::_::_,[_],h=>h.2.elim
theorem znw[Dr]{P:Program}{A:Asg}: ∀(cs:List Nat)(x:Tup V.T cs),denV V P A (encA V cs x)=vls V cs x
 | [],_=>rfl
 |c::cs,x=>by simp only[encA,denV,vls,z30,znw cs]
theorem zse:∀(cs:List Nat)(x:Tup V.T cs),(encA V cs x).length=cs.length
 | [],_=>rfl
 |c::cs,x=>by simp only[encA,w0k,zse cs]
theorem zz0:∀(cs:List KC)(x:KCs V.T cs),(encK V cs x).length=cs.length
 | [],_=>rfl
 |c::cs,x=>by simp only[encK,w0k,zz0 cs]
theorem y08[Dr](hN:z4t V N){f φ:Nat}{fn:Func}{rs:List RC}(h:H V (RTup V.T rs))(hf:N.P.funcs[f]? = some fn){us:List (SV V.T)}(hle:us.length<=fn.ntmps){r:RTup V.T rs}
  (hr:fnV V N φ fn rs h us=some r) (ho:fnO V N φ fn rs h):zdn N.P f (denV V N.P [] us) (Kres V N.P rs r):=by
 unfold fnV at hr;unfold fnO at ho;split at hr
 .rename_i c hb;rw[hb] at ho;intro r0 w vs hr0 hl hA;rw[zgx] at hl;refine zfs hf hb ((yf9 hN (r:=r) (C:=(⟨w,w.heap.size,r0,w,fn.ntmps,none,[]⟩:Cx N.P)) φ h).1 [] c _ ho none [] _ rfl (.inl rfl) ?_ _ _ _ hr ?_)
  .intro e s a' w' hK hs;have fin :(match zhi V N s fn.results.toList with
     |some l=>match zhi V N (zv2 V s (zxw V rs l)) fn.results.toList with
      |some l'=>bif zgl (zn2 V rs l') then decR V (zv2 V s (zxw V rs l)) rs l' else none
      |none=>none
     |none=>none)=some r->LeavesInM (fz none) 0 N.P fn a'.tmps (retR w w.heap.size r0 w (Kres V N.P rs r)) a'.defers .returning w':=by
    intro hK;split at hK
    .rename_i l hl1;split at hK
     .rename_i l' hl2;cases hnd:zgl (zn2 V rs l') with
      |false=>rw[hnd] at hK;cases hK
      |true=>
       rw[hnd] at hK;simp only[cond_true] at hK;obtain⟨hd',hn',hkn',hgb',A',ro',S',hl',hw',hev',hsl',hst'⟩:=znd (zxw V rs l) hs;refine znf hw' hev' hsl' hst' λw2 g1 g2 g3 g4=>?_
       obtain⟨v,hv,hvx⟩:=zhb g1 g3 hl2;obtain⟨k1,k2,k3⟩:=zwx (P:=N.P) (B:=(zn2 V rs l').map λi=>A'.getD i default) hl' rs l' r 0 hK λk i hk=>by rw[w1c,w1a,hk];rfl
       exact⟨v,hv,v,_,_,ro',_,rfl,g2.ev,g1.sel k2 hnd,ya6 k1 _ _ _ hvx,_,by rw[k3];simp,rfl,rfl⟩
     .cases hK
    .cases hK
   cases e with
   |ret=>exact fin hK
   |normal=>exact fin hK
   |exit id=>simp[retK] at hK
   |goto l=>simp[retK] at hK
   |panic ch=>simp[retK] at hK
   |outgrown=>simp[retK] at hK
  .refine⟨trivial,by simp[hl];omega,trivial,⟨λt g h=>by simp[lk] at h,λt ch z hz p hp=>?_,λp hp=>by simp at hp⟩,[],r0,λ_ _=>False,rfl,⟨Bel.refl _ _,w0s _,λi H hi=>by simp[obD] at hi,λi b hb=>hb.elim,λi j b hb=>hb.elim,hr0⟩,⟨Evo.refl _ _ _,⟨⟨[],rfl,w40,λ_ h=>by cases h⟩,w40,λp h=>by cases h⟩⟩,?_,trivial⟩
   .rw[zcd] at hz;simp only[w2p,if_true,w1j,w0f] at hz;obtain⟨_,_,rfl,_⟩:=hz;simp at hp
   .intro t X hX;simp only[slD,zcd,w2p,if_true,w39,Option.map_map,w1j] at hX;obtain⟨y,hy,rfl⟩:=hX;have hlt:=(w02.1 hy).1;have hdv:∀(l:List (SV V.T))(t:Nat),l[t]? = some y->(denV V N.P [] l)[t]? = some (y.den V N.P []):=by
     intro l
     induction l with
     |nil=>intro t h;simp at h
     |cons z l ih=>intro t h;cases t with
      |zero=>simp at h;subst h;rfl
      |succ t=>simp at h;simpa[denV] using ih t h
    have:=hA t _ (hdv _ t hy);have hvt:t<vs.size:=hl ▸ hlt;simpa[denE,w07,w15,hvt] using this
 .cases hr
theorem z2h[Dr](hN:z4t V N){f φ:Nat}{fn:Func}{as:List Nat}{rs:List RC}{F:Tup V.T as->Option (RTup V.T rs)}(h:H V (RTup V.T rs))(hf:N.P.funcs[f]? = some fn)(hn:Nat.ble as.length fn.ntmps=true)
  (hF:∀a,F a=fnX V N φ fn as rs h a) (ho:fnO V N φ fn rs h):z1k V N.P f ⟨as,rs,F⟩:=by
 intro x r hr;simp only at x r hr;rw[hF] at hr;have:=y08 hN (us:=encA V as x) h hf (by rw[zse];exact w0p hn) hr ho
 rwa [znw] at this
theorem yao[Dr](hN:z4t V N){f φ:Nat}{fn:Func}{as:List Nat}{cs:List KC}{rs:List RC}{F:Tup V.T as->KCs V.T cs->Option (RTup V.T rs)}(h:H V (RTup V.T rs))(hf:N.P.funcs[f]? = some fn)(hn:Nat.ble (as.length+cs.length) fn.ntmps=true)
  (hF:∀a b,F a b=fnXc V N φ fn as cs rs h a b) (ho:fnO V N φ fn rs h):y0k V N.P f ⟨as,cs,rs,F⟩:=by
 intro x y r hr;simp only at x y r hr;rw[hF] at hr;have:=y08 hN (us:=encA V as x++encK V cs y) h hf (by rw[w0d,zse,zz0];exact w0p hn) hr ho
 rwa [zs8,znw] at this
theorem zsf[Dr]{P:Program}{A:Asg}: ∀(ms:List MA)(a:MTup V.T ms)(k:Nat)(y:SV V.T),(encM V ms a)[k]? = some y->∃B,(msD V P ms a)[k]? = some B/\Ent B (y.den V P A)
 | [],a,k,y,h=>by simp[encM] at h
 | .fn f::ms,a,0,y,h=>by simp[encM] at h;subst h;exact⟨_,rfl,y3m⟩
 | .val c::ms,a,0,y,h=>by simp[encM] at h;subst h;exact⟨_,rfl,Ent.of_eq (z30 V P A c a.1).symm⟩
 | .cmp c::ms,a,0,y,h=>by simp[encM] at h;subst h;exact⟨_,rfl,Ent.refl⟩
 | .fn f::ms,a,k+1,y,h=>zsf ms a.2 k y (by simpa[encM] using h)
 | .val c::ms,a,k+1,y,h=>zsf ms a.2 k y (by simpa[encM] using h)
 | .cmp c::ms,a,k+1,y,h=>zsf ms a.2 k y (by simpa[encM] using h)
theorem zp3[Dr]{P:Program}: ∀(ms:List MA)(a:MTup V.T ms),(msD V P ms a).length=ms.length
 | [],_=>rfl
 | .fn f::ms,a=>by simp[msD,zp3 ms]
 | .val c::ms,a=>by simp[msD,zp3 ms]
 | .cmp c::ms,a=>by simp[msD,zp3 ms]
theorem zre[Dr](hN:z4t V N){f φ:Nat}{fn:Func}{E c:Nat}{ms:List MA}{F:List (V.T c)->MTup V.T ms->Option (List (V.T c))}(h:H V (List (V.T c)))(hf:N.P.funcs[f]? = some fn)(hn:Nat.ble (ms.length+1) fn.ntmps=true)
  (hF:∀l a,F l a=fnM V N φ fn E c ms h l a) (ho:fnMO V N φ fn E c h):zme V N.P f ⟨E,c,ms,F⟩:=by
 intro l a l' sv hr w0 base r w_S w vs hw hl hA;change F l a=some l' at hr;rw[hF] at hr;unfold fnM at hr;unfold fnMO at ho;have hle:=w0p hn;split at hr
 .rename_i b hb;rw[hb] at ho;simp only[w0k,zp3] at hl;refine zfs hf hb ((yf9 hN (r:=l') (C:=(⟨w0,base,r,w,fn.ntmps,none,[]⟩:Cx N.P)) φ h).1 [none] b _ ho none [⟨⟨#[sv],[]⟩,none⟩] _ rfl (.inl rfl) ?_ _ _ _ hr ?_)
  .intro e s a' w' hK hs;have fin:yeb V fn E c s=some l'->LeavesInM (fz none) 0 N.P fn a'.tmps (retR w0 base r w (λx objs=>∃l2,objs = [Px.row E (V.ev c) (V.sz c) l2 sv]/\x=eqv (.tuple #[])/\l2=l')) a'.defers .returning w':=by
    intro hK;unfold yeb at hK;cases he:fn.results.isEmpty with
    |false=>rw[he] at hK;cases hK
    |true=>
     rw[he] at hK;simp only[cond_true] at hK;obtain⟨hd',hn',hkn',hgb',A',ro',S',hl',hw',hev',hsl',hst'⟩:=hs;split at hK
     .rename_i f0 hstk;split at hK
      .rename_i j hj;split at hK
       .rename_i E' c' l2 hob;cases hE:Nat.beq E' E with
        |false=>rw[hE] at hK;cases hK
        |true=>
         rw[hE] at hK;have eE:=w01 hE;subst eE;simp only[cond_true] at hK;split at hK
         .rename_i ec;subst ec;simp only[w00] at hK;subst hK;refine znf hw' hev' hsl' hst' λw2 g1 g2 g3 g4=>?_
          rw[hstk] at g4;have hlt:j<A'.length:=by rw[hl'];exact(w02.1 hob).1
          have hq:A'[j]? = some (A'[j]'hlt):=w09 hlt;have hsv:=g4.1.1 0 _ (by simp only[slD,hj];rfl);simp only[denE,SV.den,hq] at hsv;have hsv:sv =(A'[j]'hlt).2:=hsv;have hres:zhi V N s fn.results.toList=some []:=by
           have:fn.results.toList = []:=by simpa using he
           rw[this];rfl
          obtain⟨v,hv,hvx⟩:=zhb g1 g3 hres;have hsel:zfi (obD V N.P A' A' s.ob) [j] [Px.row E' (V.ev c') (V.sz c') l2 sv]:=⟨⟨_,zn V N.P hq hob,by rw[hsv];exact EntH.refl⟩,trivial⟩;exact⟨v,hv,v,_,_,ro',_,rfl,g2.ev,g1.sel hsel rfl,hvx,l2,rfl,rfl,rfl⟩
         .cases hK
       .cases hK
      .cases hK
     .cases hK
   cases e with
   |ret=>exact fin hK
   |normal=>exact fin hK
   |exit id=>simp[retM] at hK
   |goto l=>simp[retM] at hK
   |panic ch=>simp[retM] at hK
   |outgrown=>simp[retM] at hK
  .refine⟨trivial,by simp[hl];omega,trivial,⟨λt g h=>by simp[lk] at h,λt ch z hz p hp=>?_,λp hp=>by simp at hp⟩,[(0,sv)],r,w_S,rfl,hw,⟨Evo.refl _ _ _,⟨⟨[],rfl,w40,λ_ h=>by cases h⟩,w40,λp h=>by cases h⟩⟩,?_,⟨λt X hX=>?_,trivial,⟨λt g h=>by simp[lk] at h,λt ch z hz p hp=>?_,λp hp=>by simp at hp⟩,(λx e=>by cases e),rfl⟩,trivial⟩
   .rw[zcd] at hz;simp only[w2p,if_true,w1j,w0f] at hz;obtain⟨_,_,rfl,_⟩:=hz;simp at hp
   .intro t X hX;simp only[slD,zcd,w2p,if_true,w39,Option.map_map,w1j] at hX;obtain⟨y,hy,rfl⟩:=hX;have key:∃B,(eqv sv::msD V N.P ms a)[t]? = some B/\Ent B (y.den V N.P [(0,sv)]):=by
     cases t with
     |zero=>simp at hy;subst hy;exact⟨_,rfl,Ent.refl⟩
     |succ t=>obtain⟨B,h1,h2⟩:=zsf (P:=N.P) (A:=[(0,sv)]) ms a t y (by simpa using hy);exact⟨B,by simpa using h1,h2⟩
    obtain⟨B,hB,hE⟩:=key;have:=hE _ _ _ (hA t B hB);have hvt:t<vs.size:=by have:=(w02.1 hB).1;simp only[w0k,zp3] at this;omega
    simpa[denE,w07,w15,hvt] using this
   .have hX2 :(lk [((0:Nat),(([]:Ch),(SV.own 0:SV V.T)))] t).map (denE V N.P [(0,sv)] [])=some X:=hX;rw[z07] at hX2;split at hX2
    .rename_i e0;subst e0;simp only[w0u,w00] at hX2;subst hX2;exact(rfl:sv=sv)
    .simp[lk] at hX2
   .have hz2:lk [((0:Nat),(([]:Ch),(SV.own 0:SV V.T)))] t=some (ch,z):=hz;rw[z07] at hz2;split at hz2
    .cases hz2;simp at hp
    .simp[lk] at hz2
 .cases hr
theorem zve{α:Type}{Q:Nat->α->Prop}: ∀{l:List (Nat×α)},AllP (λp=>Q p.1 p.2) l->∀f x,lk l f=some x->Q f x
 | [],_,f,x,h=>by cases h
 |(k,y)::l,hl,f,x,h=>by
  rw[z07] at h;by_cases e:f=k
  .rw[if_pos e] at h;cases h;subst e;exact hl.1
  .rw[if_neg e] at h;exact zve hl.2 f x h
theorem z04[Dr]{P:Program}{l:List (Nat×Fsp V)}{m:List (Nat×Msp V)}{n:List (Nat×Csp V)}{s:List (Nat×SoSp)}(h:AllP (λp=>z1k V P p.1 p.2) l)(hm:AllP (λp=>zme V P p.1 p.2) m)(hn:AllP (λp=>y0k V P p.1 p.2) n)
  (hs:AllP (λp=>SoOK V P p.1 p.2) s):z4t V (⟨P,lk l,lk m,lk n,lk s⟩:Env V):=
 ⟨λf sp hf=>zve hn f sp hf,λf sp hf=>zve hm f sp hf,λf sp hf=>zve h f sp hf,λf sp hf=>zve hs f sp hf⟩
end
end Px
end
