/- A part of the proof of emptiesMatchesReference_holds. Conditions: none. -/
import Derived.Test.YtcofccdjgfgeeaaGreatKiad
set_option linter.unusedVariables false
set_option linter.unusedSimpArgs false
section
namespace Px
open Go Go.RowKit
def Pres{α:Type}(m:Sem α):Prop:=∀(P:Program)(w:World)(x:α)(w':World),m.run P w = .ok x w'->w'=w
theorem Pres.pure{α:Type}(x:α):Pres (Pure.pure x:Sem α):=λP w y w' h=>by rw[w0p] at h;cases h;rfl
theorem Pres.bind{α β:Type}{m:Sem α}{f:α->Sem β}(h:Pres m)(k:∀x,Pres (f x)):Pres (m >>= f):=λP w y w' d=>by
 rw[w08] at d;cases g:m.run P w with
 |ok x j=>rw[g] at d;have e:=h P w x j g;subst e;exact k x P _ y w' d
 |halt x j=>rw[g] at d;cases d
theorem Pres.halt{α:Type}{h:Halt}: Pres (.halt h:Sem α):=λP w y w' d=>by cases d
theorem Pres.program:Pres Go.program:=λP w y w' d=>by cases d;rfl
theorem Pres.stuck{α:Type}{s:String}: Pres (Go.stuck s:Sem α):=Pres.halt
theorem Pres.unsupported{α:Type}{s:Unsupported}: Pres (Go.unsupported s:Sem α):=Pres.halt
theorem Pres.shape{r:Nat}: Pres (Go.shape r):=λP w y w' d=>by cases d;rfl
theorem Pres.load{a:Addr}: Pres (Go.load a):=λP w y w' d=>by
 rw[run_load] at d;split at d
 .cases d;rfl
 .split at d<;>cases d;rfl
theorem Pres.typeInfo{t:TypeId}: Pres (Go.typeInfo t):=by
 unfold Go.typeInfo;refine Pres.program.bind λp=>?_
 split
 .exact Pres.pure _
 .exact Pres.stuck
theorem Pres.underlying{t:TypeId}: Pres (Go.underlying t):=by
 unfold Go.underlying;refine Pres.program.bind λp=>?_
 split
 .exact Pres.pure _
 .exact Pres.stuck
theorem Pres.sizeOf{t:TypeId}: Pres (Go.sizeOf t):=Pres.typeInfo.bind λ_=>Pres.pure _
theorem Pres.isAgg{t:TypeId}: Pres (Go.isAgg t):=by
 unfold Go.isAgg;refine Pres.underlying.bind λp=>?_
 split<;>exact Pres.pure _
theorem Pres.loadCellsFrom{a:Addr}: ∀(n i:Nat)(d:Array Value),Pres (Go.loadCellsFrom a i n d)
 |0,_,_=>Pres.pure _
 |n+1,i,d=>Pres.load.bind λ_=>Pres.loadCellsFrom n _ _
theorem Pres.loadVar{t:TypeId}{a:Addr}: Pres (Go.loadVar t a):=by
 unfold Go.loadVar;refine Pres.isAgg.bind λb=>?_
 split
 .exact Pres.bind Pres.sizeOf λn=>Pres.bind (Pres.loadCellsFrom _ _ _) λ_=>Pres.pure _
 .exact Pres.load
theorem Pres.sureAddr{v:Value}: Pres (Instr.sureAddr v):=by
 unfold Instr.sureAddr;split
 .exact Pres.pure _
 .exact Pres.stuck
theorem Pres.asIntOf{v:Value}: Pres (Go.asIntOf v):=by
 unfold Go.asIntOf;split
 .exact Pres.pure _
 .exact Pres.unsupported
 .exact Pres.stuck
theorem Pres.boundsPanic{α:Type}{k:IntKind}{x y:Int}{c:BoundsCode}: Pres (Go.boundsPanic k x y c:Sem α):=λP w z w' d=>by obtain⟨s,f,h⟩:=run_boundsPanic (P:=P) (w:=w) (α:=α) k x y c;rw[h] at d;cases d
theorem Pres.getObj{r:Nat}: Pres (Go.getObj r):=λP w y w' d=>by
 simp only[Go.getObj,Sem.run] at d;split at d
 .cases d
 .cases d;rfl
 .cases d
theorem Pres.viewAt{r:Nat}: Pres (Go.viewAt r):=by
 unfold Go.viewAt;refine Pres.shape.bind λx=>?_
 split
 .exact Pres.pure _
 .refine Pres.getObj.bind λo=>?_
  split<;>exact Pres.pure _
theorem Pres.noView{a:Addr}: Pres (Go.noView a):=by
 unfold Go.noView;refine Pres.viewAt.bind λx=>?_
 split
 .exact Pres.unsupported
 .exact Pres.pure _
theorem Pres.byteOf{a:Addr}: Pres (Go.byteOf a):=by
 unfold Go.byteOf;split
 .exact Pres.pure _
 .refine Pres.program.bind λp=>Pres.noView.bind λ_=>Pres.shape.bind λx=>?_
  split
  .dsimp only;split
   .exact Pres.pure _
   .split
    .exact Pres.pure _
    .exact Pres.stuck
  .exact Pres.stuck
def IntV(v:Value):Prop:=∃k n,v = .int k n
theorem Pres.fold{f:Value->Value->Sem Value}(d:∀k x j y,∃v,IntV v/\f (.int k x) (.int j y)=Pure.pure v):∀(l:List Value)(x:Value),IntV x->(∀y∈l,IntV y)->Pres (l.foldlM f x)
 | [],x,_,_=>Pres.pure _
 |y::l,x,hx,g=>by obtain⟨k,n,rfl⟩:=hx;obtain⟨j,m,rfl⟩:=g y (w0n ..);obtain⟨v,u,e⟩:=d k n j m;rw[w5m,e];intro P w z w' h;rw[w08,w0p,w06] at h;exact Pres.fold d l v u (λy hy=>g y (w0g _ hy)) P w z w' h
theorem Pres.fieldPlace{a:Addr}{f:Field}: Pres (Go.fieldPlace a f):=by
 unfold Go.fieldPlace;refine Pres.sizeOf.bind λn=>?_
 split
 .exact Pres.bind Pres.byteOf λ_=>Pres.bind Pres.byteOf λ_=>Pres.pure _
 .exact Pres.pure _
theorem Pres.fieldAt{s:TypeId}{v:Value}{f:Nat}: Pres (Instr.fieldAt s v f):=by
 unfold Instr.fieldAt;refine Pres.underlying.bind λn=>?_
 split
 .split
  .exact Pres.sureAddr.bind λ_=>Pres.fieldPlace.bind λ_=>Pres.pure _
  .exact Pres.stuck
 .exact Pres.stuck
theorem Pres.indexAt{t:TypeId}{v i:Value}: Pres (Instr.indexAt t v i):=by
 unfold Instr.indexAt;refine Pres.asIntOf.bind λk=>?_
 refine Pres.underlying.bind λu=>?_
 dsimp only;split
 .refine Pres.sureAddr.bind λa=>Pres.bind (Pres.pure _) λq=>?_
  obtain⟨base,len,elem⟩:=q;dsimp only;refine Pres.underlying.bind λd=>?_
  split
  .split
   .exact Pres.sizeOf.bind λ_=>Pres.pure _
   .split<;>(split<;>first|exact Pres.unsupported|exact Pres.boundsPanic)
  .exact Pres.boundsPanic
 .refine Pres.bind (Pres.pure _) λq=>?_
  obtain⟨base,len,elem⟩:=q;dsimp only;refine Pres.underlying.bind λd=>?_
  split
  .split
   .exact Pres.sizeOf.bind λ_=>Pres.pure _
   .split<;>(split<;>first|exact Pres.unsupported|exact Pres.boundsPanic)
  .exact Pres.boundsPanic
 .refine Pres.bind Pres.stuck λq=>?_
  obtain⟨base,len,elem⟩:=q;dsimp only;refine Pres.underlying.bind λd=>?_
  split
  .split
   .exact Pres.sizeOf.bind λ_=>Pres.pure _
   .split<;>(split<;>first|exact Pres.unsupported|exact Pres.boundsPanic)
  .exact Pres.boundsPanic
def ymp(m:Sem Next):Prop:=∀(P:Program)(w:World)(x:Next)(w':World),m.run P w = .ok x w'->w'=w/\∃v,x = .value v
theorem Pres.v{m:Sem Value}(h:Pres m):ymp (do Pure.pure (Next.value (<- m)):Sem Next):=λP w x w' d=>by
 rw[w08] at d;cases f:m.run P w with
 |ok y g=>rw[f] at d;have e:=h P w y g f;subst e;rw[w06,w0p] at d;cases d;exact⟨rfl,_,rfl⟩
 |halt y g=>rw[f] at d;cases d
section
variable{V:TE}{N:Env V}{R:Type}{r:R}{C:Cx N.P}
theorem y79[Dr]{s:SS V.T}{o:Oper}(h:zmw V s o=true)(hkn:chP s.gb s.kn){A:Asg}{a:Act}{ro:Nat->Prop}{w w':World}{x:Next}(hs:zj (slD V N.P A s.gb s.sl) a ro w)(hr :(execOp a.eval o).run N.P w = .ok x w'):w'=w/\∃v,x = .value v:=by
 obtain⟨dst,op,ty,pos,aft,guard⟩:=o;unfold zmw at h;simp only[w02] at h;obtain⟨_,h⟩:=h;split at h
 .simp only[execOp,w0p] at hr;cases hr;exact⟨rfl,_,rfl⟩
 .simp only[execOp,w0p] at hr;cases hr;exact⟨rfl,_,rfl⟩
 .exact(Pres.v (Pres.sureAddr.bind λ_=>Pres.loadVar)) _ _ _ _ hr
 .exact(Pres.v Pres.fieldAt) _ _ _ _ hr
 .exact(Pres.v Pres.indexAt) _ _ _ _ hr
 .rename_i x0;split at h
  .rename_i i off hx;have hv:=z1t V N.P (A:=A) hx hkn a ro w hs;simp only[SV.den] at hv;cases ha:A[i]? with
   |none=>rw[ha] at hv;exact hv.elim
   |some q=>rw[ha] at hv;have hv:a.eval x0 = .pointer (some ⟨q.1,off,none⟩):=hv;simp only[execOp,hv,w0p] at hr;cases hr;exact⟨rfl,_,rfl⟩
  .cases h
 .rename_i c;obtain⟨callee,as,ts⟩:=c;simp only at h;split at h
  .rename_i us hus;rw[cond_eq_ite] at h;split at h
   rotate_left
   .cases h
   .rename_i hb;obtain⟨e1,e2⟩:=ziq (N:=N) (A:=A) hkn hus a ro w hs;have hint:∀y∈(as.map a.eval).toList,IntV y:=by
     intro y hy;rw[Array.toList_map] at hy;obtain⟨i,hi⟩:=w42 hy;have hlt:=(w04.1 hi).1;rw[w0q] at hlt;have hu:i<us.length:=e1 ▸ hlt;obtain⟨z,hz⟩:∃z,us[i]? = some z:=⟨us[i],w0c hu⟩;have hzi:=w0a.1 hb z (w17 hz);have hden:∀(l:List (SV V.T))(i:Nat),l[i]? = some z->(denV V N.P A l)[i]? = some (z.den V N.P A):=by
      intro l
      induction l with
      |nil=>intro i h;simp at h
      |cons u l ih=>intro i h;cases i with
       |zero=>simp at h;subst h;rfl
       |succ i=>simp at h;simpa[denV] using ih i h
     have:=e2 i _ (hden us i hz);rw[w26,hi] at this;cases z with
     |int k n=>exact⟨k,n,this⟩
     |_=>simp at hzi
    have hfold:∀{f:Value->Value->Sem Value},(∀k x j y,∃v,IntV v/\f (.int k x) (.int j y)=Pure.pure v)->Pres (match (as.map a.eval).toList with
      | [] => Go.stuck "min: at least one argument expected"
      |x::rest=>rest.foldlM f x)/\Pres (match (as.map a.eval).toList with
      | [] => Go.stuck "max: at least one argument expected"
      |x::rest=>rest.foldlM f x):=by
     intro f hf;cases hl :(as.map a.eval).toList with
     |nil=>exact⟨Pres.stuck,Pres.stuck⟩
     |cons x l=>
      rw[hl] at hint;have:=Pres.fold hf l x (hint x (w0n ..)) λy hy=>hint y (w0g _ hy)
      exact⟨this,this⟩
    split at h
    .simp only at *;simp only[execOp,Go.resolve,w08,w0p,w06] at hr;exact(Pres.v (hfold (f:=Builtin.min2) λk x j y=>⟨_,⟨_,_,rfl⟩,rfl⟩).1) _ _ _ _ hr
    .simp only at *;simp only[execOp,Go.resolve,w08,w0p,w06] at hr;exact(Pres.v (hfold (f:=Builtin.max2) λk x j y=>⟨_,⟨_,_,rfl⟩,rfl⟩).2) _ _ _ _ hr
    .cases h
  .cases h
 .cases h
theorem zzk{s:SS V.T}{o:Oper}(h:zmw V s o=true):o.guard=none:=by unfold zmw at h;simp only[w02,w34] at h;exact h.1
theorem ybh{s:SS V.T}{o:Oper}(h:zmw V s o=true):∀c,o.op≠.defer c:=by intro c e;unfold zmw at h;rw[e] at h;simp at h
theorem y5a[Dr](hN:z6x V N){f:List GA}{ops:Array Oper}{K:SS V.T->Option R}{Q:Exit->Act->World->Prop}{w:World}(hK:∀s a,K s=some r->SatS V C f s a w->Q .normal a w):
  ∀(os:List Oper)(s:SS V.T)(a:Act),yb0 V N os s K=some r->SatS V C f s a w->wpStill N.P ops w (λa=>Q .normal a w) os a
 | [],s,a,h,u=>hK s a h u
 |o::os,s,a,h,u=>by
  unfold yb0 at h;cases d:zmw V s o with
  |false=>rw[d] at h;cases h
  |true=>
   rw[d] at h;simp only[cond_true] at h;have g:=(zk0 (rd:=none) hN h (λp j=>by simp at j) u (next:=λa' w'=>w'=w->wpStill N.P ops w (λa=>Q .normal a w) os a') (Q:=λ_ _ _=>False) λs2 v0 w' hk a0 e=>by subst e;exact y5a hN hK os s2 _ hk a0).1 trivial;obtain⟨_,g⟩:=g;rw[Oper.semAt_eq _ _ _ (ybh d)] at g;obtain⟨hd,hn,z,a5,A,ro,S,hl,hw,a4,a1,a3⟩:=u;have j:=λx w'=>y79 (N:=N) (x:=x) (w':=w') d z a1
   unfold wpStill;simp only[Region.wanted,zzk d,if_true];unfold Oper.still;generalize (execOp a.eval o).run N.P w=a2 at g j;cases a2 with
   |ok x w'=>obtain⟨e,v,rfl⟩:=j x w' rfl;subst e;rw[Oper.stillUpon_value];exact g rfl
   |halt x w'=>cases x<;>exact g.elim
theorem zhi{rd:Option Nat}{P:Program}{md:Region.Mode}{ops:Array Oper}{Q:Exit->Act->World->Prop}(f:∀a w,¬Q .outgrown a w)(d:∀(i:Nat)o,ops[i]? = some o->∀c,o.op≠.defer c):∀(fuel:Nat)(listed:Array Bool)(a:Act)(w:World),
  wpAny P md ops Q fuel listed a w->wpAnyIn (fz rd) 0 P md ops Q fuel listed a w
 |0,_,_,_,h=>h
 |fuel+1,listed,a,w,h=>⟨h.1,λi hi=>by
  have h1:=h.2 i hi;unfold wpOp at h1;unfold wpOpIn;split
  .rename_i g;rw[g] at h1;exact zhi f d fuel _ a w h1
  .rename_i o g;rw[g] at h1;simp only at h1;split
   .rename_i j;rw[if_pos j] at h1;rcases h1 with h1|h1
    .exact Oper.wp_fz (d i o g) (Oper.wp_mono (λu w'=>zhi f d fuel _ u w') h1)
    .obtain⟨_,a0,w0,z⟩:=h1;exact(f _ _ z).elim
   .rename_i j;rw[if_neg j] at h1;exact⟨λ_ _=>trivial,zhi f d fuel _ _ w h1⟩⟩
theorem SatS.drawn[Dr]{d:List GA}{s:SS V.T}{a:Act}{w:World}(h:SatS V C d s a w)(k:Nat)(hk:w.drawn<=k):SatS V C d s a { w with drawn:=k }:=by obtain⟨hd,hn,u,j,A,ro,S,hl,hw,g,z,a0⟩:=h;have f:Evo C.base ro w ro { w with drawn:=k }:=⟨λ_ h=>h,λ_ _=>rfl,λ_ h=>.inl h⟩;exact⟨hd,hn,u,j,A,ro,S,hl,hw.drawn k hk,g.trans f,z.evo f,a0.ext (AExt.refl A) f⟩
theorem yfi[Dr](hN:z6x V N){rd:Option Nat}{id:Nat}{d:List GA}{ops:Array Oper}{K:KX V R}{Q:Exit->Act->World->Prop}(z:∀e s a w,K e s=some r->SatS V C d s a w->Q e a w)(hm:N.P.follows .mixedOrders=true)(f:Region.lexB .any ops=true)(hk:ops.toList.all yik=true)
  {s:SS V.T} {a:Act} {w:World} (h:yb0 V N ops.toList s (λs=>K .normal s)=some r) (g:SatS V C d s a w) :(Code.region id ops true).wpIn (fz rd) 0 N.P Q a w:=by
 refine wpIn_mono (Q:=λe a w=>e = .normal/\Q .normal a w) (wpIn_region_any hm ?_) (by rintro e a w ⟨rfl,h⟩;exact h);refine zhi (λa w h=>by cases h.1) (λi o ho c e=>?_) _ _ _ _ (wpAny_of_still (Q:=λj=>Q .normal j { w with drawn:=w.drawn+1 }) (λa h=>⟨rfl,h⟩) _ _ _ ?_)
 .have:=w0a.1 hk o (w17 (by rw[w3h];exact ho))
  unfold yik at this;rw[e] at this;cases this
 .simp only[Region.lexB,w02] at f;have u:=y5a (ops:=ops) hN (w:={ w with drawn:=w.drawn+1 }) (Q:=Q) (λs a h g=>z .normal s a _ h g) ops.toList s a h (g.drawn _ (w54 _));have:=wpAnyS_lex (md:=.any) f.1 ops.toList 0 (Array.replicate ops.size false) a (by simp) (by simpa using f.2) u;simpa using this
end
end Px
end
section
namespace Px
open Go Go.RowKit
set_option linter.unusedSectionVars false
theorem zyd{α:Type}{f g:α->α}: ∀{l:List α}{j:Nat}{a:α},l[j]? = some a->f a=g a->l.modify j f=l.modify j g
 | [],j,a,h,_=>by simp at h
 |b::l,0,a,h,e=>by simp only[w2f,w01] at h;subst h;simp[List.modify_zero_cons,e]
 |b::l,j+1,a,h,e=>by simp only[w29] at h;simp[List.modify_succ_cons,zyd h e]
theorem y08:∀{l:List MapEntry}{j:Nat}{x:MapEntry},(l.map (·.born)).Nodup->l[j]? = some x->l.findIdx? (λe=>((e.born:Nat):Int)==((x.born:Nat):Int))=some j
 | [],j,x,_,h=>by simp at h
 |a::l,0,x,_,h=>by simp only[w2f,w01] at h;subst h;simp[List.findIdx?_cons]
 |a::l,j+1,x,d,h=>by
  simp only[w29] at h;simp only[w0l,w1x] at d;have f:a.born≠x.born:=λg=>d.1 (w0b.2 ⟨x,w17 h,g.symm⟩)
  have u :(((a.born:Nat):Int)==((x.born:Nat):Int))=false:=by simp only[beq_eq_false_iff_ne,ne_eq,Int.natCast_inj];exact f
  rw[List.findIdx?_cons,u];simp[y08 d.2 h]
theorem y9c(xs:Array MapEntry)(p:MapEntry->Bool):xs.findIdx? p=xs.toList.findIdx? p:=by cases xs;simp
theorem zsw{α:Type}(f:α->α)(a:α):∀l:List α,(l++[a]).modify l.length f=l++[f a]
 | []=>rfl
 |b::r=>by simp[List.modify_succ_cons,zsw f a r]
section
variable{κ ν:Type}
theorem y8y[BEq κ]{k:κ}: ∀{d:List κ}{es:List MapEntry}{i j:Nat}{u:Value},fnd k d es i=some (j,u)->i<=j/\∃en,es[j-i]? = some en/\en.val=u
 | [],es,i,j,u,h=>by cases es<;>simp[fnd] at h
 |a::d,[],i,j,u,h=>by simp[fnd] at h
 |a::d,e::es,i,j,u,h=>by
  unfold fnd at h;cases f:k==a with
  |true=>rw[f] at h;simp only[cond_true,w01,w0k] at h;obtain⟨rfl,rfl⟩:=h;exact⟨w16 _,e,by simp,rfl⟩
  |false=>rw[f] at h;simp only[cond_false] at h;obtain⟨h1,en,g,z⟩:=y8y h;refine⟨by omega,en,?_,z⟩;rw[show j-i =(j-(i+1))+1 by omega];simpa using g
variable{e:κ->List Int}{eK:κ->Value}{eV:ν->Value}
theorem CM.ent{P:Program}{t kt et:TypeId}{w:World}{b:Nat}{m:List (κ×ν)}(hk:KeyC P kt e eK)(ht:P.underlying t=some (.map kt et))(h:CM w b e eK eV m)(k:κ)(d:ν)(hz:tz1 P et=some (eV d))(hb:b<w.heap.size):
  ∃(es:Array MapEntry)(c:Nat)(v0:Value)(st j:Nat),(Instr.mapEntry t (.map (some b)) (eK k)).run P w = .ok (.tuple #[v0,goInt st]) (setB w b (.map es c))/\CM (setB w b (.map es c)) b e eK eV (cset e m k ((cget e m k).getD d))/\
   es.findIdx? (λx=>((x.born:Nat):Int)==((st:Nat):Int))=some j/\∀v(w':World),w'.heap[b]? = some (.map (es.modify j λx=>{ x with val:=eV v }) c)->CM w' b e eK eV (cset e m k v):=by
 letI:BEq κ:=bqC e
 obtain⟨h0,es,c,z,h1,h2,h3,h4⟩:=h;have hf:=hk.find w k _ _ (zui h4);have a6:=h0.ndp.perm h3.symm;have hp:∀v,((k,v)::cdel e z k).Perm (cset e m k v):=λv=>((zit a6 h3 k).cons _).trans (zix h0 k v).symm
 cases g : @fnd κ (bqC e) k (z.map (·.1)) es.toList 0 with
 |none=>
  rw[g] at hf;have hn:=@zje κ ν (bqC e) eK eV k _ _ _ h4 g;have hg:cget e m k=none:=by rw[ziv h0.ndp h3.symm,<- zyc];exact hn
  have hd:cdel e z k=z:=by rw[<- zya];exact @zjr κ ν (bqC e) k _ hn
  have upd:∀v(w':World),w'.heap[b]? = some (.map (es.push { key:=eK k,val:=eV v,born:=c }) (c+1))->CM w' b e eK eV (cset e m k v):=λv w' hw=>by
   have a1:=hp v;rw[hd] at a1;refine⟨h0.set k v,_,_,z++[(k,v)],hw,?_,(w4q (l₁:=z) (l₂:=[(k,v)])).trans a1,?_⟩
   .rw[w37];exact h2.push _ _
   .rw[w37,w1g,h4,w1g];rfl
  refine⟨es.push { key:=eK k,val:=eV d,born:=c },c+1,eV d,c,es.size,?_,?_,?_,λv w' hw=>upd v w' ?_⟩
  .simp only[Instr.mapEntry,w08,run_underlying ht,w06,w10 h1,hk.check,hf,zme hz,w2r _ h1];rfl
  .rw[hg];exact upd d _ (z4u w b _ hb)
  .rw[y9c];refine y08 (x:={ key:=eK k,val:=eV d,born:=c }) ?_ (by simp);rw[w37];exact(h2.push _ _).nd
  .rw[hw];congr 2;apply w4u;rw[w22,w37,w37,<- w3c];rw[zsw]
 |some q=>
  obtain⟨j',u⟩:=q;rw[g] at hf;obtain⟨_,⟨v,hv,hu⟩,⟨k',a4,en,he,a5⟩,h5⟩:=@zjf κ ν (bqC e) eK eV k _ _ _ _ _ h4 g;obtain⟨_,a7,a0,a2⟩:=@y8y κ (bqC e) k _ _ _ _ _ g;rw[w3f] at he a0 h5;rw[he] at a0;cases a0;have a3:es[j']? = some en:=by simpa using he
  have hg:cget e m k=some v:=by rw[ziv h0.ndp h3.symm,<- zyc];exact hv
  have upd:∀v(w':World),w'.heap[b]? = some (.map (es.modify j' λx=>{ x with key:=eK k,val:=eV v }) c)->CM w' b e eK eV (cset e m k v):=λv w' hw=>by
   refine⟨h0.set k v,_,_,@mset κ ν (bqC e) z k v,hw,?_,(y9w z k v).trans (hp v),?_⟩
   .rw[w22];exact h2.mod λ_=>rfl
   .rw[w22];exact h5 v
  refine⟨es.modify j' λx=>{ x with key:=eK k },c,u,en.born,j',?_,?_,?_,λv w' hw=>upd v w' ?_⟩
  .simp only[Instr.mapEntry,w08,run_underlying ht,w06,w10 h1,hk.check,hf,a3,w0z,w1b,a5,hk.stays w k k' a4,w2r _ h1];rfl
  .rw[hg];refine upd v _ ((z4u w b _ hb).trans ?_);congr 2;apply w4u;rw[w22,w22];exact zyd he (by rw[a2.trans hu])
  .rw[y9c];refine y08 (x:={ en with key:=eK k }) ?_ ?_
   .rw[w22];exact(h2.mod (f:=λx=>{ x with key:=eK k }) λ_=>rfl).nd
   .rw[w22,List.getElem?_modify];simp[he]
  .rw[hw];congr 2;apply w4u;rw[w22,w22,w22,List.modify_modify_eq];rfl
end
section
variable{κ ν:Type}{e:κ->List Int}{eK:κ->Value}{eV:ν->Value}{m:List (κ×ν)}{b:Nat}{S r:Nat->Prop}{w:World}
def entm(b:Nat)(e:κ->List Int)(eK:κ->Value)(eV:ν->Value)(m:List (κ×ν))(k:κ)(d:ν)(st:Nat):HP:=
 ⟨λS r w=>S b/\(nmp b e eK (plI eV) (cset e m k ((cget e m k).getD d)) none).h S r w/\∃(es:Array MapEntry)(c j:Nat),w.heap[b]? = some (.map es c)/\es.findIdx? (λx=>((x.born:Nat):Int)==((st:Nat):Int))=some j/\
   ∀v(r':Nat->Prop)(w':World),w'.heap[b]? = some (.map (es.modify j λx=>{ x with val:=eV v }) c)->(nmp b e eK (plI eV) (cset e m k v) none).h S r' w',
  λh1 h2 h3 h=>by obtain⟨a,h4,es,c,j,x1,x2,x3⟩:=h;exact⟨a,(nmp b e eK (plI eV) (cset e m k ((cget e m k).getD d)) none).wk h1 h2 h3 h4,es,c,j,(h3 _ a).trans x1,x2,x3⟩⟩
theorem yiu{P:Program}{t kt et:TypeId}{d:ν}(hk:KeyC P kt e eK)(ht:P.underlying t=some (.map kt et))(hz:tz1 P et=some (eV d))(h :(nmp b e eK (plI eV) m none).h S r w)(k:κ)(hb:b<w.heap.size):
  ∃(es:Array MapEntry)(c:Nat)(v0:Value)(st:Nat),(Instr.mapEntry t (.map (some b)) (eK k)).run P w = .ok (.tuple #[v0,goInt st]) (setB w b (.map es c))/\(entm b e eK eV m k d st).h S r (setB w b (.map es c)):=by
 obtain⟨t',Sk,hm,hS,hc,hh,hE,hf,hg⟩:=h;have h0:=hc.1;obtain⟨es,c,v0,st,j,a0,u,g,f⟩:=hc.ent hk ht k (d,eV d) (hz:tz1 P et=some ((d,eV d):ν×Value).2) hb;have hI:∀p∈t',p.2.2=eV p.2.1:=λp z=>hE p z (by simp)
 have mk:∀(v:ν)(r':Nat->Prop)(w':World),CM w' b e eK (·.2) (cset e t' k (v,eV v))->(nmp b e eK (plI eV) (cset e m k v) none).h S r' w':=λv r' w' a1=>by
  refine⟨cset e t' k (v,eV v),Sk,?_,hS,a1,(λ_ _ q=>by cases q),?_,hf,hg⟩
  .rw[<- hm];exact ztr (λp:ν×Value=>p.1) t' k (v,eV v)
  .intro p z _;show p.2.2=eV p.2.1;rcases(z4k h0).1 z with rfl|⟨z,_⟩
   .rfl
   .exact hI p z
 refine⟨es,c,v0,st,a0,hS,mk _ r _ ?_,es,c,j,z4u w b _ hb,g,λv r' w' hw=>mk v r' w' (f (v,eV v) w' hw)⟩;have hq :(cget e t' k).getD (d,eV d) =((cget e m k).getD d,eV ((cget e m k).getD d)):=by
  rw[zsi hm];cases hq:cget e t' k with
  |none=>rfl
  |some q=>obtain⟨a,ha,_⟩:=zb0 hq;have:=hI _ ha;show q =(q.1,eV q.1);rw[<- this]
 rw[<- hq];exact u
variable{P:Program}{C:Cx P}{s:St}{dst:Option Tmp}{ty:TypeId}{pos:String}{after:Array Edge}{guard:Option (Nat×Bool)}{K:VP->List HP->Prop}
theorem OpT.storeBX[Dr]{ζ:Type}{o:Oper}(i:Nat)(H:ζ->HP)(x:ζ->VP)(hi:i<s.objs.length)
  (hr:∀a r S w,WInv C.w0 C.base s.objs r S w->zj s.slots a r w->∃b ob v z,S i b/\(execOp a.eval o).run P w = .ok (.value v) (setB w b ob)/\(H z).h (S i) r (setB w b ob)/\∀w',(x z).h r w' v)
  (k:∀z,K (x z) (s.objs.set i (H z))):OpT C o s K:=by
 intro a w r S Q hd hn u hs;obtain⟨b,ob,v,z,hS,h,hH,hx⟩:=hr a r S w u hs;unfold Oper.wp;rw[h,Oper.upon_value];have g:∀d,d<w.heap.size->¬S i d->(setB w b ob).heap[d]? = w.heap[d]?:=λd _ f=>z1v w b d ob (λe=>f (e ▸ hS))
 exact⟨v,r,_,x z,_,rfl,u.evo_repl i g,u.repl i (H z) (S i) hi rfl ⟨rfl,w16 _⟩ rfl (by simp[setB]) g (λd f=>by obtain⟨h1,h2,h3,h4⟩:=u.own i d f;exact⟨h2,by simpa[setB] using h3,h4,λj hj a0=>hj (u.apart j i d a0 f)⟩) hH,hx _,k z⟩
theorem y1m[Dr]{t kt u:TypeId}{x i:Operand}{k:κ}{d:ν}(j:Nat)(hk:KeyC P kt e eK)(ht:P.underlying t=some (.map kt u))(hz:tz1 P u=some (eV d))(ho:s.objs[j]? = some (nmp b e eK (plI eV) m none))
  (hx:Ev s x (eqv (.map (some b)))) (hi:Ev s i (eqv (eK k))) (kk:∀st,K (tupv [topv,eqv (goInt (st:Nat))]) (s.objs.set j (entm b e eK eV m k d st))):OpT C ⟨dst,.mapEntry t x i,ty,pos,after,guard⟩ s K:=
 .storeBX j (λst=>entm b e eK eV m k d st) (λst=>tupv [topv,eqv (goInt (st:Nat))]) (w04.1 ho).1 (λa r S w hw hs=>by
  have z:=hx a r w hs;have h2:=hi a r w hs;simp only[eqv] at z h2;have hn:=hw.obj j _ ho;have g:S j b:=by obtain⟨_,_,_,g,_⟩:=hn;exact g
  obtain⟨_,_,h,hr⟩:=hw.own j b g;obtain⟨es,c,v0,st,f,hH⟩:=yiu hk ht hz hn k h;refine⟨b,.map es c,.tuple #[v0,goInt st],st,g,?_,hH,λw'=>tup2 trivial rfl⟩;simp only[execOp,z,h2,w08,f,w06];rfl) kk
theorem zuv[Dr]{t:TypeId}{x i y:Operand}{k:κ}{d v:ν}{st:Nat}(j:Nat)(ho:s.objs[j]? = some (entm b e eK eV m k d st))
  (hx:Ev s x (eqv (.map (some b)))) (hi:Ev s i (eqv (goInt (st:Nat)))) (hy:Ev s y (eqv (eV v))) (kk:K topv (s.objs.set j (nmp b e eK (plI eV) (cset e m k v) none))):OpT C ⟨none,.entryStore t x i y,ty,pos,after,guard⟩ s K:=
 .storeB rfl j _ (w04.1 ho).1 (λa r S w hw h=>by
  have u:=hx a r w h;have z:=hi a r w h;have h3:=hy a r w h;simp only[eqv] at u z h3;obtain⟨hS,_,es,c,j',x1,x2,x3⟩:=hw.obj j _ ho;obtain⟨_,_,g,hr⟩:=hw.own j b hS;refine⟨b,.map (es.modify j' λx=>{ x with val:=eV v }) c,hS,?_,x3 v r _ (z4u w b _ g)⟩;have f :(Instr.entryStore t (.map (some b)) (goInt st) (eV v)).run P w = .ok () (setB w b (.map (es.modify j' λx=>{ x with val:=eV v }) c)):=by simp only[Instr.entryStore,w08,w10 x1,w06,asInt,asIntOf,goInt,w0p,x2,w2r _ x1];rfl
  simp only[execOp,u,z,h3,w08,f,w06];rfl) kk
theorem zx9(e:κ->List Int)(k:κ)(v:ν):∀m:List (κ×ν),cget e (cset e m k v) k=some v
 | []=>by simp[cset,cget]
 |(a,b)::m=>by
  unfold cset;cases h :(e k==e a) with
  |true=>simp[cget]
  |false=>
   cases d:ltI (e k) (e a) with
   |true=>simp[cget]
   |false=>simp only[cond_false];unfold cget;rw[h];exact zx9 e k v m
theorem y6k[Dr]{t kt h:TypeId}{x i:Operand}{k:κ}{d:ν}{st:Nat}(j:Nat)(hk:KeyC P kt e eK)(ht:P.underlying t=some (.map kt h))(hz:tz1 P h=some (eV d))(ho:s.objs[j]? = some (entm b e eK eV m k d st))
  (hx:Ev s x (eqv (.map (some b)))) (hi:Ev s i (eqv (eK k))):OpQ C ⟨dst,.lookup t x i false,ty,pos,after,guard⟩ s (eqv (eV ((cget e m k).getD d))):=
 .valO λa r S w hw hs=>by
  have u:=hx a r w hs;have z:=hi a r w hs;simp only[eqv] at u z
  letI:BEq κ:=bqC e
  have hn:=(hw.obj j _ ho).2.1;obtain⟨es,clock,hc,_,f,hf,a0,hv,_⟩:=zjs hk hn k;have hg:cget e (cset e m k ((cget e m k).getD d)) k=some ((cget e m k).getD d):=zx9 e k _ m;obtain⟨j',v,hj,g⟩:=hv _ hg;obtain⟨_,g⟩:=g (by simp);rw[hj] at hf;refine⟨v,?_,g⟩;simp only[execOp,u,z,Instr.lookup,w08,run_underlying ht,w06,w10 hc,w0p,hk.check,hf];simp
end
end Px
end
section
namespace Px
open Go Go.RowKit
section
variable{V:TE}{N:Env V}{R:Type}{r:R}
theorem zq3{tab:Tab}{f:Nat->Bool}{s s':z9i}{m:List (Nat×VP)}(h:∀t A,s t=some A->z1k tab f s' m t=some A):∀(l:List (Nat×VP))t A,z1k tab f s l t=some A->z1k tab f s' (l++m) t=some A
 | [],t,A,d=>h t A d
 |(q,x)::l,t,A,d=>by
  simp only[w2j,z1k] at d⊢;cases g :(f q&&zdz (tab.dst q) t) with
  |true=>rw[g] at d;exact d
  |false=>rw[g] at d;exact zq3 h l t A d
theorem zw5{a b:Operand}(h:yb4 a b=true):a=b:=by cases a<;>cases b<;>simp[yb4] at h;subst h;rfl
theorem y8k{ops:Array Oper}{u g j z t:Nat}{x i y:Operand}(h:y8j ops=some (u,g,j,z,t,x,i,y)):5<=ops.size/\
  (∃ty pos d,ops[ops.size-5]? = some ⟨some u,.lookup t x i false,ty,pos,d,none⟩)/\(∃t1 t2 ty pos d,ops[ops.size-5+1]? = some ⟨some g,.binOp .add t1 (.tmp u) y t2,ty,pos,d,none⟩)/\
  (∃ty pos d,ops[ops.size-5+2]? = some ⟨some j,.mapEntry t x i,ty,pos,d,none⟩)/\(∃ty pos d,ops[ops.size-5+3]? = some ⟨some z,.extract (.tmp j) 1,ty,pos,d,none⟩)/\
  ∃t3 ty pos d,ops[ops.size-5+4]? = some ⟨none,.entryStore t3 x (.tmp z) (.tmp g),ty,pos,d,none⟩:=by
 unfold y8j at h;split at h
 .rename_i hl;rw[Bool.cond_eq_ite] at h;split at h
  .rename_i hc;simp only[w02] at hc;obtain⟨⟨⟨⟨⟨⟨⟨⟨c1,c2⟩,c3⟩,c4⟩,c5⟩,c6⟩,c7⟩,c8⟩,c9⟩:=hc;have e1:=w03 c1;have e2:=w03 c2;have e3:=w03 c3;have e4:=w03 c4;have e5:=w03 c5;have e6:=zw5 c6;have e7:=zw5 c7;have e8:=zw5 c8;have f:∀k,ops[ops.size-5+k]? =(ops.toList.drop (ops.size-5))[k]?:=λk=>by rw[w20];simp
   rw[hl] at f;cases h;subst e1;subst e2;subst e3;subst e4;subst e5;subst e6;subst e7;subst e8;exact⟨w0s c9,⟨_,_,_,f 0⟩,⟨_,_,_,_,_,f 1⟩,⟨_,_,_,f 2⟩,⟨_,_,_,f 3⟩,_,_,_,_,f 4⟩
  .cases h
 .cases h
theorem yig{tab:Tab}{gb:List (Nat×Bool)}{bs:Sls V.T}{es:List (DE V.T)}(h:EsOK tab gb bs es){f:Nat->Bool}{kn:Ch}{o:Operand}{v:SV V.T}(g:isEv V (drSl V f bs es) kn o=true)(d:evO (drSl V (λ_=>true) bs es) kn o=some v):
  evO (drSl V f bs es) kn o=some v:=by
 unfold isEv at g;cases o with
 |tmp t=>
  simp only[evO] at g d⊢;cases j:lk (drSl V f bs es) t with
  |none=>rw[j] at g;simp at g
  |some p=>rw[yd6 h f j] at d;exact d
 |_=>exact d
theorem y8f{tab:Tab}{gb:List (Nat×Bool)}{bs:Sls V.T}{es:List (DE V.T)}(h:EsOK tab gb bs es){f:Nat->Bool}{e:DE V.T}(d:e∈es)(z:f e.1=true):lk (drSl V f bs es) e.2.1=some e.2.2:=by
 obtain⟨y,hy⟩:∃y,lk (drSl V f bs es) e.2.1=some y:=by refine za2 (x:=e.2.2) ?_;unfold drSl;exact w1f _ (w0b.2 ⟨e,w0i.2 ⟨d,z⟩,rfl⟩)
 rw[hy];rcases zb2 hy with⟨u,g,_,j⟩|hb
 .have:=h.inj e d u g (by rw[j])
  subst this;rw[j]
 .rcases h.bs e d with q|⟨q,_⟩
  .rw[hb] at q;cases q
  .rw[hb] at q;cases q;rfl
theorem zq2{tab:Tab}{j:Nat->Bool}{s:z9i}{t:Nat}: ∀{l:List (Nat×VP)},(∀p∈l,tab.dst p.1≠some t)->z1k tab j s l t=s t
 | [],_=>rfl
 |(q,x)::l,h=>by
  have d:zdz (tab.dst q) t=false:=by
   cases f:zdz (tab.dst q) t with
   |false=>rfl
   |true=>exact absurd (zp8.1 f) (h (q,x) (w0n ..))
  simp only[z1k,d,Bool.and_false,cond_false];exact zq2 λp g=>h p (w0g _ g)
theorem zq1{tab:Tab}{d:Nat->Bool}{s:z9i}{t:Nat}{m:List (Nat×VP)}: ∀{l:List (Nat×VP)},(∀p∈l,tab.dst p.1≠some t)->z1k tab d s (l++m) t=z1k tab d s m t
 | [],_=>rfl
 |(q,x)::l,h=>by
  have f:zdz (tab.dst q) t=false:=by
   cases g:zdz (tab.dst q) t with
   |false=>rfl
   |true=>exact absurd (zp8.1 g) (h (q,x) (w0n ..))
  simp only[w2j,z1k,f,Bool.and_false,cond_false];exact zq1 λp j=>h p (w0g _ j)
theorem ykq[Dr](hN:z6x V N){C:Cx N.P}{rd:Option Nat}{ae:List GA}{ops:Array Oper}{id:Nat}{K:SS V.T->Option R}{Q:Exit->Act->World->Prop}(hK:∀s a w,K s=some r->SatS V C ae s a w->Q .normal a w)
  {s:SS V.T} {a:Act} {w:World} (hm:N.P.follows .mixedOrders=true) (h:entX V N ops s K=some r) (hs:SatS V C ae s a w) :(Code.region id ops true).wpIn (fz rd) 0 N.P Q a w:=by
 unfold entX at h;split at h
 case h_2=>cases h
 rename_i dL dB dE dX t x i y bu;obtain⟨h5,⟨cv,posL,aftL,hL⟩,⟨cd,ce,ci,posB,aftB,hB⟩,⟨cu,posE,aftE,hE⟩,⟨cx,posX,aftX,hX⟩,tS,cw,posS,aftS,hS⟩:=y8k bu;obtain⟨hd,hn,b2,ac,A,ro,S,hl,hw,bk,bz,c1⟩:=hs;generalize ax:y7x V ops s=bs at h;have ap:∀{t:Nat}{x:Ch×SV V.T},lk bs t=some x->lk s.sl t=some x:=λ{t x}hx=>zae (λk=>!isDs ops.toList k) (by unfold y7x at ax;rw[ax];exact hx)
 have ag:GbOK (⟨bs,s.gb,s.kn,s.n⟩:Fm V.T):=⟨λt g hg ch z hz=>ac.val t g hg ch z (ap hz),λt ch z hz=>ac.ch t ch z (ap hz),ac.kn⟩;obtain⟨a0,a2,x1,x2,x3,x4,x6,x7⟩:=ztw hN (C:={ C with n:=s.n,r0:=ro,wI:=w,rd:=rd,df:=a.defers }) (A:=A) (ops.toList.take (ops.size-5)) 0 s [] (λq o hq=>by
  rw[w0x] at hq;split at hq
  .simpa using hq
  .cases hq) h ⟨λe he=>absurd he w0y,λe he=>absurd he w0y,λe he=>absurd he w0y,λe he=>absurd he w0y,λe he=>absurd he w0y⟩ ag b2 (zpu hw)
 simp only[w0e] at x2 x3 x7;have ai:chP a0 s.kn:=(x1.chP ac.kn) ▸ b2;unfold entK at x2;split at x2
 case h_2=>cases x2
 rename_i j u ky w2 hx hi hy;split at x2
 case h_2=>cases x2
 rename_i kc vc E m ho;split at x2
 case h_2=>cases x2
 rename_i et key bm b0;split at x2
 case h_2=>cases x2
 rename_i z kv w1 hz hv;split at x2
 case h_2=>cases x2
 rename_i val ba;rw[Bool.cond_eq_ite] at x2;split at x2
 case isFalse=>cases x2
 rename_i hc;simp only[w02,decide_eq_true_eq] at hc;obtain⟨⟨⟨aa,c5⟩,bl⟩,az⟩:=hc;subst bl;simp only[entC,w02,w0v,w34] at az;obtain⟨⟨⟨⟨⟨⟨⟨⟨⟨⟨⟨⟨⟨⟨⟨⟨⟨⟨⟨⟨⟨⟨⟨⟨evLx,evLi⟩,evBy⟩,bb⟩,evEx⟩,evEi⟩,cp⟩,evSx⟩,c8⟩,c9⟩,chk1⟩,chk2⟩,chk3⟩,gL⟩,gB⟩,bL⟩,bB⟩,bE⟩,bX⟩,eL⟩,eB⟩,ca⟩,nE⟩,c7⟩,nX⟩:=az;have c4:=ygu aa c5;subst c4;obtain⟨kt,ht,hk⟩:=zlg bm;obtain⟨q,ha⟩:∃q,A[j]? = some q:=by
  have hj:j<A.length:=by rw[hl];exact(w04.1 ho).1
  exact⟨A[j],w0c hj⟩
 generalize cm:ops.size-5=n5 at *;have b5:∀i,i<(z02 ops).length->∀e∈Tab.deps (z02 ops) i,e<i:=λi hi e he=>by simp only[chk,w02,w0a,w1d,decide_eq_true_eq] at chk1;exact chk1.2 i hi e he
 have x7:=x7 b5;have bh:Tab.dst (z02 ops) n5=some dL:=by rw[zii hL]
 have bg:Tab.dst (z02 ops) (n5+1)=some dB:=by rw[zii hB]
 have ab:Tab.dst (z02 ops) (n5+3)=some dX:=by rw[zii hX]
 have b1:EsOK (z02 ops) a0 bs ((n5,dL,[],SV.int kv w1)::a2):=x3.put bh gL (.inl bL) eL (λp hp=>by cases hp);have a3:EsOK (z02 ops) a0 bs ((n5+1,dB,[],SV.int kv (kv.wrap (w1+w2)))::(n5,dL,[],SV.int kv w1)::a2):=b1.put bg gB (.inl bB) (by rw[w49,eB,w4b];exact ca) (λp hp=>by cases hp);generalize a6 :((n5+1,dB,[],SV.int kv (kv.wrap (w1+w2)))::(n5,dL,[],SV.int kv w1)::a2:List (DE V.T))=a1 at *;have am:EsOK (z02 ops) a0 bs ([(n5+1,dB,[],SV.int kv (kv.wrap (w1+w2))),(n5,dL,[],SV.int kv w1)]++a2):=by have:=a3;rw[<- a6] at this;exact this
 have up:∀{f:Nat->Bool}{o:Operand}{v:SV V.T},isEv V (drSl V f bs a2) s.kn o=true->evO (drSl V (λ_=>true) bs a2) s.kn o=some v->evO (drSl V f bs a1) s.kn o=some v:=λ{f o v}h1 h2=>by have h3:=yig x3 h1 h2;rw[<- a6];exact SubS.ev (s:={ s with sl:=drSl V f bs a2 }) (s':={ s with sl:=drSl V f bs ([(n5+1,dB,[],SV.int kv (kv.wrap (w1+w2))),(n5,dL,[],SV.int kv w1)]++a2) }) ⟨λt x hx=>ztv am f hx,rfl,λi x hx=>.inr hx⟩ h3
 have inB :(n5+1,dB,[],SV.int kv (kv.wrap (w1+w2)))∈a1:=by rw[<- a6];simp
 have c6 :(n5,dL,[],SV.int kv w1)∈a1:=by rw[<- a6];simp
 have cj:∀{f:Nat->Bool},f (n5+1)=true->evO (drSl V f bs a1) s.kn (.tmp dB)=some (.int kv (kv.wrap (w1+w2))):=λ{f}hf=>by simp only[evO,y8f a3 inB hf];rfl
 have bd:∀{f:Nat->Bool},f n5=true->evO (drSl V f bs a1) s.kn (.tmp dL)=some (.int kv w1):=λ{f}hf=>by simp only[evO,y8f a3 c6 hf];rfl
 have a7:∀{f:Nat->Bool}{o:Operand}{v:SV V.T}(O:List HP),evO (drSl V f bs a1) s.kn o=some v->Ev ⟨slD V N.P A a0 (drSl V f bs a1),O⟩ o (v.den V N.P A):=λ{f o v}O he=>z1t V N.P (A:=A) (s:={ s with gb:=a0,sl:=drSl V f bs a1 }) he ai
 have a4 :(qrOf N.P A a0 a1).map (·.1) =(n5+1)::n5::a2.map (·.1):=by rw[<- a6];simp[qrOf]
 have aw:∀{t:Nat}{B:VP},slD V N.P A a0 bs t=some B->lk bs t≠none:=λ{t B}hB bp=>by simp only[slD,bp,w5u] at hB;cases hB
 have bc:∀p∈qrOf N.P A a0 a1,Tab.dst (z02 ops) p.1≠some dE:=λp hp hq=>by have:=w0a.1 nE p.1 (by rw[<- a4];exact w1f _ (w0b.2 ⟨p,hp,rfl⟩));exact zj3 this dE hq rfl
 have cb:∀p∈qrOf N.P A a0 a1,Tab.dst (z02 ops) p.1≠some dX:=λp hp hq=>by have:=w0a.1 nX p.1 (by rw[<- a4];exact w0b.2 ⟨p,hp,rfl⟩);exact zj3 this dX hq rfl
 have neXE:dX≠dE:=λe=>by have:=w0a.1 nE (n5+3) (by simp);exact zj3 this dX ab (by rw[e])
 have be:∀{f:Nat->Bool}(X Y:VP){t:Nat}{B:VP},slD V N.P A a0 (drSl V f bs a1) t=some B->z1k (z02 ops) f ((slD V N.P A a0 bs).set (some dE) X) (qrOf N.P A a0 a1++[(n5+3,Y)]) t=some B:=λ{f}X Y{t B}hB=>by
  rw[<- z5w (tab:=z02 ops) f a3.dst] at hB;refine zq3 (λt B hB=>?_) _ _ _ hB;have br:t≠dX:=λe=>aw hB (e ▸ bX)
  have bq:t≠dE:=λe=>aw hB (e ▸ bE)
  rw[zq2 (λp hp hq=>by simp only[w0d] at hp;subst hp;rw[ab] at hq;cases hq;exact br rfl)];show (bif Nat.beq t dE then some X else slD V N.P A a0 bs t)=some B;rw[zo7 bq];exact hB
 have a9:∀{f:Nat->Bool}{o:Operand}{v:SV V.T}(X Y:VP)(O:List HP),evO (drSl V f bs a1) s.kn o=some v->Ev ⟨z1k (z02 ops) f ((slD V N.P A a0 bs).set (some dE) X) (qrOf N.P A a0 a1++[(n5+3,Y)]),O⟩ o (v.den V N.P A):=λ{f o v}X Y O he a r w hs=>a7 O he a r w λt B hB=>hs t B (be X Y hB)
 have kd:∀{s0:St} ,Ev s0 i (u.den V N.P A)->Ev s0 i (eqv (V.kv kc key)):=λ{s0}he=>(he.ent' (z6y V N.P b0)).ent' (zt9 hk)
 have od:∀{s0:St},q.2 = .map (some q.1)->Ev s0 x ((SV.own j:SV V.T).den V N.P A)->Ev s0 x (eqv (.map (some q.1))):=λ{s0}hq he=>by simp only[SV.den,ha] at he;rw[<- hq];exact he
 have bf:eqv (V.kv vc ((cget (V.kl kc) m key).getD (V.z vc))) =(SV.int kv w1:SV V.T).den V N.P A:=by rw[<- hv,z4l,y2n V aa]
 have au:∀{C2:Cx N.P}(s0:St),Ev s0 (.tmp dL) ((SV.int kv w1:SV V.T).den V N.P A)->Ev s0 y ((SV.int kv w2:SV V.T).den V N.P A)->
   GQ C2 (z02 ops) ⟨some dB,.binOp .add cd (.tmp dL) y ce,ci,posB,aftB,none⟩ s0 (denE V N.P A a0 ([],SV.int kv (kv.wrap (w1+w2)))):=λ{C2}s0 h1 h2=>by
  show OpQ C2 _ _ _;exact ylk (C:=C2) h1 h2
 have ay:zj (slD V N.P A a0 bs) a ro w:=by
  rw[<- zzc x1 ag];intro t X hX;simp only[slD] at hX;cases hb:lk bs t with
  |none=>rw[hb] at hX;cases hX
  |some e=>rw[hb] at hX;exact bz t X (by simp only[slD,ap hb];exact hX)
 refine y0h (C:={ C with n:=s.n,r0:=ro,wI:=w,rd:=rd,df:=a.defers }) (s:=⟨slD V N.P A a0 bs,obD V N.P A A s.ob⟩) (QR:=qrOf N.P A a0 a1) (tab:=z02 ops) hm ?_ ⟨rfl,hn,ro,S,hw,Evo.refl _ _ _,ay⟩;refine Reg.introG [n5+2] [] rfl (by rw[a4];exact chk1) (zlm a3) ?_ ⟨⟨_,hE,?_,?_,?_⟩,trivial⟩ ?_
 .refine zea λp hp _=>?_
  simp only[qrOf,w0b] at hp;obtain⟨e,he,rfl⟩:=hp;rw[<- a6] at he;rcases w05.1 he with rfl|he
  .refine⟨_,hB,?_⟩;rw[z5w _ a3.dst];exact au _ (a7 _ (bd bb)) (a7 _ (up evBy hy))
  .rcases w05.1 he with rfl|he
   .refine⟨_,hL,?_⟩;rw[z5w _ a3.dst];show OpQ _ _ _ ((SV.int kv w1:SV V.T).den V N.P A);rw[<- bf];refine zpf (s:={ s with gb:=a0,sl:=drSl V (memB (Tab.deps (z02 ops) n5)) bs a1 }) ha ho λhq _=>?_
    have b6:=zy9 (P:=N.P) (s:={ s with gb:=a0,sl:=drSl V (memB (Tab.deps (z02 ops) n5)) bs a1 }) ha ho;rw[zmp aa] at b6;exact zyg j (z9r hk) ht hz b6 (od hq (a7 _ (up evLx hx))) (kd (a7 _ (up evLi hi)))
   .obtain⟨o,h1,h2⟩:=x7 e he;refine⟨o,h1,?_⟩;have b4:=x6 e he;have bn:e.1<(z02 ops).length:=by rw[zfa rfl];exact(w1c.1 h1).1
    have bx:qrOf N.P A a0 a1 = [(n5+1,denE V N.P A a0 ([],SV.int kv (kv.wrap (w1+w2)))),(n5,denE V N.P A a0 ([],SV.int kv w1))]++qrOf N.P A a0 a2:=by rw[<- a6];rfl
    have b7:∀k,n5<=k->memB (Tab.deps (z02 ops) e.1) k=false:=λk hk=>by
     cases aq:memB (Tab.deps (z02 ops) e.1) k with
     |false=>rfl
     |true=>have:=b5 e.1 bn k (z0f.1 aq);have h3:=List.length_take_le n5 ops.toList;omega
    rw[bx,zlq]
    .exact h2
    .intro p hp;simp only[w05,w0y,or_false] at hp;rcases hp with rfl|rfl
     .exact b7 _ (by simp)
     .exact b7 _ (w16 _)
 .simpa[z8g] using c7
 .rw[a4];refine w0a.2 λk ao=>w0a.1 nE k (w1f _ ao)
 .show OpT _ _ _ _;rw[z5w _ a3.dst];refine zuq (s:={ s with gb:=a0,sl:=drSl V (memB (Tab.deps (z02 ops) (n5+2))) bs a1 }) ha ho λhq co ah=>?_
  rw[zmp aa] at ah⊢;refine y1m (d:=V.z vc) j (z9r hk) ht hz ah (od hq (a7 _ (up evEx hx))) (kd (a7 _ (up evEi hi))) λst=>?_
  generalize bi:tupv [topv,eqv (goInt (st:Nat))]=X1;generalize av:eqv (goInt (st:Nat))=Y1;have ad:=chk2;simp only[chk,w02] at ad;have ad:=zbg ad.1.1.1.1.2;have n3:∀k∈(n5+1)::n5::a2.map (·.1),k≠n5+3:=λk ao e=>by subst e;exact(w4m.1 ad).2.2 _ ao _ (by simp) rfl
  refine⟨[(n5+3,Y1)],?_,?_⟩
  .rw[a4];simp only[w1h,List.all_nil,w5f,w0v];cases aq:memB ((n5+1)::n5::a2.map (·.1)) (n5+3) with
   |false=>rfl
   |true=>exact absurd rfl (n3 _ (z0f.1 aq))
  have hkeys2 :(qrOf N.P A a0 a1++[(n5+3,Y1)]).map (·.1) =((n5+1)::n5::a2.map (·.1))++[n5+3]:=by rw[w1g,a4];rfl
  have b3:j<(obD V N.P A A s.ob).length:=(w04.1 (zw V N.P (A:=A) (ps:=A) ha ho)).1;have aj:zwo (z02 ops) ((slD V N.P A a0 bs).set (some dE) X1) (qrOf N.P A a0 a1++[(n5+3,Y1)]):=λp hp t ht=>by
   have ak:t≠dE->(slD V N.P A a0 bs).set (some dE) X1 t=slD V N.P A a0 bs t:=λbt=>by show (bif Nat.beq t dE then some X1 else slD V N.P A a0 bs t)=_;rw[zo7 bt];rfl
   rcases w0j.1 hp with hp|hp
   .rw[ak (λe=>bc p hp (e ▸ ht))];exact zlm a3 p hp t ht
   .simp only[w0d] at hp;subst hp;rw[ab] at ht;cases ht;rw[ak neXE];exact .inl (by simp only[slD,bX,w5u])
  have small:∀e∈a2,e.1<n5:=λe he=>by have b4:=x6 e he;have h3:=List.length_take_le n5 ops.toList;omega
  simp only[w3g];refine Reg.introG [n5+4] (a2.map (·.1)) rfl (by rw[hkeys2];exact chk2) aj ?_ ⟨⟨_,hS,?_,?_,?_⟩,trivial⟩ ?_
  .refine zea λp hp a5=>?_
   rcases w0j.1 hp with hp|hp
   .simp only[qrOf,w0b] at hp;obtain⟨e,he,rfl⟩:=hp;rw[<- a6] at he;rcases w05.1 he with rfl|he
    .exact⟨_,hB,au _ (a9 X1 Y1 _ (bd bb)) (a9 X1 Y1 _ (up evBy hy))⟩
    .rcases w05.1 he with rfl|he
     .refine⟨_,hL,?_⟩;show OpQ _ _ _ ((SV.int kv w1:SV V.T).den V N.P A);rw[<- bf];exact y6k (st:=st) j (z9r hk) ht hz (w1v b3) (od hq (a9 X1 Y1 _ (up evLx hx))) (kd (a9 X1 Y1 _ (up evLi hi)))
     .have:memB (a2.map (·.1)) e.1=true:=z0f.2 (w0b.2 ⟨e,he,rfl⟩);simp only at a5;rw[this] at a5;cases a5
   .simp only[w0d] at hp;subst hp;refine⟨_,hX,?_⟩;show OpQ _ _ _ _;refine zyi (xs:=[topv,Y1]) (λa r w hs=>hs dE _ ?_) rfl;refine(zq2 (λp hp ar=>by
     rcases w0j.1 hp with hp|hp
     .exact bc p hp ar
     .simp only[w0d] at hp;subst hp;rw[ab] at ar;cases ar;exact neXE rfl)).trans ?_
    show (bif Nat.beq dE dE then some X1 else _)=_;rw[w2p,<- bi,av];rfl
  .rfl
  .refine w0a.2 λk _=>?_
   cases Tab.dst (z02 ops) k<;>rfl
  .show OpT _ _ _ _;refine zuv (st:=st) (v:=val) j (w1v b3) (od hq (a9 X1 Y1 _ (up evSx hx))) (λa r w hs=>?_) ?_ ?_
   .rw[av];refine hs dX Y1 ?_;refine(zq1 cb).trans ?_;simp only[z1k,c9,ab,zdz,w2p,w4a,cond_true]
   .have:=(a9 (f:=memB (Tab.deps (z02 ops) (n5+4))) X1 Y1 ((obD V N.P A A s.ob).set j (entm q.1 (V.kl kc) (V.kv kc) (V.kv vc) m key (V.z vc) st)) (cj c8)).ent' (z6y V N.P ba)
    rw[y2n V aa] at this;exact this
   .refine⟨[],rfl,?_⟩;simp only[w3g,w0e];refine Reg.introG [] (((n5+1)::n5::a2.map (·.1))++[n5+3]) rfl (by rw[hkeys2];exact chk3) aj ?_ trivial ?_
    .refine zea λp hp a5=>?_
     have:memB (((n5+1)::n5::a2.map (·.1))++[n5+3]) p.1=true:=z0f.2 (by rw[<- hkeys2];exact w0b.2 ⟨p,hp,rfl⟩);rw[this] at a5;cases a5
    .intro _ a' w' b8;obtain⟨bj,bo,cc,S',c2,af,b9⟩:=b8;have bw:ObW ((obD V N.P A A s.ob).set j (nmp q.1 (V.kl kc) (V.kv kc) (plI (V.kv vc)) (cset (V.kl kc) m key val) none)) (obD V N.P A A (s.ob.set j (.x (.map kc vc E (cset (V.kl kc) m key val) none)))):=by rw[z6f V N.P A s.ob j q _ ha];exact ObW.le (ze1 (show EntH _ ((SO.x (.map kc vc E (cset (V.kl kc) m key val) none):SO V.T).den V N.P A q) from λS r w h=>⟨⟨hq,λ_ _ q=>by cases q⟩,by rw[zmp aa];exact h⟩) _ _)
     obtain⟨S2,c3⟩:=bw _ _ _ _ _ c2;exact hK _ a' w' x2 ⟨trivial,bo,ai,a3.gb x4 _,A,cc,S2,by rw[w2o];exact hl,c3,y4i bj ▸ bk.trans af,λt B hB=>b9 t B (be X1 Y1 hB),c1.ext (AExt.refl _) af⟩
  .intro a8;exfalso;have h4:n5+4<(z02 ops).length:=by rw[zfa rfl];exact(w1c.1 hS).1
   have:=w0a.1 a8 (n5+4) (w1d.2 h4);rw[hkeys2,w0w,z0f,z0f] at this;simp only[w05,w0j,w0b,w0y,or_false] at this;rcases this with h |(h|h|⟨e,he,h⟩)|h
   .omega
   .omega
   .omega
   .have:=small e he;omega
   .omega
 .intro a8;exfalso;have h4:n5+2<(z02 ops).length:=by rw[zfa rfl];exact(w1c.1 hE).1
  have:=w0a.1 a8 (n5+2) (w1d.2 h4);rw[a4,w0w,z0f,z0f] at this;simp only[w05,w0b,w0y,false_or] at this;rcases this with h|h|⟨e,he,h⟩
  .omega
  .omega
  .have b4:=x6 e he;have h3:=List.length_take_le n5 ops.toList;omega
end
end Px
end
section
namespace Px
open Go Go.RowKit
section
variable{V:TE}{N:Env V}{R:Type}{r:R}{C:Cx N.P}
theorem yhk[Dr]{C:Cx N.P}{d:List GA}{s:SS V.T}{a:Act}{w:World}(t:Nat)(H:SatS V C d s a w):SatS V C d (cutX V s t) a w:=H
theorem y05[Dr](hN:z6x V N){R':Type}{leaf:Option R->Option R'}{comb:List (Option R')->Option R'}{G:R'->Prop}(j:y2r leaf comb r G){inl:Nat->Inl V R}{id:Nat}{ops:Array Oper}{K:KX V R}{Γ:List (Option (Nat×Nat))}{rd:Option Nat}(a3:zwm Γ C r inl ops inl K)
  {d:List GA} (hΓ:d.map GA.lpI=Γ) {Q:Exit->Act->World->Prop} (hK:∀e s a w,K e s=some r->SatS V C d s a w->Q e a w) (hm:N.P.follows .mixedOrders=true) {ls:List Nat} {L:R'} {s:SS V.T} {a:Act} {w:World}
  (h:altT V N leaf comb inl ops ls s K=some L) (hL:G L) (hs:SatS V C d s a w) :(Code.region id ops true).wpIn (fz rd) 0 N.P Q a w:=by
 unfold altT ykb at h;obtain⟨hd,hn,a7,u,A,ro,S,hl,hw,a6,a8,a9⟩:=hs;generalize a5 :(s.sl.filter λp=>!isDs (wrO V ops s) p.1||yfe ops.toList p.1)=bs at h;have a0:∀{t:Nat}{x:Ch×SV V.T},lk bs t=some x->lk s.sl t=some x:=λ{t x}hx=>zae (λk=>!isDs (wrO V ops s) k||yfe ops.toList k) (by rw[a5];exact hx)
 have a2:GbOK (⟨bs,s.gb,s.kn,s.n⟩:Fm V.T):=⟨λt g hg ch z hz=>u.val t g hg ch z (a0 hz),λt ch z hz=>u.ch t ch z (a0 hz),u.kn⟩;have a1:zj (slD V N.P A s.gb bs) a ro w:=by
  intro t X hX;simp only[slD] at hX;cases hb:lk bs t with
  |none=>rw[hb] at hX;cases hX
  |some e=>rw[hb] at hX;exact a8 t X (by simp only[slD,a0 hb];exact hX)
 have a4:=yd7 (rd:=rd) hN j hΓ a3 (hK .normal) a6 _ _ [] [] bs [] s A L h hL (AExt.refl A) hl a9 ⟨λe f=>absurd f w0y,λe f=>absurd f w0y,λe f=>absurd f w0y,λe f=>absurd f w0y,λe f=>absurd f w0y⟩ a2 a7 (λe f=>absurd f w0y);exact y0h (C:={ C with n:=s.n,r0:=ro,wI:=w,rd:=rd,df:=a.defers }) hm a4 ⟨rfl,hn,ro,S,hw,Evo.refl _ _ _,a1⟩
theorem y2a[Dr](hN:z6x V N){inl:Nat->Inl V R}{id:Nat}{ops:Array Oper}{d:Bool}{K:KX V R}{Γ:List (Option (Nat×Nat))}{rd:Option Nat}(g:zwm Γ C r inl ops inl K)
  {f:List GA} (hΓ:f.map GA.lpI=Γ) {Q:Exit->Act->World->Prop} (z:∀e s a w,K e s=some r->SatS V C f s a w->Q e a w) {s:SS V.T} {a:Act} {w:World} (h:regX V N inl ops d s K=some r) (hs:SatS V C f s a w) :(Code.region id ops d).wpIn (fz rd) 0 N.P Q a w:=by
 unfold regX at h;cases d with
 |true=>
  simp only[cond_true] at h;cases u:N.P.follows .mixedOrders with
  |false=>rw[u] at h;cases h
  |true=>
   rw[u] at h;simp only[cond_true] at h;cases a0 :(y8j ops).isSome with
   |true=>rw[a0] at h;exact ykq hN (K:=λs=>K .normal s) (z .normal) u h hs
   |false=>
   rw[a0] at h;simp only[cond_false] at h;cases j:ybg V ops s with
   |true=>rw[j] at h;simp only[ybg,w02] at j;exact yfi hN z u j.2 j.1.1 h hs
   |false=>
   rw[j] at h;simp only[cond_false] at h;split at h
   .split at h
    .exact yhp hN (K:=λs=>K .normal s) (z .normal) u h hs
    .exact y05 hN y3a g hΓ z u h rfl hs
   .exact y05 hN y3a g hΓ z u h rfl hs
 |false=>simp only[cond_false] at h;refine wpIn_region ?_;have:=zkl (rd:=rd) hN hΓ g (z .normal) ops.toList 0 s a w rfl h hs;rw[<- w45] at this;simpa using this
theorem zw7[Dr]{d:List GA}{Q:Exit->Act->World->Prop}{n:SS V.T->Option R}{K:KX V R}{W:Act->World->Prop}(j:∀s a w,n s=some r->SatS V C d s a w->W a w)(g:∀e s a w,K e s=some r->SatS V C d s a w->Q e a w):
  ∀e s a w,seqK V n K e s=some r->SatS V C d s a w->Exit.then W Q e a w:=by
 intro e s a w h f;cases e with
 |normal=>exact j s a w h f
 |_=>exact g _ s a w h f
theorem y7z[Dr]{d:List GA}{Q:Exit->Act->World->Prop}{j:Nat}{K:KX V R}(f:∀e s a w,K e s=some r->SatS V C d s a w->Q e a w):
  ∀e s a w,blkK V j K e s=some r->SatS V C d s a w->Exit.inBlock j Q e a w:=by
 intro e s a w h g;cases e with
 |exit i=>
  simp only[blkK] at h;simp only[Exit.inBlock];by_cases e:i=j
  .subst e;rw[w2p] at h;rw[if_pos rfl];exact f .normal s a w h g
  .rw[zo7 e] at h;rw[if_neg e];exact f _ s a w h g
 |_=>exact f _ s a w h g
theorem ygc[Dr]{d:List GA}{Q:Exit->Act->World->Prop}{K:KX V R}(f:∀e s a w,K e s=some r->SatS V C d s a w->Q e a w):
  ∀e s a w,ngK V K e s=some r->SatS V C d s a w->Exit.noGoto Q e a w:=by
 intro e s a w h g;cases e with
 |goto l=>cases h
 |_=>exact f _ s a w h g
theorem y3b[Dr]{f:List GA}{rd:Option Nat}{Q:Exit->Act->World->Prop}{o:Operand}{c d:Code}{x y:Option R}{s:SS V.T}{a:Act}{w:World}(h:ycz V s o x y=some r)(hs:SatS V C f s a w)(hx:x=some r->c.wpIn (fz rd) 0 N.P Q a w)(hy:y=some r->d.wpIn (fz rd) 0 N.P Q a w):(Code.cond o c d).wpIn (fz rd) 0 N.P Q a w:=by
 unfold ycz at h;split at h
 .rename_i b u;obtain⟨_,_,a1,a0,A,ro,S,hl,hw,z,g,a2⟩:=hs;have j:=z1t V N.P (A:=A) (zbj u) trivial a ro w g;simp only[SV.den] at j;refine wpIn_cond_split j (λe=>hx ?_) (λe=>hy ?_)
  .subst e;simpa using h
  .subst e;simpa using h
 .cases h
theorem y1k{rd:Option Nat}{x y:Code}(h:rd=none\/noRF (.seq x y)=true):(rd=none\/noRF x=true)/\(rd=none\/noRF y=true):=by
 rcases h with h|h
 .exact⟨.inl h,.inl h⟩
 .have h :(noRF x&&noRF y)=true:=h;simp only[w02] at h;exact⟨.inr h.1,.inr h.2⟩
theorem y4m{rd:Option Nat}{o:Operand}{x y:Code}(h:rd=none\/noRF (.cond o x y)=true):(rd=none\/noRF x=true)/\(rd=none\/noRF y=true):=y1k (x:=x) (y:=y) h
theorem zu4[Dr](hN:z6x V N){dfl:Inl V R}(hd:∀Γ f fn c K,N.P.funcs[f]? = some fn->fn.body=some c->zn5 Γ C r (dfl f) c K)(z:∀Γ k,YOK Γ C r dfl k):∀(c:Code)(Γ:List (Option (Nat×Nat)))(K:KX V R),zn5 Γ C r (zrf V N dfl) c K:=by
 intro c
 induction c with
 |skip=>exact λΓ K rd acts Q hΓ g u s a w h j=>wpIn_skip (u _ s a w h j)
 |label l=>exact λΓ K rd acts Q hΓ g u s a w h j=>wpIn_label (u _ s a w h j)
 |region id ops d=>exact λΓ K rd acts Q hΓ g u s a w h j=>y2a hN ⟨λi f fn c h1 h2=>hd _ f fn c _ h1 h2,λi=>z _ _⟩ hΓ u h j
 |seq x y hx z=>intro Γ K rd acts Q hΓ g u s a w h j;obtain⟨r1,r2⟩:=y1k g;exact wpIn_seq (hx Γ _ rd acts _ hΓ r1 (zw7 (λs a w h j=>z Γ K rd acts Q hΓ r2 u s a w h j) u) s a w h j)
 |cond o x y hx z=>intro Γ K rd acts Q hΓ g u s a w h j;obtain⟨r1,r2⟩:=y4m g;exact y3b h j (λh=>hx Γ K rd acts Q hΓ r1 u s a w h j) (λh=>z Γ K rd acts Q hΓ r2 u s a w h j)
 |block id c hc=>intro Γ K rd acts Q hΓ g u s a w h j;exact wpIn_block (hc Γ _ rd acts _ hΓ g (y7z u) s a w h j)
 |scope c hc=>intro Γ K rd acts Q hΓ g u s a w h j;exact zta (hc Γ _ rd acts _ hΓ g (ygc u) s a w h j)
 |exit id=>exact λΓ K rd acts Q hΓ g u s a w h j=>wpIn_exit (u _ s a w h j)
 |ret=>exact λΓ K rd acts Q hΓ g u s a w h j=>wpIn_ret (u _ s a w h j)
 |_=>exact λΓ K rd acts Q hΓ g u s a w h j=>by cases h
theorem znv[Dr]:∀(n:Nat)(Γ:List (Option (Nat×Nat)))(k:SV V.T->SS V.T->Option R),YOK Γ C r (dflN V N n) k
 |0,Γ,k=>λrd acts hΓ s vs a w A ro S h=>by cases h
 |n+1,Γ,k=>λrd acts hΓ s vs a w A ro S h=>by cases h
theorem ztu[Dr](d:z6x V N):∀(n:Nat)(Γ:List (Option (Nat×Nat)))(f:Nat)(c:Code)(K:KX V R),zn5 Γ C r (dflN V N n f) c K
 |0,Γ,f,c,K=>λrd acts Q hΓ g j s a w h u=>by cases h
 |n+1,Γ,f,c,K=>zu4 d (λΓ f fn c K _ _=>ztu d n Γ f c K) (λΓ k=>znv n Γ k) c Γ K
theorem z9l[Dr](g:z6x V N)(Γ:List (Option (Nat×Nat))){ops:Array Oper}{d:Nat->Inl V R}{K:KX V R}: zwm Γ C r (λ_=>Dfl V N R) ops d K:=⟨λi f fn c _ _=>ztu g 8 _ f c _,λi=>znv 8 _ _⟩
theorem zdw{α:Type}{x:Option α}{k:α->Option R}(h:zti x k=some r):∃z,x=some z/\k z=some r:=by
 cases x with
 |none=>cases h
 |some z=>exact⟨z,rfl,h⟩
theorem y84{s:SS V.T}{t:Nat}{x:Ch×SV V.T}(h:lk (clrG V s).sl t=some x):lk s.sl t=some x/\x.1 = []:=by
 have d:=zae (λk=>zds s.sl k) h;refine⟨d,?_⟩;have:=(w0i.1 (zg7 h)).2;simp only[zds,d] at this;obtain⟨ch,v⟩:=x;cases ch with
 |nil=>rfl
 |cons _ _=>cases this
theorem yhc[Dr]{d:List GA}{s:SS V.T}{a:Act}{w:World}(hs:SatS V C d s a w):SatS V C d (clrG V s) a w:=by
 obtain⟨hd,hn,a3,a2,A,ro,S,hl,hw,u,a0,a1⟩:=hs;refine⟨hd,hn,trivial,⟨λt g h=>by simp[clrG,lk] at h,λt ch z j p hp=>?_,λp hp=>by simp[clrG] at hp⟩,A,ro,S,hl,hw,u,?_,a1⟩
 .have:=(y84 j).2
  simp only at this;subst this;cases hp
 .intro t X f;simp only[slD] at f;cases j:lk (clrG V s).sl t with
  |none=>rw[j] at f;cases f
  |some e=>rw[j] at f;obtain⟨h1,h2⟩:=y84 j;obtain⟨ch,v⟩:=e;simp only at h2;subst h2;refine a0 t X ?_;simp only[slD,h1];exact f
theorem yjd[Dr]{a0:List GA}{dst:Option Tmp}{x:Operand}{ty:TypeId}{pos:String}{a4:Array Edge}{s:SS V.T}{j kc vc:Nat}{d:List (V.T kc×V.T vc)}{g:Option (V.T kc×V.T vc)}{k:SS V.T->Option R}
  (hx:evO s.sl s.kn x=some (.own j)) (a2:s.ob[j]? = some (.x (.it kc vc d g))) (u:d≠[]->V.key kc=true) (h0:d = []->after V s dst ([],.tup [.bool false]) k=some r)
  (h1:∀e f,d.Perm (e::f)->after V (updO V s j (.x (.it kc vc f (some e)))) dst ([],.tup [.bool true,V.encV kc e.1,V.encV vc e.2]) k=some r) {a:Act} {w:World} (hs:SatS V C a0 s a w) {rd:Option Nat} {next:Act->World->Prop} {Q:Exit->Act->World->Prop}
  (hk:∀s2 v0 w',k s2=some r->SatS V C a0 s2 (a.put dst v0) w'->next (a.put dst v0) w') :(⟨dst,.next x false,ty,pos,a4,none⟩:Oper).wpIn (fz rd) 0 N.P a w next Q:=by
 obtain⟨hd,hn,a7,af,A,ro,S,hl,hw,ae,ac,ai⟩:=hs;have a3:=z1t V N.P (A:=A) hx a7;simp only[SV.den] at a3;have ag:=(w04.1 a2).1;obtain⟨q,ha⟩:∃q,A[j]? = some q:=⟨_,w0c (hl ▸ ag)⟩;rw[ha] at a3;have a1:=zw V N.P (A:=A) (ps:=A) ha a2;have hq:q.2 = .pointer (some ⟨q.1,0,none⟩):=(hw.obj j _ a1).1;have a9:j<(s.st V N.P A).objs.length:=(w04.1 a1).1;have ad:OpT (P:=N.P) { C with n:=s.n,df:=a.defers } (⟨dst,.next x false,ty,pos,a4,none⟩:Oper) (s.st V N.P A) (LOK V N.P r A s λv s=>after V s dst ([],v) k):=by
  refine OpT.weak (s':=⟨(s.st V N.P A).slots,(s.st V N.P A).objs.set j (itr q.1 (V.kl kc) (V.kv kc) (λy=>V.vl vc y) d g)⟩) (λ_ _ _ h=>h) (ObW.set' a1 λS r w h=>h.2) ?_;have hX:∀k,Ent (eqv (V.kv kc k)) (if V.key kc=true then V.vl kc k else eqv (V.kv kc k)):=λk=>by
   split
   .rename_i hk;exact(y9k hk k).2
   .exact Ent.refl
  refine yix (s:=⟨(s.st V N.P A).slots,(s.st V N.P A).objs.set j (itr q.1 (V.kl kc) (V.kv kc) (λy=>V.vl vc y) d g)⟩) hX j (by rw[w1v a9]) (show Ev (s.st V N.P A) x (eqv (.pointer (some ⟨q.1,0,none⟩))) by rw[<- hq];exact a3) ?_ ?_
  .intro hr;refine⟨[],s.ob,_,h0 hr,by simp[hl],by rw[w0e];exact Ent.refl,?_⟩;rw[w0e];have :(s.st V N.P A).objs.set j (itr q.1 (V.kl kc) (V.kv kc) (λy=>V.vl vc y) d g) =(s.st V N.P A).objs.set j (itr q.1 (V.kl kc) (V.kv kc) (λy=>V.vl vc y) d g):=rfl;refine ObW.trans (ObW.set' (H2:=(SO.x (.it kc vc d g):SO V.T).den V N.P A q) (i:=j) (by rw[w1v a9]) λS r w h=>⟨hq,h⟩) ?_;rw[w3g];have e1 :(s.st V N.P A).objs.set j ((SO.x (.it kc vc d g):SO V.T).den V N.P A q)=obD V N.P A A s.ob:=by rw[show (s.st V N.P A).objs=obD V N.P A A s.ob from rfl,<- z6f V N.P A s.ob j q _ ha,setSame a2]
   rw[e1];exact ObW.refl
  .intro k0 y f hp;have ah:d≠[]:=λe=>by subst e;exact absurd hp.length_eq (by simp)
   have u:=u ah;refine⟨[],s.ob.set j (.x (.it kc vc f (some (k0,y)))),_,h1 (k0,y) f hp,by simp[hl],?_,?_⟩
   .rw[w0e];simp only[SV.den,denV,z4l,u,if_true];exact Ent.refl
   .rw[w0e,w3g,z6f V N.P A s.ob j q _ ha];exact ObW.le (ze1 (show EntH (itr q.1 (V.kl kc) (V.kv kc) (λy=>V.vl vc y) f (some (k0,y))) ((SO.x (.it kc vc f (some (k0,y))):SO V.T).den V N.P A q) from λS r w h=>⟨hq,h⟩) _ _)
 refine Oper.wpIn_mono ?_ (OpT.fz ad a w ro S Q rfl hn hw ac);rintro a' w' ⟨v0,am,S',x,objs',rfl,a6,aj,hx,B,ob',v,z,a8,a5,aa⟩;obtain⟨S2,ak⟩:=aa _ _ _ _ _ aj;change after V { s with ob:=ob' } dst ([],v) k=some r at z;unfold after at z;split at z
 .rename_i s2 ab;exact hk s2 v0 w' z (zqu (e:=([],v)) ab (λp hp=>by simp at hp) hd hn a7 af a8 ak ae a6 ac ai (a5 _ _ _ hx))
 .cases z
 where setSame:∀{l:List (SO V.T)}{i:Nat}{H:SO V.T},l[i]? = some H->l.set i H=l
 |_::_,0,_,h=>by simp at h;subst h;rfl
 |_::l,i+1,_,h=>by simp only[w3v];rw[setSame (by simpa using h)]
 | [],_,_,h=>by simp at h
mutual
theorem ymj:∀(l:LC){ρ:Type}(P:ρ->ρ->Prop)(z:LC.Z V.T l ρ)(d:ρ),P (enV V l z).2 d->∃g,LC.eqZ V.T l P z g/\enV V l g =((enV V l z).1,d)
 | .val c,_,P,z,d,h=>⟨(z.1,d),⟨rfl,h⟩,rfl⟩
 | .cmp c,_,P,z,d,h=>⟨(z.1,d),⟨rfl,h⟩,rfl⟩
 | .rop c,_,P,z,d,h=>⟨(z.1,d),⟨rfl,h⟩,rfl⟩
 | .rom kc vc,_,P,z,d,h=>⟨(z.1,d),⟨rfl,h⟩,rfl⟩
 | .own j,_,P,z,d,h=>⟨d,h,rfl⟩
 | .ptr j o,_,P,z,d,h=>⟨d,h,rfl⟩
 | .nil,_,P,z,d,h=>⟨d,h,rfl⟩
 | .raw v,_,P,z,d,h=>⟨d,h,rfl⟩
 | .agg u,_,P,z,d,h=>by obtain⟨g,h1,h2⟩:=zmc u P z d h;refine⟨g,h1,?_⟩;show (SV.agg (enL V u g).1,(enL V u g).2)=_;rw[h2];rfl
 | .func f u,_,P,z,d,h=>by obtain⟨g,h1,h2⟩:=yk1 u P z d h;refine⟨g,h1,?_⟩;show (SV.func f (enW V u g).1,(enW V u g).2)=_;rw[h2];rfl
theorem zmc:∀(d:List LC){ρ:Type}(P:ρ->ρ->Prop)(z:Zl V.T d ρ)(u:ρ),P (enL V d z).2 u->∃g,eqZl V.T d P z g/\enL V d g =((enL V d z).1,u)
 | [],_,P,z,u,h=>⟨u,h,rfl⟩
 | .val c::d,_,P,z,u,h=>by obtain⟨g,h1,h2⟩:=zmc d P z.2 u h;refine⟨(z.1,g),⟨rfl,h1⟩,?_⟩;show (V.enc c z.1++(enL V d g).1,(enL V d g).2)=_;rw[h2];rfl
 | .cmp c::d,_,P,z,u,h=>by obtain⟨g,h1,h2⟩:=zmc d P z.2 u h;exact⟨(z.1,g),⟨rfl,h1⟩,by show (_::(enL V d g).1,(enL V d g).2)=_;rw[h2];rfl⟩
 | .rop c::d,_,P,z,u,h=>by obtain⟨g,h1,h2⟩:=zmc d P z.2 u h;exact⟨(z.1,g),⟨rfl,h1⟩,by show (_::(enL V d g).1,(enL V d g).2)=_;rw[h2];rfl⟩
 | .rom kc vc::d,_,P,z,u,h=>by obtain⟨g,h1,h2⟩:=zmc d P z.2 u h;exact⟨(z.1,g),⟨rfl,h1⟩,by show (_::(enL V d g).1,(enL V d g).2)=_;rw[h2];rfl⟩
 | .own j::d,_,P,z,u,h=>by obtain⟨g,h1,h2⟩:=zmc d P z u h;exact⟨g,h1,by show (_::(enL V d g).1,(enL V d g).2)=_;rw[h2];rfl⟩
 | .ptr j o::d,_,P,z,u,h=>by obtain⟨g,h1,h2⟩:=zmc d P z u h;exact⟨g,h1,by show (_::(enL V d g).1,(enL V d g).2)=_;rw[h2];rfl⟩
 | .nil::d,_,P,z,u,h=>by obtain⟨g,h1,h2⟩:=zmc d P z u h;exact⟨g,h1,by show (_::(enL V d g).1,(enL V d g).2)=_;rw[h2];rfl⟩
 | .raw v::d,_,P,z,u,h=>by obtain⟨g,h1,h2⟩:=zmc d P z u h;exact⟨g,h1,by show (_::(enL V d g).1,(enL V d g).2)=_;rw[h2];rfl⟩
 | .agg ks::d,_,P,z,u,h=>by obtain⟨y2,g1,g2⟩:=zmc d P (enL V ks z).2 u h;obtain⟨g,h1,h2⟩:=zmc ks (eqZl V.T d P) z y2 g1;refine⟨g,h1,?_⟩;show (SV.agg (enL V ks g).1::(enL V d (enL V ks g).2).1,(enL V d (enL V ks g).2).2)=_;rw[h2];show (SV.agg (enL V ks z).1::(enL V d y2).1,(enL V d y2).2)=_;rw[g2];rfl
 | .func f ks::d,_,P,z,u,h=>by obtain⟨y2,g1,g2⟩:=zmc d P (enW V ks z).2 u h;obtain⟨g,h1,h2⟩:=yk1 ks (eqZl V.T d P) z y2 g1;refine⟨g,h1,?_⟩;show (SV.func f (enW V ks g).1::(enL V d (enW V ks g).2).1,(enL V d (enW V ks g).2).2)=_;rw[h2];show (SV.func f (enW V ks z).1::(enL V d y2).1,(enL V d y2).2)=_;rw[g2];rfl
theorem yk1:∀(d:List LC){ρ:Type}(P:ρ->ρ->Prop)(z:Zl V.T d ρ)(g:ρ),P (enW V d z).2 g->∃f,eqZl V.T d P z f/\enW V d f =((enW V d z).1,g)
 | [],_,P,z,g,h=>⟨g,h,rfl⟩
 |l::d,_,P,z,g,h=>by obtain⟨j,g1,u⟩:=yk1 d P (enV V l z).2 g h;obtain⟨f,h1,h2⟩:=ymj l (eqZl V.T d P) z j g1;refine⟨f,h1,?_⟩;show ((enV V l f).1::(enW V d (enV V l f).2).1,(enW V d (enV V l f).2).2)=_;rw[h2];show ((enV V l z).1::(enW V d j).1,(enW V d j).2)=_;rw[u];rfl
end
theorem ymi[Dr]:∀(d:List (Nat×LC)){ρ:Type}(P:ρ->ρ->Prop)(z:Zs V.T d ρ)(g:ρ),P (enS V d z).2 g->∃f,eqZs V.T d P z f/\enS V d f =((enS V d z).1,g)
 | [],_,P,z,g,h=>⟨g,h,rfl⟩
 |(t,l)::d,_,P,z,g,h=>by obtain⟨j,g1,u⟩:=ymi d P (enV V l z).2 g h;obtain⟨f,h1,h2⟩:=ymj l (eqZs V.T d P) z j g1;refine⟨f,h1,?_⟩;show ((t,[],(enV V l f).1)::(enS V d (enV V l f).2).1,(enS V d (enV V l f).2).2)=_;rw[h2];show ((t,[],(enV V l z).1)::(enS V d j).1,(enS V d j).2)=_;rw[u];rfl
theorem ymh[Dr]:∀(d:List (Nat×List (Nat×LC))){ρ:Type}(P:ρ->ρ->Prop)(z:Zf V.T d ρ)(g:ρ),P (enF V d z).2 g->∃f,eqZf V.T d P z f/\enF V d f =((enF V d z).1,g)
 | [],_,P,z,g,h=>⟨g,h,rfl⟩
 |(n,l)::d,_,P,z,g,h=>by obtain⟨j,g1,u⟩:=ymh d P (enS V l z).2 g h;obtain⟨f,h1,h2⟩:=ymi l (eqZf V.T d P) z j g1;refine⟨f,h1,?_⟩;show (⟨(enS V l f).1,[],[],n⟩::(enF V d (enS V l f).2).1,(enF V d (enS V l f).2).2)=_;rw[h2];show (⟨(enS V l z).1,[],[],n⟩::(enF V d j).1,(enF V d j).2)=_;rw[u];rfl
mutual
theorem yda:∀(l:LC){ρ:Type}(P:ρ->ρ->Prop),(∀z,P z z)->∀z,LC.eqZ V.T l P z z
 | .val c,_,P,h,z=>⟨rfl,h _⟩
 | .cmp c,_,P,h,z=>⟨rfl,h _⟩
 | .rop c,_,P,h,z=>⟨rfl,h _⟩
 | .rom kc vc,_,P,h,z=>⟨rfl,h _⟩
 | .own j,_,P,h,z=>h z
 | .ptr j o,_,P,h,z=>h z
 | .nil,_,P,h,z=>h z
 | .raw v,_,P,h,z=>h z
 | .agg d,_,P,h,z=>zj6 d P h z
 | .func f d,_,P,h,z=>zj6 d P h z
theorem zj6:∀(d:List LC){ρ:Type}(P:ρ->ρ->Prop),(∀z,P z z)->∀z,eqZl V.T d P z z
 | [],_,P,h,z=>h z
 |l::d,_,P,h,z=>yda l (eqZl V.T d P) (zj6 d P h) z
end
theorem z8s[Dr]:∀(os:List OC)(z:Zo V.T os),eqZo V.T os z z
 | [],_=>trivial
 | .box t d::os,z=>zj6 d (eqZo V.T os) (z8s os) z
 | .row _ _::os,z=>⟨rfl,z8s os z.2⟩
 | .map _ _ _::os,z=>⟨rfl,z8s os z.2⟩
 | .it _ _::os,z=>⟨List.Perm.refl _,z8s os z.2⟩
 | .nst _ _ _ none::os,z=>⟨rfl,z8s os z.2⟩
 | .nst _ _ _ (some _)::os,z=>⟨rfl,rfl,z8s os z.2.2⟩
 | .fix _ _::os,z=>⟨rfl,z8s os z.2⟩
 | .emp::os,z=>z8s os z
theorem zwd[Dr]:∀(os:List OC)(z:Zo V.T os){j kc vc:Nat}{rem rem2:List (V.T kc×V.T vc)}{cur:Option (V.T kc×V.T vc)},(enO V os z)[j]? = some (.x (.it kc vc rem cur))->rem.Perm rem2->
  ∃d,eqZo V.T os z d/\enO V os d =(enO V os z).set j (.x (.it kc vc rem2 none))
 | [],z,j,kc,vc,rem,rem2,cur,h,f=>by simp[enO] at h
 | .it a0 a1::os,z,0,kc,vc,rem,rem2,cur,h,f=>by have e :(SO.x (.it a0 a1 z.1 none):SO V.T) = .x (.it kc vc rem cur):=w0f h;cases e;exact⟨(rem2,z.2),⟨f,z8s os z.2⟩,rfl⟩
 | .it a0 a1::os,z,j+1,kc,vc,rem,rem2,cur,h,f=>by obtain⟨d,g,u⟩:=zwd os z.2 (j:=j) h f;exact⟨(z.1,d),⟨List.Perm.refl _,g⟩,by show _::enO V os d=_;rw[u];rfl⟩
 | .emp::os,z,j+1,kc,vc,rem,rem2,cur,h,f=>by obtain⟨d,g,u⟩:=zwd os z (j:=j) h f;exact⟨d,g,by show _::enO V os d=_;rw[u];rfl⟩
 | .row E c::os,z,j+1,kc,vc,rem,rem2,cur,h,f=>by obtain⟨d,g,u⟩:=zwd os z.2 (j:=j) h f;exact⟨(z.1,d),⟨rfl,g⟩,by show _::enO V os d=_;rw[u];rfl⟩
 | .map _ _ _::os,z,j+1,kc,vc,rem,rem2,cur,h,f=>by obtain⟨d,g,u⟩:=zwd os z.2 (j:=j) h f;exact⟨(z.1,d),⟨rfl,g⟩,by show _::enO V os d=_;rw[u];rfl⟩
 | .fix E c::os,z,j+1,kc,vc,rem,rem2,cur,h,f=>by obtain⟨d,g,u⟩:=zwd os z.2 (j:=j) h f;exact⟨(z.1,d),⟨rfl,g⟩,by show _::enO V os d=_;rw[u];rfl⟩
 | .nst _ _ _ none::os,z,j+1,kc,vc,rem,rem2,cur,h,f=>by obtain⟨d,g,u⟩:=zwd os z.2 (j:=j) h f;exact⟨(z.1,d),⟨rfl,g⟩,by show _::enO V os d=_;rw[u];rfl⟩
 | .nst _ _ _ (some _)::os,z,j+1,kc,vc,rem,rem2,cur,h,f=>by obtain⟨d,g,u⟩:=zwd os z.2.2 (j:=j) h f;exact⟨(z.1,z.2.1,d),⟨rfl,rfl,g⟩,by show _::enO V os d=_;rw[u];rfl⟩
 | .box t ls::os,z,j+1,kc,vc,rem,rem2,cur,h,f=>by obtain⟨y2,g1,g2⟩:=zwd os (enL V ls z).2 (j:=j) h f;obtain⟨d,g,u⟩:=zmc ls (eqZo V.T os) z y2 g1;refine⟨d,g,?_⟩;show .box t (enL V ls d).1::enO V os (enL V ls d).2=_;rw[u,show enO V os ((enL V ls z).1,y2).2=enO V os y2 from rfl,g2];rfl
 | .emp::os,z,0,kc,vc,rem,rem2,cur,h,f=>by cases (w0f h :(SO.emp:SO V.T)=_)
 | .row E c::os,z,0,kc,vc,rem,rem2,cur,h,f=>by cases (w0f h :(SO.row E c z.1:SO V.T)=_)
 | .map _ _ _::os,z,0,kc,vc,rem,rem2,cur,h,f=>by cases (w0f h :(SO.x (.map _ _ _ z.1 none):SO V.T)=_)
 | .fix E c::os,z,0,kc,vc,rem,rem2,cur,h,f=>by cases (w0f h :(SO.x (.fix E c z.1):SO V.T)=_)
 | .nst E E2 c none::os,z,0,kc,vc,rem,rem2,cur,h,f=>by cases (w0f h :(SO.x (.nst E E2 c z.1 none):SO V.T)=_)
 | .nst E E2 c (some q)::os,z,0,kc,vc,rem,rem2,cur,h,f=>by cases (w0f h :(SO.x (.nst E E2 c z.1 (some (z.2.1,q))):SO V.T)=_)
 | .box t ls::os,z,0,kc,vc,rem,rem2,cur,h,f=>by cases (w0f h :(SO.box t (enL V ls z).1:SO V.T)=_)
theorem ygb{fs:List (Fm V.T)}{os:List (SO V.T)}:(mkS V fs os).ob=os:=by cases fs<;>rfl
theorem yju[Dr]{d:List GA}{s:SS V.T}{a:Act}{w:World}(h:SatS V C d s a w):∀o∈s.ob,okO V o:=by
 obtain⟨f,hn,a1,a0,A,ro,S,hl,hw,z,a2,a3⟩:=h;intro o ho;obtain⟨i,j⟩:=w42 ho;have g:=(w04.1 j).1;obtain⟨q,hq⟩:∃q,A[i]? = some q:=⟨A[i],by simp[hl,g]⟩;have f:=hw.obj i _ (zw V N.P (A:=A) (ps:=A) hq j);unfold okO;split
 .obtain⟨_,t,Sk,hm,_,u,_⟩:=f;rw[<- hm];exact w2x.2 u.1
 .exact f.2.2.1
 .trivial
theorem ylz[Dr](hN:z6x V N){h:Sh}{z:h.Z V.T}{ops:Array Oper}{K:KX V R}{g:List GA}{Q:Exit->Act->World->Prop}(hz:∀z',h.eqZ V.T z z'->pkX V N ops (h.enc V z') K=some r)(f:pkX V N ops (h.enc V z) K=some r)
  (hK:∀e s a w,K e s=some r->SatS V C g s a w->Q e a w) {Γ:List (Option (Nat×Nat))} (hΓ:g.map GA.lpI=Γ) {rd:Option Nat} {id:Nat} {a:Act} {w:World} (hs:SatS V C g (h.enc V z) a w) :(Code.region id ops false).wpIn (fz rd) 0 N.P Q a w:=by
 refine wpIn_region ?_;have a5:∀(os:List Oper)(s:SS V.T)(a:Act)(w:World),os=ops.toList.drop 1->z7o V N (λ_=>Dfl V N R) ops.toList 1 os s (λs=>K .normal s)=some r->SatS V C g s a w->wpOpsIn (fz rd) 0 N.P ops Q (List.range' 1 os.length) a w:=λos s a w ho h hs=>zkl hN hΓ (z9l hN Γ) (hK .normal) os 1 s a w ho h hs
 have ab:=f;unfold pkX at f;cases u:ops.toList with
 |nil=>rw[u] at f;cases f
 |cons o os=>
  obtain⟨dst,op,ty,pos,a2,guard⟩:=o;have ho:ops[0]? = some ⟨dst,op,ty,pos,a2,guard⟩:=by
   have:ops.toList[0]? = some ⟨dst,op,ty,pos,a2,guard⟩:=by rw[u];rfl
   simpa using this
  have aa:ops.size=os.length+1:=by have:=congrArg List.length u;simpa using this
  have a8:os=ops.toList.drop 1:=by rw[u];rfl
  rw[u] at f;simp only at f;split at f
  .rename_i x;split at f
   .rename_i j hx;split at f
    .rename_i kc vc rem cur a1;rw[aa,w45,w4p,wpOpsIn];simp only[ho,Region.wanted,if_true];refine(yjd (k:=λs=>z7o V N (λ_=>Dfl V N R) ops.toList 1 os s (λs=>K .normal s)) hx a1 ?_ ?_ ?_ hs λs2 v0 w' hk a9=>a5 os s2 _ w' a8 hk a9)
     .intro a7;cases rem with
      |nil=>exact absurd rfl a7
      |cons e rem=>
       simp only at f;cases hk:V.key kc with
       |true=>rfl
       |false=>rw[hk] at f;cases f
     .intro hr;subst hr;simp only at f;rw[u];exact f
     .intro e a0 hp;have a4 :(enO V h.ob (enF V h.fr z).2)[j]? = some (.x (.it kc vc rem cur)):=by have :(h.enc V z).ob=enO V h.ob (enF V h.fr z).2:=ygb;rw[<- this];exact a1
      obtain⟨y2,g1,g2⟩:=zwd h.ob (enF V h.fr z).2 a4 hp;obtain⟨z2,f1,f2⟩:=ymh h.fr (eqZo V.T h.ob) z y2 g1;have d:=hz z2 f1;have a3:h.enc V z2 = { h.enc V z with ob:=(h.enc V z).ob.set j (.x (.it kc vc (e::a0) none)) }:=by show mkS V (enF V h.fr z2).1 (enO V h.ob (enF V h.fr z2).2) = { mkS V (enF V h.fr z).1 (enO V h.ob (enF V h.fr z).2) with ob:=(mkS V (enF V h.fr z).1 (enO V h.ob (enF V h.fr z).2)).ob.set j (.x (.it kc vc (e::a0) none)) };rw[f2,ygb];show mkS V (enF V h.fr z).1 (enO V h.ob y2)=_;rw[g2];cases (enF V h.fr z).1<;>rfl
      have a6:=(w04.1 a1).1;rw[a3] at d;unfold pkX at d;rw[u] at d;simp only[hx,w1v a6] at d;cases hk:V.key kc with
      |false=>rw[hk] at d;cases d
      |true=>rw[hk] at d;simp only[cond_true,updO,w3g] at d;simp only[updO];rw[u];exact d
    .cases f
   .cases f
  .cases f
theorem ydy{g:GA}{f k:Nat}(h:g.lpI=some (f,k)):∃L rec,g.lp=some (L,rec,f,k)/\rec.state = .ready:=by
 unfold GA.lpI at h;split at h
 .rename_i L rec q d;split at h
  .rename_i j;simp only[w01] at h;subst h;exact⟨L,rec,d,j⟩
  .cases h
 .cases h
theorem y75[Dr]{A:Asg}{sl:Sls V.T}{p:Nat}{x:SV V.T}{a:Act}{ro:Nat->Prop}{w:World}{v:Value}(g:p<a.tmps.size)(h:zj (slD V N.P A [] sl) a ro w)(j :(x.den V N.P A).h ro w v):
  zj (slD V N.P A [] ((p,[],x)::sl)) { a with tmps:=a.tmps.setIfInBounds p v } ro w:=by
 intro t X d;have f:=zji a (some p) v t (λy hy=>by simp at hy;subst hy;exact g);change ({ a with tmps:=a.tmps.setIfInBounds p v } : Act).tmps.getD t undef=_ at f;rw[f];simp only[slD,z0k] at d;by_cases e:t=p
 .rw[if_pos e] at d;simp only[w0z,w01] at d;subst d;rw[if_pos (by rw[e])];exact j
 .rw[if_neg e] at d;rw[if_neg (λq=>e (by simpa using q.symm))];exact h t X d
theorem zzv[Dr]{A:Asg}{ro:Nat->Prop}{w:World}: ∀(ps:List Nat)(vs:List (SV V.T))(us:List Value)(sl:Sls V.T)(tm:Array Value)(df:List Deferred),ps.length=vs.length->us.length=vs.length->(∀p∈ps,p<tm.size)->
  (∀(i:Nat)(B:VP),(denV V N.P A vs)[i]? = some B->B.h ro w (us.getD i undef))->zj (slD V N.P A [] sl) { tmps:=tm,defers:=df } ro w->
  zj (slD V N.P A [] (zipP ps vs sl)) { tmps:=(ps.zip us).foldl (λt q=>t.setIfInBounds q.1 q.2) tm,defers:=df } ro w
 | [],vs,us,sl,tm,df,_,_,_,_,h=>by cases vs<;>exact h
 |p::ps,[],us,sl,tm,df,d,_,_,_,_=>by cases d
 |p::ps,v::vs,[],sl,tm,df,_,f,_,_,_=>by cases f
 |p::ps,v::vs,u::us,sl,tm,df,d,f,g,j,h=>by
  have hv :(v.den V N.P A).h ro w u:=by simpa using j 0 _ (by simp[denV])
  have hs:=y75 (a:={ tmps:=tm,defers:=df }) (g p (w0n ..)) h hv;exact zzv ps vs us ((p,[],v)::sl) (tm.setIfInBounds p u) df (by simpa using d) (by simpa using f) (λq hq=>by simpa using g q (w0g _ hq)) (λi B z=>by simpa using j (i+1) B (by simpa[denV] using z)) hs
theorem ztb:∀(ps:List Nat)(vs:List (SV V.T))(sl:Sls V.T),(∀t ch z,lk sl t=some (ch,z)->ch = [])->∀t ch z,lk (zipP ps vs sl) t=some (ch,z)->ch = []
 | [],vs,sl,h=>by cases vs<;>exact h
 |p::ps,[],sl,h=>h
 |p::ps,v::vs,sl,h=>ztb ps vs _ λt ch z d=>by
  simp only[z0k] at d;split at d
  .simp only[w01,w0k] at d;exact d.1.symm
  .exact h t ch z d
theorem zsr:∀(l:List (Nat×Value))(tm:Array Value),(l.foldl (λt q=>t.setIfInBounds q.1 q.2) tm).size=tm.size
 | [],_=>rfl
 |q::l,tm=>by rw[w1y,zsr l];simp
theorem y1u[Dr]{A:Asg}{f:Fm V.T}{m:Nat}{a:Act}{ro:Nat->Prop}{w:World}(h:zj (slD V N.P A f.gb f.sl) a ro w){tm:Array Value}{df:List Deferred}(a0:∀t,t<m->tm.getD t undef=a.tmps.getD t undef):
  zj (slD V N.P A [] (f.sl.filter λp=>zds f.sl p.1&&Nat.blt p.1 m)) { tmps:=tm,defers:=df } ro w/\∀t ch z,lk (f.sl.filter λp=>zds f.sl p.1&&Nat.blt p.1 m) t=some (ch,z)->ch = []:=by
 have key:∀t ch z,lk (f.sl.filter λp=>zds f.sl p.1&&Nat.blt p.1 m) t=some (ch,z)->lk f.sl t=some (ch,z)/\ch = []/\t<m:=by
  intro t ch z d;have u:=zae (λk=>zds f.sl k&&Nat.blt k m) d;have g:=(w0i.1 (zg7 d)).2;simp only[zds,u,w02] at g;refine⟨u,?_,w0s g.2⟩;cases ch with
  |nil=>rfl
  |cons _ _=>cases g.1
 refine⟨λt X j=>?_,λt ch z d=>(key t ch z d).2.1⟩;simp only[slD] at j;cases d:lk (f.sl.filter λp=>zds f.sl p.1&&Nat.blt p.1 m) t with
 |none=>rw[d] at j;cases j
 |some e=>obtain⟨ch,z⟩:=e;rw[d] at j;obtain⟨u,g,h3⟩:=key t ch z d;subst g;show X.h ro w (tm.getD t undef);rw[a0 t h3];exact h t X (by simp only[slD,u];exact j)
theorem EvM.recS[Dr]{B:Nat}{r0 ro:Nat->Prop}{wI w:World}{l j:List Deferred}{L:Nat}{rec rec':Loop}{q:Nat×Nat}{ps:List (Nat×Loop×Nat×Nat)}(h:EvM B r0 wI (l++j) ((L,rec,q)::ps) ro w):EvM B r0 wI j ((L,rec',q)::ps) ro (w.putObj L (.loop rec')):=by
 have hn:=w1x.1 h.bk.lp.1;obtain⟨g1,f,g⟩:=h.bk.lp.2 _ (w0n ..);obtain⟨Ds,h1,h2,h3⟩:=h.bk.df;obtain⟨u,d,rfl,e1,z⟩:=List.map_eq_append_iff.1 h1.symm;refine⟨h.ev.putR f _,⟨d,z.symm,(w4m.1 h2).2.1,λD hD=>?_⟩,h.bk.lp.1,λp hp=>?_⟩
 .obtain⟨a,b,c⟩:=h3 D (w1u _ hD);refine⟨a,b,?_⟩;rw[w1m λ(e:D=L)=>by rw[e,g] at c;cases c];exact c
 .rcases w05.1 hp with rfl|hp
  .exact⟨g1,f,World.putObj_heap_same (w1c.1 g).1⟩
  .obtain⟨a,b,c⟩:=h.bk.lp.2 p (w0g _ hp);refine⟨a,b,?_⟩;rw[w1m λ(e:p.1=L)=>hn.1 (w0b.2 ⟨p,hp,e⟩)];exact c
theorem Stk.swap[Dr]{P:Program}{A:Asg}{ro:Nat->Prop}{w:World}{L:Nat}{rec rec':Loop}{q:Nat×Nat}{d:Act}(u:rec'.tmps=rec.tmps)(z:rec'.pending=rec.pending)(h3:rec'.params=rec.params)(h4:rec'.assign=rec.assign)(h5:rec'.body=rec.body){fs:List (Fm V.T)}{j:List GA}
  (h:Stk V P A ro w fs (⟨d,some (L,rec,q)⟩::j)):Stk V P A ro w fs (⟨d,some (L,rec',q)⟩::j):=by
 cases fs with
 |nil=>exact h.elim
 |cons f fs=>obtain⟨⟨k1,k2,k3,k4,k5⟩,k6⟩:=h;refine⟨⟨k1,k2,k3,λx hx=>?_,k5⟩,k6⟩;simp only[w01] at hx;subst hx;obtain⟨m1,m2,g,m3⟩:=k4 _ rfl;exact⟨u.trans m1,z.trans m2,g,by rw[h3,h4,h5];exact m3⟩
theorem Stk.swap2[Dr]{P:Program}{A:Asg}{ro:Nat->Prop}{w:World}{L:Nat}{rec rec':Loop}{q:Nat×Nat}{d:Act}{g:GA}(u:rec'.tmps=rec.tmps)(z:rec'.pending=rec.pending)(h3:rec'.params=rec.params)(h4:rec'.assign=rec.assign)(h5:rec'.body=rec.body){fs:List (Fm V.T)}{j:List GA}
  (h:Stk V P A ro w fs (g::⟨d,some (L,rec,q)⟩::j)):Stk V P A ro w fs (g::⟨d,some (L,rec',q)⟩::j):=by
 cases fs with
 |nil=>exact h.elim
 |cons f fs=>exact⟨h.1,Stk.swap u z h3 h4 h5 h.2⟩
theorem y4w{B:Nat}{r0 ro:Nat->Prop}{wI w:World}{l:List Deferred}{L:Nat}{rec:Loop}{q:Nat×Nat}{ps:List (Nat×Loop×Nat×Nat)}(h:EvM B r0 wI l ((L,rec,q)::ps) ro w):ro L/\B<=L/\w.heap[L]? = some (.loop rec):=by obtain⟨g1,d,f⟩:=h.bk.lp.2 _ (w0n ..);exact⟨g1,(h.ev.2.2 L g1).resolve_left d,f⟩
theorem EvM.gone[Dr]{B:Nat}{r0 ro:Nat->Prop}{wI w:World}{l:List Deferred}{L:Nat}{rec:Loop}{q:Nat×Nat}{ps:List (Nat×Loop×Nat×Nat)}(h:EvM B r0 wI l ((L,rec,q)::ps) ro w)(o:Obj):EvM B r0 wI l ps ro (w.putObj L o):=by
 have d:=w1x.1 h.bk.lp.1;obtain⟨g1,g,j⟩:=h.bk.lp.2 _ (w0n ..);obtain⟨Ds,u,z,h3⟩:=h.bk.df;refine⟨h.ev.putR g _,⟨Ds,u,z,λD hD=>?_⟩,d.2,λp f=>?_⟩
 .obtain⟨a,b,c⟩:=h3 D hD;refine⟨a,b,?_⟩;rw[w1m λ(e:D=L)=>by rw[e,j] at c;cases c];exact c
 .obtain⟨a,b,c⟩:=h.bk.lp.2 p (w0g _ f);refine⟨a,b,?_⟩;rw[w1m λ(e:p.1=L)=>d.1 (w0b.2 ⟨p,f,e⟩)];exact c
theorem ynn[Dr](hN:z6x V N){Γ:List (Option (Nat×Nat))}{f k:Nat}(hΓ:Γ.head? = some (some (f,k))){ad:Code->SS V.T->KX V R->Option R}{g0:Operand}{ps:Array Tmp}{a9 bd:Code}(h0:rfAt N.P f k=some (g0,ps,a9,bd))
  {inl:Inl V R} (b8:∀s K,inl YID (.goto 0) s K=ylX V N ad f k s K) {kk:SV V.T->SS V.T->Option R} (b6:zn5 (none::none::Γ.tail) C r ad bd (yK V kk)):YOK Γ C r inl kk:=by
 intro rd acts a3 s vs a w A ro S hy hn b9 b7 hl hw ah bg aw args ae b5 R' hk;unfold y2p at hy;rw[b8] at hy;cases acts with
 |nil=>subst a3;cases hΓ
 |cons g gs=>
  subst a3;simp only[w0l,List.head?_cons,w01] at hΓ;obtain⟨L,rec,hg,a6⟩:=ydy hΓ;obtain⟨gact,b0⟩:=g;change b0=_ at hg;subst hg;unfold ylX at hy;rw[h0] at hy;split at hy
  rotate_left
  .cases hy
  rename_i gg bq bk bo it ow stk ag a0;simp only[w01,w0k] at ag;obtain⟨rfl,rfl,rfl,rfl⟩:=ag;simp only[w2i] at a0;obtain⟨rfl,a0⟩:=a0;have am :(zfr V 0 vs).length=vs.length:=by
   have:∀(n:Nat)(l:List (SV V.T)),(zfr V n l).length=l.length:=by
    intro n l
    induction l generalizing n with
    |nil=>rfl
    |cons x l ih=>simp[zfr,ih]
   exact this 0 vs
  have ao :(zfr V 0 vs).map (λx=>x.2.2)=vs:=by
   have:∀(n:Nat)(l:List (SV V.T)),(zfr V n l).map (λx=>x.2.2)=l:=by
    intro n l
    induction l generalizing n with
    |nil=>rfl
    |cons x l ih=>simp[zfr,ih]
   exact this 0 vs
  simp only[ao,am] at hy;cases hb :(noRF a9&&noRF bd&&Nat.beq ps.size vs.length&&ps.toList.all (λp=>Nat.blt p (ow.n-1))) with
  |false=>rw[hb] at hy;cases hy
  |true=>
  rw[hb] at hy;simp only[cond_true] at hy;simp only[w02] at hb;obtain⟨⟨⟨b1,b2⟩,b3⟩,b4⟩:=hb;have b3:=w03 b3;have b4:∀p∈ps.toList,p<ow.n-1:=λp hp=>w0s (w0a.1 b4 p hp)
  have a8:=aw;rw[a0] at a8;obtain⟨⟨f1,f2,f3,f4,f5⟩,f6⟩:=a8;obtain⟨m1,m2,g1,m3⟩:=f4 _ rfl;rw[h0] at m3;simp only[w01,w0k] at m3;obtain⟨rfl,m4,m5,m6⟩:=m3;have ap:gact.tmps.size=ow.n-1:=by have :(gact.tmps.push (.func (.yield L) #[] #[])).size=ow.n:=f5;simp only[w5t] at this;omega
  obtain⟨q1,q2,q3⟩:=y4w ah;refine⟨⟨gact,some (L,rec,f,k)⟩,gs,L,(rec,f,k),rfl,rfl,rec.fn,_,rec.assign,rec.body,run_yield q3 (by rw[ae,<- m4,b3]),?_⟩;refine roundIn_of_wpIn trivial ?_;rw[<- m5,<- m6,<- m4,m1];have af:=zu4 (C:=C) (r:=r) hN (dfl:=Dfl V N R) (λΓ f fn c K _ _=>ztu hN 8 Γ f c K) (λΓ k=>znv 8 Γ k) a9 (none::(GA.lpI ⟨gact,some (L,rec,f,k)⟩::gs.map GA.lpI))
   (λe s1=>match e with
     | .normal=>ad bd s1 (yK V kk)
     |_=>none) (some L) (⟨a,none⟩::⟨gact,some (L,rec,f,k)⟩::gs)
   (Exit.then (λa₁ w₁=>∃w₂,(Instr.beginRound L).run N.P w₁ = .ok () w₂/\bd.wpIn ((fz rd).inRound L) 0 N.P (roundPost N.P L λe w'=>∃u,e = .returned u/\R' u w') a₁ w₂) (λ_ _ _=>False)) rfl (.inr b1)
  refine af ?_ _ _ _ hy ?_
  .intro e s1 a1 w1 hK be;cases e with
   |normal=>
    obtain⟨_,bc,ak,aj,A1,bj,S1,ba,bh,a7,av,ax⟩:=be;obtain⟨p1,p2,p3⟩:=y4w (ps:=lps gs) a7;have ab:Rec w1.heap[L]?:=.inr ⟨_,p3⟩;refine⟨_,run_beginRound p3 a6,?_⟩;refine b6 (some L) (⟨a,none⟩::⟨gact,some (L,{ rec with state:=.busy },f,k)⟩::gs) _ ?_ (.inr b2) ?_ s1 a1 _ hK ?_
    .rfl
    .intro e s2 a2 w2 j bf;cases e with
     |normal=>
      simp only[yK] at j;split at j
      .rename_i fm stk2 ac;obtain⟨_,bp,bm,bl,A2,az,S2,bb,bi,ai,bn,ay⟩:=bf;have a4:EvM C.base C.r0 C.wI (a2.defers++mks a (⟨gact,some (L,rec,f,k)⟩::gs)) ((L,{ rec with state:=.busy },f,k)::lps gs) az w2:=ai;obtain⟨v1,v2,v3⟩:=y4w a4;have ar:Rec w2.heap[L]?:=.inr ⟨_,v3⟩;refine⟨_,_,run_endRound none v3,.bool true,rfl,?_⟩;have au :(({ { rec with state:=.busy } with state:=if(none:Option Code).isNone then .ready else .done,pending:=none } : Loop))=rec:=by obtain⟨st,pe,_⟩:=rec;simp only at a6 m2;subst a6;subst m2;rfl
       rw[au];have d:=Stk.swap2 (rec:={ rec with state:=.busy }) (rec':=rec) rfl rfl rfl rfl rfl (ay.putR ar (.loop rec));rw[ac] at d;exact hk (.bool true) _ A2 az S2 _ (.bool true) j d.1.2.2.2.2 d.1.2.1 d.1.2.2.1 bb (bi.put v1 v2 ar _) (EvM.recS a4) d.1.1 d.2 (by simp only[SV.den];rfl)
      .cases j
     |exit id=>simp[yK] at j
     |goto l=>simp[yK] at j
     |ret=>simp[yK] at j
     |panic ch=>simp[yK] at j
     |outgrown=>simp[yK] at j
    .exact⟨trivial,bc,ak,aj,A1,bj,S1,ba,bh.put p1 p2 ab _,EvM.recS (l:=[]) (ps:=lps gs) a7,av.putR ab _,Stk.swap2 (rec:=rec) (rec':={ rec with state:=.busy }) rfl rfl rfl rfl rfl (ax.putR ab _)⟩
   |exit id=>cases hK
   |goto l=>cases hK
   |ret=>cases hK
   |panic ch=>cases hK
   |outgrown=>cases hK
  .have aq:=y1u (N:=N) (A:=A) (f:=ow) (m:=ow.n-1) f1 (tm:=gact.tmps) (df:=[]) (λt ht=>by
    show _ =(gact.tmps.push (.func (.yield L) #[] #[])).getD t undef;have:t<gact.tmps.size:=by omega
    simp[w07,w53,Nat.ne_of_lt this])
   have aa:args.toList.length=vs.length:=by simpa using ae
   have a5 :(ps.zip args).foldl (λtmps(t,a)=>tmps.setIfInBounds t a) gact.tmps =(ps.toList.zip args.toList).foldl (λt q=>t.setIfInBounds q.1 q.2) gact.tmps:=by rw[<- Array.foldl_toList,Array.toList_zip]
   refine⟨trivial,?_,trivial,⟨λt g h=>by simp[lk] at h,λt ch z hz p hp=>?_,λp hp=>by simp at hp⟩,A,ro,S,hl,hw,ah,?_,⟨⟨bg,b9,b7,(λx e=>by cases e),hn⟩,aw⟩⟩
   .rw[a5,zsr];exact ap
   .rw[ztb _ _ _ aq.2 t ch z hz] at hp;simp at hp
   .rw[a5];exact zzv ps.toList vs args.toList _ gact.tmps [] (by simpa using b3) aa (λp hp=>by rw[ap];exact b4 p hp) (λi B hB=>by have:=b5 i B hB;simpa[w07,w26] using this) aq.1
theorem WInv.two[Dr]{z w:World}{d:Nat}{g:List HP}{ro:Nat->Prop}{S:Nat->Nat->Prop}(h:WInv z d g ro S w)(j u:Obj):
  WInv z d g (λb=>ro b\/b=w.heap.size\/b=w.heap.size+1) S ((w.alloc j).alloc u)/\Evo d ro w (λb=>ro b\/b=w.heap.size\/b=w.heap.size+1) ((w.alloc j).alloc u):=by
 have hh:∀b,b<w.heap.size->((w.alloc j).alloc u).heap[b]? = w.heap[b]?:=λb f=>(Below.heap_alloc _ _ _ (by simp;omega)).trans (Below.heap_alloc _ _ _ f)
 refine⟨⟨(h.below.alloc h.size _).alloc (by have:=h.size;simp;omega) _,by have:=h.size;simp;omega,λi H hi=>H.mono (λ_ h=>.inl h) (λb f=>hh b (h.old b f)) (λb f=>hh b (h.own i b f).2.2.1) (h.obj i H hi),λi b f=>?_,h.apart,?_⟩,λ_ h=>.inl h,λb f=>hh b (h.old b f),?_⟩
 .obtain⟨k1,k2,k3,k4⟩:=h.own i b f;refine⟨k1,k2,by simp;omega,?_⟩;rintro(k|k|k)
  .exact k4 k
  .omega
  .omega
 .rintro b (k|k|k)
  .have:=h.old b k;simp;omega
  .simp;omega
  .simp;omega
 .have:=h.size
  rintro b (k|k|k)
  .exact .inl k
  .exact .inr (by omega)
  .exact .inr (by omega)
theorem yni[Dr]{Γ:List (Option (Nat×Nat))}{fi f k:Nat}{b0:Code->SS V.T->KX V R->Option R}{g0:Operand}{ps:Array Tmp}{a5 bd:Code}{K:KX V R}{fn:Func}{c:Code}(h0:rfAt N.P f k=some (g0,ps,a5,bd))(hf:N.P.funcs[fi]? = some fn)(hc:fn.body=some c)
  (aq:zn5 (some (f,k)::Γ) C r b0 c (rfK V K)) {a8:Code->SS V.T->KX V R->Option R} (bh:∀s,a8 (.rangeFunc g0 ps a5 bd) s K=rfX V N fi b0 g0 s K):zn5 Γ C r a8 (.rangeFunc g0 ps a5 bd) K:=by
 intro rd acts Q hΓ ad hK s a w h hs;have ad:rd=none:=ad.elim id λe=>by cases e
 subst ad;rw[bh] at h;unfold rfX at h;split at h
 rotate_left
 .cases h
 rename_i f' caps bc bf;split at h
 rotate_left
 .cases h
 rename_i ae ai;split at h
 rotate_left
 .cases h
 rename_i c' ag;cases hb :(Nat.beq f' fi&&zt.fnok N.P f'&&Nat.ble (caps.length+1) ae.ntmps&&ae.results.isEmpty) with
 |false=>rw[hb] at h;cases h
 |true=>
 rw[hb] at h;simp only[cond_true] at h;simp only[w02] at hb;obtain⟨⟨⟨b1,b2⟩,b3⟩,b4⟩:=hb;have b1:=w03 b1;subst b1;rw[hf] at ai;cases ai;rw[hc] at ag;cases ag;have b3:=w0s b3;obtain⟨hd,hn,am,aa,A,ro,S,hl,hw,a7,ar,bj⟩:=hs;have aj:=z1t V N.P (A:=A) bc am a ro w ar;simp only[SV.den] at aj;obtain⟨cv,e1,e2,e3⟩:=aj;rw[zgt] at e2;obtain⟨br,k1,k2,k3⟩:=z9q N.P b2;refine wpIn_rangeFunc λb8 _=>?_
 obtain⟨rec,j⟩:∃rec:Loop,rec = { state:=.ready,pending:=none,fn:=b8,tmps:=a.tmps,params:=ps,assign:=a5,body:=bd,defers:=w.heap.size }:=⟨_,rfl⟩;obtain⟨W1,a6⟩:∃W1,(w.alloc (.deferred (some []))).alloc (.loop rec)=W1:=⟨_,rfl⟩;have bb:W1.heap[w.heap.size+1]? = some (.loop rec):=by rw[<- a6];have:=World.alloc_heap_new (w.alloc (.deferred (some []))) (.loop rec);rwa [World.size_alloc] at this
 have b9:W1.heap[w.heap.size]? = some (.deferred (some [])):=by rw[<- a6];exact(Below.heap_alloc _ _ _ (by simp)).trans (World.alloc_heap_new w _)
 obtain⟨az,a0⟩:=hw.two (.deferred (some [])) (.loop rec);rw[a6] at az a0;refine⟨w.heap.size+1,[mkD w.heap.size],W1,{ target:=.fn (.func f') cv,args:=#[.func (.yield (w.heap.size+1)) #[] #[]] },W1,f',#[.func (.yield (w.heap.size+1)) #[] #[]]++cv,W1,?_,?_,λ_ _=>trivial,?_,λe=>by simp at e,?_⟩
 .rw[<- a6,j];exact run_enterLoop_outer _ _ _ _ _
 .simp only[Go.resolve,e1];simp[go_sem]
 .simp[invoke,z2w k1 k2 k3]
 show CallsIn (fz none) 0 N.P f' _ W1 _;refine callsIn_of_wp_marks hf hc trivial ?_ rfl;obtain⟨a',a1⟩:∃a':Act,a' = { a with defers:=mkD w.heap.size::a.defers }:=⟨_,rfl⟩;have hfresh:∀b,ro b->b≠w.heap.size/\b≠w.heap.size+1:=λb hb=>by have:=hw.old b hb;omega
 have ao:∀b,C.r0 b->ro b:=a7.ev.1;refine aq none (⟨a',some (w.heap.size+1,rec,f,k)⟩::acts) _ (by rw[w0l,hΓ,j];rfl) (.inl rfl) ?_ _ _ _ h ?_
 .intro e s' a2 w' u bi;have fin :(match s'.stk with
    |fm::stk=>K .normal { popG V fm with stk:=stk,ob:=s'.ob }
    | []=>none)=some r->LeavesInM (fz none) 0 N.P fn a2.tmps (rangePost (fz none) 0 N.P (w.heap.size+1) Q { a with defers:=[mkD w.heap.size]++a.defers }) a2.defers .returning w':=by
   intro u;split at u
   .rename_i fm stk ay;obtain⟨_,bs,bp,bo,A',bn,S',bg,bl,ah,au,aw⟩:=bi;refine zny bl ah au aw λw2 g1 g2 g3 g4=>?_
    have ap:zhm V N s' fn.results.toList=some []:=by
     have:fn.results.toList = []:=by simpa using b4
     rw[this];rfl
    obtain⟨v,hv,_⟩:=zhc g1 g3 ap;refine⟨v,hv,?_⟩;obtain⟨p1,p2,p3⟩:=y4w (ps:=lps acts) g2;have ac:Rec w2.heap[w.heap.size+1]?:=.inr ⟨_,p3⟩;have ax:rec.state = .ready:=by rw[j]
    refine⟨_,_,run_endLoop p3 (by rw[ax];decide),?_⟩;rw[show rec.pending=none by rw[j]];rw[ay] at g4;obtain⟨⟨m1,m2,m3,m4,m5⟩,m6⟩:=g4;have be:a.tmps.size=fm.n-1:=by have :(a'.tmps.push (.func (.yield (w.heap.size+1)) #[] #[])).size=fm.n:=m5;rw[a1] at this;simp only[w5t] at this;omega
    have a4:∀t x,lk (popG V fm).sl t=some x->lk fm.sl t=some x/\t≠fm.n-1:=by intro t x hx;refine⟨zae (λp=>!Nat.beq p (fm.n-1)) hx,?_⟩;have:=(w0i.1 (zg7 hx)).2;intro e;subst e;simp[w2p] at this
    refine hK _ _ _ _ u ⟨trivial,be,m2,⟨λt g hg ch z d=>m3.val t g hg ch z (a4 _ _ d).1,λt ch z d=>m3.ch t ch z (a4 _ _ d).1,m3.kn⟩,A',bn,S',bg,g1.put p1 p2 ac _,?_,?_,m6.putR ac _⟩
    .have:=EvM.gone (ps:=lps acts) g2 (.loop { rec with state:=.exhausted,pending:=none })
     rw[a1,w0u] at this;exact this
    .refine zj.putR ac _ λt X hX=>?_
     simp only[slD] at hX;cases d:lk (popG V fm).sl t with
     |none=>rw[d] at hX;cases hX
     |some x=>
      rw[d] at hX;obtain⟨z1,z2⟩:=a4 _ _ d;have:=m1 t X (by simp only[slD,z1];exact hX);rw[show (GA.tm ⟨a',some (w.heap.size+1,rec,f,k)⟩).tmps=a.tmps.push (.func (.yield (w.heap.size+1)) #[] #[]) by rw[a1];rfl] at this;have ab:t≠a.tmps.size:=by omega
      simpa[w07,w53,ab] using this
   .cases u
  cases e with
  |ret=>exact fin u
  |normal=>exact fin u
  |exit id=>simp[rfK] at u
  |goto l=>simp[rfK] at u
  |panic ch=>simp[rfK] at u
  |outgrown=>simp[rfK] at u
 .have a9:AExt A (A++[((0:Nat),(.func (.yield (w.heap.size+1)) #[] #[]:Value))]):=AExt.app A _;have af :(A++[((0:Nat),(.func (.yield (w.heap.size+1)) #[] #[]:Value))])[s.ob.length]? = some (0,.func (.yield (w.heap.size+1)) #[] #[]):=zd4 A _ _ hl;obtain⟨S2,bm⟩:=z6g (P:=N.P) (A:=A) (B:=[((0:Nat),(.func (.yield (w.heap.size+1)) #[] #[]:Value))]) (ob:=s.ob) hl (us:=[.emp]) (H:=[Px.emp]) ⟨EntH.refl,trivial⟩ _ _ _ _ _ (az.addNil Px.emp trivial);have av:=ar.evo a0;refine⟨trivial,by simp[e2];omega,trivial,⟨λt g h=>by simp[lk] at h,λt ch z d p hp=>?_,λp hp=>by simp at hp⟩,A++[(0,.func (.yield (w.heap.size+1)) #[] #[])],_,S2,by simp[hl],bm,?_,?_,⟨⟨?_,am,⟨?_,?_,aa.kn⟩,?_,?_⟩,bj.ext a9 a0⟩⟩
  .rw[zd3] at d;simp only[w30,if_true,w1w,w0k] at d;obtain⟨_,_,rfl,_⟩:=d;simp at hp
  .have a3:=a7.trans a0;obtain⟨Ds,d1,d2,d3⟩:=a3.bk.df;obtain⟨b5,b6,bq,b7⟩:=a7.bk.df;have ba:Ds=b5:=by
    have ak:∀(l m:List Nat),l.map mkD=m.map mkD->l=m:=by
     intro l
     induction l with
     |nil=>intro m h;cases m with
      |nil=>rfl
      |cons _ _=>simp at h
     |cons x l ih=>intro m h;cases m with
      |nil=>simp at h
      |cons y m=>
       simp only[w0l,w2i] at h;rw[ih m h.2];have:x=y:=by simpa[mkD] using h.1
       rw[this]
    exact ak _ _ (d1.symm.trans b6)
   subst ba;refine⟨a3.ev,⟨w.heap.size::Ds,?_,?_,?_⟩,?_,?_⟩
   .show mks _ (_::acts)=_;have:mks a acts=Ds.map mkD:=d1;rw[a1,w0l,<- this];rfl
   .exact w1x.2 ⟨λhm=>(hfresh _ (b7 _ hm).1).1 rfl,d2⟩
   .intro D hD;rcases w05.1 hD with rfl|hD
    .exact⟨.inr (.inl rfl),λe=>(hfresh _ (ao _ e)).1 rfl,b9⟩
    .exact d3 D hD
   .show (((w.heap.size+1,rec,f,k)::lps acts).map (·.1)).Nodup;rw[w0l];refine w1x.2 ⟨λhm=>?_,a3.bk.lp.1⟩;obtain⟨p,hp,e⟩:=w0b.1 hm;exact(hfresh _ (a7.bk.lp.2 p hp).1).2 e
   .intro p hp;have hp:p∈(w.heap.size+1,rec,f,k)::lps acts:=hp;rcases w05.1 hp with rfl|hp
    .exact⟨.inr (.inr rfl),λe=>(hfresh _ (ao _ e)).2 rfl,bb⟩
    .exact a3.bk.lp.2 p hp
  .refine y2w (by simp[e2];omega) λi B hB=>?_
   cases i with
   |zero=>simp only[denV,w2f,w01] at hB;subst hB;simp only[SV.den,af];show (#[Value.func (.yield (w.heap.size+1)) #[] #[]]++cv).getD 0 undef=Value.func (.yield (w.heap.size+1)) #[] #[];simp[w07,w1a]
   |succ i=>simp only[denV,w29] at hB;obtain⟨X,x1,x2⟩:=(zse (zj2 V N.P a9 caps)).2 i B hB;have:=x2 _ _ _ ((X.evo a0) (e3 i X x1));simpa[w07,w1a] using this
  .intro t X hX;have bk :(GA.tm ⟨a',some (w.heap.size+1,rec,f,k)⟩).tmps=a.tmps.push (.func (.yield (w.heap.size+1)) #[] #[]):=by rw[a1];rfl
   rw[bk];simp only[slD,z0k] at hX;by_cases e:t=s.n
   .rw[if_pos e] at hX;simp only[w0z,w01] at hX;subst hX;simp only[denE,SV.den,af];rw[e,<- hn];show (a.tmps.push (.func (.yield (w.heap.size+1)) #[] #[])).getD a.tmps.size undef = .func (.yield (w.heap.size+1)) #[] #[];simp[w07]
   .rw[if_neg e] at hX;have h1:=zhe V N.P a9 av t X hX;have ab:t≠a.tmps.size:=by omega
    simpa[w07,w53,ab] using h1
  .intro t g hg ch z d;have d:lk ((s.n,[],SV.own s.ob.length)::s.sl) t=some (ch,z):=d;rw[z0k] at d;by_cases e:t=s.n
   .have hg:lk s.gb t=some g:=hg;rw[e,bf] at hg;cases hg
   .rw[if_neg e] at d;exact aa.val t g hg ch z d
  .intro t ch z d p hp;have d:lk ((s.n,[],SV.own s.ob.length)::s.sl) t=some (ch,z):=d;rw[z0k] at d;by_cases e:t=s.n
   .rw[if_pos e] at d;simp only[w01,w0k] at d;rw[<- d.1] at hp;cases hp
   .rw[if_neg e] at d;exact aa.ch t ch z d p hp
  .intro x hx;simp only[w01] at hx;subst hx;exact⟨by rw[j,a1],by rw[j],g0,by rw[j];exact h0⟩
  .show (GA.tm ⟨a',some (w.heap.size+1,rec,f,k)⟩).tmps.size=s.n+1;rw[show (GA.tm ⟨a',some (w.heap.size+1,rec,f,k)⟩).tmps=a.tmps.push (.func (.yield (w.heap.size+1)) #[] #[]) by rw[a1];rfl];simp[hn]
theorem yks[Dr](hN:z6x V N)(φ:Nat)(h:H V R):(∀Γ c K,obl V N φ Γ h none c K->zn5 Γ C r (ex V N φ h).run c K)/\
  (∀Γ full id ops d K,obl V N φ Γ h (some full) (.region id ops d) K->zwm Γ C r (ex V N φ h).inl ops full K):=by
 induction h with
 |x=>exact⟨λΓ c K _=>zu4 hN (λΓ f fn c K _ _=>ztu hN 8 Γ f c K) (λΓ k=>znv 8 Γ k) c Γ K,λΓ full id ops d K _=>z9l hN Γ⟩
 |no=>refine⟨λΓ c K u=>?_,λΓ full id ops d K _=>z9l hN Γ⟩;intro rd acts Q hΓ a0 hK s a w h hs;cases h
 |seq h1 h2 i1 i2=>
  refine⟨λΓ c K u=>?_,λΓ full id ops d K _=>z9l hN Γ⟩;cases c with
  |seq x y=>intro rd acts Q hΓ a0 hK s a w h hs;obtain⟨r1,r2⟩:=y1k a0;exact wpIn_seq (i1.1 _ _ _ u.1 rd acts _ hΓ r1 (zw7 (λs a w h hs=>i2.1 _ y K u.2 rd acts Q hΓ r2 hK s a w h hs) hK) s a w h hs)
  |_=>exact u.elim
 |cond h1 h2 i1 i2=>
  refine⟨λΓ c K u=>?_,λΓ full id ops d K _=>z9l hN Γ⟩;cases c with
  |cond o x y=>intro rd acts Q hΓ a0 hK s a w h hs;obtain⟨r1,r2⟩:=y4m a0;exact y3b h hs (λh=>i1.1 _ x K u.1 rd acts Q hΓ r1 hK s a w h hs) (λh=>i2.1 _ y K u.2 rd acts Q hΓ r2 hK s a w h hs)
  |_=>exact u.elim
 |body h ih=>
  refine⟨λΓ c K u=>?_,λΓ full id ops d K _=>z9l hN Γ⟩;cases c with
  |block id c=>intro rd acts Q hΓ a0 hK s a w h hs;exact wpIn_block (ih.1 _ c _ u rd acts _ hΓ a0 (y7z hK) s a w h hs)
  |scope c=>intro rd acts Q hΓ a0 hK s a w h hs;exact zta (ih.1 _ c _ u rd acts _ hΓ a0 (ygc hK) s a w h hs)
  |_=>exact u.elim
 |loop h L b ih=>
  refine⟨λΓ c K u=>?_,λΓ full id ops d K _=>z9l hN Γ⟩;cases c with
  |loop c=>
   obtain⟨h0,hS,hb⟩:=u;intro rd acts Q hΓ a0 hK s a w hr hs;obtain⟨z,hz,hL⟩:=zdw hr;have key:∀n z,L n z=some r->∀a w,SatS V C acts (h.enc V z) a w->Code.roundsIn (fz rd) 0 N.P c Q n a w:=by
    intro n
    induction n with
    |zero=>intro z hz;rw[h0] at hz;cases hz
    |succ n ab=>intro z hz a w hs;rw[hS] at hz;refine(ih (L n)).1 Γ c _ (hb n) rd acts (Exit.then (Code.roundsIn (fz rd) 0 N.P c Q n) Q) hΓ a0 (zw7 (λs a w h hs=>?_) hK) _ a w hz hs;obtain⟨z',a9,a8⟩:=zdw h;exact ab z' a8 a w (zsk hs _ z' a9)
   exact wpIn_loop_rounds φ (key φ z hL a w (zsk hs h z hz))
  |_=>exact u.elim
 |join h J b ih=>
  refine⟨λΓ c K u=>?_,λΓ full id ops d K _=>z9l hN Γ⟩;have a1 :(∀z,J z=K .normal (h.enc V z))/\obl V N φ Γ b none c (seqK V (λs=>zti (h.dec V s) J) K):=by cases c<;>exact u
  intro rd acts Q hΓ a0 hK s a w hr hs;refine ih.1 Γ c _ a1.2 rd acts Q hΓ a0 (λe s a w hk hs=>?_) s a w hr hs;cases e with
  |normal=>obtain⟨z,hz,hJ⟩:=zdw hk;rw[a1.1] at hJ;exact hK _ _ a w hJ (zsk hs h z hz)
  |_=>exact hK _ s a w hk hs
 |ins i f h rest a5 a6=>
  have B:∀Γ full id ops d K,obl V N φ Γ (.ins i f h rest) (some full) (.region id ops d) K->zwm Γ C r (ex V N φ (.ins i f h rest)).inl ops full K:=by
   intro Γ full id ops d K u;obtain⟨a2,a4⟩:=u;obtain⟨b1,b2⟩:=a6.2 Γ full id ops d K a4;refine⟨λj g fn c hf hc=>?_,λj=>?_⟩
   .show zn5 _ C r (λc s K=>bif Nat.beq j i&&Nat.beq g f&&Nat.ble (g+1) YID then(ex V N φ h).run c s K else(ex V N φ rest).inl j g c s K) c _;cases he :(Nat.beq j i&&Nat.beq g f&&Nat.ble (g+1) YID) with
    |false=>exact b1 j g fn c hf hc
    |true=>simp only[w02] at he;have e1:=w03 he.1.1;have e2:=w03 he.1.2;subst e1;subst e2;rw[hf] at a2;simp only[hc] at a2;exact a5.1 _ c _ a2
   .have:=b2 j
    intro rd acts hΓ s vs a w A ro S hy;refine this rd acts hΓ s vs a w A ro S ?_;have e :(Nat.beq j i&&Nat.beq YID f&&Nat.ble (YID+1) YID)=false:=by rw[show Nat.ble (YID+1) YID=false from rfl,Bool.and_false]
    change (bif Nat.beq j i&&Nat.beq YID f&&Nat.ble (YID+1) YID then _ else(ex V N φ rest).inl j YID _ _ _)=_ at hy;rw[e] at hy;exact hy
  refine⟨λΓ c K u=>?_,B⟩;cases c with
  |region id ops d=>intro rd acts Q hΓ a0 hK s a w h hs;exact y2a hN (B Γ _ id ops d K u) hΓ hK h hs
  |_=>exact u.elim
 |rf f k fi h ih=>
  refine⟨λΓ c K u=>?_,λΓ full id ops d K _=>z9l hN Γ⟩;cases c with
  |rangeFunc g ps a7 bd=>
   obtain⟨h0,u⟩:=u;split at u
   .rename_i fn hf;split at u
    .rename_i c hc;exact yni h0 hf hc (ih.1 _ c _ u) λs=>rfl
    .exact u.elim
   .exact u.elim
  |_=>exact u.elim
 |yl i f k h rest a5 a6=>
  have B:∀Γ full id ops d K,obl V N φ Γ (.yl i f k h rest) (some full) (.region id ops d) K->zwm Γ C r (ex V N φ (.yl i f k h rest)).inl ops full K:=by
   intro Γ full id ops d K u;obtain⟨⟨hΓ,hY,a2⟩,a4⟩:=u;obtain⟨b1,b2⟩:=a6.2 Γ full id ops d K a4;refine⟨λj g fn c hf hc=>?_,λj=>?_⟩
   .show zn5 _ C r (λc s K=>bif Nat.beq j i&&Nat.beq g YID then ylX V N (ex V N φ h).run f k s K else(ex V N φ rest).inl j g c s K) c _;cases he :(Nat.beq j i&&Nat.beq g YID) with
    |false=>exact b1 j g fn c hf hc
    |true=>simp only[w02] at he;have e2:=w03 he.2;subst e2;rw[hY] at hf;cases hf
   .cases he:Nat.beq j i with
    |false=>have:=b2 j;intro rd acts hΓ s vs a w A ro S hy;refine this rd acts hΓ s vs a w A ro S ?_;change (bif Nat.beq j i&&Nat.beq YID YID then _ else(ex V N φ rest).inl j YID _ _ _)=_ at hy;rw[he] at hy;exact hy
    |true=>
     have e1:=w03 he;subst e1;split at a2
     .rename_i g0 ps a7 bd h0;refine ynn hN hΓ h0 (λs K=>?_) (a5.1 _ bd _ a2);show (bif Nat.beq j j&&Nat.beq YID YID then ylX V N (ex V N φ h).run f k s K else _)=_;rw[he,w2p];rfl
     .exact a2.elim
  refine⟨λΓ c K u=>?_,B⟩;cases c with
  |region id ops d=>intro rd acts Q hΓ a0 hK s a w h hs;exact y2a hN (B Γ _ id ops d K u) hΓ hK h hs
  |_=>exact u.elim
 |foc p q h ih=>
  refine⟨λΓ c K u=>?_,λΓ full id ops d K u=>ih.2 Γ full id ops d K u⟩;have a1:obl V N φ Γ h none c K:=by cases c<;>exact u
  intro rd acts Q hΓ a0 hK s a w hr hs;change (match yao V s p.1 p.2 with
   |some (.own i)=>bif y9g s.ob[i]? then focM V s i (keyX V s q) λs=>(ex V N φ h).run c s K else(match focP V p q s with
    |some (i,m)=>focX V s i m λs=>(ex V N φ h).run c s K
    |none=>none)
   |_=>none)=some r at hr
  split at hr
  .rename_i i _;cases hm:y9g s.ob[i]? with
   |true=>rw[hm] at hr;simp only[cond_true] at hr;obtain⟨s',h1,h2⟩:=yhw hr hs;exact ih.1 Γ c K a1 rd acts Q hΓ a0 hK s' a w h1 h2
   |false=>
    rw[hm] at hr;simp only[cond_false] at hr;split at hr
    .obtain⟨s',h1,h2⟩:=yhx hr hs;exact ih.1 Γ c K a1 rd acts Q hΓ a0 hK s' a w h1 h2
    .cases hr
  .cases hr
 |pk h J=>
  refine⟨λΓ c K u=>?_,λΓ full id ops d K _=>z9l hN Γ⟩;cases c with
  |region id ops d=>obtain⟨rfl,hz,hA⟩:=u;intro rd acts Q hΓ a0 hK s a w hr hs;obtain⟨z,a3,hJ⟩:=zdw hr;exact ylz hN (λz' he=>by rw[<- hz,hA z z' he (yju (zsk hs h z a3))];exact hJ) (by rw[<- hz];exact hJ) hK hΓ (zsk hs h z a3)
  |_=>exact u.elim
 |unr n h ih=>
  refine⟨λΓ c K u=>?_,λΓ full id ops d K _=>z9l hN Γ⟩;cases c with
  |loop c=>
   intro rd acts Q hΓ a0 hK s a w hr hs;have key:∀m s a w,unrX V ((ex V N φ h).run c) m s K=some r->SatS V C acts s a w->Code.roundsIn (fz rd) 0 N.P c Q m a w:=by
    intro m
    induction m with
    |zero=>intro s a w hz;cases hz
    |succ m aa=>intro s a w hz hs;exact ih.1 Γ c _ (u _) rd acts (Exit.then (Code.roundsIn (fz rd) 0 N.P c Q m) Q) hΓ a0 (zw7 (λs a w h hs=>aa s a w h hs) hK) _ a w hz (yhc hs)
   exact wpIn_loop_rounds n (key n s a w hr hs)
  |_=>exact u.elim
 |alt h J J2=>
  refine⟨λΓ c K u=>?_,λΓ full id ops d K _=>z9l hN Γ⟩;cases c with
  |region id ops d=>obtain⟨hd,hz,hA⟩:=u;simp only[w02] at hd;obtain⟨rfl,hm⟩:=hd;intro rd acts Q hΓ a0 hK s a w hr hs;obtain⟨z,a3,hJ⟩:=zdw hr;obtain⟨L,h1,h2⟩:=(hA z).ok r hJ;rw[hz] at h1;exact y05 hN ycy (inl:=λ_=>Dfl V N R) (z9l hN Γ) hΓ hK hm h1 h2 (zsk hs h z a3)
  |_=>exact u.elim
 |frz ps h ih=>
  refine⟨λΓ c K u=>?_,λΓ full id ops d K u=>ih.2 Γ full id ops d K u⟩;have a1:obl V N φ Γ h none c K:=by cases c<;>exact u
  intro rd acts Q hΓ a0 hK s a w hr hs;exact ih.1 Γ c K a1 rd acts Q hΓ a0 hK _ a w hr (znx _ hs)
 |cut t h ih=>
  refine⟨λΓ c K u=>?_,λΓ full id ops d K u=>ih.2 Γ full id ops d K u⟩;have a1:obl V N φ Γ h none c K:=by cases c<;>exact u
  intro rd acts Q hΓ a0 hK s a w hr hs;exact ih.1 Γ c K a1 rd acts Q hΓ a0 hK _ a w hr (yhk t hs)
end
end Px
end
section
namespace Px
open Go Go.RowKit
section
variable{V:TE}{N:Env V}
theorem y0f[Dr]{P:Program}{A B:Asg}{s:SS V.T}(hl:A.length=s.ob.length):∀(cs:List RC)(l:List (SV V.T))(y:RTup V.T cs)(n:Nat),decR V s cs l=some y->(∀k i,(znl V cs l)[k]? = some i->B[n+k]? = some (A.getD i default))->
  F2 Ent (denV V P A l) (denV V P B (encR V n cs y))/\zfq (obD V P A A s.ob) (znl V cs l) (obD V P B ((znl V cs l).map λi=>A.getD i default) (newR V cs y))/\(newR V cs y).length =(znl V cs l).length
 | [],l,y,n,h,d=>by
  cases l with
  |nil=>exact⟨trivial,trivial,rfl⟩
  |cons x l=>exact zm h
 | .val c::cs,l,y,n,h,d=>by
  cases l with
  |nil=>exact zm h
  |cons x l=>
   change (match V.dec (rdSl []) c x,decR V s cs l with
    |some y,some r=>some (y,r)
    |_,_=>none)=some y at h
   split at h
   .rename_i y1 r hy f;have e:=w0f h;subst e;obtain⟨g,u,h3⟩:=y0f hl cs l r n f d;refine⟨⟨?_,g⟩,u,h3⟩;rw[z4l];exact z6y V P hy
   .exact zm h
 | .row E c::cs,l,y,n,h,d=>by
  cases l with
  |nil=>exact zm h
  |cons x l=>
   cases x with
   |own i=>
    cases f:decR V s cs l with
    |none=>simp[decR,f] at h
    |some r=>
     simp only[decR,f] at h;split at h
     .rename_i E' c' z hz;cases hE:Nat.beq E E' with
      |false=>rw[hE] at h;exact zm h
      |true=>
       rw[hE] at h;have:=w03 hE;subst this;simp only[cond_true] at h;split at h
       .rename_i e;subst e;have e:=w0f h;subst e;have a0:i<A.length:=by rw[hl];exact(w04.1 hz).1
        have ha:A[i]? = some (A.getD i default):=by simp[List.getD,w0c a0]
        obtain⟨g,u,h3⟩:=y0f hl cs l r (n+1) f λk j hk=>by have:=d (k+1) j (by simpa[znl] using hk);rw[<- this];congr 1;omega
        have hb:=d 0 i rfl;refine⟨⟨?_,g⟩,⟨⟨_,zw V P ha hz,EntH.refl⟩,u⟩,by simp[znl,newR,h3]⟩;simp only[SV.den];rw[ha,show B[n]? = some (A.getD i default) from hb];exact Ent.refl
       .exact zm h
     .exact zm h
   |_=>simp[decR] at h
theorem yf5[Dr]{P:Program}{A B:Asg}: ∀{l m:List (SV V.T)},F2 Ent (denV V P A l) (denV V P B m)->Ent ((resV V l).den V P A) ((resV V m).den V P B)
 | [],[],_=>by simp only[resV,SV.den];exact Ent.refl
 | [x],[y],h=>h.1
 |x::d::l,y::f::m,h=>by simp only[resV,SV.den];exact ybn h
 | [],_::_,h=>h.elim
 |_::_,[],h=>h.elim
 | [_],_::_::_,h=>h.2.elim
 |_::_::_,[_],h=>h.2.elim
theorem zoi[Dr]{P:Program}{A:Asg}: ∀(cs:List Nat)(x:Tup V.T cs),denV V P A (encA V cs x)=vls V cs x
 | [],_=>rfl
 |c::cs,x=>by simp only[encA,denV,vls,z4l,zoi cs]
theorem zu1:∀(cs:List Nat)(x:Tup V.T cs),(encA V cs x).length=cs.length
 | [],_=>rfl
 |c::cs,x=>by simp only[encA,w0o,zu1 cs]
theorem y3i:∀(cs:List KC)(x:KCs V.T cs),(encK V cs x).length=cs.length
 | [],_=>rfl
 |c::cs,x=>by simp only[encK,w0o,y3i cs]
theorem y5b[Dr](hN:z6x V N){f φ:Nat}{fn:Func}{u:List RC}(h:H V (RTup V.T u))(hf:N.P.funcs[f]? = some fn){us:List (SV V.T)}(ah:us.length<=fn.ntmps){r:RTup V.T u}
  (hr:fnV V N φ fn u h us=some r) (ho:fnO V N φ fn u h):zdv N.P f (denV V N.P [] us) (Kres V N.P u r):=by
 unfold fnV at hr;unfold fnO at ho;split at hr
 .rename_i c hb;rw[hb] at ho;intro r0 w vs a8 hl hA;rw[zgt] at hl;refine zfv hf hb ((yks hN (r:=r) (C:=(⟨w,w.heap.size,r0,w,fn.ntmps,none,[]⟩:Cx N.P)) φ h).1 [] c _ ho none [] _ rfl (.inl rfl) ?_ _ _ _ hr ?_)
  .intro e s a' w' d hs;have fin :(match zhm V N s fn.results.toList with
     |some l=>match zhm V N (zxu V s (y1p V u l)) fn.results.toList with
      |some l'=>bif zga (znl V u l') then decR V (zxu V s (y1p V u l)) u l' else none
      |none=>none
     |none=>none)=some r->LeavesInM (fz none) 0 N.P fn a'.tmps (retR w w.heap.size r0 w (Kres V N.P u r)) a'.defers .returning w':=by
    intro d;split at d
    .rename_i l ag;split at d
     .rename_i l' a6;cases a0:zga (znl V u l') with
      |false=>rw[a0] at d;cases d
      |true=>
       rw[a0] at d;simp only[cond_true] at d;obtain⟨af,ai,ae,ad,A',ac,S',a5,ab,a1,a2,a3⟩:=znx (y1p V u l) hs;refine zny ab a1 a2 a3 λw2 g1 g2 g3 g4=>?_
       obtain⟨v,hv,aa⟩:=zhc g1 g3 a6;obtain⟨k1,k2,k3⟩:=y0f (P:=N.P) (B:=(znl V u l').map λi=>A'.getD i default) a5 u l' r 0 d λk i hk=>by rw[w1j,w1r,hk];rfl
       exact⟨v,hv,v,_,_,ac,_,rfl,g2.ev,g1.sel k2 a0,yf5 k1 _ _ _ aa,_,by rw[k3];simp,rfl,rfl⟩
     .cases d
    .cases d
   cases e with
   |ret=>exact fin d
   |normal=>exact fin d
   |exit id=>simp[retK] at d
   |goto l=>simp[retK] at d
   |panic ch=>simp[retK] at d
   |outgrown=>simp[retK] at d
  .refine⟨trivial,by simp[hl];omega,trivial,⟨λt g h=>by simp[lk] at h,λt ch z hz p hp=>?_,λp hp=>by simp at hp⟩,[],r0,λ_ _=>False,rfl,⟨Bel.refl _ _,w16 _,λi H hi=>by simp[obD] at hi,λi b hb=>hb.elim,λi j b hb=>hb.elim,a8⟩,⟨Evo.refl _ _ _,⟨⟨[],rfl,w4h,λ_ h=>by cases h⟩,w4h,λp h=>by cases h⟩⟩,?_,trivial⟩
   .rw[zd3] at hz;simp only[w30,if_true,w1w,w0k] at hz;obtain⟨_,_,rfl,_⟩:=hz;simp at hp
   .intro t X hX;simp only[slD,zd3,w30,if_true,w3f,Option.map_map,w1w] at hX;obtain⟨y,hy,rfl⟩:=hX;have a7:=(w04.1 hy).1;have a4:∀(l:List (SV V.T))(t:Nat),l[t]? = some y->(denV V N.P [] l)[t]? = some (y.den V N.P []):=by
     intro l
     induction l with
     |nil=>intro t h;simp at h
     |cons z l ih=>intro t h;cases t with
      |zero=>simp at h;subst h;rfl
      |succ t=>simp at h;simpa[denV] using ih t h
    have:=hA t _ (a4 _ t hy);have a9:t<vs.size:=hl ▸ a7;simpa[denE,w07,w1a,a9] using this
 .cases hr
theorem ykw[Dr](u:z6x V N){f φ:Nat}{fn:Func}{as:List Nat}{d:List RC}{F:Tup V.T as->Option (RTup V.T d)}(h:H V (RTup V.T d))(z:N.P.funcs[f]? = some fn)(hn:Nat.ble as.length fn.ntmps=true)
  (j:∀a,F a=fnX V N φ fn as d h a) (ho:fnO V N φ fn d h):zz V N.P f ⟨as,d,F⟩:=by
 intro x r g;simp only at x r g;rw[j] at g;have:=y5b u (us:=encA V as x) h z (by rw[zu1];exact w0s hn) g ho
 rwa [zoi] at this
theorem ykj[Dr](u:z6x V N){f φ:Nat}{fn:Func}{as:List Nat}{cs:List KC}{d:List RC}{F:Tup V.T as->KCs V.T cs->Option (RTup V.T d)}(h:H V (RTup V.T d))(z:N.P.funcs[f]? = some fn)(hn:Nat.ble (as.length+cs.length) fn.ntmps=true)
  (j:∀a b,F a b=fnXc V N φ fn as cs d h a b) (ho:fnO V N φ fn d h):ztc V N.P f ⟨as,cs,d,F⟩:=by
 intro x y r g;simp only at x y r g;rw[j] at g;have:=y5b u (us:=encA V as x++encK V cs y) h z (by rw[w0h,zu1,y3i];exact w0s hn) g ho
 rwa [ztt,zoi] at this
theorem zu2[Dr]{P:Program}{A:Asg}: ∀(d:List MA)(a:MTup V.T d)(k:Nat)(y:SV V.T),(encM V d a)[k]? = some y->∃B,(msD V P d a)[k]? = some B/\Ent B (y.den V P A)
 | [],a,k,y,h=>by simp[encM] at h
 | .fn f::d,a,0,y,h=>by simp[encM] at h;subst h;exact⟨_,rfl,y8w⟩
 | .val c::d,a,0,y,h=>by simp[encM] at h;subst h;exact⟨_,rfl,Ent.of_eq (z4l V P A c a.1).symm⟩
 | .cmp c::d,a,0,y,h=>by simp[encM] at h;subst h;exact⟨_,rfl,Ent.refl⟩
 | .fn f::d,a,k+1,y,h=>zu2 d a.2 k y (by simpa[encM] using h)
 | .val c::d,a,k+1,y,h=>zu2 d a.2 k y (by simpa[encM] using h)
 | .cmp c::d,a,k+1,y,h=>zu2 d a.2 k y (by simpa[encM] using h)
theorem zpi[Dr]{P:Program}: ∀(d:List MA)(a:MTup V.T d),(msD V P d a).length=d.length
 | [],_=>rfl
 | .fn f::d,a=>by simp[msD,zpi d]
 | .val c::d,a=>by simp[msD,zpi d]
 | .cmp c::d,a=>by simp[msD,zpi d]
theorem ylf[Dr](hN:z6x V N){f φ:Nat}{fn:Func}{E c:Nat}{ms:List MA}{F:List (V.T c)->MTup V.T ms->Option (List (V.T c))}(h:H V (List (V.T c)))(hf:N.P.funcs[f]? = some fn)(hn:Nat.ble (ms.length+1) fn.ntmps=true)
  (hF:∀l a,F l a=fnM V N φ fn E c ms h l a) (ho:fnMO V N φ fn E c h):zn4 V N.P f ⟨E,c,ms,F⟩:=by
 intro l a l' sv hr w0 base r w_S w vs hw hl hA;change F l a=some l' at hr;rw[hF] at hr;unfold fnM at hr;unfold fnMO at ho;have ai:=w0s hn;split at hr
 .rename_i b hb;rw[hb] at ho;simp only[w0o,zpi] at hl;refine zfv hf hb ((yks hN (r:=l') (C:=(⟨w0,base,r,w,fn.ntmps,none,[]⟩:Cx N.P)) φ h).1 [none] b _ ho none [⟨⟨#[sv],[]⟩,none⟩] _ rfl (.inl rfl) ?_ _ _ _ hr ?_)
  .intro e s a' w' d hs;have fin:yjk V fn E c s=some l'->LeavesInM (fz none) 0 N.P fn a'.tmps (retR w0 base r w (λx objs=>∃l2,objs = [Px.row E (V.ev c) (V.sz c) l2 sv]/\x=eqv (.tuple #[])/\l2=l')) a'.defers .returning w':=by
    intro d;unfold yjk at d;cases he:fn.results.isEmpty with
    |false=>rw[he] at d;cases d
    |true=>
     rw[he] at d;simp only[cond_true] at d;obtain⟨ah,aj,ag,af,A',ae,S',aa,ad,a3,a7,a8⟩:=hs;split at d
     .rename_i f0 a9;split at d
      .rename_i j hj;split at d
       .rename_i E' c' l2 a4;cases hE:Nat.beq E' E with
        |false=>rw[hE] at d;cases d
        |true=>
         rw[hE] at d;have eE:=w03 hE;subst eE;simp only[cond_true] at d;split at d
         .rename_i ec;subst ec;simp only[w01] at d;subst d;refine zny ad a3 a7 a8 λw2 g1 g2 g3 g4=>?_
          rw[a9] at g4;have a2:j<A'.length:=by rw[aa];exact(w04.1 a4).1
          have hq:A'[j]? = some (A'[j]'a2):=w0c a2;have a0:=g4.1.1 0 _ (by simp only[slD,hj];rfl);simp only[denE,SV.den,hq] at a0;have a0:sv =(A'[j]'a2).2:=a0;have a5:zhm V N s fn.results.toList=some []:=by
           have:fn.results.toList = []:=by simpa using he
           rw[this];rfl
          obtain⟨v,hv,ac⟩:=zhc g1 g3 a5;have a6:zfq (obD V N.P A' A' s.ob) [j] [Px.row E' (V.ev c') (V.sz c') l2 sv]:=⟨⟨_,zw V N.P hq a4,by rw[a0];exact EntH.refl⟩,trivial⟩;exact⟨v,hv,v,_,_,ae,_,rfl,g2.ev,g1.sel a6 rfl,ac,l2,rfl,rfl,rfl⟩
         .cases d
       .cases d
      .cases d
     .cases d
   cases e with
   |ret=>exact fin d
   |normal=>exact fin d
   |exit id=>simp[retM] at d
   |goto l=>simp[retM] at d
   |panic ch=>simp[retM] at d
   |outgrown=>simp[retM] at d
  .refine⟨trivial,by simp[hl];omega,trivial,⟨λt g h=>by simp[lk] at h,λt ch z hz p hp=>?_,λp hp=>by simp at hp⟩,[(0,sv)],r,w_S,rfl,hw,⟨Evo.refl _ _ _,⟨⟨[],rfl,w4h,λ_ h=>by cases h⟩,w4h,λp h=>by cases h⟩⟩,?_,⟨λt X hX=>?_,trivial,⟨λt g h=>by simp[lk] at h,λt ch z hz p hp=>?_,λp hp=>by simp at hp⟩,(λx e=>by cases e),rfl⟩,trivial⟩
   .rw[zd3] at hz;simp only[w30,if_true,w1w,w0k] at hz;obtain⟨_,_,rfl,_⟩:=hz;simp at hp
   .intro t X hX;simp only[slD,zd3,w30,if_true,w3f,Option.map_map,w1w] at hX;obtain⟨y,hy,rfl⟩:=hX;have key:∃B,(eqv sv::msD V N.P ms a)[t]? = some B/\Ent B (y.den V N.P [(0,sv)]):=by
     cases t with
     |zero=>simp at hy;subst hy;exact⟨_,rfl,Ent.refl⟩
     |succ t=>obtain⟨B,h1,h2⟩:=zu2 (P:=N.P) (A:=[(0,sv)]) ms a t y (by simpa using hy);exact⟨B,by simpa using h1,h2⟩
    obtain⟨B,hB,hE⟩:=key;have:=hE _ _ _ (hA t B hB);have ab:t<vs.size:=by have:=(w04.1 hB).1;simp only[w0o,zpi] at this;omega
    simpa[denE,w07,w1a,ab] using this
   .have u :(lk [((0:Nat),(([]:Ch),(SV.own 0:SV V.T)))] t).map (denE V N.P [(0,sv)] [])=some X:=hX;rw[z0k] at u;split at u
    .rename_i e0;subst e0;simp only[w0z,w01] at u;subst u;exact(rfl:sv=sv)
    .simp[lk] at u
   .have a1:lk [((0:Nat),(([]:Ch),(SV.own 0:SV V.T)))] t=some (ch,z):=hz;rw[z0k] at a1;split at a1
    .cases a1;simp at hp
    .simp[lk] at a1
 .cases hr
theorem zy5{α:Type}{Q:Nat->α->Prop}: ∀{l:List (Nat×α)},AllP (λp=>Q p.1 p.2) l->∀f x,lk l f=some x->Q f x
 | [],_,f,x,h=>by cases h
 |(k,y)::l,d,f,x,h=>by
  rw[z0k] at h;by_cases e:f=k
  .rw[if_pos e] at h;cases h;subst e;exact d.1
  .rw[if_neg e] at h;exact zy5 d.2 f x h
theorem y3k[Dr]{P:Program}{l:List (Nat×Fsp V)}{m:List (Nat×Msp V)}{n:List (Nat×Csp V)}{s:List (Nat×SoSp)}(h:AllP (λp=>zz V P p.1 p.2) l)(g:AllP (λp=>zn4 V P p.1 p.2) m)(j:AllP (λp=>ztc V P p.1 p.2) n)
  (u:AllP (λp=>SoOK V P p.1 p.2) s):z6x V (⟨P,lk l,lk m,lk n,lk s⟩:Env V):=
 ⟨λf sp d=>zy5 j f sp d,λf sp d=>zy5 g f sp d,λf sp d=>zy5 h f sp d,λf sp d=>zy5 u f sp d⟩
end
section
variable(V:TE)(P:Program)
structure Ct[Dr]where
 f:Nat
 s:Fsp V
 h:zz V P f s
structure Mt[Dr]where
 f:Nat
 s:Msp V
 h:zn4 V P f s
structure Cc[Dr]where
 f:Nat
 s:Csp V
 h:ztc V P f s
structure Cs[Dr]where
 f:Nat
 s:SoSp
 h:SoOK V P f s
def envC[Dr](l:List (Ct V P))(m:List (Mt V P))(n:List (Cc V P))(s:List (Cs V P)):Env V:=⟨P,lk (l.map λx=>(x.f,x.s)),lk (m.map λx=>(x.f,x.s)),lk (n.map λx=>(x.f,x.s)),lk (s.map λx=>(x.f,x.s))⟩
end
section
variable{V:TE}{P:Program}
def ctF[Dr]{f:Nat}{s:Fsp V}(h:zz V P f s):Ct V P:=⟨f,s,h⟩
def ctM[Dr]{f:Nat}{s:Msp V}(h:zn4 V P f s):Mt V P:=⟨f,s,h⟩
def ctC[Dr]{f:Nat}{s:Csp V}(h:ztc V P f s):Cc V P:=⟨f,s,h⟩
def ctS[Dr]{f:Nat}{s:SoSp}(h:SoOK V P f s):Cs V P:=⟨f,s,h⟩
theorem zio{α β:Type}{Q:Nat×β->Prop}(g:α->Nat×β)(d:∀x,Q (g x)):∀l:List α,AllP Q (l.map g)
 | []=>trivial
 |x::l=>⟨d x,zio g d l⟩
theorem y0q[Dr](l:List (Ct V P))(m:List (Mt V P))(n:List (Cc V P))(s:List (Cs V P)):z6x V (envC V P l m n s):=y3k (zio _ (λx=>x.h) l) (zio _ (λx=>x.h) m) (zio _ (λx=>x.h) n) (zio _ (λx=>x.h) s)
theorem fnC[Dr](l:List (Ct V P))(m:List (Mt V P))(n:List (Cc V P))(s:List (Cs V P)){f φ:Nat}{fn:Func}{as:List Nat}{d:List RC}{F:Tup V.T as->Option (RTup V.T d)}(h:H V (RTup V.T d))(j:P.funcs[f]? = some fn)(u:Nat.ble as.length fn.ntmps=true)
  (g:∀a,F a=fnX V (envC V P l m n s) φ fn as d h a) (z:fnO V (envC V P l m n s) φ fn d h):zz V P f ⟨as,d,F⟩:=ykw (y0q l m n s) h j u g z
theorem fnC2[Dr](l:List (Ct V P))(m:List (Mt V P)){f φ:Nat}{fn:Func}{as:List Nat}{d:List RC}{F:Tup V.T as->Option (RTup V.T d)}(h:H V (RTup V.T d))(j:P.funcs[f]? = some fn)(u:Nat.ble as.length fn.ntmps=true)
  (g:∀a,F a=fnX V (envC V P l m [] []) φ fn as d h a) (z:fnO V (envC V P l m [] []) φ fn d h):zz V P f ⟨as,d,F⟩:=fnC l m [] [] h j u g z
theorem clC[Dr](l:List (Ct V P))(m:List (Mt V P))(n:List (Cc V P))(s:List (Cs V P)){f φ:Nat}{fn:Func}{as:List Nat}{cs:List KC}{d:List RC}{F:Tup V.T as->KCs V.T cs->Option (RTup V.T d)}(h:H V (RTup V.T d))(j:P.funcs[f]? = some fn)(u:Nat.ble (as.length+cs.length) fn.ntmps=true)
  (g:∀a b,F a b=fnXc V (envC V P l m n s) φ fn as cs d h a b) (z:fnO V (envC V P l m n s) φ fn d h):ztc V P f ⟨as,cs,d,F⟩:=ykj (y0q l m n s) h j u g z
theorem msC[Dr](l:List (Ct V P))(m:List (Mt V P))(n:List (Cc V P))(s:List (Cs V P)){f φ:Nat}{fn:Func}{E c:Nat}{d:List MA}{F:List (V.T c)->MTup V.T d->Option (List (V.T c))}(h:H V (List (V.T c)))(u:P.funcs[f]? = some fn)(z:Nat.ble (d.length+1) fn.ntmps=true)
  (j:∀g a,F g a=fnM V (envC V P l m n s) φ fn E c d h g a) (ho:fnMO V (envC V P l m n s) φ fn E c h):zn4 V P f ⟨E,c,d,F⟩:=ylf (y0q l m n s) h u z j ho
end
end Px
end
