/- A part of the proof of emptiesProves_holds. Conditions: none. -/
import Derived.Test.YtcofccdjgfgeeaaKzad
set_option linter.unusedVariables false
set_option linter.unusedSimpArgs false
section
namespace Px
open Go Go.RowKit
def Pres {α:Type} (m:Sem α):Prop:=∀(P:Program) (w:World) (x:α) (w':World),m.run P w = .ok x w'->w'=w
theorem Pres.pure {α:Type} (x:α):Pres (Pure.pure x:Sem α):=fun P w y w' h=>by
 rw [Sem.run_pure] at h; cases h; rfl
theorem Pres.bind {α β:Type} {m:Sem α} {f:α->Sem β} (h:Pres m) (k:∀ x,Pres (f x)):Pres (m >>= f):=fun P w y w' hr=>by
 rw [Sem.run_bind] at hr
 cases hm:m.run P w with
 | ok x w1=>
  rw [hm] at hr
  have e:=h P w x w1 hm
  subst e
  exact k x P _ y w' hr
 | halt x w1=>rw [hm] at hr; cases hr
theorem Pres.halt {α:Type} {h:Halt} : Pres (.halt h:Sem α):=fun P w y w' hr=>by cases hr
theorem Pres.program:Pres Go.program:=fun P w y w' hr=>by cases hr; rfl
theorem Pres.stuck {α:Type} {s:String} : Pres (Go.stuck s:Sem α):=Pres.halt
theorem Pres.unsupported {α:Type} {s:Unsupported} : Pres (Go.unsupported s:Sem α):=Pres.halt
theorem Pres.shape {r:Nat} : Pres (Go.shape r):=fun P w y w' hr=>by cases hr; rfl
theorem Pres.load {a:Addr} : Pres (Go.load a):=fun P w y w' hr=>by
 rw [run_load] at hr
 split at hr
 ·cases hr; rfl
 ·split at hr <;> cases hr
  rfl
theorem Pres.typeInfo {t:TypeId} : Pres (Go.typeInfo t):=by
 unfold Go.typeInfo
 refine Pres.program.bind fun p=>?_
 split
 ·exact Pres.pure _
 ·exact Pres.stuck
theorem Pres.underlying {t:TypeId} : Pres (Go.underlying t):=by
 unfold Go.underlying
 refine Pres.program.bind fun p=>?_
 split
 ·exact Pres.pure _
 ·exact Pres.stuck
theorem Pres.sizeOf {t:TypeId} : Pres (Go.sizeOf t):=Pres.typeInfo.bind fun _=>Pres.pure _
theorem Pres.isAgg {t:TypeId} : Pres (Go.isAgg t):=by
 unfold Go.isAgg
 refine Pres.underlying.bind fun p=>?_
 split <;> exact Pres.pure _
theorem Pres.loadCellsFrom {a:Addr} : ∀(n i:Nat) (acc:Array Value),Pres (Go.loadCellsFrom a i n acc)
 | 0,_,_=>Pres.pure _
 | n+1,i,acc=>Pres.load.bind fun _=>Pres.loadCellsFrom n _ _
theorem Pres.loadVar {t:TypeId} {a:Addr} : Pres (Go.loadVar t a):=by
 unfold Go.loadVar
 refine Pres.isAgg.bind fun b=>?_
 split
 ·exact Pres.bind Pres.sizeOf fun n=>Pres.bind (Pres.loadCellsFrom _ _ _) fun _=>Pres.pure _
 ·exact Pres.load
theorem Pres.sureAddr {v:Value} : Pres (Instr.sureAddr v):=by
 unfold Instr.sureAddr
 split
 ·exact Pres.pure _
 ·exact Pres.stuck
theorem Pres.asIntOf {v:Value} : Pres (Go.asIntOf v):=by
 unfold Go.asIntOf
 split
 ·exact Pres.pure _
 ·exact Pres.unsupported
 ·exact Pres.stuck
theorem Pres.boundsPanic {α:Type} {k:IntKind} {x y:Int} {c:BoundsCode} : Pres (Go.boundsPanic k x y c:Sem α):=fun P w z w' hr=>by
 obtain⟨s,w1,h⟩:=run_boundsPanic (P:=P) (w:=w) (α:=α) k x y c
 rw [h] at hr; cases hr
theorem Pres.getObj {r:Nat} : Pres (Go.getObj r):=fun P w y w' hr=>by
 simp only [Go.getObj,Sem.run] at hr
 split at hr
 ·cases hr
 ·cases hr; rfl
 ·cases hr
theorem Pres.viewAt {r:Nat} : Pres (Go.viewAt r):=by
 unfold Go.viewAt
 refine Pres.shape.bind fun x=>?_
 split
 ·exact Pres.pure _
 ·refine Pres.getObj.bind fun o=>?_
  split <;> exact Pres.pure _
theorem Pres.noView {a:Addr} : Pres (Go.noView a):=by
 unfold Go.noView
 refine Pres.viewAt.bind fun x=>?_
 split
 ·exact Pres.unsupported
 ·exact Pres.pure _
theorem Pres.byteOf {a:Addr} : Pres (Go.byteOf a):=by
 unfold Go.byteOf
 split
 ·exact Pres.pure _
 ·refine Pres.program.bind fun p=>Pres.noView.bind fun _=>Pres.shape.bind fun x=>?_
  split
  ·dsimp only
   split
   ·exact Pres.pure _
   ·split
    ·exact Pres.pure _
    ·exact Pres.stuck
  ·exact Pres.stuck
def IntV (v:Value):Prop:=∃ k n,v = .int k n
theorem Pres.fold {f:Value->Value->Sem Value} (hf:∀ k x j y,∃ v,IntV v/\f (.int k x) (.int j y)=Pure.pure v):∀(l:List Value) (x:Value),IntV x->(∀ y∈l,IntV y)->Pres (l.foldlM f x)
 | [],x,_,_=>Pres.pure _
 | y::l,x,hx,hl=>by
  obtain⟨k,n,rfl⟩:=hx
  obtain⟨j,m,rfl⟩:=hl y (w0f ..)
  obtain⟨v,hv,e⟩:=hf k n j m
  rw [List.foldlM_cons,e]
  intro P w z w' hr
  rw [Sem.run_bind,Sem.run_pure,Result.andThen_ok] at hr
  exact Pres.fold hf l v hv (fun y hy=>hl y (w08 _ hy)) P w z w' hr
theorem Pres.fieldPlace {a:Addr} {f:Field} : Pres (Go.fieldPlace a f):=by
 unfold Go.fieldPlace
 refine Pres.sizeOf.bind fun n=>?_
 split
 ·exact Pres.bind Pres.byteOf fun _=>Pres.bind Pres.byteOf fun _=>Pres.pure _
 ·exact Pres.pure _
theorem Pres.fieldAt {s:TypeId} {v:Value} {f:Nat} : Pres (Instr.fieldAt s v f):=by
 unfold Instr.fieldAt
 refine Pres.underlying.bind fun n=>?_
 split
 ·split
  ·exact Pres.sureAddr.bind fun _=>Pres.fieldPlace.bind fun _=>Pres.pure _
  ·exact Pres.stuck
 ·exact Pres.stuck
theorem Pres.indexAt {t:TypeId} {v i:Value} : Pres (Instr.indexAt t v i):=by
 unfold Instr.indexAt
 refine Pres.asIntOf.bind fun k=>?_
 refine Pres.underlying.bind fun u=>?_
 dsimp only
 split
 ·refine Pres.sureAddr.bind fun a=>Pres.bind (Pres.pure _) fun q=>?_
  obtain⟨base,len,elem⟩:=q
  dsimp only
  refine Pres.underlying.bind fun u2=>?_
  split
  ·split
   ·exact Pres.sizeOf.bind fun _=>Pres.pure _
   ·split <;>(split <;> first | exact Pres.unsupported | exact Pres.boundsPanic)
  ·exact Pres.boundsPanic
 ·refine Pres.bind (Pres.pure _) fun q=>?_
  obtain⟨base,len,elem⟩:=q
  dsimp only
  refine Pres.underlying.bind fun u2=>?_
  split
  ·split
   ·exact Pres.sizeOf.bind fun _=>Pres.pure _
   ·split <;>(split <;> first | exact Pres.unsupported | exact Pres.boundsPanic)
  ·exact Pres.boundsPanic
 ·refine Pres.bind Pres.stuck fun q=>?_
  obtain⟨base,len,elem⟩:=q
  dsimp only
  refine Pres.underlying.bind fun u2=>?_
  split
  ·split
   ·exact Pres.sizeOf.bind fun _=>Pres.pure _
   ·split <;>(split <;> first | exact Pres.unsupported | exact Pres.boundsPanic)
  ·exact Pres.boundsPanic
def yem (m:Sem Next):Prop:=∀(P:Program) (w:World) (x:Next) (w':World),m.run P w = .ok x w'->w'=w/\∃ v,x = .value v
theorem Pres.v {m:Sem Value} (h:Pres m):yem (do Pure.pure (Next.value (<- m)):Sem Next):=fun P w x w' hr=>by
 rw [Sem.run_bind] at hr
 cases hm:m.run P w with
 | ok y w1=>
  rw [hm] at hr
  have e:=h P w y w1 hm
  subst e
  rw [Result.andThen_ok,Sem.run_pure] at hr
  cases hr
  exact⟨rfl,_,rfl⟩
 | halt y w1=>rw [hm] at hr; cases hr
section
variable {V:TE} {N:Env V} {R:Type} {r:R} {C:Cx N.P}
theorem zyj [Dr] {s:SS V.T} {o:Oper} (h:zj8 V s o=true) (hkn:chP s.gb s.kn) {A:Asg} {a:Act} {ro:Nat->Prop} {w w':World} {x:Next} (hs:zf (slD V N.P A s.gb s.sl) a ro w) (hr :(execOp a.eval o).run N.P w = .ok x w'):w'=w/\∃ v,x = .value v:=by
 obtain⟨dst,op,ty,pos,aft,guard⟩:=o
 unfold zj8 at h
 simp only [w02] at h
 obtain⟨_,h⟩:=h
 split at h
 ·simp only [execOp,Sem.run_pure] at hr
  cases hr
  exact⟨rfl,_,rfl⟩
 ·simp only [execOp,Sem.run_pure] at hr
  cases hr
  exact⟨rfl,_,rfl⟩
 ·exact(Pres.v (Pres.sureAddr.bind fun _=>Pres.loadVar)) _ _ _ _ hr
 ·exact(Pres.v Pres.fieldAt) _ _ _ _ hr
 ·exact(Pres.v Pres.indexAt) _ _ _ _ hr
 ·rename_i x0
  split at h
  ·rename_i i off hx
   have hv:=z0o V N.P (A:=A) hx hkn a ro w hs
   simp only [SV.den] at hv
   cases ha:A[i]? with
   | none=>rw [ha] at hv; exact hv.elim
   | some q=>
    rw [ha] at hv
    have hv:a.eval x0 = .pointer (some ⟨q.1,off,none⟩):=hv
    simp only [execOp,hv,Sem.run_pure] at hr
    cases hr
    exact⟨rfl,_,rfl⟩
  ·cases h
 ·rename_i c
  obtain⟨callee,as,ts⟩:=c
  simp only at h
  split at h
  ·rename_i us hus
   rw [cond_eq_ite] at h
   split at h
   rotate_left
   ·cases h
   ·rename_i hb
    obtain⟨e1,e2⟩:=zhl (N:=N) (A:=A) hkn hus a ro w hs
    have hint:∀ y∈(as.map a.eval).toList,IntV y:=by
     intro y hy
     rw [Array.toList_map] at hy
     obtain⟨i,hi⟩:=List.getElem?_of_mem hy
     have hlt:=(List.getElem?_eq_some_iff.1 hi).1
     rw [w0u] at hlt
     have hu:i<us.length:=e1 ▸ hlt
     obtain⟨z,hz⟩:∃ z,us[i]? = some z:=⟨us[i],List.getElem?_eq_getElem hu⟩
     have hzi:=w04.1 hb z (List.mem_of_getElem? hz)
     have hden:∀(l:List (SV V.T)) (i:Nat),l[i]? = some z->(denV V N.P A l)[i]? = some (z.den V N.P A):=by
      intro l
      induction l with
      | nil=>intro i h; simp at h
      | cons u l ih=>intro i h; cases i with
       | zero=>simp at h; subst h; rfl
       | succ i=>simp at h; simpa [denV] using ih i h
     have:=e2 i _ (hden us i hz)
     rw [List.getD_eq_getElem?_getD,hi] at this
     cases z with
     | int k n=>exact⟨k,n,this⟩
     | _=>simp at hzi
    have hfold:∀ {f:Value->Value->Sem Value},(∀ k x j y,∃ v,IntV v/\f (.int k x) (.int j y)=Pure.pure v)->Pres (match (as.map a.eval).toList with
      | [] => Go.stuck "min: at least one argument expected"
      | x::rest=>rest.foldlM f x)/\Pres (match (as.map a.eval).toList with
      | [] => Go.stuck "max: at least one argument expected"
      | x::rest=>rest.foldlM f x):=by
     intro f hf
     cases hl :(as.map a.eval).toList with
     | nil=>exact⟨Pres.stuck,Pres.stuck⟩
     | cons x l=>
      rw [hl] at hint
      have:=Pres.fold hf l x (hint x (w0f ..)) fun y hy=>hint y (w08 _ hy)
      exact⟨this,this⟩
    split at h
    ·simp only at *
     simp only [execOp,Go.resolve,Sem.run_bind,Sem.run_pure,Result.andThen_ok] at hr
     exact(Pres.v (hfold (f:=Builtin.min2) fun k x j y=>⟨_,⟨_,_,rfl⟩,rfl⟩).1) _ _ _ _ hr
    ·simp only at *
     simp only [execOp,Go.resolve,Sem.run_bind,Sem.run_pure,Result.andThen_ok] at hr
     exact(Pres.v (hfold (f:=Builtin.max2) fun k x j y=>⟨_,⟨_,_,rfl⟩,rfl⟩).2) _ _ _ _ hr
    ·cases h
  ·cases h
 ·cases h
theorem zs1 {s:SS V.T} {o:Oper} (h:zj8 V s o=true):o.guard=none:=by
 unfold zj8 at h
 simp only [w02,w22] at h
 exact h.1
theorem y1n {s:SS V.T} {o:Oper} (h:zj8 V s o=true):∀ c,o.op≠.defer c:=by
 intro c e
 unfold zj8 at h
 rw [e] at h
 simp at h
theorem zxj [Dr] (hN:z5a V N) {acts:List GA} {ops:Array Oper} {K:SS V.T->Option R} {Q:Exit->Act->World->Prop} {w:World} (hK:∀ s a,K s=some r->SatS V C acts s a w->Q .normal a w) :
  ∀(os:List Oper) (s:SS V.T) (a:Act),zzq V N os s K=some r->SatS V C acts s a w->wpStill N.P ops w (fun a=>Q .normal a w) os a
 | [],s,a,h,hs=>hK s a h hs
 | o::os,s,a,h,hs=>by
  unfold zzq at h
  cases hst:zj8 V s o with
  | false=>rw [hst] at h; cases h
  | true=>
   rw [hst] at h
   simp only [cond_true] at h
   have hq:=(zhb (rd:=none) hN h (fun p hp=>by simp at hp) hs (next:=fun a' w'=>w'=w->wpStill N.P ops w (fun a=>Q .normal a w) os a') (Q:=fun _ _ _=>False) fun s2 v0 w' hk hs2 e=>by
    subst e
    exact zxj hN hK os s2 _ hk hs2).1 trivial
   obtain⟨_,hq⟩:=hq
   rw [Oper.semAt_eq _ _ _ (y1n hst)] at hq
   obtain⟨hd,hn,hkn,hgb,A,ro,S,hl,hw,hev,hsl,hstk⟩:=hs
   have hp:=fun x w'=>zyj (N:=N) (x:=x) (w':=w') hst hkn hsl
   unfold wpStill
   simp only [Region.wanted,zs1 hst,if_true]
   unfold Oper.still
   generalize (execOp a.eval o).run N.P w=res at hq hp
   cases res with
   | ok x w'=>
    obtain⟨e,v,rfl⟩:=hp x w' rfl
    subst e
    rw [Oper.stillUpon_value]
    exact hq rfl
   | halt x w'=>cases x <;> exact hq.elim
theorem zfn {rd:Option Nat} {P:Program} {md:Region.Mode} {ops:Array Oper} {Q:Exit->Act->World->Prop} (hQ:∀ a w,¬ Q .outgrown a w) (hnd:∀(i:Nat) o,ops[i]? = some o->∀ c,o.op≠.defer c):∀(fuel:Nat) (listed:Array Bool) (a:Act) (w:World),
  wpAny P md ops Q fuel listed a w->wpAnyIn (fz rd) 0 P md ops Q fuel listed a w
 | 0,_,_,_,h=>h
 | fuel+1,listed,a,w,h=>⟨h.1,fun i hi=>by
  have h1:=h.2 i hi
  unfold wpOp at h1
  unfold wpOpIn
  split
  ·rename_i ho
   rw [ho] at h1
   exact zfn hQ hnd fuel _ a w h1
  ·rename_i o ho
   rw [ho] at h1
   simp only at h1
   split
   ·rename_i hw
    rw [if_pos hw] at h1
    rcases h1 with h1 | h1
    ·exact Oper.wp_fz (hnd i o ho) (Oper.wp_mono (fun a' w'=>zfn hQ hnd fuel _ a' w') h1)
    ·obtain⟨_,a0,w0,h2⟩:=h1
     exact(hQ _ _ h2).elim
   ·rename_i hw
    rw [if_neg hw] at h1
    exact⟨fun _ _=>trivial,zfn hQ hnd fuel _ _ w h1⟩⟩
theorem SatS.drawn [Dr] {acts:List GA} {s:SS V.T} {a:Act} {w:World} (h:SatS V C acts s a w) (k:Nat) (hk:w.drawn<=k):SatS V C acts s a { w with drawn:=k }:=by
 obtain⟨hd,hn,hkn,hgb,A,ro,S,hl,hw,hev,hsl,hst⟩:=h
 have he:Evo C.base ro w ro { w with drawn:=k }:=⟨fun _ h=>h,fun _ _=>rfl,fun _ h=>.inl h⟩
 exact⟨hd,hn,hkn,hgb,A,ro,S,hl,hw.drawn k hk,hev.trans he,hsl.evo he,hst.ext (AExt.refl A) he⟩
theorem y5w [Dr] (hN:z5a V N) {rd:Option Nat} {id:Nat} {acts:List GA} {ops:Array Oper} {K:KX V R} {Q:Exit->Act->World->Prop} (hK:∀ e s a w,K e s=some r->SatS V C acts s a w->Q e a w) (hm:N.P.follows .mixedOrders=true) (hB:Region.lexB .any ops=true) (hk:ops.toList.all ya1=true)
  {s:SS V.T} {a:Act} {w:World} (h:zzq V N ops.toList s (fun s=>K .normal s)=some r) (hs:SatS V C acts s a w) :(Code.region id ops true).wpIn (fz rd) 0 N.P Q a w:=by
 refine wpIn_mono (Q:=fun e a w=>e = .normal/\Q .normal a w) (wpIn_region_any hm ?_) (by rintro e a w ⟨rfl,h⟩; exact h)
 refine zfn (fun a w h=>by cases h.1) (fun i o ho c e=>?_) _ _ _ _ (wpAny_of_still (Q:=fun a'=>Q .normal a' { w with drawn:=w.drawn+1 }) (fun a h=>⟨rfl,h⟩) _ _ _ ?_)
 ·have:=w04.1 hk o (List.mem_of_getElem? (by rw [Array.getElem?_toList]; exact ho))
  unfold ya1 at this
  rw [e] at this
  cases this
 ·simp only [Region.lexB,w02] at hB
  have h2:=zxj (ops:=ops) hN (w:={ w with drawn:=w.drawn+1 }) (Q:=Q) (fun s a h hs=>hK .normal s a _ h hs) ops.toList s a h (hs.drawn _ (Nat.le_succ _))
  have:=wpAnyS_lex (md:=.any) hB.1 ops.toList 0 (Array.replicate ops.size false) a (by simp) (by simpa using hB.2) h2
  simpa using this
end
end Px
end
section
namespace Px
open Go Go.RowKit
section
variable {V:TE} {N:Env V} {R:Type} {r:R} {C:Cx N.P}
theorem y7c {α:Type} {E:TypeId} {e:α->List VP} {sz:Nat} {l:List α} {sv v:Value} {hi:Nat} (he:∀ x,(e x).length=sz) {S r:Nat->Prop} {w:World} (h :(Px.row E e sz l sv).h S r w) (hv :(prtp sv 0 hi sz).h r w v) :(Px.row E e sz (z4e l 0 hi) v).h S r w:=by
 have e0:z4e l 0 hi=l.take hi:=by simp [z4e]
 rw [e0]
 rcases h with⟨rfl,rfl⟩ |⟨g,cap,cur,rfl,hS,hcur,hl,hm,hsz,hc⟩
 ·rcases hv with⟨_,_,_,rfl⟩ |⟨g,n,cap,a,hn,_⟩
  ·exact .inl ⟨rfl,by simp⟩
  ·cases hn
 ·rcases hv with⟨hn,_⟩ |⟨g2,n,cap2,a,hn,h1,h2,rfl,ha⟩
  ·cases hn
  ·simp only [Value.slice.injEq,w00,Addr.mk.injEq] at hn
   obtain⟨⟨rfl,_⟩,rfl,rfl⟩:=hn
   have hlen :(l.take hi).length=hi:=by rw [w11]; omega
   refine .inr ⟨g,cap,cur,?_,hS,hcur,by omega,hm,hsz,?_⟩
   ·rw [ha (.inr rfl),hlen]; simp
   ·rw [hlen]
    have e2 :(l.take hi).flatMap e =(l.flatMap e).take (hi*sz):=by
     conv=>rhs; rw [<- w1f hi l,w13]
     rw [List.take_left']
     rw [z17 he,hlen]
    have e3:cur.toList.take (hi*sz) =(cur.toList.take (l.length*sz)).take (hi*sz):=by
     rw [List.take_take,Nat.min_eq_left (w0p _ (by omega))]
    rw [e2,e3]
    exact hc.takeN _
theorem WInv.last [Dr] {w0 w:World} {base:Nat} {objs:List HP} {r:Nat->Prop} {S:Nat->Nat->Prop} (hw:WInv w0 base objs r S w) {i:Nat} (hi:i<objs.length) {H:HP} (hH:H.h (S i) r w) :
  WInv w0 base (objs.set i Px.emp++[H]) r (fun j b=>(j=objs.length/\S i b)\/(j≠i/\j<objs.length/\S j b)) w where
 below:=hw.below
 size:=hw.size
 obj:=by
  intro j X hj
  rw [List.getElem?_append] at hj
  simp only [w1o] at hj
  split at hj
  ·rename_i hlt
   rw [List.getElem?_set] at hj
   split at hj
   ·cases hj; trivial
   ·rename_i e
    have :(fun b=>(j=objs.length/\S i b)\/(j≠i/\j<objs.length/\S j b))=S j:=by
     funext b; exact propext ⟨fun h=>h.elim (fun q=>absurd q.1 (by omega)) fun q=>q.2.2,fun h=>.inr ⟨fun q=>e q.symm,hlt,h⟩⟩
    rw [this]; exact hw.obj j X hj
  ·rename_i hge
   have hj0:j=objs.length:=by
    have:=(List.getElem?_eq_some_iff.1 hj).1
    simp at this; omega
   subst hj0
   simp at hj; subst hj
   have :(fun b=>(objs.length=objs.length/\S i b)\/(objs.length≠i/\objs.length<objs.length/\S objs.length b))=S i:=by
    funext b; exact propext ⟨fun h=>h.elim (fun q=>q.2) fun q=>absurd q.2.1 (by omega),fun h=>.inl ⟨rfl,h⟩⟩
   rw [this]; exact hH
 own:=by
  rintro j b (⟨rfl,hb⟩ |⟨_,hlt,hb⟩)
  ·obtain⟨_,h2⟩:=hw.own i b hb
   exact⟨by simp,h2⟩
  ·obtain⟨h1,h2⟩:=hw.own j b hb
   exact⟨by simp; omega,h2⟩
 apart:=by
  rintro j k b (⟨rfl,hb⟩ |⟨n1,l1,hb⟩) (⟨rfl,hb'⟩ |⟨n2,l2,hb'⟩)
  ·rfl
  ·exact absurd (hw.apart i k b hb hb').symm n2
  ·exact absurd (hw.apart j i b hb hb') n1
  ·exact hw.apart j k b hb hb'
 old:=hw.old
theorem y9k [Dr] {C:Cx N.P} {acts:List GA} {s:SS V.T} {a:Act} {w:World} (t:Nat) (H:SatS V C acts s a w):SatS V C acts (cutX V s t) a w:=by
 unfold cutX
 split
 ·rename_i i hi z h1 h2
  split
  ·rename_i E c l ho
   cases hz:Nat.beq z (V.sz c) with
   | false=>exact H
   | true=>
    have ez:=w01 hz
    subst ez
    simp only [cond_true]
    obtain⟨hd,hsz,hch,hg,A,ro,S,hl,hw,he,hs,hst⟩:=H
    have li:=(List.getElem?_eq_some_iff.1 ho).1
    obtain⟨q,hq⟩:∃ q,A[i]? = some q:=⟨A[i],by simp [hl,li]⟩
    have hv:=hs t _ (by simp only [slD,h1]; rfl)
    simp only [denE,SV.den,hq] at hv
    have hrow:=y7c (V.ev_len c) (hw.obj i _ (zn V N.P hq ho)) hv
    have hlen:=za0 V N.P (A:=A) A s.ob hl
    have hw':=hw.last (i:=i) (by omega) hrow
    rw [hlen] at hw'
    obtain⟨v,hve⟩:∃ v,v=a.tmps.getD t undef:=⟨_,rfl⟩
    rw [<- hve] at hw'
    have hB :(A++[((0:Nat),v)])[s.ob.length]? = some (0,v):=by rw [<- hl]; simp
    have e4:obD V N.P A A (s.ob.set i .emp) =(obD V N.P A A s.ob).set i Px.emp:=by rw [z3l V N.P A s.ob i q _ hq]; rfl
    rw [<- e4] at hw'
    obtain⟨S2,hw2⟩:=z3e (P:=N.P) (A:=A) (B:=[(0,v)]) (ob:=s.ob.set i .emp) (by simpa using hl) (us:=[.row E c (z4e l 0 hi)]) (H:=[Px.row E (V.ev c) (V.sz c) (z4e l 0 hi) v]) ⟨EntH.refl,trivial⟩ _ _ _ _ _ hw'
    refine⟨hd,hsz,hch,⟨?_,?_,hg.kn⟩,A++[(0,v)],ro,S2,by simp [hl],?_,he,?_,Stk.ext (AExt.app A _) (Evo.refl C.base _ _) hst⟩
    ·intro u g hu ch y hy
     simp only [z05] at hy
     by_cases e:u=t
     ·subst e; simp only at hu; rw [h2] at hu; cases hu
     ·rw [if_neg e] at hy; exact hg.val u g hu ch y hy
    ·intro u ch y hy
     simp only [z05] at hy
     by_cases e:u=t
     ·rw [if_pos e] at hy; simp only [w00,w05] at hy; rw [<- hy.1]; intro p hp; cases hp
     ·rw [if_neg e] at hy; exact hg.ch u ch y hy
    ·exact hw2
    ·intro u X hX
     simp only [slD,z05] at hX
     by_cases e:u=t
     ·rw [if_pos e] at hX
      simp only [w0j,w00] at hX
      subst hX
      simp only [denE,SV.den,hB]
      rw [e,<- hve]; exact rfl
     ·rw [if_neg e] at hX
      exact zd1 V N.P (AExt.app A _) hs u X hX
  ·exact H
 ·exact H
theorem zun [Dr] (hN:z5a V N) {R':Type} {leaf:Option R->Option R'} {comb:List (Option R')->Option R'} {G:R'->Prop} (hcomb:zw1 leaf comb r G) {inl:Nat->Inl V R} {id:Nat} {ops:Array Oper} {K:KX V R} {Γ:List (Option (Nat×Nat))} {rd:Option Nat} (hinl:zt2 Γ C r inl ops inl K)
  {acts:List GA} (hΓ:acts.map GA.lpI=Γ) {Q:Exit->Act->World->Prop} (hK:∀ e s a w,K e s=some r->SatS V C acts s a w->Q e a w) (hm:N.P.follows .mixedOrders=true) {ls:List Nat} {L:R'} {s:SS V.T} {a:Act} {w:World}
  (h:altT V N leaf comb inl ops ls s K=some L) (hL:G L) (hs:SatS V C acts s a w) :(Code.region id ops true).wpIn (fz rd) 0 N.P Q a w:=by
 unfold altT ycb at h
 obtain⟨hd,hn,hkn,hgb,A,ro,S,hl,hw,hev,hsl,hst⟩:=hs
 generalize hbs :(s.sl.filter fun p=>!isDs (wrO V ops s) p.1||y3y ops.toList p.1)=bs at h
 have hlk:∀ {t:Nat} {x:Ch×SV V.T},lk bs t=some x->lk s.sl t=some x:=fun {t x} hx=>zb0 (fun k=>!isDs (wrO V ops s) k||y3y ops.toList k) (by rw [hbs]; exact hx)
 have hgb0:GbOK (⟨bs,s.gb,s.kn,s.n⟩:Fm V.T):=⟨fun t g hg ch z hz=>hgb.val t g hg ch z (hlk hz),fun t ch z hz=>hgb.ch t ch z (hlk hz),hgb.kn⟩
 have hbs':zf (slD V N.P A s.gb bs) a ro w:=by
  intro t X hX
  simp only [slD] at hX
  cases hb:lk bs t with
  | none=>rw [hb] at hX; cases hX
  | some e=>
   rw [hb] at hX
   exact hsl t X (by simp only [slD,hlk hb]; exact hX)
 have hreg:=y5v (rd:=rd) hN hcomb hΓ hinl (hK .normal) hev _ _ [] [] bs [] s A L h hL (AExt.refl A) hl hst ⟨fun e he=>absurd he w17,fun e he=>absurd he w17,fun e he=>absurd he w17,fun e he=>absurd he w17,fun e he=>absurd he w17⟩ hgb0 hkn (fun e he=>absurd he w17)
 exact y2p (C:={ C with n:=s.n,r0:=ro,wI:=w,rd:=rd,df:=a.defers }) hm hreg ⟨rfl,hn,ro,S,hw,Evo.refl _ _ _,hbs'⟩
theorem zuc [Dr] (hN:z5a V N) {inl:Nat->Inl V R} {id:Nat} {ops:Array Oper} {d:Bool} {K:KX V R} {Γ:List (Option (Nat×Nat))} {rd:Option Nat} (hinl:zt2 Γ C r inl ops inl K)
  {acts:List GA} (hΓ:acts.map GA.lpI=Γ) {Q:Exit->Act->World->Prop} (hK:∀ e s a w,K e s=some r->SatS V C acts s a w->Q e a w) {s:SS V.T} {a:Act} {w:World} (h:regX V N inl ops d s K=some r) (hs:SatS V C acts s a w) :(Code.region id ops d).wpIn (fz rd) 0 N.P Q a w:=by
 unfold regX at h
 cases d with
 | true=>
  simp only [cond_true] at h
  cases hm:N.P.follows .mixedOrders with
  | false=>rw [hm] at h; cases h
  | true=>
   rw [hm] at h
   simp only [cond_true] at h
   cases hst:zzt V ops s with
   | true=>
    rw [hst] at h
    simp only [zzt,w02] at hst
    exact y5w hN hK hm hst.2 hst.1.1 h hs
   | false=>
   rw [hst] at h
   simp only [cond_false] at h
   split at h
   ·split at h
    ·exact yax hN (K:=fun s=>K .normal s) (hK .normal) hm h hs
    ·exact zun hN zw8 hinl hΓ hK hm h rfl hs
   ·exact zun hN zw8 hinl hΓ hK hm h rfl hs
 | false=>
  simp only [cond_false] at h
  refine wpIn_region ?_
  have:=zh6 (rd:=rd) hN hΓ hinl (hK .normal) ops.toList 0 s a w rfl h hs
  rw [<- w24] at this
  simpa using this
theorem zq1 [Dr] {acts:List GA} {Q:Exit->Act->World->Prop} {n:SS V.T->Option R} {K:KX V R} {W:Act->World->Prop} (hn:∀ s a w,n s=some r->SatS V C acts s a w->W a w) (hK:∀ e s a w,K e s=some r->SatS V C acts s a w->Q e a w) :
  ∀ e s a w,seqK V n K e s=some r->SatS V C acts s a w->Exit.then W Q e a w:=by
 intro e s a w h hs
 cases e with
 | normal=>exact hn s a w h hs
 | _=>exact hK _ s a w h hs
theorem zzj [Dr] {acts:List GA} {Q:Exit->Act->World->Prop} {id:Nat} {K:KX V R} (hK:∀ e s a w,K e s=some r->SatS V C acts s a w->Q e a w) :
  ∀ e s a w,blkK V id K e s=some r->SatS V C acts s a w->Exit.inBlock id Q e a w:=by
 intro e s a w h hs
 cases e with
 | exit i=>
  simp only [blkK] at h
  simp only [Exit.inBlock]
  by_cases e:i=id
  ·subst e
   rw [w1t] at h
   rw [if_pos rfl]
   exact hK .normal s a w h hs
  ·rw [zo3 e] at h
   rw [if_neg e]
   exact hK _ s a w h hs
 | _=>exact hK _ s a w h hs
theorem y7s [Dr] {acts:List GA} {Q:Exit->Act->World->Prop} {K:KX V R} (hK:∀ e s a w,K e s=some r->SatS V C acts s a w->Q e a w) :
  ∀ e s a w,ngK V K e s=some r->SatS V C acts s a w->Exit.noGoto Q e a w:=by
 intro e s a w h hs
 cases e with
 | goto l=>cases h
 | _=>exact hK _ s a w h hs
theorem zw5 [Dr] {acts:List GA} {rd:Option Nat} {Q:Exit->Act->World->Prop} {o:Operand} {c d:Code} {x y:Option R} {s:SS V.T} {a:Act} {w:World} (h:y5b V s o x y=some r) (hs:SatS V C acts s a w) (hx:x=some r->c.wpIn (fz rd) 0 N.P Q a w) (hy:y=some r->d.wpIn (fz rd) 0 N.P Q a w) :(Code.cond o c d).wpIn (fz rd) 0 N.P Q a w:=by
 unfold y5b at h
 split at h
 ·rename_i b hb
  obtain⟨_,_,hkn,hgb,A,ro,S,hl,hw,hev,hsl,hst⟩:=hs
  have he:=z0o V N.P (A:=A) (zaa hb) trivial a ro w hsl
  simp only [SV.den] at he
  refine wpIn_cond_split he (fun e=>hx ?_) (fun e=>hy ?_)
  ·subst e; simpa using h
  ·subst e; simpa using h
 ·cases h
theorem zu5 {rd:Option Nat} {x y:Code} (h:rd=none\/noRF (.seq x y)=true) :(rd=none\/noRF x=true)/\(rd=none\/noRF y=true):=by
 rcases h with h | h
 ·exact⟨.inl h,.inl h⟩
 ·have h :(noRF x&&noRF y)=true:=h
  simp only [w02] at h
  exact⟨.inr h.1,.inr h.2⟩
theorem zvj {rd:Option Nat} {o:Operand} {x y:Code} (h:rd=none\/noRF (.cond o x y)=true) :(rd=none\/noRF x=true)/\(rd=none\/noRF y=true):=zu5 (x:=x) (y:=y) h
theorem zpa [Dr] (hN:z5a V N) {dfl:Inl V R} (hd:∀ Γ f fn c K,N.P.funcs[f]? = some fn->fn.body=some c->zjo Γ C r (dfl f) c K) (hy:∀ Γ k,YOK Γ C r dfl k):∀(c:Code) (Γ:List (Option (Nat×Nat))) (K:KX V R),zjo Γ C r (znl V N dfl) c K:=by
 intro c
 induction c with
 | skip=>exact fun Γ K rd acts Q hΓ hrd hK s a w h hs=>wpIn_skip (hK _ s a w h hs)
 | label l=>exact fun Γ K rd acts Q hΓ hrd hK s a w h hs=>wpIn_label (hK _ s a w h hs)
 | region id ops d=>exact fun Γ K rd acts Q hΓ hrd hK s a w h hs=>zuc hN ⟨fun i f fn c h1 h2=>hd _ f fn c _ h1 h2,fun i=>hy _ _⟩ hΓ hK h hs
 | seq x y hx hy=>
  intro Γ K rd acts Q hΓ hrd hK s a w h hs
  obtain⟨r1,r2⟩:=zu5 hrd
  exact wpIn_seq (hx Γ _ rd acts _ hΓ r1 (zq1 (fun s a w h hs=>hy Γ K rd acts Q hΓ r2 hK s a w h hs) hK) s a w h hs)
 | cond o x y hx hy=>
  intro Γ K rd acts Q hΓ hrd hK s a w h hs
  obtain⟨r1,r2⟩:=zvj hrd
  exact zw5 h hs (fun h=>hx Γ K rd acts Q hΓ r1 hK s a w h hs) (fun h=>hy Γ K rd acts Q hΓ r2 hK s a w h hs)
 | block id c hc=>
  intro Γ K rd acts Q hΓ hrd hK s a w h hs
  exact wpIn_block (hc Γ _ rd acts _ hΓ hrd (zzj hK) s a w h hs)
 | scope c hc=>
  intro Γ K rd acts Q hΓ hrd hK s a w h hs
  exact znw (hc Γ _ rd acts _ hΓ hrd (y7s hK) s a w h hs)
 | exit id=>exact fun Γ K rd acts Q hΓ hrd hK s a w h hs=>wpIn_exit (hK _ s a w h hs)
 | ret=>exact fun Γ K rd acts Q hΓ hrd hK s a w h hs=>wpIn_ret (hK _ s a w h hs)
 | _=>exact fun Γ K rd acts Q hΓ hrd hK s a w h hs=>by cases h
theorem zkm [Dr]:∀(n:Nat) (Γ:List (Option (Nat×Nat))) (k:SV V.T->SS V.T->Option R),YOK Γ C r (dflN V N n) k
 | 0,Γ,k=>fun rd acts hΓ s vs a w A ro S h=>by cases h
 | n+1,Γ,k=>fun rd acts hΓ s vs a w A ro S h=>by cases h
theorem zr4 [Dr] (hN:z5a V N):∀(n:Nat) (Γ:List (Option (Nat×Nat))) (f:Nat) (c:Code) (K:KX V R),zjo Γ C r (dflN V N n f) c K
 | 0,Γ,f,c,K=>fun rd acts Q hΓ hrd hK s a w h hs=>by cases h
 | n+1,Γ,f,c,K=>zpa hN (fun Γ f fn c K _ _=>zr4 hN n Γ f c K) (fun Γ k=>zkm n Γ k) c Γ K
theorem z7w [Dr] (hN:z5a V N) (Γ:List (Option (Nat×Nat))) {ops:Array Oper} {full:Nat->Inl V R} {K:KX V R} : zt2 Γ C r (fun _=>Dfl V N R) ops full K:=
 ⟨fun i f fn c _ _=>zr4 hN 8 _ f c _,fun i=>zkm 8 _ _⟩
theorem zcg {α:Type} {x:Option α} {k:α->Option R} (h:zpr x k=some r):∃ z,x=some z/\k z=some r:=by
 cases x with
 | none=>cases h
 | some z=>exact⟨z,rfl,h⟩
theorem y1l {s:SS V.T} {t:Nat} {x:Ch×SV V.T} (h:lk (clrG V s).sl t=some x):lk s.sl t=some x/\x.1 = []:=by
 have h1:=zb0 (fun k=>zbp s.sl k) h
 refine⟨h1,?_⟩
 have:=(w0n.1 (zem h)).2
 simp only [zbp,h1] at this
 obtain⟨ch,v⟩:=x
 cases ch with
 | nil=>rfl
 | cons _ _=>cases this
theorem ybo [Dr] {acts:List GA} {s:SS V.T} {a:Act} {w:World} (hs:SatS V C acts s a w):SatS V C acts (clrG V s) a w:=by
 obtain⟨hd,hn,hkn,hgb,A,ro,S,hl,hw,hev,hsl,hst⟩:=hs
 refine⟨hd,hn,trivial,⟨fun t g h=>by simp [clrG,lk] at h,fun t ch z hz p hp=>?_,fun p hp=>by simp [clrG] at hp⟩,A,ro,S,hl,hw,hev,?_,hst⟩
 ·have:=(y1l hz).2
  simp only at this
  subst this; cases hp
 ·intro t X hX
  simp only [slD] at hX
  cases hz:lk (clrG V s).sl t with
  | none=>rw [hz] at hX; cases hX
  | some e=>
   rw [hz] at hX
   obtain⟨h1,h2⟩:=y1l hz
   obtain⟨ch,v⟩:=e
   simp only at h2
   subst h2
   refine hsl t X ?_
   simp only [slD,h1]
   exact hX
theorem y90 [Dr] {acts:List GA} {dst:Option Tmp} {x:Operand} {ty:TypeId} {pos:String} {aft:Array Edge} {s:SS V.T} {j kc vc:Nat} {rem:List (V.T kc×V.T vc)} {cur:Option (V.T kc×V.T vc)} {k:SS V.T->Option R}
  (hx:evO s.sl s.kn x=some (.own j)) (hob:s.ob[j]? = some (.x (.it kc vc rem cur))) (hkey:rem≠[]->V.key kc=true) (h0:rem = []->after V s dst ([],.tup [.bool false]) k=some r)
  (h1:∀ e rem',rem.Perm (e::rem')->after V (updO V s j (.x (.it kc vc rem' (some e)))) dst ([],.tup [.bool true,V.encV kc e.1,V.encV vc e.2]) k=some r) {a:Act} {w:World} (hs:SatS V C acts s a w) {rd:Option Nat} {next:Act->World->Prop} {Q:Exit->Act->World->Prop}
  (hk:∀ s2 v0 w',k s2=some r->SatS V C acts s2 (a.put dst v0) w'->next (a.put dst v0) w') :(⟨dst,.next x false,ty,pos,aft,none⟩:Oper).wpIn (fz rd) 0 N.P a w next Q:=by
 obtain⟨hd,hn,hkn,hgb,A,ro,S,hl,hw,hev,hsl,hst⟩:=hs
 have hx':=z0o V N.P (A:=A) hx hkn
 simp only [SV.den] at hx'
 have hjl:=(List.getElem?_eq_some_iff.1 hob).1
 obtain⟨q,ha⟩:∃ q,A[j]? = some q:=⟨_,List.getElem?_eq_getElem (hl ▸ hjl)⟩
 rw [ha] at hx'
 have hdn:=zn V N.P (A:=A) (ps:=A) ha hob
 have hq:q.2 = .pointer (some ⟨q.1,0,none⟩):=(hw.obj j _ hdn).1
 have hlt:j <(s.st V N.P A).objs.length:=(List.getElem?_eq_some_iff.1 hdn).1
 have hOp:OpT (P:=N.P) { C with n:=s.n,df:=a.defers } (⟨dst,.next x false,ty,pos,aft,none⟩:Oper) (s.st V N.P A) (LOK V N.P r A s fun v s=>after V s dst ([],v) k):=by
  refine OpT.weak (s':=⟨(s.st V N.P A).slots,(s.st V N.P A).objs.set j (itr q.1 (V.kl kc) (V.kv kc) (fun y=>V.vl vc y) rem cur)⟩) (fun _ _ _ h=>h) (ObW.set' hdn fun S r w h=>h.2) ?_
  have hX:∀ k,Ent (eqv (V.kv kc k)) (if V.key kc=true then V.vl kc k else eqv (V.kv kc k)):=fun k=>by
   split
   ·rename_i hk; exact(y0x hk k).2
   ·exact Ent.refl
  refine yau (s:=⟨(s.st V N.P A).slots,(s.st V N.P A).objs.set j (itr q.1 (V.kl kc) (V.kv kc) (fun y=>V.vl vc y) rem cur)⟩) hX j (by rw [List.getElem?_set_self hlt]) (show Ev (s.st V N.P A) x (eqv (.pointer (some ⟨q.1,0,none⟩))) by rw [<- hq]; exact hx') ?_ ?_
  ·intro hr
   refine⟨[],s.ob,_,h0 hr,by simp [hl],by rw [w06]; exact Ent.refl,?_⟩
   rw [w06]
   have :(s.st V N.P A).objs.set j (itr q.1 (V.kl kc) (V.kv kc) (fun y=>V.vl vc y) rem cur) =(s.st V N.P A).objs.set j (itr q.1 (V.kl kc) (V.kv kc) (fun y=>V.vl vc y) rem cur):=rfl
   refine ObW.trans (ObW.set' (H2:=(SO.x (.it kc vc rem cur):SO V.T).den V N.P A q) (i:=j) (by rw [List.getElem?_set_self hlt]) fun S r w h=>⟨hq,h⟩) ?_
   rw [w2i]
   have e1 :(s.st V N.P A).objs.set j ((SO.x (.it kc vc rem cur):SO V.T).den V N.P A q)=obD V N.P A A s.ob:=by
    rw [show (s.st V N.P A).objs=obD V N.P A A s.ob from rfl,<- z3l V N.P A s.ob j q _ ha,setSame hob]
   rw [e1]
   exact ObW.refl
  ·intro k0 y rem' hp
   have hne:rem≠[]:=fun e=>by subst e; exact absurd hp.length_eq (by simp)
   have hkey:=hkey hne
   refine⟨[],s.ob.set j (.x (.it kc vc rem' (some (k0,y)))),_,h1 (k0,y) rem' hp,by simp [hl],?_,?_⟩
   ·rw [w06]
    simp only [SV.den,denV,z38,hkey,if_true]
    exact Ent.refl
   ·rw [w06,w2i,z3l V N.P A s.ob j q _ ha]
    exact ObW.le (zfl (show EntH (itr q.1 (V.kl kc) (V.kv kc) (fun y=>V.vl vc y) rem' (some (k0,y))) ((SO.x (.it kc vc rem' (some (k0,y))):SO V.T).den V N.P A q) from fun S r w h=>⟨hq,h⟩) _ _)
 refine Oper.wpIn_mono ?_ (OpT.fz hOp a w ro S Q rfl hn hw hsl)
 rintro a' w' ⟨v0,ro',S',x,objs',rfl,hev',hw',hx,B,ob',v,hkv,hlen,hent,hobw⟩
 obtain⟨S2,hw2⟩:=hobw _ _ _ _ _ hw'
 change after V { s with ob:=ob' } dst ([],v) k=some r at hkv
 unfold after at hkv
 split at hkv
 ·rename_i s2 hset
  exact hk s2 v0 w' hkv (zlg (e:=([],v)) hset (fun p hp=>by simp at hp) hd hn hkn hgb hlen hw2 hev hev' hsl hst (hent _ _ _ hx))
 ·cases hkv
 where setSame:∀ {l:List (SO V.T)} {i:Nat} {H:SO V.T},l[i]? = some H->l.set i H=l
 | _::_,0,_,h=>by simp at h; subst h; rfl
 | _::l,i+1,_,h=>by simp only [List.set_cons_succ]; rw [setSame (by simpa using h)]
 | [],_,_,h=>by simp at h
mutual
theorem yco:∀(l:LC) {ρ:Type} (P:ρ->ρ->Prop) (z:LC.Z V.T l ρ) (r2:ρ),P (enV V l z).2 r2->∃ z2,LC.eqZ V.T l P z z2/\enV V l z2 =((enV V l z).1,r2)
 | .val c,_,P,z,r2,h=>⟨(z.1,r2),⟨rfl,h⟩,rfl⟩
 | .cmp c,_,P,z,r2,h=>⟨(z.1,r2),⟨rfl,h⟩,rfl⟩
 | .rop c,_,P,z,r2,h=>⟨(z.1,r2),⟨rfl,h⟩,rfl⟩
 | .rom kc vc,_,P,z,r2,h=>⟨(z.1,r2),⟨rfl,h⟩,rfl⟩
 | .own j,_,P,z,r2,h=>⟨r2,h,rfl⟩
 | .ptr j o,_,P,z,r2,h=>⟨r2,h,rfl⟩
 | .nil,_,P,z,r2,h=>⟨r2,h,rfl⟩
 | .raw v,_,P,z,r2,h=>⟨r2,h,rfl⟩
 | .agg ls,_,P,z,r2,h=>by
  obtain⟨z2,h1,h2⟩:=zhm ls P z r2 h
  refine⟨z2,h1,?_⟩
  show (SV.agg (enL V ls z2).1,(enL V ls z2).2)=_
  rw [h2]; rfl
 | .func f ls,_,P,z,r2,h=>by
  obtain⟨z2,h1,h2⟩:=yae ls P z r2 h
  refine⟨z2,h1,?_⟩
  show (SV.func f (enW V ls z2).1,(enW V ls z2).2)=_
  rw [h2]; rfl
theorem zhm:∀(ls:List LC) {ρ:Type} (P:ρ->ρ->Prop) (z:Zl V.T ls ρ) (r2:ρ),P (enL V ls z).2 r2->∃ z2,eqZl V.T ls P z z2/\enL V ls z2 =((enL V ls z).1,r2)
 | [],_,P,z,r2,h=>⟨r2,h,rfl⟩
 | .val c::ls,_,P,z,r2,h=>by
  obtain⟨z2,h1,h2⟩:=zhm ls P z.2 r2 h
  refine⟨(z.1,z2),⟨rfl,h1⟩,?_⟩
  show (V.enc c z.1++(enL V ls z2).1,(enL V ls z2).2)=_
  rw [h2]; rfl
 | .cmp c::ls,_,P,z,r2,h=>by
  obtain⟨z2,h1,h2⟩:=zhm ls P z.2 r2 h
  exact⟨(z.1,z2),⟨rfl,h1⟩,by show (_::(enL V ls z2).1,(enL V ls z2).2)=_; rw [h2]; rfl⟩
 | .rop c::ls,_,P,z,r2,h=>by
  obtain⟨z2,h1,h2⟩:=zhm ls P z.2 r2 h
  exact⟨(z.1,z2),⟨rfl,h1⟩,by show (_::(enL V ls z2).1,(enL V ls z2).2)=_; rw [h2]; rfl⟩
 | .rom kc vc::ls,_,P,z,r2,h=>by
  obtain⟨z2,h1,h2⟩:=zhm ls P z.2 r2 h
  exact⟨(z.1,z2),⟨rfl,h1⟩,by show (_::(enL V ls z2).1,(enL V ls z2).2)=_; rw [h2]; rfl⟩
 | .own j::ls,_,P,z,r2,h=>by
  obtain⟨z2,h1,h2⟩:=zhm ls P z r2 h
  exact⟨z2,h1,by show (_::(enL V ls z2).1,(enL V ls z2).2)=_; rw [h2]; rfl⟩
 | .ptr j o::ls,_,P,z,r2,h=>by
  obtain⟨z2,h1,h2⟩:=zhm ls P z r2 h
  exact⟨z2,h1,by show (_::(enL V ls z2).1,(enL V ls z2).2)=_; rw [h2]; rfl⟩
 | .nil::ls,_,P,z,r2,h=>by
  obtain⟨z2,h1,h2⟩:=zhm ls P z r2 h
  exact⟨z2,h1,by show (_::(enL V ls z2).1,(enL V ls z2).2)=_; rw [h2]; rfl⟩
 | .raw v::ls,_,P,z,r2,h=>by
  obtain⟨z2,h1,h2⟩:=zhm ls P z r2 h
  exact⟨z2,h1,by show (_::(enL V ls z2).1,(enL V ls z2).2)=_; rw [h2]; rfl⟩
 | .agg ks::ls,_,P,z,r2,h=>by
  obtain⟨y2,g1,g2⟩:=zhm ls P (enL V ks z).2 r2 h
  obtain⟨z2,h1,h2⟩:=zhm ks (eqZl V.T ls P) z y2 g1
  refine⟨z2,h1,?_⟩
  show (SV.agg (enL V ks z2).1::(enL V ls (enL V ks z2).2).1,(enL V ls (enL V ks z2).2).2)=_
  rw [h2]
  show (SV.agg (enL V ks z).1::(enL V ls y2).1,(enL V ls y2).2)=_
  rw [g2]; rfl
 | .func f ks::ls,_,P,z,r2,h=>by
  obtain⟨y2,g1,g2⟩:=zhm ls P (enW V ks z).2 r2 h
  obtain⟨z2,h1,h2⟩:=yae ks (eqZl V.T ls P) z y2 g1
  refine⟨z2,h1,?_⟩
  show (SV.func f (enW V ks z2).1::(enL V ls (enW V ks z2).2).1,(enL V ls (enW V ks z2).2).2)=_
  rw [h2]
  show (SV.func f (enW V ks z).1::(enL V ls y2).1,(enL V ls y2).2)=_
  rw [g2]; rfl
theorem yae:∀(ls:List LC) {ρ:Type} (P:ρ->ρ->Prop) (z:Zl V.T ls ρ) (r2:ρ),P (enW V ls z).2 r2->∃ z2,eqZl V.T ls P z z2/\enW V ls z2 =((enW V ls z).1,r2)
 | [],_,P,z,r2,h=>⟨r2,h,rfl⟩
 | l::ls,_,P,z,r2,h=>by
  obtain⟨y2,g1,g2⟩:=yae ls P (enV V l z).2 r2 h
  obtain⟨z2,h1,h2⟩:=yco l (eqZl V.T ls P) z y2 g1
  refine⟨z2,h1,?_⟩
  show ((enV V l z2).1::(enW V ls (enV V l z2).2).1,(enW V ls (enV V l z2).2).2)=_
  rw [h2]
  show ((enV V l z).1::(enW V ls y2).1,(enW V ls y2).2)=_
  rw [g2]; rfl
end
theorem yct [Dr]:∀(ls:List (Nat×LC)) {ρ:Type} (P:ρ->ρ->Prop) (z:Zs V.T ls ρ) (r2:ρ),P (enS V ls z).2 r2->∃ z2,eqZs V.T ls P z z2/\enS V ls z2 =((enS V ls z).1,r2)
 | [],_,P,z,r2,h=>⟨r2,h,rfl⟩
 |(t,l)::ls,_,P,z,r2,h=>by
  obtain⟨y2,g1,g2⟩:=yct ls P (enV V l z).2 r2 h
  obtain⟨z2,h1,h2⟩:=yco l (eqZs V.T ls P) z y2 g1
  refine⟨z2,h1,?_⟩
  show ((t,[],(enV V l z2).1)::(enS V ls (enV V l z2).2).1,(enS V ls (enV V l z2).2).2)=_
  rw [h2]
  show ((t,[],(enV V l z).1)::(enS V ls y2).1,(enS V ls y2).2)=_
  rw [g2]; rfl
theorem ydp [Dr]:∀(ls:List (Nat×List (Nat×LC))) {ρ:Type} (P:ρ->ρ->Prop) (z:Zf V.T ls ρ) (r2:ρ),P (enF V ls z).2 r2->∃ z2,eqZf V.T ls P z z2/\enF V ls z2 =((enF V ls z).1,r2)
 | [],_,P,z,r2,h=>⟨r2,h,rfl⟩
 |(n,l)::ls,_,P,z,r2,h=>by
  obtain⟨y2,g1,g2⟩:=ydp ls P (enS V l z).2 r2 h
  obtain⟨z2,h1,h2⟩:=yct l (eqZf V.T ls P) z y2 g1
  refine⟨z2,h1,?_⟩
  show (⟨(enS V l z2).1,[],[],n⟩::(enF V ls (enS V l z2).2).1,(enF V ls (enS V l z2).2).2)=_
  rw [h2]
  show (⟨(enS V l z).1,[],[],n⟩::(enF V ls y2).1,(enF V ls y2).2)=_
  rw [g2]; rfl
mutual
theorem y70:∀(l:LC) {ρ:Type} (P:ρ->ρ->Prop),(∀ z,P z z)->∀ z,LC.eqZ V.T l P z z
 | .val c,_,P,h,z=>⟨rfl,h _⟩
 | .cmp c,_,P,h,z=>⟨rfl,h _⟩
 | .rop c,_,P,h,z=>⟨rfl,h _⟩
 | .rom kc vc,_,P,h,z=>⟨rfl,h _⟩
 | .own j,_,P,h,z=>h z
 | .ptr j o,_,P,h,z=>h z
 | .nil,_,P,h,z=>h z
 | .raw v,_,P,h,z=>h z
 | .agg ls,_,P,h,z=>zgv ls P h z
 | .func f ls,_,P,h,z=>zgv ls P h z
theorem zgv:∀(ls:List LC) {ρ:Type} (P:ρ->ρ->Prop),(∀ z,P z z)->∀ z,eqZl V.T ls P z z
 | [],_,P,h,z=>h z
 | l::ls,_,P,h,z=>y70 l (eqZl V.T ls P) (zgv ls P h) z
end
theorem z7b [Dr]:∀(os:List OC) (z:Zo V.T os),eqZo V.T os z z
 | [],_=>trivial
 | .box t ls::os,z=>zgv ls (eqZo V.T os) (z7b os) z
 | .row _ _::os,z=>⟨rfl,z7b os z.2⟩
 | .map _ _ _::os,z=>⟨rfl,z7b os z.2⟩
 | .it _ _::os,z=>⟨List.Perm.refl _,z7b os z.2⟩
 | .nst _ _ _ none::os,z=>⟨rfl,z7b os z.2⟩
 | .nst _ _ _ (some _)::os,z=>⟨rfl,rfl,z7b os z.2.2⟩
 | .fix _ _::os,z=>⟨rfl,z7b os z.2⟩
 | .emp::os,z=>z7b os z
theorem zoz [Dr]:∀(os:List OC) (z:Zo V.T os) {j kc vc:Nat} {rem rem2:List (V.T kc×V.T vc)} {cur:Option (V.T kc×V.T vc)},(enO V os z)[j]? = some (.x (.it kc vc rem cur))->rem.Perm rem2->
  ∃ z2,eqZo V.T os z z2/\enO V os z2 =(enO V os z).set j (.x (.it kc vc rem2 none))
 | [],z,j,kc,vc,rem,rem2,cur,h,hp=>by simp [enO] at h
 | .it kc' vc'::os,z,0,kc,vc,rem,rem2,cur,h,hp=>by
  have e :(SO.x (.it kc' vc' z.1 none):SO V.T) = .x (.it kc vc rem cur):=w07 h
  cases e
  exact⟨(rem2,z.2),⟨hp,z7b os z.2⟩,rfl⟩
 | .it kc' vc'::os,z,j+1,kc,vc,rem,rem2,cur,h,hp=>by
  obtain⟨z2,h1,h2⟩:=zoz os z.2 (j:=j) h hp
  exact⟨(z.1,z2),⟨List.Perm.refl _,h1⟩,by show _::enO V os z2=_; rw [h2]; rfl⟩
 | .emp::os,z,j+1,kc,vc,rem,rem2,cur,h,hp=>by
  obtain⟨z2,h1,h2⟩:=zoz os z (j:=j) h hp
  exact⟨z2,h1,by show _::enO V os z2=_; rw [h2]; rfl⟩
 | .row E c::os,z,j+1,kc,vc,rem,rem2,cur,h,hp=>by
  obtain⟨z2,h1,h2⟩:=zoz os z.2 (j:=j) h hp
  exact⟨(z.1,z2),⟨rfl,h1⟩,by show _::enO V os z2=_; rw [h2]; rfl⟩
 | .map _ _ _::os,z,j+1,kc,vc,rem,rem2,cur,h,hp=>by
  obtain⟨z2,h1,h2⟩:=zoz os z.2 (j:=j) h hp
  exact⟨(z.1,z2),⟨rfl,h1⟩,by show _::enO V os z2=_; rw [h2]; rfl⟩
 | .fix E c::os,z,j+1,kc,vc,rem,rem2,cur,h,hp=>by
  obtain⟨z2,h1,h2⟩:=zoz os z.2 (j:=j) h hp
  exact⟨(z.1,z2),⟨rfl,h1⟩,by show _::enO V os z2=_; rw [h2]; rfl⟩
 | .nst _ _ _ none::os,z,j+1,kc,vc,rem,rem2,cur,h,hp=>by
  obtain⟨z2,h1,h2⟩:=zoz os z.2 (j:=j) h hp
  exact⟨(z.1,z2),⟨rfl,h1⟩,by show _::enO V os z2=_; rw [h2]; rfl⟩
 | .nst _ _ _ (some _)::os,z,j+1,kc,vc,rem,rem2,cur,h,hp=>by
  obtain⟨z2,h1,h2⟩:=zoz os z.2.2 (j:=j) h hp
  exact⟨(z.1,z.2.1,z2),⟨rfl,rfl,h1⟩,by show _::enO V os z2=_; rw [h2]; rfl⟩
 | .box t ls::os,z,j+1,kc,vc,rem,rem2,cur,h,hp=>by
  obtain⟨y2,g1,g2⟩:=zoz os (enL V ls z).2 (j:=j) h hp
  obtain⟨z2,h1,h2⟩:=zhm ls (eqZo V.T os) z y2 g1
  refine⟨z2,h1,?_⟩
  show .box t (enL V ls z2).1::enO V os (enL V ls z2).2=_
  rw [h2,show enO V os ((enL V ls z).1,y2).2=enO V os y2 from rfl,g2]
  rfl
 | .emp::os,z,0,kc,vc,rem,rem2,cur,h,hp=>by cases (w07 h :(SO.emp:SO V.T)=_)
 | .row E c::os,z,0,kc,vc,rem,rem2,cur,h,hp=>by cases (w07 h :(SO.row E c z.1:SO V.T)=_)
 | .map _ _ _::os,z,0,kc,vc,rem,rem2,cur,h,hp=>by cases (w07 h :(SO.x (.map _ _ _ z.1 none):SO V.T)=_)
 | .fix E c::os,z,0,kc,vc,rem,rem2,cur,h,hp=>by cases (w07 h :(SO.x (.fix E c z.1):SO V.T)=_)
 | .nst E E2 c none::os,z,0,kc,vc,rem,rem2,cur,h,hp=>by cases (w07 h :(SO.x (.nst E E2 c z.1 none):SO V.T)=_)
 | .nst E E2 c (some q)::os,z,0,kc,vc,rem,rem2,cur,h,hp=>by cases (w07 h :(SO.x (.nst E E2 c z.1 (some (z.2.1,q))):SO V.T)=_)
 | .box t ls::os,z,0,kc,vc,rem,rem2,cur,h,hp=>by cases (w07 h :(SO.box t (enL V ls z).1:SO V.T)=_)
theorem y8o {fs:List (Fm V.T)} {os:List (SO V.T)} :(mkS V fs os).ob=os:=by cases fs <;> rfl
theorem yaf [Dr] {acts:List GA} {s:SS V.T} {a:Act} {w:World} (h:SatS V C acts s a w):∀ o∈s.ob,okO V o:=by
 obtain⟨hd,hn,hkn,hgb,A,ro,S,hl,hw,hev,hsl,hst⟩:=h
 intro o ho
 obtain⟨i,hi⟩:=List.getElem?_of_mem ho
 have hlt:=(List.getElem?_eq_some_iff.1 hi).1
 obtain⟨q,hq⟩:∃ q,A[i]? = some q:=⟨A[i],by simp [hl,hlt]⟩
 have hd:=hw.obj i _ (zn V N.P (A:=A) (ps:=A) hq hi)
 unfold okO
 split
 ·obtain⟨_,t,Sk,hm,_,hc,_⟩:=hd
  rw [<- hm]
  exact List.pairwise_map.2 hc.1
 ·exact hd.2.2.1
 ·trivial
theorem ydn [Dr] (hN:z5a V N) {h:Sh} {z:h.Z V.T} {ops:Array Oper} {K:KX V R} {acts:List GA} {Q:Exit->Act->World->Prop} (hz:∀ z',h.eqZ V.T z z'->pkX V N ops (h.enc V z') K=some r) (h0:pkX V N ops (h.enc V z) K=some r)
  (hK:∀ e s a w,K e s=some r->SatS V C acts s a w->Q e a w) {Γ:List (Option (Nat×Nat))} (hΓ:acts.map GA.lpI=Γ) {rd:Option Nat} {id:Nat} {a:Act} {w:World} (hs:SatS V C acts (h.enc V z) a w) :(Code.region id ops false).wpIn (fz rd) 0 N.P Q a w:=by
 refine wpIn_region ?_
 have hrun:∀(os:List Oper) (s:SS V.T) (a:Act) (w:World),os=ops.toList.drop 1->z4v V N (fun _=>Dfl V N R) ops.toList 1 os s (fun s=>K .normal s)=some r->SatS V C acts s a w->wpOpsIn (fz rd) 0 N.P ops Q (List.range' 1 os.length) a w:=
  fun os s a w ho h hs=>zh6 hN hΓ (z7w hN Γ) (hK .normal) os 1 s a w ho h hs
 have h0':=h0
 unfold pkX at h0
 cases hl:ops.toList with
 | nil=>rw [hl] at h0; cases h0
 | cons o os=>
  obtain⟨dst,op,ty,pos,aft,guard⟩:=o
  have ho:ops[0]? = some ⟨dst,op,ty,pos,aft,guard⟩:=by
   have:ops.toList[0]? = some ⟨dst,op,ty,pos,aft,guard⟩:=by rw [hl]; rfl
   simpa using this
  have hsz:ops.size=os.length+1:=by have:=congrArg List.length hl; simpa using this
  have hos:os=ops.toList.drop 1:=by rw [hl]; rfl
  rw [hl] at h0
  simp only at h0
  split at h0
  ·rename_i x
   split at h0
   ·rename_i j hx
    split at h0
    ·rename_i kc vc rem cur hob
     rw [hsz,w24,List.range'_succ,wpOpsIn]
     simp only [ho,Region.wanted,if_true]
     refine(y90 (k:=fun s=>z4v V N (fun _=>Dfl V N R) ops.toList 1 os s (fun s=>K .normal s)) hx hob ?_ ?_ ?_ hs fun s2 v0 w' hk hs2=>hrun os s2 _ w' hos hk hs2)
     ·intro hne
      cases rem with
      | nil=>exact absurd rfl hne
      | cons e rem=>
       simp only at h0
       cases hk:V.key kc with
       | true=>rfl
       | false=>rw [hk] at h0; cases h0
     ·intro hr
      subst hr
      simp only at h0
      rw [hl]; exact h0
     ·intro e rem' hp
      have hob' :(enO V h.ob (enF V h.fr z).2)[j]? = some (.x (.it kc vc rem cur)):=by
       have :(h.enc V z).ob=enO V h.ob (enF V h.fr z).2:=y8o
       rw [<- this]; exact hob
      obtain⟨y2,g1,g2⟩:=zoz h.ob (enF V h.fr z).2 hob' hp
      obtain⟨z2,f1,f2⟩:=ydp h.fr (eqZo V.T h.ob) z y2 g1
      have hpk:=hz z2 f1
      have henc:h.enc V z2 = { h.enc V z with ob:=(h.enc V z).ob.set j (.x (.it kc vc (e::rem') none)) }:=by
       show mkS V (enF V h.fr z2).1 (enO V h.ob (enF V h.fr z2).2) = { mkS V (enF V h.fr z).1 (enO V h.ob (enF V h.fr z).2) with ob:=(mkS V (enF V h.fr z).1 (enO V h.ob (enF V h.fr z).2)).ob.set j (.x (.it kc vc (e::rem') none)) }
       rw [f2,y8o]
       show mkS V (enF V h.fr z).1 (enO V h.ob y2)=_
       rw [g2]
       cases (enF V h.fr z).1 <;> rfl
      have hjl:=(List.getElem?_eq_some_iff.1 hob).1
      rw [henc] at hpk
      unfold pkX at hpk
      rw [hl] at hpk
      simp only [hx,List.getElem?_set_self hjl] at hpk
      cases hk:V.key kc with
      | false=>rw [hk] at hpk; cases hpk
      | true=>
       rw [hk] at hpk
       simp only [cond_true,updO,w2i] at hpk
       simp only [updO]
       rw [hl]; exact hpk
    ·cases h0
   ·cases h0
  ·cases h0
theorem y6v {g:GA} {f k:Nat} (h:g.lpI=some (f,k)):∃ L rec,g.lp=some (L,rec,f,k)/\rec.state = .ready:=by
 unfold GA.lpI at h
 split at h
 ·rename_i L rec q hq
  split at h
  ·rename_i hr
   simp only [w00] at h
   subst h
   exact⟨L,rec,hq,hr⟩
  ·cases h
 ·cases h
theorem zyo [Dr] {A:Asg} {sl:Sls V.T} {p:Nat} {x:SV V.T} {a:Act} {ro:Nat->Prop} {w:World} {v:Value} (hp:p<a.tmps.size) (h:zf (slD V N.P A [] sl) a ro w) (hx :(x.den V N.P A).h ro w v) :
  zf (slD V N.P A [] ((p,[],x)::sl)) { a with tmps:=a.tmps.setIfInBounds p v } ro w:=by
 intro t X hX
 have hg:=zh0 a (some p) v t (fun y hy=>by simp at hy; subst hy; exact hp)
 change ({ a with tmps:=a.tmps.setIfInBounds p v } : Act).tmps.getD t undef=_ at hg
 rw [hg]
 simp only [slD,z05] at hX
 by_cases e:t=p
 ·rw [if_pos e] at hX
  simp only [w0j,w00] at hX
  subst hX
  rw [if_pos (by rw [e])]
  exact hx
 ·rw [if_neg e] at hX
  rw [if_neg (fun q=>e (by simpa using q.symm))]
  exact h t X hX
theorem zrk [Dr] {A:Asg} {ro:Nat->Prop} {w:World} : ∀(ps:List Nat) (vs:List (SV V.T)) (us:List Value) (sl:Sls V.T) (tm:Array Value) (df:List Deferred),ps.length=vs.length->us.length=vs.length->(∀ p∈ps,p<tm.size)->
  (∀(i:Nat) (B:VP),(denV V N.P A vs)[i]? = some B->B.h ro w (us.getD i undef))->zf (slD V N.P A [] sl) { tmps:=tm,defers:=df } ro w->
  zf (slD V N.P A [] (zipP ps vs sl)) { tmps:=(ps.zip us).foldl (fun t q=>t.setIfInBounds q.1 q.2) tm,defers:=df } ro w
 | [],vs,us,sl,tm,df,_,_,_,_,h=>by cases vs <;> exact h
 | p::ps,[],us,sl,tm,df,h1,_,_,_,_=>by cases h1
 | p::ps,v::vs,[],sl,tm,df,_,h2,_,_,_=>by cases h2
 | p::ps,v::vs,u::us,sl,tm,df,h1,h2,h3,h4,h=>by
  have hv :(v.den V N.P A).h ro w u:=by simpa using h4 0 _ (by simp [denV])
  have hs:=zyo (a:={ tmps:=tm,defers:=df }) (h3 p (w0f ..)) h hv
  exact zrk ps vs us ((p,[],v)::sl) (tm.setIfInBounds p u) df (by simpa using h1) (by simpa using h2) (fun q hq=>by simpa using h3 q (w08 _ hq)) (fun i B hB=>by simpa using h4 (i+1) B (by simpa [denV] using hB)) hs
theorem zoe:∀(ps:List Nat) (vs:List (SV V.T)) (sl:Sls V.T),(∀ t ch z,lk sl t=some (ch,z)->ch = [])->∀ t ch z,lk (zipP ps vs sl) t=some (ch,z)->ch = []
 | [],vs,sl,h=>by cases vs <;> exact h
 | p::ps,[],sl,h=>h
 | p::ps,v::vs,sl,h=>zoe ps vs _ fun t ch z hz=>by
  simp only [z05] at hz
  split at hz
  ·simp only [w00,w05] at hz; exact hz.1.symm
  ·exact h t ch z hz
theorem zny:∀(l:List (Nat×Value)) (tm:Array Value),(l.foldl (fun t q=>t.setIfInBounds q.1 q.2) tm).size=tm.size
 | [],_=>rfl
 | q::l,tm=>by rw [w1h,zny l]; simp
theorem zts [Dr] {A:Asg} {f:Fm V.T} {m:Nat} {a:Act} {ro:Nat->Prop} {w:World} (h:zf (slD V N.P A f.gb f.sl) a ro w) {tm:Array Value} {df:List Deferred} (htm:∀ t,t<m->tm.getD t undef=a.tmps.getD t undef) :
  zf (slD V N.P A [] (f.sl.filter fun p=>zbp f.sl p.1&&Nat.blt p.1 m)) { tmps:=tm,defers:=df } ro w/\∀ t ch z,lk (f.sl.filter fun p=>zbp f.sl p.1&&Nat.blt p.1 m) t=some (ch,z)->ch = []:=by
 have key:∀ t ch z,lk (f.sl.filter fun p=>zbp f.sl p.1&&Nat.blt p.1 m) t=some (ch,z)->lk f.sl t=some (ch,z)/\ch = []/\t<m:=by
  intro t ch z hz
  have h1:=zb0 (fun k=>zbp f.sl k&&Nat.blt k m) hz
  have h2:=(w0n.1 (zem hz)).2
  simp only [zbp,h1,w02] at h2
  refine⟨h1,?_,w0m h2.2⟩
  cases ch with
  | nil=>rfl
  | cons _ _=>cases h2.1
 refine⟨fun t X hX=>?_,fun t ch z hz=>(key t ch z hz).2.1⟩
 simp only [slD] at hX
 cases hz:lk (f.sl.filter fun p=>zbp f.sl p.1&&Nat.blt p.1 m) t with
 | none=>rw [hz] at hX; cases hX
 | some e=>
  obtain⟨ch,z⟩:=e
  rw [hz] at hX
  obtain⟨h1,h2,h3⟩:=key t ch z hz
  subst h2
  show X.h ro w (tm.getD t undef)
  rw [htm t h3]
  exact h t X (by simp only [slD,h1]; exact hX)
theorem EvM.recS [Dr] {B:Nat} {r0 ro:Nat->Prop} {wI w:World} {l l':List Deferred} {L:Nat} {rec rec':Loop} {q:Nat×Nat} {ps:List (Nat×Loop×Nat×Nat)} (h:EvM B r0 wI (l++l') ((L,rec,q)::ps) ro w):EvM B r0 wI l' ((L,rec',q)::ps) ro (w.putObj L (.loop rec')):=by
 have hn:=w15.1 h.bk.lp.1
 obtain⟨g1,g2,g3⟩:=h.bk.lp.2 _ (w0f ..)
 obtain⟨Ds,h1,h2,h3⟩:=h.bk.df
 obtain⟨Ds1,Ds2,rfl,e1,e2⟩:=List.map_eq_append_iff.1 h1.symm
 refine⟨h.ev.putR g2 _,⟨Ds2,e2.symm,(List.nodup_append.1 h2).2.1,fun D hD=>?_⟩,h.bk.lp.1,fun p hp=>?_⟩
 ·obtain⟨a,b,c⟩:=h3 D (w12 _ hD)
  refine⟨a,b,?_⟩
  rw [World.putObj_heap_other fun(e:D=L)=>by rw [e,g3] at c; cases c]
  exact c
 ·rcases w09.1 hp with rfl | hp
  ·exact⟨g1,g2,World.putObj_heap_same (Array.getElem?_eq_some_iff.1 g3).1⟩
  ·obtain⟨a,b,c⟩:=h.bk.lp.2 p (w08 _ hp)
   refine⟨a,b,?_⟩
   rw [World.putObj_heap_other fun(e:p.1=L)=>hn.1 (w0a.2 ⟨p,hp,e⟩)]
   exact c
theorem Stk.swap [Dr] {P:Program} {A:Asg} {ro:Nat->Prop} {w:World} {L:Nat} {rec rec':Loop} {q:Nat×Nat} {act:Act} (h1:rec'.tmps=rec.tmps) (h2:rec'.pending=rec.pending) (h3:rec'.params=rec.params) (h4:rec'.assign=rec.assign) (h5:rec'.body=rec.body) {fs:List (Fm V.T)} {gs:List GA}
  (h:Stk V P A ro w fs (⟨act,some (L,rec,q)⟩::gs)):Stk V P A ro w fs (⟨act,some (L,rec',q)⟩::gs):=by
 cases fs with
 | nil=>exact h.elim
 | cons f fs=>
  obtain⟨⟨k1,k2,k3,k4,k5⟩,k6⟩:=h
  refine⟨⟨k1,k2,k3,fun x hx=>?_,k5⟩,k6⟩
  simp only [w00] at hx
  subst hx
  obtain⟨m1,m2,g,m3⟩:=k4 _ rfl
  exact⟨h1.trans m1,h2.trans m2,g,by rw [h3,h4,h5]; exact m3⟩
theorem Stk.swap2 [Dr] {P:Program} {A:Asg} {ro:Nat->Prop} {w:World} {L:Nat} {rec rec':Loop} {q:Nat×Nat} {act:Act} {g:GA} (h1:rec'.tmps=rec.tmps) (h2:rec'.pending=rec.pending) (h3:rec'.params=rec.params) (h4:rec'.assign=rec.assign) (h5:rec'.body=rec.body) {fs:List (Fm V.T)} {gs:List GA}
  (h:Stk V P A ro w fs (g::⟨act,some (L,rec,q)⟩::gs)):Stk V P A ro w fs (g::⟨act,some (L,rec',q)⟩::gs):=by
 cases fs with
 | nil=>exact h.elim
 | cons f fs=>exact⟨h.1,Stk.swap h1 h2 h3 h4 h5 h.2⟩
theorem zx8 {B:Nat} {r0 ro:Nat->Prop} {wI w:World} {l:List Deferred} {L:Nat} {rec:Loop} {q:Nat×Nat} {ps:List (Nat×Loop×Nat×Nat)} (h:EvM B r0 wI l ((L,rec,q)::ps) ro w):ro L/\B<=L/\w.heap[L]? = some (.loop rec):=by
 obtain⟨g1,g2,g3⟩:=h.bk.lp.2 _ (w0f ..)
 exact⟨g1,(h.ev.2.2 L g1).resolve_left g2,g3⟩
theorem EvM.gone [Dr] {B:Nat} {r0 ro:Nat->Prop} {wI w:World} {l:List Deferred} {L:Nat} {rec:Loop} {q:Nat×Nat} {ps:List (Nat×Loop×Nat×Nat)} (h:EvM B r0 wI l ((L,rec,q)::ps) ro w) (o:Obj):EvM B r0 wI l ps ro (w.putObj L o):=by
 have hn:=w15.1 h.bk.lp.1
 obtain⟨g1,g2,g3⟩:=h.bk.lp.2 _ (w0f ..)
 obtain⟨Ds,h1,h2,h3⟩:=h.bk.df
 refine⟨h.ev.putR g2 _,⟨Ds,h1,h2,fun D hD=>?_⟩,hn.2,fun p hp=>?_⟩
 ·obtain⟨a,b,c⟩:=h3 D hD
  refine⟨a,b,?_⟩
  rw [World.putObj_heap_other fun(e:D=L)=>by rw [e,g3] at c; cases c]
  exact c
 ·obtain⟨a,b,c⟩:=h.bk.lp.2 p (w08 _ hp)
  refine⟨a,b,?_⟩
  rw [World.putObj_heap_other fun(e:p.1=L)=>hn.1 (w0a.2 ⟨p,hp,e⟩)]
  exact c
theorem ye0 [Dr] (hN:z5a V N) {Γ:List (Option (Nat×Nat))} {f k:Nat} (hΓ:Γ.head? = some (some (f,k))) {run:Code->SS V.T->KX V R->Option R} {g0:Operand} {ps:Array Tmp} {asg bd:Code} (h0:rfAt N.P f k=some (g0,ps,asg,bd))
  {inl:Inl V R} (hin:∀ s K,inl YID (.goto 0) s K=ylX V N run f k s K) {kk:SV V.T->SS V.T->Option R} (hbd:zjo (none::none::Γ.tail) C r run bd (yK V kk)):YOK Γ C r inl kk:=by
 intro rd acts hacts s vs a w A ro S hy hn hkn hgb hl hw hev hsl hst args ha1 ha2 R' hk
 unfold zu3 at hy
 rw [hin] at hy
 cases acts with
 | nil=>subst hacts; cases hΓ
 | cons g gs=>
  subst hacts
  simp only [w0d,List.head?_cons,w00] at hΓ
  obtain⟨L,rec,hg,hrdy⟩:=y6v hΓ
  obtain⟨gact,glp⟩:=g
  change glp=_ at hg
  subst hg
  unfold ylX at hy
  rw [h0] at hy
  split at hy
  rotate_left
  ·cases hy
  rename_i gg ps' asg' bd' it ow stk heq hstk
  simp only [w00,w05] at heq
  obtain⟨rfl,rfl,rfl,rfl⟩:=heq
  simp only [w1i] at hstk
  obtain⟨rfl,hstk⟩:=hstk
  have hlen :(zeu V 0 vs).length=vs.length:=by
   have:∀(n:Nat) (l:List (SV V.T)),(zeu V n l).length=l.length:=by
    intro n l
    induction l generalizing n with
    | nil=>rfl
    | cons x l ih=>simp [zeu,ih]
   exact this 0 vs
  have hmap :(zeu V 0 vs).map (fun x=>x.2.2)=vs:=by
   have:∀(n:Nat) (l:List (SV V.T)),(zeu V n l).map (fun x=>x.2.2)=l:=by
    intro n l
    induction l generalizing n with
    | nil=>rfl
    | cons x l ih=>simp [zeu,ih]
   exact this 0 vs
  simp only [hmap,hlen] at hy
  cases hb :(noRF asg&&noRF bd&&Nat.beq ps.size vs.length&&ps.toList.all (fun p=>Nat.blt p (ow.n-1))) with
  | false=>rw [hb] at hy; cases hy
  | true=>
  rw [hb] at hy
  simp only [cond_true] at hy
  simp only [w02] at hb
  obtain⟨⟨⟨b1,b2⟩,b3⟩,b4⟩:=hb
  have b3:=w01 b3
  have b4:∀ p∈ps.toList,p<ow.n-1:=fun p hp=>w0m (w04.1 b4 p hp)
  have hst0:=hst
  rw [hstk] at hst0
  obtain⟨⟨f1,f2,f3,f4,f5⟩,f6⟩:=hst0
  obtain⟨m1,m2,g1,m3⟩:=f4 _ rfl
  rw [h0] at m3
  simp only [w00,w05] at m3
  obtain⟨rfl,m4,m5,m6⟩:=m3
  have hon:gact.tmps.size=ow.n-1:=by
   have :(gact.tmps.push (.func (.yield L) #[] #[])).size=ow.n:=f5
   simp only [Array.size_push] at this
   omega
  obtain⟨q1,q2,q3⟩:=zx8 hev
  refine⟨⟨gact,some (L,rec,f,k)⟩,gs,L,(rec,f,k),rfl,rfl,rec.fn,_,rec.assign,rec.body,run_yield q3 (by rw [ha1,<- m4,b3]),?_⟩
  refine roundIn_of_wpIn trivial ?_
  rw [<- m5,<- m6,<- m4,m1]
  have hasg:=zpa (C:=C) (r:=r) hN (dfl:=Dfl V N R) (fun Γ f fn c K _ _=>zr4 hN 8 Γ f c K) (fun Γ k=>zkm 8 Γ k) asg (none::(GA.lpI ⟨gact,some (L,rec,f,k)⟩::gs.map GA.lpI))
   (fun e s1=>match e with
     | .normal=>run bd s1 (yK V kk)
     | _=>none) (some L) (⟨a,none⟩::⟨gact,some (L,rec,f,k)⟩::gs)
   (Exit.then (fun a₁ w₁=>∃ w₂,(Instr.beginRound L).run N.P w₁ = .ok () w₂/\bd.wpIn ((fz rd).inRound L) 0 N.P (roundPost N.P L fun e w'=>∃ u,e = .returned u/\R' u w') a₁ w₂) (fun _ _ _=>False)) rfl (.inr b1)
  refine hasg ?_ _ _ _ hy ?_
  ·intro e s1 a1 w1 hK hs1
   cases e with
   | normal=>
    obtain⟨_,hn1,hkn1,hgb1,A1,ro1,S1,hl1,hw1,hev1,hsl1,hst1⟩:=hs1
    obtain⟨p1,p2,p3⟩:=zx8 (ps:=lps gs) hev1
    have hr1:Rec w1.heap[L]?:=.inr ⟨_,p3⟩
    refine⟨_,run_beginRound p3 hrdy,?_⟩
    refine hbd (some L) (⟨a,none⟩::⟨gact,some (L,{ rec with state:=.busy },f,k)⟩::gs) _ ?_ (.inr b2) ?_ s1 a1 _ hK ?_
    ·rfl
    ·intro e s2 a2 w2 hK2 hs2
     cases e with
     | normal=>
      simp only [yK] at hK2
      split at hK2
      ·rename_i fm stk2 hstk2
       obtain⟨_,hn2,hkn2,hgb2,A2,ro2,S2,hl2,hw2,hev2,hsl2,hst2⟩:=hs2
       have hev2':EvM C.base C.r0 C.wI (a2.defers++mks a (⟨gact,some (L,rec,f,k)⟩::gs)) ((L,{ rec with state:=.busy },f,k)::lps gs) ro2 w2:=hev2
       obtain⟨v1,v2,v3⟩:=zx8 hev2'
       have hr2:Rec w2.heap[L]?:=.inr ⟨_,v3⟩
       refine⟨_,_,run_endRound none v3,.bool true,rfl,?_⟩
       have hrec :(({ { rec with state:=.busy } with state:=if(none:Option Code).isNone then .ready else .done,pending:=none } : Loop))=rec:=by
        obtain⟨st,pe,_⟩:=rec
        simp only at hrdy m2
        subst hrdy; subst m2
        rfl
       rw [hrec]
       have hst2':=Stk.swap2 (rec:={ rec with state:=.busy }) (rec':=rec) rfl rfl rfl rfl rfl (hst2.putR hr2 (.loop rec))
       rw [hstk2] at hst2'
       exact hk (.bool true) _ A2 ro2 S2 _ (.bool true) hK2 hst2'.1.2.2.2.2 hst2'.1.2.1 hst2'.1.2.2.1 hl2 (hw2.put v1 v2 hr2 _) (EvM.recS hev2') hst2'.1.1 hst2'.2 (by simp only [SV.den]; rfl)
      ·cases hK2
     | exit id=>simp [yK] at hK2
     | goto l=>simp [yK] at hK2
     | ret=>simp [yK] at hK2
     | panic ch=>simp [yK] at hK2
     | outgrown=>simp [yK] at hK2
    ·exact⟨trivial,hn1,hkn1,hgb1,A1,ro1,S1,hl1,hw1.put p1 p2 hr1 _,EvM.recS (l:=[]) (ps:=lps gs) hev1,hsl1.putR hr1 _,Stk.swap2 (rec:=rec) (rec':={ rec with state:=.busy }) rfl rfl rfl rfl rfl (hst1.putR hr1 _)⟩
   | exit id=>cases hK
   | goto l=>cases hK
   | ret=>cases hK
   | panic ch=>cases hK
   | outgrown=>cases hK
  ·have hps:=zts (N:=N) (A:=A) (f:=ow) (m:=ow.n-1) f1 (tm:=gact.tmps) (df:=[]) (fun t ht=>by
    show _ =(gact.tmps.push (.func (.yield L) #[] #[])).getD t undef
    have:t<gact.tmps.size:=by omega
    simp [Array.getD_eq_getD_getElem?,Array.getElem?_push,Nat.ne_of_lt this])
   have hargs:args.toList.length=vs.length:=by simpa using ha1
   have hfold :(ps.zip args).foldl (fun tmps (t,a)=>tmps.setIfInBounds t a) gact.tmps =(ps.toList.zip args.toList).foldl (fun t q=>t.setIfInBounds q.1 q.2) gact.tmps:=by
    rw [<- Array.foldl_toList,Array.toList_zip]
   refine⟨trivial,?_,trivial,⟨fun t g h=>by simp [lk] at h,fun t ch z hz p hp=>?_,fun p hp=>by simp at hp⟩,A,ro,S,hl,hw,hev,?_,⟨⟨hsl,hkn,hgb,(fun x e=>by cases e),hn⟩,hst⟩⟩
   ·rw [hfold,zny]; exact hon
   ·rw [zoe _ _ _ hps.2 t ch z hz] at hp
    simp at hp
   ·rw [hfold]
    exact zrk ps.toList vs args.toList _ gact.tmps [] (by simpa using b3) hargs (fun p hp=>by rw [hon]; exact b4 p hp) (fun i B hB=>by
     have:=ha2 i B hB
     simpa [Array.getD_eq_getD_getElem?,List.getD_eq_getElem?_getD] using this) hps.1
theorem WInv.two [Dr] {w0 w:World} {base:Nat} {objs:List HP} {ro:Nat->Prop} {S:Nat->Nat->Prop} (h:WInv w0 base objs ro S w) (o1 o2:Obj) :
  WInv w0 base objs (fun b=>ro b\/b=w.heap.size\/b=w.heap.size+1) S ((w.alloc o1).alloc o2)/\Evo base ro w (fun b=>ro b\/b=w.heap.size\/b=w.heap.size+1) ((w.alloc o1).alloc o2):=by
 have hh:∀ b,b<w.heap.size->((w.alloc o1).alloc o2).heap[b]? = w.heap[b]?:=fun b hb=>(Below.heap_alloc _ _ _ (by simp; omega)).trans (Below.heap_alloc _ _ _ hb)
 refine⟨⟨(h.below.alloc h.size _).alloc (by have:=h.size; simp; omega) _,by have:=h.size; simp; omega,fun i H hi=>H.mono (fun _ h=>.inl h) (fun b hb=>hh b (h.old b hb)) (fun b hb=>hh b (h.own i b hb).2.2.1) (h.obj i H hi),fun i b hb=>?_,h.apart,?_⟩,fun _ h=>.inl h,fun b hb=>hh b (h.old b hb),?_⟩
 ·obtain⟨k1,k2,k3,k4⟩:=h.own i b hb
  refine⟨k1,k2,by simp; omega,?_⟩
  rintro(k | k | k)
  ·exact k4 k
  ·omega
  ·omega
 ·rintro b (k | k | k)
  ·have:=h.old b k; simp; omega
  ·simp; omega
  ·simp; omega
 ·have:=h.size
  rintro b (k | k | k)
  ·exact .inl k
  ·exact .inr (by omega)
  ·exact .inr (by omega)
theorem yed [Dr] {Γ:List (Option (Nat×Nat))} {fi f k:Nat} {run:Code->SS V.T->KX V R->Option R} {g0:Operand} {ps:Array Tmp} {asg bd:Code} {K:KX V R} {fn:Func} {c:Code} (h0:rfAt N.P f k=some (g0,ps,asg,bd)) (hf:N.P.funcs[fi]? = some fn) (hc:fn.body=some c)
  (hrun:zjo (some (f,k)::Γ) C r run c (rfK V K)) {run':Code->SS V.T->KX V R->Option R} (hr':∀ s,run' (.rangeFunc g0 ps asg bd) s K=rfX V N fi run g0 s K):zjo Γ C r run' (.rangeFunc g0 ps asg bd) K:=by
 intro rd acts Q hΓ hrd hK s a w h hs
 have hrd:rd=none:=hrd.elim id fun e=>by cases e
 subst hrd
 rw [hr'] at h
 unfold rfX at h
 split at h
 rotate_left
 ·cases h
 rename_i f' caps hev hgn
 split at h
 rotate_left
 ·cases h
 rename_i fn' hf'
 split at h
 rotate_left
 ·cases h
 rename_i c' hc'
 cases hb :(Nat.beq f' fi&&zm.fnok N.P f'&&Nat.ble (caps.length+1) fn'.ntmps&&fn'.results.isEmpty) with
 | false=>rw [hb] at h; cases h
 | true=>
 rw [hb] at h
 simp only [cond_true] at h
 simp only [w02] at hb
 obtain⟨⟨⟨b1,b2⟩,b3⟩,b4⟩:=hb
 have b1:=w01 b1
 subst b1
 rw [hf] at hf'
 cases hf'
 rw [hc] at hc'
 cases hc'
 have b3:=w0m b3
 obtain⟨hd,hn,hkn,hgb,A,ro,S,hl,hw,hem,hsl,hst⟩:=hs
 have hfv:=z0o V N.P (A:=A) hev hkn a ro w hsl
 simp only [SV.den] at hfv
 obtain⟨cv,e1,e2,e3⟩:=hfv
 rw [zfi] at e2
 obtain⟨fn1,k1,k2,k3⟩:=z7l N.P b2
 refine wpIn_rangeFunc fun fn0 _=>?_
 obtain⟨rec,hrec⟩:∃ rec:Loop,rec = { state:=.ready,pending:=none,fn:=fn0,tmps:=a.tmps,params:=ps,assign:=asg,body:=bd,defers:=w.heap.size }:=⟨_,rfl⟩
 obtain⟨W1,hW1⟩:∃ W1,(w.alloc (.deferred (some []))).alloc (.loop rec)=W1:=⟨_,rfl⟩
 have hL1:W1.heap[w.heap.size+1]? = some (.loop rec):=by
  rw [<- hW1]; have:=World.alloc_heap_new (w.alloc (.deferred (some []))) (.loop rec); rwa [World.size_alloc] at this
 have hD1:W1.heap[w.heap.size]? = some (.deferred (some [])):=by
  rw [<- hW1]; exact(Below.heap_alloc _ _ _ (by simp)).trans (World.alloc_heap_new w _)
 obtain⟨hwT,hevT⟩:=hw.two (.deferred (some [])) (.loop rec)
 rw [hW1] at hwT hevT
 refine⟨w.heap.size+1,[mkD w.heap.size],W1,{ target:=.fn (.func f') cv,args:=#[.func (.yield (w.heap.size+1)) #[] #[]] },W1,f',#[.func (.yield (w.heap.size+1)) #[] #[]]++cv,W1,?_,?_,fun _ _=>trivial,?_,fun e=>by simp at e,?_⟩
 ·rw [<- hW1,hrec]; exact run_enterLoop_outer _ _ _ _ _
 ·simp only [Go.resolve,e1]
  simp [go_sem]
 ·simp [invoke,z1k k1 k2 k3]
 show CallsIn (fz none) 0 N.P f' _ W1 _
 refine callsIn_of_wp_marks hf hc trivial ?_ rfl
 obtain⟨a',ha'⟩:∃ a':Act,a' = { a with defers:=mkD w.heap.size::a.defers }:=⟨_,rfl⟩
 have hfresh:∀ b,ro b->b≠w.heap.size/\b≠w.heap.size+1:=fun b hb=>by have:=hw.old b hb; omega
 have hr0:∀ b,C.r0 b->ro b:=hem.ev.1
 refine hrun none (⟨a',some (w.heap.size+1,rec,f,k)⟩::acts) _ (by rw [w0d,hΓ,hrec]; rfl) (.inl rfl) ?_ _ _ _ h ?_
 ·intro e s' a2 w' hKe hs'
  have fin :(match s'.stk with
    | fm::stk=>K .normal { popG V fm with stk:=stk,ob:=s'.ob }
    | []=>none)=some r->LeavesInM (fz none) 0 N.P fn a2.tmps (rangePost (fz none) 0 N.P (w.heap.size+1) Q { a with defers:=[mkD w.heap.size]++a.defers }) a2.defers .returning w':=by
   intro hKe
   split at hKe
   ·rename_i fm stk hstk
    obtain⟨_,hn',hkn',hgb',A',ro',S',hl',hw',hev',hsl',hst'⟩:=hs'
    refine zkq hw' hev' hsl' hst' fun w2 g1 g2 g3 g4=>?_
    have hres:zft V N s' fn.results.toList=some []:=by
     have:fn.results.toList = []:=by simpa using b4
     rw [this]; rfl
    obtain⟨v,hv,_⟩:=zff g1 g3 hres
    refine⟨v,hv,?_⟩
    obtain⟨p1,p2,p3⟩:=zx8 (ps:=lps acts) g2
    have hr2:Rec w2.heap[w.heap.size+1]?:=.inr ⟨_,p3⟩
    have hst2:rec.state = .ready:=by rw [hrec]
    refine⟨_,_,run_endLoop p3 (by rw [hst2]; decide),?_⟩
    rw [show rec.pending=none by rw [hrec]]
    rw [hstk] at g4
    obtain⟨⟨m1,m2,m3,m4,m5⟩,m6⟩:=g4
    have hfn:a.tmps.size=fm.n-1:=by
     have :(a'.tmps.push (.func (.yield (w.heap.size+1)) #[] #[])).size=fm.n:=m5
     rw [ha'] at this
     simp only [Array.size_push] at this
     omega
    have hlkf:∀ t x,lk (popG V fm).sl t=some x->lk fm.sl t=some x/\t≠fm.n-1:=by
     intro t x hx
     refine⟨zb0 (fun p=>!Nat.beq p (fm.n-1)) hx,?_⟩
     have:=(w0n.1 (zem hx)).2
     intro e
     subst e
     simp [w1t] at this
    refine hK _ _ _ _ hKe ⟨trivial,hfn,m2,⟨fun t g hg ch z hz=>m3.val t g hg ch z (hlkf _ _ hz).1,fun t ch z hz=>m3.ch t ch z (hlkf _ _ hz).1,m3.kn⟩,A',ro',S',hl',g1.put p1 p2 hr2 _,?_,?_,m6.putR hr2 _⟩
    ·have:=EvM.gone (ps:=lps acts) g2 (.loop { rec with state:=.exhausted,pending:=none })
     rw [ha',w0i] at this
     exact this
    ·refine zf.putR hr2 _ fun t X hX=>?_
     simp only [slD] at hX
     cases hz:lk (popG V fm).sl t with
     | none=>rw [hz] at hX; cases hX
     | some x=>
      rw [hz] at hX
      obtain⟨z1,z2⟩:=hlkf _ _ hz
      have:=m1 t X (by simp only [slD,z1]; exact hX)
      rw [show (GA.tm ⟨a',some (w.heap.size+1,rec,f,k)⟩).tmps=a.tmps.push (.func (.yield (w.heap.size+1)) #[] #[]) by rw [ha']; rfl] at this
      have hne:t≠a.tmps.size:=by omega
      simpa [Array.getD_eq_getD_getElem?,Array.getElem?_push,hne] using this
   ·cases hKe
  cases e with
  | ret=>exact fin hKe
  | normal=>exact fin hKe
  | exit id=>simp [rfK] at hKe
  | goto l=>simp [rfK] at hKe
  | panic ch=>simp [rfK] at hKe
  | outgrown=>simp [rfK] at hKe
 ·have hA1:AExt A (A++[((0:Nat),(.func (.yield (w.heap.size+1)) #[] #[]:Value))]):=AExt.app A _
  have hAt :(A++[((0:Nat),(.func (.yield (w.heap.size+1)) #[] #[]:Value))])[s.ob.length]? = some (0,.func (.yield (w.heap.size+1)) #[] #[]):=zat A _ _ hl
  obtain⟨S2,hw2⟩:=z3e (P:=N.P) (A:=A) (B:=[((0:Nat),(.func (.yield (w.heap.size+1)) #[] #[]:Value))]) (ob:=s.ob) hl (us:=[.emp]) (H:=[Px.emp]) ⟨EntH.refl,trivial⟩ _ _ _ _ _ (hwT.addNil Px.emp trivial)
  have hslT:=hsl.evo hevT
  refine⟨trivial,by simp [e2]; omega,trivial,⟨fun t g h=>by simp [lk] at h,fun t ch z hz p hp=>?_,fun p hp=>by simp at hp⟩,A++[(0,.func (.yield (w.heap.size+1)) #[] #[])],_,S2,by simp [hl],hw2,?_,?_,⟨⟨?_,hkn,⟨?_,?_,hgb.kn⟩,?_,?_⟩,hst.ext hA1 hevT⟩⟩
  ·rw [zb9] at hz
   simp only [w23,if_true,w0z,w05] at hz
   obtain⟨_,_,rfl,_⟩:=hz
   simp at hp
  ·have hem1:=hem.trans hevT
   obtain⟨Ds,d1,d2,d3⟩:=hem1.bk.df
   obtain⟨Ds0,d10,d20,d30⟩:=hem.bk.df
   have hDs:Ds=Ds0:=by
    have hinj:∀(l m:List Nat),l.map mkD=m.map mkD->l=m:=by
     intro l
     induction l with
     | nil=>intro m h; cases m with
      | nil=>rfl
      | cons _ _=>simp at h
     | cons x l ih=>intro m h; cases m with
      | nil=>simp at h
      | cons y m=>
       simp only [w0d,w1i] at h
       rw [ih m h.2]
       have:x=y:=by simpa [mkD] using h.1
       rw [this]
    exact hinj _ _ (d1.symm.trans d10)
   subst hDs
   refine⟨hem1.ev,⟨w.heap.size::Ds,?_,?_,?_⟩,?_,?_⟩
   ·show mks _ (_::acts)=_
    have:mks a acts=Ds.map mkD:=d1
    rw [ha',w0d,<- this]
    rfl
   ·exact w15.2 ⟨fun hm=>(hfresh _ (d30 _ hm).1).1 rfl,d2⟩
   ·intro D hD
    rcases w09.1 hD with rfl | hD
    ·exact⟨.inr (.inl rfl),fun e=>(hfresh _ (hr0 _ e)).1 rfl,hD1⟩
    ·exact d3 D hD
   ·show (((w.heap.size+1,rec,f,k)::lps acts).map (·.1)).Nodup
    rw [w0d]
    refine w15.2 ⟨fun hm=>?_,hem1.bk.lp.1⟩
    obtain⟨p,hp,e⟩:=w0a.1 hm
    exact(hfresh _ (hem.bk.lp.2 p hp).1).2 e
   ·intro p hp
    have hp:p∈(w.heap.size+1,rec,f,k)::lps acts:=hp
    rcases w09.1 hp with rfl | hp
    ·exact⟨.inr (.inr rfl),fun e=>(hfresh _ (hr0 _ e)).2 rfl,hL1⟩
    ·exact hem1.bk.lp.2 p hp
  ·refine zx5 (by simp [e2]; omega) fun i B hB=>?_
   cases i with
   | zero=>
    simp only [denV,List.getElem?_cons_zero,w00] at hB
    subst hB
    simp only [SV.den,hAt]
    show (#[Value.func (.yield (w.heap.size+1)) #[] #[]]++cv).getD 0 undef=Value.func (.yield (w.heap.size+1)) #[] #[]
    simp [Array.getD_eq_getD_getElem?,Array.getElem?_append]
   | succ i=>
    simp only [denV,List.getElem?_cons_succ] at hB
    obtain⟨X,x1,x2⟩:=(zoc (zhe V N.P hA1 caps)).2 i B hB
    have:=x2 _ _ _ ((X.evo hevT) (e3 i X x1))
    simpa [Array.getD_eq_getD_getElem?,Array.getElem?_append] using this
  ·intro t X hX
   have htm :(GA.tm ⟨a',some (w.heap.size+1,rec,f,k)⟩).tmps=a.tmps.push (.func (.yield (w.heap.size+1)) #[] #[]):=by rw [ha']; rfl
   rw [htm]
   simp only [slD,z05] at hX
   by_cases e:t=s.n
   ·rw [if_pos e] at hX
    simp only [w0j,w00] at hX
    subst hX
    simp only [denE,SV.den,hAt]
    rw [e,<- hn]
    show (a.tmps.push (.func (.yield (w.heap.size+1)) #[] #[])).getD a.tmps.size undef = .func (.yield (w.heap.size+1)) #[] #[]
    simp [Array.getD_eq_getD_getElem?]
   ·rw [if_neg e] at hX
    have h1:=zd1 V N.P hA1 hslT t X hX
    have hne:t≠a.tmps.size:=by omega
    simpa [Array.getD_eq_getD_getElem?,Array.getElem?_push,hne] using h1
  ·intro t g hg ch z hz
   have hz:lk ((s.n,[],SV.own s.ob.length)::s.sl) t=some (ch,z):=hz
   rw [z05] at hz
   by_cases e:t=s.n
   ·have hg:lk s.gb t=some g:=hg
    rw [e,hgn] at hg; cases hg
   ·rw [if_neg e] at hz; exact hgb.val t g hg ch z hz
  ·intro t ch z hz p hp
   have hz:lk ((s.n,[],SV.own s.ob.length)::s.sl) t=some (ch,z):=hz
   rw [z05] at hz
   by_cases e:t=s.n
   ·rw [if_pos e] at hz
    simp only [w00,w05] at hz
    rw [<- hz.1] at hp; cases hp
   ·rw [if_neg e] at hz; exact hgb.ch t ch z hz p hp
  ·intro x hx
   simp only [w00] at hx
   subst hx
   exact⟨by rw [hrec,ha'],by rw [hrec],g0,by rw [hrec]; exact h0⟩
  ·show (GA.tm ⟨a',some (w.heap.size+1,rec,f,k)⟩).tmps.size=s.n+1
   rw [show (GA.tm ⟨a',some (w.heap.size+1,rec,f,k)⟩).tmps=a.tmps.push (.func (.yield (w.heap.size+1)) #[] #[]) by rw [ha']; rfl]
   simp [hn]
theorem ycm [Dr] (hN:z5a V N) (φ:Nat) (h:H V R) :(∀ Γ c K,obl V N φ Γ h none c K->zjo Γ C r (ex V N φ h).run c K)/\
  (∀ Γ full id ops d K,obl V N φ Γ h (some full) (.region id ops d) K->zt2 Γ C r (ex V N φ h).inl ops full K):=by
 induction h with
 | x=>exact⟨fun Γ c K _=>zpa hN (fun Γ f fn c K _ _=>zr4 hN 8 Γ f c K) (fun Γ k=>zkm 8 Γ k) c Γ K,fun Γ full id ops d K _=>z7w hN Γ⟩
 | no=>
  refine⟨fun Γ c K ho=>?_,fun Γ full id ops d K _=>z7w hN Γ⟩
  intro rd acts Q hΓ hrd hK s a w h hs
  cases h
 | seq h1 h2 i1 i2=>
  refine⟨fun Γ c K ho=>?_,fun Γ full id ops d K _=>z7w hN Γ⟩
  cases c with
  | seq x y=>
   intro rd acts Q hΓ hrd hK s a w h hs
   obtain⟨r1,r2⟩:=zu5 hrd
   exact wpIn_seq (i1.1 _ _ _ ho.1 rd acts _ hΓ r1 (zq1 (fun s a w h hs=>i2.1 _ y K ho.2 rd acts Q hΓ r2 hK s a w h hs) hK) s a w h hs)
  | _=>exact ho.elim
 | cond h1 h2 i1 i2=>
  refine⟨fun Γ c K ho=>?_,fun Γ full id ops d K _=>z7w hN Γ⟩
  cases c with
  | cond o x y=>
   intro rd acts Q hΓ hrd hK s a w h hs
   obtain⟨r1,r2⟩:=zvj hrd
   exact zw5 h hs (fun h=>i1.1 _ x K ho.1 rd acts Q hΓ r1 hK s a w h hs) (fun h=>i2.1 _ y K ho.2 rd acts Q hΓ r2 hK s a w h hs)
  | _=>exact ho.elim
 | body h ih=>
  refine⟨fun Γ c K ho=>?_,fun Γ full id ops d K _=>z7w hN Γ⟩
  cases c with
  | block id c=>
   intro rd acts Q hΓ hrd hK s a w h hs
   exact wpIn_block (ih.1 _ c _ ho rd acts _ hΓ hrd (zzj hK) s a w h hs)
  | scope c=>
   intro rd acts Q hΓ hrd hK s a w h hs
   exact znw (ih.1 _ c _ ho rd acts _ hΓ hrd (y7s hK) s a w h hs)
  | _=>exact ho.elim
 | loop h L b ih=>
  refine⟨fun Γ c K ho=>?_,fun Γ full id ops d K _=>z7w hN Γ⟩
  cases c with
  | loop c=>
   obtain⟨h0,hS,hb⟩:=ho
   intro rd acts Q hΓ hrd hK s a w hr hs
   obtain⟨z,hz,hL⟩:=zcg hr
   have key:∀ n z,L n z=some r->∀ a w,SatS V C acts (h.enc V z) a w->Code.roundsIn (fz rd) 0 N.P c Q n a w:=by
    intro n
    induction n with
    | zero=>intro z hz; rw [h0] at hz; cases hz
    | succ n ihn=>
     intro z hz a w hs
     rw [hS] at hz
     refine(ih (L n)).1 Γ c _ (hb n) rd acts (Exit.then (Code.roundsIn (fz rd) 0 N.P c Q n) Q) hΓ hrd (zq1 (fun s a w h hs=>?_) hK) _ a w hz hs
     obtain⟨z',hz',hL'⟩:=zcg h
     exact ihn z' hL' a w (zoq hs _ z' hz')
   exact wpIn_loop_rounds φ (key φ z hL a w (zoq hs h z hz))
  | _=>exact ho.elim
 | join h J b ih=>
  refine⟨fun Γ c K ho=>?_,fun Γ full id ops d K _=>z7w hN Γ⟩
  have ho' :(∀ z,J z=K .normal (h.enc V z))/\obl V N φ Γ b none c (seqK V (fun s=>zpr (h.dec V s) J) K):=by
   cases c <;> exact ho
  intro rd acts Q hΓ hrd hK s a w hr hs
  refine ih.1 Γ c _ ho'.2 rd acts Q hΓ hrd (fun e s a w hk hs=>?_) s a w hr hs
  cases e with
  | normal=>
   obtain⟨z,hz,hJ⟩:=zcg hk
   rw [ho'.1] at hJ
   exact hK _ _ a w hJ (zoq hs h z hz)
  | _=>exact hK _ s a w hk hs
 | ins i f h rest ih1 ih2=>
  have B:∀ Γ full id ops d K,obl V N φ Γ (.ins i f h rest) (some full) (.region id ops d) K->zt2 Γ C r (ex V N φ (.ins i f h rest)).inl ops full K:=by
   intro Γ full id ops d K ho
   obtain⟨ho1,ho2⟩:=ho
   obtain⟨b1,b2⟩:=ih2.2 Γ full id ops d K ho2
   refine⟨fun j g fn c hf hc=>?_,fun j=>?_⟩
   ·show zjo _ C r (fun c s K=>bif Nat.beq j i&&Nat.beq g f&&Nat.ble (g+1) YID then(ex V N φ h).run c s K else(ex V N φ rest).inl j g c s K) c _
    cases he :(Nat.beq j i&&Nat.beq g f&&Nat.ble (g+1) YID) with
    | false=>exact b1 j g fn c hf hc
    | true=>
     simp only [w02] at he
     have e1:=w01 he.1.1
     have e2:=w01 he.1.2
     subst e1; subst e2
     rw [hf] at ho1
     simp only [hc] at ho1
     exact ih1.1 _ c _ ho1
   ·have:=b2 j
    intro rd acts hΓ s vs a w A ro S hy
    refine this rd acts hΓ s vs a w A ro S ?_
    have e :(Nat.beq j i&&Nat.beq YID f&&Nat.ble (YID+1) YID)=false:=by
     rw [show Nat.ble (YID+1) YID=false from rfl,Bool.and_false]
    change (bif Nat.beq j i&&Nat.beq YID f&&Nat.ble (YID+1) YID then _ else(ex V N φ rest).inl j YID _ _ _)=_ at hy
    rw [e] at hy
    exact hy
  refine⟨fun Γ c K ho=>?_,B⟩
  cases c with
  | region id ops d=>
   intro rd acts Q hΓ hrd hK s a w h hs
   exact zuc hN (B Γ _ id ops d K ho) hΓ hK h hs
  | _=>exact ho.elim
 | rf f k fi h ih=>
  refine⟨fun Γ c K ho=>?_,fun Γ full id ops d K _=>z7w hN Γ⟩
  cases c with
  | rangeFunc g ps asg bd=>
   obtain⟨h0,ho⟩:=ho
   split at ho
   ·rename_i fn hf
    split at ho
    ·rename_i c hc
     exact yed h0 hf hc (ih.1 _ c _ ho) fun s=>rfl
    ·exact ho.elim
   ·exact ho.elim
  | _=>exact ho.elim
 | yl i f k h rest ih1 ih2=>
  have B:∀ Γ full id ops d K,obl V N φ Γ (.yl i f k h rest) (some full) (.region id ops d) K->zt2 Γ C r (ex V N φ (.yl i f k h rest)).inl ops full K:=by
   intro Γ full id ops d K ho
   obtain⟨⟨hΓ,hY,ho1⟩,ho2⟩:=ho
   obtain⟨b1,b2⟩:=ih2.2 Γ full id ops d K ho2
   refine⟨fun j g fn c hf hc=>?_,fun j=>?_⟩
   ·show zjo _ C r (fun c s K=>bif Nat.beq j i&&Nat.beq g YID then ylX V N (ex V N φ h).run f k s K else(ex V N φ rest).inl j g c s K) c _
    cases he :(Nat.beq j i&&Nat.beq g YID) with
    | false=>exact b1 j g fn c hf hc
    | true=>
     simp only [w02] at he
     have e2:=w01 he.2
     subst e2
     rw [hY] at hf
     cases hf
   ·cases he:Nat.beq j i with
    | false=>
     have:=b2 j
     intro rd acts hΓ s vs a w A ro S hy
     refine this rd acts hΓ s vs a w A ro S ?_
     change (bif Nat.beq j i&&Nat.beq YID YID then _ else(ex V N φ rest).inl j YID _ _ _)=_ at hy
     rw [he] at hy
     exact hy
    | true=>
     have e1:=w01 he
     subst e1
     split at ho1
     ·rename_i g0 ps asg bd h0
      refine ye0 hN hΓ h0 (fun s K=>?_) (ih1.1 _ bd _ ho1)
      show (bif Nat.beq j j&&Nat.beq YID YID then ylX V N (ex V N φ h).run f k s K else _)=_
      rw [he,w1t]
      rfl
     ·exact ho1.elim
  refine⟨fun Γ c K ho=>?_,B⟩
  cases c with
  | region id ops d=>
   intro rd acts Q hΓ hrd hK s a w h hs
   exact zuc hN (B Γ _ id ops d K ho) hΓ hK h hs
  | _=>exact ho.elim
 | foc p q h ih=>
  refine⟨fun Γ c K ho=>?_,fun Γ full id ops d K ho=>ih.2 Γ full id ops d K ho⟩
  have ho':obl V N φ Γ h none c K:=by cases c <;> exact ho
  intro rd acts Q hΓ hrd hK s a w hr hs
  change (match y3s V s p.1 p.2 with
   | some (.own i)=>bif y2c s.ob[i]? then focM V s i (keyX V s q) fun s=>(ex V N φ h).run c s K else(match focP V p q s with
    | some (i,m)=>focX V s i m fun s=>(ex V N φ h).run c s K
    | none=>none)
   | _=>none)=some r at hr
  split at hr
  ·rename_i i _
   cases hm:y2c s.ob[i]? with
   | true=>
    rw [hm] at hr
    simp only [cond_true] at hr
    obtain⟨s',h1,h2⟩:=y9x hr hs
    exact ih.1 Γ c K ho' rd acts Q hΓ hrd hK s' a w h1 h2
   | false=>
    rw [hm] at hr
    simp only [cond_false] at hr
    split at hr
    ·obtain⟨s',h1,h2⟩:=ybg hr hs
     exact ih.1 Γ c K ho' rd acts Q hΓ hrd hK s' a w h1 h2
    ·cases hr
  ·cases hr
 | pk h J=>
  refine⟨fun Γ c K ho=>?_,fun Γ full id ops d K _=>z7w hN Γ⟩
  cases c with
  | region id ops d=>
   obtain⟨rfl,hz,hA⟩:=ho
   intro rd acts Q hΓ hrd hK s a w hr hs
   obtain⟨z,hz1,hJ⟩:=zcg hr
   exact ydn hN (fun z' he=>by rw [<- hz,hA z z' he (yaf (zoq hs h z hz1))]; exact hJ) (by rw [<- hz]; exact hJ) hK hΓ (zoq hs h z hz1)
  | _=>exact ho.elim
 | unr n h ih=>
  refine⟨fun Γ c K ho=>?_,fun Γ full id ops d K _=>z7w hN Γ⟩
  cases c with
  | loop c=>
   intro rd acts Q hΓ hrd hK s a w hr hs
   have key:∀ m s a w,unrX V ((ex V N φ h).run c) m s K=some r->SatS V C acts s a w->Code.roundsIn (fz rd) 0 N.P c Q m a w:=by
    intro m
    induction m with
    | zero=>intro s a w hz; cases hz
    | succ m ihm=>
     intro s a w hz hs
     exact ih.1 Γ c _ (ho _) rd acts (Exit.then (Code.roundsIn (fz rd) 0 N.P c Q m) Q) hΓ hrd (zq1 (fun s a w h hs=>ihm s a w h hs) hK) _ a w hz (ybo hs)
   exact wpIn_loop_rounds n (key n s a w hr hs)
  | _=>exact ho.elim
 | alt h J J2=>
  refine⟨fun Γ c K ho=>?_,fun Γ full id ops d K _=>z7w hN Γ⟩
  cases c with
  | region id ops d=>
   obtain⟨hd,hz,hA⟩:=ho
   simp only [w02] at hd
   obtain⟨rfl,hm⟩:=hd
   intro rd acts Q hΓ hrd hK s a w hr hs
   obtain⟨z,hz1,hJ⟩:=zcg hr
   obtain⟨L,h1,h2⟩:=(hA z).ok r hJ
   rw [hz] at h1
   exact zun hN y4j (inl:=fun _=>Dfl V N R) (z7w hN Γ) hΓ hK hm h1 h2 (zoq hs h z hz1)
  | _=>exact ho.elim
 | frz ps h ih=>
  refine⟨fun Γ c K ho=>?_,fun Γ full id ops d K ho=>ih.2 Γ full id ops d K ho⟩
  have ho':obl V N φ Γ h none c K:=by cases c <;> exact ho
  intro rd acts Q hΓ hrd hK s a w hr hs
  exact ih.1 Γ c K ho' rd acts Q hΓ hrd hK _ a w hr (zkn _ hs)
 | cut t h ih=>
  refine⟨fun Γ c K ho=>?_,fun Γ full id ops d K ho=>ih.2 Γ full id ops d K ho⟩
  have ho':obl V N φ Γ h none c K:=by cases c <;> exact ho
  intro rd acts Q hΓ hrd hK s a w hr hs
  exact ih.1 Γ c K ho' rd acts Q hΓ hrd hK _ a w hr (y9k t hs)
end
end Px
end
section
namespace Px
open Go Go.RowKit
section
variable {V:TE} {N:Env V}
theorem zua [Dr] {P:Program} {A B:Asg} {s:SS V.T} (hl:A.length=s.ob.length):∀(cs:List RC) (l:List (SV V.T)) (y:RTup V.T cs) (n:Nat),decR V s cs l=some y->(∀ k i,(zjw V cs l)[k]? = some i->B[n+k]? = some (A.getD i default))->
  F2 Ent (denV V P A l) (denV V P B (encR V n cs y))/\zaq (obD V P A A s.ob) (zjw V cs l) (obD V P B ((zjw V cs l).map fun i=>A.getD i default) (newR V cs y))/\(newR V cs y).length =(zjw V cs l).length
 | [],l,y,n,h,hB=>by
  cases l with
  | nil=>exact⟨trivial,trivial,rfl⟩
  | cons x l=>exact zi h
 | .val c::cs,l,y,n,h,hB=>by
  cases l with
  | nil=>exact zi h
  | cons x l=>
   change (match V.dec (rdSl []) c x,decR V s cs l with
    | some y,some r=>some (y,r)
    | _,_=>none)=some y at h
   split at h
   ·rename_i y1 r hy hr
    have e:=w07 h
    subst e
    obtain⟨h1,h2,h3⟩:=zua hl cs l r n hr hB
    refine⟨⟨?_,h1⟩,h2,h3⟩
    rw [z38]
    exact z5m V P hy
   ·exact zi h
 | .row E c::cs,l,y,n,h,hB=>by
  cases l with
  | nil=>exact zi h
  | cons x l=>
   cases x with
   | own i=>
    cases hr:decR V s cs l with
    | none=>simp [decR,hr] at h
    | some r=>
     simp only [decR,hr] at h
     split at h
     ·rename_i E' c' z hz
      cases hE:Nat.beq E E' with
      | false=>rw [hE] at h; exact zi h
      | true=>
       rw [hE] at h
       have:=w01 hE
       subst this
       simp only [cond_true] at h
       split at h
       ·rename_i e
        subst e
        have e:=w07 h
        subst e
        have hlt:i<A.length:=by rw [hl]; exact(List.getElem?_eq_some_iff.1 hz).1
        have ha:A[i]? = some (A.getD i default):=by simp [List.getD,List.getElem?_eq_getElem hlt]
        obtain⟨h1,h2,h3⟩:=zua hl cs l r (n+1) hr fun k j hk=>by
         have:=hB (k+1) j (by simpa [zjw] using hk)
         rw [<- this]; congr 1; omega
        have hb:=hB 0 i rfl
        refine⟨⟨?_,h1⟩,⟨⟨_,zn V P ha hz,EntH.refl⟩,h2⟩,by simp [zjw,newR,h3]⟩
        simp only [SV.den]
        rw [ha,show B[n]? = some (A.getD i default) from hb]
        exact Ent.refl
       ·exact zi h
     ·exact zi h
   | _=>simp [decR] at h
theorem y4x [Dr] {P:Program} {A B:Asg} : ∀ {l m:List (SV V.T)},F2 Ent (denV V P A l) (denV V P B m)->Ent ((resV V l).den V P A) ((resV V m).den V P B)
 | [],[],_=>by simp only [resV,SV.den]; exact Ent.refl
 | [x],[y],h=>h.1
 | x::x'::l,y::y'::m,h=>by simp only [resV,SV.den]; exact y3q h
 | [],_::_,h=>h.elim
 | _::_,[],h=>h.elim
 | [_],_::_::_,h=>h.2.elim
 | _::_::_,[_],h=>h.2.elim
theorem zn3 [Dr] {P:Program} {A:Asg} : ∀(cs:List Nat) (x:Tup V.T cs),denV V P A (encA V cs x)=vls V cs x
 | [],_=>rfl
 | c::cs,x=>by simp only [encA,denV,vls,z38,zn3 cs]
theorem zqi:∀(cs:List Nat) (x:Tup V.T cs),(encA V cs x).length=cs.length
 | [],_=>rfl
 | c::cs,x=>by simp only [encA,w0t,zqi cs]
theorem zwj:∀(cs:List KC) (x:KCs V.T cs),(encK V cs x).length=cs.length
 | [],_=>rfl
 | c::cs,x=>by simp only [encK,w0t,zwj cs]
theorem y7z [Dr] (hN:z5a V N) {f φ:Nat} {fn:Func} {rs:List RC} (h:H V (RTup V.T rs)) (hf:N.P.funcs[f]? = some fn) {us:List (SV V.T)} (hle:us.length<=fn.ntmps) {r:RTup V.T rs}
  (hr:fnV V N φ fn rs h us=some r) (ho:fnO V N φ fn rs h):zez N.P f (denV V N.P [] us) (Kres V N.P rs r):=by
 unfold fnV at hr
 unfold fnO at ho
 split at hr
 ·rename_i c hb
  rw [hb] at ho
  intro r0 w vs hr0 hl hA
  rw [zfi] at hl
  refine zey hf hb ((ycm hN (r:=r) (C:=(⟨w,w.heap.size,r0,w,fn.ntmps,none,[]⟩:Cx N.P)) φ h).1 [] c _ ho none [] _ rfl (.inl rfl) ?_ _ _ _ hr ?_)
  ·intro e s a' w' hK hs
   have fin :(match zft V N s fn.results.toList with
     | some l=>match zft V N (zsk V s (zu7 V rs l)) fn.results.toList with
      | some l'=>bif zbj (zjw V rs l') then decR V (zsk V s (zu7 V rs l)) rs l' else none
      | none=>none
     | none=>none)=some r->LeavesInM (fz none) 0 N.P fn a'.tmps (retR w w.heap.size r0 w (Kres V N.P rs r)) a'.defers .returning w':=by
    intro hK
    split at hK
    ·rename_i l hl1
     split at hK
     ·rename_i l' hl2
      cases hnd:zbj (zjw V rs l') with
      | false=>rw [hnd] at hK; cases hK
      | true=>
       rw [hnd] at hK
       simp only [cond_true] at hK
       obtain⟨hd',hn',hkn',hgb',A',ro',S',hl',hw',hev',hsl',hst'⟩:=zkn (zu7 V rs l) hs
       refine zkq hw' hev' hsl' hst' fun w2 g1 g2 g3 g4=>?_
       obtain⟨v,hv,hvx⟩:=zff g1 g3 hl2
       obtain⟨k1,k2,k3⟩:=zua (P:=N.P) (B:=(zjw V rs l').map fun i=>A'.getD i default) hl' rs l' r 0 hK fun k i hk=>by
        rw [w0y,List.getElem?_map,hk]; rfl
       exact⟨v,hv,v,_,_,ro',_,rfl,g2.ev,g1.sel k2 hnd,y4x k1 _ _ _ hvx,_,by rw [k3]; simp,rfl,rfl⟩
     ·cases hK
    ·cases hK
   cases e with
   | ret=>exact fin hK
   | normal=>exact fin hK
   | exit id=>simp [retK] at hK
   | goto l=>simp [retK] at hK
   | panic ch=>simp [retK] at hK
   | outgrown=>simp [retK] at hK
  ·refine⟨trivial,by simp [hl]; omega,trivial,⟨fun t g h=>by simp [lk] at h,fun t ch z hz p hp=>?_,fun p hp=>by simp at hp⟩,[],r0,fun _ _=>False,rfl,⟨Bel.refl _ _,w0g _,fun i H hi=>by simp [obD] at hi,fun i b hb=>hb.elim,fun i j b hb=>hb.elim,hr0⟩,⟨Evo.refl _ _ _,⟨⟨[],rfl,List.nodup_nil,fun _ h=>by cases h⟩,List.nodup_nil,fun p h=>by cases h⟩⟩,?_,trivial⟩
   ·rw [zb9] at hz
    simp only [w23,if_true,w0z,w05] at hz
    obtain⟨_,_,rfl,_⟩:=hz
    simp at hp
   ·intro t X hX
    simp only [slD,zb9,w23,if_true,w2h,Option.map_map,w0z] at hX
    obtain⟨y,hy,rfl⟩:=hX
    have hlt:=(List.getElem?_eq_some_iff.1 hy).1
    have hdv:∀(l:List (SV V.T)) (t:Nat),l[t]? = some y->(denV V N.P [] l)[t]? = some (y.den V N.P []):=by
     intro l
     induction l with
     | nil=>intro t h; simp at h
     | cons z l ih=>intro t h; cases t with
      | zero=>simp at h; subst h; rfl
      | succ t=>simp at h; simpa [denV] using ih t h
    have:=hA t _ (hdv _ t hy)
    have hvt:t<vs.size:=hl ▸ hlt
    simpa [denE,Array.getD_eq_getD_getElem?,Array.getElem?_append,hvt] using this
 ·cases hr
theorem z3q [Dr] (hN:z5a V N) {f φ:Nat} {fn:Func} {as:List Nat} {rs:List RC} {F:Tup V.T as->Option (RTup V.T rs)} (h:H V (RTup V.T rs)) (hf:N.P.funcs[f]? = some fn) (hn:Nat.ble as.length fn.ntmps=true)
  (hF:∀ a,F a=fnX V N φ fn as rs h a) (ho:fnO V N φ fn rs h):z2j V N.P f ⟨as,rs,F⟩:=by
 intro x r hr
 simp only at x r hr
 rw [hF] at hr
 have:=y7z hN (us:=encA V as x) h hf (by rw [zqi]; exact w0m hn) hr ho
 rwa [zn3] at this
theorem y8l [Dr] (hN:z5a V N) {f φ:Nat} {fn:Func} {as:List Nat} {cs:List KC} {rs:List RC} {F:Tup V.T as->KCs V.T cs->Option (RTup V.T rs)} (h:H V (RTup V.T rs)) (hf:N.P.funcs[f]? = some fn) (hn:Nat.ble (as.length+cs.length) fn.ntmps=true)
  (hF:∀ a b,F a b=fnXc V N φ fn as cs rs h a b) (ho:fnO V N φ fn rs h):zy5 V N.P f ⟨as,cs,rs,F⟩:=by
 intro x y r hr
 simp only at x y r hr
 rw [hF] at hr
 have:=y7z hN (us:=encA V as x++encK V cs y) h hf (by rw [w0c,zqi,zwj]; exact w0m hn) hr ho
 rwa [zr5,zn3] at this
theorem zpj [Dr] {P:Program} {A:Asg} : ∀(ms:List MA) (a:MTup V.T ms) (k:Nat) (y:SV V.T),(encM V ms a)[k]? = some y->∃ B,(msD V P ms a)[k]? = some B/\Ent B (y.den V P A)
 | [],a,k,y,h=>by simp [encM] at h
 | .fn f::ms,a,0,y,h=>by simp [encM] at h; subst h; exact⟨_,rfl,y3o⟩
 | .val c::ms,a,0,y,h=>by simp [encM] at h; subst h; exact⟨_,rfl,Ent.of_eq (z38 V P A c a.1).symm⟩
 | .cmp c::ms,a,0,y,h=>by simp [encM] at h; subst h; exact⟨_,rfl,Ent.refl⟩
 | .fn f::ms,a,k+1,y,h=>zpj ms a.2 k y (by simpa [encM] using h)
 | .val c::ms,a,k+1,y,h=>zpj ms a.2 k y (by simpa [encM] using h)
 | .cmp c::ms,a,k+1,y,h=>zpj ms a.2 k y (by simpa [encM] using h)
theorem zkz [Dr] {P:Program} : ∀(ms:List MA) (a:MTup V.T ms),(msD V P ms a).length=ms.length
 | [],_=>rfl
 | .fn f::ms,a=>by simp [msD,zkz ms]
 | .val c::ms,a=>by simp [msD,zkz ms]
 | .cmp c::ms,a=>by simp [msD,zkz ms]
theorem zot [Dr] (hN:z5a V N) {f φ:Nat} {fn:Func} {E c:Nat} {ms:List MA} {F:List (V.T c)->MTup V.T ms->Option (List (V.T c))} (h:H V (List (V.T c))) (hf:N.P.funcs[f]? = some fn) (hn:Nat.ble (ms.length+1) fn.ntmps=true)
  (hF:∀ l a,F l a=fnM V N φ fn E c ms h l a) (ho:fnMO V N φ fn E c h):znj V N.P f ⟨E,c,ms,F⟩:=by
 intro l a l' sv hr w0 base r w_S w vs hw hl hA
 change F l a=some l' at hr
 rw [hF] at hr
 unfold fnM at hr
 unfold fnMO at ho
 have hle:=w0m hn
 split at hr
 ·rename_i b hb
  rw [hb] at ho
  simp only [w0t,zkz] at hl
  refine zey hf hb ((ycm hN (r:=l') (C:=(⟨w0,base,r,w,fn.ntmps,none,[]⟩:Cx N.P)) φ h).1 [none] b _ ho none [⟨⟨#[sv],[]⟩,none⟩] _ rfl (.inl rfl) ?_ _ _ _ hr ?_)
  ·intro e s a' w' hK hs
   have fin:y9w V fn E c s=some l'->LeavesInM (fz none) 0 N.P fn a'.tmps (retR w0 base r w (fun x objs=>∃ l2,objs = [Px.row E (V.ev c) (V.sz c) l2 sv]/\x=eqv (.tuple #[])/\l2=l')) a'.defers .returning w':=by
    intro hK
    unfold y9w at hK
    cases he:fn.results.isEmpty with
    | false=>rw [he] at hK; cases hK
    | true=>
     rw [he] at hK
     simp only [cond_true] at hK
     obtain⟨hd',hn',hkn',hgb',A',ro',S',hl',hw',hev',hsl',hst'⟩:=hs
     split at hK
     ·rename_i f0 hstk
      split at hK
      ·rename_i j hj
       split at hK
       ·rename_i E' c' l2 hob
        cases hE:Nat.beq E' E with
        | false=>rw [hE] at hK; cases hK
        | true=>
         rw [hE] at hK
         have eE:=w01 hE
         subst eE
         simp only [cond_true] at hK
         split at hK
         ·rename_i ec
          subst ec
          simp only [w00] at hK
          subst hK
          refine zkq hw' hev' hsl' hst' fun w2 g1 g2 g3 g4=>?_
          rw [hstk] at g4
          have hlt:j<A'.length:=by rw [hl']; exact(List.getElem?_eq_some_iff.1 hob).1
          have hq:A'[j]? = some (A'[j]'hlt):=List.getElem?_eq_getElem hlt
          have hsv:=g4.1.1 0 _ (by simp only [slD,hj]; rfl)
          simp only [denE,SV.den,hq] at hsv
          have hsv:sv =(A'[j]'hlt).2:=hsv
          have hres:zft V N s fn.results.toList=some []:=by
           have:fn.results.toList = []:=by simpa using he
           rw [this]; rfl
          obtain⟨v,hv,hvx⟩:=zff g1 g3 hres
          have hsel:zaq (obD V N.P A' A' s.ob) [j] [Px.row E' (V.ev c') (V.sz c') l2 sv]:=⟨⟨_,zn V N.P hq hob,by rw [hsv]; exact EntH.refl⟩,trivial⟩
          exact⟨v,hv,v,_,_,ro',_,rfl,g2.ev,g1.sel hsel rfl,hvx,l2,rfl,rfl,rfl⟩
         ·cases hK
       ·cases hK
      ·cases hK
     ·cases hK
   cases e with
   | ret=>exact fin hK
   | normal=>exact fin hK
   | exit id=>simp [retM] at hK
   | goto l=>simp [retM] at hK
   | panic ch=>simp [retM] at hK
   | outgrown=>simp [retM] at hK
  ·refine⟨trivial,by simp [hl]; omega,trivial,⟨fun t g h=>by simp [lk] at h,fun t ch z hz p hp=>?_,fun p hp=>by simp at hp⟩,[(0,sv)],r,w_S,rfl,hw,⟨Evo.refl _ _ _,⟨⟨[],rfl,List.nodup_nil,fun _ h=>by cases h⟩,List.nodup_nil,fun p h=>by cases h⟩⟩,?_,⟨fun t X hX=>?_,trivial,⟨fun t g h=>by simp [lk] at h,fun t ch z hz p hp=>?_,fun p hp=>by simp at hp⟩,(fun x e=>by cases e),rfl⟩,trivial⟩
   ·rw [zb9] at hz
    simp only [w23,if_true,w0z,w05] at hz
    obtain⟨_,_,rfl,_⟩:=hz
    simp at hp
   ·intro t X hX
    simp only [slD,zb9,w23,if_true,w2h,Option.map_map,w0z] at hX
    obtain⟨y,hy,rfl⟩:=hX
    have key:∃ B,(eqv sv::msD V N.P ms a)[t]? = some B/\Ent B (y.den V N.P [(0,sv)]):=by
     cases t with
     | zero=>simp at hy; subst hy; exact⟨_,rfl,Ent.refl⟩
     | succ t=>obtain⟨B,h1,h2⟩:=zpj (P:=N.P) (A:=[(0,sv)]) ms a t y (by simpa using hy); exact⟨B,by simpa using h1,h2⟩
    obtain⟨B,hB,hE⟩:=key
    have:=hE _ _ _ (hA t B hB)
    have hvt:t<vs.size:=by
     have:=(List.getElem?_eq_some_iff.1 hB).1
     simp only [w0t,zkz] at this
     omega
    simpa [denE,Array.getD_eq_getD_getElem?,Array.getElem?_append,hvt] using this
   ·have hX2 :(lk [((0:Nat),(([]:Ch),(SV.own 0:SV V.T)))] t).map (denE V N.P [(0,sv)] [])=some X:=hX
    rw [z05] at hX2
    split at hX2
    ·rename_i e0
     subst e0
     simp only [w0j,w00] at hX2
     subst hX2
     exact(rfl:sv=sv)
    ·simp [lk] at hX2
   ·have hz2:lk [((0:Nat),(([]:Ch),(SV.own 0:SV V.T)))] t=some (ch,z):=hz
    rw [z05] at hz2
    split at hz2
    ·cases hz2; simp at hp
    ·simp [lk] at hz2
 ·cases hr
theorem zt3 {α:Type} {Q:Nat->α->Prop} : ∀ {l:List (Nat×α)},AllP (fun p=>Q p.1 p.2) l->∀ f x,lk l f=some x->Q f x
 | [],_,f,x,h=>by cases h
 |(k,y)::l,hl,f,x,h=>by
  rw [z05] at h
  by_cases e:f=k
  ·rw [if_pos e] at h; cases h; subst e; exact hl.1
  ·rw [if_neg e] at h; exact zt3 hl.2 f x h
theorem z0a [Dr] {P:Program} {l:List (Nat×Fsp V)} {m:List (Nat×Msp V)} {n:List (Nat×Csp V)} {s:List (Nat×SoSp)} (h:AllP (fun p=>z2j V P p.1 p.2) l) (hm:AllP (fun p=>znj V P p.1 p.2) m) (hn:AllP (fun p=>zy5 V P p.1 p.2) n)
  (hs:AllP (fun p=>SoOK V P p.1 p.2) s):z5a V (⟨P,lk l,lk m,lk n,lk s⟩:Env V):=
 ⟨fun f sp hf=>zt3 hn f sp hf,fun f sp hf=>zt3 hm f sp hf,fun f sp hf=>zt3 h f sp hf,fun f sp hf=>zt3 hs f sp hf⟩
end
end Px
end
