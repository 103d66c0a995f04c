/- A part of the proof of emptiesMatchesReference_holds. Conditions: none. -/
import Derived.Test.YtcofccdjgfgeeaaGreatKiaa
import Derived.OpenShut
import Derived.ChangeKeysEq
import Derived.MapKept
import Derived.Carry
import Derived.Lib.AppendZeros
import Derived.Laws.Slices
import Derived.Laws.IdiomRangeMap
import Derived.Still
set_option linter.unusedVariables false
set_option linter.unusedSimpArgs false
section
namespace Px
open Go Go.RowKit
theorem Opn.array{P:Program}{α:Type}[Inhabited α]{t E:TypeId}{N n m:Nat}{e:α->List VP}{R:α->Prop}(ht:P.underlying t=some (.array N E))(hn:P.cellsOf E=n)(hm:P.cellsOf t=m)(a0:m=N*n)(he:Opn P E n e R):
  Opn P t m (λf=>arr N e f) (λf:Nat->α=>∀i,i<N->R (f i)):=by
 intro H enc w sp a1 fuel cs x h;obtain⟨xs,k,_,_,hl,hx,z⟩:=DataW.trod_array ht h;rw[hm] at hl;rw[hn] at z;have u:∀i,∃y:α,i<N->R y/\zr (λb=>b<w.heap.size) w (e y) ((cs.drop (i*n)).take n):=by
  intro i;by_cases g:i<N
  .have h1:=z i g;rw[w0c (by omega)] at h1;obtain⟨_,y,hR,hc⟩:=he _ _ _ _ _ _ _ _ h1;exact⟨y,λ_=>⟨hR,hc⟩⟩
  .exact⟨default,λh=>absurd h g⟩
 have hf:∃f:Nat->α,∀i,i<N->R (f i)/\zr (λb=>b<w.heap.size) w (e (f i)) ((cs.drop (i*n)).take n):=⟨λi=>Classical.choose (u i),λi=>Classical.choose_spec (u i)⟩;obtain⟨f,hf⟩:=hf;refine⟨hl,f,λi g=>(hf i g).1,?_⟩;have key:∀d i,N-i=d->i<=N->zr (λb=>b<w.heap.size) w ((List.range' i (N-i)).flatMap λj=>e (f j)) (cs.drop (i*n)):=by
  intro d
  induction d with
  |zero=>
   intro i hd g;have:i=N:=by omega
   subst this;rw[Nat.sub_self];exact zr.tile0 (by rw[hl,a0])
  |succ d ih=>intro i hd g;rw[hd,w4p,w0u];have h2:=ih (i+1) (by omega) (by omega);rw[show N-(i+1)=d by omega,w1s,w3x] at h2;exact zr.tile (hf i (by omega)).2 h2
 have:=key N 0 (by omega) (by omega);rw[Nat.zero_mul,w3p,w3f,<- w45] at this;exact this
end Px
end
section
namespace Px
open Go Go.RowKit
def fnc(f:FuncId)(Xs:List VP):VP:=
 ⟨λr w v=>∃caps:Array Value,v = .func (.func f) #[] caps/\caps.size=Xs.length/\∀(i:Nat)(A:VP),Xs[i]? = some A->A.h r w (caps.getD i undef),
  λh1 h2 ⟨caps,e,hl,hh⟩=>⟨caps,e,hl,λi A hi=>A.wk h1 h2 (hh i A hi)⟩⟩
theorem FzVs.at{sv:Value}{X:VP}: ∀{l m:List VP},FzVs sv X l m->l.length=m.length/\∀(i:Nat)(B:VP),m[i]? = some B->∃A,l[i]? = some A/\FzV sv X A B
 | [],[],_=>⟨rfl,λi B h=>by simp at h⟩
 |A::l,B::m,⟨j,u⟩=>by
  obtain⟨f,g⟩:=FzVs.at u;refine⟨by simp[f],λi D d=>?_⟩;cases i with
  |zero=>simp at d;subst d;exact⟨A,rfl,j⟩
  |succ i=>simpa using g i D (by simpa using d)
 | [],_::_,h=>h.elim
 |_::_,[],h=>h.elim
theorem FzV.fnc2{sv:Value}{X:VP}{f:FuncId}{g d:List VP}(h:FzVs sv X g d):FzV sv X (Px.fnc f g) (Px.fnc f d):=by rintro r w v hx ⟨caps,rfl,hl,hh⟩;obtain⟨j,u⟩:=h.at;refine⟨caps,rfl,hl.trans j,λi A hi=>?_⟩;obtain⟨B,z,hf⟩:=u i A hi;exact hf r w _ hx (hh i B z)
theorem y8w{f:FuncId}: Ent (eqv (.func (.func f) #[] #[])) (fnc f []):=λr w v h=>⟨#[],h,rfl,λi A d=>by simp at d⟩
def fcmp[Dr](P:Program){α:Type}(eA:α->VP)(cmp:α->α->Option Int):VP:=
 ⟨λro w v=>∃f caps,v = .func (.func f) #[] caps/\FnOK P f/\∀x y c,cmp x y=some c->∀(r:Nat->Prop)(w':World)(vx vy:Value),(∀b,r b->b<w'.heap.size)->(∀b,ro b->r b)->(∀b,ro b->¬Rec w.heap[b]?->w'.heap[b]? = w.heap[b]?)->
   (eA x).h r w' vx->(eA y).h r w' vy->Calls P f (#[vx,vy]++caps) w' (retR w' w'.heap.size r w' (λX news=>X=iv .i64 c/\news = [])),
  λh1 h2 ⟨f,caps,e,hf,hh⟩=>⟨f,caps,e,hf,λx y c hc r w' vx vy hr hs hw=>hh x y c hc r w' vx vy hr (λb hb=>hs b (h1 b hb)) (λb hb hr=>have e:=h2 b hb hr;(hw b (h1 b hb) (by rw[e];exact hr)).trans e)⟩⟩
theorem zoq[Dr]{P:Program}{α:Type}{eA:α->VP}{j:α->α->Option Int}{f:FuncId}{Xs:List VP}(hf:FnOK P f)
  (h:∀x y c,j x y=some c->zdv P f ([eA x,eA y]++Xs) (λX news=>X=iv .i64 c/\news = [])):Ent (fnc f Xs) (fcmp P eA j):=by
 rintro r w v ⟨caps,rfl,hl,hh⟩;refine⟨f,caps,rfl,hf,λx y c hc r' w' z vy hr u g hx hy=>?_⟩;refine h x y c hc r' w' (#[z,vy]++caps) hr (by simp[hl];omega) λi A d=>?_
 match i,d with
 |0,d=>
  have e :(#[z,vy]++caps).getD 0 undef=z:=by simp[w07,w1a]
  rw[e];simp at d;subst d;exact hx
 |1,d=>
  have e :(#[z,vy]++caps).getD 1 undef=vy:=by simp[w07,w1a]
  rw[e];simp at d;subst d;exact hy
 |i+2,d=>
  have a0:Xs[i]? = some A:=by simpa using d
  have:=hh i A a0;have e :(#[z,vy]++caps).getD (i+2) undef=caps.getD i undef:=by rw[w07,w07,Array.getElem?_append_right (by simp)];rfl
  rw[e];exact A.wk u g this
section loud
variable{P:Program}{C:Cx P}{s:St}{K:VP->List HP->Prop}{tab:Tab}{o:Oper}
end loud
section ops
variable{P:Program}{C:Cx P}{s:St}{dst:Option Tmp}{ty:TypeId}{pos:String}{after:Array Edge}{guard:Option (Nat×Bool)}{K:VP->List HP->Prop}
theorem yj1[Dr]{α:Type}{z:α->VP}{g:α->α->Option Int}{fo a b:Operand}{ts:Array TypeId}{x y:α}{c:Int}(a0:Ev s fo (fcmp P z g))(ha:Ev s a (z x))(j:Ev s b (z y))(hc:g x y=some c):
  OpQ C ⟨dst,.call { callee:=.value fo,args:=#[a,b],argTypes:=ts },ty,pos,after,guard⟩ s (iv .i64 c):=by
 intro t w r S Q hd hn hw hs;obtain⟨f,caps,hv,⟨fn,h1,h2,h3⟩,d⟩:=a0 t r w hs;unfold Oper.wp;have u :(execOp t.eval ⟨dst,.call { callee:=.value fo,args:=#[a,b],argTypes:=ts },ty,pos,after,guard⟩).run P w = .ok (.enter f (#[t.eval a,t.eval b]++caps)) w:=by simp[execOp,resolve,hv,Deferred.ofValue,invoke,z2w h1 h2 h3]
 rw[u,Oper.upon_enter];refine(d x y c hc r w _ _ hw.old (λ_ h=>h) (λ_ _ _=>rfl) (ha t r w hs) (j t r w hs)).mono ?_;rintro e w' ⟨v,X,news,r',S',rfl,he,a1,hx,rfl,rfl⟩;have a2:v = .int .i64 c:=hx;refine⟨v,r,_,_,_,rfl,⟨λ_ h=>h,λb j=>he.2.1 b j,λ_ h=>.inl h⟩,hw.join a1 r (λ_ h=>h) (λb j=>.inl j) (λi H hi=>by simp at hi),a2,rfl,by simp⟩
def MutT[Dr](P:Program)(f:FuncId)(args:List VP){α:Type}(E:TypeId)(e:α->List VP)(sz:Nat)(l:List α)(sv:Value)(K:VP->List α->Prop):Prop:=∀w0 base,ymn P w0 base f args [row E e sz l sv] λx objs=>∃l',objs = [row E e sz l' sv]/\K x l'
end ops
section fzb
variable{P:Program}{C:Cx P}{s:St}{Q:Exit->Act->World->Prop}{c:Code}{e:Exit}{ops:Array Oper}{l:List Nat}{b:Nat}{T:TypeId}{cs:List VP}
end fzb
end Px
end
section
namespace Px
open Go Go.RowKit
def zrm(P:Program)(t:TypeId)(vs:Array Value)(off:Nat):Option Value:=match z5n P t with
 |some (true,n)=>some (.agg (vs.extract off (off+n)))
 |some (false,1)=>vs[off]?
 |_=>none
theorem zgi{P:Program}{t:TypeId}{vs:Array Value}{off:Nat}{u:Value}(w:World)(h:zrm P t vs off=some u):(part t vs off).run P w = .ok u w:=by
 unfold zrm at h;split at h
 .rename_i n d;cases h;exact zz7 w d
 .rename_i d;exact zkn w d h
 .cases h
def eqL(g:Field->Option Bool):List Field->Option Bool
 | []=>some true
 |f::fs=>match g f,eqL g fs with
  |some a,some b=>some (a&&b)
  |_,_=>none
def y8l:Option TypeDesc->Value->Value->Option Bool
 |some (.int _),.int k a,.int k' b=>if k==k' then some (a==b) else none
 |some .bool,.bool a,.bool b=>some (a==b)
 |some .string,.string a,.string b=>some (a==b)
 |_,_,_=>none
def eqI(g:Nat->Option Bool):List Nat->Option Bool
 | []=>some true
 |j::l=>match g j,eqI g l with
  |some a,some b=>some (a&&b)
  |_,_=>none
def eqN(P:Program):Nat->TypeId->Value->Value->Option Bool
 |0,_,_,_=>none
 |n+1,t,u,v=>match P.underlying t,u,v with
  | some (.struct fs), .agg xs, .agg ys => if P.stoodInHeld t then none else eqL (fun f => if f.name == "_" then none else match zrm P f.type xs f.offset, zrm P f.type ys f.offset with | some a, some b => eqN P n f.type a b | _, _ => none) fs.toList
  |some (.array m e),.agg xs,.agg ys=>match P.info? e with
   |some i=>eqI (λj=>match zrm P e xs (j*i.size),zrm P e ys (j*i.size) with|some a,some b=>eqN P n e a b|_,_=>none) (List.range m)
   |none=>none
  |d,u,v=>y8l d u v
theorem yjn{P:Program}(w:World):∀(n d:Nat)(t:TypeId)(u v:Value)(g:Bool),eqN P n t u v=some g->(Op.equalIn (d+n) t u v).run P w = .ok g w:=by
 intro n
 induction n with
 |zero=>intro d t u v g h;cases h
 |succ n ih=>
  intro d t u v g h;rw[<- w2v];unfold eqN at h;split at h
  .rename_i fs xs ys z;split at h
   .cases h
   rename_i hs;have hf:P.fieldsOf t=fs:=by simp[Program.fieldsOf,z]
   rw[run_equalIn_struct w (d+n) t xs ys (by rw[hf,z]) (by simpa using hs),hf];generalize fs.toList=l at h
   induction l generalizing g with
   |nil=>simp only[eqL,w01] at h;subst h;simp[Op.eqFields]
   |cons f l a0=>
    unfold eqL at h;split at h
    .rename_i a b ha hb;cases h;split at ha
     .cases ha
     rename_i hn;split at ha
     .rename_i p q hp hq;have e1:=ih d f.type p q a ha;have e2:=a0 b hb;simp only[beq_iff_eq] at hn;simp only[Op.eqFields,ne_eq,hn,not_false_eq_true,if_true,w08,zgi w hp,zgi w hq,w06,e1];cases a with
      |false=>simp
      |true=>simpa using e2
     .cases ha
    .cases h
  .rename_i m e xs ys z;split at h
   .rename_i i hi;rw[run_equalIn_array w (d+n) xs ys z hi];have hc:P.cellsOf e=i.size:=by simp[Program.cellsOf,hi]
    rw[hc];generalize List.range m=l at h
    induction l generalizing g with
    |nil=>simp only[eqI,w01] at h;subst h;simp[Op.eqItems]
    |cons j l a0=>
     unfold eqI at h;split at h
     .rename_i a b ha hb;cases h;split at ha
      .rename_i p q hp hq;have e1:=ih d e p q a ha;have e2:=a0 b hb;simp only[Op.eqItems,w08,zgi w hp,zgi w hq,w06,e1];cases a with
       |false=>simp
       |true=>simpa using e2
      .cases ha
     .cases h
   .cases h
  .rename_i dd u' v' a2 a1;unfold y8l at h;split at h
   .rename_i k k1 a k2 b z;split at h
    .rename_i hk;cases h;simp only[beq_iff_eq] at hk;subst hk;exact run_equalIn_int w (d+n) t _ _ _ _ z
    .cases h
   .rename_i a b z;cases h;exact run_equalIn_bool' w (d+n) t _ _ z
   .rename_i a b z;cases h;rw[run_equalIn_string w (d+n) t _ _ z,<- beq_toListBytes]
   .cases h
theorem zm8{P:Program}{t:TypeId}{u v:Value}{g:Bool}(w:World)(h:eqN P 8 t u v=some g):(Op.equal t u v).run P w = .ok g w:=yjn w 8 9992 t u v g h
section strs
variable{P:Program}{C:Cx P}{s:St}{dst:Option Tmp}{ty:TypeId}{pos:String}{after:Array Edge}{guard:Option (Nat×Bool)}{K:VP->List HP->Prop}
theorem yls[Dr]{t:TypeId}{x:Operand}{b:ByteArray}(g:P.underlying t=some .string)(h:Ev s x (eqv (.string b))):
  OpQ C ⟨dst,.call { callee:=.builtin .len,args:=#[x],argTypes:=#[t] },ty,pos,after,guard⟩ s (iv .i64 (b.size:Int)):=
 .val λa r w f=>by
  have d:=h a r w f;simp only[eqv] at d;exact⟨_,z7r (by rw[d];simp[Builtin.len_,run_underlying g,goInt]),rfl⟩
theorem yj4[Dr]{t t':TypeId}{x y:Operand}{m n:ByteArray}(u:P.underlying t=some .string)(h:Ev s x (eqv (.string m)))(j:Ev s y (eqv (.string n))):
  OpQ C ⟨dst,.binOp .eql t x y t',ty,pos,after,guard⟩ s (bv (m==n)):=
 .val λa ro w g=>by
  have d:=h a ro w g;have f:=j a ro w g;simp only[eqv] at d f;refine⟨_,?_,rfl⟩;simp[execOp,d,f,eqGuard,binOp,Op.stringOp,beq_toListBytes]
theorem yj6[Dr]{t t':TypeId}{x y:Operand}{m n:ByteArray}(u:P.underlying t=some .string)(h:Ev s x (eqv (.string m)))(j:Ev s y (eqv (.string n))):
  OpQ C ⟨dst,.binOp .neq t x y t',ty,pos,after,guard⟩ s (bv (m !=n)):=
 .val λa ro w g=>by
  have d:=h a ro w g;have f:=j a ro w g;simp only[eqv] at d f;refine⟨_,?_,rfl⟩;simp[execOp,d,f,eqGuard,binOp,Op.stringOp,bne,beq_toListBytes]
end strs
end Px
end
section
namespace Px
open Go Go.RowKit
set_option linter.unusedSectionVars false
def setB(w:World)(b:Nat)(o:Obj):World:={ w with heap:=w.heap.setIfInBounds b o }
def mget{κ ν:Type}[BEq κ]:List (κ×ν)->κ->Option ν
 | [],_=>none
 |(a,b)::m,k=>bif k==a then some b else mget m k
def mset{κ ν:Type}[BEq κ]:List (κ×ν)->κ->ν->List (κ×ν)
 | [],k,v=>[(k,v)]
 |(a,b)::m,k,v=>bif k==a then(k,v)::m else(a,b)::mset m k v
def fnd{κ:Type}[BEq κ](k:κ):List κ->List MapEntry->Nat->Option (Nat×Value)
 |a::ks,e::es,i=>bif k==a then some (i,e.val) else fnd k ks es (i+1)
 |_,_,_=>none
structure yk6(P:Program)(kt:TypeId){κ:Type}[BEq κ](eK:κ->Value):Prop where
 check:∀w e k,(Instr.checkKey e 10000 kt (eK k)).run P w = .ok () w
 find:∀w k(es:List MapEntry)(ks:List κ),es.map (·.key)=ks.map eK->(Instr.findKey kt (eK k) es).run P w = .ok (fnd k ks es 0) w
 stays:∀w k k',(k==k')=true->(Instr.keyThatStays (eK k') (eK k)).run P w = .ok (eK k) w
theorem zos{d:TypeDesc}{q:IntKind}(g:d = .int q)(k:Int):∀(es:List MapEntry)(f:List Int)(i:Nat),es.map (·.key)=f.map (Value.int q)->Instr.findNow d (.int q k) es i=some (fnd k f es i)
 | [],[],i,_=>rfl
 |e::es,a::f,i,h=>by
  subst g;simp only[w0l,w2i] at h;unfold Instr.findNow fnd;rw[h.1];simp only[Instr.sameNow,if_true];cases j:k==a with
  |true=>rfl
  |false=>exact zos rfl k es f (i+1) h.2
 | [],_::_,_,h=>by simp at h
 |_::_,[],_,h=>by simp at h
theorem keyI{P:Program}{d:TypeId}{q:IntKind}(f:P.underlying d=some (.int q)):yk6 P d (κ:=Int) (Value.int q) where
 check w e k:=by show (Instr.checkKey e (9999+1) d (.int q k)).run P w=_;rw[Instr.checkKey];simp[run_underlying f]
 find w k es j h:=by simp[Instr.findKey,run_underlying f,zos rfl k es j 0 h]
 stays w k g h:=by
  have:k=g:=by simpa using h
  subst this;simp[Instr.keyThatStays,Instr.sameBits]
def tz1(P:Program)(t:TypeId):Option Value:=(P.info? t).bind (·.zero)
theorem zme{P:Program}{t:TypeId}{z:Value}(h:tz1 P t=some z)(w:World):(zeroValue t).run P w = .ok z w:=by
 unfold tz1 at h;cases d:P.info? t with
 |none=>rw[d] at h;simp at h
 |some i=>rw[d] at h;have f:i.zero=some z:=h;simp[zeroValue,typeInfo,d,f]
section ptrs
variable{P:Program}{C:Cx P}{s:St}{dst:Option Tmp}{ty:TypeId}{pos:String}{after:Array Edge}{guard:Option (Nat×Bool)}
end ptrs
section map
variable{κ ν:Type}[BEq κ]{eK:κ->Value}{eV:ν->Value}
theorem zje{k:κ}: ∀{m:List (κ×ν)}{es:List MapEntry}{i:Nat},es.map (λe=>(e.key,e.val))=m.map (λp=>(eK p.1,eV p.2))->fnd k (m.map (·.1)) es i=none->mget m k=none
 | [],[],i,_,_=>rfl
 |(a,b)::m,e::es,i,h,d=>by
  simp only[w0l,w2i] at h;simp only[w0l,fnd] at d;unfold mget;cases f:k==a with
  |true=>rw[f] at d;cases d
  |false=>rw[f] at d;exact zje h.2 d
 | [],_::_,_,h,_=>by simp at h
 |_::_,[],_,h,_=>by simp at h
theorem zjf{k:κ}: ∀{m:List (κ×ν)}{es:List MapEntry}{i j:Nat}{u:Value},es.map (λe=>(e.key,e.val))=m.map (λp=>(eK p.1,eV p.2))->fnd k (m.map (·.1)) es i=some (j,u)->
  i<=j/\(∃v,mget m k=some v/\u=eV v)/\(∃g,(k==g)=true/\∃e,es[j-i]? = some e/\e.key=eK g)/\∀f,(es.modify (j-i) λe=>{ e with key:=eK k,val:=eV f }).map (λe=>(e.key,e.val)) =(mset m k f).map (λp=>(eK p.1,eV p.2))
 | [],[],i,j,u,_,d=>by simp[fnd] at d
 |(a,b)::m,e::es,i,j,u,h,d=>by
  simp only[w0l,w2i,w0k] at h;simp only[w0l,fnd] at d;unfold mget mset;cases hk:k==a with
  |true=>rw[hk] at d;simp only[cond_true,w01,w0k] at d;obtain⟨rfl,rfl⟩:=d;refine⟨w16 _,⟨b,rfl,h.1.2⟩,⟨a,hk,e,by simp,h.1.1⟩,λf=>?_⟩;simp[h.2]
  |false=>
   rw[hk] at d;obtain⟨h1,h2,⟨g,a0,e',z,a1⟩,h4⟩:=zjf h.2 d;have e1:j-i =(j-(i+1))+1:=by omega
   refine⟨by omega,h2,⟨g,a0,e',by rw[e1];simpa using z,a1⟩,λf=>?_⟩;rw[e1];simp[h4 f,h.1.1,h.1.2]
 | [],_::_,_,_,_,h,_=>by simp at h
 |_::_,[],_,_,_,h,_=>by simp at h
variable{P:Program}{C:Cx P}{s:St}{dst:Option Tmp}{ty:TypeId}{pos:String}{after:Array Edge}{guard:Option (Nat×Bool)}{K:VP->List HP->Prop}
theorem z1v(w:World)(b d:Nat)(o:Obj)(h:d≠b):(setB w b o).heap[d]? = w.heap[d]?:=by unfold setB;simp only;rw[w35 (λe=>h e.symm)]
theorem z4u(w:World)(b:Nat)(o:Obj)(h:b<w.heap.size):(setB w b o).heap[b]? = some o:=by unfold setB;simp[h]
theorem OpT.storeB[Dr]{o:Oper}(a0:o.dst=none)(i:Nat)(H:HP)(hi:i<s.objs.length)
  (hr:∀a r S w,WInv C.w0 C.base s.objs r S w->zj s.slots a r w->∃b ob,S i b/\(execOp a.eval o).run P w = .ok .skip (setB w b ob)/\H.h (S i) r (setB w b ob))
  (k:K topv (s.objs.set i H)):OpT C o s K:=by
 intro a w r S Q hd hn u hs;obtain⟨b,ob,hS,h,hH⟩:=hr a r S w u hs;unfold Oper.wp;rw[h,Oper.upon_skip];have g:∀d,d<w.heap.size->¬S i d->(setB w b ob).heap[d]? = w.heap[d]?:=λd _ f=>z1v w b d ob (λe=>f (e ▸ hS))
 exact⟨undef,r,_,topv,_,rfl,u.evo_repl i g,u.repl i H (S i) hi rfl ⟨rfl,w16 _⟩ rfl (by simp[setB]) g (λd f=>by obtain⟨h1,h2,h3,h4⟩:=u.own i d f;exact⟨h2,by simpa[setB] using h3,h4,λj hj z=>hj (u.apart j i d z f)⟩) hH,trivial,k⟩
end map
end Px
end
section
namespace Px
open Go Go.RowKit
set_option linter.unusedSectionVars false
def Ents:List VP->List VP->Prop
 | [],[]=>True
 |A::As,B::Bs=>Ent A B/\Ents As Bs
 |_,_=>False
theorem Ents.ok:∀{As d:List VP},Ents As d->As.length=d.length/\∀(j:Nat)(B:VP),d[j]? = some B->∃A,As[j]? = some A/\Ent A B
 | [],[],_=>⟨rfl,λj B h=>by simp at h⟩
 |A::As,B::d,⟨h,z⟩=>by
  obtain⟨g,u⟩:=Ents.ok z;refine⟨by simp[g],λj D f=>?_⟩;cases j with
  |zero=>simp at f;subst f;exact⟨A,rfl,h⟩
  |succ j=>simpa using u j D (by simpa using f)
 | [],_::_,h=>h.elim
 |_::_,[],h=>h.elim
theorem Ent.nil{α:Type}{e:α->List VP}{sz:Nat}: Ent (eqv (.slice none 0 0)) (ro e sz []):=λr w v h=>.inl ⟨⟨none,0,h⟩,rfl⟩
theorem Ent.agg{cs g:List VP}(h:Ents cs g):Ent (agg cs) (agg g):=by rintro r w v ⟨vs,rfl,hh⟩;obtain⟨z,h2⟩:=h.ok;refine⟨vs,rfl,by rw[<- z];exact hh.1,λj B hj=>?_⟩;obtain⟨A,hA,f⟩:=h2 j B hj;obtain⟨u,hu,d,ho⟩:=hh.2 j A hA;exact⟨u,hu,f _ _ _ d,ho⟩
section ops
variable{P:Program}{C:Cx P}{s:St}{dst:Option Tmp}{ty:TypeId}{pos:String}{after:Array Edge}{guard:Option (Nat×Bool)}{K:VP->List HP->Prop}
theorem y6b{t:TypeId}(h:isSl P t=true):∃e,P.underlying t=some (.slice e):=by
 unfold isSl at h;split at h
 .rename_i e d;exact⟨e,d⟩
 .cases h
theorem yeg[Dr]{t:TypeId}{x:Operand}(g:isSl P t=true)(h:Ev s x (eqv (.slice none 0 0))):
  OpQ C ⟨dst,.call { callee:=.builtin .cap,args:=#[x],argTypes:=#[t] },ty,pos,after,guard⟩ s (iv .i64 0):=
 .val λa r w f=>by
  have d:=h a r w f;simp only[eqv] at d;obtain⟨e,j⟩:=y6b g;exact⟨_,by simp[execOp,resolve,invoke,builtin,Builtin.cap_,run_underlying j,goInt,d],rfl⟩
theorem yem[Dr]{t:TypeId}{x:Operand}(g:isSl P t=true)(h:Ev s x (eqv (.slice none 0 0))):
  OpQ C ⟨dst,.call { callee:=.builtin .len,args:=#[x],argTypes:=#[t] },ty,pos,after,guard⟩ s (iv .i64 0):=
 .val λa r w f=>by
  have d:=h a r w f;simp only[eqv] at d;exact⟨_,z7r (by rw[d];exact z9e w g),rfl⟩
end ops
section freeze
variable{P:Program}{C:Cx P}{s:St}{Q:Exit->Act->World->Prop}{ops:Array Oper}{tab:Tab}{D:List Nat}{QR:List (Nat×VP)}
end freeze
end Px
end
section
namespace Px
open Go Go.RowKit
section
variable{P:Program}{C:Cx P}{ops:Array Oper}{i:Nat}{rest:List Nat}{s:St}{Q:Exit->Act->World->Prop}{o:Oper}
def sel2(C:Cx P)(ops:Array Oper)(i:Nat):Option (Oper×Bool×Nat):=match ops[i]? with
 |some o=>match o.guard with
  |some g=>match (ops[g.1]?).bind (·.dst) with
   |some t=>bif z8g C o then some (o,g.2,t) else none
   |none=>none
  |none=>none
 |none=>none
theorem y2f{C:Cx P}{want:Bool}{t:Nat}(h:sel2 C ops i=some (o,want,t)):ops[i]? = some o/\(∃j,o.guard=some (j,want)/\(ops[j]?).bind (·.dst)=some t)/\z8g C o=true:=by
 unfold sel2 at h;split at h
 .rename_i p u;split at h
  .rename_i g f;split at h
   .rename_i t' z;cases d:z8g C p with
    |false=>rw[d] at h;cases h
    |true=>rw[d] at h;cases h;exact⟨u,⟨g.1,f,z⟩,d⟩
   .cases h
  .cases h
 .cases h
theorem g1[Dr]{x:VP}{g want:Bool}{t:Nat}(d:sel2 C ops i=some (o,want,t))(z:s.slots t=some (bv g))(u:g=want->OpQ C o s x)
  (h:zim C ops rest ⟨s.slots.set o.dst (cnd (g=want) x),s.objs⟩ Q):zim C ops (i::rest) s Q:=
 let ⟨_,f,j⟩:=(y2f d).2.1
 zim.cons_g x g (y2f d).1 f (y2f d).2.2 j z u h
section calls
variable{ty:TypeId}{pos:String}{after:Array Edge}{guard:Option (Nat×Bool)}{dst:Option Tmp}
end calls
end
end Px
end
section
namespace Px
open Go Go.RowKit
section
variable{w0 w:World}{base:Nat}{objs:List HP}{r:Nat->Prop}{S:Nat->Nat->Prop}
theorem WInv.split[Dr](h:WInv w0 base objs r S w)(i:Nat){H1 H2:HP}(hi:i<objs.length)(z g:Nat->Prop)(h1:H1.h z r w)(h2:H2.h g r w)(s1:∀b,z b->S i b)(s2:∀b,g b->S i b)(sd:∀b,z b->¬g b):
  ∃S',WInv w0 base (objs.set i H1++[H2]) r S' w:=by
 have hS:∀j b,(if j=i then z b else if j=objs.length then g b else j<objs.length/\S j b)->(∃f,S f b/\f<objs.length/\((j=i/\f=i)\/(j=objs.length/\f=i)\/(j≠i/\j≠objs.length/\f=j))):=by
  intro j b u;split at u
  .exact⟨i,s1 b u,hi,.inl ⟨by assumption,rfl⟩⟩
  .split at u
   .exact⟨i,s2 b u,hi,.inr (.inl ⟨by assumption,rfl⟩)⟩
   .exact⟨j,u.2,u.1,.inr (.inr ⟨by assumption,by assumption,rfl⟩)⟩
 refine⟨λj b=>if j=i then z b else if j=objs.length then g b else j<objs.length/\S j b,h.below,h.size,?_,?_,?_,h.old⟩
 .intro j H d;by_cases c:j<objs.length
  .rw[w0r (by simpa using c),w2a] at d;by_cases e:i=j
   .subst e;simp only[c,if_true,w01] at d;subst d;simpa using h1
   .rw[if_neg e] at d;have:=h.obj j H d;have e2 :(λb=>if j=i then z b else if j=objs.length then g b else j<objs.length/\S j b)=S j:=by funext b;rw[if_neg (λq=>e q.symm),if_neg (by omega)];exact propext ⟨λq=>q.2,λq=>⟨c,q⟩⟩
    rw[e2];exact this
  .rw[w18 (by simpa using c)] at d;simp only[w2o] at d;have e:j=objs.length:=by have:=(w04.1 d).1;simp at this;omega
   subst e;simp at d;subst d;have e2 :(λb=>if objs.length=i then z b else if objs.length=objs.length then g b else objs.length<objs.length/\S objs.length b)=g:=by funext b;rw[if_neg (by omega),if_pos rfl]
   rw[e2];exact h2
 .intro j b u;obtain⟨f,a0,hl,hc⟩:=hS j b u;obtain⟨_,q2,q3,q4⟩:=h.own f b a0;refine⟨?_,q2,q3,q4⟩;simp only[w0h,w2o,w0o,w2h];omega
 .intro j k b d hk;obtain⟨f,a1,_,cj⟩:=hS j b d;obtain⟨k',a2,_,ck⟩:=hS k b hk;have e:=h.apart f k' b a1 a2;by_cases c1:j=i
  .by_cases c2:k=objs.length
   .exfalso;simp only[c1,if_true] at d;simp only[c2,if_true] at hk;rw[if_neg (by omega)] at hk;exact sd b d hk
   .omega
  .by_cases c2:j=objs.length
   .by_cases c3:k=i
    .exfalso;simp only[c3,if_true] at hk;simp only[c2,if_true] at d;rw[if_neg (by omega)] at d;exact sd b hk d
    .omega
   .omega
theorem WInv.fuse[Dr](h:WInv w0 base objs r S w)(i j:Nat){u z H:HP}(g:i≠j)(hi:objs[i]? = some u)(hj:objs[j]? = some z)
  (hH:u.h (S i) r w->z.h (S j) r w->(∀b,S i b->¬S j b)->H.h (λb=>S i b\/S j b) r w):∃S',WInv w0 base ((objs.set i H).set j emp) r S' w:=by
 have li:=(w04.1 hi).1;refine⟨λk b=>if k=i then S i b\/S j b else k≠j/\S k b,h.below,h.size,?_,?_,?_,h.old⟩
 .intro k H' hk;rw[w2a] at hk;by_cases e:j=k
  .subst e;split at hk
   .split at hk
    .cases hk;trivial
    .cases hk
   .rename_i q;exact absurd rfl q
  .rw[if_neg e,w2a] at hk;by_cases d:i=k
   .subst d;simp only[li,if_true,w01] at hk;subst hk;simp only[if_true];exact hH (h.obj _ _ hi) (h.obj _ _ hj) λb hb f=>g (h.apart i j b hb f)
   .rw[if_neg d] at hk;have e3 :(λb=>if k=i then S i b\/S j b else k≠j/\S k b)=S k:=by funext b;rw[if_neg (λq=>d q.symm)];exact propext ⟨λq=>q.2,λq=>⟨λq=>e q.symm,q⟩⟩
    rw[e3];exact h.obj _ _ hk
 .intro k b hb;simp only[w2o];split at hb
  .rename_i e;subst e;rcases hb with hb|hb
   .exact h.own _ b hb
   .obtain⟨_,q⟩:=h.own _ b hb;exact⟨li,q⟩
  .exact h.own _ b hb.2
 .intro k m b hk hm;split at hk<;>split at hm
  .omega
  .rcases hk with hk|hk
   .have:=h.apart _ _ b hk hm.2;omega
   .exact absurd (h.apart _ _ b hk hm.2).symm hm.1
  .rcases hm with hm|hm
   .have:=h.apart _ _ b hk.2 hm;omega
   .exact absurd (h.apart _ _ b hk.2 hm) hk.1
  .exact h.apart _ _ b hk.2 hm.2
end
def nst{β:Type}(E:TypeId)(I:β->Value->HP)(l:List β)(hole:Option (Nat×Value))(sv:Value):HP:=
 ⟨λS r w=>∃(vs:List Value)(S0:Nat->Prop)(Sk:Nat->Nat->Prop),vs.length=l.length/\(row E (λv:Value=>[eqv v]) 1 vs sv).h S0 r w/\(∀k v,hole=some (k,v)->vs[k]? = some v)/\
   (∀k x v,l[k]? = some x->vs[k]? = some v->hole.map (·.1)≠some k->(I x v).h (Sk k) r w)/\(∀b,S0 b->S b)/\(∀k b,Sk k b->S b/\¬S0 b)/\∀j k b,Sk j b->Sk k b->j=k,
  λh1 h2 h3 ⟨vs,S0,Sk,a,b,c,d,e,f,g⟩=>⟨vs,S0,Sk,a,(row ..).wk h1 h2 (λb hb=>h3 b (e b hb)) b,c,λk x v hx hv hk=>(I x v).wk h1 h2 (λb hb=>h3 b (f k b hb).1) (d k x v hx hv hk),e,f,g⟩⟩
theorem zbs:∀(vs:List Value),(vs.flatMap λv:Value=>[eqv v])=vs.map eqv
 | []=>rfl
 |a::m=>by rw[w0u,w0l,zbs m];rfl
section
variable{β:Type}{E:TypeId}{I:β->Value->HP}{l:List β}{sv v:Value}{S r:Nat->Prop}{w:World}{hole:Option (Nat×Value)}
theorem ya2{k:Nat}{x:β}(h :(nst E I l none sv).h S r w)(hk:l[k]? = some x):
  ∃v S1 S2,(nst E I l (some (k,v)) sv).h S1 r w/\(I x v).h S2 r w/\(∀b,S1 b->S b)/\(∀b,S2 b->S b)/\∀b,S1 b->¬S2 b:=by
 obtain⟨vs,S0,g,hl,h0,_,hd,he,z,hg⟩:=h;have a1:k<vs.length:=by rw[hl];exact(w04.1 hk).1
 obtain⟨v,hv⟩:∃v,vs[k]? = some v:=⟨vs[k],by simp[a1]⟩;refine⟨v,λb=>S b/\¬g k b,g k,⟨vs,S0,λj b=>j≠k/\g j b,hl,h0,?_,?_,?_,?_,?_⟩,hd k x v hk hv (by simp),λb d=>d.1,λb d=>(z k b d).1,λb d=>d.2⟩
 .rintro k' v' q;simp only[w01,w0k] at q;obtain⟨rfl,rfl⟩:=q;exact hv
 .intro j y u hy hu hj;have f:j≠k:=λq=>hj (by simp[q])
  have e2 :(λb=>j≠k/\g j b)=g j:=by funext b;exact propext ⟨λq=>q.2,λq=>⟨f,q⟩⟩
  have h5:=hd j y u hy hu (by simp);rw[<- e2] at h5;exact h5
 .exact λb d=>⟨he b d,λq=>(z k b q).2 d⟩
 .rintro j b ⟨f,d⟩;exact⟨⟨(z j b d).1,λq=>f (hg j k b d q)⟩,(z j b d).2⟩
 .rintro j j' b ⟨_,d⟩ ⟨_,a0⟩;exact hg j j' b d a0
theorem ye4{k:Nat}{x:β}{g:Nat->Prop}(h :(nst E I l (some (k,v)) sv).h S r w)(hx :(I x v).h g r w)(hd:∀b,S b->¬g b):(nst E I (l.set k x) none sv).h (λb=>S b\/g b) r w:=by
 obtain⟨vs,S0,Sk,hl,h0,hh,a0,he,z,hg⟩:=h;have hv:=hh k v rfl;refine⟨vs,S0,λj b=>if j=k then g b else Sk j b,by simpa using hl,h0,(λ_ _ q=>by cases q),?_,λb d=>.inl (he b d),?_,?_⟩
 .intro j y u hy hu _;rw[w2a] at hy;by_cases c:k=j
  .subst c;rw[if_pos rfl] at hy;split at hy
   .cases hy;rw[hv] at hu;cases hu;simpa using hx
   .cases hy
  .rw[if_neg c] at hy;have e2 :(λb=>if j=k then g b else Sk j b)=Sk j:=by funext b;rw[if_neg (λq=>c q.symm)]
   have h5:=a0 j y u hy hu (λq=>c (by simpa using q));rw[<- e2] at h5;exact h5
 .intro j b d;split at d
  .exact⟨.inr d,λq=>hd b (he b q) d⟩
  .exact⟨.inl (z j b d).1,(z j b d).2⟩
 .intro j j' b d f;split at d<;>split at f
  .omega
  .exact absurd d (hd b (z _ b f).1)
  .exact absurd f (hd b (z _ b d).1)
  .exact hg _ _ b d f
theorem ylh{f:β->VP}(h :(nst E I l none sv).h S r w)(hI:∀x v S',(I x v).h S' r w->(f x).h (λb=>r b\/S' b) w v):(ro (λx:β=>[f x]) 1 l).h (λb=>r b\/S b) w sv:=by
 obtain⟨vs,S0,Sk,hl,h0,_,hd,hs,hf,hg⟩:=h;rcases h0 with⟨rfl,rfl⟩|⟨g,a0,cur,rfl,hS,z,a2,hm,a3,hh⟩
 .exact .inl ⟨⟨none,0,rfl⟩,w14 hl.symm⟩
 .refine .inr ⟨g,0,a0-l.length,by rw[hl,w3a (by omega)],λk x hk=>⟨.inr (hs g hS),λj A hj=>?_⟩⟩;cases j with
  |succ j=>simp at hj
  |zero=>
   simp at hj;subst hj;have a1:k<vs.length:=by rw[hl];exact(w04.1 hk).1
   obtain⟨v,hv⟩:∃v,vs[k]? = some v:=⟨vs[k],by simp[a1]⟩;have d :(vs.flatMap λv:Value=>[eqv v])[k]? = some (eqv v):=by rw[zbs,w1r,hv];rfl
   obtain⟨u,hu,hA,ho⟩:=hh.2 k _ d;simp only[eqv] at hA;subst hA;refine⟨u,?_,(f x).mono (λb hb=>?_) (λ_ _=>rfl) (hI x u _ (hd k x u hk hv (by simp))),ho⟩
   .rw[cell_of_row w g _ cur E (0,0) z];rw[w0x] at hu;split at hu
    .simpa using hu
    .cases hu
   .rcases hb with hb|hb
    .exact .inl hb
    .exact .inr (hf k b hb).1
theorem zt5{α:Type}{e:α->List VP}{sz:Nat}{xs:List α}(he:∀x,(e x).length=sz)(h :(row E e sz xs sv).h S r w):(ro e sz xs).h (λb=>r b\/S b) w sv:=by
 rcases h with⟨rfl,rfl⟩|⟨g2,cap2,cur2,rfl,u,f,a0,a2,a1,z⟩
 .exact .inl ⟨⟨none,0,rfl⟩,rfl⟩
 .refine .inr ⟨g2,0,cap2-xs.length,by rw[w3a a0],λi y hi=>⟨.inr u,λj A hj=>?_⟩⟩;obtain⟨u2,d,g,h1⟩:=z.2 _ A (z4t he xs i y hi j A hj);refine⟨u2,?_,A.mono (λb hb=>.inl hb) (λ_ _=>rfl) g,h1⟩;rw[w1j,cell_of_row w g2 _ cur2 E (0,0) f];rw[w0x] at d;split at d
  .simpa using d
  .cases d
theorem yjl{z:β}{u:Value}{n:Nat}(hI :(I z u).h (λ_=>False) r w)(h :(row E (λv:Value=>[eqv v]) 1 (List.replicate n u) sv).h S r w):(nst E I (List.replicate n z) none sv).h S r w:=by refine⟨List.replicate n u,S,λ_ _=>False,by simp,h,(λ_ _ q=>by cases q),?_,λb d=>d,λk b d=>d.elim,λj k b d=>d.elim⟩;intro k x v hx hv _;have f:=List.eq_of_mem_replicate (w17 hx);have g:=List.eq_of_mem_replicate (w17 hv);subst f;subst g;exact hI
end
def ObIs(objs:List HP)(j:Nat)(H:HP):Prop:=∃H',objs[j]? = some H'/\∀S r w,H'.h S r w->H.h S r w
theorem ObIs.at[Dr]{w0 w:World}{f:Nat}{d:List HP}{r:Nat->Prop}{S:Nat->Nat->Prop}(z:WInv w0 f d r S w){j:Nat}{H:HP}(h:ObIs d j H):H.h (S j) r w:=by obtain⟨H',g,u⟩:=h;exact u _ _ _ (z.obj j _ g)
section ops
variable{P:Program}{C:Cx P}{s:St}{dst:Option Tmp}{ty:TypeId}{pos:String}{after:Array Edge}{guard:Option (Nat×Bool)}{K:VP->List HP->Prop}
variable{β:Type}{E:TypeId}{I:β->Value->HP}{l:List β}{sv v:Value}{hole:Option (Nat×Value)}
theorem yi8[Dr]{j:Nat}{t:TypeId}{x i:Operand}{k:IntKind}{m:Int}(ht:tidx P t=some (false,0,1))(h:Ev s x (eqv sv))(ho:ObIs s.objs j (nst E I l hole sv))(hi:Ev s i (iv k m))(f:0<=m)(h1:m<(l.length:Int)):
  OpQ C ⟨dst,.indexAddr t x i,ty,pos,after,guard⟩ s ⟨λ_ _ v=>∃g n d,sv = .slice (some ⟨g,0,none⟩) n d/\v = .pointer (some ⟨g,m.toNat,none⟩)/\0<=m/\m<(n:Int),λ_ _ h=>h⟩:=
 .valO λa r S w hw hs=>by
  have u:=hi a r w hs;have z:=h a r w hs;simp only[iv,eqv] at u z;obtain⟨vs,S0,Sk,hl,h4,_⟩:=ObIs.at hw ho;rcases h4 with⟨_,rfl⟩|⟨g,d,cur,hv,hS,a0,a1,hm,a2,hh⟩
  .simp at hl;omega
  .have h6:m<(vs.length:Int):=by rw[hl];exact h1
   refine⟨.pointer (some ⟨g,m.toNat,none⟩),?_,g,_,d,hv,rfl,f,h6⟩;simp only[execOp,z,hv,u,w08,zf8 w ht f h6,w1j,Nat.mul_one];rfl
theorem yin[Dr](j:Nat){t:TypeId}{x:Operand}(z:isSl P t=true)(h:Ev s x (eqv sv))(ho:ObIs s.objs j (nst E I l hole sv)):
  OpQ C ⟨dst,.call { callee:=.builtin .len,args:=#[x],argTypes:=#[t] },ty,pos,after,guard⟩ s (iv .i64 l.length):=
 .valO λa r S w hw hs=>by
  have d:=h a r w hs;simp only[eqv] at d;obtain⟨vs,S0,Sk,u,h4,_⟩:=ObIs.at hw ho;rcases h4 with⟨f,rfl⟩|⟨g,a0,cur,f,_⟩
  .exact⟨_,z7r (by rw[d,f];exact z9e w z),by rw[<- u];rfl⟩
  .exact⟨_,z7r (by rw[d,f];exact z9e w z),by rw[<- u];rfl⟩
theorem ym2[Dr]{x:Operand}{j k:Nat}(hx:Ev s x (rowp sv k))(ho:ObIs s.objs j (nst E I l (some (k,v)) sv)):Pt C s x [eqv v]:=λa r S w hw hs=>by
 obtain⟨g,n,a1,hv,hp⟩:=hx a r w hs;obtain⟨vs,S0,Sk,hl,h4,hh,_⟩:=ObIs.at hw ho;have a0:=hh k v rfl;refine⟨g,k,hp,λi A hi=>?_⟩;cases i with
 |succ i=>simp at hi
 |zero=>
  simp at hi;subst hi;rcases h4 with⟨hn,_⟩|⟨g2,cap2,cur,f,hS,h,a2,hm,a3,hc⟩
  .rw[hv] at hn;cases hn
  .rw[hv] at f;simp only[Value.slice.injEq,w01,Addr.mk.injEq] at f;obtain⟨⟨rfl,_⟩,_,_⟩:=f;have d :(vs.flatMap λv:Value=>[eqv v])[k]? = some (eqv v):=by rw[zbs,w1r,a0];rfl
   obtain⟨u,z,hA,h1⟩:=hc.2 k _ d;refine⟨u,?_,hA,h1⟩;rw[w3r,cell_of_row w g k cur E (0,0) h];rw[w0x] at z;split at z
   .simpa using z
   .cases z
theorem ybj[Dr](i:Nat){t:TypeId}{g:Bool}{k:Nat}{x y:Operand}(ht:z5n P t=some (g,1))(hx:Ev s x (rowp sv k))(hy:Ce s y [eqv v])(ho:s.objs[i]? = some (nst E I l hole sv))(hh:∀p,hole=some p->p.1=k)(hk:k<l.length)
  (kk:K topv (s.objs.set i (nst E I l (some (k,v)) sv))):OpT C ⟨none,.store t x y,ty,pos,after,guard⟩ s K:=
 .store rfl i _ (w04.1 ho).1 (λa r S w hw hs=>by
  obtain⟨g',n',a3,a0,ab⟩:=hx a r w hs;have a2:=hy a r w hs;obtain⟨vs,S0,Sk,hl,h4,ad,hd,he,hf,hg⟩:=hw.obj i _ ho;rcases h4 with⟨hn,_⟩|⟨g2,ac,cur,a1,hS,d,a9,hm,ae,hc⟩
  .rw[a0] at hn;cases hn
  .rw[a0] at a1;simp only[Value.slice.injEq,w01,Addr.mk.injEq] at a1;obtain⟨⟨rfl,_⟩,rfl,rfl⟩:=a1;have a6 :(a.eval y).cells.size=1:=by have:=a2.1;simp at this;omega
   have a7:k+1<=cur.size:=by omega
   refine⟨g',(cur.toList.take k++(a.eval y).cells.toList++cur.toList.drop (k+(a.eval y).cells.toList.length)).toArray,he _ hS,?_,?_⟩
   .simp only[execOp,ab,w08,zgj ht d a6 a7 a2.one];rfl
   .have f :(a.eval y).cells.toList.length=1:=by simpa using a6
    refine⟨vs.set k v,S0,Sk,by simpa using hl,?_,?_,?_,he,hf,hg⟩
    .refine .inr ⟨g',a3,_,by simpa using a0,hS,setRow_heap w g' cur _ E (0,0) d,by simpa using a9,hm,?_,?_⟩
     .simp;omega
     .have a4:=hc;rw[zbs] at a4;have aa:=zr.splice a4 a2 k (by simp only[w0q,w3y];omega);have h8:=zr.setRow hw (he _ hS) (cur.toList.take k++(a.eval y).cells.toList++cur.toList.drop (k+(a.eval y).cells.toList.length)).toArray aa;refine cast ?_ h8;rw[zbs,List.map_set];congr 1
      .have a8:k<(vs.map eqv).length:=by simp;omega
       rw[List.set_eq_take_append_cons_drop,if_pos a8];simp
      .have l1 :(List.take k cur.toList).length=k:=by rw[w1e];simp;omega
       rw[w39,w2o,f,w43,w43,w0h,l1,f];rw[w2q (l:=List.take k cur.toList) (by rw[l1];omega),w2q (l:=(a.eval y).cells.toList) (by rw[f];omega)];rw[List.take_take,Nat.min_eq_left (by omega),List.drop_take]
    .rintro k' v' q;simp only[w01,w0k] at q;obtain⟨rfl,rfl⟩:=q;rw[w2a,if_pos rfl,if_pos (by omega)]
    .intro j z u hz hu hj;have a5:k≠j:=λq=>hj (by simp[q])
     rw[w2a,if_neg a5] at hu;refine(I z u).mono (λ_ h=>h) (λb hb=>setRow_other w g' b _ (λq=>(hw.own i g' (he _ hS)).2.2.2 (q ▸ hb))) (λb hb=>setRow_other w g' b _ (λq=>(hf j b hb).2 (q ▸ hS))) (hd j z u hz hu ?_);intro q;cases hole with
     |none=>cases q
     |some p=>simp only[w0z,w01] at q;exact a5 ((hh p rfl).symm.trans q)) kk
end ops
theorem y96[Dr]{w0 w wI:World}{d:Nat}{f O:List HP}{r r0:Nat->Prop}{S:Nat->Nat->Prop}{sv:Value}{X:VP}(i:Nat)(hi:i<f.length)(g:WInv w0 d f r S w)(a0:Evo d r0 wI r w)(hx:X.h (λb=>r b\/S i b) w sv)(hO:zmf sv X (f.set i emp) O):
  ∃(r':Nat->Prop)(S':Nat->Nat->Prop),(∀b,r b->r' b)/\WInv w0 d O r' S' w/\Evo d r0 wI r' w/\X.h r' w sv:=by
 have a1:∀b,r b->(λb=>r b\/S i b) b:=λb u=>.inl u
 have z:=hO.at.1;rw[w2o] at z;refine⟨λb=>r b\/S i b,λj b=>j≠i/\S j b,a1,⟨g.below,g.size,?_,?_,?_,?_⟩,?_,hx⟩
 .intro j B hj;obtain⟨A,hA,hf⟩:=hO.at.2 j B hj;refine hf _ _ _ hx ?_;rw[w2a] at hA;split at hA
  .rename_i e;subst e;simp only[hi,if_true,w01] at hA;subst hA;trivial
  .rename_i e;have :(λb=>j≠i/\S j b)=S j:=by funext b;exact propext ⟨λh=>h.2,λh=>⟨λh=>e h.symm,h⟩⟩
   rw[this];exact A.mono a1 (λ_ _=>rfl) (λ_ _=>rfl) (g.obj j A hA)
 .rintro j b ⟨a3,u⟩;obtain⟨h1,h2,h3,h4⟩:=g.own j b u;refine⟨z ▸ h1,h2,h3,?_⟩;rintro(q|q)
  .exact h4 q
  .exact a3 (g.apart j i b u q)
 .rintro j k b ⟨_,u⟩ ⟨_,a2⟩;exact g.apart j k b u a2
 .rintro b (q|q)
  .exact g.old b q
  .exact(g.own i b q).2.2.1
 .refine⟨λb u=>.inl (a0.1 b u),a0.2.1,?_⟩;rintro b (q|q)
  .exact a0.2.2 b q
  .exact .inr (g.own i b q).2.1
end Px
end
section
namespace Px
open Go Go.RowKit
set_option linter.unusedSectionVars false
def mdel{κ ν:Type}[BEq κ]:List (κ×ν)->κ->List (κ×ν)
 | [],_=>[]
 |(a,b)::m,k=>bif k==a then m else(a,b)::mdel m k
section map
variable{κ ν:Type}[BEq κ]{eK:κ->Value}{eV:ν->Value}
theorem zjr{k:κ}: ∀{m:List (κ×ν)},mget m k=none->mdel m k=m
 | [],_=>rfl
 |(a,b)::m,h=>by
  unfold mget at h;unfold mdel;cases d:k==a with
  |true=>rw[d] at h;cases h
  |false=>rw[d] at h;simp[zjr h]
theorem y8x{k:κ}: ∀{m:List (κ×ν)}{es:List MapEntry}{i j:Nat}{u:Value},es.map (λe=>(e.key,e.val))=m.map (λp=>(eK p.1,eV p.2))->fnd k (m.map (·.1)) es i=some (j,u)->
  i<=j/\(es.eraseIdx (j-i)).map (λe=>(e.key,e.val)) =(mdel m k).map (λp=>(eK p.1,eV p.2))
 | [],[],i,j,u,_,d=>by simp[fnd] at d
 |(a,b)::m,e::es,i,j,u,h,d=>by
  simp only[w0l,w2i,w0k] at h;simp only[w0l,fnd] at d;unfold mdel;cases f:k==a with
  |true=>rw[f] at d;simp only[cond_true,w01,w0k] at d;obtain⟨rfl,rfl⟩:=d;simp[h.2]
  |false=>
   rw[f] at d;obtain⟨h1,z⟩:=y8x h.2 d;have g:j-i =(j-(i+1))+1:=by omega
   refine⟨by omega,?_⟩;rw[g];simp[z,h.1.1,h.1.2]
 | [],_::_,_,_,_,h,_=>by simp at h
 |_::_,[],_,_,_,h,_=>by simp at h
variable{P:Program}{C:Cx P}{s:St}{dst:Option Tmp}{ty:TypeId}{pos:String}{after:Array Edge}{guard:Option (Nat×Bool)}{K:VP->List HP->Prop}
theorem OpT.storeBV[Dr]{o:Oper}(i:Nat)(H:HP)(x:VP)(hi:i<s.objs.length)
  (hr:∀a r S w,WInv C.w0 C.base s.objs r S w->zj s.slots a r w->∃b ob v,S i b/\(execOp a.eval o).run P w = .ok (.value v) (setB w b ob)/\H.h (S i) r (setB w b ob)/\∀w',x.h r w' v)
  (k:K x (s.objs.set i H)):OpT C o s K:=by
 intro a w r S Q hd hn u hs;obtain⟨b,ob,v,hS,h,hH,hx⟩:=hr a r S w u hs;unfold Oper.wp;rw[h,Oper.upon_value];have g:∀d,d<w.heap.size->¬S i d->(setB w b ob).heap[d]? = w.heap[d]?:=λd _ f=>z1v w b d ob (λe=>f (e ▸ hS))
 exact⟨v,r,_,x,_,rfl,u.evo_repl i g,u.repl i H (S i) hi rfl ⟨rfl,w16 _⟩ rfl (by simp[setB]) g (λd f=>by obtain⟨h1,h2,h3,h4⟩:=u.own i d f;exact⟨h2,by simpa[setB] using h3,h4,λj hj z=>hj (u.apart j i d z f)⟩) hH,hx _,k⟩
end map
def beqA(n:Nat)(f g:Nat->Int):Bool:=(List.range n).all λi=>f i==g i
def arrV(q:IntKind)(n:Nat)(f:Nat->Int):Value:=.agg ((List.range n).map λj=>Value.int q (f j)).toArray
section keyA
variable{P:Program}{kt e:TypeId}{n:Nat}{q:IntKind}
theorem yja{w:World}(d:z5n P e=some (false,1))(f:Nat->Int){j:Nat}(g:j<n):(part e ((List.range n).map λj=>Value.int q (f j)).toArray (j*1)).run P w = .ok (.int q (f j)) w:=zkn w d (by simp[g])
theorem ykg(hu:P.underlying kt=some (.array n e))(u:P.underlying e=some (.int q))(d:z5n P e=some (false,1))(w:World)(b:Bool)(f:Nat->Int):(Instr.checkKey b 10000 kt (arrV q n f)).run P w = .ok () w:=by
 show (Instr.checkKey b (9999+1) kt (arrV q n f)).run P w=_;unfold arrV;rw[Instr.checkKey];simp only[w08,run_underlying hu,w06];simp only[Std.Legacy.Range.forIn_eq_forIn_range',Std.Legacy.Range.size,w3f,Nat.add_one_sub_one,Nat.div_one,<- w45];have key:∀(l:List Nat),(∀j∈l,j<n)->(forIn (m:=Sem) l PUnit.unit λi r=>do
   let __do_lift <- sizeOf e
   let __do_lift <- part e ((List.range n).map λj=>Value.int q (f j)).toArray (i*__do_lift)
   Instr.checkKey b 9999 e __do_lift
   pure (ForInStep.yield PUnit.unit)).run P w = .ok PUnit.unit w:=by
  intro l g
  induction l with
  |nil=>simp
  |cons j l ih=>
   have h :(Instr.checkKey b 9999 e (.int q (f j))).run P w = .ok () w:=by show (Instr.checkKey b (9998+1) e (.int q (f j))).run P w=_;rw[Instr.checkKey];simp[run_underlying u]
   simp only[List.forIn_cons,w08,z8i w d,w06,yja d f (g j (w0n ..)),h,w0p];exact ih λk hk=>g k (w0g _ hk)
 rw[key (List.range n) (λj z=>by simpa using z)];rfl
theorem ykr(hu:P.underlying kt=some (.array n e))(he:P.underlying e=some (.int q))(u:z5n P e=some (false,1))(w:World)(f g:Nat->Int):(Op.equal kt (arrV q n f) (arrV q n g)).run P w = .ok (beqA n f g) w:=by
 obtain⟨d,i,hd,z,hs,hb⟩:=zij u;show (Op.equalIn (9999+1) kt (arrV q n f) (arrV q n g)).run P w=_;unfold arrV beqA;rw[run_equalIn_array w 9999 _ _ hu z];have hc:P.cellsOf e=1:=by simp[Program.cellsOf,z,hs]
 rw[hc];have key:∀(l:List Nat),(∀j∈l,j<n)->(Op.eqItems 9999 e 1 ((List.range n).map λj=>Value.int q (f j)).toArray ((List.range n).map λj=>Value.int q (g j)).toArray l).run P w = .ok (l.all λi=>f i==g i) w:=by
  intro l hl
  induction l with
  |nil=>simp[Op.eqItems]
  |cons j l ih=>
   have h:=hl j (w0n ..);simp only[Op.eqItems,w08,yja u f h,yja u g h,w06,run_equalIn_int w 9998 e _ _ _ _ he,w1h];cases hx :(f j==g j) with
   |false=>simp
   |true=>simpa using ih λk hk=>hl k (w0g _ hk)
 exact key _ λj h=>by simpa using h
end keyA
end Px
end
section
namespace Px
open Go Go.RowKit
def prtp(sv:Value)(lo hi sz:Nat):VP:=⟨λ_ _ v=>(sv = .slice none 0 0/\lo=0/\hi=0/\v = .slice none 0 0)\/∃g n cap a,sv = .slice (some ⟨g,0,none⟩) n cap/\lo<=hi/\hi<=n/\v = .slice a (hi-lo) (cap-lo)/\(lo<hi\/lo=0->a=some ⟨g,lo*sz,none⟩),λ_ _ h=>h⟩
theorem zmj{α:Type}{e:α->List VP}{sz:Nat}(d:∀x,(e x).length=sz):∀(l:List α)(n:Nat),(l.take n).flatMap e =(l.flatMap e).take (n*sz)
 | [],n=>by simp
 |x::l,0=>by simp
 |x::l,n+1=>by have:=d x;rw[List.take_succ_cons,w0u,w0u,zmj d l n,w1s,w3x,w5h,<- this,w40]
theorem zmi{α:Type}{e:α->List VP}{sz:Nat}(d:∀x,(e x).length=sz):∀(l:List α)(n:Nat),(l.drop n).flatMap e =(l.flatMap e).drop (n*sz)
 | [],n=>by simp
 |x::l,0=>by simp
 |x::l,n+1=>by have:=d x;rw[List.drop_succ_cons,w0u,zmi d l n,w1s,w3x,w5h,<- this,w3e]
theorem zr.takeN{r:Nat->Prop}{w:World}{cs:List VP}{vs:List Value}(h:zr r w cs vs)(n:Nat):zr r w (cs.take n) (vs.take n):=by
 refine⟨by simp[h.1],λj A d=>?_⟩;rw[w0x] at d⊢;split at d
 .rename_i c;rw[if_pos c];exact h.2 j A d
 .cases d
theorem zr.dropN{r:Nat->Prop}{w:World}{cs:List VP}{vs:List Value}(h:zr r w cs vs)(n:Nat):zr r w (cs.drop n) (vs.drop n):=by refine⟨by simp[h.1],λj A d=>?_⟩;rw[w20] at d⊢;exact h.2 _ A d
theorem Src.prt[Dr]{P:Program}{C:Cx P}{s:St}{x:Operand}{α:Type}(i:Nat){E:TypeId}{e:α->List VP}{sz:Nat}{l:List α}{sv:Value}{d f:Nat}(he:∀x,(e x).length=sz)(h:Ev s x (prtp sv d f sz))(ho:s.objs[i]? = some (Px.row E e sz l sv)):
  Src C s x (zjw l d f).length ((zjw l d f).flatMap e):=λa r S w hw hs=>by
 rcases h a r w hs with⟨hn,rfl,rfl,hx⟩|⟨g,n,a1,a',hv,h1,h2,hx,ha⟩
 .exact .inl ⟨⟨none,0,hx⟩,by simp[zjw],by simp[zjw]⟩
 .rcases hw.obj i _ ho with⟨hn,rfl⟩|⟨g2,cap2,cur,a0,hS,a2,hl,hm,a4,hh⟩
  .rw[hv] at hn;cases hn
  .rw[hv] at a0;simp only[Value.slice.injEq,w01,Addr.mk.injEq] at a0;obtain⟨⟨rfl,_⟩,rfl,rfl⟩:=a0;by_cases a3:d<f
   .have e0:=ha (.inl a3);subst e0;have hp:=zlo (l:=l) h1 h2;refine .inr ⟨g,d*sz,a1-d,((cur.toList.take (l.length*sz)).take (f*sz)).drop (d*sz),by rw[hp];exact hx,?_,λj u z=>?_⟩
    .rw[zjw,zmi he,zmj he];exact(hh.takeN _).dropN _
    .rw[cell_of_row w g _ cur E (0,0) a2];rw[w20,w0x] at z;split at z
     .rw[w0x] at z;split at z
      .simpa using z
      .cases z
     .cases z
   .have:f-d=0:=by omega
    refine .inl ⟨⟨a',a1-d,by rw[hx,this]⟩,?_,?_⟩
    .rw[zlo h1 h2];exact this
    .have:zjw l d f = []:=w14 (by rw[zlo h1 h2];exact this);rw[this];rfl
section ops
variable{P:Program}{C:Cx P}{s:St}{dst:Option Tmp}{ty:TypeId}{pos:String}{after:Array Edge}{guard:Option (Nat×Bool)}{K:VP->List HP->Prop}
theorem yag[Dr]{α:Type}{t E:TypeId}{e:α->List VP}{sz a1 n:Nat}{f:Array (Nat×Operand)}(l:List α)(ht:tsl P t=some (E,sz,a1))(he:∀x,(e x).length=sz)
  (hl:l.length=n) (a0:n*sz<=16777216) (hp:y7h s e 0 f.toList l):OpQ C ⟨dst,.buildSlice t n f,ty,pos,after,guard⟩ s (ro e sz l):=by
 intro a w r S Q hd hn hw hs;refine Oper.wp_mono ?_ (zmt (K:=λx objs=>∃v',x=eqv v'/\objs=s.objs++[row E e sz l v']) l ht he hl a0 hp (λv'=>⟨v',rfl,rfl⟩) a w r S Q hd hn hw hs);rintro a' w' ⟨v,a3,S',x,objs',ha,ev,d,hx,v',rfl,rfl⟩;have hx:v=v':=hx;subst hx;have z :(s.objs++[row E e sz l v])[s.objs.length]? = some (row E e sz l v):=by simp
 refine⟨v,λb=>a3 b\/S' s.objs.length b,λj b=>j<s.objs.length/\S' j b,ro e sz l,s.objs,ha,⟨λb g=>.inl (ev.1 b g),ev.2.1,λb g=>?_⟩,⟨d.below,d.size,?_,?_,?_,?_⟩,zt5 he (d.obj _ _ z),rfl,rfl⟩
 .rcases g with q|q
  .exact ev.2.2 b q
  .exact .inr (d.own _ b q).2.1
 .intro j H hj;have u:=(w04.1 hj).1;have :(λb=>j<s.objs.length/\S' j b)=S' j:=by funext b;exact propext ⟨λh=>h.2,λh=>⟨u,h⟩⟩
  rw[this];exact H.mono (λb g=>.inl g) (λ_ _=>rfl) (λ_ _=>rfl) (d.obj j H (by rw[w0r u];exact hj))
 .rintro j b ⟨u,g⟩;obtain⟨_,h2,h3,h4⟩:=d.own j b g;refine⟨u,h2,h3,?_⟩;rintro(q|q)
  .exact h4 q
  .have:=d.apart j _ b g q;omega
 .rintro j k b ⟨_,g⟩ ⟨_,a2⟩;exact d.apart j k b g a2
 .rintro b (q|q)
  .exact d.old b q
  .exact(d.own _ b q).2.2.1
end ops
end Px
end
section
namespace Px
open Go
set_option linter.unusedSectionVars false
def ltI:List Int->List Int->Bool
 | [],[]=>false
 | [],_::_=>true
 |_::_,[]=>false
 |a::l,b::m=>bif decide (a<b) then true else bif a==b then ltI l m else false
theorem zpd:∀l:List Int,ltI l l=false
 | []=>rfl
 |a::l=>by simp[ltI,zpd l]
theorem y4f:∀{a b c:List Int},ltI a b=true->ltI b c=true->ltI a c=true
 | [],[],_,h,_=>by cases h
 | [],_::_,[],_,h=>by cases h
 | [],_::_,_::_,_,_=>rfl
 |_::_,[],_,h,_=>by cases h
 |_::_,_::_,[],_,h=>by cases h
 |a::l,b::m,c::n,h,k=>by
  unfold ltI at h k⊢;by_cases g:a<b
  .by_cases f:b<c
   .have:a<c:=by omega
    simp[this]
   .simp only[f,decide_false,cond_false] at k;by_cases d:b=c
    .subst d;simp[g]
    .simp[d] at k
  .simp only[g,decide_false,cond_false] at h;by_cases d:a=b
   .subst d;simp only[beq_self_eq_true,cond_true] at h;by_cases f:a<c
    .simp[f]
    .simp only[f,decide_false,cond_false] at k⊢;by_cases j:a=c
     .subst j;simp only[beq_self_eq_true,cond_true] at k⊢;exact y4f h k
     .simp[j] at k
   .simp[d] at h
theorem y9u:∀(a b:List Int),ltI a b=true\/a=b\/ltI b a=true
 | [],[]=>.inr (.inl rfl)
 | [],_::_=>.inl rfl
 |_::_,[]=>.inr (.inr rfl)
 |a::l,b::m=>by
  unfold ltI;by_cases d:a<b
  .left;simp[d]
  .by_cases f:b<a
   .right;right;simp[f]
   .have:a=b:=by omega
    subst this;rcases y9u l m with h|h|h
    .left;simp[h]
    .right;left;rw[h]
    .right;right;simp[h]
section
variable{κ ν:Type}(e:κ->List Int)
def cget:List (κ×ν)->κ->Option ν
 | [],_=>none
 |(a,b)::m,k=>bif e k==e a then some b else cget m k
def cset:List (κ×ν)->κ->ν->List (κ×ν)
 | [],k,v=>[(k,v)]
 |(a,b)::m,k,v=>bif e k==e a then(k,v)::m else bif ltI (e k) (e a) then(k,v)::(a,b)::m else(a,b)::cset m k v
def cdel:List (κ×ν)->κ->List (κ×ν)
 | [],_=>[]
 |(a,b)::m,k=>bif e k==e a then m else(a,b)::cdel m k
def Srt'(m:List (κ×ν)):Prop:=m.Pairwise λp q=>ltI (e p.1) (e q.1)=true
def Ndp(m:List (κ×ν)):Prop:=m.Pairwise λp q=>e p.1≠e q.1
variable{e}
theorem Srt'.ndp{m:List (κ×ν)}(h:Srt' e m):Ndp e m:=List.Pairwise.imp (λ{a b}h q=>by rw[q,zpd] at h;cases h) h
theorem Ndp.perm{m d:List (κ×ν)}(h:Ndp e m)(p:m.Perm d):Ndp e d:=(p.pairwise_iff (λ{a b}h q=>h q.symm)).1 h
theorem zxa{m:List (κ×ν)}{k:κ}: cget e m k=none↔∀p∈m,e k≠e p.1:=by
 induction m with
 |nil=>simp[cget]
 |cons p m d=>
  obtain⟨a,b⟩:=p;unfold cget;by_cases h:e k=e a
  .simp[h]
  .have :(e k==e a)=false:=by simpa using h
   simp only[this,cond_false,d];simp[h]
theorem zb0{m:List (κ×ν)}{k:κ}{v:ν}(h:cget e m k=some v):∃a,(a,v)∈m/\e k=e a:=by
 induction m with
 |nil=>cases h
 |cons p m j=>
  obtain⟨a,b⟩:=p;unfold cget at h;by_cases c:e k=e a
  .simp only[c,beq_self_eq_true,cond_true,w01] at h;subst h;exact⟨a,by simp,c⟩
  .have :(e k==e a)=false:=by simpa using c
   rw[this] at h;obtain⟨d,f,g⟩:=j h;exact⟨d,by simp[f],g⟩
theorem zoe{m:List (κ×ν)}(u:Ndp e m){k a:κ}{v:ν}(f :(a,v)∈m)(d:e k=e a):cget e m k=some v:=by
 induction m with
 |nil=>cases f
 |cons p m z=>
  obtain⟨g,b⟩:=p;obtain⟨h,j⟩:=w13.1 u;unfold cget;rcases w05.1 f with q|q
  .cases q;simp[d]
  .have:=h _ q
   have :(e k==e g)=false:=by simp only[beq_eq_false_iff_ne,ne_eq];intro c;exact this (c ▸ d ▸ rfl)
   rw[this];exact z j q
theorem ziv{m d:List (κ×ν)}(j:Ndp e m)(p:m.Perm d)(k:κ):cget e m k=cget e d k:=by
 cases h:cget e d k with
 |none=>rw[zxa] at h⊢;exact λq u=>h q (p.mem_iff.1 u)
 |some v=>obtain⟨a,f,g⟩:=zb0 h;exact zoe j (p.mem_iff.2 f) g
theorem y82{m:List (κ×ν)}{k d:κ}(h:e k=e d):cget e m k=cget e m d:=by
 induction m with
 |nil=>rfl
 |cons p m f=>obtain⟨a,b⟩:=p;unfold cget;rw[h,f]
theorem zbl{m:List (κ×ν)}(g:Ndp e m)(k:κ):cdel e m k=m.filter λp=>!(e k==e p.1):=by
 induction m with
 |nil=>rfl
 |cons p m j=>
  obtain⟨a,b⟩:=p;obtain⟨d,f⟩:=w13.1 g;unfold cdel;by_cases c:e k=e a
  .simp only[c,beq_self_eq_true,cond_true,w21,w15,w09,if_false];refine(w3b.2 λq h=>?_).symm;have:=d q h;simpa using this
  .have :(e k==e a)=false:=by simpa using c
   simp only[this,cond_false,w15,w2m,if_true,j f]
theorem zns(m:List (κ×ν))(k:κ):(cdel e m k).Sublist m:=by
 induction m with
 |nil=>exact List.Sublist.slnil
 |cons p m d=>
  obtain⟨a,b⟩:=p;unfold cdel;cases e k==e a with
  |true=>exact List.sublist_cons_self _ _
  |false=>exact d.cons_cons _
theorem Srt'.del{m:List (κ×ν)}(h:Srt' e m)(k:κ):Srt' e (cdel e m k):=h.sublist (zns m k)
theorem zix{m:List (κ×ν)}(h:Srt' e m)(k:κ)(v:ν):(cset e m k v).Perm ((k,v)::cdel e m k):=by
 induction m with
 |nil=>exact List.Perm.refl _
 |cons p m z=>
  obtain⟨a,b⟩:=p;obtain⟨g,d⟩:=w13.1 h;unfold cset cdel;cases hk:e k==e a with
  |true=>exact List.Perm.refl _
  |false=>
   simp only[cond_false];cases j:ltI (e k) (e a) with
   |true=>
    have:cdel e m k=m:=by
     rw[zbl (Srt'.ndp d)];refine w3b.2 λq u=>?_
     have f:=y4f j (g q u);simp only[w0v,beq_eq_false_iff_ne,ne_eq];intro c;rw[c,zpd] at f;cases f
    rw[this];exact List.Perm.refl _
   |false=>exact((z d).cons _).trans (List.Perm.swap _ _ _)
theorem z4k{m:List (κ×ν)}(h:Srt' e m){k:κ}{v:ν}{p:κ×ν}: p∈cset e m k v↔p =(k,v)\/(p∈m/\e k≠e p.1):=by rw[(zix h k v).mem_iff,w05,zbl h.ndp,w0i];simp
theorem Srt'.set{m:List (κ×ν)}(h:Srt' e m)(k:κ)(v:ν):Srt' e (cset e m k v):=by
 induction m with
 |nil=>exact w4k _ _
 |cons p m ih=>
  obtain⟨a,b⟩:=p;obtain⟨g,j⟩:=w13.1 h;unfold cset;by_cases f:e k=e a
  .simp only[f,beq_self_eq_true,cond_true];exact w13.2 ⟨λq d=>by rw[f];exact g q d,j⟩
  .have u :(e k==e a)=false:=by simpa using f
   simp only[u,cond_false];cases z:ltI (e k) (e a) with
   |true=>exact w13.2 ⟨λq d=>(w05.1 d).elim (λc=>by rw[c];exact z) λc=>y4f z (g q c),h⟩
   |false=>
    refine w13.2 ⟨λq d=>?_,ih j⟩;rcases(z4k j).1 d with rfl|⟨d,_⟩
    .rcases y9u (e a) (e k) with c|c|c
     .exact c
     .exact absurd c.symm f
     .rw[z] at c;cases c
    .exact g q d
theorem zto{m:List (κ×ν)}(h:Srt' e m)(k d:κ)(v:ν):cget e (cset e m k v) d=bif e d==e k then some v else cget e m d:=by
 by_cases c:e d=e k
 .have :(e d==e k)=true:=by simpa using c
  rw[this];exact zoe (h.set k v).ndp ((z4k h).2 (.inl rfl)) c
 .have z :(e d==e k)=false:=by simpa using c
  rw[z];simp only[cond_false];cases f:cget e m d with
  |none=>
   rw[zxa] at f⊢;intro p g;rcases(z4k h).1 g with rfl|⟨g,_⟩
   .exact c
   .exact f p g
  |some u=>obtain⟨a,h1,j⟩:=zb0 f;exact zoe (h.set k v).ndp ((z4k h).2 (.inr ⟨h1,λq=>c (j.trans q.symm)⟩)) j
theorem ztr{μ:Type}(f:ν->μ)(m:List (κ×ν))(k:κ)(v:ν):(cset e m k v).map (λp=>(p.1,f p.2))=cset e (m.map λp=>(p.1,f p.2)) k (f v):=by
 induction m with
 |nil=>rfl
 |cons p m d=>
  obtain⟨a,b⟩:=p;simp only[w0l];unfold cset;cases e k==e a with
  |true=>rfl
  |false=>
   cases ltI (e k) (e a) with
   |true=>rfl
   |false=>simp[d]
theorem ycs{μ:Type}(f:ν->μ)(m:List (κ×ν))(k:κ):(cdel e m k).map (λp=>(p.1,f p.2))=cdel e (m.map λp=>(p.1,f p.2)) k:=by
 induction m with
 |nil=>rfl
 |cons p m d=>
  obtain⟨a,b⟩:=p;simp only[w0l];unfold cdel;cases e k==e a with
  |true=>rfl
  |false=>simp[d]
theorem ycw{μ:Type}(f:ν->μ)(m:List (κ×ν))(k:κ):cget e (m.map λp=>(p.1,f p.2)) k =(cget e m k).map f:=by
 induction m with
 |nil=>rfl
 |cons p m d=>
  obtain⟨a,b⟩:=p;simp only[w0l];unfold cget;cases e k==e a with
  |true=>rfl
  |false=>simpa using d
theorem y3c{m d:List (κ×ν)}(h:Srt' e m)(f:Srt' e d)(hm:∀p,p∈m↔p∈d):m=d:=by
 have g:∀{l:List (κ×ν)},Srt' e l->l.Nodup:=λ{l}z=>List.Pairwise.imp (λ{a b}h q=>by rw[q,zpd] at h;cases h) z
 have hp:m.Perm d:=(w48 (g h) (g f)).2 hm;exact hp.eq_of_pairwise (λa b _ _ j u=>by have:=y4f j u;rw[zpd] at this;cases this) h f
theorem y87{m:List (κ×ν)}(h:Srt' e m){k d:κ}{v f:ν}(z:e k≠e d):cset e (cset e m k v) d f=cset e (cset e m d f) k v:=by
 refine y3c ((h.set k v).set d f) ((h.set d f).set k v) λp=>?_
 rw[z4k (h.set k v),z4k h,z4k (h.set d f),z4k h];constructor
 .rintro(rfl|⟨rfl|⟨g,j⟩,u⟩)
  .exact .inr ⟨.inl rfl,z⟩
  .exact .inl rfl
  .exact .inr ⟨.inr ⟨g,u⟩,j⟩
 .rintro(rfl|⟨rfl|⟨g,j⟩,u⟩)
  .exact .inr ⟨.inl rfl,λq=>z q.symm⟩
  .exact .inl rfl
  .exact .inr ⟨.inr ⟨g,u⟩,j⟩
theorem y1s{α β:Type}{f:α->β}{l:List β}{m:List α}(p:l.Perm (m.map f)):∃g:List α,g.Perm m/\l=g.map f:=by
 generalize hx:m.map f=x at p
 induction p generalizing m with
 |nil=>exact⟨[],by cases m<;>simp at hx⊢,rfl⟩
 |cons a p ih=>
  cases m with
  |nil=>cases hx
  |cons b m=>simp only[w0l,w2i] at hx;obtain⟨g,h,j⟩:=ih hx.2;exact⟨b::g,h.cons b,by simp[hx.1,j]⟩
 |swap a b l=>
  match m,hx with
  |c::d::m,hx=>simp only[w0l,w2i] at hx;exact⟨d::c::m,List.Perm.swap ..,by simp[hx.1,hx.2.1,hx.2.2]⟩
 |trans p1 p2 u z=>obtain⟨m2,h,j⟩:=z hx;obtain⟨m1,h3,h4⟩:=u j.symm;exact⟨m1,h3.trans h,h4⟩
end
end Px
end
section
namespace Px
open Go Go.RowKit
set_option linter.unusedSectionVars false
structure Stmp(es:List MapEntry)(clock:Nat):Prop where
 lt:∀x∈es,x.born<clock
 nd :(es.map (·.born)).Nodup
theorem Stmp.mod{es:List MapEntry}{d i:Nat}{f:MapEntry->MapEntry}(h:Stmp es d)(u:∀x,(f x).born=x.born):Stmp (es.modify i f) d:=by
 have g :(es.modify i f).map (·.born)=es.map (·.born):=by
  clear h
  induction es generalizing i with
  |nil=>cases i<;>rfl
  |cons a es z=>
   cases i with
   |zero=>simp[u]
   |succ i=>simp[z]
 constructor
 .intro x hx;have:x.born∈(es.modify i f).map (·.born):=w0b.2 ⟨x,hx,rfl⟩;rw[g] at this;obtain⟨y,hy,j⟩:=w0b.1 this;rw[<- j];exact h.lt y hy
 .rw[g];exact h.nd
theorem Stmp.sub{es f:List MapEntry}{d:Nat}(h:Stmp es d)(g:f.Sublist es):Stmp f d:=⟨λx hx=>h.lt x (g.subset hx),(g.map _).nodup h.nd⟩
theorem Stmp.push{es:List MapEntry}{d:Nat}(h:Stmp es d)(k v:Value):Stmp (es++[{ key:=k,val:=v,born:=d }]) (d+1):=by
 constructor
 .intro x hx;rcases w0j.1 hx with q|q
  .exact Nat.lt_succ_of_lt (h.lt x q)
  .simp only[w0d] at q;subst q;exact w46 _
 .rw[w1g,w4m];refine⟨h.nd,by simp,λa g b f=>?_⟩;simp only[w0l,List.map_nil,w0d] at f;subst f;obtain⟨y,hy,rfl⟩:=w0b.1 g;exact Nat.ne_of_lt (h.lt y hy)
section
variable{κ ν:Type}
abbrev bqC(e:κ->List Int):BEq κ:=⟨λa b=>e a==e b⟩
abbrev KeyC(P:Program)(kt:TypeId)(e:κ->List Int)(eK:κ->Value):Prop:=@yk6 P kt κ (bqC e) eK
def CM(w:World)(b:Nat)(e:κ->List Int)(eK:κ->Value)(eV:ν->Value)(m:List (κ×ν)):Prop:=Srt' e m/\∃(es:Array MapEntry)(clock:Nat)(m':List (κ×ν)),w.heap[b]? = some (.map es clock)/\Stmp es.toList clock/\m'.Perm m/\es.toList.map (λx=>(x.key,x.val))=m'.map (λp=>(eK p.1,eV p.2))
theorem CM.rec{w:World}{b:Nat}{e:κ->List Int}{eK:κ->Value}{d:ν->Value}{m:List (κ×ν)}(h:CM w b e eK d m):¬Rec w.heap[b]?:=by obtain⟨g,es,c,u,f,j⟩:=h;rintro(⟨l,q⟩|⟨l,q⟩)<;>(rw[f] at q;cases q)
theorem CM.mono{w w':World}{b:Nat}{e:κ->List Int}{eK:κ->Value}{d:ν->Value}{m:List (κ×ν)}(h:CM w b e eK d m)(u:w'.heap[b]? = w.heap[b]?):CM w' b e eK d m:=by obtain⟨f,es,c,z,g,j⟩:=h;exact⟨f,es,c,z,u.trans g,j⟩
variable{e:κ->List Int}{eK:κ->Value}{eV:ν->Value}
theorem zyc:∀(m:List (κ×ν))(k:κ),@mget κ ν (bqC e) m k=cget e m k
 | [],_=>rfl
 |(a,b)::m,k=>by unfold mget cget;rw[zyc m k];rfl
theorem zya:∀(m:List (κ×ν))(k:κ),@mdel κ ν (bqC e) m k=cdel e m k
 | [],_=>rfl
 |(a,b)::m,k=>by unfold mdel cdel;rw[zya m k];rfl
theorem y9w:∀(m:List (κ×ν))(k:κ)(v:ν),(@mset κ ν (bqC e) m k v).Perm ((k,v)::cdel e m k)
 | [],_,_=>List.Perm.refl _
 |(a,b)::m,k,v=>by
  unfold mset cdel;show (bif e k==e a then(k,v)::m else(a,b)::@mset κ ν (bqC e) m k v).Perm _;cases e k==e a with
  |true=>exact List.Perm.refl _
  |false=>exact((y9w m k v).cons _).trans (List.Perm.swap _ _ _)
theorem zit{m f:List (κ×ν)}(d:Ndp e m)(p:m.Perm f)(k:κ):(cdel e m k).Perm (cdel e f k):=by rw[zbl d,zbl (d.perm p)];exact p.filter _
theorem zui{es:List MapEntry}{d:List (κ×ν)}(h:es.map (λx=>(x.key,x.val))=d.map (λp=>(eK p.1,eV p.2))):es.map (·.key) =(d.map (·.1)).map eK:=by have:=congrArg (List.map Prod.fst) h;simpa[w2n,Function.comp_def] using this
theorem CM.look{P:Program}{kt:TypeId}{w:World}{b:Nat}{m:List (κ×ν)}(hk:KeyC P kt e eK)(h:CM w b e eK eV m)(k:κ):
  ∃es clock,w.heap[b]? = some (.map es clock)/\es.size=m.length/\∃r,(Instr.findKey kt (eK k) es.toList).run P w = .ok r w/\(cget e m k=none->r=none)/\∀v,cget e m k=some v->∃j,r=some (j,eV v):=by
 letI:BEq κ:=bqC e
 obtain⟨h0,es,c,m',h1,h2,h3,f⟩:=h;have hl:es.size=m.length:=by have:=congrArg List.length f;rw[w0q,w0q,h3.length_eq] at this;simpa using this
 refine⟨es,c,h1,hl,_,hk.find w k _ _ (zui f),?_,?_⟩
 .intro hn;rw[ziv h0.ndp h3.symm,<- zyc] at hn;cases z : @fnd κ (bqC e) k (m'.map (·.1)) es.toList 0 with
  |none=>rfl
  |some p=>obtain⟨j,u⟩:=p;obtain⟨_,⟨v,d,_⟩,_⟩:=@zjf κ ν (bqC e) eK eV k _ _ _ _ _ f z;rw[d] at hn;cases hn
 .intro v d;rw[ziv h0.ndp h3.symm,<- zyc] at d;cases z : @fnd κ (bqC e) k (m'.map (·.1)) es.toList 0 with
  |none=>rw[@zje κ ν (bqC e) eK eV k _ _ _ f z] at d;cases d
  |some p=>obtain⟨j,u⟩:=p;obtain⟨_,⟨v',g,hu⟩,_⟩:=@zjf κ ν (bqC e) eK eV k _ _ _ _ _ f z;rw[d] at g;cases g;exact⟨j,by rw[hu]⟩
theorem CM.upd{P:Program}{t kt et:TypeId}{w:World}{b:Nat}{m:List (κ×ν)}(hk:KeyC P kt e eK)(ht:P.underlying t=some (.map kt et))(h:CM w b e eK eV m)(k:κ)(v:ν)(hb:b<w.heap.size):
  ∃ob,(Instr.mapUpdate t (.map (some b)) (eK k) (eV v)).run P w = .ok () (setB w b ob)/\CM (setB w b ob) b e eK eV (cset e m k v):=by
 letI:BEq κ:=bqC e
 obtain⟨g,es,c,f,j,h2,h3,z⟩:=h;have hf:=hk.find w k _ _ (zui z);have a3:=g.ndp.perm h3.symm;have hp :((k,v)::cdel e f k).Perm (cset e m k v):=((zit a3 h3 k).cons _).trans (zix g k v).symm;cases d : @fnd κ (bqC e) k (f.map (·.1)) es.toList 0 with
 |none=>
  rw[d] at hf;refine⟨.map (es.push { key:=eK k,val:=eV v,born:=c }) (c+1),?_,g.set k v,_,_,f++[(k,v)],z4u w b _ hb,?_,?_,?_⟩
  .simp only[Instr.mapUpdate,w08,run_underlying ht,w06,w10 j,hk.check,hf,w2r _ j];rfl
  .rw[w37];exact h2.push _ _
  .have hn:=@zje κ ν (bqC e) eK eV k _ _ _ z d;have hd:cdel e f k=f:=by rw[<- zya];exact @zjr κ ν (bqC e) k _ hn
   rw[hd] at hp;exact(w4q (l₁:=f) (l₂:=[(k,v)])).trans hp
  .rw[w37,w1g,z,w1g];rfl
 |some p=>
  obtain⟨j',u⟩:=p;rw[d] at hf;obtain⟨_,_,⟨k',a1,en,he,a2⟩,h5⟩:=@zjf κ ν (bqC e) eK eV k _ _ _ _ _ z d;rw[w3f] at he h5;have a0:es[j']? = some en:=by simpa using he
  refine⟨.map (es.modify j' λx=>{ x with key:=eK k,val:=eV v }) c,?_,g.set k v,_,_,@mset κ ν (bqC e) f k v,z4u w b _ hb,?_,(y9w f k v).trans hp,?_⟩
  .simp only[Instr.mapUpdate,w08,run_underlying ht,w06,w10 j,hk.check,hf,a0,w0z,w1b,a2,hk.stays w k k' a1,w2r _ j];rfl
  .rw[w22];exact h2.mod λ_=>rfl
  .rw[w22];exact h5 v
theorem CM.del{P:Program}{t kt et ty:TypeId}{w:World}{b:Nat}{m:List (κ×ν)}{ts:Array TypeId}(g:ts[0]? = some t)(hk:KeyC P kt e eK)(ht:P.underlying t=some (.map kt et))(h:CM w b e eK eV m)(k:κ)(hb:b<w.heap.size):
  ∃ob,(Builtin.delete_ ts ty #[.map (some b),eK k]).run P w = .ok (.tuple #[]) (setB w b ob)/\CM (setB w b ob) b e eK eV (cdel e m k):=by
 letI:BEq κ:=bqC e
 obtain⟨h0,es,c,j,z,h2,h3,h4⟩:=h;have hf:=hk.find w k _ _ (zui h4);have f:=h0.ndp.perm h3.symm;cases d : @fnd κ (bqC e) k (j.map (·.1)) es.toList 0 with
 |none=>
  rw[d] at hf;have hn:=@zje κ ν (bqC e) eK eV k _ _ _ h4 d;have hd:cdel e j k=j:=by rw[<- zya];exact @zjr κ ν (bqC e) k _ hn
  refine⟨.map es c,?_,h0.del k,es,c,j,z4u w b _ hb,h2,hd ▸ zit f h3 k,h4⟩;simp[Builtin.delete_,g,run_underlying ht,w10 z,hk.check,hf,w2r _ z,setB]
 |some p=>
  obtain⟨j',u⟩:=p;rw[d] at hf;obtain⟨_,h5⟩:=@y8x κ ν (bqC e) eK eV k _ _ _ _ _ h4 d;rw[w3f,zya] at h5;have el :(es.eraseIdxIfInBounds j').toList=es.toList.eraseIdx j':=by
   simp[Array.eraseIdxIfInBounds];split
   .simp
   .rename_i q;rw[List.eraseIdx_of_length_le];simpa using q
  refine⟨.map (es.eraseIdxIfInBounds j') c,?_,h0.del k,_,c,cdel e j k,z4u w b _ hb,?_,zit f h3 k,?_⟩
  .simp[Builtin.delete_,g,run_underlying ht,w10 z,hk.check,hf,w2r _ z,setB]
  .rw[el];exact h2.sub (List.eraseIdx_sublist _ _)
  .rw[el];exact h5
end
section
variable{κ ν:Type}
def nmp(b:Nat)(e:κ->List Int)(eK:κ->Value)(I:ν->Value->HP)(m:List (κ×ν))(hole:Option (κ×Value)):HP:=
 ⟨λS r w=>∃(t:List (κ×(ν×Value)))(Sk:List Int->Nat->Prop),t.map (λp=>(p.1,p.2.1))=m/\S b/\CM w b e eK (·.2) t/\(∀k v,hole=some (k,v)->∃x,cget e t k=some (x,v))/\
   (∀p∈t,hole.map (λq=>e q.1)≠some (e p.1)->(I p.2.1 p.2.2).h (Sk (e p.1)) r w)/\(∀c x,Sk c x->S x/\x≠b)/\∀c c' x,Sk c x->Sk c' x->c=c',
  λh1 h2 h3 h=>by obtain⟨t,Sk,a,hb,c,d,i,f,g⟩:=h;exact⟨t,Sk,a,hb,c.mono (h3 _ hb),d,λp hp hh=>(I p.2.1 p.2.2).wk h1 h2 (λx hx=>h3 x (f _ x hx).1) (i p hp hh),f,g⟩⟩
def romE(e:κ->List Int)(eK:κ->Value)(E:ν->VP)(m:List (κ×ν)):VP:=
 ⟨λr w v=>(v = .map none/\m = [])\/∃b t,v = .map (some b)/\t.map (λp=>(p.1,p.2.1))=m/\r b/\CM w b e eK (λp:ν×Value=>p.2) t/\∀p∈t,(E p.2.1).h r w p.2.2,
  λh1 h2 h=>by
   rcases h with h|⟨b,t,hv,hm,hr,hc,he⟩
   .exact .inl h
   .exact .inr ⟨b,t,hv,hm,h1 _ hr,hc.mono (h2 _ hr hc.rec),λp hp=>(E p.2.1).wk h1 h2 (he p hp)⟩⟩
variable{e:κ->List Int}{eK:κ->Value}{I:ν->Value->HP}{m:List (κ×ν)}{hole:Option (κ×Value)}{b:Nat}{S r:Nat->Prop}{w:World}
theorem zsi{t:List (κ×(ν×Value))}{k:κ}(d:t.map (λp=>(p.1,p.2.1))=m):cget e m k =(cget e t k).map (·.1):=by rw[<- d];exact ycw (λp:ν×Value=>p.1) t k
theorem ye1{t:List (κ×(ν×Value))}(d:Ndp e t){p:κ×(ν×Value)}(f:p∈t){k:κ}{q:ν×Value}(g:cget e t k=some q)(h:e k=e p.1):p.2=q:=by have:=zoe d (k:=k) (a:=p.1) (v:=p.2) f h;rw[g] at this;cases this;rfl
theorem ya0{k:κ}{x:ν}(h :(nmp b e eK I m none).h S r w)(j:cget e m k=some x):
  ∃v S1 S2,(nmp b e eK I m (some (k,v))).h S1 r w/\(I x v).h S2 r w/\(∀c,S1 c->S c)/\(∀c,S2 c->S c)/\∀c,S1 c->¬S2 c:=by
 obtain⟨t,g,hm,hS,d,_,hE,hf,hg⟩:=h;rw[zsi hm] at j;cases hq:cget e t k with
 |none=>rw[hq] at j;cases j
 |some q=>
  obtain⟨x',v⟩:=q;rw[hq] at j;cases j;obtain⟨a,ha,a0⟩:=zb0 hq;refine⟨v,λc=>S c/\¬g (e k) c,g (e k),⟨t,λz c=>z≠e k/\g z c,hm,⟨hS,λq=>(hf _ _ q).2 rfl⟩,d,?_,?_,?_,?_⟩,?_,λc d=>d.1,λc d=>(hf _ _ d).1,λc d=>d.2⟩
  .intro k' v' q;cases q;exact⟨x',hq⟩
  .intro p hp f;have u:e p.1≠e k:=λq=>f (by simp[q])
   have e2 :(λc=>e p.1≠e k/\g (e p.1) c)=g (e p.1):=by funext c;exact propext ⟨λq=>q.2,λq=>⟨u,q⟩⟩
   have:=hE p hp (by simp);rw[<- e2] at this;exact this
  .rintro z c ⟨f,hs⟩;exact⟨⟨(hf _ _ hs).1,λq=>f (hg _ _ _ hs q)⟩,(hf _ _ hs).2⟩
  .rintro c z y ⟨_,h1⟩ ⟨_,h2⟩;exact hg _ _ _ h1 h2
  .have:=hE _ ha (by simp)
   rw[a0];exact this
theorem ye3{k:κ}{x:ν}{v:Value}{u:Nat->Prop}(hK:∀a b,e a=e b->eK a=eK b)(h :(nmp b e eK I m (some (k,v))).h S r w)(hx :(I x v).h u r w)(hd:∀c,S c->¬u c):(nmp b e eK I (cset e m k x) none).h (λc=>S c\/u c) r w:=by
 obtain⟨t,Sk,hm,hS,hc,hh,hE,hf,hg⟩:=h;obtain⟨x0,hq⟩:=hh k v rfl;obtain⟨j,es,cl,m',h1,h2,h3,h4⟩:=hc
 let g:κ×(ν×Value)->κ×(ν×Value):=λp=>bif e k==e p.1 then(k,(x,v)) else p
 have z:∀p∈t,e (g p).1=e p.1:=by
  intro p d;show e (bif e k==e p.1 then(k,(x,v)) else p).1=_;by_cases c:e k=e p.1
  .simp[c]
  .have :(e k==e p.1)=false:=by simpa using c
   rw[this];rfl
 have a0:cset e t k (x,v)=t.map g:=by
  obtain⟨a,ha,a1⟩:=zb0 hq;refine y3c (j.set k (x,v)) ?_ λp=>?_
  .unfold Srt';rw[w2x];refine List.Pairwise.imp_of_mem (λ{p q}d hq h=>?_) j;rw[z p d,z q hq];exact h
  .rw[z4k j,w0b];constructor
   .rintro(rfl|⟨d,f⟩)
    .exact⟨_,ha,by show (bif e k==e a then(k,(x,v)) else _)=_;rw[a1];simp⟩
    .refine⟨p,d,?_⟩;show (bif e k==e p.1 then(k,(x,v)) else p)=p;have :(e k==e p.1)=false:=by simpa using f
     rw[this];rfl
   .rintro⟨q,a3,rfl⟩;show (bif e k==e q.1 then(k,(x,v)) else q)=_\/(bif e k==e q.1 then(k,(x,v)) else q)∈t/\e k≠e (bif e k==e q.1 then(k,(x,v)) else q).1;by_cases c:e k=e q.1
    .left;simp[c]
    .right
     have :(e k==e q.1)=false:=by simpa using c
     rw[this];exact⟨a3,c⟩
 refine⟨cset e t k (x,v),λc y=>if c=e k then u y else Sk c y,?_,.inl hS,⟨j.set k (x,v),es,cl,m'.map g,h1,h2,?_,?_⟩,(λ_ _ q=>by cases q),?_,?_,?_⟩
 .rw[<- hm];exact ztr (λp:ν×Value=>p.1) t k (x,v)
 .rw[a0];exact h3.map g
 .rw[h4,w2n];refine w52 λp d=>?_
  have a2:=h3.mem_iff.1 d;show (eK p.1,p.2.2) =(eK (bif e k==e p.1 then(k,(x,v)) else p).1,(bif e k==e p.1 then(k,(x,v)) else p).2.2);by_cases c:e k=e p.1
  .have:=ye1 j.ndp a2 hq c
   simp only[c,beq_self_eq_true,cond_true,hK _ _ c,this]
  .have :(e k==e p.1)=false:=by simpa using c
   rw[this];rfl
 .intro p d _;rcases(z4k j).1 d with rfl|⟨d,f⟩
  .simp only[if_pos];exact hx
  .have e2 :(λy=>if e p.1=e k then u y else Sk (e p.1) y)=Sk (e p.1):=by funext y;rw[if_neg (λq=>f q.symm)]
   have:=hE p d (λq=>f (by simpa using q));rw[<- e2] at this;exact this
 .intro c y hy;split at hy
  .exact⟨.inr hy,λq=>hd b hS (q ▸ hy)⟩
  .exact⟨.inl (hf _ _ hy).1,(hf _ _ hy).2⟩
 .intro c c' y h5 h6;split at h5<;>split at h6
  .rename_i q q';rw[q,q']
  .exact absurd h5 (hd y (hf _ _ h6).1)
  .exact absurd h6 (hd y (hf _ _ h5).1)
  .exact hg _ _ _ h5 h6
end
end Px
end
section
namespace Px
open Go Go.RowKit
set_option linter.unusedSectionVars false
def plI{ν:Type}(eV:ν->Value)(y:ν)(v:Value):HP:=⟨λ_ _ _=>v=eV y,λ_ _ _ h=>h⟩
section
variable{κ ν:Type}{e:κ->List Int}{eK:κ->Value}{I:ν->Value->HP}{E:ν->VP}{m:List (κ×ν)}{hole:Option (κ×Value)}{b:Nat}
variable{P:Program}{C:Cx P}{s:St}{dst:Option Tmp}{ty:TypeId}{pos:String}{after:Array Edge}{guard:Option (Nat×Bool)}{K:VP->List HP->Prop}
theorem y6n[Dr]{t:TypeId}(k:∀b,K (eqv (.map (some b))) (s.objs++[nmp b e eK I [] none])):OpT C ⟨dst,.makeMap t none,ty,pos,after,guard⟩ s K:=
 .push (λb=>nmp b e eK I [] none) (λb=>eqv (.map (some b))) (λa r S w h g=>by
  refine⟨.map #[] 0,_,?_,rfl,[],λ_ _=>False,rfl,rfl,⟨List.Pairwise.nil,#[],0,[],heap_alloc_new w _,⟨by simp,by simp⟩,List.Perm.refl _,rfl⟩,(λ_ _ q=>by cases q),(λp d=>by cases d),(λc x hx=>hx.elim),λc f x hx=>hx.elim⟩;simp[execOp,run_makeMap]) k
theorem zjs{kt:TypeId}{S r:Nat->Prop}{w:World}(hk:KeyC P kt e eK)(h :(nmp b e eK I m hole).h S r w)(k:κ):
  ∃es clock,w.heap[b]? = some (.map es clock)/\es.size=m.length/\∃f,(Instr.findKey kt (eK k) es.toList).run P w = .ok f w/\(cget e m k=none->f=none)/\
   (∀x,cget e m k=some x->∃j v,f=some (j,v)/\(hole.map (λq=>e q.1)≠some (e k)->∃S',(I x v).h S' r w))/\∀g v,hole=some (g,v)->e g=e k->∃j,f=some (j,v):=by
 obtain⟨t,Sk,hm,hS,hc,hh,hE,_⟩:=h;obtain⟨es,clock,h1,h2,f,h3,h4,h5⟩:=hc.look hk k;have hl:t.length=m.length:=by rw[<- hm];simp
 refine⟨es,clock,h1,by omega,f,h3,?_,?_,?_⟩
 .intro hn;rw[zsi hm] at hn;exact h4 (by cases d:cget e t k with|none=>rfl|some q=>rw[d] at hn;cases hn)
 .intro x hx;rw[zsi hm] at hx;cases d:cget e t k with
  |none=>rw[d] at hx;cases hx
  |some q=>rw[d] at hx;cases hx;obtain⟨j,hj⟩:=h5 q d;obtain⟨a,ha,u⟩:=zb0 d;exact⟨j,q.2,hj,λa0=>⟨_,hE _ ha (by rw[<- u];exact a0)⟩⟩
 .intro g v hv z;obtain⟨x,hx⟩:=hh g v hv;rw[y82 z] at hx;exact h5 (x,v) hx
theorem zyg[Dr]{ν:Type}{g:ν->Value}{m:List (κ×ν)}{t kt et:TypeId}{x i:Operand}{k:κ}{d:ν}(j:Nat)(hk:KeyC P kt e eK)(ht:P.underlying t=some (.map kt et))(hz:tz1 P et=some (g d))(ho:ObIs s.objs j (nmp b e eK (plI g) m none))
  (hx:Ev s x (eqv (.map (some b)))) (hi:Ev s i (eqv (eK k))):OpQ C ⟨dst,.lookup t x i false,ty,pos,after,guard⟩ s (eqv (g ((cget e m k).getD d))):=
 .valO λa r S w hw hs=>by
  have u:=hx a r w hs;have z:=hi a r w hs;simp only[eqv] at u z
  letI:BEq κ:=bqC e
  obtain⟨es,clock,hc,_,f,h,hn,hv,_⟩:=zjs hk (ObIs.at hw ho) k;have a0:=zme hz w;cases hg:cget e m k with
  |none=>rw[hn hg] at h;refine⟨g d,?_,rfl⟩;simp only[execOp,u,z,Instr.lookup,w08,run_underlying ht,w06,w10 hc,w0p,hk.check,h,a0];simp
  |some y=>obtain⟨j',v,hj,hI⟩:=hv y hg;obtain⟨_,hI⟩:=hI (by simp);rw[hj] at h;refine⟨v,?_,hI⟩;simp only[execOp,u,z,Instr.lookup,w08,run_underlying ht,w06,w10 hc,w0p,hk.check,h];simp
theorem tup2{A B:VP}{r:Nat->Prop}{w:World}{u v:Value}(f:A.h r w u)(g:B.h r w v):(tupv [A,B]).h r w (.tuple #[u,v]):=by
 refine⟨_,rfl,rfl,λi X d=>?_⟩
 match i with
 |0=>simp at d;subst d;exact f
 |1=>simp at d;subst d;exact g
 |i+2=>simp at d
theorem y6j[Dr]{ν:Type}{g:ν->Value}{m:List (κ×ν)}{t kt et:TypeId}{x i:Operand}{k:κ}{d:ν}(j:Nat)(hk:KeyC P kt e eK)(ht:P.underlying t=some (.map kt et))(hz:tz1 P et=some (g d))(ho:ObIs s.objs j (nmp b e eK (plI g) m none))
  (hx:Ev s x (eqv (.map (some b)))) (hi:Ev s i (eqv (eK k))):OpQ C ⟨dst,.lookup t x i true,ty,pos,after,guard⟩ s (tupv [eqv (g ((cget e m k).getD d)),bv (cget e m k).isSome]):=
 .valO λa r S w hw hs=>by
  have u:=hx a r w hs;have z:=hi a r w hs;simp only[eqv] at u z
  letI:BEq κ:=bqC e
  obtain⟨es,clock,hc,_,f,h,hn,hv,_⟩:=zjs hk (ObIs.at hw ho) k;have a0:=zme hz w;cases hg:cget e m k with
  |none=>rw[hn hg] at h;refine⟨.tuple #[g d,.bool false],?_,tup2 rfl rfl⟩;simp only[execOp,u,z,Instr.lookup,w08,run_underlying ht,w06,w10 hc,w0p,hk.check,h,a0];simp
  |some y=>obtain⟨j',v,hj,hI⟩:=hv y hg;obtain⟨_,hI⟩:=hI (by simp);rw[hj] at h;refine⟨.tuple #[v,.bool true],?_,tup2 hI rfl⟩;simp only[execOp,u,z,Instr.lookup,w08,run_underlying ht,w06,w10 hc,w0p,hk.check,h];simp
theorem y6l[Dr]{t kt et:TypeId}{x i:Operand}{k d:κ}{v:Value}(j:Nat)(z:KeyC P kt e eK)(ht:P.underlying t=some (.map kt et))(ho:ObIs s.objs j (nmp b e eK I m (some (d,v))))(he:e d=e k)
  (hx:Ev s x (eqv (.map (some b)))) (hi:Ev s i (eqv (eK k))):OpQ C ⟨dst,.lookup t x i false,ty,pos,after,guard⟩ s (eqv v):=
 .valO λa r S w hw hs=>by
  have g:=hx a r w hs;have h:=hi a r w hs;simp only[eqv] at g h
  letI:BEq κ:=bqC e
  obtain⟨es,clock,hc,_,f,u,_,_,hh⟩:=zjs z (ObIs.at hw ho) k;obtain⟨j',hj⟩:=hh d v rfl he;rw[hj] at u;refine⟨v,?_,rfl⟩;simp only[execOp,g,h,Instr.lookup,w08,run_underlying ht,w06,w10 hc,w0p,z.check,u];simp
theorem y6m[Dr]{t kt g:TypeId}{x i:Operand}{k:κ}{z:Value}(j:Nat)(hk:KeyC P kt e eK)(ht:P.underlying t=some (.map kt g))(hz:tz1 P g=some z)(ho:ObIs s.objs j (nmp b e eK I m hole))(hg:cget e m k=none)
  (hx:Ev s x (eqv (.map (some b)))) (hi:Ev s i (eqv (eK k))):OpQ C ⟨dst,.lookup t x i false,ty,pos,after,guard⟩ s (eqv z):=
 .valO λa r S w hw hs=>by
  have h:=hx a r w hs;have u:=hi a r w hs;simp only[eqv] at h u
  letI:BEq κ:=bqC e
  obtain⟨es,clock,hc,_,f,hf,hn,_⟩:=zjs hk (ObIs.at hw ho) k;have d:=zme hz w;rw[hn hg] at hf;refine⟨z,?_,rfl⟩;simp only[execOp,h,u,Instr.lookup,w08,run_underlying ht,w06,w10 hc,w0p,hk.check,hf,d];simp
theorem yiv{t kt et:TypeId}{S r:Nat->Prop}{w:World}(hk:KeyC P kt e eK)(ht:P.underlying t=some (.map kt et))(h :(nmp b e eK I m hole).h S r w)(k:κ)(y:ν)(u:Value)(hole':Option (κ×Value))(hb:b<w.heap.size)(hr:¬r b)
  (ho:∀q,hole=some q->e q.1=e k) (g:hole'=none/\(∀S r w,(I y u).h S r w)\/hole'=some (k,u)) :
  ∃ob,(Instr.mapUpdate t (.map (some b)) (eK k) u).run P w = .ok () (setB w b ob)/\(nmp b e eK I (cset e m k y) hole').h S r (setB w b ob):=by
 obtain⟨t',Sk,hm,hS,hc,hh,hE,hf,hg⟩:=h;have h0:=hc.1;obtain⟨ob,j,z⟩:=hc.upd hk ht k (y,u) hb;refine⟨ob,j,cset e t' k (y,u),Sk,?_,hS,z,?_,?_,hf,hg⟩
 .rw[<- hm];exact ztr (λp:ν×Value=>p.1) t' k (y,u)
 .intro k2 v2 q;rcases g with⟨q',_⟩|q'
  .rw[q'] at q;cases q
  .rw[q'] at q;cases q;exact⟨y,by rw[zto h0];simp⟩
 .intro p hp d;rcases(z4k h0).1 hp with rfl|⟨hp,f⟩
  .rcases g with⟨q',hI⟩|q'
   .exact hI _ _ _
   .rw[q'] at d;exact absurd rfl d
  .refine(I p.2.1 p.2.2).mono (λ_ h=>h) (λx hx=>z1v w b x ob (λq=>hr (q ▸ hx))) (λx hx=>z1v w b x ob (hf _ x hx).2) (hE p hp ?_);intro q;cases hole with
   |none=>cases q
   |some q2=>simp only[w0z,w01] at q;exact f ((ho q2 rfl).symm.trans q)
theorem zms[Dr]{t kt et:TypeId}{x i y:Operand}{k:κ}{z:ν}{u:Value}{hole':Option (κ×Value)}(j:Nat)(hk:KeyC P kt e eK)(ht:P.underlying t=some (.map kt et))(ho:s.objs[j]? = some (nmp b e eK I m hole))
  (hx:Ev s x (eqv (.map (some b)))) (hi:Ev s i (eqv (eK k))) (hy:Ev s y (eqv u)) (hq:∀q,hole=some q->e q.1=e k) (a0:hole'=none/\(∀S r w,(I z u).h S r w)\/hole'=some (k,u))
  (kk:K topv (s.objs.set j (nmp b e eK I (cset e m k z) hole'))):OpT C ⟨none,.mapUpdate t x i y,ty,pos,after,guard⟩ s K:=
 .storeB rfl j _ (w04.1 ho).1 (λa r S w hw hs=>by
  have h1:=hx a r w hs;have h2:=hi a r w hs;have h3:=hy a r w hs;simp only[eqv] at h1 h2 h3;have hn:=hw.obj j _ ho;have f:S j b:=by obtain⟨_,_,_,f,_⟩:=hn;exact f
  obtain⟨_,_,g,hr⟩:=hw.own j b f;obtain⟨ob,d,h⟩:=yiv hk ht hn k z u hole' g hr hq a0;refine⟨b,ob,f,?_,h⟩;simp only[execOp,h1,h2,h3,w08,d,w06];rfl) kk
theorem ya4[Dr]{t kt et:TypeId}{x i:Operand}{k:κ}(j:Nat)(hk:KeyC P kt e eK)(ht:P.underlying t=some (.map kt et))(ho:s.objs[j]? = some (nmp b e eK I m none))
  (f:Ev s x (eqv (.map (some b)))) (hi:Ev s i (eqv (eK k))) {ts:Array TypeId} (a1:ts[0]? = some t) (kk:K (eqv (.tuple #[])) (s.objs.set j (nmp b e eK I (cdel e m k) none))) :
  OpT C ⟨dst,.call { callee:=.builtin .delete,args:=#[x,i],argTypes:=ts },ty,pos,after,guard⟩ s K:=
 .storeBV j _ _ (w04.1 ho).1 (λa r S w hw hs=>by
  have h1:=f a r w hs;have h2:=hi a r w hs;simp only[eqv] at h1 h2;obtain⟨t',Sk,hm,g,hc,hh,hE,hf,hg⟩:=hw.obj j _ ho;obtain⟨_,_,z,hr⟩:=hw.own j b g;obtain⟨ob,d,u⟩:=hc.del (ty:=ty) a1 hk ht k z;refine⟨b,ob,.tuple #[],g,?_,⟨cdel e t' k,Sk,?_,g,u,(λ_ _ q=>by cases q),?_,hf,hg⟩,λ_=>rfl⟩
  .simp[execOp,resolve,invoke,builtin,h1,h2,d]
  .rw[<- hm];exact ycs (λp:ν×Value=>p.1) t' k
  .intro p hp a0;exact(I p.2.1 p.2.2).mono (λ_ h=>h) (λx f=>z1v w b x ob (λq=>hr (q ▸ f))) (λx f=>z1v w b x ob (hf _ x f).2) (hE p ((zns t' k).subset hp) a0)) kk
theorem y6i[Dr]{t u z:TypeId}{x i:Operand}{k:κ}(hk:KeyC P u e eK)(ht:P.underlying t=some (.map u z))(hx:Ev s x (eqv (.map none)))(hi:Ev s i (eqv (eK k))){f:Array TypeId}(d:f[0]? = some t):
  OpQ C ⟨dst,.call { callee:=.builtin .delete,args:=#[x,i],argTypes:=f },ty,pos,after,guard⟩ s (eqv (.tuple #[])):=
 .val λa r w j=>by
  have g:=hx a r w j;have h:=hi a r w j;simp only[eqv] at g h
  letI:BEq κ:=bqC e
  have hr :(Builtin.delete_ f ty #[a.eval x,a.eval i]).run P w = .ok (.tuple #[]) w:=by simp[Builtin.delete_,d,g,h,run_underlying ht,hk.check]
  exact⟨.tuple #[],by simp[execOp,resolve,invoke,builtin,hr],rfl⟩
theorem ya1{S r:Nat->Prop}{w:World}(h :(nmp b e eK I m hole).h S r w):∃es clock,w.heap[b]? = some (.map es clock)/\es.size=m.length:=by obtain⟨t,u,j,hS,⟨z,es,c,m',d,h2,f,g⟩,_⟩:=h;refine⟨es,c,d,?_⟩;have:=congrArg List.length g;rw[w0q,w0q,f.length_eq] at this;rw[<- j];simpa using this
theorem yli[Dr]{t kt f:TypeId}{x:Operand}(j:Nat)(ht:P.underlying t=some (.map kt f))(u:ObIs s.objs j (nmp b e eK I m hole))
  (hx:Ev s x (eqv (.map (some b)))):OpQ C ⟨dst,.call { callee:=.builtin .len,args:=#[x],argTypes:=#[t] },ty,pos,after,guard⟩ s (iv .i64 m.length):=
 .valO λa r S w hw z=>by
  have d:=hx a r w z;simp only[eqv] at d;obtain⟨es,clock,g,h⟩:=ya1 (ObIs.at hw u);exact⟨_,z7r (by simp[Builtin.len_,d,run_underlying ht,w10 g];rfl),by rw[h];rfl⟩
theorem ye6[Dr]{t kt h t':TypeId}{x y:Operand}(u:P.underlying t=some (.map kt h))(z:Ev s x (eqv (.map (some b))))(hy:Ev s y (eqv (.map none))):OpQ C ⟨dst,.binOp .eql t x y t',ty,pos,after,guard⟩ s (bv false):=
 .val λa r w g=>by
  have d:=z a r w g;have f:=hy a r w g;simp only[eqv] at d f;have j :(Op.equal t (.map (some b)) (.map none)).run P w = .ok false w:=by show (Op.equalIn (9999+1) t _ _).run P w=_;rw[Op.equalIn];simp[run_underlying u]
  refine⟨.bool false,?_,rfl⟩;simp[execOp,binOp,eqGuard,d,f,j]
theorem ya5[Dr]{t kt h t':TypeId}{x y:Operand}(u:P.underlying t=some (.map kt h))(z:Ev s x (eqv (.map none)))(hy:Ev s y (eqv (.map none))):OpQ C ⟨dst,.binOp .eql t x y t',ty,pos,after,guard⟩ s (bv true):=
 .val λa r w g=>by
  have d:=z a r w g;have f:=hy a r w g;simp only[eqv] at d f;have j :(Op.equal t (.map none) (.map none)).run P w = .ok true w:=by show (Op.equalIn (9999+1) t _ _).run P w=_;rw[Op.equalIn];simp[run_underlying u]
  refine⟨.bool true,?_,rfl⟩;simp[execOp,binOp,eqGuard,d,f,j]
theorem ya6[Dr]{α:Type}{e:α->List VP}{sz:Nat}{l:List α}{t t' E:TypeId}{x y:Operand}(z:P.underlying t=some (.slice E))(j:l.isEmpty=false)(hx:Ev s x (ro e sz l))(hy:Ev s y (eqv (.slice none 0 0))):OpQ C ⟨dst,.binOp .eql t x y t',ty,pos,after,guard⟩ s (bv false):=
 .val λa r w h=>by
  have f:=hx a r w h;have g:=hy a r w h;simp only[eqv] at g;rcases f with⟨_,rfl⟩|⟨b,o,d,f,_⟩
  .cases j
  .have u :(Op.equal t (.slice (some ⟨b,o,none⟩) l.length (l.length+d)) (.slice none 0 0)).run P w = .ok false w:=by show (Op.equalIn (9999+1) t _ _).run P w=_;rw[Op.equalIn];simp[run_underlying z]
   refine⟨.bool false,?_,rfl⟩;simp[execOp,binOp,eqGuard,f,g,u]
theorem ya7[Dr]{t t' E:TypeId}{x y:Operand}{d:Option Addr}{n f:Nat}(z:P.underlying t=some (.slice E))(hx:Ev s x (eqv (.slice d n f)))(hy:Ev s y (eqv (.slice none 0 0))):OpQ C ⟨dst,.binOp .eql t x y t',ty,pos,after,guard⟩ s (bv d.isNone):=
 .val λa r w j=>by
  have g:=hx a r w j;have h:=hy a r w j;simp only[eqv] at g h;have u :(Op.equal t (.slice d n f) (.slice none 0 0)).run P w = .ok d.isNone w:=by show (Op.equalIn (9999+1) t _ _).run P w=_;rw[Op.equalIn];cases d<;>simp[run_underlying z]
  refine⟨.bool d.isNone,?_,rfl⟩;simp[execOp,binOp,eqGuard,g,h,u]
theorem ygd{S r:Nat->Prop}{w:World}(h :(nmp b e eK I m none).h S r w)(j:∀x v f,(I x v).h f r w->(E x).h (λc=>r c\/f c) w v):(romE e eK E m).h (λc=>r c\/S c) w (.map (some b)):=by obtain⟨t,Sk,hm,u,d,_,g,z,_⟩:=h;refine .inr ⟨b,t,rfl,hm,.inr u,d,λp hp=>?_⟩;exact(E p.2.1).mono (λc d=>d.elim .inl λq=>.inr (z _ c q).1) (λ_ _=>rfl) (j p.2.1 p.2.2 _ (g p hp (by simp)))
theorem y58{g:TypeId}{r:Nat->Prop}{w:World}{v:Value}(hk:KeyC P g e eK)(h :(romE e eK E m).h r w v)(k:κ):
  ∃es:Array MapEntry,(∀{t z:TypeId}{ok:Bool}{x:Value},P.underlying t=some (.map g z)->(Instr.lookup t v x ok).run P w =(do
    Instr.checkKey es.isEmpty 10000 g x
    let (v,a0) <- match <- Instr.findKey g x es.toList with
     |some (_,v)=>pure (v,true)
     |none=>pure (<- zeroValue z,false)
    pure (if ok then .tuple #[v,.bool a0] else v):Sem Value).run P w)/\es.size=m.length/\∃f,(Instr.findKey g (eK k) es.toList).run P w = .ok f w/\(cget e m k=none->f=none)/\
   (∀x,cget e m k=some x->∃j u,f=some (j,u)/\(E x).h r w u):=by
 letI:BEq κ:=bqC e
 rcases h with⟨rfl,rfl⟩|⟨b,t,rfl,hm,hr,hc,hE⟩
 .refine⟨#[],?_,rfl,none,?_,λ_=>rfl,λx hx=>by cases hx⟩
  .intro t z ok x ht;simp only[Instr.lookup,w08,run_underlying ht,w06,w0p];rfl
  .exact hk.find w k [] [] rfl
 .obtain⟨es,clock,h1,h2,f,h3,h4,h5⟩:=hc.look hk k;have hl:t.length=m.length:=by rw[<- hm];simp
  refine⟨es,?_,by omega,f,h3,?_,?_⟩
  .intro t z ok x ht;simp only[Instr.lookup,w08,run_underlying ht,w06,w0p,w10 h1];rfl
  .intro hn;rw[zsi hm] at hn;exact h4 (by cases d:cget e t k with|none=>rfl|some q=>rw[d] at hn;cases hn)
  .intro x hx;rw[zsi hm] at hx;cases d:cget e t k with
   |none=>rw[d] at hx;cases hx
   |some q=>rw[d] at hx;cases hx;obtain⟨j,hj⟩:=h5 q d;obtain⟨a,ha,_⟩:=zb0 d;exact⟨j,q.2,hj,hE _ ha⟩
theorem ye7[Dr]{t kt et:TypeId}{x i:Operand}{k:κ}{d:ν}{z:Value}(j:KeyC P kt e eK)(ht:P.underlying t=some (.map kt et))(hz:tz1 P et=some z)(hd:Ent (eqv z) (E d))
  (hx:Ev s x (romE e eK E m)) (hi:Ev s i (eqv (eK k))):OpQ C ⟨dst,.lookup t x i false,ty,pos,after,guard⟩ s (E ((cget e m k).getD d)):=
 .val λa r w hs=>by
  have h1:=hx a r w hs;have h:=hi a r w hs;simp only[eqv] at h
  letI:BEq κ:=bqC e
  obtain⟨es,hl,_,f,g,hn,hv⟩:=y58 j h1 k;have u:=zme hz w;cases hg:cget e m k with
  |none=>rw[hn hg] at g;refine⟨z,?_,hd _ _ _ rfl⟩;simp only[execOp,h,hl ht,w08,w06,w0p,j.check,g,u];simp
  |some y=>obtain⟨j',v,hj,hI⟩:=hv y hg;rw[hj] at g;refine⟨v,?_,hI⟩;simp only[execOp,h,hl ht,w08,w06,w0p,j.check,g];simp
theorem ya8[Dr]{t kt et:TypeId}{x i:Operand}{k:κ}{d:ν}{z:Value}(j:KeyC P kt e eK)(ht:P.underlying t=some (.map kt et))(hz:tz1 P et=some z)(hd:Ent (eqv z) (E d))
  (hx:Ev s x (romE e eK E m)) (hi:Ev s i (eqv (eK k))):OpQ C ⟨dst,.lookup t x i true,ty,pos,after,guard⟩ s (tupv [E ((cget e m k).getD d),bv (cget e m k).isSome]):=
 .val λa r w hs=>by
  have h1:=hx a r w hs;have h:=hi a r w hs;simp only[eqv] at h
  letI:BEq κ:=bqC e
  obtain⟨es,hl,_,f,g,hn,hv⟩:=y58 j h1 k;have u:=zme hz w;cases hg:cget e m k with
  |none=>rw[hn hg] at g;refine⟨.tuple #[z,.bool false],?_,tup2 (hd _ _ _ rfl) rfl⟩;simp only[execOp,h,hl ht,w08,w06,w0p,j.check,g,u];simp
  |some y=>obtain⟨j',v,hj,hI⟩:=hv y hg;rw[hj] at g;refine⟨.tuple #[v,.bool true],?_,tup2 hI rfl⟩;simp only[execOp,h,hl ht,w08,w06,w0p,j.check,g];simp
theorem yiw[Dr]{t kt g:TypeId}{x:Operand}(f:P.underlying t=some (.map kt g))(hx:Ev s x (romE e eK E m)):OpQ C ⟨dst,.call { callee:=.builtin .len,args:=#[x],argTypes:=#[t] },ty,pos,after,guard⟩ s (iv .i64 m.length):=
 .val λa r w hs=>by
  rcases hx a r w hs with⟨d,rfl⟩|⟨b,t',d,hm,hr,⟨h0,es,c,m',h,h3,j,u⟩,hE⟩
  .exact⟨_,z7r (by simp[Builtin.len_,d,run_underlying f];rfl),rfl⟩
  .have z:es.size=m.length:=by have:=congrArg List.length u;rw[w0q,w0q,j.length_eq] at this;rw[<- hm];simpa using this
   exact⟨_,z7r (by simp[Builtin.len_,d,run_underlying f,w10 h];rfl),by rw[z];rfl⟩
end
end Px
end
section
namespace Px
open Go Go.RowKit
set_option linter.unusedSectionVars false
section
variable{κ ν:Type}
def itr(q:Nat)(e:κ->List Int)(eK:κ->Value)(E:ν->VP)(rem:List (κ×ν))(cur:Option (κ×ν)):HP:=
 ⟨λS r w=>S q/\Ndp e rem/\((∃a c d,w.heap[q]? = some (.mapIter none a c d)/\rem = []/\cur=none)\/∃(b:Nat)(es:Array MapEntry)(clock:Nat)(seen:Array Nat)(t:List (κ×(ν×Value))),
   w.heap[q]? = some (.mapIter (some b) clock seen clock)/\r b/\w.heap[b]? = some (.map es clock)/\Stmp es.toList clock/\(t.map (λp=>(p.1,p.2.1))).Perm rem/\
   (es.toList.filter (λx=>!seen.contains x.born)).map (λx=>(x.key,x.val))=t.map (λp=>(eK p.1,p.2.2))/\(∀p∈t,(E p.2.1).h r w p.2.2)/\
   ∀k x,cur=some (k,x)->∃en∈es.toList,seen.back? = some en.born/\en.key=eK k/\(E x).h r w en.val),
  λh1 h2 h3 h=>by
   obtain⟨hS,hnd,h⟩:=h;refine⟨hS,hnd,?_⟩;rcases h with⟨a,c,d,h,h'⟩|⟨b,es,clock,seen,t,a1,a2,a3,a4,a5,a6,a7,a8⟩
   .exact .inl ⟨a,c,d,(h3 _ hS).trans h,h'⟩
   .refine .inr ⟨b,es,clock,seen,t,(h3 _ hS).trans a1,h1 _ a2,(h2 _ a2 (λq=>by rcases q with⟨l,e⟩|⟨l,e⟩<;>(rw[a3] at e;cases e))).trans a3,a4,a5,a6,λp hp=>(E p.2.1).wk h1 h2 (a7 p hp),λk x hc=>?_⟩;obtain⟨en,b1,b2,b3,b4⟩:=a8 k x hc;exact⟨en,b1,b2,b3,(E x).wk h1 h2 b4⟩⟩
variable{e:κ->List Int}{eK:κ->Value}{E:ν->VP}{m rem:List (κ×ν)}{cur:Option (κ×ν)}{q:Nat}
theorem yii{S r:Nat->Prop}{w:World}(h :(itr q e eK E rem cur).h S r w):(itr q e eK E rem none).h S r w:=by
 obtain⟨hS,f,h⟩:=h;refine⟨hS,f,?_⟩;rcases h with⟨a,c,d,h1,h2,h3⟩|⟨b,es,clock,seen,t,g,j,a3,a4,a5,u,z,a8⟩
 .exact .inl ⟨a,c,d,h1,h2,rfl⟩
 .exact .inr ⟨b,es,clock,seen,t,g,j,a3,a4,a5,u,z,λk x hc=>by cases hc⟩
variable{P:Program}{C:Cx P}{s:St}{dst:Option Tmp}{ty:TypeId}{pos:String}{after:Array Edge}{guard:Option (Nat×Bool)}{K:VP->List HP->Prop}
theorem ye8[Dr]{t kt et:TypeId}{x:Operand}(ht:P.underlying t=some (.map kt et))(hx:Ev s x (romE e eK E m))(k:∀q,K (eqv (.pointer (some ⟨q,0,none⟩))) (s.objs++[itr q e eK E m none])):
  OpT C ⟨dst,.range t x,ty,pos,after,guard⟩ s K:=
 .push (λq=>itr q e eK E m none) (λq=>eqv (.pointer (some ⟨q,0,none⟩))) (λa r S w hw hs=>by
  rcases hx a r w hs with⟨d,rfl⟩|⟨b,t',d,u,z,⟨h0,es,c,m',g,h3,j,h5⟩,hE⟩
  .refine⟨.mapIter none 0 #[] 0,.pointer (some ⟨w.heap.size,0,none⟩),?_,rfl,rfl,List.Pairwise.nil,.inl ⟨0,#[],0,heap_alloc_new w _,rfl,rfl⟩⟩;simp[execOp,d,Instr.range,run_underlying ht]
  .have hb:b<w.heap.size:=hw.old b z;have he :(w.alloc (.mapIter (some b) c #[] c)).heap[b]? = some (.map es c):=by rw[heap_alloc_old w _ hb,g]
   refine⟨.mapIter (some b) c #[] c,.pointer (some ⟨w.heap.size,0,none⟩),?_,rfl,rfl,(by rw[<- u];exact w2x.2 h0.ndp),.inr ⟨b,es,c,#[],m',heap_alloc_new w _,z,he,h3,?_,?_,?_,λk x q=>by cases q⟩⟩
   .simp[execOp,d,Instr.range,run_underlying ht,w10 g]
   .rw[<- u];exact j.map _
   .have e1 :(es.toList.filter λx=>!(#[]:Array Nat).contains x.born)=es.toList:=w3b.2 (λx _=>by simp);rw[e1,h5]
   .intro p hp;exact(E p.2.1).mono (λ_ h=>h) (λb' f=>heap_alloc_old w _ (hw.old b' f)) (hE p (j.mem_iff.1 hp))) k
theorem y0s{es:List MapEntry}{d:Array Nat}{g:MapEntry}(u :(es.map (·.born)).Nodup)(he:g∈es.filter (λx=>!d.contains x.born)):
  (es.filter (λx=>!d.contains x.born)).Perm (g::es.filter (λx=>!(d.push g.born).contains x.born)):=by
 have j:es.filter (λx=>!(d.push g.born).contains x.born) =(es.filter (λx=>!d.contains x.born)).filter (λx=>!(x.born==g.born)):=by
  rw[List.filter_filter];refine w3l λx _=>?_
  rw[Array.contains_push,Bool.not_or,Bool.and_comm]
 rw[j];have f :((es.filter (λx=>!d.contains x.born)).map (·.born)).Nodup:=(List.filter_sublist.map _).nodup u;generalize es.filter (λx=>!d.contains x.born)=l at he f;clear j u
 induction l with
 |nil=>cases he
 |cons a l z=>
  simp only[w0l,w1x] at f;rcases w05.1 he with rfl|he
  .have :(l.filter λx=>!(x.born==g.born))=l:=w3b.2 λx hx=>by
    have:x.born≠g.born:=λq=>f.1 (q ▸ w0b.2 ⟨x,hx,rfl⟩)
    simpa using this
   rw[w4l (by simp),this]
  .have h:a.born≠g.born:=λq=>f.1 (q ▸ w0b.2 ⟨g,he,rfl⟩)
   rw[w2w (by simpa using h)];exact((z he f.2).cons a).trans (List.Perm.swap ..)
theorem yix[Dr]{X:κ->VP}(hX:∀k,Ent (eqv (eK k)) (X k))(j:Nat){x:Operand}(ho:s.objs[j]? = some (itr q e eK E rem cur))(hx:Ev s x (eqv (.pointer (some ⟨q,0,none⟩))))
  (h0:rem = []->K (tupv [bv false]) s.objs) (h1:∀k y ad,rem.Perm ((k,y)::ad)->K (tupv [bv true,X k,E y]) (s.objs.set j (itr q e eK E ad (some (k,y))))) :
  OpT C ⟨dst,.next x false,ty,pos,after,guard⟩ s K:=by
 intro a w r S Q hd hn hw hs;have ak:=hx a r w hs;simp only[eqv] at ak;have hj:=(w04.1 ho).1;obtain⟨hS,b9,h⟩:=hw.obj j _ ho;obtain⟨_,b2,b8,ar⟩:=hw.own j q hS;have over:∀(a0 :(Instr.next (.pointer (some ⟨q,0,none⟩)) false ty).run P w = .ok (.tuple #[.bool false]) w),rem = []->(⟨dst,.next x false,ty,pos,after,guard⟩:Oper).wp P a w (λa' w'=>∃v am S' x objs',a'=a.put dst v/\Evo C.base r w am w'/\WInv C.w0 C.base objs' am S' w'/\x.h am w' v/\K x objs') Q:=by
  intro a0 z;unfold Oper.wp;have :(execOp a.eval ⟨dst,.next x false,ty,pos,after,guard⟩).run P w = .ok (.value (.tuple #[.bool false])) w:=by simp[execOp,ak,a0]
  rw[this,Oper.upon_value];refine⟨_,r,S,tupv [bv false],s.objs,rfl,Evo.refl _ _ _,hw,⟨_,rfl,rfl,λi A hi=>?_⟩,h0 z⟩
  match i with
  |0=>simp at hi;subst hi;rfl
  |i+1=>simp at hi
 rcases h with⟨a',c',d',h2,h3,h4⟩|⟨b,es,clock,seen,t,a1,a2,a3,a4,a5,a6,a7,a8⟩
 .refine over ?_ h3;simp[Instr.next,getObj,Sem.run,h2]
 .have ab:∀y∈es.toList,y.born<clock:=a4.lt;have aw:=next_test_false seen es clock clock ab (w16 _);have hb:b<w.heap.size:=hw.old b a2;have af:∀y∈(Array.filter (λe=>!seen.contains e.born) es).toList,y.born<clock:=λy hy=>ab y (by simp at hy⊢;exact hy.1)
  have ae :(Array.filter (λe=>!seen.contains e.born) es).toList=es.toList.filter (λx=>!seen.contains x.born):=Array.toList_filter ..
  generalize hL:Array.filter (λe=>!seen.contains e.born) es=L at af ae;have e1:L.filter (λx=>decide (x.born<clock))=L:=Array.filter_eq_self.2 (λx hx=>by simpa using af x (by simpa using hx));have e2:L.filter (λx=>decide (x.born >= clock)) = #[]:=by rw[Array.filter_eq_empty_iff];intro x hx;have:=af x (by simpa using hx);simp;omega
  have bc:L.size=rem.length:=by have h5:=congrArg List.length a6;rw[<- ae,w0q,w0q] at h5;have h6:=a5.length_eq;rw[w0q] at h6;simp at h5;omega
  by_cases hz:L.size=0
  .have b0:L = #[]:=w4v hz;refine over ?_ (List.length_eq_zero_iff.1 (by omega));simp only[Instr.next,getObj,w08,Sem.run,a1,a3,Result.andThen,aw,w09,if_false,hL,e1,e2,Array.append_empty];subst b0;simp[choose,Sem.run,Question.forced]
  .have ba:L.isEmpty=false:=by simp[Array.isEmpty,hz]
   have b4:∃(i:Nat)(u:World),i<L.size/\u.heap=w.heap/\(∃k,w.drawn<=k/\u = { w with drawn:=k })/\(choose (Question.mapNext L.size)).run P w = .ok i u:=by
    by_cases hf:L.size<=1
    .exact⟨0,w,by omega,rfl,⟨w.drawn,w16 _,rfl⟩,by simp[choose,Sem.run,Question.forced,hf]⟩
    .exact⟨_,w.drew,w44 _ (by omega),rfl,⟨w.drawn+1,w54 _,rfl⟩,by simp only[choose,Sem.run,Question.forced,decide_eq_true_eq,hf,if_false,Question.cut];rfl⟩
   obtain⟨i,u,hi,aj,⟨k1,b7,ay⟩,a0⟩:=b4;have a9:L[i]∈es.toList.filter (λx=>!seen.contains x.born):=by rw[<- ae];simp
   have ag :(Instr.next (.pointer (some ⟨q,0,none⟩)) false ty).run P w = .ok (.tuple #[.bool true,L[i].key,L[i].val]) (setB u q (.mapIter (some b) clock (seen.push L[i].born) clock)):=by
    have az:u.heap[q]? = some (.mapIter (some b) clock seen clock):=by rw[aj];exact a1
    simp only[Instr.next,getObj,w08,Sem.run,a1,a3,Result.andThen,aw,w09,if_false,hL,e1,e2,Array.append_empty,ba,Array.empty_append,Array.size_map,a0,Array.getElem?_map,w23 hi,w0z,setObj,az];rfl
   have ah:=y0s a4.nd a9;obtain⟨p,hp,bf⟩:∃p∈t,(L[i].key,L[i].val) =(eK p.1,p.2.2):=by
    have :(L[i].key,L[i].val)∈t.map (λp=>(eK p.1,p.2.2)):=by rw[<- a6];exact w0b.2 ⟨_,a9,rfl⟩
    obtain⟨p,hp,h⟩:=w0b.1 this;exact⟨p,hp,h.symm⟩
   have av:=ah.map (λx:MapEntry=>(x.key,x.val));rw[a6] at av;obtain⟨t2,ai,g⟩:=y1s av.symm;cases t2 with
   |nil=>simp at g
   |cons p2 t2=>
    simp only[w0l,w2i,w0k] at g;obtain⟨⟨aq,ax⟩,g⟩:=g;have au:p2∈t:=ai.mem_iff.1 (by simp);have z:rem.Perm ((p2.1,p2.2.1)::t2.map (λp=>(p.1,p.2.1))):=a5.symm.trans ((ai.symm.map (λp:κ×(ν×Value)=>(p.1,p.2.1))));have ac:WInv C.w0 C.base s.objs r S u:=by rw[ay];exact hw.drawn k1 b7
    have ap:∀d,d<u.heap.size->¬S j d->(setB u q (.mapIter (some b) clock (seen.push L[i].born) clock)).heap[d]? = u.heap[d]?:=λd _ f=>z1v u q d _ (λe=>f (e ▸ hS))
    have hother:∀d,d≠q->(setB u q (.mapIter (some b) clock (seen.push L[i].born) clock)).heap[d]? = w.heap[d]?:=λd f=>(z1v u q d _ f).trans (by rw[aj])
    have b3:b≠q:=λe=>ar (e ▸ a2)
    have aa:∀d,r d->(setB u q (.mapIter (some b) clock (seen.push L[i].born) clock)).heap[d]? = w.heap[d]?:=λd f=>hother d (λe=>ar (e ▸ f))
    have hH :(itr q e eK E (t2.map (λp=>(p.1,p.2.1))) (some (p2.1,p2.2.1))).h (S j) r (setB u q (.mapIter (some b) clock (seen.push L[i].born) clock)):=by
     refine⟨hS,(w13.1 (b9.perm z)).2,.inr ⟨b,es,clock,seen.push L[i].born,t2,z4u u q _ (by rw[aj];exact b8),a2,(hother b b3).trans a3,a4,List.Perm.refl _,g,?_,?_⟩⟩
     .intro p' bb;exact(E p'.2.1).mono (λ_ h=>h) aa (a7 p' (ai.mem_iff.1 (by simp[bb])))
     .intro k y hc;cases hc;refine⟨L[i],(w0i.1 a9).1,by simp,aq,?_⟩;rw[ax];exact(E p2.2.1).mono (λ_ h=>h) aa (a7 p2 au)
    unfold Oper.wp;have b5 :(execOp a.eval ⟨dst,.next x false,ty,pos,after,guard⟩).run P w = .ok (.value (.tuple #[.bool true,L[i].key,L[i].val])) (setB u q (.mapIter (some b) clock (seen.push L[i].born) clock)):=by simp[execOp,ak,ag]
    rw[b5,Oper.upon_value];refine⟨_,r,_,tupv [bv true,X p2.1,E p2.2.1],_,rfl,?_,ac.repl j _ (S j) hj rfl ⟨rfl,w16 _⟩ rfl (by simp[setB]) ap (λd f=>?_) hH,⟨_,rfl,rfl,λi A hi=>?_⟩,h1 _ _ _ z⟩
    .exact⟨λ_ h=>h,aa,λ_ h=>.inl h⟩
    .obtain⟨g1,g2,g3,g4⟩:=ac.own j d f;exact⟨g2,by simpa[setB] using g3,g4,λj' b6 b1=>b6 (hw.apart j' j d b1 f)⟩
    .match i with
     |0=>simp at hi;subst hi;rfl
     |1=>simp at hi;subst hi;exact hX _ _ _ _ aq
     |2=>simp at hi;subst hi;show (E p2.2.1).h r _ _;simp only[w07];simp;rw[ax];exact(E p2.2.1).mono (λ_ h=>h) aa (a7 p2 au)
     |i+3=>simp at hi
theorem ye5[Dr](j:Nat){x:Operand}{k:κ}{y:ν}{X:VP}(hX:Ent (eqv (eK k)) X)(ho:ObIs s.objs j (itr q e eK E rem (some (k,y))))(hx:Ev s x (eqv (.pointer (some ⟨q,0,none⟩)))):OpQ C ⟨dst,.entry x,ty,pos,after,guard⟩ s (tupv [X,E y]):=
 .valO λa r S w hw hs=>by
  have d:=hx a r w hs;simp only[eqv] at d;obtain⟨hS,a0,h⟩:=ObIs.at hw ho;rcases h with⟨_,_,_,_,_,h⟩|⟨b,es,clock,seen,t,f,a2,a3,a4,a5,a6,a7,g⟩
  .cases h
  .obtain⟨en,u,z,b3,b4⟩:=g k y rfl;have hf:es.find? (·.born==en.born)=some en:=by rw[<- Array.find?_toList];exact find_born en es.toList a4.nd u
   refine⟨.tuple #[en.key,en.val],?_,tup2 (hX _ _ _ b3) b4⟩;simp only[execOp,d,Instr.entry,getObj,w08,Sem.run,f,a3,Result.andThen,z,bne_self_eq_false,w09,if_false,hf];rfl
end
end Px
end
section
namespace Px
open Go Go.RowKit
set_option linter.unusedSectionVars false
section
variable{P:Program}{kt:TypeId}
theorem yds{q:IntKind}(d:P.underlying kt=some (.int q)):KeyC P kt (λx:Int=>[x]) (Value.int q):=by
 have e:bqC (λx:Int=>[x]) =(inferInstance:BEq Int):=by show (⟨λa b=>[a]==[b]⟩:BEq Int)=_;congr 1;funext a b;simp only[w58];show (a==b&&true)=_;rw[w5f];rfl
 unfold KeyC;rw[e];exact keyI d
theorem yg5{κ:Type}{e:κ->List Int}{eK:κ->Value}{d:TypeDesc}(hu:P.underlying kt=some d)(u:∀a,∃cs,eK a = .agg cs)(j:∀w b k,(Instr.checkKey b 10000 kt (eK k)).run P w = .ok () w)
  (a0:∀w a b,(Op.equal kt (eK a) (eK b)).run P w = .ok (e a==e b) w) (hK:∀a b,e a=e b->eK a=eK b) (hs:∀a,Instr.sameBits 10000 (eK a) (eK a)=true):KeyC P kt e eK:=by
 letI:BEq κ:=bqC e
 refine⟨λw b f=>j w b f,λw k es g h=>?_,λw k k' h=>?_⟩
 .have ask:∀(es:List MapEntry)(g:List κ)(i:Nat),es.map (·.key)=g.map eK->(Instr.findAsking kt (eK k) es i).run P w = .ok (fnd k g es i) w:=by
   intro es
   induction es with
   |nil=>intro g i h;cases g with
    |nil=>simp[Instr.findAsking,fnd]
    |cons a g=>simp at h
   |cons en es ih=>
    intro g i h;cases g with
    |nil=>simp at h
    |cons a g=>
     simp only[w0l,w2i] at h;simp only[Instr.findAsking,w08,h.1,a0 w k a,w06,fnd];have z :(k==a) =(e k==e a):=rfl;rw[z];cases e k==e a with
     |true=>simp
     |false=>simpa using ih g (i+1) h.2
  simp only[Instr.findKey,w08,run_underlying hu,w06];cases es with
  |nil=>cases g with
   |nil=>simp[Instr.findNow,fnd]
   |cons a g=>simp at h
  |cons en es=>
   cases g with
   |nil=>simp at h
   |cons a g=>
    have h':=h;simp only[w0l,w2i] at h;have hn:Instr.findNow d (eK k) (en::es) 0=none:=by unfold Instr.findNow;rw[h.1];obtain⟨c1,h1⟩:=u k;obtain⟨c2,h2⟩:=u a;rw[h1,h2];simp[Instr.sameNow]
    rw[hn];exact ask _ _ 0 h'
 .have z:e k=e k':=by have :(e k==e k')=true:=h;simpa using this
  rw[hK k k' z];simp[Instr.keyThatStays,hs]
theorem zko(l:List Value)(h:∀v∈l,∃q n,v = .int q n):Instr.sameBits 10000 (.agg l.toArray) (.agg l.toArray)=true:=by
 show Instr.sameBits (9999+1) _ _=true;rw[Instr.sameBits];simp only[BEq.rfl,w25,w0a];intro p g;obtain⟨x,y⟩:=p;have f:x=y:=by have:=List.mem_iff_getElem?.1 g;obtain⟨j,d⟩:=this;rw[List.getElem?_zip_eq_some] at d;rw[d.1] at d;simpa using d.2
 subst f;have u:=(List.of_mem_zip g).1;obtain⟨q,n,rfl⟩:=h x (by simpa using u);simp[Instr.sameBits]
theorem ydr{n:Nat}{c:TypeId}{q:IntKind}(u:P.underlying kt=some (.array n c))(he:P.underlying c=some (.int q))(z:z5n P c=some (false,1)):KeyC P kt (λf:Nat->Int=>(List.range n).map f) (arrV q n):=by
 have d:∀f g:Nat->Int,beqA n f g =((List.range n).map f==(List.range n).map g):=by
  intro f g;unfold beqA;generalize List.range n=l
  induction l with
  |nil=>rfl
  |cons a l ih=>simp only[w1h,w0l,w58,ih]
 refine yg5 u (λa=>⟨_,rfl⟩) (λw b f=>ykg u he z w b f) (λw f g=>by rw[ykr u he z w f g,d]) (λf g h=>?_) (λf=>?_)
 .unfold arrV;congr 2;have :(List.range n).map (λj=>Value.int q (f j)) =((List.range n).map f).map (Value.int q):=by rw[w2n];rfl
  rw[this,h,w2n];rfl
 .exact zko _ λv hv=>by obtain⟨j,_,rfl⟩:=w0b.1 hv;exact⟨_,_,rfl⟩
def zlf(P:Program):List IntKind->List Field->Nat->Bool
 | [],[],_=>true
 | q :: qs, f :: fs, o => !(f.name == "_") && Nat.beq f.offset o && (match P.underlying f.type with | some (.int q') => decide (q' = q) | _ => false) && (match z5n P f.type with | some (false, 1) => true | _ => false) && zlf P qs fs (o + 1)
 |_,_,_=>false
theorem zst{q:IntKind}{qs:List IntKind}{f:Field}{fs:List Field}{o:Nat}(h:zlf P (q::qs) (f::fs) o=true):
  (f.name == "_") = false /\ f.offset = o /\ P.underlying f.type = some (.int q) /\ z5n P f.type = some (false, 1) /\ zlf P qs fs (o + 1) = true := by
 simp only[zlf,w02,w0v] at h;obtain⟨⟨⟨⟨h1,h2⟩,h3⟩,h4⟩,h5⟩:=h;refine⟨h1,w03 h2,?_,?_,h5⟩
 .split at h3
  .rename_i q' hq;rw[hq];simp at h3;rw[h3]
  .cases h3
 .split at h4
  .assumption
  .cases h4
def zipI:List IntKind->List Int->List Value
 |q::qs,n::ns=>.int q n::zipI qs ns
 |_,_=>[]
theorem zwh:∀(d:List IntKind)(l:List Int),∀v∈zipI d l,∃q n,v = .int q n
 | [],_,v,h=>by simp[zipI] at h
 |_::_,[],v,h=>by simp[zipI] at h
 |q::d,n::l,v,h=>by
  simp only[zipI,w05] at h;rcases h with rfl|h
  .exact⟨_,_,rfl⟩
  .exact zwh d l v h
theorem y1q{t:TypeId}{vs:Array Value}{o:Nat}{u:Value}(d:z5n P t=some (false,1))(h:vs.toList[o]? = some u):zrm P t vs o=some u:=by unfold zrm;rw[d];simpa using h
theorem y3l{n:Nat}: ∀(qs:List IntKind)(fs:List Field)(o:Nat)(as bs:List Int)(xs ys:Array Value),zlf P qs fs o=true->as.length=qs.length->bs.length=qs.length->
  xs.toList.drop o=zipI qs as->ys.toList.drop o=zipI qs bs->
  eqL (fun f => if f.name == "_" then none else match zrm P f.type xs f.offset, zrm P f.type ys f.offset with | some a, some b => eqN P (n + 1) f.type a b | _, _ => none) fs = some (as == bs)
 | [],[],o,[],[],xs,ys,_,_,_,_,_=>rfl
 |q::qs,f::fs,o,a::as,b::bs,xs,ys,h,h1,h2,h3,h4=>by
  obtain⟨k1,k2,k3,k4,k5⟩:=zst h;have g:∀(l:List Value)(v:Value)(r:List Value),l.drop o=v::r->l[o]? = some v/\l.drop (o+1)=r:=by
   intro l v r hl;constructor
   .have :(l.drop o)[0]? = some v:=by rw[hl];rfl
    simpa using this
   .rw[<- w3o,hl];rfl
  obtain⟨g1,g2⟩:=g _ _ _ h3;obtain⟨g3,g4⟩:=g _ _ _ h4;unfold eqL;simp only[k1,w09,if_false,k2,y1q k4 g1,y1q k4 g3];have e1:eqN P (n+1) f.type (.int q a) (.int q b)=some (a==b):=by unfold eqN;rw[k3];simp[y8l]
  have e2:=y3l (n:=n) qs fs (o+1) as bs xs ys k5 (by simpa using h1) (by simpa using h2) g2 g4;rw[e1];simp only[e2,w58]
 | [],_::_,_,_,_,_,_,h,_,_,_,_=>by simp[zlf] at h
 |_::_,[],_,_,_,_,_,h,_,_,_,_=>by simp[zlf] at h
 | [],[],_,_::_,_,_,_,_,h,_,_,_=>by simp at h
 | [],[],_,[],_::_,_,_,_,_,h,_,_=>by simp at h
 |_::_,_::_,_,[],_,_,_,_,h,_,_,_=>by simp at h
 |_::_,_::_,_,_::_,[],_,_,_,_,h,_,_=>by simp at h
theorem zsj{w:World}{b:Bool}{n:Nat}: ∀(qs:List IntKind)(fs:List Field)(o:Nat)(as:List Int)(xs:Array Value),zlf P qs fs o=true->as.length=qs.length->xs.toList.drop o=zipI qs as->
  (forIn (m:=Sem) fs PUnit.unit λf r=>do
   if f.name ≠ "_" then
    let __do_lift <- part f.type xs f.offset
    Instr.checkKey b (n+1) f.type __do_lift
    pure (ForInStep.yield PUnit.unit)
   else
    pure (ForInStep.yield PUnit.unit)).run P w = .ok PUnit.unit w
 | [],[],o,[],xs,_,_,_=>by simp
 |q::qs,f::fs,o,a::as,xs,h,h1,h3=>by
  obtain⟨k1,k2,k3,k4,k5⟩:=zst h;have g1:xs.toList[o]? = some (.int q a):=by
   have :(xs.toList.drop o)[0]? = some (.int q a):=by rw[h3];rfl
   simpa using this
  have g2:xs.toList.drop (o+1)=zipI qs as:=by rw[<- w3o,h3];rfl
  have hc :(Instr.checkKey b (n+1) f.type (.int q a)).run P w = .ok () w:=by rw[Instr.checkKey];simp[run_underlying k3]
  have hn : f.name ≠ "_" := by simpa using k1
  have hp :(part f.type xs f.offset).run P w = .ok (.int q a) w:=zgi w (by rw[k2];exact y1q k4 g1);simp only[List.forIn_cons,hn,ne_eq,not_false_eq_true,if_true,w08,hp,w06,hc,w0p];exact zsj qs fs (o+1) as xs k5 (by simpa using h1) g2
 | [],_::_,_,_,_,h,_,_=>by simp[zlf] at h
 |_::_,[],_,_,_,h,_,_=>by simp[zlf] at h
 | [],[],_,_::_,_,_,h,_=>by simp at h
 |_::_,_::_,_,[],_,_,h,_=>by simp at h
theorem yij{κ:Type}{e:κ->List Int}{fs:Array Field}{d:List IntKind}(g:P.underlying kt=some (.struct fs))(u:P.stoodInHeld kt=false)(j:zlf P d fs.toList 0=true)(f:∀x,(e x).length=d.length):
  KeyC P kt e λx=>.agg (zipI d (e x)).toArray:=by
 refine yg5 g (λa=>⟨_,rfl⟩) (λw b k=>?_) (λw a b=>?_) (λa b h=>by rw[h]) (λa=>zko _ (zwh _ _))
 .show (Instr.checkKey b (9999+1) kt _).run P w=_;rw[Instr.checkKey];simp only[w08,run_underlying g,w06];rw[<- Array.forIn_toList];have:=zsj (w:=w) (b:=b) (n:=9998) d fs.toList 0 (e k) (zipI d (e k)).toArray j (f k) (by simp);simp only[ne_eq,ite_not] at this⊢;rw[this];rfl
 .refine zm8 w ?_;show eqN P (7+1) kt _ _=_;unfold eqN;rw[g];simp only[u,w09,if_false];have:=y3l (n:=6) d fs.toList 0 (e a) (e b) (zipI d (e a)).toArray (zipI d (e b)).toArray j (f a) (f b) (by simp) (by simp);exact this
end
end Px
end
section
namespace Px
open Go Go.RowKit
abbrev Tup(T:Nat->Type):List Nat->Type
 | []=>Unit
 |c::cs=>T c×Tup T cs
inductive Ds (T:Nat->Type):Type->Type 1 where
 |int (k:IntKind):Ds T Int
 |bool:Ds T Bool
 |str:Ds T ByteArray
 |sl (c:Nat):Ds T (List (T c))
 |arr (n c:Nat):Ds T (Nat->T c)
 |map (kc vc:Nat):Ds T (List (T kc×T vc))
 |st {α:Type} (fs:List Nat) (mk:Tup T fs->α) (un:α->Tup T fs) (law:∀t,un (mk t)=t):Ds T α
def dsLt{T:Nat->Type}(b:Nat): {α:Type}->Ds T α->Bool
 |_,.sl c=>Nat.blt c b
 |_,.arr _ c=>Nat.blt c b
 |_,.map kc vc=>Nat.blt kc b&&Nat.blt vc b
 |_,.st fs _ _ _=>fs.all (Nat.blt · b)
 |_,_=>true
structure TE where
 T:Nat->Type
 d :(c:Nat)->Ds T (T c)
 z :(c:Nat)->T c
 code:Nat->Nat
 wf:∀c,dsLt c (d c)=true
inductive SV (T:Nat->Type) where
 |int (k:IntKind) (n:Int)
 |bool (b:Bool)
 |str (s:ByteArray)
 |val (v:Value)
 |arr (n c:Nat) (f:Nat->T c)
 |agg (cs:List (SV T))
 |tup (xs:List (SV T))
 |ro (c:Nat) (l:List (T c))
 |rop (cs:List (SV T))
 |ptr (i off:Nat)
 |own (i:Nat)
 |elt (i:Nat) (k:Int) (z fo:Nat)
 |pta (i off n z idx cnt fo:Nat)      -- into an array within a variable: n elements of z cells from off on;the elements idx .. idx+cnt-1
 |prt (i lo hi z:Nat)                 -- a part of a slice of the call's own
 |func (f:Nat) (caps:List (SV T))
 |rom (kc vc:Nat) (m:List (T kc×T vc))      -- a map that is only read
 |cmp (c:Nat) (f:T c->T c->Option Int)
 |und
 |top
section forms
variable{T:Nat->Type}
def szD(g:Nat->Nat): {α:Type}->Ds T α->Nat
 |_,.arr n c=>n*g c
 |_,.st fs _ _ _=>fs.foldr (λc s=>g c+s) 0
 |_,_=>1
def encT(g :(c:Nat)->T c->List (SV T)):(fs:List Nat)->Tup T fs->List (SV T)
 | [],_=>[]
 |c::cs,x=>g c x.1++encT g cs x.2
def encD(g :(c:Nat)->T c->List (SV T)): {α:Type}->Ds T α->α->List (SV T)
 |_,.int k,x=>[.int k x]
 |_,.bool,x=>[.bool x]
 |_,.str,x=>[.str x]
 |_,.sl c,x=>[.ro c x]
 |_,.arr n c,x=>[.arr n c x]
 |_,.map kc vc,x=>[.rom kc vc x]
 |_,.st fs _ un _,x=>encT g fs (un x)
def evT(g :(c:Nat)->T c->List VP):(fs:List Nat)->Tup T fs->List VP
 | [],_=>[]
 |c::cs,x=>g c x.1++evT g cs x.2
def evD(g :(c:Nat)->T c->List VP)(M :(kc vc:Nat)->List (T kc×T vc)->VP)(sz:Nat->Nat): {α:Type}->Ds T α->α->List VP
 |_,.int k,x=>[iv k x]
 |_,.bool,x=>[bv x]
 |_,.str,x=>[eqv (.string x)]
 |_,.sl c,x=>[Px.ro (g c) (sz c) x]
 |_,.arr n c,x=>Px.arr n (g c) x
 |_,.map kc vc,x=>[M kc vc x]
 |_,.st fs _ un _,x=>evT g fs (un x)
def z81 : {α:Type}->Ds T α->Bool
 |_,.arr ..=>true
 |_,.st ..=>true
 |_,_=>false
end forms
def klS{T:Nat->Type}: {α:Type}->Ds T α->α->Int
 |_,.int _,x=>x
 |_,_,_=>0
def kvS{T:Nat->Type}: {α:Type}->Ds T α->α->Value
 |_,.int k,x=>.int k x
 |_,.bool,x=>.bool x
 |_,.str,x=>.string x
 |_,_,_=>undef
def klT{T:Nat->Type}(g :(c:Nat)->T c->Int):(fs:List Nat)->Tup T fs->List Int
 | [],_=>[]
 |c::cs,x=>g c x.1::klT g cs x.2
def kvT{T:Nat->Type}(g :(c:Nat)->T c->Value):(fs:List Nat)->Tup T fs->List Value
 | [],_=>[]
 |c::cs,x=>g c x.1::kvT g cs x.2
def klF{T:Nat->Type}(g :(c:Nat)->T c->Int): {α:Type}->Ds T α->α->List Int
 |_,.arr n c,f=>(List.range n).map λj=>g c (f j)
 |_,.st fs _ un _,x=>klT g fs (un x)
 |_,d,x=>[klS d x]
def kvF{T:Nat->Type}(g :(c:Nat)->T c->Value): {α:Type}->Ds T α->α->Value
 |_,.arr n c,f=>.agg ((List.range n).map λj=>g c (f j)).toArray
 |_,.st fs _ un _,x=>.agg (kvT g fs (un x)).toArray
 |_,d,x=>kvS d x
def y6a{T:Nat->Type}: {α:Type}->Ds T α->Bool
 |_,.int _=>true
 |_,_=>false
def keyF{T:Nat->Type}(g:Nat->Bool): {α:Type}->Ds T α->Bool
 |_,.int _=>true
 |_,.arr _ c=>g c
 |_,.st fs _ _ _=>fs.all g
 |_,_=>false
section te
variable(V:TE)
def TE.kv(c:Nat)(x:V.T c):Value:=kvF (λc=>kvS (V.d c)) (V.d c) x
def TE.kl(c:Nat)(x:V.T c):List Int:=klF (λc=>klS (V.d c)) (V.d c) x
def TE.key(c:Nat):Bool:=keyF (λc=>y6a (V.d c)) (V.d c)
def TE.mv(g :(c:Nat)->V.T c->List VP)(kc vc:Nat)(m:List (V.T kc×V.T vc)):VP:=romE (V.kl kc) (V.kv kc) (λy=>bif z81 (V.d vc) then Px.agg (g vc y) else(g vc y).headD topv) m
def szN:Nat->Nat->Nat
 |0,_=>0
 |n+1,c=>szD (szN n) (V.d c)
def TE.sz(c:Nat):Nat:=szN V (c+1) c
def encN:Nat->(c:Nat)->V.T c->List (SV V.T)
 |0,_,_=>[]
 |n+1,c,x=>encD (encN n) (V.d c) x
def TE.enc(c:Nat)(x:V.T c):List (SV V.T):=encN V (c+1) c x
def evN:Nat->(c:Nat)->V.T c->List VP
 |0,_,_=>[]
 |n+1,c,x=>evD (evN n) (V.mv (evN n)) V.sz (V.d c) x
def TE.ev(c:Nat)(x:V.T c):List VP:=evN V (c+1) c x
def ykp{T:Nat->Type}(l:List (SV T)): {α:Type}->Ds T α->α->SV T
 |_,.int k,x=>.int k x
 |_,.bool,x=>.bool x
 |_,.str,x=>.str x
 |_,.sl c,x=>.ro c x
 |_,.map kc vc,x=>.rom kc vc x
 |_,_,_=>.agg l
def TE.encV(c:Nat)(x:V.T c):SV V.T:=ykp (V.enc c x) (V.d c) x
def vlF{T:Nat->Type}(g :(c:Nat)->T c->List VP)(M :(kc vc:Nat)->List (T kc×T vc)->VP)(sz:Nat->Nat)(l:List VP): {α:Type}->Ds T α->α->VP
 |_,.int k,x=>iv k x
 |_,.bool,x=>bv x
 |_,.str,x=>eqv (.string x)
 |_,.sl c,x=>Px.ro (g c) (sz c) x
 |_,.map kc vc,x=>M kc vc x
 |_,_,_=>Px.agg l
def TE.vl(c:Nat)(x:V.T c):VP:=vlF V.ev (V.mv V.ev) V.sz (V.ev c x) (V.d c) x
section congr
variable{T:Nat->Type}
theorem zzm{g u:Nat->Nat}{b:Nat}(h:∀c,c<b->g c=u c):∀{α:Type}(d:Ds T α),dsLt b d=true->szD g d=szD u d
 |_,.int _,_=>rfl
 |_,.bool,_=>rfl
 |_,.str,_=>rfl
 |_,.sl _,_=>rfl
 |_,.map _ _,_=>rfl
 |_,.arr n c,f=>by simp only[dsLt,w2e] at f;simp only[szD,h c f]
 |_,.st fs mk un j,f=>by
  simp only[dsLt] at f;simp only[szD];clear mk un j
  induction fs with
  |nil=>rfl
  |cons c cs z=>simp only[w1h,w02,w2e] at f;simp only[w5s,h c f.1,z f.2]
theorem zso{g f :(c:Nat)->T c->List (SV T)}{b:Nat}(h:∀c,c<b->∀x,g c x=f c x):∀(fs:List Nat)(x:Tup T fs),fs.all (Nat.blt · b)=true->encT g fs x=encT f fs x
 | [],_,_=>rfl
 |c::cs,x,d=>by simp only[w1h,w02,w2e] at d;simp only[encT,h c d.1,zso h cs x.2 d.2]
theorem zsn{g f :(c:Nat)->T c->List (SV T)}{b:Nat}(h:∀c,c<b->∀x,g c x=f c x):∀{α:Type}(d:Ds T α)(x:α),dsLt b d=true->encD g d x=encD f d x
 |_,.int _,_,_=>rfl
 |_,.bool,_,_=>rfl
 |_,.str,_,_=>rfl
 |_,.sl _,_,_=>rfl
 |_,.map _ _,_,_=>rfl
 |_,.arr _ _,_,_=>rfl
 |_,.st fs _ u _,x,j=>zso h fs (u x) j
theorem zxk{g f :(c:Nat)->T c->List VP}{b:Nat}(h:∀c,c<b->g c=f c):∀(fs:List Nat)(x:Tup T fs),fs.all (Nat.blt · b)=true->evT g fs x=evT f fs x
 | [],_,_=>rfl
 |c::cs,x,d=>by simp only[w1h,w02,w2e] at d;simp only[evT,h c d.1,zxk h cs x.2 d.2]
theorem zxj{g u :(c:Nat)->T c->List VP}{M j :(kc vc:Nat)->List (T kc×T vc)->VP}{sz:Nat->Nat}{b:Nat}(h:∀c,c<b->g c=u c)(z:∀kc vc,vc<b->M kc vc=j kc vc):∀{α:Type}(d:Ds T α)(x:α),dsLt b d=true->evD g M sz d x=evD u j sz d x
 |_,.int _,_,_=>rfl
 |_,.bool,_,_=>rfl
 |_,.str,_,_=>rfl
 |_,.sl c,_,f=>by simp only[dsLt,w2e] at f;simp only[evD,h c f]
 |_,.arr n c,_,f=>by simp only[dsLt,w2e] at f;simp only[evD,h c f]
 |_,.map kc vc,_,f=>by simp only[dsLt,w02,w2e] at f;simp only[evD,z kc vc f.2]
 |_,.st fs _ un _,x,f=>zxk h fs (un x) f
end congr
theorem ymg:∀(c n m:Nat),c<n->c<m->szN V n c=szN V m c:=by
 intro c
 induction c using Nat.strongRecOn with
 |_ c g=>
  intro n m j h
  match n,m with
  |n+1,m+1=>exact zzm (λd f=>g d f n m (by omega) (by omega)) (V.d c) (V.wf c)
theorem yhq:∀(c n m:Nat),c<n->c<m->∀x,encN V n c x=encN V m c x:=by
 intro c
 induction c using Nat.strongRecOn with
 |_ c g=>
  intro n m j h x
  match n,m with
  |n+1,m+1=>exact zsn (λd f=>g d f n m (by omega) (by omega)) (V.d c) x (V.wf c)
theorem yfy:∀(c n m:Nat),c<n->c<m->evN V n c=evN V m c:=by
 intro c
 induction c using Nat.strongRecOn with
 |_ c d=>
  intro n m u j
  match n,m with
  |n+1,m+1=>funext x;exact zxj (λf g=>d f g n m (by omega) (by omega)) (λkc vc h=>by unfold TE.mv;rw[d vc h n m (by omega) (by omega)]) (V.d c) x (V.wf c)
theorem TE.sz_eq(c:Nat):V.sz c=szD V.sz (V.d c):=zzm (λd f=>ymg V d _ _ f (w46 _)) (V.d c) (V.wf c)
theorem TE.enc_eq(c:Nat)(x:V.T c):V.enc c x=encD V.enc (V.d c) x:=zsn (λd f x=>yhq V d _ _ f (w46 _) x) (V.d c) x (V.wf c)
theorem TE.ev_eq(c:Nat)(x:V.T c):V.ev c x=evD V.ev (V.mv V.ev) V.sz (V.d c) x:=zxj (λd f=>yfy V d _ _ f (w46 _)) (λkc vc g=>by unfold TE.mv;rw[show evN V c vc=V.ev vc from yfy V vc _ _ g (w46 _)]) (V.d c) x (V.wf c)
theorem y8n{T:Nat->Type}{g :(c:Nat)->T c->List VP}{sz:Nat->Nat}{b:Nat}(h:∀c,c<b->∀x,(g c x).length=sz c):∀(fs:List Nat)(x:Tup T fs),fs.all (Nat.blt · b)=true->
  (evT g fs x).length=fs.foldr (λc s=>sz c+s) 0
 | [],_,_=>rfl
 |c::cs,x,d=>by simp only[w1h,w02,w2e] at d;simp only[evT,w0h,h c d.1,y8n h cs x.2 d.2,w5s]
theorem TE.ev_len:∀(c:Nat)(x:V.T c),(V.ev c x).length=V.sz c:=by
 intro c
 induction c using Nat.strongRecOn with
 |_ c h=>
  intro x;rw[V.ev_eq,V.sz_eq];have f:=V.wf c;revert x f;generalize V.d c=d;generalize V.T c=α at d;intro x f;cases d with
  |int k=>rfl
  |bool=>rfl
  |str=>rfl
  |sl g=>rfl
  |map kc vc=>rfl
  |arr n g=>simp only[dsLt,w2e] at f;exact zi4 (h g f)
  |st fs mk u j=>exact y8n h fs (u x) f
end te
end Px
end
section
namespace Px
open Go Go.RowKit
inductive XO (T:Nat->Type) where
 |map (kc vc E:Nat) (m:List (T kc×T vc)) (h:Option (T kc×Nat))      -- E: the elements' type,where the values are slices;the value that stands apart: its key,its object
 |it (kc vc:Nat) (rem:List (T kc×T vc)) (cur:Option (T kc×T vc))      -- an iterator over a map that is only read
 |nst (E E2 c:Nat) (l:List (T c)) (h:Option (Int×Nat))
 |fix (E c:Nat) (l:List (T c))
inductive SO (T:Nat->Type) where
 |box (t:Nat) (cs:List (SV T))
 |row (E c:Nat) (l:List (T c))
 |x (o:XO T)
 |emp
def yfo{T:Nat->Type}: SV T->Option Value
 | .int k n=>some (.int k n)
 | .bool b=>some (.bool b)
 | .str s=>some (.string s)
 |_=>none
def zr4{T:Nat->Type}: List (SV T)->Option (List Value)
 | []=>some []
 |x::l=>match yfo x,zr4 l with
  |some v,some vs=>some (v::vs)
  |_,_=>none
def zd2{T:Nat->Type}: {α:Type}->Ds T α->α->(c:Nat)×List (T c)
 |_,.sl c,x=>⟨c,x⟩
 |_,_,_=>⟨0,[]⟩
def ydo{T:Nat->Type}(c':Nat)(l:List (T c')): {α:Type}->Ds T α->Option α
 |_,.sl c=>if h:c'=c then some (h ▸ l) else none
 |_,_=>none
def zxy{T:Nat->Type}: {α:Type}->Ds T α->Bool
 |_,.sl _=>true
 |_,_=>false
def y1d{T:Nat->Type}: {α:Type}->Ds T α->Bool
 |_,.bool=>true
 |_,_=>false
def zbz{T:Nat->Type}: {α:Type}->Ds T α->Bool
 |_,.int _=>true
 |_,.bool=>true
 |_,.str=>true
 |_,_=>false
abbrev Ch:=List (Nat×Bool)
abbrev Sls(T:Nat->Type):=List (Nat×Ch×SV T)
structure Fm(T:Nat->Type)where
 sl:Sls T
 gb:List (Nat×Bool)
 kn:Ch
 n:Nat
structure SS(T:Nat->Type)extends Fm T where
 stk:List (Fm T)
 ob:List (SO T)
def lk{α:Type}: List (Nat×α)->Nat->Option α
 | [],_=>none
 |(k,x)::l,t=>bif Nat.beq k t then some x else lk l t
abbrev Asg:=List (Nat×Value)
def eltp(sv:Value)(k:Int)(off:Nat):VP:=⟨λ_ _ v=>∃g n cap,sv = .slice (some ⟨g,0,none⟩) n cap/\v = .pointer (some ⟨g,off,none⟩)/\0<=k/\k<(n:Int),λ_ _ h=>h⟩
theorem zty{sv:Value}{k:Int}{off:Nat}: Ent (eltp sv k off) (rowp sv off):=λr w v ⟨g,n,d,f,h,_⟩=>⟨g,n,d,f,h⟩
def nov:VP:=⟨λ_ _ _=>False,λ_ _ h=>h⟩
section
variable(V:TE)(P:Program)
mutual
def SV.den[Dr](A:Asg):SV V.T->VP
 | .int k n=>iv k n
 | .bool b=>bv b
 | .str s=>eqv (.string s)
 | .val v=>eqv v
 | .arr n c f=>Px.agg (Px.arr n (V.ev c) f)
 | .agg cs=>Px.agg (denL A cs)
 | .tup xs=>tupv (denV A xs)
 | .ro c l=>Px.ro (V.ev c) (V.sz c) l
 | .rop cs=>Px.rop (denL A cs)
 | .rom kc vc m=>V.mv V.ev kc vc m
 | .ptr i off=>match A[i]? with
  |some (b,_)=>eqv (.pointer (some ⟨b,off,none⟩))
  |none=>nov
 | .own i=>match A[i]? with
  |some (_,v)=>eqv v
  |none=>nov
 | .elt i k z fo=>match A[i]? with
  |some (_,v)=>eltp v k (k.toNat*z+fo)
  |none=>nov
 | .pta i off n z idx cnt fo=>match A[i]? with
  |some (b,_)=>⟨λ_ _ v=>idx+cnt<=n/\v = .pointer (some ⟨b,off+idx*z+fo,none⟩),λ_ _ h=>h⟩
  |none=>nov
 | .prt i lo hi z=>match A[i]? with
  |some (_,v)=>prtp v lo hi z
  |none=>nov
 | .und=>eqv undef
 | .func f caps=>fnc f (denV A caps)
 | .cmp c f=>fcmp P (λx=>V.vl c x) f
 | .top=>topv
def denL[Dr](A:Asg):List (SV V.T)->List VP
 | []=>[]
 | .arr n c f::l=>Px.arr n (V.ev c) f++denL A l
 |x::l=>SV.den A x::denL A l
def denV[Dr](A:Asg):List (SV V.T)->List VP
 | []=>[]
 |x::l=>SV.den A x::denV A l
end
def TE.inmD(E:Nat): {α:Type}->Ds V.T α->α->Value->HP
 |_,.sl c,x,v=>Px.row E (V.ev c) (V.sz c) x v
 |_,.map kc vc,x,v=>⟨λS r w=>∃b,v = .map (some b)/\(nmp b (V.kl kc) (V.kv kc) (plI (V.kv vc)) x none).h S r w,λh1 h2 h3 ⟨b,hv,h⟩=>⟨b,hv,(nmp ..).wk h1 h2 h3 h⟩⟩
 |_,d,x,v=>⟨λ_ _ _=>v=kvF (λc=>kvS (V.d c)) d x,λ_ _ _ h=>h⟩
def TE.inm(E c:Nat)(x:V.T c)(v:Value):HP:=V.inmD E (V.d c) x v
def zby{κ:Type}(A:Asg):Option (κ×Nat)->Option (κ×Value)
 |some (k,j)=>some (k,match A[j]? with|some q=>q.2|none=>undef)
 |none=>none
def TE.inn(E2 c:Nat)(x:V.T c)(v:Value):HP:=Px.row E2 (V.ev (zd2 (V.d c) x).1) (V.sz (zd2 (V.d c) x).1) (zd2 (V.d c) x).2 v
def andH(p:Prop)(H:HP):HP:=⟨λS r w=>p/\H.h S r w,λh1 h2 h3 h=>⟨h.1,H.wk h1 h2 h3 h.2⟩⟩
def exSl(v:Value):Prop:=∃g n,v = .slice (some ⟨g,0,none⟩) n n
def zg4(A:Asg):Option (Int×Nat)->Option (Nat×Value)
 |some (k,j)=>some (k.toNat,match A[j]? with|some q=>q.2|none=>undef)
 |none=>none
def XO.den(A:Asg)(p:Nat×Value):XO V.T->HP
 | .map kc vc E m h=>andH (p.2 = .map (some p.1)/\∀k j,h=some (k,j)->(A[j]?).isSome=true) (nmp p.1 (V.kl kc) (V.kv kc) (V.inm E vc) m (zby A h))
 | .it kc vc rem cur=>andH (p.2 = .pointer (some ⟨p.1,0,none⟩)) (itr p.1 (V.kl kc) (V.kv kc) (λy=>V.vl vc y) rem cur)
 | .nst E E2 c l h=>andH (zxy (V.d c)=true/\∀k j,h=some (k,j)->(A[j]?).isSome=true) (Px.nst E (V.inn E2 c) l (zg4 A h) p.2)
 | .fix E c l=>andH (y1d (V.d c)=true/\exSl p.2) (Px.row E (V.ev c) (V.sz c) l p.2)
def SO.den[Dr](A:Asg)(p:Nat×Value):SO V.T->HP
 | .box t cs=>Px.box p.1 t (denL V P A cs)
 | .row E c l=>Px.row E (V.ev c) (V.sz c) l p.2
 | .x o=>o.den V A p
 | .emp=>Px.emp
def obD[Dr](A:Asg):Asg->List (SO V.T)->List HP
 |p::ps,o::os=>o.den V P A p::obD A ps os
 |_,_=>[]
def chP(gb:List (Nat×Bool)):Ch->Prop
 | []=>True
 | [(t,w)]=>(lk gb t).getD false=w
 |(t,w)::r=>chP gb r/\(lk gb t).getD false=w
def yha(gb:List (Nat×Bool)):(ch:Ch)->Decidable (chP gb ch)
 | []=>.isTrue trivial
 | [(t,w)]=>instDecidableEqBool ((lk gb t).getD false) w
 |(t,w)::a::r=>@instDecidableAnd _ _ (yha gb (a::r)) (instDecidableEqBool ((lk gb t).getD false) w)
def denE[Dr](A:Asg)(gb:List (Nat×Bool))(e:Ch×SV V.T):VP:=match e.1 with
 | []=>e.2.den V P A
 |ch=>cnd (chP gb ch) (e.2.den V P A)
def slD[Dr](A:Asg)(gb:List (Nat×Bool))(sl:Sls V.T):z9i:=λt=>(lk sl t).map (denE V P A gb)
def SS.st[Dr](A:Asg)(s:SS V.T):St:=⟨slD V P A s.gb s.sl,obD V P A A s.ob⟩
theorem z2k[Dr](A:Asg):∀(l m:List (SV V.T)),denL V P A (l++m)=denL V P A l++denL V P A m
 | [],m=>by simp[denL]
 | .arr n c f::l,m=>by simp only[w2j,denL,z2k A l m,w0m]
 | .int ..::l,m | .bool ..::l,m | .str ..::l,m | .val ..::l,m | .agg ..::l,m | .tup ..::l,m | .ro ..::l,m | .rop ..::l,m | .ptr ..::l,m | .own ..::l,m | .elt ..::l,m | .pta ..::l,m | .prt ..::l,m | .und::l,m
 | .func ..::l,m | .rom ..::l,m | .cmp ..::l,m | .top::l,m=>by simp only[w2j,denL,z2k A l m]
theorem zxf[Dr](A:Asg){b:Nat}(h:∀c,c<b->∀x,denL V P A (V.enc c x)=V.ev c x):∀(fs:List Nat)(x:Tup V.T fs),fs.all (Nat.blt · b)=true->denL V P A (encT V.enc fs x)=evT V.ev fs x
 | [],_,_=>by simp[encT,evT,denL]
 |c::cs,x,d=>by simp only[w1h,w02,w2e] at d;simp only[encT,evT,z2k,h c d.1,zxf A h cs x.2 d.2]
theorem z2g[Dr](A:Asg):∀(c:Nat)(x:V.T c),denL V P A (V.enc c x)=V.ev c x:=by
 intro c
 induction c using Nat.strongRecOn with
 |_ c h=>
  intro x;rw[V.ev_eq,V.enc_eq];have f:=V.wf c;revert x f;generalize V.d c=d;generalize V.T c=α at d;intro x f;cases d with
  |int k=>rfl
  |bool=>rfl
  |str=>rfl
  |sl g=>rfl
  |map kc vc=>rfl
  |arr n g=>simp[encD,evD,denL]
  |st fs mk u j=>exact zxf V P A h fs (u x) f
theorem z4l[Dr](A:Asg)(c:Nat)(x:V.T c):(V.encV c x).den V P A=V.vl c x:=by have f:=z2g V P A c x;revert f;unfold TE.encV TE.vl;generalize V.enc c x=l;generalize V.ev c x=m;intro h;subst h;revert x;generalize V.d c=d;generalize V.T c=α at d;intro x;cases d<;>simp[ykp,vlF,SV.den]
def F2(R:VP->VP->Prop):List VP->List VP->Prop
 | [],[]=>True
 |a::l,b::m=>R a b/\F2 R l m
 |_,_=>False
theorem F2.append{R:VP->VP->Prop}: ∀{a b c d:List VP},F2 R a c->F2 R b d->F2 R (a++b) (c++d)
 | [],_,[],_,_,h=>h
 |_::_,_,_::_,_,h,k=>⟨h.1,F2.append h.2 k⟩
theorem F2.refl{R:VP->VP->Prop}(h:∀a,R a a):∀(l:List VP),F2 R l l
 | []=>trivial
 |a::l=>⟨h a,F2.refl h l⟩
theorem F2.ents:∀{a b:List VP},F2 Ent a b->Ents a b
 | [],[],_=>trivial
 |_::_,_::_,h=>⟨h.1,F2.ents h.2⟩
theorem F2.fents[Dr]{C:Cx P}{s:St}: ∀{a b:List VP},F2 (FEnt C s) a b->zku C s a b
 | [],[],_=>trivial
 |_::_,_::_,h=>⟨h.1,F2.fents h.2⟩
def rdSl{T:Nat->Type}(ob:List (SO T))(c:Nat):SV T->Option (List (T c))
 | .ro c' l=>if h:c'=c then some (h ▸ l) else none
 | .own i=>match ob[i]? with
  |some (.row _ c' l)=>if h:c'=c then some (h ▸ l) else none
  |some (.x (.fix _ c' l))=>if h:c'=c then some (h ▸ l) else none
  |_=>none
 | .val (.slice none 0 0)=>some []
 |_=>none
def rdB{T:Nat->Type}(ob:List (SO T))(c:Nat):SV T->Option (List (T c))
 | .ro c' l=>if h:c'=c then some (h ▸ l) else none
 | .own i=>match ob[i]? with
  |some (.x (.fix _ c' l))=>if h:c'=c then some (h ▸ l) else none
  |_=>none
 | .val (.slice none 0 0)=>some []
 |_=>none
def decT{T:Nat->Type}(g :(c:Nat)->List (SV T)->Option (T c×List (SV T))):(fs:List Nat)->List (SV T)->Option (Tup T fs×List (SV T))
 | [],l=>some ((),l)
 |c::cs,l=>match g c l with
  |some (x,l)=>match decT g cs l with
   |some (y,l)=>some ((x,y),l)
   |none=>none
  |none=>none
def rdMp{T:Nat->Type}(rd :(c:Nat)->SV T->Option (List (T c)))(kc vc:Nat):SV T->Option (List (T kc×T vc))
 | .rom kc' vc' m=>if h:kc'=kc then(if h2:vc'=vc then some (h ▸ h2 ▸ m) else none) else none
 | .val (.map none)=>match rd kc (.val (.slice none 0 0)) with|some _=>some []|none=>none
 |_=>none
def decD{T:Nat->Type}(rd :(c:Nat)->SV T->Option (List (T c)))(g :(c:Nat)->List (SV T)->Option (T c×List (SV T))): {α:Type}->Ds T α->List (SV T)->Option (α×List (SV T))
 |_,.int k,.int k' x::r=>if k=k' then some (x,r) else none
 |_,.bool,.bool x::r=>some (x,r)
 |_,.str,.str x::r=>some (x,r)
 |_,.sl c,x::r=>match rd c x with|some l=>some (l,r)|none=>none
 |_,.map kc vc,x::r=>match rdMp rd kc vc x with|some l=>some (l,r)|none=>none
 |_,.arr n c,.arr n' c' f::r=>if h:c'=c then(if n=n' then some (h ▸ f,r) else none) else none
 |_,.st fs mk _ _,l=>match decT g fs l with|some (t,r)=>some (mk t,r)|none=>none
 |_,_,_=>none
def decN(rd :(c:Nat)->SV V.T->Option (List (V.T c))):Nat->(c:Nat)->List (SV V.T)->Option (V.T c×List (SV V.T))
 |0,_,_=>none
 |n+1,c,l=>decD rd (decN rd n) (V.d c) l
def rdE{T:Nat->Type}(c:Nat):SV T->Option (List (T c))
 | .ro c' l=>if h:c'=c then some (h ▸ l) else none
 |_=>none
def cellsOf{T:Nat->Type}: SV T->List (SV T)
 | .agg cs=>cs
 |x=>[x]
def TE.decC(rd :(c:Nat)->SV V.T->Option (List (V.T c)))(c:Nat)(l:List (SV V.T)):Option (V.T c):=match decN V rd (c+1) c l with
 |some (y,[])=>some y
 |_=>none
def z1g{T:Nat->Type}: SV T->Bool
 | .agg _=>true
 | .arr ..=>true
 |_=>false
def TE.dec(rd :(c:Nat)->SV V.T->Option (List (V.T c)))(c:Nat)(x:SV V.T):Option (V.T c):=bif z81 (V.d c)==z1g x then V.decC rd c (cellsOf x) else none
section dec
variable{V P}{A:Asg}{rd :(c:Nat)->SV V.T->Option (List (V.T c))}{R:VP->VP->Prop}
theorem y8b[Dr](g :(c:Nat)->List (SV V.T)->Option (V.T c×List (SV V.T)))(hg:∀c l x r,g c l=some (x,r)->∃pre,l=pre++r/\F2 R (denL V P A pre) (V.ev c x)):
  ∀(fs:List Nat)(l:List (SV V.T))(x:Tup V.T fs)(r:List (SV V.T)),decT g fs l=some (x,r)->∃pre,l=pre++r/\F2 R (denL V P A pre) (evT V.ev fs x)
 | [],l,x,r,h=>by simp only[decT,w01,w0k] at h;exact⟨[],by simp[h.2],trivial⟩
 |c::cs,l,x,r,h=>by
  simp only[decT] at h;cases d:g c l with
  |none=>rw[d] at h;cases h
  |some p=>
   obtain⟨y,j⟩:=p;rw[d] at h;simp only at h;cases f:decT g cs j with
   |none=>rw[f] at h;cases h
   |some q=>obtain⟨z,u⟩:=q;rw[f] at h;simp only[w01,w0k] at h;obtain⟨rfl,rfl⟩:=h;obtain⟨p1,e1,f1⟩:=hg c l y j d;obtain⟨p2,e2,f2⟩:=y8b g hg cs j z u f;exact⟨p1++p2,by rw[e1,e2,w0m],by rw[z2k];exact f1.append f2⟩
theorem yhl[Dr](a0:∀c n d(f:Nat->V.T d)l,rd c (.arr n d f)=some l->False)(hm:∀c l,rd c (.val (.slice none 0 0))=some l->∀kc vc,R (eqv (.map none)) (V.mv V.ev kc vc []))(u:∀a,R a a)(hr:∀c y l,rd c y=some l->R (y.den V P A) (Px.ro (V.ev c) (V.sz c) l))(g :(c:Nat)->List (SV V.T)->Option (V.T c×List (SV V.T)))
  (hg:∀c l x r,g c l=some (x,r)->∃pre,l=pre++r/\F2 R (denL V P A pre) (V.ev c x)):∀{α:Type}(d:Ds V.T α)(l:List (SV V.T))(x:α)(r:List (SV V.T)),decD rd g d l=some (x,r)->
  ∃pre,l=pre++r/\F2 R (denL V P A pre) (evD V.ev (V.mv V.ev) V.sz d x):=by
 intro α d l x r h;cases d with
 |int k=>
  cases l with
  |nil=>simp[decD] at h
  |cons y l'=>
   cases y<;>simp only[decD,reduceCtorEq] at h;split at h
   .simp only[w01,w0k] at h;obtain⟨rfl,rfl⟩:=h;rename_i k' _ e;subst e;exact⟨[.int k _],rfl,u _,trivial⟩
   .cases h
 |bool=>
  cases l with
  |nil=>simp[decD] at h
  |cons y l'=>cases y<;>simp only[decD,reduceCtorEq] at h;simp only[w01,w0k] at h;obtain⟨rfl,rfl⟩:=h;exact⟨[.bool _],rfl,u _,trivial⟩
 |str=>
  cases l with
  |nil=>simp[decD] at h
  |cons y l'=>cases y<;>simp only[decD,reduceCtorEq] at h;simp only[w01,w0k] at h;obtain⟨rfl,rfl⟩:=h;exact⟨[.str _],rfl,u _,trivial⟩
 |sl c=>
  match l with
  | []=>simp[decD] at h
  |y::l'=>
   simp only[decD] at h;cases j:rd c y with
   |none=>rw[j] at h;cases h
   |some z=>rw[j] at h;simp only[w01,w0k] at h;obtain⟨rfl,rfl⟩:=h;refine⟨[y],rfl,?_⟩;have:=hr c y z j;cases y<;>first|exact⟨this,trivial⟩|exact(a0 _ _ _ _ _ j).elim
 |map kc vc=>
  match l with
  | []=>simp[decD] at h
  |y::l'=>
   simp only[decD] at h;cases j:rdMp rd kc vc y with
   |none=>rw[j] at h;cases h
   |some z=>
    rw[j] at h;simp only[w01,w0k] at h;obtain⟨rfl,rfl⟩:=h;refine⟨[y],rfl,?_⟩;unfold rdMp at j;split at j
    .split at j
     .rename_i e;subst e;split at j
      .rename_i e;subst e;cases j;exact⟨u _,trivial⟩
      .cases j
     .cases j
    .split at j
     .rename_i q hq;cases j;exact⟨hm _ _ hq kc vc,trivial⟩
     .cases j
    .cases j
 |arr n c=>
  cases l with
  |nil=>simp[decD] at h
  |cons y l'=>
   cases y<;>simp only[decD,reduceCtorEq] at h;split at h
   .rename_i e;subst e;split at h
    .rename_i e;subst e;simp only[w01,w0k] at h;obtain⟨rfl,rfl⟩:=h;refine⟨[.arr _ _ _],rfl,?_⟩;simp only[denL,w0e,evD];exact F2.refl u _
    .cases h
   .cases h
 |st fs mk un a1=>
  simp only[decD] at h;cases j:decT g fs l with
  |none=>rw[j] at h;cases h
  |some p=>obtain⟨t,r'⟩:=p;rw[j] at h;simp only[w01,w0k] at h;obtain⟨rfl,rfl⟩:=h;obtain⟨pre,e,f⟩:=y8b g hg fs l t r' j;exact⟨pre,e,by simpa only[evD,a1] using f⟩
theorem zts[Dr](g:∀c n d(f:Nat->V.T d)l,rd c (.arr n d f)=some l->False)(u:∀c l,rd c (.val (.slice none 0 0))=some l->∀kc vc,R (eqv (.map none)) (V.mv V.ev kc vc []))(j:∀a,R a a)(z:∀c y l,rd c y=some l->R (y.den V P A) (Px.ro (V.ev c) (V.sz c) l)):∀(n c:Nat)(l:List (SV V.T))(x:V.T c)(r:List (SV V.T)),decN V rd n c l=some (x,r)->
  ∃pre,l=pre++r/\F2 R (denL V P A pre) (V.ev c x)
 |0,_,_,_,_,h=>by simp[decN] at h
 |n+1,c,l,x,r,h=>by rw[V.ev_eq];exact yhl g u j z (decN V rd n) (zts g u j z n) (V.d c) l x r h
theorem zfx[Dr](j:∀c n d(f:Nat->V.T d)l,rd c (.arr n d f)=some l->False)(hm:∀c l,rd c (.val (.slice none 0 0))=some l->∀kc vc,R (eqv (.map none)) (V.mv V.ev kc vc []))(u:∀a,R a a)(hr:∀c y l,rd c y=some l->R (y.den V P A) (Px.ro (V.ev c) (V.sz c) l)){c:Nat}{l:List (SV V.T)}{y:V.T c}(h:V.decC rd c l=some y):
  F2 R (denL V P A l) (V.ev c y):=by
 unfold TE.decC at h;cases g:decN V rd (c+1) c l with
 |none=>rw[g] at h;cases h
 |some p=>
  obtain⟨z,r⟩:=p;rw[g] at h;cases r with
  |cons a r=>cases h
  |nil=>simp only[w01] at h;subst h;obtain⟨pre,e,f⟩:=zts j hm u hr _ _ _ _ _ g;rw[w0e] at e;rw[e];exact f
theorem zn1{c:Nat}(y:V.T c)(h:z81 (V.d c)=true):V.vl c y=Px.agg (V.ev c y):=by unfold TE.vl;revert y h;generalize V.ev c=e;generalize V.d c=d;revert e d;generalize V.T c=α;intro e d y h;cases d<;>simp[z81] at h<;>rfl
theorem zr5{c:Nat}(y:V.T c)(h:z81 (V.d c)=false):V.ev c y = [V.vl c y]:=by rw[V.ev_eq];unfold TE.vl;revert y h;generalize V.ev c=e;generalize V.d c=d;revert e d;generalize V.T c=α;intro e d y h;cases d<;>simp[z81] at h<;>rfl
theorem y8c[Dr](z:∀c n d(f:Nat->V.T d)l,rd c (.arr n d f)=some l->False)(hm:∀c l,rd c (.val (.slice none 0 0))=some l->∀kc vc,R (eqv (.map none)) (V.mv V.ev kc vc []))(hR:∀a,R a a)(hr:∀c y l,rd c y=some l->R (y.den V P A) (Px.ro (V.ev c) (V.sz c) l))(hg:∀cs ds,F2 R cs ds->R (Px.agg cs) (Px.agg ds)){c:Nat}{x:SV V.T}{y:V.T c}(h:V.dec rd c x=some y):
  R (x.den V P A) (V.vl c y):=by
 unfold TE.dec at h;cases g :(z81 (V.d c)==z1g x) with
 |false=>rw[g] at h;cases h
 |true=>
  rw[g] at h;have j:=zfx (P:=P) (A:=A) z hm hR hr h;simp only[beq_iff_eq] at g;cases u:z81 (V.d c) with
  |true=>rw[u] at g;rw[zn1 y u];cases x<;>simp[z1g] at g<;>simp only[cellsOf,denL,w0e] at j<;>exact hg _ _ j
  |false=>rw[u] at g;rw[zr5 y u] at j;cases x<;>simp[z1g] at g<;>simp only[cellsOf,denL] at j<;>exact j.1
theorem zt3{R:VP->VP->Prop}: ∀(c:Nat)(l:List (V.T c)),rdE c (.val (.slice none 0 0):SV V.T)=some l->∀kc vc,R (eqv (.map none)) (V.mv V.ev kc vc []):=λc l h=>by simp[rdE] at h
theorem zm7{kc vc:Nat}: Ent (eqv (.map none)) (V.mv V.ev kc vc []):=λr w v h=>.inl ⟨h,rfl⟩
theorem y6f(kc vc:Nat)(m:List (V.T kc×V.T vc)):V.mv V.ev kc vc m=romE (V.kl kc) (V.kv kc) (λy=>V.vl vc y) m:=by
 unfold TE.mv;congr 1;funext y;cases d:z81 (V.d vc) with
 |true=>rw[zn1 y d];rfl
 |false=>rw[zr5 y d];rfl
theorem zq4(ob:List (SO V.T)):∀c n d(f:Nat->V.T d)l,rdSl ob c (.arr n d f)=some l->False:=λc n d f l h=>by simp[rdSl] at h
theorem zt2:∀c n d(f:Nat->V.T d)l,rdE c (.arr n d f)=some l->False:=λc n d f l h=>by simp[rdE] at h
theorem zt1[Dr]{c:Nat}{y:SV V.T}{l:List (V.T c)}(h:rdE c y=some l):y.den V P A=Px.ro (V.ev c) (V.sz c) l:=by
 unfold rdE at h;split at h
 .split at h
  .rename_i e;subst e;simp only[w01] at h;subst h;rfl
  .cases h
 .cases h
theorem zzy:∀{a b:List VP},F2 Eq a b->a=b
 | [],[],_=>rfl
 |_::_,_::_,h=>by rw[h.1,zzy h.2]
theorem zuz[Dr]{c:Nat}{y:SV V.T}{l:List (V.T c)}(h:rdSl [] c y=some l):Ent (y.den V P A) (Px.ro (V.ev c) (V.sz c) l):=by
 unfold rdSl at h;split at h
 .split at h
  .rename_i e;subst e;simp only[w01] at h;subst h;exact Ent.refl
  .cases h
 .simp at h
 .simp only[w01] at h;subst h;exact Ent.nil
 .cases h
end dec
end
end Px
end
section
namespace Px
open Go Go.RowKit
inductive RC where
 |val (c:Nat)
 |row (E c:Nat)
abbrev RTup(T:Nat->Type):List RC->Type
 | []=>Unit
 | .val c::l=>T c×RTup T l
 | .row _ c::l=>List (T c)×RTup T l
structure Fsp(V:TE)where
 args:List Nat
 res:List RC
 F:Tup V.T args->Option (RTup V.T res)
inductive MA where
 |fn (f:Nat)
 |val (c:Nat)
 |cmp (c:Nat)
abbrev MA.T(T:Nat->Type):MA->Type
 | .fn _=>Unit
 | .val c=>T c
 | .cmp c=>T c->T c->Option Int
abbrev MTup(T:Nat->Type):List MA->Type
 | []=>Unit
 |m::ms=>m.T T×MTup T ms
structure Msp(V:TE)where
 E:Nat
 c:Nat
 ms:List MA
 F:List (V.T c)->MTup V.T ms->Option (List (V.T c))
inductive KB where
 |val (c:Nat)
 |map (kc vc:Nat)
inductive KC where
 |b (k:KB)
 |fn (f:Nat) (ks:List KB)
abbrev KB.T(T:Nat->Type):KB->Type
 | .val c=>T c
 | .map kc vc=>List (T kc×T vc)
abbrev KBs(T:Nat->Type):List KB->Type
 | []=>Unit
 |k::ks=>k.T T×KBs T ks
abbrev KC.T(T:Nat->Type):KC->Type
 | .b k=>k.T T
 | .fn _ ks=>KBs T ks
abbrev KCs(T:Nat->Type):List KC->Type
 | []=>Unit
 |k::ks=>k.T T×KCs T ks
structure Csp(V:TE)where
 args:List Nat
 caps:List KC
 res:List RC
 F:Tup V.T args->KCs V.T caps->Option (RTup V.T res)
structure SoSp where
 g:Nat
 kc:Nat
 vc:Nat
 E:Nat
structure Env(V:TE)where
 P:Program
 fn:Nat->Option (Fsp V)
 mu:Nat->Option (Msp V)
 cl:Nat->Option (Csp V)
 so:Nat->Option SoSp
def inI:List Int->Bool
 | [n]=>decide (-9223372036854775808<=n)&&decide (n<9223372036854775808)
 |_=>false
def soK{κ ν:Type}(e:κ->List Int)(m:List (κ×ν)):Bool:=m.all (λp=>inI (e p.1))&&Nat.ble m.length 17592186044416
section
variable{T:Nat->Type}
def inCh(c:Ch)(p:Nat×Bool):Bool:=c.any λq=>Nat.beq q.1 p.1&&(q.2==p.2)
def ybk(a b:Ch):Bool:=a.all (inCh b)
def zuw:Value->SV T
 | .int k n=>.int k n
 | .bool b=>.bool b
 | .string s=>.str s
 |v=>.val v
def evO(sl:Sls T)(cur:Ch):Operand->Option (SV T)
 | .tmp t=>match lk sl t with
  |some (ch,x)=>bif ybk ch cur then some x else none
  |none=>none
 | .const v=>some (zuw v)
 | .func f=>some (.func f [])
 | .global _=>none
def ckG{R:Type}(gb:List (Nat×Bool))(cur:Ch)(p:Prop)[Decidable p](k:Option R):Option R:=match cur with
 | []=>ck p k
 |c=>@ck R (chP gb c->p) (@instDecidableForall _ _ (yha gb c) _) k
def zi{α:Type}(z:α)(p:Prop)[Decidable p](x:Option α):Option α:=if p then x else some z
def ztk{α R:Type}(gb:List (Nat×Bool))(cur:Ch)(z:α)(x:Option α)(k:α->Option R):Option R:=match cur with
 | []=>x.bind k
 |c=>(@zi _ z (chP gb c) (yha gb c) x).bind k
def gtz{α:Type}(z:α)(l:List α)(i:Int):α:=l.getD i.toNat z
def y5f:List (SV T)->Option (SV T)
 | [x]=>some x
 |_=>none
def intOf:SV T->Option (IntKind×Int)
 | .int k n=>some (k,n)
 |_=>none
def zir:SV T->Option Bool
 | .bool b=>some b
 |_=>none
def y69(sl:Sls T)(cur:Ch)(k:IntKind):List Operand->Option (List Int)
 | []=>some []
 |o::os=>match evO sl cur o with
  |some (.int k' n)=>if k'=k then(match y69 sl cur k os with
   |some l=>some (n::l)
   |none=>none) else none
  |_=>none
end
section
variable(V:TE)(N:Env V){R:Type}
def csz:SV V.T->Nat
 | .arr n c _=>n*V.sz c
 |_=>1
def z8p:List (SV V.T)->Nat->Option (List (SV V.T))
 | [],n=>bif Nat.beq n 0 then some [] else none
 |x::l,n=>bif Nat.beq n 0 then some (x::l) else bif Nat.ble (csz V x) n then z8p l (n-csz V x) else none
def zog:List (SV V.T)->Nat->Option (List (SV V.T))
 | [],n=>bif Nat.beq n 0 then some [] else none
 |x::l,n=>bif Nat.beq n 0 then some [] else bif Nat.ble (csz V x) n then(match zog l (n-csz V x) with
  |some m=>some (x::m)
  |none=>none) else none
def splC(l:List (SV V.T))(o:Nat)(new:List (SV V.T))(n:Nat):Option (List (SV V.T)):=match zog V l o,z8p V l (o+n) with
 |some a,some b=>some (a++new++b)
 |_,_=>none
def splA(l:List (SV V.T))(o:Nat)(new:List (SV V.T))(n:Nat):Option (List (SV V.T)):=match l with
 | [.arr m c f]=>bif Nat.beq n (V.sz c)&&Nat.beq (o % n) 0&&Nat.ble (o / n+1) m then(match V.decC rdE c new with
  |some y=>some [.arr m c (upd f (o / n) y)]
  |none=>none) else none
 |_=>none
def splL(l:List (SV V.T))(o:Nat)(new:List (SV V.T))(n:Nat):Option (List (SV V.T)):=match splC V l o new n with
 |some m=>some m
 |none=>splA V l o new n
def clen(l:List (SV V.T)):Nat:=l.foldr (λx n=>csz V x+n) 0
def beqZ:Value->Value->Bool
 | .int k n,.int k' m=>decide (k=k')&&decide (n=m)
 | .bool a,.bool b=>a==b
 | .string a,.string b=>a.size==0&&b.size==0
 | .slice none 0 0,.slice none 0 0=>true
 | .pointer none,.pointer none=>true
 | .map none,.map none=>true
 | .nilFunc,.nilFunc=>true
 |_,_=>false
def zD{T:Nat->Type}(g:Nat->List (SV T))(z :(c:Nat)->T c): {α:Type}->Ds T α->List (SV T)
 |_,.int k=>[.int k 0]
 |_,.bool=>[.bool false]
 |_,.str=>[.str ⟨#[]⟩]
 |_,.sl _=>[.val (.slice none 0 0)]
 |_,.map _ _=>[.val (.map none)]
 |_,.arr n c=>[.arr n c λ_=>z c]
 |_,.st fs _ _ _=>fs.flatMap g
def zN:Nat->Nat->List (SV V.T)
 |0,_=>[]
 |n+1,c=>zD (zN n) V.z (V.d c)
def TE.zero(c:Nat):List (SV V.T):=zN V (c+1) c
def zmV(vs:List Value):SV V.T->Bool
 | .int k n=>match vs with | [v]=>beqZ (.int k n) v|_=>false
 | .bool b=>match vs with | [v]=>beqZ (.bool b) v|_=>false
 | .str s=>match vs with | [v]=>beqZ (.string s) v|_=>false
 | .val u=>match vs with | [v]=>beqZ u v|_=>false
 |_=>false
def zmL:List (SV V.T)->List Value->Bool
 | [],[]=>true
 |x::l,v::vs=>zmV V [v] x&&zmL l vs
 |_,_=>false
def zmA(m:List (SV V.T)):Nat->List Value->Bool
 |0,vs=>vs.isEmpty
 |n+1,vs=>zmL V m (vs.take m.length)&&zmA m n (vs.drop m.length)
def zfk:List (SV V.T)->List Value->Bool
 | [],[]=>true
 | .arr n c f::l,vs=>zmA V (V.enc c (V.z c)) n (vs.take (n*V.sz c))&&zfk l (vs.drop (n*V.sz c))
 |x::l,v::vs=>zmV V [v] x&&zfk l vs
 |_,_=>false
def fixZ:List (SV V.T)->List (SV V.T)
 | []=>[]
 | .arr n c _::l=>.arr n c (λ_=>V.z c)::fixZ l
 |x::l=>x::fixZ l
def scl(k:Int)(m:Nat):Nat:=bif Nat.beq m 1 then k.toNat else k.toNat*m
def y06(gb:List (Nat×Bool))(cur:Ch)(op:BinOp)(yc:Operand)(k:IntKind)(m n:Int)(c:SV V.T->Option R):Option R:=match op with
 | .add=>c (.int k (k.wrap (m+n)))
 | .sub=>c (.int k (k.wrap (m-n)))
 | .mul=>c (.int k (k.wrap (m*n)))
 | .and=>c (.int k (k.wrap (BitVec.ofInt k.bits m&&& BitVec.ofInt k.bits n).toNat))
 | .or=>c (.int k (k.wrap (BitVec.ofInt k.bits m||| BitVec.ofInt k.bits n).toNat))
 | .xor=>c (.int k (k.wrap (BitVec.ofInt k.bits m ^^^ BitVec.ofInt k.bits n).toNat))
 | .quo=>ckD yc (n≠0) (c (.int k (k.wrap (m.tdiv n))))
 | .rem=>ckD yc (n≠0) (c (.int k (m.tmod n)))
 | .eql=>c (.bool (m==n))
 | .neq=>c (.bool (m !=n))
 | .lss=>c (.bool (decide (m<n)))
 | .leq=>c (.bool (decide (m<=n)))
 | .gtr=>c (.bool (decide (n<m)))
 | .geq=>c (.bool (decide (n<=m)))
 |_=>none
 where ckD (yc:Operand) (p:Prop) [Decidable p] (x:Option R):Option R:=match yc with
 | .const _=>if p then x else none
 |_=>ckG gb cur p x
def shift(gb:List (Nat×Bool))(cur:Ch)(op:BinOp)(yc:Operand)(k:IntKind)(m n:Int)(c:SV V.T->Option R):Option R:=match op,yc with
 | .shl,.const _=>if 0<=n then c (.int k (k.wrap (m*2 ^ (min n.toNat k.bits)))) else none
 | .shr,.const _=>if 0<=n then c (.int k (m.fdiv (2 ^ (min n.toNat k.bits)))) else none
 | .shl,_=>ckG gb cur (0<=n) (c (.int k (k.wrap (m*2 ^ (min n.toNat k.bits)))))
 | .shr,_=>ckG gb cur (0<=n) (c (.int k (m.fdiv (2 ^ (min n.toNat k.bits)))))
 |_,_=>none
def zug:BinOp->Bool
 | .shl=>true
 | .shr=>true
 |_=>false
def xpd:List (SV V.T)->List (SV V.T)
 | []=>[]
 | .arr n c f::l=>(List.range n).flatMap (λi=>V.enc c (f i))++xpd l
 |x::l=>x::xpd l
def y5t{T:Nat->Type}: SV T->List (SV T)
 | .agg xs=>xs
 |x=>[x]
def binX(s:SS V.T)(cur:Ch)(op:BinOp)(t:TypeId)(y:Operand)(a b:SV V.T)(k:SV V.T->Option R):Option R:=match a,b with
 | .int i m,.int j n=>bif zug op then shift V s.gb cur op y i m n k else(if i=j then y06 V s.gb cur op y i m n k else none)
 | .bool m,.bool n=>match op,N.P.underlying t with
  | .eql,some .bool=>k (.bool (m==n))
  | .neq,some .bool=>k (.bool (m !=n))
  |_,_=>none
 | .str m,.str n=>match op,N.P.underlying t with
  | .eql,some .string=>k (.bool (m==n))
  | .neq,some .string=>k (.bool (m !=n))
  |_,_=>none
 | .own i,.val (.map none)=>match op,N.P.underlying t,s.ob[i]? with
  | .eql,some (.map _ _),some (.x (.map ..))=>k (.bool false)
  |_,_,_=>none
 | .val (.map none),.val (.map none)=>match op,N.P.underlying t with
  | .eql,some (.map _ _)=>k (.bool true)
  |_,_=>none
 | .val (.slice ad _ _),.val (.slice none 0 0)=>match op,N.P.underlying t with
  | .eql,some (.slice _)=>k (.bool ad.isNone)
  |_,_=>none
 | .ro _ l,.val (.slice none 0 0)=>match op,N.P.underlying t with
  | .eql,some (.slice _)=>ckG s.gb cur (l.isEmpty=false) (k (.bool false))
  |_,_=>none
 |a,b=>match zr4 (xpd V (y5t a)),zr4 (xpd V (y5t b)) with
  |some us,some vs=>bif !(z1g a&&z1g b) then none else match eqN N.P 8 t (.agg us.toArray) (.agg vs.toArray) with
   |some g=>bif N.P.eqGuardType N.P.depth t then none else(match op with
    | .eql=>k (.bool g)
    | .neq=>k (.bool (!g))
    |_=>none)
   |none=>none
  |_,_=>none
def zg6(g:Bool)(n:Nat)(cs:Option (List (SV V.T))):Option (SV V.T):=match cs with
 |some cs=>match zog V cs n with
  |some l=>bif g then some (.agg l) else(match y5f l with
   |some x=>bif z1g x then none else some x
   |none=>none)
  |none=>none
 |none=>none
def ld(s:SS V.T)(g:Bool)(n:Nat):SV V.T->Option (SV V.T)
 | .ptr i off=>match s.ob[i]? with
  |some (.box _ cs)=>zg6 V g n (z8p V cs off)
  |_=>none
 | .pta i off m z idx cnt fo=>match s.ob[i]? with
  |some (.box _ cs)=>match z8p V cs off with
   |some (.arr m' c f::_)=>bif Nat.beq m m'&&Nat.beq z (V.sz c)&&Nat.beq cnt 1 then zg6 V g n (z8p V (V.enc c (f idx)) fo) else none
   |_=>none
  |_=>none
 | .rop cs=>zg6 V g n (some cs)
 | .elt i k z fo=>match s.ob[i]? with
  |some (.row _ c l)=>bif Nat.beq z (V.sz c) then zg6 V g n (z8p V (V.enc c (gtz (V.z c) l k)) fo) else none
  |some (.x (.fix _ c l))=>bif Nat.beq z (V.sz c) then zg6 V g n (z8p V (V.enc c (gtz (V.z c) l k)) fo) else none
  |_=>none
 |_=>none
def decA(rd :(c:Nat)->SV V.T->Option (List (V.T c)))(sl:Sls V.T)(cur:Ch):(cs:List Nat)->List Operand->Option (Tup V.T cs)
 | [],[]=>some ()
 |c::cs,o::os=>match evO sl cur o with
  |some x=>match V.dec rd c x with
   |some y=>match decA rd sl cur cs os with
    |some r=>some (y,r)
    |none=>none
   |none=>none
  |none=>none
 |_,_=>none
def encR:Nat->(cs:List RC)->RTup V.T cs->List (SV V.T)
 |_,[],_=>[]
 |n,.val c::cs,x=>V.encV c x.1::encR n cs x.2
 |n,.row _ _::cs,x=>.own n::encR (n+1) cs x.2
def newR :(cs:List RC)->RTup V.T cs->List (SO V.T)
 | [],_=>[]
 | .val _::cs,x=>newR cs x.2
 | .row E c::cs,x=>.row E c x.1::newR cs x.2
def resV:List (SV V.T)->SV V.T
 | [x]=>x
 | []=>.val (.tuple #[])
 |l=>.tup l
def zR :(cs:List RC)->RTup V.T cs
 | []=>()
 | .val c::cs=>(V.z c,zR cs)
 | .row _ _::cs=>([],zR cs)
def flD{T:Nat->Type}(g:Nat->Bool): {α:Type}->Ds T α->Bool
 |_,.sl _=>false
 |_,.map _ _=>false
 |_,.arr _ c=>g c
 |_,.st fs _ _ _=>fs.all g
 |_,_=>true
def flN:Nat->Nat->Bool
 |0,_=>false
 |n+1,c=>flD (flN n) (V.d c)
def TE.fl(c:Nat):Bool:=flN V (c+1) c
def flR:RC->Bool
 | .val c=>V.fl c
 | .row _ c=>V.fl c
def nbD{T:Nat->Type}(g:Nat->Bool): {α:Type}->Ds T α->Bool
 |_,.bool=>false
 |_,.arr n c=>Nat.blt 0 n&&g c
 |_,.st fs _ _ _=>fs.any g
 |_,_=>true
def nbN:Nat->Nat->Bool
 |0,_=>false
 |n+1,c=>nbD (nbN n) (V.d c)
def sepD{T:Nat->Type}(g nb:Nat->Bool): {α:Type}->Ds T α->Bool
 |_,.sl c=>g c&&nb c
 |_,.map _ _=>false
 |_,.arr _ c=>g c
 |_,.st fs _ _ _=>fs.all g
 |_,_=>true
def sepN:Nat->Nat->Bool
 |0,_=>false
 |n+1,c=>sepD (sepN n) (nbN V n) (V.d c)
def TE.sep(c:Nat):Bool:=sepN V (c+1) c
def sepR:RC->Bool
 | .val c=>V.sep c
 | .row _ _=>false
def rdQ(ob:List (SO V.T))(res:List RC):(c:Nat)->SV V.T->Option (List (V.T c)):=bif res.all (flR V) then rdSl ob else bif res.all (sepR V) then rdB ob else rdSl []
def zet:RC->Bool
 | .row ..=>true
 |_=>false
def zsx(s:SS V.T)(cur:Ch)(t:Nat)(w:Bool):Ch:=match lk s.gb t with
 |some _=>(t,w)::(cur++s.kn)
 |none=>cur++s.kn
def yjc(s:SS V.T)(cur:Ch)(c x y:Operand)(k:SV V.T->Option R):Option R:=match c with
 | .tmp t=>match evO s.sl (cur++s.kn) c with
  |some (.bool g)=>match lk s.kn t,lk s.gb t with
   |some true,some _=>match evO s.sl (cur++s.kn) x with
    |some v=>k v
    |none=>none
   |some false,some _=>match evO s.sl (cur++s.kn) y with
    |some v=>k v
    |none=>none
   |_,_=>match y with
    | .const (.bool false)=>match (evO s.sl (zsx V s cur t true) x).bind zir with
     |some q=>k (.bool (g&&q))
     |none=>none
    |_=>match x with
     | .const (.bool true)=>match (evO s.sl (zsx V s cur t false) y).bind zir with
      |some q=>k (.bool (g||q))
      |none=>none
     |_=>none
  |_=>none
 |_=>none
def oneS(ob:List (SO V.T)):SV V.T->Bool
 | .int ..=>true
 | .bool _=>true
 | .str _=>true
 | .val v=>v.oneCell'
 | .ro ..=>true
 | .rom ..=>true
 | .rop _=>true
 | .ptr ..=>true
 | .own i=>match ob[i]? with|some (.row ..)=>true|some (.x _)=>true|_=>false
 | .elt ..=>true
 | .func ..=>true
 |_=>false
def storable(ob:List (SO V.T))(x:SV V.T):Bool:=z1g x||oneS V ob x
def layX(P:Program)(t:TypeId)(ob:List (SO V.T))(sl:Sls V.T)(cur:Ch):List (SV V.T)->List (Nat×Operand)->Option (List (SV V.T))
 |cs,[]=>some cs
 |cs,(i,o)::ps=>match zmz P t i,evO sl cur o with
  |some (off,n),some x=>bif Nat.beq n (clen V (cellsOf x))&&storable V ob x then(match splL V cs off (cellsOf x) n with
   |some cs'=>layX P t ob sl cur cs' ps
   |none=>none) else none
  |_,_=>none
def ybm(P:Program)(E:TypeId):Bool:=match z5n P E with
 |some (false,1)=>true
 |_=>false
def y4t{T:Nat->Type}: SV T->Bool
 | .arr ..=>false
 |_=>true
def zmn(s:SS V.T):SV V.T->Option (Int×Int×Nat)
 | .elt i m z 0=>match s.ob[i]? with
  |some (.x (.nst _ _ _ _ (some (q,j))))=>bif Nat.beq z 1 then some (m,q,j) else none
  |_=>none
 |_=>none
def keyD{T:Nat->Type}: {α:Type}->Ds T α->Option TypeDesc->Bool
 |_,.int q,some (.int q')=>decide (q=q')
 |_,_,_=>false
def y1f(P:Program){T:Nat->Type}(d :(c:Nat)->Ds T (T c)):List Nat->List Field->Nat->Bool
 | [],[],_=>true
 | c :: cs, f :: fs, o => !(f.name == "_") && Nat.beq f.offset o && keyD (d c) (P.underlying f.type) && (match z5n P f.type with | some (false, 1) => true | _ => false) && y1f P d cs fs (o + 1)
 |_,_,_=>false
def keyE(P:Program){T:Nat->Type}(d :(c:Nat)->Ds T (T c))(kt:TypeId): {α:Type}->Ds T α->Option TypeDesc->Bool
 |_,.arr n c,some (.array m e)=>Nat.beq n m&&keyD (d c) (P.underlying e)&&(match z5n P e with|some (false,1)=>true|_=>false)
 |_,.st fs _ _ _,some (.struct l)=>!P.stoodInHeld kt&&y1f P d fs l.toList 0
 |_,d,u=>keyD d u
def keyT(t:TypeId)(kc:Nat):Option TypeId:=match N.P.underlying t with
 |some (.map kt et)=>bif keyE N.P V.d kt (V.d kc) (N.P.underlying kt) then some et else none
 |_=>none
def okD{T:Nat->Type}(g:Nat->Bool): {α:Type}->Ds T α->Bool
 |_,.sl _=>true
 |_,.map _ vc=>g vc
 |_,d=>zbz d
def TE.okV(c:Nat):Bool:=okD (λc=>zbz (V.d c)) (V.d c)
def y47:Value->Bool
 | .slice none 0 0=>true
 |_=>false
def yg4:Value->Bool
 | .map none=>true
 |_=>false
def zmR:List (SV V.T)->List Value->Bool
 | [],[]=>true
 | .ro _ l::xs,v::vs=>l.isEmpty&&y47 v&&zmR xs vs
 |x::xs,v::vs=>zmV V [v] x&&zmR xs vs
 |_,_=>false
def zokD{T:Nat->Type}: {α:Type}->Ds T α->α->Value->Bool
 |_,.sl _,x,v=>y47 v&&x.isEmpty
 |_,.map _ _,x,v=>yg4 v&&x.isEmpty
 |_,.int k,x,v=>beqZ (.int k x) v
 |_,.bool,x,v=>beqZ (.bool x) v
 |_,.str,x,v=>beqZ (.string x) v
 |_,_,_,_=>false
def TE.zok(c:Nat)(z:Value):Bool:=zokD (V.d c) (V.z c) z
def ydw(kc vc:Nat)(m:List (V.T kc×V.T vc))(key:V.T kc)(ok:Bool)(z:Value)(k:SV V.T->Option R):Option R:=bif V.zok vc z then k (bif ok then .tup [V.encV vc ((cget (V.kl kc) m key).getD (V.z vc)),.bool (cget (V.kl kc) m key).isSome] else V.encV vc ((cget (V.kl kc) m key).getD (V.z vc))) else none
def capX(ob:List (SO V.T))(c:Nat):SV V.T->Option (V.T c)
 | .rop cs=>V.decC rdE c cs
 | .ptr i 0=>match ob[i]? with
  |some (.box _ cs)=>V.decC (rdSl ob) c cs
  |_=>none
 |_=>none
def capM(ob:List (SO V.T))(kc vc:Nat):SV V.T->Option (List (V.T kc×V.T vc))
 | .rop [.rom kc' vc' m]=>if h:kc'=kc then(if h2:vc'=vc then some (h ▸ h2 ▸ m) else none) else none
 | .ptr i 0=>match ob[i]? with
  |some (.box _ [.own j])=>match ob[j]? with
   |some (.x (.map kc' vc' _ m none))=>bif V.okV vc' then(if h:kc'=kc then(if h2:vc'=vc then some (h ▸ h2 ▸ m) else none) else none) else none
   |_=>none
  |some (.box _ [.rom kc' vc' m])=>if h:kc'=kc then(if h2:vc'=vc then some (h ▸ h2 ▸ m) else none) else none
  |_=>none
 |_=>none
def capB(ob:List (SO V.T)):(k:KB)->SV V.T->Option (k.T V.T)
 | .val c,x=>capX V ob c x
 | .map kc vc,x=>capM V ob kc vc x
def zhj(ob:List (SO V.T)):(ks:List KB)->List (SV V.T)->Option (KBs V.T ks)
 | [],[]=>some ()
 |c::cs,x::l=>match capB V ob c x,zhj ob cs l with
  |some y,some r=>some (y,r)
  |_,_=>none
 |_,_=>none
def capF(ob:List (SO V.T))(f:Nat)(ks:List KB):SV V.T->Option (KBs V.T ks)
 | .rop [.func g l]=>bif Nat.beq f g then zhj V ob ks l else none
 | .ptr i 0=>match ob[i]? with
  |some (.box _ [.func g l])=>bif Nat.beq f g then zhj V ob ks l else none
  |_=>none
 |_=>none
def capC(ob:List (SO V.T)):(k:KC)->SV V.T->Option (k.T V.T)
 | .b k,x=>capB V ob k x
 | .fn f ks,x=>capF V ob f ks x
def zfw(ob:List (SO V.T)):(cs:List KC)->List (SV V.T)->Option (KCs V.T cs)
 | [],[]=>some ()
 |c::cs,x::l=>match capC V ob c x,zfw ob cs l with
  |some y,some r=>some (y,r)
  |_,_=>none
 |_,_=>none
def enB :(k:KB)->k.T V.T->SV V.T
 | .val c,x=>.rop (V.enc c x)
 | .map kc vc,m=>.rop [.rom kc vc m]
def enBs :(ks:List KB)->KBs V.T ks->List (SV V.T)
 | [],_=>[]
 |k::ks,x=>enB V k x.1::enBs ks x.2
def enC :(k:KC)->k.T V.T->SV V.T
 | .b k,x=>enB V k x
 | .fn f ks,x=>.rop [.func f (enBs V ks x)]
def encK :(cs:List KC)->KCs V.T cs->List (SV V.T)
 | [],_=>[]
 |c::cs,x=>enC V c x.1::encK cs x.2
def y0p(sl:Sls V.T)(cur:Ch)(c:Nat):Nat->List (Nat×Operand)->Option (List (V.T c))
 |_,[]=>some []
 |n,(i,o)::ps=>bif Nat.beq i n then(match (evO sl cur o).bind (V.dec (rdSl []) c) with
  |some y=>match y0p sl cur c (n+1) ps with
   |some l=>some (y::l)
   |none=>none
  |none=>none) else none
def zt(s:SS V.T)(cur:Ch)(o:Op)(ty:TypeId)(k:SV V.T->Option R):Option R:=match o with
 | .move x=>match evO s.sl (cur++s.kn) x with
  |some v=>k v
  |none=>none
 | .assign x=>match evO s.sl (cur++s.kn) x with
  |some v=>k v
  |none=>none
 | .pick c x y=>yjc V s cur c x y k
 | .binOp op t x y _=>match evO s.sl (cur++s.kn) x,evO s.sl (cur++s.kn) y with
  |some a,some b=>binX V N s cur op t y a b k
  |_,_=>none
 | .unOp .not _ x=>match (evO s.sl (cur++s.kn) x).bind zir with
  |some b=>k (.bool (!b))
  |none=>none
 | .unOp .neg _ x=>match (evO s.sl (cur++s.kn) x).bind intOf with
  |some (i,m)=>k (.int i (i.wrap (0-m)))
  |none=>none
 | .convert src d x=>match N.P.underlying d,(evO s.sl (cur++s.kn) x).bind intOf with
  |some (.int i),some (_,m)=>bif (N.P.underlying src).isSome then k (.int i (i.wrap m)) else none
  |_,_=>none
 | .load t x=>match z5n N.P t,evO s.sl (cur++s.kn) x with
  |some (g,n),some x=>match zmn V s x with
   |some (m,q,j)=>bif !g&&Nat.beq n 1 then ckG s.gb cur (m=q) (k (.own j)) else none
   |none=>match ld V s g n x with
    |some v=>k v
    |none=>none
  |_,_=>none
 | .fieldAddr t x f=>match foff N.P t f,evO s.sl (cur++s.kn) x with
  |some off,some (.ptr i o)=>k (.ptr i (o+off))
  |some off,some (.pta i o m z idx cnt fo)=>k (.pta i o m z idx cnt (fo+off))
  |some off,some (.rop cs)=>match z8p V cs off with
   |some l=>k (.rop l)
   |none=>none
  |some off,some (.elt i j z fo)=>k (.elt i j z (fo+off))
  |_,_=>none
 | .indexAddr t x i=>match tidx N.P t,evO s.sl (cur++s.kn) x,(evO s.sl (cur++s.kn) i).bind intOf with
  |some (false,_,e),some (.ro c l),some (_,m)=>bif Nat.beq e (V.sz c) then ckG s.gb cur ((0:Int)<=m/\m<(l.length:Int)) (k (.rop (V.enc c (gtz (V.z c) l m)))) else none
  |some (false,_,e),some (.own j),some (_,m)=>match s.ob[j]? with
   |some (.row _ c l)=>bif Nat.beq e (V.sz c) then ckG s.gb cur ((0:Int)<=m/\m<(l.length:Int)) (k (.elt j m e 0)) else none
   |some (.x (.nst _ _ _ l _))=>bif Nat.beq e 1 then ckG s.gb cur ((0:Int)<=m/\m<(l.length:Int)) (k (.elt j m e 0)) else none
   |some (.x (.fix _ c l))=>bif Nat.beq e (V.sz c) then ckG s.gb cur ((0:Int)<=m/\m<(l.length:Int)) (k (.elt j m e 0)) else none
   |_=>none
  |some (true,n,e),some (.ptr j o),some (_,m)=>match s.ob[j]? with
   |some (.box _ cs)=>match z8p V cs o with
    |some (.arr n' c f::_)=>bif Nat.blt 0 (V.sz c)&&Nat.beq (e / V.sz c*V.sz c) e&&Nat.beq (n*(e / V.sz c)) n' then
      ckG s.gb cur ((0:Int)<=m/\m<(n:Int)) (k (.pta j o n' (V.sz c) (scl m (e / V.sz c)) (e / V.sz c) 0)) else none
    |_=>none
   |_=>none
  |some (true,n,e),some (.pta j o n' z idx cnt 0),some (_,m)=>bif Nat.blt 0 z&&Nat.beq (e / z*z) e&&Nat.beq (n*(e / z)) cnt then
      ckG s.gb cur ((0:Int)<=m/\m<(n:Int)) (k (.pta j o n' z (idx+scl m (e / z)) (e / z) 0)) else none
  |some (true,n,e),some (.rop (.arr n' c f::_)),some (_,m)=>bif Nat.beq e (V.sz c)&&Nat.beq n n' then
      ckG s.gb cur ((0:Int)<=m/\m<(n:Int)) (k (.rop (V.enc c (f m.toNat)))) else none
  |_,_,_=>none
 | .lookup t x i ok=>match evO s.sl (cur++s.kn) x,evO s.sl (cur++s.kn) i with
  |some (.own j),some y=>match s.ob[j]? with
   |some (.x (.map kc vc _ m h))=>match keyT V N t kc,V.dec (rdSl []) kc y with
    |some et,some key=>match tz1 N.P et with
     |some z=>match h with
      |some (q,jj)=>bif ok then none else ckG s.gb cur (V.kl kc q=V.kl kc key) (k (.own jj))
      |none=>bif zbz (V.d vc) then ydw V kc vc m key ok z k else
       bif ok then none else ckG s.gb cur ((cget (V.kl kc) m key).isNone=true) (k (.val z))
     |none=>none
    |_,_=>none
   |_=>none
  |some (.rom kc vc m),some y=>match keyT V N t kc,V.dec (rdSl []) kc y with
   |some et,some key=>match tz1 N.P et with
    |some z=>ydw V kc vc m key ok z k
    |none=>none
   |_,_=>none
  |_,_=>none
 | .entry x=>match evO s.sl (cur++s.kn) x with
  |some (.own j)=>match s.ob[j]? with
   |some (.x (.it kc vc _ (some e)))=>bif V.key kc then k (.tup [V.encV kc e.1,V.encV vc e.2]) else none
   |_=>none
  |_=>none
 | .extract x i=>match evO s.sl (cur++s.kn) x with
  |some (.tup l)=>match l[i]? with
   |some v=>k v
   |none=>none
  |_=>none
 | .build t parts=>match zwf N.P t with
  |some zs=>bif zfk V (V.zero (V.code t)) zs&&zmy N.P t then(match layX V N.P t s.ob s.sl (cur++s.kn) (fixZ V (V.zero (V.code t))) parts.toList with
   |some cs=>k (.agg cs)
   |none=>none) else bif zs.all (·.oneCell')&&zmy N.P t then(match layX V N.P t s.ob s.sl (cur++s.kn) (zs.map zuw) parts.toList with
   |some cs=>k (.agg cs)
   |none=>none) else none
  |none=>none
 | .buildSlice t n parts=>match tsl N.P t with
  |some (E,z,_)=>match y0p V s.sl (cur++s.kn) (V.code E) 0 parts.toList with
   |some l=>bif Nat.beq z (V.sz (V.code E))&&Nat.beq l.length n&&Nat.ble (n*z) 16777216 then k (.ro (V.code E) l) else none
   |none=>none
  |none=>none
 | .index t x i=>match evO s.sl (cur++s.kn) x,(evO s.sl (cur++s.kn) i).bind intOf with
  |some (.str b),some (_,m)=>match N.P.underlying t with
   |some .string=>ckG s.gb cur ((0:Int)<=m/\m<(b.size:Int)) (k (.int .u8 (z75 b m)))
   |_=>none
  |some (.arr n c f),some (_,m)=>match tarr N.P t with
   |some (n',E)=>match z5n N.P E with
    |some (g,z)=>bif Nat.beq n n'&&Nat.beq z (V.sz c)&&(g==z81 (V.d c)) then ckG s.gb cur ((0:Int)<=m/\m<(n:Int)) (k (V.encV c (f m.toNat))) else none
    |none=>none
   |none=>none
  |some (.agg [.arr n c f]),some (_,m)=>match tarr N.P t with
   |some (n',E)=>match z5n N.P E with
    |some (g,z)=>bif Nat.beq n n'&&Nat.beq z (V.sz c)&&(g==z81 (V.d c)) then ckG s.gb cur ((0:Int)<=m/\m<(n:Int)) (k (V.encV c (f m.toNat))) else none
    |none=>none
   |none=>none
  |some (.agg cs),some (_,m)=>match tarr N.P t with
   |some (n',E)=>bif ybm N.P E&&Nat.beq cs.length n'&&cs.all y4t then(match cs[m.toNat]? with
    |some v=>ckG s.gb cur ((0:Int)<=m/\m<(n':Int)) (k v)
    |none=>none) else none
   |none=>none
  |_,_=>none
 | .nilCheck x=>match evO s.sl (cur++s.kn) x with
  |some (.ptr i o)=>k (.ptr i o)
  |_=>none
 | .makeFunc (.func f) first caps=>bif first.isEmpty then(match capsX s.sl (cur++s.kn) caps.toList with
  |some l=>k (.func f l)
  |none=>none) else none
 | .call c=>match c.callee,c.args.toList with
  | .builtin .len,[x]=>match evO s.sl (cur++s.kn) x with
   |some (.ro _ l)=>bif isSl1 N.P c.argTypes then k (.int .i64 (l.length:Int)) else none
   |some (.own j)=>match s.ob[j]? with
    |some (.row _ _ l)=>bif isSl1 N.P c.argTypes then k (.int .i64 (l.length:Int)) else none
    |some (.x (.nst _ _ _ l _))=>bif isSl1 N.P c.argTypes then k (.int .i64 (l.length:Int)) else none
    |some (.x (.fix _ _ l))=>bif isSl1 N.P c.argTypes then k (.int .i64 (l.length:Int)) else none
    |some (.x (.map _ _ _ m _))=>bif isMp1 N.P c.argTypes then k (.int .i64 (m.length:Int)) else none
    |_=>none
   |some (.rom _ _ m)=>bif isMp1 N.P c.argTypes then k (.int .i64 (m.length:Int)) else none
   |some (.val (.slice none 0 0))=>bif isSl1 N.P c.argTypes then k (.int .i64 0) else none
   |some (.str b)=>bif isStr1 N.P c.argTypes then k (.int .i64 (b.size:Int)) else none
   |_=>none
  | .builtin .cap,[x]=>match evO s.sl (cur++s.kn) x with
   |some (.val (.slice none 0 0))=>bif isSl1 N.P c.argTypes then k (.int .i64 0) else none
   |_=>none
  | .builtin .min,x::xs=>match (evO s.sl (cur++s.kn) x).bind intOf with
   |some (i,m)=>match y69 s.sl (cur++s.kn) i xs with
    |some ns=>k (.int i (ns.foldl min2 m))
    |none=>none
   |none=>none
  | .builtin .max,x::xs=>match (evO s.sl (cur++s.kn) x).bind intOf with
   |some (i,m)=>match y69 s.sl (cur++s.kn) i xs with
    |some ns=>k (.int i (ns.foldl max2 m))
    |none=>none
   |none=>none
  | .value (.func f),as=>match N.fn f with
   |some sp=>bif sp.res.any zet then none else(match decA V (rdQ V s.ob sp.res) s.sl (cur++s.kn) sp.args as with
    |some a=>bif fnok N.P f then ztk s.gb cur (zR V sp.res) (sp.F a) λr=>k (resV V (encR V 0 sp.res r)) else none
    |none=>none)
   |none=>none
  | .value (.tmp t),as=>match evO s.sl (cur++s.kn) (.tmp t) with
   |some (.cmp c f)=>match as with
    | [x,y]=>match (evO s.sl (cur++s.kn) x).bind (V.dec (rdSl []) c),(evO s.sl (cur++s.kn) y).bind (V.dec (rdSl []) c) with
     |some a,some b=>ztk s.gb cur 0 (f a b) λr=>k (.int .i64 r)
     |_,_=>none
    |_=>none
   |some (.func f caps)=>match N.cl f with
    |some sp=>bif sp.res.any zet then none else(match decA V (bif sp.res.all (flR V) then rdSl s.ob else rdSl []) s.sl (cur++s.kn) sp.args as,zfw V (bif sp.res.all (flR V) then s.ob else []) sp.caps caps with
     |some a,some b=>bif fnok N.P f then ztk s.gb cur (zR V sp.res) (sp.F a b) λr=>k (resV V (encR V 0 sp.res r)) else none
     |_,_=>none)
    |none=>none
   |_=>none
  |_,_=>none
 |_=>none
 where
 capsX (sl:Sls V.T) (cur:Ch):List Operand->Option (List (SV V.T))
  | []=>some []
  |o::os=>match evO sl cur o with
   |some x=>match capsX sl cur os with
    |some l=>some (x::l)
    |none=>none
   |none=>none
 isSl1 (P:Program) (ts:Array TypeId):Bool:=match ts.toList with
  | [t]=>isSl P t
  |_=>false
 isMp1 (P:Program) (ts:Array TypeId):Bool:=match ts.toList with
  | [t]=>match P.underlying t with|some (.map _ _)=>true|_=>false
  |_=>false
 isStr1 (P:Program) (ts:Array TypeId):Bool:=match ts.toList with
  | [t]=>match P.underlying t with|some .string=>true|_=>false
  |_=>false
 fnok (P:Program) (f:Nat):Bool:=match P.funcs[f]? with
  | some fn => !(fn.name == "runtime.NumGoroutine") && fn.body.isSome
  |none=>false
end
end Px
end
section
namespace Px
open Go Go.RowKit
section
variable{T:Nat->Type}
mutual
def frV(i:Nat)(v:SV T)(g:Nat->SV T):SV T->SV T
 | .own j=>bif Nat.beq j i then v else .own j
 | .ptr j off=>bif Nat.beq j i then g off else .ptr j off
 | .agg cs=>.agg (frL i v g cs)
 | .tup cs=>.tup (frL i v g cs)
 | .rop cs=>.rop (frL i v g cs)
 | .func f cs=>.func f (frL i v g cs)
 |x=>x
def frL(i:Nat)(v:SV T)(g:Nat->SV T):List (SV T)->List (SV T)
 | []=>[]
 |x::xs=>frV i v g x::frL i v g xs
end
def frSl(i:Nat)(v:SV T)(g:Nat->SV T)(sl:Sls T):Sls T:=sl.map λp=>(p.1,p.2.1,frV i v g p.2.2)
def frO(i:Nat)(v:SV T)(g:Nat->SV T):SO T->SO T
 | .box t cs=>.box t (frL i v g cs)
 |o=>o
def frC(s:SS T)(i:Nat)(v:SV T)(g:Nat->SV T):SS T:={ sl:=frSl i v g s.sl,gb:=s.gb,kn:=s.kn,n:=s.n,stk:=s.stk.map λp=>{ p with sl:=frSl i v g p.sl },ob:=(s.ob.set i .emp).map (frO i v g) }
mutual
def yeq:SV T->List Nat
 | .own j=>[j]
 | .agg cs=>yj9 cs
 | .tup cs=>yj9 cs
 |_=>[]
def yj9:List (SV T)->List Nat
 | []=>[]
 |x::xs=>yeq x++yj9 xs
end
def yep(s:SS T)(cur:Ch)(os:List Operand):List Nat:=os.flatMap λo=>match evO s.sl cur o with
 |some x=>yeq x
 |none=>[]
end
section
variable(V:TE)(N:Env V){R:Type}
def frX:SO V.T->Option (SV V.T)
 | .row _ c l=>some (.ro c l)
 | .x (.nst _ _ c l none)=>some (.ro c l)
 | .x (.fix _ c l)=>some (.ro c l)
 | .x (.map kc vc _ m none)=>bif V.okV vc then some (.rom kc vc m) else none
 |_=>none
def frG(i:Nat)(cs:List (SV V.T))(off:Nat):SV V.T:=match z8p V cs off with
 |some l=>.rop l
 |none=>.ptr i off
def frS(s:SS V.T)(i:Nat):SS V.T:=match s.ob[i]? with
 |some (.box _ cs)=>frC s i (.own i) (frG V i cs)
 |some o=>match frX V o with
  |some v=>frC s i v (.ptr i)
  |none=>s
 |none=>s
def splM(E:Nat): {α:Type}->Ds V.T α->α->Option (SO V.T)
 |_,.sl c,l=>some (.row E c l)
 |_,.map kc vc,m=>bif zbz (V.d vc) then some (.x (.map kc vc 0 m none)) else none
 |_,_,_=>none
def insS(E c:Nat):SO V.T->Option (List (V.T c))
 | .row E' c' l=>bif Nat.beq E' E then(if h:c'=c then some (h ▸ l) else none) else none
 |_=>none
def insP(kc vc:Nat):SO V.T->Option (List (V.T kc×V.T vc))
 | .x (.map kc' vc' _ m none)=>if h:kc'=kc then(if h2:vc'=vc then some (h ▸ h2 ▸ m) else none) else none
 |_=>none
def insM(E:Nat): {α:Type}->Ds V.T α->SO V.T->Option α
 |_,.sl c,o=>insS V E c o
 |_,.map kc vc,o=>bif zbz (V.d vc) then insP V kc vc o else none
 |_,_,_=>none
def y0v(s:SS V.T)(i:Nat):Option (SS V.T):=match s.ob[i]? with
 |some (.x (.map kc vc E m (some (k,j))))=>match s.ob[j]? with
  |some o=>match insM V E (V.d vc) o with
   |some y=>bif V.key kc then some { s with ob:=(s.ob.set i (.x (.map kc vc E (cset (V.kl kc) m k y) none))).set j .emp } else none
   |none=>none
  |none=>none
 |some (.x (.nst E E2 c l (some (k,j))))=>match s.ob[j]? with
  |some (.row E' c' l')=>bif Nat.beq E' E2 then(match ydo c' l' (V.d c) with
   |some y=>some { s with ob:=(s.ob.set i (.x (.nst E E2 c (zo l k y) none))).set j .emp }
   |none=>none) else none
  |_=>none
 |_=>some s
def focX(s:SS V.T)(i:Nat)(m:Int)(k:SS V.T->Option R):Option R:=match y0v V s i with
 |some s=>match s.ob[i]? with
  |some (.x (.nst E E2 c l none))=>ck ((0:Int)<=m/\m<(l.length:Int)) (k { s with ob:=s.ob.set i (.x (.nst E E2 c l (some (m,s.ob.length))))++[.row E2 (zd2 (V.d c) (gtz (V.z c) l m)).1 (zd2 (V.d c) (gtz (V.z c) l m)).2] })
  |_=>none
 |none=>none
def focM(s:SS V.T)(i:Nat)(key :(kc:Nat)->Option (V.T kc))(k:SS V.T->Option R):Option R:=match y0v V s i with
 |some s=>match s.ob[i]? with
  |some (.x (.map kc vc E m none))=>match key kc with
   |some y=>match cget (V.kl kc) m y with
    |some x=>match splM V E (V.d vc) x with
     |some o=>k { s with ob:=s.ob.set i (.x (.map kc vc E m (some (y,s.ob.length))))++[o] }
     |none=>none
    |none=>k s
   |none=>none
  |_=>none
 |none=>none
def zxs(s:SS V.T)(i:Nat):SS V.T:=(y0v V s i).getD s
def zxu(s:SS V.T)(is:List Nat):SS V.T:=is.foldl (λs i=>frS V (zxs V s i) i) s
def srcX(ob:List (SO V.T))(c:Nat):SV V.T->Option (List (V.T c))
 | .ro c' l=>if h:c'=c then some (h ▸ l) else none
 | .own j=>match ob[j]? with
  |some (.row _ c' l)=>if h:c'=c then some (h ▸ l) else none
  |_=>none
 | .prt j lo hi z=>match ob[j]? with
  |some (.row _ c' l)=>if h:c'=c then(bif Nat.beq z (V.sz c) then some (zjw (h ▸ l) lo hi) else none) else none
  |_=>none
 | .val (.slice _ 0 _)=>some []
 |_=>none
def appX(s:SS V.T)(ty:TypeId)(i E c by':Nat)(l:List (V.T c))(y:SV V.T)(k:SV V.T->SS V.T->Option R):Option R:=match srcX V s.ob c y with
 |some m=>ck (fits (l.length+m.length) by') (k (.own s.ob.length) { s with ob:=s.ob.set i .emp++[.row E c (l++m)] })
 |none=>none
def updO(s:SS V.T)(i:Nat)(o:SO V.T):SS V.T:={ s with ob:=s.ob.set i o }
def stoX(s:SS V.T)(t n:Nat)(v:SV V.T)(k:SV V.T->SS V.T->Option R):SV V.T->Option R
 | .ptr i off=>match s.ob[i]? with
  |some (.box T cs)=>bif storable V s.ob v&&Nat.beq n (clen V (cellsOf v)) then(match splC V cs off (cellsOf v) n with
   |some cs'=>k .top (updO V s i (.box T cs'))
   |none=>none) else none
  |_=>none
 | .pta i off m z idx cnt fo=>match s.ob[i]?,V.dec (rdSl []) (V.code t) v with
  |some (.box T cs),some y=>match zog V cs off,z8p V cs off with
   |some pre,some (.arr m' c f::post)=>bif Nat.beq m m'&&Nat.beq z (V.sz c)&&Nat.beq cnt 1&&Nat.beq n (V.sz (V.code t)) then(match splC V (V.enc c (f idx)) fo (V.enc (V.code t) y) n with
    |some cs'=>match V.decC rdE c cs' with
     |some y'=>k .top (updO V s i (.box T (pre++.arr m c (upd f idx y')::post)))
     |none=>none
    |none=>none) else none
   |_,_=>none
  |_,_=>none
 | .elt i j z fo=>match s.ob[i]? with
  |some (.x (.nst E E2 c l h))=>match v with
   | .own q=>bif Nat.beq z 1&&Nat.beq fo 0&&Nat.beq n 1&&oneS V s.ob (.own q) then(match h with
    |none=>k .top (updO V s i (.x (.nst E E2 c l (some (j,q)))))
    |some (j',_)=>ck (j=j') (k .top (updO V s i (.x (.nst E E2 c l (some (j,q))))))) else none
   |_=>none
  |some (.row E c l)=>match V.dec (rdSl []) (V.code t) v with
   |some y=>bif Nat.beq z (V.sz c)&&Nat.beq n (V.sz (V.code t)) then(match splC V (V.enc c (gtz (V.z c) l j)) fo (V.enc (V.code t) y) n with
    |some cs'=>match V.decC rdE c cs' with
     |some y'=>k .top (updO V s i (.row E c (zo l j y')))
     |none=>none
    |none=>none) else none
   |none=>none
  |some (.x (.fix E c l))=>match V.dec (rdSl []) (V.code t) v with
   |some y=>bif Nat.beq z (V.sz c)&&Nat.beq n (V.sz (V.code t)) then(match splC V (V.enc c (gtz (V.z c) l j)) fo (V.enc (V.code t) y) n with
    |some cs'=>match V.decC rdE c cs' with
     |some y'=>k .top (updO V s i (.x (.fix E c (zo l j y'))))
     |none=>none
    |none=>none) else none
   |none=>none
  |_=>none
 |_=>none
def y62(s:SS V.T):Op->List Nat
 | .buildSlice _ _ parts=>yep s s.kn (parts.toList.map (·.2))
 | .store _ a x=>match evO s.sl s.kn a with
  |some (.ptr ..)=>[]
  |some (.elt i _ _ _)=>match s.ob[i]? with
   |some (.x _)=>[]
   |_=>yep s s.kn [x]
  |_=>yep s s.kn [x]
 | .call c=>match c.callee with
  | .value (.func f)=>match N.fn f with
   |some sp=>bif sp.res.all (flR V) then [] else yep s s.kn c.args.toList
   |none=>[]
  |_=>[]
 |_=>[]
abbrev KX(V:TE)(R:Type):=Exit->SS V.T->Option R
abbrev Inl(V:TE)(R:Type):=Nat->Code->SS V.T->KX V R->Option R
def zhm(s:SS V.T):List ResultVar->Option (List (SV V.T))
 | []=>some []
 | .tmp t::rs=>match lk s.sl t with
  |some ([],x)=>match zhm s rs with|some l=>some (x::l)|none=>none
  |_=>none
 | .cell a t::rs=>match lk s.sl a,z5n N.P t with
  |some ([],p),some (g,n)=>match ld V s g n p with
   |some x=>match zhm s rs with|some l=>some (x::l)|none=>none
   |none=>none
  |_,_=>none
def zfr:Nat->List (SV V.T)->Sls V.T
 |_,[]=>[]
 |t,x::l=>(t,[],x)::zfr (t+1) l
def zws(sl:Sls V.T)(cur:Ch):List Operand->Option (List (SV V.T))
 | []=>some []
 |o::os=>match evO sl cur o with
  |some x=>match zws sl cur os with
   |some l=>some (x::l)
   |none=>none
  |none=>none
def inlK(fn:Func)(k:SV V.T->SS V.T->Option R):KX V R:=λe s=>match e with
 | .ret | .normal=>match zhm V N s fn.results.toList,s.stk with
  |some l,f::stk=>k (resV V l) { f with stk:=stk,ob:=s.ob }
  |_,_=>none
 |_=>none
def goIn(inl:Inl V R)(s:SS V.T)(f:Nat)(as:List (SV V.T))(k:SV V.T->SS V.T->Option R):Option R:=match N.P.funcs[f]? with
 |some fn=>match fn.body with
  |some c=>bif zt.fnok N.P f&&Nat.ble as.length fn.ntmps then inl f c { sl:=zfr V 0 as,gb:=[],kn:=[],n:=fn.ntmps,stk:=s.toFm::s.stk,ob:=s.ob } (inlK V N fn k) else none
  |none=>none
 |none=>none
abbrev YID:Nat:=1000000
def yK(k:SV V.T->SS V.T->Option R):KX V R:=λe s=>match e with
 | .normal=>match s.stk with
  |f::stk=>k (.bool true) { f with stk:=stk,ob:=s.ob }
  | []=>none
 |_=>none
def y2p(inl:Inl V R)(s:SS V.T)(vs:List (SV V.T))(k:SV V.T->SS V.T->Option R):Option R:=inl YID (.goto 0) { sl:=zfr V 0 vs,gb:=[],kn:=[],n:=vs.length,stk:=s.toFm::s.stk,ob:=s.ob } (yK V k)
def yldC(s:SS V.T)(o:Op):Option (List (SV V.T)):=match o with
 | .call c=>match c.callee,s.stk with
  | .value (.tmp t),f::_=>match evO s.sl s.kn (.tmp t),lk f.sl (f.n-1),zws V s.sl s.kn c.args.toList with
   |some (.own i),some ([],.own j),some vs=>bif Nat.beq i j then some vs else none
   |_,_,_=>none
  |_,_=>none
 |_=>none
def inlC(s:SS V.T)(o:Op):Option (Nat×List (SV V.T)):=match o with
 | .call c=>match c.callee with
  | .value (.func f)=>match N.fn f,N.mu f,N.so f,zws V s.sl s.kn c.args.toList with
   |none,none,none,some vs=>some (f,vs)
   |_,_,_,_=>none
  | .value (.tmp t)=>match evO s.sl s.kn (.tmp t),zws V s.sl s.kn c.args.toList with
   |some (.func f caps),some vs=>match N.cl f with
    |none=>some (f,vs++caps)
    |some _=>none
   |_,_=>none
  |_=>none
 |_=>none
def intD{T:Nat->Type}: {α:Type}->Ds T α->α->Option Int
 |_,.int k,x=>if k = .i64 then some x else none
 |_,_,_=>none
def cmpF(c:Nat):Fsp V->Option (V.T c->V.T c->Option Int)
 |⟨[a,b],[.val q],F⟩=>if h:a=c then(if h2:b=c then some λx y=>(F (h ▸ x,h2 ▸ y,())).bind λr=>intD (V.d q) r.1 else none) else none
 |_=>none
def cmpC(c:Nat):(sp:Csp V)->KCs V.T sp.caps->Option (V.T c->V.T c->Option Int)
 |⟨[a,b],_,[.val q],F⟩,z=>if h:a=c then(if h2:b=c then some λx y=>(F (h ▸ x,h2 ▸ y,()) z).bind λr=>intD (V.d q) r.1 else none) else none
 |_,_=>none
def cmpX(ob:List (SO V.T))(c:Nat):SV V.T->Option (V.T c->V.T c->Option Int)
 | .cmp c' f=>if h:c'=c then some (h ▸ f) else none
 | .func f caps=>bif zt.fnok N.P f then(match N.fn f with
  |some sp=>bif caps.isEmpty then cmpF V c sp else none
  |none=>match N.cl f with
   |some sp=>match zfw V ob sp.caps caps with
    |some z=>cmpC V c sp z
    |none=>none
   |none=>none) else none
 |_=>none
def zpe(ob:List (SO V.T))(sl:Sls V.T)(cur:Ch):(ms:List MA)->List Operand->Option (MTup V.T ms)
 | [],[]=>some ()
 | .fn f::ms,o::os=>match evO sl cur o with
  |some (.func g [])=>bif Nat.beq f g then(match zpe ob sl cur ms os with
   |some r=>some ((),r)
   |none=>none) else none
  |_=>none
 | .val c::ms,o::os=>match (evO sl cur o).bind (V.dec (rdSl []) c) with
  |some y=>match zpe ob sl cur ms os with
   |some r=>some (y,r)
   |none=>none
  |none=>none
 | .cmp c::ms,o::os=>match (evO sl cur o).bind (cmpX V N ob c) with
  |some y=>match zpe ob sl cur ms os with
   |some r=>some (y,r)
   |none=>none
  |none=>none
 |_,_=>none
def zpv(i:Nat):Nat->List (SO V.T)->Bool
 |_,[]=>true
 |j,.emp::ob=>zpv i (j+1) ob
 |j,.x (.map _ vc _ _ none)::ob=>zbz (V.d vc)&&zpv i (j+1) ob
 |j,.x (.it ..)::ob=>zpv i (j+1) ob
 |j,.x (.fix ..)::ob=>zpv i (j+1) ob
 |j,_::ob=>Nat.beq i j&&zpv i (j+1) ob
def zmN:List Value->Bool
 | [.slice none 0 0]=>true
 |_=>false
def nilD{T:Nat->Type}: {α:Type}->Ds T α->α->Bool
 |_,.sl _,x=>x.isEmpty
 |_,_,_=>false
def soX(s:SS V.T)(f:Nat)(x:Operand)(k:SV V.T->SS V.T->Option R):Option R:=match N.so f,evO s.sl s.kn x with
 |some sp,some (.func g [.ptr i 0])=>bif Nat.beq g sp.g&&zt.fnok N.P f&&V.fl sp.kc then(match capM V s.ob sp.kc sp.vc (.ptr i 0) with
  |some m=>ck (soK (V.kl sp.kc) m=true) (k (.own s.ob.length) { s with ob:=s.ob++[.row sp.E sp.kc (m.map (·.1))] })
  |none=>none) else none
 |_,_=>none
def z5m(s:SS V.T)(o:Op)(ty:TypeId)(k:SV V.T->SS V.T->Option R):Option R:=match o with
 | .box t x=>match evO s.sl s.kn x with
  |some v=>bif storable V s.ob v then k (.ptr s.ob.length 0) { s with ob:=s.ob++[.box t (cellsOf v)] } else none
  |none=>none
 | .alloc t=>match zwf N.P t with
  |some zs=>bif zfk V (V.zero (V.code t)) zs then k (.ptr s.ob.length 0) { s with ob:=s.ob++[.box t (fixZ V (V.zero (V.code t)))] } else
    bif zs.all (·.oneCell') then k (.ptr s.ob.length 0) { s with ob:=s.ob++[.box t (zs.map zuw)] } else none
  |none=>none
 | .store t a x=>match z5n N.P t,evO s.sl s.kn a,evO s.sl s.kn x with
  |some (_,n),some p,some v=>stoX V s t n v k p
  |_,_,_=>none
 | .buildSlice t n parts=>match tsl N.P t with
  |some (E,z,_)=>match y0p V s.sl s.kn (V.code E) 0 parts.toList with
   |some l=>bif Nat.beq z (V.sz (V.code E))&&Nat.beq l.length n&&Nat.ble (n*z) 16777216 then k (.own s.ob.length) { s with ob:=s.ob++[.row E (V.code E) l] } else none
   |none=>none
  |none=>none
 | .makeSlice t x y=>match tsl N.P t,(evO s.sl s.kn x).bind intOf,(evO s.sl s.kn y).bind intOf with
  |some (E,z,by'),some (_,n),some (_,n')=>match zwf N.P E with
   |some zs=>bif zxy (V.d (V.code E)) then(match N.P.underlying E with
    |some (.slice E2)=>bif sameO x y&&Nat.beq z 1&&zmN zs&&nilD (V.d (V.code E)) (V.z (V.code E)) then
      ck (zd n by') (k (.own s.ob.length) { s with ob:=s.ob++[.x (.nst E E2 (V.code E) (List.replicate n.toNat (V.z (V.code E))) none)] }) else none
    |_=>none) else
     bif sameO x y&&Nat.beq z (V.sz (V.code E))&&zmR V (V.enc (V.code E) (V.z (V.code E))) zs then
     ck (zd n by') (k (.own s.ob.length) { s with ob:=s.ob++[bif y1d (V.d (V.code E)) then .x (.fix E (V.code E) (List.replicate n.toNat (V.z (V.code E)))) else .row E (V.code E) (List.replicate n.toNat (V.z (V.code E)))] }) else none
   |none=>none
  |_,_,_=>none
 | .makeMap t none=>match N.P.underlying t with
  |some (.map kt et)=>k (.own s.ob.length) { s with ob:=s.ob++[.x (.map (V.code kt) (V.code et) (match N.P.underlying et with|some (.slice E)=>E|_=>0) [] none)] }
  |_=>none
 | .range t x=>match N.P.underlying t,evO s.sl s.kn x with
  |some (.map _ _),some (.rom kc vc m)=>k (.own s.ob.length) { s with ob:=s.ob++[.x (.it kc vc m none)] }
  |some (.map kt et),some (.val (.map none))=>k (.own s.ob.length) { s with ob:=s.ob++[.x (.it (V.code kt) (V.code et) [] none)] }
  |_,_=>none
 | .mapUpdate t x i y=>match evO s.sl s.kn x,evO s.sl s.kn i,evO s.sl s.kn y with
  |some (.own j),some u,some v=>match s.ob[j]? with
   |some (.x (.map kc vc E m h))=>match keyT V N t kc,V.dec (rdSl []) kc u with
    |some _,some key=>bif zbz (V.d vc) then(match h,V.dec (rdSl []) vc v with
     |none,some val=>k .top (updO V s j (.x (.map kc vc E (cset (V.kl kc) m key val) none)))
     |_,_=>none) else(match v with
     | .own q=>match h with
      |none=>k .top (updO V s j (.x (.map kc vc E (cset (V.kl kc) m key (V.z vc)) (some (key,q)))))
      |some (q',_)=>ck (V.kl kc q'=V.kl kc key) (k .top (updO V s j (.x (.map kc vc E (cset (V.kl kc) m key (V.z vc)) (some (key,q))))))
     |_=>none)
    |_,_=>none
   |_=>none
  |_,_,_=>none
 | .call c=>match c.callee,c.args.toList with
  | .builtin .delete,[x,i]=>match c.argTypes[0]?,evO s.sl s.kn x,evO s.sl s.kn i with
   |some t,some (.own j),some u=>match s.ob[j]? with
    |some (.x (.map kc vc E m none))=>match keyT V N t kc,V.dec (rdSl []) kc u with
     |some _,some key=>k (.val (.tuple #[])) (updO V s j (.x (.map kc vc E (cdel (V.kl kc) m key) none)))
     |_,_=>none
    |_=>none
   |some t,some (.val (.map none)),some u=>match N.P.underlying t with
    |some (.map kt _)=>match keyT V N t (V.code kt),V.dec (rdSl []) (V.code kt) u with
     |some _,some _=>k (.val (.tuple #[])) s
     |_,_=>none
    |_=>none
   |_,_,_=>none
  | .builtin .append,[x,y]=>match c.argTypes.toList with
   | [t,t']=>bif Nat.beq t t' then(match tsl N.P t,evO s.sl s.kn x,evO s.sl s.kn y with
    |some (E,z,by'),some (.own i),some y=>match s.ob[i]? with
     |some (.row E' c l)=>bif Nat.beq E E'&&Nat.beq z (V.sz c)&&Nat.blt 0 by' then appX V s ty i E c by' l y k else none
     |_=>none
    |some (E,z,by'),some (.val (.slice none 0 0)),some y=>bif Nat.beq z (V.sz (V.code E))&&Nat.blt 0 by' then
      appX V { s with ob:=s.ob++[.row E (V.code E) []] } ty s.ob.length E (V.code E) by' [] y k else none
    |_,_,_=>none) else none
   |_=>none
  | .builtin .copy,[x,y]=>none
  | .builtin .len,_=>zt V N s [] (.call c) ty λv=>k v s
  | .value (.func f),as=>match N.fn f with
   |some sp=>match decA V (bif sp.res.all (flR V) then rdSl s.ob else rdSl []) s.sl s.kn sp.args as with
    |some a=>bif zt.fnok N.P f then(sp.F a).bind λr=>k (resV V (encR V s.ob.length sp.res r)) { s with ob:=s.ob++newR V sp.res r } else none
    |none=>none
   |none=>match N.mu f,as with
    |some m,x::gs=>match evO s.sl s.kn x with
     |some (.own i)=>match s.ob[i]?,zpe V N (s.ob.set i .emp) s.sl s.kn m.ms gs with
      |some (.row E c l),some a=>bif Nat.beq E m.E&&(V.fl m.c||(V.sep m.c&&zpv V i 0 s.ob))&&zt.fnok N.P f then(if h:c=m.c then(m.F (h ▸ l) a).bind λl'=>k (.val (.tuple #[])) (updO V s i (.row m.E m.c l')) else none) else none
      |_,_=>none
     |_=>none
    |none,[x]=>soX V N s f x k
    |_,_=>none
  |_,_=>none
 |o=>zt V N s [] o ty λv=>k v s
 where sameO:Operand->Operand->Bool
 | .tmp a,.tmp b=>Nat.beq a b
 | .const (.int _ a),.const (.int _ b)=>decide (a=b)
 |_,_=>false
def loud(inl:Inl V R)(s:SS V.T)(o:Op)(ty:TypeId)(k:SV V.T->SS V.T->Option R):Option R:=match yldC V s o with
 |some vs=>y2p V inl s vs k
 |none=>match inlC V N s o with
  |some (f,vs)=>goIn V N inl s f vs k
  |none=>z5m V N s o ty k
def yl3:Op->Bool
 | .box ..=>true
 | .alloc ..=>true
 | .store ..=>true
 | .buildSlice ..=>true
 | .makeSlice ..=>true
 | .makeMap ..=>true
 | .mapUpdate ..=>true
 | .range ..=>true
 | .call c=>match c.callee with
  | .builtin .append=>true
  | .builtin .copy=>true
  | .builtin .delete=>true
  | .value (.func f)=>match N.fn f with
   |some sp=>sp.res.any zet||!(sp.res.all (flR V))
   |none=>true
  | .value _=>true
  |_=>false
 |_=>false
def zpc(s:SS V.T)(cur:Ch)(o:Op):Bool:=yl3 V N o&&!(match o with
 | .call c=>match c.callee with
  | .value (.tmp t)=>match evO s.sl (cur++s.kn) (.tmp t) with
   |some (.cmp ..)=>true
   |some (.func f _)=>(N.cl f).isSome
   |_=>false
  |_=>false
 |_=>false)
def yff(s:SS V.T)(d:Option Nat)(e:Ch×SV V.T):Option (SS V.T):=match d with
 |some d=>match lk s.gb d with
  |some _=>none
  |none=>bif Nat.blt d s.n then some { s with sl:=(d,e)::s.sl } else none
 |none=>some s
def y0j(o:Oper):Bool:=match o.op,o.dst with
 | .store ..,some _=>false
 | .mapUpdate ..,some _=>false
 |_,_=>true
def resolve(kn:Ch):Ch->Option Ch
 | []=>some []
 |(t,w)::r=>match lk kn t,resolve kn r with
  |_,none=>none
  |some b,some q=>bif b==w then some q else none
  |none,some q=>some ((t,w)::q)
def zg3(ops:List Oper)(s:SS V.T)(g:Nat×Bool):Option (Option Ch×SS V.T):=match (ops[g.1]?).bind (·.dst) with
 |some t=>match lk s.sl t with
  |some ([],.und)=>some (none,s)
  |some (ch,.bool b)=>match lk s.gb t with
   |some _=>some (some ((t,g.2)::ch),s)
   |none=>some (some ((t,g.2)::ch),{ s with gb:=(t,b)::s.gb })
  |_=>none
 |none=>none
def y5h(s:SS V.T)(k:SS V.T->Option R):List (Nat×Bool)->Ch->Option R
 | [],kn=>k { s with kn:=kn }
 |(t,w)::es,kn=>if(lk s.gb t).getD false=w then y5h s k es ((t,w)::kn) else k { s with kn:=(t,!w)::kn }
def after(s:SS V.T)(d:Option Nat)(e:Ch×SV V.T)(k:SS V.T->Option R):Option R:=match yff V s d e with
 |some s=>k s
 |none=>none
def y6d(inl:Inl V R)(o:Oper)(s:SS V.T)(k:SS V.T->Option R):Option R:=bif y0j o then loud V N inl (zxu V s (y62 V N s o.op)) o.op o.type (λv s=>after V s o.dst ([],v) k) else none
def z7o(inl:Nat->Inl V R)(all:List Oper):Nat->List Oper->SS V.T->(SS V.T->Option R)->Option R
 |_,[],s,k=>k s
 |i,o::os,s,k=>match o.guard with
  |none=>bif zpc V N s [] o.op then y6d V N (inl i) o s λs=>z7o inl all (i+1) os s k
   else zt V N s [] o.op o.type λv=>after V s o.dst ([],v) λs=>z7o inl all (i+1) os s k
  |some g=>match zg3 V all s g with
   |some (none,s)=>after V s o.dst ([],.und) λs=>z7o inl all (i+1) os s k
   |some (some ch,s)=>match resolve s.kn ch with
    |none=>after V s o.dst ([],.und) λs=>z7o inl all (i+1) os s k
    |some []=>bif zpc V N s [] o.op then y6d V N (inl i) o s λs=>z7o inl all (i+1) os s k
     else zt V N s [] o.op o.type λv=>after V s o.dst ([],v) λs=>z7o inl all (i+1) os s k
    |some cur=>bif zpc V N s cur o.op then
      y5h V s (λs=>match resolve s.kn ch with
       |some []=>y6d V N (inl i) o s λs=>z7o inl all (i+1) os s k
       |none=>after V s o.dst ([],.und) λs=>z7o inl all (i+1) os s k
       |_=>none) cur.reverse s.kn
     else zt V N s cur o.op o.type λv=>after V s o.dst (cur,v) λs=>z7o inl all (i+1) os s k
   |none=>none
end
end Px
end
