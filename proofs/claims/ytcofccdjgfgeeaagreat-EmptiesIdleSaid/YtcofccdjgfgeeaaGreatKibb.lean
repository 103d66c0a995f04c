/- A part of the proof of emptiesIdle_holds. Conditions: none. -/
import Derived.Test.YtcofccdjgfgeeaaGreatKiba
import Derived.OpenShut
import Derived.ChangeKeysEq
import Derived.MapKept
import Derived.Carry
import Derived.Lib.AppendZeros
import Derived.Laws.Slices
import Derived.Laws.IdiomRangeMap
import Derived.Lib.ConvBytes
import Derived.Still
set_option linter.unusedVariables false
set_option linter.unusedSimpArgs false
section
namespace Px
open Go Go.RowKit
theorem Opn.array{P:Program}{α:Type}[Inhabited α]{t E:TypeId}{N n m:Nat}{e:α->List VP}{R:α->Prop}(ht:P.underlying t=some (.array N E))(hn:P.cellsOf E=n)(hm:P.cellsOf t=m)(hmn:m=N*n)(he:Opn P E n e R):
  Opn P t m (λf=>arr N e f) (λf:Nat->α=>∀i,i<N->R (f i)):=by
 intro H enc w sp held fuel cs x h;obtain⟨xs,k,_,_,hl,hx,hel⟩:=DataW.trod_array ht h;rw[hm] at hl;rw[hn] at hel;have hat:∀i,∃y:α,i<N->R y/\zl (λb=>b<w.heap.size) w (e y) ((cs.drop (i*n)).take n):=by
  intro i;by_cases hi:i<N
  .have h1:=hel i hi;rw[w09 (by omega)] at h1;obtain⟨_,y,hR,hc⟩:=he _ _ _ _ _ _ _ _ h1;exact⟨y,λ_=>⟨hR,hc⟩⟩
  .exact⟨default,λh=>absurd h hi⟩
 have hf:∃f:Nat->α,∀i,i<N->R (f i)/\zl (λb=>b<w.heap.size) w (e (f i)) ((cs.drop (i*n)).take n):=⟨λi=>Classical.choose (hat i),λi=>Classical.choose_spec (hat i)⟩;obtain⟨f,hf⟩:=hf;refine⟨hl,f,λi hi=>(hf i hi).1,?_⟩;have key:∀d i,N-i=d->i<=N->zl (λb=>b<w.heap.size) w ((List.range' i (N-i)).flatMap λj=>e (f j)) (cs.drop (i*n)):=by
  intro d
  induction d with
  |zero=>
   intro i hd hi;have:i=N:=by omega
   subst this;rw[Nat.sub_self];exact zl.tile0 (by rw[hl,hmn])
  |succ d ih=>intro i hd hi;rw[hd,w49,w0w];have h2:=ih (i+1) (by omega) (by omega);rw[show N-(i+1)=d by omega,w16,w46] at h2;exact zl.tile (hf i (by omega)).2 h2
 have:=key N 0 (by omega) (by omega);rw[Nat.zero_mul,List.drop_zero,w39,<- w3q] at this;exact this
end Px
end
section
namespace Px
open Go Go.RowKit
def fnc(f:FuncId)(Xs:List VP):VP:=
 ⟨λr w v=>∃caps:Array Value,v = .func (.func f) #[] caps/\caps.size=Xs.length/\∀(i:Nat)(A:VP),Xs[i]? = some A->A.h r w (caps.getD i undef),
  λh1 h2 ⟨caps,e,hl,hh⟩=>⟨caps,e,hl,λi A hi=>A.wk h1 h2 (hh i A hi)⟩⟩
theorem FzVs.at{sv:Value}{X:VP}: ∀{l m:List VP},FzVs sv X l m->l.length=m.length/\∀(i:Nat)(B:VP),m[i]? = some B->∃A,l[i]? = some A/\FzV sv X A B
 | [],[],_=>⟨rfl,λi B h=>by simp at h⟩
 |A::l,B::m,⟨he,hm⟩=>by
  obtain⟨h1,h2⟩:=FzVs.at hm;refine⟨by simp[h1],λi D hi=>?_⟩;cases i with
  |zero=>simp at hi;subst hi;exact⟨A,rfl,he⟩
  |succ i=>simpa using h2 i D (by simpa using hi)
 | [],_::_,h=>h.elim
 |_::_,[],h=>h.elim
theorem FzV.fnc2{sv:Value}{X:VP}{f:FuncId}{Ys Xs:List VP}(h:FzVs sv X Ys Xs):FzV sv X (Px.fnc f Ys) (Px.fnc f Xs):=by rintro r w v hx ⟨caps,rfl,hl,hh⟩;obtain⟨h1,h2⟩:=h.at;refine⟨caps,rfl,hl.trans h1,λi A hi=>?_⟩;obtain⟨B,hB,hf⟩:=h2 i A hi;exact hf r w _ hx (hh i B hB)
theorem y3m{f:FuncId}: Ent (eqv (.func (.func f) #[] #[])) (fnc f []):=λr w v h=>⟨#[],h,rfl,λi A hi=>by simp at hi⟩
def fcmp[Dr](P:Program){α:Type}(eA:α->VP)(cmp:α->α->Option Int):VP:=
 ⟨λro w v=>∃f caps,v = .func (.func f) #[] caps/\FnOK P f/\∀x y c,cmp x y=some c->∀(r:Nat->Prop)(w':World)(vx vy:Value),(∀b,r b->b<w'.heap.size)->(∀b,ro b->r b)->(∀b,ro b->¬Rec w.heap[b]?->w'.heap[b]? = w.heap[b]?)->
   (eA x).h r w' vx->(eA y).h r w' vy->Calls P f (#[vx,vy]++caps) w' (retR w' w'.heap.size r w' (λX news=>X=iv .i64 c/\news = [])),
  λh1 h2 ⟨f,caps,e,hf,hh⟩=>⟨f,caps,e,hf,λx y c hc r w' vx vy hr hs hw=>hh x y c hc r w' vx vy hr (λb hb=>hs b (h1 b hb)) (λb hb hr=>have e:=h2 b hb hr;(hw b (h1 b hb) (by rw[e];exact hr)).trans e)⟩⟩
theorem zo7[Dr]{P:Program}{α:Type}{eA:α->VP}{cmp:α->α->Option Int}{f:FuncId}{Xs:List VP}(hf:FnOK P f)
  (h:∀x y c,cmp x y=some c->zdn P f ([eA x,eA y]++Xs) (λX news=>X=iv .i64 c/\news = [])):Ent (fnc f Xs) (fcmp P eA cmp):=by
 rintro r w v ⟨caps,rfl,hl,hh⟩;refine⟨f,caps,rfl,hf,λx y c hc r' w' vx vy hr hsub hheap hx hy=>?_⟩;refine h x y c hc r' w' (#[vx,vy]++caps) hr (by simp[hl];omega) λi A hi=>?_
 match i,hi with
 |0,hi=>
  have e :(#[vx,vy]++caps).getD 0 undef=vx:=by simp[w07,w15]
  rw[e];simp at hi;subst hi;exact hx
 |1,hi=>
  have e :(#[vx,vy]++caps).getD 1 undef=vy:=by simp[w07,w15]
  rw[e];simp at hi;subst hi;exact hy
 |i+2,hi=>
  have hi':Xs[i]? = some A:=by simpa using hi
  have:=hh i A hi';have e :(#[vx,vy]++caps).getD (i+2) undef=caps.getD i undef:=by rw[w07,w07,Array.getElem?_append_right (by simp)];rfl
  rw[e];exact A.wk hsub hheap this
section loud
variable{P:Program}{C:Cx P}{s:St}{K:VP->List HP->Prop}{tab:Tab}{o:Oper}
end loud
section ops
variable{P:Program}{C:Cx P}{s:St}{dst:Option Tmp}{ty:TypeId}{pos:String}{after:Array Edge}{guard:Option (Nat×Bool)}{K:VP->List HP->Prop}
theorem ydp[Dr]{α:Type}{eA:α->VP}{cmp:α->α->Option Int}{fo a b:Operand}{ts:Array TypeId}{x y:α}{c:Int}(hfo:Ev s fo (fcmp P eA cmp))(ha:Ev s a (eA x))(hb:Ev s b (eA y))(hc:cmp x y=some c):
  OpQ C ⟨dst,.call { callee:=.value fo,args:=#[a,b],argTypes:=ts },ty,pos,after,guard⟩ s (iv .i64 c):=by
 intro t w r S Q hd hn hw hs;obtain⟨f,caps,hv,⟨fn,h1,h2,h3⟩,hcall⟩:=hfo t r w hs;unfold Oper.wp;have hrun :(execOp t.eval ⟨dst,.call { callee:=.value fo,args:=#[a,b],argTypes:=ts },ty,pos,after,guard⟩).run P w = .ok (.enter f (#[t.eval a,t.eval b]++caps)) w:=by simp[execOp,resolve,hv,Deferred.ofValue,invoke,z1v h1 h2 h3]
 rw[hrun,Oper.upon_enter];refine(hcall x y c hc r w _ _ hw.old (λ_ h=>h) (λ_ _ _=>rfl) (ha t r w hs) (hb t r w hs)).mono ?_;rintro e w' ⟨v,X,news,r',S',rfl,he,hw',hx,rfl,rfl⟩;have hx':v = .int .i64 c:=hx;refine⟨v,r,_,_,_,rfl,⟨λ_ h=>h,λb hb=>he.2.1 b hb,λ_ h=>.inl h⟩,hw.join hw' r (λ_ h=>h) (λb hb=>.inl hb) (λi H hi=>by simp at hi),hx',rfl,by simp⟩
def MutT[Dr](P:Program)(f:FuncId)(args:List VP){α:Type}(E:TypeId)(e:α->List VP)(sz:Nat)(l:List α)(sv:Value)(K:VP->List α->Prop):Prop:=∀w0 base,ygy P w0 base f args [row E e sz l sv] λx objs=>∃l',objs = [row E e sz l' sv]/\K x l'
end ops
section fzb
variable{P:Program}{C:Cx P}{s:St}{Q:Exit->Act->World->Prop}{c:Code}{e:Exit}{ops:Array Oper}{l:List Nat}{b:Nat}{T:TypeId}{cs:List VP}
end fzb
end Px
end
section
namespace Px
open Go Go.RowKit
def zqm(P:Program)(t:TypeId)(vs:Array Value)(off:Nat):Option Value:=match z3s P t with
 |some (true,n)=>some (.agg (vs.extract off (off+n)))
 |some (false,1)=>vs[off]?
 |_=>none
theorem zgn{P:Program}{t:TypeId}{vs:Array Value}{off:Nat}{u:Value}(w:World)(h:zqm P t vs off=some u):(part t vs off).run P w = .ok u w:=by
 unfold zqm at h;split at h
 .rename_i n ht;cases h;exact zvt w ht
 .rename_i ht;exact zjx w ht h
 .cases h
def eqL(g:Field->Option Bool):List Field->Option Bool
 | []=>some true
 |f::fs=>match g f,eqL g fs with
  |some a,some b=>some (a&&b)
  |_,_=>none
def y3c:Option TypeDesc->Value->Value->Option Bool
 |some (.int _),.int k a,.int k' b=>if k==k' then some (a==b) else none
 |some .bool,.bool a,.bool b=>some (a==b)
 |some .string,.string a,.string b=>some (a==b)
 |_,_,_=>none
def eqI(g:Nat->Option Bool):List Nat->Option Bool
 | []=>some true
 |j::l=>match g j,eqI g l with
  |some a,some b=>some (a&&b)
  |_,_=>none
def eqN(P:Program):Nat->TypeId->Value->Value->Option Bool
 |0,_,_,_=>none
 |n+1,t,u,v=>match P.underlying t,u,v with
  | some (.struct fs), .agg xs, .agg ys => if P.stoodInHeld t then none else eqL (fun f => if f.name == "_" then none else match zqm P f.type xs f.offset, zqm P f.type ys f.offset with | some a, some b => eqN P n f.type a b | _, _ => none) fs.toList
  |some (.array m e),.agg xs,.agg ys=>match P.info? e with
   |some i=>eqI (λj=>match zqm P e xs (j*i.size),zqm P e ys (j*i.size) with|some a,some b=>eqN P n e a b|_,_=>none) (List.range m)
   |none=>none
  |d,u,v=>y3c d u v
theorem yee{P:Program}(w:World):∀(n d:Nat)(t:TypeId)(u v:Value)(g:Bool),eqN P n t u v=some g->(Op.equalIn (d+n) t u v).run P w = .ok g w:=by
 intro n
 induction n with
 |zero=>intro d t u v g h;cases h
 |succ n ih=>
  intro d t u v g h;rw[<- w2k];unfold eqN at h;split at h
  .rename_i fs xs ys hu;split at h
   .cases h
   rename_i hs;have hf:P.fieldsOf t=fs:=by simp[Program.fieldsOf,hu]
   rw[run_equalIn_struct w (d+n) t xs ys (by rw[hf,hu]) (by simpa using hs),hf];generalize fs.toList=l at h
   induction l generalizing g with
   |nil=>simp only[eqL,w00] at h;subst h;simp[Op.eqFields]
   |cons f l ihl=>
    unfold eqL at h;split at h
    .rename_i a b ha hb;cases h;split at ha
     .cases ha
     rename_i hn;split at ha
     .rename_i p q hp hq;have e1:=ih d f.type p q a ha;have e2:=ihl b hb;simp only[beq_iff_eq] at hn;simp only[Op.eqFields,ne_eq,hn,not_false_eq_true,if_true,w06,zgn w hp,zgn w hq,w05,e1];cases a with
      |false=>simp
      |true=>simpa using e2
     .cases ha
    .cases h
  .rename_i m e xs ys hu;split at h
   .rename_i i hi;rw[run_equalIn_array w (d+n) xs ys hu hi];have hc:P.cellsOf e=i.size:=by simp[Program.cellsOf,hi]
    rw[hc];generalize List.range m=l at h
    induction l generalizing g with
    |nil=>simp only[eqI,w00] at h;subst h;simp[Op.eqItems]
    |cons j l ihl=>
     unfold eqI at h;split at h
     .rename_i a b ha hb;cases h;split at ha
      .rename_i p q hp hq;have e1:=ih d e p q a ha;have e2:=ihl b hb;simp only[Op.eqItems,w06,zgn w hp,zgn w hq,w05,e1];cases a with
       |false=>simp
       |true=>simpa using e2
      .cases ha
     .cases h
   .cases h
  .rename_i dd u' v' hne hne2;unfold y3c at h;split at h
   .rename_i k k1 a k2 b hu;split at h
    .rename_i hk;cases h;simp only[beq_iff_eq] at hk;subst hk;exact run_equalIn_int w (d+n) t _ _ _ _ hu
    .cases h
   .rename_i a b hu;cases h;exact run_equalIn_bool' w (d+n) t _ _ hu
   .rename_i a b hu;cases h;rw[run_equalIn_string w (d+n) t _ _ hu,<- beq_toListBytes]
   .cases h
theorem zlh{P:Program}{t:TypeId}{u v:Value}{g:Bool}(w:World)(h:eqN P 8 t u v=some g):(Op.equal t u v).run P w = .ok g w:=yee w 8 9992 t u v g h
section strs
variable{P:Program}{C:Cx P}{s:St}{dst:Option Tmp}{ty:TypeId}{pos:String}{after:Array Edge}{guard:Option (Nat×Bool)}{K:VP->List HP->Prop}
theorem yg7[Dr]{t:TypeId}{x:Operand}{b:ByteArray}(ht:P.underlying t=some .string)(h:Ev s x (eqv (.string b))):
  OpQ C ⟨dst,.call { callee:=.builtin .len,args:=#[x],argTypes:=#[t] },ty,pos,after,guard⟩ s (iv .i64 (b.size:Int)):=
 .val λa r w hs=>by
  have hv:=h a r w hs;simp only[eqv] at hv;exact⟨_,z5g (by rw[hv];simp[Builtin.len_,run_underlying ht,goInt]),rfl⟩
theorem yds[Dr]{t t':TypeId}{x y:Operand}{m n:ByteArray}(ht:P.underlying t=some .string)(hx:Ev s x (eqv (.string m)))(hy:Ev s y (eqv (.string n))):
  OpQ C ⟨dst,.binOp .eql t x y t',ty,pos,after,guard⟩ s (bv (m==n)):=
 .val λa ro w hs=>by
  have h1:=hx a ro w hs;have h2:=hy a ro w hs;simp only[eqv] at h1 h2;refine⟨_,?_,rfl⟩;simp[execOp,h1,h2,eqGuard,binOp,Op.stringOp,beq_toListBytes]
theorem ydu[Dr]{t t':TypeId}{x y:Operand}{m n:ByteArray}(ht:P.underlying t=some .string)(hx:Ev s x (eqv (.string m)))(hy:Ev s y (eqv (.string n))):
  OpQ C ⟨dst,.binOp .neq t x y t',ty,pos,after,guard⟩ s (bv (m !=n)):=
 .val λa ro w hs=>by
  have h1:=hx a ro w hs;have h2:=hy a ro w hs;simp only[eqv] at h1 h2;refine⟨_,?_,rfl⟩;simp[execOp,h1,h2,eqGuard,binOp,Op.stringOp,bne,beq_toListBytes]
end strs
end Px
end
section
namespace Px
open Go Go.RowKit
set_option linter.unusedSectionVars false
def setB(w:World)(b:Nat)(o:Obj):World:={ w with heap:=w.heap.setIfInBounds b o }
def mget{κ ν:Type}[BEq κ]:List (κ×ν)->κ->Option ν
 | [],_=>none
 |(a,b)::m,k=>bif k==a then some b else mget m k
def mset{κ ν:Type}[BEq κ]:List (κ×ν)->κ->ν->List (κ×ν)
 | [],k,v=>[(k,v)]
 |(a,b)::m,k,v=>bif k==a then(k,v)::m else(a,b)::mset m k v
def fnd{κ:Type}[BEq κ](k:κ):List κ->List MapEntry->Nat->Option (Nat×Value)
 |a::ks,e::es,i=>bif k==a then some (i,e.val) else fnd k ks es (i+1)
 |_,_,_=>none
structure yes(P:Program)(kt:TypeId){κ:Type}[BEq κ](eK:κ->Value):Prop where
 check:∀w e k,(Instr.checkKey e 10000 kt (eK k)).run P w = .ok () w
 find:∀w k(es:List MapEntry)(ks:List κ),es.map (·.key)=ks.map eK->(Instr.findKey kt (eK k) es).run P w = .ok (fnd k ks es 0) w
 stays:∀w k k',(k==k')=true->(Instr.keyThatStays (eK k') (eK k)).run P w = .ok (eK k) w
theorem zo8{d:TypeDesc}{q:IntKind}(hd:d = .int q)(k:Int):∀(es:List MapEntry)(ks:List Int)(i:Nat),es.map (·.key)=ks.map (Value.int q)->Instr.findNow d (.int q k) es i=some (fnd k ks es i)
 | [],[],i,_=>rfl
 |e::es,a::ks,i,h=>by
  subst hd;simp only[w0e,w28] at h;unfold Instr.findNow fnd;rw[h.1];simp only[Instr.sameNow,if_true];cases hk:k==a with
  |true=>rfl
  |false=>exact zo8 rfl k es ks (i+1) h.2
 | [],_::_,_,h=>by simp at h
 |_::_,[],_,h=>by simp at h
theorem keyI{P:Program}{kt:TypeId}{q:IntKind}(ht:P.underlying kt=some (.int q)):yes P kt (κ:=Int) (Value.int q) where
 check w e k:=by show (Instr.checkKey e (9999+1) kt (.int q k)).run P w=_;rw[Instr.checkKey];simp[run_underlying ht]
 find w k es ks h:=by simp[Instr.findKey,run_underlying ht,zo8 rfl k es ks 0 h]
 stays w k k' h:=by
  have:k=k':=by simpa using h
  subst this;simp[Instr.keyThatStays,Instr.sameBits]
def tz1(P:Program)(t:TypeId):Option Value:=(P.info? t).bind (·.zero)
theorem zlq{P:Program}{t:TypeId}{z:Value}(h:tz1 P t=some z)(w:World):(zeroValue t).run P w = .ok z w:=by
 unfold tz1 at h;cases hi:P.info? t with
 |none=>rw[hi] at h;simp at h
 |some i=>rw[hi] at h;have hz:i.zero=some z:=h;simp[zeroValue,typeInfo,hi,hz]
section ptrs
variable{P:Program}{C:Cx P}{s:St}{dst:Option Tmp}{ty:TypeId}{pos:String}{after:Array Edge}{guard:Option (Nat×Bool)}
end ptrs
section map
variable{κ ν:Type}[BEq κ]{eK:κ->Value}{eV:ν->Value}
theorem zj3{k:κ}: ∀{m:List (κ×ν)}{es:List MapEntry}{i:Nat},es.map (λe=>(e.key,e.val))=m.map (λp=>(eK p.1,eV p.2))->fnd k (m.map (·.1)) es i=none->mget m k=none
 | [],[],i,_,_=>rfl
 |(a,b)::m,e::es,i,h,hf=>by
  simp only[w0e,w28] at h;simp only[w0e,fnd] at hf;unfold mget;cases hk:k==a with
  |true=>rw[hk] at hf;cases hf
  |false=>rw[hk] at hf;exact zj3 h.2 hf
 | [],_::_,_,h,_=>by simp at h
 |_::_,[],_,h,_=>by simp at h
theorem zj4{k:κ}: ∀{m:List (κ×ν)}{es:List MapEntry}{i j:Nat}{u:Value},es.map (λe=>(e.key,e.val))=m.map (λp=>(eK p.1,eV p.2))->fnd k (m.map (·.1)) es i=some (j,u)->
  i<=j/\(∃v,mget m k=some v/\u=eV v)/\(∃k',(k==k')=true/\∃e,es[j-i]? = some e/\e.key=eK k')/\∀v',(es.modify (j-i) λe=>{ e with key:=eK k,val:=eV v' }).map (λe=>(e.key,e.val)) =(mset m k v').map (λp=>(eK p.1,eV p.2))
 | [],[],i,j,u,_,hf=>by simp[fnd] at hf
 |(a,b)::m,e::es,i,j,u,h,hf=>by
  simp only[w0e,w28,w0f] at h;simp only[w0e,fnd] at hf;unfold mget mset;cases hk:k==a with
  |true=>rw[hk] at hf;simp only[cond_true,w00,w0f] at hf;obtain⟨rfl,rfl⟩:=hf;refine⟨w0s _,⟨b,rfl,h.1.2⟩,⟨a,hk,e,by simp,h.1.1⟩,λv'=>?_⟩;simp[h.2]
  |false=>
   rw[hk] at hf;obtain⟨h1,h2,⟨k',hk',e',he',hke⟩,h4⟩:=zj4 h.2 hf;have e1:j-i =(j-(i+1))+1:=by omega
   refine⟨by omega,h2,⟨k',hk',e',by rw[e1];simpa using he',hke⟩,λv'=>?_⟩;rw[e1];simp[h4 v',h.1.1,h.1.2]
 | [],_::_,_,_,_,h,_=>by simp at h
 |_::_,[],_,_,_,h,_=>by simp at h
variable{P:Program}{C:Cx P}{s:St}{dst:Option Tmp}{ty:TypeId}{pos:String}{after:Array Edge}{guard:Option (Nat×Bool)}{K:VP->List HP->Prop}
theorem z1e(w:World)(b b':Nat)(o:Obj)(h:b'≠b):(setB w b o).heap[b']? = w.heap[b']?:=by unfold setB;simp only;rw[w30 (λe=>h e.symm)]
theorem z3h(w:World)(b:Nat)(o:Obj)(h:b<w.heap.size):(setB w b o).heap[b]? = some o:=by unfold setB;simp[h]
theorem OpT.storeB[Dr]{o:Oper}(hdst:o.dst=none)(i:Nat)(H:HP)(hi:i<s.objs.length)
  (hr:∀a r S w,WInv C.w0 C.base s.objs r S w->ze s.slots a r w->∃b ob,S i b/\(execOp a.eval o).run P w = .ok .skip (setB w b ob)/\H.h (S i) r (setB w b ob))
  (k:K topv (s.objs.set i H)):OpT C o s K:=by
 intro a w r S Q hd hn hw hs;obtain⟨b,ob,hS,hrun,hH⟩:=hr a r S w hw hs;unfold Oper.wp;rw[hrun,Oper.upon_skip];have hblk:∀b',b'<w.heap.size->¬S i b'->(setB w b ob).heap[b']? = w.heap[b']?:=λb' _ hb'=>z1e w b b' ob (λe=>hb' (e ▸ hS))
 exact⟨undef,r,_,topv,_,rfl,hw.evo_repl i hblk,hw.repl i H (S i) hi rfl ⟨rfl,w0s _⟩ rfl (by simp[setB]) hblk (λb' hb'=>by obtain⟨h1,h2,h3,h4⟩:=hw.own i b' hb';exact⟨h2,by simpa[setB] using h3,h4,λj hj hS'=>hj (hw.apart j i b' hS' hb')⟩) hH,trivial,k⟩
end map
end Px
end
section
namespace Px
open Go Go.RowKit
set_option linter.unusedSectionVars false
def Ents:List VP->List VP->Prop
 | [],[]=>True
 |A::As,B::Bs=>Ent A B/\Ents As Bs
 |_,_=>False
theorem Ents.ok:∀{As Bs:List VP},Ents As Bs->As.length=Bs.length/\∀(j:Nat)(B:VP),Bs[j]? = some B->∃A,As[j]? = some A/\Ent A B
 | [],[],_=>⟨rfl,λj B h=>by simp at h⟩
 |A::As,B::Bs,⟨h,hr⟩=>by
  obtain⟨h1,h2⟩:=Ents.ok hr;refine⟨by simp[h1],λj D hj=>?_⟩;cases j with
  |zero=>simp at hj;subst hj;exact⟨A,rfl,h⟩
  |succ j=>simpa using h2 j D (by simpa using hj)
 | [],_::_,h=>h.elim
 |_::_,[],h=>h.elim
theorem Ent.nil{α:Type}{e:α->List VP}{sz:Nat}: Ent (eqv (.slice none 0 0)) (ro e sz []):=λr w v h=>.inl ⟨⟨none,0,h⟩,rfl⟩
theorem Ent.agg{cs ds:List VP}(h:Ents cs ds):Ent (agg cs) (agg ds):=by rintro r w v ⟨vs,rfl,hh⟩;obtain⟨h1,h2⟩:=h.ok;refine⟨vs,rfl,by rw[<- h1];exact hh.1,λj B hj=>?_⟩;obtain⟨A,hA,hAB⟩:=h2 j B hj;obtain⟨u,hu,hA',ho⟩:=hh.2 j A hA;exact⟨u,hu,hAB _ _ _ hA',ho⟩
section ops
variable{P:Program}{C:Cx P}{s:St}{dst:Option Tmp}{ty:TypeId}{pos:String}{after:Array Edge}{guard:Option (Nat×Bool)}{K:VP->List HP->Prop}
theorem y1a{t:TypeId}(h:isSl P t=true):∃e,P.underlying t=some (.slice e):=by
 unfold isSl at h;split at h
 .rename_i e hu;exact⟨e,hu⟩
 .cases h
theorem y9j[Dr]{t:TypeId}{x:Operand}(ht:isSl P t=true)(h:Ev s x (eqv (.slice none 0 0))):
  OpQ C ⟨dst,.call { callee:=.builtin .cap,args:=#[x],argTypes:=#[t] },ty,pos,after,guard⟩ s (iv .i64 0):=
 .val λa r w hs=>by
  have h3:=h a r w hs;simp only[eqv] at h3;obtain⟨e,hu⟩:=y1a ht;exact⟨_,by simp[execOp,resolve,invoke,builtin,Builtin.cap_,run_underlying hu,goInt,h3],rfl⟩
theorem y9p[Dr]{t:TypeId}{x:Operand}(ht:isSl P t=true)(h:Ev s x (eqv (.slice none 0 0))):
  OpQ C ⟨dst,.call { callee:=.builtin .len,args:=#[x],argTypes:=#[t] },ty,pos,after,guard⟩ s (iv .i64 0):=
 .val λa r w hs=>by
  have h3:=h a r w hs;simp only[eqv] at h3;exact⟨_,z5g (by rw[h3];exact z86 w ht),rfl⟩
theorem ztq{zs:Array Value}{n j:Nat}(hj:j<n*zs.size):(Builtin.zeroCells zs n).toList[j]? = some (zs[j % zs.size]!):=by simp[Builtin.zeroCells,hj]
theorem y5o[Dr]{α:Type}(i:Nat){t tn E:TypeId}{e:α->List VP}{sz by':Nat}{x y:Operand}{kn k:IntKind}{n:Int}(z:α)(zs:List Value)(ht:tsl P t=some (E,sz,by'))(htn:P.underlying tn=some (.int kn))(he:∀x,(e x).length=sz)
  (hz:zlr P E=some zs) (hz1:zs.all (·.oneCell')=true) (hze:e z=zs.map eqv) (hx:Ev s x (eqv (.slice none 0 0))) (ho:s.objs[i]? = some (row E e sz ([]:List α) (.slice none 0 0))) (hy:Ev s y (iv k n))
  (h0:0<n) (hby:n.toNat*by'<=140737488355328) (hmax:n.toNat<=maxLen)
  (kk:∀v',K (eqv v') (s.objs.set i (row E e sz (List.replicate n.toNat z) v'))):OpT C ⟨dst,.call { callee:=.builtin .append,args:=#[x,y],argTypes:=#[t,tn] },ty,pos,after,guard⟩ s K:=by
 intro a w r S Q hd hn hw hs;have hx':=hx a r w hs;have hy':=hy a r w hs;simp only[eqv,iv] at hx' hy';have hi:=(w02.1 ho).1;obtain⟨inf,zv,hu,hinf,hzv,rfl,rfl,hzs,hpos⟩:=zcb ht;have hzv':zv.cells.toList=zs:=by unfold zlr at hz;simp[hinf,hzv] at hz;exact hz
 obtain⟨m,rfl⟩:∃m:Nat,n=m:=⟨n.toNat,by omega⟩;simp only[w2d] at hby hmax kk;have hr:=Lib.run_append_nil_zeros w t tn ty E inf zv k kn hu htn hinf hzv m (by omega) hpos (by simp[maxLen] at hmax;omega) (by omega);have hge:=grownCap_ge w m 0 E;have hcm:=grownCap_le_maxLen w m 0 E hmax;have hblk:∀b,b<w.heap.size->¬S i b->(w.drew.alloc (.cells (Builtin.zeroCells zv.cells m++Builtin.zeroCells zv.cells (grownCap w m 0 E-m)) E)).heap[b]? = w.heap[b]?:=λb hb _=>Below.heap_alloc w.drew _ b hb
 unfold Oper.wp;rw[show (execOp a.eval ⟨dst,.call { callee:=.builtin .append,args:=#[x,y],argTypes:=#[t,tn] },ty,pos,after,guard⟩).run P w = .ok (.value _) _ from by simp[execOp,resolve,invoke,builtin,hx',hy',hr];exact⟨rfl,rfl⟩,Oper.upon_value];refine⟨_,r,_,_,_,rfl,hw.evo_repl i hblk,hw.repl i (row E e inf.size (List.replicate m z) _) (λb=>b=w.heap.size) hi rfl ⟨rfl,w44 _⟩ rfl (by simp) hblk (λb hb=>?_) ?_,rfl,kk _⟩
 .subst hb;exact⟨hw.size,by simp,λhb'=>w47 _ (hw.old _ hb'),λj hj hSj=>w47 _ (hw.own j _ hSj).2.2.1⟩
 .refine .inr ⟨w.heap.size,grownCap w m 0 E,_,by simp,rfl,heap_alloc_new w.drew _,by simpa using hge,hcm,?_,?_⟩
  .simp only[Array.size_append,size_zeroCells,hzs,<- w16];congr 1;omega
  .have hfl:=z1c he (List.replicate m z);rw[List.length_replicate] at hfl⊢;have hzl :(Builtin.zeroCells zv.cells m).toList.length=m*inf.size:=by simp[size_zeroCells,hzs]
   have e1 :(Builtin.zeroCells zv.cells m++Builtin.zeroCells zv.cells (grownCap w m 0 E-m)).toList.take (m*inf.size) =(Builtin.zeroCells zv.cells m).toList:=by rw[Array.toList_append];exact w4d hzl
   rw[e1];refine⟨by rw[hfl,hzl],λj A hj=>?_⟩;have hlt:j<m*inf.size:=by
    have:=(w02.1 hj).1
    rwa [hfl] at this
   obtain⟨y,hy2,hA⟩:=zgy he hpos _ j A hj;rw[w41] at hy2;split at hy2
   .simp at hy2;subst hy2;rw[hze,w1a,w1j] at hA;obtain⟨u,hu',rfl⟩:=hA;refine⟨u,?_,rfl,by simpa using w0g.1 hz1 u (w12 hu')⟩;rw[ztq (by rw[hzs];exact hlt),hzs];have hml:j % inf.size<zv.cells.size:=by rw[hzs];exact w4e _ hpos
    rw[<- hzv'] at hu';simp[hml] at hu'⊢;exact hu'
   .cases hy2
end ops
section freeze
variable{P:Program}{C:Cx P}{s:St}{Q:Exit->Act->World->Prop}{ops:Array Oper}{tab:Tab}{D:List Nat}{QR:List (Nat×VP)}
end freeze
end Px
end
section
namespace Px
open Go Go.RowKit
section
variable{P:Program}{C:Cx P}{ops:Array Oper}{i:Nat}{rest:List Nat}{s:St}{Q:Exit->Act->World->Prop}{o:Oper}
def sel2(C:Cx P)(ops:Array Oper)(i:Nat):Option (Oper×Bool×Nat):=match ops[i]? with
 |some o=>match o.guard with
  |some g=>match (ops[g.1]?).bind (·.dst) with
   |some t=>bif z6m C o then some (o,g.2,t) else none
   |none=>none
  |none=>none
 |none=>none
theorem zy9{C:Cx P}{want:Bool}{t:Nat}(h:sel2 C ops i=some (o,want,t)):ops[i]? = some o/\(∃j,o.guard=some (j,want)/\(ops[j]?).bind (·.dst)=some t)/\z6m C o=true:=by
 unfold sel2 at h;split at h
 .rename_i p hp;split at h
  .rename_i g hg;split at h
   .rename_i t' ht;cases hr:z6m C p with
    |false=>rw[hr] at h;cases h
    |true=>rw[hr] at h;cases h;exact⟨hp,⟨g.1,hg,ht⟩,hr⟩
   .cases h
  .cases h
 .cases h
theorem g1[Dr]{x:VP}{g want:Bool}{t:Nat}(hs:sel2 C ops i=some (o,want,t))(ht:s.slots t=some (bv g))(hq:g=want->OpQ C o s x)
  (h:zie C ops rest ⟨s.slots.set o.dst (cnd (g=want) x),s.objs⟩ Q):zie C ops (i::rest) s Q:=
 let ⟨_,h1,h2⟩:=(zy9 hs).2.1
 zie.cons_g x g (zy9 hs).1 h1 (zy9 hs).2.2 h2 ht hq h
section calls
variable{ty:TypeId}{pos:String}{after:Array Edge}{guard:Option (Nat×Bool)}{dst:Option Tmp}
end calls
end
end Px
end
section
namespace Px
open Go Go.RowKit
section
variable{w0 w:World}{base:Nat}{objs:List HP}{r:Nat->Prop}{S:Nat->Nat->Prop}
theorem WInv.split[Dr](h:WInv w0 base objs r S w)(i:Nat){H1 H2:HP}(hi:i<objs.length)(S1 S2:Nat->Prop)(h1:H1.h S1 r w)(h2:H2.h S2 r w)(s1:∀b,S1 b->S i b)(s2:∀b,S2 b->S i b)(sd:∀b,S1 b->¬S2 b):
  ∃S',WInv w0 base (objs.set i H1++[H2]) r S' w:=by
 have hS:∀j b,(if j=i then S1 b else if j=objs.length then S2 b else j<objs.length/\S j b)->(∃j',S j' b/\j'<objs.length/\((j=i/\j'=i)\/(j=objs.length/\j'=i)\/(j≠i/\j≠objs.length/\j'=j))):=by
  intro j b hb;split at hb
  .exact⟨i,s1 b hb,hi,.inl ⟨by assumption,rfl⟩⟩
  .split at hb
   .exact⟨i,s2 b hb,hi,.inr (.inl ⟨by assumption,rfl⟩)⟩
   .exact⟨j,hb.2,hb.1,.inr (.inr ⟨by assumption,by assumption,rfl⟩)⟩
 refine⟨λj b=>if j=i then S1 b else if j=objs.length then S2 b else j<objs.length/\S j b,h.below,h.size,?_,?_,?_,h.old⟩
 .intro j H hj;by_cases c:j<objs.length
  .rw[w0n (by simpa using c),w1v] at hj;by_cases e:i=j
   .subst e;simp only[c,if_true,w00] at hj;subst hj;simpa using h1
   .rw[if_neg e] at hj;have:=h.obj j H hj;have e2 :(λb=>if j=i then S1 b else if j=objs.length then S2 b else j<objs.length/\S j b)=S j:=by funext b;rw[if_neg (λq=>e q.symm),if_neg (by omega)];exact propext ⟨λq=>q.2,λq=>⟨c,q⟩⟩
    rw[e2];exact this
  .rw[w11 (by simpa using c)] at hj;simp only[w27] at hj;have e:j=objs.length:=by have:=(w02.1 hj).1;simp at this;omega
   subst e;simp at hj;subst hj;have e2 :(λb=>if objs.length=i then S1 b else if objs.length=objs.length then S2 b else objs.length<objs.length/\S objs.length b)=S2:=by funext b;rw[if_neg (by omega),if_pos rfl]
   rw[e2];exact h2
 .intro j b hb;obtain⟨j',hb',hl,hc⟩:=hS j b hb;obtain⟨_,q2,q3,q4⟩:=h.own j' b hb';refine⟨?_,q2,q3,q4⟩;simp only[w0d,w27,w0k,w1u];omega
 .intro j k b hj hk;obtain⟨j',hj',_,cj⟩:=hS j b hj;obtain⟨k',hk',_,ck⟩:=hS k b hk;have e:=h.apart j' k' b hj' hk';by_cases c1:j=i
  .by_cases c2:k=objs.length
   .exfalso;simp only[c1,if_true] at hj;simp only[c2,if_true] at hk;rw[if_neg (by omega)] at hk;exact sd b hj hk
   .omega
  .by_cases c2:j=objs.length
   .by_cases c3:k=i
    .exfalso;simp only[c3,if_true] at hk;simp only[c2,if_true] at hj;rw[if_neg (by omega)] at hj;exact sd b hk hj
    .omega
   .omega
theorem WInv.fuse[Dr](h:WInv w0 base objs r S w)(i j:Nat){Hi Hj H:HP}(hij:i≠j)(hi:objs[i]? = some Hi)(hj:objs[j]? = some Hj)
  (hH:Hi.h (S i) r w->Hj.h (S j) r w->(∀b,S i b->¬S j b)->H.h (λb=>S i b\/S j b) r w):∃S',WInv w0 base ((objs.set i H).set j emp) r S' w:=by
 have li:=(w02.1 hi).1;refine⟨λk b=>if k=i then S i b\/S j b else k≠j/\S k b,h.below,h.size,?_,?_,?_,h.old⟩
 .intro k H' hk;rw[w1v] at hk;by_cases e:j=k
  .subst e;split at hk
   .split at hk
    .cases hk;trivial
    .cases hk
   .rename_i q;exact absurd rfl q
  .rw[if_neg e,w1v] at hk;by_cases e2:i=k
   .subst e2;simp only[li,if_true,w00] at hk;subst hk;simp only[if_true];exact hH (h.obj _ _ hi) (h.obj _ _ hj) λb hb hb'=>hij (h.apart i j b hb hb')
   .rw[if_neg e2] at hk;have e3 :(λb=>if k=i then S i b\/S j b else k≠j/\S k b)=S k:=by funext b;rw[if_neg (λq=>e2 q.symm)];exact propext ⟨λq=>q.2,λq=>⟨λq=>e q.symm,q⟩⟩
    rw[e3];exact h.obj _ _ hk
 .intro k b hb;simp only[w27];split at hb
  .rename_i e;subst e;rcases hb with hb|hb
   .exact h.own _ b hb
   .obtain⟨_,q⟩:=h.own _ b hb;exact⟨li,q⟩
  .exact h.own _ b hb.2
 .intro k m b hk hm;split at hk<;>split at hm
  .omega
  .rcases hk with hk|hk
   .have:=h.apart _ _ b hk hm.2;omega
   .exact absurd (h.apart _ _ b hk hm.2).symm hm.1
  .rcases hm with hm|hm
   .have:=h.apart _ _ b hk.2 hm;omega
   .exact absurd (h.apart _ _ b hk.2 hm) hk.1
  .exact h.apart _ _ b hk.2 hm.2
end
def nst{β:Type}(E:TypeId)(I:β->Value->HP)(l:List β)(hole:Option (Nat×Value))(sv:Value):HP:=
 ⟨λS r w=>∃(vs:List Value)(S0:Nat->Prop)(Sk:Nat->Nat->Prop),vs.length=l.length/\(row E (λv:Value=>[eqv v]) 1 vs sv).h S0 r w/\(∀k v,hole=some (k,v)->vs[k]? = some v)/\
   (∀k x v,l[k]? = some x->vs[k]? = some v->hole.map (·.1)≠some k->(I x v).h (Sk k) r w)/\(∀b,S0 b->S b)/\(∀k b,Sk k b->S b/\¬S0 b)/\∀j k b,Sk j b->Sk k b->j=k,
  λh1 h2 h3 ⟨vs,S0,Sk,a,b,c,d,e,f,g⟩=>⟨vs,S0,Sk,a,(row ..).wk h1 h2 (λb hb=>h3 b (e b hb)) b,c,λk x v hx hv hk=>(I x v).wk h1 h2 (λb hb=>h3 b (f k b hb).1) (d k x v hx hv hk),e,f,g⟩⟩
theorem zb0:∀(vs:List Value),(vs.flatMap λv:Value=>[eqv v])=vs.map eqv
 | []=>rfl
 |a::m=>by rw[w0w,w0e,zb0 m];rfl
section
variable{β:Type}{E:TypeId}{I:β->Value->HP}{l:List β}{sv v:Value}{S r:Nat->Prop}{w:World}{hole:Option (Nat×Value)}
theorem y4z{k:Nat}{x:β}(h :(nst E I l none sv).h S r w)(hk:l[k]? = some x):
  ∃v S1 S2,(nst E I l (some (k,v)) sv).h S1 r w/\(I x v).h S2 r w/\(∀b,S1 b->S b)/\(∀b,S2 b->S b)/\∀b,S1 b->¬S2 b:=by
 obtain⟨vs,S0,Sk,hl,h0,_,hd,he,hf,hg⟩:=h;have hkl:k<vs.length:=by rw[hl];exact(w02.1 hk).1
 obtain⟨v,hv⟩:∃v,vs[k]? = some v:=⟨vs[k],by simp[hkl]⟩;refine⟨v,λb=>S b/\¬Sk k b,Sk k,⟨vs,S0,λj b=>j≠k/\Sk j b,hl,h0,?_,?_,?_,?_,?_⟩,hd k x v hk hv (by simp),λb hb=>hb.1,λb hb=>(hf k b hb).1,λb hb=>hb.2⟩
 .rintro k' v' q;simp only[w00,w0f] at q;obtain⟨rfl,rfl⟩:=q;exact hv
 .intro j y u hy hu hj;have hne:j≠k:=λq=>hj (by simp[q])
  have e2 :(λb=>j≠k/\Sk j b)=Sk j:=by funext b;exact propext ⟨λq=>q.2,λq=>⟨hne,q⟩⟩
  have h5:=hd j y u hy hu (by simp);rw[<- e2] at h5;exact h5
 .exact λb hb=>⟨he b hb,λq=>(hf k b q).2 hb⟩
 .rintro j b ⟨hne,hb⟩;exact⟨⟨(hf j b hb).1,λq=>hne (hg j k b hb q)⟩,(hf j b hb).2⟩
 .rintro j j' b ⟨_,hb⟩ ⟨_,hb'⟩;exact hg j j' b hb hb'
theorem y98{k:Nat}{x:β}{Sj:Nat->Prop}(h :(nst E I l (some (k,v)) sv).h S r w)(hx :(I x v).h Sj r w)(hd:∀b,S b->¬Sj b):(nst E I (l.set k x) none sv).h (λb=>S b\/Sj b) r w:=by
 obtain⟨vs,S0,Sk,hl,h0,hh,hdd,he,hf,hg⟩:=h;have hv:=hh k v rfl;refine⟨vs,S0,λj b=>if j=k then Sj b else Sk j b,by simpa using hl,h0,(λ_ _ q=>by cases q),?_,λb hb=>.inl (he b hb),?_,?_⟩
 .intro j y u hy hu _;rw[w1v] at hy;by_cases c:k=j
  .subst c;rw[if_pos rfl] at hy;split at hy
   .cases hy;rw[hv] at hu;cases hu;simpa using hx
   .cases hy
  .rw[if_neg c] at hy;have e2 :(λb=>if j=k then Sj b else Sk j b)=Sk j:=by funext b;rw[if_neg (λq=>c q.symm)]
   have h5:=hdd j y u hy hu (λq=>c (by simpa using q));rw[<- e2] at h5;exact h5
 .intro j b hb;split at hb
  .exact⟨.inr hb,λq=>hd b (he b q) hb⟩
  .exact⟨.inl (hf j b hb).1,(hf j b hb).2⟩
 .intro j j' b hb hb';split at hb<;>split at hb'
  .omega
  .exact absurd hb (hd b (hf _ b hb').1)
  .exact absurd hb' (hd b (hf _ b hb).1)
  .exact hg _ _ b hb hb'
theorem yfu{f:β->VP}(h :(nst E I l none sv).h S r w)(hI:∀x v S',(I x v).h S' r w->(f x).h (λb=>r b\/S' b) w v):(ro (λx:β=>[f x]) 1 l).h (λb=>r b\/S b) w sv:=by
 obtain⟨vs,S0,Sk,hl,h0,_,hd,hs,hf,hg⟩:=h;rcases h0 with⟨rfl,rfl⟩|⟨g,cap,cur,rfl,hS,hcur,hlc,hm,hsz,hh⟩
 .exact .inl ⟨⟨none,0,rfl⟩,w17 hl.symm⟩
 .refine .inr ⟨g,0,cap-l.length,by rw[hl,w2m (by omega)],λk x hk=>⟨.inr (hs g hS),λj A hj=>?_⟩⟩;cases j with
  |succ j=>simp at hj
  |zero=>
   simp at hj;subst hj;have hkl:k<vs.length:=by rw[hl];exact(w02.1 hk).1
   obtain⟨v,hv⟩:∃v,vs[k]? = some v:=⟨vs[k],by simp[hkl]⟩;have hcell :(vs.flatMap λv:Value=>[eqv v])[k]? = some (eqv v):=by rw[zb0,w1a,hv];rfl
   obtain⟨u,hu,hA,ho⟩:=hh.2 k _ hcell;simp only[eqv] at hA;subst hA;refine⟨u,?_,(f x).mono (λb hb=>?_) (λ_ _=>rfl) (hI x u _ (hd k x u hk hv (by simp))),ho⟩
   .rw[cell_of_row w g _ cur E (0,0) hcur];rw[w0r] at hu;split at hu
    .simpa using hu
    .cases hu
   .rcases hb with hb|hb
    .exact .inl hb
    .exact .inr (hf k b hb).1
theorem zrl{α:Type}{e:α->List VP}{sz:Nat}{xs:List α}(he:∀x,(e x).length=sz)(h :(row E e sz xs sv).h S r w):(ro e sz xs).h (λb=>r b\/S b) w sv:=by
 rcases h with⟨rfl,rfl⟩|⟨g2,cap2,cur2,rfl,hS2,hcur2,hl2,hm2,hsz2,hh2⟩
 .exact .inl ⟨⟨none,0,rfl⟩,rfl⟩
 .refine .inr ⟨g2,0,cap2-xs.length,by rw[w2m hl2],λi y hi=>⟨.inr hS2,λj A hj=>?_⟩⟩;obtain⟨u2,hu2,hA2,h1⟩:=hh2.2 _ A (z3g he xs i y hi j A hj);refine⟨u2,?_,A.mono (λb hb=>.inl hb) (λ_ _=>rfl) hA2,h1⟩;rw[w1c,cell_of_row w g2 _ cur2 E (0,0) hcur2];rw[w0r] at hu2;split at hu2
  .simpa using hu2
  .cases hu2
theorem yec{z:β}{u:Value}{n:Nat}(hI :(I z u).h (λ_=>False) r w)(h :(row E (λv:Value=>[eqv v]) 1 (List.replicate n u) sv).h S r w):(nst E I (List.replicate n z) none sv).h S r w:=by refine⟨List.replicate n u,S,λ_ _=>False,by simp,h,(λ_ _ q=>by cases q),?_,λb hb=>hb,λk b hb=>hb.elim,λj k b hb=>hb.elim⟩;intro k x v hx hv _;have h1:=List.eq_of_mem_replicate (w12 hx);have h2:=List.eq_of_mem_replicate (w12 hv);subst h1;subst h2;exact hI
end
def ObIs(objs:List HP)(j:Nat)(H:HP):Prop:=∃H',objs[j]? = some H'/\∀S r w,H'.h S r w->H.h S r w
theorem ObIs.at[Dr]{w0 w:World}{base:Nat}{objs:List HP}{r:Nat->Prop}{S:Nat->Nat->Prop}(hw:WInv w0 base objs r S w){j:Nat}{H:HP}(h:ObIs objs j H):H.h (S j) r w:=by obtain⟨H',h1,h2⟩:=h;exact h2 _ _ _ (hw.obj j _ h1)
section ops
variable{P:Program}{C:Cx P}{s:St}{dst:Option Tmp}{ty:TypeId}{pos:String}{after:Array Edge}{guard:Option (Nat×Bool)}{K:VP->List HP->Prop}
variable{β:Type}{E:TypeId}{I:β->Value->HP}{l:List β}{sv v:Value}{hole:Option (Nat×Value)}
theorem ycy[Dr]{j:Nat}{t:TypeId}{x i:Operand}{k:IntKind}{m:Int}(ht:tidx P t=some (false,0,1))(h:Ev s x (eqv sv))(ho:ObIs s.objs j (nst E I l hole sv))(hi:Ev s i (iv k m))(h0:0<=m)(h1:m<(l.length:Int)):
  OpQ C ⟨dst,.indexAddr t x i,ty,pos,after,guard⟩ s ⟨λ_ _ v=>∃g n cap,sv = .slice (some ⟨g,0,none⟩) n cap/\v = .pointer (some ⟨g,m.toNat,none⟩)/\0<=m/\m<(n:Int),λ_ _ h=>h⟩:=
 .valO λa r S w hw hs=>by
  have h2:=hi a r w hs;have h3:=h a r w hs;simp only[iv,eqv] at h2 h3;obtain⟨vs,S0,Sk,hl,h4,_⟩:=ObIs.at hw ho;rcases h4 with⟨_,rfl⟩|⟨g,cap,cur,hv,hS,hcur,hll,hm,hsz,hh⟩
  .simp at hl;omega
  .have h6:m<(vs.length:Int):=by rw[hl];exact h1
   refine⟨.pointer (some ⟨g,m.toNat,none⟩),?_,g,_,cap,hv,rfl,h0,h6⟩;simp only[execOp,h3,hv,h2,w06,zex w ht h0 h6,w1c,Nat.mul_one];rfl
theorem ydb[Dr](j:Nat){t:TypeId}{x:Operand}(ht:isSl P t=true)(h:Ev s x (eqv sv))(ho:ObIs s.objs j (nst E I l hole sv)):
  OpQ C ⟨dst,.call { callee:=.builtin .len,args:=#[x],argTypes:=#[t] },ty,pos,after,guard⟩ s (iv .i64 l.length):=
 .valO λa r S w hw hs=>by
  have h3:=h a r w hs;simp only[eqv] at h3;obtain⟨vs,S0,Sk,hl,h4,_⟩:=ObIs.at hw ho;rcases h4 with⟨hv,rfl⟩|⟨g,cap,cur,hv,_⟩
  .exact⟨_,z5g (by rw[h3,hv];exact z86 w ht),by rw[<- hl];rfl⟩
  .exact⟨_,z5g (by rw[h3,hv];exact z86 w ht),by rw[<- hl];rfl⟩
theorem ygi[Dr]{x:Operand}{j k:Nat}(hx:Ev s x (rowp sv k))(ho:ObIs s.objs j (nst E I l (some (k,v)) sv)):Pt C s x [eqv v]:=λa r S w hw hs=>by
 obtain⟨g,n,cap,hv,hp⟩:=hx a r w hs;obtain⟨vs,S0,Sk,hl,h4,hh,_⟩:=ObIs.at hw ho;have hvk:=hh k v rfl;refine⟨g,k,hp,λi A hi=>?_⟩;cases i with
 |succ i=>simp at hi
 |zero=>
  simp at hi;subst hi;rcases h4 with⟨hn,_⟩|⟨g2,cap2,cur,hv2,hS,hcur,hll,hm,hsz,hc⟩
  .rw[hv] at hn;cases hn
  .rw[hv] at hv2;simp only[Value.slice.injEq,w00,Addr.mk.injEq] at hv2;obtain⟨⟨rfl,_⟩,_,_⟩:=hv2;have hcell :(vs.flatMap λv:Value=>[eqv v])[k]? = some (eqv v):=by rw[zb0,w1a,hvk];rfl
   obtain⟨u,hu,hA,h1⟩:=hc.2 k _ hcell;refine⟨u,?_,hA,h1⟩;rw[w3y,cell_of_row w g k cur E (0,0) hcur];rw[w0r] at hu;split at hu
   .simpa using hu
   .cases hu
theorem y6r[Dr](i:Nat){t:TypeId}{g:Bool}{k:Nat}{x y:Operand}(ht:z3s P t=some (g,1))(hx:Ev s x (rowp sv k))(hy:Ce s y [eqv v])(ho:s.objs[i]? = some (nst E I l hole sv))(hh:∀p,hole=some p->p.1=k)(hk:k<l.length)
  (kk:K topv (s.objs.set i (nst E I l (some (k,v)) sv))):OpT C ⟨none,.store t x y,ty,pos,after,guard⟩ s K:=
 .store rfl i _ (w02.1 ho).1 (λa r S w hw hs=>by
  obtain⟨g',n',cap',hsv,hx'⟩:=hx a r w hs;have hy':=hy a r w hs;obtain⟨vs,S0,Sk,hl,h4,hho,hd,he,hf,hg⟩:=hw.obj i _ ho;rcases h4 with⟨hn,_⟩|⟨g2,cap,cur,hv',hS,hcur,hll,hm,hsz,hc⟩
  .rw[hsv] at hn;cases hn
  .rw[hsv] at hv';simp only[Value.slice.injEq,w00,Addr.mk.injEq] at hv';obtain⟨⟨rfl,_⟩,rfl,rfl⟩:=hv';have hvs :(a.eval y).cells.size=1:=by have:=hy'.1;simp at this;omega
   have hbl:k+1<=cur.size:=by omega
   refine⟨g',(cur.toList.take k++(a.eval y).cells.toList++cur.toList.drop (k+(a.eval y).cells.toList.length)).toArray,he _ hS,?_,?_⟩
   .simp only[execOp,hx',w06,zgo ht hcur hvs hbl hy'.one];rfl
   .have hle :(a.eval y).cells.toList.length=1:=by simpa using hvs
    refine⟨vs.set k v,S0,Sk,by simpa using hl,?_,?_,?_,he,hf,hg⟩
    .refine .inr ⟨g',cap',_,by simpa using hsv,hS,setRow_heap w g' cur _ E (0,0) hcur,by simpa using hll,hm,?_,?_⟩
     .simp;omega
     .have hc2:=hc;rw[zb0] at hc2;have hsp:=zl.splice hc2 hy' k (by simp only[w0x,List.length_singleton];omega);have h8:=zl.setRow hw (he _ hS) (cur.toList.take k++(a.eval y).cells.toList++cur.toList.drop (k+(a.eval y).cells.toList.length)).toArray hsp;refine cast ?_ h8;rw[zb0,List.map_set];congr 1
      .have hkv:k<(vs.map eqv).length:=by simp;omega
       rw[List.set_eq_take_append_cons_drop,if_pos hkv];simp
      .have l1 :(List.take k cur.toList).length=k:=by rw[w1f];simp;omega
       rw[w2v,w27,hle,w36,w36,w0d,l1,hle];rw[w24 (l:=List.take k cur.toList) (by rw[l1];omega),w24 (l:=(a.eval y).cells.toList) (by rw[hle];omega)];rw[w4p,w4c (by omega),List.drop_take]
    .rintro k' v' q;simp only[w00,w0f] at q;obtain⟨rfl,rfl⟩:=q;rw[w1v,if_pos rfl,if_pos (by omega)]
    .intro j z u hz hu hj;have hne:k≠j:=λq=>hj (by simp[q])
     rw[w1v,if_neg hne] at hu;refine(I z u).mono (λ_ h=>h) (λb hb=>setRow_other w g' b _ (λq=>(hw.own i g' (he _ hS)).2.2.2 (q ▸ hb))) (λb hb=>setRow_other w g' b _ (λq=>(hf j b hb).2 (q ▸ hS))) (hd j z u hz hu ?_);intro q;cases hole with
     |none=>cases q
     |some p=>simp only[w0u,w00] at q;exact hne ((hh p rfl).symm.trans q)) kk
end ops
theorem y3v[Dr]{w0 w wI:World}{base:Nat}{objs O:List HP}{r r0:Nat->Prop}{S:Nat->Nat->Prop}{sv:Value}{X:VP}(i:Nat)(hi:i<objs.length)(hw:WInv w0 base objs r S w)(hev:Evo base r0 wI r w)(hx:X.h (λb=>r b\/S i b) w sv)(hO:zls sv X (objs.set i emp) O):
  ∃(r':Nat->Prop)(S':Nat->Nat->Prop),(∀b,r b->r' b)/\WInv w0 base O r' S' w/\Evo base r0 wI r' w/\X.h r' w sv:=by
 have hrr:∀b,r b->(λb=>r b\/S i b) b:=λb hb=>.inl hb
 have hlen:=hO.at.1;rw[w27] at hlen;refine⟨λb=>r b\/S i b,λj b=>j≠i/\S j b,hrr,⟨hw.below,hw.size,?_,?_,?_,?_⟩,?_,hx⟩
 .intro j B hj;obtain⟨A,hA,hf⟩:=hO.at.2 j B hj;refine hf _ _ _ hx ?_;rw[w1v] at hA;split at hA
  .rename_i e;subst e;simp only[hi,if_true,w00] at hA;subst hA;trivial
  .rename_i e;have :(λb=>j≠i/\S j b)=S j:=by funext b;exact propext ⟨λh=>h.2,λh=>⟨λh=>e h.symm,h⟩⟩
   rw[this];exact A.mono hrr (λ_ _=>rfl) (λ_ _=>rfl) (hw.obj j A hA)
 .rintro j b ⟨hne,hb⟩;obtain⟨h1,h2,h3,h4⟩:=hw.own j b hb;refine⟨hlen ▸ h1,h2,h3,?_⟩;rintro(q|q)
  .exact h4 q
  .exact hne (hw.apart j i b hb q)
 .rintro j k b ⟨_,hb⟩ ⟨_,hb'⟩;exact hw.apart j k b hb hb'
 .rintro b (q|q)
  .exact hw.old b q
  .exact(hw.own i b q).2.2.1
 .refine⟨λb hb=>.inl (hev.1 b hb),hev.2.1,?_⟩;rintro b (q|q)
  .exact hev.2.2 b q
  .exact .inr (hw.own i b q).2.1
end Px
end
section
namespace Px
open Go Go.RowKit
set_option linter.unusedSectionVars false
def mdel{κ ν:Type}[BEq κ]:List (κ×ν)->κ->List (κ×ν)
 | [],_=>[]
 |(a,b)::m,k=>bif k==a then m else(a,b)::mdel m k
section map
variable{κ ν:Type}[BEq κ]{eK:κ->Value}{eV:ν->Value}
theorem zje{k:κ}: ∀{m:List (κ×ν)},mget m k=none->mdel m k=m
 | [],_=>rfl
 |(a,b)::m,h=>by
  unfold mget at h;unfold mdel;cases hk:k==a with
  |true=>rw[hk] at h;cases h
  |false=>rw[hk] at h;simp[zje h]
theorem y3n{k:κ}: ∀{m:List (κ×ν)}{es:List MapEntry}{i j:Nat}{u:Value},es.map (λe=>(e.key,e.val))=m.map (λp=>(eK p.1,eV p.2))->fnd k (m.map (·.1)) es i=some (j,u)->
  i<=j/\(es.eraseIdx (j-i)).map (λe=>(e.key,e.val)) =(mdel m k).map (λp=>(eK p.1,eV p.2))
 | [],[],i,j,u,_,hf=>by simp[fnd] at hf
 |(a,b)::m,e::es,i,j,u,h,hf=>by
  simp only[w0e,w28,w0f] at h;simp only[w0e,fnd] at hf;unfold mdel;cases hk:k==a with
  |true=>rw[hk] at hf;simp only[cond_true,w00,w0f] at hf;obtain⟨rfl,rfl⟩:=hf;simp[h.2]
  |false=>
   rw[hk] at hf;obtain⟨h1,h2⟩:=y3n h.2 hf;have e1:j-i =(j-(i+1))+1:=by omega
   refine⟨by omega,?_⟩;rw[e1];simp[h2,h.1.1,h.1.2]
 | [],_::_,_,_,_,h,_=>by simp at h
 |_::_,[],_,_,_,h,_=>by simp at h
variable{P:Program}{C:Cx P}{s:St}{dst:Option Tmp}{ty:TypeId}{pos:String}{after:Array Edge}{guard:Option (Nat×Bool)}{K:VP->List HP->Prop}
theorem OpT.storeBV[Dr]{o:Oper}(i:Nat)(H:HP)(x:VP)(hi:i<s.objs.length)
  (hr:∀a r S w,WInv C.w0 C.base s.objs r S w->ze s.slots a r w->∃b ob v,S i b/\(execOp a.eval o).run P w = .ok (.value v) (setB w b ob)/\H.h (S i) r (setB w b ob)/\∀w',x.h r w' v)
  (k:K x (s.objs.set i H)):OpT C o s K:=by
 intro a w r S Q hd hn hw hs;obtain⟨b,ob,v,hS,hrun,hH,hx⟩:=hr a r S w hw hs;unfold Oper.wp;rw[hrun,Oper.upon_value];have hblk:∀b',b'<w.heap.size->¬S i b'->(setB w b ob).heap[b']? = w.heap[b']?:=λb' _ hb'=>z1e w b b' ob (λe=>hb' (e ▸ hS))
 exact⟨v,r,_,x,_,rfl,hw.evo_repl i hblk,hw.repl i H (S i) hi rfl ⟨rfl,w0s _⟩ rfl (by simp[setB]) hblk (λb' hb'=>by obtain⟨h1,h2,h3,h4⟩:=hw.own i b' hb';exact⟨h2,by simpa[setB] using h3,h4,λj hj hS'=>hj (hw.apart j i b' hS' hb')⟩) hH,hx _,k⟩
end map
def beqA(n:Nat)(f g:Nat->Int):Bool:=(List.range n).all λi=>f i==g i
def arrV(q:IntKind)(n:Nat)(f:Nat->Int):Value:=.agg ((List.range n).map λj=>Value.int q (f j)).toArray
section keyA
variable{P:Program}{kt e:TypeId}{n:Nat}{q:IntKind}
theorem ydz{w:World}(hE:z3s P e=some (false,1))(f:Nat->Int){j:Nat}(hj:j<n):(part e ((List.range n).map λj=>Value.int q (f j)).toArray (j*1)).run P w = .ok (.int q (f j)) w:=zjx w hE (by simp[hj])
theorem yf1(hu:P.underlying kt=some (.array n e))(he:P.underlying e=some (.int q))(hE:z3s P e=some (false,1))(w:World)(b:Bool)(f:Nat->Int):(Instr.checkKey b 10000 kt (arrV q n f)).run P w = .ok () w:=by
 show (Instr.checkKey b (9999+1) kt (arrV q n f)).run P w=_;unfold arrV;rw[Instr.checkKey];simp only[w06,run_underlying hu,w05];simp only[Std.Legacy.Range.forIn_eq_forIn_range',Std.Legacy.Range.size,w39,Nat.add_one_sub_one,Nat.div_one,<- w3q];have key:∀(l:List Nat),(∀j∈l,j<n)->(forIn (m:=Sem) l PUnit.unit λi r=>do
   let __do_lift <- sizeOf e
   let __do_lift <- part e ((List.range n).map λj=>Value.int q (f j)).toArray (i*__do_lift)
   Instr.checkKey b 9999 e __do_lift
   pure (ForInStep.yield PUnit.unit)).run P w = .ok PUnit.unit w:=by
  intro l hl
  induction l with
  |nil=>simp
  |cons j l ih=>
   have hc :(Instr.checkKey b 9999 e (.int q (f j))).run P w = .ok () w:=by show (Instr.checkKey b (9998+1) e (.int q (f j))).run P w=_;rw[Instr.checkKey];simp[run_underlying he]
   simp only[List.forIn_cons,w06,z6q w hE,w05,ydz hE f (hl j (w0l ..)),hc,w0j];exact ih λk hk=>hl k (w0h _ hk)
 rw[key (List.range n) (λj hj=>by simpa using hj)];rfl
theorem yf8(hu:P.underlying kt=some (.array n e))(he:P.underlying e=some (.int q))(hE:z3s P e=some (false,1))(w:World)(f g:Nat->Int):(Op.equal kt (arrV q n f) (arrV q n g)).run P w = .ok (beqA n f g) w:=by
 obtain⟨d,i,hd,hi,hs,hb⟩:=zib hE;show (Op.equalIn (9999+1) kt (arrV q n f) (arrV q n g)).run P w=_;unfold arrV beqA;rw[run_equalIn_array w 9999 _ _ hu hi];have hc:P.cellsOf e=1:=by simp[Program.cellsOf,hi,hs]
 rw[hc];have key:∀(l:List Nat),(∀j∈l,j<n)->(Op.eqItems 9999 e 1 ((List.range n).map λj=>Value.int q (f j)).toArray ((List.range n).map λj=>Value.int q (g j)).toArray l).run P w = .ok (l.all λi=>f i==g i) w:=by
  intro l hl
  induction l with
  |nil=>simp[Op.eqItems]
  |cons j l ih=>
   have hj:=hl j (w0l ..);simp only[Op.eqItems,w06,ydz hE f hj,ydz hE g hj,w05,run_equalIn_int w 9998 e _ _ _ _ he,w1b];cases hx :(f j==g j) with
   |false=>simp
   |true=>simpa using ih λk hk=>hl k (w0h _ hk)
 exact key _ λj hj=>by simpa using hj
end keyA
end Px
end
section
namespace Px
open Go Go.RowKit
def prtp(sv:Value)(lo hi sz:Nat):VP:=⟨λ_ _ v=>(sv = .slice none 0 0/\lo=0/\hi=0/\v = .slice none 0 0)\/∃g n cap a,sv = .slice (some ⟨g,0,none⟩) n cap/\lo<=hi/\hi<=n/\v = .slice a (hi-lo) (cap-lo)/\(lo<hi\/lo=0->a=some ⟨g,lo*sz,none⟩),λ_ _ h=>h⟩
def Prt[Dr]{P:Program}(C:Cx P)(s:St)(x:Operand)(sv:Value)(lo hi sz:Nat):Prop:=∀a r S w,WInv C.w0 C.base s.objs r S w->ze s.slots a r w->(prtp sv lo hi sz).h r w (a.eval x)
theorem Prt.ev[Dr]{P:Program}{C:Cx P}{s:St}{x:Operand}{sv:Value}{lo hi sz:Nat}(h:Ev s x (prtp sv lo hi sz)):Prt C s x sv lo hi sz:=λa r S w _ hs=>h a r w hs
theorem Prt.own[Dr]{P:Program}{C:Cx P}{s:St}{x:Operand}{α:Type}{E:TypeId}{e:α->List VP}{sz:Nat}{l:List α}{sv:Value}(i:Nat)(h:Ev s x (eqv sv))(ho:s.objs[i]? = some (row E e sz l sv)):Prt C s x sv 0 l.length sz:=λa r S w hw hs=>by
 have hx:=h a r w hs;simp only[eqv] at hx;rcases hw.obj i _ ho with⟨hn,rfl⟩|⟨g,cap,cur,hv,_⟩
 .exact .inl ⟨hn,rfl,rfl,by rw[hx,hn]⟩
 .exact .inr ⟨g,_,cap,some ⟨g,0,none⟩,hv,w2p _,w0s _,by rw[hx,hv];rfl,λ_=>by simp⟩
theorem zcj{α:Type}{e:α->List VP}{sz:Nat}(he:∀x,(e x).length=sz):∀(l:List α)(n:Nat),(l.take n).flatMap e =(l.flatMap e).take (n*sz)
 | [],n=>by simp
 |x::l,0=>by simp
 |x::l,n+1=>by have:=he x;rw[List.take_succ_cons,w0w,w0w,zcj he l n,w16,w46,w4y,<- this,w3n]
theorem zg5{α:Type}{e:α->List VP}{sz:Nat}(he:∀x,(e x).length=sz):∀(l:List α)(n:Nat),(l.drop n).flatMap e =(l.flatMap e).drop (n*sz)
 | [],n=>by simp
 |x::l,0=>by simp
 |x::l,n+1=>by have:=he x;rw[List.drop_succ_cons,w0w,zg5 he l n,w16,w46,w4y,<- this,w38]
theorem zl.takeN{r:Nat->Prop}{w:World}{cs:List VP}{vs:List Value}(h:zl r w cs vs)(n:Nat):zl r w (cs.take n) (vs.take n):=by
 refine⟨by simp[h.1],λj A hj=>?_⟩;rw[w0r] at hj⊢;split at hj
 .rename_i c;rw[if_pos c];exact h.2 j A hj
 .cases hj
theorem zl.dropN{r:Nat->Prop}{w:World}{cs:List VP}{vs:List Value}(h:zl r w cs vs)(n:Nat):zl r w (cs.drop n) (vs.drop n):=by refine⟨by simp[h.1],λj A hj=>?_⟩;rw[w1l] at hj⊢;exact h.2 _ A hj
theorem Src.prt[Dr]{P:Program}{C:Cx P}{s:St}{x:Operand}{α:Type}(i:Nat){E:TypeId}{e:α->List VP}{sz:Nat}{l:List α}{sv:Value}{lo hi:Nat}(he:∀x,(e x).length=sz)(h:Ev s x (prtp sv lo hi sz))(ho:s.objs[i]? = some (Px.row E e sz l sv)):
  Src C s x (z5v l lo hi).length ((z5v l lo hi).flatMap e):=λa r S w hw hs=>by
 rcases h a r w hs with⟨hn,rfl,rfl,hx⟩|⟨g,n,cap,a',hv,h1,h2,hx,ha⟩
 .exact .inl ⟨⟨none,0,hx⟩,by simp[z5v],by simp[z5v]⟩
 .rcases hw.obj i _ ho with⟨hn,rfl⟩|⟨g2,cap2,cur,hv',hS,hcur,hl,hm,hsz,hh⟩
  .rw[hv] at hn;cases hn
  .rw[hv] at hv';simp only[Value.slice.injEq,w00,Addr.mk.injEq] at hv';obtain⟨⟨rfl,_⟩,rfl,rfl⟩:=hv';by_cases hlt:lo<hi
   .have e0:=ha (.inl hlt);subst e0;have hp:=zha (l:=l) h1 h2;refine .inr ⟨g,lo*sz,cap-lo,((cur.toList.take (l.length*sz)).take (hi*sz)).drop (lo*sz),by rw[hp];exact hx,?_,λj u hj=>?_⟩
    .rw[z5v,zg5 he,zcj he];exact(hh.takeN _).dropN _
    .rw[cell_of_row w g _ cur E (0,0) hcur];rw[w1l,w0r] at hj;split at hj
     .rw[w0r] at hj;split at hj
      .simpa using hj
      .cases hj
     .cases hj
   .have:hi-lo=0:=by omega
    refine .inl ⟨⟨a',cap-lo,by rw[hx,this]⟩,?_,?_⟩
    .rw[zha h1 h2];exact this
    .have:z5v l lo hi = []:=w17 (by rw[zha h1 h2];exact this);rw[this];rfl
def cpy{α:Type}(l:List α)(lo n:Nat)(m:List α):List α:=l.take lo++m.take (min m.length n)++l.drop (lo+min m.length n)
theorem zwv{α:Type}{l:List α}{lo n:Nat}{m:List α}(h:lo+n<=l.length):(cpy l lo n m).length=l.length:=by simp[cpy];omega
theorem ya8{P:Program}{w:World}{r:Nat->Prop}{Si:Nat->Prop}{α:Type}{E t t' ty:TypeId}{e:α->List VP}{sz by':Nat}{l m:List α}{sv xv yv:Value}{lo hi:Nat}(ht:tsl P t=some (E,sz,by'))
  (he:∀x,(e x).length=sz) (hrow :(row E e sz l sv).h Si r w) (hro:∀b,r b->b<w.heap.size/\¬Si b) (hx :(prtp sv lo hi sz).h r w xv)
  (hsrc :((∃a' c',yv = .slice a' 0 c')/\m.length=0/\m.flatMap e = [])\/∃b o c vs,yv = .slice (some ⟨b,o,none⟩) m.length c/\zl r w (m.flatMap e) vs/\∀j u,vs[j]? = some u->w.cell? ⟨b,o+j,none⟩=some u) :
  ∃w',(Builtin.copy_ #[t,t'] ty #[xv,yv]).run P w = .ok (.int .i64 ((min m.length (hi-lo):Nat):Int)) w'/\w'.os=w.os/\(w'.tape=w.tape/\w.drawn<=w'.drawn)/\w'.output=w.output/\w.heap.size<=w'.heap.size/\
   (∀b,b<w.heap.size->¬Si b->w'.heap[b]? = w.heap[b]?)/\(row E e sz (cpy l lo (hi-lo) m) sv).h Si r w':=by
 obtain⟨i,z,hu,hi',hz,rfl,rfl,hzs,hpos⟩:=zcb ht;have idle:min m.length (hi-lo)=0->cpy l lo (hi-lo) m=l:=λh0=>by simp[cpy,h0]
 have hdst:∃a cap,xv = .slice a (hi-lo) cap:=by
  rcases hx with⟨_,rfl,rfl,hx⟩|⟨g,n,cap,a,_,_,_,hx,_⟩
  .exact⟨_,_,hx⟩
  .exact⟨_,_,hx⟩
 rcases hsrc with⟨⟨a',c',rfl⟩,hm0,_⟩|⟨b,o,c,vs,rfl,hvs,hcell⟩
 .obtain⟨a,cap,rfl⟩:=hdst;refine⟨w,?_,rfl,⟨rfl,w0s _⟩,rfl,w0s _,λ_ _ _=>rfl,by rw[idle (by omega)];exact hrow⟩;cases a<;>cases a'<;>simp[Builtin.copy_,run_underlying hu,Go.sizeOf,typeInfo,hi',Builtin.lenOf,Builtin.firstCells,hm0,loadCells,loadCellsFrom,storeCells,goInt]
 .have hvl:vs.length=m.length*i.size:=by rw[<- hvs.1,z1c he]
  have hcell':∀j u,(vs.take (min m.length (hi-lo)*i.size))[j]? = some u->w.cell? ((⟨b,o,none⟩:Addr).add j)=some u:=λj u hj=>by
   rw[Addr.add_lit];rw[w0r] at hj;split at hj
   .exact hcell j u hj
   .cases hj
  have hle:min m.length (hi-lo)*i.size<=m.length*i.size:=w13 _ (Nat.min_le_left _ _);have htl :(vs.take (min m.length (hi-lo)*i.size)).length=min m.length (hi-lo)*i.size:=by rw[w1f];omega
  have hld:=run_loadCells_list (P:=P) w ⟨b,o,none⟩ (vs.take (min m.length (hi-lo)*i.size)) hcell';rw[htl] at hld;rcases hx with⟨hn,rfl,rfl,rfl⟩|⟨g,n,cap,a,hv,h1,h2,rfl,ha⟩
  .refine⟨w,?_,rfl,⟨rfl,w0s _⟩,rfl,w0s _,λ_ _ _=>rfl,by rw[idle (by omega)];exact hrow⟩;simp[Builtin.copy_,run_underlying hu,Go.sizeOf,typeInfo,hi',Builtin.lenOf,Builtin.firstCells,loadCells,loadCellsFrom,storeCells,goInt]
  .rcases hrow with⟨hn,rfl⟩|⟨g2,cap2,cur,hv',hS,hcur,hl,hm,hsz,hh⟩
   .rw[hv] at hn;cases hn
   .have hv0:=hv';rw[hv] at hv';simp only[Value.slice.injEq,w00,Addr.mk.injEq] at hv';obtain⟨⟨rfl,_⟩,rfl,rfl⟩:=hv';by_cases hlt:lo<hi
    .have e0:=ha (.inl hlt);subst e0;have hq :(lo+min m.length (hi-lo))*i.size<=l.length*i.size:=w13 _ (by omega);have hq2:l.length*i.size<=cap*i.size:=w13 _ hl;have hst:=run_storeCells_at P g (lo*i.size) E (vs.take (min m.length (hi-lo)*i.size)) 0 cur w hcur (by rw[htl];rw[w16] at hq;omega) (λu hu=>(hvs.takeN _).one u hu);simp only[w3y] at hst;refine⟨w.setRow g (cur.toList.take (lo*i.size)++vs.take (min m.length (hi-lo)*i.size)++cur.toList.drop (lo*i.size+(vs.take (min m.length (hi-lo)*i.size)).length)).toArray,?_,rfl,⟨rfl,w0s _⟩,rfl,by simp,λb' hb' hb2=>setRow_other w g b' _ (λe=>hb2 (e ▸ hS)),.inr ⟨g,cap,_,?_,hS,setRow_heap w g cur _ E (0,0) hcur,?_,hm,?_,?_⟩⟩
     .simp[Builtin.copy_,run_underlying hu,Go.sizeOf,typeInfo,hi',Builtin.lenOf,Builtin.firstCells,goInt,hld,hst]
     .rw[zwv (by omega)];exact hv0
     .rw[zwv (by omega)];exact hl
     .simp only[List.size_toArray,w0d,w1f,w3p,w1y];rw[w16] at hq;omega
     .have hfl:=z1c he l;rw[w16] at hq;have hq3 :(m.flatMap e).length=m.length*i.size:=z1c he m;have hlen :((m.flatMap e).take (min m.length (hi-lo)*i.size)).length=min m.length (hi-lo)*i.size:=by rw[w1f];omega
      have hcpl :(cpy l lo (hi-lo) m).length=l.length:=zwv (by omega);have e2 :(cpy l lo (hi-lo) m).flatMap e =(l.flatMap e).take (lo*i.size)++(m.flatMap e).take (min m.length (hi-lo)*i.size)++(l.flatMap e).drop (lo*i.size+min m.length (hi-lo)*i.size):=by rw[cpy,w35,w35,zcj he,zcj he,zg5 he,w16]
      have this:=zl.splice hh (hvs.takeN (min m.length (hi-lo)*i.size)) (lo*i.size) (by rw[hlen,hfl];omega);rw[hlen,htl] at this;rw[e2,hcpl,htl];clear e2 hcpl hst hld;generalize min m.length (hi-lo)*i.size=q at *;generalize lo*i.size=p at *;have e3 :(cur.toList.take p++vs.take q++cur.toList.drop (p+q)).toArray.toList.take (l.length*i.size) =
        (cur.toList.take (l.length*i.size)).take p++vs.take q++(cur.toList.take (l.length*i.size)).drop (p+q):=by
       rw[w2v,w4p,w4c (by omega),List.drop_take,w36,w36];have l1 :(List.take p cur.toList).length=p:=by rw[w1f];simp only[w1y];omega
       rw[w0d,l1,htl];rw[w24 (l:=List.take p cur.toList) (by rw[l1];omega),w24 (l:=vs.take q) (by rw[htl];omega)]
      rw[e3];exact this.mono (λ_ h=>h) (λk hk=>setRow_other w g k _ (λe=>(hro k hk).2 (e ▸ hS)))
    .have h0:min m.length (hi-lo)=0:=by omega
     refine⟨w,?_,rfl,⟨rfl,w0s _⟩,rfl,w0s _,λ_ _ _=>rfl,by rw[idle h0];exact .inr ⟨g,cap,cur,hv0,hS,hcur,hl,hm,hsz,hh⟩⟩;have h3:hi-lo=0:=by omega
     cases a<;>simp[Builtin.copy_,run_underlying hu,Go.sizeOf,typeInfo,hi',Builtin.lenOf,Builtin.firstCells,h3,loadCells,loadCellsFrom,storeCells,goInt]
section ops
variable{P:Program}{C:Cx P}{s:St}{dst:Option Tmp}{ty:TypeId}{pos:String}{after:Array Edge}{guard:Option (Nat×Bool)}{K:VP->List HP->Prop}
theorem y3g{a:Act}{x y:Operand}{t t':TypeId}{w w':World}{v:Value}(hr :(Builtin.copy_ #[t,t'] ty #[a.eval x,a.eval y]).run P w = .ok v w'):
  (execOp a.eval ⟨dst,.call { callee:=.builtin .copy,args:=#[x,y],argTypes:=#[t,t'] },ty,pos,after,guard⟩).run P w = .ok (.value v) w':=by
 simp[execOp,resolve,invoke,builtin,hr]
theorem yg2[Dr]{α:Type}(i:Nat){t t' E:TypeId}{e:α->List VP}{sz by':Nat}{l m:List α}{sv:Value}{x y:Operand}{lo hi:Nat}(ht:tsl P t=some (E,sz,by'))(he:∀x,(e x).length=sz)
  (hx:Prt C s x sv lo hi sz) (ho:s.objs[i]? = some (row E e sz l sv)) (hy:Src C s y m.length (m.flatMap e))
  (k:K (iv .i64 ((min m.length (hi-lo):Nat):Int)) (s.objs.set i (row E e sz (cpy l lo (hi-lo) m) sv))):OpT C ⟨dst,.call { callee:=.builtin .copy,args:=#[x,y],argTypes:=#[t,t'] },ty,pos,after,guard⟩ s K:=by
 intro a w r S Q hd hn hw hs;have hi':=(w02.1 ho).1;obtain⟨w',hr,h1,h2,h3,h4,h5,h7⟩:=ya8 (w:=w) (r:=r) (Si:=S i) (ty:=ty) (t':=t') ht he (hw.obj i _ ho) (λb hb=>⟨hw.old b hb,λhS=>(hw.own i b hS).2.2.2 hb⟩) (hx a r S w hw hs) (hy a r S w hw hs);unfold Oper.wp;rw[y3g hr,Oper.upon_value];refine⟨_,r,_,_,_,rfl,hw.evo_repl i h5,hw.repl i _ (S i) hi' h1 h2 h3 h4 h5 (λb hS=>?_) h7,rfl,k⟩;obtain⟨q1,q2,q3,q4⟩:=hw.own i b hS;exact⟨q2,w2g q3 h4,q4,λj hj hSj=>hj (hw.apart j i b hSj hS)⟩
theorem y9r[Dr]{t:TypeId}{x:Operand}{lo hi:Option Operand}{sz:Nat}(ht:tidx P t=some (false,0,sz))(h:Ev s x (eqv (.slice none 0 0)))(hlo:BdE s lo 0 0)(hhi:BdE s hi 0 0):OpQ C ⟨dst,.slice t x lo hi none,ty,pos,after,guard⟩ s (eqv (.slice none 0 0)):=
 .val λa r w hs=>by
  have h3:=h a r w hs;simp only[eqv] at h3;have q1:lo.map a.eval=none/\0=0\/∃k,lo.map a.eval=some (.int k ((0:Nat):Int)):=by
   cases lo with
   |none=>exact .inl ⟨rfl,rfl⟩
   |some o=>obtain⟨k,hk⟩:=hlo;exact .inr ⟨k,congrArg some (hk a r w hs)⟩
  have q2:hi.map a.eval=none/\0=0\/∃k,hi.map a.eval=some (.int k ((0:Nat):Int)):=by
   cases hi with
   |none=>exact .inl ⟨rfl,rfl⟩
   |some o=>obtain⟨k,hk⟩:=hhi;exact .inr ⟨k,congrArg some (hk a r w hs)⟩
  exact⟨.slice none 0 0,by simp only[execOp,h3,w2t,w06,zjy (w:=w) (a:=none) (len:=0) (cap:=0) (lo:=0) (hi:=0) ht q1 q2 (w0s _) (w0s _)];rfl,rfl⟩
theorem y9s[Dr]{α:Type}{E:TypeId}{e:α->List VP}{sz:Nat}{l:List α}{sv:Value}(j:Nat){t:TypeId}{x:Operand}{lo hi:Option Operand}{m n:Nat}(ht:tidx P t=some (false,0,sz))(h:Ev s x (eqv sv))(ho:s.objs[j]? = some (row E e sz l sv))
  (hlo:BdE s lo m 0) (hhi:BdE s hi n l.length) (h1:m<=n) (h2:n<=l.length):OpQ C ⟨dst,.slice t x lo hi none,ty,pos,after,guard⟩ s (prtp sv m n sz):=
 .valO λa r S w hw hs=>by
  have h3:=h a r w hs;simp only[eqv] at h3;have q1:lo.map a.eval=none/\m=0\/∃k,lo.map a.eval=some (.int k (m:Int)):=by
   cases lo with
   |none=>exact .inl ⟨rfl,hlo⟩
   |some o=>obtain⟨k,hk⟩:=hlo;exact .inr ⟨k,congrArg some (hk a r w hs)⟩
  have q2:hi.map a.eval=none/\n=l.length\/∃k,hi.map a.eval=some (.int k (n:Int)):=by
   cases hi with
   |none=>exact .inl ⟨rfl,hhi⟩
   |some o=>obtain⟨k,hk⟩:=hhi;exact .inr ⟨k,congrArg some (hk a r w hs)⟩
  rcases hw.obj j _ ho with⟨hn,rfl⟩|⟨g,cap,cur,hv,hS,hcur,hl,hm,hsz,hh⟩
  .simp only[w1u,Nat.le_zero_eq] at h2;subst h2;have:m=0:=by omega
   subst this;exact⟨.slice none 0 0,by simp only[execOp,h3,hn,w2t,w06,zjy (w:=w) (a:=none) (len:=0) (cap:=0) ht q1 q2 (w0s _) (w0s _)];rfl,.inl ⟨hn,rfl,rfl,rfl⟩⟩
  .refine⟨_,by simp only[execOp,h3,hv,w2t,w06,zjy (w:=w) (a:=some ⟨g,0,none⟩) (len:=l.length) (cap:=cap) ht q1 q2 h1 (by omega)];rfl,.inr ⟨g,_,cap,_,hv,h1,h2,rfl,λhlt=>?_⟩⟩;by_cases hc:cap=m
   .rcases hlt with q|q
    .exact absurd hc (by omega)
    .rw[if_pos hc,q];simp
   .rw[if_neg hc];simp[Addr.add_lit]
theorem y5m[Dr]{α:Type}{t E:TypeId}{e:α->List VP}{sz by' n:Nat}{parts:Array (Nat×Operand)}(l:List α)(ht:tsl P t=some (E,sz,by'))(he:∀x,(e x).length=sz)
  (hl:l.length=n) (hbig:n*sz<=16777216) (hp:y27 s e 0 parts.toList l):OpQ C ⟨dst,.buildSlice t n parts,ty,pos,after,guard⟩ s (ro e sz l):=by
 intro a w r S Q hd hn hw hs;refine Oper.wp_mono ?_ (zm5 (K:=λx objs=>∃v',x=eqv v'/\objs=s.objs++[row E e sz l v']) l ht he hl hbig hp (λv'=>⟨v',rfl,rfl⟩) a w r S Q hd hn hw hs);rintro a' w' ⟨v,ro',S',x,objs',ha,ev,hw',hx,v',rfl,rfl⟩;have hx:v=v':=hx;subst hx;have hlast :(s.objs++[row E e sz l v])[s.objs.length]? = some (row E e sz l v):=by simp
 refine⟨v,λb=>ro' b\/S' s.objs.length b,λj b=>j<s.objs.length/\S' j b,ro e sz l,s.objs,ha,⟨λb hb=>.inl (ev.1 b hb),ev.2.1,λb hb=>?_⟩,⟨hw'.below,hw'.size,?_,?_,?_,?_⟩,zrl he (hw'.obj _ _ hlast),rfl,rfl⟩
 .rcases hb with q|q
  .exact ev.2.2 b q
  .exact .inr (hw'.own _ b q).2.1
 .intro j H hj;have hlt:=(w02.1 hj).1;have :(λb=>j<s.objs.length/\S' j b)=S' j:=by funext b;exact propext ⟨λh=>h.2,λh=>⟨hlt,h⟩⟩
  rw[this];exact H.mono (λb hb=>.inl hb) (λ_ _=>rfl) (λ_ _=>rfl) (hw'.obj j H (by rw[w0n hlt];exact hj))
 .rintro j b ⟨hlt,hb⟩;obtain⟨_,h2,h3,h4⟩:=hw'.own j b hb;refine⟨hlt,h2,h3,?_⟩;rintro(q|q)
  .exact h4 q
  .have:=hw'.apart j _ b hb q;omega
 .rintro j k b ⟨_,hb⟩ ⟨_,hb'⟩;exact hw'.apart j k b hb hb'
 .rintro b (q|q)
  .exact hw'.old b q
  .exact(hw'.own _ b q).2.2.1
end ops
end Px
end
section
namespace Px
open Go
set_option linter.unusedSectionVars false
def ltI:List Int->List Int->Bool
 | [],[]=>false
 | [],_::_=>true
 |_::_,[]=>false
 |a::l,b::m=>bif decide (a<b) then true else bif a==b then ltI l m else false
theorem zoy:∀l:List Int,ltI l l=false
 | []=>rfl
 |a::l=>by simp[ltI,zoy l]
theorem zzo:∀{a b c:List Int},ltI a b=true->ltI b c=true->ltI a c=true
 | [],[],_,h,_=>by cases h
 | [],_::_,[],_,h=>by cases h
 | [],_::_,_::_,_,_=>rfl
 |_::_,[],_,h,_=>by cases h
 |_::_,_::_,[],_,h=>by cases h
 |a::l,b::m,c::n,h,k=>by
  unfold ltI at h k⊢;by_cases h1:a<b
  .by_cases h2:b<c
   .have:a<c:=by omega
    simp[this]
   .simp only[h2,decide_false,cond_false] at k;by_cases h3:b=c
    .subst h3;simp[h1]
    .simp[h3] at k
  .simp only[h1,decide_false,cond_false] at h;by_cases h3:a=b
   .subst h3;simp only[beq_self_eq_true,cond_true] at h;by_cases h2:a<c
    .simp[h2]
    .simp only[h2,decide_false,cond_false] at k⊢;by_cases h4:a=c
     .subst h4;simp only[beq_self_eq_true,cond_true] at k⊢;exact zzo h k
     .simp[h4] at k
   .simp[h3] at h
theorem y4r:∀(a b:List Int),ltI a b=true\/a=b\/ltI b a=true
 | [],[]=>.inr (.inl rfl)
 | [],_::_=>.inl rfl
 |_::_,[]=>.inr (.inr rfl)
 |a::l,b::m=>by
  unfold ltI;by_cases h1:a<b
  .left;simp[h1]
  .by_cases h2:b<a
   .right;right;simp[h2]
   .have:a=b:=by omega
    subst this;rcases y4r l m with h|h|h
    .left;simp[h]
    .right;left;rw[h]
    .right;right;simp[h]
section
variable{κ ν:Type}(e:κ->List Int)
def cget:List (κ×ν)->κ->Option ν
 | [],_=>none
 |(a,b)::m,k=>bif e k==e a then some b else cget m k
def cset:List (κ×ν)->κ->ν->List (κ×ν)
 | [],k,v=>[(k,v)]
 |(a,b)::m,k,v=>bif e k==e a then(k,v)::m else bif ltI (e k) (e a) then(k,v)::(a,b)::m else(a,b)::cset m k v
def cdel:List (κ×ν)->κ->List (κ×ν)
 | [],_=>[]
 |(a,b)::m,k=>bif e k==e a then m else(a,b)::cdel m k
def Srt'(m:List (κ×ν)):Prop:=m.Pairwise λp q=>ltI (e p.1) (e q.1)=true
def Ndp(m:List (κ×ν)):Prop:=m.Pairwise λp q=>e p.1≠e q.1
variable{e}
theorem Srt'.ndp{m:List (κ×ν)}(h:Srt' e m):Ndp e m:=List.Pairwise.imp (λ{a b}h q=>by rw[q,zoy] at h;cases h) h
theorem Ndp.perm{m m':List (κ×ν)}(h:Ndp e m)(p:m.Perm m'):Ndp e m':=(p.pairwise_iff (λ{a b}h q=>h q.symm)).1 h
theorem zuc{m:List (κ×ν)}{k:κ}: cget e m k=none↔∀p∈m,e k≠e p.1:=by
 induction m with
 |nil=>simp[cget]
 |cons p m ih=>
  obtain⟨a,b⟩:=p;unfold cget;by_cases h:e k=e a
  .simp[h]
  .have :(e k==e a)=false:=by simpa using h
   simp only[this,cond_false,ih];simp[h]
theorem zab{m:List (κ×ν)}{k:κ}{v:ν}(h:cget e m k=some v):∃a,(a,v)∈m/\e k=e a:=by
 induction m with
 |nil=>cases h
 |cons p m ih=>
  obtain⟨a,b⟩:=p;unfold cget at h;by_cases c:e k=e a
  .simp only[c,beq_self_eq_true,cond_true,w00] at h;subst h;exact⟨a,by simp,c⟩
  .have :(e k==e a)=false:=by simpa using c
   rw[this] at h;obtain⟨a',h1,h2⟩:=ih h;exact⟨a',by simp[h1],h2⟩
theorem znt{m:List (κ×ν)}(hn:Ndp e m){k a:κ}{v:ν}(hm :(a,v)∈m)(hk:e k=e a):cget e m k=some v:=by
 induction m with
 |nil=>cases hm
 |cons p m ih=>
  obtain⟨a',b⟩:=p;obtain⟨h1,h2⟩:=w0o.1 hn;unfold cget;rcases w08.1 hm with q|q
  .cases q;simp[hk]
  .have:=h1 _ q
   have :(e k==e a')=false:=by simp only[beq_eq_false_iff_ne,ne_eq];intro c;exact this (c ▸ hk ▸ rfl)
   rw[this];exact ih h2 q
theorem zik{m m':List (κ×ν)}(hn:Ndp e m)(p:m.Perm m')(k:κ):cget e m k=cget e m' k:=by
 cases h:cget e m' k with
 |none=>rw[zuc] at h⊢;exact λq hq=>h q (p.mem_iff.1 hq)
 |some v=>obtain⟨a,h1,h2⟩:=zab h;exact znt hn (p.mem_iff.2 h1) h2
theorem y2q{m:List (κ×ν)}{k k':κ}(h:e k=e k'):cget e m k=cget e m k':=by
 induction m with
 |nil=>rfl
 |cons p m ih=>obtain⟨a,b⟩:=p;unfold cget;rw[h,ih]
theorem zat{m:List (κ×ν)}(hn:Ndp e m)(k:κ):cdel e m k=m.filter λp=>!(e k==e p.1):=by
 induction m with
 |nil=>rfl
 |cons p m ih=>
  obtain⟨a,b⟩:=p;obtain⟨h1,h2⟩:=w0o.1 hn;unfold cdel;by_cases c:e k=e a
  .simp only[c,beq_self_eq_true,cond_true,w2o,w1o,w0q,if_false];refine(w3i.2 λq hq=>?_).symm;have:=h1 q hq;simpa using this
  .have :(e k==e a)=false:=by simpa using c
   simp only[this,cond_false,w1o,w3f,if_true,ih h2]
theorem zn7(m:List (κ×ν))(k:κ):(cdel e m k).Sublist m:=by
 induction m with
 |nil=>exact List.Sublist.slnil
 |cons p m ih=>
  obtain⟨a,b⟩:=p;unfold cdel;cases e k==e a with
  |true=>exact List.sublist_cons_self _ _
  |false=>exact ih.cons_cons _
theorem Srt'.del{m:List (κ×ν)}(h:Srt' e m)(k:κ):Srt' e (cdel e m k):=h.sublist (zn7 m k)
theorem zim{m:List (κ×ν)}(h:Srt' e m)(k:κ)(v:ν):(cset e m k v).Perm ((k,v)::cdel e m k):=by
 induction m with
 |nil=>exact List.Perm.refl _
 |cons p m ih=>
  obtain⟨a,b⟩:=p;obtain⟨h1,h2⟩:=w0o.1 h;unfold cset cdel;cases hk:e k==e a with
  |true=>exact List.Perm.refl _
  |false=>
   simp only[cond_false];cases hl:ltI (e k) (e a) with
   |true=>
    have:cdel e m k=m:=by
     rw[zat (Srt'.ndp h2)];refine w3i.2 λq hq=>?_
     have h3:=zzo hl (h1 q hq);simp only[w0z,beq_eq_false_iff_ne,ne_eq];intro c;rw[c,zoy] at h3;cases h3
    rw[this];exact List.Perm.refl _
   |false=>exact((ih h2).cons _).trans (List.Perm.swap _ _ _)
theorem z2z{m:List (κ×ν)}(h:Srt' e m){k:κ}{v:ν}{p:κ×ν}: p∈cset e m k v↔p =(k,v)\/(p∈m/\e k≠e p.1):=by rw[(zim h k v).mem_iff,w08,zat h.ndp,w0i];simp
theorem Srt'.set{m:List (κ×ν)}(h:Srt' e m)(k:κ)(v:ν):Srt' e (cset e m k v):=by
 induction m with
 |nil=>exact w2r _ _
 |cons p m ih=>
  obtain⟨a,b⟩:=p;obtain⟨h1,h2⟩:=w0o.1 h;unfold cset;by_cases hk:e k=e a
  .simp only[hk,beq_self_eq_true,cond_true];exact w0o.2 ⟨λq hq=>by rw[hk];exact h1 q hq,h2⟩
  .have hk' :(e k==e a)=false:=by simpa using hk
   simp only[hk',cond_false];cases hl:ltI (e k) (e a) with
   |true=>exact w0o.2 ⟨λq hq=>(w08.1 hq).elim (λc=>by rw[c];exact hl) λc=>zzo hl (h1 q c),h⟩
   |false=>
    refine w0o.2 ⟨λq hq=>?_,ih h2⟩;rcases(z2z h2).1 hq with rfl|⟨hq,_⟩
    .rcases y4r (e a) (e k) with c|c|c
     .exact c
     .exact absurd c.symm hk
     .rw[hl] at c;cases c
    .exact h1 q hq
theorem zs2{m:List (κ×ν)}(h:Srt' e m)(k k':κ)(v:ν):cget e (cset e m k v) k'=bif e k'==e k then some v else cget e m k':=by
 by_cases c:e k'=e k
 .have :(e k'==e k)=true:=by simpa using c
  rw[this];exact znt (h.set k v).ndp ((z2z h).2 (.inl rfl)) c
 .have c' :(e k'==e k)=false:=by simpa using c
  rw[c'];simp only[cond_false];cases hg:cget e m k' with
  |none=>
   rw[zuc] at hg⊢;intro p hp;rcases(z2z h).1 hp with rfl|⟨hp,_⟩
   .exact c
   .exact hg p hp
  |some u=>obtain⟨a,h1,h2⟩:=zab hg;exact znt (h.set k v).ndp ((z2z h).2 (.inr ⟨h1,λq=>c (h2.trans q.symm)⟩)) h2
theorem zs6{μ:Type}(f:ν->μ)(m:List (κ×ν))(k:κ)(v:ν):(cset e m k v).map (λp=>(p.1,f p.2))=cset e (m.map λp=>(p.1,f p.2)) k (f v):=by
 induction m with
 |nil=>rfl
 |cons p m ih=>
  obtain⟨a,b⟩:=p;simp only[w0e];unfold cset;cases e k==e a with
  |true=>rfl
  |false=>
   cases ltI (e k) (e a) with
   |true=>rfl
   |false=>simp[ih]
theorem y7v{μ:Type}(f:ν->μ)(m:List (κ×ν))(k:κ):(cdel e m k).map (λp=>(p.1,f p.2))=cdel e (m.map λp=>(p.1,f p.2)) k:=by
 induction m with
 |nil=>rfl
 |cons p m ih=>
  obtain⟨a,b⟩:=p;simp only[w0e];unfold cdel;cases e k==e a with
  |true=>rfl
  |false=>simp[ih]
theorem y7z{μ:Type}(f:ν->μ)(m:List (κ×ν))(k:κ):cget e (m.map λp=>(p.1,f p.2)) k =(cget e m k).map f:=by
 induction m with
 |nil=>rfl
 |cons p m ih=>
  obtain⟨a,b⟩:=p;simp only[w0e];unfold cget;cases e k==e a with
  |true=>rfl
  |false=>simpa using ih
theorem zyu{m m':List (κ×ν)}(h:Srt' e m)(h':Srt' e m')(hm:∀p,p∈m↔p∈m'):m=m':=by
 have nd:∀{l:List (κ×ν)},Srt' e l->l.Nodup:=λ{l}hl=>List.Pairwise.imp (λ{a b}h q=>by rw[q,zoy] at h;cases h) hl
 have hp:m.Perm m':=(w4w (nd h) (nd h')).2 hm;exact hp.eq_of_pairwise (λa b _ _ h1 h2=>by have:=zzo h1 h2;rw[zoy] at this;cases this) h h'
theorem zuh{m:List (κ×ν)}(h:Srt' e m){k k':κ}{v v':ν}(hk:e k≠e k'):cset e (cset e m k v) k' v'=cset e (cset e m k' v') k v:=by
 refine zyu ((h.set k v).set k' v') ((h.set k' v').set k v) λp=>?_
 rw[z2z (h.set k v),z2z h,z2z (h.set k' v'),z2z h];constructor
 .rintro(rfl|⟨rfl|⟨h1,h2⟩,h3⟩)
  .exact .inr ⟨.inl rfl,hk⟩
  .exact .inl rfl
  .exact .inr ⟨.inr ⟨h1,h3⟩,h2⟩
 .rintro(rfl|⟨rfl|⟨h1,h2⟩,h3⟩)
  .exact .inr ⟨.inl rfl,λq=>hk q.symm⟩
  .exact .inl rfl
  .exact .inr ⟨.inr ⟨h1,h3⟩,h2⟩
theorem zxz{α β:Type}{f:α->β}{l:List β}{m:List α}(p:l.Perm (m.map f)):∃m':List α,m'.Perm m/\l=m'.map f:=by
 generalize hx:m.map f=x at p
 induction p generalizing m with
 |nil=>exact⟨[],by cases m<;>simp at hx⊢,rfl⟩
 |cons a p ih=>
  cases m with
  |nil=>cases hx
  |cons b m=>simp only[w0e,w28] at hx;obtain⟨m',h1,h2⟩:=ih hx.2;exact⟨b::m',h1.cons b,by simp[hx.1,h2]⟩
 |swap a b l=>
  match m,hx with
  |c::d::m,hx=>simp only[w0e,w28] at hx;exact⟨d::c::m,List.Perm.swap ..,by simp[hx.1,hx.2.1,hx.2.2]⟩
 |trans p1 p2 ih1 ih2=>obtain⟨m2,h1,h2⟩:=ih2 hx;obtain⟨m1,h3,h4⟩:=ih1 h2.symm;exact⟨m1,h3.trans h1,h4⟩
end
end Px
end
section
namespace Px
open Go Go.RowKit
set_option linter.unusedSectionVars false
structure Stmp(es:List MapEntry)(clock:Nat):Prop where
 lt:∀x∈es,x.born<clock
 nd :(es.map (·.born)).Nodup
theorem Stmp.mod{es:List MapEntry}{clock i:Nat}{f:MapEntry->MapEntry}(h:Stmp es clock)(hf:∀x,(f x).born=x.born):Stmp (es.modify i f) clock:=by
 have e1 :(es.modify i f).map (·.born)=es.map (·.born):=by
  clear h
  induction es generalizing i with
  |nil=>cases i<;>rfl
  |cons a es ih=>
   cases i with
   |zero=>simp[hf]
   |succ i=>simp[ih]
 constructor
 .intro x hx;have:x.born∈(es.modify i f).map (·.born):=w0a.2 ⟨x,hx,rfl⟩;rw[e1] at this;obtain⟨y,hy,he⟩:=w0a.1 this;rw[<- he];exact h.lt y hy
 .rw[e1];exact h.nd
theorem Stmp.sub{es es':List MapEntry}{clock:Nat}(h:Stmp es clock)(hs:es'.Sublist es):Stmp es' clock:=⟨λx hx=>h.lt x (hs.subset hx),(hs.map _).nodup h.nd⟩
theorem Stmp.push{es:List MapEntry}{clock:Nat}(h:Stmp es clock)(k v:Value):Stmp (es++[{ key:=k,val:=v,born:=clock }]) (clock+1):=by
 constructor
 .intro x hx;rcases w0m.1 hx with q|q
  .exact Nat.lt_succ_of_lt (h.lt x q)
  .simp only[w0v] at q;subst q;exact w3r _
 .rw[w25,w43];refine⟨h.nd,by simp,λa ha b hb=>?_⟩;simp only[w0e,List.map_nil,w0v] at hb;subst hb;obtain⟨y,hy,rfl⟩:=w0a.1 ha;exact Nat.ne_of_lt (h.lt y hy)
section
variable{κ ν:Type}
abbrev bqC(e:κ->List Int):BEq κ:=⟨λa b=>e a==e b⟩
abbrev KeyC(P:Program)(kt:TypeId)(e:κ->List Int)(eK:κ->Value):Prop:=@yes P kt κ (bqC e) eK
def CM(w:World)(b:Nat)(e:κ->List Int)(eK:κ->Value)(eV:ν->Value)(m:List (κ×ν)):Prop:=Srt' e m/\∃(es:Array MapEntry)(clock:Nat)(m':List (κ×ν)),w.heap[b]? = some (.map es clock)/\Stmp es.toList clock/\m'.Perm m/\es.toList.map (λx=>(x.key,x.val))=m'.map (λp=>(eK p.1,eV p.2))
theorem CM.rec{w:World}{b:Nat}{e:κ->List Int}{eK:κ->Value}{eV:ν->Value}{m:List (κ×ν)}(h:CM w b e eK eV m):¬Rec w.heap[b]?:=by obtain⟨h0,es,c,m',h1,h2⟩:=h;rintro(⟨l,q⟩|⟨l,q⟩)<;>(rw[h1] at q;cases q)
theorem CM.mono{w w':World}{b:Nat}{e:κ->List Int}{eK:κ->Value}{eV:ν->Value}{m:List (κ×ν)}(h:CM w b e eK eV m)(hb:w'.heap[b]? = w.heap[b]?):CM w' b e eK eV m:=by obtain⟨h0,es,c,m',h1,h2⟩:=h;exact⟨h0,es,c,m',hb.trans h1,h2⟩
variable{e:κ->List Int}{eK:κ->Value}{eV:ν->Value}
theorem zvk:∀(m:List (κ×ν))(k:κ),@mget κ ν (bqC e) m k=cget e m k
 | [],_=>rfl
 |(a,b)::m,k=>by unfold mget cget;rw[zvk m k];rfl
theorem zvj:∀(m:List (κ×ν))(k:κ),@mdel κ ν (bqC e) m k=cdel e m k
 | [],_=>rfl
 |(a,b)::m,k=>by unfold mdel cdel;rw[zvj m k];rfl
theorem y4u:∀(m:List (κ×ν))(k:κ)(v:ν),(@mset κ ν (bqC e) m k v).Perm ((k,v)::cdel e m k)
 | [],_,_=>List.Perm.refl _
 |(a,b)::m,k,v=>by
  unfold mset cdel;show (bif e k==e a then(k,v)::m else(a,b)::@mset κ ν (bqC e) m k v).Perm _;cases e k==e a with
  |true=>exact List.Perm.refl _
  |false=>exact((y4u m k v).cons _).trans (List.Perm.swap _ _ _)
theorem zij{m m':List (κ×ν)}(hn:Ndp e m)(p:m.Perm m')(k:κ):(cdel e m k).Perm (cdel e m' k):=by rw[zat hn,zat (hn.perm p)];exact p.filter _
theorem zsw{es:List MapEntry}{m':List (κ×ν)}(h:es.map (λx=>(x.key,x.val))=m'.map (λp=>(eK p.1,eV p.2))):es.map (·.key) =(m'.map (·.1)).map eK:=by have:=congrArg (List.map Prod.fst) h;simpa[w2e,Function.comp_def] using this
theorem CM.look{P:Program}{kt:TypeId}{w:World}{b:Nat}{m:List (κ×ν)}(hk:KeyC P kt e eK)(h:CM w b e eK eV m)(k:κ):
  ∃es clock,w.heap[b]? = some (.map es clock)/\es.size=m.length/\∃r,(Instr.findKey kt (eK k) es.toList).run P w = .ok r w/\(cget e m k=none->r=none)/\∀v,cget e m k=some v->∃j,r=some (j,eV v):=by
 letI:BEq κ:=bqC e
 obtain⟨h0,es,c,m',h1,h2,h3,h4⟩:=h;have hl:es.size=m.length:=by have:=congrArg List.length h4;rw[w0x,w0x,h3.length_eq] at this;simpa using this
 refine⟨es,c,h1,hl,_,hk.find w k _ _ (zsw h4),?_,?_⟩
 .intro hn;rw[zik h0.ndp h3.symm,<- zvk] at hn;cases hf : @fnd κ (bqC e) k (m'.map (·.1)) es.toList 0 with
  |none=>rfl
  |some p=>obtain⟨j,u⟩:=p;obtain⟨_,⟨v,hv,_⟩,_⟩:=@zj4 κ ν (bqC e) eK eV k _ _ _ _ _ h4 hf;rw[hv] at hn;cases hn
 .intro v hv;rw[zik h0.ndp h3.symm,<- zvk] at hv;cases hf : @fnd κ (bqC e) k (m'.map (·.1)) es.toList 0 with
  |none=>rw[@zj3 κ ν (bqC e) eK eV k _ _ _ h4 hf] at hv;cases hv
  |some p=>obtain⟨j,u⟩:=p;obtain⟨_,⟨v',hv',hu⟩,_⟩:=@zj4 κ ν (bqC e) eK eV k _ _ _ _ _ h4 hf;rw[hv] at hv';cases hv';exact⟨j,by rw[hu]⟩
theorem CM.upd{P:Program}{t kt et:TypeId}{w:World}{b:Nat}{m:List (κ×ν)}(hk:KeyC P kt e eK)(ht:P.underlying t=some (.map kt et))(h:CM w b e eK eV m)(k:κ)(v:ν)(hb:b<w.heap.size):
  ∃ob,(Instr.mapUpdate t (.map (some b)) (eK k) (eV v)).run P w = .ok () (setB w b ob)/\CM (setB w b ob) b e eK eV (cset e m k v):=by
 letI:BEq κ:=bqC e
 obtain⟨h0,es,c,m',h1,h2,h3,h4⟩:=h;have hf:=hk.find w k _ _ (zsw h4);have hn':=h0.ndp.perm h3.symm;have hp :((k,v)::cdel e m' k).Perm (cset e m k v):=((zij hn' h3 k).cons _).trans (zim h0 k v).symm;cases hfd : @fnd κ (bqC e) k (m'.map (·.1)) es.toList 0 with
 |none=>
  rw[hfd] at hf;refine⟨.map (es.push { key:=eK k,val:=eV v,born:=c }) (c+1),?_,h0.set k v,_,_,m'++[(k,v)],z3h w b _ hb,?_,?_,?_⟩
  .simp only[Instr.mapUpdate,w06,run_underlying ht,w05,w0y h1,hk.check,hf,w2l _ h1];rfl
  .rw[w33];exact h2.push _ _
  .have hn:=@zj3 κ ν (bqC e) eK eV k _ _ _ h4 hfd;have hd:cdel e m' k=m':=by rw[<- zvj];exact @zje κ ν (bqC e) k _ hn
   rw[hd] at hp;exact(w4a (l₁:=m') (l₂:=[(k,v)])).trans hp
  .rw[w33,w25,h4,w25];rfl
 |some p=>
  obtain⟨j',u⟩:=p;rw[hfd] at hf;obtain⟨_,_,⟨k',hk',en,he,hke⟩,h5⟩:=@zj4 κ ν (bqC e) eK eV k _ _ _ _ _ h4 hfd;rw[w39] at he h5;have he':es[j']? = some en:=by simpa using he
  refine⟨.map (es.modify j' λx=>{ x with key:=eK k,val:=eV v }) c,?_,h0.set k v,_,_,@mset κ ν (bqC e) m' k v,z3h w b _ hb,?_,(y4u m' k v).trans hp,?_⟩
  .simp only[Instr.mapUpdate,w06,run_underlying ht,w05,w0y h1,hk.check,hf,he',w0u,w1e,hke,hk.stays w k k' hk',w2l _ h1];rfl
  .rw[w1s];exact h2.mod λ_=>rfl
  .rw[w1s];exact h5 v
theorem CM.del{P:Program}{t kt et ty:TypeId}{w:World}{b:Nat}{m:List (κ×ν)}{ts:Array TypeId}(hts:ts[0]? = some t)(hk:KeyC P kt e eK)(ht:P.underlying t=some (.map kt et))(h:CM w b e eK eV m)(k:κ)(hb:b<w.heap.size):
  ∃ob,(Builtin.delete_ ts ty #[.map (some b),eK k]).run P w = .ok (.tuple #[]) (setB w b ob)/\CM (setB w b ob) b e eK eV (cdel e m k):=by
 letI:BEq κ:=bqC e
 obtain⟨h0,es,c,m',h1,h2,h3,h4⟩:=h;have hf:=hk.find w k _ _ (zsw h4);have hn':=h0.ndp.perm h3.symm;cases hfd : @fnd κ (bqC e) k (m'.map (·.1)) es.toList 0 with
 |none=>
  rw[hfd] at hf;have hn:=@zj3 κ ν (bqC e) eK eV k _ _ _ h4 hfd;have hd:cdel e m' k=m':=by rw[<- zvj];exact @zje κ ν (bqC e) k _ hn
  refine⟨.map es c,?_,h0.del k,es,c,m',z3h w b _ hb,h2,hd ▸ zij hn' h3 k,h4⟩;simp[Builtin.delete_,hts,run_underlying ht,w0y h1,hk.check,hf,w2l _ h1,setB]
 |some p=>
  obtain⟨j',u⟩:=p;rw[hfd] at hf;obtain⟨_,h5⟩:=@y3n κ ν (bqC e) eK eV k _ _ _ _ _ h4 hfd;rw[w39,zvj] at h5;have el :(es.eraseIdxIfInBounds j').toList=es.toList.eraseIdx j':=by
   simp[Array.eraseIdxIfInBounds];split
   .simp
   .rename_i q;rw[List.eraseIdx_of_length_le];simpa using q
  refine⟨.map (es.eraseIdxIfInBounds j') c,?_,h0.del k,_,c,cdel e m' k,z3h w b _ hb,?_,zij hn' h3 k,?_⟩
  .simp[Builtin.delete_,hts,run_underlying ht,w0y h1,hk.check,hf,w2l _ h1,setB]
  .rw[el];exact h2.sub (List.eraseIdx_sublist _ _)
  .rw[el];exact h5
end
section
variable{κ ν:Type}
def nmp(b:Nat)(e:κ->List Int)(eK:κ->Value)(I:ν->Value->HP)(m:List (κ×ν))(hole:Option (κ×Value)):HP:=
 ⟨λS r w=>∃(t:List (κ×(ν×Value)))(Sk:List Int->Nat->Prop),t.map (λp=>(p.1,p.2.1))=m/\S b/\CM w b e eK (·.2) t/\(∀k v,hole=some (k,v)->∃x,cget e t k=some (x,v))/\
   (∀p∈t,hole.map (λq=>e q.1)≠some (e p.1)->(I p.2.1 p.2.2).h (Sk (e p.1)) r w)/\(∀c x,Sk c x->S x/\x≠b)/\∀c c' x,Sk c x->Sk c' x->c=c',
  λh1 h2 h3 h=>by obtain⟨t,Sk,a,hb,c,d,i,f,g⟩:=h;exact⟨t,Sk,a,hb,c.mono (h3 _ hb),d,λp hp hh=>(I p.2.1 p.2.2).wk h1 h2 (λx hx=>h3 x (f _ x hx).1) (i p hp hh),f,g⟩⟩
def romE(e:κ->List Int)(eK:κ->Value)(E:ν->VP)(m:List (κ×ν)):VP:=
 ⟨λr w v=>(v = .map none/\m = [])\/∃b t,v = .map (some b)/\t.map (λp=>(p.1,p.2.1))=m/\r b/\CM w b e eK (λp:ν×Value=>p.2) t/\∀p∈t,(E p.2.1).h r w p.2.2,
  λh1 h2 h=>by
   rcases h with h|⟨b,t,hv,hm,hr,hc,he⟩
   .exact .inl h
   .exact .inr ⟨b,t,hv,hm,h1 _ hr,hc.mono (h2 _ hr hc.rec),λp hp=>(E p.2.1).wk h1 h2 (he p hp)⟩⟩
variable{e:κ->List Int}{eK:κ->Value}{I:ν->Value->HP}{m:List (κ×ν)}{hole:Option (κ×Value)}{b:Nat}{S r:Nat->Prop}{w:World}
theorem zqz{t:List (κ×(ν×Value))}{k:κ}(hm:t.map (λp=>(p.1,p.2.1))=m):cget e m k =(cget e t k).map (·.1):=by rw[<- hm];exact y7z (λp:ν×Value=>p.1) t k
theorem y95{t:List (κ×(ν×Value))}(hn:Ndp e t){p:κ×(ν×Value)}(hp:p∈t){k:κ}{q:ν×Value}(hq:cget e t k=some q)(h:e k=e p.1):p.2=q:=by have:=znt hn (k:=k) (a:=p.1) (v:=p.2) hp h;rw[hq] at this;cases this;rfl
theorem y4x{k:κ}{x:ν}(h :(nmp b e eK I m none).h S r w)(hk:cget e m k=some x):
  ∃v S1 S2,(nmp b e eK I m (some (k,v))).h S1 r w/\(I x v).h S2 r w/\(∀c,S1 c->S c)/\(∀c,S2 c->S c)/\∀c,S1 c->¬S2 c:=by
 obtain⟨t,Sk,hm,hS,hc,_,hE,hf,hg⟩:=h;rw[zqz hm] at hk;cases hq:cget e t k with
 |none=>rw[hq] at hk;cases hk
 |some q=>
  obtain⟨x',v⟩:=q;rw[hq] at hk;cases hk;obtain⟨a,ha,hka⟩:=zab hq;refine⟨v,λc=>S c/\¬Sk (e k) c,Sk (e k),⟨t,λc' c=>c'≠e k/\Sk c' c,hm,⟨hS,λq=>(hf _ _ q).2 rfl⟩,hc,?_,?_,?_,?_⟩,?_,λc hc=>hc.1,λc hc=>(hf _ _ hc).1,λc hc=>hc.2⟩
  .intro k' v' q;cases q;exact⟨x',hq⟩
  .intro p hp hne;have hne':e p.1≠e k:=λq=>hne (by simp[q])
   have e2 :(λc=>e p.1≠e k/\Sk (e p.1) c)=Sk (e p.1):=by funext c;exact propext ⟨λq=>q.2,λq=>⟨hne',q⟩⟩
   have:=hE p hp (by simp);rw[<- e2] at this;exact this
  .rintro c' c ⟨hne,hs⟩;exact⟨⟨(hf _ _ hs).1,λq=>hne (hg _ _ _ hs q)⟩,(hf _ _ hs).2⟩
  .rintro c c' y ⟨_,h1⟩ ⟨_,h2⟩;exact hg _ _ _ h1 h2
  .have:=hE _ ha (by simp)
   rw[hka];exact this
theorem y97{k:κ}{x:ν}{v:Value}{Sj:Nat->Prop}(hK:∀a b,e a=e b->eK a=eK b)(h :(nmp b e eK I m (some (k,v))).h S r w)(hx :(I x v).h Sj r w)(hd:∀c,S c->¬Sj c):(nmp b e eK I (cset e m k x) none).h (λc=>S c\/Sj c) r w:=by
 obtain⟨t,Sk,hm,hS,hc,hh,hE,hf,hg⟩:=h;obtain⟨x0,hq⟩:=hh k v rfl;obtain⟨h0,es,cl,m',h1,h2,h3,h4⟩:=hc
 let g:κ×(ν×Value)->κ×(ν×Value):=λp=>bif e k==e p.1 then(k,(x,v)) else p
 have hgk:∀p∈t,e (g p).1=e p.1:=by
  intro p hp;show e (bif e k==e p.1 then(k,(x,v)) else p).1=_;by_cases c:e k=e p.1
  .simp[c]
  .have :(e k==e p.1)=false:=by simpa using c
   rw[this];rfl
 have hset:cset e t k (x,v)=t.map g:=by
  obtain⟨a,ha,hka⟩:=zab hq;refine zyu (h0.set k (x,v)) ?_ λp=>?_
  .unfold Srt';rw[w2s];refine List.Pairwise.imp_of_mem (λ{p q}hp hq h=>?_) h0;rw[hgk p hp,hgk q hq];exact h
  .rw[z2z h0,w0a];constructor
   .rintro(rfl|⟨hp,hne⟩)
    .exact⟨_,ha,by show (bif e k==e a then(k,(x,v)) else _)=_;rw[hka];simp⟩
    .refine⟨p,hp,?_⟩;show (bif e k==e p.1 then(k,(x,v)) else p)=p;have :(e k==e p.1)=false:=by simpa using hne
     rw[this];rfl
   .rintro⟨q,hq',rfl⟩;show (bif e k==e q.1 then(k,(x,v)) else q)=_\/(bif e k==e q.1 then(k,(x,v)) else q)∈t/\e k≠e (bif e k==e q.1 then(k,(x,v)) else q).1;by_cases c:e k=e q.1
    .left;simp[c]
    .right
     have :(e k==e q.1)=false:=by simpa using c
     rw[this];exact⟨hq',c⟩
 refine⟨cset e t k (x,v),λc y=>if c=e k then Sj y else Sk c y,?_,.inl hS,⟨h0.set k (x,v),es,cl,m'.map g,h1,h2,?_,?_⟩,(λ_ _ q=>by cases q),?_,?_,?_⟩
 .rw[<- hm];exact zs6 (λp:ν×Value=>p.1) t k (x,v)
 .rw[hset];exact h3.map g
 .rw[h4,w2e];refine w4n λp hp=>?_
  have hp':=h3.mem_iff.1 hp;show (eK p.1,p.2.2) =(eK (bif e k==e p.1 then(k,(x,v)) else p).1,(bif e k==e p.1 then(k,(x,v)) else p).2.2);by_cases c:e k=e p.1
  .have:=y95 h0.ndp hp' hq c
   simp only[c,beq_self_eq_true,cond_true,hK _ _ c,this]
  .have :(e k==e p.1)=false:=by simpa using c
   rw[this];rfl
 .intro p hp _;rcases(z2z h0).1 hp with rfl|⟨hp,hne⟩
  .simp only[if_pos];exact hx
  .have e2 :(λy=>if e p.1=e k then Sj y else Sk (e p.1) y)=Sk (e p.1):=by funext y;rw[if_neg (λq=>hne q.symm)]
   have:=hE p hp (λq=>hne (by simpa using q));rw[<- e2] at this;exact this
 .intro c y hy;split at hy
  .exact⟨.inr hy,λq=>hd b hS (q ▸ hy)⟩
  .exact⟨.inl (hf _ _ hy).1,(hf _ _ hy).2⟩
 .intro c c' y h5 h6;split at h5<;>split at h6
  .rename_i q q';rw[q,q']
  .exact absurd h5 (hd y (hf _ _ h6).1)
  .exact absurd h6 (hd y (hf _ _ h5).1)
  .exact hg _ _ _ h5 h6
end
end Px
end
section
namespace Px
open Go Go.RowKit
set_option linter.unusedSectionVars false
def plI{ν:Type}(eV:ν->Value)(y:ν)(v:Value):HP:=⟨λ_ _ _=>v=eV y,λ_ _ _ h=>h⟩
section
variable{κ ν:Type}{e:κ->List Int}{eK:κ->Value}{I:ν->Value->HP}{E:ν->VP}{m:List (κ×ν)}{hole:Option (κ×Value)}{b:Nat}
variable{P:Program}{C:Cx P}{s:St}{dst:Option Tmp}{ty:TypeId}{pos:String}{after:Array Edge}{guard:Option (Nat×Bool)}{K:VP->List HP->Prop}
theorem y1k[Dr]{t:TypeId}(k:∀b,K (eqv (.map (some b))) (s.objs++[nmp b e eK I [] none])):OpT C ⟨dst,.makeMap t none,ty,pos,after,guard⟩ s K:=
 .push (λb=>nmp b e eK I [] none) (λb=>eqv (.map (some b))) (λa r S w hw hs=>by
  refine⟨.map #[] 0,_,?_,rfl,[],λ_ _=>False,rfl,rfl,⟨List.Pairwise.nil,#[],0,[],heap_alloc_new w _,⟨by simp,by simp⟩,List.Perm.refl _,rfl⟩,(λ_ _ q=>by cases q),(λp hp=>by cases hp),(λc x hx=>hx.elim),λc c' x hx=>hx.elim⟩;simp[execOp,run_makeMap]) k
theorem zjh{kt:TypeId}{S r:Nat->Prop}{w:World}(hk:KeyC P kt e eK)(h :(nmp b e eK I m hole).h S r w)(k:κ):
  ∃es clock,w.heap[b]? = some (.map es clock)/\es.size=m.length/\∃f,(Instr.findKey kt (eK k) es.toList).run P w = .ok f w/\(cget e m k=none->f=none)/\
   (∀x,cget e m k=some x->∃j v,f=some (j,v)/\(hole.map (λq=>e q.1)≠some (e k)->∃S',(I x v).h S' r w))/\∀k' v,hole=some (k',v)->e k'=e k->∃j,f=some (j,v):=by
 obtain⟨t,Sk,hm,hS,hc,hh,hE,_⟩:=h;obtain⟨es,clock,h1,h2,f,h3,h4,h5⟩:=hc.look hk k;have hl:t.length=m.length:=by rw[<- hm];simp
 refine⟨es,clock,h1,by omega,f,h3,?_,?_,?_⟩
 .intro hn;rw[zqz hm] at hn;exact h4 (by cases hq:cget e t k with|none=>rfl|some q=>rw[hq] at hn;cases hn)
 .intro x hx;rw[zqz hm] at hx;cases hq:cget e t k with
  |none=>rw[hq] at hx;cases hx
  |some q=>rw[hq] at hx;cases hx;obtain⟨j,hj⟩:=h5 q hq;obtain⟨a,ha,hka⟩:=zab hq;exact⟨j,q.2,hj,λhne=>⟨_,hE _ ha (by rw[<- hka];exact hne)⟩⟩
 .intro k' v hv hkk;obtain⟨x,hx⟩:=hh k' v hv;rw[y2q hkk] at hx;exact h5 (x,v) hx
theorem zvm[Dr]{ν:Type}{eV:ν->Value}{m:List (κ×ν)}{t kt et:TypeId}{x i:Operand}{k:κ}{d:ν}(j:Nat)(hk:KeyC P kt e eK)(ht:P.underlying t=some (.map kt et))(hz:tz1 P et=some (eV d))(ho:ObIs s.objs j (nmp b e eK (plI eV) m none))
  (hx:Ev s x (eqv (.map (some b)))) (hi:Ev s i (eqv (eK k))):OpQ C ⟨dst,.lookup t x i false,ty,pos,after,guard⟩ s (eqv (eV ((cget e m k).getD d))):=
 .valO λa r S w hw hs=>by
  have h1:=hx a r w hs;have h2:=hi a r w hs;simp only[eqv] at h1 h2
  letI:BEq κ:=bqC e
  obtain⟨es,clock,hc,_,f,hf,hn,hv,_⟩:=zjh hk (ObIs.at hw ho) k;have hzr:=zlq hz w;cases hg:cget e m k with
  |none=>rw[hn hg] at hf;refine⟨eV d,?_,rfl⟩;simp only[execOp,h1,h2,Instr.lookup,w06,run_underlying ht,w05,w0y hc,w0j,hk.check,hf,hzr];simp
  |some y=>obtain⟨j',v,hj,hI⟩:=hv y hg;obtain⟨_,hI⟩:=hI (by simp);rw[hj] at hf;refine⟨v,?_,hI⟩;simp only[execOp,h1,h2,Instr.lookup,w06,run_underlying ht,w05,w0y hc,w0j,hk.check,hf];simp
theorem tup2{A B:VP}{r:Nat->Prop}{w:World}{u v:Value}(h1:A.h r w u)(h2:B.h r w v):(tupv [A,B]).h r w (.tuple #[u,v]):=by
 refine⟨_,rfl,rfl,λi X hi=>?_⟩
 match i with
 |0=>simp at hi;subst hi;exact h1
 |1=>simp at hi;subst hi;exact h2
 |i+2=>simp at hi
theorem y1g[Dr]{ν:Type}{eV:ν->Value}{m:List (κ×ν)}{t kt et:TypeId}{x i:Operand}{k:κ}{d:ν}(j:Nat)(hk:KeyC P kt e eK)(ht:P.underlying t=some (.map kt et))(hz:tz1 P et=some (eV d))(ho:ObIs s.objs j (nmp b e eK (plI eV) m none))
  (hx:Ev s x (eqv (.map (some b)))) (hi:Ev s i (eqv (eK k))):OpQ C ⟨dst,.lookup t x i true,ty,pos,after,guard⟩ s (tupv [eqv (eV ((cget e m k).getD d)),bv (cget e m k).isSome]):=
 .valO λa r S w hw hs=>by
  have h1:=hx a r w hs;have h2:=hi a r w hs;simp only[eqv] at h1 h2
  letI:BEq κ:=bqC e
  obtain⟨es,clock,hc,_,f,hf,hn,hv,_⟩:=zjh hk (ObIs.at hw ho) k;have hzr:=zlq hz w;cases hg:cget e m k with
  |none=>rw[hn hg] at hf;refine⟨.tuple #[eV d,.bool false],?_,tup2 rfl rfl⟩;simp only[execOp,h1,h2,Instr.lookup,w06,run_underlying ht,w05,w0y hc,w0j,hk.check,hf,hzr];simp
  |some y=>obtain⟨j',v,hj,hI⟩:=hv y hg;obtain⟨_,hI⟩:=hI (by simp);rw[hj] at hf;refine⟨.tuple #[v,.bool true],?_,tup2 hI rfl⟩;simp only[execOp,h1,h2,Instr.lookup,w06,run_underlying ht,w05,w0y hc,w0j,hk.check,hf];simp
theorem y1i[Dr]{t kt et:TypeId}{x i:Operand}{k k':κ}{v:Value}(j:Nat)(hk:KeyC P kt e eK)(ht:P.underlying t=some (.map kt et))(ho:ObIs s.objs j (nmp b e eK I m (some (k',v))))(he:e k'=e k)
  (hx:Ev s x (eqv (.map (some b)))) (hi:Ev s i (eqv (eK k))):OpQ C ⟨dst,.lookup t x i false,ty,pos,after,guard⟩ s (eqv v):=
 .valO λa r S w hw hs=>by
  have h1:=hx a r w hs;have h2:=hi a r w hs;simp only[eqv] at h1 h2
  letI:BEq κ:=bqC e
  obtain⟨es,clock,hc,_,f,hf,_,_,hh⟩:=zjh hk (ObIs.at hw ho) k;obtain⟨j',hj⟩:=hh k' v rfl he;rw[hj] at hf;refine⟨v,?_,rfl⟩;simp only[execOp,h1,h2,Instr.lookup,w06,run_underlying ht,w05,w0y hc,w0j,hk.check,hf];simp
theorem y1j[Dr]{t kt et:TypeId}{x i:Operand}{k:κ}{z:Value}(j:Nat)(hk:KeyC P kt e eK)(ht:P.underlying t=some (.map kt et))(hz:tz1 P et=some z)(ho:ObIs s.objs j (nmp b e eK I m hole))(hg:cget e m k=none)
  (hx:Ev s x (eqv (.map (some b)))) (hi:Ev s i (eqv (eK k))):OpQ C ⟨dst,.lookup t x i false,ty,pos,after,guard⟩ s (eqv z):=
 .valO λa r S w hw hs=>by
  have h1:=hx a r w hs;have h2:=hi a r w hs;simp only[eqv] at h1 h2
  letI:BEq κ:=bqC e
  obtain⟨es,clock,hc,_,f,hf,hn,_⟩:=zjh hk (ObIs.at hw ho) k;have hzr:=zlq hz w;rw[hn hg] at hf;refine⟨z,?_,rfl⟩;simp only[execOp,h1,h2,Instr.lookup,w06,run_underlying ht,w05,w0y hc,w0j,hk.check,hf,hzr];simp
theorem ydh{t kt et:TypeId}{S r:Nat->Prop}{w:World}(hk:KeyC P kt e eK)(ht:P.underlying t=some (.map kt et))(h :(nmp b e eK I m hole).h S r w)(k:κ)(y:ν)(u:Value)(hole':Option (κ×Value))(hb:b<w.heap.size)(hr:¬r b)
  (ho:∀q,hole=some q->e q.1=e k) (ho':hole'=none/\(∀S r w,(I y u).h S r w)\/hole'=some (k,u)) :
  ∃ob,(Instr.mapUpdate t (.map (some b)) (eK k) u).run P w = .ok () (setB w b ob)/\(nmp b e eK I (cset e m k y) hole').h S r (setB w b ob):=by
 obtain⟨t',Sk,hm,hS,hc,hh,hE,hf,hg⟩:=h;have h0:=hc.1;obtain⟨ob,hrun,hc'⟩:=hc.upd hk ht k (y,u) hb;refine⟨ob,hrun,cset e t' k (y,u),Sk,?_,hS,hc',?_,?_,hf,hg⟩
 .rw[<- hm];exact zs6 (λp:ν×Value=>p.1) t' k (y,u)
 .intro k2 v2 q;rcases ho' with⟨q',_⟩|q'
  .rw[q'] at q;cases q
  .rw[q'] at q;cases q;exact⟨y,by rw[zs2 h0];simp⟩
 .intro p hp hne;rcases(z2z h0).1 hp with rfl|⟨hp,hne'⟩
  .rcases ho' with⟨q',hI⟩|q'
   .exact hI _ _ _
   .rw[q'] at hne;exact absurd rfl hne
  .refine(I p.2.1 p.2.2).mono (λ_ h=>h) (λx hx=>z1e w b x ob (λq=>hr (q ▸ hx))) (λx hx=>z1e w b x ob (hf _ x hx).2) (hE p hp ?_);intro q;cases hole with
   |none=>cases q
   |some q2=>simp only[w0u,w00] at q;exact hne' ((ho q2 rfl).symm.trans q)
theorem zm4[Dr]{t kt et:TypeId}{x i y:Operand}{k:κ}{z:ν}{u:Value}{hole':Option (κ×Value)}(j:Nat)(hk:KeyC P kt e eK)(ht:P.underlying t=some (.map kt et))(ho:s.objs[j]? = some (nmp b e eK I m hole))
  (hx:Ev s x (eqv (.map (some b)))) (hi:Ev s i (eqv (eK k))) (hy:Ev s y (eqv u)) (hq:∀q,hole=some q->e q.1=e k) (hq':hole'=none/\(∀S r w,(I z u).h S r w)\/hole'=some (k,u))
  (kk:K topv (s.objs.set j (nmp b e eK I (cset e m k z) hole'))):OpT C ⟨none,.mapUpdate t x i y,ty,pos,after,guard⟩ s K:=
 .storeB rfl j _ (w02.1 ho).1 (λa r S w hw hs=>by
  have h1:=hx a r w hs;have h2:=hi a r w hs;have h3:=hy a r w hs;simp only[eqv] at h1 h2 h3;have hn:=hw.obj j _ ho;have hS:S j b:=by obtain⟨_,_,_,hS,_⟩:=hn;exact hS
  obtain⟨_,_,hlt,hr⟩:=hw.own j b hS;obtain⟨ob,hrun,hn'⟩:=ydh hk ht hn k z u hole' hlt hr hq hq';refine⟨b,ob,hS,?_,hn'⟩;simp only[execOp,h1,h2,h3,w06,hrun,w05];rfl) kk
theorem y59[Dr]{t kt et:TypeId}{x i:Operand}{k:κ}(j:Nat)(hk:KeyC P kt e eK)(ht:P.underlying t=some (.map kt et))(ho:s.objs[j]? = some (nmp b e eK I m none))
  (hx:Ev s x (eqv (.map (some b)))) (hi:Ev s i (eqv (eK k))) {ts:Array TypeId} (hts:ts[0]? = some t) (kk:K (eqv (.tuple #[])) (s.objs.set j (nmp b e eK I (cdel e m k) none))) :
  OpT C ⟨dst,.call { callee:=.builtin .delete,args:=#[x,i],argTypes:=ts },ty,pos,after,guard⟩ s K:=
 .storeBV j _ _ (w02.1 ho).1 (λa r S w hw hs=>by
  have h1:=hx a r w hs;have h2:=hi a r w hs;simp only[eqv] at h1 h2;obtain⟨t',Sk,hm,hS,hc,hh,hE,hf,hg⟩:=hw.obj j _ ho;obtain⟨_,_,hlt,hr⟩:=hw.own j b hS;obtain⟨ob,hrun,hc'⟩:=hc.del (ty:=ty) hts hk ht k hlt;refine⟨b,ob,.tuple #[],hS,?_,⟨cdel e t' k,Sk,?_,hS,hc',(λ_ _ q=>by cases q),?_,hf,hg⟩,λ_=>rfl⟩
  .simp[execOp,resolve,invoke,builtin,h1,h2,hrun]
  .rw[<- hm];exact y7v (λp:ν×Value=>p.1) t' k
  .intro p hp hne;exact(I p.2.1 p.2.2).mono (λ_ h=>h) (λx hx=>z1e w b x ob (λq=>hr (q ▸ hx))) (λx hx=>z1e w b x ob (hf _ x hx).2) (hE p ((zn7 t' k).subset hp) hne)) kk
theorem y1f[Dr]{t kt et:TypeId}{x i:Operand}{k:κ}(hk:KeyC P kt e eK)(ht:P.underlying t=some (.map kt et))(hx:Ev s x (eqv (.map none)))(hi:Ev s i (eqv (eK k))){ts:Array TypeId}(hts:ts[0]? = some t):
  OpQ C ⟨dst,.call { callee:=.builtin .delete,args:=#[x,i],argTypes:=ts },ty,pos,after,guard⟩ s (eqv (.tuple #[])):=
 .val λa r w hs=>by
  have h1:=hx a r w hs;have h2:=hi a r w hs;simp only[eqv] at h1 h2
  letI:BEq κ:=bqC e
  have hr :(Builtin.delete_ ts ty #[a.eval x,a.eval i]).run P w = .ok (.tuple #[]) w:=by simp[Builtin.delete_,hts,h1,h2,run_underlying ht,hk.check]
  exact⟨.tuple #[],by simp[execOp,resolve,invoke,builtin,hr],rfl⟩
theorem y4y{S r:Nat->Prop}{w:World}(h :(nmp b e eK I m hole).h S r w):∃es clock,w.heap[b]? = some (.map es clock)/\es.size=m.length:=by obtain⟨t,Sk,hm,hS,⟨h0,es,c,m',h1,h2,h3,h4⟩,_⟩:=h;refine⟨es,c,h1,?_⟩;have:=congrArg List.length h4;rw[w0x,w0x,h3.length_eq] at this;rw[<- hm];simpa using this
theorem yfv[Dr]{t kt et:TypeId}{x:Operand}(j:Nat)(ht:P.underlying t=some (.map kt et))(ho:ObIs s.objs j (nmp b e eK I m hole))
  (hx:Ev s x (eqv (.map (some b)))):OpQ C ⟨dst,.call { callee:=.builtin .len,args:=#[x],argTypes:=#[t] },ty,pos,after,guard⟩ s (iv .i64 m.length):=
 .valO λa r S w hw hs=>by
  have h1:=hx a r w hs;simp only[eqv] at h1;obtain⟨es,clock,hc,hl⟩:=y4y (ObIs.at hw ho);exact⟨_,z5g (by simp[Builtin.len_,h1,run_underlying ht,w0y hc];rfl),by rw[hl];rfl⟩
theorem y9b[Dr]{t kt et t':TypeId}{x y:Operand}(ht:P.underlying t=some (.map kt et))(hx:Ev s x (eqv (.map (some b))))(hy:Ev s y (eqv (.map none))):OpQ C ⟨dst,.binOp .eql t x y t',ty,pos,after,guard⟩ s (bv false):=
 .val λa r w hs=>by
  have h1:=hx a r w hs;have h2:=hy a r w hs;simp only[eqv] at h1 h2;have hr :(Op.equal t (.map (some b)) (.map none)).run P w = .ok false w:=by show (Op.equalIn (9999+1) t _ _).run P w=_;rw[Op.equalIn];simp[run_underlying ht]
  refine⟨.bool false,?_,rfl⟩;simp[execOp,binOp,eqGuard,h1,h2,hr]
theorem y5a[Dr]{t kt et t':TypeId}{x y:Operand}(ht:P.underlying t=some (.map kt et))(hx:Ev s x (eqv (.map none)))(hy:Ev s y (eqv (.map none))):OpQ C ⟨dst,.binOp .eql t x y t',ty,pos,after,guard⟩ s (bv true):=
 .val λa r w hs=>by
  have h1:=hx a r w hs;have h2:=hy a r w hs;simp only[eqv] at h1 h2;have hr :(Op.equal t (.map none) (.map none)).run P w = .ok true w:=by show (Op.equalIn (9999+1) t _ _).run P w=_;rw[Op.equalIn];simp[run_underlying ht]
  refine⟨.bool true,?_,rfl⟩;simp[execOp,binOp,eqGuard,h1,h2,hr]
theorem y5b[Dr]{α:Type}{e:α->List VP}{sz:Nat}{l:List α}{t t' E:TypeId}{x y:Operand}(ht:P.underlying t=some (.slice E))(hl:l.isEmpty=false)(hx:Ev s x (ro e sz l))(hy:Ev s y (eqv (.slice none 0 0))):OpQ C ⟨dst,.binOp .eql t x y t',ty,pos,after,guard⟩ s (bv false):=
 .val λa r w hs=>by
  have h1:=hx a r w hs;have h2:=hy a r w hs;simp only[eqv] at h2;rcases h1 with⟨_,rfl⟩|⟨b,o,cap,h1,_⟩
  .cases hl
  .have hr :(Op.equal t (.slice (some ⟨b,o,none⟩) l.length (l.length+cap)) (.slice none 0 0)).run P w = .ok false w:=by show (Op.equalIn (9999+1) t _ _).run P w=_;rw[Op.equalIn];simp[run_underlying ht]
   refine⟨.bool false,?_,rfl⟩;simp[execOp,binOp,eqGuard,h1,h2,hr]
theorem y5c[Dr]{t t' E:TypeId}{x y:Operand}{ad:Option Addr}{n cap:Nat}(ht:P.underlying t=some (.slice E))(hx:Ev s x (eqv (.slice ad n cap)))(hy:Ev s y (eqv (.slice none 0 0))):OpQ C ⟨dst,.binOp .eql t x y t',ty,pos,after,guard⟩ s (bv ad.isNone):=
 .val λa r w hs=>by
  have h1:=hx a r w hs;have h2:=hy a r w hs;simp only[eqv] at h1 h2;have hr :(Op.equal t (.slice ad n cap) (.slice none 0 0)).run P w = .ok ad.isNone w:=by show (Op.equalIn (9999+1) t _ _).run P w=_;rw[Op.equalIn];cases ad<;>simp[run_underlying ht]
  refine⟨.bool ad.isNone,?_,rfl⟩;simp[execOp,binOp,eqGuard,h1,h2,hr]
theorem yb8{S r:Nat->Prop}{w:World}(h :(nmp b e eK I m none).h S r w)(hI:∀x v S',(I x v).h S' r w->(E x).h (λc=>r c\/S' c) w v):(romE e eK E m).h (λc=>r c\/S c) w (.map (some b)):=by obtain⟨t,Sk,hm,hS,hc,_,hE,hf,_⟩:=h;refine .inr ⟨b,t,rfl,hm,.inr hS,hc,λp hp=>?_⟩;exact(E p.2.1).mono (λc hc=>hc.elim .inl λq=>.inr (hf _ c q).1) (λ_ _=>rfl) (hI p.2.1 p.2.2 _ (hE p hp (by simp)))
theorem y06{kt:TypeId}{r:Nat->Prop}{w:World}{v:Value}(hk:KeyC P kt e eK)(h :(romE e eK E m).h r w v)(k:κ):
  ∃es:Array MapEntry,(∀{t et:TypeId}{ok:Bool}{x:Value},P.underlying t=some (.map kt et)->(Instr.lookup t v x ok).run P w =(do
    Instr.checkKey es.isEmpty 10000 kt x
    let (v,ok') <- match <- Instr.findKey kt x es.toList with
     |some (_,v)=>pure (v,true)
     |none=>pure (<- zeroValue et,false)
    pure (if ok then .tuple #[v,.bool ok'] else v):Sem Value).run P w)/\es.size=m.length/\∃f,(Instr.findKey kt (eK k) es.toList).run P w = .ok f w/\(cget e m k=none->f=none)/\
   (∀x,cget e m k=some x->∃j u,f=some (j,u)/\(E x).h r w u):=by
 letI:BEq κ:=bqC e
 rcases h with⟨rfl,rfl⟩|⟨b,t,rfl,hm,hr,hc,hE⟩
 .refine⟨#[],?_,rfl,none,?_,λ_=>rfl,λx hx=>by cases hx⟩
  .intro t et ok x ht;simp only[Instr.lookup,w06,run_underlying ht,w05,w0j];rfl
  .exact hk.find w k [] [] rfl
 .obtain⟨es,clock,h1,h2,f,h3,h4,h5⟩:=hc.look hk k;have hl:t.length=m.length:=by rw[<- hm];simp
  refine⟨es,?_,by omega,f,h3,?_,?_⟩
  .intro t et ok x ht;simp only[Instr.lookup,w06,run_underlying ht,w05,w0j,w0y h1];rfl
  .intro hn;rw[zqz hm] at hn;exact h4 (by cases hq:cget e t k with|none=>rfl|some q=>rw[hq] at hn;cases hn)
  .intro x hx;rw[zqz hm] at hx;cases hq:cget e t k with
   |none=>rw[hq] at hx;cases hx
   |some q=>rw[hq] at hx;cases hx;obtain⟨j,hj⟩:=h5 q hq;obtain⟨a,ha,_⟩:=zab hq;exact⟨j,q.2,hj,hE _ ha⟩
theorem y9c[Dr]{t kt et:TypeId}{x i:Operand}{k:κ}{d:ν}{z:Value}(hk:KeyC P kt e eK)(ht:P.underlying t=some (.map kt et))(hz:tz1 P et=some z)(hd:Ent (eqv z) (E d))
  (hx:Ev s x (romE e eK E m)) (hi:Ev s i (eqv (eK k))):OpQ C ⟨dst,.lookup t x i false,ty,pos,after,guard⟩ s (E ((cget e m k).getD d)):=
 .val λa r w hs=>by
  have h1:=hx a r w hs;have h2:=hi a r w hs;simp only[eqv] at h2
  letI:BEq κ:=bqC e
  obtain⟨es,hl,_,f,hf,hn,hv⟩:=y06 hk h1 k;have hzr:=zlq hz w;cases hg:cget e m k with
  |none=>rw[hn hg] at hf;refine⟨z,?_,hd _ _ _ rfl⟩;simp only[execOp,h2,hl ht,w06,w05,w0j,hk.check,hf,hzr];simp
  |some y=>obtain⟨j',v,hj,hI⟩:=hv y hg;rw[hj] at hf;refine⟨v,?_,hI⟩;simp only[execOp,h2,hl ht,w06,w05,w0j,hk.check,hf];simp
theorem y5d[Dr]{t kt et:TypeId}{x i:Operand}{k:κ}{d:ν}{z:Value}(hk:KeyC P kt e eK)(ht:P.underlying t=some (.map kt et))(hz:tz1 P et=some z)(hd:Ent (eqv z) (E d))
  (hx:Ev s x (romE e eK E m)) (hi:Ev s i (eqv (eK k))):OpQ C ⟨dst,.lookup t x i true,ty,pos,after,guard⟩ s (tupv [E ((cget e m k).getD d),bv (cget e m k).isSome]):=
 .val λa r w hs=>by
  have h1:=hx a r w hs;have h2:=hi a r w hs;simp only[eqv] at h2
  letI:BEq κ:=bqC e
  obtain⟨es,hl,_,f,hf,hn,hv⟩:=y06 hk h1 k;have hzr:=zlq hz w;cases hg:cget e m k with
  |none=>rw[hn hg] at hf;refine⟨.tuple #[z,.bool false],?_,tup2 (hd _ _ _ rfl) rfl⟩;simp only[execOp,h2,hl ht,w06,w05,w0j,hk.check,hf,hzr];simp
  |some y=>obtain⟨j',v,hj,hI⟩:=hv y hg;rw[hj] at hf;refine⟨.tuple #[v,.bool true],?_,tup2 hI rfl⟩;simp only[execOp,h2,hl ht,w06,w05,w0j,hk.check,hf];simp
theorem ydi[Dr]{t kt et:TypeId}{x:Operand}(ht:P.underlying t=some (.map kt et))(hx:Ev s x (romE e eK E m)):OpQ C ⟨dst,.call { callee:=.builtin .len,args:=#[x],argTypes:=#[t] },ty,pos,after,guard⟩ s (iv .i64 m.length):=
 .val λa r w hs=>by
  rcases hx a r w hs with⟨h1,rfl⟩|⟨b,t',h1,hm,hr,⟨h0,es,c,m',h2,h3,h4,h5⟩,hE⟩
  .exact⟨_,z5g (by simp[Builtin.len_,h1,run_underlying ht];rfl),rfl⟩
  .have hl:es.size=m.length:=by have:=congrArg List.length h5;rw[w0x,w0x,h4.length_eq] at this;rw[<- hm];simpa using this
   exact⟨_,z5g (by simp[Builtin.len_,h1,run_underlying ht,w0y h2];rfl),by rw[hl];rfl⟩
end
end Px
end
section
namespace Px
open Go Go.RowKit
set_option linter.unusedSectionVars false
section
variable{κ ν:Type}
def itr(q:Nat)(e:κ->List Int)(eK:κ->Value)(E:ν->VP)(rem:List (κ×ν))(cur:Option (κ×ν)):HP:=
 ⟨λS r w=>S q/\Ndp e rem/\((∃a c d,w.heap[q]? = some (.mapIter none a c d)/\rem = []/\cur=none)\/∃(b:Nat)(es:Array MapEntry)(clock:Nat)(seen:Array Nat)(t:List (κ×(ν×Value))),
   w.heap[q]? = some (.mapIter (some b) clock seen clock)/\r b/\w.heap[b]? = some (.map es clock)/\Stmp es.toList clock/\(t.map (λp=>(p.1,p.2.1))).Perm rem/\
   (es.toList.filter (λx=>!seen.contains x.born)).map (λx=>(x.key,x.val))=t.map (λp=>(eK p.1,p.2.2))/\(∀p∈t,(E p.2.1).h r w p.2.2)/\
   ∀k x,cur=some (k,x)->∃en∈es.toList,seen.back? = some en.born/\en.key=eK k/\(E x).h r w en.val),
  λh1 h2 h3 h=>by
   obtain⟨hS,hnd,h⟩:=h;refine⟨hS,hnd,?_⟩;rcases h with⟨a,c,d,h,h'⟩|⟨b,es,clock,seen,t,a1,a2,a3,a4,a5,a6,a7,a8⟩
   .exact .inl ⟨a,c,d,(h3 _ hS).trans h,h'⟩
   .refine .inr ⟨b,es,clock,seen,t,(h3 _ hS).trans a1,h1 _ a2,(h2 _ a2 (λq=>by rcases q with⟨l,e⟩|⟨l,e⟩<;>(rw[a3] at e;cases e))).trans a3,a4,a5,a6,λp hp=>(E p.2.1).wk h1 h2 (a7 p hp),λk x hc=>?_⟩;obtain⟨en,b1,b2,b3,b4⟩:=a8 k x hc;exact⟨en,b1,b2,b3,(E x).wk h1 h2 b4⟩⟩
variable{e:κ->List Int}{eK:κ->Value}{E:ν->VP}{m rem:List (κ×ν)}{cur:Option (κ×ν)}{q:Nat}
theorem yd7{S r:Nat->Prop}{w:World}(h :(itr q e eK E rem cur).h S r w):(itr q e eK E rem none).h S r w:=by
 obtain⟨hS,hnd,h⟩:=h;refine⟨hS,hnd,?_⟩;rcases h with⟨a,c,d,h1,h2,h3⟩|⟨b,es,clock,seen,t,a1,a2,a3,a4,a5,a6,a7,a8⟩
 .exact .inl ⟨a,c,d,h1,h2,rfl⟩
 .exact .inr ⟨b,es,clock,seen,t,a1,a2,a3,a4,a5,a6,a7,λk x hc=>by cases hc⟩
variable{P:Program}{C:Cx P}{s:St}{dst:Option Tmp}{ty:TypeId}{pos:String}{after:Array Edge}{guard:Option (Nat×Bool)}{K:VP->List HP->Prop}
theorem y9d[Dr]{t kt et:TypeId}{x:Operand}(ht:P.underlying t=some (.map kt et))(hx:Ev s x (romE e eK E m))(k:∀q,K (eqv (.pointer (some ⟨q,0,none⟩))) (s.objs++[itr q e eK E m none])):
  OpT C ⟨dst,.range t x,ty,pos,after,guard⟩ s K:=
 .push (λq=>itr q e eK E m none) (λq=>eqv (.pointer (some ⟨q,0,none⟩))) (λa r S w hw hs=>by
  rcases hx a r w hs with⟨h1,rfl⟩|⟨b,t',h1,hm,hr,⟨h0,es,c,m',h2,h3,h4,h5⟩,hE⟩
  .refine⟨.mapIter none 0 #[] 0,.pointer (some ⟨w.heap.size,0,none⟩),?_,rfl,rfl,List.Pairwise.nil,.inl ⟨0,#[],0,heap_alloc_new w _,rfl,rfl⟩⟩;simp[execOp,h1,Instr.range,run_underlying ht]
  .have hb:b<w.heap.size:=hw.old b hr;have he :(w.alloc (.mapIter (some b) c #[] c)).heap[b]? = some (.map es c):=by rw[heap_alloc_old w _ hb,h2]
   refine⟨.mapIter (some b) c #[] c,.pointer (some ⟨w.heap.size,0,none⟩),?_,rfl,rfl,(by rw[<- hm];exact w2s.2 h0.ndp),.inr ⟨b,es,c,#[],m',heap_alloc_new w _,hr,he,h3,?_,?_,?_,λk x q=>by cases q⟩⟩
   .simp[execOp,h1,Instr.range,run_underlying ht,w0y h2]
   .rw[<- hm];exact h4.map _
   .have e1 :(es.toList.filter λx=>!(#[]:Array Nat).contains x.born)=es.toList:=w3i.2 (λx _=>by simp);rw[e1,h5]
   .intro p hp;exact(E p.2.1).mono (λ_ h=>h) (λb' hb'=>heap_alloc_old w _ (hw.old b' hb')) (hE p (h4.mem_iff.1 hp))) k
theorem zxa{es:List MapEntry}{seen:Array Nat}{en:MapEntry}(hn :(es.map (·.born)).Nodup)(he:en∈es.filter (λx=>!seen.contains x.born)):
  (es.filter (λx=>!seen.contains x.born)).Perm (en::es.filter (λx=>!(seen.push en.born).contains x.born)):=by
 have h1:es.filter (λx=>!(seen.push en.born).contains x.born) =(es.filter (λx=>!seen.contains x.born)).filter (λx=>!(x.born==en.born)):=by
  rw[List.filter_filter];refine w2c λx _=>?_
  rw[Array.contains_push,Bool.not_or,Bool.and_comm]
 rw[h1];have hn' :((es.filter (λx=>!seen.contains x.born)).map (·.born)).Nodup:=(List.filter_sublist.map _).nodup hn;generalize es.filter (λx=>!seen.contains x.born)=l at he hn';clear h1 hn
 induction l with
 |nil=>cases he
 |cons a l ih=>
  simp only[w0e,w1x] at hn';rcases w08.1 he with rfl|he
  .have :(l.filter λx=>!(x.born==en.born))=l:=w3i.2 λx hx=>by
    have:x.born≠en.born:=λq=>hn'.1 (q ▸ w0a.2 ⟨x,hx,rfl⟩)
    simpa using this
   rw[w42 (by simp),this]
  .have hne:a.born≠en.born:=λq=>hn'.1 (q ▸ w0a.2 ⟨en,he,rfl⟩)
   rw[w2q (by simpa using hne)];exact((ih he hn'.2).cons a).trans (List.Perm.swap ..)
theorem ydj[Dr]{X:κ->VP}(hX:∀k,Ent (eqv (eK k)) (X k))(j:Nat){x:Operand}(ho:s.objs[j]? = some (itr q e eK E rem cur))(hx:Ev s x (eqv (.pointer (some ⟨q,0,none⟩))))
  (h0:rem = []->K (tupv [bv false]) s.objs) (h1:∀k y rem',rem.Perm ((k,y)::rem')->K (tupv [bv true,X k,E y]) (s.objs.set j (itr q e eK E rem' (some (k,y))))) :
  OpT C ⟨dst,.next x false,ty,pos,after,guard⟩ s K:=by
 intro a w r S Q hd hn hw hs;have hxv:=hx a r w hs;simp only[eqv] at hxv;have hj:=(w02.1 ho).1;obtain⟨hS,hnd,h⟩:=hw.obj j _ ho;obtain⟨_,hbase,hlt,hnr⟩:=hw.own j q hS;have over:∀(hrun :(Instr.next (.pointer (some ⟨q,0,none⟩)) false ty).run P w = .ok (.tuple #[.bool false]) w),rem = []->(⟨dst,.next x false,ty,pos,after,guard⟩:Oper).wp P a w (λa' w'=>∃v ro' S' x objs',a'=a.put dst v/\Evo C.base r w ro' w'/\WInv C.w0 C.base objs' ro' S' w'/\x.h ro' w' v/\K x objs') Q:=by
  intro hrun hrem;unfold Oper.wp;have :(execOp a.eval ⟨dst,.next x false,ty,pos,after,guard⟩).run P w = .ok (.value (.tuple #[.bool false])) w:=by simp[execOp,hxv,hrun]
  rw[this,Oper.upon_value];refine⟨_,r,S,tupv [bv false],s.objs,rfl,Evo.refl _ _ _,hw,⟨_,rfl,rfl,λi A hi=>?_⟩,h0 hrem⟩
  match i with
  |0=>simp at hi;subst hi;rfl
  |i+1=>simp at hi
 rcases h with⟨a',c',d',h2,h3,h4⟩|⟨b,es,clock,seen,t,a1,a2,a3,a4,a5,a6,a7,a8⟩
 .refine over ?_ h3;simp[Instr.next,getObj,Sem.run,h2]
 .have hold:∀y∈es.toList,y.born<clock:=a4.lt;have ht0:=next_test_false seen es clock clock hold (w0s _);have hb:b<w.heap.size:=hw.old b a2;have hLm:∀y∈(Array.filter (λe=>!seen.contains e.born) es).toList,y.born<clock:=λy hy=>hold y (by simp at hy⊢;exact hy.1)
  have hLl :(Array.filter (λe=>!seen.contains e.born) es).toList=es.toList.filter (λx=>!seen.contains x.born):=Array.toList_filter ..
  generalize hL:Array.filter (λe=>!seen.contains e.born) es=L at hLm hLl;have e1:L.filter (λx=>decide (x.born<clock))=L:=Array.filter_eq_self.2 (λx hx=>by simpa using hLm x (by simpa using hx));have e2:L.filter (λx=>decide (x.born >= clock)) = #[]:=by rw[Array.filter_eq_empty_iff];intro x hx;have:=hLm x (by simpa using hx);simp;omega
  have hlen:L.size=rem.length:=by have h5:=congrArg List.length a6;rw[<- hLl,w0x,w0x] at h5;have h6:=a5.length_eq;rw[w0x] at h6;simp at h5;omega
  by_cases hz:L.size=0
  .have hL0:L = #[]:=w4h hz;refine over ?_ (List.length_eq_zero_iff.1 (by omega));simp only[Instr.next,getObj,w06,Sem.run,a1,a3,Result.andThen,ht0,w0q,if_false,hL,e1,e2,Array.append_empty];subst hL0;simp[choose,Sem.run,Question.forced]
  .have hne:L.isEmpty=false:=by simp[Array.isEmpty,hz]
   have hch:∃(i:Nat)(w1:World),i<L.size/\w1.heap=w.heap/\(∃k,w.drawn<=k/\w1 = { w with drawn:=k })/\(choose (Question.mapNext L.size)).run P w = .ok i w1:=by
    by_cases hf:L.size<=1
    .exact⟨0,w,by omega,rfl,⟨w.drawn,w0s _,rfl⟩,by simp[choose,Sem.run,Question.forced,hf]⟩
    .exact⟨_,w.drew,w4e _ (by omega),rfl,⟨w.drawn+1,w44 _,rfl⟩,by simp only[choose,Sem.run,Question.forced,decide_eq_true_eq,hf,if_false,Question.cut];rfl⟩
   obtain⟨i,w1,hi,hw1,⟨k1,hk1,hw1'⟩,hrun⟩:=hch;have hmem:L[i]∈es.toList.filter (λx=>!seen.contains x.born):=by rw[<- hLl];simp
   have hnext :(Instr.next (.pointer (some ⟨q,0,none⟩)) false ty).run P w = .ok (.tuple #[.bool true,L[i].key,L[i].val]) (setB w1 q (.mapIter (some b) clock (seen.push L[i].born) clock)):=by
    have h1q:w1.heap[q]? = some (.mapIter (some b) clock seen clock):=by rw[hw1];exact a1
    simp only[Instr.next,getObj,w06,Sem.run,a1,a3,Result.andThen,ht0,w0q,if_false,hL,e1,e2,Array.append_empty,hne,Array.empty_append,Array.size_map,hrun,Array.getElem?_map,w1t hi,w0u,setObj,h1q];rfl
   -- the entry that has come,among those that are left
   have hperm:=zxa a4.nd hmem;obtain⟨p,hp,hpe⟩:∃p∈t,(L[i].key,L[i].val) =(eK p.1,p.2.2):=by
    have :(L[i].key,L[i].val)∈t.map (λp=>(eK p.1,p.2.2)):=by rw[<- a6];exact w0a.2 ⟨_,hmem,rfl⟩
    obtain⟨p,hp,h⟩:=w0a.1 this;exact⟨p,hp,h.symm⟩
   -- the rest,in the words of the readings
   have hpm:=hperm.map (λx:MapEntry=>(x.key,x.val));rw[a6] at hpm;obtain⟨t2,ht2,ht2e⟩:=zxz hpm.symm;cases t2 with
   |nil=>simp at ht2e
   |cons p2 t2=>
    simp only[w0e,w28,w0f] at ht2e;obtain⟨⟨hk2,hv2⟩,ht2e⟩:=ht2e;have hp2:p2∈t:=ht2.mem_iff.1 (by simp);have hrem:rem.Perm ((p2.1,p2.2.1)::t2.map (λp=>(p.1,p.2.1))):=a5.symm.trans ((ht2.symm.map (λp:κ×(ν×Value)=>(p.1,p.2.1))));have hw1i:WInv C.w0 C.base s.objs r S w1:=by rw[hw1'];exact hw.drawn k1 hk1
    have hblk:∀b',b'<w1.heap.size->¬S j b'->(setB w1 q (.mapIter (some b) clock (seen.push L[i].born) clock)).heap[b']? = w1.heap[b']?:=λb' _ hb'=>z1e w1 q b' _ (λe=>hb' (e ▸ hS))
    have hother:∀b',b'≠q->(setB w1 q (.mapIter (some b) clock (seen.push L[i].born) clock)).heap[b']? = w.heap[b']?:=λb' hb'=>(z1e w1 q b' _ hb').trans (by rw[hw1])
    have hbq:b≠q:=λe=>hnr (e ▸ a2)
    have hro:∀b',r b'->(setB w1 q (.mapIter (some b) clock (seen.push L[i].born) clock)).heap[b']? = w.heap[b']?:=λb' hb'=>hother b' (λe=>hnr (e ▸ hb'))
    have hH :(itr q e eK E (t2.map (λp=>(p.1,p.2.1))) (some (p2.1,p2.2.1))).h (S j) r (setB w1 q (.mapIter (some b) clock (seen.push L[i].born) clock)):=by
     refine⟨hS,(w0o.1 (hnd.perm hrem)).2,.inr ⟨b,es,clock,seen.push L[i].born,t2,z3h w1 q _ (by rw[hw1];exact hlt),a2,(hother b hbq).trans a3,a4,List.Perm.refl _,ht2e,?_,?_⟩⟩
     .intro p' hp';exact(E p'.2.1).mono (λ_ h=>h) hro (a7 p' (ht2.mem_iff.1 (by simp[hp'])))
     .intro k y hc;cases hc;refine⟨L[i],(w0i.1 hmem).1,by simp,hk2,?_⟩;rw[hv2];exact(E p2.2.1).mono (λ_ h=>h) hro (a7 p2 hp2)
    unfold Oper.wp;have hex :(execOp a.eval ⟨dst,.next x false,ty,pos,after,guard⟩).run P w = .ok (.value (.tuple #[.bool true,L[i].key,L[i].val])) (setB w1 q (.mapIter (some b) clock (seen.push L[i].born) clock)):=by simp[execOp,hxv,hnext]
    rw[hex,Oper.upon_value];refine⟨_,r,_,tupv [bv true,X p2.1,E p2.2.1],_,rfl,?_,hw1i.repl j _ (S j) hj rfl ⟨rfl,w0s _⟩ rfl (by simp[setB]) hblk (λb' hb'=>?_) hH,⟨_,rfl,rfl,λi A hi=>?_⟩,h1 _ _ _ hrem⟩
    .exact⟨λ_ h=>h,hro,λ_ h=>.inl h⟩
    .obtain⟨g1,g2,g3,g4⟩:=hw1i.own j b' hb';exact⟨g2,by simpa[setB] using g3,g4,λj' hj' hS'=>hj' (hw.apart j' j b' hS' hb')⟩
    .match i with
     |0=>simp at hi;subst hi;rfl
     |1=>simp at hi;subst hi;exact hX _ _ _ _ hk2
     |2=>simp at hi;subst hi;show (E p2.2.1).h r _ _;simp only[w07];simp;rw[hv2];exact(E p2.2.1).mono (λ_ h=>h) hro (a7 p2 hp2)
     |i+3=>simp at hi
theorem y9a[Dr](j:Nat){x:Operand}{k:κ}{y:ν}{X:VP}(hX:Ent (eqv (eK k)) X)(ho:ObIs s.objs j (itr q e eK E rem (some (k,y))))(hx:Ev s x (eqv (.pointer (some ⟨q,0,none⟩)))):OpQ C ⟨dst,.entry x,ty,pos,after,guard⟩ s (tupv [X,E y]):=
 .valO λa r S w hw hs=>by
  have h1:=hx a r w hs;simp only[eqv] at h1;obtain⟨hS,hnd,h⟩:=ObIs.at hw ho;rcases h with⟨_,_,_,_,_,h⟩|⟨b,es,clock,seen,t,a1,a2,a3,a4,a5,a6,a7,a8⟩
  .cases h
  .obtain⟨en,b1,b2,b3,b4⟩:=a8 k y rfl;have hf:es.find? (·.born==en.born)=some en:=by rw[<- Array.find?_toList];exact find_born en es.toList a4.nd b1
   refine⟨.tuple #[en.key,en.val],?_,tup2 (hX _ _ _ b3) b4⟩;simp only[execOp,h1,Instr.entry,getObj,w06,Sem.run,a1,a3,Result.andThen,b2,bne_self_eq_false,w0q,if_false,hf];rfl
end
end Px
end
section
namespace Px
open Go Go.RowKit
set_option linter.unusedSectionVars false
section
variable{P:Program}{kt:TypeId}
theorem y8w{q:IntKind}(ht:P.underlying kt=some (.int q)):KeyC P kt (λx:Int=>[x]) (Value.int q):=by
 have e:bqC (λx:Int=>[x]) =(inferInstance:BEq Int):=by show (⟨λa b=>[a]==[b]⟩:BEq Int)=_;congr 1;funext a b;simp only[w4s];show (a==b&&true)=_;rw[Bool.and_true];rfl
 unfold KeyC;rw[e];exact keyI ht
theorem yaz{κ:Type}{e:κ->List Int}{eK:κ->Value}{d:TypeDesc}(hu:P.underlying kt=some d)(hagg:∀a,∃cs,eK a = .agg cs)(hcheck:∀w b k,(Instr.checkKey b 10000 kt (eK k)).run P w = .ok () w)
  (heq:∀w a b,(Op.equal kt (eK a) (eK b)).run P w = .ok (e a==e b) w) (hK:∀a b,e a=e b->eK a=eK b) (hs:∀a,Instr.sameBits 10000 (eK a) (eK a)=true):KeyC P kt e eK:=by
 letI:BEq κ:=bqC e
 refine⟨λw b f=>hcheck w b f,λw k es ks h=>?_,λw k k' h=>?_⟩
 .have ask:∀(es:List MapEntry)(ks:List κ)(i:Nat),es.map (·.key)=ks.map eK->(Instr.findAsking kt (eK k) es i).run P w = .ok (fnd k ks es i) w:=by
   intro es
   induction es with
   |nil=>intro ks i h;cases ks with
    |nil=>simp[Instr.findAsking,fnd]
    |cons a ks=>simp at h
   |cons en es ih=>
    intro ks i h;cases ks with
    |nil=>simp at h
    |cons a ks=>
     simp only[w0e,w28] at h;simp only[Instr.findAsking,w06,h.1,heq w k a,w05,fnd];have hb :(k==a) =(e k==e a):=rfl;rw[hb];cases e k==e a with
     |true=>simp
     |false=>simpa using ih ks (i+1) h.2
  simp only[Instr.findKey,w06,run_underlying hu,w05];cases es with
  |nil=>cases ks with
   |nil=>simp[Instr.findNow,fnd]
   |cons a ks=>simp at h
  |cons en es=>
   cases ks with
   |nil=>simp at h
   |cons a ks=>
    have h':=h;simp only[w0e,w28] at h;have hn:Instr.findNow d (eK k) (en::es) 0=none:=by unfold Instr.findNow;rw[h.1];obtain⟨c1,h1⟩:=hagg k;obtain⟨c2,h2⟩:=hagg a;rw[h1,h2];simp[Instr.sameNow]
    rw[hn];exact ask _ _ 0 h'
 .have hb:e k=e k':=by have :(e k==e k')=true:=h;simpa using this
  rw[hK k k' hb];simp[Instr.keyThatStays,hs]
theorem zjz(l:List Value)(h:∀v∈l,∃q n,v = .int q n):Instr.sameBits 10000 (.agg l.toArray) (.agg l.toArray)=true:=by
 show Instr.sameBits (9999+1) _ _=true;rw[Instr.sameBits];simp only[BEq.rfl,w3d,w0g];intro p hp;obtain⟨x,y⟩:=p;have hxy:x=y:=by have:=List.mem_iff_getElem?.1 hp;obtain⟨j,hj⟩:=this;rw[List.getElem?_zip_eq_some] at hj;rw[hj.1] at hj;simpa using hj.2
 subst hxy;have hm:=(List.of_mem_zip hp).1;obtain⟨q,n,rfl⟩:=h x (by simpa using hm);simp[Instr.sameBits]
theorem y8v{n:Nat}{c:TypeId}{q:IntKind}(hu:P.underlying kt=some (.array n c))(he:P.underlying c=some (.int q))(hE:z3s P c=some (false,1)):KeyC P kt (λf:Nat->Int=>(List.range n).map f) (arrV q n):=by
 have eqA:∀f g:Nat->Int,beqA n f g =((List.range n).map f==(List.range n).map g):=by
  intro f g;unfold beqA;generalize List.range n=l
  induction l with
  |nil=>rfl
  |cons a l ih=>simp only[w1b,w0e,w4s,ih]
 refine yaz hu (λa=>⟨_,rfl⟩) (λw b f=>yf1 hu he hE w b f) (λw f g=>by rw[yf8 hu he hE w f g,eqA]) (λf g h=>?_) (λf=>?_)
 .unfold arrV;congr 2;have :(List.range n).map (λj=>Value.int q (f j)) =((List.range n).map f).map (Value.int q):=by rw[w2e];rfl
  rw[this,h,w2e];rfl
 .exact zjz _ λv hv=>by obtain⟨j,_,rfl⟩:=w0a.1 hv;exact⟨_,_,rfl⟩
def zkx(P:Program):List IntKind->List Field->Nat->Bool
 | [],[],_=>true
 | q :: qs, f :: fs, o => !(f.name == "_") && Nat.beq f.offset o && (match P.underlying f.type with | some (.int q') => decide (q' = q) | _ => false) && (match z3s P f.type with | some (false, 1) => true | _ => false) && zkx P qs fs (o + 1)
 |_,_,_=>false
theorem zra{q:IntKind}{qs:List IntKind}{f:Field}{fs:List Field}{o:Nat}(h:zkx P (q::qs) (f::fs) o=true):
  (f.name == "_") = false /\ f.offset = o /\ P.underlying f.type = some (.int q) /\ z3s P f.type = some (false, 1) /\ zkx P qs fs (o + 1) = true := by
 simp only[zkx,w03,w0z] at h;obtain⟨⟨⟨⟨h1,h2⟩,h3⟩,h4⟩,h5⟩:=h;refine⟨h1,w01 h2,?_,?_,h5⟩
 .split at h3
  .rename_i q' hq;rw[hq];simp at h3;rw[h3]
  .cases h3
 .split at h4
  .assumption
  .cases h4
def zipI:List IntKind->List Int->List Value
 |q::qs,n::ns=>.int q n::zipI qs ns
 |_,_=>[]
theorem ztr:∀(qs:List IntKind)(l:List Int),∀v∈zipI qs l,∃q n,v = .int q n
 | [],_,v,h=>by simp[zipI] at h
 |_::_,[],v,h=>by simp[zipI] at h
 |q::qs,n::l,v,h=>by
  simp only[zipI,w08] at h;rcases h with rfl|h
  .exact⟨_,_,rfl⟩
  .exact ztr qs l v h
theorem zxx{t:TypeId}{vs:Array Value}{o:Nat}{u:Value}(ht:z3s P t=some (false,1))(h:vs.toList[o]? = some u):zqm P t vs o=some u:=by unfold zqm;rw[ht];simpa using h
theorem zz2{n:Nat}: ∀(qs:List IntKind)(fs:List Field)(o:Nat)(as bs:List Int)(xs ys:Array Value),zkx P qs fs o=true->as.length=qs.length->bs.length=qs.length->
  xs.toList.drop o=zipI qs as->ys.toList.drop o=zipI qs bs->
  eqL (fun f => if f.name == "_" then none else match zqm P f.type xs f.offset, zqm P f.type ys f.offset with | some a, some b => eqN P (n + 1) f.type a b | _, _ => none) fs = some (as == bs)
 | [],[],o,[],[],xs,ys,_,_,_,_,_=>rfl
 |q::qs,f::fs,o,a::as,b::bs,xs,ys,h,h1,h2,h3,h4=>by
  obtain⟨k1,k2,k3,k4,k5⟩:=zra h;have g:∀(l:List Value)(v:Value)(r:List Value),l.drop o=v::r->l[o]? = some v/\l.drop (o+1)=r:=by
   intro l v r hl;constructor
   .have :(l.drop o)[0]? = some v:=by rw[hl];rfl
    simpa using this
   .rw[<- w3e,hl];rfl
  obtain⟨g1,g2⟩:=g _ _ _ h3;obtain⟨g3,g4⟩:=g _ _ _ h4;unfold eqL;simp only[k1,w0q,if_false,k2,zxx k4 g1,zxx k4 g3];have e1:eqN P (n+1) f.type (.int q a) (.int q b)=some (a==b):=by unfold eqN;rw[k3];simp[y3c]
  have e2:=zz2 (n:=n) qs fs (o+1) as bs xs ys k5 (by simpa using h1) (by simpa using h2) g2 g4;rw[e1];simp only[e2,w4s]
 | [],_::_,_,_,_,_,_,h,_,_,_,_=>by simp[zkx] at h
 |_::_,[],_,_,_,_,_,h,_,_,_,_=>by simp[zkx] at h
 | [],[],_,_::_,_,_,_,_,h,_,_,_=>by simp at h
 | [],[],_,[],_::_,_,_,_,_,h,_,_=>by simp at h
 |_::_,_::_,_,[],_,_,_,_,h,_,_,_=>by simp at h
 |_::_,_::_,_,_::_,[],_,_,_,_,h,_,_=>by simp at h
theorem zr0{w:World}{b:Bool}{n:Nat}: ∀(qs:List IntKind)(fs:List Field)(o:Nat)(as:List Int)(xs:Array Value),zkx P qs fs o=true->as.length=qs.length->xs.toList.drop o=zipI qs as->
  (forIn (m:=Sem) fs PUnit.unit λf r=>do
   if f.name ≠ "_" then
    let __do_lift <- part f.type xs f.offset
    Instr.checkKey b (n+1) f.type __do_lift
    pure (ForInStep.yield PUnit.unit)
   else
    pure (ForInStep.yield PUnit.unit)).run P w = .ok PUnit.unit w
 | [],[],o,[],xs,_,_,_=>by simp
 |q::qs,f::fs,o,a::as,xs,h,h1,h3=>by
  obtain⟨k1,k2,k3,k4,k5⟩:=zra h;have g1:xs.toList[o]? = some (.int q a):=by
   have :(xs.toList.drop o)[0]? = some (.int q a):=by rw[h3];rfl
   simpa using this
  have g2:xs.toList.drop (o+1)=zipI qs as:=by rw[<- w3e,h3];rfl
  have hc :(Instr.checkKey b (n+1) f.type (.int q a)).run P w = .ok () w:=by rw[Instr.checkKey];simp[run_underlying k3]
  have hn : f.name ≠ "_" := by simpa using k1
  have hp :(part f.type xs f.offset).run P w = .ok (.int q a) w:=zgn w (by rw[k2];exact zxx k4 g1);simp only[List.forIn_cons,hn,ne_eq,not_false_eq_true,if_true,w06,hp,w05,hc,w0j];exact zr0 qs fs (o+1) as xs k5 (by simpa using h1) g2
 | [],_::_,_,_,_,h,_,_=>by simp[zkx] at h
 |_::_,[],_,_,_,h,_,_=>by simp[zkx] at h
 | [],[],_,_::_,_,_,h,_=>by simp at h
 |_::_,_::_,_,[],_,_,h,_=>by simp at h
theorem yd8{κ:Type}{e:κ->List Int}{fs:Array Field}{qs:List IntKind}(hu:P.underlying kt=some (.struct fs))(hs:P.stoodInHeld kt=false)(hq:zkx P qs fs.toList 0=true)(hl:∀x,(e x).length=qs.length):
  KeyC P kt e λx=>.agg (zipI qs (e x)).toArray:=by
 refine yaz hu (λa=>⟨_,rfl⟩) (λw b k=>?_) (λw a b=>?_) (λa b h=>by rw[h]) (λa=>zjz _ (ztr _ _))
 .show (Instr.checkKey b (9999+1) kt _).run P w=_;rw[Instr.checkKey];simp only[w06,run_underlying hu,w05];rw[<- Array.forIn_toList];have:=zr0 (w:=w) (b:=b) (n:=9998) qs fs.toList 0 (e k) (zipI qs (e k)).toArray hq (hl k) (by simp);simp only[ne_eq,ite_not] at this⊢;rw[this];rfl
 .refine zlh w ?_;show eqN P (7+1) kt _ _=_;unfold eqN;rw[hu];simp only[hs,w0q,if_false];have:=zz2 (n:=6) qs fs.toList 0 (e a) (e b) (zipI qs (e a)).toArray (zipI qs (e b)).toArray hq (hl a) (hl b) (by simp) (by simp);exact this
end
end Px
end
section
namespace Px
open Go Go.RowKit
abbrev Tup(T:Nat->Type):List Nat->Type
 | []=>Unit
 |c::cs=>T c×Tup T cs
inductive Ds (T:Nat->Type):Type->Type 1 where
 |int (k:IntKind):Ds T Int
 |bool:Ds T Bool
 |str:Ds T ByteArray
 |sl (c:Nat):Ds T (List (T c))
 |arr (n c:Nat):Ds T (Nat->T c)
 |map (kc vc:Nat):Ds T (List (T kc×T vc))
 |st {α:Type} (fs:List Nat) (mk:Tup T fs->α) (un:α->Tup T fs) (law:∀t,un (mk t)=t):Ds T α
def dsLt{T:Nat->Type}(b:Nat): {α:Type}->Ds T α->Bool
 |_,.sl c=>Nat.blt c b
 |_,.arr _ c=>Nat.blt c b
 |_,.map kc vc=>Nat.blt kc b&&Nat.blt vc b
 |_,.st fs _ _ _=>fs.all (Nat.blt · b)
 |_,_=>true
structure TE where
 T:Nat->Type
 d :(c:Nat)->Ds T (T c)
 z :(c:Nat)->T c
 code:Nat->Nat
 wf:∀c,dsLt c (d c)=true
inductive SV (T:Nat->Type) where
 |int (k:IntKind) (n:Int)
 |bool (b:Bool)
 |str (s:ByteArray)
 |val (v:Value)
 |arr (n c:Nat) (f:Nat->T c)
 |agg (cs:List (SV T))
 |tup (xs:List (SV T))
 |ro (c:Nat) (l:List (T c))
 |rop (cs:List (SV T))
 |ptr (i off:Nat)
 |own (i:Nat)
 |elt (i:Nat) (k:Int) (z fo:Nat)
 |pta (i off n z idx cnt fo:Nat)      -- into an array within a variable: n elements of z cells from off on;the elements idx .. idx+cnt-1
 |prt (i lo hi z:Nat)                 -- a part of a slice of the call's own
 |func (f:Nat) (caps:List (SV T))
 |rom (kc vc:Nat) (m:List (T kc×T vc))      -- a map that is only read
 |cmp (c:Nat) (f:T c->T c->Option Int)
 |und
 |top
section forms
variable{T:Nat->Type}
def szD(g:Nat->Nat): {α:Type}->Ds T α->Nat
 |_,.arr n c=>n*g c
 |_,.st fs _ _ _=>fs.foldr (λc s=>g c+s) 0
 |_,_=>1
def encT(g :(c:Nat)->T c->List (SV T)):(fs:List Nat)->Tup T fs->List (SV T)
 | [],_=>[]
 |c::cs,x=>g c x.1++encT g cs x.2
def encD(g :(c:Nat)->T c->List (SV T)): {α:Type}->Ds T α->α->List (SV T)
 |_,.int k,x=>[.int k x]
 |_,.bool,x=>[.bool x]
 |_,.str,x=>[.str x]
 |_,.sl c,x=>[.ro c x]
 |_,.arr n c,x=>[.arr n c x]
 |_,.map kc vc,x=>[.rom kc vc x]
 |_,.st fs _ un _,x=>encT g fs (un x)
def evT(g :(c:Nat)->T c->List VP):(fs:List Nat)->Tup T fs->List VP
 | [],_=>[]
 |c::cs,x=>g c x.1++evT g cs x.2
def evD(g :(c:Nat)->T c->List VP)(M :(kc vc:Nat)->List (T kc×T vc)->VP)(sz:Nat->Nat): {α:Type}->Ds T α->α->List VP
 |_,.int k,x=>[iv k x]
 |_,.bool,x=>[bv x]
 |_,.str,x=>[eqv (.string x)]
 |_,.sl c,x=>[Px.ro (g c) (sz c) x]
 |_,.arr n c,x=>Px.arr n (g c) x
 |_,.map kc vc,x=>[M kc vc x]
 |_,.st fs _ un _,x=>evT g fs (un x)
def z5u : {α:Type}->Ds T α->Bool
 |_,.arr ..=>true
 |_,.st ..=>true
 |_,_=>false
end forms
def klS{T:Nat->Type}: {α:Type}->Ds T α->α->Int
 |_,.int _,x=>x
 |_,_,_=>0
def kvS{T:Nat->Type}: {α:Type}->Ds T α->α->Value
 |_,.int k,x=>.int k x
 |_,.bool,x=>.bool x
 |_,.str,x=>.string x
 |_,_,_=>undef
def klT{T:Nat->Type}(g :(c:Nat)->T c->Int):(fs:List Nat)->Tup T fs->List Int
 | [],_=>[]
 |c::cs,x=>g c x.1::klT g cs x.2
def kvT{T:Nat->Type}(g :(c:Nat)->T c->Value):(fs:List Nat)->Tup T fs->List Value
 | [],_=>[]
 |c::cs,x=>g c x.1::kvT g cs x.2
def klF{T:Nat->Type}(g :(c:Nat)->T c->Int): {α:Type}->Ds T α->α->List Int
 |_,.arr n c,f=>(List.range n).map λj=>g c (f j)
 |_,.st fs _ un _,x=>klT g fs (un x)
 |_,d,x=>[klS d x]
def kvF{T:Nat->Type}(g :(c:Nat)->T c->Value): {α:Type}->Ds T α->α->Value
 |_,.arr n c,f=>.agg ((List.range n).map λj=>g c (f j)).toArray
 |_,.st fs _ un _,x=>.agg (kvT g fs (un x)).toArray
 |_,d,x=>kvS d x
def y0z{T:Nat->Type}: {α:Type}->Ds T α->Bool
 |_,.int _=>true
 |_,_=>false
def keyF{T:Nat->Type}(g:Nat->Bool): {α:Type}->Ds T α->Bool
 |_,.int _=>true
 |_,.arr _ c=>g c
 |_,.st fs _ _ _=>fs.all g
 |_,_=>false
section te
variable(V:TE)
def TE.kv(c:Nat)(x:V.T c):Value:=kvF (λc=>kvS (V.d c)) (V.d c) x
def TE.kl(c:Nat)(x:V.T c):List Int:=klF (λc=>klS (V.d c)) (V.d c) x
def TE.key(c:Nat):Bool:=keyF (λc=>y0z (V.d c)) (V.d c)
def TE.mv(g :(c:Nat)->V.T c->List VP)(kc vc:Nat)(m:List (V.T kc×V.T vc)):VP:=romE (V.kl kc) (V.kv kc) (λy=>bif z5u (V.d vc) then Px.agg (g vc y) else(g vc y).headD topv) m
def szN:Nat->Nat->Nat
 |0,_=>0
 |n+1,c=>szD (szN n) (V.d c)
def TE.sz(c:Nat):Nat:=szN V (c+1) c
def encN:Nat->(c:Nat)->V.T c->List (SV V.T)
 |0,_,_=>[]
 |n+1,c,x=>encD (encN n) (V.d c) x
def TE.enc(c:Nat)(x:V.T c):List (SV V.T):=encN V (c+1) c x
def evN:Nat->(c:Nat)->V.T c->List VP
 |0,_,_=>[]
 |n+1,c,x=>evD (evN n) (V.mv (evN n)) V.sz (V.d c) x
def TE.ev(c:Nat)(x:V.T c):List VP:=evN V (c+1) c x
def yf6{T:Nat->Type}(l:List (SV T)): {α:Type}->Ds T α->α->SV T
 |_,.int k,x=>.int k x
 |_,.bool,x=>.bool x
 |_,.str,x=>.str x
 |_,.sl c,x=>.ro c x
 |_,.map kc vc,x=>.rom kc vc x
 |_,_,_=>.agg l
def TE.encV(c:Nat)(x:V.T c):SV V.T:=yf6 (V.enc c x) (V.d c) x
def vlF{T:Nat->Type}(g :(c:Nat)->T c->List VP)(M :(kc vc:Nat)->List (T kc×T vc)->VP)(sz:Nat->Nat)(l:List VP): {α:Type}->Ds T α->α->VP
 |_,.int k,x=>iv k x
 |_,.bool,x=>bv x
 |_,.str,x=>eqv (.string x)
 |_,.sl c,x=>Px.ro (g c) (sz c) x
 |_,.map kc vc,x=>M kc vc x
 |_,_,_=>Px.agg l
def TE.vl(c:Nat)(x:V.T c):VP:=vlF V.ev (V.mv V.ev) V.sz (V.ev c x) (V.d c) x
section congr
variable{T:Nat->Type}
theorem zwa{g g':Nat->Nat}{b:Nat}(h:∀c,c<b->g c=g' c):∀{α:Type}(d:Ds T α),dsLt b d=true->szD g d=szD g' d
 |_,.int _,_=>rfl
 |_,.bool,_=>rfl
 |_,.str,_=>rfl
 |_,.sl _,_=>rfl
 |_,.map _ _,_=>rfl
 |_,.arr n c,hl=>by simp only[dsLt,w23] at hl;simp only[szD,h c hl]
 |_,.st fs mk un law,hl=>by
  simp only[dsLt] at hl;simp only[szD];clear mk un law
  induction fs with
  |nil=>rfl
  |cons c cs ih=>simp only[w1b,w03,w23] at hl;simp only[w55,h c hl.1,ih hl.2]
theorem zr6{g g' :(c:Nat)->T c->List (SV T)}{b:Nat}(h:∀c,c<b->∀x,g c x=g' c x):∀(fs:List Nat)(x:Tup T fs),fs.all (Nat.blt · b)=true->encT g fs x=encT g' fs x
 | [],_,_=>rfl
 |c::cs,x,hl=>by simp only[w1b,w03,w23] at hl;simp only[encT,h c hl.1,zr6 h cs x.2 hl.2]
theorem zr5{g g' :(c:Nat)->T c->List (SV T)}{b:Nat}(h:∀c,c<b->∀x,g c x=g' c x):∀{α:Type}(d:Ds T α)(x:α),dsLt b d=true->encD g d x=encD g' d x
 |_,.int _,_,_=>rfl
 |_,.bool,_,_=>rfl
 |_,.str,_,_=>rfl
 |_,.sl _,_,_=>rfl
 |_,.map _ _,_,_=>rfl
 |_,.arr _ _,_,_=>rfl
 |_,.st fs _ un _,x,hl=>zr6 h fs (un x) hl
theorem zuo{g g' :(c:Nat)->T c->List VP}{b:Nat}(h:∀c,c<b->g c=g' c):∀(fs:List Nat)(x:Tup T fs),fs.all (Nat.blt · b)=true->evT g fs x=evT g' fs x
 | [],_,_=>rfl
 |c::cs,x,hl=>by simp only[w1b,w03,w23] at hl;simp only[evT,h c hl.1,zuo h cs x.2 hl.2]
theorem zun{g g' :(c:Nat)->T c->List VP}{M M' :(kc vc:Nat)->List (T kc×T vc)->VP}{sz:Nat->Nat}{b:Nat}(h:∀c,c<b->g c=g' c)(hM:∀kc vc,vc<b->M kc vc=M' kc vc):∀{α:Type}(d:Ds T α)(x:α),dsLt b d=true->evD g M sz d x=evD g' M' sz d x
 |_,.int _,_,_=>rfl
 |_,.bool,_,_=>rfl
 |_,.str,_,_=>rfl
 |_,.sl c,_,hl=>by simp only[dsLt,w23] at hl;simp only[evD,h c hl]
 |_,.arr n c,_,hl=>by simp only[dsLt,w23] at hl;simp only[evD,h c hl]
 |_,.map kc vc,_,hl=>by simp only[dsLt,w03,w23] at hl;simp only[evD,hM kc vc hl.2]
 |_,.st fs _ un _,x,hl=>zuo h fs (un x) hl
end congr
theorem ygs:∀(c n m:Nat),c<n->c<m->szN V n c=szN V m c:=by
 intro c
 induction c using Nat.strongRecOn with
 |_ c ih=>
  intro n m hn hm
  match n,m with
  |n+1,m+1=>exact zwa (λc' hc=>ih c' hc n m (by omega) (by omega)) (V.d c) (V.wf c)
theorem ych:∀(c n m:Nat),c<n->c<m->∀x,encN V n c x=encN V m c x:=by
 intro c
 induction c using Nat.strongRecOn with
 |_ c ih=>
  intro n m hn hm x
  match n,m with
  |n+1,m+1=>exact zr5 (λc' hc=>ih c' hc n m (by omega) (by omega)) (V.d c) x (V.wf c)
theorem yau:∀(c n m:Nat),c<n->c<m->evN V n c=evN V m c:=by
 intro c
 induction c using Nat.strongRecOn with
 |_ c ih=>
  intro n m hn hm
  match n,m with
  |n+1,m+1=>funext x;exact zun (λc' hc=>ih c' hc n m (by omega) (by omega)) (λkc vc hv=>by unfold TE.mv;rw[ih vc hv n m (by omega) (by omega)]) (V.d c) x (V.wf c)
theorem TE.sz_eq(c:Nat):V.sz c=szD V.sz (V.d c):=zwa (λc' hc=>ygs V c' _ _ hc (w3r _)) (V.d c) (V.wf c)
theorem TE.enc_eq(c:Nat)(x:V.T c):V.enc c x=encD V.enc (V.d c) x:=zr5 (λc' hc x=>ych V c' _ _ hc (w3r _) x) (V.d c) x (V.wf c)
theorem TE.ev_eq(c:Nat)(x:V.T c):V.ev c x=evD V.ev (V.mv V.ev) V.sz (V.d c) x:=zun (λc' hc=>yau V c' _ _ hc (w3r _)) (λkc vc hv=>by unfold TE.mv;rw[show evN V c vc=V.ev vc from yau V vc _ _ hv (w3r _)]) (V.d c) x (V.wf c)
theorem y3e{T:Nat->Type}{g :(c:Nat)->T c->List VP}{sz:Nat->Nat}{b:Nat}(h:∀c,c<b->∀x,(g c x).length=sz c):∀(fs:List Nat)(x:Tup T fs),fs.all (Nat.blt · b)=true->
  (evT g fs x).length=fs.foldr (λc s=>sz c+s) 0
 | [],_,_=>rfl
 |c::cs,x,hl=>by simp only[w1b,w03,w23] at hl;simp only[evT,w0d,h c hl.1,y3e h cs x.2 hl.2,w55]
theorem TE.ev_len:∀(c:Nat)(x:V.T c),(V.ev c x).length=V.sz c:=by
 intro c
 induction c using Nat.strongRecOn with
 |_ c ih=>
  intro x;rw[V.ev_eq,V.sz_eq];have hl:=V.wf c;revert x hl;generalize V.d c=d;generalize V.T c=α at d;intro x hl;cases d with
  |int k=>rfl
  |bool=>rfl
  |str=>rfl
  |sl c'=>rfl
  |map kc vc=>rfl
  |arr n c'=>simp only[dsLt,w23] at hl;exact zfk (ih c' hl)
  |st fs mk un law=>exact y3e ih fs (un x) hl
end te
end Px
end
section
namespace Px
open Go Go.RowKit
inductive XO (T:Nat->Type) where
 |map (kc vc E:Nat) (m:List (T kc×T vc)) (h:Option (T kc×Nat))      -- E: the elements' type,where the values are slices;the value that stands apart: its key,its object
 |it (kc vc:Nat) (rem:List (T kc×T vc)) (cur:Option (T kc×T vc))      -- an iterator over a map that is only read
 |nst (E E2 c:Nat) (l:List (T c)) (h:Option (Int×Nat))
 |fix (E c:Nat) (l:List (T c))
inductive SO (T:Nat->Type) where
 |box (t:Nat) (cs:List (SV T))
 |row (E c:Nat) (l:List (T c))
 |x (o:XO T)
 |emp
def yaj{T:Nat->Type}: SV T->Option Value
 | .int k n=>some (.int k n)
 | .bool b=>some (.bool b)
 | .str s=>some (.string s)
 |_=>none
def zq1{T:Nat->Type}: List (SV T)->Option (List Value)
 | []=>some []
 |x::l=>match yaj x,zq1 l with
  |some v,some vs=>some (v::vs)
  |_,_=>none
def zcc{T:Nat->Type}: {α:Type}->Ds T α->α->(c:Nat)×List (T c)
 |_,.sl c,x=>⟨c,x⟩
 |_,_,_=>⟨0,[]⟩
def y8s{T:Nat->Type}(c':Nat)(l:List (T c')): {α:Type}->Ds T α->Option α
 |_,.sl c=>if h:c'=c then some (h ▸ l) else none
 |_,_=>none
def zv6{T:Nat->Type}: {α:Type}->Ds T α->Bool
 |_,.sl _=>true
 |_,_=>false
def zxj{T:Nat->Type}: {α:Type}->Ds T α->Bool
 |_,.bool=>true
 |_,_=>false
def zbd{T:Nat->Type}: {α:Type}->Ds T α->Bool
 |_,.int _=>true
 |_,.bool=>true
 |_,.str=>true
 |_,_=>false
abbrev Ch:=List (Nat×Bool)
abbrev Sls(T:Nat->Type):=List (Nat×Ch×SV T)
structure Fm(T:Nat->Type)where
 sl:Sls T
 gb:List (Nat×Bool)
 kn:Ch
 n:Nat
structure SS(T:Nat->Type)extends Fm T where
 stk:List (Fm T)
 ob:List (SO T)
def lk{α:Type}: List (Nat×α)->Nat->Option α
 | [],_=>none
 |(k,x)::l,t=>bif Nat.beq k t then some x else lk l t
abbrev Asg:=List (Nat×Value)
def eltp(sv:Value)(k:Int)(off:Nat):VP:=⟨λ_ _ v=>∃g n cap,sv = .slice (some ⟨g,0,none⟩) n cap/\v = .pointer (some ⟨g,off,none⟩)/\0<=k/\k<(n:Int),λ_ _ h=>h⟩
theorem zsd{sv:Value}{k:Int}{off:Nat}: Ent (eltp sv k off) (rowp sv off):=λr w v ⟨g,n,cap,h1,h2,_⟩=>⟨g,n,cap,h1,h2⟩
def nov:VP:=⟨λ_ _ _=>False,λ_ _ h=>h⟩
section
variable(V:TE)(P:Program)
mutual
def SV.den[Dr](A:Asg):SV V.T->VP
 | .int k n=>iv k n
 | .bool b=>bv b
 | .str s=>eqv (.string s)
 | .val v=>eqv v
 | .arr n c f=>Px.agg (Px.arr n (V.ev c) f)
 | .agg cs=>Px.agg (denL A cs)
 | .tup xs=>tupv (denV A xs)
 | .ro c l=>Px.ro (V.ev c) (V.sz c) l
 | .rop cs=>Px.rop (denL A cs)
 | .rom kc vc m=>V.mv V.ev kc vc m
 | .ptr i off=>match A[i]? with
  |some (b,_)=>eqv (.pointer (some ⟨b,off,none⟩))
  |none=>nov
 | .own i=>match A[i]? with
  |some (_,v)=>eqv v
  |none=>nov
 | .elt i k z fo=>match A[i]? with
  |some (_,v)=>eltp v k (k.toNat*z+fo)
  |none=>nov
 | .pta i off n z idx cnt fo=>match A[i]? with
  |some (b,_)=>⟨λ_ _ v=>idx+cnt<=n/\v = .pointer (some ⟨b,off+idx*z+fo,none⟩),λ_ _ h=>h⟩
  |none=>nov
 | .prt i lo hi z=>match A[i]? with
  |some (_,v)=>prtp v lo hi z
  |none=>nov
 | .und=>eqv undef
 | .func f caps=>fnc f (denV A caps)
 | .cmp c f=>fcmp P (λx=>V.vl c x) f
 | .top=>topv
def denL[Dr](A:Asg):List (SV V.T)->List VP
 | []=>[]
 | .arr n c f::l=>Px.arr n (V.ev c) f++denL A l
 |x::l=>SV.den A x::denL A l
def denV[Dr](A:Asg):List (SV V.T)->List VP
 | []=>[]
 |x::l=>SV.den A x::denV A l
end
def TE.inmD(E:Nat): {α:Type}->Ds V.T α->α->Value->HP
 |_,.sl c,x,v=>Px.row E (V.ev c) (V.sz c) x v
 |_,.map kc vc,x,v=>⟨λS r w=>∃b,v = .map (some b)/\(nmp b (V.kl kc) (V.kv kc) (plI (V.kv vc)) x none).h S r w,λh1 h2 h3 ⟨b,hv,h⟩=>⟨b,hv,(nmp ..).wk h1 h2 h3 h⟩⟩
 |_,d,x,v=>⟨λ_ _ _=>v=kvF (λc=>kvS (V.d c)) d x,λ_ _ _ h=>h⟩
def TE.inm(E c:Nat)(x:V.T c)(v:Value):HP:=V.inmD E (V.d c) x v
def zbc{κ:Type}(A:Asg):Option (κ×Nat)->Option (κ×Value)
 |some (k,j)=>some (k,match A[j]? with|some q=>q.2|none=>undef)
 |none=>none
def TE.inn(E2 c:Nat)(x:V.T c)(v:Value):HP:=Px.row E2 (V.ev (zcc (V.d c) x).1) (V.sz (zcc (V.d c) x).1) (zcc (V.d c) x).2 v
def andH(p:Prop)(H:HP):HP:=⟨λS r w=>p/\H.h S r w,λh1 h2 h3 h=>⟨h.1,H.wk h1 h2 h3 h.2⟩⟩
def exSl(v:Value):Prop:=∃g n,v = .slice (some ⟨g,0,none⟩) n n
def zgc(A:Asg):Option (Int×Nat)->Option (Nat×Value)
 |some (k,j)=>some (k.toNat,match A[j]? with|some q=>q.2|none=>undef)
 |none=>none
def XO.den(A:Asg)(p:Nat×Value):XO V.T->HP
 | .map kc vc E m h=>andH (p.2 = .map (some p.1)/\∀k j,h=some (k,j)->(A[j]?).isSome=true) (nmp p.1 (V.kl kc) (V.kv kc) (V.inm E vc) m (zbc A h))
 | .it kc vc rem cur=>andH (p.2 = .pointer (some ⟨p.1,0,none⟩)) (itr p.1 (V.kl kc) (V.kv kc) (λy=>V.vl vc y) rem cur)
 | .nst E E2 c l h=>andH (zv6 (V.d c)=true/\∀k j,h=some (k,j)->(A[j]?).isSome=true) (Px.nst E (V.inn E2 c) l (zgc A h) p.2)
 | .fix E c l=>andH (zxj (V.d c)=true/\exSl p.2) (Px.row E (V.ev c) (V.sz c) l p.2)
def SO.den[Dr](A:Asg)(p:Nat×Value):SO V.T->HP
 | .box t cs=>Px.box p.1 t (denL V P A cs)
 | .row E c l=>Px.row E (V.ev c) (V.sz c) l p.2
 | .x o=>o.den V A p
 | .emp=>Px.emp
def obD[Dr](A:Asg):Asg->List (SO V.T)->List HP
 |p::ps,o::os=>o.den V P A p::obD A ps os
 |_,_=>[]
def chP(gb:List (Nat×Bool)):Ch->Prop
 | []=>True
 | [(t,w)]=>(lk gb t).getD false=w
 |(t,w)::r=>chP gb r/\(lk gb t).getD false=w
def ybz(gb:List (Nat×Bool)):(ch:Ch)->Decidable (chP gb ch)
 | []=>.isTrue trivial
 | [(t,w)]=>instDecidableEqBool ((lk gb t).getD false) w
 |(t,w)::a::r=>@instDecidableAnd _ _ (ybz gb (a::r)) (instDecidableEqBool ((lk gb t).getD false) w)
def denE[Dr](A:Asg)(gb:List (Nat×Bool))(e:Ch×SV V.T):VP:=match e.1 with
 | []=>e.2.den V P A
 |ch=>cnd (chP gb ch) (e.2.den V P A)
def slD[Dr](A:Asg)(gb:List (Nat×Bool))(sl:Sls V.T):z8a:=λt=>(lk sl t).map (denE V P A gb)
def SS.st[Dr](A:Asg)(s:SS V.T):St:=⟨slD V P A s.gb s.sl,obD V P A A s.ob⟩
theorem z1r[Dr](A:Asg):∀(l m:List (SV V.T)),denL V P A (l++m)=denL V P A l++denL V P A m
 | [],m=>by simp[denL]
 | .arr n c f::l,m=>by simp only[w2a,denL,z1r A l m,w0t]
 | .int ..::l,m | .bool ..::l,m | .str ..::l,m | .val ..::l,m | .agg ..::l,m | .tup ..::l,m | .ro ..::l,m | .rop ..::l,m | .ptr ..::l,m | .own ..::l,m | .elt ..::l,m | .pta ..::l,m | .prt ..::l,m | .und::l,m
 | .func ..::l,m | .rom ..::l,m | .cmp ..::l,m | .top::l,m=>by simp only[w2a,denL,z1r A l m]
theorem zuj[Dr](A:Asg){b:Nat}(h:∀c,c<b->∀x,denL V P A (V.enc c x)=V.ev c x):∀(fs:List Nat)(x:Tup V.T fs),fs.all (Nat.blt · b)=true->denL V P A (encT V.enc fs x)=evT V.ev fs x
 | [],_,_=>by simp[encT,evT,denL]
 |c::cs,x,hl=>by simp only[w1b,w03,w23] at hl;simp only[encT,evT,z1r,h c hl.1,zuj A h cs x.2 hl.2]
theorem z1b[Dr](A:Asg):∀(c:Nat)(x:V.T c),denL V P A (V.enc c x)=V.ev c x:=by
 intro c
 induction c using Nat.strongRecOn with
 |_ c ih=>
  intro x;rw[V.ev_eq,V.enc_eq];have hl:=V.wf c;revert x hl;generalize V.d c=d;generalize V.T c=α at d;intro x hl;cases d with
  |int k=>rfl
  |bool=>rfl
  |str=>rfl
  |sl c'=>rfl
  |map kc vc=>rfl
  |arr n c'=>simp[encD,evD,denL]
  |st fs mk un law=>exact zuj V P A ih fs (un x) hl
theorem z30[Dr](A:Asg)(c:Nat)(x:V.T c):(V.encV c x).den V P A=V.vl c x:=by have h1:=z1b V P A c x;revert h1;unfold TE.encV TE.vl;generalize V.enc c x=l;generalize V.ev c x=m;intro h;subst h;revert x;generalize V.d c=d;generalize V.T c=α at d;intro x;cases d<;>simp[yf6,vlF,SV.den]
def F2(R:VP->VP->Prop):List VP->List VP->Prop
 | [],[]=>True
 |a::l,b::m=>R a b/\F2 R l m
 |_,_=>False
theorem F2.append{R:VP->VP->Prop}: ∀{a b c d:List VP},F2 R a c->F2 R b d->F2 R (a++b) (c++d)
 | [],_,[],_,_,h=>h
 |_::_,_,_::_,_,h,k=>⟨h.1,F2.append h.2 k⟩
theorem F2.refl{R:VP->VP->Prop}(h:∀a,R a a):∀(l:List VP),F2 R l l
 | []=>trivial
 |a::l=>⟨h a,F2.refl h l⟩
theorem F2.ents:∀{a b:List VP},F2 Ent a b->Ents a b
 | [],[],_=>trivial
 |_::_,_::_,h=>⟨h.1,F2.ents h.2⟩
theorem F2.fents[Dr]{C:Cx P}{s:St}: ∀{a b:List VP},F2 (FEnt C s) a b->zka C s a b
 | [],[],_=>trivial
 |_::_,_::_,h=>⟨h.1,F2.fents h.2⟩
def rdSl{T:Nat->Type}(ob:List (SO T))(c:Nat):SV T->Option (List (T c))
 | .ro c' l=>if h:c'=c then some (h ▸ l) else none
 | .own i=>match ob[i]? with
  |some (.row _ c' l)=>if h:c'=c then some (h ▸ l) else none
  |some (.x (.fix _ c' l))=>if h:c'=c then some (h ▸ l) else none
  |_=>none
 | .val (.slice none 0 0)=>some []
 |_=>none
def rdB{T:Nat->Type}(ob:List (SO T))(c:Nat):SV T->Option (List (T c))
 | .ro c' l=>if h:c'=c then some (h ▸ l) else none
 | .own i=>match ob[i]? with
  |some (.x (.fix _ c' l))=>if h:c'=c then some (h ▸ l) else none
  |_=>none
 | .val (.slice none 0 0)=>some []
 |_=>none
def decT{T:Nat->Type}(g :(c:Nat)->List (SV T)->Option (T c×List (SV T))):(fs:List Nat)->List (SV T)->Option (Tup T fs×List (SV T))
 | [],l=>some ((),l)
 |c::cs,l=>match g c l with
  |some (x,l)=>match decT g cs l with
   |some (y,l)=>some ((x,y),l)
   |none=>none
  |none=>none
def rdMp{T:Nat->Type}(rd :(c:Nat)->SV T->Option (List (T c)))(kc vc:Nat):SV T->Option (List (T kc×T vc))
 | .rom kc' vc' m=>if h:kc'=kc then(if h2:vc'=vc then some (h ▸ h2 ▸ m) else none) else none
 | .val (.map none)=>match rd kc (.val (.slice none 0 0)) with|some _=>some []|none=>none
 |_=>none
def decD{T:Nat->Type}(rd :(c:Nat)->SV T->Option (List (T c)))(g :(c:Nat)->List (SV T)->Option (T c×List (SV T))): {α:Type}->Ds T α->List (SV T)->Option (α×List (SV T))
 |_,.int k,.int k' x::r=>if k=k' then some (x,r) else none
 |_,.bool,.bool x::r=>some (x,r)
 |_,.str,.str x::r=>some (x,r)
 |_,.sl c,x::r=>match rd c x with|some l=>some (l,r)|none=>none
 |_,.map kc vc,x::r=>match rdMp rd kc vc x with|some l=>some (l,r)|none=>none
 |_,.arr n c,.arr n' c' f::r=>if h:c'=c then(if n=n' then some (h ▸ f,r) else none) else none
 |_,.st fs mk _ _,l=>match decT g fs l with|some (t,r)=>some (mk t,r)|none=>none
 |_,_,_=>none
def decN(rd :(c:Nat)->SV V.T->Option (List (V.T c))):Nat->(c:Nat)->List (SV V.T)->Option (V.T c×List (SV V.T))
 |0,_,_=>none
 |n+1,c,l=>decD rd (decN rd n) (V.d c) l
def rdE{T:Nat->Type}(c:Nat):SV T->Option (List (T c))
 | .ro c' l=>if h:c'=c then some (h ▸ l) else none
 |_=>none
def cellsOf{T:Nat->Type}: SV T->List (SV T)
 | .agg cs=>cs
 |x=>[x]
def TE.decC(rd :(c:Nat)->SV V.T->Option (List (V.T c)))(c:Nat)(l:List (SV V.T)):Option (V.T c):=match decN V rd (c+1) c l with
 |some (y,[])=>some y
 |_=>none
def z15{T:Nat->Type}: SV T->Bool
 | .agg _=>true
 | .arr ..=>true
 |_=>false
def TE.dec(rd :(c:Nat)->SV V.T->Option (List (V.T c)))(c:Nat)(x:SV V.T):Option (V.T c):=bif z5u (V.d c)==z15 x then V.decC rd c (cellsOf x) else none
section dec
variable{V P}{A:Asg}{rd :(c:Nat)->SV V.T->Option (List (V.T c))}{R:VP->VP->Prop}
theorem y2y[Dr](g :(c:Nat)->List (SV V.T)->Option (V.T c×List (SV V.T)))(hg:∀c l x r,g c l=some (x,r)->∃pre,l=pre++r/\F2 R (denL V P A pre) (V.ev c x)):
  ∀(fs:List Nat)(l:List (SV V.T))(x:Tup V.T fs)(r:List (SV V.T)),decT g fs l=some (x,r)->∃pre,l=pre++r/\F2 R (denL V P A pre) (evT V.ev fs x)
 | [],l,x,r,h=>by simp only[decT,w00,w0f] at h;exact⟨[],by simp[h.2],trivial⟩
 |c::cs,l,x,r,h=>by
  simp only[decT] at h;cases h1:g c l with
  |none=>rw[h1] at h;cases h
  |some p=>
   obtain⟨y,l'⟩:=p;rw[h1] at h;simp only at h;cases h2:decT g cs l' with
   |none=>rw[h2] at h;cases h
   |some q=>obtain⟨z,l''⟩:=q;rw[h2] at h;simp only[w00,w0f] at h;obtain⟨rfl,rfl⟩:=h;obtain⟨p1,e1,f1⟩:=hg c l y l' h1;obtain⟨p2,e2,f2⟩:=y2y g hg cs l' z l'' h2;exact⟨p1++p2,by rw[e1,e2,w0t],by rw[z1r];exact f1.append f2⟩
theorem ycb[Dr](hna:∀c n d(f:Nat->V.T d)l,rd c (.arr n d f)=some l->False)(hm:∀c l,rd c (.val (.slice none 0 0))=some l->∀kc vc,R (eqv (.map none)) (V.mv V.ev kc vc []))(hR:∀a,R a a)(hr:∀c y l,rd c y=some l->R (y.den V P A) (Px.ro (V.ev c) (V.sz c) l))(g :(c:Nat)->List (SV V.T)->Option (V.T c×List (SV V.T)))
  (hg:∀c l x r,g c l=some (x,r)->∃pre,l=pre++r/\F2 R (denL V P A pre) (V.ev c x)):∀{α:Type}(d:Ds V.T α)(l:List (SV V.T))(x:α)(r:List (SV V.T)),decD rd g d l=some (x,r)->
  ∃pre,l=pre++r/\F2 R (denL V P A pre) (evD V.ev (V.mv V.ev) V.sz d x):=by
 intro α d l x r h;cases d with
 |int k=>
  cases l with
  |nil=>simp[decD] at h
  |cons y l'=>
   cases y<;>simp only[decD,reduceCtorEq] at h;split at h
   .simp only[w00,w0f] at h;obtain⟨rfl,rfl⟩:=h;rename_i k' _ e;subst e;exact⟨[.int k _],rfl,hR _,trivial⟩
   .cases h
 |bool=>
  cases l with
  |nil=>simp[decD] at h
  |cons y l'=>cases y<;>simp only[decD,reduceCtorEq] at h;simp only[w00,w0f] at h;obtain⟨rfl,rfl⟩:=h;exact⟨[.bool _],rfl,hR _,trivial⟩
 |str=>
  cases l with
  |nil=>simp[decD] at h
  |cons y l'=>cases y<;>simp only[decD,reduceCtorEq] at h;simp only[w00,w0f] at h;obtain⟨rfl,rfl⟩:=h;exact⟨[.str _],rfl,hR _,trivial⟩
 |sl c=>
  match l with
  | []=>simp[decD] at h
  |y::l'=>
   simp only[decD] at h;cases h1:rd c y with
   |none=>rw[h1] at h;cases h
   |some z=>rw[h1] at h;simp only[w00,w0f] at h;obtain⟨rfl,rfl⟩:=h;refine⟨[y],rfl,?_⟩;have:=hr c y z h1;cases y<;>first|exact⟨this,trivial⟩|exact(hna _ _ _ _ _ h1).elim
 |map kc vc=>
  match l with
  | []=>simp[decD] at h
  |y::l'=>
   simp only[decD] at h;cases h1:rdMp rd kc vc y with
   |none=>rw[h1] at h;cases h
   |some z=>
    rw[h1] at h;simp only[w00,w0f] at h;obtain⟨rfl,rfl⟩:=h;refine⟨[y],rfl,?_⟩;unfold rdMp at h1;split at h1
    .split at h1
     .rename_i e;subst e;split at h1
      .rename_i e;subst e;cases h1;exact⟨hR _,trivial⟩
      .cases h1
     .cases h1
    .split at h1
     .rename_i q hq;cases h1;exact⟨hm _ _ hq kc vc,trivial⟩
     .cases h1
    .cases h1
 |arr n c=>
  cases l with
  |nil=>simp[decD] at h
  |cons y l'=>
   cases y<;>simp only[decD,reduceCtorEq] at h;split at h
   .rename_i e;subst e;split at h
    .rename_i e;subst e;simp only[w00,w0f] at h;obtain⟨rfl,rfl⟩:=h;refine⟨[.arr _ _ _],rfl,?_⟩;simp only[denL,w0b,evD];exact F2.refl hR _
    .cases h
   .cases h
 |st fs mk un law=>
  simp only[decD] at h;cases h1:decT g fs l with
  |none=>rw[h1] at h;cases h
  |some p=>obtain⟨t,r'⟩:=p;rw[h1] at h;simp only[w00,w0f] at h;obtain⟨rfl,rfl⟩:=h;obtain⟨pre,e,f⟩:=y2y g hg fs l t r' h1;exact⟨pre,e,by simpa only[evD,law] using f⟩
theorem zs7[Dr](hna:∀c n d(f:Nat->V.T d)l,rd c (.arr n d f)=some l->False)(hm:∀c l,rd c (.val (.slice none 0 0))=some l->∀kc vc,R (eqv (.map none)) (V.mv V.ev kc vc []))(hR:∀a,R a a)(hr:∀c y l,rd c y=some l->R (y.den V P A) (Px.ro (V.ev c) (V.sz c) l)):∀(n c:Nat)(l:List (SV V.T))(x:V.T c)(r:List (SV V.T)),decN V rd n c l=some (x,r)->
  ∃pre,l=pre++r/\F2 R (denL V P A pre) (V.ev c x)
 |0,_,_,_,_,h=>by simp[decN] at h
 |n+1,c,l,x,r,h=>by rw[V.ev_eq];exact ycb hna hm hR hr (decN V rd n) (zs7 hna hm hR hr n) (V.d c) l x r h
theorem zfw[Dr](hna:∀c n d(f:Nat->V.T d)l,rd c (.arr n d f)=some l->False)(hm:∀c l,rd c (.val (.slice none 0 0))=some l->∀kc vc,R (eqv (.map none)) (V.mv V.ev kc vc []))(hR:∀a,R a a)(hr:∀c y l,rd c y=some l->R (y.den V P A) (Px.ro (V.ev c) (V.sz c) l)){c:Nat}{l:List (SV V.T)}{y:V.T c}(h:V.decC rd c l=some y):
  F2 R (denL V P A l) (V.ev c y):=by
 unfold TE.decC at h;cases h1:decN V rd (c+1) c l with
 |none=>rw[h1] at h;cases h
 |some p=>
  obtain⟨z,r⟩:=p;rw[h1] at h;cases r with
  |cons a r=>cases h
  |nil=>simp only[w00] at h;subst h;obtain⟨pre,e,f⟩:=zs7 hna hm hR hr _ _ _ _ _ h1;rw[w0b] at e;rw[e];exact f
theorem zmc{c:Nat}(y:V.T c)(h:z5u (V.d c)=true):V.vl c y=Px.agg (V.ev c y):=by unfold TE.vl;revert y h;generalize V.ev c=e;generalize V.d c=d;revert e d;generalize V.T c=α;intro e d y h;cases d<;>simp[z5u] at h<;>rfl
theorem zq2{c:Nat}(y:V.T c)(h:z5u (V.d c)=false):V.ev c y = [V.vl c y]:=by rw[V.ev_eq];unfold TE.vl;revert y h;generalize V.ev c=e;generalize V.d c=d;revert e d;generalize V.T c=α;intro e d y h;cases d<;>simp[z5u] at h<;>rfl
theorem y2z[Dr](hna:∀c n d(f:Nat->V.T d)l,rd c (.arr n d f)=some l->False)(hm:∀c l,rd c (.val (.slice none 0 0))=some l->∀kc vc,R (eqv (.map none)) (V.mv V.ev kc vc []))(hR:∀a,R a a)(hr:∀c y l,rd c y=some l->R (y.den V P A) (Px.ro (V.ev c) (V.sz c) l))(hg:∀cs ds,F2 R cs ds->R (Px.agg cs) (Px.agg ds)){c:Nat}{x:SV V.T}{y:V.T c}(h:V.dec rd c x=some y):
  R (x.den V P A) (V.vl c y):=by
 unfold TE.dec at h;cases hb :(z5u (V.d c)==z15 x) with
 |false=>rw[hb] at h;cases h
 |true=>
  rw[hb] at h;have h2:=zfw (P:=P) (A:=A) hna hm hR hr h;simp only[beq_iff_eq] at hb;cases ha:z5u (V.d c) with
  |true=>rw[ha] at hb;rw[zmc y ha];cases x<;>simp[z15] at hb<;>simp only[cellsOf,denL,w0b] at h2<;>exact hg _ _ h2
  |false=>rw[ha] at hb;rw[zq2 y ha] at h2;cases x<;>simp[z15] at hb<;>simp only[cellsOf,denL] at h2<;>exact h2.1
theorem zrk{R:VP->VP->Prop}: ∀(c:Nat)(l:List (V.T c)),rdE c (.val (.slice none 0 0):SV V.T)=some l->∀kc vc,R (eqv (.map none)) (V.mv V.ev kc vc []):=λc l h=>by simp[rdE] at h
theorem zlg{kc vc:Nat}: Ent (eqv (.map none)) (V.mv V.ev kc vc []):=λr w v h=>.inl ⟨h,rfl⟩
theorem y1e(kc vc:Nat)(m:List (V.T kc×V.T vc)):V.mv V.ev kc vc m=romE (V.kl kc) (V.kv kc) (λy=>V.vl vc y) m:=by
 unfold TE.mv;congr 1;funext y;cases ha:z5u (V.d vc) with
 |true=>rw[zmc y ha];rfl
 |false=>rw[zq2 y ha];rfl
theorem zpp(ob:List (SO V.T)):∀c n d(f:Nat->V.T d)l,rdSl ob c (.arr n d f)=some l->False:=λc n d f l h=>by simp[rdSl] at h
theorem zrj:∀c n d(f:Nat->V.T d)l,rdE c (.arr n d f)=some l->False:=λc n d f l h=>by simp[rdE] at h
theorem zri[Dr]{c:Nat}{y:SV V.T}{l:List (V.T c)}(h:rdE c y=some l):y.den V P A=Px.ro (V.ev c) (V.sz c) l:=by
 unfold rdE at h;split at h
 .split at h
  .rename_i e;subst e;simp only[w00] at h;subst h;rfl
  .cases h
 .cases h
theorem zwh:∀{a b:List VP},F2 Eq a b->a=b
 | [],[],_=>rfl
 |_::_,_::_,h=>by rw[h.1,zwh h.2]
theorem ztb[Dr]{c:Nat}{y:SV V.T}{l:List (V.T c)}(h:rdSl [] c y=some l):Ent (y.den V P A) (Px.ro (V.ev c) (V.sz c) l):=by
 unfold rdSl at h;split at h
 .split at h
  .rename_i e;subst e;simp only[w00] at h;subst h;exact Ent.refl
  .cases h
 .simp at h
 .simp only[w00] at h;subst h;exact Ent.nil
 .cases h
end dec
end
end Px
end
section
namespace Px
open Go Go.RowKit
def zu7(b:ByteArray):List Int:=b.data.toList.map λy=>(y.toNat:Int)
theorem WInv.addRo[Dr]{w0 w w':World}{base:Nat}{objs:List HP}{r:Nat->Prop}{S:Nat->Nat->Prop}(h:WInv w0 base objs r S w){nb:Nat}(hos:w'.os=w.os)(htp:w'.tape=w.tape/\w.drawn<=w'.drawn)(hout:w'.output=w.output)
  (hold:∀b,b<w.heap.size->w'.heap[b]? = w.heap[b]?) (hnb:nb=w.heap.size) (hsz:w'.heap.size=w.heap.size+1):WInv w0 base objs (λb=>r b\/b=nb) S w'/\Evo base r w (λb=>r b\/b=nb) w' where
 left:={
  below:=h.below.trans ⟨⟨hos,htp.1,hout,by omega,λk hk=>hold k (by have:=h.size;omega)⟩,λ_=>htp.2⟩
  size:=by have:=h.size;omega
  obj:=λi H hi=>H.mono (w:=w) (λ_ hb=>.inl hb) (λb hb=>hold b (h.old b hb)) (λb hb=>hold b (h.own i b hb).2.2.1) (h.obj i H hi)
  own:=λi b hb=>by obtain⟨h1,h2,h3,h4⟩:=h.own i b hb;exact⟨h1,h2,by omega,λq=>q.elim h4 λe=>by omega⟩
  apart:=h.apart
  old:=λb hb=>by
   rcases hb with hb|rfl
   .have:=h.old b hb;omega
   .omega }
 right:=⟨λ_ hb=>.inl hb,λb hb=>hold b (h.old b hb),λb hb=>hb.elim .inl λe=>.inr (by have:=h.size;omega)⟩
section
variable{P:Program}{C:Cx P}{s:St}{dst:Option Tmp}{ty:TypeId}{pos:String}{after:Array Edge}{guard:Option (Nat×Bool)}
theorem ygc[Dr]{t:TypeId}{x:Operand}{k:IntKind}{m:Int}(hx:Ev s x (iv k m)):OpQ C ⟨dst,.unOp .xor t x,ty,pos,after,guard⟩ s (iv k (k.wrap (BitVec.ofInt k.bits (if k.signed then-1 else k.max) ^^^ BitVec.ofInt k.bits m).toNat)):=
 .val λa ro w hs=>⟨_,by have h1:=hx a ro w hs;simp only[iv,eqv] at h1;simp only[execOp,h1,Op.unary,Op.intBits,w06,w0j,w05],rfl⟩
theorem zvu{w:World}{t:TypeId}{b:ByteArray}{lo hi:Nat}{low high:Option Value}(h:P.underlying t=some .string)(hlo:low=none/\lo=0\/∃k,low=some (.int k (lo:Int)))
  (hhi:high=none/\hi=b.size\/∃k,high=some (.int k (hi:Int))) (h1:lo<=hi) (h2:hi<=b.size) :
  (Instr.sliceAt t (.string b) low high none).run P w = .ok (.string (b.extract lo hi)) w:=by
 have e1 :((hi:Int)<=(b.size:Int))=True:=by simp;omega
 have e2 :((lo:Int)<=(hi:Int))=True:=by simp;omega
 rcases hlo with⟨rfl,rfl⟩|⟨k,rfl⟩<;>rcases hhi with⟨rfl,rfl⟩|⟨k',rfl⟩<;>
  simp[Instr.sliceAt,Instr.slice,Instr.sliceBounds,Instr.sliceBound,asIntOf,run_underlying h,e1,e2,h1,h2]
theorem y9u[Dr]{b:ByteArray}{t:TypeId}{x:Operand}{lo hi:Option Operand}{m n:Nat}(ht:P.underlying t=some .string)(h:Ev s x (eqv (.string b)))(hlo:BdE s lo m 0)(hhi:BdE s hi n b.size)
  (h1:m<=n) (h2:n<=b.size):OpQ C ⟨dst,.slice t x lo hi none,ty,pos,after,guard⟩ s (eqv (.string (b.extract m n))):=
 .val λa r w hs=>by
  have h3:=h a r w hs;simp only[eqv] at h3;have q1:lo.map a.eval=none/\m=0\/∃k,lo.map a.eval=some (.int k (m:Int)):=by
   cases lo with
   |none=>exact .inl ⟨rfl,hlo⟩
   |some o=>obtain⟨k,hk⟩:=hlo;exact .inr ⟨k,congrArg some (hk a r w hs)⟩
  have q2:hi.map a.eval=none/\n=b.size\/∃k,hi.map a.eval=some (.int k (n:Int)):=by
   cases hi with
   |none=>exact .inl ⟨rfl,hhi⟩
   |some o=>obtain⟨k,hk⟩:=hhi;exact .inr ⟨k,congrArg some (hk a r w hs)⟩
  exact⟨_,by simp only[execOp,h3,w2t,w06,zvu (w:=w) ht q1 q2 h1 h2];rfl,rfl⟩
theorem y5u[Dr]{α:Type}{e:α->List VP}{sz N:Nat}{f:Nat->α}{cs:List VP}{t:TypeId}{x:Operand}(ht:tidx P t=some (true,N,sz))(he:∀x,(e x).length=sz)(h:Ev s x (rop (arr N e f++cs))):
  OpQ C ⟨dst,.slice t x none none none,ty,pos,after,guard⟩ s (ro e sz ((List.range N).map f)):=
 .val λa r w hs=>by
  obtain⟨b,o,hx,hr,hh⟩:=h a r w hs;obtain⟨E,inf,hu,hi,hsz⟩:=y0g ht;refine⟨.slice (some ⟨b,o,none⟩) N N,?_,.inr ⟨b,o,0,by simp,λi y hy=>⟨hr,?_⟩⟩⟩
  .simp only[execOp,hx,w2t,w06];have :(Instr.sliceAt t (.pointer (some ⟨b,o,none⟩)) none none none).run P w = .ok (.slice (some ⟨b,o,none⟩) N N) w:=by simp[Instr.sliceAt,Instr.sliceBounds,run_underlying hu,Go.sizeOf,typeInfo,hi,Instr.sureAddr,asAddr,Addr.add]
   rw[this];rfl
  .have hk:i<N:=by have:=(w02.1 hy).1;simpa using this
   have hy':y=f i:=by rw[w1a,List.getElem?_range hk] at hy;simpa using hy.symm
   have hl:=zfk (N:=N) (f:=f) he;have hle :(i+1)*sz<=N*sz:=w13 _ hk;rw[w16] at hle;have:=(hh.drop (i*sz)).take sz;rw[w2b (by omega),w21 (by rw[w3p];omega),zqw he hk] at this;rw[hy'];exact this
theorem ydn[Dr]{b:ByteArray}{src d E:TypeId}{x:Operand}(hs:P.underlying src=some .string)(hd:P.underlying d=some (.slice E))(he:P.underlying E=some (.int .u8))(hx:Ev s x (eqv (.string b))):
  OpQ C ⟨dst,.convert src d x,ty,pos,after,guard⟩ s (ro (λn:Int=>[iv .u8 n]) 1 (zu7 b)):=by
 intro a w r S Q hdf hn hw hsl;have h1:=hx a r w hsl;simp only[eqv] at h1;unfold Oper.wp;simp only[execOp,h1,w06,Lib.run_convert_string_bytes w src d E b hs hd he,w05,w0j,Oper.upon_value];obtain⟨i1,i2⟩:=hw.addRo (w':=Lib.bytesWorld w E b) (nb:=w.heap.size) rfl ⟨rfl,by simp[Lib.bytesWorld,World.freeze,World.alloc,World.drew,-World.alloc_eq,-World.drew_eq]⟩ rfl (λk hk=>Lib.bytesWorld_at_old w E b k hk) rfl (Lib.bytesWorld_size w E b);refine⟨_,_,S,_,_,rfl,i2,i1,?_,rfl,rfl⟩;have hl :(zu7 b).length=b.size:=by unfold zu7;rw[w0x,w1y];rfl
 have hge:=grownCap_ge w b.size 0 E;refine .inr ⟨w.heap.size,0,grownCap w b.size 0 E-b.size,by rw[hl,w2m hge],λi y hi=>⟨.inr rfl,λj A hj=>?_⟩⟩;have hib:i<b.size:=by rw[<- hl];exact(w02.1 hi).1
 match j with
 |j+1=>simp at hj
 |0=>
  simp only[w1z,w00] at hj;subst hj;refine⟨_,by rw[show 0+i*1+0=i by omega];exact Lib.bytesWorld_cell w E b i hib,?_,rfl⟩;have hg:b.data.toList[i]? = some (b.data.toList[i]'(by rw[w1y];exact hib)):=w09 _;have hy:y =(((b.data.toList[i]'(by rw[w1y];exact hib)).toNat:Nat):Int):=by unfold zu7 at hi;rw[w1a,hg] at hi;simpa using hi.symm
  show Value.int .u8 _=Value.int .u8 y;rw[hy,w1q,hg];rfl
end
end Px
end
section
namespace Px
open Go Go.RowKit
inductive RC where
 |val (c:Nat)
 |row (E c:Nat)
abbrev RTup(T:Nat->Type):List RC->Type
 | []=>Unit
 | .val c::l=>T c×RTup T l
 | .row _ c::l=>List (T c)×RTup T l
structure Fsp(V:TE)where
 args:List Nat
 res:List RC
 F:Tup V.T args->Option (RTup V.T res)
inductive MA where
 |fn (f:Nat)
 |val (c:Nat)
 |cmp (c:Nat)
abbrev MA.T(T:Nat->Type):MA->Type
 | .fn _=>Unit
 | .val c=>T c
 | .cmp c=>T c->T c->Option Int
abbrev MTup(T:Nat->Type):List MA->Type
 | []=>Unit
 |m::ms=>m.T T×MTup T ms
structure Msp(V:TE)where
 E:Nat
 c:Nat
 ms:List MA
 F:List (V.T c)->MTup V.T ms->Option (List (V.T c))
inductive KB where
 |val (c:Nat)
 |map (kc vc:Nat)
inductive KC where
 |b (k:KB)
 |fn (f:Nat) (ks:List KB)
abbrev KB.T(T:Nat->Type):KB->Type
 | .val c=>T c
 | .map kc vc=>List (T kc×T vc)
abbrev KBs(T:Nat->Type):List KB->Type
 | []=>Unit
 |k::ks=>k.T T×KBs T ks
abbrev KC.T(T:Nat->Type):KC->Type
 | .b k=>k.T T
 | .fn _ ks=>KBs T ks
abbrev KCs(T:Nat->Type):List KC->Type
 | []=>Unit
 |k::ks=>k.T T×KCs T ks
structure Csp(V:TE)where
 args:List Nat
 caps:List KC
 res:List RC
 F:Tup V.T args->KCs V.T caps->Option (RTup V.T res)
structure SoSp where
 g:Nat
 kc:Nat
 vc:Nat
 E:Nat
structure Env(V:TE)where
 P:Program
 fn:Nat->Option (Fsp V)
 mu:Nat->Option (Msp V)
 cl:Nat->Option (Csp V)
 so:Nat->Option SoSp
def inI:List Int->Bool
 | [n]=>decide (-9223372036854775808<=n)&&decide (n<9223372036854775808)
 |_=>false
def soK{κ ν:Type}(e:κ->List Int)(m:List (κ×ν)):Bool:=m.all (λp=>inI (e p.1))&&Nat.ble m.length 17592186044416
section
variable{T:Nat->Type}
def inCh(c:Ch)(p:Nat×Bool):Bool:=c.any λq=>Nat.beq q.1 p.1&&(q.2==p.2)
def y6s(a b:Ch):Bool:=a.all (inCh b)
def zt9:Value->SV T
 | .int k n=>.int k n
 | .bool b=>.bool b
 | .string s=>.str s
 |v=>.val v
def evO(sl:Sls T)(cur:Ch):Operand->Option (SV T)
 | .tmp t=>match lk sl t with
  |some (ch,x)=>bif y6s ch cur then some x else none
  |none=>none
 | .const v=>some (zt9 v)
 | .func f=>some (.func f [])
 | .global _=>none
def ckG{R:Type}(gb:List (Nat×Bool))(cur:Ch)(p:Prop)[Decidable p](k:Option R):Option R:=match cur with
 | []=>ck p k
 |c=>@ck R (chP gb c->p) (@instDecidableForall _ _ (ybz gb c) _) k
def z0a{α:Type}(z:α)(p:Prop)[Decidable p](x:Option α):Option α:=if p then x else some z
def zry{α R:Type}(gb:List (Nat×Bool))(cur:Ch)(z:α)(x:Option α)(k:α->Option R):Option R:=match cur with
 | []=>x.bind k
 |c=>(@z0a _ z (chP gb c) (ybz gb c) x).bind k
def gtz{α:Type}(z:α)(l:List α)(i:Int):α:=l.getD i.toNat z
def y0b:List (SV T)->Option (SV T)
 | [x]=>some x
 |_=>none
def intOf:SV T->Option (IntKind×Int)
 | .int k n=>some (k,n)
 |_=>none
def zii:SV T->Option Bool
 | .bool b=>some b
 |_=>none
def y0y(sl:Sls T)(cur:Ch)(k:IntKind):List Operand->Option (List Int)
 | []=>some []
 |o::os=>match evO sl cur o with
  |some (.int k' n)=>if k'=k then(match y0y sl cur k os with
   |some l=>some (n::l)
   |none=>none) else none
  |_=>none
end
section
variable(V:TE)(N:Env V){R:Type}
def csz:SV V.T->Nat
 | .arr n c _=>n*V.sz c
 |_=>1
def z6u:List (SV V.T)->Nat->Option (List (SV V.T))
 | [],n=>bif Nat.beq n 0 then some [] else none
 |x::l,n=>bif Nat.beq n 0 then some (x::l) else bif Nat.ble (csz V x) n then z6u l (n-csz V x) else none
def znu:List (SV V.T)->Nat->Option (List (SV V.T))
 | [],n=>bif Nat.beq n 0 then some [] else none
 |x::l,n=>bif Nat.beq n 0 then some [] else bif Nat.ble (csz V x) n then(match znu l (n-csz V x) with
  |some m=>some (x::m)
  |none=>none) else none
def splC(l:List (SV V.T))(o:Nat)(new:List (SV V.T))(n:Nat):Option (List (SV V.T)):=match znu V l o,z6u V l (o+n) with
 |some a,some b=>some (a++new++b)
 |_,_=>none
def splA(l:List (SV V.T))(o:Nat)(new:List (SV V.T))(n:Nat):Option (List (SV V.T)):=match l with
 | [.arr m c f]=>bif Nat.beq n (V.sz c)&&Nat.beq (o % n) 0&&Nat.ble (o / n+1) m then(match V.decC rdE c new with
  |some y=>some [.arr m c (upd f (o / n) y)]
  |none=>none) else none
 |_=>none
def splL(l:List (SV V.T))(o:Nat)(new:List (SV V.T))(n:Nat):Option (List (SV V.T)):=match splC V l o new n with
 |some m=>some m
 |none=>splA V l o new n
def clen(l:List (SV V.T)):Nat:=l.foldr (λx n=>csz V x+n) 0
def beqZ:Value->Value->Bool
 | .int k n,.int k' m=>decide (k=k')&&decide (n=m)
 | .bool a,.bool b=>a==b
 | .string a,.string b=>a.size==0&&b.size==0
 | .slice none 0 0,.slice none 0 0=>true
 | .pointer none,.pointer none=>true
 | .map none,.map none=>true
 | .nilFunc,.nilFunc=>true
 |_,_=>false
def zD{T:Nat->Type}(g:Nat->List (SV T))(z :(c:Nat)->T c): {α:Type}->Ds T α->List (SV T)
 |_,.int k=>[.int k 0]
 |_,.bool=>[.bool false]
 |_,.str=>[.str ⟨#[]⟩]
 |_,.sl _=>[.val (.slice none 0 0)]
 |_,.map _ _=>[.val (.map none)]
 |_,.arr n c=>[.arr n c λ_=>z c]
 |_,.st fs _ _ _=>fs.flatMap g
def zN:Nat->Nat->List (SV V.T)
 |0,_=>[]
 |n+1,c=>zD (zN n) V.z (V.d c)
def TE.zero(c:Nat):List (SV V.T):=zN V (c+1) c
def zmV(vs:List Value):SV V.T->Bool
 | .int k n=>match vs with | [v]=>beqZ (.int k n) v|_=>false
 | .bool b=>match vs with | [v]=>beqZ (.bool b) v|_=>false
 | .str s=>match vs with | [v]=>beqZ (.string s) v|_=>false
 | .val u=>match vs with | [v]=>beqZ u v|_=>false
 |_=>false
def zmL:List (SV V.T)->List Value->Bool
 | [],[]=>true
 |x::l,v::vs=>zmV V [v] x&&zmL l vs
 |_,_=>false
def zmA(m:List (SV V.T)):Nat->List Value->Bool
 |0,vs=>vs.isEmpty
 |n+1,vs=>zmL V m (vs.take m.length)&&zmA m n (vs.drop m.length)
def zf9:List (SV V.T)->List Value->Bool
 | [],[]=>true
 | .arr n c f::l,vs=>zmA V (V.enc c (V.z c)) n (vs.take (n*V.sz c))&&zf9 l (vs.drop (n*V.sz c))
 |x::l,v::vs=>zmV V [v] x&&zf9 l vs
 |_,_=>false
def fixZ:List (SV V.T)->List (SV V.T)
 | []=>[]
 | .arr n c _::l=>.arr n c (λ_=>V.z c)::fixZ l
 |x::l=>x::fixZ l
def scl(k:Int)(m:Nat):Nat:=bif Nat.beq m 1 then k.toNat else k.toNat*m
def zwo(gb:List (Nat×Bool))(cur:Ch)(op:BinOp)(yc:Operand)(k:IntKind)(m n:Int)(c:SV V.T->Option R):Option R:=match op with
 | .add=>c (.int k (k.wrap (m+n)))
 | .sub=>c (.int k (k.wrap (m-n)))
 | .mul=>c (.int k (k.wrap (m*n)))
 | .and=>c (.int k (k.wrap (BitVec.ofInt k.bits m&&& BitVec.ofInt k.bits n).toNat))
 | .or=>c (.int k (k.wrap (BitVec.ofInt k.bits m||| BitVec.ofInt k.bits n).toNat))
 | .xor=>c (.int k (k.wrap (BitVec.ofInt k.bits m ^^^ BitVec.ofInt k.bits n).toNat))
 | .quo=>ckD yc (n≠0) (c (.int k (k.wrap (m.tdiv n))))
 | .rem=>ckD yc (n≠0) (c (.int k (m.tmod n)))
 | .eql=>c (.bool (m==n))
 | .neq=>c (.bool (m !=n))
 | .lss=>c (.bool (decide (m<n)))
 | .leq=>c (.bool (decide (m<=n)))
 | .gtr=>c (.bool (decide (n<m)))
 | .geq=>c (.bool (decide (n<=m)))
 |_=>none
 where ckD (yc:Operand) (p:Prop) [Decidable p] (x:Option R):Option R:=match yc with
 | .const _=>if p then x else none
 |_=>ckG gb cur p x
def shift(gb:List (Nat×Bool))(cur:Ch)(op:BinOp)(yc:Operand)(k:IntKind)(m n:Int)(c:SV V.T->Option R):Option R:=match op,yc with
 | .shl,.const _=>if 0<=n then c (.int k (k.wrap (m*2 ^ (min n.toNat k.bits)))) else none
 | .shr,.const _=>if 0<=n then c (.int k (m.fdiv (2 ^ (min n.toNat k.bits)))) else none
 | .shl,_=>ckG gb cur (0<=n) (c (.int k (k.wrap (m*2 ^ (min n.toNat k.bits)))))
 | .shr,_=>ckG gb cur (0<=n) (c (.int k (m.fdiv (2 ^ (min n.toNat k.bits)))))
 |_,_=>none
def zsu:BinOp->Bool
 | .shl=>true
 | .shr=>true
 |_=>false
def xpd:List (SV V.T)->List (SV V.T)
 | []=>[]
 | .arr n c f::l=>(List.range n).flatMap (λi=>V.enc c (f i))++xpd l
 |x::l=>x::xpd l
def y0l{T:Nat->Type}: SV T->List (SV T)
 | .agg xs=>xs
 |x=>[x]
def binX(s:SS V.T)(cur:Ch)(op:BinOp)(t:TypeId)(y:Operand)(a b:SV V.T)(k:SV V.T->Option R):Option R:=match a,b with
 | .int i m,.int j n=>bif zsu op then shift V s.gb cur op y i m n k else(if i=j then zwo V s.gb cur op y i m n k else none)
 | .bool m,.bool n=>match op,N.P.underlying t with
  | .eql,some .bool=>k (.bool (m==n))
  | .neq,some .bool=>k (.bool (m !=n))
  |_,_=>none
 | .str m,.str n=>match op,N.P.underlying t with
  | .eql,some .string=>k (.bool (m==n))
  | .neq,some .string=>k (.bool (m !=n))
  |_,_=>none
 | .own i,.val (.map none)=>match op,N.P.underlying t,s.ob[i]? with
  | .eql,some (.map _ _),some (.x (.map ..))=>k (.bool false)
  |_,_,_=>none
 | .val (.map none),.val (.map none)=>match op,N.P.underlying t with
  | .eql,some (.map _ _)=>k (.bool true)
  |_,_=>none
 | .val (.slice ad _ _),.val (.slice none 0 0)=>match op,N.P.underlying t with
  | .eql,some (.slice _)=>k (.bool ad.isNone)
  |_,_=>none
 | .ro _ l,.val (.slice none 0 0)=>match op,N.P.underlying t with
  | .eql,some (.slice _)=>ckG s.gb cur (l.isEmpty=false) (k (.bool false))
  |_,_=>none
 |a,b=>match zq1 (xpd V (y0l a)),zq1 (xpd V (y0l b)) with
  |some us,some vs=>bif !(z15 a&&z15 b) then none else match eqN N.P 8 t (.agg us.toArray) (.agg vs.toArray) with
   |some g=>bif N.P.eqGuardType N.P.depth t then none else(match op with
    | .eql=>k (.bool g)
    | .neq=>k (.bool (!g))
    |_=>none)
   |none=>none
  |_,_=>none
def zgg(g:Bool)(n:Nat)(cs:Option (List (SV V.T))):Option (SV V.T):=match cs with
 |some cs=>match znu V cs n with
  |some l=>bif g then some (.agg l) else(match y0b l with
   |some x=>bif z15 x then none else some x
   |none=>none)
  |none=>none
 |none=>none
def ld(s:SS V.T)(g:Bool)(n:Nat):SV V.T->Option (SV V.T)
 | .ptr i off=>match s.ob[i]? with
  |some (.box _ cs)=>zgg V g n (z6u V cs off)
  |_=>none
 | .pta i off m z idx cnt fo=>match s.ob[i]? with
  |some (.box _ cs)=>match z6u V cs off with
   |some (.arr m' c f::_)=>bif Nat.beq m m'&&Nat.beq z (V.sz c)&&Nat.beq cnt 1 then zgg V g n (z6u V (V.enc c (f idx)) fo) else none
   |_=>none
  |_=>none
 | .rop cs=>zgg V g n (some cs)
 | .elt i k z fo=>match s.ob[i]? with
  |some (.row _ c l)=>bif Nat.beq z (V.sz c) then zgg V g n (z6u V (V.enc c (gtz (V.z c) l k)) fo) else none
  |some (.x (.fix _ c l))=>bif Nat.beq z (V.sz c) then zgg V g n (z6u V (V.enc c (gtz (V.z c) l k)) fo) else none
  |_=>none
 |_=>none
def decA(rd :(c:Nat)->SV V.T->Option (List (V.T c)))(sl:Sls V.T)(cur:Ch):(cs:List Nat)->List Operand->Option (Tup V.T cs)
 | [],[]=>some ()
 |c::cs,o::os=>match evO sl cur o with
  |some x=>match V.dec rd c x with
   |some y=>match decA rd sl cur cs os with
    |some r=>some (y,r)
    |none=>none
   |none=>none
  |none=>none
 |_,_=>none
def encR:Nat->(cs:List RC)->RTup V.T cs->List (SV V.T)
 |_,[],_=>[]
 |n,.val c::cs,x=>V.encV c x.1::encR n cs x.2
 |n,.row _ _::cs,x=>.own n::encR (n+1) cs x.2
def newR :(cs:List RC)->RTup V.T cs->List (SO V.T)
 | [],_=>[]
 | .val _::cs,x=>newR cs x.2
 | .row E c::cs,x=>.row E c x.1::newR cs x.2
def resV:List (SV V.T)->SV V.T
 | [x]=>x
 | []=>.val (.tuple #[])
 |l=>.tup l
def zR :(cs:List RC)->RTup V.T cs
 | []=>()
 | .val c::cs=>(V.z c,zR cs)
 | .row _ _::cs=>([],zR cs)
def flD{T:Nat->Type}(g:Nat->Bool): {α:Type}->Ds T α->Bool
 |_,.sl _=>false
 |_,.map _ _=>false
 |_,.arr _ c=>g c
 |_,.st fs _ _ _=>fs.all g
 |_,_=>true
def flN:Nat->Nat->Bool
 |0,_=>false
 |n+1,c=>flD (flN n) (V.d c)
def TE.fl(c:Nat):Bool:=flN V (c+1) c
def flR:RC->Bool
 | .val c=>V.fl c
 | .row _ c=>V.fl c
def nbD{T:Nat->Type}(g:Nat->Bool): {α:Type}->Ds T α->Bool
 |_,.bool=>false
 |_,.arr n c=>Nat.blt 0 n&&g c
 |_,.st fs _ _ _=>fs.any g
 |_,_=>true
def nbN:Nat->Nat->Bool
 |0,_=>false
 |n+1,c=>nbD (nbN n) (V.d c)
def sepD{T:Nat->Type}(g nb:Nat->Bool): {α:Type}->Ds T α->Bool
 |_,.sl c=>g c&&nb c
 |_,.map _ _=>false
 |_,.arr _ c=>g c
 |_,.st fs _ _ _=>fs.all g
 |_,_=>true
def sepN:Nat->Nat->Bool
 |0,_=>false
 |n+1,c=>sepD (sepN n) (nbN V n) (V.d c)
def TE.sep(c:Nat):Bool:=sepN V (c+1) c
def sepR:RC->Bool
 | .val c=>V.sep c
 | .row _ _=>false
def rdQ(ob:List (SO V.T))(res:List RC):(c:Nat)->SV V.T->Option (List (V.T c)):=bif res.all (flR V) then rdSl ob else bif res.all (sepR V) then rdB ob else rdSl []
def zer:RC->Bool
 | .row ..=>true
 |_=>false
def zrd(s:SS V.T)(cur:Ch)(t:Nat)(w:Bool):Ch:=match lk s.gb t with
 |some _=>(t,w)::(cur++s.kn)
 |none=>cur++s.kn
def ye2(s:SS V.T)(cur:Ch)(c x y:Operand)(k:SV V.T->Option R):Option R:=match c with
 | .tmp t=>match evO s.sl (cur++s.kn) c with
  |some (.bool g)=>match lk s.kn t,lk s.gb t with
   |some true,some _=>match evO s.sl (cur++s.kn) x with
    |some v=>k v
    |none=>none
   |some false,some _=>match evO s.sl (cur++s.kn) y with
    |some v=>k v
    |none=>none
   |_,_=>match y with
    | .const (.bool false)=>match (evO s.sl (zrd V s cur t true) x).bind zii with
     |some q=>k (.bool (g&&q))
     |none=>none
    |_=>match x with
     | .const (.bool true)=>match (evO s.sl (zrd V s cur t false) y).bind zii with
      |some q=>k (.bool (g||q))
      |none=>none
     |_=>none
  |_=>none
 |_=>none
def oneS(ob:List (SO V.T)):SV V.T->Bool
 | .int ..=>true
 | .bool _=>true
 | .str _=>true
 | .val v=>v.oneCell'
 | .ro ..=>true
 | .rom ..=>true
 | .rop _=>true
 | .ptr ..=>true
 | .own i=>match ob[i]? with|some (.row ..)=>true|some (.x _)=>true|_=>false
 | .elt ..=>true
 | .func ..=>true
 |_=>false
def storable(ob:List (SO V.T))(x:SV V.T):Bool:=z15 x||oneS V ob x
def layX(P:Program)(t:TypeId)(ob:List (SO V.T))(sl:Sls V.T)(cur:Ch):List (SV V.T)->List (Nat×Operand)->Option (List (SV V.T))
 |cs,[]=>some cs
 |cs,(i,o)::ps=>match zmb P t i,evO sl cur o with
  |some (off,n),some x=>bif Nat.beq n (clen V (cellsOf x))&&storable V ob x then(match splL V cs off (cellsOf x) n with
   |some cs'=>layX P t ob sl cur cs' ps
   |none=>none) else none
  |_,_=>none
def y6x(P:Program)(E:TypeId):Bool:=match z3s P E with
 |some (false,1)=>true
 |_=>false
def y01{T:Nat->Type}: SV T->Bool
 | .arr ..=>false
 |_=>true
def zlz(s:SS V.T):SV V.T->Option (Int×Int×Nat)
 | .elt i m z 0=>match s.ob[i]? with
  |some (.x (.nst _ _ _ _ (some (q,j))))=>bif Nat.beq z 1 then some (m,q,j) else none
  |_=>none
 |_=>none
def keyD{T:Nat->Type}: {α:Type}->Ds T α->Option TypeDesc->Bool
 |_,.int q,some (.int q')=>decide (q=q')
 |_,_,_=>false
def zxl(P:Program){T:Nat->Type}(d :(c:Nat)->Ds T (T c)):List Nat->List Field->Nat->Bool
 | [],[],_=>true
 | c :: cs, f :: fs, o => !(f.name == "_") && Nat.beq f.offset o && keyD (d c) (P.underlying f.type) && (match z3s P f.type with | some (false, 1) => true | _ => false) && zxl P d cs fs (o + 1)
 |_,_,_=>false
def keyE(P:Program){T:Nat->Type}(d :(c:Nat)->Ds T (T c))(kt:TypeId): {α:Type}->Ds T α->Option TypeDesc->Bool
 |_,.arr n c,some (.array m e)=>Nat.beq n m&&keyD (d c) (P.underlying e)&&(match z3s P e with|some (false,1)=>true|_=>false)
 |_,.st fs _ _ _,some (.struct l)=>!P.stoodInHeld kt&&zxl P d fs l.toList 0
 |_,d,u=>keyD d u
def keyT(t:TypeId)(kc:Nat):Option TypeId:=match N.P.underlying t with
 |some (.map kt et)=>bif keyE N.P V.d kt (V.d kc) (N.P.underlying kt) then some et else none
 |_=>none
def okD{T:Nat->Type}(g:Nat->Bool): {α:Type}->Ds T α->Bool
 |_,.sl _=>true
 |_,.map _ vc=>g vc
 |_,d=>zbd d
def TE.okV(c:Nat):Bool:=okD (λc=>zbd (V.d c)) (V.d c)
def zzj:Value->Bool
 | .slice none 0 0=>true
 |_=>false
def yay:Value->Bool
 | .map none=>true
 |_=>false
def zmR:List (SV V.T)->List Value->Bool
 | [],[]=>true
 | .ro _ l::xs,v::vs=>l.isEmpty&&zzj v&&zmR xs vs
 |x::xs,v::vs=>zmV V [v] x&&zmR xs vs
 |_,_=>false
def zokD{T:Nat->Type}: {α:Type}->Ds T α->α->Value->Bool
 |_,.sl _,x,v=>zzj v&&x.isEmpty
 |_,.map _ _,x,v=>yay v&&x.isEmpty
 |_,.int k,x,v=>beqZ (.int k x) v
 |_,.bool,x,v=>beqZ (.bool x) v
 |_,.str,x,v=>beqZ (.string x) v
 |_,_,_,_=>false
def TE.zok(c:Nat)(z:Value):Bool:=zokD (V.d c) (V.z c) z
def y90(kc vc:Nat)(m:List (V.T kc×V.T vc))(key:V.T kc)(ok:Bool)(z:Value)(k:SV V.T->Option R):Option R:=bif V.zok vc z then k (bif ok then .tup [V.encV vc ((cget (V.kl kc) m key).getD (V.z vc)),.bool (cget (V.kl kc) m key).isSome] else V.encV vc ((cget (V.kl kc) m key).getD (V.z vc))) else none
def capX(ob:List (SO V.T))(c:Nat):SV V.T->Option (V.T c)
 | .rop cs=>V.decC rdE c cs
 | .ptr i 0=>match ob[i]? with
  |some (.box _ cs)=>V.decC (rdSl ob) c cs
  |_=>none
 |_=>none
def capM(ob:List (SO V.T))(kc vc:Nat):SV V.T->Option (List (V.T kc×V.T vc))
 | .rop [.rom kc' vc' m]=>if h:kc'=kc then(if h2:vc'=vc then some (h ▸ h2 ▸ m) else none) else none
 | .ptr i 0=>match ob[i]? with
  |some (.box _ [.own j])=>match ob[j]? with
   |some (.x (.map kc' vc' _ m none))=>bif V.okV vc' then(if h:kc'=kc then(if h2:vc'=vc then some (h ▸ h2 ▸ m) else none) else none) else none
   |_=>none
  |some (.box _ [.rom kc' vc' m])=>if h:kc'=kc then(if h2:vc'=vc then some (h ▸ h2 ▸ m) else none) else none
  |_=>none
 |_=>none
def capB(ob:List (SO V.T)):(k:KB)->SV V.T->Option (k.T V.T)
 | .val c,x=>capX V ob c x
 | .map kc vc,x=>capM V ob kc vc x
def zhg(ob:List (SO V.T)):(ks:List KB)->List (SV V.T)->Option (KBs V.T ks)
 | [],[]=>some ()
 |c::cs,x::l=>match capB V ob c x,zhg ob cs l with
  |some y,some r=>some (y,r)
  |_,_=>none
 |_,_=>none
def capF(ob:List (SO V.T))(f:Nat)(ks:List KB):SV V.T->Option (KBs V.T ks)
 | .rop [.func g l]=>bif Nat.beq f g then zhg V ob ks l else none
 | .ptr i 0=>match ob[i]? with
  |some (.box _ [.func g l])=>bif Nat.beq f g then zhg V ob ks l else none
  |_=>none
 |_=>none
def capC(ob:List (SO V.T)):(k:KC)->SV V.T->Option (k.T V.T)
 | .b k,x=>capB V ob k x
 | .fn f ks,x=>capF V ob f ks x
def zft(ob:List (SO V.T)):(cs:List KC)->List (SV V.T)->Option (KCs V.T cs)
 | [],[]=>some ()
 |c::cs,x::l=>match capC V ob c x,zft ob cs l with
  |some y,some r=>some (y,r)
  |_,_=>none
 |_,_=>none
def enB :(k:KB)->k.T V.T->SV V.T
 | .val c,x=>.rop (V.enc c x)
 | .map kc vc,m=>.rop [.rom kc vc m]
def enBs :(ks:List KB)->KBs V.T ks->List (SV V.T)
 | [],_=>[]
 |k::ks,x=>enB V k x.1::enBs ks x.2
def enC :(k:KC)->k.T V.T->SV V.T
 | .b k,x=>enB V k x
 | .fn f ks,x=>.rop [.func f (enBs V ks x)]
def encK :(cs:List KC)->KCs V.T cs->List (SV V.T)
 | [],_=>[]
 |c::cs,x=>enC V c x.1::encK cs x.2
def ofI{T:Nat->Type}: {α:Type}->Ds T α->List Int->Option (List α)
 |_,.int .u8,l=>some l
 |_,_,_=>none
def bdX(sl:Sls V.T)(cur:Ch)(d:Int):Option Operand->Option Int
 |none=>some d
 |some o=>match (evO sl cur o).bind intOf with
  |some (_,m)=>some m
  |none=>none
def zx7(sl:Sls V.T)(cur:Ch)(c:Nat):Nat->List (Nat×Operand)->Option (List (V.T c))
 |_,[]=>some []
 |n,(i,o)::ps=>bif Nat.beq i n then(match (evO sl cur o).bind (V.dec (rdSl []) c) with
  |some y=>match zx7 sl cur c (n+1) ps with
   |some l=>some (y::l)
   |none=>none
  |none=>none) else none
def zm(s:SS V.T)(cur:Ch)(o:Op)(ty:TypeId)(k:SV V.T->Option R):Option R:=match o with
 | .move x=>match evO s.sl (cur++s.kn) x with
  |some v=>k v
  |none=>none
 | .assign x=>match evO s.sl (cur++s.kn) x with
  |some v=>k v
  |none=>none
 | .pick c x y=>ye2 V s cur c x y k
 | .binOp op t x y _=>match evO s.sl (cur++s.kn) x,evO s.sl (cur++s.kn) y with
  |some a,some b=>binX V N s cur op t y a b k
  |_,_=>none
 | .unOp .not _ x=>match (evO s.sl (cur++s.kn) x).bind zii with
  |some b=>k (.bool (!b))
  |none=>none
 | .unOp .neg _ x=>match (evO s.sl (cur++s.kn) x).bind intOf with
  |some (i,m)=>k (.int i (i.wrap (0-m)))
  |none=>none
 | .unOp .xor _ x=>match (evO s.sl (cur++s.kn) x).bind intOf with
  |some (i,m)=>k (.int i (i.wrap (BitVec.ofInt i.bits (if i.signed then-1 else i.max) ^^^ BitVec.ofInt i.bits m).toNat))
  |none=>none
 | .convert src d x=>match N.P.underlying d,(evO s.sl (cur++s.kn) x).bind intOf with
  |some (.int i),some (_,m)=>bif (N.P.underlying src).isSome then k (.int i (i.wrap m)) else none
  |some (.slice E),_=>(match N.P.underlying E,N.P.underlying src,evO s.sl (cur++s.kn) x with
   |some (.int .u8),some .string,some (.str b)=>(match ofI (V.d (V.code E)) (zu7 b) with
    |some l=>k (.ro (V.code E) l)
    |none=>none)
   |_,_,_=>none)
  |_,_=>none
 | .load t x=>match z3s N.P t,evO s.sl (cur++s.kn) x with
  |some (g,n),some x=>match zlz V s x with
   |some (m,q,j)=>bif !g&&Nat.beq n 1 then ckG s.gb cur (m=q) (k (.own j)) else none
   |none=>match ld V s g n x with
    |some v=>k v
    |none=>none
  |_,_=>none
 | .fieldAddr t x f=>match foff N.P t f,evO s.sl (cur++s.kn) x with
  |some off,some (.ptr i o)=>k (.ptr i (o+off))
  |some off,some (.pta i o m z idx cnt fo)=>k (.pta i o m z idx cnt (fo+off))
  |some off,some (.rop cs)=>match z6u V cs off with
   |some l=>k (.rop l)
   |none=>none
  |some off,some (.elt i j z fo)=>k (.elt i j z (fo+off))
  |_,_=>none
 | .indexAddr t x i=>match tidx N.P t,evO s.sl (cur++s.kn) x,(evO s.sl (cur++s.kn) i).bind intOf with
  |some (false,_,e),some (.ro c l),some (_,m)=>bif Nat.beq e (V.sz c) then ckG s.gb cur ((0:Int)<=m/\m<(l.length:Int)) (k (.rop (V.enc c (gtz (V.z c) l m)))) else none
  |some (false,_,e),some (.own j),some (_,m)=>match s.ob[j]? with
   |some (.row _ c l)=>bif Nat.beq e (V.sz c) then ckG s.gb cur ((0:Int)<=m/\m<(l.length:Int)) (k (.elt j m e 0)) else none
   |some (.x (.nst _ _ _ l _))=>bif Nat.beq e 1 then ckG s.gb cur ((0:Int)<=m/\m<(l.length:Int)) (k (.elt j m e 0)) else none
   |some (.x (.fix _ c l))=>bif Nat.beq e (V.sz c) then ckG s.gb cur ((0:Int)<=m/\m<(l.length:Int)) (k (.elt j m e 0)) else none
   |_=>none
  |some (true,n,e),some (.ptr j o),some (_,m)=>match s.ob[j]? with
   |some (.box _ cs)=>match z6u V cs o with
    |some (.arr n' c f::_)=>bif Nat.blt 0 (V.sz c)&&Nat.beq (e / V.sz c*V.sz c) e&&Nat.beq (n*(e / V.sz c)) n' then
      ckG s.gb cur ((0:Int)<=m/\m<(n:Int)) (k (.pta j o n' (V.sz c) (scl m (e / V.sz c)) (e / V.sz c) 0)) else none
    |_=>none
   |_=>none
  |some (true,n,e),some (.pta j o n' z idx cnt 0),some (_,m)=>bif Nat.blt 0 z&&Nat.beq (e / z*z) e&&Nat.beq (n*(e / z)) cnt then
      ckG s.gb cur ((0:Int)<=m/\m<(n:Int)) (k (.pta j o n' z (idx+scl m (e / z)) (e / z) 0)) else none
  |some (true,n,e),some (.rop (.arr n' c f::_)),some (_,m)=>bif Nat.beq e (V.sz c)&&Nat.beq n n' then
      ckG s.gb cur ((0:Int)<=m/\m<(n:Int)) (k (.rop (V.enc c (f m.toNat)))) else none
  |_,_,_=>none
 | .slice t x lo hi none=>match tidx N.P t,evO s.sl (cur++s.kn) x with
  |some (false,_,e),some (.ro c l)=>match bdX V s.sl (cur++s.kn) 0 lo,bdX V s.sl (cur++s.kn) (l.length:Int) hi with
   |some m,some n=>bif Nat.beq e (V.sz c) then ckG s.gb cur ((0:Int)<=m/\m<=n/\n<=(l.length:Int)) (k (.ro c (z5v l m.toNat n.toNat))) else none
   |_,_=>none
  |some (false,_,e),some (.own j)=>match s.ob[j]? with
   |some (.row _ c l)=>match bdX V s.sl (cur++s.kn) 0 lo,bdX V s.sl (cur++s.kn) (l.length:Int) hi with
    |some m,some n=>bif Nat.beq e (V.sz c) then ckG s.gb cur ((0:Int)<=m/\m<=n/\n<=(l.length:Int)) (k (.prt j m.toNat n.toNat e)) else none
    |_,_=>none
   |_=>none
  |some (false,_,_),some (.val (.slice none 0 0))=>match bdX V s.sl (cur++s.kn) 0 lo,bdX V s.sl (cur++s.kn) 0 hi with
   |some m,some n=>ckG s.gb cur (m=0/\n=0) (k (.val (.slice none 0 0)))
   |_,_=>none
  |some (true,n',e),some (.rop (.arr n c f::_))=>(match lo,hi with
   |none,none=>bif Nat.beq n n'&&Nat.beq e (V.sz c) then k (.ro c ((List.range n).map f)) else none
   |_,_=>none)
  |none,some (.str b)=>(match N.P.underlying t with
   |some .string=>(match bdX V s.sl (cur++s.kn) 0 lo,bdX V s.sl (cur++s.kn) (b.size:Int) hi with
    |some m,some n=>ckG s.gb cur ((0:Int)<=m/\m<=n/\n<=(b.size:Int)) (k (.str (b.extract m.toNat n.toNat)))
    |_,_=>none)
   |_=>none)
  |_,_=>none
 | .lookup t x i ok=>match evO s.sl (cur++s.kn) x,evO s.sl (cur++s.kn) i with
  |some (.own j),some y=>match s.ob[j]? with
   |some (.x (.map kc vc _ m h))=>match keyT V N t kc,V.dec (rdSl []) kc y with
    |some et,some key=>match tz1 N.P et with
     |some z=>match h with
      |some (q,jj)=>bif ok then none else ckG s.gb cur (V.kl kc q=V.kl kc key) (k (.own jj))
      |none=>bif zbd (V.d vc) then y90 V kc vc m key ok z k else
       bif ok then none else ckG s.gb cur ((cget (V.kl kc) m key).isNone=true) (k (.val z))
     |none=>none
    |_,_=>none
   |_=>none
  |some (.rom kc vc m),some y=>match keyT V N t kc,V.dec (rdSl []) kc y with
   |some et,some key=>match tz1 N.P et with
    |some z=>y90 V kc vc m key ok z k
    |none=>none
   |_,_=>none
  |_,_=>none
 | .entry x=>match evO s.sl (cur++s.kn) x with
  |some (.own j)=>match s.ob[j]? with
   |some (.x (.it kc vc _ (some e)))=>bif V.key kc then k (.tup [V.encV kc e.1,V.encV vc e.2]) else none
   |_=>none
  |_=>none
 | .extract x i=>match evO s.sl (cur++s.kn) x with
  |some (.tup l)=>match l[i]? with
   |some v=>k v
   |none=>none
  |_=>none
 | .build t parts=>match zlr N.P t with
  |some zs=>bif zf9 V (V.zero (V.code t)) zs&&zma N.P t then(match layX V N.P t s.ob s.sl (cur++s.kn) (fixZ V (V.zero (V.code t))) parts.toList with
   |some cs=>k (.agg cs)
   |none=>none) else bif zs.all (·.oneCell')&&zma N.P t then(match layX V N.P t s.ob s.sl (cur++s.kn) (zs.map zt9) parts.toList with
   |some cs=>k (.agg cs)
   |none=>none) else none
  |none=>none
 | .buildSlice t n parts=>match tsl N.P t with
  |some (E,z,_)=>match zx7 V s.sl (cur++s.kn) (V.code E) 0 parts.toList with
   |some l=>bif Nat.beq z (V.sz (V.code E))&&Nat.beq l.length n&&Nat.ble (n*z) 16777216 then k (.ro (V.code E) l) else none
   |none=>none
  |none=>none
 | .index t x i=>match evO s.sl (cur++s.kn) x,(evO s.sl (cur++s.kn) i).bind intOf with
  |some (.str b),some (_,m)=>match N.P.underlying t with
   |some .string=>ckG s.gb cur ((0:Int)<=m/\m<(b.size:Int)) (k (.int .u8 (zas b m)))
   |_=>none
  |some (.arr n c f),some (_,m)=>match tarr N.P t with
   |some (n',E)=>match z3s N.P E with
    |some (g,z)=>bif Nat.beq n n'&&Nat.beq z (V.sz c)&&(g==z5u (V.d c)) then ckG s.gb cur ((0:Int)<=m/\m<(n:Int)) (k (V.encV c (f m.toNat))) else none
    |none=>none
   |none=>none
  |some (.agg [.arr n c f]),some (_,m)=>match tarr N.P t with
   |some (n',E)=>match z3s N.P E with
    |some (g,z)=>bif Nat.beq n n'&&Nat.beq z (V.sz c)&&(g==z5u (V.d c)) then ckG s.gb cur ((0:Int)<=m/\m<(n:Int)) (k (V.encV c (f m.toNat))) else none
    |none=>none
   |none=>none
  |some (.agg cs),some (_,m)=>match tarr N.P t with
   |some (n',E)=>bif y6x N.P E&&Nat.beq cs.length n'&&cs.all y01 then(match cs[m.toNat]? with
    |some v=>ckG s.gb cur ((0:Int)<=m/\m<(n':Int)) (k v)
    |none=>none) else none
   |none=>none
  |_,_=>none
 | .nilCheck x=>match evO s.sl (cur++s.kn) x with
  |some (.ptr i o)=>k (.ptr i o)
  |_=>none
 | .makeFunc (.func f) first caps=>bif first.isEmpty then(match capsX s.sl (cur++s.kn) caps.toList with
  |some l=>k (.func f l)
  |none=>none) else none
 | .call c=>match c.callee,c.args.toList with
  | .builtin .len,[x]=>match evO s.sl (cur++s.kn) x with
   |some (.ro _ l)=>bif isSl1 N.P c.argTypes then k (.int .i64 (l.length:Int)) else none
   |some (.own j)=>match s.ob[j]? with
    |some (.row _ _ l)=>bif isSl1 N.P c.argTypes then k (.int .i64 (l.length:Int)) else none
    |some (.x (.nst _ _ _ l _))=>bif isSl1 N.P c.argTypes then k (.int .i64 (l.length:Int)) else none
    |some (.x (.fix _ _ l))=>bif isSl1 N.P c.argTypes then k (.int .i64 (l.length:Int)) else none
    |some (.x (.map _ _ _ m _))=>bif isMp1 N.P c.argTypes then k (.int .i64 (m.length:Int)) else none
    |_=>none
   |some (.rom _ _ m)=>bif isMp1 N.P c.argTypes then k (.int .i64 (m.length:Int)) else none
   |some (.val (.slice none 0 0))=>bif isSl1 N.P c.argTypes then k (.int .i64 0) else none
   |some (.str b)=>bif isStr1 N.P c.argTypes then k (.int .i64 (b.size:Int)) else none
   |_=>none
  | .builtin .cap,[x]=>match evO s.sl (cur++s.kn) x with
   |some (.val (.slice none 0 0))=>bif isSl1 N.P c.argTypes then k (.int .i64 0) else none
   |_=>none
  | .builtin .min,x::xs=>match (evO s.sl (cur++s.kn) x).bind intOf with
   |some (i,m)=>match y0y s.sl (cur++s.kn) i xs with
    |some ns=>k (.int i (ns.foldl min2 m))
    |none=>none
   |none=>none
  | .builtin .max,x::xs=>match (evO s.sl (cur++s.kn) x).bind intOf with
   |some (i,m)=>match y0y s.sl (cur++s.kn) i xs with
    |some ns=>k (.int i (ns.foldl max2 m))
    |none=>none
   |none=>none
  | .value (.func f),as=>match N.fn f with
   |some sp=>bif sp.res.any zer then none else(match decA V (rdQ V s.ob sp.res) s.sl (cur++s.kn) sp.args as with
    |some a=>bif fnok N.P f then zry s.gb cur (zR V sp.res) (sp.F a) λr=>k (resV V (encR V 0 sp.res r)) else none
    |none=>none)
   |none=>none
  | .value (.tmp t),as=>match evO s.sl (cur++s.kn) (.tmp t) with
   |some (.cmp c f)=>match as with
    | [x,y]=>match (evO s.sl (cur++s.kn) x).bind (V.dec (rdSl []) c),(evO s.sl (cur++s.kn) y).bind (V.dec (rdSl []) c) with
     |some a,some b=>zry s.gb cur 0 (f a b) λr=>k (.int .i64 r)
     |_,_=>none
    |_=>none
   |some (.func f caps)=>match N.cl f with
    |some sp=>bif sp.res.any zer then none else(match decA V (bif sp.res.all (flR V) then rdSl s.ob else rdSl []) s.sl (cur++s.kn) sp.args as,zft V (bif sp.res.all (flR V) then s.ob else []) sp.caps caps with
     |some a,some b=>bif fnok N.P f then zry s.gb cur (zR V sp.res) (sp.F a b) λr=>k (resV V (encR V 0 sp.res r)) else none
     |_,_=>none)
    |none=>none
   |_=>none
  |_,_=>none
 |_=>none
 where
 capsX (sl:Sls V.T) (cur:Ch):List Operand->Option (List (SV V.T))
  | []=>some []
  |o::os=>match evO sl cur o with
   |some x=>match capsX sl cur os with
    |some l=>some (x::l)
    |none=>none
   |none=>none
 isSl1 (P:Program) (ts:Array TypeId):Bool:=match ts.toList with
  | [t]=>isSl P t
  |_=>false
 isMp1 (P:Program) (ts:Array TypeId):Bool:=match ts.toList with
  | [t]=>match P.underlying t with|some (.map _ _)=>true|_=>false
  |_=>false
 isStr1 (P:Program) (ts:Array TypeId):Bool:=match ts.toList with
  | [t]=>match P.underlying t with|some .string=>true|_=>false
  |_=>false
 fnok (P:Program) (f:Nat):Bool:=match P.funcs[f]? with
  | some fn => !(fn.name == "runtime.NumGoroutine") && fn.body.isSome
  |none=>false
end
end Px
end
section
namespace Px
open Go Go.RowKit
section
variable{T:Nat->Type}
mutual
def frV(i:Nat)(v:SV T)(g:Nat->SV T):SV T->SV T
 | .own j=>bif Nat.beq j i then v else .own j
 | .ptr j off=>bif Nat.beq j i then g off else .ptr j off
 | .agg cs=>.agg (frL i v g cs)
 | .tup cs=>.tup (frL i v g cs)
 | .rop cs=>.rop (frL i v g cs)
 | .func f cs=>.func f (frL i v g cs)
 |x=>x
def frL(i:Nat)(v:SV T)(g:Nat->SV T):List (SV T)->List (SV T)
 | []=>[]
 |x::xs=>frV i v g x::frL i v g xs
end
def frSl(i:Nat)(v:SV T)(g:Nat->SV T)(sl:Sls T):Sls T:=sl.map λp=>(p.1,p.2.1,frV i v g p.2.2)
def frO(i:Nat)(v:SV T)(g:Nat->SV T):SO T->SO T
 | .box t cs=>.box t (frL i v g cs)
 |o=>o
def frC(s:SS T)(i:Nat)(v:SV T)(g:Nat->SV T):SS T:={ sl:=frSl i v g s.sl,gb:=s.gb,kn:=s.kn,n:=s.n,stk:=s.stk.map λp=>{ p with sl:=frSl i v g p.sl },ob:=(s.ob.set i .emp).map (frO i v g) }
mutual
def y9x:SV T->List Nat
 | .own j=>[j]
 | .agg cs=>ydy cs
 | .tup cs=>ydy cs
 |_=>[]
def ydy:List (SV T)->List Nat
 | []=>[]
 |x::xs=>y9x x++ydy xs
end
def y9w(s:SS T)(cur:Ch)(os:List Operand):List Nat:=os.flatMap λo=>match evO s.sl cur o with
 |some x=>y9x x
 |none=>[]
end
section
variable(V:TE)(N:Env V){R:Type}
def frX:SO V.T->Option (SV V.T)
 | .row _ c l=>some (.ro c l)
 | .x (.nst _ _ c l none)=>some (.ro c l)
 | .x (.fix _ c l)=>some (.ro c l)
 | .x (.map kc vc _ m none)=>bif V.okV vc then some (.rom kc vc m) else none
 |_=>none
def frG(i:Nat)(cs:List (SV V.T))(off:Nat):SV V.T:=match z6u V cs off with
 |some l=>.rop l
 |none=>.ptr i off
def frS(s:SS V.T)(i:Nat):SS V.T:=match s.ob[i]? with
 |some (.box _ cs)=>frC s i (.own i) (frG V i cs)
 |some o=>match frX V o with
  |some v=>frC s i v (.ptr i)
  |none=>s
 |none=>s
def splM(E:Nat): {α:Type}->Ds V.T α->α->Option (SO V.T)
 |_,.sl c,l=>some (.row E c l)
 |_,.map kc vc,m=>bif zbd (V.d vc) then some (.x (.map kc vc 0 m none)) else none
 |_,_,_=>none
def insS(E c:Nat):SO V.T->Option (List (V.T c))
 | .row E' c' l=>bif Nat.beq E' E then(if h:c'=c then some (h ▸ l) else none) else none
 |_=>none
def insP(kc vc:Nat):SO V.T->Option (List (V.T kc×V.T vc))
 | .x (.map kc' vc' _ m none)=>if h:kc'=kc then(if h2:vc'=vc then some (h ▸ h2 ▸ m) else none) else none
 |_=>none
def insM(E:Nat): {α:Type}->Ds V.T α->SO V.T->Option α
 |_,.sl c,o=>insS V E c o
 |_,.map kc vc,o=>bif zbd (V.d vc) then insP V kc vc o else none
 |_,_,_=>none
def zxe(s:SS V.T)(i:Nat):Option (SS V.T):=match s.ob[i]? with
 |some (.x (.map kc vc E m (some (k,j))))=>match s.ob[j]? with
  |some o=>match insM V E (V.d vc) o with
   |some y=>bif V.key kc then some { s with ob:=(s.ob.set i (.x (.map kc vc E (cset (V.kl kc) m k y) none))).set j .emp } else none
   |none=>none
  |none=>none
 |some (.x (.nst E E2 c l (some (k,j))))=>match s.ob[j]? with
  |some (.row E' c' l')=>bif Nat.beq E' E2 then(match y8s c' l' (V.d c) with
   |some y=>some { s with ob:=(s.ob.set i (.x (.nst E E2 c (zt l k y) none))).set j .emp }
   |none=>none) else none
  |_=>none
 |_=>some s
def focX(s:SS V.T)(i:Nat)(m:Int)(k:SS V.T->Option R):Option R:=match zxe V s i with
 |some s=>match s.ob[i]? with
  |some (.x (.nst E E2 c l none))=>ck ((0:Int)<=m/\m<(l.length:Int)) (k { s with ob:=s.ob.set i (.x (.nst E E2 c l (some (m,s.ob.length))))++[.row E2 (zcc (V.d c) (gtz (V.z c) l m)).1 (zcc (V.d c) (gtz (V.z c) l m)).2] })
  |_=>none
 |none=>none
def focM(s:SS V.T)(i:Nat)(key :(kc:Nat)->Option (V.T kc))(k:SS V.T->Option R):Option R:=match zxe V s i with
 |some s=>match s.ob[i]? with
  |some (.x (.map kc vc E m none))=>match key kc with
   |some y=>match cget (V.kl kc) m y with
    |some x=>match splM V E (V.d vc) x with
     |some o=>k { s with ob:=s.ob.set i (.x (.map kc vc E m (some (y,s.ob.length))))++[o] }
     |none=>none
    |none=>k s
   |none=>none
  |_=>none
 |none=>none
def zv0(s:SS V.T)(i:Nat):SS V.T:=(zxe V s i).getD s
def zv2(s:SS V.T)(is:List Nat):SS V.T:=is.foldl (λs i=>frS V (zv0 V s i) i) s
def srcX(ob:List (SO V.T))(c:Nat):SV V.T->Option (List (V.T c))
 | .ro c' l=>if h:c'=c then some (h ▸ l) else none
 | .own j=>match ob[j]? with
  |some (.row _ c' l)=>if h:c'=c then some (h ▸ l) else none
  |_=>none
 | .prt j lo hi z=>match ob[j]? with
  |some (.row _ c' l)=>if h:c'=c then(bif Nat.beq z (V.sz c) then some (z5v (h ▸ l) lo hi) else none) else none
  |_=>none
 | .val (.slice _ 0 _)=>some []
 |_=>none
def dstX(ob:List (SO V.T)):SV V.T->Option (Nat×Nat×Nat)
 | .own i=>match ob[i]? with
  |some (.row _ _ l)=>some (i,0,l.length)
  |_=>none
 | .prt i lo hi z=>match ob[i]? with
  |some (.row _ c l)=>bif Nat.beq z (V.sz c) then some (i,lo,hi) else none
  |_=>none
 |_=>none
def appX(s:SS V.T)(ty:TypeId)(i E c by':Nat)(l:List (V.T c))(y:SV V.T)(k:SV V.T->SS V.T->Option R):Option R:=match srcX V s.ob c y with
 |some m=>ck (fits (l.length+m.length) by') (k (.own s.ob.length) { s with ob:=s.ob.set i .emp++[.row E c (l++m)] })
 |none=>none
def updO(s:SS V.T)(i:Nat)(o:SO V.T):SS V.T:={ s with ob:=s.ob.set i o }
def stoX(s:SS V.T)(t n:Nat)(v:SV V.T)(k:SV V.T->SS V.T->Option R):SV V.T->Option R
 | .ptr i off=>match s.ob[i]? with
  |some (.box T cs)=>bif storable V s.ob v&&Nat.beq n (clen V (cellsOf v)) then(match splC V cs off (cellsOf v) n with
   |some cs'=>k .top (updO V s i (.box T cs'))
   |none=>none) else none
  |_=>none
 | .pta i off m z idx cnt fo=>match s.ob[i]?,V.dec (rdSl []) (V.code t) v with
  |some (.box T cs),some y=>match znu V cs off,z6u V cs off with
   |some pre,some (.arr m' c f::post)=>bif Nat.beq m m'&&Nat.beq z (V.sz c)&&Nat.beq cnt 1&&Nat.beq n (V.sz (V.code t)) then(match splC V (V.enc c (f idx)) fo (V.enc (V.code t) y) n with
    |some cs'=>match V.decC rdE c cs' with
     |some y'=>k .top (updO V s i (.box T (pre++.arr m c (upd f idx y')::post)))
     |none=>none
    |none=>none) else none
   |_,_=>none
  |_,_=>none
 | .elt i j z fo=>match s.ob[i]? with
  |some (.x (.nst E E2 c l h))=>match v with
   | .own q=>bif Nat.beq z 1&&Nat.beq fo 0&&Nat.beq n 1&&oneS V s.ob (.own q) then(match h with
    |none=>k .top (updO V s i (.x (.nst E E2 c l (some (j,q)))))
    |some (j',_)=>ck (j=j') (k .top (updO V s i (.x (.nst E E2 c l (some (j,q))))))) else none
   |_=>none
  |some (.row E c l)=>match V.dec (rdSl []) (V.code t) v with
   |some y=>bif Nat.beq z (V.sz c)&&Nat.beq n (V.sz (V.code t)) then(match splC V (V.enc c (gtz (V.z c) l j)) fo (V.enc (V.code t) y) n with
    |some cs'=>match V.decC rdE c cs' with
     |some y'=>k .top (updO V s i (.row E c (zt l j y')))
     |none=>none
    |none=>none) else none
   |none=>none
  |some (.x (.fix E c l))=>match V.dec (rdSl []) (V.code t) v with
   |some y=>bif Nat.beq z (V.sz c)&&Nat.beq n (V.sz (V.code t)) then(match splC V (V.enc c (gtz (V.z c) l j)) fo (V.enc (V.code t) y) n with
    |some cs'=>match V.decC rdE c cs' with
     |some y'=>k .top (updO V s i (.x (.fix E c (zt l j y'))))
     |none=>none
    |none=>none) else none
   |none=>none
  |_=>none
 |_=>none
def y0r(s:SS V.T):Op->List Nat
 | .buildSlice _ _ parts=>y9w s s.kn (parts.toList.map (·.2))
 | .store _ a x=>match evO s.sl s.kn a with
  |some (.ptr ..)=>[]
  |some (.elt i _ _ _)=>match s.ob[i]? with
   |some (.x _)=>[]
   |_=>y9w s s.kn [x]
  |_=>y9w s s.kn [x]
 | .call c=>match c.callee with
  | .value (.func f)=>match N.fn f with
   |some sp=>bif sp.res.all (flR V) then [] else y9w s s.kn c.args.toList
   |none=>[]
  |_=>[]
 |_=>[]
abbrev KX(V:TE)(R:Type):=Exit->SS V.T->Option R
abbrev Inl(V:TE)(R:Type):=Nat->Code->SS V.T->KX V R->Option R
def zhi(s:SS V.T):List ResultVar->Option (List (SV V.T))
 | []=>some []
 | .tmp t::rs=>match lk s.sl t with
  |some ([],x)=>match zhi s rs with|some l=>some (x::l)|none=>none
  |_=>none
 | .cell a t::rs=>match lk s.sl a,z3s N.P t with
  |some ([],p),some (g,n)=>match ld V s g n p with
   |some x=>match zhi s rs with|some l=>some (x::l)|none=>none
   |none=>none
  |_,_=>none
def zfj:Nat->List (SV V.T)->Sls V.T
 |_,[]=>[]
 |t,x::l=>(t,[],x)::zfj (t+1) l
def ztz(sl:Sls V.T)(cur:Ch):List Operand->Option (List (SV V.T))
 | []=>some []
 |o::os=>match evO sl cur o with
  |some x=>match ztz sl cur os with
   |some l=>some (x::l)
   |none=>none
  |none=>none
def inlK(fn:Func)(k:SV V.T->SS V.T->Option R):KX V R:=λe s=>match e with
 | .ret | .normal=>match zhi V N s fn.results.toList,s.stk with
  |some l,f::stk=>k (resV V l) { f with stk:=stk,ob:=s.ob }
  |_,_=>none
 |_=>none
def goIn(inl:Inl V R)(s:SS V.T)(f:Nat)(as:List (SV V.T))(k:SV V.T->SS V.T->Option R):Option R:=match N.P.funcs[f]? with
 |some fn=>match fn.body with
  |some c=>bif zm.fnok N.P f&&Nat.ble as.length fn.ntmps then inl f c { sl:=zfj V 0 as,gb:=[],kn:=[],n:=fn.ntmps,stk:=s.toFm::s.stk,ob:=s.ob } (inlK V N fn k) else none
  |none=>none
 |none=>none
abbrev YID:Nat:=1000000
def yK(k:SV V.T->SS V.T->Option R):KX V R:=λe s=>match e with
 | .normal=>match s.stk with
  |f::stk=>k (.bool true) { f with stk:=stk,ob:=s.ob }
  | []=>none
 |_=>none
def zyi(inl:Inl V R)(s:SS V.T)(vs:List (SV V.T))(k:SV V.T->SS V.T->Option R):Option R:=inl YID (.goto 0) { sl:=zfj V 0 vs,gb:=[],kn:=[],n:=vs.length,stk:=s.toFm::s.stk,ob:=s.ob } (yK V k)
def yldC(s:SS V.T)(o:Op):Option (List (SV V.T)):=match o with
 | .call c=>match c.callee,s.stk with
  | .value (.tmp t),f::_=>match evO s.sl s.kn (.tmp t),lk f.sl (f.n-1),ztz V s.sl s.kn c.args.toList with
   |some (.own i),some ([],.own j),some vs=>bif Nat.beq i j then some vs else none
   |_,_,_=>none
  |_,_=>none
 |_=>none
def inlC(s:SS V.T)(o:Op):Option (Nat×List (SV V.T)):=match o with
 | .call c=>match c.callee with
  | .value (.func f)=>match N.fn f,N.mu f,N.so f,ztz V s.sl s.kn c.args.toList with
   |none,none,none,some vs=>some (f,vs)
   |_,_,_,_=>none
  | .value (.tmp t)=>match evO s.sl s.kn (.tmp t),ztz V s.sl s.kn c.args.toList with
   |some (.func f caps),some vs=>match N.cl f with
    |none=>some (f,vs++caps)
    |some _=>none
   |_,_=>none
  |_=>none
 |_=>none
def intD{T:Nat->Type}: {α:Type}->Ds T α->α->Option Int
 |_,.int k,x=>if k = .i64 then some x else none
 |_,_,_=>none
def cmpF(c:Nat):Fsp V->Option (V.T c->V.T c->Option Int)
 |⟨[a,b],[.val q],F⟩=>if h:a=c then(if h2:b=c then some λx y=>(F (h ▸ x,h2 ▸ y,())).bind λr=>intD (V.d q) r.1 else none) else none
 |_=>none
def cmpC(c:Nat):(sp:Csp V)->KCs V.T sp.caps->Option (V.T c->V.T c->Option Int)
 |⟨[a,b],_,[.val q],F⟩,z=>if h:a=c then(if h2:b=c then some λx y=>(F (h ▸ x,h2 ▸ y,()) z).bind λr=>intD (V.d q) r.1 else none) else none
 |_,_=>none
def cmpX(ob:List (SO V.T))(c:Nat):SV V.T->Option (V.T c->V.T c->Option Int)
 | .cmp c' f=>if h:c'=c then some (h ▸ f) else none
 | .func f caps=>bif zm.fnok N.P f then(match N.fn f with
  |some sp=>bif caps.isEmpty then cmpF V c sp else none
  |none=>match N.cl f with
   |some sp=>match zft V ob sp.caps caps with
    |some z=>cmpC V c sp z
    |none=>none
   |none=>none) else none
 |_=>none
def zp0(ob:List (SO V.T))(sl:Sls V.T)(cur:Ch):(ms:List MA)->List Operand->Option (MTup V.T ms)
 | [],[]=>some ()
 | .fn f::ms,o::os=>match evO sl cur o with
  |some (.func g [])=>bif Nat.beq f g then(match zp0 ob sl cur ms os with
   |some r=>some ((),r)
   |none=>none) else none
  |_=>none
 | .val c::ms,o::os=>match (evO sl cur o).bind (V.dec (rdSl []) c) with
  |some y=>match zp0 ob sl cur ms os with
   |some r=>some (y,r)
   |none=>none
  |none=>none
 | .cmp c::ms,o::os=>match (evO sl cur o).bind (cmpX V N ob c) with
  |some y=>match zp0 ob sl cur ms os with
   |some r=>some (y,r)
   |none=>none
  |none=>none
 |_,_=>none
def zpj(i:Nat):Nat->List (SO V.T)->Bool
 |_,[]=>true
 |j,.emp::ob=>zpj i (j+1) ob
 |j,.x (.map _ vc _ _ none)::ob=>zbd (V.d vc)&&zpj i (j+1) ob
 |j,.x (.it ..)::ob=>zpj i (j+1) ob
 |j,.x (.fix ..)::ob=>zpj i (j+1) ob
 |j,_::ob=>Nat.beq i j&&zpj i (j+1) ob
def zmN:List Value->Bool
 | [.slice none 0 0]=>true
 |_=>false
def nilD{T:Nat->Type}: {α:Type}->Ds T α->α->Bool
 |_,.sl _,x=>x.isEmpty
 |_,_,_=>false
def soX(s:SS V.T)(f:Nat)(x:Operand)(k:SV V.T->SS V.T->Option R):Option R:=match N.so f,evO s.sl s.kn x with
 |some sp,some (.func g [.ptr i 0])=>bif Nat.beq g sp.g&&zm.fnok N.P f&&V.fl sp.kc then(match capM V s.ob sp.kc sp.vc (.ptr i 0) with
  |some m=>ck (soK (V.kl sp.kc) m=true) (k (.own s.ob.length) { s with ob:=s.ob++[.row sp.E sp.kc (m.map (·.1))] })
  |none=>none) else none
 |_,_=>none
def z3i(s:SS V.T)(o:Op)(ty:TypeId)(k:SV V.T->SS V.T->Option R):Option R:=match o with
 | .box t x=>match evO s.sl s.kn x with
  |some v=>bif storable V s.ob v then k (.ptr s.ob.length 0) { s with ob:=s.ob++[.box t (cellsOf v)] } else none
  |none=>none
 | .alloc t=>match zlr N.P t with
  |some zs=>bif zf9 V (V.zero (V.code t)) zs then k (.ptr s.ob.length 0) { s with ob:=s.ob++[.box t (fixZ V (V.zero (V.code t)))] } else
    bif zs.all (·.oneCell') then k (.ptr s.ob.length 0) { s with ob:=s.ob++[.box t (zs.map zt9)] } else none
  |none=>none
 | .store t a x=>match z3s N.P t,evO s.sl s.kn a,evO s.sl s.kn x with
  |some (_,n),some p,some v=>stoX V s t n v k p
  |_,_,_=>none
 | .buildSlice t n parts=>match tsl N.P t with
  |some (E,z,_)=>match zx7 V s.sl s.kn (V.code E) 0 parts.toList with
   |some l=>bif Nat.beq z (V.sz (V.code E))&&Nat.beq l.length n&&Nat.ble (n*z) 16777216 then k (.own s.ob.length) { s with ob:=s.ob++[.row E (V.code E) l] } else none
   |none=>none
  |none=>none
 | .makeSlice t x y=>match tsl N.P t,(evO s.sl s.kn x).bind intOf,(evO s.sl s.kn y).bind intOf with
  |some (E,z,by'),some (_,n),some (_,n')=>match zlr N.P E with
   |some zs=>bif zv6 (V.d (V.code E)) then(match N.P.underlying E with
    |some (.slice E2)=>bif sameO x y&&Nat.beq z 1&&zmN zs&&nilD (V.d (V.code E)) (V.z (V.code E)) then
      ck (za n by') (k (.own s.ob.length) { s with ob:=s.ob++[.x (.nst E E2 (V.code E) (List.replicate n.toNat (V.z (V.code E))) none)] }) else none
    |_=>none) else
     bif sameO x y&&Nat.beq z (V.sz (V.code E))&&zmR V (V.enc (V.code E) (V.z (V.code E))) zs then
     ck (za n by') (k (.own s.ob.length) { s with ob:=s.ob++[bif zxj (V.d (V.code E)) then .x (.fix E (V.code E) (List.replicate n.toNat (V.z (V.code E)))) else .row E (V.code E) (List.replicate n.toNat (V.z (V.code E)))] }) else none
   |none=>none
  |_,_,_=>none
 | .makeMap t none=>match N.P.underlying t with
  |some (.map kt et)=>k (.own s.ob.length) { s with ob:=s.ob++[.x (.map (V.code kt) (V.code et) (match N.P.underlying et with|some (.slice E)=>E|_=>0) [] none)] }
  |_=>none
 | .range t x=>match N.P.underlying t,evO s.sl s.kn x with
  |some (.map _ _),some (.rom kc vc m)=>k (.own s.ob.length) { s with ob:=s.ob++[.x (.it kc vc m none)] }
  |some (.map kt et),some (.val (.map none))=>k (.own s.ob.length) { s with ob:=s.ob++[.x (.it (V.code kt) (V.code et) [] none)] }
  |_,_=>none
 | .mapUpdate t x i y=>match evO s.sl s.kn x,evO s.sl s.kn i,evO s.sl s.kn y with
  |some (.own j),some u,some v=>match s.ob[j]? with
   |some (.x (.map kc vc E m h))=>match keyT V N t kc,V.dec (rdSl []) kc u with
    |some _,some key=>bif zbd (V.d vc) then(match h,V.dec (rdSl []) vc v with
     |none,some val=>k .top (updO V s j (.x (.map kc vc E (cset (V.kl kc) m key val) none)))
     |_,_=>none) else(match v with
     | .own q=>match h with
      |none=>k .top (updO V s j (.x (.map kc vc E (cset (V.kl kc) m key (V.z vc)) (some (key,q)))))
      |some (q',_)=>ck (V.kl kc q'=V.kl kc key) (k .top (updO V s j (.x (.map kc vc E (cset (V.kl kc) m key (V.z vc)) (some (key,q))))))
     |_=>none)
    |_,_=>none
   |_=>none
  |_,_,_=>none
 | .call c=>match c.callee,c.args.toList with
  | .builtin .delete,[x,i]=>match c.argTypes[0]?,evO s.sl s.kn x,evO s.sl s.kn i with
   |some t,some (.own j),some u=>match s.ob[j]? with
    |some (.x (.map kc vc E m none))=>match keyT V N t kc,V.dec (rdSl []) kc u with
     |some _,some key=>k (.val (.tuple #[])) (updO V s j (.x (.map kc vc E (cdel (V.kl kc) m key) none)))
     |_,_=>none
    |_=>none
   |some t,some (.val (.map none)),some u=>match N.P.underlying t with
    |some (.map kt _)=>match keyT V N t (V.code kt),V.dec (rdSl []) (V.code kt) u with
     |some _,some _=>k (.val (.tuple #[])) s
     |_,_=>none
    |_=>none
   |_,_,_=>none
  | .builtin .append,[x,y]=>match c.argTypes.toList with
   | [t,t']=>bif Nat.beq t t' then(match tsl N.P t,evO s.sl s.kn x,evO s.sl s.kn y with
    |some (E,z,by'),some (.own i),some y=>match s.ob[i]? with
     |some (.row E' c l)=>bif Nat.beq E E'&&Nat.beq z (V.sz c)&&Nat.blt 0 by' then appX V s ty i E c by' l y k else none
     |_=>none
    |some (E,z,by'),some (.val (.slice none 0 0)),some y=>bif Nat.beq z (V.sz (V.code E))&&Nat.blt 0 by' then
      appX V { s with ob:=s.ob++[.row E (V.code E) []] } ty s.ob.length E (V.code E) by' [] y k else none
    |_,_,_=>none) else(match tsl N.P t,evO s.sl s.kn x,(evO s.sl s.kn y).bind intOf,N.P.underlying t' with
    |some (E,z,by'),some (.val (.slice none 0 0)),some (_,n),some (.int _)=>match zlr N.P E with
     |some zs=>bif Nat.beq z (V.sz (V.code E))&&Nat.blt 0 by'&&zmL V (V.enc (V.code E) (V.z (V.code E))) zs then
       ck (0<n/\fits n.toNat by') (k (.own (s.ob.length+1)) { s with ob:=s.ob++[.emp,.row E (V.code E) (List.replicate n.toNat (V.z (V.code E)))] }) else none
     |none=>none
    |_,_,_,_=>none)
   |_=>none
  | .builtin .copy,[x,y]=>match c.argTypes.toList with
   | [t,t']=>match tsl N.P t,(evO s.sl s.kn x).bind (dstX V s.ob),evO s.sl s.kn y with
    |some (E,z,by'),some (i,lo,hi),some y=>match s.ob[i]? with
     |some (.row E' c l)=>match srcX V s.ob c y with
      |some m=>bif Nat.beq E E'&&Nat.beq z (V.sz c) then k (.int .i64 ((min m.length (hi-lo):Nat):Int)) (updO V s i (.row E' c (cpy l lo (hi-lo) m))) else none
      |none=>none
     |_=>none
    |_,_,_=>none
   |_=>none
  | .builtin .len,_=>zm V N s [] (.call c) ty λv=>k v s
  | .value (.func f),as=>match N.fn f with
   |some sp=>match decA V (bif sp.res.all (flR V) then rdSl s.ob else rdSl []) s.sl s.kn sp.args as with
    |some a=>bif zm.fnok N.P f then(sp.F a).bind λr=>k (resV V (encR V s.ob.length sp.res r)) { s with ob:=s.ob++newR V sp.res r } else none
    |none=>none
   |none=>match N.mu f,as with
    |some m,x::gs=>match evO s.sl s.kn x with
     |some (.own i)=>match s.ob[i]?,zp0 V N (s.ob.set i .emp) s.sl s.kn m.ms gs with
      |some (.row E c l),some a=>bif Nat.beq E m.E&&(V.fl m.c||(V.sep m.c&&zpj V i 0 s.ob))&&zm.fnok N.P f then(if h:c=m.c then(m.F (h ▸ l) a).bind λl'=>k (.val (.tuple #[])) (updO V s i (.row m.E m.c l')) else none) else none
      |_,_=>none
     |_=>none
    |none,[x]=>soX V N s f x k
    |_,_=>none
  |_,_=>none
 |o=>zm V N s [] o ty λv=>k v s
 where sameO:Operand->Operand->Bool
 | .tmp a,.tmp b=>Nat.beq a b
 | .const (.int _ a),.const (.int _ b)=>decide (a=b)
 |_,_=>false
def loud(inl:Inl V R)(s:SS V.T)(o:Op)(ty:TypeId)(k:SV V.T->SS V.T->Option R):Option R:=match yldC V s o with
 |some vs=>zyi V inl s vs k
 |none=>match inlC V N s o with
  |some (f,vs)=>goIn V N inl s f vs k
  |none=>z3i V N s o ty k
def yfj:Op->Bool
 | .box ..=>true
 | .alloc ..=>true
 | .store ..=>true
 | .buildSlice ..=>true
 | .makeSlice ..=>true
 | .makeMap ..=>true
 | .mapUpdate ..=>true
 | .range ..=>true
 | .call c=>match c.callee with
  | .builtin .append=>true
  | .builtin .copy=>true
  | .builtin .delete=>true
  | .value (.func f)=>match N.fn f with
   |some sp=>sp.res.any zer||!(sp.res.all (flR V))
   |none=>true
  | .value _=>true
  |_=>false
 |_=>false
def zox(s:SS V.T)(cur:Ch)(o:Op):Bool:=yfj V N o&&!(match o with
 | .call c=>match c.callee with
  | .value (.tmp t)=>match evO s.sl (cur++s.kn) (.tmp t) with
   |some (.cmp ..)=>true
   |some (.func f _)=>(N.cl f).isSome
   |_=>false
  |_=>false
 |_=>false)
def yad(s:SS V.T)(d:Option Nat)(e:Ch×SV V.T):Option (SS V.T):=match d with
 |some d=>match lk s.gb d with
  |some _=>none
  |none=>bif Nat.blt d s.n then some { s with sl:=(d,e)::s.sl } else none
 |none=>some s
def zx1(o:Oper):Bool:=match o.op,o.dst with
 | .store ..,some _=>false
 | .mapUpdate ..,some _=>false
 |_,_=>true
def resolve(kn:Ch):Ch->Option Ch
 | []=>some []
 |(t,w)::r=>match lk kn t,resolve kn r with
  |_,none=>none
  |some b,some q=>bif b==w then some q else none
  |none,some q=>some ((t,w)::q)
def zgb(ops:List Oper)(s:SS V.T)(g:Nat×Bool):Option (Option Ch×SS V.T):=match (ops[g.1]?).bind (·.dst) with
 |some t=>match lk s.sl t with
  |some ([],.und)=>some (none,s)
  |some (ch,.bool b)=>match lk s.gb t with
   |some _=>some (some ((t,g.2)::ch),s)
   |none=>some (some ((t,g.2)::ch),{ s with gb:=(t,b)::s.gb })
  |_=>none
 |none=>none
def y0d(s:SS V.T)(k:SS V.T->Option R):List (Nat×Bool)->Ch->Option R
 | [],kn=>k { s with kn:=kn }
 |(t,w)::es,kn=>if(lk s.gb t).getD false=w then y0d s k es ((t,w)::kn) else k { s with kn:=(t,!w)::kn }
def after(s:SS V.T)(d:Option Nat)(e:Ch×SV V.T)(k:SS V.T->Option R):Option R:=match yad V s d e with
 |some s=>k s
 |none=>none
def y1c(inl:Inl V R)(o:Oper)(s:SS V.T)(k:SS V.T->Option R):Option R:=bif zx1 o then loud V N inl (zv2 V s (y0r V N s o.op)) o.op o.type (λv s=>after V s o.dst ([],v) k) else none
def z59(inl:Nat->Inl V R)(all:List Oper):Nat->List Oper->SS V.T->(SS V.T->Option R)->Option R
 |_,[],s,k=>k s
 |i,o::os,s,k=>match o.guard with
  |none=>bif zox V N s [] o.op then y1c V N (inl i) o s λs=>z59 inl all (i+1) os s k
   else zm V N s [] o.op o.type λv=>after V s o.dst ([],v) λs=>z59 inl all (i+1) os s k
  |some g=>match zgb V all s g with
   |some (none,s)=>after V s o.dst ([],.und) λs=>z59 inl all (i+1) os s k
   |some (some ch,s)=>match resolve s.kn ch with
    |none=>after V s o.dst ([],.und) λs=>z59 inl all (i+1) os s k
    |some []=>bif zox V N s [] o.op then y1c V N (inl i) o s λs=>z59 inl all (i+1) os s k
     else zm V N s [] o.op o.type λv=>after V s o.dst ([],v) λs=>z59 inl all (i+1) os s k
    |some cur=>bif zox V N s cur o.op then
      y0d V s (λs=>match resolve s.kn ch with
       |some []=>y1c V N (inl i) o s λs=>z59 inl all (i+1) os s k
       |none=>after V s o.dst ([],.und) λs=>z59 inl all (i+1) os s k
       |_=>none) cur.reverse s.kn
     else zm V N s cur o.op o.type λv=>after V s o.dst (cur,v) λs=>z59 inl all (i+1) os s k
   |none=>none
end
end Px
end
