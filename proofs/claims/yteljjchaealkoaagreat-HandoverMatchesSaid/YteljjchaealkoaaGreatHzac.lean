/- A part of the proof of handoverMatches_holds. Conditions: none. -/
import Derived.Test.YteljjchaealkoaaGreatHzab
set_option linter.unusedVariables false
set_option linter.unusedSimpArgs false
section
namespace Px
open Go Go.RowKit
inductive LC where
 |val (c:Nat)
 |own (j:Nat)
 |ptr (j off:Nat)
 |agg (ls:List LC)
 |func (f:Nat) (ls:List LC)
 |cmp (c:Nat)
 |nil
 |raw (v:Value)
 |rop (c:Nat)
 |rom (kc vc:Nat)
inductive OC where
 |box (t:Nat) (ls:List LC)
 |row (E c:Nat)
 |map (kc vc E:Nat)
 |it (kc vc:Nat)
 |nst (E E2 c:Nat) (h:Option Nat)
 |fix (E c:Nat)
 |emp
structure Sh where
 fr:List (Nat×List (Nat×LC))
 ob:List OC
section
variable(T:Nat->Type)
mutual
def LC.Z(T:Nat->Type):LC->Type->Type
 | .val c,r=>T c×r
 | .cmp c,r=>(T c->T c->Option Int)×r
 | .rop c,r=>T c×r
 | .rom kc vc,r=>List (T kc×T vc)×r
 | .agg ls,r=>Zl T ls r
 | .func _ ls,r=>Zl T ls r
 |_,r=>r
def Zl(T:Nat->Type):List LC->Type->Type
 | [],r=>r
 |l::ls,r=>LC.Z T l (Zl T ls r)
end
def Zs(T:Nat->Type):List (Nat×LC)->Type->Type
 | [],r=>r
 |(_,l)::ls,r=>LC.Z T l (Zs T ls r)
def Zf(T:Nat->Type):List (Nat×List (Nat×LC))->Type->Type
 | [],r=>r
 |(_,l)::ls,r=>Zs T l (Zf T ls r)
def Zo(T:Nat->Type):List OC->Type
 | []=>Unit
 | .box _ ls::os=>Zl T ls (Zo T os)
 | .row _ c::os=>List (T c)×Zo T os
 | .map kc vc _::os=>List (T kc×T vc)×Zo T os
 | .it kc vc::os=>List (T kc×T vc)×Zo T os
 | .nst _ _ c none::os=>List (T c)×Zo T os
 | .nst _ _ c (some _)::os=>List (T c)×Int×Zo T os
 | .fix _ c::os=>List (T c)×Zo T os
 | .emp::os=>Zo T os
def Sh.Z(T:Nat->Type)(h:Sh):Type:=Zf T h.fr (Zo T h.ob)
end
section
variable(V:TE)(N:Env V){R:Type}
mutual
def enV{r:Type}:(l:LC)->LC.Z V.T l r->SV V.T×r
 | .val c,z=>(V.encV c z.1,z.2)
 | .cmp c,z=>(.cmp c z.1,z.2)
 | .agg ls,z=>(.agg (enL ls z).1,(enL ls z).2)
 | .func f ls,z=>(.func f (enW ls z).1,(enW ls z).2)
 | .own j,z=>(.own j,z)
 | .ptr j o,z=>(.ptr j o,z)
 | .nil,z=>(.val (.slice none 0 0),z)
 | .raw v,z=>(.val v,z)
 | .rop c,z=>(.rop (V.enc c z.1),z.2)
 | .rom kc vc,z=>(.rop [.rom kc vc z.1],z.2)
def enL{r:Type}:(ls:List LC)->Zl V.T ls r->List (SV V.T)×r
 | [],z=>([],z)
 | .val c::ls,z=>(V.enc c z.1++(enL ls z.2).1,(enL ls z.2).2)
 |l::ls,z=>((enV l z).1::(enL ls (enV l z).2).1,(enL ls (enV l z).2).2)
def enW{r:Type}:(ls:List LC)->Zl V.T ls r->List (SV V.T)×r
 | [],z=>([],z)
 |l::ls,z=>((enV l z).1::(enW ls (enV l z).2).1,(enW ls (enV l z).2).2)
end
def enS{r:Type}:(ls:List (Nat×LC))->Zs V.T ls r->Sls V.T×r
 | [],z=>([],z)
 |(t,l)::ls,z=>((t,[],(enV V l z).1)::(enS ls (enV V l z).2).1,(enS ls (enV V l z).2).2)
def enF{r:Type}:(ls:List (Nat×List (Nat×LC)))->Zf V.T ls r->List (Fm V.T)×r
 | [],z=>([],z)
 |(n,l)::ls,z=>(⟨(enS V l z).1,[],[],n⟩::(enF ls (enS V l z).2).1,(enF ls (enS V l z).2).2)
def enO :(os:List OC)->Zo V.T os->List (SO V.T)
 | [],_=>[]
 | .box t ls::os,z=>.box t (enL V ls z).1::enO os (enL V ls z).2
 | .row E c::os,z=>.row E c z.1::enO os z.2
 | .map kc vc E::os,z=>.x (.map kc vc E z.1 none)::enO os z.2
 | .it kc vc::os,z=>.x (.it kc vc z.1 none)::enO os z.2
 | .nst E E2 c none::os,z=>.x (.nst E E2 c z.1 none)::enO os z.2
 | .nst E E2 c (some j)::os,z=>.x (.nst E E2 c z.1 (some (z.2.1,j)))::enO os z.2.2
 | .fix E c::os,z=>.x (.fix E c z.1)::enO os z.2
 | .emp::os,z=>.emp::enO os z
def mkS(fs:List (Fm V.T))(os:List (SO V.T)):SS V.T:=match fs with
 |f::fs=>{ f with stk:=fs,ob:=os }
 | []=>{ sl:=[],gb:=[],kn:=[],n:=0,stk:=[],ob:=os }
def Sh.enc(h:Sh)(z:h.Z V.T):SS V.T:=mkS V (enF V h.fr z).1 (enO V h.ob (enF V h.fr z).2)
abbrev Bd:=List (Nat×Nat)
mutual
def bdV:LC->SV V.T->Bd
 | .own j,.own i=>[(j,i)]
 | .ptr j _,.ptr i _=>[(j,i)]
 | .agg ls,.agg cs=>bdL ls cs
 | .func _ ls,.func _ cs=>bdW ls cs
 |_,_=>[]
def bdL:List LC->List (SV V.T)->Bd
 | [],_=>[]
 | .val c::ls,cs=>match z9e V cs (V.sz c) with
  |some cs=>bdL ls cs
  |none=>[]
 |l::ls,x::cs=>bdV l x++bdL ls cs
 |_::_,[]=>[]
def bdW:List LC->List (SV V.T)->Bd
 |l::ls,x::cs=>bdV l x++bdW ls cs
 |_,_=>[]
end
def bdS(sl:Sls V.T):List (Nat×LC)->Bd
 | []=>[]
 |(t,l)::ls=>match lk sl t with
  |some (_,x)=>bdV V l x++bdS sl ls
  |none=>bdS sl ls
def bdF:List (Fm V.T)->List (Nat×List (Nat×LC))->Bd
 |f::fs,(_,l)::ls=>bdS V f.sl l++bdF fs ls
 |_,_=>[]
def bdO(ob:List (SO V.T)):Nat->List OC->Bd->Bd
 |_,[],b=>b
 |j,.box _ ls::os,b=>match (lk b j).bind λi=>ob[i]? with
  |some (.box _ cs)=>bdO ob (j+1) os (b++bdL V ls cs)
  |_=>bdO ob (j+1) os b
 |j,.nst _ _ _ (some q)::os,b=>match (lk b j).bind λi=>ob[i]? with
  |some (.x (.nst _ _ _ _ (some (_,i))))=>bdO ob (j+1) os (b++[(q,i)])
  |_=>bdO ob (j+1) os b
 |j,_::os,b=>bdO ob (j+1) os b
def isO(b:Bd)(j i:Nat):Bool:=match lk b j with
 |some i'=>Nat.beq i' i
 |none=>false
mutual
def deV{r:Type}(b:Bd):(l:LC)->SV V.T->r->Option (LC.Z V.T l r)
 | .val c,x,z=>match V.dec (rdSl []) c x with
  |some y=>some (y,z)
  |none=>none
 | .cmp c,.cmp c' f,z=>if h:c'=c then some (h ▸ f,z) else none
 | .agg ls,.agg cs,z=>deL b ls cs z
 | .func f ls,.func g cs,z=>bif Nat.beq f g then deW b ls cs z else none
 | .own j,.own i,z=>bif isO b j i then some z else none
 | .ptr j o,.ptr i o',z=>bif isO b j i&&Nat.beq o o' then some z else none
 | .nil,.val (.slice none 0 0),z=>some z
 | .raw v,.val u,z=>bif beqZ u v then some z else none
 | .rop c,.rop cs,z=>match decN V (rdSl []) (c+1) c cs with
  |some (y,[])=>some (y,z)
  |_=>none
 | .rom kc vc,.rop [.rom kc' vc' m],z=>if h:kc'=kc then(if h2:vc'=vc then some (h ▸ h2 ▸ m,z) else none) else none
 |_,_,_=>none
def deL{r:Type}(b:Bd):(ls:List LC)->List (SV V.T)->r->Option (Zl V.T ls r)
 | [],[],z=>some z
 | .val c::ls,cs,z=>match decN V (rdSl []) (c+1) c cs with
  |some (y,cs)=>match deL b ls cs z with
   |some z=>some (y,z)
   |none=>none
  |none=>none
 |l::ls,x::cs,z=>match deL b ls cs z with
  |some z=>deV b l x z
  |none=>none
 |_,_,_=>none
def deW{r:Type}(b:Bd):(ls:List LC)->List (SV V.T)->r->Option (Zl V.T ls r)
 | [],[],z=>some z
 |l::ls,x::cs,z=>match deW b ls cs z with
  |some z=>deV b l x z
  |none=>none
 |_,_,_=>none
end
def deS{r:Type}(b:Bd)(sl:Sls V.T):(ls:List (Nat×LC))->r->Option (Zs V.T ls r)
 | [],z=>some z
 |(t,l)::ls,z=>match lk sl t,deS b sl ls z with
  |some ([],x),some z=>deV V b l x z
  |_,_=>none
def deF{r:Type}(b:Bd):(ls:List (Nat×List (Nat×LC)))->List (Fm V.T)->r->Option (Zf V.T ls r)
 | [],[],z=>some z
 |(n,l)::ls,f::fs,z=>match deF b ls fs z with
  |some z=>bif Nat.beq n f.n then deS V b f.sl l z else none
  |none=>none
 |_,_,_=>none
def deO(b:Bd)(ob:List (SO V.T)):Nat->(os:List OC)->Option (Zo V.T os)
 |_,[]=>some ()
 |j,.box t ls::os=>match (lk b j).bind λi=>ob[i]?,deO b ob (j+1) os with
  |some (.box t' cs),some z=>bif Nat.beq t t' then deL V b ls cs z else none
  |_,_=>none
 |j,.row E c::os=>match (lk b j).bind λi=>ob[i]?,deO b ob (j+1) os with
  |some (.row E' c' l),some z=>bif Nat.beq E E' then(if h:c'=c then some (h ▸ l,z) else none) else none
  |_,_=>none
 |j,.map kc vc E::os=>match (lk b j).bind λi=>ob[i]?,deO b ob (j+1) os with
  |some (.x (.map kc' vc' E' m none)),some z=>bif Nat.beq E' E then(if h:kc'=kc then(if h2:vc'=vc then some (h ▸ h2 ▸ m,z) else none) else none) else none
  |_,_=>none
 |j,.it kc vc::os=>match (lk b j).bind λi=>ob[i]?,deO b ob (j+1) os with
  |some (.x (.it kc' vc' m _)),some z=>if h:kc'=kc then(if h2:vc'=vc then some (h ▸ h2 ▸ m,z) else none) else none
  |_,_=>none
 |j,.fix E c::os=>match (lk b j).bind λi=>ob[i]?,deO b ob (j+1) os with
  |some (.x (.fix E' c' l)),some z=>bif Nat.beq E E' then(if h:c'=c then some (h ▸ l,z) else none) else none
  |_,_=>none
 |j,.emp::os=>match (lk b j).bind λi=>ob[i]?,deO b ob (j+1) os with
  |some .emp,some z=>some z
  |_,_=>none
 |j,.nst E E2 c none::os=>match (lk b j).bind λi=>ob[i]?,deO b ob (j+1) os with
  |some (.x (.nst E' E2' c' l none)),some z=>bif Nat.beq E E'&&Nat.beq E2 E2' then(if h:c'=c then some (h ▸ l,z) else none) else none
  |_,_=>none
 |j,.nst E E2 c (some q)::os=>match (lk b j).bind λi=>ob[i]?,deO b ob (j+1) os with
  |some (.x (.nst E' E2' c' l (some (k,i)))),some z=>bif Nat.beq E E'&&Nat.beq E2 E2'&&isO b q i then(if h:c'=c then some (h ▸ l,k,z) else none) else none
  |_,_=>none
def zna(b:Bd):Nat->Nat->Option (List Nat)
 |0,_=>some []
 |n+1,j=>match lk b j,zna b n (j+1) with
  |some i,some l=>some (i::l)
  |_,_=>none
def zuq(os:List OC)(gb:List (Nat×Bool)):List (Nat×LC)->Sls V.T->Nat->Sls V.T×List (SO V.T)
 | [],sl,_=>(sl,[])
 |(t,.own j)::ls,sl,n=>match lk sl t,os[j]?,lk gb t with
  |some ([],.val (.slice none 0 0)),some (.row E c),none=>match zuq os gb ls ((t,[],.own n)::sl) (n+1) with
   |(sl,m)=>(sl,.row E c []::m)
  |_,_,_=>zuq os gb ls sl n
 |_::ls,sl,n=>zuq os gb ls sl n
def zsl(os:List OC):List (Nat×List (Nat×LC))->List (Fm V.T)->Nat->List (Fm V.T)×List (SO V.T)
 |(_,l)::ls,f::fs,n=>match zuq V os f.gb l f.sl n with
  |(sl,m)=>match zsl os ls fs (n+m.length) with
   |(fs,m')=>({ f with sl:=sl }::fs,m++m')
 |_,fs,_=>(fs,[])
def nilL(os:List OC):List LC->List (SV V.T)->Nat->List (SV V.T)×List (SO V.T)
 | .val c::ls,cs,n=>match zth V cs (V.sz c),z9e V cs (V.sz c) with
  |some a,some r=>match nilL os ls r n with
   |(r,m)=>(a++r,m)
  |_,_=>(cs,[])
 | .own j::ls,.val (.slice none 0 0)::cs,n=>match os[j]? with
  |some (.row E c)=>match nilL os ls cs (n+1) with
   |(r,m)=>(.own n::r,.row E c []::m)
  |_=>(.val (.slice none 0 0)::cs,[])
 |_::ls,x::cs,n=>match nilL os ls cs n with
  |(r,m)=>(x::r,m)
 |_,cs,_=>(cs,[])
def nilB(all:List OC):Nat->List OC->Bd->List (SO V.T)->List (SO V.T)
 |_,[],_,ob=>ob
 |j,.box _ ls::os,b,ob=>match lk b j with
  |some i=>match ob[i]? with
   |some (.box t cs)=>match nilL V all ls cs ob.length with
    |(cs,m)=>nilB all (j+1) os (b++bdL V ls cs) (ob.set i (.box t cs)++m)
   |_=>nilB all (j+1) os b ob
  |none=>nilB all (j+1) os b ob
 |j,_::os,b,ob=>nilB all (j+1) os b ob
def nilS(h:Sh)(s:SS V.T):SS V.T:=match zsl V h.ob h.fr (s.toFm::s.stk) s.ob.length with
 |(f::fs,m)=>{ f with stk:=fs,ob:=nilB V h.ob 0 h.ob (bdF V (f::fs) h.fr) (s.ob++m) }
 |_=>s
def ztu:List OC->List Nat->List Nat
 | .nst _ _ _ none::os,i::is=>i::ztu os is
 | .map ..::os,i::is=>i::ztu os is
 |_::os,_::is=>ztu os is
 |_,_=>[]
def zwq(s:SS V.T)(is:List Nat):SS V.T:=is.foldl (λs i=>y1u V s i) s
def Sh.decB(h:Sh)(s:SS V.T)(b:Bd):Option (h.Z V.T):=match zna b h.ob.length 0 with
 |some is=>bif zl4 is then(match deO V b (zwq V s (ztu h.ob is)).ob 0 h.ob with
  |some z=>deF V b h.fr (s.toFm::s.stk) z
  |none=>none) else none
 |none=>none
def Sh.bd(h:Sh)(s:SS V.T):Bd:=(bdO V s.ob 0 h.ob (bdF V (s.toFm::s.stk) h.fr)).filter (λp=>Nat.blt p.1 h.ob.length)
def Sh.dec(h:Sh)(s:SS V.T):Option (h.Z V.T):=h.decB V (nilS V h s) (h.bd V (nilS V h s))
def yku(s:SS V.T)(t:Nat):Option Nat->Option (SV V.T)
 |none=>evO s.sl s.kn (.tmp t)
 |some o=>match evO s.sl s.kn (.tmp t) with
  |some (.ptr i b)=>match s.ob[i]? with
   |some (.box _ cs)=>(z9e V cs (b+o)).bind (·.head?)
   |_=>none
  |some (.rop cs)=>(z9e V cs o).bind (·.head?)
  |some (.agg cs)=>(z9e V cs o).bind (·.head?)
  |some (.elt i k z fo)=>match s.ob[i]? with
   |some (.row _ c l)=>(z9e V (V.enc c (gtz (V.z c) l k)) (fo+o)).bind (·.head?)
   |some (.x (.fix _ c l))=>(z9e V (V.enc c (gtz (V.z c) l k)) (fo+o)).bind (·.head?)
   |_=>none
  |_=>none
def ycr(s:SS V.T)(t:Nat)(o:Option Nat):Option (SV V.T):=match o with
 |some o=>bif Nat.ble 1000 o then(match yku V s t (some (o / 1000-1)) with
  |some (.ptr i b)=>match s.ob[i]? with
   |some (.box _ cs)=>(z9e V cs (b+o % 1000)).bind (·.head?)
   |_=>none
  |some (.rop cs)=>(z9e V cs (o % 1000)).bind (·.head?)
  |_=>none) else yku V s t (some o)
 |none=>yku V s t none
def keyX(s:SS V.T)(q:Nat×Option Nat)(kc:Nat):Option (V.T kc):=match q.2 with
 |none=>(evO s.sl s.kn (.tmp q.1)).bind (V.dec rdE kc)
 |some o=>match evO s.sl s.kn (.tmp q.1) with
  |some (.ptr i b)=>match s.ob[i]? with
   |some (.box _ cs)=>(z9e V cs (b+o)).bind λl=>(decN V rdE (kc+1) kc l).map (·.1)
   |_=>none
  |some (.rop cs)=>(z9e V cs o).bind λl=>(decN V rdE (kc+1) kc l).map (·.1)
  |some (.agg cs)=>(z9e V cs o).bind λl=>(decN V rdE (kc+1) kc l).map (·.1)
  |_=>none
def ybg{T:Nat->Type}: Option (SO T)->Bool
 |some (.x (.map ..))=>true
 |_=>false
def focP(p q:Nat×Option Nat)(s:SS V.T):Option (Nat×Int):=match ycr V s p.1 p.2,ycr V s q.1 q.2 with
 |some (.own i),some (.int _ m)=>some (i,m)
 |_,_=>none
inductive H (V:TE) (R:Type) where
 |x
 |seq (a b:H V R)
 |cond (a b:H V R)
 |body (a:H V R)
 |loop (h:Sh) (L:Nat->h.Z V.T->Option R) (b :(h.Z V.T->Option R)->H V R)
 |join (h:Sh) (J:h.Z V.T->Option R) (a:H V R)
 |ins (i f:Nat) (h rest:H V R)
 |foc (p q:Nat×Option Nat) (h:H V R)
 |frz (ps:List (Nat×Option Nat)) (h:H V R)
 |unr (n:Nat) (h:H V R)
 |cut (t:Nat) (h:H V R)
 |pk (h:Sh) (J:h.Z V.T->Option R)
 |alt (h:Sh) (J:h.Z V.T->Option R) (J2:h.Z V.T->Option (List (Option R)))
 |no
 |rf (f k fi:Nat) (h:H V R)
 |yl (i f k:Nat) (h rest:H V R)
def seqK(n:SS V.T->Option R)(K:KX V R):KX V R
 | .normal,s=>n s
 |e,s=>K e s
def blkK(id:Nat)(K:KX V R):KX V R
 | .exit i,s=>bif Nat.beq i id then K .normal s else K (.exit i) s
 |e,s=>K e s
def ngK(K:KX V R):KX V R
 | .goto _,_=>none
 |e,s=>K e s
def yer(s:SS V.T)(o:Operand)(x y:Option R):Option R:=match (evO s.sl [] o).bind zo1 with
 |some b=>if b=true then x else y
 |none=>none
def zy(o:Oper):List Nat:=(o.after.toList.filter (Region.binds .any ·)).map (·.on)
abbrev DE(T:Nat->Type):=Nat×Nat×Ch×SV T
def drSl(f:Nat->Bool)(bs:Sls V.T)(es:List (DE V.T)):Sls V.T:=(es.filter λe=>f e.1).map (·.2)++bs
def y1j(ops:Array Oper)(bs:Sls V.T):Nat->List Oper->SS V.T->List (DE V.T)->(SS V.T->Option R)->Option R
 |_,[],s,es,k=>bif chk (z02 ops) s.n [] (es.map (·.1)) [] [] then k { s with sl:=drSl V (λ_=>true) bs es } else none
 |i,o::os,s,es,k=>match o.dst with
  |some d=>match lk s.gb d,lk bs d with
   |none,none=>bif es.any (λe=>Nat.beq e.2.1 d) then none else match o.guard with
    |none=>zf V N { s with sl:=drSl V (memB (zy o)) bs es } [] o.op o.type λv=>y1j ops bs (i+1) os s ((i,d,[],v)::es) k
    |some g=>match zku V ops.toList { s with sl:=drSl V (memB (zy o)) bs es } g with
     |some (some ch,s')=>zf V N s' ch o.op o.type λv=>y1j ops bs (i+1) os { s with gb:=s'.gb } ((i,d,ch,v)::es) k
     |_=>none
   |_,_=>none
  |none=>none
def isDs(ops:List Oper)(t:Nat):Bool:=ops.any λo=>zox o.dst t
def bitB(m q:Nat):Bool:=Nat.beq (Nat.land (Nat.shiftRight m q) 1) 1
def cloF(ops:List Oper):List Nat:=ops.foldl (λacc o=>acc++[(zy o).foldl (λm d=>Nat.lor (Nat.lor m (Nat.shiftLeft 1 d)) (acc.getD d 0)) 0]) []
def zeg:Op->Bool
 | .alloc ..=>true
 | .box ..=>true
 | .buildSlice ..=>true
 | .makeSlice ..=>true
 | .makeMap ..=>true
 |_=>false
def appO:Op->Bool
 | .call c=>match c.callee with
  | .builtin .append=>true
  | .value (.func _)=>true
  |_=>false
 | .mapUpdate ..=>true
 |o=>zeg o
def y1x:Op->Bool
 | .move _=>true
 | .assign _=>true
 | .fieldAddr ..=>true
 | .nilCheck _=>true
 | .load ..=>true
 | .indexAddr ..=>true
 | .slice ..=>true
 | .build ..=>true
 | .binOp ..=>true
 | .unOp ..=>true
 | .convert ..=>true
 | .extract ..=>true
 | .call c=>match c.callee with
  | .value _=>true
  | .builtin .len=>true
  |_=>false
 |_=>false
def opAt(ops:List Oper)(l:Nat):Op:=match ops[l]? with
 |some o=>o.op
 |none=>.move (.const undef)
def stoF(ops:List Oper)(l:Nat):Bool:=match opAt ops l with
 | .store _ (.tmp t) _=>ops.any λo=>zox o.dst t&&zeg o.op
 |_=>false
def zvm:Op->Bool
 | .load ..=>true
 | .call c=>match c.callee with
  | .builtin .len=>true
  |_=>false
 |_=>false
def boxP(ops:List Oper)(sl:Sls V.T):Nat->Operand->Bool
 |0,_=>false
 |n+1,.tmp t=>match lk sl t with
  |some ([],.ptr ..)=>true
  |some _=>false
  |none=>match ops.find? λo=>zox o.dst t with
   |some o=>match o.op with
    | .fieldAddr _ x _=>boxP ops sl n x
    |_=>false
   |none=>false
 |_,_=>false
def eltF(ops:List Oper)(l:Nat):Bool:=match opAt ops l with
 | .store _ (.tmp t) _=>ops.any λo=>zox o.dst t&&(match o.op with
  | .indexAddr _ (.tmp u) _=>ops.any λq=>zox q.dst u&&(match q.op with | .load _ _=>true|_=>false)
  |_=>false)
 |_=>false
def stoN(ops:List Oper)(l:Nat):Bool:=match opAt ops l with
 | .store ..=>!stoF ops l
 |_=>false
def ymd(ops:List Oper)(clo:List Nat)(sl:Sls V.T)(i:Nat)(o:Oper):Bool:=match o.op with
 | .load _ p=>o.guard.isNone&&boxP V ops sl 4 p&&(List.range ops.length).any λl=>stoN ops l&&!eltF ops l&&!bitB (clo.getD i 0) l&&!bitB (clo.getD l 0) i
 | .call c=>(match c.callee with
  | .builtin .len=>o.guard.isNone&&(List.range ops.length).any λl=>stoN ops l&&!bitB (clo.getD i 0) l&&!bitB (clo.getD l 0) i
  |_=>false)
 |_=>false
def zjn{T:Nat->Type}: SO T->Bool
 | .box ..=>true
 |_=>false
def y2e(ops:List Oper)(n0 l i:Nat)(box:Bool):Bool:=zvm (opAt ops l)||zeg (opAt ops l)||(appO (opAt ops l)&&box)||(stoF ops l&&Nat.blt i n0)||(eltF ops l&&box)
def y9g(ops:List Oper)(n0:Nat)(ls:List Nat):Nat->List (SO V.T)->List (SO V.T)
 |_,[]=>[]
 |i,x::ob=>(bif ls.all (λl=>y2e ops n0 l i (zjn x)) then x else .emp)::y9g ops n0 ls (i+1) ob
def seen(clo:List Nat)(ops:List Oper)(n0 q:Nat)(o:Oper)(later:List Nat)(ob:List (SO V.T)):Option (List (SO V.T)):=
 match later.filter λl=>!bitB (clo.getD l 0) q with
 | []=>some ob
 |ls=>bif y1x o.op&&o.guard.isNone then some (y9g V ops n0 ls 0 ob) else none
def y7n(l:List Nat):Nat:=l.foldl (λm q=>Nat.lor m (Nat.shiftLeft 1 q)) 0
def segs(ops:Array Oper)(clo done later:List Nat)(es:List (DE V.T)):List Nat:=(List.range ops.size).filter λq=>Nat.beq (Nat.land (Nat.lor (Nat.shiftLeft 1 q) (clo.getD q 0)) (y7n later)) 0&&!bitB (Nat.lor (y7n done) (y7n (es.map (·.1)))) q
def ygt{T:Nat->Type}: SV T->SV T->Bool
 | .ptr i o,.ptr j q=>Nat.beq i j&&Nat.beq o q
 | .own i,.own j=>Nat.beq i j
 |_,_=>false
def ygw{T:Nat->Type}: List (SV T)->List (SV T)->Bool
 | [],[]=>true
 |x::l,y::m=>ygt x y&&ygw l m
 |_,_=>false
def yl7{T:Nat->Type}: SV T->SV T->Bool
 | .func f l,.func g m=>Nat.beq f g&&ygw l m
 |_,_=>false
def okB{T:Nat->Type}: Option (Ch×SV T)->SV T->Bool
 |none,_=>true
 |some ([],w),v=>yl7 v w
 |_,_=>false
def ygy(ops:List Oper)(d:Nat):Bool:=match ops.filter λo=>zox o.dst d with
 | [o]=>match o.op,o.guard with
  | .assign (.tmp t),none=>(match ops.find? λq=>zox q.dst t with
   |some q=>(match q.op,q.guard with
    | .move (.tmp x),none=>Nat.beq x d
    |_,_=>false)
   |none=>false)
  |_,_=>false
 |_=>false
def segX(ops:Array Oper)(clo:List Nat)(n0:Nat)(later:List Nat)(bs:Sls V.T):List Nat->SS V.T->List (DE V.T)->(SS V.T->List (DE V.T)->Option R)->Option R
 | [],s,es,k=>k s es
 |i::is,s,es,k=>match ops[i]? with
  |some o=>match o.dst,seen V clo ops.toList n0 i o later s.ob with
   |some d,some ob=>match lk s.gb d with
    |none=>bif es.any (λe=>Nat.beq e.2.1 d) then none else match o.guard with
     |none=>zf V N { s with sl:=drSl V (memB (zy o)) bs es,ob:=ob } [] o.op o.type λv=>bif okB (lk bs d) v then segX ops clo n0 later bs is s ((i,d,[],v)::es) k else none
     |some g=>bif (lk bs d).isSome then none else match zku V ops.toList { s with sl:=drSl V (memB (zy o)) bs es } g with
      |some (some ch,s')=>zf V N { s' with ob:=ob } ch o.op o.type λv=>segX ops clo n0 later bs is { s with gb:=s'.gb } ((i,d,ch,v)::es) k
      |_=>none
    |some _=>none
   |_,_=>none
  |none=>none
def zkl(s:SS V.T)(bs:Sls V.T)(es:List (DE V.T)):Option Nat->Bool
 |some d=>Nat.blt d s.n&&(lk s.gb d).isNone&&(lk bs d).isNone&&!es.any (λe=>Nat.beq e.2.1 d)
 |none=>true
def putB(bs:Sls V.T)(v:SV V.T):Option Nat->Sls V.T
 |some d=>(d,[],v)::bs
 |none=>bs
def cat2{α:Type}: Option (List α)->Option (List α)->Option (List α)
 |some a,some b=>some (a++b)
 |_,_=>none
def catL{α:Type}: List (Option (List α))->Option (List α)
 | []=>some []
 |x::xs=>cat2 x (catL xs)
def one1{α:Type}: List (Option α)->Option α
 | [x]=>x
 |_=>none
def ydg(ops:List Oper)(n0 l:Nat)(s:SS V.T):Op->Bool
 | .store _ p _=>(!stoF ops l||(match evO s.sl s.kn p with
  |some (.ptr i _)=>Nat.ble n0 i
  |_=>false))&&(!eltF ops l||(match evO s.sl s.kn p with
  |some (.elt _ _ _ _)=>true
  |_=>false))
 |_=>true
def z77(clo later:List Nat):List Nat:=later.filter λc=>Nat.beq (Nat.land (clo.getD c 0) (y7n later)) 0
def tlB(bs:Sls V.T)(o:Oper):Bool:=match o.dst with
 |some d=>(lk bs d).isSome
 |none=>false
def tlA(ops:Array Oper)(s:SS V.T)(i:Nat):Bool:=match ops[i]? with
 |some o=>match o.op,o.guard,o.dst with
  | .assign _,none,some d=>(lk s.sl d).isSome
  |_,_,_=>false
 |none=>false
def tlS(ops:Array Oper)(s:SS V.T):Nat->Nat
 |0=>0
 |i+1=>bif tlA V ops s i then tlS ops s i else i+1
def tlC(ops:Array Oper)(l:Nat):Bool:=(List.range l).all (λq=>bitB ((cloF ops.toList).getD l 0) q)&&(ops.toList.drop l).all (λo=>match o.dst with|some d=>!isDs (ops.toList.take l) d|none=>true)&&
 (List.range ops.size).all (λj=>Nat.ble j l||memB (Tab.deps (z02 ops) j) (j-1))
def tlOf(ops:Array Oper)(s:SS V.T):List Nat:=match (List.range' (tlS V ops s ops.size) (ops.size-tlS V ops s ops.size)).find? (tlC ops) with
 |some l=>[l]
 |none=>[]
def wrO(ops:Array Oper)(s:SS V.T):List Oper:=match tlOf V ops s with
 |l::_=>ops.toList.take l
 | []=>ops.toList
def elB(ops:List Oper)(l:Nat):Bool:=match ops[l]? with
 |some o=>(match o.op,o.dst with
  | .buildSlice ..,some d=>ops.any λq=>match q.op with
   | .buildSlice _ _ parts=>parts.toList.any λp=>match p.2 with | .tmp t=>Nat.beq t d|_=>false
   |_=>false
  | .call c,some d=>(match c.callee with
   | .builtin .append=>ops.any λq=>match q.op with
    | .call c'=>(match c'.callee with
     | .value (.func _)=>c'.args.toList.any λx=>match x with | .tmp t=>Nat.beq t d|_=>false
     |_=>false)
    |_=>false
   | .value (.func _)=>ops.any λq=>match q.op with
    | .buildSlice _ _ parts=>parts.toList.any λp=>match p.2 with | .tmp t=>Nat.beq t d|_=>false
    |_=>false
   |_=>false)
  |_,_=>false)
 |none=>false
def frzN(ops:List Oper)(l m:Nat)(v:SV V.T)(ob:List (SO V.T)):SV V.T×List (SO V.T):=bif elB ops l then(match v with
 | .own n=>bif Nat.ble m n then(match ob[n]? with
  |some (.row _ c l')=>(.ro c l',ob.set n .emp)
  |_=>(v,ob)) else(v,ob)
 |_=>(v,ob)) else(v,ob)
def y05(ops:Array Oper)(done keys later:List Nat)(l:Nat):Bool:=Nat.beq later.length 1&&keys.all (λq=>(l::(done++keys)).any λj=>memB (Tab.deps (z02 ops) j) q)&&(List.range ops.size).all (λq=>Nat.ble l q||memB done q||memB keys q)&&
 (done++keys).all (λq=>Nat.blt q l)&&(List.range ops.size).all (λj=>Nat.ble j l||memB (Tab.deps (z02 ops) j) (j-1))&&Nat.blt l ops.size
def y9n(bs:Sls V.T)(s:SS V.T)(o:Oper):Bool:=o.guard.isSome||tlB V bs o||(inlC V N s o.op).isSome||(yldC V s o.op).isSome
def yaf{R':Type}(leaf:Option R->Option R')(comb:List (Option R')->Option R')(inl:Nat->Inl V R)(ops:Array Oper)(clo:List Nat)(n0:Nat)(k:SS V.T->Option R):Nat->List Nat->List Nat->List Nat->Sls V.T->List (DE V.T)->SS V.T->Option R'
 |0,_,_,_,_,_,_=>none
 |n+1,later,done,sure,bs,es,s=>segX (R:=R') V N ops clo n0 later bs (segs V ops clo done later es) s es λs es=>
  bif chk (z02 ops) s.n done (es.map (·.1)) (z77 clo later) sure then(match later with
   | []=>leaf (k { s with sl:=drSl V (λ_=>true) bs es })
   |later=>bif (z77 clo later).isEmpty then none else comb ((z77 clo later).map λl=>match ops[l]? with
    |some o=>bif !memB done l&&!memB (es.map (·.1)) l then(bif y05 ops done (es.map (·.1)) (z77 clo later) l||y9n V N bs { s with sl:=drSl V (memB (zy o)) bs es } o then(bif y05 ops done (es.map (·.1)) (z77 clo later) l then
       leaf (z7o V N inl ops.toList l (ops.toList.drop l) { s with sl:=drSl V (λ_=>true) bs es } k) else none) else
      bif y4k o&&zkl V s bs es o.dst&&((y8j V N { s with sl:=drSl V (memB (zy o)) bs es } o.op).isEmpty&&ydg V ops.toList n0 l { s with sl:=drSl V (memB (zy o)) bs es } o.op) then
       z4z (R:=R') V N { s with sl:=drSl V (memB (zy o)) bs es } o.op o.type λv s'=>yaf leaf comb inl ops clo n0 k n (later.filter λx=>!Nat.beq x l) (l::done) (sure++(es.map (·.1)).filter λq=>bitB (clo.getD l 0) q&&!memB sure q) (putB V bs (frzN V ops.toList l s.ob.length v s'.ob).1 o.dst) es { s with ob:=(frzN V ops.toList l s.ob.length v s'.ob).2 } else none) else none
    |none=>none)) else none
def yn7:Op->Bool
 | .call c=>match c.callee with
  | .value (.func f)=>match N.fn f with
   |some sp=>!(sp.res.any zhu)
   |none=>false
  |_=>false
 |_=>false
def ylr(ops:List Oper)(s:SS V.T)(t:Nat):Option (SV V.T):=match ops.find? λo=>zox o.dst t with
 |some o=>match o.op with
  | .move x=>evO s.sl s.kn x
  | .load _ x=>match evO s.sl s.kn x with
   |some (.rop [v])=>some v
   |some (.ptr i 0)=>match s.ob[i]? with
    |some (.box _ [v])=>some v
    |_=>none
   |_=>none
  |_=>evO s.sl s.kn (.tmp t)
 |none=>evO s.sl s.kn (.tmp t)
def yiw(ops:List Oper)(s:SS V.T):Op->Bool
 | .call c=>match c.callee with
  | .value (.tmp t)=>match ylr V ops s t with
   |some (.func f _)=>(N.cl f).isSome
   |some (.cmp ..)=>true
   |_=>false
  |_=>false
 |_=>false
def yjy:Op->Bool
 | .buildSlice ..=>true
 |_=>false
def ybt(ops:Array Oper)(s:SS V.T):List Nat:=(List.range ops.size).filter λi=>match ops[i]? with
 |some o=>(zub V N s [] o.op&&!yn7 V N o.op&&!yiw V N ops.toList s o.op&&!(yjy o.op&&o.guard.isSome))||ymd V ops.toList (cloF ops.toList) s.sl i o
 |none=>false
def ynn(ops:Array Oper)(s:SS V.T):Sls V.T:=s.sl.filter λp=>!isDs ops.toList p.1
def yll(ops:Array Oper)(s:SS V.T):Sls V.T:=s.sl.filter λp=>!isDs ops.toList p.1||ygy ops.toList p.1
def ylm(ops:Array Oper)(s:SS V.T):Sls V.T:=s.sl.filter λp=>!isDs (wrO V ops s) p.1||ygy ops.toList p.1
def altT{R':Type}(leaf:Option R->Option R')(comb:List (Option R')->Option R')(inl:Nat->Inl V R)(ops:Array Oper)(louds:List Nat)(s:SS V.T)(K:KX V R):Option R':=yaf V N leaf comb inl ops (cloF ops.toList) s.ob.length (λs=>K .normal s) (louds.length+1) louds [] [] (ylm V ops s) [] s
def yk2(o:Oper):Bool:=match o.op with
 | .move _=>true
 | .assign _=>true
 | .load _ _=>true
 | .fieldAddr _ _ _=>true
 | .indexAddr _ _ _=>true
 | .nilCheck _=>true
 | .call c=>(match c.callee with
  | .builtin .min=>true
  | .builtin .max=>true
  |_=>false)
 |_=>false
def zrv(s:SS V.T)(o:Oper):Bool:=o.guard.isNone&&(match o.op with
 | .move _=>true
 | .assign _=>true
 | .load _ _=>true
 | .fieldAddr _ _ _=>true
 | .indexAddr _ _ _=>true
 | .nilCheck x=>(match evO s.sl s.kn x with
  |some (.ptr _ _)=>true
  |_=>false)
 | .call c=>(match y0m V s.sl s.kn c.args.toList with
  |some us=>bif us.all (λx=>match x with | .int _ _=>true|_=>false) then(match c.callee with
   | .builtin .min=>true
   | .builtin .max=>true
   |_=>false) else false
  |none=>false)
 |_=>false)
def yd1:List Oper->SS V.T->(SS V.T->Option R)->Option R
 | [],s,k=>k s
 |o::os,s,k=>bif zrv V s o then zf V N s [] o.op o.type (λv=>after V s o.dst ([],v) λs=>yd1 os s k) else none
def yde(ops:Array Oper)(s:SS V.T):Bool:=ops.toList.all yk2&&(List.range (match tlOf V ops s with|l::_=>l | []=>ops.size)).any (tlA V ops s)&&Region.lexB .any ops
def regX(inl:Nat->Inl V R)(ops:Array Oper)(draw:Bool)(s:SS V.T)(K:KX V R):Option R:=
 bif draw then(bif N.P.follows .mixedOrders then(bif yde V ops s then yd1 V N ops.toList s (λs=>K .normal s) else match ybt V N ops { s with sl:=yll V ops s } with
  | []=>(match tlOf V ops s with
   | []=>y1j V N ops (ynn V ops s) 0 ops.toList s [] λs=>K .normal s
   |ls=>altT V N id one1 inl ops ls s K)
  |ls=>altT V N id one1 inl ops (ls++tlOf V ops s) s K) else none)
 else z7o V N inl ops.toList 0 ops.toList s λs=>K .normal s
def zvh(dfl:Inl V R):Code->SS V.T->KX V R->Option R
 | .skip,s,K=>K .normal s
 | .label _,s,K=>K .normal s
 | .region _ ops d,s,K=>regX V N (λ_=>dfl) ops d s K
 | .seq a b,s,K=>zvh dfl a s (seqK V (λs=>zvh dfl b s K) K)
 | .cond o a b,s,K=>yer V s o (zvh dfl a s K) (zvh dfl b s K)
 | .block id c,s,K=>zvh dfl c s (blkK V id K)
 | .scope c,s,K=>zvh dfl c s (ngK V K)
 | .exit id,s,K=>K (.exit id) s
 | .ret,s,K=>K .ret s
 |_,_,_=>none
def dflN:Nat->Inl V R
 |0=>λ_ _ _ _=>none
 |n+1=>λ_ c s K=>zvh V N (dflN n) c s K
def zx5{α:Type}(x:Option α)(k:α->Option R):Option R:=match x with
 |some z=>k z
 |none=>none
abbrev Dfl(V:TE)(N:Env V)(R:Type):Inl V R:=dflN V N 8
structure Ex(V:TE)(R:Type)where
 run:Code->SS V.T->KX V R->Option R
 inl:Nat->Inl V R
def zg9{T:Nat->Type}(sl:Sls T)(t:Nat):Bool:=match lk sl t with
 |some ([],_)=>true
 |_=>false
def clrG(s:SS V.T):SS V.T:={ s with sl:=s.sl.filter (λp=>zg9 s.sl p.1),gb:=[],kn:=[] }
def unrX(run:SS V.T->KX V R->Option R):Nat->SS V.T->KX V R->Option R
 |0,_,_=>none
 |n+1,s,K=>run (clrG V s) (seqK V (λs=>unrX run n s K) K)
def cutX(s:SS V.T)(t:Nat):SS V.T:=match lk s.sl t,lk s.gb t with
 |some ([],.prt i 0 hi z),none=>match s.ob[i]? with
  |some (.row E c l)=>bif Nat.beq z (V.sz c) then { s with sl:=(t,[],.own s.ob.length)::s.sl,ob:=s.ob.set i .emp++[.row E c (zw l 0 hi)] } else s
  |_=>s
 |_,_=>s
def pkX(ops:Array Oper)(s:SS V.T)(K:KX V R):Option R:=match ops.toList with
 |o::os=>match o.op,o.guard with
  | .next x false,none=>match evO s.sl s.kn x with
   |some (.own j)=>match s.ob[j]? with
    |some (.x (.it kc vc rem _))=>match rem with
     | []=>after V s o.dst ([],.tup [.bool false]) λs=>z7o V N (λ_=>Dfl V N R) ops.toList 1 os s λs=>K .normal s
     |e::rem=>bif V.key kc then after V (updO V s j (.x (.it kc vc rem (some e)))) o.dst ([],.tup [.bool true,V.encV kc e.1,V.encV vc e.2]) λs=>z7o V N (λ_=>Dfl V N R) ops.toList 1 os s λs=>K .normal s else none
    |_=>none
   |_=>none
  |_,_=>none
 | []=>none
def rfL:Code->List (Operand×Array Tmp×Code×Code)
 | .rangeFunc g ps asg bd=>(g,ps,asg,bd)::(rfL asg++rfL bd)
 | .seq a b=>rfL a++rfL b
 | .cond _ a b=>rfL a++rfL b
 | .block _ a=>rfL a
 | .loop a=>rfL a
 | .scope a=>rfL a
 |_=>[]
def rfAt(P:Program)(f k:Nat):Option (Operand×Array Tmp×Code×Code):=match P.funcs[f]? with
 |some fn=>match fn.body with
  |some c=>(rfL c)[k]?
  |none=>none
 |none=>none
def noRF(c:Code):Bool:=match c with
 | .rangeFunc ..=>false
 | .seq a b=>noRF a&&noRF b
 | .cond _ a b=>noRF a&&noRF b
 | .block _ a=>noRF a
 | .loop a=>noRF a
 | .scope a=>noRF a
 |_=>true
def popG(f:Fm V.T):Fm V.T:={ f with n:=f.n-1,sl:=f.sl.filter λp=>!Nat.beq p.1 (f.n-1) }
def rfK(K:KX V R):KX V R:=λe s=>match e with
 | .ret | .normal=>match s.stk with
  |f::stk=>K .normal { popG V f with stk:=stk,ob:=s.ob }
  | []=>none
 |_=>none
def rfX(fi:Nat)(run:Code->SS V.T->KX V R->Option R)(g:Operand)(s:SS V.T)(K:KX V R):Option R:=match evO s.sl s.kn g,lk s.gb s.n with
 |some (.func f caps),none=>match N.P.funcs[f]? with
  |some fn=>match fn.body with
   |some c=>bif Nat.beq f fi&&zf.fnok N.P f&&Nat.ble (caps.length+1) fn.ntmps&&fn.results.isEmpty then
     run c { sl:=zk3 V 0 (.own s.ob.length::caps),gb:=[],kn:=[],n:=fn.ntmps,stk:={ s.toFm with sl:=(s.n,[],.own s.ob.length)::s.sl,n:=s.n+1 }::s.stk,ob:=s.ob++[.emp] } (rfK V K) else none
   |none=>none
  |none=>none
 |_,_=>none
def zipP{T:Nat->Type}: List Nat->List (SV T)->Sls T->Sls T
 |p::ps,v::vs,sl=>zipP ps vs ((p,[],v)::sl)
 |_,_,sl=>sl
def ylX(run:Code->SS V.T->KX V R->Option R)(f k:Nat)(s:SS V.T)(K:KX V R):Option R:=match rfAt N.P f k,s.stk with
 |some (_,ps,asg,bd),_::ow::_=>bif noRF asg&&noRF bd&&Nat.beq ps.size s.sl.length&&ps.toList.all (λp=>Nat.blt p (ow.n-1)) then
   zvh V N (Dfl V N R) asg { sl:=zipP ps.toList (s.sl.map λx=>x.2.2) (ow.sl.filter λp=>zg9 ow.sl p.1&&Nat.blt p.1 (ow.n-1)),gb:=[],kn:=[],n:=ow.n-1,stk:=s.stk,ob:=s.ob }
    λe s1=>match e with
     | .normal=>run bd s1 K
     |_=>none
   else none
 |_,_=>none
mutual
def LC.eqZ(T:Nat->Type):(l:LC)->{r:Type}->(r->r->Prop)->LC.Z T l r->LC.Z T l r->Prop
 | .val _,_,P,z,z'=>z.1=z'.1/\P z.2 z'.2
 | .cmp _,_,P,z,z'=>z.1=z'.1/\P z.2 z'.2
 | .rop _,_,P,z,z'=>z.1=z'.1/\P z.2 z'.2
 | .rom _ _,_,P,z,z'=>z.1=z'.1/\P z.2 z'.2
 | .agg ls,_,P,z,z'=>eqZl T ls P z z'
 | .func _ ls,_,P,z,z'=>eqZl T ls P z z'
 | .own _,_,P,z,z'=>P z z'
 | .ptr _ _,_,P,z,z'=>P z z'
 | .nil,_,P,z,z'=>P z z'
 | .raw _,_,P,z,z'=>P z z'
def eqZl(T:Nat->Type):(ls:List LC)->{r:Type}->(r->r->Prop)->Zl T ls r->Zl T ls r->Prop
 | [],_,P,z,z'=>P z z'
 |l::ls,_,P,z,z'=>LC.eqZ T l (eqZl T ls P) z z'
end
def eqZs(T:Nat->Type):(ls:List (Nat×LC))->{r:Type}->(r->r->Prop)->Zs T ls r->Zs T ls r->Prop
 | [],_,P,z,z'=>P z z'
 |(_,l)::ls,_,P,z,z'=>LC.eqZ T l (eqZs T ls P) z z'
def eqZf(T:Nat->Type):(ls:List (Nat×List (Nat×LC)))->{r:Type}->(r->r->Prop)->Zf T ls r->Zf T ls r->Prop
 | [],_,P,z,z'=>P z z'
 |(_,l)::ls,_,P,z,z'=>eqZs T l (eqZf T ls P) z z'
def eqZo(T:Nat->Type):(os:List OC)->Zo T os->Zo T os->Prop
 | [],_,_=>True
 | .box _ ls::os,z,z'=>eqZl T ls (eqZo T os) z z'
 | .row _ _::os,z,z'=>z.1=z'.1/\eqZo T os z.2 z'.2
 | .map _ _ _::os,z,z'=>z.1=z'.1/\eqZo T os z.2 z'.2
 | .it _ _::os,z,z'=>z.1.Perm z'.1/\eqZo T os z.2 z'.2
 | .nst _ _ _ none::os,z,z'=>z.1=z'.1/\eqZo T os z.2 z'.2
 | .nst _ _ _ (some _)::os,z,z'=>z.1=z'.1/\z.2.1=z'.2.1/\eqZo T os z.2.2 z'.2.2
 | .fix _ _::os,z,z'=>z.1=z'.1/\eqZo T os z.2 z'.2
 | .emp::os,z,z'=>eqZo T os z z'
def Sh.eqZ(T:Nat->Type)(h:Sh):h.Z T->h.Z T->Prop:=eqZf T h.fr (eqZo T h.ob)
def ex(φ:Nat):H V R->Ex V R
 | .x=>⟨zvh V N (Dfl V N R),λ_=>Dfl V N R⟩
 | .seq h1 h2=>⟨λc s K=>match c with
  | .seq a b=>(ex φ h1).run a s (seqK V (λs=>(ex φ h2).run b s K) K)
  |_=>none,λ_=>Dfl V N R⟩
 | .cond h1 h2=>⟨λc s K=>match c with
  | .cond o a b=>yer V s o ((ex φ h1).run a s K) ((ex φ h2).run b s K)
  |_=>none,λ_=>Dfl V N R⟩
 | .body h=>⟨λc s K=>match c with
  | .block id c=>(ex φ h).run c s (blkK V id K)
  | .scope c=>(ex φ h).run c s (ngK V K)
  |_=>none,λ_=>Dfl V N R⟩
 | .loop h L b=>⟨λc s K=>match c with
  | .loop _=>zx5 (h.dec V s) (L φ)
  |_=>none,λ_=>Dfl V N R⟩
 | .join h J a=>⟨λc s K=>(ex φ a).run c s (seqK V (λs=>zx5 (h.dec V s) J) K),λ_=>Dfl V N R⟩
 | .ins i f h rest=>⟨λc s K=>match c with
  | .region _ ops d=>regX V N (λk g c s K=>bif Nat.beq k i&&Nat.beq g f&&Nat.ble (g+1) YID then(ex φ h).run c s K else(ex φ rest).inl k g c s K) ops d s K
  |_=>none,λk g c s K=>bif Nat.beq k i&&Nat.beq g f&&Nat.ble (g+1) YID then(ex φ h).run c s K else(ex φ rest).inl k g c s K⟩
 | .foc p q h=>⟨λc s K=>match ycr V s p.1 p.2 with
  |some (.own i)=>bif ybg s.ob[i]? then focM V s i (keyX V s q) λs=>(ex φ h).run c s K else(match focP V p q s with
   |some (i,m)=>focX V s i m λs=>(ex φ h).run c s K
   |none=>none)
  |_=>none,(ex φ h).inl⟩
 | .unr n h=>⟨λc s K=>match c with
  | .loop c=>unrX V ((ex φ h).run c) n s K
  |_=>none,λ_=>Dfl V N R⟩
 | .alt h J _=>⟨λc s K=>match c with
  | .region _ _ _=>zx5 (h.dec V s) J
  |_=>none,λ_=>Dfl V N R⟩
 | .pk h J=>⟨λc s K=>match c with
  | .region _ _ _=>zx5 (h.dec V s) J
  |_=>none,λ_=>Dfl V N R⟩
 | .no=>⟨λ_ _ _=>none,λ_=>Dfl V N R⟩
 | .rf _ _ fi h=>⟨λc s K=>match c with
  | .rangeFunc g _ _ _=>rfX V N fi (ex φ h).run g s K
  |_=>none,λ_=>Dfl V N R⟩
 | .yl i f k h rest=>⟨λc s K=>match c with
  | .region _ ops d=>regX V N (λj g c s K=>bif Nat.beq j i&&Nat.beq g YID then ylX V N (ex φ h).run f k s K else(ex φ rest).inl j g c s K) ops d s K
  |_=>none,λj g c s K=>bif Nat.beq j i&&Nat.beq g YID then ylX V N (ex φ h).run f k s K else(ex φ rest).inl j g c s K⟩
 | .cut t h=>⟨λc s K=>(ex φ h).run c (cutX V s t) K,(ex φ h).inl⟩
 | .frz ps h=>⟨λc s K=>(ex φ h).run c (y1w V s (ps.flatMap λp=>match ycr V s p.1 p.2 with|some (.ptr i 0)=>[i]|some x=>ygf x|none=>[])) K,(ex φ h).inl⟩
def y9e(inl:Nat->Inl V R)(ops:Array Oper)(i:Nat)(K:KX V R)(v:SV V.T)(s:SS V.T):Option R:=match ops[i]? with
 |some o=>after V s o.dst ([],v) λs=>z7o V N inl ops.toList (i+1) (ops.toList.drop (i+1)) s λs=>K .normal s
 |none=>none
def okO:SO V.T->Prop
 | .x (.map kc vc _ m none)=>Srt' (V.kl kc) m
 | .x (.it kc vc rem _)=>Ndp (V.kl kc) rem
 |_=>True
structure zar{R:Type}(x:Option R)(y:Option (List (Option R))):Prop where
 ok:∀r,x=some r->∃L,y=some L/\∀a∈L,a=some r
def obl(φ:Nat):List (Option (Nat×Nat))->H V R->Option (Nat->Inl V R)->Code->KX V R->Prop
 |Γ,.x,_,_,_=>True
 |Γ,.no,_,_,_=>True
 |Γ,.seq h1 h2,_,.seq a b,K=>obl φ Γ h1 none a (seqK V (λs=>(ex V N φ h2).run b s K) K)/\obl φ Γ h2 none b K
 |Γ,.cond h1 h2,_,.cond _ a b,K=>obl φ Γ h1 none a K/\obl φ Γ h2 none b K
 |Γ,.body h,_,.block id c,K=>obl φ Γ h none c (blkK V id K)
 |Γ,.body h,_,.scope c,K=>obl φ Γ h none c (ngK V K)
 |Γ,.loop h L b,_,.loop c,K=>(∀z,L 0 z=none)/\(∀n z,L (n+1) z =(ex V N φ (b (L n))).run c (h.enc V z) (seqK V (λs=>zx5 (h.dec V s) (L n)) K))/\
   ∀n,obl φ Γ (b (L n)) none c (seqK V (λs=>zx5 (h.dec V s) (L n)) K)
 |Γ,.join h J a,_,c,K=>(∀z,J z=K .normal (h.enc V z))/\obl φ Γ a none c (seqK V (λs=>zx5 (h.dec V s) J) K)
 |Γ,.ins i f h rest,full,.region id ops d,K=>(match N.P.funcs[f]? with
   |some fn=>match fn.body with
    |some c=>obl φ (none::Γ) h none c (inlK V N fn (y9e V N (full.getD (ex V N φ (.ins i f h rest)).inl) ops i K))
    |none=>False
   |none=>False)/\obl φ Γ rest (some (full.getD (ex V N φ (.ins i f h rest)).inl)) (.region id ops d) K
 |Γ,.rf f k fi h,_,.rangeFunc g ps asg bd,K=>rfAt N.P f k=some (g,ps,asg,bd)/\(match N.P.funcs[fi]? with
   |some fn=>match fn.body with
    |some c=>obl φ (some (f,k)::Γ) h none c (rfK V K)
    |none=>False
   |none=>False)
 |Γ,.yl i f k h rest,full,.region id ops d,K=>(Γ.head? = some (some (f,k))/\N.P.funcs[YID]? = none/\(match rfAt N.P f k with
   |some (_,_,_,bd)=>obl φ (none::none::Γ.tail) h none bd (yK V (y9e V N (full.getD (ex V N φ (.yl i f k h rest)).inl) ops i K))
   |none=>False))/\obl φ Γ rest (some (full.getD (ex V N φ (.yl i f k h rest)).inl)) (.region id ops d) K
 |Γ,.alt h J J2,_,.region _ ops d,K=>(d&&N.P.follows .mixedOrders)=true/\(∀z,J2 z=altT V N (λx=>some [x]) catL (λ_=>Dfl V N R) ops (ybt V N ops { h.enc V z with sl:=yll V ops (h.enc V z) }++tlOf V ops (h.enc V z)) (h.enc V z) K)/\∀z,zar (J z) (J2 z)
 |Γ,.pk h J,_,.region _ ops d,K=>d=false/\(∀z,J z=pkX V N ops (h.enc V z) K)/\∀z z',h.eqZ V.T z z'->(∀o∈(h.enc V z).ob,okO V o)->J z'=J z
 |Γ,.unr _ h,_,.loop c,K=>∀K',obl φ Γ h none c K'
 |Γ,.foc _ _ h,full,c,K=>obl φ Γ h full c K
 |Γ,.frz _ h,full,c,K=>obl φ Γ h full c K
 |Γ,.cut _ h,full,c,K=>obl φ Γ h full c K
 |_,_,_,_,_=>False
def decR(s:SS V.T):(cs:List RC)->List (SV V.T)->Option (RTup V.T cs)
 | [],[]=>some ()
 | .val c::cs,x::l=>match V.dec (rdSl []) c x,decR s cs l with
  |some y,some r=>some (y,r)
  |_,_=>none
 | .row E c::cs,x::l=>match x,decR s cs l with
  | .own i,some r=>match s.ob[i]? with
   |some (.row E' c' y)=>bif Nat.beq E E' then(if h:c'=c then some (h ▸ y,r) else none) else none
   |_=>none
  |_,_=>none
 |_,_=>none
def y5j:List RC->List (SV V.T)->List Nat
 | .val _::cs,x::l=>ygf x++y5j cs l
 | .row ..::cs,_::l=>y5j cs l
 |_,_=>[]
def zso:List RC->List (SV V.T)->List Nat
 | .row ..::cs,.own i::l=>i::zso cs l
 |_::cs,_::l=>zso cs l
 |_,_=>[]
def retK(fn:Func)(cs:List RC):KX V (RTup V.T cs):=λe s=>match e with
 | .ret | .normal=>match zmx V N s fn.results.toList with
  |some l=>match zmx V N (y1w V s (y5j V cs l)) fn.results.toList with
   |some l'=>bif zl4 (zso V cs l') then decR V (y1w V s (y5j V cs l)) cs l' else none
   |none=>none
  |none=>none
 |_=>none
def encA :(cs:List Nat)->Tup V.T cs->List (SV V.T)
 | [],_=>[]
 |c::cs,x=>V.encV c x.1::encA cs x.2
def fnX(φ:Nat)(fn:Func)(as:List Nat)(rs:List RC)(h:H V (RTup V.T rs))(a:Tup V.T as):Option (RTup V.T rs):=match fn.body with
 |some c=>(ex V N φ h).run c { sl:=zk3 V 0 (encA V as a),gb:=[],kn:=[],n:=fn.ntmps,stk:=[],ob:=[] } (retK V N fn rs)
 |none=>none
def fnV(φ:Nat)(fn:Func)(rs:List RC)(h:H V (RTup V.T rs))(vs:List (SV V.T)):Option (RTup V.T rs):=match fn.body with
 |some c=>(ex V N φ h).run c { sl:=zk3 V 0 vs,gb:=[],kn:=[],n:=fn.ntmps,stk:=[],ob:=[] } (retK V N fn rs)
 |none=>none
def fnXc(φ:Nat)(fn:Func)(as:List Nat)(cs:List KC)(rs:List RC)(h:H V (RTup V.T rs))(a:Tup V.T as)(b:KCs V.T cs):Option (RTup V.T rs):=fnV V N φ fn rs h (encA V as a++encK V cs b)
def yl3(fn:Func)(E c:Nat)(s:SS V.T):Option (List (V.T c)):=bif fn.results.isEmpty then(match s.stk with
  | [f]=>match lk f.sl 0 with
   |some ([],.own j)=>match s.ob[j]? with
    |some (.row E' c' l)=>bif Nat.beq E' E then(if h:c'=c then some (h ▸ l) else none) else none
    |_=>none
   |_=>none
  |_=>none) else none
def retM(fn:Func)(E c:Nat):KX V (List (V.T c)):=λe s=>match e with
 | .ret | .normal=>yl3 V fn E c s
 |_=>none
def encM :(ms:List MA)->MTup V.T ms->List (SV V.T)
 | [],_=>[]
 | .fn f::ms,x=>.func f []::encM ms x.2
 | .val c::ms,x=>V.encV c x.1::encM ms x.2
 | .cmp c::ms,x=>.cmp c x.1::encM ms x.2
def fnM(φ:Nat)(fn:Func)(E c:Nat)(ms:List MA)(h:H V (List (V.T c)))(l:List (V.T c))(a:MTup V.T ms):Option (List (V.T c)):=match fn.body with
 |some b=>(ex V N φ h).run b { sl:=zk3 V 0 (.own 0::encM V ms a),gb:=[],kn:=[],n:=fn.ntmps,stk:=[⟨[(0,[],.own 0)],[],[],1⟩],ob:=[.row E c l] } (retM V fn E c)
 |none=>none
def fnMO(φ:Nat)(fn:Func)(E c:Nat)(h:H V (List (V.T c))):Prop:=match fn.body with
 |some b=>obl V N φ [none] h none b (retM V fn E c)
 |none=>False
def fnO(φ:Nat)(fn:Func)(rs:List RC)(h:H V (RTup V.T rs)):Prop:=match fn.body with
 |some c=>obl V N φ [] h none c (retK V N fn rs)
 |none=>False
end
end Px
end
section
namespace Px
open Go Go.RowKit
theorem zk2.mono[Dr]{P:Program}{f:FuncId}{args:List VP}{K K':VP->List HP->Prop}(h:zk2 P f args K)(hk:∀x news,K x news->K' x news):zk2 P f args K':=by intro r w vs h1 h2 h3;refine(h r w vs h1 h2 h3).mono ?_;rintro e w' ⟨v,x,objs,r',S',he,h4,h5,h6,h7⟩;exact⟨v,x,objs,r',S',he,h4,h5,h6,hk _ _ h7⟩
theorem zat{gb:List (Nat×Bool)}: ∀{ch:Ch},chP gb ch↔∀p∈ch,(lk gb p.1).getD false=p.2
 | []=>by simp[chP]
 | [(t,w)]=>by simp[chP]
 |(t,w)::a::r=>by
  rw[chP,zat (ch:=a::r)]
  .simp only[List.forall_mem_cons];exact⟨λ⟨h1,h2⟩=>⟨h2,h1⟩,λ⟨h1,h2⟩=>⟨h2,h1⟩⟩
  .simp
theorem yfc{c:Ch}{p:Nat×Bool}(h:inCh c p=true):p∈c:=by simp only[inCh,w22,w04,beq_iff_eq] at h;obtain⟨q,hq,h1,h2⟩:=h;have h1:=w02 h1;cases q;cases p;simp at h1 h2;subst h1;subst h2;exact hq
theorem yh8{gb:List (Nat×Bool)}{a b:Ch}(h:ydi a b=true)(hb:chP gb b):chP gb a:=by rw[zat] at hb⊢;simp only[ydi,w0l] at h;exact λp hp=>hb p (yfc (h p hp))
theorem z6t{gb:List (Nat×Bool)}{a b:Ch}(ha:chP gb a)(hb:chP gb b):chP gb (a++b):=by
 rw[zat] at *;intro p hp;rcases w0j.1 hp with h|h
 .exact ha p h
 .exact hb p h
theorem Ev.ent'{s:St}{x:Operand}{A B:VP}(h:Ev s x A)(e:Ent A B):Ev s x B:=λa r w hs=>e r w _ (h a r w hs)
section
variable(V:TE)(P:Program)
theorem yj9[Dr]{A:Asg}{gb:List (Nat×Bool)}{ch:Ch}{x:SV V.T}(h:chP gb ch):Ent (denE V P A gb (ch,x)) (x.den V P A):=by
 unfold denE;cases ch with
 |nil=>exact Ent.refl
 |cons a r=>exact λro w v hv=>hv.1 h
theorem yca[Dr]{A:Asg}(v:Value):(zy6 v:SV V.T).den V P A=eqv v:=by cases v<;>rfl
theorem z0t[Dr]{A:Asg}{s:SS V.T}{ch:Ch}{o:Operand}{x:SV V.T}(h:evO s.sl ch o=some x)(hc:chP s.gb ch):Ev (s.st V P A) o (x.den V P A):=by
 cases o with
 |tmp t=>
  simp only[evO] at h;cases h1:lk s.sl t with
  |none=>rw[h1] at h;cases h
  |some e=>
   obtain⟨c,y⟩:=e;rw[h1] at h;simp only at h;cases h2:ydi c ch with
   |false=>rw[h2] at h;cases h
   |true=>rw[h2] at h;simp only[cond_true,w01] at h;subst h;refine Ev.ent' (Ev.tmp (A:=denE V P A s.gb (c,y)) ?_) (yj9 V P (yh8 h2 hc));simp[SS.st,slD,h1]
 |const v=>simp only[evO,w01] at h;subst h;rw[yca];exact Ev.const v
 |func f=>simp only[evO,w01] at h;subst h;refine Ev.ent' (Ev.func f) ?_;simp only[SV.den,denV];exact yaw
 |global g=>simp[evO] at h
theorem y4i[Dr]{A:Asg}(x:SV V.T):(denL V P A [x]).length=csz V x:=by cases x<;>simp[denL,csz];exact zn6 (V.ev_len _)
theorem z4s[Dr]{A:Asg}(x:SV V.T)(l:List (SV V.T)):denL V P A (x::l)=denL V P A [x]++denL V P A l:=z20 V P A [x] l
theorem zhf[Dr]{A:Asg}: ∀(l:List (SV V.T)),(denL V P A l).length=clen V l
 | []=>by simp[denL,clen]
 |x::l=>by rw[z4s,w0d,y4i,zhf l];simp[clen]
theorem zfl[Dr]{A:Asg}: ∀(l:List (SV V.T))(n:Nat)(m:List (SV V.T)),z9e V l n=some m->denL V P A m =(denL V P A l).drop n/\n<=(denL V P A l).length
 | [],n,m,h=>by
  simp only[z9e] at h;cases hb:Nat.beq n 0 with
  |false=>rw[hb] at h;cases h
  |true=>rw[hb] at h;simp at h;subst h;have:=w02 hb;subst this;simp[denL]
 |x::l,n,m,h=>by
  simp only[z9e] at h;cases hb:Nat.beq n 0 with
  |true=>rw[hb] at h;simp at h;subst h;have:=w02 hb;subst this;simp
  |false=>
   rw[hb] at h;simp only[cond_false] at h;cases hl:Nat.ble (csz V x) n with
   |false=>rw[hl] at h;cases h
   |true=>rw[hl] at h;simp only[cond_true] at h;have hle:=w0v hl;obtain⟨h1,h2⟩:=zfl (A:=A) l _ m h;have hx:=y4i V P (A:=A) x;rw[z4s,w0d,hx];refine⟨?_,by omega⟩;rw[h1];rw[w55,List.drop_eq_nil_of_le (as:=denL V P A [x]) (by omega),hx,w2u]
theorem zo7[Dr]{A:Asg}: ∀(l:List (SV V.T))(n:Nat)(m:List (SV V.T)),zth V l n=some m->denL V P A m =(denL V P A l).take n/\n<=(denL V P A l).length
 | [],n,m,h=>by
  simp only[zth] at h;cases hb:Nat.beq n 0 with
  |false=>rw[hb] at h;cases h
  |true=>rw[hb] at h;simp at h;subst h;have:=w02 hb;subst this;simp[denL]
 |x::l,n,m,h=>by
  simp only[zth] at h;cases hb:Nat.beq n 0 with
  |true=>rw[hb] at h;simp at h;subst h;have:=w02 hb;subst this;simp[denL]
  |false=>
   rw[hb] at h;simp only[cond_false] at h;cases hl:Nat.ble (csz V x) n with
   |false=>rw[hl] at h;cases h
   |true=>
    rw[hl] at h;simp only[cond_true] at h;cases hk:zth V l (n-csz V x) with
    |none=>rw[hk] at h;cases h
    |some k=>rw[hk] at h;simp only[w01] at h;subst h;have hle:=w0v hl;obtain⟨h1,h2⟩:=zo7 (A:=A) l _ k hk;have hx:=y4i V P (A:=A) x;rw[z4s,z4s V P x l,w0d,hx];refine⟨?_,by omega⟩;rw[h1,w2y,hx,w1h (l:=denL V P A [x]) (by omega)]
theorem zv6[Dr]{A:Asg}{l new m:List (SV V.T)}{o n:Nat}(h:splC V l o new n=some m):denL V P A m =(denL V P A l).take o++denL V P A new++(denL V P A l).drop (o+n)/\o+n<=(denL V P A l).length:=by
 unfold splC at h;cases h1:zth V l o with
 |none=>rw[h1] at h;cases h
 |some a=>
  cases h2:z9e V l (o+n) with
  |none=>rw[h1,h2] at h;cases h
  |some b=>rw[h1,h2] at h;simp only[w01] at h;subst h;obtain⟨e1,_⟩:=zo7 V P (A:=A) l o a h1;obtain⟨e2,h3⟩:=zfl V P (A:=A) l _ b h2;exact⟨by rw[z20,z20,e1,e2],h3⟩
theorem zg[Dr]{A:Asg}: ∀{ps:Asg}{os:List (SO V.T)}{i:Nat}{p:Nat×Value}{o:SO V.T},ps[i]? = some p->os[i]? = some o->(obD V P A ps os)[i]? = some (o.den V P A p)
 | [],_,_,_,_,h,_=>by simp at h
 |_::_,[],_,_,_,_,h=>by simp at h
 |p::ps,o::os,0,_,_,h,k=>by simp at h k;subst h;subst k;rfl
 |p::ps,o::os,i+1,_,_,h,k=>by simp at h k;simp only[obD,w2j];exact zg h k
theorem z8l[Dr]{s:St}{x:Operand}{C:Cx P}{o:Oper}{y:VP}(h:Ev s x nov):OpQ C o s y:=by intro a w r S Q hd hn hw hs;exact(h a r w hs).elim
theorem y4d[Dr]{A:Asg}{x:SV V.T}(h:z10 x=true):x.den V P A=Px.agg (denL V P A (cellsOf x)):=by cases x<;>simp[z10] at h<;>simp[cellsOf,SV.den,denL]
theorem zob[Dr]{A:Asg}{x:SV V.T}(h:z10 x=false):denL V P A [x] = [x.den V P A]:=by cases x<;>simp[z10] at h<;>rfl
end
end Px
end
section
namespace Px
open Go Go.RowKit
section
variable(V:TE)(P:Program)
theorem yd8{T:Nat->Type}{l:List (SV T)}{x:SV T}(h:y86 l=some x):l = [x]:=by
 match l,h with
 | [y],h=>simp[y86] at h;rw[h]
theorem zm4{α:Type}{z:α}{l:List α}{i:Int}(h:0<=i/\i<(l.length:Int)):l[i.toNat]? = some (gtz z l i):=by
 have hlt:i.toNat<l.length:=by omega
 simp[gtz,hlt]
theorem yn3[Dr]{C:Cx P}{s:St}{x:Operand}{i E c fo:Nat}{k:Int}{l:List (V.T c)}{sv:Value}(hx:Ev s x (eltp sv k (k.toNat*V.sz c+fo)))(ho:s.objs[i]? = some (row E (V.ev c) (V.sz c) l sv)):
  Pt C s x ((V.ev c (gtz (V.z c) l k)).drop fo):=by
 intro a r S w hw hs;obtain⟨g,n,cap,hv,_,h0,h1⟩:=hx a r w hs;have hlen:n=l.length\/False:=by
  rcases hw.obj i _ ho with⟨hn,_⟩|⟨g',cap',cur,hv',_⟩
  .rw[hv] at hn;cases hn
  .rw[hv] at hv';simp only[Value.slice.injEq] at hv';exact .inl hv'.2.1
 rcases hlen with rfl|hf
 .exact Pt.row C i (V.ev_len c) (Ev.ent' hx zxk) ho rfl (zm4 ⟨h0,h1⟩) rfl a r S w hw hs
 .exact hf.elim
theorem ykx[Dr]{C:Cx P}{s:St}{x:Operand}{i E c fo:Nat}{k:Int}{l:List (V.T c)}{sv:Value}(hx:Ev s x (eltp sv k (k.toNat*V.sz c+fo)))(ho:ObIs s.objs i (row E (V.ev c) (V.sz c) l sv)):
  Pt C s x ((V.ev c (gtz (V.z c) l k)).drop fo):=by
 intro a r S w hw hs;obtain⟨g,n,cap,hv,hx,h0,h1⟩:=hx a r w hs;refine⟨g,_,hx,?_⟩;rcases ObIs.at hw ho with⟨hn,_⟩|⟨g',cap',cur,hv',hS,hcur,hl,hm,hsz,hh⟩
 .rw[hv] at hn;cases hn
 .rw[hv] at hv';simp only[Value.slice.injEq,w01,Addr.mk.injEq] at hv';obtain⟨⟨rfl,_⟩,rfl,_⟩:=hv';intro j A hj;rw[w1q] at hj;have hfm:=z4u (V.ev_len c) l k.toNat _ (zm4 (z:=V.z c) ⟨h0,h1⟩) (fo+j) A hj;obtain⟨u,hu,hA,h1⟩:=hh.2 _ _ hfm;refine⟨u,?_,hA,h1⟩;rw[w0u] at hu;split at hu
  .rw[cell_of_row w g _ cur E (0,0) hcur,w2b];simpa using hu
  .cases hu
theorem y1s[Dr]{A:Asg}{s:SS V.T}{j E c:Nat}{l:List (V.T c)}{q:Nat×Value}(ha:A[j]? = some q)(ho:s.ob[j]? = some (.x (.fix E c l))):ObIs (s.st V P A).objs j (row E (V.ev c) (V.sz c) l q.2):=⟨_,zg V P ha ho,λ_ _ _ h=>h.2⟩
def LdR[Dr](C:Cx P)(s:St)(x:Operand)(g:Bool)(n:Nat)(v:VP):Prop:=Ev s x nov\/(g=false/\∃cs,Pt C s x (v::cs))\/(g=true/\∃cs,v=Px.agg cs/\cs.length=n/\Pt C s x cs)
theorem yma[Dr]{C:Cx P}{A:Asg}{s:SS V.T}{g:Bool}{n:Nat}{p v:SV V.T}{x:Operand}(h:ld V s g n p=some v)(hx:Ev (s.st V P A) x (p.den V P A)):
  LdR P C (s.st V P A) x g n (v.den V P A):=by
 have fin:∀(cs:List (SV V.T)),zl1 V g n (some cs)=some v->Pt C (s.st V P A) x (denL V P A cs)->LdR P C (s.st V P A) x g n (v.den V P A):=by
  intro cs hc hp;simp only[zl1] at hc;cases h1:zth V cs n with
  |none=>rw[h1] at hc;cases hc
  |some l=>
   rw[h1] at hc;obtain⟨e,hl⟩:=zo7 V P (A:=A) cs n l h1;have hlen :(denL V P A l).length=n:=by rw[e,w1d];omega
   have hp':=hp.take n e.symm;cases g with
   |true=>simp only[cond_true,w01] at hc;subst hc;simp only[SV.den];exact .inr (.inr ⟨rfl,_,rfl,hlen,hp'⟩)
   |false=>
    simp only[cond_false] at hc;cases h2:y86 l with
    |none=>rw[h2] at hc;cases hc
    |some y=>
     rw[h2] at hc;simp only at hc;have hl1:=yd8 h2;subst hl1;cases h3:z10 y with
     |true=>rw[h3] at hc;cases hc
     |false=>rw[h3] at hc;simp only[cond_false,w01] at hc;subst hc;rw[zob V P h3] at hp';exact .inr (.inl ⟨rfl,_,hp'⟩)
 have dr:∀(cs:List (SV V.T))(o:Nat),zl1 V g n (z9e V cs o)=some v->Pt C (s.st V P A) x ((denL V P A cs).drop o)->LdR P C (s.st V P A) x g n (v.den V P A):=by
  intro cs o hc hp;cases h1:z9e V cs o with
  |none=>rw[h1] at hc;cases hc
  |some m=>rw[h1] at hc;have e:=(zfl V P (A:=A) cs o m h1).1;exact fin m hc (by rw[e];exact hp)
 cases p with
 |ptr i off=>
  simp only[ld] at h;cases ho:s.ob[i]? with
  |none=>rw[ho] at h;cases h
  |some ob=>
   rw[ho] at h;cases ob with
   |box T cs=>
    simp only at h;simp only[SV.den] at hx;cases ha:A[i]? with
    |none=>rw[ha] at hx;exact .inl hx
    |some q=>obtain⟨b,u⟩:=q;rw[ha] at hx;exact dr cs off h (Pt.box i hx (zg V P ha ho) rfl)
   |row _ _ _=>cases h
   |x _=>cases h
   |emp=>cases h
 |pta i off m z idx cnt fo=>
  simp only[ld] at h;cases ho:s.ob[i]? with
  |none=>rw[ho] at h;cases h
  |some ob=>
   rw[ho] at h;cases ob with
   |box T cs=>
    simp only at h;cases hcd:z9e V cs off with
    |none=>rw[hcd] at h;cases h
    |some cs'=>
     rw[hcd] at h;cases cs' with
     |nil=>cases h
     |cons y post=>
      cases y with
      |arr m' c f=>
       simp only at h;cases hb :(Nat.beq m m'&&Nat.beq z (V.sz c)&&Nat.beq cnt 1) with
       |false=>rw[hb] at h;cases h
       |true=>
        rw[hb] at h;simp only[cond_true] at h;simp only[w04] at hb;have e1:=w02 hb.1.1;have e2:=w02 hb.1.2;have e3:=w02 hb.2;subst e1;subst e2;subst e3;simp only[SV.den] at hx;cases ha:A[i]? with
        |none=>rw[ha] at hx;exact .inl hx
        |some q=>
         obtain⟨b,u⟩:=q;rw[ha] at hx;have e:=(zfl V P (A:=A) cs off _ hcd);have hsplit:denL V P A cs =(denL V P A cs).take off++Px.arr m (V.ev c) f++denL V P A post:=by have:=w0h off (denL V P A cs);rw[<- e.1] at this;simpa only[denL,w0q] using this.symm
         have hob:=zg V P (A:=A) (ps:=A) ha ho;simp only[SO.den] at hob;rw[hsplit] at hob;refine dr (V.enc c (f idx)) fo h ?_;rw[z1b];intro a r S w hw hs;obtain⟨hlt,hv⟩:=hx a r w hs;refine Pt.ofArrF (C:=C) (s:=s.st V P A) (x:=.const (.pointer (some ⟨b,off+idx*V.sz c+fo,none⟩))) i (Ev.const _) hob (V.ev_len c) (by rw[w1d];omega) (by omega) rfl a r S w hw hs |>.imp λb' ⟨o',e1,e2⟩=>⟨o',?_,e2⟩
         rw[hv,<- e1];rfl
      |_=>cases h
   |row _ _ _=>cases h
   |x _=>cases h
   |emp=>cases h
 |rop cs=>simp only[ld] at h;simp only[SV.den] at hx;exact fin cs h (Pt.rop hx)
 |elt i k z fo=>
  simp only[ld] at h;cases ho:s.ob[i]? with
  |none=>rw[ho] at h;cases h
  |some ob=>
   rw[ho] at h;cases ob with
   |row E c l=>
    simp only at h;cases hb:Nat.beq z (V.sz c) with
    |false=>rw[hb] at h;cases h
    |true=>
     rw[hb] at h;simp only[cond_true] at h;have e1:=w02 hb;subst e1;simp only[SV.den] at hx;cases ha:A[i]? with
     |none=>rw[ha] at hx;exact .inl hx
     |some q=>obtain⟨b,u⟩:=q;rw[ha] at hx;have hob:=zg V P (A:=A) (ps:=A) ha ho;refine dr (V.enc c (gtz (V.z c) l k)) fo h ?_;rw[z1b];exact yn3 V P hx hob
   |x o=>
    cases o with
    |fix E c l=>
     simp only at h;cases hb:Nat.beq z (V.sz c) with
     |false=>rw[hb] at h;cases h
     |true=>
      rw[hb] at h;simp only[cond_true] at h;have e1:=w02 hb;subst e1;simp only[SV.den] at hx;cases ha:A[i]? with
      |none=>rw[ha] at hx;exact .inl hx
      |some q=>obtain⟨b,u⟩:=q;rw[ha] at hx;refine dr (V.enc c (gtz (V.z c) l k)) fo h ?_;rw[z1b];exact ykx V P hx (y1s V P ha ho)
    |map _ _ _ _ _=>cases h
    |it _ _ _ _=>cases h
    |nst _ _ _ _ _=>cases h
   |box _ _=>cases h
   |emp=>cases h
 |_=>simp[ld] at h
theorem yns[Dr]{C:Cx P}{A:Asg}{s:SS V.T}{g:Bool}{n:Nat}{p v:SV V.T}{t:TypeId}{x:Operand}{dst:Option Tmp}{ty:TypeId}{pos:String}{after:Array Edge}{guard:Option (Nat×Bool)}(ht:z60 P t=some (g,n))(h:ld V s g n p=some v)(hx:Ev (s.st V P A) x (p.den V P A)):
  OpQ C ⟨dst,.load t x,ty,pos,after,guard⟩ (s.st V P A) (v.den V P A):=by
 rcases yma V P (C:=C) h hx with h1|⟨rfl,cs,h1⟩|⟨rfl,cs,e,hl,h1⟩
 .exact z8l P h1
 .exact ycm ht h1
 .rw[e];exact yga ht hl h1
end
end Px
end
section
namespace Px
open Go Go.RowKit
section
variable(V:TE)
def vls :(cs:List Nat)->Tup V.T cs->List VP
 | [],_=>[]
 |c::cs,x=>V.vl c x.1::vls cs x.2
def Kres[Dr](P:Program)(res:List RC)(r:RTup V.T res)(x:VP)(news:List HP):Prop:=∃B:Asg,B.length =(newR V res r).length/\x =(resV V (encR V 0 res r)).den V P B/\news=obD V P B B (newR V res r)
def zq[Dr](P:Program)(f:Nat)(sp:Fsp V):Prop:=∀a r,sp.F a=some r->zk2 P f (vls V sp.args a) (Kres V P sp.res r)
def msD[Dr](P:Program):(ms:List MA)->MTup V.T ms->List VP
 | [],_=>[]
 | .fn f::ms,x=>eqv (.func (.func f) #[] #[])::msD P ms x.2
 | .val c::ms,x=>V.vl c x.1::msD P ms x.2
 | .cmp c::ms,x=>fcmp P (λy=>V.vl c y) x.1::msD P ms x.2
def zg0[Dr](P:Program)(f:Nat)(m:Msp V):Prop:=∀l a l' sv,m.F l a=some l'->MutT P f (eqv sv::msD V P m.ms a) m.E (V.ev m.c) (V.sz m.c) l sv λx l2=>x=eqv (.tuple #[])/\l2=l'
def y9q[Dr](P:Program)(f:Nat)(m:Csp V):Prop:=∀a b r,m.F a b=some r->zk2 P f (vls V m.args a++denV V P [] (encK V m.caps b)) (Kres V P m.res r)
def rop0(cs:List VP):VP:=⟨λr w v=>∃b,v = .pointer (some ⟨b,0,none⟩)/\r b/\z65 w r b 0 cs,λh1 h2 ⟨b,hv,hr,h⟩=>⟨b,hv,h1 _ hr,h.wk h1 h2 (h2 _ hr)⟩⟩
def SoOK[Dr](P:Program)(f:Nat)(sp:SoSp):Prop:=∀m:List (V.T sp.kc×V.T sp.vc),soK (V.kl sp.kc) m=true->
 zk2 P f [fnc sp.g [rop0 [V.mv V.ev sp.kc sp.vc m]]] λx news=>∃sv,x=eqv sv/\news = [row sp.E (V.ev sp.kc) (V.sz sp.kc) (m.map (·.1)) sv]
structure z7r[Dr](N:Env V):Prop where
 cl:∀f m,N.cl f=some m->y9q V N.P f m
 mu:∀f m,N.mu f=some m->zg0 V N.P f m
 fn:∀f sp,N.fn f=some sp->zq V N.P f sp
 so:∀f sp,N.so f=some sp->SoOK V N.P f sp
end
theorem z7i{R:Type}{gb:List (Nat×Bool)}{cur:Ch}{p:Prop}[Decidable p]{k:Option R}{r:R}(h:ckG gb cur p k=some r):(chP gb cur->p)/\k=some r:=by
 cases cur with
 |nil=>exact⟨λ_=>(zg1 h).1,(zg1 h).2⟩
 |cons a l=>
  simp only[ckG,ck] at h;split at h
  .rename_i hh;exact⟨hh,h⟩
  .cases h
theorem zx8{α R:Type}{gb:List (Nat×Bool)}{cur:Ch}{z:α}{x:Option α}{k:α->Option R}{r:R}(h:zx7 gb cur z x k=some r):∃y,(chP gb cur->x=some y)/\k y=some r:=by
 cases cur with
 |nil=>obtain⟨y,e,hk⟩:=bind_some h;exact⟨y,λ_=>e,hk⟩
 |cons a l=>
  obtain⟨y,e,hk⟩:=bind_some h;refine⟨y,λhc=>?_,hk⟩;unfold z9 at e
  rwa [if_pos hc] at e
theorem FEnt.rowI[Dr]{P:Program}{C:Cx P}{s:St}{α:Type}(i:Nat){E:TypeId}{e:α->List VP}{sz:Nat}{l:List α}{sv:Value}(he:∀x,(e x).length=sz)(ho:ObIs s.objs i (Px.row E e sz l sv)):FEnt C s (eqv sv) (Px.ro e sz l):=by
 intro r S w v hw h;simp only[eqv] at h;subst h;rcases ObIs.at hw ho with⟨rfl,rfl⟩|⟨g,cap,cur,rfl,hS,hcur,hl,hm,hsz,hh⟩
 .exact .inl ⟨⟨none,0,rfl⟩,rfl⟩
 .refine .inr ⟨g,0,cap-l.length,by rw[w2k hl],λk x hk=>⟨.inr ⟨i,hS⟩,λj A hj=>?_⟩⟩;obtain⟨u,hu,hA,h1⟩:=hh.2 _ A (z4u he l k x hk j A hj);refine⟨u,?_,A.mono (λb hb=>.inl hb) (λ_ _=>rfl) hA,h1⟩;rw[w18,cell_of_row w g _ cur E (0,0) hcur];rw[w0u] at hu;split at hu
  .simpa using hu
  .cases hu
section
variable(V:TE)(P:Program)
theorem z8b[Dr]{A:Asg}{c:Nat}{x:SV V.T}{y:V.T c}(h:V.dec (rdSl []) c x=some y):Ent (x.den V P A) (V.vl c y):=yac (zuu []) (λ_ _ _ _ _=>zr5) (λ_=>Ent.refl) (λ_ _ _ h=>zya h) (λ_ _ h=>Ent.agg h.ents) h
theorem FEnt.nilM[Dr]{C:Cx P}{s:St}{kc vc:Nat}: FEnt C s (eqv (.map none)) (V.mv V.ev kc vc []):=λr S w v hw h=>.inl ⟨h,rfl⟩
theorem yew[Dr]{C:Cx P}{A:Asg}{s:SS V.T}{c:Nat}{x:SV V.T}{y:V.T c}(h:V.dec (rdSl s.ob) c x=some y):FEnt C (s.st V P A) (x.den V P A) (V.vl c y):=by
 refine yac (R:=FEnt C (s.st V P A)) (zuu s.ob) (λ_ _ _ _ _=>FEnt.nilM V P) (λ_=>FEnt.refl) (λc y l h=>?_) (λ_ _ h=>FEnt.agg h.fents) h;unfold rdSl at h;split at h
 .split at h
  .rename_i e;subst e;simp only[w01] at h;subst h;exact FEnt.refl
  .cases h
 .rename_i i;cases ho:s.ob[i]? with
  |none=>rw[ho] at h;cases h
  |some o=>
   rw[ho] at h;cases o with
   |row E c' l'=>
    simp only at h;split at h
    .rename_i e;subst e;simp only[w01] at h;subst h;simp only[SV.den];cases ha:A[i]? with
     |none=>exact λr S w v _ hv=>hv.elim
     |some q=>exact FEnt.row i (V.ev_len _) (zg V P ha ho)
    .cases h
   |x o=>
    cases o with
    |fix E c' l'=>
     simp only at h;split at h
     .rename_i e;subst e;simp only[w01] at h;subst h;simp only[SV.den];cases ha:A[i]? with
      |none=>exact λr S w v _ hv=>hv.elim
      |some q=>exact FEnt.rowI i (V.ev_len _) (y1s V P ha ho)
     .cases h
    |map _ _ _ _ _=>cases h
    |it _ _ _ _=>cases h
    |nst _ _ _ _ _=>cases h
   |box _ _=>cases h
   |emp=>cases h
 .simp only[w01] at h;subst h;exact FEnt.nil
 .cases h
theorem FEnt.box[Dr]{C:Cx P}{s:St}(i:Nat){b:Nat}{T:TypeId}{cs ds:List VP}(ho:s.objs[i]? = some (Px.box b T cs))(h:zpq C s cs ds):FEnt C s (eqv (.pointer (some ⟨b,0,none⟩))) (Px.rop ds):=by intro r S w v hw hv;have hv:v = .pointer (some ⟨b,0,none⟩):=hv;subst hv;obtain⟨hS,cur,hcur,hh⟩:=hw.obj i _ ho;obtain⟨h1,h2⟩:=h.ok;refine⟨b,0,rfl,.inr ⟨i,hS⟩,λj B hB=>?_⟩;obtain⟨A,hA,hAB⟩:=h2 j B hB;obtain⟨u,hu,hAu,ho1⟩:=hh.2 j A hA;refine⟨u,?_,hAB r S w u hw hAu,ho1⟩;rw[w18,cell_of_row w b j cur T (0,0) hcur];simpa using hu
theorem FEnt.box0[Dr]{C:Cx P}{s:St}(i:Nat){b:Nat}{T:TypeId}{cs ds:List VP}(ho:s.objs[i]? = some (Px.box b T cs))(h:zpq C s cs ds):FEnt C s (eqv (.pointer (some ⟨b,0,none⟩))) (rop0 ds):=by intro r S w v hw hv;have hv:v = .pointer (some ⟨b,0,none⟩):=hv;subst hv;obtain⟨hS,cur,hcur,hh⟩:=hw.obj i _ ho;obtain⟨h1,h2⟩:=h.ok;refine⟨b,rfl,.inr ⟨i,hS⟩,λj B hB=>?_⟩;obtain⟨A,hA,hAB⟩:=h2 j B hB;obtain⟨u,hu,hAu,ho1⟩:=hh.2 j A hA;refine⟨u,?_,hAB r S w u hw hAu,ho1⟩;rw[w18,cell_of_row w b j cur T (0,0) hcur];simpa using hu
theorem ycz[Dr]{C:Cx P}{A:Asg}{s:SS V.T}(c:Nat)(y:SV V.T)(l:List (V.T c))(h:rdSl s.ob c y=some l):FEnt C (s.st V P A) (y.den V P A) (Px.ro (V.ev c) (V.sz c) l):=by
 unfold rdSl at h;split at h
 .split at h
  .rename_i e;subst e;simp only[w01] at h;subst h;exact FEnt.refl
  .cases h
 .rename_i i;cases ho:s.ob[i]? with
  |none=>rw[ho] at h;cases h
  |some o=>
   rw[ho] at h;cases o with
   |row E c' l'=>
    simp only at h;split at h
    .rename_i e;subst e;simp only[w01] at h;subst h;simp only[SV.den];cases ha:A[i]? with
     |none=>exact λr S w v _ hv=>hv.elim
     |some q=>exact FEnt.row i (V.ev_len _) (zg V P ha ho)
    .cases h
   |x o=>
    cases o with
    |fix E c' l'=>
     simp only at h;split at h
     .rename_i e;subst e;simp only[w01] at h;subst h;simp only[SV.den];cases ha:A[i]? with
      |none=>exact λr S w v _ hv=>hv.elim
      |some q=>exact FEnt.rowI i (V.ev_len _) (y1s V P ha ho)
     .cases h
    |map _ _ _ _ _=>cases h
    |it _ _ _ _=>cases h
    |nst _ _ _ _ _=>cases h
   |box _ _=>cases h
   |emp=>cases h
 .simp only[w01] at h;subst h;exact FEnt.nil
 .cases h
theorem yit[Dr]{C:Cx P}{A:Asg}{s:SS V.T}{c:Nat}{x:SV V.T}{y:V.T c}(h:capX V s.ob c x=some y):FEnt C (s.st V P A) (x.den V P A) (Px.rop (V.ev c y)):=by
 unfold capX at h;split at h
 .rename_i cs;have:=y45 (zkk (P:=P) (A:=A) (R:=Eq) zwx zwy (λ_=>rfl) (λ_ _ _ h=>zww h) h);simp only[SV.den];rw[this];exact FEnt.refl
 .rename_i i;split at h
  .rename_i T cs ho;have:=zkk (P:=P) (A:=A) (R:=FEnt C (s.st V P A)) (zuu s.ob) (λ_ _ _ _ _=>FEnt.nilM V P) (λ_=>FEnt.refl) (ycz V P) h;simp only[SV.den];cases ha:A[i]? with
   |none=>exact λr S w v _ hv=>hv.elim
   |some q=>exact FEnt.box P i (zg V P ha ho) this.fents
  .cases h
 .cases h
theorem ydq{c:Nat}{x:V.T c}(h:zfa (V.d c)=true):V.vl c x=eqv (V.kv c x):=by unfold TE.vl TE.kv;generalize (λc=>kvS (V.d c))=g;revert x h;generalize V.ev c=e;generalize V.d c=d;revert e d;generalize V.T c=α;intro e d x h;cases d<;>first|rfl|simp[zfa] at h
theorem ym5{E c:Nat}(h:V.okV c=true){x:V.T c}{v:Value}{S r:Nat->Prop}{w:World}(hx :(V.inm E c x v).h S r w):(V.vl c x).h (λb=>r b\/S b) w v:=by
 unfold TE.okV at h;unfold TE.inm at hx;unfold TE.vl;revert x h;generalize V.ev c=e;generalize V.d c=d;revert e d;generalize V.T c=α;intro e d h x hx;cases d with
 |int k=>exact hx
 |bool=>exact hx
 |str=>exact hx
 |sl c'=>exact zwz (V.ev_len c') hx
 |map kc vc=>
  obtain⟨b,rfl,hn⟩:=hx;show (V.mv V.ev kc vc x).h _ _ _;rw[y8w];refine yhz hn λy v S' hy=>?_
  simp only[okD] at h;rw[ydq V h];exact hy
 |arr n c'=>simp[okD,zfa] at h
 |st fs mk un law=>simp[okD,zfa] at h
theorem yhv{E kc vc:Nat}{m:List (V.T kc×V.T vc)}{b:Nat}{S r:Nat->Prop}{w:World}(h:V.okV vc=true)(hx :(nmp b (V.kl kc) (V.kv kc) (V.inm E vc) m none).h S r w):(V.mv V.ev kc vc m).h (λb=>r b\/S b) w (.map (some b)):=by rw[y8w];exact yhz hx λy v S' hy=>ym5 V h hy
theorem FEnt.map[Dr]{C:Cx P}{A:Asg}{s:SS V.T}{j kc vc E:Nat}{m:List (V.T kc×V.T vc)}{q:Nat×Value}(hok:V.okV vc=true)(ha:A[j]? = some q)(ho:s.ob[j]? = some (.x (.map kc vc E m none))):FEnt C (s.st V P A) (eqv q.2) (V.mv V.ev kc vc m):=by intro r S w v hw hv;have hv:v=q.2:=hv;subst hv;obtain⟨⟨hq,_⟩,hn⟩:=hw.obj j _ (zg V P ha ho);rw[hq];exact(V.mv V.ev kc vc m).mono (λc hc=>hc.elim .inl λq=>.inr ⟨j,q⟩) (λ_ _=>rfl) (yhv V hok hn)
theorem FEnt.fnc[Dr]{C:Cx P}{s:St}{f:FuncId}{Xs Ys:List VP}(h:zpq C s Xs Ys):FEnt C s (Px.fnc f Xs) (Px.fnc f Ys):=by rintro r S w v hw ⟨caps,hv,hl,hc⟩;obtain⟨h1,h2⟩:=h.ok;refine⟨caps,hv,by rw[<- h1];exact hl,λi B hB=>?_⟩;obtain⟨A,hA,hAB⟩:=h2 i B hB;exact hAB r S w _ hw (hc i A hA)
theorem FEnt.rop1[Dr]{C:Cx P}{s:St}{As Bs:List VP}(h:zpq C s As Bs):FEnt C s (Px.rop As) (Px.rop Bs):=by rintro r S w v hw ⟨b,o,hv,hr,hh⟩;obtain⟨h1,h2⟩:=h.ok;refine⟨b,o,hv,.inl hr,λj B hB=>?_⟩;obtain⟨A,hA,hAB⟩:=h2 j B hB;obtain⟨u,hu,hAu,ho⟩:=hh j A hA;exact⟨u,hu,hAB r S w u hw hAu,ho⟩
theorem yis[Dr]{C:Cx P}{A:Asg}{s:SS V.T}{kc vc:Nat}{x:SV V.T}{y:List (V.T kc×V.T vc)}(h:capM V s.ob kc vc x=some y):FEnt C (s.st V P A) (x.den V P A) (Px.rop [V.mv V.ev kc vc y]):=by
 unfold capM at h;split at h
 .rename_i kc' vc' m;split at h
  .rename_i e1;split at h
   .rename_i e2;subst e1 e2;simp only[w01] at h;subst h;simp only[SV.den,denL];exact FEnt.refl
   .cases h
  .cases h
 .rename_i i;split at h
  .rename_i T j ho;split at h
   .rename_i kc' vc' E m hj;cases hok:V.okV vc' with
    |false=>rw[hok] at h;cases h
    |true=>
    rw[hok] at h;simp only[cond_true] at h;split at h
    .rename_i e1;split at h
     .rename_i e2;subst e1 e2;simp only[w01] at h;subst h;simp only[SV.den];cases ha:A[i]? with
      |none=>exact λr S w v _ hv=>hv.elim
      |some q=>
       refine FEnt.box P i (zg V P ha ho) ?_;simp only[denL,SV.den];cases hq:A[j]? with
       |none=>exact⟨λr S w v _ hv=>hv.elim,trivial⟩
       |some p=>exact⟨FEnt.map V P hok hq hj,trivial⟩
     .cases h
    .cases h
   .cases h
  .rename_i T kc' vc' m ho;split at h
   .rename_i e1;split at h
    .rename_i e2;subst e1 e2;simp only[w01] at h;subst h;simp only[SV.den];cases ha:A[i]? with
     |none=>exact λr S w v _ hv=>hv.elim
     |some q=>refine FEnt.box P i (zg V P ha ho) ?_;simp only[denL,SV.den];exact⟨FEnt.refl,trivial⟩
    .cases h
   .cases h
  .cases h
 .cases h
theorem yed[Dr]{C:Cx P}{A:Asg}{s:SS V.T}{kc vc i:Nat}{y:List (V.T kc×V.T vc)}(h:capM V s.ob kc vc (.ptr i 0)=some y):FEnt C (s.st V P A) ((SV.ptr i 0:SV V.T).den V P A) (rop0 [V.mv V.ev kc vc y]):=by
 simp only[capM] at h;split at h
 .rename_i T j ho;split at h
  .rename_i kc' vc' E m hj;cases hok:V.okV vc' with
   |false=>rw[hok] at h;cases h
   |true=>
   rw[hok] at h;simp only[cond_true] at h;split at h
   .rename_i e1;split at h
    .rename_i e2;subst e1 e2;simp only[w01] at h;subst h;simp only[SV.den];cases ha:A[i]? with
     |none=>exact λr S w v _ hv=>hv.elim
     |some q=>
      refine FEnt.box0 P i (zg V P ha ho) ?_;simp only[denL,SV.den];cases hq:A[j]? with
      |none=>exact⟨λr S w v _ hv=>hv.elim,trivial⟩
      |some p=>exact⟨FEnt.map V P hok hq hj,trivial⟩
    .cases h
   .cases h
  .cases h
 .rename_i T kc' vc' m ho;split at h
  .rename_i e1;split at h
   .rename_i e2;subst e1 e2;simp only[w01] at h;subst h;simp only[SV.den];cases ha:A[i]? with
    |none=>exact λr S w v _ hv=>hv.elim
    |some q=>refine FEnt.box0 P i (zg V P ha ho) ?_;simp only[denL,SV.den];exact⟨FEnt.refl,trivial⟩
   .cases h
  .cases h
 .cases h
theorem ya3[Dr]{C:Cx P}{A:Asg}{s:SS V.T}{k:KB}{x:SV V.T}{y:k.T V.T}(h:capB V s.ob k x=some y):FEnt C (s.st V P A) (x.den V P A) ((enB V k y).den V P []):=by
 cases k with
 |val c=>simp only[enB,SV.den,z1b];exact yit V P h
 |map kc vc=>simp only[enB,SV.den,denL];exact yis V P h
theorem zx9[Dr]{C:Cx P}{A:Asg}{s:SS V.T}: ∀{cs:List KB}{l:List (SV V.T)}{b:KBs V.T cs},zms V s.ob cs l=some b->zpq C (s.st V P A) (denV V P A l) (denV V P [] (enBs V cs b))
 | [],[],_,_=>trivial
 |c::cs,x::l,b,h=>by
  simp only[zms] at h;split at h
  .rename_i y r h1 h2;simp only[w01] at h;subst h;exact⟨ya3 V P h1,zx9 h2⟩
  .cases h
 | [],_::_,_,h=>by simp[zms] at h
 |_::_,[],_,h=>by simp[zms] at h
theorem yir[Dr]{C:Cx P}{A:Asg}{s:SS V.T}{f:Nat}{ks:List KB}{x:SV V.T}{y:KBs V.T ks}(h:capF V s.ob f ks x=some y):FEnt C (s.st V P A) (x.den V P A) (Px.rop [Px.fnc f (denV V P [] (enBs V ks y))]):=by
 unfold capF at h;split at h
 .rename_i g l;cases hb:Nat.beq f g with
  |false=>rw[hb] at h;cases h
  |true=>rw[hb] at h;have e:=w02 hb;subst e;simp only[SV.den,denL];exact FEnt.rop1 P ⟨FEnt.fnc P (zx9 V P h),trivial⟩
 .rename_i i;split at h
  .rename_i T g l ho;cases hb:Nat.beq f g with
   |false=>rw[hb] at h;cases h
   |true=>
    rw[hb] at h;have e:=w02 hb;subst e;simp only[SV.den];cases ha:A[i]? with
    |none=>exact λr S w v _ hv=>hv.elim
    |some q=>refine FEnt.box P i (zg V P ha ho) ?_;simp only[denL,SV.den];exact⟨FEnt.fnc P (zx9 V P h),trivial⟩
  .cases h
 .cases h
theorem yiq[Dr]{C:Cx P}{A:Asg}{s:SS V.T}{k:KC}{x:SV V.T}{y:k.T V.T}(h:capC V s.ob k x=some y):FEnt C (s.st V P A) (x.den V P A) ((enC V k y).den V P []):=by
 cases k with
 |b k=>exact ya3 V P h
 |fn f ks=>simp only[enC,SV.den,denL];exact yir V P h
theorem zxa[Dr]{C:Cx P}{A:Asg}{s:SS V.T}: ∀{cs:List KC}{l:List (SV V.T)}{b:KCs V.T cs},zki V s.ob cs l=some b->zpq C (s.st V P A) (denV V P A l) (denV V P [] (encK V cs b))
 | [],[],_,_=>trivial
 |c::cs,x::l,b,h=>by
  simp only[zki] at h;split at h
  .rename_i y r h1 h2;simp only[w01] at h;subst h;exact⟨yiq V P h1,zxa h2⟩
  .cases h
 | [],_::_,_,h=>by simp[zki] at h
 |_::_,[],_,h=>by simp[zki] at h
theorem yef[Dr]{A:Asg}{c:Nat}{x:SV V.T}{y:V.T c}(h:capX V [] c x=some y):x.den V P A=Px.rop (V.ev c y):=by
 unfold capX at h;split at h
 .rename_i cs;have:=y45 (zkk (P:=P) (A:=A) (R:=Eq) zwx zwy (λ_=>rfl) (λ_ _ _ h=>zww h) h);simp only[SV.den];rw[this]
 .simp at h
 .cases h
theorem yec[Dr]{A:Asg}{kc vc:Nat}{x:SV V.T}{y:List (V.T kc×V.T vc)}(h:capM V [] kc vc x=some y):x.den V P A=Px.rop [V.mv V.ev kc vc y]:=by
 unfold capM at h;split at h
 .rename_i kc' vc' m;split at h
  .rename_i e1;split at h
   .rename_i e2;subst e1 e2;simp only[w01] at h;subst h;simp only[SV.den,denL]
   .cases h
  .cases h
 .simp at h
 .cases h
theorem y6j[Dr]{A:Asg}{k:KB}{x:SV V.T}{y:k.T V.T}(h:capB V [] k x=some y):x.den V P A =(enB V k y).den V P []:=by
 cases k with
 |val c=>simp only[enB,SV.den,z1b];exact yef V P h
 |map kc vc=>simp only[enB,SV.den,denL];exact yec V P h
theorem y0x[Dr]{A:Asg}: ∀{cs:List KB}{l:List (SV V.T)}{b:KBs V.T cs},zms V [] cs l=some b->denV V P A l=denV V P [] (enBs V cs b)
 | [],[],_,_=>rfl
 |c::cs,x::l,b,h=>by
  simp only[zms] at h;split at h
  .rename_i y r h1 h2;simp only[w01] at h;subst h;simp only[denV,enBs];rw[y6j (A:=A) V P h1,y0x (A:=A) h2]
  .cases h
 | [],_::_,_,h=>by simp[zms] at h
 |_::_,[],_,h=>by simp[zms] at h
theorem yea[Dr]{A:Asg}{k:KC}{x:SV V.T}{y:k.T V.T}(h:capC V [] k x=some y):x.den V P A =(enC V k y).den V P []:=by
 cases k with
 |b k=>exact y6j V P h
 |fn f ks=>
  change capF V [] f ks x=some y at h;unfold capF at h;split at h
  .rename_i g l;cases hb:Nat.beq f g with
   |false=>rw[hb] at h;cases h
   |true=>rw[hb] at h;have e:=w02 hb;subst e;simp only[enC,SV.den,denL];rw[y0x (A:=A) V P h]
  .simp at h
  .cases h
theorem y0y[Dr]{A:Asg}: ∀{cs:List KC}{l:List (SV V.T)}{b:KCs V.T cs},zki V [] cs l=some b->denV V P A l=denV V P [] (encK V cs b)
 | [],[],_,_=>rfl
 |c::cs,x::l,b,h=>by
  simp only[zki] at h;split at h
  .rename_i y r h1 h2;simp only[w01] at h;subst h;simp only[denV,encK];rw[yea (A:=A) V P h1,y0y (A:=A) h2]
  .cases h
 | [],_::_,_,h=>by simp[zki] at h
 |_::_,[],_,h=>by simp[zki] at h
theorem zo9[Dr]{A:Asg}{s:SS V.T}{ch:Ch}(hc:chP s.gb ch):∀{cs:List Nat}{os:List Operand}{a:Tup V.T cs},decA V (rdSl []) s.sl ch cs os=some a->Args (s.st V P A) os (vls V cs a)
 | [],[],_,_=>trivial
 |c::cs,o::os,a,h=>by
  simp only[decA] at h;cases h1:evO s.sl ch o with
  |none=>rw[h1] at h;cases h
  |some x=>
   rw[h1] at h;cases h2:V.dec (rdSl []) c x with
   |none=>simp only[h2] at h;cases h
   |some y=>
    simp only[h2] at h;cases h3:decA V (rdSl []) s.sl ch cs os with
    |none=>rw[h3] at h;cases h
    |some b=>rw[h3] at h;simp only[w01] at h;subst h;exact⟨Ev.ent' (z0t V P h1 hc) (z8b V P h2),zo9 hc h3⟩
 | [],_::_,_,h=>by simp[decA] at h
 |_::_,[],_,h=>by simp[decA] at h
theorem zly[Dr]{C:Cx P}{A:Asg}{s:SS V.T}{ch:Ch}(hc:chP s.gb ch):∀{cs:List Nat}{os:List Operand}{a:Tup V.T cs},decA V (rdSl s.ob) s.sl ch cs os=some a->y0b C (s.st V P A) os (vls V cs a)
 | [],[],_,_=>trivial
 |c::cs,o::os,a,h=>by
  simp only[decA] at h;cases h1:evO s.sl ch o with
  |none=>rw[h1] at h;cases h
  |some x=>
   rw[h1] at h;cases h2:V.dec (rdSl s.ob) c x with
   |none=>simp only[h2] at h;cases h
   |some y=>
    simp only[h2] at h;cases h3:decA V (rdSl s.ob) s.sl ch cs os with
    |none=>rw[h3] at h;cases h
    |some b=>rw[h3] at h;simp only[w01] at h;subst h;exact⟨EvF.of (z0t V P h1 hc) (yew V P h2),zly hc h3⟩
 | [],_::_,_,h=>by simp[decA] at h
 |_::_,[],_,h=>by simp[decA] at h
theorem y70{T:Nat->Type}{g :(c:Nat)->T c->List VP}{fl:Nat->Bool}(h:∀c,fl c=true->∀x,zdv (g c x)):∀(fs:List Nat)(x:Tup T fs),fs.all fl=true->zdv (evT g fs x)
 | [],_,_=>trivial
 |c::cs,x,hl=>by
  simp only[w1a,w04] at hl;have h1:=h c hl.1 x.1;have h2:=y70 h cs x.2 hl.2;simp only[evT];revert h1;generalize g c x.1=l;intro h1
  induction l with
  |nil=>exact h2
  |cons a l ih=>exact⟨h1.1,ih h1.2⟩
theorem y8g{l:List VP}(h:∀A∈l,A.flat):zdv l:=by
 induction l with
 |nil=>trivial
 |cons a l ih=>exact⟨h a (w0n ..),ih λb hb=>h b (w0r _ hb)⟩
theorem zpz:∀(n c:Nat),flN V n c=true->∀x,zdv (V.ev c x)
 |0,_,h=>by simp[flN] at h
 |n+1,c,h=>by
  intro x;rw[V.ev_eq];simp only[flN] at h;revert x h;generalize V.d c=d;generalize V.T c=α at d;intro h x;cases d with
  |int k=>exact⟨zhm,trivial⟩
  |bool=>exact⟨zhm,trivial⟩
  |str=>exact⟨zhm,trivial⟩
  |sl c'=>simp[flD] at h
  |map kc vc=>simp[flD] at h
  |arr m c'=>
   simp only[flD] at h;refine y8g λB hB=>?_
   simp only[evD,arr,w3p] at hB;obtain⟨i,_,hB⟩:=hB;exact zdv.mem (zpz n c' h _) B hB
  |st fs mk un law=>exact y70 (fl:=flN V n) (λc h=>zpz n c h) fs (un x) h
theorem ydp{c:Nat}(h:V.fl c=true)(x:V.T c):(V.vl c x).flat:=by
 have h1:=zpz V _ _ h x;cases ha:z8k (V.d c) with
 |true=>rw[zvd x ha];exact yau h1
 |false=>rw[zve x ha] at h1;exact h1.1
theorem zod[Dr]{B:Asg}: ∀(n:Nat)(res:List RC)(r:RTup V.T res),res.any zhu=false->newR V res r = []/\∀A,denV V P A (encR V n res r)=denV V P B (encR V 0 res r)
 |n,[],r,_=>⟨rfl,λA=>rfl⟩
 |n,.val c::cs,r,h=>by simp only[w3s,zhu,w2c] at h;obtain⟨h1,h2⟩:=zod (B:=B) n cs r.2 h;obtain⟨_,h3⟩:=zod (B:=B) 0 cs r.2 h;refine⟨by simpa only[newR] using h1,λA=>?_⟩;simp only[encR,denV,z4t,h2]
 |n,.row E c::cs,r,h=>by simp[zhu] at h
theorem zzv[Dr]{A B:Asg}{l m:List (SV V.T)}(h:denV V P A l=denV V P B m):(resV V l).den V P A =(resV V m).den V P B:=by
 match l,m with
 | [],[]=>rfl
 | [x],[y]=>simp only[denV] at h;simpa[resV] using h
 |x::y::l,a::b::m=>simp only[resV,SV.den,h]
 | [],_::_=>simp[denV] at h
 |_::_,[]=>simp[denV] at h
 | [_],_::_::_=>simp[denV] at h
 |_::_::_,[_]=>simp[denV] at h
theorem zto[Dr]{A:Asg}: ∀(n:Nat)(res:List RC)(r:RTup V.T res),res.any zhu=false->res.all (flR V)=true->∀B∈denV V P A (encR V n res r),B.flat
 |n,[],r,_,_,B,hB=>by simp[encR,denV] at hB
 |n,.val c::cs,r,h,hf,B,hB=>by
  simp only[w3s,zhu,w2c] at h;simp only[w1a,w04,flR] at hf;simp only[encR,denV,w08,z4t] at hB;rcases hB with rfl|hB
  .exact ydp V hf.1 _
  .exact zto n cs r.2 h hf.2 B hB
 |n,.row E c::cs,r,h,_,_,_=>by simp[zhu] at h
theorem zv4[Dr]{A:Asg}{l:List (SV V.T)}(h:∀B∈denV V P A l,B.flat):((resV V l).den V P A).flat:=by
 match l with
 | []=>exact zhm
 | [x]=>exact h _ (by simp[resV,denV])
 |x::y::l=>simp only[resV,SV.den];exact yf6 h
theorem zaw{f:Nat}(h:zf.fnok P f=true):FnOK P f:=by
 unfold zf.fnok at h;split at h
 .rename_i fn hf;simp only[w04,w0z] at h;exact⟨fn,hf,h.1,h.2⟩
 .cases h
end
end Px
end
section
namespace Px
open Go Go.RowKit
def y0e(D:Nat->Prop)(w:World):Prop:=∀b,D b->∀o u,w.cell? ⟨b,o,none⟩=some u->∃g,u = .bool g
def Sep(A:VP):Prop:=∀(D r:Nat->Prop)(w:World)(v:Value),y0e D w->A.h r w v->A.h (λb=>r b/\¬D b) w v
def NoB(A:VP):Prop:=∀r w g,¬A.h r w (.bool g)
theorem Sep.eqv{v:Value}: Sep (Px.eqv v):=λ_ _ _ _ _ h=>h
theorem yd7{cs:List VP}(h:∀A∈cs,Sep A){D r:Nat->Prop}{w:World}{b o:Nat}(hD:y0e D w)(k:z65 w r b o cs):z65 w (λb=>r b/\¬D b) b o cs:=λj A hj=>by obtain⟨u,h1,h2,h3⟩:=k j A hj;exact⟨u,h1,h A (w11 hj) D r w u hD h2,h3⟩
theorem Sep.ro{α:Type}{e:α->List VP}{sz:Nat}{l:List α}(he:∀x,∀A∈e x,Sep A)(hn:∀x,∃(j:Nat)(A:VP),(e x)[j]? = some A/\NoB A):Sep (Px.ro e sz l):=by
 intro D r w v hD h;rcases h with h|⟨b,o,cap,hv,h⟩
 .exact .inl h
 .refine .inr ⟨b,o,cap,hv,λi x hi=>?_⟩;obtain⟨h1,h2⟩:=h i x hi;refine⟨⟨h1,λhd=>?_⟩,yd7 (he x) hD h2⟩;obtain⟨j,A,hj,hA⟩:=hn x;obtain⟨u,h3,h4,_⟩:=h2 j A hj;obtain⟨g,rfl⟩:=hD b hd _ _ h3;exact hA _ _ _ h4
theorem Sep.agg{cs:List VP}(h:∀A∈cs,Sep A):Sep (Px.agg cs):=by rintro D r w v hD ⟨vs,rfl,hh⟩;refine⟨vs,rfl,hh.1,λj A hj=>?_⟩;obtain⟨u,h1,h2,h3⟩:=hh.2 j A hj;exact⟨u,h1,h A (w11 hj) D r w u hD h2,h3⟩
theorem Sep.tup{xs:List VP}(h:∀A∈xs,Sep A):Sep (Px.tupv xs):=by rintro D r w v hD ⟨vs,hv,hl,hh⟩;exact⟨vs,hv,hl,λi A hi=>h A (w11 hi) D r w _ hD (hh i A hi)⟩
section
variable(V:TE)
def zx4(l:List VP):Prop:=∃(j:Nat)(A:VP),l[j]? = some A/\NoB A
theorem zx4.left{a b:List VP}(h:zx4 a):zx4 (a++b):=by obtain⟨j,A,hj,hA⟩:=h;exact⟨j,A,by rw[w0k (w03.1 hj).1];exact hj,hA⟩
theorem zx4.right{a b:List VP}(h:zx4 b):zx4 (a++b):=by obtain⟨j,A,hj,hA⟩:=h;exact⟨a.length+j,A,by rw[w0y (by omega),w3c];exact hj,hA⟩
theorem yhj{T:Nat->Type}{g :(c:Nat)->T c->List VP}{nb:Nat->Bool}(h:∀c,nb c=true->∀x,zx4 (g c x)):∀(fs:List Nat)(x:Tup T fs),fs.any nb=true->zx4 (evT g fs x)
 | [],_,hl=>by simp at hl
 |c::cs,x,hl=>by
  simp only[w3s,w14] at hl;rcases hl with hl|hl
  .exact(h c hl x.1).left
  .exact(yhj h cs x.2 hl).right
theorem yje:∀(n c:Nat),nbN V n c=true->∀x,zx4 (V.ev c x)
 |0,_,h=>by simp[nbN] at h
 |n+1,c,h=>by
  intro x;rw[V.ev_eq];simp only[nbN] at h;revert x h;generalize V.d c=d;generalize V.T c=α at d;intro h x;cases d with
  |int k=>exact⟨0,_,rfl,λr w g q=>by cases q⟩
  |bool=>simp[nbD] at h
  |str=>exact⟨0,_,rfl,λr w g q=>by cases q⟩
  |sl c'=>exact⟨0,_,rfl,λr w g q=>by rcases q with⟨⟨a,cap,q⟩,_⟩|⟨b,o,cap,q,_⟩<;>cases q⟩
  |map kc vc=>exact⟨0,_,rfl,λr w g q=>by rcases q with⟨q,_⟩|⟨b,t,q,_⟩<;>cases q⟩
  |arr m c'=>simp only[nbD,w04,w21] at h;obtain⟨m,rfl⟩:∃q,m=q+1:=⟨m-1,by omega⟩;simp only[evD,arr];rw[List.range_succ_eq_map,w16];exact(yje n c' h.2 _).left
  |st fs mk un law=>exact yhj (nb:=nbN V n) (λc h=>yje n c h) fs (un x) h
theorem yao{T:Nat->Type}{g :(c:Nat)->T c->List VP}{sp:Nat->Bool}(h:∀c,sp c=true->∀x,∀A∈g c x,Sep A):∀(fs:List Nat)(x:Tup T fs),fs.all sp=true->∀A∈evT g fs x,Sep A
 | [],_,_,A,hA=>by cases hA
 |c::cs,x,hl,A,hA=>by
  simp only[w1a,w04] at hl;rcases w0j.1 hA with hA|hA
  .exact h c hl.1 x.1 A hA
  .exact yao h cs x.2 hl.2 A hA
theorem y1q:∀(n c:Nat),sepN V n c=true->∀x,∀A∈V.ev c x,Sep A
 |0,_,h=>by simp[sepN] at h
 |n+1,c,h=>by
  intro x A hA;rw[V.ev_eq] at hA;simp only[sepN] at h;revert x h;generalize V.d c=d;generalize V.T c=α at d;intro h x hA;cases d with
  |int k=>simp only[evD,w0x] at hA;rw[hA];exact Sep.eqv
  |bool=>simp only[evD,w0x] at hA;rw[hA];exact Sep.eqv
  |str=>simp only[evD,w0x] at hA;rw[hA];exact Sep.eqv
  |sl c'=>simp only[sepD,w04] at h;simp only[evD,w0x] at hA;rw[hA];exact Sep.ro (λy B hB=>y1q n c' h.1 y B hB) λy=>yje V n c' h.2 y
  |map kc vc=>simp[sepD] at h
  |arr m c'=>simp only[sepD] at h;simp only[evD,arr,w3p] at hA;obtain⟨i,_,hA⟩:=hA;exact y1q n c' h _ A hA
  |st fs mk un law=>exact yao (sp:=sepN V n) (λc h=>y1q n c h) fs (un x) h A hA
theorem ynh{c:Nat}(h:V.sep c=true)(x:V.T c):Sep (V.vl c x):=by
 have h1:=y1q V _ _ h x;cases ha:z8k (V.d c) with
 |true=>rw[zvd x ha];exact Sep.agg h1
 |false=>rw[zve x ha] at h1;exact h1 _ w0n
variable(P:Program)
theorem y6x[Dr]{A:Asg}: ∀(n:Nat)(res:List RC)(r:RTup V.T res),res.any zhu=false->res.all (sepR V)=true->∀B∈denV V P A (encR V n res r),Sep B
 |n,[],r,_,_,B,hB=>by simp[encR,denV] at hB
 |n,.val c::cs,r,h,hf,B,hB=>by
  simp only[w3s,zhu,w2c] at h;simp only[w1a,w04,sepR] at hf;simp only[encR,denV,w08,z4t] at hB;rcases hB with rfl|hB
  .exact ynh V hf.1 _
  .exact y6x n cs r.2 h hf.2 B hB
 |n,.row E c::cs,r,h,_,_,_=>by simp[zhu] at h
theorem ygq[Dr]{A:Asg}{l:List (SV V.T)}(h:∀B∈denV V P A l,Sep B):Sep ((resV V l).den V P A):=by
 match l with
 | []=>exact Sep.eqv
 | [x]=>exact h _ (by simp[resV,denV])
 |x::y::l=>simp only[resV,SV.den];exact Sep.tup h
def fixD(A:Asg)(ob:List (SO V.T))(b:Nat):Prop:=∃(i E c:Nat)(l:List (V.T c))(q:Nat×Value)(n:Nat),ob[i]? = some (.x (.fix E c l))/\A[i]? = some q/\q.2 = .slice (some ⟨b,0,none⟩) n n
theorem yjx{c:Nat}(h:y54 (V.d c)=true):V.sz c=1/\∀x,∃g,V.ev c x = [bv g]:=by
 refine⟨?_,λx=>?_⟩
 .rw[V.sz_eq];revert h;generalize V.d c=d;generalize V.T c=α at d;intro h;cases d<;>simp[y54] at h<;>rfl
 .rw[V.ev_eq];revert x h;generalize V.d c=d;generalize V.T c=α at d;intro h x;cases d<;>simp[y54] at h;exact⟨x,rfl⟩
theorem yat[Dr]{A:Asg}{ob:List (SO V.T)}{w0 w:World}{base:Nat}{r:Nat->Prop}{S:Nat->Nat->Prop}(hw:WInv w0 base (obD V P A A ob) r S w):y0e (fixD V A ob) w/\∀b,fixD V A ob b->∃i,S i b:=by
 have main:∀b,fixD V A ob b->(∃i,S i b)/\∀o u,w.cell? ⟨b,o,none⟩=some u->∃g,u = .bool g:=by
  rintro b ⟨i,E,c,l,q,n,ho,ha,hq⟩;obtain⟨⟨hb,_⟩,hr⟩:=hw.obj i _ (zg V P ha ho);obtain⟨e1,e2⟩:=yjx V hb;rcases hr with⟨hn,_⟩|⟨g,cap,cur,hv,hS,hcur,hl,hm,hsz,hh⟩
  .rw[hq] at hn;cases hn
  .rw[hq] at hv;simp only[Value.slice.injEq,w01,Addr.mk.injEq] at hv;obtain⟨⟨rfl,_⟩,rfl,rfl⟩:=hv;refine⟨⟨i,hS⟩,λo u hu=>?_⟩;rw[cell_of_row w b o cur E (0,0) hcur] at hu;have hlt:o<cur.size:=(w2d.1 hu).1;have hfl:=z1c (V.ev_len c) l;have hlt2:o<(l.flatMap (V.ev c)).length:=by rw[hfl,<- hsz];exact hlt
   obtain⟨u',h1,h2,_⟩:=hh.2 o _ (w0c hlt2);rw[w0u,if_pos (by rw[<- hsz];exact hlt)] at h1;have hu2:u'=u:=by
    have:cur.toList[o]? = cur[o]?:=by simp
    rw[this,hu] at h1;exact(w0b h1).symm
   subst hu2;obtain⟨x,_,hx⟩:=w3p.1 (List.getElem_mem hlt2);obtain⟨g,hg⟩:=e2 x;rw[hg,w0x] at hx;rw[hx] at h2;exact⟨g,h2⟩
 exact⟨λb hb=>(main b hb).2,λb hb=>(main b hb).1⟩
def EntD[Dr](C:Cx P)(s:St)(D:Nat->Prop)(A B:VP):Prop:=∀r S w v,WInv C.w0 C.base s.objs r S w->A.h r w v->B.h (λb=>r b\/D b) w v
theorem EntD.refl[Dr]{C:Cx P}{s:St}{D:Nat->Prop}{A:VP}: EntD P C s D A A:=λr S w v hw h=>A.mono (λb hb=>.inl hb) (λ_ _=>rfl) h
theorem EntD.ent[Dr]{C:Cx P}{s:St}{D:Nat->Prop}{A B:VP}(k:Ent A B):EntD P C s D A B:=λr S w v hw h=>B.mono (λb hb=>.inl hb) (λ_ _=>rfl) (k r w v h)
theorem F2.at{R:VP->VP->Prop}: ∀{As Bs:List VP},F2 R As Bs->As.length=Bs.length/\∀(j:Nat)(B:VP),Bs[j]? = some B->∃A,As[j]? = some A/\R A B
 | [],[],_=>⟨rfl,λj B h=>by simp at h⟩
 |A::As,B::Bs,⟨h,hr⟩=>by
  obtain⟨h1,h2⟩:=F2.at hr;refine⟨by simp[h1],λj D hj=>?_⟩;cases j with
  |zero=>simp at hj;subst hj;exact⟨A,rfl,h⟩
  |succ j=>simpa using h2 j D (by simpa using hj)
 | [],_::_,h=>h.elim
 |_::_,[],h=>h.elim
theorem EntD.agg[Dr]{C:Cx P}{s:St}{D:Nat->Prop}{cs ds:List VP}(h:F2 (EntD P C s D) cs ds):EntD P C s D (Px.agg cs) (Px.agg ds):=by rintro r S w v hw ⟨vs,rfl,hh⟩;obtain⟨h1,h2⟩:=h.at;refine⟨vs,rfl,by rw[<- h1];exact hh.1,λj B hj=>?_⟩;obtain⟨A,hA,hAB⟩:=h2 j B hj;obtain⟨u,hu,hAu,ho⟩:=hh.2 j A hA;exact⟨u,hu,hAB r S w u hw hAu,ho⟩
theorem yn6(ob:List (SO V.T)):∀c n d(f:Nat->V.T d)l,rdB ob c (.arr n d f)=some l->False:=λc n d f l h=>by simp[rdB] at h
theorem yl2[Dr]{C:Cx P}{A:Asg}{s:SS V.T}(c:Nat)(y:SV V.T)(l:List (V.T c))(h:rdB s.ob c y=some l):EntD P C (s.st V P A) (fixD V A s.ob) (y.den V P A) (Px.ro (V.ev c) (V.sz c) l):=by
 unfold rdB at h;split at h
 .split at h
  .rename_i e;subst e;simp only[w01] at h;subst h;exact EntD.refl P
  .cases h
 .rename_i i;split at h
  .rename_i E c' l' ho;split at h
   .rename_i e;subst e;simp only[w01] at h;subst h;simp only[SV.den];cases ha:A[i]? with
    |none=>exact λr S w v _ hv=>hv.elim
    |some q=>
     intro r S w v hw hv;have hv:v=q.2:=hv;subst hv;obtain⟨⟨hb,g0,n0,hg0⟩,hr⟩:=hw.obj i _ (zg V P ha ho);rcases hr with⟨hn,rfl⟩|⟨g,cap,cur,hv,hS,hcur,hl,hm,hsz,hh⟩
     .exact .inl ⟨⟨none,0,hn⟩,rfl⟩
     .have hD:fixD V A s.ob g:=by refine⟨i,E,_,l',q,n0,ho,ha,?_⟩;rw[hg0] at hv⊢;simp only[Value.slice.injEq,w01,Addr.mk.injEq] at hv;rw[hv.1.1]
      refine .inr ⟨g,0,cap-l'.length,by rw[w2k hl];exact hv,λk x hk=>⟨.inr hD,λj A hj=>?_⟩⟩;obtain⟨u,hu,hA,h1⟩:=hh.2 _ A (z4u (V.ev_len _) l' k x hk j A hj);refine⟨u,?_,A.mono (λb hb=>.inl hb) (λ_ _=>rfl) hA,h1⟩;rw[w18,cell_of_row w g _ cur E (0,0) hcur];rw[w0u] at hu;split at hu
      .simpa using hu
      .cases hu
   .cases h
  .cases h
 .simp only[w01] at h;subst h;exact EntD.ent P Ent.nil
 .cases h
theorem yev[Dr]{C:Cx P}{A:Asg}{s:SS V.T}{c:Nat}{x:SV V.T}{y:V.T c}(h:V.dec (rdB s.ob) c x=some y):EntD P C (s.st V P A) (fixD V A s.ob) (x.den V P A) (V.vl c y):=yac (R:=EntD P C (s.st V P A) (fixD V A s.ob)) (yn6 V s.ob) (λ_ _ _ _ _=>EntD.ent P zr5) (λ_=>EntD.refl P) (λc y l h=>yl2 V P c y l h) (λ_ _ h=>EntD.agg P h) h
theorem zwl[Dr]{C:Cx P}{A:Asg}{s:SS V.T}{ch:Ch}(hc:chP s.gb ch):∀{cs:List Nat}{os:List Operand}{a:Tup V.T cs},decA V (rdB s.ob) s.sl ch cs os=some a->
  ∀ac r S w,WInv C.w0 C.base (s.st V P A).objs r S w->za (s.st V P A).slots ac r w->(os.map ac.eval).length =(vls V cs a).length/\∀(i:Nat)(B:VP),(vls V cs a)[i]? = some B->B.h (λb=>r b\/fixD V A s.ob b) w ((os.map ac.eval).getD i undef)
 | [],[],_,_=>λac r S w hw hs=>⟨rfl,λi B h=>by simp[vls] at h⟩
 |c::cs,o::os,a,h=>by
  intro ac r S w hw hs;simp only[decA] at h;cases h1:evO s.sl ch o with
  |none=>rw[h1] at h;cases h
  |some x=>
   rw[h1] at h;cases h2:V.dec (rdB s.ob) c x with
   |none=>simp only[h2] at h;cases h
   |some y=>
    simp only[h2] at h;cases h3:decA V (rdB s.ob) s.sl ch cs os with
    |none=>rw[h3] at h;cases h
    |some b=>
     rw[h3] at h;simp only[w01] at h;subst h;obtain⟨k1,k2⟩:=zwl hc h3 ac r S w hw hs;refine⟨by simpa[vls] using k1,λi B hB=>?_⟩;cases i with
     |zero=>simp only[vls,w3f,w01] at hB;subst hB;exact yev V P h2 r S w _ hw (z0t V P h1 hc ac r w hs)
     |succ i=>simpa using k2 i B (by simpa[vls] using hB)
 | [],_::_,_,h=>by simp[decA] at h
 |_::_,[],_,h=>by simp[decA] at h
theorem yke[Dr]{C:Cx P}{s:St}{dst:Option Tmp}{ty:TypeId}{pos:String}{after:Array Edge}{guard:Option (Nat×Bool)}{f:FuncId}{as:Array Operand}{ts:Array TypeId}{args:List VP}{x:VP}{D:Nat->Prop}(hf:FnOK P f)
  (ha:∀ac r S w,WInv C.w0 C.base s.objs r S w->za s.slots ac r w->(as.toList.map ac.eval).length=args.length/\∀(i:Nat)(B:VP),args[i]? = some B->B.h (λb=>r b\/D b) w ((as.toList.map ac.eval).getD i undef))
  (hD:∀r S w,WInv C.w0 C.base s.objs r S w->y0e D w/\∀b,D b->∃i,S i b) (h:zk2 P f args λy news=>y=x/\news = []) (hx:Sep x) :
  OpQ C ⟨dst,.call { callee:=.value (.func f),args:=as,argTypes:=ts },ty,pos,after,guard⟩ s x:=
 .calls hf (Ev.func f) λa r S w hd hw hs=>by
  obtain⟨h1,h2⟩:=ha a r S w hw hs;obtain⟨hB,hO⟩:=hD r S w hw;have hlen:as.size=args.length:=by simpa using h1
  refine(h (λb=>r b\/D b) w _ (λb hb=>hb.elim (hw.old b) λq=>?_) (by simp[hlen]) λi A hi=>?_).mono ?_
  .obtain⟨i,hi⟩:=hO b q;exact(hw.own i b hi).2.2.1
  .have:=h2 i A hi
   have hlt:i<as.size:=by have:=(w03.1 hi).1;omega
   simpa[w1c,hlt] using this
  .rintro e w' ⟨v,y,news,r',S',rfl,he,hw',hxv,rfl,rfl⟩;have hnd:∀b,r b->¬D b:=λb hb q=>by obtain⟨i,hi⟩:=hO b q;exact(hw.own i b hi).2.2.2 hb
   have hB':y0e D w':=λb hb o u hu=>hB b hb o u (by rw[<- hu];exact(zte (he.2.1 b (.inr hb))).symm)
   have h3:∀b,(r' b/\¬D b)->r b\/(w.heap.size<=b/\r' b):=λb ⟨hb,hn⟩=>by
    rcases he.2.2 b hb with(q|q)|q
    .exact .inl q
    .exact absurd q hn
    .exact .inr ⟨q,hb⟩
   refine⟨v,y,_,λb=>r' b/\¬D b,_,rfl,⟨λb hb=>⟨he.1 b (.inl hb),hnd b hb⟩,λb hb=>he.2.1 b (.inl hb),λb hb=>?_⟩,
    hw.join hw' _ (λb hb=>⟨he.1 b (.inl hb),hnd b hb⟩) h3 (λi H hi=>by simp at hi),hx D r' w' v hB' hxv,rfl,by simp⟩
   rcases h3 b hb with q|q
   .exact .inl q
   .exact .inr (w2a hw.size q.1)
theorem yla{α:Type}{E:TypeId}{e:α->List VP}{sz:Nat}{l:List α}{sv:Value}(he:∀x,∀A∈e x,Sep A){D S r:Nat->Prop}{w:World}(hD:y0e D w)(h :(row E e sz l sv).h S r w):(row E e sz l sv).h S (λb=>r b/\¬D b) w:=by
 rcases h with hn|⟨g,cap,cur,hv,hS,hcur,hl,hm,hsz,hc⟩
 .exact .inl hn
 .refine .inr ⟨g,cap,cur,hv,hS,hcur,hl,hm,hsz,hc.1,λj A hj=>?_⟩;obtain⟨u,h1,h2,h3⟩:=hc.2 j A hj;obtain⟨x,_,hx⟩:=w3p.1 (w11 hj);exact⟨u,h1,he x A hx D r w u hD h2,h3⟩
theorem WInv.sub[Dr]{w0 w:World}{base:Nat}{objs:List HP}{r:Nat->Prop}{S T:Nat->Nat->Prop}(hw:WInv w0 base objs r S w){objs':List HP}(hl:objs'.length=objs.length)(hT:∀j b,T j b->S j b)(ho:∀(j:Nat)(H:HP),objs'[j]? = some H->H.h (T j) r w):WInv w0 base objs' r T w where
 below:=hw.below
 size:=hw.size
 obj:=ho
 own:=λj b hb=>by obtain⟨h1,h2⟩:=hw.own j b (hT j b hb);exact⟨hl ▸ h1,h2⟩
 apart:=λj k b hj hk=>hw.apart j k b (hT j b hj) (hT k b hk)
 old:=hw.old
theorem yg2[Dr]{C:Cx P}{s:St}{dst:Option Tmp}{ty:TypeId}{pos:String}{after:Array Edge}{guard:Option (Nat×Bool)}{K:VP->List HP->Prop}{α:Type}{E:TypeId}{e:α->List VP}{sz:Nat}{l:List α}{sv:Value}{f:FuncId}{as:Array Operand}{ts:Array TypeId}{args:List VP}{K':VP->List α->Prop}(i:Nat)
  (ho:s.objs[i]? = some (row E e sz l sv))
  (hT:∀r S w,WInv C.w0 C.base s.objs r S w->∃T:Nat->Nat->Prop,(∀j b,T j b->j≠i/\S j b)/\(∀(j:Nat)(H:HP),j≠i->s.objs[j]? = some H->H.h (T j) r w)/\((∀x,∀A∈e x,A.flat)\/((∀x,∀A∈e x,Sep A)/\y0e (λb=>∃j,T j b) w)))
  (hf:FnOK P f) (ha:∀ac r T w,WInv C.w0 C.base (s.objs.set i Px.emp) r T w->za s.slots ac r w->(as.toList.map ac.eval).length=args.length/\∀(k:Nat)(A:VP),args[k]? = some A->A.h (λb=>r b\/∃j,T j b) w ((as.toList.map ac.eval).getD k undef))
  (h:MutT P f args E e sz l sv K') (k:∀x l',K' x l'->x.flat/\K x (s.objs.set i (row E e sz l' sv))) :
  OpT C ⟨dst,.call { callee:=.value (.func f),args:=as,argTypes:=ts },ty,pos,after,guard⟩ s K:=
 .calls hf (Ev.func f) λa r S w hd hw hs=>by
  have hi:i<s.objs.length:=(w03.1 ho).1;obtain⟨T,t1,t2,t3⟩:=hT r S w hw;have hwT:WInv C.w0 C.base (s.objs.set i Px.emp) r T w:=hw.sub (by simp) (λj b hb=>(t1 j b hb).2) λj H hj=>by
   rw[w1n] at hj;split at hj
   .cases hj;trivial
   .rename_i e;exact t2 j H (λq=>e q.symm) hj
  obtain⟨h1,h2⟩:=ha a r T w hwT hs
  let O:Nat->Prop:=λb=>∃j,T j b
  let r':Nat->Prop:=λb=>r b\/O b
  have hrr:∀b,r b->r' b:=λb hb=>.inl hb
  have hO:∀b,O b->¬r b:=λb ⟨j,hb⟩=>(hwT.own j b hb).2.2.2
  have hwi:WInv C.w0 C.base [row E e sz l sv] r' (λj b=>j=0/\S i b) w:=by
   refine⟨hw.below,hw.size,?_,?_,?_,?_⟩
   .intro j B hj
    match j,hj with
    |0,hj=>
     simp at hj;subst hj;have :(λb=>(0:Nat)=0/\S i b)=S i:=by funext b;simp
     rw[this];exact HP.mono _ hrr (λ_ _=>rfl) (λ_ _=>rfl) (hw.obj i _ ho)
    |j+1,hj=>simp at hj
   .rintro j b ⟨rfl,hb⟩;obtain⟨_,b2,b3,b4⟩:=hw.own i b hb;refine⟨by simp,b2,b3,?_⟩;rintro(q|⟨j,q⟩)
    .exact b4 q
    .exact(t1 j b q).1 (hw.apart j i b (t1 j b q).2 hb)
   .rintro j k b ⟨rfl,_⟩ ⟨rfl,_⟩;rfl
   .rintro b (q|⟨j,q⟩)
    .exact hw.old b q
    .exact(hwT.own j b q).2.2.1
  refine(h C.w0 C.base r' _ w _ hwi (by simp at h1;simp[h1]) λj A hj=>?_).mono ?_
  .have:=h2 j A hj
   have hlt:j<as.size:=by have:=(w03.1 hj).1;simp at h1;omega
   simpa[w1c,hlt] using this
  .rintro e' w' ⟨v,x,objs',r2,S2,rfl,he,hw',hx,l',rfl,hk'⟩;obtain⟨kf,kk⟩:=k _ _ hk';have nT:∀b,¬T i b:=λb hb=>(t1 i b hb).1 rfl
   refine⟨v,x,_,λb=>r2 b/\¬O b,λj b=>if j=i then S2 0 b else T j b,rfl,⟨λb hb=>⟨he.1 b (.inl hb),λq=>hO b q hb⟩,λb hb=>he.2.1 b (.inl hb),λb hb=>?_⟩,⟨hw'.below,hw'.size,?_,?_,?_,?_⟩,kf _ _ _ _ _ hx,kk⟩
   .rcases he.2.2 b hb.1 with(q|q)|q
    .exact .inl q
    .exact absurd q hb.2
    .exact .inr q
   .intro j B hj;rw[w1n] at hj;split at hj
    .rename_i eij;subst eij;have hj':row E e sz l' sv=B:=by simpa[hi] using hj
     subst hj';simp only[if_true];rcases t3 with hfl|⟨hsp,hB⟩
     .exact y72 hfl _ _ _ _ (hw'.obj 0 _ rfl)
     .exact yla hsp (λb hb o u hu=>hB b hb o u (by rw[<- hu];exact(zte (he.2.1 b (.inr hb))).symm)) (hw'.obj 0 _ rfl)
    .rename_i eij;have eji:¬j=i:=λq=>eij q.symm
     simp only[eji,if_false];exact B.mono (w:=w) (λb hb=>⟨he.1 b (.inl hb),λq=>hO b q hb⟩) (λb hb=>he.2.1 b (.inl hb)) (λb hb=>he.2.1 b (.inr ⟨j,hb⟩)) (t2 j B eji hj)
   .intro j b hb;by_cases eji:j=i
    .subst eji;simp only[if_true] at hb;obtain⟨_,b2,b3,b4⟩:=hw'.own 0 b hb;exact⟨by simpa using hi,b2,b3,λq=>b4 q.1⟩
    .simp only[eji,if_false] at hb;obtain⟨b1,b2,b3,b4⟩:=hwT.own j b hb;exact⟨by simpa using b1,b2,hw'.old b (he.1 b (.inr ⟨j,hb⟩)),λq=>q.2 ⟨j,hb⟩⟩
   .intro j k' b hb hb';by_cases ej:j=i<;>by_cases ek:k'=i
    .rw[ej,ek]
    .simp only[ej,if_true] at hb;simp only[ek,if_false] at hb';exact absurd (he.1 b (.inr ⟨k',hb'⟩)) (hw'.own 0 b hb).2.2.2
    .simp only[ek,if_true] at hb';simp only[ej,if_false] at hb;exact absurd (he.1 b (.inr ⟨j,hb⟩)) (hw'.own 0 b hb').2.2.2
    .simp only[ej,ek,if_false] at hb hb';exact hwT.apart j k' b hb hb'
   .exact λb hb=>hw'.old b hb.1
end
end Px
end
section
namespace Px
open Go Go.RowKit
section
variable(V:TE)(P:Program)
def QOK[Dr](C:Cx P)(A:Asg)(s:SS V.T)(cur:Ch)(o:Op)(ty:TypeId)(v:SV V.T):Prop:=chP s.gb cur->∀dst pos after guard,OpQ C ⟨dst,o,ty,pos,after,guard⟩ (s.st V P A) (v.den V P A)
variable{V P}{R:Type}{r:R}{C:Cx P}{A:Asg}{s:SS V.T}{cur:Ch}
theorem evO2[Dr](hkn:chP s.gb s.kn)(hc:chP s.gb cur){o:Operand}{x:SV V.T}(h:evO s.sl (cur++s.kn) o=some x):Ev (s.st V P A) o (x.den V P A):=z0t V P h (z6t hc hkn)
theorem zr{T:Nat->Type}{x:Option (SV T)}{k:IntKind}{n:Int}(h:x.bind zg4=some (k,n)):x=some (.int k n):=by
 cases x with
 |none=>cases h
 |some y=>cases y<;>simp[zg4] at h;rw[h.1,h.2]
theorem zdx{T:Nat->Type}{x:Option (SV T)}{b:Bool}(h:x.bind zo1=some b):x=some (.bool b):=by
 cases x with
 |none=>cases h
 |some y=>cases y<;>simp[zo1] at h;rw[h]
theorem ye3[Dr]{op:BinOp}{yc:Operand}{i:IntKind}{m n:Int}{k:SV V.T->Option R}{t ty:TypeId}{x y:Operand}{t':TypeId}(h:y4b V s.gb cur op y i m n k=some r)
  (hx:chP s.gb cur->Ev (s.st V P A) x (iv i m)) (hy:chP s.gb cur->Ev (s.st V P A) y (iv i n)):∃v,k v=some r/\QOK V P C A s cur (.binOp op t x y t') ty v:=by
 have ckd:∀(p:Prop)[Decidable p](z:Option R),y4b.ckD s.gb cur y p z=some r->(chP s.gb cur->p)/\z=some r:=by
  intro p _ z hz;unfold y4b.ckD at hz;split at hz
  .split at hz
   .rename_i hp;exact⟨λ_=>hp,hz⟩
   .cases hz
  .exact z7i hz
 cases op with
 |add=>exact⟨_,h,λhc dst pos after guard=>ynt (hx hc) (hy hc)⟩
 |sub=>exact⟨_,h,λhc dst pos after guard=>yoc (hx hc) (hy hc)⟩
 |mul=>exact⟨_,h,λhc dst pos after guard=>yo5 (hx hc) (hy hc)⟩
 |and=>exact⟨_,h,λhc dst pos after guard=>yml (hx hc) (hy hc)⟩
 |or=>exact⟨_,h,λhc dst pos after guard=>ynv (hx hc) (hy hc)⟩
 |xor=>exact⟨_,h,λhc dst pos after guard=>ymm (hx hc) (hy hc)⟩
 |eql=>exact⟨_,h,λhc dst pos after guard=>yny (hx hc) (hy hc)⟩
 |neq=>exact⟨_,h,λhc dst pos after guard=>yo8 (hx hc) (hy hc)⟩
 |lss=>exact⟨_,h,λhc dst pos after guard=>yo2 (hx hc) (hy hc)⟩
 |leq=>exact⟨_,h,λhc dst pos after guard=>yo1 (hx hc) (hy hc)⟩
 |gtr=>exact⟨_,h,λhc dst pos after guard=>yo0 (hx hc) (hy hc)⟩
 |geq=>exact⟨_,h,λhc dst pos after guard=>ynz (hx hc) (hy hc)⟩
 |quo=>exact⟨_,(ckd _ _ h).2,λhc dst pos after guard=>yoa (hx hc) (hy hc) ((ckd _ _ h).1 hc)⟩
 |rem=>exact⟨_,(ckd _ _ h).2,λhc dst pos after guard=>yob (hx hc) (hy hc) ((ckd _ _ h).1 hc)⟩
 |shl=>cases h
 |shr=>cases h
 |andNot=>cases h
theorem yh0[Dr]{op:BinOp}{i j:IntKind}{m n:Int}{k:SV V.T->Option R}{t ty:TypeId}{x y:Operand}{t':TypeId}(h:shift V s.gb cur op y i m n k=some r)
  (hx:chP s.gb cur->Ev (s.st V P A) x (iv i m)) (hy:chP s.gb cur->Ev (s.st V P A) y (iv j n)):∃v,k v=some r/\QOK V P C A s cur (.binOp op t x y t') ty v:=by
 unfold shift at h;split at h
 .split at h
  .rename_i h0;exact⟨_,h,λhc dst pos after guard=>ymw (hx hc) (hy hc) h0⟩
  .cases h
 .split at h
  .rename_i h0;exact⟨_,h,λhc dst pos after guard=>ymx (hx hc) (hy hc) h0⟩
  .cases h
 .exact⟨_,(z7i h).2,λhc dst pos after guard=>ymw (hx hc) (hy hc) ((z7i h).1 hc)⟩
 .exact⟨_,(z7i h).2,λhc dst pos after guard=>ymx (hx hc) (hy hc) ((z7i h).1 hc)⟩
 .cases h
theorem ydo[Dr]{x:SV V.T}{v:Value}(h:yha x=some v):x.den V P A=eqv v/\z10 x=false:=by cases x<;>simp[yha] at h<;>subst h<;>exact⟨rfl,rfl⟩
theorem zh8[Dr]:∀{l:List (SV V.T)}{vs:List Value},zvc l=some vs->denL V P A l=vs.map eqv
 | [],vs,h=>by simp[zvc] at h;subst h;rfl
 |x::l,vs,h=>by
  simp only[zvc] at h;cases h1:yha x with
  |none=>rw[h1] at h;cases h
  |some v=>
   cases h2:zvc l with
   |none=>rw[h1,h2] at h;cases h
   |some us=>rw[h1,h2] at h;simp only[w01] at h;subst h;obtain⟨e1,e2⟩:=ydo (P:=P) (A:=A) h1;rw[z4s,zob V P e2,e1,zh8 h2];rfl
theorem ydu[Dr]{n c:Nat}{f:Nat->V.T c}: ∀(l:List Nat),denL V P A (l.flatMap λi=>V.enc c (f i))=l.flatMap λi=>V.ev c (f i)
 | []=>rfl
 |i::l=>by rw[w16,w16,z20,z1b,ydu (n:=n) l]
theorem y08[Dr]:∀(l:List (SV V.T)),denL V P A (xpd V l)=denL V P A l
 | []=>rfl
 | .arr n c f::l=>by simp only[xpd,z20,denL,y08 l];rw[ydu (n:=n)];rfl
 | .int ..::l | .bool ..::l | .str ..::l | .val ..::l | .agg ..::l | .tup ..::l | .ro ..::l | .rop ..::l | .ptr ..::l | .own ..::l | .elt ..::l | .pta ..::l | .prt ..::l | .und::l
 | .func ..::l | .rom ..::l | .cmp ..::l | .top::l=>by simp only[xpd,denL,y08 l]
theorem y0l[Dr]{x:SV V.T}(h:z10 x=true):x.den V P A=Px.agg (denL V P A (y8f x)):=by cases x<;>simp[z10] at h<;>simp[y8f,SV.den,denL]
theorem zws[Dr]{j kc vc E:Nat}{m:List (V.T kc×V.T vc)}{hh:Option (V.T kc×Nat)}{C:Cx P}{q:Nat×Value}{o:Oper}{K:VP->List HP->Prop}(ha:A[j]? = some q)(ho:s.ob[j]? = some (.x (.map kc vc E m hh)))
  (h:q.2 = .map (some q.1)->(∀k i,hh=some (k,i)->(A[i]?).isSome=true)->OpT C o (s.st V P A) K):OpT C o (s.st V P A) K:=
 λa w ro S Q hd hn hw hs=>h (hw.obj j _ (zg V P ha ho)).1.1 (hw.obj j _ (zg V P ha ho)).1.2 a w ro S Q hd hn hw hs
theorem yin[Dr]{N:Env V}{C:Cx N.P}{A:Asg}{op:BinOp}{t ty:TypeId}{x y:Operand}{t':TypeId}{a b:SV V.T}{k:SV V.T->Option R}(h:binX V N s cur op t y a b k=some r)
  (hx:chP s.gb cur->Ev (s.st V N.P A) x (a.den V N.P A)) (hy:chP s.gb cur->Ev (s.st V N.P A) y (b.den V N.P A)):∃v,k v=some r/\QOK V N.P C A s cur (.binOp op t x y t') ty v:=by
 unfold binX at h;split at h
 .rename_i i m j n;cases hs:zxy op with
  |true=>rw[hs] at h;exact yh0 h hx hy
  |false=>
   rw[hs] at h;simp only[cond_false] at h;split at h
   .rename_i e;subst e;exact ye3 (yc:=y) h hx hy
   .cases h
 .split at h
  .rename_i hu;exact⟨_,h,λhc dst pos after guard=>ymp hu (hx hc) (hy hc)⟩
  .rename_i hu;exact⟨_,h,λhc dst pos after guard=>ymv hu (hx hc) (hy hc)⟩
  .cases h
 .split at h
  .rename_i hu;exact⟨_,h,λhc dst pos after guard=>yki hu (hx hc) (hy hc)⟩
  .rename_i hu;exact⟨_,h,λhc dst pos after guard=>ykk hu (hx hc) (hy hc)⟩
  .cases h
 .rename_i i;split at h
  .rename_i kt et kc vc E m hh hu ho;refine⟨_,h,λhc dst pos after guard=>?_⟩;have hx':=hx hc;simp only[SV.den] at hx';cases ha:A[i]? with
   |none=>rw[ha] at hx';exact z8l N.P hx'
   |some q=>rw[ha] at hx';exact zws ha ho λhq _=>yfu hu (b:=q.1) (by rw[<- hq];exact hx') (hy hc)
  .cases h
 .split at h
  .rename_i hu;exact⟨_,h,λhc dst pos after guard=>yc6 hu (hx hc) (hy hc)⟩
  .cases h
 .split at h
  .rename_i hu;exact⟨_,(z7i h).2,λhc dst pos after guard=>yc7 hu ((z7i h).1 hc) (hx hc) (hy hc)⟩
  .cases h
 .split at h
  .rename_i us vs h1 h2;cases hag :(z10 a&&z10 b) with
   |false=>rw[hag] at h;cases h
   |true=>
   rw[hag] at h;simp only[w25,cond_false] at h;simp only[w04] at hag;have hx:chP s.gb cur->Ev (s.st V N.P A) x (Px.agg (denL V N.P A (xpd V (y8f a)))):=λhc=>by rw[y08,<- y0l hag.1];exact hx hc
   have hy:chP s.gb cur->Ev (s.st V N.P A) y (Px.agg (denL V N.P A (xpd V (y8f b)))):=λhc=>by rw[y08,<- y0l hag.2];exact hy hc
   split at h
   .rename_i g hg;cases hgd:N.P.eqGuardType N.P.depth t with
    |true=>rw[hgd] at h;cases h
    |false=>
     rw[hgd] at h;simp only[cond_false] at h;split at h
     .exact⟨_,h,λhc dst pos after guard=>ynx us vs (hx hc) (hy hc) (zh8 h1) (zh8 h2) hgd (λw=>zr6 w hg)⟩
     .exact⟨_,h,λhc dst pos after guard=>yo6 us vs (hx hc) (hy hc) (zh8 h1) (zh8 h2) hgd (λw=>zr6 w hg)⟩
     .cases h
   .cases h
  .cases h
structure GbOK{T:Nat->Type}(f:Fm T):Prop where
 val:∀t g,lk f.gb t=some g->∀ch z,lk f.sl t=some (ch,z)->z = .bool g
 ch:∀t ch z,lk f.sl t=some (ch,z)->∀p∈ch,(lk f.gb p.1).isSome=true
 kn:∀p∈f.kn,(lk f.gb p.1).isSome=true
theorem yk3{gb:List (Nat×Bool)}{kn:Ch}{t:Nat}{b:Bool}(h:chP gb kn)(hk:lk kn t=some b):(lk gb t).getD false=b:=by
 rw[zat] at h;have:∀(l:Ch),lk l t=some b->(t,b)∈l:=by
  intro l
  induction l with
  |nil=>intro h;cases h
  |cons p l ih=>
   obtain⟨u,w⟩:=p;intro h;simp only[lk] at h;cases hb:Nat.beq u t with
   |true=>rw[hb] at h;simp at h;have:=w02 hb;subst this;subst h;exact w0n ..
   |false=>rw[hb] at h;exact w0r _ (ih h)
 exact h _ (this kn hk)
theorem yjd{sl:Sls V.T}{ch:Ch}{t:Nat}{x:SV V.T}(h:evO sl ch (.tmp t)=some x):∃c,lk sl t=some (c,x):=by
 simp only[evO] at h;cases h1:lk sl t with
 |none=>rw[h1] at h;cases h
 |some e=>
  obtain⟨c,y⟩:=e;rw[h1] at h;simp only at h;cases h2:ydi c ch with
  |false=>rw[h2] at h;cases h
  |true=>rw[h2] at h;simp at h;exact⟨c,by rw[h]⟩
theorem yd9{t:Nat}{g:Bool}(hgb:GbOK s.toFm)(hs:lk s.gb t=some g){ch:Ch}{x:SV V.T}(h:evO s.sl ch (.tmp t)=some x):x = .bool g:=by obtain⟨c,hc⟩:=yjd h;exact hgb.val t g hs c x hc
theorem y6z[Dr](hkn:chP s.gb s.kn)(hc:chP s.gb cur)(hgb:GbOK s.toFm){t:Nat}{w g:Bool}{x:Operand}{v:SV V.T}(hg:evO s.sl (cur++s.kn) (.tmp t)=some (.bool g))(hgw:g=w)
  (h:evO s.sl (zwt V s cur t w) x=some v):Ev (s.st V P A) x (v.den V P A):=by
 unfold zwt at h;cases hl:lk s.gb t with
 |some g'=>
  rw[hl] at h;have:=yd9 hgb hl hg;simp only[SV.bool.injEq] at this;subst this;refine z0t V P h ?_;rw[zat];intro p hp;rcases w08.1 hp with rfl|hp
  .simp only[hl,w1s];exact hgw
  .exact zat.1 (z6t hc hkn) p hp
 |none=>rw[hl] at h;exact evO2 hkn hc h
theorem ygj[Dr]{c x y:Operand}{ty:TypeId}{k:SV V.T->Option R}(hkn:chP s.gb s.kn)(hgb:GbOK s.toFm)(h:ykv V s cur c x y k=some r):∃v,k v=some r/\QOK V P C A s cur (.pick c x y) ty v:=by
 unfold ykv at h;split at h
 .rename_i t;split at h
  .rename_i g hg;have hcg:chP s.gb cur->Ev (s.st V P A) (.tmp t) (bv g):=λhc=>evO2 hkn hc hg
   split at h
   .rename_i g' h1 h2;have e:=yd9 hgb h2 hg;simp only[SV.bool.injEq] at e;have e2:=yk3 hkn h1;rw[h2] at e2;simp only[w1s] at e2;subst e2;subst e;split at h
    .rename_i v hv;exact⟨v,h,λhc dst pos after guard=>y7u (hcg hc) (λ_=>evO2 hkn hc hv) (λe=>nomatch e)⟩
    .cases h
   .rename_i g' h1 h2;have e:=yd9 hgb h2 hg;simp only[SV.bool.injEq] at e;have e2:=yk3 hkn h1;rw[h2] at e2;simp only[w1s] at e2;subst e2;subst e;split at h
    .rename_i v hv;exact⟨v,h,λhc dst pos after guard=>y7u (hcg hc) (λe=>nomatch e) (λ_=>evO2 hkn hc hv)⟩
    .cases h
   .split at h
    .cases hq :(evO s.sl (zwt V s cur t true) x).bind zo1 with
     |none=>rw[hq] at h;cases h
     |some q=>rw[hq] at h;have hq':=zdx hq;exact⟨_,h,λhc dst pos after guard=>ynu (hcg hc) (λe=>y6z hkn hc hgb hg e hq') (Ev.const _)⟩
    .split at h
     .cases hq :(evO s.sl (zwt V s cur t false) y).bind zo1 with
      |none=>rw[hq] at h;cases h
      |some q=>rw[hq] at h;have hq':=zdx hq;exact⟨_,h,λhc dst pos after guard=>opOr (hcg hc) (Ev.const _) (λe=>y6z hkn hc hgb hg e hq')⟩
     .cases h
  .cases h
 .cases h
end
end Px
end
section
namespace Px
open Go Go.RowKit
theorem zt8{a b:Value}(h:beqZ a b=true):a=b/\a.oneCell'=true:=by
 unfold beqZ at h;split at h
 .simp only[w04,decide_eq_true_eq] at h;obtain⟨rfl,rfl⟩:=h;exact⟨rfl,rfl⟩
 .simp only[beq_iff_eq] at h;subst h;exact⟨rfl,rfl⟩
 .rename_i x y;simp only[w04,beq_iff_eq] at h;have e:x=y:=by cases x with|mk dx=>cases y with|mk dy=>simp[ByteArray.size] at h;rw[h.1,h.2]
  subst e;exact⟨rfl,rfl⟩
 .exact⟨rfl,rfl⟩
 .exact⟨rfl,rfl⟩
 .exact⟨rfl,rfl⟩
 .exact⟨rfl,rfl⟩
 .cases h
section
variable(V:TE)(P:Program)
theorem yid[Dr]{A:Asg}{x:SV V.T}{v:Value}(h:zmV V [v] x=true):denL V P A [x] = [eqv v]/\v.oneCell'=true:=by cases x<;>simp only[zmV,w0a] at h<;>obtain⟨e,h1⟩:=zt8 h<;>subst e<;>exact⟨rfl,h1⟩
theorem y89[Dr]{A:Asg}: ∀{l:List (SV V.T)}{vs:List Value},zmL V l vs=true->denL V P A l=vs.map eqv/\vs.all (·.oneCell')=true/\vs.length=l.length
 | [],[],_=>⟨rfl,rfl,rfl⟩
 |x::l,v::vs,h=>by simp only[zmL,w04] at h;obtain⟨h1,h2⟩:=yid V P (A:=A) h.1;obtain⟨h3,h4,h5⟩:=y89 (A:=A) h.2;exact⟨by rw[z4s,h1,h3];rfl,by simp[h2,h4],by simp[h5]⟩
 | [],_::_,h=>by simp[zmL] at h
 |_::_,[],h=>by simp[zmL] at h
theorem yic[Dr]{A:Asg}{m:List (SV V.T)}: ∀{n:Nat}{vs:List Value},zmA V m n vs=true->(List.replicate n (denL V P A m)).flatten=vs.map eqv/\vs.all (·.oneCell')=true
 |0,vs,h=>by simp only[zmA,w4d] at h;subst h;exact⟨rfl,rfl⟩
 |n+1,vs,h=>by
  simp only[zmA,w04] at h;obtain⟨h1,h2,_⟩:=y89 V P (A:=A) h.1;obtain⟨h3,h4⟩:=yic (A:=A) h.2;have e:=w0h m.length vs;refine⟨?_,?_⟩
  .rw[List.replicate_succ,List.flatten_cons,h3,h1,<- w28,e]
  .rw[<- e,w3y,h2,h4];rfl
theorem ye5{α:Type}(e:α->List VP)(z:α):∀(n:Nat),Px.arr n e (λ_=>z) =(List.replicate n (e z)).flatten:=by
 intro n;unfold Px.arr
 induction n with
 |zero=>rfl
 |succ n ih=>rw[w2t,w2x,ih,List.replicate_succ',List.flatten_append];simp
theorem zlv[Dr]{A:Asg}: ∀{l:List (SV V.T)}{vs:List Value},zjq V l vs=true->denL V P A (fixZ V l)=vs.map eqv/\vs.all (·.oneCell')=true
 | [],vs,h=>by
  cases vs with
  |nil=>exact⟨rfl,rfl⟩
  |cons v vs=>simp[zjq] at h
 | .arr n c f::l,vs,h=>by
  simp only[zjq,w04] at h;obtain⟨h1,h2⟩:=yic V P (A:=A) h.1;obtain⟨h3,h4⟩:=zlv (A:=A) h.2;rw[z1b] at h1;have e:=w0h (n*V.sz c) vs;refine⟨?_,?_⟩
  .simp only[fixZ,denL,ye5,h1,h3];rw[<- w28,e]
  .rw[<- e,w3y,h2,h4];rfl
 | .int ..::l,v::vs,h | .bool ..::l,v::vs,h | .str ..::l,v::vs,h | .val ..::l,v::vs,h | .agg ..::l,v::vs,h | .tup ..::l,v::vs,h | .ro ..::l,v::vs,h | .rop ..::l,v::vs,h
 | .ptr ..::l,v::vs,h | .own ..::l,v::vs,h | .elt ..::l,v::vs,h | .pta ..::l,v::vs,h | .prt ..::l,v::vs,h | .und::l,v::vs,h | .func ..::l,v::vs,h | .rom ..::l,v::vs,h | .cmp ..::l,v::vs,h | .top::l,v::vs,h=>by simp only[zjq,w04] at h;obtain⟨h1,h2⟩:=yid V P (A:=A) h.1;obtain⟨h3,h4⟩:=zlv (A:=A) h.2;refine⟨?_,by simp[h2,h4]⟩;simp only[fixZ];rw[z4s,h1,h3];rfl
 | .int ..::l,[],h | .bool ..::l,[],h | .str ..::l,[],h | .val ..::l,[],h | .agg ..::l,[],h | .tup ..::l,[],h | .ro ..::l,[],h | .rop ..::l,[],h
 | .ptr ..::l,[],h | .own ..::l,[],h | .elt ..::l,[],h | .pta ..::l,[],h | .prt ..::l,[],h | .und::l,[],h | .func ..::l,[],h | .rom ..::l,[],h | .cmp ..::l,[],h | .top::l,[],h=>by simp[zjq] at h
theorem y5q[Dr]{A:Asg}: ∀(vs:List Value),denL V P A (vs.map zy6)=vs.map eqv
 | []=>rfl
 |v::vs=>by
  have h:denL V P A [(zy6 v:SV V.T)] = [eqv v]:=by cases v<;>rfl
  rw[w0i,z4s,h,y5q vs];rfl
def ownO{T:Nat->Type}: SO T->Bool
 | .row ..=>true
 | .x _=>true
 |_=>false
def OneA(A:Asg)(ob:List (SO V.T)):Prop:=∀(i:Nat)(q:Nat×Value)(o:SO V.T),A[i]? = some q->ob[i]? = some o->ownO o=true->q.2.oneCell'=true
theorem ycc[Dr]{A:Asg}{ob:List (SO V.T)}(h1:OneA V A ob){x:SV V.T}(h:oneS V ob x=true):One (x.den V P A)/\z10 x=false:=by
 cases x with
 |int k n=>exact⟨One.eqv rfl,rfl⟩
 |bool b=>exact⟨One.eqv rfl,rfl⟩
 |str b=>exact⟨One.eqv rfl,rfl⟩
 |val v=>exact⟨One.eqv h,rfl⟩
 |ro c l=>exact⟨One.ro,rfl⟩
 |rom kc vc m=>exact⟨λr w v(h :(V.mv V.ev kc vc m).h r w v)=>by rcases h with⟨rfl,_⟩|⟨b,t,rfl,_⟩<;>rfl,rfl⟩
 |rop cs=>exact⟨One.rop,rfl⟩
 |ptr i off=>
  refine⟨?_,rfl⟩;simp only[SV.den];cases A[i]? with
  |none=>exact λ_ _ _ hv=>hv.elim
  |some q=>exact One.eqv rfl
 |own i=>
  refine⟨?_,rfl⟩;simp only[SV.den];cases ha:A[i]? with
  |none=>exact λ_ _ _ hv=>hv.elim
  |some q=>
   simp only[oneS] at h;split at h
   .rename_i E c l ho;exact One.eqv (h1 i q _ ha ho rfl)
   .rename_i xo ho;exact One.eqv (h1 i q _ ha ho rfl)
   .cases h
 |elt i k z fo=>
  refine⟨?_,rfl⟩;simp only[SV.den];cases A[i]? with
  |none=>exact λ_ _ _ hv=>hv.elim
  |some q=>exact λr w v ⟨g,n,cap,_,hv,_⟩=>by subst hv;rfl
 |func f caps=>refine⟨?_,rfl⟩;simp only[SV.den];exact λr w v ⟨caps,hv,_⟩=>by subst hv;rfl
 |_=>simp[oneS] at h
theorem ylo[Dr]{A:Asg}{s:St}{ob:List (SO V.T)}(h1:OneA V A ob){x:SV V.T}{o:Operand}(hs:storable V ob x=true)(h:Ev s o (x.den V P A)):Ce s o (denL V P A (cellsOf x)):=by
 unfold storable at hs;cases ha:z10 x with
 |true=>rw[y4d V P ha] at h;exact Ce.agg h
 |false=>
  rw[ha,w2c] at hs;have hc:cellsOf x = [x]:=by cases x<;>simp[z10] at ha<;>rfl
  rw[hc,zob V P ha];exact Ce.one h (ycc V P h1 hs).1
theorem ylb[Dr]{A:Asg}{l new m:List (SV V.T)}{o n:Nat}(h:splL V l o new n=some m):denL V P A m =(denL V P A l).take o++denL V P A new++(denL V P A l).drop (o+n)/\o+n<=(denL V P A l).length:=by
 unfold splL at h;cases hs:splC V l o new n with
 |some q=>rw[hs] at h;cases h;exact zv6 V P hs
 |none=>
  rw[hs] at h;simp only at h;unfold splA at h;split at h
  .rename_i k c f;cases hb :(Nat.beq n (V.sz c)&&Nat.beq (o % n) 0&&Nat.ble (o / n+1) k) with
   |false=>rw[hb] at h;cases h
   |true=>
    rw[hb] at h;simp only[cond_true] at h;simp only[w04] at hb;have e1:=w02 hb.1.1;have e2:=w02 hb.1.2;have e3:=w0v hb.2;split at h
    .rename_i y hy;cases h;have e5:=y45 (zkk (P:=P) (A:=A) (R:=Eq) zwx zwy (λ_=>rfl) (λ_ _ _ h=>zww h) hy);have e6:o=o / n*V.sz c:=by have:=w4f o n;rw[e2,w31] at this;rw[<- e1,w54];exact this.symm
     have h3:=zn6 (N:=k) (f:=f) (V.ev_len c);have h4 :(o / n+1)*V.sz c<=k*V.sz c:=w12 _ e3;rw[w15] at h4;have h5:=zwe (pre:=[]) (post:=[]) (N:=k) (sz:=V.sz c) (k:=o / n) (off:=o) (n:=n) (e:=V.ev c) (f:=f) (y:=y) (cs:=denL V P A new) (V.ev_len c) (by simpa using e6) e3 e1 e5;simp only[w2u,w09] at h5;simp only[denL,w09];refine⟨h5.symm,?_⟩;rw[h3];omega
    .cases h
  .cases h
theorem y5c[Dr]{A:Asg}{s:SS V.T}{ob:List (SO V.T)}{ch:Ch}{t:TypeId}(h1:OneA V A ob)(hc:chP s.gb ch):∀{ps:List (Nat×Operand)}{cs out:List (SV V.T)},layX V P t ob s.sl ch cs ps=some out->
  ∃qs,ydz (s.st V P A) (zry P t) (clen V cs) ps qs/\lay (denL V P A cs) qs=denL V P A out
 | [],cs,out,h=>by simp[layX] at h;subst h;exact⟨[],trivial,rfl⟩
 |(i,o)::ps,cs,out,h=>by
  simp only[layX] at h;cases hp:zry P t i with
  |none=>rw[hp] at h;cases h
  |some q=>
   obtain⟨off,n⟩:=q;cases hx:evO s.sl ch o with
   |none=>rw[hp,hx] at h;cases h
   |some x=>
    rw[hp,hx] at h;simp only at h;cases hb :(Nat.beq n (clen V (cellsOf x))&&storable V ob x) with
    |false=>rw[hb] at h;cases h
    |true=>
     rw[hb] at h;simp only[cond_true] at h;simp only[w04] at hb;have en:=w02 hb.1;cases hs:splL V cs off (cellsOf x) n with
     |none=>rw[hs] at h;cases h
     |some cs'=>
      rw[hs] at h;simp only at h;obtain⟨e,hl⟩:=ylb V P (A:=A) hs;obtain⟨qs,hq,hlay⟩:=y5c h1 hc h;have hlen:=zhf V P (A:=A) (cellsOf x);have hcs:=zhf V P (A:=A) cs;have hcs':=zhf V P (A:=A) cs';have hsame:clen V cs'=clen V cs:=by rw[<- hcs',e];simp[hlen,en] at *;omega
      refine⟨(off,denL V P A (cellsOf x))::qs,⟨by rw[hp,hlen,en],by rw[hlen,<- en,<- hcs];exact hl,ylo V P h1 hb.2 (z0t V P hx hc),by rw[<- hsame];exact hq⟩,?_⟩;simp only[lay];rw[<- hlay,e,hlen,en]
end
end Px
end
section
namespace Px
open Go Go.RowKit
section
variable{V:TE}{N:Env V}{R:Type}{r:R}{C:Cx N.P}{A:Asg}{s:SS V.T}{cur:Ch}
theorem ya4[Dr](hc:chP s.gb cur)(hkn:chP s.gb s.kn):∀{os:List Operand}{l:List (SV V.T)},zf.capsX V s.sl (cur++s.kn) os=some l->
  ∀a ro w,za (s.st V N.P A).slots a ro w->(os.map a.eval).length =(denV V N.P A l).length/\∀(i:Nat)(B:VP),(denV V N.P A l)[i]? = some B->B.h ro w ((os.map a.eval).getD i undef)
 | [],l,h,a,ro,w,_=>by simp[zf.capsX] at h;subst h;simp[denV]
 |o::os,l,h,a,ro,w,hs=>by
  simp only[zf.capsX] at h;cases h1:evO s.sl (cur++s.kn) o with
  |none=>rw[h1] at h;cases h
  |some x=>
   rw[h1] at h;cases h2:zf.capsX V s.sl (cur++s.kn) os with
   |none=>simp only[h2] at h;cases h
   |some m=>
    simp only[h2,w01] at h;subst h;obtain⟨e1,e2⟩:=ya4 hc hkn h2 a ro w hs;refine⟨by simp[denV] at e1⊢;exact e1,λi B hB=>?_⟩;cases i with
    |zero=>simp[denV] at hB;subst hB;exact evO2 hkn hc h1 a ro w hs
    |succ i=>simpa using e2 i B (by simpa[denV] using hB)
theorem ycn[Dr]{P:Program}{C:Cx P}{s:St}{dst:Option Tmp}{ty:TypeId}{pos:String}{after:Array Edge}{guard:Option (Nat×Bool)}{f:FuncId}{first caps:Array Operand}{Xs:List VP}(hf:first.isEmpty=true)
  (h:∀a ro w,za s.slots a ro w->(caps.toList.map a.eval).length=Xs.length/\∀(i:Nat)(B:VP),Xs[i]? = some B->B.h ro w ((caps.toList.map a.eval).getD i undef)) :
  OpQ C ⟨dst,.makeFunc (.func f) first caps,ty,pos,after,guard⟩ s (fnc f Xs):=
 .val λa ro w hs=>by
  obtain⟨e1,e2⟩:=h a ro w hs;have:first = #[]:=by simpa using hf
  subst this;refine⟨.func (.func f) #[] (caps.map a.eval),by simp[execOp,Instr.makeFunc],caps.map a.eval,rfl,by simpa using e1,λi B hB=>?_⟩;have:=e2 i B hB;simpa[w07,w1t] using this
theorem y53[Dr](hc:chP s.gb cur)(hkn:chP s.gb s.kn){k:IntKind}: ∀{os:List Operand}{l:List Int},y8q s.sl (cur++s.kn) k os=some l->zt6 (s.st V N.P A) k os l
 | [],l,h=>by simp[y8q] at h;subst h;trivial
 |o::os,l,h=>by
  simp only[y8q] at h;split at h
  .rename_i k' n h1;split at h
   .rename_i e;subst e;split at h
    .rename_i m h2;simp only[w01] at h;subst h;exact⟨evO2 hkn hc h1,y53 hc hkn h2⟩
    .cases h
   .cases h
  .cases h
theorem zm7{P:Program}{ts:Array TypeId}(h:zf.isSl1 P ts=true):∃t,ts = #[t]/\isSl P t=true:=by
 unfold zf.isSl1 at h;split at h
 .rename_i t ht;exact⟨t,by cases ts;simp at ht;rw[ht],h⟩
 .cases h
theorem ybi{P:Program}{ts:Array TypeId}(h:zf.isStr1 P ts=true):∃t,ts = #[t]/\P.underlying t=some .string:=by
 unfold zf.isStr1 at h;split at h
 .rename_i t ht;split at h
  .rename_i hu;exact⟨t,by cases ts;simp at ht;rw[ht],hu⟩
  .cases h
 .cases h
theorem yjq[Dr]{P:Program}{C:Cx P}{s:St}{dst:Option Tmp}{ty:TypeId}{pos:String}{after:Array Edge}{guard:Option (Nat×Bool)}{j E c:Nat}{t:TypeId}{x i:Operand}{l:List (V.T c)}{sv:Value}{k:IntKind}{m:Int}
  (ht:tidx P t=some (false,0,V.sz c)) (h:Ev s x (eqv sv)) (ho:s.objs[j]? = some (row E (V.ev c) (V.sz c) l sv)) (hi:Ev s i (iv k m)) (h0:0<=m) (h1:m<(l.length:Int)) :
  OpQ C ⟨dst,.indexAddr t x i,ty,pos,after,guard⟩ s (eltp sv m (m.toNat*V.sz c)):=
 .valO λa r S w hw hs=>by
  have h2:=hi a r w hs;have h3:=h a r w hs;simp only[iv,eqv] at h2 h3;rcases hw.obj j _ ho with⟨_,rfl⟩|⟨g,cap,cur,hv,hS,hcur,hl,hm,hsz,hh⟩
  .simp at h1;omega
  .exact⟨_,by simp only[execOp,h3,hv,h2,w06,zjd w ht h0 h1,w18];rfl,g,_,cap,hv,rfl,h0,h1⟩
theorem yfb[Dr]{P:Program}{C:Cx P}{s:St}{dst:Option Tmp}{ty:TypeId}{pos:String}{after:Array Edge}{guard:Option (Nat×Bool)}{j E c:Nat}{t:TypeId}{x i:Operand}{l:List (V.T c)}{sv:Value}{k:IntKind}{m:Int}
  (ht:tidx P t=some (false,0,V.sz c)) (h:Ev s x (eqv sv)) (ho:ObIs s.objs j (row E (V.ev c) (V.sz c) l sv)) (hi:Ev s i (iv k m)) (h0:0<=m) (h1:m<(l.length:Int)) :
  OpQ C ⟨dst,.indexAddr t x i,ty,pos,after,guard⟩ s (eltp sv m (m.toNat*V.sz c)):=
 .valO λa r S w hw hs=>by
  have h2:=hi a r w hs;have h3:=h a r w hs;simp only[iv,eqv] at h2 h3;rcases ObIs.at hw ho with⟨_,rfl⟩|⟨g,cap,cur,hv,hS,hcur,hl,hm,hsz,hh⟩
  .simp at h1;omega
  .exact⟨_,by simp only[execOp,h3,hv,h2,w06,zjd w ht h0 h1,w18];rfl,g,_,cap,hv,rfl,h0,h1⟩
theorem ymq[Dr]{P:Program}{C:Cx P}{s:St}{dst:Option Tmp}{ty:TypeId}{pos:String}{after:Array Edge}{guard:Option (Nat×Bool)}{α:Type}{E:TypeId}{e:α->List VP}{sz:Nat}{l:List α}{sv:Value}(j:Nat){t:TypeId}{x:Operand}(ht:isSl P t=true)(h:Ev s x (eqv sv))(ho:ObIs s.objs j (row E e sz l sv)):
  OpQ C ⟨dst,.call { callee:=.builtin .len,args:=#[x],argTypes:=#[t] },ty,pos,after,guard⟩ s (iv .i64 l.length):=
 .valO λa r S w hw hs=>by
  have h3:=h a r w hs;simp only[eqv] at h3;rcases ObIs.at hw ho with⟨hv,rfl⟩|⟨g,cap,cur,hv,_⟩
  .exact⟨_,z7v (by rw[h3,hv];exact zae w ht),rfl⟩
  .exact⟨_,z7v (by rw[h3,hv];exact zae w ht),rfl⟩
theorem ydj{P:Program}{t:TypeId}{n e:Nat}(h:tidx P t=some (false,n,e)):n=0:=by
 unfold tidx at h;split at h
 .rename_i n' e' hu;cases hi:P.info? e' with
  |none=>rw[hi] at h;simp at h
  |some i=>rw[hi] at h;simp at h
 .rename_i e' hu;cases hi:P.info? e' with
  |none=>rw[hi] at h;simp at h
  |some i=>rw[hi] at h;simp at h;omega
 .cases h
theorem yi9(m:Int)(k:Nat):scl m k=m.toNat*k:=by
 unfold scl;cases h:Nat.beq k 1 with
 |false=>rfl
 |true=>have:=w02 h;subst this;simp
theorem ybb[Dr]{P:Program}{C:Cx P}{s:St}{dst:Option Tmp}{ty:TypeId}{pos:String}{after:Array Edge}{guard:Option (Nat×Bool)}{t:TypeId}{x i:Operand}{k:IntKind}{m:Int}{n e b off:Nat}{F:Prop}
  (ht:tidx P t=some (true,n,e)) (hx:Ev s x ⟨λ_ _ v=>F/\v = .pointer (some ⟨b,off,none⟩),λ_ _ h=>h⟩) (hi:Ev s i (iv k m)) (h0:0<=m) (h1:m<(n:Int)) {F':Prop} (hF:F->F') {off':Nat} (ho:off'=off+m.toNat*e) :
  OpQ C ⟨dst,.indexAddr t x i,ty,pos,after,guard⟩ s ⟨λ_ _ v=>F'/\v = .pointer (some ⟨b,off',none⟩),λ_ _ h=>h⟩:=
 .val λa r w hs=>by
  have h2:=hi a r w hs;obtain⟨hf,h3⟩:=hx a r w hs;simp only[iv,eqv] at h2;subst ho;exact⟨_,by simp only[execOp,h3,h2,w06,zrt w ht h0 h1];rfl,hF hf,rfl⟩
theorem ykg[Dr]{s:St}{dst:Option Tmp}{pos:String}{after:Array Edge}{guard:Option (Nat×Bool)}{f:FuncId}{fo:Operand}{as:Array Operand}{ts:Array TypeId}{ty:TypeId}{Xs Ys args:List VP}{x:VP}(hf:FnOK N.P f)(hfo:Ev s fo (fnc f Xs))(hX:zpq C s Xs Ys)(ha:y0b C s as.toList args)
  (h:zk2 N.P f (args++Ys) λy news=>y=x/\news = []) (hx:x.flat):OpQ C ⟨dst,.call { callee:=.value fo,args:=as,argTypes:=ts },ty,pos,after,guard⟩ s x:=by
 intro a w r S Q hd hn hw hs;obtain⟨fn,h1,h2,h3⟩:=hf;obtain⟨caps,hv,hl,hc⟩:=hfo a r w hs;obtain⟨e1,e2⟩:=ha.ok hw hs;obtain⟨e3,e4⟩:=hX.ok;unfold Oper.wp;have hrun :(execOp a.eval ⟨dst,.call { callee:=.value fo,args:=as,argTypes:=ts },ty,pos,after,guard⟩).run N.P w = .ok (.enter f (as.map a.eval++caps)) w:=by simp[execOp,Go.resolve,hv,Deferred.ofValue,invoke,z27 h1 h2 h3]
 rw[hrun,Oper.upon_enter];have hsz:as.size=args.length:=by simpa using e1
 refine(h (λb=>b<w.heap.size) w _ (λ_ h=>h) (by simp[hsz,hl,e3]) λi A hi=>?_).mono ?_
 .rw[w1w] at hi;split at hi
  .rename_i hlt;have:=e2 i A hi;have hlt':i<as.size:=by omega
   simpa[w07,w1b,hlt',w1c] using this
  .rename_i hge;obtain⟨B,hB,hBA⟩:=e4 _ A hi;have:=A.mono (λ_ hb=>hw.all hb) (λ_ _=>rfl) (hBA r S w _ hw (hc _ B hB));have hge':¬i<args.length:=by omega
   simpa[w07,w1b,hge',hsz] using this
 .rintro e w' ⟨v,X,news,r',S',rfl,he,hw',hxv,rfl,rfl⟩;exact⟨v,r,_,_,_,rfl,⟨λ_ h=>h,λb hb=>he.2.1 b (hw.old b hb),λ_ h=>.inl h⟩,hw.join hw' r (λ_ h=>h) (λb hb=>.inl hb) (λi H hi=>by simp at hi),hx _ _ _ _ _ hxv,rfl,by simp⟩
theorem yg1[Dr]{s:St}{dst:Option Tmp}{pos:String}{after:Array Edge}{guard:Option (Nat×Bool)}{f:FuncId}{fo:Operand}{as:Array Operand}{ts:Array TypeId}{ty:TypeId}{Xs args:List VP}{K K':VP->List HP->Prop}(hf:FnOK N.P f)(hfo:Ev s fo (fnc f Xs))(ha:Args s as.toList args)
  (h:zk2 N.P f (args++Xs) K') (k:∀x news,K' x news->K x (s.objs++news)):OpT C ⟨dst,.call { callee:=.value fo,args:=as,argTypes:=ts },ty,pos,after,guard⟩ s K:=by
 intro a w r S Q hd hn hw hs;obtain⟨fn,h1,h2,h3⟩:=hf;obtain⟨caps,hv,hl,hc⟩:=hfo a r w hs;obtain⟨e1,e2⟩:=ha.ok hs;unfold Oper.wp;have hrun :(execOp a.eval ⟨dst,.call { callee:=.value fo,args:=as,argTypes:=ts },ty,pos,after,guard⟩).run N.P w = .ok (.enter f (as.map a.eval++caps)) w:=by simp[execOp,Go.resolve,hv,Deferred.ofValue,invoke,z27 h1 h2 h3]
 rw[hrun,Oper.upon_enter];have hsz:as.size=args.length:=by simpa using e1
 refine(h r w _ hw.old (by simp[hsz,hl]) λi A hi=>?_).mono ?_
 .rw[w1w] at hi;split at hi
  .rename_i hlt;have:=e2 i A hi;have hlt':i<as.size:=by omega
   simpa[w07,w1b,hlt',w1c] using this
  .rename_i hge;have:=hc _ A hi;have hge':¬i<args.length:=by omega
   simpa[w07,w1b,hge',hsz] using this
 .rintro e w' ⟨v,x,news,r',S',rfl,he,hw',hx,hk⟩;refine⟨v,r',_,x,_,rfl,⟨he.1,he.2.1,λb hb=>(he.2.2 b hb).imp id (λq=>w2a hw.size q)⟩,hw.join hw' r' he.1 (λb hb=>?_) hw'.obj,hx,k _ _ hk⟩;rcases he.2.2 b hb with q|q
  .exact .inl q
  .exact .inr ⟨q,hb⟩
theorem ycy[Dr](hN:z7r V N)(hkn:chP s.gb s.kn){f t:Nat}{caps:List (SV V.T)}{as:Array Operand}{ts:Array TypeId}{ty:TypeId}{k:SV V.T->Option R}{sp:Csp V}(hsp:N.cl f=some sp)(hv:evO s.sl (cur++s.kn) (.tmp t)=some (.func f caps))
  (h :(bif sp.res.any zhu then none else(match decA V (bif sp.res.all (flR V) then rdSl s.ob else rdSl []) s.sl (cur++s.kn) sp.args as.toList,zki V (bif sp.res.all (flR V) then s.ob else []) sp.caps caps with
    |some a,some b=>bif zf.fnok N.P f then zx7 s.gb cur (zR V sp.res) (sp.F a b) λr=>k (resV V (encR V 0 sp.res r)) else none
    |_,_=>none))=some r):∃v,k v=some r/\QOK V N.P C A s cur (.call { callee:=.value (.tmp t),args:=as,argTypes:=ts }) ty v:=by
 cases h1:sp.res.any zhu with
 |true=>rw[h1] at h;cases h
 |false=>
  rw[h1] at h;simp only[cond_false] at h;split at h
  .rename_i a b h3 h5;cases h4:zf.fnok N.P f with
   |false=>rw[h4] at h;cases h
   |true=>
    rw[h4] at h;simp only[cond_true] at h;obtain⟨y,hy,hk⟩:=zx8 h;refine⟨_,hk,λhc dst pos after guard=>?_⟩;have hp:=hN.cl f sp hsp a b y (hy hc);have key:∀x news,Kres V N.P sp.res y x news->x =(resV V (encR V 0 sp.res y)).den V N.P A/\news = []:=by rintro x news ⟨B,hB,rfl,rfl⟩;obtain⟨e1,e2⟩:=zod V N.P (B:=B) 0 sp.res y h1;refine⟨zzv V N.P (e2 A).symm,?_⟩;rw[e1];cases B<;>rfl
    have hv':=evO2 (A:=A) (P:=N.P) hkn hc hv;simp only[SV.den] at hv';cases h2:sp.res.all (flR V) with
    |true=>rw[h2] at h3 h5;exact ykg (zaw N.P h4) hv' (zxa V N.P h5) (zly V N.P (z6t hc hkn) h3) (hp.mono key) (zv4 V N.P (zto V N.P 0 sp.res y h1 h2))
    |false=>
     rw[h2] at h3 h5;rw[y0y (A:=A) V N.P h5] at hv';refine yg1 (zaw N.P h4) hv' (zo9 V N.P (z6t hc hkn) h3) hp λx news hK=>?_
     obtain⟨h6,h7⟩:=key x news hK;exact⟨h6,by rw[h7,w09]⟩
  .cases h
theorem y94[Dr](hN:z7r V N)(hkn:chP s.gb s.kn){f:Nat}{as:Array Operand}{ts:Array TypeId}{ty:TypeId}{k:SV V.T->Option R}{sp:Fsp V}(hsp:N.fn f=some sp)
  (h :(bif sp.res.any zhu then none else(match decA V (rdQ V s.ob sp.res) s.sl (cur++s.kn) sp.args as.toList with
    |some a=>bif zf.fnok N.P f then zx7 s.gb cur (zR V sp.res) (sp.F a) λr=>k (resV V (encR V 0 sp.res r)) else none
    |none=>none))=some r):∃v,k v=some r/\QOK V N.P C A s cur (.call { callee:=.value (.func f),args:=as,argTypes:=ts }) ty v:=by
 cases h1:sp.res.any zhu with
 |true=>rw[h1] at h;cases h
 |false=>
  rw[h1] at h;simp only[cond_false] at h;split at h
  .rename_i a h3;cases h4:zf.fnok N.P f with
   |false=>rw[h4] at h;cases h
   |true=>
    rw[h4] at h;simp only[cond_true] at h;obtain⟨y,hy,hk⟩:=zx8 h;refine⟨_,hk,λhc dst pos after guard=>?_⟩;have hp:=hN.fn f sp hsp a y (hy hc);have key:∀x news,Kres V N.P sp.res y x news->x =(resV V (encR V 0 sp.res y)).den V N.P A/\news = []:=by rintro x news ⟨B,hB,rfl,rfl⟩;obtain⟨e1,e2⟩:=zod V N.P (B:=B) 0 sp.res y h1;refine⟨zzv V N.P (e2 A).symm,?_⟩;rw[e1];cases B<;>rfl
    cases h2:sp.res.all (flR V) with
    |true=>unfold rdQ at h3;rw[h2] at h3;exact ykh (zaw N.P h4) (zly V N.P (z6t hc hkn) h3) (hp.mono key) (zv4 V N.P (zto V N.P 0 sp.res y h1 h2))
    |false=>
     unfold rdQ at h3;rw[h2] at h3;cases h7:sp.res.all (sepR V) with
     |true=>rw[h7] at h3;exact yke N.P (zaw N.P h4) (zwl V N.P (z6t hc hkn) h3) (λr S w hw=>yat V N.P hw) (hp.mono key) (ygq V N.P (y6x V N.P 0 sp.res y h1 h7))
     |false=>
     rw[h7] at h3;refine ycg (zaw N.P h4) (zo9 V N.P (z6t hc hkn) h3) hp λx news hK=>?_
     obtain⟨h5,h6⟩:=key x news hK;exact⟨h5,by rw[h6,w09]⟩
  .cases h
end
section xo
variable{V:TE}{P:Program}{C:Cx P}{A:Asg}{s:SS V.T}
theorem yc4[Dr]{j E E2 c:Nat}{l:List (V.T c)}{h:Option (Int×Nat)}{q:Nat×Value}(ha:A[j]? = some q)(ho:s.ob[j]? = some (.x (.nst E E2 c l h))):ObIs (s.st V P A).objs j (nst E (V.inn E2 c) l (zkx A h) q.2):=⟨_,zg V P ha ho,λ_ _ _ h=>h.2⟩
theorem y7l[Dr]{j kc vc E:Nat}{m:List (V.T kc×V.T vc)}{hh:Option (V.T kc×Nat)}{q:Nat×Value}(ha:A[j]? = some q)(ho:s.ob[j]? = some (.x (.map kc vc E m hh))):ObIs (s.st V P A).objs j (nmp q.1 (V.kl kc) (V.kv kc) (V.inm E vc) m (ze8 A hh)):=⟨_,zg V P ha ho,λ_ _ _ h=>h.2⟩
theorem y2b{E c:Nat}(h:zfa (V.d c)=true):V.inm E c=plI (V.kv c):=by funext x v;unfold TE.inm TE.kv plI;generalize (λc=>kvS (V.d c))=g;revert x h;generalize V.d c=d;revert d;generalize V.T c=α;intro d h x;cases d<;>first|rfl|simp[zfa] at h
theorem ylz[Dr]{j E c:Nat}{l:List (V.T c)}{q:Nat×Value}{o:Oper}{K:VP->List HP->Prop}(ha:A[j]? = some q)(ho:s.ob[j]? = some (.x (.fix E c l)))(h:y54 (V.d c)=true/\exSl q.2->OpT C o (s.st V P A) K):OpT C o (s.st V P A) K:=λa w ro S Q hd hn hw hs=>h (hw.obj j _ (zg V P ha ho)).1 a w ro S Q hd hn hw hs
theorem yi0[Dr]{j E E2 c:Nat}{l:List (V.T c)}{hh:Option (Int×Nat)}{q:Nat×Value}{o:Oper}{K:VP->List HP->Prop}(ha:A[j]? = some q)(ho:s.ob[j]? = some (.x (.nst E E2 c l hh)))
  (h:y2c (V.d c)=true/\(∀k j,hh=some (k,j)->(A[j]?).isSome=true)->OpT C o (s.st V P A) K):OpT C o (s.st V P A) K:=
 λa w ro S Q hd hn hw hs=>h (hw.obj j _ (zg V P ha ho)).1 a w ro S Q hd hn hw hs
theorem y7d{ts:Array TypeId}(h:zf.isMp1 P ts=true):∃t kt et,ts = #[t]/\P.underlying t=some (.map kt et):=by
 unfold zf.isMp1 at h;split at h
 .rename_i t ht;split at h
  .rename_i kt et hu;exact⟨t,kt,et,by cases ts;simp at ht;rw[ht],hu⟩
  .cases h
 .cases h
theorem zu0{N:Env V}{t kc et:Nat}(h:keyT V N t kc=some et):∃kt,N.P.underlying t=some (.map kt et)/\keyE N.P V.d kt (V.d kc) (N.P.underlying kt)=true:=by
 unfold keyT at h;split at h
 .rename_i kt et' hu;cases hb:keyE N.P V.d kt (V.d kc) (N.P.underlying kt) with
  |false=>rw[hb] at h;cases h
  |true=>rw[hb] at h;simp only[cond_true,w01] at h;subst h;exact⟨kt,hu,hb⟩
 .cases h
theorem yek{r:Nat->Prop}{w:World}{l us:List Value}(h:ze r w (l.map eqv) us):us=l:=by
 refine w46 λi=>?_
 have hl:=h.1;rw[w10] at hl;by_cases hi:i<l.length
 .obtain⟨u,hu,hA,_⟩:=h.2 i (eqv l[i]) (by simp[hi]);simp only[eqv] at hA;rw[hu,hA];simp[hi]
 .rw[w26 (by omega),w26 (by omega)]
theorem y9y{l:List Value}: Ent (Px.agg (l.map eqv)) (eqv (.agg l.toArray)):=by rintro r w v ⟨vs,rfl,hh⟩;simp only[eqv];rw[<- yek hh]
theorem yam{l:List Value}(h:∀v∈l,∃q n,v = .int q n):Ent (eqv (.agg l.toArray)) (Px.agg (l.map eqv)):=by rintro r w v hv;simp only[eqv] at hv;subst hv;refine⟨l.toArray,rfl,?_⟩;exact znb (by rw[w0l];intro v hv;obtain⟨q,n,rfl⟩:=h v (by simpa using hv);rfl)
theorem y4z{c:Nat}(h:y8r (V.d c)=true):∃q,∀y:V.T c,kvS (V.d c) y = .int q (klS (V.d c) y)/\V.ev c y = [eqv (.int q (klS (V.d c) y))]:=by
 have hev:=λy=>V.ev_eq c y
 revert h hev;generalize V.ev c=e;generalize V.d c=d;revert e d;generalize V.T c=α;intro e d h hev;cases d with
 |int q=>exact⟨q,λy=>⟨rfl,hev y⟩⟩
 |_=>simp[y8r] at h
theorem zxz{T:Nat->Type}{α:Type}{d:Ds T α}{u:Option TypeDesc}(h:keyD d u=true):y8r d=true/\∃q,u=some (.int q)/\∀y,kvS d y = .int q (klS d y):=by
 cases d with
 |int q=>
  cases u with
  |none=>simp[keyD] at h
  |some u=>cases u<;>simp[keyD] at h;subst h;exact⟨rfl,_,rfl,λy=>rfl⟩
 |_=>cases u<;>simp[keyD] at h
theorem y03:∀{fs:List Nat},fs.all (λc=>y8r (V.d c))=true->∃qs:List IntKind,∀x:Tup V.T fs,kvT (λc=>kvS (V.d c)) fs x=zipI qs (klT (λc=>klS (V.d c)) fs x)/\evT V.ev fs x =(zipI qs (klT (λc=>klS (V.d c)) fs x)).map eqv
 | [],_=>⟨[],λ_=>⟨rfl,rfl⟩⟩
 |c::cs,h=>by simp only[w1a,w04] at h;obtain⟨q,hq⟩:=y4z h.1;obtain⟨qs,hqs⟩:=y03 h.2;refine⟨q::qs,λx=>?_⟩;obtain⟨h1,h2⟩:=hq x.1;obtain⟨h3,h4⟩:=hqs x.2;exact⟨by simp only[kvT,klT,zipI,h1,h3],by simp only[evT,klT,zipI,h2,h4,w0i];rfl⟩
theorem y61:∀{fs:List Nat}{l:List Field}{o:Nat},y55 P V.d fs l o=true->fs.all (λc=>y8r (V.d c))=true/\∃qs:List IntKind,zq8 P qs l o=true/\∀x:Tup V.T fs,kvT (λc=>kvS (V.d c)) fs x=zipI qs (klT (λc=>klS (V.d c)) fs x)/\(klT (λc=>klS (V.d c)) fs x).length=qs.length
 | [],[],_,_=>⟨rfl,[],rfl,λ_=>⟨rfl,rfl⟩⟩
 |c::cs,f::fs,o,h=>by
  simp only[y55,w04] at h;obtain⟨⟨⟨⟨h1,h2⟩,h3⟩,h4⟩,h5⟩:=h;obtain⟨k1,q,k2,k3⟩:=zxz h3;obtain⟨k4,qs,k5,k6⟩:=y61 h5;refine⟨by simp only[w1a,k1,k4,w49],q::qs,?_,λx=>?_⟩
  .unfold zq8;rw[h1,h2,k2,k5];simp only[decide_true,w1o,Bool.and_true];exact h4
  .exact⟨by simp only[kvT,klT,zipI,k3,(k6 x.2).1],by simp only[klT,w0m,(k6 x.2).2]⟩
 | [],_::_,_,h=>by simp[y55] at h
 |_::_,[],_,h=>by simp[y55] at h
theorem y7e{n c kt:Nat}{u:Option TypeDesc}(h:keyE P V.d kt (.arr n c) u=true):∃e,u=some (.array n e)/\keyD (V.d c) (P.underlying e)=true/\z60 P e=some (false,1):=by
 cases u with
 |none=>simp[keyE,keyD] at h
 |some u=>
  cases u<;>simp only[keyE,keyD,w0a] at h;rename_i m e;simp only[w04] at h;have e1:=w02 h.1.1;subst e1;refine⟨e,rfl,h.1.2,?_⟩;have h2:=h.2;split at h2
  .assumption
  .cases h2
theorem ybk{fs:List Nat}{α:Type}{mk:Tup V.T fs->α}{un:α->Tup V.T fs}{law:∀t,un (mk t)=t}{kt:Nat}{u:Option TypeDesc}(h:keyE P V.d kt (.st fs mk un law) u=true):∃l,u=some (.struct l)/\P.stoodInHeld kt=false/\y55 P V.d fs l.toList 0=true:=by
 cases u with
 |none=>simp[keyE,keyD] at h
 |some u=>cases u<;>simp only[keyE,keyD,w0a] at h;simp only[w04,w0z] at h;exact⟨_,rfl,h.1,h.2⟩
theorem yfk{c kt:Nat}{u:Option TypeDesc}(h:keyE P V.d kt (V.d c) u=true):V.key c=true:=by
 unfold TE.key;revert h;generalize V.d c=d;revert d;generalize V.T c=α;intro d h;cases d with
 |int q=>rfl
 |arr n c'=>obtain⟨e,_,hk,_⟩:=y7e h;exact(zxz hk).1
 |st fs mk un law=>obtain⟨l,_,_,hk⟩:=ybk h;exact(y61 hk).1
 |bool=>simp[keyE,keyD] at h
 |str=>simp[keyE,keyD] at h
 |sl c'=>simp[keyE,keyD] at h
 |map kc vc=>simp[keyE,keyD] at h
theorem ybl{c:Nat}(h:V.key c=true)(x:V.T c):Ent (V.vl c x) (eqv (V.kv c x))/\Ent (eqv (V.kv c x)) (V.vl c x):=by
 unfold TE.key at h;unfold TE.vl TE.kv;have hev:=V.ev_eq c x;revert x h;generalize V.ev c=e;generalize V.d c=d;revert e d;generalize V.T c=α;intro e d h x hev;cases d with
 |int q=>exact⟨Ent.refl,Ent.refl⟩
 |arr n c'=>
  obtain⟨q,hq⟩:=y4z (V:=V) (c:=c') h;have h2:Px.arr n (V.ev c') x =((List.range n).map λj=>kvS (V.d c') (x j)).map eqv:=by
   unfold Px.arr;generalize List.range n=l
   induction l with
   |nil=>rfl
   |cons j l ih=>rw[w16,ih,(hq _).2,w0i,w0i,(hq _).1];rfl
  show Ent (Px.agg (e x)) (eqv (.agg ((List.range n).map λj=>kvS (V.d c') (x j)).toArray))/\Ent (eqv (.agg ((List.range n).map λj=>kvS (V.d c') (x j)).toArray)) (Px.agg (e x));rw[hev];show Ent (Px.agg (Px.arr n (V.ev c') x)) _/\Ent _ (Px.agg (Px.arr n (V.ev c') x));rw[h2];exact⟨y9y,yam λv hv=>by obtain⟨j,_,rfl⟩:=w0f.1 hv;exact⟨_,_,(hq _).1⟩⟩
 |st fs mk un law=>obtain⟨qs,hq⟩:=y03 (V:=V) (fs:=fs) h;show Ent (Px.agg (e x)) (eqv (.agg (kvT (λc=>kvS (V.d c)) fs (un x)).toArray))/\Ent (eqv (.agg (kvT (λc=>kvS (V.d c)) fs (un x)).toArray)) (Px.agg (e x));rw[hev];show Ent (Px.agg (evT V.ev fs (un x))) _/\Ent _ (Px.agg (evT V.ev fs (un x)));rw[(hq _).2,(hq _).1];exact⟨y9y,yam (y0a _ _)⟩
 |bool=>simp[keyF] at h
 |str=>simp[keyF] at h
 |sl c'=>simp[keyF] at h
 |map kc vc=>simp[keyF] at h
theorem y3y{c kt:Nat}{x:V.T c}{u:Option TypeDesc}(h:keyE P V.d kt (V.d c) u=true):Ent (V.vl c x) (eqv (V.kv c x)):=(ybl (yfk h) x).1
theorem ym8{c:Nat}(h:V.key c=true)(a b:V.T c)(hk:V.kl c a=V.kl c b):V.kv c a=V.kv c b:=by
 unfold TE.key at h;unfold TE.kl at hk;unfold TE.kv;revert a b h;generalize V.d c=d;revert d;generalize V.T c=α;intro d h a b hk;cases d with
 |int q=>simp only[klF,klS,w20,and_true] at hk;rw[hk]
 |arr n c'=>
  obtain⟨q,hq⟩:=y4z (V:=V) (c:=c') h;show Value.agg ((List.range n).map λj=>kvS (V.d c') (a j)).toArray=Value.agg ((List.range n).map λj=>kvS (V.d c') (b j)).toArray;have e1:∀f:Nat->V.T c',((List.range n).map λj=>kvS (V.d c') (f j)) =((List.range n).map λj=>klS (V.d c') (f j)).map (Value.int q):=λf=>by rw[w41];exact w4p λj _=>(hq _).1
  have hk :((List.range n).map λj=>klS (V.d c') (a j)) =(List.range n).map λj=>klS (V.d c') (b j):=hk
  rw[e1,e1,hk]
 |st fs mk un law=>obtain⟨qs,hq⟩:=y03 (V:=V) (fs:=fs) h;show Value.agg (kvT (λc=>kvS (V.d c)) fs (un a)).toArray=Value.agg (kvT (λc=>kvS (V.d c)) fs (un b)).toArray;have hk:klT (λc=>klS (V.d c)) fs (un a)=klT (λc=>klS (V.d c)) fs (un b):=hk;rw[(hq _).1,(hq _).1,hk]
 |bool=>simp[keyF] at h
 |str=>simp[keyF] at h
 |sl c'=>simp[keyF] at h
 |map kc vc=>simp[keyF] at h
theorem zg5{kt c:Nat}(h:keyE P V.d kt (V.d c) (P.underlying kt)=true):KeyC P kt (V.kl c) (V.kv c):=by
 have e1:V.kv c=λx=>kvF (λc=>kvS (V.d c)) (V.d c) x:=rfl
 have e2:V.kl c=λx=>klF (λc=>klS (V.d c)) (V.d c) x:=rfl
 rw[e1,e2];clear e1 e2;revert h;generalize V.d c=d;revert d;generalize V.T c=α;intro d h;cases d with
 |int q=>simp only[keyE] at h;obtain⟨_,q',hu,_⟩:=zxz h;rw[hu] at h;simp only[keyD,decide_eq_true_eq] at h;subst h;exact yfj hu
 |arr n c'=>
  obtain⟨e',hu,hk,hE⟩:=y7e h;obtain⟨_,q,hq,_⟩:=zxz hk;rw[hq] at hk;show KeyC P kt (λf:Nat->V.T c'=>(List.range n).map λj=>klS (V.d c') (f j)) (λf=>.agg ((List.range n).map λj=>kvS (V.d c') (f j)).toArray);revert hk;generalize V.d c'=d;revert d;generalize V.T c'=β;intro d hk;cases d with
  |int q'=>simp only[keyD,decide_eq_true_eq] at hk;subst hk;exact yfi hu hq hE
  |_=>simp[keyD] at hk
 |st fs mk un law=>
  obtain⟨l,hu,hs,hk⟩:=ybk h;obtain⟨_,qs,hq,hx⟩:=y61 hk;have:=yk1 (e:=λx=>klT (λc=>klS (V.d c)) fs (un x)) hu hs hq (λx=>(hx _).2);have e3 :(λx=>Value.agg (zipI qs (klT (λc=>klS (V.d c)) fs (un x))).toArray)=λx=>kvF (λc=>kvS (V.d c)) (.st fs mk un law) x:=funext λx=>by show _=Value.agg (kvT (λc=>kvS (V.d c)) fs (un x)).toArray;rw[(hx _).1]
  rw[<- e3];exact this
 |bool=>simp[keyE,keyD] at h
 |str=>simp[keyE,keyD] at h
 |sl c'=>simp[keyE,keyD] at h
 |map kc vc=>simp[keyE,keyD] at h
theorem y68{vc:Nat}{z:Value}(h:V.zok vc z=true):Ent (eqv z) (V.vl vc (V.z vc)):=by
 unfold TE.zok at h;unfold TE.vl;generalize V.ev vc (V.z vc)=l;revert h;generalize V.z vc=y;generalize V.d vc=d;revert y d;generalize V.T vc=α;intro y d h;cases d with
 |int q=>have:=(zt8 h).1;subst this;exact Ent.refl
 |bool=>have:=(zt8 h).1;subst this;exact Ent.refl
 |str=>have:=(zt8 h).1;subst this;exact Ent.refl
 |sl c=>
  simp only[zokD,w04] at h;have hy:y = []:=w4d.1 h.2;subst hy;have hz:z = .slice none 0 0:=by
   have:=h.1;unfold yho at this;split at this
   .rfl
   .cases this
  subst hz;exact Ent.nil
 |map kc vc=>
  simp only[zokD,w04] at h;have hy:y = []:=w4d.1 h.2;subst hy;have hz:z = .map none:=by
   have:=h.1;unfold yhn at this;split at this
   .rfl
   .cases this
  subst hz;exact zr5
 |arr n c=>simp[zokD] at h
 |st fs mk un law=>simp[zokD] at h
theorem yg6[Dr]{dst:Option Tmp}{ty:TypeId}{pos:String}{after:Array Edge}{guard:Option (Nat×Bool)}{s:St}{t E:TypeId}{n:Nat}{x i:Operand}{k:IntKind}{m:Int}{l:List VP}{B:VP}(ht:tarr P t=some (n,E))(hE:z60 P E=some (false,1))(h:Ev s x (agg l))(hi:Ev s i (iv k m))
  (hl:l[m.toNat]? = some B) (h0:0<=m) (h1:m<n):OpQ C ⟨dst,.index t x i,ty,pos,after,guard⟩ s B:=
 .val λa r w hs=>by
  have h2:=hi a r w hs;simp only[iv,eqv] at h2;obtain⟨vs,hx,hh⟩:=h a r w hs;obtain⟨u,hu,hAu,_⟩:=hh.2 _ _ hl;have hp:=zpk (vs:=vs) (off:=m.toNat*1) (u:=u) w hE (by simpa using hu);exact⟨u,by simp only[execOp,Instr.index,hx,h2,w06,asIntOf,w0g,w05,run_underlying (zrf ht),if_pos (And.intro h0 h1),z9a w hE,hp],hAu⟩
theorem y5n[Dr]:∀{cs:List (SV V.T)}{i:Nat}{v:SV V.T},cs.all y7z=true->cs[i]? = some v->(denL V P A cs)[i]? = some (v.den V P A):=by
 intro cs
 induction cs with
 |nil=>intro i v _ h;simp at h
 |cons x cs ih=>
  intro i v hp h;simp only[w1a,w04] at hp;have e1:denL V P A (x::cs)=x.den V P A::denL V P A cs:=by cases x<;>first|rfl|simp[y7z] at hp
  rw[e1];cases i with
  |zero=>simp at h;subst h;rfl
  |succ i=>simpa using ih hp.2 (by simpa using h)
theorem yjo[Dr]{dst:Option Tmp}{ty:TypeId}{pos:String}{after:Array Edge}{guard:Option (Nat×Bool)}{p:SV V.T}{m q:Int}{j:Nat}{t:TypeId}{x:Operand}(hh:zrk V s p=some (m,q,j))(ht:z60 P t=some (false,1))(hq:m=q)
  (hx:Ev (s.st V P A) x (p.den V P A)):OpQ C ⟨dst,.load t x,ty,pos,after,guard⟩ (s.st V P A) ((SV.own j:SV V.T).den V P A):=by
 unfold zrk at hh;split at hh
 .rename_i i m' z;split at hh
  .rename_i E E2 c l q' j' ho;cases hb:Nat.beq z 1 with
   |false=>rw[hb] at hh;cases hh
   |true=>
    rw[hb] at hh;simp only[cond_true,w01,w0e] at hh;obtain⟨rfl,rfl,rfl⟩:=hh;have hz:=w02 hb;subst hz;subst hq;simp only[SV.den] at hx⊢;cases ha:A[i]? with
    |none=>rw[ha] at hx;exact z8l P hx
    |some p=>
     rw[ha] at hx;refine yi0 ha ho λhp=>?_
     obtain⟨p2,hp2⟩:=w17.1 (hp.2 _ _ rfl);rw[hp2];have hi:=yc4 (P:=P) ha ho;simp only[zkx,hp2] at hi;refine ycm ht (yn4 (hx.ent' ?_) hi);rintro r w v ⟨g,n,cap,h1,h2,_⟩;exact⟨g,n,cap,h1,by simpa using h2⟩
  .cases hh
 .cases hh
end xo
end Px
end
section
namespace Px
open Go Go.RowKit
section
variable{V:TE}{N:Env V}{R:Type}{r:R}{C:Cx N.P}{A:Asg}{s:SS V.T}{cur:Ch}
theorem ymk{V:TE}{c:Nat}(h:z8k (V.d c)=false)(y:V.T c):One (V.vl c y):=by
 unfold TE.vl;generalize V.ev c y=l0;revert y h;generalize V.d c=d;revert d;generalize V.T c=α;intro d h y;cases d<;>simp[z8k] at h<;>simp only[vlF]
 .exact One.eqv rfl
 .exact One.eqv rfl
 .exact One.eqv rfl
 .exact One.ro
 .exact λr w v h=>by rcases h with⟨rfl,_⟩|⟨b,t,rfl,_⟩<;>rfl
theorem yei{V:TE}{s:St}{c:Nat}{x:Operand}{y:V.T c}(h:Ev s x (V.vl c y)):Ce s x (V.ev c y):=by
 cases hag:z8k (V.d c) with
 |true=>rw[zvd y hag] at h;exact Ce.agg h
 |false=>rw[zve y hag];exact Ce.one h (ymk hag y)
theorem zxj[Dr]{P:Program}{ch:Ch}(hkn:chP s.gb ch){c:Nat}: ∀{ps:List (Nat×Operand)}{n:Nat}{l:List (V.T c)},y4r V s.sl ch c n ps=some l->y9r (s.st V P A) (V.ev c) n ps l
 | [],n,l,h=>by simp[y4r] at h;subst h;trivial
 |(i,o)::ps,n,l,h=>by
  simp only[y4r] at h;cases hb:Nat.beq i n with
  |false=>rw[hb] at h;cases h
  |true=>
   rw[hb] at h;simp only[cond_true] at h;split at h
   .rename_i y hy;split at h
    .rename_i m hm;simp only[w01] at h;subst h;cases hx:evO s.sl ch o with
     |none=>rw[hx] at hy;cases hy
     |some x=>rw[hx] at hy;exact⟨w02 hb,yei (Ev.ent' (z0t V P hx hkn) (z8b V P hy)),zxj hkn hm⟩
    .cases h
   .cases h
theorem yf2[Dr](hkn:chP s.gb s.kn){t:TypeId}{x:Operand}{f:Nat}{ty:TypeId}{k:SV V.T->Option R}(h:zf V N s cur (.fieldAddr t x f) ty k=some r):∃v,k v=some r/\QOK V N.P C A s cur (.fieldAddr t x f) ty v:=by
 simp only[zf] at h;split at h
 .rename_i off i o hf hx;refine⟨_,h,λhc dst pos after guard=>?_⟩;have hx':=evO2 (A:=A) (P:=N.P) hkn hc hx;simp only[SV.den] at hx'⊢;cases ha:A[i]? with
  |none=>rw[ha] at hx';exact z8l N.P hx'
  |some q=>rw[ha] at hx';exact yg4 hf hx'
 .rename_i off i o m z idx cnt fo hf hx;refine⟨_,h,λhc dst pos after guard=>?_⟩;have hx':=evO2 (A:=A) (P:=N.P) hkn hc hx;simp only[SV.den] at hx'⊢;cases ha:A[i]? with
  |none=>rw[ha] at hx';exact z8l N.P hx'
  |some q=>
   rw[ha] at hx';refine .val λa ro w hs=>?_
   obtain⟨h1,h2⟩:=hx' a ro w hs;exact⟨.pointer (some ⟨q.1,o+idx*z+fo+off,none⟩),by simp[execOp,h2,zjc w hf],h1,by rw[w2b]⟩
 .rename_i off cs hf hx;split at h
  .rename_i l hl;refine⟨_,h,λhc dst pos after guard=>?_⟩;have hx':=evO2 (A:=A) (P:=N.P) hkn hc hx;simp only[SV.den] at hx'⊢;exact yg5 hf hx' (zfl V N.P cs off l hl).1.symm
  .cases h
 .rename_i off i j z fo hf hx;refine⟨_,h,λhc dst pos after guard=>?_⟩;have hx':=evO2 (A:=A) (P:=N.P) hkn hc hx;simp only[SV.den] at hx'⊢;cases ha:A[i]? with
  |none=>rw[ha] at hx';exact z8l N.P hx'
  |some q=>
   rw[ha] at hx';refine .val λa ro w hs=>?_
   obtain⟨g,n,cap,h1,h2,h3⟩:=hx' a ro w hs;exact⟨.pointer (some ⟨g,j.toNat*z+fo+off,none⟩),by simp[execOp,h2,zjc w hf],g,n,cap,h1,by rw[w2b],h3⟩
 .cases h
theorem ybc[Dr](hkn:chP s.gb s.kn){t:TypeId}{x i:Operand}{ty:TypeId}{k:SV V.T->Option R}(h:zf V N s cur (.indexAddr t x i) ty k=some r):∃v,k v=some r/\QOK V N.P C A s cur (.indexAddr t x i) ty v:=by
 simp only[zf] at h;split at h
 .-- what is only read
  rename_i n0 e c l q m ht hx hi;have hi:=zr hi;have hn:=ydj ht;subst hn;cases hb:Nat.beq e (V.sz c) with
  |false=>rw[hb] at h;cases h
  |true=>rw[hb] at h;have he:=w02 hb;subst he;obtain⟨hck,hk⟩:=z7i h;refine⟨_,hk,λhc dst pos after guard=>?_⟩;have hx':=evO2 (A:=A) (P:=N.P) hkn hc hx;have hi':=evO2 (A:=A) (P:=N.P) hkn hc hi;simp only[SV.den] at hx' hi'⊢;rw[z1b];exact yg7 ht hx' hi' (hck hc).1 (zm4 (hck hc))
 .-- a slice of the call's own
  rename_i n0 e j q m ht hx hi;have hi:=zr hi;have hn:=ydj ht;subst hn;split at h
  .rename_i E c l ho;cases hb:Nat.beq e (V.sz c) with
   |false=>rw[hb] at h;cases h
   |true=>
    rw[hb] at h;have he:=w02 hb;subst he;obtain⟨hck,hk⟩:=z7i h;refine⟨_,hk,λhc dst pos after guard=>?_⟩;have hx':=evO2 (A:=A) (P:=N.P) hkn hc hx;have hi':=evO2 (A:=A) (P:=N.P) hkn hc hi;simp only[SV.den] at hx' hi'⊢;cases ha:A[j]? with
    |none=>rw[ha] at hx';exact z8l N.P hx'
    |some q=>rw[ha] at hx';exact yjq ht hx' (zg V N.P ha ho) hi' (hck hc).1 (hck hc).2
  .rename_i E E2 c l hh ho;cases hb:Nat.beq e 1 with
   |false=>rw[hb] at h;cases h
   |true=>
    rw[hb] at h;have he:=w02 hb;subst he;obtain⟨hck,hk⟩:=z7i h;refine⟨_,hk,λhc dst pos after guard=>?_⟩;have hx':=evO2 (A:=A) (P:=N.P) hkn hc hx;have hi':=evO2 (A:=A) (P:=N.P) hkn hc hi;simp only[SV.den] at hx' hi'⊢;cases ha:A[j]? with
    |none=>rw[ha] at hx';exact z8l N.P hx'
    |some q=>rw[ha] at hx';have h9:=yjr (C:=C) (dst:=dst) (ty:=ty) (pos:=pos) (after:=after) (guard:=guard) ht hx' (yc4 ha ho) hi' (hck hc).1 (hck hc).2;simpa[eltp] using h9
  .rename_i E c l ho;cases hb:Nat.beq e (V.sz c) with
   |false=>rw[hb] at h;cases h
   |true=>
    rw[hb] at h;have he:=w02 hb;subst he;obtain⟨hck,hk⟩:=z7i h;refine⟨_,hk,λhc dst pos after guard=>?_⟩;have hx':=evO2 (A:=A) (P:=N.P) hkn hc hx;have hi':=evO2 (A:=A) (P:=N.P) hkn hc hi;simp only[SV.den] at hx' hi'⊢;cases ha:A[j]? with
    |none=>rw[ha] at hx';exact z8l N.P hx'
    |some q=>rw[ha] at hx';exact yfb ht hx' (y1s V N.P ha ho) hi' (hck hc).1 (hck hc).2
  .cases h
 .-- an array within a variable
  rename_i n e j o q m ht hx hi;have hi:=zr hi;split at h
  .rename_i T cs ho;split at h
   .rename_i n' c f post hcd;cases hb :(Nat.blt 0 (V.sz c)&&Nat.beq (e / V.sz c*V.sz c) e&&Nat.beq (n*(e / V.sz c)) n') with
    |false=>rw[hb] at h;cases h
    |true=>
     rw[hb] at h;simp only[w04] at hb;have e1:=w02 hb.1.2;have e2:=w02 hb.2;obtain⟨hck,hk⟩:=z7i h;refine⟨_,hk,λhc dst pos after guard=>?_⟩;have hx':=evO2 (A:=A) (P:=N.P) hkn hc hx;have hi':=evO2 (A:=A) (P:=N.P) hkn hc hi;simp only[SV.den] at hx' hi'⊢;cases ha:A[j]? with
     |none=>rw[ha] at hx';exact z8l N.P hx'
     |some q=>
      rw[ha] at hx';simp only[yi9];refine ybb (F:=True) (off:=o) ht (λa ro w hs=>⟨trivial,hx' a ro w hs⟩) hi' (hck hc).1 (hck hc).2 (λ_=>?_) ?_
      .rw[<- e2];have h3:m.toNat+1<=n:=by have:=(hck hc).1;have:=(hck hc).2;omega
       have:=w12 (e / V.sz c) h3;rw[w15,w3v] at this;exact this
      .rw[w51,e1];omega
   .cases h
  .cases h
 .-- an array within an array
  rename_i n e j o n' z idx cnt q m ht hx hi;have hi:=zr hi;cases hb :(Nat.blt 0 z&&Nat.beq (e / z*z) e&&Nat.beq (n*(e / z)) cnt) with
  |false=>rw[hb] at h;cases h
  |true=>
   rw[hb] at h;simp only[w04] at hb;have e1:=w02 hb.1.2;have e2:=w02 hb.2;obtain⟨hck,hk⟩:=z7i h;refine⟨_,hk,λhc dst pos after guard=>?_⟩;have hx':=evO2 (A:=A) (P:=N.P) hkn hc hx;have hi':=evO2 (A:=A) (P:=N.P) hkn hc hi;simp only[SV.den] at hx' hi'⊢;cases ha:A[j]? with
   |none=>rw[ha] at hx';exact z8l N.P hx'
   |some q=>
    rw[ha] at hx';simp only[yi9];refine ybb (F:=idx+cnt<=n') (off:=o+idx*z+0) ht hx' hi' (hck hc).1 (hck hc).2 (λhle=>?_) ?_
    .have h3:m.toNat+1<=n:=by have:=(hck hc).1;have:=(hck hc).2;omega
     have:=w12 (e / z) h3;rw[w15,w3v,e2] at this;omega
    .rw[w15,w51,e1];omega
 .-- an array that is only read
  rename_i n e n' c f post q m ht hx hi;have hi:=zr hi;cases hb :(Nat.beq e (V.sz c)&&Nat.beq n n') with
  |false=>rw[hb] at h;cases h
  |true=>rw[hb] at h;simp only[w04] at hb;have e1:=w02 hb.1;have e2:=w02 hb.2;subst e1;subst e2;obtain⟨hck,hk⟩:=z7i h;refine⟨_,hk,λhc dst pos after guard=>?_⟩;have hx':=evO2 (A:=A) (P:=N.P) hkn hc hx;have hi':=evO2 (A:=A) (P:=N.P) hkn hc hi;simp only[SV.den,denL] at hx' hi'⊢;rw[z1b];refine ycj ht (Ev.ent' hx' λr w v ⟨b,o,hv,hr,hh⟩=>⟨b,o,hv,hr,?_⟩) hi' (V.ev_len c) (hck hc).1 (hck hc).2;have:=hh.take (arr n (V.ev c) f).length;rw[w4g  rfl] at this;simpa using this
 .cases h
theorem yfe[Dr](hkn:chP s.gb s.kn){t:TypeId}{x i:Operand}{ty:TypeId}{k:SV V.T->Option R}(h:zf V N s cur (.index t x i) ty k=some r):∃v,k v=some r/\QOK V N.P C A s cur (.index t x i) ty v:=by
 have arrc:∀{n c:Nat}{f:Nat->V.T c}{q:IntKind}{m:Int}(hx:chP s.gb cur->Ev (s.st V N.P A) x (Px.agg (Px.arr n (V.ev c) f)))(hi:chP s.gb cur->Ev (s.st V N.P A) i (iv q m)),
   (match tarr N.P t with
   |some (n',E)=>match z60 N.P E with
    |some (g,z)=>bif Nat.beq n n'&&Nat.beq z (V.sz c)&&(g==z8k (V.d c)) then ckG s.gb cur ((0:Int)<=m/\m<(n:Int)) (k (V.encV c (f m.toNat))) else none
    |none=>none
   |none=>none)=some r->∃v,k v=some r/\QOK V N.P C A s cur (.index t x i) ty v:=by
  intro n c f q m hx hi h;split at h
  .rename_i n' E ht;split at h
   .rename_i g z hE;cases hb :(Nat.beq n n'&&Nat.beq z (V.sz c)&&(g==z8k (V.d c))) with
    |false=>rw[hb] at h;cases h
    |true=>
     rw[hb] at h;simp only[w04,beq_iff_eq] at hb;have e1:=w02 hb.1.1;have e2:=w02 hb.1.2;have e3:=hb.2;subst e1;subst e2;subst e3;obtain⟨hck,hk⟩:=z7i h;refine⟨_,hk,λhc dst pos after guard=>?_⟩;rw[z4t];cases ha:z8k (V.d c) with
     |true=>rw[ha] at hE;rw[zvd _ ha];exact ycl ht hE (hx hc) (hi hc) (V.ev_len c) (hck hc).1 (hck hc).2
     |false=>rw[ha] at hE;have h1:=zve (f m.toNat) ha;have h2:=V.ev_len c (f m.toNat);rw[h1] at h2;simp only[w0m,w1l] at h2;rw[<- h2] at hE;exact yck ht hE (hx hc) (hi hc) (λy=>by rw[V.ev_len];exact h2.symm) h1 (hck hc).1 (hck hc).2
   .cases h
  .cases h
 simp only[zf] at h;split at h
 .rename_i b q m hx hi;have hi:=zr hi;split at h
  .rename_i hu;obtain⟨hck,hk⟩:=z7i h;refine⟨_,hk,λhc dst pos after guard=>?_⟩;exact yg8 hu (evO2 hkn hc hx) (evO2 hkn hc hi) rfl (hck hc).1 (hck hc).2
  .cases h
 .rename_i n c f q m hx hi;have hi:=zr hi;exact arrc (λhc=>evO2 hkn hc hx) (λhc=>evO2 hkn hc hi) h
 .rename_i n c f q m hx hi;have hi:=zr hi;exact arrc (λhc=>by have:=evO2 (A:=A) (P:=N.P) hkn hc hx;simpa[SV.den,denL] using this) (λhc=>evO2 hkn hc hi) h
 .rename_i cs q m _ hx hi;have hi:=zr hi;split at h
  .rename_i n' E ht;cases hb :(ydl N.P E&&Nat.beq cs.length n'&&cs.all y7z) with
   |false=>rw[hb] at h;cases h
   |true=>
    rw[hb] at h;simp only[w04] at hb;simp only[cond_true] at h;split at h
    .rename_i v hv;obtain⟨hck,hk⟩:=z7i h;refine⟨_,hk,λhc dst pos after guard=>?_⟩;have hE:z60 N.P E=some (false,1):=by
      have:=hb.1.1;unfold ydl at this;split at this
      .assumption
      .cases this
     have hx':=evO2 (A:=A) (P:=N.P) hkn hc hx;simp only[SV.den] at hx';exact yg6 ht hE hx' (evO2 hkn hc hi) (y5n hb.2 hv) (hck hc).1 (hck hc).2
    .cases h
  .cases h
 .cases h
theorem yip[Dr](hN:z7r V N)(hkn:chP s.gb s.kn){c:Call}{ty:TypeId}{k:SV V.T->Option R}(h:zf V N s cur (.call c) ty k=some r):∃v,k v=some r/\QOK V N.P C A s cur (.call c) ty v:=by
 obtain⟨callee,args,ts⟩:=c;simp only[zf] at h;split at h
 .-- len
  rename_i x hargs;have ha:args = #[x]:=by cases args;simp at hargs;rw[hargs]
  subst ha;split at h
  .rename_i c l hx;cases hb:zf.isSl1 N.P ts with
   |false=>rw[hb] at h;cases h
   |true=>rw[hb] at h;obtain⟨t,rfl,ht⟩:=zm7 hb;exact⟨_,h,λhc dst pos after guard=>yms ht (evO2 hkn hc hx)⟩
  .rename_i j hx;split at h
   .rename_i E c l ho;cases hb:zf.isSl1 N.P ts with
    |false=>rw[hb] at h;cases h
    |true=>
     rw[hb] at h;obtain⟨t,rfl,ht⟩:=zm7 hb;refine⟨_,h,λhc dst pos after guard=>?_⟩;have hx':=evO2 (A:=A) (P:=N.P) hkn hc hx;simp only[SV.den] at hx';cases ha:A[j]? with
     |none=>rw[ha] at hx';exact z8l N.P hx'
     |some q=>rw[ha] at hx';exact ymr j ht hx' (zg V N.P ha ho)
   .rename_i E E2 c l hh ho;cases hb:zf.isSl1 N.P ts with
    |false=>rw[hb] at h;cases h
    |true=>
     rw[hb] at h;obtain⟨t,rfl,ht⟩:=zm7 hb;refine⟨_,h,λhc dst pos after guard=>?_⟩;have hx':=evO2 (A:=A) (P:=N.P) hkn hc hx;simp only[SV.den] at hx';cases ha:A[j]? with
     |none=>rw[ha] at hx';exact z8l N.P hx'
     |some q=>rw[ha] at hx';exact yk4 j ht hx' (yc4 ha ho)
   .rename_i E c l ho;cases hb:zf.isSl1 N.P ts with
    |false=>rw[hb] at h;cases h
    |true=>
     rw[hb] at h;obtain⟨t,rfl,ht⟩:=zm7 hb;refine⟨_,h,λhc dst pos after guard=>?_⟩;have hx':=evO2 (A:=A) (P:=N.P) hkn hc hx;simp only[SV.den] at hx';cases ha:A[j]? with
     |none=>rw[ha] at hx';exact z8l N.P hx'
     |some q=>rw[ha] at hx';exact ymq j ht hx' (y1s V N.P ha ho)
   .rename_i kc vc m ho;cases hb:zf.isMp1 N.P ts with
    |false=>rw[hb] at h;cases h
    |true=>
     rw[hb] at h;obtain⟨t,kt,et,rfl,ht⟩:=y7d hb;refine⟨_,h,λhc dst pos after guard=>?_⟩;have hx':=evO2 (A:=A) (P:=N.P) hkn hc hx;simp only[SV.den] at hx';cases ha:A[j]? with
     |none=>rw[ha] at hx';exact z8l N.P hx'
     |some q=>rw[ha] at hx';exact zws ha ho λhq _=>ymj j ht (y7l ha ho) (by rw[<- hq];exact hx')
   .cases h
  .rename_i kc vc m hx;cases hb:zf.isMp1 N.P ts with
   |false=>rw[hb] at h;cases h
   |true=>rw[hb] at h;obtain⟨t,kt,et,rfl,ht⟩:=y7d hb;refine⟨_,h,λhc dst pos after guard=>?_⟩;have hx':=evO2 (A:=A) (P:=N.P) hkn hc hx;simp only[SV.den,y8w] at hx';exact yka ht hx'
  .rename_i hx;cases hb:zf.isSl1 N.P ts with
   |false=>rw[hb] at h;cases h
   |true=>rw[hb] at h;obtain⟨t,rfl,ht⟩:=zm7 hb;exact⟨_,h,λhc dst pos after guard=>yg9 ht (evO2 hkn hc hx)⟩
  .rename_i b hx;cases hb:zf.isStr1 N.P ts with
   |false=>rw[hb] at h;cases h
   |true=>rw[hb] at h;obtain⟨t,rfl,ht⟩:=ybi hb;exact⟨_,h,λhc dst pos after guard=>ymt ht (evO2 hkn hc hx)⟩
  .cases h
 .-- cap
  rename_i x hargs;have ha:args = #[x]:=by cases args;simp at hargs;rw[hargs]
  subst ha;split at h
  .rename_i hx;cases hb:zf.isSl1 N.P ts with
   |false=>rw[hb] at h;cases h
   |true=>rw[hb] at h;obtain⟨t,rfl,ht⟩:=zm7 hb;exact⟨_,h,λhc dst pos after guard=>yg3 ht (evO2 hkn hc hx)⟩
  .cases h
 .-- min
  rename_i x xs hargs;have ha:args =⟨x::xs⟩:=by cases args;simp at hargs;rw[hargs]
  subst ha;split at h
  .rename_i i m hx;split at h
   .rename_i ns hns;exact⟨_,h,λhc dst pos after guard=>yo4 (evO2 hkn hc (zr hx)) (y53 hc hkn hns)⟩
   .cases h
  .cases h
 .-- max
  rename_i x xs hargs;have ha:args =⟨x::xs⟩:=by cases args;simp at hargs;rw[hargs]
  subst ha;split at h
  .rename_i i m hx;split at h
   .rename_i ns hns;exact⟨_,h,λhc dst pos after guard=>yo3 (evO2 hkn hc (zr hx)) (y53 hc hkn hns)⟩
   .cases h
  .cases h
 .-- a function with a contract
  rename_i f;split at h
  .rename_i sp hsp;exact y94 hN hkn hsp h
  .cases h
 .-- a function value
  rename_i t as' hargs;split at h
  .rename_i c f hf;split at h
   .rename_i x y hxy;have ha:args = #[x,y]:=by cases args;simp at hxy;rw[hxy]
    subst ha;split at h
    .rename_i a b ha hb;obtain⟨z,hz,hk⟩:=zx8 h;refine⟨_,hk,λhc dst pos after guard=>?_⟩;cases hx:evO s.sl (cur++s.kn) x with
     |none=>rw[hx] at ha;cases ha
     |some vx=>
      cases hy:evO s.sl (cur++s.kn) y with
      |none=>rw[hy] at hb;cases hb
      |some vy=>rw[hx] at ha;rw[hy] at hb;exact ykf (evO2 hkn hc hf) (Ev.ent' (evO2 hkn hc hx) (z8b V N.P ha)) (Ev.ent' (evO2 hkn hc hy) (z8b V N.P hb)) (hz hc)
    .cases h
   .cases h
  .rename_i f caps hf;split at h
   .rename_i sp hsp;exact ycy hN hkn hsp hf h
   .cases h
  .cases h
 .cases h
theorem y7h{kc vc:Nat}{m:List (V.T kc×V.T vc)}{key:V.T kc}{ok:Bool}{z:Value}{k:SV V.T->Option R}(h:yfm V kc vc m key ok z k=some r):V.zok vc z=true/\
  k (bif ok then .tup [V.encV vc ((cget (V.kl kc) m key).getD (V.z vc)),.bool (cget (V.kl kc) m key).isSome] else V.encV vc ((cget (V.kl kc) m key).getD (V.z vc)))=some r:=by
 unfold yfm at h;cases hb:V.zok vc z with
 |false=>rw[hb] at h;cases h
 |true=>rw[hb] at h;exact⟨rfl,h⟩
theorem yni{vc:Nat}{z:Value}(hs:zfa (V.d vc)=true)(h:V.zok vc z=true):z=V.kv vc (V.z vc):=by have h1:=y68 (V:=V) h (λ_=>True) default z rfl;rw[ydq V hs] at h1;exact h1
theorem ybp[Dr](hkn:chP s.gb s.kn){t:TypeId}{x i:Operand}{ok:Bool}{ty:TypeId}{k:SV V.T->Option R}(h:zf V N s cur (.lookup t x i ok) ty k=some r):∃v,k v=some r/\QOK V N.P C A s cur (.lookup t x i ok) ty v:=by
 simp only[zf] at h;split at h
 .rename_i j y hx hi;split at h
  .rename_i kc vc E m hh ho;split at h
   .rename_i et key hm hd;obtain⟨kt,ht,hk⟩:=zu0 hm;split at h
    .rename_i z hz;have hget:chP s.gb cur->Ev (s.st V N.P A) x ((SV.own j:SV V.T).den V N.P A):=λhc=>evO2 (A:=A) (P:=N.P) hkn hc hx
     have hkey:chP s.gb cur->Ev (s.st V N.P A) i (eqv (V.kv kc key)):=λhc=>((evO2 (A:=A) (P:=N.P) hkn hc hi).ent' (z8b V N.P hd)).ent' (y3y hk)
     cases hh with
     |some p=>
      obtain⟨q,jj⟩:=p;simp only at h;cases ok with
      |true=>cases h
      |false=>
       simp only[cond_false] at h;obtain⟨hq,hk2⟩:=z7i h;refine⟨_,hk2,λhc dst pos after guard=>?_⟩;have hx':=hget hc;have hi':=hkey hc;simp only[SV.den] at hx'⊢;cases ha:A[j]? with
       |none=>rw[ha] at hx';exact z8l N.P hx'
       |some p=>
        rw[ha] at hx';refine zws ha ho λhp hs=>?_
        obtain⟨p2,hp2⟩:=w17.1 (hs _ _ rfl);rw[hp2];have hm2:=y7l (P:=N.P) ha ho;simp only[ze8,hp2] at hm2;exact y8z j (zg5 hk) ht hm2 (hq hc) (by rw[<- hp];exact hx') hi'
     |none=>
      simp only at h;cases hsc:zfa (V.d vc) with
      |true=>
       rw[hsc] at h;simp only[cond_true] at h;obtain⟨hzo,h2⟩:=y7h h;have hzk:=yni hsc hzo;subst hzk;refine⟨_,h2,λhc dst pos after guard=>?_⟩;have hx':=hget hc;have hi':=hkey hc;simp only[SV.den] at hx';cases ha:A[j]? with
       |none=>rw[ha] at hx';exact z8l N.P hx'
       |some p=>
        rw[ha] at hx';refine zws ha ho λhp _=>?_
        have hm2:=y7l (P:=N.P) ha ho;rw[y2b hsc] at hm2;cases ok with
        |false=>simp only[cond_false,z4t,ydq V hsc];exact yc9 j (zg5 hk) ht hz hm2 (by rw[<- hp];exact hx') hi'
        |true=>simp only[cond_true,SV.den,denV,z4t,ydq V hsc];exact y8y j (zg5 hk) ht hz hm2 (by rw[<- hp];exact hx') hi'
      |false=>
       rw[hsc] at h;simp only[cond_false] at h;cases ok with
       |true=>cases h
       |false=>
        simp only[cond_false] at h;obtain⟨hq,hk2⟩:=z7i h;refine⟨_,hk2,λhc dst pos after guard=>?_⟩;have hx':=hget hc;have hi':=hkey hc;simp only[SV.den] at hx'⊢;cases ha:A[j]? with
        |none=>rw[ha] at hx';exact z8l N.P hx'
        |some p=>
         rw[ha] at hx';refine zws ha ho λhp _=>?_
         exact y90 j (zg5 hk) ht hz (y7l ha ho) (by simpa using hq hc) (by rw[<- hp];exact hx') hi'
    .cases h
   .cases h
  .cases h
 .rename_i kc vc m y hx hi;split at h
  .rename_i et key hm hd;obtain⟨kt,ht,hk⟩:=zu0 hm;split at h
   .rename_i z hz;obtain⟨hzo,h⟩:=y7h h;refine⟨_,h,λhc dst pos after guard=>?_⟩;have hx':=evO2 (A:=A) (P:=N.P) hkn hc hx;have hi':=((evO2 (A:=A) (P:=N.P) hkn hc hi).ent' (z8b V N.P hd)).ent' (y3y hk);simp only[SV.den,y8w] at hx';cases ok with
    |false=>simp only[cond_false,z4t];exact yfv (E:=λy=>V.vl vc y) (zg5 hk) ht hz (y68 hzo) hx' hi'
    |true=>simp only[cond_true,SV.den,denV,z4t];exact yc8 (E:=λy=>V.vl vc y) (zg5 hk) ht hz (y68 hzo) hx' hi'
   .cases h
  .cases h
 .cases h
theorem yez[Dr](hkn:chP s.gb s.kn){x:Operand}{ty:TypeId}{k:SV V.T->Option R}(h:zf V N s cur (.entry x) ty k=some r):∃v,k v=some r/\QOK V N.P C A s cur (.entry x) ty v:=by
 simp only[zf] at h;split at h
 .rename_i j hx;split at h
  .rename_i kc vc rem e ho;cases hk:V.key kc with
   |false=>rw[hk] at h;cases h
   |true=>
    rw[hk] at h;refine⟨_,h,λhc dst pos after guard=>?_⟩;have hx':=evO2 (A:=A) (P:=N.P) hkn hc hx;simp only[SV.den] at hx';cases ha:A[j]? with
    |none=>rw[ha] at hx';exact z8l N.P hx'
    |some q=>
     rw[ha] at hx';have hob:=zg V N.P (A:=A) (ps:=A) ha ho;have hgo:∀{o:Oper}{K:VP->List HP->Prop},(q.2 = .pointer (some ⟨q.1,0,none⟩)->OpT C o (s.st V N.P A) K)->OpT C o (s.st V N.P A) K:=λh a w ro S Q hd hn hw hs=>h (hw.obj j _ hob).1 a w ro S Q hd hn hw hs
     refine hgo λhq=>?_
     simp only[SV.den,denV,z4t];exact yft (eK:=V.kv kc) (E:=λy=>V.vl vc y) j (ybl hk e.1).2 ⟨_,hob,λ_ _ _ h=>h.2⟩ (show Ev (s.st V N.P A) x (eqv (.pointer (some ⟨q.1,0,none⟩))) by rw[<- hq];exact hx')
  .cases h
 .cases h
theorem zwf[Dr](hkn:chP s.gb s.kn)(hc:chP s.gb cur){d:Nat}{o:Option Operand}{m:Int}(h:bdX V s.sl (cur++s.kn) (d:Int) o=some m)(h0:0<=m):BdE (s.st V N.P A) o m.toNat d:=by
 cases o with
 |none=>have:=w0b h;show m.toNat=d;omega
 |some o=>
  simp only[bdX] at h;split at h
  .rename_i k q hq;have h:=w0b h;subst h;have:=evO2 (A:=A) (P:=N.P) hkn hc (zr hq);simp only[SV.den] at this;refine⟨k,?_⟩;rw[Int.toNat_of_nonneg h0];exact this
  .cases h
theorem yh1[Dr](hkn:chP s.gb s.kn){t:TypeId}{x:Operand}{lo hi mx:Option Operand}{ty:TypeId}{k:SV V.T->Option R}(h:zf V N s cur (.slice t x lo hi mx) ty k=some r):∃v,k v=some r/\QOK V N.P C A s cur (.slice t x lo hi mx) ty v:=by
 cases mx with
 |some o=>cases h
 |none=>
 simp only[zf] at h;split at h
 .rename_i n0 e c l ht hx;have hn:=ydj ht;subst hn;split at h
  .rename_i m n hm hn;cases hb:Nat.beq e (V.sz c) with
   |false=>rw[hb] at h;cases h
   |true=>rw[hb] at h;have he:=w02 hb;subst he;obtain⟨hck,hk⟩:=z7i h;refine⟨_,hk,λhc dst pos after guard=>?_⟩;obtain⟨q1,q2,q3⟩:=hck hc;have hx':=evO2 (A:=A) (P:=N.P) hkn hc hx;simp only[SV.den] at hx'⊢;exact ygd ht hx' (zwf hkn hc (d:=0) hm q1) (zwf hkn hc hn (by omega)) (by omega) (by omega)
  .cases h
 .rename_i n0 e j ht hx;have hn:=ydj ht;subst hn;split at h
  .rename_i E c l ho;split at h
   .rename_i m n hm hn;cases hb:Nat.beq e (V.sz c) with
    |false=>rw[hb] at h;cases h
    |true=>
     rw[hb] at h;have he:=w02 hb;subst he;obtain⟨hck,hk⟩:=z7i h;refine⟨_,hk,λhc dst pos after guard=>?_⟩;obtain⟨q1,q2,q3⟩:=hck hc;have hx':=evO2 (A:=A) (P:=N.P) hkn hc hx;simp only[SV.den] at hx'⊢;cases ha:A[j]? with
     |none=>rw[ha] at hx';exact z8l N.P hx'
     |some p=>rw[ha] at hx';exact ygc j ht hx' (zg V N.P ha ho) (zwf hkn hc (d:=0) hm q1) (zwf hkn hc hn (by omega)) (by omega) (by omega)
   .cases h
  .cases h
 .rename_i n0 e ht hx;have hn:=ydj ht;subst hn;split at h
  .rename_i m n hm hn;obtain⟨hck,hk⟩:=z7i h;refine⟨_,hk,λhc dst pos after guard=>?_⟩;obtain⟨rfl,rfl⟩:=hck hc;have hx':=evO2 (A:=A) (P:=N.P) hkn hc hx;simp only[SV.den] at hx'⊢;exact ygb ht hx' (zwf hkn hc (d:=0) hm (w59 0)) (zwf hkn hc (d:=0) hn (w59 0))
  .cases h
 .cases h
theorem zhz[Dr](hN:z7r V N)(hkn:chP s.gb s.kn)(hgb:GbOK s.toFm)(h1:OneA V A s.ob){o:Op}{ty:TypeId}{k:SV V.T->Option R}(h:zf V N s cur o ty k=some r):∃v,k v=some r/\QOK V N.P C A s cur o ty v:=by
 cases o with
 |move x=>
  simp only[zf] at h;split at h
  .rename_i v hv;exact⟨v,h,λhc dst pos after guard=>ymu (evO2 hkn hc hv)⟩
  .cases h
 |assign x=>
  simp only[zf] at h;split at h
  .rename_i v hv;exact⟨v,h,λhc dst pos after guard=>yg0 (evO2 hkn hc hv)⟩
  .cases h
 |pick c x y=>exact ygj hkn hgb h
 |binOp op t x y t'=>
  simp only[zf] at h;split at h
  .rename_i a b ha hb;exact yin h (λhc=>evO2 hkn hc ha) (λhc=>evO2 hkn hc hb)
  .cases h
 |unOp op t x=>
  cases op with
  |not=>
   simp only[zf] at h;split at h
   .rename_i b hb;exact⟨_,h,λhc dst pos after guard=>yo9 (evO2 hkn hc (zdx hb))⟩
   .cases h
  |neg=>
   simp only[zf] at h;split at h
   .rename_i i m hb;exact⟨_,h,λhc dst pos after guard=>yo7 (evO2 hkn hc (zr hb))⟩
   .cases h
  |xor=>simp[zf] at h
  |plus=>simp[zf] at h
 |convert src d x=>
  simp only[zf] at h;split at h
  .rename_i i q m hd hx;cases hb :(N.P.underlying src).isSome with
   |false=>rw[hb] at h;cases h
   |true=>rw[hb] at h;exact⟨_,h,λhc dst pos after guard=>ymn hb hd (evO2 hkn hc (zr hx))⟩
  .cases h
 |load t x=>
  simp only[zf] at h;split at h
  .rename_i g n p ht hx;split at h
   .rename_i m q j hh;cases hb :(!g&&Nat.beq n 1) with
    |false=>rw[hb] at h;cases h
    |true=>rw[hb] at h;obtain⟨hck,hk⟩:=z7i h;refine⟨_,hk,λhc dst pos after guard=>?_⟩;simp only[w04,w0z] at hb;obtain⟨rfl,hn⟩:=hb;have hn:=w02 hn;subst hn;exact yjo hh ht (hck hc) (evO2 hkn hc hx)
   .split at h
    .rename_i v hv;exact⟨v,h,λhc dst pos after guard=>yns V N.P ht hv (evO2 hkn hc hx)⟩
    .cases h
  .cases h
 |fieldAddr t x f=>exact yf2 hkn h
 |indexAddr t x i=>exact ybc hkn h
 |slice t x lo hi mx=>exact yh1 hkn h
 |index t x i=>exact yfe hkn h
 |lookup t x i ok=>exact ybp hkn h
 |entry x=>exact yez hkn h
 |extract x i=>
  simp only[zf] at h;split at h
  .rename_i l hx;split at h
   .rename_i v hv;refine⟨v,h,λhc dst pos after guard=>ych (xs:=denV V N.P A l) (evO2 hkn hc hx) ?_⟩;have key:∀(l:List (SV V.T))(i:Nat),l[i]? = some v->(denV V N.P A l)[i]? = some (v.den V N.P A):=by
     intro l
     induction l with
     |nil=>intro i h;simp at h
     |cons y l ih=>
      intro i h;cases i with
      |zero=>simp at h;subst h;rfl
      |succ i=>simp at h;simpa[denV] using ih i h
    exact key l i hv
   .cases h
  .cases h
 |buildSlice t n parts=>
  simp only[zf] at h;split at h
  .rename_i E z by' ht;split at h
   .rename_i l hel;cases hb :(Nat.beq z (V.sz (V.code E))&&Nat.beq l.length n&&Nat.ble (n*z) 16777216) with
    |false=>rw[hb] at h;cases h
    |true=>rw[hb] at h;simp only[w04] at hb;have e1:=w02 hb.1.1;have e2:=w02 hb.1.2;have e3:=w0v hb.2;subst e1;simp only[cond_true] at h;refine⟨_,h,λhc dst pos after guard=>?_⟩;simp only[SV.den];exact ycf l ht (V.ev_len _) e2 e3 (zxj (z6t hc hkn) hel)
   .cases h
  .cases h
 |build t parts=>
  simp only[zf] at h;split at h
  .rename_i zs hz;cases hb :(zjq V (V.zero (V.code t)) zs&&zrx N.P t) with
   |false=>
    rw[hb] at h;simp only[cond_false] at h;cases hb2 :(zs.all (·.oneCell')&&zrx N.P t) with
    |false=>rw[hb2] at h;cases h
    |true=>
     rw[hb2] at h;simp only[w04] at hb2;simp only[cond_true] at h;split at h
     .rename_i cs hl;refine⟨_,h,λhc dst pos after guard=>?_⟩;have e1:=y5q V N.P (A:=A) zs;obtain⟨qs,hp,hlay⟩:=y5c V N.P h1 (z6t hc hkn) hl;have hlen:=zhf V N.P (A:=A) (zs.map zy6);rw[e1,w10] at hlen;simp only[SV.den];rw[e1] at hlay;exact yce zs qs hz hb2.1 hb2.2 (hlen ▸ hp) hlay
     .cases h
   |true=>
    rw[hb] at h;simp only[w04] at hb;simp only[cond_true] at h;split at h
    .rename_i cs hl;refine⟨_,h,λhc dst pos after guard=>?_⟩;obtain⟨e1,e2⟩:=zlv V N.P (A:=A) hb.1;obtain⟨qs,hp,hlay⟩:=y5c V N.P h1 (z6t hc hkn) hl;have hlen:=zhf V N.P (A:=A) (fixZ V (V.zero (V.code t)));rw[e1,w10] at hlen;simp only[SV.den];rw[e1] at hlay;exact yce zs qs hz e2 hb.2 (hlen ▸ hp) hlay
    .cases h
  .cases h
 |nilCheck x=>
  simp only[zf] at h;split at h
  .rename_i i o hx;refine⟨_,h,λhc dst pos after guard=>?_⟩;have hx':=evO2 (A:=A) (P:=N.P) hkn hc hx;simp only[SV.den] at hx'⊢;cases ha:A[i]? with
   |none=>rw[ha] at hx';exact z8l N.P hx'
   |some q=>rw[ha] at hx';exact y93 hx'
  .cases h
 |makeFunc fn first caps=>
  cases fn with
  |func f=>
   simp only[zf] at h;cases hb:first.isEmpty with
   |false=>rw[hb] at h;cases h
   |true=>
    rw[hb] at h;simp only[cond_true] at h;split at h
    .rename_i l hl;exact⟨_,h,λhc dst pos after guard=>ycn hb (ya4 hc hkn hl)⟩
    .cases h
  |_=>simp[zf] at h
 |call c=>exact yip hN hkn h
 |_=>simp[zf] at h
end
end Px
end
section
namespace Px
open Go Go.RowKit
def AExt(A B:Asg):Prop:=∀(i:Nat)(p:Nat×Value),A[i]? = some p->B[i]? = some p
theorem AExt.refl(A:Asg):AExt A A:=λ_ _ h=>h
theorem AExt.app(A B:Asg):AExt A (A++B):=λi p h=>by rw[w0k (w03.1 h).1];exact h
section
variable(V:TE)(P:Program)
theorem y44(l:List VP):F2 Ent l l:=F2.refl (λ_=>Ent.refl) l
theorem zwb{R:VP->VP->Prop}: ∀{a b:List VP},F2 R a b->a.length=b.length/\∀(i:Nat)(B:VP),b[i]? = some B->∃A,a[i]? = some A/\R A B
 | [],[],_=>⟨rfl,λi B h=>by simp at h⟩
 |x::a,y::b,h=>by
  obtain⟨h1,h2⟩:=zwb h.2;refine⟨by simp[h1],λi B hB=>?_⟩;cases i with
  |zero=>simp at hB;subst hB;exact⟨x,rfl,h.1⟩
  |succ i=>simpa using h2 i B (by simpa using hB)
 | [],_::_,h=>h.elim
 |_::_,[],h=>h.elim
theorem ydm{a b:List VP}(h:F2 Ent a b):Ent (tupv a) (tupv b):=by rintro r w v ⟨vs,e,hl,hh⟩;obtain⟨h1,h2⟩:=zwb h;refine⟨vs,e,by rw[hl,h1],λi B hB=>?_⟩;obtain⟨A,hA,hAB⟩:=h2 i B hB;exact hAB _ _ _ (hh i A hA)
theorem yav{f:Nat}{a b:List VP}(h:F2 Ent a b):Ent (fnc f a) (fnc f b):=by rintro r w v ⟨vs,e,hl,hh⟩;obtain⟨h1,h2⟩:=zwb h;refine⟨vs,e,by rw[hl,h1],λi B hB=>?_⟩;obtain⟨A,hA,hAB⟩:=h2 i B hB;exact hAB _ _ _ (hh i A hA)
theorem yd0{a b:List VP}(h:F2 Ent a b):Ent (rop a) (rop b):=by rintro r w v ⟨bl,o,e,hr,hh⟩;obtain⟨h1,h2⟩:=zwb h;refine⟨bl,o,e,hr,λj B hB=>?_⟩;obtain⟨A,hA,hAB⟩:=h2 j B hB;obtain⟨u,h3,h4,h5⟩:=hh j A hA;exact⟨u,h3,hAB _ _ _ h4,h5⟩
theorem zpu{r:Nat->Prop}{w:World}{a b:List VP}{vs:List Value}(h:F2 Ent a b)(k:ze r w a vs):ze r w b vs:=by obtain⟨h1,h2⟩:=zwb h;refine⟨by rw[<- h1];exact k.1,λj B hB=>?_⟩;obtain⟨A,hA,hAB⟩:=h2 j B hB;obtain⟨u,h3,h4,h5⟩:=k.2 j A hA;exact⟨u,h3,hAB _ _ _ h4,h5⟩
mutual
theorem z2c[Dr]{A B:Asg}(h:AExt A B):∀(x:SV V.T),Ent (x.den V P A) (x.den V P B)
 | .int k n=>by simp only[SV.den];exact Ent.refl
 | .bool b=>by simp only[SV.den];exact Ent.refl
 | .str s=>by simp only[SV.den];exact Ent.refl
 | .val v=>by simp only[SV.den];exact Ent.refl
 | .arr n c f=>by simp only[SV.den];exact Ent.refl
 | .agg cs=>by simp only[SV.den];exact Ent.agg (z08 h cs).ents
 | .tup xs=>by simp only[SV.den];exact ydm (zoc h xs)
 | .ro c l=>by simp only[SV.den];exact Ent.refl
 | .rop cs=>by simp only[SV.den];exact yd0 (z08 h cs)
 | .ptr i off=>by
  simp only[SV.den];cases ha:A[i]? with
  |none=>exact λ_ _ _ hv=>hv.elim
  |some p=>rw[h i p ha];exact Ent.refl
 | .own i=>by
  simp only[SV.den];cases ha:A[i]? with
  |none=>exact λ_ _ _ hv=>hv.elim
  |some p=>rw[h i p ha];exact Ent.refl
 | .elt i k z fo=>by
  simp only[SV.den];cases ha:A[i]? with
  |none=>exact λ_ _ _ hv=>hv.elim
  |some p=>rw[h i p ha];exact Ent.refl
 | .pta i off n z idx cnt fo=>by
  simp only[SV.den];cases ha:A[i]? with
  |none=>exact λ_ _ _ hv=>hv.elim
  |some p=>rw[h i p ha];exact Ent.refl
 | .prt i lo hi z=>by
  simp only[SV.den];cases ha:A[i]? with
  |none=>exact λ_ _ _ hv=>hv.elim
  |some p=>rw[h i p ha];exact Ent.refl
 | .und=>by simp only[SV.den];exact Ent.refl
 | .func f caps=>by simp only[SV.den];exact yav (zoc h caps)
 | .rom kc vc m=>by simp only[SV.den];exact Ent.refl
 | .cmp c f=>by simp only[SV.den];exact Ent.refl
 | .top=>by simp only[SV.den];exact Ent.refl
theorem z08[Dr]{A B:Asg}(h:AExt A B):∀(l:List (SV V.T)),F2 Ent (denL V P A l) (denL V P B l)
 | []=>trivial
 | .arr n c f::l=>by simp only[denL];exact(y44 _).append (z08 h l)
 | .int k n::l=>by simp only[denL];exact⟨z2c h (.int k n),z08 h l⟩
 | .bool b::l=>by simp only[denL];exact⟨z2c h (.bool b),z08 h l⟩
 | .str b::l=>by simp only[denL];exact⟨z2c h (.str b),z08 h l⟩
 | .val b::l=>by simp only[denL];exact⟨z2c h (.val b),z08 h l⟩
 | .agg b::l=>by simp only[denL];exact⟨z2c h (.agg b),z08 h l⟩
 | .tup b::l=>by simp only[denL];exact⟨z2c h (.tup b),z08 h l⟩
 | .ro c b::l=>by simp only[denL];exact⟨z2c h (.ro c b),z08 h l⟩
 | .rop b::l=>by simp only[denL];exact⟨z2c h (.rop b),z08 h l⟩
 | .ptr i o::l=>by simp only[denL];exact⟨z2c h (.ptr i o),z08 h l⟩
 | .own i::l=>by simp only[denL];exact⟨z2c h (.own i),z08 h l⟩
 | .elt i k z fo::l=>by simp only[denL];exact⟨z2c h (.elt i k z fo),z08 h l⟩
 | .pta i o n z x c fo::l=>by simp only[denL];exact⟨z2c h (.pta i o n z x c fo),z08 h l⟩
 | .prt i lo hi z::l=>by simp only[denL];exact⟨z2c h (.prt i lo hi z),z08 h l⟩
 | .und::l=>by simp only[denL];exact⟨z2c h .und,z08 h l⟩
 | .func f caps::l=>by simp only[denL];exact⟨z2c h (.func f caps),z08 h l⟩
 | .rom a b m::l=>by simp only[denL];exact⟨z2c h (.rom a b m),z08 h l⟩
 | .cmp c f::l=>by simp only[denL];exact⟨z2c h (.cmp c f),z08 h l⟩
 | .top::l=>by simp only[denL];exact⟨z2c h .top,z08 h l⟩
theorem zoc[Dr]{A B:Asg}(h:AExt A B):∀(l:List (SV V.T)),F2 Ent (denV V P A l) (denV V P B l)
 | []=>trivial
 |x::l=>by simp only[denV];exact⟨z2c h x,zoc h l⟩
end
theorem yj2{c:Prop}{x y:VP}(h:Ent x y):Ent (cnd c x) (cnd c y):=λr w v hv=>⟨λhc=>h _ _ _ (hv.1 hc),hv.2⟩
theorem zti[Dr]{A B:Asg}(h:AExt A B){gb:List (Nat×Bool)}(e:Ch×SV V.T):Ent (denE V P A gb e) (denE V P B gb e):=by
 unfold denE;obtain⟨ch,x⟩:=e;cases ch with
 |nil=>exact z2c V P h x
 |cons a l=>exact yj2 (z2c V P h x)
theorem zje[Dr]{A B:Asg}(h:AExt A B){gb:List (Nat×Bool)}{sl:Sls V.T}{a:Act}{ro:Nat->Prop}{w:World}(hs:za (slD V P A gb sl) a ro w):za (slD V P B gb sl) a ro w:=by
 intro t X ht;simp only[slD] at ht;cases hl:lk sl t with
 |none=>rw[hl] at ht;cases ht
 |some e=>rw[hl] at ht;simp only[w0s,w01] at ht;subst ht;exact zti V P h e _ _ _ (hs t _ (by simp[slD,hl]))
def ObW[Dr](objs O:List HP):Prop:=∀w0 base r S w,WInv w0 base objs r S w->∃S',WInv w0 base O r S' w
theorem ObW.refl[Dr]{O:List HP}: ObW O O:=λ_ _ _ S _ h=>⟨S,h⟩
theorem ObW.trans[Dr]{a b c:List HP}(h:ObW a b)(k:ObW b c):ObW a c:=λw0 base r S w hw=>let ⟨S',h'⟩:=h w0 base r S w hw;k w0 base r S' w h'
theorem ObW.le[Dr]{a b:List HP}(h:z88 a b):ObW a b:=λ_ _ _ _ _ hw=>⟨_,hw.le h⟩
theorem znq:∀(l:List HP),z88 l l
 | []=>trivial
 |_::l=>⟨EntH.refl,znq l⟩
theorem zm8{H H2:HP}(h:EntH H H2):∀(l:List HP)(i:Nat),z88 (l.set i H) (l.set i H2)
 | [],_=>trivial
 |_::l,0=>⟨h,znq l⟩
 |_::l,i+1=>⟨EntH.refl,zm8 h l i⟩
theorem znp:∀{l m:List HP},z88 l m->∀(i:Nat)(H:HP),z88 (l.set i H) (m.set i H)
 |l,[],_,i,H=>by simp[z88]
 |_::l,_::m,h,0,H=>⟨EntH.refl,h.2⟩
 |_::l,_::m,h,i+1,H=>⟨h.1,znp h.2 i H⟩
 | [],_::_,h,_,_=>h.elim
theorem y85:∀{l:List HP}{i:Nat}{H:HP},l[i]? = some H->l.set i H=l
 |_::_,0,_,h=>by simp at h;subst h;rfl
 |_::l,i+1,_,h=>by simp only[w3h];rw[y85 (by simpa using h)]
 | [],_,_,h=>by simp at h
theorem ObW.set'[Dr]{objs:List HP}{i:Nat}{H H2:HP}(ho:objs[i]? = some H)(h:EntH H H2):ObW objs (objs.set i H2):=by have h1:=zm8 h objs i;rw[y85 ho] at h1;exact ObW.le h1
theorem OpT.weak[Dr]{P:Program}{C:Cx P}{o:Oper}{s s':St}{K:VP->List HP->Prop}(hs:∀a ro w,za s.slots a ro w->za s'.slots a ro w)(ho:ObW s.objs s'.objs)(h:OpT C o s' K):OpT C o s K:=by intro a w ro S Q hd hn hw hsl;obtain⟨S',hw'⟩:=ho _ _ _ _ _ hw;exact h a w ro S' Q hd hn hw' (hs a ro w hsl)
theorem ObW.mv[Dr]{objs:List HP}{i:Nat}{H:HP}(hi:objs[i]? = some H):ObW objs (objs.set i emp++[H]):=by
 intro w0 base r S w h;have hlt:i<objs.length:=(w03.1 hi).1;refine⟨λk b=>(k=objs.length/\S i b)\/(k<objs.length/\k≠i/\S k b),h.below,h.size,?_,?_,?_,h.old⟩
 .intro k K hk;by_cases hk1:k<objs.length
  .rw[w0k (by simpa using hk1)] at hk;by_cases e:k=i
   .subst e;rw[w1p hk1] at hk;simp only[w01] at hk;subst hk;trivial
   .rw[w1x (λh=>e h.symm)] at hk;have :(λb=>(k=objs.length/\S i b)\/(k<objs.length/\k≠i/\S k b))=S k:=by
     funext b;have:¬k=objs.length:=by omega
     simp[this,hk1,e]
    rw[this];exact h.obj k K hk
  .rw[w0y (by simpa using hk1)] at hk;have e:k=objs.length:=by have:=(w03.1 hk).1;simp at this;omega
   subst e;simp at hk;subst hk;have :(λb=>(objs.length=objs.length/\S i b)\/(objs.length<objs.length/\objs.length≠i/\S objs.length b))=S i:=by funext b;simp
   rw[this];exact h.obj i _ hi
 .rintro k b (⟨rfl,hb⟩|⟨hk,_,hb⟩)
  .obtain⟨_,h2,h3,h4⟩:=h.own i b hb;exact⟨by simp,h2,h3,h4⟩
  .obtain⟨_,h2,h3,h4⟩:=h.own k b hb;exact⟨by simp;omega,h2,h3,h4⟩
 .rintro k l b (⟨rfl,hb⟩|⟨hk,hk',hb⟩) (⟨rfl,hc⟩|⟨hl,hl',hc⟩)
  .rfl
  .exact absurd (h.apart l i b hc hb) hl'
  .exact absurd (h.apart k i b hb hc) hk'
  .exact h.apart k l b hb hc
theorem yjp[Dr]{A B:Asg}(h:AExt A B)(p:Nat×Value)(o:SO V.T):EntH (o.den V P A p) (o.den V P B p):=by
 cases o with
 |box t cs=>exact λS r w ⟨hS,cur,hc,hh⟩=>⟨hS,cur,hc,zpu (z08 V P h cs) hh⟩
 |row E c l=>exact EntH.refl
 |x o=>
  cases o with
  |map kc vc E m hh=>
   rintro S r w ⟨hp,hn⟩;have e:ze8 A hh=ze8 B hh:=by
    cases hh with
    |none=>rfl
    |some kj=>obtain⟨q,hq⟩:=w17.1 (hp.2 _ _ rfl);simp only[ze8,hq,h _ _ hq]
   refine⟨⟨hp.1,λk j e2=>?_⟩,by rw[<- e];exact hn⟩;obtain⟨q,hq⟩:=w17.1 (hp.2 k j e2);rw[h _ _ hq];rfl
  |it kc vc rem cur=>exact EntH.refl
  |fix E c l=>exact EntH.refl
  |nst E E2 c l hh=>
   rintro S r w ⟨hp,hn⟩;have e:zkx A hh=zkx B hh:=by
    cases hh with
    |none=>rfl
    |some kj=>obtain⟨q,hq⟩:=w17.1 (hp.2 _ _ rfl);simp only[zkx,hq,h _ _ hq]
   refine⟨⟨hp.1,λk j e2=>?_⟩,by rw[<- e];exact hn⟩;obtain⟨q,hq⟩:=w17.1 (hp.2 k j e2);rw[h _ _ hq];rfl
 |emp=>exact EntH.refl
theorem zt4[Dr]{A B:Asg}(h:AExt A B):∀(ps:Asg)(os:List (SO V.T)),z88 (obD V P A ps os) (obD V P B ps os)
 | [],os=>trivial
 |p::ps,[]=>trivial
 |p::ps,o::os=>⟨yjp V P h p o,zt4 h ps os⟩
theorem zen[Dr]{A:Asg}: ∀(ps:Asg)(os:List (SO V.T)),ps.length=os.length->(obD V P A ps os).length=os.length
 | [],[],_=>rfl
 |p::ps,o::os,h=>by simp only[obD,w0m];rw[zen ps os (by simpa using h)]
 | [],_::_,h=>by simp at h
 |_::_,[],h=>by simp at h
theorem zy4[Dr]{A:Asg}: ∀(ps:Asg)(os:List (SO V.T))(qs:Asg)(us:List (SO V.T)),ps.length=os.length->obD V P A (ps++qs) (os++us)=obD V P A ps os++obD V P A qs us
 | [],[],_,_,_=>rfl
 |p::ps,o::os,qs,us,h=>by simp only[w2p,obD];rw[zy4 ps os qs us (by simpa using h)]
 | [],_::_,_,_,h=>by simp at h
 |_::_,[],_,_,h=>by simp at h
theorem z5h[Dr]{A:Asg}: ∀(ps:Asg)(os:List (SO V.T))(i:Nat)(p:Nat×Value)(o:SO V.T),ps[i]? = some p->obD V P A ps (os.set i o) =(obD V P A ps os).set i (o.den V P A p)
 | [],os,i,p,o,h=>by simp at h
 |q::ps,[],i,p,o,h=>by cases i<;>simp[obD]
 |q::ps,u::os,0,p,o,h=>by simp at h;subst h;rfl
 |q::ps,u::os,i+1,p,o,h=>by simp only[w3h,obD];rw[z5h ps os i p o (by simpa using h)]
structure GA where
 act:Act
 lp:Option (Nat×Loop×Nat×Nat)
def GA.lpI(g:GA):Option (Nat×Nat):=match g.lp with
 |some (_,rec,q)=>match rec.state with
  | .ready=>some q
  |_=>none
 |none=>none
def GA.tm(g:GA):Act:=match g.lp with
 |none=>g.act
 |some (L,_)=>{ g.act with tmps:=g.act.tmps.push (.func (.yield L) #[] #[]) }
def LpOK(P:Program)(x:Nat×Loop×Nat×Nat)(a:Act):Prop:=x.2.1.tmps=a.tmps/\x.2.1.pending=none/\∃g,rfAt P x.2.2.1 x.2.2.2=some (g,x.2.1.params,x.2.1.assign,x.2.1.body)
def mkD(D:Nat):Deferred:={ target:=.collected D,args:=#[] }
def mks(a:Act)(gs:List GA):List Deferred:=a.defers++gs.flatMap (·.act.defers)
theorem yby{a a':Act}{gs:List GA}(h:a'.defers=a.defers):mks a gs=mks a' gs:=by unfold mks;rw[h]
def lps(gs:List GA):List (Nat×Loop×Nat×Nat):=gs.filterMap (·.lp)
structure Mk(r0 ro:Nat->Prop)(w:World)(l:List Deferred)(ps:List (Nat×Loop×Nat×Nat)):Prop where
 df:∃Ds:List Nat,l=Ds.map mkD/\Ds.Nodup/\∀D∈Ds,ro D/\¬r0 D/\w.heap[D]? = some (.deferred (some []))
 lp :(ps.map (·.1)).Nodup/\∀p∈ps,ro p.1/\¬r0 p.1/\w.heap[p.1]? = some (.loop p.2.1)
structure EvM(B:Nat)(r0:Nat->Prop)(wI:World)(l:List Deferred)(ps:List (Nat×Loop×Nat×Nat))(ro:Nat->Prop)(w:World):Prop where
 ev:Evo B r0 wI ro w
 bk:Mk r0 ro w l ps
theorem EvM.trans{B:Nat}{r0 ro ro':Nat->Prop}{wI w w':World}{l:List Deferred}{ps:List (Nat×Loop×Nat×Nat)}(h:EvM B r0 wI l ps ro w)(k:Evo B ro w ro' w'):EvM B r0 wI l ps ro' w':=by obtain⟨Ds,h1,h2,h3⟩:=h.bk.df;exact⟨h.ev.trans k,⟨Ds,h1,h2,λD hD=>let ⟨a,b,c⟩:=h3 D hD;⟨k.1 D a,b,(k.2.1 D a).trans c⟩⟩,h.bk.lp.1,λp hp=>let ⟨a,b,c⟩:=h.bk.lp.2 p hp;⟨k.1 _ a,b,(k.2.1 _ a).trans c⟩⟩
theorem EvM.up{B:Nat}{r0 ro ro':Nat->Prop}{wI w:World}{l:List Deferred}{ps:List (Nat×Loop×Nat×Nat)}(h:EvM B r0 wI l ps ro w)(e:Evo B r0 wI ro' w)(hrr:∀b,ro b->ro' b):EvM B r0 wI l ps ro' w:=by obtain⟨Ds,h1,h2,h3⟩:=h.bk.df;exact⟨e,⟨Ds,h1,h2,λD hD=>let ⟨a,b,c⟩:=h3 D hD;⟨hrr D a,b,c⟩⟩,h.bk.lp.1,λp hp=>let ⟨a,b,c⟩:=h.bk.lp.2 p hp;⟨hrr _ a,b,c⟩⟩
def Stk[Dr](A:Asg)(ro:Nat->Prop)(w:World):List (Fm V.T)->List GA->Prop
 | [],[]=>True
 |f::fs,a::as=>(za (slD V P A f.gb f.sl) a.tm ro w/\chP f.gb f.kn/\GbOK f/\(∀x,a.lp=some x->LpOK P x a.act)/\a.tm.tmps.size=f.n)/\Stk A ro w fs as
 |_,_=>False
variable{V P}
theorem Stk.ext[Dr]{A B:Asg}(hAB:AExt A B){base:Nat}{ro ro':Nat->Prop}{w w':World}(he:Evo base ro w ro' w'):∀{fs:List (Fm V.T)}{as:List GA},Stk V P A ro w fs as->Stk V P B ro' w' fs as
 | [],[],_=>trivial
 |f::fs,a::as,h=>⟨⟨zje V P hAB (h.1.1.evo he),h.1.2⟩,Stk.ext hAB he h.2⟩
 | [],_::_,h=>h.elim
 |_::_,[],h=>h.elim
variable(V)
def SatS[Dr](C:Cx P)(acts:List GA)(s:SS V.T)(a:Act)(w:World):Prop:=
 True/\a.tmps.size=s.n/\chP s.gb s.kn/\GbOK s.toFm/\∃A ro S,A.length=s.ob.length/\WInv C.w0 C.base (obD V P A A s.ob) ro S w/\EvM C.base C.r0 C.wI (mks a acts) (lps acts) ro w/\
  za (slD V P A s.gb s.sl) a ro w/\Stk V P A ro w s.stk acts
end
end Px
end
section
namespace Px
open Go Go.RowKit
section
variable{V:TE}{N:Env V}{R:Type}{r:R}{C:Cx N.P}{A:Asg}{s:SS V.T}
def LOK[Dr](V:TE)(P:Program){R:Type}(r:R)(A:Asg)(s:SS V.T)(k:SV V.T->SS V.T->Option R)(x:VP)(objs:List HP):Prop:=∃(B:Asg)(ob':List (SO V.T))(v:SV V.T),k v { s with ob:=ob' } = some r/\(A++B).length=ob'.length/\Ent x (v.den V P (A++B))/\ObW objs (obD V P (A++B) (A++B) ob')
theorem zdw(A:Asg)(b:Nat×Value)(n:Nat)(h:A.length=n):(A++[b])[n]? = some b:=by subst h;simp
theorem z88.app:∀{a b c d:List HP},a.length=b.length->z88 a b->z88 c d->z88 (a++c) (b++d)
 | [],[],_,_,_,_,h=>h
 |x::a,y::b,c,d,hl,h,k=>⟨h.1,z88.app (by simpa using hl) h.2 k⟩
 | [],_::_,_,_,hl,_,_=>by simp at hl
 |_::_,[],_,_,hl,_,_=>by simp at hl
theorem z50[Dr]{P:Program}{A B:Asg}{ob:List (SO V.T)}(hl:A.length=ob.length){H:List HP}{us:List (SO V.T)}(hH:z88 H (obD V P (A++B) B us)):ObW (obD V P A A ob++H) (obD V P (A++B) (A++B) (ob++us)):=by rw[zy4 V P A ob B us hl];refine ObW.le (z88.app ?_ (zt4 V P (AExt.app A B) A ob) hH);rw[zen V P A ob hl,zen V P A ob hl]
theorem ce2[Dr]{P:Program}{A:Asg}(hkn:chP s.gb s.kn)(h1:OneA V A s.ob){o:Operand}{x:SV V.T}(h:evO s.sl s.kn o=some x)(hs:storable V s.ob x=true):Ce (s.st V P A) o (denL V P A (cellsOf x)):=ylo V P h1 hs (z0t V P h hkn)
theorem yln[Dr](hl:A.length=s.ob.length)(hkn:chP s.gb s.kn)(h1:OneA V A s.ob){t ty:TypeId}{x:Operand}{k:SV V.T->SS V.T->Option R}(h:z4z V N s (.box t x) ty k=some r)(dst pos after guard):
  OpT C ⟨dst,.box t x,ty,pos,after,guard⟩ (s.st V N.P A) (LOK V N.P r A s k):=by
 simp only[z4z] at h;split at h
 .rename_i v hv;cases hs:storable V s.ob v with
  |false=>rw[hs] at h;cases h
  |true=>
   rw[hs] at h;simp only[cond_true] at h;refine ynw (ce2 hkn h1 hv hs) λb=>⟨[(b,undef)],_,_,h,by simp[hl],?_,?_⟩
   .simp only[SV.den,zdw A _ _ hl];exact Ent.refl
   .refine z50 hl (us:=[.box t (cellsOf v)]) ⟨?_,trivial⟩;exact λS r w ⟨hS,cur,hc,hh⟩=>⟨hS,cur,hc,zpu (z08 V N.P (AExt.app A _) _) hh⟩
 .cases h
theorem ye2[Dr](hl:A.length=s.ob.length){t ty:TypeId}{k:SV V.T->SS V.T->Option R}(h:z4z V N s (.alloc t) ty k=some r)(dst pos after guard):
  OpT C ⟨dst,.alloc t,ty,pos,after,guard⟩ (s.st V N.P A) (LOK V N.P r A s k):=by
 simp only[z4z] at h;split at h
 .rename_i zs hz;cases hs:zjq V (V.zero (V.code t)) zs with
  |false=>
   rw[hs] at h;simp only[cond_false] at h;cases h2:zs.all (·.oneCell') with
   |false=>rw[h2] at h;cases h
   |true=>
    rw[h2] at h;simp only[cond_true] at h;refine ycd zs hz h2 λb=>⟨[(b,undef)],_,_,h,by simp[hl],?_,?_⟩
    .simp only[SV.den,zdw A _ _ hl];exact Ent.refl
    .refine z50 hl (us:=[.box t (zs.map zy6)]) ⟨?_,trivial⟩;simp only[SO.den];rw[y5q V N.P zs];exact EntH.refl
  |true=>
   rw[hs] at h;simp only[cond_true] at h;obtain⟨_,e2⟩:=zlv V N.P (A:=A) hs;refine ycd zs hz e2 λb=>⟨[(b,undef)],_,_,h,by simp[hl],?_,?_⟩
   .simp only[SV.den,zdw A _ _ hl];exact Ent.refl
   .refine z50 hl (us:=[.box t (fixZ V (V.zero (V.code t)))]) ⟨?_,trivial⟩;simp only[SO.den];rw[(zlv V N.P (A:=A++[(b,undef)]) hs).1];exact EntH.refl
 .cases h
theorem y7v[Dr]{P:Program}{C:Cx P}{s:St}{pos:String}{after:Array Edge}{guard:Option (Nat×Bool)}{ty:TypeId}{K:VP->List HP->Prop}(i:Nat){t T:TypeId}{g:Bool}{n b off:Nat}{x y:Operand}{cells cs out:List VP}(ht:z60 P t=some (g,n))(hx:Ev s x (eqv (.pointer (some ⟨b,off,none⟩))))(hy:Ce s y cs)(ho:s.objs[i]? = some (box b T cells))
  (hl:cs.length=n) (hb:off+n<=cells.length) (hout:cells.take off++cs++cells.drop (off+n)=out)
  (k:K topv (s.objs.set i (box b T out))):OpT C ⟨none,.store t x y,ty,pos,after,guard⟩ s K:=ykl i ht hx hy ho hl hb hout k
theorem zem[Dr]{P:Program}{s:St}{x:Operand}{C:Cx P}{o:Oper}{K:VP->List HP->Prop}(h:Ev s x nov):OpT C o s K:=λa w r S Q hd hn hw hs=>(h a r w hs).elim
theorem zf1{α:Type}(l:List α)(i:Int)(x:α):(zk l i x).length=l.length:=by simp[zk]
theorem OpT.pure[Dr]{P:Program}{C:Cx P}{o:Oper}{s:St}{K:VP->List HP->Prop}{x:Operand}{F:Prop}{u:Value}(hx:Ev s x ⟨λ_ _ v=>F/\v=u,λ_ _ h=>h⟩)(h:F->Ev s x (eqv u)->OpT C o s K):OpT C o s K:=λa w ro S Q hd hn hw hs=>h (hx a ro w hs).1 (λa ro w hs=>(hx a ro w hs).2) a w ro S Q hd hn hw hs
theorem y5l{E cs:List VP}{o sz:Nat}(L M:List VP)(fo n:Nat)(h:L.drop o=E++M)(hE:E.length=sz)(hf:fo+n<=sz)(hc:cs.length=n):
  L.take (o+fo)++cs++L.drop (o+fo+n)=L.take o++(E.take fo++cs++E.drop (fo+n))++L.drop (o+sz):=by
 have hM:L.drop (o+sz)=M:=by rw[<- w37,h,List.drop_left' hE]
 have h1:L.take (o+fo)=L.take o++E.take fo:=by rw[List.take_add,h,w24 (by omega)]
 have h2:L.drop (o+fo+n)=E.drop (fo+n)++M:=by rw[w2b,<- w37,h,w2f (by omega)]
 rw[h1,h2,hM];simp only[w0q]
theorem ye4{V:TE}{pre post:List VP}{m c idx off:Nat}{f:Nat->V.T c}(hp:pre.length=off)(hlt:idx+1<=m):
  (pre++Px.arr m (V.ev c) f++post).drop (off+idx*V.sz c)=V.ev c (f idx)++(pre++Px.arr m (V.ev c) f++post).drop (off+idx*V.sz c+V.sz c):=by
 have h1:=y0n (N:=m) (k:=idx) (f:=f) (V.ev_len c) hlt;have h3:=zn6 (N:=m) (f:=f) (V.ev_len c);have h4 :(idx+1)*V.sz c<=m*V.sz c:=w12 _ hlt;rw[w15] at h4;have:=w0h (V.sz c) ((pre++Px.arr m (V.ev c) f++post).drop (off+idx*V.sz c));rw[<- this,w37];congr 1;rw[<- h1,w0q,w55,List.drop_eq_nil_of_le (as:=pre) (by omega),w2u,hp,w3c,w2f (by omega),w24 (by rw[w4b];omega)]
theorem yh7[Dr](hl:A.length=s.ob.length)(hkn:chP s.gb s.kn)(h1:OneA V A s.ob){t ty:TypeId}{a x:Operand}{k:SV V.T->SS V.T->Option R}(h:z4z V N s (.store t a x) ty k=some r)(pos after guard):
  OpT C ⟨none,.store t a x,ty,pos,after,guard⟩ (s.st V N.P A) (LOK V N.P r A s k):=by
 simp only[z4z] at h;split at h
 .rename_i g n p v ht hp hv;have hp':=z0t V N.P (A:=A) hp hkn;have hv':=z0t V N.P (A:=A) hv hkn
  -- how the objects go on
  have fin:∀(i:Nat)(q:Nat×Value)(o':SO V.T)(H:HP),A[i]? = some q->i<s.ob.length->EntH H (o'.den V N.P A q)->k .top (updO V s i o')=some r->LOK V N.P r A s k topv ((s.st V N.P A).objs.set i H):=by
   intro i q o' H ha hi hH hk;refine⟨[],s.ob.set i o',.top,hk,by simp[hl],Ent.refl,?_⟩;rw[w09,z5h V N.P A s.ob i q o' ha];refine ObW.le ?_;have key:∀(l:List HP)(i:Nat),z88 (l.set i H) (l.set i (o'.den V N.P A q)):=by
    intro l
    induction l with
    |nil=>intro i;trivial
    |cons y l ih=>
     intro i;cases i with
     |zero=>exact⟨hH,by induction l with|nil=>trivial|cons z l ih2=>exact⟨EntH.refl,ih2 (λi=>(ih (i+1)).2)⟩⟩
     |succ i=>exact⟨EntH.refl,ih i⟩
   exact key _ i
  cases p with
  |ptr i off=>
   simp only[stoX] at h;split at h
   .rename_i T cs ho;cases hs :(storable V s.ob v&&Nat.beq n (clen V (cellsOf v))) with
    |false=>rw[hs] at h;cases h
    |true=>
     rw[hs] at h;simp only[w04] at hs;have en:=w02 hs.2;simp only[cond_true] at h;split at h
     .rename_i cs' hcs;obtain⟨e,hle⟩:=zv6 V N.P (A:=A) hcs;simp only[SV.den] at hp';cases ha:A[i]? with
      |none=>rw[ha] at hp';exact zem hp'
      |some q=>rw[ha] at hp';refine y7v i ht hp' (ce2 hkn h1 hv hs.1) (zg V N.P ha ho) (by rw[zhf];exact en.symm) hle rfl ?_;exact fin i q (.box T cs') _ ha (w03.1 ho).1 (by simp only[SO.den,e];exact EntH.refl) h
     .cases h
   .cases h
  |pta i off m z idx cnt fo=>
   simp only[stoX] at h;split at h
   .rename_i T cs y ho hy;split at h
    .rename_i pre m' c f post hpre hcd;cases hb :(Nat.beq m m'&&Nat.beq z (V.sz c)&&Nat.beq cnt 1&&Nat.beq n (V.sz (V.code t))) with
     |false=>rw[hb] at h;cases h
     |true=>
      rw[hb] at h;simp only[w04] at hb;have e1:=w02 hb.1.1.1;have e2:=w02 hb.1.1.2;have e3:=w02 hb.1.2;have e4:=w02 hb.2;subst e1;subst e2;subst e3;simp only[cond_true] at h;split at h
      .rename_i cs' hcs;split at h
       .rename_i y' hy';obtain⟨e,hle⟩:=zv6 V N.P (A:=A) hcs;have e5:=y45 (zkk (P:=N.P) (A:=A) (R:=Eq) zwx zwy (λ_=>rfl) (λ_ _ _ h=>zww h) hy');rw[e,z1b,z1b] at e5;rw[z1b,V.ev_len] at hle;obtain⟨p1,_⟩:=zo7 V N.P (A:=A) cs off pre hpre;obtain⟨p2,p3⟩:=zfl V N.P (A:=A) cs off _ hcd;have hsplit:denL V N.P A cs=denL V N.P A pre++Px.arr m (V.ev c) f++denL V N.P A post:=by have:=w0h off (denL V N.P A cs);rw[<- p1,<- p2] at this;simpa only[denL,w0q] using this.symm
        have hpl :(denL V N.P A pre).length=off:=by rw[p1,w1d];omega
        simp only[SV.den] at hp';cases ha:A[i]? with
        |none=>rw[ha] at hp';exact zem hp'
        |some q=>
         rw[ha] at hp';have hob:=zg V N.P (A:=A) (ps:=A) ha ho;simp only[SO.den] at hob;have hce:Ce (s.st V N.P A) x (V.ev (V.code t) y):=yei (Ev.ent' hv' (z8b V N.P hy));refine OpT.pure hp' λhlt hp2=>?_
         rw[hsplit] at hob;refine y7v (out:=denL V N.P A pre++Px.arr m (V.ev c) (upd f idx y')++denL V N.P A post) i ht hp2 hce hob (by rw[V.ev_len];exact e4.symm) ?_ ?_ ?_
         .have h3:=zn6 (N:=m) (f:=f) (V.ev_len c);have h4 :(idx+1)*V.sz c<=m*V.sz c:=w12 _ hlt;rw[w15] at h4;simp only[w0d,h3,hpl];omega
         .rw[<- zwe (y:=y') (off:=off+idx*V.sz c) (n:=V.sz c) (V.ev_len c) (by rw[hpl]) hlt rfl rfl,<- e5];exact y5l _ _ fo n (ye4 hpl hlt) (V.ev_len c _) (by omega) (by rw[V.ev_len];exact e4.symm)
         .refine fin i q (.box T (pre++.arr m c (upd f idx y')::post)) _ ha (w03.1 ho).1 ?_ h;simp only[SO.den,z20,denL,w0q];exact EntH.refl
       .cases h
      .cases h
    .cases h
   .cases h
  |elt i j z fo=>
   simp only[stoX] at h;split at h
   .rename_i E E2 c l hh ho;split at h
    .rename_i qq;cases hb :(Nat.beq z 1&&Nat.beq fo 0&&Nat.beq n 1&&oneS V s.ob (.own qq)) with
     |false=>rw[hb] at h;cases h
     |true=>
      rw[hb] at h;simp only[cond_true] at h;simp only[w04] at hb;have e1:=w02 hb.1.1.1;have e2:=w02 hb.1.1.2;have e3:=w02 hb.1.2;have hone:=(ycc V N.P h1 hb.2).1;subst e1;subst e2;subst e3;simp only[SV.den] at hp' hv' hone;cases ha:A[i]? with
      |none=>rw[ha] at hp';exact zem hp'
      |some q=>
       cases hq:A[qq]? with
       |none=>rw[hq] at hv';exact zem hv'
       |some p=>
        rw[ha] at hp';rw[hq] at hv' hone;refine yi0 ha ho λhprop=>?_
        have main:k .top (updO V s i (.x (.nst E E2 c l (some (j,qq)))))=some r->(∀p,zkx A hh=some p->p.1=j.toNat)->
          OpT C ⟨none,.store t a x,ty,pos,after,guard⟩ (s.st V N.P A) (LOK V N.P r A s k):=by
         intro hk hhole;refine OpT.weak (s':=⟨(s.st V N.P A).slots,(s.st V N.P A).objs.set i (nst E (V.inn E2 c) l (zkx A hh) q.2)⟩) (λ_ _ _ h=>h) (ObW.set' (zg V N.P ha ho) λS r w h=>h.2) ?_;have hil:i<(s.st V N.P A).objs.length:=(w03.1 (zg V N.P (A:=A) (ps:=A) ha ho)).1;have hget :((s.st V N.P A).objs.set i (nst E (V.inn E2 c) l (zkx A hh) q.2))[i]? = some (nst E (V.inn E2 c) l (zkx A hh) q.2):=by rw[w1p hil]
         intro aa w ro S Q hd hn hw hsl;obtain⟨g',n',cap,h3,h4,h5,h6⟩:=hp' aa ro w hsl;have hlen:n'=l.length:=by
          obtain⟨vs,S0,Sk,hvl,h7,_⟩:=hw.obj i _ hget;rcases h7 with⟨hx,_⟩|⟨g2,cap',cur,hv3,_⟩
          .rw[h3] at hx;cases hx
          .rw[h3] at hv3;simp only[Value.slice.injEq] at hv3;rw[<- hvl];exact hv3.2.1
         subst hlen;refine ydh (s:=⟨(s.st V N.P A).slots,(s.st V N.P A).objs.set i (nst E (V.inn E2 c) l (zkx A hh) q.2)⟩) (v:=p.2) (l:=l) i ht (k:=j.toNat) (Ev.ent' hp' ?_) (Ce.one hv' hone) hget hhole (by omega) ?_ aa w ro S Q hd hn hw hsl
         .rintro r w v ⟨g,n,cap,h1,h2,_⟩;exact⟨g,n,cap,h1,by simpa using h2⟩
         .rw[w3a];refine fin i q (.x (.nst E E2 c l (some (j,qq)))) _ ha (w03.1 ho).1 ?_ hk;refine λS r w h=>⟨⟨hprop.1,λk2 j2 e2=>?_⟩,?_⟩
          .simp only[w01,w0e] at e2;rw[<- e2.2,hq];rfl
          .simp only[zkx,hq];exact h
        cases hh with
        |none=>exact main h (λp hp=>by cases hp)
        |some jj=>obtain⟨rfl,hk⟩:=zg1 h;exact main hk (λp hp=>by simp only[zkx,w01] at hp;rw[<- hp])
    .cases h
   .rename_i E c l ho;split at h
    rotate_left
    .cases h
    rename_i y hy;cases hb :(Nat.beq z (V.sz c)&&Nat.beq n (V.sz (V.code t))) with
    |false=>rw[hb] at h;cases h
    |true=>
     rw[hb] at h;simp only[w04] at hb;have e1:=w02 hb.1;have e4:=w02 hb.2;subst e1;simp only[cond_true] at h;split at h
     .rename_i cs' hcs;split at h
      .rename_i y' hy';obtain⟨e,hle⟩:=zv6 V N.P (A:=A) hcs;have e5:=y45 (zkk (P:=N.P) (A:=A) (R:=Eq) zwx zwy (λ_=>rfl) (λ_ _ _ h=>zww h) hy');rw[e,z1b,z1b] at e5;rw[z1b,V.ev_len] at hle;simp only[SV.den] at hp';cases ha:A[i]? with
       |none=>rw[ha] at hp';exact zem hp'
       |some q=>
        rw[ha] at hp';have hob:=zg V N.P (A:=A) (ps:=A) ha ho;have hce:Ce (s.st V N.P A) x (V.ev (V.code t) y):=yei (Ev.ent' hv' (z8b V N.P hy));intro aa w ro S Q hd hn hw hsl;obtain⟨g',n',cap,h3,_,h5,h6⟩:=hp' aa ro w hsl;have hlen:n'=l.length:=by
         rcases hw.obj i _ hob with⟨hx,_⟩|⟨g2,cap',cur,hv3,_⟩
         .rw[h3] at hx;cases hx
         .rw[h3] at hv3;simp only[Value.slice.injEq] at hv3;exact hv3.2.1
        subst hlen;refine y7w (k:=j.toNat) (fo:=fo) (z:=gtz (V.z c) l j) (z':=y') i (V.ev_len c) ht (Ev.ent' hp' zxk) hce hob (by rw[V.ev_len];exact e4.symm) rfl (zm4 ⟨h5,h6⟩) hle (by rw[<- e4] at *;exact e5.symm) ?_ aa w ro S Q hd hn hw hsl;exact fin i q (.row E c (zk l j y')) _ ha (w03.1 ho).1 EntH.refl h
      .cases h
     .cases h
   .rename_i E c l ho;split at h
    rotate_left
    .cases h
    rename_i y hy;cases hb :(Nat.beq z (V.sz c)&&Nat.beq n (V.sz (V.code t))) with
    |false=>rw[hb] at h;cases h
    |true=>
     rw[hb] at h;simp only[w04] at hb;have e1:=w02 hb.1;have e4:=w02 hb.2;subst e1;simp only[cond_true] at h;split at h
     .rename_i cs' hcs;split at h
      .rename_i y' hy';obtain⟨e,hle⟩:=zv6 V N.P (A:=A) hcs;have e5:=y45 (zkk (P:=N.P) (A:=A) (R:=Eq) zwx zwy (λ_=>rfl) (λ_ _ _ h=>zww h) hy');rw[e,z1b,z1b] at e5;rw[z1b,V.ev_len] at hle;simp only[SV.den] at hp';cases ha:A[i]? with
       |none=>rw[ha] at hp';exact zem hp'
       |some q=>
        rw[ha] at hp';refine ylz ha ho λhprop=>?_
        refine OpT.weak (s':=⟨(s.st V N.P A).slots,(s.st V N.P A).objs.set i (row E (V.ev c) (V.sz c) l q.2)⟩) (λ_ _ _ h=>h) (ObW.set' (zg V N.P ha ho) λS r w h=>h.2) ?_;have hil:i<(s.st V N.P A).objs.length:=(w03.1 (zg V N.P (A:=A) (ps:=A) ha ho)).1;have hob :((s.st V N.P A).objs.set i (row E (V.ev c) (V.sz c) l q.2))[i]? = some (row E (V.ev c) (V.sz c) l q.2):=by rw[w1p hil]
        have hce:Ce (s.st V N.P A) x (V.ev (V.code t) y):=yei (Ev.ent' hv' (z8b V N.P hy));intro aa w ro S Q hd hn hw hsl;obtain⟨g',n',cap,h3,_,h5,h6⟩:=hp' aa ro w hsl;have hlen:n'=l.length:=by
         rcases hw.obj i _ hob with⟨hx,_⟩|⟨g2,cap',cur,hv3,_⟩
         .rw[h3] at hx;cases hx
         .rw[h3] at hv3;simp only[Value.slice.injEq] at hv3;exact hv3.2.1
        subst hlen;refine y7w (s:=⟨(s.st V N.P A).slots,(s.st V N.P A).objs.set i (row E (V.ev c) (V.sz c) l q.2)⟩) (k:=j.toNat) (fo:=fo) (z:=gtz (V.z c) l j) (z':=y') i (V.ev_len c) ht (Ev.ent' hp' zxk) hce hob (by rw[V.ev_len];exact e4.symm) rfl (zm4 ⟨h5,h6⟩) hle (by rw[<- e4] at *;exact e5.symm) ?_ aa w ro S Q hd hn hw hsl;rw[w3a];exact fin i q (.x (.fix E c (zk l j y'))) _ ha (w03.1 ho).1 (λS r w h=>⟨hprop,h⟩) h
      .cases h
     .cases h
   .cases h
  |_=>simp[stoX] at h
 .cases h
end
end Px
end
section
namespace Px
open Go Go.RowKit
section
variable{V:TE}{N:Env V}{R:Type}{r:R}{C:Cx N.P}{A:Asg}{s:SS V.T}
theorem zx6[Dr](hl:A.length=s.ob.length)(hkn:chP s.gb s.kn){t n ty:Nat}{parts:Array (Nat×Operand)}{k:SV V.T->SS V.T->Option R}(h:z4z V N s (.buildSlice t n parts) ty k=some r)(dst pos after guard):
  OpT C ⟨dst,.buildSlice t n parts,ty,pos,after,guard⟩ (s.st V N.P A) (LOK V N.P r A s k):=by
 simp only[z4z] at h;split at h
 .rename_i E z by' ht;split at h
  .rename_i l hel;cases hb :(Nat.beq z (V.sz (V.code E))&&Nat.beq l.length n&&Nat.ble (n*z) 16777216) with
   |false=>rw[hb] at h;cases h
   |true=>
    rw[hb] at h;simp only[w04] at hb;have e1:=w02 hb.1.1;have e2:=w02 hb.1.2;have e3:=w0v hb.2;subst e1;simp only[cond_true] at h;refine zrq l ht (V.ev_len _) e2 e3 (zxj hkn hel) λv'=>⟨[(0,v')],_,_,h,by simp[hl],?_,?_⟩
    .simp only[SV.den,zdw A _ _ hl];exact Ent.refl
    .exact z50 hl (us:=[.row E (V.code E) l]) ⟨EntH.refl,trivial⟩
  .cases h
 .cases h
theorem y3q[Dr]{P:Program}{x y:Operand}{k1 k2:IntKind}{n n':Int}(hs:z4z.sameO x y=true)(hkn:chP s.gb s.kn)(hx:evO s.sl s.kn x=some (.int k1 n))(hy:evO s.sl s.kn y=some (.int k2 n')):Ev (s.st V P A) y (iv k2 n):=by
 have h2:=z0t V P (A:=A) hy hkn;unfold z4z.sameO at hs;split at hs
 .have:=w02 hs
  subst this;rw[hx] at hy;simp only[w01,SV.int.injEq] at hy;obtain⟨rfl,rfl⟩:=hy;exact h2
 .rename_i q a q' b;simp only[decide_eq_true_eq] at hs;subst hs;simp only[evO,zy6,w01,SV.int.injEq] at hx hy;obtain⟨_,rfl⟩:=hx;obtain⟨_,rfl⟩:=hy;exact h2
 .cases hs
theorem yk6{T:Nat->Type}{α:Type}{d:Ds T α}{x:α}(h:nilD d x=true):(zfh d x).2 = []:=by cases d<;>simp[nilD] at h;exact h
theorem y2l[Dr](hl:A.length=s.ob.length)(hkn:chP s.gb s.kn){t ty:Nat}{x y:Operand}{k:SV V.T->SS V.T->Option R}(h:z4z V N s (.makeSlice t x y) ty k=some r)(dst pos after guard):
  OpT C ⟨dst,.makeSlice t x y,ty,pos,after,guard⟩ (s.st V N.P A) (LOK V N.P r A s k):=by
 simp only[z4z] at h;split at h
 .rename_i E z by' q n q' n' ht hx hy;have hx:=zr hx;have hy:=zr hy;split at h
  .rename_i zs hz;cases hsl:y2c (V.d (V.code E)) with
   |true=>
    rw[hsl] at h;simp only[cond_true] at h;split at h
    .rename_i E2 hu;cases hb :(z4z.sameO x y&&Nat.beq z 1&&zmN zs&&nilD (V.d (V.code E)) (V.z (V.code E))) with
     |false=>rw[hb] at h;cases h
     |true=>
      rw[hb] at h;simp only[w04] at hb;have e1:=w02 hb.1.1.2;subst e1;simp only[cond_true] at h;obtain⟨hm,hk⟩:=zg1 h;have hzs:zs = [.slice none 0 0]:=by
       have h5:=hb.1.2;unfold zmN at h5;split at h5
       .rfl
       .cases h5
      subst hzs;refine yi2 (e:=λv:Value=>[eqv v]) (Value.slice none 0 0) _ ht (λ_=>rfl) hz rfl rfl (z0t V N.P hx hkn) (y3q hb.1.1.1 hkn hx hy) hm.1 hm.2.1 hm.2.2 λv' _=>⟨[(0,v')],_,_,hk,by simp[hl],?_,?_⟩
      .simp only[SV.den,zdw A _ _ hl];exact Ent.refl
      .refine z50 hl (us:=[.x (.nst E E2 (V.code E) (List.replicate n.toNat (V.z (V.code E))) none)]) ⟨?_,trivial⟩;intro S r w h;exact⟨⟨hsl,λk j e=>by cases e⟩,yl4 (.inl ⟨rfl,yk6 hb.2⟩) h⟩
    .cases h
   |false=>
   rw[hsl] at h;simp only[cond_false] at h;cases hb :(z4z.sameO x y&&Nat.beq z (V.sz (V.code E))&&zmL V (V.enc (V.code E) (V.z (V.code E))) zs) with
   |false=>rw[hb] at h;cases h
   |true=>
    rw[hb] at h;simp only[w04] at hb;have e1:=w02 hb.1.2;subst e1;simp only[cond_true] at h;obtain⟨hm,hk⟩:=zg1 h;obtain⟨e2,e3,_⟩:=y89 V N.P (A:=A) hb.2;rw[z1b] at e2;refine yi2 (V.z (V.code E)) zs ht (V.ev_len _) hz e3 e2 (z0t V N.P hx hkn) (y3q hb.1.1 hkn hx hy) hm.1 hm.2.1 hm.2.2 λv' hv'=>⟨[(0,v')],_,_,hk,by simp[hl],?_,?_⟩
    .simp only[SV.den,zdw A _ _ hl];exact Ent.refl
    .cases hbl:y54 (V.d (V.code E)) with
     |false=>exact z50 hl (us:=[.row E (V.code E) (List.replicate n.toNat (V.z (V.code E)))]) ⟨EntH.refl,trivial⟩
     |true=>exact z50 hl (us:=[.x (.fix E (V.code E) (List.replicate n.toNat (V.z (V.code E))))]) ⟨λS r w h=>⟨⟨hbl,hv'⟩,h⟩,trivial⟩
  .cases h
 .cases h
theorem y8v[Dr](hl:A.length=s.ob.length){t ty:Nat}{hint:Option Operand}{k:SV V.T->SS V.T->Option R}(h:z4z V N s (.makeMap t hint) ty k=some r)(dst pos after guard):
  OpT C ⟨dst,.makeMap t hint,ty,pos,after,guard⟩ (s.st V N.P A) (LOK V N.P r A s k):=by
 cases hint with
 |some o=>simp[z4z,zf] at h
 |none=>
  simp only[z4z] at h;split at h
  .rename_i kt et hu;refine y91 (κ:=V.T (V.code kt)) (ν:=V.T (V.code et)) (e:=V.kl (V.code kt)) (eK:=V.kv (V.code kt)) (I:=V.inm (match N.P.underlying et with|some (.slice E)=>E|_=>0) (V.code et)) λb=>⟨[(b,.map (some b))],_,_,h,by simp[hl],?_,?_⟩
   .simp only[SV.den,zdw A _ _ hl];exact Ent.refl
   .refine z50 hl (us:=[.x (.map (V.code kt) (V.code et) (match N.P.underlying et with|some (.slice E)=>E|_=>0) [] none)]) ⟨?_,trivial⟩;exact λS r w h=>⟨⟨rfl,λ_ _ q=>by cases q⟩,h⟩
  .cases h
theorem ygn[Dr](hl:A.length=s.ob.length)(hkn:chP s.gb s.kn){t ty:Nat}{x:Operand}{k:SV V.T->SS V.T->Option R}(h:z4z V N s (.range t x) ty k=some r)(dst pos after guard):
  OpT C ⟨dst,.range t x,ty,pos,after,guard⟩ (s.st V N.P A) (LOK V N.P r A s k):=by
 simp only[z4z] at h;have fin:∀{kc vc kt et:Nat}{m:List (V.T kc×V.T vc)},N.P.underlying t=some (.map kt et)->Ev (s.st V N.P A) x (romE (V.kl kc) (V.kv kc) (λy=>V.vl vc y) m)->k (.own s.ob.length) { s with ob:=s.ob++[.x (.it kc vc m none)] } = some r->
   OpT C ⟨dst,.range t x,ty,pos,after,guard⟩ (s.st V N.P A) (LOK V N.P r A s k):=by
  intro kc vc kt et m hu hx h;refine yfw hu hx λb=>⟨[(b,.pointer (some ⟨b,0,none⟩))],_,_,h,by simp[hl],?_,?_⟩
  .simp only[SV.den,zdw A _ _ hl];exact Ent.refl
  .refine z50 hl (us:=[.x (.it kc vc m none)]) ⟨?_,trivial⟩;exact λS r w h=>⟨rfl,h⟩
 split at h
 .rename_i kt et kc vc m hu hx;have hx':=z0t V N.P (A:=A) hx hkn;simp only[SV.den,y8w] at hx';exact fin hu hx' h
 .rename_i kt et hu hx;have hx':=z0t V N.P (A:=A) hx hkn;refine fin hu (hx'.ent' ?_) h;rw[<- y8w];exact zr5
 .cases h
theorem y5d[Dr](hl:A.length=s.ob.length){j kc vc E:Nat}{m m':List (V.T kc×V.T vc)}{hh hh':Option (V.T kc×Nat)}{q:Nat×Value}(ha:A[j]? = some q){k:SV V.T->SS V.T->Option R}{y:SV V.T}{x:VP}(hx:Ent x (y.den V N.P A))
  (hq:q.2 = .map (some q.1)) (hs:∀k i,hh'=some (k,i)->(A[i]?).isSome=true) (hk:k y (updO V s j (.x (.map kc vc E m' hh')))=some r):LOK V N.P r A s k x (((s.st V N.P A).objs.set j (nmp q.1 (V.kl kc) (V.kv kc) (V.inm E vc) m (ze8 A hh))).set j (nmp q.1 (V.kl kc) (V.kv kc) (V.inm E vc) m' (ze8 A hh'))):=by
 refine⟨[],s.ob.set j (.x (.map kc vc E m' hh')),y,hk,by simp[hl],by rw[w09];exact hx,?_⟩;rw[w09,z5h V N.P A s.ob j q _ ha,w3a];exact ObW.le (zm8 (show EntH (nmp q.1 (V.kl kc) (V.kv kc) (V.inm E vc) m' (ze8 A hh')) ((SO.x (.map kc vc E m' hh'):SO V.T).den V N.P A q) from λS r w h=>⟨⟨hq,hs⟩,h⟩) _ _)
theorem y7m[Dr]{j kc vc E:Nat}{m:List (V.T kc×V.T vc)}{hh:Option (V.T kc×Nat)}{q:Nat×Value}{o:Oper}{K:VP->List HP->Prop}(ha:A[j]? = some q)(ho:s.ob[j]? = some (.x (.map kc vc E m hh)))
  (h:q.2 = .map (some q.1)->(∀k i,hh=some (k,i)->(A[i]?).isSome=true)->((s.st V N.P A).objs.set j (nmp q.1 (V.kl kc) (V.kv kc) (V.inm E vc) m (ze8 A hh)))[j]? = some (nmp q.1 (V.kl kc) (V.kv kc) (V.inm E vc) m (ze8 A hh))->
   OpT C o ⟨(s.st V N.P A).slots,(s.st V N.P A).objs.set j (nmp q.1 (V.kl kc) (V.kv kc) (V.inm E vc) m (ze8 A hh))⟩ K):OpT C o (s.st V N.P A) K:=by
 refine zws ha ho λhq hs=>?_
 have hget:=zg V N.P (A:=A) (ps:=A) ha ho;have hlt:j<(s.st V N.P A).objs.length:=(w03.1 hget).1;exact OpT.weak (s':=⟨(s.st V N.P A).slots,(s.st V N.P A).objs.set j (nmp q.1 (V.kl kc) (V.kv kc) (V.inm E vc) m (ze8 A hh))⟩) (λ_ _ _ h=>h) (ObW.set' hget λS r w h=>h.2) (h hq hs (by rw[w1p hlt]))
theorem y2m[Dr](hl:A.length=s.ob.length)(hkn:chP s.gb s.kn){t ty:Nat}{x i y:Operand}{k:SV V.T->SS V.T->Option R}(h:z4z V N s (.mapUpdate t x i y) ty k=some r)(pos after guard):
  OpT C ⟨none,.mapUpdate t x i y,ty,pos,after,guard⟩ (s.st V N.P A) (LOK V N.P r A s k):=by
 simp only[z4z] at h;split at h
 .rename_i j u v hx hi hy;split at h
  .rename_i kc vc E m hh ho;split at h
   .rename_i et key hm hd;obtain⟨kt,ht,hk⟩:=zu0 hm;have hx':=z0t V N.P (A:=A) hx hkn;have hi':=((z0t V N.P (A:=A) hi hkn).ent' (z8b V N.P hd)).ent' (y3y hk);have hy0:=z0t V N.P (A:=A) hy hkn;simp only[SV.den] at hx';cases ha:A[j]? with
    |none=>rw[ha] at hx';exact zem hx'
    |some q=>
     rw[ha] at hx';refine y7m ha ho λhq hs' hget=>?_
     have hx2:Ev (s.st V N.P A) x (eqv (.map (some q.1))):=by rw[<- hq];exact hx'
     cases hs:zfa (V.d vc) with
     |true=>
      rw[hs] at h;simp only[cond_true] at h;split at h
      .rename_i val hv;have hy':=hy0.ent' (z8b V N.P hv);rw[ydq V hs] at hy';exact zrp (s:=⟨(s.st V N.P A).slots,(s.st V N.P A).objs.set j (nmp q.1 (V.kl kc) (V.kv kc) (V.inm E vc) m (ze8 A none))⟩) (z:=val) (hole':=none) j (zg5 hk) ht hget hx2 hi' hy' (λq hq=>by cases hq) (.inl ⟨rfl,λS r w=>by rw[y2b hs];rfl⟩)
        (y5d hl ha (hh:=none) (hh':=none) (y:=.top) Ent.refl hq (λ_ _ q=>by cases q) h)
      .cases h
     |false=>
      rw[hs] at h;simp only[cond_false] at h;split at h
      .rename_i q2;simp only[SV.den] at hy0;cases ha2:A[q2]? with
       |none=>rw[ha2] at hy0;exact zem hy0
       |some p2=>
        rw[ha2] at hy0;have hsome:∀k i,some (key,q2)=some (k,i)->(A[i]?).isSome=true:=λk i e=>by cases e;rw[ha2];rfl
        have hhole:ze8 A (some (key,q2))=some (key,p2.2):=by simp only[ze8,ha2]
        have fin :(∀p,ze8 A hh=some p->V.kl kc p.1=V.kl kc key)->k .top (updO V s j (.x (.map kc vc E (cset (V.kl kc) m key (V.z vc)) (some (key,q2)))))=some r->
          OpT C ⟨none,.mapUpdate t x i y,ty,pos,after,guard⟩ ⟨(s.st V N.P A).slots,(s.st V N.P A).objs.set j (nmp q.1 (V.kl kc) (V.kv kc) (V.inm E vc) m (ze8 A hh))⟩ (LOK V N.P r A s k):=λhc h=>
         zrp (s:=⟨(s.st V N.P A).slots,(s.st V N.P A).objs.set j (nmp q.1 (V.kl kc) (V.kv kc) (V.inm E vc) m (ze8 A hh))⟩) (z:=V.z vc) (hole':=some (key,p2.2)) j (zg5 hk) ht hget hx2 hi' hy0 hc (.inr rfl)
          (hhole ▸ y5d hl ha (hh:=hh) (hh':=some (key,q2)) (y:=.top) Ent.refl hq hsome h)
        split at h
        .exact fin (λp hp=>by cases hp) h
        .rename_i q' j';obtain⟨hc,h⟩:=zg1 h;exact fin (λp hp=>by simp only[ze8,w01] at hp;subst hp;exact hc) h
      .cases h
   .cases h
  .cases h
 .cases h
theorem yad[Dr](hl:A.length=s.ob.length)(hkn:chP s.gb s.kn){ty:Nat}{x i:Operand}{ts:Array TypeId}{k:SV V.T->SS V.T->Option R}(h :(match ts[0]?,evO s.sl s.kn x,evO s.sl s.kn i with
   |some t,some (.own j),some u=>match s.ob[j]? with
    |some (.x (.map kc vc E m none))=>match keyT V N t kc,V.dec (rdSl []) kc u with
     |some _,some key=>k (.val (.tuple #[])) (updO V s j (.x (.map kc vc E (cdel (V.kl kc) m key) none)))
     |_,_=>none
    |_=>none
   |some t,some (.val (.map none)),some u=>match N.P.underlying t with
    |some (.map kt _)=>match keyT V N t (V.code kt),V.dec (rdSl []) (V.code kt) u with
     |some _,some _=>k (.val (.tuple #[])) s
     |_,_=>none
    |_=>none
   |_,_,_=>none)=some r) (dst pos after guard) :
  OpT C ⟨dst,.call { callee:=.builtin .delete,args:=#[x,i],argTypes:=ts },ty,pos,after,guard⟩ (s.st V N.P A) (LOK V N.P r A s k):=by
 split at h
 .rename_i t j u hts hx hi;split at h
  .rename_i kc vc E m ho;split at h
   .rename_i et key hm hd;obtain⟨kt,ht,hk⟩:=zu0 hm;have hx':=z0t V N.P (A:=A) hx hkn;have hi':=((z0t V N.P (A:=A) hi hkn).ent' (z8b V N.P hd)).ent' (y3y hk);simp only[SV.den] at hx';cases ha:A[j]? with
    |none=>rw[ha] at hx';exact zem hx'
    |some q=>
     rw[ha] at hx';refine y7m ha ho λhq _ hget=>?_
     have hx2:Ev (s.st V N.P A) x (eqv (.map (some q.1))):=by rw[<- hq];exact hx'
     exact yc5 (s:=⟨(s.st V N.P A).slots,(s.st V N.P A).objs.set j (nmp q.1 (V.kl kc) (V.kv kc) (V.inm E vc) m (ze8 A none))⟩) j (zg5 hk) ht hget hx2 hi' hts (y5d hl ha (hh:=none) (hh':=none) (y:=.val (.tuple #[])) Ent.refl hq (λ_ _ q=>by cases q) h)
   .cases h
  .cases h
 .rename_i t u hts hx hi;split at h
  .rename_i kt et hu;split at h
   .rename_i et2 key hm hd;obtain⟨kt2,ht,hk⟩:=zu0 hm;have hx':=z0t V N.P (A:=A) hx hkn;have hi':=((z0t V N.P (A:=A) hi hkn).ent' (z8b V N.P hd)).ent' (y3y hk);exact OpT.of_q (y8x (zg5 hk) ht hx' hi' hts) ⟨[],_,_,h,by simp[hl],by rw[w09];exact Ent.refl,by rw[w09];exact ObW.refl⟩
   .cases h
  .cases h
 .cases h
theorem yia[Dr]{P:Program}{C:Cx P}{c:Nat}{y:SV V.T}{m:List (V.T c)}{o:Operand}(hpos:0<V.sz c)(h:srcX V s.ob c y=some m)(hy:Ev (s.st V P A) o (y.den V P A)):Src C (s.st V P A) o m.length (m.flatMap (V.ev c)):=by
 unfold srcX at h;split at h
 .split at h
  .rename_i e;subst e;simp only[w01] at h;subst h;exact Src.ro (V.ev_len _) hpos hy
  .cases h
 .rename_i j;split at h
  .rename_i E c' l ho;split at h
   .rename_i e;subst e;simp only[w01] at h;subst h;simp only[SV.den] at hy;cases ha:A[j]? with
    |none=>rw[ha] at hy;exact λa r S w hw hs=>(hy a r w hs).elim
    |some q=>rw[ha] at hy;exact Src.row j hy (zg V P ha ho)
   .cases h
  .cases h
 .rename_i j lo hi z;split at h
  .rename_i E c' l ho;split at h
   .rename_i e;subst e;cases hb:Nat.beq z (V.sz c') with
    |false=>rw[hb] at h;cases h
    |true=>
     rw[hb] at h;have e:=w02 hb;subst e;simp only[cond_true,w01] at h;subst h;simp only[SV.den] at hy;cases ha:A[j]? with
     |none=>rw[ha] at hy;exact λa r S w hw hs=>(hy a r w hs).elim
     |some q=>rw[ha] at hy;exact Src.prt j (V.ev_len _) hy (zg V P ha ho)
   .cases h
  .cases h
 .simp only[w01] at h;subst h;exact Src.nil hy
 .cases h
theorem yhd[Dr](hl:A.length=s.ob.length){i E c z by' t ty:Nat}{l:List (V.T c)}{y:SV V.T}{x o:Operand}{k:SV V.T->SS V.T->Option R}(h:appX V s ty i E c by' l y k=some r)(ho:s.ob[i]? = some (.row E c l))(ht:tsl N.P t=some (E,z,by'))(hz:z=V.sz c)
  (hby:0<by') (hx:Ev (s.st V N.P A) x ((SV.own i:SV V.T).den V N.P A)) (hy:Ev (s.st V N.P A) o (y.den V N.P A)) (dst pos after guard) :
  OpT C ⟨dst,.call { callee:=.builtin .append,args:=#[x,o],argTypes:=#[t,t] },ty,pos,after,guard⟩ (s.st V N.P A) (LOK V N.P r A s k):=by
 unfold appX at h;subst hz;split at h
 .rename_i m hm;obtain⟨hf,hk⟩:=zg1 h;simp only[SV.den] at hx;cases ha:A[i]? with
  |none=>rw[ha] at hx;exact zem hx
  |some q=>
   rw[ha] at hx;have hob:=zg V N.P (A:=A) (ps:=A) ha ho;obtain⟨_,_,_,_,_,_,_,_,hpos⟩:=zf9 ht;refine yfz i ht (V.ev_len c) hx hob (yia (by simpa using hpos) hm hy) hf (y71 hby hf) λv'=>⟨[(0,v')],_,_,hk,by simp[hl],?_,?_⟩
   .simp only[SV.den];rw[zdw A _ _ hl];exact Ent.refl
   .have hi:=(w03.1 ho).1;have hlen:=zen V N.P (A:=A) A s.ob hl;refine ObW.trans (ObW.mv (i:=i) (H:=row E (V.ev c) (V.sz c) (l++m) v') (by rw[w1p (by simpa[SS.st,hlen] using hi)])) ?_;have e1 :((s.st V N.P A).objs.set i (row E (V.ev c) (V.sz c) (l++m) v')).set i emp=obD V N.P A A (s.ob.set i .emp):=by rw[w3a,z5h V N.P A s.ob i q .emp ha];rfl
    rw[e1];exact z50 (by simp[hl]) (us:=[.row E c (l++m)]) ⟨EntH.refl,trivial⟩
 .cases h
end
end Px
end
