/- A part of the proof of emptiesMatchesReference_holds. Conditions: none. -/
import Derived.Test.YtcofccdjgfgeeaaGreatKiab
set_option linter.unusedVariables false
set_option linter.unusedSimpArgs false
section
namespace Px
open Go Go.RowKit
inductive LC where
 |val (c:Nat)
 |own (j:Nat)
 |ptr (j off:Nat)
 |agg (ls:List LC)
 |func (f:Nat) (ls:List LC)
 |cmp (c:Nat)
 |nil
 |raw (v:Value)
 |rop (c:Nat)
 |rom (kc vc:Nat)
inductive OC where
 |box (t:Nat) (ls:List LC)
 |row (E c:Nat)
 |map (kc vc E:Nat)
 |it (kc vc:Nat)
 |nst (E E2 c:Nat) (h:Option Nat)
 |fix (E c:Nat)
 |emp
structure Sh where
 fr:List (Nat×List (Nat×LC))
 ob:List OC
section
variable(T:Nat->Type)
mutual
def LC.Z(T:Nat->Type):LC->Type->Type
 | .val c,r=>T c×r
 | .cmp c,r=>(T c->T c->Option Int)×r
 | .rop c,r=>T c×r
 | .rom kc vc,r=>List (T kc×T vc)×r
 | .agg ls,r=>Zl T ls r
 | .func _ ls,r=>Zl T ls r
 |_,r=>r
def Zl(T:Nat->Type):List LC->Type->Type
 | [],r=>r
 |l::ls,r=>LC.Z T l (Zl T ls r)
end
def Zs(T:Nat->Type):List (Nat×LC)->Type->Type
 | [],r=>r
 |(_,l)::ls,r=>LC.Z T l (Zs T ls r)
def Zf(T:Nat->Type):List (Nat×List (Nat×LC))->Type->Type
 | [],r=>r
 |(_,l)::ls,r=>Zs T l (Zf T ls r)
def Zo(T:Nat->Type):List OC->Type
 | []=>Unit
 | .box _ ls::os=>Zl T ls (Zo T os)
 | .row _ c::os=>List (T c)×Zo T os
 | .map kc vc _::os=>List (T kc×T vc)×Zo T os
 | .it kc vc::os=>List (T kc×T vc)×Zo T os
 | .nst _ _ c none::os=>List (T c)×Zo T os
 | .nst _ _ c (some _)::os=>List (T c)×Int×Zo T os
 | .fix _ c::os=>List (T c)×Zo T os
 | .emp::os=>Zo T os
def Sh.Z(T:Nat->Type)(h:Sh):Type:=Zf T h.fr (Zo T h.ob)
end
section
variable(V:TE)(N:Env V){R:Type}
mutual
def enV{r:Type}:(l:LC)->LC.Z V.T l r->SV V.T×r
 | .val c,z=>(V.encV c z.1,z.2)
 | .cmp c,z=>(.cmp c z.1,z.2)
 | .agg ls,z=>(.agg (enL ls z).1,(enL ls z).2)
 | .func f ls,z=>(.func f (enW ls z).1,(enW ls z).2)
 | .own j,z=>(.own j,z)
 | .ptr j o,z=>(.ptr j o,z)
 | .nil,z=>(.val (.slice none 0 0),z)
 | .raw v,z=>(.val v,z)
 | .rop c,z=>(.rop (V.enc c z.1),z.2)
 | .rom kc vc,z=>(.rop [.rom kc vc z.1],z.2)
def enL{r:Type}:(ls:List LC)->Zl V.T ls r->List (SV V.T)×r
 | [],z=>([],z)
 | .val c::ls,z=>(V.enc c z.1++(enL ls z.2).1,(enL ls z.2).2)
 |l::ls,z=>((enV l z).1::(enL ls (enV l z).2).1,(enL ls (enV l z).2).2)
def enW{r:Type}:(ls:List LC)->Zl V.T ls r->List (SV V.T)×r
 | [],z=>([],z)
 |l::ls,z=>((enV l z).1::(enW ls (enV l z).2).1,(enW ls (enV l z).2).2)
end
def enS{r:Type}:(ls:List (Nat×LC))->Zs V.T ls r->Sls V.T×r
 | [],z=>([],z)
 |(t,l)::ls,z=>((t,[],(enV V l z).1)::(enS ls (enV V l z).2).1,(enS ls (enV V l z).2).2)
def enF{r:Type}:(ls:List (Nat×List (Nat×LC)))->Zf V.T ls r->List (Fm V.T)×r
 | [],z=>([],z)
 |(n,l)::ls,z=>(⟨(enS V l z).1,[],[],n⟩::(enF ls (enS V l z).2).1,(enF ls (enS V l z).2).2)
def enO :(os:List OC)->Zo V.T os->List (SO V.T)
 | [],_=>[]
 | .box t ls::os,z=>.box t (enL V ls z).1::enO os (enL V ls z).2
 | .row E c::os,z=>.row E c z.1::enO os z.2
 | .map kc vc E::os,z=>.x (.map kc vc E z.1 none)::enO os z.2
 | .it kc vc::os,z=>.x (.it kc vc z.1 none)::enO os z.2
 | .nst E E2 c none::os,z=>.x (.nst E E2 c z.1 none)::enO os z.2
 | .nst E E2 c (some j)::os,z=>.x (.nst E E2 c z.1 (some (z.2.1,j)))::enO os z.2.2
 | .fix E c::os,z=>.x (.fix E c z.1)::enO os z.2
 | .emp::os,z=>.emp::enO os z
def mkS(fs:List (Fm V.T))(os:List (SO V.T)):SS V.T:=match fs with
 |f::fs=>{ f with stk:=fs,ob:=os }
 | []=>{ sl:=[],gb:=[],kn:=[],n:=0,stk:=[],ob:=os }
def Sh.enc(h:Sh)(z:h.Z V.T):SS V.T:=mkS V (enF V h.fr z).1 (enO V h.ob (enF V h.fr z).2)
abbrev Bd:=List (Nat×Nat)
mutual
def bdV:LC->SV V.T->Bd
 | .own j,.own i=>[(j,i)]
 | .ptr j _,.ptr i _=>[(j,i)]
 | .agg ls,.agg cs=>bdL ls cs
 | .func _ ls,.func _ cs=>bdW ls cs
 |_,_=>[]
def bdL:List LC->List (SV V.T)->Bd
 | [],_=>[]
 | .val c::ls,cs=>match z8p V cs (V.sz c) with
  |some cs=>bdL ls cs
  |none=>[]
 |l::ls,x::cs=>bdV l x++bdL ls cs
 |_::_,[]=>[]
def bdW:List LC->List (SV V.T)->Bd
 |l::ls,x::cs=>bdV l x++bdW ls cs
 |_,_=>[]
end
def bdS(sl:Sls V.T):List (Nat×LC)->Bd
 | []=>[]
 |(t,l)::ls=>match lk sl t with
  |some (_,x)=>bdV V l x++bdS sl ls
  |none=>bdS sl ls
def bdF:List (Fm V.T)->List (Nat×List (Nat×LC))->Bd
 |f::fs,(_,l)::ls=>bdS V f.sl l++bdF fs ls
 |_,_=>[]
def bdO(ob:List (SO V.T)):Nat->List OC->Bd->Bd
 |_,[],b=>b
 |j,.box _ ls::os,b=>match (lk b j).bind λi=>ob[i]? with
  |some (.box _ cs)=>bdO ob (j+1) os (b++bdL V ls cs)
  |_=>bdO ob (j+1) os b
 |j,.nst _ _ _ (some q)::os,b=>match (lk b j).bind λi=>ob[i]? with
  |some (.x (.nst _ _ _ _ (some (_,i))))=>bdO ob (j+1) os (b++[(q,i)])
  |_=>bdO ob (j+1) os b
 |j,_::os,b=>bdO ob (j+1) os b
def isO(b:Bd)(j i:Nat):Bool:=match lk b j with
 |some i'=>Nat.beq i' i
 |none=>false
mutual
def deV{r:Type}(b:Bd):(l:LC)->SV V.T->r->Option (LC.Z V.T l r)
 | .val c,x,z=>match V.dec (rdSl []) c x with
  |some y=>some (y,z)
  |none=>none
 | .cmp c,.cmp c' f,z=>if h:c'=c then some (h ▸ f,z) else none
 | .agg ls,.agg cs,z=>deL b ls cs z
 | .func f ls,.func g cs,z=>bif Nat.beq f g then deW b ls cs z else none
 | .own j,.own i,z=>bif isO b j i then some z else none
 | .ptr j o,.ptr i o',z=>bif isO b j i&&Nat.beq o o' then some z else none
 | .nil,.val (.slice none 0 0),z=>some z
 | .raw v,.val u,z=>bif beqZ u v then some z else none
 | .rop c,.rop cs,z=>match decN V (rdSl []) (c+1) c cs with
  |some (y,[])=>some (y,z)
  |_=>none
 | .rom kc vc,.rop [.rom kc' vc' m],z=>if h:kc'=kc then(if h2:vc'=vc then some (h ▸ h2 ▸ m,z) else none) else none
 |_,_,_=>none
def deL{r:Type}(b:Bd):(ls:List LC)->List (SV V.T)->r->Option (Zl V.T ls r)
 | [],[],z=>some z
 | .val c::ls,cs,z=>match decN V (rdSl []) (c+1) c cs with
  |some (y,cs)=>match deL b ls cs z with
   |some z=>some (y,z)
   |none=>none
  |none=>none
 |l::ls,x::cs,z=>match deL b ls cs z with
  |some z=>deV b l x z
  |none=>none
 |_,_,_=>none
def deW{r:Type}(b:Bd):(ls:List LC)->List (SV V.T)->r->Option (Zl V.T ls r)
 | [],[],z=>some z
 |l::ls,x::cs,z=>match deW b ls cs z with
  |some z=>deV b l x z
  |none=>none
 |_,_,_=>none
end
def deS{r:Type}(b:Bd)(sl:Sls V.T):(ls:List (Nat×LC))->r->Option (Zs V.T ls r)
 | [],z=>some z
 |(t,l)::ls,z=>match lk sl t,deS b sl ls z with
  |some ([],x),some z=>deV V b l x z
  |_,_=>none
def deF{r:Type}(b:Bd):(ls:List (Nat×List (Nat×LC)))->List (Fm V.T)->r->Option (Zf V.T ls r)
 | [],[],z=>some z
 |(n,l)::ls,f::fs,z=>match deF b ls fs z with
  |some z=>bif Nat.beq n f.n then deS V b f.sl l z else none
  |none=>none
 |_,_,_=>none
def deO(b:Bd)(ob:List (SO V.T)):Nat->(os:List OC)->Option (Zo V.T os)
 |_,[]=>some ()
 |j,.box t ls::os=>match (lk b j).bind λi=>ob[i]?,deO b ob (j+1) os with
  |some (.box t' cs),some z=>bif Nat.beq t t' then deL V b ls cs z else none
  |_,_=>none
 |j,.row E c::os=>match (lk b j).bind λi=>ob[i]?,deO b ob (j+1) os with
  |some (.row E' c' l),some z=>bif Nat.beq E E' then(if h:c'=c then some (h ▸ l,z) else none) else none
  |_,_=>none
 |j,.map kc vc E::os=>match (lk b j).bind λi=>ob[i]?,deO b ob (j+1) os with
  |some (.x (.map kc' vc' E' m none)),some z=>bif Nat.beq E' E then(if h:kc'=kc then(if h2:vc'=vc then some (h ▸ h2 ▸ m,z) else none) else none) else none
  |_,_=>none
 |j,.it kc vc::os=>match (lk b j).bind λi=>ob[i]?,deO b ob (j+1) os with
  |some (.x (.it kc' vc' m _)),some z=>if h:kc'=kc then(if h2:vc'=vc then some (h ▸ h2 ▸ m,z) else none) else none
  |_,_=>none
 |j,.fix E c::os=>match (lk b j).bind λi=>ob[i]?,deO b ob (j+1) os with
  |some (.x (.fix E' c' l)),some z=>bif Nat.beq E E' then(if h:c'=c then some (h ▸ l,z) else none) else none
  |_,_=>none
 |j,.emp::os=>match (lk b j).bind λi=>ob[i]?,deO b ob (j+1) os with
  |some .emp,some z=>some z
  |_,_=>none
 |j,.nst E E2 c none::os=>match (lk b j).bind λi=>ob[i]?,deO b ob (j+1) os with
  |some (.x (.nst E' E2' c' l none)),some z=>bif Nat.beq E E'&&Nat.beq E2 E2' then(if h:c'=c then some (h ▸ l,z) else none) else none
  |_,_=>none
 |j,.nst E E2 c (some q)::os=>match (lk b j).bind λi=>ob[i]?,deO b ob (j+1) os with
  |some (.x (.nst E' E2' c' l (some (k,i)))),some z=>bif Nat.beq E E'&&Nat.beq E2 E2'&&isO b q i then(if h:c'=c then some (h ▸ l,k,z) else none) else none
  |_,_=>none
def zfu(b:Bd):Nat->Nat->Option (List Nat)
 |0,_=>some []
 |n+1,j=>match lk b j,zfu b n (j+1) with
  |some i,some l=>some (i::l)
  |_,_=>none
def zps(os:List OC)(gb:List (Nat×Bool)):List (Nat×LC)->Sls V.T->Nat->Sls V.T×List (SO V.T)
 | [],sl,_=>(sl,[])
 |(t,.own j)::ls,sl,n=>match lk sl t,os[j]?,lk gb t with
  |some ([],.val (.slice none 0 0)),some (.row E c),none=>match zps os gb ls ((t,[],.own n)::sl) (n+1) with
   |(sl,m)=>(sl,.row E c []::m)
  |_,_,_=>zps os gb ls sl n
 |_::ls,sl,n=>zps os gb ls sl n
def znf(os:List OC):List (Nat×List (Nat×LC))->List (Fm V.T)->Nat->List (Fm V.T)×List (SO V.T)
 |(_,l)::ls,f::fs,n=>match zps V os f.gb l f.sl n with
  |(sl,m)=>match znf os ls fs (n+m.length) with
   |(fs,m')=>({ f with sl:=sl }::fs,m++m')
 |_,fs,_=>(fs,[])
def nilL(os:List OC):List LC->List (SV V.T)->Nat->List (SV V.T)×List (SO V.T)
 | .val c::ls,cs,n=>match zog V cs (V.sz c),z8p V cs (V.sz c) with
  |some a,some r=>match nilL os ls r n with
   |(r,m)=>(a++r,m)
  |_,_=>(cs,[])
 | .own j::ls,.val (.slice none 0 0)::cs,n=>match os[j]? with
  |some (.row E c)=>match nilL os ls cs (n+1) with
   |(r,m)=>(.own n::r,.row E c []::m)
  |_=>(.val (.slice none 0 0)::cs,[])
 |_::ls,x::cs,n=>match nilL os ls cs n with
  |(r,m)=>(x::r,m)
 |_,cs,_=>(cs,[])
def nilB(all:List OC):Nat->List OC->Bd->List (SO V.T)->List (SO V.T)
 |_,[],_,ob=>ob
 |j,.box _ ls::os,b,ob=>match lk b j with
  |some i=>match ob[i]? with
   |some (.box t cs)=>match nilL V all ls cs ob.length with
    |(cs,m)=>nilB all (j+1) os (b++bdL V ls cs) (ob.set i (.box t cs)++m)
   |_=>nilB all (j+1) os b ob
  |none=>nilB all (j+1) os b ob
 |j,_::os,b,ob=>nilB all (j+1) os b ob
def nilS(h:Sh)(s:SS V.T):SS V.T:=match znf V h.ob h.fr (s.toFm::s.stk) s.ob.length with
 |(f::fs,m)=>{ f with stk:=fs,ob:=nilB V h.ob 0 h.ob (bdF V (f::fs) h.fr) (s.ob++m) }
 |_=>s
def zp0:List OC->List Nat->List Nat
 | .nst _ _ _ none::os,i::is=>i::zp0 os is
 | .map ..::os,i::is=>i::zp0 os is
 |_::os,_::is=>zp0 os is
 |_,_=>[]
def zss(s:SS V.T)(is:List Nat):SS V.T:=is.foldl (λs i=>zxs V s i) s
def Sh.decB(h:Sh)(s:SS V.T)(b:Bd):Option (h.Z V.T):=match zfu b h.ob.length 0 with
 |some is=>bif zga is then(match deO V b (zss V s (zp0 h.ob is)).ob 0 h.ob with
  |some z=>deF V b h.fr (s.toFm::s.stk) z
  |none=>none) else none
 |none=>none
def Sh.bd(h:Sh)(s:SS V.T):Bd:=(bdO V s.ob 0 h.ob (bdF V (s.toFm::s.stk) h.fr)).filter (λp=>Nat.blt p.1 h.ob.length)
def Sh.dec(h:Sh)(s:SS V.T):Option (h.Z V.T):=h.decB V (nilS V h s) (h.bd V (nilS V h s))
def yjb(s:SS V.T)(t:Nat):Option Nat->Option (SV V.T)
 |none=>evO s.sl s.kn (.tmp t)
 |some o=>match evO s.sl s.kn (.tmp t) with
  |some (.ptr i b)=>match s.ob[i]? with
   |some (.box _ cs)=>(z8p V cs (b+o)).bind (·.head?)
   |_=>none
  |some (.rop cs)=>(z8p V cs o).bind (·.head?)
  |some (.agg cs)=>(z8p V cs o).bind (·.head?)
  |some (.elt i k z fo)=>match s.ob[i]? with
   |some (.row _ c l)=>(z8p V (V.enc c (gtz (V.z c) l k)) (fo+o)).bind (·.head?)
   |some (.x (.fix _ c l))=>(z8p V (V.enc c (gtz (V.z c) l k)) (fo+o)).bind (·.head?)
   |_=>none
  |_=>none
def yao(s:SS V.T)(t:Nat)(o:Option Nat):Option (SV V.T):=match o with
 |some o=>bif Nat.ble 1000 o then(match yjb V s t (some (o / 1000-1)) with
  |some (.ptr i b)=>match s.ob[i]? with
   |some (.box _ cs)=>(z8p V cs (b+o % 1000)).bind (·.head?)
   |_=>none
  |some (.rop cs)=>(z8p V cs (o % 1000)).bind (·.head?)
  |_=>none) else yjb V s t (some o)
 |none=>yjb V s t none
def keyX(s:SS V.T)(q:Nat×Option Nat)(kc:Nat):Option (V.T kc):=match q.2 with
 |none=>(evO s.sl s.kn (.tmp q.1)).bind (V.dec rdE kc)
 |some o=>match evO s.sl s.kn (.tmp q.1) with
  |some (.ptr i b)=>match s.ob[i]? with
   |some (.box _ cs)=>(z8p V cs (b+o)).bind λl=>(decN V rdE (kc+1) kc l).map (·.1)
   |_=>none
  |some (.rop cs)=>(z8p V cs o).bind λl=>(decN V rdE (kc+1) kc l).map (·.1)
  |some (.agg cs)=>(z8p V cs o).bind λl=>(decN V rdE (kc+1) kc l).map (·.1)
  |_=>none
def y9g{T:Nat->Type}: Option (SO T)->Bool
 |some (.x (.map ..))=>true
 |_=>false
def focP(p q:Nat×Option Nat)(s:SS V.T):Option (Nat×Int):=match yao V s p.1 p.2,yao V s q.1 q.2 with
 |some (.own i),some (.int _ m)=>some (i,m)
 |_,_=>none
inductive H (V:TE) (R:Type) where
 |x
 |seq (a b:H V R)
 |cond (a b:H V R)
 |body (a:H V R)
 |loop (h:Sh) (L:Nat->h.Z V.T->Option R) (b :(h.Z V.T->Option R)->H V R)
 |join (h:Sh) (J:h.Z V.T->Option R) (a:H V R)
 |ins (i f:Nat) (h rest:H V R)
 |foc (p q:Nat×Option Nat) (h:H V R)
 |frz (ps:List (Nat×Option Nat)) (h:H V R)
 |unr (n:Nat) (h:H V R)
 |cut (t:Nat) (h:H V R)
 |pk (h:Sh) (J:h.Z V.T->Option R)
 |alt (h:Sh) (J:h.Z V.T->Option R) (J2:h.Z V.T->Option (List (Option R)))
 |no
 |rf (f k fi:Nat) (h:H V R)
 |yl (i f k:Nat) (h rest:H V R)
def seqK(n:SS V.T->Option R)(K:KX V R):KX V R
 | .normal,s=>n s
 |e,s=>K e s
def blkK(id:Nat)(K:KX V R):KX V R
 | .exit i,s=>bif Nat.beq i id then K .normal s else K (.exit i) s
 |e,s=>K e s
def ngK(K:KX V R):KX V R
 | .goto _,_=>none
 |e,s=>K e s
def ycz(s:SS V.T)(o:Operand)(x y:Option R):Option R:=match (evO s.sl [] o).bind zir with
 |some b=>if b=true then x else y
 |none=>none
def z0l(o:Oper):List Nat:=(o.after.toList.filter (Region.binds .any ·)).map (·.on)
abbrev DE(T:Nat->Type):=Nat×Nat×Ch×SV T
def drSl(f:Nat->Bool)(bs:Sls V.T)(es:List (DE V.T)):Sls V.T:=(es.filter λe=>f e.1).map (·.2)++bs
def y0g(ops:Array Oper)(bs:Sls V.T):Nat->List Oper->SS V.T->List (DE V.T)->(SS V.T->List (DE V.T)->Option R)->Option R
 |_,[],s,es,k=>k s es
 |i,o::os,s,es,k=>match o.dst with
  |some d=>match lk s.gb d,lk bs d with
   |none,none=>bif es.any (λe=>Nat.beq e.2.1 d) then none else match o.guard with
    |none=>zt V N { s with sl:=drSl V (memB (z0l o)) bs es } [] o.op o.type λv=>y0g ops bs (i+1) os s ((i,d,[],v)::es) k
    |some g=>match zg3 V ops.toList { s with sl:=drSl V (memB (z0l o)) bs es } g with
     |some (some ch,s')=>zt V N s' ch o.op o.type λv=>y0g ops bs (i+1) os { s with gb:=s'.gb } ((i,d,ch,v)::es) k
     |_=>none
   |_,_=>none
  |none=>none
def yho(ops:Array Oper)(bs:Sls V.T)(i:Nat)(os:List Oper)(s:SS V.T)(es:List (DE V.T))(k:SS V.T->Option R):Option R:=y0g V N ops bs i os s es λs es=>bif chk (z02 ops) s.n [] (es.map (·.1)) [] [] then k { s with sl:=drSl V (λ_=>true) bs es } else none
def isDs(ops:List Oper)(t:Nat):Bool:=ops.any λo=>zdz o.dst t
def bitB(m q:Nat):Bool:=Nat.beq (Nat.land (Nat.shiftRight m q) 1) 1
def cloF(ops:List Oper):List Nat:=ops.foldl (λacc o=>acc++[(z0l o).foldl (λm d=>Nat.lor (Nat.lor m (Nat.shiftLeft 1 d)) (acc.getD d 0)) 0]) []
def zcj:Op->Bool
 | .alloc ..=>true
 | .box ..=>true
 | .buildSlice ..=>true
 | .makeSlice ..=>true
 | .makeMap ..=>true
 |_=>false
def appO:Op->Bool
 | .call c=>match c.callee with
  | .builtin .append=>true
  | .value (.func _)=>true
  |_=>false
 | .mapUpdate ..=>true
 |o=>zcj o
def zxv:Op->Bool
 | .move _=>true
 | .assign _=>true
 | .fieldAddr ..=>true
 | .nilCheck _=>true
 | .load ..=>true
 | .indexAddr ..=>true
 | .slice ..=>true
 | .build ..=>true
 | .binOp ..=>true
 | .unOp ..=>true
 | .convert ..=>true
 | .extract ..=>true
 | .call c=>match c.callee with
  | .value _=>true
  | .builtin .len=>true
  |_=>false
 |_=>false
def opAt(ops:List Oper)(l:Nat):Op:=match ops[l]? with
 |some o=>o.op
 |none=>.move (.const undef)
def stoF(ops:List Oper)(l:Nat):Bool:=match opAt ops l with
 | .store _ (.tmp t) _=>ops.any λo=>zdz o.dst t&&zcj o.op
 |_=>false
def zrl:Op->Bool
 | .load ..=>true
 | .call c=>match c.callee with
  | .builtin .len=>true
  |_=>false
 |_=>false
def boxP(ops:List Oper)(sl:Sls V.T):Nat->Operand->Bool
 |0,_=>false
 |n+1,.tmp t=>match lk sl t with
  |some ([],.ptr ..)=>true
  |some _=>false
  |none=>match ops.find? λo=>zdz o.dst t with
   |some o=>match o.op with
    | .fieldAddr _ x _=>boxP ops sl n x
    |_=>false
   |none=>false
 |_,_=>false
def eltF(ops:List Oper)(l:Nat):Bool:=match opAt ops l with
 | .store _ (.tmp t) _=>ops.any λo=>zdz o.dst t&&(match o.op with
  | .indexAddr _ (.tmp u) _=>ops.any λq=>zdz q.dst u&&(match q.op with | .load _ _=>true|_=>false)
  |_=>false)
 |_=>false
def stoN(ops:List Oper)(l:Nat):Bool:=match opAt ops l with
 | .store ..=>!stoF ops l
 |_=>false
def ylb(ops:List Oper)(clo:List Nat)(sl:Sls V.T)(i:Nat)(o:Oper):Bool:=match o.op with
 | .load _ p=>o.guard.isNone&&boxP V ops sl 4 p&&(List.range ops.length).any λl=>stoN ops l&&!eltF ops l&&!bitB (clo.getD i 0) l&&!bitB (clo.getD l 0) i
 | .call c=>(match c.callee with
  | .builtin .len=>o.guard.isNone&&(List.range ops.length).any λl=>stoN ops l&&!bitB (clo.getD i 0) l&&!bitB (clo.getD l 0) i
  |_=>false)
 |_=>false
def zfg{T:Nat->Type}: SO T->Bool
 | .box ..=>true
 |_=>false
def zy0(ops:List Oper)(n0 l i:Nat)(box:Bool):Bool:=zrl (opAt ops l)||zcj (opAt ops l)||(appO (opAt ops l)&&box)||(stoF ops l&&Nat.blt i n0)||(eltF ops l&&box)
def y71(ops:List Oper)(n0:Nat)(ls:List Nat):Nat->List (SO V.T)->List (SO V.T)
 |_,[]=>[]
 |i,x::ob=>(bif ls.all (λl=>zy0 ops n0 l i (zfg x)) then x else .emp)::y71 ops n0 ls (i+1) ob
def seen(clo:List Nat)(ops:List Oper)(n0 q:Nat)(o:Oper)(later:List Nat)(ob:List (SO V.T)):Option (List (SO V.T)):=
 match later.filter λl=>!bitB (clo.getD l 0) q with
 | []=>some ob
 |ls=>bif zxv o.op&&o.guard.isNone then some (y71 V ops n0 ls 0 ob) else none
def y4h(l:List Nat):Nat:=l.foldl (λm q=>Nat.lor m (Nat.shiftLeft 1 q)) 0
def segs(ops:Array Oper)(clo done later:List Nat)(es:List (DE V.T)):List Nat:=(List.range ops.size).filter λq=>Nat.beq (Nat.land (Nat.lor (Nat.shiftLeft 1 q) (clo.getD q 0)) (y4h later)) 0&&!bitB (Nat.lor (y4h done) (y4h (es.map (·.1)))) q
def yfb{T:Nat->Type}: SV T->SV T->Bool
 | .ptr i o,.ptr j q=>Nat.beq i j&&Nat.beq o q
 | .own i,.own j=>Nat.beq i j
 |_,_=>false
def yfd{T:Nat->Type}: List (SV T)->List (SV T)->Bool
 | [],[]=>true
 |x::l,y::m=>yfb x y&&yfd l m
 |_,_=>false
def yjp{T:Nat->Type}: SV T->SV T->Bool
 | .func f l,.func g m=>Nat.beq f g&&yfd l m
 |_,_=>false
def okB{T:Nat->Type}: Option (Ch×SV T)->SV T->Bool
 |none,_=>true
 |some ([],w),v=>yjp v w
 |_,_=>false
def yfe(ops:List Oper)(d:Nat):Bool:=match ops.filter λo=>zdz o.dst d with
 | [o]=>match o.op,o.guard with
  | .assign (.tmp t),none=>(match ops.find? λq=>zdz q.dst t with
   |some q=>(match q.op,q.guard with
    | .move (.tmp x),none=>Nat.beq x d
    |_,_=>false)
   |none=>false)
  |_,_=>false
 |_=>false
def segX(ops:Array Oper)(clo:List Nat)(n0:Nat)(later:List Nat)(bs:Sls V.T):List Nat->SS V.T->List (DE V.T)->(SS V.T->List (DE V.T)->Option R)->Option R
 | [],s,es,k=>k s es
 |i::is,s,es,k=>match ops[i]? with
  |some o=>match o.dst,seen V clo ops.toList n0 i o later s.ob with
   |some d,some ob=>match lk s.gb d with
    |none=>bif es.any (λe=>Nat.beq e.2.1 d) then none else match o.guard with
     |none=>zt V N { s with sl:=drSl V (memB (z0l o)) bs es,ob:=ob } [] o.op o.type λv=>bif okB (lk bs d) v then segX ops clo n0 later bs is s ((i,d,[],v)::es) k else none
     |some g=>bif (lk bs d).isSome then none else match zg3 V ops.toList { s with sl:=drSl V (memB (z0l o)) bs es } g with
      |some (some ch,s')=>zt V N { s' with ob:=ob } ch o.op o.type λv=>segX ops clo n0 later bs is { s with gb:=s'.gb } ((i,d,ch,v)::es) k
      |_=>none
    |some _=>none
   |_,_=>none
  |none=>none
def zfy(s:SS V.T)(bs:Sls V.T)(es:List (DE V.T)):Option Nat->Bool
 |some d=>Nat.blt d s.n&&(lk s.gb d).isNone&&(lk bs d).isNone&&!es.any (λe=>Nat.beq e.2.1 d)
 |none=>true
def putB(bs:Sls V.T)(v:SV V.T):Option Nat->Sls V.T
 |some d=>(d,[],v)::bs
 |none=>bs
def cat2{α:Type}: Option (List α)->Option (List α)->Option (List α)
 |some a,some b=>some (a++b)
 |_,_=>none
def catL{α:Type}: List (Option (List α))->Option (List α)
 | []=>some []
 |x::xs=>cat2 x (catL xs)
def one1{α:Type}: List (Option α)->Option α
 | [x]=>x
 |_=>none
def ybi(ops:List Oper)(n0 l:Nat)(s:SS V.T):Op->Bool
 | .store _ p _=>(!stoF ops l||(match evO s.sl s.kn p with
  |some (.ptr i _)=>Nat.ble n0 i
  |_=>false))&&(!eltF ops l||(match evO s.sl s.kn p with
  |some (.elt _ _ _ _)=>true
  |_=>false))
 |_=>true
def z78(clo later:List Nat):List Nat:=later.filter λc=>Nat.beq (Nat.land (clo.getD c 0) (y4h later)) 0
def tlB(bs:Sls V.T)(o:Oper):Bool:=match o.dst with
 |some d=>(lk bs d).isSome
 |none=>false
def tlA(ops:Array Oper)(s:SS V.T)(i:Nat):Bool:=match ops[i]? with
 |some o=>match o.op,o.guard,o.dst with
  | .assign _,none,some d=>(lk s.sl d).isSome
  |_,_,_=>false
 |none=>false
def tlS(ops:Array Oper)(s:SS V.T):Nat->Nat
 |0=>0
 |i+1=>bif tlA V ops s i then tlS ops s i else i+1
def tlC(ops:Array Oper)(l:Nat):Bool:=(List.range l).all (λq=>bitB ((cloF ops.toList).getD l 0) q)&&(ops.toList.drop l).all (λo=>match o.dst with|some d=>!isDs (ops.toList.take l) d|none=>true)&&
 (List.range ops.size).all (λj=>Nat.ble j l||memB (Tab.deps (z02 ops) j) (j-1))
def tlOf(ops:Array Oper)(s:SS V.T):List Nat:=match (List.range' (tlS V ops s ops.size) (ops.size-tlS V ops s ops.size)).find? (tlC ops) with
 |some l=>[l]
 |none=>[]
def wrO(ops:Array Oper)(s:SS V.T):List Oper:=match tlOf V ops s with
 |l::_=>ops.toList.take l
 | []=>ops.toList
def elB(ops:List Oper)(l:Nat):Bool:=match ops[l]? with
 |some o=>(match o.op,o.dst with
  | .buildSlice ..,some d=>ops.any λq=>match q.op with
   | .buildSlice _ _ parts=>parts.toList.any λp=>match p.2 with | .tmp t=>Nat.beq t d|_=>false
   |_=>false
  | .call c,some d=>(match c.callee with
   | .builtin .append=>ops.any λq=>match q.op with
    | .call c'=>(match c'.callee with
     | .value (.func _)=>c'.args.toList.any λx=>match x with | .tmp t=>Nat.beq t d|_=>false
     |_=>false)
    |_=>false
   | .value (.func _)=>ops.any λq=>match q.op with
    | .buildSlice _ _ parts=>parts.toList.any λp=>match p.2 with | .tmp t=>Nat.beq t d|_=>false
    |_=>false
   |_=>false)
  |_,_=>false)
 |none=>false
def frzN(ops:List Oper)(l m:Nat)(v:SV V.T)(ob:List (SO V.T)):SV V.T×List (SO V.T):=bif elB ops l then(match v with
 | .own n=>bif Nat.ble m n then(match ob[n]? with
  |some (.row _ c l')=>(.ro c l',ob.set n .emp)
  |_=>(v,ob)) else(v,ob)
 |_=>(v,ob)) else(v,ob)
def zwc(ops:Array Oper)(done keys later:List Nat)(l:Nat):Bool:=Nat.beq later.length 1&&keys.all (λq=>(l::(done++keys)).any λj=>memB (Tab.deps (z02 ops) j) q)&&(List.range ops.size).all (λq=>Nat.ble l q||memB done q||memB keys q)&&
 (done++keys).all (λq=>Nat.blt q l)&&(List.range ops.size).all (λj=>Nat.ble j l||memB (Tab.deps (z02 ops) j) (j-1))&&Nat.blt l ops.size
def y7b(bs:Sls V.T)(s:SS V.T)(o:Oper):Bool:=o.guard.isSome||tlB V bs o||(inlC V N s o.op).isSome||(yldC V s o.op).isSome
def y8g{R':Type}(leaf:Option R->Option R')(comb:List (Option R')->Option R')(inl:Nat->Inl V R)(ops:Array Oper)(clo:List Nat)(n0:Nat)(k:SS V.T->Option R):Nat->List Nat->List Nat->List Nat->Sls V.T->List (DE V.T)->SS V.T->Option R'
 |0,_,_,_,_,_,_=>none
 |n+1,later,done,sure,bs,es,s=>segX (R:=R') V N ops clo n0 later bs (segs V ops clo done later es) s es λs es=>
  bif chk (z02 ops) s.n done (es.map (·.1)) (z78 clo later) sure then(match later with
   | []=>leaf (k { s with sl:=drSl V (λ_=>true) bs es })
   |later=>bif (z78 clo later).isEmpty then none else comb ((z78 clo later).map λl=>match ops[l]? with
    |some o=>bif !memB done l&&!memB (es.map (·.1)) l then(bif zwc ops done (es.map (·.1)) (z78 clo later) l||y7b V N bs { s with sl:=drSl V (memB (z0l o)) bs es } o then(bif zwc ops done (es.map (·.1)) (z78 clo later) l then
       leaf (z7o V N inl ops.toList l (ops.toList.drop l) { s with sl:=drSl V (λ_=>true) bs es } k) else none) else
      bif y0j o&&zfy V s bs es o.dst&&((y62 V N { s with sl:=drSl V (memB (z0l o)) bs es } o.op).isEmpty&&ybi V ops.toList n0 l { s with sl:=drSl V (memB (z0l o)) bs es } o.op) then
       z5m (R:=R') V N { s with sl:=drSl V (memB (z0l o)) bs es } o.op o.type λv s'=>y8g leaf comb inl ops clo n0 k n (later.filter λx=>!Nat.beq x l) (l::done) (sure++(es.map (·.1)).filter λq=>bitB (clo.getD l 0) q&&!memB sure q) (putB V bs (frzN V ops.toList l s.ob.length v s'.ob).1 o.dst) es { s with ob:=(frzN V ops.toList l s.ob.length v s'.ob).2 } else none) else none
    |none=>none)) else none
def ym6:Op->Bool
 | .call c=>match c.callee with
  | .value (.func f)=>match N.fn f with
   |some sp=>!(sp.res.any zet)
   |none=>false
  |_=>false
 |_=>false
def yki(ops:List Oper)(s:SS V.T)(t:Nat):Option (SV V.T):=match ops.find? λo=>zdz o.dst t with
 |some o=>match o.op with
  | .move x=>evO s.sl s.kn x
  | .load _ x=>match evO s.sl s.kn x with
   |some (.rop [v])=>some v
   |some (.ptr i 0)=>match s.ob[i]? with
    |some (.box _ [v])=>some v
    |_=>none
   |_=>none
  |_=>evO s.sl s.kn (.tmp t)
 |none=>evO s.sl s.kn (.tmp t)
def yhb(ops:List Oper)(s:SS V.T):Op->Bool
 | .call c=>match c.callee with
  | .value (.tmp t)=>match yki V ops s t with
   |some (.func f _)=>(N.cl f).isSome
   |some (.cmp ..)=>true
   |_=>false
  |_=>false
 |_=>false
def yif:Op->Bool
 | .buildSlice ..=>true
 |_=>false
def y9t(ops:Array Oper)(s:SS V.T):List Nat:=(List.range ops.size).filter λi=>match ops[i]? with
 |some o=>(zpc V N s [] o.op&&!ym6 V N o.op&&!yhb V N ops.toList s o.op&&!(yif o.op&&o.guard.isSome))||ylb V ops.toList (cloF ops.toList) s.sl i o
 |none=>false
def y7x(ops:Array Oper)(s:SS V.T):Sls V.T:=s.sl.filter λp=>!isDs ops.toList p.1
def yka(ops:Array Oper)(s:SS V.T):Sls V.T:=s.sl.filter λp=>!isDs ops.toList p.1||yfe ops.toList p.1
def ykb(ops:Array Oper)(s:SS V.T):Sls V.T:=s.sl.filter λp=>!isDs (wrO V ops s) p.1||yfe ops.toList p.1
def altT{R':Type}(leaf:Option R->Option R')(comb:List (Option R')->Option R')(inl:Nat->Inl V R)(ops:Array Oper)(louds:List Nat)(s:SS V.T)(K:KX V R):Option R':=y8g V N leaf comb inl ops (cloF ops.toList) s.ob.length (λs=>K .normal s) (louds.length+1) louds [] [] (ykb V ops s) [] s
def yik(o:Oper):Bool:=match o.op with
 | .move _=>true
 | .assign _=>true
 | .load _ _=>true
 | .fieldAddr _ _ _=>true
 | .indexAddr _ _ _=>true
 | .nilCheck _=>true
 | .call c=>(match c.callee with
  | .builtin .min=>true
  | .builtin .max=>true
  |_=>false)
 |_=>false
def zmw(s:SS V.T)(o:Oper):Bool:=o.guard.isNone&&(match o.op with
 | .move _=>true
 | .assign _=>true
 | .load _ _=>true
 | .fieldAddr _ _ _=>true
 | .indexAddr _ _ _=>true
 | .nilCheck x=>(match evO s.sl s.kn x with
  |some (.ptr _ _)=>true
  |_=>false)
 | .call c=>(match zws V s.sl s.kn c.args.toList with
  |some us=>bif us.all (λx=>match x with | .int _ _=>true|_=>false) then(match c.callee with
   | .builtin .min=>true
   | .builtin .max=>true
   |_=>false) else false
  |none=>false)
 |_=>false)
def yb0:List Oper->SS V.T->(SS V.T->Option R)->Option R
 | [],s,k=>k s
 |o::os,s,k=>bif zmw V s o then zt V N s [] o.op o.type (λv=>after V s o.dst ([],v) λs=>yb0 os s k) else none
def ybg(ops:Array Oper)(s:SS V.T):Bool:=ops.toList.all yik&&(List.range (match tlOf V ops s with|l::_=>l | []=>ops.size)).any (tlA V ops s)&&Region.lexB .any ops
def yb4:Operand->Operand->Bool
 | .tmp x,.tmp y=>Nat.beq x y
 |_,_=>false
def y8j(ops:Array Oper):Option (Nat×Nat×Nat×Nat×Nat×Operand×Operand×Operand):=match ops.toList.drop (ops.size-5) with
 | [⟨some dL,.lookup t x i false,_,_,_,none⟩,⟨some dB,.binOp .add _ (.tmp dL') y _,_,_,_,none⟩,⟨some dE,.mapEntry t2 x2 i2,_,_,_,none⟩,⟨some dX,.extract (.tmp dE') 1,_,_,_,none⟩,⟨none,.entryStore _ x3 (.tmp dX') (.tmp dB'),_,_,_,none⟩]=>bif Nat.beq dL dL'&&Nat.beq dB dB'&&Nat.beq dE dE'&&Nat.beq dX dX'&&Nat.beq t t2&&yb4 x x2&&yb4 x x3&&yb4 i i2&&Nat.ble 5 ops.size then some (dL,dB,dE,dX,t,x,i,y) else none
 |_=>none
def isEv(sl:Sls V.T)(kn:Ch)(o:Operand):Bool:=(evO sl kn o).isSome
def entC(tab:Tab)(n5 n dL dB dE dX:Nat)(x i y:Operand)(bs:Sls V.T)(gb:List (Nat×Bool))(kn:Ch)(es:List (DE V.T)):Bool:=
 isEv V (drSl V (memB (tab.deps n5)) bs es) kn x&&isEv V (drSl V (memB (tab.deps n5)) bs es) kn i&&
 isEv V (drSl V (memB (tab.deps (n5+1))) bs es) kn y&&memB (tab.deps (n5+1)) n5&&
 isEv V (drSl V (memB (tab.deps (n5+2))) bs es) kn x&&isEv V (drSl V (memB (tab.deps (n5+2))) bs es) kn i&&
 memB (tab.deps (n5+3)) (n5+2)&&isEv V (drSl V (memB (tab.deps (n5+4))) bs es) kn x&&memB (tab.deps (n5+4)) (n5+1)&&memB (tab.deps (n5+4)) (n5+3)&&
 chk tab n [] ((n5+1)::n5::es.map (·.1)) [n5+2] []&&
 chk tab n [n5+2] (((n5+1)::n5::es.map (·.1))++[n5+3]) [n5+4] (es.map (·.1))&&
 chk tab n [n5+4,n5+2] (((n5+1)::n5::es.map (·.1))++[n5+3]) [] (((n5+1)::n5::es.map (·.1))++[n5+3])&&
 (lk gb dL).isNone&&(lk gb dB).isNone&&(lk bs dL).isNone&&(lk bs dB).isNone&&(lk bs dE).isNone&&(lk bs dX).isNone&&
 !es.any (λe=>Nat.beq e.2.1 dL)&&!es.any (λe=>Nat.beq e.2.1 dB)&&!Nat.beq dL dB&&
 (((n5+1)::n5::es.map (·.1))++[n5+3]).all (λq=>y0i (tab.dst q) (some dE))&&Nat.blt dE n&&
 ((n5+1)::n5::es.map (·.1)).all (λq=>y0i (tab.dst q) (some dX))
def entK(ops:Array Oper)(dL dB dE dX t:Nat)(x i y:Operand)(bs:Sls V.T)(s:SS V.T)(es:List (DE V.T))(K:SS V.T->Option R):Option R:=
 match evO (drSl V (λ_=>true) bs es) s.kn x,evO (drSl V (λ_=>true) bs es) s.kn i,evO (drSl V (λ_=>true) bs es) s.kn y with
 |some (.own j),some u,some (.int ky w2)=>match s.ob[j]? with
  |some (.x (.map kc vc E m none))=>match keyT V N t kc,V.dec (rdSl []) kc u with
   |some et,some key=>match tz1 N.P et,V.encV vc ((cget (V.kl kc) m key).getD (V.z vc)) with
    |some z,.int kv w1=>match V.dec (rdSl []) vc (.int kv (kv.wrap (w1+w2))) with
     |some val=>bif zbz (V.d vc)&&V.zok vc z&&decide (kv=ky)&&entC V (z02 ops) (ops.size-5) s.n dL dB dE dX x i y bs s.gb s.kn es then
       K { s with sl:=drSl V (λ_=>true) bs ((ops.size-5+1,dB,[],.int kv (kv.wrap (w1+w2)))::(ops.size-5,dL,[],.int kv w1)::es),ob:=s.ob.set j (.x (.map kc vc E (cset (V.kl kc) m key val) none)) } else none
     |none=>none
    |_,_=>none
   |_,_=>none
  |_=>none
 |_,_,_=>none
def entX(ops:Array Oper)(s:SS V.T)(K:SS V.T->Option R):Option R:=match y8j ops with
 |some (dL,dB,dE,dX,t,x,i,y)=>y0g V N ops (y7x V ops s) 0 (ops.toList.take (ops.size-5)) s [] λs' es=>entK V N ops dL dB dE dX t x i y (y7x V ops s) s' es K
 |none=>none
def regX(inl:Nat->Inl V R)(ops:Array Oper)(draw:Bool)(s:SS V.T)(K:KX V R):Option R:=
 bif draw then(bif N.P.follows .mixedOrders then(bif (y8j ops).isSome then entX V N ops s (λs=>K .normal s) else bif ybg V ops s then yb0 V N ops.toList s (λs=>K .normal s) else match y9t V N ops { s with sl:=yka V ops s } with
  | []=>(match tlOf V ops s with
   | []=>yho V N ops (y7x V ops s) 0 ops.toList s [] λs=>K .normal s
   |ls=>altT V N id one1 inl ops ls s K)
  |ls=>altT V N id one1 inl ops (ls++tlOf V ops s) s K) else none)
 else z7o V N inl ops.toList 0 ops.toList s λs=>K .normal s
def zrf(dfl:Inl V R):Code->SS V.T->KX V R->Option R
 | .skip,s,K=>K .normal s
 | .label _,s,K=>K .normal s
 | .region _ ops d,s,K=>regX V N (λ_=>dfl) ops d s K
 | .seq a b,s,K=>zrf dfl a s (seqK V (λs=>zrf dfl b s K) K)
 | .cond o a b,s,K=>ycz V s o (zrf dfl a s K) (zrf dfl b s K)
 | .block id c,s,K=>zrf dfl c s (blkK V id K)
 | .scope c,s,K=>zrf dfl c s (ngK V K)
 | .exit id,s,K=>K (.exit id) s
 | .ret,s,K=>K .ret s
 |_,_,_=>none
def dflN:Nat->Inl V R
 |0=>λ_ _ _ _=>none
 |n+1=>λ_ c s K=>zrf V N (dflN n) c s K
def zti{α:Type}(x:Option α)(k:α->Option R):Option R:=match x with
 |some z=>k z
 |none=>none
abbrev Dfl(V:TE)(N:Env V)(R:Type):Inl V R:=dflN V N 8
structure Ex(V:TE)(R:Type)where
 run:Code->SS V.T->KX V R->Option R
 inl:Nat->Inl V R
def zds{T:Nat->Type}(sl:Sls T)(t:Nat):Bool:=match lk sl t with
 |some ([],_)=>true
 |_=>false
def clrG(s:SS V.T):SS V.T:={ s with sl:=s.sl.filter (λp=>zds s.sl p.1),gb:=[],kn:=[] }
def unrX(run:SS V.T->KX V R->Option R):Nat->SS V.T->KX V R->Option R
 |0,_,_=>none
 |n+1,s,K=>run (clrG V s) (seqK V (λs=>unrX run n s K) K)
def cutX(s:SS V.T)(t:Nat):SS V.T:=(λ(_:TE)=>s) V
def pkX(ops:Array Oper)(s:SS V.T)(K:KX V R):Option R:=match ops.toList with
 |o::os=>match o.op,o.guard with
  | .next x false,none=>match evO s.sl s.kn x with
   |some (.own j)=>match s.ob[j]? with
    |some (.x (.it kc vc rem _))=>match rem with
     | []=>after V s o.dst ([],.tup [.bool false]) λs=>z7o V N (λ_=>Dfl V N R) ops.toList 1 os s λs=>K .normal s
     |e::rem=>bif V.key kc then after V (updO V s j (.x (.it kc vc rem (some e)))) o.dst ([],.tup [.bool true,V.encV kc e.1,V.encV vc e.2]) λs=>z7o V N (λ_=>Dfl V N R) ops.toList 1 os s λs=>K .normal s else none
    |_=>none
   |_=>none
  |_,_=>none
 | []=>none
def rfL:Code->List (Operand×Array Tmp×Code×Code)
 | .rangeFunc g ps asg bd=>(g,ps,asg,bd)::(rfL asg++rfL bd)
 | .seq a b=>rfL a++rfL b
 | .cond _ a b=>rfL a++rfL b
 | .block _ a=>rfL a
 | .loop a=>rfL a
 | .scope a=>rfL a
 |_=>[]
def rfAt(P:Program)(f k:Nat):Option (Operand×Array Tmp×Code×Code):=match P.funcs[f]? with
 |some fn=>match fn.body with
  |some c=>(rfL c)[k]?
  |none=>none
 |none=>none
def noRF(c:Code):Bool:=match c with
 | .rangeFunc ..=>false
 | .seq a b=>noRF a&&noRF b
 | .cond _ a b=>noRF a&&noRF b
 | .block _ a=>noRF a
 | .loop a=>noRF a
 | .scope a=>noRF a
 |_=>true
def popG(f:Fm V.T):Fm V.T:={ f with n:=f.n-1,sl:=f.sl.filter λp=>!Nat.beq p.1 (f.n-1) }
def rfK(K:KX V R):KX V R:=λe s=>match e with
 | .ret | .normal=>match s.stk with
  |f::stk=>K .normal { popG V f with stk:=stk,ob:=s.ob }
  | []=>none
 |_=>none
def rfX(fi:Nat)(run:Code->SS V.T->KX V R->Option R)(g:Operand)(s:SS V.T)(K:KX V R):Option R:=match evO s.sl s.kn g,lk s.gb s.n with
 |some (.func f caps),none=>match N.P.funcs[f]? with
  |some fn=>match fn.body with
   |some c=>bif Nat.beq f fi&&zt.fnok N.P f&&Nat.ble (caps.length+1) fn.ntmps&&fn.results.isEmpty then
     run c { sl:=zfr V 0 (.own s.ob.length::caps),gb:=[],kn:=[],n:=fn.ntmps,stk:={ s.toFm with sl:=(s.n,[],.own s.ob.length)::s.sl,n:=s.n+1 }::s.stk,ob:=s.ob++[.emp] } (rfK V K) else none
   |none=>none
  |none=>none
 |_,_=>none
def zipP{T:Nat->Type}: List Nat->List (SV T)->Sls T->Sls T
 |p::ps,v::vs,sl=>zipP ps vs ((p,[],v)::sl)
 |_,_,sl=>sl
def ylX(run:Code->SS V.T->KX V R->Option R)(f k:Nat)(s:SS V.T)(K:KX V R):Option R:=match rfAt N.P f k,s.stk with
 |some (_,ps,asg,bd),_::ow::_=>bif noRF asg&&noRF bd&&Nat.beq ps.size s.sl.length&&ps.toList.all (λp=>Nat.blt p (ow.n-1)) then
   zrf V N (Dfl V N R) asg { sl:=zipP ps.toList (s.sl.map λx=>x.2.2) (ow.sl.filter λp=>zds ow.sl p.1&&Nat.blt p.1 (ow.n-1)),gb:=[],kn:=[],n:=ow.n-1,stk:=s.stk,ob:=s.ob }
    λe s1=>match e with
     | .normal=>run bd s1 K
     |_=>none
   else none
 |_,_=>none
mutual
def LC.eqZ(T:Nat->Type):(l:LC)->{r:Type}->(r->r->Prop)->LC.Z T l r->LC.Z T l r->Prop
 | .val _,_,P,z,z'=>z.1=z'.1/\P z.2 z'.2
 | .cmp _,_,P,z,z'=>z.1=z'.1/\P z.2 z'.2
 | .rop _,_,P,z,z'=>z.1=z'.1/\P z.2 z'.2
 | .rom _ _,_,P,z,z'=>z.1=z'.1/\P z.2 z'.2
 | .agg ls,_,P,z,z'=>eqZl T ls P z z'
 | .func _ ls,_,P,z,z'=>eqZl T ls P z z'
 | .own _,_,P,z,z'=>P z z'
 | .ptr _ _,_,P,z,z'=>P z z'
 | .nil,_,P,z,z'=>P z z'
 | .raw _,_,P,z,z'=>P z z'
def eqZl(T:Nat->Type):(ls:List LC)->{r:Type}->(r->r->Prop)->Zl T ls r->Zl T ls r->Prop
 | [],_,P,z,z'=>P z z'
 |l::ls,_,P,z,z'=>LC.eqZ T l (eqZl T ls P) z z'
end
def eqZs(T:Nat->Type):(ls:List (Nat×LC))->{r:Type}->(r->r->Prop)->Zs T ls r->Zs T ls r->Prop
 | [],_,P,z,z'=>P z z'
 |(_,l)::ls,_,P,z,z'=>LC.eqZ T l (eqZs T ls P) z z'
def eqZf(T:Nat->Type):(ls:List (Nat×List (Nat×LC)))->{r:Type}->(r->r->Prop)->Zf T ls r->Zf T ls r->Prop
 | [],_,P,z,z'=>P z z'
 |(_,l)::ls,_,P,z,z'=>eqZs T l (eqZf T ls P) z z'
def eqZo(T:Nat->Type):(os:List OC)->Zo T os->Zo T os->Prop
 | [],_,_=>True
 | .box _ ls::os,z,z'=>eqZl T ls (eqZo T os) z z'
 | .row _ _::os,z,z'=>z.1=z'.1/\eqZo T os z.2 z'.2
 | .map _ _ _::os,z,z'=>z.1=z'.1/\eqZo T os z.2 z'.2
 | .it _ _::os,z,z'=>z.1.Perm z'.1/\eqZo T os z.2 z'.2
 | .nst _ _ _ none::os,z,z'=>z.1=z'.1/\eqZo T os z.2 z'.2
 | .nst _ _ _ (some _)::os,z,z'=>z.1=z'.1/\z.2.1=z'.2.1/\eqZo T os z.2.2 z'.2.2
 | .fix _ _::os,z,z'=>z.1=z'.1/\eqZo T os z.2 z'.2
 | .emp::os,z,z'=>eqZo T os z z'
def Sh.eqZ(T:Nat->Type)(h:Sh):h.Z T->h.Z T->Prop:=eqZf T h.fr (eqZo T h.ob)
def ex(φ:Nat):H V R->Ex V R
 | .x=>⟨zrf V N (Dfl V N R),λ_=>Dfl V N R⟩
 | .seq h1 h2=>⟨λc s K=>match c with
  | .seq a b=>(ex φ h1).run a s (seqK V (λs=>(ex φ h2).run b s K) K)
  |_=>none,λ_=>Dfl V N R⟩
 | .cond h1 h2=>⟨λc s K=>match c with
  | .cond o a b=>ycz V s o ((ex φ h1).run a s K) ((ex φ h2).run b s K)
  |_=>none,λ_=>Dfl V N R⟩
 | .body h=>⟨λc s K=>match c with
  | .block id c=>(ex φ h).run c s (blkK V id K)
  | .scope c=>(ex φ h).run c s (ngK V K)
  |_=>none,λ_=>Dfl V N R⟩
 | .loop h L b=>⟨λc s K=>match c with
  | .loop _=>zti (h.dec V s) (L φ)
  |_=>none,λ_=>Dfl V N R⟩
 | .join h J a=>⟨λc s K=>(ex φ a).run c s (seqK V (λs=>zti (h.dec V s) J) K),λ_=>Dfl V N R⟩
 | .ins i f h rest=>⟨λc s K=>match c with
  | .region _ ops d=>regX V N (λk g c s K=>bif Nat.beq k i&&Nat.beq g f&&Nat.ble (g+1) YID then(ex φ h).run c s K else(ex φ rest).inl k g c s K) ops d s K
  |_=>none,λk g c s K=>bif Nat.beq k i&&Nat.beq g f&&Nat.ble (g+1) YID then(ex φ h).run c s K else(ex φ rest).inl k g c s K⟩
 | .foc p q h=>⟨λc s K=>match yao V s p.1 p.2 with
  |some (.own i)=>bif y9g s.ob[i]? then focM V s i (keyX V s q) λs=>(ex φ h).run c s K else(match focP V p q s with
   |some (i,m)=>focX V s i m λs=>(ex φ h).run c s K
   |none=>none)
  |_=>none,(ex φ h).inl⟩
 | .unr n h=>⟨λc s K=>match c with
  | .loop c=>unrX V ((ex φ h).run c) n s K
  |_=>none,λ_=>Dfl V N R⟩
 | .alt h J _=>⟨λc s K=>match c with
  | .region _ _ _=>zti (h.dec V s) J
  |_=>none,λ_=>Dfl V N R⟩
 | .pk h J=>⟨λc s K=>match c with
  | .region _ _ _=>zti (h.dec V s) J
  |_=>none,λ_=>Dfl V N R⟩
 | .no=>⟨λ_ _ _=>none,λ_=>Dfl V N R⟩
 | .rf _ _ fi h=>⟨λc s K=>match c with
  | .rangeFunc g _ _ _=>rfX V N fi (ex φ h).run g s K
  |_=>none,λ_=>Dfl V N R⟩
 | .yl i f k h rest=>⟨λc s K=>match c with
  | .region _ ops d=>regX V N (λj g c s K=>bif Nat.beq j i&&Nat.beq g YID then ylX V N (ex φ h).run f k s K else(ex φ rest).inl j g c s K) ops d s K
  |_=>none,λj g c s K=>bif Nat.beq j i&&Nat.beq g YID then ylX V N (ex φ h).run f k s K else(ex φ rest).inl j g c s K⟩
 | .cut t h=>⟨λc s K=>(ex φ h).run c (cutX V s t) K,(ex φ h).inl⟩
 | .frz ps h=>⟨λc s K=>(ex φ h).run c (zxu V s (ps.flatMap λp=>match yao V s p.1 p.2 with|some (.ptr i 0)=>[i]|some x=>yeq x|none=>[])) K,(ex φ h).inl⟩
def y6y(inl:Nat->Inl V R)(ops:Array Oper)(i:Nat)(K:KX V R)(v:SV V.T)(s:SS V.T):Option R:=match ops[i]? with
 |some o=>after V s o.dst ([],v) λs=>z7o V N inl ops.toList (i+1) (ops.toList.drop (i+1)) s λs=>K .normal s
 |none=>none
def okO:SO V.T->Prop
 | .x (.map kc vc _ m none)=>Srt' (V.kl kc) m
 | .x (.it kc vc rem _)=>Ndp (V.kl kc) rem
 |_=>True
structure z8q{R:Type}(x:Option R)(y:Option (List (Option R))):Prop where
 ok:∀r,x=some r->∃L,y=some L/\∀a∈L,a=some r
def obl(φ:Nat):List (Option (Nat×Nat))->H V R->Option (Nat->Inl V R)->Code->KX V R->Prop
 |Γ,.x,_,_,_=>True
 |Γ,.no,_,_,_=>True
 |Γ,.seq h1 h2,_,.seq a b,K=>obl φ Γ h1 none a (seqK V (λs=>(ex V N φ h2).run b s K) K)/\obl φ Γ h2 none b K
 |Γ,.cond h1 h2,_,.cond _ a b,K=>obl φ Γ h1 none a K/\obl φ Γ h2 none b K
 |Γ,.body h,_,.block id c,K=>obl φ Γ h none c (blkK V id K)
 |Γ,.body h,_,.scope c,K=>obl φ Γ h none c (ngK V K)
 |Γ,.loop h L b,_,.loop c,K=>(∀z,L 0 z=none)/\(∀n z,L (n+1) z =(ex V N φ (b (L n))).run c (h.enc V z) (seqK V (λs=>zti (h.dec V s) (L n)) K))/\
   ∀n,obl φ Γ (b (L n)) none c (seqK V (λs=>zti (h.dec V s) (L n)) K)
 |Γ,.join h J a,_,c,K=>(∀z,J z=K .normal (h.enc V z))/\obl φ Γ a none c (seqK V (λs=>zti (h.dec V s) J) K)
 |Γ,.ins i f h rest,full,.region id ops d,K=>(match N.P.funcs[f]? with
   |some fn=>match fn.body with
    |some c=>obl φ (none::Γ) h none c (inlK V N fn (y6y V N (full.getD (ex V N φ (.ins i f h rest)).inl) ops i K))
    |none=>False
   |none=>False)/\obl φ Γ rest (some (full.getD (ex V N φ (.ins i f h rest)).inl)) (.region id ops d) K
 |Γ,.rf f k fi h,_,.rangeFunc g ps asg bd,K=>rfAt N.P f k=some (g,ps,asg,bd)/\(match N.P.funcs[fi]? with
   |some fn=>match fn.body with
    |some c=>obl φ (some (f,k)::Γ) h none c (rfK V K)
    |none=>False
   |none=>False)
 |Γ,.yl i f k h rest,full,.region id ops d,K=>(Γ.head? = some (some (f,k))/\N.P.funcs[YID]? = none/\(match rfAt N.P f k with
   |some (_,_,_,bd)=>obl φ (none::none::Γ.tail) h none bd (yK V (y6y V N (full.getD (ex V N φ (.yl i f k h rest)).inl) ops i K))
   |none=>False))/\obl φ Γ rest (some (full.getD (ex V N φ (.yl i f k h rest)).inl)) (.region id ops d) K
 |Γ,.alt h J J2,_,.region _ ops d,K=>(d&&N.P.follows .mixedOrders)=true/\(∀z,J2 z=altT V N (λx=>some [x]) catL (λ_=>Dfl V N R) ops (y9t V N ops { h.enc V z with sl:=yka V ops (h.enc V z) }++tlOf V ops (h.enc V z)) (h.enc V z) K)/\∀z,z8q (J z) (J2 z)
 |Γ,.pk h J,_,.region _ ops d,K=>d=false/\(∀z,J z=pkX V N ops (h.enc V z) K)/\∀z z',h.eqZ V.T z z'->(∀o∈(h.enc V z).ob,okO V o)->J z'=J z
 |Γ,.unr _ h,_,.loop c,K=>∀K',obl φ Γ h none c K'
 |Γ,.foc _ _ h,full,c,K=>obl φ Γ h full c K
 |Γ,.frz _ h,full,c,K=>obl φ Γ h full c K
 |Γ,.cut _ h,full,c,K=>obl φ Γ h full c K
 |_,_,_,_,_=>False
def decR(s:SS V.T):(cs:List RC)->List (SV V.T)->Option (RTup V.T cs)
 | [],[]=>some ()
 | .val c::cs,x::l=>match V.dec (rdSl []) c x,decR s cs l with
  |some y,some r=>some (y,r)
  |_,_=>none
 | .row E c::cs,x::l=>match x,decR s cs l with
  | .own i,some r=>match s.ob[i]? with
   |some (.row E' c' y)=>bif Nat.beq E E' then(if h:c'=c then some (h ▸ y,r) else none) else none
   |_=>none
  |_,_=>none
 |_,_=>none
def y1p:List RC->List (SV V.T)->List Nat
 | .val _::cs,x::l=>yeq x++y1p cs l
 | .row ..::cs,_::l=>y1p cs l
 |_,_=>[]
def znl:List RC->List (SV V.T)->List Nat
 | .row ..::cs,.own i::l=>i::znl cs l
 |_::cs,_::l=>znl cs l
 |_,_=>[]
def retK(fn:Func)(cs:List RC):KX V (RTup V.T cs):=λe s=>match e with
 | .ret | .normal=>match zhm V N s fn.results.toList with
  |some l=>match zhm V N (zxu V s (y1p V cs l)) fn.results.toList with
   |some l'=>bif zga (znl V cs l') then decR V (zxu V s (y1p V cs l)) cs l' else none
   |none=>none
  |none=>none
 |_=>none
def encA :(cs:List Nat)->Tup V.T cs->List (SV V.T)
 | [],_=>[]
 |c::cs,x=>V.encV c x.1::encA cs x.2
def fnX(φ:Nat)(fn:Func)(as:List Nat)(rs:List RC)(h:H V (RTup V.T rs))(a:Tup V.T as):Option (RTup V.T rs):=match fn.body with
 |some c=>(ex V N φ h).run c { sl:=zfr V 0 (encA V as a),gb:=[],kn:=[],n:=fn.ntmps,stk:=[],ob:=[] } (retK V N fn rs)
 |none=>none
def fnV(φ:Nat)(fn:Func)(rs:List RC)(h:H V (RTup V.T rs))(vs:List (SV V.T)):Option (RTup V.T rs):=match fn.body with
 |some c=>(ex V N φ h).run c { sl:=zfr V 0 vs,gb:=[],kn:=[],n:=fn.ntmps,stk:=[],ob:=[] } (retK V N fn rs)
 |none=>none
def fnXc(φ:Nat)(fn:Func)(as:List Nat)(cs:List KC)(rs:List RC)(h:H V (RTup V.T rs))(a:Tup V.T as)(b:KCs V.T cs):Option (RTup V.T rs):=fnV V N φ fn rs h (encA V as a++encK V cs b)
def yjk(fn:Func)(E c:Nat)(s:SS V.T):Option (List (V.T c)):=bif fn.results.isEmpty then(match s.stk with
  | [f]=>match lk f.sl 0 with
   |some ([],.own j)=>match s.ob[j]? with
    |some (.row E' c' l)=>bif Nat.beq E' E then(if h:c'=c then some (h ▸ l) else none) else none
    |_=>none
   |_=>none
  |_=>none) else none
def retM(fn:Func)(E c:Nat):KX V (List (V.T c)):=λe s=>match e with
 | .ret | .normal=>yjk V fn E c s
 |_=>none
def encM :(ms:List MA)->MTup V.T ms->List (SV V.T)
 | [],_=>[]
 | .fn f::ms,x=>.func f []::encM ms x.2
 | .val c::ms,x=>V.encV c x.1::encM ms x.2
 | .cmp c::ms,x=>.cmp c x.1::encM ms x.2
def fnM(φ:Nat)(fn:Func)(E c:Nat)(ms:List MA)(h:H V (List (V.T c)))(l:List (V.T c))(a:MTup V.T ms):Option (List (V.T c)):=match fn.body with
 |some b=>(ex V N φ h).run b { sl:=zfr V 0 (.own 0::encM V ms a),gb:=[],kn:=[],n:=fn.ntmps,stk:=[⟨[(0,[],.own 0)],[],[],1⟩],ob:=[.row E c l] } (retM V fn E c)
 |none=>none
def fnMO(φ:Nat)(fn:Func)(E c:Nat)(h:H V (List (V.T c))):Prop:=match fn.body with
 |some b=>obl V N φ [none] h none b (retM V fn E c)
 |none=>False
def fnO(φ:Nat)(fn:Func)(rs:List RC)(h:H V (RTup V.T rs)):Prop:=match fn.body with
 |some c=>obl V N φ [] h none c (retK V N fn rs)
 |none=>False
end
end Px
end
section
namespace Px
open Go Go.RowKit
theorem zdv.mono[Dr]{P:Program}{f:FuncId}{args:List VP}{K d:VP->List HP->Prop}(h:zdv P f args K)(hk:∀x news,K x news->d x news):zdv P f args d:=by intro r w vs j u z;refine(h r w vs j u z).mono ?_;rintro e w' ⟨v,x,objs,r',g,he,h4,h5,h6,h7⟩;exact⟨v,x,objs,r',g,he,h4,h5,h6,hk _ _ h7⟩
theorem z9k{gb:List (Nat×Bool)}: ∀{ch:Ch},chP gb ch↔∀p∈ch,(lk gb p.1).getD false=p.2
 | []=>by simp[chP]
 | [(t,w)]=>by simp[chP]
 |(t,w)::a::r=>by
  rw[chP,z9k (ch:=a::r)]
  .simp only[List.forall_mem_cons];exact⟨λ⟨d,f⟩=>⟨f,d⟩,λ⟨d,f⟩=>⟨f,d⟩⟩
  .simp
theorem ydm{c:Ch}{p:Nat×Bool}(h:inCh c p=true):p∈c:=by simp only[inCh,w1q,w02,beq_iff_eq] at h;obtain⟨q,g,d,f⟩:=h;have d:=w03 d;cases q;cases p;simp at d f;subst d;subst f;exact g
theorem yfk{gb:List (Nat×Bool)}{a b:Ch}(h:ybk a b=true)(d:chP gb b):chP gb a:=by rw[z9k] at d⊢;simp only[ybk,w0a] at h;exact λp f=>d p (ydm (h p f))
theorem z6k{gb:List (Nat×Bool)}{a b:Ch}(d:chP gb a)(f:chP gb b):chP gb (a++b):=by
 rw[z9k] at *;intro p g;rcases w0j.1 g with h|h
 .exact d p h
 .exact f p h
theorem Ev.ent'{s:St}{x:Operand}{A B:VP}(h:Ev s x A)(e:Ent A B):Ev s x B:=λa r w d=>e r w _ (h a r w d)
section
variable(V:TE)(P:Program)
theorem yhn[Dr]{A:Asg}{gb:List (Nat×Bool)}{ch:Ch}{x:SV V.T}(h:chP gb ch):Ent (denE V P A gb (ch,x)) (x.den V P A):=by
 unfold denE;cases ch with
 |nil=>exact Ent.refl
 |cons a r=>exact λro w v d=>d.1 h
theorem yaa[Dr]{A:Asg}(v:Value):(zuw v:SV V.T).den V P A=eqv v:=by cases v<;>rfl
theorem z1t[Dr]{A:Asg}{s:SS V.T}{ch:Ch}{o:Operand}{x:SV V.T}(h:evO s.sl ch o=some x)(u:chP s.gb ch):Ev (s.st V P A) o (x.den V P A):=by
 cases o with
 |tmp t=>
  simp only[evO] at h;cases d:lk s.sl t with
  |none=>rw[d] at h;cases h
  |some e=>
   obtain⟨c,y⟩:=e;rw[d] at h;simp only at h;cases j:ybk c ch with
   |false=>rw[j] at h;cases h
   |true=>rw[j] at h;simp only[cond_true,w01] at h;subst h;refine Ev.ent' (Ev.tmp (A:=denE V P A s.gb (c,y)) ?_) (yhn V P (yfk j u));simp[SS.st,slD,d]
 |const v=>simp only[evO,w01] at h;subst h;rw[yaa];exact Ev.const v
 |func f=>simp only[evO,w01] at h;subst h;refine Ev.ent' (Ev.func f) ?_;simp only[SV.den,denV];exact y8w
 |global g=>simp[evO] at h
theorem y0e[Dr]{A:Asg}(x:SV V.T):(denL V P A [x]).length=csz V x:=by cases x<;>simp[denL,csz];exact zi4 (V.ev_len _)
theorem z3p[Dr]{A:Asg}(x:SV V.T)(l:List (SV V.T)):denL V P A (x::l)=denL V P A [x]++denL V P A l:=z2k V P A [x] l
theorem zei[Dr]{A:Asg}: ∀(l:List (SV V.T)),(denL V P A l).length=clen V l
 | []=>by simp[denL,clen]
 |x::l=>by rw[z3p,w0h,y0e,zei l];simp[clen]
theorem zd5[Dr]{A:Asg}: ∀(l:List (SV V.T))(n:Nat)(m:List (SV V.T)),z8p V l n=some m->denL V P A m =(denL V P A l).drop n/\n<=(denL V P A l).length
 | [],n,m,h=>by
  simp only[z8p] at h;cases d:Nat.beq n 0 with
  |false=>rw[d] at h;cases h
  |true=>rw[d] at h;simp at h;subst h;have:=w03 d;subst this;simp[denL]
 |x::l,n,m,h=>by
  simp only[z8p] at h;cases d:Nat.beq n 0 with
  |true=>rw[d] at h;simp at h;subst h;have:=w03 d;subst this;simp
  |false=>
   rw[d] at h;simp only[cond_false] at h;cases f:Nat.ble (csz V x) n with
   |false=>rw[f] at h;cases h
   |true=>rw[f] at h;simp only[cond_true] at h;have j:=w0s f;obtain⟨g,u⟩:=zd5 (A:=A) l _ m h;have hx:=y0e V P (A:=A) x;rw[z3p,w0h,hx];refine⟨?_,by omega⟩;rw[g];rw[w5j,List.drop_eq_nil_of_le (as:=denL V P A [x]) (by omega),hx,w1z]
theorem ziy[Dr]{A:Asg}: ∀(l:List (SV V.T))(n:Nat)(m:List (SV V.T)),zog V l n=some m->denL V P A m =(denL V P A l).take n/\n<=(denL V P A l).length
 | [],n,m,h=>by
  simp only[zog] at h;cases d:Nat.beq n 0 with
  |false=>rw[d] at h;cases h
  |true=>rw[d] at h;simp at h;subst h;have:=w03 d;subst this;simp[denL]
 |x::l,n,m,h=>by
  simp only[zog] at h;cases d:Nat.beq n 0 with
  |true=>rw[d] at h;simp at h;subst h;have:=w03 d;subst this;simp[denL]
  |false=>
   rw[d] at h;simp only[cond_false] at h;cases g:Nat.ble (csz V x) n with
   |false=>rw[g] at h;cases h
   |true=>
    rw[g] at h;simp only[cond_true] at h;cases f:zog V l (n-csz V x) with
    |none=>rw[f] at h;cases h
    |some k=>rw[f] at h;simp only[w01] at h;subst h;have u:=w0s g;obtain⟨j,z⟩:=ziy (A:=A) l _ k f;have hx:=y0e V P (A:=A) x;rw[z3p,z3p V P x l,w0h,hx];refine⟨?_,by omega⟩;rw[j,w43,hx,w2q (l:=denL V P A [x]) (by omega)]
theorem zqy[Dr]{A:Asg}{l d m:List (SV V.T)}{o n:Nat}(h:splC V l o d n=some m):denL V P A m =(denL V P A l).take o++denL V P A d++(denL V P A l).drop (o+n)/\o+n<=(denL V P A l).length:=by
 unfold splC at h;cases f:zog V l o with
 |none=>rw[f] at h;cases h
 |some a=>
  cases g:z8p V l (o+n) with
  |none=>rw[f,g] at h;cases h
  |some b=>rw[f,g] at h;simp only[w01] at h;subst h;obtain⟨j,_⟩:=ziy V P (A:=A) l o a f;obtain⟨u,z⟩:=zd5 V P (A:=A) l _ b g;exact⟨by rw[z2k,z2k,j,u],z⟩
theorem zw[Dr]{A:Asg}: ∀{ps:Asg}{os:List (SO V.T)}{i:Nat}{p:Nat×Value}{o:SO V.T},ps[i]? = some p->os[i]? = some o->(obD V P A ps os)[i]? = some (o.den V P A p)
 | [],_,_,_,_,h,_=>by simp at h
 |_::_,[],_,_,_,_,h=>by simp at h
 |p::ps,o::os,0,_,_,h,k=>by simp at h k;subst h;subst k;rfl
 |p::ps,o::os,i+1,_,_,h,k=>by simp at h k;simp only[obD,w29];exact zw h k
theorem z8m[Dr]{s:St}{x:Operand}{C:Cx P}{o:Oper}{y:VP}(h:Ev s x nov):OpQ C o s y:=by intro a w r S Q f g j d;exact(h a r w d).elim
theorem y0a[Dr]{A:Asg}{x:SV V.T}(h:z1g x=true):x.den V P A=Px.agg (denL V P A (cellsOf x)):=by cases x<;>simp[z1g] at h<;>simp[cellsOf,SV.den,denL]
theorem zj1[Dr]{A:Asg}{x:SV V.T}(h:z1g x=false):denL V P A [x] = [x.den V P A]:=by cases x<;>simp[z1g] at h<;>rfl
end
end Px
end
section
namespace Px
open Go Go.RowKit
section
variable(V:TE)(P:Program)
theorem yb8{T:Nat->Type}{l:List (SV T)}{x:SV T}(h:y5f l=some x):l = [x]:=by
 match l,h with
 | [y],h=>simp[y5f] at h;rw[h]
theorem zgw{α:Type}{z:α}{l:List α}{i:Int}(h:0<=i/\i<(l.length:Int)):l[i.toNat]? = some (gtz z l i):=by
 have d:i.toNat<l.length:=by omega
 simp[gtz,d]
theorem ym1[Dr]{C:Cx P}{s:St}{x:Operand}{i E c fo:Nat}{k:Int}{l:List (V.T c)}{sv:Value}(hx:Ev s x (eltp sv k (k.toNat*V.sz c+fo)))(u:s.objs[i]? = some (row E (V.ev c) (V.sz c) l sv)):
  Pt C s x ((V.ev c (gtz (V.z c) l k)).drop fo):=by
 intro a r S w hw z;obtain⟨g,n,a0,hv,_,h0,h1⟩:=hx a r w z;have f:n=l.length\/False:=by
  rcases hw.obj i _ u with⟨j,_⟩|⟨g',h,cur,d,_⟩
  .rw[hv] at j;cases j
  .rw[hv] at d;simp only[Value.slice.injEq] at d;exact .inl d.2.1
 rcases f with rfl|hf
 .exact Pt.row C i (V.ev_len c) (Ev.ent' hx zty) u rfl (zgw ⟨h0,h1⟩) rfl a r S w hw z
 .exact hf.elim
theorem yje[Dr]{C:Cx P}{s:St}{x:Operand}{i E c fo:Nat}{k:Int}{l:List (V.T c)}{sv:Value}(hx:Ev s x (eltp sv k (k.toNat*V.sz c+fo)))(ho:ObIs s.objs i (row E (V.ev c) (V.sz c) l sv)):
  Pt C s x ((V.ev c (gtz (V.z c) l k)).drop fo):=by
 intro a r S w hw hs;obtain⟨g,n,a2,hv,hx,h0,h1⟩:=hx a r w hs;refine⟨g,_,hx,?_⟩;rcases ObIs.at hw ho with⟨hn,_⟩|⟨g',a1,cur,d,hS,f,hl,hm,a3,hh⟩
 .rw[hv] at hn;cases hn
 .rw[hv] at d;simp only[Value.slice.injEq,w01,Addr.mk.injEq] at d;obtain⟨⟨rfl,_⟩,rfl,_⟩:=d;intro j A hj;rw[w20] at hj;have a0:=z4t (V.ev_len c) l k.toNat _ (zgw (z:=V.z c) ⟨h0,h1⟩) (fo+j) A hj;obtain⟨u,h,hA,h1⟩:=hh.2 _ _ a0;refine⟨u,?_,hA,h1⟩;rw[w0x] at h;split at h
  .rw[cell_of_row w g _ cur E (0,0) f,w2v];simpa using h
  .cases h
theorem zxn[Dr]{A:Asg}{s:SS V.T}{j E c:Nat}{l:List (V.T c)}{q:Nat×Value}(d:A[j]? = some q)(f:s.ob[j]? = some (.x (.fix E c l))):ObIs (s.st V P A).objs j (row E (V.ev c) (V.sz c) l q.2):=⟨_,zw V P d f,λ_ _ _ h=>h.2⟩
def LdR[Dr](C:Cx P)(s:St)(x:Operand)(g:Bool)(n:Nat)(v:VP):Prop:=Ev s x nov\/(g=false/\∃cs,Pt C s x (v::cs))\/(g=true/\∃cs,v=Px.agg cs/\cs.length=n/\Pt C s x cs)
theorem yl8[Dr]{C:Cx P}{A:Asg}{s:SS V.T}{g:Bool}{n:Nat}{p v:SV V.T}{x:Operand}(h:ld V s g n p=some v)(d:Ev (s.st V P A) x (p.den V P A)):
  LdR P C (s.st V P A) x g n (v.den V P A):=by
 have fin:∀(cs:List (SV V.T)),zg6 V g n (some cs)=some v->Pt C (s.st V P A) x (denL V P A cs)->LdR P C (s.st V P A) x g n (v.den V P A):=by
  intro cs j hp;simp only[zg6] at j;cases h1:zog V cs n with
  |none=>rw[h1] at j;cases j
  |some l=>
   rw[h1] at j;obtain⟨e,hl⟩:=ziy V P (A:=A) cs n l h1;have a3 :(denL V P A l).length=n:=by rw[e,w1e];omega
   have a2:=hp.take n e.symm;cases g with
   |true=>simp only[cond_true,w01] at j;subst j;simp only[SV.den];exact .inr (.inr ⟨rfl,_,rfl,a3,a2⟩)
   |false=>
    simp only[cond_false] at j;cases h2:y5f l with
    |none=>rw[h2] at j;cases j
    |some y=>
     rw[h2] at j;simp only at j;have a7:=yb8 h2;subst a7;cases h3:z1g y with
     |true=>rw[h3] at j;cases j
     |false=>rw[h3] at j;simp only[cond_false,w01] at j;subst j;rw[zj1 V P h3] at a2;exact .inr (.inl ⟨rfl,_,a2⟩)
 have dr:∀(cs:List (SV V.T))(o:Nat),zg6 V g n (z8p V cs o)=some v->Pt C (s.st V P A) x ((denL V P A cs).drop o)->LdR P C (s.st V P A) x g n (v.den V P A):=by
  intro cs o j hp;cases h1:z8p V cs o with
  |none=>rw[h1] at j;cases j
  |some m=>rw[h1] at j;have e:=(zd5 V P (A:=A) cs o m h1).1;exact fin m j (by rw[e];exact hp)
 cases p with
 |ptr i off=>
  simp only[ld] at h;cases ho:s.ob[i]? with
  |none=>rw[ho] at h;cases h
  |some ob=>
   rw[ho] at h;cases ob with
   |box T cs=>
    simp only at h;simp only[SV.den] at d;cases ha:A[i]? with
    |none=>rw[ha] at d;exact .inl d
    |some q=>obtain⟨b,u⟩:=q;rw[ha] at d;exact dr cs off h (Pt.box i d (zw V P ha ho) rfl)
   |row _ _ _=>cases h
   |x _=>cases h
   |emp=>cases h
 |pta i off m z a4 a5 fo=>
  simp only[ld] at h;cases ho:s.ob[i]? with
  |none=>rw[ho] at h;cases h
  |some ob=>
   rw[ho] at h;cases ob with
   |box T cs=>
    simp only at h;cases a1:z8p V cs off with
    |none=>rw[a1] at h;cases h
    |some a6=>
     rw[a1] at h;cases a6 with
     |nil=>cases h
     |cons y post=>
      cases y with
      |arr m' c f=>
       simp only at h;cases hb :(Nat.beq m m'&&Nat.beq z (V.sz c)&&Nat.beq a5 1) with
       |false=>rw[hb] at h;cases h
       |true=>
        rw[hb] at h;simp only[cond_true] at h;simp only[w02] at hb;have e1:=w03 hb.1.1;have e2:=w03 hb.1.2;have e3:=w03 hb.2;subst e1;subst e2;subst e3;simp only[SV.den] at d;cases ha:A[i]? with
        |none=>rw[ha] at d;exact .inl d
        |some q=>
         obtain⟨b,u⟩:=q;rw[ha] at d;have e:=(zd5 V P (A:=A) cs off _ a1);have hsplit:denL V P A cs =(denL V P A cs).take off++Px.arr m (V.ev c) f++denL V P A post:=by have:=w2l off (denL V P A cs);rw[<- e.1] at this;simpa only[denL,w0m] using this.symm
         have a0:=zw V P (A:=A) (ps:=A) ha ho;simp only[SO.den] at a0;rw[hsplit] at a0;refine dr (V.enc c (f a4)) fo h ?_;rw[z2g];intro a r S w hw hs;obtain⟨a8,hv⟩:=d a r w hs;refine Pt.ofArrF (C:=C) (s:=s.st V P A) (x:=.const (.pointer (some ⟨b,off+a4*V.sz c+fo,none⟩))) i (Ev.const _) a0 (V.ev_len c) (by rw[w1e];omega) (by omega) rfl a r S w hw hs |>.imp λb' ⟨o',e1,e2⟩=>⟨o',?_,e2⟩
         rw[hv,<- e1];rfl
      |_=>cases h
   |row _ _ _=>cases h
   |x _=>cases h
   |emp=>cases h
 |rop cs=>simp only[ld] at h;simp only[SV.den] at d;exact fin cs h (Pt.rop d)
 |elt i k z fo=>
  simp only[ld] at h;cases ho:s.ob[i]? with
  |none=>rw[ho] at h;cases h
  |some ob=>
   rw[ho] at h;cases ob with
   |row E c l=>
    simp only at h;cases hb:Nat.beq z (V.sz c) with
    |false=>rw[hb] at h;cases h
    |true=>
     rw[hb] at h;simp only[cond_true] at h;have e1:=w03 hb;subst e1;simp only[SV.den] at d;cases ha:A[i]? with
     |none=>rw[ha] at d;exact .inl d
     |some q=>obtain⟨b,u⟩:=q;rw[ha] at d;have a0:=zw V P (A:=A) (ps:=A) ha ho;refine dr (V.enc c (gtz (V.z c) l k)) fo h ?_;rw[z2g];exact ym1 V P d a0
   |x o=>
    cases o with
    |fix E c l=>
     simp only at h;cases hb:Nat.beq z (V.sz c) with
     |false=>rw[hb] at h;cases h
     |true=>
      rw[hb] at h;simp only[cond_true] at h;have e1:=w03 hb;subst e1;simp only[SV.den] at d;cases ha:A[i]? with
      |none=>rw[ha] at d;exact .inl d
      |some q=>obtain⟨b,u⟩:=q;rw[ha] at d;refine dr (V.enc c (gtz (V.z c) l k)) fo h ?_;rw[z2g];exact yje V P d (zxn V P ha ho)
    |map _ _ _ _ _=>cases h
    |it _ _ _ _=>cases h
    |nst _ _ _ _ _=>cases h
   |box _ _=>cases h
   |emp=>cases h
 |_=>simp[ld] at h
theorem ymw[Dr]{C:Cx P}{A:Asg}{s:SS V.T}{g:Bool}{n:Nat}{p v:SV V.T}{t:TypeId}{x:Operand}{dst:Option Tmp}{ty:TypeId}{pos:String}{after:Array Edge}{guard:Option (Nat×Bool)}(f:z5n P t=some (g,n))(h:ld V s g n p=some v)(u:Ev (s.st V P A) x (p.den V P A)):
  OpQ C ⟨dst,.load t x,ty,pos,after,guard⟩ (s.st V P A) (v.den V P A):=by
 rcases yl8 V P (C:=C) h u with d|⟨rfl,cs,d⟩|⟨rfl,cs,e,j,d⟩
 .exact z8m P d
 .exact yal f d
 .rw[e];exact yen f j d
end
end Px
end
section
namespace Px
open Go Go.RowKit
section
variable(V:TE)
def vls :(cs:List Nat)->Tup V.T cs->List VP
 | [],_=>[]
 |c::cs,x=>V.vl c x.1::vls cs x.2
def Kres[Dr](P:Program)(res:List RC)(r:RTup V.T res)(x:VP)(news:List HP):Prop:=∃B:Asg,B.length =(newR V res r).length/\x =(resV V (encR V 0 res r)).den V P B/\news=obD V P B B (newR V res r)
def zz[Dr](P:Program)(f:Nat)(sp:Fsp V):Prop:=∀a r,sp.F a=some r->zdv P f (vls V sp.args a) (Kres V P sp.res r)
def msD[Dr](P:Program):(ms:List MA)->MTup V.T ms->List VP
 | [],_=>[]
 | .fn f::ms,x=>eqv (.func (.func f) #[] #[])::msD P ms x.2
 | .val c::ms,x=>V.vl c x.1::msD P ms x.2
 | .cmp c::ms,x=>fcmp P (λy=>V.vl c y) x.1::msD P ms x.2
def zn4[Dr](P:Program)(f:Nat)(m:Msp V):Prop:=∀l a l' sv,m.F l a=some l'->MutT P f (eqv sv::msD V P m.ms a) m.E (V.ev m.c) (V.sz m.c) l sv λx l2=>x=eqv (.tuple #[])/\l2=l'
def ztc[Dr](P:Program)(f:Nat)(m:Csp V):Prop:=∀a b r,m.F a b=some r->zdv P f (vls V m.args a++denV V P [] (encK V m.caps b)) (Kres V P m.res r)
def rop0(cs:List VP):VP:=⟨λr w v=>∃b,v = .pointer (some ⟨b,0,none⟩)/\r b/\z5p w r b 0 cs,λh1 h2 ⟨b,hv,hr,h⟩=>⟨b,hv,h1 _ hr,h.wk h1 h2 (h2 _ hr)⟩⟩
def SoOK[Dr](P:Program)(f:Nat)(sp:SoSp):Prop:=∀m:List (V.T sp.kc×V.T sp.vc),soK (V.kl sp.kc) m=true->
 zdv P f [fnc sp.g [rop0 [V.mv V.ev sp.kc sp.vc m]]] λx news=>∃sv,x=eqv sv/\news = [row sp.E (V.ev sp.kc) (V.sz sp.kc) (m.map (·.1)) sv]
structure z6x[Dr](N:Env V):Prop where
 cl:∀f m,N.cl f=some m->ztc V N.P f m
 mu:∀f m,N.mu f=some m->zn4 V N.P f m
 fn:∀f sp,N.fn f=some sp->zz V N.P f sp
 so:∀f sp,N.so f=some sp->SoOK V N.P f sp
end
theorem z8k{R:Type}{gb:List (Nat×Bool)}{d:Ch}{p:Prop}[Decidable p]{k:Option R}{r:R}(h:ckG gb d p k=some r):(chP gb d->p)/\k=some r:=by
 cases d with
 |nil=>exact⟨λ_=>(zef h).1,(zef h).2⟩
 |cons a l=>
  simp only[ckG,ck] at h;split at h
  .rename_i hh;exact⟨hh,h⟩
  .cases h
theorem ztl{α R:Type}{gb:List (Nat×Bool)}{d:Ch}{z:α}{x:Option α}{k:α->Option R}{r:R}(h:ztk gb d z x k=some r):∃y,(chP gb d->x=some y)/\k y=some r:=by
 cases d with
 |nil=>obtain⟨y,e,f⟩:=bind_some h;exact⟨y,λ_=>e,f⟩
 |cons a l=>
  obtain⟨y,e,f⟩:=bind_some h;refine⟨y,λg=>?_,f⟩;unfold zi at e
  rwa [if_pos g] at e
theorem FEnt.rowI[Dr]{P:Program}{C:Cx P}{s:St}{α:Type}(i:Nat){E:TypeId}{e:α->List VP}{sz:Nat}{l:List α}{sv:Value}(he:∀x,(e x).length=sz)(ho:ObIs s.objs i (Px.row E e sz l sv)):FEnt C s (eqv sv) (Px.ro e sz l):=by
 intro r S w v hw h;simp only[eqv] at h;subst h;rcases ObIs.at hw ho with⟨rfl,rfl⟩|⟨g,z,cur,rfl,hS,d,hl,hm,a0,hh⟩
 .exact .inl ⟨⟨none,0,rfl⟩,rfl⟩
 .refine .inr ⟨g,0,z-l.length,by rw[w3a hl],λk x hk=>⟨.inr ⟨i,hS⟩,λj A hj=>?_⟩⟩;obtain⟨u,f,hA,h1⟩:=hh.2 _ A (z4t he l k x hk j A hj);refine⟨u,?_,A.mono (λb hb=>.inl hb) (λ_ _=>rfl) hA,h1⟩;rw[w1j,cell_of_row w g _ cur E (0,0) d];rw[w0x] at f;split at f
  .simpa using f
  .cases f
section
variable(V:TE)(P:Program)
theorem z6y[Dr]{A:Asg}{c:Nat}{x:SV V.T}{y:V.T c}(h:V.dec (rdSl []) c x=some y):Ent (x.den V P A) (V.vl c y):=y8c (zq4 []) (λ_ _ _ _ _=>zm7) (λ_=>Ent.refl) (λ_ _ _ h=>zuz h) (λ_ _ h=>Ent.agg h.ents) h
theorem FEnt.nilM[Dr]{C:Cx P}{s:St}{kc vc:Nat}: FEnt C s (eqv (.map none)) (V.mv V.ev kc vc []):=λr S w v d h=>.inl ⟨h,rfl⟩
theorem yd4[Dr]{C:Cx P}{A:Asg}{s:SS V.T}{c:Nat}{x:SV V.T}{y:V.T c}(h:V.dec (rdSl s.ob) c x=some y):FEnt C (s.st V P A) (x.den V P A) (V.vl c y):=by
 refine y8c (R:=FEnt C (s.st V P A)) (zq4 s.ob) (λ_ _ _ _ _=>FEnt.nilM V P) (λ_=>FEnt.refl) (λc y l h=>?_) (λ_ _ h=>FEnt.agg h.fents) h;unfold rdSl at h;split at h
 .split at h
  .rename_i e;subst e;simp only[w01] at h;subst h;exact FEnt.refl
  .cases h
 .rename_i i;cases d:s.ob[i]? with
  |none=>rw[d] at h;cases h
  |some o=>
   rw[d] at h;cases o with
   |row E j u=>
    simp only at h;split at h
    .rename_i e;subst e;simp only[w01] at h;subst h;simp only[SV.den];cases f:A[i]? with
     |none=>exact λr S w v _ g=>g.elim
     |some q=>exact FEnt.row i (V.ev_len _) (zw V P f d)
    .cases h
   |x o=>
    cases o with
    |fix E j u=>
     simp only at h;split at h
     .rename_i e;subst e;simp only[w01] at h;subst h;simp only[SV.den];cases f:A[i]? with
      |none=>exact λr S w v _ g=>g.elim
      |some q=>exact FEnt.rowI i (V.ev_len _) (zxn V P f d)
     .cases h
    |map _ _ _ _ _=>cases h
    |it _ _ _ _=>cases h
    |nst _ _ _ _ _=>cases h
   |box _ _=>cases h
   |emp=>cases h
 .simp only[w01] at h;subst h;exact FEnt.nil
 .cases h
theorem FEnt.box[Dr]{C:Cx P}{s:St}(i:Nat){b:Nat}{T:TypeId}{cs ds:List VP}(ho:s.objs[i]? = some (Px.box b T cs))(h:zku C s cs ds):FEnt C s (eqv (.pointer (some ⟨b,0,none⟩))) (Px.rop ds):=by intro r S w v hw hv;have hv:v = .pointer (some ⟨b,0,none⟩):=hv;subst hv;obtain⟨hS,cur,d,hh⟩:=hw.obj i _ ho;obtain⟨h1,h2⟩:=h.ok;refine⟨b,0,rfl,.inr ⟨i,hS⟩,λj B hB=>?_⟩;obtain⟨A,hA,f⟩:=h2 j B hB;obtain⟨u,hu,g,z⟩:=hh.2 j A hA;refine⟨u,?_,f r S w u hw g,z⟩;rw[w1j,cell_of_row w b j cur T (0,0) d];simpa using hu
theorem FEnt.box0[Dr]{C:Cx P}{s:St}(i:Nat){b:Nat}{T:TypeId}{cs ds:List VP}(ho:s.objs[i]? = some (Px.box b T cs))(h:zku C s cs ds):FEnt C s (eqv (.pointer (some ⟨b,0,none⟩))) (rop0 ds):=by intro r S w v hw hv;have hv:v = .pointer (some ⟨b,0,none⟩):=hv;subst hv;obtain⟨hS,cur,d,hh⟩:=hw.obj i _ ho;obtain⟨h1,h2⟩:=h.ok;refine⟨b,rfl,.inr ⟨i,hS⟩,λj B hB=>?_⟩;obtain⟨A,hA,f⟩:=h2 j B hB;obtain⟨u,hu,g,z⟩:=hh.2 j A hA;refine⟨u,?_,f r S w u hw g,z⟩;rw[w1j,cell_of_row w b j cur T (0,0) d];simpa using hu
theorem yaw[Dr]{C:Cx P}{A:Asg}{s:SS V.T}(c:Nat)(y:SV V.T)(l:List (V.T c))(h:rdSl s.ob c y=some l):FEnt C (s.st V P A) (y.den V P A) (Px.ro (V.ev c) (V.sz c) l):=by
 unfold rdSl at h;split at h
 .split at h
  .rename_i e;subst e;simp only[w01] at h;subst h;exact FEnt.refl
  .cases h
 .rename_i i;cases d:s.ob[i]? with
  |none=>rw[d] at h;cases h
  |some o=>
   rw[d] at h;cases o with
   |row E j u=>
    simp only at h;split at h
    .rename_i e;subst e;simp only[w01] at h;subst h;simp only[SV.den];cases f:A[i]? with
     |none=>exact λr S w v _ g=>g.elim
     |some q=>exact FEnt.row i (V.ev_len _) (zw V P f d)
    .cases h
   |x o=>
    cases o with
    |fix E j u=>
     simp only at h;split at h
     .rename_i e;subst e;simp only[w01] at h;subst h;simp only[SV.den];cases f:A[i]? with
      |none=>exact λr S w v _ g=>g.elim
      |some q=>exact FEnt.rowI i (V.ev_len _) (zxn V P f d)
     .cases h
    |map _ _ _ _ _=>cases h
    |it _ _ _ _=>cases h
    |nst _ _ _ _ _=>cases h
   |box _ _=>cases h
   |emp=>cases h
 .simp only[w01] at h;subst h;exact FEnt.nil
 .cases h
theorem yh9[Dr]{C:Cx P}{A:Asg}{s:SS V.T}{c:Nat}{x:SV V.T}{y:V.T c}(h:capX V s.ob c x=some y):FEnt C (s.st V P A) (x.den V P A) (Px.rop (V.ev c y)):=by
 unfold capX at h;split at h
 .rename_i cs;have:=zzy (zfx (P:=P) (A:=A) (R:=Eq) zt2 zt3 (λ_=>rfl) (λ_ _ _ h=>zt1 h) h);simp only[SV.den];rw[this];exact FEnt.refl
 .rename_i i;split at h
  .rename_i T cs f;have:=zfx (P:=P) (A:=A) (R:=FEnt C (s.st V P A)) (zq4 s.ob) (λ_ _ _ _ _=>FEnt.nilM V P) (λ_=>FEnt.refl) (yaw V P) h;simp only[SV.den];cases d:A[i]? with
   |none=>exact λr S w v _ g=>g.elim
   |some q=>exact FEnt.box P i (zw V P d f) this.fents
  .cases h
 .cases h
theorem y2n{c:Nat}{x:V.T c}(h:zbz (V.d c)=true):V.vl c x=eqv (V.kv c x):=by unfold TE.vl TE.kv;generalize (λc=>kvS (V.d c))=g;revert x h;generalize V.ev c=e;generalize V.d c=d;revert e d;generalize V.T c=α;intro e d x h;cases d<;>first|rfl|simp[zbz] at h
theorem yl2{E c:Nat}(h:V.okV c=true){x:V.T c}{v:Value}{S r:Nat->Prop}{w:World}(f :(V.inm E c x v).h S r w):(V.vl c x).h (λb=>r b\/S b) w v:=by
 unfold TE.okV at h;unfold TE.inm at f;unfold TE.vl;revert x h;generalize V.ev c=e;generalize V.d c=d;revert e d;generalize V.T c=α;intro e d h x f;cases d with
 |int k=>exact f
 |bool=>exact f
 |str=>exact f
 |sl g=>exact zt5 (V.ev_len g) f
 |map kc vc=>
  obtain⟨b,rfl,j⟩:=f;show (V.mv V.ev kc vc x).h _ _ _;rw[y6f];refine ygd j λy v z hy=>?_
  simp only[okD] at h;rw[y2n V h];exact hy
 |arr n g=>simp[okD,zbz] at h
 |st fs mk un u=>simp[okD,zbz] at h
theorem yga{E kc vc:Nat}{m:List (V.T kc×V.T vc)}{b:Nat}{S r:Nat->Prop}{w:World}(h:V.okV vc=true)(d :(nmp b (V.kl kc) (V.kv kc) (V.inm E vc) m none).h S r w):(V.mv V.ev kc vc m).h (λb=>r b\/S b) w (.map (some b)):=by rw[y6f];exact ygd d λy v f hy=>yl2 V h hy
theorem FEnt.map[Dr]{C:Cx P}{A:Asg}{s:SS V.T}{j kc vc E:Nat}{m:List (V.T kc×V.T vc)}{q:Nat×Value}(d:V.okV vc=true)(g:A[j]? = some q)(z:s.ob[j]? = some (.x (.map kc vc E m none))):FEnt C (s.st V P A) (eqv q.2) (V.mv V.ev kc vc m):=by intro r S w v hw f;have f:v=q.2:=f;subst f;obtain⟨⟨hq,_⟩,u⟩:=hw.obj j _ (zw V P g z);rw[hq];exact(V.mv V.ev kc vc m).mono (λc h=>h.elim .inl λq=>.inr ⟨j,q⟩) (λ_ _=>rfl) (yga V d u)
theorem FEnt.fnc[Dr]{C:Cx P}{s:St}{f:FuncId}{g j:List VP}(h:zku C s g j):FEnt C s (Px.fnc f g) (Px.fnc f j):=by rintro r S w v hw ⟨caps,hv,hl,hc⟩;obtain⟨u,z⟩:=h.ok;refine⟨caps,hv,by rw[<- u];exact hl,λi B hB=>?_⟩;obtain⟨A,hA,d⟩:=z i B hB;exact d r S w _ hw (hc i A hA)
theorem FEnt.rop1[Dr]{C:Cx P}{s:St}{As g:List VP}(h:zku C s As g):FEnt C s (Px.rop As) (Px.rop g):=by rintro r S w v hw ⟨b,o,hv,hr,hh⟩;obtain⟨h1,z⟩:=h.ok;refine⟨b,o,hv,.inl hr,λj B hB=>?_⟩;obtain⟨A,hA,d⟩:=z j B hB;obtain⟨u,hu,f,ho⟩:=hh j A hA;exact⟨u,hu,d r S w u hw f,ho⟩
theorem yh8[Dr]{C:Cx P}{A:Asg}{s:SS V.T}{kc vc:Nat}{x:SV V.T}{y:List (V.T kc×V.T vc)}(h:capM V s.ob kc vc x=some y):FEnt C (s.st V P A) (x.den V P A) (Px.rop [V.mv V.ev kc vc y]):=by
 unfold capM at h;split at h
 .rename_i a0 f m;split at h
  .rename_i g;split at h
   .rename_i u;subst g u;simp only[w01] at h;subst h;simp only[SV.den,denL];exact FEnt.refl
   .cases h
  .cases h
 .rename_i i;split at h
  .rename_i T j ho;split at h
   .rename_i a0 f E m hj;cases d:V.okV f with
    |false=>rw[d] at h;cases h
    |true=>
    rw[d] at h;simp only[cond_true] at h;split at h
    .rename_i g;split at h
     .rename_i u;subst g u;simp only[w01] at h;subst h;simp only[SV.den];cases ha:A[i]? with
      |none=>exact λr S w v _ z=>z.elim
      |some q=>
       refine FEnt.box P i (zw V P ha ho) ?_;simp only[denL,SV.den];cases hq:A[j]? with
       |none=>exact⟨λr S w v _ z=>z.elim,trivial⟩
       |some p=>exact⟨FEnt.map V P d hq hj,trivial⟩
     .cases h
    .cases h
   .cases h
  .rename_i T a0 f m ho;split at h
   .rename_i g;split at h
    .rename_i u;subst g u;simp only[w01] at h;subst h;simp only[SV.den];cases ha:A[i]? with
     |none=>exact λr S w v _ z=>z.elim
     |some q=>refine FEnt.box P i (zw V P ha ho) ?_;simp only[denL,SV.den];exact⟨FEnt.refl,trivial⟩
    .cases h
   .cases h
  .cases h
 .cases h
theorem yco[Dr]{C:Cx P}{A:Asg}{s:SS V.T}{kc vc i:Nat}{y:List (V.T kc×V.T vc)}(h:capM V s.ob kc vc (.ptr i 0)=some y):FEnt C (s.st V P A) ((SV.ptr i 0:SV V.T).den V P A) (rop0 [V.mv V.ev kc vc y]):=by
 simp only[capM] at h;split at h
 .rename_i T j ho;split at h
  .rename_i a0 g E m hj;cases d:V.okV g with
   |false=>rw[d] at h;cases h
   |true=>
   rw[d] at h;simp only[cond_true] at h;split at h
   .rename_i u;split at h
    .rename_i z;subst u z;simp only[w01] at h;subst h;simp only[SV.den];cases ha:A[i]? with
     |none=>exact λr S w v _ f=>f.elim
     |some q=>
      refine FEnt.box0 P i (zw V P ha ho) ?_;simp only[denL,SV.den];cases hq:A[j]? with
      |none=>exact⟨λr S w v _ f=>f.elim,trivial⟩
      |some p=>exact⟨FEnt.map V P d hq hj,trivial⟩
    .cases h
   .cases h
  .cases h
 .rename_i T a0 g m ho;split at h
  .rename_i u;split at h
   .rename_i z;subst u z;simp only[w01] at h;subst h;simp only[SV.den];cases ha:A[i]? with
    |none=>exact λr S w v _ f=>f.elim
    |some q=>refine FEnt.box0 P i (zw V P ha ho) ?_;simp only[denL,SV.den];exact⟨FEnt.refl,trivial⟩
   .cases h
  .cases h
 .cases h
theorem y80[Dr]{C:Cx P}{A:Asg}{s:SS V.T}{k:KB}{x:SV V.T}{y:k.T V.T}(h:capB V s.ob k x=some y):FEnt C (s.st V P A) (x.den V P A) ((enB V k y).den V P []):=by
 cases k with
 |val c=>simp only[enB,SV.den,z2g];exact yh9 V P h
 |map kc vc=>simp only[enB,SV.den,denL];exact yh8 V P h
theorem ztm[Dr]{C:Cx P}{A:Asg}{s:SS V.T}: ∀{cs:List KB}{l:List (SV V.T)}{b:KBs V.T cs},zhj V s.ob cs l=some b->zku C (s.st V P A) (denV V P A l) (denV V P [] (enBs V cs b))
 | [],[],_,_=>trivial
 |c::cs,x::l,b,h=>by
  simp only[zhj] at h;split at h
  .rename_i y r d f;simp only[w01] at h;subst h;exact⟨y80 V P d,ztm f⟩
  .cases h
 | [],_::_,_,h=>by simp[zhj] at h
 |_::_,[],_,h=>by simp[zhj] at h
theorem yh7[Dr]{C:Cx P}{A:Asg}{s:SS V.T}{f:Nat}{j:List KB}{x:SV V.T}{y:KBs V.T j}(h:capF V s.ob f j x=some y):FEnt C (s.st V P A) (x.den V P A) (Px.rop [Px.fnc f (denV V P [] (enBs V j y))]):=by
 unfold capF at h;split at h
 .rename_i g l;cases d:Nat.beq f g with
  |false=>rw[d] at h;cases h
  |true=>rw[d] at h;have e:=w03 d;subst e;simp only[SV.den,denL];exact FEnt.rop1 P ⟨FEnt.fnc P (ztm V P h),trivial⟩
 .rename_i i;split at h
  .rename_i T g l z;cases d:Nat.beq f g with
   |false=>rw[d] at h;cases h
   |true=>
    rw[d] at h;have e:=w03 d;subst e;simp only[SV.den];cases u:A[i]? with
    |none=>exact λr S w v _ hv=>hv.elim
    |some q=>refine FEnt.box P i (zw V P u z) ?_;simp only[denL,SV.den];exact⟨FEnt.fnc P (ztm V P h),trivial⟩
  .cases h
 .cases h
theorem yh6[Dr]{C:Cx P}{A:Asg}{s:SS V.T}{k:KC}{x:SV V.T}{y:k.T V.T}(h:capC V s.ob k x=some y):FEnt C (s.st V P A) (x.den V P A) ((enC V k y).den V P []):=by
 cases k with
 |b k=>exact y80 V P h
 |fn f d=>simp only[enC,SV.den,denL];exact yh7 V P h
theorem ztn[Dr]{C:Cx P}{A:Asg}{s:SS V.T}: ∀{cs:List KC}{l:List (SV V.T)}{b:KCs V.T cs},zfw V s.ob cs l=some b->zku C (s.st V P A) (denV V P A l) (denV V P [] (encK V cs b))
 | [],[],_,_=>trivial
 |c::cs,x::l,b,h=>by
  simp only[zfw] at h;split at h
  .rename_i y r d f;simp only[w01] at h;subst h;exact⟨yh6 V P d,ztn f⟩
  .cases h
 | [],_::_,_,h=>by simp[zfw] at h
 |_::_,[],_,h=>by simp[zfw] at h
theorem ycq[Dr]{A:Asg}{c:Nat}{x:SV V.T}{y:V.T c}(h:capX V [] c x=some y):x.den V P A=Px.rop (V.ev c y):=by
 unfold capX at h;split at h
 .rename_i cs;have:=zzy (zfx (P:=P) (A:=A) (R:=Eq) zt2 zt3 (λ_=>rfl) (λ_ _ _ h=>zt1 h) h);simp only[SV.den];rw[this]
 .simp at h
 .cases h
theorem ycn[Dr]{A:Asg}{kc vc:Nat}{x:SV V.T}{y:List (V.T kc×V.T vc)}(h:capM V [] kc vc x=some y):x.den V P A=Px.rop [V.mv V.ev kc vc y]:=by
 unfold capM at h;split at h
 .rename_i g j m;split at h
  .rename_i d;split at h
   .rename_i f;subst d f;simp only[w01] at h;subst h;simp only[SV.den,denL]
   .cases h
  .cases h
 .simp at h
 .cases h
theorem y37[Dr]{A:Asg}{k:KB}{x:SV V.T}{y:k.T V.T}(h:capB V [] k x=some y):x.den V P A =(enB V k y).den V P []:=by
 cases k with
 |val c=>simp only[enB,SV.den,z2g];exact ycq V P h
 |map kc vc=>simp only[enB,SV.den,denL];exact ycn V P h
theorem zx5[Dr]{A:Asg}: ∀{cs:List KB}{l:List (SV V.T)}{b:KBs V.T cs},zhj V [] cs l=some b->denV V P A l=denV V P [] (enBs V cs b)
 | [],[],_,_=>rfl
 |c::cs,x::l,b,h=>by
  simp only[zhj] at h;split at h
  .rename_i y r d f;simp only[w01] at h;subst h;simp only[denV,enBs];rw[y37 (A:=A) V P d,zx5 (A:=A) f]
  .cases h
 | [],_::_,_,h=>by simp[zhj] at h
 |_::_,[],_,h=>by simp[zhj] at h
theorem ycl[Dr]{A:Asg}{k:KC}{x:SV V.T}{y:k.T V.T}(h:capC V [] k x=some y):x.den V P A =(enC V k y).den V P []:=by
 cases k with
 |b k=>exact y37 V P h
 |fn f j=>
  change capF V [] f j x=some y at h;unfold capF at h;split at h
  .rename_i g l;cases d:Nat.beq f g with
   |false=>rw[d] at h;cases h
   |true=>rw[d] at h;have e:=w03 d;subst e;simp only[enC,SV.den,denL];rw[zx5 (A:=A) V P h]
  .simp at h
  .cases h
theorem zx6[Dr]{A:Asg}: ∀{cs:List KC}{l:List (SV V.T)}{b:KCs V.T cs},zfw V [] cs l=some b->denV V P A l=denV V P [] (encK V cs b)
 | [],[],_,_=>rfl
 |c::cs,x::l,b,h=>by
  simp only[zfw] at h;split at h
  .rename_i y r d f;simp only[w01] at h;subst h;simp only[denV,encK];rw[ycl (A:=A) V P d,zx6 (A:=A) f]
  .cases h
 | [],_::_,_,h=>by simp[zfw] at h
 |_::_,[],_,h=>by simp[zfw] at h
theorem zj0[Dr]{A:Asg}{s:SS V.T}{ch:Ch}(j:chP s.gb ch):∀{cs:List Nat}{os:List Operand}{a:Tup V.T cs},decA V (rdSl []) s.sl ch cs os=some a->Args (s.st V P A) os (vls V cs a)
 | [],[],_,_=>trivial
 |c::cs,o::os,a,h=>by
  simp only[decA] at h;cases d:evO s.sl ch o with
  |none=>rw[d] at h;cases h
  |some x=>
   rw[d] at h;cases f:V.dec (rdSl []) c x with
   |none=>simp only[f] at h;cases h
   |some y=>
    simp only[f] at h;cases g:decA V (rdSl []) s.sl ch cs os with
    |none=>rw[g] at h;cases h
    |some b=>rw[g] at h;simp only[w01] at h;subst h;exact⟨Ev.ent' (z1t V P d j) (z6y V P f),zj0 j g⟩
 | [],_::_,_,h=>by simp[decA] at h
 |_::_,[],_,h=>by simp[decA] at h
theorem zgs[Dr]{C:Cx P}{A:Asg}{s:SS V.T}{ch:Ch}(j:chP s.gb ch):∀{cs:List Nat}{os:List Operand}{a:Tup V.T cs},decA V (rdSl s.ob) s.sl ch cs os=some a->zwi C (s.st V P A) os (vls V cs a)
 | [],[],_,_=>trivial
 |c::cs,o::os,a,h=>by
  simp only[decA] at h;cases d:evO s.sl ch o with
  |none=>rw[d] at h;cases h
  |some x=>
   rw[d] at h;cases f:V.dec (rdSl s.ob) c x with
   |none=>simp only[f] at h;cases h
   |some y=>
    simp only[f] at h;cases g:decA V (rdSl s.ob) s.sl ch cs os with
    |none=>rw[g] at h;cases h
    |some b=>rw[g] at h;simp only[w01] at h;subst h;exact⟨EvF.of (z1t V P d j) (yd4 V P f),zgs j g⟩
 | [],_::_,_,h=>by simp[decA] at h
 |_::_,[],_,h=>by simp[decA] at h
theorem y3n{T:Nat->Type}{g :(c:Nat)->T c->List VP}{fl:Nat->Bool}(h:∀c,fl c=true->∀x,zbi (g c x)):∀(fs:List Nat)(x:Tup T fs),fs.all fl=true->zbi (evT g fs x)
 | [],_,_=>trivial
 |c::cs,x,f=>by
  simp only[w1h,w02] at f;have d:=h c f.1 x.1;have j:=y3n h cs x.2 f.2;simp only[evT];revert d;generalize g c x.1=l;intro d
  induction l with
  |nil=>exact j
  |cons a l u=>exact⟨d.1,u d.2⟩
theorem y5u{l:List VP}(h:∀A∈l,A.flat):zbi l:=by
 induction l with
 |nil=>trivial
 |cons a l f=>exact⟨h a (w0n ..),f λb d=>h b (w0g _ d)⟩
theorem zl7:∀(n c:Nat),flN V n c=true->∀x,zbi (V.ev c x)
 |0,_,h=>by simp[flN] at h
 |n+1,c,h=>by
  intro x;rw[V.ev_eq];simp only[flN] at h;revert x h;generalize V.d c=d;generalize V.T c=α at d;intro h x;cases d with
  |int k=>exact⟨zem,trivial⟩
  |bool=>exact⟨zem,trivial⟩
  |str=>exact⟨zem,trivial⟩
  |sl g=>simp[flD] at h
  |map kc vc=>simp[flD] at h
  |arr m g=>
   simp only[flD] at h;refine y5u λB f=>?_
   simp only[evD,arr,w24] at f;obtain⟨i,_,f⟩:=f;exact zbi.mem (zl7 n g h _) B f
  |st fs mk u j=>exact y3n (fl:=flN V n) (λc h=>zl7 n c h) fs (u x) h
theorem ybq{c:Nat}(h:V.fl c=true)(x:V.T c):(V.vl c x).flat:=by
 have d:=zl7 V _ _ h x;cases f:z81 (V.d c) with
 |true=>rw[zn1 x f];exact y8t d
 |false=>rw[zr5 x f] at d;exact d.1
theorem zj5[Dr]{B:Asg}: ∀(n:Nat)(d:List RC)(r:RTup V.T d),d.any zet=false->newR V d r = []/\∀A,denV V P A (encR V n d r)=denV V P B (encR V 0 d r)
 |n,[],r,_=>⟨rfl,λA=>rfl⟩
 |n,.val c::cs,r,h=>by simp only[w49,zet,w2c] at h;obtain⟨f,g⟩:=zj5 (B:=B) n cs r.2 h;obtain⟨_,j⟩:=zj5 (B:=B) 0 cs r.2 h;refine⟨by simpa only[newR] using f,λA=>?_⟩;simp only[encR,denV,z4l,g]
 |n,.row E c::cs,r,h=>by simp[zet] at h
theorem zw2[Dr]{A B:Asg}{l m:List (SV V.T)}(h:denV V P A l=denV V P B m):(resV V l).den V P A =(resV V m).den V P B:=by
 match l,m with
 | [],[]=>rfl
 | [x],[y]=>simp only[denV] at h;simpa[resV] using h
 |x::y::l,a::b::m=>simp only[resV,SV.den,h]
 | [],_::_=>simp[denV] at h
 |_::_,[]=>simp[denV] at h
 | [_],_::_::_=>simp[denV] at h
 |_::_::_,[_]=>simp[denV] at h
theorem zop[Dr]{A:Asg}: ∀(n:Nat)(d:List RC)(r:RTup V.T d),d.any zet=false->d.all (flR V)=true->∀B∈denV V P A (encR V n d r),B.flat
 |n,[],r,_,_,B,hB=>by simp[encR,denV] at hB
 |n,.val c::cs,r,h,f,B,hB=>by
  simp only[w49,zet,w2c] at h;simp only[w1h,w02,flR] at f;simp only[encR,denV,w05,z4l] at hB;rcases hB with rfl|hB
  .exact ybq V f.1 _
  .exact zop n cs r.2 h f.2 B hB
 |n,.row E c::cs,r,h,_,_,_=>by simp[zet] at h
theorem zqq[Dr]{A:Asg}{l:List (SV V.T)}(h:∀B∈denV V P A l,B.flat):((resV V l).den V P A).flat:=by
 match l with
 | []=>exact zem
 | [x]=>exact h _ (by simp[resV,denV])
 |x::y::l=>simp only[resV,SV.den];exact ydg h
theorem z9q{f:Nat}(h:zt.fnok P f=true):FnOK P f:=by
 unfold zt.fnok at h;split at h
 .rename_i fn d;simp only[w02,w0v] at h;exact⟨fn,d,h.1,h.2⟩
 .cases h
end
end Px
end
section
namespace Px
open Go Go.RowKit
def zwl(D:Nat->Prop)(w:World):Prop:=∀b,D b->∀o u,w.cell? ⟨b,o,none⟩=some u->∃g,u = .bool g
def Sep(A:VP):Prop:=∀(D r:Nat->Prop)(w:World)(v:Value),zwl D w->A.h r w v->A.h (λb=>r b/\¬D b) w v
def NoB(A:VP):Prop:=∀r w g,¬A.h r w (.bool g)
theorem Sep.eqv{v:Value}: Sep (Px.eqv v):=λ_ _ _ _ _ h=>h
theorem yb7{cs:List VP}(h:∀A∈cs,Sep A){D r:Nat->Prop}{w:World}{b o:Nat}(hD:zwl D w)(k:z5p w r b o cs):z5p w (λb=>r b/\¬D b) b o cs:=λj A d=>by obtain⟨u,f,g,z⟩:=k j A d;exact⟨u,f,h A (w17 d) D r w u hD g,z⟩
theorem Sep.ro{α:Type}{e:α->List VP}{sz:Nat}{l:List α}(he:∀x,∀A∈e x,Sep A)(hn:∀x,∃(j:Nat)(A:VP),(e x)[j]? = some A/\NoB A):Sep (Px.ro e sz l):=by
 intro D r w v z h;rcases h with h|⟨b,o,d,hv,h⟩
 .exact .inl h
 .refine .inr ⟨b,o,d,hv,λi x hi=>?_⟩;obtain⟨h1,f⟩:=h i x hi;refine⟨⟨h1,λhd=>?_⟩,yb7 (he x) z f⟩;obtain⟨j,A,hj,hA⟩:=hn x;obtain⟨u,h3,h4,_⟩:=f j A hj;obtain⟨g,rfl⟩:=z b hd _ _ h3;exact hA _ _ _ h4
theorem Sep.agg{cs:List VP}(h:∀A∈cs,Sep A):Sep (Px.agg cs):=by rintro D r w v hD ⟨vs,rfl,hh⟩;refine⟨vs,rfl,hh.1,λj A d=>?_⟩;obtain⟨u,f,g,z⟩:=hh.2 j A d;exact⟨u,f,h A (w17 d) D r w u hD g,z⟩
theorem Sep.tup{xs:List VP}(h:∀A∈xs,Sep A):Sep (Px.tupv xs):=by rintro D r w v f ⟨vs,j,g,hh⟩;exact⟨vs,j,g,λi A d=>h A (w17 d) D r w _ f (hh i A d)⟩
section
variable(V:TE)
def ztd(l:List VP):Prop:=∃(j:Nat)(A:VP),l[j]? = some A/\NoB A
theorem ztd.left{a b:List VP}(h:ztd a):ztd (a++b):=by obtain⟨j,A,d,f⟩:=h;exact⟨j,A,by rw[w0r (w04.1 d).1];exact d,f⟩
theorem ztd.right{a b:List VP}(h:ztd b):ztd (a++b):=by obtain⟨j,A,f,d⟩:=h;exact⟨a.length+j,A,by rw[w18 (by omega),w3t];exact f,d⟩
theorem yfz{T:Nat->Type}{g :(c:Nat)->T c->List VP}{nb:Nat->Bool}(h:∀c,nb c=true->∀x,ztd (g c x)):∀(fs:List Nat)(x:Tup T fs),fs.any nb=true->ztd (evT g fs x)
 | [],_,hl=>by simp at hl
 |c::cs,x,hl=>by
  simp only[w49,w0w] at hl;rcases hl with hl|hl
  .exact(h c hl x.1).left
  .exact(yfz h cs x.2 hl).right
theorem yhv:∀(n c:Nat),nbN V n c=true->∀x,ztd (V.ev c x)
 |0,_,h=>by simp[nbN] at h
 |n+1,c,h=>by
  intro x;rw[V.ev_eq];simp only[nbN] at h;revert x h;generalize V.d c=d;generalize V.T c=α at d;intro h x;cases d with
  |int k=>exact⟨0,_,rfl,λr w g q=>by cases q⟩
  |bool=>simp[nbD] at h
  |str=>exact⟨0,_,rfl,λr w g q=>by cases q⟩
  |sl j=>exact⟨0,_,rfl,λr w g q=>by rcases q with⟨⟨a,f,q⟩,_⟩|⟨b,o,f,q,_⟩<;>cases q⟩
  |map kc vc=>exact⟨0,_,rfl,λr w g q=>by rcases q with⟨q,_⟩|⟨b,t,q,_⟩<;>cases q⟩
  |arr m j=>simp only[nbD,w02,w2e] at h;obtain⟨m,rfl⟩:∃q,m=q+1:=⟨m-1,by omega⟩;simp only[evD,arr];rw[List.range_succ_eq_map,w0u];exact(yhv n j h.2 _).left
  |st fs mk z u=>exact yfz (nb:=nbN V n) (λc h=>yhv n c h) fs (z x) h
theorem y8o{T:Nat->Type}{g :(c:Nat)->T c->List VP}{sp:Nat->Bool}(h:∀c,sp c=true->∀x,∀A∈g c x,Sep A):∀(fs:List Nat)(x:Tup T fs),fs.all sp=true->∀A∈evT g fs x,Sep A
 | [],_,_,A,hA=>by cases hA
 |c::cs,x,d,A,hA=>by
  simp only[w1h,w02] at d;rcases w0j.1 hA with hA|hA
  .exact h c d.1 x.1 A hA
  .exact y8o h cs x.2 d.2 A hA
theorem zxl:∀(n c:Nat),sepN V n c=true->∀x,∀A∈V.ev c x,Sep A
 |0,_,h=>by simp[sepN] at h
 |n+1,c,h=>by
  intro x A f;rw[V.ev_eq] at f;simp only[sepN] at h;revert x h;generalize V.d c=d;generalize V.T c=α at d;intro h x f;cases d with
  |int k=>simp only[evD,w0d] at f;rw[f];exact Sep.eqv
  |bool=>simp only[evD,w0d] at f;rw[f];exact Sep.eqv
  |str=>simp only[evD,w0d] at f;rw[f];exact Sep.eqv
  |sl g=>simp only[sepD,w02] at h;simp only[evD,w0d] at f;rw[f];exact Sep.ro (λy B j=>zxl n g h.1 y B j) λy=>yhv V n g h.2 y
  |map kc vc=>simp[sepD] at h
  |arr m g=>simp only[sepD] at h;simp only[evD,arr,w24] at f;obtain⟨i,_,f⟩:=f;exact zxl n g h _ A f
  |st fs mk z u=>exact y8o (sp:=sepN V n) (λc h=>zxl n c h) fs (z x) h A f
theorem ymm{c:Nat}(h:V.sep c=true)(x:V.T c):Sep (V.vl c x):=by
 have d:=zxl V _ _ h x;cases f:z81 (V.d c) with
 |true=>rw[zn1 x f];exact Sep.agg d
 |false=>rw[zr5 x f] at d;exact d _ w0n
variable(P:Program)
theorem y3j[Dr]{A:Asg}: ∀(n:Nat)(d:List RC)(r:RTup V.T d),d.any zet=false->d.all (sepR V)=true->∀B∈denV V P A (encR V n d r),Sep B
 |n,[],r,_,_,B,hB=>by simp[encR,denV] at hB
 |n,.val c::cs,r,h,f,B,hB=>by
  simp only[w49,zet,w2c] at h;simp only[w1h,w02,sepR] at f;simp only[encR,denV,w05,z4l] at hB;rcases hB with rfl|hB
  .exact ymm V f.1 _
  .exact y3j n cs r.2 h f.2 B hB
 |n,.row E c::cs,r,h,_,_,_=>by simp[zet] at h
theorem yf6[Dr]{A:Asg}{l:List (SV V.T)}(h:∀B∈denV V P A l,Sep B):Sep ((resV V l).den V P A):=by
 match l with
 | []=>exact Sep.eqv
 | [x]=>exact h _ (by simp[resV,denV])
 |x::y::l=>simp only[resV,SV.den];exact Sep.tup h
def fixD(A:Asg)(ob:List (SO V.T))(b:Nat):Prop:=∃(i E c:Nat)(l:List (V.T c))(q:Nat×Value)(n:Nat),ob[i]? = some (.x (.fix E c l))/\A[i]? = some q/\q.2 = .slice (some ⟨b,0,none⟩) n n
theorem yie{c:Nat}(h:y1d (V.d c)=true):V.sz c=1/\∀x,∃g,V.ev c x = [bv g]:=by
 refine⟨?_,λx=>?_⟩
 .rw[V.sz_eq];revert h;generalize V.d c=d;generalize V.T c=α at d;intro h;cases d<;>simp[y1d] at h<;>rfl
 .rw[V.ev_eq];revert x h;generalize V.d c=d;generalize V.T c=α at d;intro h x;cases d<;>simp[y1d] at h;exact⟨x,rfl⟩
theorem y8s[Dr]{A:Asg}{ob:List (SO V.T)}{w0 w:World}{f:Nat}{r:Nat->Prop}{S:Nat->Nat->Prop}(hw:WInv w0 f (obD V P A A ob) r S w):zwl (fixD V A ob) w/\∀b,fixD V A ob b->∃i,S i b:=by
 have main:∀b,fixD V A ob b->(∃i,S i b)/\∀o u,w.cell? ⟨b,o,none⟩=some u->∃g,u = .bool g:=by
  rintro b ⟨i,E,c,l,q,n,ho,ha,hq⟩;obtain⟨⟨h,_⟩,hr⟩:=hw.obj i _ (zw V P ha ho);obtain⟨e1,e2⟩:=yie V h;rcases hr with⟨hn,_⟩|⟨g,a3,cur,hv,hS,j,hl,hm,a0,hh⟩
  .rw[hq] at hn;cases hn
  .rw[hq] at hv;simp only[Value.slice.injEq,w01,Addr.mk.injEq] at hv;obtain⟨⟨rfl,_⟩,rfl,rfl⟩:=hv;refine⟨⟨i,hS⟩,λo u hu=>?_⟩;rw[cell_of_row w b o cur E (0,0) j] at hu;have z:o<cur.size:=(w1c.1 hu).1;have a1:=z6e (V.ev_len c) l;have d:o<(l.flatMap (V.ev c)).length:=by rw[a1,<- a0];exact z
   obtain⟨u',h1,h2,_⟩:=hh.2 o _ (w0c d);rw[w0x,if_pos (by rw[<- a0];exact z)] at h1;have a2:u'=u:=by
    have:cur.toList[o]? = cur[o]?:=by simp
    rw[this,hu] at h1;exact(w0f h1).symm
   subst a2;obtain⟨x,_,hx⟩:=w24.1 (List.getElem_mem d);obtain⟨g,hg⟩:=e2 x;rw[hg,w0d] at hx;rw[hx] at h2;exact⟨g,h2⟩
 exact⟨λb h=>(main b h).2,λb h=>(main b h).1⟩
def EntD[Dr](C:Cx P)(s:St)(D:Nat->Prop)(A B:VP):Prop:=∀r S w v,WInv C.w0 C.base s.objs r S w->A.h r w v->B.h (λb=>r b\/D b) w v
theorem EntD.refl[Dr]{C:Cx P}{s:St}{D:Nat->Prop}{A:VP}: EntD P C s D A A:=λr S w v f h=>A.mono (λb d=>.inl d) (λ_ _=>rfl) h
theorem EntD.ent[Dr]{C:Cx P}{s:St}{D:Nat->Prop}{A B:VP}(k:Ent A B):EntD P C s D A B:=λr S w v f h=>B.mono (λb d=>.inl d) (λ_ _=>rfl) (k r w v h)
theorem F2.at{R:VP->VP->Prop}: ∀{As d:List VP},F2 R As d->As.length=d.length/\∀(j:Nat)(B:VP),d[j]? = some B->∃A,As[j]? = some A/\R A B
 | [],[],_=>⟨rfl,λj B h=>by simp at h⟩
 |A::As,B::d,⟨h,z⟩=>by
  obtain⟨g,u⟩:=F2.at z;refine⟨by simp[g],λj D f=>?_⟩;cases j with
  |zero=>simp at f;subst f;exact⟨A,rfl,h⟩
  |succ j=>simpa using u j D (by simpa using f)
 | [],_::_,h=>h.elim
 |_::_,[],h=>h.elim
theorem EntD.agg[Dr]{C:Cx P}{s:St}{D:Nat->Prop}{cs g:List VP}(h:F2 (EntD P C s D) cs g):EntD P C s D (Px.agg cs) (Px.agg g):=by rintro r S w v hw ⟨vs,rfl,hh⟩;obtain⟨z,h2⟩:=h.at;refine⟨vs,rfl,by rw[<- z];exact hh.1,λj B hj=>?_⟩;obtain⟨A,hA,d⟩:=h2 j B hj;obtain⟨u,hu,f,ho⟩:=hh.2 j A hA;exact⟨u,hu,d r S w u hw f,ho⟩
theorem ym4(ob:List (SO V.T)):∀c n d(f:Nat->V.T d)l,rdB ob c (.arr n d f)=some l->False:=λc n d f l h=>by simp[rdB] at h
theorem yjj[Dr]{C:Cx P}{A:Asg}{s:SS V.T}(c:Nat)(y:SV V.T)(l:List (V.T c))(h:rdB s.ob c y=some l):EntD P C (s.st V P A) (fixD V A s.ob) (y.den V P A) (Px.ro (V.ev c) (V.sz c) l):=by
 unfold rdB at h;split at h
 .split at h
  .rename_i e;subst e;simp only[w01] at h;subst h;exact EntD.refl P
  .cases h
 .rename_i i;split at h
  .rename_i E c' l' ho;split at h
   .rename_i e;subst e;simp only[w01] at h;subst h;simp only[SV.den];cases ha:A[i]? with
    |none=>exact λr S w v _ d=>d.elim
    |some q=>
     intro r S w v hw d;have d:v=q.2:=d;subst d;obtain⟨⟨hb,g0,n0,a1⟩,hr⟩:=hw.obj i _ (zw V P ha ho);rcases hr with⟨hn,rfl⟩|⟨g,a0,cur,d,hS,f,hl,hm,a2,hh⟩
     .exact .inl ⟨⟨none,0,hn⟩,rfl⟩
     .have hD:fixD V A s.ob g:=by refine⟨i,E,_,l',q,n0,ho,ha,?_⟩;rw[a1] at d⊢;simp only[Value.slice.injEq,w01,Addr.mk.injEq] at d;rw[d.1.1]
      refine .inr ⟨g,0,a0-l'.length,by rw[w3a hl];exact d,λk x hk=>⟨.inr hD,λj A hj=>?_⟩⟩;obtain⟨u,z,hA,h1⟩:=hh.2 _ A (z4t (V.ev_len _) l' k x hk j A hj);refine⟨u,?_,A.mono (λb hb=>.inl hb) (λ_ _=>rfl) hA,h1⟩;rw[w1j,cell_of_row w g _ cur E (0,0) f];rw[w0x] at z;split at z
      .simpa using z
      .cases z
   .cases h
  .cases h
 .simp only[w01] at h;subst h;exact EntD.ent P Ent.nil
 .cases h
theorem yd3[Dr]{C:Cx P}{A:Asg}{s:SS V.T}{c:Nat}{x:SV V.T}{y:V.T c}(h:V.dec (rdB s.ob) c x=some y):EntD P C (s.st V P A) (fixD V A s.ob) (x.den V P A) (V.vl c y):=y8c (R:=EntD P C (s.st V P A) (fixD V A s.ob)) (ym4 V s.ob) (λ_ _ _ _ _=>EntD.ent P zm7) (λ_=>EntD.refl P) (λc y l h=>yjj V P c y l h) (λ_ _ h=>EntD.agg P h) h
theorem zsl[Dr]{C:Cx P}{A:Asg}{s:SS V.T}{ch:Ch}(hc:chP s.gb ch):∀{cs:List Nat}{os:List Operand}{a:Tup V.T cs},decA V (rdB s.ob) s.sl ch cs os=some a->
  ∀d r S w,WInv C.w0 C.base (s.st V P A).objs r S w->zj (s.st V P A).slots d r w->(os.map d.eval).length =(vls V cs a).length/\∀(i:Nat)(B:VP),(vls V cs a)[i]? = some B->B.h (λb=>r b\/fixD V A s.ob b) w ((os.map d.eval).getD i undef)
 | [],[],_,_=>λd r S w hw z=>⟨rfl,λi B h=>by simp[vls] at h⟩
 |c::cs,o::os,a,h=>by
  intro d r S w hw z;simp only[decA] at h;cases f:evO s.sl ch o with
  |none=>rw[f] at h;cases h
  |some x=>
   rw[f] at h;cases g:V.dec (rdB s.ob) c x with
   |none=>simp only[g] at h;cases h
   |some y=>
    simp only[g] at h;cases j:decA V (rdB s.ob) s.sl ch cs os with
    |none=>rw[j] at h;cases h
    |some b=>
     rw[j] at h;simp only[w01] at h;subst h;obtain⟨k1,k2⟩:=zsl hc j d r S w hw z;refine⟨by simpa[vls] using k1,λi B u=>?_⟩;cases i with
     |zero=>simp only[vls,w2f,w01] at u;subst u;exact yd3 V P g r S w _ hw (z1t V P f hc d r w z)
     |succ i=>simpa using k2 i B (by simpa[vls] using u)
 | [],_::_,_,h=>by simp[decA] at h
 |_::_,[],_,h=>by simp[decA] at h
theorem yj0[Dr]{C:Cx P}{s:St}{dst:Option Tmp}{ty:TypeId}{pos:String}{after:Array Edge}{guard:Option (Nat×Bool)}{f:FuncId}{as:Array Operand}{ts:Array TypeId}{args:List VP}{x:VP}{D:Nat->Prop}(hf:FnOK P f)
  (ha:∀ac r S w,WInv C.w0 C.base s.objs r S w->zj s.slots ac r w->(as.toList.map ac.eval).length=args.length/\∀(i:Nat)(B:VP),args[i]? = some B->B.h (λb=>r b\/D b) w ((as.toList.map ac.eval).getD i undef))
  (hD:∀r S w,WInv C.w0 C.base s.objs r S w->zwl D w/\∀b,D b->∃i,S i b) (h:zdv P f args λy news=>y=x/\news = []) (hx:Sep x) :
  OpQ C ⟨dst,.call { callee:=.value (.func f),args:=as,argTypes:=ts },ty,pos,after,guard⟩ s x:=
 .calls hf (Ev.func f) λa r S w hd j hs=>by
  obtain⟨h1,h2⟩:=ha a r S w j hs;obtain⟨hB,hO⟩:=hD r S w j;have a0:as.size=args.length:=by simpa using h1
  refine(h (λb=>r b\/D b) w _ (λb d=>d.elim (j.old b) λq=>?_) (by simp[a0]) λi A g=>?_).mono ?_
  .obtain⟨i,g⟩:=hO b q;exact(j.own i b g).2.2.1
  .have:=h2 i A g
   have a3:i<as.size:=by have:=(w04.1 g).1;omega
   simpa[w1r,a3] using this
  .rintro e w' ⟨v,y,news,r',S',rfl,z,a4,a5,rfl,rfl⟩;have a1:∀b,r b->¬D b:=λb d q=>by obtain⟨i,g⟩:=hO b q;exact(j.own i b g).2.2.2 d
   have a2:zwl D w':=λb d o u hu=>hB b d o u (by rw[<- hu];exact(zod (z.2.1 b (.inr d))).symm)
   have h3:∀b,(r' b/\¬D b)->r b\/(w.heap.size<=b/\r' b):=λb ⟨d,hn⟩=>by
    rcases z.2.2 b d with(q|q)|q
    .exact .inl q
    .exact absurd q hn
    .exact .inr ⟨q,d⟩
   refine⟨v,y,_,λb=>r' b/\¬D b,_,rfl,⟨λb d=>⟨z.1 b (.inl d),a1 b d⟩,λb d=>z.2.1 b (.inl d),λb d=>?_⟩,
    j.join a4 _ (λb d=>⟨z.1 b (.inl d),a1 b d⟩) h3 (λi H g=>by simp at g),hx D r' w' v a2 a5,rfl,by simp⟩
   rcases h3 b d with q|q
   .exact .inl q
   .exact .inr (w1o j.size q.1)
theorem yjw{α:Type}{E:TypeId}{e:α->List VP}{sz:Nat}{l:List α}{sv:Value}(he:∀x,∀A∈e x,Sep A){D S r:Nat->Prop}{w:World}(hD:zwl D w)(h :(row E e sz l sv).h S r w):(row E e sz l sv).h S (λb=>r b/\¬D b) w:=by
 rcases h with hn|⟨g,f,cur,hv,hS,d,hl,hm,z,hc⟩
 .exact .inl hn
 .refine .inr ⟨g,f,cur,hv,hS,d,hl,hm,z,hc.1,λj A hj=>?_⟩;obtain⟨u,h1,h2,h3⟩:=hc.2 j A hj;obtain⟨x,_,hx⟩:=w24.1 (w17 hj);exact⟨u,h1,he x A hx D r w u hD h2,h3⟩
theorem WInv.sub[Dr]{z w:World}{f:Nat}{g:List HP}{r:Nat->Prop}{S T:Nat->Nat->Prop}(h:WInv z f g r S w){d:List HP}(hl:d.length=g.length)(u:∀j b,T j b->S j b)(ho:∀(j:Nat)(H:HP),d[j]? = some H->H.h (T j) r w):WInv z f d r T w where
 below:=h.below
 size:=h.size
 obj:=ho
 own:=λj b hb=>by obtain⟨h1,h2⟩:=h.own j b (u j b hb);exact⟨hl ▸ h1,h2⟩
 apart:=λj k b hj hk=>h.apart j k b (u j b hj) (u k b hk)
 old:=h.old
theorem yef[Dr]{C:Cx P}{s:St}{dst:Option Tmp}{ty:TypeId}{pos:String}{after:Array Edge}{guard:Option (Nat×Bool)}{K:VP->List HP->Prop}{α:Type}{E:TypeId}{e:α->List VP}{sz:Nat}{l:List α}{sv:Value}{f:FuncId}{as:Array Operand}{ts:Array TypeId}{args:List VP}{K':VP->List α->Prop}(i:Nat)
  (ho:s.objs[i]? = some (row E e sz l sv))
  (hT:∀r S w,WInv C.w0 C.base s.objs r S w->∃T:Nat->Nat->Prop,(∀j b,T j b->j≠i/\S j b)/\(∀(j:Nat)(H:HP),j≠i->s.objs[j]? = some H->H.h (T j) r w)/\((∀x,∀A∈e x,A.flat)\/((∀x,∀A∈e x,Sep A)/\zwl (λb=>∃j,T j b) w)))
  (hf:FnOK P f) (ha:∀ac r T w,WInv C.w0 C.base (s.objs.set i Px.emp) r T w->zj s.slots ac r w->(as.toList.map ac.eval).length=args.length/\∀(k:Nat)(A:VP),args[k]? = some A->A.h (λb=>r b\/∃j,T j b) w ((as.toList.map ac.eval).getD k undef))
  (h:MutT P f args E e sz l sv K') (k:∀x l',K' x l'->x.flat/\K x (s.objs.set i (row E e sz l' sv))) :
  OpT C ⟨dst,.call { callee:=.value (.func f),args:=as,argTypes:=ts },ty,pos,after,guard⟩ s K:=
 .calls hf (Ev.func f) λa r S w hd hw hs=>by
  have hi:i<s.objs.length:=(w04.1 ho).1;obtain⟨T,t1,t2,t3⟩:=hT r S w hw;have a2:WInv C.w0 C.base (s.objs.set i Px.emp) r T w:=hw.sub (by simp) (λj b d=>(t1 j b d).2) λj H g=>by
   rw[w2a] at g;split at g
   .cases g;trivial
   .rename_i e;exact t2 j H (λq=>e q.symm) g
  obtain⟨h1,h2⟩:=ha a r T w a2 hs
  let O:Nat->Prop:=λb=>∃j,T j b
  let r':Nat->Prop:=λb=>r b\/O b
  have a8:∀b,r b->r' b:=λb d=>.inl d
  have hO:∀b,O b->¬r b:=λb ⟨j,d⟩=>(a2.own j b d).2.2.2
  have aa:WInv C.w0 C.base [row E e sz l sv] r' (λj b=>j=0/\S i b) w:=by
   refine⟨hw.below,hw.size,?_,?_,?_,?_⟩
   .intro j B g
    match j,g with
    |0,g=>
     simp at g;subst g;have :(λb=>(0:Nat)=0/\S i b)=S i:=by funext b;simp
     rw[this];exact HP.mono _ a8 (λ_ _=>rfl) (λ_ _=>rfl) (hw.obj i _ ho)
    |j+1,g=>simp at g
   .rintro j b ⟨rfl,d⟩;obtain⟨_,b2,b3,b4⟩:=hw.own i b d;refine⟨by simp,b2,b3,?_⟩;rintro(q|⟨j,q⟩)
    .exact b4 q
    .exact(t1 j b q).1 (hw.apart j i b (t1 j b q).2 d)
   .rintro j k b ⟨rfl,_⟩ ⟨rfl,_⟩;rfl
   .rintro b (q|⟨j,q⟩)
    .exact hw.old b q
    .exact(a2.own j b q).2.2.1
  refine(h C.w0 C.base r' _ w _ aa (by simp at h1;simp[h1]) λj A g=>?_).mono ?_
  .have:=h2 j A g
   have a7:j<as.size:=by have:=(w04.1 g).1;simp at h1;omega
   simpa[w1r,a7] using this
  .rintro e' w' ⟨v,x,objs',r2,S2,rfl,he,z,hx,l',rfl,a6⟩;obtain⟨kf,kk⟩:=k _ _ a6;have nT:∀b,¬T i b:=λb d=>(t1 i b d).1 rfl
   refine⟨v,x,_,λb=>r2 b/\¬O b,λj b=>if j=i then S2 0 b else T j b,rfl,⟨λb d=>⟨he.1 b (.inl d),λq=>hO b q d⟩,λb d=>he.2.1 b (.inl d),λb d=>?_⟩,⟨z.below,z.size,?_,?_,?_,?_⟩,kf _ _ _ _ _ hx,kk⟩
   .rcases he.2.2 b d.1 with(q|q)|q
    .exact .inl q
    .exact absurd q d.2
    .exact .inr q
   .intro j B g;rw[w2a] at g;split at g
    .rename_i a3;subst a3;have a5:row E e sz l' sv=B:=by simpa[hi] using g
     subst a5;simp only[if_true];rcases t3 with a4|⟨a9,hB⟩
     .exact y3p a4 _ _ _ _ (z.obj 0 _ rfl)
     .exact yjw a9 (λb d o u hu=>hB b d o u (by rw[<- hu];exact(zod (he.2.1 b (.inr d))).symm)) (z.obj 0 _ rfl)
    .rename_i a3;have a1:¬j=i:=λq=>a3 q.symm
     simp only[a1,if_false];exact B.mono (w:=w) (λb d=>⟨he.1 b (.inl d),λq=>hO b q d⟩) (λb d=>he.2.1 b (.inl d)) (λb d=>he.2.1 b (.inr ⟨j,d⟩)) (t2 j B a1 g)
   .intro j b d;by_cases a1:j=i
    .subst a1;simp only[if_true] at d;obtain⟨_,b2,b3,b4⟩:=z.own 0 b d;exact⟨by simpa using hi,b2,b3,λq=>b4 q.1⟩
    .simp only[a1,if_false] at d;obtain⟨b1,b2,b3,b4⟩:=a2.own j b d;exact⟨by simpa using b1,b2,z.old b (he.1 b (.inr ⟨j,d⟩)),λq=>q.2 ⟨j,d⟩⟩
   .intro j k' b d a0;by_cases ej:j=i<;>by_cases ek:k'=i
    .rw[ej,ek]
    .simp only[ej,if_true] at d;simp only[ek,if_false] at a0;exact absurd (he.1 b (.inr ⟨k',a0⟩)) (z.own 0 b d).2.2.2
    .simp only[ek,if_true] at a0;simp only[ej,if_false] at d;exact absurd (he.1 b (.inr ⟨j,d⟩)) (z.own 0 b a0).2.2.2
    .simp only[ej,ek,if_false] at d a0;exact a2.apart j k' b d a0
   .exact λb d=>z.old b d.1
end
end Px
end
section
namespace Px
open Go Go.RowKit
section
variable(V:TE)(P:Program)
def QOK[Dr](C:Cx P)(A:Asg)(s:SS V.T)(cur:Ch)(o:Op)(ty:TypeId)(v:SV V.T):Prop:=chP s.gb cur->∀dst pos after guard,OpQ C ⟨dst,o,ty,pos,after,guard⟩ (s.st V P A) (v.den V P A)
variable{V P}{R:Type}{r:R}{C:Cx P}{A:Asg}{s:SS V.T}{cur:Ch}
theorem evO2[Dr](d:chP s.gb s.kn)(f:chP s.gb cur){o:Operand}{x:SV V.T}(h:evO s.sl (cur++s.kn) o=some x):Ev (s.st V P A) o (x.den V P A):=z1t V P h (z6k f d)
theorem z0n{T:Nat->Type}{x:Option (SV T)}{k:IntKind}{n:Int}(h:x.bind intOf=some (k,n)):x=some (.int k n):=by
 cases x with
 |none=>cases h
 |some y=>cases y<;>simp[intOf] at h;rw[h.1,h.2]
theorem zbj{T:Nat->Type}{x:Option (SV T)}{b:Bool}(h:x.bind zir=some b):x=some (.bool b):=by
 cases x with
 |none=>cases h
 |some y=>cases y<;>simp[zir] at h;rw[h]
theorem yca[Dr]{op:BinOp}{yc:Operand}{i:IntKind}{m n:Int}{k:SV V.T->Option R}{t ty:TypeId}{x y:Operand}{t':TypeId}(h:y06 V s.gb cur op y i m n k=some r)
  (f:chP s.gb cur->Ev (s.st V P A) x (iv i m)) (g:chP s.gb cur->Ev (s.st V P A) y (iv i n)):∃v,k v=some r/\QOK V P C A s cur (.binOp op t x y t') ty v:=by
 have j:∀(p:Prop)[Decidable p](z:Option R),y06.ckD s.gb cur y p z=some r->(chP s.gb cur->p)/\z=some r:=by
  intro p _ z u;unfold y06.ckD at u;split at u
  .split at u
   .rename_i hp;exact⟨λ_=>hp,u⟩
   .cases u
  .exact z8k u
 cases op with
 |add=>exact⟨_,h,λd dst pos after guard=>ylk (f d) (g d)⟩
 |sub=>exact⟨_,h,λd dst pos after guard=>ynh (f d) (g d)⟩
 |mul=>exact⟨_,h,λd dst pos after guard=>yna (f d) (g d)⟩
 |and=>exact⟨_,h,λd dst pos after guard=>yll (f d) (g d)⟩
 |or=>exact⟨_,h,λd dst pos after guard=>ymy (f d) (g d)⟩
 |xor=>exact⟨_,h,λd dst pos after guard=>ylm (f d) (g d)⟩
 |eql=>exact⟨_,h,λd dst pos after guard=>yn3 (f d) (g d)⟩
 |neq=>exact⟨_,h,λd dst pos after guard=>ynd (f d) (g d)⟩
 |lss=>exact⟨_,h,λd dst pos after guard=>yn7 (f d) (g d)⟩
 |leq=>exact⟨_,h,λd dst pos after guard=>yn6 (f d) (g d)⟩
 |gtr=>exact⟨_,h,λd dst pos after guard=>yn5 (f d) (g d)⟩
 |geq=>exact⟨_,h,λd dst pos after guard=>yn4 (f d) (g d)⟩
 |quo=>exact⟨_,(j _ _ h).2,λd dst pos after guard=>ynf (f d) (g d) ((j _ _ h).1 d)⟩
 |rem=>exact⟨_,(j _ _ h).2,λd dst pos after guard=>yng (f d) (g d) ((j _ _ h).1 d)⟩
 |shl=>cases h
 |shr=>cases h
 |andNot=>cases h
theorem yfg[Dr]{z:BinOp}{i j:IntKind}{m n:Int}{k:SV V.T->Option R}{t ty:TypeId}{x y:Operand}{t':TypeId}(h:shift V s.gb cur z y i m n k=some r)
  (f:chP s.gb cur->Ev (s.st V P A) x (iv i m)) (g:chP s.gb cur->Ev (s.st V P A) y (iv j n)):∃v,k v=some r/\QOK V P C A s cur (.binOp z t x y t') ty v:=by
 unfold shift at h;split at h
 .split at h
  .rename_i u;exact⟨_,h,λd dst pos after guard=>ylv (f d) (g d) u⟩
  .cases h
 .split at h
  .rename_i u;exact⟨_,h,λd dst pos after guard=>ylw (f d) (g d) u⟩
  .cases h
 .exact⟨_,(z8k h).2,λd dst pos after guard=>ylv (f d) (g d) ((z8k h).1 d)⟩
 .exact⟨_,(z8k h).2,λd dst pos after guard=>ylw (f d) (g d) ((z8k h).1 d)⟩
 .cases h
theorem ybp[Dr]{x:SV V.T}{v:Value}(h:yfo x=some v):x.den V P A=eqv v/\z1g x=false:=by cases x<;>simp[yfo] at h<;>subst h<;>exact⟨rfl,rfl⟩
theorem ze5[Dr]:∀{l:List (SV V.T)}{vs:List Value},zr4 l=some vs->denL V P A l=vs.map eqv
 | [],vs,h=>by simp[zr4] at h;subst h;rfl
 |x::l,vs,h=>by
  simp only[zr4] at h;cases d:yfo x with
  |none=>rw[d] at h;cases h
  |some v=>
   cases f:zr4 l with
   |none=>rw[d,f] at h;cases h
   |some us=>rw[d,f] at h;simp only[w01] at h;subst h;obtain⟨g,j⟩:=ybp (P:=P) (A:=A) d;rw[z3p,zj1 V P j,g,ze5 f];rfl
theorem ybu[Dr]{n c:Nat}{f:Nat->V.T c}: ∀(l:List Nat),denL V P A (l.flatMap λi=>V.enc c (f i))=l.flatMap λi=>V.ev c (f i)
 | []=>rfl
 |i::l=>by rw[w0u,w0u,z2k,z2g,ybu (n:=n) l]
theorem zwg[Dr]:∀(l:List (SV V.T)),denL V P A (xpd V l)=denL V P A l
 | []=>rfl
 | .arr n c f::l=>by simp only[xpd,z2k,denL,zwg l];rw[ybu (n:=n)];rfl
 | .int ..::l | .bool ..::l | .str ..::l | .val ..::l | .agg ..::l | .tup ..::l | .ro ..::l | .rop ..::l | .ptr ..::l | .own ..::l | .elt ..::l | .pta ..::l | .prt ..::l | .und::l
 | .func ..::l | .rom ..::l | .cmp ..::l | .top::l=>by simp only[xpd,denL,zwg l]
theorem zwp[Dr]{x:SV V.T}(h:z1g x=true):x.den V P A=Px.agg (denL V P A (y5t x)):=by cases x<;>simp[z1g] at h<;>simp[y5t,SV.den,denL]
theorem zpf[Dr]{j kc vc E:Nat}{m:List (V.T kc×V.T vc)}{hh:Option (V.T kc×Nat)}{C:Cx P}{q:Nat×Value}{o:Oper}{K:VP->List HP->Prop}(f:A[j]? = some q)(g:s.ob[j]? = some (.x (.map kc vc E m hh)))
  (h:q.2 = .map (some q.1)->(∀k i,hh=some (k,i)->(A[i]?).isSome=true)->OpT C o (s.st V P A) K):OpT C o (s.st V P A) K:=
 λa w ro S Q u z d hs=>h (d.obj j _ (zw V P f g)).1.1 (d.obj j _ (zw V P f g)).1.2 a w ro S Q u z d hs
theorem yh3[Dr]{N:Env V}{C:Cx N.P}{A:Asg}{op:BinOp}{t ty:TypeId}{x y:Operand}{t':TypeId}{a b:SV V.T}{k:SV V.T->Option R}(h:binX V N s cur op t y a b k=some r)
  (u:chP s.gb cur->Ev (s.st V N.P A) x (a.den V N.P A)) (z:chP s.gb cur->Ev (s.st V N.P A) y (b.den V N.P A)):∃v,k v=some r/\QOK V N.P C A s cur (.binOp op t x y t') ty v:=by
 unfold binX at h;split at h
 .rename_i i m j n;cases hs:zug op with
  |true=>rw[hs] at h;exact yfg h u z
  |false=>
   rw[hs] at h;simp only[cond_false] at h;split at h
   .rename_i e;subst e;exact yca (yc:=y) h u z
   .cases h
 .split at h
  .rename_i f;exact⟨_,h,λd dst pos after guard=>ylo f (u d) (z d)⟩
  .rename_i f;exact⟨_,h,λd dst pos after guard=>ylu f (u d) (z d)⟩
  .cases h
 .split at h
  .rename_i f;exact⟨_,h,λd dst pos after guard=>yj4 f (u d) (z d)⟩
  .rename_i f;exact⟨_,h,λd dst pos after guard=>yj6 f (u d) (z d)⟩
  .cases h
 .rename_i i;split at h
  .rename_i kt et kc vc E m hh f ho;refine⟨_,h,λd dst pos after guard=>?_⟩;have a1:=u d;simp only[SV.den] at a1;cases ha:A[i]? with
   |none=>rw[ha] at a1;exact z8m N.P a1
   |some q=>rw[ha] at a1;exact zpf ha ho λhq _=>ye6 f (b:=q.1) (by rw[<- hq];exact a1) (z d)
  .cases h
 .split at h
  .rename_i f;exact⟨_,h,λd dst pos after guard=>ya5 f (u d) (z d)⟩
  .cases h
 .split at h
  .rename_i f;exact⟨_,h,λd dst pos after guard=>ya7 f (u d) (z d)⟩
  .cases h
 .split at h
  .rename_i f;exact⟨_,(z8k h).2,λd dst pos after guard=>ya6 f ((z8k h).1 d) (u d) (z d)⟩
  .cases h
 .split at h
  .rename_i us vs h1 h2;cases a0 :(z1g a&&z1g b) with
   |false=>rw[a0] at h;cases h
   |true=>
   rw[a0] at h;simp only[w21,cond_false] at h;simp only[w02] at a0;have u:chP s.gb cur->Ev (s.st V N.P A) x (Px.agg (denL V N.P A (xpd V (y5t a)))):=λd=>by rw[zwg,<- zwp a0.1];exact u d
   have z:chP s.gb cur->Ev (s.st V N.P A) y (Px.agg (denL V N.P A (xpd V (y5t b)))):=λd=>by rw[zwg,<- zwp a0.2];exact z d
   split at h
   .rename_i g hg;cases a2:N.P.eqGuardType N.P.depth t with
    |true=>rw[a2] at h;cases h
    |false=>
     rw[a2] at h;simp only[cond_false] at h;split at h
     .exact⟨_,h,λd dst pos after guard=>yn2 us vs (u d) (z d) (ze5 h1) (ze5 h2) a2 (λw=>zm8 w hg)⟩
     .exact⟨_,h,λd dst pos after guard=>ynb us vs (u d) (z d) (ze5 h1) (ze5 h2) a2 (λw=>zm8 w hg)⟩
     .cases h
   .cases h
  .cases h
structure GbOK{T:Nat->Type}(f:Fm T):Prop where
 val:∀t g,lk f.gb t=some g->∀ch z,lk f.sl t=some (ch,z)->z = .bool g
 ch:∀t ch z,lk f.sl t=some (ch,z)->∀p∈ch,(lk f.gb p.1).isSome=true
 kn:∀p∈f.kn,(lk f.gb p.1).isSome=true
theorem yim{gb:List (Nat×Bool)}{kn:Ch}{t:Nat}{b:Bool}(h:chP gb kn)(f:lk kn t=some b):(lk gb t).getD false=b:=by
 rw[z9k] at h;have:∀(l:Ch),lk l t=some b->(t,b)∈l:=by
  intro l
  induction l with
  |nil=>intro h;cases h
  |cons p l g=>
   obtain⟨u,w⟩:=p;intro h;simp only[lk] at h;cases d:Nat.beq u t with
   |true=>rw[d] at h;simp at h;have:=w03 d;subst this;subst h;exact w0n ..
   |false=>rw[d] at h;exact w0g _ (g h)
 exact h _ (this kn f)
theorem yhu{sl:Sls V.T}{ch:Ch}{t:Nat}{x:SV V.T}(h:evO sl ch (.tmp t)=some x):∃c,lk sl t=some (c,x):=by
 simp only[evO] at h;cases d:lk sl t with
 |none=>rw[d] at h;cases h
 |some e=>
  obtain⟨c,y⟩:=e;rw[d] at h;simp only at h;cases f:ybk c ch with
  |false=>rw[f] at h;cases h
  |true=>rw[f] at h;simp at h;exact⟨c,by rw[h]⟩
theorem yb9{t:Nat}{g:Bool}(d:GbOK s.toFm)(j:lk s.gb t=some g){ch:Ch}{x:SV V.T}(h:evO s.sl ch (.tmp t)=some x):x = .bool g:=by obtain⟨c,f⟩:=yhu h;exact d.val t g j c x f
theorem y3m[Dr](d:chP s.gb s.kn)(z:chP s.gb cur)(j:GbOK s.toFm){t:Nat}{w g:Bool}{x:Operand}{v:SV V.T}(hg:evO s.sl (cur++s.kn) (.tmp t)=some (.bool g))(u:g=w)
  (h:evO s.sl (zsx V s cur t w) x=some v):Ev (s.st V P A) x (v.den V P A):=by
 unfold zsx at h;cases f:lk s.gb t with
 |some g'=>
  rw[f] at h;have:=yb9 j f hg;simp only[SV.bool.injEq] at this;subst this;refine z1t V P h ?_;rw[z9k];intro p hp;rcases w05.1 hp with rfl|hp
  .simp only[f,w1b];exact u
  .exact z9k.1 (z6k z d) p hp
 |none=>rw[f] at h;exact evO2 d z h
theorem yeu[Dr]{c x y:Operand}{ty:TypeId}{k:SV V.T->Option R}(d:chP s.gb s.kn)(u:GbOK s.toFm)(h:yjc V s cur c x y k=some r):∃v,k v=some r/\QOK V P C A s cur (.pick c x y) ty v:=by
 unfold yjc at h;split at h
 .rename_i t;split at h
  .rename_i g hg;have j:chP s.gb cur->Ev (s.st V P A) (.tmp t) (bv g):=λf=>evO2 d f hg
   split at h
   .rename_i g' h1 h2;have e:=yb9 u h2 hg;simp only[SV.bool.injEq] at e;have z:=yim d h1;rw[h2] at z;simp only[w1b] at z;subst z;subst e;split at h
    .rename_i v hv;exact⟨v,h,λf dst pos after guard=>y4o (j f) (λ_=>evO2 d f hv) (λe=>nomatch e)⟩
    .cases h
   .rename_i g' h1 h2;have e:=yb9 u h2 hg;simp only[SV.bool.injEq] at e;have z:=yim d h1;rw[h2] at z;simp only[w1b] at z;subst z;subst e;split at h
    .rename_i v hv;exact⟨v,h,λf dst pos after guard=>y4o (j f) (λe=>nomatch e) (λ_=>evO2 d f hv)⟩
    .cases h
   .split at h
    .cases hq :(evO s.sl (zsx V s cur t true) x).bind zir with
     |none=>rw[hq] at h;cases h
     |some q=>rw[hq] at h;have a0:=zbj hq;exact⟨_,h,λf dst pos after guard=>ymx (j f) (λe=>y3m d f u hg e a0) (Ev.const _)⟩
    .split at h
     .cases hq :(evO s.sl (zsx V s cur t false) y).bind zir with
      |none=>rw[hq] at h;cases h
      |some q=>rw[hq] at h;have a0:=zbj hq;exact⟨_,h,λf dst pos after guard=>opOr (j f) (Ev.const _) (λe=>y3m d f u hg e a0)⟩
     .cases h
  .cases h
 .cases h
end
end Px
end
section
namespace Px
open Go Go.RowKit
theorem zo6{a b:Value}(h:beqZ a b=true):a=b/\a.oneCell'=true:=by
 unfold beqZ at h;split at h
 .simp only[w02,decide_eq_true_eq] at h;obtain⟨rfl,rfl⟩:=h;exact⟨rfl,rfl⟩
 .simp only[beq_iff_eq] at h;subst h;exact⟨rfl,rfl⟩
 .rename_i x y;simp only[w02,beq_iff_eq] at h;have e:x=y:=by cases x with|mk d=>cases y with|mk f=>simp[ByteArray.size] at h;rw[h.1,h.2]
  subst e;exact⟨rfl,rfl⟩
 .exact⟨rfl,rfl⟩
 .exact⟨rfl,rfl⟩
 .exact⟨rfl,rfl⟩
 .exact⟨rfl,rfl⟩
 .cases h
section
variable(V:TE)(P:Program)
theorem ybw[Dr]{A:Asg}{x:SV V.T}{v:Value}(h:zmV V [v] x=true):denL V P A [x] = [eqv v]/\v.oneCell'=true:=by cases x<;>simp only[zmV,w09] at h<;>obtain⟨e,d⟩:=zo6 h<;>subst e<;>exact⟨rfl,d⟩
theorem ygt[Dr]{A:Asg}: ∀{l:List (SV V.T)}{vs:List Value},zmL V l vs=true->denL V P A l=vs.map eqv/\vs.all (·.oneCell')=true/\vs.length=l.length
 | [],[],_=>⟨rfl,rfl,rfl⟩
 |x::l,v::vs,h=>by simp only[zmL,w02] at h;obtain⟨d,f⟩:=ybw V P (A:=A) h.1;obtain⟨g,j,u⟩:=ygt (A:=A) h.2;exact⟨by rw[z3p,d,g];rfl,by simp[f,j],by simp[u]⟩
 | [],_::_,h=>by simp[zmL] at h
 |_::_,[],h=>by simp[zmL] at h
theorem ybv[Dr]{A:Asg}(r:Nat->Prop)(w:World):∀{l:List (SV V.T)}{vs:List Value},zmR V l vs=true->zr r w (denL V P A l) vs
 | [],[],_=>⟨rfl,λj A h=>by simp[denL] at h⟩
 |x::l,v::vs,h=>by
  have fin:zmV V [v] x=true->zmR V l vs=true->zr r w (denL V P A (x::l)) (v::vs):=λf d=>by obtain⟨u,z⟩:=ybw V P (A:=A) f;rw[z3p,u];exact zr.append (vs:=[v]) (zbm (zs:=[v]) (by simp[z])) (ybv r w d)
  cases x with
  |ro c m=>
   simp only[zmR,w02] at h;obtain⟨⟨f,d⟩,h3⟩:=h;have hm:m = []:=w3s.1 f;subst hm;have hv:v = .slice none 0 0:=by
    unfold y47 at d;split at d
    .rfl
    .cases d
   subst hv;rw[z3p];refine zr.append (vs:=[.slice none 0 0]) ⟨rfl,λj A g=>?_⟩ (ybv r w h3);cases j with
   |zero=>simp[denL,SV.den] at g;subst g;exact⟨_,rfl,.inl ⟨⟨none,0,rfl⟩,rfl⟩,rfl⟩
   |succ j=>simp[denL] at g
  |_=>simp only[zmR,w02] at h;exact fin h.1 h.2
 | [],_::_,h=>by simp[zmR] at h
 |x::_,[],h=>by cases x<;>simp[zmR] at h
theorem ygs[Dr]{A:Asg}{m:List (SV V.T)}: ∀{n:Nat}{vs:List Value},zmA V m n vs=true->(List.replicate n (denL V P A m)).flatten=vs.map eqv/\vs.all (·.oneCell')=true
 |0,vs,h=>by simp only[zmA,w3s] at h;subst h;exact⟨rfl,rfl⟩
 |n+1,vs,h=>by
  simp only[zmA,w02] at h;obtain⟨d,f,_⟩:=ygt V P (A:=A) h.1;obtain⟨g,j⟩:=ygs (A:=A) h.2;have e:=w2l m.length vs;refine⟨?_,?_⟩
  .rw[List.replicate_succ,List.flatten_cons,g,d,<- w1g,e]
  .rw[<- e,w4e,f,j];rfl
theorem ycc{α:Type}(e:α->List VP)(z:α):∀(n:Nat),Px.arr n e (λ_=>z) =(List.replicate n (e z)).flatten:=by
 intro n;unfold Px.arr
 induction n with
 |zero=>rfl
 |succ n d=>rw[w1n,w2d,d,List.replicate_succ',List.flatten_append];simp
theorem zgn[Dr]{A:Asg}: ∀{l:List (SV V.T)}{vs:List Value},zfk V l vs=true->denL V P A (fixZ V l)=vs.map eqv/\vs.all (·.oneCell')=true
 | [],vs,h=>by
  cases vs with
  |nil=>exact⟨rfl,rfl⟩
  |cons v vs=>simp[zfk] at h
 | .arr n c f::l,vs,h=>by
  simp only[zfk,w02] at h;obtain⟨d,g⟩:=ygs V P (A:=A) h.1;obtain⟨j,u⟩:=zgn (A:=A) h.2;rw[z2g] at d;have e:=w2l (n*V.sz c) vs;refine⟨?_,?_⟩
  .simp only[fixZ,denL,ycc,d,j];rw[<- w1g,e]
  .rw[<- e,w4e,g,u];rfl
 | .int ..::l,v::vs,h | .bool ..::l,v::vs,h | .str ..::l,v::vs,h | .val ..::l,v::vs,h | .agg ..::l,v::vs,h | .tup ..::l,v::vs,h | .ro ..::l,v::vs,h | .rop ..::l,v::vs,h
 | .ptr ..::l,v::vs,h | .own ..::l,v::vs,h | .elt ..::l,v::vs,h | .pta ..::l,v::vs,h | .prt ..::l,v::vs,h | .und::l,v::vs,h | .func ..::l,v::vs,h | .rom ..::l,v::vs,h | .cmp ..::l,v::vs,h | .top::l,v::vs,h=>by simp only[zfk,w02] at h;obtain⟨d,g⟩:=ybw V P (A:=A) h.1;obtain⟨j,u⟩:=zgn (A:=A) h.2;refine⟨?_,by simp[g,u]⟩;simp only[fixZ];rw[z3p,d,j];rfl
 | .int ..::l,[],h | .bool ..::l,[],h | .str ..::l,[],h | .val ..::l,[],h | .agg ..::l,[],h | .tup ..::l,[],h | .ro ..::l,[],h | .rop ..::l,[],h
 | .ptr ..::l,[],h | .own ..::l,[],h | .elt ..::l,[],h | .pta ..::l,[],h | .prt ..::l,[],h | .und::l,[],h | .func ..::l,[],h | .rom ..::l,[],h | .cmp ..::l,[],h | .top::l,[],h=>by simp[zfk] at h
theorem y1x[Dr]{A:Asg}: ∀(vs:List Value),denL V P A (vs.map zuw)=vs.map eqv
 | []=>rfl
 |v::vs=>by
  have h:denL V P A [(zuw v:SV V.T)] = [eqv v]:=by cases v<;>rfl
  rw[w0l,z3p,h,y1x vs];rfl
def ownO{T:Nat->Type}: SO T->Bool
 | .row ..=>true
 | .x _=>true
 |_=>false
def OneA(A:Asg)(ob:List (SO V.T)):Prop:=∀(i:Nat)(q:Nat×Value)(o:SO V.T),A[i]? = some q->ob[i]? = some o->ownO o=true->q.2.oneCell'=true
theorem yad[Dr]{A:Asg}{ob:List (SO V.T)}(u:OneA V A ob){x:SV V.T}(h:oneS V ob x=true):One (x.den V P A)/\z1g x=false:=by
 cases x with
 |int k n=>exact⟨One.eqv rfl,rfl⟩
 |bool b=>exact⟨One.eqv rfl,rfl⟩
 |str b=>exact⟨One.eqv rfl,rfl⟩
 |val v=>exact⟨One.eqv h,rfl⟩
 |ro c l=>exact⟨One.ro,rfl⟩
 |rom kc vc m=>exact⟨λr w v(h :(V.mv V.ev kc vc m).h r w v)=>by rcases h with⟨rfl,_⟩|⟨b,t,rfl,_⟩<;>rfl,rfl⟩
 |rop cs=>exact⟨One.rop,rfl⟩
 |ptr i off=>
  refine⟨?_,rfl⟩;simp only[SV.den];cases A[i]? with
  |none=>exact λ_ _ _ d=>d.elim
  |some q=>exact One.eqv rfl
 |own i=>
  refine⟨?_,rfl⟩;simp only[SV.den];cases ha:A[i]? with
  |none=>exact λ_ _ _ d=>d.elim
  |some q=>
   simp only[oneS] at h;split at h
   .rename_i E c l j;exact One.eqv (u i q _ ha j rfl)
   .rename_i xo j;exact One.eqv (u i q _ ha j rfl)
   .cases h
 |elt i k z fo=>
  refine⟨?_,rfl⟩;simp only[SV.den];cases A[i]? with
  |none=>exact λ_ _ _ d=>d.elim
  |some q=>exact λr w v ⟨g,n,a0,_,d,_⟩=>by subst d;rfl
 |func f caps=>refine⟨?_,rfl⟩;simp only[SV.den];exact λr w v ⟨caps,d,_⟩=>by subst d;rfl
 |_=>simp[oneS] at h
theorem ykd[Dr]{A:Asg}{s:St}{ob:List (SO V.T)}(g:OneA V A ob){x:SV V.T}{o:Operand}(f:storable V ob x=true)(h:Ev s o (x.den V P A)):Ce s o (denL V P A (cellsOf x)):=by
 unfold storable at f;cases d:z1g x with
 |true=>rw[y0a V P d] at h;exact Ce.agg h
 |false=>
  rw[d,w2c] at f;have j:cellsOf x = [x]:=by cases x<;>simp[z1g] at d<;>rfl
  rw[j,zj1 V P d];exact Ce.one h (yad V P g f).1
theorem yjx[Dr]{A:Asg}{l d m:List (SV V.T)}{o n:Nat}(h:splL V l o d n=some m):denL V P A m =(denL V P A l).take o++denL V P A d++(denL V P A l).drop (o+n)/\o+n<=(denL V P A l).length:=by
 unfold splL at h;cases j:splC V l o d n with
 |some q=>rw[j] at h;cases h;exact zqy V P j
 |none=>
  rw[j] at h;simp only at h;unfold splA at h;split at h
  .rename_i k c f;cases g :(Nat.beq n (V.sz c)&&Nat.beq (o % n) 0&&Nat.ble (o / n+1) k) with
   |false=>rw[g] at h;cases h
   |true=>
    rw[g] at h;simp only[cond_true] at h;simp only[w02] at g;have u:=w03 g.1.1;have e2:=w03 g.1.2;have z:=w0s g.2;split at h
    .rename_i y hy;cases h;have e5:=zzy (zfx (P:=P) (A:=A) (R:=Eq) zt2 zt3 (λ_=>rfl) (λ_ _ _ h=>zt1 h) hy);have e6:o=o / n*V.sz c:=by have:=w4r o n;rw[e2,w3r] at this;rw[<- u,w4s];exact this.symm
     have h3:=zi4 (N:=k) (f:=f) (V.ev_len c);have h4 :(o / n+1)*V.sz c<=k*V.sz c:=w1p _ z;rw[w1s] at h4;have h5:=zsg (pre:=[]) (post:=[]) (N:=k) (sz:=V.sz c) (k:=o / n) (off:=o) (n:=n) (e:=V.ev c) (f:=f) (y:=y) (cs:=denL V P A d) (V.ev_len c) (by simpa using e6) z u e5;simp only[w1z,w0e] at h5;simp only[denL,w0e];refine⟨h5.symm,?_⟩;rw[h3];omega
    .cases h
  .cases h
theorem y1i[Dr]{A:Asg}{s:SS V.T}{ob:List (SO V.T)}{ch:Ch}{t:TypeId}(h1:OneA V A ob)(hc:chP s.gb ch):∀{ps:List (Nat×Operand)}{cs out:List (SV V.T)},layX V P t ob s.sl ch cs ps=some out->
  ∃qs,yc6 (s.st V P A) (zmz P t) (clen V cs) ps qs/\lay (denL V P A cs) qs=denL V P A out
 | [],cs,out,h=>by simp[layX] at h;subst h;exact⟨[],trivial,rfl⟩
 |(i,o)::ps,cs,out,h=>by
  simp only[layX] at h;cases hp:zmz P t i with
  |none=>rw[hp] at h;cases h
  |some q=>
   obtain⟨off,n⟩:=q;cases hx:evO s.sl ch o with
   |none=>rw[hp,hx] at h;cases h
   |some x=>
    rw[hp,hx] at h;simp only at h;cases j :(Nat.beq n (clen V (cellsOf x))&&storable V ob x) with
    |false=>rw[j] at h;cases h
    |true=>
     rw[j] at h;simp only[cond_true] at h;simp only[w02] at j;have en:=w03 j.1;cases hs:splL V cs off (cellsOf x) n with
     |none=>rw[hs] at h;cases h
     |some g=>
      rw[hs] at h;simp only at h;obtain⟨e,hl⟩:=yjx V P (A:=A) hs;obtain⟨qs,hq,z⟩:=y1i h1 hc h;have d:=zei V P (A:=A) (cellsOf x);have a0:=zei V P (A:=A) cs;have u:=zei V P (A:=A) g;have f:clen V g=clen V cs:=by rw[<- u,e];simp[d,en] at *;omega
      refine⟨(off,denL V P A (cellsOf x))::qs,⟨by rw[hp,d,en],by rw[d,<- en,<- a0];exact hl,ykd V P h1 j.2 (z1t V P hx hc),by rw[<- f];exact hq⟩,?_⟩;simp only[lay];rw[<- z,e,d,en]
end
end Px
end
section
namespace Px
open Go Go.RowKit
section
variable{V:TE}{N:Env V}{R:Type}{r:R}{C:Cx N.P}{A:Asg}{s:SS V.T}{cur:Ch}
theorem y81[Dr](z:chP s.gb cur)(d:chP s.gb s.kn):∀{os:List Operand}{l:List (SV V.T)},zt.capsX V s.sl (cur++s.kn) os=some l->
  ∀a ro w,zj (s.st V N.P A).slots a ro w->(os.map a.eval).length =(denV V N.P A l).length/\∀(i:Nat)(B:VP),(denV V N.P A l)[i]? = some B->B.h ro w ((os.map a.eval).getD i undef)
 | [],l,h,a,ro,w,_=>by simp[zt.capsX] at h;subst h;simp[denV]
 |o::os,l,h,a,ro,w,hs=>by
  simp only[zt.capsX] at h;cases f:evO s.sl (cur++s.kn) o with
  |none=>rw[f] at h;cases h
  |some x=>
   rw[f] at h;cases g:zt.capsX V s.sl (cur++s.kn) os with
   |none=>simp only[g] at h;cases h
   |some m=>
    simp only[g,w01] at h;subst h;obtain⟨u,e2⟩:=y81 z d g a ro w hs;refine⟨by simp[denV] at u⊢;exact u,λi B j=>?_⟩;cases i with
    |zero=>simp[denV] at j;subst j;exact evO2 d z f a ro w hs
    |succ i=>simpa using e2 i B (by simpa[denV] using j)
theorem yam[Dr]{P:Program}{C:Cx P}{s:St}{dst:Option Tmp}{ty:TypeId}{pos:String}{after:Array Edge}{guard:Option (Nat×Bool)}{f:FuncId}{g d:Array Operand}{j:List VP}(hf:g.isEmpty=true)
  (h:∀a ro w,zj s.slots a ro w->(d.toList.map a.eval).length=j.length/\∀(i:Nat)(B:VP),j[i]? = some B->B.h ro w ((d.toList.map a.eval).getD i undef)) :
  OpQ C ⟨dst,.makeFunc (.func f) g d,ty,pos,after,guard⟩ s (fnc f j):=
 .val λa ro w hs=>by
  obtain⟨u,z⟩:=h a ro w hs;have:g = #[]:=by simpa using hf
  subst this;refine⟨.func (.func f) #[] (d.map a.eval),by simp[execOp,Instr.makeFunc],d.map a.eval,rfl,by simpa using u,λi B hB=>?_⟩;have:=z i B hB;simpa[w07,w26] using this
theorem y1c[Dr](f:chP s.gb cur)(d:chP s.gb s.kn){k:IntKind}: ∀{os:List Operand}{l:List Int},y69 s.sl (cur++s.kn) k os=some l->zo3 (s.st V N.P A) k os l
 | [],l,h=>by simp[y69] at h;subst h;trivial
 |o::os,l,h=>by
  simp only[y69] at h;split at h
  .rename_i u n g;split at h
   .rename_i e;subst e;split at h
    .rename_i m j;simp only[w01] at h;subst h;exact⟨evO2 d f g,y1c f d j⟩
    .cases h
   .cases h
  .cases h
theorem zgy{P:Program}{d:Array TypeId}(h:zt.isSl1 P d=true):∃t,d = #[t]/\isSl P t=true:=by
 unfold zt.isSl1 at h;split at h
 .rename_i t f;exact⟨t,by cases d;simp at f;rw[f],h⟩
 .cases h
theorem y9i{P:Program}{d:Array TypeId}(h:zt.isStr1 P d=true):∃t,d = #[t]/\P.underlying t=some .string:=by
 unfold zt.isStr1 at h;split at h
 .rename_i t f;split at h
  .rename_i g;exact⟨t,by cases d;simp at f;rw[f],g⟩
  .cases h
 .cases h
theorem yi7[Dr]{P:Program}{C:Cx P}{s:St}{dst:Option Tmp}{ty:TypeId}{pos:String}{after:Array Edge}{guard:Option (Nat×Bool)}{j E c:Nat}{t:TypeId}{x i:Operand}{l:List (V.T c)}{sv:Value}{k:IntKind}{m:Int}
  (ht:tidx P t=some (false,0,V.sz c)) (h:Ev s x (eqv sv)) (ho:s.objs[j]? = some (row E (V.ev c) (V.sz c) l sv)) (hi:Ev s i (iv k m)) (u:0<=m) (f:m<(l.length:Int)) :
  OpQ C ⟨dst,.indexAddr t x i,ty,pos,after,guard⟩ s (eltp sv m (m.toNat*V.sz c)):=
 .valO λa r S w hw hs=>by
  have z:=hi a r w hs;have h3:=h a r w hs;simp only[iv,eqv] at z h3;rcases hw.obj j _ ho with⟨_,rfl⟩|⟨g,d,cur,hv,hS,a0,hl,hm,a1,hh⟩
  .simp at f;omega
  .exact⟨_,by simp only[execOp,h3,hv,z,w08,zf8 w ht u f,w1j];rfl,g,_,d,hv,rfl,u,f⟩
theorem ydl[Dr]{P:Program}{C:Cx P}{s:St}{dst:Option Tmp}{ty:TypeId}{pos:String}{after:Array Edge}{guard:Option (Nat×Bool)}{j E c:Nat}{t:TypeId}{x i:Operand}{l:List (V.T c)}{sv:Value}{k:IntKind}{m:Int}
  (ht:tidx P t=some (false,0,V.sz c)) (h:Ev s x (eqv sv)) (ho:ObIs s.objs j (row E (V.ev c) (V.sz c) l sv)) (hi:Ev s i (iv k m)) (u:0<=m) (f:m<(l.length:Int)) :
  OpQ C ⟨dst,.indexAddr t x i,ty,pos,after,guard⟩ s (eltp sv m (m.toNat*V.sz c)):=
 .valO λa r S w hw hs=>by
  have z:=hi a r w hs;have h3:=h a r w hs;simp only[iv,eqv] at z h3;rcases ObIs.at hw ho with⟨_,rfl⟩|⟨g,d,cur,hv,hS,a0,hl,hm,a1,hh⟩
  .simp at f;omega
  .exact⟨_,by simp only[execOp,h3,hv,z,w08,zf8 w ht u f,w1j];rfl,g,_,d,hv,rfl,u,f⟩
theorem ylp[Dr]{P:Program}{C:Cx P}{s:St}{dst:Option Tmp}{ty:TypeId}{pos:String}{after:Array Edge}{guard:Option (Nat×Bool)}{α:Type}{E:TypeId}{e:α->List VP}{sz:Nat}{l:List α}{sv:Value}(j:Nat){t:TypeId}{x:Operand}(u:isSl P t=true)(h:Ev s x (eqv sv))(ho:ObIs s.objs j (row E e sz l sv)):
  OpQ C ⟨dst,.call { callee:=.builtin .len,args:=#[x],argTypes:=#[t] },ty,pos,after,guard⟩ s (iv .i64 l.length):=
 .valO λa r S w hw hs=>by
  have d:=h a r w hs;simp only[eqv] at d;rcases ObIs.at hw ho with⟨f,rfl⟩|⟨g,z,cur,f,_⟩
  .exact⟨_,z7r (by rw[d,f];exact z9e w u),rfl⟩
  .exact⟨_,z7r (by rw[d,f];exact z9e w u),rfl⟩
theorem ymk{P:Program}{t:TypeId}{n e:Nat}(h:tidx P t=some (false,n,e)):n=0:=by
 unfold tidx at h;split at h
 .rename_i j f g;cases d:P.info? f with
  |none=>rw[d] at h;simp at h
  |some i=>rw[d] at h;simp at h
 .rename_i f g;cases d:P.info? f with
  |none=>rw[d] at h;simp at h
  |some i=>rw[d] at h;simp at h;omega
 .cases h
theorem ygo(m:Int)(k:Nat):scl m k=m.toNat*k:=by
 unfold scl;cases h:Nat.beq k 1 with
 |false=>rfl
 |true=>have:=w03 h;subst this;simp
theorem y9d[Dr]{P:Program}{C:Cx P}{s:St}{dst:Option Tmp}{ty:TypeId}{pos:String}{after:Array Edge}{guard:Option (Nat×Bool)}{t:TypeId}{x i:Operand}{k:IntKind}{m:Int}{n e b off:Nat}{F:Prop}
  (ht:tidx P t=some (true,n,e)) (hx:Ev s x ⟨λ_ _ v=>F/\v = .pointer (some ⟨b,off,none⟩),λ_ _ h=>h⟩) (hi:Ev s i (iv k m)) (u:0<=m) (z:m<(n:Int)) {f:Prop} (hF:F->f) {d:Nat} (ho:d=off+m.toNat*e) :
  OpQ C ⟨dst,.indexAddr t x i,ty,pos,after,guard⟩ s ⟨λ_ _ v=>f/\v = .pointer (some ⟨b,d,none⟩),λ_ _ h=>h⟩:=
 .val λa r w j=>by
  have g:=hi a r w j;obtain⟨hf,h3⟩:=hx a r w j;simp only[iv,eqv] at g;subst ho;exact⟨_,by simp only[execOp,h3,g,w08,zmv w ht u z];rfl,hF hf,rfl⟩
theorem yj2[Dr]{s:St}{dst:Option Tmp}{pos:String}{after:Array Edge}{guard:Option (Nat×Bool)}{f:FuncId}{fo:Operand}{as:Array Operand}{ts:Array TypeId}{ty:TypeId}{Xs Ys args:List VP}{x:VP}(hf:FnOK N.P f)(a2:Ev s fo (fnc f Xs))(hX:zku C s Xs Ys)(ha:zwi C s as.toList args)
  (h:zdv N.P f (args++Ys) λy news=>y=x/\news = []) (hx:x.flat):OpQ C ⟨dst,.call { callee:=.value fo,args:=as,argTypes:=ts },ty,pos,after,guard⟩ s x:=by
 intro a w r S Q hd hn hw hs;obtain⟨fn,h1,h2,h3⟩:=hf;obtain⟨caps,hv,hl,hc⟩:=a2 a r w hs;obtain⟨e1,e2⟩:=ha.ok hw hs;obtain⟨e3,e4⟩:=hX.ok;unfold Oper.wp;have z :(execOp a.eval ⟨dst,.call { callee:=.value fo,args:=as,argTypes:=ts },ty,pos,after,guard⟩).run N.P w = .ok (.enter f (as.map a.eval++caps)) w:=by simp[execOp,Go.resolve,hv,Deferred.ofValue,invoke,z2w h1 h2 h3]
 rw[z,Oper.upon_enter];have a0:as.size=args.length:=by simpa using e1
 refine(h (λb=>b<w.heap.size) w _ (λ_ h=>h) (by simp[a0,hl,e3]) λi A d=>?_).mono ?_
 .rw[w2g] at d;split at d
  .rename_i a6;have:=e2 i A d;have u:i<as.size:=by omega
   simpa[w07,w1a,u,w1r] using this
  .rename_i a5;obtain⟨B,hB,a1⟩:=e4 _ A d;have:=A.mono (λ_ g=>hw.all g) (λ_ _=>rfl) (a1 r S w _ hw (hc _ B hB));have j:¬i<args.length:=by omega
   simpa[w07,w1a,j,a0] using this
 .rintro e w' ⟨v,X,news,r',S',rfl,he,a3,a4,rfl,rfl⟩;exact⟨v,r,_,_,_,rfl,⟨λ_ h=>h,λb g=>he.2.1 b (hw.old b g),λ_ h=>.inl h⟩,hw.join a3 r (λ_ h=>h) (λb g=>.inl g) (λi H d=>by simp at d),hx _ _ _ _ _ a4,rfl,by simp⟩
theorem yee[Dr]{s:St}{dst:Option Tmp}{pos:String}{after:Array Edge}{guard:Option (Nat×Bool)}{f:FuncId}{fo:Operand}{as:Array Operand}{ts:Array TypeId}{ty:TypeId}{Xs args:List VP}{K K':VP->List HP->Prop}(hf:FnOK N.P f)(a1:Ev s fo (fnc f Xs))(ha:Args s as.toList args)
  (h:zdv N.P f (args++Xs) K') (k:∀x news,K' x news->K x (s.objs++news)):OpT C ⟨dst,.call { callee:=.value fo,args:=as,argTypes:=ts },ty,pos,after,guard⟩ s K:=by
 intro a w r S Q hd hn hw hs;obtain⟨fn,h1,h2,h3⟩:=hf;obtain⟨caps,hv,hl,hc⟩:=a1 a r w hs;obtain⟨e1,e2⟩:=ha.ok hs;unfold Oper.wp;have u :(execOp a.eval ⟨dst,.call { callee:=.value fo,args:=as,argTypes:=ts },ty,pos,after,guard⟩).run N.P w = .ok (.enter f (as.map a.eval++caps)) w:=by simp[execOp,Go.resolve,hv,Deferred.ofValue,invoke,z2w h1 h2 h3]
 rw[u,Oper.upon_enter];have z:as.size=args.length:=by simpa using e1
 refine(h r w _ hw.old (by simp[z,hl]) λi A hi=>?_).mono ?_
 .rw[w2g] at hi;split at hi
  .rename_i a3;have:=e2 i A hi;have j:i<as.size:=by omega
   simpa[w07,w1a,j,w1r] using this
  .rename_i a2;have:=hc _ A hi;have g:¬i<args.length:=by omega
   simpa[w07,w1a,g,z] using this
 .rintro e w' ⟨v,x,news,r',S',rfl,d,a0,hx,hk⟩;refine⟨v,r',_,x,_,rfl,⟨d.1,d.2.1,λb hb=>(d.2.2 b hb).imp id (λq=>w1o hw.size q)⟩,hw.join a0 r' d.1 (λb hb=>?_) a0.obj,hx,k _ _ hk⟩;rcases d.2.2 b hb with q|q
  .exact .inl q
  .exact .inr ⟨q,hb⟩
theorem yav[Dr](hN:z6x V N)(j:chP s.gb s.kn){f t:Nat}{g:List (SV V.T)}{as:Array Operand}{ts:Array TypeId}{ty:TypeId}{k:SV V.T->Option R}{sp:Csp V}(a0:N.cl f=some sp)(hv:evO s.sl (cur++s.kn) (.tmp t)=some (.func f g))
  (h :(bif sp.res.any zet then none else(match decA V (bif sp.res.all (flR V) then rdSl s.ob else rdSl []) s.sl (cur++s.kn) sp.args as.toList,zfw V (bif sp.res.all (flR V) then s.ob else []) sp.caps g with
    |some a,some b=>bif zt.fnok N.P f then ztk s.gb cur (zR V sp.res) (sp.F a b) λr=>k (resV V (encR V 0 sp.res r)) else none
    |_,_=>none))=some r):∃v,k v=some r/\QOK V N.P C A s cur (.call { callee:=.value (.tmp t),args:=as,argTypes:=ts }) ty v:=by
 cases u:sp.res.any zet with
 |true=>rw[u] at h;cases h
 |false=>
  rw[u] at h;simp only[cond_false] at h;split at h
  .rename_i a b z h5;cases h4:zt.fnok N.P f with
   |false=>rw[h4] at h;cases h
   |true=>
    rw[h4] at h;simp only[cond_true] at h;obtain⟨y,hy,hk⟩:=ztl h;refine⟨_,hk,λhc dst pos after guard=>?_⟩;have hp:=hN.cl f sp a0 a b y (hy hc);have key:∀x news,Kres V N.P sp.res y x news->x =(resV V (encR V 0 sp.res y)).den V N.P A/\news = []:=by rintro x news ⟨B,hB,rfl,rfl⟩;obtain⟨e1,e2⟩:=zj5 V N.P (B:=B) 0 sp.res y u;refine⟨zw2 V N.P (e2 A).symm,?_⟩;rw[e1];cases B<;>rfl
    have d:=evO2 (A:=A) (P:=N.P) j hc hv;simp only[SV.den] at d;cases h2:sp.res.all (flR V) with
    |true=>rw[h2] at z h5;exact yj2 (z9q N.P h4) d (ztn V N.P h5) (zgs V N.P (z6k hc j) z) (hp.mono key) (zqq V N.P (zop V N.P 0 sp.res y u h2))
    |false=>
     rw[h2] at z h5;rw[zx6 (A:=A) V N.P h5] at d;refine yee (z9q N.P h4) d (zj0 V N.P (z6k hc j) z) hp λx news hK=>?_
     obtain⟨h6,h7⟩:=key x news hK;exact⟨h6,by rw[h7,w0e]⟩
  .cases h
theorem y6s[Dr](hN:z6x V N)(g:chP s.gb s.kn){f:Nat}{as:Array Operand}{ts:Array TypeId}{ty:TypeId}{k:SV V.T->Option R}{sp:Fsp V}(a0:N.fn f=some sp)
  (h :(bif sp.res.any zet then none else(match decA V (rdQ V s.ob sp.res) s.sl (cur++s.kn) sp.args as.toList with
    |some a=>bif zt.fnok N.P f then ztk s.gb cur (zR V sp.res) (sp.F a) λr=>k (resV V (encR V 0 sp.res r)) else none
    |none=>none))=some r):∃v,k v=some r/\QOK V N.P C A s cur (.call { callee:=.value (.func f),args:=as,argTypes:=ts }) ty v:=by
 cases j:sp.res.any zet with
 |true=>rw[j] at h;cases h
 |false=>
  rw[j] at h;simp only[cond_false] at h;split at h
  .rename_i a d;cases u:zt.fnok N.P f with
   |false=>rw[u] at h;cases h
   |true=>
    rw[u] at h;simp only[cond_true] at h;obtain⟨y,hy,hk⟩:=ztl h;refine⟨_,hk,λz dst pos after guard=>?_⟩;have hp:=hN.fn f sp a0 a y (hy z);have key:∀x news,Kres V N.P sp.res y x news->x =(resV V (encR V 0 sp.res y)).den V N.P A/\news = []:=by rintro x news ⟨B,hB,rfl,rfl⟩;obtain⟨e1,e2⟩:=zj5 V N.P (B:=B) 0 sp.res y j;refine⟨zw2 V N.P (e2 A).symm,?_⟩;rw[e1];cases B<;>rfl
    cases h2:sp.res.all (flR V) with
    |true=>unfold rdQ at d;rw[h2] at d;exact yj3 (z9q N.P u) (zgs V N.P (z6k z g) d) (hp.mono key) (zqq V N.P (zop V N.P 0 sp.res y j h2))
    |false=>
     unfold rdQ at d;rw[h2] at d;cases h7:sp.res.all (sepR V) with
     |true=>rw[h7] at d;exact yj0 N.P (z9q N.P u) (zsl V N.P (z6k z g) d) (λr S w hw=>y8s V N.P hw) (hp.mono key) (yf6 V N.P (y3j V N.P 0 sp.res y j h7))
     |false=>
     rw[h7] at d;refine yah (z9q N.P u) (zj0 V N.P (z6k z g) d) hp λx news hK=>?_
     obtain⟨h5,h6⟩:=key x news hK;exact⟨h5,by rw[h6,w0e]⟩
  .cases h
end
section xo
variable{V:TE}{P:Program}{C:Cx P}{A:Asg}{s:SS V.T}
theorem ya3[Dr]{j E d c:Nat}{l:List (V.T c)}{h:Option (Int×Nat)}{q:Nat×Value}(f:A[j]? = some q)(g:s.ob[j]? = some (.x (.nst E d c l h))):ObIs (s.st V P A).objs j (nst E (V.inn d c) l (zg4 A h) q.2):=⟨_,zw V P f g,λ_ _ _ h=>h.2⟩
theorem zy9[Dr]{j kc vc E:Nat}{m:List (V.T kc×V.T vc)}{hh:Option (V.T kc×Nat)}{q:Nat×Value}(d:A[j]? = some q)(f:s.ob[j]? = some (.x (.map kc vc E m hh))):ObIs (s.st V P A).objs j (nmp q.1 (V.kl kc) (V.kv kc) (V.inm E vc) m (zby A hh)):=⟨_,zw V P d f,λ_ _ _ h=>h.2⟩
theorem zmp{E c:Nat}(h:zbz (V.d c)=true):V.inm E c=plI (V.kv c):=by funext x v;unfold TE.inm TE.kv plI;generalize (λc=>kvS (V.d c))=g;revert x h;generalize V.d c=d;revert d;generalize V.T c=α;intro d h x;cases d<;>first|rfl|simp[zbz] at h
theorem yku[Dr]{j E c:Nat}{l:List (V.T c)}{q:Nat×Value}{o:Oper}{K:VP->List HP->Prop}(f:A[j]? = some q)(z:s.ob[j]? = some (.x (.fix E c l)))(h:y1d (V.d c)=true/\exSl q.2->OpT C o (s.st V P A) K):OpT C o (s.st V P A) K:=λa w ro S Q g u d hs=>h (d.obj j _ (zw V P f z)).1 a w ro S Q g u d hs
theorem yge[Dr]{j E f c:Nat}{l:List (V.T c)}{hh:Option (Int×Nat)}{q:Nat×Value}{o:Oper}{K:VP->List HP->Prop}(g:A[j]? = some q)(ho:s.ob[j]? = some (.x (.nst E f c l hh)))
  (h:zxy (V.d c)=true/\(∀k j,hh=some (k,j)->(A[j]?).isSome=true)->OpT C o (s.st V P A) K):OpT C o (s.st V P A) K:=
 λa w ro S Q u z d hs=>h (d.obj j _ (zw V P g ho)).1 a w ro S Q u z d hs
theorem y46{f:Array TypeId}(h:zt.isMp1 P f=true):∃t kt d,f = #[t]/\P.underlying t=some (.map kt d):=by
 unfold zt.isMp1 at h;split at h
 .rename_i t g;split at h
  .rename_i kt d j;exact⟨t,kt,d,by cases f;simp at g;rw[g],j⟩
  .cases h
 .cases h
theorem zlg{N:Env V}{t kc f:Nat}(h:keyT V N t kc=some f):∃kt,N.P.underlying t=some (.map kt f)/\keyE N.P V.d kt (V.d kc) (N.P.underlying kt)=true:=by
 unfold keyT at h;split at h
 .rename_i kt g j;cases d:keyE N.P V.d kt (V.d kc) (N.P.underlying kt) with
  |false=>rw[d] at h;cases h
  |true=>rw[d] at h;simp only[cond_true,w01] at h;subst h;exact⟨kt,j,d⟩
 .cases h
theorem ycv{r:Nat->Prop}{w:World}{l us:List Value}(h:zr r w (l.map eqv) us):us=l:=by
 refine w36 λi=>?_
 have g:=h.1;rw[w0q] at g;by_cases f:i<l.length
 .obtain⟨u,j,d,_⟩:=h.2 i (eqv l[i]) (by simp[f]);simp only[eqv] at d;rw[j,d];simp[f]
 .rw[w1t (by omega),w1t (by omega)]
theorem y7t{l:List Value}: Ent (Px.agg (l.map eqv)) (eqv (.agg l.toArray)):=by rintro r w v ⟨vs,rfl,hh⟩;simp only[eqv];rw[<- ycv hh]
theorem y8m{l:List Value}(h:∀v∈l,∃q n,v = .int q n):Ent (eqv (.agg l.toArray)) (Px.agg (l.map eqv)):=by rintro r w v d;simp only[eqv] at d;subst d;refine⟨l.toArray,rfl,?_⟩;exact zbm (by rw[w0a];intro v d;obtain⟨q,n,rfl⟩:=h v (by simpa using d);rfl)
theorem y1a{c:Nat}(h:y6a (V.d c)=true):∃q,∀y:V.T c,kvS (V.d c) y = .int q (klS (V.d c) y)/\V.ev c y = [eqv (.int q (klS (V.d c) y))]:=by
 have f:=λy=>V.ev_eq c y
 revert h f;generalize V.ev c=e;generalize V.d c=d;revert e d;generalize V.T c=α;intro e d h f;cases d with
 |int q=>exact⟨q,λy=>⟨rfl,f y⟩⟩
 |_=>simp[y6a] at h
theorem zuh{T:Nat->Type}{α:Type}{d:Ds T α}{u:Option TypeDesc}(h:keyD d u=true):y6a d=true/\∃q,u=some (.int q)/\∀y,kvS d y = .int q (klS d y):=by
 cases d with
 |int q=>
  cases u with
  |none=>simp[keyD] at h
  |some u=>cases u<;>simp[keyD] at h;subst h;exact⟨rfl,_,rfl,λy=>rfl⟩
 |_=>cases u<;>simp[keyD] at h
theorem zwa:∀{fs:List Nat},fs.all (λc=>y6a (V.d c))=true->∃d:List IntKind,∀x:Tup V.T fs,kvT (λc=>kvS (V.d c)) fs x=zipI d (klT (λc=>klS (V.d c)) fs x)/\evT V.ev fs x =(zipI d (klT (λc=>klS (V.d c)) fs x)).map eqv
 | [],_=>⟨[],λ_=>⟨rfl,rfl⟩⟩
 |c::cs,h=>by simp only[w1h,w02] at h;obtain⟨q,hq⟩:=y1a h.1;obtain⟨d,f⟩:=zwa h.2;refine⟨q::d,λx=>?_⟩;obtain⟨g,j⟩:=hq x.1;obtain⟨u,z⟩:=f x.2;exact⟨by simp only[kvT,klT,zipI,g,u],by simp only[evT,klT,zipI,j,z,w0l];rfl⟩
theorem y2j:∀{fs:List Nat}{l:List Field}{o:Nat},y1f P V.d fs l o=true->fs.all (λc=>y6a (V.d c))=true/\∃d:List IntKind,zlf P d l o=true/\∀x:Tup V.T fs,kvT (λc=>kvS (V.d c)) fs x=zipI d (klT (λc=>klS (V.d c)) fs x)/\(klT (λc=>klS (V.d c)) fs x).length=d.length
 | [],[],_,_=>⟨rfl,[],rfl,λ_=>⟨rfl,rfl⟩⟩
 |c::cs,f::fs,o,h=>by
  simp only[y1f,w02] at h;obtain⟨⟨⟨⟨j,u⟩,z⟩,h4⟩,h5⟩:=h;obtain⟨k1,q,k2,k3⟩:=zuh z;obtain⟨k4,d,k5,g⟩:=y2j h5;refine⟨by simp only[w1h,k1,k4,w4a],q::d,?_,λx=>?_⟩
  .unfold zlf;rw[j,u,k2,k5];simp only[decide_true,w25,w5f];exact h4
  .exact⟨by simp only[kvT,klT,zipI,k3,(g x.2).1],by simp only[klT,w0o,(g x.2).2]⟩
 | [],_::_,_,h=>by simp[y1f] at h
 |_::_,[],_,h=>by simp[y1f] at h
theorem y48{n c g:Nat}{u:Option TypeDesc}(h:keyE P V.d g (.arr n c) u=true):∃e,u=some (.array n e)/\keyD (V.d c) (P.underlying e)=true/\z5n P e=some (false,1):=by
 cases u with
 |none=>simp[keyE,keyD] at h
 |some u=>
  cases u<;>simp only[keyE,keyD,w09] at h;rename_i m e;simp only[w02] at h;have f:=w03 h.1.1;subst f;refine⟨e,rfl,h.1.2,?_⟩;have d:=h.2;split at d
  .assumption
  .cases d
theorem y9j{fs:List Nat}{α:Type}{mk:Tup V.T fs->α}{g:α->Tup V.T fs}{d:∀t,g (mk t)=t}{f:Nat}{u:Option TypeDesc}(h:keyE P V.d f (.st fs mk g d) u=true):∃l,u=some (.struct l)/\P.stoodInHeld f=false/\y1f P V.d fs l.toList 0=true:=by
 cases u with
 |none=>simp[keyE,keyD] at h
 |some u=>cases u<;>simp only[keyE,keyD,w09] at h;simp only[w02,w0v] at h;exact⟨_,rfl,h.1,h.2⟩
theorem ydt{c j:Nat}{u:Option TypeDesc}(h:keyE P V.d j (V.d c) u=true):V.key c=true:=by
 unfold TE.key;revert h;generalize V.d c=d;revert d;generalize V.T c=α;intro d h;cases d with
 |int q=>rfl
 |arr n g=>obtain⟨e,_,f,_⟩:=y48 h;exact(zuh f).1
 |st fs mk un z=>obtain⟨l,_,_,f⟩:=y9j h;exact(y2j f).1
 |bool=>simp[keyE,keyD] at h
 |str=>simp[keyE,keyD] at h
 |sl g=>simp[keyE,keyD] at h
 |map kc vc=>simp[keyE,keyD] at h
theorem y9k{c:Nat}(h:V.key c=true)(x:V.T c):Ent (V.vl c x) (eqv (V.kv c x))/\Ent (eqv (V.kv c x)) (V.vl c x):=by
 unfold TE.key at h;unfold TE.vl TE.kv;have g:=V.ev_eq c x;revert x h;generalize V.ev c=e;generalize V.d c=d;revert e d;generalize V.T c=α;intro e d h x g;cases d with
 |int q=>exact⟨Ent.refl,Ent.refl⟩
 |arr n f=>
  obtain⟨q,u⟩:=y1a (V:=V) (c:=f) h;have h2:Px.arr n (V.ev f) x =((List.range n).map λj=>kvS (V.d f) (x j)).map eqv:=by
   unfold Px.arr;generalize List.range n=l
   induction l with
   |nil=>rfl
   |cons j l ih=>rw[w0u,ih,(u _).2,w0l,w0l,(u _).1];rfl
  show Ent (Px.agg (e x)) (eqv (.agg ((List.range n).map λj=>kvS (V.d f) (x j)).toArray))/\Ent (eqv (.agg ((List.range n).map λj=>kvS (V.d f) (x j)).toArray)) (Px.agg (e x));rw[g];show Ent (Px.agg (Px.arr n (V.ev f) x)) _/\Ent _ (Px.agg (Px.arr n (V.ev f) x));rw[h2];exact⟨y7t,y8m λv hv=>by obtain⟨j,_,rfl⟩:=w0b.1 hv;exact⟨_,_,(u _).1⟩⟩
 |st fs mk z a0=>obtain⟨qs,u⟩:=zwa (V:=V) (fs:=fs) h;show Ent (Px.agg (e x)) (eqv (.agg (kvT (λc=>kvS (V.d c)) fs (z x)).toArray))/\Ent (eqv (.agg (kvT (λc=>kvS (V.d c)) fs (z x)).toArray)) (Px.agg (e x));rw[g];show Ent (Px.agg (evT V.ev fs (z x))) _/\Ent _ (Px.agg (evT V.ev fs (z x)));rw[(u _).2,(u _).1];exact⟨y7t,y8m (zwh _ _)⟩
 |bool=>simp[keyF] at h
 |str=>simp[keyF] at h
 |sl f=>simp[keyF] at h
 |map kc vc=>simp[keyF] at h
theorem zt9{c d:Nat}{x:V.T c}{u:Option TypeDesc}(h:keyE P V.d d (V.d c) u=true):Ent (V.vl c x) (eqv (V.kv c x)):=(y9k (ydt h) x).1
theorem yl6{c:Nat}(h:V.key c=true)(a b:V.T c)(g:V.kl c a=V.kl c b):V.kv c a=V.kv c b:=by
 unfold TE.key at h;unfold TE.kl at g;unfold TE.kv;revert a b h;generalize V.d c=d;revert d;generalize V.T c=α;intro d h a b g;cases d with
 |int q=>simp only[klF,klS,w2i,and_true] at g;rw[g]
 |arr n u=>
  obtain⟨q,z⟩:=y1a (V:=V) (c:=u) h;show Value.agg ((List.range n).map λj=>kvS (V.d u) (a j)).toArray=Value.agg ((List.range n).map λj=>kvS (V.d u) (b j)).toArray;have e1:∀f:Nat->V.T u,((List.range n).map λj=>kvS (V.d u) (f j)) =((List.range n).map λj=>klS (V.d u) (f j)).map (Value.int q):=λf=>by rw[w2n];exact w52 λj _=>(z _).1
  have g :((List.range n).map λj=>klS (V.d u) (a j)) =(List.range n).map λj=>klS (V.d u) (b j):=g
  rw[e1,e1,g]
 |st fs mk un a0=>obtain⟨qs,z⟩:=zwa (V:=V) (fs:=fs) h;show Value.agg (kvT (λc=>kvS (V.d c)) fs (un a)).toArray=Value.agg (kvT (λc=>kvS (V.d c)) fs (un b)).toArray;have g:klT (λc=>klS (V.d c)) fs (un a)=klT (λc=>klS (V.d c)) fs (un b):=g;rw[(z _).1,(z _).1,g]
 |bool=>simp[keyF] at h
 |str=>simp[keyF] at h
 |sl u=>simp[keyF] at h
 |map kc vc=>simp[keyF] at h
theorem z9r{kt c:Nat}(h:keyE P V.d kt (V.d c) (P.underlying kt)=true):KeyC P kt (V.kl c) (V.kv c):=by
 have e1:V.kv c=λx=>kvF (λc=>kvS (V.d c)) (V.d c) x:=rfl
 have e2:V.kl c=λx=>klF (λc=>klS (V.d c)) (V.d c) x:=rfl
 rw[e1,e2];clear e1 e2;revert h;generalize V.d c=d;revert d;generalize V.T c=α;intro d h;cases d with
 |int q=>simp only[keyE] at h;obtain⟨_,q',z,_⟩:=zuh h;rw[z] at h;simp only[keyD,decide_eq_true_eq] at h;subst h;exact yds z
 |arr n u=>
  obtain⟨e',z,g,hE⟩:=y48 h;obtain⟨_,q,hq,_⟩:=zuh g;rw[hq] at g;show KeyC P kt (λf:Nat->V.T u=>(List.range n).map λj=>klS (V.d u) (f j)) (λf=>.agg ((List.range n).map λj=>kvS (V.d u) (f j)).toArray);revert g;generalize V.d u=d;revert d;generalize V.T u=β;intro d g;cases d with
  |int q'=>simp only[keyD,decide_eq_true_eq] at g;subst g;exact ydr z hq hE
  |_=>simp[keyD] at g
 |st fs mk un a0=>
  obtain⟨l,z,hs,g⟩:=y9j h;obtain⟨_,qs,hq,hx⟩:=y2j g;have:=yij (e:=λx=>klT (λc=>klS (V.d c)) fs (un x)) z hs hq (λx=>(hx _).2);have e3 :(λx=>Value.agg (zipI qs (klT (λc=>klS (V.d c)) fs (un x))).toArray)=λx=>kvF (λc=>kvS (V.d c)) (.st fs mk un a0) x:=funext λx=>by show _=Value.agg (kvT (λc=>kvS (V.d c)) fs (un x)).toArray;rw[(hx _).1]
  rw[<- e3];exact this
 |bool=>simp[keyE,keyD] at h
 |str=>simp[keyE,keyD] at h
 |sl u=>simp[keyE,keyD] at h
 |map kc vc=>simp[keyE,keyD] at h
theorem y2q{vc:Nat}{z:Value}(h:V.zok vc z=true):Ent (eqv z) (V.vl vc (V.z vc)):=by
 unfold TE.zok at h;unfold TE.vl;generalize V.ev vc (V.z vc)=l;revert h;generalize V.z vc=y;generalize V.d vc=d;revert y d;generalize V.T vc=α;intro y d h;cases d with
 |int q=>have:=(zo6 h).1;subst this;exact Ent.refl
 |bool=>have:=(zo6 h).1;subst this;exact Ent.refl
 |str=>have:=(zo6 h).1;subst this;exact Ent.refl
 |sl c=>
  simp only[zokD,w02] at h;have hy:y = []:=w3s.1 h.2;subst hy;have f:z = .slice none 0 0:=by
   have:=h.1;unfold y47 at this;split at this
   .rfl
   .cases this
  subst f;exact Ent.nil
 |map kc vc=>
  simp only[zokD,w02] at h;have hy:y = []:=w3s.1 h.2;subst hy;have f:z = .map none:=by
   have:=h.1;unfold yg4 at this;split at this
   .rfl
   .cases this
  subst f;exact zm7
 |arr n c=>simp[zokD] at h
 |st fs mk j g=>simp[zokD] at h
theorem yej[Dr]{dst:Option Tmp}{ty:TypeId}{pos:String}{after:Array Edge}{guard:Option (Nat×Bool)}{s:St}{t E:TypeId}{n:Nat}{x i:Operand}{k:IntKind}{m:Int}{l:List VP}{B:VP}(ht:tarr P t=some (n,E))(g:z5n P E=some (false,1))(h:Ev s x (agg l))(hi:Ev s i (iv k m))
  (hl:l[m.toNat]? = some B) (z:0<=m) (h1:m<n):OpQ C ⟨dst,.index t x i,ty,pos,after,guard⟩ s B:=
 .val λa r w j=>by
  have f:=hi a r w j;simp only[iv,eqv] at f;obtain⟨vs,hx,hh⟩:=h a r w j;obtain⟨u,hu,d,_⟩:=hh.2 _ _ hl;have hp:=zkn (vs:=vs) (off:=m.toNat*1) (u:=u) w g (by simpa using hu);exact⟨u,by simp only[execOp,Instr.index,hx,f,w08,asIntOf,w0p,w06,run_underlying (zmd ht),if_pos (And.intro z h1),z8i w g,hp],d⟩
theorem y1t[Dr]:∀{cs:List (SV V.T)}{i:Nat}{v:SV V.T},cs.all y4t=true->cs[i]? = some v->(denL V P A cs)[i]? = some (v.den V P A):=by
 intro cs
 induction cs with
 |nil=>intro i v _ h;simp at h
 |cons x cs g=>
  intro i v d h;simp only[w1h,w02] at d;have f:denL V P A (x::cs)=x.den V P A::denL V P A cs:=by cases x<;>first|rfl|simp[y4t] at d
  rw[f];cases i with
  |zero=>simp at h;subst h;rfl
  |succ i=>simpa using g d.2 (by simpa using h)
theorem yi4[Dr]{dst:Option Tmp}{ty:TypeId}{pos:String}{after:Array Edge}{guard:Option (Nat×Bool)}{p:SV V.T}{m q:Int}{j:Nat}{t:TypeId}{x:Operand}(hh:zmn V s p=some (m,q,j))(ht:z5n P t=some (false,1))(hq:m=q)
  (f:Ev (s.st V P A) x (p.den V P A)):OpQ C ⟨dst,.load t x,ty,pos,after,guard⟩ (s.st V P A) ((SV.own j:SV V.T).den V P A):=by
 unfold zmn at hh;split at hh
 .rename_i i m' z;split at hh
  .rename_i E E2 c l q' j' ho;cases hb:Nat.beq z 1 with
   |false=>rw[hb] at hh;cases hh
   |true=>
    rw[hb] at hh;simp only[cond_true,w01,w0k] at hh;obtain⟨rfl,rfl,rfl⟩:=hh;have hz:=w03 hb;subst hz;subst hq;simp only[SV.den] at f⊢;cases h:A[i]? with
    |none=>rw[h] at f;exact z8m P f
    |some p=>
     rw[h] at f;refine yge h ho λhp=>?_
     obtain⟨p2,d⟩:=w19.1 (hp.2 _ _ rfl);rw[d];have hi:=ya3 (P:=P) h ho;simp only[zg4,d] at hi;refine yal ht (ym2 (f.ent' ?_) hi);rintro r w v ⟨g,n,u,h1,h2,_⟩;exact⟨g,n,u,h1,by simpa using h2⟩
  .cases hh
 .cases hh
end xo
end Px
end
section
namespace Px
open Go Go.RowKit
section
variable{V:TE}{N:Env V}{R:Type}{r:R}{C:Cx N.P}{A:Asg}{s:SS V.T}{cur:Ch}
theorem ylj{V:TE}{c:Nat}(h:z81 (V.d c)=false)(y:V.T c):One (V.vl c y):=by
 unfold TE.vl;generalize V.ev c y=f;revert y h;generalize V.d c=d;revert d;generalize V.T c=α;intro d h y;cases d<;>simp[z81] at h<;>simp only[vlF]
 .exact One.eqv rfl
 .exact One.eqv rfl
 .exact One.eqv rfl
 .exact One.ro
 .exact λr w v h=>by rcases h with⟨rfl,_⟩|⟨b,t,rfl,_⟩<;>rfl
theorem yct{V:TE}{s:St}{c:Nat}{x:Operand}{y:V.T c}(h:Ev s x (V.vl c y)):Ce s x (V.ev c y):=by
 cases d:z81 (V.d c) with
 |true=>rw[zn1 y d] at h;exact Ce.agg h
 |false=>rw[zr5 y d];exact Ce.one h (ylj d y)
theorem ztx[Dr]{P:Program}{ch:Ch}(d:chP s.gb ch){c:Nat}: ∀{ps:List (Nat×Operand)}{n:Nat}{l:List (V.T c)},y0p V s.sl ch c n ps=some l->y7h (s.st V P A) (V.ev c) n ps l
 | [],n,l,h=>by simp[y0p] at h;subst h;trivial
 |(i,o)::ps,n,l,h=>by
  simp only[y0p] at h;cases f:Nat.beq i n with
  |false=>rw[f] at h;cases h
  |true=>
   rw[f] at h;simp only[cond_true] at h;split at h
   .rename_i y hy;split at h
    .rename_i m g;simp only[w01] at h;subst h;cases hx:evO s.sl ch o with
     |none=>rw[hx] at hy;cases hy
     |some x=>rw[hx] at hy;exact⟨w03 f,yct (Ev.ent' (z1t V P hx d) (z6y V P hy)),ztx d g⟩
    .cases h
   .cases h
theorem ydb[Dr](u:chP s.gb s.kn){t:TypeId}{x:Operand}{f:Nat}{ty:TypeId}{k:SV V.T->Option R}(h:zt V N s cur (.fieldAddr t x f) ty k=some r):∃v,k v=some r/\QOK V N.P C A s cur (.fieldAddr t x f) ty v:=by
 simp only[zt] at h;split at h
 .rename_i off i o hf hx;refine⟨_,h,λhc dst pos after guard=>?_⟩;have d:=evO2 (A:=A) (P:=N.P) u hc hx;simp only[SV.den] at d⊢;cases ha:A[i]? with
  |none=>rw[ha] at d;exact z8m N.P d
  |some q=>rw[ha] at d;exact yeh hf d
 .rename_i off i o m z a1 a2 fo hf hx;refine⟨_,h,λhc dst pos after guard=>?_⟩;have d:=evO2 (A:=A) (P:=N.P) u hc hx;simp only[SV.den] at d⊢;cases ha:A[i]? with
  |none=>rw[ha] at d;exact z8m N.P d
  |some q=>
   rw[ha] at d;refine .val λa ro w hs=>?_
   obtain⟨h1,h2⟩:=d a ro w hs;exact⟨.pointer (some ⟨q.1,o+a1*z+fo+off,none⟩),by simp[execOp,h2,zf7 w hf],h1,by rw[w2v]⟩
 .rename_i off cs hf hx;split at h
  .rename_i l hl;refine⟨_,h,λhc dst pos after guard=>?_⟩;have d:=evO2 (A:=A) (P:=N.P) u hc hx;simp only[SV.den] at d⊢;exact yei hf d (zd5 V N.P cs off l hl).1.symm
  .cases h
 .rename_i off i j z fo hf hx;refine⟨_,h,λhc dst pos after guard=>?_⟩;have d:=evO2 (A:=A) (P:=N.P) u hc hx;simp only[SV.den] at d⊢;cases ha:A[i]? with
  |none=>rw[ha] at d;exact z8m N.P d
  |some q=>
   rw[ha] at d;refine .val λa ro w hs=>?_
   obtain⟨g,n,a0,h1,h2,h3⟩:=d a ro w hs;exact⟨.pointer (some ⟨g,j.toNat*z+fo+off,none⟩),by simp[execOp,h2,zf7 w hf],g,n,a0,h1,by rw[w2v],h3⟩
 .cases h
theorem y9e[Dr](a0:chP s.gb s.kn){t:TypeId}{x i:Operand}{ty:TypeId}{k:SV V.T->Option R}(h:zt V N s cur (.indexAddr t x i) ty k=some r):∃v,k v=some r/\QOK V N.P C A s cur (.indexAddr t x i) ty v:=by
 simp only[zt] at h;split at h
 .-- what is only read
  rename_i n0 e c l q m ht hx hi;have hi:=z0n hi;have hn:=ymk ht;subst hn;cases hb:Nat.beq e (V.sz c) with
  |false=>rw[hb] at h;cases h
  |true=>rw[hb] at h;have he:=w03 hb;subst he;obtain⟨g,hk⟩:=z8k h;refine⟨_,hk,λhc dst pos after guard=>?_⟩;have d:=evO2 (A:=A) (P:=N.P) a0 hc hx;have u:=evO2 (A:=A) (P:=N.P) a0 hc hi;simp only[SV.den] at d u⊢;rw[z2g];exact yek ht d u (g hc).1 (zgw (g hc))
 .-- a slice of a5 call's own
  rename_i n0 e j q m ht hx hi;have hi:=z0n hi;have hn:=ymk ht;subst hn;split at h
  .rename_i E c l ho;cases hb:Nat.beq e (V.sz c) with
   |false=>rw[hb] at h;cases h
   |true=>
    rw[hb] at h;have he:=w03 hb;subst he;obtain⟨g,hk⟩:=z8k h;refine⟨_,hk,λhc dst pos after guard=>?_⟩;have d:=evO2 (A:=A) (P:=N.P) a0 hc hx;have u:=evO2 (A:=A) (P:=N.P) a0 hc hi;simp only[SV.den] at d u⊢;cases ha:A[j]? with
    |none=>rw[ha] at d;exact z8m N.P d
    |some q=>rw[ha] at d;exact yi7 ht d (zw V N.P ha ho) u (g hc).1 (g hc).2
  .rename_i E E2 c l hh ho;cases hb:Nat.beq e 1 with
   |false=>rw[hb] at h;cases h
   |true=>
    rw[hb] at h;have he:=w03 hb;subst he;obtain⟨g,hk⟩:=z8k h;refine⟨_,hk,λhc dst pos after guard=>?_⟩;have d:=evO2 (A:=A) (P:=N.P) a0 hc hx;have u:=evO2 (A:=A) (P:=N.P) a0 hc hi;simp only[SV.den] at d u⊢;cases ha:A[j]? with
    |none=>rw[ha] at d;exact z8m N.P d
    |some q=>rw[ha] at d;have h9:=yi8 (C:=C) (dst:=dst) (ty:=ty) (pos:=pos) (after:=after) (guard:=guard) ht d (ya3 ha ho) u (g hc).1 (g hc).2;simpa[eltp] using h9
  .rename_i E c l ho;cases hb:Nat.beq e (V.sz c) with
   |false=>rw[hb] at h;cases h
   |true=>
    rw[hb] at h;have he:=w03 hb;subst he;obtain⟨g,hk⟩:=z8k h;refine⟨_,hk,λhc dst pos after guard=>?_⟩;have d:=evO2 (A:=A) (P:=N.P) a0 hc hx;have u:=evO2 (A:=A) (P:=N.P) a0 hc hi;simp only[SV.den] at d u⊢;cases ha:A[j]? with
    |none=>rw[ha] at d;exact z8m N.P d
    |some q=>rw[ha] at d;exact ydl ht d (zxn V N.P ha ho) u (g hc).1 (g hc).2
  .cases h
 .-- an array within a variable
  rename_i n e j o q m ht hx hi;have hi:=z0n hi;split at h
  .rename_i T cs ho;split at h
   .rename_i n' c f post a3;cases hb :(Nat.blt 0 (V.sz c)&&Nat.beq (e / V.sz c*V.sz c) e&&Nat.beq (n*(e / V.sz c)) n') with
    |false=>rw[hb] at h;cases h
    |true=>
     rw[hb] at h;simp only[w02] at hb;have e1:=w03 hb.1.2;have e2:=w03 hb.2;obtain⟨g,hk⟩:=z8k h;refine⟨_,hk,λhc dst pos after guard=>?_⟩;have d:=evO2 (A:=A) (P:=N.P) a0 hc hx;have u:=evO2 (A:=A) (P:=N.P) a0 hc hi;simp only[SV.den] at d u⊢;cases ha:A[j]? with
     |none=>rw[ha] at d;exact z8m N.P d
     |some q=>
      rw[ha] at d;simp only[ygo];refine y9d (F:=True) (off:=o) ht (λa ro w hs=>⟨trivial,d a ro w hs⟩) u (g hc).1 (g hc).2 (λ_=>?_) ?_
      .rw[<- e2];have h3:m.toNat+1<=n:=by have:=(g hc).1;have:=(g hc).2;omega
       have:=w1p (e / V.sz c) h3;rw[w1s,w3x] at this;exact this
      .rw[w5g,e1];omega
   .cases h
  .cases h
 .-- an array within an array
  rename_i n e j o n' z a2 a1 q m ht hx hi;have hi:=z0n hi;cases hb :(Nat.blt 0 z&&Nat.beq (e / z*z) e&&Nat.beq (n*(e / z)) a1) with
  |false=>rw[hb] at h;cases h
  |true=>
   rw[hb] at h;simp only[w02] at hb;have e1:=w03 hb.1.2;have e2:=w03 hb.2;obtain⟨g,hk⟩:=z8k h;refine⟨_,hk,λhc dst pos after guard=>?_⟩;have d:=evO2 (A:=A) (P:=N.P) a0 hc hx;have u:=evO2 (A:=A) (P:=N.P) a0 hc hi;simp only[SV.den] at d u⊢;cases ha:A[j]? with
   |none=>rw[ha] at d;exact z8m N.P d
   |some q=>
    rw[ha] at d;simp only[ygo];refine y9d (F:=a2+a1<=n') (off:=o+a2*z+0) ht d u (g hc).1 (g hc).2 (λa4=>?_) ?_
    .have h3:m.toNat+1<=n:=by have:=(g hc).1;have:=(g hc).2;omega
     have:=w1p (e / z) h3;rw[w1s,w3x,e2] at this;omega
    .rw[w1s,w5g,e1];omega
 .-- an array that is only read
  rename_i n e n' c f post q m ht hx hi;have hi:=z0n hi;cases hb :(Nat.beq e (V.sz c)&&Nat.beq n n') with
  |false=>rw[hb] at h;cases h
  |true=>rw[hb] at h;simp only[w02] at hb;have e1:=w03 hb.1;have e2:=w03 hb.2;subst e1;subst e2;obtain⟨g,hk⟩:=z8k h;refine⟨_,hk,λhc dst pos after guard=>?_⟩;have d:=evO2 (A:=A) (P:=N.P) a0 hc hx;have u:=evO2 (A:=A) (P:=N.P) a0 hc hi;simp only[SV.den,denL] at d u⊢;rw[z2g];refine yai ht (Ev.ent' d λr w v ⟨b,o,hv,hr,hh⟩=>⟨b,o,hv,hr,?_⟩) u (V.ev_len c) (g hc).1 (g hc).2;have:=hh.take (arr n (V.ev c) f).length;rw[List.take_left'  rfl] at this;simpa using this
 .cases h
theorem ydn[Dr](a0:chP s.gb s.kn){t:TypeId}{x i:Operand}{ty:TypeId}{k:SV V.T->Option R}(h:zt V N s cur (.index t x i) ty k=some r):∃v,k v=some r/\QOK V N.P C A s cur (.index t x i) ty v:=by
 have arrc:∀{n c:Nat}{f:Nat->V.T c}{q:IntKind}{m:Int}(hx:chP s.gb cur->Ev (s.st V N.P A) x (Px.agg (Px.arr n (V.ev c) f)))(u:chP s.gb cur->Ev (s.st V N.P A) i (iv q m)),
   (match tarr N.P t with
   |some (n',E)=>match z5n N.P E with
    |some (g,z)=>bif Nat.beq n n'&&Nat.beq z (V.sz c)&&(g==z81 (V.d c)) then ckG s.gb cur ((0:Int)<=m/\m<(n:Int)) (k (V.encV c (f m.toNat))) else none
    |none=>none
   |none=>none)=some r->∃v,k v=some r/\QOK V N.P C A s cur (.index t x i) ty v:=by
  intro n c f q m hx u h;split at h
  .rename_i n' E ht;split at h
   .rename_i g z hE;cases hb :(Nat.beq n n'&&Nat.beq z (V.sz c)&&(g==z81 (V.d c))) with
    |false=>rw[hb] at h;cases h
    |true=>
     rw[hb] at h;simp only[w02,beq_iff_eq] at hb;have e1:=w03 hb.1.1;have e2:=w03 hb.1.2;have e3:=hb.2;subst e1;subst e2;subst e3;obtain⟨j,hk⟩:=z8k h;refine⟨_,hk,λd dst pos after guard=>?_⟩;rw[z4l];cases ha:z81 (V.d c) with
     |true=>rw[ha] at hE;rw[zn1 _ ha];exact yak ht hE (hx d) (u d) (V.ev_len c) (j d).1 (j d).2
     |false=>rw[ha] at hE;have h1:=zr5 (f m.toNat) ha;have h2:=V.ev_len c (f m.toNat);rw[h1] at h2;simp only[w0o,w2h] at h2;rw[<- h2] at hE;exact yaj ht hE (hx d) (u d) (λy=>by rw[V.ev_len];exact h2.symm) h1 (j d).1 (j d).2
   .cases h
  .cases h
 simp only[zt] at h;split at h
 .rename_i b q m hx u;have u:=z0n u;split at h
  .rename_i hu;obtain⟨j,hk⟩:=z8k h;refine⟨_,hk,λd dst pos after guard=>?_⟩;exact yel hu (evO2 a0 d hx) (evO2 a0 d u) rfl (j d).1 (j d).2
  .cases h
 .rename_i n c f q m hx u;have u:=z0n u;exact arrc (λd=>evO2 a0 d hx) (λd=>evO2 a0 d u) h
 .rename_i n c f q m hx u;have u:=z0n u;exact arrc (λd=>by have:=evO2 (A:=A) (P:=N.P) a0 d hx;simpa[SV.den,denL] using this) (λd=>evO2 a0 d u) h
 .rename_i cs q m _ hx u;have u:=z0n u;split at h
  .rename_i n' E ht;cases hb :(ybm N.P E&&Nat.beq cs.length n'&&cs.all y4t) with
   |false=>rw[hb] at h;cases h
   |true=>
    rw[hb] at h;simp only[w02] at hb;simp only[cond_true] at h;split at h
    .rename_i v hv;obtain⟨j,hk⟩:=z8k h;refine⟨_,hk,λd dst pos after guard=>?_⟩;have hE:z5n N.P E=some (false,1):=by
      have:=hb.1.1;unfold ybm at this;split at this
      .assumption
      .cases this
     have a1:=evO2 (A:=A) (P:=N.P) a0 d hx;simp only[SV.den] at a1;exact yej ht hE a1 (evO2 a0 d u) (y1t hb.2 hv) (j d).1 (j d).2
    .cases h
  .cases h
 .cases h
theorem yh5[Dr](hN:z6x V N)(a0:chP s.gb s.kn){c:Call}{ty:TypeId}{k:SV V.T->Option R}(h:zt V N s cur (.call c) ty k=some r):∃v,k v=some r/\QOK V N.P C A s cur (.call c) ty v:=by
 obtain⟨callee,args,ts⟩:=c;simp only[zt] at h;split at h
 .-- len
  rename_i x g;have ha:args = #[x]:=by cases args;simp at g;rw[g]
  subst ha;split at h
  .rename_i c l hx;cases u:zt.isSl1 N.P ts with
   |false=>rw[u] at h;cases h
   |true=>rw[u] at h;obtain⟨t,rfl,ht⟩:=zgy u;exact⟨_,h,λhc dst pos after guard=>ylr ht (evO2 a0 hc hx)⟩
  .rename_i j hx;split at h
   .rename_i E c l ho;cases u:zt.isSl1 N.P ts with
    |false=>rw[u] at h;cases h
    |true=>
     rw[u] at h;obtain⟨t,rfl,ht⟩:=zgy u;refine⟨_,h,λhc dst pos after guard=>?_⟩;have d:=evO2 (A:=A) (P:=N.P) a0 hc hx;simp only[SV.den] at d;cases ha:A[j]? with
     |none=>rw[ha] at d;exact z8m N.P d
     |some q=>rw[ha] at d;exact ylq j ht d (zw V N.P ha ho)
   .rename_i E E2 c l hh ho;cases u:zt.isSl1 N.P ts with
    |false=>rw[u] at h;cases h
    |true=>
     rw[u] at h;obtain⟨t,rfl,ht⟩:=zgy u;refine⟨_,h,λhc dst pos after guard=>?_⟩;have d:=evO2 (A:=A) (P:=N.P) a0 hc hx;simp only[SV.den] at d;cases ha:A[j]? with
     |none=>rw[ha] at d;exact z8m N.P d
     |some q=>rw[ha] at d;exact yin j ht d (ya3 ha ho)
   .rename_i E c l ho;cases u:zt.isSl1 N.P ts with
    |false=>rw[u] at h;cases h
    |true=>
     rw[u] at h;obtain⟨t,rfl,ht⟩:=zgy u;refine⟨_,h,λhc dst pos after guard=>?_⟩;have d:=evO2 (A:=A) (P:=N.P) a0 hc hx;simp only[SV.den] at d;cases ha:A[j]? with
     |none=>rw[ha] at d;exact z8m N.P d
     |some q=>rw[ha] at d;exact ylp j ht d (zxn V N.P ha ho)
   .rename_i kc vc m ho;cases u:zt.isMp1 N.P ts with
    |false=>rw[u] at h;cases h
    |true=>
     rw[u] at h;obtain⟨t,kt,et,rfl,ht⟩:=y46 u;refine⟨_,h,λhc dst pos after guard=>?_⟩;have d:=evO2 (A:=A) (P:=N.P) a0 hc hx;simp only[SV.den] at d;cases ha:A[j]? with
     |none=>rw[ha] at d;exact z8m N.P d
     |some q=>rw[ha] at d;exact zpf ha ho λhq _=>yli j ht (zy9 ha ho) (by rw[<- hq];exact d)
   .cases h
  .rename_i kc vc m hx;cases u:zt.isMp1 N.P ts with
   |false=>rw[u] at h;cases h
   |true=>rw[u] at h;obtain⟨t,kt,et,rfl,ht⟩:=y46 u;refine⟨_,h,λhc dst pos after guard=>?_⟩;have d:=evO2 (A:=A) (P:=N.P) a0 hc hx;simp only[SV.den,y6f] at d;exact yiw ht d
  .rename_i hx;cases u:zt.isSl1 N.P ts with
   |false=>rw[u] at h;cases h
   |true=>rw[u] at h;obtain⟨t,rfl,ht⟩:=zgy u;exact⟨_,h,λhc dst pos after guard=>yem ht (evO2 a0 hc hx)⟩
  .rename_i b hx;cases u:zt.isStr1 N.P ts with
   |false=>rw[u] at h;cases h
   |true=>rw[u] at h;obtain⟨t,rfl,ht⟩:=y9i u;exact⟨_,h,λhc dst pos after guard=>yls ht (evO2 a0 hc hx)⟩
  .cases h
 .-- a5
  rename_i x g;have ha:args = #[x]:=by cases args;simp at g;rw[g]
  subst ha;split at h
  .rename_i hx;cases u:zt.isSl1 N.P ts with
   |false=>rw[u] at h;cases h
   |true=>rw[u] at h;obtain⟨t,rfl,ht⟩:=zgy u;exact⟨_,h,λhc dst pos after guard=>yeg ht (evO2 a0 hc hx)⟩
  .cases h
 .-- min
  rename_i x xs g;have ha:args =⟨x::xs⟩:=by cases args;simp at g;rw[g]
  subst ha;split at h
  .rename_i i m hx;split at h
   .rename_i ns a1;exact⟨_,h,λhc dst pos after guard=>yn9 (evO2 a0 hc (z0n hx)) (y1c hc a0 a1)⟩
   .cases h
  .cases h
 .-- max
  rename_i x xs g;have ha:args =⟨x::xs⟩:=by cases args;simp at g;rw[g]
  subst ha;split at h
  .rename_i i m hx;split at h
   .rename_i ns a1;exact⟨_,h,λhc dst pos after guard=>yn8 (evO2 a0 hc (z0n hx)) (y1c hc a0 a1)⟩
   .cases h
  .cases h
 .-- a function with a contract
  rename_i f;split at h
  .rename_i sp a2;exact y6s hN a0 a2 h
  .cases h
 .-- a function value
  rename_i t a4 g;split at h
  .rename_i c f hf;split at h
   .rename_i x y a3;have ha:args = #[x,y]:=by cases args;simp at a3;rw[a3]
    subst ha;split at h
    .rename_i a b ha u;obtain⟨z,hz,hk⟩:=ztl h;refine⟨_,hk,λhc dst pos after guard=>?_⟩;cases hx:evO s.sl (cur++s.kn) x with
     |none=>rw[hx] at ha;cases ha
     |some vx=>
      cases hy:evO s.sl (cur++s.kn) y with
      |none=>rw[hy] at u;cases u
      |some vy=>rw[hx] at ha;rw[hy] at u;exact yj1 (evO2 a0 hc hf) (Ev.ent' (evO2 a0 hc hx) (z6y V N.P ha)) (Ev.ent' (evO2 a0 hc hy) (z6y V N.P u)) (hz hc)
    .cases h
   .cases h
  .rename_i f caps hf;split at h
   .rename_i sp a2;exact yav hN a0 a2 hf h
   .cases h
  .cases h
 .cases h
theorem y4d{kc vc:Nat}{m:List (V.T kc×V.T vc)}{key:V.T kc}{f:Bool}{z:Value}{k:SV V.T->Option R}(h:ydw V kc vc m key f z k=some r):V.zok vc z=true/\
  k (bif f then .tup [V.encV vc ((cget (V.kl kc) m key).getD (V.z vc)),.bool (cget (V.kl kc) m key).isSome] else V.encV vc ((cget (V.kl kc) m key).getD (V.z vc)))=some r:=by
 unfold ydw at h;cases d:V.zok vc z with
 |false=>rw[d] at h;cases h
 |true=>rw[d] at h;exact⟨rfl,h⟩
theorem ygu{vc:Nat}{z:Value}(f:zbz (V.d vc)=true)(h:V.zok vc z=true):z=V.kv vc (V.z vc):=by have d:=y2q (V:=V) h (λ_=>True) default z rfl;rw[y2n V f] at d;exact d
theorem y9p[Dr](a4:chP s.gb s.kn){t:TypeId}{x i:Operand}{ok:Bool}{ty:TypeId}{k:SV V.T->Option R}(h:zt V N s cur (.lookup t x i ok) ty k=some r):∃v,k v=some r/\QOK V N.P C A s cur (.lookup t x i ok) ty v:=by
 simp only[zt] at h;split at h
 .rename_i j y hx hi;split at h
  .rename_i kc vc E m hh ho;split at h
   .rename_i et key hm hd;obtain⟨kt,ht,hk⟩:=zlg hm;split at h
    .rename_i z hz;have a2:chP s.gb cur->Ev (s.st V N.P A) x ((SV.own j:SV V.T).den V N.P A):=λg=>evO2 (A:=A) (P:=N.P) a4 g hx
     have a3:chP s.gb cur->Ev (s.st V N.P A) i (eqv (V.kv kc key)):=λg=>((evO2 (A:=A) (P:=N.P) a4 g hi).ent' (z6y V N.P hd)).ent' (zt9 hk)
     cases hh with
     |some p=>
      obtain⟨q,jj⟩:=p;simp only at h;cases ok with
      |true=>cases h
      |false=>
       simp only[cond_false] at h;obtain⟨hq,a6⟩:=z8k h;refine⟨_,a6,λg dst pos after guard=>?_⟩;have d:=a2 g;have f:=a3 g;simp only[SV.den] at d⊢;cases u:A[j]? with
       |none=>rw[u] at d;exact z8m N.P d
       |some p=>
        rw[u] at d;refine zpf u ho λhp hs=>?_
        obtain⟨p2,a7⟩:=w19.1 (hs _ _ rfl);rw[a7];have a0:=zy9 (P:=N.P) u ho;simp only[zby,a7] at a0;exact y6l j (z9r hk) ht a0 (hq g) (by rw[<- hp];exact d) f
     |none=>
      simp only at h;cases a1:zbz (V.d vc) with
      |true=>
       rw[a1] at h;simp only[cond_true] at h;obtain⟨a5,h2⟩:=y4d h;have a8:=ygu a1 a5;subst a8;refine⟨_,h2,λg dst pos after guard=>?_⟩;have d:=a2 g;have f:=a3 g;simp only[SV.den] at d;cases u:A[j]? with
       |none=>rw[u] at d;exact z8m N.P d
       |some p=>
        rw[u] at d;refine zpf u ho λhp _=>?_
        have a0:=zy9 (P:=N.P) u ho;rw[zmp a1] at a0;cases ok with
        |false=>simp only[cond_false,z4l,y2n V a1];exact zyg j (z9r hk) ht hz a0 (by rw[<- hp];exact d) f
        |true=>simp only[cond_true,SV.den,denV,z4l,y2n V a1];exact y6j j (z9r hk) ht hz a0 (by rw[<- hp];exact d) f
      |false=>
       rw[a1] at h;simp only[cond_false] at h;cases ok with
       |true=>cases h
       |false=>
        simp only[cond_false] at h;obtain⟨hq,a6⟩:=z8k h;refine⟨_,a6,λg dst pos after guard=>?_⟩;have d:=a2 g;have f:=a3 g;simp only[SV.den] at d⊢;cases u:A[j]? with
        |none=>rw[u] at d;exact z8m N.P d
        |some p=>
         rw[u] at d;refine zpf u ho λhp _=>?_
         exact y6m j (z9r hk) ht hz (zy9 u ho) (by simpa using hq g) (by rw[<- hp];exact d) f
    .cases h
   .cases h
  .cases h
 .rename_i kc vc m y hx hi;split at h
  .rename_i et key hm hd;obtain⟨kt,ht,hk⟩:=zlg hm;split at h
   .rename_i z hz;obtain⟨a5,h⟩:=y4d h;refine⟨_,h,λg dst pos after guard=>?_⟩;have d:=evO2 (A:=A) (P:=N.P) a4 g hx;have f:=((evO2 (A:=A) (P:=N.P) a4 g hi).ent' (z6y V N.P hd)).ent' (zt9 hk);simp only[SV.den,y6f] at d;cases ok with
    |false=>simp only[cond_false,z4l];exact ye7 (E:=λy=>V.vl vc y) (z9r hk) ht hz (y2q a5) d f
    |true=>simp only[cond_true,SV.den,denV,z4l];exact ya8 (E:=λy=>V.vl vc y) (z9r hk) ht hz (y2q a5) d f
   .cases h
  .cases h
 .cases h
theorem yd9[Dr](a0:chP s.gb s.kn){x:Operand}{ty:TypeId}{k:SV V.T->Option R}(h:zt V N s cur (.entry x) ty k=some r):∃v,k v=some r/\QOK V N.P C A s cur (.entry x) ty v:=by
 simp only[zt] at h;split at h
 .rename_i j hx;split at h
  .rename_i kc vc rem e ho;cases z:V.key kc with
   |false=>rw[z] at h;cases h
   |true=>
    rw[z] at h;refine⟨_,h,λhc dst pos after guard=>?_⟩;have d:=evO2 (A:=A) (P:=N.P) a0 hc hx;simp only[SV.den] at d;cases g:A[j]? with
    |none=>rw[g] at d;exact z8m N.P d
    |some q=>
     rw[g] at d;have f:=zw V N.P (A:=A) (ps:=A) g ho;have u:∀{o:Oper}{K:VP->List HP->Prop},(q.2 = .pointer (some ⟨q.1,0,none⟩)->OpT C o (s.st V N.P A) K)->OpT C o (s.st V N.P A) K:=λh a w ro S Q hd hn hw hs=>h (hw.obj j _ f).1 a w ro S Q hd hn hw hs
     refine u λhq=>?_
     simp only[SV.den,denV,z4l];exact ye5 (eK:=V.kv kc) (E:=λy=>V.vl vc y) j (y9k z e.1).2 ⟨_,f,λ_ _ _ h=>h.2⟩ (show Ev (s.st V N.P A) x (eqv (.pointer (some ⟨q.1,0,none⟩))) by rw[<- hq];exact d)
  .cases h
 .cases h
theorem yfh[Dr](j:chP s.gb s.kn){t:TypeId}{x:Operand}{f d g:Option Operand}{ty:TypeId}{k:SV V.T->Option R}(h:zt V N s cur (.slice t x f d g) ty k=some r):∃v,k v=some r/\QOK V N.P C A s cur (.slice t x f d g) ty v:=by cases h
theorem zex[Dr](hN:z6x V N)(u:chP s.gb s.kn)(a6:GbOK s.toFm)(h1:OneA V A s.ob){o:Op}{ty:TypeId}{k:SV V.T->Option R}(h:zt V N s cur o ty k=some r):∃v,k v=some r/\QOK V N.P C A s cur o ty v:=by
 cases o with
 |move x=>
  simp only[zt] at h;split at h
  .rename_i v hv;exact⟨v,h,λhc dst pos after guard=>ylt (evO2 u hc hv)⟩
  .cases h
 |assign x=>
  simp only[zt] at h;split at h
  .rename_i v hv;exact⟨v,h,λhc dst pos after guard=>yed (evO2 u hc hv)⟩
  .cases h
 |pick c x y=>exact yeu u a6 h
 |binOp op t x y t'=>
  simp only[zt] at h;split at h
  .rename_i a b ha hb;exact yh3 h (λhc=>evO2 u hc ha) (λhc=>evO2 u hc hb)
  .cases h
 |unOp op t x=>
  cases op with
  |not=>
   simp only[zt] at h;split at h
   .rename_i b hb;exact⟨_,h,λhc dst pos after guard=>yne (evO2 u hc (zbj hb))⟩
   .cases h
  |neg=>
   simp only[zt] at h;split at h
   .rename_i i m hb;exact⟨_,h,λhc dst pos after guard=>ync (evO2 u hc (z0n hb))⟩
   .cases h
  |xor=>simp only[zt] at h;cases h
  |plus=>simp[zt] at h
 |convert a7 d x=>
  simp only[zt] at h;split at h
  .rename_i i q m hd hx;cases hb :(N.P.underlying a7).isSome with
   |false=>rw[hb] at h;cases h
   |true=>rw[hb] at h;exact⟨_,h,λhc dst pos after guard=>yln hb hd (evO2 u hc (z0n hx))⟩
  .cases h
 |load t x=>
  simp only[zt] at h;split at h
  .rename_i g n p ht hx;split at h
   .rename_i m q j hh;cases hb :(!g&&Nat.beq n 1) with
    |false=>rw[hb] at h;cases h
    |true=>rw[hb] at h;obtain⟨a4,hk⟩:=z8k h;refine⟨_,hk,λhc dst pos after guard=>?_⟩;simp only[w02,w0v] at hb;obtain⟨rfl,hn⟩:=hb;have hn:=w03 hn;subst hn;exact yi4 hh ht (a4 hc) (evO2 u hc hx)
   .split at h
    .rename_i v hv;exact⟨v,h,λhc dst pos after guard=>ymw V N.P ht hv (evO2 u hc hx)⟩
    .cases h
  .cases h
 |fieldAddr t x f=>exact ydb u h
 |indexAddr t x i=>exact y9e u h
 |slice t x lo hi mx=>exact yfh u h
 |index t x i=>exact ydn u h
 |lookup t x i ok=>exact y9p u h
 |entry x=>exact yd9 u h
 |extract x i=>
  simp only[zt] at h;split at h
  .rename_i l hx;split at h
   .rename_i v hv;refine⟨v,h,λhc dst pos after guard=>zyi (xs:=denV V N.P A l) (evO2 u hc hx) ?_⟩;have key:∀(l:List (SV V.T))(i:Nat),l[i]? = some v->(denV V N.P A l)[i]? = some (v.den V N.P A):=by
     intro l
     induction l with
     |nil=>intro i h;simp at h
     |cons y l ih=>
      intro i h;cases i with
      |zero=>simp at h;subst h;rfl
      |succ i=>simp at h;simpa[denV] using ih i h
    exact key l i hv
   .cases h
  .cases h
 |buildSlice t n parts=>
  simp only[zt] at h;split at h
  .rename_i E z a8 ht;split at h
   .rename_i l a5;cases hb :(Nat.beq z (V.sz (V.code E))&&Nat.beq l.length n&&Nat.ble (n*z) 16777216) with
    |false=>rw[hb] at h;cases h
    |true=>rw[hb] at h;simp only[w02] at hb;have e1:=w03 hb.1.1;have e2:=w03 hb.1.2;have e3:=w0s hb.2;subst e1;simp only[cond_true] at h;refine⟨_,h,λhc dst pos after guard=>?_⟩;simp only[SV.den];exact yag l ht (V.ev_len _) e2 e3 (ztx (z6k hc u) a5)
   .cases h
  .cases h
 |build t parts=>
  simp only[zt] at h;split at h
  .rename_i zs hz;cases hb :(zfk V (V.zero (V.code t)) zs&&zmy N.P t) with
   |false=>
    rw[hb] at h;simp only[cond_false] at h;cases a2 :(zs.all (·.oneCell')&&zmy N.P t) with
    |false=>rw[a2] at h;cases h
    |true=>
     rw[a2] at h;simp only[w02] at a2;simp only[cond_true] at h;split at h
     .rename_i cs hl;refine⟨_,h,λhc dst pos after guard=>?_⟩;have e1:=y1x V N.P (A:=A) zs;obtain⟨qs,hp,a0⟩:=y1i V N.P h1 (z6k hc u) hl;have a1:=zei V N.P (A:=A) (zs.map zuw);rw[e1,w0q] at a1;simp only[SV.den];rw[e1] at a0;exact yaf zs qs hz a2.1 a2.2 (a1 ▸ hp) a0
     .cases h
   |true=>
    rw[hb] at h;simp only[w02] at hb;simp only[cond_true] at h;split at h
    .rename_i cs hl;refine⟨_,h,λhc dst pos after guard=>?_⟩;obtain⟨e1,e2⟩:=zgn V N.P (A:=A) hb.1;obtain⟨qs,hp,a0⟩:=y1i V N.P h1 (z6k hc u) hl;have a1:=zei V N.P (A:=A) (fixZ V (V.zero (V.code t)));rw[e1,w0q] at a1;simp only[SV.den];rw[e1] at a0;exact yaf zs qs hz e2 hb.2 (a1 ▸ hp) a0
    .cases h
  .cases h
 |nilCheck x=>
  simp only[zt] at h;split at h
  .rename_i i o hx;refine⟨_,h,λhc dst pos after guard=>?_⟩;have a3:=evO2 (A:=A) (P:=N.P) u hc hx;simp only[SV.den] at a3⊢;cases ha:A[i]? with
   |none=>rw[ha] at a3;exact z8m N.P a3
   |some q=>rw[ha] at a3;exact y6p a3
  .cases h
 |makeFunc fn first caps=>
  cases fn with
  |func f=>
   simp only[zt] at h;cases hb:first.isEmpty with
   |false=>rw[hb] at h;cases h
   |true=>
    rw[hb] at h;simp only[cond_true] at h;split at h
    .rename_i l hl;exact⟨_,h,λhc dst pos after guard=>yam hb (y81 hc u hl)⟩
    .cases h
  |_=>simp[zt] at h
 |call c=>exact yh5 hN u h
 |_=>simp[zt] at h
end
end Px
end
section
namespace Px
open Go Go.RowKit
def AExt(A B:Asg):Prop:=∀(i:Nat)(p:Nat×Value),A[i]? = some p->B[i]? = some p
theorem AExt.refl(A:Asg):AExt A A:=λ_ _ h=>h
theorem AExt.app(A B:Asg):AExt A (A++B):=λi p h=>by rw[w0r (w04.1 h).1];exact h
section
variable(V:TE)(P:Program)
theorem zzx(l:List VP):F2 Ent l l:=F2.refl (λ_=>Ent.refl) l
theorem zse{R:VP->VP->Prop}: ∀{a b:List VP},F2 R a b->a.length=b.length/\∀(i:Nat)(B:VP),b[i]? = some B->∃A,a[i]? = some A/\R A B
 | [],[],_=>⟨rfl,λi B h=>by simp at h⟩
 |x::a,y::b,h=>by
  obtain⟨f,g⟩:=zse h.2;refine⟨by simp[f],λi B d=>?_⟩;cases i with
  |zero=>simp at d;subst d;exact⟨x,rfl,h.1⟩
  |succ i=>simpa using g i B (by simpa using d)
 | [],_::_,h=>h.elim
 |_::_,[],h=>h.elim
theorem ybn{a b:List VP}(h:F2 Ent a b):Ent (tupv a) (tupv b):=by rintro r w v ⟨vs,e,z,hh⟩;obtain⟨f,g⟩:=zse h;refine⟨vs,e,by rw[z,f],λi B u=>?_⟩;obtain⟨A,j,d⟩:=g i B u;exact d _ _ _ (hh i A j)
theorem y8v{f:Nat}{a b:List VP}(h:F2 Ent a b):Ent (fnc f a) (fnc f b):=by rintro r w v ⟨vs,e,hl,hh⟩;obtain⟨g,j⟩:=zse h;refine⟨vs,e,by rw[hl,g],λi B z=>?_⟩;obtain⟨A,u,d⟩:=j i B z;exact d _ _ _ (hh i A u)
theorem yay{a b:List VP}(h:F2 Ent a b):Ent (rop a) (rop b):=by rintro r w v ⟨f,o,e,hr,hh⟩;obtain⟨h1,g⟩:=zse h;refine⟨f,o,e,hr,λj B hB=>?_⟩;obtain⟨A,hA,d⟩:=g j B hB;obtain⟨u,z,h4,h5⟩:=hh j A hA;exact⟨u,z,d _ _ _ h4,h5⟩
theorem zky{r:Nat->Prop}{w:World}{a b:List VP}{vs:List Value}(h:F2 Ent a b)(k:zr r w a vs):zr r w b vs:=by obtain⟨f,g⟩:=zse h;refine⟨by rw[<- f];exact k.1,λj B hB=>?_⟩;obtain⟨A,hA,d⟩:=g j B hB;obtain⟨u,z,h4,h5⟩:=k.2 j A hA;exact⟨u,z,d _ _ _ h4,h5⟩
mutual
theorem z30[Dr]{A B:Asg}(h:AExt A B):∀(x:SV V.T),Ent (x.den V P A) (x.den V P B)
 | .int k n=>by simp only[SV.den];exact Ent.refl
 | .bool b=>by simp only[SV.den];exact Ent.refl
 | .str s=>by simp only[SV.den];exact Ent.refl
 | .val v=>by simp only[SV.den];exact Ent.refl
 | .arr n c f=>by simp only[SV.den];exact Ent.refl
 | .agg cs=>by simp only[SV.den];exact Ent.agg (z0x h cs).ents
 | .tup xs=>by simp only[SV.den];exact ybn (zj2 h xs)
 | .ro c l=>by simp only[SV.den];exact Ent.refl
 | .rop cs=>by simp only[SV.den];exact yay (z0x h cs)
 | .ptr i off=>by
  simp only[SV.den];cases d:A[i]? with
  |none=>exact λ_ _ _ g=>g.elim
  |some p=>rw[h i p d];exact Ent.refl
 | .own i=>by
  simp only[SV.den];cases d:A[i]? with
  |none=>exact λ_ _ _ g=>g.elim
  |some p=>rw[h i p d];exact Ent.refl
 | .elt i k z fo=>by
  simp only[SV.den];cases d:A[i]? with
  |none=>exact λ_ _ _ g=>g.elim
  |some p=>rw[h i p d];exact Ent.refl
 | .pta i off n z u j fo=>by
  simp only[SV.den];cases d:A[i]? with
  |none=>exact λ_ _ _ g=>g.elim
  |some p=>rw[h i p d];exact Ent.refl
 | .prt i lo hi z=>by
  simp only[SV.den];cases d:A[i]? with
  |none=>exact λ_ _ _ g=>g.elim
  |some p=>rw[h i p d];exact Ent.refl
 | .und=>by simp only[SV.den];exact Ent.refl
 | .func f caps=>by simp only[SV.den];exact y8v (zj2 h caps)
 | .rom kc vc m=>by simp only[SV.den];exact Ent.refl
 | .cmp c f=>by simp only[SV.den];exact Ent.refl
 | .top=>by simp only[SV.den];exact Ent.refl
theorem z0x[Dr]{A B:Asg}(h:AExt A B):∀(l:List (SV V.T)),F2 Ent (denL V P A l) (denL V P B l)
 | []=>trivial
 | .arr n c f::l=>by simp only[denL];exact(zzx _).append (z0x h l)
 | .int k n::l=>by simp only[denL];exact⟨z30 h (.int k n),z0x h l⟩
 | .bool b::l=>by simp only[denL];exact⟨z30 h (.bool b),z0x h l⟩
 | .str b::l=>by simp only[denL];exact⟨z30 h (.str b),z0x h l⟩
 | .val b::l=>by simp only[denL];exact⟨z30 h (.val b),z0x h l⟩
 | .agg b::l=>by simp only[denL];exact⟨z30 h (.agg b),z0x h l⟩
 | .tup b::l=>by simp only[denL];exact⟨z30 h (.tup b),z0x h l⟩
 | .ro c b::l=>by simp only[denL];exact⟨z30 h (.ro c b),z0x h l⟩
 | .rop b::l=>by simp only[denL];exact⟨z30 h (.rop b),z0x h l⟩
 | .ptr i o::l=>by simp only[denL];exact⟨z30 h (.ptr i o),z0x h l⟩
 | .own i::l=>by simp only[denL];exact⟨z30 h (.own i),z0x h l⟩
 | .elt i k z fo::l=>by simp only[denL];exact⟨z30 h (.elt i k z fo),z0x h l⟩
 | .pta i o n z x c fo::l=>by simp only[denL];exact⟨z30 h (.pta i o n z x c fo),z0x h l⟩
 | .prt i g d z::l=>by simp only[denL];exact⟨z30 h (.prt i g d z),z0x h l⟩
 | .und::l=>by simp only[denL];exact⟨z30 h .und,z0x h l⟩
 | .func f caps::l=>by simp only[denL];exact⟨z30 h (.func f caps),z0x h l⟩
 | .rom a b m::l=>by simp only[denL];exact⟨z30 h (.rom a b m),z0x h l⟩
 | .cmp c f::l=>by simp only[denL];exact⟨z30 h (.cmp c f),z0x h l⟩
 | .top::l=>by simp only[denL];exact⟨z30 h .top,z0x h l⟩
theorem zj2[Dr]{A B:Asg}(h:AExt A B):∀(l:List (SV V.T)),F2 Ent (denV V P A l) (denV V P B l)
 | []=>trivial
 |x::l=>by simp only[denV];exact⟨z30 h x,zj2 h l⟩
end
theorem yhi{c:Prop}{x y:VP}(h:Ent x y):Ent (cnd c x) (cnd c y):=λr w v d=>⟨λf=>h _ _ _ (d.1 f),d.2⟩
theorem zoh[Dr]{A B:Asg}(h:AExt A B){gb:List (Nat×Bool)}(e:Ch×SV V.T):Ent (denE V P A gb e) (denE V P B gb e):=by
 unfold denE;obtain⟨ch,x⟩:=e;cases ch with
 |nil=>exact z30 V P h x
 |cons a l=>exact yhi (z30 V P h x)
theorem zhe[Dr]{A B:Asg}(h:AExt A B){gb:List (Nat×Bool)}{sl:Sls V.T}{a:Act}{ro:Nat->Prop}{w:World}(g:zj (slD V P A gb sl) a ro w):zj (slD V P B gb sl) a ro w:=by
 intro t X d;simp only[slD] at d;cases f:lk sl t with
 |none=>rw[f] at d;cases d
 |some e=>rw[f] at d;simp only[w0z,w01] at d;subst d;exact zoh V P h e _ _ _ (g t _ (by simp[slD,f]))
def ObW[Dr](objs O:List HP):Prop:=∀w0 base r S w,WInv w0 base objs r S w->∃S',WInv w0 base O r S' w
theorem ObW.refl[Dr]{O:List HP}: ObW O O:=λ_ _ _ S _ h=>⟨S,h⟩
theorem ObW.trans[Dr]{a b c:List HP}(h:ObW a b)(k:ObW b c):ObW a c:=λw0 base r S w g=>let ⟨d,f⟩:=h w0 base r S w g;k w0 base r d w f
theorem ObW.le[Dr]{a b:List HP}(h:z7y a b):ObW a b:=λ_ _ _ _ _ d=>⟨_,d.le h⟩
theorem zic:∀(l:List HP),z7y l l
 | []=>trivial
 |_::l=>⟨EntH.refl,zic l⟩
theorem ze1{H H2:HP}(h:EntH H H2):∀(l:List HP)(i:Nat),z7y (l.set i H) (l.set i H2)
 | [],_=>trivial
 |_::l,0=>⟨h,zic l⟩
 |_::l,i+1=>⟨EntH.refl,ze1 h l i⟩
theorem zib:∀{l m:List HP},z7y l m->∀(i:Nat)(H:HP),z7y (l.set i H) (m.set i H)
 |l,[],_,i,H=>by simp[z7y]
 |_::l,_::m,h,0,H=>⟨EntH.refl,h.2⟩
 |_::l,_::m,h,i+1,H=>⟨h.1,zib h.2 i H⟩
 | [],_::_,h,_,_=>h.elim
theorem y5e:∀{l:List HP}{i:Nat}{H:HP},l[i]? = some H->l.set i H=l
 |_::_,0,_,h=>by simp at h;subst h;rfl
 |_::l,i+1,_,h=>by simp only[w3v];rw[y5e (by simpa using h)]
 | [],_,_,h=>by simp at h
theorem ObW.set'[Dr]{d:List HP}{i:Nat}{H H2:HP}(g:d[i]? = some H)(h:EntH H H2):ObW d (d.set i H2):=by have f:=ze1 h d i;rw[y5e g] at f;exact ObW.le f
theorem OpT.weak[Dr]{P:Program}{C:Cx P}{o:Oper}{s s':St}{K:VP->List HP->Prop}(hs:∀a ro w,zj s.slots a ro w->zj s'.slots a ro w)(z:ObW s.objs s'.objs)(h:OpT C o s' K):OpT C o s K:=by intro a w ro S Q j u hw d;obtain⟨g,f⟩:=z _ _ _ _ _ hw;exact h a w ro g Q j u f (hs a ro w d)
theorem ObW.mv[Dr]{d:List HP}{i:Nat}{H:HP}(hi:d[i]? = some H):ObW d (d.set i emp++[H]):=by
 intro w0 base r S w h;have a2:i<d.length:=(w04.1 hi).1;refine⟨λk b=>(k=d.length/\S i b)\/(k<d.length/\k≠i/\S k b),h.below,h.size,?_,?_,?_,h.old⟩
 .intro k K f;by_cases g:k<d.length
  .rw[w0r (by simpa using g)] at f;by_cases e:k=i
   .subst e;rw[w1v g] at f;simp only[w01] at f;subst f;trivial
   .rw[w2b (λh=>e h.symm)] at f;have :(λb=>(k=d.length/\S i b)\/(k<d.length/\k≠i/\S k b))=S k:=by
     funext b;have:¬k=d.length:=by omega
     simp[this,g,e]
    rw[this];exact h.obj k K f
  .rw[w18 (by simpa using g)] at f;have e:k=d.length:=by have:=(w04.1 f).1;simp at this;omega
   subst e;simp at f;subst f;have :(λb=>(d.length=d.length/\S i b)\/(d.length<d.length/\d.length≠i/\S d.length b))=S i:=by funext b;simp
   rw[this];exact h.obj i _ hi
 .rintro k b (⟨rfl,j⟩|⟨f,_,j⟩)
  .obtain⟨_,z,h3,h4⟩:=h.own i b j;exact⟨by simp,z,h3,h4⟩
  .obtain⟨_,z,h3,h4⟩:=h.own k b j;exact⟨by simp;omega,z,h3,h4⟩
 .rintro k l b (⟨rfl,j⟩|⟨f,a0,j⟩) (⟨rfl,u⟩|⟨hl,a1,u⟩)
  .rfl
  .exact absurd (h.apart l i b u j) a1
  .exact absurd (h.apart k i b j u) a0
  .exact h.apart k l b j u
theorem yi5[Dr]{A B:Asg}(h:AExt A B)(p:Nat×Value)(o:SO V.T):EntH (o.den V P A p) (o.den V P B p):=by
 cases o with
 |box t cs=>exact λS r w ⟨z,cur,hc,hh⟩=>⟨z,cur,hc,zky (z0x V P h cs) hh⟩
 |row E c l=>exact EntH.refl
 |x o=>
  cases o with
  |map kc vc E m hh=>
   rintro S r w ⟨f,u⟩;have e:zby A hh=zby B hh:=by
    cases hh with
    |none=>rfl
    |some kj=>obtain⟨q,d⟩:=w19.1 (f.2 _ _ rfl);simp only[zby,d,h _ _ d]
   refine⟨⟨f.1,λk j g=>?_⟩,by rw[<- e];exact u⟩;obtain⟨q,d⟩:=w19.1 (f.2 k j g);rw[h _ _ d];rfl
  |it kc vc rem cur=>exact EntH.refl
  |fix E c l=>exact EntH.refl
  |nst E E2 c l hh=>
   rintro S r w ⟨f,u⟩;have e:zg4 A hh=zg4 B hh:=by
    cases hh with
    |none=>rfl
    |some kj=>obtain⟨q,d⟩:=w19.1 (f.2 _ _ rfl);simp only[zg4,d,h _ _ d]
   refine⟨⟨f.1,λk j g=>?_⟩,by rw[<- e];exact u⟩;obtain⟨q,d⟩:=w19.1 (f.2 k j g);rw[h _ _ d];rfl
 |emp=>exact EntH.refl
theorem zo0[Dr]{A B:Asg}(h:AExt A B):∀(ps:Asg)(os:List (SO V.T)),z7y (obD V P A ps os) (obD V P B ps os)
 | [],os=>trivial
 |p::ps,[]=>trivial
 |p::ps,o::os=>⟨yi5 V P h p o,zo0 h ps os⟩
theorem zeu[Dr]{A:Asg}: ∀(ps:Asg)(os:List (SO V.T)),ps.length=os.length->(obD V P A ps os).length=os.length
 | [],[],_=>rfl
 |p::ps,o::os,h=>by simp only[obD,w0o];rw[zeu ps os (by simpa using h)]
 | [],_::_,h=>by simp at h
 |_::_,[],h=>by simp at h
theorem zut[Dr]{A:Asg}: ∀(ps:Asg)(os:List (SO V.T))(d:Asg)(us:List (SO V.T)),ps.length=os.length->obD V P A (ps++d) (os++us)=obD V P A ps os++obD V P A d us
 | [],[],_,_,_=>rfl
 |p::ps,o::os,d,us,h=>by simp only[w2j,obD];rw[zut ps os d us (by simpa using h)]
 | [],_::_,_,_,h=>by simp at h
 |_::_,[],_,_,h=>by simp at h
theorem z6f[Dr]{A:Asg}: ∀(ps:Asg)(os:List (SO V.T))(i:Nat)(p:Nat×Value)(o:SO V.T),ps[i]? = some p->obD V P A ps (os.set i o) =(obD V P A ps os).set i (o.den V P A p)
 | [],os,i,p,o,h=>by simp at h
 |q::ps,[],i,p,o,h=>by cases i<;>simp[obD]
 |q::ps,u::os,0,p,o,h=>by simp at h;subst h;rfl
 |q::ps,u::os,i+1,p,o,h=>by simp only[w3v,obD];rw[z6f ps os i p o (by simpa using h)]
structure GA where
 act:Act
 lp:Option (Nat×Loop×Nat×Nat)
def GA.lpI(g:GA):Option (Nat×Nat):=match g.lp with
 |some (_,rec,q)=>match rec.state with
  | .ready=>some q
  |_=>none
 |none=>none
def GA.tm(g:GA):Act:=match g.lp with
 |none=>g.act
 |some (L,_)=>{ g.act with tmps:=g.act.tmps.push (.func (.yield L) #[] #[]) }
def LpOK(P:Program)(x:Nat×Loop×Nat×Nat)(a:Act):Prop:=x.2.1.tmps=a.tmps/\x.2.1.pending=none/\∃g,rfAt P x.2.2.1 x.2.2.2=some (g,x.2.1.params,x.2.1.assign,x.2.1.body)
def mkD(D:Nat):Deferred:={ target:=.collected D,args:=#[] }
def mks(a:Act)(gs:List GA):List Deferred:=a.defers++gs.flatMap (·.act.defers)
theorem y4i{a d:Act}{f:List GA}(h:d.defers=a.defers):mks a f=mks d f:=by unfold mks;rw[h]
def lps(gs:List GA):List (Nat×Loop×Nat×Nat):=gs.filterMap (·.lp)
structure Mk(r0 ro:Nat->Prop)(w:World)(l:List Deferred)(ps:List (Nat×Loop×Nat×Nat)):Prop where
 df:∃Ds:List Nat,l=Ds.map mkD/\Ds.Nodup/\∀D∈Ds,ro D/\¬r0 D/\w.heap[D]? = some (.deferred (some []))
 lp :(ps.map (·.1)).Nodup/\∀p∈ps,ro p.1/\¬r0 p.1/\w.heap[p.1]? = some (.loop p.2.1)
structure EvM(B:Nat)(r0:Nat->Prop)(wI:World)(l:List Deferred)(ps:List (Nat×Loop×Nat×Nat))(ro:Nat->Prop)(w:World):Prop where
 ev:Evo B r0 wI ro w
 bk:Mk r0 ro w l ps
theorem EvM.trans{B:Nat}{r0 ro d:Nat->Prop}{wI w w':World}{l:List Deferred}{ps:List (Nat×Loop×Nat×Nat)}(h:EvM B r0 wI l ps ro w)(k:Evo B ro w d w'):EvM B r0 wI l ps d w':=by obtain⟨Ds,f,g,j⟩:=h.bk.df;exact⟨h.ev.trans k,⟨Ds,f,g,λD u=>let ⟨a,b,c⟩:=j D u;⟨k.1 D a,b,(k.2.1 D a).trans c⟩⟩,h.bk.lp.1,λp z=>let ⟨a,b,c⟩:=h.bk.lp.2 p z;⟨k.1 _ a,b,(k.2.1 _ a).trans c⟩⟩
theorem EvM.up{B:Nat}{r0 ro d:Nat->Prop}{wI w:World}{l:List Deferred}{ps:List (Nat×Loop×Nat×Nat)}(h:EvM B r0 wI l ps ro w)(e:Evo B r0 wI d w)(f:∀b,ro b->d b):EvM B r0 wI l ps d w:=by obtain⟨Ds,g,j,u⟩:=h.bk.df;exact⟨e,⟨Ds,g,j,λD z=>let ⟨a,b,c⟩:=u D z;⟨f D a,b,c⟩⟩,h.bk.lp.1,λp hp=>let ⟨a,b,c⟩:=h.bk.lp.2 p hp;⟨f _ a,b,c⟩⟩
def Stk[Dr](A:Asg)(ro:Nat->Prop)(w:World):List (Fm V.T)->List GA->Prop
 | [],[]=>True
 |f::fs,a::as=>(zj (slD V P A f.gb f.sl) a.tm ro w/\chP f.gb f.kn/\GbOK f/\(∀x,a.lp=some x->LpOK P x a.act)/\a.tm.tmps.size=f.n)/\Stk A ro w fs as
 |_,_=>False
variable{V P}
theorem Stk.ext[Dr]{A B:Asg}(g:AExt A B){d:Nat}{ro j:Nat->Prop}{w w':World}(u:Evo d ro w j w'):∀{fs:List (Fm V.T)}{as:List GA},Stk V P A ro w fs as->Stk V P B j w' fs as
 | [],[],_=>trivial
 |f::fs,a::as,h=>⟨⟨zhe V P g (h.1.1.evo u),h.1.2⟩,Stk.ext g u h.2⟩
 | [],_::_,h=>h.elim
 |_::_,[],h=>h.elim
variable(V)
def SatS[Dr](C:Cx P)(acts:List GA)(s:SS V.T)(a:Act)(w:World):Prop:=
 True/\a.tmps.size=s.n/\chP s.gb s.kn/\GbOK s.toFm/\∃A ro S,A.length=s.ob.length/\WInv C.w0 C.base (obD V P A A s.ob) ro S w/\EvM C.base C.r0 C.wI (mks a acts) (lps acts) ro w/\
  zj (slD V P A s.gb s.sl) a ro w/\Stk V P A ro w s.stk acts
end
end Px
end
section
namespace Px
open Go Go.RowKit
section
variable{V:TE}{N:Env V}{R:Type}{r:R}{C:Cx N.P}{A:Asg}{s:SS V.T}
def LOK[Dr](V:TE)(P:Program){R:Type}(r:R)(A:Asg)(s:SS V.T)(k:SV V.T->SS V.T->Option R)(x:VP)(objs:List HP):Prop:=∃(B:Asg)(ob':List (SO V.T))(v:SV V.T),k v { s with ob:=ob' } = some r/\(A++B).length=ob'.length/\Ent x (v.den V P (A++B))/\ObW objs (obD V P (A++B) (A++B) ob')
theorem zd4(A:Asg)(b:Nat×Value)(n:Nat)(h:A.length=n):(A++[b])[n]? = some b:=by subst h;simp
theorem z7y.app:∀{a b c d:List HP},a.length=b.length->z7y a b->z7y c d->z7y (a++c) (b++d)
 | [],[],_,_,_,_,h=>h
 |x::a,y::b,c,d,f,h,k=>⟨h.1,z7y.app (by simpa using f) h.2 k⟩
 | [],_::_,_,_,f,_,_=>by simp at f
 |_::_,[],_,_,f,_,_=>by simp at f
theorem z6g[Dr]{P:Program}{A B:Asg}{ob:List (SO V.T)}(d:A.length=ob.length){H:List HP}{us:List (SO V.T)}(f:z7y H (obD V P (A++B) B us)):ObW (obD V P A A ob++H) (obD V P (A++B) (A++B) (ob++us)):=by rw[zut V P A ob B us d];refine ObW.le (z7y.app ?_ (zo0 V P (AExt.app A B) A ob) f);rw[zeu V P A ob d,zeu V P A ob d]
theorem ce2[Dr]{P:Program}{A:Asg}(d:chP s.gb s.kn)(f:OneA V A s.ob){o:Operand}{x:SV V.T}(h:evO s.sl s.kn o=some x)(g:storable V s.ob x=true):Ce (s.st V P A) o (denL V P A (cellsOf x)):=ykd V P f g (z1t V P h d)
theorem ykc[Dr](f:A.length=s.ob.length)(d:chP s.gb s.kn)(j:OneA V A s.ob){t ty:TypeId}{x:Operand}{k:SV V.T->SS V.T->Option R}(h:z5m V N s (.box t x) ty k=some r)(dst pos after guard):
  OpT C ⟨dst,.box t x,ty,pos,after,guard⟩ (s.st V N.P A) (LOK V N.P r A s k):=by
 simp only[z5m] at h;split at h
 .rename_i v hv;cases g:storable V s.ob v with
  |false=>rw[g] at h;cases h
  |true=>
   rw[g] at h;simp only[cond_true] at h;refine ymz (ce2 d j hv g) λb=>⟨[(b,undef)],_,_,h,by simp[f],?_,?_⟩
   .simp only[SV.den,zd4 A _ _ f];exact Ent.refl
   .refine z6g f (us:=[.box t (cellsOf v)]) ⟨?_,trivial⟩;exact λS r w ⟨u,cur,z,hh⟩=>⟨u,cur,z,zky (z0x V N.P (AExt.app A _) _) hh⟩
 .cases h
theorem yc9[Dr](d:A.length=s.ob.length){t ty:TypeId}{k:SV V.T->SS V.T->Option R}(h:z5m V N s (.alloc t) ty k=some r)(dst pos after guard):
  OpT C ⟨dst,.alloc t,ty,pos,after,guard⟩ (s.st V N.P A) (LOK V N.P r A s k):=by
 simp only[z5m] at h;split at h
 .rename_i zs j;cases f:zfk V (V.zero (V.code t)) zs with
  |false=>
   rw[f] at h;simp only[cond_false] at h;cases g:zs.all (·.oneCell') with
   |false=>rw[g] at h;cases h
   |true=>
    rw[g] at h;simp only[cond_true] at h;refine yae zs j g λb=>⟨[(b,undef)],_,_,h,by simp[d],?_,?_⟩
    .simp only[SV.den,zd4 A _ _ d];exact Ent.refl
    .refine z6g d (us:=[.box t (zs.map zuw)]) ⟨?_,trivial⟩;simp only[SO.den];rw[y1x V N.P zs];exact EntH.refl
  |true=>
   rw[f] at h;simp only[cond_true] at h;obtain⟨_,u⟩:=zgn V N.P (A:=A) f;refine yae zs j u λb=>⟨[(b,undef)],_,_,h,by simp[d],?_,?_⟩
   .simp only[SV.den,zd4 A _ _ d];exact Ent.refl
   .refine z6g d (us:=[.box t (fixZ V (V.zero (V.code t)))]) ⟨?_,trivial⟩;simp only[SO.den];rw[(zgn V N.P (A:=A++[(b,undef)]) f).1];exact EntH.refl
 .cases h
theorem y4p[Dr]{P:Program}{C:Cx P}{s:St}{pos:String}{after:Array Edge}{guard:Option (Nat×Bool)}{ty:TypeId}{K:VP->List HP->Prop}(i:Nat){t T:TypeId}{g:Bool}{n b off:Nat}{x y:Operand}{d cs out:List VP}(z:z5n P t=some (g,n))(hx:Ev s x (eqv (.pointer (some ⟨b,off,none⟩))))(hy:Ce s y cs)(u:s.objs[i]? = some (box b T d))
  (j:cs.length=n) (h:off+n<=d.length) (f:d.take off++cs++d.drop (off+n)=out)
  (k:K topv (s.objs.set i (box b T out))):OpT C ⟨none,.store t x y,ty,pos,after,guard⟩ s K:=yj7 i z hx hy u j h f k
theorem zck[Dr]{P:Program}{s:St}{x:Operand}{C:Cx P}{o:Oper}{K:VP->List HP->Prop}(h:Ev s x nov):OpT C o s K:=λa w r S Q f g j d=>(h a r w d).elim
theorem z11{α:Type}(l:List α)(i:Int)(x:α):(zo l i x).length=l.length:=by simp[zo]
theorem OpT.pure[Dr]{P:Program}{C:Cx P}{o:Oper}{s:St}{K:VP->List HP->Prop}{x:Operand}{F:Prop}{u:Value}(f:Ev s x ⟨λ_ _ v=>F/\v=u,λ_ _ h=>h⟩)(h:F->Ev s x (eqv u)->OpT C o s K):OpT C o s K:=λa w ro S Q g j z d=>h (f a ro w d).1 (λa ro w d=>(f a ro w d).2) a w ro S Q g j z d
theorem y1r{E cs:List VP}{o sz:Nat}(L M:List VP)(fo n:Nat)(h:L.drop o=E++M)(g:E.length=sz)(z:fo+n<=sz)(u:cs.length=n):
  L.take (o+fo)++cs++L.drop (o+fo+n)=L.take o++(E.take fo++cs++E.drop (fo+n))++L.drop (o+sz):=by
 have j:L.drop (o+sz)=M:=by rw[<- w3o,h,List.drop_left' g]
 have d:L.take (o+fo)=L.take o++E.take fo:=by rw[List.take_add,h,w2k (by omega)]
 have f:L.drop (o+fo+n)=E.drop (fo+n)++M:=by rw[w2v,<- w3o,h,w2s (by omega)]
 rw[d,f,j];simp only[w0m]
theorem ycb{V:TE}{pre post:List VP}{m c d off:Nat}{f:Nat->V.T c}(u:pre.length=off)(g:d+1<=m):
  (pre++Px.arr m (V.ev c) f++post).drop (off+d*V.sz c)=V.ev c (f d)++(pre++Px.arr m (V.ev c) f++post).drop (off+d*V.sz c+V.sz c):=by
 have h:=zwt (N:=m) (k:=d) (f:=f) (V.ev_len c) g;have z:=zi4 (N:=m) (f:=f) (V.ev_len c);have j :(d+1)*V.sz c<=m*V.sz c:=w1p _ g;rw[w1s] at j;have:=w2l (V.sz c) ((pre++Px.arr m (V.ev c) f++post).drop (off+d*V.sz c));rw[<- this,w3o];congr 1;rw[<- h,w0m,w5j,List.drop_eq_nil_of_le (as:=pre) (by omega),w1z,u,w3t,w2s (by omega),w2k (by rw[w5k];omega)]
theorem yfj[Dr](hl:A.length=s.ob.length)(aj:chP s.gb s.kn)(h1:OneA V A s.ob){t ty:TypeId}{a x:Operand}{k:SV V.T->SS V.T->Option R}(h:z5m V N s (.store t a x) ty k=some r)(pos after guard):
  OpT C ⟨none,.store t a x,ty,pos,after,guard⟩ (s.st V N.P A) (LOK V N.P r A s k):=by
 simp only[z5m] at h;split at h
 .rename_i g n p v ht hp hv;have d:=z1t V N.P (A:=A) hp aj;have a5:=z1t V N.P (A:=A) hv aj
  have fin:∀(i:Nat)(q:Nat×Value)(o':SO V.T)(H:HP),A[i]? = some q->i<s.ob.length->EntH H (o'.den V N.P A q)->k .top (updO V s i o')=some r->LOK V N.P r A s k topv ((s.st V N.P A).objs.set i H):=by
   intro i q o' H u hi hH hk;refine⟨[],s.ob.set i o',.top,hk,by simp[hl],Ent.refl,?_⟩;rw[w0e,z6f V N.P A s.ob i q o' u];refine ObW.le ?_;have key:∀(l:List HP)(i:Nat),z7y (l.set i H) (l.set i (o'.den V N.P A q)):=by
    intro l
    induction l with
    |nil=>intro i;trivial
    |cons y l ih=>
     intro i;cases i with
     |zero=>exact⟨hH,by induction l with|nil=>trivial|cons z l av=>exact⟨EntH.refl,av (λi=>(ih (i+1)).2)⟩⟩
     |succ i=>exact⟨EntH.refl,ih i⟩
   exact key _ i
  cases p with
  |ptr i off=>
   simp only[stoX] at h;split at h
   .rename_i T cs ho;cases hs :(storable V s.ob v&&Nat.beq n (clen V (cellsOf v))) with
    |false=>rw[hs] at h;cases h
    |true=>
     rw[hs] at h;simp only[w02] at hs;have en:=w03 hs.2;simp only[cond_true] at h;split at h
     .rename_i ad a6;obtain⟨e,a1⟩:=zqy V N.P (A:=A) a6;simp only[SV.den] at d;cases u:A[i]? with
      |none=>rw[u] at d;exact zck d
      |some q=>rw[u] at d;refine y4p i ht d (ce2 aj h1 hv hs.1) (zw V N.P u ho) (by rw[zei];exact en.symm) a1 rfl ?_;exact fin i q (.box T ad) _ u (w04.1 ho).1 (by simp only[SO.den,e];exact EntH.refl) h
     .cases h
   .cases h
  |pta i off m z ae ap fo=>
   simp only[stoX] at h;split at h
   .rename_i T cs y ho hy;split at h
    .rename_i pre m' c f post ao aq;cases hb :(Nat.beq m m'&&Nat.beq z (V.sz c)&&Nat.beq ap 1&&Nat.beq n (V.sz (V.code t))) with
     |false=>rw[hb] at h;cases h
     |true=>
      rw[hb] at h;simp only[w02] at hb;have e1:=w03 hb.1.1.1;have e2:=w03 hb.1.1.2;have e3:=w03 hb.1.2;have e4:=w03 hb.2;subst e1;subst e2;subst e3;simp only[cond_true] at h;split at h
      .rename_i ad a6;split at h
       .rename_i y' ab;obtain⟨e,a1⟩:=zqy V N.P (A:=A) a6;have e5:=zzy (zfx (P:=N.P) (A:=A) (R:=Eq) zt2 zt3 (λ_=>rfl) (λ_ _ _ h=>zt1 h) ab);rw[e,z2g,z2g] at e5;rw[z2g,V.ev_len] at a1;obtain⟨p1,_⟩:=ziy V N.P (A:=A) cs off pre ao;obtain⟨p2,p3⟩:=zd5 V N.P (A:=A) cs off _ aq;have hsplit:denL V N.P A cs=denL V N.P A pre++Px.arr m (V.ev c) f++denL V N.P A post:=by have:=w2l off (denL V N.P A cs);rw[<- p1,<- p2] at this;simpa only[denL,w0m] using this.symm
        have am :(denL V N.P A pre).length=off:=by rw[p1,w1e];omega
        simp only[SV.den] at d;cases u:A[i]? with
        |none=>rw[u] at d;exact zck d
        |some q=>
         rw[u] at d;have a2:=zw V N.P (A:=A) (ps:=A) u ho;simp only[SO.den] at a2;have a8:Ce (s.st V N.P A) x (V.ev (V.code t) y):=yct (Ev.ent' a5 (z6y V N.P hy));refine OpT.pure d λak ar=>?_
         rw[hsplit] at a2;refine y4p (out:=denL V N.P A pre++Px.arr m (V.ev c) (upd f ae y')++denL V N.P A post) i ht ar a8 a2 (by rw[V.ev_len];exact e4.symm) ?_ ?_ ?_
         .have h3:=zi4 (N:=m) (f:=f) (V.ev_len c);have h4 :(ae+1)*V.sz c<=m*V.sz c:=w1p _ ak;rw[w1s] at h4;simp only[w0h,h3,am];omega
         .rw[<- zsg (y:=y') (off:=off+ae*V.sz c) (n:=V.sz c) (V.ev_len c) (by rw[am]) ak rfl rfl,<- e5];exact y1r _ _ fo n (ycb am ak) (V.ev_len c _) (by omega) (by rw[V.ev_len];exact e4.symm)
         .refine fin i q (.box T (pre++.arr m c (upd f ae y')::post)) _ u (w04.1 ho).1 ?_ h;simp only[SO.den,z2k,denL,w0m];exact EntH.refl
       .cases h
      .cases h
    .cases h
   .cases h
  |elt i j z fo=>
   simp only[stoX] at h;split at h
   .rename_i E E2 c l hh ho;split at h
    .rename_i qq;cases hb :(Nat.beq z 1&&Nat.beq fo 0&&Nat.beq n 1&&oneS V s.ob (.own qq)) with
     |false=>rw[hb] at h;cases h
     |true=>
      rw[hb] at h;simp only[cond_true] at h;simp only[w02] at hb;have e1:=w03 hb.1.1.1;have e2:=w03 hb.1.1.2;have e3:=w03 hb.1.2;have a9:=(yad V N.P h1 hb.2).1;subst e1;subst e2;subst e3;simp only[SV.den] at d a5 a9;cases u:A[i]? with
      |none=>rw[u] at d;exact zck d
      |some q=>
       cases hq:A[qq]? with
       |none=>rw[hq] at a5;exact zck a5
       |some p=>
        rw[u] at d;rw[hq] at a5 a9;refine yge u ho λa7=>?_
        have main:k .top (updO V s i (.x (.nst E E2 c l (some (j,qq)))))=some r->(∀p,zg4 A hh=some p->p.1=j.toNat)->
          OpT C ⟨none,.store t a x,ty,pos,after,guard⟩ (s.st V N.P A) (LOK V N.P r A s k):=by
         intro hk ah;refine OpT.weak (s':=⟨(s.st V N.P A).slots,(s.st V N.P A).objs.set i (nst E (V.inn E2 c) l (zg4 A hh) q.2)⟩) (λ_ _ _ h=>h) (ObW.set' (zw V N.P u ho) λS r w h=>h.2) ?_;have ai:i<(s.st V N.P A).objs.length:=(w04.1 (zw V N.P (A:=A) (ps:=A) u ho)).1;have ag :((s.st V N.P A).objs.set i (nst E (V.inn E2 c) l (zg4 A hh) q.2))[i]? = some (nst E (V.inn E2 c) l (zg4 A hh) q.2):=by rw[w1v ai]
         intro aa w ro S Q hd hn hw a4;obtain⟨g',n',ac,h3,h4,h5,h6⟩:=d aa ro w a4;have a3:n'=l.length:=by
          obtain⟨vs,S0,Sk,au,h7,_⟩:=hw.obj i _ ag;rcases h7 with⟨hx,_⟩|⟨g2,af,cur,a0,_⟩
          .rw[h3] at hx;cases hx
          .rw[h3] at a0;simp only[Value.slice.injEq] at a0;rw[<- au];exact a0.2.1
         subst a3;refine ybj (s:=⟨(s.st V N.P A).slots,(s.st V N.P A).objs.set i (nst E (V.inn E2 c) l (zg4 A hh) q.2)⟩) (v:=p.2) (l:=l) i ht (k:=j.toNat) (Ev.ent' d ?_) (Ce.one a5 a9) ag ah (by omega) ?_ aa w ro S Q hd hn hw a4
         .rintro r w v ⟨g,n,ac,h1,h2,_⟩;exact⟨g,n,ac,h1,by simpa using h2⟩
         .rw[w3g];refine fin i q (.x (.nst E E2 c l (some (j,qq)))) _ u (w04.1 ho).1 ?_ hk;refine λS r w h=>⟨⟨a7.1,λk2 j2 e2=>?_⟩,?_⟩
          .simp only[w01,w0k] at e2;rw[<- e2.2,hq];rfl
          .simp only[zg4,hq];exact h
        cases hh with
        |none=>exact main h (λp hp=>by cases hp)
        |some jj=>obtain⟨rfl,hk⟩:=zef h;exact main hk (λp hp=>by simp only[zg4,w01] at hp;rw[<- hp])
    .cases h
   .rename_i E c l ho;split at h
    rotate_left
    .cases h
    rename_i y hy;cases hb :(Nat.beq z (V.sz c)&&Nat.beq n (V.sz (V.code t))) with
    |false=>rw[hb] at h;cases h
    |true=>
     rw[hb] at h;simp only[w02] at hb;have e1:=w03 hb.1;have e4:=w03 hb.2;subst e1;simp only[cond_true] at h;split at h
     .rename_i ad a6;split at h
      .rename_i y' ab;obtain⟨e,a1⟩:=zqy V N.P (A:=A) a6;have e5:=zzy (zfx (P:=N.P) (A:=A) (R:=Eq) zt2 zt3 (λ_=>rfl) (λ_ _ _ h=>zt1 h) ab);rw[e,z2g,z2g] at e5;rw[z2g,V.ev_len] at a1;simp only[SV.den] at d;cases u:A[i]? with
       |none=>rw[u] at d;exact zck d
       |some q=>
        rw[u] at d;have a2:=zw V N.P (A:=A) (ps:=A) u ho;have a8:Ce (s.st V N.P A) x (V.ev (V.code t) y):=yct (Ev.ent' a5 (z6y V N.P hy));intro aa w ro S Q hd hn hw a4;obtain⟨g',n',ac,h3,_,h5,h6⟩:=d aa ro w a4;have a3:n'=l.length:=by
         rcases hw.obj i _ a2 with⟨hx,_⟩|⟨g2,af,cur,a0,_⟩
         .rw[h3] at hx;cases hx
         .rw[h3] at a0;simp only[Value.slice.injEq] at a0;exact a0.2.1
        subst a3;refine y4q (k:=j.toNat) (fo:=fo) (z:=gtz (V.z c) l j) (z':=y') i (V.ev_len c) ht (Ev.ent' d zty) a8 a2 (by rw[V.ev_len];exact e4.symm) rfl (zgw ⟨h5,h6⟩) a1 (by rw[<- e4] at *;exact e5.symm) ?_ aa w ro S Q hd hn hw a4;exact fin i q (.row E c (zo l j y')) _ u (w04.1 ho).1 EntH.refl h
      .cases h
     .cases h
   .rename_i E c l ho;split at h
    rotate_left
    .cases h
    rename_i y hy;cases hb :(Nat.beq z (V.sz c)&&Nat.beq n (V.sz (V.code t))) with
    |false=>rw[hb] at h;cases h
    |true=>
     rw[hb] at h;simp only[w02] at hb;have e1:=w03 hb.1;have e4:=w03 hb.2;subst e1;simp only[cond_true] at h;split at h
     .rename_i ad a6;split at h
      .rename_i y' ab;obtain⟨e,a1⟩:=zqy V N.P (A:=A) a6;have e5:=zzy (zfx (P:=N.P) (A:=A) (R:=Eq) zt2 zt3 (λ_=>rfl) (λ_ _ _ h=>zt1 h) ab);rw[e,z2g,z2g] at e5;rw[z2g,V.ev_len] at a1;simp only[SV.den] at d;cases u:A[i]? with
       |none=>rw[u] at d;exact zck d
       |some q=>
        rw[u] at d;refine yku u ho λa7=>?_
        refine OpT.weak (s':=⟨(s.st V N.P A).slots,(s.st V N.P A).objs.set i (row E (V.ev c) (V.sz c) l q.2)⟩) (λ_ _ _ h=>h) (ObW.set' (zw V N.P u ho) λS r w h=>h.2) ?_;have ai:i<(s.st V N.P A).objs.length:=(w04.1 (zw V N.P (A:=A) (ps:=A) u ho)).1;have a2 :((s.st V N.P A).objs.set i (row E (V.ev c) (V.sz c) l q.2))[i]? = some (row E (V.ev c) (V.sz c) l q.2):=by rw[w1v ai]
        have a8:Ce (s.st V N.P A) x (V.ev (V.code t) y):=yct (Ev.ent' a5 (z6y V N.P hy));intro aa w ro S Q hd hn hw a4;obtain⟨g',n',ac,h3,_,h5,h6⟩:=d aa ro w a4;have a3:n'=l.length:=by
         rcases hw.obj i _ a2 with⟨hx,_⟩|⟨g2,af,cur,a0,_⟩
         .rw[h3] at hx;cases hx
         .rw[h3] at a0;simp only[Value.slice.injEq] at a0;exact a0.2.1
        subst a3;refine y4q (s:=⟨(s.st V N.P A).slots,(s.st V N.P A).objs.set i (row E (V.ev c) (V.sz c) l q.2)⟩) (k:=j.toNat) (fo:=fo) (z:=gtz (V.z c) l j) (z':=y') i (V.ev_len c) ht (Ev.ent' d zty) a8 a2 (by rw[V.ev_len];exact e4.symm) rfl (zgw ⟨h5,h6⟩) a1 (by rw[<- e4] at *;exact e5.symm) ?_ aa w ro S Q hd hn hw a4;rw[w3g];exact fin i q (.x (.fix E c (zo l j y'))) _ u (w04.1 ho).1 (λS r w h=>⟨a7,h⟩) h
      .cases h
     .cases h
   .cases h
  |_=>simp[stoX] at h
 .cases h
end
end Px
end
section
namespace Px
open Go Go.RowKit
section
variable{V:TE}{N:Env V}{R:Type}{r:R}{C:Cx N.P}{A:Asg}{s:SS V.T}
theorem ztj[Dr](u:A.length=s.ob.length)(j:chP s.gb s.kn){t n ty:Nat}{d:Array (Nat×Operand)}{k:SV V.T->SS V.T->Option R}(h:z5m V N s (.buildSlice t n d) ty k=some r)(dst pos after guard):
  OpT C ⟨dst,.buildSlice t n d,ty,pos,after,guard⟩ (s.st V N.P A) (LOK V N.P r A s k):=by
 simp only[z5m] at h;split at h
 .rename_i E z a0 ht;split at h
  .rename_i l g;cases f :(Nat.beq z (V.sz (V.code E))&&Nat.beq l.length n&&Nat.ble (n*z) 16777216) with
   |false=>rw[f] at h;cases h
   |true=>
    rw[f] at h;simp only[w02] at f;have e1:=w03 f.1.1;have e2:=w03 f.1.2;have e3:=w0s f.2;subst e1;simp only[cond_true] at h;refine zmt l ht (V.ev_len _) e2 e3 (ztx j g) λv'=>⟨[(0,v')],_,_,h,by simp[u],?_,?_⟩
    .simp only[SV.den,zd4 A _ _ u];exact Ent.refl
    .exact z6g u (us:=[.row E (V.code E) l]) ⟨EntH.refl,trivial⟩
  .cases h
 .cases h
theorem zz9[Dr]{P:Program}{x y:Operand}{z u:IntKind}{n n':Int}(d:z5m.sameO x y=true)(g:chP s.gb s.kn)(h:evO s.sl s.kn x=some (.int z n))(f:evO s.sl s.kn y=some (.int u n')):Ev (s.st V P A) y (iv u n):=by
 have j:=z1t V P (A:=A) f g;unfold z5m.sameO at d;split at d
 .have:=w03 d
  subst this;rw[h] at f;simp only[w01,SV.int.injEq] at f;obtain⟨rfl,rfl⟩:=f;exact j
 .rename_i q a q' b;simp only[decide_eq_true_eq] at d;subst d;simp only[evO,zuw,w01,SV.int.injEq] at h f;obtain⟨_,rfl⟩:=h;obtain⟨_,rfl⟩:=f;exact j
 .cases d
theorem yir{T:Nat->Type}{α:Type}{d:Ds T α}{x:α}(h:nilD d x=true):(zd2 d x).2 = []:=by cases d<;>simp[nilD] at h;exact h
theorem zy7[Dr](g:A.length=s.ob.length)(f:chP s.gb s.kn){t ty:Nat}{x y:Operand}{k:SV V.T->SS V.T->Option R}(h:z5m V N s (.makeSlice t x y) ty k=some r)(dst pos after guard):
  OpT C ⟨dst,.makeSlice t x y,ty,pos,after,guard⟩ (s.st V N.P A) (LOK V N.P r A s k):=by
 simp only[z5m] at h;split at h
 .rename_i E z a4 q n q' n' ht hx hy;have hx:=z0n hx;have hy:=z0n hy;split at h
  .rename_i zs hz;cases a0:zxy (V.d (V.code E)) with
   |true=>
    rw[a0] at h;simp only[cond_true] at h;split at h
    .rename_i E2 hu;cases d :(z5m.sameO x y&&Nat.beq z 1&&zmN zs&&nilD (V.d (V.code E)) (V.z (V.code E))) with
     |false=>rw[d] at h;cases h
     |true=>
      rw[d] at h;simp only[w02] at d;have e1:=w03 d.1.1.2;subst e1;simp only[cond_true] at h;obtain⟨u,hk⟩:=zef h;have a3:zs = [.slice none 0 0]:=by
       have h5:=d.1.2;unfold zmN at h5;split at h5
       .rfl
       .cases h5
      subst a3;refine ygg (e:=λv:Value=>[eqv v]) (Value.slice none 0 0) _ ht (λ_=>rfl) hz (λr w=>zbm (zs:=[.slice none 0 0]) rfl) (z1t V N.P hx f) (zz9 d.1.1.1 f hx hy) u.1 u.2.1 u.2.2 λv' _=>⟨[(0,v')],_,_,hk,by simp[g],?_,?_⟩
      .simp only[SV.den,zd4 A _ _ g];exact Ent.refl
      .refine z6g g (us:=[.x (.nst E E2 (V.code E) (List.replicate n.toNat (V.z (V.code E))) none)]) ⟨?_,trivial⟩;intro S r w h;exact⟨⟨a0,λk j e=>by cases e⟩,yjl (.inl ⟨rfl,yir d.2⟩) h⟩
    .cases h
   |false=>
   rw[a0] at h;simp only[cond_false] at h;cases d :(z5m.sameO x y&&Nat.beq z (V.sz (V.code E))&&zmR V (V.enc (V.code E) (V.z (V.code E))) zs) with
   |false=>rw[d] at h;cases h
   |true=>
    rw[d] at h;simp only[w02] at d;have e1:=w03 d.1.2;subst e1;simp only[cond_true] at h;obtain⟨u,hk⟩:=zef h;refine ygg (V.z (V.code E)) zs ht (V.ev_len _) hz (λr w=>by have:=ybv V N.P (A:=A) r w d.2;rwa [z2g] at this) (z1t V N.P hx f) (zz9 d.1.1 f hx hy) u.1 u.2.1 u.2.2 λv' a2=>⟨[(0,v')],_,_,hk,by simp[g],?_,?_⟩
    .simp only[SV.den,zd4 A _ _ g];exact Ent.refl
    .cases a1:y1d (V.d (V.code E)) with
     |false=>exact z6g g (us:=[.row E (V.code E) (List.replicate n.toNat (V.z (V.code E)))]) ⟨EntH.refl,trivial⟩
     |true=>exact z6g g (us:=[.x (.fix E (V.code E) (List.replicate n.toNat (V.z (V.code E))))]) ⟨λS r w h=>⟨⟨a1,a2⟩,h⟩,trivial⟩
  .cases h
 .cases h
theorem y6e[Dr](g:A.length=s.ob.length){t ty:Nat}{d:Option Operand}{k:SV V.T->SS V.T->Option R}(h:z5m V N s (.makeMap t d) ty k=some r)(dst pos after guard):
  OpT C ⟨dst,.makeMap t d,ty,pos,after,guard⟩ (s.st V N.P A) (LOK V N.P r A s k):=by
 cases d with
 |some o=>simp[z5m,zt] at h
 |none=>
  simp only[z5m] at h;split at h
  .rename_i kt f j;refine y6n (κ:=V.T (V.code kt)) (ν:=V.T (V.code f)) (e:=V.kl (V.code kt)) (eK:=V.kv (V.code kt)) (I:=V.inm (match N.P.underlying f with|some (.slice E)=>E|_=>0) (V.code f)) λb=>⟨[(b,.map (some b))],_,_,h,by simp[g],?_,?_⟩
   .simp only[SV.den,zd4 A _ _ g];exact Ent.refl
   .refine z6g g (us:=[.x (.map (V.code kt) (V.code f) (match N.P.underlying f with|some (.slice E)=>E|_=>0) [] none)]) ⟨?_,trivial⟩;exact λS r w h=>⟨⟨rfl,λ_ _ q=>by cases q⟩,h⟩
  .cases h
theorem yez[Dr](u:A.length=s.ob.length)(f:chP s.gb s.kn){t ty:Nat}{x:Operand}{k:SV V.T->SS V.T->Option R}(h:z5m V N s (.range t x) ty k=some r)(dst pos after guard):
  OpT C ⟨dst,.range t x,ty,pos,after,guard⟩ (s.st V N.P A) (LOK V N.P r A s k):=by
 simp only[z5m] at h;have fin:∀{kc vc kt j:Nat}{m:List (V.T kc×V.T vc)},N.P.underlying t=some (.map kt j)->Ev (s.st V N.P A) x (romE (V.kl kc) (V.kv kc) (λy=>V.vl vc y) m)->k (.own s.ob.length) { s with ob:=s.ob++[.x (.it kc vc m none)] } = some r->
   OpT C ⟨dst,.range t x,ty,pos,after,guard⟩ (s.st V N.P A) (LOK V N.P r A s k):=by
  intro kc vc kt j m g hx h;refine ye8 g hx λb=>⟨[(b,.pointer (some ⟨b,0,none⟩))],_,_,h,by simp[u],?_,?_⟩
  .simp only[SV.den,zd4 A _ _ u];exact Ent.refl
  .refine z6g u (us:=[.x (.it kc vc m none)]) ⟨?_,trivial⟩;exact λS r w h=>⟨rfl,h⟩
 split at h
 .rename_i kt j kc vc m g hx;have d:=z1t V N.P (A:=A) hx f;simp only[SV.den,y6f] at d;exact fin g d h
 .rename_i kt j g hx;have d:=z1t V N.P (A:=A) hx f;refine fin g (d.ent' ?_) h;rw[<- y6f];exact zm7
 .cases h
theorem y1j[Dr](u:A.length=s.ob.length){j kc vc E:Nat}{m d:List (V.T kc×V.T vc)}{hh hh':Option (V.T kc×Nat)}{q:Nat×Value}(f:A[j]? = some q){k:SV V.T->SS V.T->Option R}{y:SV V.T}{x:VP}(hx:Ent x (y.den V N.P A))
  (z:q.2 = .map (some q.1)) (hs:∀k i,hh'=some (k,i)->(A[i]?).isSome=true) (g:k y (updO V s j (.x (.map kc vc E d hh')))=some r):LOK V N.P r A s k x (((s.st V N.P A).objs.set j (nmp q.1 (V.kl kc) (V.kv kc) (V.inm E vc) m (zby A hh))).set j (nmp q.1 (V.kl kc) (V.kv kc) (V.inm E vc) d (zby A hh'))):=by
 refine⟨[],s.ob.set j (.x (.map kc vc E d hh')),y,g,by simp[u],by rw[w0e];exact hx,?_⟩;rw[w0e,z6f V N.P A s.ob j q _ f,w3g];exact ObW.le (ze1 (show EntH (nmp q.1 (V.kl kc) (V.kv kc) (V.inm E vc) d (zby A hh')) ((SO.x (.map kc vc E d hh'):SO V.T).den V N.P A q) from λS r w h=>⟨⟨z,hs⟩,h⟩) _ _)
theorem zuq[Dr]{j kc vc E:Nat}{m:List (V.T kc×V.T vc)}{hh:Option (V.T kc×Nat)}{q:Nat×Value}{o:Oper}{K:VP->List HP->Prop}(g:A[j]? = some q)(u:s.ob[j]? = some (.x (.map kc vc E m hh)))
  (h:q.2 = .map (some q.1)->(∀k i,hh=some (k,i)->(A[i]?).isSome=true)->((s.st V N.P A).objs.set j (nmp q.1 (V.kl kc) (V.kv kc) (V.inm E vc) m (zby A hh)))[j]? = some (nmp q.1 (V.kl kc) (V.kv kc) (V.inm E vc) m (zby A hh))->
   OpT C o ⟨(s.st V N.P A).slots,(s.st V N.P A).objs.set j (nmp q.1 (V.kl kc) (V.kv kc) (V.inm E vc) m (zby A hh))⟩ K):OpT C o (s.st V N.P A) K:=by
 refine zpf g u λz hs=>?_
 have d:=zw V N.P (A:=A) (ps:=A) g u;have f:j<(s.st V N.P A).objs.length:=(w04.1 d).1;exact OpT.weak (s':=⟨(s.st V N.P A).slots,(s.st V N.P A).objs.set j (nmp q.1 (V.kl kc) (V.kv kc) (V.inm E vc) m (zby A hh))⟩) (λ_ _ _ h=>h) (ObW.set' d λS r w h=>h.2) (h z hs (by rw[w1v f]))
theorem zy8[Dr](hl:A.length=s.ob.length)(a2:chP s.gb s.kn){t ty:Nat}{x i y:Operand}{k:SV V.T->SS V.T->Option R}(h:z5m V N s (.mapUpdate t x i y) ty k=some r)(pos after guard):
  OpT C ⟨none,.mapUpdate t x i y,ty,pos,after,guard⟩ (s.st V N.P A) (LOK V N.P r A s k):=by
 simp only[z5m] at h;split at h
 .rename_i j u v hx hi hy;split at h
  .rename_i kc vc E m hh ho;split at h
   .rename_i et key hm hd;obtain⟨kt,ht,hk⟩:=zlg hm;have f:=z1t V N.P (A:=A) hx a2;have a4:=((z1t V N.P (A:=A) hi a2).ent' (z6y V N.P hd)).ent' (zt9 hk);have d:=z1t V N.P (A:=A) hy a2;simp only[SV.den] at f;cases ha:A[j]? with
    |none=>rw[ha] at f;exact zck f
    |some q=>
     rw[ha] at f;refine zuq ha ho λhq a7 a0=>?_
     have a5:Ev (s.st V N.P A) x (eqv (.map (some q.1))):=by rw[<- hq];exact f
     cases hs:zbz (V.d vc) with
     |true=>
      rw[hs] at h;simp only[cond_true] at h;split at h
      .rename_i val hv;have a6:=d.ent' (z6y V N.P hv);rw[y2n V hs] at a6;exact zms (s:=⟨(s.st V N.P A).slots,(s.st V N.P A).objs.set j (nmp q.1 (V.kl kc) (V.kv kc) (V.inm E vc) m (zby A none))⟩) (z:=val) (hole':=none) j (z9r hk) ht a0 a5 a4 a6 (λq hq=>by cases hq) (.inl ⟨rfl,λS r w=>by rw[zmp hs];rfl⟩)
        (y1j hl ha (hh:=none) (hh':=none) (y:=.top) Ent.refl hq (λ_ _ q=>by cases q) h)
      .cases h
     |false=>
      rw[hs] at h;simp only[cond_false] at h;split at h
      .rename_i q2;simp only[SV.den] at d;cases g:A[q2]? with
       |none=>rw[g] at d;exact zck d
       |some p2=>
        rw[g] at d;have a3:∀k i,some (key,q2)=some (k,i)->(A[i]?).isSome=true:=λk i e=>by cases e;rw[g];rfl
        have a1:zby A (some (key,q2))=some (key,p2.2):=by simp only[zby,g]
        have fin :(∀p,zby A hh=some p->V.kl kc p.1=V.kl kc key)->k .top (updO V s j (.x (.map kc vc E (cset (V.kl kc) m key (V.z vc)) (some (key,q2)))))=some r->
          OpT C ⟨none,.mapUpdate t x i y,ty,pos,after,guard⟩ ⟨(s.st V N.P A).slots,(s.st V N.P A).objs.set j (nmp q.1 (V.kl kc) (V.kv kc) (V.inm E vc) m (zby A hh))⟩ (LOK V N.P r A s k):=λhc h=>
         zms (s:=⟨(s.st V N.P A).slots,(s.st V N.P A).objs.set j (nmp q.1 (V.kl kc) (V.kv kc) (V.inm E vc) m (zby A hh))⟩) (z:=V.z vc) (hole':=some (key,p2.2)) j (z9r hk) ht a0 a5 a4 d hc (.inr rfl)
          (a1 ▸ y1j hl ha (hh:=hh) (hh':=some (key,q2)) (y:=.top) Ent.refl hq a3 h)
        split at h
        .exact fin (λp hp=>by cases hp) h
        .rename_i q' j';obtain⟨hc,h⟩:=zef h;exact fin (λp hp=>by simp only[zby,w01] at hp;subst hp;exact hc) h
      .cases h
   .cases h
  .cases h
 .cases h
theorem y8d[Dr](hl:A.length=s.ob.length)(f:chP s.gb s.kn){ty:Nat}{x i:Operand}{ts:Array TypeId}{k:SV V.T->SS V.T->Option R}(h :(match ts[0]?,evO s.sl s.kn x,evO s.sl s.kn i with
   |some t,some (.own j),some u=>match s.ob[j]? with
    |some (.x (.map kc vc E m none))=>match keyT V N t kc,V.dec (rdSl []) kc u with
     |some _,some key=>k (.val (.tuple #[])) (updO V s j (.x (.map kc vc E (cdel (V.kl kc) m key) none)))
     |_,_=>none
    |_=>none
   |some t,some (.val (.map none)),some u=>match N.P.underlying t with
    |some (.map kt _)=>match keyT V N t (V.code kt),V.dec (rdSl []) (V.code kt) u with
     |some _,some _=>k (.val (.tuple #[])) s
     |_,_=>none
    |_=>none
   |_,_,_=>none)=some r) (dst pos after guard) :
  OpT C ⟨dst,.call { callee:=.builtin .delete,args:=#[x,i],argTypes:=ts },ty,pos,after,guard⟩ (s.st V N.P A) (LOK V N.P r A s k):=by
 split at h
 .rename_i t j u z hx hi;split at h
  .rename_i kc vc E m ho;split at h
   .rename_i et key hm hd;obtain⟨kt,ht,hk⟩:=zlg hm;have d:=z1t V N.P (A:=A) hx f;have g:=((z1t V N.P (A:=A) hi f).ent' (z6y V N.P hd)).ent' (zt9 hk);simp only[SV.den] at d;cases ha:A[j]? with
    |none=>rw[ha] at d;exact zck d
    |some q=>
     rw[ha] at d;refine zuq ha ho λhq _ a0=>?_
     have a1:Ev (s.st V N.P A) x (eqv (.map (some q.1))):=by rw[<- hq];exact d
     exact ya4 (s:=⟨(s.st V N.P A).slots,(s.st V N.P A).objs.set j (nmp q.1 (V.kl kc) (V.kv kc) (V.inm E vc) m (zby A none))⟩) j (z9r hk) ht a0 a1 g z (y1j hl ha (hh:=none) (hh':=none) (y:=.val (.tuple #[])) Ent.refl hq (λ_ _ q=>by cases q) h)
   .cases h
  .cases h
 .rename_i t u z hx hi;split at h
  .rename_i kt et hu;split at h
   .rename_i a2 key hm hd;obtain⟨a3,ht,hk⟩:=zlg hm;have d:=z1t V N.P (A:=A) hx f;have g:=((z1t V N.P (A:=A) hi f).ent' (z6y V N.P hd)).ent' (zt9 hk);exact OpT.of_q (y6i (z9r hk) ht d g z) ⟨[],_,_,h,by simp[hl],by rw[w0e];exact Ent.refl,by rw[w0e];exact ObW.refl⟩
   .cases h
  .cases h
 .cases h
theorem ymf[Dr]{P:Program}{C:Cx P}{c:Nat}{y:SV V.T}{m:List (V.T c)}{o:Operand}(g:0<V.sz c)(h:srcX V s.ob c y=some m)(d:Ev (s.st V P A) o (y.den V P A)):Src C (s.st V P A) o m.length (m.flatMap (V.ev c)):=by
 unfold srcX at h;split at h
 .split at h
  .rename_i e;subst e;simp only[w01] at h;subst h;exact Src.ro (V.ev_len _) g d
  .cases h
 .rename_i j;split at h
  .rename_i E c' l ho;split at h
   .rename_i e;subst e;simp only[w01] at h;subst h;simp only[SV.den] at d;cases f:A[j]? with
    |none=>rw[f] at d;exact λa r S w hw hs=>(d a r w hs).elim
    |some q=>rw[f] at d;exact Src.row j d (zw V P f ho)
   .cases h
  .cases h
 .rename_i j lo hi z;split at h
  .rename_i E c' l ho;split at h
   .rename_i e;subst e;cases u:Nat.beq z (V.sz c') with
    |false=>rw[u] at h;cases h
    |true=>
     rw[u] at h;have e:=w03 u;subst e;simp only[cond_true,w01] at h;subst h;simp only[SV.den] at d;cases f:A[j]? with
     |none=>rw[f] at d;exact λa r S w hw hs=>(d a r w hs).elim
     |some q=>rw[f] at d;exact Src.prt j (V.ev_len _) d (zw V P f ho)
   .cases h
  .cases h
 .simp only[w01] at h;subst h;exact Src.nil d
 .cases h
theorem yfr[Dr](hl:A.length=s.ob.length){i E c z d t ty:Nat}{l:List (V.T c)}{y:SV V.T}{x o:Operand}{k:SV V.T->SS V.T->Option R}(h:appX V s ty i E c d l y k=some r)(ho:s.ob[i]? = some (.row E c l))(ht:tsl N.P t=some (E,z,d))(hz:z=V.sz c)
  (a0:0<d) (j:Ev (s.st V N.P A) x ((SV.own i:SV V.T).den V N.P A)) (hy:Ev (s.st V N.P A) o (y.den V N.P A)) (dst pos after guard) :
  OpT C ⟨dst,.call { callee:=.builtin .append,args:=#[x,o],argTypes:=#[t,t] },ty,pos,after,guard⟩ (s.st V N.P A) (LOK V N.P r A s k):=by
 unfold appX at h;subst hz;split at h
 .rename_i m hm;obtain⟨hf,hk⟩:=zef h;simp only[SV.den] at j;cases u:A[i]? with
  |none=>rw[u] at j;exact zck j
  |some q=>
   rw[u] at j;have a1:=zw V N.P (A:=A) (ps:=A) u ho;obtain⟨_,_,_,_,_,_,_,_,g⟩:=zks ht;refine yec i ht (V.ev_len c) j a1 (ymf (by simpa using g) hm hy) hf (yde a0 hf) λv'=>⟨[(0,v')],_,_,hk,by simp[hl],?_,?_⟩
   .simp only[SV.den];rw[zd4 A _ _ hl];exact Ent.refl
   .have hi:=(w04.1 ho).1;have f:=zeu V N.P (A:=A) A s.ob hl;refine ObW.trans (ObW.mv (i:=i) (H:=row E (V.ev c) (V.sz c) (l++m) v') (by rw[w1v (by simpa[SS.st,f] using hi)])) ?_;have e1 :((s.st V N.P A).objs.set i (row E (V.ev c) (V.sz c) (l++m) v')).set i emp=obD V N.P A A (s.ob.set i .emp):=by rw[w3g,z6f V N.P A s.ob i q .emp u];rfl
    rw[e1];exact z6g (by simp[hl]) (us:=[.row E c (l++m)]) ⟨EntH.refl,trivial⟩
 .cases h
end
end Px
end
