/- A part of the proof of emptiesIdle_holds. Conditions: none. -/
import Derived.Test.YtcofccdjgfgeeaaGreatKibb
set_option linter.unusedVariables false
set_option linter.unusedSimpArgs false
section
namespace Px
open Go Go.RowKit
inductive LC where
 |val (c:Nat)
 |own (j:Nat)
 |ptr (j off:Nat)
 |agg (ls:List LC)
 |func (f:Nat) (ls:List LC)
 |cmp (c:Nat)
 |nil
 |raw (v:Value)
 |rop (c:Nat)
 |rom (kc vc:Nat)
inductive OC where
 |box (t:Nat) (ls:List LC)
 |row (E c:Nat)
 |map (kc vc E:Nat)
 |it (kc vc:Nat)
 |nst (E E2 c:Nat) (h:Option Nat)
 |fix (E c:Nat)
 |emp
structure Sh where
 fr:List (Nat×List (Nat×LC))
 ob:List OC
section
variable(T:Nat->Type)
mutual
def LC.Z(T:Nat->Type):LC->Type->Type
 | .val c,r=>T c×r
 | .cmp c,r=>(T c->T c->Option Int)×r
 | .rop c,r=>T c×r
 | .rom kc vc,r=>List (T kc×T vc)×r
 | .agg ls,r=>Zl T ls r
 | .func _ ls,r=>Zl T ls r
 |_,r=>r
def Zl(T:Nat->Type):List LC->Type->Type
 | [],r=>r
 |l::ls,r=>LC.Z T l (Zl T ls r)
end
def Zs(T:Nat->Type):List (Nat×LC)->Type->Type
 | [],r=>r
 |(_,l)::ls,r=>LC.Z T l (Zs T ls r)
def Zf(T:Nat->Type):List (Nat×List (Nat×LC))->Type->Type
 | [],r=>r
 |(_,l)::ls,r=>Zs T l (Zf T ls r)
def Zo(T:Nat->Type):List OC->Type
 | []=>Unit
 | .box _ ls::os=>Zl T ls (Zo T os)
 | .row _ c::os=>List (T c)×Zo T os
 | .map kc vc _::os=>List (T kc×T vc)×Zo T os
 | .it kc vc::os=>List (T kc×T vc)×Zo T os
 | .nst _ _ c none::os=>List (T c)×Zo T os
 | .nst _ _ c (some _)::os=>List (T c)×Int×Zo T os
 | .fix _ c::os=>List (T c)×Zo T os
 | .emp::os=>Zo T os
def Sh.Z(T:Nat->Type)(h:Sh):Type:=Zf T h.fr (Zo T h.ob)
end
section
variable(V:TE)(N:Env V){R:Type}
mutual
def enV{r:Type}:(l:LC)->LC.Z V.T l r->SV V.T×r
 | .val c,z=>(V.encV c z.1,z.2)
 | .cmp c,z=>(.cmp c z.1,z.2)
 | .agg ls,z=>(.agg (enL ls z).1,(enL ls z).2)
 | .func f ls,z=>(.func f (enW ls z).1,(enW ls z).2)
 | .own j,z=>(.own j,z)
 | .ptr j o,z=>(.ptr j o,z)
 | .nil,z=>(.val (.slice none 0 0),z)
 | .raw v,z=>(.val v,z)
 | .rop c,z=>(.rop (V.enc c z.1),z.2)
 | .rom kc vc,z=>(.rop [.rom kc vc z.1],z.2)
def enL{r:Type}:(ls:List LC)->Zl V.T ls r->List (SV V.T)×r
 | [],z=>([],z)
 | .val c::ls,z=>(V.enc c z.1++(enL ls z.2).1,(enL ls z.2).2)
 |l::ls,z=>((enV l z).1::(enL ls (enV l z).2).1,(enL ls (enV l z).2).2)
def enW{r:Type}:(ls:List LC)->Zl V.T ls r->List (SV V.T)×r
 | [],z=>([],z)
 |l::ls,z=>((enV l z).1::(enW ls (enV l z).2).1,(enW ls (enV l z).2).2)
end
def enS{r:Type}:(ls:List (Nat×LC))->Zs V.T ls r->Sls V.T×r
 | [],z=>([],z)
 |(t,l)::ls,z=>((t,[],(enV V l z).1)::(enS ls (enV V l z).2).1,(enS ls (enV V l z).2).2)
def enF{r:Type}:(ls:List (Nat×List (Nat×LC)))->Zf V.T ls r->List (Fm V.T)×r
 | [],z=>([],z)
 |(n,l)::ls,z=>(⟨(enS V l z).1,[],[],n⟩::(enF ls (enS V l z).2).1,(enF ls (enS V l z).2).2)
def enO :(os:List OC)->Zo V.T os->List (SO V.T)
 | [],_=>[]
 | .box t ls::os,z=>.box t (enL V ls z).1::enO os (enL V ls z).2
 | .row E c::os,z=>.row E c z.1::enO os z.2
 | .map kc vc E::os,z=>.x (.map kc vc E z.1 none)::enO os z.2
 | .it kc vc::os,z=>.x (.it kc vc z.1 none)::enO os z.2
 | .nst E E2 c none::os,z=>.x (.nst E E2 c z.1 none)::enO os z.2
 | .nst E E2 c (some j)::os,z=>.x (.nst E E2 c z.1 (some (z.2.1,j)))::enO os z.2.2
 | .fix E c::os,z=>.x (.fix E c z.1)::enO os z.2
 | .emp::os,z=>.emp::enO os z
def mkS(fs:List (Fm V.T))(os:List (SO V.T)):SS V.T:=match fs with
 |f::fs=>{ f with stk:=fs,ob:=os }
 | []=>{ sl:=[],gb:=[],kn:=[],n:=0,stk:=[],ob:=os }
def Sh.enc(h:Sh)(z:h.Z V.T):SS V.T:=mkS V (enF V h.fr z).1 (enO V h.ob (enF V h.fr z).2)
abbrev Bd:=List (Nat×Nat)
mutual
def bdV:LC->SV V.T->Bd
 | .own j,.own i=>[(j,i)]
 | .ptr j _,.ptr i _=>[(j,i)]
 | .agg ls,.agg cs=>bdL ls cs
 | .func _ ls,.func _ cs=>bdW ls cs
 |_,_=>[]
def bdL:List LC->List (SV V.T)->Bd
 | [],_=>[]
 | .val c::ls,cs=>match z6u V cs (V.sz c) with
  |some cs=>bdL ls cs
  |none=>[]
 |l::ls,x::cs=>bdV l x++bdL ls cs
 |_::_,[]=>[]
def bdW:List LC->List (SV V.T)->Bd
 |l::ls,x::cs=>bdV l x++bdW ls cs
 |_,_=>[]
end
def bdS(sl:Sls V.T):List (Nat×LC)->Bd
 | []=>[]
 |(t,l)::ls=>match lk sl t with
  |some (_,x)=>bdV V l x++bdS sl ls
  |none=>bdS sl ls
def bdF:List (Fm V.T)->List (Nat×List (Nat×LC))->Bd
 |f::fs,(_,l)::ls=>bdS V f.sl l++bdF fs ls
 |_,_=>[]
def bdO(ob:List (SO V.T)):Nat->List OC->Bd->Bd
 |_,[],b=>b
 |j,.box _ ls::os,b=>match (lk b j).bind λi=>ob[i]? with
  |some (.box _ cs)=>bdO ob (j+1) os (b++bdL V ls cs)
  |_=>bdO ob (j+1) os b
 |j,.nst _ _ _ (some q)::os,b=>match (lk b j).bind λi=>ob[i]? with
  |some (.x (.nst _ _ _ _ (some (_,i))))=>bdO ob (j+1) os (b++[(q,i)])
  |_=>bdO ob (j+1) os b
 |j,_::os,b=>bdO ob (j+1) os b
def isO(b:Bd)(j i:Nat):Bool:=match lk b j with
 |some i'=>Nat.beq i' i
 |none=>false
mutual
def deV{r:Type}(b:Bd):(l:LC)->SV V.T->r->Option (LC.Z V.T l r)
 | .val c,x,z=>match V.dec (rdSl []) c x with
  |some y=>some (y,z)
  |none=>none
 | .cmp c,.cmp c' f,z=>if h:c'=c then some (h ▸ f,z) else none
 | .agg ls,.agg cs,z=>deL b ls cs z
 | .func f ls,.func g cs,z=>bif Nat.beq f g then deW b ls cs z else none
 | .own j,.own i,z=>bif isO b j i then some z else none
 | .ptr j o,.ptr i o',z=>bif isO b j i&&Nat.beq o o' then some z else none
 | .nil,.val (.slice none 0 0),z=>some z
 | .raw v,.val u,z=>bif beqZ u v then some z else none
 | .rop c,.rop cs,z=>match decN V (rdSl []) (c+1) c cs with
  |some (y,[])=>some (y,z)
  |_=>none
 | .rom kc vc,.rop [.rom kc' vc' m],z=>if h:kc'=kc then(if h2:vc'=vc then some (h ▸ h2 ▸ m,z) else none) else none
 |_,_,_=>none
def deL{r:Type}(b:Bd):(ls:List LC)->List (SV V.T)->r->Option (Zl V.T ls r)
 | [],[],z=>some z
 | .val c::ls,cs,z=>match decN V (rdSl []) (c+1) c cs with
  |some (y,cs)=>match deL b ls cs z with
   |some z=>some (y,z)
   |none=>none
  |none=>none
 |l::ls,x::cs,z=>match deL b ls cs z with
  |some z=>deV b l x z
  |none=>none
 |_,_,_=>none
def deW{r:Type}(b:Bd):(ls:List LC)->List (SV V.T)->r->Option (Zl V.T ls r)
 | [],[],z=>some z
 |l::ls,x::cs,z=>match deW b ls cs z with
  |some z=>deV b l x z
  |none=>none
 |_,_,_=>none
end
def deS{r:Type}(b:Bd)(sl:Sls V.T):(ls:List (Nat×LC))->r->Option (Zs V.T ls r)
 | [],z=>some z
 |(t,l)::ls,z=>match lk sl t,deS b sl ls z with
  |some ([],x),some z=>deV V b l x z
  |_,_=>none
def deF{r:Type}(b:Bd):(ls:List (Nat×List (Nat×LC)))->List (Fm V.T)->r->Option (Zf V.T ls r)
 | [],[],z=>some z
 |(n,l)::ls,f::fs,z=>match deF b ls fs z with
  |some z=>bif Nat.beq n f.n then deS V b f.sl l z else none
  |none=>none
 |_,_,_=>none
def deO(b:Bd)(ob:List (SO V.T)):Nat->(os:List OC)->Option (Zo V.T os)
 |_,[]=>some ()
 |j,.box t ls::os=>match (lk b j).bind λi=>ob[i]?,deO b ob (j+1) os with
  |some (.box t' cs),some z=>bif Nat.beq t t' then deL V b ls cs z else none
  |_,_=>none
 |j,.row E c::os=>match (lk b j).bind λi=>ob[i]?,deO b ob (j+1) os with
  |some (.row E' c' l),some z=>bif Nat.beq E E' then(if h:c'=c then some (h ▸ l,z) else none) else none
  |_,_=>none
 |j,.map kc vc E::os=>match (lk b j).bind λi=>ob[i]?,deO b ob (j+1) os with
  |some (.x (.map kc' vc' E' m none)),some z=>bif Nat.beq E' E then(if h:kc'=kc then(if h2:vc'=vc then some (h ▸ h2 ▸ m,z) else none) else none) else none
  |_,_=>none
 |j,.it kc vc::os=>match (lk b j).bind λi=>ob[i]?,deO b ob (j+1) os with
  |some (.x (.it kc' vc' m _)),some z=>if h:kc'=kc then(if h2:vc'=vc then some (h ▸ h2 ▸ m,z) else none) else none
  |_,_=>none
 |j,.fix E c::os=>match (lk b j).bind λi=>ob[i]?,deO b ob (j+1) os with
  |some (.x (.fix E' c' l)),some z=>bif Nat.beq E E' then(if h:c'=c then some (h ▸ l,z) else none) else none
  |_,_=>none
 |j,.emp::os=>match (lk b j).bind λi=>ob[i]?,deO b ob (j+1) os with
  |some .emp,some z=>some z
  |_,_=>none
 |j,.nst E E2 c none::os=>match (lk b j).bind λi=>ob[i]?,deO b ob (j+1) os with
  |some (.x (.nst E' E2' c' l none)),some z=>bif Nat.beq E E'&&Nat.beq E2 E2' then(if h:c'=c then some (h ▸ l,z) else none) else none
  |_,_=>none
 |j,.nst E E2 c (some q)::os=>match (lk b j).bind λi=>ob[i]?,deO b ob (j+1) os with
  |some (.x (.nst E' E2' c' l (some (k,i)))),some z=>bif Nat.beq E E'&&Nat.beq E2 E2'&&isO b q i then(if h:c'=c then some (h ▸ l,k,z) else none) else none
  |_,_=>none
def zhp(b:Bd):Nat->Nat->Option (List Nat)
 |0,_=>some []
 |n+1,j=>match lk b j,zhp b n (j+1) with
  |some i,some l=>some (i::l)
  |_,_=>none
def zpg(os:List OC)(gb:List (Nat×Bool)):List (Nat×LC)->Sls V.T->Nat->Sls V.T×List (SO V.T)
 | [],sl,_=>(sl,[])
 |(t,.own j)::ls,sl,n=>match lk sl t,os[j]?,lk gb t with
  |some ([],.val (.slice none 0 0)),some (.row E c),none=>match zpg os gb ls ((t,[],.own n)::sl) (n+1) with
   |(sl,m)=>(sl,.row E c []::m)
  |_,_,_=>zpg os gb ls sl n
 |_::ls,sl,n=>zpg os gb ls sl n
def zmx(os:List OC):List (Nat×List (Nat×LC))->List (Fm V.T)->Nat->List (Fm V.T)×List (SO V.T)
 |(_,l)::ls,f::fs,n=>match zpg V os f.gb l f.sl n with
  |(sl,m)=>match zmx os ls fs (n+m.length) with
   |(fs,m')=>({ f with sl:=sl }::fs,m++m')
 |_,fs,_=>(fs,[])
def nilL(os:List OC):List LC->List (SV V.T)->Nat->List (SV V.T)×List (SO V.T)
 | .val c::ls,cs,n=>match znu V cs (V.sz c),z6u V cs (V.sz c) with
  |some a,some r=>match nilL os ls r n with
   |(r,m)=>(a++r,m)
  |_,_=>(cs,[])
 | .own j::ls,.val (.slice none 0 0)::cs,n=>match os[j]? with
  |some (.row E c)=>match nilL os ls cs (n+1) with
   |(r,m)=>(.own n::r,.row E c []::m)
  |_=>(.val (.slice none 0 0)::cs,[])
 |_::ls,x::cs,n=>match nilL os ls cs n with
  |(r,m)=>(x::r,m)
 |_,cs,_=>(cs,[])
def nilB(all:List OC):Nat->List OC->Bd->List (SO V.T)->List (SO V.T)
 |_,[],_,ob=>ob
 |j,.box _ ls::os,b,ob=>match lk b j with
  |some i=>match ob[i]? with
   |some (.box t cs)=>match nilL V all ls cs ob.length with
    |(cs,m)=>nilB all (j+1) os (b++bdL V ls cs) (ob.set i (.box t cs)++m)
   |_=>nilB all (j+1) os b ob
  |none=>nilB all (j+1) os b ob
 |j,_::os,b,ob=>nilB all (j+1) os b ob
def nilS(h:Sh)(s:SS V.T):SS V.T:=match zmx V h.ob h.fr (s.toFm::s.stk) s.ob.length with
 |(f::fs,m)=>{ f with stk:=fs,ob:=nilB V h.ob 0 h.ob (bdF V (f::fs) h.fr) (s.ob++m) }
 |_=>s
def zom:List OC->List Nat->List Nat
 | .nst _ _ _ none::os,i::is=>i::zom os is
 | .map ..::os,i::is=>i::zom os is
 |_::os,_::is=>zom os is
 |_,_=>[]
def zr9(s:SS V.T)(is:List Nat):SS V.T:=is.foldl (λs i=>zv0 V s i) s
def Sh.decB(h:Sh)(s:SS V.T)(b:Bd):Option (h.Z V.T):=match zhp b h.ob.length 0 with
 |some is=>bif zgl is then(match deO V b (zr9 V s (zom h.ob is)).ob 0 h.ob with
  |some z=>deF V b h.fr (s.toFm::s.stk) z
  |none=>none) else none
 |none=>none
def Sh.bd(h:Sh)(s:SS V.T):Bd:=(bdO V s.ob 0 h.ob (bdF V (s.toFm::s.stk) h.fr)).filter (λp=>Nat.blt p.1 h.ob.length)
def Sh.dec(h:Sh)(s:SS V.T):Option (h.Z V.T):=h.decB V (nilS V h s) (h.bd V (nilS V h s))
def ye1(s:SS V.T)(t:Nat):Option Nat->Option (SV V.T)
 |none=>evO s.sl s.kn (.tmp t)
 |some o=>match evO s.sl s.kn (.tmp t) with
  |some (.ptr i b)=>match s.ob[i]? with
   |some (.box _ cs)=>(z6u V cs (b+o)).bind (·.head?)
   |_=>none
  |some (.rop cs)=>(z6u V cs o).bind (·.head?)
  |some (.agg cs)=>(z6u V cs o).bind (·.head?)
  |some (.elt i k z fo)=>match s.ob[i]? with
   |some (.row _ c l)=>(z6u V (V.enc c (gtz (V.z c) l k)) (fo+o)).bind (·.head?)
   |some (.x (.fix _ c l))=>(z6u V (V.enc c (gtz (V.z c) l k)) (fo+o)).bind (·.head?)
   |_=>none
  |_=>none
def y5w(s:SS V.T)(t:Nat)(o:Option Nat):Option (SV V.T):=match o with
 |some o=>bif Nat.ble 1000 o then(match ye1 V s t (some (o / 1000-1)) with
  |some (.ptr i b)=>match s.ob[i]? with
   |some (.box _ cs)=>(z6u V cs (b+o % 1000)).bind (·.head?)
   |_=>none
  |some (.rop cs)=>(z6u V cs (o % 1000)).bind (·.head?)
  |_=>none) else ye1 V s t (some o)
 |none=>ye1 V s t none
def keyX(s:SS V.T)(q:Nat×Option Nat)(kc:Nat):Option (V.T kc):=match q.2 with
 |none=>(evO s.sl s.kn (.tmp q.1)).bind (V.dec rdE kc)
 |some o=>match evO s.sl s.kn (.tmp q.1) with
  |some (.ptr i b)=>match s.ob[i]? with
   |some (.box _ cs)=>(z6u V cs (b+o)).bind λl=>(decN V rdE (kc+1) kc l).map (·.1)
   |_=>none
  |some (.rop cs)=>(z6u V cs o).bind λl=>(decN V rdE (kc+1) kc l).map (·.1)
  |some (.agg cs)=>(z6u V cs o).bind λl=>(decN V rdE (kc+1) kc l).map (·.1)
  |_=>none
def y4d{T:Nat->Type}: Option (SO T)->Bool
 |some (.x (.map ..))=>true
 |_=>false
def focP(p q:Nat×Option Nat)(s:SS V.T):Option (Nat×Int):=match y5w V s p.1 p.2,y5w V s q.1 q.2 with
 |some (.own i),some (.int _ m)=>some (i,m)
 |_,_=>none
inductive H (V:TE) (R:Type) where
 |x
 |seq (a b:H V R)
 |cond (a b:H V R)
 |body (a:H V R)
 |loop (h:Sh) (L:Nat->h.Z V.T->Option R) (b :(h.Z V.T->Option R)->H V R)
 |join (h:Sh) (J:h.Z V.T->Option R) (a:H V R)
 |ins (i f:Nat) (h rest:H V R)
 |foc (p q:Nat×Option Nat) (h:H V R)
 |frz (ps:List (Nat×Option Nat)) (h:H V R)
 |unr (n:Nat) (h:H V R)
 |cut (t:Nat) (h:H V R)
 |pk (h:Sh) (J:h.Z V.T->Option R)
 |alt (h:Sh) (J:h.Z V.T->Option R) (J2:h.Z V.T->Option (List (Option R)))
 |no
 |rf (f k fi:Nat) (h:H V R)
 |yl (i f k:Nat) (h rest:H V R)
def seqK(n:SS V.T->Option R)(K:KX V R):KX V R
 | .normal,s=>n s
 |e,s=>K e s
def blkK(id:Nat)(K:KX V R):KX V R
 | .exit i,s=>bif Nat.beq i id then K .normal s else K (.exit i) s
 |e,s=>K e s
def ngK(K:KX V R):KX V R
 | .goto _,_=>none
 |e,s=>K e s
def y83(s:SS V.T)(o:Operand)(x y:Option R):Option R:=match (evO s.sl [] o).bind zii with
 |some b=>if b=true then x else y
 |none=>none
def z0b(o:Oper):List Nat:=(o.after.toList.filter (Region.binds .any ·)).map (·.on)
abbrev DE(T:Nat->Type):=Nat×Nat×Ch×SV T
def drSl(f:Nat->Bool)(bs:Sls V.T)(es:List (DE V.T)):Sls V.T:=(es.filter λe=>f e.1).map (·.2)++bs
def zwy(ops:Array Oper)(bs:Sls V.T):Nat->List Oper->SS V.T->List (DE V.T)->(SS V.T->List (DE V.T)->Option R)->Option R
 |_,[],s,es,k=>k s es
 |i,o::os,s,es,k=>match o.dst with
  |some d=>match lk s.gb d,lk bs d with
   |none,none=>bif es.any (λe=>Nat.beq e.2.1 d) then none else match o.guard with
    |none=>zm V N { s with sl:=drSl V (memB (z0b o)) bs es } [] o.op o.type λv=>zwy ops bs (i+1) os s ((i,d,[],v)::es) k
    |some g=>match zgb V ops.toList { s with sl:=drSl V (memB (z0b o)) bs es } g with
     |some (some ch,s')=>zm V N s' ch o.op o.type λv=>zwy ops bs (i+1) os { s with gb:=s'.gb } ((i,d,ch,v)::es) k
     |_=>none
   |_,_=>none
  |none=>none
def yce(ops:Array Oper)(bs:Sls V.T)(i:Nat)(os:List Oper)(s:SS V.T)(es:List (DE V.T))(k:SS V.T->Option R):Option R:=zwy V N ops bs i os s es λs es=>bif chk (zr ops) s.n [] (es.map (·.1)) [] [] then k { s with sl:=drSl V (λ_=>true) bs es } else none
def isDs(ops:List Oper)(t:Nat):Bool:=ops.any λo=>zdq o.dst t
def bitB(m q:Nat):Bool:=Nat.beq (Nat.land (Nat.shiftRight m q) 1) 1
def cloF(ops:List Oper):List Nat:=ops.foldl (λacc o=>acc++[(z0b o).foldl (λm d=>Nat.lor (Nat.lor m (Nat.shiftLeft 1 d)) (acc.getD d 0)) 0]) []
def zby:Op->Bool
 | .alloc ..=>true
 | .box ..=>true
 | .buildSlice ..=>true
 | .makeSlice ..=>true
 | .makeMap ..=>true
 |_=>false
def appO:Op->Bool
 | .call c=>match c.callee with
  | .builtin .append=>true
  | .value (.func _)=>true
  |_=>false
 | .mapUpdate ..=>true
 |o=>zby o
def zv3:Op->Bool
 | .move _=>true
 | .assign _=>true
 | .fieldAddr ..=>true
 | .nilCheck _=>true
 | .load ..=>true
 | .indexAddr ..=>true
 | .slice ..=>true
 | .build ..=>true
 | .binOp ..=>true
 | .unOp ..=>true
 | .convert ..=>true
 | .extract ..=>true
 | .call c=>match c.callee with
  | .value _=>true
  | .builtin .len=>true
  |_=>false
 |_=>false
def opAt(ops:List Oper)(l:Nat):Op:=match ops[l]? with
 |some o=>o.op
 |none=>.move (.const undef)
def stoF(ops:List Oper)(l:Nat):Bool:=match opAt ops l with
 | .store _ (.tmp t) _=>ops.any λo=>zdq o.dst t&&zby o.op
 |_=>false
def zqk:Op->Bool
 | .load ..=>true
 | .call c=>match c.callee with
  | .builtin .len=>true
  |_=>false
 |_=>false
def boxP(ops:List Oper)(sl:Sls V.T):Nat->Operand->Bool
 |0,_=>false
 |n+1,.tmp t=>match lk sl t with
  |some ([],.ptr ..)=>true
  |some _=>false
  |none=>match ops.find? λo=>zdq o.dst t with
   |some o=>match o.op with
    | .fieldAddr _ x _=>boxP ops sl n x
    |_=>false
   |none=>false
 |_,_=>false
def eltF(ops:List Oper)(l:Nat):Bool:=match opAt ops l with
 | .store _ (.tmp t) _=>ops.any λo=>zdq o.dst t&&(match o.op with
  | .indexAddr _ (.tmp u) _=>ops.any λq=>zdq q.dst u&&(match q.op with | .load _ _=>true|_=>false)
  |_=>false)
 |_=>false
def stoN(ops:List Oper)(l:Nat):Bool:=match opAt ops l with
 | .store ..=>!stoF ops l
 |_=>false
def yfp(ops:List Oper)(clo:List Nat)(sl:Sls V.T)(i:Nat)(o:Oper):Bool:=match o.op with
 | .load _ p=>o.guard.isNone&&boxP V ops sl 4 p&&(List.range ops.length).any λl=>stoN ops l&&!eltF ops l&&!bitB (clo.getD i 0) l&&!bitB (clo.getD l 0) i
 | .call c=>(match c.callee with
  | .builtin .len=>o.guard.isNone&&(List.range ops.length).any λl=>stoN ops l&&!bitB (clo.getD i 0) l&&!bitB (clo.getD l 0) i
  |_=>false)
 |_=>false
def zf6{T:Nat->Type}: SO T->Bool
 | .box ..=>true
 |_=>false
def zv8(ops:List Oper)(n0 l i:Nat)(box:Bool):Bool:=zqk (opAt ops l)||zby (opAt ops l)||(appO (opAt ops l)&&box)||(stoF ops l&&Nat.blt i n0)||(eltF ops l&&box)
def y1r(ops:List Oper)(n0:Nat)(ls:List Nat):Nat->List (SO V.T)->List (SO V.T)
 |_,[]=>[]
 |i,x::ob=>(bif ls.all (λl=>zv8 ops n0 l i (zf6 x)) then x else .emp)::y1r ops n0 ls (i+1) ob
def seen(clo:List Nat)(ops:List Oper)(n0 q:Nat)(o:Oper)(later:List Nat)(ob:List (SO V.T)):Option (List (SO V.T)):=
 match later.filter λl=>!bitB (clo.getD l 0) q with
 | []=>some ob
 |ls=>bif zv3 o.op&&o.guard.isNone then some (y1r V ops n0 ls 0 ob) else none
def zzq(l:List Nat):Nat:=l.foldl (λm q=>Nat.lor m (Nat.shiftLeft 1 q)) 0
def segs(ops:Array Oper)(clo done later:List Nat)(es:List (DE V.T)):List Nat:=(List.range ops.size).filter λq=>Nat.beq (Nat.land (Nat.lor (Nat.shiftLeft 1 q) (clo.getD q 0)) (zzq later)) 0&&!bitB (Nat.lor (zzq done) (zzq (es.map (·.1)))) q
def ya9{T:Nat->Type}: SV T->SV T->Bool
 | .ptr i o,.ptr j q=>Nat.beq i j&&Nat.beq o q
 | .own i,.own j=>Nat.beq i j
 |_,_=>false
def yab{T:Nat->Type}: List (SV T)->List (SV T)->Bool
 | [],[]=>true
 |x::l,y::m=>ya9 x y&&yab l m
 |_,_=>false
def yef{T:Nat->Type}: SV T->SV T->Bool
 | .func f l,.func g m=>Nat.beq f g&&yab l m
 |_,_=>false
def okB{T:Nat->Type}: Option (Ch×SV T)->SV T->Bool
 |none,_=>true
 |some ([],w),v=>yef v w
 |_,_=>false
def yac(ops:List Oper)(d:Nat):Bool:=match ops.filter λo=>zdq o.dst d with
 | [o]=>match o.op,o.guard with
  | .assign (.tmp t),none=>(match ops.find? λq=>zdq q.dst t with
   |some q=>(match q.op,q.guard with
    | .move (.tmp x),none=>Nat.beq x d
    |_,_=>false)
   |none=>false)
  |_,_=>false
 |_=>false
def segX(ops:Array Oper)(clo:List Nat)(n0:Nat)(later:List Nat)(bs:Sls V.T):List Nat->SS V.T->List (DE V.T)->(SS V.T->List (DE V.T)->Option R)->Option R
 | [],s,es,k=>k s es
 |i::is,s,es,k=>match ops[i]? with
  |some o=>match o.dst,seen V clo ops.toList n0 i o later s.ob with
   |some d,some ob=>match lk s.gb d with
    |none=>bif es.any (λe=>Nat.beq e.2.1 d) then none else match o.guard with
     |none=>zm V N { s with sl:=drSl V (memB (z0b o)) bs es,ob:=ob } [] o.op o.type λv=>bif okB (lk bs d) v then segX ops clo n0 later bs is s ((i,d,[],v)::es) k else none
     |some g=>bif (lk bs d).isSome then none else match zgb V ops.toList { s with sl:=drSl V (memB (z0b o)) bs es } g with
      |some (some ch,s')=>zm V N { s' with ob:=ob } ch o.op o.type λv=>segX ops clo n0 later bs is { s with gb:=s'.gb } ((i,d,ch,v)::es) k
      |_=>none
    |some _=>none
   |_,_=>none
  |none=>none
def zfx(s:SS V.T)(bs:Sls V.T)(es:List (DE V.T)):Option Nat->Bool
 |some d=>Nat.blt d s.n&&(lk s.gb d).isNone&&(lk bs d).isNone&&!es.any (λe=>Nat.beq e.2.1 d)
 |none=>true
def putB(bs:Sls V.T)(v:SV V.T):Option Nat->Sls V.T
 |some d=>(d,[],v)::bs
 |none=>bs
def cat2{α:Type}: Option (List α)->Option (List α)->Option (List α)
 |some a,some b=>some (a++b)
 |_,_=>none
def catL{α:Type}: List (Option (List α))->Option (List α)
 | []=>some []
 |x::xs=>cat2 x (catL xs)
def one1{α:Type}: List (Option α)->Option α
 | [x]=>x
 |_=>none
def y6q(ops:List Oper)(n0 l:Nat)(s:SS V.T):Op->Bool
 | .store _ p _=>(!stoF ops l||(match evO s.sl s.kn p with
  |some (.ptr i _)=>Nat.ble n0 i
  |_=>false))&&(!eltF ops l||(match evO s.sl s.kn p with
  |some (.elt _ _ _ _)=>true
  |_=>false))
 |_=>true
def z4n(clo later:List Nat):List Nat:=later.filter λc=>Nat.beq (Nat.land (clo.getD c 0) (zzq later)) 0
def tlB(bs:Sls V.T)(o:Oper):Bool:=match o.dst with
 |some d=>(lk bs d).isSome
 |none=>false
def tlA(ops:Array Oper)(s:SS V.T)(i:Nat):Bool:=match ops[i]? with
 |some o=>match o.op,o.guard,o.dst with
  | .assign _,none,some d=>(lk s.sl d).isSome
  |_,_,_=>false
 |none=>false
def tlS(ops:Array Oper)(s:SS V.T):Nat->Nat
 |0=>0
 |i+1=>bif tlA V ops s i then tlS ops s i else i+1
def tlC(ops:Array Oper)(l:Nat):Bool:=(List.range l).all (λq=>bitB ((cloF ops.toList).getD l 0) q)&&(ops.toList.drop l).all (λo=>match o.dst with|some d=>!isDs (ops.toList.take l) d|none=>true)&&
 (List.range ops.size).all (λj=>Nat.ble j l||memB (Tab.deps (zr ops) j) (j-1))
def tlOf(ops:Array Oper)(s:SS V.T):List Nat:=match (List.range' (tlS V ops s ops.size) (ops.size-tlS V ops s ops.size)).find? (tlC ops) with
 |some l=>[l]
 |none=>[]
def wrO(ops:Array Oper)(s:SS V.T):List Oper:=match tlOf V ops s with
 |l::_=>ops.toList.take l
 | []=>ops.toList
def elB(ops:List Oper)(l:Nat):Bool:=match ops[l]? with
 |some o=>(match o.op,o.dst with
  | .buildSlice ..,some d=>ops.any λq=>match q.op with
   | .buildSlice _ _ parts=>parts.toList.any λp=>match p.2 with | .tmp t=>Nat.beq t d|_=>false
   |_=>false
  | .call c,some d=>(match c.callee with
   | .builtin .append=>ops.any λq=>match q.op with
    | .call c'=>(match c'.callee with
     | .value (.func _)=>c'.args.toList.any λx=>match x with | .tmp t=>Nat.beq t d|_=>false
     |_=>false)
    |_=>false
   | .value (.func _)=>ops.any λq=>match q.op with
    | .buildSlice _ _ parts=>parts.toList.any λp=>match p.2 with | .tmp t=>Nat.beq t d|_=>false
    |_=>false
   |_=>false)
  |_,_=>false)
 |none=>false
def frzN(ops:List Oper)(l m:Nat)(v:SV V.T)(ob:List (SO V.T)):SV V.T×List (SO V.T):=bif elB ops l then(match v with
 | .own n=>bif Nat.ble m n then(match ob[n]? with
  |some (.row _ c l')=>(.ro c l',ob.set n .emp)
  |_=>(v,ob)) else(v,ob)
 |_=>(v,ob)) else(v,ob)
def ztm(ops:Array Oper)(done keys later:List Nat)(l:Nat):Bool:=Nat.beq later.length 1&&keys.all (λq=>(l::(done++keys)).any λj=>memB (Tab.deps (zr ops) j) q)&&(List.range ops.size).all (λq=>Nat.ble l q||memB done q||memB keys q)&&
 (done++keys).all (λq=>Nat.blt q l)&&(List.range ops.size).all (λj=>Nat.ble j l||memB (Tab.deps (zr ops) j) (j-1))&&Nat.blt l ops.size
def y1z(bs:Sls V.T)(s:SS V.T)(o:Oper):Bool:=o.guard.isSome||tlB V bs o||(inlC V N s o.op).isSome||(yldC V s o.op).isSome
def y38{R':Type}(leaf:Option R->Option R')(comb:List (Option R')->Option R')(inl:Nat->Inl V R)(ops:Array Oper)(clo:List Nat)(n0:Nat)(k:SS V.T->Option R):Nat->List Nat->List Nat->List Nat->Sls V.T->List (DE V.T)->SS V.T->Option R'
 |0,_,_,_,_,_,_=>none
 |n+1,later,done,sure,bs,es,s=>segX (R:=R') V N ops clo n0 later bs (segs V ops clo done later es) s es λs es=>
  bif chk (zr ops) s.n done (es.map (·.1)) (z4n clo later) sure then(match later with
   | []=>leaf (k { s with sl:=drSl V (λ_=>true) bs es })
   |later=>bif (z4n clo later).isEmpty then none else comb ((z4n clo later).map λl=>match ops[l]? with
    |some o=>bif !memB done l&&!memB (es.map (·.1)) l then(bif ztm ops done (es.map (·.1)) (z4n clo later) l||y1z V N bs { s with sl:=drSl V (memB (z0b o)) bs es } o then(bif ztm ops done (es.map (·.1)) (z4n clo later) l then
       leaf (z59 V N inl ops.toList l (ops.toList.drop l) { s with sl:=drSl V (λ_=>true) bs es } k) else none) else
      bif zx1 o&&zfx V s bs es o.dst&&((y0r V N { s with sl:=drSl V (memB (z0b o)) bs es } o.op).isEmpty&&y6q V ops.toList n0 l { s with sl:=drSl V (memB (z0b o)) bs es } o.op) then
       z3i (R:=R') V N { s with sl:=drSl V (memB (z0b o)) bs es } o.op o.type λv s'=>y38 leaf comb inl ops clo n0 k n (later.filter λx=>!Nat.beq x l) (l::done) (sure++(es.map (·.1)).filter λq=>bitB (clo.getD l 0) q&&!memB sure q) (putB V bs (frzN V ops.toList l s.ob.length v s'.ob).1 o.dst) es { s with ob:=(frzN V ops.toList l s.ob.length v s'.ob).2 } else none) else none
    |none=>none)) else none
def ygl:Op->Bool
 | .call c=>match c.callee with
  | .value (.func f)=>match N.fn f with
   |some sp=>!(sp.res.any zer)
   |none=>false
  |_=>false
 |_=>false
def yf3(ops:List Oper)(s:SS V.T)(t:Nat):Option (SV V.T):=match ops.find? λo=>zdq o.dst t with
 |some o=>match o.op with
  | .move x=>evO s.sl s.kn x
  | .load _ x=>match evO s.sl s.kn x with
   |some (.rop [v])=>some v
   |some (.ptr i 0)=>match s.ob[i]? with
    |some (.box _ [v])=>some v
    |_=>none
   |_=>none
  |_=>evO s.sl s.kn (.tmp t)
 |none=>evO s.sl s.kn (.tmp t)
def yc0(ops:List Oper)(s:SS V.T):Op->Bool
 | .call c=>match c.callee with
  | .value (.tmp t)=>match yf3 V ops s t with
   |some (.func f _)=>(N.cl f).isSome
   |some (.cmp ..)=>true
   |_=>false
  |_=>false
 |_=>false
def yd4:Op->Bool
 | .buildSlice ..=>true
 |_=>false
def y4q(ops:Array Oper)(s:SS V.T):List Nat:=(List.range ops.size).filter λi=>match ops[i]? with
 |some o=>(zox V N s [] o.op&&!ygl V N o.op&&!yc0 V N ops.toList s o.op&&!(yd4 o.op&&o.guard.isSome))||yfp V ops.toList (cloF ops.toList) s.sl i o
 |none=>false
def y2k(ops:Array Oper)(s:SS V.T):Sls V.T:=s.sl.filter λp=>!isDs ops.toList p.1
def yew(ops:Array Oper)(s:SS V.T):Sls V.T:=s.sl.filter λp=>!isDs ops.toList p.1||yac ops.toList p.1
def yex(ops:Array Oper)(s:SS V.T):Sls V.T:=s.sl.filter λp=>!isDs (wrO V ops s) p.1||yac ops.toList p.1
def altT{R':Type}(leaf:Option R->Option R')(comb:List (Option R')->Option R')(inl:Nat->Inl V R)(ops:Array Oper)(louds:List Nat)(s:SS V.T)(K:KX V R):Option R':=y38 V N leaf comb inl ops (cloF ops.toList) s.ob.length (λs=>K .normal s) (louds.length+1) louds [] [] (yex V ops s) [] s
def yd9(o:Oper):Bool:=match o.op with
 | .move _=>true
 | .assign _=>true
 | .load _ _=>true
 | .fieldAddr _ _ _=>true
 | .indexAddr _ _ _=>true
 | .nilCheck _=>true
 | .call c=>(match c.callee with
  | .builtin .min=>true
  | .builtin .max=>true
  |_=>false)
 |_=>false
def zm8(s:SS V.T)(o:Oper):Bool:=o.guard.isNone&&(match o.op with
 | .move _=>true
 | .assign _=>true
 | .load _ _=>true
 | .fieldAddr _ _ _=>true
 | .indexAddr _ _ _=>true
 | .nilCheck x=>(match evO s.sl s.kn x with
  |some (.ptr _ _)=>true
  |_=>false)
 | .call c=>(match ztz V s.sl s.kn c.args.toList with
  |some us=>bif us.all (λx=>match x with | .int _ _=>true|_=>false) then(match c.callee with
   | .builtin .min=>true
   | .builtin .max=>true
   |_=>false) else false
  |none=>false)
 |_=>false)
def y6a:List Oper->SS V.T->(SS V.T->Option R)->Option R
 | [],s,k=>k s
 |o::os,s,k=>bif zm8 V s o then zm V N s [] o.op o.type (λv=>after V s o.dst ([],v) λs=>y6a os s k) else none
def y6o(ops:Array Oper)(s:SS V.T):Bool:=ops.toList.all yd9&&(List.range (match tlOf V ops s with|l::_=>l | []=>ops.size)).any (tlA V ops s)&&Region.lexB .any ops
def y6d:Operand->Operand->Bool
 | .tmp x,.tmp y=>Nat.beq x y
 |_,_=>false
def y3a(ops:Array Oper):Option (Nat×Nat×Nat×Nat×Nat×Operand×Operand×Operand):=match ops.toList.drop (ops.size-5) with
 | [⟨some dL,.lookup t x i false,_,_,_,none⟩,⟨some dB,.binOp .add _ (.tmp dL') y _,_,_,_,none⟩,⟨some dE,.mapEntry t2 x2 i2,_,_,_,none⟩,⟨some dX,.extract (.tmp dE') 1,_,_,_,none⟩,⟨none,.entryStore _ x3 (.tmp dX') (.tmp dB'),_,_,_,none⟩]=>bif Nat.beq dL dL'&&Nat.beq dB dB'&&Nat.beq dE dE'&&Nat.beq dX dX'&&Nat.beq t t2&&y6d x x2&&y6d x x3&&y6d i i2&&Nat.ble 5 ops.size then some (dL,dB,dE,dX,t,x,i,y) else none
 |_=>none
def isEv(sl:Sls V.T)(kn:Ch)(o:Operand):Bool:=(evO sl kn o).isSome
def entC(tab:Tab)(n5 n dL dB dE dX:Nat)(x i y:Operand)(bs:Sls V.T)(gb:List (Nat×Bool))(kn:Ch)(es:List (DE V.T)):Bool:=
 isEv V (drSl V (memB (tab.deps n5)) bs es) kn x&&isEv V (drSl V (memB (tab.deps n5)) bs es) kn i&&
 isEv V (drSl V (memB (tab.deps (n5+1))) bs es) kn y&&memB (tab.deps (n5+1)) n5&&
 isEv V (drSl V (memB (tab.deps (n5+2))) bs es) kn x&&isEv V (drSl V (memB (tab.deps (n5+2))) bs es) kn i&&
 memB (tab.deps (n5+3)) (n5+2)&&isEv V (drSl V (memB (tab.deps (n5+4))) bs es) kn x&&memB (tab.deps (n5+4)) (n5+1)&&memB (tab.deps (n5+4)) (n5+3)&&
 chk tab n [] ((n5+1)::n5::es.map (·.1)) [n5+2] []&&
 chk tab n [n5+2] (((n5+1)::n5::es.map (·.1))++[n5+3]) [n5+4] (es.map (·.1))&&
 chk tab n [n5+4,n5+2] (((n5+1)::n5::es.map (·.1))++[n5+3]) [] (((n5+1)::n5::es.map (·.1))++[n5+3])&&
 (lk gb dL).isNone&&(lk gb dB).isNone&&(lk bs dL).isNone&&(lk bs dB).isNone&&(lk bs dE).isNone&&(lk bs dX).isNone&&
 !es.any (λe=>Nat.beq e.2.1 dL)&&!es.any (λe=>Nat.beq e.2.1 dB)&&!Nat.beq dL dB&&
 (((n5+1)::n5::es.map (·.1))++[n5+3]).all (λq=>zx0 (tab.dst q) (some dE))&&Nat.blt dE n&&
 ((n5+1)::n5::es.map (·.1)).all (λq=>zx0 (tab.dst q) (some dX))
def entK(ops:Array Oper)(dL dB dE dX t:Nat)(x i y:Operand)(bs:Sls V.T)(s:SS V.T)(es:List (DE V.T))(K:SS V.T->Option R):Option R:=
 match evO (drSl V (λ_=>true) bs es) s.kn x,evO (drSl V (λ_=>true) bs es) s.kn i,evO (drSl V (λ_=>true) bs es) s.kn y with
 |some (.own j),some u,some (.int ky w2)=>match s.ob[j]? with
  |some (.x (.map kc vc E m none))=>match keyT V N t kc,V.dec (rdSl []) kc u with
   |some et,some key=>match tz1 N.P et,V.encV vc ((cget (V.kl kc) m key).getD (V.z vc)) with
    |some z,.int kv w1=>match V.dec (rdSl []) vc (.int kv (kv.wrap (w1+w2))) with
     |some val=>bif zbd (V.d vc)&&V.zok vc z&&decide (kv=ky)&&entC V (zr ops) (ops.size-5) s.n dL dB dE dX x i y bs s.gb s.kn es then
       K { s with sl:=drSl V (λ_=>true) bs ((ops.size-5+1,dB,[],.int kv (kv.wrap (w1+w2)))::(ops.size-5,dL,[],.int kv w1)::es),ob:=s.ob.set j (.x (.map kc vc E (cset (V.kl kc) m key val) none)) } else none
     |none=>none
    |_,_=>none
   |_,_=>none
  |_=>none
 |_,_,_=>none
def entX(ops:Array Oper)(s:SS V.T)(K:SS V.T->Option R):Option R:=match y3a ops with
 |some (dL,dB,dE,dX,t,x,i,y)=>zwy V N ops (y2k V ops s) 0 (ops.toList.take (ops.size-5)) s [] λs' es=>entK V N ops dL dB dE dX t x i y (y2k V ops s) s' es K
 |none=>none
def regX(inl:Nat->Inl V R)(ops:Array Oper)(draw:Bool)(s:SS V.T)(K:KX V R):Option R:=
 bif draw then(bif N.P.follows .mixedOrders then(bif (y3a ops).isSome then entX V N ops s (λs=>K .normal s) else bif y6o V ops s then y6a V N ops.toList s (λs=>K .normal s) else match y4q V N ops { s with sl:=yew V ops s } with
  | []=>(match tlOf V ops s with
   | []=>yce V N ops (y2k V ops s) 0 ops.toList s [] λs=>K .normal s
   |ls=>altT V N id one1 inl ops ls s K)
  |ls=>altT V N id one1 inl ops (ls++tlOf V ops s) s K) else none)
 else z59 V N inl ops.toList 0 ops.toList s λs=>K .normal s
def zqf(dfl:Inl V R):Code->SS V.T->KX V R->Option R
 | .skip,s,K=>K .normal s
 | .label _,s,K=>K .normal s
 | .region _ ops d,s,K=>regX V N (λ_=>dfl) ops d s K
 | .seq a b,s,K=>zqf dfl a s (seqK V (λs=>zqf dfl b s K) K)
 | .cond o a b,s,K=>y83 V s o (zqf dfl a s K) (zqf dfl b s K)
 | .block id c,s,K=>zqf dfl c s (blkK V id K)
 | .scope c,s,K=>zqf dfl c s (ngK V K)
 | .exit id,s,K=>K (.exit id) s
 | .ret,s,K=>K .ret s
 |_,_,_=>none
def dflN:Nat->Inl V R
 |0=>λ_ _ _ _=>none
 |n+1=>λ_ c s K=>zqf V N (dflN n) c s K
def zrv{α:Type}(x:Option α)(k:α->Option R):Option R:=match x with
 |some z=>k z
 |none=>none
abbrev Dfl(V:TE)(N:Env V)(R:Type):Inl V R:=dflN V N 8
structure Ex(V:TE)(R:Type)where
 run:Code->SS V.T->KX V R->Option R
 inl:Nat->Inl V R
def zde{T:Nat->Type}(sl:Sls T)(t:Nat):Bool:=match lk sl t with
 |some ([],_)=>true
 |_=>false
def clrG(s:SS V.T):SS V.T:={ s with sl:=s.sl.filter (λp=>zde s.sl p.1),gb:=[],kn:=[] }
def unrX(run:SS V.T->KX V R->Option R):Nat->SS V.T->KX V R->Option R
 |0,_,_=>none
 |n+1,s,K=>run (clrG V s) (seqK V (λs=>unrX run n s K) K)
def cutX(s:SS V.T)(t:Nat):SS V.T:=match lk s.sl t,lk s.gb t with
 |some ([],.prt i 0 hi z),none=>match s.ob[i]? with
  |some (.row E c l)=>bif Nat.beq z (V.sz c) then { s with sl:=(t,[],.own s.ob.length)::s.sl,ob:=s.ob.set i .emp++[.row E c (z5v l 0 hi)] } else s
  |_=>s
 |_,_=>s
def pkX(ops:Array Oper)(s:SS V.T)(K:KX V R):Option R:=match ops.toList with
 |o::os=>match o.op,o.guard with
  | .next x false,none=>match evO s.sl s.kn x with
   |some (.own j)=>match s.ob[j]? with
    |some (.x (.it kc vc rem _))=>match rem with
     | []=>after V s o.dst ([],.tup [.bool false]) λs=>z59 V N (λ_=>Dfl V N R) ops.toList 1 os s λs=>K .normal s
     |e::rem=>bif V.key kc then after V (updO V s j (.x (.it kc vc rem (some e)))) o.dst ([],.tup [.bool true,V.encV kc e.1,V.encV vc e.2]) λs=>z59 V N (λ_=>Dfl V N R) ops.toList 1 os s λs=>K .normal s else none
    |_=>none
   |_=>none
  |_,_=>none
 | []=>none
def rfL:Code->List (Operand×Array Tmp×Code×Code)
 | .rangeFunc g ps asg bd=>(g,ps,asg,bd)::(rfL asg++rfL bd)
 | .seq a b=>rfL a++rfL b
 | .cond _ a b=>rfL a++rfL b
 | .block _ a=>rfL a
 | .loop a=>rfL a
 | .scope a=>rfL a
 |_=>[]
def rfAt(P:Program)(f k:Nat):Option (Operand×Array Tmp×Code×Code):=match P.funcs[f]? with
 |some fn=>match fn.body with
  |some c=>(rfL c)[k]?
  |none=>none
 |none=>none
def noRF(c:Code):Bool:=match c with
 | .rangeFunc ..=>false
 | .seq a b=>noRF a&&noRF b
 | .cond _ a b=>noRF a&&noRF b
 | .block _ a=>noRF a
 | .loop a=>noRF a
 | .scope a=>noRF a
 |_=>true
def popG(f:Fm V.T):Fm V.T:={ f with n:=f.n-1,sl:=f.sl.filter λp=>!Nat.beq p.1 (f.n-1) }
def rfK(K:KX V R):KX V R:=λe s=>match e with
 | .ret | .normal=>match s.stk with
  |f::stk=>K .normal { popG V f with stk:=stk,ob:=s.ob }
  | []=>none
 |_=>none
def rfX(fi:Nat)(run:Code->SS V.T->KX V R->Option R)(g:Operand)(s:SS V.T)(K:KX V R):Option R:=match evO s.sl s.kn g,lk s.gb s.n with
 |some (.func f caps),none=>match N.P.funcs[f]? with
  |some fn=>match fn.body with
   |some c=>bif Nat.beq f fi&&zm.fnok N.P f&&Nat.ble (caps.length+1) fn.ntmps&&fn.results.isEmpty then
     run c { sl:=zfj V 0 (.own s.ob.length::caps),gb:=[],kn:=[],n:=fn.ntmps,stk:={ s.toFm with sl:=(s.n,[],.own s.ob.length)::s.sl,n:=s.n+1 }::s.stk,ob:=s.ob++[.emp] } (rfK V K) else none
   |none=>none
  |none=>none
 |_,_=>none
def zipP{T:Nat->Type}: List Nat->List (SV T)->Sls T->Sls T
 |p::ps,v::vs,sl=>zipP ps vs ((p,[],v)::sl)
 |_,_,sl=>sl
def ylX(run:Code->SS V.T->KX V R->Option R)(f k:Nat)(s:SS V.T)(K:KX V R):Option R:=match rfAt N.P f k,s.stk with
 |some (_,ps,asg,bd),_::ow::_=>bif noRF asg&&noRF bd&&Nat.beq ps.size s.sl.length&&ps.toList.all (λp=>Nat.blt p (ow.n-1)) then
   zqf V N (Dfl V N R) asg { sl:=zipP ps.toList (s.sl.map λx=>x.2.2) (ow.sl.filter λp=>zde ow.sl p.1&&Nat.blt p.1 (ow.n-1)),gb:=[],kn:=[],n:=ow.n-1,stk:=s.stk,ob:=s.ob }
    λe s1=>match e with
     | .normal=>run bd s1 K
     |_=>none
   else none
 |_,_=>none
mutual
def LC.eqZ(T:Nat->Type):(l:LC)->{r:Type}->(r->r->Prop)->LC.Z T l r->LC.Z T l r->Prop
 | .val _,_,P,z,z'=>z.1=z'.1/\P z.2 z'.2
 | .cmp _,_,P,z,z'=>z.1=z'.1/\P z.2 z'.2
 | .rop _,_,P,z,z'=>z.1=z'.1/\P z.2 z'.2
 | .rom _ _,_,P,z,z'=>z.1=z'.1/\P z.2 z'.2
 | .agg ls,_,P,z,z'=>eqZl T ls P z z'
 | .func _ ls,_,P,z,z'=>eqZl T ls P z z'
 | .own _,_,P,z,z'=>P z z'
 | .ptr _ _,_,P,z,z'=>P z z'
 | .nil,_,P,z,z'=>P z z'
 | .raw _,_,P,z,z'=>P z z'
def eqZl(T:Nat->Type):(ls:List LC)->{r:Type}->(r->r->Prop)->Zl T ls r->Zl T ls r->Prop
 | [],_,P,z,z'=>P z z'
 |l::ls,_,P,z,z'=>LC.eqZ T l (eqZl T ls P) z z'
end
def eqZs(T:Nat->Type):(ls:List (Nat×LC))->{r:Type}->(r->r->Prop)->Zs T ls r->Zs T ls r->Prop
 | [],_,P,z,z'=>P z z'
 |(_,l)::ls,_,P,z,z'=>LC.eqZ T l (eqZs T ls P) z z'
def eqZf(T:Nat->Type):(ls:List (Nat×List (Nat×LC)))->{r:Type}->(r->r->Prop)->Zf T ls r->Zf T ls r->Prop
 | [],_,P,z,z'=>P z z'
 |(_,l)::ls,_,P,z,z'=>eqZs T l (eqZf T ls P) z z'
def eqZo(T:Nat->Type):(os:List OC)->Zo T os->Zo T os->Prop
 | [],_,_=>True
 | .box _ ls::os,z,z'=>eqZl T ls (eqZo T os) z z'
 | .row _ _::os,z,z'=>z.1=z'.1/\eqZo T os z.2 z'.2
 | .map _ _ _::os,z,z'=>z.1=z'.1/\eqZo T os z.2 z'.2
 | .it _ _::os,z,z'=>z.1.Perm z'.1/\eqZo T os z.2 z'.2
 | .nst _ _ _ none::os,z,z'=>z.1=z'.1/\eqZo T os z.2 z'.2
 | .nst _ _ _ (some _)::os,z,z'=>z.1=z'.1/\z.2.1=z'.2.1/\eqZo T os z.2.2 z'.2.2
 | .fix _ _::os,z,z'=>z.1=z'.1/\eqZo T os z.2 z'.2
 | .emp::os,z,z'=>eqZo T os z z'
def Sh.eqZ(T:Nat->Type)(h:Sh):h.Z T->h.Z T->Prop:=eqZf T h.fr (eqZo T h.ob)
def ex(φ:Nat):H V R->Ex V R
 | .x=>⟨zqf V N (Dfl V N R),λ_=>Dfl V N R⟩
 | .seq h1 h2=>⟨λc s K=>match c with
  | .seq a b=>(ex φ h1).run a s (seqK V (λs=>(ex φ h2).run b s K) K)
  |_=>none,λ_=>Dfl V N R⟩
 | .cond h1 h2=>⟨λc s K=>match c with
  | .cond o a b=>y83 V s o ((ex φ h1).run a s K) ((ex φ h2).run b s K)
  |_=>none,λ_=>Dfl V N R⟩
 | .body h=>⟨λc s K=>match c with
  | .block id c=>(ex φ h).run c s (blkK V id K)
  | .scope c=>(ex φ h).run c s (ngK V K)
  |_=>none,λ_=>Dfl V N R⟩
 | .loop h L b=>⟨λc s K=>match c with
  | .loop _=>zrv (h.dec V s) (L φ)
  |_=>none,λ_=>Dfl V N R⟩
 | .join h J a=>⟨λc s K=>(ex φ a).run c s (seqK V (λs=>zrv (h.dec V s) J) K),λ_=>Dfl V N R⟩
 | .ins i f h rest=>⟨λc s K=>match c with
  | .region _ ops d=>regX V N (λk g c s K=>bif Nat.beq k i&&Nat.beq g f&&Nat.ble (g+1) YID then(ex φ h).run c s K else(ex φ rest).inl k g c s K) ops d s K
  |_=>none,λk g c s K=>bif Nat.beq k i&&Nat.beq g f&&Nat.ble (g+1) YID then(ex φ h).run c s K else(ex φ rest).inl k g c s K⟩
 | .foc p q h=>⟨λc s K=>match y5w V s p.1 p.2 with
  |some (.own i)=>bif y4d s.ob[i]? then focM V s i (keyX V s q) λs=>(ex φ h).run c s K else(match focP V p q s with
   |some (i,m)=>focX V s i m λs=>(ex φ h).run c s K
   |none=>none)
  |_=>none,(ex φ h).inl⟩
 | .unr n h=>⟨λc s K=>match c with
  | .loop c=>unrX V ((ex φ h).run c) n s K
  |_=>none,λ_=>Dfl V N R⟩
 | .alt h J _=>⟨λc s K=>match c with
  | .region _ _ _=>zrv (h.dec V s) J
  |_=>none,λ_=>Dfl V N R⟩
 | .pk h J=>⟨λc s K=>match c with
  | .region _ _ _=>zrv (h.dec V s) J
  |_=>none,λ_=>Dfl V N R⟩
 | .no=>⟨λ_ _ _=>none,λ_=>Dfl V N R⟩
 | .rf _ _ fi h=>⟨λc s K=>match c with
  | .rangeFunc g _ _ _=>rfX V N fi (ex φ h).run g s K
  |_=>none,λ_=>Dfl V N R⟩
 | .yl i f k h rest=>⟨λc s K=>match c with
  | .region _ ops d=>regX V N (λj g c s K=>bif Nat.beq j i&&Nat.beq g YID then ylX V N (ex φ h).run f k s K else(ex φ rest).inl j g c s K) ops d s K
  |_=>none,λj g c s K=>bif Nat.beq j i&&Nat.beq g YID then ylX V N (ex φ h).run f k s K else(ex φ rest).inl j g c s K⟩
 | .cut t h=>⟨λc s K=>(ex φ h).run c (cutX V s t) K,(ex φ h).inl⟩
 | .frz ps h=>⟨λc s K=>(ex φ h).run c (zv2 V s (ps.flatMap λp=>match y5w V s p.1 p.2 with|some (.ptr i 0)=>[i]|some x=>y9x x|none=>[])) K,(ex φ h).inl⟩
def y1p(inl:Nat->Inl V R)(ops:Array Oper)(i:Nat)(K:KX V R)(v:SV V.T)(s:SS V.T):Option R:=match ops[i]? with
 |some o=>after V s o.dst ([],v) λs=>z59 V N inl ops.toList (i+1) (ops.toList.drop (i+1)) s λs=>K .normal s
 |none=>none
def okO:SO V.T->Prop
 | .x (.map kc vc _ m none)=>Srt' (V.kl kc) m
 | .x (.it kc vc rem _)=>Ndp (V.kl kc) rem
 |_=>True
structure z6v{R:Type}(x:Option R)(y:Option (List (Option R))):Prop where
 ok:∀r,x=some r->∃L,y=some L/\∀a∈L,a=some r
def obl(φ:Nat):List (Option (Nat×Nat))->H V R->Option (Nat->Inl V R)->Code->KX V R->Prop
 |Γ,.x,_,_,_=>True
 |Γ,.no,_,_,_=>True
 |Γ,.seq h1 h2,_,.seq a b,K=>obl φ Γ h1 none a (seqK V (λs=>(ex V N φ h2).run b s K) K)/\obl φ Γ h2 none b K
 |Γ,.cond h1 h2,_,.cond _ a b,K=>obl φ Γ h1 none a K/\obl φ Γ h2 none b K
 |Γ,.body h,_,.block id c,K=>obl φ Γ h none c (blkK V id K)
 |Γ,.body h,_,.scope c,K=>obl φ Γ h none c (ngK V K)
 |Γ,.loop h L b,_,.loop c,K=>(∀z,L 0 z=none)/\(∀n z,L (n+1) z =(ex V N φ (b (L n))).run c (h.enc V z) (seqK V (λs=>zrv (h.dec V s) (L n)) K))/\
   ∀n,obl φ Γ (b (L n)) none c (seqK V (λs=>zrv (h.dec V s) (L n)) K)
 |Γ,.join h J a,_,c,K=>(∀z,J z=K .normal (h.enc V z))/\obl φ Γ a none c (seqK V (λs=>zrv (h.dec V s) J) K)
 |Γ,.ins i f h rest,full,.region id ops d,K=>(match N.P.funcs[f]? with
   |some fn=>match fn.body with
    |some c=>obl φ (none::Γ) h none c (inlK V N fn (y1p V N (full.getD (ex V N φ (.ins i f h rest)).inl) ops i K))
    |none=>False
   |none=>False)/\obl φ Γ rest (some (full.getD (ex V N φ (.ins i f h rest)).inl)) (.region id ops d) K
 |Γ,.rf f k fi h,_,.rangeFunc g ps asg bd,K=>rfAt N.P f k=some (g,ps,asg,bd)/\(match N.P.funcs[fi]? with
   |some fn=>match fn.body with
    |some c=>obl φ (some (f,k)::Γ) h none c (rfK V K)
    |none=>False
   |none=>False)
 |Γ,.yl i f k h rest,full,.region id ops d,K=>(Γ.head? = some (some (f,k))/\N.P.funcs[YID]? = none/\(match rfAt N.P f k with
   |some (_,_,_,bd)=>obl φ (none::none::Γ.tail) h none bd (yK V (y1p V N (full.getD (ex V N φ (.yl i f k h rest)).inl) ops i K))
   |none=>False))/\obl φ Γ rest (some (full.getD (ex V N φ (.yl i f k h rest)).inl)) (.region id ops d) K
 |Γ,.alt h J J2,_,.region _ ops d,K=>(d&&N.P.follows .mixedOrders)=true/\(∀z,J2 z=altT V N (λx=>some [x]) catL (λ_=>Dfl V N R) ops (y4q V N ops { h.enc V z with sl:=yew V ops (h.enc V z) }++tlOf V ops (h.enc V z)) (h.enc V z) K)/\∀z,z6v (J z) (J2 z)
 |Γ,.pk h J,_,.region _ ops d,K=>d=false/\(∀z,J z=pkX V N ops (h.enc V z) K)/\∀z z',h.eqZ V.T z z'->(∀o∈(h.enc V z).ob,okO V o)->J z'=J z
 |Γ,.unr _ h,_,.loop c,K=>∀K',obl φ Γ h none c K'
 |Γ,.foc _ _ h,full,c,K=>obl φ Γ h full c K
 |Γ,.frz _ h,full,c,K=>obl φ Γ h full c K
 |Γ,.cut _ h,full,c,K=>obl φ Γ h full c K
 |_,_,_,_,_=>False
def decR(s:SS V.T):(cs:List RC)->List (SV V.T)->Option (RTup V.T cs)
 | [],[]=>some ()
 | .val c::cs,x::l=>match V.dec (rdSl []) c x,decR s cs l with
  |some y,some r=>some (y,r)
  |_,_=>none
 | .row E c::cs,x::l=>match x,decR s cs l with
  | .own i,some r=>match s.ob[i]? with
   |some (.row E' c' y)=>bif Nat.beq E E' then(if h:c'=c then some (h ▸ y,r) else none) else none
   |_=>none
  |_,_=>none
 |_,_=>none
def zxw:List RC->List (SV V.T)->List Nat
 | .val _::cs,x::l=>y9x x++zxw cs l
 | .row ..::cs,_::l=>zxw cs l
 |_,_=>[]
def zn2:List RC->List (SV V.T)->List Nat
 | .row ..::cs,.own i::l=>i::zn2 cs l
 |_::cs,_::l=>zn2 cs l
 |_,_=>[]
def retK(fn:Func)(cs:List RC):KX V (RTup V.T cs):=λe s=>match e with
 | .ret | .normal=>match zhi V N s fn.results.toList with
  |some l=>match zhi V N (zv2 V s (zxw V cs l)) fn.results.toList with
   |some l'=>bif zgl (zn2 V cs l') then decR V (zv2 V s (zxw V cs l)) cs l' else none
   |none=>none
  |none=>none
 |_=>none
def encA :(cs:List Nat)->Tup V.T cs->List (SV V.T)
 | [],_=>[]
 |c::cs,x=>V.encV c x.1::encA cs x.2
def fnX(φ:Nat)(fn:Func)(as:List Nat)(rs:List RC)(h:H V (RTup V.T rs))(a:Tup V.T as):Option (RTup V.T rs):=match fn.body with
 |some c=>(ex V N φ h).run c { sl:=zfj V 0 (encA V as a),gb:=[],kn:=[],n:=fn.ntmps,stk:=[],ob:=[] } (retK V N fn rs)
 |none=>none
def fnV(φ:Nat)(fn:Func)(rs:List RC)(h:H V (RTup V.T rs))(vs:List (SV V.T)):Option (RTup V.T rs):=match fn.body with
 |some c=>(ex V N φ h).run c { sl:=zfj V 0 vs,gb:=[],kn:=[],n:=fn.ntmps,stk:=[],ob:=[] } (retK V N fn rs)
 |none=>none
def fnXc(φ:Nat)(fn:Func)(as:List Nat)(cs:List KC)(rs:List RC)(h:H V (RTup V.T rs))(a:Tup V.T as)(b:KCs V.T cs):Option (RTup V.T rs):=fnV V N φ fn rs h (encA V as a++encK V cs b)
def yeb(fn:Func)(E c:Nat)(s:SS V.T):Option (List (V.T c)):=bif fn.results.isEmpty then(match s.stk with
  | [f]=>match lk f.sl 0 with
   |some ([],.own j)=>match s.ob[j]? with
    |some (.row E' c' l)=>bif Nat.beq E' E then(if h:c'=c then some (h ▸ l) else none) else none
    |_=>none
   |_=>none
  |_=>none) else none
def retM(fn:Func)(E c:Nat):KX V (List (V.T c)):=λe s=>match e with
 | .ret | .normal=>yeb V fn E c s
 |_=>none
def encM :(ms:List MA)->MTup V.T ms->List (SV V.T)
 | [],_=>[]
 | .fn f::ms,x=>.func f []::encM ms x.2
 | .val c::ms,x=>V.encV c x.1::encM ms x.2
 | .cmp c::ms,x=>.cmp c x.1::encM ms x.2
def fnM(φ:Nat)(fn:Func)(E c:Nat)(ms:List MA)(h:H V (List (V.T c)))(l:List (V.T c))(a:MTup V.T ms):Option (List (V.T c)):=match fn.body with
 |some b=>(ex V N φ h).run b { sl:=zfj V 0 (.own 0::encM V ms a),gb:=[],kn:=[],n:=fn.ntmps,stk:=[⟨[(0,[],.own 0)],[],[],1⟩],ob:=[.row E c l] } (retM V fn E c)
 |none=>none
def fnMO(φ:Nat)(fn:Func)(E c:Nat)(h:H V (List (V.T c))):Prop:=match fn.body with
 |some b=>obl V N φ [none] h none b (retM V fn E c)
 |none=>False
def fnO(φ:Nat)(fn:Func)(rs:List RC)(h:H V (RTup V.T rs)):Prop:=match fn.body with
 |some c=>obl V N φ [] h none c (retK V N fn rs)
 |none=>False
end
end Px
end
section
namespace Px
open Go Go.RowKit
theorem zdn.mono[Dr]{P:Program}{f:FuncId}{args:List VP}{K K':VP->List HP->Prop}(h:zdn P f args K)(hk:∀x news,K x news->K' x news):zdn P f args K':=by intro r w vs h1 h2 h3;refine(h r w vs h1 h2 h3).mono ?_;rintro e w' ⟨v,x,objs,r',S',he,h4,h5,h6,h7⟩;exact⟨v,x,objs,r',S',he,h4,h5,h6,hk _ _ h7⟩
theorem z8e{gb:List (Nat×Bool)}: ∀{ch:Ch},chP gb ch↔∀p∈ch,(lk gb p.1).getD false=p.2
 | []=>by simp[chP]
 | [(t,w)]=>by simp[chP]
 |(t,w)::a::r=>by
  rw[chP,z8e (ch:=a::r)]
  .simp only[List.forall_mem_cons];exact⟨λ⟨h1,h2⟩=>⟨h2,h1⟩,λ⟨h1,h2⟩=>⟨h2,h1⟩⟩
  .simp
theorem y8q{c:Ch}{p:Nat×Bool}(h:inCh c p=true):p∈c:=by simp only[inCh,w2h,w03,beq_iff_eq] at h;obtain⟨q,hq,h1,h2⟩:=h;have h1:=w01 h1;cases q;cases p;simp at h1 h2;subst h1;subst h2;exact hq
theorem yai{gb:List (Nat×Bool)}{a b:Ch}(h:y6s a b=true)(hb:chP gb b):chP gb a:=by rw[z8e] at hb⊢;simp only[y6s,w0g] at h;exact λp hp=>hb p (y8q (h p hp))
theorem z4d{gb:List (Nat×Bool)}{a b:Ch}(ha:chP gb a)(hb:chP gb b):chP gb (a++b):=by
 rw[z8e] at *;intro p hp;rcases w0m.1 hp with h|h
 .exact ha p h
 .exact hb p h
theorem Ev.ent'{s:St}{x:Operand}{A B:VP}(h:Ev s x A)(e:Ent A B):Ev s x B:=λa r w hs=>e r w _ (h a r w hs)
section
variable(V:TE)(P:Program)
theorem ycd[Dr]{A:Asg}{gb:List (Nat×Bool)}{ch:Ch}{x:SV V.T}(h:chP gb ch):Ent (denE V P A gb (ch,x)) (x.den V P A):=by
 unfold denE;cases ch with
 |nil=>exact Ent.refl
 |cons a r=>exact λro w v hv=>hv.1 h
theorem y5e[Dr]{A:Asg}(v:Value):(zt9 v:SV V.T).den V P A=eqv v:=by cases v<;>rfl
theorem z0t[Dr]{A:Asg}{s:SS V.T}{ch:Ch}{o:Operand}{x:SV V.T}(h:evO s.sl ch o=some x)(hc:chP s.gb ch):Ev (s.st V P A) o (x.den V P A):=by
 cases o with
 |tmp t=>
  simp only[evO] at h;cases h1:lk s.sl t with
  |none=>rw[h1] at h;cases h
  |some e=>
   obtain⟨c,y⟩:=e;rw[h1] at h;simp only at h;cases h2:y6s c ch with
   |false=>rw[h2] at h;cases h
   |true=>rw[h2] at h;simp only[cond_true,w00] at h;subst h;refine Ev.ent' (Ev.tmp (A:=denE V P A s.gb (c,y)) ?_) (ycd V P (yai h2 hc));simp[SS.st,slD,h1]
 |const v=>simp only[evO,w00] at h;subst h;rw[y5e];exact Ev.const v
 |func f=>simp only[evO,w00] at h;subst h;refine Ev.ent' (Ev.func f) ?_;simp only[SV.den,denV];exact y3m
 |global g=>simp[evO] at h
theorem zww[Dr]{A:Asg}(x:SV V.T):(denL V P A [x]).length=csz V x:=by cases x<;>simp[denL,csz];exact zfk (V.ev_len _)
theorem z2l[Dr]{A:Asg}(x:SV V.T)(l:List (SV V.T)):denL V P A (x::l)=denL V P A [x]++denL V P A l:=z1r V P A [x] l
theorem ze5[Dr]{A:Asg}: ∀(l:List (SV V.T)),(denL V P A l).length=clen V l
 | []=>by simp[denL,clen]
 |x::l=>by rw[z2l,w0d,zww,ze5 l];simp[clen]
theorem zcg[Dr]{A:Asg}: ∀(l:List (SV V.T))(n:Nat)(m:List (SV V.T)),z6u V l n=some m->denL V P A m =(denL V P A l).drop n/\n<=(denL V P A l).length
 | [],n,m,h=>by
  simp only[z6u] at h;cases hb:Nat.beq n 0 with
  |false=>rw[hb] at h;cases h
  |true=>rw[hb] at h;simp at h;subst h;have:=w01 hb;subst this;simp[denL]
 |x::l,n,m,h=>by
  simp only[z6u] at h;cases hb:Nat.beq n 0 with
  |true=>rw[hb] at h;simp at h;subst h;have:=w01 hb;subst this;simp
  |false=>
   rw[hb] at h;simp only[cond_false] at h;cases hl:Nat.ble (csz V x) n with
   |false=>rw[hl] at h;cases h
   |true=>rw[hl] at h;simp only[cond_true] at h;have hle:=w0p hl;obtain⟨h1,h2⟩:=zcg (A:=A) l _ m h;have hx:=zww V P (A:=A) x;rw[z2l,w0d,hx];refine⟨?_,by omega⟩;rw[h1];rw[w51,List.drop_eq_nil_of_le (as:=denL V P A [x]) (by omega),hx,w2u]
theorem zin[Dr]{A:Asg}: ∀(l:List (SV V.T))(n:Nat)(m:List (SV V.T)),znu V l n=some m->denL V P A m =(denL V P A l).take n/\n<=(denL V P A l).length
 | [],n,m,h=>by
  simp only[znu] at h;cases hb:Nat.beq n 0 with
  |false=>rw[hb] at h;cases h
  |true=>rw[hb] at h;simp at h;subst h;have:=w01 hb;subst this;simp[denL]
 |x::l,n,m,h=>by
  simp only[znu] at h;cases hb:Nat.beq n 0 with
  |true=>rw[hb] at h;simp at h;subst h;have:=w01 hb;subst this;simp[denL]
  |false=>
   rw[hb] at h;simp only[cond_false] at h;cases hl:Nat.ble (csz V x) n with
   |false=>rw[hl] at h;cases h
   |true=>
    rw[hl] at h;simp only[cond_true] at h;cases hk:znu V l (n-csz V x) with
    |none=>rw[hk] at h;cases h
    |some k=>rw[hk] at h;simp only[w00] at h;subst h;have hle:=w0p hl;obtain⟨h1,h2⟩:=zin (A:=A) l _ k hk;have hx:=zww V P (A:=A) x;rw[z2l,z2l V P x l,w0d,hx];refine⟨?_,by omega⟩;rw[h1,w36,hx,w24 (l:=denL V P A [x]) (by omega)]
theorem zpv[Dr]{A:Asg}{l new m:List (SV V.T)}{o n:Nat}(h:splC V l o new n=some m):denL V P A m =(denL V P A l).take o++denL V P A new++(denL V P A l).drop (o+n)/\o+n<=(denL V P A l).length:=by
 unfold splC at h;cases h1:znu V l o with
 |none=>rw[h1] at h;cases h
 |some a=>
  cases h2:z6u V l (o+n) with
  |none=>rw[h1,h2] at h;cases h
  |some b=>rw[h1,h2] at h;simp only[w00] at h;subst h;obtain⟨e1,_⟩:=zin V P (A:=A) l o a h1;obtain⟨e2,h3⟩:=zcg V P (A:=A) l _ b h2;exact⟨by rw[z1r,z1r,e1,e2],h3⟩
theorem zn[Dr]{A:Asg}: ∀{ps:Asg}{os:List (SO V.T)}{i:Nat}{p:Nat×Value}{o:SO V.T},ps[i]? = some p->os[i]? = some o->(obD V P A ps os)[i]? = some (o.den V P A p)
 | [],_,_,_,_,h,_=>by simp at h
 |_::_,[],_,_,_,_,h=>by simp at h
 |p::ps,o::os,0,_,_,h,k=>by simp at h k;subst h;subst k;rfl
 |p::ps,o::os,i+1,_,_,h,k=>by simp at h k;simp only[obD,w20];exact zn h k
theorem z6b[Dr]{s:St}{x:Operand}{C:Cx P}{o:Oper}{y:VP}(h:Ev s x nov):OpQ C o s y:=by intro a w r S Q hd hn hw hs;exact(h a r w hs).elim
theorem zwu[Dr]{A:Asg}{x:SV V.T}(h:z15 x=true):x.den V P A=Px.agg (denL V P A (cellsOf x)):=by cases x<;>simp[z15] at h<;>simp[cellsOf,SV.den,denL]
theorem zir[Dr]{A:Asg}{x:SV V.T}(h:z15 x=false):denL V P A [x] = [x.den V P A]:=by cases x<;>simp[z15] at h<;>rfl
end
end Px
end
section
namespace Px
open Go Go.RowKit
section
variable(V:TE)(P:Program)
theorem y6h{T:Nat->Type}{l:List (SV T)}{x:SV T}(h:y0b l=some x):l = [x]:=by
 match l,h with
 | [y],h=>simp[y0b] at h;rw[h]
theorem zh3{α:Type}{z:α}{l:List α}{i:Int}(h:0<=i/\i<(l.length:Int)):l[i.toNat]? = some (gtz z l i):=by
 have hlt:i.toNat<l.length:=by omega
 simp[gtz,hlt]
theorem ygh[Dr]{C:Cx P}{s:St}{x:Operand}{i E c fo:Nat}{k:Int}{l:List (V.T c)}{sv:Value}(hx:Ev s x (eltp sv k (k.toNat*V.sz c+fo)))(ho:s.objs[i]? = some (row E (V.ev c) (V.sz c) l sv)):
  Pt C s x ((V.ev c (gtz (V.z c) l k)).drop fo):=by
 intro a r S w hw hs;obtain⟨g,n,cap,hv,_,h0,h1⟩:=hx a r w hs;have hlen:n=l.length\/False:=by
  rcases hw.obj i _ ho with⟨hn,_⟩|⟨g',cap',cur,hv',_⟩
  .rw[hv] at hn;cases hn
  .rw[hv] at hv';simp only[Value.slice.injEq] at hv';exact .inl hv'.2.1
 rcases hlen with rfl|hf
 .exact Pt.row C i (V.ev_len c) (Ev.ent' hx zsd) ho rfl (zh3 ⟨h0,h1⟩) rfl a r S w hw hs
 .exact hf.elim
theorem ye4[Dr]{C:Cx P}{s:St}{x:Operand}{i E c fo:Nat}{k:Int}{l:List (V.T c)}{sv:Value}(hx:Ev s x (eltp sv k (k.toNat*V.sz c+fo)))(ho:ObIs s.objs i (row E (V.ev c) (V.sz c) l sv)):
  Pt C s x ((V.ev c (gtz (V.z c) l k)).drop fo):=by
 intro a r S w hw hs;obtain⟨g,n,cap,hv,hx,h0,h1⟩:=hx a r w hs;refine⟨g,_,hx,?_⟩;rcases ObIs.at hw ho with⟨hn,_⟩|⟨g',cap',cur,hv',hS,hcur,hl,hm,hsz,hh⟩
 .rw[hv] at hn;cases hn
 .rw[hv] at hv';simp only[Value.slice.injEq,w00,Addr.mk.injEq] at hv';obtain⟨⟨rfl,_⟩,rfl,_⟩:=hv';intro j A hj;rw[w1l] at hj;have hfm:=z3g (V.ev_len c) l k.toNat _ (zh3 (z:=V.z c) ⟨h0,h1⟩) (fo+j) A hj;obtain⟨u,hu,hA,h1⟩:=hh.2 _ _ hfm;refine⟨u,?_,hA,h1⟩;rw[w0r] at hu;split at hu
  .rw[cell_of_row w g _ cur E (0,0) hcur,w2k];simpa using hu
  .cases hu
theorem zut[Dr]{A:Asg}{s:SS V.T}{j E c:Nat}{l:List (V.T c)}{q:Nat×Value}(ha:A[j]? = some q)(ho:s.ob[j]? = some (.x (.fix E c l))):ObIs (s.st V P A).objs j (row E (V.ev c) (V.sz c) l q.2):=⟨_,zn V P ha ho,λ_ _ _ h=>h.2⟩
def LdR[Dr](C:Cx P)(s:St)(x:Operand)(g:Bool)(n:Nat)(v:VP):Prop:=Ev s x nov\/(g=false/\∃cs,Pt C s x (v::cs))\/(g=true/\∃cs,v=Px.agg cs/\cs.length=n/\Pt C s x cs)
theorem yfn[Dr]{C:Cx P}{A:Asg}{s:SS V.T}{g:Bool}{n:Nat}{p v:SV V.T}{x:Operand}(h:ld V s g n p=some v)(hx:Ev (s.st V P A) x (p.den V P A)):
  LdR P C (s.st V P A) x g n (v.den V P A):=by
 have fin:∀(cs:List (SV V.T)),zgg V g n (some cs)=some v->Pt C (s.st V P A) x (denL V P A cs)->LdR P C (s.st V P A) x g n (v.den V P A):=by
  intro cs hc hp;simp only[zgg] at hc;cases h1:znu V cs n with
  |none=>rw[h1] at hc;cases hc
  |some l=>
   rw[h1] at hc;obtain⟨e,hl⟩:=zin V P (A:=A) cs n l h1;have hlen :(denL V P A l).length=n:=by rw[e,w1f];omega
   have hp':=hp.take n e.symm;cases g with
   |true=>simp only[cond_true,w00] at hc;subst hc;simp only[SV.den];exact .inr (.inr ⟨rfl,_,rfl,hlen,hp'⟩)
   |false=>
    simp only[cond_false] at hc;cases h2:y0b l with
    |none=>rw[h2] at hc;cases hc
    |some y=>
     rw[h2] at hc;simp only at hc;have hl1:=y6h h2;subst hl1;cases h3:z15 y with
     |true=>rw[h3] at hc;cases hc
     |false=>rw[h3] at hc;simp only[cond_false,w00] at hc;subst hc;rw[zir V P h3] at hp';exact .inr (.inl ⟨rfl,_,hp'⟩)
 have dr:∀(cs:List (SV V.T))(o:Nat),zgg V g n (z6u V cs o)=some v->Pt C (s.st V P A) x ((denL V P A cs).drop o)->LdR P C (s.st V P A) x g n (v.den V P A):=by
  intro cs o hc hp;cases h1:z6u V cs o with
  |none=>rw[h1] at hc;cases hc
  |some m=>rw[h1] at hc;have e:=(zcg V P (A:=A) cs o m h1).1;exact fin m hc (by rw[e];exact hp)
 cases p with
 |ptr i off=>
  simp only[ld] at h;cases ho:s.ob[i]? with
  |none=>rw[ho] at h;cases h
  |some ob=>
   rw[ho] at h;cases ob with
   |box T cs=>
    simp only at h;simp only[SV.den] at hx;cases ha:A[i]? with
    |none=>rw[ha] at hx;exact .inl hx
    |some q=>obtain⟨b,u⟩:=q;rw[ha] at hx;exact dr cs off h (Pt.box i hx (zn V P ha ho) rfl)
   |row _ _ _=>cases h
   |x _=>cases h
   |emp=>cases h
 |pta i off m z idx cnt fo=>
  simp only[ld] at h;cases ho:s.ob[i]? with
  |none=>rw[ho] at h;cases h
  |some ob=>
   rw[ho] at h;cases ob with
   |box T cs=>
    simp only at h;cases hcd:z6u V cs off with
    |none=>rw[hcd] at h;cases h
    |some cs'=>
     rw[hcd] at h;cases cs' with
     |nil=>cases h
     |cons y post=>
      cases y with
      |arr m' c f=>
       simp only at h;cases hb :(Nat.beq m m'&&Nat.beq z (V.sz c)&&Nat.beq cnt 1) with
       |false=>rw[hb] at h;cases h
       |true=>
        rw[hb] at h;simp only[cond_true] at h;simp only[w03] at hb;have e1:=w01 hb.1.1;have e2:=w01 hb.1.2;have e3:=w01 hb.2;subst e1;subst e2;subst e3;simp only[SV.den] at hx;cases ha:A[i]? with
        |none=>rw[ha] at hx;exact .inl hx
        |some q=>
         obtain⟨b,u⟩:=q;rw[ha] at hx;have e:=(zcg V P (A:=A) cs off _ hcd);have hsplit:denL V P A cs =(denL V P A cs).take off++Px.arr m (V.ev c) f++denL V P A post:=by have:=w14 off (denL V P A cs);rw[<- e.1] at this;simpa only[denL,w0t] using this.symm
         have hob:=zn V P (A:=A) (ps:=A) ha ho;simp only[SO.den] at hob;rw[hsplit] at hob;refine dr (V.enc c (f idx)) fo h ?_;rw[z1b];intro a r S w hw hs;obtain⟨hlt,hv⟩:=hx a r w hs;refine Pt.ofArrF (C:=C) (s:=s.st V P A) (x:=.const (.pointer (some ⟨b,off+idx*V.sz c+fo,none⟩))) i (Ev.const _) hob (V.ev_len c) (by rw[w1f];omega) (by omega) rfl a r S w hw hs |>.imp λb' ⟨o',e1,e2⟩=>⟨o',?_,e2⟩
         rw[hv,<- e1];rfl
      |_=>cases h
   |row _ _ _=>cases h
   |x _=>cases h
   |emp=>cases h
 |rop cs=>simp only[ld] at h;simp only[SV.den] at hx;exact fin cs h (Pt.rop hx)
 |elt i k z fo=>
  simp only[ld] at h;cases ho:s.ob[i]? with
  |none=>rw[ho] at h;cases h
  |some ob=>
   rw[ho] at h;cases ob with
   |row E c l=>
    simp only at h;cases hb:Nat.beq z (V.sz c) with
    |false=>rw[hb] at h;cases h
    |true=>
     rw[hb] at h;simp only[cond_true] at h;have e1:=w01 hb;subst e1;simp only[SV.den] at hx;cases ha:A[i]? with
     |none=>rw[ha] at hx;exact .inl hx
     |some q=>obtain⟨b,u⟩:=q;rw[ha] at hx;have hob:=zn V P (A:=A) (ps:=A) ha ho;refine dr (V.enc c (gtz (V.z c) l k)) fo h ?_;rw[z1b];exact ygh V P hx hob
   |x o=>
    cases o with
    |fix E c l=>
     simp only at h;cases hb:Nat.beq z (V.sz c) with
     |false=>rw[hb] at h;cases h
     |true=>
      rw[hb] at h;simp only[cond_true] at h;have e1:=w01 hb;subst e1;simp only[SV.den] at hx;cases ha:A[i]? with
      |none=>rw[ha] at hx;exact .inl hx
      |some q=>obtain⟨b,u⟩:=q;rw[ha] at hx;refine dr (V.enc c (gtz (V.z c) l k)) fo h ?_;rw[z1b];exact ye4 V P hx (zut V P ha ho)
    |map _ _ _ _ _=>cases h
    |it _ _ _ _=>cases h
    |nst _ _ _ _ _=>cases h
   |box _ _=>cases h
   |emp=>cases h
 |_=>simp[ld] at h
theorem yh9[Dr]{C:Cx P}{A:Asg}{s:SS V.T}{g:Bool}{n:Nat}{p v:SV V.T}{t:TypeId}{x:Operand}{dst:Option Tmp}{ty:TypeId}{pos:String}{after:Array Edge}{guard:Option (Nat×Bool)}(ht:z3s P t=some (g,n))(h:ld V s g n p=some v)(hx:Ev (s.st V P A) x (p.den V P A)):
  OpQ C ⟨dst,.load t x,ty,pos,after,guard⟩ (s.st V P A) (v.den V P A):=by
 rcases yfn V P (C:=C) h hx with h1|⟨rfl,cs,h1⟩|⟨rfl,cs,e,hl,h1⟩
 .exact z6b P h1
 .exact y5s ht h1
 .rw[e];exact y9q ht hl h1
end
end Px
end
section
namespace Px
open Go Go.RowKit
section
variable(V:TE)
def vls :(cs:List Nat)->Tup V.T cs->List VP
 | [],_=>[]
 |c::cs,x=>V.vl c x.1::vls cs x.2
def Kres[Dr](P:Program)(res:List RC)(r:RTup V.T res)(x:VP)(news:List HP):Prop:=∃B:Asg,B.length =(newR V res r).length/\x =(resV V (encR V 0 res r)).den V P B/\news=obD V P B B (newR V res r)
def z1k[Dr](P:Program)(f:Nat)(sp:Fsp V):Prop:=∀a r,sp.F a=some r->zdn P f (vls V sp.args a) (Kres V P sp.res r)
def msD[Dr](P:Program):(ms:List MA)->MTup V.T ms->List VP
 | [],_=>[]
 | .fn f::ms,x=>eqv (.func (.func f) #[] #[])::msD P ms x.2
 | .val c::ms,x=>V.vl c x.1::msD P ms x.2
 | .cmp c::ms,x=>fcmp P (λy=>V.vl c y) x.1::msD P ms x.2
def zme[Dr](P:Program)(f:Nat)(m:Msp V):Prop:=∀l a l' sv,m.F l a=some l'->MutT P f (eqv sv::msD V P m.ms a) m.E (V.ev m.c) (V.sz m.c) l sv λx l2=>x=eqv (.tuple #[])/\l2=l'
def y0k[Dr](P:Program)(f:Nat)(m:Csp V):Prop:=∀a b r,m.F a b=some r->zdn P f (vls V m.args a++denV V P [] (encK V m.caps b)) (Kres V P m.res r)
def rop0(cs:List VP):VP:=⟨λr w v=>∃b,v = .pointer (some ⟨b,0,none⟩)/\r b/\z3u w r b 0 cs,λh1 h2 ⟨b,hv,hr,h⟩=>⟨b,hv,h1 _ hr,h.wk h1 h2 (h2 _ hr)⟩⟩
def SoOK[Dr](P:Program)(f:Nat)(sp:SoSp):Prop:=∀m:List (V.T sp.kc×V.T sp.vc),soK (V.kl sp.kc) m=true->
 zdn P f [fnc sp.g [rop0 [V.mv V.ev sp.kc sp.vc m]]] λx news=>∃sv,x=eqv sv/\news = [row sp.E (V.ev sp.kc) (V.sz sp.kc) (m.map (·.1)) sv]
structure z4t[Dr](N:Env V):Prop where
 cl:∀f m,N.cl f=some m->y0k V N.P f m
 mu:∀f m,N.mu f=some m->zme V N.P f m
 fn:∀f sp,N.fn f=some sp->z1k V N.P f sp
 so:∀f sp,N.so f=some sp->SoOK V N.P f sp
end
theorem z4o{R:Type}{gb:List (Nat×Bool)}{cur:Ch}{p:Prop}[Decidable p]{k:Option R}{r:R}(h:ckG gb cur p k=some r):(chP gb cur->p)/\k=some r:=by
 cases cur with
 |nil=>exact⟨λ_=>(zcv h).1,(zcv h).2⟩
 |cons a l=>
  simp only[ckG,ck] at h;split at h
  .rename_i hh;exact⟨hh,h⟩
  .cases h
theorem zrz{α R:Type}{gb:List (Nat×Bool)}{cur:Ch}{z:α}{x:Option α}{k:α->Option R}{r:R}(h:zry gb cur z x k=some r):∃y,(chP gb cur->x=some y)/\k y=some r:=by
 cases cur with
 |nil=>obtain⟨y,e,hk⟩:=bind_some h;exact⟨y,λ_=>e,hk⟩
 |cons a l=>
  obtain⟨y,e,hk⟩:=bind_some h;refine⟨y,λhc=>?_,hk⟩;unfold z0a at e
  rwa [if_pos hc] at e
theorem FEnt.rowI[Dr]{P:Program}{C:Cx P}{s:St}{α:Type}(i:Nat){E:TypeId}{e:α->List VP}{sz:Nat}{l:List α}{sv:Value}(he:∀x,(e x).length=sz)(ho:ObIs s.objs i (Px.row E e sz l sv)):FEnt C s (eqv sv) (Px.ro e sz l):=by
 intro r S w v hw h;simp only[eqv] at h;subst h;rcases ObIs.at hw ho with⟨rfl,rfl⟩|⟨g,cap,cur,rfl,hS,hcur,hl,hm,hsz,hh⟩
 .exact .inl ⟨⟨none,0,rfl⟩,rfl⟩
 .refine .inr ⟨g,0,cap-l.length,by rw[w2m hl],λk x hk=>⟨.inr ⟨i,hS⟩,λj A hj=>?_⟩⟩;obtain⟨u,hu,hA,h1⟩:=hh.2 _ A (z3g he l k x hk j A hj);refine⟨u,?_,A.mono (λb hb=>.inl hb) (λ_ _=>rfl) hA,h1⟩;rw[w1c,cell_of_row w g _ cur E (0,0) hcur];rw[w0r] at hu;split at hu
  .simpa using hu
  .cases hu
section
variable(V:TE)(P:Program)
theorem z4h[Dr]{A:Asg}{c:Nat}{x:SV V.T}{y:V.T c}(h:V.dec (rdSl []) c x=some y):Ent (x.den V P A) (V.vl c y):=y2z (zpp []) (λ_ _ _ _ _=>zlg) (λ_=>Ent.refl) (λ_ _ _ h=>ztb h) (λ_ _ h=>Ent.agg h.ents) h
theorem FEnt.nilM[Dr]{C:Cx P}{s:St}{kc vc:Nat}: FEnt C s (eqv (.map none)) (V.mv V.ev kc vc []):=λr S w v hw h=>.inl ⟨h,rfl⟩
theorem y88[Dr]{C:Cx P}{A:Asg}{s:SS V.T}{c:Nat}{x:SV V.T}{y:V.T c}(h:V.dec (rdSl s.ob) c x=some y):FEnt C (s.st V P A) (x.den V P A) (V.vl c y):=by
 refine y2z (R:=FEnt C (s.st V P A)) (zpp s.ob) (λ_ _ _ _ _=>FEnt.nilM V P) (λ_=>FEnt.refl) (λc y l h=>?_) (λ_ _ h=>FEnt.agg h.fents) h;unfold rdSl at h;split at h
 .split at h
  .rename_i e;subst e;simp only[w00] at h;subst h;exact FEnt.refl
  .cases h
 .rename_i i;cases ho:s.ob[i]? with
  |none=>rw[ho] at h;cases h
  |some o=>
   rw[ho] at h;cases o with
   |row E c' l'=>
    simp only at h;split at h
    .rename_i e;subst e;simp only[w00] at h;subst h;simp only[SV.den];cases ha:A[i]? with
     |none=>exact λr S w v _ hv=>hv.elim
     |some q=>exact FEnt.row i (V.ev_len _) (zn V P ha ho)
    .cases h
   |x o=>
    cases o with
    |fix E c' l'=>
     simp only at h;split at h
     .rename_i e;subst e;simp only[w00] at h;subst h;simp only[SV.den];cases ha:A[i]? with
      |none=>exact λr S w v _ hv=>hv.elim
      |some q=>exact FEnt.rowI i (V.ev_len _) (zut V P ha ho)
     .cases h
    |map _ _ _ _ _=>cases h
    |it _ _ _ _=>cases h
    |nst _ _ _ _ _=>cases h
   |box _ _=>cases h
   |emp=>cases h
 .simp only[w00] at h;subst h;exact FEnt.nil
 .cases h
theorem FEnt.box[Dr]{C:Cx P}{s:St}(i:Nat){b:Nat}{T:TypeId}{cs ds:List VP}(ho:s.objs[i]? = some (Px.box b T cs))(h:zka C s cs ds):FEnt C s (eqv (.pointer (some ⟨b,0,none⟩))) (Px.rop ds):=by intro r S w v hw hv;have hv:v = .pointer (some ⟨b,0,none⟩):=hv;subst hv;obtain⟨hS,cur,hcur,hh⟩:=hw.obj i _ ho;obtain⟨h1,h2⟩:=h.ok;refine⟨b,0,rfl,.inr ⟨i,hS⟩,λj B hB=>?_⟩;obtain⟨A,hA,hAB⟩:=h2 j B hB;obtain⟨u,hu,hAu,ho1⟩:=hh.2 j A hA;refine⟨u,?_,hAB r S w u hw hAu,ho1⟩;rw[w1c,cell_of_row w b j cur T (0,0) hcur];simpa using hu
theorem FEnt.box0[Dr]{C:Cx P}{s:St}(i:Nat){b:Nat}{T:TypeId}{cs ds:List VP}(ho:s.objs[i]? = some (Px.box b T cs))(h:zka C s cs ds):FEnt C s (eqv (.pointer (some ⟨b,0,none⟩))) (rop0 ds):=by intro r S w v hw hv;have hv:v = .pointer (some ⟨b,0,none⟩):=hv;subst hv;obtain⟨hS,cur,hcur,hh⟩:=hw.obj i _ ho;obtain⟨h1,h2⟩:=h.ok;refine⟨b,rfl,.inr ⟨i,hS⟩,λj B hB=>?_⟩;obtain⟨A,hA,hAB⟩:=h2 j B hB;obtain⟨u,hu,hAu,ho1⟩:=hh.2 j A hA;refine⟨u,?_,hAB r S w u hw hAu,ho1⟩;rw[w1c,cell_of_row w b j cur T (0,0) hcur];simpa using hu
theorem y68[Dr]{C:Cx P}{A:Asg}{s:SS V.T}(c:Nat)(y:SV V.T)(l:List (V.T c))(h:rdSl s.ob c y=some l):FEnt C (s.st V P A) (y.den V P A) (Px.ro (V.ev c) (V.sz c) l):=by
 unfold rdSl at h;split at h
 .split at h
  .rename_i e;subst e;simp only[w00] at h;subst h;exact FEnt.refl
  .cases h
 .rename_i i;cases ho:s.ob[i]? with
  |none=>rw[ho] at h;cases h
  |some o=>
   rw[ho] at h;cases o with
   |row E c' l'=>
    simp only at h;split at h
    .rename_i e;subst e;simp only[w00] at h;subst h;simp only[SV.den];cases ha:A[i]? with
     |none=>exact λr S w v _ hv=>hv.elim
     |some q=>exact FEnt.row i (V.ev_len _) (zn V P ha ho)
    .cases h
   |x o=>
    cases o with
    |fix E c' l'=>
     simp only at h;split at h
     .rename_i e;subst e;simp only[w00] at h;subst h;simp only[SV.den];cases ha:A[i]? with
      |none=>exact λr S w v _ hv=>hv.elim
      |some q=>exact FEnt.rowI i (V.ev_len _) (zut V P ha ho)
     .cases h
    |map _ _ _ _ _=>cases h
    |it _ _ _ _=>cases h
    |nst _ _ _ _ _=>cases h
   |box _ _=>cases h
   |emp=>cases h
 .simp only[w00] at h;subst h;exact FEnt.nil
 .cases h
theorem yby[Dr]{C:Cx P}{A:Asg}{s:SS V.T}{c:Nat}{x:SV V.T}{y:V.T c}(h:capX V s.ob c x=some y):FEnt C (s.st V P A) (x.den V P A) (Px.rop (V.ev c y)):=by
 unfold capX at h;split at h
 .rename_i cs;have:=zwh (zfw (P:=P) (A:=A) (R:=Eq) zrj zrk (λ_=>rfl) (λ_ _ _ h=>zri h) h);simp only[SV.den];rw[this];exact FEnt.refl
 .rename_i i;split at h
  .rename_i T cs ho;have:=zfw (P:=P) (A:=A) (R:=FEnt C (s.st V P A)) (zpp s.ob) (λ_ _ _ _ _=>FEnt.nilM V P) (λ_=>FEnt.refl) (y68 V P) h;simp only[SV.den];cases ha:A[i]? with
   |none=>exact λr S w v _ hv=>hv.elim
   |some q=>exact FEnt.box P i (zn V P ha ho) this.fents
  .cases h
 .cases h
theorem zyg{c:Nat}{x:V.T c}(h:zbd (V.d c)=true):V.vl c x=eqv (V.kv c x):=by unfold TE.vl TE.kv;generalize (λc=>kvS (V.d c))=g;revert x h;generalize V.ev c=e;generalize V.d c=d;revert e d;generalize V.T c=α;intro e d x h;cases d<;>first|rfl|simp[zbd] at h
theorem yfi{E c:Nat}(h:V.okV c=true){x:V.T c}{v:Value}{S r:Nat->Prop}{w:World}(hx :(V.inm E c x v).h S r w):(V.vl c x).h (λb=>r b\/S b) w v:=by
 unfold TE.okV at h;unfold TE.inm at hx;unfold TE.vl;revert x h;generalize V.ev c=e;generalize V.d c=d;revert e d;generalize V.T c=α;intro e d h x hx;cases d with
 |int k=>exact hx
 |bool=>exact hx
 |str=>exact hx
 |sl c'=>exact zrl (V.ev_len c') hx
 |map kc vc=>
  obtain⟨b,rfl,hn⟩:=hx;show (V.mv V.ev kc vc x).h _ _ _;rw[y1e];refine yb8 hn λy v S' hy=>?_
  simp only[okD] at h;rw[zyg V h];exact hy
 |arr n c'=>simp[okD,zbd] at h
 |st fs mk un law=>simp[okD,zbd] at h
theorem yb5{E kc vc:Nat}{m:List (V.T kc×V.T vc)}{b:Nat}{S r:Nat->Prop}{w:World}(h:V.okV vc=true)(hx :(nmp b (V.kl kc) (V.kv kc) (V.inm E vc) m none).h S r w):(V.mv V.ev kc vc m).h (λb=>r b\/S b) w (.map (some b)):=by rw[y1e];exact yb8 hx λy v S' hy=>yfi V h hy
theorem FEnt.map[Dr]{C:Cx P}{A:Asg}{s:SS V.T}{j kc vc E:Nat}{m:List (V.T kc×V.T vc)}{q:Nat×Value}(hok:V.okV vc=true)(ha:A[j]? = some q)(ho:s.ob[j]? = some (.x (.map kc vc E m none))):FEnt C (s.st V P A) (eqv q.2) (V.mv V.ev kc vc m):=by intro r S w v hw hv;have hv:v=q.2:=hv;subst hv;obtain⟨⟨hq,_⟩,hn⟩:=hw.obj j _ (zn V P ha ho);rw[hq];exact(V.mv V.ev kc vc m).mono (λc hc=>hc.elim .inl λq=>.inr ⟨j,q⟩) (λ_ _=>rfl) (yb5 V hok hn)
theorem FEnt.fnc[Dr]{C:Cx P}{s:St}{f:FuncId}{Xs Ys:List VP}(h:zka C s Xs Ys):FEnt C s (Px.fnc f Xs) (Px.fnc f Ys):=by rintro r S w v hw ⟨caps,hv,hl,hc⟩;obtain⟨h1,h2⟩:=h.ok;refine⟨caps,hv,by rw[<- h1];exact hl,λi B hB=>?_⟩;obtain⟨A,hA,hAB⟩:=h2 i B hB;exact hAB r S w _ hw (hc i A hA)
theorem FEnt.rop1[Dr]{C:Cx P}{s:St}{As Bs:List VP}(h:zka C s As Bs):FEnt C s (Px.rop As) (Px.rop Bs):=by rintro r S w v hw ⟨b,o,hv,hr,hh⟩;obtain⟨h1,h2⟩:=h.ok;refine⟨b,o,hv,.inl hr,λj B hB=>?_⟩;obtain⟨A,hA,hAB⟩:=h2 j B hB;obtain⟨u,hu,hAu,ho⟩:=hh j A hA;exact⟨u,hu,hAB r S w u hw hAu,ho⟩
theorem ybx[Dr]{C:Cx P}{A:Asg}{s:SS V.T}{kc vc:Nat}{x:SV V.T}{y:List (V.T kc×V.T vc)}(h:capM V s.ob kc vc x=some y):FEnt C (s.st V P A) (x.den V P A) (Px.rop [V.mv V.ev kc vc y]):=by
 unfold capM at h;split at h
 .rename_i kc' vc' m;split at h
  .rename_i e1;split at h
   .rename_i e2;subst e1 e2;simp only[w00] at h;subst h;simp only[SV.den,denL];exact FEnt.refl
   .cases h
  .cases h
 .rename_i i;split at h
  .rename_i T j ho;split at h
   .rename_i kc' vc' E m hj;cases hok:V.okV vc' with
    |false=>rw[hok] at h;cases h
    |true=>
    rw[hok] at h;simp only[cond_true] at h;split at h
    .rename_i e1;split at h
     .rename_i e2;subst e1 e2;simp only[w00] at h;subst h;simp only[SV.den];cases ha:A[i]? with
      |none=>exact λr S w v _ hv=>hv.elim
      |some q=>
       refine FEnt.box P i (zn V P ha ho) ?_;simp only[denL,SV.den];cases hq:A[j]? with
       |none=>exact⟨λr S w v _ hv=>hv.elim,trivial⟩
       |some p=>exact⟨FEnt.map V P hok hq hj,trivial⟩
     .cases h
    .cases h
   .cases h
  .rename_i T kc' vc' m ho;split at h
   .rename_i e1;split at h
    .rename_i e2;subst e1 e2;simp only[w00] at h;subst h;simp only[SV.den];cases ha:A[i]? with
     |none=>exact λr S w v _ hv=>hv.elim
     |some q=>refine FEnt.box P i (zn V P ha ho) ?_;simp only[denL,SV.den];exact⟨FEnt.refl,trivial⟩
    .cases h
   .cases h
  .cases h
 .cases h
theorem y7r[Dr]{C:Cx P}{A:Asg}{s:SS V.T}{kc vc i:Nat}{y:List (V.T kc×V.T vc)}(h:capM V s.ob kc vc (.ptr i 0)=some y):FEnt C (s.st V P A) ((SV.ptr i 0:SV V.T).den V P A) (rop0 [V.mv V.ev kc vc y]):=by
 simp only[capM] at h;split at h
 .rename_i T j ho;split at h
  .rename_i kc' vc' E m hj;cases hok:V.okV vc' with
   |false=>rw[hok] at h;cases h
   |true=>
   rw[hok] at h;simp only[cond_true] at h;split at h
   .rename_i e1;split at h
    .rename_i e2;subst e1 e2;simp only[w00] at h;subst h;simp only[SV.den];cases ha:A[i]? with
     |none=>exact λr S w v _ hv=>hv.elim
     |some q=>
      refine FEnt.box0 P i (zn V P ha ho) ?_;simp only[denL,SV.den];cases hq:A[j]? with
      |none=>exact⟨λr S w v _ hv=>hv.elim,trivial⟩
      |some p=>exact⟨FEnt.map V P hok hq hj,trivial⟩
    .cases h
   .cases h
  .cases h
 .rename_i T kc' vc' m ho;split at h
  .rename_i e1;split at h
   .rename_i e2;subst e1 e2;simp only[w00] at h;subst h;simp only[SV.den];cases ha:A[i]? with
    |none=>exact λr S w v _ hv=>hv.elim
    |some q=>refine FEnt.box0 P i (zn V P ha ho) ?_;simp only[denL,SV.den];exact⟨FEnt.refl,trivial⟩
   .cases h
  .cases h
 .cases h
theorem y2o[Dr]{C:Cx P}{A:Asg}{s:SS V.T}{k:KB}{x:SV V.T}{y:k.T V.T}(h:capB V s.ob k x=some y):FEnt C (s.st V P A) (x.den V P A) ((enB V k y).den V P []):=by
 cases k with
 |val c=>simp only[enB,SV.den,z1b];exact yby V P h
 |map kc vc=>simp only[enB,SV.den,denL];exact ybx V P h
theorem zs0[Dr]{C:Cx P}{A:Asg}{s:SS V.T}: ∀{cs:List KB}{l:List (SV V.T)}{b:KBs V.T cs},zhg V s.ob cs l=some b->zka C (s.st V P A) (denV V P A l) (denV V P [] (enBs V cs b))
 | [],[],_,_=>trivial
 |c::cs,x::l,b,h=>by
  simp only[zhg] at h;split at h
  .rename_i y r h1 h2;simp only[w00] at h;subst h;exact⟨y2o V P h1,zs0 h2⟩
  .cases h
 | [],_::_,_,h=>by simp[zhg] at h
 |_::_,[],_,h=>by simp[zhg] at h
theorem ybw[Dr]{C:Cx P}{A:Asg}{s:SS V.T}{f:Nat}{ks:List KB}{x:SV V.T}{y:KBs V.T ks}(h:capF V s.ob f ks x=some y):FEnt C (s.st V P A) (x.den V P A) (Px.rop [Px.fnc f (denV V P [] (enBs V ks y))]):=by
 unfold capF at h;split at h
 .rename_i g l;cases hb:Nat.beq f g with
  |false=>rw[hb] at h;cases h
  |true=>rw[hb] at h;have e:=w01 hb;subst e;simp only[SV.den,denL];exact FEnt.rop1 P ⟨FEnt.fnc P (zs0 V P h),trivial⟩
 .rename_i i;split at h
  .rename_i T g l ho;cases hb:Nat.beq f g with
   |false=>rw[hb] at h;cases h
   |true=>
    rw[hb] at h;have e:=w01 hb;subst e;simp only[SV.den];cases ha:A[i]? with
    |none=>exact λr S w v _ hv=>hv.elim
    |some q=>refine FEnt.box P i (zn V P ha ho) ?_;simp only[denL,SV.den];exact⟨FEnt.fnc P (zs0 V P h),trivial⟩
  .cases h
 .cases h
theorem ybv[Dr]{C:Cx P}{A:Asg}{s:SS V.T}{k:KC}{x:SV V.T}{y:k.T V.T}(h:capC V s.ob k x=some y):FEnt C (s.st V P A) (x.den V P A) ((enC V k y).den V P []):=by
 cases k with
 |b k=>exact y2o V P h
 |fn f ks=>simp only[enC,SV.den,denL];exact ybw V P h
theorem zs1[Dr]{C:Cx P}{A:Asg}{s:SS V.T}: ∀{cs:List KC}{l:List (SV V.T)}{b:KCs V.T cs},zft V s.ob cs l=some b->zka C (s.st V P A) (denV V P A l) (denV V P [] (encK V cs b))
 | [],[],_,_=>trivial
 |c::cs,x::l,b,h=>by
  simp only[zft] at h;split at h
  .rename_i y r h1 h2;simp only[w00] at h;subst h;exact⟨ybv V P h1,zs1 h2⟩
  .cases h
 | [],_::_,_,h=>by simp[zft] at h
 |_::_,[],_,h=>by simp[zft] at h
theorem y7t[Dr]{A:Asg}{c:Nat}{x:SV V.T}{y:V.T c}(h:capX V [] c x=some y):x.den V P A=Px.rop (V.ev c y):=by
 unfold capX at h;split at h
 .rename_i cs;have:=zwh (zfw (P:=P) (A:=A) (R:=Eq) zrj zrk (λ_=>rfl) (λ_ _ _ h=>zri h) h);simp only[SV.den];rw[this]
 .simp at h
 .cases h
theorem y7q[Dr]{A:Asg}{kc vc:Nat}{x:SV V.T}{y:List (V.T kc×V.T vc)}(h:capM V [] kc vc x=some y):x.den V P A=Px.rop [V.mv V.ev kc vc y]:=by
 unfold capM at h;split at h
 .rename_i kc' vc' m;split at h
  .rename_i e1;split at h
   .rename_i e2;subst e1 e2;simp only[w00] at h;subst h;simp only[SV.den,denL]
   .cases h
  .cases h
 .simp at h
 .cases h
theorem zyq[Dr]{A:Asg}{k:KB}{x:SV V.T}{y:k.T V.T}(h:capB V [] k x=some y):x.den V P A =(enB V k y).den V P []:=by
 cases k with
 |val c=>simp only[enB,SV.den,z1b];exact y7t V P h
 |map kc vc=>simp only[enB,SV.den,denL];exact y7q V P h
theorem zu8[Dr]{A:Asg}: ∀{cs:List KB}{l:List (SV V.T)}{b:KBs V.T cs},zhg V [] cs l=some b->denV V P A l=denV V P [] (enBs V cs b)
 | [],[],_,_=>rfl
 |c::cs,x::l,b,h=>by
  simp only[zhg] at h;split at h
  .rename_i y r h1 h2;simp only[w00] at h;subst h;simp only[denV,enBs];rw[zyq (A:=A) V P h1,zu8 (A:=A) h2]
  .cases h
 | [],_::_,_,h=>by simp[zhg] at h
 |_::_,[],_,h=>by simp[zhg] at h
theorem y7o[Dr]{A:Asg}{k:KC}{x:SV V.T}{y:k.T V.T}(h:capC V [] k x=some y):x.den V P A =(enC V k y).den V P []:=by
 cases k with
 |b k=>exact zyq V P h
 |fn f ks=>
  change capF V [] f ks x=some y at h;unfold capF at h;split at h
  .rename_i g l;cases hb:Nat.beq f g with
   |false=>rw[hb] at h;cases h
   |true=>rw[hb] at h;have e:=w01 hb;subst e;simp only[enC,SV.den,denL];rw[zu8 (A:=A) V P h]
  .simp at h
  .cases h
theorem zu9[Dr]{A:Asg}: ∀{cs:List KC}{l:List (SV V.T)}{b:KCs V.T cs},zft V [] cs l=some b->denV V P A l=denV V P [] (encK V cs b)
 | [],[],_,_=>rfl
 |c::cs,x::l,b,h=>by
  simp only[zft] at h;split at h
  .rename_i y r h1 h2;simp only[w00] at h;subst h;simp only[denV,encK];rw[y7o (A:=A) V P h1,zu9 (A:=A) h2]
  .cases h
 | [],_::_,_,h=>by simp[zft] at h
 |_::_,[],_,h=>by simp[zft] at h
theorem ziq[Dr]{A:Asg}{s:SS V.T}{ch:Ch}(hc:chP s.gb ch):∀{cs:List Nat}{os:List Operand}{a:Tup V.T cs},decA V (rdSl []) s.sl ch cs os=some a->Args (s.st V P A) os (vls V cs a)
 | [],[],_,_=>trivial
 |c::cs,o::os,a,h=>by
  simp only[decA] at h;cases h1:evO s.sl ch o with
  |none=>rw[h1] at h;cases h
  |some x=>
   rw[h1] at h;cases h2:V.dec (rdSl []) c x with
   |none=>simp only[h2] at h;cases h
   |some y=>
    simp only[h2] at h;cases h3:decA V (rdSl []) s.sl ch cs os with
    |none=>rw[h3] at h;cases h
    |some b=>rw[h3] at h;simp only[w00] at h;subst h;exact⟨Ev.ent' (z0t V P h1 hc) (z4h V P h2),ziq hc h3⟩
 | [],_::_,_,h=>by simp[decA] at h
 |_::_,[],_,h=>by simp[decA] at h
theorem zgw[Dr]{C:Cx P}{A:Asg}{s:SS V.T}{ch:Ch}(hc:chP s.gb ch):∀{cs:List Nat}{os:List Operand}{a:Tup V.T cs},decA V (rdSl s.ob) s.sl ch cs os=some a->zts C (s.st V P A) os (vls V cs a)
 | [],[],_,_=>trivial
 |c::cs,o::os,a,h=>by
  simp only[decA] at h;cases h1:evO s.sl ch o with
  |none=>rw[h1] at h;cases h
  |some x=>
   rw[h1] at h;cases h2:V.dec (rdSl s.ob) c x with
   |none=>simp only[h2] at h;cases h
   |some y=>
    simp only[h2] at h;cases h3:decA V (rdSl s.ob) s.sl ch cs os with
    |none=>rw[h3] at h;cases h
    |some b=>rw[h3] at h;simp only[w00] at h;subst h;exact⟨EvF.of (z0t V P h1 hc) (y88 V P h2),zgw hc h3⟩
 | [],_::_,_,h=>by simp[decA] at h
 |_::_,[],_,h=>by simp[decA] at h
theorem zz4{T:Nat->Type}{g :(c:Nat)->T c->List VP}{fl:Nat->Bool}(h:∀c,fl c=true->∀x,zap (g c x)):∀(fs:List Nat)(x:Tup T fs),fs.all fl=true->zap (evT g fs x)
 | [],_,_=>trivial
 |c::cs,x,hl=>by
  simp only[w1b,w03] at hl;have h1:=h c hl.1 x.1;have h2:=zz4 h cs x.2 hl.2;simp only[evT];revert h1;generalize g c x.1=l;intro h1
  induction l with
  |nil=>exact h2
  |cons a l ih=>exact⟨h1.1,ih h1.2⟩
theorem y0m{l:List VP}(h:∀A∈l,A.flat):zap l:=by
 induction l with
 |nil=>trivial
 |cons a l ih=>exact⟨h a (w0l ..),ih λb hb=>h b (w0h _ hb)⟩
theorem zkq:∀(n c:Nat),flN V n c=true->∀x,zap (V.ev c x)
 |0,_,h=>by simp[flN] at h
 |n+1,c,h=>by
  intro x;rw[V.ev_eq];simp only[flN] at h;revert x h;generalize V.d c=d;generalize V.T c=α at d;intro h x;cases d with
  |int k=>exact⟨zed,trivial⟩
  |bool=>exact⟨zed,trivial⟩
  |str=>exact⟨zed,trivial⟩
  |sl c'=>simp[flD] at h
  |map kc vc=>simp[flD] at h
  |arr m c'=>
   simp only[flD] at h;refine y0m λB hB=>?_
   simp only[evD,arr,w37] at hB;obtain⟨i,_,hB⟩:=hB;exact zap.mem (zkq n c' h _) B hB
  |st fs mk un law=>exact zz4 (fl:=flN V n) (λc h=>zkq n c h) fs (un x) h
theorem y71{c:Nat}(h:V.fl c=true)(x:V.T c):(V.vl c x).flat:=by
 have h1:=zkq V _ _ h x;cases ha:z5u (V.d c) with
 |true=>rw[zmc x ha];exact y3k h1
 |false=>rw[zq2 x ha] at h1;exact h1.1
theorem ziu[Dr]{B:Asg}: ∀(n:Nat)(res:List RC)(r:RTup V.T res),res.any zer=false->newR V res r = []/\∀A,denV V P A (encR V n res r)=denV V P B (encR V 0 res r)
 |n,[],r,_=>⟨rfl,λA=>rfl⟩
 |n,.val c::cs,r,h=>by simp only[w3s,zer,w2w] at h;obtain⟨h1,h2⟩:=ziu (B:=B) n cs r.2 h;obtain⟨_,h3⟩:=ziu (B:=B) 0 cs r.2 h;refine⟨by simpa only[newR] using h1,λA=>?_⟩;simp only[encR,denV,z30,h2]
 |n,.row E c::cs,r,h=>by simp[zer] at h
theorem ztc[Dr]{A B:Asg}{l m:List (SV V.T)}(h:denV V P A l=denV V P B m):(resV V l).den V P A =(resV V m).den V P B:=by
 match l,m with
 | [],[]=>rfl
 | [x],[y]=>simp only[denV] at h;simpa[resV] using h
 |x::y::l,a::b::m=>simp only[resV,SV.den,h]
 | [],_::_=>simp[denV] at h
 |_::_,[]=>simp[denV] at h
 | [_],_::_::_=>simp[denV] at h
 |_::_::_,[_]=>simp[denV] at h
theorem zo6[Dr]{A:Asg}: ∀(n:Nat)(res:List RC)(r:RTup V.T res),res.any zer=false->res.all (flR V)=true->∀B∈denV V P A (encR V n res r),B.flat
 |n,[],r,_,_,B,hB=>by simp[encR,denV] at hB
 |n,.val c::cs,r,h,hf,B,hB=>by
  simp only[w3s,zer,w2w] at h;simp only[w1b,w03,flR] at hf;simp only[encR,denV,w08,z30] at hB;rcases hB with rfl|hB
  .exact y71 V hf.1 _
  .exact zo6 n cs r.2 h hf.2 B hB
 |n,.row E c::cs,r,h,_,_,_=>by simp[zer] at h
theorem zpq[Dr]{A:Asg}{l:List (SV V.T)}(h:∀B∈denV V P A l,B.flat):((resV V l).den V P A).flat:=by
 match l with
 | []=>exact zed
 | [x]=>exact h _ (by simp[resV,denV])
 |x::y::l=>simp only[resV,SV.den];exact y8h h
theorem z8p{f:Nat}(h:zm.fnok P f=true):FnOK P f:=by
 unfold zm.fnok at h;split at h
 .rename_i fn hf;simp only[w03,w0z] at h;exact⟨fn,hf,h.1,h.2⟩
 .cases h
end
end Px
end
section
namespace Px
open Go Go.RowKit
def ztu(D:Nat->Prop)(w:World):Prop:=∀b,D b->∀o u,w.cell? ⟨b,o,none⟩=some u->∃g,u = .bool g
def Sep(A:VP):Prop:=∀(D r:Nat->Prop)(w:World)(v:Value),ztu D w->A.h r w v->A.h (λb=>r b/\¬D b) w v
def NoB(A:VP):Prop:=∀r w g,¬A.h r w (.bool g)
theorem Sep.eqv{v:Value}: Sep (Px.eqv v):=λ_ _ _ _ _ h=>h
theorem y6g{cs:List VP}(h:∀A∈cs,Sep A){D r:Nat->Prop}{w:World}{b o:Nat}(hD:ztu D w)(k:z3u w r b o cs):z3u w (λb=>r b/\¬D b) b o cs:=λj A hj=>by obtain⟨u,h1,h2,h3⟩:=k j A hj;exact⟨u,h1,h A (w12 hj) D r w u hD h2,h3⟩
theorem Sep.ro{α:Type}{e:α->List VP}{sz:Nat}{l:List α}(he:∀x,∀A∈e x,Sep A)(hn:∀x,∃(j:Nat)(A:VP),(e x)[j]? = some A/\NoB A):Sep (Px.ro e sz l):=by
 intro D r w v hD h;rcases h with h|⟨b,o,cap,hv,h⟩
 .exact .inl h
 .refine .inr ⟨b,o,cap,hv,λi x hi=>?_⟩;obtain⟨h1,h2⟩:=h i x hi;refine⟨⟨h1,λhd=>?_⟩,y6g (he x) hD h2⟩;obtain⟨j,A,hj,hA⟩:=hn x;obtain⟨u,h3,h4,_⟩:=h2 j A hj;obtain⟨g,rfl⟩:=hD b hd _ _ h3;exact hA _ _ _ h4
theorem Sep.agg{cs:List VP}(h:∀A∈cs,Sep A):Sep (Px.agg cs):=by rintro D r w v hD ⟨vs,rfl,hh⟩;refine⟨vs,rfl,hh.1,λj A hj=>?_⟩;obtain⟨u,h1,h2,h3⟩:=hh.2 j A hj;exact⟨u,h1,h A (w12 hj) D r w u hD h2,h3⟩
theorem Sep.tup{xs:List VP}(h:∀A∈xs,Sep A):Sep (Px.tupv xs):=by rintro D r w v hD ⟨vs,hv,hl,hh⟩;exact⟨vs,hv,hl,λi A hi=>h A (w12 hi) D r w _ hD (hh i A hi)⟩
section
variable(V:TE)
def zrs(l:List VP):Prop:=∃(j:Nat)(A:VP),l[j]? = some A/\NoB A
theorem zrs.left{a b:List VP}(h:zrs a):zrs (a++b):=by obtain⟨j,A,hj,hA⟩:=h;exact⟨j,A,by rw[w0n (w02.1 hj).1];exact hj,hA⟩
theorem zrs.right{a b:List VP}(h:zrs b):zrs (a++b):=by obtain⟨j,A,hj,hA⟩:=h;exact⟨a.length+j,A,by rw[w11 (by omega),w3j];exact hj,hA⟩
theorem yav{T:Nat->Type}{g :(c:Nat)->T c->List VP}{nb:Nat->Bool}(h:∀c,nb c=true->∀x,zrs (g c x)):∀(fs:List Nat)(x:Tup T fs),fs.any nb=true->zrs (evT g fs x)
 | [],_,hl=>by simp at hl
 |c::cs,x,hl=>by
  simp only[w3s,w1h] at hl;rcases hl with hl|hl
  .exact(h c hl x.1).left
  .exact(yav h cs x.2 hl).right
theorem yck:∀(n c:Nat),nbN V n c=true->∀x,zrs (V.ev c x)
 |0,_,h=>by simp[nbN] at h
 |n+1,c,h=>by
  intro x;rw[V.ev_eq];simp only[nbN] at h;revert x h;generalize V.d c=d;generalize V.T c=α at d;intro h x;cases d with
  |int k=>exact⟨0,_,rfl,λr w g q=>by cases q⟩
  |bool=>simp[nbD] at h
  |str=>exact⟨0,_,rfl,λr w g q=>by cases q⟩
  |sl c'=>exact⟨0,_,rfl,λr w g q=>by rcases q with⟨⟨a,cap,q⟩,_⟩|⟨b,o,cap,q,_⟩<;>cases q⟩
  |map kc vc=>exact⟨0,_,rfl,λr w g q=>by rcases q with⟨q,_⟩|⟨b,t,q,_⟩<;>cases q⟩
  |arr m c'=>simp only[nbD,w03,w23] at h;obtain⟨m,rfl⟩:∃q,m=q+1:=⟨m-1,by omega⟩;simp only[evD,arr];rw[List.range_succ_eq_map,w0w];exact(yck n c' h.2 _).left
  |st fs mk un law=>exact yav (nb:=nbN V n) (λc h=>yck n c h) fs (un x) h
theorem y3f{T:Nat->Type}{g :(c:Nat)->T c->List VP}{sp:Nat->Bool}(h:∀c,sp c=true->∀x,∀A∈g c x,Sep A):∀(fs:List Nat)(x:Tup T fs),fs.all sp=true->∀A∈evT g fs x,Sep A
 | [],_,_,A,hA=>by cases hA
 |c::cs,x,hl,A,hA=>by
  simp only[w1b,w03] at hl;rcases w0m.1 hA with hA|hA
  .exact h c hl.1 x.1 A hA
  .exact y3f h cs x.2 hl.2 A hA
theorem zup:∀(n c:Nat),sepN V n c=true->∀x,∀A∈V.ev c x,Sep A
 |0,_,h=>by simp[sepN] at h
 |n+1,c,h=>by
  intro x A hA;rw[V.ev_eq] at hA;simp only[sepN] at h;revert x h;generalize V.d c=d;generalize V.T c=α at d;intro h x hA;cases d with
  |int k=>simp only[evD,w0v] at hA;rw[hA];exact Sep.eqv
  |bool=>simp only[evD,w0v] at hA;rw[hA];exact Sep.eqv
  |str=>simp only[evD,w0v] at hA;rw[hA];exact Sep.eqv
  |sl c'=>simp only[sepD,w03] at h;simp only[evD,w0v] at hA;rw[hA];exact Sep.ro (λy B hB=>zup n c' h.1 y B hB) λy=>yck V n c' h.2 y
  |map kc vc=>simp[sepD] at h
  |arr m c'=>simp only[sepD] at h;simp only[evD,arr,w37] at hA;obtain⟨i,_,hA⟩:=hA;exact zup n c' h _ A hA
  |st fs mk un law=>exact y3f (sp:=sepN V n) (λc h=>zup n c h) fs (un x) h A hA
theorem ygx{c:Nat}(h:V.sep c=true)(x:V.T c):Sep (V.vl c x):=by
 have h1:=zup V _ _ h x;cases ha:z5u (V.d c) with
 |true=>rw[zmc x ha];exact Sep.agg h1
 |false=>rw[zq2 x ha] at h1;exact h1 _ w0l
variable(P:Program)
theorem zz1[Dr]{A:Asg}: ∀(n:Nat)(res:List RC)(r:RTup V.T res),res.any zer=false->res.all (sepR V)=true->∀B∈denV V P A (encR V n res r),Sep B
 |n,[],r,_,_,B,hB=>by simp[encR,denV] at hB
 |n,.val c::cs,r,h,hf,B,hB=>by
  simp only[w3s,zer,w2w] at h;simp only[w1b,w03,sepR] at hf;simp only[encR,denV,w08,z30] at hB;rcases hB with rfl|hB
  .exact ygx V hf.1 _
  .exact zz1 n cs r.2 h hf.2 B hB
 |n,.row E c::cs,r,h,_,_,_=>by simp[zer] at h
theorem ya7[Dr]{A:Asg}{l:List (SV V.T)}(h:∀B∈denV V P A l,Sep B):Sep ((resV V l).den V P A):=by
 match l with
 | []=>exact Sep.eqv
 | [x]=>exact h _ (by simp[resV,denV])
 |x::y::l=>simp only[resV,SV.den];exact Sep.tup h
def fixD(A:Asg)(ob:List (SO V.T))(b:Nat):Prop:=∃(i E c:Nat)(l:List (V.T c))(q:Nat×Value)(n:Nat),ob[i]? = some (.x (.fix E c l))/\A[i]? = some q/\q.2 = .slice (some ⟨b,0,none⟩) n n
theorem yd3{c:Nat}(h:zxj (V.d c)=true):V.sz c=1/\∀x,∃g,V.ev c x = [bv g]:=by
 refine⟨?_,λx=>?_⟩
 .rw[V.sz_eq];revert h;generalize V.d c=d;generalize V.T c=α at d;intro h;cases d<;>simp[zxj] at h<;>rfl
 .rw[V.ev_eq];revert x h;generalize V.d c=d;generalize V.T c=α at d;intro h x;cases d<;>simp[zxj] at h;exact⟨x,rfl⟩
theorem y3j[Dr]{A:Asg}{ob:List (SO V.T)}{w0 w:World}{base:Nat}{r:Nat->Prop}{S:Nat->Nat->Prop}(hw:WInv w0 base (obD V P A A ob) r S w):ztu (fixD V A ob) w/\∀b,fixD V A ob b->∃i,S i b:=by
 have main:∀b,fixD V A ob b->(∃i,S i b)/\∀o u,w.cell? ⟨b,o,none⟩=some u->∃g,u = .bool g:=by
  rintro b ⟨i,E,c,l,q,n,ho,ha,hq⟩;obtain⟨⟨hb,_⟩,hr⟩:=hw.obj i _ (zn V P ha ho);obtain⟨e1,e2⟩:=yd3 V hb;rcases hr with⟨hn,_⟩|⟨g,cap,cur,hv,hS,hcur,hl,hm,hsz,hh⟩
  .rw[hq] at hn;cases hn
  .rw[hq] at hv;simp only[Value.slice.injEq,w00,Addr.mk.injEq] at hv;obtain⟨⟨rfl,_⟩,rfl,rfl⟩:=hv;refine⟨⟨i,hS⟩,λo u hu=>?_⟩;rw[cell_of_row w b o cur E (0,0) hcur] at hu;have hlt:o<cur.size:=(w19.1 hu).1;have hfl:=z1c (V.ev_len c) l;have hlt2:o<(l.flatMap (V.ev c)).length:=by rw[hfl,<- hsz];exact hlt
   obtain⟨u',h1,h2,_⟩:=hh.2 o _ (w09 hlt2);rw[w0r,if_pos (by rw[<- hsz];exact hlt)] at h1;have hu2:u'=u:=by
    have:cur.toList[o]? = cur[o]?:=by simp
    rw[this,hu] at h1;exact(w0c h1).symm
   subst hu2;obtain⟨x,_,hx⟩:=w37.1 (List.getElem_mem hlt2);obtain⟨g,hg⟩:=e2 x;rw[hg,w0v] at hx;rw[hx] at h2;exact⟨g,h2⟩
 exact⟨λb hb=>(main b hb).2,λb hb=>(main b hb).1⟩
def EntD[Dr](C:Cx P)(s:St)(D:Nat->Prop)(A B:VP):Prop:=∀r S w v,WInv C.w0 C.base s.objs r S w->A.h r w v->B.h (λb=>r b\/D b) w v
theorem EntD.refl[Dr]{C:Cx P}{s:St}{D:Nat->Prop}{A:VP}: EntD P C s D A A:=λr S w v hw h=>A.mono (λb hb=>.inl hb) (λ_ _=>rfl) h
theorem EntD.ent[Dr]{C:Cx P}{s:St}{D:Nat->Prop}{A B:VP}(k:Ent A B):EntD P C s D A B:=λr S w v hw h=>B.mono (λb hb=>.inl hb) (λ_ _=>rfl) (k r w v h)
theorem F2.at{R:VP->VP->Prop}: ∀{As Bs:List VP},F2 R As Bs->As.length=Bs.length/\∀(j:Nat)(B:VP),Bs[j]? = some B->∃A,As[j]? = some A/\R A B
 | [],[],_=>⟨rfl,λj B h=>by simp at h⟩
 |A::As,B::Bs,⟨h,hr⟩=>by
  obtain⟨h1,h2⟩:=F2.at hr;refine⟨by simp[h1],λj D hj=>?_⟩;cases j with
  |zero=>simp at hj;subst hj;exact⟨A,rfl,h⟩
  |succ j=>simpa using h2 j D (by simpa using hj)
 | [],_::_,h=>h.elim
 |_::_,[],h=>h.elim
theorem EntD.agg[Dr]{C:Cx P}{s:St}{D:Nat->Prop}{cs ds:List VP}(h:F2 (EntD P C s D) cs ds):EntD P C s D (Px.agg cs) (Px.agg ds):=by rintro r S w v hw ⟨vs,rfl,hh⟩;obtain⟨h1,h2⟩:=h.at;refine⟨vs,rfl,by rw[<- h1];exact hh.1,λj B hj=>?_⟩;obtain⟨A,hA,hAB⟩:=h2 j B hj;obtain⟨u,hu,hAu,ho⟩:=hh.2 j A hA;exact⟨u,hu,hAB r S w u hw hAu,ho⟩
theorem ygk(ob:List (SO V.T)):∀c n d(f:Nat->V.T d)l,rdB ob c (.arr n d f)=some l->False:=λc n d f l h=>by simp[rdB] at h
theorem yea[Dr]{C:Cx P}{A:Asg}{s:SS V.T}(c:Nat)(y:SV V.T)(l:List (V.T c))(h:rdB s.ob c y=some l):EntD P C (s.st V P A) (fixD V A s.ob) (y.den V P A) (Px.ro (V.ev c) (V.sz c) l):=by
 unfold rdB at h;split at h
 .split at h
  .rename_i e;subst e;simp only[w00] at h;subst h;exact EntD.refl P
  .cases h
 .rename_i i;split at h
  .rename_i E c' l' ho;split at h
   .rename_i e;subst e;simp only[w00] at h;subst h;simp only[SV.den];cases ha:A[i]? with
    |none=>exact λr S w v _ hv=>hv.elim
    |some q=>
     intro r S w v hw hv;have hv:v=q.2:=hv;subst hv;obtain⟨⟨hb,g0,n0,hg0⟩,hr⟩:=hw.obj i _ (zn V P ha ho);rcases hr with⟨hn,rfl⟩|⟨g,cap,cur,hv,hS,hcur,hl,hm,hsz,hh⟩
     .exact .inl ⟨⟨none,0,hn⟩,rfl⟩
     .have hD:fixD V A s.ob g:=by refine⟨i,E,_,l',q,n0,ho,ha,?_⟩;rw[hg0] at hv⊢;simp only[Value.slice.injEq,w00,Addr.mk.injEq] at hv;rw[hv.1.1]
      refine .inr ⟨g,0,cap-l'.length,by rw[w2m hl];exact hv,λk x hk=>⟨.inr hD,λj A hj=>?_⟩⟩;obtain⟨u,hu,hA,h1⟩:=hh.2 _ A (z3g (V.ev_len _) l' k x hk j A hj);refine⟨u,?_,A.mono (λb hb=>.inl hb) (λ_ _=>rfl) hA,h1⟩;rw[w1c,cell_of_row w g _ cur E (0,0) hcur];rw[w0r] at hu;split at hu
      .simpa using hu
      .cases hu
   .cases h
  .cases h
 .simp only[w00] at h;subst h;exact EntD.ent P Ent.nil
 .cases h
theorem y87[Dr]{C:Cx P}{A:Asg}{s:SS V.T}{c:Nat}{x:SV V.T}{y:V.T c}(h:V.dec (rdB s.ob) c x=some y):EntD P C (s.st V P A) (fixD V A s.ob) (x.den V P A) (V.vl c y):=y2z (R:=EntD P C (s.st V P A) (fixD V A s.ob)) (ygk V s.ob) (λ_ _ _ _ _=>EntD.ent P zlg) (λ_=>EntD.refl P) (λc y l h=>yea V P c y l h) (λ_ _ h=>EntD.agg P h) h
theorem zr3[Dr]{C:Cx P}{A:Asg}{s:SS V.T}{ch:Ch}(hc:chP s.gb ch):∀{cs:List Nat}{os:List Operand}{a:Tup V.T cs},decA V (rdB s.ob) s.sl ch cs os=some a->
  ∀ac r S w,WInv C.w0 C.base (s.st V P A).objs r S w->ze (s.st V P A).slots ac r w->(os.map ac.eval).length =(vls V cs a).length/\∀(i:Nat)(B:VP),(vls V cs a)[i]? = some B->B.h (λb=>r b\/fixD V A s.ob b) w ((os.map ac.eval).getD i undef)
 | [],[],_,_=>λac r S w hw hs=>⟨rfl,λi B h=>by simp[vls] at h⟩
 |c::cs,o::os,a,h=>by
  intro ac r S w hw hs;simp only[decA] at h;cases h1:evO s.sl ch o with
  |none=>rw[h1] at h;cases h
  |some x=>
   rw[h1] at h;cases h2:V.dec (rdB s.ob) c x with
   |none=>simp only[h2] at h;cases h
   |some y=>
    simp only[h2] at h;cases h3:decA V (rdB s.ob) s.sl ch cs os with
    |none=>rw[h3] at h;cases h
    |some b=>
     rw[h3] at h;simp only[w00] at h;subst h;obtain⟨k1,k2⟩:=zr3 hc h3 ac r S w hw hs;refine⟨by simpa[vls] using k1,λi B hB=>?_⟩;cases i with
     |zero=>simp only[vls,w1z,w00] at hB;subst hB;exact y87 V P h2 r S w _ hw (z0t V P h1 hc ac r w hs)
     |succ i=>simpa using k2 i B (by simpa[vls] using hB)
 | [],_::_,_,h=>by simp[decA] at h
 |_::_,[],_,h=>by simp[decA] at h
theorem ydo[Dr]{C:Cx P}{s:St}{dst:Option Tmp}{ty:TypeId}{pos:String}{after:Array Edge}{guard:Option (Nat×Bool)}{f:FuncId}{as:Array Operand}{ts:Array TypeId}{args:List VP}{x:VP}{D:Nat->Prop}(hf:FnOK P f)
  (ha:∀ac r S w,WInv C.w0 C.base s.objs r S w->ze s.slots ac r w->(as.toList.map ac.eval).length=args.length/\∀(i:Nat)(B:VP),args[i]? = some B->B.h (λb=>r b\/D b) w ((as.toList.map ac.eval).getD i undef))
  (hD:∀r S w,WInv C.w0 C.base s.objs r S w->ztu D w/\∀b,D b->∃i,S i b) (h:zdn P f args λy news=>y=x/\news = []) (hx:Sep x) :
  OpQ C ⟨dst,.call { callee:=.value (.func f),args:=as,argTypes:=ts },ty,pos,after,guard⟩ s x:=
 .calls hf (Ev.func f) λa r S w hd hw hs=>by
  obtain⟨h1,h2⟩:=ha a r S w hw hs;obtain⟨hB,hO⟩:=hD r S w hw;have hlen:as.size=args.length:=by simpa using h1
  refine(h (λb=>r b\/D b) w _ (λb hb=>hb.elim (hw.old b) λq=>?_) (by simp[hlen]) λi A hi=>?_).mono ?_
  .obtain⟨i,hi⟩:=hO b q;exact(hw.own i b hi).2.2.1
  .have:=h2 i A hi
   have hlt:i<as.size:=by have:=(w02.1 hi).1;omega
   simpa[w1a,hlt] using this
  .rintro e w' ⟨v,y,news,r',S',rfl,he,hw',hxv,rfl,rfl⟩;have hnd:∀b,r b->¬D b:=λb hb q=>by obtain⟨i,hi⟩:=hO b q;exact(hw.own i b hi).2.2.2 hb
   have hB':ztu D w':=λb hb o u hu=>hB b hb o u (by rw[<- hu];exact(zns (he.2.1 b (.inr hb))).symm)
   have h3:∀b,(r' b/\¬D b)->r b\/(w.heap.size<=b/\r' b):=λb ⟨hb,hn⟩=>by
    rcases he.2.2 b hb with(q|q)|q
    .exact .inl q
    .exact absurd q hn
    .exact .inr ⟨q,hb⟩
   refine⟨v,y,_,λb=>r' b/\¬D b,_,rfl,⟨λb hb=>⟨he.1 b (.inl hb),hnd b hb⟩,λb hb=>he.2.1 b (.inl hb),λb hb=>?_⟩,
    hw.join hw' _ (λb hb=>⟨he.1 b (.inl hb),hnd b hb⟩) h3 (λi H hi=>by simp at hi),hx D r' w' v hB' hxv,rfl,by simp⟩
   rcases h3 b hb with q|q
   .exact .inl q
   .exact .inr (w26 hw.size q.1)
theorem yej{α:Type}{E:TypeId}{e:α->List VP}{sz:Nat}{l:List α}{sv:Value}(he:∀x,∀A∈e x,Sep A){D S r:Nat->Prop}{w:World}(hD:ztu D w)(h :(row E e sz l sv).h S r w):(row E e sz l sv).h S (λb=>r b/\¬D b) w:=by
 rcases h with hn|⟨g,cap,cur,hv,hS,hcur,hl,hm,hsz,hc⟩
 .exact .inl hn
 .refine .inr ⟨g,cap,cur,hv,hS,hcur,hl,hm,hsz,hc.1,λj A hj=>?_⟩;obtain⟨u,h1,h2,h3⟩:=hc.2 j A hj;obtain⟨x,_,hx⟩:=w37.1 (w12 hj);exact⟨u,h1,he x A hx D r w u hD h2,h3⟩
theorem WInv.sub[Dr]{w0 w:World}{base:Nat}{objs:List HP}{r:Nat->Prop}{S T:Nat->Nat->Prop}(hw:WInv w0 base objs r S w){objs':List HP}(hl:objs'.length=objs.length)(hT:∀j b,T j b->S j b)(ho:∀(j:Nat)(H:HP),objs'[j]? = some H->H.h (T j) r w):WInv w0 base objs' r T w where
 below:=hw.below
 size:=hw.size
 obj:=ho
 own:=λj b hb=>by obtain⟨h1,h2⟩:=hw.own j b (hT j b hb);exact⟨hl ▸ h1,h2⟩
 apart:=λj k b hj hk=>hw.apart j k b (hT j b hj) (hT k b hk)
 old:=hw.old
theorem y9i[Dr]{C:Cx P}{s:St}{dst:Option Tmp}{ty:TypeId}{pos:String}{after:Array Edge}{guard:Option (Nat×Bool)}{K:VP->List HP->Prop}{α:Type}{E:TypeId}{e:α->List VP}{sz:Nat}{l:List α}{sv:Value}{f:FuncId}{as:Array Operand}{ts:Array TypeId}{args:List VP}{K':VP->List α->Prop}(i:Nat)
  (ho:s.objs[i]? = some (row E e sz l sv))
  (hT:∀r S w,WInv C.w0 C.base s.objs r S w->∃T:Nat->Nat->Prop,(∀j b,T j b->j≠i/\S j b)/\(∀(j:Nat)(H:HP),j≠i->s.objs[j]? = some H->H.h (T j) r w)/\((∀x,∀A∈e x,A.flat)\/((∀x,∀A∈e x,Sep A)/\ztu (λb=>∃j,T j b) w)))
  (hf:FnOK P f) (ha:∀ac r T w,WInv C.w0 C.base (s.objs.set i Px.emp) r T w->ze s.slots ac r w->(as.toList.map ac.eval).length=args.length/\∀(k:Nat)(A:VP),args[k]? = some A->A.h (λb=>r b\/∃j,T j b) w ((as.toList.map ac.eval).getD k undef))
  (h:MutT P f args E e sz l sv K') (k:∀x l',K' x l'->x.flat/\K x (s.objs.set i (row E e sz l' sv))) :
  OpT C ⟨dst,.call { callee:=.value (.func f),args:=as,argTypes:=ts },ty,pos,after,guard⟩ s K:=
 .calls hf (Ev.func f) λa r S w hd hw hs=>by
  have hi:i<s.objs.length:=(w02.1 ho).1;obtain⟨T,t1,t2,t3⟩:=hT r S w hw;have hwT:WInv C.w0 C.base (s.objs.set i Px.emp) r T w:=hw.sub (by simp) (λj b hb=>(t1 j b hb).2) λj H hj=>by
   rw[w1v] at hj;split at hj
   .cases hj;trivial
   .rename_i e;exact t2 j H (λq=>e q.symm) hj
  obtain⟨h1,h2⟩:=ha a r T w hwT hs
  let O:Nat->Prop:=λb=>∃j,T j b
  let r':Nat->Prop:=λb=>r b\/O b
  have hrr:∀b,r b->r' b:=λb hb=>.inl hb
  have hO:∀b,O b->¬r b:=λb ⟨j,hb⟩=>(hwT.own j b hb).2.2.2
  have hwi:WInv C.w0 C.base [row E e sz l sv] r' (λj b=>j=0/\S i b) w:=by
   refine⟨hw.below,hw.size,?_,?_,?_,?_⟩
   .intro j B hj
    match j,hj with
    |0,hj=>
     simp at hj;subst hj;have :(λb=>(0:Nat)=0/\S i b)=S i:=by funext b;simp
     rw[this];exact HP.mono _ hrr (λ_ _=>rfl) (λ_ _=>rfl) (hw.obj i _ ho)
    |j+1,hj=>simp at hj
   .rintro j b ⟨rfl,hb⟩;obtain⟨_,b2,b3,b4⟩:=hw.own i b hb;refine⟨by simp,b2,b3,?_⟩;rintro(q|⟨j,q⟩)
    .exact b4 q
    .exact(t1 j b q).1 (hw.apart j i b (t1 j b q).2 hb)
   .rintro j k b ⟨rfl,_⟩ ⟨rfl,_⟩;rfl
   .rintro b (q|⟨j,q⟩)
    .exact hw.old b q
    .exact(hwT.own j b q).2.2.1
  refine(h C.w0 C.base r' _ w _ hwi (by simp at h1;simp[h1]) λj A hj=>?_).mono ?_
  .have:=h2 j A hj
   have hlt:j<as.size:=by have:=(w02.1 hj).1;simp at h1;omega
   simpa[w1a,hlt] using this
  .rintro e' w' ⟨v,x,objs',r2,S2,rfl,he,hw',hx,l',rfl,hk'⟩;obtain⟨kf,kk⟩:=k _ _ hk';have nT:∀b,¬T i b:=λb hb=>(t1 i b hb).1 rfl
   refine⟨v,x,_,λb=>r2 b/\¬O b,λj b=>if j=i then S2 0 b else T j b,rfl,⟨λb hb=>⟨he.1 b (.inl hb),λq=>hO b q hb⟩,λb hb=>he.2.1 b (.inl hb),λb hb=>?_⟩,⟨hw'.below,hw'.size,?_,?_,?_,?_⟩,kf _ _ _ _ _ hx,kk⟩
   .rcases he.2.2 b hb.1 with(q|q)|q
    .exact .inl q
    .exact absurd q hb.2
    .exact .inr q
   .intro j B hj;rw[w1v] at hj;split at hj
    .rename_i eij;subst eij;have hj':row E e sz l' sv=B:=by simpa[hi] using hj
     subst hj';simp only[if_true];rcases t3 with hfl|⟨hsp,hB⟩
     .exact zz6 hfl _ _ _ _ (hw'.obj 0 _ rfl)
     .exact yej hsp (λb hb o u hu=>hB b hb o u (by rw[<- hu];exact(zns (he.2.1 b (.inr hb))).symm)) (hw'.obj 0 _ rfl)
    .rename_i eij;have eji:¬j=i:=λq=>eij q.symm
     simp only[eji,if_false];exact B.mono (w:=w) (λb hb=>⟨he.1 b (.inl hb),λq=>hO b q hb⟩) (λb hb=>he.2.1 b (.inl hb)) (λb hb=>he.2.1 b (.inr ⟨j,hb⟩)) (t2 j B eji hj)
   .intro j b hb;by_cases eji:j=i
    .subst eji;simp only[if_true] at hb;obtain⟨_,b2,b3,b4⟩:=hw'.own 0 b hb;exact⟨by simpa using hi,b2,b3,λq=>b4 q.1⟩
    .simp only[eji,if_false] at hb;obtain⟨b1,b2,b3,b4⟩:=hwT.own j b hb;exact⟨by simpa using b1,b2,hw'.old b (he.1 b (.inr ⟨j,hb⟩)),λq=>q.2 ⟨j,hb⟩⟩
   .intro j k' b hb hb';by_cases ej:j=i<;>by_cases ek:k'=i
    .rw[ej,ek]
    .simp only[ej,if_true] at hb;simp only[ek,if_false] at hb';exact absurd (he.1 b (.inr ⟨k',hb'⟩)) (hw'.own 0 b hb).2.2.2
    .simp only[ek,if_true] at hb';simp only[ej,if_false] at hb;exact absurd (he.1 b (.inr ⟨j,hb⟩)) (hw'.own 0 b hb').2.2.2
    .simp only[ej,ek,if_false] at hb hb';exact hwT.apart j k' b hb hb'
   .exact λb hb=>hw'.old b hb.1
end
end Px
end
section
namespace Px
open Go Go.RowKit
section
variable(V:TE)(P:Program)
def QOK[Dr](C:Cx P)(A:Asg)(s:SS V.T)(cur:Ch)(o:Op)(ty:TypeId)(v:SV V.T):Prop:=chP s.gb cur->∀dst pos after guard,OpQ C ⟨dst,o,ty,pos,after,guard⟩ (s.st V P A) (v.den V P A)
variable{V P}{R:Type}{r:R}{C:Cx P}{A:Asg}{s:SS V.T}{cur:Ch}
theorem evO2[Dr](hkn:chP s.gb s.kn)(hc:chP s.gb cur){o:Operand}{x:SV V.T}(h:evO s.sl (cur++s.kn) o=some x):Ev (s.st V P A) o (x.den V P A):=z0t V P h (z4d hc hkn)
theorem zy{T:Nat->Type}{x:Option (SV T)}{k:IntKind}{n:Int}(h:x.bind intOf=some (k,n)):x=some (.int k n):=by
 cases x with
 |none=>cases h
 |some y=>cases y<;>simp[intOf] at h;rw[h.1,h.2]
theorem zar{T:Nat->Type}{x:Option (SV T)}{b:Bool}(h:x.bind zii=some b):x=some (.bool b):=by
 cases x with
 |none=>cases h
 |some y=>cases y<;>simp[zii] at h;rw[h]
theorem y7g[Dr]{op:BinOp}{yc:Operand}{i:IntKind}{m n:Int}{k:SV V.T->Option R}{t ty:TypeId}{x y:Operand}{t':TypeId}(h:zwo V s.gb cur op y i m n k=some r)
  (hx:chP s.gb cur->Ev (s.st V P A) x (iv i m)) (hy:chP s.gb cur->Ev (s.st V P A) y (iv i n)):∃v,k v=some r/\QOK V P C A s cur (.binOp op t x y t') ty v:=by
 have ckd:∀(p:Prop)[Decidable p](z:Option R),zwo.ckD s.gb cur y p z=some r->(chP s.gb cur->p)/\z=some r:=by
  intro p _ z hz;unfold zwo.ckD at hz;split at hz
  .split at hz
   .rename_i hp;exact⟨λ_=>hp,hz⟩
   .cases hz
  .exact z4o hz
 cases op with
 |add=>exact⟨_,h,λhc dst pos after guard=>yfy (hx hc) (hy hc)⟩
 |sub=>exact⟨_,h,λhc dst pos after guard=>yhs (hx hc) (hy hc)⟩
 |mul=>exact⟨_,h,λhc dst pos after guard=>yhl (hx hc) (hy hc)⟩
 |and=>exact⟨_,h,λhc dst pos after guard=>yfz (hx hc) (hy hc)⟩
 |or=>exact⟨_,h,λhc dst pos after guard=>yhb (hx hc) (hy hc)⟩
 |xor=>exact⟨_,h,λhc dst pos after guard=>yg0 (hx hc) (hy hc)⟩
 |eql=>exact⟨_,h,λhc dst pos after guard=>yhe (hx hc) (hy hc)⟩
 |neq=>exact⟨_,h,λhc dst pos after guard=>yho (hx hc) (hy hc)⟩
 |lss=>exact⟨_,h,λhc dst pos after guard=>yhi (hx hc) (hy hc)⟩
 |leq=>exact⟨_,h,λhc dst pos after guard=>yhh (hx hc) (hy hc)⟩
 |gtr=>exact⟨_,h,λhc dst pos after guard=>yhg (hx hc) (hy hc)⟩
 |geq=>exact⟨_,h,λhc dst pos after guard=>yhf (hx hc) (hy hc)⟩
 |quo=>exact⟨_,(ckd _ _ h).2,λhc dst pos after guard=>yhq (hx hc) (hy hc) ((ckd _ _ h).1 hc)⟩
 |rem=>exact⟨_,(ckd _ _ h).2,λhc dst pos after guard=>yhr (hx hc) (hy hc) ((ckd _ _ h).1 hc)⟩
 |shl=>cases h
 |shr=>cases h
 |andNot=>cases h
theorem yae[Dr]{op:BinOp}{i j:IntKind}{m n:Int}{k:SV V.T->Option R}{t ty:TypeId}{x y:Operand}{t':TypeId}(h:shift V s.gb cur op y i m n k=some r)
  (hx:chP s.gb cur->Ev (s.st V P A) x (iv i m)) (hy:chP s.gb cur->Ev (s.st V P A) y (iv j n)):∃v,k v=some r/\QOK V P C A s cur (.binOp op t x y t') ty v:=by
 unfold shift at h;split at h
 .split at h
  .rename_i h0;exact⟨_,h,λhc dst pos after guard=>yga (hx hc) (hy hc) h0⟩
  .cases h
 .split at h
  .rename_i h0;exact⟨_,h,λhc dst pos after guard=>ygb (hx hc) (hy hc) h0⟩
  .cases h
 .exact⟨_,(z4o h).2,λhc dst pos after guard=>yga (hx hc) (hy hc) ((z4o h).1 hc)⟩
 .exact⟨_,(z4o h).2,λhc dst pos after guard=>ygb (hx hc) (hy hc) ((z4o h).1 hc)⟩
 .cases h
theorem y6z[Dr]{x:SV V.T}{v:Value}(h:yaj x=some v):x.den V P A=eqv v/\z15 x=false:=by cases x<;>simp[yaj] at h<;>subst h<;>exact⟨rfl,rfl⟩
theorem zdz[Dr]:∀{l:List (SV V.T)}{vs:List Value},zq1 l=some vs->denL V P A l=vs.map eqv
 | [],vs,h=>by simp[zq1] at h;subst h;rfl
 |x::l,vs,h=>by
  simp only[zq1] at h;cases h1:yaj x with
  |none=>rw[h1] at h;cases h
  |some v=>
   cases h2:zq1 l with
   |none=>rw[h1,h2] at h;cases h
   |some us=>rw[h1,h2] at h;simp only[w00] at h;subst h;obtain⟨e1,e2⟩:=y6z (P:=P) (A:=A) h1;rw[z2l,zir V P e2,e1,zdz h2];rfl
theorem y74[Dr]{n c:Nat}{f:Nat->V.T c}: ∀(l:List Nat),denL V P A (l.flatMap λi=>V.enc c (f i))=l.flatMap λi=>V.ev c (f i)
 | []=>rfl
 |i::l=>by rw[w0w,w0w,z1r,z1b,y74 (n:=n) l]
theorem ztp[Dr]:∀(l:List (SV V.T)),denL V P A (xpd V l)=denL V P A l
 | []=>rfl
 | .arr n c f::l=>by simp only[xpd,z1r,denL,ztp l];rw[y74 (n:=n)];rfl
 | .int ..::l | .bool ..::l | .str ..::l | .val ..::l | .agg ..::l | .tup ..::l | .ro ..::l | .rop ..::l | .ptr ..::l | .own ..::l | .elt ..::l | .pta ..::l | .prt ..::l | .und::l
 | .func ..::l | .rom ..::l | .cmp ..::l | .top::l=>by simp only[xpd,denL,ztp l]
theorem ztx[Dr]{x:SV V.T}(h:z15 x=true):x.den V P A=Px.agg (denL V P A (y0l x)):=by cases x<;>simp[z15] at h<;>simp[y0l,SV.den,denL]
theorem zp1[Dr]{j kc vc E:Nat}{m:List (V.T kc×V.T vc)}{hh:Option (V.T kc×Nat)}{C:Cx P}{q:Nat×Value}{o:Oper}{K:VP->List HP->Prop}(ha:A[j]? = some q)(ho:s.ob[j]? = some (.x (.map kc vc E m hh)))
  (h:q.2 = .map (some q.1)->(∀k i,hh=some (k,i)->(A[i]?).isSome=true)->OpT C o (s.st V P A) K):OpT C o (s.st V P A) K:=
 λa w ro S Q hd hn hw hs=>h (hw.obj j _ (zn V P ha ho)).1.1 (hw.obj j _ (zn V P ha ho)).1.2 a w ro S Q hd hn hw hs
theorem ybs[Dr]{N:Env V}{C:Cx N.P}{A:Asg}{op:BinOp}{t ty:TypeId}{x y:Operand}{t':TypeId}{a b:SV V.T}{k:SV V.T->Option R}(h:binX V N s cur op t y a b k=some r)
  (hx:chP s.gb cur->Ev (s.st V N.P A) x (a.den V N.P A)) (hy:chP s.gb cur->Ev (s.st V N.P A) y (b.den V N.P A)):∃v,k v=some r/\QOK V N.P C A s cur (.binOp op t x y t') ty v:=by
 unfold binX at h;split at h
 .rename_i i m j n;cases hs:zsu op with
  |true=>rw[hs] at h;exact yae h hx hy
  |false=>
   rw[hs] at h;simp only[cond_false] at h;split at h
   .rename_i e;subst e;exact y7g (yc:=y) h hx hy
   .cases h
 .split at h
  .rename_i hu;exact⟨_,h,λhc dst pos after guard=>yg3 hu (hx hc) (hy hc)⟩
  .rename_i hu;exact⟨_,h,λhc dst pos after guard=>yg9 hu (hx hc) (hy hc)⟩
  .cases h
 .split at h
  .rename_i hu;exact⟨_,h,λhc dst pos after guard=>yds hu (hx hc) (hy hc)⟩
  .rename_i hu;exact⟨_,h,λhc dst pos after guard=>ydu hu (hx hc) (hy hc)⟩
  .cases h
 .rename_i i;split at h
  .rename_i kt et kc vc E m hh hu ho;refine⟨_,h,λhc dst pos after guard=>?_⟩;have hx':=hx hc;simp only[SV.den] at hx';cases ha:A[i]? with
   |none=>rw[ha] at hx';exact z6b N.P hx'
   |some q=>rw[ha] at hx';exact zp1 ha ho λhq _=>y9b hu (b:=q.1) (by rw[<- hq];exact hx') (hy hc)
  .cases h
 .split at h
  .rename_i hu;exact⟨_,h,λhc dst pos after guard=>y5a hu (hx hc) (hy hc)⟩
  .cases h
 .split at h
  .rename_i hu;exact⟨_,h,λhc dst pos after guard=>y5c hu (hx hc) (hy hc)⟩
  .cases h
 .split at h
  .rename_i hu;exact⟨_,(z4o h).2,λhc dst pos after guard=>y5b hu ((z4o h).1 hc) (hx hc) (hy hc)⟩
  .cases h
 .split at h
  .rename_i us vs h1 h2;cases hag :(z15 a&&z15 b) with
   |false=>rw[hag] at h;cases h
   |true=>
   rw[hag] at h;simp only[w2o,cond_false] at h;simp only[w03] at hag;have hx:chP s.gb cur->Ev (s.st V N.P A) x (Px.agg (denL V N.P A (xpd V (y0l a)))):=λhc=>by rw[ztp,<- ztx hag.1];exact hx hc
   have hy:chP s.gb cur->Ev (s.st V N.P A) y (Px.agg (denL V N.P A (xpd V (y0l b)))):=λhc=>by rw[ztp,<- ztx hag.2];exact hy hc
   split at h
   .rename_i g hg;cases hgd:N.P.eqGuardType N.P.depth t with
    |true=>rw[hgd] at h;cases h
    |false=>
     rw[hgd] at h;simp only[cond_false] at h;split at h
     .exact⟨_,h,λhc dst pos after guard=>yhd us vs (hx hc) (hy hc) (zdz h1) (zdz h2) hgd (λw=>zlh w hg)⟩
     .exact⟨_,h,λhc dst pos after guard=>yhm us vs (hx hc) (hy hc) (zdz h1) (zdz h2) hgd (λw=>zlh w hg)⟩
     .cases h
   .cases h
  .cases h
structure GbOK{T:Nat->Type}(f:Fm T):Prop where
 val:∀t g,lk f.gb t=some g->∀ch z,lk f.sl t=some (ch,z)->z = .bool g
 ch:∀t ch z,lk f.sl t=some (ch,z)->∀p∈ch,(lk f.gb p.1).isSome=true
 kn:∀p∈f.kn,(lk f.gb p.1).isSome=true
theorem yda{gb:List (Nat×Bool)}{kn:Ch}{t:Nat}{b:Bool}(h:chP gb kn)(hk:lk kn t=some b):(lk gb t).getD false=b:=by
 rw[z8e] at h;have:∀(l:Ch),lk l t=some b->(t,b)∈l:=by
  intro l
  induction l with
  |nil=>intro h;cases h
  |cons p l ih=>
   obtain⟨u,w⟩:=p;intro h;simp only[lk] at h;cases hb:Nat.beq u t with
   |true=>rw[hb] at h;simp at h;have:=w01 hb;subst this;subst h;exact w0l ..
   |false=>rw[hb] at h;exact w0h _ (ih h)
 exact h _ (this kn hk)
theorem ycj{sl:Sls V.T}{ch:Ch}{t:Nat}{x:SV V.T}(h:evO sl ch (.tmp t)=some x):∃c,lk sl t=some (c,x):=by
 simp only[evO] at h;cases h1:lk sl t with
 |none=>rw[h1] at h;cases h
 |some e=>
  obtain⟨c,y⟩:=e;rw[h1] at h;simp only at h;cases h2:y6s c ch with
  |false=>rw[h2] at h;cases h
  |true=>rw[h2] at h;simp at h;exact⟨c,by rw[h]⟩
theorem y6i{t:Nat}{g:Bool}(hgb:GbOK s.toFm)(hs:lk s.gb t=some g){ch:Ch}{x:SV V.T}(h:evO s.sl ch (.tmp t)=some x):x = .bool g:=by obtain⟨c,hc⟩:=ycj h;exact hgb.val t g hs c x hc
theorem zz3[Dr](hkn:chP s.gb s.kn)(hc:chP s.gb cur)(hgb:GbOK s.toFm){t:Nat}{w g:Bool}{x:Operand}{v:SV V.T}(hg:evO s.sl (cur++s.kn) (.tmp t)=some (.bool g))(hgw:g=w)
  (h:evO s.sl (zrd V s cur t w) x=some v):Ev (s.st V P A) x (v.den V P A):=by
 unfold zrd at h;cases hl:lk s.gb t with
 |some g'=>
  rw[hl] at h;have:=y6i hgb hl hg;simp only[SV.bool.injEq] at this;subst this;refine z0t V P h ?_;rw[z8e];intro p hp;rcases w08.1 hp with rfl|hp
  .simp only[hl,w1e];exact hgw
  .exact z8e.1 (z4d hc hkn) p hp
 |none=>rw[hl] at h;exact evO2 hkn hc h
theorem y9z[Dr]{c x y:Operand}{ty:TypeId}{k:SV V.T->Option R}(hkn:chP s.gb s.kn)(hgb:GbOK s.toFm)(h:ye2 V s cur c x y k=some r):∃v,k v=some r/\QOK V P C A s cur (.pick c x y) ty v:=by
 unfold ye2 at h;split at h
 .rename_i t;split at h
  .rename_i g hg;have hcg:chP s.gb cur->Ev (s.st V P A) (.tmp t) (bv g):=λhc=>evO2 hkn hc hg
   split at h
   .rename_i g' h1 h2;have e:=y6i hgb h2 hg;simp only[SV.bool.injEq] at e;have e2:=yda hkn h1;rw[h2] at e2;simp only[w1e] at e2;subst e2;subst e;split at h
    .rename_i v hv;exact⟨v,h,λhc dst pos after guard=>zzx (hcg hc) (λ_=>evO2 hkn hc hv) (λe=>nomatch e)⟩
    .cases h
   .rename_i g' h1 h2;have e:=y6i hgb h2 hg;simp only[SV.bool.injEq] at e;have e2:=yda hkn h1;rw[h2] at e2;simp only[w1e] at e2;subst e2;subst e;split at h
    .rename_i v hv;exact⟨v,h,λhc dst pos after guard=>zzx (hcg hc) (λe=>nomatch e) (λ_=>evO2 hkn hc hv)⟩
    .cases h
   .split at h
    .cases hq :(evO s.sl (zrd V s cur t true) x).bind zii with
     |none=>rw[hq] at h;cases h
     |some q=>rw[hq] at h;have hq':=zar hq;exact⟨_,h,λhc dst pos after guard=>yha (hcg hc) (λe=>zz3 hkn hc hgb hg e hq') (Ev.const _)⟩
    .split at h
     .cases hq :(evO s.sl (zrd V s cur t false) y).bind zii with
      |none=>rw[hq] at h;cases h
      |some q=>rw[hq] at h;have hq':=zar hq;exact⟨_,h,λhc dst pos after guard=>opOr (hcg hc) (Ev.const _) (λe=>zz3 hkn hc hgb hg e hq')⟩
     .cases h
  .cases h
 .cases h
end
end Px
end
section
namespace Px
open Go Go.RowKit
theorem znm{a b:Value}(h:beqZ a b=true):a=b/\a.oneCell'=true:=by
 unfold beqZ at h;split at h
 .simp only[w03,decide_eq_true_eq] at h;obtain⟨rfl,rfl⟩:=h;exact⟨rfl,rfl⟩
 .simp only[beq_iff_eq] at h;subst h;exact⟨rfl,rfl⟩
 .rename_i x y;simp only[w03,beq_iff_eq] at h;have e:x=y:=by cases x with|mk dx=>cases y with|mk dy=>simp[ByteArray.size] at h;rw[h.1,h.2]
  subst e;exact⟨rfl,rfl⟩
 .exact⟨rfl,rfl⟩
 .exact⟨rfl,rfl⟩
 .exact⟨rfl,rfl⟩
 .exact⟨rfl,rfl⟩
 .cases h
section
variable(V:TE)(P:Program)
theorem y78[Dr]{A:Asg}{x:SV V.T}{v:Value}(h:zmV V [v] x=true):denL V P A [x] = [eqv v]/\v.oneCell'=true:=by cases x<;>simp only[zmV,w0q] at h<;>obtain⟨e,h1⟩:=znm h<;>subst e<;>exact⟨rfl,h1⟩
theorem y75[Dr]{A:Asg}: ∀{l:List (SV V.T)}{vs:List Value},zmL V l vs=true->denL V P A l=vs.map eqv/\vs.all (·.oneCell')=true/\vs.length=l.length
 | [],[],_=>⟨rfl,rfl,rfl⟩
 |x::l,v::vs,h=>by simp only[zmL,w03] at h;obtain⟨h1,h2⟩:=y78 V P (A:=A) h.1;obtain⟨h3,h4,h5⟩:=y75 (A:=A) h.2;exact⟨by rw[z2l,h1,h3];rfl,by simp[h2,h4],by simp[h5]⟩
 | [],_::_,h=>by simp[zmL] at h
 |_::_,[],h=>by simp[zmL] at h
theorem y76[Dr]{A:Asg}(r:Nat->Prop)(w:World):∀{l:List (SV V.T)}{vs:List Value},zmR V l vs=true->zl r w (denL V P A l) vs
 | [],[],_=>⟨rfl,λj A h=>by simp[denL] at h⟩
 |x::l,v::vs,h=>by
  have fin:zmV V [v] x=true->zmR V l vs=true->zl r w (denL V P A (x::l)) (v::vs):=λh1 h2=>by obtain⟨e1,e2⟩:=y78 V P (A:=A) h1;rw[z2l,e1];exact zl.append (vs:=[v]) (zau (zs:=[v]) (by simp[e2])) (y76 r w h2)
  cases x with
  |ro c m=>
   simp only[zmR,w03] at h;obtain⟨⟨h1,h2⟩,h3⟩:=h;have hm:m = []:=w3h.1 h1;subst hm;have hv:v = .slice none 0 0:=by
    unfold zzj at h2;split at h2
    .rfl
    .cases h2
   subst hv;rw[z2l];refine zl.append (vs:=[.slice none 0 0]) ⟨rfl,λj A hj=>?_⟩ (y76 r w h3);cases j with
   |zero=>simp[denL,SV.den] at hj;subst hj;exact⟨_,rfl,.inl ⟨⟨none,0,rfl⟩,rfl⟩,rfl⟩
   |succ j=>simp[denL] at hj
  |_=>simp only[zmR,w03] at h;exact fin h.1 h.2
 | [],_::_,h=>by simp[zmR] at h
 |x::_,[],h=>by cases x<;>simp[zmR] at h
theorem ybl[Dr]{A:Asg}{m:List (SV V.T)}: ∀{n:Nat}{vs:List Value},zmA V m n vs=true->(List.replicate n (denL V P A m)).flatten=vs.map eqv/\vs.all (·.oneCell')=true
 |0,vs,h=>by simp only[zmA,w3h] at h;subst h;exact⟨rfl,rfl⟩
 |n+1,vs,h=>by
  simp only[zmA,w03] at h;obtain⟨h1,h2,_⟩:=y75 V P (A:=A) h.1;obtain⟨h3,h4⟩:=ybl (A:=A) h.2;have e:=w14 m.length vs;refine⟨?_,?_⟩
  .rw[List.replicate_succ,List.flatten_cons,h3,h1,<- w25,e]
  .rw[<- e,w4i,h2,h4];rfl
theorem y7i{α:Type}(e:α->List VP)(z:α):∀(n:Nat),Px.arr n e (λ_=>z) =(List.replicate n (e z)).flatten:=by
 intro n;unfold Px.arr
 induction n with
 |zero=>rfl
 |succ n ih=>rw[w3w,w35,ih,List.replicate_succ',List.flatten_append];simp
theorem zgt[Dr]{A:Asg}: ∀{l:List (SV V.T)}{vs:List Value},zf9 V l vs=true->denL V P A (fixZ V l)=vs.map eqv/\vs.all (·.oneCell')=true
 | [],vs,h=>by
  cases vs with
  |nil=>exact⟨rfl,rfl⟩
  |cons v vs=>simp[zf9] at h
 | .arr n c f::l,vs,h=>by
  simp only[zf9,w03] at h;obtain⟨h1,h2⟩:=ybl V P (A:=A) h.1;obtain⟨h3,h4⟩:=zgt (A:=A) h.2;rw[z1b] at h1;have e:=w14 (n*V.sz c) vs;refine⟨?_,?_⟩
  .simp only[fixZ,denL,y7i,h1,h3];rw[<- w25,e]
  .rw[<- e,w4i,h2,h4];rfl
 | .int ..::l,v::vs,h | .bool ..::l,v::vs,h | .str ..::l,v::vs,h | .val ..::l,v::vs,h | .agg ..::l,v::vs,h | .tup ..::l,v::vs,h | .ro ..::l,v::vs,h | .rop ..::l,v::vs,h
 | .ptr ..::l,v::vs,h | .own ..::l,v::vs,h | .elt ..::l,v::vs,h | .pta ..::l,v::vs,h | .prt ..::l,v::vs,h | .und::l,v::vs,h | .func ..::l,v::vs,h | .rom ..::l,v::vs,h | .cmp ..::l,v::vs,h | .top::l,v::vs,h=>by simp only[zf9,w03] at h;obtain⟨h1,h2⟩:=y78 V P (A:=A) h.1;obtain⟨h3,h4⟩:=zgt (A:=A) h.2;refine⟨?_,by simp[h2,h4]⟩;simp only[fixZ];rw[z2l,h1,h3];rfl
 | .int ..::l,[],h | .bool ..::l,[],h | .str ..::l,[],h | .val ..::l,[],h | .agg ..::l,[],h | .tup ..::l,[],h | .ro ..::l,[],h | .rop ..::l,[],h
 | .ptr ..::l,[],h | .own ..::l,[],h | .elt ..::l,[],h | .pta ..::l,[],h | .prt ..::l,[],h | .und::l,[],h | .func ..::l,[],h | .rom ..::l,[],h | .cmp ..::l,[],h | .top::l,[],h=>by simp[zf9] at h
theorem zy3[Dr]{A:Asg}: ∀(vs:List Value),denL V P A (vs.map zt9)=vs.map eqv
 | []=>rfl
 |v::vs=>by
  have h:denL V P A [(zt9 v:SV V.T)] = [eqv v]:=by cases v<;>rfl
  rw[w0e,z2l,h,zy3 vs];rfl
def ownO{T:Nat->Type}: SO T->Bool
 | .row ..=>true
 | .x _=>true
 |_=>false
def OneA(A:Asg)(ob:List (SO V.T)):Prop:=∀(i:Nat)(q:Nat×Value)(o:SO V.T),A[i]? = some q->ob[i]? = some o->ownO o=true->q.2.oneCell'=true
theorem y5j[Dr]{A:Asg}{ob:List (SO V.T)}(h1:OneA V A ob){x:SV V.T}(h:oneS V ob x=true):One (x.den V P A)/\z15 x=false:=by
 cases x with
 |int k n=>exact⟨One.eqv rfl,rfl⟩
 |bool b=>exact⟨One.eqv rfl,rfl⟩
 |str b=>exact⟨One.eqv rfl,rfl⟩
 |val v=>exact⟨One.eqv h,rfl⟩
 |ro c l=>exact⟨One.ro,rfl⟩
 |rom kc vc m=>exact⟨λr w v(h :(V.mv V.ev kc vc m).h r w v)=>by rcases h with⟨rfl,_⟩|⟨b,t,rfl,_⟩<;>rfl,rfl⟩
 |rop cs=>exact⟨One.rop,rfl⟩
 |ptr i off=>
  refine⟨?_,rfl⟩;simp only[SV.den];cases A[i]? with
  |none=>exact λ_ _ _ hv=>hv.elim
  |some q=>exact One.eqv rfl
 |own i=>
  refine⟨?_,rfl⟩;simp only[SV.den];cases ha:A[i]? with
  |none=>exact λ_ _ _ hv=>hv.elim
  |some q=>
   simp only[oneS] at h;split at h
   .rename_i E c l ho;exact One.eqv (h1 i q _ ha ho rfl)
   .rename_i xo ho;exact One.eqv (h1 i q _ ha ho rfl)
   .cases h
 |elt i k z fo=>
  refine⟨?_,rfl⟩;simp only[SV.den];cases A[i]? with
  |none=>exact λ_ _ _ hv=>hv.elim
  |some q=>exact λr w v ⟨g,n,cap,_,hv,_⟩=>by subst hv;rfl
 |func f caps=>refine⟨?_,rfl⟩;simp only[SV.den];exact λr w v ⟨caps,hv,_⟩=>by subst hv;rfl
 |_=>simp[oneS] at h
theorem yez[Dr]{A:Asg}{s:St}{ob:List (SO V.T)}(h1:OneA V A ob){x:SV V.T}{o:Operand}(hs:storable V ob x=true)(h:Ev s o (x.den V P A)):Ce s o (denL V P A (cellsOf x)):=by
 unfold storable at hs;cases ha:z15 x with
 |true=>rw[zwu V P ha] at h;exact Ce.agg h
 |false=>
  rw[ha,w2w] at hs;have hc:cellsOf x = [x]:=by cases x<;>simp[z15] at ha<;>rfl
  rw[hc,zir V P ha];exact Ce.one h (y5j V P h1 hs).1
theorem yek[Dr]{A:Asg}{l new m:List (SV V.T)}{o n:Nat}(h:splL V l o new n=some m):denL V P A m =(denL V P A l).take o++denL V P A new++(denL V P A l).drop (o+n)/\o+n<=(denL V P A l).length:=by
 unfold splL at h;cases hs:splC V l o new n with
 |some q=>rw[hs] at h;cases h;exact zpv V P hs
 |none=>
  rw[hs] at h;simp only at h;unfold splA at h;split at h
  .rename_i k c f;cases hb :(Nat.beq n (V.sz c)&&Nat.beq (o % n) 0&&Nat.ble (o / n+1) k) with
   |false=>rw[hb] at h;cases h
   |true=>
    rw[hb] at h;simp only[cond_true] at h;simp only[w03] at hb;have e1:=w01 hb.1.1;have e2:=w01 hb.1.2;have e3:=w0p hb.2;split at h
    .rename_i y hy;cases h;have e5:=zwh (zfw (P:=P) (A:=A) (R:=Eq) zrj zrk (λ_=>rfl) (λ_ _ _ h=>zri h) hy);have e6:o=o / n*V.sz c:=by have:=Nat.div_add_mod o n;rw[e2,w3y] at this;rw[<- e1,w50];exact this.symm
     have h3:=zfk (N:=k) (f:=f) (V.ev_len c);have h4 :(o / n+1)*V.sz c<=k*V.sz c:=w13 _ e3;rw[w16] at h4;have h5:=zqx (pre:=[]) (post:=[]) (N:=k) (sz:=V.sz c) (k:=o / n) (off:=o) (n:=n) (e:=V.ev c) (f:=f) (y:=y) (cs:=denL V P A new) (V.ev_len c) (by simpa using e6) e3 e1 e5;simp only[w2u,w0b] at h5;simp only[denL,w0b];refine⟨h5.symm,?_⟩;rw[h3];omega
    .cases h
  .cases h
theorem zxm[Dr]{A:Asg}{s:SS V.T}{ob:List (SO V.T)}{ch:Ch}{t:TypeId}(h1:OneA V A ob)(hc:chP s.gb ch):∀{ps:List (Nat×Operand)}{cs out:List (SV V.T)},layX V P t ob s.sl ch cs ps=some out->
  ∃qs,y7e (s.st V P A) (zmb P t) (clen V cs) ps qs/\lay (denL V P A cs) qs=denL V P A out
 | [],cs,out,h=>by simp[layX] at h;subst h;exact⟨[],trivial,rfl⟩
 |(i,o)::ps,cs,out,h=>by
  simp only[layX] at h;cases hp:zmb P t i with
  |none=>rw[hp] at h;cases h
  |some q=>
   obtain⟨off,n⟩:=q;cases hx:evO s.sl ch o with
   |none=>rw[hp,hx] at h;cases h
   |some x=>
    rw[hp,hx] at h;simp only at h;cases hb :(Nat.beq n (clen V (cellsOf x))&&storable V ob x) with
    |false=>rw[hb] at h;cases h
    |true=>
     rw[hb] at h;simp only[cond_true] at h;simp only[w03] at hb;have en:=w01 hb.1;cases hs:splL V cs off (cellsOf x) n with
     |none=>rw[hs] at h;cases h
     |some cs'=>
      rw[hs] at h;simp only at h;obtain⟨e,hl⟩:=yek V P (A:=A) hs;obtain⟨qs,hq,hlay⟩:=zxm h1 hc h;have hlen:=ze5 V P (A:=A) (cellsOf x);have hcs:=ze5 V P (A:=A) cs;have hcs':=ze5 V P (A:=A) cs';have hsame:clen V cs'=clen V cs:=by rw[<- hcs',e];simp[hlen,en] at *;omega
      refine⟨(off,denL V P A (cellsOf x))::qs,⟨by rw[hp,hlen,en],by rw[hlen,<- en,<- hcs];exact hl,yez V P h1 hb.2 (z0t V P hx hc),by rw[<- hsame];exact hq⟩,?_⟩;simp only[lay];rw[<- hlay,e,hlen,en]
end
end Px
end
section
namespace Px
open Go Go.RowKit
section
variable{V:TE}{N:Env V}{R:Type}{r:R}{C:Cx N.P}{A:Asg}{s:SS V.T}{cur:Ch}
theorem y2p[Dr](hc:chP s.gb cur)(hkn:chP s.gb s.kn):∀{os:List Operand}{l:List (SV V.T)},zm.capsX V s.sl (cur++s.kn) os=some l->
  ∀a ro w,ze (s.st V N.P A).slots a ro w->(os.map a.eval).length =(denV V N.P A l).length/\∀(i:Nat)(B:VP),(denV V N.P A l)[i]? = some B->B.h ro w ((os.map a.eval).getD i undef)
 | [],l,h,a,ro,w,_=>by simp[zm.capsX] at h;subst h;simp[denV]
 |o::os,l,h,a,ro,w,hs=>by
  simp only[zm.capsX] at h;cases h1:evO s.sl (cur++s.kn) o with
  |none=>rw[h1] at h;cases h
  |some x=>
   rw[h1] at h;cases h2:zm.capsX V s.sl (cur++s.kn) os with
   |none=>simp only[h2] at h;cases h
   |some m=>
    simp only[h2,w00] at h;subst h;obtain⟨e1,e2⟩:=y2p hc hkn h2 a ro w hs;refine⟨by simp[denV] at e1⊢;exact e1,λi B hB=>?_⟩;cases i with
    |zero=>simp[denV] at hB;subst hB;exact evO2 hkn hc h1 a ro w hs
    |succ i=>simpa using e2 i B (by simpa[denV] using hB)
theorem y5t[Dr]{P:Program}{C:Cx P}{s:St}{dst:Option Tmp}{ty:TypeId}{pos:String}{after:Array Edge}{guard:Option (Nat×Bool)}{f:FuncId}{first caps:Array Operand}{Xs:List VP}(hf:first.isEmpty=true)
  (h:∀a ro w,ze s.slots a ro w->(caps.toList.map a.eval).length=Xs.length/\∀(i:Nat)(B:VP),Xs[i]? = some B->B.h ro w ((caps.toList.map a.eval).getD i undef)) :
  OpQ C ⟨dst,.makeFunc (.func f) first caps,ty,pos,after,guard⟩ s (fnc f Xs):=
 .val λa ro w hs=>by
  obtain⟨e1,e2⟩:=h a ro w hs;have:first = #[]:=by simpa using hf
  subst this;refine⟨.func (.func f) #[] (caps.map a.eval),by simp[execOp,Instr.makeFunc],caps.map a.eval,rfl,by simpa using e1,λi B hB=>?_⟩;have:=e2 i B hB;simpa[w07,w1q] using this
theorem zxi[Dr](hc:chP s.gb cur)(hkn:chP s.gb s.kn){k:IntKind}: ∀{os:List Operand}{l:List Int},y0y s.sl (cur++s.kn) k os=some l->znj (s.st V N.P A) k os l
 | [],l,h=>by simp[y0y] at h;subst h;trivial
 |o::os,l,h=>by
  simp only[y0y] at h;split at h
  .rename_i k' n h1;split at h
   .rename_i e;subst e;split at h
    .rename_i m h2;simp only[w00] at h;subst h;exact⟨evO2 hkn hc h1,zxi hc hkn h2⟩
    .cases h
   .cases h
  .cases h
theorem zh5{P:Program}{ts:Array TypeId}(h:zm.isSl1 P ts=true):∃t,ts = #[t]/\isSl P t=true:=by
 unfold zm.isSl1 at h;split at h
 .rename_i t ht;exact⟨t,by cases ts;simp at ht;rw[ht],h⟩
 .cases h
theorem y4f{P:Program}{ts:Array TypeId}(h:zm.isStr1 P ts=true):∃t,ts = #[t]/\P.underlying t=some .string:=by
 unfold zm.isStr1 at h;split at h
 .rename_i t ht;split at h
  .rename_i hu;exact⟨t,by cases ts;simp at ht;rw[ht],hu⟩
  .cases h
 .cases h
theorem ycx[Dr]{P:Program}{C:Cx P}{s:St}{dst:Option Tmp}{ty:TypeId}{pos:String}{after:Array Edge}{guard:Option (Nat×Bool)}{j E c:Nat}{t:TypeId}{x i:Operand}{l:List (V.T c)}{sv:Value}{k:IntKind}{m:Int}
  (ht:tidx P t=some (false,0,V.sz c)) (h:Ev s x (eqv sv)) (ho:s.objs[j]? = some (row E (V.ev c) (V.sz c) l sv)) (hi:Ev s i (iv k m)) (h0:0<=m) (h1:m<(l.length:Int)) :
  OpQ C ⟨dst,.indexAddr t x i,ty,pos,after,guard⟩ s (eltp sv m (m.toNat*V.sz c)):=
 .valO λa r S w hw hs=>by
  have h2:=hi a r w hs;have h3:=h a r w hs;simp only[iv,eqv] at h2 h3;rcases hw.obj j _ ho with⟨_,rfl⟩|⟨g,cap,cur,hv,hS,hcur,hl,hm,hsz,hh⟩
  .simp at h1;omega
  .exact⟨_,by simp only[execOp,h3,hv,h2,w06,zex w ht h0 h1,w1c];rfl,g,_,cap,hv,rfl,h0,h1⟩
theorem y8p[Dr]{P:Program}{C:Cx P}{s:St}{dst:Option Tmp}{ty:TypeId}{pos:String}{after:Array Edge}{guard:Option (Nat×Bool)}{j E c:Nat}{t:TypeId}{x i:Operand}{l:List (V.T c)}{sv:Value}{k:IntKind}{m:Int}
  (ht:tidx P t=some (false,0,V.sz c)) (h:Ev s x (eqv sv)) (ho:ObIs s.objs j (row E (V.ev c) (V.sz c) l sv)) (hi:Ev s i (iv k m)) (h0:0<=m) (h1:m<(l.length:Int)) :
  OpQ C ⟨dst,.indexAddr t x i,ty,pos,after,guard⟩ s (eltp sv m (m.toNat*V.sz c)):=
 .valO λa r S w hw hs=>by
  have h2:=hi a r w hs;have h3:=h a r w hs;simp only[iv,eqv] at h2 h3;rcases ObIs.at hw ho with⟨_,rfl⟩|⟨g,cap,cur,hv,hS,hcur,hl,hm,hsz,hh⟩
  .simp at h1;omega
  .exact⟨_,by simp only[execOp,h3,hv,h2,w06,zex w ht h0 h1,w1c];rfl,g,_,cap,hv,rfl,h0,h1⟩
theorem yg4[Dr]{P:Program}{C:Cx P}{s:St}{dst:Option Tmp}{ty:TypeId}{pos:String}{after:Array Edge}{guard:Option (Nat×Bool)}{α:Type}{E:TypeId}{e:α->List VP}{sz:Nat}{l:List α}{sv:Value}(j:Nat){t:TypeId}{x:Operand}(ht:isSl P t=true)(h:Ev s x (eqv sv))(ho:ObIs s.objs j (row E e sz l sv)):
  OpQ C ⟨dst,.call { callee:=.builtin .len,args:=#[x],argTypes:=#[t] },ty,pos,after,guard⟩ s (iv .i64 l.length):=
 .valO λa r S w hw hs=>by
  have h3:=h a r w hs;simp only[eqv] at h3;rcases ObIs.at hw ho with⟨hv,rfl⟩|⟨g,cap,cur,hv,_⟩
  .exact⟨_,z5g (by rw[h3,hv];exact z86 w ht),rfl⟩
  .exact⟨_,z5g (by rw[h3,hv];exact z86 w ht),rfl⟩
theorem y6v{P:Program}{t:TypeId}{n e:Nat}(h:tidx P t=some (false,n,e)):n=0:=by
 unfold tidx at h;split at h
 .rename_i n' e' hu;cases hi:P.info? e' with
  |none=>rw[hi] at h;simp at h
  |some i=>rw[hi] at h;simp at h
 .rename_i e' hu;cases hi:P.info? e' with
  |none=>rw[hi] at h;simp at h
  |some i=>rw[hi] at h;simp at h;omega
 .cases h
theorem ybh(m:Int)(k:Nat):scl m k=m.toNat*k:=by
 unfold scl;cases h:Nat.beq k 1 with
 |false=>rfl
 |true=>have:=w01 h;subst this;simp
theorem y48[Dr]{P:Program}{C:Cx P}{s:St}{dst:Option Tmp}{ty:TypeId}{pos:String}{after:Array Edge}{guard:Option (Nat×Bool)}{t:TypeId}{x i:Operand}{k:IntKind}{m:Int}{n e b off:Nat}{F:Prop}
  (ht:tidx P t=some (true,n,e)) (hx:Ev s x ⟨λ_ _ v=>F/\v = .pointer (some ⟨b,off,none⟩),λ_ _ h=>h⟩) (hi:Ev s i (iv k m)) (h0:0<=m) (h1:m<(n:Int)) {F':Prop} (hF:F->F') {off':Nat} (ho:off'=off+m.toNat*e) :
  OpQ C ⟨dst,.indexAddr t x i,ty,pos,after,guard⟩ s ⟨λ_ _ v=>F'/\v = .pointer (some ⟨b,off',none⟩),λ_ _ h=>h⟩:=
 .val λa r w hs=>by
  have h2:=hi a r w hs;obtain⟨hf,h3⟩:=hx a r w hs;simp only[iv,eqv] at h2;subst ho;exact⟨_,by simp only[execOp,h3,h2,w06,zm6 w ht h0 h1];rfl,hF hf,rfl⟩
theorem ydq[Dr]{s:St}{dst:Option Tmp}{pos:String}{after:Array Edge}{guard:Option (Nat×Bool)}{f:FuncId}{fo:Operand}{as:Array Operand}{ts:Array TypeId}{ty:TypeId}{Xs Ys args:List VP}{x:VP}(hf:FnOK N.P f)(hfo:Ev s fo (fnc f Xs))(hX:zka C s Xs Ys)(ha:zts C s as.toList args)
  (h:zdn N.P f (args++Ys) λy news=>y=x/\news = []) (hx:x.flat):OpQ C ⟨dst,.call { callee:=.value fo,args:=as,argTypes:=ts },ty,pos,after,guard⟩ s x:=by
 intro a w r S Q hd hn hw hs;obtain⟨fn,h1,h2,h3⟩:=hf;obtain⟨caps,hv,hl,hc⟩:=hfo a r w hs;obtain⟨e1,e2⟩:=ha.ok hw hs;obtain⟨e3,e4⟩:=hX.ok;unfold Oper.wp;have hrun :(execOp a.eval ⟨dst,.call { callee:=.value fo,args:=as,argTypes:=ts },ty,pos,after,guard⟩).run N.P w = .ok (.enter f (as.map a.eval++caps)) w:=by simp[execOp,Go.resolve,hv,Deferred.ofValue,invoke,z1v h1 h2 h3]
 rw[hrun,Oper.upon_enter];have hsz:as.size=args.length:=by simpa using e1
 refine(h (λb=>b<w.heap.size) w _ (λ_ h=>h) (by simp[hsz,hl,e3]) λi A hi=>?_).mono ?_
 .rw[w1w] at hi;split at hi
  .rename_i hlt;have:=e2 i A hi;have hlt':i<as.size:=by omega
   simpa[w07,w15,hlt',w1a] using this
  .rename_i hge;obtain⟨B,hB,hBA⟩:=e4 _ A hi;have:=A.mono (λ_ hb=>hw.all hb) (λ_ _=>rfl) (hBA r S w _ hw (hc _ B hB));have hge':¬i<args.length:=by omega
   simpa[w07,w15,hge',hsz] using this
 .rintro e w' ⟨v,X,news,r',S',rfl,he,hw',hxv,rfl,rfl⟩;exact⟨v,r,_,_,_,rfl,⟨λ_ h=>h,λb hb=>he.2.1 b (hw.old b hb),λ_ h=>.inl h⟩,hw.join hw' r (λ_ h=>h) (λb hb=>.inl hb) (λi H hi=>by simp at hi),hx _ _ _ _ _ hxv,rfl,by simp⟩
theorem y9h[Dr]{s:St}{dst:Option Tmp}{pos:String}{after:Array Edge}{guard:Option (Nat×Bool)}{f:FuncId}{fo:Operand}{as:Array Operand}{ts:Array TypeId}{ty:TypeId}{Xs args:List VP}{K K':VP->List HP->Prop}(hf:FnOK N.P f)(hfo:Ev s fo (fnc f Xs))(ha:Args s as.toList args)
  (h:zdn N.P f (args++Xs) K') (k:∀x news,K' x news->K x (s.objs++news)):OpT C ⟨dst,.call { callee:=.value fo,args:=as,argTypes:=ts },ty,pos,after,guard⟩ s K:=by
 intro a w r S Q hd hn hw hs;obtain⟨fn,h1,h2,h3⟩:=hf;obtain⟨caps,hv,hl,hc⟩:=hfo a r w hs;obtain⟨e1,e2⟩:=ha.ok hs;unfold Oper.wp;have hrun :(execOp a.eval ⟨dst,.call { callee:=.value fo,args:=as,argTypes:=ts },ty,pos,after,guard⟩).run N.P w = .ok (.enter f (as.map a.eval++caps)) w:=by simp[execOp,Go.resolve,hv,Deferred.ofValue,invoke,z1v h1 h2 h3]
 rw[hrun,Oper.upon_enter];have hsz:as.size=args.length:=by simpa using e1
 refine(h r w _ hw.old (by simp[hsz,hl]) λi A hi=>?_).mono ?_
 .rw[w1w] at hi;split at hi
  .rename_i hlt;have:=e2 i A hi;have hlt':i<as.size:=by omega
   simpa[w07,w15,hlt',w1a] using this
  .rename_i hge;have:=hc _ A hi;have hge':¬i<args.length:=by omega
   simpa[w07,w15,hge',hsz] using this
 .rintro e w' ⟨v,x,news,r',S',rfl,he,hw',hx,hk⟩;refine⟨v,r',_,x,_,rfl,⟨he.1,he.2.1,λb hb=>(he.2.2 b hb).imp id (λq=>w26 hw.size q)⟩,hw.join hw' r' he.1 (λb hb=>?_) hw'.obj,hx,k _ _ hk⟩;rcases he.2.2 b hb with q|q
  .exact .inl q
  .exact .inr ⟨q,hb⟩
theorem y63[Dr](hN:z4t V N)(hkn:chP s.gb s.kn){f t:Nat}{caps:List (SV V.T)}{as:Array Operand}{ts:Array TypeId}{ty:TypeId}{k:SV V.T->Option R}{sp:Csp V}(hsp:N.cl f=some sp)(hv:evO s.sl (cur++s.kn) (.tmp t)=some (.func f caps))
  (h :(bif sp.res.any zer then none else(match decA V (bif sp.res.all (flR V) then rdSl s.ob else rdSl []) s.sl (cur++s.kn) sp.args as.toList,zft V (bif sp.res.all (flR V) then s.ob else []) sp.caps caps with
    |some a,some b=>bif zm.fnok N.P f then zry s.gb cur (zR V sp.res) (sp.F a b) λr=>k (resV V (encR V 0 sp.res r)) else none
    |_,_=>none))=some r):∃v,k v=some r/\QOK V N.P C A s cur (.call { callee:=.value (.tmp t),args:=as,argTypes:=ts }) ty v:=by
 cases h1:sp.res.any zer with
 |true=>rw[h1] at h;cases h
 |false=>
  rw[h1] at h;simp only[cond_false] at h;split at h
  .rename_i a b h3 h5;cases h4:zm.fnok N.P f with
   |false=>rw[h4] at h;cases h
   |true=>
    rw[h4] at h;simp only[cond_true] at h;obtain⟨y,hy,hk⟩:=zrz h;refine⟨_,hk,λhc dst pos after guard=>?_⟩;have hp:=hN.cl f sp hsp a b y (hy hc);have key:∀x news,Kres V N.P sp.res y x news->x =(resV V (encR V 0 sp.res y)).den V N.P A/\news = []:=by rintro x news ⟨B,hB,rfl,rfl⟩;obtain⟨e1,e2⟩:=ziu V N.P (B:=B) 0 sp.res y h1;refine⟨ztc V N.P (e2 A).symm,?_⟩;rw[e1];cases B<;>rfl
    have hv':=evO2 (A:=A) (P:=N.P) hkn hc hv;simp only[SV.den] at hv';cases h2:sp.res.all (flR V) with
    |true=>rw[h2] at h3 h5;exact ydq (z8p N.P h4) hv' (zs1 V N.P h5) (zgw V N.P (z4d hc hkn) h3) (hp.mono key) (zpq V N.P (zo6 V N.P 0 sp.res y h1 h2))
    |false=>
     rw[h2] at h3 h5;rw[zu9 (A:=A) V N.P h5] at hv';refine y9h (z8p N.P h4) hv' (ziq V N.P (z4d hc hkn) h3) hp λx news hK=>?_
     obtain⟨h6,h7⟩:=key x news hK;exact⟨h6,by rw[h7,w0b]⟩
  .cases h
theorem y1o[Dr](hN:z4t V N)(hkn:chP s.gb s.kn){f:Nat}{as:Array Operand}{ts:Array TypeId}{ty:TypeId}{k:SV V.T->Option R}{sp:Fsp V}(hsp:N.fn f=some sp)
  (h :(bif sp.res.any zer then none else(match decA V (rdQ V s.ob sp.res) s.sl (cur++s.kn) sp.args as.toList with
    |some a=>bif zm.fnok N.P f then zry s.gb cur (zR V sp.res) (sp.F a) λr=>k (resV V (encR V 0 sp.res r)) else none
    |none=>none))=some r):∃v,k v=some r/\QOK V N.P C A s cur (.call { callee:=.value (.func f),args:=as,argTypes:=ts }) ty v:=by
 cases h1:sp.res.any zer with
 |true=>rw[h1] at h;cases h
 |false=>
  rw[h1] at h;simp only[cond_false] at h;split at h
  .rename_i a h3;cases h4:zm.fnok N.P f with
   |false=>rw[h4] at h;cases h
   |true=>
    rw[h4] at h;simp only[cond_true] at h;obtain⟨y,hy,hk⟩:=zrz h;refine⟨_,hk,λhc dst pos after guard=>?_⟩;have hp:=hN.fn f sp hsp a y (hy hc);have key:∀x news,Kres V N.P sp.res y x news->x =(resV V (encR V 0 sp.res y)).den V N.P A/\news = []:=by rintro x news ⟨B,hB,rfl,rfl⟩;obtain⟨e1,e2⟩:=ziu V N.P (B:=B) 0 sp.res y h1;refine⟨ztc V N.P (e2 A).symm,?_⟩;rw[e1];cases B<;>rfl
    cases h2:sp.res.all (flR V) with
    |true=>unfold rdQ at h3;rw[h2] at h3;exact ydr (z8p N.P h4) (zgw V N.P (z4d hc hkn) h3) (hp.mono key) (zpq V N.P (zo6 V N.P 0 sp.res y h1 h2))
    |false=>
     unfold rdQ at h3;rw[h2] at h3;cases h7:sp.res.all (sepR V) with
     |true=>rw[h7] at h3;exact ydo N.P (z8p N.P h4) (zr3 V N.P (z4d hc hkn) h3) (λr S w hw=>y3j V N.P hw) (hp.mono key) (ya7 V N.P (zz1 V N.P 0 sp.res y h1 h7))
     |false=>
     rw[h7] at h3;refine y5n (z8p N.P h4) (ziq V N.P (z4d hc hkn) h3) hp λx news hK=>?_
     obtain⟨h5,h6⟩:=key x news hK;exact⟨h5,by rw[h6,w0b]⟩
  .cases h
end
section xo
variable{V:TE}{P:Program}{C:Cx P}{A:Asg}{s:SS V.T}
theorem y58[Dr]{j E E2 c:Nat}{l:List (V.T c)}{h:Option (Int×Nat)}{q:Nat×Value}(ha:A[j]? = some q)(ho:s.ob[j]? = some (.x (.nst E E2 c l h))):ObIs (s.st V P A).objs j (nst E (V.inn E2 c) l (zgc A h) q.2):=⟨_,zn V P ha ho,λ_ _ _ h=>h.2⟩
theorem zvi[Dr]{j kc vc E:Nat}{m:List (V.T kc×V.T vc)}{hh:Option (V.T kc×Nat)}{q:Nat×Value}(ha:A[j]? = some q)(ho:s.ob[j]? = some (.x (.map kc vc E m hh))):ObIs (s.st V P A).objs j (nmp q.1 (V.kl kc) (V.kv kc) (V.inm E vc) m (zbc A hh)):=⟨_,zn V P ha ho,λ_ _ _ h=>h.2⟩
theorem zm1{E c:Nat}(h:zbd (V.d c)=true):V.inm E c=plI (V.kv c):=by funext x v;unfold TE.inm TE.kv plI;generalize (λc=>kvS (V.d c))=g;revert x h;generalize V.d c=d;revert d;generalize V.T c=α;intro d h x;cases d<;>first|rfl|simp[zbd] at h
theorem yfb[Dr]{j E c:Nat}{l:List (V.T c)}{q:Nat×Value}{o:Oper}{K:VP->List HP->Prop}(ha:A[j]? = some q)(ho:s.ob[j]? = some (.x (.fix E c l)))(h:zxj (V.d c)=true/\exSl q.2->OpT C o (s.st V P A) K):OpT C o (s.st V P A) K:=λa w ro S Q hd hn hw hs=>h (hw.obj j _ (zn V P ha ho)).1 a w ro S Q hd hn hw hs
theorem yb9[Dr]{j E E2 c:Nat}{l:List (V.T c)}{hh:Option (Int×Nat)}{q:Nat×Value}{o:Oper}{K:VP->List HP->Prop}(ha:A[j]? = some q)(ho:s.ob[j]? = some (.x (.nst E E2 c l hh)))
  (h:zv6 (V.d c)=true/\(∀k j,hh=some (k,j)->(A[j]?).isSome=true)->OpT C o (s.st V P A) K):OpT C o (s.st V P A) K:=
 λa w ro S Q hd hn hw hs=>h (hw.obj j _ (zn V P ha ho)).1 a w ro S Q hd hn hw hs
theorem zzi{ts:Array TypeId}(h:zm.isMp1 P ts=true):∃t kt et,ts = #[t]/\P.underlying t=some (.map kt et):=by
 unfold zm.isMp1 at h;split at h
 .rename_i t ht;split at h
  .rename_i kt et hu;exact⟨t,kt,et,by cases ts;simp at ht;rw[ht],hu⟩
  .cases h
 .cases h
theorem zky{N:Env V}{t kc et:Nat}(h:keyT V N t kc=some et):∃kt,N.P.underlying t=some (.map kt et)/\keyE N.P V.d kt (V.d kc) (N.P.underlying kt)=true:=by
 unfold keyT at h;split at h
 .rename_i kt et' hu;cases hb:keyE N.P V.d kt (V.d kc) (N.P.underlying kt) with
  |false=>rw[hb] at h;cases h
  |true=>rw[hb] at h;simp only[cond_true,w00] at h;subst h;exact⟨kt,hu,hb⟩
 .cases h
theorem y7y{r:Nat->Prop}{w:World}{l us:List Value}(h:zl r w (l.map eqv) us):us=l:=by
 refine w32 λi=>?_
 have hl:=h.1;rw[w0x] at hl;by_cases hi:i<l.length
 .obtain⟨u,hu,hA,_⟩:=h.2 i (eqv l[i]) (by simp[hi]);simp only[eqv] at hA;rw[hu,hA];simp[hi]
 .rw[w1m (by omega),w1m (by omega)]
theorem y2h{l:List Value}: Ent (Px.agg (l.map eqv)) (eqv (.agg l.toArray)):=by rintro r w v ⟨vs,rfl,hh⟩;simp only[eqv];rw[<- y7y hh]
theorem y3d{l:List Value}(h:∀v∈l,∃q n,v = .int q n):Ent (eqv (.agg l.toArray)) (Px.agg (l.map eqv)):=by rintro r w v hv;simp only[eqv] at hv;subst hv;refine⟨l.toArray,rfl,?_⟩;exact zau (by rw[w0g];intro v hv;obtain⟨q,n,rfl⟩:=h v (by simpa using hv);rfl)
theorem zxh{c:Nat}(h:y0z (V.d c)=true):∃q,∀y:V.T c,kvS (V.d c) y = .int q (klS (V.d c) y)/\V.ev c y = [eqv (.int q (klS (V.d c) y))]:=by
 have hev:=λy=>V.ev_eq c y
 revert h hev;generalize V.ev c=e;generalize V.d c=d;revert e d;generalize V.T c=α;intro e d h hev;cases d with
 |int q=>exact⟨q,λy=>⟨rfl,hev y⟩⟩
 |_=>simp[y0z] at h
theorem zsv{T:Nat->Type}{α:Type}{d:Ds T α}{u:Option TypeDesc}(h:keyD d u=true):y0z d=true/\∃q,u=some (.int q)/\∀y,kvS d y = .int q (klS d y):=by
 cases d with
 |int q=>
  cases u with
  |none=>simp[keyD] at h
  |some u=>cases u<;>simp[keyD] at h;subst h;exact⟨rfl,_,rfl,λy=>rfl⟩
 |_=>cases u<;>simp[keyD] at h
theorem ztk:∀{fs:List Nat},fs.all (λc=>y0z (V.d c))=true->∃qs:List IntKind,∀x:Tup V.T fs,kvT (λc=>kvS (V.d c)) fs x=zipI qs (klT (λc=>klS (V.d c)) fs x)/\evT V.ev fs x =(zipI qs (klT (λc=>klS (V.d c)) fs x)).map eqv
 | [],_=>⟨[],λ_=>⟨rfl,rfl⟩⟩
 |c::cs,h=>by simp only[w1b,w03] at h;obtain⟨q,hq⟩:=zxh h.1;obtain⟨qs,hqs⟩:=ztk h.2;refine⟨q::qs,λx=>?_⟩;obtain⟨h1,h2⟩:=hq x.1;obtain⟨h3,h4⟩:=hqs x.2;exact⟨by simp only[kvT,klT,zipI,h1,h3],by simp only[evT,klT,zipI,h2,h4,w0e];rfl⟩
theorem zyd:∀{fs:List Nat}{l:List Field}{o:Nat},zxl P V.d fs l o=true->fs.all (λc=>y0z (V.d c))=true/\∃qs:List IntKind,zkx P qs l o=true/\∀x:Tup V.T fs,kvT (λc=>kvS (V.d c)) fs x=zipI qs (klT (λc=>klS (V.d c)) fs x)/\(klT (λc=>klS (V.d c)) fs x).length=qs.length
 | [],[],_,_=>⟨rfl,[],rfl,λ_=>⟨rfl,rfl⟩⟩
 |c::cs,f::fs,o,h=>by
  simp only[zxl,w03] at h;obtain⟨⟨⟨⟨h1,h2⟩,h3⟩,h4⟩,h5⟩:=h;obtain⟨k1,q,k2,k3⟩:=zsv h3;obtain⟨k4,qs,k5,k6⟩:=zyd h5;refine⟨by simp only[w1b,k1,k4,w3t],q::qs,?_,λx=>?_⟩
  .unfold zkx;rw[h1,h2,k2,k5];simp only[decide_true,w3d,Bool.and_true];exact h4
  .exact⟨by simp only[kvT,klT,zipI,k3,(k6 x.2).1],by simp only[klT,w0k,(k6 x.2).2]⟩
 | [],_::_,_,h=>by simp[zxl] at h
 |_::_,[],_,h=>by simp[zxl] at h
theorem zzk{n c kt:Nat}{u:Option TypeDesc}(h:keyE P V.d kt (.arr n c) u=true):∃e,u=some (.array n e)/\keyD (V.d c) (P.underlying e)=true/\z3s P e=some (false,1):=by
 cases u with
 |none=>simp[keyE,keyD] at h
 |some u=>
  cases u<;>simp only[keyE,keyD,w0q] at h;rename_i m e;simp only[w03] at h;have e1:=w01 h.1.1;subst e1;refine⟨e,rfl,h.1.2,?_⟩;have h2:=h.2;split at h2
  .assumption
  .cases h2
theorem y4g{fs:List Nat}{α:Type}{mk:Tup V.T fs->α}{un:α->Tup V.T fs}{law:∀t,un (mk t)=t}{kt:Nat}{u:Option TypeDesc}(h:keyE P V.d kt (.st fs mk un law) u=true):∃l,u=some (.struct l)/\P.stoodInHeld kt=false/\zxl P V.d fs l.toList 0=true:=by
 cases u with
 |none=>simp[keyE,keyD] at h
 |some u=>cases u<;>simp only[keyE,keyD,w0q] at h;simp only[w03,w0z] at h;exact⟨_,rfl,h.1,h.2⟩
theorem y8x{c kt:Nat}{u:Option TypeDesc}(h:keyE P V.d kt (V.d c) u=true):V.key c=true:=by
 unfold TE.key;revert h;generalize V.d c=d;revert d;generalize V.T c=α;intro d h;cases d with
 |int q=>rfl
 |arr n c'=>obtain⟨e,_,hk,_⟩:=zzk h;exact(zsv hk).1
 |st fs mk un law=>obtain⟨l,_,_,hk⟩:=y4g h;exact(zyd hk).1
 |bool=>simp[keyE,keyD] at h
 |str=>simp[keyE,keyD] at h
 |sl c'=>simp[keyE,keyD] at h
 |map kc vc=>simp[keyE,keyD] at h
theorem y4h{c:Nat}(h:V.key c=true)(x:V.T c):Ent (V.vl c x) (eqv (V.kv c x))/\Ent (eqv (V.kv c x)) (V.vl c x):=by
 unfold TE.key at h;unfold TE.vl TE.kv;have hev:=V.ev_eq c x;revert x h;generalize V.ev c=e;generalize V.d c=d;revert e d;generalize V.T c=α;intro e d h x hev;cases d with
 |int q=>exact⟨Ent.refl,Ent.refl⟩
 |arr n c'=>
  obtain⟨q,hq⟩:=zxh (V:=V) (c:=c') h;have h2:Px.arr n (V.ev c') x =((List.range n).map λj=>kvS (V.d c') (x j)).map eqv:=by
   unfold Px.arr;generalize List.range n=l
   induction l with
   |nil=>rfl
   |cons j l ih=>rw[w0w,ih,(hq _).2,w0e,w0e,(hq _).1];rfl
  show Ent (Px.agg (e x)) (eqv (.agg ((List.range n).map λj=>kvS (V.d c') (x j)).toArray))/\Ent (eqv (.agg ((List.range n).map λj=>kvS (V.d c') (x j)).toArray)) (Px.agg (e x));rw[hev];show Ent (Px.agg (Px.arr n (V.ev c') x)) _/\Ent _ (Px.agg (Px.arr n (V.ev c') x));rw[h2];exact⟨y2h,y3d λv hv=>by obtain⟨j,_,rfl⟩:=w0a.1 hv;exact⟨_,_,(hq _).1⟩⟩
 |st fs mk un law=>obtain⟨qs,hq⟩:=ztk (V:=V) (fs:=fs) h;show Ent (Px.agg (e x)) (eqv (.agg (kvT (λc=>kvS (V.d c)) fs (un x)).toArray))/\Ent (eqv (.agg (kvT (λc=>kvS (V.d c)) fs (un x)).toArray)) (Px.agg (e x));rw[hev];show Ent (Px.agg (evT V.ev fs (un x))) _/\Ent _ (Px.agg (evT V.ev fs (un x)));rw[(hq _).2,(hq _).1];exact⟨y2h,y3d (ztr _ _)⟩
 |bool=>simp[keyF] at h
 |str=>simp[keyF] at h
 |sl c'=>simp[keyF] at h
 |map kc vc=>simp[keyF] at h
theorem zrp{c kt:Nat}{x:V.T c}{u:Option TypeDesc}(h:keyE P V.d kt (V.d c) u=true):Ent (V.vl c x) (eqv (V.kv c x)):=(y4h (y8x h) x).1
theorem yfl{c:Nat}(h:V.key c=true)(a b:V.T c)(hk:V.kl c a=V.kl c b):V.kv c a=V.kv c b:=by
 unfold TE.key at h;unfold TE.kl at hk;unfold TE.kv;revert a b h;generalize V.d c=d;revert d;generalize V.T c=α;intro d h a b hk;cases d with
 |int q=>simp only[klF,klS,w28,and_true] at hk;rw[hk]
 |arr n c'=>
  obtain⟨q,hq⟩:=zxh (V:=V) (c:=c') h;show Value.agg ((List.range n).map λj=>kvS (V.d c') (a j)).toArray=Value.agg ((List.range n).map λj=>kvS (V.d c') (b j)).toArray;have e1:∀f:Nat->V.T c',((List.range n).map λj=>kvS (V.d c') (f j)) =((List.range n).map λj=>klS (V.d c') (f j)).map (Value.int q):=λf=>by rw[w2e];exact w4n λj _=>(hq _).1
  have hk :((List.range n).map λj=>klS (V.d c') (a j)) =(List.range n).map λj=>klS (V.d c') (b j):=hk
  rw[e1,e1,hk]
 |st fs mk un law=>obtain⟨qs,hq⟩:=ztk (V:=V) (fs:=fs) h;show Value.agg (kvT (λc=>kvS (V.d c)) fs (un a)).toArray=Value.agg (kvT (λc=>kvS (V.d c)) fs (un b)).toArray;have hk:klT (λc=>klS (V.d c)) fs (un a)=klT (λc=>klS (V.d c)) fs (un b):=hk;rw[(hq _).1,(hq _).1,hk]
 |bool=>simp[keyF] at h
 |str=>simp[keyF] at h
 |sl c'=>simp[keyF] at h
 |map kc vc=>simp[keyF] at h
theorem z8q{kt c:Nat}(h:keyE P V.d kt (V.d c) (P.underlying kt)=true):KeyC P kt (V.kl c) (V.kv c):=by
 have e1:V.kv c=λx=>kvF (λc=>kvS (V.d c)) (V.d c) x:=rfl
 have e2:V.kl c=λx=>klF (λc=>klS (V.d c)) (V.d c) x:=rfl
 rw[e1,e2];clear e1 e2;revert h;generalize V.d c=d;revert d;generalize V.T c=α;intro d h;cases d with
 |int q=>simp only[keyE] at h;obtain⟨_,q',hu,_⟩:=zsv h;rw[hu] at h;simp only[keyD,decide_eq_true_eq] at h;subst h;exact y8w hu
 |arr n c'=>
  obtain⟨e',hu,hk,hE⟩:=zzk h;obtain⟨_,q,hq,_⟩:=zsv hk;rw[hq] at hk;show KeyC P kt (λf:Nat->V.T c'=>(List.range n).map λj=>klS (V.d c') (f j)) (λf=>.agg ((List.range n).map λj=>kvS (V.d c') (f j)).toArray);revert hk;generalize V.d c'=d;revert d;generalize V.T c'=β;intro d hk;cases d with
  |int q'=>simp only[keyD,decide_eq_true_eq] at hk;subst hk;exact y8v hu hq hE
  |_=>simp[keyD] at hk
 |st fs mk un law=>
  obtain⟨l,hu,hs,hk⟩:=y4g h;obtain⟨_,qs,hq,hx⟩:=zyd hk;have:=yd8 (e:=λx=>klT (λc=>klS (V.d c)) fs (un x)) hu hs hq (λx=>(hx _).2);have e3 :(λx=>Value.agg (zipI qs (klT (λc=>klS (V.d c)) fs (un x))).toArray)=λx=>kvF (λc=>kvS (V.d c)) (.st fs mk un law) x:=funext λx=>by show _=Value.agg (kvT (λc=>kvS (V.d c)) fs (un x)).toArray;rw[(hx _).1]
  rw[<- e3];exact this
 |bool=>simp[keyE,keyD] at h
 |str=>simp[keyE,keyD] at h
 |sl c'=>simp[keyE,keyD] at h
 |map kc vc=>simp[keyE,keyD] at h
theorem zyj{vc:Nat}{z:Value}(h:V.zok vc z=true):Ent (eqv z) (V.vl vc (V.z vc)):=by
 unfold TE.zok at h;unfold TE.vl;generalize V.ev vc (V.z vc)=l;revert h;generalize V.z vc=y;generalize V.d vc=d;revert y d;generalize V.T vc=α;intro y d h;cases d with
 |int q=>have:=(znm h).1;subst this;exact Ent.refl
 |bool=>have:=(znm h).1;subst this;exact Ent.refl
 |str=>have:=(znm h).1;subst this;exact Ent.refl
 |sl c=>
  simp only[zokD,w03] at h;have hy:y = []:=w3h.1 h.2;subst hy;have hz:z = .slice none 0 0:=by
   have:=h.1;unfold zzj at this;split at this
   .rfl
   .cases this
  subst hz;exact Ent.nil
 |map kc vc=>
  simp only[zokD,w03] at h;have hy:y = []:=w3h.1 h.2;subst hy;have hz:z = .map none:=by
   have:=h.1;unfold yay at this;split at this
   .rfl
   .cases this
  subst hz;exact zlg
 |arr n c=>simp[zokD] at h
 |st fs mk un law=>simp[zokD] at h
theorem y9m[Dr]{dst:Option Tmp}{ty:TypeId}{pos:String}{after:Array Edge}{guard:Option (Nat×Bool)}{s:St}{t E:TypeId}{n:Nat}{x i:Operand}{k:IntKind}{m:Int}{l:List VP}{B:VP}(ht:tarr P t=some (n,E))(hE:z3s P E=some (false,1))(h:Ev s x (agg l))(hi:Ev s i (iv k m))
  (hl:l[m.toNat]? = some B) (h0:0<=m) (h1:m<n):OpQ C ⟨dst,.index t x i,ty,pos,after,guard⟩ s B:=
 .val λa r w hs=>by
  have h2:=hi a r w hs;simp only[iv,eqv] at h2;obtain⟨vs,hx,hh⟩:=h a r w hs;obtain⟨u,hu,hAu,_⟩:=hh.2 _ _ hl;have hp:=zjx (vs:=vs) (off:=m.toNat*1) (u:=u) w hE (by simpa using hu);exact⟨u,by simp only[execOp,Instr.index,hx,h2,w06,asIntOf,w0j,w05,run_underlying (zlp ht),if_pos (And.intro h0 h1),z6q w hE,hp],hAu⟩
theorem zy0[Dr]:∀{cs:List (SV V.T)}{i:Nat}{v:SV V.T},cs.all y01=true->cs[i]? = some v->(denL V P A cs)[i]? = some (v.den V P A):=by
 intro cs
 induction cs with
 |nil=>intro i v _ h;simp at h
 |cons x cs ih=>
  intro i v hp h;simp only[w1b,w03] at hp;have e1:denL V P A (x::cs)=x.den V P A::denL V P A cs:=by cases x<;>first|rfl|simp[y01] at hp
  rw[e1];cases i with
  |zero=>simp at h;subst h;rfl
  |succ i=>simpa using ih hp.2 (by simpa using h)
theorem ycv[Dr]{dst:Option Tmp}{ty:TypeId}{pos:String}{after:Array Edge}{guard:Option (Nat×Bool)}{p:SV V.T}{m q:Int}{j:Nat}{t:TypeId}{x:Operand}(hh:zlz V s p=some (m,q,j))(ht:z3s P t=some (false,1))(hq:m=q)
  (hx:Ev (s.st V P A) x (p.den V P A)):OpQ C ⟨dst,.load t x,ty,pos,after,guard⟩ (s.st V P A) ((SV.own j:SV V.T).den V P A):=by
 unfold zlz at hh;split at hh
 .rename_i i m' z;split at hh
  .rename_i E E2 c l q' j' ho;cases hb:Nat.beq z 1 with
   |false=>rw[hb] at hh;cases hh
   |true=>
    rw[hb] at hh;simp only[cond_true,w00,w0f] at hh;obtain⟨rfl,rfl,rfl⟩:=hh;have hz:=w01 hb;subst hz;subst hq;simp only[SV.den] at hx⊢;cases ha:A[i]? with
    |none=>rw[ha] at hx;exact z6b P hx
    |some p=>
     rw[ha] at hx;refine yb9 ha ho λhp=>?_
     obtain⟨p2,hp2⟩:=w18.1 (hp.2 _ _ rfl);rw[hp2];have hi:=y58 (P:=P) ha ho;simp only[zgc,hp2] at hi;refine y5s ht (ygi (hx.ent' ?_) hi);rintro r w v ⟨g,n,cap,h1,h2,_⟩;exact⟨g,n,cap,h1,by simpa using h2⟩
  .cases hh
 .cases hh
end xo
end Px
end
section
namespace Px
open Go Go.RowKit
section
variable{V:TE}{N:Env V}{R:Type}{r:R}{C:Cx N.P}{A:Asg}{s:SS V.T}{cur:Ch}
theorem yfx{V:TE}{c:Nat}(h:z5u (V.d c)=false)(y:V.T c):One (V.vl c y):=by
 unfold TE.vl;generalize V.ev c y=l0;revert y h;generalize V.d c=d;revert d;generalize V.T c=α;intro d h y;cases d<;>simp[z5u] at h<;>simp only[vlF]
 .exact One.eqv rfl
 .exact One.eqv rfl
 .exact One.eqv rfl
 .exact One.ro
 .exact λr w v h=>by rcases h with⟨rfl,_⟩|⟨b,t,rfl,_⟩<;>rfl
theorem y7w{V:TE}{s:St}{c:Nat}{x:Operand}{y:V.T c}(h:Ev s x (V.vl c y)):Ce s x (V.ev c y):=by
 cases hag:z5u (V.d c) with
 |true=>rw[zmc y hag] at h;exact Ce.agg h
 |false=>rw[zq2 y hag];exact Ce.one h (yfx hag y)
theorem zsc[Dr]{P:Program}{ch:Ch}(hkn:chP s.gb ch){c:Nat}: ∀{ps:List (Nat×Operand)}{n:Nat}{l:List (V.T c)},zx7 V s.sl ch c n ps=some l->y27 (s.st V P A) (V.ev c) n ps l
 | [],n,l,h=>by simp[zx7] at h;subst h;trivial
 |(i,o)::ps,n,l,h=>by
  simp only[zx7] at h;cases hb:Nat.beq i n with
  |false=>rw[hb] at h;cases h
  |true=>
   rw[hb] at h;simp only[cond_true] at h;split at h
   .rename_i y hy;split at h
    .rename_i m hm;simp only[w00] at h;subst h;cases hx:evO s.sl ch o with
     |none=>rw[hx] at hy;cases hy
     |some x=>rw[hx] at hy;exact⟨w01 hb,y7w (Ev.ent' (z0t V P hx hkn) (z4h V P hy)),zsc hkn hm⟩
    .cases h
   .cases h
theorem y8e[Dr](hkn:chP s.gb s.kn){t:TypeId}{x:Operand}{f:Nat}{ty:TypeId}{k:SV V.T->Option R}(h:zm V N s cur (.fieldAddr t x f) ty k=some r):∃v,k v=some r/\QOK V N.P C A s cur (.fieldAddr t x f) ty v:=by
 simp only[zm] at h;split at h
 .rename_i off i o hf hx;refine⟨_,h,λhc dst pos after guard=>?_⟩;have hx':=evO2 (A:=A) (P:=N.P) hkn hc hx;simp only[SV.den] at hx'⊢;cases ha:A[i]? with
  |none=>rw[ha] at hx';exact z6b N.P hx'
  |some q=>rw[ha] at hx';exact y9k hf hx'
 .rename_i off i o m z idx cnt fo hf hx;refine⟨_,h,λhc dst pos after guard=>?_⟩;have hx':=evO2 (A:=A) (P:=N.P) hkn hc hx;simp only[SV.den] at hx'⊢;cases ha:A[i]? with
  |none=>rw[ha] at hx';exact z6b N.P hx'
  |some q=>
   rw[ha] at hx';refine .val λa ro w hs=>?_
   obtain⟨h1,h2⟩:=hx' a ro w hs;exact⟨.pointer (some ⟨q.1,o+idx*z+fo+off,none⟩),by simp[execOp,h2,zew w hf],h1,by rw[w2k]⟩
 .rename_i off cs hf hx;split at h
  .rename_i l hl;refine⟨_,h,λhc dst pos after guard=>?_⟩;have hx':=evO2 (A:=A) (P:=N.P) hkn hc hx;simp only[SV.den] at hx'⊢;exact y9l hf hx' (zcg V N.P cs off l hl).1.symm
  .cases h
 .rename_i off i j z fo hf hx;refine⟨_,h,λhc dst pos after guard=>?_⟩;have hx':=evO2 (A:=A) (P:=N.P) hkn hc hx;simp only[SV.den] at hx'⊢;cases ha:A[i]? with
  |none=>rw[ha] at hx';exact z6b N.P hx'
  |some q=>
   rw[ha] at hx';refine .val λa ro w hs=>?_
   obtain⟨g,n,cap,h1,h2,h3⟩:=hx' a ro w hs;exact⟨.pointer (some ⟨g,j.toNat*z+fo+off,none⟩),by simp[execOp,h2,zew w hf],g,n,cap,h1,by rw[w2k],h3⟩
 .cases h
theorem y4b[Dr](hkn:chP s.gb s.kn){t:TypeId}{x i:Operand}{ty:TypeId}{k:SV V.T->Option R}(h:zm V N s cur (.indexAddr t x i) ty k=some r):∃v,k v=some r/\QOK V N.P C A s cur (.indexAddr t x i) ty v:=by
 simp only[zm] at h;split at h
 .-- what is only read
  rename_i n0 e c l q m ht hx hi;have hi:=zy hi;have hn:=y6v ht;subst hn;cases hb:Nat.beq e (V.sz c) with
  |false=>rw[hb] at h;cases h
  |true=>rw[hb] at h;have he:=w01 hb;subst he;obtain⟨hck,hk⟩:=z4o h;refine⟨_,hk,λhc dst pos after guard=>?_⟩;have hx':=evO2 (A:=A) (P:=N.P) hkn hc hx;have hi':=evO2 (A:=A) (P:=N.P) hkn hc hi;simp only[SV.den] at hx' hi'⊢;rw[z1b];exact y9n ht hx' hi' (hck hc).1 (zh3 (hck hc))
 .-- a slice of the call's own
  rename_i n0 e j q m ht hx hi;have hi:=zy hi;have hn:=y6v ht;subst hn;split at h
  .rename_i E c l ho;cases hb:Nat.beq e (V.sz c) with
   |false=>rw[hb] at h;cases h
   |true=>
    rw[hb] at h;have he:=w01 hb;subst he;obtain⟨hck,hk⟩:=z4o h;refine⟨_,hk,λhc dst pos after guard=>?_⟩;have hx':=evO2 (A:=A) (P:=N.P) hkn hc hx;have hi':=evO2 (A:=A) (P:=N.P) hkn hc hi;simp only[SV.den] at hx' hi'⊢;cases ha:A[j]? with
    |none=>rw[ha] at hx';exact z6b N.P hx'
    |some q=>rw[ha] at hx';exact ycx ht hx' (zn V N.P ha ho) hi' (hck hc).1 (hck hc).2
  .rename_i E E2 c l hh ho;cases hb:Nat.beq e 1 with
   |false=>rw[hb] at h;cases h
   |true=>
    rw[hb] at h;have he:=w01 hb;subst he;obtain⟨hck,hk⟩:=z4o h;refine⟨_,hk,λhc dst pos after guard=>?_⟩;have hx':=evO2 (A:=A) (P:=N.P) hkn hc hx;have hi':=evO2 (A:=A) (P:=N.P) hkn hc hi;simp only[SV.den] at hx' hi'⊢;cases ha:A[j]? with
    |none=>rw[ha] at hx';exact z6b N.P hx'
    |some q=>rw[ha] at hx';have h9:=ycy (C:=C) (dst:=dst) (ty:=ty) (pos:=pos) (after:=after) (guard:=guard) ht hx' (y58 ha ho) hi' (hck hc).1 (hck hc).2;simpa[eltp] using h9
  .rename_i E c l ho;cases hb:Nat.beq e (V.sz c) with
   |false=>rw[hb] at h;cases h
   |true=>
    rw[hb] at h;have he:=w01 hb;subst he;obtain⟨hck,hk⟩:=z4o h;refine⟨_,hk,λhc dst pos after guard=>?_⟩;have hx':=evO2 (A:=A) (P:=N.P) hkn hc hx;have hi':=evO2 (A:=A) (P:=N.P) hkn hc hi;simp only[SV.den] at hx' hi'⊢;cases ha:A[j]? with
    |none=>rw[ha] at hx';exact z6b N.P hx'
    |some q=>rw[ha] at hx';exact y8p ht hx' (zut V N.P ha ho) hi' (hck hc).1 (hck hc).2
  .cases h
 .-- an array within a variable
  rename_i n e j o q m ht hx hi;have hi:=zy hi;split at h
  .rename_i T cs ho;split at h
   .rename_i n' c f post hcd;cases hb :(Nat.blt 0 (V.sz c)&&Nat.beq (e / V.sz c*V.sz c) e&&Nat.beq (n*(e / V.sz c)) n') with
    |false=>rw[hb] at h;cases h
    |true=>
     rw[hb] at h;simp only[w03] at hb;have e1:=w01 hb.1.2;have e2:=w01 hb.2;obtain⟨hck,hk⟩:=z4o h;refine⟨_,hk,λhc dst pos after guard=>?_⟩;have hx':=evO2 (A:=A) (P:=N.P) hkn hc hx;have hi':=evO2 (A:=A) (P:=N.P) hkn hc hi;simp only[SV.den] at hx' hi'⊢;cases ha:A[j]? with
     |none=>rw[ha] at hx';exact z6b N.P hx'
     |some q=>
      rw[ha] at hx';simp only[ybh];refine y48 (F:=True) (off:=o) ht (λa ro w hs=>⟨trivial,hx' a ro w hs⟩) hi' (hck hc).1 (hck hc).2 (λ_=>?_) ?_
      .rw[<- e2];have h3:m.toNat+1<=n:=by have:=(hck hc).1;have:=(hck hc).2;omega
       have:=w13 (e / V.sz c) h3;rw[w16,w46] at this;exact this
      .rw[Nat.mul_assoc,e1];omega
   .cases h
  .cases h
 .-- an array within an array
  rename_i n e j o n' z idx cnt q m ht hx hi;have hi:=zy hi;cases hb :(Nat.blt 0 z&&Nat.beq (e / z*z) e&&Nat.beq (n*(e / z)) cnt) with
  |false=>rw[hb] at h;cases h
  |true=>
   rw[hb] at h;simp only[w03] at hb;have e1:=w01 hb.1.2;have e2:=w01 hb.2;obtain⟨hck,hk⟩:=z4o h;refine⟨_,hk,λhc dst pos after guard=>?_⟩;have hx':=evO2 (A:=A) (P:=N.P) hkn hc hx;have hi':=evO2 (A:=A) (P:=N.P) hkn hc hi;simp only[SV.den] at hx' hi'⊢;cases ha:A[j]? with
   |none=>rw[ha] at hx';exact z6b N.P hx'
   |some q=>
    rw[ha] at hx';simp only[ybh];refine y48 (F:=idx+cnt<=n') (off:=o+idx*z+0) ht hx' hi' (hck hc).1 (hck hc).2 (λhle=>?_) ?_
    .have h3:m.toNat+1<=n:=by have:=(hck hc).1;have:=(hck hc).2;omega
     have:=w13 (e / z) h3;rw[w16,w46,e2] at this;omega
    .rw[w16,Nat.mul_assoc,e1];omega
 .-- an array that is only read
  rename_i n e n' c f post q m ht hx hi;have hi:=zy hi;cases hb :(Nat.beq e (V.sz c)&&Nat.beq n n') with
  |false=>rw[hb] at h;cases h
  |true=>rw[hb] at h;simp only[w03] at hb;have e1:=w01 hb.1;have e2:=w01 hb.2;subst e1;subst e2;obtain⟨hck,hk⟩:=z4o h;refine⟨_,hk,λhc dst pos after guard=>?_⟩;have hx':=evO2 (A:=A) (P:=N.P) hkn hc hx;have hi':=evO2 (A:=A) (P:=N.P) hkn hc hi;simp only[SV.den,denL] at hx' hi'⊢;rw[z1b];refine y5p ht (Ev.ent' hx' λr w v ⟨b,o,hv,hr,hh⟩=>⟨b,o,hv,hr,?_⟩) hi' (V.ev_len c) (hck hc).1 (hck hc).2;have:=hh.take (arr n (V.ev c) f).length;rw[w4d  rfl] at this;simpa using this
 .cases h
theorem y8r[Dr](hkn:chP s.gb s.kn){t:TypeId}{x i:Operand}{ty:TypeId}{k:SV V.T->Option R}(h:zm V N s cur (.index t x i) ty k=some r):∃v,k v=some r/\QOK V N.P C A s cur (.index t x i) ty v:=by
 have arrc:∀{n c:Nat}{f:Nat->V.T c}{q:IntKind}{m:Int}(hx:chP s.gb cur->Ev (s.st V N.P A) x (Px.agg (Px.arr n (V.ev c) f)))(hi:chP s.gb cur->Ev (s.st V N.P A) i (iv q m)),
   (match tarr N.P t with
   |some (n',E)=>match z3s N.P E with
    |some (g,z)=>bif Nat.beq n n'&&Nat.beq z (V.sz c)&&(g==z5u (V.d c)) then ckG s.gb cur ((0:Int)<=m/\m<(n:Int)) (k (V.encV c (f m.toNat))) else none
    |none=>none
   |none=>none)=some r->∃v,k v=some r/\QOK V N.P C A s cur (.index t x i) ty v:=by
  intro n c f q m hx hi h;split at h
  .rename_i n' E ht;split at h
   .rename_i g z hE;cases hb :(Nat.beq n n'&&Nat.beq z (V.sz c)&&(g==z5u (V.d c))) with
    |false=>rw[hb] at h;cases h
    |true=>
     rw[hb] at h;simp only[w03,beq_iff_eq] at hb;have e1:=w01 hb.1.1;have e2:=w01 hb.1.2;have e3:=hb.2;subst e1;subst e2;subst e3;obtain⟨hck,hk⟩:=z4o h;refine⟨_,hk,λhc dst pos after guard=>?_⟩;rw[z30];cases ha:z5u (V.d c) with
     |true=>rw[ha] at hE;rw[zmc _ ha];exact y5r ht hE (hx hc) (hi hc) (V.ev_len c) (hck hc).1 (hck hc).2
     |false=>rw[ha] at hE;have h1:=zq2 (f m.toNat) ha;have h2:=V.ev_len c (f m.toNat);rw[h1] at h2;simp only[w0k,w1u] at h2;rw[<- h2] at hE;exact y5q ht hE (hx hc) (hi hc) (λy=>by rw[V.ev_len];exact h2.symm) h1 (hck hc).1 (hck hc).2
   .cases h
  .cases h
 simp only[zm] at h;split at h
 .rename_i b q m hx hi;have hi:=zy hi;split at h
  .rename_i hu;obtain⟨hck,hk⟩:=z4o h;refine⟨_,hk,λhc dst pos after guard=>?_⟩;exact y9o hu (evO2 hkn hc hx) (evO2 hkn hc hi) rfl (hck hc).1 (hck hc).2
  .cases h
 .rename_i n c f q m hx hi;have hi:=zy hi;exact arrc (λhc=>evO2 hkn hc hx) (λhc=>evO2 hkn hc hi) h
 .rename_i n c f q m hx hi;have hi:=zy hi;exact arrc (λhc=>by have:=evO2 (A:=A) (P:=N.P) hkn hc hx;simpa[SV.den,denL] using this) (λhc=>evO2 hkn hc hi) h
 .rename_i cs q m _ hx hi;have hi:=zy hi;split at h
  .rename_i n' E ht;cases hb :(y6x N.P E&&Nat.beq cs.length n'&&cs.all y01) with
   |false=>rw[hb] at h;cases h
   |true=>
    rw[hb] at h;simp only[w03] at hb;simp only[cond_true] at h;split at h
    .rename_i v hv;obtain⟨hck,hk⟩:=z4o h;refine⟨_,hk,λhc dst pos after guard=>?_⟩;have hE:z3s N.P E=some (false,1):=by
      have:=hb.1.1;unfold y6x at this;split at this
      .assumption
      .cases this
     have hx':=evO2 (A:=A) (P:=N.P) hkn hc hx;simp only[SV.den] at hx';exact y9m ht hE hx' (evO2 hkn hc hi) (zy0 hb.2 hv) (hck hc).1 (hck hc).2
    .cases h
  .cases h
 .cases h
theorem ybu[Dr](hN:z4t V N)(hkn:chP s.gb s.kn){c:Call}{ty:TypeId}{k:SV V.T->Option R}(h:zm V N s cur (.call c) ty k=some r):∃v,k v=some r/\QOK V N.P C A s cur (.call c) ty v:=by
 obtain⟨callee,args,ts⟩:=c;simp only[zm] at h;split at h
 .-- len
  rename_i x hargs;have ha:args = #[x]:=by cases args;simp at hargs;rw[hargs]
  subst ha;split at h
  .rename_i c l hx;cases hb:zm.isSl1 N.P ts with
   |false=>rw[hb] at h;cases h
   |true=>rw[hb] at h;obtain⟨t,rfl,ht⟩:=zh5 hb;exact⟨_,h,λhc dst pos after guard=>yg6 ht (evO2 hkn hc hx)⟩
  .rename_i j hx;split at h
   .rename_i E c l ho;cases hb:zm.isSl1 N.P ts with
    |false=>rw[hb] at h;cases h
    |true=>
     rw[hb] at h;obtain⟨t,rfl,ht⟩:=zh5 hb;refine⟨_,h,λhc dst pos after guard=>?_⟩;have hx':=evO2 (A:=A) (P:=N.P) hkn hc hx;simp only[SV.den] at hx';cases ha:A[j]? with
     |none=>rw[ha] at hx';exact z6b N.P hx'
     |some q=>rw[ha] at hx';exact yg5 j ht hx' (zn V N.P ha ho)
   .rename_i E E2 c l hh ho;cases hb:zm.isSl1 N.P ts with
    |false=>rw[hb] at h;cases h
    |true=>
     rw[hb] at h;obtain⟨t,rfl,ht⟩:=zh5 hb;refine⟨_,h,λhc dst pos after guard=>?_⟩;have hx':=evO2 (A:=A) (P:=N.P) hkn hc hx;simp only[SV.den] at hx';cases ha:A[j]? with
     |none=>rw[ha] at hx';exact z6b N.P hx'
     |some q=>rw[ha] at hx';exact ydb j ht hx' (y58 ha ho)
   .rename_i E c l ho;cases hb:zm.isSl1 N.P ts with
    |false=>rw[hb] at h;cases h
    |true=>
     rw[hb] at h;obtain⟨t,rfl,ht⟩:=zh5 hb;refine⟨_,h,λhc dst pos after guard=>?_⟩;have hx':=evO2 (A:=A) (P:=N.P) hkn hc hx;simp only[SV.den] at hx';cases ha:A[j]? with
     |none=>rw[ha] at hx';exact z6b N.P hx'
     |some q=>rw[ha] at hx';exact yg4 j ht hx' (zut V N.P ha ho)
   .rename_i kc vc m ho;cases hb:zm.isMp1 N.P ts with
    |false=>rw[hb] at h;cases h
    |true=>
     rw[hb] at h;obtain⟨t,kt,et,rfl,ht⟩:=zzi hb;refine⟨_,h,λhc dst pos after guard=>?_⟩;have hx':=evO2 (A:=A) (P:=N.P) hkn hc hx;simp only[SV.den] at hx';cases ha:A[j]? with
     |none=>rw[ha] at hx';exact z6b N.P hx'
     |some q=>rw[ha] at hx';exact zp1 ha ho λhq _=>yfv j ht (zvi ha ho) (by rw[<- hq];exact hx')
   .cases h
  .rename_i kc vc m hx;cases hb:zm.isMp1 N.P ts with
   |false=>rw[hb] at h;cases h
   |true=>rw[hb] at h;obtain⟨t,kt,et,rfl,ht⟩:=zzi hb;refine⟨_,h,λhc dst pos after guard=>?_⟩;have hx':=evO2 (A:=A) (P:=N.P) hkn hc hx;simp only[SV.den,y1e] at hx';exact ydi ht hx'
  .rename_i hx;cases hb:zm.isSl1 N.P ts with
   |false=>rw[hb] at h;cases h
   |true=>rw[hb] at h;obtain⟨t,rfl,ht⟩:=zh5 hb;exact⟨_,h,λhc dst pos after guard=>y9p ht (evO2 hkn hc hx)⟩
  .rename_i b hx;cases hb:zm.isStr1 N.P ts with
   |false=>rw[hb] at h;cases h
   |true=>rw[hb] at h;obtain⟨t,rfl,ht⟩:=y4f hb;exact⟨_,h,λhc dst pos after guard=>yg7 ht (evO2 hkn hc hx)⟩
  .cases h
 .-- cap
  rename_i x hargs;have ha:args = #[x]:=by cases args;simp at hargs;rw[hargs]
  subst ha;split at h
  .rename_i hx;cases hb:zm.isSl1 N.P ts with
   |false=>rw[hb] at h;cases h
   |true=>rw[hb] at h;obtain⟨t,rfl,ht⟩:=zh5 hb;exact⟨_,h,λhc dst pos after guard=>y9j ht (evO2 hkn hc hx)⟩
  .cases h
 .-- min
  rename_i x xs hargs;have ha:args =⟨x::xs⟩:=by cases args;simp at hargs;rw[hargs]
  subst ha;split at h
  .rename_i i m hx;split at h
   .rename_i ns hns;exact⟨_,h,λhc dst pos after guard=>yhk (evO2 hkn hc (zy hx)) (zxi hc hkn hns)⟩
   .cases h
  .cases h
 .-- max
  rename_i x xs hargs;have ha:args =⟨x::xs⟩:=by cases args;simp at hargs;rw[hargs]
  subst ha;split at h
  .rename_i i m hx;split at h
   .rename_i ns hns;exact⟨_,h,λhc dst pos after guard=>yhj (evO2 hkn hc (zy hx)) (zxi hc hkn hns)⟩
   .cases h
  .cases h
 .-- a function with a contract
  rename_i f;split at h
  .rename_i sp hsp;exact y1o hN hkn hsp h
  .cases h
 .-- a function value
  rename_i t as' hargs;split at h
  .rename_i c f hf;split at h
   .rename_i x y hxy;have ha:args = #[x,y]:=by cases args;simp at hxy;rw[hxy]
    subst ha;split at h
    .rename_i a b ha hb;obtain⟨z,hz,hk⟩:=zrz h;refine⟨_,hk,λhc dst pos after guard=>?_⟩;cases hx:evO s.sl (cur++s.kn) x with
     |none=>rw[hx] at ha;cases ha
     |some vx=>
      cases hy:evO s.sl (cur++s.kn) y with
      |none=>rw[hy] at hb;cases hb
      |some vy=>rw[hx] at ha;rw[hy] at hb;exact ydp (evO2 hkn hc hf) (Ev.ent' (evO2 hkn hc hx) (z4h V N.P ha)) (Ev.ent' (evO2 hkn hc hy) (z4h V N.P hb)) (hz hc)
    .cases h
   .cases h
  .rename_i f caps hf;split at h
   .rename_i sp hsp;exact y63 hN hkn hsp hf h
   .cases h
  .cases h
 .cases h
theorem zzm{kc vc:Nat}{m:List (V.T kc×V.T vc)}{key:V.T kc}{ok:Bool}{z:Value}{k:SV V.T->Option R}(h:y90 V kc vc m key ok z k=some r):V.zok vc z=true/\
  k (bif ok then .tup [V.encV vc ((cget (V.kl kc) m key).getD (V.z vc)),.bool (cget (V.kl kc) m key).isSome] else V.encV vc ((cget (V.kl kc) m key).getD (V.z vc)))=some r:=by
 unfold y90 at h;cases hb:V.zok vc z with
 |false=>rw[hb] at h;cases h
 |true=>rw[hb] at h;exact⟨rfl,h⟩
theorem ybm{vc:Nat}{z:Value}(hs:zbd (V.d vc)=true)(h:V.zok vc z=true):z=V.kv vc (V.z vc):=by have h1:=zyj (V:=V) h (λ_=>True) default z rfl;rw[zyg V hs] at h1;exact h1
theorem y4m[Dr](hkn:chP s.gb s.kn){t:TypeId}{x i:Operand}{ok:Bool}{ty:TypeId}{k:SV V.T->Option R}(h:zm V N s cur (.lookup t x i ok) ty k=some r):∃v,k v=some r/\QOK V N.P C A s cur (.lookup t x i ok) ty v:=by
 simp only[zm] at h;split at h
 .rename_i j y hx hi;split at h
  .rename_i kc vc E m hh ho;split at h
   .rename_i et key hm hd;obtain⟨kt,ht,hk⟩:=zky hm;split at h
    .rename_i z hz;have hget:chP s.gb cur->Ev (s.st V N.P A) x ((SV.own j:SV V.T).den V N.P A):=λhc=>evO2 (A:=A) (P:=N.P) hkn hc hx
     have hkey:chP s.gb cur->Ev (s.st V N.P A) i (eqv (V.kv kc key)):=λhc=>((evO2 (A:=A) (P:=N.P) hkn hc hi).ent' (z4h V N.P hd)).ent' (zrp hk)
     cases hh with
     |some p=>
      obtain⟨q,jj⟩:=p;simp only at h;cases ok with
      |true=>cases h
      |false=>
       simp only[cond_false] at h;obtain⟨hq,hk2⟩:=z4o h;refine⟨_,hk2,λhc dst pos after guard=>?_⟩;have hx':=hget hc;have hi':=hkey hc;simp only[SV.den] at hx'⊢;cases ha:A[j]? with
       |none=>rw[ha] at hx';exact z6b N.P hx'
       |some p=>
        rw[ha] at hx';refine zp1 ha ho λhp hs=>?_
        obtain⟨p2,hp2⟩:=w18.1 (hs _ _ rfl);rw[hp2];have hm2:=zvi (P:=N.P) ha ho;simp only[zbc,hp2] at hm2;exact y1i j (z8q hk) ht hm2 (hq hc) (by rw[<- hp];exact hx') hi'
     |none=>
      simp only at h;cases hsc:zbd (V.d vc) with
      |true=>
       rw[hsc] at h;simp only[cond_true] at h;obtain⟨hzo,h2⟩:=zzm h;have hzk:=ybm hsc hzo;subst hzk;refine⟨_,h2,λhc dst pos after guard=>?_⟩;have hx':=hget hc;have hi':=hkey hc;simp only[SV.den] at hx';cases ha:A[j]? with
       |none=>rw[ha] at hx';exact z6b N.P hx'
       |some p=>
        rw[ha] at hx';refine zp1 ha ho λhp _=>?_
        have hm2:=zvi (P:=N.P) ha ho;rw[zm1 hsc] at hm2;cases ok with
        |false=>simp only[cond_false,z30,zyg V hsc];exact zvm j (z8q hk) ht hz hm2 (by rw[<- hp];exact hx') hi'
        |true=>simp only[cond_true,SV.den,denV,z30,zyg V hsc];exact y1g j (z8q hk) ht hz hm2 (by rw[<- hp];exact hx') hi'
      |false=>
       rw[hsc] at h;simp only[cond_false] at h;cases ok with
       |true=>cases h
       |false=>
        simp only[cond_false] at h;obtain⟨hq,hk2⟩:=z4o h;refine⟨_,hk2,λhc dst pos after guard=>?_⟩;have hx':=hget hc;have hi':=hkey hc;simp only[SV.den] at hx'⊢;cases ha:A[j]? with
        |none=>rw[ha] at hx';exact z6b N.P hx'
        |some p=>
         rw[ha] at hx';refine zp1 ha ho λhp _=>?_
         exact y1j j (z8q hk) ht hz (zvi ha ho) (by simpa using hq hc) (by rw[<- hp];exact hx') hi'
    .cases h
   .cases h
  .cases h
 .rename_i kc vc m y hx hi;split at h
  .rename_i et key hm hd;obtain⟨kt,ht,hk⟩:=zky hm;split at h
   .rename_i z hz;obtain⟨hzo,h⟩:=zzm h;refine⟨_,h,λhc dst pos after guard=>?_⟩;have hx':=evO2 (A:=A) (P:=N.P) hkn hc hx;have hi':=((evO2 (A:=A) (P:=N.P) hkn hc hi).ent' (z4h V N.P hd)).ent' (zrp hk);simp only[SV.den,y1e] at hx';cases ok with
    |false=>simp only[cond_false,z30];exact y9c (E:=λy=>V.vl vc y) (z8q hk) ht hz (zyj hzo) hx' hi'
    |true=>simp only[cond_true,SV.den,denV,z30];exact y5d (E:=λy=>V.vl vc y) (z8q hk) ht hz (zyj hzo) hx' hi'
   .cases h
  .cases h
 .cases h
theorem y8c[Dr](hkn:chP s.gb s.kn){x:Operand}{ty:TypeId}{k:SV V.T->Option R}(h:zm V N s cur (.entry x) ty k=some r):∃v,k v=some r/\QOK V N.P C A s cur (.entry x) ty v:=by
 simp only[zm] at h;split at h
 .rename_i j hx;split at h
  .rename_i kc vc rem e ho;cases hk:V.key kc with
   |false=>rw[hk] at h;cases h
   |true=>
    rw[hk] at h;refine⟨_,h,λhc dst pos after guard=>?_⟩;have hx':=evO2 (A:=A) (P:=N.P) hkn hc hx;simp only[SV.den] at hx';cases ha:A[j]? with
    |none=>rw[ha] at hx';exact z6b N.P hx'
    |some q=>
     rw[ha] at hx';have hob:=zn V N.P (A:=A) (ps:=A) ha ho;have hgo:∀{o:Oper}{K:VP->List HP->Prop},(q.2 = .pointer (some ⟨q.1,0,none⟩)->OpT C o (s.st V N.P A) K)->OpT C o (s.st V N.P A) K:=λh a w ro S Q hd hn hw hs=>h (hw.obj j _ hob).1 a w ro S Q hd hn hw hs
     refine hgo λhq=>?_
     simp only[SV.den,denV,z30];exact y9a (eK:=V.kv kc) (E:=λy=>V.vl vc y) j (y4h hk e.1).2 ⟨_,hob,λ_ _ _ h=>h.2⟩ (show Ev (s.st V N.P A) x (eqv (.pointer (some ⟨q.1,0,none⟩))) by rw[<- hq];exact hx')
  .cases h
 .cases h
theorem zlt[Dr](hkn:chP s.gb s.kn)(hc:chP s.gb cur){d:Nat}{o:Option Operand}{m:Int}(h:bdX V s.sl (cur++s.kn) (d:Int) o=some m)(h0:0<=m):BdE (s.st V N.P A) o m.toNat d:=by
 cases o with
 |none=>have:=w0c h;show m.toNat=d;omega
 |some o=>
  simp only[bdX] at h;split at h
  .rename_i k q hq;have h:=w0c h;subst h;have:=evO2 (A:=A) (P:=N.P) hkn hc (zy hq);simp only[SV.den] at this;refine⟨k,?_⟩;rw[Int.toNat_of_nonneg h0];exact this
  .cases h
theorem yaf[Dr](hkn:chP s.gb s.kn){t:TypeId}{x:Operand}{lo hi mx:Option Operand}{ty:TypeId}{k:SV V.T->Option R}(h:zm V N s cur (.slice t x lo hi mx) ty k=some r):∃v,k v=some r/\QOK V N.P C A s cur (.slice t x lo hi mx) ty v:=by
 cases mx with
 |some o=>cases h
 |none=>
 simp only[zm] at h;split at h
 .rename_i n0 e c l ht hx;have hn:=y6v ht;subst hn;split at h
  .rename_i m n hm hn;cases hb:Nat.beq e (V.sz c) with
   |false=>rw[hb] at h;cases h
   |true=>rw[hb] at h;have he:=w01 hb;subst he;obtain⟨hck,hk⟩:=z4o h;refine⟨_,hk,λhc dst pos after guard=>?_⟩;obtain⟨q1,q2,q3⟩:=hck hc;have hx':=evO2 (A:=A) (P:=N.P) hkn hc hx;simp only[SV.den] at hx'⊢;exact y9t ht hx' (zlt hkn hc (d:=0) hm q1) (zlt hkn hc hn (by omega)) (by omega) (by omega)
  .cases h
 .rename_i n0 e j ht hx;have hn:=y6v ht;subst hn;split at h
  .rename_i E c l ho;split at h
   .rename_i m n hm hn;cases hb:Nat.beq e (V.sz c) with
    |false=>rw[hb] at h;cases h
    |true=>
     rw[hb] at h;have he:=w01 hb;subst he;obtain⟨hck,hk⟩:=z4o h;refine⟨_,hk,λhc dst pos after guard=>?_⟩;obtain⟨q1,q2,q3⟩:=hck hc;have hx':=evO2 (A:=A) (P:=N.P) hkn hc hx;simp only[SV.den] at hx'⊢;cases ha:A[j]? with
     |none=>rw[ha] at hx';exact z6b N.P hx'
     |some p=>rw[ha] at hx';exact y9s j ht hx' (zn V N.P ha ho) (zlt hkn hc (d:=0) hm q1) (zlt hkn hc hn (by omega)) (by omega) (by omega)
   .cases h
  .cases h
 .rename_i n0 e ht hx;have hn:=y6v ht;subst hn;split at h
  .rename_i m n hm hn;obtain⟨hck,hk⟩:=z4o h;refine⟨_,hk,λhc dst pos after guard=>?_⟩;obtain⟨rfl,rfl⟩:=hck hc;have hx':=evO2 (A:=A) (P:=N.P) hkn hc hx;simp only[SV.den] at hx'⊢;exact y9r ht hx' (zlt hkn hc (d:=0) hm (w57 0)) (zlt hkn hc (d:=0) hn (w57 0))
  .cases h
 .rename_i n' e n c f l ht hx;split at h
  .cases hb :(Nat.beq n n'&&Nat.beq e (V.sz c)) with
   |false=>rw[hb] at h;cases h
   |true=>rw[hb] at h;simp only[w03] at hb;have e1:=w01 hb.1;have e2:=w01 hb.2;subst e1;subst e2;refine⟨_,h,λhc dst pos after guard=>?_⟩;have hx':=evO2 (A:=A) (P:=N.P) hkn hc hx;simp only[SV.den] at hx'⊢;exact y5u ht (V.ev_len c) hx'
  .cases h
 .rename_i b ht hx;split at h
  .rename_i hu;split at h
   .rename_i m n hm hn;obtain⟨hck,hk⟩:=z4o h;refine⟨_,hk,λhc dst pos after guard=>?_⟩;obtain⟨q1,q2,q3⟩:=hck hc;have hx':=evO2 (A:=A) (P:=N.P) hkn hc hx;simp only[SV.den] at hx'⊢;exact y9u hu hx' (zlt hkn hc (d:=0) hm q1) (zlt hkn hc hn (by omega)) (by omega) (by omega)
   .cases h
  .cases h
 .cases h
theorem yfw{T:Nat->Type}(g :(c:Nat)->T c->List VP)(M :(kc vc:Nat)->List (T kc×T vc)->VP)(sz:Nat->Nat){α:Type}(d:Ds T α){l:List Int}{l':List α}(h:ofI d l=some l'):Px.ro (evD g M sz d) (szD sz d) l'=Px.ro (λn:Int=>[iv .u8 n]) 1 l:=by
 cases d with
 |int k=>cases k<;>simp only[ofI,w00,reduceCtorEq] at h;subst h;rfl
 |_=>simp[ofI] at h
theorem ydk{V:TE}{c:Nat}{l:List Int}{l':List (V.T c)}(h:ofI (V.d c) l=some l'):Px.ro (V.ev c) (V.sz c) l'=Px.ro (λn:Int=>[iv .u8 n]) 1 l:=by rw[show V.ev c=evD V.ev (V.mv V.ev) V.sz (V.d c) from funext λx=>V.ev_eq c x,V.sz_eq];exact yfw _ _ _ _ h
theorem zeu[Dr](hN:z4t V N)(hkn:chP s.gb s.kn)(hgb:GbOK s.toFm)(h1:OneA V A s.ob){o:Op}{ty:TypeId}{k:SV V.T->Option R}(h:zm V N s cur o ty k=some r):∃v,k v=some r/\QOK V N.P C A s cur o ty v:=by
 cases o with
 |move x=>
  simp only[zm] at h;split at h
  .rename_i v hv;exact⟨v,h,λhc dst pos after guard=>yg8 (evO2 hkn hc hv)⟩
  .cases h
 |assign x=>
  simp only[zm] at h;split at h
  .rename_i v hv;exact⟨v,h,λhc dst pos after guard=>y9g (evO2 hkn hc hv)⟩
  .cases h
 |pick c x y=>exact y9z hkn hgb h
 |binOp op t x y t'=>
  simp only[zm] at h;split at h
  .rename_i a b ha hb;exact ybs h (λhc=>evO2 hkn hc ha) (λhc=>evO2 hkn hc hb)
  .cases h
 |unOp op t x=>
  cases op with
  |not=>
   simp only[zm] at h;split at h
   .rename_i b hb;exact⟨_,h,λhc dst pos after guard=>yhp (evO2 hkn hc (zar hb))⟩
   .cases h
  |neg=>
   simp only[zm] at h;split at h
   .rename_i i m hb;exact⟨_,h,λhc dst pos after guard=>yhn (evO2 hkn hc (zy hb))⟩
   .cases h
  |xor=>
   simp only[zm] at h;split at h
   .rename_i i m hb;exact⟨_,h,λhc dst pos after guard=>ygc (evO2 hkn hc (zy hb))⟩
   .cases h
  |plus=>simp[zm] at h
 |convert src d x=>
  simp only[zm] at h;split at h
  .rename_i i q m hd hx;cases hb :(N.P.underlying src).isSome with
   |false=>rw[hb] at h;cases h
   |true=>rw[hb] at h;exact⟨_,h,λhc dst pos after guard=>yg1 hb hd (evO2 hkn hc (zy hx))⟩
  .rename_i E q hd;split at h
   .rename_i b he hs hx;split at h
    .rename_i l hl;refine⟨_,h,λhc dst pos after guard=>?_⟩;have hx':=evO2 (A:=A) (P:=N.P) hkn hc hx;simp only[SV.den] at hx'⊢;rw[ydk hl];exact ydn hs hd he hx'
    .cases h
   .cases h
  .cases h
 |load t x=>
  simp only[zm] at h;split at h
  .rename_i g n p ht hx;split at h
   .rename_i m q j hh;cases hb :(!g&&Nat.beq n 1) with
    |false=>rw[hb] at h;cases h
    |true=>rw[hb] at h;obtain⟨hck,hk⟩:=z4o h;refine⟨_,hk,λhc dst pos after guard=>?_⟩;simp only[w03,w0z] at hb;obtain⟨rfl,hn⟩:=hb;have hn:=w01 hn;subst hn;exact ycv hh ht (hck hc) (evO2 hkn hc hx)
   .split at h
    .rename_i v hv;exact⟨v,h,λhc dst pos after guard=>yh9 V N.P ht hv (evO2 hkn hc hx)⟩
    .cases h
  .cases h
 |fieldAddr t x f=>exact y8e hkn h
 |indexAddr t x i=>exact y4b hkn h
 |slice t x lo hi mx=>exact yaf hkn h
 |index t x i=>exact y8r hkn h
 |lookup t x i ok=>exact y4m hkn h
 |entry x=>exact y8c hkn h
 |extract x i=>
  simp only[zm] at h;split at h
  .rename_i l hx;split at h
   .rename_i v hv;refine⟨v,h,λhc dst pos after guard=>zvn (xs:=denV V N.P A l) (evO2 hkn hc hx) ?_⟩;have key:∀(l:List (SV V.T))(i:Nat),l[i]? = some v->(denV V N.P A l)[i]? = some (v.den V N.P A):=by
     intro l
     induction l with
     |nil=>intro i h;simp at h
     |cons y l ih=>
      intro i h;cases i with
      |zero=>simp at h;subst h;rfl
      |succ i=>simp at h;simpa[denV] using ih i h
    exact key l i hv
   .cases h
  .cases h
 |buildSlice t n parts=>
  simp only[zm] at h;split at h
  .rename_i E z by' ht;split at h
   .rename_i l hel;cases hb :(Nat.beq z (V.sz (V.code E))&&Nat.beq l.length n&&Nat.ble (n*z) 16777216) with
    |false=>rw[hb] at h;cases h
    |true=>rw[hb] at h;simp only[w03] at hb;have e1:=w01 hb.1.1;have e2:=w01 hb.1.2;have e3:=w0p hb.2;subst e1;simp only[cond_true] at h;refine⟨_,h,λhc dst pos after guard=>?_⟩;simp only[SV.den];exact y5m l ht (V.ev_len _) e2 e3 (zsc (z4d hc hkn) hel)
   .cases h
  .cases h
 |build t parts=>
  simp only[zm] at h;split at h
  .rename_i zs hz;cases hb :(zf9 V (V.zero (V.code t)) zs&&zma N.P t) with
   |false=>
    rw[hb] at h;simp only[cond_false] at h;cases hb2 :(zs.all (·.oneCell')&&zma N.P t) with
    |false=>rw[hb2] at h;cases h
    |true=>
     rw[hb2] at h;simp only[w03] at hb2;simp only[cond_true] at h;split at h
     .rename_i cs hl;refine⟨_,h,λhc dst pos after guard=>?_⟩;have e1:=zy3 V N.P (A:=A) zs;obtain⟨qs,hp,hlay⟩:=zxm V N.P h1 (z4d hc hkn) hl;have hlen:=ze5 V N.P (A:=A) (zs.map zt9);rw[e1,w0x] at hlen;simp only[SV.den];rw[e1] at hlay;exact y5l zs qs hz hb2.1 hb2.2 (hlen ▸ hp) hlay
     .cases h
   |true=>
    rw[hb] at h;simp only[w03] at hb;simp only[cond_true] at h;split at h
    .rename_i cs hl;refine⟨_,h,λhc dst pos after guard=>?_⟩;obtain⟨e1,e2⟩:=zgt V N.P (A:=A) hb.1;obtain⟨qs,hp,hlay⟩:=zxm V N.P h1 (z4d hc hkn) hl;have hlen:=ze5 V N.P (A:=A) (fixZ V (V.zero (V.code t)));rw[e1,w0x] at hlen;simp only[SV.den];rw[e1] at hlay;exact y5l zs qs hz e2 hb.2 (hlen ▸ hp) hlay
    .cases h
  .cases h
 |nilCheck x=>
  simp only[zm] at h;split at h
  .rename_i i o hx;refine⟨_,h,λhc dst pos after guard=>?_⟩;have hx':=evO2 (A:=A) (P:=N.P) hkn hc hx;simp only[SV.den] at hx'⊢;cases ha:A[i]? with
   |none=>rw[ha] at hx';exact z6b N.P hx'
   |some q=>rw[ha] at hx';exact y1l hx'
  .cases h
 |makeFunc fn first caps=>
  cases fn with
  |func f=>
   simp only[zm] at h;cases hb:first.isEmpty with
   |false=>rw[hb] at h;cases h
   |true=>
    rw[hb] at h;simp only[cond_true] at h;split at h
    .rename_i l hl;exact⟨_,h,λhc dst pos after guard=>y5t hb (y2p hc hkn hl)⟩
    .cases h
  |_=>simp[zm] at h
 |call c=>exact ybu hN hkn h
 |_=>simp[zm] at h
end
end Px
end
section
namespace Px
open Go Go.RowKit
def AExt(A B:Asg):Prop:=∀(i:Nat)(p:Nat×Value),A[i]? = some p->B[i]? = some p
theorem AExt.refl(A:Asg):AExt A A:=λ_ _ h=>h
theorem AExt.app(A B:Asg):AExt A (A++B):=λi p h=>by rw[w0n (w02.1 h).1];exact h
section
variable(V:TE)(P:Program)
theorem zwg(l:List VP):F2 Ent l l:=F2.refl (λ_=>Ent.refl) l
theorem zqu{R:VP->VP->Prop}: ∀{a b:List VP},F2 R a b->a.length=b.length/\∀(i:Nat)(B:VP),b[i]? = some B->∃A,a[i]? = some A/\R A B
 | [],[],_=>⟨rfl,λi B h=>by simp at h⟩
 |x::a,y::b,h=>by
  obtain⟨h1,h2⟩:=zqu h.2;refine⟨by simp[h1],λi B hB=>?_⟩;cases i with
  |zero=>simp at hB;subst hB;exact⟨x,rfl,h.1⟩
  |succ i=>simpa using h2 i B (by simpa using hB)
 | [],_::_,h=>h.elim
 |_::_,[],h=>h.elim
theorem y6y{a b:List VP}(h:F2 Ent a b):Ent (tupv a) (tupv b):=by rintro r w v ⟨vs,e,hl,hh⟩;obtain⟨h1,h2⟩:=zqu h;refine⟨vs,e,by rw[hl,h1],λi B hB=>?_⟩;obtain⟨A,hA,hAB⟩:=h2 i B hB;exact hAB _ _ _ (hh i A hA)
theorem y3l{f:Nat}{a b:List VP}(h:F2 Ent a b):Ent (fnc f a) (fnc f b):=by rintro r w v ⟨vs,e,hl,hh⟩;obtain⟨h1,h2⟩:=zqu h;refine⟨vs,e,by rw[hl,h1],λi B hB=>?_⟩;obtain⟨A,hA,hAB⟩:=h2 i B hB;exact hAB _ _ _ (hh i A hA)
theorem y69{a b:List VP}(h:F2 Ent a b):Ent (rop a) (rop b):=by rintro r w v ⟨bl,o,e,hr,hh⟩;obtain⟨h1,h2⟩:=zqu h;refine⟨bl,o,e,hr,λj B hB=>?_⟩;obtain⟨A,hA,hAB⟩:=h2 j B hB;obtain⟨u,h3,h4,h5⟩:=hh j A hA;exact⟨u,h3,hAB _ _ _ h4,h5⟩
theorem zkf{r:Nat->Prop}{w:World}{a b:List VP}{vs:List Value}(h:F2 Ent a b)(k:zl r w a vs):zl r w b vs:=by obtain⟨h1,h2⟩:=zqu h;refine⟨by rw[<- h1];exact k.1,λj B hB=>?_⟩;obtain⟨A,hA,hAB⟩:=h2 j B hB;obtain⟨u,h3,h4,h5⟩:=k.2 j A hA;exact⟨u,h3,hAB _ _ _ h4,h5⟩
mutual
theorem z1y[Dr]{A B:Asg}(h:AExt A B):∀(x:SV V.T),Ent (x.den V P A) (x.den V P B)
 | .int k n=>by simp only[SV.den];exact Ent.refl
 | .bool b=>by simp only[SV.den];exact Ent.refl
 | .str s=>by simp only[SV.den];exact Ent.refl
 | .val v=>by simp only[SV.den];exact Ent.refl
 | .arr n c f=>by simp only[SV.den];exact Ent.refl
 | .agg cs=>by simp only[SV.den];exact Ent.agg (z0i h cs).ents
 | .tup xs=>by simp only[SV.den];exact y6y (zis h xs)
 | .ro c l=>by simp only[SV.den];exact Ent.refl
 | .rop cs=>by simp only[SV.den];exact y69 (z0i h cs)
 | .ptr i off=>by
  simp only[SV.den];cases ha:A[i]? with
  |none=>exact λ_ _ _ hv=>hv.elim
  |some p=>rw[h i p ha];exact Ent.refl
 | .own i=>by
  simp only[SV.den];cases ha:A[i]? with
  |none=>exact λ_ _ _ hv=>hv.elim
  |some p=>rw[h i p ha];exact Ent.refl
 | .elt i k z fo=>by
  simp only[SV.den];cases ha:A[i]? with
  |none=>exact λ_ _ _ hv=>hv.elim
  |some p=>rw[h i p ha];exact Ent.refl
 | .pta i off n z idx cnt fo=>by
  simp only[SV.den];cases ha:A[i]? with
  |none=>exact λ_ _ _ hv=>hv.elim
  |some p=>rw[h i p ha];exact Ent.refl
 | .prt i lo hi z=>by
  simp only[SV.den];cases ha:A[i]? with
  |none=>exact λ_ _ _ hv=>hv.elim
  |some p=>rw[h i p ha];exact Ent.refl
 | .und=>by simp only[SV.den];exact Ent.refl
 | .func f caps=>by simp only[SV.den];exact y3l (zis h caps)
 | .rom kc vc m=>by simp only[SV.den];exact Ent.refl
 | .cmp c f=>by simp only[SV.den];exact Ent.refl
 | .top=>by simp only[SV.den];exact Ent.refl
theorem z0i[Dr]{A B:Asg}(h:AExt A B):∀(l:List (SV V.T)),F2 Ent (denL V P A l) (denL V P B l)
 | []=>trivial
 | .arr n c f::l=>by simp only[denL];exact(zwg _).append (z0i h l)
 | .int k n::l=>by simp only[denL];exact⟨z1y h (.int k n),z0i h l⟩
 | .bool b::l=>by simp only[denL];exact⟨z1y h (.bool b),z0i h l⟩
 | .str b::l=>by simp only[denL];exact⟨z1y h (.str b),z0i h l⟩
 | .val b::l=>by simp only[denL];exact⟨z1y h (.val b),z0i h l⟩
 | .agg b::l=>by simp only[denL];exact⟨z1y h (.agg b),z0i h l⟩
 | .tup b::l=>by simp only[denL];exact⟨z1y h (.tup b),z0i h l⟩
 | .ro c b::l=>by simp only[denL];exact⟨z1y h (.ro c b),z0i h l⟩
 | .rop b::l=>by simp only[denL];exact⟨z1y h (.rop b),z0i h l⟩
 | .ptr i o::l=>by simp only[denL];exact⟨z1y h (.ptr i o),z0i h l⟩
 | .own i::l=>by simp only[denL];exact⟨z1y h (.own i),z0i h l⟩
 | .elt i k z fo::l=>by simp only[denL];exact⟨z1y h (.elt i k z fo),z0i h l⟩
 | .pta i o n z x c fo::l=>by simp only[denL];exact⟨z1y h (.pta i o n z x c fo),z0i h l⟩
 | .prt i lo hi z::l=>by simp only[denL];exact⟨z1y h (.prt i lo hi z),z0i h l⟩
 | .und::l=>by simp only[denL];exact⟨z1y h .und,z0i h l⟩
 | .func f caps::l=>by simp only[denL];exact⟨z1y h (.func f caps),z0i h l⟩
 | .rom a b m::l=>by simp only[denL];exact⟨z1y h (.rom a b m),z0i h l⟩
 | .cmp c f::l=>by simp only[denL];exact⟨z1y h (.cmp c f),z0i h l⟩
 | .top::l=>by simp only[denL];exact⟨z1y h .top,z0i h l⟩
theorem zis[Dr]{A B:Asg}(h:AExt A B):∀(l:List (SV V.T)),F2 Ent (denV V P A l) (denV V P B l)
 | []=>trivial
 |x::l=>by simp only[denV];exact⟨z1y h x,zis h l⟩
end
theorem yc7{c:Prop}{x y:VP}(h:Ent x y):Ent (cnd c x) (cnd c y):=λr w v hv=>⟨λhc=>h _ _ _ (hv.1 hc),hv.2⟩
theorem znv[Dr]{A B:Asg}(h:AExt A B){gb:List (Nat×Bool)}(e:Ch×SV V.T):Ent (denE V P A gb e) (denE V P B gb e):=by
 unfold denE;obtain⟨ch,x⟩:=e;cases ch with
 |nil=>exact z1y V P h x
 |cons a l=>exact yc7 (z1y V P h x)
theorem zey[Dr]{A B:Asg}(h:AExt A B){gb:List (Nat×Bool)}{sl:Sls V.T}{a:Act}{ro:Nat->Prop}{w:World}(hs:ze (slD V P A gb sl) a ro w):ze (slD V P B gb sl) a ro w:=by
 intro t X ht;simp only[slD] at ht;cases hl:lk sl t with
 |none=>rw[hl] at ht;cases ht
 |some e=>rw[hl] at ht;simp only[w0u,w00] at ht;subst ht;exact znv V P h e _ _ _ (hs t _ (by simp[slD,hl]))
def ObW[Dr](objs O:List HP):Prop:=∀w0 base r S w,WInv w0 base objs r S w->∃S',WInv w0 base O r S' w
theorem ObW.refl[Dr]{O:List HP}: ObW O O:=λ_ _ _ S _ h=>⟨S,h⟩
theorem ObW.trans[Dr]{a b c:List HP}(h:ObW a b)(k:ObW b c):ObW a c:=λw0 base r S w hw=>let ⟨S',h'⟩:=h w0 base r S w hw;k w0 base r S' w h'
theorem ObW.le[Dr]{a b:List HP}(h:z5s a b):ObW a b:=λ_ _ _ _ _ hw=>⟨_,hw.le h⟩
theorem zi4:∀(l:List HP),z5s l l
 | []=>trivial
 |_::l=>⟨EntH.refl,zi4 l⟩
theorem zdu{H H2:HP}(h:EntH H H2):∀(l:List HP)(i:Nat),z5s (l.set i H) (l.set i H2)
 | [],_=>trivial
 |_::l,0=>⟨h,zi4 l⟩
 |_::l,i+1=>⟨EntH.refl,zdu h l i⟩
theorem zi3:∀{l m:List HP},z5s l m->∀(i:Nat)(H:HP),z5s (l.set i H) (m.set i H)
 |l,[],_,i,H=>by simp[z5s]
 |_::l,_::m,h,0,H=>⟨EntH.refl,h.2⟩
 |_::l,_::m,h,i+1,H=>⟨h.1,zi3 h.2 i H⟩
 | [],_::_,h,_,_=>h.elim
theorem y0a:∀{l:List HP}{i:Nat}{H:HP},l[i]? = some H->l.set i H=l
 |_::_,0,_,h=>by simp at h;subst h;rfl
 |_::l,i+1,_,h=>by simp only[w3l];rw[y0a (by simpa using h)]
 | [],_,_,h=>by simp at h
theorem ObW.set'[Dr]{objs:List HP}{i:Nat}{H H2:HP}(ho:objs[i]? = some H)(h:EntH H H2):ObW objs (objs.set i H2):=by have h1:=zdu h objs i;rw[y0a ho] at h1;exact ObW.le h1
theorem OpT.weak[Dr]{P:Program}{C:Cx P}{o:Oper}{s s':St}{K:VP->List HP->Prop}(hs:∀a ro w,ze s.slots a ro w->ze s'.slots a ro w)(ho:ObW s.objs s'.objs)(h:OpT C o s' K):OpT C o s K:=by intro a w ro S Q hd hn hw hsl;obtain⟨S',hw'⟩:=ho _ _ _ _ _ hw;exact h a w ro S' Q hd hn hw' (hs a ro w hsl)
theorem ObW.mv[Dr]{objs:List HP}{i:Nat}{H:HP}(hi:objs[i]? = some H):ObW objs (objs.set i emp++[H]):=by
 intro w0 base r S w h;have hlt:i<objs.length:=(w02.1 hi).1;refine⟨λk b=>(k=objs.length/\S i b)\/(k<objs.length/\k≠i/\S k b),h.below,h.size,?_,?_,?_,h.old⟩
 .intro k K hk;by_cases hk1:k<objs.length
  .rw[w0n (by simpa using hk1)] at hk;by_cases e:k=i
   .subst e;rw[w1i hk1] at hk;simp only[w00] at hk;subst hk;trivial
   .rw[w22 (λh=>e h.symm)] at hk;have :(λb=>(k=objs.length/\S i b)\/(k<objs.length/\k≠i/\S k b))=S k:=by
     funext b;have:¬k=objs.length:=by omega
     simp[this,hk1,e]
    rw[this];exact h.obj k K hk
  .rw[w11 (by simpa using hk1)] at hk;have e:k=objs.length:=by have:=(w02.1 hk).1;simp at this;omega
   subst e;simp at hk;subst hk;have :(λb=>(objs.length=objs.length/\S i b)\/(objs.length<objs.length/\objs.length≠i/\S objs.length b))=S i:=by funext b;simp
   rw[this];exact h.obj i _ hi
 .rintro k b (⟨rfl,hb⟩|⟨hk,_,hb⟩)
  .obtain⟨_,h2,h3,h4⟩:=h.own i b hb;exact⟨by simp,h2,h3,h4⟩
  .obtain⟨_,h2,h3,h4⟩:=h.own k b hb;exact⟨by simp;omega,h2,h3,h4⟩
 .rintro k l b (⟨rfl,hb⟩|⟨hk,hk',hb⟩) (⟨rfl,hc⟩|⟨hl,hl',hc⟩)
  .rfl
  .exact absurd (h.apart l i b hc hb) hl'
  .exact absurd (h.apart k i b hb hc) hk'
  .exact h.apart k l b hb hc
theorem ycw[Dr]{A B:Asg}(h:AExt A B)(p:Nat×Value)(o:SO V.T):EntH (o.den V P A p) (o.den V P B p):=by
 cases o with
 |box t cs=>exact λS r w ⟨hS,cur,hc,hh⟩=>⟨hS,cur,hc,zkf (z0i V P h cs) hh⟩
 |row E c l=>exact EntH.refl
 |x o=>
  cases o with
  |map kc vc E m hh=>
   rintro S r w ⟨hp,hn⟩;have e:zbc A hh=zbc B hh:=by
    cases hh with
    |none=>rfl
    |some kj=>obtain⟨q,hq⟩:=w18.1 (hp.2 _ _ rfl);simp only[zbc,hq,h _ _ hq]
   refine⟨⟨hp.1,λk j e2=>?_⟩,by rw[<- e];exact hn⟩;obtain⟨q,hq⟩:=w18.1 (hp.2 k j e2);rw[h _ _ hq];rfl
  |it kc vc rem cur=>exact EntH.refl
  |fix E c l=>exact EntH.refl
  |nst E E2 c l hh=>
   rintro S r w ⟨hp,hn⟩;have e:zgc A hh=zgc B hh:=by
    cases hh with
    |none=>rfl
    |some kj=>obtain⟨q,hq⟩:=w18.1 (hp.2 _ _ rfl);simp only[zgc,hq,h _ _ hq]
   refine⟨⟨hp.1,λk j e2=>?_⟩,by rw[<- e];exact hn⟩;obtain⟨q,hq⟩:=w18.1 (hp.2 k j e2);rw[h _ _ hq];rfl
 |emp=>exact EntH.refl
theorem znh[Dr]{A B:Asg}(h:AExt A B):∀(ps:Asg)(os:List (SO V.T)),z5s (obD V P A ps os) (obD V P B ps os)
 | [],os=>trivial
 |p::ps,[]=>trivial
 |p::ps,o::os=>⟨ycw V P h p o,znh h ps os⟩
theorem zc8[Dr]{A:Asg}: ∀(ps:Asg)(os:List (SO V.T)),ps.length=os.length->(obD V P A ps os).length=os.length
 | [],[],_=>rfl
 |p::ps,o::os,h=>by simp only[obD,w0k];rw[zc8 ps os (by simpa using h)]
 | [],_::_,h=>by simp at h
 |_::_,[],h=>by simp at h
theorem zt6[Dr]{A:Asg}: ∀(ps:Asg)(os:List (SO V.T))(qs:Asg)(us:List (SO V.T)),ps.length=os.length->obD V P A (ps++qs) (os++us)=obD V P A ps os++obD V P A qs us
 | [],[],_,_,_=>rfl
 |p::ps,o::os,qs,us,h=>by simp only[w2a,obD];rw[zt6 ps os qs us (by simpa using h)]
 | [],_::_,_,_,h=>by simp at h
 |_::_,[],_,_,h=>by simp at h
theorem z35[Dr]{A:Asg}: ∀(ps:Asg)(os:List (SO V.T))(i:Nat)(p:Nat×Value)(o:SO V.T),ps[i]? = some p->obD V P A ps (os.set i o) =(obD V P A ps os).set i (o.den V P A p)
 | [],os,i,p,o,h=>by simp at h
 |q::ps,[],i,p,o,h=>by cases i<;>simp[obD]
 |q::ps,u::os,0,p,o,h=>by simp at h;subst h;rfl
 |q::ps,u::os,i+1,p,o,h=>by simp only[w3l,obD];rw[z35 ps os i p o (by simpa using h)]
structure GA where
 act:Act
 lp:Option (Nat×Loop×Nat×Nat)
def GA.lpI(g:GA):Option (Nat×Nat):=match g.lp with
 |some (_,rec,q)=>match rec.state with
  | .ready=>some q
  |_=>none
 |none=>none
def GA.tm(g:GA):Act:=match g.lp with
 |none=>g.act
 |some (L,_)=>{ g.act with tmps:=g.act.tmps.push (.func (.yield L) #[] #[]) }
def LpOK(P:Program)(x:Nat×Loop×Nat×Nat)(a:Act):Prop:=x.2.1.tmps=a.tmps/\x.2.1.pending=none/\∃g,rfAt P x.2.2.1 x.2.2.2=some (g,x.2.1.params,x.2.1.assign,x.2.1.body)
def mkD(D:Nat):Deferred:={ target:=.collected D,args:=#[] }
def mks(a:Act)(gs:List GA):List Deferred:=a.defers++gs.flatMap (·.act.defers)
theorem zzr{a a':Act}{gs:List GA}(h:a'.defers=a.defers):mks a gs=mks a' gs:=by unfold mks;rw[h]
def lps(gs:List GA):List (Nat×Loop×Nat×Nat):=gs.filterMap (·.lp)
structure Mk(r0 ro:Nat->Prop)(w:World)(l:List Deferred)(ps:List (Nat×Loop×Nat×Nat)):Prop where
 df:∃Ds:List Nat,l=Ds.map mkD/\Ds.Nodup/\∀D∈Ds,ro D/\¬r0 D/\w.heap[D]? = some (.deferred (some []))
 lp :(ps.map (·.1)).Nodup/\∀p∈ps,ro p.1/\¬r0 p.1/\w.heap[p.1]? = some (.loop p.2.1)
structure EvM(B:Nat)(r0:Nat->Prop)(wI:World)(l:List Deferred)(ps:List (Nat×Loop×Nat×Nat))(ro:Nat->Prop)(w:World):Prop where
 ev:Evo B r0 wI ro w
 bk:Mk r0 ro w l ps
theorem EvM.trans{B:Nat}{r0 ro ro':Nat->Prop}{wI w w':World}{l:List Deferred}{ps:List (Nat×Loop×Nat×Nat)}(h:EvM B r0 wI l ps ro w)(k:Evo B ro w ro' w'):EvM B r0 wI l ps ro' w':=by obtain⟨Ds,h1,h2,h3⟩:=h.bk.df;exact⟨h.ev.trans k,⟨Ds,h1,h2,λD hD=>let ⟨a,b,c⟩:=h3 D hD;⟨k.1 D a,b,(k.2.1 D a).trans c⟩⟩,h.bk.lp.1,λp hp=>let ⟨a,b,c⟩:=h.bk.lp.2 p hp;⟨k.1 _ a,b,(k.2.1 _ a).trans c⟩⟩
theorem EvM.up{B:Nat}{r0 ro ro':Nat->Prop}{wI w:World}{l:List Deferred}{ps:List (Nat×Loop×Nat×Nat)}(h:EvM B r0 wI l ps ro w)(e:Evo B r0 wI ro' w)(hrr:∀b,ro b->ro' b):EvM B r0 wI l ps ro' w:=by obtain⟨Ds,h1,h2,h3⟩:=h.bk.df;exact⟨e,⟨Ds,h1,h2,λD hD=>let ⟨a,b,c⟩:=h3 D hD;⟨hrr D a,b,c⟩⟩,h.bk.lp.1,λp hp=>let ⟨a,b,c⟩:=h.bk.lp.2 p hp;⟨hrr _ a,b,c⟩⟩
def Stk[Dr](A:Asg)(ro:Nat->Prop)(w:World):List (Fm V.T)->List GA->Prop
 | [],[]=>True
 |f::fs,a::as=>(ze (slD V P A f.gb f.sl) a.tm ro w/\chP f.gb f.kn/\GbOK f/\(∀x,a.lp=some x->LpOK P x a.act)/\a.tm.tmps.size=f.n)/\Stk A ro w fs as
 |_,_=>False
variable{V P}
theorem Stk.ext[Dr]{A B:Asg}(hAB:AExt A B){base:Nat}{ro ro':Nat->Prop}{w w':World}(he:Evo base ro w ro' w'):∀{fs:List (Fm V.T)}{as:List GA},Stk V P A ro w fs as->Stk V P B ro' w' fs as
 | [],[],_=>trivial
 |f::fs,a::as,h=>⟨⟨zey V P hAB (h.1.1.evo he),h.1.2⟩,Stk.ext hAB he h.2⟩
 | [],_::_,h=>h.elim
 |_::_,[],h=>h.elim
variable(V)
def SatS[Dr](C:Cx P)(acts:List GA)(s:SS V.T)(a:Act)(w:World):Prop:=
 True/\a.tmps.size=s.n/\chP s.gb s.kn/\GbOK s.toFm/\∃A ro S,A.length=s.ob.length/\WInv C.w0 C.base (obD V P A A s.ob) ro S w/\EvM C.base C.r0 C.wI (mks a acts) (lps acts) ro w/\
  ze (slD V P A s.gb s.sl) a ro w/\Stk V P A ro w s.stk acts
end
end Px
end
section
namespace Px
open Go Go.RowKit
section
variable{V:TE}{N:Env V}{R:Type}{r:R}{C:Cx N.P}{A:Asg}{s:SS V.T}
def LOK[Dr](V:TE)(P:Program){R:Type}(r:R)(A:Asg)(s:SS V.T)(k:SV V.T->SS V.T->Option R)(x:VP)(objs:List HP):Prop:=∃(B:Asg)(ob':List (SO V.T))(v:SV V.T),k v { s with ob:=ob' } = some r/\(A++B).length=ob'.length/\Ent x (v.den V P (A++B))/\ObW objs (obD V P (A++B) (A++B) ob')
theorem zaq(A:Asg)(b:Nat×Value)(n:Nat)(h:A.length=n):(A++[b])[n]? = some b:=by subst h;simp
theorem z5s.app:∀{a b c d:List HP},a.length=b.length->z5s a b->z5s c d->z5s (a++c) (b++d)
 | [],[],_,_,_,_,h=>h
 |x::a,y::b,c,d,hl,h,k=>⟨h.1,z5s.app (by simpa using hl) h.2 k⟩
 | [],_::_,_,_,hl,_,_=>by simp at hl
 |_::_,[],_,_,hl,_,_=>by simp at hl
theorem z3j[Dr]{P:Program}{A B:Asg}{ob:List (SO V.T)}(hl:A.length=ob.length){H:List HP}{us:List (SO V.T)}(hH:z5s H (obD V P (A++B) B us)):ObW (obD V P A A ob++H) (obD V P (A++B) (A++B) (ob++us)):=by rw[zt6 V P A ob B us hl];refine ObW.le (z5s.app ?_ (znh V P (AExt.app A B) A ob) hH);rw[zc8 V P A ob hl,zc8 V P A ob hl]
theorem ce2[Dr]{P:Program}{A:Asg}(hkn:chP s.gb s.kn)(h1:OneA V A s.ob){o:Operand}{x:SV V.T}(h:evO s.sl s.kn o=some x)(hs:storable V s.ob x=true):Ce (s.st V P A) o (denL V P A (cellsOf x)):=yez V P h1 hs (z0t V P h hkn)
theorem yey[Dr](hl:A.length=s.ob.length)(hkn:chP s.gb s.kn)(h1:OneA V A s.ob){t ty:TypeId}{x:Operand}{k:SV V.T->SS V.T->Option R}(h:z3i V N s (.box t x) ty k=some r)(dst pos after guard):
  OpT C ⟨dst,.box t x,ty,pos,after,guard⟩ (s.st V N.P A) (LOK V N.P r A s k):=by
 simp only[z3i] at h;split at h
 .rename_i v hv;cases hs:storable V s.ob v with
  |false=>rw[hs] at h;cases h
  |true=>
   rw[hs] at h;simp only[cond_true] at h;refine yhc (ce2 hkn h1 hv hs) λb=>⟨[(b,undef)],_,_,h,by simp[hl],?_,?_⟩
   .simp only[SV.den,zaq A _ _ hl];exact Ent.refl
   .refine z3j hl (us:=[.box t (cellsOf v)]) ⟨?_,trivial⟩;exact λS r w ⟨hS,cur,hc,hh⟩=>⟨hS,cur,hc,zkf (z0i V N.P (AExt.app A _) _) hh⟩
 .cases h
theorem y7f[Dr](hl:A.length=s.ob.length){t ty:TypeId}{k:SV V.T->SS V.T->Option R}(h:z3i V N s (.alloc t) ty k=some r)(dst pos after guard):
  OpT C ⟨dst,.alloc t,ty,pos,after,guard⟩ (s.st V N.P A) (LOK V N.P r A s k):=by
 simp only[z3i] at h;split at h
 .rename_i zs hz;cases hs:zf9 V (V.zero (V.code t)) zs with
  |false=>
   rw[hs] at h;simp only[cond_false] at h;cases h2:zs.all (·.oneCell') with
   |false=>rw[h2] at h;cases h
   |true=>
    rw[h2] at h;simp only[cond_true] at h;refine y5k zs hz h2 λb=>⟨[(b,undef)],_,_,h,by simp[hl],?_,?_⟩
    .simp only[SV.den,zaq A _ _ hl];exact Ent.refl
    .refine z3j hl (us:=[.box t (zs.map zt9)]) ⟨?_,trivial⟩;simp only[SO.den];rw[zy3 V N.P zs];exact EntH.refl
  |true=>
   rw[hs] at h;simp only[cond_true] at h;obtain⟨_,e2⟩:=zgt V N.P (A:=A) hs;refine y5k zs hz e2 λb=>⟨[(b,undef)],_,_,h,by simp[hl],?_,?_⟩
   .simp only[SV.den,zaq A _ _ hl];exact Ent.refl
   .refine z3j hl (us:=[.box t (fixZ V (V.zero (V.code t)))]) ⟨?_,trivial⟩;simp only[SO.den];rw[(zgt V N.P (A:=A++[(b,undef)]) hs).1];exact EntH.refl
 .cases h
theorem zzy[Dr]{P:Program}{C:Cx P}{s:St}{pos:String}{after:Array Edge}{guard:Option (Nat×Bool)}{ty:TypeId}{K:VP->List HP->Prop}(i:Nat){t T:TypeId}{g:Bool}{n b off:Nat}{x y:Operand}{cells cs out:List VP}(ht:z3s P t=some (g,n))(hx:Ev s x (eqv (.pointer (some ⟨b,off,none⟩))))(hy:Ce s y cs)(ho:s.objs[i]? = some (box b T cells))
  (hl:cs.length=n) (hb:off+n<=cells.length) (hout:cells.take off++cs++cells.drop (off+n)=out)
  (k:K topv (s.objs.set i (box b T out))):OpT C ⟨none,.store t x y,ty,pos,after,guard⟩ s K:=ydv i ht hx hy ho hl hb hout k
theorem zc7[Dr]{P:Program}{s:St}{x:Operand}{C:Cx P}{o:Oper}{K:VP->List HP->Prop}(h:Ev s x nov):OpT C o s K:=λa w r S Q hd hn hw hs=>(h a r w hs).elim
theorem zgp{α:Type}(l:List α)(i:Int)(x:α):(zt l i x).length=l.length:=by simp[zt]
theorem OpT.pure[Dr]{P:Program}{C:Cx P}{o:Oper}{s:St}{K:VP->List HP->Prop}{x:Operand}{F:Prop}{u:Value}(hx:Ev s x ⟨λ_ _ v=>F/\v=u,λ_ _ h=>h⟩)(h:F->Ev s x (eqv u)->OpT C o s K):OpT C o s K:=λa w ro S Q hd hn hw hs=>h (hx a ro w hs).1 (λa ro w hs=>(hx a ro w hs).2) a w ro S Q hd hn hw hs
theorem zxy{E cs:List VP}{o sz:Nat}(L M:List VP)(fo n:Nat)(h:L.drop o=E++M)(hE:E.length=sz)(hf:fo+n<=sz)(hc:cs.length=n):
  L.take (o+fo)++cs++L.drop (o+fo+n)=L.take o++(E.take fo++cs++E.drop (fo+n))++L.drop (o+sz):=by
 have hM:L.drop (o+sz)=M:=by rw[<- w3e,h,List.drop_left' hE]
 have h1:L.take (o+fo)=L.take o++E.take fo:=by rw[List.take_add,h,w21 (by omega)]
 have h2:L.drop (o+fo+n)=E.drop (fo+n)++M:=by rw[w2k,<- w3e,h,w2b (by omega)]
 rw[h1,h2,hM];simp only[w0t]
theorem y7h{V:TE}{pre post:List VP}{m c idx off:Nat}{f:Nat->V.T c}(hp:pre.length=off)(hlt:idx+1<=m):
  (pre++Px.arr m (V.ev c) f++post).drop (off+idx*V.sz c)=V.ev c (f idx)++(pre++Px.arr m (V.ev c) f++post).drop (off+idx*V.sz c+V.sz c):=by
 have h1:=zqw (N:=m) (k:=idx) (f:=f) (V.ev_len c) hlt;have h3:=zfk (N:=m) (f:=f) (V.ev_len c);have h4 :(idx+1)*V.sz c<=m*V.sz c:=w13 _ hlt;rw[w16] at h4;have:=w14 (V.sz c) ((pre++Px.arr m (V.ev c) f++post).drop (off+idx*V.sz c));rw[<- this,w3e];congr 1;rw[<- h1,w0t,w51,List.drop_eq_nil_of_le (as:=pre) (by omega),w2u,hp,w3j,w2b (by omega),w21 (by rw[w3p];omega)]
theorem yah[Dr](hl:A.length=s.ob.length)(hkn:chP s.gb s.kn)(h1:OneA V A s.ob){t ty:TypeId}{a x:Operand}{k:SV V.T->SS V.T->Option R}(h:z3i V N s (.store t a x) ty k=some r)(pos after guard):
  OpT C ⟨none,.store t a x,ty,pos,after,guard⟩ (s.st V N.P A) (LOK V N.P r A s k):=by
 simp only[z3i] at h;split at h
 .rename_i g n p v ht hp hv;have hp':=z0t V N.P (A:=A) hp hkn;have hv':=z0t V N.P (A:=A) hv hkn
  -- how the objects go on
  have fin:∀(i:Nat)(q:Nat×Value)(o':SO V.T)(H:HP),A[i]? = some q->i<s.ob.length->EntH H (o'.den V N.P A q)->k .top (updO V s i o')=some r->LOK V N.P r A s k topv ((s.st V N.P A).objs.set i H):=by
   intro i q o' H ha hi hH hk;refine⟨[],s.ob.set i o',.top,hk,by simp[hl],Ent.refl,?_⟩;rw[w0b,z35 V N.P A s.ob i q o' ha];refine ObW.le ?_;have key:∀(l:List HP)(i:Nat),z5s (l.set i H) (l.set i (o'.den V N.P A q)):=by
    intro l
    induction l with
    |nil=>intro i;trivial
    |cons y l ih=>
     intro i;cases i with
     |zero=>exact⟨hH,by induction l with|nil=>trivial|cons z l ih2=>exact⟨EntH.refl,ih2 (λi=>(ih (i+1)).2)⟩⟩
     |succ i=>exact⟨EntH.refl,ih i⟩
   exact key _ i
  cases p with
  |ptr i off=>
   simp only[stoX] at h;split at h
   .rename_i T cs ho;cases hs :(storable V s.ob v&&Nat.beq n (clen V (cellsOf v))) with
    |false=>rw[hs] at h;cases h
    |true=>
     rw[hs] at h;simp only[w03] at hs;have en:=w01 hs.2;simp only[cond_true] at h;split at h
     .rename_i cs' hcs;obtain⟨e,hle⟩:=zpv V N.P (A:=A) hcs;simp only[SV.den] at hp';cases ha:A[i]? with
      |none=>rw[ha] at hp';exact zc7 hp'
      |some q=>rw[ha] at hp';refine zzy i ht hp' (ce2 hkn h1 hv hs.1) (zn V N.P ha ho) (by rw[ze5];exact en.symm) hle rfl ?_;exact fin i q (.box T cs') _ ha (w02.1 ho).1 (by simp only[SO.den,e];exact EntH.refl) h
     .cases h
   .cases h
  |pta i off m z idx cnt fo=>
   simp only[stoX] at h;split at h
   .rename_i T cs y ho hy;split at h
    .rename_i pre m' c f post hpre hcd;cases hb :(Nat.beq m m'&&Nat.beq z (V.sz c)&&Nat.beq cnt 1&&Nat.beq n (V.sz (V.code t))) with
     |false=>rw[hb] at h;cases h
     |true=>
      rw[hb] at h;simp only[w03] at hb;have e1:=w01 hb.1.1.1;have e2:=w01 hb.1.1.2;have e3:=w01 hb.1.2;have e4:=w01 hb.2;subst e1;subst e2;subst e3;simp only[cond_true] at h;split at h
      .rename_i cs' hcs;split at h
       .rename_i y' hy';obtain⟨e,hle⟩:=zpv V N.P (A:=A) hcs;have e5:=zwh (zfw (P:=N.P) (A:=A) (R:=Eq) zrj zrk (λ_=>rfl) (λ_ _ _ h=>zri h) hy');rw[e,z1b,z1b] at e5;rw[z1b,V.ev_len] at hle;obtain⟨p1,_⟩:=zin V N.P (A:=A) cs off pre hpre;obtain⟨p2,p3⟩:=zcg V N.P (A:=A) cs off _ hcd;have hsplit:denL V N.P A cs=denL V N.P A pre++Px.arr m (V.ev c) f++denL V N.P A post:=by have:=w14 off (denL V N.P A cs);rw[<- p1,<- p2] at this;simpa only[denL,w0t] using this.symm
        have hpl :(denL V N.P A pre).length=off:=by rw[p1,w1f];omega
        simp only[SV.den] at hp';cases ha:A[i]? with
        |none=>rw[ha] at hp';exact zc7 hp'
        |some q=>
         rw[ha] at hp';have hob:=zn V N.P (A:=A) (ps:=A) ha ho;simp only[SO.den] at hob;have hce:Ce (s.st V N.P A) x (V.ev (V.code t) y):=y7w (Ev.ent' hv' (z4h V N.P hy));refine OpT.pure hp' λhlt hp2=>?_
         rw[hsplit] at hob;refine zzy (out:=denL V N.P A pre++Px.arr m (V.ev c) (upd f idx y')++denL V N.P A post) i ht hp2 hce hob (by rw[V.ev_len];exact e4.symm) ?_ ?_ ?_
         .have h3:=zfk (N:=m) (f:=f) (V.ev_len c);have h4 :(idx+1)*V.sz c<=m*V.sz c:=w13 _ hlt;rw[w16] at h4;simp only[w0d,h3,hpl];omega
         .rw[<- zqx (y:=y') (off:=off+idx*V.sz c) (n:=V.sz c) (V.ev_len c) (by rw[hpl]) hlt rfl rfl,<- e5];exact zxy _ _ fo n (y7h hpl hlt) (V.ev_len c _) (by omega) (by rw[V.ev_len];exact e4.symm)
         .refine fin i q (.box T (pre++.arr m c (upd f idx y')::post)) _ ha (w02.1 ho).1 ?_ h;simp only[SO.den,z1r,denL,w0t];exact EntH.refl
       .cases h
      .cases h
    .cases h
   .cases h
  |elt i j z fo=>
   simp only[stoX] at h;split at h
   .rename_i E E2 c l hh ho;split at h
    .rename_i qq;cases hb :(Nat.beq z 1&&Nat.beq fo 0&&Nat.beq n 1&&oneS V s.ob (.own qq)) with
     |false=>rw[hb] at h;cases h
     |true=>
      rw[hb] at h;simp only[cond_true] at h;simp only[w03] at hb;have e1:=w01 hb.1.1.1;have e2:=w01 hb.1.1.2;have e3:=w01 hb.1.2;have hone:=(y5j V N.P h1 hb.2).1;subst e1;subst e2;subst e3;simp only[SV.den] at hp' hv' hone;cases ha:A[i]? with
      |none=>rw[ha] at hp';exact zc7 hp'
      |some q=>
       cases hq:A[qq]? with
       |none=>rw[hq] at hv';exact zc7 hv'
       |some p=>
        rw[ha] at hp';rw[hq] at hv' hone;refine yb9 ha ho λhprop=>?_
        have main:k .top (updO V s i (.x (.nst E E2 c l (some (j,qq)))))=some r->(∀p,zgc A hh=some p->p.1=j.toNat)->
          OpT C ⟨none,.store t a x,ty,pos,after,guard⟩ (s.st V N.P A) (LOK V N.P r A s k):=by
         intro hk hhole;refine OpT.weak (s':=⟨(s.st V N.P A).slots,(s.st V N.P A).objs.set i (nst E (V.inn E2 c) l (zgc A hh) q.2)⟩) (λ_ _ _ h=>h) (ObW.set' (zn V N.P ha ho) λS r w h=>h.2) ?_;have hil:i<(s.st V N.P A).objs.length:=(w02.1 (zn V N.P (A:=A) (ps:=A) ha ho)).1;have hget :((s.st V N.P A).objs.set i (nst E (V.inn E2 c) l (zgc A hh) q.2))[i]? = some (nst E (V.inn E2 c) l (zgc A hh) q.2):=by rw[w1i hil]
         intro aa w ro S Q hd hn hw hsl;obtain⟨g',n',cap,h3,h4,h5,h6⟩:=hp' aa ro w hsl;have hlen:n'=l.length:=by
          obtain⟨vs,S0,Sk,hvl,h7,_⟩:=hw.obj i _ hget;rcases h7 with⟨hx,_⟩|⟨g2,cap',cur,hv3,_⟩
          .rw[h3] at hx;cases hx
          .rw[h3] at hv3;simp only[Value.slice.injEq] at hv3;rw[<- hvl];exact hv3.2.1
         subst hlen;refine y6r (s:=⟨(s.st V N.P A).slots,(s.st V N.P A).objs.set i (nst E (V.inn E2 c) l (zgc A hh) q.2)⟩) (v:=p.2) (l:=l) i ht (k:=j.toNat) (Ev.ent' hp' ?_) (Ce.one hv' hone) hget hhole (by omega) ?_ aa w ro S Q hd hn hw hsl
         .rintro r w v ⟨g,n,cap,h1,h2,_⟩;exact⟨g,n,cap,h1,by simpa using h2⟩
         .rw[w31];refine fin i q (.x (.nst E E2 c l (some (j,qq)))) _ ha (w02.1 ho).1 ?_ hk;refine λS r w h=>⟨⟨hprop.1,λk2 j2 e2=>?_⟩,?_⟩
          .simp only[w00,w0f] at e2;rw[<- e2.2,hq];rfl
          .simp only[zgc,hq];exact h
        cases hh with
        |none=>exact main h (λp hp=>by cases hp)
        |some jj=>obtain⟨rfl,hk⟩:=zcv h;exact main hk (λp hp=>by simp only[zgc,w00] at hp;rw[<- hp])
    .cases h
   .rename_i E c l ho;split at h
    rotate_left
    .cases h
    rename_i y hy;cases hb :(Nat.beq z (V.sz c)&&Nat.beq n (V.sz (V.code t))) with
    |false=>rw[hb] at h;cases h
    |true=>
     rw[hb] at h;simp only[w03] at hb;have e1:=w01 hb.1;have e4:=w01 hb.2;subst e1;simp only[cond_true] at h;split at h
     .rename_i cs' hcs;split at h
      .rename_i y' hy';obtain⟨e,hle⟩:=zpv V N.P (A:=A) hcs;have e5:=zwh (zfw (P:=N.P) (A:=A) (R:=Eq) zrj zrk (λ_=>rfl) (λ_ _ _ h=>zri h) hy');rw[e,z1b,z1b] at e5;rw[z1b,V.ev_len] at hle;simp only[SV.den] at hp';cases ha:A[i]? with
       |none=>rw[ha] at hp';exact zc7 hp'
       |some q=>
        rw[ha] at hp';have hob:=zn V N.P (A:=A) (ps:=A) ha ho;have hce:Ce (s.st V N.P A) x (V.ev (V.code t) y):=y7w (Ev.ent' hv' (z4h V N.P hy));intro aa w ro S Q hd hn hw hsl;obtain⟨g',n',cap,h3,_,h5,h6⟩:=hp' aa ro w hsl;have hlen:n'=l.length:=by
         rcases hw.obj i _ hob with⟨hx,_⟩|⟨g2,cap',cur,hv3,_⟩
         .rw[h3] at hx;cases hx
         .rw[h3] at hv3;simp only[Value.slice.injEq] at hv3;exact hv3.2.1
        subst hlen;refine zzz (k:=j.toNat) (fo:=fo) (z:=gtz (V.z c) l j) (z':=y') i (V.ev_len c) ht (Ev.ent' hp' zsd) hce hob (by rw[V.ev_len];exact e4.symm) rfl (zh3 ⟨h5,h6⟩) hle (by rw[<- e4] at *;exact e5.symm) ?_ aa w ro S Q hd hn hw hsl;exact fin i q (.row E c (zt l j y')) _ ha (w02.1 ho).1 EntH.refl h
      .cases h
     .cases h
   .rename_i E c l ho;split at h
    rotate_left
    .cases h
    rename_i y hy;cases hb :(Nat.beq z (V.sz c)&&Nat.beq n (V.sz (V.code t))) with
    |false=>rw[hb] at h;cases h
    |true=>
     rw[hb] at h;simp only[w03] at hb;have e1:=w01 hb.1;have e4:=w01 hb.2;subst e1;simp only[cond_true] at h;split at h
     .rename_i cs' hcs;split at h
      .rename_i y' hy';obtain⟨e,hle⟩:=zpv V N.P (A:=A) hcs;have e5:=zwh (zfw (P:=N.P) (A:=A) (R:=Eq) zrj zrk (λ_=>rfl) (λ_ _ _ h=>zri h) hy');rw[e,z1b,z1b] at e5;rw[z1b,V.ev_len] at hle;simp only[SV.den] at hp';cases ha:A[i]? with
       |none=>rw[ha] at hp';exact zc7 hp'
       |some q=>
        rw[ha] at hp';refine yfb ha ho λhprop=>?_
        refine OpT.weak (s':=⟨(s.st V N.P A).slots,(s.st V N.P A).objs.set i (row E (V.ev c) (V.sz c) l q.2)⟩) (λ_ _ _ h=>h) (ObW.set' (zn V N.P ha ho) λS r w h=>h.2) ?_;have hil:i<(s.st V N.P A).objs.length:=(w02.1 (zn V N.P (A:=A) (ps:=A) ha ho)).1;have hob :((s.st V N.P A).objs.set i (row E (V.ev c) (V.sz c) l q.2))[i]? = some (row E (V.ev c) (V.sz c) l q.2):=by rw[w1i hil]
        have hce:Ce (s.st V N.P A) x (V.ev (V.code t) y):=y7w (Ev.ent' hv' (z4h V N.P hy));intro aa w ro S Q hd hn hw hsl;obtain⟨g',n',cap,h3,_,h5,h6⟩:=hp' aa ro w hsl;have hlen:n'=l.length:=by
         rcases hw.obj i _ hob with⟨hx,_⟩|⟨g2,cap',cur,hv3,_⟩
         .rw[h3] at hx;cases hx
         .rw[h3] at hv3;simp only[Value.slice.injEq] at hv3;exact hv3.2.1
        subst hlen;refine zzz (s:=⟨(s.st V N.P A).slots,(s.st V N.P A).objs.set i (row E (V.ev c) (V.sz c) l q.2)⟩) (k:=j.toNat) (fo:=fo) (z:=gtz (V.z c) l j) (z':=y') i (V.ev_len c) ht (Ev.ent' hp' zsd) hce hob (by rw[V.ev_len];exact e4.symm) rfl (zh3 ⟨h5,h6⟩) hle (by rw[<- e4] at *;exact e5.symm) ?_ aa w ro S Q hd hn hw hsl;rw[w31];exact fin i q (.x (.fix E c (zt l j y'))) _ ha (w02.1 ho).1 (λS r w h=>⟨hprop,h⟩) h
      .cases h
     .cases h
   .cases h
  |_=>simp[stoX] at h
 .cases h
end
end Px
end
section
namespace Px
open Go Go.RowKit
section
variable{V:TE}{N:Env V}{R:Type}{r:R}{C:Cx N.P}{A:Asg}{s:SS V.T}
theorem zrw[Dr](hl:A.length=s.ob.length)(hkn:chP s.gb s.kn){t n ty:Nat}{parts:Array (Nat×Operand)}{k:SV V.T->SS V.T->Option R}(h:z3i V N s (.buildSlice t n parts) ty k=some r)(dst pos after guard):
  OpT C ⟨dst,.buildSlice t n parts,ty,pos,after,guard⟩ (s.st V N.P A) (LOK V N.P r A s k):=by
 simp only[z3i] at h;split at h
 .rename_i E z by' ht;split at h
  .rename_i l hel;cases hb :(Nat.beq z (V.sz (V.code E))&&Nat.beq l.length n&&Nat.ble (n*z) 16777216) with
   |false=>rw[hb] at h;cases h
   |true=>
    rw[hb] at h;simp only[w03] at hb;have e1:=w01 hb.1.1;have e2:=w01 hb.1.2;have e3:=w0p hb.2;subst e1;simp only[cond_true] at h;refine zm5 l ht (V.ev_len _) e2 e3 (zsc hkn hel) λv'=>⟨[(0,v')],_,_,h,by simp[hl],?_,?_⟩
    .simp only[SV.den,zaq A _ _ hl];exact Ent.refl
    .exact z3j hl (us:=[.row E (V.code E) l]) ⟨EntH.refl,trivial⟩
  .cases h
 .cases h
theorem zvw[Dr]{P:Program}{x y:Operand}{k1 k2:IntKind}{n n':Int}(hs:z3i.sameO x y=true)(hkn:chP s.gb s.kn)(hx:evO s.sl s.kn x=some (.int k1 n))(hy:evO s.sl s.kn y=some (.int k2 n')):Ev (s.st V P A) y (iv k2 n):=by
 have h2:=z0t V P (A:=A) hy hkn;unfold z3i.sameO at hs;split at hs
 .have:=w01 hs
  subst this;rw[hx] at hy;simp only[w00,SV.int.injEq] at hy;obtain⟨rfl,rfl⟩:=hy;exact h2
 .rename_i q a q' b;simp only[decide_eq_true_eq] at hs;subst hs;simp only[evO,zt9,w00,SV.int.injEq] at hx hy;obtain⟨_,rfl⟩:=hx;obtain⟨_,rfl⟩:=hy;exact h2
 .cases hs
theorem ydd{T:Nat->Type}{α:Type}{d:Ds T α}{x:α}(h:nilD d x=true):(zcc d x).2 = []:=by cases d<;>simp[nilD] at h;exact h
theorem zvg[Dr](hl:A.length=s.ob.length)(hkn:chP s.gb s.kn){t ty:Nat}{x y:Operand}{k:SV V.T->SS V.T->Option R}(h:z3i V N s (.makeSlice t x y) ty k=some r)(dst pos after guard):
  OpT C ⟨dst,.makeSlice t x y,ty,pos,after,guard⟩ (s.st V N.P A) (LOK V N.P r A s k):=by
 simp only[z3i] at h;split at h
 .rename_i E z by' q n q' n' ht hx hy;have hx:=zy hx;have hy:=zy hy;split at h
  .rename_i zs hz;cases hsl:zv6 (V.d (V.code E)) with
   |true=>
    rw[hsl] at h;simp only[cond_true] at h;split at h
    .rename_i E2 hu;cases hb :(z3i.sameO x y&&Nat.beq z 1&&zmN zs&&nilD (V.d (V.code E)) (V.z (V.code E))) with
     |false=>rw[hb] at h;cases h
     |true=>
      rw[hb] at h;simp only[w03] at hb;have e1:=w01 hb.1.1.2;subst e1;simp only[cond_true] at h;obtain⟨hm,hk⟩:=zcv h;have hzs:zs = [.slice none 0 0]:=by
       have h5:=hb.1.2;unfold zmN at h5;split at h5
       .rfl
       .cases h5
      subst hzs;refine ybb (e:=λv:Value=>[eqv v]) (Value.slice none 0 0) _ ht (λ_=>rfl) hz (λr w=>zau (zs:=[.slice none 0 0]) rfl) (z0t V N.P hx hkn) (zvw hb.1.1.1 hkn hx hy) hm.1 hm.2.1 hm.2.2 λv' _=>⟨[(0,v')],_,_,hk,by simp[hl],?_,?_⟩
      .simp only[SV.den,zaq A _ _ hl];exact Ent.refl
      .refine z3j hl (us:=[.x (.nst E E2 (V.code E) (List.replicate n.toNat (V.z (V.code E))) none)]) ⟨?_,trivial⟩;intro S r w h;exact⟨⟨hsl,λk j e=>by cases e⟩,yec (.inl ⟨rfl,ydd hb.2⟩) h⟩
    .cases h
   |false=>
   rw[hsl] at h;simp only[cond_false] at h;cases hb :(z3i.sameO x y&&Nat.beq z (V.sz (V.code E))&&zmR V (V.enc (V.code E) (V.z (V.code E))) zs) with
   |false=>rw[hb] at h;cases h
   |true=>
    rw[hb] at h;simp only[w03] at hb;have e1:=w01 hb.1.2;subst e1;simp only[cond_true] at h;obtain⟨hm,hk⟩:=zcv h;refine ybb (V.z (V.code E)) zs ht (V.ev_len _) hz (λr w=>by have:=y76 V N.P (A:=A) r w hb.2;rwa [z1b] at this) (z0t V N.P hx hkn) (zvw hb.1.1 hkn hx hy) hm.1 hm.2.1 hm.2.2 λv' hv'=>⟨[(0,v')],_,_,hk,by simp[hl],?_,?_⟩
    .simp only[SV.den,zaq A _ _ hl];exact Ent.refl
    .cases hbl:zxj (V.d (V.code E)) with
     |false=>exact z3j hl (us:=[.row E (V.code E) (List.replicate n.toNat (V.z (V.code E)))]) ⟨EntH.refl,trivial⟩
     |true=>exact z3j hl (us:=[.x (.fix E (V.code E) (List.replicate n.toNat (V.z (V.code E))))]) ⟨λS r w h=>⟨⟨hbl,hv'⟩,h⟩,trivial⟩
  .cases h
 .cases h
theorem y1d[Dr](hl:A.length=s.ob.length){t ty:Nat}{hint:Option Operand}{k:SV V.T->SS V.T->Option R}(h:z3i V N s (.makeMap t hint) ty k=some r)(dst pos after guard):
  OpT C ⟨dst,.makeMap t hint,ty,pos,after,guard⟩ (s.st V N.P A) (LOK V N.P r A s k):=by
 cases hint with
 |some o=>simp[z3i,zm] at h
 |none=>
  simp only[z3i] at h;split at h
  .rename_i kt et hu;refine y1k (κ:=V.T (V.code kt)) (ν:=V.T (V.code et)) (e:=V.kl (V.code kt)) (eK:=V.kv (V.code kt)) (I:=V.inm (match N.P.underlying et with|some (.slice E)=>E|_=>0) (V.code et)) λb=>⟨[(b,.map (some b))],_,_,h,by simp[hl],?_,?_⟩
   .simp only[SV.den,zaq A _ _ hl];exact Ent.refl
   .refine z3j hl (us:=[.x (.map (V.code kt) (V.code et) (match N.P.underlying et with|some (.slice E)=>E|_=>0) [] none)]) ⟨?_,trivial⟩;exact λS r w h=>⟨⟨rfl,λ_ _ q=>by cases q⟩,h⟩
  .cases h
theorem ya4[Dr](hl:A.length=s.ob.length)(hkn:chP s.gb s.kn){t ty:Nat}{x:Operand}{k:SV V.T->SS V.T->Option R}(h:z3i V N s (.range t x) ty k=some r)(dst pos after guard):
  OpT C ⟨dst,.range t x,ty,pos,after,guard⟩ (s.st V N.P A) (LOK V N.P r A s k):=by
 simp only[z3i] at h;have fin:∀{kc vc kt et:Nat}{m:List (V.T kc×V.T vc)},N.P.underlying t=some (.map kt et)->Ev (s.st V N.P A) x (romE (V.kl kc) (V.kv kc) (λy=>V.vl vc y) m)->k (.own s.ob.length) { s with ob:=s.ob++[.x (.it kc vc m none)] } = some r->
   OpT C ⟨dst,.range t x,ty,pos,after,guard⟩ (s.st V N.P A) (LOK V N.P r A s k):=by
  intro kc vc kt et m hu hx h;refine y9d hu hx λb=>⟨[(b,.pointer (some ⟨b,0,none⟩))],_,_,h,by simp[hl],?_,?_⟩
  .simp only[SV.den,zaq A _ _ hl];exact Ent.refl
  .refine z3j hl (us:=[.x (.it kc vc m none)]) ⟨?_,trivial⟩;exact λS r w h=>⟨rfl,h⟩
 split at h
 .rename_i kt et kc vc m hu hx;have hx':=z0t V N.P (A:=A) hx hkn;simp only[SV.den,y1e] at hx';exact fin hu hx' h
 .rename_i kt et hu hx;have hx':=z0t V N.P (A:=A) hx hkn;refine fin hu (hx'.ent' ?_) h;rw[<- y1e];exact zlg
 .cases h
theorem zxo[Dr](hl:A.length=s.ob.length){j kc vc E:Nat}{m m':List (V.T kc×V.T vc)}{hh hh':Option (V.T kc×Nat)}{q:Nat×Value}(ha:A[j]? = some q){k:SV V.T->SS V.T->Option R}{y:SV V.T}{x:VP}(hx:Ent x (y.den V N.P A))
  (hq:q.2 = .map (some q.1)) (hs:∀k i,hh'=some (k,i)->(A[i]?).isSome=true) (hk:k y (updO V s j (.x (.map kc vc E m' hh')))=some r):LOK V N.P r A s k x (((s.st V N.P A).objs.set j (nmp q.1 (V.kl kc) (V.kv kc) (V.inm E vc) m (zbc A hh))).set j (nmp q.1 (V.kl kc) (V.kv kc) (V.inm E vc) m' (zbc A hh'))):=by
 refine⟨[],s.ob.set j (.x (.map kc vc E m' hh')),y,hk,by simp[hl],by rw[w0b];exact hx,?_⟩;rw[w0b,z35 V N.P A s.ob j q _ ha,w31];exact ObW.le (zdu (show EntH (nmp q.1 (V.kl kc) (V.kv kc) (V.inm E vc) m' (zbc A hh')) ((SO.x (.map kc vc E m' hh'):SO V.T).den V N.P A q) from λS r w h=>⟨⟨hq,hs⟩,h⟩) _ _)
theorem zt4[Dr]{j kc vc E:Nat}{m:List (V.T kc×V.T vc)}{hh:Option (V.T kc×Nat)}{q:Nat×Value}{o:Oper}{K:VP->List HP->Prop}(ha:A[j]? = some q)(ho:s.ob[j]? = some (.x (.map kc vc E m hh)))
  (h:q.2 = .map (some q.1)->(∀k i,hh=some (k,i)->(A[i]?).isSome=true)->((s.st V N.P A).objs.set j (nmp q.1 (V.kl kc) (V.kv kc) (V.inm E vc) m (zbc A hh)))[j]? = some (nmp q.1 (V.kl kc) (V.kv kc) (V.inm E vc) m (zbc A hh))->
   OpT C o ⟨(s.st V N.P A).slots,(s.st V N.P A).objs.set j (nmp q.1 (V.kl kc) (V.kv kc) (V.inm E vc) m (zbc A hh))⟩ K):OpT C o (s.st V N.P A) K:=by
 refine zp1 ha ho λhq hs=>?_
 have hget:=zn V N.P (A:=A) (ps:=A) ha ho;have hlt:j<(s.st V N.P A).objs.length:=(w02.1 hget).1;exact OpT.weak (s':=⟨(s.st V N.P A).slots,(s.st V N.P A).objs.set j (nmp q.1 (V.kl kc) (V.kv kc) (V.inm E vc) m (zbc A hh))⟩) (λ_ _ _ h=>h) (ObW.set' hget λS r w h=>h.2) (h hq hs (by rw[w1i hlt]))
theorem zvh[Dr](hl:A.length=s.ob.length)(hkn:chP s.gb s.kn){t ty:Nat}{x i y:Operand}{k:SV V.T->SS V.T->Option R}(h:z3i V N s (.mapUpdate t x i y) ty k=some r)(pos after guard):
  OpT C ⟨none,.mapUpdate t x i y,ty,pos,after,guard⟩ (s.st V N.P A) (LOK V N.P r A s k):=by
 simp only[z3i] at h;split at h
 .rename_i j u v hx hi hy;split at h
  .rename_i kc vc E m hh ho;split at h
   .rename_i et key hm hd;obtain⟨kt,ht,hk⟩:=zky hm;have hx':=z0t V N.P (A:=A) hx hkn;have hi':=((z0t V N.P (A:=A) hi hkn).ent' (z4h V N.P hd)).ent' (zrp hk);have hy0:=z0t V N.P (A:=A) hy hkn;simp only[SV.den] at hx';cases ha:A[j]? with
    |none=>rw[ha] at hx';exact zc7 hx'
    |some q=>
     rw[ha] at hx';refine zt4 ha ho λhq hs' hget=>?_
     have hx2:Ev (s.st V N.P A) x (eqv (.map (some q.1))):=by rw[<- hq];exact hx'
     cases hs:zbd (V.d vc) with
     |true=>
      rw[hs] at h;simp only[cond_true] at h;split at h
      .rename_i val hv;have hy':=hy0.ent' (z4h V N.P hv);rw[zyg V hs] at hy';exact zm4 (s:=⟨(s.st V N.P A).slots,(s.st V N.P A).objs.set j (nmp q.1 (V.kl kc) (V.kv kc) (V.inm E vc) m (zbc A none))⟩) (z:=val) (hole':=none) j (z8q hk) ht hget hx2 hi' hy' (λq hq=>by cases hq) (.inl ⟨rfl,λS r w=>by rw[zm1 hs];rfl⟩)
        (zxo hl ha (hh:=none) (hh':=none) (y:=.top) Ent.refl hq (λ_ _ q=>by cases q) h)
      .cases h
     |false=>
      rw[hs] at h;simp only[cond_false] at h;split at h
      .rename_i q2;simp only[SV.den] at hy0;cases ha2:A[q2]? with
       |none=>rw[ha2] at hy0;exact zc7 hy0
       |some p2=>
        rw[ha2] at hy0;have hsome:∀k i,some (key,q2)=some (k,i)->(A[i]?).isSome=true:=λk i e=>by cases e;rw[ha2];rfl
        have hhole:zbc A (some (key,q2))=some (key,p2.2):=by simp only[zbc,ha2]
        have fin :(∀p,zbc A hh=some p->V.kl kc p.1=V.kl kc key)->k .top (updO V s j (.x (.map kc vc E (cset (V.kl kc) m key (V.z vc)) (some (key,q2)))))=some r->
          OpT C ⟨none,.mapUpdate t x i y,ty,pos,after,guard⟩ ⟨(s.st V N.P A).slots,(s.st V N.P A).objs.set j (nmp q.1 (V.kl kc) (V.kv kc) (V.inm E vc) m (zbc A hh))⟩ (LOK V N.P r A s k):=λhc h=>
         zm4 (s:=⟨(s.st V N.P A).slots,(s.st V N.P A).objs.set j (nmp q.1 (V.kl kc) (V.kv kc) (V.inm E vc) m (zbc A hh))⟩) (z:=V.z vc) (hole':=some (key,p2.2)) j (z8q hk) ht hget hx2 hi' hy0 hc (.inr rfl)
          (hhole ▸ zxo hl ha (hh:=hh) (hh':=some (key,q2)) (y:=.top) Ent.refl hq hsome h)
        split at h
        .exact fin (λp hp=>by cases hp) h
        .rename_i q' j';obtain⟨hc,h⟩:=zcv h;exact fin (λp hp=>by simp only[zbc,w00] at hp;subst hp;exact hc) h
      .cases h
   .cases h
  .cases h
 .cases h
theorem y35[Dr](hl:A.length=s.ob.length)(hkn:chP s.gb s.kn){ty:Nat}{x i:Operand}{ts:Array TypeId}{k:SV V.T->SS V.T->Option R}(h :(match ts[0]?,evO s.sl s.kn x,evO s.sl s.kn i with
   |some t,some (.own j),some u=>match s.ob[j]? with
    |some (.x (.map kc vc E m none))=>match keyT V N t kc,V.dec (rdSl []) kc u with
     |some _,some key=>k (.val (.tuple #[])) (updO V s j (.x (.map kc vc E (cdel (V.kl kc) m key) none)))
     |_,_=>none
    |_=>none
   |some t,some (.val (.map none)),some u=>match N.P.underlying t with
    |some (.map kt _)=>match keyT V N t (V.code kt),V.dec (rdSl []) (V.code kt) u with
     |some _,some _=>k (.val (.tuple #[])) s
     |_,_=>none
    |_=>none
   |_,_,_=>none)=some r) (dst pos after guard) :
  OpT C ⟨dst,.call { callee:=.builtin .delete,args:=#[x,i],argTypes:=ts },ty,pos,after,guard⟩ (s.st V N.P A) (LOK V N.P r A s k):=by
 split at h
 .rename_i t j u hts hx hi;split at h
  .rename_i kc vc E m ho;split at h
   .rename_i et key hm hd;obtain⟨kt,ht,hk⟩:=zky hm;have hx':=z0t V N.P (A:=A) hx hkn;have hi':=((z0t V N.P (A:=A) hi hkn).ent' (z4h V N.P hd)).ent' (zrp hk);simp only[SV.den] at hx';cases ha:A[j]? with
    |none=>rw[ha] at hx';exact zc7 hx'
    |some q=>
     rw[ha] at hx';refine zt4 ha ho λhq _ hget=>?_
     have hx2:Ev (s.st V N.P A) x (eqv (.map (some q.1))):=by rw[<- hq];exact hx'
     exact y59 (s:=⟨(s.st V N.P A).slots,(s.st V N.P A).objs.set j (nmp q.1 (V.kl kc) (V.kv kc) (V.inm E vc) m (zbc A none))⟩) j (z8q hk) ht hget hx2 hi' hts (zxo hl ha (hh:=none) (hh':=none) (y:=.val (.tuple #[])) Ent.refl hq (λ_ _ q=>by cases q) h)
   .cases h
  .cases h
 .rename_i t u hts hx hi;split at h
  .rename_i kt et hu;split at h
   .rename_i et2 key hm hd;obtain⟨kt2,ht,hk⟩:=zky hm;have hx':=z0t V N.P (A:=A) hx hkn;have hi':=((z0t V N.P (A:=A) hi hkn).ent' (z4h V N.P hd)).ent' (zrp hk);exact OpT.of_q (y1f (z8q hk) ht hx' hi' hts) ⟨[],_,_,h,by simp[hl],by rw[w0b];exact Ent.refl,by rw[w0b];exact ObW.refl⟩
   .cases h
  .cases h
 .cases h
theorem ybj[Dr]{P:Program}{C:Cx P}{c:Nat}{y:SV V.T}{m:List (V.T c)}{o:Operand}(hpos:0<V.sz c)(h:srcX V s.ob c y=some m)(hy:Ev (s.st V P A) o (y.den V P A)):Src C (s.st V P A) o m.length (m.flatMap (V.ev c)):=by
 unfold srcX at h;split at h
 .split at h
  .rename_i e;subst e;simp only[w00] at h;subst h;exact Src.ro (V.ev_len _) hpos hy
  .cases h
 .rename_i j;split at h
  .rename_i E c' l ho;split at h
   .rename_i e;subst e;simp only[w00] at h;subst h;simp only[SV.den] at hy;cases ha:A[j]? with
    |none=>rw[ha] at hy;exact λa r S w hw hs=>(hy a r w hs).elim
    |some q=>rw[ha] at hy;exact Src.row j hy (zn V P ha ho)
   .cases h
  .cases h
 .rename_i j lo hi z;split at h
  .rename_i E c' l ho;split at h
   .rename_i e;subst e;cases hb:Nat.beq z (V.sz c') with
    |false=>rw[hb] at h;cases h
    |true=>
     rw[hb] at h;have e:=w01 hb;subst e;simp only[cond_true,w00] at h;subst h;simp only[SV.den] at hy;cases ha:A[j]? with
     |none=>rw[ha] at hy;exact λa r S w hw hs=>(hy a r w hs).elim
     |some q=>rw[ha] at hy;exact Src.prt j (V.ev_len _) hy (zn V P ha ho)
   .cases h
  .cases h
 .simp only[w00] at h;subst h;exact Src.nil hy
 .cases h
theorem yan[Dr](hl:A.length=s.ob.length){i E c z by' t ty:Nat}{l:List (V.T c)}{y:SV V.T}{x o:Operand}{k:SV V.T->SS V.T->Option R}(h:appX V s ty i E c by' l y k=some r)(ho:s.ob[i]? = some (.row E c l))(ht:tsl N.P t=some (E,z,by'))(hz:z=V.sz c)
  (hby:0<by') (hx:Ev (s.st V N.P A) x ((SV.own i:SV V.T).den V N.P A)) (hy:Ev (s.st V N.P A) o (y.den V N.P A)) (dst pos after guard) :
  OpT C ⟨dst,.call { callee:=.builtin .append,args:=#[x,o],argTypes:=#[t,t] },ty,pos,after,guard⟩ (s.st V N.P A) (LOK V N.P r A s k):=by
 unfold appX at h;subst hz;split at h
 .rename_i m hm;obtain⟨hf,hk⟩:=zcv h;simp only[SV.den] at hx;cases ha:A[i]? with
  |none=>rw[ha] at hx;exact zc7 hx
  |some q=>
   rw[ha] at hx;have hob:=zn V N.P (A:=A) (ps:=A) ha ho;obtain⟨_,_,_,_,_,_,_,_,hpos⟩:=zcb ht;refine y9f i ht (V.ev_len c) hx hob (ybj (by simpa using hpos) hm hy) hf (zz5 hby hf) λv'=>⟨[(0,v')],_,_,hk,by simp[hl],?_,?_⟩
   .simp only[SV.den];rw[zaq A _ _ hl];exact Ent.refl
   .have hi:=(w02.1 ho).1;have hlen:=zc8 V N.P (A:=A) A s.ob hl;refine ObW.trans (ObW.mv (i:=i) (H:=row E (V.ev c) (V.sz c) (l++m) v') (by rw[w1i (by simpa[SS.st,hlen] using hi)])) ?_;have e1 :((s.st V N.P A).objs.set i (row E (V.ev c) (V.sz c) (l++m) v')).set i emp=obD V N.P A A (s.ob.set i .emp):=by rw[w31,z35 V N.P A s.ob i q .emp ha];rfl
    rw[e1];exact z3j (by simp[hl]) (us:=[.row E c (l++m)]) ⟨EntH.refl,trivial⟩
 .cases h
end
end Px
end
