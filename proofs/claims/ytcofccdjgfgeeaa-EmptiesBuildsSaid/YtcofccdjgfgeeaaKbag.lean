/- A part of the proof of emptiesBuilds_holds. Conditions: none. -/
import Derived.Test.YtcofccdjgfgeeaaKbaf
set_option linter.unusedVariables false
set_option linter.unusedSimpArgs false
section
namespace Px
open Go
def arcP(s:List zb)(o:List zk)(c:Nat->Nat->Int)(b:Nat->Nat->Bool)(i k:Nat):List Arc:=bif b i k then [⟨(i:Int),(s.length:Int)+(k:Int),min2 (gt s (i:Int)).count (gt o (k:Int)).count,c i k⟩] else []
def arcR(s:List zb)(o:List zk)(c:Nat->Nat->Int)(b:Nat->Nat->Bool)(i:Nat):List Arc:=(List.range o.length).flatMap (arcP s o c b i)
theorem zp4{s:List zb}{o:List zk}{c:Nat->Nat->Int}{b:Nat->Nat->Bool}(i:Nat):∀n:Nat,((List.range n).flatMap (arcP s o c b i)).length<=n
 |0=>by simp
 |n+1=>by
  rw[w1l,w1t,w0i];have:=zp4 (s:=s) (o:=o) (c:=c) (b:=b) i n;have h2 :([n].flatMap (arcP s o c b i)).length<=1:=by simp only[w0n,List.flatMap_nil,w0e,arcP];cases b i n<;>simp
  omega
theorem zki{s:List zb}{o:List zk}{c:Nat->Nat->Int}{b:Nat->Nat->Bool}(ho:o.length<=6):∀n:Nat,((List.range n).flatMap (arcR s o c b)).length<=6*n
 |0=>by simp
 |n+1=>by
  rw[w1l,w1t,w0i];have:=zki (s:=s) (o:=o) (c:=c) (b:=b) ho n;have h2 :([n].flatMap (arcR s o c b)).length<=6:=by simp only[w0n,List.flatMap_nil,w0e,arcR];have:=zp4 (s:=s) (o:=o) (c:=c) (b:=b) n o.length;omega
  omega
theorem yav(φ:Nat)(k42:Int->Int->List zb->Int->Int->List zb->List zk->Pool->List Int->List Arc->Option (zh×Int×Unit))(u ord:Int)(p:Pool)(s:List zb)(o:List zk)(sup:List Int)(c:Nat->Nat->Int)(b:Nat->Nat->Bool)(i:Nat)
  (hsu:∀k:Nat,k<o.length->z1e φ p (gt s (i:Int)) (gt o (k:Int))=some (c i k,b i k,())) (hs:s.length<=6) (ho:o.length<=6) (acc:List Arc) (ha:acc.length<=100) (m:Nat) (hm:o.length<m) :
  z0u φ k42 m u ord (i:Int) s (s.length:Int) (i:Int) o (o.length:Int) 0 s o p (gt s (i:Int)) sup acc=k42 u ord s (s.length:Int) (W ((i:Int)+1)) s o p sup (acc++arcR s o c b i):=by
 refine z0d (λm k acc=>z0u φ k42 m u ord (i:Int) s (s.length:Int) (i:Int) o (o.length:Int) k s o p (gt s (i:Int)) sup acc) o.length (λk a=>a=acc++(List.range k).flatMap (arcP s o c b i))
  (λr=>r=k42 u ord s (s.length:Int) (W ((i:Int)+1)) s o p sup (acc++arcR s o c b i)) ?_ ?_ m acc (by simp) hm
 .intro m k a hk hI hG;have hW:W ((k:Int)+1) =(k:Int)+1:=W_id (by omega) (by omega);have hW2:W ((s.length:Int)+(k:Int)) =(s.length:Int)+(k:Int):=W_id (by omega) (by omega);have hlen:a.length<=110:=by rw[hI,w0i];have:=zp4 (s:=s) (o:=o) (c:=c) (b:=b) i k;omega
  show z0u φ k42 (m+1) u ord (i:Int) s (s.length:Int) (i:Int) o (o.length:Int) (k:Int) s o p (gt s (i:Int)) sup a=_;rw[z0u,if_pos (by simp;omega),z6 ⟨by omega,by omega⟩,hsu k hk,w04,hW,hW2];have hstep:∀a',a'=a++arcP s o c b i k->a'=acc++(List.range (k+1)).flatMap (arcP s o c b i):=λa' e=>by rw[e,hI,w1l,w1t,w0q];simp
  cases hb:b i k with
  |true=>rw[if_pos rfl,z6 (by simp[fits];omega),if_neg (by simp)];exact hG _ (hstep _ (by unfold arcP;rw[hb];rfl))
  |false=>rw[if_neg (by simp)];exact hG _ (hstep _ (by unfold arcP;rw[hb];simp))
 .intro m a hI;show z0u φ k42 (m+1) u ord (i:Int) s (s.length:Int) (i:Int) o (o.length:Int) (o.length:Int) s o p (gt s (i:Int)) sup a=_;rw[z0u,if_neg (by simp),hI];rfl
theorem y1u(φ:Nat)(u ord:Int)(p:Pool)(s:List zb)(o:List zk)(sup:List Int)(c:Nat->Nat->Int)(b:Nat->Nat->Bool)
  (hsu:∀i k:Nat,i<s.length->k<o.length->z1e φ p (gt s (i:Int)) (gt o (k:Int))=some (c i k,b i k,())) (hs:s.length<=6) (ho:o.length<=6) (hφ:1000<φ) (m:Nat) (hm:s.length<m) :
  z1c φ m u ord s (s.length:Int) 0 s o p sup []=z0n φ φ u ord o (o.length:Int) 0 s sup ((List.range s.length).flatMap (arcR s o c b)):=by
 refine z0d (λm i acc=>z1c φ m u ord s (s.length:Int) i s o p sup acc) s.length (λi a=>a =(List.range i).flatMap (arcR s o c b))
  (λr=>r=z0n φ φ u ord o (o.length:Int) 0 s sup ((List.range s.length).flatMap (arcR s o c b))) ?_ ?_ m [] (by simp) hm
 .intro m i a hi hI hG;have hW:W ((i:Int)+1) =(i:Int)+1:=W_id (by omega) (by omega);have hlen:a.length<=100:=by rw[hI];have:=zki (s:=s) (o:=o) (c:=c) (b:=b) ho i;omega
  show z1c φ (m+1) u ord s (s.length:Int) (i:Int) s o p sup a=_;rw[z1c,if_pos (by simp;omega),z6 ⟨by omega,by omega⟩,yav φ _ u ord p s o sup c b i (λk hk=>hsu i k hi hk) hs ho a hlen φ (by omega),hW];refine hG _ ?_;rw[hI,w1l,w1t];simp
 .intro m a hI;show z1c φ (m+1) u ord s (s.length:Int) (s.length:Int) s o p sup a=_;rw[z1c,if_neg (by simp),hI]
end Px
end
section
namespace Px
open Go
theorem zbn(φ:Nat)(a b c:Int):z0b φ a b c=some (bet a b c,()):=rfl
def okSu(p:Pool)(s:zb):Bool:=(((bet s.type_ 0 (W ((p.fleet.types.length:Int)-1))&&bet s.class_ (-1) 63)&&bet s.place 0 (W ((p.network.places.length:Int)-1)))&&bet s.at_ 0 1073741824)&&bet s.count 1 4096
def okOr(p:Pool)(o:zk):Bool:=(((((bet o.type_ 0 (W ((p.fleet.types.length:Int)-1))&&bet o.class_ 0 63)&&bet o.place 0 (W ((p.network.places.length:Int)-1)))&&bet o.from_ 0 o.to)&&decide (o.to<=1073741824))&&bet o.count 1 1000)&&bet o.weight 0 1000000000
theorem zck(φ:Nat)(p:Pool)(s:zb):z24 φ p s=some (okSu p s,()):=by unfold z24 okSu;simp only[zbn,w04];cases h1:bet s.type_ 0 (W ((p.fleet.types.length:Int)-1))<;>cases h2:bet s.class_ (-1) 63<;>cases h3:bet s.place 0 (W ((p.network.places.length:Int)-1))<;>cases h4:bet s.at_ 0 1073741824<;>cases h5:bet s.count 1 4096<;>simp[z0r]
theorem zdy(φ:Nat)(p:Pool)(o:zk):z2u φ p o=some (okOr p o,()):=by unfold z2u okOr;simp only[zbn,w04];cases h1:bet o.type_ 0 (W ((p.fleet.types.length:Int)-1))<;>cases h2:bet o.class_ 0 63<;>cases h3:bet o.place 0 (W ((p.network.places.length:Int)-1))<;>cases h4:bet o.from_ 0 o.to<;>cases h6:decide (o.to<=1073741824)<;>cases h5:bet o.count 1 1000<;>cases h7:bet o.weight 0 1000000000<;>simp[z0r,h6]
end Px
end
section
namespace Px
open Go
def lsA(H:Arc->Int):List Arc->Int
 | []=>0
 |a::l=>H a+lsA H l
theorem zgf(H:Arc->Int)(m:List Arc):∀l:List Arc,lsA H (l++m)=lsA H l+lsA H m
 | []=>by simp[lsA]
 |a::l=>by simp only[w2p,lsA,zgf H m l];omega
theorem y1m(H:Arc->Int)(a:Arc):lsA H [a]=H a:=by simp[lsA]
theorem zm7(H:Arc->Int)(f:Nat->Arc):∀n:Nat,lsA H ((List.range n).map f)=sumN n λi=>H (f i)
 |0=>rfl
 |n+1=>by rw[w1l,w2b,zgf,zm7 H f n];simp[sumN,lsA]
theorem zqp(H:Arc->Int)(f:Nat->List Arc):∀n:Nat,lsA H ((List.range n).flatMap f)=sumN n λi=>lsA H (f i)
 |0=>rfl
 |n+1=>by rw[w1l,w1t,zgf,zqp H f n];simp[sumN]
theorem zww(H:Arc->Int)(l:List Arc):∀i:Nat,i<=l.length->lsA H (l.take i)=sumN i λj=>H (gt l (j:Int))
 |0,_=>rfl
 |i+1,h=>by rw[z30 l i (by omega),zgf,zww H l i (by omega),y1m];rfl
theorem y1l(H:Arc->Int)(l:List Arc):(sumN l.length λj=>H (gt l (j:Int)))=lsA H l:=by have:=zww H l l.length (w0x _);rw[w1v] at this;exact this.symm
theorem z08{n:Nat}{f:Nat->Int}(h:∀i,i<n->f i=0):sumN n f=0:=(ze h).trans (z3z n)
def sumS(s:List zb):Nat->Int
 |0=>0
 |k+1=>sumS s k+(gt s (k:Int)).count
theorem zr8(s:List zb):∀n:Nat,sumS s n=sumN n λi=>(gt s (i:Int)).count
 |0=>rfl
 |n+1=>by simp only[sumS,sumN,zr8 s n]
theorem zn4(o:List zk):∀n:Nat,sumC o n=sumN n λi=>(gt o (i:Int)).count
 |0=>rfl
 |n+1=>by simp only[sumC,sumN,zn4 o n]
def nodU(s:List zb)(o:List zk):Int:=(s.length:Int)+(o.length:Int)
def zmu(s:List zb)(o:List zk)(c:Nat->Nat->Int)(b:Nat->Nat->Bool):List Arc:=(List.range s.length).flatMap (arcR s o c b)
def z8(s:List zb)(o:List zk)(c:Nat->Nat->Int)(b:Nat->Nat->Bool):List Arc:=zmu s o c b++(List.range o.length).map (arcO (nodU s o) (s.length:Int) o)++(List.range s.length).map (arcS (nodU s o) s)++[⟨nodU s o,nodU s o+1,sumC o o.length,0⟩]
def supN(s:List zb)(o:List zk):List Int:=s.map (·.count)++o.map (λy=>- y.count)++[sumC o o.length,- sumS s s.length]
def netN(s:List zb)(o:List zk)(c:Nat->Nat->Int)(b:Nat->Nat->Bool):zh:=⟨supN s o,z8 s o c b⟩
def arcQ(s:List zb)(o:List zk)(c:Nat->Nat->Int)(i k:Nat):Arc:=⟨(i:Int),(s.length:Int)+(k:Int),min2 (gt s (i:Int)).count (gt o (k:Int)).count,c i k⟩
theorem zm6(H:Arc->Int)(s:List zb)(o:List zk)(c:Nat->Nat->Int)(b:Nat->Nat->Bool):
  lsA H (z8 s o c b) =(sumN s.length λi=>sumN o.length λk=>if b i k=true then H (arcQ s o c i k) else 0)+(sumN o.length λk=>H (arcO (nodU s o) (s.length:Int) o k))+(sumN s.length λi=>H (arcS (nodU s o) s i))+H ⟨nodU s o,nodU s o+1,sumC o o.length,0⟩:=by
 unfold z8 zmu;rw[zgf,zgf,zgf,zm7,zm7,y1m,zqp];congr 3;refine ze λi _=>?_
 unfold arcR;rw[zqp];refine ze λk _=>?_
 unfold arcP;cases b i k<;>simp[lsA,arcQ]
theorem z6l(s:List zb)(o:List zk):(supN s o).length=s.length+o.length+2:=by simp[supN];omega
theorem y0p{α β:Type}[Inhabited α][Inhabited β](f:α->β)(l:List α){i:Int}(h0:0<=i)(h:i<(l.length:Int)):gt (l.map f) i=f (gt l i):=by obtain⟨n,rfl⟩:=w1k h0;rw[z4f (by simpa using h),z4f (by omega)];simp
theorem zp0{s:List zb}{o:List zk}{i:Nat}(h:i<s.length):atN (supN s o) i =(gt s (i:Int)).count:=by unfold atN supN;rw[z88 _ _ _ (by omega) (by simp;omega),z88 _ _ _ (by omega) (by simp;omega),y0p _ _ (by omega) (by omega)]
theorem zoz{s:List zb}{o:List zk}{k:Nat}(h:k<o.length):atN (supN s o) (s.length+k)=-(gt o (k:Int)).count:=by unfold atN supN;rw[z88 _ _ _ (by omega) (by simp;omega),z6t _ _ _ (by simp;omega),y0p _ _ (by simp;omega) (by simp;omega)];rw[show ((s.length+k:Nat):Int)-((s.map (·.count)).length:Nat) =(k:Int) by simp;omega]
theorem ztr(s:List zb)(o:List zk):atN (supN s o) (s.length+o.length)=sumC o o.length:=by unfold atN supN;rw[z6t _ _ _ (by simp)];rw[show ((s.length+o.length:Nat):Int)-((s.map (·.count)++o.map (λy=>- y.count)).length:Nat)=0 by simp];rfl
theorem zts(s:List zb)(o:List zk):atN (supN s o) (s.length+o.length+1)=- sumS s s.length:=by unfold atN supN;rw[z6t _ _ _ (by simp;omega)];rw[show ((s.length+o.length+1:Nat):Int)-((s.map (·.count)++o.map (λy=>- y.count)).length:Nat)=1 by simp;omega];rfl
structure Poss(s:List zb)(o:List zk)(b:Nat->Nat->Bool)(X:Nat->Nat->Int):Prop where
 pos:∀i k,i<s.length->k<o.length->0<=X i k
 no:∀i k,i<s.length->k<o.length->b i k=false->X i k=0
 row:∀i,i<s.length->(sumN o.length λk=>X i k)<=(gt s (i:Int)).count
 col:∀k,k<o.length->(sumN s.length λi=>X i k)<=(gt o (k:Int)).count
def z6o(s:List zb)(o:List zk)(X:Nat->Nat->Int)(i:Nat):Int:=(gt s (i:Int)).count-sumN o.length λk=>X i k
def z3x(s:List zb)(o:List zk)(X:Nat->Nat->Int)(k:Nat):Int:=(gt o (k:Int)).count-sumN s.length λi=>X i k
def ztf(s:List zb)(o:List zk)(X:Nat->Nat->Int):Int:=sumN s.length λi=>sumN o.length λk=>X i k
def flX(s:List zb)(o:List zk)(X:Nat->Nat->Int)(a:Arc):Int:=
 if a.to<nodU s o then(if a.from_<(s.length:Int) then X a.from_.toNat (a.to-(s.length:Int)).toNat else z3x s o X (a.to-(s.length:Int)).toNat)
 else if a.from_<(s.length:Int) then z6o s o X a.from_.toNat else ztf s o X
def zla(s:List zb)(o:List zk)(c:Nat->Nat->Int)(X:Nat->Nat->Int):Int:=(sumN s.length λi=>sumN o.length λk=>X i k*c i k)+sumN o.length λk=>z3x s o X k*(gt o (k:Int)).weight
section
variable{s:List zb}{o:List zk}{c:Nat->Nat->Int}{b:Nat->Nat->Bool}{X:Nat->Nat->Int}
theorem y5o{i k:Nat}(hi:i<s.length)(hk:k<o.length):flX s o X (arcQ s o c i k)=X i k:=by unfold flX arcQ nodU;simp only;rw[if_pos (by omega),if_pos (by omega)];congr 1<;>omega
theorem y5n{k:Nat}(hk:k<o.length):flX s o X (arcO (nodU s o) (s.length:Int) o k)=z3x s o X k:=by unfold flX arcO nodU;simp only;rw[if_pos (by omega),if_neg (by omega)];congr 1;omega
theorem ya4{i:Nat}(hi:i<s.length):flX s o X (arcS (nodU s o) s i)=z6o s o X i:=by unfold flX arcS;simp only;rw[if_neg (by omega),if_pos (by omega)];congr 1
theorem ya3:flX s o X ⟨nodU s o,nodU s o+1,sumC o o.length,0⟩=ztf s o X:=by unfold flX;simp only;rw[if_neg (by omega),if_neg (by unfold nodU;omega)]
theorem zov:ztf s o X=sumN o.length λk=>sumN s.length λi=>X i k:=z7u _ _ _
theorem zha :(nodU s o).toNat=s.length+o.length:=by unfold nodU;omega
theorem yam{b:Bool}{x:Int}(h:b=false->x=0):(if b=true then x else 0)=x:=by cases b<;>simp_all
theorem Poss.out(h:Poss s o b X)(v:Nat)(hv:v<s.length+o.length+2):
  (nwOf (netN s o c b)).outS (λj=>flX s o X (gt (z8 s o c b) (j:Int))) v=if v<s.length then(gt s (v:Int)).count else if v=s.length+o.length then sumC o o.length else 0:=by
 show (sumN (z8 s o c b).length λj=>if(gt (z8 s o c b) (j:Int)).from_.toNat=v then flX s o X (gt (z8 s o c b) (j:Int)) else 0)=_;rw[y1l (λa=>if a.from_.toNat=v then flX s o X a else 0),zm6];have e1 :(sumN s.length λi=>sumN o.length λk=>if b i k=true then(if(arcQ s o c i k).from_.toNat=v then flX s o X (arcQ s o c i k) else 0) else 0)=if v<s.length then(sumN o.length λk=>X v k) else 0:=by
  rw[<- z5b (λi=>sumN o.length λk=>X i k) v];refine ze λi hi=>?_
  show (sumN o.length λk=>if b i k=true then(if((i:Int)).toNat=v then flX s o X (arcQ s o c i k) else 0) else 0)=_;rw[show ((i:Int)).toNat=i by omega];by_cases e:i=v
  .rw[if_pos e];refine ze λk hk=>?_
   rw[if_pos e,y5o hi hk];exact yam (h.no i k hi hk)
  .rw[if_neg e];exact z08 λk hk=>by rw[if_neg e];split<;>rfl
 have e2 :(sumN o.length λk=>if(arcO (nodU s o) (s.length:Int) o k).from_.toNat=v then flX s o X (arcO (nodU s o) (s.length:Int) o k) else 0)=if v=s.length+o.length then(sumN o.length λk=>z3x s o X k) else 0:=by
  have e:∀k,(arcO (nodU s o) (s.length:Int) o k).from_.toNat=s.length+o.length:=λk=>zha
  by_cases g:v=s.length+o.length
  .rw[if_pos g];exact ze λk hk=>by rw[if_pos (by rw[e,g]),y5n hk]
  .rw[if_neg g];exact z08 λk hk=>by rw[if_neg (by rw[e];exact λq=>g q.symm)]
 have e3 :(sumN s.length λi=>if(arcS (nodU s o) s i).from_.toNat=v then flX s o X (arcS (nodU s o) s i) else 0)=if v<s.length then z6o s o X v else 0:=by
  rw[<- z5b (λi=>z6o s o X i) v];refine ze λi hi=>?_
  show (if((i:Int)).toNat=v then flX s o X (arcS (nodU s o) s i) else 0)=_;rw[show ((i:Int)).toNat=i by omega,ya4 hi]
 have e4 :(if(Arc.mk (nodU s o) (nodU s o+1) (sumC o o.length) 0).from_.toNat=v then flX s o X ⟨nodU s o,nodU s o+1,sumC o o.length,0⟩ else 0)=if v=s.length+o.length then ztf s o X else 0:=by
  show (if(nodU s o).toNat=v then _ else 0)=_;rw[zha,ya3];by_cases g:v=s.length+o.length
  .rw[if_pos g,if_pos g.symm]
  .rw[if_neg g,if_neg (λq=>g q.symm)]
 simp only[e1,e2,e3,e4];by_cases g1:v<s.length
 .rw[if_pos g1,if_pos g1,if_pos g1,if_neg (by omega),if_neg (by omega)];unfold z6o;omega
 .rw[if_neg g1,if_neg g1,if_neg g1];by_cases g2:v=s.length+o.length
  .rw[if_pos g2,if_pos g2,if_pos g2];have :(sumN o.length λk=>z3x s o X k)=sumC o o.length-ztf s o X:=by unfold z3x;rw[z7t,zn4,zov]
   omega
  .rw[if_neg g2,if_neg g2,if_neg g2];rfl
theorem Poss.inn(h:Poss s o b X)(v:Nat)(hv:v<s.length+o.length+2):
  (nwOf (netN s o c b)).inS (λj=>flX s o X (gt (z8 s o c b) (j:Int))) v=if v<s.length then 0 else if v<s.length+o.length then(gt o ((v:Int)-(s.length:Int))).count else if v=s.length+o.length then 0 else sumS s s.length:=by
 show (sumN (z8 s o c b).length λj=>if(gt (z8 s o c b) (j:Int)).to.toNat=v then flX s o X (gt (z8 s o c b) (j:Int)) else 0)=_;rw[y1l (λa=>if a.to.toNat=v then flX s o X a else 0),zm6];have t1:∀i k:Nat,(arcQ s o c i k).to.toNat=s.length+k:=λi k=>by show ((s.length:Int)+(k:Int)).toNat=_;omega
 have t2:∀k:Nat,(arcO (nodU s o) (s.length:Int) o k).to.toNat=s.length+k:=λk=>by show ((s.length:Int)+(k:Int)).toNat=_;omega
 have t3:∀i:Nat,(arcS (nodU s o) s i).to.toNat=s.length+o.length+1:=λi=>by show (nodU s o+1).toNat=_;unfold nodU;omega
 have t4 :(Arc.mk (nodU s o) (nodU s o+1) (sumC o o.length) 0).to.toNat=s.length+o.length+1:=by show (nodU s o+1).toNat=_;unfold nodU;omega
 simp only[t1,t2,t3];rw[show (if(Arc.mk (nodU s o) (nodU s o+1) (sumC o o.length) 0).to.toNat=v then flX s o X ⟨nodU s o,nodU s o+1,sumC o o.length,0⟩ else 0)=if s.length+o.length+1=v then flX s o X ⟨nodU s o,nodU s o+1,sumC o o.length,0⟩ else 0 by rw[t4]];by_cases g1:v<s.length
 .rw[if_pos g1,if_neg (by omega)];rw[z08 λi hi=>z08 λk hk=>by
   split
   .exact if_neg (by omega)
   .rfl,z08 λk hk=>if_neg (by omega),z08 λi hi=>if_neg (by omega)];rfl
 .rw[if_neg g1];by_cases g2:v<s.length+o.length
  .obtain⟨k,rfl⟩:∃k,v=s.length+k:=⟨v-s.length,by omega⟩;have hk:k<o.length:=by omega
   rw[if_pos g2,if_neg (by omega)];have e1 :(sumN s.length λi=>sumN o.length λk'=>if b i k'=true then(if s.length+k'=s.length+k then flX s o X (arcQ s o c i k') else 0) else 0)=sumN s.length λi=>X i k:=by
    refine ze λi hi=>?_
    have h1:=z5b (λk'=>X i k') k o.length;rw[if_pos hk] at h1;rw[<- h1];refine ze λk' hk'=>?_
    by_cases e:k'=k
    .subst e;rw[if_pos rfl,if_pos rfl,y5o hi hk'];exact yam (h.no i k' hi hk')
    .rw[if_neg e];split
     .exact if_neg (by omega)
     .rfl
   have e2 :(sumN o.length λk'=>if s.length+k'=s.length+k then flX s o X (arcO (nodU s o) (s.length:Int) o k') else 0)=z3x s o X k:=by
    have h1:=z5b (λk'=>z3x s o X k') k o.length;rw[if_pos hk] at h1;rw[<- h1];refine ze λk' hk'=>?_
    by_cases e:k'=k
    .subst e;rw[if_pos rfl,if_pos rfl,y5n hk']
    .rw[if_neg e,if_neg (by omega)]
   rw[e1,e2,z08 λi hi=>if_neg (by omega)];rw[show ((s.length+k:Nat):Int)-(s.length:Int) =(k:Int) by omega];unfold z3x;omega
  .rw[if_neg g2];rw[z08 λi hi=>z08 λk hk=>by
   split
   .exact if_neg (by omega)
   .rfl,z08 λk hk=>if_neg (by omega)]
   by_cases g3:v=s.length+o.length
   .rw[if_pos g3,z08 λi hi=>if_neg (by omega),if_neg (by omega)];rfl
   .rw[if_neg g3,if_pos (by omega),ya3];have :(sumN s.length λi=>if s.length+o.length+1=v then flX s o X (arcS (nodU s o) s i) else 0)=sumS s s.length-ztf s o X:=by
     have :(sumN s.length λi=>if s.length+o.length+1=v then flX s o X (arcS (nodU s o) s i) else 0)=sumN s.length λi=>z6o s o X i:=ze λi hi=>by rw[if_pos (by omega),ya4 hi]
     rw[this];unfold z6o;rw[z7t,zr8];rfl
    omega
theorem zmb{a:Arc}(h:a∈z8 s o c b):(∃i k,i<s.length/\k<o.length/\b i k=true/\a=arcQ s o c i k)\/(∃k,k<o.length/\a=arcO (nodU s o) (s.length:Int) o k)\/(∃i,i<s.length/\a=arcS (nodU s o) s i)\/a =⟨nodU s o,nodU s o+1,sumC o o.length,0⟩:=by
 unfold z8 at h;rcases w0k.1 h with h|h
 .rcases w0k.1 h with h|h
  .rcases w0k.1 h with h|h
   .left
    unfold zmu arcR at h;obtain⟨i,hi,h⟩:=w1m.1 h;obtain⟨k,hk,h⟩:=w1m.1 h;refine⟨i,k,w0l.1 hi,w0l.1 hk,?_⟩;unfold arcP at h;cases hb:b i k with
    |true=>rw[hb] at h;exact⟨rfl,w0d.1 h⟩
    |false=>rw[hb] at h;simp at h
   .obtain⟨k,hk,h⟩:=w0g.1 h;exact .inr (.inl ⟨k,w0l.1 hk,h.symm⟩)
  .obtain⟨i,hi,h⟩:=w0g.1 h;exact .inr (.inr (.inl ⟨i,w0l.1 hi,h.symm⟩))
 .exact .inr (.inr (.inr (w0d.1 h)))
theorem zn7{n i:Nat}{f:Nat->Int}(h:∀j,j<n->0<=f j)(hi:i<n):f i<=sumN n f:=by have:=ziz (f:=λ_=>0) (g:=f) (d:=f i) hi h (by simp);rw[z3z] at this;omega
theorem Poss.feas(h:Poss s o b X):(nwOf (netN s o c b)).Feas (atN (supN s o)) (λj=>flX s o X (gt (z8 s o c b) (j:Int))) where
 bnd:=λj hj=>by
  have hj':j<(z8 s o c b).length:=hj;show 0<=flX s o X (gt (z8 s o c b) (j:Int))/\flX s o X (gt (z8 s o c b) (j:Int))<=(gt (z8 s o c b) (j:Int)).cap;have hm:=z8t (l:=z8 s o c b) (i:=(j:Int)) (by omega) (by omega);rcases zmb hm with⟨i,k,hi,hk,hb,e⟩|⟨k,hk,e⟩|⟨i,hi,e⟩|e
  .rw[e,y5o hi hk];have h1:=zn7 (f:=λk=>X i k) (λk hk=>h.pos i k hi hk) hk;have h2:=zn7 (f:=λi=>X i k) (λi hi=>h.pos i k hi hk) hi;have h3:=h.row i hi;have h4:=h.col k hk;refine⟨h.pos i k hi hk,?_⟩;show X i k<=min2 (gt s (i:Int)).count (gt o (k:Int)).count;unfold min2;split<;>omega
  .rw[e,y5n hk];have h4:=h.col k hk;have h5:=z22 (f:=λi=>X i k) (n:=s.length) λi hi=>h.pos i k hi hk
   show 0<=z3x s o X k/\z3x s o X k<=(gt o (k:Int)).count;unfold z3x;omega
  .rw[e,ya4 hi];have h4:=h.row i hi;have h5:=z22 (f:=λk=>X i k) (n:=o.length) λk hk=>h.pos i k hi hk
   show 0<=z6o s o X i/\z6o s o X i<=(gt s (i:Int)).count;unfold z6o;omega
  .rw[e,ya3];show 0<=ztf s o X/\ztf s o X<=sumC o o.length;refine⟨z22 λi hi=>z22 λk hk=>h.pos i k hi hk,?_⟩;rw[zov,zn4];exact zdx h.col
 exc:=λv hv=>by
  have hv':v<s.length+o.length+2:=by rw[<- z6l];exact hv
  unfold Nw.exc;rw[h.out v hv',h.inn v hv'];by_cases g1:v<s.length
  .rw[if_pos g1,if_pos g1,zp0 g1];omega
  .rw[if_neg g1,if_neg g1];by_cases g2:v<s.length+o.length
   .obtain⟨k,rfl⟩:∃k,v=s.length+k:=⟨v-s.length,by omega⟩;rw[if_pos g2,if_neg (by omega),zoz (by omega)];rw[show ((s.length+k:Nat):Int)-(s.length:Int) =(k:Int) by omega];omega
   .rw[if_neg g2];by_cases g3:v=s.length+o.length
    .rw[if_pos g3,if_pos g3,g3,ztr];omega
    .rw[if_neg g3,if_neg g3,show v=s.length+o.length+1 by omega,zts];omega
theorem Poss.cost(h:Poss s o b X):(nwOf (netN s o c b)).costS (λj=>flX s o X (gt (z8 s o c b) (j:Int)))=zla s o c X:=by
 show (sumN (z8 s o c b).length λj=>flX s o X (gt (z8 s o c b) (j:Int))*(gt (z8 s o c b) (j:Int)).cost)=_;rw[y1l (λa=>flX s o X a*a.cost),zm6];unfold zla;have e1 :(sumN s.length λi=>sumN o.length λk=>if b i k=true then flX s o X (arcQ s o c i k)*(arcQ s o c i k).cost else 0)=sumN s.length λi=>sumN o.length λk=>X i k*c i k:=ze λi hi=>ze λk hk=>by rw[y5o hi hk];exact yam λhb=>by rw[h.no i k hi hk hb,Int.zero_mul]
 have e2 :(sumN o.length λk=>flX s o X (arcO (nodU s o) (s.length:Int) o k)*(arcO (nodU s o) (s.length:Int) o k).cost)=sumN o.length λk=>z3x s o X k*(gt o (k:Int)).weight:=ze λk hk=>by rw[y5n hk];rfl
 have e3 :(sumN s.length λi=>flX s o X (arcS (nodU s o) s i)*(arcS (nodU s o) s i).cost)=0:=z08 λi hi=>w41 _
 rw[e1,e2,e3];show _+_+0+flX s o X _*0=_;omega
end
end Px
end
section
namespace Px
open Go
theorem z1l(φ:Nat)(a b c:Int):zt φ a b c=some (bet a b c,()):=rfl
def zmr(t:z2r):Bool:=bet t.load 0 1000000&&bet t.tare 0 1000000&&bet t.length 0 1000000&&bet t.brake 0 1000000&&bet t.gauge 0 7&&bet t.life 1 1073741824&&bet t.floor 0 100
def zik(n:Int)(w:znf):Bool:=bet w.type_ 0 (n-1)&&bet w.owner 0 63&&bet w.home 0 511&&bet w.built 0 1073741824&&bet w.worth 0 1099511627776
def zmq(n:Int)(s:Swap):Bool:=bet s.wanted 0 (n-1)&&bet s.given 0 (n-1)&&(s.wanted !=s.given)&&bet s.cost 0 1000000000
def zx4(w:Wash):Bool:=bet w.from_ 0 63&&bet w.to 0 63&&(w.from_ !=w.to)&&bet w.minutes 0 100000
def keyW(w:Wash):Int:=64*w.from_+w.to
def z6k(l:List Wash)(i:Nat):Bool:=zx4 (gt l (i:Int))&&!(l.take i).any λv=>keyW v==keyW (gt l (i:Int))
def z9w(l:List Wash):Bool:=(List.range l.length).all (z6k l)
def z1m(x:z4r):Int:=
 bif decide (32<x.types.length)||decide (4096<x.wagons.length)||decide (1024<x.swaps.length)||decide (4096<x.washes.length) then 2 else
 bif x.types.all zmr&&x.wagons.all (zik x.types.length)&&x.swaps.all (zmq x.types.length)&&z9w x.washes then 0 else 1
theorem zg1(p:Nat->Bool)(i:Nat):(List.range (i+1)).all p =((List.range i).all p&&p i):=by rw[w1l,w4g];simp
theorem zia(φ:Nat)(x:z4r)(hl:x.swaps.length<=1024)(ht:x.types.length<=32):
  ∀n s,x.swaps.length<n->z0w φ n x.swaps (x.swaps.length:Int) 0 x s=z00 φ φ x.washes (x.washes.length:Int) 0 (bif x.swaps.all (zmq (x.types.length:Int)) then s else 1) (λ_=>default):=by
 have hp:W ((x.types.length:Int)-1) =(x.types.length:Int)-1:=W_id (by omega) (by omega);refine zkq (λn i s=>z0w φ n x.swaps (x.swaps.length:Int) i x s) (λs=>z00 φ φ x.washes (x.washes.length:Int) 0 s (λ_=>default)) _ _ ?_ ?_
 .intro n i s hi;have hW:W ((i:Int)+1) =(i:Int)+1:=W_id (by omega) (by omega);rw[z0w,if_pos (by simp;omega),z6 ⟨by omega,by omega⟩];simp only[z1l,w04,zmq,z0r,hW,hp];cases bet (gt x.swaps i).wanted 0 ((x.types.length:Int)-1)<;>cases bet (gt x.swaps i).given 0 ((x.types.length:Int)-1)<;>cases ((gt x.swaps i).wanted !=(gt x.swaps i).given)<;>
   cases bet (gt x.swaps i).cost 0 1000000000<;>rfl
 .intro n s;rw[z0w,if_neg (by simp)]
theorem zgx(φ:Nat)(x:z4r)(hl:x.wagons.length<=4096)(ht:x.types.length<=32):
  ∀n s,x.wagons.length<n->z0g φ n x.wagons (x.wagons.length:Int) 0 x s=z0w φ φ x.swaps (x.swaps.length:Int) 0 x (bif x.wagons.all (zik (x.types.length:Int)) then s else 1):=by
 have hp:W ((x.types.length:Int)-1) =(x.types.length:Int)-1:=W_id (by omega) (by omega);refine zkq (λn i s=>z0g φ n x.wagons (x.wagons.length:Int) i x s) (λs=>z0w φ φ x.swaps (x.swaps.length:Int) 0 x s) _ _ ?_ ?_
 .intro n i s hi;have hW:W ((i:Int)+1) =(i:Int)+1:=W_id (by omega) (by omega);rw[z0g,if_pos (by simp;omega),z6 ⟨by omega,by omega⟩];simp only[z1l,w04,zik,z0r,hW,hp];cases bet (gt x.wagons i).type_ 0 ((x.types.length:Int)-1)<;>cases bet (gt x.wagons i).owner 0 63<;>cases bet (gt x.wagons i).home 0 511<;>
   cases bet (gt x.wagons i).built 0 1073741824<;>cases bet (gt x.wagons i).worth 0 1099511627776<;>rfl
 .intro n s;rw[z0g,if_neg (by simp)]
theorem zkb(φ:Nat)(k:List z2r->Int->Int->z4r->Int->Option (Int×Unit))(ts:List z2r)(len i:Int)(x:z4r)(t:z2r)(n:Nat)(s:Int)(hn:4<n):
  z2a φ k n ts len i 4 0 x s t [t.load,t.tare,t.length,t.brake]=k ts len (W (i+1)) x (bif zmr t then s else 1):=by
 have h:=zkq (λn j s=>z2a φ k n ts len i 4 j x s t [t.load,t.tare,t.length,t.brake]) (λs=>k ts len (W (i+1)) x (bif (bet t.gauge 0 7&&bet t.life 1 1073741824&&bet t.floor 0 100) then s else 1))
  [t.load,t.tare,t.length,t.brake] (λa=>bet a 0 1000000) (λn j s hi=>by
   rw[z2a,if_pos (by simp at hi⊢;omega),z6 ⟨by omega,by omega⟩];simp at hi;have hW:W ((j:Int)+1) =(j:Int)+1:=W_id (by omega) (by omega);simp only[z1l,w04,hW];cases bet (gt [t.load,t.tare,t.length,t.brake] (j:Int)) 0 1000000<;>rfl) (λn s=>by
   rw[z2a,if_neg (by simp)];simp only[z1l,w04,z0r];cases bet t.gauge 0 7<;>cases bet t.life 1 1073741824<;>cases bet t.floor 0 100<;>rfl) n s hn
 rw[h];simp only[zmr,w1d,List.all_nil];cases bet t.load 0 1000000<;>cases bet t.tare 0 1000000<;>cases bet t.length 0 1000000<;>cases bet t.brake 0 1000000<;>
   cases bet t.gauge 0 7<;>cases bet t.life 1 1073741824<;>cases bet t.floor 0 100<;>rfl
theorem zib(φ:Nat)(hφ:4<φ)(x:z4r)(hl:x.types.length<=32):
  ∀n s,x.types.length<n->z41 φ n x.types (x.types.length:Int) 0 x s=z0g φ φ x.wagons (x.wagons.length:Int) 0 x (bif x.types.all zmr then s else 1):=by
 refine zkq (λn i s=>z41 φ n x.types (x.types.length:Int) i x s) (λs=>z0g φ φ x.wagons (x.wagons.length:Int) 0 x s) _ _ ?_ ?_
 .intro n i s hi;rw[z41,if_pos (by simp;omega),z6 ⟨by omega,by omega⟩];have hW:W ((i:Int)+1) =(i:Int)+1:=W_id (by omega) (by omega);refine(zkb φ _ x.types (x.types.length:Int) (i:Int) x (gt x.types i) φ s hφ).trans ?_;rw[hW]
 .intro n s;rw[z41,if_neg (by simp)]
theorem zgy(φ:Nat)(x:z4r)(hl:x.washes.length<=4096)(n:Nat)(s:Int)(hn:x.washes.length<n):
  z00 φ n x.washes (x.washes.length:Int) 0 s (λ_=>default)=some (bif z9w x.washes then s else 1,()):=by
 refine z0d (λn i(t:Int×(Nat->Bool))=>z00 φ n x.washes (x.washes.length:Int) i t.1 t.2) x.washes.length
  (λi t=>t.1 =(bif (List.range i).all (z6k x.washes) then s else 1)/\((List.range i).all (z6k x.washes)=true->∀j:Nat,t.2 j =(x.washes.take i).any λv=>keyW v==(j:Int)))
  (λo=>o=some (bif z9w x.washes then s else 1,())) ?_ ?_ n (s,λ_=>false) ⟨by simp,by simp⟩ hn
 .intro n i t hi ⟨h1,h2⟩ hs;have hW:W ((i:Int)+1) =(i:Int)+1:=W_id (by omega) (by omega);rw[z00,if_pos (by simp;omega),z6 ⟨by omega,by omega⟩];simp only[z1l,w04,z0r,hW];have hok:zx4 (gt x.washes i) =(bet (gt x.washes i).from_ 0 63&&bet (gt x.washes i).to 0 63&&((gt x.washes i).from_ !=(gt x.washes i).to)&&bet (gt x.washes i).minutes 0 100000):=rfl;have hsucc:=zg1 (z6k x.washes) i;cases hw:zx4 (gt x.washes i) with
  |false=>
   have hf :(List.range (i+1)).all (z6k x.washes)=false:=by rw[hsucc];simp[z6k,hw]
   have h3:z00 φ n x.washes (x.washes.length:Int) ((i:Int)+1) 1 t.2=some (bif z9w x.washes then s else 1,()):=hs (1,t.2) ⟨by rw[hf];rfl,by rw[hf];intro h;cases h⟩;rw[hw] at hok;rw[<- h3];generalize bet (gt x.washes i).from_ 0 63=a at *;generalize bet (gt x.washes i).to 0 63=b at *;generalize ((gt x.washes i).from_ !=(gt x.washes i).to)=c at *;generalize bet (gt x.washes i).minutes 0 100000=d at *;cases a<;>cases b<;>cases c<;>cases d<;>first |(exact absurd hok (by decide))|rfl
  |true=>
   rw[hw] at hok;have hb:=hok.symm;simp only[w02] at hb;obtain⟨⟨⟨b1,b2⟩,b3⟩,b4⟩:=hb;have c1:=zl4 b1;have c2:=zl4 b2;simp only[b1,b2,b3,b4,w4a,if_true,w04,w1o,w0u,if_false];rw[z6 ⟨by omega,by omega⟩,z6 ⟨by omega,by omega⟩];have hkey :((gt x.washes i).from_.toNat*64+(gt x.washes i).to.toNat:Nat) =(keyW (gt x.washes i)).toNat:=by unfold keyW;omega
   have hk0 :((keyW (gt x.washes i)).toNat:Int)=keyW (gt x.washes i):=by unfold keyW;omega
   have key:∀e,(e=bif (List.range (i+1)).all (z6k x.washes) then s else 1)->
     z00 φ n x.washes (x.washes.length:Int) ((i:Int)+1) e (upd t.2 (keyW (gt x.washes i)).toNat true)=some (bif z9w x.washes then s else 1,()):=by
    intro e he;refine hs (e,_) ⟨he,λhall j=>?_⟩;rw[hsucc,w02] at hall;rw[zgm _ _ _ hi,<- h2 hall.1 j];show (if j =(keyW (gt x.washes i)).toNat then true else t.2 j)=_;by_cases hj:j =(keyW (gt x.washes i)).toNat
    .simp[hj,hk0]
    .have :(keyW (gt x.washes i)==(j:Int))=false:=by simp;intro h;exact hj (by omega)
     simp[hj,this]
   have e64:∀(p:Prop)[Decidable p](y:Option (Int×Unit)),p->ck p y=y:=λp _ y hp=>z6 hp
   rw[hkey];simp only[e64 _ _ (show (0:Int)<=(gt x.washes i).from_/\(gt x.washes i).from_<64 by omega),e64 _ _ (show (0:Int)<=(gt x.washes i).to/\(gt x.washes i).to<64 by omega)];cases hall :(List.range i).all (z6k x.washes) with
   |true=>
    have hat:z6k x.washes i = !(t.2 (keyW (gt x.washes i)).toNat):=by rw[h2 hall];simp only[z6k,hw,w2h,hk0]
    cases ht2:t.2 (keyW (gt x.washes i)).toNat with
    |true=>simp only[w1o,w2i,if_true];refine key 1 ?_;rw[hsucc,hat,ht2];simp
    |false=>simp only[w1o,w2i,w0u,if_false];refine key t.1 ?_;rw[hsucc,hat,ht2,h1,hall];simp
   |false=>
    have hf :(List.range (i+1)).all (z6k x.washes)=false:=by rw[hsucc,hall];rfl
    have ht1:t.1=1:=by rw[h1,hall];rfl
    rw[ht1];split<;>exact key 1 (by rw[hf];rfl)
 .intro n t ⟨h1,_⟩;rw[z00,if_neg (by simp),h1];rfl
theorem zc2(φ:Nat)(hφ:5000<φ)(x:z4r):z83 φ x=some (z1m x,()):=by
 have e :(((decide (32<(x.types.length:Int))||decide (4096<(x.wagons.length:Int)))||decide (1024<(x.swaps.length:Int)))||decide (4096<(x.washes.length:Int))) =
   (decide (32<x.types.length)||decide (4096<x.wagons.length)||decide (1024<x.swaps.length)||decide (4096<x.washes.length)):=by
  congr 1
  .congr 1
   .congr 1<;>(apply decide_eq_decide.2;omega)
   .apply decide_eq_decide.2;omega
  .apply decide_eq_decide.2;omega
 unfold z83 z1m;rw[e];cases h :(decide (32<x.types.length)||decide (4096<x.wagons.length)||decide (1024<x.swaps.length)||decide (4096<x.washes.length)) with
 |true=>rfl
 |false=>simp only[w17,decide_eq_false_iff_not,Nat.not_lt] at h;obtain⟨⟨⟨h1,h2⟩,h3⟩,h4⟩:=h;rw[if_neg (by simp),zib φ (by omega) x h1 _ _ (by omega),zgx _ _ h2 h1 _ _ (by omega),zia _ _ h3 h1 _ _ (by omega),zgy _ _ h4 _ _ (by omega)];cases x.types.all zmr<;>cases x.wagons.all (zik x.types.length)<;>cases x.swaps.all (zmq x.types.length)<;>cases z9w x.washes<;>rfl
theorem z5e{x:z4r}(h:z1m x=0):x.types.length<=32/\x.wagons.length<=4096/\x.swaps.length<=1024/\x.washes.length<=4096/\
  (∀t∈x.types,zmr t=true)/\(∀t∈x.wagons,zik x.types.length t=true)/\(∀t∈x.swaps,zmq x.types.length t=true)/\z9w x.washes=true:=by
 unfold z1m at h;cases h1 :(decide (32<x.types.length)||decide (4096<x.wagons.length)||decide (1024<x.swaps.length)||decide (4096<x.washes.length)) with
 |true=>rw[h1] at h;cases h
 |false=>
  rw[h1] at h;simp only[w17,decide_eq_false_iff_not,Nat.not_lt] at h1;obtain⟨⟨⟨a1,a2⟩,a3⟩,a4⟩:=h1;cases h2 :(x.types.all zmr&&x.wagons.all (zik x.types.length)&&x.swaps.all (zmq x.types.length)&&z9w x.washes) with
  |false=>rw[h2] at h;cases h
  |true=>simp only[w02,w08] at h2;exact⟨a1,a2,a3,a4,h2.1.1.1,h2.1.1.2,h2.1.2,h2.2⟩
end Px
end
section
namespace Px
open Go
theorem z8b{c:Int}(h:0<=c)(h':c<18446744073709551616):(BitVec.ofInt 64 c).toNat=c.toNat:=by rw[BitVec.toNat_ofInt];omega
theorem y96{n:Nat}(h:n<18446744073709551616):U (n:Int)=n:=U_id (by omega) (by omega)
theorem y84{a b:Nat}(h:a<18446744073709551616):a&&& b<18446744073709551616:=w4r Nat.and_le_left h
theorem y7c{k:Nat}(h:k<=63):(2 ^ k:Nat)<18446744073709551616:=w2z (Nat.pow_lt_pow_right (by decide) (by omega:k<64)) (by decide)
theorem ydt{c k:Int}(h:0<=c)(hk:0<=k)(hk':k<=63):c.fdiv (2 ^ (min (k:Int).toNat (IntKind.bits .u64))) =((c.toNat / 2 ^ k.toNat:Nat):Int):=by
 have e:min (k:Int).toNat (IntKind.bits .u64)=k.toNat:=by simp[IntKind.bits];omega
 rw[e];have e2 :((2:Int) ^ k.toNat) =((2 ^ k.toNat:Nat):Int):=by simp
 rw[e2,w1y _ (Int.natCast_nonneg _)];have:c =(c.toNat:Int):=by omega
 rw[this];simp
end Px
end
section
namespace Px
open Go
set_option maxRecDepth 100000
theorem zya :((List.range 256).all λi=>decide (0<=za3 z01 i/\za3 z01 i<=8/\i<2 ^ (za3 z01 i).toNat/\(0<i->0<za3 z01 i/\2 ^ ((za3 z01 i).toNat-1)<=i)))=true:=by decide+kernel
theorem zm3{i:Int}(h:0<=i)(h':i<256):∃n:Nat,za3 z01 i=n/\n<=8/\i.toNat<2 ^ n/\(0<i->0<n/\2 ^ (n-1)<=i.toNat):=by have:=w08.1 zya i.toNat (by simp;omega);rw[decide_eq_true_eq,show ((i.toNat:Nat):Int)=i by omega] at this;obtain⟨a,b,c,d⟩:=this;exact⟨(za3 z01 i).toNat,by omega,by omega,c,λhi=>⟨by have:=(d (by omega)).1;omega,(d (by omega)).2⟩⟩
def z7v(v:Nat)(n:Nat):Prop:=v<2 ^ n/\(0<v->0<n/\2 ^ (n-1)<=v)
theorem z7v.up{v:Nat}(k:Nat){n:Nat}(h:z7v (v / 2 ^ k) n)(hv:2 ^ k<=v):z7v v (n+k):=by
 have hp:=Nat.two_pow_pos k;have hpos:0<v / 2 ^ k:=Nat.div_pos hv hp;obtain⟨h1,h2⟩:=h;obtain⟨h3,h4⟩:=h2 hpos;refine⟨?_,λ_=>⟨by omega,?_⟩⟩
 .rw[w4n];exact(Nat.div_lt_iff_lt_mul hp).1 h1
 .have:n+k-1 =(n-1)+k:=by omega
  rw[this,w4n];exact(Nat.le_div_iff_mul_le hp).1 h4
theorem y1e(φ:Nat)(v w:Int)(h:0<=v)(h':v<256)(hw:0<=w)(hw':w<=64):∃n:Nat,z1a φ v w=some (64-(w+n),())/\n<=8/\z7v v.toNat n:=by
 obtain⟨n,e,hn,a,b⟩:=zm3 h h';have e8:IntKind.wrap .u8 v=v:=by simp[IntKind.wrap,IntKind.bits,IntKind.signed];omega
 refine⟨n,?_,hn,a,λhv=>b (by omega)⟩;unfold z1a;rw[e8,z6 ⟨h,h'⟩,e,W_id (x:=(n:Int)) (by omega) (by omega),W_id (x:=w+n) (by omega) (by omega),W_id (by omega) (by omega)]
theorem sh8(v:Int):v.fdiv (2 ^ (min (8:Int).toNat 64))=v / 256:=by rw[show ((2:Int) ^ (min (8:Int).toNat 64))=256 by decide];exact w1y _ (by omega)
theorem sh16(v:Int):v.fdiv (2 ^ (min (16:Int).toNat 64))=v / 65536:=by rw[show ((2:Int) ^ (min (16:Int).toNat 64))=65536 by decide];exact w1y _ (by omega)
theorem sh32(v:Int):v.fdiv (2 ^ (min (32:Int).toNat 64))=v / 4294967296:=by rw[show ((2:Int) ^ (min (32:Int).toNat 64))=4294967296 by decide];exact w1y _ (by omega)
theorem y8n(φ:Nat)(v w:Int)(h:0<=v)(h':v<65536)(hw:0<=w)(hw':w<=48):∃n:Nat,z1s φ v w=some (64-(w+n),())/\n<=16/\z7v v.toNat n:=by
 unfold z1s;by_cases c:256<=v
 .rw[if_pos (by simpa using c),if_pos (by decide),sh8,W_id (by omega) (by omega)];obtain⟨n,e,hn,hl⟩:=y1e φ (v / 256) (w+8) (by omega) (by omega) (by omega) (by omega);refine⟨n+8,by rw[e];congr 2;omega,by omega,?_⟩;refine z7v.up 8 ?_ (by omega)
  rwa [show v.toNat / 2 ^ 8 =(v / 256).toNat by omega]
 .rw[if_neg (by simpa using c)];obtain⟨n,e,hn,hl⟩:=y1e φ v w h (by omega) (by omega) (by omega);exact⟨n,e,by omega,hl⟩
theorem y8m(φ:Nat)(v w:Int)(h:0<=v)(h':v<4294967296)(hw:0<=w)(hw':w<=32):∃n:Nat,z1r φ v w=some (64-(w+n),())/\n<=32/\z7v v.toNat n:=by
 unfold z1r;by_cases c:65536<=v
 .rw[if_pos (by simpa using c),if_pos (by decide),sh16,W_id (by omega) (by omega)];obtain⟨n,e,hn,hl⟩:=y8n φ (v / 65536) (w+16) (by omega) (by omega) (by omega) (by omega);refine⟨n+16,by rw[e];congr 2;omega,by omega,?_⟩;refine z7v.up 16 ?_ (by omega)
  rwa [show v.toNat / 2 ^ 16 =(v / 65536).toNat by omega]
 .rw[if_neg (by simpa using c)];obtain⟨n,e,hn,hl⟩:=y8n φ v w h (by omega) (by omega) (by omega);exact⟨n,e,by omega,hl⟩
theorem ye3(φ:Nat)(v:Int)(h:0<=v)(h':v<18446744073709551616):∃n:Nat,z36 φ v=some (64-(n:Int),())/\n<=64/\z7v v.toNat n:=by
 unfold z36;by_cases c:4294967296<=v
 .rw[if_pos (by simpa using c),if_pos (by decide),sh32];obtain⟨n,e,hn,hl⟩:=y8m φ (v / 4294967296) 32 (by omega) (by omega) (by omega) (by omega);refine⟨n+32,by rw[e];congr 2;omega,by omega,?_⟩;refine z7v.up 32 ?_ (by omega)
  rwa [show v.toNat / 2 ^ 32 =(v / 4294967296).toNat by omega]
 .rw[if_neg (by simpa using c)];obtain⟨n,e,hn,hl⟩:=y8m φ v 0 h (by omega) (by omega) (by omega);exact⟨n,by rw[e];simp,by omega,hl⟩
theorem zma{v:Int}(h:0<=v)(h':v<18446744073709551616):U ((BitVec.ofInt 64 v&&& BitVec.ofInt 64 4294967295).toNat)=v % 4294967296:=by
 show U ((BitVec.ofInt 64 v&&& BitVec.ofInt 64 4294967295).toNat:Int)=_;rw[BitVec.toNat_and,z8b h h',z8b (by omega) (by omega),y96 (y84 (by omega))];have :(4294967295:Int).toNat=2 ^ 32-1:=by decide
 rw[this,Nat.and_two_pow_sub_one_eq_mod];omega
theorem zmd{a b m n:Int}(ha:0<=a)(hb:0<=b)(h:a<=m)(h':b<=n):0<=a*b/\a*b<=m*n:=⟨w1i ha hb,w39 h h' hb (by omega)⟩
theorem y47(φ:Nat)(x y:Int)(hx:0<=x)(hx':x<18446744073709551616)(hy:0<=y)(hy':y<18446744073709551616):
  z7x φ x y=some (x*y / 18446744073709551616,x*y % 18446744073709551616,()):=by
 unfold z7x;simp only[show (0:Int)<=32 by decide,if_true];rw[zma hx hx',zma hy hy'];simp only[sh32];have ex:x=x / 4294967296*4294967296+x % 4294967296:=by omega
 have ey:y=y / 4294967296*4294967296+y % 4294967296:=by omega
 have a1:0<=x / 4294967296/\x / 4294967296<=4294967295:=by omega
 have a0:0<=x % 4294967296/\x % 4294967296<=4294967295:=by omega
 have b1:0<=y / 4294967296/\y / 4294967296<=4294967295:=by omega
 have b0:0<=y % 4294967296/\y % 4294967296<=4294967295:=by omega
 have hxy:x*y =(x / 4294967296)*(y / 4294967296)*18446744073709551616+((x / 4294967296)*(y % 4294967296)+(x % 4294967296)*(y / 4294967296))*4294967296+(x % 4294967296)*(y % 4294967296):=by
  conv=>lhs;rw[ex,ey]
  generalize x / 4294967296=a;generalize x % 4294967296=b;generalize y / 4294967296=c;generalize y % 4294967296=d;rw[w2r,w2y,w2y,w2r];have e1:a*4294967296*(c*4294967296)=a*c*18446744073709551616:=by rw[w2t,Int.mul_left_comm 4294967296 c,<- w2t];rfl
  have e2:a*4294967296*d=a*d*4294967296:=by rw[w4s]
  have e3:b*(c*4294967296)=b*c*4294967296:=by rw[w2t]
  rw[e1,e2,e3];omega
 have p11:=zmd a1.1 b1.1 a1.2 b1.2;have p10:=zmd a1.1 b0.1 a1.2 b0.2;have p01:=zmd a0.1 b1.1 a0.2 b1.2;have p00:=zmd a0.1 b0.1 a0.2 b0.2;rw[zza (x*y),hxy];generalize (x / 4294967296)*(y / 4294967296)=p at *;generalize (x / 4294967296)*(y % 4294967296)=q at *;generalize (x % 4294967296)*(y / 4294967296)=r at *;generalize (x % 4294967296)*(y % 4294967296)=s at *;clear hxy ex ey a1 a0 b1 b0;rw[U_id (x:=p) (by omega) (by omega),U_id (x:=q) (by omega) (by omega),U_id (x:=r) (by omega) (by omega),U_id (x:=s) (by omega) (by omega)];rw[U_id (x:=q+s / 4294967296) (by omega) (by omega),zma (by omega) (by omega),
  U_id (x:=(q+s / 4294967296) % 4294967296+r) (by omega) (by omega),U_id (x:=p+(q+s / 4294967296) / 4294967296) (by omega) (by omega),U_id (by omega) (by omega)]
 refine congrArg some (Prod.ext ?_ rfl);show _=_;omega
theorem yce{yn1 yn0 u d q r:Int}(h1:2147483648<=yn1)(h1':yn1<4294967296)(h0:0<=yn0)(h0':yn0<4294967296)(hd:0<=d)(hd':d<4294967296)(hu:0<=u)
  (hu':u<yn1*4294967296+yn0) (hqr:q*yn1+r=u) (hr:0<=r) (hr':r<4294967296) (hq :(u*4294967296+d) /(yn1*4294967296+yn0)<=q) :
  0<=q/\q<=4294967297/\0<=(u*4294967296+d) /(yn1*4294967296+yn0)/\(u*4294967296+d) /(yn1*4294967296+yn0)<4294967296/\
  (4294967296<=q\/4294967296*r+d<q*yn0->(u*4294967296+d) /(yn1*4294967296+yn0)<=q-1)/\
  (¬(4294967296<=q\/4294967296*r+d<q*yn0)->q =(u*4294967296+d) /(yn1*4294967296+yn0))/\
  (4294967296<=q\/4294967296*r+d<q*yn0->4294967296<=r+yn1->q-1 =(u*4294967296+d) /(yn1*4294967296+yn0)):=by
 have hY:0<yn1*4294967296+yn0:=by omega
 have hQ0:0<=(u*4294967296+d) /(yn1*4294967296+yn0):=w33 (by omega) (by omega);have hQ1 :(u*4294967296+d) /(yn1*4294967296+yn0)<4294967296:=w3n hY (by omega);have hq0:0<=q:=by omega
 have key:q*(yn1*4294967296+yn0) =(u-r)*4294967296+q*yn0:=by rw[w2y,<- w2t,<- hqr];omega
 have hq2:q<=4294967297:=by
  rcases Int.lt_or_le 4294967297 q with h|h
  .have:4294967298*yn1<=q*yn1:=w25 (by omega) (by omega);omega
  .exact h
 have lt_of:∀{z:Int},(u*4294967296+d) /(yn1*4294967296+yn0)<z↔u*4294967296+d<z*(yn1*4294967296+yn0):=λ{z}=>Int.ediv_lt_iff_lt_mul hY
 refine⟨hq0,hq2,hQ0,hQ1,λh=>?_,λh=>?_,λh hr2=>?_⟩
 .have :(u*4294967296+d) /(yn1*4294967296+yn0)<q:=by
   rcases h with h|h
   .omega
   .rw[lt_of,key];omega
  omega
 .have:¬(u*4294967296+d) /(yn1*4294967296+yn0)<q:=by rw[lt_of,key];omega
  omega
 .have hq1 :(u*4294967296+d) /(yn1*4294967296+yn0)<q:=by
   rcases h with h|h
   .omega
   .rw[lt_of,key];omega
  have h2:¬(u*4294967296+d) /(yn1*4294967296+yn0)<q-1:=by
   rw[lt_of];have e :(q-1)*(yn1*4294967296+yn0) =(u-(r+yn1))*4294967296+(q-1)*yn0:=by
    have :(q-1)*yn1+(r+yn1)=u:=by rw[w3u];omega
    rw[w2y,<- w2t,<- this];omega
   have b:=(zmd (by omega:0<=q-1) h0 (by omega:q-1<=4294967296) (by omega:yn0<=4294967295)).2;rw[e];omega
  omega
theorem mulB{a b:Int}(h:0<=a)(h':a<4294967296)(g:0<=b)(g':b<4294967296):0<=a*b/\a*b<=18446744065119617025:=zmd h g (by omega:a<=4294967295) (by omega:b<=4294967295)
theorem zo6{ρ:Type}(L:Nat->Int->Int->Option ρ)(k:Int->Option ρ){yn1 yn0 u d:Int}(h1:2147483648<=yn1)(h1':yn1<4294967296)(h0:0<=yn0)(h0':yn0<4294967296)(hd:0<=d)(hd':d<4294967296)(hu:0<=u)
  (hu':u<yn1*4294967296+yn0)
  (step:∀n q r,L (n+1) q r=if(decide (4294967296<=q)||decide (U (U (4294967296*r)+d)<U (q*yn0)))=true then(if decide (4294967296<=U (r+yn1))=true then k (U (q-1)) else L n (U (q-1)) (U (r+yn1))) else k q) :
  ∀(n:Nat)q r,q*yn1+r=u->0<=r->r<4294967296->(u*4294967296+d) /(yn1*4294967296+yn0)<=q->4294967296-r<=2147483648*n->L (n+1) q r=k ((u*4294967296+d) /(yn1*4294967296+yn0)):=by
 intro n
 induction n with
 |zero=>intro q r _ _ _ _ h;omega
 |succ n ih=>
  intro q r hqr hr hr' hq hn;obtain⟨g0,g1,g2,g3,g4,g5,g6⟩:=yce h1 h1' h0 h0' hd hd' hu hu' hqr hr hr' hq;have hc :(decide (4294967296<=q)||decide (U (U (4294967296*r)+d)<U (q*yn0)))=true↔(4294967296<=q\/4294967296*r+d<q*yn0):=by
   rw[w0w,decide_eq_true_eq,decide_eq_true_eq];by_cases hqB:4294967296<=q
   .simp[hqB]
   .have:=mulB g0 (by omega:q<4294967296) h0 h0'
    rw[U_id (x:=4294967296*r) (by omega) (by omega),U_id (by omega) (by omega),U_id (by omega) (by omega)]
  rw[step];by_cases c:4294967296<=q\/4294967296*r+d<q*yn0
  .have a4:=g4 c;rw[if_pos (hc.2 c),U_id (x:=r+yn1) (by omega) (by omega),U_id (x:=q-1) (by omega) (by omega)];by_cases e:4294967296<=r+yn1
   .rw[if_pos (by simpa using e),g6 c e]
   .rw[if_neg (by simpa using e)];exact ih _ _ (by rw[w3u];omega) (by omega) (by omega) a4 (by omega)
  .rw[if_neg (λh=>c (hc.1 h)),<- g5 c]
theorem zle{yn1 yn0 u d:Int}(h1:2147483648<=yn1)(h1':yn1<4294967296)(h0:0<=yn0)(h0':yn0<4294967296)(hd:0<=d)(hd':d<4294967296)(hu:0<=u)
  (hu':u<yn1*4294967296+yn0):U (u.tdiv yn1)=u / yn1/\U (u-U (U (u.tdiv yn1)*yn1))=u % yn1/\u / yn1*yn1+u % yn1=u/\0<=u % yn1/\u % yn1<4294967296/\
  (u*4294967296+d) /(yn1*4294967296+yn0)<=u / yn1:=by
 have e1:u.tdiv yn1=u / yn1:=w4w hu;have hdm:u / yn1*yn1+u % yn1=u:=by have:=w34 u yn1;exact this
 have hm0:=w3x u (by omega:yn1≠0);have hm1:=w42 u (by omega:0<yn1);have hq0:0<=u / yn1:=w33 hu (by omega);have hq1:u / yn1<=u:=Int.ediv_le_self _ hu;have hqm:0<=u / yn1*yn1:=w1i hq0 (by omega);rw[e1,U_id hq0 (by omega),U_id (x:=u / yn1*yn1) (by omega) (by omega),U_id (by omega) (by omega)];refine⟨rfl,by omega,hdm,hm0,by omega,?_⟩;have hY:0<yn1*4294967296+yn0:=by omega
 have hQ0:0<=(u*4294967296+d) /(yn1*4294967296+yn0):=w33 (by omega) (by omega);have hQ:=Int.ediv_mul_le (u*4294967296+d) (b:=yn1*4294967296+yn0) (by omega);generalize (u*4294967296+d) /(yn1*4294967296+yn0)=z at *;rw[w2y,<- w2t] at hQ;have:=w1i hQ0 h0;exact(Int.le_ediv_iff_mul_le (by omega)).2 (by omega)
theorem y92(a b c:Int):U (U (U a+b)-U c)=U (a+b-c):=by simp only[zza];omega
theorem ydi{a b:Int}{s:Nat}(hs:s<=63)(ha:0<=a)(h:a*2 ^ s<18446744073709551616)(hb:0<=b)(hb':b<2 ^ s):
  U ((BitVec.ofInt 64 (U (a*2 ^ s))||| BitVec.ofInt 64 b).toNat)=a*2 ^ s+b:=by
 have hp :(0:Int)<2 ^ s:=Int.pow_pos (by decide);have hn:=w1i ha (Int.le_of_lt hp);have hp2 :(2:Int) ^ s =((2 ^ s:Nat):Int):=by simp
 have hlt :(2 ^ s:Nat)<18446744073709551616:=y7c hs;rw[U_id hn (by omega)];show U ((BitVec.ofInt 64 (a*2 ^ s)||| BitVec.ofInt 64 b).toNat:Int)=_;have hlt2:=(BitVec.ofInt 64 (a*2 ^ s)||| BitVec.ofInt 64 b).isLt;rw[y96 (by omega),BitVec.toNat_or,z8b hn h,z8b hb (by omega)];obtain⟨n,rfl⟩:=w1k ha;obtain⟨m,rfl⟩:=w1k hb;have e :((n:Int)*2 ^ s).toNat=2 ^ s*n:=by rw[hp2,<- w4i,w1q,Nat.mul_comm]
 rw[e,w1q,<- Nat.two_pow_add_eq_or_of_lt (by rw[hp2] at hb';omega)];simp[w29]
theorem zhr(φ:Nat)(v:Int)(h:0<v)(h':v<18446744073709551616):∃s:Nat,z36 φ v=some ((s:Int),())/\s<=63/\
  9223372036854775808<=v*2 ^ s/\v*2 ^ s<18446744073709551616/\v<=2 ^ (64-s):=by
 obtain⟨n,e,hn,h1,h2⟩:=ye3 φ v (by omega) h';obtain⟨h3,h4⟩:=h2 (by omega);refine⟨64-n,?_,by omega,?_,?_,?_⟩
 .rw[e];congr 2;omega
 .have:2 ^ (n-1)*2 ^ (64-n)<=v.toNat*2 ^ (64-n):=w16 _ h4;rw[<- w4n,show n-1+(64-n)=63 by omega] at this;have e2 :((v.toNat*2 ^ (64-n):Nat):Int)=v*2 ^ (64-n):=by rw[w4i,Int.natCast_pow];congr 1;omega
  omega
 .have:v.toNat*2 ^ (64-n)<2 ^ n*2 ^ (64-n):=Nat.mul_lt_mul_of_pos_right h1 (Nat.two_pow_pos _);rw[<- w4n,show n+(64-n)=64 by omega] at this;have e2 :((v.toNat*2 ^ (64-n):Nat):Int)=v*2 ^ (64-n):=by rw[w4i,Int.natCast_pow];congr 1;omega
  omega
 .rw[show 64-(64-n)=n by omega];have e2 :((2 ^ n:Nat):Int) =(2:Int) ^ n:=by simp
  omega
theorem y46(φ:Nat)(hφ:5<φ)(hi lo y:Int)(h0:0<=hi)(hy:hi<y)(hy':y<18446744073709551616)(hl:0<=lo)(hl':lo<18446744073709551616):
  z6r φ hi lo y=some ((hi*18446744073709551616+lo) / y,(hi*18446744073709551616+lo) % y,()):=by
 unfold z6r;rw[if_neg (by simp;omega),if_neg (by simp;omega)];by_cases hz:hi=0
 .subst hz;rw[if_pos (by simp),z6 (by omega),z6 (by omega),w4w hl,w3t hl,U_id (w33 hl (by omega)) (by have:=Int.ediv_le_self y hl;omega)];simp
 rw[if_neg (by simpa using hz)];obtain⟨s,es,hs,hY1,hY2,hyP⟩:=zhr φ y (by omega) hy';have em1:min (s:Int).toNat 64=s:=by omega
 have em2:min (64-(s:Int)).toNat 64=64-s:=by omega
 have hp :(0:Int)<2 ^ s:=Int.pow_pos (by decide);have hP :(0:Int)<2 ^ (64-s):=Int.pow_pos (by decide);have hpP :(2:Int) ^ s*2 ^ (64-s)=18446744073709551616:=by rw[<- Int.pow_add,show s+(64-s)=64 by omega];rfl
 have hhp:hi*2 ^ s<y*2 ^ s:=w4t hy hp;have hlP0:0<=lo / 2 ^ (64-s):=w33 hl (by omega);have hlP1:lo / 2 ^ (64-s)<2 ^ s:=w3n hP (by omega);have hh0:0<=hi*2 ^ s:=w1i h0 (by omega)
 -- the low word
 have hlo10:U (lo*2 ^ s)=lo % 2 ^ (64-s)*2 ^ s:=by
  have e:lo=lo / 2 ^ (64-s)*2 ^ (64-s)+lo % 2 ^ (64-s):=(w34 lo _).symm;have e2:lo*2 ^ s=lo / 2 ^ (64-s)*18446744073709551616+lo % 2 ^ (64-s)*2 ^ s:=by
   conv=>lhs;rw[e]
   rw[w2r,w2t,w29 (2 ^ (64-s)),hpP]
  have m0:=w3x lo (by omega :(2:Int) ^ (64-s)≠0);have m1:=w42 lo hP;have m2:lo % 2 ^ (64-s)*2 ^ s<2 ^ (64-s)*2 ^ s:=w4t m1 hp;have m3:=w1i m0 (Int.le_of_lt hp);rw[w29 (2 ^ (64-s))] at m2;rw[e2,zza];omega
 have hN :(hi*2 ^ s+lo / 2 ^ (64-s))*18446744073709551616+lo % 2 ^ (64-s)*2 ^ s =(hi*18446744073709551616+lo)*2 ^ s:=by
  have e:lo=lo / 2 ^ (64-s)*2 ^ (64-s)+lo % 2 ^ (64-s):=(w34 lo _).symm;have e2:lo*2 ^ s=lo / 2 ^ (64-s)*18446744073709551616+lo % 2 ^ (64-s)*2 ^ s:=by
   conv=>lhs;rw[e]
   rw[w2r,w2t,w29 (2 ^ (64-s)),hpP]
  have e3 :(hi*18446744073709551616+lo)*2 ^ s=hi*2 ^ s*18446744073709551616+lo*2 ^ s:=by rw[w2r,w4s]
  rw[e3,e2];omega
 have hun0:0<=lo % 2 ^ (64-s)*2 ^ s:=w1i (w3x lo (by omega)) (by omega);have hun1:lo % 2 ^ (64-s)*2 ^ s<18446744073709551616:=by rw[<- hlo10,zza];omega
 have hu':hi*2 ^ s+lo / 2 ^ (64-s)<y*2 ^ s:=by have :(hi+1)*2 ^ s<=y*2 ^ s:=w25 (by omega) (by omega);rw[w2r] at this;omega
 have hs1:U (s:Int)=s:=U_id (by omega) (by omega);have hs2:U (64-(s:Int))=64-(s:Int):=U_id (by omega) (by omega);have ef:lo.fdiv (2 ^ (64-s))=lo / 2 ^ (64-s):=w1y _ (by omega);have eor:=ydi hs h0 (by omega:hi*2 ^ s<18446744073709551616) hlP0 hlP1;obtain⟨Y,hYd⟩:∃Y,Y=y*2 ^ s:=⟨_,rfl⟩;have eY:U (y*2 ^ s)=Y:=by rw[hYd];exact U_id (by omega) (by omega)
 obtain⟨u,hud⟩:∃u,u=hi*2 ^ s+lo / 2 ^ (64-s):=⟨_,rfl⟩;obtain⟨w,hwd⟩:∃w,w=lo % 2 ^ (64-s)*2 ^ s:=⟨_,rfl⟩;rw[<- hwd] at hlo10 hN hun0 hun1;rw[<- hud] at hN hu' eor;rw[<- hYd] at hu' hY1 hY2 hhp;have hu0:0<=u:=by omega
 have fY:Y.fdiv 4294967296=Y / 4294967296:=w1y _ (by omega);have fw:w.fdiv 4294967296=w / 4294967296:=w1y _ (by omega);have mY:=zma (v:=Y) (by omega) (by omega);have mw:=zma (v:=w) (by omega) (by omega);have b1:2147483648<=Y / 4294967296/\Y / 4294967296<4294967296/\0<=Y % 4294967296/\Y % 4294967296<4294967296:=by omega
 have b2:0<=w / 4294967296/\w / 4294967296<4294967296/\0<=w % 4294967296/\w % 4294967296<4294967296:=by omega
 have eYs:Y / 4294967296*4294967296+Y % 4294967296=Y:=by omega
 obtain⟨m,rfl⟩:∃m,φ=m+3:=⟨φ-3,by omega⟩;rw[es];simp only[w04,hs1,hs2,em1,em2,sh32,eY,hlo10,mY,mw,ef,eor,show (0:Int)<=32 by decide,if_true];rw[z6 (by omega),z6 (by omega),z6 (by omega),z6 (by omega),z6 (by omega)];obtain⟨i1,i2,i3,i4,i5,i6⟩:=zle (u:=u) (d:=w / 4294967296) b1.1 b1.2.1 b1.2.2.1 b1.2.2.2 b2.1 b2.2.1 hu0 (by omega);rw[i1] at i2⊢;rw[i2];refine(zo6 (λn q r=>z66 (m+3) n Y s (Y / 4294967296) (Y % 4294967296) u (w / 4294967296) (w % 4294967296) q r) (λq=>z67 (m+3) Y s (Y / 4294967296) (Y % 4294967296) u (w / 4294967296) (w % 4294967296) q)
  b1.1 b1.2.1 b1.2.2.1 b1.2.2.2 b2.1 b2.2.1 hu0 (by omega) (λn q r=>by rw[z66]) (m+2) _ _ i3 i4 i5 i6 (by omega)).trans ?_
 rw[eYs];unfold z67;rw[z6 (by omega)];have hQ1:0<=(u*4294967296+w / 4294967296) / Y/\(u*4294967296+w / 4294967296) / Y<4294967296:=⟨w33 (by omega) (by omega),w3n (by omega) (by omega)⟩;have hR1:=w34 (u*4294967296+w / 4294967296) Y;have hR1a:=w3x (u*4294967296+w / 4294967296) (by omega:Y≠0);have hR1b:=w42 (u*4294967296+w / 4294967296) (by omega:0<Y);generalize (u*4294967296+w / 4294967296) / Y=q1 at *;generalize (u*4294967296+w / 4294967296) % Y=r1 at *;have eu21:U (U (U (u*4294967296)+w / 4294967296)-U (q1*Y))=r1:=by rw[y92,show u*4294967296+w / 4294967296-q1*Y=r1 by omega];exact U_id hR1a (by omega)
 rw[eu21];obtain⟨j1,j2,j3,j4,j5,j6⟩:=zle (u:=r1) (d:=w % 4294967296) b1.1 b1.2.1 b1.2.2.1 b1.2.2.2 b2.2.2.1 b2.2.2.2 hR1a (by omega);rw[j1] at j2⊢;rw[j2];refine(zo6 (λn q r=>z65 (m+3) n Y s (Y / 4294967296) (Y % 4294967296) (w % 4294967296) q1 r r1 q) (λq=>z68 (m+3) Y s (w % 4294967296) q1 r1 q)
  b1.1 b1.2.1 b1.2.2.1 b1.2.2.2 b2.2.2.1 b2.2.2.2 hR1a (by omega) (λn q r=>by rw[z65]) (m+2) _ _ j3 j4 j5 j6 (by omega)).trans ?_
 rw[eYs];unfold z68;rw[em1,z6 (by omega)];have hQ0:0<=(r1*4294967296+w % 4294967296) / Y/\(r1*4294967296+w % 4294967296) / Y<4294967296:=⟨w33 (by omega) (by omega),w3n (by omega) (by omega)⟩;have hR0:=w34 (r1*4294967296+w % 4294967296) Y;have hR0a:=w3x (r1*4294967296+w % 4294967296) (by omega:Y≠0);have hR0b:=w42 (r1*4294967296+w % 4294967296) (by omega:0<Y);generalize (r1*4294967296+w % 4294967296) / Y=q0 at *;generalize (r1*4294967296+w % 4294967296) % Y=r0 at *;rw[y92,show r1*4294967296+w % 4294967296-q0*Y=r0 by omega,U_id (x:=r0) hR0a (by omega),U_id (x:=q1*4294967296) (by omega) (by omega),U_id (by omega) (by omega),w1y _ (by omega)];have hall :(hi*18446744073709551616+lo-(q1*4294967296+q0)*y)*2 ^ s=r0:=by rw[w3u,<- hN,w2t,<- hYd,w2r,w4s];omega
 have hz0:0<=hi*18446744073709551616+lo-(q1*4294967296+q0)*y:=by
  rcases Int.lt_or_le (hi*18446744073709551616+lo-(q1*4294967296+q0)*y) 0 with h|h
  .have:=Int.mul_neg_of_neg_of_pos h hp;omega
  .exact h
 have hz1:hi*18446744073709551616+lo-(q1*4294967296+q0)*y<y:=by refine Int.lt_of_mul_lt_mul_right (a:=2 ^ s) ?_ (by omega);rw[hall,<- hYd];exact hR0b
 have hr0:r0 / 2 ^ s=hi*18446744073709551616+lo-(q1*4294967296+q0)*y:=by rw[<- hall];exact Int.mul_ediv_cancel _ (by omega)
 have hdm :(hi*18446744073709551616+lo) / y=q1*4294967296+q0/\(hi*18446744073709551616+lo) % y=hi*18446744073709551616+lo-(q1*4294967296+q0)*y:=(Int.ediv_emod_unique (by omega)).2 ⟨by rw[w29 y];omega,hz0,hz1⟩;rw[hr0,hdm.1,hdm.2]
end Px
end
section
namespace Px
open Go
set_option maxRecDepth 100000
def PP:Nat:=2305843009213690799
def QQ:Nat:=1152921504606845399
def pw(b n:Nat):Nat:=b ^ n % PP
theorem y2v(b n:Nat):pw b n<PP:=Nat.mod_lt _ (by decide)
theorem ybj(b:Nat):pw b 0=1:=by simp[pw,PP]
theorem y8z(b m n:Nat):pw b m*pw b n % PP=pw b (m+n):=by unfold pw;rw[w4n,<- Nat.mul_mod]
theorem ydn(b:Nat):pw b 1=b % PP:=by simp[pw]
theorem ycx{a:Nat}(h:a<PP):((a:Int)).tmod 2305843009213690799 =(a:Int):=by unfold PP at h;rw[w3t (by omega)];omega
theorem ycy(b:Nat):((b:Int)).tmod 2305843009213690799 =((b % PP:Nat):Int):=by rw[w3t (by omega)];unfold PP;omega
theorem y1s{ρ:Type}{a b:Nat}(ha:a<PP)(hb:b<PP)(φ:Nat)(hφ:5<φ)(K:Int->Option ρ):((z7x φ (a:Int) (b:Int)).bind λy=>(z6r φ y.1 y.2.1 2305843009213690799).bind λz=>K z.2.1)=K ((a*b % PP:Nat):Int):=by
 have ha' :(a:Int)<2305843009213690799:=by unfold PP at ha;omega
 have hb' :(b:Int)<2305843009213690799:=by unfold PP at hb;omega
 have hp:=zmd (by omega:0<=(a:Int)) (by omega:0<=(b:Int)) (by omega :(a:Int)<=2305843009213690798) (by omega :(b:Int)<=2305843009213690798);rw[y47 φ _ _ (by omega) (by omega) (by omega) (by omega),w04];generalize hz :(a:Int)*(b:Int)=z at *;show (z6r φ (z / 18446744073709551616) (z % 18446744073709551616) 2305843009213690799).bind _=_;rw[y46 φ hφ _ _ _ (by omega) (by omega) (by omega) (by omega) (by omega),w04];congr 1;have:z / 18446744073709551616*18446744073709551616+z % 18446744073709551616=z:=by omega
 show (z / 18446744073709551616*18446744073709551616+z % 18446744073709551616) % 2305843009213690799=_;rw[this,<- hz,Int.natCast_emod,w4i];rfl
theorem z7v.uniq{v m n:Nat}(hv:0<v)(h:z7v v m)(k:z7v v n):m=n:=by obtain⟨h1,h2⟩:=h;obtain⟨k1,k2⟩:=k;obtain⟨h3,h4⟩:=h2 hv;obtain⟨k3,k4⟩:=k2 hv;have a:m-1<n:=(Nat.pow_lt_pow_iff_right (by decide:1<2)).1 (w4r h4 k1);have b:n-1<m:=(Nat.pow_lt_pow_iff_right (by decide:1<2)).1 (w4r k4 h1);omega
section first
variable(φ:Nat)(b n a p:Int)
theorem y2r(v w:Int)(h:0<=v)(h':v<256)(hw:0<=w)(hw':w<=64):∃m:Nat,z8w φ v w b n a p=z0s φ φ b n a (w+m) 0 p/\m<=8/\z7v v.toNat m:=by
 obtain⟨m,e,hm,x,y⟩:=zm3 h h';have e8:IntKind.wrap .u8 v=v:=by simp[IntKind.wrap,IntKind.bits,IntKind.signed];omega
 refine⟨m,?_,hm,x,λhv=>y (by omega)⟩;unfold z8w;rw[e8,z6 ⟨h,h'⟩,e,W_id (x:=(m:Int)) (by omega) (by omega),W_id (x:=w+m) (by omega) (by omega)]
theorem y2q(v w:Int)(h:0<=v)(h':v<65536)(hw:0<=w)(hw':w<=48):∃m:Nat,z8v φ v w b n a p=z0s φ φ b n a (w+m) 0 p/\m<=16/\z7v v.toNat m:=by
 unfold z8v;by_cases c:256<=v
 .rw[if_pos (by simpa using c),if_pos (by decide),sh8,W_id (by omega) (by omega)];obtain⟨m,e,hn,hl⟩:=y2r φ b n a p (v / 256) (w+8) (by omega) (by omega) (by omega) (by omega);refine⟨m+8,by rw[e];congr 1;omega,by omega,?_⟩;refine z7v.up 8 ?_ (by omega)
  rwa [show v.toNat / 2 ^ 8 =(v / 256).toNat by omega]
 .rw[if_neg (by simpa using c)];obtain⟨m,e,hn,hl⟩:=y2r φ b n a p v w h (by omega) (by omega) (by omega);exact⟨m,e,by omega,hl⟩
theorem y8y(v w:Int)(h:0<=v)(h':v<4294967296)(hw:0<=w)(hw':w<=32):∃m:Nat,zbe φ v w b n a p=z0s φ φ b n a (w+m) 0 p/\m<=32/\z7v v.toNat m:=by
 unfold zbe;by_cases c:65536<=v
 .rw[if_pos (by simpa using c),if_pos (by decide),sh16,W_id (by omega) (by omega)];obtain⟨m,e,hn,hl⟩:=y2q φ b n a p (v / 65536) (w+16) (by omega) (by omega) (by omega) (by omega);refine⟨m+16,by rw[e];congr 1;omega,by omega,?_⟩;refine z7v.up 16 ?_ (by omega)
  rwa [show v.toNat / 2 ^ 16 =(v / 65536).toNat by omega]
 .rw[if_neg (by simpa using c)];obtain⟨m,e,hn,hl⟩:=y2q φ b n a p v w h (by omega) (by omega) (by omega);exact⟨m,e,by omega,hl⟩
end first
def zim(φ:Nat)(k:Int->Int->Int->Int->Int->Int->Option (Int×Unit))(L b c d e f g i a:Int):Option (Int×Unit):=ck (0<=(W ((W (L-1))-e))) (if(((U ((BitVec.ofInt 64 ((i:Int).fdiv (2 ^ (min ((W ((W (L-1))-e)):Int).toNat 64)))&&& BitVec.ofInt 64 1).toNat)):Int)==1)=true then(ck (a≠0) (ck (a≠0) ((z7x φ ((d:Int).tmod a) ((b:Int).tmod a)).bind λh=>((z6r φ h.1 h.2.1 a).bind λj=>(k b c j.2.1 f (W (g+1)) a))))) else(k b c d f (W (g+1)) a))
section second
variable(φ:Nat)(k:Int->Int->Int->Int->Int->Int->Option (Int×Unit))(x57 x58 x59 x60 x61 x62 x63 x64:Int)
theorem y2u(v w:Int)(h:0<=v)(h':v<256)(hw:0<=w)(hw':w<=64):∃m:Nat,z8y φ k v w x57 x58 x59 x60 x61 x62 x63 x64=zim φ k (w+m) x57 x58 x59 x60 x61 x62 x63 x64/\m<=8/\z7v v.toNat m:=by
 obtain⟨m,e,hm,x,y⟩:=zm3 h h';have e8:IntKind.wrap .u8 v=v:=by simp[IntKind.wrap,IntKind.bits,IntKind.signed];omega
 refine⟨m,?_,hm,x,λhv=>y (by omega)⟩;unfold z8y zim;rw[e8,z6 ⟨h,h'⟩,e,W_id (x:=(m:Int)) (by omega) (by omega),W_id (x:=w+m) (by omega) (by omega)]
theorem y2t(v w:Int)(h:0<=v)(h':v<65536)(hw:0<=w)(hw':w<=48):∃m:Nat,z8x φ k v w x57 x58 x59 x60 x61 x62 x63 x64=zim φ k (w+m) x57 x58 x59 x60 x61 x62 x63 x64/\m<=16/\z7v v.toNat m:=by
 unfold z8x;by_cases c:256<=v
 .rw[if_pos (by simpa using c),if_pos (by decide),sh8,W_id (by omega) (by omega)];obtain⟨m,e,hn,hl⟩:=y2u φ k x57 x58 x59 x60 x61 x62 x63 x64 (v / 256) (w+8) (by omega) (by omega) (by omega) (by omega);refine⟨m+8,by rw[e];congr 1;omega,by omega,?_⟩;refine z7v.up 8 ?_ (by omega)
  rwa [show v.toNat / 2 ^ 8 =(v / 256).toNat by omega]
 .rw[if_neg (by simpa using c)];obtain⟨m,e,hn,hl⟩:=y2u φ k x57 x58 x59 x60 x61 x62 x63 x64 v w h (by omega) (by omega) (by omega);exact⟨m,e,by omega,hl⟩
theorem y2s(v w:Int)(h:0<=v)(h':v<4294967296)(hw:0<=w)(hw':w<=32):∃m:Nat,z3y φ k v w x57 x58 x59 x60 x61 x62 x63 x64=zim φ k (w+m) x57 x58 x59 x60 x61 x62 x63 x64/\m<=32/\z7v v.toNat m:=by
 unfold z3y;by_cases c:65536<=v
 .rw[if_pos (by simpa using c),if_pos (by decide),sh16,W_id (by omega) (by omega)];obtain⟨m,e,hn,hl⟩:=y2t φ k x57 x58 x59 x60 x61 x62 x63 x64 (v / 65536) (w+16) (by omega) (by omega) (by omega) (by omega);refine⟨m+16,by rw[e];congr 1;omega,by omega,?_⟩;refine z7v.up 16 ?_ (by omega)
  rwa [show v.toNat / 2 ^ 16 =(v / 65536).toNat by omega]
 .rw[if_neg (by simpa using c)];obtain⟨m,e,hn,hl⟩:=y2t φ k x57 x58 x59 x60 x61 x62 x63 x64 v w h (by omega) (by omega) (by omega);exact⟨m,e,by omega,hl⟩
theorem ydk(v:Int)(h:0<=v)(h':v<18446744073709551616):∃m:Nat,(if(decide ((4294967296:Int)<=v))=true then(if 0<=(32:Int) then(z3y φ k (((v:Int).fdiv (2 ^ (min (32:Int).toNat 64)))) 32 x57 x58 x59 x60 x61 x62 x63 x64) else none) else(z3y φ k v 0 x57 x58 x59 x60 x61 x62 x63 x64)) =
  zim φ k m x57 x58 x59 x60 x61 x62 x63 x64/\m<=64/\z7v v.toNat m:=by
 by_cases c:4294967296<=v
 .rw[if_pos (by simpa using c),if_pos (by decide),sh32];obtain⟨m,e,hn,hl⟩:=y2s φ k x57 x58 x59 x60 x61 x62 x63 x64 (v / 4294967296) 32 (by omega) (by omega) (by omega) (by omega);refine⟨m+32,by rw[e];congr 1;omega,by omega,?_⟩;refine z7v.up 32 ?_ (by omega)
  rwa [show v.toNat / 2 ^ 32 =(v / 4294967296).toNat by omega]
 .rw[if_neg (by simpa using c)];obtain⟨m,e,hn,hl⟩:=y2s φ k x57 x58 x59 x60 x61 x62 x63 x64 v 0 h (by omega) (by omega) (by omega);exact⟨m,by rw[e];simp,by omega,hl⟩
end second
theorem zvg(φ:Nat)(hφ:100<φ)(b n:Nat)(hn0:0<n)(hn:n<18446744073709551616):zhl φ (b:Int) (n:Int)=some (((pw b n:Nat):Int),()):=by
 have hstart:∃L:Nat,zhl φ (b:Int) (n:Int)=z0s φ φ b n 1 L 0 2305843009213690799/\L<=64/\z7v n L:=by
  unfold zhl;by_cases c :(4294967296:Int)<=n
  .rw[if_pos (by simpa using c),if_pos (by decide),sh32];obtain⟨m,e,hm,hl⟩:=y8y φ b n 1 2305843009213690799 ((n:Int) / 4294967296) 32 (by omega) (by omega) (by omega) (by omega);refine⟨m+32,by rw[e];congr 1;omega,by omega,?_⟩;refine z7v.up 32 ?_ (by omega)
   rwa [show n / 2 ^ 32 =((n:Int) / 4294967296).toNat by omega]
  .rw[if_neg (by simpa using c)];obtain⟨m,e,hm,hl⟩:=y8y φ b n 1 2305843009213690799 (n:Int) 0 (by omega) (by omega) (by omega) (by omega);exact⟨m,by rw[e];simp,by omega,by rwa [w1q] at hl⟩
 obtain⟨L,e0,hL,hlen⟩:=hstart;rw[e0];obtain⟨h1,h2⟩:=hlen;refine z0d (λk i v=>z0s φ k (b:Int) (n:Int) v (L:Int) i 2305843009213690799) L (λi v=>v =((pw b (n / 2 ^ (L-i)):Nat):Int)) (λo=>o=some (((pw b n:Nat):Int),())) ?_ ?_ φ 1 ?_ (by omega)
 .intro k i v hi hv hs;rw[z0s,if_pos (by simp;omega),z6 (by decide),z6 (by decide)];subst hv;rw[ycx (y2v _ _)];refine(y1s (y2v _ _) (y2v _ _) φ (by omega) (λz=>(if(decide ((4294967296:Int)<=(n:Int)))=true then(if 0<=(32:Int) then(z3y φ (z0s φ k) ((((n:Int):Int).fdiv (2 ^ (min (32:Int).toNat 64)))) 32 b n z i L i n 2305843009213690799) else none) else(z3y φ (z0s φ k) n 0 b n z i L i n 2305843009213690799)))).trans ?_;rw[y8z];obtain⟨m,em,hm,hl⟩:=ydk φ (z0s φ k) b n ((pw b (n / 2 ^ (L-i)+n / 2 ^ (L-i)):Nat):Int) i L i n 2305843009213690799 (n:Int) (by omega) (by omega);refine em.trans ?_;rw[w1q] at hl;have:=z7v.uniq hn0 hl ⟨h1,h2⟩;subst this;unfold zim;have hw1:W ((m:Int)-1) =(m:Int)-1:=W_id (by omega) (by omega);have hw2:W ((m:Int)-1-(i:Int)) =((m-1-i:Nat):Int):=by rw[W_id (by omega) (by omega)];omega
  rw[hw1,hw2,z6 (by omega)];have hsh:=ydt (c:=(n:Int)) (k:=((m-1-i:Nat):Int)) (by omega) (by omega) (by omega);have hone:U ((BitVec.ofInt 64 ((n:Int).fdiv (2 ^ (min (((m-1-i:Nat):Int)).toNat 64)))&&& BitVec.ofInt 64 1).toNat) =((n / 2 ^ (m-1-i) % 2:Nat):Int):=by rw[show ((n:Int).fdiv (2 ^ (min (((m-1-i:Nat):Int)).toNat 64)))=_ from hsh,w1q,w1q];have hd:n / 2 ^ (m-1-i)<=n:=Nat.div_le_self _ _;rw[BitVec.toNat_and,z8b (Int.natCast_nonneg _) (by omega),z8b (by omega) (by omega),y96 (y84 (by omega)),w1q];show ((n / 2 ^ (m-1-i)&&& 1:Nat):Int)=_;rw[Nat.and_one_is_mod]
  rw[hone];have hhalf:n / 2 ^ (m-i)=n / 2 ^ (m-1-i) / 2:=by rw[Nat.div_div_eq_div_mul,<- Nat.pow_succ];congr 2;omega
  have hidx:m-(i+1)=m-1-i:=by omega
  have hW:W ((i:Int)+1) =(i:Int)+1:=W_id (by omega) (by omega);have hbit:=Nat.mod_two_eq_zero_or_one (n / 2 ^ (m-1-i));rcases hbit with hbit|hbit
  .rw[hbit,if_neg (by simp),hW];refine hs _ ?_;rw[hidx,hhalf];congr 2;omega
  .rw[hbit,if_pos (by simp),ycx (y2v _ _),ycy,z6 (by decide),z6 (by decide),hW];refine(y1s (y2v _ _) (Nat.mod_lt b (by decide:0<PP)) φ (by omega) (λz=>z0s φ k b n z m ((i:Int)+1) 2305843009213690799)).trans ?_;refine hs _ ?_;rw[<- ydn b,y8z,hidx,hhalf];congr 2;omega
 .intro k v hv;rw[z0s,if_neg (by simp),hv];rw[Nat.sub_self,Nat.pow_zero,Nat.div_one]
 .rw[w3k,Nat.div_eq_of_lt h1,ybj];rfl
def yb1(x:Int):Bool:=decide (2<=x)&&decide (x<2305843009213690799)&&(pw x.toNat QQ==1)
theorem zuy(a:Nat):(((a:Nat):Int)==1) =(a==1):=by rw[w3g,beq_iff_eq,beq_iff_eq];omega
theorem zr4(φ:Nat)(hφ:100<φ)(x:Int):zfv φ x=some (yb1 x,()):=by
 unfold zfv yb1 z0r;cases h:decide (2<=x)&&decide (x<2305843009213690799) with
 |false=>rw[if_neg (by simp),w04];simp only[w3l]
 |true=>simp only[w02,decide_eq_true_eq] at h;have:=zvg φ hφ x.toNat QQ (by decide) (by decide);rw[show ((x.toNat:Nat):Int)=x by omega,show ((QQ:Nat):Int)=1152921504606845399 by decide] at this;rw[if_pos rfl,this,w04,w2h,w2h];show some ((((pw x.toNat QQ:Nat):Int)==1),())=_;rw[zuy]
end Px
end
section
namespace Px
open Go
theorem gz_t{α:Type}{z:α}{p:Prop}[Decidable p]{x:Option α}(h:p):z0r z p x=x:=if_pos h
theorem gz_f{α:Type}{z:α}{p:Prop}[Decidable p]{x:Option α}(h:¬p):z0r z p x=some z:=if_neg h
def zfc(p:zec):Bool:=bet p.kind 1 5&&bet p.railway 0 15&&(bif p.kind==3 then bet p.other 0 15&&(p.other !=p.railway) else p.other==(-1))
def zfb(n:Int)(e:Edge):Bool:=bet e.a 0 (n-1)&&bet e.b 0 (n-1)&&(e.a !=e.b)&&bet e.railway 0 15&&bet e.minutes 1 100000&&bet e.km 0 10000
def za4(x:z02):Int:=bif decide (512<x.places.length)||decide (2048<x.edges.length) then 2 else bif x.places.all zfc&&x.edges.all (zfb x.places.length) then 0 else 1
theorem zkd(φ:Nat)(p:zec):z9u φ p=some (zfc p,()):=by
 have hb :(((decide (p.kind<1)||decide (5<p.kind))||decide (p.railway<0))||decide (16<=p.railway)) = !(bet p.kind 1 5&&bet p.railway 0 15):=by rw[w3g];simp[bet];omega
 unfold z9u zfc;rw[hb];cases bet p.kind 1 5&&bet p.railway 0 15 with
 |false=>rfl
 |true=>
  rw[if_neg (by simp)];by_cases h:p.kind=3
  .have :(decide (0<=p.other)&&decide (p.other<16))=bet p.other 0 15:=by rw[w3g];simp[bet];omega
   rw[if_neg (by simp[h]),this];simp[h]
  .have h2 :(p.kind==3)=false:=by simpa using h
   rw[if_pos (by simp[h]),h2];rfl
theorem y00(n:Int)(e:Edge):((((((decide ((min2 (min2 (min2 (e.a) (e.b)) (e.railway)) (e.km))<0)||decide (n<=(max2 (e.a) (e.b))))||(e.a==e.b))||decide (16<=e.railway))||decide (e.minutes<1))||decide (100000<e.minutes))||decide (10000<e.km)) = !zfb n e:=by
 have hm:∀x y z:Int,z<=max2 x y↔z<=x\/z<=y:=by intro x y z;unfold max2;split<;>omega
 have hok:zfb n e=true↔((((((0<=e.a/\e.a<=n-1)/\0<=e.b/\e.b<=n-1)/\¬e.a=e.b)/\0<=e.railway/\e.railway<=15)/\1<=e.minutes/\e.minutes<=100000)/\0<=e.km/\e.km<=10000):=by simp only[zfb,w02,z6m,bne_iff_ne,ne_eq]
 rw[w3g,w0t,<- w3s,hok];simp only[w0w,decide_eq_true_eq,yau,hm,beq_iff_eq];omega
theorem y6i(x:z02):(decide (512<(x.places.length:Int))||decide (2048<(x.edges.length:Int))) =(decide (512<x.places.length)||decide (2048<x.edges.length)):=by congr 1<;>(apply decide_eq_decide.2;omega)
theorem ze0(φ:Nat)(hφ:5000<φ)(x:z02):z7h φ x=some (za4 x,()):=by
 unfold z7h za4;rw[y6i];cases h:decide (512<x.places.length)||decide (2048<x.edges.length) with
 |true=>rfl
 |false=>
  simp only[w17,decide_eq_false_iff_not,Nat.not_lt] at h;rw[if_neg (by simp),zwu (λn i=>z3n φ n (x.places.length:Int) x.places (x.places.length:Int) i x) (z1v φ φ (x.places.length:Int) x.edges (x.edges.length:Int) 0) (some (1,())) x.places (λt=>!zfc t) ?_ ?_ φ (by omega)]
  .rw[zwu (λn i=>z1v φ n (x.places.length:Int) x.edges (x.edges.length:Int) i) (some (0,())) (some (1,())) x.edges (λt=>!zfb x.places.length t) ?_ ?_ φ (by omega)]
   .simp only[List.any_eq_not_all_not,Bool.not_not];cases x.places.all zfc<;>cases x.edges.all (zfb x.places.length)<;>rfl
   .intro n i hi;rw[z1v,if_pos (by simp;omega),z6 ⟨by omega,by omega⟩,y00,W_id (by omega) (by omega)];cases zfb x.places.length (gt x.edges i)<;>rfl
   .intro n;rw[z1v,if_neg (by simp)]
  .intro n i hi;rw[z3n,if_pos (by simp;omega),z6 ⟨by omega,by omega⟩,zkd,w04,W_id (by omega) (by omega)];cases zfc (gt x.places i)<;>rfl
  .intro n;rw[z3n,if_neg (by simp)]
theorem zl8{x:z02}(h:za4 x=0):x.places.length<=512/\x.edges.length<=2048/\(∀p∈x.places,zfc p=true)/\∀e∈x.edges,zfb x.places.length e=true:=by
 unfold za4 at h;cases h1:decide (512<x.places.length)||decide (2048<x.edges.length) with
 |true=>rw[h1] at h;cases h
 |false=>
  rw[h1] at h;cases h2:x.places.all zfc&&x.edges.all (zfb x.places.length) with
  |false=>rw[h2] at h;cases h
  |true=>simp only[w17,decide_eq_false_iff_not,Nat.not_lt] at h1;simp only[w02,w08] at h2;exact⟨h1.1,h1.2,h2⟩
def y2c:Int->List Int->Bool
 |_,[]=>true
 |p,h::t=>decide (p<h)&&decide (h<=745654)&&y2c h t
def zoi(s:Span):Bool:=decide (0<=s.from_)&&decide (s.from_<=s.to)&&decide (s.to<=1440)
def zv2(c:z8g):Bool:=((List.range 7).all λi=>zoi (c.open_ i))&&y2c (-1) c.holidays
theorem y9d(φ:Nat)(c:z8g):∀(n i:Nat)(p:Int),-1<=p->(i:Int)<=p+1->p<=745654->i<=c.holidays.length->745656<=(n:Int)+p->z2i φ n p c.holidays (c.holidays.length:Int) i=some (bif y2c p (c.holidays.drop i) then 0 else 1,()):=by
 intro n
 induction n with
 |zero=>intro i p _ _ _ _ _;omega
 |succ n ih=>
  intro i p hp hip hp2 hi hn;by_cases h:i=c.holidays.length
  .rw[h,z2i,if_neg (by simp),List.drop_length];rfl
  .rw[z2i,if_pos (by simp;omega),z6 ⟨by omega,by omega⟩,y9w _ _ (by omega)];by_cases hb:gt c.holidays i<=p\/745654<gt c.holidays i
   .have :(decide (p<gt c.holidays i)&&decide (gt c.holidays i<=745654))=false:=by simp;omega
    rw[if_pos (by simpa using hb)];simp[y2c,this]
   .have h2 :(decide (p<gt c.holidays i)&&decide (gt c.holidays i<=745654))=true:=by simp;omega
    rw[if_neg (by simpa using hb),W_id (by omega) (by omega)];have:=ih (i+1) (gt c.holidays i) (by omega) (by omega) (by omega) (by omega) (by omega);rw[show ((i+1:Nat):Int) =(i:Int)+1 by omega] at this;rw[this];simp[y2c,h2]
theorem zp7(s:Span):((decide (s.from_<0)||decide (s.to<s.from_))||decide (1440<s.to)) = !zoi s:=by
 rw[w3g];simp[zoi]
 try omega
theorem zhv(φ:Nat)(hφ:800000<φ)(c:z8g):z8h φ c=some (bif zv2 c then 0 else 1,()):=by
 unfold z8h;refine z0d (λn i(_:Unit)=>z31 φ n c.open_ i c) 7 (λi _=>((List.range i).all λj=>zoi (c.open_ j))=true) (λo=>o=some (bif zv2 c then 0 else 1,())) ?_ ?_ φ () (by simp) (by omega)
 .intro n i _ hi h hs;rw[z31,if_pos (by simp;omega),z6 ⟨by omega,by omega⟩,w1q,zp7,W_id (by omega) (by omega)];cases ho:zoi (c.open_ i) with
  |true=>rw[if_neg (by simp)];exact hs () (by rw[zg1,h,ho];rfl)
  |false=>
   have:zv2 c=false:=by
    unfold zv2;have :((List.range 7).all λj=>zoi (c.open_ j))=false:=by rw[List.all_eq_false];exact⟨i,by simp;omega,by simp[ho]⟩
    rw[this];rfl
   rw[if_pos (by simp),this];rfl
 .intro n _ h;rw[z31,if_neg (by simp)];unfold zv2;rw[h,w2h];have:=y9d φ c φ 0 (-1) (by omega) (by omega) (by omega) (by omega) (by omega);simpa using this
theorem zie{α ρ:Type}[Inhabited α](L:Nat->Bool->Int->Option ρ)(k:Bool->Option ρ)(l:List α)(p:α->Bool)
  (step:∀(n i:Nat)(s:Bool),i<l.length->L (n+1) s i=L n (s||p (gt l i)) ((i:Int)+1)) (done:∀n s,L (n+1) s l.length=k s) (n:Nat) (s:Bool) (hn:l.length<n):L n s 0=k (s||l.any p):=by
 refine z0d (λn i t=>L n t i) l.length (λi t=>t =(s||(l.take i).any p)) (λo=>o=k (s||l.any p)) ?_ ?_ n s (by simp) hn
 .intro n i t hi ht hs;rw[step n i t hi];exact hs _ (by rw[zgm _ _ _ hi,ht,Bool.or_assoc])
 .intro n t ht;rw[w1v] at ht;rw[done,ht]
def zl2(n:Int)(r:zgk):Bool:=(((!bet r.place 0 (n-1))||decide (r.low<(-1000)))||decide (r.high<r.low))||decide (1000<r.high)
def zht(x:z02)(s:zcs):Bool:=(!bet s.place 0 ((x.places.length:Int)-1))||((gt x.places s.place).kind !=4)
def zu5(r:z4s):Bool:=!zv2 r.calendar||!yb1 r.key
def zl1(x:Pool):Bool:=
 ((((((x.railways.length:Int)==0)||x.readers.any (zl2 x.network.places.length))||x.shippers.any (zht x.network))||x.fleet.wagons.any (λw=>decide ((x.network.places.length:Int)<=w.home)))||
 x.network.places.any (λp=>decide ((x.railways.length:Int)<=p.railway)||decide ((x.railways.length:Int)<=p.other)))||x.network.edges.any (λe=>decide ((x.railways.length:Int)<=e.railway))||x.railways.any zu5
def zhu(x:Pool):Bool:=(decide (256<(x.readers.length:Int))||decide (256<(x.shippers.length:Int)))||decide (16<(x.railways.length:Int))
def z7z(x:Pool):Int:=if za4 x.network≠0 then za4 x.network else if z1m x.fleet≠0 then z1m x.fleet else bif zhu x then 2 else bif zl1 x then 1 else 0
theorem zbo(φ:Nat)(hφ:800000<φ)(x:Pool):z1f φ x=some (z7z x,()):=by
 unfold z1f z7z;rw[ze0 _ (by omega),w04];by_cases hn:za4 x.network=0
 case neg=>rw[if_pos (by simp[hn]),if_pos hn]
 rw[if_neg (by simp[hn]),if_neg (λe:za4 x.network≠0=>e hn),zc2 _ (by omega),w04];by_cases hf:z1m x.fleet=0
 case neg=>rw[if_pos (by simp[hf]),if_pos hf]
 rw[if_neg (by simp[hf]),if_neg (λe:z1m x.fleet≠0=>e hf)];cases hb:zhu x with
 |true=>have e :(((decide (256<(x.readers.length:Int))||decide (256<(x.shippers.length:Int)))||decide (16<(x.railways.length:Int))))=zhu x:=rfl;rw[e,hb];rfl
 |false=>
  have hb':¬(((decide (256<(x.readers.length:Int))||decide (256<(x.shippers.length:Int)))||decide (16<(x.railways.length:Int)))=true):=by rw[show (((decide (256<(x.readers.length:Int))||decide (256<(x.shippers.length:Int)))||decide (16<(x.railways.length:Int))))=zhu x from rfl,hb];simp
  rw[if_neg hb'];simp only[w0w,decide_eq_true_eq,not_or] at hb';obtain⟨n1,n2,_,_⟩:=zl8 hn;obtain⟨f1,f2,_⟩:=z5e hf;have hp:W ((x.network.places.length:Int)-1) =(x.network.places.length:Int)-1:=W_id (by omega) (by omega);have a1:=zie (λn s i=>z1u φ n x.network.places (x.railways.length:Int) s x.readers (x.readers.length:Int) i x) (λs=>z10 φ φ x.network.places (x.railways.length:Int) s x.shippers (x.shippers.length:Int) 0 x) x.readers (zl2 x.network.places.length) (λn i s hi=>by
   rw[z1u,if_pos (by simp;omega),z6 ⟨by omega,by omega⟩,hp,W_id (by omega) (by omega)];unfold zl2;cases s with
   |true=>rw[gz_f (by simp)];rfl
   |false=>rw[gz_t rfl];rfl) (λn s=>by rw[z1u,if_neg (by simp)]) φ ((x.railways.length:Int)==0) (by omega)
  refine a1.trans ?_;have a2:=λs0=>zie (λn s i=>z10 φ n x.network.places (x.railways.length:Int) s x.shippers (x.shippers.length:Int) i x) (λs=>z11 φ φ x.network.places (x.railways.length:Int) s x.fleet.wagons (x.fleet.wagons.length:Int) 0 x) x.shippers (zht x.network) (λn i s hi=>by
   rw[z10,if_pos (by simp;omega),z6 ⟨by omega,by omega⟩,hp,W_id (by omega) (by omega)];unfold zht;cases s with
   |true=>rw[gz_f (by simp),w04,z6 (by simp)];rfl
   |false=>
    rw[gz_t rfl,z1l,w04];cases hbt:bet (gt x.shippers i).place 0 ((x.network.places.length:Int)-1) with
    |true=>rw[z6 (λ_=>by have:=zl4 hbt;omega)];rfl
    |false=>rw[z6 (by simp)];rfl) (λn s=>by rw[z10,if_neg (by simp)]) φ s0 (by omega)
  refine(a2 _).trans ?_;have a3:=λs0=>zie (λn s i=>z11 φ n x.network.places (x.railways.length:Int) s x.fleet.wagons (x.fleet.wagons.length:Int) i x) (λs=>z12 φ φ (x.railways.length:Int) s x.network.places (x.network.places.length:Int) 0 x) x.fleet.wagons (λw=>decide ((x.network.places.length:Int)<=w.home)) (λn i s hi=>by rw[z11,if_pos (by simp;omega),z6 ⟨by omega,by omega⟩,W_id (by omega) (by omega)]) (λn s=>by rw[z11,if_neg (by simp)]) φ s0 (by omega)
  refine(a3 _).trans ?_;have a4:=λs0=>zie (λn s i=>z12 φ n (x.railways.length:Int) s x.network.places (x.network.places.length:Int) i x) (λs=>z13 φ φ (x.railways.length:Int) s x.network.edges (x.network.edges.length:Int) 0 x) x.network.places (λp=>decide ((x.railways.length:Int)<=p.railway)||decide ((x.railways.length:Int)<=p.other)) (λn i s hi=>by rw[z12,if_pos (by simp;omega),z6 ⟨by omega,by omega⟩,W_id (by omega) (by omega),Bool.or_assoc]) (λn s=>by rw[z12,if_neg (by simp)]) φ s0 (by omega)
  refine(a4 _).trans ?_;have a5:=λs0=>zie (λn s i=>z13 φ n (x.railways.length:Int) s x.network.edges (x.network.edges.length:Int) i x) (λs=>z14 φ φ s x.railways (x.railways.length:Int) 0) x.network.edges (λe=>decide ((x.railways.length:Int)<=e.railway)) (λn i s hi=>by rw[z13,if_pos (by simp;omega),z6 ⟨by omega,by omega⟩,W_id (by omega) (by omega)]) (λn s=>by rw[z13,if_neg (by simp)]) φ s0 (by omega)
  refine(a5 _).trans ?_;have a6:=λs0=>zie (λn s i=>z14 φ n s x.railways (x.railways.length:Int) i) (λs=>if s=true then some (1,()) else some (0,())) x.railways zu5 (λn i s hi=>by
   rw[z14,if_pos (by simp;omega),z6 ⟨by omega,by omega⟩,W_id (by omega) (by omega)];unfold zu5;cases s with
   |true=>rw[gz_f (by simp),w04,gz_f (by simp)];rfl
   |false=>
    rw[gz_t rfl,zhv _ hφ,w04];cases zv2 (gt x.railways i).calendar with
    |false=>rw[gz_f (by simp)];rfl
    |true=>rw[gz_t (by simp),zr4 _ (by omega)];rfl) (λn s=>by rw[z14,if_neg (by simp)]) φ s0 (by omega)
  refine(a6 _).trans ?_;show (if zl1 x=true then some ((1:Int),()) else some (0,()))=_;cases zl1 x<;>rfl
theorem zxy{p:Pool}(h:z7z p=0):za4 p.network=0/\z1m p.fleet=0/\p.readers.length<=256/\p.shippers.length<=256/\p.railways.length<=16/\zl1 p=false:=by
 unfold z7z at h;by_cases hn:za4 p.network=0
 case neg=>rw[if_pos hn] at h;exact absurd h hn
 rw[if_neg (λe:za4 p.network≠0=>e hn)] at h;by_cases hf:z1m p.fleet=0
 case neg=>rw[if_pos hf] at h;exact absurd h hf
 rw[if_neg (λe:z1m p.fleet≠0=>e hf)] at h;cases hb:zhu p with
 |true=>rw[hb] at h;cases h
 |false=>
  rw[hb] at h;cases hd:zl1 p with
  |true=>rw[hd] at h;cases h
  |false=>simp only[zhu,w17,decide_eq_false_iff_not] at hb;exact⟨hn,hf,by omega,by omega,by omega,rfl⟩
end Px
end
section
namespace Px
open Go
set_option maxRecDepth 100000
inductive Walk (E:List Swap) (a:Nat):List Nat->Nat->Int->Prop
 |nil:Walk E a [] a 0
 |step {vs:List Nat} {x:Int} {s:Swap} : Walk E a vs s.wanted.toNat x->s∈E->Walk E a (s.wanted.toNat::vs) s.given.toNat (x+s.cost)
def EOk(n:Nat)(E:List Swap):Prop:=∀s∈E,0<=s.wanted/\s.wanted<n/\0<=s.given/\s.given<n/\0<=s.cost/\s.cost<=1000000000
theorem Walk.lt{E:List Swap}{a n:Nat}(hE:EOk n E)(ha:a<n){vs:List Nat}{v:Nat}{x:Int}(h:Walk E a vs v x):v<n/\(∀u∈vs,u<n)/\0<=x:=by
 induction h with
 |nil=>exact⟨ha,by simp,by omega⟩
 |step h hs ih=>
  have:=hE _ hs;refine⟨by omega,?_,by omega⟩;intro u hu;rcases w0c.1 hu with h|h
  .omega
  .exact ih.2.1 u h
theorem Walk.cut{E:List Swap}{a n:Nat}(hE:EOk n E){vs:List Nat}{u:Nat}{x:Int}(h:Walk E a vs u x)(hnd :(u::vs).Nodup):
  ∀v∈u::vs,∃vs' x',Walk E a vs' v x'/\x'<=x/\(v::vs').Nodup:=by
 induction h with
 |nil=>
  intro v hv;have:v=a:=by simpa using hv
  subst this;exact⟨[],0,.nil,by omega,by simp⟩
 | @step vs x s h hs ih=>
  intro v hv;have hc:=hE _ hs;rcases w0c.1 hv with e|e
  .subst e;exact⟨_,_,.step h hs,w1g _,hnd⟩
  .obtain⟨vs',x',h1,h2,h3⟩:=ih (w1s.1 hnd).2 v e;exact⟨vs',x',h1,by omega,h3⟩
theorem Walk.simple{E:List Swap}{a n:Nat}(hE:EOk n E){vs:List Nat}{v:Nat}{x:Int}(h:Walk E a vs v x):∃vs' x',Walk E a vs' v x'/\x'<=x/\(v::vs').Nodup:=by
 induction h with
 |nil=>exact⟨[],0,.nil,by omega,by simp⟩
 | @step vs x s h hs ih=>
  obtain⟨vs',x',h1,h2,h3⟩:=ih;have hc:=hE _ hs;by_cases hm:s.given.toNat∈s.wanted.toNat::vs'
  .obtain⟨vs2,x2,k1,k2,k3⟩:=h1.cut hE h3 _ hm;exact⟨vs2,x2,k1,by omega,k3⟩
  .exact⟨_,_,.step h1 hs,by omega,w1s.2 ⟨hm,h3⟩⟩
theorem zt5:∀(n:Nat)(l:List Nat),l.Nodup->(∀x∈l,x<n)->l.length<=n
 |0,l,_,h=>by
  cases l with
  |nil=>simp
  |cons x l=>have:=h x (by simp);omega
 |n+1,l,hd,h=>by
  have h1:=zt5 n (l.erase n) (hd.erase n) (λx hx=>by have:=(List.Nodup.mem_erase_iff hd).1 hx;have:=h x this.2;omega);have:l.length<=(l.erase n).length+1:=by
   by_cases hm:n∈l
   .rw[List.length_erase_of_mem hm];omega
   .rw[List.erase_of_not_mem hm];omega
  omega
theorem Walk.short{E:List Swap}{a n:Nat}(hE:EOk n E)(ha:a<n){vs:List Nat}{v:Nat}{x:Int}(h:Walk E a vs v x):∃vs' x',Walk E a vs' v x'/\x'<=x/\vs'.length+1<=n:=by
 obtain⟨vs',x',h1,h2,h3⟩:=h.simple hE;obtain⟨g1,g2,_⟩:=h1.lt hE ha;refine⟨vs',x',h1,h2,?_⟩;have:=zt5 n (v::vs') h3 (λy hy=>by
  rcases w0c.1 hy with e|e
  .omega
  .exact g2 y e)
 simpa using this
def z6q(c:Nat->Int)(s:Swap):Bool:=decide (0<=c s.wanted.toNat)&&(decide (c s.given.toNat<0)||decide (c s.wanted.toNat+s.cost<c s.given.toNat))
def relax(c:Nat->Int)(s:Swap):Nat->Int:=bif z6q c s then upd c s.given.toNat (c s.wanted.toNat+s.cost) else c
def Down(c d:Nat->Int):Prop:=∀v,0<=c v->0<=d v/\d v<=c v
theorem Down.refl(c:Nat->Int):Down c c:=λv h=>⟨h,w1g _⟩
theorem Down.trans{c d e:Nat->Int}(h:Down c d)(g:Down d e):Down c e:=λv hv=>⟨(g v (h v hv).1).1,w56 (g v (h v hv).1).2 (h v hv).2⟩
theorem zna{α:Type}(f:Nat->α)(k:Nat)(x:α)(j:Nat):upd f k x j=if j=k then x else f j:=rfl
theorem zoq{c:Nat->Int}{s:Swap}(hs:0<=s.cost):Down c (relax c s):=by
 intro v hv;unfold relax;cases hb:z6q c s with
 |false=>exact⟨hv,w1g _⟩
 |true=>
  simp only[z6q,w02,w0w,decide_eq_true_eq] at hb;simp only[cond_true,zna];split
  .rename_i e;subst e;omega
  .exact⟨hv,w1g _⟩
theorem y7g{c:Nat->Int}{s:Swap}(hs:0<=s.cost)(hw:0<=c s.wanted.toNat):0<=relax c s s.given.toNat/\relax c s s.given.toNat<=c s.wanted.toNat+s.cost:=by
 unfold relax;cases hb:z6q c s with
 |false=>simp only[z6q,w4e,w17,decide_eq_false_iff_not] at hb;simp only[cond_false];omega
 |true=>simp only[cond_true,zna,if_true];omega
theorem zmz{c:Nat->Int}{s:Swap}(h:z6q c s=false):relax c s=c:=by unfold relax;rw[h];rfl
def zjj(E:List Swap)(c:Nat->Int):Nat->Int:=E.foldl relax c
theorem zly{n:Nat}: ∀{E:List Swap},EOk n E->∀c,Down c (E.foldl relax c)
 | [],_,c=>Down.refl c
 |s::E,h,c=>(zoq (h s (by simp)).2.2.2.2.1).trans (zly (λt ht=>h t (w09 _ ht)) _)
theorem y0d{n:Nat}: ∀{E:List Swap},EOk n E->∀c,∀s∈E,0<=c s.wanted.toNat->0<=E.foldl relax c s.given.toNat/\E.foldl relax c s.given.toNat<=c s.wanted.toNat+s.cost
 | [],_,c,s,hs,_=>by simp at hs
 |t::E,h,c,s,hs,hw=>by
  have ht:=(h t (by simp)).2.2.2.2.1;have hE:EOk n E:=λt ht=>h t (w09 _ ht)
  rcases w0c.1 hs with e|e
  .subst e;have h1:=y7g ht hw;have h2:=zly hE (relax c s) _ h1.1;exact⟨h2.1,by simp only[w23];omega⟩
  .have h1:=zoq ht (c:=c) _ hw;have h2:=y0d hE (relax c t) s e h1.1;exact⟨h2.1,by simp only[w23];omega⟩
def zz9(E:List Swap)(a:Nat)(c:Nat->Int):Prop:=∀v,0<=c v->∃vs,Walk E a vs v (c v)
theorem zvb{E:List Swap}{a:Nat}{c:Nat->Int}{s:Swap}(hs:s∈E)(h:zz9 E a c):zz9 E a (relax c s):=by
 intro v hv;unfold relax at hv⊢;cases hb:z6q c s with
 |false=>rw[hb] at hv;exact h v hv
 |true=>
  rw[hb] at hv;simp only[z6q,w02,w0w,decide_eq_true_eq] at hb;simp only[cond_true,zna] at hv⊢;split
  .rename_i e;subst e;obtain⟨vs,hw⟩:=h _ hb.1;exact⟨_,.step hw hs⟩
  .rename_i e;rw[if_neg e] at hv;exact h v hv
theorem zoa{E:List Swap}{a:Nat}: ∀{F:List Swap},(∀s∈F,s∈E)->∀c,zz9 E a c->zz9 E a (F.foldl relax c)
 | [],_,c,h=>h
 |s::F,hF,c,h=>zoa (λt ht=>hF t (w09 _ ht)) _ (zvb (hF s (by simp)) h)
def cRw(E:List Swap)(a:Nat):Nat->Nat->Int
 |0=>λj=>if j=a then 0 else-1
 |r+1=>zjj E (cRw E a r)
theorem zrv(E:List Swap)(a:Nat):∀r,zz9 E a (cRw E a r)
 |0=>by
  intro v hv;simp only[cRw] at hv⊢;split
  .rename_i e;subst e;exact⟨[],.nil⟩
  .rename_i e;rw[if_neg e] at hv;omega
 |r+1=>zoa (λs h=>h) _ (zrv E a r)
theorem y4h{E:List Swap}{n:Nat}(hE:EOk n E)(a:Nat)(r:Nat):Down (cRw E a r) (cRw E a (r+1)):=zly hE _
theorem zru{E:List Swap}{n:Nat}(hE:EOk n E)(a:Nat):∀(r:Nat){vs:List Nat}{v:Nat}{x:Int},Walk E a vs v x->vs.length<=r->0<=cRw E a r v/\cRw E a r v<=x:=by
 intro r
 induction r with
 |zero=>
  intro vs v x h hl;cases h with
  |nil=>simp[cRw]
  |step=>simp at hl
 |succ r ih=>
  intro vs v x h hl;by_cases hr:vs.length<=r
  .have h1:=ih h hr;have h2:=y4h hE a r v h1.1;exact⟨h2.1,by omega⟩
  .cases h with
   |nil=>simp at hr
   |step h hs=>have h1:=ih h (by simpa using hl);have h2:=y0d hE (cRw E a r) _ hs h1.1;exact⟨h2.1,by simp only[cRw,zjj];omega⟩
def zbx(E:List Swap)(n a:Nat):Nat->Int:=cRw E a n
theorem zu8(E:List Swap)(n a:Nat){v:Nat}(h:0<=zbx E n a v):∃vs,Walk E a vs v (zbx E n a v):=zrv E a n v h
theorem zng{E:List Swap}{n a:Nat}(hE:EOk n E)(ha:a<n){vs:List Nat}{v:Nat}{x:Int}(h:Walk E a vs v x):0<=zbx E n a v/\zbx E n a v<=x:=by obtain⟨vs',x',h1,h2,h3⟩:=h.short hE ha;have:=zru hE a n h1 (by omega);exact⟨this.1,w56 this.2 h2⟩
theorem zzr{E:List Swap}{n a:Nat}(hE:EOk n E)(ha:a<n){s:Swap}(hs:s∈E)(h:0<=zbx E n a s.wanted.toNat):0<=zbx E n a s.given.toNat/\zbx E n a s.given.toNat<=zbx E n a s.wanted.toNat+s.cost:=by obtain⟨vs,hw⟩:=zu8 E n a h;exact zng hE ha (.step hw hs)
theorem zu9{E:List Swap}{n a:Nat}(hE:EOk n E)(ha:a<n):∀s∈E,z6q (zbx E n a) s=false:=by
 intro s hs;cases hb:z6q (zbx E n a) s with
 |false=>rfl
 |true=>simp only[z6q,w02,w0w,decide_eq_true_eq] at hb;have:=zzr hE ha hs hb.1;omega
theorem zfn:∀{E:List Swap}{c:Nat->Int},(∀s∈E,z6q c s=false)->E.foldl relax c=c
 | [],c,_=>rfl
 |s::E,c,h=>by rw[w23,zmz (h s (by simp))];exact zfn λt ht=>h t (w09 _ ht)
theorem zrw{E:List Swap}{a r:Nat}(h:∀s∈E,z6q (cRw E a r) s=false):∀k,cRw E a (r+k)=cRw E a r
 |0=>rfl
 |k+1=>by show zjj E (cRw E a (r+k))=_;rw[zrw h k];exact zfn h
def BdC(B:Int)(c:Nat->Int):Prop:=∀v,-1<=c v/\c v<=B
theorem y7f{n:Nat}{E:List Swap}(hE:EOk n E){s:Swap}(hs:s∈E){B:Int}{c:Nat->Int}(h:BdC B c):BdC (B+1000000000) (relax c s):=by
 intro v;have h1:=h v;have h2:=h s.wanted.toNat;have h3:=hE s hs;unfold relax;cases hb:z6q c s with
 |false=>simp only[cond_false];omega
 |true=>simp only[z6q,w02,w0w,decide_eq_true_eq] at hb;simp only[cond_true,zna];split<;>omega
theorem zuk{n:Nat}{E:List Swap}(hE:EOk n E):∀{F:List Swap},(∀s∈F,s∈E)->∀{B:Int}{c:Nat->Int},BdC B c->BdC (B+1000000000*F.length) (F.foldl relax c)
 | [],_,B,c,h=>by simpa using h
 |s::F,hF,B,c,h=>by have:=zuk hE (F:=F) (λt ht=>hF t (w09 _ ht)) (y7f hE (hF s (by simp)) h);rw[w23];intro v;have:=this v;simp only[w12];omega
theorem zvy{n:Nat}{E:List Swap}(hE:EOk n E)(hl:E.length<=1024)(a:Nat):∀r:Nat,BdC (1024000000000*r) (cRw E a r)
 |0=>by intro v;simp only[cRw];split<;>omega
 |r+1=>by have:=zuk hE (F:=E) (λs h=>h) (zvy hE hl a r);intro v;have:=this v;simp only[cRw,zjj];omega
end Px
end
section
namespace Px
open Go
set_option maxRecDepth 100000
def zil(a:Int)(T:Nat)(c:Nat->Int):List Swap:=(List.range T).filterMap λi=>if 0<=c i then some ⟨a,i,c i⟩ else none
theorem zoj(a:Int)(i:Nat)(c:Nat->Int):zil a (i+1) c=if 0<=c i then zil a i c++[⟨a,i,c i⟩] else zil a i c:=by
 unfold zil;rw[w1l,List.filterMap_append];by_cases h:0<=c i
 .simp[h]
 .simp[h]
theorem zt8(a:Int)(T:Nat)(c:Nat->Int):(zil a T c).length<=T:=by have:=List.length_filterMap_le (λi=>if 0<=c i then some (⟨a,i,c i⟩:Swap) else none) (List.range T);simpa[zil] using this
theorem yck{n:Nat}(h:n<=100000):fits n 24:=by unfold fits;omega
def z9g(x:z4r)(a:Int):List Swap×Int×Unit:=
 if z1m x≠0 then([],z1m x,()) else if ¬(0<=a/\a<x.types.length) then([],90,()) else
 (zil a x.types.length (zbx x.swaps x.types.length a.toNat),0,())
theorem y81{x:z4r}(h:z1m x=0):EOk x.types.length x.swaps:=by intro s hs;obtain⟨a1,a2,a3,a4,b1,b2,b3,b4⟩:=z5e h;have:=b3 s hs;simp only[zmq,w02,z6m] at this;omega
def ze3(p:Bool×(Nat->Int))(s:Swap):Bool×(Nat->Int):=(p.1||z6q p.2 s,relax p.2 s)
theorem zmw:∀(E:List Swap)(p:Bool×(Nat->Int)),(E.foldl ze3 p).2=E.foldl relax p.2
 | [],p=>rfl
 |s::E,p=>by rw[w23,w23,zmw E];rfl
theorem zmv:∀(E:List Swap)(p:Bool×(Nat->Int)),(E.foldl ze3 p).1=false->p.1=false/\∀s∈E,z6q p.2 s=false
 | [],p,h=>⟨h,by simp⟩
 |s::E,p,h=>by
  rw[w23] at h;obtain⟨h1,h2⟩:=zmv E _ h;simp only[ze3,w17] at h1;rw[show (ze3 p s).2=p.2 from zmz h1.2] at h2;refine⟨h1.1,λt ht=>?_⟩;rcases w0c.1 ht with e|e
  .rw[e];exact h1.2
  .exact h2 t e
theorem zmx:∀(E:List Swap)(p:Bool×(Nat->Int)),(∀s∈E,z6q p.2 s=false)->(E.foldl ze3 p).1=p.1
 | [],p,h=>rfl
 |s::E,p,h=>by
  rw[w23];have h1:=h s (by simp);have e:ze3 p s=p:=by obtain⟨b,c⟩:=p;simp only[ze3];rw[zmz h1,h1,Bool.or_false]
  rw[e];exact zmx E p λt ht=>h t (w09 _ ht)
theorem zkc{α β:Type}[Inhabited α](f:β->α->β)(b:β)(l:List α)(i:Nat)(h:i<l.length):(l.take (i+1)).foldl f b=f ((l.take i).foldl f b) (gt l (i:Int)):=by rw[z30 l i h,w3j];rfl
theorem zm0(φ:Nat)(x:z4r)(a0:Int)(hE:EOk x.types.length x.swaps)(hT:x.types.length<=32)(hl:x.swaps.length<=1024)(k:Int->Bool->z4r->(Nat->Int)->Option (List Swap×Int×Unit))(r:Option (List Swap×Int×Unit)){B:Int}(hB0:0<=B)(hB:B<=1000000000000000)(c:Nat->Int)(hc:BdC B c)(d:Nat->Int)(hd:∀j<32,d j=c j)
  (hk:∀d',(∀j<32,d' j=zjj x.swaps c j)->k a0 (x.swaps.foldl ze3 (false,c)).1 x d'=r) (n:Nat) (hn:x.swaps.length<n):z2c φ k n a0 false x.swaps (x.swaps.length:Int) 0 x d=r:=by
 refine z0d (λn i(t:Bool×(Nat->Int))=>z2c φ k n a0 t.1 x.swaps (x.swaps.length:Int) i x t.2) x.swaps.length
  (λi t=>t.1 =((x.swaps.take i).foldl ze3 (false,c)).1/\∀j<32,t.2 j =((x.swaps.take i).foldl ze3 (false,c)).2 j) (λo=>o=r) ?_ ?_ n (false,d) ⟨by simp,by simpa using hd⟩ hn
 .intro n i t hi ⟨h1,h2⟩ hs;have hW:W ((i:Int)+1) =(i:Int)+1:=W_id (by omega) (by omega);have hm:=z8t (l:=x.swaps) (i:=(i:Int)) (by omega) (by omega);have he:=hE _ hm;have hbd:BdC (B+1000000000*(x.swaps.take i).length) ((x.swaps.take i).foldl ze3 (false,c)).2:=by rw[zmw];exact zuk hE (λs hs=>List.mem_of_mem_take hs) hc
  have hlen :(x.swaps.take i).length<=1024:=by rw[w1u];omega
  rw[z2c,if_pos (by simp;omega),z6 ⟨by omega,by omega⟩,z6 ⟨by omega,by omega⟩,z6 ⟨by omega,by omega⟩,z6 (λ_=>⟨by omega,by omega⟩),z6 (λ_=>⟨by omega,by omega⟩)];have hstep:=zkc ze3 (false,c) x.swaps i hi;generalize hp :(x.swaps.take i).foldl ze3 (false,c)=p at *;have ew:=h2 (gt x.swaps i).wanted.toNat (by omega);have eg:=h2 (gt x.swaps i).given.toNat (by omega);have bw:=hbd (gt x.swaps i).wanted.toNat;rw[ew,eg,W_id (x:=p.2 (gt x.swaps i).wanted.toNat+(gt x.swaps i).cost) (by omega) (by omega)];have hbe :(decide (0<=p.2 (gt x.swaps i).wanted.toNat)&&(decide (p.2 (gt x.swaps i).given.toNat<0)||decide (p.2 (gt x.swaps i).wanted.toNat+(gt x.swaps i).cost<p.2 (gt x.swaps i).given.toNat)))=z6q p.2 (gt x.swaps i):=rfl;rw[hbe];cases hb:z6q p.2 (gt x.swaps i) with
  |true=>
   rw[if_pos rfl,z6 ⟨by omega,by omega⟩,hW];refine hs (true,upd t.2 (gt x.swaps i).given.toNat (p.2 (gt x.swaps i).wanted.toNat+(gt x.swaps i).cost)) ⟨by rw[hstep];simp[ze3,hb],λj hj=>?_⟩;rw[hstep];simp only[ze3,relax,hb,cond_true,zna];split
   .rfl
   .exact h2 j hj
  |false=>rw[if_neg (by simp),hW];refine hs (t.1,t.2) ⟨by rw[hstep];simp[ze3,hb,h1],λj hj=>?_⟩;rw[hstep];simp only[ze3,relax,hb,cond_false];exact h2 j hj
 .intro n t ⟨h1,h2⟩;rw[w1v] at h1 h2;rw[z2c,if_neg (by simp),h1];refine hk _ λj hj=>?_
  rw[h2 j hj,zmw];rfl
theorem zsq(φ:Nat)(x:z4r)(hT:x.types.length<=32)(hφ:5000<φ)(a:Int)(c d:Nat->Int)(hd:∀j<32,d j=c j):z2d φ φ a (x.types.length:Int) 0 d []=some (zil a x.types.length c,0,()):=by
 refine z0d (λn i t=>z2d φ n a (x.types.length:Int) i d t) x.types.length (λi t=>t=zil a i c) (λo=>o=some (zil a x.types.length c,0,())) ?_ ?_ φ _ rfl (by omega)
 .intro n i t hi ht hs;have hW:W ((i:Int)+1) =(i:Int)+1:=W_id (by omega) (by omega);have hlen:=zt8 a i c;rw[z2d,if_pos (by simp;omega),z6 ⟨by omega,by omega⟩,w1q,hd i (by omega)];by_cases h:0<=c i
  .rw[if_pos (by simpa using h),z6 ⟨by omega,by omega⟩,z6 (yck (by rw[ht];simp;omega)),hW];exact hs _ (by rw[zoj,if_pos h,ht])
  .rw[if_neg (by simpa using h),hW];exact hs _ (by rw[zoj,if_neg h,ht])
 .intro n t ht;rw[z2d,if_neg (by simp),ht]
theorem zy3(φ:Nat)(x:z4r)(hE:EOk x.types.length x.swaps)(hT:x.types.length<=32)(hl:x.swaps.length<=1024)(a:Nat)(ha:a<x.types.length)(hφ:5000<φ):
  ∀(m n i:Nat),x.types.length-i=m->i<=x.types.length->m+2<=n->∀d,(∀j<32,d j=cRw x.swaps a i j)->z2b φ n (a:Int) true x d=some (zil (a:Int) x.types.length (zbx x.swaps x.types.length a),0,()):=by
 intro m
 induction m with
 |zero=>
  intro n i hm hi hn d hd;obtain⟨n,rfl⟩:∃n',n=n'+2:=⟨n-2,by omega⟩;have hi:i=x.types.length:=by omega
  subst hi;rw[z2b,if_pos rfl];have hst:=zu9 hE ha;have hb:=zvy hE hl a x.types.length;refine zm0 φ x a hE hT hl _ _ (by omega) (by omega) _ hb d hd (λd' hd'=>?_) φ (by omega);rw[zmx _ _ hst,z2b,if_neg (by simp)];refine zsq φ x hT hφ a _ d' λj hj=>?_
  rw[hd' j hj];show zjj x.swaps (zbx x.swaps x.types.length a) j=_;unfold zjj;rw[zfn hst]
 |succ m ih=>
  intro n i hm hi hn d hd;obtain⟨n,rfl⟩:∃n',n=n'+2:=⟨n-2,by omega⟩;rw[z2b,if_pos rfl];have hb:=zvy hE hl a i;refine zm0 φ x a hE hT hl _ _ (by omega) (by omega) _ hb d hd (λd' hd'=>?_) φ (by omega);cases hch :(x.swaps.foldl ze3 (false,cRw x.swaps a i)).1 with
  |true=>exact ih (n+1) (i+1) (by omega) (by omega) (by omega) d' hd'
  |false=>
   rw[z2b,if_neg (by simp)];refine zsq φ x hT hφ a _ d' λj hj=>?_
   have hst:=(zmv _ _ hch).2;have h1:=zrw hst (x.types.length-i);rw[show i+(x.types.length-i)=x.types.length by omega] at h1;rw[hd' j hj];unfold zjj zbx;rw[zfn hst,h1]
theorem zno(φ:Nat)(hφ:5000<φ)(x:z4r)(a:Int):zda φ x a=some (z9g x a):=by
 unfold zda z9g;rw[zc2 φ hφ,w04];by_cases h:z1m x=0
 .obtain⟨a1,a2,a3,a4,b1,b2,b3,b4⟩:=z5e h;rw[if_neg (by simp[h]),if_neg (λe:z1m x≠0=>e h),W_id (by omega) (by omega),z1l,w04];by_cases hi:0<=a/\a<x.types.length
  .rw[if_neg (by simp[bet];omega),if_neg (λe:¬(0<=a/\a<(x.types.length:Int))=>e hi)];refine z0d (λn i t=>z52 φ n a i x t) 32 (λi t=>∀j<i,t j=-1) (λo=>o=some (zil a x.types.length (zbx x.swaps x.types.length a.toNat),0,())) ?_ ?_ φ _ (by intro j hj;omega) (by omega)
   .intro n i t hi2 ht hs;rw[z52,if_pos (by simp;omega),z6 ⟨by omega,by omega⟩,W_id (by omega) (by omega)];refine hs _ λj hj=>?_
    rw[zna];split
    .rfl
    .rename_i e;rw[w1q] at e;exact ht j (by omega)
   .intro n t ht;rw[z52,if_neg (by simp),z6 ⟨by omega,by omega⟩];have ea:a =((a.toNat:Nat):Int):=by omega
    have hl:=zy3 φ x (y81 h) a1 a3 a.toNat (by omega) hφ x.types.length φ 0 (by omega) (by omega) (by omega) (upd t a.toNat 0) (λj hj=>by
     rw[zna];simp only[cRw];split
     .rfl
     .exact ht j hj)
    rw[<- ea] at hl;exact hl
  .rw[if_pos (by simp[bet];omega),if_pos (show ¬(0<=a/\a<(x.types.length:Int)) from hi)]
 .rw[if_pos (by simp[h]),if_pos (show z1m x≠0 from h)]
def zhx(x:z4r)(a b:Int):Int×Int×Unit:=
 if z1m x≠0 then(0,z1m x,()) else if ¬((0<=a/\a<=63)/\0<=b/\b<=63) then(0,1,()) else
 match x.washes.find? (λw=>(w.from_==a)&&(w.to==b)) with|some w=>(w.minutes,0,())|none=>(0,0,())
theorem znn(φ:Nat)(hφ:5000<φ)(x:z4r)(a b:Int):zad φ x a b=some (zhx x a b):=by
 unfold zad zhx;rw[zc2 φ hφ,w04];by_cases h:z1m x=0
 .obtain⟨a1,a2,a3,a4,b1,b2,b3,b4⟩:=z5e h;rw[if_neg (by simp[h]),if_neg (λe:z1m x≠0=>e h)];simp only[z1l,w04];by_cases ha:0<=a/\a<=63
  .rw[z6m.2 ha,gz_t (by simp),w04];by_cases hb:0<=b/\b<=63
   .rw[z6m.2 hb,if_neg (by simp),if_neg (λe=>e ⟨ha,hb⟩)];have key:∀(m n i:Nat),x.washes.length-i=m->i<=x.washes.length->m<n->(∀j:Nat,j<i->((gt x.washes (j:Int)).from_==a&&(gt x.washes (j:Int)).to==b)=false)->
      z4c φ n x.washes (x.washes.length:Int) (i:Int) a b x=some (match (x.washes.drop i).find? (λw=>(w.from_==a)&&(w.to==b)) with|some w=>(w.minutes,0,())|none=>(0,0,())):=by
     intro m
     induction m with
     |zero=>intro n i hm hi hn hj;obtain⟨n,rfl⟩:∃n',n=n'+1:=⟨n-1,by omega⟩;rw[z4c,if_neg (by simp;omega),w2w (by omega)];rfl
     |succ m ih=>
      intro n i hm hi hn hj;obtain⟨n,rfl⟩:∃n',n=n'+1:=⟨n-1,by omega⟩;have hi':i<x.washes.length:=by omega
      have e:x.washes.drop i=gt x.washes (i:Int)::x.washes.drop (i+1):=by rw[z4f hi'];exact w3y hi'
      rw[z4c,if_pos (by simp;omega),z6 ⟨by omega,by omega⟩,e,w4h];show (some _).bind _=_;rw[w04];cases hc :((gt x.washes (i:Int)).from_==a&&(gt x.washes (i:Int)).to==b) with
      |true=>rw[if_pos rfl,if_neg (by simp),z6 ⟨by omega,by omega⟩]
      |false=>
       rw[if_neg (by simp),W_id (by omega) (by omega),show (i:Int)+1 =((i+1:Nat):Int) by omega];exact ih n (i+1) (by omega) (by omega) (by omega) λj hj'=>by
        by_cases e:j=i
        .rw[e];exact hc
        .exact hj j (by omega)
    have:=key x.washes.length φ 0 (by omega) (by omega) (by omega) (λj hj=>by omega);rw[w44] at this;exact this
   .have e:bet b 0 63=false:=by rw[<- w3s,z6m];exact hb
    rw[e,if_pos (by simp),if_pos (λh=>hb h.2)]
  .have e:bet a 0 63=false:=by rw[<- w3s,z6m];exact ha
   rw[e,gz_f (by simp),w04,if_pos (by simp),if_pos (λh=>ha h.1)]
 .rw[if_pos (by simp[h]),if_pos (show z1m x≠0 from h)]
theorem zw1(x:z4r)(a b:Int):0<=(zhx x a b).1/\(zhx x a b).1<=100000:=by
 unfold zhx;split
 .simp
 .rename_i h;split
  .simp
  .cases hf:x.washes.find? (λw=>(w.from_==a)&&(w.to==b)) with
   |none=>simp
   |some w=>have hm:=List.mem_of_find?_eq_some hf;obtain⟨a1,a2,a3,a4,b1,b2,b3,b4⟩:=z5e (w47.1 h);obtain⟨j,hj,e⟩:=w2f hm;simp only[z9w,w08,w0l] at b4;have:=b4 j hj;simp only[z6k,zx4,w02,z6m] at this;rw[z4f hj,e] at this;exact⟨this.1.2.1,this.1.2.2⟩
theorem zwn(x:z4r)(a:Int):∀s∈(z9g x a).1,0<=s.cost/\s.cost<=100000000000000:=by
 unfold z9g;split
 .simp
 .rename_i h;split
  .simp
  .intro s hs;simp only[zil,w4o,w0l] at hs;obtain⟨i,hi,e⟩:=hs;obtain⟨a1,a2,a3,a4,b1,b2,b3,b4⟩:=z5e (w47.1 h);have hb:=zvy (y81 (w47.1 h)) a3 a.toNat x.types.length i;split at e
   .rename_i h0;cases e;unfold zbx at h0⊢;exact⟨h0,by simp only;omega⟩
   .cases e
end Px
end
section
namespace Px
open Go
def zhp(φ:Nat):Prop:=∀(x:z02)(a b:Int),∃t e,z3c φ x a b=some (t,e,())/\0<=t/\t<=51200000
def betF(φ:Nat)(x:z02)(a b:Int):Int×Int:=match z3c φ x a b with|some (t,e,_)=>(t,e)|none=>(0,0)
theorem zhp.eq{φ:Nat}(h:zhp φ)(x:z02)(a b:Int):z3c φ x a b=some ((betF φ x a b).1,(betF φ x a b).2,())/\0<=(betF φ x a b).1/\(betF φ x a b).1<=51200000:=by obtain⟨t,e,h1,h2,h3⟩:=h x a b;unfold betF;rw[h1];exact⟨rfl,h2,h3⟩
def bitF(p:Pool)(s:zb)(o:zk):Bool:=(U ((BitVec.ofInt 64 (((gt p.fleet.types s.type_).classes:Int).fdiv (2 ^ (min (o.class_:Int).toNat 64)))&&& BitVec.ofInt 64 1).toNat):Int)==0
def minF(φ:Nat)(p:Pool)(s:zb)(o:zk):Int:=(betF φ p.network s.place o.place).1+if 0<=s.class_ then(zhx p.fleet s.class_ o.class_).1 else 0
def zea(φ:Nat)(p:Pool)(s:zb)(o:zk):Int×Bool:=
 bif ((betF φ p.network s.place o.place).2 !=0)||bitF p s o then(0,false) else
 match (z9g p.fleet o.type_).1.find? (λg=>g.given==s.type_) with
 |none=>(0,false)
 |some g=>bif decide (o.to<s.at_+minF φ p s o)||decide (1000000000<minF φ p s o+g.cost) then(0,false) else(minF φ p s o+g.cost,true)
theorem y1q{φ:Nat}(h:zhp φ)(p:Pool)(s:zb)(o:zk):(betF φ p.network s.place o.place).1<=minF φ p s o/\0<=minF φ p s o/\minF φ p s o<=60000000:=by obtain⟨_,h1,h2⟩:=h.eq p.network s.place o.place;have h3:=zw1 p.fleet s.class_ o.class_;unfold minF;split<;>omega
theorem zyz{φ:Nat}(p:Pool)(s:zb)(o:zk)(m:Int)(l:List Swap)(hl:l.length<=1000)(hm:0<=m/\m<=60000000)(ha:0<=s.at_/\s.at_<=1073741824)(hb:∀g∈l,0<=g.cost/\g.cost<=100000000000000):
  ∀(d n i:Nat),l.length-i=d->i<=l.length->d<n->z32 φ n l (l.length:Int) (i:Int) m l s o=some (match (l.drop i).find? (λg=>g.given==s.type_) with
   |none=>(0,false,())
   |some g=>bif decide (o.to<s.at_+m)||decide (1000000000<m+g.cost) then(0,false,()) else(m+g.cost,true,())):=by
 have hW2:W (s.at_+m)=s.at_+m:=W_id (by omega) (by omega);intro d
 induction d with
 |zero=>intro n i hm hi hn;obtain⟨n,rfl⟩:∃n',n=n'+1:=⟨n-1,by omega⟩;rw[z32,if_neg (by simp;omega),w2w (by omega),z6 (by simp),if_pos (by simp)];rfl
 |succ d ih=>
  intro n i hm hi hn;obtain⟨n,rfl⟩:∃n',n=n'+1:=⟨n-1,by omega⟩;have hi':i<l.length:=by omega
  have e:l.drop i=gt l (i:Int)::l.drop (i+1):=by rw[z4f hi'];exact w3y hi'
  have hg:=hb (gt l (i:Int)) (z8t (by omega) (by omega));rw[z32,if_pos (by simp;omega),z6 ⟨by omega,by omega⟩,e,w4h];show (some _).bind _=_;rw[w04];simp only;cases hc :((gt l (i:Int)).given==s.type_) with
  |true=>
   have hW3:W (m+(gt l (i:Int)).cost)=m+(gt l (i:Int)).cost:=W_id (by omega) (by omega);rw[if_pos rfl,z6 (λ_=>⟨by omega,by omega⟩),hW2,hW3,z6 ⟨by omega,by omega⟩];simp only;have e0:decide ((i:Int)<0)=false:=by simp
   rw[e0,w21];cases (decide (o.to<s.at_+m)||decide (1000000000<m+(gt l (i:Int)).cost))<;>rfl
  |false=>rw[if_neg (by simp),W_id (by omega) (by omega),show (i:Int)+1 =((i+1:Nat):Int) by omega];exact ih n (i+1) (by omega) (by omega) (by omega)
theorem zsp(x:z4r)(a:Int):(z9g x a).1.length<=1000:=by
 unfold z9g;split
 .simp
 .rename_i h;obtain⟨a1,_⟩:=z5e (w47.1 h);split
  .simp
  .have:=zt8 a x.types.length (zbx x.swaps x.types.length a.toNat)
   simp only;omega
theorem zxk{φ:Nat}(hφ:5000<φ)(hB:zhp φ)(p:Pool)(s:zb)(o:zk)(ht:0<=s.type_/\s.type_<(p.fleet.types.length:Int))(ho:0<=o.class_)(ha:0<=s.at_/\s.at_<=1073741824):
  z1e φ p s o=some ((zea φ p s o).1,(zea φ p s o).2,()):=by
 obtain⟨h1,h2,h3⟩:=hB.eq p.network s.place o.place;have hm:=y1q hB p s o;have hcl:=zw1 p.fleet s.class_ o.class_;have j9:z1k φ (minF φ p s o) p s o=some (match (z9g p.fleet o.type_).1.find? (λg=>g.given==s.type_) with
   |none=>(0,false,())
   |some g=>bif decide (o.to<s.at_+minF φ p s o)||decide (1000000000<minF φ p s o+g.cost) then(0,false,()) else(minF φ p s o+g.cost,true,())):=by
  unfold z1k;rw[zno φ hφ,w04];have:=zyz (φ:=φ) p s o (minF φ p s o) (z9g p.fleet o.type_).1 (zsp _ _) ⟨hm.2.1,hm.2.2⟩ ha (zwn _ _) _ φ 0 rfl (by omega) (by have:=zsp p.fleet o.type_;omega);rw[w44] at this;exact this
 unfold z1e zea;rw[h1,w04,z6 (λ_=>ht),z6 (λ_=>ho)];simp only;show (if(((betF φ p.network s.place o.place).2 !=0)||bitF p s o)=true then _ else _)=_;cases hc :(((betF φ p.network s.place o.place).2 !=0)||bitF p s o) with
 |true=>rfl
 |false=>
  rw[if_neg (by simp),cond_false];have hj :(if(decide ((0:Int)<=s.class_))=true then((zad φ p.fleet s.class_ o.class_).bind λy20=>(z1k φ (W ((betF φ p.network s.place o.place).1+y20.1)) p s o)) else(z1k φ (betF φ p.network s.place o.place).1 p s o))=z1k φ (minF φ p s o) p s o:=by
   unfold minF;by_cases hs:0<=s.class_
   .rw[if_pos (by simpa using hs),znn φ hφ,w04,if_pos hs,W_id (by omega) (by omega)]
   .rw[if_neg (by simpa using hs),if_neg hs,w3o]
  rw[hj,j9];cases (z9g p.fleet o.type_).1.find? (λg=>g.given==s.type_) with
  |none=>rfl
  |some g=>simp only;cases (decide (o.to<s.at_+minF φ p s o)||decide (1000000000<minF φ p s o+g.cost))<;>rfl
theorem y3k{φ:Nat}(hB:zhp φ){p:Pool}{s:zb}{o:zk}(h :(zea φ p s o).2=true):0<=(zea φ p s o).1/\(zea φ p s o).1<=1000000000/\(betF φ p.network s.place o.place).2=0/\(betF φ p.network s.place o.place).1<=(zea φ p s o).1:=by
 have hm:=y1q hB p s o;unfold zea at h⊢;cases hc :(((betF φ p.network s.place o.place).2 !=0)||bitF p s o) with
 |true=>rw[hc] at h;cases h
 |false=>
  rw[hc] at h;simp only[cond_false] at h⊢;cases hf :(z9g p.fleet o.type_).1.find? (λg=>g.given==s.type_) with
  |none=>rw[hf] at h;cases h
  |some g=>
   rw[hf] at h;simp only at h⊢;have hg:=zwn _ _ g (List.mem_of_find?_eq_some hf);cases hd :(decide (o.to<s.at_+minF φ p s o)||decide (1000000000<minF φ p s o+g.cost)) with
   |true=>rw[hd] at h;cases h
   |false=>simp only[w17,decide_eq_false_iff_not,bne_eq_false_iff_eq] at hd hc;simp only[cond_false];exact⟨by omega,by omega,hc.1,by omega⟩
theorem yby{φ:Nat}{p:Pool}{s:zb}{o:zk}(h :(zea φ p s o).2=false):(zea φ p s o).1=0:=by
 unfold zea at h⊢;cases hc :(((betF φ p.network s.place o.place).2 !=0)||bitF p s o) with
 |true=>rfl
 |false=>
  rw[hc] at h;simp only[cond_false] at h⊢;cases hf :(z9g p.fleet o.type_).1.find? (λg=>g.given==s.type_) with
  |none=>rfl
  |some g=>
   rw[hf] at h;simp only at h⊢;cases hd :(decide (o.to<s.at_+minF φ p s o)||decide (1000000000<minF φ p s o+g.cost)) with
   |true=>rfl
   |false=>rw[hd] at h;cases h
theorem zku{p:Pool}(hp:p.fleet.types.length<=32/\p.network.places.length<=512){s:zb}(h:okSu p s=true):(0<=s.type_/\s.type_<(p.fleet.types.length:Int))/\(0<=s.at_/\s.at_<=1073741824)/\1<=s.count/\s.count<=4096:=by unfold okSu at h;rw[W_id (x:=(p.fleet.types.length:Int)-1) (by omega) (by omega),W_id (x:=(p.network.places.length:Int)-1) (by omega) (by omega)] at h;simp only[w02,z6m] at h;obtain⟨⟨⟨⟨a,b⟩,c⟩,d⟩,e⟩:=h;exact⟨⟨a.1,by omega⟩,d,e.1,e.2⟩
theorem zhb{p:Pool}(hp:p.fleet.types.length<=32/\p.network.places.length<=512){o:zk}(h:okOr p o=true):0<=o.class_/\(1<=o.count/\o.count<=1000)/\0<=o.weight/\o.weight<=1000000000:=by unfold okOr at h;simp only[w02,z6m] at h;obtain⟨⟨⟨⟨⟨⟨a,b⟩,c⟩,d⟩,e⟩,f⟩,g⟩:=h;exact⟨b.1,f,g⟩
theorem zfs{p:Pool}(h:z7z p=0):p.fleet.types.length<=32/\p.network.places.length<=512:=by obtain⟨h1,h2,_⟩:=zxy h;exact⟨(z5e h2).1,(zl8 h1).1⟩
theorem y95{φ:Nat}(hφ:800000<φ)(hB:zhp φ){p:Pool}(hp:z7z p=0){s:zb}{o:zk}(hs:okSu p s=true)(ho:okOr p o=true):z8r φ p s o=some ((zea φ p s o).1,(zea φ p s o).2,0,()):=by obtain⟨a,b,c⟩:=zku (zfs hp) hs;obtain⟨d,_⟩:=zhb (zfs hp) ho;unfold z8r;rw[zbo φ hφ,w04,if_neg (by simp[hp]),zck,w04,hs,gz_t (by simp),zdy,w04,ho,if_neg (by simp),zxk (by omega) hB p s o a d b,w04]
end Px
end
section
namespace Px
open Go
def cF(φ:Nat)(p:Pool)(s:List zb)(o:List zk)(i k:Nat):Int:=(zea φ p (gt s (i:Int)) (gt o (k:Int))).1
def bF(φ:Nat)(p:Pool)(s:List zb)(o:List zk)(i k:Nat):Bool:=(zea φ p (gt s (i:Int)) (gt o (k:Int))).2
def netF(φ:Nat)(p:Pool)(s:List zb)(o:List zk):zh:=netN s o (cF φ p s o) (bF φ p s o)
def zv1(p:Pool)(s:List zb)(o:List zk):Bool:=s.all (okSu p)&&o.all (okOr p)
theorem z8q(s:List zb)(o:List zk)(c:Nat->Nat->Int)(b:Nat->Nat->Bool)(hs:s.length<=6)(ho:o.length<=6):(z8 s o c b).length<=49:=by unfold z8 zmu;have:=zki (s:=s) (o:=o) (c:=c) (b:=b) ho s.length;simp only[w0i,w1e,List.length_range,w12,w31];omega
theorem zxr{φ:Nat}(hφ:800000<φ)(hB:zhp φ){p:Pool}(hp:z7z p=0){s:List zb}{o:List zk}(hs:s.length<=6)(ho:o.length<=6)(hsv:s.all (okSu p)=true)(m:Nat)(hm:o.length<m)(hS:0<=sumS s s.length/\sumS s s.length<=100000):
  z1b φ m s o (sumS s s.length) 0 o (o.length:Int) 0 p (s.map (·.count)) []=some (bif o.all (okOr p) then(netF φ p s o,0,()) else(⟨[],[]⟩,1,())):=by
 have hpl:=zfs hp;have:=z8u (λm i(st:Int×List Int)=>z1b φ m s o (sumS s s.length) st.1 o (o.length:Int) i p st.2 []) (λst=>some (netF φ p s o,0,())) (some (⟨[],[]⟩,1,())) o (okOr p)
  (λst y=>(st.1+y.count,st.2++[- y.count])) (λi st=>(i=o.length->o.all (okOr p)=true)/\st.1=sumC o i/\0<=st.1/\st.1<=1000*(i:Int)/\st.2=s.map (·.count)++(o.take i).map (λy=>- y.count)/\∀j:Nat,j<i->okOr p (gt o (j:Int))=true) ?_ ?_ m (0,s.map (·.count)) ⟨λh=>by have:o = []:=w13 h.symm;rw[this];rfl,rfl,by simp,by simp,by simp,λj hj=>by omega⟩ hm
 .rw[this.1];cases o.all (okOr p)<;>rfl
 .rintro m i ⟨c,l⟩ hi ⟨_,h1,h2,h3,h4,h5⟩;simp only at h1 h2 h3 h4 h5;have hW:W ((i:Int)+1) =(i:Int)+1:=W_id (by omega) (by omega);have hlen:l.length<=12:=by rw[h4];simp only[w0i,w1e,w1u];omega
  show z1b φ (m+1) s o (sumS s s.length) c o (o.length:Int) (i:Int) p l []=_/\_;rw[z1b,if_pos (by simp;omega),z6 ⟨by omega,by omega⟩,zdy,w04,hW];cases hok:okOr p (gt o (i:Int)) with
  |false=>exact⟨by simp,λh=>by cases h⟩
  |true=>
   obtain⟨b1,b2,b3⟩:=zhb hpl hok;have hW2:W (0-(gt o (i:Int)).count)=-(gt o (i:Int)).count:=by rw[w57];exact W_id (by omega) (by omega)
   have hW3:W (c+(gt o (i:Int)).count)=c+(gt o (i:Int)).count:=W_id (by omega) (by omega);have hall:∀j:Nat,j<i+1->okOr p (gt o (j:Int))=true:=λj hj=>by
    by_cases e:j=i
    .rw[e];exact hok
    .exact h5 j (by omega)
   rw[if_neg (by simp),z6 (by simp[fits];omega),hW2,hW3];refine⟨rfl,λ_=>⟨λh=>?_,by rw[h1];rfl,by omega,by push_cast;omega,?_,hall⟩⟩
   .rw[w08];intro x hx;obtain⟨j,hj,e⟩:=w2f hx;rw[<- e,<- z4f hj];exact hall j (by omega)
   .rw[h4,z30 o i hi,w2b,<- w0q];rfl
 .rintro m ⟨c,l⟩ ⟨h0,h1,h2,h3,h4,h5⟩;simp only at h1 h2 h3 h4 h5;rw[w1v] at h4;have hlen:l.length<=12:=by rw[h4];simp only[w0i,w1e];omega
  have hW2:W (0-sumS s s.length)=- sumS s s.length:=by rw[w57];exact W_id (by omega) (by omega)
  have hW3:W ((s.length:Int)+(o.length:Int))=nodU s o:=W_id (by omega) (by omega);show z1b φ (m+1) s o (sumS s s.length) c o (o.length:Int) (o.length:Int) p l []=_;rw[z1b,if_neg (by simp),z6 (by simp[fits];omega),if_neg (by simp only[w0i,w12,w31,decide_eq_true_eq];omega),hW2,hW3];have hu:0<=nodU s o/\nodU s o<=1000:=by unfold nodU;omega
  have hcnt:∀k:Nat,k<o.length->0<=(gt o (k:Int)).count/\(gt o (k:Int)).count<=1000000:=λk hk=>by obtain⟨b1,b2,b3⟩:=zhb hpl (h5 k hk);omega
  have hlp :((List.range s.length).flatMap (arcR s o (cF φ p s o) (bF φ p s o))).length<=500:=by have:=zki (s:=s) (o:=o) (c:=cF φ p s o) (b:=bF φ p s o) ho s.length;omega
  rw[y1u φ (nodU s o) 0 p s o _ (cF φ p s o) (bF φ p s o) (λi k hi hk=>?_) hs ho (by omega) φ (by omega),zye φ (nodU s o) s o _ _ hs ho hcnt hlp hu (by omega) φ (by omega)]
  .unfold z0v;have hal:=z8q s o (cF φ p s o) (bF φ p s o) hs ho;have e :(List.range s.length).flatMap (arcR s o (cF φ p s o) (bF φ p s o))++(List.range o.length).map (arcO (nodU s o) (s.length:Int) o)++(List.range s.length).map (arcS (nodU s o) s)++[⟨nodU s o,nodU s o+1,sumC o o.length,0⟩]=z8 s o (cF φ p s o) (bF φ p s o):=rfl;rw[e,if_neg (by simp only[decide_eq_true_eq];omega),h1,h4];rfl
  .obtain⟨a1,a2,a3⟩:=zku hpl (w08.1 hsv _ (z8t (i:=(i:Int)) (by omega) (by omega)));obtain⟨b1,b2,b3⟩:=zhb hpl (h5 k hk);exact zxk (by omega) hB p _ _ a1 b1 a2
theorem y82{φ:Nat}(hφ:800000<φ)(hB:zhp φ)(p:Pool){s:List zb}{o:List zk}(hs:s.length<=6)(ho:o.length<=6):
  z4t φ p s o=some (if z7z p≠0 then(⟨[],[]⟩,z7z p,()) else bif zv1 p s o then(netF φ p s o,0,()) else(⟨[],[]⟩,1,())):=by
 unfold z4t;rw[zbo φ hφ,w04];by_cases hp:z7z p=0
 case neg=>rw[if_pos (by simpa using hp),if_pos hp]
 rw[if_neg (by simpa using hp),if_neg (λh=>h hp)];have hpl:=zfs hp;have:=z8u (λm i(st:Int×List Int)=>z29 φ m s o st.1 0 s (s.length:Int) i p st.2 []) (λst=>some (bif o.all (okOr p) then(netF φ p s o,0,()) else(⟨[],[]⟩,1,()))) (some (⟨[],[]⟩,1,())) s (okSu p)
  (λst y=>(st.1+y.count,st.2++[y.count])) (λi st=>(i=s.length->s.all (okSu p)=true)/\st.1=sumS s i/\0<=st.1/\st.1<=4096*(i:Int)/\st.2 =(s.take i).map (·.count)/\∀j:Nat,j<i->okSu p (gt s (j:Int))=true) ?_ ?_ φ (0,[]) ⟨λh=>by have:s = []:=w13 h.symm;rw[this];rfl,rfl,by simp,by simp,by simp,λj hj=>by omega⟩ (by omega)
 .rw[this.1];unfold zv1;cases s.all (okSu p)<;>rfl
 .rintro m i ⟨c,l⟩ hi ⟨_,h1,h2,h3,h4,h5⟩;simp only at h1 h2 h3 h4 h5;have hW:W ((i:Int)+1) =(i:Int)+1:=W_id (by omega) (by omega);have hlen:l.length<=12:=by rw[h4];simp only[w1e,w1u];omega
  show z29 φ (m+1) s o c 0 s (s.length:Int) (i:Int) p l []=_/\_;rw[z29,if_pos (by simp;omega),z6 ⟨by omega,by omega⟩,zck,w04,hW];cases hok:okSu p (gt s (i:Int)) with
  |false=>exact⟨by simp,λh=>by cases h⟩
  |true=>
   obtain⟨b1,b2,b3⟩:=zku hpl hok;have hW3:W (c+(gt s (i:Int)).count)=c+(gt s (i:Int)).count:=W_id (by omega) (by omega);have hall:∀j:Nat,j<i+1->okSu p (gt s (j:Int))=true:=λj hj=>by
    by_cases e:j=i
    .rw[e];exact hok
    .exact h5 j (by omega)
   rw[if_neg (by simp),z6 (by simp[fits];omega),hW3];refine⟨rfl,λ_=>⟨λh=>?_,by rw[h1];rfl,by omega,by push_cast;omega,?_,hall⟩⟩
   .rw[w08];intro x hx;obtain⟨j,hj,e⟩:=w2f hx;rw[<- e,<- z4f hj];exact hall j (by omega)
   .rw[h4,z30 s i hi,w2b];rfl
 .rintro m ⟨c,l⟩ ⟨h0,h1,h2,h3,h4,h5⟩;simp only at h1 h2 h3 h4 h5;rw[w1v] at h4;show z29 φ (m+1) s o c 0 s (s.length:Int) (s.length:Int) p l []=_;rw[z29,if_neg (by simp),h1,h4];exact zxr hφ hB hp hs ho (h0 rfl) φ (by omega) ⟨by omega,by omega⟩
structure Val(φ:Nat)(p:Pool)(s:List zb)(o:List zk):Prop where
 hφ:800000<φ
 hB:zhp φ
 hp:z7z p=0
 hs:s.length<=6
 ho:o.length<=6
 su:∀i:Nat,i<s.length->okSu p (gt s (i:Int))=true
 or:∀k:Nat,k<o.length->okOr p (gt o (k:Int))=true
theorem Val.sc{φ:Nat}{p:Pool}{s:List zb}{o:List zk}(h:Val φ p s o){i:Nat}(hi:i<s.length):1<=(gt s (i:Int)).count/\(gt s (i:Int)).count<=4096:=(zku (zfs h.hp) (h.su i hi)).2.2
theorem Val.oc{φ:Nat}{p:Pool}{s:List zb}{o:List zk}(h:Val φ p s o){k:Nat}(hk:k<o.length):(1<=(gt o (k:Int)).count/\(gt o (k:Int)).count<=1000)/\0<=(gt o (k:Int)).weight/\(gt o (k:Int)).weight<=1000000000:=(zhb (zfs h.hp) (h.or k hk)).2
theorem ydz{φ:Nat}(hφ:800000<φ)(hB:zhp φ){p:Pool}{s:List zb}{o:List zk}(hp:z7z p=0)(hs:s.length<=6)(ho:o.length<=6)(h:zv1 p s o=true):Val φ p s o:=by unfold zv1 at h;rw[w02] at h;exact⟨hφ,hB,hp,hs,ho,λi hi=>w08.1 h.1 _ (z8t (by omega) (by omega)),λk hk=>w08.1 h.2 _ (z8t (by omega) (by omega))⟩
theorem Val.all{φ:Nat}{p:Pool}{s:List zb}{o:List zk}(h:Val φ p s o):zv1 p s o=true:=by
 unfold zv1;rw[w02,w08,w08];refine⟨λx hx=>?_,λx hx=>?_⟩
 .obtain⟨j,hj,e⟩:=w2f hx;rw[<- e,<- z4f hj];exact h.su j hj
 .obtain⟨j,hj,e⟩:=w2f hx;rw[<- e,<- z4f hj];exact h.or j hj
theorem Val.net{φ:Nat}{p:Pool}{s:List zb}{o:List zk}(h:Val φ p s o):z4t φ p s o=some (netF φ p s o,0,()):=by rw[y82 h.hφ h.hB p h.hs h.ho,if_neg (λe=>e h.hp),h.all];rfl
theorem zox(f:Nat->Int)(a:Nat):∀b:Nat,sumN (a+b) f=sumN a f+sumN b (λk=>f (a+k))
 |0=>by simp[sumN]
 |b+1=>by show sumN (a+b) f+f (a+b)=_;rw[zox f a b];simp only[sumN];omega
theorem zxl(f:Nat->Int):∀n:Nat,sumN n (λi=>- f i)=- sumN n f
 |0=>rfl
 |n+1=>by simp only[sumN,zxl f n];omega
theorem Val.sumS_bd{φ:Nat}{p:Pool}{s:List zb}{o:List zk}(h:Val φ p s o):0<=sumS s s.length/\sumS s s.length<=24576:=by
 rw[zr8];have:=zdw (m:=s.length) (f:=λi=>(gt s (i:Int)).count) (B:=4096) λi hi=>by have:=h.sc hi;exact⟨by omega,this.2⟩
 have:=h.hs;omega
theorem Val.sumC_bd{φ:Nat}{p:Pool}{s:List zb}{o:List zk}(h:Val φ p s o):0<=sumC o o.length/\sumC o o.length<=6000:=by
 rw[zn4];have:=zdw (m:=o.length) (f:=λi=>(gt o (i:Int)).count) (B:=1000) λi hi=>by have:=h.oc hi;exact⟨by omega,this.1.2⟩
 have:=h.ho;omega
theorem zzf{α:Type}[Inhabited α]{l:List α}{P:α->Bool}(h:∀i:Nat,i<l.length->P (gt l (i:Int))=true):l.all P=true:=by rw[w08];intro x hx;obtain⟨j,hj,e⟩:=w2f hx;rw[<- e,<- z4f hj];exact h j hj
theorem Val.chk{φ:Nat}{p:Pool}{s:List zb}{o:List zk}(h:Val φ p s o):zpd (netF φ p s o)=0:=by
 have hs:=h.hs;have ho:=h.ho;have hS:=h.sumS_bd;have hC:=h.sumC_bd;have hal:=z8q s o (cF φ p s o) (bF φ p s o) hs ho;have hsl :(supN s o).length<=14:=by rw[z6l];omega
 have e0 :(netF φ p s o).supply=supN s o:=rfl;have e1 :(netF φ p s o).arcs=z8 s o (cF φ p s o) (bF φ p s o):=rfl;have h1 :(supN s o).all zt7=true:=by
  refine zzf λv hv=>?_
  rw[z6l] at hv;show zt7 (atN (supN s o) v)=true;unfold zt7;rw[z6m];by_cases g1:v<s.length
  .rw[zp0 g1];have:=h.sc g1;omega
  .by_cases g2:v<s.length+o.length
   .obtain⟨k,rfl⟩:∃k,v=s.length+k:=⟨v-s.length,by omega⟩;rw[zoz (by omega)];have:=h.oc (k:=k) (by omega);omega
   .by_cases g3:v=s.length+o.length
    .rw[g3,ztr];omega
    .rw[show v=s.length+o.length+1 by omega,zts];omega
 have h2 :(z8 s o (cF φ p s o) (bF φ p s o)).all (znt (supN s o).length)=true:=by
  rw[w08];intro a ha;rw[zt6,z6l];rcases zmb ha with⟨i,k,hi,hk,hb,e⟩|⟨k,hk,e⟩|⟨i,hi,e⟩|e
  .have h1:=h.sc hi;have h2:=h.oc hk;have h3:=y3k h.hB hb;rw[e];show (0<=(i:Int)/\(i:Int)<_)/\(0<=(s.length:Int)+(k:Int)/\(s.length:Int)+(k:Int)<_)/\(i:Int)≠(s.length:Int)+(k:Int)/\(0<=min2 (gt s (i:Int)).count (gt o (k:Int)).count/\min2 (gt s (i:Int)).count (gt o (k:Int)).count<=1000000000)/\(0<=cF φ p s o i k/\cF φ p s o i k<=1000000000);have h4:0<=min2 (gt s (i:Int)).count (gt o (k:Int)).count/\min2 (gt s (i:Int)).count (gt o (k:Int)).count<=1000000000:=by unfold min2;split<;>omega
   exact⟨by omega,by omega,by omega,h4,h3.1,h3.2.1⟩
  .have h2:=h.oc hk;rw[e];show (0<=nodU s o/\nodU s o<_)/\(0<=(s.length:Int)+(k:Int)/\(s.length:Int)+(k:Int)<_)/\nodU s o≠(s.length:Int)+(k:Int)/\(0<=(gt o (k:Int)).count/\(gt o (k:Int)).count<=1000000000)/\(0<=(gt o (k:Int)).weight/\(gt o (k:Int)).weight<=1000000000);unfold nodU;omega
  .have h1:=h.sc hi;rw[e];show (0<=(i:Int)/\(i:Int)<_)/\(0<=nodU s o+1/\nodU s o+1<_)/\(i:Int)≠nodU s o+1/\(0<=(gt s (i:Int)).count/\(gt s (i:Int)).count<=1000000000)/\(0<=(0:Int)/\(0:Int)<=1000000000);unfold nodU;omega
  .rw[e];show (0<=nodU s o/\nodU s o<_)/\(0<=nodU s o+1/\nodU s o+1<_)/\nodU s o≠nodU s o+1/\(0<=sumC o o.length/\sumC o o.length<=1000000000)/\(0<=(0:Int)/\(0:Int)<=1000000000);unfold nodU;omega
 have h3:sumL (supN s o)=0:=by rw[y3l,z6l,show s.length+o.length+2=s.length+o.length+1+1 by rfl];simp only[sumN];rw[zox,ztr,zts];rw[ze (n:=s.length) (g:=λi=>(gt s (i:Int)).count) λi hi=>zp0 hi,ze (n:=o.length) (g:=λk=>-(gt o (k:Int)).count) λk hk=>zoz hk,zxl,<- zr8,<- zn4];omega
 unfold zpd;rw[e0,e1,h1,h2,h3];rw[show (decide (256<(supN s o).length)||decide (2048<(z8 s o (cF φ p s o) (bF φ p s o)).length))=false by simp;omega];rfl
theorem Val.fnet{φ:Nat}{p:Pool}{s:List zb}{o:List zk}(h:Val φ p s o):z3h (netF φ p s o):=zh3 h.chk
theorem Val.poss0{φ:Nat}{p:Pool}{s:List zb}{o:List zk}(h:Val φ p s o):Poss s o (bF φ p s o) (λ_ _=>0) where
 pos:=λ_ _ _ _=>w1g _
 no:=λ_ _ _ _ _=>rfl
 row:=λi hi=>by rw[z3z];have:=h.sc hi;omega
 col:=λk hk=>by rw[z3z];have:=h.oc hk;omega
end Px
end
section
namespace Px
open Go
def addX(X:Nat->Nat->Int)(t:z7):Nat->Nat->Int:=λi k=>if i=t.supply.toNat/\k=t.order.toNat then X i k+t.count else X i k
def okT(s:List zb)(o:List zk)(b:Nat->Nat->Bool)(X:Nat->Nat->Int)(t:z7):Bool:=decide (0<=t.supply)&&decide (t.supply<(s.length:Int))&&decide (0<=t.order)&&decide (t.order<(o.length:Int))&&b t.supply.toNat t.order.toNat&&decide (0<=t.count)&&decide (t.count<=z6o s o X t.supply.toNat)&&decide (t.count<=z3x s o X t.order.toNat)
def okL(s:List zb)(o:List zk)(b:Nat->Nat->Bool):(Nat->Nat->Int)->List z7->Bool
 |_,[]=>true
 |X,t::l=>okT s o b X t&&okL s o b (addX X t) l
def zkh(s:List zb)(o:List zk)(c X:Nat->Nat->Int):Int:=sumN s.length λi=>sumN o.length λk=>X i k*c i k
theorem zvr(X:Nat->Nat->Int)(t:z7)(n i:Nat)(h:t.order.toNat<n):(sumN n λk=>addX X t i k) =(sumN n λk=>X i k)+if i=t.supply.toNat then t.count else 0:=by
 by_cases e:i=t.supply.toNat
 .rw[if_pos e];have:=z5b (λ_=>t.count) t.order.toNat n;rw[if_pos h] at this;rw[<- this,<- z7s];refine ze λk hk=>?_
  unfold addX;by_cases e2:k=t.order.toNat
  .rw[if_pos ⟨e,e2⟩,if_pos e2]
  .rw[if_neg (λg=>e2 g.2),if_neg e2,w3o]
 .rw[if_neg e,w3o];exact ze λk hk=>by unfold addX;rw[if_neg (λg=>e g.1)]
theorem zvq(X:Nat->Nat->Int)(t:z7)(n k:Nat)(h:t.supply.toNat<n):(sumN n λi=>addX X t i k) =(sumN n λi=>X i k)+if k=t.order.toNat then t.count else 0:=by
 by_cases e:k=t.order.toNat
 .rw[if_pos e];have:=z5b (λ_=>t.count) t.supply.toNat n;rw[if_pos h] at this;rw[<- this,<- z7s];refine ze λi hi=>?_
  unfold addX;by_cases e2:i=t.supply.toNat
  .rw[if_pos ⟨e2,e⟩,if_pos e2]
  .rw[if_neg (λg=>e2 g.1),if_neg e2,w3o]
 .rw[if_neg e,w3o];exact ze λi hi=>by unfold addX;rw[if_neg (λg=>e g.2)]
theorem zky(s:List zb)(o:List zk)(X:Nat->Nat->Int)(t:z7)(i:Nat)(h:t.order.toNat<o.length):z6o s o (addX X t) i=z6o s o X i-if i=t.supply.toNat then t.count else 0:=by unfold z6o;rw[zvr X t _ i h];omega
theorem zkz(s:List zb)(o:List zk)(X:Nat->Nat->Int)(t:z7)(k:Nat)(h:t.supply.toNat<s.length):z3x s o (addX X t) k=z3x s o X k-if k=t.order.toNat then t.count else 0:=by unfold z3x;rw[zvq X t _ k h];omega
theorem zzd(s:List zb)(o:List zk)(c X:Nat->Nat->Int)(t:z7)(h:t.supply.toNat<s.length)(h2:t.order.toNat<o.length):zkh s o c (addX X t)=zkh s o c X+t.count*c t.supply.toNat t.order.toNat:=by
 unfold zkh;have h1:=z5b (λi=>sumN o.length λk=>if k=t.order.toNat then t.count*c i k else 0) t.supply.toNat s.length;rw[if_pos h] at h1;have h3:=z5b (λk=>t.count*c t.supply.toNat k) t.order.toNat o.length;rw[if_pos h2] at h3;rw[h3] at h1;rw[<- h1,<- z7s];refine ze λi hi=>?_
 by_cases e:i=t.supply.toNat
 .rw[if_pos e,<- z7s];refine ze λk hk=>?_
  unfold addX;by_cases e2:k=t.order.toNat
  .rw[if_pos ⟨e,e2⟩,if_pos e2,w2r]
  .rw[if_neg (λg=>e2 g.2),if_neg e2,w3o]
 .rw[if_neg e,w3o];exact ze λk hk=>by unfold addX;rw[if_neg (λg=>e g.1)]
theorem zij{s:List zb}{o:List zk}{b:Nat->Nat->Bool}{X:Nat->Nat->Int}{t:z7}: okT s o b X t=true↔
  ((0<=t.supply/\t.supply<(s.length:Int))/\0<=t.order/\t.order<(o.length:Int))/\b t.supply.toNat t.order.toNat=true/\0<=t.count/\t.count<=z6o s o X t.supply.toNat/\t.count<=z3x s o X t.order.toNat:=by
 unfold okT;simp only[w02,decide_eq_true_eq];constructor
 .rintro⟨⟨⟨⟨⟨⟨⟨a,b⟩,c⟩,d⟩,e⟩,f⟩,g⟩,h⟩;exact⟨⟨⟨a,b⟩,c,d⟩,e,f,g,h⟩
 .rintro⟨⟨⟨a,b⟩,c,d⟩,e,f,g,h⟩;exact⟨⟨⟨⟨⟨⟨⟨a,b⟩,c⟩,d⟩,e⟩,f⟩,g⟩,h⟩
theorem Poss.add{s:List zb}{o:List zk}{b:Nat->Nat->Bool}{X:Nat->Nat->Int}(h:Poss s o b X){t:z7}(ht:okT s o b X t=true):Poss s o b (addX X t):=by
 obtain⟨⟨⟨a1,a2⟩,a3,a4⟩,a5,a6,a7,a8⟩:=zij.1 ht;refine⟨λi k hi hk=>?_,λi k hi hk hb=>?_,λi hi=>?_,λk hk=>?_⟩
 .unfold addX;have:=h.pos i k hi hk;split<;>omega
 .unfold addX;have:=h.no i k hi hk hb;split
  .rename_i e;rw[e.1,e.2,a5] at hb;cases hb
  .exact this
 .rw[zvr X t _ i (by omega)];have:=h.row i hi;by_cases e:i=t.supply.toNat
  .rw[if_pos e];rw[<- e] at a7;unfold z6o at a7;omega
  .rw[if_neg e];omega
 .rw[zvq X t _ k (by omega)];have:=h.col k hk;by_cases e:k=t.order.toNat
  .rw[if_pos e];rw[<- e] at a8;unfold z3x at a8;omega
  .rw[if_neg e];omega
theorem zx2{s:List zb}{o:List zk}{b:Nat->Nat->Bool}: ∀{l:List z7}{X:Nat->Nat->Int},Poss s o b X->okL s o b X l=true->Poss s o b (l.foldl addX X)
 | [],_,h,_=>h
 |t::l,X,h,hl=>by unfold okL at hl;rw[w02] at hl;exact zx2 (l:=l) (h.add hl.1) hl.2
section
variable{φ:Nat}{p:Pool}{s:List zb}{o:List zk}
theorem Val.xle(h:Val φ p s o){X:Nat->Nat->Int}(hX:Poss s o (bF φ p s o) X){i k:Nat}(hi:i<s.length)(hk:k<o.length):0<=X i k/\X i k<=1000:=by
 have h1:=hX.pos i k hi hk;have h2:=hX.col k hk;have h3:=zn7 (f:=λi=>X i k) (λj hj=>hX.pos j k hj hk) hi;have h4:=h.oc hk;refine⟨h1,?_⟩;have:X i k<=sumN s.length λi=>X i k:=h3
 omega
theorem Val.c_bd(h:Val φ p s o)(i k:Nat):0<=cF φ p s o i k/\cF φ p s o i k<=1000000000:=by
 unfold cF;cases hb :(zea φ p (gt s (i:Int)) (gt o (k:Int))).2 with
 |true=>have:=y3k h.hB hb;exact⟨this.1,this.2.1⟩
 |false=>rw[yby hb];simp
theorem Val.sumXC_bd(h:Val φ p s o){X:Nat->Nat->Int}(hX:Poss s o (bF φ p s o) X):0<=zkh s o (cF φ p s o) X/\zkh s o (cF φ p s o) X<=36000000000000:=by
 have h1:∀i,i<s.length->0<=(sumN o.length λk=>X i k*cF φ p s o i k)/\(sumN o.length λk=>X i k*cF φ p s o i k)<=6000000000000:=λi hi=>by
  have:=zdw (m:=o.length) (f:=λk=>X i k*cF φ p s o i k) (B:=1000000000000) λk hk=>by have h1:=h.xle hX hi hk;have h2:=h.c_bd i k;refine⟨w1i h1.1 h2.1,?_⟩;have:=w39 h1.2 h2.2 h2.1 (by omega :(0:Int)<=1000);simpa using this
  have:=h.ho;omega
 have:=zdw (m:=s.length) (B:=6000000000000) h1;have:=h.hs;unfold zkh;omega
theorem Val.open_bd(h:Val φ p s o){X:Nat->Nat->Int}(hX:Poss s o (bF φ p s o) X){k:Nat}(hk:k<o.length):0<=z3x s o X k/\z3x s o X k<=1000:=by
 have h1:=hX.col k hk;have h2:=h.oc hk;have h3:=z22 (f:=λi=>X i k) (n:=s.length) λi hi=>hX.pos i k hi hk
 unfold z3x;omega
theorem Val.left_bd(h:Val φ p s o){X:Nat->Nat->Int}(hX:Poss s o (bF φ p s o) X){i:Nat}(hi:i<s.length):0<=z6o s o X i/\z6o s o X i<=4096:=by
 have h1:=hX.row i hi;have h2:=h.sc hi;have h3:=z22 (f:=λk=>X i k) (n:=o.length) λk hk=>hX.pos i k hi hk
 unfold z6o;omega
theorem zz2(h:Val φ p s o){X:Nat->Nat->Int}(hX:Poss s o (bF φ p s o) X)(op:List Int)(hol:op.length=o.length)(hov:∀k:Nat,k<o.length->gt op (k:Int)=z3x s o X k)(m:Nat)(hm:o.length<m):
  z1j φ m o (zkh s o (cF φ p s o) X) 0 op=some (zla s o (cF φ p s o) X,true,()):=by
 have hb:=h.sumXC_bd hX;have ho:=h.ho;refine z0d (λm i n=>z1j φ m o n i op) o.length (λi n=>n=zkh s o (cF φ p s o) X+(sumN i λk=>z3x s o X k*(gt o (k:Int)).weight)/\0<=n/\n<=36000000000000+1000000000000*(i:Int)) (λr=>r=some (zla s o (cF φ p s o) X,true,())) ?_ ?_ m _ ⟨by simp[sumN],by omega,by omega⟩ hm
 .rintro m i n hi ⟨h1,h2,h3⟩ hs;have hW:W ((i:Int)+1) =(i:Int)+1:=W_id (by omega) (by omega);have e1:=h.open_bd hX hi;have e2:=h.oc hi;have e3:0<=z3x s o X i*(gt o (i:Int)).weight/\z3x s o X i*(gt o (i:Int)).weight<=1000000000000:=by refine⟨w1i e1.1 e2.2.1,?_⟩;have:=w39 e1.2 e2.2.2 e2.2.1 (by omega :(0:Int)<=1000);simpa using this
  show z1j φ (m+1) o n (i:Int) op=_;rw[z1j,if_pos (by simp;omega),z6 ⟨by omega,by omega⟩,z6 ⟨by omega,by omega⟩,hov i hi,W_id (x:=z3x s o X i*(gt o (i:Int)).weight) (by omega) (by omega),W_id (by omega) (by omega),hW];exact hs _ ⟨by rw[h1];simp only[sumN];omega,by omega,by push_cast;omega⟩
 .rintro m n ⟨h1,h2,h3⟩;show z1j φ (m+1) o n (o.length:Int) op=_;rw[z1j,if_neg (by simp),h1];rfl
theorem y3q(h:Val φ p s o)(l:List z7)(hl:l.length<=100000)(hφ:l.length<φ):∀(d m i:Nat)(X:Nat->Nat->Int)(le op:List Int),l.length-i=d->i<=l.length->d<m->Poss s o (bF φ p s o) X->
  le.length=s.length->(∀j:Nat,j<s.length->gt le (j:Int)=z6o s o X j)->op.length=o.length->(∀k:Nat,k<o.length->gt op (k:Int)=z3x s o X k)->
  z4g φ m s o l (zkh s o (cF φ p s o) X) (i:Int) p le op=some (bif okL s o (bF φ p s o) X (l.drop i) then(zla s o (cF φ p s o) ((l.drop i).foldl addX X),true,()) else(0,false,())):=by
 intro d;have hφ8:=h.hφ;have hol6:=h.ho;have hsl6:=h.hs
 induction d with
 |zero=>intro m i X le op hd hi hm hX h1 h2 h3 h4;obtain⟨m,rfl⟩:∃m',m=m'+1:=⟨m-1,by omega⟩;rw[z4g,if_neg (by simp;omega),w2w (by omega),zz2 h hX op h3 h4 φ (by omega)];rfl
 |succ d ih=>
  intro m i X le op hd hi hm hX h1 h2 h3 h4;obtain⟨m,rfl⟩:∃m',m=m'+1:=⟨m-1,by omega⟩;have hi':i<l.length:=by omega
  have e:l.drop i=gt l (i:Int)::l.drop (i+1):=by rw[z4f hi'];exact w3y hi'
  rw[z4g,if_pos (by simp;omega),z6 ⟨by omega,by omega⟩,e];generalize gt l (i:Int)=t;by_cases hr :(0<=t.supply/\t.supply<(s.length:Int))/\0<=t.order/\t.order<(o.length:Int)
  case neg=>
   have:okT s o (bF φ p s o) X t=false:=by
    cases g:okT s o (bF φ p s o) X t with
    |false=>rfl
    |true=>exact absurd (zij.1 g).1 hr
   rw[if_pos (by simp only[w0w,decide_eq_true_eq];omega)];unfold okL;rw[this];rfl
  obtain⟨⟨r1,r2⟩,r3,r4⟩:=hr;have ei :((t.supply.toNat:Nat):Int)=t.supply:=by omega
  have ek :((t.order.toNat:Nat):Int)=t.order:=by omega
  have hin:t.supply.toNat<s.length:=by omega
  have hkn:t.order.toNat<o.length:=by omega
  have hsu:=h.su t.supply.toNat hin;have hor:=h.or t.order.toNat hkn;have hl1:=h2 t.supply.toNat hin;have hl2:=h4 t.order.toNat hkn;rw[ei] at hsu hl1;rw[ek] at hor hl2;have ec :(zea φ p (gt s t.supply) (gt o t.order)).1=cF φ p s o t.supply.toNat t.order.toNat:=by unfold cF;rw[ei,ek]
  have eb :(zea φ p (gt s t.supply) (gt o t.order)).2=bF φ p s o t.supply.toNat t.order.toNat:=by unfold bF;rw[ei,ek]
  have hcb:=h.c_bd t.supply.toNat t.order.toNat;rw[if_neg (by simp only[w0w,decide_eq_true_eq];omega),z6 ⟨r1,r2⟩,z6 ⟨r3,r4⟩,y95 h.hφ h.hB h.hp hsu hor,w04];simp only;rw[z6 (λ_=>⟨r1,by omega⟩),z6 (λ_=>⟨r3,by omega⟩),ec,eb,hl1,hl2];have hcond :(((((((!bF φ p s o t.supply.toNat t.order.toNat)||((0:Int) !=0))||(decide (cF φ p s o t.supply.toNat t.order.toNat<0)))||(decide ((1000000000:Int)<cF φ p s o t.supply.toNat t.order.toNat)))||(decide (t.count<0)))||(decide (z6o s o X t.supply.toNat<t.count)))||(decide (z3x s o X t.order.toNat<t.count))) = !okT s o (bF φ p s o) X t:=by
   have q1:decide (cF φ p s o t.supply.toNat t.order.toNat<0)=false:=by simp;omega
   have q2:decide ((1000000000:Int)<cF φ p s o t.supply.toNat t.order.toNat)=false:=by simp;omega
   rw[q1,q2];cases g:okT s o (bF φ p s o) X t with
   |true=>obtain⟨_,g2,g3,g4,g5⟩:=zij.1 g;rw[g2];simp;omega
   |false=>
    have hn:¬(bF φ p s o t.supply.toNat t.order.toNat=true/\0<=t.count/\t.count<=z6o s o X t.supply.toNat/\t.count<=z3x s o X t.order.toNat):=λq=>by have:okT s o (bF φ p s o) X t=true:=zij.2 ⟨⟨⟨r1,r2⟩,r3,r4⟩,q⟩;rw[g] at this;cases this
    cases gb:bF φ p s o t.supply.toNat t.order.toNat with
    |false=>rfl
    |true=>
     have:¬(0<=t.count/\t.count<=z6o s o X t.supply.toNat/\t.count<=z3x s o X t.order.toNat):=λq=>hn ⟨gb,q⟩
     simp only[w1o,w21,w2i,w0w,decide_eq_true_eq,bne_self_eq_false];omega
  rw[hcond];unfold okL;cases g:okT s o (bF φ p s o) X t with
  |false=>rfl
  |true=>
   obtain⟨_,g2,g3,g4,g5⟩:=zij.1 g;have hlb:=h.left_bd hX hin;have hob:=h.open_bd hX hkn;have hX':=hX.add g;have hsb:=h.sumXC_bd hX;have hmul:0<=cF φ p s o t.supply.toNat t.order.toNat*t.count/\cF φ p s o t.supply.toNat t.order.toNat*t.count<=1000000000000:=by refine⟨w1i hcb.1 g3,?_⟩;have:=w39 hcb.2 (by omega:t.count<=1000) g3 (by omega :(0:Int)<=1000000000);simpa using this
   rw[if_neg (by simp),z6 ⟨r1,by omega⟩,z6 ⟨r1,by omega⟩,z6 ⟨r3,by omega⟩,z6 ⟨r3,by omega⟩];rw[W_id (x:=cF φ p s o t.supply.toNat t.order.toNat*t.count) (by omega) (by omega),W_id (x:=zkh s o (cF φ p s o) X+_) (by omega) (by omega),W_id (x:=(i:Int)+1) (by omega) (by omega),W_id (x:=z6o s o X t.supply.toNat-t.count) (by omega) (by omega),W_id (x:=z3x s o X t.order.toNat-t.count) (by omega) (by omega)];rw[w29,<- zzd s o (cF φ p s o) X t hin hkn,show (i:Int)+1 =((i+1:Nat):Int) by omega];rw[ih m (i+1) (addX X t) _ _ (by omega) (by omega) (by omega) hX' (by rw[zw];exact h1) (λj hj=>?_) (by rw[zw];exact h3) (λk hk=>?_)]
   .rfl
   .rw[z04 _ _ _ _ r1 (by omega) (by omega),zky s o X t j hkn];by_cases ej:j=t.supply.toNat
    .rw[if_pos (by omega),if_pos ej,ej]
    .rw[if_neg (by omega),if_neg ej,h2 j hj];omega
   .rw[z04 _ _ _ _ r3 (by omega) (by omega),zkz s o X t k hin];by_cases ej:k=t.order.toNat
    .rw[if_pos (by omega),if_pos ej,ej]
    .rw[if_neg (by omega),if_neg ej,h4 k hk];omega
theorem zxm(h:Val φ p s o)(l:List z7)(hl:l.length<=100000):z4v φ p s o l=some (bif okL s o (bF φ p s o) (λ_ _=>0) l then(zla s o (cF φ p s o) (l.foldl addX λ_ _=>0),true,()) else(0,false,())):=by
 have hφ8:=h.hφ;have hol6:=h.ho;have hsl6:=h.hs;have hz:zkh s o (cF φ p s o) (λ_ _=>0)=0:=z08 λi hi=>z08 λk hk=>Int.zero_mul _
 unfold z4v;refine z0d (λm i le=>z2g φ m s o l i p le) s.length (λi le=>le.length=i/\∀j:Nat,j<i->gt le (j:Int) =(gt s (j:Int)).count) (λr=>r=some (bif okL s o (bF φ p s o) (λ_ _=>0) l then(zla s o (cF φ p s o) (l.foldl addX λ_ _=>0),true,()) else(0,false,()))) ?_ ?_ φ [] ⟨rfl,λj hj=>by omega⟩ (by omega)
 .rintro m i le hi ⟨h1,h2⟩ hs;have hW:W ((i:Int)+1) =(i:Int)+1:=W_id (by omega) (by omega);show z2g φ (m+1) s o l (i:Int) p le=_;rw[z2g,if_pos (by simp;omega),z6 ⟨by omega,by omega⟩,z6 (by simp[fits];omega),hW];refine hs _ ⟨by simp[h1],λj hj=>?_⟩;by_cases e:j<i
  .rw[z88 _ _ _ (by omega) (by omega)];exact h2 j e
  .rw[z6t _ _ _ (by omega),show (j:Int)-(le.length:Int)=0 by omega,show j=i by omega];rfl
 .rintro m le ⟨h1,h2⟩;show z2g φ (m+1) s o l (s.length:Int) p le=_;rw[z2g,if_neg (by simp)];refine z0d (λm i op=>z2h φ m s o l i p le op) o.length (λi op=>op.length=i/\∀j:Nat,j<i->gt op (j:Int) =(gt o (j:Int)).count) (λr=>r=some (bif okL s o (bF φ p s o) (λ_ _=>0) l then(zla s o (cF φ p s o) (l.foldl addX λ_ _=>0),true,()) else(0,false,()))) ?_ ?_ φ [] ⟨rfl,λj hj=>by omega⟩ (by omega)
  .rintro m i op hi ⟨h3,h4⟩ hs;have hW:W ((i:Int)+1) =(i:Int)+1:=W_id (by omega) (by omega);show z2h φ (m+1) s o l (i:Int) p le op=_;rw[z2h,if_pos (by simp;omega),z6 ⟨by omega,by omega⟩,z6 (by simp[fits];omega),hW];refine hs _ ⟨by simp[h3],λj hj=>?_⟩;by_cases e:j<i
   .rw[z88 _ _ _ (by omega) (by omega)];exact h4 j e
   .rw[z6t _ _ _ (by omega),show (j:Int)-(op.length:Int)=0 by omega,show j=i by omega];rfl
  .rintro m op ⟨h3,h4⟩;show z2h φ (m+1) s o l (o.length:Int) p le op=_;rw[z2h,if_neg (by simp)];have:=y3q h l hl (by omega) l.length φ 0 (λ_ _=>0) le op (by omega) (by omega) (by omega) h.poss0 h1 (λj hj=>by rw[h2 j hj];unfold z6o;rw[z3z];omega) h3 (λk hk=>by rw[h4 k hk];unfold z3x;rw[z3z];omega);rw[hz,w44] at this;exact this
end
end Px
end
section
namespace Px
open Go
def z4l(s:List zb)(o:List zk)(a:Arc):Bool:=decide (a.from_<(s.length:Int))&&decide (a.to<nodU s o)
def trT(s:List zb)(o:List zk)(arcs:List Arc)(y:Nat->Int)(j:Nat):List z7:=bif z4l s o (gt arcs (j:Int))&&decide (0<y j) then [⟨(gt arcs (j:Int)).from_,(gt arcs (j:Int)).to-(s.length:Int),y j⟩] else []
def trsI(s:List zb)(o:List zk)(arcs:List Arc)(y:Nat->Int)(i:Nat):List z7:=(List.range i).flatMap (trT s o arcs y)
theorem zcp(s:List zb)(o:List zk)(arcs:List Arc)(y:Nat->Int)(i:Nat):trsI s o arcs y (i+1)=trsI s o arcs y i++trT s o arcs y i:=by unfold trsI;rw[w1l,w1t];simp
theorem zfx{s:List zb}{o:List zk}{arcs:List Arc}{y z:Nat->Int}: ∀{i:Nat},(∀j,j<i->y j=z j)->trsI s o arcs y i=trsI s o arcs z i
 |0,_=>rfl
 |i+1,h=>by rw[zcp,zcp,zfx (i:=i) λj hj=>h j (by omega)];unfold trT;rw[h i (by omega)]
def XY(s:List zb)(o:List zk)(arcs:List Arc)(y:Nat->Int)(n:Nat)(i k:Nat):Int:=sumN n λj=>if z4l s o (gt arcs (j:Int))=true/\(gt arcs (j:Int)).from_ =(i:Int)/\(gt arcs (j:Int)).to =(s.length:Int)+(k:Int) then y j else 0
theorem zfh{n k0:Nat}(P:Nat->Prop)[DecidablePred P](x:Int)(hk:k0<n)(h:∀k,k<n->(P k↔k=k0)):(sumN n λk=>if P k then x else 0)=x:=by
 have:=z5b (λ_=>x) k0 n;rw[if_pos hk] at this;refine(ze λk hk'=>?_).trans this;by_cases e:k=k0
 .rw[if_pos ((h k hk').2 e),if_pos e]
 .rw[if_neg (λg=>e ((h k hk').1 g)),if_neg e]
section
variable{s:List zb}{o:List zk}{c:Nat->Nat->Int}{b:Nat->Nat->Bool}
theorem zhd(i k:Nat)(hi:i<s.length)(hk:k<o.length):z4l s o (arcQ s o c i k)=true:=by show (decide ((i:Int)<(s.length:Int))&&decide ((s.length:Int)+(k:Int)<nodU s o))=true;unfold nodU;simp;omega
theorem zmt(k:Nat):z4l s o (arcO (nodU s o) (s.length:Int) o k)=false:=by show (decide (nodU s o<(s.length:Int))&&_)=false;rw[show decide (nodU s o<(s.length:Int))=false by unfold nodU;simp;omega];rfl
theorem zol(i:Nat):z4l s o (arcS (nodU s o) s i)=false:=by show (_&&decide (nodU s o+1<nodU s o))=false;rw[show decide (nodU s o+1<nodU s o)=false by simp;omega,Bool.and_false]
theorem zx9:z4l s o ⟨nodU s o,nodU s o+1,sumC o o.length,0⟩=false:=by show (_&&decide (nodU s o+1<nodU s o))=false;rw[show decide (nodU s o+1<nodU s o)=false by simp;omega,Bool.and_false]
theorem z6d{j:Nat}(hj:j<(z8 s o c b).length):(∃i k,i<s.length/\k<o.length/\b i k=true/\gt (z8 s o c b) (j:Int)=arcQ s o c i k)\/(∃k,k<o.length/\gt (z8 s o c b) (j:Int)=arcO (nodU s o) (s.length:Int) o k)\/(∃i,i<s.length/\gt (z8 s o c b) (j:Int)=arcS (nodU s o) s i)\/gt (z8 s o c b) (j:Int) =⟨nodU s o,nodU s o+1,sumC o o.length,0⟩:=zmb (z8t (by omega) (by omega))
theorem zct{j:Nat}(hj:j<(z8 s o c b).length)(h:z4l s o (gt (z8 s o c b) (j:Int))=true):∃i k,i<s.length/\k<o.length/\b i k=true/\gt (z8 s o c b) (j:Int)=arcQ s o c i k:=by
 rcases z6d hj with h1|⟨k,hk,e⟩|⟨i,hi,e⟩|e
 .exact h1
 .rw[e,zmt] at h;cases h
 .rw[e,zol] at h;cases h
 .rw[e,zx9] at h;cases h
theorem zq9(y:Nat->Int)(hy:∀j,j<(z8 s o c b).length->0<=y j):∀n:Nat,n<=(z8 s o c b).length->(trsI s o (z8 s o c b) y n).foldl addX (λ_ _=>0)=XY s o (z8 s o c b) y n
 |0,_=>rfl
 |n+1,hn=>by
  rw[zcp,w3j,zq9 y hy n (by omega)];have hy0:=hy n (by omega);funext i k;show _=XY s o (z8 s o c b) y n i k+if _ then y n else 0
  unfold trT;cases hp:z4l s o (gt (z8 s o c b) (n:Int)) with
  |false=>rw[if_neg (λg=>by cases g.1)];show XY s o (z8 s o c b) y n i k=_;omega
  |true=>
   obtain⟨i0,k0,hi0,hk0,hb,e⟩:=zct (by omega) hp;by_cases h0:0<y n
   .have hd:decide (0<y n)=true:=by simpa using h0
    rw[hd];show addX (XY s o (z8 s o c b) y n) ⟨(gt (z8 s o c b) (n:Int)).from_,(gt (z8 s o c b) (n:Int)).to-(s.length:Int),y n⟩ i k=_;unfold addX;rw[e];show (if i =((i0:Int)).toNat/\k =((s.length:Int)+(k0:Int)-(s.length:Int)).toNat then _ else _)=_+if true=true/\(i0:Int) =(i:Int)/\(s.length:Int)+(k0:Int) =(s.length:Int)+(k:Int) then y n else 0
    by_cases g:i=i0/\k=k0
    .rw[if_pos (by omega),if_pos ⟨rfl,by omega,by omega⟩]
    .rw[if_neg (by omega),if_neg (by omega)];omega
   .have hd:decide (0<y n)=false:=by simpa using h0
    rw[hd];show XY s o (z8 s o c b) y n i k=_;have:y n=0:=by omega
    rw[this];split<;>omega
theorem yc5(y:Nat->Int)(i:Nat):∀n,n<=(z8 s o c b).length->(sumN o.length λk=>XY s o (z8 s o c b) y n i k)=sumN n λj=>if z4l s o (gt (z8 s o c b) (j:Int))=true/\(gt (z8 s o c b) (j:Int)).from_ =(i:Int) then y j else 0:=by
 intro n hn;unfold XY;rw[z7u];refine ze λj hj=>?_
 by_cases hp:z4l s o (gt (z8 s o c b) (j:Int))=true
 .obtain⟨i0,k0,hi0,hk0,hb,e⟩:=zct (by omega) hp;by_cases hi :(gt (z8 s o c b) (j:Int)).from_ =(i:Int)
  .rw[if_pos ⟨hp,hi⟩];refine zfh _ _ hk0 λk hk=>?_
   rw[e];constructor
   .rintro⟨_,_,g⟩;have g :(s.length:Int)+(k0:Int) =(s.length:Int)+(k:Int):=g;omega
   .rintro rfl;rw[e] at hp hi;exact⟨hp,hi,rfl⟩
  .rw[if_neg (λg=>hi g.2)];exact z08 λk hk=>if_neg λg=>hi g.2.1
 .rw[if_neg (λg=>hp g.1)];exact z08 λk hk=>if_neg λg=>hp g.1
theorem y83(y:Nat->Int)(k:Nat):∀n,n<=(z8 s o c b).length->(sumN s.length λi=>XY s o (z8 s o c b) y n i k)=sumN n λj=>if z4l s o (gt (z8 s o c b) (j:Int))=true/\(gt (z8 s o c b) (j:Int)).to =(s.length:Int)+(k:Int) then y j else 0:=by
 intro n hn;unfold XY;rw[z7u];refine ze λj hj=>?_
 by_cases hp:z4l s o (gt (z8 s o c b) (j:Int))=true
 .obtain⟨i0,k0,hi0,hk0,hb,e⟩:=zct (by omega) hp;by_cases hi :(gt (z8 s o c b) (j:Int)).to =(s.length:Int)+(k:Int)
  .rw[if_pos ⟨hp,hi⟩];refine zfh _ _ hi0 λi hi'=>?_
   rw[e];constructor
   .rintro⟨_,g,_⟩;have g :(i0:Int) =(i:Int):=g;omega
   .rintro rfl;rw[e] at hp hi;exact⟨hp,rfl,hi⟩
  .rw[if_neg (λg=>hi g.2)];exact z08 λk hk=>if_neg λg=>hi g.2.2
 .rw[if_neg (λg=>hp g.1)];exact z08 λk hk=>if_neg λg=>hp g.1
theorem y0z{P Q:Prop}[Decidable P][Decidable Q]{x:Int}(hx:0<=x)(h:P->Q):(if P then x else 0)<=if Q then x else 0:=by
 by_cases hp:P
 .rw[if_pos hp,if_pos (h hp)];omega
 .rw[if_neg hp];split<;>omega
theorem y5r{y:Nat->Int}(hf :(nwOf (netN s o c b)).Feas (atN (supN s o)) y){i:Nat}(hi:i<s.length):(sumN (z8 s o c b).length λj=>if(gt (z8 s o c b) (j:Int)).from_ =(i:Int) then y j else 0) =(gt s (i:Int)).count:=by
 have h:=hf.exc i (show i<(supN s o).length by rw[z6l];omega);unfold Nw.exc at h;rw[zp0 hi] at h;have h1 :(nwOf (netN s o c b)).inS y i=0:=z08 λj hj=>if_neg λg=>by
  have g :(gt (z8 s o c b) (j:Int)).to.toNat=i:=g;rcases z6d (s:=s) (o:=o) (c:=c) (b:=b) (j:=j) hj with⟨i1,k1,a1,a2,a3,e⟩|⟨k,hk,e⟩|⟨i1,hi1,e⟩|e
  .rw[e] at g;have g :((s.length:Int)+(k1:Int)).toNat=i:=g;omega
  .rw[e] at g;have g :((s.length:Int)+(k:Int)).toNat=i:=g;omega
  .rw[e] at g;have g :(nodU s o+1).toNat=i:=g;unfold nodU at g;omega
  .rw[e] at g;have g :(nodU s o+1).toNat=i:=g;unfold nodU at g;omega
 have h2 :(nwOf (netN s o c b)).outS y i=sumN (z8 s o c b).length λj=>if(gt (z8 s o c b) (j:Int)).from_ =(i:Int) then y j else 0:=by
  refine ze λj hj=>?_
  have hj:j<(z8 s o c b).length:=hj;show (if(gt (z8 s o c b) (j:Int)).from_.toNat=i then y j else 0)=_;have :(gt (z8 s o c b) (j:Int)).from_.toNat=i↔(gt (z8 s o c b) (j:Int)).from_ =(i:Int):=by
   have hnn:0<=(gt (z8 s o c b) (j:Int)).from_:=by
    rcases z6d hj with⟨i1,k1,a1,a2,a3,e⟩|⟨k,hk,e⟩|⟨i1,hi1,e⟩|e
    .rw[e];show 0<=(i1:Int);omega
    .rw[e];show 0<=nodU s o;unfold nodU;omega
    .rw[e];show 0<=(i1:Int);omega
    .rw[e];show 0<=nodU s o;unfold nodU;omega
   omega
  by_cases g :(gt (z8 s o c b) (j:Int)).from_ =(i:Int)
  .rw[if_pos g,if_pos (this.2 g)]
  .rw[if_neg g,if_neg (λq=>g (this.1 q))]
 rw[h1,h2] at h;omega
theorem y0a{y:Nat->Int}(hf :(nwOf (netN s o c b)).Feas (atN (supN s o)) y){k:Nat}(hk:k<o.length):(sumN (z8 s o c b).length λj=>if(gt (z8 s o c b) (j:Int)).to =(s.length:Int)+(k:Int) then y j else 0) =(gt o (k:Int)).count:=by
 have h:=hf.exc (s.length+k) (show s.length+k<(supN s o).length by rw[z6l];omega);unfold Nw.exc at h;rw[zoz hk] at h;have h1 :(nwOf (netN s o c b)).outS y (s.length+k)=0:=z08 λj hj=>if_neg λg=>by
  have g :(gt (z8 s o c b) (j:Int)).from_.toNat=s.length+k:=g;rcases z6d (s:=s) (o:=o) (c:=c) (b:=b) (j:=j) hj with⟨i1,k1,a1,a2,a3,e⟩|⟨k,hk,e⟩|⟨i1,hi1,e⟩|e
  .rw[e] at g;have g :((i1:Int)).toNat=s.length+k:=g;omega
  .rw[e] at g;have g :(nodU s o).toNat=s.length+_:=g;unfold nodU at g;omega
  .rw[e] at g;have g :((i1:Int)).toNat=s.length+k:=g;omega
  .rw[e] at g;have g :(nodU s o).toNat=s.length+_:=g;unfold nodU at g;omega
 have h2 :(nwOf (netN s o c b)).inS y (s.length+k)=sumN (z8 s o c b).length λj=>if(gt (z8 s o c b) (j:Int)).to =(s.length:Int)+(k:Int) then y j else 0:=by
  refine ze λj hj=>?_
  have hj:j<(z8 s o c b).length:=hj;show (if(gt (z8 s o c b) (j:Int)).to.toNat=s.length+k then y j else 0)=_;have :(gt (z8 s o c b) (j:Int)).to.toNat=s.length+k↔(gt (z8 s o c b) (j:Int)).to =(s.length:Int)+(k:Int):=by
   have hnn:0<=(gt (z8 s o c b) (j:Int)).to:=by
    rcases z6d hj with⟨i1,k1,a1,a2,a3,e⟩|⟨k,hk,e⟩|⟨i1,hi1,e⟩|e
    .rw[e];show 0<=(s.length:Int)+(k1:Int);omega
    .rw[e];show 0<=(s.length:Int)+(k:Int);omega
    .rw[e];show 0<=nodU s o+1;unfold nodU;omega
    .rw[e];show 0<=nodU s o+1;unfold nodU;omega
   omega
  by_cases g :(gt (z8 s o c b) (j:Int)).to =(s.length:Int)+(k:Int)
  .rw[if_pos g,if_pos (this.2 g)]
  .rw[if_neg g,if_neg (λq=>g (this.1 q))]
 rw[h1,h2] at h;omega
theorem zsb{y:Nat->Int}(hf :(nwOf (netN s o c b)).Feas (atN (supN s o)) y):Poss s o b (XY s o (z8 s o c b) y (z8 s o c b).length) where
 pos:=λi k hi hk=>z22 λj hj=>by have:=(hf.bnd j hj).1;split<;>omega
 no:=λi k hi hk hb=>z08 λj hj=>if_neg λg=>by
  obtain⟨i0,k0,hi0,hk0,hb0,e⟩:=zct hj g.1;rw[e] at g;have g1 :(i0:Int) =(i:Int):=g.2.1;have g2 :(s.length:Int)+(k0:Int) =(s.length:Int)+(k:Int):=g.2.2;have:i0=i:=by omega
  have:k0=k:=by omega
  subst i0;subst k0;rw[hb] at hb0;cases hb0
 row:=λi hi=>by rw[yc5 y i _ (w0x _),<- y5r hf hi];exact zdx λj hj=>y0z (hf.bnd j hj).1 λg=>g.2
 col:=λk hk=>by rw[y83 y k _ (w0x _),<- y0a hf hk];exact zdx λj hj=>y0z (hf.bnd j hj).1 λg=>g.2
theorem zsa{y:Nat->Int}(hf :(nwOf (netN s o c b)).Feas (atN (supN s o)) y):zla s o c (XY s o (z8 s o c b) y (z8 s o c b).length) =(nwOf (netN s o c b)).costS y:=by
 unfold zla;have e1 :(sumN s.length λi=>sumN o.length λk=>XY s o (z8 s o c b) y (z8 s o c b).length i k*c i k)=sumN (z8 s o c b).length λj=>if z4l s o (gt (z8 s o c b) (j:Int))=true then y j*(gt (z8 s o c b) (j:Int)).cost else 0:=by
  have h1:∀i k,XY s o (z8 s o c b) y (z8 s o c b).length i k*c i k=sumN (z8 s o c b).length λj=>if z4l s o (gt (z8 s o c b) (j:Int))=true/\(gt (z8 s o c b) (j:Int)).from_ =(i:Int)/\(gt (z8 s o c b) (j:Int)).to =(s.length:Int)+(k:Int) then y j*(gt (z8 s o c b) (j:Int)).cost else 0:=λi k=>by
   unfold XY;rw[w29,<- zhm];refine ze λj hj=>?_
   rw[zkr];by_cases g:z4l s o (gt (z8 s o c b) (j:Int))=true/\(gt (z8 s o c b) (j:Int)).from_ =(i:Int)/\(gt (z8 s o c b) (j:Int)).to =(s.length:Int)+(k:Int)
   .rw[if_pos g,if_pos g];obtain⟨i0,k0,hi0,hk0,hb0,e⟩:=zct hj g.1;rw[e] at g;have g1 :(i0:Int) =(i:Int):=g.2.1;have g2 :(s.length:Int)+(k0:Int) =(s.length:Int)+(k:Int):=g.2.2;have:i0=i:=by omega
    have:k0=k:=by omega
    subst i0;subst k0;rw[e,w29];rfl
   .rw[if_neg g,if_neg g]
  rw[ze λi hi=>ze λk hk=>h1 i k];rw[ze λi hi=>z7u _ _ _,z7u];refine ze λj hj=>?_
  by_cases hp:z4l s o (gt (z8 s o c b) (j:Int))=true
  .obtain⟨i0,k0,hi0,hk0,hb0,e⟩:=zct hj hp;rw[if_pos hp];have:∀i,i<s.length->(sumN o.length λk=>if z4l s o (gt (z8 s o c b) (j:Int))=true/\(gt (z8 s o c b) (j:Int)).from_ =(i:Int)/\(gt (z8 s o c b) (j:Int)).to =(s.length:Int)+(k:Int) then y j*(gt (z8 s o c b) (j:Int)).cost else 0)=if i=i0 then y j*(gt (z8 s o c b) (j:Int)).cost else 0:=λi hi=>by
    by_cases ei:i=i0
    .rw[if_pos ei];refine zfh _ _ hk0 λk hk=>?_
     rw[e];constructor
     .rintro⟨_,_,g⟩;have g :(s.length:Int)+(k0:Int) =(s.length:Int)+(k:Int):=g;omega
     .rintro rfl;rw[e] at hp;exact⟨hp,by rw[ei];rfl,rfl⟩
    .rw[if_neg ei];exact z08 λk hk=>if_neg λg=>by rw[e] at g;have g1 :(i0:Int) =(i:Int):=g.2.1;omega
   rw[ze this];exact zfh _ _ hi0 λi hi=>Iff.rfl
  .rw[if_neg hp];exact z08 λi hi=>z08 λk hk=>if_neg λg=>hp g.1
 have e2:∀k,k<o.length->z3x s o (XY s o (z8 s o c b) y (z8 s o c b).length) k=sumN (z8 s o c b).length λj=>if ¬z4l s o (gt (z8 s o c b) (j:Int))=true/\(gt (z8 s o c b) (j:Int)).to =(s.length:Int)+(k:Int) then y j else 0:=λk hk=>by
  unfold z3x;rw[y83 y k _ (w0x _),<- y0a hf hk,<- z7t];refine ze λj hj=>?_
  by_cases g :(gt (z8 s o c b) (j:Int)).to =(s.length:Int)+(k:Int)
  .by_cases hp:z4l s o (gt (z8 s o c b) (j:Int))=true
   .rw[if_pos g,if_pos ⟨hp,g⟩,if_neg (λq=>q.1 hp)];omega
   .rw[if_pos g,if_neg (λq=>hp q.1),if_pos ⟨hp,g⟩];omega
  .rw[if_neg g,if_neg (λq=>g q.2),if_neg (λq=>g q.2)];rfl
 have e3 :(sumN o.length λk=>z3x s o (XY s o (z8 s o c b) y (z8 s o c b).length) k*(gt o (k:Int)).weight)=sumN (z8 s o c b).length λj=>if ¬z4l s o (gt (z8 s o c b) (j:Int))=true then y j*(gt (z8 s o c b) (j:Int)).cost else 0:=by
  have h1:∀k,k<o.length->z3x s o (XY s o (z8 s o c b) y (z8 s o c b).length) k*(gt o (k:Int)).weight=sumN (z8 s o c b).length λj=>if ¬z4l s o (gt (z8 s o c b) (j:Int))=true/\(gt (z8 s o c b) (j:Int)).to =(s.length:Int)+(k:Int) then y j*(gt (z8 s o c b) (j:Int)).cost else 0:=λk hk=>by
   rw[e2 k hk,w29,<- zhm];refine ze λj hj=>?_
   rw[zkr];by_cases g:¬z4l s o (gt (z8 s o c b) (j:Int))=true/\(gt (z8 s o c b) (j:Int)).to =(s.length:Int)+(k:Int)
   .rw[if_pos g,if_pos g,w29];congr 1;rcases z6d hj with⟨i1,k1,a1,a2,a3,e⟩|⟨k1,hk1,e⟩|⟨i1,hi1,e⟩|e
    .exact absurd (by rw[e];exact zhd i1 k1 a1 a2) g.1
    .rw[e] at g⊢;have g2 :(s.length:Int)+(k1:Int) =(s.length:Int)+(k:Int):=g.2;have:k1=k:=by omega
     subst k1;rfl
    .rw[e] at g;have g2:nodU s o+1 =(s.length:Int)+(k:Int):=g.2;unfold nodU at g2;omega
    .rw[e] at g;have g2:nodU s o+1 =(s.length:Int)+(k:Int):=g.2;unfold nodU at g2;omega
   .rw[if_neg g,if_neg g]
  rw[ze h1,z7u];refine ze λj hj=>?_
  by_cases hp:z4l s o (gt (z8 s o c b) (j:Int))=true
  .rw[if_neg (λg=>g hp)];exact z08 λk hk=>if_neg λg=>g.1 hp
  .rw[if_pos hp];rcases z6d hj with⟨i1,k1,a1,a2,a3,e⟩|⟨k1,hk1,e⟩|⟨i1,hi1,e⟩|e
   .exact absurd (by rw[e];exact zhd i1 k1 a1 a2) hp
   .refine zfh _ _ hk1 λk hk=>?_
    rw[e];constructor
    .rintro⟨_,g⟩;have g :(s.length:Int)+(k1:Int) =(s.length:Int)+(k:Int):=g;omega
    .rintro rfl;rw[e] at hp;exact⟨hp,rfl⟩
   .rw[e];refine(z08 λk hk=>?_).trans (w41 (y j)).symm;split
    .exact w41 _
    .rfl
   .rw[e];refine(z08 λk hk=>?_).trans (w41 (y j)).symm;split
    .exact w41 _
    .rfl
 rw[e1,e3,<- z7s];refine ze λj hj=>?_
 show _=y j*(gt (z8 s o c b) (j:Int)).cost;by_cases hp:z4l s o (gt (z8 s o c b) (j:Int))=true
 .rw[if_pos hp,if_neg (λg=>g hp)];omega
 .rw[if_neg hp,if_pos hp];omega
theorem y0e{l:List z7}: ∀{X:Nat->Nat->Int},(∀t∈l,(0<=t.supply/\t.supply<(s.length:Int))/\(0<=t.order/\t.order<(o.length:Int))/\0<=t.count)->
  (∀i,z6o s o (l.foldl addX X) i<=z6o s o X i)/\∀k,z3x s o (l.foldl addX X) k<=z3x s o X k:=by
 induction l with
 |nil=>intro X _;exact⟨λ_=>w1g _,λ_=>w1g _⟩
 |cons t l ih=>
  intro X h;obtain⟨⟨a1,a2⟩,⟨a3,a4⟩,a5⟩:=h t (by simp);obtain⟨h1,h2⟩:=ih (X:=addX X t) λu hu=>h u (w09 _ hu)
  refine⟨λi=>?_,λk=>?_⟩
  .have:=h1 i
   rw[zky s o X t i (by omega)] at this;show z6o s o (l.foldl addX (addX X t)) i<=_;split at this<;>omega
  .have:=h2 k
   rw[zkz s o X t k (by omega)] at this;show z3x s o (l.foldl addX (addX X t)) k<=_;split at this<;>omega
theorem yd4{l:List z7}: ∀{X:Nat->Nat->Int},(∀t∈l,((0<=t.supply/\t.supply<(s.length:Int))/\(0<=t.order/\t.order<(o.length:Int))/\0<=t.count)/\b t.supply.toNat t.order.toNat=true)->
  (∀i,i<s.length->0<=z6o s o (l.foldl addX X) i)->(∀k,k<o.length->0<=z3x s o (l.foldl addX X) k)->okL s o b X l=true:=by
 induction l with
 |nil=>intro X _ _ _;rfl
 |cons t l ih=>
  intro X h h1 h2;obtain⟨⟨⟨a1,a2⟩,⟨a3,a4⟩,a5⟩,a6⟩:=h t (by simp);obtain⟨g1,g2⟩:=y0e (s:=s) (o:=o) (l:=l) (X:=addX X t) λu hu=>(h u (w09 _ hu)).1
  unfold okL;rw[w02];refine⟨zij.2 ⟨⟨⟨a1,a2⟩,a3,a4⟩,a6,a5,?_,?_⟩,ih (λu hu=>h u (w09 _ hu)) h1 h2⟩
  .have e1:=g1 t.supply.toNat;have e2:0<=z6o s o (l.foldl addX (addX X t)) t.supply.toNat:=h1 t.supply.toNat (by omega);rw[zky s o X t _ (by omega),if_pos rfl] at e1;omega
  .have e1:=g2 t.order.toNat;have e2:0<=z3x s o (l.foldl addX (addX X t)) t.order.toNat:=h2 t.order.toNat (by omega);rw[zkz s o X t _ (by omega),if_pos rfl] at e1;omega
theorem yc0{y:Nat->Int}{n:Nat}(hn:n<=(z8 s o c b).length){t:z7}(ht:t∈trsI s o (z8 s o c b) y n):((0<=t.supply/\t.supply<(s.length:Int))/\(0<=t.order/\t.order<(o.length:Int))/\0<=t.count)/\b t.supply.toNat t.order.toNat=true:=by
 unfold trsI at ht;obtain⟨j,hj,ht⟩:=w1m.1 ht;have hj:=w0l.1 hj;unfold trT at ht;cases hp :(z4l s o (gt (z8 s o c b) (j:Int))&&decide (0<y j)) with
 |false=>rw[hp] at ht;cases ht
 |true=>rw[hp] at ht;have ht:=w0d.1 ht;rw[w02,decide_eq_true_eq] at hp;obtain⟨i0,k0,hi0,hk0,hb0,e⟩:=zct (by omega) hp.1;rw[e] at ht;subst ht;show ((0<=(i0:Int)/\(i0:Int)<(s.length:Int))/\(0<=(s.length:Int)+(k0:Int)-(s.length:Int)/\(s.length:Int)+(k0:Int)-(s.length:Int)<(o.length:Int))/\0<=y j)/\b ((i0:Int)).toNat ((s.length:Int)+(k0:Int)-(s.length:Int)).toNat=true;refine⟨⟨⟨by omega,by omega⟩,⟨by omega,by omega⟩,by omega⟩,?_⟩;rw[show ((i0:Int)).toNat=i0 by omega,show ((s.length:Int)+(k0:Int)-(s.length:Int)).toNat=k0 by omega];exact hb0
theorem y5h{y:Nat->Int}(hf :(nwOf (netN s o c b)).Feas (atN (supN s o)) y):okL s o b (λ_ _=>0) (trsI s o (z8 s o c b) y (z8 s o c b).length)=true:=by
 have hp:=zsb hf;have hfold:=zq9 (s:=s) (o:=o) (c:=c) (b:=b) y (λj hj=>(hf.bnd j hj).1) _ (w0x _);refine yd4 (λt ht=>yc0 (w0x _) ht) (λi hi=>?_) (λk hk=>?_)
 .rw[hfold];have:=hp.row i hi;unfold z6o;omega
 .rw[hfold];have:=hp.col k hk;unfold z3x;omega
theorem zvk(y:Nat->Int):∀n,(trsI s o (z8 s o c b) y n).length<=n
 |0=>by simp[trsI]
 |n+1=>by
  rw[zcp,w0i];have:=zvk y n;have :(trT s o (z8 s o c b) y n).length<=1:=by unfold trT;cases (z4l s o (gt (z8 s o c b) (n:Int))&&decide (0<y n))<;>simp
  omega
end
theorem y3r{φ:Nat}{p:Pool}{s:List zb}{o:List zk}(h:Val φ p s o){y:Nat->Int}(hf :(nwOf (netF φ p s o)).Feas (atN (netF φ p s o).supply) y):
  z4v φ p s o (trsI s o (netF φ p s o).arcs y (netF φ p s o).arcs.length)=some ((nwOf (netF φ p s o)).costS y,true,()):=by
 have hl:=zvk (s:=s) (o:=o) (c:=cF φ p s o) (b:=bF φ p s o) y (z8 s o (cF φ p s o) (bF φ p s o)).length;have hal:=z8q s o (cF φ p s o) (bF φ p s o) h.hs h.ho;rw[show (netF φ p s o).arcs=z8 s o (cF φ p s o) (bF φ p s o) from rfl,zxm h _ (by omega),y5h hf,zq9 y (λj hj=>(hf.bnd j hj).1) _ (w0x _),zsa hf];rfl
theorem zz1{φ:Nat}{p:Pool}{s:List zb}{o:List zk}(h:Val φ p s o){l:List z7}(hl:l.length<=100000):∃c b,z4v φ p s o l=some (c,b,())/\(b=true->∃y,(nwOf (netF φ p s o)).Feas (atN (netF φ p s o).supply) y/\(nwOf (netF φ p s o)).costS y=c):=by
 rw[zxm h l hl];cases hok:okL s o (bF φ p s o) (λ_ _=>0) l with
 |false=>exact⟨0,false,rfl,λe=>by cases e⟩
 |true=>have hp:=zx2 h.poss0 hok;exact⟨_,true,rfl,λ_=>⟨_,hp.feas,hp.cost⟩⟩
end Px
end
section
namespace Px
open Go
def yc4(s:List zb)(o:List zk)(a a':Arc):Prop:=(z4l s o a=true->z4l s o a'=true->¬(a'.from_=a.from_/\a'.to=a.to))/\(z4l s o a=false->a.to<nodU s o->a'.to≠a.to)/\(z4l s o a=false->¬a.to<nodU s o->a'.from_≠a.from_)
section
variable{s:List zb}{o:List zk}{c:Nat->Nat->Int}{b:Nat->Nat->Bool}
theorem y1c :(z8 s o c b).Pairwise (yc4 s o):=by
 have hq:∀{a:Arc},a∈zmu s o c b->∃i k,i<s.length/\k<o.length/\a=arcQ s o c i k:=λ{a}h=>by
  unfold zmu arcR at h;obtain⟨i,hi,h⟩:=w1m.1 h;obtain⟨k,hk,h⟩:=w1m.1 h;unfold arcP at h;cases hb:b i k with
  |true=>rw[hb] at h;exact⟨i,k,w0l.1 hi,w0l.1 hk,w0d.1 h⟩
  |false=>rw[hb] at h;cases h
 unfold z8;rw[w4j];refine⟨?_,w3e _ _,?_⟩
 .rw[w4j];refine⟨?_,?_,?_⟩
  .rw[w4j];refine⟨?_,?_,?_⟩
   .unfold zmu;rw[List.pairwise_flatMap];refine⟨λi hi=>?_,?_⟩
    .unfold arcR;rw[List.pairwise_flatMap];refine⟨λk hk=>?_,?_⟩
     .unfold arcP;cases b i k
      .exact List.Pairwise.nil
      .exact w3e _ _
     .refine List.Pairwise.imp_of_mem ?_ (w3h (n:=o.length));intro k1 k2 hk1 hk2 hlt x hx y hy;unfold arcP at hx hy;cases hb1:b i k1 with
      |false=>rw[hb1] at hx;cases hx
      |true=>
       cases hb2:b i k2 with
       |false=>rw[hb2] at hy;cases hy
       |true=>
        rw[hb1] at hx;rw[hb2] at hy;have hx:=w0d.1 hx;have hy:=w0d.1 hy;have hp:=zhd (c:=c) i k1 (w0l.1 hi) (w0l.1 hk1);subst hx;subst hy;refine⟨λ_ _ g=>?_,λg=>?_,λg=>?_⟩
        .have g2 :(s.length:Int)+(k2:Int) =(s.length:Int)+(k1:Int):=g.2;omega
        .unfold arcQ at hp;rw[hp] at g;cases g
        .unfold arcQ at hp;rw[hp] at g;cases g
    .refine List.Pairwise.imp_of_mem ?_ (w3h (n:=s.length));intro i1 i2 hi1 hi2 hlt x hx y hy;unfold arcR at hx hy;obtain⟨k1,hk1,hx⟩:=w1m.1 hx;obtain⟨k2,hk2,hy⟩:=w1m.1 hy;unfold arcP at hx hy;cases hb1:b i1 k1 with
     |false=>rw[hb1] at hx;cases hx
     |true=>
      cases hb2:b i2 k2 with
      |false=>rw[hb2] at hy;cases hy
      |true=>
       rw[hb1] at hx;rw[hb2] at hy;have hx:=w0d.1 hx;have hy:=w0d.1 hy;have hp:=zhd (c:=c) i1 k1 (w0l.1 hi1) (w0l.1 hk1);subst hx;subst hy;refine⟨λ_ _ g=>?_,λg=>?_,λg=>?_⟩
       .have g2 :(i2:Int) =(i1:Int):=g.1;omega
       .unfold arcQ at hp;rw[hp] at g;cases g
       .unfold arcQ at hp;rw[hp] at g;cases g
   .rw[w3i];refine List.Pairwise.imp_of_mem ?_ (w3h (n:=o.length));intro k1 k2 hk1 hk2 hlt;refine⟨λg=>(by rw[zmt] at g;cases g),λ_ _ g=>?_,λ_ g=>?_⟩
    .have g2 :(s.length:Int)+(k2:Int) =(s.length:Int)+(k1:Int):=g;omega
    .have:=w0l.1 hk1
     exact absurd (show (s.length:Int)+(k1:Int)<nodU s o by unfold nodU;omega) g
   .intro x hx y hy;obtain⟨i,k,hi,hk,e⟩:=hq hx;have hp:=zhd (c:=c) i k hi hk;obtain⟨k2,hk2,e2⟩:=w0g.1 hy;subst e;subst e2;exact⟨λ_ g=>(by rw[zmt] at g;cases g),λg=>(by rw[hp] at g;cases g),λg=>(by rw[hp] at g;cases g)⟩
  .rw[w3i];refine List.Pairwise.imp_of_mem ?_ (w3h (n:=s.length));intro k1 k2 hk1 hk2 hlt;refine⟨λg=>(by rw[zol] at g;cases g),λ_ g=>?_,λ_ _ g=>?_⟩
   .have g:nodU s o+1<nodU s o:=g;omega
   .have g2 :(k2:Int) =(k1:Int):=g;omega
  .intro x hx y hy;obtain⟨i,hi,e⟩:=w0g.1 hy;subst e;rcases w0k.1 hx with hx|hx
   .obtain⟨i,k,hi,hk,e⟩:=hq hx;have hp:=zhd (c:=c) i k hi hk;subst e;exact⟨λ_ g=>(by rw[zol] at g;cases g),λg=>(by rw[hp] at g;cases g),λg=>(by rw[hp] at g;cases g)⟩
   .obtain⟨k,hk,e⟩:=w0g.1 hx;have hk:=w0l.1 hk;subst e;refine⟨λg=>(by rw[zmt] at g;cases g),λ_ _ g=>?_,λ_ g=>?_⟩
    .have g2:nodU s o+1 =(s.length:Int)+(k:Int):=g;unfold nodU at g2;omega
    .exact absurd (show (s.length:Int)+(k:Int)<nodU s o by unfold nodU;omega) g
 .intro x hx y hy;have hy:=w0d.1 hy;subst hy;rcases w0k.1 hx with hx|hx
  .rcases w0k.1 hx with hx|hx
   .obtain⟨i,k,hi,hk,e⟩:=hq hx;have hp:=zhd (c:=c) i k hi hk;subst e;exact⟨λ_ g=>(by rw[zx9] at g;cases g),λg=>(by rw[hp] at g;cases g),λg=>(by rw[hp] at g;cases g)⟩
   .obtain⟨k,hk,e⟩:=w0g.1 hx;have hk:=w0l.1 hk;subst e;refine⟨λg=>(by rw[zmt] at g;cases g),λ_ _ g=>?_,λ_ g=>?_⟩
    .have g2:nodU s o+1 =(s.length:Int)+(k:Int):=g;unfold nodU at g2;omega
    .exact absurd (show (s.length:Int)+(k:Int)<nodU s o by unfold nodU;omega) g
  .obtain⟨i,hi,e⟩:=w0g.1 hx;have hi:=w0l.1 hi;subst e;refine⟨λg=>(by rw[zol] at g;cases g),λ_ g=>?_,λ_ _ g=>?_⟩
   .have g:nodU s o+1<nodU s o:=g;omega
   .have g2:nodU s o =(i:Int):=g;unfold nodU at g2;omega
theorem y69{i j:Nat}(hij:i<j)(hj:j<(z8 s o c b).length):yc4 s o (gt (z8 s o c b) (i:Int)) (gt (z8 s o c b) (j:Int)):=by rw[z4f (by omega),z4f hj];exact List.pairwise_iff_getElem.1 y1c i j (by omega) hj hij
end
def zgi(s:List zb)(o:List zk)(a:Arc)(rest:List Int)(l:List z7):Option (Int×List z7):=
 if z4l s o a=true then(match l with
  |t::l'=>if t.supply=a.from_/\t.order=a.to-(s.length:Int) then(if t.count<1\/gt rest a.from_<t.count\/- gt rest a.to<t.count then none else some (t.count,l')) else some (0,l)
  | []=>some (0,[]))
 else if a.from_=nodU s o/\a.to<nodU s o then some (- gt rest a.to,l) else some (gt rest a.from_,l)
def zns(rest:List Int)(a:Arc)(z:Int):List Int:=zq (zq rest a.from_ (gt rest a.from_-z)) a.to (gt (zq rest a.from_ (gt rest a.from_-z)) a.to+z)
structure FI(s:List zb)(o:List zk)(c:Nat->Nat->Int)(b:Nat->Nat->Bool)(l0:List z7)(i:Nat)(x:List Int)(l:List z7)(rest:List Int):Prop where
 len:rest.length=s.length+o.length+2
 xl:x.length=i
 val:∀v:Nat,v<s.length+o.length+2->atN rest v=atN (supN s o) v-outP (netN s o c b) (atN x) i v+inP (netN s o c b) (atN x) i v
 b1:∀v:Nat,v<s.length->0<=atN rest v/\atN rest v<=4096
 b2:∀k:Nat,k<o.length->-1000<=atN rest (s.length+k)/\atN rest (s.length+k)<=0
 b3 : -(30000+5000*(i:Int))<=atN rest (s.length+o.length)/\atN rest (s.length+o.length)<=30000+5000*(i:Int)
 b4 : -(30000+300000*(i:Int))<=atN rest (s.length+o.length+1)/\atN rest (s.length+o.length+1)<=30000+300000*(i:Int)
 tr:l0=trsI s o (z8 s o c b) (atN x) i++l
theorem zvw{x:List Int}{z:Int}{j:Nat}(h:j<x.length):atN (x++[z]) j=atN x j:=z88 _ _ _ (by omega) (by omega)
theorem zvu(x:List Int)(z:Int):atN (x++[z]) x.length=z:=by unfold atN;rw[z6t _ _ _ (by omega),Int.sub_self];rfl
theorem y6g{rest:List Int}{a:Arc}{z:Int}(h1:0<=a.from_)(h2:a.from_<(rest.length:Int))(h3:0<=a.to)(h4:a.to<(rest.length:Int))(h5:a.from_≠a.to)(v:Nat):
  atN (zns rest a z) v=atN rest v-(if a.from_.toNat=v then z else 0)+if a.to.toNat=v then z else 0:=by
 unfold zns atN;have f2:=z04 rest a.from_ a.to (gt rest a.from_-z) h1 h2 h3;rw[z04 _ _ (v:Int) _ h3 (by rw[zw];exact h4) (by omega),f2,z04 _ _ (v:Int) _ h1 h2 (by omega)];by_cases e1 :(v:Int)=a.to
 .rw[if_pos e1,if_neg (λe=>h5 e.symm),if_neg (by omega),if_pos (by omega),<- e1];omega
 .rw[if_neg e1];by_cases e2 :(v:Int)=a.from_
  .rw[if_pos e2,if_pos (by omega),if_neg (by omega),<- e2];omega
  .rw[if_neg e2,if_neg (by omega),if_neg (by omega)];omega
section
variable{φ:Nat}{p:Pool}{s:List zb}{o:List zk}{c:Nat->Nat->Int}{b:Nat->Nat->Bool}
theorem FI.move(hs:s.length<=6)(ho:o.length<=6){l0:List z7}{i:Nat}{x:List Int}{l:List z7}{rest:List Int}(h:FI s o c b l0 i x l rest)(hi:i<(z8 s o c b).length){z:Int}{l':List z7}(hz:zgi s o (gt (z8 s o c b) (i:Int)) rest l=some (z,l')):
  FI s o c b l0 (i+1) (x++[z]) l' (zns rest (gt (z8 s o c b) (i:Int)) z)/\-1000000<=z/\z<=1000000:=by
 have hal:=z8q s o c b hs ho;have hx:∀j,j<i->atN (x++[z]) j=atN x j:=λj hj=>zvw (by rw[h.xl];exact hj)
 have hxi:atN (x++[z]) i=z:=by rw[<- h.xl];exact zvu x z
 have hcg:∀v,outP (netN s o c b) (atN (x++[z])) (i+1) v=outP (netN s o c b) (atN x) i v+if(gt (z8 s o c b) (i:Int)).from_.toNat=v then z else 0:=λv=>by unfold outP;show _+(if _ then atN (x++[z]) i else 0)=_;rw[hxi];congr 1;exact ze λj hj=>by rw[hx j hj]
 have hcg2:∀v,inP (netN s o c b) (atN (x++[z])) (i+1) v=inP (netN s o c b) (atN x) i v+if(gt (z8 s o c b) (i:Int)).to.toNat=v then z else 0:=λv=>by unfold inP;show _+(if _ then atN (x++[z]) i else 0)=_;rw[hxi];congr 1;exact ze λj hj=>by rw[hx j hj]
 have htr:trsI s o (z8 s o c b) (atN (x++[z])) (i+1)=trsI s o (z8 s o c b) (atN x) i++(bif z4l s o (gt (z8 s o c b) (i:Int))&&decide (0<z) then [⟨(gt (z8 s o c b) (i:Int)).from_,(gt (z8 s o c b) (i:Int)).to-(s.length:Int),z⟩] else []):=by rw[zcp,zfx hx];unfold trT;rw[hxi]
 have mv:=λh1 h2 h3 h4 h5=>y6g (rest:=rest) (a:=gt (z8 s o c b) (i:Int)) (z:=z) h1 h2 h3 h4 h5
 have hlen :(zns rest (gt (z8 s o c b) (i:Int)) z).length=s.length+o.length+2:=by unfold zns;rw[zw,zw,h.len]
 have hxl :(x++[z]).length=i+1:=by simp[h.xl]
 have hval :(∀v,atN (zns rest (gt (z8 s o c b) (i:Int)) z) v=atN rest v-(if(gt (z8 s o c b) (i:Int)).from_.toNat=v then z else 0)+if(gt (z8 s o c b) (i:Int)).to.toNat=v then z else 0)->
   ∀v:Nat,v<s.length+o.length+2->atN (zns rest (gt (z8 s o c b) (i:Int)) z) v=atN (supN s o) v-outP (netN s o c b) (atN (x++[z])) (i+1) v+inP (netN s o c b) (atN (x++[z])) (i+1) v:=λhm v hv=>by
  rw[hm v,hcg v,hcg2 v,h.val v hv];omega
 rcases z6d hi with⟨i0,k0,hi0,hk0,hb0,e⟩|⟨k0,hk0,e⟩|⟨i0,hi0,e⟩|e
 .have hp:=zhd (c:=c) i0 k0 hi0 hk0;have hr1:=h.b1 i0 hi0;have hr2:=h.b2 k0 hk0;have hm:=mv (by rw[e];show 0<=(i0:Int);omega) (by rw[e,h.len];show (i0:Int)<_;omega) (by rw[e];show 0<=(s.length:Int)+(k0:Int);omega) (by rw[e,h.len];show (s.length:Int)+(k0:Int)<_;omega) (by rw[e];show (i0:Int)≠(s.length:Int)+(k0:Int);omega);have hf :(gt (z8 s o c b) (i:Int)).from_.toNat=i0:=by rw[e];show ((i0:Int)).toNat=i0;omega
  have ht :(gt (z8 s o c b) (i:Int)).to.toNat=s.length+k0:=by rw[e];show ((s.length:Int)+(k0:Int)).toNat=_;omega
  have hzz :(0<=z/\z<=atN rest i0/\z<=- atN rest (s.length+k0))/\l =(bif decide (0<z) then [⟨(i0:Int),(s.length:Int)+(k0:Int)-(s.length:Int),z⟩] else [])++l':=by
   rw[e] at hz;unfold zgi at hz;rw[if_pos hp] at hz;have a1 :(arcQ s o c i0 k0).from_ =(i0:Int):=rfl;have a2 :(arcQ s o c i0 k0).to =(s.length:Int)+(k0:Int):=rfl;have a3:gt rest ((s.length:Int)+(k0:Int))=atN rest (s.length+k0):=by unfold atN;congr 1
   have a4:gt rest (i0:Int)=atN rest i0:=rfl;cases l with
   |nil=>simp only[w00,w0a] at hz;obtain⟨rfl,rfl⟩:=hz;exact⟨by omega,rfl⟩
   |cons t l2=>
    simp only at hz;rw[a1,a2,a3,a4] at hz;by_cases g:t.supply =(i0:Int)/\t.order =(s.length:Int)+(k0:Int)-(s.length:Int)
    .rw[if_pos g] at hz;by_cases g2:t.count<1\/atN rest i0<t.count\/- atN rest (s.length+k0)<t.count
     .rw[if_pos g2] at hz;cases hz
     .rw[if_neg g2] at hz;simp only[w00,w0a] at hz;obtain⟨rfl,rfl⟩:=hz;refine⟨by omega,?_⟩;have:decide (0<t.count)=true:=by simp;omega
      rw[this,cond_true,<- g.1,<- g.2];rfl
    .rw[if_neg g] at hz;simp only[w00,w0a] at hz;obtain⟨rfl,rfl⟩:=hz;exact⟨by omega,rfl⟩
  obtain⟨⟨z1,z2,z3⟩,hl⟩:=hzz;refine⟨⟨hlen,hxl,hval hm,λv hv=>?_,λk hk=>?_,?_,?_,?_⟩,by omega,by omega⟩
  .rw[hm v,hf,ht];have:=h.b1 v hv;by_cases g:i0=v
   .subst g;rw[if_pos rfl,if_neg (by omega)];omega
   .rw[if_neg g,if_neg (by omega)];omega
  .rw[hm,hf,ht];have:=h.b2 k hk;by_cases g:k0=k
   .subst g;rw[if_pos rfl,if_neg (by omega)];omega
   .rw[if_neg (by omega),if_neg (by omega)];omega
  .rw[hm,hf,ht,if_neg (by omega),if_neg (by omega)];have:=h.b3;push_cast;omega
  .rw[hm,hf,ht,if_neg (by omega),if_neg (by omega)];have:=h.b4;push_cast;omega
  .rw[h.tr,htr,hl,e,hp,w2h,w0q];rfl
 .have hp:=zmt (s:=s) (o:=o) k0;have hr2:=h.b2 k0 hk0;have hm:=mv (by rw[e];show 0<=nodU s o;unfold nodU;omega) (by rw[e,h.len];show nodU s o<_;unfold nodU;omega) (by rw[e];show 0<=(s.length:Int)+(k0:Int);omega) (by rw[e,h.len];show (s.length:Int)+(k0:Int)<_;omega) (by rw[e];show nodU s o≠(s.length:Int)+(k0:Int);unfold nodU;omega);have hf :(gt (z8 s o c b) (i:Int)).from_.toNat=s.length+o.length:=by rw[e];exact zha
  have ht :(gt (z8 s o c b) (i:Int)).to.toNat=s.length+k0:=by rw[e];show ((s.length:Int)+(k0:Int)).toNat=_;omega
  have hzz:z=- atN rest (s.length+k0)/\l=l':=by rw[e] at hz;unfold zgi at hz;rw[hp,if_neg (by simp),if_pos ⟨rfl,show (s.length:Int)+(k0:Int)<nodU s o by unfold nodU;omega⟩] at hz;simp only[w00,w0a] at hz;refine⟨?_,hz.2⟩;rw[<- hz.1];show-gt rest ((s.length:Int)+(k0:Int))=_;unfold atN;congr 2
  obtain⟨z1,rfl⟩:=hzz;refine⟨⟨hlen,hxl,hval hm,λv hv=>?_,λk hk=>?_,?_,?_,?_⟩,by omega,by omega⟩
  .rw[hm v,hf,ht,if_neg (by omega),if_neg (by omega)];have:=h.b1 v hv;omega
  .rw[hm,hf,ht];have:=h.b2 k hk;by_cases g:k0=k
   .subst g;rw[if_pos rfl,if_neg (by omega)];omega
   .rw[if_neg (by omega),if_neg (by omega)];omega
  .rw[hm,hf,ht,if_pos rfl,if_neg (by omega)];have:=h.b3;push_cast;omega
  .rw[hm,hf,ht,if_neg (by omega),if_neg (by omega)];have:=h.b4;push_cast;omega
  .rw[h.tr,htr,e,hp,w3l];simp
 .have hp:=zol (s:=s) (o:=o) i0;have hr1:=h.b1 i0 hi0;have hm:=mv (by rw[e];show 0<=(i0:Int);omega) (by rw[e,h.len];show (i0:Int)<_;omega) (by rw[e];show 0<=nodU s o+1;unfold nodU;omega) (by rw[e,h.len];show nodU s o+1<_;unfold nodU;omega) (by rw[e];show (i0:Int)≠nodU s o+1;unfold nodU;omega);have hf :(gt (z8 s o c b) (i:Int)).from_.toNat=i0:=by rw[e];show ((i0:Int)).toNat=i0;omega
  have ht :(gt (z8 s o c b) (i:Int)).to.toNat=s.length+o.length+1:=by rw[e];show (nodU s o+1).toNat=_;unfold nodU;omega
  have hzz:z=atN rest i0/\l=l':=by rw[e] at hz;unfold zgi at hz;rw[hp,if_neg (by simp),if_neg (λg=>by have g:nodU s o+1<nodU s o:=g.2;omega)] at hz;simp only[w00,w0a] at hz;exact⟨hz.1.symm,hz.2⟩
  obtain⟨z1,rfl⟩:=hzz;refine⟨⟨hlen,hxl,hval hm,λv hv=>?_,λk hk=>?_,?_,?_,?_⟩,by omega,by omega⟩
  .rw[hm v,hf,ht];have:=h.b1 v hv;by_cases g:i0=v
   .subst g;rw[if_pos rfl,if_neg (by omega)];omega
   .rw[if_neg g,if_neg (by omega)];omega
  .rw[hm,hf,ht,if_neg (by omega),if_neg (by omega)];have:=h.b2 k hk;omega
  .rw[hm,hf,ht,if_neg (by omega),if_neg (by omega)];have:=h.b3;push_cast;omega
  .rw[hm,hf,ht,if_neg (by omega),if_pos rfl];have:=h.b4;push_cast;omega
  .rw[h.tr,htr,e,hp,w3l];simp
 .have hp:=zx9 (s:=s) (o:=o);have hm:=mv (by rw[e];show 0<=nodU s o;unfold nodU;omega) (by rw[e,h.len];show nodU s o<_;unfold nodU;omega) (by rw[e];show 0<=nodU s o+1;unfold nodU;omega) (by rw[e,h.len];show nodU s o+1<_;unfold nodU;omega) (by rw[e];show nodU s o≠nodU s o+1;omega);have hf :(gt (z8 s o c b) (i:Int)).from_.toNat=s.length+o.length:=by rw[e];exact zha
  have ht :(gt (z8 s o c b) (i:Int)).to.toNat=s.length+o.length+1:=by rw[e];show (nodU s o+1).toNat=_;unfold nodU;omega
  have hzz:z=atN rest (s.length+o.length)/\l=l':=by rw[e] at hz;unfold zgi at hz;rw[hp,if_neg (by simp),if_neg (λg=>by have g:nodU s o+1<nodU s o:=g.2;omega)] at hz;simp only[w00,w0a] at hz;refine⟨?_,hz.2⟩;rw[<- hz.1];unfold atN nodU;congr 1
  obtain⟨z1,rfl⟩:=hzz;have hb3:=h.b3;refine⟨⟨hlen,hxl,hval hm,λv hv=>?_,λk hk=>?_,?_,?_,?_⟩,by omega,by omega⟩
  .rw[hm v,hf,ht,if_neg (by omega),if_neg (by omega)];have:=h.b1 v hv;omega
  .rw[hm,hf,ht,if_neg (by omega),if_neg (by omega)];have:=h.b2 k hk;omega
  .rw[hm,hf,ht,if_pos rfl,if_neg (by omega)];push_cast;omega
  .rw[hm,hf,ht,if_neg (by omega),if_pos rfl];have:=h.b4;push_cast;omega
  .rw[h.tr,htr,e,hp,w3l];simp
end
end Px
end
section
namespace Px
open Go
section
variable{φ:Nat}{p:Pool}{s:List zb}{o:List zk}{c:Nat->Nat->Int}{b:Nat->Nat->Bool}
theorem FI.bd{l0:List z7}{i:Nat}{x:List Int}{l:List z7}{rest:List Int}(h:FI s o c b l0 i x l rest)(hi:i<=49)(v:Int)(h0:0<=v)(hv:v<(s.length:Int)+(o.length:Int)+2): -20000000<=gt rest v/\gt rest v<=20000000:=by
 obtain⟨n,rfl⟩:=w1k h0;show-20000000<=atN rest n/\atN rest n<=20000000;by_cases g1:n<s.length
 .have:=h.b1 n g1;omega
 .by_cases g2:n<s.length+o.length
  .obtain⟨k,rfl⟩:∃k,n=s.length+k:=⟨n-s.length,by omega⟩;have:=h.b2 k (by omega);omega
  .by_cases g3:n=s.length+o.length
   .subst g3;have:=h.b3;omega
   .have:n=s.length+o.length+1:=by omega
    subst this;have:=h.b4;omega
theorem zl0{j:Nat}(hj:j<(z8 s o c b).length):(0<=(gt (z8 s o c b) (j:Int)).from_/\(gt (z8 s o c b) (j:Int)).from_<(s.length:Int)+(o.length:Int)+2)/\(0<=(gt (z8 s o c b) (j:Int)).to/\(gt (z8 s o c b) (j:Int)).to<(s.length:Int)+(o.length:Int)+2)/\(gt (z8 s o c b) (j:Int)).from_≠(gt (z8 s o c b) (j:Int)).to:=by
 rcases z6d hj with⟨i0,k0,hi0,hk0,hb0,e⟩|⟨k0,hk0,e⟩|⟨i0,hi0,e⟩|e
 .rw[e];show (0<=(i0:Int)/\(i0:Int)<_)/\(0<=(s.length:Int)+(k0:Int)/\(s.length:Int)+(k0:Int)<_)/\(i0:Int)≠(s.length:Int)+(k0:Int);omega
 .rw[e];show (0<=nodU s o/\nodU s o<_)/\(0<=(s.length:Int)+(k0:Int)/\(s.length:Int)+(k0:Int)<_)/\nodU s o≠(s.length:Int)+(k0:Int);unfold nodU;omega
 .rw[e];show (0<=(i0:Int)/\(i0:Int)<_)/\(0<=nodU s o+1/\nodU s o+1<_)/\(i0:Int)≠nodU s o+1;unfold nodU;omega
 .rw[e];show (0<=nodU s o/\nodU s o<_)/\(0<=nodU s o+1/\nodU s o+1<_)/\nodU s o≠nodU s o+1;unfold nodU;omega
theorem zsd(hs:s.length<=6)(ho:o.length<=6){l0:List z7}{i:Nat}{x:List Int}{l:List z7}{rest:List Int}(h:FI s o c b l0 i x l rest)(hi:i<(z8 s o c b).length)(n:Nat):
  zx φ (n+1) s l (nodU s o) (z8 s o c b) ((z8 s o c b).length:Int) (i:Int) x rest=match zgi s o (gt (z8 s o c b) (i:Int)) rest l with
   |none=>some ([],false,())
   |some (z,l')=>zx φ n s l' (nodU s o) (z8 s o c b) ((z8 s o c b).length:Int) ((i+1:Nat):Int) (x++[z]) (zns rest (gt (z8 s o c b) (i:Int)) z):=by
 have hal:=z8q s o c b hs ho;obtain⟨⟨f1,f2⟩,⟨t1,t2⟩,ft⟩:=zl0 hi;have hrl:=h.len;have hxl:=h.xl;have hbf:=h.bd (by omega) _ f1 f2;have hbt:=h.bd (by omega) _ t1 t2;have mv:=λz l'(hz:zgi s o (gt (z8 s o c b) (i:Int)) rest l=some (z,l'))=>h.move hs ho hi hz
 rw[zx,if_pos (by simp;omega),z6 ⟨by omega,by omega⟩];generalize hA:gt (z8 s o c b) (i:Int)=a at *;have hj:∀z l',zgi s o a rest l=some (z,l')->z2n φ (zx φ n) s l' (nodU s o) z (z8 s o c b) ((z8 s o c b).length:Int) (i:Int) x rest a=zx φ n s l' (nodU s o) (z8 s o c b) ((z8 s o c b).length:Int) ((i+1:Nat):Int) (x++[z]) (zns rest a z):=λz l' hz=>by
  obtain⟨_,z1,z2⟩:=mv z l' hz;have e2:gt (zq rest a.from_ (gt rest a.from_-z)) a.to=gt rest a.to:=by rw[z04 _ _ _ _ f1 (by omega) t1,if_neg (λe=>ft e.symm)]
  unfold z2n zns;rw[W_id (x:=gt rest a.from_-z) (by omega) (by omega),e2,W_id (x:=gt rest a.to+z) (by omega) (by omega),W_id (x:=(i:Int)+1) (by omega) (by omega),z6 ⟨f1,by omega⟩,z6 ⟨f1,by omega⟩,z6 ⟨t1,by rw[zw];omega⟩,z6 ⟨t1,by rw[zw];omega⟩,z6 (by simp[fits];omega),show (i:Int)+1 =((i+1:Nat):Int) by omega]
 have hp :(decide (a.from_<(s.length:Int))&&decide (a.to<nodU s o))=z4l s o a:=rfl;have hW0:W (0-gt rest a.to)=- gt rest a.to:=by rw[w57];exact W_id (by omega) (by omega)
 have hW1:W (a.to-(s.length:Int))=a.to-(s.length:Int):=W_id (by omega) (by omega);rw[hp,hW0,hW1];unfold zgi at hj⊢;by_cases hpa:z4l s o a=true
 .rw[if_pos hpa];simp only[if_pos hpa] at hj⊢;cases l with
  |nil=>rw[z6 (by simp),z6 (by simp),if_neg (by simp)];exact hj 0 [] rfl
  |cons t l2=>
   have g0:gt (t::l2) 0=t:=rfl;have hl0 :(0:Int)<((t::l2).length:Int):=by rw[w12];omega
   have hd:decide ((0:Int)<((t::l2).length:Int))=true:=decide_eq_true hl0;rw[z6 (λ_=>⟨by omega,hl0⟩),z6 (λ_=>⟨by omega,hl0⟩),g0,hd,w2h];simp only at hj⊢;have hpart:z4z (t::l2) (1:Int).toNat (((t::l2).length:Int)).toNat=l2:=by simp[z4z]
   by_cases g:t.supply=a.from_/\t.order=a.to-(s.length:Int)
   .have e1 :((t.supply==a.from_)&&(t.order==a.to-(s.length:Int)))=true:=by simp[g.1,g.2]
    rw[if_pos e1,z6 ⟨by omega,hl0⟩,z6 (λ_=>⟨f1,by omega⟩),z6 (λ_=>⟨t1,by omega⟩),if_pos g];simp only[if_pos g] at hj;by_cases g2:t.count<1\/gt rest a.from_<t.count\/- gt rest a.to<t.count
    .rw[if_pos (by simp only[w0w,decide_eq_true_eq];omega),if_pos g2]
    .rw[if_neg (by simp only[w0w,decide_eq_true_eq];omega),if_neg g2,z6 ⟨by omega,by simp;omega,by omega⟩,hpart];exact hj _ _ (if_neg g2)
   .have e1:¬((t.supply==a.from_)&&(t.order==a.to-(s.length:Int)))=true:=by simp only[w02,beq_iff_eq];exact g
    rw[if_neg e1,if_neg g];exact hj _ _ (if_neg g)
 .rw[if_neg hpa];simp only[if_neg hpa] at hj⊢;by_cases g:a.from_=nodU s o/\a.to<nodU s o
  .have e1 :((a.from_==nodU s o)&&decide (a.to<nodU s o))=true:=by simp[g.1,g.2]
   rw[if_pos e1,z6 ⟨t1,by omega⟩,if_pos g];exact hj _ _ (if_pos g)
  .have e1:¬((a.from_==nodU s o)&&decide (a.to<nodU s o))=true:=by simp only[w02,beq_iff_eq,decide_eq_true_eq];exact g
   rw[if_neg e1,z6 ⟨f1,by omega⟩,if_neg g];exact hj _ _ (if_neg g)
theorem zsc{l0:List z7}{x:List Int}{l:List z7}{rest:List Int}(n:Nat):
  zx φ (n+1) s l (nodU s o) (z8 s o c b) ((z8 s o c b).length:Int) ((z8 s o c b).length:Int) x rest=some (x,((l.length:Int)==0),()):=by
 rw[zx,if_neg (by simp)]
theorem zy0(hs:s.length<=6)(ho:o.length<=6){l0:List z7}: ∀(d n i:Nat)(x:List Int)(l:List z7)(rest:List Int),(z8 s o c b).length-i=d->i<=(z8 s o c b).length->d<n->FI s o c b l0 i x l rest->
  ∃x' k,zx φ n s l (nodU s o) (z8 s o c b) ((z8 s o c b).length:Int) (i:Int) x rest=some (x',k,())/\(k=true->x'.length =(z8 s o c b).length/\l0=trsI s o (z8 s o c b) (atN x') (z8 s o c b).length):=by
 intro d
 induction d with
 |zero=>
  intro n i x l rest hd hi hn h;obtain⟨n,rfl⟩:∃n',n=n'+1:=⟨n-1,by omega⟩;have:i =(z8 s o c b).length:=by omega
  subst this;refine⟨x,_,zsc (l0:=l0) n,λhk=>⟨h.xl,?_⟩⟩;have:l = []:=w13 (by have:=beq_iff_eq.1 hk;omega);rw[h.tr,this,w0e]
 |succ d ih=>
  intro n i x l rest hd hi hn h;obtain⟨n,rfl⟩:∃n',n=n'+1:=⟨n-1,by omega⟩;rw[zsd hs ho h (by omega) n];cases hz:zgi s o (gt (z8 s o c b) (i:Int)) rest l with
  |none=>exact⟨[],false,rfl,λhk=>by cases hk⟩
  |some w=>obtain⟨z,l'⟩:=w;exact ih n (i+1) _ _ _ (by omega) (by omega) (by omega) (h.move hs ho (by omega) hz).1
theorem zoy{f:Nat->Int}{i:Nat}: ∀{m:Nat},i<=m->(∀j,i<=j->j<m->f j=0)->sumN m f=sumN i f
 |0,hi,_=>by rw[show i=0 by omega]
 |m+1,hi,h=>by
  by_cases e:i=m+1
  .rw[e]
  .rw[show sumN (m+1) f=sumN m f+f m from rfl,zoy (m:=m) (i:=i) (by omega) λj h1 h2=>h j h1 (by omega),h m (by omega) (by omega)];omega
def trsJ(s:List zb)(o:List zk)(arcs:List Arc)(y:Nat->Int)(i n:Nat):List z7:=(List.range' i n).flatMap (trT s o arcs y)
theorem y3s(arcs:List Arc)(y:Nat->Int)(i n:Nat):trsJ s o arcs y i (n+1)=trT s o arcs y i++trsJ s o arcs y (i+1) n:=by unfold trsJ;rw[w4c,w0n]
theorem zz3(arcs:List Arc)(y:Nat->Int)(i n:Nat):trsI s o arcs y (i+n)=trsI s o arcs y i++trsJ s o arcs y i n:=by unfold trsI trsJ;rw[w36,w36,<- w1t];congr 1;have:=List.range'_append_1 (s:=0) (m:=i) (n:=n);rw[w15] at this;exact this.symm
theorem y07(hs:s.length<=6)(ho:o.length<=6){y:Nat->Int}(hf :(nwOf (netN s o c b)).Feas (atN (supN s o)) y){i:Nat}{x:List Int}{l:List z7}{rest:List Int}(h:FI s o c b (trsI s o (z8 s o c b) y (z8 s o c b).length) i x l rest)(hi:i<(z8 s o c b).length)(hx:∀j,j<i->atN x j=y j):
  ∃l',zgi s o (gt (z8 s o c b) (i:Int)) rest l=some (y i,l'):=by
 have hl:l=trT s o (z8 s o c b) y i++trsJ s o (z8 s o c b) y (i+1) ((z8 s o c b).length-i-1):=by have h1:=h.tr;rw[zfx hx] at h1;have h2:=zz3 (s:=s) (o:=o) (z8 s o c b) y i ((z8 s o c b).length-i);rw[show i+((z8 s o c b).length-i) =(z8 s o c b).length by omega] at h2;rw[h2] at h1;have h3:=List.append_cancel_left h1;rw[<- h3,show (z8 s o c b).length-i =((z8 s o c b).length-i-1)+1 by omega,y3s];rfl
 have hy0:=(hf.bnd i hi).1
 -- what is left is what flows later
 have hout:∀v:Nat,v<s.length+o.length+2->atN rest v =((nwOf (netN s o c b)).outS y v-sumN i λj=>if(nwOf (netN s o c b)).fr j=v then y j else 0)-((nwOf (netN s o c b)).inS y v-sumN i λj=>if(nwOf (netN s o c b)).to j=v then y j else 0):=λv hv=>by
  have h1:=hf.exc v (show v<(supN s o).length by rw[z6l];exact hv);have h2:=h.val v hv;unfold Nw.exc at h1;unfold outP inP at h2;have e1 :(sumN i λj=>if(nwOf (netN s o c b)).fr j=v then atN x j else 0)=sumN i λj=>if(nwOf (netN s o c b)).fr j=v then y j else 0:=ze λj hj=>by rw[hx j hj]
  have e2 :(sumN i λj=>if(nwOf (netN s o c b)).to j=v then atN x j else 0)=sumN i λj=>if(nwOf (netN s o c b)).to j=v then y j else 0:=ze λj hj=>by rw[hx j hj]
  rw[e1,e2] at h2;omega
 have mono:∀(P:Nat->Prop)[DecidablePred P],P i->(sumN i λj=>if P j then y j else 0)+y i<=sumN (z8 s o c b).length λj=>if P j then y j else 0:=λP _ hP=>by
  have:=zn6 (f:=λj=>if P j then y j else 0) (m:=(z8 s o c b).length) (i:=i+1) (by omega) λj hj=>by
   have:=(hf.bnd j hj).1;show 0<=if P j then y j else 0
   split<;>omega
  rw[show sumN (i+1) (λj=>if P j then y j else 0) =(sumN i λj=>if P j then y j else 0)+(if P i then y i else 0) from rfl,if_pos hP] at this;exact this
 have still:∀(P:Nat->Prop)[DecidablePred P],P i->(∀j,i<j->j<(z8 s o c b).length->¬P j)->(sumN (z8 s o c b).length λj=>if P j then y j else 0) =(sumN i λj=>if P j then y j else 0)+y i:=λP _ hP hn=>by rw[zoy (i:=i+1) (by omega) λj h1 h2=>if_neg (hn j (by omega) h2)];show _+(if P i then y i else 0)=_;rw[if_pos hP]
 have zero:∀(P:Nat->Prop)[DecidablePred P],(∀j,j<(z8 s o c b).length->¬P j)->(sumN (z8 s o c b).length λj=>if P j then y j else 0)=0/\(sumN i λj=>if P j then y j else 0)=0:=λP _ hn=>⟨z08 λj hj=>if_neg (hn j hj),z08 λj hj=>if_neg (hn j (by omega))⟩
 have noin:∀v:Nat,v<s.length\/v=s.length+o.length->∀j,j<(z8 s o c b).length->¬(nwOf (netN s o c b)).to j=v:=λv hv j hj g=>by
  have g :(gt (z8 s o c b) (j:Int)).to.toNat=v:=g;rcases z6d hj with⟨i0,k0,hi0,hk0,hb0,e⟩|⟨k0,hk0,e⟩|⟨i0,hi0,e⟩|e
  .rw[e] at g;have g :((s.length:Int)+(k0:Int)).toNat=v:=g;omega
  .rw[e] at g;have g :((s.length:Int)+(k0:Int)).toNat=v:=g;omega
  .rw[e] at g;have g :(nodU s o+1).toNat=v:=g;unfold nodU at g;omega
  .rw[e] at g;have g :(nodU s o+1).toNat=v:=g;unfold nodU at g;omega
 have noout:∀k:Nat,k<o.length->∀j,j<(z8 s o c b).length->¬(nwOf (netN s o c b)).fr j=s.length+k:=λk hk j hj g=>by
  have g :(gt (z8 s o c b) (j:Int)).from_.toNat=s.length+k:=g;rcases z6d hj with⟨i0,k0,hi0,hk0,hb0,e⟩|⟨k0,hk0,e⟩|⟨i0,hi0,e⟩|e
  .rw[e] at g;have g :((i0:Int)).toNat=_:=g;omega
  .rw[e] at g;have g :(nodU s o).toNat=_:=g;unfold nodU at g;omega
  .rw[e] at g;have g :((i0:Int)).toNat=_:=g;omega
  .rw[e] at g;have g :(nodU s o).toNat=_:=g;unfold nodU at g;omega
 have lat:=λj(h1:i<j)(h2:j<(z8 s o c b).length)=>y69 (s:=s) (o:=o) (c:=c) (b:=b) h1 h2
 rcases z6d hi with⟨i0,k0,hi0,hk0,hb0,e⟩|⟨k0,hk0,e⟩|⟨i0,hi0,e⟩|e
 .-- from a supply to an order
  have hp:=zhd (c:=c) i0 k0 hi0 hk0;have hr:y i<=atN rest i0:=by
   rw[hout i0 (by omega)];have h1:=zero (λj=>(nwOf (netN s o c b)).to j=i0) (noin i0 (.inl hi0));have h2:=mono (λj=>(nwOf (netN s o c b)).fr j=i0) (by show (gt (z8 s o c b) (i:Int)).from_.toNat=i0;rw[e];show ((i0:Int)).toNat=i0;omega);have h3 :(nwOf (netN s o c b)).inS y i0=0:=h1.1;have h4 :(nwOf (netN s o c b)).outS y i0=sumN (z8 s o c b).length λj=>if(nwOf (netN s o c b)).fr j=i0 then y j else 0:=rfl
   rw[h3,h1.2,h4];omega
  have hr2:y i<=- atN rest (s.length+k0):=by
   rw[hout _ (by omega)];have h1:=zero (λj=>(nwOf (netN s o c b)).fr j=s.length+k0) (noout k0 hk0);have h2:=mono (λj=>(nwOf (netN s o c b)).to j=s.length+k0) (by show (gt (z8 s o c b) (i:Int)).to.toNat=_;rw[e];show ((s.length:Int)+(k0:Int)).toNat=_;omega);have h3 :(nwOf (netN s o c b)).outS y (s.length+k0)=0:=h1.1;have h4 :(nwOf (netN s o c b)).inS y (s.length+k0)=sumN (z8 s o c b).length λj=>if(nwOf (netN s o c b)).to j=s.length+k0 then y j else 0:=rfl
   rw[h3,h1.2,h4];omega
  have hpe:z4l s o (gt (z8 s o c b) (i:Int))=true:=by rw[e];exact hp
  unfold trT at hl;rw[hpe] at hl;unfold zgi;rw[if_pos hpe];by_cases h0:0<y i
  .rw[show decide (0<y i)=true by simpa using h0] at hl;rw[hl];show ∃l',(if _/\_ then _ else _)=some (y i,l');rw[if_pos ⟨rfl,rfl⟩,if_neg,]
   .exact⟨_,rfl⟩
   .show ¬(y i<1\/gt rest (gt (z8 s o c b) (i:Int)).from_<y i\/- gt rest (gt (z8 s o c b) (i:Int)).to<y i);rw[e];have q1:gt rest (arcQ s o c i0 k0).from_=atN rest i0:=rfl;have q2:gt rest (arcQ s o c i0 k0).to=atN rest (s.length+k0):=by unfold atN;congr 1
    rw[q1,q2];omega
  .have hyz:y i=0:=by omega
   rw[show decide (0<y i)=false by simpa using h0] at hl;have hl:l=trsJ s o (z8 s o c b) y (i+1) ((z8 s o c b).length-i-1):=hl;rw[hyz];cases hc:l with
   |nil=>exact⟨[],rfl⟩
   |cons t l2=>
    refine⟨t::l2,?_⟩;show (if _/\_ then _ else _)=_;rw[if_neg];rintro⟨g1,g2⟩;have ht:t∈trsJ s o (z8 s o c b) y (i+1) ((z8 s o c b).length-i-1):=by rw[<- hl,hc];simp
    unfold trsJ at ht;obtain⟨j,hj,ht⟩:=w1m.1 ht;have hj:=List.mem_range'_1.1 hj;have hL:=(lat j (by omega) (by omega)).1 hpe;unfold trT at ht;cases hpj:z4l s o (gt (z8 s o c b) (j:Int)) with
    |false=>rw[hpj] at ht;cases ht
    |true=>
     cases hdj:decide (0<y j) with
     |false=>rw[hpj,hdj] at ht;cases ht
     |true=>rw[hpj,hdj] at ht;have ht:=w0d.1 ht;rw[ht] at g1 g2;have g1 :(gt (z8 s o c b) (j:Int)).from_ =(gt (z8 s o c b) (i:Int)).from_:=g1;have g2 :(gt (z8 s o c b) (j:Int)).to-(s.length:Int) =(gt (z8 s o c b) (i:Int)).to-(s.length:Int):=g2;exact hL hpj ⟨g1,by omega⟩
 .have hp:z4l s o (gt (z8 s o c b) (i:Int))=false:=by rw[e];exact zmt k0
  have hto :(gt (z8 s o c b) (i:Int)).to<nodU s o:=by rw[e];show (s.length:Int)+(k0:Int)<nodU s o;unfold nodU;omega
  unfold zgi;rw[if_neg (by rw[hp];simp),if_pos ⟨by rw[e];rfl,hto⟩];refine⟨l,?_⟩;congr 2;have q2:gt rest (gt (z8 s o c b) (i:Int)).to=atN rest (s.length+k0):=by rw[e];unfold atN;congr 1
  have h1:=zero (λj=>(nwOf (netN s o c b)).fr j=s.length+k0) (noout k0 hk0);have h2:=still (λj=>(nwOf (netN s o c b)).to j=s.length+k0) (by show (gt (z8 s o c b) (i:Int)).to.toNat=_;rw[e];show ((s.length:Int)+(k0:Int)).toNat=_;omega) λj j1 j2 g=>by have g :(gt (z8 s o c b) (j:Int)).to.toNat=s.length+k0:=g;have hL:=(lat j j1 j2).2.1 hp hto;have:=(zl0 (s:=s) (o:=o) (c:=c) (b:=b) j2).2.1.1;apply hL;rw[e];show _ =(s.length:Int)+(k0:Int);omega
  have h3 :(nwOf (netN s o c b)).outS y (s.length+k0)=0:=h1.1;have h4 :(nwOf (netN s o c b)).inS y (s.length+k0)=sumN (z8 s o c b).length λj=>if(nwOf (netN s o c b)).to j=s.length+k0 then y j else 0:=rfl
  rw[q2,hout _ (by omega),h3,h1.2,h4,h2];omega
 .have hp:z4l s o (gt (z8 s o c b) (i:Int))=false:=by rw[e];exact zol i0
  have hto:¬(gt (z8 s o c b) (i:Int)).to<nodU s o:=by rw[e];show ¬nodU s o+1<nodU s o;omega
  unfold zgi;rw[if_neg (by rw[hp];simp),if_neg (λg=>hto g.2)];refine⟨l,?_⟩;congr 2;have q2:gt rest (gt (z8 s o c b) (i:Int)).from_=atN rest i0:=by rw[e];rfl
  have h1:=zero (λj=>(nwOf (netN s o c b)).to j=i0) (noin i0 (.inl hi0));have h2:=still (λj=>(nwOf (netN s o c b)).fr j=i0) (by show (gt (z8 s o c b) (i:Int)).from_.toNat=_;rw[e];show ((i0:Int)).toNat=_;omega) λj j1 j2 g=>by have g :(gt (z8 s o c b) (j:Int)).from_.toNat=i0:=g;have hL:=(lat j j1 j2).2.2 hp hto;have:=(zl0 (s:=s) (o:=o) (c:=c) (b:=b) j2).1.1;apply hL;rw[e];show _ =(i0:Int);omega
  have h3 :(nwOf (netN s o c b)).inS y i0=0:=h1.1;have h4 :(nwOf (netN s o c b)).outS y i0=sumN (z8 s o c b).length λj=>if(nwOf (netN s o c b)).fr j=i0 then y j else 0:=rfl
  rw[q2,hout _ (by omega),h3,h1.2,h4,h2];omega
 .have hp:z4l s o (gt (z8 s o c b) (i:Int))=false:=by rw[e];exact zx9
  have hto:¬(gt (z8 s o c b) (i:Int)).to<nodU s o:=by rw[e];show ¬nodU s o+1<nodU s o;omega
  unfold zgi;rw[if_neg (by rw[hp];simp),if_neg (λg=>hto g.2)];refine⟨l,?_⟩;congr 2;have q2:gt rest (gt (z8 s o c b) (i:Int)).from_=atN rest (s.length+o.length):=by rw[e];unfold atN nodU;congr 1
  have h1:=zero (λj=>(nwOf (netN s o c b)).to j=s.length+o.length) (noin _ (.inr rfl));have h2:=still (λj=>(nwOf (netN s o c b)).fr j=s.length+o.length) (by show (gt (z8 s o c b) (i:Int)).from_.toNat=_;rw[e];exact zha) λj j1 j2 g=>by have g :(gt (z8 s o c b) (j:Int)).from_.toNat=s.length+o.length:=g;have hL:=(lat j j1 j2).2.2 hp hto;have:=(zl0 (s:=s) (o:=o) (c:=c) (b:=b) j2).1.1;apply hL;rw[e];show _=nodU s o;unfold nodU;omega
  have h3 :(nwOf (netN s o c b)).inS y (s.length+o.length)=0:=h1.1;have h4 :(nwOf (netN s o c b)).outS y (s.length+o.length)=sumN (z8 s o c b).length λj=>if(nwOf (netN s o c b)).fr j=s.length+o.length then y j else 0:=rfl
  rw[q2,hout _ (by omega),h3,h1.2,h4,h2];omega
theorem zpv(hs:s.length<=6)(ho:o.length<=6){y:Nat->Int}(hf :(nwOf (netN s o c b)).Feas (atN (supN s o)) y):∀(d n i:Nat)(x:List Int)(l:List z7)(rest:List Int),(z8 s o c b).length-i=d->i<=(z8 s o c b).length->d<n->FI s o c b (trsI s o (z8 s o c b) y (z8 s o c b).length) i x l rest->(∀j,j<i->atN x j=y j)->
  ∃x',zx φ n s l (nodU s o) (z8 s o c b) ((z8 s o c b).length:Int) (i:Int) x rest=some (x',true,())/\x'.length =(z8 s o c b).length/\∀j,j<(z8 s o c b).length->atN x' j=y j:=by
 intro d
 induction d with
 |zero=>
  intro n i x l rest hd hi hn h hx;obtain⟨n,rfl⟩:∃n',n=n'+1:=⟨n-1,by omega⟩;have:i =(z8 s o c b).length:=by omega
  subst this;refine⟨x,?_,h.xl,hx⟩;have h1:=h.tr;rw[zfx hx] at h1;have:l = []:=by
   have h2:trsI s o (z8 s o c b) y (z8 s o c b).length++[]=trsI s o (z8 s o c b) y (z8 s o c b).length++l:=by rw[w0e];exact h1
   exact(List.append_cancel_left h2).symm
  rw[this,zsc (l0:=[]) n];rfl
 |succ d ih=>
  intro n i x l rest hd hi hn h hx;obtain⟨n,rfl⟩:∃n',n=n'+1:=⟨n-1,by omega⟩;rw[zsd hs ho h (by omega) n];obtain⟨l',hz⟩:=y07 hs ho hf h (by omega) hx;rw[hz];refine ih n (i+1) _ _ _ (by omega) (by omega) (by omega) (h.move hs ho (by omega) hz).1 λj hj=>?_
  by_cases e:j=i
  .subst e;have:=zvu x (y j);rw[h.xl] at this;exact this
  .rw[zvw (by rw[h.xl];omega)];exact hx j (by omega)
end
theorem zo9{φ:Nat}{p:Pool}{s:List zb}{o:List zk}(h:Val φ p s o)(l0:List z7):FI s o (cF φ p s o) (bF φ p s o) l0 0 [] l0 (supN s o) where
 len:=z6l s o
 xl:=rfl
 val:=λv hv=>by unfold outP inP;simp[sumN]
 b1:=λv hv=>by rw[zp0 hv];have:=h.sc hv;omega
 b2:=λk hk=>by rw[zoz hk];have:=h.oc hk;omega
 b3:=by rw[ztr];have:=h.sumC_bd;omega
 b4:=by rw[zts];have:=h.sumS_bd;omega
 tr:=rfl
theorem y06{φ:Nat}{p:Pool}{s:List zb}{o:List zk}(h:Val φ p s o)(l:List z7):z6s φ (netF φ p s o) s o l=zx φ φ s l (nodU s o) (z8 s o (cF φ p s o) (bF φ p s o)) ((z8 s o (cF φ p s o) (bF φ p s o)).length:Int) 0 [] (supN s o):=by
 have hsl:=z6l s o;have hs:=h.hs;have ho:=h.ho;unfold z6s
 first|unfold zbf|unfold slices_Clone_66
 show (ck ((supN s o).isEmpty=false) _).bind _=_;rw[z6 (by cases hc:supN s o with
  |nil=>rw[hc] at hsl;simp at hsl
  |cons _ _=>rfl)]
 show (ck (fits (([]:List Int).length+(supN s o).length) 8) _).bind _=_;rw[z6 (by simp[fits,hsl];omega),w04,W_id (x:=(s.length:Int)+(o.length:Int)) (by omega) (by omega)];rfl
theorem ya2{φ:Nat}{p:Pool}{s:List zb}{o:List zk}(h:Val φ p s o)(l:List z7):
  ∃x k,z6s φ (netF φ p s o) s o l=some (x,k,())/\(k=true->x.length =(netF φ p s o).arcs.length/\l=trsI s o (netF φ p s o).arcs (atN x) (netF φ p s o).arcs.length):=by
 have hal:=z8q s o (cF φ p s o) (bF φ p s o) h.hs h.ho;have hφ:=h.hφ;rw[y06 h l];exact zy0 h.hs h.ho _ φ 0 [] l (supN s o) rfl (by omega) (by omega) (zo9 h l)
theorem y5k{φ:Nat}{p:Pool}{s:List zb}{o:List zk}(h:Val φ p s o){y:Nat->Int}(hf :(nwOf (netF φ p s o)).Feas (atN (netF φ p s o).supply) y):
  ∃x,z6s φ (netF φ p s o) s o (trsI s o (netF φ p s o).arcs y (netF φ p s o).arcs.length)=some (x,true,())/\x.length =(netF φ p s o).arcs.length/\∀j,j<(netF φ p s o).arcs.length->atN x j=y j:=by
 have hal:=z8q s o (cF φ p s o) (bF φ p s o) h.hs h.ho;have hφ:=h.hφ;rw[y06 h];exact zpv h.hs h.ho hf _ φ 0 [] _ (supN s o) rfl (by omega) (by omega) (zo9 h _) (λj hj=>by omega)
end Px
end
section
namespace Px
open Go
def PrOK(n:zh)(l:List Int):Prop:=l.length=n.supply.length/\∀p∈l,-1125899906842624<=p/\p<=1125899906842624
structure AccP(φ:Nat)(p:Pool)(s:List zb)(o:List zk)(x:Plan)(y:List Int):Prop where
 len:y.length =(netF φ p s o).arcs.length
 tr:x.transfers=trsI s o (netF φ p s o).arcs (atN y) (netF φ p s o).arcs.length
 feas :(nwOf (netF φ p s o)).Feas (atN (netF φ p s o).supply) (atN y)
 pr:PrOK (netF φ p s o) x.price
 tight :(nwOf (netF φ p s o)).Tight (atN y) (atN x.price)
 cost :(nwOf (netF φ p s o)).costS (atN y)=x.cost
theorem zuw{α:Type}[Inhabited α]{l m:List α}(h:l.length=m.length)(hv:∀j:Nat,j<l.length->gt l (j:Int)=gt m (j:Int)):l=m:=by
 refine List.ext_getElem h λj h1 h2=>?_
 rw[<- z4f h1,<- z4f h2];exact hv j h1
section
variable{φ:Nat}{p:Pool}{s:List zb}{o:List zk}
theorem Val.cost_bd(h:Val φ p s o){y:Nat->Int}(hf :(nwOf (netF φ p s o)).Feas (atN (netF φ p s o).supply) y):0<=(nwOf (netF φ p s o)).costS y/\(nwOf (netF φ p s o)).costS y<=42000000000000:=by
 have hp:=zsb hf;have h1:=h.sumXC_bd hp;have h2:=zdw (m:=o.length) (f:=λk=>z3x s o (XY s o (z8 s o (cF φ p s o) (bF φ p s o)) y (z8 s o (cF φ p s o) (bF φ p s o)).length) k*(gt o (k:Int)).weight) (B:=1000000000000) λk hk=>by have e1:=h.open_bd hp hk;have e2:=h.oc hk;refine⟨w1i e1.1 e2.2.1,?_⟩;have:=w39 e1.2 e2.2.2 e2.2.1 (by omega :(0:Int)<=1000);simpa using this
 have h3:=zsa hf;have ho:=h.ho;rw[show (nwOf (netF φ p s o)).costS y =(nwOf (netN s o (cF φ p s o) (bF φ p s o))).costS y from rfl,<- h3];unfold zla;unfold zkh at h1;omega
theorem zz4(h:Val φ p s o)(x:Plan):∃e,z69 φ p s o x=some (e,())/\(e=0\/e=370)/\(e=0↔∃y,AccP φ p s o x y):=by
 have hφ:=h.hφ;unfold z69;rw[h.net,w04,if_neg (by simp)];obtain⟨y,k,h1,h2⟩:=ya2 h x.transfers;rw[h1,w04]
 -- where a plan is in order,fill gives its flow
 have back:∀z,AccP φ p s o x z->k=true/\y=z:=λz hz=>by obtain⟨x',g1,g2,g3⟩:=y5k h hz.feas;rw[<- hz.tr,h1] at g1;simp only[w00,w0a] at g1;obtain⟨rfl,hk,_⟩:=g1;exact⟨hk,zuw (by rw[g2,hz.len]) λj hj=>g3 j (by rw[<- g2];exact hj)⟩
 cases hk:k with
 |false=>refine⟨370,by rw[gz_f (by simp),w04,if_pos (by simp)],.inr rfl,λe=>by omega,?_⟩;rintro⟨z,hz⟩;have:=(back z hz).1;rw[hk] at this;cases this
 |true=>
  obtain⟨q1,q2⟩:=h2 hk;rw[gz_t (by simp)];obtain⟨e,a1,a2⟩:=znp φ (netF φ p s o) ⟨y,x.price⟩ h.chk (by omega);rw[a1,w04];by_cases he:e=0
  .rw[if_neg (by simp[he])];obtain⟨b1,b2,b3,b4⟩:=a2.1 he;obtain⟨c1,c2⟩:=(zer h.fnet).1 b1;have hcb:=h.cost_bd (y:=atN y) c2;rw[zj8 φ (netF φ p s o) ⟨y,x.price⟩ h.chk (by omega),b1,cond_true];rw[if_pos (show (nwOf (netF φ p s o)).costS (atN y)<=9007199254740992 by omega),w04];by_cases hc :(nwOf (netF φ p s o)).costS (atN y)=x.cost
   .refine⟨0,by rw[if_neg (by simp[hc])],.inl rfl,λ_=>⟨y,⟨q1,q2,c2,⟨b2,b3⟩,b4,hc⟩⟩,λ_=>rfl⟩
   .refine⟨370,by rw[if_pos (by simp[hc])],.inr rfl,λe=>by omega,?_⟩;rintro⟨z,hz⟩;obtain⟨_,rfl⟩:=back z hz;exact absurd hz.cost hc
  .rw[if_pos (by simp[he])];refine⟨370,rfl,.inr rfl,λe=>by omega,?_⟩;rintro⟨z,hz⟩;obtain⟨_,rfl⟩:=back z hz;exact absurd (a2.2 ⟨(zer h.fnet).2 ⟨hz.len,hz.feas⟩,hz.pr.1,hz.pr.2,hz.tight⟩) he
theorem AccP.cheapest{x:Plan}{y:List Int}(h:Val φ p s o)(ha:AccP φ p s o x y):z4v φ p s o x.transfers=some (x.cost,true,())/\∀l:List z7,l.length<=100000->∃c k,z4v φ p s o l=some (c,k,())/\(k=true->x.cost<=c):=by refine⟨by rw[ha.tr,<- ha.cost];exact y3r h ha.feas,λl hl=>?_⟩;obtain⟨c,k,h1,h2⟩:=zz1 h hl;refine⟨c,k,h1,λhk=>?_⟩;obtain⟨z,z1,z2⟩:=h2 hk;rw[<- ha.cost,<- z2];exact Nw.dual h.fnet.nw ha.feas z1 ha.tight
end
theorem zyw(φ:Nat)(hφ:1000<φ)(p:Pool):∃b,z7p φ p=some (b,()):=by
 unfold z7p;split
 .exact⟨false,rfl⟩
 .rename_i hc;simp only[w0w,decide_eq_true_eq,not_or] at hc;obtain⟨⟨⟨⟨⟨⟨c1,c2⟩,c3⟩,c4⟩,c5⟩,c6⟩,c7⟩:=hc;refine z0d (λn i(_:Unit)=>z2j φ n i p) p.railways.length (λ_ _=>True) (λo=>∃b,o=some (b,())) ?_ ?_ φ () trivial (by omega)
  .intro n i _ hi _ hs;rw[z2j,if_pos (by simp;omega),z6 ⟨by omega,by omega⟩,W_id (by omega) (by omega)];split
   .exact⟨false,rfl⟩
   .exact hs () trivial
  .intro n _ _;rw[z2j,if_neg (by simp)];exact⟨true,rfl⟩
theorem y5i(φ:Nat)(hφ:1000<φ)(p:Pool)(s:List zb)(o:List zk):∃b,zh8 φ p s o=some (b,())/\(b=true->s.length<=6/\o.length<=6):=by unfold zh8;obtain⟨b,hb⟩:=zyw φ hφ p;rw[hb,w04];refine⟨_,rfl,λh=>?_⟩;simp only[w02,decide_eq_true_eq] at h;omega
theorem ydr:zcl 100000000=some (true,()):=by kernel_rfl
theorem y1t{φ:Nat}(hφ:800000<φ)(hB:zhp φ)(p:Pool){s:List zb}{o:List zk}(hs:s.length<=6)(ho:o.length<=6):Val φ p s o\/∃e,e≠0/\z4t φ p s o=some (⟨[],[]⟩,e,()):=by
 have h:=y82 hφ hB p hs ho;by_cases hp:z7z p=0
 .rw[if_neg (λe=>e hp)] at h;cases ha:zv1 p s o with
  |true=>exact .inl (ydz hφ hB hp hs ho ha)
  |false=>rw[ha] at h;exact .inr ⟨1,by omega,h⟩
 .rw[if_pos hp] at h;exact .inr ⟨_,hp,h⟩
end Px
end
section
namespace Px
open Go
section
variable{φ:Nat}{p:Pool}{s:List zb}{o:List zk}
theorem Val.mu(h:Val φ p s o):muL (netF φ p s o).supply.length (netF φ p s o).supply<=1000000:=by
 have hs:=h.hs;have ho:=h.ho;have hS:=h.sumS_bd;have hC:=h.sumC_bd;have h1:∀v:Nat,v<(supN s o).length->max (atN (supN s o) v) 0<=24576:=λv hv=>by
  rw[z6l] at hv;by_cases g1:v<s.length
  .rw[zp0 g1];have:=h.sc g1;omega
  .by_cases g2:v<s.length+o.length
   .obtain⟨k,rfl⟩:∃k,v=s.length+k:=⟨v-s.length,by omega⟩;rw[zoz (by omega)];have:=h.oc (k:=k) (by omega);omega
   .by_cases g3:v=s.length+o.length
    .rw[g3,ztr];omega
    .rw[show v=s.length+o.length+1 by omega,zts];omega
 have h2:=zn5 h1;have h3:=z6l s o;show (sumN (supN s o).length λv=>max (atN (supN s o) v) 0)<=1000000;omega
theorem zxo(h:Val φ p s o)(f:Flow)(lx:f.x.length =(netF φ p s o).arcs.length)(c:Int):
  z0j φ φ s o (netF φ p s o).arcs ((netF φ p s o).arcs.length:Int) 0 c f.price f []=some (⟨trsI s o (netF φ p s o).arcs (atN f.x) (netF φ p s o).arcs.length,c,f.price⟩,0,()):=by
 have hs:=h.hs;have ho:=h.ho;have hφ:=h.hφ;have hal:=z8q s o (cF φ p s o) (bF φ p s o) hs ho;have hal :(netF φ p s o).arcs.length<=49:=hal;have hu:W ((s.length:Int)+(o.length:Int))=nodU s o:=W_id (by omega) (by omega);refine z0d (λm i acc=>z0j φ m s o (netF φ p s o).arcs ((netF φ p s o).arcs.length:Int) i c f.price f acc) (netF φ p s o).arcs.length (λi acc=>acc=trsI s o (netF φ p s o).arcs (atN f.x) i) (λr=>r=some (⟨trsI s o (netF φ p s o).arcs (atN f.x) (netF φ p s o).arcs.length,c,f.price⟩,0,())) ?_ ?_ φ [] rfl (by omega)
 .intro m i acc hi hI hg;have hlen:=zvk (s:=s) (o:=o) (c:=cF φ p s o) (b:=bF φ p s o) (atN f.x) i;have hlen :(trsI s o (netF φ p s o).arcs (atN f.x) i).length<=i:=hlen;have hr:=zl0 (s:=s) (o:=o) (c:=cF φ p s o) (b:=bF φ p s o) (j:=i) hi;have hr :(0<=(gt (netF φ p s o).arcs (i:Int)).from_/\_)/\(0<=(gt (netF φ p s o).arcs (i:Int)).to/\(gt (netF φ p s o).arcs (i:Int)).to<(s.length:Int)+(o.length:Int)+2)/\_:=hr;have hW1:W ((gt (netF φ p s o).arcs (i:Int)).to-(s.length:Int)) =(gt (netF φ p s o).arcs (i:Int)).to-(s.length:Int):=W_id (by omega) (by omega);have hW:W ((i:Int)+1) =(i:Int)+1:=W_id (by omega) (by omega);have ex:gt f.x (i:Int)=atN f.x i:=rfl;have hp :(decide ((gt (netF φ p s o).arcs (i:Int)).from_<(s.length:Int))&&decide ((gt (netF φ p s o).arcs (i:Int)).to<nodU s o))=z4l s o (gt (netF φ p s o).arcs (i:Int)):=rfl;show z0j φ (m+1) s o (netF φ p s o).arcs ((netF φ p s o).arcs.length:Int) (i:Int) c f.price f acc=_;rw[z0j,if_pos (by simp;omega),z6 ⟨by omega,by omega⟩,hu,hp,z6 (λ_=>⟨by omega,by omega⟩),ex,hW1,hW];have hsucc:=zcp s o (netF φ p s o).arcs (atN f.x) i;unfold trT at hsucc;cases hc :(z4l s o (gt (netF φ p s o).arcs (i:Int))&&decide (0<atN f.x i)) with
  |true=>rw[hc] at hsucc;rw[if_pos rfl,z6 ⟨by omega,by omega⟩,z6 (by rw[hI];simp[fits];omega)];exact hg _ (by rw[hI,hsucc];rfl)
  |false=>rw[hc] at hsucc;rw[if_neg (by simp)];exact hg _ (by rw[hI,hsucc];simp)
 .intro m acc hI;show z0j φ (m+1) s o (netF φ p s o).arcs ((netF φ p s o).arcs.length:Int) ((netF φ p s o).arcs.length:Int) c f.price f acc=_;rw[z0j,if_neg (by simp),hI]
theorem y44(h:Val φ p s o)(hφ:60000000<φ):∃x y,z5r φ p s o=some (x,0,())/\AccP φ p s o x y:=by
 have hmu:=h.mu;obtain⟨f,h1,h2⟩:=y4a (φ:=φ) h.chk (by omega) (by omega) h.poss0.feas;have hcb:=h.cost_bd (y:=atN f.x) h2.feas;have hfB:zpu (netF φ p s o) f=true:=(zer h.fnet).2 ⟨h2.lx,h2.feas⟩;refine⟨⟨trsI s o (netF φ p s o).arcs (atN f.x) (netF φ p s o).arcs.length,(nwOf (netF φ p s o)).costS (atN f.x),f.price⟩,f.x,?_,⟨h2.lx,rfl,h2.feas,⟨h2.lp,λq hq=>?_⟩,h2.tight,rfl⟩⟩
 .unfold z5r;rw[h.net,w04,if_neg (by simp),h1,w04,if_neg (by simp),zj8 φ (netF φ p s o) f h.chk (by omega),hfB,cond_true,if_pos (show (nwOf (netF φ p s o)).costS (atN f.x)<=9007199254740992 by omega),w04];exact zxo h f h2.lx _
 .obtain⟨j,hj,e⟩:=w2f hq;have:=h2.pr j (by rw[<- h2.lp];exact hj);have e2:atN f.price j=q:=by unfold atN;rw[z4f hj];exact e
  omega
theorem zz5{e:Int}(h:z4t φ p s o=some (⟨[],[]⟩,e,()))(he:e≠0):z5r φ p s o=some (⟨[],0,[]⟩,e,()):=by unfold z5r;rw[h,w04,if_pos (by simpa using he)]
end
theorem AccP.acc{φ:Nat}{p:Pool}{s:List zb}{o:List zk}(h:Val φ p s o){x:Plan}{y:List Int}(ha:AccP φ p s o x y):z69 φ p s o x=some (0,()):=by obtain⟨e,a1,a2,a3⟩:=zz4 h x;rw[a1,a3.2 ⟨y,ha⟩]
theorem zu6{φ:Nat}(hφ:60000000<φ)(hB:zhp φ)(hsane:zcl φ=some (true,()))(p:Pool)(s:List zb)(o:List zk)(other:List z7):z39 φ p s o other=some (true,()):=by
 unfold z39;obtain⟨b,h1,h2⟩:=y5i φ (by omega) p s o;rw[hsane,w04,if_neg (by simp),h1,w04];by_cases hc :((!b)||(decide ((20:Int)<(other.length:Int))))=true
 .rw[if_pos hc]
 .rw[if_neg hc];simp only[w0w,w0t,decide_eq_true_eq,not_or,Bool.not_eq_false] at hc;obtain⟨hs,ho⟩:=h2 hc.1;rcases y1t (by omega) hB p hs ho with hv|⟨e,he,hn⟩
  .obtain⟨x,y,b1,b2⟩:=y44 hv hφ;obtain⟨t1,t2⟩:=b2.cheapest hv;obtain⟨c,k,u1,u2⟩:=t2 other (by omega);rw[hv.net,w04,b1,w04,if_neg (by simp),t1,w04,u1,w04,gz_t (by simp),b2.acc hv,w04];cases k with
   |false=>simp
   |true=>have:=u2 rfl;simp[this]
  .rw[hn,w04,zz5 hn he,w04,if_pos (by simpa using he)];simp
end Px
end
section
namespace Px
open Go
theorem y8f{n b:Nat}(h:n<=100000)(hb:b<=1000):fits n b:=by unfold fits;have:n*b<=100000*1000:=Nat.mul_le_mul h hb;omega
abbrev Ln:=List ((Nat->Int)×Int)
abbrev keyP(a b:Int):Nat->Int:=upd (upd (λ_=>(default:Int)) 0 a) 1 b
abbrev lget(m:Ln)(a b:Int):Option Int:=cget z54 m (keyP a b)
abbrev lset(m:Ln)(a b i:Int):Ln:=cset z54 m (keyP a b) i
theorem kl32(f:Nat->Int):z54 f = [f 0,f 1]:=rfl
theorem yaq(a b c d:Int):(z54 (keyP c d)==z54 (keyP a b)) =(c==a&&d==b):=by rw[kl32,kl32];show ([c,d]==[a,b])=_;simp
theorem zgp{κ ν:Type}(e:κ->List Int)(k k':κ)(v:ν):∀m:List (κ×ν),cget e (cset e m k v) k'=bif e k'==e k then some v else cget e m k'
 | []=>rfl
 |(a,b)::m=>by
  unfold cset;cases h1 :(e k==e a) with
  |true=>have h1:=beq_iff_eq.1 h1;rw[cond_true];show (bif e k'==e k then some v else cget e m k')=bif e k'==e k then some v else(bif e k'==e a then some b else cget e m k');rw[h1];cases (e k'==e a)<;>rfl
  |false=>
   rw[cond_false];cases h2:ltI (e k) (e a) with
   |true=>rfl
   |false=>
    rw[cond_false];show (bif e k'==e a then some b else cget e (cset e m k v) k')=bif e k'==e k then some v else(bif e k'==e a then some b else cget e m k');rw[zgp e k k' v m];cases h3 :(e k'==e a) with
    |false=>rfl
    |true=>
     have h3:=beq_iff_eq.1 h3;rw[h3];have :(e a==e k)=false:=by rw[<- w3s,beq_iff_eq];intro g;rw[g] at h1;simp at h1
     rw[this];rfl
theorem zm4(m:Ln)(a b i c d:Int):lget (lset m a b i) c d=if c=a/\d=b then some i else lget m c d:=by
 show cget z54 (cset z54 m (keyP a b) i) (keyP c d)=_;rw[zgp,yaq];by_cases h:c=a/\d=b
 .rw[if_pos h];simp[h]
 .rw[if_neg h];have :(c==a&&d==b)=false:=by rw[<- w3s];simpa using h
  rw[this];rfl
theorem y6q{b:Bool}(h:¬(!b)=true):b=true:=by cases b<;>simp_all
def ent1(es:List Edge)(i a b:Int)(s:List (List Int)×Ln):List (List Int)×Ln:=
 (if(!(lget s.2 a b).isSome)=true then zq s.1 a (gt s.1 a++[b]) else s.1,
  if(!(lget s.2 a b).isSome||decide ((gt es i).minutes<(gt es ((lget s.2 a b).getD default)).minutes))=true then lset s.2 a b i else s.2)
def entE(es:List Edge)(i:Int)(s:List (List Int)×Ln):List (List Int)×Ln:=ent1 es i (gt es i).b (gt es i).a (ent1 es i (gt es i).a (gt es i).b s)
structure GI(es:List Edge)(P k:Nat)(s:List (List Int)×Ln):Prop where
 len:s.1.length=P
 near:∀a b:Int,0<=a->a<(P:Int)->(b∈gt s.1 a↔(lget s.2 a b).isSome=true)
 line:∀a b i:Int,lget s.2 a b=some i->0<=i/\i<(k:Int)/\(((gt es i).a=a/\(gt es i).b=b)\/((gt es i).a=b/\(gt es i).b=a))
 size:∀a:Int,0<=a->a<(P:Int)->(gt s.1 a).length<=2*k
structure HI(es:List Edge)(P k:Nat)(s:List (List Int)×Ln):Prop extends GI es P k s where
 sym:∀a b:Int,lget s.2 a b=lget s.2 b a
theorem y5t(es:List Edge)(P:Nat):HI es P 0 (List.replicate P (default:List Int),[]) where
 len:=by simp
 near:=λa b h0 h1=>by rw[zew _ _ _ h0 (by omega)];show b∈([]:List Int)↔_;simp[lget,cget]
 line:=λa b i h=>by simp[lget,cget] at h
 size:=λa h0 h1=>by rw[zew _ _ _ h0 (by omega)];simp;rfl
 sym:=λa b=>rfl
theorem y9y{es:List Edge}{P k:Nat}{s:List (List Int)×Ln}(h:GI es P k s){a b:Int}(ha:0<=a)(ha':a<(P:Int))(he :((gt es (k:Int)).a=a/\(gt es (k:Int)).b=b)\/((gt es (k:Int)).a=b/\(gt es (k:Int)).b=a)):
  (ent1 es k a b s).1.length=P/\(∀c d:Int,0<=c->c<(P:Int)->(d∈gt (ent1 es k a b s).1 c↔(lget (ent1 es k a b s).2 c d).isSome=true))/\
  (∀c d i:Int,lget (ent1 es k a b s).2 c d=some i->0<=i/\i<((k+1:Nat):Int)/\(((gt es i).a=c/\(gt es i).b=d)\/((gt es i).a=d/\(gt es i).b=c)))/\
  (∀c:Int,0<=c->c<(P:Int)->(gt (ent1 es k a b s).1 c).length<=(gt s.1 c).length+1)/\
  (∀c d:Int,¬(c=a/\d=b)->lget (ent1 es k a b s).2 c d=lget s.2 c d)/\
  lget (ent1 es k a b s).2 a b =(if(!(lget s.2 a b).isSome||decide ((gt es (k:Int)).minutes<(gt es ((lget s.2 a b).getD default)).minutes))=true then some (k:Int) else lget s.2 a b):=by
 have hl2:∀c d:Int,lget (ent1 es k a b s).2 c d=if(c=a/\d=b) then(if(!(lget s.2 a b).isSome||decide ((gt es (k:Int)).minutes<(gt es ((lget s.2 a b).getD default)).minutes))=true then some (k:Int) else lget s.2 a b) else lget s.2 c d:=by
  intro c d;unfold ent1;simp only[];split
  .rw[zm4]
  .split
   .rename_i q;rw[q.1,q.2]
   .rfl
 have hsm :(lget (ent1 es k a b s).2 a b).isSome=true:=by
  rw[hl2,if_pos ⟨rfl,rfl⟩];split
  .rfl
  .rename_i q;simp only[w0w,not_or] at q;exact y6q q.1
 refine⟨?_,?_,?_,?_,λc d hcd=>by rw[hl2,if_neg hcd],by rw[hl2,if_pos ⟨rfl,rfl⟩]⟩
 .unfold ent1;simp only[];split
  .rw[zw];exact h.len
  .exact h.len
 .intro c d hc hc';by_cases hcd:c=a/\d=b
  .obtain⟨rfl,rfl⟩:=hcd;rw[hsm];refine⟨λ_=>rfl,λ_=>?_⟩;unfold ent1;simp only[];split
   .rw[z04 _ _ _ _ hc (by rw[h.len];exact hc') hc,if_pos rfl];simp
   .rename_i q;exact(h.near c d hc hc').2 (y6q q)
  .rw[hl2,if_neg hcd,<- h.near c d hc hc'];unfold ent1;simp only[];split
   .rw[z04 _ _ _ _ ha (by rw[h.len];exact ha') hc];by_cases e:c=a
    .subst e;rw[if_pos rfl];simp only[w0k,w0d];exact⟨λq=>q.resolve_right (λe=>hcd ⟨rfl,e⟩),.inl⟩
    .rw[if_neg e]
   .exact Iff.rfl
 .intro c d i hi;rw[hl2] at hi;split at hi
  .rename_i q;obtain⟨rfl,rfl⟩:=q;split at hi
   .have:=w0f hi
    subst this;exact⟨by omega,by omega,he⟩
   .obtain⟨h1,h2,h3⟩:=h.line _ _ _ hi;exact⟨h1,by omega,h3⟩
  .obtain⟨h1,h2,h3⟩:=h.line _ _ _ hi;exact⟨h1,by omega,h3⟩
 .intro c hc hc';unfold ent1;simp only[];split
  .rw[z04 _ _ _ _ ha (by rw[h.len];exact ha') hc];split
   .rename_i e;subst e;simp
   .omega
  .omega
theorem y9z{es:List Edge}{P k:Nat}{s:List (List Int)×Ln}(h:HI es P k s)(ha:0<=(gt es (k:Int)).a)(ha' :(gt es (k:Int)).a<(P:Int))(hb:0<=(gt es (k:Int)).b)(hb' :(gt es (k:Int)).b<(P:Int))(hne :(gt es (k:Int)).a≠(gt es (k:Int)).b):
  HI es P (k+1) (entE es k s):=by
 obtain⟨a1,a2,a3,a4,a5,a6⟩:=y9y h.toGI ha ha' (.inl ⟨rfl,rfl⟩);unfold entE;generalize hs1:ent1 es k (gt es (k:Int)).a (gt es (k:Int)).b s=s1 at *;generalize (gt es (k:Int)).a=a at *;generalize (gt es (k:Int)).b=b at *
 -- the second end,by the same law: only the bound on the numbers has moved
 have hl2:∀c d:Int,lget (ent1 es k b a s1).2 c d=if(c=b/\d=a) then(if(!(lget s1.2 b a).isSome||decide ((gt es (k:Int)).minutes<(gt es ((lget s1.2 b a).getD default)).minutes))=true then some (k:Int) else lget s1.2 b a) else lget s1.2 c d:=by
  intro c d;unfold ent1;simp only[];split
  .rw[zm4]
  .split
   .rename_i q;rw[q.1,q.2]
   .rfl
 have hba:lget s1.2 b a=lget s.2 a b:=by rw[a5 b a (λq=>hne q.2),h.sym]
 have hsm :(lget (ent1 es k b a s1).2 b a).isSome=true:=by
  rw[hl2,if_pos ⟨rfl,rfl⟩];split
  .rfl
  .rename_i q;simp only[w0w,not_or] at q;exact y6q q.1
 have hlab:lget (ent1 es k b a s1).2 a b=lget s1.2 a b:=by rw[hl2,if_neg (λq=>hne q.1)]
 have hlba:lget (ent1 es k b a s1).2 b a=lget s1.2 a b:=by rw[hl2,if_pos ⟨rfl,rfl⟩,hba,a6]
 have hab :((gt es (k:Int)).a=a/\(gt es (k:Int)).b=b)\/((gt es (k:Int)).a=b/\(gt es (k:Int)).b=a)->True:=λ_=>trivial
 refine⟨⟨?_,?_,?_,?_⟩,?_⟩
 .unfold ent1;simp only[];split
  .rw[zw];exact a1
  .exact a1
 .intro c d hc hc';by_cases hcd:c=b/\d=a
  .obtain⟨rfl,rfl⟩:=hcd;rw[hsm];refine⟨λ_=>rfl,λ_=>?_⟩;unfold ent1;simp only[];split
   .rw[z04 _ _ _ _ hc (by rw[a1];exact hc') hc,if_pos rfl];simp
   .rename_i q;exact(a2 c d hc hc').2 (y6q q)
  .rw[hl2,if_neg hcd,<- a2 c d hc hc'];unfold ent1;simp only[];split
   .rw[z04 _ _ _ _ hb (by rw[a1];exact hb') hc];by_cases e:c=b
    .subst e;rw[if_pos rfl];simp only[w0k,w0d];exact⟨λq=>q.resolve_right (λe=>hcd ⟨rfl,e⟩),.inl⟩
    .rw[if_neg e]
   .exact Iff.rfl
 .intro c d i hi;by_cases hcd:c=b/\d=a
  .obtain⟨rfl,rfl⟩:=hcd;rw[hlba] at hi;obtain⟨h1,h2,h3⟩:=a3 _ _ _ hi;exact⟨h1,h2,h3.elim .inr .inl⟩
  .rw[hl2,if_neg hcd] at hi;exact a3 _ _ _ hi
 .intro c hc hc';have h1:=a4 c hc hc';have h0:=h.size c hc hc';have h2 :(gt (ent1 es k b a s1).1 c).length<=(gt s1.1 c).length+1:=by
   unfold ent1;simp only[];split
   .rw[z04 _ _ _ _ hb (by rw[a1];exact hb') hc];split
    .rename_i e;subst e;simp
    .omega
   .omega
  omega
 .intro c d;by_cases h1:c=b/\d=a
  .obtain⟨rfl,rfl⟩:=h1;rw[hlba,hlab]
  .by_cases h2:c=a/\d=b
   .obtain⟨rfl,rfl⟩:=h2;rw[hlab,hlba]
   .rw[hl2,if_neg h1,hl2,if_neg (λq=>h2 ⟨q.2,q.1⟩),a5 c d h2,a5 d c (λq=>h1 ⟨q.2,q.1⟩),h.sym]
def zj3(es:List Edge)(P:Nat):Nat->List (List Int)×Ln
 |0=>(List.replicate P default,[])
 |k+1=>entE es k (zj3 es P k)
structure zkx(x:z02):Prop where
 places:x.places.length<=512
 edges:x.edges.length<=2048
 edge:∀i:Int,0<=i->i<(x.edges.length:Int)->zfb x.places.length (gt x.edges i)=true
theorem yd0{x:z02}(h:za4 x=0):zkx x:=by obtain⟨h1,h2,_,h4⟩:=zl8 h;exact⟨h1,h2,λi h0 hi=>h4 _ (z8t h0 hi)⟩
theorem zkx.ends{x:z02}(h:zkx x){i:Int}(h0:0<=i)(hi:i<(x.edges.length:Int)):0<=(gt x.edges i).a/\(gt x.edges i).a<(x.places.length:Int)/\0<=(gt x.edges i).b/\(gt x.edges i).b<(x.places.length:Int)/\
  (gt x.edges i).a≠(gt x.edges i).b/\0<=(gt x.edges i).railway/\(gt x.edges i).railway<=15/\1<=(gt x.edges i).minutes/\(gt x.edges i).minutes<=100000/\0<=(gt x.edges i).km/\(gt x.edges i).km<=10000:=by
 have:=h.edge i h0 hi;simp only[zfb,w02,z6m,bne_iff_ne,ne_eq] at this;obtain⟨⟨⟨⟨⟨q1,q2⟩,q3⟩,q4⟩,q5⟩,q6⟩:=this;exact⟨q1.1,by omega,q2.1,by omega,q3,q4.1,q4.2,q5.1,q5.2,q6.1,q6.2⟩
theorem zfj{x:z02}(h:zkx x):∀k,k<=x.edges.length->HI x.edges x.places.length k (zj3 x.edges x.places.length k)
 |0,_=>y5t _ _
 |k+1,hk=>by obtain⟨a1,a2,a3,a4,a5,_⟩:=h.ends (i:=(k:Int)) (by omega) (by omega);exact y9z (zfj h k (by omega)) a1 a2 a3 a4 a5
structure Gr(P:Nat)(near:List (List Int))(wt:Int->Int->Int):Prop where
 len:near.length=P
 small:P<=512
 size:∀a:Int,0<=a->a<(P:Int)->(gt near a).length<=5000
 rng:∀a b:Int,0<=a->a<(P:Int)->b∈gt near a->0<=b/\b<(P:Int)
 sym:∀a b:Int,0<=a->a<(P:Int)->b∈gt near a->a∈gt near b/\wt b a=wt a b
 wt:∀a b:Int,0<=a->a<(P:Int)->b∈gt near a->1<=wt a b/\wt a b<=100000
def zb5(x:z02):Ln:=(zj3 x.edges x.places.length x.edges.length).2
def wtN(x:z02)(a b:Int):Int:=(gt x.edges ((lget (zb5 x) a b).getD default)).minutes
def zh9(x:z02):List (List Int):=(zj3 x.edges x.places.length x.edges.length).1
def z5z(x:z02):List (List Int):=(zh9 x).map λl=>zqe (λa b=>decide (a<b)) l
theorem y0o{α β:Type}[Inhabited α][Inhabited β](f:α->β)(l:List α){i:Int}(h0:0<=i)(h:i<(l.length:Int)):gt (l.map f) i=f (gt l i):=by obtain⟨n,rfl⟩:∃n:Nat,i =(n:Int):=⟨i.toNat,by omega⟩;rw[z4f (by simp;omega),z4f (by omega)];simp
theorem zqn{x:z02}(h:zkx x){a b:Int}(ha:0<=a)(ha':a<(x.places.length:Int))(hb:b∈gt (z5z x) a):∃i,lget (zb5 x) a b=some i/\0<=i/\i<(x.edges.length:Int)/\(((gt x.edges i).a=a/\(gt x.edges i).b=b)\/((gt x.edges i).a=b/\(gt x.edges i).b=a)):=by have H:=zfj h x.edges.length (w0x _);unfold z5z at hb;rw[y0o _ _ ha (by show a<((zh9 x).length:Int);rw[show (zh9 x).length=_ from H.len];exact ha')] at hb;have hb:=(z9z _ _).mem_iff.1 hb;have:=(H.near a b ha ha').1 hb;obtain⟨i,hi⟩:=w11.1 this;obtain⟨h1,h2,h3⟩:=H.line _ _ _ hi;exact⟨i,hi,h1,h2,h3⟩
theorem grN{x:z02}(h:zkx x):Gr x.places.length (z5z x) (wtN x):=by
 have H:=zfj h x.edges.length (w0x _);have hlen :(z5z x).length=x.places.length:=by unfold z5z;rw[w1e];exact H.len
 have hl0 :(zh9 x).length=x.places.length:=H.len;have hmem:∀a b:Int,0<=a->a<(x.places.length:Int)->(b∈gt (z5z x) a↔(lget (zb5 x) a b).isSome=true):=by intro a b ha ha';unfold z5z;rw[y0o _ _ ha (by rw[hl0];exact ha')];exact((z9z _ _).mem_iff).trans (H.near a b ha ha')
 refine⟨hlen,h.places,?_,?_,?_,?_⟩
 .intro a ha ha';unfold z5z;rw[y0o _ _ ha (by rw[hl0];exact ha'),(z9z _ _).length_eq];have:=H.size a ha ha';have:=h.edges;show (gt (zj3 x.edges x.places.length x.edges.length).1 a).length<=_;omega
 .intro a b ha ha' hb;obtain⟨i,_,h1,h2,h3⟩:=zqn h ha ha' hb;obtain⟨e1,e2,e3,e4,_⟩:=h.ends h1 h2;rcases h3 with⟨rfl,rfl⟩|⟨rfl,rfl⟩
  .exact⟨e3,e4⟩
  .exact⟨e1,e2⟩
 .intro a b ha ha' hb;obtain⟨i,hi,h1,h2,h3⟩:=zqn h ha ha' hb;obtain⟨e1,e2,e3,e4,_⟩:=h.ends h1 h2;have hbr:0<=b/\b<(x.places.length:Int):=by
   rcases h3 with⟨rfl,rfl⟩|⟨rfl,rfl⟩
   .exact⟨e3,e4⟩
   .exact⟨e1,e2⟩
  have hs:lget (zb5 x) b a=lget (zb5 x) a b:=H.sym b a;refine⟨(hmem b a hbr.1 hbr.2).2 (by rw[hs,hi];rfl),?_⟩;unfold wtN;rw[hs]
 .intro a b ha ha' hb;obtain⟨i,hi,h1,h2,_⟩:=zqn h ha ha' hb;obtain⟨_,_,_,_,_,_,_,e1,e2,_⟩:=h.ends h1 h2;unfold wtN;rw[hi];exact⟨e1,e2⟩
structure DI(P:Nat)(near:List (List Int))(wt:Int->Int->Int)(s:Int)(k:Nat)(t:List Int)(d:List Bool):Prop where
 lt:t.length=P
 ld:d.length=P
 src:gt t s=0
 bd:∀i:Int,0<=i->i<(P:Int)->gt t i=-1\/(0<=gt t i/\gt t i<=100000*k)
 don:∀i:Int,0<=i->i<(P:Int)->gt d i=true->0<=gt t i
 pre:∀a:Int,0<=a->a<(P:Int)->a≠s->0<=gt t a->∃q,0<=q/\q<(P:Int)/\gt d q=true/\q∈gt near a/\gt t a=gt t q+wt q a
 mon:∀q i:Int,0<=q->q<(P:Int)->0<=i->i<(P:Int)->gt d q=true->gt d i=false->0<=gt t i->gt t q<=gt t i
 nbr:∀q i:Int,0<=q->q<(P:Int)->gt d q=true->i∈gt near q->0<=gt t i/\gt t i<=gt t q+wt q i
 cnt:d.count true=k
structure RndI(P:Nat)(near:List (List Int))(wt:Int->Int->Int)(s p:Int)(k:Nat)(t0:List Int)(d:List Bool)(seen:List Int)(t:List Int):Prop where
 lt:t.length=P
 own:gt t p=gt t0 p
 val:∀i:Int,0<=i->i<(P:Int)->gt t i=gt t0 i\/(i∈seen/\gt t i=gt t0 p+wt p i/\(gt t0 i<0\/gt t0 p+wt p i<gt t0 i))
 got:∀i∈seen,0<=i->0<=gt t i/\gt t i<=gt t p+wt p i
end Px
end
section
namespace Px
open Go
section
variable{P:Nat}{near:List (List Int)}{wt:Int->Int->Int}{s:Int}
theorem y2y{p:Int}{k:Nat}{t0:List Int}{d:List Bool}(h:DI P near wt s k t0 d):RndI P near wt s p k t0 d [] t0:=⟨h.lt,rfl,λi _ _=>.inl rfl,λi hi=>by cases hi⟩
theorem y7j(hG:Gr P near wt){p:Int}(hp:0<=p)(hp':p<(P:Int)){k:Nat}{t0:List Int}{d:List Bool}(hp0:0<=gt t0 p){seen t:List Int}(h:RndI P near wt s p k t0 d seen t){q:Int}(hq:q∈gt near p):
  RndI P near wt s p k t0 d (seen++[q]) (if(decide (gt t q<0)||decide (gt t p+wt p q<gt t q))=true then zq t q (gt t p+wt p q) else t):=by
 obtain⟨q0,q1⟩:=hG.rng p q hp hp' hq;obtain⟨w0,w1⟩:=hG.wt p q hp hp' hq;have hown:=h.own;by_cases c:gt t q<0\/gt t p+wt p q<gt t q
 .rw[if_pos (by simpa using c)];have hqp:q≠p:=λe=>by subst e;omega
  refine⟨by rw[zw];exact h.lt,?_,λi h0 h1=>?_,λi hi hneg=>?_⟩
  .rw[z04 _ _ _ _ q0 (by rw[h.lt];exact q1) hp,if_neg (λe=>hqp e.symm)];exact hown
  .rw[z04 _ _ _ _ q0 (by rw[h.lt];exact q1) h0];by_cases e:i=q
   .subst e;rw[if_pos rfl];refine .inr ⟨by simp,by rw[hown],?_⟩;rcases h.val i h0 h1 with h2|⟨_,h2,_⟩
    .rw[h2,hown] at c;exact c
    .rw[h2,hown] at c;exfalso;omega
   .rw[if_neg e];rcases h.val i h0 h1 with h2|⟨h2,h3,h4⟩
    .exact .inl h2
    .exact .inr ⟨w1c _ h2,h3,h4⟩
  .by_cases e:i=q
   .subst e;rw[z04 _ _ _ _ q0 (by rw[h.lt];exact q1) q0,if_pos rfl,z04 _ _ _ _ q0 (by rw[h.lt];exact q1) hp,if_neg (λe=>hqp e.symm)];omega
   .have hi:i∈seen:=by
     rcases w0k.1 hi with hi|hi
     .exact hi
     .exact absurd (w0d.1 hi) e
    rw[z04 _ _ _ _ q0 (by rw[h.lt];exact q1) hneg,if_neg e,z04 _ _ _ _ q0 (by rw[h.lt];exact q1) hp,if_neg (λe=>hqp e.symm)];exact h.got i hi hneg
 .rw[if_neg (by simpa using c)];refine⟨h.lt,hown,λi h0 h1=>?_,λi hi hneg=>?_⟩
  .rcases h.val i h0 h1 with h2|⟨h2,h3,h4⟩
   .exact .inl h2
   .exact .inr ⟨w1c _ h2,h3,h4⟩
  .rcases w0k.1 hi with hi|hi
   .exact h.got i hi hneg
   .rw[w0d.1 hi];omega
theorem zua{d:List Bool}{p:Int}(hp:0<=p)(hp':p<(d.length:Int))(h:gt d p=false):(zq d p true).count true=d.count true+1:=by
 obtain⟨n,rfl⟩:∃n:Nat,p =(n:Int):=⟨p.toNat,by omega⟩;have hn:n<d.length:=by omega
 rw[z4f hn] at h;unfold zq;rw[w1q,List.count_set hn,h];simp
theorem y7k(hG:Gr P near wt){p:Int}(hp:0<=p)(hp':p<(P:Int)){k:Nat}{t0:List Int}{d:List Bool}(h:DI P near wt s k t0 d)(hs:0<=s)(hs':s<(P:Int))(hp0:0<=gt t0 p)(hd:gt d p=false)
  (hmin:∀i:Int,0<=i->i<(P:Int)->0<=gt t0 i->gt d i=false->gt t0 p<=gt t0 i) {t:List Int} (hr:RndI P near wt s p k t0 d (gt near p) t):DI P near wt s (k+1) t (zq d p true):=by
 have hds:∀i:Int,0<=i->gt (zq d p true) i=if i=p then true else gt d i:=λi hi=>z04 _ _ _ _ hp (by rw[h.ld];exact hp') hi
 have hw:∀i,i∈gt near p->1<=wt p i/\wt p i<=100000:=λi hi=>hG.wt p i hp hp' hi
 -- what is done stays
 have hdone:∀i:Int,0<=i->i<(P:Int)->gt d i=true->gt t i=gt t0 i:=by
  intro i h0 h1 hdi;rcases hr.val i h0 h1 with h2|⟨h2,h3,h4⟩
  .exact h2
  .have:=hw i h2
   have:=h.don i h0 h1 hdi;have:=h.mon i p h0 h1 hp hp' hdi hd hp0;omega
 have hbdp:=(h.bd p hp hp').resolve_left (by omega);refine⟨hr.lt,by rw[zw];exact h.ld,?_,λi h0 h1=>?_,λi h0 h1 hdi=>?_,λa h0 h1 has hta=>?_,λq i q0 q1 h0 h1 hdq hdi hti=>?_,λq i q0 q1 hdq hin=>?_,?_⟩
 .rcases hr.val s hs hs' with h2|⟨h2,h3,h4⟩
  .rw[h2,h.src]
  .have:=hw s h2
   have:=h.src;omega
 .rcases hr.val i h0 h1 with h2|⟨h2,h3,h4⟩
  .rw[h2];rcases h.bd i h0 h1 with h5|h5
   .exact .inl h5
   .right;omega
  .have:=hw i h2
   right;omega
 .rw[hds i h0] at hdi;by_cases e:i=p
  .subst e;rw[hr.own];exact hp0
  .rw[if_neg e] at hdi;rw[hdone i h0 h1 hdi];exact h.don i h0 h1 hdi
 .rcases hr.val a h0 h1 with h2|⟨h2,h3,h4⟩
  .rw[h2] at hta⊢;obtain⟨q,q0,q1,hdq,hqn,he⟩:=h.pre a h0 h1 has hta;refine⟨q,q0,q1,?_,hqn,by rw[hdone q q0 q1 hdq];exact he⟩;rw[hds q q0];split
   .rfl
   .exact hdq
  .obtain⟨hsy,hwt⟩:=hG.sym p a hp hp' h2;exact⟨p,hp,hp',by rw[hds p hp,if_pos rfl],hsy,by rw[hr.own,h3]⟩
 .rw[hds q q0] at hdq;rw[hds i h0] at hdi;have hip:i≠p:=λe=>by rw[if_pos e] at hdi;cases hdi
  rw[if_neg hip] at hdi;have hge:gt t0 p<=gt t i:=by
   rcases hr.val i h0 h1 with h2|⟨h2,h3,h4⟩
   .rw[h2] at hti⊢;exact hmin i h0 h1 hti hdi
   .have:=hw i h2;omega
  by_cases e:q=p
  .subst e;rw[hr.own];exact hge
  .rw[if_neg e] at hdq;have:=h.mon q p q0 q1 hp hp' hdq hd hp0;rw[hdone q q0 q1 hdq];omega
 .rw[hds q q0] at hdq;by_cases e:q=p
  .subst e;exact hr.got i hin (hG.rng q i hp hp' hin).1
  .rw[if_neg e] at hdq;obtain⟨i0,i1⟩:=hG.rng q i q0 q1 hin;have:=h.nbr q i q0 q1 hdq hin;rw[hdone q q0 q1 hdq];rcases hr.val i i0 i1 with h2|⟨h2,h3,h4⟩
   .rw[h2];exact this
   .have:=hw i h2;omega
 .rw[zua hp (by rw[h.ld];exact hp') hd,h.cnt]
structure DF(P:Nat)(near:List (List Int))(wt:Int->Int->Int)(s:Int)(t:List Int):Prop where
 lt:t.length=P
 src:gt t s=0
 bd:∀i:Int,0<=i->i<(P:Int)->gt t i=-1\/(0<=gt t i/\gt t i<=51200000)
 pre:∀a:Int,0<=a->a<(P:Int)->a≠s->0<=gt t a->∃q,0<=q/\q<(P:Int)/\q∈gt near a/\0<=gt t q/\gt t a=gt t q+wt q a
 nbr:∀q i:Int,0<=q->q<(P:Int)->0<=gt t q->i∈gt near q->0<=gt t i/\gt t i<=gt t q+wt q i
theorem ye8(hG:Gr P near wt){k:Nat}{t:List Int}{d:List Bool}(h:DI P near wt s k t d)(hall:∀i:Int,0<=i->i<(P:Int)->0<=gt t i->gt d i=true):DF P near wt s t:=by
 have hk:k<=P:=by rw[<- h.cnt,<- h.ld];exact w4k
 have:=hG.small;refine⟨h.lt,h.src,λi h0 h1=>?_,λa h0 h1 ha hta=>?_,λq i q0 q1 hq hi=>h.nbr q i q0 q1 (hall q q0 q1 hq) hi⟩
 .rcases h.bd i h0 h1 with h2|h2
  .exact .inl h2
  .right;omega
 .obtain⟨q,q0,q1,hdq,hqn,he⟩:=h.pre a h0 h1 ha hta;exact⟨q,q0,q1,hqn,h.don q q0 q1 hdq,he⟩
theorem y5e(hs:0<=s)(hs':s<(P:Int))(t:List Int)(ht:t.length=P)(hall:∀i:Int,0<=i->i<(P:Int)->gt t i=if i=s then 0 else-1):DI P near wt s 0 t (List.replicate P (default:Bool)):=by
 have hd:∀i:Int,0<=i->i<(P:Int)->gt (List.replicate P (default:Bool)) i=false:=λi h0 h1=>by rw[zew _ _ _ h0 (by omega)];rfl
 refine⟨ht,by simp,by rw[hall s hs hs',if_pos rfl],λi h0 h1=>?_,λi h0 h1 h=>?_,λa h0 h1 ha hta=>?_,λq i q0 q1 h0 h1 hdq=>?_,λq i q0 q1 hdq=>?_,?_⟩
 .rw[hall i h0 h1];split<;>omega
 .rw[hd i h0 h1] at h;cases h
 .rw[hall a h0 h1,if_neg ha] at hta;omega
 .rw[hd q q0 q1] at hdq;cases hdq
 .rw[hd q q0 q1] at hdq;cases hdq
 .simp[List.count_replicate]
end
section walk
variable{ρ:Type}{P:Nat}{near:List (List Int)}{wt:Int->Int->Int}{s:Int}
theorem yds(hP:P<=512)(A:Nat->Int->Int->Option ρ)(fin:Int->Option ρ)(t:List Int)(d:List Bool)(ht:t.length=P)(hd:d.length=P)
  (stp:∀n p i,A (n+1) p i =(if(decide ((i:Int)<(P:Int)))=true then(ck ((0:Int)<=i/\i<(t.length:Int)) (ck (((decide ((0:Int)<=(gt t i)))=true)->(0:Int)<=i/\i<(d.length:Int)) (ck ((((decide ((0:Int)<=(gt t i)))&&(!(gt d i)))=true/\(decide ((p:Int)<0))=false)->(0:Int)<=i/\i<(t.length:Int)) (ck ((((decide ((0:Int)<=(gt t i)))&&(!(gt d i)))=true/\(decide ((p:Int)<0))=false)->(0:Int)<=p/\p<(t.length:Int)) (if(((decide ((0:Int)<=(gt t i)))&&(!(gt d i)))&&((decide ((p:Int)<0))||(decide (((gt t i):Int)<(gt t p)))))=true then(A n i (W (i+1))) else(A n p (W (i+1)))))))) else fin p)) (n:Nat) (hn:P<n) :
  ∃p,A n (-1) 0=fin p/\((p=-1/\∀i:Int,0<=i->i<(P:Int)->0<=gt t i->gt d i=true)\/(0<=p/\p<(P:Int)/\0<=gt t p/\gt d p=false/\∀i:Int,0<=i->i<(P:Int)->0<=gt t i->gt d i=false->gt t p<=gt t i)):=by
 refine z0d (λn i(p:Int)=>A n p i) P (λi p=>(p=-1/\∀j:Int,0<=j->j<(i:Int)->0<=gt t j->gt d j=true)\/(0<=p/\p<(i:Int)/\0<=gt t p/\gt d p=false/\∀j:Int,0<=j->j<(i:Int)->0<=gt t j->gt d j=false->gt t p<=gt t j))
  (λo=>∃p,o=fin p/\((p=-1/\∀i:Int,0<=i->i<(P:Int)->0<=gt t i->gt d i=true)\/(0<=p/\p<(P:Int)/\0<=gt t p/\gt d p=false/\∀i:Int,0<=i->i<(P:Int)->0<=gt t i->gt d i=false->gt t p<=gt t i))) ?_ ?_ n (-1) (.inl ⟨rfl,λj h0 h1=>by omega⟩) hn
 .intro n i p hi hI hs;rw[stp,if_pos (by simp;omega),z6 ⟨by omega,by omega⟩,z6 (λ_=>⟨by omega,by omega⟩),z6 (λ_=>⟨by omega,by omega⟩),W_id (by omega) (by omega)];have hpr :(decide ((p:Int)<0))=false->(0:Int)<=p/\p<(t.length:Int):=by
   intro h;simp only[decide_eq_false_iff_not] at h;rcases hI with⟨rfl,_⟩|⟨h1,h2,_⟩
   .omega
   .exact⟨h1,by omega⟩
  rw[z6 (λh=>hpr h.2)];have split_j:∀j:Int,j<((i+1:Nat):Int)->j<(i:Int)\/j =(i:Int):=λj h=>by omega
  by_cases c :(0<=gt t (i:Int)/\gt d (i:Int)=false)/\(p<0\/gt t (i:Int)<gt t p)
  .rw[if_pos (by simpa using c)];refine hs _ (.inr ⟨by omega,by omega,c.1.1,c.1.2,λj h0 h1 htj hdj=>?_⟩);rcases split_j j h1 with h2|rfl
   .rcases hI with⟨_,h3⟩|⟨q0,_,_,_,h3⟩
    .have:=h3 j h0 h2 htj;rw[hdj] at this;cases this
    .have:=h3 j h0 h2 htj hdj
     have:=c.2.resolve_left (by omega);omega
   .exact w1g _
  .rw[if_neg (by simpa using c)];refine hs p ?_;rcases hI with⟨rfl,h3⟩|⟨q0,q1,q2,q3,h3⟩
   .refine .inl ⟨rfl,λj h0 h1 htj=>?_⟩;rcases split_j j h1 with h2|rfl
    .exact h3 j h0 h2 htj
    .cases hdi:gt d (i:Int) with
     |true=>rfl
     |false=>exact absurd ⟨⟨htj,hdi⟩,.inl (by omega)⟩ c
   .refine .inr ⟨q0,by omega,q2,q3,λj h0 h1 htj hdj=>?_⟩;rcases split_j j h1 with h2|rfl
    .exact h3 j h0 h2 htj hdj
    .rcases Int.lt_or_le (gt t (i:Int)) (gt t p) with h4|h4
     .exact absurd ⟨⟨htj,hdj⟩,.inr h4⟩ c
     .exact h4
 .intro n p hI;rw[stp,if_neg (by simp)];exact⟨p,rfl,hI⟩
theorem ydp(hG:Gr P near wt){p:Int}(hp:0<=p)(hp':p<(P:Int)){k:Nat}(hk:k<=512){t0:List Int}{d:List Bool}(hD:DI P near wt s k t0 d)(hp0:0<=gt t0 p)(B:Nat->Int->List Int->Option ρ)(K:List Int->Option ρ)(nb:List Int)(hnb:nb=gt near p)(E:Nat)(lg:Int->Int)(mins:Int->Int)
  (hlg:∀q∈nb,0<=lg q/\lg q<(E:Int)/\mins (lg q)=wt p q)
  (stp:∀n i t,B (n+1) i t =(if(decide ((i:Int)<(nb.length:Int)))=true then(ck ((0:Int)<=i/\i<(nb.length:Int)) (ck ((0:Int)<=p/\p<(t.length:Int)) (ck ((0:Int)<=lg (gt nb i)/\lg (gt nb i)<(E:Int)) (ck ((0:Int)<=(gt nb i)/\(gt nb i)<(t.length:Int)) (ck (((decide (((gt t (gt nb i)):Int)<0))=false)->(0:Int)<=(gt nb i)/\(gt nb i)<(t.length:Int)) (if((decide (((gt t (gt nb i)):Int)<0))||(decide (((W ((gt t p)+mins (lg (gt nb i)))):Int)<(gt t (gt nb i)))))=true then(ck ((0:Int)<=(gt nb i)/\(gt nb i)<(t.length:Int)) (B n (W (i+1)) (zq t (gt nb i) (W ((gt t p)+mins (lg (gt nb i))))))) else(B n (W (i+1)) t))))))) else K t)) (n:Nat) (hn:nb.length<n) :
  ∃t,B n 0 t0=K t/\RndI P near wt s p k t0 d nb t:=by
 have hsz:nb.length<=5000:=by rw[hnb];exact hG.size p hp hp'
 have hbp:=(hD.bd p hp hp').resolve_left (by omega);refine z0d (λn i t=>B n i t) nb.length (λi t=>RndI P near wt s p k t0 d (nb.take i) t) (λo=>∃t,o=K t/\RndI P near wt s p k t0 d nb t) ?_ ?_ n t0 (y2y hD) hn
 .intro n i t hi hI hs;have hm:gt nb (i:Int)∈gt near p:=by rw[<- hnb];exact z8t (by omega) (by omega)
  obtain⟨q0,q1⟩:=hG.rng p _ hp hp' hm;obtain⟨w0,w1⟩:=hG.wt p _ hp hp' hm;obtain⟨l0,l1,l2⟩:=hlg (gt nb (i:Int)) (by rw[hnb];rw[hnb] at hm;exact hm);have hlt:=hI.lt;have hst:=y7j hG hp hp' hp0 hI hm;rw[<- z30 nb i hi] at hst;have hr:=hs _ hst;have hown:=hI.own;rw[stp,if_pos (by simp;omega),z6 ⟨by omega,by omega⟩,z6 ⟨by omega,by omega⟩,z6 ⟨l0,l1⟩,z6 ⟨by omega,by omega⟩,z6 (λ_=>⟨by omega,by omega⟩),l2,W_id (x:=gt t p+_) (by omega) (by omega),W_id (by omega) (by omega)];generalize gt nb (i:Int)=q at *;by_cases c :(decide (gt t q<0)||decide (gt t p+wt p q<gt t q))=true
  .rw[if_pos c] at hr⊢;rw[z6 ⟨by omega,by omega⟩];exact hr
  .rw[if_neg c] at hr⊢;exact hr
 .intro n t hI;rw[stp,if_neg (by simp)];rw[w1v] at hI;exact⟨t,rfl,hI⟩
theorem y7y(hG:Gr P near wt)(hs:0<=s)(hs':s<(P:Int))(M:Nat->List Int->List Bool->Option ρ)(fin:List Int->Option ρ)(φ:Nat)
  (rnd:∀n k t d,k<=512->DI P near wt s k t d->(∃t',DF P near wt s t'/\M (n+1) t d=fin t')\/(∃t' p,0<=p/\p<(P:Int)/\DI P near wt s (k+1) t' (zq d p true)/\M (n+1) t d=M n t' (zq d p true))) :
  ∀n k t d,DI P near wt s k t d->P<n+k->∃t',DF P near wt s t'/\M n t d=fin t':=by
 intro n
 induction n with
 |zero=>
  intro k t d h hn;have hk:k<=P:=by rw[<- h.cnt,<- h.ld];exact w4k
  omega
 |succ n ih=>
  intro k t d h hn;have hk:k<=P:=by rw[<- h.cnt,<- h.ld];exact w4k
  have:=hG.small;rcases rnd n k t d (by omega) h with h1|⟨t',p,_,_,h2,h3⟩
  .exact h1
  .rw[h3];exact ih (k+1) t' _ h2 (by omega)
end walk
end Px
end
section
namespace Px
open Go
section
variable(φ:Nat)(K:List Edge->Int->Int->z02->List (List Int)->Ln->Option (zu×Int×Unit))(x:z02)
theorem zj5{i:Nat}(hi:i<x.edges.length){P:Nat}{near:List (List Int)}{line:Ln}{a b:Int}(hl:near.length=P)(ha:0<=a)(ha':a<(P:Int))(hsz :(gt near a).length<=10000)(hx:x.edges.length<=2048)(hold:∀o,lget line a b=some o->0<=o/\o<(x.edges.length:Int)):
  (if(!(lget line a b).isSome)=true then(ck ((0:Int)<=a/\a<(near.length:Int)) (ck ((0:Int)<=a/\a<(near.length:Int)) (ck ((a:Int)=a) (ck (fits ((gt near a).length+([b]).length) 8) (ck ((0:Int)<=a/\a<(near.length:Int)) (ck ((a:Int)=a) (z4j φ K i ((lget line a b).getD default) ((lget line a b).isSome) x.edges (x.edges.length:Int) i x (keyP a b) (zq near a (gt near a++[b])) line))))))) else(z4j φ K i ((lget line a b).getD default) ((lget line a b).isSome) x.edges (x.edges.length:Int) i x (keyP a b) near line)) =
  K x.edges (x.edges.length:Int) ((i:Int)+1) x (ent1 x.edges i a b (near,line)).1 (ent1 x.edges i a b (near,line)).2:=by
 have hW:W ((i:Int)+1) =(i:Int)+1:=W_id (by omega) (by omega);unfold z4j ent1;simp only[];cases h:lget line a b with
 |none=>simp only[w4u,w2i,if_true,w58,Bool.true_or];rw[z6 ⟨ha,by omega⟩,z6 ⟨ha,by omega⟩,z6 trivial,z6 (y8f (by simp;omega) (by omega)),z6 ⟨ha,by omega⟩,z6 trivial,z6 (by simp),z6 (by simp),hW]
 |some o=>
  have ho:=hold o h;simp only[w4v,w1o,w0u,if_false,w14,w21];rw[z6 (λ_=>⟨by omega,by omega⟩),z6 (λ_=>ho),hW];by_cases c:decide ((gt x.edges (i:Int)).minutes<(gt x.edges o).minutes)=true
  .rw[if_pos c,if_pos c]
  .rw[if_neg c,if_neg c]
theorem zrt{i:Nat}(hi:i<x.edges.length){P:Nat}{near:List (List Int)}{line:Ln}{a b:Int}(hl:near.length=P)(ha:0<=a)(ha':a<(P:Int))(hsz :(gt near a).length<=10000)(hx:x.edges.length<=2048)(hold:∀o,lget line a b=some o->0<=o/\o<(x.edges.length:Int)):
  (if(!(lget line a b).isSome)=true then(ck ((0:Int)<=a/\a<(near.length:Int)) (ck ((0:Int)<=a/\a<(near.length:Int)) (ck ((a:Int)=a) (ck (fits ((gt near a).length+([b]).length) 8) (ck ((0:Int)<=a/\a<(near.length:Int)) (ck ((a:Int)=a) (z4k φ K i ((lget line a b).getD default) ((lget line a b).isSome) x.edges (x.edges.length:Int) i x (keyP a b) (zq near a (gt near a++[b])) line))))))) else(z4k φ K i ((lget line a b).getD default) ((lget line a b).isSome) x.edges (x.edges.length:Int) i x (keyP a b) near line)) =
  K x.edges (x.edges.length:Int) ((i:Int)+1) x (ent1 x.edges i a b (near,line)).1 (ent1 x.edges i a b (near,line)).2:=zj5 φ K x hi hl ha ha' hsz hx hold
theorem zj4(hx:zkx x){i:Nat}(hi:i<x.edges.length){near near1:List (List Int)}{line:Ln}(old:Int)(sm:Bool)(hl:near1.length=x.places.length)(ho:sm=true->0<=old/\old<(x.edges.length:Int))
  (hsz :(gt near1 (gt x.edges (i:Int)).b).length<=10000) (hline:∀a b o,lget line a b=some o->0<=o/\o<(x.edges.length:Int)) (line1:Ln) (h1:line1=if(!sm||decide ((gt x.edges (i:Int)).minutes<(gt x.edges old).minutes))=true then lset line (gt x.edges (i:Int)).a (gt x.edges (i:Int)).b i else line) :
  z4i φ K i old sm i x.edges (x.edges.length:Int) i x (keyP (gt x.edges (i:Int)).a (gt x.edges (i:Int)).b) (gt x.edges (i:Int)) near1 line =
  K x.edges (x.edges.length:Int) ((i:Int)+1) x (ent1 x.edges i (gt x.edges (i:Int)).b (gt x.edges (i:Int)).a (near1,line1)).1 (ent1 x.edges i (gt x.edges (i:Int)).b (gt x.edges (i:Int)).a (near1,line1)).2:=by
 obtain⟨e1,e2,e3,e4,e5,_⟩:=hx.ends (i:=(i:Int)) (by omega) (by omega);unfold z4i;rw[z6 (λ_=>⟨by omega,by omega⟩),z6 (λh=>ho (by simpa using h))];by_cases c :(!sm||decide ((gt x.edges (i:Int)).minutes<(gt x.edges old).minutes))=true
 .rw[if_pos c] at h1⊢;subst h1;refine zj5 φ K x hi hl e3 e4 hsz hx.edges λo h=>?_
  rw[zm4,if_neg (λq=>e5 q.1.symm)] at h;exact hline _ _ o h
 .rw[if_neg c] at h1⊢;subst h1;exact zrt φ K x hi hl e3 e4 hsz hx.edges λo h=>hline _ _ o h
end
section
variable(φ:Nat)(x:z02)
theorem zxv(hx:zkx x)(n:Nat){i:Nat}(hi:i<x.edges.length){s:List (List Int)×Ln}(h:HI x.edges x.places.length i s):
  z05 φ (n+1) x.edges (x.edges.length:Int) i x s.1 s.2=z05 φ n x.edges (x.edges.length:Int) ((i:Int)+1) x (entE x.edges i s).1 (entE x.edges i s).2:=by
 obtain⟨e1,e2,e3,e4,e5,_⟩:=hx.ends (i:=(i:Int)) (by omega) (by omega);have hE:=hx.edges;have hline:∀a b o,lget s.2 a b=some o->0<=o/\o<(x.edges.length:Int):=λa b o ho=>by obtain⟨h1,h2,_⟩:=h.line _ _ _ ho;exact⟨h1,by omega⟩
 have hsa:=h.size _ e1 e2;have hsb:=h.size _ e3 e4;have hlen:=h.len;rw[z05,if_pos (by simp;omega),z6 ⟨by omega,by omega⟩];unfold entE;generalize hs1:ent1 x.edges i (gt x.edges (i:Int)).a (gt x.edges (i:Int)).b s=s1;have hs1':=hs1;unfold ent1 at hs1';cases hg:lget s.2 (gt x.edges (i:Int)).a (gt x.edges (i:Int)).b with
 |none=>have hg':cget z54 s.2 (upd (upd (λ_=>(default:Int)) 0 (gt x.edges (i:Int)).a) 1 (gt x.edges (i:Int)).b)=none:=hg;rw[hg] at hs1';simp only[w4u,w2i,if_true,w58,Bool.true_or] at hs1';rw[hg'];simp only[w4u,w2i,if_true,w58];rw[z6 ⟨e1,by omega⟩,z6 ⟨e1,by omega⟩,z6 trivial,z6 (y8f (by simp;omega) (by omega)),z6 ⟨e1,by omega⟩,z6 trivial,<- hs1'];refine zj4 φ (z05 φ n) x hx hi (near:=s.1) _ _ (by rw[zw];exact hlen) (λh=>by cases h) ?_ hline _ (by simp);rw[z04 _ _ _ _ e1 (by omega) e3,if_neg (λq=>e5 q.symm)];omega
 |some o=>have hg':cget z54 s.2 (upd (upd (λ_=>(default:Int)) 0 (gt x.edges (i:Int)).a) 1 (gt x.edges (i:Int)).b)=some o:=hg;rw[hg] at hs1';simp only[w4v,w1o,w0u,if_false,w14,w21] at hs1';rw[hg'];simp only[w4v,w1o,w0u,if_false,w14];rw[<- hs1'];exact zj4 φ (z05 φ n) x hx hi (near:=s.1) _ _ hlen (λ_=>hline _ _ _ hg) (by omega) hline _ (by simp)
theorem zxu(hx:zkx x)(hφ:5000<φ)(line:Ln):z1w φ φ ((zh9 x).length:Int) 0 (zh9 x) line=some (⟨z5z x,line⟩,0,()):=by
 have hl0 :(zh9 x).length=x.places.length:=(zfj hx x.edges.length (w0x _)).len;have hP:=hx.places;have hE:=hx.edges;obtain⟨n0,hn0⟩:∃n0,n0=x.places.length:=⟨_,rfl⟩;rw[<- hn0] at hl0 hP;rw[hl0];have hfin:∀o:List (List Int),o.length=n0->(∀w:Nat,w<n0->gt o (w:Int)=zqe (λa b=>decide (a<b)) (gt (zh9 x) (w:Int)))->o=z5z x:=by
  intro o ho hw;unfold z5z;refine List.ext_getElem (by simp[ho,hl0]) λi h1 h2=>?_
  have:=hw i (by omega);rw[z4f h1,z4f (by omega)] at this;simpa using this
 refine z0d (λn i o=>z1w φ n (n0:Int) i o line) n0 (λi o=>o.length=n0/\∀w:Nat,w<n0->gt o (w:Int)=if w<i then zqe (λa b=>decide (a<b)) (gt (zh9 x) (w:Int)) else gt (zh9 x) (w:Int)) (λo=>o=some (⟨z5z x,line⟩,0,())) ?_ ?_ φ (zh9 x) ⟨hl0,λw hw=>by rw[if_neg (by omega)]⟩ (by omega)
 .intro n i o hi ⟨ho1,ho2⟩ hs;have hsz:=(zfj hx x.edges.length (w0x _)).size (i:Int) (by omega) (by omega);have hsz :(gt (zh9 x) (i:Int)).length<=2*x.edges.length:=hsz;have hso:zr5 (gt (zh9 x) (i:Int))=some (zqe (λa b=>decide (a<b)) (gt (zh9 x) (i:Int))):=by unfold zr5 zkv;rw[if_pos (by omega)]
  rw[z1w,if_pos (by simp;omega),z6 ⟨by omega,by omega⟩,z6 ⟨by omega,by omega⟩,z6 rfl,ho2 i hi,if_neg (by omega),hso,w04,W_id (by omega) (by omega)];refine hs _ ⟨by rw[zw];exact ho1,λw hw=>?_⟩;rw[z04 _ _ _ _ (by omega) (by omega) (by omega)];by_cases e:w=i
  .subst e;rw[if_pos rfl,if_pos (by omega)]
  .rw[if_neg (by omega),ho2 w hw];by_cases h2:w<i
   .rw[if_pos h2,if_pos (by omega)]
   .rw[if_neg h2,if_neg (by omega)]
 .intro n o ⟨ho1,ho2⟩;have:=hfin o ho1 λw hw=>by rw[ho2 w hw,if_pos hw]
  subst this;rw[z1w,if_neg (by simp)]
theorem zzk(hx:zkx x)(hφ:5000<φ):z05 φ φ x.edges (x.edges.length:Int) 0 x (List.replicate ((x.places.length:Int)).toNat (default:List Int)) []=some (⟨z5z x,zb5 x⟩,0,()):=by
 have hE:=hx.edges;have h0 :(List.replicate ((x.places.length:Int)).toNat (default:List Int),([]:Ln))=zj3 x.edges x.places.length 0:=by simp[zj3]
 refine z0d (λn i(s:List (List Int)×Ln)=>z05 φ n x.edges (x.edges.length:Int) i x s.1 s.2) x.edges.length (λi s=>s=zj3 x.edges x.places.length i) (λo=>o=some (⟨z5z x,zb5 x⟩,0,())) ?_ ?_ φ (List.replicate ((x.places.length:Int)).toNat (default:List Int),[]) h0 (by omega)
 .intro n i s hi hs hk;subst hs;rw[zxv φ x hx n hi (zfj hx i (by omega))];exact hk _ rfl
 .intro n s hs;subst hs;rw[z05,if_neg (by simp)];exact zxu φ x hx hφ (zb5 x)
theorem y3o(hx:zkx x)(hφ:800000<φ)(a0:Int)(hs:0<=a0)(hs':a0<(x.places.length:Int)):∃t,DF x.places.length (z5z x) (wtN x) a0 t/\z9v φ x ⟨z5z x,zb5 x⟩ a0=some (t,()):=by
 have hG:=grN hx;have hP:=hx.places;have hrep :(List.replicate ((x.places.length:Int):Int).toNat (default:Int)).length=x.places.length:=by simp
 unfold z9v;rw[hrep];have e1 :((x.places.length:Int)).toNat=x.places.length:=by simp
 rw[e1,z6 (mk_t _ _ (by omega) (by omega) (by omega)),z6 (mk_t _ _ (by omega) (by omega) (by omega))];have search:∀t:List Int,t.length=x.places.length->(∀i:Int,0<=i->i<(x.places.length:Int)->gt t i=if i=a0 then 0 else-1)->
   ∃t',DF x.places.length (z5z x) (wtN x) a0 t'/\z06 φ φ x ⟨z5z x,zb5 x⟩ t (List.replicate x.places.length (default:Bool))=some (t',()):=by
  intro t ht hall;refine y7y hG hs hs' (λn t d=>z06 φ n x ⟨z5z x,zb5 x⟩ t d) (λt'=>some (t',())) φ ?_ φ 0 t _ (y5e hs hs' t ht hall) (by omega);intro n k t d hk hD;obtain⟨p,hp1,hp2⟩:=yds hP (λm p i=>z1x φ (z06 φ n) m p (x.places.length:Int) i x ⟨z5z x,zb5 x⟩ t d)
   (λp=>(if(decide ((p:Int)<0))=true then(some (t,())) else(ck ((0:Int)<=p/\p<(d.length:Int)) (ck ((0:Int)<=p/\p<((z5z x).length:Int)) (z1y φ (z06 φ n) φ p (gt (z5z x) p) ((gt (z5z x) p).length:Int) 0 x ⟨z5z x,zb5 x⟩ t (zq d p true))))))
   t d hD.lt hD.ld (λm p i=>by rw[z1x]) φ (by omega)
  have hM:z06 φ (n+1) x ⟨z5z x,zb5 x⟩ t d=z1x φ (z06 φ n) φ (-1) (x.places.length:Int) 0 x ⟨z5z x,zb5 x⟩ t d:=by rw[z06,hD.lt]
  try simp only[] at hp1
  simp only[hM];rw[hp1];rcases hp2 with⟨rfl,hall⟩|⟨p0,p1,p2,p3,p4⟩
  .left
   refine⟨t,ye8 hG hD hall,?_⟩;rw[if_pos (by decide)]
  .right
   rw[if_neg (by simp;omega),z6 ⟨p0,by rw[hD.ld];exact p1⟩,z6 ⟨p0,by rw[hG.len];exact p1⟩];obtain⟨t',h1,h2⟩:=ydp hG p0 p1 hk hD p2 (λm i t=>z1y φ (z06 φ n) m p (gt (z5z x) p) ((gt (z5z x) p).length:Int) i x ⟨z5z x,zb5 x⟩ t (zq d p true))
    (λt=>z06 φ n x ⟨z5z x,zb5 x⟩ t (zq d p true)) (gt (z5z x) p) rfl x.edges.length (λq=>(lget (zb5 x) p q).getD default) (λi=>(gt x.edges i).minutes)
    (λq hq=>by obtain⟨i,hi,i0,i1,_⟩:=zqn hx p0 p1 hq;rw[hi];exact⟨i0,i1,by unfold wtN;rw[hi]⟩) (λm i t=>by rw[z1y]) φ (by have:=hG.size p p0 p1;omega)
   exact⟨t',p,p0,p1,y7k hG p0 p1 hD hs hs' p2 p3 p4 h2,h1⟩
 refine z0d (λn i t=>z35 φ n a0 (x.places.length:Int) i x ⟨z5z x,zb5 x⟩ t (List.replicate x.places.length (default:Bool))) x.places.length (λi t=>t.length=x.places.length/\∀j:Int,0<=j->j<(i:Int)->gt t j=-1) (λo=>∃t,DF x.places.length (z5z x) (wtN x) a0 t/\o=some (t,())) ?_ ?_ φ (List.replicate x.places.length (default:Int)) ⟨by simp,λj j0 j1=>by omega⟩ (by omega)
 .intro n i t hi ⟨h1,h2⟩ hs;rw[z35,if_pos (by simp;omega),z6 ⟨by omega,by omega⟩,W_id (by omega) (by omega)];refine hs _ ⟨by rw[zw];exact h1,λj j0 j1=>?_⟩;rw[z04 _ _ _ _ (by omega) (by omega) j0];by_cases e:j =(i:Int)
  .rw[if_pos e]
  .rw[if_neg e];exact h2 j j0 (by omega)
 .intro n t ⟨h1,h2⟩;rw[z35,if_neg (by simp),z6 ⟨hs,by omega⟩];exact search (zq t a0 0) (by rw[zw];exact h1) (λi i0 i1=>by
   rw[z04 _ _ _ _ hs (by omega) i0];split
   .rfl
   .exact h2 i i0 i1)
end
theorem y4g(φ:Nat)(hφ:800000<φ)(x:z02)(a b:Int):∃e,(za4 x=0/\(0<=a/\a<(x.places.length:Int))/\(0<=b/\b<(x.places.length:Int))/\z7k φ x [a,b]=some (⟨z5z x,zb5 x⟩,0,()))\/(e≠0/\∃g,z7k φ x [a,b]=some (g,e,())):=by
 unfold z7k;rw[ze0 _ (by omega),w04];by_cases hn:za4 x=0
 case neg=>exact⟨za4 x,.inr ⟨hn,_,by rw[if_pos (by simpa using hn)]⟩⟩
 have hx:=yd0 hn;have hP:=hx.places;rw[if_neg (by simp[hn])];obtain⟨m,rfl⟩:∃m,φ=m+3:=⟨φ-3,by omega⟩;have g0:gt [a,b] 0=a:=rfl;have g1:gt [a,b] 1=b:=rfl;have L :((([a,b]:List Int).length:Nat):Int)=2:=rfl;rw[L,show m+3 =(m+2)+1 from rfl,z3o,if_pos (by decide),z6 (by rw[L];decide),g0];by_cases ha:0<=a/\a<(x.places.length:Int)
 case neg=>rw[if_pos (by simp;omega)];exact⟨1,.inr ⟨by omega,_,rfl⟩⟩
 rw[if_neg (by simp;omega),show W (0+1)=1 by rfl,show m+2 =(m+1)+1 from rfl,z3o,if_pos (by decide),z6 (by rw[L];decide),g1];by_cases hb:0<=b/\b<(x.places.length:Int)
 case neg=>rw[if_pos (by simp;omega)];exact⟨1,.inr ⟨by omega,_,rfl⟩⟩
 rw[if_neg (by simp;omega),show W (1+1)=2 by rfl,z3o,if_neg (by decide),z6 (mk_t _ _ (by omega) (by omega) (by omega)),zzk (m+1+1+1) x hx (by omega)];exact⟨0,.inl ⟨hn,ha,hb,rfl⟩⟩
theorem zxn(φ:Nat)(hφ:800000<φ)(x:z02)(a b:Int):∃t e,z3c φ x a b=some (t,e,())/\0<=t/\t<=51200000:=by
 unfold z3c;obtain⟨e,⟨hn,ha,hb,h⟩|⟨he,g,h⟩⟩:=y4g φ hφ x a b
 .have hx:=yd0 hn;rw[h,w04,if_neg (by simp)];obtain⟨t,h1,h2⟩:=y3o φ x hx hφ a ha.1 ha.2;rw[h2,w04,z6 ⟨hb.1,by rw[h1.lt];exact hb.2⟩];rcases h1.bd b hb.1 hb.2 with h3|⟨h3,h4⟩
  .rw[if_pos (by simp;omega)];exact⟨0,80,rfl,by omega,by omega⟩
  .rw[if_neg (by simp;omega)];exact⟨_,0,rfl,h3,h4⟩
 .rw[h,w04,if_pos (by simpa using he)];exact⟨0,e,rfl,by omega,by omega⟩
end Px
end
section
namespace Px
open Go
theorem ye7(φ:Nat)(hφ:800000<φ):zhp φ:=zxn φ hφ
end Px
end
section
namespace Px
open Go
theorem y45(φ:Nat)(p:Pool)(s:List zb)(o:List zk)(l:List z7):(z3w φ).F (p,s,o,l,())=z39 φ p s o l:=rfl
theorem zgv(y:Tup TT [26,36,37,46])(h:ybm TV 30 [26,36,37,46] y):∃φ,(z3w φ).F y=some (true,()):=by obtain⟨p,s,o,l,u⟩:=y;cases u;change Pool at p;change List zb at s;change List zk at o;change List z7 at l;suffices key:∀φ:Nat,60000000<φ->zcl φ=some (true,())->z39 φ p s o l=some (true,()) from⟨100000000,(y45 _ p s o l).trans (key _ (by omega) ydr)⟩;intro φ hφ hsane;exact zu6 hφ (ye7 φ (by omega)) hsane p s o l
end Px
end
