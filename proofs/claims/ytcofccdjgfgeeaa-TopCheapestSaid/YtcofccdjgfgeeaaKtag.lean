/- A part of the proof of topCheapest_holds. Conditions: none. -/
import Derived.Test.YtcofccdjgfgeeaaKtaf
set_option linter.unusedVariables false
set_option linter.unusedSimpArgs false
section
namespace Px
open Go
def lsA(H:Arc->Int):List Arc->Int
 | []=>0
 |a::l=>H a+lsA H l
theorem zfv(H:Arc->Int)(m:List Arc):∀l:List Arc,lsA H (l++m)=lsA H l+lsA H m
 | []=>by simp[lsA]
 |a::l=>by simp only[w2u,lsA,zfv H m l];omega
theorem y2s(H:Arc->Int)(a:Arc):lsA H [a]=H a:=by simp[lsA]
theorem zm9(H:Arc->Int)(f:Nat->Arc):∀n:Nat,lsA H ((List.range n).map f)=sumN n λi=>H (f i)
 |0=>rfl
 |n+1=>by rw[w1o,w2f,zfv,zm9 H f n];simp[sumN,lsA]
theorem zqu(H:Arc->Int)(f:Nat->List Arc):∀n:Nat,lsA H ((List.range n).flatMap f)=sumN n λi=>lsA H (f i)
 |0=>rfl
 |n+1=>by rw[w1o,w1x,zfv,zqu H f n];simp[sumN]
theorem zxr(H:Arc->Int)(l:List Arc):∀i:Nat,i<=l.length->lsA H (l.take i)=sumN i λj=>H (gt l (j:Int))
 |0,_=>rfl
 |i+1,h=>by rw[z2p l i (by omega),zfv,zxr H l i (by omega),y2s];rfl
theorem y2r(H:Arc->Int)(l:List Arc):(sumN l.length λj=>H (gt l (j:Int)))=lsA H l:=by have:=zxr H l l.length (w0x _);rw[w1z] at this;exact this.symm
theorem z04{n:Nat}{f:Nat->Int}(h:∀i,i<n->f i=0):sumN n f=0:=(zd h).trans (z2i n)
def sumS(s:List zc):Nat->Int
 |0=>0
 |k+1=>sumS s k+(gt s (k:Int)).count
theorem zrl(s:List zc):∀n:Nat,sumS s n=sumN n λi=>(gt s (i:Int)).count
 |0=>rfl
 |n+1=>by simp only[sumS,sumN,zrl s n]
theorem zn9(o:List zl):∀n:Nat,sumC o n=sumN n λi=>(gt o (i:Int)).count
 |0=>rfl
 |n+1=>by simp only[sumC,sumN,zn9 o n]
def nodU(s:List zc)(o:List zl):Int:=(s.length:Int)+(o.length:Int)
def zmv(s:List zc)(o:List zl)(c:Nat->Nat->Int)(b:Nat->Nat->Bool):List Arc:=(List.range s.length).flatMap (arcR s o c b)
def z7(s:List zc)(o:List zl)(c:Nat->Nat->Int)(b:Nat->Nat->Bool):List Arc:=zmv s o c b++(List.range o.length).map (arcO (nodU s o) (s.length:Int) o)++(List.range s.length).map (arcS (nodU s o) s)++[⟨nodU s o,nodU s o+1,sumC o o.length,0⟩]
def supN(s:List zc)(o:List zl):List Int:=s.map (·.count)++o.map (λy=>- y.count)++[sumC o o.length,- sumS s s.length]
def netN(s:List zc)(o:List zl)(c:Nat->Nat->Int)(b:Nat->Nat->Bool):zh:=⟨supN s o,z7 s o c b⟩
def arcQ(s:List zc)(o:List zl)(c:Nat->Nat->Int)(i k:Nat):Arc:=⟨(i:Int),(s.length:Int)+(k:Int),min2 (gt s (i:Int)).count (gt o (k:Int)).count,c i k⟩
theorem zm8(H:Arc->Int)(s:List zc)(o:List zl)(c:Nat->Nat->Int)(b:Nat->Nat->Bool):
  lsA H (z7 s o c b) =(sumN s.length λi=>sumN o.length λk=>if b i k=true then H (arcQ s o c i k) else 0)+(sumN o.length λk=>H (arcO (nodU s o) (s.length:Int) o k))+(sumN s.length λi=>H (arcS (nodU s o) s i))+H ⟨nodU s o,nodU s o+1,sumC o o.length,0⟩:=by
 unfold z7 zmv;rw[zfv,zfv,zfv,zm9,zm9,y2s,zqu];congr 3;refine zd λi _=>?_
 unfold arcR;rw[zqu];refine zd λk _=>?_
 unfold arcP;cases b i k<;>simp[lsA,arcQ]
theorem z63(s:List zc)(o:List zl):(supN s o).length=s.length+o.length+2:=by simp[supN];omega
theorem y1y{α β:Type}[Inhabited α][Inhabited β](f:α->β)(l:List α){i:Int}(h0:0<=i)(h:i<(l.length:Int)):gt (l.map f) i=f (gt l i):=by obtain⟨n,rfl⟩:=w1n h0;rw[z3l (by simpa using h),z3l (by omega)];simp
theorem zph{s:List zc}{o:List zl}{i:Nat}(h:i<s.length):atN (supN s o) i =(gt s (i:Int)).count:=by unfold atN supN;rw[z7v _ _ _ (by omega) (by simp;omega),z7v _ _ _ (by omega) (by simp;omega),y1y _ _ (by omega) (by omega)]
theorem zpg{s:List zc}{o:List zl}{k:Nat}(h:k<o.length):atN (supN s o) (s.length+k)=-(gt o (k:Int)).count:=by unfold atN supN;rw[z7v _ _ _ (by omega) (by simp;omega),z6c _ _ _ (by simp;omega),y1y _ _ (by simp;omega) (by simp;omega)];rw[show ((s.length+k:Nat):Int)-((s.map (·.count)).length:Nat) =(k:Int) by simp;omega]
theorem zuc(s:List zc)(o:List zl):atN (supN s o) (s.length+o.length)=sumC o o.length:=by unfold atN supN;rw[z6c _ _ _ (by simp)];rw[show ((s.length+o.length:Nat):Int)-((s.map (·.count)++o.map (λy=>- y.count)).length:Nat)=0 by simp];rfl
theorem zud(s:List zc)(o:List zl):atN (supN s o) (s.length+o.length+1)=- sumS s s.length:=by unfold atN supN;rw[z6c _ _ _ (by simp;omega)];rw[show ((s.length+o.length+1:Nat):Int)-((s.map (·.count)++o.map (λy=>- y.count)).length:Nat)=1 by simp;omega];rfl
structure Poss(s:List zc)(o:List zl)(b:Nat->Nat->Bool)(X:Nat->Nat->Int):Prop where
 pos:∀i k,i<s.length->k<o.length->0<=X i k
 no:∀i k,i<s.length->k<o.length->b i k=false->X i k=0
 row:∀i,i<s.length->(sumN o.length λk=>X i k)<=(gt s (i:Int)).count
 col:∀k,k<o.length->(sumN s.length λi=>X i k)<=(gt o (k:Int)).count
def z4q(s:List zc)(o:List zl)(X:Nat->Nat->Int)(i:Nat):Int:=(gt s (i:Int)).count-sumN o.length λk=>X i k
def z2d(s:List zc)(o:List zl)(X:Nat->Nat->Int)(k:Nat):Int:=(gt o (k:Int)).count-sumN s.length λi=>X i k
def zu0(s:List zc)(o:List zl)(X:Nat->Nat->Int):Int:=sumN s.length λi=>sumN o.length λk=>X i k
def flX(s:List zc)(o:List zl)(X:Nat->Nat->Int)(a:Arc):Int:=
 if a.to<nodU s o then(if a.from_<(s.length:Int) then X a.from_.toNat (a.to-(s.length:Int)).toNat else z2d s o X (a.to-(s.length:Int)).toNat)
 else if a.from_<(s.length:Int) then z4q s o X a.from_.toNat else zu0 s o X
def zfh(s:List zc)(o:List zl)(c:Nat->Nat->Int)(X:Nat->Nat->Int):Int:=(sumN s.length λi=>sumN o.length λk=>X i k*c i k)+sumN o.length λk=>z2d s o X k*(gt o (k:Int)).weight
section
variable{s:List zc}{o:List zl}{c:Nat->Nat->Int}{b:Nat->Nat->Bool}{X:Nat->Nat->Int}
theorem y6k{i k:Nat}(hi:i<s.length)(hk:k<o.length):flX s o X (arcQ s o c i k)=X i k:=by unfold flX arcQ nodU;simp only;rw[if_pos (by omega),if_pos (by omega)];congr 1<;>omega
theorem y6j{k:Nat}(hk:k<o.length):flX s o X (arcO (nodU s o) (s.length:Int) o k)=z2d s o X k:=by unfold flX arcO nodU;simp only;rw[if_pos (by omega),if_neg (by omega)];congr 1;omega
theorem yb1{i:Nat}(hi:i<s.length):flX s o X (arcS (nodU s o) s i)=z4q s o X i:=by unfold flX arcS;simp only;rw[if_neg (by omega),if_pos (by omega)];congr 1
theorem yb0:flX s o X ⟨nodU s o,nodU s o+1,sumC o o.length,0⟩=zu0 s o X:=by unfold flX;simp only;rw[if_neg (by omega),if_neg (by unfold nodU;omega)]
theorem zpc:zu0 s o X=sumN o.length λk=>sumN s.length λi=>X i k:=z7f _ _ _
theorem zgw :(nodU s o).toNat=s.length+o.length:=by unfold nodU;omega
theorem ybk{b:Bool}{x:Int}(h:b=false->x=0):(if b=true then x else 0)=x:=by cases b<;>simp_all
theorem Poss.out(h:Poss s o b X)(v:Nat)(hv:v<s.length+o.length+2):
  (nwOf (netN s o c b)).outS (λj=>flX s o X (gt (z7 s o c b) (j:Int))) v=if v<s.length then(gt s (v:Int)).count else if v=s.length+o.length then sumC o o.length else 0:=by
 show (sumN (z7 s o c b).length λj=>if(gt (z7 s o c b) (j:Int)).from_.toNat=v then flX s o X (gt (z7 s o c b) (j:Int)) else 0)=_;rw[y2r (λa=>if a.from_.toNat=v then flX s o X a else 0),zm8];have e1 :(sumN s.length λi=>sumN o.length λk=>if b i k=true then(if(arcQ s o c i k).from_.toNat=v then flX s o X (arcQ s o c i k) else 0) else 0)=if v<s.length then(sumN o.length λk=>X v k) else 0:=by
  rw[<- z4g (λi=>sumN o.length λk=>X i k) v];refine zd λi hi=>?_
  show (sumN o.length λk=>if b i k=true then(if((i:Int)).toNat=v then flX s o X (arcQ s o c i k) else 0) else 0)=_;rw[show ((i:Int)).toNat=i by omega];by_cases e:i=v
  .rw[if_pos e];refine zd λk hk=>?_
   rw[if_pos e,y6k hi hk];exact ybk (h.no i k hi hk)
  .rw[if_neg e];exact z04 λk hk=>by rw[if_neg e];split<;>rfl
 have e2 :(sumN o.length λk=>if(arcO (nodU s o) (s.length:Int) o k).from_.toNat=v then flX s o X (arcO (nodU s o) (s.length:Int) o k) else 0)=if v=s.length+o.length then(sumN o.length λk=>z2d s o X k) else 0:=by
  have e:∀k,(arcO (nodU s o) (s.length:Int) o k).from_.toNat=s.length+o.length:=λk=>zgw
  by_cases g:v=s.length+o.length
  .rw[if_pos g];exact zd λk hk=>by rw[if_pos (by rw[e,g]),y6j hk]
  .rw[if_neg g];exact z04 λk hk=>by rw[if_neg (by rw[e];exact λq=>g q.symm)]
 have e3 :(sumN s.length λi=>if(arcS (nodU s o) s i).from_.toNat=v then flX s o X (arcS (nodU s o) s i) else 0)=if v<s.length then z4q s o X v else 0:=by
  rw[<- z4g (λi=>z4q s o X i) v];refine zd λi hi=>?_
  show (if((i:Int)).toNat=v then flX s o X (arcS (nodU s o) s i) else 0)=_;rw[show ((i:Int)).toNat=i by omega,yb1 hi]
 have e4 :(if(Arc.mk (nodU s o) (nodU s o+1) (sumC o o.length) 0).from_.toNat=v then flX s o X ⟨nodU s o,nodU s o+1,sumC o o.length,0⟩ else 0)=if v=s.length+o.length then zu0 s o X else 0:=by
  show (if(nodU s o).toNat=v then _ else 0)=_;rw[zgw,yb0];by_cases g:v=s.length+o.length
  .rw[if_pos g,if_pos g.symm]
  .rw[if_neg g,if_neg (λq=>g q.symm)]
 simp only[e1,e2,e3,e4];by_cases g1:v<s.length
 .rw[if_pos g1,if_pos g1,if_pos g1,if_neg (by omega),if_neg (by omega)];unfold z4q;omega
 .rw[if_neg g1,if_neg g1,if_neg g1];by_cases g2:v=s.length+o.length
  .rw[if_pos g2,if_pos g2,if_pos g2];have :(sumN o.length λk=>z2d s o X k)=sumC o o.length-zu0 s o X:=by unfold z2d;rw[z7e,zn9,zpc]
   omega
  .rw[if_neg g2,if_neg g2,if_neg g2];rfl
theorem Poss.inn(h:Poss s o b X)(v:Nat)(hv:v<s.length+o.length+2):
  (nwOf (netN s o c b)).inS (λj=>flX s o X (gt (z7 s o c b) (j:Int))) v=if v<s.length then 0 else if v<s.length+o.length then(gt o ((v:Int)-(s.length:Int))).count else if v=s.length+o.length then 0 else sumS s s.length:=by
 show (sumN (z7 s o c b).length λj=>if(gt (z7 s o c b) (j:Int)).to.toNat=v then flX s o X (gt (z7 s o c b) (j:Int)) else 0)=_;rw[y2r (λa=>if a.to.toNat=v then flX s o X a else 0),zm8];have t1:∀i k:Nat,(arcQ s o c i k).to.toNat=s.length+k:=λi k=>by show ((s.length:Int)+(k:Int)).toNat=_;omega
 have t2:∀k:Nat,(arcO (nodU s o) (s.length:Int) o k).to.toNat=s.length+k:=λk=>by show ((s.length:Int)+(k:Int)).toNat=_;omega
 have t3:∀i:Nat,(arcS (nodU s o) s i).to.toNat=s.length+o.length+1:=λi=>by show (nodU s o+1).toNat=_;unfold nodU;omega
 have t4 :(Arc.mk (nodU s o) (nodU s o+1) (sumC o o.length) 0).to.toNat=s.length+o.length+1:=by show (nodU s o+1).toNat=_;unfold nodU;omega
 simp only[t1,t2,t3];rw[show (if(Arc.mk (nodU s o) (nodU s o+1) (sumC o o.length) 0).to.toNat=v then flX s o X ⟨nodU s o,nodU s o+1,sumC o o.length,0⟩ else 0)=if s.length+o.length+1=v then flX s o X ⟨nodU s o,nodU s o+1,sumC o o.length,0⟩ else 0 by rw[t4]];by_cases g1:v<s.length
 .rw[if_pos g1,if_neg (by omega)];rw[z04 λi hi=>z04 λk hk=>by
   split
   .exact if_neg (by omega)
   .rfl,z04 λk hk=>if_neg (by omega),z04 λi hi=>if_neg (by omega)];rfl
 .rw[if_neg g1];by_cases g2:v<s.length+o.length
  .obtain⟨k,rfl⟩:∃k,v=s.length+k:=⟨v-s.length,by omega⟩;have hk:k<o.length:=by omega
   rw[if_pos g2,if_neg (by omega)];have e1 :(sumN s.length λi=>sumN o.length λk'=>if b i k'=true then(if s.length+k'=s.length+k then flX s o X (arcQ s o c i k') else 0) else 0)=sumN s.length λi=>X i k:=by
    refine zd λi hi=>?_
    have h1:=z4g (λk'=>X i k') k o.length;rw[if_pos hk] at h1;rw[<- h1];refine zd λk' hk'=>?_
    by_cases e:k'=k
    .subst e;rw[if_pos rfl,if_pos rfl,y6k hi hk'];exact ybk (h.no i k' hi hk')
    .rw[if_neg e];split
     .exact if_neg (by omega)
     .rfl
   have e2 :(sumN o.length λk'=>if s.length+k'=s.length+k then flX s o X (arcO (nodU s o) (s.length:Int) o k') else 0)=z2d s o X k:=by
    have h1:=z4g (λk'=>z2d s o X k') k o.length;rw[if_pos hk] at h1;rw[<- h1];refine zd λk' hk'=>?_
    by_cases e:k'=k
    .subst e;rw[if_pos rfl,if_pos rfl,y6j hk']
    .rw[if_neg e,if_neg (by omega)]
   rw[e1,e2,z04 λi hi=>if_neg (by omega)];rw[show ((s.length+k:Nat):Int)-(s.length:Int) =(k:Int) by omega];unfold z2d;omega
  .rw[if_neg g2];rw[z04 λi hi=>z04 λk hk=>by
   split
   .exact if_neg (by omega)
   .rfl,z04 λk hk=>if_neg (by omega)]
   by_cases g3:v=s.length+o.length
   .rw[if_pos g3,z04 λi hi=>if_neg (by omega),if_neg (by omega)];rfl
   .rw[if_neg g3,if_pos (by omega),yb0];have :(sumN s.length λi=>if s.length+o.length+1=v then flX s o X (arcS (nodU s o) s i) else 0)=sumS s s.length-zu0 s o X:=by
     have :(sumN s.length λi=>if s.length+o.length+1=v then flX s o X (arcS (nodU s o) s i) else 0)=sumN s.length λi=>z4q s o X i:=zd λi hi=>by rw[if_pos (by omega),yb1 hi]
     rw[this];unfold z4q;rw[z7e,zrl];rfl
    omega
theorem zmd{a:Arc}(h:a∈z7 s o c b):(∃i k,i<s.length/\k<o.length/\b i k=true/\a=arcQ s o c i k)\/(∃k,k<o.length/\a=arcO (nodU s o) (s.length:Int) o k)\/(∃i,i<s.length/\a=arcS (nodU s o) s i)\/a =⟨nodU s o,nodU s o+1,sumC o o.length,0⟩:=by
 unfold z7 at h;rcases w0k.1 h with h|h
 .rcases w0k.1 h with h|h
  .rcases w0k.1 h with h|h
   .left
    unfold zmv arcR at h;obtain⟨i,hi,h⟩:=w1p.1 h;obtain⟨k,hk,h⟩:=w1p.1 h;refine⟨i,k,w0l.1 hi,w0l.1 hk,?_⟩;unfold arcP at h;cases hb:b i k with
    |true=>rw[hb] at h;exact⟨rfl,w0d.1 h⟩
    |false=>rw[hb] at h;simp at h
   .obtain⟨k,hk,h⟩:=w0h.1 h;exact .inr (.inl ⟨k,w0l.1 hk,h.symm⟩)
  .obtain⟨i,hi,h⟩:=w0h.1 h;exact .inr (.inr (.inl ⟨i,w0l.1 hi,h.symm⟩))
 .exact .inr (.inr (.inr (w0d.1 h)))
theorem znc{n i:Nat}{f:Nat->Int}(h:∀j,j<n->0<=f j)(hi:i<n):f i<=sumN n f:=by have:=zis (f:=λ_=>0) (g:=f) (d:=f i) hi h (by simp);rw[z2i] at this;omega
theorem Poss.feas(h:Poss s o b X):(nwOf (netN s o c b)).Feas (atN (supN s o)) (λj=>flX s o X (gt (z7 s o c b) (j:Int))) where
 bnd:=λj hj=>by
  have hj':j<(z7 s o c b).length:=hj;show 0<=flX s o X (gt (z7 s o c b) (j:Int))/\flX s o X (gt (z7 s o c b) (j:Int))<=(gt (z7 s o c b) (j:Int)).cap;have hm:=z8s (l:=z7 s o c b) (i:=(j:Int)) (by omega) (by omega);rcases zmd hm with⟨i,k,hi,hk,hb,e⟩|⟨k,hk,e⟩|⟨i,hi,e⟩|e
  .rw[e,y6k hi hk];have h1:=znc (f:=λk=>X i k) (λk hk=>h.pos i k hi hk) hk;have h2:=znc (f:=λi=>X i k) (λi hi=>h.pos i k hi hk) hi;have h3:=h.row i hi;have h4:=h.col k hk;refine⟨h.pos i k hi hk,?_⟩;show X i k<=min2 (gt s (i:Int)).count (gt o (k:Int)).count;unfold min2;split<;>omega
  .rw[e,y6j hk];have h4:=h.col k hk;have h5:=z1y (f:=λi=>X i k) (n:=s.length) λi hi=>h.pos i k hi hk
   show 0<=z2d s o X k/\z2d s o X k<=(gt o (k:Int)).count;unfold z2d;omega
  .rw[e,yb1 hi];have h4:=h.row i hi;have h5:=z1y (f:=λk=>X i k) (n:=o.length) λk hk=>h.pos i k hi hk
   show 0<=z4q s o X i/\z4q s o X i<=(gt s (i:Int)).count;unfold z4q;omega
  .rw[e,yb0];show 0<=zu0 s o X/\zu0 s o X<=sumC o o.length;refine⟨z1y λi hi=>z1y λk hk=>h.pos i k hi hk,?_⟩;rw[zpc,zn9];exact zdf h.col
 exc:=λv hv=>by
  have hv':v<s.length+o.length+2:=by rw[<- z63];exact hv
  unfold Nw.exc;rw[h.out v hv',h.inn v hv'];by_cases g1:v<s.length
  .rw[if_pos g1,if_pos g1,zph g1];omega
  .rw[if_neg g1,if_neg g1];by_cases g2:v<s.length+o.length
   .obtain⟨k,rfl⟩:∃k,v=s.length+k:=⟨v-s.length,by omega⟩;rw[if_pos g2,if_neg (by omega),zpg (by omega)];rw[show ((s.length+k:Nat):Int)-(s.length:Int) =(k:Int) by omega];omega
   .rw[if_neg g2];by_cases g3:v=s.length+o.length
    .rw[if_pos g3,if_pos g3,g3,zuc];omega
    .rw[if_neg g3,if_neg g3,show v=s.length+o.length+1 by omega,zud];omega
theorem Poss.cost(h:Poss s o b X):(nwOf (netN s o c b)).costS (λj=>flX s o X (gt (z7 s o c b) (j:Int)))=zfh s o c X:=by
 show (sumN (z7 s o c b).length λj=>flX s o X (gt (z7 s o c b) (j:Int))*(gt (z7 s o c b) (j:Int)).cost)=_;rw[y2r (λa=>flX s o X a*a.cost),zm8];unfold zfh;have e1 :(sumN s.length λi=>sumN o.length λk=>if b i k=true then flX s o X (arcQ s o c i k)*(arcQ s o c i k).cost else 0)=sumN s.length λi=>sumN o.length λk=>X i k*c i k:=zd λi hi=>zd λk hk=>by rw[y6k hi hk];exact ybk λhb=>by rw[h.no i k hi hk hb,Int.zero_mul]
 have e2 :(sumN o.length λk=>flX s o X (arcO (nodU s o) (s.length:Int) o k)*(arcO (nodU s o) (s.length:Int) o k).cost)=sumN o.length λk=>z2d s o X k*(gt o (k:Int)).weight:=zd λk hk=>by rw[y6j hk];rfl
 have e3 :(sumN s.length λi=>flX s o X (arcS (nodU s o) s i)*(arcS (nodU s o) s i).cost)=0:=z04 λi hi=>w4b _
 rw[e1,e2,e3];show _+_+0+flX s o X _*0=_;omega
end
end Px
end
section
namespace Px
open Go
theorem z1k(φ:Nat)(a b c:Int):zq φ a b c=some (bet a b c,()):=rfl
def zms(t:z0e):Bool:=bet t.load 0 1000000&&bet t.tare 0 1000000&&bet t.length 0 1000000&&bet t.brake 0 1000000&&bet t.gauge 0 7&&bet t.life 1 1073741824&&bet t.floor 0 100
def zi9(n:Int)(w:zbg):Bool:=bet w.type_ 0 (n-1)&&bet w.owner 0 63&&bet w.home 0 511&&bet w.built 0 1073741824&&bet w.worth 0 1099511627776
def zmr(n:Int)(s:Swap):Bool:=bet s.wanted 0 (n-1)&&bet s.given 0 (n-1)&&(s.wanted !=s.given)&&bet s.cost 0 1000000000
def zxz(w:Wash):Bool:=bet w.from_ 0 63&&bet w.to 0 63&&(w.from_ !=w.to)&&bet w.minutes 0 100000
def keyW(w:Wash):Int:=64*w.from_+w.to
def z5z(l:List Wash)(i:Nat):Bool:=zxz (gt l (i:Int))&&!(l.take i).any λv=>keyW v==keyW (gt l (i:Int))
def z9q(l:List Wash):Bool:=(List.range l.length).all (z5z l)
def z1l(x:z3m):Int:=
 bif decide (32<x.types.length)||decide (4096<x.wagons.length)||decide (1024<x.swaps.length)||decide (4096<x.washes.length) then 2 else
 bif x.types.all zms&&x.wagons.all (zi9 x.types.length)&&x.swaps.all (zmr x.types.length)&&z9q x.washes then 0 else 1
theorem zfi(p:Nat->Bool)(i:Nat):(List.range (i+1)).all p =((List.range i).all p&&p i):=by rw[w1o,w4p];simp
theorem zi0(φ:Nat)(x:z3m)(hl:x.swaps.length<=1024)(ht:x.types.length<=32):
  ∀n s,x.swaps.length<n->z0x φ n x.swaps (x.swaps.length:Int) 0 x s=z02 φ φ x.washes (x.washes.length:Int) 0 (bif x.swaps.all (zmr (x.types.length:Int)) then s else 1) (λ_=>default):=by
 have hp:W ((x.types.length:Int)-1) =(x.types.length:Int)-1:=W_id (by omega) (by omega);refine zkw (λn i s=>z0x φ n x.swaps (x.swaps.length:Int) i x s) (λs=>z02 φ φ x.washes (x.washes.length:Int) 0 s (λ_=>default)) _ _ ?_ ?_
 .intro n i s hi;have hW:W ((i:Int)+1) =(i:Int)+1:=W_id (by omega) (by omega);rw[z0x,if_pos (by simp;omega),z6 ⟨by omega,by omega⟩];simp only[z1k,w03,zmr,z0u,hW,hp];cases bet (gt x.swaps i).wanted 0 ((x.types.length:Int)-1)<;>cases bet (gt x.swaps i).given 0 ((x.types.length:Int)-1)<;>cases ((gt x.swaps i).wanted !=(gt x.swaps i).given)<;>
   cases bet (gt x.swaps i).cost 0 1000000000<;>rfl
 .intro n s;rw[z0x,if_neg (by simp)]
theorem zgk(φ:Nat)(x:z3m)(hl:x.wagons.length<=4096)(ht:x.types.length<=32):
  ∀n s,x.wagons.length<n->z0f φ n x.wagons (x.wagons.length:Int) 0 x s=z0x φ φ x.swaps (x.swaps.length:Int) 0 x (bif x.wagons.all (zi9 (x.types.length:Int)) then s else 1):=by
 have hp:W ((x.types.length:Int)-1) =(x.types.length:Int)-1:=W_id (by omega) (by omega);refine zkw (λn i s=>z0f φ n x.wagons (x.wagons.length:Int) i x s) (λs=>z0x φ φ x.swaps (x.swaps.length:Int) 0 x s) _ _ ?_ ?_
 .intro n i s hi;have hW:W ((i:Int)+1) =(i:Int)+1:=W_id (by omega) (by omega);rw[z0f,if_pos (by simp;omega),z6 ⟨by omega,by omega⟩];simp only[z1k,w03,zi9,z0u,hW,hp];cases bet (gt x.wagons i).type_ 0 ((x.types.length:Int)-1)<;>cases bet (gt x.wagons i).owner 0 63<;>cases bet (gt x.wagons i).home 0 511<;>
   cases bet (gt x.wagons i).built 0 1073741824<;>cases bet (gt x.wagons i).worth 0 1099511627776<;>rfl
 .intro n s;rw[z0f,if_neg (by simp)]
theorem zka(φ:Nat)(k:List z0e->Int->Int->z3m->Int->Option (Int×Unit))(ts:List z0e)(len i:Int)(x:z3m)(t:z0e)(n:Nat)(s:Int)(hn:4<n):
  z25 φ k n ts len i 4 0 x s t [t.load,t.tare,t.length,t.brake]=k ts len (W (i+1)) x (bif zms t then s else 1):=by
 have h:=zkw (λn j s=>z25 φ k n ts len i 4 j x s t [t.load,t.tare,t.length,t.brake]) (λs=>k ts len (W (i+1)) x (bif (bet t.gauge 0 7&&bet t.life 1 1073741824&&bet t.floor 0 100) then s else 1))
  [t.load,t.tare,t.length,t.brake] (λa=>bet a 0 1000000) (λn j s hi=>by
   rw[z25,if_pos (by simp at hi⊢;omega),z6 ⟨by omega,by omega⟩];simp at hi;have hW:W ((j:Int)+1) =(j:Int)+1:=W_id (by omega) (by omega);simp only[z1k,w03,hW];cases bet (gt [t.load,t.tare,t.length,t.brake] (j:Int)) 0 1000000<;>rfl) (λn s=>by
   rw[z25,if_neg (by simp)];simp only[z1k,w03,z0u];cases bet t.gauge 0 7<;>cases bet t.life 1 1073741824<;>cases bet t.floor 0 100<;>rfl) n s hn
 rw[h];simp only[zms,w1h,List.all_nil];cases bet t.load 0 1000000<;>cases bet t.tare 0 1000000<;>cases bet t.length 0 1000000<;>cases bet t.brake 0 1000000<;>
   cases bet t.gauge 0 7<;>cases bet t.life 1 1073741824<;>cases bet t.floor 0 100<;>rfl
theorem zi1(φ:Nat)(hφ:4<φ)(x:z3m)(hl:x.types.length<=32):
  ∀n s,x.types.length<n->z3k φ n x.types (x.types.length:Int) 0 x s=z0f φ φ x.wagons (x.wagons.length:Int) 0 x (bif x.types.all zms then s else 1):=by
 refine zkw (λn i s=>z3k φ n x.types (x.types.length:Int) i x s) (λs=>z0f φ φ x.wagons (x.wagons.length:Int) 0 x s) _ _ ?_ ?_
 .intro n i s hi;rw[z3k,if_pos (by simp;omega),z6 ⟨by omega,by omega⟩];have hW:W ((i:Int)+1) =(i:Int)+1:=W_id (by omega) (by omega);refine(zka φ _ x.types (x.types.length:Int) (i:Int) x (gt x.types i) φ s hφ).trans ?_;rw[hW]
 .intro n s;rw[z3k,if_neg (by simp)]
theorem zgl(φ:Nat)(x:z3m)(hl:x.washes.length<=4096)(n:Nat)(s:Int)(hn:x.washes.length<n):
  z02 φ n x.washes (x.washes.length:Int) 0 s (λ_=>default)=some (bif z9q x.washes then s else 1,()):=by
 refine zw (λn i(t:Int×(Nat->Bool))=>z02 φ n x.washes (x.washes.length:Int) i t.1 t.2) x.washes.length
  (λi t=>t.1 =(bif (List.range i).all (z5z x.washes) then s else 1)/\((List.range i).all (z5z x.washes)=true->∀j:Nat,t.2 j =(x.washes.take i).any λv=>keyW v==(j:Int)))
  (λo=>o=some (bif z9q x.washes then s else 1,())) ?_ ?_ n (s,λ_=>false) ⟨by simp,by simp⟩ hn
 .intro n i t hi ⟨h1,h2⟩ hs;have hW:W ((i:Int)+1) =(i:Int)+1:=W_id (by omega) (by omega);rw[z02,if_pos (by simp;omega),z6 ⟨by omega,by omega⟩];simp only[z1k,w03,z0u,hW];have hok:zxz (gt x.washes i) =(bet (gt x.washes i).from_ 0 63&&bet (gt x.washes i).to 0 63&&((gt x.washes i).from_ !=(gt x.washes i).to)&&bet (gt x.washes i).minutes 0 100000):=rfl;have hsucc:=zfi (z5z x.washes) i;cases hw:zxz (gt x.washes i) with
  |false=>
   have hf :(List.range (i+1)).all (z5z x.washes)=false:=by rw[hsucc];simp[z5z,hw]
   have h3:z02 φ n x.washes (x.washes.length:Int) ((i:Int)+1) 1 t.2=some (bif z9q x.washes then s else 1,()):=hs (1,t.2) ⟨by rw[hf];rfl,by rw[hf];intro h;cases h⟩;rw[hw] at hok;rw[<- h3];generalize bet (gt x.washes i).from_ 0 63=a at *;generalize bet (gt x.washes i).to 0 63=b at *;generalize ((gt x.washes i).from_ !=(gt x.washes i).to)=c at *;generalize bet (gt x.washes i).minutes 0 100000=d at *;cases a<;>cases b<;>cases c<;>cases d<;>first |(exact absurd hok (by decide))|rfl
  |true=>
   rw[hw] at hok;have hb:=hok.symm;simp only[w02] at hb;obtain⟨⟨⟨b1,b2⟩,b3⟩,b4⟩:=hb;have c1:=zl8 b1;have c2:=zl8 b2;simp only[b1,b2,b3,b4,w4g,if_true,w03,w1r,w0t,if_false];rw[z6 ⟨by omega,by omega⟩,z6 ⟨by omega,by omega⟩];have hkey :((gt x.washes i).from_.toNat*64+(gt x.washes i).to.toNat:Nat) =(keyW (gt x.washes i)).toNat:=by unfold keyW;omega
   have hk0 :((keyW (gt x.washes i)).toNat:Int)=keyW (gt x.washes i):=by unfold keyW;omega
   have key:∀e,(e=bif (List.range (i+1)).all (z5z x.washes) then s else 1)->
     z02 φ n x.washes (x.washes.length:Int) ((i:Int)+1) e (upd t.2 (keyW (gt x.washes i)).toNat true)=some (bif z9q x.washes then s else 1,()):=by
    intro e he;refine hs (e,_) ⟨he,λhall j=>?_⟩;rw[hsucc,w02] at hall;rw[zg9 _ _ _ hi,<- h2 hall.1 j];show (if j =(keyW (gt x.washes i)).toNat then true else t.2 j)=_;by_cases hj:j =(keyW (gt x.washes i)).toNat
    .simp[hj,hk0]
    .have :(keyW (gt x.washes i)==(j:Int))=false:=by simp;intro h;exact hj (by omega)
     simp[hj,this]
   have e64:∀(p:Prop)[Decidable p](y:Option (Int×Unit)),p->ck p y=y:=λp _ y hp=>z6 hp
   rw[hkey];simp only[e64 _ _ (show (0:Int)<=(gt x.washes i).from_/\(gt x.washes i).from_<64 by omega),e64 _ _ (show (0:Int)<=(gt x.washes i).to/\(gt x.washes i).to<64 by omega)];cases hall :(List.range i).all (z5z x.washes) with
   |true=>
    have hat:z5z x.washes i = !(t.2 (keyW (gt x.washes i)).toNat):=by rw[h2 hall];simp only[z5z,hw,w2l,hk0]
    cases ht2:t.2 (keyW (gt x.washes i)).toNat with
    |true=>simp only[w1r,w2m,if_true];refine key 1 ?_;rw[hsucc,hat,ht2];simp
    |false=>simp only[w1r,w2m,w0t,if_false];refine key t.1 ?_;rw[hsucc,hat,ht2,h1,hall];simp
   |false=>
    have hf :(List.range (i+1)).all (z5z x.washes)=false:=by rw[hsucc,hall];rfl
    have ht1:t.1=1:=by rw[h1,hall];rfl
    rw[ht1];split<;>exact key 1 (by rw[hf];rfl)
 .intro n t ⟨h1,_⟩;rw[z02,if_neg (by simp),h1];rfl
theorem zbl(φ:Nat)(hφ:5000<φ)(x:z3m):z7r φ x=some (z1l x,()):=by
 have e :(((decide (32<(x.types.length:Int))||decide (4096<(x.wagons.length:Int)))||decide (1024<(x.swaps.length:Int)))||decide (4096<(x.washes.length:Int))) =
   (decide (32<x.types.length)||decide (4096<x.wagons.length)||decide (1024<x.swaps.length)||decide (4096<x.washes.length)):=by
  congr 1
  .congr 1
   .congr 1<;>(apply decide_eq_decide.2;omega)
   .apply decide_eq_decide.2;omega
  .apply decide_eq_decide.2;omega
 unfold z7r z1l;rw[e];cases h :(decide (32<x.types.length)||decide (4096<x.wagons.length)||decide (1024<x.swaps.length)||decide (4096<x.washes.length)) with
 |true=>rfl
 |false=>simp only[w10,decide_eq_false_iff_not,Nat.not_lt] at h;obtain⟨⟨⟨h1,h2⟩,h3⟩,h4⟩:=h;rw[if_neg (by simp),zi1 φ (by omega) x h1 _ _ (by omega),zgk _ _ h2 h1 _ _ (by omega),zi0 _ _ h3 h1 _ _ (by omega),zgl _ _ h4 _ _ (by omega)];cases x.types.all zms<;>cases x.wagons.all (zi9 x.types.length)<;>cases x.swaps.all (zmr x.types.length)<;>cases z9q x.washes<;>rfl
theorem z4j{x:z3m}(h:z1l x=0):x.types.length<=32/\x.wagons.length<=4096/\x.swaps.length<=1024/\x.washes.length<=4096/\
  (∀t∈x.types,zms t=true)/\(∀t∈x.wagons,zi9 x.types.length t=true)/\(∀t∈x.swaps,zmr x.types.length t=true)/\z9q x.washes=true:=by
 unfold z1l at h;cases h1 :(decide (32<x.types.length)||decide (4096<x.wagons.length)||decide (1024<x.swaps.length)||decide (4096<x.washes.length)) with
 |true=>rw[h1] at h;cases h
 |false=>
  rw[h1] at h;simp only[w10,decide_eq_false_iff_not,Nat.not_lt] at h1;obtain⟨⟨⟨a1,a2⟩,a3⟩,a4⟩:=h1;cases h2 :(x.types.all zms&&x.wagons.all (zi9 x.types.length)&&x.swaps.all (zmr x.types.length)&&z9q x.washes) with
  |false=>rw[h2] at h;cases h
  |true=>simp only[w02,w08] at h2;exact⟨a1,a2,a3,a4,h2.1.1.1,h2.1.1.2,h2.1.2,h2.2⟩
end Px
end
section
namespace Px
open Go
theorem z7y{c:Int}(h:0<=c)(h':c<18446744073709551616):(BitVec.ofInt 64 c).toNat=c.toNat:=by rw[BitVec.toNat_ofInt];omega
theorem ya4{n:Nat}(h:n<18446744073709551616):U (n:Int)=n:=U_id (by omega) (by omega)
theorem y91{a b:Nat}(h:a<18446744073709551616):a&&& b<18446744073709551616:=w50 Nat.and_le_left h
theorem y85{k:Nat}(h:k<=63):(2 ^ k:Nat)<18446744073709551616:=w35 (Nat.pow_lt_pow_right (by decide) (by omega:k<64)) (by decide)
theorem yev{c k:Int}(h:0<=c)(hk:0<=k)(hk':k<=63):c.fdiv (2 ^ (min (k:Int).toNat (IntKind.bits .u64))) =((c.toNat / 2 ^ k.toNat:Nat):Int):=by
 have e:min (k:Int).toNat (IntKind.bits .u64)=k.toNat:=by simp[IntKind.bits];omega
 rw[e];have e2 :((2:Int) ^ k.toNat) =((2 ^ k.toNat:Nat):Int):=by simp
 rw[e2,w21 _ (Int.natCast_nonneg _)];have:c =(c.toNat:Int):=by omega
 rw[this];simp
end Px
end
section
namespace Px
open Go
set_option maxRecDepth 100000
theorem zz8 :((List.range 256).all λi=>decide (0<=z9y z03 i/\z9y z03 i<=8/\i<2 ^ (z9y z03 i).toNat/\(0<i->0<z9y z03 i/\2 ^ ((z9y z03 i).toNat-1)<=i)))=true:=by decide+kernel
theorem zm5{i:Int}(h:0<=i)(h':i<256):∃n:Nat,z9y z03 i=n/\n<=8/\i.toNat<2 ^ n/\(0<i->0<n/\2 ^ (n-1)<=i.toNat):=by have:=w08.1 zz8 i.toNat (by simp;omega);rw[decide_eq_true_eq,show ((i.toNat:Nat):Int)=i by omega] at this;obtain⟨a,b,c,d⟩:=this;exact⟨(z9y z03 i).toNat,by omega,by omega,c,λhi=>⟨by have:=(d (by omega)).1;omega,(d (by omega)).2⟩⟩
def z7i(v:Nat)(n:Nat):Prop:=v<2 ^ n/\(0<v->0<n/\2 ^ (n-1)<=v)
theorem z7i.up{v:Nat}(k:Nat){n:Nat}(h:z7i (v / 2 ^ k) n)(hv:2 ^ k<=v):z7i v (n+k):=by
 have hp:=Nat.two_pow_pos k;have hpos:0<v / 2 ^ k:=Nat.div_pos hv hp;obtain⟨h1,h2⟩:=h;obtain⟨h3,h4⟩:=h2 hpos;refine⟨?_,λ_=>⟨by omega,?_⟩⟩
 .rw[w4w];exact(Nat.div_lt_iff_lt_mul hp).1 h1
 .have:n+k-1 =(n-1)+k:=by omega
  rw[this,w4w];exact(Nat.le_div_iff_mul_le hp).1 h4
theorem y2k(φ:Nat)(v w:Int)(h:0<=v)(h':v<256)(hw:0<=w)(hw':w<=64):∃n:Nat,z1b φ v w=some (64-(w+n),())/\n<=8/\z7i v.toNat n:=by
 obtain⟨n,e,hn,a,b⟩:=zm5 h h';have e8:IntKind.wrap .u8 v=v:=by simp[IntKind.wrap,IntKind.bits,IntKind.signed];omega
 refine⟨n,?_,hn,a,λhv=>b (by omega)⟩;unfold z1b;rw[e8,z6 ⟨h,h'⟩,e,W_id (x:=(n:Int)) (by omega) (by omega),W_id (x:=w+n) (by omega) (by omega),W_id (by omega) (by omega)]
theorem sh8(v:Int):v.fdiv (2 ^ (min (8:Int).toNat 64))=v / 256:=by rw[show ((2:Int) ^ (min (8:Int).toNat 64))=256 by decide];exact w21 _ (by omega)
theorem sh16(v:Int):v.fdiv (2 ^ (min (16:Int).toNat 64))=v / 65536:=by rw[show ((2:Int) ^ (min (16:Int).toNat 64))=65536 by decide];exact w21 _ (by omega)
theorem sh32(v:Int):v.fdiv (2 ^ (min (32:Int).toNat 64))=v / 4294967296:=by rw[show ((2:Int) ^ (min (32:Int).toNat 64))=4294967296 by decide];exact w21 _ (by omega)
theorem y9j(φ:Nat)(v w:Int)(h:0<=v)(h':v<65536)(hw:0<=w)(hw':w<=48):∃n:Nat,z1o φ v w=some (64-(w+n),())/\n<=16/\z7i v.toNat n:=by
 unfold z1o;by_cases c:256<=v
 .rw[if_pos (by simpa using c),if_pos (by decide),sh8,W_id (by omega) (by omega)];obtain⟨n,e,hn,hl⟩:=y2k φ (v / 256) (w+8) (by omega) (by omega) (by omega) (by omega);refine⟨n+8,by rw[e];congr 2;omega,by omega,?_⟩;refine z7i.up 8 ?_ (by omega)
  rwa [show v.toNat / 2 ^ 8 =(v / 256).toNat by omega]
 .rw[if_neg (by simpa using c)];obtain⟨n,e,hn,hl⟩:=y2k φ v w h (by omega) (by omega) (by omega);exact⟨n,e,by omega,hl⟩
theorem y9i(φ:Nat)(v w:Int)(h:0<=v)(h':v<4294967296)(hw:0<=w)(hw':w<=32):∃n:Nat,z1n φ v w=some (64-(w+n),())/\n<=32/\z7i v.toNat n:=by
 unfold z1n;by_cases c:65536<=v
 .rw[if_pos (by simpa using c),if_pos (by decide),sh16,W_id (by omega) (by omega)];obtain⟨n,e,hn,hl⟩:=y9j φ (v / 65536) (w+16) (by omega) (by omega) (by omega) (by omega);refine⟨n+16,by rw[e];congr 2;omega,by omega,?_⟩;refine z7i.up 16 ?_ (by omega)
  rwa [show v.toNat / 2 ^ 16 =(v / 65536).toNat by omega]
 .rw[if_neg (by simpa using c)];obtain⟨n,e,hn,hl⟩:=y9j φ v w h (by omega) (by omega) (by omega);exact⟨n,e,by omega,hl⟩
theorem yf5(φ:Nat)(v:Int)(h:0<=v)(h':v<18446744073709551616):∃n:Nat,z30 φ v=some (64-(n:Int),())/\n<=64/\z7i v.toNat n:=by
 unfold z30;by_cases c:4294967296<=v
 .rw[if_pos (by simpa using c),if_pos (by decide),sh32];obtain⟨n,e,hn,hl⟩:=y9i φ (v / 4294967296) 32 (by omega) (by omega) (by omega) (by omega);refine⟨n+32,by rw[e];congr 2;omega,by omega,?_⟩;refine z7i.up 32 ?_ (by omega)
  rwa [show v.toNat / 2 ^ 32 =(v / 4294967296).toNat by omega]
 .rw[if_neg (by simpa using c)];obtain⟨n,e,hn,hl⟩:=y9i φ v 0 h (by omega) (by omega) (by omega);exact⟨n,by rw[e];simp,by omega,hl⟩
theorem zmc{v:Int}(h:0<=v)(h':v<18446744073709551616):U ((BitVec.ofInt 64 v&&& BitVec.ofInt 64 4294967295).toNat)=v % 4294967296:=by
 show U ((BitVec.ofInt 64 v&&& BitVec.ofInt 64 4294967295).toNat:Int)=_;rw[BitVec.toNat_and,z7y h h',z7y (by omega) (by omega),ya4 (y91 (by omega))];have :(4294967295:Int).toNat=2 ^ 32-1:=by decide
 rw[this,Nat.and_two_pow_sub_one_eq_mod];omega
theorem zme{a b m n:Int}(ha:0<=a)(hb:0<=b)(h:a<=m)(h':b<=n):0<=a*b/\a*b<=m*n:=⟨w1d ha hb,w2v h h' hb (by omega)⟩
theorem y5d(φ:Nat)(x y:Int)(hx:0<=x)(hx':x<18446744073709551616)(hy:0<=y)(hy':y<18446744073709551616):
  z7l φ x y=some (x*y / 18446744073709551616,x*y % 18446744073709551616,()):=by
 unfold z7l;simp only[show (0:Int)<=32 by decide,if_true];rw[zmc hx hx',zmc hy hy'];simp only[sh32];have ex:x=x / 4294967296*4294967296+x % 4294967296:=by omega
 have ey:y=y / 4294967296*4294967296+y % 4294967296:=by omega
 have a1:0<=x / 4294967296/\x / 4294967296<=4294967295:=by omega
 have a0:0<=x % 4294967296/\x % 4294967296<=4294967295:=by omega
 have b1:0<=y / 4294967296/\y / 4294967296<=4294967295:=by omega
 have b0:0<=y % 4294967296/\y % 4294967296<=4294967295:=by omega
 have hxy:x*y =(x / 4294967296)*(y / 4294967296)*18446744073709551616+((x / 4294967296)*(y % 4294967296)+(x % 4294967296)*(y / 4294967296))*4294967296+(x % 4294967296)*(y % 4294967296):=by
  conv=>lhs;rw[ex,ey]
  generalize x / 4294967296=a;generalize x % 4294967296=b;generalize y / 4294967296=c;generalize y % 4294967296=d;rw[w2x,w33,w33,w2x];have e1:a*4294967296*(c*4294967296)=a*c*18446744073709551616:=by rw[w2z,Int.mul_left_comm 4294967296 c,<- w2z];rfl
  have e2:a*4294967296*d=a*d*4294967296:=by rw[w51]
  have e3:b*(c*4294967296)=b*c*4294967296:=by rw[w2z]
  rw[e1,e2,e3];omega
 have p11:=zme a1.1 b1.1 a1.2 b1.2;have p10:=zme a1.1 b0.1 a1.2 b0.2;have p01:=zme a0.1 b1.1 a0.2 b1.2;have p00:=zme a0.1 b0.1 a0.2 b0.2;rw[zyo (x*y),hxy];generalize (x / 4294967296)*(y / 4294967296)=p at *;generalize (x / 4294967296)*(y % 4294967296)=q at *;generalize (x % 4294967296)*(y / 4294967296)=r at *;generalize (x % 4294967296)*(y % 4294967296)=s at *;clear hxy ex ey a1 a0 b1 b0;rw[U_id (x:=p) (by omega) (by omega),U_id (x:=q) (by omega) (by omega),U_id (x:=r) (by omega) (by omega),U_id (x:=s) (by omega) (by omega)];rw[U_id (x:=q+s / 4294967296) (by omega) (by omega),zmc (by omega) (by omega),
  U_id (x:=(q+s / 4294967296) % 4294967296+r) (by omega) (by omega),U_id (x:=p+(q+s / 4294967296) / 4294967296) (by omega) (by omega),U_id (by omega) (by omega)]
 refine congrArg some (Prod.ext ?_ rfl);show _=_;omega
theorem ydd{yn1 yn0 u d q r:Int}(h1:2147483648<=yn1)(h1':yn1<4294967296)(h0:0<=yn0)(h0':yn0<4294967296)(hd:0<=d)(hd':d<4294967296)(hu:0<=u)
  (hu':u<yn1*4294967296+yn0) (hqr:q*yn1+r=u) (hr:0<=r) (hr':r<4294967296) (hq :(u*4294967296+d) /(yn1*4294967296+yn0)<=q) :
  0<=q/\q<=4294967297/\0<=(u*4294967296+d) /(yn1*4294967296+yn0)/\(u*4294967296+d) /(yn1*4294967296+yn0)<4294967296/\
  (4294967296<=q\/4294967296*r+d<q*yn0->(u*4294967296+d) /(yn1*4294967296+yn0)<=q-1)/\
  (¬(4294967296<=q\/4294967296*r+d<q*yn0)->q =(u*4294967296+d) /(yn1*4294967296+yn0))/\
  (4294967296<=q\/4294967296*r+d<q*yn0->4294967296<=r+yn1->q-1 =(u*4294967296+d) /(yn1*4294967296+yn0)):=by
 have hY:0<yn1*4294967296+yn0:=by omega
 have hQ0:0<=(u*4294967296+d) /(yn1*4294967296+yn0):=w3a (by omega) (by omega);have hQ1 :(u*4294967296+d) /(yn1*4294967296+yn0)<4294967296:=w3y hY (by omega);have hq0:0<=q:=by omega
 have key:q*(yn1*4294967296+yn0) =(u-r)*4294967296+q*yn0:=by rw[w33,<- w2z,<- hqr];omega
 have hq2:q<=4294967297:=by
  rcases Int.lt_or_le 4294967297 q with h|h
  .have:4294967298*yn1<=q*yn1:=w2a (by omega) (by omega);omega
  .exact h
 have lt_of:∀{z:Int},(u*4294967296+d) /(yn1*4294967296+yn0)<z↔u*4294967296+d<z*(yn1*4294967296+yn0):=λ{z}=>Int.ediv_lt_iff_lt_mul hY
 refine⟨hq0,hq2,hQ0,hQ1,λh=>?_,λh=>?_,λh hr2=>?_⟩
 .have :(u*4294967296+d) /(yn1*4294967296+yn0)<q:=by
   rcases h with h|h
   .omega
   .rw[lt_of,key];omega
  omega
 .have:¬(u*4294967296+d) /(yn1*4294967296+yn0)<q:=by rw[lt_of,key];omega
  omega
 .have hq1 :(u*4294967296+d) /(yn1*4294967296+yn0)<q:=by
   rcases h with h|h
   .omega
   .rw[lt_of,key];omega
  have h2:¬(u*4294967296+d) /(yn1*4294967296+yn0)<q-1:=by
   rw[lt_of];have e :(q-1)*(yn1*4294967296+yn0) =(u-(r+yn1))*4294967296+(q-1)*yn0:=by
    have :(q-1)*yn1+(r+yn1)=u:=by rw[w46];omega
    rw[w33,<- w2z,<- this];omega
   have b:=(zme (by omega:0<=q-1) h0 (by omega:q-1<=4294967296) (by omega:yn0<=4294967295)).2;rw[e];omega
  omega
theorem mulB{a b:Int}(h:0<=a)(h':a<4294967296)(g:0<=b)(g':b<4294967296):0<=a*b/\a*b<=18446744065119617025:=zme h g (by omega:a<=4294967295) (by omega:b<=4294967295)
theorem zop{ρ:Type}(L:Nat->Int->Int->Option ρ)(k:Int->Option ρ){yn1 yn0 u d:Int}(h1:2147483648<=yn1)(h1':yn1<4294967296)(h0:0<=yn0)(h0':yn0<4294967296)(hd:0<=d)(hd':d<4294967296)(hu:0<=u)
  (hu':u<yn1*4294967296+yn0)
  (step:∀n q r,L (n+1) q r=if(decide (4294967296<=q)||decide (U (U (4294967296*r)+d)<U (q*yn0)))=true then(if decide (4294967296<=U (r+yn1))=true then k (U (q-1)) else L n (U (q-1)) (U (r+yn1))) else k q) :
  ∀(n:Nat)q r,q*yn1+r=u->0<=r->r<4294967296->(u*4294967296+d) /(yn1*4294967296+yn0)<=q->4294967296-r<=2147483648*n->L (n+1) q r=k ((u*4294967296+d) /(yn1*4294967296+yn0)):=by
 intro n
 induction n with
 |zero=>intro q r _ _ _ _ h;omega
 |succ n ih=>
  intro q r hqr hr hr' hq hn;obtain⟨g0,g1,g2,g3,g4,g5,g6⟩:=ydd h1 h1' h0 h0' hd hd' hu hu' hqr hr hr' hq;have hc :(decide (4294967296<=q)||decide (U (U (4294967296*r)+d)<U (q*yn0)))=true↔(4294967296<=q\/4294967296*r+d<q*yn0):=by
   rw[w0s,decide_eq_true_eq,decide_eq_true_eq];by_cases hqB:4294967296<=q
   .simp[hqB]
   .have:=mulB g0 (by omega:q<4294967296) h0 h0'
    rw[U_id (x:=4294967296*r) (by omega) (by omega),U_id (by omega) (by omega),U_id (by omega) (by omega)]
  rw[step];by_cases c:4294967296<=q\/4294967296*r+d<q*yn0
  .have a4:=g4 c;rw[if_pos (hc.2 c),U_id (x:=r+yn1) (by omega) (by omega),U_id (x:=q-1) (by omega) (by omega)];by_cases e:4294967296<=r+yn1
   .rw[if_pos (by simpa using e),g6 c e]
   .rw[if_neg (by simpa using e)];exact ih _ _ (by rw[w46];omega) (by omega) (by omega) a4 (by omega)
  .rw[if_neg (λh=>c (hc.1 h)),<- g5 c]
theorem zlg{yn1 yn0 u d:Int}(h1:2147483648<=yn1)(h1':yn1<4294967296)(h0:0<=yn0)(h0':yn0<4294967296)(hd:0<=d)(hd':d<4294967296)(hu:0<=u)
  (hu':u<yn1*4294967296+yn0):U (u.tdiv yn1)=u / yn1/\U (u-U (U (u.tdiv yn1)*yn1))=u % yn1/\u / yn1*yn1+u % yn1=u/\0<=u % yn1/\u % yn1<4294967296/\
  (u*4294967296+d) /(yn1*4294967296+yn0)<=u / yn1:=by
 have e1:u.tdiv yn1=u / yn1:=w3c hu;have hdm:u / yn1*yn1+u % yn1=u:=by have:=w3b u yn1;exact this
 have hm0:=w3o u (by omega:yn1≠0);have hm1:=w3p u (by omega:0<yn1);have hq0:0<=u / yn1:=w3a hu (by omega);have hq1:u / yn1<=u:=Int.ediv_le_self _ hu;have hqm:0<=u / yn1*yn1:=w1d hq0 (by omega);rw[e1,U_id hq0 (by omega),U_id (x:=u / yn1*yn1) (by omega) (by omega),U_id (by omega) (by omega)];refine⟨rfl,by omega,hdm,hm0,by omega,?_⟩;have hY:0<yn1*4294967296+yn0:=by omega
 have hQ0:0<=(u*4294967296+d) /(yn1*4294967296+yn0):=w3a (by omega) (by omega);have hQ:=Int.ediv_mul_le (u*4294967296+d) (b:=yn1*4294967296+yn0) (by omega);generalize (u*4294967296+d) /(yn1*4294967296+yn0)=z at *;rw[w33,<- w2z] at hQ;have:=w1d hQ0 h0;exact(Int.le_ediv_iff_mul_le (by omega)).2 (by omega)
theorem y9z(a b c:Int):U (U (U a+b)-U c)=U (a+b-c):=by simp only[zyo];omega
theorem yek{a b:Int}{s:Nat}(hs:s<=63)(ha:0<=a)(h:a*2 ^ s<18446744073709551616)(hb:0<=b)(hb':b<2 ^ s):
  U ((BitVec.ofInt 64 (U (a*2 ^ s))||| BitVec.ofInt 64 b).toNat)=a*2 ^ s+b:=by
 have hp :(0:Int)<2 ^ s:=Int.pow_pos (by decide);have hn:=w1d ha (Int.le_of_lt hp);have hp2 :(2:Int) ^ s =((2 ^ s:Nat):Int):=by simp
 have hlt :(2 ^ s:Nat)<18446744073709551616:=y85 hs;rw[U_id hn (by omega)];show U ((BitVec.ofInt 64 (a*2 ^ s)||| BitVec.ofInt 64 b).toNat:Int)=_;have hlt2:=(BitVec.ofInt 64 (a*2 ^ s)||| BitVec.ofInt 64 b).isLt;rw[ya4 (by omega),BitVec.toNat_or,z7y hn h,z7y hb (by omega)];obtain⟨n,rfl⟩:=w1n ha;obtain⟨m,rfl⟩:=w1n hb;have e :((n:Int)*2 ^ s).toNat=2 ^ s*n:=by rw[hp2,<- w4r,w1t,w5a]
 rw[e,w1t,<- Nat.two_pow_add_eq_or_of_lt (by rw[hp2] at hb';omega)];simp[w29]
theorem zhh(φ:Nat)(v:Int)(h:0<v)(h':v<18446744073709551616):∃s:Nat,z30 φ v=some ((s:Int),())/\s<=63/\
  9223372036854775808<=v*2 ^ s/\v*2 ^ s<18446744073709551616/\v<=2 ^ (64-s):=by
 obtain⟨n,e,hn,h1,h2⟩:=yf5 φ v (by omega) h';obtain⟨h3,h4⟩:=h2 (by omega);refine⟨64-n,?_,by omega,?_,?_,?_⟩
 .rw[e];congr 2;omega
 .have:2 ^ (n-1)*2 ^ (64-n)<=v.toNat*2 ^ (64-n):=w14 _ h4;rw[<- w4w,show n-1+(64-n)=63 by omega] at this;have e2 :((v.toNat*2 ^ (64-n):Nat):Int)=v*2 ^ (64-n):=by rw[w4r,Int.natCast_pow];congr 1;omega
  omega
 .have:v.toNat*2 ^ (64-n)<2 ^ n*2 ^ (64-n):=Nat.mul_lt_mul_of_pos_right h1 (Nat.two_pow_pos _);rw[<- w4w,show n+(64-n)=64 by omega] at this;have e2 :((v.toNat*2 ^ (64-n):Nat):Int)=v*2 ^ (64-n):=by rw[w4r,Int.natCast_pow];congr 1;omega
  omega
 .rw[show 64-(64-n)=n by omega];have e2 :((2 ^ n:Nat):Int) =(2:Int) ^ n:=by simp
  omega
theorem y5c(φ:Nat)(hφ:5<φ)(hi lo y:Int)(h0:0<=hi)(hy:hi<y)(hy':y<18446744073709551616)(hl:0<=lo)(hl':lo<18446744073709551616):
  z6a φ hi lo y=some ((hi*18446744073709551616+lo) / y,(hi*18446744073709551616+lo) % y,()):=by
 unfold z6a;rw[if_neg (by simp;omega),if_neg (by simp;omega)];by_cases hz:hi=0
 .subst hz;rw[if_pos (by simp),z6 (by omega),z6 (by omega),w3c hl,w1l hl,U_id (w3a hl (by omega)) (by have:=Int.ediv_le_self y hl;omega)];simp
 rw[if_neg (by simpa using hz)];obtain⟨s,es,hs,hY1,hY2,hyP⟩:=zhh φ y (by omega) hy';have em1:min (s:Int).toNat 64=s:=by omega
 have em2:min (64-(s:Int)).toNat 64=64-s:=by omega
 have hp :(0:Int)<2 ^ s:=Int.pow_pos (by decide);have hP :(0:Int)<2 ^ (64-s):=Int.pow_pos (by decide);have hpP :(2:Int) ^ s*2 ^ (64-s)=18446744073709551616:=by rw[<- Int.pow_add,show s+(64-s)=64 by omega];rfl
 have hhp:hi*2 ^ s<y*2 ^ s:=w52 hy hp;have hlP0:0<=lo / 2 ^ (64-s):=w3a hl (by omega);have hlP1:lo / 2 ^ (64-s)<2 ^ s:=w3y hP (by omega);have hh0:0<=hi*2 ^ s:=w1d h0 (by omega)
 -- the low word
 have hlo10:U (lo*2 ^ s)=lo % 2 ^ (64-s)*2 ^ s:=by
  have e:lo=lo / 2 ^ (64-s)*2 ^ (64-s)+lo % 2 ^ (64-s):=(w3b lo _).symm;have e2:lo*2 ^ s=lo / 2 ^ (64-s)*18446744073709551616+lo % 2 ^ (64-s)*2 ^ s:=by
   conv=>lhs;rw[e]
   rw[w2x,w2z,w29 (2 ^ (64-s)),hpP]
  have m0:=w3o lo (by omega :(2:Int) ^ (64-s)≠0);have m1:=w3p lo hP;have m2:lo % 2 ^ (64-s)*2 ^ s<2 ^ (64-s)*2 ^ s:=w52 m1 hp;have m3:=w1d m0 (Int.le_of_lt hp);rw[w29 (2 ^ (64-s))] at m2;rw[e2,zyo];omega
 have hN :(hi*2 ^ s+lo / 2 ^ (64-s))*18446744073709551616+lo % 2 ^ (64-s)*2 ^ s =(hi*18446744073709551616+lo)*2 ^ s:=by
  have e:lo=lo / 2 ^ (64-s)*2 ^ (64-s)+lo % 2 ^ (64-s):=(w3b lo _).symm;have e2:lo*2 ^ s=lo / 2 ^ (64-s)*18446744073709551616+lo % 2 ^ (64-s)*2 ^ s:=by
   conv=>lhs;rw[e]
   rw[w2x,w2z,w29 (2 ^ (64-s)),hpP]
  have e3 :(hi*18446744073709551616+lo)*2 ^ s=hi*2 ^ s*18446744073709551616+lo*2 ^ s:=by rw[w2x,w51]
  rw[e3,e2];omega
 have hun0:0<=lo % 2 ^ (64-s)*2 ^ s:=w1d (w3o lo (by omega)) (by omega);have hun1:lo % 2 ^ (64-s)*2 ^ s<18446744073709551616:=by rw[<- hlo10,zyo];omega
 have hu':hi*2 ^ s+lo / 2 ^ (64-s)<y*2 ^ s:=by have :(hi+1)*2 ^ s<=y*2 ^ s:=w2a (by omega) (by omega);rw[w2x] at this;omega
 have hs1:U (s:Int)=s:=U_id (by omega) (by omega);have hs2:U (64-(s:Int))=64-(s:Int):=U_id (by omega) (by omega);have ef:lo.fdiv (2 ^ (64-s))=lo / 2 ^ (64-s):=w21 _ (by omega);have eor:=yek hs h0 (by omega:hi*2 ^ s<18446744073709551616) hlP0 hlP1;obtain⟨Y,hYd⟩:∃Y,Y=y*2 ^ s:=⟨_,rfl⟩;have eY:U (y*2 ^ s)=Y:=by rw[hYd];exact U_id (by omega) (by omega)
 obtain⟨u,hud⟩:∃u,u=hi*2 ^ s+lo / 2 ^ (64-s):=⟨_,rfl⟩;obtain⟨w,hwd⟩:∃w,w=lo % 2 ^ (64-s)*2 ^ s:=⟨_,rfl⟩;rw[<- hwd] at hlo10 hN hun0 hun1;rw[<- hud] at hN hu' eor;rw[<- hYd] at hu' hY1 hY2 hhp;have hu0:0<=u:=by omega
 have fY:Y.fdiv 4294967296=Y / 4294967296:=w21 _ (by omega);have fw:w.fdiv 4294967296=w / 4294967296:=w21 _ (by omega);have mY:=zmc (v:=Y) (by omega) (by omega);have mw:=zmc (v:=w) (by omega) (by omega);have b1:2147483648<=Y / 4294967296/\Y / 4294967296<4294967296/\0<=Y % 4294967296/\Y % 4294967296<4294967296:=by omega
 have b2:0<=w / 4294967296/\w / 4294967296<4294967296/\0<=w % 4294967296/\w % 4294967296<4294967296:=by omega
 have eYs:Y / 4294967296*4294967296+Y % 4294967296=Y:=by omega
 obtain⟨m,rfl⟩:∃m,φ=m+3:=⟨φ-3,by omega⟩;rw[es];simp only[w03,hs1,hs2,em1,em2,sh32,eY,hlo10,mY,mw,ef,eor,show (0:Int)<=32 by decide,if_true];rw[z6 (by omega),z6 (by omega),z6 (by omega),z6 (by omega),z6 (by omega)];obtain⟨i1,i2,i3,i4,i5,i6⟩:=zlg (u:=u) (d:=w / 4294967296) b1.1 b1.2.1 b1.2.2.1 b1.2.2.2 b2.1 b2.2.1 hu0 (by omega);rw[i1] at i2⊢;rw[i2];refine(zop (λn q r=>z5i (m+3) n Y s (Y / 4294967296) (Y % 4294967296) u (w / 4294967296) (w % 4294967296) q r) (λq=>z5j (m+3) Y s (Y / 4294967296) (Y % 4294967296) u (w / 4294967296) (w % 4294967296) q)
  b1.1 b1.2.1 b1.2.2.1 b1.2.2.2 b2.1 b2.2.1 hu0 (by omega) (λn q r=>by rw[z5i]) (m+2) _ _ i3 i4 i5 i6 (by omega)).trans ?_
 rw[eYs];unfold z5j;rw[z6 (by omega)];have hQ1:0<=(u*4294967296+w / 4294967296) / Y/\(u*4294967296+w / 4294967296) / Y<4294967296:=⟨w3a (by omega) (by omega),w3y (by omega) (by omega)⟩;have hR1:=w3b (u*4294967296+w / 4294967296) Y;have hR1a:=w3o (u*4294967296+w / 4294967296) (by omega:Y≠0);have hR1b:=w3p (u*4294967296+w / 4294967296) (by omega:0<Y);generalize (u*4294967296+w / 4294967296) / Y=q1 at *;generalize (u*4294967296+w / 4294967296) % Y=r1 at *;have eu21:U (U (U (u*4294967296)+w / 4294967296)-U (q1*Y))=r1:=by rw[y9z,show u*4294967296+w / 4294967296-q1*Y=r1 by omega];exact U_id hR1a (by omega)
 rw[eu21];obtain⟨j1,j2,j3,j4,j5,j6⟩:=zlg (u:=r1) (d:=w % 4294967296) b1.1 b1.2.1 b1.2.2.1 b1.2.2.2 b2.2.2.1 b2.2.2.2 hR1a (by omega);rw[j1] at j2⊢;rw[j2];refine(zop (λn q r=>z5h (m+3) n Y s (Y / 4294967296) (Y % 4294967296) (w % 4294967296) q1 r r1 q) (λq=>z5k (m+3) Y s (w % 4294967296) q1 r1 q)
  b1.1 b1.2.1 b1.2.2.1 b1.2.2.2 b2.2.2.1 b2.2.2.2 hR1a (by omega) (λn q r=>by rw[z5h]) (m+2) _ _ j3 j4 j5 j6 (by omega)).trans ?_
 rw[eYs];unfold z5k;rw[em1,z6 (by omega)];have hQ0:0<=(r1*4294967296+w % 4294967296) / Y/\(r1*4294967296+w % 4294967296) / Y<4294967296:=⟨w3a (by omega) (by omega),w3y (by omega) (by omega)⟩;have hR0:=w3b (r1*4294967296+w % 4294967296) Y;have hR0a:=w3o (r1*4294967296+w % 4294967296) (by omega:Y≠0);have hR0b:=w3p (r1*4294967296+w % 4294967296) (by omega:0<Y);generalize (r1*4294967296+w % 4294967296) / Y=q0 at *;generalize (r1*4294967296+w % 4294967296) % Y=r0 at *;rw[y9z,show r1*4294967296+w % 4294967296-q0*Y=r0 by omega,U_id (x:=r0) hR0a (by omega),U_id (x:=q1*4294967296) (by omega) (by omega),U_id (by omega) (by omega),w21 _ (by omega)];have hall :(hi*18446744073709551616+lo-(q1*4294967296+q0)*y)*2 ^ s=r0:=by rw[w46,<- hN,w2z,<- hYd,w2x,w51];omega
 have hz0:0<=hi*18446744073709551616+lo-(q1*4294967296+q0)*y:=by
  rcases Int.lt_or_le (hi*18446744073709551616+lo-(q1*4294967296+q0)*y) 0 with h|h
  .have:=Int.mul_neg_of_neg_of_pos h hp;omega
  .exact h
 have hz1:hi*18446744073709551616+lo-(q1*4294967296+q0)*y<y:=by refine Int.lt_of_mul_lt_mul_right (a:=2 ^ s) ?_ (by omega);rw[hall,<- hYd];exact hR0b
 have hr0:r0 / 2 ^ s=hi*18446744073709551616+lo-(q1*4294967296+q0)*y:=by rw[<- hall];exact Int.mul_ediv_cancel _ (by omega)
 have hdm :(hi*18446744073709551616+lo) / y=q1*4294967296+q0/\(hi*18446744073709551616+lo) % y=hi*18446744073709551616+lo-(q1*4294967296+q0)*y:=(Int.ediv_emod_unique (by omega)).2 ⟨by rw[w29 y];omega,hz0,hz1⟩;rw[hr0,hdm.1,hdm.2]
end Px
end
section
namespace Px
open Go
set_option maxRecDepth 100000
def PP:Nat:=2305843009213690799
def QQ:Nat:=1152921504606845399
def pw(b n:Nat):Nat:=b ^ n % PP
theorem zvw(b n:Nat):pw b n<PP:=w4n _ (by decide)
theorem zr1(b:Nat):pw b 0=1:=by simp[pw,PP]
theorem y44(b m n:Nat):pw b m*pw b n % PP=pw b (m+n):=by unfold pw;rw[w4w,<- Nat.mul_mod]
theorem y9w(b:Nat):pw b 1=b % PP:=by simp[pw]
theorem ydx{a:Nat}(h:a<PP):((a:Int)).tmod 2305843009213690799 =(a:Int):=by unfold PP at h;rw[w1l (by omega)];omega
theorem ydy(b:Nat):((b:Int)).tmod 2305843009213690799 =((b % PP:Nat):Int):=by rw[w1l (by omega)];unfold PP;omega
theorem y2y{ρ:Type}{a b:Nat}(ha:a<PP)(hb:b<PP)(φ:Nat)(hφ:5<φ)(K:Int->Option ρ):((z7l φ (a:Int) (b:Int)).bind λy=>(z6a φ y.1 y.2.1 2305843009213690799).bind λz=>K z.2.1)=K ((a*b % PP:Nat):Int):=by
 have ha' :(a:Int)<2305843009213690799:=by unfold PP at ha;omega
 have hb' :(b:Int)<2305843009213690799:=by unfold PP at hb;omega
 have hp:=zme (by omega:0<=(a:Int)) (by omega:0<=(b:Int)) (by omega :(a:Int)<=2305843009213690798) (by omega :(b:Int)<=2305843009213690798);rw[y5d φ _ _ (by omega) (by omega) (by omega) (by omega),w03];generalize hz :(a:Int)*(b:Int)=z at *;show (z6a φ (z / 18446744073709551616) (z % 18446744073709551616) 2305843009213690799).bind _=_;rw[y5c φ hφ _ _ _ (by omega) (by omega) (by omega) (by omega) (by omega),w03];congr 1;have:z / 18446744073709551616*18446744073709551616+z % 18446744073709551616=z:=by omega
 show (z / 18446744073709551616*18446744073709551616+z % 18446744073709551616) % 2305843009213690799=_;rw[this,<- hz,Int.natCast_emod,w4r];rfl
theorem z7i.uniq{v m n:Nat}(hv:0<v)(h:z7i v m)(k:z7i v n):m=n:=by obtain⟨h1,h2⟩:=h;obtain⟨k1,k2⟩:=k;obtain⟨h3,h4⟩:=h2 hv;obtain⟨k3,k4⟩:=k2 hv;have a:m-1<n:=(Nat.pow_lt_pow_iff_right (by decide:1<2)).1 (w50 h4 k1);have b:n-1<m:=(Nat.pow_lt_pow_iff_right (by decide:1<2)).1 (w50 k4 h1);omega
section first
variable(φ:Nat)(b n a p:Int)
theorem y3x(v w:Int)(h:0<=v)(h':v<256)(hw:0<=w)(hw':w<=64):∃m:Nat,z8w φ v w b n a p=z0r φ φ b n a (w+m) 0 p/\m<=8/\z7i v.toNat m:=by
 obtain⟨m,e,hm,x,y⟩:=zm5 h h';have e8:IntKind.wrap .u8 v=v:=by simp[IntKind.wrap,IntKind.bits,IntKind.signed];omega
 refine⟨m,?_,hm,x,λhv=>y (by omega)⟩;unfold z8w;rw[e8,z6 ⟨h,h'⟩,e,W_id (x:=(m:Int)) (by omega) (by omega),W_id (x:=w+m) (by omega) (by omega)]
theorem y3w(v w:Int)(h:0<=v)(h':v<65536)(hw:0<=w)(hw':w<=48):∃m:Nat,z8v φ v w b n a p=z0r φ φ b n a (w+m) 0 p/\m<=16/\z7i v.toNat m:=by
 unfold z8v;by_cases c:256<=v
 .rw[if_pos (by simpa using c),if_pos (by decide),sh8,W_id (by omega) (by omega)];obtain⟨m,e,hn,hl⟩:=y3x φ b n a p (v / 256) (w+8) (by omega) (by omega) (by omega) (by omega);refine⟨m+8,by rw[e];congr 1;omega,by omega,?_⟩;refine z7i.up 8 ?_ (by omega)
  rwa [show v.toNat / 2 ^ 8 =(v / 256).toNat by omega]
 .rw[if_neg (by simpa using c)];obtain⟨m,e,hn,hl⟩:=y3x φ b n a p v w h (by omega) (by omega) (by omega);exact⟨m,e,by omega,hl⟩
theorem y9u(v w:Int)(h:0<=v)(h':v<4294967296)(hw:0<=w)(hw':w<=32):∃m:Nat,zaq φ v w b n a p=z0r φ φ b n a (w+m) 0 p/\m<=32/\z7i v.toNat m:=by
 unfold zaq;by_cases c:65536<=v
 .rw[if_pos (by simpa using c),if_pos (by decide),sh16,W_id (by omega) (by omega)];obtain⟨m,e,hn,hl⟩:=y3w φ b n a p (v / 65536) (w+16) (by omega) (by omega) (by omega) (by omega);refine⟨m+16,by rw[e];congr 1;omega,by omega,?_⟩;refine z7i.up 16 ?_ (by omega)
  rwa [show v.toNat / 2 ^ 16 =(v / 65536).toNat by omega]
 .rw[if_neg (by simpa using c)];obtain⟨m,e,hn,hl⟩:=y3w φ b n a p v w h (by omega) (by omega) (by omega);exact⟨m,e,by omega,hl⟩
end first
def zib(φ:Nat)(k:Int->Int->Int->Int->Int->Int->Option (Int×Unit))(L b c d e f g i a:Int):Option (Int×Unit):=ck (0<=(W ((W (L-1))-e))) (if(((U ((BitVec.ofInt 64 ((i:Int).fdiv (2 ^ (min ((W ((W (L-1))-e)):Int).toNat 64)))&&& BitVec.ofInt 64 1).toNat)):Int)==1)=true then(ck (a≠0) (ck (a≠0) ((z7l φ ((d:Int).tmod a) ((b:Int).tmod a)).bind λh=>((z6a φ h.1 h.2.1 a).bind λj=>(k b c j.2.1 f (W (g+1)) a))))) else(k b c d f (W (g+1)) a))
section second
variable(φ:Nat)(k:Int->Int->Int->Int->Int->Int->Option (Int×Unit))(x57 x58 x59 x60 x61 x62 x63 x64:Int)
theorem y40(v w:Int)(h:0<=v)(h':v<256)(hw:0<=w)(hw':w<=64):∃m:Nat,z8y φ k v w x57 x58 x59 x60 x61 x62 x63 x64=zib φ k (w+m) x57 x58 x59 x60 x61 x62 x63 x64/\m<=8/\z7i v.toNat m:=by
 obtain⟨m,e,hm,x,y⟩:=zm5 h h';have e8:IntKind.wrap .u8 v=v:=by simp[IntKind.wrap,IntKind.bits,IntKind.signed];omega
 refine⟨m,?_,hm,x,λhv=>y (by omega)⟩;unfold z8y zib;rw[e8,z6 ⟨h,h'⟩,e,W_id (x:=(m:Int)) (by omega) (by omega),W_id (x:=w+m) (by omega) (by omega)]
theorem y3z(v w:Int)(h:0<=v)(h':v<65536)(hw:0<=w)(hw':w<=48):∃m:Nat,z8x φ k v w x57 x58 x59 x60 x61 x62 x63 x64=zib φ k (w+m) x57 x58 x59 x60 x61 x62 x63 x64/\m<=16/\z7i v.toNat m:=by
 unfold z8x;by_cases c:256<=v
 .rw[if_pos (by simpa using c),if_pos (by decide),sh8,W_id (by omega) (by omega)];obtain⟨m,e,hn,hl⟩:=y40 φ k x57 x58 x59 x60 x61 x62 x63 x64 (v / 256) (w+8) (by omega) (by omega) (by omega) (by omega);refine⟨m+8,by rw[e];congr 1;omega,by omega,?_⟩;refine z7i.up 8 ?_ (by omega)
  rwa [show v.toNat / 2 ^ 8 =(v / 256).toNat by omega]
 .rw[if_neg (by simpa using c)];obtain⟨m,e,hn,hl⟩:=y40 φ k x57 x58 x59 x60 x61 x62 x63 x64 v w h (by omega) (by omega) (by omega);exact⟨m,e,by omega,hl⟩
theorem y3y(v w:Int)(h:0<=v)(h':v<4294967296)(hw:0<=w)(hw':w<=32):∃m:Nat,z3h φ k v w x57 x58 x59 x60 x61 x62 x63 x64=zib φ k (w+m) x57 x58 x59 x60 x61 x62 x63 x64/\m<=32/\z7i v.toNat m:=by
 unfold z3h;by_cases c:65536<=v
 .rw[if_pos (by simpa using c),if_pos (by decide),sh16,W_id (by omega) (by omega)];obtain⟨m,e,hn,hl⟩:=y3z φ k x57 x58 x59 x60 x61 x62 x63 x64 (v / 65536) (w+16) (by omega) (by omega) (by omega) (by omega);refine⟨m+16,by rw[e];congr 1;omega,by omega,?_⟩;refine z7i.up 16 ?_ (by omega)
  rwa [show v.toNat / 2 ^ 16 =(v / 65536).toNat by omega]
 .rw[if_neg (by simpa using c)];obtain⟨m,e,hn,hl⟩:=y3z φ k x57 x58 x59 x60 x61 x62 x63 x64 v w h (by omega) (by omega) (by omega);exact⟨m,e,by omega,hl⟩
theorem yem(v:Int)(h:0<=v)(h':v<18446744073709551616):∃m:Nat,(if(decide ((4294967296:Int)<=v))=true then(if 0<=(32:Int) then(z3h φ k (((v:Int).fdiv (2 ^ (min (32:Int).toNat 64)))) 32 x57 x58 x59 x60 x61 x62 x63 x64) else none) else(z3h φ k v 0 x57 x58 x59 x60 x61 x62 x63 x64)) =
  zib φ k m x57 x58 x59 x60 x61 x62 x63 x64/\m<=64/\z7i v.toNat m:=by
 by_cases c:4294967296<=v
 .rw[if_pos (by simpa using c),if_pos (by decide),sh32];obtain⟨m,e,hn,hl⟩:=y3y φ k x57 x58 x59 x60 x61 x62 x63 x64 (v / 4294967296) 32 (by omega) (by omega) (by omega) (by omega);refine⟨m+32,by rw[e];congr 1;omega,by omega,?_⟩;refine z7i.up 32 ?_ (by omega)
  rwa [show v.toNat / 2 ^ 32 =(v / 4294967296).toNat by omega]
 .rw[if_neg (by simpa using c)];obtain⟨m,e,hn,hl⟩:=y3y φ k x57 x58 x59 x60 x61 x62 x63 x64 v 0 h (by omega) (by omega) (by omega);exact⟨m,by rw[e];simp,by omega,hl⟩
end second
theorem zwb(φ:Nat)(hφ:100<φ)(b n:Nat)(hn0:0<n)(hn:n<18446744073709551616):zhc φ (b:Int) (n:Int)=some (((pw b n:Nat):Int),()):=by
 have hstart:∃L:Nat,zhc φ (b:Int) (n:Int)=z0r φ φ b n 1 L 0 2305843009213690799/\L<=64/\z7i n L:=by
  unfold zhc;by_cases c :(4294967296:Int)<=n
  .rw[if_pos (by simpa using c),if_pos (by decide),sh32];obtain⟨m,e,hm,hl⟩:=y9u φ b n 1 2305843009213690799 ((n:Int) / 4294967296) 32 (by omega) (by omega) (by omega) (by omega);refine⟨m+32,by rw[e];congr 1;omega,by omega,?_⟩;refine z7i.up 32 ?_ (by omega)
   rwa [show n / 2 ^ 32 =((n:Int) / 4294967296).toNat by omega]
  .rw[if_neg (by simpa using c)];obtain⟨m,e,hm,hl⟩:=y9u φ b n 1 2305843009213690799 (n:Int) 0 (by omega) (by omega) (by omega) (by omega);exact⟨m,by rw[e];simp,by omega,by rwa [w1t] at hl⟩
 obtain⟨L,e0,hL,hlen⟩:=hstart;rw[e0];obtain⟨h1,h2⟩:=hlen;refine zw (λk i v=>z0r φ k (b:Int) (n:Int) v (L:Int) i 2305843009213690799) L (λi v=>v =((pw b (n / 2 ^ (L-i)):Nat):Int)) (λo=>o=some (((pw b n:Nat):Int),())) ?_ ?_ φ 1 ?_ (by omega)
 .intro k i v hi hv hs;rw[z0r,if_pos (by simp;omega),z6 (by decide),z6 (by decide)];subst hv;rw[ydx (zvw _ _)];refine(y2y (zvw _ _) (zvw _ _) φ (by omega) (λz=>(if(decide ((4294967296:Int)<=(n:Int)))=true then(if 0<=(32:Int) then(z3h φ (z0r φ k) ((((n:Int):Int).fdiv (2 ^ (min (32:Int).toNat 64)))) 32 b n z i L i n 2305843009213690799) else none) else(z3h φ (z0r φ k) n 0 b n z i L i n 2305843009213690799)))).trans ?_;rw[y44];obtain⟨m,em,hm,hl⟩:=yem φ (z0r φ k) b n ((pw b (n / 2 ^ (L-i)+n / 2 ^ (L-i)):Nat):Int) i L i n 2305843009213690799 (n:Int) (by omega) (by omega);refine em.trans ?_;rw[w1t] at hl;have:=z7i.uniq hn0 hl ⟨h1,h2⟩;subst this;unfold zib;have hw1:W ((m:Int)-1) =(m:Int)-1:=W_id (by omega) (by omega);have hw2:W ((m:Int)-1-(i:Int)) =((m-1-i:Nat):Int):=by rw[W_id (by omega) (by omega)];omega
  rw[hw1,hw2,z6 (by omega)];have hsh:=yev (c:=(n:Int)) (k:=((m-1-i:Nat):Int)) (by omega) (by omega) (by omega);have hone:U ((BitVec.ofInt 64 ((n:Int).fdiv (2 ^ (min (((m-1-i:Nat):Int)).toNat 64)))&&& BitVec.ofInt 64 1).toNat) =((n / 2 ^ (m-1-i) % 2:Nat):Int):=by rw[show ((n:Int).fdiv (2 ^ (min (((m-1-i:Nat):Int)).toNat 64)))=_ from hsh,w1t,w1t];have hd:n / 2 ^ (m-1-i)<=n:=Nat.div_le_self _ _;rw[BitVec.toNat_and,z7y (Int.natCast_nonneg _) (by omega),z7y (by omega) (by omega),ya4 (y91 (by omega)),w1t];show ((n / 2 ^ (m-1-i)&&& 1:Nat):Int)=_;rw[Nat.and_one_is_mod]
  rw[hone];have hhalf:n / 2 ^ (m-i)=n / 2 ^ (m-1-i) / 2:=by rw[Nat.div_div_eq_div_mul,<- Nat.pow_succ];congr 2;omega
  have hidx:m-(i+1)=m-1-i:=by omega
  have hW:W ((i:Int)+1) =(i:Int)+1:=W_id (by omega) (by omega);have hbit:=w44 (n / 2 ^ (m-1-i));rcases hbit with hbit|hbit
  .rw[hbit,if_neg (by simp),hW];refine hs _ ?_;rw[hidx,hhalf];congr 2;omega
  .rw[hbit,if_pos (by simp),ydx (zvw _ _),ydy,z6 (by decide),z6 (by decide),hW];refine(y2y (zvw _ _) (w4n b (by decide:0<PP)) φ (by omega) (λz=>z0r φ k b n z m ((i:Int)+1) 2305843009213690799)).trans ?_;refine hs _ ?_;rw[<- y9w b,y44,hidx,hhalf];congr 2;omega
 .intro k v hv;rw[z0r,if_neg (by simp),hv];rw[Nat.sub_self,Nat.pow_zero,Nat.div_one]
 .rw[w49,Nat.div_eq_of_lt h1,zr1];rfl
def yc0(x:Int):Bool:=decide (2<=x)&&decide (x<2305843009213690799)&&(pw x.toNat QQ==1)
theorem zvl(a:Nat):(((a:Nat):Int)==1) =(a==1):=by rw[w3n,beq_iff_eq,beq_iff_eq];omega
theorem zrg(φ:Nat)(hφ:100<φ)(x:Int):zfb φ x=some (yc0 x,()):=by
 unfold zfb yc0 z0u;cases h:decide (2<=x)&&decide (x<2305843009213690799) with
 |false=>rw[if_neg (by simp),w03];simp only[w3w]
 |true=>simp only[w02,decide_eq_true_eq] at h;have:=zwb φ hφ x.toNat QQ (by decide) (by decide);rw[show ((x.toNat:Nat):Int)=x by omega,show ((QQ:Nat):Int)=1152921504606845399 by decide] at this;rw[if_pos rfl,this,w03,w2l,w2l];show some ((((pw x.toNat QQ:Nat):Int)==1),())=_;rw[zvl]
end Px
end
section
namespace Px
open Go
theorem gz_t{α:Type}{z:α}{p:Prop}[Decidable p]{x:Option α}(h:p):z0u z p x=x:=if_pos h
theorem gz_f{α:Type}{z:α}{p:Prop}[Decidable p]{x:Option α}(h:¬p):z0u z p x=some z:=if_neg h
def zem(p:z4t):Bool:=bet p.kind 1 5&&bet p.railway 0 15&&(bif p.kind==3 then bet p.other 0 15&&(p.other !=p.railway) else p.other==(-1))
def zel(n:Int)(e:Edge):Bool:=bet e.a 0 (n-1)&&bet e.b 0 (n-1)&&(e.a !=e.b)&&bet e.railway 0 15&&bet e.minutes 1 100000&&bet e.km 0 10000
def z9z(x:z00):Int:=bif decide (512<x.places.length)||decide (2048<x.edges.length) then 2 else bif x.places.all zem&&x.edges.all (zel x.places.length) then 0 else 1
theorem zkc(φ:Nat)(p:z4t):z9o φ p=some (zem p,()):=by
 have hb :(((decide (p.kind<1)||decide (5<p.kind))||decide (p.railway<0))||decide (16<=p.railway)) = !(bet p.kind 1 5&&bet p.railway 0 15):=by rw[w3n];simp[bet];omega
 unfold z9o zem;rw[hb];cases bet p.kind 1 5&&bet p.railway 0 15 with
 |false=>rfl
 |true=>
  rw[if_neg (by simp)];by_cases h:p.kind=3
  .have :(decide (0<=p.other)&&decide (p.other<16))=bet p.other 0 15:=by rw[w3n];simp[bet];omega
   rw[if_neg (by simp[h]),this];simp[h]
  .have h2 :(p.kind==3)=false:=by simpa using h
   rw[if_pos (by simp[h]),h2];rfl
theorem y1a(n:Int)(e:Edge):((((((decide ((min2 (min2 (min2 (e.a) (e.b)) (e.railway)) (e.km))<0)||decide (n<=(max2 (e.a) (e.b))))||(e.a==e.b))||decide (16<=e.railway))||decide (e.minutes<1))||decide (100000<e.minutes))||decide (10000<e.km)) = !zel n e:=by
 have hm:∀x y z:Int,z<=max2 x y↔z<=x\/z<=y:=by intro x y z;unfold max2;split<;>omega
 have hok:zel n e=true↔((((((0<=e.a/\e.a<=n-1)/\0<=e.b/\e.b<=n-1)/\¬e.a=e.b)/\0<=e.railway/\e.railway<=15)/\1<=e.minutes/\e.minutes<=100000)/\0<=e.km/\e.km<=10000):=by simp only[zel,w02,z64,bne_iff_ne,ne_eq]
 rw[w3n,w0w,<- w43,hok];simp only[w0s,decide_eq_true_eq,ybs,hm,beq_iff_eq];omega
theorem y7a(x:z00):(decide (512<(x.places.length:Int))||decide (2048<(x.edges.length:Int))) =(decide (512<x.places.length)||decide (2048<x.edges.length)):=by congr 1<;>(apply decide_eq_decide.2;omega)
theorem zdl(φ:Nat)(hφ:5000<φ)(x:z00):z6x φ x=some (z9z x,()):=by
 unfold z6x z9z;rw[y7a];cases h:decide (512<x.places.length)||decide (2048<x.edges.length) with
 |true=>rfl
 |false=>
  simp only[w10,decide_eq_false_iff_not,Nat.not_lt] at h;rw[if_neg (by simp),zxp (λn i=>z3a φ n (x.places.length:Int) x.places (x.places.length:Int) i x) (z1t φ φ (x.places.length:Int) x.edges (x.edges.length:Int) 0) (some (1,())) x.places (λt=>!zem t) ?_ ?_ φ (by omega)]
  .rw[zxp (λn i=>z1t φ n (x.places.length:Int) x.edges (x.edges.length:Int) i) (some (0,())) (some (1,())) x.edges (λt=>!zel x.places.length t) ?_ ?_ φ (by omega)]
   .simp only[List.any_eq_not_all_not,Bool.not_not];cases x.places.all zem<;>cases x.edges.all (zel x.places.length)<;>rfl
   .intro n i hi;rw[z1t,if_pos (by simp;omega),z6 ⟨by omega,by omega⟩,y1a,W_id (by omega) (by omega)];cases zel x.places.length (gt x.edges i)<;>rfl
   .intro n;rw[z1t,if_neg (by simp)]
  .intro n i hi;rw[z3a,if_pos (by simp;omega),z6 ⟨by omega,by omega⟩,zkc,w03,W_id (by omega) (by omega)];cases zem (gt x.places i)<;>rfl
  .intro n;rw[z3a,if_neg (by simp)]
theorem zlc{x:z00}(h:z9z x=0):x.places.length<=512/\x.edges.length<=2048/\(∀p∈x.places,zem p=true)/\∀e∈x.edges,zel x.places.length e=true:=by
 unfold z9z at h;cases h1:decide (512<x.places.length)||decide (2048<x.edges.length) with
 |true=>rw[h1] at h;cases h
 |false=>
  rw[h1] at h;cases h2:x.places.all zem&&x.edges.all (zel x.places.length) with
  |false=>rw[h2] at h;cases h
  |true=>simp only[w10,decide_eq_false_iff_not,Nat.not_lt] at h1;simp only[w02,w08] at h2;exact⟨h1.1,h1.2,h2⟩
def y3g:Int->List Int->Bool
 |_,[]=>true
 |p,h::t=>decide (p<h)&&decide (h<=745654)&&y3g h t
def zp0(s:Span):Bool:=decide (0<=s.from_)&&decide (s.from_<=s.to)&&decide (s.to<=1440)
def zvp(c:z5q):Bool:=((List.range 7).all λi=>zp0 (c.open_ i))&&y3g (-1) c.holidays
theorem yaa(φ:Nat)(c:z5q):∀(n i:Nat)(p:Int),-1<=p->(i:Int)<=p+1->p<=745654->i<=c.holidays.length->745656<=(n:Int)+p->z2e φ n p c.holidays (c.holidays.length:Int) i=some (bif y3g p (c.holidays.drop i) then 0 else 1,()):=by
 intro n
 induction n with
 |zero=>intro i p _ _ _ _ _;omega
 |succ n ih=>
  intro i p hp hip hp2 hi hn;by_cases h:i=c.holidays.length
  .rw[h,z2e,if_neg (by simp),List.drop_length];rfl
  .rw[z2e,if_pos (by simp;omega),z6 ⟨by omega,by omega⟩,yat _ _ (by omega)];by_cases hb:gt c.holidays i<=p\/745654<gt c.holidays i
   .have :(decide (p<gt c.holidays i)&&decide (gt c.holidays i<=745654))=false:=by simp;omega
    rw[if_pos (by simpa using hb)];simp[y3g,this]
   .have h2 :(decide (p<gt c.holidays i)&&decide (gt c.holidays i<=745654))=true:=by simp;omega
    rw[if_neg (by simpa using hb),W_id (by omega) (by omega)];have:=ih (i+1) (gt c.holidays i) (by omega) (by omega) (by omega) (by omega) (by omega);rw[show ((i+1:Nat):Int) =(i:Int)+1 by omega] at this;rw[this];simp[y3g,h2]
theorem zpo(s:Span):((decide (s.from_<0)||decide (s.to<s.from_))||decide (1440<s.to)) = !zp0 s:=by
 rw[w3n];simp[zp0]
 try omega
theorem zhl(φ:Nat)(hφ:800000<φ)(c:z5q):z8a φ c=some (bif zvp c then 0 else 1,()):=by
 unfold z8a;refine zw (λn i(_:Unit)=>z2s φ n c.open_ i c) 7 (λi _=>((List.range i).all λj=>zp0 (c.open_ j))=true) (λo=>o=some (bif zvp c then 0 else 1,())) ?_ ?_ φ () (by simp) (by omega)
 .intro n i _ hi h hs;rw[z2s,if_pos (by simp;omega),z6 ⟨by omega,by omega⟩,w1t,zpo,W_id (by omega) (by omega)];cases ho:zp0 (c.open_ i) with
  |true=>rw[if_neg (by simp)];exact hs () (by rw[zfi,h,ho];rfl)
  |false=>
   have:zvp c=false:=by
    unfold zvp;have :((List.range 7).all λj=>zp0 (c.open_ j))=false:=by rw[List.all_eq_false];exact⟨i,by simp;omega,by simp[ho]⟩
    rw[this];rfl
   rw[if_pos (by simp),this];rfl
 .intro n _ h;rw[z2s,if_neg (by simp)];unfold zvp;rw[h,w2l];have:=yaa φ c φ 0 (-1) (by omega) (by omega) (by omega) (by omega) (by omega);simpa using this
theorem zi4{α ρ:Type}[Inhabited α](L:Nat->Bool->Int->Option ρ)(k:Bool->Option ρ)(l:List α)(p:α->Bool)
  (step:∀(n i:Nat)(s:Bool),i<l.length->L (n+1) s i=L n (s||p (gt l i)) ((i:Int)+1)) (done:∀n s,L (n+1) s l.length=k s) (n:Nat) (s:Bool) (hn:l.length<n):L n s 0=k (s||l.any p):=by
 refine zw (λn i t=>L n t i) l.length (λi t=>t =(s||(l.take i).any p)) (λo=>o=k (s||l.any p)) ?_ ?_ n s (by simp) hn
 .intro n i t hi ht hs;rw[step n i t hi];exact hs _ (by rw[zg9 _ _ _ hi,ht,Bool.or_assoc])
 .intro n t ht;rw[w1z] at ht;rw[done,ht]
def zl6(n:Int)(r:z7j):Bool:=(((!bet r.place 0 (n-1))||decide (r.low<(-1000)))||decide (r.high<r.low))||decide (1000<r.high)
def zhj(x:z00)(s:z4b):Bool:=(!bet s.place 0 ((x.places.length:Int)-1))||((gt x.places s.place).kind !=4)
def zuv(r:z0k):Bool:=!zvp r.calendar||!yc0 r.key
def zl5(x:Pool):Bool:=
 ((((((x.railways.length:Int)==0)||x.readers.any (zl6 x.network.places.length))||x.shippers.any (zhj x.network))||x.fleet.wagons.any (λw=>decide ((x.network.places.length:Int)<=w.home)))||
 x.network.places.any (λp=>decide ((x.railways.length:Int)<=p.railway)||decide ((x.railways.length:Int)<=p.other)))||x.network.edges.any (λe=>decide ((x.railways.length:Int)<=e.railway))||x.railways.any zuv
def zhk(x:Pool):Bool:=(decide (256<(x.readers.length:Int))||decide (256<(x.shippers.length:Int)))||decide (16<(x.railways.length:Int))
def z7n(x:Pool):Int:=if z9z x.network≠0 then z9z x.network else if z1l x.fleet≠0 then z1l x.fleet else bif zhk x then 2 else bif zl5 x then 1 else 0
theorem zb3(φ:Nat)(hφ:800000<φ)(x:Pool):z4m φ x=some (z7n x,()):=by
 unfold z4m z7n;rw[zdl _ (by omega),w03];by_cases hn:z9z x.network=0
 case neg=>rw[if_pos (by simp[hn]),if_pos hn]
 rw[if_neg (by simp[hn]),if_neg (λe:z9z x.network≠0=>e hn),zbl _ (by omega),w03];by_cases hf:z1l x.fleet=0
 case neg=>rw[if_pos (by simp[hf]),if_pos hf]
 rw[if_neg (by simp[hf]),if_neg (λe:z1l x.fleet≠0=>e hf)];cases hb:zhk x with
 |true=>have e :(((decide (256<(x.readers.length:Int))||decide (256<(x.shippers.length:Int)))||decide (16<(x.railways.length:Int))))=zhk x:=rfl;rw[e,hb];rfl
 |false=>
  have hb':¬(((decide (256<(x.readers.length:Int))||decide (256<(x.shippers.length:Int)))||decide (16<(x.railways.length:Int)))=true):=by rw[show (((decide (256<(x.readers.length:Int))||decide (256<(x.shippers.length:Int)))||decide (16<(x.railways.length:Int))))=zhk x from rfl,hb];simp
  rw[if_neg hb'];simp only[w0s,decide_eq_true_eq,not_or] at hb';obtain⟨n1,n2,_,_⟩:=zlc hn;obtain⟨f1,f2,_⟩:=z4j hf;have hp:W ((x.network.places.length:Int)-1) =(x.network.places.length:Int)-1:=W_id (by omega) (by omega);have a1:=zi4 (λn s i=>z1r φ n x.network.places (x.railways.length:Int) s x.readers (x.readers.length:Int) i x) (λs=>z10 φ φ x.network.places (x.railways.length:Int) s x.shippers (x.shippers.length:Int) 0 x) x.readers (zl6 x.network.places.length) (λn i s hi=>by
   rw[z1r,if_pos (by simp;omega),z6 ⟨by omega,by omega⟩,hp,W_id (by omega) (by omega)];unfold zl6;cases s with
   |true=>rw[gz_f (by simp)];rfl
   |false=>rw[gz_t rfl];rfl) (λn s=>by rw[z1r,if_neg (by simp)]) φ ((x.railways.length:Int)==0) (by omega)
  refine a1.trans ?_;have a2:=λs0=>zi4 (λn s i=>z10 φ n x.network.places (x.railways.length:Int) s x.shippers (x.shippers.length:Int) i x) (λs=>z11 φ φ x.network.places (x.railways.length:Int) s x.fleet.wagons (x.fleet.wagons.length:Int) 0 x) x.shippers (zhj x.network) (λn i s hi=>by
   rw[z10,if_pos (by simp;omega),z6 ⟨by omega,by omega⟩,hp,W_id (by omega) (by omega)];unfold zhj;cases s with
   |true=>rw[gz_f (by simp),w03,z6 (by simp)];rfl
   |false=>
    rw[gz_t rfl,z1k,w03];cases hbt:bet (gt x.shippers i).place 0 ((x.network.places.length:Int)-1) with
    |true=>rw[z6 (λ_=>by have:=zl8 hbt;omega)];rfl
    |false=>rw[z6 (by simp)];rfl) (λn s=>by rw[z10,if_neg (by simp)]) φ s0 (by omega)
  refine(a2 _).trans ?_;have a3:=λs0=>zi4 (λn s i=>z11 φ n x.network.places (x.railways.length:Int) s x.fleet.wagons (x.fleet.wagons.length:Int) i x) (λs=>z12 φ φ (x.railways.length:Int) s x.network.places (x.network.places.length:Int) 0 x) x.fleet.wagons (λw=>decide ((x.network.places.length:Int)<=w.home)) (λn i s hi=>by rw[z11,if_pos (by simp;omega),z6 ⟨by omega,by omega⟩,W_id (by omega) (by omega)]) (λn s=>by rw[z11,if_neg (by simp)]) φ s0 (by omega)
  refine(a3 _).trans ?_;have a4:=λs0=>zi4 (λn s i=>z12 φ n (x.railways.length:Int) s x.network.places (x.network.places.length:Int) i x) (λs=>z13 φ φ (x.railways.length:Int) s x.network.edges (x.network.edges.length:Int) 0 x) x.network.places (λp=>decide ((x.railways.length:Int)<=p.railway)||decide ((x.railways.length:Int)<=p.other)) (λn i s hi=>by rw[z12,if_pos (by simp;omega),z6 ⟨by omega,by omega⟩,W_id (by omega) (by omega),Bool.or_assoc]) (λn s=>by rw[z12,if_neg (by simp)]) φ s0 (by omega)
  refine(a4 _).trans ?_;have a5:=λs0=>zi4 (λn s i=>z13 φ n (x.railways.length:Int) s x.network.edges (x.network.edges.length:Int) i x) (λs=>z14 φ φ s x.railways (x.railways.length:Int) 0) x.network.edges (λe=>decide ((x.railways.length:Int)<=e.railway)) (λn i s hi=>by rw[z13,if_pos (by simp;omega),z6 ⟨by omega,by omega⟩,W_id (by omega) (by omega)]) (λn s=>by rw[z13,if_neg (by simp)]) φ s0 (by omega)
  refine(a5 _).trans ?_;have a6:=λs0=>zi4 (λn s i=>z14 φ n s x.railways (x.railways.length:Int) i) (λs=>if s=true then some (1,()) else some (0,())) x.railways zuv (λn i s hi=>by
   rw[z14,if_pos (by simp;omega),z6 ⟨by omega,by omega⟩,W_id (by omega) (by omega)];unfold zuv;cases s with
   |true=>rw[gz_f (by simp),w03,gz_f (by simp)];rfl
   |false=>
    rw[gz_t rfl,zhl _ hφ,w03];cases zvp (gt x.railways i).calendar with
    |false=>rw[gz_f (by simp)];rfl
    |true=>rw[gz_t (by simp),zrg _ (by omega)];rfl) (λn s=>by rw[z14,if_neg (by simp)]) φ s0 (by omega)
  refine(a6 _).trans ?_;show (if zl5 x=true then some ((1:Int),()) else some (0,()))=_;cases zl5 x<;>rfl
theorem zyv{p:Pool}(h:z7n p=0):z9z p.network=0/\z1l p.fleet=0/\p.readers.length<=256/\p.shippers.length<=256/\p.railways.length<=16/\zl5 p=false:=by
 unfold z7n at h;by_cases hn:z9z p.network=0
 case neg=>rw[if_pos hn] at h;exact absurd h hn
 rw[if_neg (λe:z9z p.network≠0=>e hn)] at h;by_cases hf:z1l p.fleet=0
 case neg=>rw[if_pos hf] at h;exact absurd h hf
 rw[if_neg (λe:z1l p.fleet≠0=>e hf)] at h;cases hb:zhk p with
 |true=>rw[hb] at h;cases h
 |false=>
  rw[hb] at h;cases hd:zl5 p with
  |true=>rw[hd] at h;cases h
  |false=>simp only[zhk,w10,decide_eq_false_iff_not] at hb;exact⟨hn,hf,by omega,by omega,by omega,rfl⟩
end Px
end
section
namespace Px
open Go
set_option maxRecDepth 100000
inductive Walk (E:List Swap) (a:Nat):List Nat->Nat->Int->Prop
 |nil:Walk E a [] a 0
 |step {vs:List Nat} {x:Int} {s:Swap} : Walk E a vs s.wanted.toNat x->s∈E->Walk E a (s.wanted.toNat::vs) s.given.toNat (x+s.cost)
def EOk(n:Nat)(E:List Swap):Prop:=∀s∈E,0<=s.wanted/\s.wanted<n/\0<=s.given/\s.given<n/\0<=s.cost/\s.cost<=1000000000
theorem Walk.lt{E:List Swap}{a n:Nat}(hE:EOk n E)(ha:a<n){vs:List Nat}{v:Nat}{x:Int}(h:Walk E a vs v x):v<n/\(∀u∈vs,u<n)/\0<=x:=by
 induction h with
 |nil=>exact⟨ha,by simp,by omega⟩
 |step h hs ih=>
  have:=hE _ hs;refine⟨by omega,?_,by omega⟩;intro u hu;rcases w0c.1 hu with h|h
  .omega
  .exact ih.2.1 u h
theorem Walk.cut{E:List Swap}{a n:Nat}(hE:EOk n E){vs:List Nat}{u:Nat}{x:Int}(h:Walk E a vs u x)(hnd :(u::vs).Nodup):
  ∀v∈u::vs,∃vs' x',Walk E a vs' v x'/\x'<=x/\(v::vs').Nodup:=by
 induction h with
 |nil=>
  intro v hv;have:v=a:=by simpa using hv
  subst this;exact⟨[],0,.nil,by omega,by simp⟩
 | @step vs x s h hs ih=>
  intro v hv;have hc:=hE _ hs;rcases w0c.1 hv with e|e
  .subst e;exact⟨_,_,.step h hs,w1i _,hnd⟩
  .obtain⟨vs',x',h1,h2,h3⟩:=ih (w1w.1 hnd).2 v e;exact⟨vs',x',h1,by omega,h3⟩
theorem Walk.simple{E:List Swap}{a n:Nat}(hE:EOk n E){vs:List Nat}{v:Nat}{x:Int}(h:Walk E a vs v x):∃vs' x',Walk E a vs' v x'/\x'<=x/\(v::vs').Nodup:=by
 induction h with
 |nil=>exact⟨[],0,.nil,by omega,by simp⟩
 | @step vs x s h hs ih=>
  obtain⟨vs',x',h1,h2,h3⟩:=ih;have hc:=hE _ hs;by_cases hm:s.given.toNat∈s.wanted.toNat::vs'
  .obtain⟨vs2,x2,k1,k2,k3⟩:=h1.cut hE h3 _ hm;exact⟨vs2,x2,k1,by omega,k3⟩
  .exact⟨_,_,.step h1 hs,by omega,w1w.2 ⟨hm,h3⟩⟩
theorem ztj:∀(n:Nat)(l:List Nat),l.Nodup->(∀x∈l,x<n)->l.length<=n
 |0,l,_,h=>by
  cases l with
  |nil=>simp
  |cons x l=>have:=h x (by simp);omega
 |n+1,l,hd,h=>by
  have h1:=ztj n (l.erase n) (hd.erase n) (λx hx=>by have:=(List.Nodup.mem_erase_iff hd).1 hx;have:=h x this.2;omega);have:l.length<=(l.erase n).length+1:=by
   by_cases hm:n∈l
   .rw[List.length_erase_of_mem hm];omega
   .rw[List.erase_of_not_mem hm];omega
  omega
theorem Walk.short{E:List Swap}{a n:Nat}(hE:EOk n E)(ha:a<n){vs:List Nat}{v:Nat}{x:Int}(h:Walk E a vs v x):∃vs' x',Walk E a vs' v x'/\x'<=x/\vs'.length+1<=n:=by
 obtain⟨vs',x',h1,h2,h3⟩:=h.simple hE;obtain⟨g1,g2,_⟩:=h1.lt hE ha;refine⟨vs',x',h1,h2,?_⟩;have:=ztj n (v::vs') h3 (λy hy=>by
  rcases w0c.1 hy with e|e
  .omega
  .exact g2 y e)
 simpa using this
def z69(c:Nat->Int)(s:Swap):Bool:=decide (0<=c s.wanted.toNat)&&(decide (c s.given.toNat<0)||decide (c s.wanted.toNat+s.cost<c s.given.toNat))
def relax(c:Nat->Int)(s:Swap):Nat->Int:=bif z69 c s then upd c s.given.toNat (c s.wanted.toNat+s.cost) else c
def Down(c d:Nat->Int):Prop:=∀v,0<=c v->0<=d v/\d v<=c v
theorem Down.refl(c:Nat->Int):Down c c:=λv h=>⟨h,w1i _⟩
theorem Down.trans{c d e:Nat->Int}(h:Down c d)(g:Down d e):Down c e:=λv hv=>⟨(g v (h v hv).1).1,w5f (g v (h v hv).1).2 (h v hv).2⟩
theorem znf{α:Type}(f:Nat->α)(k:Nat)(x:α)(j:Nat):upd f k x j=if j=k then x else f j:=rfl
theorem zp7{c:Nat->Int}{s:Swap}(hs:0<=s.cost):Down c (relax c s):=by
 intro v hv;unfold relax;cases hb:z69 c s with
 |false=>exact⟨hv,w1i _⟩
 |true=>
  simp only[z69,w02,w0s,decide_eq_true_eq] at hb;simp only[cond_true,znf];split
  .rename_i e;subst e;omega
  .exact⟨hv,w1i _⟩
theorem y89{c:Nat->Int}{s:Swap}(hs:0<=s.cost)(hw:0<=c s.wanted.toNat):0<=relax c s s.given.toNat/\relax c s s.given.toNat<=c s.wanted.toNat+s.cost:=by
 unfold relax;cases hb:z69 c s with
 |false=>simp only[z69,w4l,w10,decide_eq_false_iff_not] at hb;simp only[cond_false];omega
 |true=>simp only[cond_true,znf,if_true];omega
theorem zn3{c:Nat->Int}{s:Swap}(h:z69 c s=false):relax c s=c:=by unfold relax;rw[h];rfl
def zjn(E:List Swap)(c:Nat->Int):Nat->Int:=E.foldl relax c
theorem zm0{n:Nat}: ∀{E:List Swap},EOk n E->∀c,Down c (E.foldl relax c)
 | [],_,c=>Down.refl c
 |s::E,h,c=>(zp7 (h s (by simp)).2.2.2.2.1).trans (zm0 (λt ht=>h t (w09 _ ht)) _)
theorem y1m{n:Nat}: ∀{E:List Swap},EOk n E->∀c,∀s∈E,0<=c s.wanted.toNat->0<=E.foldl relax c s.given.toNat/\E.foldl relax c s.given.toNat<=c s.wanted.toNat+s.cost
 | [],_,c,s,hs,_=>by simp at hs
 |t::E,h,c,s,hs,hw=>by
  have ht:=(h t (by simp)).2.2.2.2.1;have hE:EOk n E:=λt ht=>h t (w09 _ ht)
  rcases w0c.1 hs with e|e
  .subst e;have h1:=y89 ht hw;have h2:=zm0 hE (relax c s) _ h1.1;exact⟨h2.1,by simp only[w27];omega⟩
  .have h1:=zp7 ht (c:=c) _ hw;have h2:=y1m hE (relax c t) s e h1.1;exact⟨h2.1,by simp only[w27];omega⟩
def y0b(E:List Swap)(a:Nat)(c:Nat->Int):Prop:=∀v,0<=c v->∃vs,Walk E a vs v (c v)
theorem zw5{E:List Swap}{a:Nat}{c:Nat->Int}{s:Swap}(hs:s∈E)(h:y0b E a c):y0b E a (relax c s):=by
 intro v hv;unfold relax at hv⊢;cases hb:z69 c s with
 |false=>rw[hb] at hv;exact h v hv
 |true=>
  rw[hb] at hv;simp only[z69,w02,w0s,decide_eq_true_eq] at hb;simp only[cond_true,znf] at hv⊢;split
  .rename_i e;subst e;obtain⟨vs,hw⟩:=h _ hb.1;exact⟨_,.step hw hs⟩
  .rename_i e;rw[if_neg e] at hv;exact h v hv
theorem zot{E:List Swap}{a:Nat}: ∀{F:List Swap},(∀s∈F,s∈E)->∀c,y0b E a c->y0b E a (F.foldl relax c)
 | [],_,c,h=>h
 |s::F,hF,c,h=>zot (λt ht=>hF t (w09 _ ht)) _ (zw5 (hF s (by simp)) h)
def cRw(E:List Swap)(a:Nat):Nat->Nat->Int
 |0=>λj=>if j=a then 0 else-1
 |r+1=>zjn E (cRw E a r)
theorem zsd(E:List Swap)(a:Nat):∀r,y0b E a (cRw E a r)
 |0=>by
  intro v hv;simp only[cRw] at hv⊢;split
  .rename_i e;subst e;exact⟨[],.nil⟩
  .rename_i e;rw[if_neg e] at hv;omega
 |r+1=>zot (λs h=>h) _ (zsd E a r)
theorem y5n{E:List Swap}{n:Nat}(hE:EOk n E)(a:Nat)(r:Nat):Down (cRw E a r) (cRw E a (r+1)):=zm0 hE _
theorem zsc{E:List Swap}{n:Nat}(hE:EOk n E)(a:Nat):∀(r:Nat){vs:List Nat}{v:Nat}{x:Int},Walk E a vs v x->vs.length<=r->0<=cRw E a r v/\cRw E a r v<=x:=by
 intro r
 induction r with
 |zero=>
  intro vs v x h hl;cases h with
  |nil=>simp[cRw]
  |step=>simp at hl
 |succ r ih=>
  intro vs v x h hl;by_cases hr:vs.length<=r
  .have h1:=ih h hr;have h2:=y5n hE a r v h1.1;exact⟨h2.1,by omega⟩
  .cases h with
   |nil=>simp at hr
   |step h hs=>have h1:=ih h (by simpa using hl);have h2:=y1m hE (cRw E a r) _ hs h1.1;exact⟨h2.1,by simp only[cRw,zjn];omega⟩
def zau(E:List Swap)(n a:Nat):Nat->Int:=cRw E a n
theorem zuy(E:List Swap)(n a:Nat){v:Nat}(h:0<=zau E n a v):∃vs,Walk E a vs v (zau E n a v):=zsd E a n v h
theorem znj{E:List Swap}{n a:Nat}(hE:EOk n E)(ha:a<n){vs:List Nat}{v:Nat}{x:Int}(h:Walk E a vs v x):0<=zau E n a v/\zau E n a v<=x:=by obtain⟨vs',x',h1,h2,h3⟩:=h.short hE ha;have:=zsc hE a n h1 (by omega);exact⟨this.1,w5f this.2 h2⟩
theorem y0r{E:List Swap}{n a:Nat}(hE:EOk n E)(ha:a<n){s:Swap}(hs:s∈E)(h:0<=zau E n a s.wanted.toNat):0<=zau E n a s.given.toNat/\zau E n a s.given.toNat<=zau E n a s.wanted.toNat+s.cost:=by obtain⟨vs,hw⟩:=zuy E n a h;exact znj hE ha (.step hw hs)
theorem zuz{E:List Swap}{n a:Nat}(hE:EOk n E)(ha:a<n):∀s∈E,z69 (zau E n a) s=false:=by
 intro s hs;cases hb:z69 (zau E n a) s with
 |false=>rfl
 |true=>simp only[z69,w02,w0s,decide_eq_true_eq] at hb;have:=y0r hE ha hs hb.1;omega
theorem zf5:∀{E:List Swap}{c:Nat->Int},(∀s∈E,z69 c s=false)->E.foldl relax c=c
 | [],c,_=>rfl
 |s::E,c,h=>by rw[w27,zn3 (h s (by simp))];exact zf5 λt ht=>h t (w09 _ ht)
theorem zse{E:List Swap}{a r:Nat}(h:∀s∈E,z69 (cRw E a r) s=false):∀k,cRw E a (r+k)=cRw E a r
 |0=>rfl
 |k+1=>by show zjn E (cRw E a (r+k))=_;rw[zse h k];exact zf5 h
def BdC(B:Int)(c:Nat->Int):Prop:=∀v,-1<=c v/\c v<=B
theorem y88{n:Nat}{E:List Swap}(hE:EOk n E){s:Swap}(hs:s∈E){B:Int}{c:Nat->Int}(h:BdC B c):BdC (B+1000000000) (relax c s):=by
 intro v;have h1:=h v;have h2:=h s.wanted.toNat;have h3:=hE s hs;unfold relax;cases hb:z69 c s with
 |false=>simp only[cond_false];omega
 |true=>simp only[z69,w02,w0s,decide_eq_true_eq] at hb;simp only[cond_true,znf];split<;>omega
theorem zva{n:Nat}{E:List Swap}(hE:EOk n E):∀{F:List Swap},(∀s∈F,s∈E)->∀{B:Int}{c:Nat->Int},BdC B c->BdC (B+1000000000*F.length) (F.foldl relax c)
 | [],_,B,c,h=>by simpa using h
 |s::F,hF,B,c,h=>by have:=zva hE (F:=F) (λt ht=>hF t (w09 _ ht)) (y88 hE (hF s (by simp)) h);rw[w27];intro v;have:=this v;simp only[w1b];omega
theorem zwt{n:Nat}{E:List Swap}(hE:EOk n E)(hl:E.length<=1024)(a:Nat):∀r:Nat,BdC (1024000000000*r) (cRw E a r)
 |0=>by intro v;simp only[cRw];split<;>omega
 |r+1=>by have:=zva hE (F:=E) (λs h=>h) (zwt hE hl a r);intro v;have:=this v;simp only[cRw,zjn];omega
end Px
end
section
namespace Px
open Go
set_option maxRecDepth 100000
def zia(a:Int)(T:Nat)(c:Nat->Int):List Swap:=(List.range T).filterMap λi=>if 0<=c i then some ⟨a,i,c i⟩ else none
theorem zp1(a:Int)(i:Nat)(c:Nat->Int):zia a (i+1) c=if 0<=c i then zia a i c++[⟨a,i,c i⟩] else zia a i c:=by
 unfold zia;rw[w1o,List.filterMap_append];by_cases h:0<=c i
 .simp[h]
 .simp[h]
theorem ztm(a:Int)(T:Nat)(c:Nat->Int):(zia a T c).length<=T:=by have:=List.length_filterMap_le (λi=>if 0<=c i then some (⟨a,i,c i⟩:Swap) else none) (List.range T);simpa[zia] using this
theorem ydi{n:Nat}(h:n<=100000):fits n 24:=by unfold fits;omega
def z9b(x:z3m)(a:Int):List Swap×Int×Unit:=
 if z1l x≠0 then([],z1l x,()) else if ¬(0<=a/\a<x.types.length) then([],90,()) else
 (zia a x.types.length (zau x.swaps x.types.length a.toNat),0,())
theorem y8y{x:z3m}(h:z1l x=0):EOk x.types.length x.swaps:=by intro s hs;obtain⟨a1,a2,a3,a4,b1,b2,b3,b4⟩:=z4j h;have:=b3 s hs;simp only[zmr,w02,z64] at this;omega
def zdp(p:Bool×(Nat->Int))(s:Swap):Bool×(Nat->Int):=(p.1||z69 p.2 s,relax p.2 s)
theorem zmx:∀(E:List Swap)(p:Bool×(Nat->Int)),(E.foldl zdp p).2=E.foldl relax p.2
 | [],p=>rfl
 |s::E,p=>by rw[w27,w27,zmx E];rfl
theorem zmw:∀(E:List Swap)(p:Bool×(Nat->Int)),(E.foldl zdp p).1=false->p.1=false/\∀s∈E,z69 p.2 s=false
 | [],p,h=>⟨h,by simp⟩
 |s::E,p,h=>by
  rw[w27] at h;obtain⟨h1,h2⟩:=zmw E _ h;simp only[zdp,w10] at h1;rw[show (zdp p s).2=p.2 from zn3 h1.2] at h2;refine⟨h1.1,λt ht=>?_⟩;rcases w0c.1 ht with e|e
  .rw[e];exact h1.2
  .exact h2 t e
theorem zmy:∀(E:List Swap)(p:Bool×(Nat->Int)),(∀s∈E,z69 p.2 s=false)->(E.foldl zdp p).1=p.1
 | [],p,h=>rfl
 |s::E,p,h=>by
  rw[w27];have h1:=h s (by simp);have e:zdp p s=p:=by obtain⟨b,c⟩:=p;simp only[zdp];rw[zn3 h1,h1,Bool.or_false]
  rw[e];exact zmy E p λt ht=>h t (w09 _ ht)
theorem zkb{α β:Type}[Inhabited α](f:β->α->β)(b:β)(l:List α)(i:Nat)(h:i<l.length):(l.take (i+1)).foldl f b=f ((l.take i).foldl f b) (gt l (i:Int)):=by rw[z2p l i h,w3t];rfl
theorem zm2(φ:Nat)(x:z3m)(a0:Int)(hE:EOk x.types.length x.swaps)(hT:x.types.length<=32)(hl:x.swaps.length<=1024)(k:Int->Bool->z3m->(Nat->Int)->Option (List Swap×Int×Unit))(r:Option (List Swap×Int×Unit)){B:Int}(hB0:0<=B)(hB:B<=1000000000000000)(c:Nat->Int)(hc:BdC B c)(d:Nat->Int)(hd:∀j<32,d j=c j)
  (hk:∀d',(∀j<32,d' j=zjn x.swaps c j)->k a0 (x.swaps.foldl zdp (false,c)).1 x d'=r) (n:Nat) (hn:x.swaps.length<n):z27 φ k n a0 false x.swaps (x.swaps.length:Int) 0 x d=r:=by
 refine zw (λn i(t:Bool×(Nat->Int))=>z27 φ k n a0 t.1 x.swaps (x.swaps.length:Int) i x t.2) x.swaps.length
  (λi t=>t.1 =((x.swaps.take i).foldl zdp (false,c)).1/\∀j<32,t.2 j =((x.swaps.take i).foldl zdp (false,c)).2 j) (λo=>o=r) ?_ ?_ n (false,d) ⟨by simp,by simpa using hd⟩ hn
 .intro n i t hi ⟨h1,h2⟩ hs;have hW:W ((i:Int)+1) =(i:Int)+1:=W_id (by omega) (by omega);have hm:=z8s (l:=x.swaps) (i:=(i:Int)) (by omega) (by omega);have he:=hE _ hm;have hbd:BdC (B+1000000000*(x.swaps.take i).length) ((x.swaps.take i).foldl zdp (false,c)).2:=by rw[zmx];exact zva hE (λs hs=>List.mem_of_mem_take hs) hc
  have hlen :(x.swaps.take i).length<=1024:=by rw[w1y];omega
  rw[z27,if_pos (by simp;omega),z6 ⟨by omega,by omega⟩,z6 ⟨by omega,by omega⟩,z6 ⟨by omega,by omega⟩,z6 (λ_=>⟨by omega,by omega⟩),z6 (λ_=>⟨by omega,by omega⟩)];have hstep:=zkb zdp (false,c) x.swaps i hi;generalize hp :(x.swaps.take i).foldl zdp (false,c)=p at *;have ew:=h2 (gt x.swaps i).wanted.toNat (by omega);have eg:=h2 (gt x.swaps i).given.toNat (by omega);have bw:=hbd (gt x.swaps i).wanted.toNat;rw[ew,eg,W_id (x:=p.2 (gt x.swaps i).wanted.toNat+(gt x.swaps i).cost) (by omega) (by omega)];have hbe :(decide (0<=p.2 (gt x.swaps i).wanted.toNat)&&(decide (p.2 (gt x.swaps i).given.toNat<0)||decide (p.2 (gt x.swaps i).wanted.toNat+(gt x.swaps i).cost<p.2 (gt x.swaps i).given.toNat)))=z69 p.2 (gt x.swaps i):=rfl;rw[hbe];cases hb:z69 p.2 (gt x.swaps i) with
  |true=>
   rw[if_pos rfl,z6 ⟨by omega,by omega⟩,hW];refine hs (true,upd t.2 (gt x.swaps i).given.toNat (p.2 (gt x.swaps i).wanted.toNat+(gt x.swaps i).cost)) ⟨by rw[hstep];simp[zdp,hb],λj hj=>?_⟩;rw[hstep];simp only[zdp,relax,hb,cond_true,znf];split
   .rfl
   .exact h2 j hj
  |false=>rw[if_neg (by simp),hW];refine hs (t.1,t.2) ⟨by rw[hstep];simp[zdp,hb,h1],λj hj=>?_⟩;rw[hstep];simp only[zdp,relax,hb,cond_false];exact h2 j hj
 .intro n t ⟨h1,h2⟩;rw[w1z] at h1 h2;rw[z27,if_neg (by simp),h1];refine hk _ λj hj=>?_
  rw[h2 j hj,zmx];rfl
theorem zt9(φ:Nat)(x:z3m)(hT:x.types.length<=32)(hφ:5000<φ)(a:Int)(c d:Nat->Int)(hd:∀j<32,d j=c j):z29 φ φ a (x.types.length:Int) 0 d []=some (zia a x.types.length c,0,()):=by
 refine zw (λn i t=>z29 φ n a (x.types.length:Int) i d t) x.types.length (λi t=>t=zia a i c) (λo=>o=some (zia a x.types.length c,0,())) ?_ ?_ φ _ rfl (by omega)
 .intro n i t hi ht hs;have hW:W ((i:Int)+1) =(i:Int)+1:=W_id (by omega) (by omega);have hlen:=ztm a i c;rw[z29,if_pos (by simp;omega),z6 ⟨by omega,by omega⟩,w1t,hd i (by omega)];by_cases h:0<=c i
  .rw[if_pos (by simpa using h),z6 ⟨by omega,by omega⟩,z6 (ydi (by rw[ht];simp;omega)),hW];exact hs _ (by rw[zp1,if_pos h,ht])
  .rw[if_neg (by simpa using h),hW];exact hs _ (by rw[zp1,if_neg h,ht])
 .intro n t ht;rw[z29,if_neg (by simp),ht]
theorem zz1(φ:Nat)(x:z3m)(hE:EOk x.types.length x.swaps)(hT:x.types.length<=32)(hl:x.swaps.length<=1024)(a:Nat)(ha:a<x.types.length)(hφ:5000<φ):
  ∀(m n i:Nat),x.types.length-i=m->i<=x.types.length->m+2<=n->∀d,(∀j<32,d j=cRw x.swaps a i j)->z26 φ n (a:Int) true x d=some (zia (a:Int) x.types.length (zau x.swaps x.types.length a),0,()):=by
 intro m
 induction m with
 |zero=>
  intro n i hm hi hn d hd;obtain⟨n,rfl⟩:∃n',n=n'+2:=⟨n-2,by omega⟩;have hi:i=x.types.length:=by omega
  subst hi;rw[z26,if_pos rfl];have hst:=zuz hE ha;have hb:=zwt hE hl a x.types.length;refine zm2 φ x a hE hT hl _ _ (by omega) (by omega) _ hb d hd (λd' hd'=>?_) φ (by omega);rw[zmy _ _ hst,z26,if_neg (by simp)];refine zt9 φ x hT hφ a _ d' λj hj=>?_
  rw[hd' j hj];show zjn x.swaps (zau x.swaps x.types.length a) j=_;unfold zjn;rw[zf5 hst]
 |succ m ih=>
  intro n i hm hi hn d hd;obtain⟨n,rfl⟩:∃n',n=n'+2:=⟨n-2,by omega⟩;rw[z26,if_pos rfl];have hb:=zwt hE hl a i;refine zm2 φ x a hE hT hl _ _ (by omega) (by omega) _ hb d hd (λd' hd'=>?_) φ (by omega);cases hch :(x.swaps.foldl zdp (false,cRw x.swaps a i)).1 with
  |true=>exact ih (n+1) (i+1) (by omega) (by omega) (by omega) d' hd'
  |false=>
   rw[z26,if_neg (by simp)];refine zt9 φ x hT hφ a _ d' λj hj=>?_
   have hst:=(zmw _ _ hch).2;have h1:=zse hst (x.types.length-i);rw[show i+(x.types.length-i)=x.types.length by omega] at h1;rw[hd' j hj];unfold zjn zau;rw[zf5 hst,h1]
theorem zns(φ:Nat)(hφ:5000<φ)(x:z3m)(a:Int):zct φ x a=some (z9b x a):=by
 unfold zct z9b;rw[zbl φ hφ,w03];by_cases h:z1l x=0
 .obtain⟨a1,a2,a3,a4,b1,b2,b3,b4⟩:=z4j h;rw[if_neg (by simp[h]),if_neg (λe:z1l x≠0=>e h),W_id (by omega) (by omega),z1k,w03];by_cases hi:0<=a/\a<x.types.length
  .rw[if_neg (by simp[bet];omega),if_neg (λe:¬(0<=a/\a<(x.types.length:Int))=>e hi)];refine zw (λn i t=>z49 φ n a i x t) 32 (λi t=>∀j<i,t j=-1) (λo=>o=some (zia a x.types.length (zau x.swaps x.types.length a.toNat),0,())) ?_ ?_ φ _ (by intro j hj;omega) (by omega)
   .intro n i t hi2 ht hs;rw[z49,if_pos (by simp;omega),z6 ⟨by omega,by omega⟩,W_id (by omega) (by omega)];refine hs _ λj hj=>?_
    rw[znf];split
    .rfl
    .rename_i e;rw[w1t] at e;exact ht j (by omega)
   .intro n t ht;rw[z49,if_neg (by simp),z6 ⟨by omega,by omega⟩];have ea:a =((a.toNat:Nat):Int):=by omega
    have hl:=zz1 φ x (y8y h) a1 a3 a.toNat (by omega) hφ x.types.length φ 0 (by omega) (by omega) (by omega) (upd t a.toNat 0) (λj hj=>by
     rw[znf];simp only[cRw];split
     .rfl
     .exact ht j hj)
    rw[<- ea] at hl;exact hl
  .rw[if_pos (by simp[bet];omega),if_pos (show ¬(0<=a/\a<(x.types.length:Int)) from hi)]
 .rw[if_pos (by simp[h]),if_pos (show z1l x≠0 from h)]
def zhn(x:z3m)(a b:Int):Int×Int×Unit:=
 if z1l x≠0 then(0,z1l x,()) else if ¬((0<=a/\a<=63)/\0<=b/\b<=63) then(0,1,()) else
 match x.washes.find? (λw=>(w.from_==a)&&(w.to==b)) with|some w=>(w.minutes,0,())|none=>(0,0,())
theorem znr(φ:Nat)(hφ:5000<φ)(x:z3m)(a b:Int):za6 φ x a b=some (zhn x a b):=by
 unfold za6 zhn;rw[zbl φ hφ,w03];by_cases h:z1l x=0
 .obtain⟨a1,a2,a3,a4,b1,b2,b3,b4⟩:=z4j h;rw[if_neg (by simp[h]),if_neg (λe:z1l x≠0=>e h)];simp only[z1k,w03];by_cases ha:0<=a/\a<=63
  .rw[z64.2 ha,gz_t (by simp),w03];by_cases hb:0<=b/\b<=63
   .rw[z64.2 hb,if_neg (by simp),if_neg (λe=>e ⟨ha,hb⟩)];have key:∀(m n i:Nat),x.washes.length-i=m->i<=x.washes.length->m<n->(∀j:Nat,j<i->((gt x.washes (j:Int)).from_==a&&(gt x.washes (j:Int)).to==b)=false)->
      z3s φ n x.washes (x.washes.length:Int) (i:Int) a b x=some (match (x.washes.drop i).find? (λw=>(w.from_==a)&&(w.to==b)) with|some w=>(w.minutes,0,())|none=>(0,0,())):=by
     intro m
     induction m with
     |zero=>intro n i hm hi hn hj;obtain⟨n,rfl⟩:∃n',n=n'+1:=⟨n-1,by omega⟩;rw[z3s,if_neg (by simp;omega),w2q (by omega)];rfl
     |succ m ih=>
      intro n i hm hi hn hj;obtain⟨n,rfl⟩:∃n',n=n'+1:=⟨n-1,by omega⟩;have hi':i<x.washes.length:=by omega
      have e:x.washes.drop i=gt x.washes (i:Int)::x.washes.drop (i+1):=by rw[z3l hi'];exact w3g hi'
      rw[z3s,if_pos (by simp;omega),z6 ⟨by omega,by omega⟩,e,w4q];show (some _).bind _=_;rw[w03];cases hc :((gt x.washes (i:Int)).from_==a&&(gt x.washes (i:Int)).to==b) with
      |true=>rw[if_pos rfl,if_neg (by simp),z6 ⟨by omega,by omega⟩]
      |false=>
       rw[if_neg (by simp),W_id (by omega) (by omega),show (i:Int)+1 =((i+1:Nat):Int) by omega];exact ih n (i+1) (by omega) (by omega) (by omega) λj hj'=>by
        by_cases e:j=i
        .rw[e];exact hc
        .exact hj j (by omega)
    have:=key x.washes.length φ 0 (by omega) (by omega) (by omega) (λj hj=>by omega);rw[w3v] at this;exact this
   .have e:bet b 0 63=false:=by rw[<- w43,z64];exact hb
    rw[e,if_pos (by simp),if_pos (λh=>hb h.2)]
  .have e:bet a 0 63=false:=by rw[<- w43,z64];exact ha
   rw[e,gz_f (by simp),w03,if_pos (by simp),if_pos (λh=>ha h.1)]
 .rw[if_pos (by simp[h]),if_pos (show z1l x≠0 from h)]
theorem zww(x:z3m)(a b:Int):0<=(zhn x a b).1/\(zhn x a b).1<=100000:=by
 unfold zhn;split
 .simp
 .rename_i h;split
  .simp
  .cases hf:x.washes.find? (λw=>(w.from_==a)&&(w.to==b)) with
   |none=>simp
   |some w=>have hm:=List.mem_of_find?_eq_some hf;obtain⟨a1,a2,a3,a4,b1,b2,b3,b4⟩:=z4j (w4e.1 h);obtain⟨j,hj,e⟩:=w2k hm;simp only[z9q,w08,w0l] at b4;have:=b4 j hj;simp only[z5z,zxz,w02,z64] at this;rw[z3l hj,e] at this;exact⟨this.1.2.1,this.1.2.2⟩
theorem zxi(x:z3m)(a:Int):∀s∈(z9b x a).1,0<=s.cost/\s.cost<=100000000000000:=by
 unfold z9b;split
 .simp
 .rename_i h;split
  .simp
  .intro s hs;simp only[zia,w4x,w0l] at hs;obtain⟨i,hi,e⟩:=hs;obtain⟨a1,a2,a3,a4,b1,b2,b3,b4⟩:=z4j (w4e.1 h);have hb:=zwt (y8y (w4e.1 h)) a3 a.toNat x.types.length i;split at e
   .rename_i h0;cases e;unfold zau at h0⊢;exact⟨h0,by simp only;omega⟩
   .cases e
end Px
end
section
namespace Px
open Go
def zg5(φ:Nat):Prop:=∀(x:z00)(a b:Int),∃t e,z35 φ x a b=some (t,e,())/\0<=t/\t<=51200000
def betF(φ:Nat)(x:z00)(a b:Int):Int×Int:=match z35 φ x a b with|some (t,e,_)=>(t,e)|none=>(0,0)
theorem zg5.eq{φ:Nat}(h:zg5 φ)(x:z00)(a b:Int):z35 φ x a b=some ((betF φ x a b).1,(betF φ x a b).2,())/\0<=(betF φ x a b).1/\(betF φ x a b).1<=51200000:=by obtain⟨t,e,h1,h2,h3⟩:=h x a b;unfold betF;rw[h1];exact⟨rfl,h2,h3⟩
def bitF(p:Pool)(s:zc)(o:zl):Bool:=(U ((BitVec.ofInt 64 (((gt p.fleet.types s.type_).classes:Int).fdiv (2 ^ (min (o.class_:Int).toNat 64)))&&& BitVec.ofInt 64 1).toNat):Int)==0
def minF(φ:Nat)(p:Pool)(s:zc)(o:zl):Int:=(betF φ p.network s.place o.place).1+if 0<=s.class_ then(zhn p.fleet s.class_ o.class_).1 else 0
def zcd(φ:Nat)(p:Pool)(s:zc)(o:zl):Int×Bool:=
 bif ((betF φ p.network s.place o.place).2 !=0)||bitF p s o then(0,false) else
 match (z9b p.fleet o.type_).1.find? (λg=>g.given==s.type_) with
 |none=>(0,false)
 |some g=>bif decide (o.to<s.at_+minF φ p s o)||decide (1000000000<minF φ p s o+g.cost) then(0,false) else(minF φ p s o+g.cost,true)
theorem y2w{φ:Nat}(h:zg5 φ)(p:Pool)(s:zc)(o:zl):(betF φ p.network s.place o.place).1<=minF φ p s o/\0<=minF φ p s o/\minF φ p s o<=60000000:=by obtain⟨_,h1,h2⟩:=h.eq p.network s.place o.place;have h3:=zww p.fleet s.class_ o.class_;unfold minF;split<;>omega
theorem zzw{φ:Nat}(p:Pool)(s:zc)(o:zl)(m:Int)(l:List Swap)(hl:l.length<=1000)(hm:0<=m/\m<=60000000)(ha:0<=s.at_/\s.at_<=1073741824)(hb:∀g∈l,0<=g.cost/\g.cost<=100000000000000):
  ∀(d n i:Nat),l.length-i=d->i<=l.length->d<n->z2t φ n l (l.length:Int) (i:Int) m l s o=some (match (l.drop i).find? (λg=>g.given==s.type_) with
   |none=>(0,false,())
   |some g=>bif decide (o.to<s.at_+m)||decide (1000000000<m+g.cost) then(0,false,()) else(m+g.cost,true,())):=by
 have hW2:W (s.at_+m)=s.at_+m:=W_id (by omega) (by omega);intro d
 induction d with
 |zero=>intro n i hm hi hn;obtain⟨n,rfl⟩:∃n',n=n'+1:=⟨n-1,by omega⟩;rw[z2t,if_neg (by simp;omega),w2q (by omega),z6 (by simp),if_pos (by simp)];rfl
 |succ d ih=>
  intro n i hm hi hn;obtain⟨n,rfl⟩:∃n',n=n'+1:=⟨n-1,by omega⟩;have hi':i<l.length:=by omega
  have e:l.drop i=gt l (i:Int)::l.drop (i+1):=by rw[z3l hi'];exact w3g hi'
  have hg:=hb (gt l (i:Int)) (z8s (by omega) (by omega));rw[z2t,if_pos (by simp;omega),z6 ⟨by omega,by omega⟩,e,w4q];show (some _).bind _=_;rw[w03];simp only;cases hc :((gt l (i:Int)).given==s.type_) with
  |true=>
   have hW3:W (m+(gt l (i:Int)).cost)=m+(gt l (i:Int)).cost:=W_id (by omega) (by omega);rw[if_pos rfl,z6 (λ_=>⟨by omega,by omega⟩),hW2,hW3,z6 ⟨by omega,by omega⟩];simp only;have e0:decide ((i:Int)<0)=false:=by simp
   rw[e0,w26];cases (decide (o.to<s.at_+m)||decide (1000000000<m+(gt l (i:Int)).cost))<;>rfl
  |false=>rw[if_neg (by simp),W_id (by omega) (by omega),show (i:Int)+1 =((i+1:Nat):Int) by omega];exact ih n (i+1) (by omega) (by omega) (by omega)
theorem zt8(x:z3m)(a:Int):(z9b x a).1.length<=1000:=by
 unfold z9b;split
 .simp
 .rename_i h;obtain⟨a1,_⟩:=z4j (w4e.1 h);split
  .simp
  .have:=ztm a x.types.length (zau x.swaps x.types.length a.toNat)
   simp only;omega
theorem zyf{φ:Nat}(hφ:5000<φ)(hB:zg5 φ)(p:Pool)(s:zc)(o:zl)(ht:0<=s.type_/\s.type_<(p.fleet.types.length:Int))(ho:0<=o.class_)(ha:0<=s.at_/\s.at_<=1073741824):
  z44 φ p s o=some ((zcd φ p s o).1,(zcd φ p s o).2,()):=by
 obtain⟨h1,h2,h3⟩:=hB.eq p.network s.place o.place;have hm:=y2w hB p s o;have hcl:=zww p.fleet s.class_ o.class_;have j9:z1j φ (minF φ p s o) p s o=some (match (z9b p.fleet o.type_).1.find? (λg=>g.given==s.type_) with
   |none=>(0,false,())
   |some g=>bif decide (o.to<s.at_+minF φ p s o)||decide (1000000000<minF φ p s o+g.cost) then(0,false,()) else(minF φ p s o+g.cost,true,())):=by
  unfold z1j;rw[zns φ hφ,w03];have:=zzw (φ:=φ) p s o (minF φ p s o) (z9b p.fleet o.type_).1 (zt8 _ _) ⟨hm.2.1,hm.2.2⟩ ha (zxi _ _) _ φ 0 rfl (by omega) (by have:=zt8 p.fleet o.type_;omega);rw[w3v] at this;exact this
 unfold z44 zcd;rw[h1,w03,z6 (λ_=>ht),z6 (λ_=>ho)];simp only;show (if(((betF φ p.network s.place o.place).2 !=0)||bitF p s o)=true then _ else _)=_;cases hc :(((betF φ p.network s.place o.place).2 !=0)||bitF p s o) with
 |true=>rfl
 |false=>
  rw[if_neg (by simp),cond_false];have hj :(if(decide ((0:Int)<=s.class_))=true then((za6 φ p.fleet s.class_ o.class_).bind λy20=>(z1j φ (W ((betF φ p.network s.place o.place).1+y20.1)) p s o)) else(z1j φ (betF φ p.network s.place o.place).1 p s o))=z1j φ (minF φ p s o) p s o:=by
   unfold minF;by_cases hs:0<=s.class_
   .rw[if_pos (by simpa using hs),znr φ hφ,w03,if_pos hs,W_id (by omega) (by omega)]
   .rw[if_neg (by simpa using hs),if_neg hs,w3z]
  rw[hj,j9];cases (z9b p.fleet o.type_).1.find? (λg=>g.given==s.type_) with
  |none=>rfl
  |some g=>simp only;cases (decide (o.to<s.at_+minF φ p s o)||decide (1000000000<minF φ p s o+g.cost))<;>rfl
theorem y4p{φ:Nat}(hB:zg5 φ){p:Pool}{s:zc}{o:zl}(h :(zcd φ p s o).2=true):0<=(zcd φ p s o).1/\(zcd φ p s o).1<=1000000000/\(betF φ p.network s.place o.place).2=0/\(betF φ p.network s.place o.place).1<=(zcd φ p s o).1:=by
 have hm:=y2w hB p s o;unfold zcd at h⊢;cases hc :(((betF φ p.network s.place o.place).2 !=0)||bitF p s o) with
 |true=>rw[hc] at h;cases h
 |false=>
  rw[hc] at h;simp only[cond_false] at h⊢;cases hf :(z9b p.fleet o.type_).1.find? (λg=>g.given==s.type_) with
  |none=>rw[hf] at h;cases h
  |some g=>
   rw[hf] at h;simp only at h⊢;have hg:=zxi _ _ g (List.mem_of_find?_eq_some hf);cases hd :(decide (o.to<s.at_+minF φ p s o)||decide (1000000000<minF φ p s o+g.cost)) with
   |true=>rw[hd] at h;cases h
   |false=>simp only[w10,decide_eq_false_iff_not,bne_eq_false_iff_eq] at hd hc;simp only[cond_false];exact⟨by omega,by omega,hc.1,by omega⟩
theorem ycw{φ:Nat}{p:Pool}{s:zc}{o:zl}(h :(zcd φ p s o).2=false):(zcd φ p s o).1=0:=by
 unfold zcd at h⊢;cases hc :(((betF φ p.network s.place o.place).2 !=0)||bitF p s o) with
 |true=>rfl
 |false=>
  rw[hc] at h;simp only[cond_false] at h⊢;cases hf :(z9b p.fleet o.type_).1.find? (λg=>g.given==s.type_) with
  |none=>rfl
  |some g=>
   rw[hf] at h;simp only at h⊢;cases hd :(decide (o.to<s.at_+minF φ p s o)||decide (1000000000<minF φ p s o+g.cost)) with
   |true=>rfl
   |false=>rw[hd] at h;cases h
theorem zl0{p:Pool}(hp:p.fleet.types.length<=32/\p.network.places.length<=512){s:zc}(h:okSu p s=true):(0<=s.type_/\s.type_<(p.fleet.types.length:Int))/\(0<=s.at_/\s.at_<=1073741824)/\1<=s.count/\s.count<=4096:=by unfold okSu at h;rw[W_id (x:=(p.fleet.types.length:Int)-1) (by omega) (by omega),W_id (x:=(p.network.places.length:Int)-1) (by omega) (by omega)] at h;simp only[w02,z64] at h;obtain⟨⟨⟨⟨a,b⟩,c⟩,d⟩,e⟩:=h;exact⟨⟨a.1,by omega⟩,d,e.1,e.2⟩
theorem zgx{p:Pool}(hp:p.fleet.types.length<=32/\p.network.places.length<=512){o:zl}(h:okOr p o=true):0<=o.class_/\(1<=o.count/\o.count<=1000)/\0<=o.weight/\o.weight<=1000000000:=by unfold okOr at h;simp only[w02,z64] at h;obtain⟨⟨⟨⟨⟨⟨a,b⟩,c⟩,d⟩,e⟩,f⟩,g⟩:=h;exact⟨b.1,f,g⟩
theorem zf9{p:Pool}(h:z7n p=0):p.fleet.types.length<=32/\p.network.places.length<=512:=by obtain⟨h1,h2,_⟩:=zyv h;exact⟨(z4j h2).1,(zlc h1).1⟩
theorem y04{φ:Nat}(hφ:800000<φ)(hB:zg5 φ){p:Pool}(hp:z7n p=0){s:zc}{o:zl}(hs:okSu p s=true)(ho:okOr p o=true):z8q φ p s o=some ((zcd φ p s o).1,(zcd φ p s o).2,0,()):=by obtain⟨a,b,c⟩:=zl0 (zf9 hp) hs;obtain⟨d,_⟩:=zgx (zf9 hp) ho;unfold z8q;rw[zb3 φ hφ,w03,if_neg (by simp[hp]),zc9,w03,hs,gz_t (by simp),zdh,w03,ho,if_neg (by simp),zyf (by omega) hB p s o a d b,w03]
end Px
end
section
namespace Px
open Go
def cF(φ:Nat)(p:Pool)(s:List zc)(o:List zl)(i k:Nat):Int:=(zcd φ p (gt s (i:Int)) (gt o (k:Int))).1
def bF(φ:Nat)(p:Pool)(s:List zc)(o:List zl)(i k:Nat):Bool:=(zcd φ p (gt s (i:Int)) (gt o (k:Int))).2
def netF(φ:Nat)(p:Pool)(s:List zc)(o:List zl):zh:=netN s o (cF φ p s o) (bF φ p s o)
def zvo(p:Pool)(s:List zc)(o:List zl):Bool:=s.all (okSu p)&&o.all (okOr p)
theorem z8p(s:List zc)(o:List zl)(c:Nat->Nat->Int)(b:Nat->Nat->Bool)(hs:s.length<=6)(ho:o.length<=6):(z7 s o c b).length<=49:=by unfold z7 zmv;have:=zkq (s:=s) (o:=o) (c:=c) (b:=b) ho s.length;simp only[w0i,w1c,List.length_range,w1b,w38];omega
theorem zym{φ:Nat}(hφ:800000<φ)(hB:zg5 φ){p:Pool}(hp:z7n p=0){s:List zc}{o:List zl}(hs:s.length<=6)(ho:o.length<=6)(hsv:s.all (okSu p)=true)(m:Nat)(hm:o.length<m)(hS:0<=sumS s s.length/\sumS s s.length<=100000):
  z1c φ m s o (sumS s s.length) 0 o (o.length:Int) 0 p (s.map (·.count)) []=some (bif o.all (okOr p) then(netF φ p s o,0,()) else(⟨[],[]⟩,1,())):=by
 have hpl:=zf9 hp;have:=z8t (λm i(st:Int×List Int)=>z1c φ m s o (sumS s s.length) st.1 o (o.length:Int) i p st.2 []) (λst=>some (netF φ p s o,0,())) (some (⟨[],[]⟩,1,())) o (okOr p)
  (λst y=>(st.1+y.count,st.2++[- y.count])) (λi st=>(i=o.length->o.all (okOr p)=true)/\st.1=sumC o i/\0<=st.1/\st.1<=1000*(i:Int)/\st.2=s.map (·.count)++(o.take i).map (λy=>- y.count)/\∀j:Nat,j<i->okOr p (gt o (j:Int))=true) ?_ ?_ m (0,s.map (·.count)) ⟨λh=>by have:o = []:=w18 h.symm;rw[this];rfl,rfl,by simp,by simp,by simp,λj hj=>by omega⟩ hm
 .rw[this.1];cases o.all (okOr p)<;>rfl
 .rintro m i ⟨c,l⟩ hi ⟨_,h1,h2,h3,h4,h5⟩;simp only at h1 h2 h3 h4 h5;have hW:W ((i:Int)+1) =(i:Int)+1:=W_id (by omega) (by omega);have hlen:l.length<=12:=by rw[h4];simp only[w0i,w1c,w1y];omega
  show z1c φ (m+1) s o (sumS s s.length) c o (o.length:Int) (i:Int) p l []=_/\_;rw[z1c,if_pos (by simp;omega),z6 ⟨by omega,by omega⟩,zdh,w03,hW];cases hok:okOr p (gt o (i:Int)) with
  |false=>exact⟨by simp,λh=>by cases h⟩
  |true=>
   obtain⟨b1,b2,b3⟩:=zgx hpl hok;have hW2:W (0-(gt o (i:Int)).count)=-(gt o (i:Int)).count:=by rw[w5g];exact W_id (by omega) (by omega)
   have hW3:W (c+(gt o (i:Int)).count)=c+(gt o (i:Int)).count:=W_id (by omega) (by omega);have hall:∀j:Nat,j<i+1->okOr p (gt o (j:Int))=true:=λj hj=>by
    by_cases e:j=i
    .rw[e];exact hok
    .exact h5 j (by omega)
   rw[if_neg (by simp),z6 (by simp[fits];omega),hW2,hW3];refine⟨rfl,λ_=>⟨λh=>?_,by rw[h1];rfl,by omega,by push_cast;omega,?_,hall⟩⟩
   .rw[w08];intro x hx;obtain⟨j,hj,e⟩:=w2k hx;rw[<- e,<- z3l hj];exact hall j (by omega)
   .rw[h4,z2p o i hi,w2f,<- w0q];rfl
 .rintro m ⟨c,l⟩ ⟨h0,h1,h2,h3,h4,h5⟩;simp only at h1 h2 h3 h4 h5;rw[w1z] at h4;have hlen:l.length<=12:=by rw[h4];simp only[w0i,w1c];omega
  have hW2:W (0-sumS s s.length)=- sumS s s.length:=by rw[w5g];exact W_id (by omega) (by omega)
  have hW3:W ((s.length:Int)+(o.length:Int))=nodU s o:=W_id (by omega) (by omega);show z1c φ (m+1) s o (sumS s s.length) c o (o.length:Int) (o.length:Int) p l []=_;rw[z1c,if_neg (by simp),z6 (by simp[fits];omega),if_neg (by simp only[w0i,w1b,w38,decide_eq_true_eq];omega),hW2,hW3];have hu:0<=nodU s o/\nodU s o<=1000:=by unfold nodU;omega
  have hcnt:∀k:Nat,k<o.length->0<=(gt o (k:Int)).count/\(gt o (k:Int)).count<=1000000:=λk hk=>by obtain⟨b1,b2,b3⟩:=zgx hpl (h5 k hk);omega
  have hlp :((List.range s.length).flatMap (arcR s o (cF φ p s o) (bF φ p s o))).length<=500:=by have:=zkq (s:=s) (o:=o) (c:=cF φ p s o) (b:=bF φ p s o) ho s.length;omega
  rw[y35 φ (nodU s o) 0 p s o _ (cF φ p s o) (bF φ p s o) (λi k hi hk=>?_) hs ho (by omega) φ (by omega),zzc φ (nodU s o) s o _ _ hs ho hcnt hlp hu (by omega) φ (by omega)]
  .unfold z0w;have hal:=z8p s o (cF φ p s o) (bF φ p s o) hs ho;have e :(List.range s.length).flatMap (arcR s o (cF φ p s o) (bF φ p s o))++(List.range o.length).map (arcO (nodU s o) (s.length:Int) o)++(List.range s.length).map (arcS (nodU s o) s)++[⟨nodU s o,nodU s o+1,sumC o o.length,0⟩]=z7 s o (cF φ p s o) (bF φ p s o):=rfl;rw[e,if_neg (by simp only[decide_eq_true_eq];omega),h1,h4];rfl
  .obtain⟨a1,a2,a3⟩:=zl0 hpl (w08.1 hsv _ (z8s (i:=(i:Int)) (by omega) (by omega)));obtain⟨b1,b2,b3⟩:=zgx hpl (h5 k hk);exact zyf (by omega) hB p _ _ a1 b1 a2
theorem y8z{φ:Nat}(hφ:800000<φ)(hB:zg5 φ)(p:Pool){s:List zc}{o:List zl}(hs:s.length<=6)(ho:o.length<=6):
  z4l φ p s o=some (if z7n p≠0 then(⟨[],[]⟩,z7n p,()) else bif zvo p s o then(netF φ p s o,0,()) else(⟨[],[]⟩,1,())):=by
 unfold z4l;rw[zb3 φ hφ,w03];by_cases hp:z7n p=0
 case neg=>rw[if_pos (by simpa using hp),if_pos hp]
 rw[if_neg (by simpa using hp),if_neg (λh=>h hp)];have hpl:=zf9 hp;have:=z8t (λm i(st:Int×List Int)=>z24 φ m s o st.1 0 s (s.length:Int) i p st.2 []) (λst=>some (bif o.all (okOr p) then(netF φ p s o,0,()) else(⟨[],[]⟩,1,()))) (some (⟨[],[]⟩,1,())) s (okSu p)
  (λst y=>(st.1+y.count,st.2++[y.count])) (λi st=>(i=s.length->s.all (okSu p)=true)/\st.1=sumS s i/\0<=st.1/\st.1<=4096*(i:Int)/\st.2 =(s.take i).map (·.count)/\∀j:Nat,j<i->okSu p (gt s (j:Int))=true) ?_ ?_ φ (0,[]) ⟨λh=>by have:s = []:=w18 h.symm;rw[this];rfl,rfl,by simp,by simp,by simp,λj hj=>by omega⟩ (by omega)
 .rw[this.1];unfold zvo;cases s.all (okSu p)<;>rfl
 .rintro m i ⟨c,l⟩ hi ⟨_,h1,h2,h3,h4,h5⟩;simp only at h1 h2 h3 h4 h5;have hW:W ((i:Int)+1) =(i:Int)+1:=W_id (by omega) (by omega);have hlen:l.length<=12:=by rw[h4];simp only[w1c,w1y];omega
  show z24 φ (m+1) s o c 0 s (s.length:Int) (i:Int) p l []=_/\_;rw[z24,if_pos (by simp;omega),z6 ⟨by omega,by omega⟩,zc9,w03,hW];cases hok:okSu p (gt s (i:Int)) with
  |false=>exact⟨by simp,λh=>by cases h⟩
  |true=>
   obtain⟨b1,b2,b3⟩:=zl0 hpl hok;have hW3:W (c+(gt s (i:Int)).count)=c+(gt s (i:Int)).count:=W_id (by omega) (by omega);have hall:∀j:Nat,j<i+1->okSu p (gt s (j:Int))=true:=λj hj=>by
    by_cases e:j=i
    .rw[e];exact hok
    .exact h5 j (by omega)
   rw[if_neg (by simp),z6 (by simp[fits];omega),hW3];refine⟨rfl,λ_=>⟨λh=>?_,by rw[h1];rfl,by omega,by push_cast;omega,?_,hall⟩⟩
   .rw[w08];intro x hx;obtain⟨j,hj,e⟩:=w2k hx;rw[<- e,<- z3l hj];exact hall j (by omega)
   .rw[h4,z2p s i hi,w2f];rfl
 .rintro m ⟨c,l⟩ ⟨h0,h1,h2,h3,h4,h5⟩;simp only at h1 h2 h3 h4 h5;rw[w1z] at h4;show z24 φ (m+1) s o c 0 s (s.length:Int) (s.length:Int) p l []=_;rw[z24,if_neg (by simp),h1,h4];exact zym hφ hB hp hs ho (h0 rfl) φ (by omega) ⟨by omega,by omega⟩
structure Val(φ:Nat)(p:Pool)(s:List zc)(o:List zl):Prop where
 hφ:800000<φ
 hB:zg5 φ
 hp:z7n p=0
 hs:s.length<=6
 ho:o.length<=6
 su:∀i:Nat,i<s.length->okSu p (gt s (i:Int))=true
 or:∀k:Nat,k<o.length->okOr p (gt o (k:Int))=true
theorem Val.sc{φ:Nat}{p:Pool}{s:List zc}{o:List zl}(h:Val φ p s o){i:Nat}(hi:i<s.length):1<=(gt s (i:Int)).count/\(gt s (i:Int)).count<=4096:=(zl0 (zf9 h.hp) (h.su i hi)).2.2
theorem Val.oc{φ:Nat}{p:Pool}{s:List zc}{o:List zl}(h:Val φ p s o){k:Nat}(hk:k<o.length):(1<=(gt o (k:Int)).count/\(gt o (k:Int)).count<=1000)/\0<=(gt o (k:Int)).weight/\(gt o (k:Int)).weight<=1000000000:=(zgx (zf9 h.hp) (h.or k hk)).2
theorem yf1{φ:Nat}(hφ:800000<φ)(hB:zg5 φ){p:Pool}{s:List zc}{o:List zl}(hp:z7n p=0)(hs:s.length<=6)(ho:o.length<=6)(h:zvo p s o=true):Val φ p s o:=by unfold zvo at h;rw[w02] at h;exact⟨hφ,hB,hp,hs,ho,λi hi=>w08.1 h.1 _ (z8s (by omega) (by omega)),λk hk=>w08.1 h.2 _ (z8s (by omega) (by omega))⟩
theorem Val.all{φ:Nat}{p:Pool}{s:List zc}{o:List zl}(h:Val φ p s o):zvo p s o=true:=by
 unfold zvo;rw[w02,w08,w08];refine⟨λx hx=>?_,λx hx=>?_⟩
 .obtain⟨j,hj,e⟩:=w2k hx;rw[<- e,<- z3l hj];exact h.su j hj
 .obtain⟨j,hj,e⟩:=w2k hx;rw[<- e,<- z3l hj];exact h.or j hj
theorem Val.net{φ:Nat}{p:Pool}{s:List zc}{o:List zl}(h:Val φ p s o):z4l φ p s o=some (netF φ p s o,0,()):=by rw[y8z h.hφ h.hB p h.hs h.ho,if_neg (λe=>e h.hp),h.all];rfl
theorem zpe(f:Nat->Int)(a:Nat):∀b:Nat,sumN (a+b) f=sumN a f+sumN b (λk=>f (a+k))
 |0=>by simp[sumN]
 |b+1=>by show sumN (a+b) f+f (a+b)=_;rw[zpe f a b];simp only[sumN];omega
theorem zyg(f:Nat->Int):∀n:Nat,sumN n (λi=>- f i)=- sumN n f
 |0=>rfl
 |n+1=>by simp only[sumN,zyg f n];omega
theorem Val.sumS_bd{φ:Nat}{p:Pool}{s:List zc}{o:List zl}(h:Val φ p s o):0<=sumS s s.length/\sumS s s.length<=24576:=by
 rw[zrl];have:=zde (m:=s.length) (f:=λi=>(gt s (i:Int)).count) (B:=4096) λi hi=>by have:=h.sc hi;exact⟨by omega,this.2⟩
 have:=h.hs;omega
theorem Val.sumC_bd{φ:Nat}{p:Pool}{s:List zc}{o:List zl}(h:Val φ p s o):0<=sumC o o.length/\sumC o o.length<=6000:=by
 rw[zn9];have:=zde (m:=o.length) (f:=λi=>(gt o (i:Int)).count) (B:=1000) λi hi=>by have:=h.oc hi;exact⟨by omega,this.1.2⟩
 have:=h.ho;omega
theorem y0f{α:Type}[Inhabited α]{l:List α}{P:α->Bool}(h:∀i:Nat,i<l.length->P (gt l (i:Int))=true):l.all P=true:=by rw[w08];intro x hx;obtain⟨j,hj,e⟩:=w2k hx;rw[<- e,<- z3l hj];exact h j hj
theorem Val.chk{φ:Nat}{p:Pool}{s:List zc}{o:List zl}(h:Val φ p s o):zpu (netF φ p s o)=0:=by
 have hs:=h.hs;have ho:=h.ho;have hS:=h.sumS_bd;have hC:=h.sumC_bd;have hal:=z8p s o (cF φ p s o) (bF φ p s o) hs ho;have hsl :(supN s o).length<=14:=by rw[z63];omega
 have e0 :(netF φ p s o).supply=supN s o:=rfl;have e1 :(netF φ p s o).arcs=z7 s o (cF φ p s o) (bF φ p s o):=rfl;have h1 :(supN s o).all ztl=true:=by
  refine y0f λv hv=>?_
  rw[z63] at hv;show ztl (atN (supN s o) v)=true;unfold ztl;rw[z64];by_cases g1:v<s.length
  .rw[zph g1];have:=h.sc g1;omega
  .by_cases g2:v<s.length+o.length
   .obtain⟨k,rfl⟩:∃k,v=s.length+k:=⟨v-s.length,by omega⟩;rw[zpg (by omega)];have:=h.oc (k:=k) (by omega);omega
   .by_cases g3:v=s.length+o.length
    .rw[g3,zuc];omega
    .rw[show v=s.length+o.length+1 by omega,zud];omega
 have h2 :(z7 s o (cF φ p s o) (bF φ p s o)).all (zny (supN s o).length)=true:=by
  rw[w08];intro a ha;rw[ztk,z63];rcases zmd ha with⟨i,k,hi,hk,hb,e⟩|⟨k,hk,e⟩|⟨i,hi,e⟩|e
  .have h1:=h.sc hi;have h2:=h.oc hk;have h3:=y4p h.hB hb;rw[e];show (0<=(i:Int)/\(i:Int)<_)/\(0<=(s.length:Int)+(k:Int)/\(s.length:Int)+(k:Int)<_)/\(i:Int)≠(s.length:Int)+(k:Int)/\(0<=min2 (gt s (i:Int)).count (gt o (k:Int)).count/\min2 (gt s (i:Int)).count (gt o (k:Int)).count<=1000000000)/\(0<=cF φ p s o i k/\cF φ p s o i k<=1000000000);have h4:0<=min2 (gt s (i:Int)).count (gt o (k:Int)).count/\min2 (gt s (i:Int)).count (gt o (k:Int)).count<=1000000000:=by unfold min2;split<;>omega
   exact⟨by omega,by omega,by omega,h4,h3.1,h3.2.1⟩
  .have h2:=h.oc hk;rw[e];show (0<=nodU s o/\nodU s o<_)/\(0<=(s.length:Int)+(k:Int)/\(s.length:Int)+(k:Int)<_)/\nodU s o≠(s.length:Int)+(k:Int)/\(0<=(gt o (k:Int)).count/\(gt o (k:Int)).count<=1000000000)/\(0<=(gt o (k:Int)).weight/\(gt o (k:Int)).weight<=1000000000);unfold nodU;omega
  .have h1:=h.sc hi;rw[e];show (0<=(i:Int)/\(i:Int)<_)/\(0<=nodU s o+1/\nodU s o+1<_)/\(i:Int)≠nodU s o+1/\(0<=(gt s (i:Int)).count/\(gt s (i:Int)).count<=1000000000)/\(0<=(0:Int)/\(0:Int)<=1000000000);unfold nodU;omega
  .rw[e];show (0<=nodU s o/\nodU s o<_)/\(0<=nodU s o+1/\nodU s o+1<_)/\nodU s o≠nodU s o+1/\(0<=sumC o o.length/\sumC o o.length<=1000000000)/\(0<=(0:Int)/\(0:Int)<=1000000000);unfold nodU;omega
 have h3:sumL (supN s o)=0:=by rw[y4q,z63,show s.length+o.length+2=s.length+o.length+1+1 by rfl];simp only[sumN];rw[zpe,zuc,zud];rw[zd (n:=s.length) (g:=λi=>(gt s (i:Int)).count) λi hi=>zph hi,zd (n:=o.length) (g:=λk=>-(gt o (k:Int)).count) λk hk=>zpg hk,zyg,<- zrl,<- zn9];omega
 unfold zpu;rw[e0,e1,h1,h2,h3];rw[show (decide (256<(supN s o).length)||decide (2048<(z7 s o (cF φ p s o) (bF φ p s o)).length))=false by simp;omega];rfl
theorem Val.fnet{φ:Nat}{p:Pool}{s:List zc}{o:List zl}(h:Val φ p s o):z39 (netF φ p s o):=zgq h.chk
theorem Val.poss0{φ:Nat}{p:Pool}{s:List zc}{o:List zl}(h:Val φ p s o):Poss s o (bF φ p s o) (λ_ _=>0) where
 pos:=λ_ _ _ _=>w1i _
 no:=λ_ _ _ _ _=>rfl
 row:=λi hi=>by rw[z2i];have:=h.sc hi;omega
 col:=λk hk=>by rw[z2i];have:=h.oc hk;omega
end Px
end
section
namespace Px
open Go
def addX(X:Nat->Nat->Int)(t:zi):Nat->Nat->Int:=λi k=>if i=t.supply.toNat/\k=t.order.toNat then X i k+t.count else X i k
def okT(s:List zc)(o:List zl)(b:Nat->Nat->Bool)(X:Nat->Nat->Int)(t:zi):Bool:=decide (0<=t.supply)&&decide (t.supply<(s.length:Int))&&decide (0<=t.order)&&decide (t.order<(o.length:Int))&&b t.supply.toNat t.order.toNat&&decide (0<=t.count)&&decide (t.count<=z4q s o X t.supply.toNat)&&decide (t.count<=z2d s o X t.order.toNat)
def okL(s:List zc)(o:List zl)(b:Nat->Nat->Bool):(Nat->Nat->Int)->List zi->Bool
 |_,[]=>true
 |X,t::l=>okT s o b X t&&okL s o b (addX X t) l
def zev(s:List zc)(o:List zl)(c X:Nat->Nat->Int):Int:=sumN s.length λi=>sumN o.length λk=>X i k*c i k
theorem zwm(X:Nat->Nat->Int)(t:zi)(n i:Nat)(h:t.order.toNat<n):(sumN n λk=>addX X t i k) =(sumN n λk=>X i k)+if i=t.supply.toNat then t.count else 0:=by
 by_cases e:i=t.supply.toNat
 .rw[if_pos e];have:=z4g (λ_=>t.count) t.order.toNat n;rw[if_pos h] at this;rw[<- this,<- z7d];refine zd λk hk=>?_
  unfold addX;by_cases e2:k=t.order.toNat
  .rw[if_pos ⟨e,e2⟩,if_pos e2]
  .rw[if_neg (λg=>e2 g.2),if_neg e2,w3z]
 .rw[if_neg e,w3z];exact zd λk hk=>by unfold addX;rw[if_neg (λg=>e g.1)]
theorem zwl(X:Nat->Nat->Int)(t:zi)(n k:Nat)(h:t.supply.toNat<n):(sumN n λi=>addX X t i k) =(sumN n λi=>X i k)+if k=t.order.toNat then t.count else 0:=by
 by_cases e:k=t.order.toNat
 .rw[if_pos e];have:=z4g (λ_=>t.count) t.supply.toNat n;rw[if_pos h] at this;rw[<- this,<- z7d];refine zd λi hi=>?_
  unfold addX;by_cases e2:i=t.supply.toNat
  .rw[if_pos ⟨e2,e⟩,if_pos e2]
  .rw[if_neg (λg=>e2 g.1),if_neg e2,w3z]
 .rw[if_neg e,w3z];exact zd λi hi=>by unfold addX;rw[if_neg (λg=>e g.2)]
theorem zg6(s:List zc)(o:List zl)(X:Nat->Nat->Int)(t:zi)(i:Nat)(h:t.order.toNat<o.length):z4q s o (addX X t) i=z4q s o X i-if i=t.supply.toNat then t.count else 0:=by unfold z4q;rw[zwm X t _ i h];omega
theorem zg7(s:List zc)(o:List zl)(X:Nat->Nat->Int)(t:zi)(k:Nat)(h:t.supply.toNat<s.length):z2d s o (addX X t) k=z2d s o X k-if k=t.order.toNat then t.count else 0:=by unfold z2d;rw[zwl X t _ k h];omega
theorem zry(s:List zc)(o:List zl)(c X:Nat->Nat->Int)(t:zi)(h:t.supply.toNat<s.length)(h2:t.order.toNat<o.length):zev s o c (addX X t)=zev s o c X+t.count*c t.supply.toNat t.order.toNat:=by
 unfold zev;have h1:=z4g (λi=>sumN o.length λk=>if k=t.order.toNat then t.count*c i k else 0) t.supply.toNat s.length;rw[if_pos h] at h1;have h3:=z4g (λk=>t.count*c t.supply.toNat k) t.order.toNat o.length;rw[if_pos h2] at h3;rw[h3] at h1;rw[<- h1,<- z7d];refine zd λi hi=>?_
 by_cases e:i=t.supply.toNat
 .rw[if_pos e,<- z7d];refine zd λk hk=>?_
  unfold addX;by_cases e2:k=t.order.toNat
  .rw[if_pos ⟨e,e2⟩,if_pos e2,w2x]
  .rw[if_neg (λg=>e2 g.2),if_neg e2,w3z]
 .rw[if_neg e,w3z];exact zd λk hk=>by unfold addX;rw[if_neg (λg=>e g.1)]
theorem zbt{s:List zc}{o:List zl}{b:Nat->Nat->Bool}{X:Nat->Nat->Int}{t:zi}: okT s o b X t=true↔
  ((0<=t.supply/\t.supply<(s.length:Int))/\0<=t.order/\t.order<(o.length:Int))/\b t.supply.toNat t.order.toNat=true/\0<=t.count/\t.count<=z4q s o X t.supply.toNat/\t.count<=z2d s o X t.order.toNat:=by
 unfold okT;simp only[w02,decide_eq_true_eq];constructor
 .rintro⟨⟨⟨⟨⟨⟨⟨a,b⟩,c⟩,d⟩,e⟩,f⟩,g⟩,h⟩;exact⟨⟨⟨a,b⟩,c,d⟩,e,f,g,h⟩
 .rintro⟨⟨⟨a,b⟩,c,d⟩,e,f,g,h⟩;exact⟨⟨⟨⟨⟨⟨⟨a,b⟩,c⟩,d⟩,e⟩,f⟩,g⟩,h⟩
theorem Poss.add{s:List zc}{o:List zl}{b:Nat->Nat->Bool}{X:Nat->Nat->Int}(h:Poss s o b X){t:zi}(ht:okT s o b X t=true):Poss s o b (addX X t):=by
 obtain⟨⟨⟨a1,a2⟩,a3,a4⟩,a5,a6,a7,a8⟩:=zbt.1 ht;refine⟨λi k hi hk=>?_,λi k hi hk hb=>?_,λi hi=>?_,λk hk=>?_⟩
 .unfold addX;have:=h.pos i k hi hk;split<;>omega
 .unfold addX;have:=h.no i k hi hk hb;split
  .rename_i e;rw[e.1,e.2,a5] at hb;cases hb
  .exact this
 .rw[zwm X t _ i (by omega)];have:=h.row i hi;by_cases e:i=t.supply.toNat
  .rw[if_pos e];rw[<- e] at a7;unfold z4q at a7;omega
  .rw[if_neg e];omega
 .rw[zwl X t _ k (by omega)];have:=h.col k hk;by_cases e:k=t.order.toNat
  .rw[if_pos e];rw[<- e] at a8;unfold z2d at a8;omega
  .rw[if_neg e];omega
theorem zxx{s:List zc}{o:List zl}{b:Nat->Nat->Bool}: ∀{l:List zi}{X:Nat->Nat->Int},Poss s o b X->okL s o b X l=true->Poss s o b (l.foldl addX X)
 | [],_,h,_=>h
 |t::l,X,h,hl=>by unfold okL at hl;rw[w02] at hl;exact zxx (l:=l) (h.add hl.1) hl.2
section
variable{φ:Nat}{p:Pool}{s:List zc}{o:List zl}
theorem Val.xle(h:Val φ p s o){X:Nat->Nat->Int}(hX:Poss s o (bF φ p s o) X){i k:Nat}(hi:i<s.length)(hk:k<o.length):0<=X i k/\X i k<=1000:=by
 have h1:=hX.pos i k hi hk;have h2:=hX.col k hk;have h3:=znc (f:=λi=>X i k) (λj hj=>hX.pos j k hj hk) hi;have h4:=h.oc hk;refine⟨h1,?_⟩;have:X i k<=sumN s.length λi=>X i k:=h3
 omega
theorem Val.c_bd(h:Val φ p s o)(i k:Nat):0<=cF φ p s o i k/\cF φ p s o i k<=1000000000:=by
 unfold cF;cases hb :(zcd φ p (gt s (i:Int)) (gt o (k:Int))).2 with
 |true=>have:=y4p h.hB hb;exact⟨this.1,this.2.1⟩
 |false=>rw[ycw hb];simp
theorem Val.sumXC_bd(h:Val φ p s o){X:Nat->Nat->Int}(hX:Poss s o (bF φ p s o) X):0<=zev s o (cF φ p s o) X/\zev s o (cF φ p s o) X<=36000000000000:=by
 have h1:∀i,i<s.length->0<=(sumN o.length λk=>X i k*cF φ p s o i k)/\(sumN o.length λk=>X i k*cF φ p s o i k)<=6000000000000:=λi hi=>by
  have:=zde (m:=o.length) (f:=λk=>X i k*cF φ p s o i k) (B:=1000000000000) λk hk=>by have h1:=h.xle hX hi hk;have h2:=h.c_bd i k;refine⟨w1d h1.1 h2.1,?_⟩;have:=w2v h1.2 h2.2 h2.1 (by omega :(0:Int)<=1000);simpa using this
  have:=h.ho;omega
 have:=zde (m:=s.length) (B:=6000000000000) h1;have:=h.hs;unfold zev;omega
theorem Val.open_bd(h:Val φ p s o){X:Nat->Nat->Int}(hX:Poss s o (bF φ p s o) X){k:Nat}(hk:k<o.length):0<=z2d s o X k/\z2d s o X k<=1000:=by
 have h1:=hX.col k hk;have h2:=h.oc hk;have h3:=z1y (f:=λi=>X i k) (n:=s.length) λi hi=>hX.pos i k hi hk
 unfold z2d;omega
theorem Val.left_bd(h:Val φ p s o){X:Nat->Nat->Int}(hX:Poss s o (bF φ p s o) X){i:Nat}(hi:i<s.length):0<=z4q s o X i/\z4q s o X i<=4096:=by
 have h1:=hX.row i hi;have h2:=h.sc hi;have h3:=z1y (f:=λk=>X i k) (n:=o.length) λk hk=>hX.pos i k hi hk
 unfold z4q;omega
theorem y00(h:Val φ p s o){X:Nat->Nat->Int}(hX:Poss s o (bF φ p s o) X)(op:List Int)(hol:op.length=o.length)(hov:∀k:Nat,k<o.length->gt op (k:Int)=z2d s o X k)(m:Nat)(hm:o.length<m):
  z2c φ m o (zev s o (cF φ p s o) X) 0 op=some (zfh s o (cF φ p s o) X,true,()):=by
 have hb:=h.sumXC_bd hX;have ho:=h.ho;refine zw (λm i n=>z2c φ m o n i op) o.length (λi n=>n=zev s o (cF φ p s o) X+(sumN i λk=>z2d s o X k*(gt o (k:Int)).weight)/\0<=n/\n<=36000000000000+1000000000000*(i:Int)) (λr=>r=some (zfh s o (cF φ p s o) X,true,())) ?_ ?_ m _ ⟨by simp[sumN],by omega,by omega⟩ hm
 .rintro m i n hi ⟨h1,h2,h3⟩ hs;have hW:W ((i:Int)+1) =(i:Int)+1:=W_id (by omega) (by omega);have e1:=h.open_bd hX hi;have e2:=h.oc hi;have e3:0<=z2d s o X i*(gt o (i:Int)).weight/\z2d s o X i*(gt o (i:Int)).weight<=1000000000000:=by refine⟨w1d e1.1 e2.2.1,?_⟩;have:=w2v e1.2 e2.2.2 e2.2.1 (by omega :(0:Int)<=1000);simpa using this
  show z2c φ (m+1) o n (i:Int) op=_;rw[z2c,if_pos (by simp;omega),z6 ⟨by omega,by omega⟩,z6 ⟨by omega,by omega⟩,hov i hi,W_id (x:=z2d s o X i*(gt o (i:Int)).weight) (by omega) (by omega),W_id (by omega) (by omega),hW];exact hs _ ⟨by rw[h1];simp only[sumN];omega,by omega,by push_cast;omega⟩
 .rintro m n ⟨h1,h2,h3⟩;show z2c φ (m+1) o n (o.length:Int) op=_;rw[z2c,if_neg (by simp),h1];rfl
theorem y4v(h:Val φ p s o)(l:List zi)(hl:l.length<=100000)(hφ:l.length<φ):∀(d m i:Nat)(X:Nat->Nat->Int)(le op:List Int),l.length-i=d->i<=l.length->d<m->Poss s o (bF φ p s o) X->
  le.length=s.length->(∀j:Nat,j<s.length->gt le (j:Int)=z4q s o X j)->op.length=o.length->(∀k:Nat,k<o.length->gt op (k:Int)=z2d s o X k)->
  z4p φ m s o l (zev s o (cF φ p s o) X) (i:Int) p le op=some (bif okL s o (bF φ p s o) X (l.drop i) then(zfh s o (cF φ p s o) ((l.drop i).foldl addX X),true,()) else(0,false,())):=by
 intro d;have hφ8:=h.hφ;have hol6:=h.ho;have hsl6:=h.hs
 induction d with
 |zero=>intro m i X le op hd hi hm hX h1 h2 h3 h4;obtain⟨m,rfl⟩:∃m',m=m'+1:=⟨m-1,by omega⟩;rw[z4p,if_neg (by simp;omega),w2q (by omega),y00 h hX op h3 h4 φ (by omega)];rfl
 |succ d ih=>
  intro m i X le op hd hi hm hX h1 h2 h3 h4;obtain⟨m,rfl⟩:∃m',m=m'+1:=⟨m-1,by omega⟩;have hi':i<l.length:=by omega
  have e:l.drop i=gt l (i:Int)::l.drop (i+1):=by rw[z3l hi'];exact w3g hi'
  rw[z4p,if_pos (by simp;omega),z6 ⟨by omega,by omega⟩,e];generalize gt l (i:Int)=t;by_cases hr :(0<=t.supply/\t.supply<(s.length:Int))/\0<=t.order/\t.order<(o.length:Int)
  case neg=>
   have:okT s o (bF φ p s o) X t=false:=by
    cases g:okT s o (bF φ p s o) X t with
    |false=>rfl
    |true=>exact absurd (zbt.1 g).1 hr
   rw[if_pos (by simp only[w0s,decide_eq_true_eq];omega)];unfold okL;rw[this];rfl
  obtain⟨⟨r1,r2⟩,r3,r4⟩:=hr;have ei :((t.supply.toNat:Nat):Int)=t.supply:=by omega
  have ek :((t.order.toNat:Nat):Int)=t.order:=by omega
  have hin:t.supply.toNat<s.length:=by omega
  have hkn:t.order.toNat<o.length:=by omega
  have hsu:=h.su t.supply.toNat hin;have hor:=h.or t.order.toNat hkn;have hl1:=h2 t.supply.toNat hin;have hl2:=h4 t.order.toNat hkn;rw[ei] at hsu hl1;rw[ek] at hor hl2;have ec :(zcd φ p (gt s t.supply) (gt o t.order)).1=cF φ p s o t.supply.toNat t.order.toNat:=by unfold cF;rw[ei,ek]
  have eb :(zcd φ p (gt s t.supply) (gt o t.order)).2=bF φ p s o t.supply.toNat t.order.toNat:=by unfold bF;rw[ei,ek]
  have hcb:=h.c_bd t.supply.toNat t.order.toNat;rw[if_neg (by simp only[w0s,decide_eq_true_eq];omega),z6 ⟨r1,r2⟩,z6 ⟨r3,r4⟩,y04 h.hφ h.hB h.hp hsu hor,w03];simp only;rw[z6 (λ_=>⟨r1,by omega⟩),z6 (λ_=>⟨r3,by omega⟩),ec,eb,hl1,hl2];have hcond :(((((((!bF φ p s o t.supply.toNat t.order.toNat)||((0:Int) !=0))||(decide (cF φ p s o t.supply.toNat t.order.toNat<0)))||(decide ((1000000000:Int)<cF φ p s o t.supply.toNat t.order.toNat)))||(decide (t.count<0)))||(decide (z4q s o X t.supply.toNat<t.count)))||(decide (z2d s o X t.order.toNat<t.count))) = !okT s o (bF φ p s o) X t:=by
   have q1:decide (cF φ p s o t.supply.toNat t.order.toNat<0)=false:=by simp;omega
   have q2:decide ((1000000000:Int)<cF φ p s o t.supply.toNat t.order.toNat)=false:=by simp;omega
   rw[q1,q2];cases g:okT s o (bF φ p s o) X t with
   |true=>obtain⟨_,g2,g3,g4,g5⟩:=zbt.1 g;rw[g2];simp;omega
   |false=>
    have hn:¬(bF φ p s o t.supply.toNat t.order.toNat=true/\0<=t.count/\t.count<=z4q s o X t.supply.toNat/\t.count<=z2d s o X t.order.toNat):=λq=>by have:okT s o (bF φ p s o) X t=true:=zbt.2 ⟨⟨⟨r1,r2⟩,r3,r4⟩,q⟩;rw[g] at this;cases this
    cases gb:bF φ p s o t.supply.toNat t.order.toNat with
    |false=>rfl
    |true=>
     have:¬(0<=t.count/\t.count<=z4q s o X t.supply.toNat/\t.count<=z2d s o X t.order.toNat):=λq=>hn ⟨gb,q⟩
     simp only[w1r,w26,w2m,w0s,decide_eq_true_eq,bne_self_eq_false];omega
  rw[hcond];unfold okL;cases g:okT s o (bF φ p s o) X t with
  |false=>rfl
  |true=>
   obtain⟨_,g2,g3,g4,g5⟩:=zbt.1 g;have hlb:=h.left_bd hX hin;have hob:=h.open_bd hX hkn;have hX':=hX.add g;have hsb:=h.sumXC_bd hX;have hmul:0<=cF φ p s o t.supply.toNat t.order.toNat*t.count/\cF φ p s o t.supply.toNat t.order.toNat*t.count<=1000000000000:=by refine⟨w1d hcb.1 g3,?_⟩;have:=w2v hcb.2 (by omega:t.count<=1000) g3 (by omega :(0:Int)<=1000000000);simpa using this
   rw[if_neg (by simp),z6 ⟨r1,by omega⟩,z6 ⟨r1,by omega⟩,z6 ⟨r3,by omega⟩,z6 ⟨r3,by omega⟩];rw[W_id (x:=cF φ p s o t.supply.toNat t.order.toNat*t.count) (by omega) (by omega),W_id (x:=zev s o (cF φ p s o) X+_) (by omega) (by omega),W_id (x:=(i:Int)+1) (by omega) (by omega),W_id (x:=z4q s o X t.supply.toNat-t.count) (by omega) (by omega),W_id (x:=z2d s o X t.order.toNat-t.count) (by omega) (by omega)];rw[w29,<- zry s o (cF φ p s o) X t hin hkn,show (i:Int)+1 =((i+1:Nat):Int) by omega];rw[ih m (i+1) (addX X t) _ _ (by omega) (by omega) (by omega) hX' (by rw[zp];exact h1) (λj hj=>?_) (by rw[zp];exact h3) (λk hk=>?_)]
   .rfl
   .rw[z01 _ _ _ _ r1 (by omega) (by omega),zg6 s o X t j hkn];by_cases ej:j=t.supply.toNat
    .rw[if_pos (by omega),if_pos ej,ej]
    .rw[if_neg (by omega),if_neg ej,h2 j hj];omega
   .rw[z01 _ _ _ _ r3 (by omega) (by omega),zg7 s o X t k hin];by_cases ej:k=t.order.toNat
    .rw[if_pos (by omega),if_pos ej,ej]
    .rw[if_neg (by omega),if_neg ej,h4 k hk];omega
theorem zrp(h:Val φ p s o)(l:List zi)(hl:l.length<=100000):z65 φ p s o l=some (bif okL s o (bF φ p s o) (λ_ _=>0) l then(zfh s o (cF φ p s o) (l.foldl addX λ_ _=>0),true,()) else(0,false,())):=by
 have hφ8:=h.hφ;have hol6:=h.ho;have hsl6:=h.hs;have hz:zev s o (cF φ p s o) (λ_ _=>0)=0:=z04 λi hi=>z04 λk hk=>Int.zero_mul _
 unfold z65;refine zw (λm i le=>z33 φ m s o l i p le) s.length (λi le=>le.length=i/\∀j:Nat,j<i->gt le (j:Int) =(gt s (j:Int)).count) (λr=>r=some (bif okL s o (bF φ p s o) (λ_ _=>0) l then(zfh s o (cF φ p s o) (l.foldl addX λ_ _=>0),true,()) else(0,false,()))) ?_ ?_ φ [] ⟨rfl,λj hj=>by omega⟩ (by omega)
 .rintro m i le hi ⟨h1,h2⟩ hs;have hW:W ((i:Int)+1) =(i:Int)+1:=W_id (by omega) (by omega);show z33 φ (m+1) s o l (i:Int) p le=_;rw[z33,if_pos (by simp;omega),z6 ⟨by omega,by omega⟩,z6 (by simp[fits];omega),hW];refine hs _ ⟨by simp[h1],λj hj=>?_⟩;by_cases e:j<i
  .rw[z7v _ _ _ (by omega) (by omega)];exact h2 j e
  .rw[z6c _ _ _ (by omega),show (j:Int)-(le.length:Int)=0 by omega,show j=i by omega];rfl
 .rintro m le ⟨h1,h2⟩;show z33 φ (m+1) s o l (s.length:Int) p le=_;rw[z33,if_neg (by simp)];refine zw (λm i op=>z34 φ m s o l i p le op) o.length (λi op=>op.length=i/\∀j:Nat,j<i->gt op (j:Int) =(gt o (j:Int)).count) (λr=>r=some (bif okL s o (bF φ p s o) (λ_ _=>0) l then(zfh s o (cF φ p s o) (l.foldl addX λ_ _=>0),true,()) else(0,false,()))) ?_ ?_ φ [] ⟨rfl,λj hj=>by omega⟩ (by omega)
  .rintro m i op hi ⟨h3,h4⟩ hs;have hW:W ((i:Int)+1) =(i:Int)+1:=W_id (by omega) (by omega);show z34 φ (m+1) s o l (i:Int) p le op=_;rw[z34,if_pos (by simp;omega),z6 ⟨by omega,by omega⟩,z6 (by simp[fits];omega),hW];refine hs _ ⟨by simp[h3],λj hj=>?_⟩;by_cases e:j<i
   .rw[z7v _ _ _ (by omega) (by omega)];exact h4 j e
   .rw[z6c _ _ _ (by omega),show (j:Int)-(op.length:Int)=0 by omega,show j=i by omega];rfl
  .rintro m op ⟨h3,h4⟩;show z34 φ (m+1) s o l (o.length:Int) p le op=_;rw[z34,if_neg (by simp)];have:=y4v h l hl (by omega) l.length φ 0 (λ_ _=>0) le op (by omega) (by omega) (by omega) h.poss0 h1 (λj hj=>by rw[h2 j hj];unfold z4q;rw[z2i];omega) h3 (λk hk=>by rw[h4 k hk];unfold z2d;rw[z2i];omega);rw[hz,w3v] at this;exact this
end
end Px
end
section
namespace Px
open Go
def z3o(s:List zc)(o:List zl)(a:Arc):Bool:=decide (a.from_<(s.length:Int))&&decide (a.to<nodU s o)
def trT(s:List zc)(o:List zl)(arcs:List Arc)(y:Nat->Int)(j:Nat):List zi:=bif z3o s o (gt arcs (j:Int))&&decide (0<y j) then [⟨(gt arcs (j:Int)).from_,(gt arcs (j:Int)).to-(s.length:Int),y j⟩] else []
def trsI(s:List zc)(o:List zl)(arcs:List Arc)(y:Nat->Int)(i:Nat):List zi:=(List.range i).flatMap (trT s o arcs y)
theorem zas(s:List zc)(o:List zl)(arcs:List Arc)(y:Nat->Int)(i:Nat):trsI s o arcs y (i+1)=trsI s o arcs y i++trT s o arcs y i:=by unfold trsI;rw[w1o,w1x];simp
theorem zfd{s:List zc}{o:List zl}{arcs:List Arc}{y z:Nat->Int}: ∀{i:Nat},(∀j,j<i->y j=z j)->trsI s o arcs y i=trsI s o arcs z i
 |0,_=>rfl
 |i+1,h=>by rw[zas,zas,zfd (i:=i) λj hj=>h j (by omega)];unfold trT;rw[h i (by omega)]
def XY(s:List zc)(o:List zl)(arcs:List Arc)(y:Nat->Int)(n:Nat)(i k:Nat):Int:=sumN n λj=>if z3o s o (gt arcs (j:Int))=true/\(gt arcs (j:Int)).from_ =(i:Int)/\(gt arcs (j:Int)).to =(s.length:Int)+(k:Int) then y j else 0
theorem zeu{n k0:Nat}(P:Nat->Prop)[DecidablePred P](x:Int)(hk:k0<n)(h:∀k,k<n->(P k↔k=k0)):(sumN n λk=>if P k then x else 0)=x:=by
 have:=z4g (λ_=>x) k0 n;rw[if_pos hk] at this;refine(zd λk hk'=>?_).trans this;by_cases e:k=k0
 .rw[if_pos ((h k hk').2 e),if_pos e]
 .rw[if_neg (λg=>e ((h k hk').1 g)),if_neg e]
section
variable{s:List zc}{o:List zl}{c:Nat->Nat->Int}{b:Nat->Nat->Bool}
theorem zgz(i k:Nat)(hi:i<s.length)(hk:k<o.length):z3o s o (arcQ s o c i k)=true:=by show (decide ((i:Int)<(s.length:Int))&&decide ((s.length:Int)+(k:Int)<nodU s o))=true;unfold nodU;simp;omega
theorem zmu(k:Nat):z3o s o (arcO (nodU s o) (s.length:Int) o k)=false:=by show (decide (nodU s o<(s.length:Int))&&_)=false;rw[show decide (nodU s o<(s.length:Int))=false by unfold nodU;simp;omega];rfl
theorem zp2(i:Nat):z3o s o (arcS (nodU s o) s i)=false:=by show (_&&decide (nodU s o+1<nodU s o))=false;rw[show decide (nodU s o+1<nodU s o)=false by simp;omega,Bool.and_false]
theorem zy4:z3o s o ⟨nodU s o,nodU s o+1,sumC o o.length,0⟩=false:=by show (_&&decide (nodU s o+1<nodU s o))=false;rw[show decide (nodU s o+1<nodU s o)=false by simp;omega,Bool.and_false]
theorem z5r{j:Nat}(hj:j<(z7 s o c b).length):(∃i k,i<s.length/\k<o.length/\b i k=true/\gt (z7 s o c b) (j:Int)=arcQ s o c i k)\/(∃k,k<o.length/\gt (z7 s o c b) (j:Int)=arcO (nodU s o) (s.length:Int) o k)\/(∃i,i<s.length/\gt (z7 s o c b) (j:Int)=arcS (nodU s o) s i)\/gt (z7 s o c b) (j:Int) =⟨nodU s o,nodU s o+1,sumC o o.length,0⟩:=zmd (z8s (by omega) (by omega))
theorem zcg{j:Nat}(hj:j<(z7 s o c b).length)(h:z3o s o (gt (z7 s o c b) (j:Int))=true):∃i k,i<s.length/\k<o.length/\b i k=true/\gt (z7 s o c b) (j:Int)=arcQ s o c i k:=by
 rcases z5r hj with h1|⟨k,hk,e⟩|⟨i,hi,e⟩|e
 .exact h1
 .rw[e,zmu] at h;cases h
 .rw[e,zp2] at h;cases h
 .rw[e,zy4] at h;cases h
theorem zqk(y:Nat->Int)(hy:∀j,j<(z7 s o c b).length->0<=y j):∀n:Nat,n<=(z7 s o c b).length->(trsI s o (z7 s o c b) y n).foldl addX (λ_ _=>0)=XY s o (z7 s o c b) y n
 |0,_=>rfl
 |n+1,hn=>by
  rw[zas,w3t,zqk y hy n (by omega)];have hy0:=hy n (by omega);funext i k;show _=XY s o (z7 s o c b) y n i k+if _ then y n else 0
  unfold trT;cases hp:z3o s o (gt (z7 s o c b) (n:Int)) with
  |false=>rw[if_neg (λg=>by cases g.1)];show XY s o (z7 s o c b) y n i k=_;omega
  |true=>
   obtain⟨i0,k0,hi0,hk0,hb,e⟩:=zcg (by omega) hp;by_cases h0:0<y n
   .have hd:decide (0<y n)=true:=by simpa using h0
    rw[hd];show addX (XY s o (z7 s o c b) y n) ⟨(gt (z7 s o c b) (n:Int)).from_,(gt (z7 s o c b) (n:Int)).to-(s.length:Int),y n⟩ i k=_;unfold addX;rw[e];show (if i =((i0:Int)).toNat/\k =((s.length:Int)+(k0:Int)-(s.length:Int)).toNat then _ else _)=_+if true=true/\(i0:Int) =(i:Int)/\(s.length:Int)+(k0:Int) =(s.length:Int)+(k:Int) then y n else 0
    by_cases g:i=i0/\k=k0
    .rw[if_pos (by omega),if_pos ⟨rfl,by omega,by omega⟩]
    .rw[if_neg (by omega),if_neg (by omega)];omega
   .have hd:decide (0<y n)=false:=by simpa using h0
    rw[hd];show XY s o (z7 s o c b) y n i k=_;have:y n=0:=by omega
    rw[this];split<;>omega
theorem yd4(y:Nat->Int)(i:Nat):∀n,n<=(z7 s o c b).length->(sumN o.length λk=>XY s o (z7 s o c b) y n i k)=sumN n λj=>if z3o s o (gt (z7 s o c b) (j:Int))=true/\(gt (z7 s o c b) (j:Int)).from_ =(i:Int) then y j else 0:=by
 intro n hn;unfold XY;rw[z7f];refine zd λj hj=>?_
 by_cases hp:z3o s o (gt (z7 s o c b) (j:Int))=true
 .obtain⟨i0,k0,hi0,hk0,hb,e⟩:=zcg (by omega) hp;by_cases hi :(gt (z7 s o c b) (j:Int)).from_ =(i:Int)
  .rw[if_pos ⟨hp,hi⟩];refine zeu _ _ hk0 λk hk=>?_
   rw[e];constructor
   .rintro⟨_,_,g⟩;have g :(s.length:Int)+(k0:Int) =(s.length:Int)+(k:Int):=g;omega
   .rintro rfl;rw[e] at hp hi;exact⟨hp,hi,rfl⟩
  .rw[if_neg (λg=>hi g.2)];exact z04 λk hk=>if_neg λg=>hi g.2.1
 .rw[if_neg (λg=>hp g.1)];exact z04 λk hk=>if_neg λg=>hp g.1
theorem y90(y:Nat->Int)(k:Nat):∀n,n<=(z7 s o c b).length->(sumN s.length λi=>XY s o (z7 s o c b) y n i k)=sumN n λj=>if z3o s o (gt (z7 s o c b) (j:Int))=true/\(gt (z7 s o c b) (j:Int)).to =(s.length:Int)+(k:Int) then y j else 0:=by
 intro n hn;unfold XY;rw[z7f];refine zd λj hj=>?_
 by_cases hp:z3o s o (gt (z7 s o c b) (j:Int))=true
 .obtain⟨i0,k0,hi0,hk0,hb,e⟩:=zcg (by omega) hp;by_cases hi :(gt (z7 s o c b) (j:Int)).to =(s.length:Int)+(k:Int)
  .rw[if_pos ⟨hp,hi⟩];refine zeu _ _ hi0 λi hi'=>?_
   rw[e];constructor
   .rintro⟨_,g,_⟩;have g :(i0:Int) =(i:Int):=g;omega
   .rintro rfl;rw[e] at hp hi;exact⟨hp,rfl,hi⟩
  .rw[if_neg (λg=>hi g.2)];exact z04 λk hk=>if_neg λg=>hi g.2.2
 .rw[if_neg (λg=>hp g.1)];exact z04 λk hk=>if_neg λg=>hp g.1
theorem y2f{P Q:Prop}[Decidable P][Decidable Q]{x:Int}(hx:0<=x)(h:P->Q):(if P then x else 0)<=if Q then x else 0:=by
 by_cases hp:P
 .rw[if_pos hp,if_pos (h hp)];omega
 .rw[if_neg hp];split<;>omega
theorem y6n{y:Nat->Int}(hf :(nwOf (netN s o c b)).Feas (atN (supN s o)) y){i:Nat}(hi:i<s.length):(sumN (z7 s o c b).length λj=>if(gt (z7 s o c b) (j:Int)).from_ =(i:Int) then y j else 0) =(gt s (i:Int)).count:=by
 have h:=hf.exc i (show i<(supN s o).length by rw[z63];omega);unfold Nw.exc at h;rw[zph hi] at h;have h1 :(nwOf (netN s o c b)).inS y i=0:=z04 λj hj=>if_neg λg=>by
  have g :(gt (z7 s o c b) (j:Int)).to.toNat=i:=g;rcases z5r (s:=s) (o:=o) (c:=c) (b:=b) (j:=j) hj with⟨i1,k1,a1,a2,a3,e⟩|⟨k,hk,e⟩|⟨i1,hi1,e⟩|e
  .rw[e] at g;have g :((s.length:Int)+(k1:Int)).toNat=i:=g;omega
  .rw[e] at g;have g :((s.length:Int)+(k:Int)).toNat=i:=g;omega
  .rw[e] at g;have g :(nodU s o+1).toNat=i:=g;unfold nodU at g;omega
  .rw[e] at g;have g :(nodU s o+1).toNat=i:=g;unfold nodU at g;omega
 have h2 :(nwOf (netN s o c b)).outS y i=sumN (z7 s o c b).length λj=>if(gt (z7 s o c b) (j:Int)).from_ =(i:Int) then y j else 0:=by
  refine zd λj hj=>?_
  have hj:j<(z7 s o c b).length:=hj;show (if(gt (z7 s o c b) (j:Int)).from_.toNat=i then y j else 0)=_;have :(gt (z7 s o c b) (j:Int)).from_.toNat=i↔(gt (z7 s o c b) (j:Int)).from_ =(i:Int):=by
   have hnn:0<=(gt (z7 s o c b) (j:Int)).from_:=by
    rcases z5r hj with⟨i1,k1,a1,a2,a3,e⟩|⟨k,hk,e⟩|⟨i1,hi1,e⟩|e
    .rw[e];show 0<=(i1:Int);omega
    .rw[e];show 0<=nodU s o;unfold nodU;omega
    .rw[e];show 0<=(i1:Int);omega
    .rw[e];show 0<=nodU s o;unfold nodU;omega
   omega
  by_cases g :(gt (z7 s o c b) (j:Int)).from_ =(i:Int)
  .rw[if_pos g,if_pos (this.2 g)]
  .rw[if_neg g,if_neg (λq=>g (this.1 q))]
 rw[h1,h2] at h;omega
theorem y1k{y:Nat->Int}(hf :(nwOf (netN s o c b)).Feas (atN (supN s o)) y){k:Nat}(hk:k<o.length):(sumN (z7 s o c b).length λj=>if(gt (z7 s o c b) (j:Int)).to =(s.length:Int)+(k:Int) then y j else 0) =(gt o (k:Int)).count:=by
 have h:=hf.exc (s.length+k) (show s.length+k<(supN s o).length by rw[z63];omega);unfold Nw.exc at h;rw[zpg hk] at h;have h1 :(nwOf (netN s o c b)).outS y (s.length+k)=0:=z04 λj hj=>if_neg λg=>by
  have g :(gt (z7 s o c b) (j:Int)).from_.toNat=s.length+k:=g;rcases z5r (s:=s) (o:=o) (c:=c) (b:=b) (j:=j) hj with⟨i1,k1,a1,a2,a3,e⟩|⟨k,hk,e⟩|⟨i1,hi1,e⟩|e
  .rw[e] at g;have g :((i1:Int)).toNat=s.length+k:=g;omega
  .rw[e] at g;have g :(nodU s o).toNat=s.length+_:=g;unfold nodU at g;omega
  .rw[e] at g;have g :((i1:Int)).toNat=s.length+k:=g;omega
  .rw[e] at g;have g :(nodU s o).toNat=s.length+_:=g;unfold nodU at g;omega
 have h2 :(nwOf (netN s o c b)).inS y (s.length+k)=sumN (z7 s o c b).length λj=>if(gt (z7 s o c b) (j:Int)).to =(s.length:Int)+(k:Int) then y j else 0:=by
  refine zd λj hj=>?_
  have hj:j<(z7 s o c b).length:=hj;show (if(gt (z7 s o c b) (j:Int)).to.toNat=s.length+k then y j else 0)=_;have :(gt (z7 s o c b) (j:Int)).to.toNat=s.length+k↔(gt (z7 s o c b) (j:Int)).to =(s.length:Int)+(k:Int):=by
   have hnn:0<=(gt (z7 s o c b) (j:Int)).to:=by
    rcases z5r hj with⟨i1,k1,a1,a2,a3,e⟩|⟨k,hk,e⟩|⟨i1,hi1,e⟩|e
    .rw[e];show 0<=(s.length:Int)+(k1:Int);omega
    .rw[e];show 0<=(s.length:Int)+(k:Int);omega
    .rw[e];show 0<=nodU s o+1;unfold nodU;omega
    .rw[e];show 0<=nodU s o+1;unfold nodU;omega
   omega
  by_cases g :(gt (z7 s o c b) (j:Int)).to =(s.length:Int)+(k:Int)
  .rw[if_pos g,if_pos (this.2 g)]
  .rw[if_neg g,if_neg (λq=>g (this.1 q))]
 rw[h1,h2] at h;omega
theorem zst{y:Nat->Int}(hf :(nwOf (netN s o c b)).Feas (atN (supN s o)) y):Poss s o b (XY s o (z7 s o c b) y (z7 s o c b).length) where
 pos:=λi k hi hk=>z1y λj hj=>by have:=(hf.bnd j hj).1;split<;>omega
 no:=λi k hi hk hb=>z04 λj hj=>if_neg λg=>by
  obtain⟨i0,k0,hi0,hk0,hb0,e⟩:=zcg hj g.1;rw[e] at g;have g1 :(i0:Int) =(i:Int):=g.2.1;have g2 :(s.length:Int)+(k0:Int) =(s.length:Int)+(k:Int):=g.2.2;have:i0=i:=by omega
  have:k0=k:=by omega
  subst i0;subst k0;rw[hb] at hb0;cases hb0
 row:=λi hi=>by rw[yd4 y i _ (w0x _),<- y6n hf hi];exact zdf λj hj=>y2f (hf.bnd j hj).1 λg=>g.2
 col:=λk hk=>by rw[y90 y k _ (w0x _),<- y1k hf hk];exact zdf λj hj=>y2f (hf.bnd j hj).1 λg=>g.2
theorem zss{y:Nat->Int}(hf :(nwOf (netN s o c b)).Feas (atN (supN s o)) y):zfh s o c (XY s o (z7 s o c b) y (z7 s o c b).length) =(nwOf (netN s o c b)).costS y:=by
 unfold zfh;have e1 :(sumN s.length λi=>sumN o.length λk=>XY s o (z7 s o c b) y (z7 s o c b).length i k*c i k)=sumN (z7 s o c b).length λj=>if z3o s o (gt (z7 s o c b) (j:Int))=true then y j*(gt (z7 s o c b) (j:Int)).cost else 0:=by
  have h1:∀i k,XY s o (z7 s o c b) y (z7 s o c b).length i k*c i k=sumN (z7 s o c b).length λj=>if z3o s o (gt (z7 s o c b) (j:Int))=true/\(gt (z7 s o c b) (j:Int)).from_ =(i:Int)/\(gt (z7 s o c b) (j:Int)).to =(s.length:Int)+(k:Int) then y j*(gt (z7 s o c b) (j:Int)).cost else 0:=λi k=>by
   unfold XY;rw[w29,<- zhd];refine zd λj hj=>?_
   rw[zkx];by_cases g:z3o s o (gt (z7 s o c b) (j:Int))=true/\(gt (z7 s o c b) (j:Int)).from_ =(i:Int)/\(gt (z7 s o c b) (j:Int)).to =(s.length:Int)+(k:Int)
   .rw[if_pos g,if_pos g];obtain⟨i0,k0,hi0,hk0,hb0,e⟩:=zcg hj g.1;rw[e] at g;have g1 :(i0:Int) =(i:Int):=g.2.1;have g2 :(s.length:Int)+(k0:Int) =(s.length:Int)+(k:Int):=g.2.2;have:i0=i:=by omega
    have:k0=k:=by omega
    subst i0;subst k0;rw[e,w29];rfl
   .rw[if_neg g,if_neg g]
  rw[zd λi hi=>zd λk hk=>h1 i k];rw[zd λi hi=>z7f _ _ _,z7f];refine zd λj hj=>?_
  by_cases hp:z3o s o (gt (z7 s o c b) (j:Int))=true
  .obtain⟨i0,k0,hi0,hk0,hb0,e⟩:=zcg hj hp;rw[if_pos hp];have:∀i,i<s.length->(sumN o.length λk=>if z3o s o (gt (z7 s o c b) (j:Int))=true/\(gt (z7 s o c b) (j:Int)).from_ =(i:Int)/\(gt (z7 s o c b) (j:Int)).to =(s.length:Int)+(k:Int) then y j*(gt (z7 s o c b) (j:Int)).cost else 0)=if i=i0 then y j*(gt (z7 s o c b) (j:Int)).cost else 0:=λi hi=>by
    by_cases ei:i=i0
    .rw[if_pos ei];refine zeu _ _ hk0 λk hk=>?_
     rw[e];constructor
     .rintro⟨_,_,g⟩;have g :(s.length:Int)+(k0:Int) =(s.length:Int)+(k:Int):=g;omega
     .rintro rfl;rw[e] at hp;exact⟨hp,by rw[ei];rfl,rfl⟩
    .rw[if_neg ei];exact z04 λk hk=>if_neg λg=>by rw[e] at g;have g1 :(i0:Int) =(i:Int):=g.2.1;omega
   rw[zd this];exact zeu _ _ hi0 λi hi=>Iff.rfl
  .rw[if_neg hp];exact z04 λi hi=>z04 λk hk=>if_neg λg=>hp g.1
 have e2:∀k,k<o.length->z2d s o (XY s o (z7 s o c b) y (z7 s o c b).length) k=sumN (z7 s o c b).length λj=>if ¬z3o s o (gt (z7 s o c b) (j:Int))=true/\(gt (z7 s o c b) (j:Int)).to =(s.length:Int)+(k:Int) then y j else 0:=λk hk=>by
  unfold z2d;rw[y90 y k _ (w0x _),<- y1k hf hk,<- z7e];refine zd λj hj=>?_
  by_cases g :(gt (z7 s o c b) (j:Int)).to =(s.length:Int)+(k:Int)
  .by_cases hp:z3o s o (gt (z7 s o c b) (j:Int))=true
   .rw[if_pos g,if_pos ⟨hp,g⟩,if_neg (λq=>q.1 hp)];omega
   .rw[if_pos g,if_neg (λq=>hp q.1),if_pos ⟨hp,g⟩];omega
  .rw[if_neg g,if_neg (λq=>g q.2),if_neg (λq=>g q.2)];rfl
 have e3 :(sumN o.length λk=>z2d s o (XY s o (z7 s o c b) y (z7 s o c b).length) k*(gt o (k:Int)).weight)=sumN (z7 s o c b).length λj=>if ¬z3o s o (gt (z7 s o c b) (j:Int))=true then y j*(gt (z7 s o c b) (j:Int)).cost else 0:=by
  have h1:∀k,k<o.length->z2d s o (XY s o (z7 s o c b) y (z7 s o c b).length) k*(gt o (k:Int)).weight=sumN (z7 s o c b).length λj=>if ¬z3o s o (gt (z7 s o c b) (j:Int))=true/\(gt (z7 s o c b) (j:Int)).to =(s.length:Int)+(k:Int) then y j*(gt (z7 s o c b) (j:Int)).cost else 0:=λk hk=>by
   rw[e2 k hk,w29,<- zhd];refine zd λj hj=>?_
   rw[zkx];by_cases g:¬z3o s o (gt (z7 s o c b) (j:Int))=true/\(gt (z7 s o c b) (j:Int)).to =(s.length:Int)+(k:Int)
   .rw[if_pos g,if_pos g,w29];congr 1;rcases z5r hj with⟨i1,k1,a1,a2,a3,e⟩|⟨k1,hk1,e⟩|⟨i1,hi1,e⟩|e
    .exact absurd (by rw[e];exact zgz i1 k1 a1 a2) g.1
    .rw[e] at g⊢;have g2 :(s.length:Int)+(k1:Int) =(s.length:Int)+(k:Int):=g.2;have:k1=k:=by omega
     subst k1;rfl
    .rw[e] at g;have g2:nodU s o+1 =(s.length:Int)+(k:Int):=g.2;unfold nodU at g2;omega
    .rw[e] at g;have g2:nodU s o+1 =(s.length:Int)+(k:Int):=g.2;unfold nodU at g2;omega
   .rw[if_neg g,if_neg g]
  rw[zd h1,z7f];refine zd λj hj=>?_
  by_cases hp:z3o s o (gt (z7 s o c b) (j:Int))=true
  .rw[if_neg (λg=>g hp)];exact z04 λk hk=>if_neg λg=>g.1 hp
  .rw[if_pos hp];rcases z5r hj with⟨i1,k1,a1,a2,a3,e⟩|⟨k1,hk1,e⟩|⟨i1,hi1,e⟩|e
   .exact absurd (by rw[e];exact zgz i1 k1 a1 a2) hp
   .refine zeu _ _ hk1 λk hk=>?_
    rw[e];constructor
    .rintro⟨_,g⟩;have g :(s.length:Int)+(k1:Int) =(s.length:Int)+(k:Int):=g;omega
    .rintro rfl;rw[e] at hp;exact⟨hp,rfl⟩
   .rw[e];refine(z04 λk hk=>?_).trans (w4b (y j)).symm;split
    .exact w4b _
    .rfl
   .rw[e];refine(z04 λk hk=>?_).trans (w4b (y j)).symm;split
    .exact w4b _
    .rfl
 rw[e1,e3,<- z7d];refine zd λj hj=>?_
 show _=y j*(gt (z7 s o c b) (j:Int)).cost;by_cases hp:z3o s o (gt (z7 s o c b) (j:Int))=true
 .rw[if_pos hp,if_neg (λg=>g hp)];omega
 .rw[if_neg hp,if_pos hp];omega
theorem y1n{l:List zi}: ∀{X:Nat->Nat->Int},(∀t∈l,(0<=t.supply/\t.supply<(s.length:Int))/\(0<=t.order/\t.order<(o.length:Int))/\0<=t.count)->
  (∀i,z4q s o (l.foldl addX X) i<=z4q s o X i)/\∀k,z2d s o (l.foldl addX X) k<=z2d s o X k:=by
 induction l with
 |nil=>intro X _;exact⟨λ_=>w1i _,λ_=>w1i _⟩
 |cons t l ih=>
  intro X h;obtain⟨⟨a1,a2⟩,⟨a3,a4⟩,a5⟩:=h t (by simp);obtain⟨h1,h2⟩:=ih (X:=addX X t) λu hu=>h u (w09 _ hu)
  refine⟨λi=>?_,λk=>?_⟩
  .have:=h1 i
   rw[zg6 s o X t i (by omega)] at this;show z4q s o (l.foldl addX (addX X t)) i<=_;split at this<;>omega
  .have:=h2 k
   rw[zg7 s o X t k (by omega)] at this;show z2d s o (l.foldl addX (addX X t)) k<=_;split at this<;>omega
theorem ye5{l:List zi}: ∀{X:Nat->Nat->Int},(∀t∈l,((0<=t.supply/\t.supply<(s.length:Int))/\(0<=t.order/\t.order<(o.length:Int))/\0<=t.count)/\b t.supply.toNat t.order.toNat=true)->
  (∀i,i<s.length->0<=z4q s o (l.foldl addX X) i)->(∀k,k<o.length->0<=z2d s o (l.foldl addX X) k)->okL s o b X l=true:=by
 induction l with
 |nil=>intro X _ _ _;rfl
 |cons t l ih=>
  intro X h h1 h2;obtain⟨⟨⟨a1,a2⟩,⟨a3,a4⟩,a5⟩,a6⟩:=h t (by simp);obtain⟨g1,g2⟩:=y1n (s:=s) (o:=o) (l:=l) (X:=addX X t) λu hu=>(h u (w09 _ hu)).1
  unfold okL;rw[w02];refine⟨zbt.2 ⟨⟨⟨a1,a2⟩,a3,a4⟩,a6,a5,?_,?_⟩,ih (λu hu=>h u (w09 _ hu)) h1 h2⟩
  .have e1:=g1 t.supply.toNat;have e2:0<=z4q s o (l.foldl addX (addX X t)) t.supply.toNat:=h1 t.supply.toNat (by omega);rw[zg6 s o X t _ (by omega),if_pos rfl] at e1;omega
  .have e1:=g2 t.order.toNat;have e2:0<=z2d s o (l.foldl addX (addX X t)) t.order.toNat:=h2 t.order.toNat (by omega);rw[zg7 s o X t _ (by omega),if_pos rfl] at e1;omega
theorem ycy{y:Nat->Int}{n:Nat}(hn:n<=(z7 s o c b).length){t:zi}(ht:t∈trsI s o (z7 s o c b) y n):((0<=t.supply/\t.supply<(s.length:Int))/\(0<=t.order/\t.order<(o.length:Int))/\0<=t.count)/\b t.supply.toNat t.order.toNat=true:=by
 unfold trsI at ht;obtain⟨j,hj,ht⟩:=w1p.1 ht;have hj:=w0l.1 hj;unfold trT at ht;cases hp :(z3o s o (gt (z7 s o c b) (j:Int))&&decide (0<y j)) with
 |false=>rw[hp] at ht;cases ht
 |true=>rw[hp] at ht;have ht:=w0d.1 ht;rw[w02,decide_eq_true_eq] at hp;obtain⟨i0,k0,hi0,hk0,hb0,e⟩:=zcg (by omega) hp.1;rw[e] at ht;subst ht;show ((0<=(i0:Int)/\(i0:Int)<(s.length:Int))/\(0<=(s.length:Int)+(k0:Int)-(s.length:Int)/\(s.length:Int)+(k0:Int)-(s.length:Int)<(o.length:Int))/\0<=y j)/\b ((i0:Int)).toNat ((s.length:Int)+(k0:Int)-(s.length:Int)).toNat=true;refine⟨⟨⟨by omega,by omega⟩,⟨by omega,by omega⟩,by omega⟩,?_⟩;rw[show ((i0:Int)).toNat=i0 by omega,show ((s.length:Int)+(k0:Int)-(s.length:Int)).toNat=k0 by omega];exact hb0
theorem y6e{y:Nat->Int}(hf :(nwOf (netN s o c b)).Feas (atN (supN s o)) y):okL s o b (λ_ _=>0) (trsI s o (z7 s o c b) y (z7 s o c b).length)=true:=by
 have hp:=zst hf;have hfold:=zqk (s:=s) (o:=o) (c:=c) (b:=b) y (λj hj=>(hf.bnd j hj).1) _ (w0x _);refine ye5 (λt ht=>ycy (w0x _) ht) (λi hi=>?_) (λk hk=>?_)
 .rw[hfold];have:=hp.row i hi;unfold z4q;omega
 .rw[hfold];have:=hp.col k hk;unfold z2d;omega
theorem zwf(y:Nat->Int):∀n,(trsI s o (z7 s o c b) y n).length<=n
 |0=>by simp[trsI]
 |n+1=>by
  rw[zas,w0i];have:=zwf y n;have :(trT s o (z7 s o c b) y n).length<=1:=by unfold trT;cases (z3o s o (gt (z7 s o c b) (n:Int))&&decide (0<y n))<;>simp
  omega
end
theorem y4w{φ:Nat}{p:Pool}{s:List zc}{o:List zl}(h:Val φ p s o){y:Nat->Int}(hf :(nwOf (netF φ p s o)).Feas (atN (netF φ p s o).supply) y):
  z65 φ p s o (trsI s o (netF φ p s o).arcs y (netF φ p s o).arcs.length)=some ((nwOf (netF φ p s o)).costS y,true,()):=by
 have hl:=zwf (s:=s) (o:=o) (c:=cF φ p s o) (b:=bF φ p s o) y (z7 s o (cF φ p s o) (bF φ p s o)).length;have hal:=z8p s o (cF φ p s o) (bF φ p s o) h.hs h.ho;rw[show (netF φ p s o).arcs=z7 s o (cF φ p s o) (bF φ p s o) from rfl,zrp h _ (by omega),y6e hf,zqk y (λj hj=>(hf.bnd j hj).1) _ (w0x _),zss hf];rfl
theorem zzz{φ:Nat}{p:Pool}{s:List zc}{o:List zl}(h:Val φ p s o){l:List zi}(hl:l.length<=100000):∃c b,z65 φ p s o l=some (c,b,())/\(b=true->∃y,(nwOf (netF φ p s o)).Feas (atN (netF φ p s o).supply) y/\(nwOf (netF φ p s o)).costS y=c):=by
 rw[zrp h l hl];cases hok:okL s o (bF φ p s o) (λ_ _=>0) l with
 |false=>exact⟨0,false,rfl,λe=>by cases e⟩
 |true=>have hp:=zxx h.poss0 hok;exact⟨_,true,rfl,λ_=>⟨_,hp.feas,hp.cost⟩⟩
end Px
end
section
namespace Px
open Go
def yd2(s:List zc)(o:List zl)(a a':Arc):Prop:=(z3o s o a=true->z3o s o a'=true->¬(a'.from_=a.from_/\a'.to=a.to))/\(z3o s o a=false->a.to<nodU s o->a'.to≠a.to)/\(z3o s o a=false->¬a.to<nodU s o->a'.from_≠a.from_)
section
variable{s:List zc}{o:List zl}{c:Nat->Nat->Int}{b:Nat->Nat->Bool}
theorem y2i :(z7 s o c b).Pairwise (yd2 s o):=by
 have hq:∀{a:Arc},a∈zmv s o c b->∃i k,i<s.length/\k<o.length/\a=arcQ s o c i k:=λ{a}h=>by
  unfold zmv arcR at h;obtain⟨i,hi,h⟩:=w1p.1 h;obtain⟨k,hk,h⟩:=w1p.1 h;unfold arcP at h;cases hb:b i k with
  |true=>rw[hb] at h;exact⟨i,k,w0l.1 hi,w0l.1 hk,w0d.1 h⟩
  |false=>rw[hb] at h;cases h
 unfold z7;rw[w4s];refine⟨?_,w3m _ _,?_⟩
 .rw[w4s];refine⟨?_,?_,?_⟩
  .rw[w4s];refine⟨?_,?_,?_⟩
   .unfold zmv;rw[List.pairwise_flatMap];refine⟨λi hi=>?_,?_⟩
    .unfold arcR;rw[List.pairwise_flatMap];refine⟨λk hk=>?_,?_⟩
     .unfold arcP;cases b i k
      .exact List.Pairwise.nil
      .exact w3m _ _
     .refine List.Pairwise.imp_of_mem ?_ (w3r (n:=o.length));intro k1 k2 hk1 hk2 hlt x hx y hy;unfold arcP at hx hy;cases hb1:b i k1 with
      |false=>rw[hb1] at hx;cases hx
      |true=>
       cases hb2:b i k2 with
       |false=>rw[hb2] at hy;cases hy
       |true=>
        rw[hb1] at hx;rw[hb2] at hy;have hx:=w0d.1 hx;have hy:=w0d.1 hy;have hp:=zgz (c:=c) i k1 (w0l.1 hi) (w0l.1 hk1);subst hx;subst hy;refine⟨λ_ _ g=>?_,λg=>?_,λg=>?_⟩
        .have g2 :(s.length:Int)+(k2:Int) =(s.length:Int)+(k1:Int):=g.2;omega
        .unfold arcQ at hp;rw[hp] at g;cases g
        .unfold arcQ at hp;rw[hp] at g;cases g
    .refine List.Pairwise.imp_of_mem ?_ (w3r (n:=s.length));intro i1 i2 hi1 hi2 hlt x hx y hy;unfold arcR at hx hy;obtain⟨k1,hk1,hx⟩:=w1p.1 hx;obtain⟨k2,hk2,hy⟩:=w1p.1 hy;unfold arcP at hx hy;cases hb1:b i1 k1 with
     |false=>rw[hb1] at hx;cases hx
     |true=>
      cases hb2:b i2 k2 with
      |false=>rw[hb2] at hy;cases hy
      |true=>
       rw[hb1] at hx;rw[hb2] at hy;have hx:=w0d.1 hx;have hy:=w0d.1 hy;have hp:=zgz (c:=c) i1 k1 (w0l.1 hi1) (w0l.1 hk1);subst hx;subst hy;refine⟨λ_ _ g=>?_,λg=>?_,λg=>?_⟩
       .have g2 :(i2:Int) =(i1:Int):=g.1;omega
       .unfold arcQ at hp;rw[hp] at g;cases g
       .unfold arcQ at hp;rw[hp] at g;cases g
   .rw[w3s];refine List.Pairwise.imp_of_mem ?_ (w3r (n:=o.length));intro k1 k2 hk1 hk2 hlt;refine⟨λg=>(by rw[zmu] at g;cases g),λ_ _ g=>?_,λ_ g=>?_⟩
    .have g2 :(s.length:Int)+(k2:Int) =(s.length:Int)+(k1:Int):=g;omega
    .have:=w0l.1 hk1
     exact absurd (show (s.length:Int)+(k1:Int)<nodU s o by unfold nodU;omega) g
   .intro x hx y hy;obtain⟨i,k,hi,hk,e⟩:=hq hx;have hp:=zgz (c:=c) i k hi hk;obtain⟨k2,hk2,e2⟩:=w0h.1 hy;subst e;subst e2;exact⟨λ_ g=>(by rw[zmu] at g;cases g),λg=>(by rw[hp] at g;cases g),λg=>(by rw[hp] at g;cases g)⟩
  .rw[w3s];refine List.Pairwise.imp_of_mem ?_ (w3r (n:=s.length));intro k1 k2 hk1 hk2 hlt;refine⟨λg=>(by rw[zp2] at g;cases g),λ_ g=>?_,λ_ _ g=>?_⟩
   .have g:nodU s o+1<nodU s o:=g;omega
   .have g2 :(k2:Int) =(k1:Int):=g;omega
  .intro x hx y hy;obtain⟨i,hi,e⟩:=w0h.1 hy;subst e;rcases w0k.1 hx with hx|hx
   .obtain⟨i,k,hi,hk,e⟩:=hq hx;have hp:=zgz (c:=c) i k hi hk;subst e;exact⟨λ_ g=>(by rw[zp2] at g;cases g),λg=>(by rw[hp] at g;cases g),λg=>(by rw[hp] at g;cases g)⟩
   .obtain⟨k,hk,e⟩:=w0h.1 hx;have hk:=w0l.1 hk;subst e;refine⟨λg=>(by rw[zmu] at g;cases g),λ_ _ g=>?_,λ_ g=>?_⟩
    .have g2:nodU s o+1 =(s.length:Int)+(k:Int):=g;unfold nodU at g2;omega
    .exact absurd (show (s.length:Int)+(k:Int)<nodU s o by unfold nodU;omega) g
 .intro x hx y hy;have hy:=w0d.1 hy;subst hy;rcases w0k.1 hx with hx|hx
  .rcases w0k.1 hx with hx|hx
   .obtain⟨i,k,hi,hk,e⟩:=hq hx;have hp:=zgz (c:=c) i k hi hk;subst e;exact⟨λ_ g=>(by rw[zy4] at g;cases g),λg=>(by rw[hp] at g;cases g),λg=>(by rw[hp] at g;cases g)⟩
   .obtain⟨k,hk,e⟩:=w0h.1 hx;have hk:=w0l.1 hk;subst e;refine⟨λg=>(by rw[zmu] at g;cases g),λ_ _ g=>?_,λ_ g=>?_⟩
    .have g2:nodU s o+1 =(s.length:Int)+(k:Int):=g;unfold nodU at g2;omega
    .exact absurd (show (s.length:Int)+(k:Int)<nodU s o by unfold nodU;omega) g
  .obtain⟨i,hi,e⟩:=w0h.1 hx;have hi:=w0l.1 hi;subst e;refine⟨λg=>(by rw[zp2] at g;cases g),λ_ g=>?_,λ_ _ g=>?_⟩
   .have g:nodU s o+1<nodU s o:=g;omega
   .have g2:nodU s o =(i:Int):=g;unfold nodU at g2;omega
theorem y71{i j:Nat}(hij:i<j)(hj:j<(z7 s o c b).length):yd2 s o (gt (z7 s o c b) (i:Int)) (gt (z7 s o c b) (j:Int)):=by rw[z3l (by omega),z3l hj];exact List.pairwise_iff_getElem.1 y2i i j (by omega) hj hij
end
def zg3(s:List zc)(o:List zl)(a:Arc)(rest:List Int)(l:List zi):Option (Int×List zi):=
 if z3o s o a=true then(match l with
  |t::l'=>if t.supply=a.from_/\t.order=a.to-(s.length:Int) then(if t.count<1\/gt rest a.from_<t.count\/- gt rest a.to<t.count then none else some (t.count,l')) else some (0,l)
  | []=>some (0,[]))
 else if a.from_=nodU s o/\a.to<nodU s o then some (- gt rest a.to,l) else some (gt rest a.from_,l)
def znx(rest:List Int)(a:Arc)(z:Int):List Int:=zu (zu rest a.from_ (gt rest a.from_-z)) a.to (gt (zu rest a.from_ (gt rest a.from_-z)) a.to+z)
structure FI(s:List zc)(o:List zl)(c:Nat->Nat->Int)(b:Nat->Nat->Bool)(l0:List zi)(i:Nat)(x:List Int)(l:List zi)(rest:List Int):Prop where
 len:rest.length=s.length+o.length+2
 xl:x.length=i
 val:∀v:Nat,v<s.length+o.length+2->atN rest v=atN (supN s o) v-outP (netN s o c b) (atN x) i v+inP (netN s o c b) (atN x) i v
 b1:∀v:Nat,v<s.length->0<=atN rest v/\atN rest v<=4096
 b2:∀k:Nat,k<o.length->-1000<=atN rest (s.length+k)/\atN rest (s.length+k)<=0
 b3 : -(30000+5000*(i:Int))<=atN rest (s.length+o.length)/\atN rest (s.length+o.length)<=30000+5000*(i:Int)
 b4 : -(30000+300000*(i:Int))<=atN rest (s.length+o.length+1)/\atN rest (s.length+o.length+1)<=30000+300000*(i:Int)
 tr:l0=trsI s o (z7 s o c b) (atN x) i++l
theorem zwr{x:List Int}{z:Int}{j:Nat}(h:j<x.length):atN (x++[z]) j=atN x j:=z7v _ _ _ (by omega) (by omega)
theorem zwp(x:List Int)(z:Int):atN (x++[z]) x.length=z:=by unfold atN;rw[z6c _ _ _ (by omega),Int.sub_self];rfl
theorem y78{rest:List Int}{a:Arc}{z:Int}(h1:0<=a.from_)(h2:a.from_<(rest.length:Int))(h3:0<=a.to)(h4:a.to<(rest.length:Int))(h5:a.from_≠a.to)(v:Nat):
  atN (znx rest a z) v=atN rest v-(if a.from_.toNat=v then z else 0)+if a.to.toNat=v then z else 0:=by
 unfold znx atN;have f2:=z01 rest a.from_ a.to (gt rest a.from_-z) h1 h2 h3;rw[z01 _ _ (v:Int) _ h3 (by rw[zp];exact h4) (by omega),f2,z01 _ _ (v:Int) _ h1 h2 (by omega)];by_cases e1 :(v:Int)=a.to
 .rw[if_pos e1,if_neg (λe=>h5 e.symm),if_neg (by omega),if_pos (by omega),<- e1];omega
 .rw[if_neg e1];by_cases e2 :(v:Int)=a.from_
  .rw[if_pos e2,if_pos (by omega),if_neg (by omega),<- e2];omega
  .rw[if_neg e2,if_neg (by omega),if_neg (by omega)];omega
section
variable{φ:Nat}{p:Pool}{s:List zc}{o:List zl}{c:Nat->Nat->Int}{b:Nat->Nat->Bool}
theorem FI.move(hs:s.length<=6)(ho:o.length<=6){l0:List zi}{i:Nat}{x:List Int}{l:List zi}{rest:List Int}(h:FI s o c b l0 i x l rest)(hi:i<(z7 s o c b).length){z:Int}{l':List zi}(hz:zg3 s o (gt (z7 s o c b) (i:Int)) rest l=some (z,l')):
  FI s o c b l0 (i+1) (x++[z]) l' (znx rest (gt (z7 s o c b) (i:Int)) z)/\-1000000<=z/\z<=1000000:=by
 have hal:=z8p s o c b hs ho;have hx:∀j,j<i->atN (x++[z]) j=atN x j:=λj hj=>zwr (by rw[h.xl];exact hj)
 have hxi:atN (x++[z]) i=z:=by rw[<- h.xl];exact zwp x z
 have hcg:∀v,outP (netN s o c b) (atN (x++[z])) (i+1) v=outP (netN s o c b) (atN x) i v+if(gt (z7 s o c b) (i:Int)).from_.toNat=v then z else 0:=λv=>by unfold outP;show _+(if _ then atN (x++[z]) i else 0)=_;rw[hxi];congr 1;exact zd λj hj=>by rw[hx j hj]
 have hcg2:∀v,inP (netN s o c b) (atN (x++[z])) (i+1) v=inP (netN s o c b) (atN x) i v+if(gt (z7 s o c b) (i:Int)).to.toNat=v then z else 0:=λv=>by unfold inP;show _+(if _ then atN (x++[z]) i else 0)=_;rw[hxi];congr 1;exact zd λj hj=>by rw[hx j hj]
 have htr:trsI s o (z7 s o c b) (atN (x++[z])) (i+1)=trsI s o (z7 s o c b) (atN x) i++(bif z3o s o (gt (z7 s o c b) (i:Int))&&decide (0<z) then [⟨(gt (z7 s o c b) (i:Int)).from_,(gt (z7 s o c b) (i:Int)).to-(s.length:Int),z⟩] else []):=by rw[zas,zfd hx];unfold trT;rw[hxi]
 have mv:=λh1 h2 h3 h4 h5=>y78 (rest:=rest) (a:=gt (z7 s o c b) (i:Int)) (z:=z) h1 h2 h3 h4 h5
 have hlen :(znx rest (gt (z7 s o c b) (i:Int)) z).length=s.length+o.length+2:=by unfold znx;rw[zp,zp,h.len]
 have hxl :(x++[z]).length=i+1:=by simp[h.xl]
 have hval :(∀v,atN (znx rest (gt (z7 s o c b) (i:Int)) z) v=atN rest v-(if(gt (z7 s o c b) (i:Int)).from_.toNat=v then z else 0)+if(gt (z7 s o c b) (i:Int)).to.toNat=v then z else 0)->
   ∀v:Nat,v<s.length+o.length+2->atN (znx rest (gt (z7 s o c b) (i:Int)) z) v=atN (supN s o) v-outP (netN s o c b) (atN (x++[z])) (i+1) v+inP (netN s o c b) (atN (x++[z])) (i+1) v:=λhm v hv=>by
  rw[hm v,hcg v,hcg2 v,h.val v hv];omega
 rcases z5r hi with⟨i0,k0,hi0,hk0,hb0,e⟩|⟨k0,hk0,e⟩|⟨i0,hi0,e⟩|e
 .have hp:=zgz (c:=c) i0 k0 hi0 hk0;have hr1:=h.b1 i0 hi0;have hr2:=h.b2 k0 hk0;have hm:=mv (by rw[e];show 0<=(i0:Int);omega) (by rw[e,h.len];show (i0:Int)<_;omega) (by rw[e];show 0<=(s.length:Int)+(k0:Int);omega) (by rw[e,h.len];show (s.length:Int)+(k0:Int)<_;omega) (by rw[e];show (i0:Int)≠(s.length:Int)+(k0:Int);omega);have hf :(gt (z7 s o c b) (i:Int)).from_.toNat=i0:=by rw[e];show ((i0:Int)).toNat=i0;omega
  have ht :(gt (z7 s o c b) (i:Int)).to.toNat=s.length+k0:=by rw[e];show ((s.length:Int)+(k0:Int)).toNat=_;omega
  have hzz :(0<=z/\z<=atN rest i0/\z<=- atN rest (s.length+k0))/\l =(bif decide (0<z) then [⟨(i0:Int),(s.length:Int)+(k0:Int)-(s.length:Int),z⟩] else [])++l':=by
   rw[e] at hz;unfold zg3 at hz;rw[if_pos hp] at hz;have a1 :(arcQ s o c i0 k0).from_ =(i0:Int):=rfl;have a2 :(arcQ s o c i0 k0).to =(s.length:Int)+(k0:Int):=rfl;have a3:gt rest ((s.length:Int)+(k0:Int))=atN rest (s.length+k0):=by unfold atN;congr 1
   have a4:gt rest (i0:Int)=atN rest i0:=rfl;cases l with
   |nil=>simp only[w00,w0b] at hz;obtain⟨rfl,rfl⟩:=hz;exact⟨by omega,rfl⟩
   |cons t l2=>
    simp only at hz;rw[a1,a2,a3,a4] at hz;by_cases g:t.supply =(i0:Int)/\t.order =(s.length:Int)+(k0:Int)-(s.length:Int)
    .rw[if_pos g] at hz;by_cases g2:t.count<1\/atN rest i0<t.count\/- atN rest (s.length+k0)<t.count
     .rw[if_pos g2] at hz;cases hz
     .rw[if_neg g2] at hz;simp only[w00,w0b] at hz;obtain⟨rfl,rfl⟩:=hz;refine⟨by omega,?_⟩;have:decide (0<t.count)=true:=by simp;omega
      rw[this,cond_true,<- g.1,<- g.2];rfl
    .rw[if_neg g] at hz;simp only[w00,w0b] at hz;obtain⟨rfl,rfl⟩:=hz;exact⟨by omega,rfl⟩
  obtain⟨⟨z1,z2,z3⟩,hl⟩:=hzz;refine⟨⟨hlen,hxl,hval hm,λv hv=>?_,λk hk=>?_,?_,?_,?_⟩,by omega,by omega⟩
  .rw[hm v,hf,ht];have:=h.b1 v hv;by_cases g:i0=v
   .subst g;rw[if_pos rfl,if_neg (by omega)];omega
   .rw[if_neg g,if_neg (by omega)];omega
  .rw[hm,hf,ht];have:=h.b2 k hk;by_cases g:k0=k
   .subst g;rw[if_pos rfl,if_neg (by omega)];omega
   .rw[if_neg (by omega),if_neg (by omega)];omega
  .rw[hm,hf,ht,if_neg (by omega),if_neg (by omega)];have:=h.b3;push_cast;omega
  .rw[hm,hf,ht,if_neg (by omega),if_neg (by omega)];have:=h.b4;push_cast;omega
  .rw[h.tr,htr,hl,e,hp,w2l,w0q];rfl
 .have hp:=zmu (s:=s) (o:=o) k0;have hr2:=h.b2 k0 hk0;have hm:=mv (by rw[e];show 0<=nodU s o;unfold nodU;omega) (by rw[e,h.len];show nodU s o<_;unfold nodU;omega) (by rw[e];show 0<=(s.length:Int)+(k0:Int);omega) (by rw[e,h.len];show (s.length:Int)+(k0:Int)<_;omega) (by rw[e];show nodU s o≠(s.length:Int)+(k0:Int);unfold nodU;omega);have hf :(gt (z7 s o c b) (i:Int)).from_.toNat=s.length+o.length:=by rw[e];exact zgw
  have ht :(gt (z7 s o c b) (i:Int)).to.toNat=s.length+k0:=by rw[e];show ((s.length:Int)+(k0:Int)).toNat=_;omega
  have hzz:z=- atN rest (s.length+k0)/\l=l':=by rw[e] at hz;unfold zg3 at hz;rw[hp,if_neg (by simp),if_pos ⟨rfl,show (s.length:Int)+(k0:Int)<nodU s o by unfold nodU;omega⟩] at hz;simp only[w00,w0b] at hz;refine⟨?_,hz.2⟩;rw[<- hz.1];show-gt rest ((s.length:Int)+(k0:Int))=_;unfold atN;congr 2
  obtain⟨z1,rfl⟩:=hzz;refine⟨⟨hlen,hxl,hval hm,λv hv=>?_,λk hk=>?_,?_,?_,?_⟩,by omega,by omega⟩
  .rw[hm v,hf,ht,if_neg (by omega),if_neg (by omega)];have:=h.b1 v hv;omega
  .rw[hm,hf,ht];have:=h.b2 k hk;by_cases g:k0=k
   .subst g;rw[if_pos rfl,if_neg (by omega)];omega
   .rw[if_neg (by omega),if_neg (by omega)];omega
  .rw[hm,hf,ht,if_pos rfl,if_neg (by omega)];have:=h.b3;push_cast;omega
  .rw[hm,hf,ht,if_neg (by omega),if_neg (by omega)];have:=h.b4;push_cast;omega
  .rw[h.tr,htr,e,hp,w3w];simp
 .have hp:=zp2 (s:=s) (o:=o) i0;have hr1:=h.b1 i0 hi0;have hm:=mv (by rw[e];show 0<=(i0:Int);omega) (by rw[e,h.len];show (i0:Int)<_;omega) (by rw[e];show 0<=nodU s o+1;unfold nodU;omega) (by rw[e,h.len];show nodU s o+1<_;unfold nodU;omega) (by rw[e];show (i0:Int)≠nodU s o+1;unfold nodU;omega);have hf :(gt (z7 s o c b) (i:Int)).from_.toNat=i0:=by rw[e];show ((i0:Int)).toNat=i0;omega
  have ht :(gt (z7 s o c b) (i:Int)).to.toNat=s.length+o.length+1:=by rw[e];show (nodU s o+1).toNat=_;unfold nodU;omega
  have hzz:z=atN rest i0/\l=l':=by rw[e] at hz;unfold zg3 at hz;rw[hp,if_neg (by simp),if_neg (λg=>by have g:nodU s o+1<nodU s o:=g.2;omega)] at hz;simp only[w00,w0b] at hz;exact⟨hz.1.symm,hz.2⟩
  obtain⟨z1,rfl⟩:=hzz;refine⟨⟨hlen,hxl,hval hm,λv hv=>?_,λk hk=>?_,?_,?_,?_⟩,by omega,by omega⟩
  .rw[hm v,hf,ht];have:=h.b1 v hv;by_cases g:i0=v
   .subst g;rw[if_pos rfl,if_neg (by omega)];omega
   .rw[if_neg g,if_neg (by omega)];omega
  .rw[hm,hf,ht,if_neg (by omega),if_neg (by omega)];have:=h.b2 k hk;omega
  .rw[hm,hf,ht,if_neg (by omega),if_neg (by omega)];have:=h.b3;push_cast;omega
  .rw[hm,hf,ht,if_neg (by omega),if_pos rfl];have:=h.b4;push_cast;omega
  .rw[h.tr,htr,e,hp,w3w];simp
 .have hp:=zy4 (s:=s) (o:=o);have hm:=mv (by rw[e];show 0<=nodU s o;unfold nodU;omega) (by rw[e,h.len];show nodU s o<_;unfold nodU;omega) (by rw[e];show 0<=nodU s o+1;unfold nodU;omega) (by rw[e,h.len];show nodU s o+1<_;unfold nodU;omega) (by rw[e];show nodU s o≠nodU s o+1;omega);have hf :(gt (z7 s o c b) (i:Int)).from_.toNat=s.length+o.length:=by rw[e];exact zgw
  have ht :(gt (z7 s o c b) (i:Int)).to.toNat=s.length+o.length+1:=by rw[e];show (nodU s o+1).toNat=_;unfold nodU;omega
  have hzz:z=atN rest (s.length+o.length)/\l=l':=by rw[e] at hz;unfold zg3 at hz;rw[hp,if_neg (by simp),if_neg (λg=>by have g:nodU s o+1<nodU s o:=g.2;omega)] at hz;simp only[w00,w0b] at hz;refine⟨?_,hz.2⟩;rw[<- hz.1];unfold atN nodU;congr 1
  obtain⟨z1,rfl⟩:=hzz;have hb3:=h.b3;refine⟨⟨hlen,hxl,hval hm,λv hv=>?_,λk hk=>?_,?_,?_,?_⟩,by omega,by omega⟩
  .rw[hm v,hf,ht,if_neg (by omega),if_neg (by omega)];have:=h.b1 v hv;omega
  .rw[hm,hf,ht,if_neg (by omega),if_neg (by omega)];have:=h.b2 k hk;omega
  .rw[hm,hf,ht,if_pos rfl,if_neg (by omega)];push_cast;omega
  .rw[hm,hf,ht,if_neg (by omega),if_pos rfl];have:=h.b4;push_cast;omega
  .rw[h.tr,htr,e,hp,w3w];simp
end
end Px
end
section
namespace Px
open Go
section
variable{φ:Nat}{p:Pool}{s:List zc}{o:List zl}{c:Nat->Nat->Int}{b:Nat->Nat->Bool}
theorem FI.bd{l0:List zi}{i:Nat}{x:List Int}{l:List zi}{rest:List Int}(h:FI s o c b l0 i x l rest)(hi:i<=49)(v:Int)(h0:0<=v)(hv:v<(s.length:Int)+(o.length:Int)+2): -20000000<=gt rest v/\gt rest v<=20000000:=by
 obtain⟨n,rfl⟩:=w1n h0;show-20000000<=atN rest n/\atN rest n<=20000000;by_cases g1:n<s.length
 .have:=h.b1 n g1;omega
 .by_cases g2:n<s.length+o.length
  .obtain⟨k,rfl⟩:∃k,n=s.length+k:=⟨n-s.length,by omega⟩;have:=h.b2 k (by omega);omega
  .by_cases g3:n=s.length+o.length
   .subst g3;have:=h.b3;omega
   .have:n=s.length+o.length+1:=by omega
    subst this;have:=h.b4;omega
theorem zl4{j:Nat}(hj:j<(z7 s o c b).length):(0<=(gt (z7 s o c b) (j:Int)).from_/\(gt (z7 s o c b) (j:Int)).from_<(s.length:Int)+(o.length:Int)+2)/\(0<=(gt (z7 s o c b) (j:Int)).to/\(gt (z7 s o c b) (j:Int)).to<(s.length:Int)+(o.length:Int)+2)/\(gt (z7 s o c b) (j:Int)).from_≠(gt (z7 s o c b) (j:Int)).to:=by
 rcases z5r hj with⟨i0,k0,hi0,hk0,hb0,e⟩|⟨k0,hk0,e⟩|⟨i0,hi0,e⟩|e
 .rw[e];show (0<=(i0:Int)/\(i0:Int)<_)/\(0<=(s.length:Int)+(k0:Int)/\(s.length:Int)+(k0:Int)<_)/\(i0:Int)≠(s.length:Int)+(k0:Int);omega
 .rw[e];show (0<=nodU s o/\nodU s o<_)/\(0<=(s.length:Int)+(k0:Int)/\(s.length:Int)+(k0:Int)<_)/\nodU s o≠(s.length:Int)+(k0:Int);unfold nodU;omega
 .rw[e];show (0<=(i0:Int)/\(i0:Int)<_)/\(0<=nodU s o+1/\nodU s o+1<_)/\(i0:Int)≠nodU s o+1;unfold nodU;omega
 .rw[e];show (0<=nodU s o/\nodU s o<_)/\(0<=nodU s o+1/\nodU s o+1<_)/\nodU s o≠nodU s o+1;unfold nodU;omega
theorem zsv(hs:s.length<=6)(ho:o.length<=6){l0:List zi}{i:Nat}{x:List Int}{l:List zi}{rest:List Int}(h:FI s o c b l0 i x l rest)(hi:i<(z7 s o c b).length)(n:Nat):
  zx φ (n+1) s l (nodU s o) (z7 s o c b) ((z7 s o c b).length:Int) (i:Int) x rest=match zg3 s o (gt (z7 s o c b) (i:Int)) rest l with
   |none=>some ([],false,())
   |some (z,l')=>zx φ n s l' (nodU s o) (z7 s o c b) ((z7 s o c b).length:Int) ((i+1:Nat):Int) (x++[z]) (znx rest (gt (z7 s o c b) (i:Int)) z):=by
 have hal:=z8p s o c b hs ho;obtain⟨⟨f1,f2⟩,⟨t1,t2⟩,ft⟩:=zl4 hi;have hrl:=h.len;have hxl:=h.xl;have hbf:=h.bd (by omega) _ f1 f2;have hbt:=h.bd (by omega) _ t1 t2;have mv:=λz l'(hz:zg3 s o (gt (z7 s o c b) (i:Int)) rest l=some (z,l'))=>h.move hs ho hi hz
 rw[zx,if_pos (by simp;omega),z6 ⟨by omega,by omega⟩];generalize hA:gt (z7 s o c b) (i:Int)=a at *;have hj:∀z l',zg3 s o a rest l=some (z,l')->z2f φ (zx φ n) s l' (nodU s o) z (z7 s o c b) ((z7 s o c b).length:Int) (i:Int) x rest a=zx φ n s l' (nodU s o) (z7 s o c b) ((z7 s o c b).length:Int) ((i+1:Nat):Int) (x++[z]) (znx rest a z):=λz l' hz=>by
  obtain⟨_,z1,z2⟩:=mv z l' hz;have e2:gt (zu rest a.from_ (gt rest a.from_-z)) a.to=gt rest a.to:=by rw[z01 _ _ _ _ f1 (by omega) t1,if_neg (λe=>ft e.symm)]
  unfold z2f znx;rw[W_id (x:=gt rest a.from_-z) (by omega) (by omega),e2,W_id (x:=gt rest a.to+z) (by omega) (by omega),W_id (x:=(i:Int)+1) (by omega) (by omega),z6 ⟨f1,by omega⟩,z6 ⟨f1,by omega⟩,z6 ⟨t1,by rw[zp];omega⟩,z6 ⟨t1,by rw[zp];omega⟩,z6 (by simp[fits];omega),show (i:Int)+1 =((i+1:Nat):Int) by omega]
 have hp :(decide (a.from_<(s.length:Int))&&decide (a.to<nodU s o))=z3o s o a:=rfl;have hW0:W (0-gt rest a.to)=- gt rest a.to:=by rw[w5g];exact W_id (by omega) (by omega)
 have hW1:W (a.to-(s.length:Int))=a.to-(s.length:Int):=W_id (by omega) (by omega);rw[hp,hW0,hW1];unfold zg3 at hj⊢;by_cases hpa:z3o s o a=true
 .rw[if_pos hpa];simp only[if_pos hpa] at hj⊢;cases l with
  |nil=>rw[z6 (by simp),z6 (by simp),if_neg (by simp)];exact hj 0 [] rfl
  |cons t l2=>
   have g0:gt (t::l2) 0=t:=rfl;have hl0 :(0:Int)<((t::l2).length:Int):=by rw[w1b];omega
   have hd:decide ((0:Int)<((t::l2).length:Int))=true:=decide_eq_true hl0;rw[z6 (λ_=>⟨by omega,hl0⟩),z6 (λ_=>⟨by omega,hl0⟩),g0,hd,w2l];simp only at hj⊢;have hpart:z3y (t::l2) (1:Int).toNat (((t::l2).length:Int)).toNat=l2:=by simp[z3y]
   by_cases g:t.supply=a.from_/\t.order=a.to-(s.length:Int)
   .have e1 :((t.supply==a.from_)&&(t.order==a.to-(s.length:Int)))=true:=by simp[g.1,g.2]
    rw[if_pos e1,z6 ⟨by omega,hl0⟩,z6 (λ_=>⟨f1,by omega⟩),z6 (λ_=>⟨t1,by omega⟩),if_pos g];simp only[if_pos g] at hj;by_cases g2:t.count<1\/gt rest a.from_<t.count\/- gt rest a.to<t.count
    .rw[if_pos (by simp only[w0s,decide_eq_true_eq];omega),if_pos g2]
    .rw[if_neg (by simp only[w0s,decide_eq_true_eq];omega),if_neg g2,z6 ⟨by omega,by simp;omega,by omega⟩,hpart];exact hj _ _ (if_neg g2)
   .have e1:¬((t.supply==a.from_)&&(t.order==a.to-(s.length:Int)))=true:=by simp only[w02,beq_iff_eq];exact g
    rw[if_neg e1,if_neg g];exact hj _ _ (if_neg g)
 .rw[if_neg hpa];simp only[if_neg hpa] at hj⊢;by_cases g:a.from_=nodU s o/\a.to<nodU s o
  .have e1 :((a.from_==nodU s o)&&decide (a.to<nodU s o))=true:=by simp[g.1,g.2]
   rw[if_pos e1,z6 ⟨t1,by omega⟩,if_pos g];exact hj _ _ (if_pos g)
  .have e1:¬((a.from_==nodU s o)&&decide (a.to<nodU s o))=true:=by simp only[w02,beq_iff_eq,decide_eq_true_eq];exact g
   rw[if_neg e1,z6 ⟨f1,by omega⟩,if_neg g];exact hj _ _ (if_neg g)
theorem zsu{l0:List zi}{x:List Int}{l:List zi}{rest:List Int}(n:Nat):
  zx φ (n+1) s l (nodU s o) (z7 s o c b) ((z7 s o c b).length:Int) ((z7 s o c b).length:Int) x rest=some (x,((l.length:Int)==0),()):=by
 rw[zx,if_neg (by simp)]
theorem zyy(hs:s.length<=6)(ho:o.length<=6){l0:List zi}: ∀(d n i:Nat)(x:List Int)(l:List zi)(rest:List Int),(z7 s o c b).length-i=d->i<=(z7 s o c b).length->d<n->FI s o c b l0 i x l rest->
  ∃x' k,zx φ n s l (nodU s o) (z7 s o c b) ((z7 s o c b).length:Int) (i:Int) x rest=some (x',k,())/\(k=true->x'.length =(z7 s o c b).length/\l0=trsI s o (z7 s o c b) (atN x') (z7 s o c b).length):=by
 intro d
 induction d with
 |zero=>
  intro n i x l rest hd hi hn h;obtain⟨n,rfl⟩:∃n',n=n'+1:=⟨n-1,by omega⟩;have:i =(z7 s o c b).length:=by omega
  subst this;refine⟨x,_,zsu (l0:=l0) n,λhk=>⟨h.xl,?_⟩⟩;have:l = []:=w18 (by have:=beq_iff_eq.1 hk;omega);rw[h.tr,this,w0e]
 |succ d ih=>
  intro n i x l rest hd hi hn h;obtain⟨n,rfl⟩:∃n',n=n'+1:=⟨n-1,by omega⟩;rw[zsv hs ho h (by omega) n];cases hz:zg3 s o (gt (z7 s o c b) (i:Int)) rest l with
  |none=>exact⟨[],false,rfl,λhk=>by cases hk⟩
  |some w=>obtain⟨z,l'⟩:=w;exact ih n (i+1) _ _ _ (by omega) (by omega) (by omega) (h.move hs ho (by omega) hz).1
theorem zpf{f:Nat->Int}{i:Nat}: ∀{m:Nat},i<=m->(∀j,i<=j->j<m->f j=0)->sumN m f=sumN i f
 |0,hi,_=>by rw[show i=0 by omega]
 |m+1,hi,h=>by
  by_cases e:i=m+1
  .rw[e]
  .rw[show sumN (m+1) f=sumN m f+f m from rfl,zpf (m:=m) (i:=i) (by omega) λj h1 h2=>h j h1 (by omega),h m (by omega) (by omega)];omega
def trsJ(s:List zc)(o:List zl)(arcs:List Arc)(y:Nat->Int)(i n:Nat):List zi:=(List.range' i n).flatMap (trT s o arcs y)
theorem y4x(arcs:List Arc)(y:Nat->Int)(i n:Nat):trsJ s o arcs y i (n+1)=trT s o arcs y i++trsJ s o arcs y (i+1) n:=by unfold trsJ;rw[w4j,w0n]
theorem y01(arcs:List Arc)(y:Nat->Int)(i n:Nat):trsI s o arcs y (i+n)=trsI s o arcs y i++trsJ s o arcs y i n:=by unfold trsI trsJ;rw[w3e,w3e,<- w1x];congr 1;have:=List.range'_append_1 (s:=0) (m:=i) (n:=n);rw[w13] at this;exact this.symm
theorem y1h(hs:s.length<=6)(ho:o.length<=6){y:Nat->Int}(hf :(nwOf (netN s o c b)).Feas (atN (supN s o)) y){i:Nat}{x:List Int}{l:List zi}{rest:List Int}(h:FI s o c b (trsI s o (z7 s o c b) y (z7 s o c b).length) i x l rest)(hi:i<(z7 s o c b).length)(hx:∀j,j<i->atN x j=y j):
  ∃l',zg3 s o (gt (z7 s o c b) (i:Int)) rest l=some (y i,l'):=by
 have hl:l=trT s o (z7 s o c b) y i++trsJ s o (z7 s o c b) y (i+1) ((z7 s o c b).length-i-1):=by have h1:=h.tr;rw[zfd hx] at h1;have h2:=y01 (s:=s) (o:=o) (z7 s o c b) y i ((z7 s o c b).length-i);rw[show i+((z7 s o c b).length-i) =(z7 s o c b).length by omega] at h2;rw[h2] at h1;have h3:=List.append_cancel_left h1;rw[<- h3,show (z7 s o c b).length-i =((z7 s o c b).length-i-1)+1 by omega,y4x];rfl
 have hy0:=(hf.bnd i hi).1
 -- what is left is what flows later
 have hout:∀v:Nat,v<s.length+o.length+2->atN rest v =((nwOf (netN s o c b)).outS y v-sumN i λj=>if(nwOf (netN s o c b)).fr j=v then y j else 0)-((nwOf (netN s o c b)).inS y v-sumN i λj=>if(nwOf (netN s o c b)).to j=v then y j else 0):=λv hv=>by
  have h1:=hf.exc v (show v<(supN s o).length by rw[z63];exact hv);have h2:=h.val v hv;unfold Nw.exc at h1;unfold outP inP at h2;have e1 :(sumN i λj=>if(nwOf (netN s o c b)).fr j=v then atN x j else 0)=sumN i λj=>if(nwOf (netN s o c b)).fr j=v then y j else 0:=zd λj hj=>by rw[hx j hj]
  have e2 :(sumN i λj=>if(nwOf (netN s o c b)).to j=v then atN x j else 0)=sumN i λj=>if(nwOf (netN s o c b)).to j=v then y j else 0:=zd λj hj=>by rw[hx j hj]
  rw[e1,e2] at h2;omega
 have mono:∀(P:Nat->Prop)[DecidablePred P],P i->(sumN i λj=>if P j then y j else 0)+y i<=sumN (z7 s o c b).length λj=>if P j then y j else 0:=λP _ hP=>by
  have:=znb (f:=λj=>if P j then y j else 0) (m:=(z7 s o c b).length) (i:=i+1) (by omega) λj hj=>by
   have:=(hf.bnd j hj).1;show 0<=if P j then y j else 0
   split<;>omega
  rw[show sumN (i+1) (λj=>if P j then y j else 0) =(sumN i λj=>if P j then y j else 0)+(if P i then y i else 0) from rfl,if_pos hP] at this;exact this
 have still:∀(P:Nat->Prop)[DecidablePred P],P i->(∀j,i<j->j<(z7 s o c b).length->¬P j)->(sumN (z7 s o c b).length λj=>if P j then y j else 0) =(sumN i λj=>if P j then y j else 0)+y i:=λP _ hP hn=>by rw[zpf (i:=i+1) (by omega) λj h1 h2=>if_neg (hn j (by omega) h2)];show _+(if P i then y i else 0)=_;rw[if_pos hP]
 have zero:∀(P:Nat->Prop)[DecidablePred P],(∀j,j<(z7 s o c b).length->¬P j)->(sumN (z7 s o c b).length λj=>if P j then y j else 0)=0/\(sumN i λj=>if P j then y j else 0)=0:=λP _ hn=>⟨z04 λj hj=>if_neg (hn j hj),z04 λj hj=>if_neg (hn j (by omega))⟩
 have noin:∀v:Nat,v<s.length\/v=s.length+o.length->∀j,j<(z7 s o c b).length->¬(nwOf (netN s o c b)).to j=v:=λv hv j hj g=>by
  have g :(gt (z7 s o c b) (j:Int)).to.toNat=v:=g;rcases z5r hj with⟨i0,k0,hi0,hk0,hb0,e⟩|⟨k0,hk0,e⟩|⟨i0,hi0,e⟩|e
  .rw[e] at g;have g :((s.length:Int)+(k0:Int)).toNat=v:=g;omega
  .rw[e] at g;have g :((s.length:Int)+(k0:Int)).toNat=v:=g;omega
  .rw[e] at g;have g :(nodU s o+1).toNat=v:=g;unfold nodU at g;omega
  .rw[e] at g;have g :(nodU s o+1).toNat=v:=g;unfold nodU at g;omega
 have noout:∀k:Nat,k<o.length->∀j,j<(z7 s o c b).length->¬(nwOf (netN s o c b)).fr j=s.length+k:=λk hk j hj g=>by
  have g :(gt (z7 s o c b) (j:Int)).from_.toNat=s.length+k:=g;rcases z5r hj with⟨i0,k0,hi0,hk0,hb0,e⟩|⟨k0,hk0,e⟩|⟨i0,hi0,e⟩|e
  .rw[e] at g;have g :((i0:Int)).toNat=_:=g;omega
  .rw[e] at g;have g :(nodU s o).toNat=_:=g;unfold nodU at g;omega
  .rw[e] at g;have g :((i0:Int)).toNat=_:=g;omega
  .rw[e] at g;have g :(nodU s o).toNat=_:=g;unfold nodU at g;omega
 have lat:=λj(h1:i<j)(h2:j<(z7 s o c b).length)=>y71 (s:=s) (o:=o) (c:=c) (b:=b) h1 h2
 rcases z5r hi with⟨i0,k0,hi0,hk0,hb0,e⟩|⟨k0,hk0,e⟩|⟨i0,hi0,e⟩|e
 .-- from a supply to an order
  have hp:=zgz (c:=c) i0 k0 hi0 hk0;have hr:y i<=atN rest i0:=by
   rw[hout i0 (by omega)];have h1:=zero (λj=>(nwOf (netN s o c b)).to j=i0) (noin i0 (.inl hi0));have h2:=mono (λj=>(nwOf (netN s o c b)).fr j=i0) (by show (gt (z7 s o c b) (i:Int)).from_.toNat=i0;rw[e];show ((i0:Int)).toNat=i0;omega);have h3 :(nwOf (netN s o c b)).inS y i0=0:=h1.1;have h4 :(nwOf (netN s o c b)).outS y i0=sumN (z7 s o c b).length λj=>if(nwOf (netN s o c b)).fr j=i0 then y j else 0:=rfl
   rw[h3,h1.2,h4];omega
  have hr2:y i<=- atN rest (s.length+k0):=by
   rw[hout _ (by omega)];have h1:=zero (λj=>(nwOf (netN s o c b)).fr j=s.length+k0) (noout k0 hk0);have h2:=mono (λj=>(nwOf (netN s o c b)).to j=s.length+k0) (by show (gt (z7 s o c b) (i:Int)).to.toNat=_;rw[e];show ((s.length:Int)+(k0:Int)).toNat=_;omega);have h3 :(nwOf (netN s o c b)).outS y (s.length+k0)=0:=h1.1;have h4 :(nwOf (netN s o c b)).inS y (s.length+k0)=sumN (z7 s o c b).length λj=>if(nwOf (netN s o c b)).to j=s.length+k0 then y j else 0:=rfl
   rw[h3,h1.2,h4];omega
  have hpe:z3o s o (gt (z7 s o c b) (i:Int))=true:=by rw[e];exact hp
  unfold trT at hl;rw[hpe] at hl;unfold zg3;rw[if_pos hpe];by_cases h0:0<y i
  .rw[show decide (0<y i)=true by simpa using h0] at hl;rw[hl];show ∃l',(if _/\_ then _ else _)=some (y i,l');rw[if_pos ⟨rfl,rfl⟩,if_neg,]
   .exact⟨_,rfl⟩
   .show ¬(y i<1\/gt rest (gt (z7 s o c b) (i:Int)).from_<y i\/- gt rest (gt (z7 s o c b) (i:Int)).to<y i);rw[e];have q1:gt rest (arcQ s o c i0 k0).from_=atN rest i0:=rfl;have q2:gt rest (arcQ s o c i0 k0).to=atN rest (s.length+k0):=by unfold atN;congr 1
    rw[q1,q2];omega
  .have hyz:y i=0:=by omega
   rw[show decide (0<y i)=false by simpa using h0] at hl;have hl:l=trsJ s o (z7 s o c b) y (i+1) ((z7 s o c b).length-i-1):=hl;rw[hyz];cases hc:l with
   |nil=>exact⟨[],rfl⟩
   |cons t l2=>
    refine⟨t::l2,?_⟩;show (if _/\_ then _ else _)=_;rw[if_neg];rintro⟨g1,g2⟩;have ht:t∈trsJ s o (z7 s o c b) y (i+1) ((z7 s o c b).length-i-1):=by rw[<- hl,hc];simp
    unfold trsJ at ht;obtain⟨j,hj,ht⟩:=w1p.1 ht;have hj:=List.mem_range'_1.1 hj;have hL:=(lat j (by omega) (by omega)).1 hpe;unfold trT at ht;cases hpj:z3o s o (gt (z7 s o c b) (j:Int)) with
    |false=>rw[hpj] at ht;cases ht
    |true=>
     cases hdj:decide (0<y j) with
     |false=>rw[hpj,hdj] at ht;cases ht
     |true=>rw[hpj,hdj] at ht;have ht:=w0d.1 ht;rw[ht] at g1 g2;have g1 :(gt (z7 s o c b) (j:Int)).from_ =(gt (z7 s o c b) (i:Int)).from_:=g1;have g2 :(gt (z7 s o c b) (j:Int)).to-(s.length:Int) =(gt (z7 s o c b) (i:Int)).to-(s.length:Int):=g2;exact hL hpj ⟨g1,by omega⟩
 .have hp:z3o s o (gt (z7 s o c b) (i:Int))=false:=by rw[e];exact zmu k0
  have hto :(gt (z7 s o c b) (i:Int)).to<nodU s o:=by rw[e];show (s.length:Int)+(k0:Int)<nodU s o;unfold nodU;omega
  unfold zg3;rw[if_neg (by rw[hp];simp),if_pos ⟨by rw[e];rfl,hto⟩];refine⟨l,?_⟩;congr 2;have q2:gt rest (gt (z7 s o c b) (i:Int)).to=atN rest (s.length+k0):=by rw[e];unfold atN;congr 1
  have h1:=zero (λj=>(nwOf (netN s o c b)).fr j=s.length+k0) (noout k0 hk0);have h2:=still (λj=>(nwOf (netN s o c b)).to j=s.length+k0) (by show (gt (z7 s o c b) (i:Int)).to.toNat=_;rw[e];show ((s.length:Int)+(k0:Int)).toNat=_;omega) λj j1 j2 g=>by have g :(gt (z7 s o c b) (j:Int)).to.toNat=s.length+k0:=g;have hL:=(lat j j1 j2).2.1 hp hto;have:=(zl4 (s:=s) (o:=o) (c:=c) (b:=b) j2).2.1.1;apply hL;rw[e];show _ =(s.length:Int)+(k0:Int);omega
  have h3 :(nwOf (netN s o c b)).outS y (s.length+k0)=0:=h1.1;have h4 :(nwOf (netN s o c b)).inS y (s.length+k0)=sumN (z7 s o c b).length λj=>if(nwOf (netN s o c b)).to j=s.length+k0 then y j else 0:=rfl
  rw[q2,hout _ (by omega),h3,h1.2,h4,h2];omega
 .have hp:z3o s o (gt (z7 s o c b) (i:Int))=false:=by rw[e];exact zp2 i0
  have hto:¬(gt (z7 s o c b) (i:Int)).to<nodU s o:=by rw[e];show ¬nodU s o+1<nodU s o;omega
  unfold zg3;rw[if_neg (by rw[hp];simp),if_neg (λg=>hto g.2)];refine⟨l,?_⟩;congr 2;have q2:gt rest (gt (z7 s o c b) (i:Int)).from_=atN rest i0:=by rw[e];rfl
  have h1:=zero (λj=>(nwOf (netN s o c b)).to j=i0) (noin i0 (.inl hi0));have h2:=still (λj=>(nwOf (netN s o c b)).fr j=i0) (by show (gt (z7 s o c b) (i:Int)).from_.toNat=_;rw[e];show ((i0:Int)).toNat=_;omega) λj j1 j2 g=>by have g :(gt (z7 s o c b) (j:Int)).from_.toNat=i0:=g;have hL:=(lat j j1 j2).2.2 hp hto;have:=(zl4 (s:=s) (o:=o) (c:=c) (b:=b) j2).1.1;apply hL;rw[e];show _ =(i0:Int);omega
  have h3 :(nwOf (netN s o c b)).inS y i0=0:=h1.1;have h4 :(nwOf (netN s o c b)).outS y i0=sumN (z7 s o c b).length λj=>if(nwOf (netN s o c b)).fr j=i0 then y j else 0:=rfl
  rw[q2,hout _ (by omega),h3,h1.2,h4,h2];omega
 .have hp:z3o s o (gt (z7 s o c b) (i:Int))=false:=by rw[e];exact zy4
  have hto:¬(gt (z7 s o c b) (i:Int)).to<nodU s o:=by rw[e];show ¬nodU s o+1<nodU s o;omega
  unfold zg3;rw[if_neg (by rw[hp];simp),if_neg (λg=>hto g.2)];refine⟨l,?_⟩;congr 2;have q2:gt rest (gt (z7 s o c b) (i:Int)).from_=atN rest (s.length+o.length):=by rw[e];unfold atN nodU;congr 1
  have h1:=zero (λj=>(nwOf (netN s o c b)).to j=s.length+o.length) (noin _ (.inr rfl));have h2:=still (λj=>(nwOf (netN s o c b)).fr j=s.length+o.length) (by show (gt (z7 s o c b) (i:Int)).from_.toNat=_;rw[e];exact zgw) λj j1 j2 g=>by have g :(gt (z7 s o c b) (j:Int)).from_.toNat=s.length+o.length:=g;have hL:=(lat j j1 j2).2.2 hp hto;have:=(zl4 (s:=s) (o:=o) (c:=c) (b:=b) j2).1.1;apply hL;rw[e];show _=nodU s o;unfold nodU;omega
  have h3 :(nwOf (netN s o c b)).inS y (s.length+o.length)=0:=h1.1;have h4 :(nwOf (netN s o c b)).outS y (s.length+o.length)=sumN (z7 s o c b).length λj=>if(nwOf (netN s o c b)).fr j=s.length+o.length then y j else 0:=rfl
  rw[q2,hout _ (by omega),h3,h1.2,h4,h2];omega
theorem zq6(hs:s.length<=6)(ho:o.length<=6){y:Nat->Int}(hf :(nwOf (netN s o c b)).Feas (atN (supN s o)) y):∀(d n i:Nat)(x:List Int)(l:List zi)(rest:List Int),(z7 s o c b).length-i=d->i<=(z7 s o c b).length->d<n->FI s o c b (trsI s o (z7 s o c b) y (z7 s o c b).length) i x l rest->(∀j,j<i->atN x j=y j)->
  ∃x',zx φ n s l (nodU s o) (z7 s o c b) ((z7 s o c b).length:Int) (i:Int) x rest=some (x',true,())/\x'.length =(z7 s o c b).length/\∀j,j<(z7 s o c b).length->atN x' j=y j:=by
 intro d
 induction d with
 |zero=>
  intro n i x l rest hd hi hn h hx;obtain⟨n,rfl⟩:∃n',n=n'+1:=⟨n-1,by omega⟩;have:i =(z7 s o c b).length:=by omega
  subst this;refine⟨x,?_,h.xl,hx⟩;have h1:=h.tr;rw[zfd hx] at h1;have:l = []:=by
   have h2:trsI s o (z7 s o c b) y (z7 s o c b).length++[]=trsI s o (z7 s o c b) y (z7 s o c b).length++l:=by rw[w0e];exact h1
   exact(List.append_cancel_left h2).symm
  rw[this,zsu (l0:=[]) n];rfl
 |succ d ih=>
  intro n i x l rest hd hi hn h hx;obtain⟨n,rfl⟩:∃n',n=n'+1:=⟨n-1,by omega⟩;rw[zsv hs ho h (by omega) n];obtain⟨l',hz⟩:=y1h hs ho hf h (by omega) hx;rw[hz];refine ih n (i+1) _ _ _ (by omega) (by omega) (by omega) (h.move hs ho (by omega) hz).1 λj hj=>?_
  by_cases e:j=i
  .subst e;have:=zwp x (y j);rw[h.xl] at this;exact this
  .rw[zwr (by rw[h.xl];omega)];exact hx j (by omega)
end
theorem zos{φ:Nat}{p:Pool}{s:List zc}{o:List zl}(h:Val φ p s o)(l0:List zi):FI s o (cF φ p s o) (bF φ p s o) l0 0 [] l0 (supN s o) where
 len:=z63 s o
 xl:=rfl
 val:=λv hv=>by unfold outP inP;simp[sumN]
 b1:=λv hv=>by rw[zph hv];have:=h.sc hv;omega
 b2:=λk hk=>by rw[zpg hk];have:=h.oc hk;omega
 b3:=by rw[zuc];have:=h.sumC_bd;omega
 b4:=by rw[zud];have:=h.sumS_bd;omega
 tr:=rfl
theorem y1g{φ:Nat}{p:Pool}{s:List zc}{o:List zl}(h:Val φ p s o)(l:List zi):z6b φ (netF φ p s o) s o l=zx φ φ s l (nodU s o) (z7 s o (cF φ p s o) (bF φ p s o)) ((z7 s o (cF φ p s o) (bF φ p s o)).length:Int) 0 [] (supN s o):=by
 have hsl:=z63 s o;have hs:=h.hs;have ho:=h.ho;unfold z6b
 first|unfold zar|unfold slices_Clone_66
 show (ck ((supN s o).isEmpty=false) _).bind _=_;rw[z6 (by cases hc:supN s o with
  |nil=>rw[hc] at hsl;simp at hsl
  |cons _ _=>rfl)]
 show (ck (fits (([]:List Int).length+(supN s o).length) 8) _).bind _=_;rw[z6 (by simp[fits,hsl];omega),w03,W_id (x:=(s.length:Int)+(o.length:Int)) (by omega) (by omega)];rfl
theorem yaz{φ:Nat}{p:Pool}{s:List zc}{o:List zl}(h:Val φ p s o)(l:List zi):
  ∃x k,z6b φ (netF φ p s o) s o l=some (x,k,())/\(k=true->x.length =(netF φ p s o).arcs.length/\l=trsI s o (netF φ p s o).arcs (atN x) (netF φ p s o).arcs.length):=by
 have hal:=z8p s o (cF φ p s o) (bF φ p s o) h.hs h.ho;have hφ:=h.hφ;rw[y1g h l];exact zyy h.hs h.ho _ φ 0 [] l (supN s o) rfl (by omega) (by omega) (zos h l)
theorem y6g{φ:Nat}{p:Pool}{s:List zc}{o:List zl}(h:Val φ p s o){y:Nat->Int}(hf :(nwOf (netF φ p s o)).Feas (atN (netF φ p s o).supply) y):
  ∃x,z6b φ (netF φ p s o) s o (trsI s o (netF φ p s o).arcs y (netF φ p s o).arcs.length)=some (x,true,())/\x.length =(netF φ p s o).arcs.length/\∀j,j<(netF φ p s o).arcs.length->atN x j=y j:=by
 have hal:=z8p s o (cF φ p s o) (bF φ p s o) h.hs h.ho;have hφ:=h.hφ;rw[y1g h];exact zq6 h.hs h.ho hf _ φ 0 [] _ (supN s o) rfl (by omega) (by omega) (zos h _) (λj hj=>by omega)
end Px
end
section
namespace Px
open Go
def PrOK(n:zh)(l:List Int):Prop:=l.length=n.supply.length/\∀p∈l,-1125899906842624<=p/\p<=1125899906842624
structure AccP(φ:Nat)(p:Pool)(s:List zc)(o:List zl)(x:Plan)(y:List Int):Prop where
 len:y.length =(netF φ p s o).arcs.length
 tr:x.transfers=trsI s o (netF φ p s o).arcs (atN y) (netF φ p s o).arcs.length
 feas :(nwOf (netF φ p s o)).Feas (atN (netF φ p s o).supply) (atN y)
 pr:PrOK (netF φ p s o) x.price
 tight :(nwOf (netF φ p s o)).Tight (atN y) (atN x.price)
 cost :(nwOf (netF φ p s o)).costS (atN y)=x.cost
theorem zvj{α:Type}[Inhabited α]{l m:List α}(h:l.length=m.length)(hv:∀j:Nat,j<l.length->gt l (j:Int)=gt m (j:Int)):l=m:=by
 refine List.ext_getElem h λj h1 h2=>?_
 rw[<- z3l h1,<- z3l h2];exact hv j h1
section
variable{φ:Nat}{p:Pool}{s:List zc}{o:List zl}
theorem Val.cost_bd(h:Val φ p s o){y:Nat->Int}(hf :(nwOf (netF φ p s o)).Feas (atN (netF φ p s o).supply) y):0<=(nwOf (netF φ p s o)).costS y/\(nwOf (netF φ p s o)).costS y<=42000000000000:=by
 have hp:=zst hf;have h1:=h.sumXC_bd hp;have h2:=zde (m:=o.length) (f:=λk=>z2d s o (XY s o (z7 s o (cF φ p s o) (bF φ p s o)) y (z7 s o (cF φ p s o) (bF φ p s o)).length) k*(gt o (k:Int)).weight) (B:=1000000000000) λk hk=>by have e1:=h.open_bd hp hk;have e2:=h.oc hk;refine⟨w1d e1.1 e2.2.1,?_⟩;have:=w2v e1.2 e2.2.2 e2.2.1 (by omega :(0:Int)<=1000);simpa using this
 have h3:=zss hf;have ho:=h.ho;rw[show (nwOf (netF φ p s o)).costS y =(nwOf (netN s o (cF φ p s o) (bF φ p s o))).costS y from rfl,<- h3];unfold zfh;unfold zev at h1;omega
theorem y02(h:Val φ p s o)(x:Plan):∃e,z3i φ p s o x=some (e,())/\(e=0\/e=370)/\(e=0↔∃y,AccP φ p s o x y):=by
 have hφ:=h.hφ;unfold z3i;rw[h.net,w03,if_neg (by simp)];obtain⟨y,k,h1,h2⟩:=yaz h x.transfers;rw[h1,w03]
 -- where a plan is in order,fill gives its flow
 have back:∀z,AccP φ p s o x z->k=true/\y=z:=λz hz=>by obtain⟨x',g1,g2,g3⟩:=y6g h hz.feas;rw[<- hz.tr,h1] at g1;simp only[w00,w0b] at g1;obtain⟨rfl,hk,_⟩:=g1;exact⟨hk,zvj (by rw[g2,hz.len]) λj hj=>g3 j (by rw[<- g2];exact hj)⟩
 cases hk:k with
 |false=>refine⟨370,by rw[gz_f (by simp),w03,if_pos (by simp)],.inr rfl,λe=>by omega,?_⟩;rintro⟨z,hz⟩;have:=(back z hz).1;rw[hk] at this;cases this
 |true=>
  obtain⟨q1,q2⟩:=h2 hk;rw[gz_t (by simp)];obtain⟨e,a1,a2⟩:=znt φ (netF φ p s o) ⟨y,x.price⟩ h.chk (by omega);rw[a1,w03];by_cases he:e=0
  .rw[if_neg (by simp[he])];obtain⟨b1,b2,b3,b4⟩:=a2.1 he;obtain⟨c1,c2⟩:=(ze5 h.fnet).1 b1;have hcb:=h.cost_bd (y:=atN y) c2;rw[zjb φ (netF φ p s o) ⟨y,x.price⟩ h.chk (by omega),b1,cond_true];rw[if_pos (show (nwOf (netF φ p s o)).costS (atN y)<=9007199254740992 by omega),w03];by_cases hc :(nwOf (netF φ p s o)).costS (atN y)=x.cost
   .refine⟨0,by rw[if_neg (by simp[hc])],.inl rfl,λ_=>⟨y,⟨q1,q2,c2,⟨b2,b3⟩,b4,hc⟩⟩,λ_=>rfl⟩
   .refine⟨370,by rw[if_pos (by simp[hc])],.inr rfl,λe=>by omega,?_⟩;rintro⟨z,hz⟩;obtain⟨_,rfl⟩:=back z hz;exact absurd hz.cost hc
  .rw[if_pos (by simp[he])];refine⟨370,rfl,.inr rfl,λe=>by omega,?_⟩;rintro⟨z,hz⟩;obtain⟨_,rfl⟩:=back z hz;exact absurd (a2.2 ⟨(ze5 h.fnet).2 ⟨hz.len,hz.feas⟩,hz.pr.1,hz.pr.2,hz.tight⟩) he
theorem AccP.cheapest{x:Plan}{y:List Int}(h:Val φ p s o)(ha:AccP φ p s o x y):z65 φ p s o x.transfers=some (x.cost,true,())/\∀l:List zi,l.length<=100000->∃c k,z65 φ p s o l=some (c,k,())/\(k=true->x.cost<=c):=by refine⟨by rw[ha.tr,<- ha.cost];exact y4w h ha.feas,λl hl=>?_⟩;obtain⟨c,k,h1,h2⟩:=zzz h hl;refine⟨c,k,h1,λhk=>?_⟩;obtain⟨z,z1,z2⟩:=h2 hk;rw[<- ha.cost,<- z2];exact Nw.dual h.fnet.nw ha.feas z1 ha.tight
end
theorem y2z{φ:Nat}(hφ:800000<φ)(hB:zg5 φ)(p:Pool){s:List zc}{o:List zl}(hs:s.length<=6)(ho:o.length<=6):Val φ p s o\/∃e,e≠0/\z4l φ p s o=some (⟨[],[]⟩,e,()):=by
 have h:=y8z hφ hB p hs ho;by_cases hp:z7n p=0
 .rw[if_neg (λe=>e hp)] at h;cases ha:zvo p s o with
  |true=>exact .inl (yf1 hφ hB hp hs ho ha)
  |false=>rw[ha] at h;exact .inr ⟨1,by omega,h⟩
 .rw[if_pos hp] at h;exact .inr ⟨_,hp,h⟩
end Px
end
section
namespace Px
open Go
section
variable{φ:Nat}{p:Pool}{s:List zc}{o:List zl}
theorem Val.mu(h:Val φ p s o):muL (netF φ p s o).supply.length (netF φ p s o).supply<=1000000:=by
 have hs:=h.hs;have ho:=h.ho;have hS:=h.sumS_bd;have hC:=h.sumC_bd;have h1:∀v:Nat,v<(supN s o).length->max (atN (supN s o) v) 0<=24576:=λv hv=>by
  rw[z63] at hv;by_cases g1:v<s.length
  .rw[zph g1];have:=h.sc g1;omega
  .by_cases g2:v<s.length+o.length
   .obtain⟨k,rfl⟩:∃k,v=s.length+k:=⟨v-s.length,by omega⟩;rw[zpg (by omega)];have:=h.oc (k:=k) (by omega);omega
   .by_cases g3:v=s.length+o.length
    .rw[g3,zuc];omega
    .rw[show v=s.length+o.length+1 by omega,zud];omega
 have h2:=zna h1;have h3:=z63 s o;show (sumN (supN s o).length λv=>max (atN (supN s o) v) 0)<=1000000;omega
theorem zyj(h:Val φ p s o)(f:Flow)(lx:f.x.length =(netF φ p s o).arcs.length)(c:Int):
  z0i φ φ s o (netF φ p s o).arcs ((netF φ p s o).arcs.length:Int) 0 c f.price f []=some (⟨trsI s o (netF φ p s o).arcs (atN f.x) (netF φ p s o).arcs.length,c,f.price⟩,0,()):=by
 have hs:=h.hs;have ho:=h.ho;have hφ:=h.hφ;have hal:=z8p s o (cF φ p s o) (bF φ p s o) hs ho;have hal :(netF φ p s o).arcs.length<=49:=hal;have hu:W ((s.length:Int)+(o.length:Int))=nodU s o:=W_id (by omega) (by omega);refine zw (λm i acc=>z0i φ m s o (netF φ p s o).arcs ((netF φ p s o).arcs.length:Int) i c f.price f acc) (netF φ p s o).arcs.length (λi acc=>acc=trsI s o (netF φ p s o).arcs (atN f.x) i) (λr=>r=some (⟨trsI s o (netF φ p s o).arcs (atN f.x) (netF φ p s o).arcs.length,c,f.price⟩,0,())) ?_ ?_ φ [] rfl (by omega)
 .intro m i acc hi hI hg;have hlen:=zwf (s:=s) (o:=o) (c:=cF φ p s o) (b:=bF φ p s o) (atN f.x) i;have hlen :(trsI s o (netF φ p s o).arcs (atN f.x) i).length<=i:=hlen;have hr:=zl4 (s:=s) (o:=o) (c:=cF φ p s o) (b:=bF φ p s o) (j:=i) hi;have hr :(0<=(gt (netF φ p s o).arcs (i:Int)).from_/\_)/\(0<=(gt (netF φ p s o).arcs (i:Int)).to/\(gt (netF φ p s o).arcs (i:Int)).to<(s.length:Int)+(o.length:Int)+2)/\_:=hr;have hW1:W ((gt (netF φ p s o).arcs (i:Int)).to-(s.length:Int)) =(gt (netF φ p s o).arcs (i:Int)).to-(s.length:Int):=W_id (by omega) (by omega);have hW:W ((i:Int)+1) =(i:Int)+1:=W_id (by omega) (by omega);have ex:gt f.x (i:Int)=atN f.x i:=rfl;have hp :(decide ((gt (netF φ p s o).arcs (i:Int)).from_<(s.length:Int))&&decide ((gt (netF φ p s o).arcs (i:Int)).to<nodU s o))=z3o s o (gt (netF φ p s o).arcs (i:Int)):=rfl;show z0i φ (m+1) s o (netF φ p s o).arcs ((netF φ p s o).arcs.length:Int) (i:Int) c f.price f acc=_;rw[z0i,if_pos (by simp;omega),z6 ⟨by omega,by omega⟩,hu,hp,z6 (λ_=>⟨by omega,by omega⟩),ex,hW1,hW];have hsucc:=zas s o (netF φ p s o).arcs (atN f.x) i;unfold trT at hsucc;cases hc :(z3o s o (gt (netF φ p s o).arcs (i:Int))&&decide (0<atN f.x i)) with
  |true=>rw[hc] at hsucc;rw[if_pos rfl,z6 ⟨by omega,by omega⟩,z6 (by rw[hI];simp[fits];omega)];exact hg _ (by rw[hI,hsucc];rfl)
  |false=>rw[hc] at hsucc;rw[if_neg (by simp)];exact hg _ (by rw[hI,hsucc];simp)
 .intro m acc hI;show z0i φ (m+1) s o (netF φ p s o).arcs ((netF φ p s o).arcs.length:Int) ((netF φ p s o).arcs.length:Int) c f.price f acc=_;rw[z0i,if_neg (by simp),hI]
theorem y5b(h:Val φ p s o)(hφ:60000000<φ):∃x y,z2j φ p s o=some (x,0,())/\AccP φ p s o x y:=by
 have hmu:=h.mu;obtain⟨f,h1,h2⟩:=y5f (φ:=φ) h.chk (by omega) (by omega) h.poss0.feas;have hcb:=h.cost_bd (y:=atN f.x) h2.feas;have hfB:zq5 (netF φ p s o) f=true:=(ze5 h.fnet).2 ⟨h2.lx,h2.feas⟩;refine⟨⟨trsI s o (netF φ p s o).arcs (atN f.x) (netF φ p s o).arcs.length,(nwOf (netF φ p s o)).costS (atN f.x),f.price⟩,f.x,?_,⟨h2.lx,rfl,h2.feas,⟨h2.lp,λq hq=>?_⟩,h2.tight,rfl⟩⟩
 .unfold z2j;rw[h.net,w03,if_neg (by simp),h1,w03,if_neg (by simp),zjb φ (netF φ p s o) f h.chk (by omega),hfB,cond_true,if_pos (show (nwOf (netF φ p s o)).costS (atN f.x)<=9007199254740992 by omega),w03];exact zyj h f h2.lx _
 .obtain⟨j,hj,e⟩:=w2k hq;have:=h2.pr j (by rw[<- h2.lp];exact hj);have e2:atN f.price j=q:=by unfold atN;rw[z3l hj];exact e
  omega
theorem y03{e:Int}(h:z4l φ p s o=some (⟨[],[]⟩,e,()))(he:e≠0):z2j φ p s o=some (⟨[],0,[]⟩,e,()):=by unfold z2j;rw[h,w03,if_pos (by simpa using he)]
end
theorem AccP.acc{φ:Nat}{p:Pool}{s:List zc}{o:List zl}(h:Val φ p s o){x:Plan}{y:List Int}(ha:AccP φ p s o x y):z3i φ p s o x=some (0,()):=by obtain⟨e,a1,a2,a3⟩:=y02 h x;rw[a1,a3.2 ⟨y,ha⟩]
end Px
end
section
namespace Px
open Go
theorem y9b{n b:Nat}(h:n<=100000)(hb:b<=1000):fits n b:=by unfold fits;have:n*b<=100000*1000:=Nat.mul_le_mul h hb;omega
abbrev Ln:=List ((Nat->Int)×Int)
abbrev keyP(a b:Int):Nat->Int:=upd (upd (λ_=>(default:Int)) 0 a) 1 b
abbrev lget(m:Ln)(a b:Int):Option Int:=cget z4c m (keyP a b)
abbrev lset(m:Ln)(a b i:Int):Ln:=cset z4c m (keyP a b) i
theorem kl32(f:Nat->Int):z4c f = [f 0,f 1]:=rfl
theorem ybo(a b c d:Int):(z4c (keyP c d)==z4c (keyP a b)) =(c==a&&d==b):=by rw[kl32,kl32];show ([c,d]==[a,b])=_;simp
theorem zgc{κ ν:Type}(e:κ->List Int)(k k':κ)(v:ν):∀m:List (κ×ν),cget e (cset e m k v) k'=bif e k'==e k then some v else cget e m k'
 | []=>rfl
 |(a,b)::m=>by
  unfold cset;cases h1 :(e k==e a) with
  |true=>have h1:=beq_iff_eq.1 h1;rw[cond_true];show (bif e k'==e k then some v else cget e m k')=bif e k'==e k then some v else(bif e k'==e a then some b else cget e m k');rw[h1];cases (e k'==e a)<;>rfl
  |false=>
   rw[cond_false];cases h2:ltI (e k) (e a) with
   |true=>rfl
   |false=>
    rw[cond_false];show (bif e k'==e a then some b else cget e (cset e m k v) k')=bif e k'==e k then some v else(bif e k'==e a then some b else cget e m k');rw[zgc e k k' v m];cases h3 :(e k'==e a) with
    |false=>rfl
    |true=>
     have h3:=beq_iff_eq.1 h3;rw[h3];have :(e a==e k)=false:=by rw[<- w43,beq_iff_eq];intro g;rw[g] at h1;simp at h1
     rw[this];rfl
theorem zm6(m:Ln)(a b i c d:Int):lget (lset m a b i) c d=if c=a/\d=b then some i else lget m c d:=by
 show cget z4c (cset z4c m (keyP a b) i) (keyP c d)=_;rw[zgc,ybo];by_cases h:c=a/\d=b
 .rw[if_pos h];simp[h]
 .rw[if_neg h];have :(c==a&&d==b)=false:=by rw[<- w43];simpa using h
  rw[this];rfl
theorem y7i{b:Bool}(h:¬(!b)=true):b=true:=by cases b<;>simp_all
def ent1(es:List Edge)(i a b:Int)(s:List (List Int)×Ln):List (List Int)×Ln:=
 (if(!(lget s.2 a b).isSome)=true then zu s.1 a (gt s.1 a++[b]) else s.1,
  if(!(lget s.2 a b).isSome||decide ((gt es i).minutes<(gt es ((lget s.2 a b).getD default)).minutes))=true then lset s.2 a b i else s.2)
def entE(es:List Edge)(i:Int)(s:List (List Int)×Ln):List (List Int)×Ln:=ent1 es i (gt es i).b (gt es i).a (ent1 es i (gt es i).a (gt es i).b s)
structure GI(es:List Edge)(P k:Nat)(s:List (List Int)×Ln):Prop where
 len:s.1.length=P
 near:∀a b:Int,0<=a->a<(P:Int)->(b∈gt s.1 a↔(lget s.2 a b).isSome=true)
 line:∀a b i:Int,lget s.2 a b=some i->0<=i/\i<(k:Int)/\(((gt es i).a=a/\(gt es i).b=b)\/((gt es i).a=b/\(gt es i).b=a))
 size:∀a:Int,0<=a->a<(P:Int)->(gt s.1 a).length<=2*k
structure HI(es:List Edge)(P k:Nat)(s:List (List Int)×Ln):Prop extends GI es P k s where
 sym:∀a b:Int,lget s.2 a b=lget s.2 b a
theorem y6p(es:List Edge)(P:Nat):HI es P 0 (List.replicate P (default:List Int),[]) where
 len:=by simp
 near:=λa b h0 h1=>by rw[zed _ _ _ h0 (by omega)];show b∈([]:List Int)↔_;simp[lget,cget]
 line:=λa b i h=>by simp[lget,cget] at h
 size:=λa h0 h1=>by rw[zed _ _ _ h0 (by omega)];simp;rfl
 sym:=λa b=>rfl
theorem yav{es:List Edge}{P k:Nat}{s:List (List Int)×Ln}(h:GI es P k s){a b:Int}(ha:0<=a)(ha':a<(P:Int))(he :((gt es (k:Int)).a=a/\(gt es (k:Int)).b=b)\/((gt es (k:Int)).a=b/\(gt es (k:Int)).b=a)):
  (ent1 es k a b s).1.length=P/\(∀c d:Int,0<=c->c<(P:Int)->(d∈gt (ent1 es k a b s).1 c↔(lget (ent1 es k a b s).2 c d).isSome=true))/\
  (∀c d i:Int,lget (ent1 es k a b s).2 c d=some i->0<=i/\i<((k+1:Nat):Int)/\(((gt es i).a=c/\(gt es i).b=d)\/((gt es i).a=d/\(gt es i).b=c)))/\
  (∀c:Int,0<=c->c<(P:Int)->(gt (ent1 es k a b s).1 c).length<=(gt s.1 c).length+1)/\
  (∀c d:Int,¬(c=a/\d=b)->lget (ent1 es k a b s).2 c d=lget s.2 c d)/\
  lget (ent1 es k a b s).2 a b =(if(!(lget s.2 a b).isSome||decide ((gt es (k:Int)).minutes<(gt es ((lget s.2 a b).getD default)).minutes))=true then some (k:Int) else lget s.2 a b):=by
 have hl2:∀c d:Int,lget (ent1 es k a b s).2 c d=if(c=a/\d=b) then(if(!(lget s.2 a b).isSome||decide ((gt es (k:Int)).minutes<(gt es ((lget s.2 a b).getD default)).minutes))=true then some (k:Int) else lget s.2 a b) else lget s.2 c d:=by
  intro c d;unfold ent1;simp only[];split
  .rw[zm6]
  .split
   .rename_i q;rw[q.1,q.2]
   .rfl
 have hsm :(lget (ent1 es k a b s).2 a b).isSome=true:=by
  rw[hl2,if_pos ⟨rfl,rfl⟩];split
  .rfl
  .rename_i q;simp only[w0s,not_or] at q;exact y7i q.1
 refine⟨?_,?_,?_,?_,λc d hcd=>by rw[hl2,if_neg hcd],by rw[hl2,if_pos ⟨rfl,rfl⟩]⟩
 .unfold ent1;simp only[];split
  .rw[zp];exact h.len
  .exact h.len
 .intro c d hc hc';by_cases hcd:c=a/\d=b
  .obtain⟨rfl,rfl⟩:=hcd;rw[hsm];refine⟨λ_=>rfl,λ_=>?_⟩;unfold ent1;simp only[];split
   .rw[z01 _ _ _ _ hc (by rw[h.len];exact hc') hc,if_pos rfl];simp
   .rename_i q;exact(h.near c d hc hc').2 (y7i q)
  .rw[hl2,if_neg hcd,<- h.near c d hc hc'];unfold ent1;simp only[];split
   .rw[z01 _ _ _ _ ha (by rw[h.len];exact ha') hc];by_cases e:c=a
    .subst e;rw[if_pos rfl];simp only[w0k,w0d];exact⟨λq=>q.resolve_right (λe=>hcd ⟨rfl,e⟩),.inl⟩
    .rw[if_neg e]
   .exact Iff.rfl
 .intro c d i hi;rw[hl2] at hi;split at hi
  .rename_i q;obtain⟨rfl,rfl⟩:=q;split at hi
   .have:=w0f hi
    subst this;exact⟨by omega,by omega,he⟩
   .obtain⟨h1,h2,h3⟩:=h.line _ _ _ hi;exact⟨h1,by omega,h3⟩
  .obtain⟨h1,h2,h3⟩:=h.line _ _ _ hi;exact⟨h1,by omega,h3⟩
 .intro c hc hc';unfold ent1;simp only[];split
  .rw[z01 _ _ _ _ ha (by rw[h.len];exact ha') hc];split
   .rename_i e;subst e;simp
   .omega
  .omega
theorem yaw{es:List Edge}{P k:Nat}{s:List (List Int)×Ln}(h:HI es P k s)(ha:0<=(gt es (k:Int)).a)(ha' :(gt es (k:Int)).a<(P:Int))(hb:0<=(gt es (k:Int)).b)(hb' :(gt es (k:Int)).b<(P:Int))(hne :(gt es (k:Int)).a≠(gt es (k:Int)).b):
  HI es P (k+1) (entE es k s):=by
 obtain⟨a1,a2,a3,a4,a5,a6⟩:=yav h.toGI ha ha' (.inl ⟨rfl,rfl⟩);unfold entE;generalize hs1:ent1 es k (gt es (k:Int)).a (gt es (k:Int)).b s=s1 at *;generalize (gt es (k:Int)).a=a at *;generalize (gt es (k:Int)).b=b at *
 -- the second end,by the same law: only the bound on the numbers has moved
 have hl2:∀c d:Int,lget (ent1 es k b a s1).2 c d=if(c=b/\d=a) then(if(!(lget s1.2 b a).isSome||decide ((gt es (k:Int)).minutes<(gt es ((lget s1.2 b a).getD default)).minutes))=true then some (k:Int) else lget s1.2 b a) else lget s1.2 c d:=by
  intro c d;unfold ent1;simp only[];split
  .rw[zm6]
  .split
   .rename_i q;rw[q.1,q.2]
   .rfl
 have hba:lget s1.2 b a=lget s.2 a b:=by rw[a5 b a (λq=>hne q.2),h.sym]
 have hsm :(lget (ent1 es k b a s1).2 b a).isSome=true:=by
  rw[hl2,if_pos ⟨rfl,rfl⟩];split
  .rfl
  .rename_i q;simp only[w0s,not_or] at q;exact y7i q.1
 have hlab:lget (ent1 es k b a s1).2 a b=lget s1.2 a b:=by rw[hl2,if_neg (λq=>hne q.1)]
 have hlba:lget (ent1 es k b a s1).2 b a=lget s1.2 a b:=by rw[hl2,if_pos ⟨rfl,rfl⟩,hba,a6]
 have hab :((gt es (k:Int)).a=a/\(gt es (k:Int)).b=b)\/((gt es (k:Int)).a=b/\(gt es (k:Int)).b=a)->True:=λ_=>trivial
 refine⟨⟨?_,?_,?_,?_⟩,?_⟩
 .unfold ent1;simp only[];split
  .rw[zp];exact a1
  .exact a1
 .intro c d hc hc';by_cases hcd:c=b/\d=a
  .obtain⟨rfl,rfl⟩:=hcd;rw[hsm];refine⟨λ_=>rfl,λ_=>?_⟩;unfold ent1;simp only[];split
   .rw[z01 _ _ _ _ hc (by rw[a1];exact hc') hc,if_pos rfl];simp
   .rename_i q;exact(a2 c d hc hc').2 (y7i q)
  .rw[hl2,if_neg hcd,<- a2 c d hc hc'];unfold ent1;simp only[];split
   .rw[z01 _ _ _ _ hb (by rw[a1];exact hb') hc];by_cases e:c=b
    .subst e;rw[if_pos rfl];simp only[w0k,w0d];exact⟨λq=>q.resolve_right (λe=>hcd ⟨rfl,e⟩),.inl⟩
    .rw[if_neg e]
   .exact Iff.rfl
 .intro c d i hi;by_cases hcd:c=b/\d=a
  .obtain⟨rfl,rfl⟩:=hcd;rw[hlba] at hi;obtain⟨h1,h2,h3⟩:=a3 _ _ _ hi;exact⟨h1,h2,h3.elim .inr .inl⟩
  .rw[hl2,if_neg hcd] at hi;exact a3 _ _ _ hi
 .intro c hc hc';have h1:=a4 c hc hc';have h0:=h.size c hc hc';have h2 :(gt (ent1 es k b a s1).1 c).length<=(gt s1.1 c).length+1:=by
   unfold ent1;simp only[];split
   .rw[z01 _ _ _ _ hb (by rw[a1];exact hb') hc];split
    .rename_i e;subst e;simp
    .omega
   .omega
  omega
 .intro c d;by_cases h1:c=b/\d=a
  .obtain⟨rfl,rfl⟩:=h1;rw[hlba,hlab]
  .by_cases h2:c=a/\d=b
   .obtain⟨rfl,rfl⟩:=h2;rw[hlab,hlba]
   .rw[hl2,if_neg h1,hl2,if_neg (λq=>h2 ⟨q.2,q.1⟩),a5 c d h2,a5 d c (λq=>h1 ⟨q.2,q.1⟩),h.sym]
def zj4(es:List Edge)(P:Nat):Nat->List (List Int)×Ln
 |0=>(List.replicate P default,[])
 |k+1=>entE es k (zj4 es P k)
structure zl3(x:z00):Prop where
 places:x.places.length<=512
 edges:x.edges.length<=2048
 edge:∀i:Int,0<=i->i<(x.edges.length:Int)->zel x.places.length (gt x.edges i)=true
theorem ye0{x:z00}(h:z9z x=0):zl3 x:=by obtain⟨h1,h2,_,h4⟩:=zlc h;exact⟨h1,h2,λi h0 hi=>h4 _ (z8s h0 hi)⟩
theorem zl3.ends{x:z00}(h:zl3 x){i:Int}(h0:0<=i)(hi:i<(x.edges.length:Int)):0<=(gt x.edges i).a/\(gt x.edges i).a<(x.places.length:Int)/\0<=(gt x.edges i).b/\(gt x.edges i).b<(x.places.length:Int)/\
  (gt x.edges i).a≠(gt x.edges i).b/\0<=(gt x.edges i).railway/\(gt x.edges i).railway<=15/\1<=(gt x.edges i).minutes/\(gt x.edges i).minutes<=100000/\0<=(gt x.edges i).km/\(gt x.edges i).km<=10000:=by
 have:=h.edge i h0 hi;simp only[zel,w02,z64,bne_iff_ne,ne_eq] at this;obtain⟨⟨⟨⟨⟨q1,q2⟩,q3⟩,q4⟩,q5⟩,q6⟩:=this;exact⟨q1.1,by omega,q2.1,by omega,q3,q4.1,q4.2,q5.1,q5.2,q6.1,q6.2⟩
theorem zf0{x:z00}(h:zl3 x):∀k,k<=x.edges.length->HI x.edges x.places.length k (zj4 x.edges x.places.length k)
 |0,_=>y6p _ _
 |k+1,hk=>by obtain⟨a1,a2,a3,a4,a5,_⟩:=h.ends (i:=(k:Int)) (by omega) (by omega);exact yaw (zf0 h k (by omega)) a1 a2 a3 a4 a5
structure Gr(P:Nat)(near:List (List Int))(wt:Int->Int->Int):Prop where
 len:near.length=P
 small:P<=512
 size:∀a:Int,0<=a->a<(P:Int)->(gt near a).length<=5000
 rng:∀a b:Int,0<=a->a<(P:Int)->b∈gt near a->0<=b/\b<(P:Int)
 sym:∀a b:Int,0<=a->a<(P:Int)->b∈gt near a->a∈gt near b/\wt b a=wt a b
 wt:∀a b:Int,0<=a->a<(P:Int)->b∈gt near a->1<=wt a b/\wt a b<=100000
def zac(x:z00):Ln:=(zj4 x.edges x.places.length x.edges.length).2
def wtN(x:z00)(a b:Int):Int:=(gt x.edges ((lget (zac x) a b).getD default)).minutes
def zgv(x:z00):List (List Int):=(zj4 x.edges x.places.length x.edges.length).1
def z54(x:z00):List (List Int):=(zgv x).map λl=>zqp (λa b=>decide (a<b)) l
theorem y1x{α β:Type}[Inhabited α][Inhabited β](f:α->β)(l:List α){i:Int}(h0:0<=i)(h:i<(l.length:Int)):gt (l.map f) i=f (gt l i):=by obtain⟨n,rfl⟩:∃n:Nat,i =(n:Int):=⟨i.toNat,by omega⟩;rw[z3l (by simp;omega),z3l (by omega)];simp
theorem zqt{x:z00}(h:zl3 x){a b:Int}(ha:0<=a)(ha':a<(x.places.length:Int))(hb:b∈gt (z54 x) a):∃i,lget (zac x) a b=some i/\0<=i/\i<(x.edges.length:Int)/\(((gt x.edges i).a=a/\(gt x.edges i).b=b)\/((gt x.edges i).a=b/\(gt x.edges i).b=a)):=by have H:=zf0 h x.edges.length (w0x _);unfold z54 at hb;rw[y1x _ _ ha (by show a<((zgv x).length:Int);rw[show (zgv x).length=_ from H.len];exact ha')] at hb;have hb:=(z9v _ _).mem_iff.1 hb;have:=(H.near a b ha ha').1 hb;obtain⟨i,hi⟩:=w11.1 this;obtain⟨h1,h2,h3⟩:=H.line _ _ _ hi;exact⟨i,hi,h1,h2,h3⟩
theorem grN{x:z00}(h:zl3 x):Gr x.places.length (z54 x) (wtN x):=by
 have H:=zf0 h x.edges.length (w0x _);have hlen :(z54 x).length=x.places.length:=by unfold z54;rw[w1c];exact H.len
 have hl0 :(zgv x).length=x.places.length:=H.len;have hmem:∀a b:Int,0<=a->a<(x.places.length:Int)->(b∈gt (z54 x) a↔(lget (zac x) a b).isSome=true):=by intro a b ha ha';unfold z54;rw[y1x _ _ ha (by rw[hl0];exact ha')];exact((z9v _ _).mem_iff).trans (H.near a b ha ha')
 refine⟨hlen,h.places,?_,?_,?_,?_⟩
 .intro a ha ha';unfold z54;rw[y1x _ _ ha (by rw[hl0];exact ha'),(z9v _ _).length_eq];have:=H.size a ha ha';have:=h.edges;show (gt (zj4 x.edges x.places.length x.edges.length).1 a).length<=_;omega
 .intro a b ha ha' hb;obtain⟨i,_,h1,h2,h3⟩:=zqt h ha ha' hb;obtain⟨e1,e2,e3,e4,_⟩:=h.ends h1 h2;rcases h3 with⟨rfl,rfl⟩|⟨rfl,rfl⟩
  .exact⟨e3,e4⟩
  .exact⟨e1,e2⟩
 .intro a b ha ha' hb;obtain⟨i,hi,h1,h2,h3⟩:=zqt h ha ha' hb;obtain⟨e1,e2,e3,e4,_⟩:=h.ends h1 h2;have hbr:0<=b/\b<(x.places.length:Int):=by
   rcases h3 with⟨rfl,rfl⟩|⟨rfl,rfl⟩
   .exact⟨e3,e4⟩
   .exact⟨e1,e2⟩
  have hs:lget (zac x) b a=lget (zac x) a b:=H.sym b a;refine⟨(hmem b a hbr.1 hbr.2).2 (by rw[hs,hi];rfl),?_⟩;unfold wtN;rw[hs]
 .intro a b ha ha' hb;obtain⟨i,hi,h1,h2,_⟩:=zqt h ha ha' hb;obtain⟨_,_,_,_,_,_,_,e1,e2,_⟩:=h.ends h1 h2;unfold wtN;rw[hi];exact⟨e1,e2⟩
structure DI(P:Nat)(near:List (List Int))(wt:Int->Int->Int)(s:Int)(k:Nat)(t:List Int)(d:List Bool):Prop where
 lt:t.length=P
 ld:d.length=P
 src:gt t s=0
 bd:∀i:Int,0<=i->i<(P:Int)->gt t i=-1\/(0<=gt t i/\gt t i<=100000*k)
 don:∀i:Int,0<=i->i<(P:Int)->gt d i=true->0<=gt t i
 pre:∀a:Int,0<=a->a<(P:Int)->a≠s->0<=gt t a->∃q,0<=q/\q<(P:Int)/\gt d q=true/\q∈gt near a/\gt t a=gt t q+wt q a
 mon:∀q i:Int,0<=q->q<(P:Int)->0<=i->i<(P:Int)->gt d q=true->gt d i=false->0<=gt t i->gt t q<=gt t i
 nbr:∀q i:Int,0<=q->q<(P:Int)->gt d q=true->i∈gt near q->0<=gt t i/\gt t i<=gt t q+wt q i
 cnt:d.count true=k
structure RndI(P:Nat)(near:List (List Int))(wt:Int->Int->Int)(s p:Int)(k:Nat)(t0:List Int)(d:List Bool)(seen:List Int)(t:List Int):Prop where
 lt:t.length=P
 own:gt t p=gt t0 p
 val:∀i:Int,0<=i->i<(P:Int)->gt t i=gt t0 i\/(i∈seen/\gt t i=gt t0 p+wt p i/\(gt t0 i<0\/gt t0 p+wt p i<gt t0 i))
 got:∀i∈seen,0<=i->0<=gt t i/\gt t i<=gt t p+wt p i
end Px
end
section
namespace Px
open Go
section
variable{P:Nat}{near:List (List Int)}{wt:Int->Int->Int}{s:Int}
theorem y47{p:Int}{k:Nat}{t0:List Int}{d:List Bool}(h:DI P near wt s k t0 d):RndI P near wt s p k t0 d [] t0:=⟨h.lt,rfl,λi _ _=>.inl rfl,λi hi=>by cases hi⟩
theorem y8c(hG:Gr P near wt){p:Int}(hp:0<=p)(hp':p<(P:Int)){k:Nat}{t0:List Int}{d:List Bool}(hp0:0<=gt t0 p){seen t:List Int}(h:RndI P near wt s p k t0 d seen t){q:Int}(hq:q∈gt near p):
  RndI P near wt s p k t0 d (seen++[q]) (if(decide (gt t q<0)||decide (gt t p+wt p q<gt t q))=true then zu t q (gt t p+wt p q) else t):=by
 obtain⟨q0,q1⟩:=hG.rng p q hp hp' hq;obtain⟨w0,w1⟩:=hG.wt p q hp hp' hq;have hown:=h.own;by_cases c:gt t q<0\/gt t p+wt p q<gt t q
 .rw[if_pos (by simpa using c)];have hqp:q≠p:=λe=>by subst e;omega
  refine⟨by rw[zp];exact h.lt,?_,λi h0 h1=>?_,λi hi hneg=>?_⟩
  .rw[z01 _ _ _ _ q0 (by rw[h.lt];exact q1) hp,if_neg (λe=>hqp e.symm)];exact hown
  .rw[z01 _ _ _ _ q0 (by rw[h.lt];exact q1) h0];by_cases e:i=q
   .subst e;rw[if_pos rfl];refine .inr ⟨by simp,by rw[hown],?_⟩;rcases h.val i h0 h1 with h2|⟨_,h2,_⟩
    .rw[h2,hown] at c;exact c
    .rw[h2,hown] at c;exfalso;omega
   .rw[if_neg e];rcases h.val i h0 h1 with h2|⟨h2,h3,h4⟩
    .exact .inl h2
    .exact .inr ⟨w1g _ h2,h3,h4⟩
  .by_cases e:i=q
   .subst e;rw[z01 _ _ _ _ q0 (by rw[h.lt];exact q1) q0,if_pos rfl,z01 _ _ _ _ q0 (by rw[h.lt];exact q1) hp,if_neg (λe=>hqp e.symm)];omega
   .have hi:i∈seen:=by
     rcases w0k.1 hi with hi|hi
     .exact hi
     .exact absurd (w0d.1 hi) e
    rw[z01 _ _ _ _ q0 (by rw[h.lt];exact q1) hneg,if_neg e,z01 _ _ _ _ q0 (by rw[h.lt];exact q1) hp,if_neg (λe=>hqp e.symm)];exact h.got i hi hneg
 .rw[if_neg (by simpa using c)];refine⟨h.lt,hown,λi h0 h1=>?_,λi hi hneg=>?_⟩
  .rcases h.val i h0 h1 with h2|⟨h2,h3,h4⟩
   .exact .inl h2
   .exact .inr ⟨w1g _ h2,h3,h4⟩
  .rcases w0k.1 hi with hi|hi
   .exact h.got i hi hneg
   .rw[w0d.1 hi];omega
theorem zv0{d:List Bool}{p:Int}(hp:0<=p)(hp':p<(d.length:Int))(h:gt d p=false):(zu d p true).count true=d.count true+1:=by
 obtain⟨n,rfl⟩:∃n:Nat,p =(n:Int):=⟨p.toNat,by omega⟩;have hn:n<d.length:=by omega
 rw[z3l hn] at h;unfold zu;rw[w1t,List.count_set hn,h];simp
theorem y8d(hG:Gr P near wt){p:Int}(hp:0<=p)(hp':p<(P:Int)){k:Nat}{t0:List Int}{d:List Bool}(h:DI P near wt s k t0 d)(hs:0<=s)(hs':s<(P:Int))(hp0:0<=gt t0 p)(hd:gt d p=false)
  (hmin:∀i:Int,0<=i->i<(P:Int)->0<=gt t0 i->gt d i=false->gt t0 p<=gt t0 i) {t:List Int} (hr:RndI P near wt s p k t0 d (gt near p) t):DI P near wt s (k+1) t (zu d p true):=by
 have hds:∀i:Int,0<=i->gt (zu d p true) i=if i=p then true else gt d i:=λi hi=>z01 _ _ _ _ hp (by rw[h.ld];exact hp') hi
 have hw:∀i,i∈gt near p->1<=wt p i/\wt p i<=100000:=λi hi=>hG.wt p i hp hp' hi
 -- what is done stays
 have hdone:∀i:Int,0<=i->i<(P:Int)->gt d i=true->gt t i=gt t0 i:=by
  intro i h0 h1 hdi;rcases hr.val i h0 h1 with h2|⟨h2,h3,h4⟩
  .exact h2
  .have:=hw i h2
   have:=h.don i h0 h1 hdi;have:=h.mon i p h0 h1 hp hp' hdi hd hp0;omega
 have hbdp:=(h.bd p hp hp').resolve_left (by omega);refine⟨hr.lt,by rw[zp];exact h.ld,?_,λi h0 h1=>?_,λi h0 h1 hdi=>?_,λa h0 h1 has hta=>?_,λq i q0 q1 h0 h1 hdq hdi hti=>?_,λq i q0 q1 hdq hin=>?_,?_⟩
 .rcases hr.val s hs hs' with h2|⟨h2,h3,h4⟩
  .rw[h2,h.src]
  .have:=hw s h2
   have:=h.src;omega
 .rcases hr.val i h0 h1 with h2|⟨h2,h3,h4⟩
  .rw[h2];rcases h.bd i h0 h1 with h5|h5
   .exact .inl h5
   .right;omega
  .have:=hw i h2
   right;omega
 .rw[hds i h0] at hdi;by_cases e:i=p
  .subst e;rw[hr.own];exact hp0
  .rw[if_neg e] at hdi;rw[hdone i h0 h1 hdi];exact h.don i h0 h1 hdi
 .rcases hr.val a h0 h1 with h2|⟨h2,h3,h4⟩
  .rw[h2] at hta⊢;obtain⟨q,q0,q1,hdq,hqn,he⟩:=h.pre a h0 h1 has hta;refine⟨q,q0,q1,?_,hqn,by rw[hdone q q0 q1 hdq];exact he⟩;rw[hds q q0];split
   .rfl
   .exact hdq
  .obtain⟨hsy,hwt⟩:=hG.sym p a hp hp' h2;exact⟨p,hp,hp',by rw[hds p hp,if_pos rfl],hsy,by rw[hr.own,h3]⟩
 .rw[hds q q0] at hdq;rw[hds i h0] at hdi;have hip:i≠p:=λe=>by rw[if_pos e] at hdi;cases hdi
  rw[if_neg hip] at hdi;have hge:gt t0 p<=gt t i:=by
   rcases hr.val i h0 h1 with h2|⟨h2,h3,h4⟩
   .rw[h2] at hti⊢;exact hmin i h0 h1 hti hdi
   .have:=hw i h2;omega
  by_cases e:q=p
  .subst e;rw[hr.own];exact hge
  .rw[if_neg e] at hdq;have:=h.mon q p q0 q1 hp hp' hdq hd hp0;rw[hdone q q0 q1 hdq];omega
 .rw[hds q q0] at hdq;by_cases e:q=p
  .subst e;exact hr.got i hin (hG.rng q i hp hp' hin).1
  .rw[if_neg e] at hdq;obtain⟨i0,i1⟩:=hG.rng q i q0 q1 hin;have:=h.nbr q i q0 q1 hdq hin;rw[hdone q q0 q1 hdq];rcases hr.val i i0 i1 with h2|⟨h2,h3,h4⟩
   .rw[h2];exact this
   .have:=hw i h2;omega
 .rw[zv0 hp (by rw[h.ld];exact hp') hd,h.cnt]
structure DF(P:Nat)(near:List (List Int))(wt:Int->Int->Int)(s:Int)(t:List Int):Prop where
 lt:t.length=P
 src:gt t s=0
 bd:∀i:Int,0<=i->i<(P:Int)->gt t i=-1\/(0<=gt t i/\gt t i<=51200000)
 pre:∀a:Int,0<=a->a<(P:Int)->a≠s->0<=gt t a->∃q,0<=q/\q<(P:Int)/\q∈gt near a/\0<=gt t q/\gt t a=gt t q+wt q a
 nbr:∀q i:Int,0<=q->q<(P:Int)->0<=gt t q->i∈gt near q->0<=gt t i/\gt t i<=gt t q+wt q i
theorem yfb(hG:Gr P near wt){k:Nat}{t:List Int}{d:List Bool}(h:DI P near wt s k t d)(hall:∀i:Int,0<=i->i<(P:Int)->0<=gt t i->gt d i=true):DF P near wt s t:=by
 have hk:k<=P:=by rw[<- h.cnt,<- h.ld];exact w4t
 have:=hG.small;refine⟨h.lt,h.src,λi h0 h1=>?_,λa h0 h1 ha hta=>?_,λq i q0 q1 hq hi=>h.nbr q i q0 q1 (hall q q0 q1 hq) hi⟩
 .rcases h.bd i h0 h1 with h2|h2
  .exact .inl h2
  .right;omega
 .obtain⟨q,q0,q1,hdq,hqn,he⟩:=h.pre a h0 h1 ha hta;exact⟨q,q0,q1,hqn,h.don q q0 q1 hdq,he⟩
theorem y6b(hs:0<=s)(hs':s<(P:Int))(t:List Int)(ht:t.length=P)(hall:∀i:Int,0<=i->i<(P:Int)->gt t i=if i=s then 0 else-1):DI P near wt s 0 t (List.replicate P (default:Bool)):=by
 have hd:∀i:Int,0<=i->i<(P:Int)->gt (List.replicate P (default:Bool)) i=false:=λi h0 h1=>by rw[zed _ _ _ h0 (by omega)];rfl
 refine⟨ht,by simp,by rw[hall s hs hs',if_pos rfl],λi h0 h1=>?_,λi h0 h1 h=>?_,λa h0 h1 ha hta=>?_,λq i q0 q1 h0 h1 hdq=>?_,λq i q0 q1 hdq=>?_,?_⟩
 .rw[hall i h0 h1];split<;>omega
 .rw[hd i h0 h1] at h;cases h
 .rw[hall a h0 h1,if_neg ha] at hta;omega
 .rw[hd q q0 q1] at hdq;cases hdq
 .rw[hd q q0 q1] at hdq;cases hdq
 .simp[List.count_replicate]
end
section walk
variable{ρ:Type}{P:Nat}{near:List (List Int)}{wt:Int->Int->Int}{s:Int}
theorem yeu(hP:P<=512)(A:Nat->Int->Int->Option ρ)(fin:Int->Option ρ)(t:List Int)(d:List Bool)(ht:t.length=P)(hd:d.length=P)
  (stp:∀n p i,A (n+1) p i =(if(decide ((i:Int)<(P:Int)))=true then(ck ((0:Int)<=i/\i<(t.length:Int)) (ck (((decide ((0:Int)<=(gt t i)))=true)->(0:Int)<=i/\i<(d.length:Int)) (ck ((((decide ((0:Int)<=(gt t i)))&&(!(gt d i)))=true/\(decide ((p:Int)<0))=false)->(0:Int)<=i/\i<(t.length:Int)) (ck ((((decide ((0:Int)<=(gt t i)))&&(!(gt d i)))=true/\(decide ((p:Int)<0))=false)->(0:Int)<=p/\p<(t.length:Int)) (if(((decide ((0:Int)<=(gt t i)))&&(!(gt d i)))&&((decide ((p:Int)<0))||(decide (((gt t i):Int)<(gt t p)))))=true then(A n i (W (i+1))) else(A n p (W (i+1)))))))) else fin p)) (n:Nat) (hn:P<n) :
  ∃p,A n (-1) 0=fin p/\((p=-1/\∀i:Int,0<=i->i<(P:Int)->0<=gt t i->gt d i=true)\/(0<=p/\p<(P:Int)/\0<=gt t p/\gt d p=false/\∀i:Int,0<=i->i<(P:Int)->0<=gt t i->gt d i=false->gt t p<=gt t i)):=by
 refine zw (λn i(p:Int)=>A n p i) P (λi p=>(p=-1/\∀j:Int,0<=j->j<(i:Int)->0<=gt t j->gt d j=true)\/(0<=p/\p<(i:Int)/\0<=gt t p/\gt d p=false/\∀j:Int,0<=j->j<(i:Int)->0<=gt t j->gt d j=false->gt t p<=gt t j))
  (λo=>∃p,o=fin p/\((p=-1/\∀i:Int,0<=i->i<(P:Int)->0<=gt t i->gt d i=true)\/(0<=p/\p<(P:Int)/\0<=gt t p/\gt d p=false/\∀i:Int,0<=i->i<(P:Int)->0<=gt t i->gt d i=false->gt t p<=gt t i))) ?_ ?_ n (-1) (.inl ⟨rfl,λj h0 h1=>by omega⟩) hn
 .intro n i p hi hI hs;rw[stp,if_pos (by simp;omega),z6 ⟨by omega,by omega⟩,z6 (λ_=>⟨by omega,by omega⟩),z6 (λ_=>⟨by omega,by omega⟩),W_id (by omega) (by omega)];have hpr :(decide ((p:Int)<0))=false->(0:Int)<=p/\p<(t.length:Int):=by
   intro h;simp only[decide_eq_false_iff_not] at h;rcases hI with⟨rfl,_⟩|⟨h1,h2,_⟩
   .omega
   .exact⟨h1,by omega⟩
  rw[z6 (λh=>hpr h.2)];have split_j:∀j:Int,j<((i+1:Nat):Int)->j<(i:Int)\/j =(i:Int):=λj h=>by omega
  by_cases c :(0<=gt t (i:Int)/\gt d (i:Int)=false)/\(p<0\/gt t (i:Int)<gt t p)
  .rw[if_pos (by simpa using c)];refine hs _ (.inr ⟨by omega,by omega,c.1.1,c.1.2,λj h0 h1 htj hdj=>?_⟩);rcases split_j j h1 with h2|rfl
   .rcases hI with⟨_,h3⟩|⟨q0,_,_,_,h3⟩
    .have:=h3 j h0 h2 htj;rw[hdj] at this;cases this
    .have:=h3 j h0 h2 htj hdj
     have:=c.2.resolve_left (by omega);omega
   .exact w1i _
  .rw[if_neg (by simpa using c)];refine hs p ?_;rcases hI with⟨rfl,h3⟩|⟨q0,q1,q2,q3,h3⟩
   .refine .inl ⟨rfl,λj h0 h1 htj=>?_⟩;rcases split_j j h1 with h2|rfl
    .exact h3 j h0 h2 htj
    .cases hdi:gt d (i:Int) with
     |true=>rfl
     |false=>exact absurd ⟨⟨htj,hdi⟩,.inl (by omega)⟩ c
   .refine .inr ⟨q0,by omega,q2,q3,λj h0 h1 htj hdj=>?_⟩;rcases split_j j h1 with h2|rfl
    .exact h3 j h0 h2 htj hdj
    .rcases Int.lt_or_le (gt t (i:Int)) (gt t p) with h4|h4
     .exact absurd ⟨⟨htj,hdj⟩,.inr h4⟩ c
     .exact h4
 .intro n p hI;rw[stp,if_neg (by simp)];exact⟨p,rfl,hI⟩
theorem yer(hG:Gr P near wt){p:Int}(hp:0<=p)(hp':p<(P:Int)){k:Nat}(hk:k<=512){t0:List Int}{d:List Bool}(hD:DI P near wt s k t0 d)(hp0:0<=gt t0 p)(B:Nat->Int->List Int->Option ρ)(K:List Int->Option ρ)(nb:List Int)(hnb:nb=gt near p)(E:Nat)(lg:Int->Int)(mins:Int->Int)
  (hlg:∀q∈nb,0<=lg q/\lg q<(E:Int)/\mins (lg q)=wt p q)
  (stp:∀n i t,B (n+1) i t =(if(decide ((i:Int)<(nb.length:Int)))=true then(ck ((0:Int)<=i/\i<(nb.length:Int)) (ck ((0:Int)<=p/\p<(t.length:Int)) (ck ((0:Int)<=lg (gt nb i)/\lg (gt nb i)<(E:Int)) (ck ((0:Int)<=(gt nb i)/\(gt nb i)<(t.length:Int)) (ck (((decide (((gt t (gt nb i)):Int)<0))=false)->(0:Int)<=(gt nb i)/\(gt nb i)<(t.length:Int)) (if((decide (((gt t (gt nb i)):Int)<0))||(decide (((W ((gt t p)+mins (lg (gt nb i)))):Int)<(gt t (gt nb i)))))=true then(ck ((0:Int)<=(gt nb i)/\(gt nb i)<(t.length:Int)) (B n (W (i+1)) (zu t (gt nb i) (W ((gt t p)+mins (lg (gt nb i))))))) else(B n (W (i+1)) t))))))) else K t)) (n:Nat) (hn:nb.length<n) :
  ∃t,B n 0 t0=K t/\RndI P near wt s p k t0 d nb t:=by
 have hsz:nb.length<=5000:=by rw[hnb];exact hG.size p hp hp'
 have hbp:=(hD.bd p hp hp').resolve_left (by omega);refine zw (λn i t=>B n i t) nb.length (λi t=>RndI P near wt s p k t0 d (nb.take i) t) (λo=>∃t,o=K t/\RndI P near wt s p k t0 d nb t) ?_ ?_ n t0 (y47 hD) hn
 .intro n i t hi hI hs;have hm:gt nb (i:Int)∈gt near p:=by rw[<- hnb];exact z8s (by omega) (by omega)
  obtain⟨q0,q1⟩:=hG.rng p _ hp hp' hm;obtain⟨w0,w1⟩:=hG.wt p _ hp hp' hm;obtain⟨l0,l1,l2⟩:=hlg (gt nb (i:Int)) (by rw[hnb];rw[hnb] at hm;exact hm);have hlt:=hI.lt;have hst:=y8c hG hp hp' hp0 hI hm;rw[<- z2p nb i hi] at hst;have hr:=hs _ hst;have hown:=hI.own;rw[stp,if_pos (by simp;omega),z6 ⟨by omega,by omega⟩,z6 ⟨by omega,by omega⟩,z6 ⟨l0,l1⟩,z6 ⟨by omega,by omega⟩,z6 (λ_=>⟨by omega,by omega⟩),l2,W_id (x:=gt t p+_) (by omega) (by omega),W_id (by omega) (by omega)];generalize gt nb (i:Int)=q at *;by_cases c :(decide (gt t q<0)||decide (gt t p+wt p q<gt t q))=true
  .rw[if_pos c] at hr⊢;rw[z6 ⟨by omega,by omega⟩];exact hr
  .rw[if_neg c] at hr⊢;exact hr
 .intro n t hI;rw[stp,if_neg (by simp)];rw[w1z] at hI;exact⟨t,rfl,hI⟩
theorem y8r(hG:Gr P near wt)(hs:0<=s)(hs':s<(P:Int))(M:Nat->List Int->List Bool->Option ρ)(fin:List Int->Option ρ)(φ:Nat)
  (rnd:∀n k t d,k<=512->DI P near wt s k t d->(∃t',DF P near wt s t'/\M (n+1) t d=fin t')\/(∃t' p,0<=p/\p<(P:Int)/\DI P near wt s (k+1) t' (zu d p true)/\M (n+1) t d=M n t' (zu d p true))) :
  ∀n k t d,DI P near wt s k t d->P<n+k->∃t',DF P near wt s t'/\M n t d=fin t':=by
 intro n
 induction n with
 |zero=>
  intro k t d h hn;have hk:k<=P:=by rw[<- h.cnt,<- h.ld];exact w4t
  omega
 |succ n ih=>
  intro k t d h hn;have hk:k<=P:=by rw[<- h.cnt,<- h.ld];exact w4t
  have:=hG.small;rcases rnd n k t d (by omega) h with h1|⟨t',p,_,_,h2,h3⟩
  .exact h1
  .rw[h3];exact ih (k+1) t' _ h2 (by omega)
end walk
end Px
end
section
namespace Px
open Go
section
variable(φ:Nat)(K:List Edge->Int->Int->z00->List (List Int)->Ln->Option (zr×Int×Unit))(x:z00)
theorem zj6{i:Nat}(hi:i<x.edges.length){P:Nat}{near:List (List Int)}{line:Ln}{a b:Int}(hl:near.length=P)(ha:0<=a)(ha':a<(P:Int))(hsz :(gt near a).length<=10000)(hx:x.edges.length<=2048)(hold:∀o,lget line a b=some o->0<=o/\o<(x.edges.length:Int)):
  (if(!(lget line a b).isSome)=true then(ck ((0:Int)<=a/\a<(near.length:Int)) (ck ((0:Int)<=a/\a<(near.length:Int)) (ck ((a:Int)=a) (ck (fits ((gt near a).length+([b]).length) 8) (ck ((0:Int)<=a/\a<(near.length:Int)) (ck ((a:Int)=a) (z3w φ K i ((lget line a b).getD default) ((lget line a b).isSome) x.edges (x.edges.length:Int) i x (keyP a b) (zu near a (gt near a++[b])) line))))))) else(z3w φ K i ((lget line a b).getD default) ((lget line a b).isSome) x.edges (x.edges.length:Int) i x (keyP a b) near line)) =
  K x.edges (x.edges.length:Int) ((i:Int)+1) x (ent1 x.edges i a b (near,line)).1 (ent1 x.edges i a b (near,line)).2:=by
 have hW:W ((i:Int)+1) =(i:Int)+1:=W_id (by omega) (by omega);unfold z3w ent1;simp only[];cases h:lget line a b with
 |none=>simp only[w53,w2m,if_true,w5h,Bool.true_or];rw[z6 ⟨ha,by omega⟩,z6 ⟨ha,by omega⟩,z6 trivial,z6 (y9b (by simp;omega) (by omega)),z6 ⟨ha,by omega⟩,z6 trivial,z6 (by simp),z6 (by simp),hW]
 |some o=>
  have ho:=hold o h;simp only[w54,w1r,w0t,if_false,w19,w26];rw[z6 (λ_=>⟨by omega,by omega⟩),z6 (λ_=>ho),hW];by_cases c:decide ((gt x.edges (i:Int)).minutes<(gt x.edges o).minutes)=true
  .rw[if_pos c,if_pos c]
  .rw[if_neg c,if_neg c]
theorem zsb{i:Nat}(hi:i<x.edges.length){P:Nat}{near:List (List Int)}{line:Ln}{a b:Int}(hl:near.length=P)(ha:0<=a)(ha':a<(P:Int))(hsz :(gt near a).length<=10000)(hx:x.edges.length<=2048)(hold:∀o,lget line a b=some o->0<=o/\o<(x.edges.length:Int)):
  (if(!(lget line a b).isSome)=true then(ck ((0:Int)<=a/\a<(near.length:Int)) (ck ((0:Int)<=a/\a<(near.length:Int)) (ck ((a:Int)=a) (ck (fits ((gt near a).length+([b]).length) 8) (ck ((0:Int)<=a/\a<(near.length:Int)) (ck ((a:Int)=a) (z3x φ K i ((lget line a b).getD default) ((lget line a b).isSome) x.edges (x.edges.length:Int) i x (keyP a b) (zu near a (gt near a++[b])) line))))))) else(z3x φ K i ((lget line a b).getD default) ((lget line a b).isSome) x.edges (x.edges.length:Int) i x (keyP a b) near line)) =
  K x.edges (x.edges.length:Int) ((i:Int)+1) x (ent1 x.edges i a b (near,line)).1 (ent1 x.edges i a b (near,line)).2:=zj6 φ K x hi hl ha ha' hsz hx hold
theorem zj5(hx:zl3 x){i:Nat}(hi:i<x.edges.length){near near1:List (List Int)}{line:Ln}(old:Int)(sm:Bool)(hl:near1.length=x.places.length)(ho:sm=true->0<=old/\old<(x.edges.length:Int))
  (hsz :(gt near1 (gt x.edges (i:Int)).b).length<=10000) (hline:∀a b o,lget line a b=some o->0<=o/\o<(x.edges.length:Int)) (line1:Ln) (h1:line1=if(!sm||decide ((gt x.edges (i:Int)).minutes<(gt x.edges old).minutes))=true then lset line (gt x.edges (i:Int)).a (gt x.edges (i:Int)).b i else line) :
  z3v φ K i old sm i x.edges (x.edges.length:Int) i x (keyP (gt x.edges (i:Int)).a (gt x.edges (i:Int)).b) (gt x.edges (i:Int)) near1 line =
  K x.edges (x.edges.length:Int) ((i:Int)+1) x (ent1 x.edges i (gt x.edges (i:Int)).b (gt x.edges (i:Int)).a (near1,line1)).1 (ent1 x.edges i (gt x.edges (i:Int)).b (gt x.edges (i:Int)).a (near1,line1)).2:=by
 obtain⟨e1,e2,e3,e4,e5,_⟩:=hx.ends (i:=(i:Int)) (by omega) (by omega);unfold z3v;rw[z6 (λ_=>⟨by omega,by omega⟩),z6 (λh=>ho (by simpa using h))];by_cases c :(!sm||decide ((gt x.edges (i:Int)).minutes<(gt x.edges old).minutes))=true
 .rw[if_pos c] at h1⊢;subst h1;refine zj6 φ K x hi hl e3 e4 hsz hx.edges λo h=>?_
  rw[zm6,if_neg (λq=>e5 q.1.symm)] at h;exact hline _ _ o h
 .rw[if_neg c] at h1⊢;subst h1;exact zsb φ K x hi hl e3 e4 hsz hx.edges λo h=>hline _ _ o h
end
section
variable(φ:Nat)(x:z00)
theorem zys(hx:zl3 x)(n:Nat){i:Nat}(hi:i<x.edges.length){s:List (List Int)×Ln}(h:HI x.edges x.places.length i s):
  z06 φ (n+1) x.edges (x.edges.length:Int) i x s.1 s.2=z06 φ n x.edges (x.edges.length:Int) ((i:Int)+1) x (entE x.edges i s).1 (entE x.edges i s).2:=by
 obtain⟨e1,e2,e3,e4,e5,_⟩:=hx.ends (i:=(i:Int)) (by omega) (by omega);have hE:=hx.edges;have hline:∀a b o,lget s.2 a b=some o->0<=o/\o<(x.edges.length:Int):=λa b o ho=>by obtain⟨h1,h2,_⟩:=h.line _ _ _ ho;exact⟨h1,by omega⟩
 have hsa:=h.size _ e1 e2;have hsb:=h.size _ e3 e4;have hlen:=h.len;rw[z06,if_pos (by simp;omega),z6 ⟨by omega,by omega⟩];unfold entE;generalize hs1:ent1 x.edges i (gt x.edges (i:Int)).a (gt x.edges (i:Int)).b s=s1;have hs1':=hs1;unfold ent1 at hs1';cases hg:lget s.2 (gt x.edges (i:Int)).a (gt x.edges (i:Int)).b with
 |none=>have hg':cget z4c s.2 (upd (upd (λ_=>(default:Int)) 0 (gt x.edges (i:Int)).a) 1 (gt x.edges (i:Int)).b)=none:=hg;rw[hg] at hs1';simp only[w53,w2m,if_true,w5h,Bool.true_or] at hs1';rw[hg'];simp only[w53,w2m,if_true,w5h];rw[z6 ⟨e1,by omega⟩,z6 ⟨e1,by omega⟩,z6 trivial,z6 (y9b (by simp;omega) (by omega)),z6 ⟨e1,by omega⟩,z6 trivial,<- hs1'];refine zj5 φ (z06 φ n) x hx hi (near:=s.1) _ _ (by rw[zp];exact hlen) (λh=>by cases h) ?_ hline _ (by simp);rw[z01 _ _ _ _ e1 (by omega) e3,if_neg (λq=>e5 q.symm)];omega
 |some o=>have hg':cget z4c s.2 (upd (upd (λ_=>(default:Int)) 0 (gt x.edges (i:Int)).a) 1 (gt x.edges (i:Int)).b)=some o:=hg;rw[hg] at hs1';simp only[w54,w1r,w0t,if_false,w19,w26] at hs1';rw[hg'];simp only[w54,w1r,w0t,if_false,w19];rw[<- hs1'];exact zj5 φ (z06 φ n) x hx hi (near:=s.1) _ _ hlen (λ_=>hline _ _ _ hg) (by omega) hline _ (by simp)
theorem zyr(hx:zl3 x)(hφ:5000<φ)(line:Ln):z1u φ φ ((zgv x).length:Int) 0 (zgv x) line=some (⟨z54 x,line⟩,0,()):=by
 have hl0 :(zgv x).length=x.places.length:=(zf0 hx x.edges.length (w0x _)).len;have hP:=hx.places;have hE:=hx.edges;obtain⟨n0,hn0⟩:∃n0,n0=x.places.length:=⟨_,rfl⟩;rw[<- hn0] at hl0 hP;rw[hl0];have hfin:∀o:List (List Int),o.length=n0->(∀w:Nat,w<n0->gt o (w:Int)=zqp (λa b=>decide (a<b)) (gt (zgv x) (w:Int)))->o=z54 x:=by
  intro o ho hw;unfold z54;refine List.ext_getElem (by simp[ho,hl0]) λi h1 h2=>?_
  have:=hw i (by omega);rw[z3l h1,z3l (by omega)] at this;simpa using this
 refine zw (λn i o=>z1u φ n (n0:Int) i o line) n0 (λi o=>o.length=n0/\∀w:Nat,w<n0->gt o (w:Int)=if w<i then zqp (λa b=>decide (a<b)) (gt (zgv x) (w:Int)) else gt (zgv x) (w:Int)) (λo=>o=some (⟨z54 x,line⟩,0,())) ?_ ?_ φ (zgv x) ⟨hl0,λw hw=>by rw[if_neg (by omega)]⟩ (by omega)
 .intro n i o hi ⟨ho1,ho2⟩ hs;have hsz:=(zf0 hx x.edges.length (w0x _)).size (i:Int) (by omega) (by omega);have hsz :(gt (zgv x) (i:Int)).length<=2*x.edges.length:=hsz;have hso:zri (gt (zgv x) (i:Int))=some (zqp (λa b=>decide (a<b)) (gt (zgv x) (i:Int))):=by unfold zri zl1;rw[if_pos (by omega)]
  rw[z1u,if_pos (by simp;omega),z6 ⟨by omega,by omega⟩,z6 ⟨by omega,by omega⟩,z6 rfl,ho2 i hi,if_neg (by omega),hso,w03,W_id (by omega) (by omega)];refine hs _ ⟨by rw[zp];exact ho1,λw hw=>?_⟩;rw[z01 _ _ _ _ (by omega) (by omega) (by omega)];by_cases e:w=i
  .subst e;rw[if_pos rfl,if_pos (by omega)]
  .rw[if_neg (by omega),ho2 w hw];by_cases h2:w<i
   .rw[if_pos h2,if_pos (by omega)]
   .rw[if_neg h2,if_neg (by omega)]
 .intro n o ⟨ho1,ho2⟩;have:=hfin o ho1 λw hw=>by rw[ho2 w hw,if_pos hw]
  subst this;rw[z1u,if_neg (by simp)]
theorem y0k(hx:zl3 x)(hφ:5000<φ):z06 φ φ x.edges (x.edges.length:Int) 0 x (List.replicate ((x.places.length:Int)).toNat (default:List Int)) []=some (⟨z54 x,zac x⟩,0,()):=by
 have hE:=hx.edges;have h0 :(List.replicate ((x.places.length:Int)).toNat (default:List Int),([]:Ln))=zj4 x.edges x.places.length 0:=by simp[zj4]
 refine zw (λn i(s:List (List Int)×Ln)=>z06 φ n x.edges (x.edges.length:Int) i x s.1 s.2) x.edges.length (λi s=>s=zj4 x.edges x.places.length i) (λo=>o=some (⟨z54 x,zac x⟩,0,())) ?_ ?_ φ (List.replicate ((x.places.length:Int)).toNat (default:List Int),[]) h0 (by omega)
 .intro n i s hi hs hk;subst hs;rw[zys φ x hx n hi (zf0 hx i (by omega))];exact hk _ rfl
 .intro n s hs;subst hs;rw[z06,if_neg (by simp)];exact zyr φ x hx hφ (zac x)
theorem y4t(hx:zl3 x)(hφ:800000<φ)(a0:Int)(hs:0<=a0)(hs':a0<(x.places.length:Int)):∃t,DF x.places.length (z54 x) (wtN x) a0 t/\z9p φ x ⟨z54 x,zac x⟩ a0=some (t,()):=by
 have hG:=grN hx;have hP:=hx.places;have hrep :(List.replicate ((x.places.length:Int):Int).toNat (default:Int)).length=x.places.length:=by simp
 unfold z9p;rw[hrep];have e1 :((x.places.length:Int)).toNat=x.places.length:=by simp
 rw[e1,z6 (mk_t _ _ (by omega) (by omega) (by omega)),z6 (mk_t _ _ (by omega) (by omega) (by omega))];have search:∀t:List Int,t.length=x.places.length->(∀i:Int,0<=i->i<(x.places.length:Int)->gt t i=if i=a0 then 0 else-1)->
   ∃t',DF x.places.length (z54 x) (wtN x) a0 t'/\z07 φ φ x ⟨z54 x,zac x⟩ t (List.replicate x.places.length (default:Bool))=some (t',()):=by
  intro t ht hall;refine y8r hG hs hs' (λn t d=>z07 φ n x ⟨z54 x,zac x⟩ t d) (λt'=>some (t',())) φ ?_ φ 0 t _ (y6b hs hs' t ht hall) (by omega);intro n k t d hk hD;obtain⟨p,hp1,hp2⟩:=yeu hP (λm p i=>z1v φ (z07 φ n) m p (x.places.length:Int) i x ⟨z54 x,zac x⟩ t d)
   (λp=>(if(decide ((p:Int)<0))=true then(some (t,())) else(ck ((0:Int)<=p/\p<(d.length:Int)) (ck ((0:Int)<=p/\p<((z54 x).length:Int)) (z1w φ (z07 φ n) φ p (gt (z54 x) p) ((gt (z54 x) p).length:Int) 0 x ⟨z54 x,zac x⟩ t (zu d p true))))))
   t d hD.lt hD.ld (λm p i=>by rw[z1v]) φ (by omega)
  have hM:z07 φ (n+1) x ⟨z54 x,zac x⟩ t d=z1v φ (z07 φ n) φ (-1) (x.places.length:Int) 0 x ⟨z54 x,zac x⟩ t d:=by rw[z07,hD.lt]
  try simp only[] at hp1
  simp only[hM];rw[hp1];rcases hp2 with⟨rfl,hall⟩|⟨p0,p1,p2,p3,p4⟩
  .left
   refine⟨t,yfb hG hD hall,?_⟩;rw[if_pos (by decide)]
  .right
   rw[if_neg (by simp;omega),z6 ⟨p0,by rw[hD.ld];exact p1⟩,z6 ⟨p0,by rw[hG.len];exact p1⟩];obtain⟨t',h1,h2⟩:=yer hG p0 p1 hk hD p2 (λm i t=>z1w φ (z07 φ n) m p (gt (z54 x) p) ((gt (z54 x) p).length:Int) i x ⟨z54 x,zac x⟩ t (zu d p true))
    (λt=>z07 φ n x ⟨z54 x,zac x⟩ t (zu d p true)) (gt (z54 x) p) rfl x.edges.length (λq=>(lget (zac x) p q).getD default) (λi=>(gt x.edges i).minutes)
    (λq hq=>by obtain⟨i,hi,i0,i1,_⟩:=zqt hx p0 p1 hq;rw[hi];exact⟨i0,i1,by unfold wtN;rw[hi]⟩) (λm i t=>by rw[z1w]) φ (by have:=hG.size p p0 p1;omega)
   exact⟨t',p,p0,p1,y8d hG p0 p1 hD hs hs' p2 p3 p4 h2,h1⟩
 refine zw (λn i t=>z2w φ n a0 (x.places.length:Int) i x ⟨z54 x,zac x⟩ t (List.replicate x.places.length (default:Bool))) x.places.length (λi t=>t.length=x.places.length/\∀j:Int,0<=j->j<(i:Int)->gt t j=-1) (λo=>∃t,DF x.places.length (z54 x) (wtN x) a0 t/\o=some (t,())) ?_ ?_ φ (List.replicate x.places.length (default:Int)) ⟨by simp,λj j0 j1=>by omega⟩ (by omega)
 .intro n i t hi ⟨h1,h2⟩ hs;rw[z2w,if_pos (by simp;omega),z6 ⟨by omega,by omega⟩,W_id (by omega) (by omega)];refine hs _ ⟨by rw[zp];exact h1,λj j0 j1=>?_⟩;rw[z01 _ _ _ _ (by omega) (by omega) j0];by_cases e:j =(i:Int)
  .rw[if_pos e]
  .rw[if_neg e];exact h2 j j0 (by omega)
 .intro n t ⟨h1,h2⟩;rw[z2w,if_neg (by simp),z6 ⟨hs,by omega⟩];exact search (zu t a0 0) (by rw[zp];exact h1) (λi i0 i1=>by
   rw[z01 _ _ _ _ hs (by omega) i0];split
   .rfl
   .exact h2 i i0 i1)
end
theorem y5m(φ:Nat)(hφ:800000<φ)(x:z00)(a b:Int):∃e,(z9z x=0/\(0<=a/\a<(x.places.length:Int))/\(0<=b/\b<(x.places.length:Int))/\z70 φ x [a,b]=some (⟨z54 x,zac x⟩,0,()))\/(e≠0/\∃g,z70 φ x [a,b]=some (g,e,())):=by
 unfold z70;rw[zdl _ (by omega),w03];by_cases hn:z9z x=0
 case neg=>exact⟨z9z x,.inr ⟨hn,_,by rw[if_pos (by simpa using hn)]⟩⟩
 have hx:=ye0 hn;have hP:=hx.places;rw[if_neg (by simp[hn])];obtain⟨m,rfl⟩:∃m,φ=m+3:=⟨φ-3,by omega⟩;have g0:gt [a,b] 0=a:=rfl;have g1:gt [a,b] 1=b:=rfl;have L :((([a,b]:List Int).length:Nat):Int)=2:=rfl;rw[L,show m+3 =(m+2)+1 from rfl,z3b,if_pos (by decide),z6 (by rw[L];decide),g0];by_cases ha:0<=a/\a<(x.places.length:Int)
 case neg=>rw[if_pos (by simp;omega)];exact⟨1,.inr ⟨by omega,_,rfl⟩⟩
 rw[if_neg (by simp;omega),show W (0+1)=1 by rfl,show m+2 =(m+1)+1 from rfl,z3b,if_pos (by decide),z6 (by rw[L];decide),g1];by_cases hb:0<=b/\b<(x.places.length:Int)
 case neg=>rw[if_pos (by simp;omega)];exact⟨1,.inr ⟨by omega,_,rfl⟩⟩
 rw[if_neg (by simp;omega),show W (1+1)=2 by rfl,z3b,if_neg (by decide),z6 (mk_t _ _ (by omega) (by omega) (by omega)),y0k (m+1+1+1) x hx (by omega)];exact⟨0,.inl ⟨hn,ha,hb,rfl⟩⟩
theorem zyi(φ:Nat)(hφ:800000<φ)(x:z00)(a b:Int):∃t e,z35 φ x a b=some (t,e,())/\0<=t/\t<=51200000:=by
 unfold z35;obtain⟨e,⟨hn,ha,hb,h⟩|⟨he,g,h⟩⟩:=y5m φ hφ x a b
 .have hx:=ye0 hn;rw[h,w03,if_neg (by simp)];obtain⟨t,h1,h2⟩:=y4t φ x hx hφ a ha.1 ha.2;rw[h2,w03,z6 ⟨hb.1,by rw[h1.lt];exact hb.2⟩];rcases h1.bd b hb.1 hb.2 with h3|⟨h3,h4⟩
  .rw[if_pos (by simp;omega)];exact⟨0,80,rfl,by omega,by omega⟩
  .rw[if_neg (by simp;omega)];exact⟨_,0,rfl,h3,h4⟩
 .rw[h,w03,if_pos (by simpa using he)];exact⟨0,e,rfl,by omega,by omega⟩
end Px
end
section
namespace Px
open Go
theorem yfa(φ:Nat)(hφ:800000<φ):zg5 φ:=zyi φ hφ
end Px
end
section
namespace Px
open Go
set_option maxRecDepth 100000
theorem ze6{n b:Nat}(h:n<=100000)(hb:b<=1000):fits n b:=by unfold fits;exact w34 (Nat.mul_le_mul h hb) (by omega)
theorem zc6(φ:Nat)(x:Int){n:Int}(h:0<=n/\n<=32):∃y,z2x φ x n=some (y,()):=by unfold z2x;rw[z6 h.1,z6 (by rw[W_id (by omega) (by omega)];omega)];exact⟨_,rfl⟩
theorem zs9(φ:Nat)(hφ:100<φ)(b c:Nat->Int)(a:Nat->Int):∃y,z37 φ φ 0 a b c=some (y,()):=by
 refine zw (λn i a=>z37 φ n i a b c) 8 (λ_ _=>True) (λo=>∃y,o=some (y,())) ?_ ?_ φ a trivial (by omega)
 .intro n i a hi _ hs;rw[z37,if_pos (by simp;omega),z6 ⟨by omega,by omega⟩,z6 ⟨by omega,by omega⟩,z6 ⟨by omega,by omega⟩,W_id (by omega) (by omega)];exact hs _ trivial
 .intro n a _;rw[z37,if_neg (by simp)];exact⟨_,rfl⟩
theorem zs8(φ:Nat)(hφ:100<φ)(a b c d e:Nat->Int):∃y,z36 φ φ 0 a b c d e=some (y,()):=by
 refine zw (λn i e=>z36 φ n i a b c d e) 64 (λ_ _=>True) (λo=>∃y,o=some (y,())) ?_ ?_ φ e trivial (by omega)
 .intro n i e hi _ hs;obtain⟨y1,r1⟩:=zc6 φ (e ((4:Int).toNat)) (n:=6) (by omega);obtain⟨y2,r2⟩:=zc6 φ (e ((4:Int).toNat)) (n:=11) (by omega);obtain⟨y3,r3⟩:=zc6 φ (e ((4:Int).toNat)) (n:=25) (by omega);obtain⟨y4,r4⟩:=zc6 φ (e ((0:Int).toNat)) (n:=2) (by omega);obtain⟨y5,r5⟩:=zc6 φ (e ((0:Int).toNat)) (n:=13) (by omega);obtain⟨y6,r6⟩:=zc6 φ (e ((0:Int).toNat)) (n:=22) (by omega);rw[z36,if_pos (by simp;omega),r1,w03,r2,w03,r3,w03,z6 ⟨by omega,by omega⟩,z6 ⟨by omega,by omega⟩,r4,w03,r5,w03,r6,w03,W_id (by omega) (by omega)];exact hs _ trivial
 .intro n e _;rw[z36,if_neg (by simp)];exact zs9 φ hφ _ _ _
theorem zn6(φ:Nat)(hφ:100<φ)(a b:Nat->Int):∃y,z1i φ φ 16 a b=some (y,()):=by
 refine zw (λn i b=>z1i φ n (i+16) a b) 48 (λ_ _=>True) (λo=>∃y,o=some (y,())) ?_ ?_ φ b trivial (by omega)
 .intro n i b hi _ hs;have w15:W ((i:Int)+16-15) =(i:Int)+1:=by rw[W_id (by omega) (by omega)];omega
  have w2:W ((i:Int)+16-2) =(i:Int)+14:=by rw[W_id (by omega) (by omega)];omega
  have w16:W ((i:Int)+16-16) =(i:Int):=by rw[W_id (by omega) (by omega)];omega
  have w7:W ((i:Int)+16-7) =(i:Int)+9:=by rw[W_id (by omega) (by omega)];omega
  have w1:W ((i:Int)+16+1) =(i:Int)+1+16:=by rw[W_id (by omega) (by omega)];omega
  obtain⟨y1,r1⟩:=zc6 φ (b (((i:Int)+1).toNat)) (n:=7) (by omega);obtain⟨y2,r2⟩:=zc6 φ (b (((i:Int)+1).toNat)) (n:=18) (by omega);obtain⟨y3,r3⟩:=zc6 φ (b (((i:Int)+14).toNat)) (n:=17) (by omega);obtain⟨y4,r4⟩:=zc6 φ (b (((i:Int)+14).toNat)) (n:=19) (by omega);rw[z1i,if_pos (by simp;omega),w15,w2,w16,w7,w1,z6 ⟨by omega,by omega⟩,r1,w03,z6 ⟨by omega,by omega⟩,r2,w03,z6 ⟨by omega,by omega⟩,if_pos (by omega),z6 ⟨by omega,by omega⟩,r3,w03,z6 ⟨by omega,by omega⟩,r4,w03,z6 ⟨by omega,by omega⟩,if_pos (by omega),z6 ⟨by omega,by omega⟩,z6 ⟨by omega,by omega⟩,z6 ⟨by omega,by omega⟩];exact hs _ trivial
 .intro n b _;rw[z1i,if_neg (by simp)];exact⟨_,rfl⟩
theorem zw8(φ:Nat)(hφ:100<φ)(l:List Int)(hl:l.length=64):∃y,z8k φ l=some (y,()):=by
 unfold z8k;refine zw (λn i b=>z2y φ n l i (λ_=>(default:Int)) b) 16 (λ_ _=>True) (λo=>∃y,o=some (y,())) ?_ ?_ φ _ trivial (by omega)
 .intro n i b hi _ hs;have w4:W (4*(i:Int))=4*(i:Int):=W_id (by omega) (by omega);have w1:W (4*(i:Int)+1)=4*(i:Int)+1:=W_id (by omega) (by omega);have w2:W (4*(i:Int)+2)=4*(i:Int)+2:=W_id (by omega) (by omega);have w3:W (4*(i:Int)+3)=4*(i:Int)+3:=W_id (by omega) (by omega);have wi:W ((i:Int)+1) =(i:Int)+1:=W_id (by omega) (by omega);rw[z2y,if_pos (by simp;omega),w4,w1,w2,w3,wi,z6 ⟨by omega,by omega⟩,if_pos (by omega),z6 ⟨by omega,by omega⟩,if_pos (by omega),z6 ⟨by omega,by omega⟩,if_pos (by omega),z6 ⟨by omega,by omega⟩,z6 ⟨by omega,by omega⟩];exact hs _ trivial
 .intro n b _;rw[z2y,if_neg (by simp)];exact zn6 φ hφ _ _
theorem y5l(φ:Nat)(hφ:100<φ)(a:Nat->Int)(l:List Int)(hl:l.length=64):∃y,zd5 φ a l=some (y,()):=by obtain⟨y,h⟩:=zw8 φ hφ l hl;unfold zd5;rw[h,w03];unfold zam;rw[w03];exact zs8 φ hφ _ _ _ _ _
theorem ztn(φ:Nat)(hφ:100<φ)(x:Int)(s:List Int)(hs:s.length<=10000):∃y,z38 φ φ x 0 s=some (y,())/\y.length=s.length+8:=by
 refine zw (λn i t=>z38 φ n x i t) 8 (λi t=>t.length=s.length+i) (λo=>∃y,o=some (y,())/\y.length=s.length+8) ?_ ?_ φ s (by simp) (by omega)
 .intro n i t hi ht hk;have w8:W (8*(i:Int))=8*(i:Int):=W_id (by omega) (by omega);have w56:W (56-8*(i:Int))=56-8*(i:Int):=W_id (by omega) (by omega);have wi:W ((i:Int)+1) =(i:Int)+1:=W_id (by omega) (by omega);rw[z38,if_pos (by simp;omega),w8,w56,wi,z6 (by omega),z6 (ze6 (by simp;omega) (by omega))];exact hk _ (by simp;omega)
 .intro n t ht;rw[z38,if_neg (by simp)];exact⟨_,rfl,ht⟩
theorem zjk(φ:Nat)(hφ:100<φ)(x:List Int):∀(k n:Nat)(s:List Int),s.length+k<=9000->k<=63->(s.length+k) % 64=56->k<n->∃y,z41 φ n x s=some (y,())/\y.length=s.length+k+8
 |k,0,s,_,_,_,hn=>by omega
 |0,n+1,s,h1,h2,h3,_=>by have hm :((s.length:Int)).tmod 64 =((s.length % 64:Nat):Int):=rfl;obtain⟨y,e1,e2⟩:=ztn φ hφ (U ((U ((x.length:Int)))*8)) s (by omega);rw[z41,if_pos (by omega),hm,if_neg (by simp;omega)];exact⟨y,e1,by omega⟩
 |k+1,n+1,s,h1,h2,h3,hn=>by have hm :((s.length:Int)).tmod 64 =((s.length % 64:Nat):Int):=rfl;obtain⟨y,e1,e2⟩:=zjk φ hφ x k n (s++[0]) (by simp;omega) (by omega) (by simp;omega) (by omega);rw[z41,if_pos (by omega),hm,if_pos (by simp;omega),z6 (ze6 (by simp;omega) (by omega))];exact⟨y,e1,by simp at e2;omega⟩
theorem y3t(φ:Nat)(hφ:100<φ)(x:List Int)(hx:x.length<=4000):∃y,zb7 φ x=some (y,())/\y.length % 64=0/\y.length<=5000:=by
 unfold zb7;rw[z6 (ze6 (by simp;omega) (by omega)),z6 (ze6 (by simp;omega) (by omega))];have hl :((([]:List Int)++x)++[128]).length=x.length+1:=by simp
 obtain⟨y,e1,e2⟩:=zjk φ hφ x ((56+64-(x.length+1) % 64) % 64) φ ((([]:List Int)++x)++[128]) (by rw[hl];omega) (by omega) (by rw[hl];omega) (by omega);exact⟨y,e1,by rw[hl] at e2;omega,by rw[hl] at e2;omega⟩
theorem zyn(φ:Nat)(hφ:100<φ)(a b c:Nat->Int):∃y,z47 φ φ 0 a b c=some (y,()):=by
 refine zw (λn i c=>z47 φ n i a b c) 32 (λ_ _=>True) (λo=>∃y,o=some (y,())) ?_ ?_ φ c trivial (by omega)
 .intro n i c hi _ hs;have t1 :((i:Int)).tdiv 4 =((i / 4:Nat):Int):=rfl;have t2 :((i:Int)).tmod 4 =((i % 4:Nat):Int):=rfl;have w1:W (((i / 4:Nat):Int)) =((i / 4:Nat):Int):=W_id (by omega) (by omega);have w2:W (8*((i % 4:Nat):Int))=8*((i % 4:Nat):Int):=W_id (by omega) (by omega);have w3:W (24-8*((i % 4:Nat):Int))=24-8*((i % 4:Nat):Int):=W_id (by omega) (by omega);have wi:W ((i:Int)+1) =(i:Int)+1:=W_id (by omega) (by omega);rw[z47,if_pos (by simp;omega),t1,t2,w1,w2,w3,wi,if_pos (by omega),z6 ⟨by omega,by omega⟩,if_pos (by omega),z6 (by omega),z6 ⟨by omega,by omega⟩];exact hs _ trivial
 .intro n c _;rw[z47,if_neg (by simp)];exact⟨_,rfl⟩
theorem yd3(φ:Nat)(hφ:1000<φ)(x:List Int)(hx:x.length<=4000):∃y,zh3 φ x=some (y,()):=by
 obtain⟨m,h1,h2,h3⟩:=y3t φ (by omega) x hx;unfold zh3;rw[h1,w03];generalize (upd ((upd ((upd ((upd ((upd ((upd ((upd (upd (λ_=>(default:Int)) 0 1779033703) 1 3144134277)) 2 1013904242)) 3 2773480762)) 4 1359893119)) 5 2600822924)) 6 528734635)) 7 1541459225)=h0;refine zw (λn i h=>z6d φ n m (64*i) (λ_=>(default:Int)) h) (m.length / 64) (λ_ _=>True) (λo=>∃y,o=some (y,())) ?_ ?_ φ h0 trivial (by omega)
 .intro n i h hi _ hs;have w:W (64*(i:Int)+64)=64*((i:Int)+1):=by rw[W_id (by omega) (by omega)];omega
  have hp :(z3y m ((64*(i:Int)).toNat) ((64*((i:Int)+1)).toNat)).length=64:=by rw[zcc (by omega) (by omega)];omega
  obtain⟨y,e⟩:=y5l φ (by omega) h _ hp;rw[z6d,if_pos (by simp;omega),w,z6 ⟨by omega,by omega,by omega⟩,e,w03];exact hs _ trivial
 .intro n h _;rw[z6d,if_neg (by simp;omega)];exact zyn φ (by omega) _ _ _
theorem zrx(φ:Nat)(hφ:1000<φ)(t:ByteArray)(e :(t.extract (0:Int).toNat ((min2 (t.size:Int) 255):Int).toNat)=t)(ht :(zfj t).length<=300)(h0:0<=min2 (t.size:Int) 255/\min2 (t.size:Int) 255<=(t.size:Int))(x:List Int)(hx:x.length<=1000):
  ∃y,z8u φ t x=some (y,()):=by
 unfold z8u zen;rw[e,z6 ⟨by omega,h0.1,h0.2⟩,z6 (ze6 (by simp;omega) (by omega)),z6 (ze6 (by simp;omega) (by omega)),w03];obtain⟨y,h⟩:=yd3 φ hφ ((([(IntKind.wrap .u8 ((t.size:Int)))]++(zfj t))++x)) (by simp;omega);rw[h];exact⟨y,rfl⟩
theorem y08(φ:Nat)(hφ:1000<φ)(a:Nat->Int):∃y,zb6 φ a=some (y,())/\0<=y:=by
 unfold zb6;refine zw (λn i s=>z40 φ n s i a) 8 (λ_ s=>0<=s) (λo=>∃y,o=some (y,())/\0<=y) ?_ ?_ φ 0 (by omega) (by omega)
 .intro n i s hi _ hs;rw[z40,if_pos (by simp;omega),if_pos (by omega),z6 ⟨by omega,by omega⟩,W_id (by omega) (by omega)];exact hs _ (by rw[zyo];omega)
 .intro n s h;rw[z40,if_neg (by simp)];exact⟨_,rfl,h⟩
theorem y0a(φ:Nat)(hφ:1000<φ)(x:List Int)(hx:1<=x.length/\x.length<=64):∃y,zbb φ x=some (y,0,())/\1<=y/\y<1152921504606845399:=by obtain⟨d,h1⟩:=zrx φ hφ z5e (by kernel_rfl) (by decide) (by decide) x (by omega);obtain⟨n,h2,h3⟩:=y08 φ hφ d;unfold zbb;rw[if_neg (by simp;omega),h1,w03,h2,w03,if_pos (by omega)];have hm:=w3o n (by omega :(1152921504606845398:Int)≠0);have hm2:=w3p n (by omega :(0:Int)<1152921504606845398);refine⟨_,rfl,?_⟩;simp only[w1l h3];rw[U_id (by omega) (by omega)];omega
theorem zuq(φ:Nat)(hφ:1000<φ)(x:List Int)(hx:x.length<=32)(r:Int):∃y,z8o φ x r=some (y,())/\1<=y/\y<1152921504606845399:=by obtain⟨d,h1⟩:=zrx φ hφ zfo (by kernel_rfl) (by decide) (by decide) ((([]:List Int)++x)++[(IntKind.wrap .u8 (r))]) (by simp;omega);obtain⟨y,h2,h3⟩:=y0a φ hφ ((List.range 32).map d) (by simp);unfold z8o;rw[z6 (ze6 (by simp;omega) (by omega)),z6 (ze6 (by simp;omega) (by omega)),h1,w03,h2,w03];exact⟨y,rfl,h3⟩
end Px
end
section
namespace Px
open Go
set_option maxRecDepth 100000
theorem y9v(b n:Nat):pw (b % PP) n=pw b n:=by unfold pw;rw[<- Nat.pow_mod]
theorem yep(b n:Nat):pw (b*b % PP) n=pw b (2*n):=by rw[y9v];unfold pw;rw[Nat.pow_mul,Nat.pow_two]
theorem zzy(φ:Nat):∀(m:Nat)(a b c n:Nat),m<=64->b<2 ^ m->m<n->a<PP->c<PP->z2n φ n (a:Int) (b:Int) 2305843009213690799 (c:Int)=some ((((c+a*b) % PP:Nat):Int),()):=by
 intro m
 induction m with
 |zero=>
  intro a b c n hm64 hb hn ha hc;obtain⟨n,rfl⟩:∃n',n=n'+1:=⟨n-1,by omega⟩;have:b=0:=by simpa using hb
  subst this;rw[z2n,if_neg (by simp),Nat.mul_zero,w3u,w2r hc]
 |succ m ih=>
  intro a b c n hm64 hb hn ha hc;obtain⟨n,rfl⟩:∃n',n=n'+1:=⟨n-1,by omega⟩;by_cases h0:b=0
  .subst h0;rw[z2n,if_neg (by simp),Nat.mul_zero,w3u,w2r hc]
  .rw[z2n,if_pos (by simp;omega),if_pos (by decide :(2:Int)≠0)];have e1 :(b:Int).tdiv 2 =((b / 2:Nat):Int):=by rw[w3c (by omega)];omega
   have e2 :(b:Int).tmod 2 =((b % 2:Nat):Int):=by rw[w1l (by omega)];omega
   have hbl :(b / 2:Nat)<2 ^ m:=by rw[Nat.pow_succ] at hb;omega
   have h64 :(2:Nat) ^ m<=2 ^ 63:=Nat.pow_le_pow_right (by decide) (by omega);have hb2:U ((b / 2:Nat):Int) =((b / 2:Nat):Int):=U_id (by omega) (by omega);have ha0:=ha;have hc0:=hc;unfold PP at ha hc;have e3 :(U ((a:Int)+(a:Int))).tmod 2305843009213690799 =(((a+a) % PP:Nat):Int):=by rw[U_id (by omega) (by omega),w1l (by omega)];unfold PP;omega
   have e4 :(U ((c:Int)+(a:Int))).tmod 2305843009213690799 =(((c+a) % PP:Nat):Int):=by rw[U_id (by omega) (by omega),w1l (by omega)];unfold PP;omega
   unfold z75;rw[e1,e2,e3,e4,hb2];have hab:a*b =(a+a)*(b / 2)+a*(b % 2):=by
    conv=>lhs;rw[<- w4m b 2]
    rw[Nat.mul_add,<- w55];congr 1;rw[Nat.mul_two]
   have hfin:∀c':Nat,(c'+(a+a) % PP*(b / 2)) % PP =(c'+(a+a)*(b / 2)) % PP:=λc'=>by rw[Nat.add_mod,Nat.mul_mod,Nat.mod_mod,<- Nat.mul_mod,<- Nat.add_mod]
   have hlt:∀z:Nat,z % PP<PP:=λz=>w4n _ (by decide)
   rcases w44 b with hbit|hbit
   .rw[hbit,if_neg (by simp),z6 (by omega),if_pos (by decide :(2:Int)≠0),ih ((a+a) % PP) (b / 2) c n (by omega) hbl (by omega) (hlt _) hc0,hfin,hab,hbit,Nat.mul_zero,w3u]
   .rw[hbit,if_pos (by simp),z6 (by omega),z6 (by omega),if_pos (by decide :(2:Int)≠0),ih ((a+a) % PP) (b / 2) ((c+a) % PP) n (by omega) hbl (by omega) (hlt _) (hlt _),hfin,hab,hbit,Nat.mul_one,Nat.mod_add_mod,show c+a+(a+a)*(b / 2)=c+((a+a)*(b / 2)+a) by omega]
theorem zfm(φ:Nat)(hφ:70<φ)(a b:Nat)(ha:a<PP)(hb:b<PP):zan φ (a:Int) (b:Int) 2305843009213690799=some (((a*b % PP:Nat):Int),()):=by unfold zan;have h64:b<2 ^ 64:=Nat.lt_trans hb (by decide);have:=zzy φ 64 a b 0 φ (by omega) h64 (by omega) ha (by decide);rw[w13] at this;exact this
theorem y84(φ:Nat)(hφ:100<φ):∀(m:Nat)(a e c n:Nat),m<=64->e<2 ^ m->m<n->a<PP->c<PP->z42 φ n (a:Int) (e:Int) (c:Int)=some (((c*pw a e % PP:Nat):Int),()):=by
 intro m
 induction m with
 |zero=>
  intro a e c n _ he hn ha hc;obtain⟨n,rfl⟩:∃n',n=n'+1:=⟨n-1,by omega⟩;have:e=0:=by simpa using he
  subst this;rw[z42,if_neg (by simp),zr1,Nat.mul_one,w2r hc]
 |succ m ih=>
  intro a e c n hm64 he hn ha hc;obtain⟨n,rfl⟩:∃n',n=n'+1:=⟨n-1,by omega⟩;by_cases h0:e=0
  .subst h0;rw[z42,if_neg (by simp),zr1,Nat.mul_one,w2r hc]
  .rw[z42,if_pos (by simp;omega),if_pos (by decide :(2:Int)≠0)];have e1 :(e:Int).tdiv 2 =((e / 2:Nat):Int):=by rw[w3c (by omega)];omega
   have e2 :(e:Int).tmod 2 =((e % 2:Nat):Int):=by rw[w1l (by omega)];omega
   have hel :(e / 2:Nat)<2 ^ m:=by rw[Nat.pow_succ] at he;omega
   have h64 :(2:Nat) ^ m<=2 ^ 63:=Nat.pow_le_pow_right (by decide) (by omega);have hU:U ((e / 2:Nat):Int) =((e / 2:Nat):Int):=U_id (by omega) (by omega);have hlt:∀z:Nat,z % PP<PP:=λz=>w4n _ (by decide)
   unfold z9s;rw[e1,e2,hU,zfm φ (by omega) a a ha ha];have hab:pw a e=pw (a*a % PP) (e / 2)*pw a (e % 2) % PP:=by rw[yep,y44,w4m]
   rcases w44 e with hbit|hbit
   .rw[hbit,if_neg (by simp),w03,if_pos (by decide :(2:Int)≠0),ih _ _ _ n (by omega) hel (by omega) (hlt _) hc,hab,hbit,zr1,Nat.mul_one,w2r (zvw _ _)]
   .rw[hbit,if_pos (by simp),zfm φ (by omega) c a hc ha,w03,w03,if_pos (by decide :(2:Int)≠0),ih _ _ _ n (by omega) hel (by omega) (hlt _) (hlt _),hab,hbit,y9w,w2r ha];congr 2;rw[Nat.mod_mul_mod,Nat.mul_mod_mod,w55,w5a a]
theorem ztq(φ:Nat)(hφ:100<φ)(b n:Nat)(hn:n<18446744073709551616):zh4 φ (b:Int) (n:Int)=some (((pw b n:Nat):Int),()):=by
 unfold zh4;rw[if_pos (by decide :(2305843009213690799:Int)≠0)];have hbm :((b:Int)).tmod 2305843009213690799 =((b % PP:Nat):Int):=by rw[w1l (by omega)];unfold PP;omega
 rw[hbm];have:=y84 φ hφ 64 (b % PP) n 1 φ (by omega) (by simpa using hn) (by omega) (w4n _ (by decide)) (by decide);rw[y9v,w45,w2r (zvw _ _)] at this;exact this
theorem y09(φ:Nat)(hφ:100<φ){s:Int}(h:1<=s/\s<1152921504606845399):∃y,zba φ s=some (y,0,()):=by obtain⟨n,rfl⟩:∃n:Nat,s =(n:Int):=⟨s.toNat,by omega⟩;unfold zba;rw[if_neg (by simp;omega)];have:=ztq φ hφ 4 n (by omega);rw[show (4:Int) =((4:Nat):Int) from rfl,this,w03];exact⟨_,rfl⟩
theorem zul(φ:Nat)(hφ:100<φ):∃c,z8n φ=some (c,()):=by
 unfold z8n;refine zw (λn i c=>z2z φ n i (λ_=>(default:Span)) c ([]:List Int) ([]:List Int)) 5 (λ_ _=>True) (λo=>∃y,o=some (y,())) ?_ ?_ φ _ trivial (by omega)
 .intro n i c hi _ hs;rw[z2z,if_pos (by simp;omega),z6 ⟨by omega,by omega⟩,W_id (by omega) (by omega)];exact hs _ trivial
 .intro n c _;rw[z2z,if_neg (by simp)];exact⟨_,rfl⟩
theorem zrh{α:Type}{o:Option (α×Unit)}(h:o.isSome=true):∃y,o=some (y,()):=by
 cases o with
 |none=>cases h
 |some p=>exact⟨p.1,rfl⟩
theorem net2:∃y,z4s 100000000 2=some (y,()):=zrh (by kernel_rfl)
theorem net3:∃y,z4s 100000000 3=some (y,()):=zrh (by kernel_rfl)
theorem ydk:∃y,z78 100000000 2 3=some (y,()):=zrh (by kernel_rfl)
theorem ydl:∃y,z78 100000000 3 3=some (y,()):=zrh (by kernel_rfl)
theorem ya3{seed:List Int}(hs:seed.length<=32){n:Int}(hn:2<=n/\n<=3):∃p,z6e 100000000 seed n 3=some (p,()):=by
 have hb :(∃y,z4s 100000000 n=some (y,()))/\∃y,z78 100000000 n 3=some (y,()):=by
  rcases(by omega:n=2\/n=3) with rfl|rfl
  .exact⟨net2,ydk⟩
  .exact⟨net3,ydl⟩
 obtain⟨⟨nw,h1⟩,fl,h2⟩:=hb;unfold z6e;rw[h1,w03,h2,w03];generalize hφe :(100000000:Nat)=φ;have hφ:1000<φ:=by omega
 clear hφe h1 h2;have key:=zw (λm i(t:List z7j×List z4b×List z0k)=>z2o φ m seed n i nw.places nw.edges fl.types fl.wagons fl.swaps fl.washes ([]:List z4t) ([]:List Edge) ([]:List z0e) ([]:List zbg) ([]:List Swap) ([]:List Wash) ([]:List z7j) ([]:List z4b) ([]:List z0k) t.1 t.2.1 t.2.2) n.toNat
  (λi t=>t.1.length=i/\t.2.1.length=i/\t.2.2.length=i) (λo=>∃p,o=some (p,())) ?_ ?_ φ ([],[],[]) ⟨rfl,rfl,rfl⟩ (by omega)
 .exact key
 .rintro m i ⟨a,b,c⟩ hi ⟨e1,e2,e3⟩ hk;simp only at e1 e2 e3;obtain⟨s,q1,q2⟩:=zuq φ hφ seed hs (i:Int);obtain⟨k,q3⟩:=y09 φ (by omega) q2;obtain⟨cal,q4⟩:=zul φ (by omega);show ∃p,z2o φ (m+1) seed n (i:Int) nw.places nw.edges fl.types fl.wagons fl.swaps fl.washes ([]:List z4t) ([]:List Edge) ([]:List z0e) ([]:List zbg) ([]:List Swap) ([]:List Wash) ([]:List z7j) ([]:List z4b) ([]:List z0k) a b c=some (p,());rw[z2o,if_pos (by simp;omega),q1,w03];simp only;rw[q3,w03,z6 (ze6 (by simp;omega) (by omega)),z6 (ze6 (by simp;omega) (by omega)),q4,w03,z6 (ze6 (by simp;omega) (by omega)),W_id (x:=(i:Int)+1) (by omega) (by omega)];exact hk (_,_,_) ⟨by simp[e1],by simp[e2],by simp[e3]⟩
 .rintro m ⟨a,b,c⟩ _;show ∃p,z2o φ (m+1) seed n ((n.toNat:Nat):Int) nw.places nw.edges fl.types fl.wagons fl.swaps fl.washes ([]:List z4t) ([]:List Edge) ([]:List z0e) ([]:List zbg) ([]:List Swap) ([]:List Wash) ([]:List z7j) ([]:List z4b) ([]:List z0k) a b c=some (p,());rw[z2o,if_neg (by simp;omega)];exact⟨_,rfl⟩
end Px
end
section
namespace Px
open Go
set_option maxRecDepth 100000
section
variable{φ:Nat}{p:Pool}{s:List zc}{o:List zl}
theorem zux(h:Val φ p s o){X:Nat->Nat->Int}(hX:Poss s o (bF φ p s o) X)(op:List Int)(hol:op.length=o.length)(hov:∀k:Nat,k<o.length->gt op (k:Int)=z2d s o X k)(m:Nat)(hm:o.length<m):
  z23 φ m o (zev s o (cF φ p s o) X) (o.length:Int) 0 op=some (zfh s o (cF φ p s o) X,true,()):=by
 have hb:=h.sumXC_bd hX;have ho:=h.ho;refine zw (λm i n=>z23 φ m o n (o.length:Int) i op) o.length (λi n=>n=zev s o (cF φ p s o) X+(sumN i λk=>z2d s o X k*(gt o (k:Int)).weight)/\0<=n/\n<=36000000000000+1000000000000*(i:Int)) (λr=>r=some (zfh s o (cF φ p s o) X,true,())) ?_ ?_ m _ ⟨by simp[sumN],by omega,by omega⟩ hm
 .rintro m i n hi ⟨h1,h2,h3⟩ hs;have hW:W ((i:Int)+1) =(i:Int)+1:=W_id (by omega) (by omega);have e1:=h.open_bd hX hi;have e2:=h.oc hi;have e3:0<=z2d s o X i*(gt o (i:Int)).weight/\z2d s o X i*(gt o (i:Int)).weight<=1000000000000:=by refine⟨w1d e1.1 e2.2.1,?_⟩;have:=w2v e1.2 e2.2.2 e2.2.1 (by omega :(0:Int)<=1000);simpa using this
  show z23 φ (m+1) o n (o.length:Int) (i:Int) op=_;rw[z23,if_pos (by simp;omega),z6 ⟨by omega,by omega⟩,z6 ⟨by omega,by omega⟩,hov i hi,W_id (x:=z2d s o X i*(gt o (i:Int)).weight) (by omega) (by omega),W_id (by omega) (by omega),hW];exact hs _ ⟨by rw[h1];simp only[sumN];omega,by omega,by push_cast;omega⟩
 .rintro m n ⟨h1,h2,h3⟩;show z23 φ (m+1) o n (o.length:Int) (o.length:Int) op=_;rw[z23,if_neg (by simp),h1];rfl
theorem zyw(h:Val φ p s o)(l:List zi)(hl:l.length<=100000)(hφ:l.length<φ):∀(d m i:Nat)(X:Nat->Nat->Int)(le op:List Int),l.length-i=d->i<=l.length->d<m->Poss s o (bF φ p s o) X->
  le.length=s.length->(∀j:Nat,j<s.length->gt le (j:Int)=z4q s o X j)->op.length=o.length->(∀k:Nat,k<o.length->gt op (k:Int)=z2d s o X k)->
  z4a φ m s o (zev s o (cF φ p s o) X) l (l.length:Int) (i:Int) p le op=some (bif okL s o (bF φ p s o) X (l.drop i) then(zfh s o (cF φ p s o) ((l.drop i).foldl addX X),true,()) else(0,false,())):=by
 intro d;have hφ8:=h.hφ;have hol6:=h.ho;have hsl6:=h.hs
 induction d with
 |zero=>intro m i X le op hd hi hm hX h1 h2 h3 h4;obtain⟨m,rfl⟩:∃m',m=m'+1:=⟨m-1,by omega⟩;rw[z4a,if_neg (by simp;omega),w2q (by omega),zux h hX op h3 h4 φ (by omega)];rfl
 |succ d ih=>
  intro m i X le op hd hi hm hX h1 h2 h3 h4;obtain⟨m,rfl⟩:∃m',m=m'+1:=⟨m-1,by omega⟩;have hi':i<l.length:=by omega
  have e:l.drop i=gt l (i:Int)::l.drop (i+1):=by rw[z3l hi'];exact w3g hi'
  rw[z4a,if_pos (by simp;omega),z6 ⟨by omega,by omega⟩,e];generalize gt l (i:Int)=t;rw[z6 (λq=>by simp only[w10,decide_eq_false_iff_not] at q;omega),z6 (λq=>by simp only[w10,decide_eq_false_iff_not] at q;omega)];by_cases hr :(0<=t.supply/\t.supply<(s.length:Int))/\0<=t.order/\t.order<(o.length:Int)
  case neg=>
   have:okT s o (bF φ p s o) X t=false:=by
    cases g:okT s o (bF φ p s o) X t with
    |false=>rfl
    |true=>exact absurd (zbt.1 g).1 hr
   rw[if_pos (by simp only[w0s,decide_eq_true_eq];omega)];unfold okL;rw[this];rfl
  obtain⟨⟨r1,r2⟩,r3,r4⟩:=hr;have ei :((t.supply.toNat:Nat):Int)=t.supply:=by omega
  have ek :((t.order.toNat:Nat):Int)=t.order:=by omega
  have hin:t.supply.toNat<s.length:=by omega
  have hkn:t.order.toNat<o.length:=by omega
  have hsu:=h.su t.supply.toNat hin;have hor:=h.or t.order.toNat hkn;have hl1:=h2 t.supply.toNat hin;have hl2:=h4 t.order.toNat hkn;rw[ei] at hsu hl1;rw[ek] at hor hl2;have ec :(zcd φ p (gt s t.supply) (gt o t.order)).1=cF φ p s o t.supply.toNat t.order.toNat:=by unfold cF;rw[ei,ek]
  have eb :(zcd φ p (gt s t.supply) (gt o t.order)).2=bF φ p s o t.supply.toNat t.order.toNat:=by unfold bF;rw[ei,ek]
  have hcb:=h.c_bd t.supply.toNat t.order.toNat;rw[hl1,hl2];by_cases hq:0<=t.count/\t.count<=z4q s o X t.supply.toNat/\t.count<=z2d s o X t.order.toNat
  case neg=>
   have:okT s o (bF φ p s o) X t=false:=by
    cases g:okT s o (bF φ p s o) X t with
    |false=>rfl
    |true=>exact absurd (zbt.1 g).2.2 hq
   rw[if_pos (by simp only[w0s,decide_eq_true_eq];omega)];unfold okL;rw[this];rfl
  obtain⟨g3,g4,g5⟩:=hq;rw[if_neg (by simp only[w0s,decide_eq_true_eq];omega),z6 ⟨r1,r2⟩,z6 ⟨r3,r4⟩,y04 h.hφ h.hB h.hp hsu hor,w03];simp only;rw[ec,eb];cases gb:bF φ p s o t.supply.toNat t.order.toNat with
  |false=>
   have:okT s o (bF φ p s o) X t=false:=by
    cases g:okT s o (bF φ p s o) X t with
    |false=>rfl
    |true=>have:=(zbt.1 g).2.1;rw[gb] at this;cases this
   rw[if_pos (by simp)];unfold okL;rw[this];rfl
  |true=>
   have g:okT s o (bF φ p s o) X t=true:=zbt.2 ⟨⟨⟨r1,r2⟩,r3,r4⟩,gb,g3,g4,g5⟩;have hlb:=h.left_bd hX hin;have hob:=h.open_bd hX hkn;have hX':=hX.add g;have hsb:=h.sumXC_bd hX;have hmul:0<=cF φ p s o t.supply.toNat t.order.toNat*t.count/\cF φ p s o t.supply.toNat t.order.toNat*t.count<=1000000000000:=by refine⟨w1d hcb.1 g3,?_⟩;have:=w2v hcb.2 (by omega:t.count<=1000) g3 (by omega :(0:Int)<=1000000000);simpa using this
   unfold okL;rw[g,if_neg (by simp),z6 ⟨r1,by omega⟩,z6 ⟨r1,by omega⟩,z6 ⟨r3,by omega⟩,z6 ⟨r3,by omega⟩];rw[W_id (x:=cF φ p s o t.supply.toNat t.order.toNat*t.count) (by omega) (by omega),W_id (x:=zev s o (cF φ p s o) X+_) (by omega) (by omega),W_id (x:=(i:Int)+1) (by omega) (by omega),W_id (x:=z4q s o X t.supply.toNat-t.count) (by omega) (by omega),W_id (x:=z2d s o X t.order.toNat-t.count) (by omega) (by omega)];rw[w29,<- zry s o (cF φ p s o) X t hin hkn,show (i:Int)+1 =((i+1:Nat):Int) by omega];rw[ih m (i+1) (addX X t) _ _ (by omega) (by omega) (by omega) hX' (by rw[zp];exact h1) (λj hj=>?_) (by rw[zp];exact h3) (λk hk=>?_)]
   .rfl
   .rw[z01 _ _ _ _ r1 (by omega) (by omega),zg6 s o X t j hkn];by_cases ej:j=t.supply.toNat
    .rw[if_pos (by omega),if_pos ej,ej]
    .rw[if_neg (by omega),if_neg ej,h2 j hj];omega
   .rw[z01 _ _ _ _ r3 (by omega) (by omega),zg7 s o X t k hin];by_cases ej:k=t.order.toNat
    .rw[if_pos (by omega),if_pos ej,ej]
    .rw[if_neg (by omega),if_neg ej,h4 k hk];omega
theorem zj8(h:Val φ p s o)(l:List zi)(hl:l.length<=100000):z87 φ p s o l=z65 φ p s o l:=by
 have hφ8:=h.hφ;have hol6:=h.ho;have hsl6:=h.hs;have hz:zev s o (cF φ p s o) (λ_ _=>0)=0:=z04 λi hi=>z04 λk hk=>Int.zero_mul _
 rw[zrp h l hl];unfold z87;rw[z6 (by unfold zb;omega),z6 (by unfold zb;omega)];rw[show ((s.length:Int):Int).toNat=s.length by omega,show ((o.length:Int):Int).toNat=o.length by omega];refine zw (λm i le=>z2q φ m s o l (s.length:Int) i p le (List.replicate o.length (default:Int))) s.length (λi le=>le.length=s.length/\∀j:Nat,j<i->gt le (j:Int) =(gt s (j:Int)).count) (λr=>r=some (bif okL s o (bF φ p s o) (λ_ _=>0) l then(zfh s o (cF φ p s o) (l.foldl addX λ_ _=>0),true,()) else(0,false,()))) ?_ ?_ φ (List.replicate s.length (default:Int)) ⟨by simp,λj hj=>by omega⟩ (by omega)
 .rintro m i le hi ⟨h1,h2⟩ hs;have hW:W ((i:Int)+1) =(i:Int)+1:=W_id (by omega) (by omega);show z2q φ (m+1) s o l (s.length:Int) (i:Int) p le (List.replicate o.length (default:Int))=_;rw[z2q,if_pos (by simp;omega),z6 ⟨by omega,by omega⟩,z6 ⟨by omega,by omega⟩,hW];refine hs _ ⟨by rw[zp];exact h1,λj hj=>?_⟩;rw[z01 _ _ _ _ (by omega) (by omega) (by omega)];by_cases e:j=i
  .rw[if_pos (by omega),e]
  .rw[if_neg (by omega)];exact h2 j (by omega)
 .rintro m le ⟨h1,h2⟩;show z2q φ (m+1) s o l (s.length:Int) (s.length:Int) p le (List.replicate o.length (default:Int))=_;rw[z2q,if_neg (by simp)];refine zw (λm i op=>z2r φ m s o l (o.length:Int) i p le op) o.length (λi op=>op.length=o.length/\∀j:Nat,j<i->gt op (j:Int) =(gt o (j:Int)).count) (λr=>r=some (bif okL s o (bF φ p s o) (λ_ _=>0) l then(zfh s o (cF φ p s o) (l.foldl addX λ_ _=>0),true,()) else(0,false,()))) ?_ ?_ φ (List.replicate o.length (default:Int)) ⟨by simp,λj hj=>by omega⟩ (by omega)
  .rintro m i op hi ⟨h3,h4⟩ hs;have hW:W ((i:Int)+1) =(i:Int)+1:=W_id (by omega) (by omega);show z2r φ (m+1) s o l (o.length:Int) (i:Int) p le op=_;rw[z2r,if_pos (by simp;omega),z6 ⟨by omega,by omega⟩,z6 ⟨by omega,by omega⟩,hW];refine hs _ ⟨by rw[zp];exact h3,λj hj=>?_⟩;rw[z01 _ _ _ _ (by omega) (by omega) (by omega)];by_cases e:j=i
   .rw[if_pos (by omega),e]
   .rw[if_neg (by omega)];exact h4 j (by omega)
  .rintro m op ⟨h3,h4⟩;show z2r φ (m+1) s o l (o.length:Int) (o.length:Int) p le op=_;rw[z2r,if_neg (by simp)];have:=zyw h l hl (by omega) l.length φ 0 (λ_ _=>0) le op (by omega) (by omega) (by omega) h.poss0 h1 (λj hj=>by rw[h2 j hj];unfold z4q;rw[z2i];omega) h3 (λk hk=>by rw[h4 k hk];unfold z2d;rw[z2i];omega);rw[hz,w3v] at this;exact this
end
theorem y8u:z7h 100000000=some (true,()):=by kernel_rfl
theorem y8i(φ:Nat)(x:Plan)(hx:x.transfers.length<=3000)(hφ:3000<φ):z0s φ φ (x.transfers.length:Int) 0 x x=some (true,()):=by
 refine zw (λm i(_:Unit)=>z0s φ m (x.transfers.length:Int) i x x) x.transfers.length (λ_ _=>True) (λr=>r=some (true,())) ?_ ?_ φ () trivial (by omega)
 .intro m i _ hi _ hs;rw[z0s,if_pos (by simp;omega),z6 ⟨by omega,by omega⟩,z6 ⟨by omega,by omega⟩,W_id (by omega) (by omega),if_neg (by simp)];exact hs () trivial
 .intro m _ _;rw[z0s,if_neg (by simp)]
theorem y8v(s:List zc)(o:List zl)(a:List Arc)(y:Nat->Int)(i:Nat):(trsI s o a y i).length<=i:=by
 induction i with
 |zero=>simp[trsI]
 |succ i ih=>
  rw[zas];unfold trT;cases (z3o s o (gt a (i:Int))&&decide (0<y i)) with
  |true=>simp;omega
  |false=>simp;omega
theorem y8t{φ:Nat}(hφ:60000000<φ)(hB:zg5 φ)(seed:List Int)(n:Int)(s:List zc)(o:List zl)(l:List zi)(hs:s.length<=5)(ho:o.length<=5)(hl:l.length<=20){p:Pool}(hp:z6e φ seed n 3=some (p,())):
  ((z6e φ seed n 3).bind λy25=>((z2j φ y25.1 s o).bind λy26=>(if((y26.2.1:Int) !=0)=true then(some ((((y26.1.transfers.length:Int):Int)==0),())) else((z87 φ y25.1 s o y26.1.transfers).bind λy27=>((z0u (default,()) (((!y27.2.1)||((y27.1:Int) !=y26.1.cost))=false) (z3i φ y25.1 s o y26.1)).bind λy28=>(if(((!y27.2.1)||((y27.1:Int) !=y26.1.cost))||((y28.1:Int) !=0))=true then(some (false,())) else((z87 φ y25.1 s o l).bind λy29=>(if(y29.2.1&&(decide ((y29.1:Int)<y27.1)))=true then(some (false,())) else((z5l φ y25.1 s o y26.1).bind λy30=>(if((((y30.2.1:Int) !=0)||((y30.1.cost:Int) !=y26.1.cost))||(((y30.1.transfers.length:Int):Int) !=(y26.1.transfers.length:Int)))=true then(some (false,())) else(z0s φ φ (y30.1.transfers.length:Int) 0 y26.1 y30.1)))))))))))=some (true,()):=by
 rw[hp,w03];rcases y2z (by omega) hB p (s:=s) (o:=o) (by omega) (by omega) with hv|⟨e,he,hn⟩
 .obtain⟨x,y,b1,b2⟩:=y5b hv hφ;obtain⟨t1,t2⟩:=b2.cheapest hv;obtain⟨c,k,u1,u2⟩:=t2 l (by omega);have hxl:x.transfers.length<=3000:=by rw[b2.tr];have h1:=y8v s o (netF φ p s o).arcs (atN y) (netF φ p s o).arcs.length;have h2:=hv.fnet.m;omega
  have hacc:=b2.acc hv;have hrep:z5l φ p s o x=some (x,0,()):=by unfold z5l;rw[hacc,w03,if_pos (by simp)]
  have hlt :(k&&decide (c<x.cost))=false:=by
   cases k with
   |false=>rfl
   |true=>have:=u2 rfl;simp;omega
  rw[b1,w03,if_neg (by simp)];simp only;rw[zj8 hv _ (by omega),t1,w03,zj8 hv l (by omega),u1];simp only;rw[gz_t (by simp),hacc,w03,if_neg (by simp),w03];simp only;rw[if_neg (by rw[hlt];simp),hrep,w03,if_neg (by simp)];exact y8i φ x hxl (by omega)
 .rw[y03 hn he,w03,if_pos (by simpa using he)];simp
theorem y8s{φ:Nat}(hφ:60000000<φ)(hB:zg5 φ)(hsane:z7h φ=some (true,()))(seed:List Int)(n:Int)(s:List zc)(o:List zl)(l:List zi)(hP:seed.length<=32->2<=n/\n<=3->∃p,z6e φ seed n 3=some (p,())):z7g φ seed n s o l=some (true,()):=by
 unfold z7g;rw[hsane,w03,if_neg (by simp)];split
 .rfl
 .rename_i hc;simp only[w0s,decide_eq_true_eq,not_or] at hc;obtain⟨p,hp⟩:=hP (by omega) (by omega);have hs:s.length<=5:=by omega
  have ho:o.length<=5:=by omega
  have hl:l.length<=20:=by omega
  refine zw (λm i(_:Unit)=>z1z φ m seed n s o l s (s.length:Int) i) s.length (λ_ _=>True) (λr=>r=some (true,())) ?_ ?_ φ () trivial (by omega)
  .intro m i _ hi _ hk;rw[z1z,if_pos (by simp;omega),z6 ⟨by omega,by omega⟩,W_id (by omega) (by omega)];split
   .rfl
   .exact hk () trivial
  .intro m _ _;rw[z1z,if_neg (by simp)];refine zw (λm i(_:Unit)=>z20 φ m seed n s o l o (o.length:Int) i) o.length (λ_ _=>True) (λr=>r=some (true,())) ?_ ?_ φ () trivial (by omega)
   .intro m i _ hi _ hk;rw[z20,if_pos (by simp;omega),z6 ⟨by omega,by omega⟩,W_id (by omega) (by omega)];split
    .rfl
    .exact hk () trivial
   .intro m _ _;rw[z20,if_neg (by simp)];exact y8t hφ hB seed n s o l hs ho hl hp
theorem yf7(φ:Nat)(a:List Int)(n:Int)(s:List zc)(o:List zl)(l:List zi):(z5a φ).F (a,n,s,o,l,())=z7g φ a n s o l:=rfl
theorem zkp(y:Tup TT [57,0,36,37,46])(h:ycl TV 30 [57,0,36,37,46] y):∃φ,(z5a φ).F y=some (true,()):=by obtain⟨a,n,s,o,l,z⟩:=y;cases z;exact⟨100000000,(yf7 _ a n s o l).trans (y8s (by omega) (yfa _ (by omega)) y8u a n s o l λh1 h2=>ya3 h1 h2)⟩
end Px
end
