/- A part of the proof of emptiesAcceptMatchesReference_holds. Conditions: none. -/
import Derived.Test.YtcofccdjgfgeeaaGreatKaaf
set_option linter.unusedVariables false
set_option linter.unusedSimpArgs false
section
namespace Px
open Go
theorem z32{α σ ρ:Type}[Inhabited α](L:Nat->Int->σ->Option ρ)(k:σ->Option ρ)(r:Option ρ)(l:List α)(ok:α->Bool)(f:σ->α->σ)(Inv:Nat->σ->Prop)
  (step:∀(n i:Nat)(s:σ),i<l.length->Inv i s->L (n+1) i s =(bif ok (gt l i) then L n ((i:Int)+1) (f s (gt l i)) else r)/\(ok (gt l i)=true->Inv (i+1) (f s (gt l i)))) (done:∀n s,Inv l.length s->L (n+1) l.length s=k s)
  (n:Nat) (s:σ) (h0:Inv 0 s) (hn:l.length<n):L n 0 s =(bif l.all ok then k (l.foldl f s) else r)/\(l.all ok=true->Inv l.length (l.foldl f s)):=by
 refine z0a L l.length (λi t=>(l.take i).all ok=true/\t =(l.take i).foldl f s/\Inv i t) (λo=>o =(bif l.all ok then k (l.foldl f s) else r)/\(l.all ok=true->Inv l.length (l.foldl f s))) ?_ ?_ n s ⟨by simp,by simp,h0⟩ hn
 .intro n i t hi ⟨ha,ht,hI⟩ hs;obtain⟨e1,e2⟩:=step n i t hi hI;rw[e1];cases hok:ok (gt l (i:Int)) with
  |true=>refine hs _ ⟨by rw[zmb ok l i hi,ha,hok];rfl,?_,e2 hok⟩;rw[z2r l i hi,w3m,<- ht];rfl
  |false=>
   have:l.all ok=false:=by rw[w4c];exact⟨gt l (i:Int),z7k (by omega) (by omega),by rw[hok];simp⟩
   rw[this];exact⟨rfl,λh=>by cases h⟩
 .intro n t ⟨ha,ht,hI⟩;rw[w1m] at ha ht;subst ht;rw[ha];exact⟨done n _ hI,λ_=>hI⟩
theorem z8n(φ:Nat)(a b c:Int):z4a φ a b c=some (bet a b c,()):=rfl
def zso(s:Int):Bool:=bet s (-1000000000) 1000000000
def zm1(k:Int)(a:Arc):Bool:=!((((!bet a.from_ 0 (k-1)||!bet a.to 0 (k-1))||a.from_==a.to)||!bet a.cap 0 1000000000)||!bet a.cost 0 1000000000)
def sumL(l:List Int):Int:=l.foldl (λs x=>s+x) 0
def zq0(n:zc):Int:=
 bif decide (256<n.supply.length)||decide (2048<n.arcs.length) then 2 else
 bif n.supply.all zso then(bif n.arcs.all (zm1 n.supply.length) then(bif sumL n.supply !=0 then 360 else 0) else 1) else 1
theorem zrt(φ:Nat)(n:zc)(s:Int)(hs:n.supply.length<=256)(ha:n.arcs.length<=2048)(m:Nat)(hm:n.arcs.length<m):
  z3c φ m s n.arcs (n.arcs.length:Int) 0 n=bif n.arcs.all (zm1 n.supply.length) then(if(s:Int) !=0 then some (360,()) else some (0,())) else some (1,()):=by
 have hp:W ((n.supply.length:Int)-1) =(n.supply.length:Int)-1:=W_id (by omega) (by omega);have:=z32 (λm i(_:Unit)=>z3c φ m s n.arcs (n.arcs.length:Int) i n) (λ_=>if(s:Int) !=0 then some (360,()) else some (0,())) (some (1,())) n.arcs (zm1 n.supply.length) (λu _=>u) (λ_ _=>True) ?_ ?_ m () trivial hm
 .exact this.1
 .intro m i u hi _;refine⟨?_,λ_=>trivial⟩;have hW:W ((i:Int)+1) =(i:Int)+1:=W_id (by omega) (by omega);rw[z3c,if_pos (by simp;omega),z6 ⟨by omega,by omega⟩,hp,hW];simp only[z8n,w01];generalize gt n.arcs (i:Int)=a;unfold zm1;cases h1:bet a.from_ 0 ((n.supply.length:Int)-1)<;>cases h2:bet a.to 0 ((n.supply.length:Int)-1)<;>cases h3 :(a.from_==a.to)<;>cases h4:bet a.cap 0 1000000000<;>cases h5:bet a.cost 0 1000000000<;>simp[zn,h1,h2,h3,h4,h5]
 .intro m u _;rw[z3c,if_neg (by simp)]
theorem zms(φ:Nat)(n:zc)(hφ:5000<φ):zck φ n=some (zq0 n,()):=by
 unfold zck zq0;by_cases hl:256<n.supply.length\/2048<n.arcs.length
 .have e :(decide (256<n.supply.length)||decide (2048<n.arcs.length))=true:=by simpa using hl
  rw[if_pos (by simp;omega),e];rfl
 .have e :(decide (256<n.supply.length)||decide (2048<n.arcs.length))=false:=by simpa using hl
  rw[if_neg (by simp;omega),e];have hs:n.supply.length<=256:=by omega
  have ha:n.arcs.length<=2048:=by omega
  have:=z32 (λm i s=>z71 φ m s n.supply (n.supply.length:Int) i n) (λs=>z3c φ φ s n.arcs (n.arcs.length:Int) 0 n) (some (1,())) n.supply zso (λs x=>s+x)
   (λi s=>-(1000000000*(i:Int))<=s/\s<=1000000000*(i:Int)) ?_ ?_ φ 0 ⟨by simp,by simp⟩ (by omega)
  .rw[this.1];simp only[cond_false];cases hall:n.supply.all zso with
   |false=>rfl
   |true=>
    simp only[cond_true];rw[zrt φ n _ hs ha φ (by omega)];show _=some ((bif n.arcs.all (zm1 n.supply.length) then(bif sumL n.supply !=0 then 360 else 0) else 1),());unfold sumL;cases n.arcs.all (zm1 n.supply.length) with
    |false=>rfl
    |true=>simp only[cond_true];cases h :(n.supply.foldl (λs x=>s+x) 0 !=0)<;>simp
  .intro m i s hi hI;have hW:W ((i:Int)+1) =(i:Int)+1:=W_id (by omega) (by omega);rw[z71,if_pos (by simp;omega),z6 ⟨by omega,by omega⟩,hW];simp only[z8n,w01];generalize gt n.supply (i:Int)=x;unfold zso;cases hb:bet x (-1000000000) 1000000000 with
   |false=>exact⟨by simp,λh=>by cases h⟩
   |true=>obtain⟨b1,b2⟩:=zgj hb;have hx:W (s+x)=s+x:=W_id (by omega) (by omega);refine⟨by simp[hx],λ_=>⟨by push_cast;omega,by push_cast;omega⟩⟩
  .intro m s _;rw[z71,if_neg (by simp)]
end Px
end
section
namespace Px
open Go
def nwOf(n:zc):Nw:=⟨n.supply.length,n.arcs.length,λi=>(gt n.arcs (i:Int)).from_.toNat,λi=>(gt n.arcs (i:Int)).to.toNat,λi=>(gt n.arcs (i:Int)).cap,λi=>(gt n.arcs (i:Int)).cost⟩
def atN(l:List Int)(v:Nat):Int:=gt l (v:Int)
theorem ygb(l:List Int)(x:Int):sumL (l++[x])=sumL l+x:=by unfold sumL;rw[w3m];rfl
theorem y2h(l:List Int):∀i:Nat,i<=l.length->sumL (l.take i)=sumN i (atN l)
 |0,_=>rfl
 |i+1,h=>by rw[z2r l i (by omega),ygb,y2h l i (by omega)];rfl
theorem ych(l:List Int):sumL l=sumN l.length (atN l):=by
 have:=y2h l l.length (w0v _)
 rwa [w1m] at this
structure zld(n:zc):Prop where
 k:n.supply.length<=256
 m:n.arcs.length<=2048
 arc:∀i:Nat,i<n.arcs.length->0<=(gt n.arcs (i:Int)).from_/\(gt n.arcs (i:Int)).from_<(n.supply.length:Int)/\0<=(gt n.arcs (i:Int)).to/\(gt n.arcs (i:Int)).to<(n.supply.length:Int)/\
  (gt n.arcs (i:Int)).from_≠(gt n.arcs (i:Int)).to/\0<=(gt n.arcs (i:Int)).cap/\(gt n.arcs (i:Int)).cap<=1000000000/\0<=(gt n.arcs (i:Int)).cost/\(gt n.arcs (i:Int)).cost<=1000000000
 sup:∀v:Nat,v<n.supply.length->-1000000000<=atN n.supply v/\atN n.supply v<=1000000000
 sum:sumN n.supply.length (atN n.supply)=0
theorem y1i{k:Int}{a:Arc}: zm1 k a=true↔(0<=a.from_/\a.from_<k)/\(0<=a.to/\a.to<k)/\a.from_≠a.to/\(0<=a.cap/\a.cap<=1000000000)/\(0<=a.cost/\a.cost<=1000000000):=by
 unfold zm1;simp only[w0p,w0y,Bool.not_eq_false',z33,beq_eq_false_iff_ne,ne_eq];constructor
 .rintro⟨⟨⟨⟨h1,h2⟩,h3⟩,h4⟩,h5⟩;exact⟨⟨h1.1,by omega⟩,⟨h2.1,by omega⟩,h3,h4,h5⟩
 .rintro⟨h1,h2,h3,h4,h5⟩;exact⟨⟨⟨⟨⟨h1.1,by omega⟩,⟨h2.1,by omega⟩⟩,h3⟩,h4⟩,h5⟩
theorem zjl{n:zc}(h:zq0 n=0):zld n:=by
 unfold zq0 at h;cases e :(decide (256<n.supply.length)||decide (2048<n.arcs.length)) with
 |true=>rw[e] at h;simp at h
 |false=>
  rw[e] at h;simp only[cond_false] at h;cases e1:n.supply.all zso with
  |false=>rw[e1] at h;simp at h
  |true=>
   cases e2:n.arcs.all (zm1 n.supply.length) with
   |false=>rw[e1,e2] at h;simp at h
   |true=>
    rw[e1,e2] at h;simp only[cond_true] at h;simp only[w0y,decide_eq_false_iff_not] at e;refine⟨by omega,by omega,λi hi=>?_,λv hv=>?_,?_⟩
    .have:=y1i.1 (w06.1 e2 _ (z7k (i:=(i:Int)) (by omega) (by omega)))
     obtain⟨⟨a1,a2⟩,⟨b1,b2⟩,c,⟨d1,d2⟩,e1,e2⟩:=this;exact⟨a1,a2,b1,b2,c,d1,d2,e1,e2⟩
    .exact zgj (w06.1 e1 _ (z7k (i:=(v:Int)) (by omega) (by omega)))
    .rw[<- ych];cases e3 :(sumL n.supply !=0) with
     |true=>rw[e3] at h;simp at h
     |false=>simpa using e3
def outP(n:zc)(x:Nat->Int)(i v:Nat):Int:=sumN i λj=>if(nwOf n).fr j=v then x j else 0
def inP(n:zc)(x:Nat->Int)(i v:Nat):Int:=sumN i λj=>if(nwOf n).to j=v then x j else 0
theorem zim{m:Nat}{f:Nat->Int}{B:Int}(h:∀i,i<m->0<=f i/\f i<=B):0<=sumN m f/\sumN m f<=B*m:=by
 refine⟨zeb λi hi=>(h i hi).1,?_⟩
 induction m with
 |zero=>simp[sumN]
 |succ m ih=>
  have:=ih λi hi=>h i (by omega)
  have h2:=(h m (by omega)).2;simp only[sumN];push_cast;rw[w3z,Int.mul_one];omega
def okX(n:zc)(x:List Int)(j:Nat):Bool:=bet (atN x j) 0 (gt n.arcs (j:Int)).cap
def zqm(n:zc)(x:List Int)(left:List Int)(j:Nat):List Int:=zl (zl left (gt n.arcs (j:Int)).from_ (gt left (gt n.arcs (j:Int)).from_-atN x j)) (gt n.arcs (j:Int)).to (gt (zl left (gt n.arcs (j:Int)).from_ (gt left (gt n.arcs (j:Int)).from_-atN x j)) (gt n.arcs (j:Int)).to+atN x j)
theorem zqu{m i:Nat}(h:i<m):gt (List.range m) (i:Int)=i:=by rw[z4b (by simpa using h)];simp
structure zzi(n:zc)(x:List Int)(i:Nat)(left:List Int):Prop where
 len:left.length=n.supply.length
 val:∀v:Nat,v<n.supply.length->atN left v=atN n.supply v-outP n (atN x) i v+inP n (atN x) i v
 ok:∀j:Nat,j<i->okX n x j=true
theorem zzi.bound{n:zc}(h:zld n){x left:List Int}{i:Nat}(hi:i<=n.arcs.length)(hl:zzi n x i left){v:Nat}(hv:v<n.supply.length): -3000000000000<=atN left v/\atN left v<=3000000000000:=by
 have hx:∀j,j<i->0<=atN x j/\atN x j<=1000000000:=λj hj=>by have h1:=zgj (hl.ok j hj);have h2:=h.arc j (by omega);exact⟨h1.1,by omega⟩
 have ho:=zim (m:=i) (f:=λj=>if(nwOf n).fr j=v then atN x j else 0) (B:=1000000000) λj hj=>by have:=hx j hj;show 0<=(if(nwOf n).fr j=v then atN x j else 0)/\(if(nwOf n).fr j=v then atN x j else 0)<=1000000000;split<;>omega
 have hin:=zim (m:=i) (f:=λj=>if(nwOf n).to j=v then atN x j else 0) (B:=1000000000) λj hj=>by have:=hx j hj;show 0<=(if(nwOf n).to j=v then atN x j else 0)/\(if(nwOf n).to j=v then atN x j else 0)<=1000000000;split<;>omega
 have hs:=h.sup v hv;have hm:=h.m;rw[hl.val v hv];change 0<=outP n (atN x) i v/\outP n (atN x) i v<=_ at ho;change 0<=inP n (atN x) i v/\inP n (atN x) i v<=_ at hin;omega
theorem zzi.step{n:zc}(h:zld n){x left:List Int}{i:Nat}(hi:i<n.arcs.length)(hl:zzi n x i left)(hok:okX n x i=true):zzi n x (i+1) (zqm n x left i):=by
 obtain⟨a1,a2,a3,a4,a5,_⟩:=h.arc i hi;have hlen :(zqm n x left i).length=n.supply.length:=by unfold zqm;rw[z02,z02,hl.len]
 refine⟨hlen,λv hv=>?_,λj hj=>?_⟩
 .have e1:outP n (atN x) (i+1) v=outP n (atN x) i v+(if(gt n.arcs (i:Int)).from_.toNat=v then atN x i else 0):=rfl;have e2:inP n (atN x) (i+1) v=inP n (atN x) i v+(if(gt n.arcs (i:Int)).to.toNat=v then atN x i else 0):=rfl;rw[e1,e2];have hvv:=hl.val v hv;unfold zqm atN at *;have f1:=zx left (gt n.arcs (i:Int)).from_ (v:Int) (gt left (gt n.arcs (i:Int)).from_-gt x (i:Int)) a1 (by rw[hl.len];exact a2) (by omega);have f2:=zx left (gt n.arcs (i:Int)).from_ (gt n.arcs (i:Int)).to (gt left (gt n.arcs (i:Int)).from_-gt x (i:Int)) a1 (by rw[hl.len];exact a2) a3;rw[zx _ _ (v:Int) _ a3 (by rw[z02,hl.len];exact a4) (by omega),f1,f2];by_cases h1 :(v:Int) =(gt n.arcs (i:Int)).to
  .rw[if_pos h1,if_neg (λe=>a5 e.symm),if_neg (by omega),if_pos (by omega),<- h1];omega
  .rw[if_neg h1];by_cases h2 :(v:Int) =(gt n.arcs (i:Int)).from_
   .rw[if_pos h2,if_pos (by omega),if_neg (by omega),<- h2];omega
   .rw[if_neg h2,if_neg (by omega),if_neg (by omega)];omega
 .by_cases e:j=i
  .rw[e];exact hok
  .exact hl.ok j (by omega)
def zo7(n:zc)(f:Flow):Bool:=decide (f.x.length=n.arcs.length)&&((List.range n.arcs.length).all (okX n f.x)&&((List.range n.arcs.length).foldl (zqm n f.x) n.supply).all (·==0))
theorem y9q(φ:Nat)(l:List Int)(hl:l.length<=256)(m:Nat)(hm:l.length<m):z1a φ m (l.length:Int) 0 l=some (l.all (·==0),()):=by
 have:=z32 (λm i(_:Unit)=>z1a φ m (l.length:Int) i l) (λ_=>some (true,())) (some (false,())) l (·==0) (λu _=>u) (λ_ _=>True) ?_ ?_ m () trivial hm
 .rw[this.1];cases l.all (·==0)<;>rfl
 .intro m i u hi _;refine⟨?_,λ_=>trivial⟩;have hW:W ((i:Int)+1) =(i:Int)+1:=W_id (by omega) (by omega);rw[z1a,if_pos (by simp;omega),z6 ⟨by omega,by omega⟩,hW];cases h :(gt l (i:Int)==0) with
  |true=>rw[if_neg (by simpa using h)];rfl
  |false=>rw[if_pos (by simpa using h)];rfl
 .intro m u _;rw[z1a,if_neg (by simp)]
theorem zio(φ:Nat)(n:zc)(f:Flow)(h:zld n)(hφ:5000<φ):z8o φ n f=some (zo7 n f,()):=by
 have hk:=h.k;have hm:=h.m;unfold z8o zo7;by_cases hl:f.x.length=n.arcs.length
 .rw[if_neg (by simp[hl]),decide_eq_true hl,w1r,z6 (by simp[fits];omega),w33];have:=z32 (λm i left=>z2y φ m n.arcs (n.arcs.length:Int) i f left) (λleft=>z1a φ φ (left.length:Int) 0 left) (some (false,())) (List.range n.arcs.length) (okX n f.x) (zqm n f.x) (zzi n f.x) ?_ ?_ φ n.supply ⟨rfl,λv hv=>by simp[outP,inP,sumN],λj hj=>by omega⟩ (by simp;omega)
  .obtain⟨e1,e2⟩:=this;rw[e1];cases hall :(List.range n.arcs.length).all (okX n f.x) with
   |false=>rfl
   |true=>have hlen:=(e2 hall).len;simp only[cond_true,w1r];exact y9q φ _ (by rw[hlen];exact hk) φ (by rw[hlen];omega)
  .intro m i left hi hI;have hi:i<n.arcs.length:=by simpa using hi
   rw[zqu hi];refine⟨?_,λhok=>hI.step h hi hok⟩;obtain⟨a1,a2,a3,a4,a5,_⟩:=h.arc i hi;have hW:W ((i:Int)+1) =(i:Int)+1:=W_id (by omega) (by omega);have hle:=hI.len;have b1:=hI.bound h (by omega) (v:=(gt n.arcs (i:Int)).from_.toNat) (by omega);have b2:=hI.bound h (by omega) (v:=(gt n.arcs (i:Int)).to.toNat) (by omega);rw[z2y,if_pos (by simp;omega),z6 ⟨by omega,by omega⟩,z6 ⟨by omega,by omega⟩,z8n,w01];show _=bif bet (gt f.x (i:Int)) 0 (gt n.arcs (i:Int)).cap then _ else _;cases hb:bet (gt f.x (i:Int)) 0 (gt n.arcs (i:Int)).cap with
   |false=>rfl
   |true=>
    have hx:=zgj hb;have hcap:=(h.arc i hi).2.2.2.2.2.2.1;unfold atN at b1 b2;rw[w27 a1] at b1;rw[w27 a3] at b2;have w1:W (gt left (gt n.arcs (i:Int)).from_-gt f.x (i:Int))=gt left (gt n.arcs (i:Int)).from_-gt f.x (i:Int):=W_id (by omega) (by omega);have e3:gt (zl left (gt n.arcs (i:Int)).from_ (gt left (gt n.arcs (i:Int)).from_-gt f.x (i:Int))) (gt n.arcs (i:Int)).to=gt left (gt n.arcs (i:Int)).to:=by rw[zx _ _ _ _ a1 (by rw[hle];exact a2) a3,if_neg (λe=>a5 e.symm)]
    have w2:W (gt left (gt n.arcs (i:Int)).to+gt f.x (i:Int))=gt left (gt n.arcs (i:Int)).to+gt f.x (i:Int):=W_id (by omega) (by omega);simp only[w1i,w0n,if_false,cond_true];rw[z6 ⟨a1,by rw[hle];exact a2⟩,z6 ⟨by omega,by omega⟩,z6 ⟨a1,by rw[hle];exact a2⟩,w1,z6 ⟨a3,by rw[z02,hle];exact a4⟩,z6 ⟨by omega,by omega⟩,z6 ⟨a3,by rw[z02,hle];exact a4⟩,hW,e3,w2];show _=z2y φ m n.arcs (n.arcs.length:Int) ((i:Int)+1) f (zqm n f.x left i);unfold zqm atN;rw[e3]
  .intro m left hI;have :((List.range n.arcs.length).length:Int) =(n.arcs.length:Int):=by simp
   rw[this,z2y,if_neg (by simp)]
 .rw[if_pos (by simpa using λe=>hl (by omega)),decide_eq_false hl];rfl
end Px
end
section
namespace Px
open Go
theorem zog{n:zc}(h:zld n){x:List Int}: ∀i:Nat,i<=n.arcs.length->(∀j,j<i->okX n x j=true)->zzi n x i ((List.range i).foldl (zqm n x) n.supply)
 |0,_,_=>⟨rfl,λv hv=>by simp[outP,inP,sumN],λj hj=>by omega⟩
 |i+1,hi,hok=>by rw[w1a,w3m];exact(zog h i (by omega) λj hj=>hok j (by omega)).step h (by omega) (hok i (by omega))
theorem ygt(n:zc)(x:Nat->Int)(v:Nat):(nwOf n).exc (atN n.supply) x v=atN n.supply v-outP n x n.arcs.length v+inP n x n.arcs.length v:=rfl
theorem zcv{n:zc}(h:zld n){f:Flow}: zo7 n f=true↔f.x.length=n.arcs.length/\(nwOf n).Feas (atN n.supply) (atN f.x):=by
 unfold zo7;simp only[w03,decide_eq_true_eq];refine and_congr_right λhl=>?_
 constructor
 .rintro⟨h1,h2⟩;have hok:∀j,j<n.arcs.length->okX n f.x j=true:=λj hj=>w06.1 h1 j (w0m.2 hj)
  have hI:=zog h n.arcs.length (w0v _) hok;refine⟨λi hi=>zgj (hok i hi),λv hv=>?_⟩;have hv:v<n.supply.length:=hv;rw[ygt,<- hI.val v hv];have:=w06.1 h2 _ (z7k (i:=(v:Int)) (by omega) (by rw[hI.len];omega));unfold atN;simpa using this
 .intro hF;have hok:∀j,j<n.arcs.length->okX n f.x j=true:=λj hj=>z33.2 (hF.bnd j hj)
  have hI:=zog h n.arcs.length (w0v _) hok;refine⟨w06.2 λj hj=>hok j (w0m.1 hj),w06.2 λy hy=>?_⟩;obtain⟨v,hv,rfl⟩:=y1f hy;rw[hI.len] at hv;have:=hI.val v hv;rw[<- ygt,hF.exc v hv] at this;simpa[atN] using this
theorem zno{f:Nat->Int}: ∀{m i:Nat},i<=m->(∀j,j<m->0<=f j)->sumN i f<=sumN m f
 |0,i,hi,_=>by
  have e:i=0:=by omega
  rw[e];exact w24 _
 |m+1,i,hi,h=>by
  by_cases e:i=m+1
  .subst e;exact w24 _
  .have:=zno (m:=m) (i:=i) (by omega) λj hj=>h j (by omega)
   have h2:=h m (by omega);simp only[sumN];omega
theorem zkv{a b:Int}(h1:0<=a/\a<=1000000000)(h2:0<=b/\b<=1000000000):0<=a*b/\a*b<=1000000000000000000:=by refine⟨w2h h1.1 h2.1,?_⟩;have:=w47 h1.2 h2.2 h2.1 (by omega);exact this
theorem zpf(φ:Nat)(n:zc)(f:Flow)(hc:zq0 n=0)(hφ:5000<φ):
  zg6 φ n f=bif zo7 n f then(if(nwOf n).costS (atN f.x)<=9007199254740992 then some ((nwOf n).costS (atN f.x),0,()) else some (0,3,())) else some (0,360,()):=by
 have h:=zjl hc;have hm:=h.m;unfold zg6;rw[zms φ n hφ,hc,w01,if_neg (by simp),zio φ n f h hφ,w01];cases hf:zo7 n f with
 |false=>rfl
 |true=>
  obtain⟨hl,hF⟩:=(zcv h).1 hf;simp only[w1i,w0n,if_false,cond_true];have hb:∀i,i<n.arcs.length->(0<=atN f.x i/\atN f.x i<=1000000000)/\(0<=(nwOf n).cost i/\(nwOf n).cost i<=1000000000):=λi hi=>by have h1:=hF.bnd i hi;have h2:=h.arc i hi;have h3 :(nwOf n).cap i =(gt n.arcs (i:Int)).cap:=rfl;have h4 :(nwOf n).cost i =(gt n.arcs (i:Int)).cost:=rfl;rw[h3] at h1;rw[h4];exact⟨⟨h1.1,by omega⟩,h2.2.2.2.2.2.2.2⟩
  have hpos:∀i,i<n.arcs.length->0<=atN f.x i*(nwOf n).cost i:=λi hi=>(zkv (hb i hi).1 (hb i hi).2).1
  refine z0a (λm i c=>z49 φ m c n.arcs (n.arcs.length:Int) i f) n.arcs.length (λi c=>c=sumN i (λj=>atN f.x j*(nwOf n).cost j)/\c<=9007199254740992)
   (λo=>o=if(nwOf n).costS (atN f.x)<=9007199254740992 then some ((nwOf n).costS (atN f.x),0,()) else some (0,3,())) ?_ ?_ φ 0 ⟨rfl,by omega⟩ (by omega)
  .rintro m i c hi ⟨hcs,hcb⟩ hs;have hW:W ((i:Int)+1) =(i:Int)+1:=W_id (by omega) (by omega);have hc0:0<=c:=by rw[hcs];exact zeb λj hj=>hpos j (by omega)
   have hx:=zkv (hb i hi).1 (hb i hi).2;have e1:gt f.x (i:Int)*(gt n.arcs (i:Int)).cost=atN f.x i*(nwOf n).cost i:=rfl;have w1:W (9007199254740992-c)=9007199254740992-c:=W_id (by omega) (by omega);have w2:W (gt f.x (i:Int)*(gt n.arcs (i:Int)).cost)=atN f.x i*(nwOf n).cost i:=by rw[e1];exact W_id (by omega) (by omega)
   have w3:W (c+atN f.x i*(nwOf n).cost i)=c+atN f.x i*(nwOf n).cost i:=W_id (by omega) (by omega);show z49 φ (m+1) c n.arcs (n.arcs.length:Int) (i:Int) f=_;rw[z49,if_pos (by simp;omega),z6 ⟨by omega,by omega⟩,z6 ⟨by omega,by omega⟩,w1,w2,w3,hW];have hsucc:sumN (i+1) (λj=>atN f.x j*(nwOf n).cost j)=c+atN f.x i*(nwOf n).cost i:=by rw[hcs];rfl
   by_cases hov:9007199254740992-c<atN f.x i*(nwOf n).cost i
   .rw[if_pos (by simpa using hov),if_neg];have:=zno (f:=λj=>atN f.x j*(nwOf n).cost j) (m:=n.arcs.length) (i:=i+1) (by omega) hpos;have e2 :(nwOf n).costS (atN f.x)=sumN n.arcs.length (λj=>atN f.x j*(nwOf n).cost j):=rfl;rw[e2];omega
   .rw[if_neg (by simpa using hov)];exact hs _ ⟨hsucc.symm,by omega⟩
  .rintro m c ⟨hcs,hcb⟩;show z49 φ (m+1) c n.arcs (n.arcs.length:Int) (n.arcs.length:Int) f=_;rw[z49,if_neg (by simp)];have e2 :(nwOf n).costS (atN f.x)=c:=hcs.symm;rw[e2,if_pos hcb]
theorem y3f(φ:Nat)(n:zc)(f:Flow)(hl:f.price.length<=256)(m:Nat)(hm:f.price.length<m):
  z3n φ m f.price (f.price.length:Int) 0 n f=bif f.price.all (λp=>bet p (-1125899906842624) 1125899906842624) then z1i φ φ n.arcs (n.arcs.length:Int) 0 f else some (361,()):=by
 have:=z32 (λm i(_:Unit)=>z3n φ m f.price (f.price.length:Int) i n f) (λ_=>z1i φ φ n.arcs (n.arcs.length:Int) 0 f) (some (361,())) f.price (λp=>bet p (-1125899906842624) 1125899906842624) (λu _=>u) (λ_ _=>True) ?_ ?_ m () trivial hm
 .exact this.1
 .intro m i u hi _;refine⟨?_,λ_=>trivial⟩;have hW:W ((i:Int)+1) =(i:Int)+1:=W_id (by omega) (by omega);rw[z3n,if_pos (by simp;omega),z6 ⟨by omega,by omega⟩,hW,z8n,w01];cases bet (gt f.price (i:Int)) (-1125899906842624) 1125899906842624<;>simp
 .intro m u _;rw[z3n,if_neg (by simp)]
def okRc(n:zc)(f:Flow)(i:Nat):Bool:=!((decide (atN f.x i<(nwOf n).cap i)&&decide ((nwOf n).rc (atN f.price) i<0))||(decide (0<atN f.x i)&&decide (0<(nwOf n).rc (atN f.price) i)))
theorem zr0{n:zc}{f:Flow}:(List.range n.arcs.length).all (okRc n f)=true↔(nwOf n).Tight (atN f.x) (atN f.price):=by
 rw[w06];constructor
 .intro h i hi;have:=h i (w0m.2 hi);unfold okRc at this;simp only[w0p,w0y,w4i,decide_eq_false_iff_not] at this;exact⟨λq=>by rcases this.1 with h|h<;>omega,λq=>by rcases this.2 with h|h<;>omega⟩
 .intro h i hi;obtain⟨t1,t2⟩:=h i (w0m.1 hi);unfold okRc;simp only[w0p,w0y,w4i,decide_eq_false_iff_not];refine⟨?_,?_⟩
  .by_cases q:atN f.x i<(nwOf n).cap i
   .exact .inr (by have:=t1 q;omega)
   .exact .inl q
  .by_cases q:0<atN f.x i
   .exact .inr (by have:=t2 q;omega)
   .exact .inl q
theorem y0l(φ:Nat)(n:zc)(f:Flow)(h:zld n)(hx:f.x.length=n.arcs.length)(hp:f.price.length=n.supply.length)(hb:f.price.all (λp=>bet p (-1125899906842624) 1125899906842624)=true)(m:Nat)(hm:n.arcs.length<m):
  z1i φ m n.arcs (n.arcs.length:Int) 0 f=bif (List.range n.arcs.length).all (okRc n f) then some (0,()) else some (361,()):=by
 have hma:=h.m;have:=z32 (λm i(_:Unit)=>z1i φ m n.arcs (n.arcs.length:Int) i f) (λ_=>some (0,())) (some (361,())) (List.range n.arcs.length) (okRc n f) (λu _=>u) (λ_ _=>True) ?_ ?_ m () trivial (by simpa using hm)
 .exact this.1
 .intro m i u hi _;have hi:i<n.arcs.length:=by simpa using hi
  refine⟨?_,λ_=>trivial⟩;rw[zqu hi];obtain⟨a1,a2,a3,a4,a5,c1,c2,d1,d2⟩:=h.arc i hi;have hW:W ((i:Int)+1) =(i:Int)+1:=W_id (by omega) (by omega);have p1:=zgj (w06.1 hb _ (z7k (i:=(gt n.arcs (i:Int)).from_) a1 (by rw[hp];exact a2)));have p2:=zgj (w06.1 hb _ (z7k (i:=(gt n.arcs (i:Int)).to) a3 (by rw[hp];exact a4)));have w1:W ((gt n.arcs (i:Int)).cost+gt f.price (gt n.arcs (i:Int)).from_) =(gt n.arcs (i:Int)).cost+gt f.price (gt n.arcs (i:Int)).from_:=W_id (by omega) (by omega);have w2:W ((gt n.arcs (i:Int)).cost+gt f.price (gt n.arcs (i:Int)).from_-gt f.price (gt n.arcs (i:Int)).to) =(gt n.arcs (i:Int)).cost+gt f.price (gt n.arcs (i:Int)).from_-gt f.price (gt n.arcs (i:Int)).to:=W_id (by omega) (by omega);have e1 :(nwOf n).rc (atN f.price) i =(gt n.arcs (i:Int)).cost+gt f.price (gt n.arcs (i:Int)).from_-gt f.price (gt n.arcs (i:Int)).to:=by show (gt n.arcs (i:Int)).cost+gt f.price (((gt n.arcs (i:Int)).from_.toNat:Nat):Int)-gt f.price (((gt n.arcs (i:Int)).to.toNat:Nat):Int)=_;rw[w27 a1,w27 a3]
  have e2 :(nwOf n).cap i =(gt n.arcs (i:Int)).cap:=rfl;rw[z1i,if_pos (by simp;omega),z6 ⟨by omega,by omega⟩,z6 ⟨a1,by omega⟩,z6 ⟨a3,by omega⟩,z6 ⟨by omega,by omega⟩,z6 (λ_=>⟨by omega,by omega⟩),hW,w1,w2];unfold okRc;rw[e1,e2];unfold atN;generalize (gt n.arcs (i:Int)).cost+gt f.price (gt n.arcs (i:Int)).from_-gt f.price (gt n.arcs (i:Int)).to=q;cases hq :(decide (gt f.x (i:Int)<(gt n.arcs (i:Int)).cap)&&decide (q<0)||decide (0<gt f.x (i:Int))&&decide (0<q))<;>simp
 .intro m u _;have :((List.range n.arcs.length).length:Int) =(n.arcs.length:Int):=by simp
  rw[this,z1i,if_neg (by simp)]
theorem zlf(φ:Nat)(n:zc)(f:Flow)(hc:zq0 n=0)(hφ:5000<φ):
  ∃e,zh6 φ n f=some (e,())/\(e=0↔zo7 n f=true/\f.price.length=n.supply.length/\(∀p∈f.price,-1125899906842624<=p/\p<=1125899906842624)/\(nwOf n).Tight (atN f.x) (atN f.price)):=by
 have h:=zjl hc;have hk:=h.k;have hm:=h.m;unfold zh6;rw[zms φ n hφ,hc,w01,if_neg (by simp),zio φ n f h hφ,w01];cases hf:zo7 n f with
 |false=>exact⟨360,rfl,by simp⟩
 |true=>
  simp only[w1i,w0n,if_false];by_cases hp:f.price.length=n.supply.length
  .rw[if_neg (by simp[hp]),y3f φ n f (by omega) φ (by omega)];cases hb:f.price.all (λp=>bet p (-1125899906842624) 1125899906842624) with
   |false=>
    refine⟨361,rfl,⟨(λe=>by cases e),λq=>?_⟩⟩;have q:=q.2;have:f.price.all (λp=>bet p (-1125899906842624) 1125899906842624)=true:=w06.2 λp hp=>z33.2 (q.2.1 p hp)
    rw[hb] at this;cases this
   |true=>
    simp only[cond_true];obtain⟨hl,_⟩:=(zcv h).1 hf;rw[y0l φ n f h hl hp hb φ (by omega)];have hpb:∀p∈f.price,-1125899906842624<=p/\p<=1125899906842624:=λp hp=>zgj (w06.1 hb p hp)
    cases hr :(List.range n.arcs.length).all (okRc n f) with
    |false=>refine⟨361,rfl,⟨(λe=>by cases e),λq=>?_⟩⟩;rw[zr0.2 q.2.2.2] at hr;cases hr
    |true=>exact⟨0,rfl,⟨λ_=>⟨trivial,hp,hpb,zr0.1 hr⟩,λ_=>rfl⟩⟩
  .rw[if_pos (by simp;omega)];exact⟨361,rfl,⟨(λe=>by cases e),λq=>absurd q.2.1 hp⟩⟩
end Px
end
section
namespace Px
open Go
def arcS(u:Int)(s:List za)(i:Nat):Arc:=⟨(i:Int),u+1,(gt s (i:Int)).count,0⟩
def arcO(u a:Int)(o:List zf)(k:Nat):Arc:=⟨u,a+(k:Int),(gt o (k:Int)).count,(gt o (k:Int)).weight⟩
theorem y1g(φ:Nat)(u ord:Int)(s:List za)(sup:List Int)(arcs:List Arc)(hs:s.length<=6)(ha:arcs.length<=1000)(hu:0<=u/\u<=1000)(m:Nat)(hm:s.length<m):
  z1f φ m u ord s (s.length:Int) 0 sup arcs=z0x φ sup (arcs++(List.range s.length).map (arcS u s)++[⟨u,u+1,ord,0⟩]):=by
 have hu1:W (u+1)=u+1:=W_id (by omega) (by omega);refine z0a (λm i acc=>z1f φ m u ord s (s.length:Int) i sup acc) s.length (λi acc=>acc=arcs++(List.range i).map (arcS u s)) (λo=>o=z0x φ sup (arcs++(List.range s.length).map (arcS u s)++[⟨u,u+1,ord,0⟩])) ?_ ?_ m arcs (by simp) hm
 .intro m i acc hi hI hG;have hW:W ((i:Int)+1) =(i:Int)+1:=W_id (by omega) (by omega);have hlen:acc.length=arcs.length+i:=by rw[hI];simp
  show z1f φ (m+1) u ord s (s.length:Int) (i:Int) sup acc=_;rw[z1f,if_pos (by simp;omega),z6 ⟨by omega,by omega⟩,z6 (by simp[fits,hlen];omega),if_neg (by simp),hW,hu1];refine hG _ ?_;rw[hI,w1a,w1p,w0l];rfl
 .intro m acc hI;have hlen:acc.length=arcs.length+s.length:=by rw[hI];simp
  show z1f φ (m+1) u ord s (s.length:Int) (s.length:Int) sup acc=_;rw[z1f,if_neg (by simp),z6 (by simp[fits,hlen];omega),hu1,hI]
def sumC(o:List zf):Nat->Int
 |0=>0
 |k+1=>sumC o k+(gt o (k:Int)).count
theorem y7v(φ:Nat)(u:Int)(s:List za)(o:List zf)(sup:List Int)(arcs:List Arc)(hs:s.length<=6)(ho:o.length<=6)(hc:∀k:Nat,k<o.length->0<=(gt o (k:Int)).count/\(gt o (k:Int)).count<=1000000)(ha:arcs.length<=500)(hu:0<=u/\u<=1000)(hφ:1000<φ)(m:Nat)(hm:o.length<m):
  z0r φ m u 0 o (o.length:Int) 0 s sup arcs=z0x φ sup (arcs++(List.range o.length).map (arcO u (s.length:Int) o)++(List.range s.length).map (arcS u s)++[⟨u,u+1,sumC o o.length,0⟩]):=by
 refine z0a (λm i(st:Int×List Arc)=>z0r φ m u st.1 o (o.length:Int) i s sup st.2) o.length (λi st=>st.1=sumC o i/\0<=st.1/\st.1<=1000000*(i:Int)/\st.2=arcs++(List.range i).map (arcO u (s.length:Int) o))
  (λr=>r=z0x φ sup (arcs++(List.range o.length).map (arcO u (s.length:Int) o)++(List.range s.length).map (arcS u s)++[⟨u,u+1,sumC o o.length,0⟩])) ?_ ?_ m (0,arcs) ⟨rfl,by simp,by simp,by simp⟩ hm
 .rintro m i ⟨c,acc⟩ hi ⟨h1,h2,h3,hI⟩ hG;simp only at h1 h2 h3 hI;have hW:W ((i:Int)+1) =(i:Int)+1:=W_id (by omega) (by omega);have hW2:W ((s.length:Int)+(i:Int)) =(s.length:Int)+(i:Int):=W_id (by omega) (by omega);have hci:=hc i hi;have hW3:W (c+(gt o (i:Int)).count)=c+(gt o (i:Int)).count:=W_id (by omega) (by omega);have hlen:acc.length=arcs.length+i:=by rw[hI];simp
  show z0r φ (m+1) u c o (o.length:Int) (i:Int) s sup acc=_;rw[z0r,if_pos (by simp;omega),z6 ⟨by omega,by omega⟩,z6 (by simp[fits,hlen];omega),if_neg (by simp),hW,hW2,hW3];refine hG (c+(gt o (i:Int)).count,_) ⟨by rw[h1];rfl,by omega,by push_cast;omega,?_⟩;simp only;rw[hI,w1a,w1p,w0l];rfl
 .rintro m ⟨c,acc⟩ ⟨h1,h2,h3,hI⟩;simp only at h1 h2 h3 hI;have hlen:acc.length=arcs.length+o.length:=by rw[hI];simp
  show z0r φ (m+1) u c o (o.length:Int) (o.length:Int) s sup acc=_;rw[z0r,if_neg (by simp),y1g φ u c s sup acc hs (by omega) hu φ (by omega),hI,h1]
end Px
end
section
namespace Px
open Go
def arcP(s:List za)(o:List zf)(c:Nat->Nat->Int)(b:Nat->Nat->Bool)(i k:Nat):List Arc:=bif b i k then [⟨(i:Int),(s.length:Int)+(k:Int),min2 (gt s (i:Int)).count (gt o (k:Int)).count,c i k⟩] else []
def arcR(s:List za)(o:List zf)(c:Nat->Nat->Int)(b:Nat->Nat->Bool)(i:Nat):List Arc:=(List.range o.length).flatMap (arcP s o c b i)
theorem zqn{s:List za}{o:List zf}{c:Nat->Nat->Int}{b:Nat->Nat->Bool}(i:Nat):∀n:Nat,((List.range n).flatMap (arcP s o c b i)).length<=n
 |0=>by simp
 |n+1=>by
  rw[w1a,w1e,w0g];have:=zqn (s:=s) (o:=o) (c:=c) (b:=b) i n;have h2 :([n].flatMap (arcP s o c b i)).length<=1:=by simp only[w0o,List.flatMap_nil,w0e,arcP];cases b i n<;>simp
  omega
theorem zkn{s:List za}{o:List zf}{c:Nat->Nat->Int}{b:Nat->Nat->Bool}(ho:o.length<=6):∀n:Nat,((List.range n).flatMap (arcR s o c b)).length<=6*n
 |0=>by simp
 |n+1=>by
  rw[w1a,w1e,w0g];have:=zkn (s:=s) (o:=o) (c:=c) (b:=b) ho n;have h2 :([n].flatMap (arcR s o c b)).length<=6:=by simp only[w0o,List.flatMap_nil,w0e,arcR];have:=zqn (s:=s) (o:=o) (c:=c) (b:=b) n o.length;omega
  omega
theorem yj6(φ:Nat)(k42:Int->Int->List za->Int->Int->List za->List zf->Pool->List Int->List Arc->Option (zc×Int×Unit))(u ord:Int)(p:Pool)(s:List za)(o:List zf)(sup:List Int)(c:Nat->Nat->Int)(b:Nat->Nat->Bool)(i:Nat)
  (hsu:∀k:Nat,k<o.length->z1g φ p (gt s (i:Int)) (gt o (k:Int))=some (c i k,b i k,())) (hs:s.length<=6) (ho:o.length<=6) (acc:List Arc) (ha:acc.length<=100) (m:Nat) (hm:o.length<m) :
  z0w φ k42 m u ord (i:Int) s (s.length:Int) (i:Int) o (o.length:Int) 0 s o p (gt s (i:Int)) sup acc=k42 u ord s (s.length:Int) (W ((i:Int)+1)) s o p sup (acc++arcR s o c b i):=by
 refine z0a (λm k acc=>z0w φ k42 m u ord (i:Int) s (s.length:Int) (i:Int) o (o.length:Int) k s o p (gt s (i:Int)) sup acc) o.length (λk a=>a=acc++(List.range k).flatMap (arcP s o c b i))
  (λr=>r=k42 u ord s (s.length:Int) (W ((i:Int)+1)) s o p sup (acc++arcR s o c b i)) ?_ ?_ m acc (by simp) hm
 .intro m k a hk hI hG;have hW:W ((k:Int)+1) =(k:Int)+1:=W_id (by omega) (by omega);have hW2:W ((s.length:Int)+(k:Int)) =(s.length:Int)+(k:Int):=W_id (by omega) (by omega);have hlen:a.length<=110:=by rw[hI,w0g];have:=zqn (s:=s) (o:=o) (c:=c) (b:=b) i k;omega
  show z0w φ k42 (m+1) u ord (i:Int) s (s.length:Int) (i:Int) o (o.length:Int) (k:Int) s o p (gt s (i:Int)) sup a=_;rw[z0w,if_pos (by simp;omega),z6 ⟨by omega,by omega⟩,hsu k hk,w01,hW,hW2];have hstep:∀a',a'=a++arcP s o c b i k->a'=acc++(List.range (k+1)).flatMap (arcP s o c b i):=λa' e=>by rw[e,hI,w1a,w1e,w0l];simp
  cases hb:b i k with
  |true=>rw[if_pos rfl,z6 (by simp[fits];omega),if_neg (by simp)];exact hG _ (hstep _ (by unfold arcP;rw[hb];rfl))
  |false=>rw[if_neg (by simp)];exact hG _ (hstep _ (by unfold arcP;rw[hb];simp))
 .intro m a hI;show z0w φ k42 (m+1) u ord (i:Int) s (s.length:Int) (i:Int) o (o.length:Int) (o.length:Int) s o p (gt s (i:Int)) sup a=_;rw[z0w,if_neg (by simp),hI];rfl
theorem yb3(φ:Nat)(u ord:Int)(p:Pool)(s:List za)(o:List zf)(sup:List Int)(c:Nat->Nat->Int)(b:Nat->Nat->Bool)
  (hsu:∀i k:Nat,i<s.length->k<o.length->z1g φ p (gt s (i:Int)) (gt o (k:Int))=some (c i k,b i k,())) (hs:s.length<=6) (ho:o.length<=6) (hφ:1000<φ) (m:Nat) (hm:s.length<m) :
  z1e φ m u ord s (s.length:Int) 0 s o p sup []=z0r φ φ u ord o (o.length:Int) 0 s sup ((List.range s.length).flatMap (arcR s o c b)):=by
 refine z0a (λm i acc=>z1e φ m u ord s (s.length:Int) i s o p sup acc) s.length (λi a=>a =(List.range i).flatMap (arcR s o c b))
  (λr=>r=z0r φ φ u ord o (o.length:Int) 0 s sup ((List.range s.length).flatMap (arcR s o c b))) ?_ ?_ m [] (by simp) hm
 .intro m i a hi hI hG;have hW:W ((i:Int)+1) =(i:Int)+1:=W_id (by omega) (by omega);have hlen:a.length<=100:=by rw[hI];have:=zkn (s:=s) (o:=o) (c:=c) (b:=b) ho i;omega
  show z1e φ (m+1) u ord s (s.length:Int) (i:Int) s o p sup a=_;rw[z1e,if_pos (by simp;omega),z6 ⟨by omega,by omega⟩,yj6 φ _ u ord p s o sup c b i (λk hk=>hsu i k hi hk) hs ho a hlen φ (by omega),hW];refine hG _ ?_;rw[hI,w1a,w1e];simp
 .intro m a hI;show z1e φ (m+1) u ord s (s.length:Int) (s.length:Int) s o p sup a=_;rw[z1e,if_neg (by simp),hI]
end Px
end
section
namespace Px
open Go
theorem zej(φ:Nat)(a b c:Int):z0f φ a b c=some (bet a b c,()):=rfl
def okSu(p:Pool)(s:za):Bool:=(((bet s.type_ 0 (W ((p.fleet.types.length:Int)-1))&&bet s.class_ (-1) 63)&&bet s.place 0 (W ((p.network.places.length:Int)-1)))&&bet s.at_ 0 1073741824)&&bet s.count 1 4096
def okOr(p:Pool)(o:zf):Bool:=(((((bet o.type_ 0 (W ((p.fleet.types.length:Int)-1))&&bet o.class_ 0 63)&&bet o.place 0 (W ((p.network.places.length:Int)-1)))&&bet o.from_ 0 o.to)&&decide (o.to<=1073741824))&&bet o.count 1 1000)&&bet o.weight 0 1000000000
theorem zg5(φ:Nat)(p:Pool)(s:za):z2b φ p s=some (okSu p s,()):=by unfold z2b okSu;simp only[zej,w01];cases h1:bet s.type_ 0 (W ((p.fleet.types.length:Int)-1))<;>cases h2:bet s.class_ (-1) 63<;>cases h3:bet s.place 0 (W ((p.network.places.length:Int)-1))<;>cases h4:bet s.at_ 0 1073741824<;>cases h5:bet s.count 1 4096<;>simp[zn]
theorem zin(φ:Nat)(p:Pool)(o:zf):z34 φ p o=some (okOr p o,()):=by unfold z34 okOr;simp only[zej,w01];cases h1:bet o.type_ 0 (W ((p.fleet.types.length:Int)-1))<;>cases h2:bet o.class_ 0 63<;>cases h3:bet o.place 0 (W ((p.network.places.length:Int)-1))<;>cases h4:bet o.from_ 0 o.to<;>cases h6:decide (o.to<=1073741824)<;>cases h5:bet o.count 1 1000<;>cases h7:bet o.weight 0 1000000000<;>simp[zn,h6]
end Px
end
section
namespace Px
open Go
def lsA(H:Arc->Int):List Arc->Int
 | []=>0
 |a::l=>H a+lsA H l
theorem zlx(H:Arc->Int)(m:List Arc):∀l:List Arc,lsA H (l++m)=lsA H l+lsA H m
 | []=>by simp[lsA]
 |a::l=>by simp only[w2r,lsA,zlx H m l];omega
theorem yav(H:Arc->Int)(a:Arc):lsA H [a]=H a:=by simp[lsA]
theorem zs5(H:Arc->Int)(f:Nat->Arc):∀n:Nat,lsA H ((List.range n).map f)=sumN n λi=>H (f i)
 |0=>rfl
 |n+1=>by rw[w1a,w1p,zlx,zs5 H f n];simp[sumN,lsA]
theorem zxb(H:Arc->Int)(f:Nat->List Arc):∀n:Nat,lsA H ((List.range n).flatMap f)=sumN n λi=>lsA H (f i)
 |0=>rfl
 |n+1=>by rw[w1a,w1e,zlx,zxb H f n];simp[sumN]
theorem y6b(H:Arc->Int)(l:List Arc):∀i:Nat,i<=l.length->lsA H (l.take i)=sumN i λj=>H (gt l (j:Int))
 |0,_=>rfl
 |i+1,h=>by rw[z2r l i (by omega),zlx,y6b H l i (by omega),yav];rfl
theorem ylb(H:Arc->Int)(l:List Arc):(sumN l.length λj=>H (gt l (j:Int)))=lsA H l:=by have:=y6b H l l.length (w0v _);rw[w1m] at this;exact this.symm
theorem z1p{n:Nat}{f:Nat->Int}(h:∀i,i<n->f i=0):sumN n f=0:=(zy h).trans (znp n)
def sumS(s:List za):Nat->Int
 |0=>0
 |k+1=>sumS s k+(gt s (k:Int)).count
theorem y4m(s:List za):∀n:Nat,sumS s n=sumN n λi=>(gt s (i:Int)).count
 |0=>rfl
 |n+1=>by simp only[sumS,sumN,y4m s n]
theorem zz5(o:List zf):∀n:Nat,sumC o n=sumN n λi=>(gt o (i:Int)).count
 |0=>rfl
 |n+1=>by simp only[sumC,sumN,zz5 o n]
def nodU(s:List za)(o:List zf):Int:=(s.length:Int)+(o.length:Int)
def zss(s:List za)(o:List zf)(c:Nat->Nat->Int)(b:Nat->Nat->Bool):List Arc:=(List.range s.length).flatMap (arcR s o c b)
def z8(s:List za)(o:List zf)(c:Nat->Nat->Int)(b:Nat->Nat->Bool):List Arc:=zss s o c b++(List.range o.length).map (arcO (nodU s o) (s.length:Int) o)++(List.range s.length).map (arcS (nodU s o) s)++[⟨nodU s o,nodU s o+1,sumC o o.length,0⟩]
def supN(s:List za)(o:List zf):List Int:=s.map (·.count)++o.map (λy=>- y.count)++[sumC o o.length,- sumS s s.length]
def netN(s:List za)(o:List zf)(c:Nat->Nat->Int)(b:Nat->Nat->Bool):zc:=⟨supN s o,z8 s o c b⟩
def arcQ(s:List za)(o:List zf)(c:Nat->Nat->Int)(i k:Nat):Arc:=⟨(i:Int),(s.length:Int)+(k:Int),min2 (gt s (i:Int)).count (gt o (k:Int)).count,c i k⟩
theorem yau(H:Arc->Int)(s:List za)(o:List zf)(c:Nat->Nat->Int)(b:Nat->Nat->Bool):
  lsA H (z8 s o c b) =(sumN s.length λi=>sumN o.length λk=>if b i k=true then H (arcQ s o c i k) else 0)+(sumN o.length λk=>H (arcO (nodU s o) (s.length:Int) o k))+(sumN s.length λi=>H (arcS (nodU s o) s i))+H ⟨nodU s o,nodU s o+1,sumC o o.length,0⟩:=by
 unfold z8 zss;rw[zlx,zlx,zlx,zs5,zs5,yav,zxb];congr 3;refine zy λi _=>?_
 unfold arcR;rw[zxb];refine zy λk _=>?_
 unfold arcP;cases b i k<;>simp[lsA,arcQ]
theorem zcj(s:List za)(o:List zf):(supN s o).length=s.length+o.length+2:=by simp[supN];omega
theorem ya8{α β:Type}[Inhabited α][Inhabited β](f:α->β)(l:List α){i:Int}(h0:0<=i)(h:i<(l.length:Int)):gt (l.map f) i=f (gt l i):=by obtain⟨n,rfl⟩:=w3i h0;rw[z4b (by simpa using h),z4b (by omega)];simp
theorem y2j{s:List za}{o:List zf}{i:Nat}(h:i<s.length):atN (supN s o) i =(gt s (i:Int)).count:=by unfold atN supN;rw[z9u _ _ _ (by omega) (by simp;omega),z9u _ _ _ (by omega) (by simp;omega),ya8 _ _ (by omega) (by omega)]
theorem y2i{s:List za}{o:List zf}{k:Nat}(h:k<o.length):atN (supN s o) (s.length+k)=-(gt o (k:Int)).count:=by unfold atN supN;rw[z9u _ _ _ (by omega) (by simp;omega),z83 _ _ _ (by simp;omega),ya8 _ _ (by simp;omega) (by simp;omega)];rw[show ((s.length+k:Nat):Int)-((s.map (·.count)).length:Nat) =(k:Int) by simp;omega]
theorem y70(s:List za)(o:List zf):atN (supN s o) (s.length+o.length)=sumC o o.length:=by unfold atN supN;rw[z83 _ _ _ (by simp)];rw[show ((s.length+o.length:Nat):Int)-((s.map (·.count)++o.map (λy=>- y.count)).length:Nat)=0 by simp];rfl
theorem ycj(s:List za)(o:List zf):atN (supN s o) (s.length+o.length+1)=- sumS s s.length:=by unfold atN supN;rw[z83 _ _ _ (by simp;omega)];rw[show ((s.length+o.length+1:Nat):Int)-((s.map (·.count)++o.map (λy=>- y.count)).length:Nat)=1 by simp;omega];rfl
structure Poss(s:List za)(o:List zf)(b:Nat->Nat->Bool)(X:Nat->Nat->Int):Prop where
 pos:∀i k,i<s.length->k<o.length->0<=X i k
 no:∀i k,i<s.length->k<o.length->b i k=false->X i k=0
 row:∀i,i<s.length->(sumN o.length λk=>X i k)<=(gt s (i:Int)).count
 col:∀k,k<o.length->(sumN s.length λi=>X i k)<=(gt o (k:Int)).count
def zxk(s:List za)(o:List zf)(X:Nat->Nat->Int)(k:Nat):Int:=(gt o (k:Int)).count-sumN s.length λi=>X i k
def yi6(s:List za)(o:List zf)(c:Nat->Nat->Int)(X:Nat->Nat->Int):Int:=(sumN s.length λi=>sumN o.length λk=>X i k*c i k)+sumN o.length λk=>zxk s o X k*(gt o (k:Int)).weight
section
variable{s:List za}{o:List zf}{c:Nat->Nat->Int}{b:Nat->Nat->Bool}{X:Nat->Nat->Int}
theorem zkw :(nodU s o).toNat=s.length+o.length:=by unfold nodU;omega
theorem y1e{a:Arc}(h:a∈z8 s o c b):(∃i k,i<s.length/\k<o.length/\b i k=true/\a=arcQ s o c i k)\/(∃k,k<o.length/\a=arcO (nodU s o) (s.length:Int) o k)\/(∃i,i<s.length/\a=arcS (nodU s o) s i)\/a =⟨nodU s o,nodU s o+1,sumC o o.length,0⟩:=by
 unfold z8 at h;rcases w0q.1 h with h|h
 .rcases w0q.1 h with h|h
  .rcases w0q.1 h with h|h
   .left
    unfold zss arcR at h;obtain⟨i,hi,h⟩:=w15.1 h;obtain⟨k,hk,h⟩:=w15.1 h;refine⟨i,k,w0m.1 hi,w0m.1 hk,?_⟩;unfold arcP at h;cases hb:b i k with
    |true=>rw[hb] at h;exact⟨rfl,w0i.1 h⟩
    |false=>rw[hb] at h;simp at h
   .obtain⟨k,hk,h⟩:=w0f.1 h;exact .inr (.inl ⟨k,w0m.1 hk,h.symm⟩)
  .obtain⟨i,hi,h⟩:=w0f.1 h;exact .inr (.inr (.inl ⟨i,w0m.1 hi,h.symm⟩))
 .exact .inr (.inr (.inr (w0i.1 h)))
theorem yci{n i:Nat}{f:Nat->Int}(h:∀j,j<n->0<=f j)(hi:i<n):f i<=sumN n f:=by have:=yk9 (f:=λ_=>0) (g:=f) (d:=f i) hi h (by simp);rw[znp] at this;omega
end
end Px
end
section
namespace Px
open Go
set_option maxRecDepth 100000
inductive Walk (E:List Swap) (a:Nat):List Nat->Nat->Int->Prop
 |nil:Walk E a [] a 0
 |step {vs:List Nat} {x:Int} {s:Swap} : Walk E a vs s.wanted.toNat x->s∈E->Walk E a (s.wanted.toNat::vs) s.given.toNat (x+s.cost)
def EOk(n:Nat)(E:List Swap):Prop:=∀s∈E,0<=s.wanted/\s.wanted<n/\0<=s.given/\s.given<n/\0<=s.cost/\s.cost<=1000000000
theorem Walk.lt{E:List Swap}{a n:Nat}(hE:EOk n E)(ha:a<n){vs:List Nat}{v:Nat}{x:Int}(h:Walk E a vs v x):v<n/\(∀u∈vs,u<n)/\0<=x:=by
 induction h with
 |nil=>exact⟨ha,by simp,by omega⟩
 |step h hs ih=>
  have:=hE _ hs;refine⟨by omega,?_,by omega⟩;intro u hu;rcases w09.1 hu with h|h
  .omega
  .exact ih.2.1 u h
theorem Walk.cut{E:List Swap}{a n:Nat}(hE:EOk n E){vs:List Nat}{u:Nat}{x:Int}(h:Walk E a vs u x)(hnd :(u::vs).Nodup):
  ∀v∈u::vs,∃vs' x',Walk E a vs' v x'/\x'<=x/\(v::vs').Nodup:=by
 induction h with
 |nil=>
  intro v hv;have:v=a:=by simpa using hv
  subst this;exact⟨[],0,.nil,by omega,by simp⟩
 | @step vs x s h hs ih=>
  intro v hv;have hc:=hE _ hs;rcases w09.1 hv with e|e
  .subst e;exact⟨_,_,.step h hs,w24 _,hnd⟩
  .obtain⟨vs',x',h1,h2,h3⟩:=ih (w1u.1 hnd).2 v e;exact⟨vs',x',h1,by omega,h3⟩
theorem Walk.simple{E:List Swap}{a n:Nat}(hE:EOk n E){vs:List Nat}{v:Nat}{x:Int}(h:Walk E a vs v x):∃vs' x',Walk E a vs' v x'/\x'<=x/\(v::vs').Nodup:=by
 induction h with
 |nil=>exact⟨[],0,.nil,by omega,by simp⟩
 | @step vs x s h hs ih=>
  obtain⟨vs',x',h1,h2,h3⟩:=ih;have hc:=hE _ hs;by_cases hm:s.given.toNat∈s.wanted.toNat::vs'
  .obtain⟨vs2,x2,k1,k2,k3⟩:=h1.cut hE h3 _ hm;exact⟨vs2,x2,k1,by omega,k3⟩
  .exact⟨_,_,.step h1 hs,by omega,w1u.2 ⟨hm,h3⟩⟩
theorem y1h:∀(n:Nat)(l:List Nat),l.Nodup->(∀x∈l,x<n)->l.length<=n
 |0,l,_,h=>by
  cases l with
  |nil=>simp
  |cons x l=>have:=h x (by simp);omega
 |n+1,l,hd,h=>by
  have h1:=y1h n (l.erase n) (hd.erase n) (λx hx=>by have:=(List.Nodup.mem_erase_iff hd).1 hx;have:=h x this.2;omega);have:l.length<=(l.erase n).length+1:=by
   by_cases hm:n∈l
   .rw[List.length_erase_of_mem hm];omega
   .rw[List.erase_of_not_mem hm];omega
  omega
theorem Walk.short{E:List Swap}{a n:Nat}(hE:EOk n E)(ha:a<n){vs:List Nat}{v:Nat}{x:Int}(h:Walk E a vs v x):∃vs' x',Walk E a vs' v x'/\x'<=x/\vs'.length+1<=n:=by
 obtain⟨vs',x',h1,h2,h3⟩:=h.simple hE;obtain⟨g1,g2,_⟩:=h1.lt hE ha;refine⟨vs',x',h1,h2,?_⟩;have:=y1h n (v::vs') h3 (λy hy=>by
  rcases w09.1 hy with e|e
  .omega
  .exact g2 y e)
 simpa using this
def z68(c:Nat->Int)(s:Swap):Bool:=decide (0<=c s.wanted.toNat)&&(decide (c s.given.toNat<0)||decide (c s.wanted.toNat+s.cost<c s.given.toNat))
def z9g(c:Nat->Int)(s:Swap):Nat->Int:=bif z68 c s then upd c s.given.toNat (c s.wanted.toNat+s.cost) else c
def Down(c d:Nat->Int):Prop:=∀v,0<=c v->0<=d v/\d v<=c v
theorem Down.refl(c:Nat->Int):Down c c:=λv h=>⟨h,w24 _⟩
theorem Down.trans{c d e:Nat->Int}(h:Down c d)(g:Down d e):Down c e:=λv hv=>⟨(g v (h v hv).1).1,Int.le_trans (g v (h v hv).1).2 (h v hv).2⟩
theorem zpv{α:Type}(f:Nat->α)(k:Nat)(x:α)(j:Nat):upd f k x j=if j=k then x else f j:=rfl
theorem zvj{c:Nat->Int}{s:Swap}(hs:0<=s.cost):Down c (z9g c s):=by
 intro v hv;unfold z9g;cases hb:z68 c s with
 |false=>exact⟨hv,w24 _⟩
 |true=>
  simp only[z68,w03,w0w,decide_eq_true_eq] at hb;simp only[cond_true,zpv];split
  .rename_i e;subst e;omega
  .exact⟨hv,w24 _⟩
theorem yfu{c:Nat->Int}{s:Swap}(hs:0<=s.cost)(hw:0<=c s.wanted.toNat):0<=z9g c s s.given.toNat/\z9g c s s.given.toNat<=c s.wanted.toNat+s.cost:=by
 unfold z9g;cases hb:z68 c s with
 |false=>simp only[z68,w4i,w0y,decide_eq_false_iff_not] at hb;simp only[cond_false];omega
 |true=>simp only[cond_true,zpv,if_true];omega
theorem zkf{c:Nat->Int}{s:Swap}(h:z68 c s=false):z9g c s=c:=by unfold z9g;rw[h];rfl
def zni(E:List Swap)(c:Nat->Int):Nat->Int:=E.foldl z9g c
theorem zry{n:Nat}: ∀{E:List Swap},EOk n E->∀c,Down c (E.foldl z9g c)
 | [],_,c=>Down.refl c
 |s::E,h,c=>(zvj (h s (by simp)).2.2.2.2.1).trans (zry (λt ht=>h t (w0c _ ht)) _)
theorem y9z{n:Nat}: ∀{E:List Swap},EOk n E->∀c,∀s∈E,0<=c s.wanted.toNat->0<=E.foldl z9g c s.given.toNat/\E.foldl z9g c s.given.toNat<=c s.wanted.toNat+s.cost
 | [],_,c,s,hs,_=>by simp at hs
 |t::E,h,c,s,hs,hw=>by
  have ht:=(h t (by simp)).2.2.2.2.1;have hE:EOk n E:=λt ht=>h t (w0c _ ht)
  rcases w09.1 hs with e|e
  .subst e;have h1:=yfu ht hw;have h2:=zry hE (z9g c s) _ h1.1;exact⟨h2.1,by simp only[w23];omega⟩
  .have h1:=zvj ht (c:=c) _ hw;have h2:=y9z hE (z9g c t) s e h1.1;exact⟨h2.1,by simp only[w23];omega⟩
def y8t(E:List Swap)(a:Nat)(c:Nat->Int):Prop:=∀v,0<=c v->∃vs,Walk E a vs v (c v)
theorem y4g{E:List Swap}{a:Nat}{c:Nat->Int}{s:Swap}(hs:s∈E)(h:y8t E a c):y8t E a (z9g c s):=by
 intro v hv;unfold z9g at hv⊢;cases hb:z68 c s with
 |false=>rw[hb] at hv;exact h v hv
 |true=>
  rw[hb] at hv;simp only[z68,w03,w0w,decide_eq_true_eq] at hb;simp only[cond_true,zpv] at hv⊢;split
  .rename_i e;subst e;obtain⟨vs,hw⟩:=h _ hb.1;exact⟨_,.step hw hs⟩
  .rename_i e;rw[if_neg e] at hv;exact h v hv
theorem zv7{E:List Swap}{a:Nat}: ∀{F:List Swap},(∀s∈F,s∈E)->∀c,y8t E a c->y8t E a (F.foldl z9g c)
 | [],_,c,h=>h
 |s::F,hF,c,h=>zv7 (λt ht=>hF t (w0c _ ht)) _ (y4g (hF s (by simp)) h)
def cRw(E:List Swap)(a:Nat):Nat->Nat->Int
 |0=>λj=>if j=a then 0 else-1
 |r+1=>zni E (cRw E a r)
theorem zzz(E:List Swap)(a:Nat):∀r,y8t E a (cRw E a r)
 |0=>by
  intro v hv;simp only[cRw] at hv⊢;split
  .rename_i e;subst e;exact⟨[],.nil⟩
  .rename_i e;rw[if_neg e] at hv;omega
 |r+1=>zv7 (λs h=>h) _ (zzz E a r)
theorem yd6{E:List Swap}{n:Nat}(hE:EOk n E)(a:Nat)(r:Nat):Down (cRw E a r) (cRw E a (r+1)):=zry hE _
theorem zzy{E:List Swap}{n:Nat}(hE:EOk n E)(a:Nat):∀(r:Nat){vs:List Nat}{v:Nat}{x:Int},Walk E a vs v x->vs.length<=r->0<=cRw E a r v/\cRw E a r v<=x:=by
 intro r
 induction r with
 |zero=>
  intro vs v x h hl;cases h with
  |nil=>simp[cRw]
  |step=>simp at hl
 |succ r ih=>
  intro vs v x h hl;by_cases hr:vs.length<=r
  .have h1:=ih h hr;have h2:=yd6 hE a r v h1.1;exact⟨h2.1,by omega⟩
  .cases h with
   |nil=>simp at hr
   |step h hs=>have h1:=ih h (by simpa using hl);have h2:=y9z hE (cRw E a r) _ hs h1.1;exact⟨h2.1,by simp only[cRw,zni];omega⟩
def zex(E:List Swap)(n a:Nat):Nat->Int:=cRw E a n
theorem y2x(E:List Swap)(n a:Nat){v:Nat}(h:0<=zex E n a v):∃vs,Walk E a vs v (zex E n a v):=zzz E a n v h
theorem ztm{E:List Swap}{n a:Nat}(hE:EOk n E)(ha:a<n){vs:List Nat}{v:Nat}{x:Int}(h:Walk E a vs v x):0<=zex E n a v/\zex E n a v<=x:=by obtain⟨vs',x',h1,h2,h3⟩:=h.short hE ha;have:=zzy hE a n h1 (by omega);exact⟨this.1,Int.le_trans this.2 h2⟩
theorem y98{E:List Swap}{n a:Nat}(hE:EOk n E)(ha:a<n){s:Swap}(hs:s∈E)(h:0<=zex E n a s.wanted.toNat):0<=zex E n a s.given.toNat/\zex E n a s.given.toNat<=zex E n a s.wanted.toNat+s.cost:=by obtain⟨vs,hw⟩:=y2x E n a h;exact ztm hE ha (.step hw hs)
theorem y2y{E:List Swap}{n a:Nat}(hE:EOk n E)(ha:a<n):∀s∈E,z68 (zex E n a) s=false:=by
 intro s hs;cases hb:z68 (zex E n a) s with
 |false=>rfl
 |true=>simp only[z68,w03,w0w,decide_eq_true_eq] at hb;have:=y98 hE ha hs hb.1;omega
theorem zkr:∀{E:List Swap}{c:Nat->Int},(∀s∈E,z68 c s=false)->E.foldl z9g c=c
 | [],c,_=>rfl
 |s::E,c,h=>by rw[w23,zkf (h s (by simp))];exact zkr λt ht=>h t (w0c _ ht)
theorem y00{E:List Swap}{a r:Nat}(h:∀s∈E,z68 (cRw E a r) s=false):∀k,cRw E a (r+k)=cRw E a r
 |0=>rfl
 |k+1=>by show zni E (cRw E a (r+k))=_;rw[y00 h k];exact zkr h
def BdC(B:Int)(c:Nat->Int):Prop:=∀v,-1<=c v/\c v<=B
theorem yft{n:Nat}{E:List Swap}(hE:EOk n E){s:Swap}(hs:s∈E){B:Int}{c:Nat->Int}(h:BdC B c):BdC (B+1000000000) (z9g c s):=by
 intro v;have h1:=h v;have h2:=h s.wanted.toNat;have h3:=hE s hs;unfold z9g;cases hb:z68 c s with
 |false=>simp only[cond_false];omega
 |true=>simp only[z68,w03,w0w,decide_eq_true_eq] at hb;simp only[cond_true,zpv];split<;>omega
theorem zwx{n:Nat}{E:List Swap}(hE:EOk n E):∀{F:List Swap},(∀s∈F,s∈E)->∀{B:Int}{c:Nat->Int},BdC B c->BdC (B+1000000000*F.length) (F.foldl z9g c)
 | [],_,B,c,h=>by simpa using h
 |s::F,hF,B,c,h=>by have:=zwx hE (F:=F) (λt ht=>hF t (w0c _ ht)) (yft hE (hF s (by simp)) h);rw[w23];intro v;have:=this v;simp only[w12];omega
theorem zzx{n:Nat}{E:List Swap}(hE:EOk n E)(hl:E.length<=1024)(a:Nat):∀r:Nat,BdC (1024000000000*r) (cRw E a r)
 |0=>by intro v;simp only[cRw];split<;>omega
 |r+1=>by have:=zwx hE (F:=E) (λs h=>h) (zzx hE hl a r);intro v;have:=this v;simp only[cRw,zni];omega
end Px
end
section
namespace Px
open Go
set_option maxRecDepth 100000
def zhh(a:Int)(T:Nat)(c:Nat->Int):List Swap:=(List.range T).filterMap λi=>if 0<=c i then some ⟨a,i,c i⟩ else none
theorem zky(a:Int)(i:Nat)(c:Nat->Int):zhh a (i+1) c=if 0<=c i then zhh a i c++[⟨a,i,c i⟩] else zhh a i c:=by
 unfold zhh;rw[w1a,List.filterMap_append];by_cases h:0<=c i
 .simp[h]
 .simp[h]
theorem zsq(a:Int)(T:Nat)(c:Nat->Int):(zhh a T c).length<=T:=by have:=List.length_filterMap_le (λi=>if 0<=c i then some (⟨a,i,c i⟩:Swap) else none) (List.range T);simpa[zhh] using this
theorem ygu{n:Nat}(h:n<=100000):fits n 24:=by unfold fits;omega
def z54(x:z1w)(a:Int):List Swap×Int×Unit:=
 if z0i x≠0 then([],z0i x,()) else if ¬(0<=a/\a<x.types.length) then([],90,()) else
 (zhh a x.types.length (zex x.swaps x.types.length a.toNat),0,())
theorem y4t{x:z1w}(h:z0i x=0):EOk x.types.length x.swaps:=by intro s hs;obtain⟨a1,a2,a3,a4,b1,b2,b3,b4⟩:=z3m h;have:=b3 s hs;simp only[zlh,w03,z33] at this;omega
def ziu(p:Bool×(Nat->Int))(s:Swap):Bool×(Nat->Int):=(p.1||z68 p.2 s,z9g p.2 s)
theorem zsu:∀(E:List Swap)(p:Bool×(Nat->Int)),(E.foldl ziu p).2=E.foldl z9g p.2
 | [],p=>rfl
 |s::E,p=>by rw[w23,w23,zsu E];rfl
theorem zst:∀(E:List Swap)(p:Bool×(Nat->Int)),(E.foldl ziu p).1=false->p.1=false/\∀s∈E,z68 p.2 s=false
 | [],p,h=>⟨h,by simp⟩
 |s::E,p,h=>by
  rw[w23] at h;obtain⟨h1,h2⟩:=zst E _ h;simp only[ziu,w0y] at h1;rw[show (ziu p s).2=p.2 from zkf h1.2] at h2;refine⟨h1.1,λt ht=>?_⟩;rcases w09.1 ht with e|e
  .rw[e];exact h1.2
  .exact h2 t e
theorem zsv:∀(E:List Swap)(p:Bool×(Nat->Int)),(∀s∈E,z68 p.2 s=false)->(E.foldl ziu p).1=p.1
 | [],p,h=>rfl
 |s::E,p,h=>by
  rw[w23];have h1:=h s (by simp);have e:ziu p s=p:=by obtain⟨b,c⟩:=p;simp only[ziu];rw[zkf h1,h1,Bool.or_false]
  rw[e];exact zsv E p λt ht=>h t (w0c _ ht)
theorem ziq{α β:Type}[Inhabited α](f:β->α->β)(b:β)(l:List α)(i:Nat)(h:i<l.length):(l.take (i+1)).foldl f b=f ((l.take i).foldl f b) (gt l (i:Int)):=by rw[z2r l i h,w3m];rfl
theorem zs0(φ:Nat)(x:z1w)(a0:Int)(hE:EOk x.types.length x.swaps)(hT:x.types.length<=32)(hl:x.swaps.length<=1024)(k:Int->Bool->z1w->(Nat->Int)->Option (List Swap×Int×Unit))(r:Option (List Swap×Int×Unit)){B:Int}(hB0:0<=B)(hB:B<=1000000000000000)(c:Nat->Int)(hc:BdC B c)(d:Nat->Int)(hd:∀j<32,d j=c j)
  (hk:∀d',(∀j<32,d' j=zni x.swaps c j)->k a0 (x.swaps.foldl ziu (false,c)).1 x d'=r) (n:Nat) (hn:x.swaps.length<n):z2l φ k n a0 false x.swaps (x.swaps.length:Int) 0 x d=r:=by
 refine z0a (λn i(t:Bool×(Nat->Int))=>z2l φ k n a0 t.1 x.swaps (x.swaps.length:Int) i x t.2) x.swaps.length
  (λi t=>t.1 =((x.swaps.take i).foldl ziu (false,c)).1/\∀j<32,t.2 j =((x.swaps.take i).foldl ziu (false,c)).2 j) (λo=>o=r) ?_ ?_ n (false,d) ⟨by simp,by simpa using hd⟩ hn
 .intro n i t hi ⟨h1,h2⟩ hs;have hW:W ((i:Int)+1) =(i:Int)+1:=W_id (by omega) (by omega);have hm:=z7k (l:=x.swaps) (i:=(i:Int)) (by omega) (by omega);have he:=hE _ hm;have hbd:BdC (B+1000000000*(x.swaps.take i).length) ((x.swaps.take i).foldl ziu (false,c)).2:=by rw[zsu];exact zwx hE (λs hs=>List.mem_of_mem_take hs) hc
  have hlen :(x.swaps.take i).length<=1024:=by rw[w1k];omega
  rw[z2l,if_pos (by simp;omega),z6 ⟨by omega,by omega⟩,z6 ⟨by omega,by omega⟩,z6 ⟨by omega,by omega⟩,z6 (λ_=>⟨by omega,by omega⟩),z6 (λ_=>⟨by omega,by omega⟩)];have hstep:=ziq ziu (false,c) x.swaps i hi;generalize hp :(x.swaps.take i).foldl ziu (false,c)=p at *;have ew:=h2 (gt x.swaps i).wanted.toNat (by omega);have eg:=h2 (gt x.swaps i).given.toNat (by omega);have bw:=hbd (gt x.swaps i).wanted.toNat;rw[ew,eg,W_id (x:=p.2 (gt x.swaps i).wanted.toNat+(gt x.swaps i).cost) (by omega) (by omega)];have hbe :(decide (0<=p.2 (gt x.swaps i).wanted.toNat)&&(decide (p.2 (gt x.swaps i).given.toNat<0)||decide (p.2 (gt x.swaps i).wanted.toNat+(gt x.swaps i).cost<p.2 (gt x.swaps i).given.toNat)))=z68 p.2 (gt x.swaps i):=rfl;rw[hbe];cases hb:z68 p.2 (gt x.swaps i) with
  |true=>
   rw[if_pos rfl,z6 ⟨by omega,by omega⟩,hW];refine hs (true,upd t.2 (gt x.swaps i).given.toNat (p.2 (gt x.swaps i).wanted.toNat+(gt x.swaps i).cost)) ⟨by rw[hstep];simp[ziu,hb],λj hj=>?_⟩;rw[hstep];simp only[ziu,z9g,hb,cond_true,zpv];split
   .rfl
   .exact h2 j hj
  |false=>rw[if_neg (by simp),hW];refine hs (t.1,t.2) ⟨by rw[hstep];simp[ziu,hb,h1],λj hj=>?_⟩;rw[hstep];simp only[ziu,z9g,hb,cond_false];exact h2 j hj
 .intro n t ⟨h1,h2⟩;rw[w1m] at h1 h2;rw[z2l,if_neg (by simp),h1];refine hk _ λj hj=>?_
  rw[h2 j hj,zsu];rfl
theorem y0q(φ:Nat)(x:z1w)(hT:x.types.length<=32)(hφ:5000<φ)(a:Int)(c d:Nat->Int)(hd:∀j<32,d j=c j):z2m φ φ a (x.types.length:Int) 0 d []=some (zhh a x.types.length c,0,()):=by
 refine z0a (λn i t=>z2m φ n a (x.types.length:Int) i d t) x.types.length (λi t=>t=zhh a i c) (λo=>o=some (zhh a x.types.length c,0,())) ?_ ?_ φ _ rfl (by omega)
 .intro n i t hi ht hs;have hW:W ((i:Int)+1) =(i:Int)+1:=W_id (by omega) (by omega);have hlen:=zsq a i c;rw[z2m,if_pos (by simp;omega),z6 ⟨by omega,by omega⟩,w1n,hd i (by omega)];by_cases h:0<=c i
  .rw[if_pos (by simpa using h),z6 ⟨by omega,by omega⟩,z6 (ygu (by rw[ht];simp;omega)),hW];exact hs _ (by rw[zky,if_pos h,ht])
  .rw[if_neg (by simpa using h),hW];exact hs _ (by rw[zky,if_neg h,ht])
 .intro n t ht;rw[z2m,if_neg (by simp),ht]
theorem y7k(φ:Nat)(x:z1w)(hE:EOk x.types.length x.swaps)(hT:x.types.length<=32)(hl:x.swaps.length<=1024)(a:Nat)(ha:a<x.types.length)(hφ:5000<φ):
  ∀(m n i:Nat),x.types.length-i=m->i<=x.types.length->m+2<=n->∀d,(∀j<32,d j=cRw x.swaps a i j)->z2k φ n (a:Int) true x d=some (zhh (a:Int) x.types.length (zex x.swaps x.types.length a),0,()):=by
 intro m
 induction m with
 |zero=>
  intro n i hm hi hn d hd;obtain⟨n,rfl⟩:∃n',n=n'+2:=⟨n-2,by omega⟩;have hi:i=x.types.length:=by omega
  subst hi;rw[z2k,if_pos rfl];have hst:=y2y hE ha;have hb:=zzx hE hl a x.types.length;refine zs0 φ x a hE hT hl _ _ (by omega) (by omega) _ hb d hd (λd' hd'=>?_) φ (by omega);rw[zsv _ _ hst,z2k,if_neg (by simp)];refine y0q φ x hT hφ a _ d' λj hj=>?_
  rw[hd' j hj];show zni x.swaps (zex x.swaps x.types.length a) j=_;unfold zni;rw[zkr hst]
 |succ m ih=>
  intro n i hm hi hn d hd;obtain⟨n,rfl⟩:∃n',n=n'+2:=⟨n-2,by omega⟩;rw[z2k,if_pos rfl];have hb:=zzx hE hl a i;refine zs0 φ x a hE hT hl _ _ (by omega) (by omega) _ hb d hd (λd' hd'=>?_) φ (by omega);cases hch :(x.swaps.foldl ziu (false,cRw x.swaps a i)).1 with
  |true=>exact ih (n+1) (i+1) (by omega) (by omega) (by omega) d' hd'
  |false=>
   rw[z2k,if_neg (by simp)];refine y0q φ x hT hφ a _ d' λj hj=>?_
   have hst:=(zst _ _ hch).2;have h1:=y00 hst (x.types.length-i);rw[show i+(x.types.length-i)=x.types.length by omega] at h1;rw[hd' j hj];unfold zni zex;rw[zkr hst,h1]
theorem ztv(φ:Nat)(hφ:5000<φ)(x:z1w)(a:Int):zh3 φ x a=some (z54 x a):=by
 unfold zh3 z54;rw[zf3 φ hφ,w01];by_cases h:z0i x=0
 .obtain⟨a1,a2,a3,a4,b1,b2,b3,b4⟩:=z3m h;rw[if_neg (by simp[h]),if_neg (λe:z0i x≠0=>e h),W_id (by omega) (by omega),z1r,w01];by_cases hi:0<=a/\a<x.types.length
  .rw[if_neg (by simp[bet];omega),if_neg (λe:¬(0<=a/\a<(x.types.length:Int))=>e hi)];refine z0a (λn i t=>z5t φ n a i x t) 32 (λi t=>∀j<i,t j=-1) (λo=>o=some (zhh a x.types.length (zex x.swaps x.types.length a.toNat),0,())) ?_ ?_ φ _ (by intro j hj;omega) (by omega)
   .intro n i t hi2 ht hs;rw[z5t,if_pos (by simp;omega),z6 ⟨by omega,by omega⟩,W_id (by omega) (by omega)];refine hs _ λj hj=>?_
    rw[zpv];split
    .rfl
    .rename_i e;rw[w1n] at e;exact ht j (by omega)
   .intro n t ht;rw[z5t,if_neg (by simp),z6 ⟨by omega,by omega⟩];have ea:a =((a.toNat:Nat):Int):=by omega
    have hl:=y7k φ x (y4t h) a1 a3 a.toNat (by omega) hφ x.types.length φ 0 (by omega) (by omega) (by omega) (upd t a.toNat 0) (λj hj=>by
     rw[zpv];simp only[cRw];split
     .rfl
     .exact ht j hj)
    rw[<- ea] at hl;exact hl
  .rw[if_pos (by simp[bet];omega),if_pos (show ¬(0<=a/\a<(x.types.length:Int)) from hi)]
 .rw[if_pos (by simp[h]),if_pos (show z0i x≠0 from h)]
def zgo(x:z1w)(a b:Int):Int×Int×Unit:=
 if z0i x≠0 then(0,z0i x,()) else if ¬((0<=a/\a<=63)/\0<=b/\b<=63) then(0,1,()) else
 match x.washes.find? (λw=>(w.from_==a)&&(w.to==b)) with|some w=>(w.minutes,0,())|none=>(0,0,())
theorem ztu(φ:Nat)(hφ:5000<φ)(x:z1w)(a b:Int):zcx φ x a b=some (zgo x a b):=by
 unfold zcx zgo;rw[zf3 φ hφ,w01];by_cases h:z0i x=0
 .obtain⟨a1,a2,a3,a4,b1,b2,b3,b4⟩:=z3m h;rw[if_neg (by simp[h]),if_neg (λe:z0i x≠0=>e h)];simp only[z1r,w01];by_cases ha:0<=a/\a<=63
  .rw[z33.2 ha,gz_t (by simp),w01];by_cases hb:0<=b/\b<=63
   .rw[z33.2 hb,if_neg (by simp),if_neg (λe=>e ⟨ha,hb⟩)];have key:∀(m n i:Nat),x.washes.length-i=m->i<=x.washes.length->m<n->(∀j:Nat,j<i->((gt x.washes (j:Int)).from_==a&&(gt x.washes (j:Int)).to==b)=false)->
      z50 φ n x.washes (x.washes.length:Int) (i:Int) a b x=some (match (x.washes.drop i).find? (λw=>(w.from_==a)&&(w.to==b)) with|some w=>(w.minutes,0,())|none=>(0,0,())):=by
     intro m
     induction m with
     |zero=>intro n i hm hi hn hj;obtain⟨n,rfl⟩:∃n',n=n'+1:=⟨n-1,by omega⟩;rw[z50,if_neg (by simp;omega),w2n (by omega)];rfl
     |succ m ih=>
      intro n i hm hi hn hj;obtain⟨n,rfl⟩:∃n',n=n'+1:=⟨n-1,by omega⟩;have hi':i<x.washes.length:=by omega
      have e:x.washes.drop i=gt x.washes (i:Int)::x.washes.drop (i+1):=by rw[z4b hi'];exact w2t hi'
      rw[z50,if_pos (by simp;omega),z6 ⟨by omega,by omega⟩,e,w3j];show (some _).bind _=_;rw[w01];cases hc :((gt x.washes (i:Int)).from_==a&&(gt x.washes (i:Int)).to==b) with
      |true=>rw[if_pos rfl,if_neg (by simp),z6 ⟨by omega,by omega⟩]
      |false=>
       rw[if_neg (by simp),W_id (by omega) (by omega),show (i:Int)+1 =((i+1:Nat):Int) by omega];exact ih n (i+1) (by omega) (by omega) (by omega) λj hj'=>by
        by_cases e:j=i
        .rw[e];exact hc
        .exact hj j (by omega)
    have:=key x.washes.length φ 0 (by omega) (by omega) (by omega) (λj hj=>by omega);rw[w3b] at this;exact this
   .have e:bet b 0 63=false:=by rw[<- w2d,z33];exact hb
    rw[e,if_pos (by simp),if_pos (λh=>hb h.2)]
  .have e:bet a 0 63=false:=by rw[<- w2d,z33];exact ha
   rw[e,gz_f (by simp),w01,if_pos (by simp),if_pos (λh=>ha h.1)]
 .rw[if_pos (by simp[h]),if_pos (show z0i x≠0 from h)]
theorem zw1(x:z1w)(a b:Int):0<=(zgo x a b).1/\(zgo x a b).1<=100000:=by
 unfold zgo;split
 .simp
 .rename_i h;split
  .simp
  .cases hf:x.washes.find? (λw=>(w.from_==a)&&(w.to==b)) with
   |none=>simp
   |some w=>have hm:=List.mem_of_find?_eq_some hf;obtain⟨a1,a2,a3,a4,b1,b2,b3,b4⟩:=z3m (w4d.1 h);obtain⟨j,hj,e⟩:=w28 hm;simp only[z5m,w06,w0m] at b4;have:=b4 j hj;simp only[z3v,zve,w03,z33] at this;rw[z4b hj,e] at this;exact⟨this.1.2.1,this.1.2.2⟩
theorem zwz(x:z1w)(a:Int):∀s∈(z54 x a).1,0<=s.cost/\s.cost<=100000000000000:=by
 unfold z54;split
 .simp
 .rename_i h;split
  .simp
  .intro s hs;simp only[zhh,w4w,w0m] at hs;obtain⟨i,hi,e⟩:=hs;obtain⟨a1,a2,a3,a4,b1,b2,b3,b4⟩:=z3m (w4d.1 h);have hb:=zzx (y4t (w4d.1 h)) a3 a.toNat x.types.length i;split at e
   .rename_i h0;cases e;unfold zex at h0⊢;exact⟨h0,by simp only;omega⟩
   .cases e
end Px
end
section
namespace Px
open Go
def zln(φ:Nat):Prop:=∀(x:zi)(a b:Int),∃t e,z05 φ x a b=some (t,e,())/\0<=t/\t<=51200000
def betF(φ:Nat)(x:zi)(a b:Int):Int×Int:=match z05 φ x a b with|some (t,e,_)=>(t,e)|none=>(0,0)
theorem zln.eq{φ:Nat}(h:zln φ)(x:zi)(a b:Int):z05 φ x a b=some ((betF φ x a b).1,(betF φ x a b).2,())/\0<=(betF φ x a b).1/\(betF φ x a b).1<=51200000:=by obtain⟨t,e,h1,h2,h3⟩:=h x a b;unfold betF;rw[h1];exact⟨rfl,h2,h3⟩
def bitF(p:Pool)(s:za)(o:zf):Bool:=(U ((BitVec.ofInt 64 (((gt p.fleet.types s.type_).classes:Int).fdiv (2 ^ (min (o.class_:Int).toNat 64)))&&& BitVec.ofInt 64 1).toNat):Int)==0
def minF(φ:Nat)(p:Pool)(s:za)(o:zf):Int:=(betF φ p.network s.place o.place).1+if 0<=s.class_ then(zgo p.fleet s.class_ o.class_).1 else 0
def zkk(φ:Nat)(p:Pool)(s:za)(o:zf):Int×Bool:=
 bif ((betF φ p.network s.place o.place).2 !=0)||bitF p s o then(0,false) else
 match (z54 p.fleet o.type_).1.find? (λg=>g.given==s.type_) with
 |none=>(0,false)
 |some g=>bif decide (o.to<s.at_+minF φ p s o)||decide (1000000000<minF φ p s o+g.cost) then(0,false) else(minF φ p s o+g.cost,true)
theorem yaz{φ:Nat}(h:zln φ)(p:Pool)(s:za)(o:zf):(betF φ p.network s.place o.place).1<=minF φ p s o/\0<=minF φ p s o/\minF φ p s o<=60000000:=by obtain⟨_,h1,h2⟩:=h.eq p.network s.place o.place;have h3:=zw1 p.fleet s.class_ o.class_;unfold minF;split<;>omega
theorem y8i{φ:Nat}(p:Pool)(s:za)(o:zf)(m:Int)(l:List Swap)(hl:l.length<=1000)(hm:0<=m/\m<=60000000)(ha:0<=s.at_/\s.at_<=1073741824)(hb:∀g∈l,0<=g.cost/\g.cost<=100000000000000):
  ∀(d n i:Nat),l.length-i=d->i<=l.length->d<n->z3h φ n l (l.length:Int) (i:Int) m l s o=some (match (l.drop i).find? (λg=>g.given==s.type_) with
   |none=>(0,false,())
   |some g=>bif decide (o.to<s.at_+m)||decide (1000000000<m+g.cost) then(0,false,()) else(m+g.cost,true,())):=by
 have hW2:W (s.at_+m)=s.at_+m:=W_id (by omega) (by omega);intro d
 induction d with
 |zero=>intro n i hm hi hn;obtain⟨n,rfl⟩:∃n',n=n'+1:=⟨n-1,by omega⟩;rw[z3h,if_neg (by simp;omega),w2n (by omega),z6 (by simp),if_pos (by simp)];rfl
 |succ d ih=>
  intro n i hm hi hn;obtain⟨n,rfl⟩:∃n',n=n'+1:=⟨n-1,by omega⟩;have hi':i<l.length:=by omega
  have e:l.drop i=gt l (i:Int)::l.drop (i+1):=by rw[z4b hi'];exact w2t hi'
  have hg:=hb (gt l (i:Int)) (z7k (by omega) (by omega));rw[z3h,if_pos (by simp;omega),z6 ⟨by omega,by omega⟩,e,w3j];show (some _).bind _=_;rw[w01];simp only;cases hc :((gt l (i:Int)).given==s.type_) with
  |true=>
   have hW3:W (m+(gt l (i:Int)).cost)=m+(gt l (i:Int)).cost:=W_id (by omega) (by omega);rw[if_pos rfl,z6 (λ_=>⟨by omega,by omega⟩),hW2,hW3,z6 ⟨by omega,by omega⟩];simp only;have e0:decide ((i:Int)<0)=false:=by simp
   rw[e0,w2a];cases (decide (o.to<s.at_+m)||decide (1000000000<m+(gt l (i:Int)).cost))<;>rfl
  |false=>rw[if_neg (by simp),W_id (by omega) (by omega),show (i:Int)+1 =((i+1:Nat):Int) by omega];exact ih n (i+1) (by omega) (by omega) (by omega)
theorem zmz(x:z1w)(a:Int):(z54 x a).1.length<=1000:=by
 unfold z54;split
 .simp
 .rename_i h;obtain⟨a1,_⟩:=z3m (w4d.1 h);split
  .simp
  .have:=zsq a x.types.length (zex x.swaps x.types.length a.toNat)
   simp only;omega
theorem yga{φ:Nat}(hφ:5000<φ)(hB:zln φ)(p:Pool)(s:za)(o:zf)(ht:0<=s.type_/\s.type_<(p.fleet.types.length:Int))(ho:0<=o.class_)(ha:0<=s.at_/\s.at_<=1073741824):
  z1g φ p s o=some ((zkk φ p s o).1,(zkk φ p s o).2,()):=by
 obtain⟨h1,h2,h3⟩:=hB.eq p.network s.place o.place;have hm:=yaz hB p s o;have hcl:=zw1 p.fleet s.class_ o.class_;have j9:z1q φ (minF φ p s o) p s o=some (match (z54 p.fleet o.type_).1.find? (λg=>g.given==s.type_) with
   |none=>(0,false,())
   |some g=>bif decide (o.to<s.at_+minF φ p s o)||decide (1000000000<minF φ p s o+g.cost) then(0,false,()) else(minF φ p s o+g.cost,true,())):=by
  unfold z1q;rw[ztv φ hφ,w01];have:=y8i (φ:=φ) p s o (minF φ p s o) (z54 p.fleet o.type_).1 (zmz _ _) ⟨hm.2.1,hm.2.2⟩ ha (zwz _ _) _ φ 0 rfl (by omega) (by have:=zmz p.fleet o.type_;omega);rw[w3b] at this;exact this
 unfold z1g zkk;rw[h1,w01,z6 (λ_=>ht),z6 (λ_=>ho)];simp only;show (if(((betF φ p.network s.place o.place).2 !=0)||bitF p s o)=true then _ else _)=_;cases hc :(((betF φ p.network s.place o.place).2 !=0)||bitF p s o) with
 |true=>rfl
 |false=>
  rw[if_neg (by simp),cond_false];have hj :(if(decide ((0:Int)<=s.class_))=true then((zcx φ p.fleet s.class_ o.class_).bind λy20=>(z1q φ (W ((betF φ p.network s.place o.place).1+y20.1)) p s o)) else(z1q φ (betF φ p.network s.place o.place).1 p s o))=z1q φ (minF φ p s o) p s o:=by
   unfold minF;by_cases hs:0<=s.class_
   .rw[if_pos (by simpa using hs),ztu φ hφ,w01,if_pos hs,W_id (by omega) (by omega)]
   .rw[if_neg (by simpa using hs),if_neg hs,Int.add_zero]
  rw[hj,j9];cases (z54 p.fleet o.type_).1.find? (λg=>g.given==s.type_) with
  |none=>rfl
  |some g=>simp only;cases (decide (o.to<s.at_+minF φ p s o)||decide (1000000000<minF φ p s o+g.cost))<;>rfl
theorem ycg{φ:Nat}(hB:zln φ){p:Pool}{s:za}{o:zf}(h :(zkk φ p s o).2=true):0<=(zkk φ p s o).1/\(zkk φ p s o).1<=1000000000/\(betF φ p.network s.place o.place).2=0/\(betF φ p.network s.place o.place).1<=(zkk φ p s o).1:=by
 have hm:=yaz hB p s o;unfold zkk at h⊢;cases hc :(((betF φ p.network s.place o.place).2 !=0)||bitF p s o) with
 |true=>rw[hc] at h;cases h
 |false=>
  rw[hc] at h;simp only[cond_false] at h⊢;cases hf :(z54 p.fleet o.type_).1.find? (λg=>g.given==s.type_) with
  |none=>rw[hf] at h;cases h
  |some g=>
   rw[hf] at h;simp only at h⊢;have hg:=zwz _ _ g (List.mem_of_find?_eq_some hf);cases hd :(decide (o.to<s.at_+minF φ p s o)||decide (1000000000<minF φ p s o+g.cost)) with
   |true=>rw[hd] at h;cases h
   |false=>simp only[w0y,decide_eq_false_iff_not,bne_eq_false_iff_eq] at hd hc;simp only[cond_false];exact⟨by omega,by omega,hc.1,by omega⟩
theorem yk8{φ:Nat}{p:Pool}{s:za}{o:zf}(h :(zkk φ p s o).2=false):(zkk φ p s o).1=0:=by
 unfold zkk at h⊢;cases hc :(((betF φ p.network s.place o.place).2 !=0)||bitF p s o) with
 |true=>rfl
 |false=>
  rw[hc] at h;simp only[cond_false] at h⊢;cases hf :(z54 p.fleet o.type_).1.find? (λg=>g.given==s.type_) with
  |none=>rfl
  |some g=>
   rw[hf] at h;simp only at h⊢;cases hd :(decide (o.to<s.at_+minF φ p s o)||decide (1000000000<minF φ p s o+g.cost)) with
   |true=>rfl
   |false=>rw[hd] at h;cases h
theorem zn5{p:Pool}(hp:p.fleet.types.length<=32/\p.network.places.length<=512){s:za}(h:okSu p s=true):(0<=s.type_/\s.type_<(p.fleet.types.length:Int))/\(0<=s.at_/\s.at_<=1073741824)/\1<=s.count/\s.count<=4096:=by unfold okSu at h;rw[W_id (x:=(p.fleet.types.length:Int)-1) (by omega) (by omega),W_id (x:=(p.network.places.length:Int)-1) (by omega) (by omega)] at h;simp only[w03,z33] at h;obtain⟨⟨⟨⟨a,b⟩,c⟩,d⟩,e⟩:=h;exact⟨⟨a.1,by omega⟩,d,e.1,e.2⟩
theorem zkx{p:Pool}(hp:p.fleet.types.length<=32/\p.network.places.length<=512){o:zf}(h:okOr p o=true):0<=o.class_/\(1<=o.count/\o.count<=1000)/\0<=o.weight/\o.weight<=1000000000:=by unfold okOr at h;simp only[w03,z33] at h;obtain⟨⟨⟨⟨⟨⟨a,b⟩,c⟩,d⟩,e⟩,f⟩,g⟩:=h;exact⟨b.1,f,g⟩
theorem zl0{p:Pool}(h:z62 p=0):p.fleet.types.length<=32/\p.network.places.length<=512:=by obtain⟨h1,h2,_⟩:=y7f h;exact⟨(z3m h2).1,(zmh h1).1⟩
end Px
end
section
namespace Px
open Go
set_option maxRecDepth 100000
def LAgW(T:Nat)(l:List Int)(c:Nat->Int):Prop:=l.length=T/\∀j:Nat,j<T->gt l (j:Int)=c j
theorem LAgW.at{T:Nat}{l:List Int}{c:Nat->Int}(h:LAgW T l c){i:Int}(h0:0<=i)(h1:i<T):gt l i=c i.toNat:=by
 have:=h.2 i.toNat (by omega)
 rwa [show ((i.toNat:Nat):Int)=i by omega] at this
theorem LAgW.set{T:Nat}{l:List Int}{c:Nat->Int}(h:LAgW T l c){i:Int}(h0:0<=i)(h1:i<T)(x:Int):LAgW T (zl l i x) (upd c i.toNat x):=by
 refine⟨by rw[z02,h.1],λj hj=>?_⟩;rw[zx _ _ _ _ h0 (by rw[h.1];omega) (by omega),zpv,h.2 j hj];by_cases e :(j:Int)=i
 .rw[if_pos e,if_pos (by omega)]
 .rw[if_neg e,if_neg (by omega)]
theorem y85(φ:Nat)(x:z1w)(a0 b0:Int)(hE:EOk x.types.length x.swaps)(hl:x.swaps.length<=1024)(k:Int->Int->z1w->List Int->Option (List Swap×Int×Unit))(r:Option (List Swap×Int×Unit)){B:Int}(hB0:0<=B)(hB:B<=1000000000000000)(c:Nat->Int)(hc:BdC B c)(d:List Int)(hd:LAgW x.types.length d c)
  (hk:∀d',LAgW x.types.length d' (zni x.swaps c)->k a0 (W (b0+1)) x d'=r) (n:Nat) (hn:x.swaps.length<n):z1n φ k n a0 b0 0 x d=r:=by
 refine z0a (λn i t=>z1n φ k n a0 b0 i x t) x.swaps.length (λi t=>LAgW x.types.length t ((x.swaps.take i).foldl z9g c)) (λo=>o=r) ?_ ?_ n d (by simpa using hd) hn
 .intro n i t hi h2 hs;have hW:W ((i:Int)+1) =(i:Int)+1:=W_id (by omega) (by omega);have hm:=z7k (l:=x.swaps) (i:=(i:Int)) (by omega) (by omega);have he:=hE _ hm;have hbd:BdC (B+1000000000*(x.swaps.take i).length) ((x.swaps.take i).foldl z9g c):=zwx hE (λs hs=>List.mem_of_mem_take hs) hc;have hlen :(x.swaps.take i).length<=1024:=by rw[w1k];omega
  have hstep:=ziq z9g c x.swaps i hi;rw[z1n,if_pos (by simp;omega),z6 ⟨by omega,by omega⟩,z6 ⟨by omega,by rw[h2.1];omega⟩];generalize hp :(x.swaps.take i).foldl z9g c=p at *;have ew:=h2.at he.1 he.2.1;have eg:=h2.at he.2.2.1 he.2.2.2.1;have bw:=hbd (gt x.swaps i).wanted.toNat;rw[ew,eg,hW];by_cases h0:p (gt x.swaps i).wanted.toNat<0
  .rw[if_pos (by simpa using h0)];refine hs _ ?_;rw[hstep,zkf (by simp[z68];omega)];exact h2
  .rw[if_neg (by simpa using h0),z6 ⟨by omega,by rw[h2.1];omega⟩,z6 ⟨by omega,by rw[h2.1];omega⟩,z6 (λ_=>⟨by omega,by rw[h2.1];omega⟩),W_id (x:=p (gt x.swaps i).wanted.toNat+(gt x.swaps i).cost) (by omega) (by omega)];have hbe :(decide (p (gt x.swaps i).given.toNat<0)||decide (p (gt x.swaps i).wanted.toNat+(gt x.swaps i).cost<p (gt x.swaps i).given.toNat))=z68 p (gt x.swaps i):=by unfold z68;rw[decide_eq_true (by omega:0<=p (gt x.swaps i).wanted.toNat),w1r]
   rw[hbe];cases hb:z68 p (gt x.swaps i) with
   |true=>rw[if_pos rfl,z6 ⟨by omega,by rw[h2.1];omega⟩];refine hs _ ?_;rw[hstep];unfold z9g;rw[hb];exact h2.set he.2.2.1 he.2.2.2.1 _
   |false=>rw[if_neg (by simp)];refine hs _ ?_;rw[hstep,zkf hb];exact h2
 .intro n t h2;rw[w1m] at h2;rw[z1n,if_neg (by simp)];exact hk _ h2
theorem yfr(φ:Nat)(T:Nat)(hT:T<=32)(hφ:5000<φ)(a:Int)(c:Nat->Int)(d:List Int)(hd:LAgW T d c):z2n φ φ a 0 d []=some (zhh a T c,0,()):=by
 refine z0a (λn i t=>z2n φ n a i d t) T (λi t=>t=zhh a i c) (λo=>o=some (zhh a T c,0,())) ?_ ?_ φ _ rfl (by omega)
 .intro n i t hi ht hs;have hW:W ((i:Int)+1) =(i:Int)+1:=W_id (by omega) (by omega);have hlen:=zsq a i c;rw[z2n,if_pos (by rw[hd.1];simp;omega),z6 ⟨by omega,by rw[hd.1];omega⟩,hd.2 i hi,hW];by_cases h:0<=c i
  .rw[if_pos (by simpa using h),z6 ⟨by omega,by rw[hd.1];omega⟩,z6 (ygu (by rw[ht];simp;omega))];exact hs _ (by rw[zky,if_pos h,ht])
  .rw[if_neg (by simpa using h)];exact hs _ (by rw[zky,if_neg h,ht])
 .intro n t ht;rw[z2n,if_neg (by rw[hd.1];simp),ht]
theorem zu9(φ:Nat)(hφ:5000<φ)(x:z1w)(a:Int):zi2 φ x a=some (z54 x a):=by
 unfold zi2 z54;rw[zfm φ hφ,w01];by_cases h:z0i x=0
 .obtain⟨a1,a2,a3,a4,b1,b2,b3,b4⟩:=z3m h;rw[if_neg (by simp[h]),if_neg (λe:z0i x≠0=>e h),W_id (by omega) (by omega),z2o,w01];by_cases hi:0<=a/\a<x.types.length
  .rw[if_neg (by simp[bet];omega),if_neg (λe:¬(0<=a/\a<(x.types.length:Int))=>e hi),z6 (mk_t _ _ (by omega) (by omega) (by omega)),show ((x.types.length:Int)).toNat=x.types.length by omega];refine z0a (λn i t=>z5z φ n a i x t) x.types.length (λi t=>t.length=x.types.length/\∀j:Nat,j<i->gt t (j:Int)=-1) (λo=>o=some (zhh a x.types.length (zex x.swaps x.types.length a.toNat),0,())) ?_ ?_ φ _ ⟨by simp,by intro j hj;omega⟩ (by omega)
   .intro n i t hi2 ⟨ht1,ht⟩ hs;rw[z5z,if_pos (by rw[ht1];simp;omega),z6 ⟨by omega,by rw[ht1];omega⟩,W_id (by omega) (by omega)];refine hs _ ⟨by rw[z02,ht1],λj hj=>?_⟩;rw[zx _ _ _ _ (by omega) (by rw[ht1];omega) (by omega)];split
    .rfl
    .rename_i e;exact ht j (by omega)
   .intro n t ⟨ht1,ht⟩;rw[z5z,if_neg (by rw[ht1];simp),z6 ⟨by omega,by rw[ht1];omega⟩];have hst:LAgW x.types.length (zl t a 0) (cRw x.swaps a.toNat 0):=by
     refine⟨by rw[z02,ht1],λj hj=>?_⟩;rw[zx _ _ _ _ (by omega) (by rw[ht1];omega) (by omega),ht j hj];simp only[cRw];by_cases e :(j:Int)=a
     .rw[if_pos e,if_pos (by omega)]
     .rw[if_neg e,if_neg (by omega)]
    refine z0a (λn i t=>z5d φ n a i x t) x.types.length (λi t=>LAgW x.types.length t (cRw x.swaps a.toNat i)) (λo=>o=some (zhh a x.types.length (zex x.swaps x.types.length a.toNat),0,())) ?_ ?_ φ _ hst (by omega)
    .intro n i t hi2 ht hs;have hb:=zzx (y4t h) a3 a.toNat i;rw[z5d,if_pos (by simp;omega)];refine y85 φ x a i (y4t h) a3 _ _ (by omega) (by omega) _ hb t ht (λd' hd'=>?_) φ (by omega);rw[W_id (by omega) (by omega)];exact hs d' hd'
    .intro n t ht;rw[z5d,if_neg (by simp)];exact yfr φ _ a1 hφ a _ t ht
  .rw[if_pos (by simp[bet];omega),if_pos (show ¬(0<=a/\a<(x.types.length:Int)) from hi)]
 .rw[if_pos (by simp[h]),if_pos (show z0i x≠0 from h)]
theorem zu8(φ:Nat)(hφ:5000<φ)(x:z1w)(a b:Int):ze5 φ x a b=some (zgo x a b):=by
 unfold ze5 zgo;rw[zfm φ hφ,w01];by_cases h:z0i x=0
 .obtain⟨a1,a2,a3,a4,b1,b2,b3,b4⟩:=z3m h;rw[if_neg (by simp[h]),if_neg (λe:z0i x≠0=>e h)];simp only[z2o,w01];by_cases ha:0<=a/\a<=63
  .rw[z33.2 ha,gz_t (by simp),w01];by_cases hb:0<=b/\b<=63
   .rw[z33.2 hb,if_neg (by simp),if_neg (λe=>e ⟨ha,hb⟩)];have key:∀(m n i:Nat),x.washes.length-i=m->i<=x.washes.length->m<n->
      z5c φ n a b (i:Int) x=some (match (x.washes.drop i).find? (λw=>(w.from_==a)&&(w.to==b)) with|some w=>(w.minutes,0,())|none=>(0,0,())):=by
     intro m
     induction m with
     |zero=>intro n i hm hi hn;obtain⟨n,rfl⟩:∃n',n=n'+1:=⟨n-1,by omega⟩;rw[z5c,if_neg (by simp;omega),w2n (by omega)];rfl
     |succ m ih=>
      intro n i hm hi hn;obtain⟨n,rfl⟩:∃n',n=n'+1:=⟨n-1,by omega⟩;have hi':i<x.washes.length:=by omega
      have e:x.washes.drop i=gt x.washes (i:Int)::x.washes.drop (i+1):=by rw[z4b hi'];exact w2t hi'
      rw[z5c,if_pos (by simp;omega),z6 ⟨by omega,by omega⟩,z6 (λ_=>⟨by omega,by omega⟩),e,w3j];cases hc :((gt x.washes (i:Int)).from_==a&&(gt x.washes (i:Int)).to==b) with
      |true=>rw[if_pos rfl,z6 ⟨by omega,by omega⟩]
      |false=>rw[if_neg (by simp),W_id (by omega) (by omega),show (i:Int)+1 =((i+1:Nat):Int) by omega];exact ih n (i+1) (by omega) (by omega) (by omega)
    have:=key x.washes.length φ 0 (by omega) (by omega) (by omega);rw[w3b] at this;exact this
   .have e:bet b 0 63=false:=by rw[<- w2d,z33];exact hb
    rw[e,if_pos (by simp),if_pos (λh=>hb h.2)]
  .have e:bet a 0 63=false:=by rw[<- w2d,z33];exact ha
   rw[e,gz_f (by simp),w01,if_pos (by simp),if_pos (λh=>ha h.1)]
 .rw[if_pos (by simp[h]),if_pos (show z0i x≠0 from h)]
theorem zt6(φ:Nat)(p:Pool)(s:za):zke φ p s=some (okSu p s,()):=zg5 φ p s
theorem zuo(φ:Nat)(p:Pool)(o:zf):zm7 φ p o=some (okOr p o,()):=zin φ p o
theorem yho(v:Int):U ((BitVec.ofInt 64 v&&& BitVec.ofInt 64 1).toNat)=v % 2:=by
 have h1 :(BitVec.ofInt 64 v&&& BitVec.ofInt 64 1).toNat =(v % 2).toNat:=by
  rw[w5e];have e1 :(BitVec.ofInt 64 1).toNat=1:=rfl;have e2 :(BitVec.ofInt 64 v).toNat =(v % 18446744073709551616).toNat:=by rw[BitVec.toNat_ofInt];rfl
  rw[e1,e2,Nat.and_one_is_mod];omega
 rw[h1,y78];omega
theorem ynf(v:Int):((v.tmod 2:Int)==0) =((v % 2:Int)==0):=by rw[w2j,beq_iff_eq,beq_iff_eq];exact(Int.dvd_iff_tmod_eq_zero (a:=2) (b:=v)).symm.trans (Int.dvd_iff_emod_eq_zero (a:=2) (b:=v))
theorem y7l(x:z1w)(a:Int):(z54 x a).1.Pairwise (λg h=>g.given≠h.given):=by
 unfold z54;split
 .exact List.Pairwise.nil
 .split
  .exact List.Pairwise.nil
  .unfold zhh;simp only;rw[List.pairwise_filterMap];refine List.Pairwise.imp ?_ (w2z (n:=x.types.length));intro i j hij b hb b' hb';split at hb
   .split at hb'
    .cases hb;cases hb';show (i:Int)≠(j:Int);omega
    .cases hb'
   .cases hb
theorem zqj{φ:Nat}(p:Pool)(s:za)(o:zf)(t c:Int)(l:List Swap)(hl:l.length<=1000)(hm:0<=t/\0<=c/\t+c<=60000000)(ha:0<=s.at_/\s.at_<=1073741824)(hb:∀g∈l,0<=g.cost/\g.cost<=100000000000000):
  ∀(d n i:Nat),l.length-i=d->i<=l.length->d<n->(l.drop i).Pairwise (λg h=>g.given≠h.given)->z3r φ n t c l (i:Int) s o=some (match (l.drop i).find? (λg=>g.given==s.type_) with
   |none=>(0,false,())
   |some g=>bif decide (o.to<s.at_+(t+c))||decide (1000000000<t+c+g.cost) then(0,false,()) else(t+c+g.cost,true,())):=by
 intro d
 induction d with
 |zero=>intro n i hm hi hn _;obtain⟨n,rfl⟩:∃n',n=n'+1:=⟨n-1,by omega⟩;rw[z3r,if_neg (by simp;omega),w2n (by omega)];rfl
 |succ d ih=>
  intro n i hm2 hi hn hpw;obtain⟨n,rfl⟩:∃n',n=n'+1:=⟨n-1,by omega⟩;have hi':i<l.length:=by omega
  have e:l.drop i=gt l (i:Int)::l.drop (i+1):=by rw[z4b hi'];exact w2t hi'
  rw[e] at hpw;have hpw2:=w20.1 hpw;have hg:=hb (gt l (i:Int)) (z7k (by omega) (by omega));rw[z3r,if_pos (by simp;omega),z6 ⟨by omega,by omega⟩,e,w3j];have hrec:=ih n (i+1) (by omega) (by omega) (by omega) hpw2.2;have hW1:W ((i:Int)+1) =((i+1:Nat):Int):=by rw[W_id (by omega) (by omega)];omega
  cases hc :((gt l (i:Int)).given==s.type_) with
  |true=>
   rw[if_pos rfl,z6 ⟨by omega,by omega⟩,W_id (x:=s.at_+t) (by omega) (by omega),W_id (x:=s.at_+t+c) (by omega) (by omega),W_id (x:=t+c) (by omega) (by omega),W_id (x:=t+c+(gt l (i:Int)).cost) (by omega) (by omega),hW1];simp only;by_cases g:o.to<s.at_+(t+c)\/1000000000<t+c+(gt l (i:Int)).cost
   .have e1 :(decide (o.to<s.at_+(t+c))||decide (1000000000<t+c+(gt l (i:Int)).cost))=true:=by rw[w0w,decide_eq_true_eq,decide_eq_true_eq];exact g
    rw[e1,if_neg (by rw[w03,decide_eq_true_eq,decide_eq_true_eq];omega),hrec];have hnone :(l.drop (i+1)).find? (λg=>g.given==s.type_)=none:=by rw[w4z];intro q hq hq';have:=hpw2.1 q hq;rw[beq_iff_eq] at hc hq';exact this (hc.trans hq'.symm)
    rw[hnone];rfl
   .have e1 :(decide (o.to<s.at_+(t+c))||decide (1000000000<t+c+(gt l (i:Int)).cost))=false:=by rw[<- w2d,w0w,decide_eq_true_eq,decide_eq_true_eq];exact g
    rw[e1,if_pos (by rw[w03,decide_eq_true_eq,decide_eq_true_eq];omega)];rfl
  |false=>rw[if_neg (by simp),hW1,hrec]
theorem zup{φ:Nat}(hφ:5000<φ)(hB:zln φ)(hR:∀x a b,z35 φ x a b=z05 φ x a b)(p:Pool)(s:za)(o:zf)(ht:0<=s.type_/\s.type_<(p.fleet.types.length:Int))(ho:0<=o.class_)(ha:0<=s.at_/\s.at_<=1073741824):
  za8 φ p s o=some ((zkk φ p s o).1,(zkk φ p s o).2,()):=by
 obtain⟨h1,h2,h3⟩:=hB.eq p.network s.place o.place;have hcl:=zw1 p.fleet s.class_ o.class_;have j10:∀c:Int,(c=if 0<=s.class_ then(zgo p.fleet s.class_ o.class_).1 else 0)->z3s φ (betF φ p.network s.place o.place).1 c p s o=some (match (z54 p.fleet o.type_).1.find? (λg=>g.given==s.type_) with
   |none=>(0,false,())
   |some g=>bif decide (o.to<s.at_+minF φ p s o)||decide (1000000000<minF φ p s o+g.cost) then(0,false,()) else(minF φ p s o+g.cost,true,())):=λc hc=>by
  unfold z3s;rw[zu9 φ hφ,w01];have hcb:0<=c/\c<=100000:=by rw[hc];split<;>omega
  have:=zqj (φ:=φ) p s o (betF φ p.network s.place o.place).1 c (z54 p.fleet o.type_).1 (zmz _ _) ⟨h2,hcb.1,by omega⟩ ha (zwz _ _) _ φ 0 rfl (by omega) (by have:=zmz p.fleet o.type_;omega) (by rw[w3b];exact y7l _ _);rw[w3b] at this;have em :(betF φ p.network s.place o.place).1+c=minF φ p s o:=by unfold minF;rw[hc]
  rw[em] at this;exact this
 unfold za8 zkk;rw[hR,h1,w01,z6 (λ_=>ht),z6 (λ_=>ho),if_pos (by decide)];simp only;have hbit :(((((gt p.fleet.types s.type_).classes:Int).fdiv (2 ^ (min (o.class_:Int).toNat 64))):Int).tmod 2==0)=bitF p s o:=by unfold bitF;rw[yho,ynf]
 rw[hbit];cases hc :(((betF φ p.network s.place o.place).2 !=0)||bitF p s o) with
 |true=>rfl
 |false=>
  rw[if_neg (by simp),cond_false];have hj :(if(decide ((0:Int)<=s.class_))=true then((ze5 φ p.fleet s.class_ o.class_).bind λy20=>(z3s φ (betF φ p.network s.place o.place).1 y20.1 p s o)) else(z3s φ (betF φ p.network s.place o.place).1 0 p s o))=some (match (z54 p.fleet o.type_).1.find? (λg=>g.given==s.type_) with
   |none=>(0,false,())
   |some g=>bif decide (o.to<s.at_+minF φ p s o)||decide (1000000000<minF φ p s o+g.cost) then(0,false,()) else(minF φ p s o+g.cost,true,())):=by
   by_cases hs:0<=s.class_
   .rw[if_pos (by simpa using hs),zu8 φ hφ,w01,j10 _ (by rw[if_pos hs])]
   .rw[if_neg (by simpa using hs),j10 _ (by rw[if_neg hs])]
  rw[hj];cases (z54 p.fleet o.type_).1.find? (λg=>g.given==s.type_) with
  |none=>rfl
  |some g=>simp only;cases (decide (o.to<s.at_+minF φ p s o)||decide (1000000000<minF φ p s o+g.cost))<;>rfl
end Px
end
section
namespace Px
open Go
def cF(φ:Nat)(p:Pool)(s:List za)(o:List zf)(i k:Nat):Int:=(zkk φ p (gt s (i:Int)) (gt o (k:Int))).1
def bF(φ:Nat)(p:Pool)(s:List za)(o:List zf)(i k:Nat):Bool:=(zkk φ p (gt s (i:Int)) (gt o (k:Int))).2
def netF(φ:Nat)(p:Pool)(s:List za)(o:List zf):zc:=netN s o (cF φ p s o) (bF φ p s o)
def zxi(p:Pool)(s:List za)(o:List zf):Bool:=s.all (okSu p)&&o.all (okOr p)
theorem zau(s:List za)(o:List zf)(c:Nat->Nat->Int)(b:Nat->Nat->Bool)(hs:s.length<=6)(ho:o.length<=6):(z8 s o c b).length<=49:=by unfold z8 zss;have:=zkn (s:=s) (o:=o) (c:=c) (b:=b) ho s.length;simp only[w0g,w17,List.length_range,w12,w2v];omega
theorem y76{φ:Nat}(hφ:800000<φ)(hB:zln φ){p:Pool}(hp:z62 p=0){s:List za}{o:List zf}(hs:s.length<=6)(ho:o.length<=6)(hsv:s.all (okSu p)=true)(m:Nat)(hm:o.length<m)(hS:0<=sumS s s.length/\sumS s s.length<=100000):
  z1d φ m s o (sumS s s.length) 0 o (o.length:Int) 0 p (s.map (·.count)) []=some (bif o.all (okOr p) then(netF φ p s o,0,()) else(⟨[],[]⟩,1,())):=by
 have hpl:=zl0 hp;have:=z32 (λm i(st:Int×List Int)=>z1d φ m s o (sumS s s.length) st.1 o (o.length:Int) i p st.2 []) (λst=>some (netF φ p s o,0,())) (some (⟨[],[]⟩,1,())) o (okOr p)
  (λst y=>(st.1+y.count,st.2++[- y.count])) (λi st=>(i=o.length->o.all (okOr p)=true)/\st.1=sumC o i/\0<=st.1/\st.1<=1000*(i:Int)/\st.2=s.map (·.count)++(o.take i).map (λy=>- y.count)/\∀j:Nat,j<i->okOr p (gt o (j:Int))=true) ?_ ?_ m (0,s.map (·.count)) ⟨λh=>by have:o = []:=w0z h.symm;rw[this];rfl,rfl,by simp,by simp,by simp,λj hj=>by omega⟩ hm
 .rw[this.1];cases o.all (okOr p)<;>rfl
 .rintro m i ⟨c,l⟩ hi ⟨_,h1,h2,h3,h4,h5⟩;simp only at h1 h2 h3 h4 h5;have hW:W ((i:Int)+1) =(i:Int)+1:=W_id (by omega) (by omega);have hlen:l.length<=12:=by rw[h4];simp only[w0g,w17,w1k];omega
  show z1d φ (m+1) s o (sumS s s.length) c o (o.length:Int) (i:Int) p l []=_/\_;rw[z1d,if_pos (by simp;omega),z6 ⟨by omega,by omega⟩,zin,w01,hW];cases hok:okOr p (gt o (i:Int)) with
  |false=>exact⟨by simp,λh=>by cases h⟩
  |true=>
   obtain⟨b1,b2,b3⟩:=zkx hpl hok;have hW2:W (0-(gt o (i:Int)).count)=-(gt o (i:Int)).count:=by rw[w4r];exact W_id (by omega) (by omega)
   have hW3:W (c+(gt o (i:Int)).count)=c+(gt o (i:Int)).count:=W_id (by omega) (by omega);have hall:∀j:Nat,j<i+1->okOr p (gt o (j:Int))=true:=λj hj=>by
    by_cases e:j=i
    .rw[e];exact hok
    .exact h5 j (by omega)
   rw[if_neg (by simp),z6 (by simp[fits];omega),hW2,hW3];refine⟨rfl,λ_=>⟨λh=>?_,by rw[h1];rfl,by omega,by push_cast;omega,?_,hall⟩⟩
   .rw[w06];intro x hx;obtain⟨j,hj,e⟩:=w28 hx;rw[<- e,<- z4b hj];exact hall j (by omega)
   .rw[h4,z2r o i hi,w1p,<- w0l];rfl
 .rintro m ⟨c,l⟩ ⟨h0,h1,h2,h3,h4,h5⟩;simp only at h1 h2 h3 h4 h5;rw[w1m] at h4;have hlen:l.length<=12:=by rw[h4];simp only[w0g,w17];omega
  have hW2:W (0-sumS s s.length)=- sumS s s.length:=by rw[w4r];exact W_id (by omega) (by omega)
  have hW3:W ((s.length:Int)+(o.length:Int))=nodU s o:=W_id (by omega) (by omega);show z1d φ (m+1) s o (sumS s s.length) c o (o.length:Int) (o.length:Int) p l []=_;rw[z1d,if_neg (by simp),z6 (by simp[fits];omega),if_neg (by simp only[w0g,w12,w2v,decide_eq_true_eq];omega),hW2,hW3];have hu:0<=nodU s o/\nodU s o<=1000:=by unfold nodU;omega
  have hcnt:∀k:Nat,k<o.length->0<=(gt o (k:Int)).count/\(gt o (k:Int)).count<=1000000:=λk hk=>by obtain⟨b1,b2,b3⟩:=zkx hpl (h5 k hk);omega
  have hlp :((List.range s.length).flatMap (arcR s o (cF φ p s o) (bF φ p s o))).length<=500:=by have:=zkn (s:=s) (o:=o) (c:=cF φ p s o) (b:=bF φ p s o) ho s.length;omega
  rw[yb3 φ (nodU s o) 0 p s o _ (cF φ p s o) (bF φ p s o) (λi k hi hk=>?_) hs ho (by omega) φ (by omega),y7v φ (nodU s o) s o _ _ hs ho hcnt hlp hu (by omega) φ (by omega)]
  .unfold z0x;have hal:=zau s o (cF φ p s o) (bF φ p s o) hs ho;have e :(List.range s.length).flatMap (arcR s o (cF φ p s o) (bF φ p s o))++(List.range o.length).map (arcO (nodU s o) (s.length:Int) o)++(List.range s.length).map (arcS (nodU s o) s)++[⟨nodU s o,nodU s o+1,sumC o o.length,0⟩]=z8 s o (cF φ p s o) (bF φ p s o):=rfl;rw[e,if_neg (by simp only[decide_eq_true_eq];omega),h1,h4];rfl
  .obtain⟨a1,a2,a3⟩:=zn5 hpl (w06.1 hsv _ (z7k (i:=(i:Int)) (by omega) (by omega)));obtain⟨b1,b2,b3⟩:=zkx hpl (h5 k hk);exact yga (by omega) hB p _ _ a1 b1 a2
theorem y8s{φ:Nat}(hφ:800000<φ)(hB:zln φ)(p:Pool){s:List za}{o:List zf}(hs:s.length<=6)(ho:o.length<=6):
  z80 φ p s o=some (if z62 p≠0 then(⟨[],[]⟩,z62 p,()) else bif zxi p s o then(netF φ p s o,0,()) else(⟨[],[]⟩,1,())):=by
 unfold z80;rw[zmo φ hφ,w01];by_cases hp:z62 p=0
 case neg=>rw[if_pos (by simpa using hp),if_pos hp]
 rw[if_neg (by simpa using hp),if_neg (λh=>h hp)];have hpl:=zl0 hp;have:=z32 (λm i(st:Int×List Int)=>z2i φ m s o st.1 0 s (s.length:Int) i p st.2 []) (λst=>some (bif o.all (okOr p) then(netF φ p s o,0,()) else(⟨[],[]⟩,1,()))) (some (⟨[],[]⟩,1,())) s (okSu p)
  (λst y=>(st.1+y.count,st.2++[y.count])) (λi st=>(i=s.length->s.all (okSu p)=true)/\st.1=sumS s i/\0<=st.1/\st.1<=4096*(i:Int)/\st.2 =(s.take i).map (·.count)/\∀j:Nat,j<i->okSu p (gt s (j:Int))=true) ?_ ?_ φ (0,[]) ⟨λh=>by have:s = []:=w0z h.symm;rw[this];rfl,rfl,by simp,by simp,by simp,λj hj=>by omega⟩ (by omega)
 .rw[this.1];unfold zxi;cases s.all (okSu p)<;>rfl
 .rintro m i ⟨c,l⟩ hi ⟨_,h1,h2,h3,h4,h5⟩;simp only at h1 h2 h3 h4 h5;have hW:W ((i:Int)+1) =(i:Int)+1:=W_id (by omega) (by omega);have hlen:l.length<=12:=by rw[h4];simp only[w17,w1k];omega
  show z2i φ (m+1) s o c 0 s (s.length:Int) (i:Int) p l []=_/\_;rw[z2i,if_pos (by simp;omega),z6 ⟨by omega,by omega⟩,zg5,w01,hW];cases hok:okSu p (gt s (i:Int)) with
  |false=>exact⟨by simp,λh=>by cases h⟩
  |true=>
   obtain⟨b1,b2,b3⟩:=zn5 hpl hok;have hW3:W (c+(gt s (i:Int)).count)=c+(gt s (i:Int)).count:=W_id (by omega) (by omega);have hall:∀j:Nat,j<i+1->okSu p (gt s (j:Int))=true:=λj hj=>by
    by_cases e:j=i
    .rw[e];exact hok
    .exact h5 j (by omega)
   rw[if_neg (by simp),z6 (by simp[fits];omega),hW3];refine⟨rfl,λ_=>⟨λh=>?_,by rw[h1];rfl,by omega,by push_cast;omega,?_,hall⟩⟩
   .rw[w06];intro x hx;obtain⟨j,hj,e⟩:=w28 hx;rw[<- e,<- z4b hj];exact hall j (by omega)
   .rw[h4,z2r s i hi,w1p];rfl
 .rintro m ⟨c,l⟩ ⟨h0,h1,h2,h3,h4,h5⟩;simp only at h1 h2 h3 h4 h5;rw[w1m] at h4;show z2i φ (m+1) s o c 0 s (s.length:Int) (s.length:Int) p l []=_;rw[z2i,if_neg (by simp),h1,h4];exact y76 hφ hB hp hs ho (h0 rfl) φ (by omega) ⟨by omega,by omega⟩
structure Val(φ:Nat)(p:Pool)(s:List za)(o:List zf):Prop where
 hφ:800000<φ
 hB:zln φ
 hp:z62 p=0
 hs:s.length<=6
 ho:o.length<=6
 su:∀i:Nat,i<s.length->okSu p (gt s (i:Int))=true
 or:∀k:Nat,k<o.length->okOr p (gt o (k:Int))=true
theorem Val.sc{φ:Nat}{p:Pool}{s:List za}{o:List zf}(h:Val φ p s o){i:Nat}(hi:i<s.length):1<=(gt s (i:Int)).count/\(gt s (i:Int)).count<=4096:=(zn5 (zl0 h.hp) (h.su i hi)).2.2
theorem Val.oc{φ:Nat}{p:Pool}{s:List za}{o:List zf}(h:Val φ p s o){k:Nat}(hk:k<o.length):(1<=(gt o (k:Int)).count/\(gt o (k:Int)).count<=1000)/\0<=(gt o (k:Int)).weight/\(gt o (k:Int)).weight<=1000000000:=(zkx (zl0 h.hp) (h.or k hk)).2
theorem yme{φ:Nat}(hφ:800000<φ)(hB:zln φ){p:Pool}{s:List za}{o:List zf}(hp:z62 p=0)(hs:s.length<=6)(ho:o.length<=6)(h:zxi p s o=true):Val φ p s o:=by unfold zxi at h;rw[w03] at h;exact⟨hφ,hB,hp,hs,ho,λi hi=>w06.1 h.1 _ (z7k (by omega) (by omega)),λk hk=>w06.1 h.2 _ (z7k (by omega) (by omega))⟩
theorem Val.all{φ:Nat}{p:Pool}{s:List za}{o:List zf}(h:Val φ p s o):zxi p s o=true:=by
 unfold zxi;rw[w03,w06,w06];refine⟨λx hx=>?_,λx hx=>?_⟩
 .obtain⟨j,hj,e⟩:=w28 hx;rw[<- e,<- z4b hj];exact h.su j hj
 .obtain⟨j,hj,e⟩:=w28 hx;rw[<- e,<- z4b hj];exact h.or j hj
theorem Val.net{φ:Nat}{p:Pool}{s:List za}{o:List zf}(h:Val φ p s o):z80 φ p s o=some (netF φ p s o,0,()):=by rw[y8s h.hφ h.hB p h.hs h.ho,if_neg (λe=>e h.hp),h.all];rfl
theorem zvm(f:Nat->Int)(a:Nat):∀b:Nat,sumN (a+b) f=sumN a f+sumN b (λk=>f (a+k))
 |0=>by simp[sumN]
 |b+1=>by show sumN (a+b) f+f (a+b)=_;rw[zvm f a b];simp only[sumN];omega
theorem y6z(f:Nat->Int):∀n:Nat,sumN n (λi=>- f i)=- sumN n f
 |0=>rfl
 |n+1=>by simp only[sumN,y6z f n];omega
theorem Val.sumS_bd{φ:Nat}{p:Pool}{s:List za}{o:List zf}(h:Val φ p s o):0<=sumS s s.length/\sumS s s.length<=24576:=by
 rw[y4m];have:=zim (m:=s.length) (f:=λi=>(gt s (i:Int)).count) (B:=4096) λi hi=>by have:=h.sc hi;exact⟨by omega,this.2⟩
 have:=h.hs;omega
theorem Val.sumC_bd{φ:Nat}{p:Pool}{s:List za}{o:List zf}(h:Val φ p s o):0<=sumC o o.length/\sumC o o.length<=6000:=by
 rw[zz5];have:=zim (m:=o.length) (f:=λi=>(gt o (i:Int)).count) (B:=1000) λi hi=>by have:=h.oc hi;exact⟨by omega,this.1.2⟩
 have:=h.ho;omega
theorem y8x{α:Type}[Inhabited α]{l:List α}{P:α->Bool}(h:∀i:Nat,i<l.length->P (gt l (i:Int))=true):l.all P=true:=by rw[w06];intro x hx;obtain⟨j,hj,e⟩:=w28 hx;rw[<- e,<- z4b hj];exact h j hj
theorem Val.chk{φ:Nat}{p:Pool}{s:List za}{o:List zf}(h:Val φ p s o):zq0 (netF φ p s o)=0:=by
 have hs:=h.hs;have ho:=h.ho;have hS:=h.sumS_bd;have hC:=h.sumC_bd;have hal:=zau s o (cF φ p s o) (bF φ p s o) hs ho;have hsl :(supN s o).length<=14:=by rw[zcj];omega
 have e0 :(netF φ p s o).supply=supN s o:=rfl;have e1 :(netF φ p s o).arcs=z8 s o (cF φ p s o) (bF φ p s o):=rfl;have h1 :(supN s o).all zso=true:=by
  refine y8x λv hv=>?_
  rw[zcj] at hv;show zso (atN (supN s o) v)=true;unfold zso;rw[z33];by_cases g1:v<s.length
  .rw[y2j g1];have:=h.sc g1;omega
  .by_cases g2:v<s.length+o.length
   .obtain⟨k,rfl⟩:∃k,v=s.length+k:=⟨v-s.length,by omega⟩;rw[y2i (by omega)];have:=h.oc (k:=k) (by omega);omega
   .by_cases g3:v=s.length+o.length
    .rw[g3,y70];omega
    .rw[show v=s.length+o.length+1 by omega,ycj];omega
 have h2 :(z8 s o (cF φ p s o) (bF φ p s o)).all (zm1 (supN s o).length)=true:=by
  rw[w06];intro a ha;rw[y1i,zcj];rcases y1e ha with⟨i,k,hi,hk,hb,e⟩|⟨k,hk,e⟩|⟨i,hi,e⟩|e
  .have h1:=h.sc hi;have h2:=h.oc hk;have h3:=ycg h.hB hb;rw[e];show (0<=(i:Int)/\(i:Int)<_)/\(0<=(s.length:Int)+(k:Int)/\(s.length:Int)+(k:Int)<_)/\(i:Int)≠(s.length:Int)+(k:Int)/\(0<=min2 (gt s (i:Int)).count (gt o (k:Int)).count/\min2 (gt s (i:Int)).count (gt o (k:Int)).count<=1000000000)/\(0<=cF φ p s o i k/\cF φ p s o i k<=1000000000);have h4:0<=min2 (gt s (i:Int)).count (gt o (k:Int)).count/\min2 (gt s (i:Int)).count (gt o (k:Int)).count<=1000000000:=by unfold min2;split<;>omega
   exact⟨by omega,by omega,by omega,h4,h3.1,h3.2.1⟩
  .have h2:=h.oc hk;rw[e];show (0<=nodU s o/\nodU s o<_)/\(0<=(s.length:Int)+(k:Int)/\(s.length:Int)+(k:Int)<_)/\nodU s o≠(s.length:Int)+(k:Int)/\(0<=(gt o (k:Int)).count/\(gt o (k:Int)).count<=1000000000)/\(0<=(gt o (k:Int)).weight/\(gt o (k:Int)).weight<=1000000000);unfold nodU;omega
  .have h1:=h.sc hi;rw[e];show (0<=(i:Int)/\(i:Int)<_)/\(0<=nodU s o+1/\nodU s o+1<_)/\(i:Int)≠nodU s o+1/\(0<=(gt s (i:Int)).count/\(gt s (i:Int)).count<=1000000000)/\(0<=(0:Int)/\(0:Int)<=1000000000);unfold nodU;omega
  .rw[e];show (0<=nodU s o/\nodU s o<_)/\(0<=nodU s o+1/\nodU s o+1<_)/\nodU s o≠nodU s o+1/\(0<=sumC o o.length/\sumC o o.length<=1000000000)/\(0<=(0:Int)/\(0:Int)<=1000000000);unfold nodU;omega
 have h3:sumL (supN s o)=0:=by rw[ych,zcj,show s.length+o.length+2=s.length+o.length+1+1 by rfl];simp only[sumN];rw[zvm,y70,ycj];rw[zy (n:=s.length) (g:=λi=>(gt s (i:Int)).count) λi hi=>y2j hi,zy (n:=o.length) (g:=λk=>-(gt o (k:Int)).count) λk hk=>y2i hk,y6z,<- y4m,<- zz5];omega
 unfold zq0;rw[e0,e1,h1,h2,h3];rw[show (decide (256<(supN s o).length)||decide (2048<(z8 s o (cF φ p s o) (bF φ p s o)).length))=false by simp;omega];rfl
theorem Val.fnet{φ:Nat}{p:Pool}{s:List za}{o:List zf}(h:Val φ p s o):zld (netF φ p s o):=zjl h.chk
end Px
end
section
namespace Px
open Go
theorem zyv(φ:Nat)(u ord:Int)(s:List za)(q1:List Int)(q2:List Arc)(sup:List Int)(arcs:List Arc)(hs:s.length<=6)(ha:arcs.length<=1000)(hu:0<=u/\u<=1000)(m:Nat)(hm:s.length<m):
  z38 φ m s ord u 0 q1 q2 sup arcs=some (⟨sup,arcs++(List.range s.length).map (arcS u s)++[⟨u,u+1,ord,0⟩]⟩,0,()):=by
 have hu1:W (u+1)=u+1:=W_id (by omega) (by omega);refine z0a (λm i acc=>z38 φ m s ord u i q1 q2 sup acc) s.length (λi acc=>acc=arcs++(List.range i).map (arcS u s)) (λo=>o=some (⟨sup,arcs++(List.range s.length).map (arcS u s)++[⟨u,u+1,ord,0⟩]⟩,0,())) ?_ ?_ m arcs (by simp) hm
 .intro m i acc hi hI hG;have hW:W ((i:Int)+1) =(i:Int)+1:=W_id (by omega) (by omega);have hlen:acc.length=arcs.length+i:=by rw[hI];simp
  show z38 φ (m+1) s ord u (i:Int) q1 q2 sup acc=_;rw[z38,if_pos (by simp;omega),z6 ⟨by omega,by omega⟩,z6 (by simp[fits,hlen];omega),hW,hu1];refine hG _ ?_;rw[hI,w1a,w1p,w0l];rfl
 .intro m acc hI;have hlen:acc.length=arcs.length+s.length:=by rw[hI];simp
  show z38 φ (m+1) s ord u (s.length:Int) q1 q2 sup acc=_;rw[z38,if_neg (by simp),z6 (by simp[fits,hlen];omega),if_neg (by simp[hlen];omega),hu1,hI]
theorem y4e(φ:Nat)(u ord:Int)(s:List za)(o:List zf)(q1:List Int)(q2:List Arc)(sup:List Int)(arcs:List Arc)(hs:s.length<=6)(ho:o.length<=6)(ha:arcs.length<=500)(hu:0<=u/\u<=1000)(hφ:1000<φ)(m:Nat)(hm:o.length<m):
  z1o φ m s o ord u 0 q1 q2 sup arcs=some (⟨sup,arcs++(List.range o.length).map (arcO u (s.length:Int) o)++(List.range s.length).map (arcS u s)++[⟨u,u+1,ord,0⟩]⟩,0,()):=by
 refine z0a (λm i acc=>z1o φ m s o ord u i q1 q2 sup acc) o.length (λi acc=>acc=arcs++(List.range i).map (arcO u (s.length:Int) o)) (λr=>r=some (⟨sup,arcs++(List.range o.length).map (arcO u (s.length:Int) o)++(List.range s.length).map (arcS u s)++[⟨u,u+1,ord,0⟩]⟩,0,())) ?_ ?_ m arcs (by simp) hm
 .intro m i acc hi hI hG;have hW:W ((i:Int)+1) =(i:Int)+1:=W_id (by omega) (by omega);have hW2:W ((s.length:Int)+(i:Int)) =(s.length:Int)+(i:Int):=W_id (by omega) (by omega);have hlen:acc.length=arcs.length+i:=by rw[hI];simp
  show z1o φ (m+1) s o ord u (i:Int) q1 q2 sup acc=_;rw[z1o,if_pos (by simp;omega),z6 ⟨by omega,by omega⟩,z6 ⟨by omega,by omega⟩,z6 (by simp[fits,hlen];omega),hW,hW2];refine hG _ ?_;rw[hI,w1a,w1p,w0l];rfl
 .intro m acc hI;have hlen:acc.length=arcs.length+o.length:=by rw[hI];simp
  show z1o φ (m+1) s o ord u (o.length:Int) q1 q2 sup acc=_;rw[z1o,if_neg (by simp),zyv φ u ord s q1 q2 sup acc hs (by omega) hu φ (by omega),hI]
theorem yfs(φ:Nat)(k39:List za->List zf->Int->Int->Int->Pool->List Int->List Arc->List Int->List Arc->Option (zc×Int×Unit))(u ord:Int)(p:Pool)(s:List za)(o:List zf)(q1:List Int)(q2:List Arc)(sup:List Int)(c:Nat->Nat->Int)(b:Nat->Nat->Bool)(i:Nat)(hi:i<s.length)
  (hsu:∀k:Nat,k<o.length->za8 φ p (gt s (i:Int)) (gt o (k:Int))=some (c i k,b i k,())) (hs:s.length<=6) (ho:o.length<=6) (acc:List Arc) (ha:acc.length<=100) (m:Nat) (hm:o.length<m) :
  z2e φ k39 m s o ord u (i:Int) 0 p q1 q2 sup acc=k39 s o ord u (W ((i:Int)+1)) p q1 q2 sup (acc++arcR s o c b i):=by
 refine z0a (λm k acc=>z2e φ k39 m s o ord u (i:Int) k p q1 q2 sup acc) o.length (λk a=>a=acc++(List.range k).flatMap (arcP s o c b i))
  (λr=>r=k39 s o ord u (W ((i:Int)+1)) p q1 q2 sup (acc++arcR s o c b i)) ?_ ?_ m acc (by simp) hm
 .intro m k a hk hI hG;have hW:W ((k:Int)+1) =(k:Int)+1:=W_id (by omega) (by omega);have hW2:W ((s.length:Int)+(k:Int)) =(s.length:Int)+(k:Int):=W_id (by omega) (by omega);have hlen:a.length<=110:=by rw[hI,w0g];have:=zqn (s:=s) (o:=o) (c:=c) (b:=b) i k;omega
  show z2e φ k39 (m+1) s o ord u (i:Int) (k:Int) p q1 q2 sup a=_;rw[z2e,if_pos (by simp;omega),z6 ⟨by omega,by omega⟩,z6 ⟨by omega,by omega⟩,hsu k hk,w01,hW,hW2];have hstep:∀a',a'=a++arcP s o c b i k->a'=acc++(List.range (k+1)).flatMap (arcP s o c b i):=λa' e=>by rw[e,hI,w1a,w1e,w0l];simp
  cases hb:b i k with
  |true=>rw[if_pos rfl,z6 ⟨by omega,by omega⟩,z6 ⟨by omega,by omega⟩,z6 (by simp[fits];omega)];exact hG _ (hstep _ (by unfold arcP;rw[hb];rfl))
  |false=>rw[if_neg (by simp)];exact hG _ (hstep _ (by unfold arcP;rw[hb];simp))
 .intro m a hI;show z2e φ k39 (m+1) s o ord u (i:Int) (o.length:Int) p q1 q2 sup a=_;rw[z2e,if_neg (by simp),hI];rfl
theorem y86(φ:Nat)(u ord:Int)(p:Pool)(s:List za)(o:List zf)(q1:List Int)(q2:List Arc)(sup:List Int)(c:Nat->Nat->Int)(b:Nat->Nat->Bool)
  (hsu:∀i k:Nat,i<s.length->k<o.length->za8 φ p (gt s (i:Int)) (gt o (k:Int))=some (c i k,b i k,())) (hs:s.length<=6) (ho:o.length<=6) (hφ:1000<φ) (m:Nat) (hm:s.length<m) :
  z37 φ m s o ord u 0 p q1 q2 sup []=z1o φ φ s o ord u 0 q1 q2 sup ((List.range s.length).flatMap (arcR s o c b)):=by
 refine z0a (λm i acc=>z37 φ m s o ord u i p q1 q2 sup acc) s.length (λi a=>a =(List.range i).flatMap (arcR s o c b))
  (λr=>r=z1o φ φ s o ord u 0 q1 q2 sup ((List.range s.length).flatMap (arcR s o c b))) ?_ ?_ m [] (by simp) hm
 .intro m i a hi hI hG;have hW:W ((i:Int)+1) =(i:Int)+1:=W_id (by omega) (by omega);have hlen:a.length<=100:=by rw[hI];have:=zkn (s:=s) (o:=o) (c:=c) (b:=b) ho i;omega
  show z37 φ (m+1) s o ord u (i:Int) p q1 q2 sup a=_;rw[z37,if_pos (by simp;omega),yfs φ _ u ord p s o q1 q2 sup c b i hi (λk hk=>hsu i k hi hk) hs ho a hlen φ (by omega),hW];refine hG _ ?_;rw[hI,w1a,w1e];simp
 .intro m a hI;show z37 φ (m+1) s o ord u (s.length:Int) p q1 q2 sup a=_;rw[z37,if_neg (by simp),hI]
def y4r(φ:Nat):Prop:=∀x a b,z35 φ x a b=z05 φ x a b
theorem zvq{φ:Nat}(hφ:800000<φ)(hB:zln φ)(hR:y4r φ){p:Pool}(hp:z62 p=0){s:List za}{o:List zf}(hs:s.length<=6)(ho:o.length<=6)(hsv:s.all (okSu p)=true)(m:Nat)(hm:o.length<m)(hS:0<=sumS s s.length/\sumS s s.length<=100000):
  z36 φ m s o (sumS s s.length) 0 0 p [] [] (s.map (·.count)) []=some (bif o.all (okOr p) then(netF φ p s o,0,()) else(⟨[],[]⟩,1,())):=by
 have hpl:=zl0 hp;have:=z32 (λm i(st:Int×List Int)=>z36 φ m s o (sumS s s.length) st.1 i p [] [] st.2 []) (λst=>some (netF φ p s o,0,())) (some (⟨[],[]⟩,1,())) o (okOr p)
  (λst y=>(st.1+y.count,st.2++[- y.count])) (λi st=>(i=o.length->o.all (okOr p)=true)/\st.1=sumC o i/\0<=st.1/\st.1<=1000*(i:Int)/\st.2=s.map (·.count)++(o.take i).map (λy=>- y.count)/\∀j:Nat,j<i->okOr p (gt o (j:Int))=true) ?_ ?_ m (0,s.map (·.count)) ⟨λh=>by have:o = []:=w0z h.symm;rw[this];rfl,rfl,by simp,by simp,by simp,λj hj=>by omega⟩ hm
 .rw[this.1];cases o.all (okOr p)<;>rfl
 .rintro m i ⟨c,l⟩ hi ⟨_,h1,h2,h3,h4,h5⟩;simp only at h1 h2 h3 h4 h5;have hW:W ((i:Int)+1) =(i:Int)+1:=W_id (by omega) (by omega);have hlen:l.length<=12:=by rw[h4];simp only[w0g,w17,w1k];omega
  show z36 φ (m+1) s o (sumS s s.length) c (i:Int) p [] [] l []=_/\_;rw[z36,if_pos (by simp;omega),z6 ⟨by omega,by omega⟩,zuo,w01,hW];cases hok:okOr p (gt o (i:Int)) with
  |false=>exact⟨by simp,λh=>by cases h⟩
  |true=>
   obtain⟨b1,b2,b3⟩:=zkx hpl hok;have hW2:W (0-(gt o (i:Int)).count)=-(gt o (i:Int)).count:=by rw[w4r];exact W_id (by omega) (by omega)
   have hW3:W (c+(gt o (i:Int)).count)=c+(gt o (i:Int)).count:=W_id (by omega) (by omega);have hall:∀j:Nat,j<i+1->okOr p (gt o (j:Int))=true:=λj hj=>by
    by_cases e:j=i
    .rw[e];exact hok
    .exact h5 j (by omega)
   rw[if_neg (by simp),z6 ⟨by omega,by omega⟩,z6 ⟨by omega,by omega⟩,z6 (by simp[fits];omega),hW2,hW3];refine⟨rfl,λ_=>⟨λh=>?_,by rw[h1];rfl,by omega,by push_cast;omega,?_,hall⟩⟩
   .rw[w06];intro x hx;obtain⟨j,hj,e⟩:=w28 hx;rw[<- e,<- z4b hj];exact hall j (by omega)
   .rw[h4,z2r o i hi,w1p,<- w0l];rfl
 .rintro m ⟨c,l⟩ ⟨h0,h1,h2,h3,h4,h5⟩;simp only at h1 h2 h3 h4 h5;rw[w1m] at h4;have hlen:l.length<=12:=by rw[h4];simp only[w0g,w17];omega
  have hW2:W (0-sumS s s.length)=- sumS s s.length:=by rw[w4r];exact W_id (by omega) (by omega)
  have hW3:W ((s.length:Int)+(o.length:Int))=nodU s o:=W_id (by omega) (by omega);show z36 φ (m+1) s o (sumS s s.length) c (o.length:Int) p [] [] l []=_;rw[z36,if_neg (by simp),z6 (by simp[fits];omega),if_neg (by simp only[w0g,w12,w2v,decide_eq_true_eq];omega),hW2,hW3];have hu:0<=nodU s o/\nodU s o<=1000:=by unfold nodU;omega
  have hlp :((List.range s.length).flatMap (arcR s o (cF φ p s o) (bF φ p s o))).length<=500:=by have:=zkn (s:=s) (o:=o) (c:=cF φ p s o) (b:=bF φ p s o) ho s.length;omega
  rw[y86 φ (nodU s o) c p s o [] [] _ (cF φ p s o) (bF φ p s o) (λi k hi hk=>?_) hs ho (by omega) φ (by omega),y4e φ (nodU s o) c s o [] [] _ _ hs ho hlp hu (by omega) φ (by omega)]
  .rw[h1,h4];rfl
  .obtain⟨a1,a2,a3⟩:=zn5 hpl (w06.1 hsv _ (z7k (i:=(i:Int)) (by omega) (by omega)));obtain⟨b1,b2,b3⟩:=zkx hpl (h5 k hk);exact zup (by omega) hB hR p _ _ a1 b1 a2
theorem zzj{φ:Nat}(hφ:800000<φ)(hB:zln φ)(hR:y4r φ)(p:Pool){s:List za}{o:List zf}(hs:s.length<=6)(ho:o.length<=6):
  zga φ p s o=some (if z62 p≠0 then(⟨[],[]⟩,z62 p,()) else bif zxi p s o then(netF φ p s o,0,()) else(⟨[],[]⟩,1,())):=by
 unfold zga;rw[znd φ hφ,w01];by_cases hp:z62 p=0
 case neg=>rw[if_pos (by simpa using hp),if_pos hp]
 rw[if_neg (by simpa using hp),if_neg (λh=>h hp)];have hpl:=zl0 hp;have:=z32 (λm i(st:Int×List Int)=>z4f φ m s o st.1 0 i p [] [] st.2 []) (λst=>some (bif o.all (okOr p) then(netF φ p s o,0,()) else(⟨[],[]⟩,1,()))) (some (⟨[],[]⟩,1,())) s (okSu p)
  (λst y=>(st.1+y.count,st.2++[y.count])) (λi st=>(i=s.length->s.all (okSu p)=true)/\st.1=sumS s i/\0<=st.1/\st.1<=4096*(i:Int)/\st.2 =(s.take i).map (·.count)/\∀j:Nat,j<i->okSu p (gt s (j:Int))=true) ?_ ?_ φ (0,[]) ⟨λh=>by have:s = []:=w0z h.symm;rw[this];rfl,rfl,by simp,by simp,by simp,λj hj=>by omega⟩ (by omega)
 .rw[this.1];unfold zxi;cases s.all (okSu p)<;>rfl
 .rintro m i ⟨c,l⟩ hi ⟨_,h1,h2,h3,h4,h5⟩;simp only at h1 h2 h3 h4 h5;have hW:W ((i:Int)+1) =(i:Int)+1:=W_id (by omega) (by omega);have hlen:l.length<=12:=by rw[h4];simp only[w17,w1k];omega
  show z4f φ (m+1) s o c 0 (i:Int) p [] [] l []=_/\_;rw[z4f,if_pos (by simp;omega),z6 ⟨by omega,by omega⟩,zt6,w01,hW];cases hok:okSu p (gt s (i:Int)) with
  |false=>exact⟨by simp,λh=>by cases h⟩
  |true=>
   obtain⟨b1,b2,b3⟩:=zn5 hpl hok;have hW3:W (c+(gt s (i:Int)).count)=c+(gt s (i:Int)).count:=W_id (by omega) (by omega);have hall:∀j:Nat,j<i+1->okSu p (gt s (j:Int))=true:=λj hj=>by
    by_cases e:j=i
    .rw[e];exact hok
    .exact h5 j (by omega)
   rw[if_neg (by simp),z6 ⟨by omega,by omega⟩,z6 ⟨by omega,by omega⟩,z6 (by simp[fits];omega),hW3];refine⟨rfl,λ_=>⟨λh=>?_,by rw[h1];rfl,by omega,by push_cast;omega,?_,hall⟩⟩
   .rw[w06];intro x hx;obtain⟨j,hj,e⟩:=w28 hx;rw[<- e,<- z4b hj];exact hall j (by omega)
   .rw[h4,z2r s i hi,w1p];rfl
 .rintro m ⟨c,l⟩ ⟨h0,h1,h2,h3,h4,h5⟩;simp only at h1 h2 h3 h4 h5;rw[w1m] at h4;show z4f φ (m+1) s o c 0 (s.length:Int) p [] [] l []=_;rw[z4f,if_neg (by simp),h1,h4];exact zvq hφ hB hR hp hs ho (h0 rfl) φ (by omega) ⟨by omega,by omega⟩
end Px
end
section
namespace Px
open Go
def ygc(s:List za)(o:List zf)(c X:Nat->Nat->Int):Int:=sumN s.length λi=>sumN o.length λk=>X i k*c i k
section
variable{φ:Nat}{p:Pool}{s:List za}{o:List zf}
theorem Val.xle(h:Val φ p s o){X:Nat->Nat->Int}(hX:Poss s o (bF φ p s o) X){i k:Nat}(hi:i<s.length)(hk:k<o.length):0<=X i k/\X i k<=1000:=by
 have h1:=hX.pos i k hi hk;have h2:=hX.col k hk;have h3:=yci (f:=λi=>X i k) (λj hj=>hX.pos j k hj hk) hi;have h4:=h.oc hk;refine⟨h1,?_⟩;have:X i k<=sumN s.length λi=>X i k:=h3
 omega
theorem Val.c_bd(h:Val φ p s o)(i k:Nat):0<=cF φ p s o i k/\cF φ p s o i k<=1000000000:=by
 unfold cF;cases hb :(zkk φ p (gt s (i:Int)) (gt o (k:Int))).2 with
 |true=>have:=ycg h.hB hb;exact⟨this.1,this.2.1⟩
 |false=>rw[yk8 hb];simp
theorem Val.sumXC_bd(h:Val φ p s o){X:Nat->Nat->Int}(hX:Poss s o (bF φ p s o) X):0<=ygc s o (cF φ p s o) X/\ygc s o (cF φ p s o) X<=36000000000000:=by
 have h1:∀i,i<s.length->0<=(sumN o.length λk=>X i k*cF φ p s o i k)/\(sumN o.length λk=>X i k*cF φ p s o i k)<=6000000000000:=λi hi=>by
  have:=zim (m:=o.length) (f:=λk=>X i k*cF φ p s o i k) (B:=1000000000000) λk hk=>by have h1:=h.xle hX hi hk;have h2:=h.c_bd i k;refine⟨w2h h1.1 h2.1,?_⟩;have:=w47 h1.2 h2.2 h2.1 (by omega :(0:Int)<=1000);simpa using this
  have:=h.ho;omega
 have:=zim (m:=s.length) (B:=6000000000000) h1;have:=h.hs;unfold ygc;omega
theorem Val.open_bd(h:Val φ p s o){X:Nat->Nat->Int}(hX:Poss s o (bF φ p s o) X){k:Nat}(hk:k<o.length):0<=zxk s o X k/\zxk s o X k<=1000:=by
 have h1:=hX.col k hk;have h2:=h.oc hk;have h3:=zeb (f:=λi=>X i k) (n:=s.length) λi hi=>hX.pos i k hi hk
 unfold zxk;omega
end
end Px
end
section
namespace Px
open Go
def z5q(s:List za)(o:List zf)(a:Arc):Bool:=decide (a.from_<(s.length:Int))&&decide (a.to<nodU s o)
def trT(s:List za)(o:List zf)(arcs:List Arc)(y:Nat->Int)(j:Nat):List z7:=bif z5q s o (gt arcs (j:Int))&&decide (0<y j) then [⟨(gt arcs (j:Int)).from_,(gt arcs (j:Int)).to-(s.length:Int),y j⟩] else []
def trsI(s:List za)(o:List zf)(arcs:List Arc)(y:Nat->Int)(i:Nat):List z7:=(List.range i).flatMap (trT s o arcs y)
theorem ztf(s:List za)(o:List zf)(arcs:List Arc)(y:Nat->Int)(i:Nat):trsI s o arcs y (i+1)=trsI s o arcs y i++trT s o arcs y i:=by unfold trsI;rw[w1a,w1e];simp
theorem zl9{s:List za}{o:List zf}{arcs:List Arc}{y z:Nat->Int}: ∀{i:Nat},(∀j,j<i->y j=z j)->trsI s o arcs y i=trsI s o arcs z i
 |0,_=>rfl
 |i+1,h=>by rw[ztf,ztf,zl9 (i:=i) λj hj=>h j (by omega)];unfold trT;rw[h i (by omega)]
def XY(s:List za)(o:List zf)(arcs:List Arc)(y:Nat->Int)(n:Nat)(i k:Nat):Int:=sumN n λj=>if z5q s o (gt arcs (j:Int))=true/\(gt arcs (j:Int)).from_ =(i:Int)/\(gt arcs (j:Int)).to =(s.length:Int)+(k:Int) then y j else 0
theorem zkl{n k0:Nat}(P:Nat->Prop)[DecidablePred P](x:Int)(hk:k0<n)(h:∀k,k<n->(P k↔k=k0)):(sumN n λk=>if P k then x else 0)=x:=by
 have:=zz7 (λ_=>x) k0 n;rw[if_pos hk] at this;refine(zy λk hk'=>?_).trans this;by_cases e:k=k0
 .rw[if_pos ((h k hk').2 e),if_pos e]
 .rw[if_neg (λg=>e ((h k hk').1 g)),if_neg e]
section
variable{s:List za}{o:List zf}{c:Nat->Nat->Int}{b:Nat->Nat->Bool}
theorem zjy(i k:Nat)(hi:i<s.length)(hk:k<o.length):z5q s o (arcQ s o c i k)=true:=by show (decide ((i:Int)<(s.length:Int))&&decide ((s.length:Int)+(k:Int)<nodU s o))=true;unfold nodU;simp;omega
theorem zjx(k:Nat):z5q s o (arcO (nodU s o) (s.length:Int) o k)=false:=by show (decide (nodU s o<(s.length:Int))&&_)=false;rw[show decide (nodU s o<(s.length:Int))=false by unfold nodU;simp;omega];rfl
theorem zn7(i:Nat):z5q s o (arcS (nodU s o) s i)=false:=by show (_&&decide (nodU s o+1<nodU s o))=false;rw[show decide (nodU s o+1<nodU s o)=false by simp;omega,Bool.and_false]
theorem zsr:z5q s o ⟨nodU s o,nodU s o+1,sumC o o.length,0⟩=false:=by show (_&&decide (nodU s o+1<nodU s o))=false;rw[show decide (nodU s o+1<nodU s o)=false by simp;omega,Bool.and_false]
theorem z4v{j:Nat}(hj:j<(z8 s o c b).length):(∃i k,i<s.length/\k<o.length/\b i k=true/\gt (z8 s o c b) (j:Int)=arcQ s o c i k)\/(∃k,k<o.length/\gt (z8 s o c b) (j:Int)=arcO (nodU s o) (s.length:Int) o k)\/(∃i,i<s.length/\gt (z8 s o c b) (j:Int)=arcS (nodU s o) s i)\/gt (z8 s o c b) (j:Int) =⟨nodU s o,nodU s o+1,sumC o o.length,0⟩:=y1e (z7k (by omega) (by omega))
theorem zmc{j:Nat}(hj:j<(z8 s o c b).length)(h:z5q s o (gt (z8 s o c b) (j:Int))=true):∃i k,i<s.length/\k<o.length/\b i k=true/\gt (z8 s o c b) (j:Int)=arcQ s o c i k:=by
 rcases z4v hj with h1|⟨k,hk,e⟩|⟨i,hi,e⟩|e
 .exact h1
 .rw[e,zjx] at h;cases h
 .rw[e,zn7] at h;cases h
 .rw[e,zsr] at h;cases h
theorem ykf(y:Nat->Int)(i:Nat):∀n,n<=(z8 s o c b).length->(sumN o.length λk=>XY s o (z8 s o c b) y n i k)=sumN n λj=>if z5q s o (gt (z8 s o c b) (j:Int))=true/\(gt (z8 s o c b) (j:Int)).from_ =(i:Int) then y j else 0:=by
 intro n hn;unfold XY;rw[zgd];refine zy λj hj=>?_
 by_cases hp:z5q s o (gt (z8 s o c b) (j:Int))=true
 .obtain⟨i0,k0,hi0,hk0,hb,e⟩:=zmc (by omega) hp;by_cases hi :(gt (z8 s o c b) (j:Int)).from_ =(i:Int)
  .rw[if_pos ⟨hp,hi⟩];refine zkl _ _ hk0 λk hk=>?_
   rw[e];constructor
   .rintro⟨_,_,g⟩;have g :(s.length:Int)+(k0:Int) =(s.length:Int)+(k:Int):=g;omega
   .rintro rfl;rw[e] at hp hi;exact⟨hp,hi,rfl⟩
  .rw[if_neg (λg=>hi g.2)];exact z1p λk hk=>if_neg λg=>hi g.2.1
 .rw[if_neg (λg=>hp g.1)];exact z1p λk hk=>if_neg λg=>hp g.1
theorem ygi(y:Nat->Int)(k:Nat):∀n,n<=(z8 s o c b).length->(sumN s.length λi=>XY s o (z8 s o c b) y n i k)=sumN n λj=>if z5q s o (gt (z8 s o c b) (j:Int))=true/\(gt (z8 s o c b) (j:Int)).to =(s.length:Int)+(k:Int) then y j else 0:=by
 intro n hn;unfold XY;rw[zgd];refine zy λj hj=>?_
 by_cases hp:z5q s o (gt (z8 s o c b) (j:Int))=true
 .obtain⟨i0,k0,hi0,hk0,hb,e⟩:=zmc (by omega) hp;by_cases hi :(gt (z8 s o c b) (j:Int)).to =(s.length:Int)+(k:Int)
  .rw[if_pos ⟨hp,hi⟩];refine zkl _ _ hi0 λi hi'=>?_
   rw[e];constructor
   .rintro⟨_,g,_⟩;have g :(i0:Int) =(i:Int):=g;omega
   .rintro rfl;rw[e] at hp hi;exact⟨hp,rfl,hi⟩
  .rw[if_neg (λg=>hi g.2)];exact z1p λk hk=>if_neg λg=>hi g.2.2
 .rw[if_neg (λg=>hp g.1)];exact z1p λk hk=>if_neg λg=>hp g.1
theorem yai{P Q:Prop}[Decidable P][Decidable Q]{x:Int}(hx:0<=x)(h:P->Q):(if P then x else 0)<=if Q then x else 0:=by
 by_cases hp:P
 .rw[if_pos hp,if_pos (h hp)];omega
 .rw[if_neg hp];split<;>omega
theorem ye6{y:Nat->Int}(hf :(nwOf (netN s o c b)).Feas (atN (supN s o)) y){i:Nat}(hi:i<s.length):(sumN (z8 s o c b).length λj=>if(gt (z8 s o c b) (j:Int)).from_ =(i:Int) then y j else 0) =(gt s (i:Int)).count:=by
 have h:=hf.exc i (show i<(supN s o).length by rw[zcj];omega);unfold Nw.exc at h;rw[y2j hi] at h;have h1 :(nwOf (netN s o c b)).inS y i=0:=z1p λj hj=>if_neg λg=>by
  have g :(gt (z8 s o c b) (j:Int)).to.toNat=i:=g;rcases z4v (s:=s) (o:=o) (c:=c) (b:=b) (j:=j) hj with⟨i1,k1,a1,a2,a3,e⟩|⟨k,hk,e⟩|⟨i1,hi1,e⟩|e
  .rw[e] at g;have g :((s.length:Int)+(k1:Int)).toNat=i:=g;omega
  .rw[e] at g;have g :((s.length:Int)+(k:Int)).toNat=i:=g;omega
  .rw[e] at g;have g :(nodU s o+1).toNat=i:=g;unfold nodU at g;omega
  .rw[e] at g;have g :(nodU s o+1).toNat=i:=g;unfold nodU at g;omega
 have h2 :(nwOf (netN s o c b)).outS y i=sumN (z8 s o c b).length λj=>if(gt (z8 s o c b) (j:Int)).from_ =(i:Int) then y j else 0:=by
  refine zy λj hj=>?_
  have hj:j<(z8 s o c b).length:=hj;show (if(gt (z8 s o c b) (j:Int)).from_.toNat=i then y j else 0)=_;have :(gt (z8 s o c b) (j:Int)).from_.toNat=i↔(gt (z8 s o c b) (j:Int)).from_ =(i:Int):=by
   have hnn:0<=(gt (z8 s o c b) (j:Int)).from_:=by
    rcases z4v hj with⟨i1,k1,a1,a2,a3,e⟩|⟨k,hk,e⟩|⟨i1,hi1,e⟩|e
    .rw[e];show 0<=(i1:Int);omega
    .rw[e];show 0<=nodU s o;unfold nodU;omega
    .rw[e];show 0<=(i1:Int);omega
    .rw[e];show 0<=nodU s o;unfold nodU;omega
   omega
  by_cases g :(gt (z8 s o c b) (j:Int)).from_ =(i:Int)
  .rw[if_pos g,if_pos (this.2 g)]
  .rw[if_neg g,if_neg (λq=>g (this.1 q))]
 rw[h1,h2] at h;omega
theorem y9v{y:Nat->Int}(hf :(nwOf (netN s o c b)).Feas (atN (supN s o)) y){k:Nat}(hk:k<o.length):(sumN (z8 s o c b).length λj=>if(gt (z8 s o c b) (j:Int)).to =(s.length:Int)+(k:Int) then y j else 0) =(gt o (k:Int)).count:=by
 have h:=hf.exc (s.length+k) (show s.length+k<(supN s o).length by rw[zcj];omega);unfold Nw.exc at h;rw[y2i hk] at h;have h1 :(nwOf (netN s o c b)).outS y (s.length+k)=0:=z1p λj hj=>if_neg λg=>by
  have g :(gt (z8 s o c b) (j:Int)).from_.toNat=s.length+k:=g;rcases z4v (s:=s) (o:=o) (c:=c) (b:=b) (j:=j) hj with⟨i1,k1,a1,a2,a3,e⟩|⟨k,hk,e⟩|⟨i1,hi1,e⟩|e
  .rw[e] at g;have g :((i1:Int)).toNat=s.length+k:=g;omega
  .rw[e] at g;have g :(nodU s o).toNat=s.length+_:=g;unfold nodU at g;omega
  .rw[e] at g;have g :((i1:Int)).toNat=s.length+k:=g;omega
  .rw[e] at g;have g :(nodU s o).toNat=s.length+_:=g;unfold nodU at g;omega
 have h2 :(nwOf (netN s o c b)).inS y (s.length+k)=sumN (z8 s o c b).length λj=>if(gt (z8 s o c b) (j:Int)).to =(s.length:Int)+(k:Int) then y j else 0:=by
  refine zy λj hj=>?_
  have hj:j<(z8 s o c b).length:=hj;show (if(gt (z8 s o c b) (j:Int)).to.toNat=s.length+k then y j else 0)=_;have :(gt (z8 s o c b) (j:Int)).to.toNat=s.length+k↔(gt (z8 s o c b) (j:Int)).to =(s.length:Int)+(k:Int):=by
   have hnn:0<=(gt (z8 s o c b) (j:Int)).to:=by
    rcases z4v hj with⟨i1,k1,a1,a2,a3,e⟩|⟨k,hk,e⟩|⟨i1,hi1,e⟩|e
    .rw[e];show 0<=(s.length:Int)+(k1:Int);omega
    .rw[e];show 0<=(s.length:Int)+(k:Int);omega
    .rw[e];show 0<=nodU s o+1;unfold nodU;omega
    .rw[e];show 0<=nodU s o+1;unfold nodU;omega
   omega
  by_cases g :(gt (z8 s o c b) (j:Int)).to =(s.length:Int)+(k:Int)
  .rw[if_pos g,if_pos (this.2 g)]
  .rw[if_neg g,if_neg (λq=>g (this.1 q))]
 rw[h1,h2] at h;omega
theorem y9p{y:Nat->Int}(hf :(nwOf (netN s o c b)).Feas (atN (supN s o)) y):Poss s o b (XY s o (z8 s o c b) y (z8 s o c b).length) where
 pos:=λi k hi hk=>zeb λj hj=>by have:=(hf.bnd j hj).1;split<;>omega
 no:=λi k hi hk hb=>z1p λj hj=>if_neg λg=>by
  obtain⟨i0,k0,hi0,hk0,hb0,e⟩:=zmc hj g.1;rw[e] at g;have g1 :(i0:Int) =(i:Int):=g.2.1;have g2 :(s.length:Int)+(k0:Int) =(s.length:Int)+(k:Int):=g.2.2;have:i0=i:=by omega
  have:k0=k:=by omega
  subst i0;subst k0;rw[hb] at hb0;cases hb0
 row:=λi hi=>by rw[ykf y i _ (w0v _),<- ye6 hf hi];exact ztd λj hj=>yai (hf.bnd j hj).1 λg=>g.2
 col:=λk hk=>by rw[ygi y k _ (w0v _),<- y9v hf hk];exact ztd λj hj=>yai (hf.bnd j hj).1 λg=>g.2
theorem y9o{y:Nat->Int}(hf :(nwOf (netN s o c b)).Feas (atN (supN s o)) y):yi6 s o c (XY s o (z8 s o c b) y (z8 s o c b).length) =(nwOf (netN s o c b)).costS y:=by
 unfold yi6;have e1 :(sumN s.length λi=>sumN o.length λk=>XY s o (z8 s o c b) y (z8 s o c b).length i k*c i k)=sumN (z8 s o c b).length λj=>if z5q s o (gt (z8 s o c b) (j:Int))=true then y j*(gt (z8 s o c b) (j:Int)).cost else 0:=by
  have h1:∀i k,XY s o (z8 s o c b) y (z8 s o c b).length i k*c i k=sumN (z8 s o c b).length λj=>if z5q s o (gt (z8 s o c b) (j:Int))=true/\(gt (z8 s o c b) (j:Int)).from_ =(i:Int)/\(gt (z8 s o c b) (j:Int)).to =(s.length:Int)+(k:Int) then y j*(gt (z8 s o c b) (j:Int)).cost else 0:=λi k=>by
   unfold XY;rw[w32,<- zz6];refine zy λj hj=>?_
   rw[y6f];by_cases g:z5q s o (gt (z8 s o c b) (j:Int))=true/\(gt (z8 s o c b) (j:Int)).from_ =(i:Int)/\(gt (z8 s o c b) (j:Int)).to =(s.length:Int)+(k:Int)
   .rw[if_pos g,if_pos g];obtain⟨i0,k0,hi0,hk0,hb0,e⟩:=zmc hj g.1;rw[e] at g;have g1 :(i0:Int) =(i:Int):=g.2.1;have g2 :(s.length:Int)+(k0:Int) =(s.length:Int)+(k:Int):=g.2.2;have:i0=i:=by omega
    have:k0=k:=by omega
    subst i0;subst k0;rw[e,w32];rfl
   .rw[if_neg g,if_neg g]
  rw[zy λi hi=>zy λk hk=>h1 i k];rw[zy λi hi=>zgd _ _ _,zgd];refine zy λj hj=>?_
  by_cases hp:z5q s o (gt (z8 s o c b) (j:Int))=true
  .obtain⟨i0,k0,hi0,hk0,hb0,e⟩:=zmc hj hp;rw[if_pos hp];have:∀i,i<s.length->(sumN o.length λk=>if z5q s o (gt (z8 s o c b) (j:Int))=true/\(gt (z8 s o c b) (j:Int)).from_ =(i:Int)/\(gt (z8 s o c b) (j:Int)).to =(s.length:Int)+(k:Int) then y j*(gt (z8 s o c b) (j:Int)).cost else 0)=if i=i0 then y j*(gt (z8 s o c b) (j:Int)).cost else 0:=λi hi=>by
    by_cases ei:i=i0
    .rw[if_pos ei];refine zkl _ _ hk0 λk hk=>?_
     rw[e];constructor
     .rintro⟨_,_,g⟩;have g :(s.length:Int)+(k0:Int) =(s.length:Int)+(k:Int):=g;omega
     .rintro rfl;rw[e] at hp;exact⟨hp,by rw[ei];rfl,rfl⟩
    .rw[if_neg ei];exact z1p λk hk=>if_neg λg=>by rw[e] at g;have g1 :(i0:Int) =(i:Int):=g.2.1;omega
   rw[zy this];exact zkl _ _ hi0 λi hi=>Iff.rfl
  .rw[if_neg hp];exact z1p λi hi=>z1p λk hk=>if_neg λg=>hp g.1
 have e2:∀k,k<o.length->zxk s o (XY s o (z8 s o c b) y (z8 s o c b).length) k=sumN (z8 s o c b).length λj=>if ¬z5q s o (gt (z8 s o c b) (j:Int))=true/\(gt (z8 s o c b) (j:Int)).to =(s.length:Int)+(k:Int) then y j else 0:=λk hk=>by
  unfold zxk;rw[ygi y k _ (w0v _),<- y9v hf hk,<- zz8];refine zy λj hj=>?_
  by_cases g :(gt (z8 s o c b) (j:Int)).to =(s.length:Int)+(k:Int)
  .by_cases hp:z5q s o (gt (z8 s o c b) (j:Int))=true
   .rw[if_pos g,if_pos ⟨hp,g⟩,if_neg (λq=>q.1 hp)];omega
   .rw[if_pos g,if_neg (λq=>hp q.1),if_pos ⟨hp,g⟩];omega
  .rw[if_neg g,if_neg (λq=>g q.2),if_neg (λq=>g q.2)];rfl
 have e3 :(sumN o.length λk=>zxk s o (XY s o (z8 s o c b) y (z8 s o c b).length) k*(gt o (k:Int)).weight)=sumN (z8 s o c b).length λj=>if ¬z5q s o (gt (z8 s o c b) (j:Int))=true then y j*(gt (z8 s o c b) (j:Int)).cost else 0:=by
  have h1:∀k,k<o.length->zxk s o (XY s o (z8 s o c b) y (z8 s o c b).length) k*(gt o (k:Int)).weight=sumN (z8 s o c b).length λj=>if ¬z5q s o (gt (z8 s o c b) (j:Int))=true/\(gt (z8 s o c b) (j:Int)).to =(s.length:Int)+(k:Int) then y j*(gt (z8 s o c b) (j:Int)).cost else 0:=λk hk=>by
   rw[e2 k hk,w32,<- zz6];refine zy λj hj=>?_
   rw[y6f];by_cases g:¬z5q s o (gt (z8 s o c b) (j:Int))=true/\(gt (z8 s o c b) (j:Int)).to =(s.length:Int)+(k:Int)
   .rw[if_pos g,if_pos g,w32];congr 1;rcases z4v hj with⟨i1,k1,a1,a2,a3,e⟩|⟨k1,hk1,e⟩|⟨i1,hi1,e⟩|e
    .exact absurd (by rw[e];exact zjy i1 k1 a1 a2) g.1
    .rw[e] at g⊢;have g2 :(s.length:Int)+(k1:Int) =(s.length:Int)+(k:Int):=g.2;have:k1=k:=by omega
     subst k1;rfl
    .rw[e] at g;have g2:nodU s o+1 =(s.length:Int)+(k:Int):=g.2;unfold nodU at g2;omega
    .rw[e] at g;have g2:nodU s o+1 =(s.length:Int)+(k:Int):=g.2;unfold nodU at g2;omega
   .rw[if_neg g,if_neg g]
  rw[zy h1,zgd];refine zy λj hj=>?_
  by_cases hp:z5q s o (gt (z8 s o c b) (j:Int))=true
  .rw[if_neg (λg=>g hp)];exact z1p λk hk=>if_neg λg=>g.1 hp
  .rw[if_pos hp];rcases z4v hj with⟨i1,k1,a1,a2,a3,e⟩|⟨k1,hk1,e⟩|⟨i1,hi1,e⟩|e
   .exact absurd (by rw[e];exact zjy i1 k1 a1 a2) hp
   .refine zkl _ _ hk1 λk hk=>?_
    rw[e];constructor
    .rintro⟨_,g⟩;have g :(s.length:Int)+(k1:Int) =(s.length:Int)+(k:Int):=g;omega
    .rintro rfl;rw[e] at hp;exact⟨hp,rfl⟩
   .rw[e];refine(z1p λk hk=>?_).trans (w4q (y j)).symm;split
    .exact w4q _
    .rfl
   .rw[e];refine(z1p λk hk=>?_).trans (w4q (y j)).symm;split
    .exact w4q _
    .rfl
 rw[e1,e3,<- zr2];refine zy λj hj=>?_
 show _=y j*(gt (z8 s o c b) (j:Int)).cost;by_cases hp:z5q s o (gt (z8 s o c b) (j:Int))=true
 .rw[if_pos hp,if_neg (λg=>g hp)];omega
 .rw[if_neg hp,if_pos hp];omega
end
end Px
end
section
namespace Px
open Go
def yke(s:List za)(o:List zf)(a a':Arc):Prop:=(z5q s o a=true->z5q s o a'=true->¬(a'.from_=a.from_/\a'.to=a.to))/\(z5q s o a=false->a.to<nodU s o->a'.to≠a.to)/\(z5q s o a=false->¬a.to<nodU s o->a'.from_≠a.from_)
section
variable{s:List za}{o:List zf}{c:Nat->Nat->Int}{b:Nat->Nat->Bool}
theorem yal :(z8 s o c b).Pairwise (yke s o):=by
 have hq:∀{a:Arc},a∈zss s o c b->∃i k,i<s.length/\k<o.length/\a=arcQ s o c i k:=λ{a}h=>by
  unfold zss arcR at h;obtain⟨i,hi,h⟩:=w15.1 h;obtain⟨k,hk,h⟩:=w15.1 h;unfold arcP at h;cases hb:b i k with
  |true=>rw[hb] at h;exact⟨i,k,w0m.1 hi,w0m.1 hk,w0i.1 h⟩
  |false=>rw[hb] at h;cases h
 unfold z8;rw[w4s];refine⟨?_,w3g _ _,?_⟩
 .rw[w4s];refine⟨?_,?_,?_⟩
  .rw[w4s];refine⟨?_,?_,?_⟩
   .unfold zss;rw[List.pairwise_flatMap];refine⟨λi hi=>?_,?_⟩
    .unfold arcR;rw[List.pairwise_flatMap];refine⟨λk hk=>?_,?_⟩
     .unfold arcP;cases b i k
      .exact List.Pairwise.nil
      .exact w3g _ _
     .refine List.Pairwise.imp_of_mem ?_ (w2z (n:=o.length));intro k1 k2 hk1 hk2 hlt x hx y hy;unfold arcP at hx hy;cases hb1:b i k1 with
      |false=>rw[hb1] at hx;cases hx
      |true=>
       cases hb2:b i k2 with
       |false=>rw[hb2] at hy;cases hy
       |true=>
        rw[hb1] at hx;rw[hb2] at hy;have hx:=w0i.1 hx;have hy:=w0i.1 hy;have hp:=zjy (c:=c) i k1 (w0m.1 hi) (w0m.1 hk1);subst hx;subst hy;refine⟨λ_ _ g=>?_,λg=>?_,λg=>?_⟩
        .have g2 :(s.length:Int)+(k2:Int) =(s.length:Int)+(k1:Int):=g.2;omega
        .unfold arcQ at hp;rw[hp] at g;cases g
        .unfold arcQ at hp;rw[hp] at g;cases g
    .refine List.Pairwise.imp_of_mem ?_ (w2z (n:=s.length));intro i1 i2 hi1 hi2 hlt x hx y hy;unfold arcR at hx hy;obtain⟨k1,hk1,hx⟩:=w15.1 hx;obtain⟨k2,hk2,hy⟩:=w15.1 hy;unfold arcP at hx hy;cases hb1:b i1 k1 with
     |false=>rw[hb1] at hx;cases hx
     |true=>
      cases hb2:b i2 k2 with
      |false=>rw[hb2] at hy;cases hy
      |true=>
       rw[hb1] at hx;rw[hb2] at hy;have hx:=w0i.1 hx;have hy:=w0i.1 hy;have hp:=zjy (c:=c) i1 k1 (w0m.1 hi1) (w0m.1 hk1);subst hx;subst hy;refine⟨λ_ _ g=>?_,λg=>?_,λg=>?_⟩
       .have g2 :(i2:Int) =(i1:Int):=g.1;omega
       .unfold arcQ at hp;rw[hp] at g;cases g
       .unfold arcQ at hp;rw[hp] at g;cases g
   .rw[w3l];refine List.Pairwise.imp_of_mem ?_ (w2z (n:=o.length));intro k1 k2 hk1 hk2 hlt;refine⟨λg=>(by rw[zjx] at g;cases g),λ_ _ g=>?_,λ_ g=>?_⟩
    .have g2 :(s.length:Int)+(k2:Int) =(s.length:Int)+(k1:Int):=g;omega
    .have:=w0m.1 hk1
     exact absurd (show (s.length:Int)+(k1:Int)<nodU s o by unfold nodU;omega) g
   .intro x hx y hy;obtain⟨i,k,hi,hk,e⟩:=hq hx;have hp:=zjy (c:=c) i k hi hk;obtain⟨k2,hk2,e2⟩:=w0f.1 hy;subst e;subst e2;exact⟨λ_ g=>(by rw[zjx] at g;cases g),λg=>(by rw[hp] at g;cases g),λg=>(by rw[hp] at g;cases g)⟩
  .rw[w3l];refine List.Pairwise.imp_of_mem ?_ (w2z (n:=s.length));intro k1 k2 hk1 hk2 hlt;refine⟨λg=>(by rw[zn7] at g;cases g),λ_ g=>?_,λ_ _ g=>?_⟩
   .have g:nodU s o+1<nodU s o:=g;omega
   .have g2 :(k2:Int) =(k1:Int):=g;omega
  .intro x hx y hy;obtain⟨i,hi,e⟩:=w0f.1 hy;subst e;rcases w0q.1 hx with hx|hx
   .obtain⟨i,k,hi,hk,e⟩:=hq hx;have hp:=zjy (c:=c) i k hi hk;subst e;exact⟨λ_ g=>(by rw[zn7] at g;cases g),λg=>(by rw[hp] at g;cases g),λg=>(by rw[hp] at g;cases g)⟩
   .obtain⟨k,hk,e⟩:=w0f.1 hx;have hk:=w0m.1 hk;subst e;refine⟨λg=>(by rw[zjx] at g;cases g),λ_ _ g=>?_,λ_ g=>?_⟩
    .have g2:nodU s o+1 =(s.length:Int)+(k:Int):=g;unfold nodU at g2;omega
    .exact absurd (show (s.length:Int)+(k:Int)<nodU s o by unfold nodU;omega) g
 .intro x hx y hy;have hy:=w0i.1 hy;subst hy;rcases w0q.1 hx with hx|hx
  .rcases w0q.1 hx with hx|hx
   .obtain⟨i,k,hi,hk,e⟩:=hq hx;have hp:=zjy (c:=c) i k hi hk;subst e;exact⟨λ_ g=>(by rw[zsr] at g;cases g),λg=>(by rw[hp] at g;cases g),λg=>(by rw[hp] at g;cases g)⟩
   .obtain⟨k,hk,e⟩:=w0f.1 hx;have hk:=w0m.1 hk;subst e;refine⟨λg=>(by rw[zjx] at g;cases g),λ_ _ g=>?_,λ_ g=>?_⟩
    .have g2:nodU s o+1 =(s.length:Int)+(k:Int):=g;unfold nodU at g2;omega
    .exact absurd (show (s.length:Int)+(k:Int)<nodU s o by unfold nodU;omega) g
  .obtain⟨i,hi,e⟩:=w0f.1 hx;have hi:=w0m.1 hi;subst e;refine⟨λg=>(by rw[zn7] at g;cases g),λ_ g=>?_,λ_ _ g=>?_⟩
   .have g:nodU s o+1<nodU s o:=g;omega
   .have g2:nodU s o =(i:Int):=g;unfold nodU at g2;omega
theorem zqv{i j:Nat}(hij:i<j)(hj:j<(z8 s o c b).length):yke s o (gt (z8 s o c b) (i:Int)) (gt (z8 s o c b) (j:Int)):=by rw[z4b (by omega),z4b hj];exact List.pairwise_iff_getElem.1 yal i j (by omega) hj hij
end
def zb0(s:List za)(o:List zf)(a:Arc)(rest:List Int)(l:List z7):Option (Int×List z7):=
 if z5q s o a=true then(match l with
  |t::l'=>if t.supply=a.from_/\t.order=a.to-(s.length:Int) then(if t.count<1\/gt rest a.from_<t.count\/- gt rest a.to<t.count then none else some (t.count,l')) else some (0,l)
  | []=>some (0,[]))
 else if a.from_=nodU s o/\a.to<nodU s o then some (- gt rest a.to,l) else some (gt rest a.from_,l)
def zqd(rest:List Int)(a:Arc)(z:Int):List Int:=zl (zl rest a.from_ (gt rest a.from_-z)) a.to (gt (zl rest a.from_ (gt rest a.from_-z)) a.to+z)
structure FI(s:List za)(o:List zf)(c:Nat->Nat->Int)(b:Nat->Nat->Bool)(l0:List z7)(i:Nat)(x:List Int)(l:List z7)(rest:List Int):Prop where
 len:rest.length=s.length+o.length+2
 xl:x.length=i
 val:∀v:Nat,v<s.length+o.length+2->atN rest v=atN (supN s o) v-outP (netN s o c b) (atN x) i v+inP (netN s o c b) (atN x) i v
 b1:∀v:Nat,v<s.length->0<=atN rest v/\atN rest v<=4096
 b2:∀k:Nat,k<o.length->-1000<=atN rest (s.length+k)/\atN rest (s.length+k)<=0
 b3 : -(30000+5000*(i:Int))<=atN rest (s.length+o.length)/\atN rest (s.length+o.length)<=30000+5000*(i:Int)
 b4 : -(30000+300000*(i:Int))<=atN rest (s.length+o.length+1)/\atN rest (s.length+o.length+1)<=30000+300000*(i:Int)
 tr:l0=trsI s o (z8 s o c b) (atN x) i++l
theorem zvt{x:List Int}{z:Int}{j:Nat}(h:j<x.length):atN (x++[z]) j=atN x j:=z9u _ _ _ (by omega) (by omega)
theorem zvs(x:List Int)(z:Int):atN (x++[z]) x.length=z:=by unfold atN;rw[z83 _ _ _ (by omega),Int.sub_self];rfl
theorem zn3{rest:List Int}{a:Arc}{z:Int}(h1:0<=a.from_)(h2:a.from_<(rest.length:Int))(h3:0<=a.to)(h4:a.to<(rest.length:Int))(h5:a.from_≠a.to)(v:Nat):
  atN (zqd rest a z) v=atN rest v-(if a.from_.toNat=v then z else 0)+if a.to.toNat=v then z else 0:=by
 unfold zqd atN;have f2:=zx rest a.from_ a.to (gt rest a.from_-z) h1 h2 h3;rw[zx _ _ (v:Int) _ h3 (by rw[z02];exact h4) (by omega),f2,zx _ _ (v:Int) _ h1 h2 (by omega)];by_cases e1 :(v:Int)=a.to
 .rw[if_pos e1,if_neg (λe=>h5 e.symm),if_neg (by omega),if_pos (by omega),<- e1];omega
 .rw[if_neg e1];by_cases e2 :(v:Int)=a.from_
  .rw[if_pos e2,if_pos (by omega),if_neg (by omega),<- e2];omega
  .rw[if_neg e2,if_neg (by omega),if_neg (by omega)];omega
section
variable{φ:Nat}{p:Pool}{s:List za}{o:List zf}{c:Nat->Nat->Int}{b:Nat->Nat->Bool}
theorem FI.move(hs:s.length<=6)(ho:o.length<=6){l0:List z7}{i:Nat}{x:List Int}{l:List z7}{rest:List Int}(h:FI s o c b l0 i x l rest)(hi:i<(z8 s o c b).length){z:Int}{l':List z7}(hz:zb0 s o (gt (z8 s o c b) (i:Int)) rest l=some (z,l')):
  FI s o c b l0 (i+1) (x++[z]) l' (zqd rest (gt (z8 s o c b) (i:Int)) z)/\-1000000<=z/\z<=1000000:=by
 have hal:=zau s o c b hs ho;have hx:∀j,j<i->atN (x++[z]) j=atN x j:=λj hj=>zvt (by rw[h.xl];exact hj)
 have hxi:atN (x++[z]) i=z:=by rw[<- h.xl];exact zvs x z
 have hcg:∀v,outP (netN s o c b) (atN (x++[z])) (i+1) v=outP (netN s o c b) (atN x) i v+if(gt (z8 s o c b) (i:Int)).from_.toNat=v then z else 0:=λv=>by unfold outP;show _+(if _ then atN (x++[z]) i else 0)=_;rw[hxi];congr 1;exact zy λj hj=>by rw[hx j hj]
 have hcg2:∀v,inP (netN s o c b) (atN (x++[z])) (i+1) v=inP (netN s o c b) (atN x) i v+if(gt (z8 s o c b) (i:Int)).to.toNat=v then z else 0:=λv=>by unfold inP;show _+(if _ then atN (x++[z]) i else 0)=_;rw[hxi];congr 1;exact zy λj hj=>by rw[hx j hj]
 have htr:trsI s o (z8 s o c b) (atN (x++[z])) (i+1)=trsI s o (z8 s o c b) (atN x) i++(bif z5q s o (gt (z8 s o c b) (i:Int))&&decide (0<z) then [⟨(gt (z8 s o c b) (i:Int)).from_,(gt (z8 s o c b) (i:Int)).to-(s.length:Int),z⟩] else []):=by rw[ztf,zl9 hx];unfold trT;rw[hxi]
 have mv:=λh1 h2 h3 h4 h5=>zn3 (rest:=rest) (a:=gt (z8 s o c b) (i:Int)) (z:=z) h1 h2 h3 h4 h5
 have hlen :(zqd rest (gt (z8 s o c b) (i:Int)) z).length=s.length+o.length+2:=by unfold zqd;rw[z02,z02,h.len]
 have hxl :(x++[z]).length=i+1:=by simp[h.xl]
 have hval :(∀v,atN (zqd rest (gt (z8 s o c b) (i:Int)) z) v=atN rest v-(if(gt (z8 s o c b) (i:Int)).from_.toNat=v then z else 0)+if(gt (z8 s o c b) (i:Int)).to.toNat=v then z else 0)->
   ∀v:Nat,v<s.length+o.length+2->atN (zqd rest (gt (z8 s o c b) (i:Int)) z) v=atN (supN s o) v-outP (netN s o c b) (atN (x++[z])) (i+1) v+inP (netN s o c b) (atN (x++[z])) (i+1) v:=λhm v hv=>by
  rw[hm v,hcg v,hcg2 v,h.val v hv];omega
 rcases z4v hi with⟨i0,k0,hi0,hk0,hb0,e⟩|⟨k0,hk0,e⟩|⟨i0,hi0,e⟩|e
 .have hp:=zjy (c:=c) i0 k0 hi0 hk0;have hr1:=h.b1 i0 hi0;have hr2:=h.b2 k0 hk0;have hm:=mv (by rw[e];show 0<=(i0:Int);omega) (by rw[e,h.len];show (i0:Int)<_;omega) (by rw[e];show 0<=(s.length:Int)+(k0:Int);omega) (by rw[e,h.len];show (s.length:Int)+(k0:Int)<_;omega) (by rw[e];show (i0:Int)≠(s.length:Int)+(k0:Int);omega);have hf :(gt (z8 s o c b) (i:Int)).from_.toNat=i0:=by rw[e];show ((i0:Int)).toNat=i0;omega
  have ht :(gt (z8 s o c b) (i:Int)).to.toNat=s.length+k0:=by rw[e];show ((s.length:Int)+(k0:Int)).toNat=_;omega
  have hzz :(0<=z/\z<=atN rest i0/\z<=- atN rest (s.length+k0))/\l =(bif decide (0<z) then [⟨(i0:Int),(s.length:Int)+(k0:Int)-(s.length:Int),z⟩] else [])++l':=by
   rw[e] at hz;unfold zb0 at hz;rw[if_pos hp] at hz;have a1 :(arcQ s o c i0 k0).from_ =(i0:Int):=rfl;have a2 :(arcQ s o c i0 k0).to =(s.length:Int)+(k0:Int):=rfl;have a3:gt rest ((s.length:Int)+(k0:Int))=atN rest (s.length+k0):=by unfold atN;congr 1
   have a4:gt rest (i0:Int)=atN rest i0:=rfl;cases l with
   |nil=>simp only[w00,w0a] at hz;obtain⟨rfl,rfl⟩:=hz;exact⟨by omega,rfl⟩
   |cons t l2=>
    simp only at hz;rw[a1,a2,a3,a4] at hz;by_cases g:t.supply =(i0:Int)/\t.order =(s.length:Int)+(k0:Int)-(s.length:Int)
    .rw[if_pos g] at hz;by_cases g2:t.count<1\/atN rest i0<t.count\/- atN rest (s.length+k0)<t.count
     .rw[if_pos g2] at hz;cases hz
     .rw[if_neg g2] at hz;simp only[w00,w0a] at hz;obtain⟨rfl,rfl⟩:=hz;refine⟨by omega,?_⟩;have:decide (0<t.count)=true:=by simp;omega
      rw[this,cond_true,<- g.1,<- g.2];rfl
    .rw[if_neg g] at hz;simp only[w00,w0a] at hz;obtain⟨rfl,rfl⟩:=hz;exact⟨by omega,rfl⟩
  obtain⟨⟨z1,z2,z3⟩,hl⟩:=hzz;refine⟨⟨hlen,hxl,hval hm,λv hv=>?_,λk hk=>?_,?_,?_,?_⟩,by omega,by omega⟩
  .rw[hm v,hf,ht];have:=h.b1 v hv;by_cases g:i0=v
   .subst g;rw[if_pos rfl,if_neg (by omega)];omega
   .rw[if_neg g,if_neg (by omega)];omega
  .rw[hm,hf,ht];have:=h.b2 k hk;by_cases g:k0=k
   .subst g;rw[if_pos rfl,if_neg (by omega)];omega
   .rw[if_neg (by omega),if_neg (by omega)];omega
  .rw[hm,hf,ht,if_neg (by omega),if_neg (by omega)];have:=h.b3;push_cast;omega
  .rw[hm,hf,ht,if_neg (by omega),if_neg (by omega)];have:=h.b4;push_cast;omega
  .rw[h.tr,htr,hl,e,hp,w1r,w0l];rfl
 .have hp:=zjx (s:=s) (o:=o) k0;have hr2:=h.b2 k0 hk0;have hm:=mv (by rw[e];show 0<=nodU s o;unfold nodU;omega) (by rw[e,h.len];show nodU s o<_;unfold nodU;omega) (by rw[e];show 0<=(s.length:Int)+(k0:Int);omega) (by rw[e,h.len];show (s.length:Int)+(k0:Int)<_;omega) (by rw[e];show nodU s o≠(s.length:Int)+(k0:Int);unfold nodU;omega);have hf :(gt (z8 s o c b) (i:Int)).from_.toNat=s.length+o.length:=by rw[e];exact zkw
  have ht :(gt (z8 s o c b) (i:Int)).to.toNat=s.length+k0:=by rw[e];show ((s.length:Int)+(k0:Int)).toNat=_;omega
  have hzz:z=- atN rest (s.length+k0)/\l=l':=by rw[e] at hz;unfold zb0 at hz;rw[hp,if_neg (by simp),if_pos ⟨rfl,show (s.length:Int)+(k0:Int)<nodU s o by unfold nodU;omega⟩] at hz;simp only[w00,w0a] at hz;refine⟨?_,hz.2⟩;rw[<- hz.1];show-gt rest ((s.length:Int)+(k0:Int))=_;unfold atN;congr 2
  obtain⟨z1,rfl⟩:=hzz;refine⟨⟨hlen,hxl,hval hm,λv hv=>?_,λk hk=>?_,?_,?_,?_⟩,by omega,by omega⟩
  .rw[hm v,hf,ht,if_neg (by omega),if_neg (by omega)];have:=h.b1 v hv;omega
  .rw[hm,hf,ht];have:=h.b2 k hk;by_cases g:k0=k
   .subst g;rw[if_pos rfl,if_neg (by omega)];omega
   .rw[if_neg (by omega),if_neg (by omega)];omega
  .rw[hm,hf,ht,if_pos rfl,if_neg (by omega)];have:=h.b3;push_cast;omega
  .rw[hm,hf,ht,if_neg (by omega),if_neg (by omega)];have:=h.b4;push_cast;omega
  .rw[h.tr,htr,e,hp,w3p];simp
 .have hp:=zn7 (s:=s) (o:=o) i0;have hr1:=h.b1 i0 hi0;have hm:=mv (by rw[e];show 0<=(i0:Int);omega) (by rw[e,h.len];show (i0:Int)<_;omega) (by rw[e];show 0<=nodU s o+1;unfold nodU;omega) (by rw[e,h.len];show nodU s o+1<_;unfold nodU;omega) (by rw[e];show (i0:Int)≠nodU s o+1;unfold nodU;omega);have hf :(gt (z8 s o c b) (i:Int)).from_.toNat=i0:=by rw[e];show ((i0:Int)).toNat=i0;omega
  have ht :(gt (z8 s o c b) (i:Int)).to.toNat=s.length+o.length+1:=by rw[e];show (nodU s o+1).toNat=_;unfold nodU;omega
  have hzz:z=atN rest i0/\l=l':=by rw[e] at hz;unfold zb0 at hz;rw[hp,if_neg (by simp),if_neg (λg=>by have g:nodU s o+1<nodU s o:=g.2;omega)] at hz;simp only[w00,w0a] at hz;exact⟨hz.1.symm,hz.2⟩
  obtain⟨z1,rfl⟩:=hzz;refine⟨⟨hlen,hxl,hval hm,λv hv=>?_,λk hk=>?_,?_,?_,?_⟩,by omega,by omega⟩
  .rw[hm v,hf,ht];have:=h.b1 v hv;by_cases g:i0=v
   .subst g;rw[if_pos rfl,if_neg (by omega)];omega
   .rw[if_neg g,if_neg (by omega)];omega
  .rw[hm,hf,ht,if_neg (by omega),if_neg (by omega)];have:=h.b2 k hk;omega
  .rw[hm,hf,ht,if_neg (by omega),if_neg (by omega)];have:=h.b3;push_cast;omega
  .rw[hm,hf,ht,if_neg (by omega),if_pos rfl];have:=h.b4;push_cast;omega
  .rw[h.tr,htr,e,hp,w3p];simp
 .have hp:=zsr (s:=s) (o:=o);have hm:=mv (by rw[e];show 0<=nodU s o;unfold nodU;omega) (by rw[e,h.len];show nodU s o<_;unfold nodU;omega) (by rw[e];show 0<=nodU s o+1;unfold nodU;omega) (by rw[e,h.len];show nodU s o+1<_;unfold nodU;omega) (by rw[e];show nodU s o≠nodU s o+1;omega);have hf :(gt (z8 s o c b) (i:Int)).from_.toNat=s.length+o.length:=by rw[e];exact zkw
  have ht :(gt (z8 s o c b) (i:Int)).to.toNat=s.length+o.length+1:=by rw[e];show (nodU s o+1).toNat=_;unfold nodU;omega
  have hzz:z=atN rest (s.length+o.length)/\l=l':=by rw[e] at hz;unfold zb0 at hz;rw[hp,if_neg (by simp),if_neg (λg=>by have g:nodU s o+1<nodU s o:=g.2;omega)] at hz;simp only[w00,w0a] at hz;refine⟨?_,hz.2⟩;rw[<- hz.1];unfold atN nodU;congr 1
  obtain⟨z1,rfl⟩:=hzz;have hb3:=h.b3;refine⟨⟨hlen,hxl,hval hm,λv hv=>?_,λk hk=>?_,?_,?_,?_⟩,by omega,by omega⟩
  .rw[hm v,hf,ht,if_neg (by omega),if_neg (by omega)];have:=h.b1 v hv;omega
  .rw[hm,hf,ht,if_neg (by omega),if_neg (by omega)];have:=h.b2 k hk;omega
  .rw[hm,hf,ht,if_pos rfl,if_neg (by omega)];push_cast;omega
  .rw[hm,hf,ht,if_neg (by omega),if_pos rfl];have:=h.b4;push_cast;omega
  .rw[h.tr,htr,e,hp,w3p];simp
end
end Px
end
section
namespace Px
open Go
section
variable{φ:Nat}{p:Pool}{s:List za}{o:List zf}{c:Nat->Nat->Int}{b:Nat->Nat->Bool}
theorem FI.bd{l0:List z7}{i:Nat}{x:List Int}{l:List z7}{rest:List Int}(h:FI s o c b l0 i x l rest)(hi:i<=49)(v:Int)(h0:0<=v)(hv:v<(s.length:Int)+(o.length:Int)+2): -20000000<=gt rest v/\gt rest v<=20000000:=by
 obtain⟨n,rfl⟩:=w3i h0;show-20000000<=atN rest n/\atN rest n<=20000000;by_cases g1:n<s.length
 .have:=h.b1 n g1;omega
 .by_cases g2:n<s.length+o.length
  .obtain⟨k,rfl⟩:∃k,n=s.length+k:=⟨n-s.length,by omega⟩;have:=h.b2 k (by omega);omega
  .by_cases g3:n=s.length+o.length
   .subst g3;have:=h.b3;omega
   .have:n=s.length+o.length+1:=by omega
    subst this;have:=h.b4;omega
theorem zvr{j:Nat}(hj:j<(z8 s o c b).length):(0<=(gt (z8 s o c b) (j:Int)).from_/\(gt (z8 s o c b) (j:Int)).from_<(s.length:Int)+(o.length:Int)+2)/\(0<=(gt (z8 s o c b) (j:Int)).to/\(gt (z8 s o c b) (j:Int)).to<(s.length:Int)+(o.length:Int)+2)/\(gt (z8 s o c b) (j:Int)).from_≠(gt (z8 s o c b) (j:Int)).to:=by
 rcases z4v hj with⟨i0,k0,hi0,hk0,hb0,e⟩|⟨k0,hk0,e⟩|⟨i0,hi0,e⟩|e
 .rw[e];show (0<=(i0:Int)/\(i0:Int)<_)/\(0<=(s.length:Int)+(k0:Int)/\(s.length:Int)+(k0:Int)<_)/\(i0:Int)≠(s.length:Int)+(k0:Int);omega
 .rw[e];show (0<=nodU s o/\nodU s o<_)/\(0<=(s.length:Int)+(k0:Int)/\(s.length:Int)+(k0:Int)<_)/\nodU s o≠(s.length:Int)+(k0:Int);unfold nodU;omega
 .rw[e];show (0<=(i0:Int)/\(i0:Int)<_)/\(0<=nodU s o+1/\nodU s o+1<_)/\(i0:Int)≠nodU s o+1;unfold nodU;omega
 .rw[e];show (0<=nodU s o/\nodU s o<_)/\(0<=nodU s o+1/\nodU s o+1<_)/\nodU s o≠nodU s o+1;unfold nodU;omega
theorem zrm(hs:s.length<=6)(ho:o.length<=6){l0:List z7}{i:Nat}{x:List Int}{l:List z7}{rest:List Int}(h:FI s o c b l0 i x l rest)(hi:i<(z8 s o c b).length)(n:Nat):
  zp φ (n+1) s l (nodU s o) (z8 s o c b) ((z8 s o c b).length:Int) (i:Int) x rest=match zb0 s o (gt (z8 s o c b) (i:Int)) rest l with
   |none=>some ([],false,())
   |some (z,l')=>zp φ n s l' (nodU s o) (z8 s o c b) ((z8 s o c b).length:Int) ((i+1:Nat):Int) (x++[z]) (zqd rest (gt (z8 s o c b) (i:Int)) z):=by
 have hal:=zau s o c b hs ho;obtain⟨⟨f1,f2⟩,⟨t1,t2⟩,ft⟩:=zvr hi;have hrl:=h.len;have hxl:=h.xl;have hbf:=h.bd (by omega) _ f1 f2;have hbt:=h.bd (by omega) _ t1 t2;have mv:=λz l'(hz:zb0 s o (gt (z8 s o c b) (i:Int)) rest l=some (z,l'))=>h.move hs ho hi hz
 rw[zp,if_pos (by simp;omega),z6 ⟨by omega,by omega⟩];generalize hA:gt (z8 s o c b) (i:Int)=a at *;have hj:∀z l',zb0 s o a rest l=some (z,l')->z2x φ (zp φ n) s l' (nodU s o) z (z8 s o c b) ((z8 s o c b).length:Int) (i:Int) x rest a=zp φ n s l' (nodU s o) (z8 s o c b) ((z8 s o c b).length:Int) ((i+1:Nat):Int) (x++[z]) (zqd rest a z):=λz l' hz=>by
  obtain⟨_,z1,z2⟩:=mv z l' hz;have e2:gt (zl rest a.from_ (gt rest a.from_-z)) a.to=gt rest a.to:=by rw[zx _ _ _ _ f1 (by omega) t1,if_neg (λe=>ft e.symm)]
  unfold z2x zqd;rw[W_id (x:=gt rest a.from_-z) (by omega) (by omega),e2,W_id (x:=gt rest a.to+z) (by omega) (by omega),W_id (x:=(i:Int)+1) (by omega) (by omega),z6 ⟨f1,by omega⟩,z6 ⟨f1,by omega⟩,z6 ⟨t1,by rw[z02];omega⟩,z6 ⟨t1,by rw[z02];omega⟩,z6 (by simp[fits];omega),show (i:Int)+1 =((i+1:Nat):Int) by omega]
 have hp :(decide (a.from_<(s.length:Int))&&decide (a.to<nodU s o))=z5q s o a:=rfl;have hW0:W (0-gt rest a.to)=- gt rest a.to:=by rw[w4r];exact W_id (by omega) (by omega)
 have hW1:W (a.to-(s.length:Int))=a.to-(s.length:Int):=W_id (by omega) (by omega);rw[hp,hW0,hW1];unfold zb0 at hj⊢;by_cases hpa:z5q s o a=true
 .rw[if_pos hpa];simp only[if_pos hpa] at hj⊢;cases l with
  |nil=>rw[z6 (by simp),z6 (by simp),if_neg (by simp)];exact hj 0 [] rfl
  |cons t l2=>
   have g0:gt (t::l2) 0=t:=rfl;have hl0 :(0:Int)<((t::l2).length:Int):=by rw[w12];omega
   have hd:decide ((0:Int)<((t::l2).length:Int))=true:=decide_eq_true hl0;rw[z6 (λ_=>⟨by omega,hl0⟩),z6 (λ_=>⟨by omega,hl0⟩),g0,hd,w1r];simp only at hj⊢;have hpart:z5r (t::l2) (1:Int).toNat (((t::l2).length:Int)).toNat=l2:=by simp[z5r]
   by_cases g:t.supply=a.from_/\t.order=a.to-(s.length:Int)
   .have e1 :((t.supply==a.from_)&&(t.order==a.to-(s.length:Int)))=true:=by simp[g.1,g.2]
    rw[if_pos e1,z6 ⟨by omega,hl0⟩,z6 (λ_=>⟨f1,by omega⟩),z6 (λ_=>⟨t1,by omega⟩),if_pos g];simp only[if_pos g] at hj;by_cases g2:t.count<1\/gt rest a.from_<t.count\/- gt rest a.to<t.count
    .rw[if_pos (by simp only[w0w,decide_eq_true_eq];omega),if_pos g2]
    .rw[if_neg (by simp only[w0w,decide_eq_true_eq];omega),if_neg g2,z6 ⟨by omega,by simp;omega,by omega⟩,hpart];exact hj _ _ (if_neg g2)
   .have e1:¬((t.supply==a.from_)&&(t.order==a.to-(s.length:Int)))=true:=by simp only[w03,beq_iff_eq];exact g
    rw[if_neg e1,if_neg g];exact hj _ _ (if_neg g)
 .rw[if_neg hpa];simp only[if_neg hpa] at hj⊢;by_cases g:a.from_=nodU s o/\a.to<nodU s o
  .have e1 :((a.from_==nodU s o)&&decide (a.to<nodU s o))=true:=by simp[g.1,g.2]
   rw[if_pos e1,z6 ⟨t1,by omega⟩,if_pos g];exact hj _ _ (if_pos g)
  .have e1:¬((a.from_==nodU s o)&&decide (a.to<nodU s o))=true:=by simp only[w03,beq_iff_eq,decide_eq_true_eq];exact g
   rw[if_neg e1,z6 ⟨f1,by omega⟩,if_neg g];exact hj _ _ (if_neg g)
theorem zrl{l0:List z7}{x:List Int}{l:List z7}{rest:List Int}(n:Nat):
  zp φ (n+1) s l (nodU s o) (z8 s o c b) ((z8 s o c b).length:Int) ((z8 s o c b).length:Int) x rest=some (x,((l.length:Int)==0),()):=by
 rw[zp,if_neg (by simp)]
theorem y7h(hs:s.length<=6)(ho:o.length<=6){l0:List z7}: ∀(d n i:Nat)(x:List Int)(l:List z7)(rest:List Int),(z8 s o c b).length-i=d->i<=(z8 s o c b).length->d<n->FI s o c b l0 i x l rest->
  ∃x' k,zp φ n s l (nodU s o) (z8 s o c b) ((z8 s o c b).length:Int) (i:Int) x rest=some (x',k,())/\(k=true->x'.length =(z8 s o c b).length/\l0=trsI s o (z8 s o c b) (atN x') (z8 s o c b).length):=by
 intro d
 induction d with
 |zero=>
  intro n i x l rest hd hi hn h;obtain⟨n,rfl⟩:∃n',n=n'+1:=⟨n-1,by omega⟩;have:i =(z8 s o c b).length:=by omega
  subst this;refine⟨x,_,zrl (l0:=l0) n,λhk=>⟨h.xl,?_⟩⟩;have:l = []:=w0z (by have:=beq_iff_eq.1 hk;omega);rw[h.tr,this,w0e]
 |succ d ih=>
  intro n i x l rest hd hi hn h;obtain⟨n,rfl⟩:∃n',n=n'+1:=⟨n-1,by omega⟩;rw[zrm hs ho h (by omega) n];cases hz:zb0 s o (gt (z8 s o c b) (i:Int)) rest l with
  |none=>exact⟨[],false,rfl,λhk=>by cases hk⟩
  |some w=>obtain⟨z,l'⟩:=w;exact ih n (i+1) _ _ _ (by omega) (by omega) (by omega) (h.move hs ho (by omega) hz).1
theorem zp6{f:Nat->Int}{i:Nat}: ∀{m:Nat},i<=m->(∀j,i<=j->j<m->f j=0)->sumN m f=sumN i f
 |0,hi,_=>by rw[show i=0 by omega]
 |m+1,hi,h=>by
  by_cases e:i=m+1
  .rw[e]
  .rw[show sumN (m+1) f=sumN m f+f m from rfl,zp6 (m:=m) (i:=i) (by omega) λj h1 h2=>h j h1 (by omega),h m (by omega) (by omega)];omega
def trsJ(s:List za)(o:List zf)(arcs:List Arc)(y:Nat->Int)(i n:Nat):List z7:=(List.range' i n).flatMap (trT s o arcs y)
theorem ycn(arcs:List Arc)(y:Nat->Int)(i n:Nat):trsJ s o arcs y i (n+1)=trT s o arcs y i++trsJ s o arcs y (i+1) n:=by unfold trsJ;rw[w4g,w0o]
theorem y8m(arcs:List Arc)(y:Nat->Int)(i n:Nat):trsI s o arcs y (i+n)=trsI s o arcs y i++trsJ s o arcs y i n:=by unfold trsI trsJ;rw[w38,w38,<- w1e];congr 1;have:=List.range'_append_1 (s:=0) (m:=i) (n:=n);rw[w16] at this;exact this.symm
theorem y9s(hs:s.length<=6)(ho:o.length<=6){y:Nat->Int}(hf :(nwOf (netN s o c b)).Feas (atN (supN s o)) y){i:Nat}{x:List Int}{l:List z7}{rest:List Int}(h:FI s o c b (trsI s o (z8 s o c b) y (z8 s o c b).length) i x l rest)(hi:i<(z8 s o c b).length)(hx:∀j,j<i->atN x j=y j):
  ∃l',zb0 s o (gt (z8 s o c b) (i:Int)) rest l=some (y i,l'):=by
 have hl:l=trT s o (z8 s o c b) y i++trsJ s o (z8 s o c b) y (i+1) ((z8 s o c b).length-i-1):=by have h1:=h.tr;rw[zl9 hx] at h1;have h2:=y8m (s:=s) (o:=o) (z8 s o c b) y i ((z8 s o c b).length-i);rw[show i+((z8 s o c b).length-i) =(z8 s o c b).length by omega] at h2;rw[h2] at h1;have h3:=List.append_cancel_left h1;rw[<- h3,show (z8 s o c b).length-i =((z8 s o c b).length-i-1)+1 by omega,ycn];rfl
 have hy0:=(hf.bnd i hi).1
 -- what is left is what flows later
 have hout:∀v:Nat,v<s.length+o.length+2->atN rest v =((nwOf (netN s o c b)).outS y v-sumN i λj=>if(nwOf (netN s o c b)).fr j=v then y j else 0)-((nwOf (netN s o c b)).inS y v-sumN i λj=>if(nwOf (netN s o c b)).to j=v then y j else 0):=λv hv=>by
  have h1:=hf.exc v (show v<(supN s o).length by rw[zcj];exact hv);have h2:=h.val v hv;unfold Nw.exc at h1;unfold outP inP at h2;have e1 :(sumN i λj=>if(nwOf (netN s o c b)).fr j=v then atN x j else 0)=sumN i λj=>if(nwOf (netN s o c b)).fr j=v then y j else 0:=zy λj hj=>by rw[hx j hj]
  have e2 :(sumN i λj=>if(nwOf (netN s o c b)).to j=v then atN x j else 0)=sumN i λj=>if(nwOf (netN s o c b)).to j=v then y j else 0:=zy λj hj=>by rw[hx j hj]
  rw[e1,e2] at h2;omega
 have mono:∀(P:Nat->Prop)[DecidablePred P],P i->(sumN i λj=>if P j then y j else 0)+y i<=sumN (z8 s o c b).length λj=>if P j then y j else 0:=λP _ hP=>by
  have:=zno (f:=λj=>if P j then y j else 0) (m:=(z8 s o c b).length) (i:=i+1) (by omega) λj hj=>by
   have:=(hf.bnd j hj).1;show 0<=if P j then y j else 0
   split<;>omega
  rw[show sumN (i+1) (λj=>if P j then y j else 0) =(sumN i λj=>if P j then y j else 0)+(if P i then y i else 0) from rfl,if_pos hP] at this;exact this
 have still:∀(P:Nat->Prop)[DecidablePred P],P i->(∀j,i<j->j<(z8 s o c b).length->¬P j)->(sumN (z8 s o c b).length λj=>if P j then y j else 0) =(sumN i λj=>if P j then y j else 0)+y i:=λP _ hP hn=>by rw[zp6 (i:=i+1) (by omega) λj h1 h2=>if_neg (hn j (by omega) h2)];show _+(if P i then y i else 0)=_;rw[if_pos hP]
 have zero:∀(P:Nat->Prop)[DecidablePred P],(∀j,j<(z8 s o c b).length->¬P j)->(sumN (z8 s o c b).length λj=>if P j then y j else 0)=0/\(sumN i λj=>if P j then y j else 0)=0:=λP _ hn=>⟨z1p λj hj=>if_neg (hn j hj),z1p λj hj=>if_neg (hn j (by omega))⟩
 have noin:∀v:Nat,v<s.length\/v=s.length+o.length->∀j,j<(z8 s o c b).length->¬(nwOf (netN s o c b)).to j=v:=λv hv j hj g=>by
  have g :(gt (z8 s o c b) (j:Int)).to.toNat=v:=g;rcases z4v hj with⟨i0,k0,hi0,hk0,hb0,e⟩|⟨k0,hk0,e⟩|⟨i0,hi0,e⟩|e
  .rw[e] at g;have g :((s.length:Int)+(k0:Int)).toNat=v:=g;omega
  .rw[e] at g;have g :((s.length:Int)+(k0:Int)).toNat=v:=g;omega
  .rw[e] at g;have g :(nodU s o+1).toNat=v:=g;unfold nodU at g;omega
  .rw[e] at g;have g :(nodU s o+1).toNat=v:=g;unfold nodU at g;omega
 have noout:∀k:Nat,k<o.length->∀j,j<(z8 s o c b).length->¬(nwOf (netN s o c b)).fr j=s.length+k:=λk hk j hj g=>by
  have g :(gt (z8 s o c b) (j:Int)).from_.toNat=s.length+k:=g;rcases z4v hj with⟨i0,k0,hi0,hk0,hb0,e⟩|⟨k0,hk0,e⟩|⟨i0,hi0,e⟩|e
  .rw[e] at g;have g :((i0:Int)).toNat=_:=g;omega
  .rw[e] at g;have g :(nodU s o).toNat=_:=g;unfold nodU at g;omega
  .rw[e] at g;have g :((i0:Int)).toNat=_:=g;omega
  .rw[e] at g;have g :(nodU s o).toNat=_:=g;unfold nodU at g;omega
 have lat:=λj(h1:i<j)(h2:j<(z8 s o c b).length)=>zqv (s:=s) (o:=o) (c:=c) (b:=b) h1 h2
 rcases z4v hi with⟨i0,k0,hi0,hk0,hb0,e⟩|⟨k0,hk0,e⟩|⟨i0,hi0,e⟩|e
 .-- from a supply to an order
  have hp:=zjy (c:=c) i0 k0 hi0 hk0;have hr:y i<=atN rest i0:=by
   rw[hout i0 (by omega)];have h1:=zero (λj=>(nwOf (netN s o c b)).to j=i0) (noin i0 (.inl hi0));have h2:=mono (λj=>(nwOf (netN s o c b)).fr j=i0) (by show (gt (z8 s o c b) (i:Int)).from_.toNat=i0;rw[e];show ((i0:Int)).toNat=i0;omega);have h3 :(nwOf (netN s o c b)).inS y i0=0:=h1.1;have h4 :(nwOf (netN s o c b)).outS y i0=sumN (z8 s o c b).length λj=>if(nwOf (netN s o c b)).fr j=i0 then y j else 0:=rfl
   rw[h3,h1.2,h4];omega
  have hr2:y i<=- atN rest (s.length+k0):=by
   rw[hout _ (by omega)];have h1:=zero (λj=>(nwOf (netN s o c b)).fr j=s.length+k0) (noout k0 hk0);have h2:=mono (λj=>(nwOf (netN s o c b)).to j=s.length+k0) (by show (gt (z8 s o c b) (i:Int)).to.toNat=_;rw[e];show ((s.length:Int)+(k0:Int)).toNat=_;omega);have h3 :(nwOf (netN s o c b)).outS y (s.length+k0)=0:=h1.1;have h4 :(nwOf (netN s o c b)).inS y (s.length+k0)=sumN (z8 s o c b).length λj=>if(nwOf (netN s o c b)).to j=s.length+k0 then y j else 0:=rfl
   rw[h3,h1.2,h4];omega
  have hpe:z5q s o (gt (z8 s o c b) (i:Int))=true:=by rw[e];exact hp
  unfold trT at hl;rw[hpe] at hl;unfold zb0;rw[if_pos hpe];by_cases h0:0<y i
  .rw[show decide (0<y i)=true by simpa using h0] at hl;rw[hl];show ∃l',(if _/\_ then _ else _)=some (y i,l');rw[if_pos ⟨rfl,rfl⟩,if_neg,]
   .exact⟨_,rfl⟩
   .show ¬(y i<1\/gt rest (gt (z8 s o c b) (i:Int)).from_<y i\/- gt rest (gt (z8 s o c b) (i:Int)).to<y i);rw[e];have q1:gt rest (arcQ s o c i0 k0).from_=atN rest i0:=rfl;have q2:gt rest (arcQ s o c i0 k0).to=atN rest (s.length+k0):=by unfold atN;congr 1
    rw[q1,q2];omega
  .have hyz:y i=0:=by omega
   rw[show decide (0<y i)=false by simpa using h0] at hl;have hl:l=trsJ s o (z8 s o c b) y (i+1) ((z8 s o c b).length-i-1):=hl;rw[hyz];cases hc:l with
   |nil=>exact⟨[],rfl⟩
   |cons t l2=>
    refine⟨t::l2,?_⟩;show (if _/\_ then _ else _)=_;rw[if_neg];rintro⟨g1,g2⟩;have ht:t∈trsJ s o (z8 s o c b) y (i+1) ((z8 s o c b).length-i-1):=by rw[<- hl,hc];simp
    unfold trsJ at ht;obtain⟨j,hj,ht⟩:=w15.1 ht;have hj:=List.mem_range'_1.1 hj;have hL:=(lat j (by omega) (by omega)).1 hpe;unfold trT at ht;cases hpj:z5q s o (gt (z8 s o c b) (j:Int)) with
    |false=>rw[hpj] at ht;cases ht
    |true=>
     cases hdj:decide (0<y j) with
     |false=>rw[hpj,hdj] at ht;cases ht
     |true=>rw[hpj,hdj] at ht;have ht:=w0i.1 ht;rw[ht] at g1 g2;have g1 :(gt (z8 s o c b) (j:Int)).from_ =(gt (z8 s o c b) (i:Int)).from_:=g1;have g2 :(gt (z8 s o c b) (j:Int)).to-(s.length:Int) =(gt (z8 s o c b) (i:Int)).to-(s.length:Int):=g2;exact hL hpj ⟨g1,by omega⟩
 .have hp:z5q s o (gt (z8 s o c b) (i:Int))=false:=by rw[e];exact zjx k0
  have hto :(gt (z8 s o c b) (i:Int)).to<nodU s o:=by rw[e];show (s.length:Int)+(k0:Int)<nodU s o;unfold nodU;omega
  unfold zb0;rw[if_neg (by rw[hp];simp),if_pos ⟨by rw[e];rfl,hto⟩];refine⟨l,?_⟩;congr 2;have q2:gt rest (gt (z8 s o c b) (i:Int)).to=atN rest (s.length+k0):=by rw[e];unfold atN;congr 1
  have h1:=zero (λj=>(nwOf (netN s o c b)).fr j=s.length+k0) (noout k0 hk0);have h2:=still (λj=>(nwOf (netN s o c b)).to j=s.length+k0) (by show (gt (z8 s o c b) (i:Int)).to.toNat=_;rw[e];show ((s.length:Int)+(k0:Int)).toNat=_;omega) λj j1 j2 g=>by have g :(gt (z8 s o c b) (j:Int)).to.toNat=s.length+k0:=g;have hL:=(lat j j1 j2).2.1 hp hto;have:=(zvr (s:=s) (o:=o) (c:=c) (b:=b) j2).2.1.1;apply hL;rw[e];show _ =(s.length:Int)+(k0:Int);omega
  have h3 :(nwOf (netN s o c b)).outS y (s.length+k0)=0:=h1.1;have h4 :(nwOf (netN s o c b)).inS y (s.length+k0)=sumN (z8 s o c b).length λj=>if(nwOf (netN s o c b)).to j=s.length+k0 then y j else 0:=rfl
  rw[q2,hout _ (by omega),h3,h1.2,h4,h2];omega
 .have hp:z5q s o (gt (z8 s o c b) (i:Int))=false:=by rw[e];exact zn7 i0
  have hto:¬(gt (z8 s o c b) (i:Int)).to<nodU s o:=by rw[e];show ¬nodU s o+1<nodU s o;omega
  unfold zb0;rw[if_neg (by rw[hp];simp),if_neg (λg=>hto g.2)];refine⟨l,?_⟩;congr 2;have q2:gt rest (gt (z8 s o c b) (i:Int)).from_=atN rest i0:=by rw[e];rfl
  have h1:=zero (λj=>(nwOf (netN s o c b)).to j=i0) (noin i0 (.inl hi0));have h2:=still (λj=>(nwOf (netN s o c b)).fr j=i0) (by show (gt (z8 s o c b) (i:Int)).from_.toNat=_;rw[e];show ((i0:Int)).toNat=_;omega) λj j1 j2 g=>by have g :(gt (z8 s o c b) (j:Int)).from_.toNat=i0:=g;have hL:=(lat j j1 j2).2.2 hp hto;have:=(zvr (s:=s) (o:=o) (c:=c) (b:=b) j2).1.1;apply hL;rw[e];show _ =(i0:Int);omega
  have h3 :(nwOf (netN s o c b)).inS y i0=0:=h1.1;have h4 :(nwOf (netN s o c b)).outS y i0=sumN (z8 s o c b).length λj=>if(nwOf (netN s o c b)).fr j=i0 then y j else 0:=rfl
  rw[q2,hout _ (by omega),h3,h1.2,h4,h2];omega
 .have hp:z5q s o (gt (z8 s o c b) (i:Int))=false:=by rw[e];exact zsr
  have hto:¬(gt (z8 s o c b) (i:Int)).to<nodU s o:=by rw[e];show ¬nodU s o+1<nodU s o;omega
  unfold zb0;rw[if_neg (by rw[hp];simp),if_neg (λg=>hto g.2)];refine⟨l,?_⟩;congr 2;have q2:gt rest (gt (z8 s o c b) (i:Int)).from_=atN rest (s.length+o.length):=by rw[e];unfold atN nodU;congr 1
  have h1:=zero (λj=>(nwOf (netN s o c b)).to j=s.length+o.length) (noin _ (.inr rfl));have h2:=still (λj=>(nwOf (netN s o c b)).fr j=s.length+o.length) (by show (gt (z8 s o c b) (i:Int)).from_.toNat=_;rw[e];exact zkw) λj j1 j2 g=>by have g :(gt (z8 s o c b) (j:Int)).from_.toNat=s.length+o.length:=g;have hL:=(lat j j1 j2).2.2 hp hto;have:=(zvr (s:=s) (o:=o) (c:=c) (b:=b) j2).1.1;apply hL;rw[e];show _=nodU s o;unfold nodU;omega
  have h3 :(nwOf (netN s o c b)).inS y (s.length+o.length)=0:=h1.1;have h4 :(nwOf (netN s o c b)).outS y (s.length+o.length)=sumN (z8 s o c b).length λj=>if(nwOf (netN s o c b)).fr j=s.length+o.length then y j else 0:=rfl
  rw[q2,hout _ (by omega),h3,h1.2,h4,h2];omega
theorem zwj(hs:s.length<=6)(ho:o.length<=6){y:Nat->Int}(hf :(nwOf (netN s o c b)).Feas (atN (supN s o)) y):∀(d n i:Nat)(x:List Int)(l:List z7)(rest:List Int),(z8 s o c b).length-i=d->i<=(z8 s o c b).length->d<n->FI s o c b (trsI s o (z8 s o c b) y (z8 s o c b).length) i x l rest->(∀j,j<i->atN x j=y j)->
  ∃x',zp φ n s l (nodU s o) (z8 s o c b) ((z8 s o c b).length:Int) (i:Int) x rest=some (x',true,())/\x'.length =(z8 s o c b).length/\∀j,j<(z8 s o c b).length->atN x' j=y j:=by
 intro d
 induction d with
 |zero=>
  intro n i x l rest hd hi hn h hx;obtain⟨n,rfl⟩:∃n',n=n'+1:=⟨n-1,by omega⟩;have:i =(z8 s o c b).length:=by omega
  subst this;refine⟨x,?_,h.xl,hx⟩;have h1:=h.tr;rw[zl9 hx] at h1;have:l = []:=by
   have h2:trsI s o (z8 s o c b) y (z8 s o c b).length++[]=trsI s o (z8 s o c b) y (z8 s o c b).length++l:=by rw[w0e];exact h1
   exact(List.append_cancel_left h2).symm
  rw[this,zrl (l0:=[]) n];rfl
 |succ d ih=>
  intro n i x l rest hd hi hn h hx;obtain⟨n,rfl⟩:∃n',n=n'+1:=⟨n-1,by omega⟩;rw[zrm hs ho h (by omega) n];obtain⟨l',hz⟩:=y9s hs ho hf h (by omega) hx;rw[hz];refine ih n (i+1) _ _ _ (by omega) (by omega) (by omega) (h.move hs ho (by omega) hz).1 λj hj=>?_
  by_cases e:j=i
  .subst e;have:=zvs x (y j);rw[h.xl] at this;exact this
  .rw[zvt (by rw[h.xl];omega)];exact hx j (by omega)
end
theorem zo8{φ:Nat}{p:Pool}{s:List za}{o:List zf}(h:Val φ p s o)(l0:List z7):FI s o (cF φ p s o) (bF φ p s o) l0 0 [] l0 (supN s o) where
 len:=zcj s o
 xl:=rfl
 val:=λv hv=>by unfold outP inP;simp[sumN]
 b1:=λv hv=>by rw[y2j hv];have:=h.sc hv;omega
 b2:=λk hk=>by rw[y2i hk];have:=h.oc hk;omega
 b3:=by rw[y70];have:=h.sumC_bd;omega
 b4:=by rw[ycj];have:=h.sumS_bd;omega
 tr:=rfl
theorem y3c{φ:Nat}{p:Pool}{s:List za}{o:List zf}(h:Val φ p s o)(l:List z7):z6g φ (netF φ p s o) s o l=zp φ φ s l (nodU s o) (z8 s o (cF φ p s o) (bF φ p s o)) ((z8 s o (cF φ p s o) (bF φ p s o)).length:Int) 0 [] (supN s o):=by
 have hsl:=zcj s o;have hs:=h.hs;have ho:=h.ho;unfold z6g
 first|unfold slices_Clone_55|unfold zea
 show (ck ((supN s o).isEmpty=false) _).bind _=_;rw[z6 (by cases hc:supN s o with
  |nil=>rw[hc] at hsl;simp at hsl
  |cons _ _=>rfl)]
 show (ck (fits (([]:List Int).length+(supN s o).length) 8) _).bind _=_;rw[z6 (by simp[fits,hsl];omega),w01,W_id (x:=(s.length:Int)+(o.length:Int)) (by omega) (by omega)];rfl
theorem y9r{φ:Nat}{p:Pool}{s:List za}{o:List zf}(h:Val φ p s o)(l:List z7):
  ∃x k,z6g φ (netF φ p s o) s o l=some (x,k,())/\(k=true->x.length =(netF φ p s o).arcs.length/\l=trsI s o (netF φ p s o).arcs (atN x) (netF φ p s o).arcs.length):=by
 have hal:=zau s o (cF φ p s o) (bF φ p s o) h.hs h.ho;have hφ:=h.hφ;rw[y3c h l];exact y7h h.hs h.ho _ φ 0 [] l (supN s o) rfl (by omega) (by omega) (zo8 h l)
theorem ye1{φ:Nat}{p:Pool}{s:List za}{o:List zf}(h:Val φ p s o){y:Nat->Int}(hf :(nwOf (netF φ p s o)).Feas (atN (netF φ p s o).supply) y):
  ∃x,z6g φ (netF φ p s o) s o (trsI s o (netF φ p s o).arcs y (netF φ p s o).arcs.length)=some (x,true,())/\x.length =(netF φ p s o).arcs.length/\∀j,j<(netF φ p s o).arcs.length->atN x j=y j:=by
 have hal:=zau s o (cF φ p s o) (bF φ p s o) h.hs h.ho;have hφ:=h.hφ;rw[y3c h];exact zwj h.hs h.ho hf _ φ 0 [] _ (supN s o) rfl (by omega) (by omega) (zo8 h _) (λj hj=>by omega)
end Px
end
section
namespace Px
open Go
def ordA(s:List za)(o:List zf)(a:Arc):Prop:=z5q s o a=false/\a.to<nodU s o
instance(s:List za)(o:List zf)(a:Arc):Decidable (ordA s o a):=inferInstanceAs (Decidable (_/\_))
section
variable{φ:Nat}{s:List za}{o:List zf}{c:Nat->Nat->Int}{b:Nat->Nat->Bool}
structure FR(s:List za)(o:List zf)(c:Nat->Nat->Int)(b:Nat->Nat->Bool)(tr:List z7)(i:Nat)(x:List Int)(l:List z7)(rest:List Int)(rR:Int)(at_:Nat)(le op:List Int):Prop where
 fi:FI s o c b tr i x l rest
 la:le.length=s.length
 lo:op.length=o.length
 lv:∀v:Nat,v<s.length->(∀j:Nat,j<i->gt (z8 s o c b) (j:Int)≠arcS (nodU s o) s v)->gt le (v:Int)=atN rest v
 ov:∀k:Nat,k<o.length->(∀j:Nat,j<i->gt (z8 s o c b) (j:Int)≠arcO (nodU s o) (s.length:Int) o k)->gt op (k:Int)=- atN rest (s.length+k)
 rs:rR=sumN i λj=>if ordA s o (gt (z8 s o c b) (j:Int)) then(gt (z8 s o c b) (j:Int)).cap-atN x j else 0
 rb : -(1000*(i:Int))<=rR/\rR<=1000*(i:Int)
 at1:l=tr.drop at_
 at2:at_<=tr.length
theorem yfg(i k:Nat)(hi:i<s.length)(hk:k<o.length):¬ordA s o (arcQ s o c i k):=λg=>by have:=g.1;rw[zjy i k hi hk] at this;cases this
theorem yjl(k:Nat)(hk:k<o.length):ordA s o (arcO (nodU s o) (s.length:Int) o k):=⟨zjx k,by show (s.length:Int)+(k:Int)<nodU s o;unfold nodU;omega⟩
theorem yfh(i:Nat):¬ordA s o (arcS (nodU s o) s i):=λg=>by have g:nodU s o+1<nodU s o:=g.2;omega
theorem yff:¬ordA s o ⟨nodU s o,nodU s o+1,sumC o o.length,0⟩:=λg=>by have g:nodU s o+1<nodU s o:=g.2;omega
theorem yik{tr:List z7}{i:Nat}{x:List Int}{l:List z7}{rest:List Int}{rR:Int}{at_:Nat}{le op:List Int}(h:FR s o c b tr i x l rest rR at_ le op)(hi:i<(z8 s o c b).length)(e:gt (z8 s o c b) (i:Int) =⟨nodU s o,nodU s o+1,sumC o o.length,0⟩):rR=atN rest (s.length+o.length):=by
 have hv:=h.fi.val (s.length+o.length) (by omega);have hp:z5q s o (gt (z8 s o c b) (i:Int))=false:=by rw[e];exact zsr
 have hto:¬(gt (z8 s o c b) (i:Int)).to<nodU s o:=by rw[e];show ¬nodU s o+1<nodU s o;omega
 have h0:inP (netN s o c b) (atN x) i (s.length+o.length)=0:=z1p λj hj=>if_neg λg=>by
  have g :(gt (z8 s o c b) (j:Int)).to.toNat=s.length+o.length:=g;rcases z4v (s:=s) (o:=o) (c:=c) (b:=b) (j:=j) (by omega) with⟨i0,k0,hi0,hk0,hb0,e⟩|⟨k0,hk0,e⟩|⟨i0,hi0,e⟩|e
  .rw[e] at g;have g :((s.length:Int)+(k0:Int)).toNat=_:=g;omega
  .rw[e] at g;have g :((s.length:Int)+(k0:Int)).toNat=_:=g;omega
  .rw[e] at g;have g :(nodU s o+1).toNat=_:=g;unfold nodU at g;omega
  .rw[e] at g;have g :(nodU s o+1).toNat=_:=g;unfold nodU at g;omega
 have h1:outP (netN s o c b) (atN x) i (s.length+o.length)=sumN i λj=>if ordA s o (gt (z8 s o c b) (j:Int)) then atN x j else 0:=zy λj hj=>by
  have hfr :(nwOf (netN s o c b)).fr j =(gt (z8 s o c b) (j:Int)).from_.toNat:=rfl;rw[hfr];have hL:=zqv (s:=s) (o:=o) (c:=c) (b:=b) hj hi;rcases z4v (s:=s) (o:=o) (c:=c) (b:=b) (j:=j) (by omega) with⟨i0,k0,hi0,hk0,hb0,e'⟩|⟨k0,hk0,e'⟩|⟨i0,hi0,e'⟩|e'
  .rw[e',if_neg (by show ¬((i0:Int)).toNat=_;omega),if_neg (yfg i0 k0 hi0 hk0)]
  .rw[e',if_pos (show (arcO (nodU s o) (s.length:Int) o k0).from_.toNat=s.length+o.length from zkw),if_pos (yjl k0 hk0)]
  .rw[e',if_neg (by show ¬((i0:Int)).toNat=_;omega),if_neg (yfh i0)]
  .exfalso;have:=hL.2.2 (by rw[e'];exact zsr) (by rw[e'];show ¬nodU s o+1<nodU s o;omega);rw[e,e'] at this;exact this rfl
 have h2 :(sumN i λj=>if ordA s o (gt (z8 s o c b) (j:Int)) then(gt (z8 s o c b) (j:Int)).cap else 0)=sumC o o.length:=by
  have q1 :(sumN s.length λi=>sumN o.length λk=>if b i k=true then(if ordA s o (arcQ s o c i k) then(arcQ s o c i k).cap else 0) else 0)=0:=z1p λi' hi'=>z1p λk' hk'=>by rw[if_neg (yfg i' k' hi' hk')];split<;>rfl
  have q2 :(sumN o.length λk=>if ordA s o (arcO (nodU s o) (s.length:Int) o k) then(arcO (nodU s o) (s.length:Int) o k).cap else 0)=sumC o o.length:=(zy λk hk=>if_pos (yjl k hk)).trans (zz5 o _).symm;have q3 :(sumN s.length λi=>if ordA s o (arcS (nodU s o) s i) then(arcS (nodU s o) s i).cap else 0)=0:=z1p λi' hi'=>if_neg (yfh i')
  have q4 :(if ordA s o ⟨nodU s o,nodU s o+1,sumC o o.length,0⟩ then(Arc.mk (nodU s o) (nodU s o+1) (sumC o o.length) 0).cap else 0)=0:=if_neg yff;have e1 :(sumN (z8 s o c b).length λj=>if ordA s o (gt (z8 s o c b) (j:Int)) then(gt (z8 s o c b) (j:Int)).cap else 0)=sumC o o.length:=by refine(ylb (λa=>if ordA s o a then a.cap else 0) (z8 s o c b)).trans ?_;rw[yau];refine(congr (congrArg _ (congr (congrArg _ (congr (congrArg _ q1) q2)) q3)) q4).trans ?_;omega
  rw[<- zp6 (i:=i) (m:=(z8 s o c b).length) (by omega) λj j1 j2=>if_neg λg=>?_]
  .exact e1
  .by_cases q:j=i
   .rw[q,e] at g;exact yff g
   .have hL:=(zqv (s:=s) (o:=o) (c:=c) (b:=b) (show i<j by omega) j2).2.2 hp hto;rcases z4v (s:=s) (o:=o) (c:=c) (b:=b) (j:=j) j2 with⟨i0,k0,hi0,hk0,hb0,e'⟩|⟨k0,hk0,e'⟩|⟨i0,hi0,e'⟩|e'
    .rw[e'] at g;exact yfg i0 k0 hi0 hk0 g
    .rw[e',e] at hL;exact hL rfl
    .rw[e'] at g;exact yfh i0 g
    .rw[e'] at g;exact yff g
 have h3:rR =(sumN i λj=>if ordA s o (gt (z8 s o c b) (j:Int)) then(gt (z8 s o c b) (j:Int)).cap else 0)-sumN i λj=>if ordA s o (gt (z8 s o c b) (j:Int)) then atN x j else 0:=by
  rw[h.rs,<- zz8];exact zy λj hj=>by
   by_cases g:ordA s o (gt (z8 s o c b) (j:Int))
   .rw[if_pos g,if_pos g,if_pos g]
   .rw[if_neg g,if_neg g,if_neg g];rfl
 rw[hv,h0,h1,y70,h3,h2];omega
theorem y3g(hs:s.length<=6)(ho:o.length<=6)(hcnt:∀k:Nat,k<o.length->1<=(gt o (k:Int)).count/\(gt o (k:Int)).count<=1000){pl:Plan}(htl:pl.transfers.length<=1000){i:Nat}{x:List Int}{l:List z7}{rest:List Int}{rR:Int}{at_:Nat}{le op:List Int}(h:FR s o c b pl.transfers i x l rest rR at_ le op)(hi:i<(z8 s o c b).length)(n:Nat)(G:Option (List Int×Bool×Unit)->Prop)
  (f0:zb0 s o (gt (z8 s o c b) (i:Int)) rest l=none->G (some ([],false,())))
  (f1:∀z l',zb0 s o (gt (z8 s o c b) (i:Int)) rest l=some (z,l')->∀rR' at' le' op',FR s o c b pl.transfers (i+1) (x++[z]) l' (zqd rest (gt (z8 s o c b) (i:Int)) z) rR' at' le' op'->G (z0n φ n s o rR' (at':Int) (nodU s o) ((i+1:Nat):Int) (netN s o c b) pl le' op' (x++[z]))) :
  G (z0n φ (n+1) s o rR (at_:Int) (nodU s o) (i:Int) (netN s o c b) pl le op x):=by
 have hal:=zau s o c b hs ho;have hrl:=h.fi.len;have hxl:=h.fi.xl;have hla:=h.la;have hlo:=h.lo;have hat2:=h.at2;have hrb:=h.rb;have hWi:W ((i:Int)+1) =((i+1:Nat):Int):=by rw[W_id (by omega) (by omega)];omega
 have eA :(netN s o c b).arcs=z8 s o c b:=rfl;have late:=λ(j:Nat)(hj:j<i)=>zqv (s:=s) (o:=o) (c:=c) (b:=b) hj hi
 have hx:∀(z:Int)(j:Nat),j<i->atN (x++[z]) j=atN x j:=λz j hj=>zvt (by rw[hxl];exact hj)
 have hxi:∀z:Int,atN (x++[z]) i=z:=λz=>by rw[<- hxl];exact zvs x z
 have hrs:∀z:Int,(sumN (i+1) λj=>if ordA s o (gt (z8 s o c b) (j:Int)) then(gt (z8 s o c b) (j:Int)).cap-atN (x++[z]) j else 0)=rR+if ordA s o (gt (z8 s o c b) (i:Int)) then(gt (z8 s o c b) (i:Int)).cap-z else 0:=λz=>by show (sumN i λj=>if ordA s o (gt (z8 s o c b) (j:Int)) then(gt (z8 s o c b) (j:Int)).cap-atN (x++[z]) j else 0)+(if ordA s o (gt (z8 s o c b) (i:Int)) then(gt (z8 s o c b) (i:Int)).cap-atN (x++[z]) i else 0)=_;rw[hxi z,h.rs];congr 1;exact zy λj hj=>by rw[hx z j hj]
 have mv:=λz l'(hz:zb0 s o (gt (z8 s o c b) (i:Int)) rest l=some (z,l'))=>h.fi.move hs ho hi hz
 rw[z0n,eA,if_pos (by simp;omega),z6 ⟨by omega,by omega⟩];rcases z4v hi with⟨i0,k0,hi0,hk0,hb0,e⟩|⟨k0,hk0,e⟩|⟨i0,hi0,e⟩|e
 .-- from a supply to an order
  have hp:=zjy (c:=c) i0 k0 hi0 hk0;have hlv:=h.lv i0 hi0 λj hj g=>(late j hj).2.2 (by rw[g];exact zn7 i0) (by rw[g];show ¬nodU s o+1<nodU s o;omega) (by rw[g,e];rfl)
  have hov:=h.ov k0 hk0 λj hj g=>(late j hj).2.1 (by rw[g];exact zjx k0) (by rw[g];show (s.length:Int)+(k0:Int)<nodU s o;unfold nodU;omega) (by rw[g,e];rfl)
  have hr1:=h.fi.b1 i0 hi0;have hr2:=h.fi.b2 k0 hk0;have ef :(arcQ s o c i0 k0).from_ =(i0:Int):=rfl;have et :(arcQ s o c i0 k0).to =(s.length:Int)+(k0:Int):=rfl;have eg1:gt rest (i0:Int)=atN rest i0:=rfl;have eg2:gt rest ((s.length:Int)+(k0:Int))=atN rest (s.length+k0):=by unfold atN;congr 1
  have hW1:W ((s.length:Int)+(k0:Int)-(s.length:Int)) =(k0:Int):=by rw[W_id (by omega) (by omega)];omega
  have hf2 :(gt (z8 s o c b) (i:Int)).from_.toNat=i0:=by rw[e];show ((i0:Int)).toNat=i0;omega
  have ht2 :(gt (z8 s o c b) (i:Int)).to.toNat=s.length+k0:=by rw[e];show ((s.length:Int)+(k0:Int)).toNat=_;omega
  have next:∀z l'(at':Nat),zb0 s o (gt (z8 s o c b) (i:Int)) rest l=some (z,l')->l'=pl.transfers.drop at'->at'<=pl.transfers.length->G (z7p φ (z0n φ n) s o rR (at':Int) (nodU s o) (i:Int) z (k0:Int) (netN s o c b) pl le op x (arcQ s o c i0 k0)):=λz l' at' hz h1 h2=>by
   obtain⟨hF,z1,z2⟩:=mv z l' hz;have hmv:=λv=>zn3 (rest:=rest) (a:=gt (z8 s o c b) (i:Int)) (z:=z) (by rw[e];show 0<=(i0:Int);omega) (by rw[e,hrl];show (i0:Int)<_;omega) (by rw[e];show 0<=(s.length:Int)+(k0:Int);omega) (by rw[e,hrl];show (s.length:Int)+(k0:Int)<_;omega) (by rw[e];show (i0:Int)≠(s.length:Int)+(k0:Int);omega) v
   unfold z7p z2d;rw[ef,z6 ⟨by omega,by omega⟩,z6 ⟨by omega,by omega⟩,z6 ⟨by omega,by omega⟩,z6 ⟨by omega,by omega⟩,z6 (by simp[fits];omega),hWi,hlv,hov,W_id (x:=atN rest i0-z) (by omega) (by omega),W_id (x:=- atN rest (s.length+k0)-z) (by omega) (by omega)];refine f1 z l' hz rR at' _ _ ⟨hF,by rw[z02];exact hla,by rw[z02];exact hlo,λv hv g=>?_,λk hk g=>?_,?_,by push_cast;omega,h1,h2⟩
   .rw[zx _ _ _ _ (by omega) (by omega) (by omega),hmv v,hf2,ht2];by_cases q:v=i0
    .subst q;rw[if_pos rfl,if_pos rfl,if_neg (by omega)];omega
    .rw[if_neg (by omega),if_neg (by omega),if_neg (by omega),h.lv v hv λj hj=>g j (by omega)];omega
   .rw[zx _ _ _ _ (by omega) (by omega) (by omega),hmv (s.length+k),hf2,ht2];by_cases q:k=k0
    .subst q;rw[if_pos rfl,if_neg (by omega),if_pos rfl];omega
    .rw[if_neg (by omega),if_neg (by omega),if_neg (by omega),h.ov k hk λj hj=>g j (by omega)];omega
   .rw[hrs z,e,if_neg (yfg i0 k0 hi0 hk0)];omega
  rw[e] at f0 next⊢
  have hcond :(decide ((arcQ s o c i0 k0).from_<(s.length:Int))&&decide ((arcQ s o c i0 k0).to<nodU s o))=true:=hp;rw[if_pos hcond,z6 (λ_=>by simp at *;omega),z6 (λ_=>by simp at *;omega),ef,et,hW1];unfold zb0 at f0 next
  rw[if_pos hp] at f0;simp only[if_pos hp] at next
  cases hl:l with
  |nil=>
   rw[hl] at f0 next
   have h1:=h.at1;rw[hl] at h1;have h2:at_=pl.transfers.length:=by have:=congrArg List.length h1;rw[w3d] at this;simp at this;omega
   rw[if_neg (by simp;omega)];exact next 0 [] at_ rfl h1 hat2
  |cons t l2=>
   rw[hl] at f0 next
   have h1:=h.at1;rw[hl] at h1;have h2:at_<pl.transfers.length:=by have:=congrArg List.length h1;rw[w3d,w12] at this;omega
   have h3:gt pl.transfers (at_:Int)=t/\l2=pl.transfers.drop (at_+1):=by rw[z4b h2];have:=w2t h2;rw[this] at h1;exact⟨(List.cons.inj h1).1.symm,(List.cons.inj h1).2⟩
   have hd:decide ((at_:Int)<(pl.transfers.length:Int))=true:=by simp;omega
   rw[h3.1,hd,w1r];simp only[ef,et,eg1,eg2] at f0 next
   by_cases g:t.supply =(i0:Int)/\t.order =(s.length:Int)+(k0:Int)-(s.length:Int)
   .have e1 :((t.supply==(i0:Int))&&(t.order==(k0:Int)))=true:=by rw[w03,beq_iff_eq,beq_iff_eq];omega
    rw[if_pos e1,z6 ⟨by omega,by omega⟩,z6 (λ_=>⟨by omega,by omega⟩),z6 (λ_=>⟨by omega,by omega⟩),hlv,hov];simp only[if_pos g] at f0 next
    by_cases g2:t.count<1\/atN rest i0<t.count\/- atN rest (s.length+k0)<t.count
    .rw[if_pos (by simp only[w0w,decide_eq_true_eq];omega)];exact f0 (if_pos g2)
    .rw[if_neg (by simp only[w0w,decide_eq_true_eq];omega),W_id (x:=(at_:Int)+1) (by omega) (by omega),show (at_:Int)+1 =((at_+1:Nat):Int) by omega];exact next t.count l2 (at_+1) (if_neg g2) h3.2 (by omega)
   .have e1:¬((t.supply==(i0:Int))&&(t.order==(k0:Int)))=true:=by rw[w03,beq_iff_eq,beq_iff_eq];omega
    rw[if_neg e1];exact next 0 (t::l2) at_ (if_neg g) h1 hat2
 .have hp:=zjx (s:=s) (o:=o) k0;have hov:=h.ov k0 hk0 λj hj g=>(late j hj).2.1 (by rw[g];exact zjx k0) (by rw[g];show (s.length:Int)+(k0:Int)<nodU s o;unfold nodU;omega) (by rw[g,e])
  have hr2:=h.fi.b2 k0 hk0;have hc0:=hcnt k0 hk0;have et :(arcO (nodU s o) (s.length:Int) o k0).to =(s.length:Int)+(k0:Int):=rfl;have hW1:W ((s.length:Int)+(k0:Int)-(s.length:Int)) =(k0:Int):=by rw[W_id (by omega) (by omega)];omega
  have hz:zb0 s o (gt (z8 s o c b) (i:Int)) rest l=some (- atN rest (s.length+k0),l):=by rw[e];unfold zb0;rw[hp,if_neg (by simp),if_pos ⟨rfl,show (s.length:Int)+(k0:Int)<nodU s o by unfold nodU;omega⟩];rw[et];congr 2
  obtain⟨hF,_,_⟩:=mv _ _ hz;have hf2 :(gt (z8 s o c b) (i:Int)).from_.toNat=s.length+o.length:=by rw[e];exact zkw
  have ht2 :(gt (z8 s o c b) (i:Int)).to.toNat=s.length+k0:=by rw[e];show ((s.length:Int)+(k0:Int)).toNat=_;omega
  have hmv:=λv=>zn3 (rest:=rest) (a:=gt (z8 s o c b) (i:Int)) (z:=- atN rest (s.length+k0)) (by rw[e];show 0<=nodU s o;unfold nodU;omega) (by rw[e,hrl];show nodU s o<_;unfold nodU;omega) (by rw[e];show 0<=(s.length:Int)+(k0:Int);omega) (by rw[e,hrl];show (s.length:Int)+(k0:Int)<_;omega) (by rw[e];show nodU s o≠(s.length:Int)+(k0:Int);unfold nodU;omega) v
  have hcond :(decide ((arcO (nodU s o) (s.length:Int) o k0).from_<(s.length:Int))&&decide ((arcO (nodU s o) (s.length:Int) o k0).to<nodU s o))=false:=hp;have hto:decide ((arcO (nodU s o) (s.length:Int) o k0).to<nodU s o)=true:=by rw[et];unfold nodU;simp;omega
  have key:∀rR',rR'=rR+((gt o (k0:Int)).count - - atN rest (s.length+k0))->FR s o c b pl.transfers (i+1) (x++[- atN rest (s.length+k0)]) l (zqd rest (gt (z8 s o c b) (i:Int)) (- atN rest (s.length+k0))) rR' at_ le op:=λrR' hR'=>by
   refine⟨hF,hla,hlo,λv hv g=>?_,λk hk g=>?_,?_,?_,h.at1,hat2⟩
   .rw[hmv v,hf2,ht2,if_neg (by omega),if_neg (by omega),h.lv v hv λj hj=>g j (by omega)];omega
   .have q:k≠k0:=λq=>by rw[q] at g;exact g i (by omega) e
    rw[hmv (s.length+k),hf2,ht2,if_neg (by omega),if_neg (by omega),h.ov k hk λj hj=>g j (by omega)];omega
   .rw[hrs,e,if_pos (yjl k0 hk0),hR'];rfl
   .push_cast;omega
  rw[e,hcond,if_neg (by simp),if_pos hto,et,hW1,z6 ⟨by omega,by omega⟩,z6 ⟨by omega,by omega⟩,hov,W_id (x:=rR+(gt o (k0:Int)).count) (by omega) (by omega),W_id (x:=rR+(gt o (k0:Int)).count - - atN rest (s.length+k0)) (by omega) (by omega)];unfold z2d;rw[z6 (by simp[fits];omega),hWi];exact f1 _ _ hz _ at_ le op (key _ (by omega))
 .have hp:=zn7 (s:=s) (o:=o) i0;have hlv:=h.lv i0 hi0 λj hj g=>(late j hj).2.2 (by rw[g];exact zn7 i0) (by rw[g];show ¬nodU s o+1<nodU s o;omega) (by rw[g,e])
  have ef :(arcS (nodU s o) s i0).from_ =(i0:Int):=rfl;have et :(arcS (nodU s o) s i0).to=nodU s o+1:=rfl;have hz:zb0 s o (gt (z8 s o c b) (i:Int)) rest l=some (atN rest i0,l):=by rw[e];unfold zb0;rw[hp,if_neg (by simp),if_neg (λg=>by have g:nodU s o+1<nodU s o:=g.2;omega)];rfl
  obtain⟨hF,_,_⟩:=mv _ _ hz;have hf2 :(gt (z8 s o c b) (i:Int)).from_.toNat=i0:=by rw[e];show ((i0:Int)).toNat=i0;omega
  have ht2 :(gt (z8 s o c b) (i:Int)).to.toNat=s.length+o.length+1:=by rw[e];show (nodU s o+1).toNat=_;unfold nodU;omega
  have hmv:=λv=>zn3 (rest:=rest) (a:=gt (z8 s o c b) (i:Int)) (z:=atN rest i0) (by rw[e];show 0<=(i0:Int);omega) (by rw[e,hrl];show (i0:Int)<_;omega) (by rw[e];show 0<=nodU s o+1;unfold nodU;omega) (by rw[e,hrl];show nodU s o+1<_;unfold nodU;omega) (by rw[e];show (i0:Int)≠nodU s o+1;unfold nodU;omega) v
  have hcond :(decide ((arcS (nodU s o) s i0).from_<(s.length:Int))&&decide ((arcS (nodU s o) s i0).to<nodU s o))=false:=hp;have hto:decide ((arcS (nodU s o) s i0).to<nodU s o)=false:=by rw[et];simp;omega
  have hfr:decide ((arcS (nodU s o) s i0).from_<(s.length:Int))=true:=by rw[ef];simp;omega
  rw[e,hcond,if_neg (by simp),hto,if_neg (by simp),hfr,if_pos rfl,ef,z6 ⟨by omega,by omega⟩,hlv];unfold z2d;rw[z6 (by simp[fits];omega),hWi];refine f1 _ _ hz rR at_ le op ⟨hF,hla,hlo,λv hv g=>?_,λk hk g=>?_,?_,by push_cast;omega,h.at1,hat2⟩
  .have q:v≠i0:=λq=>by rw[q] at g;exact g i (by omega) e
   rw[hmv v,hf2,ht2,if_neg (by omega),if_neg (by omega),h.lv v hv λj hj=>g j (by omega)];omega
  .rw[hmv (s.length+k),hf2,ht2,if_neg (by omega),if_neg (by omega),h.ov k hk λj hj=>g j (by omega)];omega
  .rw[hrs,e,if_neg (yfh i0)];omega
 .have hp:=zsr (s:=s) (o:=o);have hlast:=yik h hi e;have hz:zb0 s o (gt (z8 s o c b) (i:Int)) rest l=some (rR,l):=by rw[e,hlast];unfold zb0;rw[hp,if_neg (by simp),if_neg (λg=>by have g:nodU s o+1<nodU s o:=g.2;omega)];congr 2
  obtain⟨hF,_,_⟩:=mv _ _ hz;have hf2 :(gt (z8 s o c b) (i:Int)).from_.toNat=s.length+o.length:=by rw[e];exact zkw
  have ht2 :(gt (z8 s o c b) (i:Int)).to.toNat=s.length+o.length+1:=by rw[e];show (nodU s o+1).toNat=_;unfold nodU;omega
  have hmv:=λv=>zn3 (rest:=rest) (a:=gt (z8 s o c b) (i:Int)) (z:=rR) (by rw[e];show 0<=nodU s o;unfold nodU;omega) (by rw[e,hrl];show nodU s o<_;unfold nodU;omega) (by rw[e];show 0<=nodU s o+1;unfold nodU;omega) (by rw[e,hrl];show nodU s o+1<_;unfold nodU;omega) (by rw[e];show nodU s o≠nodU s o+1;omega) v
  have ef :(Arc.mk (nodU s o) (nodU s o+1) (sumC o o.length) 0).from_=nodU s o:=rfl;have et :(Arc.mk (nodU s o) (nodU s o+1) (sumC o o.length) 0).to=nodU s o+1:=rfl;have hto:decide (nodU s o+1<nodU s o)=false:=by simp;omega
  have hfr:decide (nodU s o<(s.length:Int))=false:=by unfold nodU;simp;omega
  rw[e,ef,et,hto,hfr,if_neg (by simp),if_neg (by simp),if_neg (by simp)];unfold z2d;rw[z6 (by simp[fits];omega),hWi];refine f1 _ _ hz rR at_ le op ⟨hF,hla,hlo,λv hv g=>?_,λk hk g=>?_,?_,by push_cast;omega,h.at1,hat2⟩
  .rw[hmv v,hf2,ht2,if_neg (by omega),if_neg (by omega),h.lv v hv λj hj=>g j (by omega)];omega
  .rw[hmv (s.length+k),hf2,ht2,if_neg (by omega),if_neg (by omega),h.ov k hk λj hj=>g j (by omega)];omega
  .rw[hrs,e,if_neg yff];omega
end
end Px
end
section
namespace Px
open Go
def PrOK(n:zc)(l:List Int):Prop:=l.length=n.supply.length/\∀p∈l,-1125899906842624<=p/\p<=1125899906842624
structure AccP(φ:Nat)(p:Pool)(s:List za)(o:List zf)(x:Plan)(y:List Int):Prop where
 len:y.length =(netF φ p s o).arcs.length
 tr:x.transfers=trsI s o (netF φ p s o).arcs (atN y) (netF φ p s o).arcs.length
 feas :(nwOf (netF φ p s o)).Feas (atN (netF φ p s o).supply) (atN y)
 pr:PrOK (netF φ p s o) x.price
 tight :(nwOf (netF φ p s o)).Tight (atN y) (atN x.price)
 cost :(nwOf (netF φ p s o)).costS (atN y)=x.cost
theorem y3t{α:Type}[Inhabited α]{l m:List α}(h:l.length=m.length)(hv:∀j:Nat,j<l.length->gt l (j:Int)=gt m (j:Int)):l=m:=by
 refine List.ext_getElem h λj h1 h2=>?_
 rw[<- z4b h1,<- z4b h2];exact hv j h1
section
variable{φ:Nat}{p:Pool}{s:List za}{o:List zf}
theorem Val.cost_bd(h:Val φ p s o){y:Nat->Int}(hf :(nwOf (netF φ p s o)).Feas (atN (netF φ p s o).supply) y):0<=(nwOf (netF φ p s o)).costS y/\(nwOf (netF φ p s o)).costS y<=42000000000000:=by
 have hp:=y9p hf;have h1:=h.sumXC_bd hp;have h2:=zim (m:=o.length) (f:=λk=>zxk s o (XY s o (z8 s o (cF φ p s o) (bF φ p s o)) y (z8 s o (cF φ p s o) (bF φ p s o)).length) k*(gt o (k:Int)).weight) (B:=1000000000000) λk hk=>by have e1:=h.open_bd hp hk;have e2:=h.oc hk;refine⟨w2h e1.1 e2.2.1,?_⟩;have:=w47 e1.2 e2.2.2 e2.2.1 (by omega :(0:Int)<=1000);simpa using this
 have h3:=y9o hf;have ho:=h.ho;rw[show (nwOf (netF φ p s o)).costS y =(nwOf (netN s o (cF φ p s o) (bF φ p s o))).costS y from rfl,<- h3];unfold yi6;unfold ygc at h1;omega
theorem y8n(h:Val φ p s o)(x:Plan):∃e,z3b φ p s o x=some (e,())/\(e=0\/e=370)/\(e=0↔∃y,AccP φ p s o x y):=by
 have hφ:=h.hφ;unfold z3b;rw[h.net,w01,if_neg (by simp)];obtain⟨y,k,h1,h2⟩:=y9r h x.transfers;rw[h1,w01]
 -- where a plan is in order,fill gives its flow
 have back:∀z,AccP φ p s o x z->k=true/\y=z:=λz hz=>by obtain⟨x',g1,g2,g3⟩:=ye1 h hz.feas;rw[<- hz.tr,h1] at g1;simp only[w00,w0a] at g1;obtain⟨rfl,hk,_⟩:=g1;exact⟨hk,y3t (by rw[g2,hz.len]) λj hj=>g3 j (by rw[<- g2];exact hj)⟩
 cases hk:k with
 |false=>refine⟨370,by rw[gz_f (by simp),w01,if_pos (by simp)],.inr rfl,λe=>by omega,?_⟩;rintro⟨z,hz⟩;have:=(back z hz).1;rw[hk] at this;cases this
 |true=>
  obtain⟨q1,q2⟩:=h2 hk;rw[gz_t (by simp)];obtain⟨e,a1,a2⟩:=zlf φ (netF φ p s o) ⟨y,x.price⟩ h.chk (by omega);rw[a1,w01];by_cases he:e=0
  .rw[if_neg (by simp[he])];obtain⟨b1,b2,b3,b4⟩:=a2.1 he;obtain⟨c1,c2⟩:=(zcv h.fnet).1 b1;have hcb:=h.cost_bd (y:=atN y) c2;rw[zpf φ (netF φ p s o) ⟨y,x.price⟩ h.chk (by omega),b1,cond_true];rw[if_pos (show (nwOf (netF φ p s o)).costS (atN y)<=9007199254740992 by omega),w01];by_cases hc :(nwOf (netF φ p s o)).costS (atN y)=x.cost
   .refine⟨0,by rw[if_neg (by simp[hc])],.inl rfl,λ_=>⟨y,⟨q1,q2,c2,⟨b2,b3⟩,b4,hc⟩⟩,λ_=>rfl⟩
   .refine⟨370,by rw[if_pos (by simp[hc])],.inr rfl,λe=>by omega,?_⟩;rintro⟨z,hz⟩;obtain⟨_,rfl⟩:=back z hz;exact absurd hz.cost hc
  .rw[if_pos (by simp[he])];refine⟨370,rfl,.inr rfl,λe=>by omega,?_⟩;rintro⟨z,hz⟩;obtain⟨_,rfl⟩:=back z hz;exact absurd (a2.2 ⟨(zcv h.fnet).2 ⟨hz.len,hz.feas⟩,hz.pr.1,hz.pr.2,hz.tight⟩) he
theorem y71{e:Int}(h:z80 φ p s o=some (⟨[],[]⟩,e,()))(he:e≠0)(x:Plan):z3b φ p s o x=some (e,()):=by unfold z3b;rw[h,w01,if_pos (by simpa using he)]
end
theorem y8f(φ:Nat)(hφ:1000<φ)(p:Pool):∃b,z9c φ p=some (b,()):=by
 unfold z9c;split
 .exact⟨false,rfl⟩
 .rename_i hc;simp only[w0w,decide_eq_true_eq,not_or] at hc;obtain⟨⟨⟨⟨⟨⟨c1,c2⟩,c3⟩,c4⟩,c5⟩,c6⟩,c7⟩:=hc;refine z0a (λn i(_:Unit)=>z2t φ n i p) p.railways.length (λ_ _=>True) (λo=>∃b,o=some (b,())) ?_ ?_ φ () trivial (by omega)
  .intro n i _ hi _ hs;rw[z2t,if_pos (by simp;omega),z6 ⟨by omega,by omega⟩,W_id (by omega) (by omega)];split
   .exact⟨false,rfl⟩
   .exact hs () trivial
  .intro n _ _;rw[z2t,if_neg (by simp)];exact⟨true,rfl⟩
theorem ydz(φ:Nat)(hφ:1000<φ)(p:Pool)(s:List za)(o:List zf):∃b,zn1 φ p s o=some (b,())/\(b=true->s.length<=6/\o.length<=6):=by unfold zn1;obtain⟨b,hb⟩:=y8f φ hφ p;rw[hb,w01];refine⟨_,rfl,λh=>?_⟩;simp only[w03,decide_eq_true_eq] at h;omega
theorem ym6:zg7 100000000=some (true,()):=by kernel_rfl
theorem yb2{φ:Nat}(hφ:800000<φ)(hB:zln φ)(p:Pool){s:List za}{o:List zf}(hs:s.length<=6)(ho:o.length<=6):Val φ p s o\/∃e,e≠0/\z80 φ p s o=some (⟨[],[]⟩,e,()):=by
 have h:=y8s hφ hB p hs ho;by_cases hp:z62 p=0
 .rw[if_neg (λe=>e hp)] at h;cases ha:zxi p s o with
  |true=>exact .inl (yme hφ hB hp hs ho ha)
  |false=>rw[ha] at h;exact .inr ⟨1,by omega,h⟩
 .rw[if_pos hp] at h;exact .inr ⟨_,hp,h⟩
end Px
end
section
namespace Px
open Go
theorem z9d(φ:Nat)(a b c:Int):z4e φ a b c=some (bet a b c,()):=rfl
theorem zqg(φ:Nat)(n:zc)(s:Int)(hs:n.supply.length<=256)(ha:n.arcs.length<=2048)(m:Nat)(hm:n.arcs.length<m):
  z2p φ m s 0 n=bif n.arcs.all (zm1 n.supply.length) then(if(s:Int) !=0 then some (360,()) else some (0,())) else some (1,()):=by
 have hp:W ((n.supply.length:Int)-1) =(n.supply.length:Int)-1:=W_id (by omega) (by omega);have:=z32 (λm i(_:Unit)=>z2p φ m s i n) (λ_=>if(s:Int) !=0 then some (360,()) else some (0,())) (some (1,())) n.arcs (zm1 n.supply.length) (λu _=>u) (λ_ _=>True) ?_ ?_ m () trivial hm
 .exact this.1
 .intro m i u hi _;refine⟨?_,λ_=>trivial⟩;have hW:W ((i:Int)+1) =(i:Int)+1:=W_id (by omega) (by omega);rw[z2p,if_pos (by simp;omega),z6 ⟨by omega,by omega⟩,hp,hW];simp only[z9d,w01];generalize gt n.arcs (i:Int)=a;unfold zm1;cases h1:bet a.from_ 0 ((n.supply.length:Int)-1)<;>cases h2:bet a.to 0 ((n.supply.length:Int)-1)<;>cases h3 :(a.from_==a.to)<;>cases h4:bet a.cap 0 1000000000<;>cases h5:bet a.cost 0 1000000000<;>simp[zn,h1,h2,h3,h4,h5]
 .intro m u _;rw[z2p,if_neg (by simp)]
theorem zll(φ:Nat)(n:zc)(hφ:5000<φ):ze7 φ n=some (zq0 n,()):=by
 unfold ze7 zq0;by_cases hl:256<n.supply.length\/2048<n.arcs.length
 .have e :(decide (256<n.supply.length)||decide (2048<n.arcs.length))=true:=by simpa using hl
  rw[if_pos (by simp;omega),e];rfl
 .have e :(decide (256<n.supply.length)||decide (2048<n.arcs.length))=false:=by simpa using hl
  rw[if_neg (by simp;omega),e];have hs:n.supply.length<=256:=by omega
  have ha:n.arcs.length<=2048:=by omega
  have:=z32 (λm i s=>z61 φ m s i n) (λs=>z2p φ φ s 0 n) (some (1,())) n.supply zso (λs x=>s+x)
   (λi s=>-(1000000000*(i:Int))<=s/\s<=1000000000*(i:Int)) ?_ ?_ φ 0 ⟨by simp,by simp⟩ (by omega)
  .rw[this.1];simp only[cond_false];cases hall:n.supply.all zso with
   |false=>rfl
   |true=>
    simp only[cond_true];rw[zqg φ n _ hs ha φ (by omega)];show _=some ((bif n.arcs.all (zm1 n.supply.length) then(bif sumL n.supply !=0 then 360 else 0) else 1),());unfold sumL;cases n.arcs.all (zm1 n.supply.length) with
    |false=>rfl
    |true=>simp only[cond_true];cases h :(n.supply.foldl (λs x=>s+x) 0 !=0)<;>simp
  .intro m i s hi hI;have hW:W ((i:Int)+1) =(i:Int)+1:=W_id (by omega) (by omega);rw[z61,if_pos (by simp;omega),z6 ⟨by omega,by omega⟩,hW,z6 ⟨by omega,by omega⟩];simp only[z9d,w01];generalize gt n.supply (i:Int)=x;unfold zso;cases hb:bet x (-1000000000) 1000000000 with
   |false=>exact⟨by simp,λh=>by cases h⟩
   |true=>obtain⟨b1,b2⟩:=zgj hb;have hx:W (s+x)=s+x:=W_id (by omega) (by omega);refine⟨by simp[hx],λ_=>⟨by push_cast;omega,by push_cast;omega⟩⟩
  .intro m s _;rw[z61,if_neg (by simp)]
theorem y84(φ:Nat)(l:List Int)(hl:l.length<=256)(m:Nat)(hm:l.length<m):z0v φ m 0 l=some (l.all (·==0),()):=by
 have:=z32 (λm i(_:Unit)=>z0v φ m i l) (λ_=>some (true,())) (some (false,())) l (·==0) (λu _=>u) (λ_ _=>True) ?_ ?_ m () trivial hm
 .rw[this.1];cases l.all (·==0)<;>rfl
 .intro m i u hi _;refine⟨?_,λ_=>trivial⟩;have hW:W ((i:Int)+1) =(i:Int)+1:=W_id (by omega) (by omega);rw[z0v,if_pos (by simp;omega),z6 ⟨by omega,by omega⟩,hW];cases h :(gt l (i:Int)==0) with
  |true=>rw[if_neg (by simpa using h)];rfl
  |false=>rw[if_pos (by simpa using h)];rfl
 .intro m u _;rw[z0v,if_neg (by simp)]
theorem zg9(φ:Nat)(n:zc)(f:Flow)(h:zld n)(hφ:5000<φ):z7n φ n f=some (zo7 n f,()):=by
 have hk:=h.k;have hm:=h.m;unfold z7n zo7;by_cases hl:f.x.length=n.arcs.length
 .rw[if_neg (by simp[hl]),decide_eq_true hl,w1r,z6 (by simp[fits];omega),w33];have:=z32 (λm i left=>z25 φ m i n f left) (λleft=>z0v φ φ 0 left) (some (false,())) (List.range n.arcs.length) (okX n f.x) (zqm n f.x) (zzi n f.x) ?_ ?_ φ n.supply ⟨rfl,λv hv=>by simp[outP,inP,sumN],λj hj=>by omega⟩ (by simp;omega)
  .obtain⟨e1,e2⟩:=this;rw[e1];cases hall :(List.range n.arcs.length).all (okX n f.x) with
   |false=>rfl
   |true=>have hlen:=(e2 hall).len;simp only[cond_true,w1r];exact y84 φ _ (by rw[hlen];exact hk) φ (by rw[hlen];omega)
  .intro m i left hi hI;have hi:i<n.arcs.length:=by simpa using hi
   rw[zqu hi];refine⟨?_,λhok=>hI.step h hi hok⟩;obtain⟨a1,a2,a3,a4,a5,_⟩:=h.arc i hi;have hW:W ((i:Int)+1) =(i:Int)+1:=W_id (by omega) (by omega);have hle:=hI.len;have b1:=hI.bound h (by omega) (v:=(gt n.arcs (i:Int)).from_.toNat) (by omega);have b2:=hI.bound h (by omega) (v:=(gt n.arcs (i:Int)).to.toNat) (by omega);rw[z25,if_pos (by simp;omega),z6 ⟨by omega,by omega⟩,z6 ⟨by omega,by omega⟩,z9d,w01];show _=bif bet (gt f.x (i:Int)) 0 (gt n.arcs (i:Int)).cap then _ else _;cases hb:bet (gt f.x (i:Int)) 0 (gt n.arcs (i:Int)).cap with
   |false=>rfl
   |true=>
    have hx:=zgj hb;have hcap:=(h.arc i hi).2.2.2.2.2.2.1;unfold atN at b1 b2;rw[w27 a1] at b1;rw[w27 a3] at b2;have w1:W (gt left (gt n.arcs (i:Int)).from_-gt f.x (i:Int))=gt left (gt n.arcs (i:Int)).from_-gt f.x (i:Int):=W_id (by omega) (by omega);have e3:gt (zl left (gt n.arcs (i:Int)).from_ (gt left (gt n.arcs (i:Int)).from_-gt f.x (i:Int))) (gt n.arcs (i:Int)).to=gt left (gt n.arcs (i:Int)).to:=by rw[zx _ _ _ _ a1 (by rw[hle];exact a2) a3,if_neg (λe=>a5 e.symm)]
    have w2:W (gt left (gt n.arcs (i:Int)).to+gt f.x (i:Int))=gt left (gt n.arcs (i:Int)).to+gt f.x (i:Int):=W_id (by omega) (by omega);simp only[w1i,w0n,if_false,cond_true];rw[z6 ⟨a1,by rw[hle];exact a2⟩,z6 ⟨by omega,by omega⟩,z6 ⟨a1,by rw[hle];exact a2⟩,w1,z6 ⟨a3,by rw[z02,hle];exact a4⟩,z6 ⟨by omega,by omega⟩,z6 ⟨a3,by rw[z02,hle];exact a4⟩,hW,e3,w2];show _=z25 φ m ((i:Int)+1) n f (zqm n f.x left i);unfold zqm atN;rw[e3]
  .intro m left hI;have :((List.range n.arcs.length).length:Int) =(n.arcs.length:Int):=by simp
   rw[this,z25,if_neg (by simp)]
 .rw[if_pos (by simpa using λe=>hl (by omega)),decide_eq_false hl];rfl
theorem zyo(φ:Nat)(n:zc)(f:Flow)(h:zld n)(hx:f.x.length=n.arcs.length)(hp:f.price.length=n.supply.length)(hb:f.price.all (λp=>bet p (-1125899906842624) 1125899906842624)=true)(m:Nat)(hm:n.arcs.length<m):
  z2q φ m 0 n f=some ((List.range n.arcs.length).all (okRc n f),()):=by
 have hma:=h.m;have:=z32 (λm i(_:Unit)=>z2q φ m i n f) (λ_=>some (true,())) (some (false,())) (List.range n.arcs.length) (okRc n f) (λu _=>u) (λ_ _=>True) ?_ ?_ m () trivial (by simpa using hm)
 .rw[this.1];cases (List.range n.arcs.length).all (okRc n f)<;>rfl
 .intro m i u hi _;have hi:i<n.arcs.length:=by simpa using hi
  refine⟨?_,λ_=>trivial⟩;rw[zqu hi];obtain⟨a1,a2,a3,a4,a5,c1,c2,d1,d2⟩:=h.arc i hi;have hW:W ((i:Int)+1) =(i:Int)+1:=W_id (by omega) (by omega);have p1:=zgj (w06.1 hb _ (z7k (i:=(gt n.arcs (i:Int)).from_) a1 (by rw[hp];exact a2)));have p2:=zgj (w06.1 hb _ (z7k (i:=(gt n.arcs (i:Int)).to) a3 (by rw[hp];exact a4)));have w1:W ((gt n.arcs (i:Int)).cost+gt f.price (gt n.arcs (i:Int)).from_) =(gt n.arcs (i:Int)).cost+gt f.price (gt n.arcs (i:Int)).from_:=W_id (by omega) (by omega);have w2:W ((gt n.arcs (i:Int)).cost+gt f.price (gt n.arcs (i:Int)).from_-gt f.price (gt n.arcs (i:Int)).to) =(gt n.arcs (i:Int)).cost+gt f.price (gt n.arcs (i:Int)).from_-gt f.price (gt n.arcs (i:Int)).to:=W_id (by omega) (by omega);have e1 :(nwOf n).rc (atN f.price) i =(gt n.arcs (i:Int)).cost+gt f.price (gt n.arcs (i:Int)).from_-gt f.price (gt n.arcs (i:Int)).to:=by show (gt n.arcs (i:Int)).cost+gt f.price (((gt n.arcs (i:Int)).from_.toNat:Nat):Int)-gt f.price (((gt n.arcs (i:Int)).to.toNat:Nat):Int)=_;rw[w27 a1,w27 a3]
  have e2 :(nwOf n).cap i =(gt n.arcs (i:Int)).cap:=rfl;rw[z2q,if_pos (by simp;omega),z6 ⟨by omega,by omega⟩,z6 ⟨a1,by omega⟩,z6 ⟨a3,by omega⟩,z6 ⟨by omega,by omega⟩,z6 (λ_=>⟨by omega,by omega⟩),hW,w1,w2];unfold okRc;rw[e1,e2];unfold atN;generalize (gt n.arcs (i:Int)).cost+gt f.price (gt n.arcs (i:Int)).from_-gt f.price (gt n.arcs (i:Int)).to=q;cases hq :(decide (gt f.x (i:Int)<(gt n.arcs (i:Int)).cap)&&decide (q<0)||decide (0<gt f.x (i:Int))&&decide (0<q))<;>simp
 .intro m u _;have :((List.range n.arcs.length).length:Int) =(n.arcs.length:Int):=by simp
  rw[this,z2q,if_neg (by simp)]
theorem zt3(φ:Nat)(n:zc)(f:Flow)(hc:zq0 n=0)(hφ:5000<φ):
  ∃e,zet φ n f=some (e,())/\(e=0↔zo7 n f=true/\f.price.length=n.supply.length/\(∀p∈f.price,-1125899906842624<=p/\p<=1125899906842624)/\(nwOf n).Tight (atN f.x) (atN f.price)):=by
 have h:=zjl hc;have hk:=h.k;have hm:=h.m;unfold zet zm4;rw[zll φ n hφ,hc,w01,if_neg (by simp),zg9 φ n f h hφ,w01];cases hf:zo7 n f with
 |false=>exact⟨360,rfl,by simp⟩
 |true=>
  simp only[w1i,w0n,if_false];by_cases hp:f.price.length=n.supply.length
  .rw[if_neg (by simp[hp])];have hprices:=z32 (λm i(_:Unit)=>z4r φ m i n f) (λ_=>z2q φ φ 0 n f) (some (false,())) f.price (λp=>bet p (-1125899906842624) 1125899906842624) (λu _=>u) (λ_ _=>True) (λm i u hi _=>by refine⟨?_,λ_=>trivial⟩;have hW:W ((i:Int)+1) =(i:Int)+1:=W_id (by omega) (by omega);rw[z4r,if_pos (by simp;omega),z6 ⟨by omega,by omega⟩,hW,z9d,w01];cases bet (gt f.price (i:Int)) (-1125899906842624) 1125899906842624<;>simp) (λm u _=>by rw[z4r,if_neg (by simp)]) φ () trivial (by omega);have hprices:=hprices.1;have hprices:z4r φ φ 0 n f=_:=hprices;rw[hprices];cases hb:f.price.all (λp=>bet p (-1125899906842624) 1125899906842624) with
   |false=>
    refine⟨361,rfl,⟨(λe=>by cases e),λq=>?_⟩⟩;have q:=q.2;have:f.price.all (λp=>bet p (-1125899906842624) 1125899906842624)=true:=w06.2 λp hp=>z33.2 (q.2.1 p hp)
    rw[hb] at this;cases this
   |true=>
    simp only[cond_true];obtain⟨hl,_⟩:=(zcv h).1 hf;rw[zyo φ n f h hl hp hb φ (by omega),w01];have hpb:∀p∈f.price,-1125899906842624<=p/\p<=1125899906842624:=λp hp=>zgj (w06.1 hb p hp)
    cases hr :(List.range n.arcs.length).all (okRc n f) with
    |false=>refine⟨361,rfl,⟨(λe=>by cases e),λq=>?_⟩⟩;rw[zr0.2 q.2.2.2] at hr;cases hr
    |true=>exact⟨0,rfl,⟨λ_=>⟨trivial,hp,hpb,zr0.1 hr⟩,λ_=>rfl⟩⟩
  .rw[if_pos (by simp;omega),w01];exact⟨361,rfl,⟨(λe=>by cases e),λq=>absurd q.2.1 hp⟩⟩
theorem zyk(φ:Nat)(n:zc)(f:Flow)(hc:zq0 n=0)(hφ:5000<φ)(hf:zo7 n f=true)(hle :(nwOf n).costS (atN f.x)<=9007199254740992):zl3 φ n f=some ((nwOf n).costS (atN f.x),0,()):=by
 have h:=zjl hc;have hm:=h.m;unfold zl3;rw[zll φ n hφ,hc,w01,if_neg (by simp),zg9 φ n f h hφ,w01,hf];obtain⟨hl,hF⟩:=(zcv h).1 hf;simp only[w1i,w0n,if_false];have hb:∀i,i<n.arcs.length->(0<=atN f.x i/\atN f.x i<=1000000000)/\(0<=(nwOf n).cost i/\(nwOf n).cost i<=1000000000):=λi hi=>by have h1:=hF.bnd i hi;have h2:=h.arc i hi;have h3 :(nwOf n).cap i =(gt n.arcs (i:Int)).cap:=rfl;have h4 :(nwOf n).cost i =(gt n.arcs (i:Int)).cost:=rfl;rw[h3] at h1;rw[h4];exact⟨⟨h1.1,by omega⟩,h2.2.2.2.2.2.2.2⟩
 have hpos:∀i,i<n.arcs.length->0<=atN f.x i*(nwOf n).cost i:=λi hi=>(zkv (hb i hi).1 (hb i hi).2).1
 have e2 :(nwOf n).costS (atN f.x)=sumN n.arcs.length (λj=>atN f.x j*(nwOf n).cost j):=rfl;refine z0a (λm i c=>z4d φ m c i n f) n.arcs.length (λi c=>c=sumN i (λj=>atN f.x j*(nwOf n).cost j)) (λo=>o=some ((nwOf n).costS (atN f.x),0,())) ?_ ?_ φ 0 rfl (by omega)
 .rintro m i c hi hcs hs;have hW:W ((i:Int)+1) =(i:Int)+1:=W_id (by omega) (by omega);have hc0:0<=c:=by rw[hcs];exact zeb λj hj=>hpos j (by omega)
  have hx:=zkv (hb i hi).1 (hb i hi).2;have e1:gt f.x (i:Int)*(gt n.arcs (i:Int)).cost=atN f.x i*(nwOf n).cost i:=rfl;have hsucc:sumN (i+1) (λj=>atN f.x j*(nwOf n).cost j)=c+atN f.x i*(nwOf n).cost i:=by rw[hcs];rfl
  have hmono:=zno (f:=λj=>atN f.x j*(nwOf n).cost j) (m:=n.arcs.length) (i:=i+1) (by omega) hpos;rw[hsucc] at hmono;have w2:W (gt f.x (i:Int)*(gt n.arcs (i:Int)).cost)=atN f.x i*(nwOf n).cost i:=by rw[e1];exact W_id (by omega) (by omega)
  have w3:W (c+atN f.x i*(nwOf n).cost i)=c+atN f.x i*(nwOf n).cost i:=W_id (by omega) (by omega);show z4d φ (m+1) c (i:Int) n f=_;rw[z4d,if_pos (by simp;omega),z6 ⟨by omega,by omega⟩,z6 ⟨by omega,by omega⟩,w2,w3,hW,if_neg (by simp only[w0w,decide_eq_true_eq];omega)];exact hs _ hsucc.symm
 .rintro m c hcs;show z4d φ (m+1) c (n.arcs.length:Int) n f=_;rw[z4d,if_neg (by simp),e2,<- hcs]
section
variable{φ:Nat}{p:Pool}{s:List za}{o:List zf}
theorem y9w(h:Val φ p s o){pl:Plan}(htl:pl.transfers.length<=1000):∀(d n n' i:Nat)(x:List Int)(l:List z7)(rest:List Int)(rR:Int)(at_:Nat)(le op:List Int),(z8 s o (cF φ p s o) (bF φ p s o)).length-i=d->i<=(z8 s o (cF φ p s o) (bF φ p s o)).length->d<n->d<n'->FR s o (cF φ p s o) (bF φ p s o) pl.transfers i x l rest rR at_ le op->
  z0n φ n s o rR (at_:Int) (nodU s o) (i:Int) (netF φ p s o) pl le op x=zp φ n' s l (nodU s o) (z8 s o (cF φ p s o) (bF φ p s o)) ((z8 s o (cF φ p s o) (bF φ p s o)).length:Int) (i:Int) x rest:=by
 intro d
 induction d with
 |zero=>
  intro n n' i x l rest rR at_ le op hd hi hn hn' hF;obtain⟨n,rfl⟩:∃m,n=m+1:=⟨n-1,by omega⟩;obtain⟨n',rfl⟩:∃m,n'=m+1:=⟨n'-1,by omega⟩;have:i =(z8 s o (cF φ p s o) (bF φ p s o)).length:=by omega
  subst this;rw[zrl (l0:=pl.transfers) n'];have eA :(netF φ p s o).arcs=z8 s o (cF φ p s o) (bF φ p s o):=rfl;rw[z0n,eA,if_neg (by simp)];have h1:=congrArg List.length hF.at1;rw[w3d] at h1;have h2:=hF.at2;have :((at_:Int)==(pl.transfers.length:Int)) =((l.length:Int)==0):=by rw[w2j,beq_iff_eq,beq_iff_eq];omega
  rw[this]
 |succ d ih=>
  intro n n' i x l rest rR at_ le op hd hi hn hn' hF;obtain⟨n,rfl⟩:∃m,n=m+1:=⟨n-1,by omega⟩;obtain⟨n',rfl⟩:∃m,n'=m+1:=⟨n'-1,by omega⟩;rw[zrm h.hs h.ho hF.fi (by omega) n'];refine y3g h.hs h.ho (λk hk=>(h.oc hk).1) htl hF (by omega) n (λr=>r=_) (λhz=>?_) (λz l' hz rR' at' le' op' hF'=>?_)
  .rw[hz]
  .rw[hz];exact ih n n' (i+1) _ _ _ _ _ _ _ (by omega) (by omega) (by omega) (by omega) hF'
theorem y8q(h:Val φ p s o){pl:Plan}(htl:pl.transfers.length<=1000):zl4 φ (netF φ p s o) s o pl=z6g φ (netF φ p s o) s o pl.transfers:=by
 have hφ8:=h.hφ;have hol6:=h.ho;have hsl6:=h.hs;have hal:=zau s o (cF φ p s o) (bF φ p s o) h.hs h.ho;rw[y3c h];unfold zl4;refine z0a (λm i le=>z3e φ m s o i (netF φ p s o) pl le) s.length (λi le=>le.length=i/\∀j:Nat,j<i->gt le (j:Int) =(gt s (j:Int)).count) (λr=>r=zp φ φ s pl.transfers (nodU s o) (z8 s o (cF φ p s o) (bF φ p s o)) ((z8 s o (cF φ p s o) (bF φ p s o)).length:Int) 0 [] (supN s o)) ?_ ?_ φ [] ⟨rfl,λj hj=>by omega⟩ (by omega)
 .rintro m i le hi ⟨h1,h2⟩ hs;have hW:W ((i:Int)+1) =(i:Int)+1:=W_id (by omega) (by omega);show z3e φ (m+1) s o (i:Int) (netF φ p s o) pl le=_;rw[z3e,if_pos (by simp;omega),z6 ⟨by omega,by omega⟩,z6 (by simp[fits];omega),hW];refine hs _ ⟨by simp[h1],λj hj=>?_⟩;by_cases e:j<i
  .rw[z9u _ _ _ (by omega) (by omega)];exact h2 j e
  .rw[z83 _ _ _ (by omega),show (j:Int)-(le.length:Int)=0 by omega,show j=i by omega];rfl
 .rintro m le ⟨h1,h2⟩;show z3e φ (m+1) s o (s.length:Int) (netF φ p s o) pl le=_;rw[z3e,if_neg (by simp)];refine z0a (λm i op=>z3f φ m s o 0 i (netF φ p s o) pl le op) o.length (λi op=>op.length=i/\∀j:Nat,j<i->gt op (j:Int) =(gt o (j:Int)).count) (λr=>r=zp φ φ s pl.transfers (nodU s o) (z8 s o (cF φ p s o) (bF φ p s o)) ((z8 s o (cF φ p s o) (bF φ p s o)).length:Int) 0 [] (supN s o)) ?_ ?_ φ [] ⟨rfl,λj hj=>by omega⟩ (by omega)
  .rintro m i op hi ⟨h3,h4⟩ hs;have hW:W ((i:Int)+1) =(i:Int)+1:=W_id (by omega) (by omega);show z3f φ (m+1) s o 0 (i:Int) (netF φ p s o) pl le op=_;rw[z3f,if_pos (by simp;omega),z6 ⟨by omega,by omega⟩,z6 (by simp[fits];omega),hW];refine hs _ ⟨by simp[h3],λj hj=>?_⟩;by_cases e:j<i
   .rw[z9u _ _ _ (by omega) (by omega)];exact h4 j e
   .rw[z83 _ _ _ (by omega),show (j:Int)-(op.length:Int)=0 by omega,show j=i by omega];rfl
  .rintro m op ⟨h3,h4⟩;show z3f φ (m+1) s o 0 (o.length:Int) (netF φ p s o) pl le op=_;rw[z3f,if_neg (by simp),W_id (x:=(s.length:Int)+(o.length:Int)) (by omega) (by omega)];refine y9w h htl _ φ φ 0 [] pl.transfers (supN s o) 0 0 le op rfl (by omega) (by omega) (by omega) ⟨zo8 h pl.transfers,h1,h3,λv hv _=>by rw[h2 v hv,y2j hv],λk hk _=>by rw[h4 k hk,y2i hk];omega,rfl,by simp,by simp,by omega⟩
theorem zt7(h:Val φ p s o)(hR:y4r φ){x:Plan}(htl:x.transfers.length<=1000):zaz φ p s o x=z3b φ p s o x:=by
 have hφ:=h.hφ;unfold zaz z3b;have hn:zga φ p s o=some (netF φ p s o,0,()):=by rw[zzj h.hφ h.hB hR p h.hs h.ho,if_neg (λe=>e h.hp),h.all];rfl
 rw[hn,h.net,w01,w01,if_neg (by simp),if_neg (by simp),y8q h htl];obtain⟨y,k,h1,h2⟩:=y9r h x.transfers;rw[h1,w01,w01];cases hk:k with
 |false=>rw[gz_f (by simp),gz_f (by simp),w01,w01,if_pos (by simp),if_pos (by simp)]
 |true=>
  rw[gz_t (by simp),gz_t (by simp)];obtain⟨e,a1,a2⟩:=zlf φ (netF φ p s o) ⟨y,x.price⟩ h.chk (by omega);obtain⟨e',b1,b2⟩:=zt3 φ (netF φ p s o) ⟨y,x.price⟩ h.chk (by omega);rw[a1,b1,w01,w01];by_cases he:e=0
  .have hc:=a2.1 he;have he':e'=0:=b2.2 hc;obtain⟨c1,c2⟩:=(zcv h.fnet).1 hc.1;have hcb:=h.cost_bd (y:=atN y) c2;have hle :(nwOf (netF φ p s o)).costS (atN (⟨y,x.price⟩:Flow).x)<=9007199254740992:=by show (nwOf (netF φ p s o)).costS (atN y)<=9007199254740992;omega
   rw[if_neg (by simp[he']),if_neg (by simp[he]),zyk φ _ _ h.chk (by omega) hc.1 hle,zpf φ _ _ h.chk (by omega),hc.1,cond_true,if_pos hle,w01,w01];simp
  .have he':e'≠0:=λq=>he (a2.2 (b2.1 q))
   rw[if_pos (by simp[he']),if_pos (by simp[he])]
end
theorem ztl{φ:Nat}(hφ:60000000<φ)(hB:zln φ)(hR:y4r φ)(hsane:zg7 φ=some (true,()))(p:Pool)(s:List za)(o:List zf)(x:Plan):z04 φ p s o x=some (true,()):=by
 unfold z04;obtain⟨b,h1,h2⟩:=ydz φ (by omega) p s o;rw[hsane,w01,if_neg (by simp),h1,w01];by_cases hc :(((!b)||(decide ((100:Int)<(x.transfers.length:Int))))||(decide ((300:Int)<(x.price.length:Int))))=true
 .rw[if_pos hc]
 .rw[if_neg hc];simp only[w0w,w0p,decide_eq_true_eq,not_or,Bool.not_eq_false] at hc;obtain⟨⟨c1,c2⟩,c3⟩:=hc;obtain⟨hs,ho⟩:=h2 c1;rcases yb2 (by omega) hB p hs ho with hv|⟨e,he,hn⟩
  .obtain⟨e,a1,a2,a3⟩:=y8n hv x;rw[zt7 hv hR (by omega),a1,w01,w01];simp
  .have hr:zga φ p s o=some (⟨[],[]⟩,e,()):=by rw[zzj (by omega) hB hR p hs ho,<- y8s (by omega) hB p hs ho];exact hn
   rw[y71 hn he,w01];unfold zaz;rw[hr,w01,if_pos (by simpa using he),w01];simp
end Px
end
section
namespace Px
open Go
theorem ygv{n b:Nat}(h:n<=100000)(hb:b<=1000):fits n b:=by unfold fits;have:n*b<=100000*1000:=Nat.mul_le_mul h hb;omega
abbrev Ln:=List ((Nat->Int)×Int)
abbrev keyP(a b:Int):Nat->Int:=upd (upd (λ_=>(default:Int)) 0 a) 1 b
abbrev lget(m:Ln)(a b:Int):Option Int:=cget z63 m (keyP a b)
abbrev lset(m:Ln)(a b i:Int):Ln:=cset z63 m (keyP a b) i
theorem kl32(f:Nat->Int):z63 f = [f 0,f 1]:=rfl
theorem yj2(a b c d:Int):(z63 (keyP c d)==z63 (keyP a b)) =(c==a&&d==b):=by rw[kl32,kl32];show ([c,d]==[a,b])=_;simp
theorem zmg{κ ν:Type}(e:κ->List Int)(k k':κ)(v:ν):∀m:List (κ×ν),cget e (cset e m k v) k'=bif e k'==e k then some v else cget e m k'
 | []=>rfl
 |(a,b)::m=>by
  unfold cset;cases h1 :(e k==e a) with
  |true=>have h1:=beq_iff_eq.1 h1;rw[cond_true];show (bif e k'==e k then some v else cget e m k')=bif e k'==e k then some v else(bif e k'==e a then some b else cget e m k');rw[h1];cases (e k'==e a)<;>rfl
  |false=>
   rw[cond_false];cases h2:ltI (e k) (e a) with
   |true=>rfl
   |false=>
    rw[cond_false];show (bif e k'==e a then some b else cget e (cset e m k v) k')=bif e k'==e k then some v else(bif e k'==e a then some b else cget e m k');rw[zmg e k k' v m];cases h3 :(e k'==e a) with
    |false=>rfl
    |true=>
     have h3:=beq_iff_eq.1 h3;rw[h3];have :(e a==e k)=false:=by rw[<- w2d,beq_iff_eq];intro g;rw[g] at h1;simp at h1
     rw[this];rfl
theorem zn2(m:Ln)(a b i c d:Int):lget (lset m a b i) c d=if c=a/\d=b then some i else lget m c d:=by
 show cget z63 (cset z63 m (keyP a b) i) (keyP c d)=_;rw[zmg,yj2];by_cases h:c=a/\d=b
 .rw[if_pos h];simp[h]
 .rw[if_neg h];have :(c==a&&d==b)=false:=by rw[<- w2d];simpa using h
  rw[this];rfl
theorem yez{b:Bool}(h:¬(!b)=true):b=true:=by cases b<;>simp_all
def ent1(es:List Edge)(i a b:Int)(s:List (List Int)×Ln):List (List Int)×Ln:=
 (if(!(lget s.2 a b).isSome)=true then zl s.1 a (gt s.1 a++[b]) else s.1,
  if(!(lget s.2 a b).isSome||decide ((gt es i).minutes<(gt es ((lget s.2 a b).getD default)).minutes))=true then lset s.2 a b i else s.2)
def entE(es:List Edge)(i:Int)(s:List (List Int)×Ln):List (List Int)×Ln:=ent1 es i (gt es i).b (gt es i).a (ent1 es i (gt es i).a (gt es i).b s)
structure GI(es:List Edge)(P k:Nat)(s:List (List Int)×Ln):Prop where
 len:s.1.length=P
 near:∀a b:Int,0<=a->a<(P:Int)->(b∈gt s.1 a↔(lget s.2 a b).isSome=true)
 line:∀a b i:Int,lget s.2 a b=some i->0<=i/\i<(k:Int)/\(((gt es i).a=a/\(gt es i).b=b)\/((gt es i).a=b/\(gt es i).b=a))
 size:∀a:Int,0<=a->a<(P:Int)->(gt s.1 a).length<=2*k
structure HI(es:List Edge)(P k:Nat)(s:List (List Int)×Ln):Prop extends GI es P k s where
 sym:∀a b:Int,lget s.2 a b=lget s.2 b a
theorem ye8(es:List Edge)(P:Nat):HI es P 0 (List.replicate P (default:List Int),[]) where
 len:=by simp
 near:=λa b h0 h1=>by rw[zem _ _ _ h0 (by omega)];show b∈([]:List Int)↔_;simp[lget,cget]
 line:=λa b i h=>by simp[lget,cget] at h
 size:=λa h0 h1=>by rw[zem _ _ _ h0 (by omega)];simp;rfl
 sym:=λa b=>rfl
theorem yie{es:List Edge}{P k:Nat}{s:List (List Int)×Ln}(h:GI es P k s){a b:Int}(ha:0<=a)(ha':a<(P:Int))(he :((gt es (k:Int)).a=a/\(gt es (k:Int)).b=b)\/((gt es (k:Int)).a=b/\(gt es (k:Int)).b=a)):
  (ent1 es k a b s).1.length=P/\(∀c d:Int,0<=c->c<(P:Int)->(d∈gt (ent1 es k a b s).1 c↔(lget (ent1 es k a b s).2 c d).isSome=true))/\
  (∀c d i:Int,lget (ent1 es k a b s).2 c d=some i->0<=i/\i<((k+1:Nat):Int)/\(((gt es i).a=c/\(gt es i).b=d)\/((gt es i).a=d/\(gt es i).b=c)))/\
  (∀c:Int,0<=c->c<(P:Int)->(gt (ent1 es k a b s).1 c).length<=(gt s.1 c).length+1)/\
  (∀c d:Int,¬(c=a/\d=b)->lget (ent1 es k a b s).2 c d=lget s.2 c d)/\
  lget (ent1 es k a b s).2 a b =(if(!(lget s.2 a b).isSome||decide ((gt es (k:Int)).minutes<(gt es ((lget s.2 a b).getD default)).minutes))=true then some (k:Int) else lget s.2 a b):=by
 have hl2:∀c d:Int,lget (ent1 es k a b s).2 c d=if(c=a/\d=b) then(if(!(lget s.2 a b).isSome||decide ((gt es (k:Int)).minutes<(gt es ((lget s.2 a b).getD default)).minutes))=true then some (k:Int) else lget s.2 a b) else lget s.2 c d:=by
  intro c d;unfold ent1;simp only[];split
  .rw[zn2]
  .split
   .rename_i q;rw[q.1,q.2]
   .rfl
 have hsm :(lget (ent1 es k a b s).2 a b).isSome=true:=by
  rw[hl2,if_pos ⟨rfl,rfl⟩];split
  .rfl
  .rename_i q;simp only[w0w,not_or] at q;exact yez q.1
 refine⟨?_,?_,?_,?_,λc d hcd=>by rw[hl2,if_neg hcd],by rw[hl2,if_pos ⟨rfl,rfl⟩]⟩
 .unfold ent1;simp only[];split
  .rw[z02];exact h.len
  .exact h.len
 .intro c d hc hc';by_cases hcd:c=a/\d=b
  .obtain⟨rfl,rfl⟩:=hcd;rw[hsm];refine⟨λ_=>rfl,λ_=>?_⟩;unfold ent1;simp only[];split
   .rw[zx _ _ _ _ hc (by rw[h.len];exact hc') hc,if_pos rfl];simp
   .rename_i q;exact(h.near c d hc hc').2 (yez q)
  .rw[hl2,if_neg hcd,<- h.near c d hc hc'];unfold ent1;simp only[];split
   .rw[zx _ _ _ _ ha (by rw[h.len];exact ha') hc];by_cases e:c=a
    .subst e;rw[if_pos rfl];simp only[w0q,w0i];exact⟨λq=>q.resolve_right (λe=>hcd ⟨rfl,e⟩),.inl⟩
    .rw[if_neg e]
   .exact Iff.rfl
 .intro c d i hi;rw[hl2] at hi;split at hi
  .rename_i q;obtain⟨rfl,rfl⟩:=q;split at hi
   .have:=w0d hi
    subst this;exact⟨by omega,by omega,he⟩
   .obtain⟨h1,h2,h3⟩:=h.line _ _ _ hi;exact⟨h1,by omega,h3⟩
  .obtain⟨h1,h2,h3⟩:=h.line _ _ _ hi;exact⟨h1,by omega,h3⟩
 .intro c hc hc';unfold ent1;simp only[];split
  .rw[zx _ _ _ _ ha (by rw[h.len];exact ha') hc];split
   .rename_i e;subst e;simp
   .omega
  .omega
theorem yif{es:List Edge}{P k:Nat}{s:List (List Int)×Ln}(h:HI es P k s)(ha:0<=(gt es (k:Int)).a)(ha' :(gt es (k:Int)).a<(P:Int))(hb:0<=(gt es (k:Int)).b)(hb' :(gt es (k:Int)).b<(P:Int))(hne :(gt es (k:Int)).a≠(gt es (k:Int)).b):
  HI es P (k+1) (entE es k s):=by
 obtain⟨a1,a2,a3,a4,a5,a6⟩:=yie h.toGI ha ha' (.inl ⟨rfl,rfl⟩);unfold entE;generalize hs1:ent1 es k (gt es (k:Int)).a (gt es (k:Int)).b s=s1 at *;generalize (gt es (k:Int)).a=a at *;generalize (gt es (k:Int)).b=b at *
 -- the second end,by the same law: only the bound on the numbers has moved
 have hl2:∀c d:Int,lget (ent1 es k b a s1).2 c d=if(c=b/\d=a) then(if(!(lget s1.2 b a).isSome||decide ((gt es (k:Int)).minutes<(gt es ((lget s1.2 b a).getD default)).minutes))=true then some (k:Int) else lget s1.2 b a) else lget s1.2 c d:=by
  intro c d;unfold ent1;simp only[];split
  .rw[zn2]
  .split
   .rename_i q;rw[q.1,q.2]
   .rfl
 have hba:lget s1.2 b a=lget s.2 a b:=by rw[a5 b a (λq=>hne q.2),h.sym]
 have hsm :(lget (ent1 es k b a s1).2 b a).isSome=true:=by
  rw[hl2,if_pos ⟨rfl,rfl⟩];split
  .rfl
  .rename_i q;simp only[w0w,not_or] at q;exact yez q.1
 have hlab:lget (ent1 es k b a s1).2 a b=lget s1.2 a b:=by rw[hl2,if_neg (λq=>hne q.1)]
 have hlba:lget (ent1 es k b a s1).2 b a=lget s1.2 a b:=by rw[hl2,if_pos ⟨rfl,rfl⟩,hba,a6]
 have hab :((gt es (k:Int)).a=a/\(gt es (k:Int)).b=b)\/((gt es (k:Int)).a=b/\(gt es (k:Int)).b=a)->True:=λ_=>trivial
 refine⟨⟨?_,?_,?_,?_⟩,?_⟩
 .unfold ent1;simp only[];split
  .rw[z02];exact a1
  .exact a1
 .intro c d hc hc';by_cases hcd:c=b/\d=a
  .obtain⟨rfl,rfl⟩:=hcd;rw[hsm];refine⟨λ_=>rfl,λ_=>?_⟩;unfold ent1;simp only[];split
   .rw[zx _ _ _ _ hc (by rw[a1];exact hc') hc,if_pos rfl];simp
   .rename_i q;exact(a2 c d hc hc').2 (yez q)
  .rw[hl2,if_neg hcd,<- a2 c d hc hc'];unfold ent1;simp only[];split
   .rw[zx _ _ _ _ hb (by rw[a1];exact hb') hc];by_cases e:c=b
    .subst e;rw[if_pos rfl];simp only[w0q,w0i];exact⟨λq=>q.resolve_right (λe=>hcd ⟨rfl,e⟩),.inl⟩
    .rw[if_neg e]
   .exact Iff.rfl
 .intro c d i hi;by_cases hcd:c=b/\d=a
  .obtain⟨rfl,rfl⟩:=hcd;rw[hlba] at hi;obtain⟨h1,h2,h3⟩:=a3 _ _ _ hi;exact⟨h1,h2,h3.elim .inr .inl⟩
  .rw[hl2,if_neg hcd] at hi;exact a3 _ _ _ hi
 .intro c hc hc';have h1:=a4 c hc hc';have h0:=h.size c hc hc';have h2 :(gt (ent1 es k b a s1).1 c).length<=(gt s1.1 c).length+1:=by
   unfold ent1;simp only[];split
   .rw[zx _ _ _ _ hb (by rw[a1];exact hb') hc];split
    .rename_i e;subst e;simp
    .omega
   .omega
  omega
 .intro c d;by_cases h1:c=b/\d=a
  .obtain⟨rfl,rfl⟩:=h1;rw[hlba,hlab]
  .by_cases h2:c=a/\d=b
   .obtain⟨rfl,rfl⟩:=h2;rw[hlab,hlba]
   .rw[hl2,if_neg h1,hl2,if_neg (λq=>h2 ⟨q.2,q.1⟩),a5 c d h2,a5 d c (λq=>h1 ⟨q.2,q.1⟩),h.sym]
def zco(es:List Edge)(P:Nat):Nat->List (List Int)×Ln
 |0=>(List.replicate P default,[])
 |k+1=>entE es k (zco es P k)
structure zat(x:zi):Prop where
 places:x.places.length<=512
 edges:x.edges.length<=2048
 edge:∀i:Int,0<=i->i<(x.edges.length:Int)->zbq x.places.length (gt x.edges i)=true
theorem y7u{x:zi}(h:z6e x=0):zat x:=by obtain⟨h1,h2,_,h4⟩:=zmh h;exact⟨h1,h2,λi h0 hi=>h4 _ (z7k h0 hi)⟩
theorem zat.ends{x:zi}(h:zat x){i:Int}(h0:0<=i)(hi:i<(x.edges.length:Int)):0<=(gt x.edges i).a/\(gt x.edges i).a<(x.places.length:Int)/\0<=(gt x.edges i).b/\(gt x.edges i).b<(x.places.length:Int)/\
  (gt x.edges i).a≠(gt x.edges i).b/\0<=(gt x.edges i).railway/\(gt x.edges i).railway<=15/\1<=(gt x.edges i).minutes/\(gt x.edges i).minutes<=100000/\0<=(gt x.edges i).km/\(gt x.edges i).km<=10000:=by
 have:=h.edge i h0 hi;simp only[zbq,w03,z33,bne_iff_ne,ne_eq] at this;obtain⟨⟨⟨⟨⟨q1,q2⟩,q3⟩,q4⟩,q5⟩,q6⟩:=this;exact⟨q1.1,by omega,q2.1,by omega,q3,q4.1,q4.2,q5.1,q5.2,q6.1,q6.2⟩
theorem zgl{x:zi}(h:zat x):∀k,k<=x.edges.length->HI x.edges x.places.length k (zco x.edges x.places.length k)
 |0,_=>ye8 _ _
 |k+1,hk=>by obtain⟨a1,a2,a3,a4,a5,_⟩:=h.ends (i:=(k:Int)) (by omega) (by omega);exact yif (zgl h k (by omega)) a1 a2 a3 a4 a5
structure Gr(P:Nat)(near:List (List Int))(wt:Int->Int->Int):Prop where
 len:near.length=P
 small:P<=512
 size:∀a:Int,0<=a->a<(P:Int)->(gt near a).length<=5000
 rng:∀a b:Int,0<=a->a<(P:Int)->b∈gt near a->0<=b/\b<(P:Int)
 sym:∀a b:Int,0<=a->a<(P:Int)->b∈gt near a->a∈gt near b/\wt b a=wt a b
 wt:∀a b:Int,0<=a->a<(P:Int)->b∈gt near a->1<=wt a b/\wt a b<=100000
def zaw(x:zi):Ln:=(zco x.edges x.places.length x.edges.length).2
def wtN(x:zi)(a b:Int):Int:=(gt x.edges ((lget (zaw x) a b).getD default)).minutes
def zly(x:zi):List (List Int):=(zco x.edges x.places.length x.edges.length).1
def z56(x:zi):List (List Int):=(zly x).map λl=>zx2 (λa b=>decide (a<b)) l
theorem y5y{α β:Type}[Inhabited α][Inhabited β](f:α->β)(l:List α){i:Int}(h0:0<=i)(h:i<(l.length:Int)):gt (l.map f) i=f (gt l i):=by obtain⟨n,rfl⟩:∃n:Nat,i =(n:Int):=⟨i.toNat,by omega⟩;rw[z4b (by simp;omega),z4b (by omega)];simp
theorem zx9{x:zi}(h:zat x){a b:Int}(ha:0<=a)(ha':a<(x.places.length:Int))(hb:b∈gt (z56 x) a):∃i,lget (zaw x) a b=some i/\0<=i/\i<(x.edges.length:Int)/\(((gt x.edges i).a=a/\(gt x.edges i).b=b)\/((gt x.edges i).a=b/\(gt x.edges i).b=a)):=by have H:=zgl h x.edges.length (w0v _);unfold z56 at hb;rw[y5y _ _ ha (by show a<((zly x).length:Int);rw[show (zly x).length=_ from H.len];exact ha')] at hb;have hb:=(z9v _ _).mem_iff.1 hb;have:=(H.near a b ha ha').1 hb;obtain⟨i,hi⟩:=w14.1 this;obtain⟨h1,h2,h3⟩:=H.line _ _ _ hi;exact⟨i,hi,h1,h2,h3⟩
theorem grN{x:zi}(h:zat x):Gr x.places.length (z56 x) (wtN x):=by
 have H:=zgl h x.edges.length (w0v _);have hlen :(z56 x).length=x.places.length:=by unfold z56;rw[w17];exact H.len
 have hl0 :(zly x).length=x.places.length:=H.len;have hmem:∀a b:Int,0<=a->a<(x.places.length:Int)->(b∈gt (z56 x) a↔(lget (zaw x) a b).isSome=true):=by intro a b ha ha';unfold z56;rw[y5y _ _ ha (by rw[hl0];exact ha')];exact((z9v _ _).mem_iff).trans (H.near a b ha ha')
 refine⟨hlen,h.places,?_,?_,?_,?_⟩
 .intro a ha ha';unfold z56;rw[y5y _ _ ha (by rw[hl0];exact ha'),(z9v _ _).length_eq];have:=H.size a ha ha';have:=h.edges;show (gt (zco x.edges x.places.length x.edges.length).1 a).length<=_;omega
 .intro a b ha ha' hb;obtain⟨i,_,h1,h2,h3⟩:=zx9 h ha ha' hb;obtain⟨e1,e2,e3,e4,_⟩:=h.ends h1 h2;rcases h3 with⟨rfl,rfl⟩|⟨rfl,rfl⟩
  .exact⟨e3,e4⟩
  .exact⟨e1,e2⟩
 .intro a b ha ha' hb;obtain⟨i,hi,h1,h2,h3⟩:=zx9 h ha ha' hb;obtain⟨e1,e2,e3,e4,_⟩:=h.ends h1 h2;have hbr:0<=b/\b<(x.places.length:Int):=by
   rcases h3 with⟨rfl,rfl⟩|⟨rfl,rfl⟩
   .exact⟨e3,e4⟩
   .exact⟨e1,e2⟩
  have hs:lget (zaw x) b a=lget (zaw x) a b:=H.sym b a;refine⟨(hmem b a hbr.1 hbr.2).2 (by rw[hs,hi];rfl),?_⟩;unfold wtN;rw[hs]
 .intro a b ha ha' hb;obtain⟨i,hi,h1,h2,_⟩:=zx9 h ha ha' hb;obtain⟨_,_,_,_,_,_,_,e1,e2,_⟩:=h.ends h1 h2;unfold wtN;rw[hi];exact⟨e1,e2⟩
structure DI(P:Nat)(near:List (List Int))(wt:Int->Int->Int)(s:Int)(k:Nat)(t:List Int)(d:List Bool):Prop where
 lt:t.length=P
 ld:d.length=P
 src:gt t s=0
 bd:∀i:Int,0<=i->i<(P:Int)->gt t i=-1\/(0<=gt t i/\gt t i<=100000*k)
 don:∀i:Int,0<=i->i<(P:Int)->gt d i=true->0<=gt t i
 pre:∀a:Int,0<=a->a<(P:Int)->a≠s->0<=gt t a->∃q,0<=q/\q<(P:Int)/\gt d q=true/\q∈gt near a/\gt t a=gt t q+wt q a
 mon:∀q i:Int,0<=q->q<(P:Int)->0<=i->i<(P:Int)->gt d q=true->gt d i=false->0<=gt t i->gt t q<=gt t i
 nbr:∀q i:Int,0<=q->q<(P:Int)->gt d q=true->i∈gt near q->0<=gt t i/\gt t i<=gt t q+wt q i
 cnt:d.count true=k
structure RndI(P:Nat)(near:List (List Int))(wt:Int->Int->Int)(s p:Int)(k:Nat)(t0:List Int)(d:List Bool)(seen:List Int)(t:List Int):Prop where
 lt:t.length=P
 own:gt t p=gt t0 p
 val:∀i:Int,0<=i->i<(P:Int)->gt t i=gt t0 i\/(i∈seen/\gt t i=gt t0 p+wt p i/\(gt t0 i<0\/gt t0 p+wt p i<gt t0 i))
 got:∀i∈seen,0<=i->0<=gt t i/\gt t i<=gt t p+wt p i
end Px
end
section
namespace Px
open Go
section
variable{P:Nat}{near:List (List Int)}{wt:Int->Int->Int}{s:Int}
theorem y8a{α:Type}[Inhabited α](l:List α){i:Int}(h0:0<=i)(h:i<(l.length:Int)):zl l i (gt l i)=l:=by obtain⟨n,rfl⟩:∃n:Nat,i =(n:Int):=⟨i.toNat,by omega⟩;rw[z4b (by omega)];simp[zl]
theorem ybz{p:Int}{k:Nat}{t0:List Int}{d:List Bool}(h:DI P near wt s k t0 d):RndI P near wt s p k t0 d [] t0:=⟨h.lt,rfl,λi _ _=>.inl rfl,λi hi=>by cases hi⟩
theorem yfx(hG:Gr P near wt){p:Int}(hp:0<=p)(hp':p<(P:Int)){k:Nat}{t0:List Int}{d:List Bool}(hp0:0<=gt t0 p){seen t:List Int}(h:RndI P near wt s p k t0 d seen t){q:Int}(hq:q∈gt near p):
  RndI P near wt s p k t0 d (seen++[q]) (if(decide (gt t q<0)||decide (gt t p+wt p q<gt t q))=true then zl t q (gt t p+wt p q) else t):=by
 obtain⟨q0,q1⟩:=hG.rng p q hp hp' hq;obtain⟨w0,w1⟩:=hG.wt p q hp hp' hq;have hown:=h.own;by_cases c:gt t q<0\/gt t p+wt p q<gt t q
 .rw[if_pos (by simpa using c)];have hqp:q≠p:=λe=>by subst e;omega
  refine⟨by rw[z02];exact h.lt,?_,λi h0 h1=>?_,λi hi hneg=>?_⟩
  .rw[zx _ _ _ _ q0 (by rw[h.lt];exact q1) hp,if_neg (λe=>hqp e.symm)];exact hown
  .rw[zx _ _ _ _ q0 (by rw[h.lt];exact q1) h0];by_cases e:i=q
   .subst e;rw[if_pos rfl];refine .inr ⟨by simp,by rw[hown],?_⟩;rcases h.val i h0 h1 with h2|⟨_,h2,_⟩
    .rw[h2,hown] at c;exact c
    .rw[h2,hown] at c;exfalso;omega
   .rw[if_neg e];rcases h.val i h0 h1 with h2|⟨h2,h3,h4⟩
    .exact .inl h2
    .exact .inr ⟨w1s _ h2,h3,h4⟩
  .by_cases e:i=q
   .subst e;rw[zx _ _ _ _ q0 (by rw[h.lt];exact q1) q0,if_pos rfl,zx _ _ _ _ q0 (by rw[h.lt];exact q1) hp,if_neg (λe=>hqp e.symm)];omega
   .have hi:i∈seen:=by
     rcases w0q.1 hi with hi|hi
     .exact hi
     .exact absurd (w0i.1 hi) e
    rw[zx _ _ _ _ q0 (by rw[h.lt];exact q1) hneg,if_neg e,zx _ _ _ _ q0 (by rw[h.lt];exact q1) hp,if_neg (λe=>hqp e.symm)];exact h.got i hi hneg
 .rw[if_neg (by simpa using c)];refine⟨h.lt,hown,λi h0 h1=>?_,λi hi hneg=>?_⟩
  .rcases h.val i h0 h1 with h2|⟨h2,h3,h4⟩
   .exact .inl h2
   .exact .inr ⟨w1s _ h2,h3,h4⟩
  .rcases w0q.1 hi with hi|hi
   .exact h.got i hi hneg
   .rw[w0i.1 hi];omega
theorem y2z{d:List Bool}{p:Int}(hp:0<=p)(hp':p<(d.length:Int))(h:gt d p=false):(zl d p true).count true=d.count true+1:=by
 obtain⟨n,rfl⟩:∃n:Nat,p =(n:Int):=⟨p.toNat,by omega⟩;have hn:n<d.length:=by omega
 rw[z4b hn] at h;unfold zl;rw[w1n,List.count_set hn,h];simp
theorem yfy(hG:Gr P near wt){p:Int}(hp:0<=p)(hp':p<(P:Int)){k:Nat}{t0:List Int}{d:List Bool}(h:DI P near wt s k t0 d)(hs:0<=s)(hs':s<(P:Int))(hp0:0<=gt t0 p)(hd:gt d p=false)
  (hmin:∀i:Int,0<=i->i<(P:Int)->0<=gt t0 i->gt d i=false->gt t0 p<=gt t0 i) {t:List Int} (hr:RndI P near wt s p k t0 d (gt near p) t):DI P near wt s (k+1) t (zl d p true):=by
 have hds:∀i:Int,0<=i->gt (zl d p true) i=if i=p then true else gt d i:=λi hi=>zx _ _ _ _ hp (by rw[h.ld];exact hp') hi
 have hw:∀i,i∈gt near p->1<=wt p i/\wt p i<=100000:=λi hi=>hG.wt p i hp hp' hi
 -- what is done stays
 have hdone:∀i:Int,0<=i->i<(P:Int)->gt d i=true->gt t i=gt t0 i:=by
  intro i h0 h1 hdi;rcases hr.val i h0 h1 with h2|⟨h2,h3,h4⟩
  .exact h2
  .have:=hw i h2
   have:=h.don i h0 h1 hdi;have:=h.mon i p h0 h1 hp hp' hdi hd hp0;omega
 have hbdp:=(h.bd p hp hp').resolve_left (by omega);refine⟨hr.lt,by rw[z02];exact h.ld,?_,λi h0 h1=>?_,λi h0 h1 hdi=>?_,λa h0 h1 has hta=>?_,λq i q0 q1 h0 h1 hdq hdi hti=>?_,λq i q0 q1 hdq hin=>?_,?_⟩
 .rcases hr.val s hs hs' with h2|⟨h2,h3,h4⟩
  .rw[h2,h.src]
  .have:=hw s h2
   have:=h.src;omega
 .rcases hr.val i h0 h1 with h2|⟨h2,h3,h4⟩
  .rw[h2];rcases h.bd i h0 h1 with h5|h5
   .exact .inl h5
   .right;omega
  .have:=hw i h2
   right;omega
 .rw[hds i h0] at hdi;by_cases e:i=p
  .subst e;rw[hr.own];exact hp0
  .rw[if_neg e] at hdi;rw[hdone i h0 h1 hdi];exact h.don i h0 h1 hdi
 .rcases hr.val a h0 h1 with h2|⟨h2,h3,h4⟩
  .rw[h2] at hta⊢;obtain⟨q,q0,q1,hdq,hqn,he⟩:=h.pre a h0 h1 has hta;refine⟨q,q0,q1,?_,hqn,by rw[hdone q q0 q1 hdq];exact he⟩;rw[hds q q0];split
   .rfl
   .exact hdq
  .obtain⟨hsy,hwt⟩:=hG.sym p a hp hp' h2;exact⟨p,hp,hp',by rw[hds p hp,if_pos rfl],hsy,by rw[hr.own,h3]⟩
 .rw[hds q q0] at hdq;rw[hds i h0] at hdi;have hip:i≠p:=λe=>by rw[if_pos e] at hdi;cases hdi
  rw[if_neg hip] at hdi;have hge:gt t0 p<=gt t i:=by
   rcases hr.val i h0 h1 with h2|⟨h2,h3,h4⟩
   .rw[h2] at hti⊢;exact hmin i h0 h1 hti hdi
   .have:=hw i h2;omega
  by_cases e:q=p
  .subst e;rw[hr.own];exact hge
  .rw[if_neg e] at hdq;have:=h.mon q p q0 q1 hp hp' hdq hd hp0;rw[hdone q q0 q1 hdq];omega
 .rw[hds q q0] at hdq;by_cases e:q=p
  .subst e;exact hr.got i hin (hG.rng q i hp hp' hin).1
  .rw[if_neg e] at hdq;obtain⟨i0,i1⟩:=hG.rng q i q0 q1 hin;have:=h.nbr q i q0 q1 hdq hin;rw[hdone q q0 q1 hdq];rcases hr.val i i0 i1 with h2|⟨h2,h3,h4⟩
   .rw[h2];exact this
   .have:=hw i h2;omega
 .rw[y2z hp (by rw[h.ld];exact hp') hd,h.cnt]
structure DF(P:Nat)(near:List (List Int))(wt:Int->Int->Int)(s:Int)(t:List Int):Prop where
 lt:t.length=P
 src:gt t s=0
 bd:∀i:Int,0<=i->i<(P:Int)->gt t i=-1\/(0<=gt t i/\gt t i<=51200000)
 pre:∀a:Int,0<=a->a<(P:Int)->a≠s->0<=gt t a->∃q,0<=q/\q<(P:Int)/\q∈gt near a/\0<=gt t q/\gt t a=gt t q+wt q a
 nbr:∀q i:Int,0<=q->q<(P:Int)->0<=gt t q->i∈gt near q->0<=gt t i/\gt t i<=gt t q+wt q i
theorem ymm(hG:Gr P near wt){k:Nat}{t:List Int}{d:List Bool}(h:DI P near wt s k t d)(hall:∀i:Int,0<=i->i<(P:Int)->0<=gt t i->gt d i=true):DF P near wt s t:=by
 have hk:k<=P:=by rw[<- h.cnt,<- h.ld];exact w4t
 have:=hG.small;refine⟨h.lt,h.src,λi h0 h1=>?_,λa h0 h1 ha hta=>?_,λq i q0 q1 hq hi=>h.nbr q i q0 q1 (hall q q0 q1 hq) hi⟩
 .rcases h.bd i h0 h1 with h2|h2
  .exact .inl h2
  .right;omega
 .obtain⟨q,q0,q1,hdq,hqn,he⟩:=h.pre a h0 h1 ha hta;exact⟨q,q0,q1,hqn,h.don q q0 q1 hdq,he⟩
theorem ydw(hs:0<=s)(hs':s<(P:Int))(t:List Int)(ht:t.length=P)(hall:∀i:Int,0<=i->i<(P:Int)->gt t i=if i=s then 0 else-1):DI P near wt s 0 t (List.replicate P (default:Bool)):=by
 have hd:∀i:Int,0<=i->i<(P:Int)->gt (List.replicate P (default:Bool)) i=false:=λi h0 h1=>by rw[zem _ _ _ h0 (by omega)];rfl
 refine⟨ht,by simp,by rw[hall s hs hs',if_pos rfl],λi h0 h1=>?_,λi h0 h1 h=>?_,λa h0 h1 ha hta=>?_,λq i q0 q1 h0 h1 hdq=>?_,λq i q0 q1 hdq=>?_,?_⟩
 .rw[hall i h0 h1];split<;>omega
 .rw[hd i h0 h1] at h;cases h
 .rw[hall a h0 h1,if_neg ha] at hta;omega
 .rw[hd q q0 q1] at hdq;cases hdq
 .rw[hd q q0 q1] at hdq;cases hdq
 .simp[List.count_replicate]
end
section walk
variable{ρ:Type}{P:Nat}{near:List (List Int)}{wt:Int->Int->Int}{s:Int}
theorem ym7(hP:P<=512)(A:Nat->Int->Int->Option ρ)(fin:Int->Option ρ)(t:List Int)(d:List Bool)(ht:t.length=P)(hd:d.length=P)
  (stp:∀n p i,A (n+1) p i =(if(decide ((i:Int)<(P:Int)))=true then(ck ((0:Int)<=i/\i<(t.length:Int)) (ck (((decide ((0:Int)<=(gt t i)))=true)->(0:Int)<=i/\i<(d.length:Int)) (ck ((((decide ((0:Int)<=(gt t i)))&&(!(gt d i)))=true/\(decide ((p:Int)<0))=false)->(0:Int)<=i/\i<(t.length:Int)) (ck ((((decide ((0:Int)<=(gt t i)))&&(!(gt d i)))=true/\(decide ((p:Int)<0))=false)->(0:Int)<=p/\p<(t.length:Int)) (if(((decide ((0:Int)<=(gt t i)))&&(!(gt d i)))&&((decide ((p:Int)<0))||(decide (((gt t i):Int)<(gt t p)))))=true then(A n i (W (i+1))) else(A n p (W (i+1)))))))) else fin p)) (n:Nat) (hn:P<n) :
  ∃p,A n (-1) 0=fin p/\((p=-1/\∀i:Int,0<=i->i<(P:Int)->0<=gt t i->gt d i=true)\/(0<=p/\p<(P:Int)/\0<=gt t p/\gt d p=false/\∀i:Int,0<=i->i<(P:Int)->0<=gt t i->gt d i=false->gt t p<=gt t i)):=by
 refine z0a (λn i(p:Int)=>A n p i) P (λi p=>(p=-1/\∀j:Int,0<=j->j<(i:Int)->0<=gt t j->gt d j=true)\/(0<=p/\p<(i:Int)/\0<=gt t p/\gt d p=false/\∀j:Int,0<=j->j<(i:Int)->0<=gt t j->gt d j=false->gt t p<=gt t j))
  (λo=>∃p,o=fin p/\((p=-1/\∀i:Int,0<=i->i<(P:Int)->0<=gt t i->gt d i=true)\/(0<=p/\p<(P:Int)/\0<=gt t p/\gt d p=false/\∀i:Int,0<=i->i<(P:Int)->0<=gt t i->gt d i=false->gt t p<=gt t i))) ?_ ?_ n (-1) (.inl ⟨rfl,λj h0 h1=>by omega⟩) hn
 .intro n i p hi hI hs;rw[stp,if_pos (by simp;omega),z6 ⟨by omega,by omega⟩,z6 (λ_=>⟨by omega,by omega⟩),z6 (λ_=>⟨by omega,by omega⟩),W_id (by omega) (by omega)];have hpr :(decide ((p:Int)<0))=false->(0:Int)<=p/\p<(t.length:Int):=by
   intro h;simp only[decide_eq_false_iff_not] at h;rcases hI with⟨rfl,_⟩|⟨h1,h2,_⟩
   .omega
   .exact⟨h1,by omega⟩
  rw[z6 (λh=>hpr h.2)];have split_j:∀j:Int,j<((i+1:Nat):Int)->j<(i:Int)\/j =(i:Int):=λj h=>by omega
  by_cases c :(0<=gt t (i:Int)/\gt d (i:Int)=false)/\(p<0\/gt t (i:Int)<gt t p)
  .rw[if_pos (by simpa using c)];refine hs _ (.inr ⟨by omega,by omega,c.1.1,c.1.2,λj h0 h1 htj hdj=>?_⟩);rcases split_j j h1 with h2|rfl
   .rcases hI with⟨_,h3⟩|⟨q0,_,_,_,h3⟩
    .have:=h3 j h0 h2 htj;rw[hdj] at this;cases this
    .have:=h3 j h0 h2 htj hdj
     have:=c.2.resolve_left (by omega);omega
   .exact w24 _
  .rw[if_neg (by simpa using c)];refine hs p ?_;rcases hI with⟨rfl,h3⟩|⟨q0,q1,q2,q3,h3⟩
   .refine .inl ⟨rfl,λj h0 h1 htj=>?_⟩;rcases split_j j h1 with h2|rfl
    .exact h3 j h0 h2 htj
    .cases hdi:gt d (i:Int) with
     |true=>rfl
     |false=>exact absurd ⟨⟨htj,hdi⟩,.inl (by omega)⟩ c
   .refine .inr ⟨q0,by omega,q2,q3,λj h0 h1 htj hdj=>?_⟩;rcases split_j j h1 with h2|rfl
    .exact h3 j h0 h2 htj hdj
    .rcases Int.lt_or_le (gt t (i:Int)) (gt t p) with h4|h4
     .exact absurd ⟨⟨htj,hdj⟩,.inr h4⟩ c
     .exact h4
 .intro n p hI;rw[stp,if_neg (by simp)];exact⟨p,rfl,hI⟩
theorem ym2(hG:Gr P near wt){p:Int}(hp:0<=p)(hp':p<(P:Int)){k:Nat}(hk:k<=512){t0:List Int}{d:List Bool}(hD:DI P near wt s k t0 d)(hp0:0<=gt t0 p)(B:Nat->Int->List Int->Option ρ)(K:List Int->Option ρ)(nb:List Int)(hnb:nb=gt near p)(E:Nat)(lg:Int->Int)(mins:Int->Int)
  (hlg:∀q∈nb,0<=lg q/\lg q<(E:Int)/\mins (lg q)=wt p q)
  (stp:∀n i t,B (n+1) i t =(if(decide ((i:Int)<(nb.length:Int)))=true then(ck ((0:Int)<=i/\i<(nb.length:Int)) (ck ((0:Int)<=p/\p<(t.length:Int)) (ck ((0:Int)<=lg (gt nb i)/\lg (gt nb i)<(E:Int)) (ck ((0:Int)<=(gt nb i)/\(gt nb i)<(t.length:Int)) (ck (((decide (((gt t (gt nb i)):Int)<0))=false)->(0:Int)<=(gt nb i)/\(gt nb i)<(t.length:Int)) (if((decide (((gt t (gt nb i)):Int)<0))||(decide (((W ((gt t p)+mins (lg (gt nb i)))):Int)<(gt t (gt nb i)))))=true then(ck ((0:Int)<=(gt nb i)/\(gt nb i)<(t.length:Int)) (B n (W (i+1)) (zl t (gt nb i) (W ((gt t p)+mins (lg (gt nb i))))))) else(B n (W (i+1)) t))))))) else K t)) (n:Nat) (hn:nb.length<n) :
  ∃t,B n 0 t0=K t/\RndI P near wt s p k t0 d nb t:=by
 have hsz:nb.length<=5000:=by rw[hnb];exact hG.size p hp hp'
 have hbp:=(hD.bd p hp hp').resolve_left (by omega);refine z0a (λn i t=>B n i t) nb.length (λi t=>RndI P near wt s p k t0 d (nb.take i) t) (λo=>∃t,o=K t/\RndI P near wt s p k t0 d nb t) ?_ ?_ n t0 (ybz hD) hn
 .intro n i t hi hI hs;have hm:gt nb (i:Int)∈gt near p:=by rw[<- hnb];exact z7k (by omega) (by omega)
  obtain⟨q0,q1⟩:=hG.rng p _ hp hp' hm;obtain⟨w0,w1⟩:=hG.wt p _ hp hp' hm;obtain⟨l0,l1,l2⟩:=hlg (gt nb (i:Int)) (by rw[hnb];rw[hnb] at hm;exact hm);have hlt:=hI.lt;have hst:=yfx hG hp hp' hp0 hI hm;rw[<- z2r nb i hi] at hst;have hr:=hs _ hst;have hown:=hI.own;rw[stp,if_pos (by simp;omega),z6 ⟨by omega,by omega⟩,z6 ⟨by omega,by omega⟩,z6 ⟨l0,l1⟩,z6 ⟨by omega,by omega⟩,z6 (λ_=>⟨by omega,by omega⟩),l2,W_id (x:=gt t p+_) (by omega) (by omega),W_id (by omega) (by omega)];generalize gt nb (i:Int)=q at *;by_cases c :(decide (gt t q<0)||decide (gt t p+wt p q<gt t q))=true
  .rw[if_pos c] at hr⊢;rw[z6 ⟨by omega,by omega⟩];exact hr
  .rw[if_neg c] at hr⊢;exact hr
 .intro n t hI;rw[stp,if_neg (by simp)];rw[w1m] at hI;exact⟨t,rfl,hI⟩
theorem ygf(hG:Gr P near wt)(hs:0<=s)(hs':s<(P:Int))(M:Nat->List Int->List Bool->Option ρ)(fin:List Int->Option ρ)(φ:Nat)
  (rnd:∀n k t d,k<=512->DI P near wt s k t d->(∃t',DF P near wt s t'/\M (n+1) t d=fin t')\/(∃t' p,0<=p/\p<(P:Int)/\DI P near wt s (k+1) t' (zl d p true)/\M (n+1) t d=M n t' (zl d p true))) :
  ∀n k t d,DI P near wt s k t d->P<n+k->∃t',DF P near wt s t'/\M n t d=fin t':=by
 intro n
 induction n with
 |zero=>
  intro k t d h hn;have hk:k<=P:=by rw[<- h.cnt,<- h.ld];exact w4t
  omega
 |succ n ih=>
  intro k t d h hn;have hk:k<=P:=by rw[<- h.cnt,<- h.ld];exact w4t
  have:=hG.small;rcases rnd n k t d (by omega) h with h1|⟨t',p,_,_,h2,h3⟩
  .exact h1
  .rw[h3];exact ih (k+1) t' _ h2 (by omega)
end walk
end Px
end
section
namespace Px
open Go
section
variable(φ:Nat)(K:List Edge->Int->Int->zi->List (List Int)->Ln->Option (zu×Int×Unit))(x:zi)
theorem zpb{i:Nat}(hi:i<x.edges.length){P:Nat}{near:List (List Int)}{line:Ln}{a b:Int}(hl:near.length=P)(ha:0<=a)(ha':a<(P:Int))(hsz :(gt near a).length<=10000)(hx:x.edges.length<=2048)(hold:∀o,lget line a b=some o->0<=o/\o<(x.edges.length:Int)):
  (if(!(lget line a b).isSome)=true then(ck ((0:Int)<=a/\a<(near.length:Int)) (ck ((0:Int)<=a/\a<(near.length:Int)) (ck ((a:Int)=a) (ck (fits ((gt near a).length+([b]).length) 8) (ck ((0:Int)<=a/\a<(near.length:Int)) (ck ((a:Int)=a) (z58 φ K i ((lget line a b).getD default) ((lget line a b).isSome) x.edges (x.edges.length:Int) i x (keyP a b) (zl near a (gt near a++[b])) line))))))) else(z58 φ K i ((lget line a b).getD default) ((lget line a b).isSome) x.edges (x.edges.length:Int) i x (keyP a b) near line)) =
  K x.edges (x.edges.length:Int) ((i:Int)+1) x (ent1 x.edges i a b (near,line)).1 (ent1 x.edges i a b (near,line)).2:=by
 have hW:W ((i:Int)+1) =(i:Int)+1:=W_id (by omega) (by omega);unfold z58 ent1;simp only[];cases h:lget line a b with
 |none=>simp only[w53,w2s,if_true,w5f,Bool.true_or];rw[z6 ⟨ha,by omega⟩,z6 ⟨ha,by omega⟩,z6 trivial,z6 (ygv (by simp;omega) (by omega)),z6 ⟨ha,by omega⟩,z6 trivial,z6 (by simp),z6 (by simp),hW]
 |some o=>
  have ho:=hold o h;simp only[w54,w1i,w0n,if_false,w18,w2a];rw[z6 (λ_=>⟨by omega,by omega⟩),z6 (λ_=>ho),hW];by_cases c:decide ((gt x.edges (i:Int)).minutes<(gt x.edges o).minutes)=true
  .rw[if_pos c,if_pos c]
  .rw[if_neg c,if_neg c]
theorem zzw{i:Nat}(hi:i<x.edges.length){P:Nat}{near:List (List Int)}{line:Ln}{a b:Int}(hl:near.length=P)(ha:0<=a)(ha':a<(P:Int))(hsz :(gt near a).length<=10000)(hx:x.edges.length<=2048)(hold:∀o,lget line a b=some o->0<=o/\o<(x.edges.length:Int)):
  (if(!(lget line a b).isSome)=true then(ck ((0:Int)<=a/\a<(near.length:Int)) (ck ((0:Int)<=a/\a<(near.length:Int)) (ck ((a:Int)=a) (ck (fits ((gt near a).length+([b]).length) 8) (ck ((0:Int)<=a/\a<(near.length:Int)) (ck ((a:Int)=a) (z59 φ K i ((lget line a b).getD default) ((lget line a b).isSome) x.edges (x.edges.length:Int) i x (keyP a b) (zl near a (gt near a++[b])) line))))))) else(z59 φ K i ((lget line a b).getD default) ((lget line a b).isSome) x.edges (x.edges.length:Int) i x (keyP a b) near line)) =
  K x.edges (x.edges.length:Int) ((i:Int)+1) x (ent1 x.edges i a b (near,line)).1 (ent1 x.edges i a b (near,line)).2:=zpb φ K x hi hl ha ha' hsz hx hold
theorem zpa(hx:zat x){i:Nat}(hi:i<x.edges.length){near near1:List (List Int)}{line:Ln}(old:Int)(sm:Bool)(hl:near1.length=x.places.length)(ho:sm=true->0<=old/\old<(x.edges.length:Int))
  (hsz :(gt near1 (gt x.edges (i:Int)).b).length<=10000) (hline:∀a b o,lget line a b=some o->0<=o/\o<(x.edges.length:Int)) (line1:Ln) (h1:line1=if(!sm||decide ((gt x.edges (i:Int)).minutes<(gt x.edges old).minutes))=true then lset line (gt x.edges (i:Int)).a (gt x.edges (i:Int)).b i else line) :
  z57 φ K i old sm i x.edges (x.edges.length:Int) i x (keyP (gt x.edges (i:Int)).a (gt x.edges (i:Int)).b) (gt x.edges (i:Int)) near1 line =
  K x.edges (x.edges.length:Int) ((i:Int)+1) x (ent1 x.edges i (gt x.edges (i:Int)).b (gt x.edges (i:Int)).a (near1,line1)).1 (ent1 x.edges i (gt x.edges (i:Int)).b (gt x.edges (i:Int)).a (near1,line1)).2:=by
 obtain⟨e1,e2,e3,e4,e5,_⟩:=hx.ends (i:=(i:Int)) (by omega) (by omega);unfold z57;rw[z6 (λ_=>⟨by omega,by omega⟩),z6 (λh=>ho (by simpa using h))];by_cases c :(!sm||decide ((gt x.edges (i:Int)).minutes<(gt x.edges old).minutes))=true
 .rw[if_pos c] at h1⊢;subst h1;refine zpb φ K x hi hl e3 e4 hsz hx.edges λo h=>?_
  rw[zn2,if_neg (λq=>e5 q.1.symm)] at h;exact hline _ _ o h
 .rw[if_neg c] at h1⊢;subst h1;exact zzw φ K x hi hl e3 e4 hsz hx.edges λo h=>hline _ _ o h
end
section
variable(φ:Nat)(x:zi)
theorem y7c(hx:zat x)(n:Nat){i:Nat}(hi:i<x.edges.length){s:List (List Int)×Ln}(h:HI x.edges x.places.length i s):
  z07 φ (n+1) x.edges (x.edges.length:Int) i x s.1 s.2=z07 φ n x.edges (x.edges.length:Int) ((i:Int)+1) x (entE x.edges i s).1 (entE x.edges i s).2:=by
 obtain⟨e1,e2,e3,e4,e5,_⟩:=hx.ends (i:=(i:Int)) (by omega) (by omega);have hE:=hx.edges;have hline:∀a b o,lget s.2 a b=some o->0<=o/\o<(x.edges.length:Int):=λa b o ho=>by obtain⟨h1,h2,_⟩:=h.line _ _ _ ho;exact⟨h1,by omega⟩
 have hsa:=h.size _ e1 e2;have hsb:=h.size _ e3 e4;have hlen:=h.len;rw[z07,if_pos (by simp;omega),z6 ⟨by omega,by omega⟩];unfold entE;generalize hs1:ent1 x.edges i (gt x.edges (i:Int)).a (gt x.edges (i:Int)).b s=s1;have hs1':=hs1;unfold ent1 at hs1';cases hg:lget s.2 (gt x.edges (i:Int)).a (gt x.edges (i:Int)).b with
 |none=>have hg':cget z63 s.2 (upd (upd (λ_=>(default:Int)) 0 (gt x.edges (i:Int)).a) 1 (gt x.edges (i:Int)).b)=none:=hg;rw[hg] at hs1';simp only[w53,w2s,if_true,w5f,Bool.true_or] at hs1';rw[hg'];simp only[w53,w2s,if_true,w5f];rw[z6 ⟨e1,by omega⟩,z6 ⟨e1,by omega⟩,z6 trivial,z6 (ygv (by simp;omega) (by omega)),z6 ⟨e1,by omega⟩,z6 trivial,<- hs1'];refine zpa φ (z07 φ n) x hx hi (near:=s.1) _ _ (by rw[z02];exact hlen) (λh=>by cases h) ?_ hline _ (by simp);rw[zx _ _ _ _ e1 (by omega) e3,if_neg (λq=>e5 q.symm)];omega
 |some o=>have hg':cget z63 s.2 (upd (upd (λ_=>(default:Int)) 0 (gt x.edges (i:Int)).a) 1 (gt x.edges (i:Int)).b)=some o:=hg;rw[hg] at hs1';simp only[w54,w1i,w0n,if_false,w18,w2a] at hs1';rw[hg'];simp only[w54,w1i,w0n,if_false,w18];rw[<- hs1'];exact zpa φ (z07 φ n) x hx hi (near:=s.1) _ _ hlen (λ_=>hline _ _ _ hg) (by omega) hline _ (by simp)
theorem y7b(hx:zat x)(hφ:5000<φ)(line:Ln):z22 φ φ ((zly x).length:Int) 0 (zly x) line=some (⟨z56 x,line⟩,0,()):=by
 have hl0 :(zly x).length=x.places.length:=(zgl hx x.edges.length (w0v _)).len;have hP:=hx.places;have hE:=hx.edges;obtain⟨n0,hn0⟩:∃n0,n0=x.places.length:=⟨_,rfl⟩;rw[<- hn0] at hl0 hP;rw[hl0];have hfin:∀o:List (List Int),o.length=n0->(∀w:Nat,w<n0->gt o (w:Int)=zx2 (λa b=>decide (a<b)) (gt (zly x) (w:Int)))->o=z56 x:=by
  intro o ho hw;unfold z56;refine List.ext_getElem (by simp[ho,hl0]) λi h1 h2=>?_
  have:=hw i (by omega);rw[z4b h1,z4b (by omega)] at this;simpa using this
 refine z0a (λn i o=>z22 φ n (n0:Int) i o line) n0 (λi o=>o.length=n0/\∀w:Nat,w<n0->gt o (w:Int)=if w<i then zx2 (λa b=>decide (a<b)) (gt (zly x) (w:Int)) else gt (zly x) (w:Int)) (λo=>o=some (⟨z56 x,line⟩,0,())) ?_ ?_ φ (zly x) ⟨hl0,λw hw=>by rw[if_neg (by omega)]⟩ (by omega)
 .intro n i o hi ⟨ho1,ho2⟩ hs;have hsz:=(zgl hx x.edges.length (w0v _)).size (i:Int) (by omega) (by omega);have hsz :(gt (zly x) (i:Int)).length<=2*x.edges.length:=hsz;have hso:zz3 (gt (zly x) (i:Int))=some (zx2 (λa b=>decide (a<b)) (gt (zly x) (i:Int))):=by unfold zz3 zr1;rw[if_pos (by omega)]
  rw[z22,if_pos (by simp;omega),z6 ⟨by omega,by omega⟩,z6 ⟨by omega,by omega⟩,z6 rfl,ho2 i hi,if_neg (by omega),hso,w01,W_id (by omega) (by omega)];refine hs _ ⟨by rw[z02];exact ho1,λw hw=>?_⟩;rw[zx _ _ _ _ (by omega) (by omega) (by omega)];by_cases e:w=i
  .subst e;rw[if_pos rfl,if_pos (by omega)]
  .rw[if_neg (by omega),ho2 w hw];by_cases h2:w<i
   .rw[if_pos h2,if_pos (by omega)]
   .rw[if_neg h2,if_neg (by omega)]
 .intro n o ⟨ho1,ho2⟩;have:=hfin o ho1 λw hw=>by rw[ho2 w hw,if_pos hw]
  subst this;rw[z22,if_neg (by simp)]
theorem zzv(hx:zat x)(hφ:5000<φ):z07 φ φ x.edges (x.edges.length:Int) 0 x (List.replicate ((x.places.length:Int)).toNat (default:List Int)) []=some (⟨z56 x,zaw x⟩,0,()):=by
 have hE:=hx.edges;have h0 :(List.replicate ((x.places.length:Int)).toNat (default:List Int),([]:Ln))=zco x.edges x.places.length 0:=by simp[zco]
 refine z0a (λn i(s:List (List Int)×Ln)=>z07 φ n x.edges (x.edges.length:Int) i x s.1 s.2) x.edges.length (λi s=>s=zco x.edges x.places.length i) (λo=>o=some (⟨z56 x,zaw x⟩,0,())) ?_ ?_ φ (List.replicate ((x.places.length:Int)).toNat (default:List Int),[]) h0 (by omega)
 .intro n i s hi hs hk;subst hs;rw[y7c φ x hx n hi (zgl hx i (by omega))];exact hk _ rfl
 .intro n s hs;subst hs;rw[z07,if_neg (by simp)];exact y7b φ x hx hφ (zaw x)
theorem y2l(hx:zat x)(hφ:800000<φ)(a0:Int)(hs:0<=a0)(hs':a0<(x.places.length:Int)):∃t,DF x.places.length (z56 x) (wtN x) a0 t/\zc1 φ x ⟨z56 x,zaw x⟩ a0=some (t,()):=by
 have hG:=grN hx;have hP:=hx.places;have hrep :(List.replicate ((x.places.length:Int):Int).toNat (default:Int)).length=x.places.length:=by simp
 unfold zc1;rw[hrep];have e1 :((x.places.length:Int)).toNat=x.places.length:=by simp
 rw[e1,z6 (mk_t _ _ (by omega) (by omega) (by omega)),z6 (mk_t _ _ (by omega) (by omega) (by omega))];have search:∀t:List Int,t.length=x.places.length->(∀i:Int,0<=i->i<(x.places.length:Int)->gt t i=if i=a0 then 0 else-1)->
   ∃t',DF x.places.length (z56 x) (wtN x) a0 t'/\z08 φ φ x ⟨z56 x,zaw x⟩ t (List.replicate x.places.length (default:Bool))=some (t',()):=by
  intro t ht hall;refine ygf hG hs hs' (λn t d=>z08 φ n x ⟨z56 x,zaw x⟩ t d) (λt'=>some (t',())) φ ?_ φ 0 t _ (ydw hs hs' t ht hall) (by omega);intro n k t d hk hD;obtain⟨p,hp1,hp2⟩:=ym7 hP (λm p i=>z23 φ (z08 φ n) m p (x.places.length:Int) i x ⟨z56 x,zaw x⟩ t d)
   (λp=>(if(decide ((p:Int)<0))=true then(some (t,())) else(ck ((0:Int)<=p/\p<(d.length:Int)) (ck ((0:Int)<=p/\p<((z56 x).length:Int)) (z24 φ (z08 φ n) φ p (gt (z56 x) p) ((gt (z56 x) p).length:Int) 0 x ⟨z56 x,zaw x⟩ t (zl d p true))))))
   t d hD.lt hD.ld (λm p i=>by rw[z23]) φ (by omega)
  have hM:z08 φ (n+1) x ⟨z56 x,zaw x⟩ t d=z23 φ (z08 φ n) φ (-1) (x.places.length:Int) 0 x ⟨z56 x,zaw x⟩ t d:=by rw[z08,hD.lt]
  try simp only[] at hp1
  simp only[hM];rw[hp1];rcases hp2 with⟨rfl,hall⟩|⟨p0,p1,p2,p3,p4⟩
  .left
   refine⟨t,ymm hG hD hall,?_⟩;rw[if_pos (by decide)]
  .right
   rw[if_neg (by simp;omega),z6 ⟨p0,by rw[hD.ld];exact p1⟩,z6 ⟨p0,by rw[hG.len];exact p1⟩];obtain⟨t',h1,h2⟩:=ym2 hG p0 p1 hk hD p2 (λm i t=>z24 φ (z08 φ n) m p (gt (z56 x) p) ((gt (z56 x) p).length:Int) i x ⟨z56 x,zaw x⟩ t (zl d p true))
    (λt=>z08 φ n x ⟨z56 x,zaw x⟩ t (zl d p true)) (gt (z56 x) p) rfl x.edges.length (λq=>(lget (zaw x) p q).getD default) (λi=>(gt x.edges i).minutes)
    (λq hq=>by obtain⟨i,hi,i0,i1,_⟩:=zx9 hx p0 p1 hq;rw[hi];exact⟨i0,i1,by unfold wtN;rw[hi]⟩) (λm i t=>by rw[z24]) φ (by have:=hG.size p p0 p1;omega)
   exact⟨t',p,p0,p1,yfy hG p0 p1 hD hs hs' p2 p3 p4 h2,h1⟩
 refine z0a (λn i t=>z3k φ n a0 (x.places.length:Int) i x ⟨z56 x,zaw x⟩ t (List.replicate x.places.length (default:Bool))) x.places.length (λi t=>t.length=x.places.length/\∀j:Int,0<=j->j<(i:Int)->gt t j=-1) (λo=>∃t,DF x.places.length (z56 x) (wtN x) a0 t/\o=some (t,())) ?_ ?_ φ (List.replicate x.places.length (default:Int)) ⟨by simp,λj j0 j1=>by omega⟩ (by omega)
 .intro n i t hi ⟨h1,h2⟩ hs;rw[z3k,if_pos (by simp;omega),z6 ⟨by omega,by omega⟩,W_id (by omega) (by omega)];refine hs _ ⟨by rw[z02];exact h1,λj j0 j1=>?_⟩;rw[zx _ _ _ _ (by omega) (by omega) j0];by_cases e:j =(i:Int)
  .rw[if_pos e]
  .rw[if_neg e];exact h2 j j0 (by omega)
 .intro n t ⟨h1,h2⟩;rw[z3k,if_neg (by simp),z6 ⟨hs,by omega⟩];exact search (zl t a0 0) (by rw[z02];exact h1) (λi i0 i1=>by
   rw[zx _ _ _ _ hs (by omega) i0];split
   .rfl
   .exact h2 i i0 i1)
end
theorem yd5(φ:Nat)(hφ:800000<φ)(x:zi)(a b:Int):∃e,(z6e x=0/\(0<=a/\a<(x.places.length:Int))/\(0<=b/\b<(x.places.length:Int))/\z4c φ x [a,b]=some (⟨z56 x,zaw x⟩,0,()))\/(e≠0/\∃g,z4c φ x [a,b]=some (g,e,())):=by
 unfold z4c;rw[z7v _ (by omega),w01];by_cases hn:z6e x=0
 case neg=>exact⟨z6e x,.inr ⟨hn,_,by rw[if_pos (by simpa using hn)]⟩⟩
 have hx:=y7u hn;have hP:=hx.places;rw[if_neg (by simp[hn])];obtain⟨m,rfl⟩:∃m,φ=m+3:=⟨φ-3,by omega⟩;have g0:gt [a,b] 0=a:=rfl;have g1:gt [a,b] 1=b:=rfl;have L :((([a,b]:List Int).length:Nat):Int)=2:=rfl;rw[L,show m+3 =(m+2)+1 from rfl,z10,if_pos (by decide),z6 (by rw[L];decide),g0];by_cases ha:0<=a/\a<(x.places.length:Int)
 case neg=>rw[if_pos (by simp;omega)];exact⟨1,.inr ⟨by omega,_,rfl⟩⟩
 rw[if_neg (by simp;omega),show W (0+1)=1 by rfl,show m+2 =(m+1)+1 from rfl,z10,if_pos (by decide),z6 (by rw[L];decide),g1];by_cases hb:0<=b/\b<(x.places.length:Int)
 case neg=>rw[if_pos (by simp;omega)];exact⟨1,.inr ⟨by omega,_,rfl⟩⟩
 rw[if_neg (by simp;omega),show W (1+1)=2 by rfl,z10,if_neg (by decide),z6 (mk_t _ _ (by omega) (by omega) (by omega)),zzv (m+1+1+1) x hx (by omega)];exact⟨0,.inl ⟨hn,ha,hb,rfl⟩⟩
theorem y73(φ:Nat)(hφ:800000<φ)(x:zi)(a b:Int):∃t e,z05 φ x a b=some (t,e,())/\0<=t/\t<=51200000:=by
 unfold z05;obtain⟨e,⟨hn,ha,hb,h⟩|⟨he,g,h⟩⟩:=yd5 φ hφ x a b
 .have hx:=y7u hn;rw[h,w01,if_neg (by simp)];obtain⟨t,h1,h2⟩:=y2l φ x hx hφ a ha.1 ha.2;rw[h2,w01,z6 ⟨hb.1,by rw[h1.lt];exact hb.2⟩];rcases h1.bd b hb.1 hb.2 with h3|⟨h3,h4⟩
  .rw[if_pos (by simp;omega)];exact⟨0,80,rfl,by omega,by omega⟩
  .rw[if_neg (by simp;omega)];exact⟨_,0,rfl,h3,h4⟩
 .rw[h,w01,if_pos (by simpa using he)];exact⟨0,e,rfl,by omega,by omega⟩
end Px
end
section
namespace Px
namespace BF
section
variable{β:Type}(si sj:β->Nat)(sw:β->Int)
abbrev X:=Nat->Option Int
def ltO(a:Int):Option Int->Bool
 |none=>true
 |some b=>decide (a<b)
def imp(x:X)(b:β):Bool:=match x (si b) with
 |none=>false
 |some a=>ltO (a+sw b) (x (sj b))
def rlx(x:X)(b:β):X:=match x (si b) with
 |none=>x
 |some a=>if ltO (a+sw b) (x (sj b))=true then λv=>if v=sj b then some (a+sw b) else x v else x
def rnd(L:List β)(x:X):X:=L.foldl (rlx si sj sw) x
def rnds(L:List β)(x:X):Nat->X
 |0=>x
 |n+1=>rnd si sj sw L (rnds L x n)
inductive Wk (x0:X) (L:List β):Nat->Nat->Int->Prop where
 |nil {v:Nat} {c:Int} : x0 v=some c->Wk x0 L 0 v c
 |step {m:Nat} {c:Int} {b:β} : Wk x0 L m (si b) c->b∈L->Wk x0 L (m+1) (sj b) (c+sw b)
def le(o:Option Int)(c:Int):Prop:=∃a,o=some a/\a<=c
variable{si sj sw}
theorem rlx_not{x:X}{b:β}(h:imp si sj sw x b=false):rlx si sj sw x b=x:=by
 unfold imp at h;unfold rlx;cases hx:x (si b) with
 |none=>rfl
 |some a=>rw[hx] at h;simp only at h⊢;rw[if_neg (by rw[h];simp)]
theorem rlx_imp{x:X}{b:β}(h:imp si sj sw x b=true):∃a,x (si b)=some a/\ltO (a+sw b) (x (sj b))=true/\rlx si sj sw x b=λv=>if v=sj b then some (a+sw b) else x v:=by
 unfold imp at h;unfold rlx;cases hx:x (si b) with
 |none=>rw[hx] at h;cases h
 |some a=>rw[hx] at h;simp only at h⊢;exact⟨a,rfl,h,by rw[if_pos h]⟩
theorem rlx_mono{x:X}{b:β}{v:Nat}{c:Int}(h:le (x v) c):le (rlx si sj sw x b v) c:=by
 cases hi:imp si sj sw x b with
 |false=>rw[rlx_not hi];exact h
 |true=>
  obtain⟨a,ha,hl,e⟩:=rlx_imp hi;rw[e];simp only;split
  .rename_i hv;subst hv;obtain⟨d,hd,hc⟩:=h;rw[hd] at hl;simp only[ltO,decide_eq_true_eq] at hl;exact⟨_,rfl,by omega⟩
  .exact h
theorem rlx_new{x:X}{b:β}{c:Int}(h:le (x (si b)) c):le (rlx si sj sw x b (sj b)) (c+sw b):=by
 obtain⟨a,ha,hc⟩:=h;cases hi:imp si sj sw x b with
 |false=>
  rw[rlx_not hi];unfold imp at hi;rw[ha] at hi;simp only at hi;cases hx:x (sj b) with
  |none=>rw[hx] at hi;cases hi
  |some d=>rw[hx] at hi;simp only[ltO,decide_eq_false_iff_not] at hi;exact⟨d,rfl,by omega⟩
 |true=>obtain⟨a',ha',hl,e⟩:=rlx_imp hi;rw[ha] at ha';cases ha';rw[e];exact⟨_,if_pos rfl,by omega⟩
theorem rnd_mono{v:Nat}{c:Int}: ∀(L:List β)(x:X),le (x v) c->le (rnd si sj sw L x v) c
 | [],x,h=>h
 |b::L,x,h=>rnd_mono L _ (rlx_mono h)
theorem rnd_new{c:Int}: ∀(L:List β)(x:X)(b:β),b∈L->le (x (si b)) c->le (rnd si sj sw L x (sj b)) (c+sw b)
 |b'::L,x,b,hb,h=>by
  rcases w09.1 hb with rfl|hb
  .exact rnd_mono L _ (rlx_new h)
  .exact rnd_new L _ b hb (rlx_mono h)
theorem rnds_mono(L:List β){x:X}{v:Nat}{c:Int}(h:le (x v) c):∀n,le (rnds si sj sw L x n v) c
 |0=>h
 |n+1=>rnd_mono L _ (rnds_mono L h n)
theorem rnds_low{L:List β}{x0:X}: ∀(k m v:Nat)(c:Int),Wk si sj sw x0 L m v c->m<=k->le (rnds si sj sw L x0 k v) c
 |k,0,v,c,h,hm=>by cases h with|nil h=>exact rnds_mono L ⟨c,h,w24 _⟩ k
 |k+1,m+1,v,c,h,hm=>by
  cases h with
  |step h hb=>exact rnd_new L _ _ hb (rnds_low k m _ _ h (by omega))
def Inv(si sj:β->Nat)(sw:β->Int)(x0:X)(L:List β)(x:X):Prop:=∀v a,x v=some a->∃m,Wk si sj sw x0 L m v a
theorem Inv.rlx{x0 x:X}{L:List β}{b:β}(h:Inv si sj sw x0 L x)(hb:b∈L):Inv si sj sw x0 L (rlx si sj sw x b):=by
 cases hi:imp si sj sw x b with
 |false=>rw[rlx_not hi];exact h
 |true=>
  obtain⟨a,ha,hl,e⟩:=rlx_imp hi;intro v d hv;rw[e] at hv;simp only at hv;split at hv
  .rename_i hj;subst hj;cases hv;obtain⟨m,hm⟩:=h _ _ ha;exact⟨_,.step hm hb⟩
  .exact h v d hv
theorem Inv.rnd{x0:X}{L:List β}: ∀(M:List β)(x:X),(∀b∈M,b∈L)->Inv si sj sw x0 L x->Inv si sj sw x0 L (rnd si sj sw M x)
 | [],x,_,h=>h
 |b::M,x,hM,h=>Inv.rnd M _ (λb hb=>hM b (w0c _ hb)) (h.rlx (hM b (w0j ..)))
theorem Inv.rnds{x0:X}{L:List β}: ∀n,Inv si sj sw x0 L (rnds si sj sw L x0 n)
 |0=>λv a h=>⟨0,.nil h⟩
 |n+1=>Inv.rnd L _ (λ_ h=>h) (Inv.rnds n)
theorem least{Q:Nat->Prop}: ∀n,Q n->∃m,Q m/\∀k,Q k->m<=k:=by
 intro n
 induction n using Nat.strongRecOn with
 |_ n ih=>
  intro h;by_cases hk:∃k,k<n/\Q k
  .obtain⟨k,hk,hq⟩:=hk;exact ih k hk hq
  .exact⟨n,h,λk hq=>w3t λhl=>hk ⟨k,hl,hq⟩⟩
structure Feas(si sj:β->Nat)(sw:β->Int)(x0:X)(L:List β)(n:Nat):Prop where
 ex:∃(p:Nat->Int)(C:Int),(∀b∈L,p (sj b)<=p (si b)+sw b)/\∀v c,x0 v=some c->p v-c<=C
 j:∀b∈L,sj b<n
 z:∀v c,x0 v=some c->v<n
theorem Wk.lt{x0:X}{L:List β}{n:Nat}(F:Feas si sj sw x0 L n){m v:Nat}{c:Int}(h:Wk si sj sw x0 L m v c):v<n:=by
 cases h with
 |nil h=>exact F.z _ _ h
 |step h hb=>exact F.j _ hb
theorem Wk.low{x0:X}{L:List β}{p:Nat->Int}{C:Int}(h1:∀b∈L,p (sj b)<=p (si b)+sw b)(h2:∀v c,x0 v=some c->p v-c<=C):∀{m v:Nat}{c:Int},Wk si sj sw x0 L m v c->p v-c<=C
 |0,_,_,.nil h=>h2 _ _ h
 |_+1,_,_,.step h hb=>by have:=Wk.low h1 h2 h;have:=h1 _ hb;omega
structure Mn(si sj:β->Nat)(sw:β->Int)(x0:X)(L:List β)(v m:Nat)(c:Int):Prop where
 w:Wk si sj sw x0 L m v c
 lo:∀m' c',Wk si sj sw x0 L m' v c'->c<=c'
 sh:∀m',Wk si sj sw x0 L m' v c->m<=m'
theorem Mn.ex{x0:X}{L:List β}{n:Nat}(F:Feas si sj sw x0 L n){m v:Nat}{c:Int}(h:Wk si sj sw x0 L m v c):∃m c,Mn si sj sw x0 L v m c:=by obtain⟨p,C,h1,h2⟩:=F.ex;obtain⟨k,⟨m1,c1,hk,hw⟩,hl⟩:=least (Q:=λk=>∃m c,(C-(p v-c)).toNat=k/\Wk si sj sw x0 L m v c) _ ⟨m,c,rfl,h⟩;obtain⟨m2,hm,hm2⟩:=least (Q:=λm=>Wk si sj sw x0 L m v c1) m1 hw;refine⟨m2,c1,hm,λm' c' h'=>?_,hm2⟩;have:=hl _ ⟨m',c',rfl,h'⟩;have:=Wk.low h1 h2 hw;have:=Wk.low h1 h2 h';omega
theorem Mn.pred{x0:X}{L:List β}{v m:Nat}{c:Int}(h:Mn si sj sw x0 L v (m+1) c):∃u d,Mn si sj sw x0 L u m d:=by
 obtain⟨w,hc,hm⟩:=h;cases w with
 | @step _ d b hw hb=>
  refine⟨si b,d,hw,λm' c' h'=>?_,λm' h'=>?_⟩
  .have:=hc _ _ (.step h' hb);omega
  .have:=hm _ (.step h' hb);omega
theorem Mn.all{x0:X}{L:List β}: ∀{m v:Nat}{c:Int},Mn si sj sw x0 L v m c->∀k,k<=m->∃u d,Mn si sj sw x0 L u k d
 |0,v,c,h,k,hk=>by
  have:k=0:=by omega
  subst this;exact⟨v,c,h⟩
 |m+1,v,c,h,k,hk=>by
  by_cases e:k=m+1
  .subst e;exact⟨v,c,h⟩
  .obtain⟨u,d,h'⟩:=h.pred;exact Mn.all h' k (by omega)
theorem Mn.uniq{x0:X}{L:List β}{v m m':Nat}{c c':Int}(h:Mn si sj sw x0 L v m c)(h':Mn si sj sw x0 L v m' c'):c=c'/\m=m':=by have e:c=c':=Int.le_antisymm (h.lo _ _ h'.w) (h'.lo _ _ h.w);subst e;exact⟨rfl,Nat.le_antisymm (h.sh _ h'.w) (h'.sh _ h.w)⟩
theorem holes:∀(n M:Nat)(R:Nat->Nat->Prop),(∀k k' u,R k u->R k' u->k=k')->(∀k,k<M->∃u,u<n/\R k u)->M<=n
 |0,M,R,_,h=>by
  cases M with
  |zero=>exact w0v _
  |succ M=>obtain⟨u,hu,_⟩:=h 0 (by omega);omega
 |n+1,M,R,hR,h=>by
  by_cases hk:∃k,k<M/\R k n
  .obtain⟨k0,hk0,hr⟩:=hk;have:=holes n (M-1) (λk u=>R (if k<k0 then k else k+1) u) (λk k' u h1 h2=>by
    have:=hR _ _ _ h1 h2;split at this<;>split at this<;>omega) λk hk=>by
    obtain⟨u,hu,hru⟩:=h (if k<k0 then k else k+1) (by split<;>omega);refine⟨u,?_,hru⟩;by_cases e:u=n
    .subst e;have:=hR _ _ _ hru hr;split at this<;>omega
    .omega
   omega
  .have:=holes n M R hR λk hk'=>by
    obtain⟨u,hu,hru⟩:=h k hk';exact⟨u,by
     by_cases e:u=n
     .subst e;exact(hk ⟨k,hk',hru⟩).elim
     .omega,hru⟩
   omega
theorem Mn.short{x0:X}{L:List β}{n:Nat}(F:Feas si sj sw x0 L n){m v:Nat}{c:Int}(h:Mn si sj sw x0 L v m c):m<n:=holes n (m+1) (λk u=>∃d,Mn si sj sw x0 L u k d) (λk k' u ⟨_,a⟩ ⟨_,b⟩=>(a.uniq b).2) λk hk=>by obtain⟨u,d,hu⟩:=h.all k (by omega);exact⟨u,hu.w.lt F,d,hu⟩
theorem done{x0:X}{L:List β}{n:Nat}(F:Feas si sj sw x0 L n){k:Nat}(hk:n<=k+1):∀b∈L,imp si sj sw (rnds si sj sw L x0 k) b=false:=by
 intro b hb;unfold imp;cases hx:rnds si sj sw L x0 k (si b) with
 |none=>rfl
 |some a=>obtain⟨m,hm⟩:=Inv.rnds k _ _ hx;obtain⟨m',d,hd⟩:=Mn.ex F (.step hm hb);obtain⟨e,he,hed⟩:=rnds_low k m' _ _ hd.w (by have:=hd.short F;omega);have:=hd.lo _ _ (.step hm hb);rw[he];simp only[ltO,decide_eq_false_iff_not];omega
def Fix(si sj:β->Nat)(sw:β->Int)(L:List β)(x:X):Prop:=∀b∈L,imp si sj sw x b=false
theorem Fix.le{L:List β}{x:X}(h:Fix si sj sw L x){b:β}(hb:b∈L){a:Int}(ha:x (si b)=some a):∃d,x (sj b)=some d/\d<=a+sw b:=by
 have:=h b hb;unfold imp at this;rw[ha] at this;simp only at this;cases hx:x (sj b) with
 |none=>rw[hx] at this;cases this
 |some d=>rw[hx] at this;simp only[ltO,decide_eq_false_iff_not] at this;exact⟨d,rfl,by omega⟩
theorem Fix.wk{x0:X}{L:List β}{x:X}(h:Fix si sj sw L x)(h0:∀v c,x0 v=some c->BF.le (x v) c):∀{m v:Nat}{c:Int},Wk si sj sw x0 L m v c->BF.le (x v) c
 |0,_,_,.nil h'=>h0 _ _ h'
 |_+1,_,_,.step (c:=c) h' hb=>by obtain⟨a,ha,hc⟩:=Fix.wk h h0 h';obtain⟨d,hd,hl⟩:=h.le hb ha;exact⟨d,hd,by omega⟩
theorem Fix.uniq{x0:X}{L:List β}{x y:X}(hx:Fix si sj sw L x)(hy:Fix si sj sw L y)(ix:Inv si sj sw x0 L x)(iy:Inv si sj sw x0 L y)(x1:∀v c,x0 v=some c->BF.le (x v) c)(y1:∀v c,x0 v=some c->BF.le (y v) c):x=y:=by
 funext v;have go:∀(x y:X),Fix si sj sw L y->Inv si sj sw x0 L x->(∀v c,x0 v=some c->BF.le (y v) c)->∀a,x v=some a->BF.le (y v) a:=λx y hy ix y1 a ha=>by obtain⟨m,hm⟩:=ix v a ha;exact hy.wk y1 hm
 cases h1:x v with
 |none=>
  cases h2:y v with
  |none=>rfl
  |some b=>obtain⟨a,ha,_⟩:=go y x hx iy x1 b h2;rw[h1] at ha;cases ha
 |some a=>obtain⟨b,hb,hab⟩:=go x y hy ix y1 a h1;obtain⟨a',ha',hba⟩:=go y x hx iy x1 b hb;rw[h1] at ha';cases ha';rw[hb,Int.le_antisymm hab hba]
end
end BF
end Px
end
section
namespace Px
open Go
def zty(e:Edge)(a b:Int):Prop:=(e.a=a/\e.b=b)\/(e.a=b/\e.b=a)
instance(e:Edge)(a b:Int):Decidable (zty e a b):=inferInstanceAs (Decidable (_\/_))
def lnF(es:List Edge)(a b:Int):Nat->Int
 |0=>-1
 |k+1=>if zty (gt es (k:Int)) a b/\(lnF es a b k<0\/(gt es (k:Int)).minutes<(gt es (lnF es a b k)).minutes) then(k:Int) else lnF es a b k
theorem y68(es:List Edge)(a b:Int)(k:Nat):lnF es a b (k+1)=if zty (gt es (k:Int)) a b/\(lnF es a b k<0\/(gt es (k:Int)).minutes<(gt es (lnF es a b k)).minutes) then(k:Int) else lnF es a b k:=rfl
theorem y63(es:List Edge)(a b:Int):∀k:Nat,(-1<=lnF es a b k/\lnF es a b k<(k:Int))/\(0<=lnF es a b k->zty (gt es (lnF es a b k)) a b)/\∀j:Nat,j<k->zty (gt es (j:Int)) a b->0<=lnF es a b k/\(gt es (lnF es a b k)).minutes<=(gt es (j:Int)).minutes
 |0=>⟨⟨by simp[lnF],by simp[lnF]⟩,by simp[lnF],λj hj=>by omega⟩
 |k+1=>by
  obtain⟨⟨h1,h2⟩,h3,h4⟩:=y63 es a b k;unfold lnF;split
  .rename_i hc;refine⟨⟨by omega,by omega⟩,λ_=>hc.1,λj hj hjj=>⟨by omega,?_⟩⟩;by_cases e:j=k
   .subst e;exact w24 _
   .have:=h4 j (by omega) hjj
    rcases hc.2 with q|q<;>omega
  .rename_i hc;refine⟨⟨h1,by omega⟩,h3,λj hj hjj=>?_⟩;by_cases e:j=k
   .subst e;by_cases q:lnF es a b j<0
    .exact absurd ⟨hjj,.inl q⟩ hc
    .refine⟨by omega,?_⟩;by_cases q2 :(gt es (j:Int)).minutes<(gt es (lnF es a b j)).minutes
     .exact absurd ⟨hjj,.inr q2⟩ hc
     .omega
   .exact h4 j (by omega) hjj
theorem zwh(es:List Edge)(i a b:Int)(s:List (List Int)×Ln)(c d:Int):lget (ent1 es i a b s).2 c d=if(c=a/\d=b)/\((lget s.2 a b).isSome=false\/(gt es i).minutes<(gt es ((lget s.2 a b).getD default)).minutes) then some i else lget s.2 c d:=by
 unfold ent1;simp only;by_cases hc :(lget s.2 a b).isSome=false\/(gt es i).minutes<(gt es ((lget s.2 a b).getD default)).minutes
 .rw[if_pos (by simpa using hc),zn2];by_cases q:c=a/\d=b
  .rw[if_pos q,if_pos ⟨q,hc⟩]
  .rw[if_neg q,if_neg (λr=>q r.1)]
 .rw[if_neg (by simpa using hc),if_neg (λr=>hc r.2)]
theorem zx8{x:zi}(h:zat x):∀k,k<=x.edges.length->∀c d:Int,lget (zco x.edges x.places.length k).2 c d=if lnF x.edges c d k<0 then none else some (lnF x.edges c d k)
 |0,_,c,d=>by simp[zco,lget,cget,lnF]
 |k+1,hk,c,d=>by
  obtain⟨_,_,_,_,hne,_⟩:=h.ends (i:=(k:Int)) (by omega) (by omega);have ih:=zx8 h k (by omega);have key:∀a b,(lget (zco x.edges x.places.length k).2 a b).isSome=false\/(gt x.edges (k:Int)).minutes<(gt x.edges ((lget (zco x.edges x.places.length k).2 a b).getD default)).minutes↔lnF x.edges a b k<0\/(gt x.edges (k:Int)).minutes<(gt x.edges (lnF x.edges a b k)).minutes:=by
   intro a b;rw[ih a b];by_cases q:lnF x.edges a b k<0
   .rw[if_pos q];simp[q]
   .rw[if_neg q];simp[q]
  show lget (entE x.edges k (zco x.edges x.places.length k)).2 c d=_;unfold entE;have e2:lget (ent1 x.edges k (gt x.edges (k:Int)).a (gt x.edges (k:Int)).b (zco x.edges x.places.length k)).2 (gt x.edges (k:Int)).b (gt x.edges (k:Int)).a=lget (zco x.edges x.places.length k).2 (gt x.edges (k:Int)).b (gt x.edges (k:Int)).a:=by rw[zwh,if_neg (λq=>hne q.1.2)]
  rw[zwh,e2,zwh];simp only[key];have yes:zty (gt x.edges (k:Int)) c d/\(lnF x.edges c d k<0\/(gt x.edges (k:Int)).minutes<(gt x.edges (lnF x.edges c d k)).minutes)->lnF x.edges c d (k+1) =(k:Int):=λq=>by rw[y68,if_pos q]
  have no:¬(zty (gt x.edges (k:Int)) c d/\(lnF x.edges c d k<0\/(gt x.edges (k:Int)).minutes<(gt x.edges (lnF x.edges c d k)).minutes))->lnF x.edges c d (k+1)=lnF x.edges c d k:=λq=>by rw[y68,if_neg q]
  by_cases q1:c =(gt x.edges (k:Int)).a/\d =(gt x.edges (k:Int)).b
  .obtain⟨rfl,rfl⟩:=q1;rw[if_neg (λq=>hne q.1.1)];by_cases q2:lnF x.edges (gt x.edges (k:Int)).a (gt x.edges (k:Int)).b k<0\/(gt x.edges (k:Int)).minutes<(gt x.edges (lnF x.edges (gt x.edges (k:Int)).a (gt x.edges (k:Int)).b k)).minutes
   .rw[yes ⟨.inl ⟨rfl,rfl⟩,q2⟩,if_pos ⟨⟨rfl,rfl⟩,q2⟩,if_neg (by omega)]
   .rw[no (λq=>q2 q.2),if_neg (λq=>q2 q.2),ih]
  .by_cases q3:c =(gt x.edges (k:Int)).b/\d =(gt x.edges (k:Int)).a
   .obtain⟨rfl,rfl⟩:=q3;by_cases q2:lnF x.edges (gt x.edges (k:Int)).b (gt x.edges (k:Int)).a k<0\/(gt x.edges (k:Int)).minutes<(gt x.edges (lnF x.edges (gt x.edges (k:Int)).b (gt x.edges (k:Int)).a k)).minutes
    .rw[yes ⟨.inr ⟨rfl,rfl⟩,q2⟩,if_pos ⟨⟨rfl,rfl⟩,q2⟩,if_neg (by omega)]
    .rw[no (λq=>q2 q.2),if_neg (λq=>q2 q.2),if_neg (λq=>q1 q.1),ih]
   .rw[no (λq=>by
     rcases q.1 with⟨r1,r2⟩|⟨r1,r2⟩
     .exact q1 ⟨r1.symm,r2.symm⟩
     .exact q3 ⟨r2.symm,r1.symm⟩),if_neg (λq=>q3 q.1),if_neg (λq=>q1 q.1),ih]
abbrev DE3:=Nat×Nat×Int
abbrev dI(e:DE3):Nat:=e.1
abbrev dJ(e:DE3):Nat:=e.2.1
abbrev dW(e:DE3):Int:=e.2.2
def dirs(e:Edge):List DE3:=[(e.a.toNat,e.b.toNat,e.minutes),(e.b.toNat,e.a.toNat,e.minutes)]
def dE(x:zi):List DE3:=x.edges.flatMap dirs
def tf(t:List Int):BF.X:=λv=>if v<t.length/\0<=gt t (v:Int) then some (gt t (v:Int)) else none
def tz(s:Int):BF.X:=λv=>if(v:Int)=s then some 0 else none
theorem y4n{t:List Int}{i:Int}(h0:0<=i)(h:i<(t.length:Int)):tf t i.toNat=if 0<=gt t i then some (gt t i) else none:=by
 unfold tf;rw[show ((i.toNat:Nat):Int)=i by omega];by_cases q:0<=gt t i
 .rw[if_pos ⟨by omega,q⟩,if_pos q]
 .rw[if_neg (λr=>q r.2),if_neg q]
def ryl(t:List Int)(a b m:Int):List Int:=if 0<=gt t a/\(gt t b<0\/gt t a+m<gt t b) then zl t b (gt t a+m) else t
theorem y6t{t:List Int}{a b m:Int}(ha:0<=a)(ha':a<(t.length:Int))(hb:0<=b)(hb':b<(t.length:Int))(hm:1<=m):
  tf (ryl t a b m)=BF.rlx dI dJ dW (tf t) (a.toNat,b.toNat,m)/\(BF.imp dI dJ dW (tf t) (a.toNat,b.toNat,m)=decide (0<=gt t a/\(gt t b<0\/gt t a+m<gt t b))):=by
 have e1:=y4n ha ha';have e2:=y4n hb hb';have ei:BF.imp dI dJ dW (tf t) (a.toNat,b.toNat,m)=decide (0<=gt t a/\(gt t b<0\/gt t a+m<gt t b)):=by
  unfold BF.imp;simp only[dI,dJ,dW,e1,e2];by_cases q:0<=gt t a
  .rw[if_pos q];by_cases q2:0<=gt t b
   .rw[if_pos q2];simp only[BF.ltO];rw[decide_eq_decide];omega
   .rw[if_neg q2];simp only[BF.ltO]
    symm;rw[decide_eq_true_eq];omega
  .rw[if_neg q]
   symm;rw[decide_eq_false_iff_not];exact λr=>q r.1
 refine⟨?_,ei⟩;unfold ryl;by_cases q:0<=gt t a/\(gt t b<0\/gt t a+m<gt t b)
 .rw[if_pos q];rw[decide_eq_true q] at ei;obtain⟨c,hc,_,er⟩:=BF.rlx_imp ei;rw[er];simp only[dI,e1,if_pos q.1,w00] at hc;subst hc;funext v;unfold tf;rw[z02];simp only[dJ,dW];by_cases hv:v<t.length
  .rw[zx _ _ _ _ hb hb' (by omega)];by_cases e :(v:Int)=b
   .rw[if_pos e,if_pos (show v<t.length/\0<=gt t a+m from⟨hv,by omega⟩),if_pos (show v=b.toNat by omega)]
   .rw[if_neg e,if_neg (show ¬v=b.toNat by omega)]
  .rw[if_neg (λr=>hv r.1),if_neg (show ¬v=b.toNat by omega),if_neg (λr=>hv r.1)]
 .rw[if_neg q];rw[decide_eq_false q] at ei;exact(BF.rlx_not ei).symm
def rst(t:List Int)(e:Edge):List Int:=ryl (ryl t e.a e.b e.minutes) e.b e.a e.minutes
def bett(x y:Int):Int:=if x<0 then y else min2 x y
theorem zta(t:List Int)(a b m:Int):(ryl t a b m).length=t.length:=by
 unfold ryl;split
 .exact z02 ..
 .rfl
theorem ym4{t:List Int}{a b m:Int}(ha:0<=a)(ha':a<(t.length:Int))(hb:0<=b)(hb':b<(t.length:Int))(hne:a≠b)(hm:1<=m)(hta : -1<=gt t a)(htb : -1<=gt t b):
  (if 0<=gt t b then zl (if 0<=gt t a then zl t b (bett (gt t b) (gt t a+m)) else t) a (bett (gt t a) (gt t b+m)) else(if 0<=gt t a then zl t b (bett (gt t b) (gt t a+m)) else t))=ryl (ryl t a b m) b a m:=by
 have hself:∀(u:List Int)(i:Int),0<=i->i<(u.length:Int)->zl u i (gt u i)=u:=λu i h0 h1=>y8a u h0 h1
 by_cases q1:0<=gt t a
 .by_cases q2:0<=gt t b
  .rw[if_pos q2,if_pos q1];by_cases q3:gt t a+m<gt t b
   .have e1:ryl t a b m=zl t b (gt t a+m):=by unfold ryl;rw[if_pos ⟨q1,.inr q3⟩]
    rw[e1];have g1:gt (zl t b (gt t a+m)) b=gt t a+m:=by rw[zx _ _ _ _ hb hb' hb,if_pos rfl]
    have g2:gt (zl t b (gt t a+m)) a=gt t a:=by rw[zx _ _ _ _ hb hb' ha,if_neg hne]
    have e2:ryl (zl t b (gt t a+m)) b a m=zl t b (gt t a+m):=by unfold ryl;rw[g1,g2,if_neg (by omega)]
    rw[e2,show bett (gt t b) (gt t a+m)=gt t a+m by unfold bett min2;rw[if_neg (by omega)];split<;>omega,show bett (gt t a) (gt t b+m)=gt t a by unfold bett min2;rw[if_neg (by omega)];split<;>omega];have:=hself (zl t b (gt t a+m)) a ha (by rw[z02];exact ha')
    rwa [g2] at this
   .have e1:ryl t a b m=t:=by unfold ryl;rw[if_neg (by omega)]
    rw[e1,show bett (gt t b) (gt t a+m)=gt t b by unfold bett min2;rw[if_neg (by omega)];split<;>omega,hself t b hb hb'];unfold ryl;by_cases q4:gt t b+m<gt t a
    .rw[if_pos ⟨q2,.inr q4⟩,show bett (gt t a) (gt t b+m)=gt t b+m by unfold bett min2;rw[if_neg (by omega)];split<;>omega]
    .rw[if_neg (by omega),show bett (gt t a) (gt t b+m)=gt t a by unfold bett min2;rw[if_neg (by omega)];split<;>omega,hself t a ha ha']
  .rw[if_neg q2,if_pos q1];have e1:ryl t a b m=zl t b (gt t a+m):=by unfold ryl;rw[if_pos ⟨q1,.inl (by omega)⟩]
   have g1:gt (zl t b (gt t a+m)) b=gt t a+m:=by rw[zx _ _ _ _ hb hb' hb,if_pos rfl]
   have g2:gt (zl t b (gt t a+m)) a=gt t a:=by rw[zx _ _ _ _ hb hb' ha,if_neg hne]
   rw[e1,show bett (gt t b) (gt t a+m)=gt t a+m by unfold bett;rw[if_pos (by omega)]];unfold ryl;rw[g1,g2,if_neg (by omega)]
 .have e1:ryl t a b m=t:=by unfold ryl;rw[if_neg (λr=>q1 r.1)]
  rw[if_neg q1,e1];by_cases q2:0<=gt t b
  .rw[if_pos q2,show bett (gt t a) (gt t b+m)=gt t b+m by unfold bett;rw[if_pos (by omega)]];unfold ryl;rw[if_pos ⟨q2,.inl (by omega)⟩]
  .rw[if_neg q2];unfold ryl;rw[if_neg (λr=>q2 r.1)]
end Px
end
section
namespace Px
open Go
def chF(t:List Int)(e:Edge):Bool:=(gt (rst t e) e.a !=gt t e.a)||(gt (rst t e) e.b !=gt t e.b)
structure EdOK(P:Nat)(e:Edge):Prop where
 a0:0<=e.a
 a1:e.a<(P:Int)
 b0:0<=e.b
 b1:e.b<(P:Int)
 ne:e.a≠e.b
 m1:1<=e.minutes
 m2:e.minutes<=100000
theorem edOK{x:zi}(h:zat x){i:Nat}(hi:i<x.edges.length):EdOK x.places.length (gt x.edges (i:Int)):=by obtain⟨q1,q2,q3,q4,q5,_,_,q6,q7,_⟩:=h.ends (i:=(i:Int)) (by omega) (by omega);exact⟨q1,q2,q3,q4,q5,q6,q7⟩
theorem yc1(t:List Int)(e:Edge):(rst t e).length=t.length:=by unfold rst;rw[zta,zta]
theorem ym5{P:Nat}{t:List Int}(ht:t.length=P){e:Edge}(he:EdOK P e):tf (rst t e) =(dirs e).foldl (BF.rlx dI dJ dW) (tf t):=by obtain⟨a0,a1,b0,b1,ne,m1,m2⟩:=he;subst ht;unfold rst dirs;rw[(y6t (t:=ryl t e.a e.b e.minutes) b0 (by rw[zta];exact b1) a0 (by rw[zta];exact a1) m1).1,(y6t a0 a1 b0 b1 m1).1];rfl
theorem ztb{t:List Int}{a b m:Int}(h:¬(0<=gt t a/\(gt t b<0\/gt t a+m<gt t b))):ryl t a b m=t:=by unfold ryl;rw[if_neg h]
theorem y5b{P:Nat}{t:List Int}(ht:t.length=P){e:Edge}(he:EdOK P e):(chF t e=false->rst t e=t/\∀d∈dirs e,BF.imp dI dJ dW (tf t) d=false)/\((∀d∈dirs e,BF.imp dI dJ dW (tf t) d=false)->rst t e=t/\chF t e=false):=by
 obtain⟨a0,a1,b0,b1,ne,m1,m2⟩:=he;subst ht;have i1:=(y6t a0 a1 b0 b1 m1).2;have i2:=(y6t b0 b1 a0 a1 m1).2;constructor
 .intro hc;unfold chF at hc;simp only[w0y,bne_eq_false_iff_eq] at hc;obtain⟨h1,h2⟩:=hc;have n1:¬(0<=gt t e.a/\(gt t e.b<0\/gt t e.a+e.minutes<gt t e.b)):=by
   intro q;unfold rst at h2;have e1:ryl t e.a e.b e.minutes=zl t e.b (gt t e.a+e.minutes):=by unfold ryl;rw[if_pos q]
   rw[e1] at h2;have g1:gt (zl t e.b (gt t e.a+e.minutes)) e.b=gt t e.a+e.minutes:=by rw[zx _ _ _ _ b0 b1 b0,if_pos rfl]
   have g2:gt (zl t e.b (gt t e.a+e.minutes)) e.a=gt t e.a:=by rw[zx _ _ _ _ b0 b1 a0,if_neg ne]
   rw[ztb (by rw[g1,g2];omega),g1] at h2;omega
  have e1:=ztb n1;have n2:¬(0<=gt t e.b/\(gt t e.a<0\/gt t e.b+e.minutes<gt t e.a)):=by
   intro q;unfold rst at h1;rw[e1] at h1;have e2:ryl t e.b e.a e.minutes=zl t e.a (gt t e.b+e.minutes):=by unfold ryl;rw[if_pos q]
   rw[e2,zx _ _ _ _ a0 a1 a0,if_pos rfl] at h1;omega
  refine⟨by unfold rst;rw[e1,ztb n2],λd hd=>?_⟩;simp only[dirs,w09,w19,or_false] at hd;rcases hd with rfl|rfl
  .rw[i1,decide_eq_false n1]
  .rw[i2,decide_eq_false n2]
 .intro hq;have q1:=hq (e.a.toNat,e.b.toNat,e.minutes) (by simp[dirs]);have q2:=hq (e.b.toNat,e.a.toNat,e.minutes) (by simp[dirs]);rw[i1,decide_eq_false_iff_not] at q1;rw[i2,decide_eq_false_iff_not] at q2;have hr:rst t e=t:=by unfold rst;rw[ztb q1,ztb q2]
  refine⟨hr,?_⟩;unfold chF;rw[hr];simp
structure TB(P c:Nat)(t:List Int):Prop where
 len:t.length=P
 bd:∀i:Int,0<=i->i<(P:Int)->-1<=gt t i/\gt t i<=100000*(c:Int)
theorem TB.up{P c d:Nat}{t:List Int}(h:TB P c t)(hd:c<=d):TB P d t:=⟨h.len,λi h0 h1=>by have:=h.bd i h0 h1;omega⟩
theorem TB.ryl{P c:Nat}{t:List Int}(h:TB P c t){a b m:Int}(ha:0<=a)(ha':a<(P:Int))(hb:0<=b)(hb':b<(P:Int))(hm:1<=m)(hm':m<=100000):TB P (c+1) (Px.ryl t a b m):=by
 refine⟨by rw[zta];exact h.len,λi h0 h1=>?_⟩;have q1:=h.bd a ha ha';have q2:=h.bd i h0 h1;unfold Px.ryl;split
 .rw[zx _ _ _ _ hb (by rw[h.len];exact hb') h0];split<;>omega
 .omega
theorem TB.rst{P c:Nat}{t:List Int}(h:TB P c t){e:Edge}(he:EdOK P e):TB P (c+2) (Px.rst t e):=(h.ryl he.a0 he.a1 he.b0 he.b1 he.m1 he.m2).ryl he.b0 he.b1 he.a0 he.a1 he.m1 he.m2
def rnT(es:List Edge)(t:List Int):Nat->List Int
 |0=>t
 |m+1=>rst (rnT es t m) (gt es (m:Int))
def fl(es:List Edge)(t:List Int):Nat->Bool
 |0=>false
 |m+1=>fl es t m||chF (rnT es t m) (gt es (m:Int))
theorem zr6(φ:Nat)(x y:Int):zax φ x y=some (bett x y,()):=by
 unfold zax bett;by_cases h:x<0
 .rw[if_pos (by simpa using h),if_pos h]
 .rw[if_neg (by simpa using h),if_neg h]
theorem yl5(φ:Nat)(k)(f:Bool)(i a b:Int)(x:zi)(t:List Int)(e:Edge)(h1:0<=e.a/\e.a<(t.length:Int))(h2:0<=e.b/\e.b<(t.length:Int)):z5b φ k f i a b x t e=k ((f||(gt t e.a !=a))||(gt t e.b !=b)) (W (i+1)) x t:=by unfold z5b;rw[z6 (λ_=>h1),z6 (λ_=>h2)]
theorem ycy(φ:Nat)(k)(n:Nat)(f:Bool)(i:Nat){x:zi}(hi:i<x.edges.length)(hie:x.edges.length<=2048){P c:Nat}(he:EdOK P (gt x.edges (i:Int))){t:List Int}(ht:TB P c t)(hc:c<=10000000):
  z0m φ k (n+1) f (i:Int) x t=z0m φ k n (f||chF t (gt x.edges (i:Int))) ((i:Int)+1) x (rst t (gt x.edges (i:Int))):=by
 obtain⟨a0,a1,b0,b1,ne,m1,m2⟩:=he;have hl:=ht.len;have qa:=ht.bd _ a0 a1;have qb:=ht.bd _ b0 b1;have hr:=ym4 (t:=t) a0 (by rw[hl];exact a1) b0 (by rw[hl];exact b1) ne m1 qa.1 qb.1;have hr2:rst t (gt x.edges (i:Int))=ryl (ryl t (gt x.edges (i:Int)).a (gt x.edges (i:Int)).b (gt x.edges (i:Int)).minutes) (gt x.edges (i:Int)).b (gt x.edges (i:Int)).a (gt x.edges (i:Int)).minutes:=rfl;rw[<- hr2] at hr;rw[z0m,if_pos (by simp;omega),z6 ⟨by omega,by omega⟩,z6 ⟨a0,by rw[hl];exact a1⟩,z6 ⟨b0,by rw[hl];exact b1⟩];have fin:∀u:List Int,u=rst t (gt x.edges (i:Int))->z5b φ (z0m φ k n) f (i:Int) (gt t (gt x.edges (i:Int)).a) (gt t (gt x.edges (i:Int)).b) x u (gt x.edges (i:Int))=z0m φ k n (f||chF t (gt x.edges (i:Int))) ((i:Int)+1) x (rst t (gt x.edges (i:Int))):=by intro u hu;subst hu;rw[yl5 _ _ _ _ _ _ _ _ _ ⟨a0,by rw[yc1,hl];exact a1⟩ ⟨b0,by rw[yc1,hl];exact b1⟩,W_id (by omega) (by omega),Bool.or_assoc];rfl
 by_cases q1:0<=gt t (gt x.edges (i:Int)).a
 .rw[if_pos (by simpa using q1),W_id (by omega) (by omega),zr6,w01,z6 ⟨b0,by rw[hl];exact b1⟩];rw[if_pos q1] at hr;unfold z6s;by_cases q2:0<=gt t (gt x.edges (i:Int)).b
  .rw[if_pos q2] at hr;rw[if_pos (by simpa using q2),W_id (by omega) (by omega),zr6,w01,z6 ⟨a0,by rw[z02,hl];exact a1⟩];exact fin _ hr
  .rw[if_neg q2] at hr;rw[if_neg (by simpa using q2)];exact fin _ hr
 .rw[if_neg (by simpa using q1)];rw[if_neg q1] at hr;unfold z6s;by_cases q2:0<=gt t (gt x.edges (i:Int)).b
  .rw[if_pos q2] at hr;rw[if_pos (by simpa using q2),W_id (by omega) (by omega),zr6,w01,z6 ⟨a0,by rw[hl];exact a1⟩];exact fin _ hr
  .rw[if_neg q2] at hr;rw[if_neg (by simpa using q2)];exact fin _ hr
theorem y6q{x:zi}(h:zat x){c:Nat}{t:List Int}(ht:TB x.places.length c t):∀m,m<=x.edges.length->TB x.places.length (c+2*m) (rnT x.edges t m)
 |0,_=>ht
 |m+1,hm=>((y6q h ht m (by omega)).rst (edOK h (by omega))).up (by omega)
theorem yhh{x:zi}(h:zat x){c:Nat}{t:List Int}(ht:TB x.places.length c t):∀m,m<=x.edges.length->tf (rnT x.edges t m) =((x.edges.take m).flatMap dirs).foldl (BF.rlx dI dJ dW) (tf t)
 |0,_=>rfl
 |m+1,hm=>by have ih:=yhh h ht m (by omega);rw[z2r x.edges m (by omega),w1e,w3m,<- ih];show tf (rst (rnT x.edges t m) (gt x.edges (m:Int)))=_;rw[ym5 (y6q h ht m (by omega)).len (edOK h (by omega))];simp
theorem y5r{x:zi}(h:zat x){c:Nat}{t:List Int}(ht:TB x.places.length c t):∀m,m<=x.edges.length->fl x.edges t m=false->rnT x.edges t m=t/\∀j:Nat,j<m->∀d∈dirs (gt x.edges (j:Int)),BF.imp dI dJ dW (tf t) d=false
 |0,_,_=>⟨rfl,λj hj=>by omega⟩
 |m+1,hm,hf=>by
  simp only[fl,w0y] at hf;obtain⟨h1,h2⟩:=y5r h ht m (by omega) hf.1;rw[h1] at hf;obtain⟨h3,h4⟩:=(y5b ht.len (edOK h (by omega))).1 hf.2;refine⟨by show rst (rnT x.edges t m) _=t;rw[h1,h3],λj hj=>?_⟩;by_cases e:j=m
  .subst e;exact h4
  .exact h2 j (by omega)
theorem ykz{x:zi}(h:zat x){c:Nat}{t:List Int}(ht:TB x.places.length c t)(hq:∀d∈dE x,BF.imp dI dJ dW (tf t) d=false):∀m,m<=x.edges.length->fl x.edges t m=false/\rnT x.edges t m=t
 |0,_=>⟨rfl,rfl⟩
 |m+1,hm=>by obtain⟨h1,h2⟩:=ykz h ht hq m (by omega);obtain⟨h3,h4⟩:=(y5b ht.len (edOK h (i:=m) (by omega))).2 (λd hd=>hq d (w15.2 ⟨_,z7k (l:=x.edges) (i:=(m:Int)) (by omega) (by omega),hd⟩));refine⟨?_,by show rst (rnT x.edges t m) _=t;rw[h2,h3]⟩;simp only[fl,h1,h2,h4,Bool.or_self]
theorem ymo{x:zi}(h:zat x){s:Int}(hs:0<=s)(hs':s<(x.places.length:Int)):BF.Feas dI dJ dW (tz s) (dE x) x.places.length:=by
 refine⟨⟨λ_=>0,0,λd hd=>?_,λv c hv=>?_⟩,λd hd=>?_,λv c hv=>?_⟩
 .obtain⟨e,he,hd⟩:=w15.1 hd;obtain⟨i,hi,rfl⟩:=y1f he;have:=(edOK h hi).m1;simp only[dirs,w09,w19,or_false] at hd;rcases hd with rfl|rfl
  .show (0:Int)<=0+(gt x.edges (i:Int)).minutes;omega
  .show (0:Int)<=0+(gt x.edges (i:Int)).minutes;omega
 .unfold tz at hv;split at hv
  .cases hv;show (0:Int)-0<=0;omega
  .cases hv
 .obtain⟨e,he,hd⟩:=w15.1 hd;obtain⟨i,hi,rfl⟩:=y1f he;obtain⟨a0,a1,b0,b1,_⟩:=edOK h hi;simp only[dirs,w09,w19,or_false] at hd;rcases hd with rfl|rfl<;>simp only[dJ]<;>omega
 .unfold tz at hv;split at hv
  .omega
  .cases hv
structure TF(x:zi)(s:Int)(t:List Int):Prop where
 len:t.length=x.places.length
 lo:∀i:Int,0<=i->i<(x.places.length:Int)->-1<=gt t i
 fix:BF.Fix dI dJ dW (dE x) (tf t)
 rnd:∃k,tf t=BF.rnds dI dJ dW (dE x) (tz s) k
theorem yfz(φ:Nat)(hφ:5000<φ){x:zi}(h:zat x){s:Int}(hs:0<=s)(hs':s<(x.places.length:Int))(M:Nat)(hM:2*x.edges.length<=M)(hM2:M<=4096)(f:Nat):∀(k:Nat)(t:List Int),TB x.places.length (k*M) t->tf t=BF.rnds dI dJ dW (dE x) (tz s) k->k<=x.places.length->x.places.length+2<=f+k->
  ∃t',z1k φ f true x t=some (t',0,())/\TF x s t':=by
 induction f with
 |zero=>intro k t _ _ h1 h2;omega
 |succ f ih=>
  intro k t hB ht h1 h2;have hP:=h.places;have hE:=h.edges;have hround:z0m φ (z1k φ f) φ false 0 x t=z1k φ f (fl x.edges t x.edges.length) x (rnT x.edges t x.edges.length):=by
   refine z0a (λn i(u:Bool×List Int)=>z0m φ (z1k φ f) n u.1 i x u.2) x.edges.length (λi u=>u =(fl x.edges t i,rnT x.edges t i)) (λo=>o=_) ?_ ?_ φ (false,t) rfl (by omega)
   .intro n i u hi hu hk;subst hu;have hb:=y6q h hB i (by omega);rw[ycy φ _ n _ i hi hE (edOK h hi) hb (by have:=Nat.mul_le_mul (show k<=512 by omega) hM2;omega)];exact hk _ rfl
   .intro n u hu;subst hu;rw[z0m,if_neg (by simp)]
  rw[z1k,if_pos rfl,hround];have htf:=yhh h hB x.edges.length (w0v _);rw[w1m] at htf;have htf2:tf (rnT x.edges t x.edges.length)=BF.rnds dI dJ dW (dE x) (tz s) (k+1):=by rw[htf,ht];rfl
  have hb:=y6q h hB x.edges.length (w0v _);cases hfl:fl x.edges t x.edges.length with
  |false=>obtain⟨q1,q2⟩:=y5r h hB x.edges.length (w0v _) hfl;obtain⟨f',rfl⟩:∃f',f=f'+1:=⟨f-1,by omega⟩;rw[z1k,if_neg (by simp)];refine⟨_,rfl,hb.len,λi i0 i1=>(hb.bd i i0 i1).1,?_,k+1,htf2⟩;rw[q1];intro d hd;obtain⟨e,he,hd⟩:=w15.1 hd;obtain⟨i,hi,rfl⟩:=y1f he;exact q2 i hi d hd
  |true=>
   by_cases hk:x.places.length<=k+1
   .exfalso;have:=(ykz h hB (λd hd=>by have:=BF.done (ymo h hs hs') hk d hd;rwa [<- ht] at this) x.edges.length (w0v _)).1;rw[this] at hfl;cases hfl
   .exact ih (k+1) _ (hb.up (by rw[w1f,w3k];omega)) htf2 (by omega) (by omega)
theorem ygd{x:zi}{s:Int}(hs:0<=s)(hs':s<(x.places.length:Int)){t:List Int}(ht:t.length=x.places.length)(h:∀i:Int,0<=i->i<(x.places.length:Int)->gt t i=if i=s then 0 else-1):tf t=tz s:=by
 funext v;unfold tf tz;by_cases hv:v<t.length
 .rw[h v (by omega) (by omega)];by_cases e :(v:Int)=s
  .rw[if_pos e,if_pos ⟨hv,by omega⟩,if_pos e]
  .rw[if_neg e,if_neg (λq=>by have:=q.2;omega),if_neg e]
 .rw[if_neg (λq=>hv q.1),if_neg (by omega)]
theorem y4w(φ:Nat)(hφ:5000<φ){x:zi}(hn:z6e x=0){s:Int}(hs:0<=s)(hs':s<(x.places.length:Int)):∃t,za0 φ x s=some (t,0,())/\TF x s t:=by
 have h:=y7u hn;have hP:=h.places;unfold za0 z6r;rw[zai φ hφ,w01,if_neg (by simp[hn]),z44,W_id (by omega) (by omega),w01,w01,if_neg (by simp;exact z33.2 ⟨hs,by omega⟩),z6 (mk_t _ _ (by omega) (by omega) (by omega)),w1n];refine z0a (λn i t=>z5x φ n s i x t) x.places.length (λi t=>t.length=x.places.length/\∀j:Int,0<=j->j<(i:Int)->gt t j=-1) (λo=>∃t,o=some (t,0,())/\TF x s t) ?_ ?_ φ _ ⟨by simp,λj h0 h1=>by omega⟩ (by omega)
 .intro n i t hi ⟨q1,q2⟩ hk;rw[z5x,if_pos (by rw[q1];simp;omega),z6 ⟨by omega,by omega⟩,W_id (by omega) (by omega)];refine hk _ ⟨by rw[z02];exact q1,λj j0 j1=>?_⟩;rw[zx _ _ _ _ (by omega) (by omega) j0];split
  .rfl
  .exact q2 j j0 (by omega)
 .intro n t ⟨q1,q2⟩;rw[z5x,if_neg (by rw[q1];simp),z6 ⟨hs,by omega⟩];have hst:∀i:Int,0<=i->i<(x.places.length:Int)->gt (zl t s 0) i=if i=s then 0 else-1:=λi i0 i1=>by
   rw[zx _ _ _ _ hs (by omega) i0];split
   .rfl
   .exact q2 i i0 i1
  have hl :(zl t s 0).length=x.places.length:=by rw[z02];exact q1
  have hE:=h.edges;exact yfz φ hφ h hs hs' 4096 (by omega) (by omega) φ 0 _ ⟨hl,λi i0 i1=>by rw[hst i i0 i1];split<;>omega⟩ (ygd hs hs' hl hst) (by omega) (by omega)
end Px
end
section
namespace Px
open Go
theorem zxc{x:zi}(h:zat x){a b:Int}(ha:0<=a)(ha':a<(x.places.length:Int)):b∈gt (z56 x) a↔0<=lnF x.edges a b x.edges.length:=by
 have H:=zgl h x.edges.length (w0v _);have hl0 :(zly x).length=x.places.length:=H.len;have e:=zx8 h x.edges.length (w0v _) a b;unfold z56;rw[y5y _ _ ha (by rw[hl0];exact ha')];refine((z9v _ _).mem_iff).trans ((H.near a b ha ha').trans ?_);rw[e];by_cases q:lnF x.edges a b x.edges.length<0
 .rw[if_pos q];simp;omega
 .rw[if_neg q];simp;omega
theorem ycu{x:zi}(h:zat x){a b:Int}(hl:0<=lnF x.edges a b x.edges.length):wtN x a b =(gt x.edges (lnF x.edges a b x.edges.length)).minutes:=by unfold wtN zaw;rw[zx8 h x.edges.length (w0v _) a b,if_neg (by omega)];rfl
theorem ykp{x:zi}(h:zat x){d:DE3}(hd:d∈dE x):∃a b:Int,0<=a/\a<(x.places.length:Int)/\0<=b/\b<(x.places.length:Int)/\d =(a.toNat,b.toNat,dW d)/\0<=lnF x.edges a b x.edges.length/\wtN x a b<=dW d:=by
 obtain⟨e,he,hd⟩:=w15.1 hd;obtain⟨i,hi,rfl⟩:=y1f he;obtain⟨a0,a1,b0,b1,_⟩:=edOK h hi;simp only[dirs,w09,w19,or_false] at hd;rcases hd with rfl|rfl
 .obtain⟨q1,q2⟩:=(y63 x.edges (gt x.edges (i:Int)).a (gt x.edges (i:Int)).b x.edges.length).2.2 i hi (.inl ⟨rfl,rfl⟩);exact⟨_,_,a0,a1,b0,b1,rfl,q1,by rw[ycu h q1];exact q2⟩
 .obtain⟨q1,q2⟩:=(y63 x.edges (gt x.edges (i:Int)).b (gt x.edges (i:Int)).a x.edges.length).2.2 i hi (.inr ⟨rfl,rfl⟩);exact⟨_,_,b0,b1,a0,a1,rfl,q1,by rw[ycu h q1];exact q2⟩
theorem ylc{x:zi}(h:zat x){a b:Int}(hl:0<=lnF x.edges a b x.edges.length):(a.toNat,b.toNat,wtN x a b)∈dE x:=by
 obtain⟨⟨_,h2⟩,h3,_⟩:=y63 x.edges a b x.edges.length;rw[ycu h hl];refine w15.2 ⟨_,z7k (l:=x.edges) hl h2,?_⟩;rcases h3 hl with⟨q1,q2⟩|⟨q1,q2⟩
 .simp only[dirs,q1,q2,w09,true_or]
 .simp only[dirs,q1,q2,w09,true_or,or_true]
theorem ykq{x:zi}(h:zat x){s:Int}{t:List Int}(hD:DF x.places.length (z56 x) (wtN x) s t):BF.Fix dI dJ dW (dE x) (tf t):=by
 intro d hd;obtain⟨a,b,a0,a1,b0,b1,e,hl,hw⟩:=ykp h hd;have e1:tf t (dI d)=if 0<=gt t a then some (gt t a) else none:=by rw[e];exact y4n a0 (by rw[hD.lt];exact a1)
 have e2:tf t (dJ d)=if 0<=gt t b then some (gt t b) else none:=by rw[e];exact y4n b0 (by rw[hD.lt];exact b1)
 unfold BF.imp;rw[e1,e2];by_cases q:0<=gt t a
 .obtain⟨n1,n2⟩:=hD.nbr a b a0 a1 q ((zxc h a0 a1).2 hl);rw[if_pos q,if_pos n1];simp only[BF.ltO,decide_eq_false_iff_not];omega
 .rw[if_neg q]
theorem ykr{x:zi}(h:zat x){s:Int}(hs:0<=s)(hs':s<(x.places.length:Int)){t:List Int}(hD:DF x.places.length (z56 x) (wtN x) s t):BF.Inv dI dJ dW (tz s) (dE x) (tf t):=by
 have key:∀(n:Nat)(v:Int),0<=v->v<(x.places.length:Int)->0<=gt t v->(gt t v).toNat=n->∃m,BF.Wk dI dJ dW (tz s) (dE x) m v.toNat (gt t v):=by
  intro n
  induction n using Nat.strongRecOn with
  |_ n ih=>
   intro v v0 v1 hv hn;by_cases e:v=s
   .subst e;rw[hD.src];exact⟨0,.nil (by unfold tz;rw[if_pos (by omega)])⟩
   .obtain⟨q,q0,q1,q2,q3,q4⟩:=hD.pre v v0 v1 e hv;have hl':=(zxc h v0 v1).1 q2;obtain⟨hsy,hwt⟩:=(grN h).sym v q v0 v1 q2;have hl:=(zxc h q0 q1).1 hsy;have hw1:=((grN h).wt v q v0 v1 q2).1;obtain⟨m,hm⟩:=ih (gt t q).toNat (by omega) q q0 q1 q3 rfl;have:=BF.Wk.step (b:=(q.toNat,v.toNat,wtN x q v)) hm (ylc h hl);rw[q4];exact⟨_,this⟩
 intro v c hc;unfold tf at hc;split at hc
 .rename_i hv;cases hc;obtain⟨m,hm⟩:=key _ (v:Int) (by omega) (by rw[<- hD.lt];omega) hv.2 rfl;rw[w1n] at hm;exact⟨m,hm⟩
 .cases hc
theorem y8l{x:zi}(h:zat x){s:Int}(hs:0<=s)(hs':s<(x.places.length:Int)){t u:List Int}(hD:DF x.places.length (z56 x) (wtN x) s t)(hT:TF x s u){b:Int}(hb:0<=b)(hb':b<(x.places.length:Int)):gt t b=gt u b:=by
 obtain⟨k,hk⟩:=hT.rnd;have st1:∀v c,tz s v=some c->BF.le (tf t v) c:=λv c hc=>by
  unfold tz at hc;split at hc
  .rename_i e;cases hc;refine⟨0,?_,w24 _⟩;have:=y4n (t:=t) hs (by rw[hD.lt];exact hs');rw[hD.src,if_pos (w24 _)] at this;rw[show v=s.toNat by omega];exact this
  .cases hc
 have st2:∀v c,tz s v=some c->BF.le (tf u v) c:=λv c hc=>by rw[hk];exact BF.rnds_mono _ ⟨c,hc,w24 _⟩ k
 have e:=BF.Fix.uniq (ykq h hD) hT.fix (ykr h hs hs' hD) (by rw[hk];exact BF.Inv.rnds k) st1 st2;have e1:=y4n (t:=t) hb (by rw[hD.lt];exact hb');have e2:=y4n (t:=u) hb (by rw[hT.len];exact hb');rw[e,e2] at e1;have l1:=hD.bd b hb hb';have l2:=hT.lo b hb hb';by_cases q1:0<=gt u b
 .by_cases q2:0<=gt t b
  .rw[if_pos q1,if_pos q2] at e1;exact(w0d e1).symm
  .rw[if_pos q1,if_neg q2] at e1;cases e1
 .by_cases q2:0<=gt t b
  .rw[if_neg q1,if_pos q2] at e1;cases e1
  .omega
theorem y56(φ:Nat)(hφ:800000<φ){x:zi}(hn:z6e x=0)(a b:Int):z4c φ x [a,b]=if(0<=a/\a<(x.places.length:Int))/\0<=b/\b<(x.places.length:Int) then some (⟨z56 x,zaw x⟩,0,()) else some (⟨[],[]⟩,1,()):=by
 unfold z4c;have hx:=y7u hn;have hP:=hx.places;rw[z7v _ (by omega),w01,if_neg (by simp[hn])];obtain⟨m,rfl⟩:∃m,φ=m+3:=⟨φ-3,by omega⟩;have g0:gt [a,b] 0=a:=rfl;have g1:gt [a,b] 1=b:=rfl;have L :((([a,b]:List Int).length:Nat):Int)=2:=rfl;rw[L,show m+3 =(m+2)+1 from rfl,z10,if_pos (by decide),z6 (by rw[L];decide),g0];by_cases ha:0<=a/\a<(x.places.length:Int)
 case neg=>rw[if_pos (by simp;omega),if_neg (λh=>ha h.1)]
 rw[if_neg (by simp;omega),show W (0+1)=1 by rfl,show m+2 =(m+1)+1 from rfl,z10,if_pos (by decide),z6 (by rw[L];decide),g1];by_cases hb:0<=b/\b<(x.places.length:Int)
 case neg=>rw[if_pos (by simp;omega),if_neg (λh=>hb h.2)]
 rw[if_neg (by simp;omega),show W (1+1)=2 by rfl,z10,if_neg (by decide),z6 (mk_t _ _ (by omega) (by omega) (by omega)),zzv (m+1+1+1) x hx (by omega),if_pos ⟨ha,hb⟩]
theorem y72(φ:Nat)(hφ:800000<φ){x:zi}(hn:z6e x=0){a b:Int}(ha:0<=a/\a<(x.places.length:Int))(hb:0<=b/\b<(x.places.length:Int)):
  ∃t,DF x.places.length (z56 x) (wtN x) a t/\z05 φ x a b=some (if gt t b<0 then(0,80,()) else(gt t b,0,())):=by
 have hx:=y7u hn;obtain⟨t,h1,h2⟩:=y2l φ x hx hφ a ha.1 ha.2;refine⟨t,h1,?_⟩;unfold z05;rw[y56 φ hφ hn,if_pos ⟨ha,hb⟩,w01,if_neg (by simp),h2,w01,z6 ⟨hb.1,by rw[h1.lt];exact hb.2⟩];by_cases h3:gt t b<0
 .rw[if_pos (by simpa using h3),if_pos h3]
 .rw[if_neg (by simpa using h3),if_neg h3]
theorem y8o(φ:Nat)(hφ:800000<φ)(x:zi)(a b:Int):z35 φ x a b=z05 φ x a b:=by
 by_cases hn:z6e x=0
 case neg=>unfold z35 za0 z05 z4c;rw[zai φ (by omega),z7v _ (by omega),w01,w01,if_pos (by simpa using hn),w01,if_pos (by simpa using hn),if_pos (by simpa using hn),w01,if_pos (by simpa using hn)]
 have hx:=y7u hn;have hP:=hx.places;by_cases hab :(0<=a/\a<(x.places.length:Int))/\0<=b/\b<(x.places.length:Int)
 case neg=>
  have e1:z05 φ x a b=some (0,1,()):=by unfold z05;rw[y56 φ hφ hn,if_neg hab,w01,if_pos (by simp)]
  rw[e1];by_cases ha:0<=a/\a<(x.places.length:Int)
  case neg=>unfold z35 za0 z6r;rw[zai φ (by omega),w01,if_neg (by simp[hn]),z44,W_id (by omega) (by omega),w01,w01,if_pos (by simp only[w0p];rw[<- w2d,z33];omega),w01,if_pos (by simp)]
  obtain⟨u,hu,hT⟩:=y4w φ (by omega) hn ha.1 ha.2;unfold z35 z6r;rw[hu,w01,if_neg (by simp),z44,W_id (by omega) (by omega),w01,w01,if_pos (by simp only[w0p];rw[<- w2d,z33];omega)]
 obtain⟨ha,hb⟩:=hab;obtain⟨u,hu,hT⟩:=y4w φ (by omega) hn ha.1 ha.2;obtain⟨t,h1,h2⟩:=y72 φ hφ hn ha hb;have hs:=y8l hx ha.1 ha.2 h1 hT hb.1 hb.2;rw[h2,hs];unfold z35 z6r;rw[hu,w01,if_neg (by simp),z44,W_id (by omega) (by omega),w01,w01,if_neg (by simp only[w0p,Bool.not_eq_false];rw[z33];omega),z6 ⟨hb.1,by rw[hT.len];exact hb.2⟩];by_cases h3:gt u b<0
 .rw[if_pos (by simpa using h3),if_pos h3]
 .rw[if_neg (by simpa using h3),if_neg h3,z6 ⟨hb.1,by rw[hT.len];exact hb.2⟩]
end Px
end
section
namespace Px
open Go
theorem ykj(φ:Nat)(hφ:800000<φ):zln φ:=y73 φ hφ
theorem y2p(φ:Nat)(p:Pool)(s:List za)(o:List zf)(x:Plan):(z0e φ).F (p,s,o,x,())=z04 φ p s o x:=rfl
theorem z86(y:Tup TT [26,36,37,47])(h:yjw TV 30 [26,36,37,47] y):∃φ,(z0e φ).F y=some (true,()):=by obtain⟨p,s,o,x,u⟩:=y;cases u;change Pool at p;change List za at s;change List zf at o;change Plan at x;suffices key:∀φ:Nat,60000000<φ->zg7 φ=some (true,())->z04 φ p s o x=some (true,()) from⟨100000000,(y2p _ p s o x).trans (key _ (by omega) ym6)⟩;intro φ hφ hsane;exact ztl hφ (ykj φ (by omega)) (λx a b=>y8o φ (by omega) x a b) hsane p s o x
end Px
end
