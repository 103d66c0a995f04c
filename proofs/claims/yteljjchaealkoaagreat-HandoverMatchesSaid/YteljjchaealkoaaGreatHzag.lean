/- A part of the proof of handoverMatches_holds. Conditions: none. -/
import Derived.Test.YteljjchaealkoaaGreatHzaf
set_option linter.unusedVariables false
set_option linter.unusedSimpArgs false
section
namespace Px
open Go
set_option maxRecDepth 100000
def PP:Nat:=2305843009213690799
def QQ:Nat:=1152921504606845399
def pw(b n:Nat):Nat:=b ^ n % PP
theorem y5p(b n:Nat):pw b n<PP:=w3o _ (by decide)
theorem zy8(b:Nat):pw b 0=1:=by simp[pw,PP]
theorem ycx(b m n:Nat):pw b m*pw b n % PP=pw b (m+n):=by unfold pw;rw[w4t,<- Nat.mul_mod]
theorem yi7(b:Nat):pw b 1=b % PP:=by simp[pw]
theorem ymf{a:Nat}(h:a<PP):((a:Int)).tmod 2305843009213690799 =(a:Int):=by unfold PP at h;rw[w1u (by omega)];omega
theorem ymg(b:Nat):((b:Int)).tmod 2305843009213690799 =((b % PP:Nat):Int):=by rw[w1u (by omega)];unfold PP;omega
theorem ybz{ρ:Type}{a b:Nat}(ha:a<PP)(hb:b<PP)(φ:Nat)(hφ:5<φ)(K:Int->Option ρ):((zas φ (a:Int) (b:Int)).bind λy=>(z9b φ y.1 y.2.1 2305843009213690799).bind λz=>K z.2.1)=K ((a*b % PP:Nat):Int):=by
 have ha' :(a:Int)<2305843009213690799:=by unfold PP at ha;omega
 have hb' :(b:Int)<2305843009213690799:=by unfold PP at hb;omega
 have hp:=zui (by omega:0<=(a:Int)) (by omega:0<=(b:Int)) (by omega :(a:Int)<=2305843009213690798) (by omega :(b:Int)<=2305843009213690798);rw[ydx φ _ _ (by omega) (by omega) (by omega) (by omega),w00];generalize hz :(a:Int)*(b:Int)=z at *;show (z9b φ (z / 18446744073709551616) (z % 18446744073709551616) 2305843009213690799).bind _=_;rw[ydv φ hφ _ _ _ (by omega) (by omega) (by omega) (by omega) (by omega),w00];congr 1;have:z / 18446744073709551616*18446744073709551616+z % 18446744073709551616=z:=by omega
 show (z / 18446744073709551616*18446744073709551616+z % 18446744073709551616) % 2305843009213690799=_;rw[this,<- hz,Int.natCast_emod,w4n];rfl
theorem zaj.uniq{v m n:Nat}(hv:0<v)(h:zaj v m)(k:zaj v n):m=n:=by obtain⟨h1,h2⟩:=h;obtain⟨k1,k2⟩:=k;obtain⟨h3,h4⟩:=h2 hv;obtain⟨k3,k4⟩:=k2 hv;have a:m-1<n:=(Nat.pow_lt_pow_iff_right (by decide:1<2)).1 (w4w h4 k1);have b:n-1<m:=(Nat.pow_lt_pow_iff_right (by decide:1<2)).1 (w4w k4 h1);omega
section first
variable(φ:Nat)(b n a p:Int)
theorem yct(v w:Int)(h:0<=v)(h':v<256)(hw:0<=w)(hw':w<=64):∃m:Nat,zc1 φ v w b n a p=z09 φ φ b n a (w+m) 0 p/\m<=8/\zaj v.toNat m:=by
 obtain⟨m,e,hm,x,y⟩:=zua h h';have e8:IntKind.wrap .u8 v=v:=by simp[IntKind.wrap,IntKind.bits,IntKind.signed];omega
 refine⟨m,?_,hm,x,λhv=>y (by omega)⟩;unfold zc1;rw[e8,z4 ⟨h,h'⟩,e,W_id (x:=(m:Int)) (by omega) (by omega),W_id (x:=w+m) (by omega) (by omega)]
theorem ycs(v w:Int)(h:0<=v)(h':v<65536)(hw:0<=w)(hw':w<=48):∃m:Nat,zc0 φ v w b n a p=z09 φ φ b n a (w+m) 0 p/\m<=16/\zaj v.toNat m:=by
 unfold zc0;by_cases c:256<=v
 .rw[if_pos (by simpa using c),if_pos (by decide),sh8,W_id (by omega) (by omega)];obtain⟨m,e,hn,hl⟩:=yct φ b n a p (v / 256) (w+8) (by omega) (by omega) (by omega) (by omega);refine⟨m+8,by rw[e];congr 1;omega,by omega,?_⟩;refine zaj.up 8 ?_ (by omega)
  rwa [show v.toNat / 2 ^ 8 =(v / 256).toNat by omega]
 .rw[if_neg (by simpa using c)];obtain⟨m,e,hn,hl⟩:=yct φ b n a p v w h (by omega) (by omega) (by omega);exact⟨m,e,by omega,hl⟩
theorem yi4(v w:Int)(h:0<=v)(h':v<4294967296)(hw:0<=w)(hw':w<=32):∃m:Nat,zf2 φ v w b n a p=z09 φ φ b n a (w+m) 0 p/\m<=32/\zaj v.toNat m:=by
 unfold zf2;by_cases c:65536<=v
 .rw[if_pos (by simpa using c),if_pos (by decide),sh16,W_id (by omega) (by omega)];obtain⟨m,e,hn,hl⟩:=ycs φ b n a p (v / 65536) (w+16) (by omega) (by omega) (by omega) (by omega);refine⟨m+16,by rw[e];congr 1;omega,by omega,?_⟩;refine zaj.up 16 ?_ (by omega)
  rwa [show v.toNat / 2 ^ 16 =(v / 65536).toNat by omega]
 .rw[if_neg (by simpa using c)];obtain⟨m,e,hn,hl⟩:=ycs φ b n a p v w h (by omega) (by omega) (by omega);exact⟨m,e,by omega,hl⟩
end first
def zqh(φ:Nat)(k:Int->Int->Int->Int->Int->Int->Option (Int×Unit))(L b c d e f g i a:Int):Option (Int×Unit):=ck (0<=(W ((W (L-1))-e))) (if(((U ((BitVec.ofInt 64 ((i:Int).fdiv (2 ^ (min ((W ((W (L-1))-e)):Int).toNat 64)))&&& BitVec.ofInt 64 1).toNat)):Int)==1)=true then(ck (a≠0) (ck (a≠0) ((zas φ ((d:Int).tmod a) ((b:Int).tmod a)).bind λh=>((z9b φ h.1 h.2.1 a).bind λj=>(k b c j.2.1 f (W (g+1)) a))))) else(k b c d f (W (g+1)) a))
section second
variable(φ:Nat)(k:Int->Int->Int->Int->Int->Int->Option (Int×Unit))(x57 x58 x59 x60 x61 x62 x63 x64:Int)
theorem ycw(v w:Int)(h:0<=v)(h':v<256)(hw:0<=w)(hw':w<=64):∃m:Nat,zc3 φ k v w x57 x58 x59 x60 x61 x62 x63 x64=zqh φ k (w+m) x57 x58 x59 x60 x61 x62 x63 x64/\m<=8/\zaj v.toNat m:=by
 obtain⟨m,e,hm,x,y⟩:=zua h h';have e8:IntKind.wrap .u8 v=v:=by simp[IntKind.wrap,IntKind.bits,IntKind.signed];omega
 refine⟨m,?_,hm,x,λhv=>y (by omega)⟩;unfold zc3 zqh;rw[e8,z4 ⟨h,h'⟩,e,W_id (x:=(m:Int)) (by omega) (by omega),W_id (x:=w+m) (by omega) (by omega)]
theorem ycv(v w:Int)(h:0<=v)(h':v<65536)(hw:0<=w)(hw':w<=48):∃m:Nat,zc2 φ k v w x57 x58 x59 x60 x61 x62 x63 x64=zqh φ k (w+m) x57 x58 x59 x60 x61 x62 x63 x64/\m<=16/\zaj v.toNat m:=by
 unfold zc2;by_cases c:256<=v
 .rw[if_pos (by simpa using c),if_pos (by decide),sh8,W_id (by omega) (by omega)];obtain⟨m,e,hn,hl⟩:=ycw φ k x57 x58 x59 x60 x61 x62 x63 x64 (v / 256) (w+8) (by omega) (by omega) (by omega) (by omega);refine⟨m+8,by rw[e];congr 1;omega,by omega,?_⟩;refine zaj.up 8 ?_ (by omega)
  rwa [show v.toNat / 2 ^ 8 =(v / 256).toNat by omega]
 .rw[if_neg (by simpa using c)];obtain⟨m,e,hn,hl⟩:=ycw φ k x57 x58 x59 x60 x61 x62 x63 x64 v w h (by omega) (by omega) (by omega);exact⟨m,e,by omega,hl⟩
theorem ycu(v w:Int)(h:0<=v)(h':v<4294967296)(hw:0<=w)(hw':w<=32):∃m:Nat,z54 φ k v w x57 x58 x59 x60 x61 x62 x63 x64=zqh φ k (w+m) x57 x58 x59 x60 x61 x62 x63 x64/\m<=32/\zaj v.toNat m:=by
 unfold z54;by_cases c:65536<=v
 .rw[if_pos (by simpa using c),if_pos (by decide),sh16,W_id (by omega) (by omega)];obtain⟨m,e,hn,hl⟩:=ycv φ k x57 x58 x59 x60 x61 x62 x63 x64 (v / 65536) (w+16) (by omega) (by omega) (by omega) (by omega);refine⟨m+16,by rw[e];congr 1;omega,by omega,?_⟩;refine zaj.up 16 ?_ (by omega)
  rwa [show v.toNat / 2 ^ 16 =(v / 65536).toNat by omega]
 .rw[if_neg (by simpa using c)];obtain⟨m,e,hn,hl⟩:=ycv φ k x57 x58 x59 x60 x61 x62 x63 x64 v w h (by omega) (by omega) (by omega);exact⟨m,e,by omega,hl⟩
theorem yn2(v:Int)(h:0<=v)(h':v<18446744073709551616):∃m:Nat,(if(decide ((4294967296:Int)<=v))=true then(if 0<=(32:Int) then(z54 φ k (((v:Int).fdiv (2 ^ (min (32:Int).toNat 64)))) 32 x57 x58 x59 x60 x61 x62 x63 x64) else none) else(z54 φ k v 0 x57 x58 x59 x60 x61 x62 x63 x64)) =
  zqh φ k m x57 x58 x59 x60 x61 x62 x63 x64/\m<=64/\zaj v.toNat m:=by
 by_cases c:4294967296<=v
 .rw[if_pos (by simpa using c),if_pos (by decide),sh32];obtain⟨m,e,hn,hl⟩:=ycu φ k x57 x58 x59 x60 x61 x62 x63 x64 (v / 4294967296) 32 (by omega) (by omega) (by omega) (by omega);refine⟨m+32,by rw[e];congr 1;omega,by omega,?_⟩;refine zaj.up 32 ?_ (by omega)
  rwa [show v.toNat / 2 ^ 32 =(v / 4294967296).toNat by omega]
 .rw[if_neg (by simpa using c)];obtain⟨m,e,hn,hl⟩:=ycu φ k x57 x58 x59 x60 x61 x62 x63 x64 v 0 h (by omega) (by omega) (by omega);exact⟨m,by rw[e];simp,by omega,hl⟩
end second
theorem y5z(φ:Nat)(hφ:100<φ)(b n:Nat)(hn0:0<n)(hn:n<18446744073709551616):zpn φ (b:Int) (n:Int)=some (((pw b n:Nat):Int),()):=by
 have hstart:∃L:Nat,zpn φ (b:Int) (n:Int)=z09 φ φ b n 1 L 0 2305843009213690799/\L<=64/\zaj n L:=by
  unfold zpn;by_cases c :(4294967296:Int)<=n
  .rw[if_pos (by simpa using c),if_pos (by decide),sh32];obtain⟨m,e,hm,hl⟩:=yi4 φ b n 1 2305843009213690799 ((n:Int) / 4294967296) 32 (by omega) (by omega) (by omega) (by omega);refine⟨m+32,by rw[e];congr 1;omega,by omega,?_⟩;refine zaj.up 32 ?_ (by omega)
   rwa [show n / 2 ^ 32 =((n:Int) / 4294967296).toNat by omega]
  .rw[if_neg (by simpa using c)];obtain⟨m,e,hm,hl⟩:=yi4 φ b n 1 2305843009213690799 (n:Int) 0 (by omega) (by omega) (by omega) (by omega);exact⟨m,by rw[e];simp,by omega,by rwa [w1v] at hl⟩
 obtain⟨L,e0,hL,hlen⟩:=hstart;rw[e0];obtain⟨h1,h2⟩:=hlen;refine z0a (λk i v=>z09 φ k (b:Int) (n:Int) v (L:Int) i 2305843009213690799) L (λi v=>v =((pw b (n / 2 ^ (L-i)):Nat):Int)) (λo=>o=some (((pw b n:Nat):Int),())) ?_ ?_ φ 1 ?_ (by omega)
 .intro k i v hi hv hs;rw[z09,if_pos (by simp;omega),z4 (by decide),z4 (by decide)];subst hv;rw[ymf (y5p _ _)];refine(ybz (y5p _ _) (y5p _ _) φ (by omega) (λz=>(if(decide ((4294967296:Int)<=(n:Int)))=true then(if 0<=(32:Int) then(z54 φ (z09 φ k) ((((n:Int):Int).fdiv (2 ^ (min (32:Int).toNat 64)))) 32 b n z i L i n 2305843009213690799) else none) else(z54 φ (z09 φ k) n 0 b n z i L i n 2305843009213690799)))).trans ?_;rw[ycx];obtain⟨m,em,hm,hl⟩:=yn2 φ (z09 φ k) b n ((pw b (n / 2 ^ (L-i)+n / 2 ^ (L-i)):Nat):Int) i L i n 2305843009213690799 (n:Int) (by omega) (by omega);refine em.trans ?_;rw[w1v] at hl;have:=zaj.uniq hn0 hl ⟨h1,h2⟩;subst this;unfold zqh;have hw1:W ((m:Int)-1) =(m:Int)-1:=W_id (by omega) (by omega);have hw2:W ((m:Int)-1-(i:Int)) =((m-1-i:Nat):Int):=by rw[W_id (by omega) (by omega)];omega
  rw[hw1,hw2,z4 (by omega)];have hsh:=yn9 (c:=(n:Int)) (k:=((m-1-i:Nat):Int)) (by omega) (by omega) (by omega);have hone:U ((BitVec.ofInt 64 ((n:Int).fdiv (2 ^ (min (((m-1-i:Nat):Int)).toNat 64)))&&& BitVec.ofInt 64 1).toNat) =((n / 2 ^ (m-1-i) % 2:Nat):Int):=by rw[show ((n:Int).fdiv (2 ^ (min (((m-1-i:Nat):Int)).toNat 64)))=_ from hsh,w1v,w1v];have hd:n / 2 ^ (m-1-i)<=n:=Nat.div_le_self _ _;rw[BitVec.toNat_and,zb0 (Int.natCast_nonneg _) (by omega),zb0 (by omega) (by omega),yii (yhc (by omega)),w1v];show ((n / 2 ^ (m-1-i)&&& 1:Nat):Int)=_;rw[Nat.and_one_is_mod]
  rw[hone];have hhalf:n / 2 ^ (m-i)=n / 2 ^ (m-1-i) / 2:=by rw[Nat.div_div_eq_div_mul,<- Nat.pow_succ];congr 2;omega
  have hidx:m-(i+1)=m-1-i:=by omega
  have hW:W ((i:Int)+1) =(i:Int)+1:=W_id (by omega) (by omega);have hbit:=w3u (n / 2 ^ (m-1-i));rcases hbit with hbit|hbit
  .rw[hbit,if_neg (by simp),hW];refine hs _ ?_;rw[hidx,hhalf];congr 2;omega
  .rw[hbit,if_pos (by simp),ymf (y5p _ _),ymg,z4 (by decide),z4 (by decide),hW];refine(ybz (y5p _ _) (w3o b (by decide:0<PP)) φ (by omega) (λz=>z09 φ k b n z m ((i:Int)+1) 2305843009213690799)).trans ?_;refine hs _ ?_;rw[<- yi7 b,ycx,hidx,hhalf];congr 2;omega
 .intro k v hv;rw[z09,if_neg (by simp),hv];rw[Nat.sub_self,Nat.pow_zero,Nat.div_one]
 .rw[w39,Nat.div_eq_of_lt h1,zy8];rfl
def y92(x:Int):Bool:=decide (2<=x)&&decide (x<2305843009213690799)&&(pw x.toNat QQ==1)
theorem zuj(a:Nat):(((a:Nat):Int)==1) =(a==1):=by rw[w0p,beq_iff_eq,beq_iff_eq];omega
theorem y00(φ:Nat)(hφ:100<φ)(x:Int):zmo φ x=some (y92 x,()):=by
 unfold zmo y92 z9;cases h:decide (2<=x)&&decide (x<2305843009213690799) with
 |false=>rw[if_neg (by simp),w00];simp only[w4s]
 |true=>simp only[w04,decide_eq_true_eq] at h;have:=y5z φ hφ x.toNat QQ (by decide) (by decide);rw[show ((x.toNat:Nat):Int)=x by omega,show ((QQ:Nat):Int)=1152921504606845399 by decide] at this;rw[if_pos rfl,this,w00,w1o,w1o];show some ((((pw x.toNat QQ:Nat):Int)==1),())=_;rw[zuj]
end Px
end
section
namespace Px
open Go
theorem gz_t{α:Type}{z:α}{p:Prop}[Decidable p]{x:Option α}(h:p):z9 z p x=x:=if_pos h
theorem gz_f{α:Type}{z:α}{p:Prop}[Decidable p]{x:Option α}(h:¬p):z9 z p x=some z:=if_neg h
def za0(p:z94):Bool:=bet p.kind 1 5&&bet p.railway 0 15&&(bif p.kind==3 then bet p.other 0 15&&(p.other !=p.railway) else p.other==(-1))
def zfp(n:Int)(e:Edge):Bool:=bet e.a 0 (n-1)&&bet e.b 0 (n-1)&&(e.a !=e.b)&&bet e.railway 0 15&&bet e.minutes 1 100000&&bet e.km 0 10000
def zdz(x:z8a):Int:=bif decide (512<x.places.length)||decide (2048<x.edges.length) then 2 else bif x.places.all za0&&x.edges.all (zfp x.places.length) then 0 else 1
theorem zsk(φ:Nat)(p:z94):zd3 φ p=some (za0 p,()):=by
 have hb :(((decide (p.kind<1)||decide (5<p.kind))||decide (p.railway<0))||decide (16<=p.railway)) = !(bet p.kind 1 5&&bet p.railway 0 15):=by rw[w0p];simp[bet];omega
 unfold zd3 za0;rw[hb];cases bet p.kind 1 5&&bet p.railway 0 15 with
 |false=>rfl
 |true=>
  rw[if_neg (by simp)];by_cases h:p.kind=3
  .have :(decide (0<=p.other)&&decide (p.other<16))=bet p.other 0 15:=by rw[w0p];simp[bet];omega
   rw[if_neg (by simp[h]),this];simp[h]
  .have h2 :(p.kind==3)=false:=by simpa using h
   rw[if_pos (by simp[h]),h2];rfl
theorem yak(n:Int)(e:Edge):((((((decide ((min2 (min2 (min2 (e.a) (e.b)) (e.railway)) (e.km))<0)||decide (n<=(max2 (e.a) (e.b))))||(e.a==e.b))||decide (16<=e.railway))||decide (e.minutes<1))||decide (100000<e.minutes))||decide (10000<e.km)) = !zfp n e:=by
 have hm:∀x y z:Int,z<=max2 x y↔z<=x\/z<=y:=by intro x y z;unfold max2;split<;>omega
 have hok:zfp n e=true↔((((((0<=e.a/\e.a<=n-1)/\0<=e.b/\e.b<=n-1)/\¬e.a=e.b)/\0<=e.railway/\e.railway<=15)/\1<=e.minutes/\e.minutes<=100000)/\0<=e.km/\e.km<=10000):=by simp only[zfp,w04,zt9,bne_iff_ne,ne_eq]
 rw[w0p,w0z,<- w30,hok];simp only[w14,decide_eq_true_eq,yk5,hm,beq_iff_eq];omega
theorem y7p(x:z8a):(decide (512<(x.places.length:Int))||decide (2048<(x.edges.length:Int))) =(decide (512<x.places.length)||decide (2048<x.edges.length)):=by congr 1<;>(apply decide_eq_decide.2;omega)
theorem zsj(φ:Nat)(hφ:5000<φ)(x:z8a):zd2 φ x=some (zdz x,()):=by
 unfold zd2 zdz;rw[y7p];cases h:decide (512<x.places.length)||decide (2048<x.edges.length) with
 |true=>rfl
 |false=>
  simp only[w1i,decide_eq_false_iff_not,w4l] at h;rw[if_neg (by simp),z7c (λn i=>z4p φ n (x.places.length:Int) x.places (x.places.length:Int) i x) (z23 φ φ (x.places.length:Int) x.edges (x.edges.length:Int) 0) (some (1,())) x.places (λt=>!za0 t) ?_ ?_ φ (by omega)]
  .rw[z7c (λn i=>z23 φ n (x.places.length:Int) x.edges (x.edges.length:Int) i) (some (0,())) (some (1,())) x.edges (λt=>!zfp x.places.length t) ?_ ?_ φ (by omega)]
   .simp only[w3g,Bool.not_not];cases x.places.all za0<;>cases x.edges.all (zfp x.places.length)<;>rfl
   .intro n i hi;rw[z23,if_pos (by simp;omega),z4 ⟨by omega,by omega⟩,yak,W_id (by omega) (by omega)];cases zfp x.places.length (gt x.edges i)<;>rfl
   .intro n;rw[z23,if_neg (by simp)]
  .intro n i hi;rw[z4p,if_pos (by simp;omega),z4 ⟨by omega,by omega⟩,zsk,w00,W_id (by omega) (by omega)];cases za0 (gt x.places i)<;>rfl
  .intro n;rw[z4p,if_neg (by simp)]
theorem zo4{x:z8a}(h:zdz x=0):x.places.length<=512/\x.edges.length<=2048/\(∀p∈x.places,za0 p=true)/\∀e∈x.edges,zfp x.places.length e=true:=by
 unfold zdz at h;cases h1:decide (512<x.places.length)||decide (2048<x.edges.length) with
 |true=>rw[h1] at h;cases h
 |false=>
  rw[h1] at h;cases h2:x.places.all za0&&x.edges.all (zfp x.places.length) with
  |false=>rw[h2] at h;cases h
  |true=>simp only[w1i,decide_eq_false_iff_not,w4l] at h1;simp only[w04,w0l] at h2;exact⟨h1.1,h1.2,h2⟩
def y2o:Int->List Int->Bool
 |_,[]=>true
 |p,h::t=>decide (p<h)&&decide (h<=745654)&&y2o h t
def zp0(s:Span):Bool:=decide (0<=s.from_)&&decide (s.from_<=s.to)&&decide (s.to<=1440)
def zqe(c:z61):Bool:=((List.range 7).all λi=>zp0 (c.open_ i))&&y2o (-1) c.holidays
theorem yio(φ:Nat)(c:z61):∀(n i:Nat)(p:Int),-1<=p->(i:Int)<=p+1->p<=745654->i<=c.holidays.length->745656<=(n:Int)+p->z2s φ n p c.holidays (c.holidays.length:Int) i=some (bif y2o p (c.holidays.drop i) then 0 else 1,()):=by
 intro n
 induction n with
 |zero=>intro i p _ _ _ _ _;omega
 |succ n ih=>
  intro i p hp hip hp2 hi hn;by_cases h:i=c.holidays.length
  .rw[h,z2s,if_neg (by simp),List.drop_length];rfl
  .rw[z2s,if_pos (by simp;omega),z4 ⟨by omega,by omega⟩,yah _ _ (by omega)];by_cases hb:gt c.holidays i<=p\/745654<gt c.holidays i
   .have :(decide (p<gt c.holidays i)&&decide (gt c.holidays i<=745654))=false:=by simp;omega
    rw[if_pos (by simpa using hb)];simp[y2o,this]
   .have h2 :(decide (p<gt c.holidays i)&&decide (gt c.holidays i<=745654))=true:=by simp;omega
    rw[if_neg (by simpa using hb),W_id (by omega) (by omega)];have:=ih (i+1) (gt c.holidays i) (by omega) (by omega) (by omega) (by omega) (by omega);rw[show ((i+1:Nat):Int) =(i:Int)+1 by omega] at this;rw[this];simp[y2o,h2]
theorem zo3(s:Span):((decide (s.from_<0)||decide (s.to<s.from_))||decide (1440<s.to)) = !zp0 s:=by
 rw[w0p];simp[zp0]
 try omega
theorem zpt(φ:Nat)(hφ:800000<φ)(c:z61):zbf φ c=some (bif zqe c then 0 else 1,()):=by
 unfold zbf;refine z0a (λn i(_:Unit)=>z3p φ n c.open_ i c) 7 (λi _=>((List.range i).all λj=>zp0 (c.open_ j))=true) (λo=>o=some (bif zqe c then 0 else 1,())) ?_ ?_ φ () (by simp) (by omega)
 .intro n i _ hi h hs;rw[z3p,if_pos (by simp;omega),z4 ⟨by omega,by omega⟩,w1v,zo3,W_id (by omega) (by omega)];cases ho:zp0 (c.open_ i) with
  |true=>rw[if_neg (by simp)];exact hs () (by rw[zbe,h,ho];rfl)
  |false=>
   have:zqe c=false:=by
    unfold zqe;have :((List.range 7).all λj=>zp0 (c.open_ j))=false:=by rw[w3j];exact⟨i,by simp;omega,by simp[ho]⟩
    rw[this];rfl
   rw[if_pos (by simp),this];rfl
 .intro n _ h;rw[z3p,if_neg (by simp)];unfold zqe;rw[h,w1o];have:=yio φ c φ 0 (-1) (by omega) (by omega) (by omega) (by omega) (by omega);simpa using this
theorem zq9{α ρ:Type}[Inhabited α](L:Nat->Bool->Int->Option ρ)(k:Bool->Option ρ)(l:List α)(p:α->Bool)
  (step:∀(n i:Nat)(s:Bool),i<l.length->L (n+1) s i=L n (s||p (gt l i)) ((i:Int)+1)) (done:∀n s,L (n+1) s l.length=k s) (n:Nat) (s:Bool) (hn:l.length<n):L n s 0=k (s||l.any p):=by
 refine z0a (λn i t=>L n t i) l.length (λi t=>t =(s||(l.take i).any p)) (λo=>o=k (s||l.any p)) ?_ ?_ n s (by simp) hn
 .intro n i t hi ht hs;rw[step n i t hi];exact hs _ (by rw[zhb _ _ _ hi,ht,Bool.or_assoc])
 .intro n t ht;rw[w23] at ht;rw[done,ht]
def z8d(n:Int)(r:znx):Bool:=(((!bet r.place 0 (n-1))||decide (r.low<(-1000)))||decide (r.high<r.low))||decide (1000<r.high)
def z7s(x:z8a)(s:zha):Bool:=(!bet s.place 0 ((x.places.length:Int)-1))||((gt x.places s.place).kind !=4)
def zn8(r:z56):Bool:=!zqe r.calendar||!y92 r.key
def zn7(x:Pool):Bool:=
 ((((((x.railways.length:Int)==0)||x.readers.any (z8d x.network.places.length))||x.shippers.any (z7s x.network))||x.fleet.wagons.any (λw=>decide ((x.network.places.length:Int)<=w.home)))||
 x.network.places.any (λp=>decide ((x.railways.length:Int)<=p.railway)||decide ((x.railways.length:Int)<=p.other)))||x.network.edges.any (λe=>decide ((x.railways.length:Int)<=e.railway))||x.railways.any zn8
def zhc(x:Pool):Bool:=(decide (256<(x.readers.length:Int))||decide (256<(x.shippers.length:Int)))||decide (16<(x.railways.length:Int))
def z57(x:Pool):Int:=if zdz x.network≠0 then zdz x.network else if z6m x.fleet≠0 then z6m x.fleet else bif zhc x then 2 else bif zn7 x then 1 else 0
theorem z04(φ:Nat)(hφ:800000<φ)(x:Pool):z3t φ x=some (z57 x,()):=by
 unfold z3t z57;rw[zsj _ (by omega),w00];by_cases hn:zdz x.network=0
 case neg=>rw[if_pos (by simp[hn]),if_pos hn]
 rw[if_neg (by simp[hn]),if_neg (λe:zdz x.network≠0=>e hn),zvi _ (by omega),w00];by_cases hf:z6m x.fleet=0
 case neg=>rw[if_pos (by simp[hf]),if_pos hf]
 rw[if_neg (by simp[hf]),if_neg (λe:z6m x.fleet≠0=>e hf)];cases hb:zhc x with
 |true=>have e :(((decide (256<(x.readers.length:Int))||decide (256<(x.shippers.length:Int)))||decide (16<(x.railways.length:Int))))=zhc x:=rfl;rw[e,hb];rfl
 |false=>
  have hb':¬(((decide (256<(x.readers.length:Int))||decide (256<(x.shippers.length:Int)))||decide (16<(x.railways.length:Int)))=true):=by rw[show (((decide (256<(x.readers.length:Int))||decide (256<(x.shippers.length:Int)))||decide (16<(x.railways.length:Int))))=zhc x from rfl,hb];simp
  rw[if_neg hb'];simp only[w14,decide_eq_true_eq,not_or] at hb';obtain⟨n1,n2,_,_⟩:=zo4 hn;obtain⟨f1,f2,_⟩:=zdy hf;have hp:W ((x.network.places.length:Int)-1) =(x.network.places.length:Int)-1:=W_id (by omega) (by omega);have a1:=zq9 (λn s i=>z21 φ n x.network.places (x.railways.length:Int) s x.readers (x.readers.length:Int) i x) (λs=>z0u φ φ x.network.places (x.railways.length:Int) s x.shippers (x.shippers.length:Int) 0 x) x.readers (z8d x.network.places.length) (λn i s hi=>by
   rw[z21,if_pos (by simp;omega),z4 ⟨by omega,by omega⟩,hp,W_id (by omega) (by omega)];unfold z8d;cases s with
   |true=>rw[gz_f (by simp)];rfl
   |false=>rw[gz_t rfl];rfl) (λn s=>by rw[z21,if_neg (by simp)]) φ ((x.railways.length:Int)==0) (by omega)
  refine a1.trans ?_;have a2:=λs0=>zq9 (λn s i=>z0u φ n x.network.places (x.railways.length:Int) s x.shippers (x.shippers.length:Int) i x) (λs=>z0v φ φ x.network.places (x.railways.length:Int) s x.fleet.wagons (x.fleet.wagons.length:Int) 0 x) x.shippers (z7s x.network) (λn i s hi=>by
   rw[z0u,if_pos (by simp;omega),z4 ⟨by omega,by omega⟩,hp,W_id (by omega) (by omega)];unfold z7s;cases s with
   |true=>rw[gz_f (by simp),w00,z4 (by simp)];rfl
   |false=>
    rw[gz_t rfl,z4l,w00];cases hbt:bet (gt x.shippers i).place 0 ((x.network.places.length:Int)-1) with
    |true=>rw[z4 (λ_=>by have:=zta hbt;omega)];rfl
    |false=>rw[z4 (by simp)];rfl) (λn s=>by rw[z0u,if_neg (by simp)]) φ s0 (by omega)
  refine(a2 _).trans ?_;have a3:=λs0=>zq9 (λn s i=>z0v φ n x.network.places (x.railways.length:Int) s x.fleet.wagons (x.fleet.wagons.length:Int) i x) (λs=>z0w φ φ (x.railways.length:Int) s x.network.places (x.network.places.length:Int) 0 x) x.fleet.wagons (λw=>decide ((x.network.places.length:Int)<=w.home)) (λn i s hi=>by rw[z0v,if_pos (by simp;omega),z4 ⟨by omega,by omega⟩,W_id (by omega) (by omega)]) (λn s=>by rw[z0v,if_neg (by simp)]) φ s0 (by omega)
  refine(a3 _).trans ?_;have a4:=λs0=>zq9 (λn s i=>z0w φ n (x.railways.length:Int) s x.network.places (x.network.places.length:Int) i x) (λs=>z0x φ φ (x.railways.length:Int) s x.network.edges (x.network.edges.length:Int) 0 x) x.network.places (λp=>decide ((x.railways.length:Int)<=p.railway)||decide ((x.railways.length:Int)<=p.other)) (λn i s hi=>by rw[z0w,if_pos (by simp;omega),z4 ⟨by omega,by omega⟩,W_id (by omega) (by omega),Bool.or_assoc]) (λn s=>by rw[z0w,if_neg (by simp)]) φ s0 (by omega)
  refine(a4 _).trans ?_;have a5:=λs0=>zq9 (λn s i=>z0x φ n (x.railways.length:Int) s x.network.edges (x.network.edges.length:Int) i x) (λs=>z0y φ φ s x.railways (x.railways.length:Int) 0) x.network.edges (λe=>decide ((x.railways.length:Int)<=e.railway)) (λn i s hi=>by rw[z0x,if_pos (by simp;omega),z4 ⟨by omega,by omega⟩,W_id (by omega) (by omega)]) (λn s=>by rw[z0x,if_neg (by simp)]) φ s0 (by omega)
  refine(a5 _).trans ?_;have a6:=λs0=>zq9 (λn s i=>z0y φ n s x.railways (x.railways.length:Int) i) (λs=>if s=true then some (1,()) else some (0,())) x.railways zn8 (λn i s hi=>by
   rw[z0y,if_pos (by simp;omega),z4 ⟨by omega,by omega⟩,W_id (by omega) (by omega)];unfold zn8;cases s with
   |true=>rw[gz_f (by simp),w00,gz_f (by simp)];rfl
   |false=>
    rw[gz_t rfl,zpt _ hφ,w00];cases zqe (gt x.railways i).calendar with
    |false=>rw[gz_f (by simp)];rfl
    |true=>rw[gz_t (by simp),y00 _ (by omega)];rfl) (λn s=>by rw[z0y,if_neg (by simp)]) φ s0 (by omega)
  refine(a6 _).trans ?_;show (if zn7 x=true then some ((1:Int),()) else some (0,()))=_;cases zn7 x<;>rfl
theorem zpv{p:Pool}(h:z57 p=0):zdz p.network=0/\z6m p.fleet=0/\p.readers.length<=256/\p.shippers.length<=256/\p.railways.length<=16/\zn7 p=false:=by
 unfold z57 at h;by_cases hn:zdz p.network=0
 case neg=>rw[if_pos hn] at h;exact absurd h hn
 rw[if_neg (λe:zdz p.network≠0=>e hn)] at h;by_cases hf:z6m p.fleet=0
 case neg=>rw[if_pos hf] at h;exact absurd h hf
 rw[if_neg (λe:z6m p.fleet≠0=>e hf)] at h;cases hb:zhc p with
 |true=>rw[hb] at h;cases h
 |false=>
  rw[hb] at h;cases hd:zn7 p with
  |true=>rw[hd] at h;cases h
  |false=>simp only[zhc,w1i,decide_eq_false_iff_not] at hb;exact⟨hn,hf,by omega,by omega,by omega,rfl⟩
theorem zmb{p:Pool}(h:z57 p=0):(∀r∈p.readers,0<=r.place/\r.place<(p.network.places.length:Int)/\-1000<=r.low/\r.low<=r.high/\r.high<=1000)/\
  (∀w∈p.fleet.wagons,0<=w.home/\w.home<(p.network.places.length:Int))/\(∀e∈p.network.edges,e.railway<(p.railways.length:Int))/\0<p.railways.length:=by
 obtain⟨hn,hf,h1,h2,h3,hb⟩:=zpv h;simp only[zn7,w1i] at hb;obtain⟨⟨⟨⟨⟨⟨b0,b1⟩,b2⟩,b3⟩,b4⟩,b5⟩,b6⟩:=hb;obtain⟨_,_,_,_,_,hw,_,_⟩:=zdy hf;refine⟨λr hr=>?_,λw hw'=>?_,λe he=>?_,?_⟩
 .have:=List.any_eq_false.1 b1 r hr
  simp only[z8d,w30,w1i,Bool.not_eq_false',decide_eq_false_iff_not] at this;obtain⟨⟨⟨c1,c2⟩,c3⟩,c4⟩:=this;have:=zta c1;omega
 .have:=List.any_eq_false.1 b3 w hw'
  have h3:=hw w hw';simp only[zg8,w04] at h3;have:=zta h3.1.1.2;simp at *;omega
 .have:=List.any_eq_false.1 b5 e he
  simp at this;omega
 .simp at b0;exact List.length_pos_iff.2 b0
end Px
end
section
namespace Px
open Go
set_option maxHeartbeats 4000000
def zbw(fit:Bool)(x:Part):Bool:=!(((((decide ((x.kind:Int)<1))||(decide ((3:Int)<x.kind)))||(decide ((x.serial:Int)<0)))||(decide ((1073741824:Int)<x.serial)))||(x.fitted&&(!fit)))
theorem z6k(φ:Nat)(l:List Part)(fit:Bool)(h:l.length<=1000)(hφ:1000<φ):zkp φ l fit=some (l.all (zbw fit)&&decide ((l.length:Int)<=16),()):=by
 unfold zkp;rw[z7c (λn i=>z9c φ n l fit l (l.length:Int) i) (some (decide ((l.length:Int)<=16),())) (some (false,())) l (λx=>!zbw fit x) ?_ ?_ φ (by omega)]
 .simp only[w3g,Bool.not_not];cases l.all (zbw fit)<;>rfl
 .intro n i hi;rw[z9c,if_pos (by simp;omega),z4 ⟨by omega,by omega⟩,W_id (by omega) (by omega)];show _=bif !!_ then _ else _;rw[Bool.not_not];cases (((((decide (((gt l i).kind:Int)<1))||(decide ((3:Int)<(gt l i).kind)))||(decide (((gt l i).serial:Int)<0)))||(decide ((1073741824:Int)<(gt l i).serial)))||((gt l i).fitted&&(!fit)))<;>rfl
 .intro n;rw[z9c,if_neg (by simp)]
structure y6a(p:Pool)(it:Item):Prop where
 kind:1<=it.kind/\it.kind<=15
 wagon:it.kind<=9->0<=it.wagon/\it.wagon<(p.fleet.wagons.length:Int)
 read:it.kind=1->0<=it.other/\it.other<(p.readers.length:Int)
 place:it.kind=2\/it.kind=3\/it.kind=4\/it.kind=6\/it.kind=7\/it.kind=9->0<=it.place/\it.place<(p.network.places.length:Int)
 from_:it.kind<=9->0<=it.from_/\it.from_<=1073741824
 to:it.kind=2\/it.kind=9->it.from_<=it.to/\it.to<=1073741824
theorem zrj{ρ:Type}(c q:Bool)(K:Bool->Option ρ):((z9 (default,()) (c=true) (some (q,()))).bind λy=>K (c&&y.1))=K (c&&q):=by unfold z9;cases c<;>rfl
theorem yar(p:Pool)(it:Item)(hparts:it.parts.length<=1000)(hw:p.fleet.wagons.length<=4096)(hr:p.readers.length<=256)(hs:p.shippers.length<=256)(hpl:p.network.places.length<=512)(ht:p.fleet.types.length<=32):
  ∃b,(∀φ,1000<φ->zz φ p it=some (b,()))/\(b=true->y6a p it):=by
 have w1:W ((p.fleet.wagons.length:Int)-1) =(p.fleet.wagons.length:Int)-1:=W_id (by omega) (by omega);have w2:W ((p.readers.length:Int)-1) =(p.readers.length:Int)-1:=W_id (by omega) (by omega);have w3:W ((p.shippers.length:Int)-1) =(p.shippers.length:Int)-1:=W_id (by omega) (by omega);have w4:W ((p.network.places.length:Int)-1) =(p.network.places.length:Int)-1:=W_id (by omega) (by omega);have w5:W ((p.fleet.types.length:Int)-1) =(p.fleet.types.length:Int)-1:=W_id (by omega) (by omega);have hm:∀x z:Int,max2 x 0<=z↔x<=z/\0<=z:=by intro x z;unfold max2;split<;>omega
 by_cases hk0:it.kind<1
 .refine⟨false,λφ hφ=>?_,λh=>by cases h⟩;unfold zz z7;rw[if_pos (by simp;omega),if_pos (by simpa using hk0)];simp
 by_cases hk16:15<it.kind
 .refine⟨false,λφ hφ=>?_,λh=>by cases h⟩;have e:∀k:Int,k<=15->(it.kind==k)=false:=λk hk=>by simp;omega
  unfold zz;rw[if_neg (by simp;omega)];simp[e,z17,z7]
 have hcases:it.kind=1\/it.kind=2\/it.kind=3\/it.kind=4\/it.kind=5\/it.kind=6\/it.kind=7\/it.kind=8\/it.kind=9\/it.kind=10\/it.kind=11\/it.kind=12\/it.kind=13\/it.kind=14\/it.kind=15:=by omega
 by_cases hin:0<=it.place/\it.place<(p.network.places.length:Int)
 .have e1 :(decide ((0:Int)<=it.place)&&decide ((it.place:Int)<(p.network.places.length:Int)))=true:=by simp[hin]
  rcases hcases with hk|hk|hk|hk|hk|hk|hk|hk|hk|hk|hk|hk|hk|hk|hk
  case inr.inr.inr.inr.inr.inr.inr.inr.inl=>refine⟨_,λφ hφ=>by unfold zz;simp only[hk,e1,z5d,z4 hin,w1,w2,w3,w4,w5,z6k φ _ _ hparts hφ,w00,Int.reduceLE,Int.reduceLT,Int.reduceBEq,decide_true,decide_false,if_true,w0a,if_false];refine(zrj _ _ (λb=>z7 φ ⟨_,_,b⟩)).trans ?_;unfold z7;rfl,λhb=>?_⟩;simp only[w04,decide_eq_true_eq,hm,beq_iff_eq,bne_iff_ne,ne_eq,w14] at hb;constructor<;>omega
  case inr.inr.inr.inr.inr.inr.inr.inr.inr.inl=>refine⟨_,λφ hφ=>by unfold zz;simp only[hk,e1,z4 hin,w1,w2,w3,w4,w5,z6k φ _ _ hparts hφ,w00,Int.reduceLE,Int.reduceLT,Int.reduceBEq,decide_true,decide_false,if_true,w0a,if_false];refine(zrj _ _ (λb=>z7 φ ⟨_,_,b⟩)).trans ?_;unfold z7;rfl,λhb=>?_⟩;constructor<;>omega
  all_goals
   refine⟨_,λφ hφ=>by unfold zz;simp only[hk,e1,z6o,z58,z59,z5a,z5b,z5c,z17,z5e,z7,z4 hin,w1,w2,w3,w4,w5,w00,Int.reduceLE,Int.reduceLT,Int.reduceBEq,Int.reduceBNe,Int.reduceNe,decide_true,decide_false,if_true,w0a,if_false];rfl,λhb=>?_⟩;simp only[w04,decide_eq_true_eq,hm,beq_iff_eq,bne_iff_ne,ne_eq,w14] at hb;constructor<;>omega
 .have e1 :(decide ((0:Int)<=it.place)&&decide ((it.place:Int)<(p.network.places.length:Int)))=false:=by rw[<- w30];simpa using hin
  rcases hcases with hk|hk|hk|hk|hk|hk|hk|hk|hk|hk|hk|hk|hk|hk|hk
  case inr.inr.inr.inr.inr.inr.inr.inr.inl=>refine⟨_,λφ hφ=>by unfold zz;simp only[hk,e1,z5d,w1,w2,w3,w4,w5,z6k φ _ _ hparts hφ,w00,Int.reduceLE,Int.reduceLT,Int.reduceBEq,decide_true,decide_false,if_true,w0a,if_false];refine(zrj _ _ (λb=>z7 φ ⟨_,_,b⟩)).trans ?_;unfold z7;rfl,λhb=>?_⟩;simp at hb
  case inr.inr.inr.inr.inr.inr.inr.inr.inr.inl=>refine⟨_,λφ hφ=>by unfold zz;simp only[hk,e1,w1,w2,w3,w4,w5,z6k φ _ _ hparts hφ,w00,Int.reduceLE,Int.reduceLT,Int.reduceBEq,decide_true,decide_false,if_true,w0a,if_false];refine(zrj _ _ (λb=>z7 φ ⟨_,_,b⟩)).trans ?_;unfold z7;rfl,λhb=>?_⟩;constructor<;>omega
  all_goals
   refine⟨_,λφ hφ=>by unfold zz;simp only[hk,e1,z6o,z58,z59,z5a,z5b,z5c,z17,z5e,z7,w1,w2,w3,w4,w5,w00,Int.reduceLE,Int.reduceLT,Int.reduceBEq,Int.reduceBNe,Int.reduceNe,decide_true,decide_false,if_true,w0a,if_false];rfl,λhb=>?_⟩;simp only[w04,decide_eq_true_eq,hm,beq_iff_eq,bne_iff_ne,ne_eq,w14] at hb
   first |(constructor<;>omega) |(simp at hb;done) |(simp at hb;constructor<;>omega)
def zm9(p:Pool)(it:Item):Bool:=((zz 2000 p it).getD (false,())).1
def y5h(it:Item):Bool:=((z7u 0 it).getD (false,())).1
theorem y3l(φ:Nat)(it:Item):z7u φ it=some (y5h it,()):=by unfold y5h z7u;split<;>rfl
def zoz(p:Pool)(it:Item):Bool:=y5h it&&zm9 p it
theorem ztq{p:Pool}(hc:z57 p=0){it:Item}(hparts:it.parts.length<=1000):(∀φ,1000<φ->zz φ p it=some (zm9 p it,()))/\(zm9 p it=true->y6a p it):=by
 obtain⟨hn,hf,h1,h2,h3,hb⟩:=zpv hc;obtain⟨n1,n2,_,_⟩:=zo4 hn;obtain⟨f1,f2,_⟩:=zdy hf;obtain⟨b,hφ,hok⟩:=yar p it hparts f2 h1 h2 n1 f1;have:zm9 p it=b:=by unfold zm9;rw[hφ 2000 (by omega)];rfl
 rw[this];exact⟨hφ,hok⟩
theorem y1k(φ:Nat)(hφ:800000<φ){p:Pool}(hc:z57 p=0){it:Item}(hparts:it.parts.length<=1000):zkm φ p it=some (bif zoz p it then 0 else 110,()):=by
 unfold zkm zoz;rw[z04 φ hφ,w00,if_neg (by simp[hc]),y3l,w00];cases y5h it with
 |false=>rfl
 |true=>rw[gz_t (by simp),(ztq hc hparts).1 φ (by omega),w00];cases zm9 p it<;>rfl
theorem ycb{p:Pool}(hc:z57 p=0){it:Item}(hparts:it.parts.length<=1000)(h:zoz p it=true):y6a p it:=by simp only[zoz,w04] at h;exact(ztq hc hparts).2 h.2
end Px
end
section
namespace Px
open Go
def inB(s:ByteArray)(c:Int):Bool:=(List.range s.size).any λ(i:Nat)=>z76 s (i:Int)==c
theorem y9s(φ:Nat)(s:ByteArray)(c:Int)(hs:s.size<=100):∀(n i:Nat),i<=s.size->s.size<n+i->((List.range i).any λ(j:Nat)=>z76 s (j:Int)==c)=false->zet φ n s c (i:Int)=some (inB s c,())
 |0,i,h1,h2,_=>by omega
 |n+1,i,h1,h2,h3=>by
  rw[zet];by_cases h:i<s.size
  .rw[if_pos (by simp;omega),z4 ⟨by omega,by omega⟩,W_id (by omega) (by omega)];by_cases hc :(z76 s (i:Int)==c)=true
   .rw[if_pos hc];have:inB s c=true:=w22.2 ⟨i,w1e.2 h,hc⟩;rw[this]
   .rw[if_neg hc];have:=y9s φ s c hs n (i+1) (by omega) (by omega) (by rw[w2t,w4j,h3];simpa using hc);simpa using this
  .rw[if_neg (by simp;omega)];have:i=s.size:=by omega
   subst this;unfold inB;rw[h3]
theorem yih(φ:Nat)(s:ByteArray)(c:Int)(hs:s.size<=100)(hφ:200<φ):zbj φ s c=some (inB s c,()):=by have:=y9s φ s c hs φ 0 (by omega) (by omega) (by simp);simpa[zbj] using this
def zwa(k:Int):ByteArray:=
 if k=1 then zlt else if k=2 then zf7 else if k=3\/k=4\/k=6 then z75 else if k=5 then zn5 else if k=7 then zf8 else if k=8 then zn2
 else if k=9 then zn3 else if k=10 then zv8 else if k=11\/k=12 then zls else if k=13 then zv7 else if k=15 then zn4 else⟨#[]⟩
theorem yij(φ:Nat)(k:Int):zmf φ k=some (zwa k,()):=by
 unfold zmf zdf zdg zwa;by_cases h1:k=1;· simp[h1]
 by_cases h2:k=2;· simp[h2]
 by_cases h3:k=3;· simp[h3]
 by_cases h4:k=4;· simp[h4]
 by_cases h5:k=5;· simp[h5]
 by_cases h6:k=6;· simp[h6]
 by_cases h7:k=7;· simp[h7]
 by_cases h8:k=8;· simp[h8]
 by_cases h9:k=9;· simp[h9]
 by_cases h10:k=10;· simp[h10]
 by_cases h11:k=11;· simp[h11]
 by_cases h12:k=12;· simp[h12]
 by_cases h13:k=13;· simp[h13]
 by_cases h15:k=15;· simp[h15]
 simp[h1,h2,h3,h4,h5,h6,h7,h8,h9,h10,h11,h12,h13,h15]
theorem ydn(k:Int):(zwa k).size<=8:=by
 unfold zwa
 repeat' split
 all_goals decide
def zp4(p:Pool)(it:Item):Bool:=bet it.place 0 ((p.network.places.length:Int)-1)&&(if it.kind=3\/it.kind=4 then(gt p.network.places it.place).kind==3 else if it.kind=9 then(gt p.network.places it.place).kind==5 else true)
def zrr(p:Pool)(it:Item):Bool:=if it.kind=1 then bet it.other 0 ((p.readers.length:Int)-1) else if it.kind=3\/it.kind=4 then(it.other==(gt p.network.places it.place).railway||it.other==(gt p.network.places it.place).other)
 else if it.kind=10 then bet it.other 0 63 else bet it.other 0 ((p.shippers.length:Int)-1)
def zl5(p:Pool)(it:Item):Bool:=if it.kind=5 then bet it.number 1 1000000000 else if it.kind=15 then bet it.number 0 ((p.fleet.types.length:Int)-1) else bet it.number 1 6
def y1f(it:Item):Bool:=if it.kind=3\/it.kind=4 then bet it.code 0 8 else if it.kind=6 then bet it.code 0 1 else if it.kind=8 then bet it.code 1 9 else bet it.code 1 2
def zh4(p:Pool)(it:Item)(c:Int):Bool:=
 if c=119 then bet it.wagon 0 ((p.fleet.wagons.length:Int)-1) else if c=112 then zp4 p it else if c=111 then zrr p it else if c=110 then zl5 p it else if c=102 then bet it.from_ 0 1073741824
 else if c=116 then bet it.to it.from_ 1073741824 else if c=99 then y1f it else if c=100 then bet it.dest 0 ((p.network.places.length:Int)-1) else if c=107 then bet it.class_ 0 63
 else if c=103 then(if it.kind=15 then bet it.weight 1 1000 else bet it.weight 0 1000000) else bet it.amount 0 1000000000
def zji(it:Item)(c:Int):Int:=if c=119 then it.wagon else if c=112 then it.place else if c=111 then it.other else if c=110 then it.number else if c=102 then it.from_ else if c=116 then it.to else if c=99 then it.code else if c=100 then it.dest else if c=107 then it.class_ else if c=103 then it.weight else it.amount
theorem ydw(φ:Nat)(it:Item)(c:Int):zes φ it c=some (zji it c,()):=by
 unfold zes zji;simp only[beq_iff_eq]
 repeat' split
 all_goals rfl
structure PSz(p:Pool):Prop where
 w:p.fleet.wagons.length<=4096
 r:p.readers.length<=256
 s:p.shippers.length<=256
 pl:p.network.places.length<=512
 t:p.fleet.types.length<=32
theorem ygr(φ:Nat){p:Pool}(hp:PSz p)(it:Item)(c:Int)(h:c=111->it.kind=3\/it.kind=4->0<=it.place/\it.place<(p.network.places.length:Int)):zev φ p it c=some (zh4 p it c,()):=by
 obtain⟨h1,h2,h3,h4,h5⟩:=hp;have w1:W ((p.fleet.wagons.length:Int)-1) =(p.fleet.wagons.length:Int)-1:=W_id (by omega) (by omega);have w2:W ((p.readers.length:Int)-1) =(p.readers.length:Int)-1:=W_id (by omega) (by omega);have w3:W ((p.shippers.length:Int)-1) =(p.shippers.length:Int)-1:=W_id (by omega) (by omega);have w4:W ((p.network.places.length:Int)-1) =(p.network.places.length:Int)-1:=W_id (by omega) (by omega);have w5:W ((p.fleet.types.length:Int)-1) =(p.fleet.types.length:Int)-1:=W_id (by omega) (by omega);unfold zev zh4;by_cases c1:c=119
 .simp[c1,z8,w1,bet]
 by_cases c2:c=112
 .simp only[c2,Int.reduceBEq,Int.reduceEq,if_false,if_true,w0a,znu,z8,w4,w00];unfold zp4;change _=some (bet it.place 0 ((p.network.places.length:Int)-1)&&_,());cases hb:bet it.place 0 ((p.network.places.length:Int)-1) with
  |false=>change (decide _&&decide _)=false at hb;rw[hb];rfl
  |true=>
   have hb2:=zta hb;change (decide _&&decide _)=true at hb;rw[hb];simp only[w25,w0a,if_false,w1o];rw[z4 (by omega)];unfold zbm;by_cases k3:it.kind=3
   .simp[k3]
   by_cases k4:it.kind=4
   .simp[k4]
   by_cases k9:it.kind=9
   .simp[k9]
   .simp[k3,k4,k9]
 by_cases c3:c=111
 .have hin:=h c3;simp only[c3,Int.reduceBEq,Int.reduceEq,if_false,if_true,w0a,znt,zbl,z8,w2,w3,w00];unfold zrr;by_cases k1:it.kind=1
  .simp[k1,bet]
  by_cases k3:it.kind=3
  .have:=hin (.inl k3)
   simp[k3,z4 this]
  by_cases k4:it.kind=4
  .have:=hin (.inr k4)
   simp[k4,z4 this]
  by_cases k10:it.kind=10
  .simp[k10,bet]
  .simp[k1,k3,k4,k10,bet]
 by_cases c4:c=110
 .simp only[c4,Int.reduceBEq,Int.reduceEq,if_false,if_true,w0a,zlg,z8,w5,w00];unfold zl5;by_cases k5:it.kind=5
  .simp[k5,bet]
  by_cases k15:it.kind=15
  .simp[k15,bet]
  .simp[k5,k15,bet]
 by_cases c5:c=102
 .simp[c5,z8,bet]
 by_cases c6:c=116
 .simp[c6,z8,bet]
 by_cases c7:c=99
 .simp only[c7,Int.reduceBEq,Int.reduceEq,if_false,if_true,w0a,zqq,zdh,z8,w00];unfold y1f;by_cases k3:it.kind=3
  .simp[k3,bet]
  by_cases k4:it.kind=4
  .simp[k4,bet]
  by_cases k6:it.kind=6
  .simp[k6,bet]
  by_cases k8:it.kind=8
  .simp[k8,bet]
  .simp[k3,k4,k6,k8,bet]
 by_cases c8:c=100
 .simp[c8,z8,w4,bet]
 by_cases c9:c=107
 .simp[c9,z8,bet]
 by_cases c10:c=103
 .by_cases k15:it.kind=15
  .simp[c10,k15,z8,bet]
  .simp[c10,k15,z8,bet]
 .simp[c1,c2,c3,c4,c5,c6,c7,c8,c9,c10,z8,bet]
def zcf(k:Int)(x:Part):Bool:=(bet x.kind 1 3&&bet x.serial 0 1073741824)&&!((k==10)&&x.fitted)
def zp3(it:Item):Bool:=(decide (it.parts.length<=16)&&!((it.kind==10)&&(it.parts.length==0)))&&it.parts.all (zcf it.kind)
theorem ygi(φ:Nat)(hφ:100<φ)(it:Item):zir φ it=some (zp3 it,()):=by
 unfold zir zp3;by_cases h:16<it.parts.length
 .rw[if_pos (by simp;omega)];rw[decide_eq_false (show ¬it.parts.length<=16 by omega)];rfl
 rw[decide_eq_true (show it.parts.length<=16 by omega),w1o];by_cases h2 :((it.kind==10)&&(it.parts.length==0))=true
 .rw[if_pos (by simp at h2⊢;exact .inr h2),h2];rfl
 .rw[if_neg (by simp at h2⊢;exact⟨by omega,h2⟩),w30 _ |>.mp h2];simp only[w2z,w1o];refine z0a (λn i(_:Unit)=>z6z φ n i it) it.parts.length (λi _=>(it.parts.take i).all (zcf it.kind)=true) (λo=>o=some (it.parts.all (zcf it.kind),())) ?_ ?_ φ () (by simp) (by omega)
  .intro n i _ hi hI hk;rw[z6z,if_pos (by simp;omega),z4 ⟨by omega,by omega⟩,W_id (by omega) (by omega)];have key:zcf it.kind (gt it.parts (i:Int))=false->it.parts.all (zcf it.kind)=false:=λhf=>by rw[w3j];exact⟨_,z79 (l:=it.parts) (i:=(i:Int)) (by omega) (by omega),by rw[hf];simp⟩
   have hnext:zcf it.kind (gt it.parts (i:Int))=true->(it.parts.take (i+1)).all (zcf it.kind)=true:=λht=>by rw[znz _ _ _ hi,hI,ht];rfl
   have e:zcf it.kind (gt it.parts (i:Int)) =((bet (gt it.parts (i:Int)).kind 1 3&&bet (gt it.parts (i:Int)).serial 0 1073741824)&&!((it.kind==10)&&(gt it.parts (i:Int)).fitted)):=rfl;rw[e] at key hnext;clear e;simp only[z8,w00];change ((z9 (default,()) ((!bet (gt it.parts (i:Int)).kind 1 3)=false) (some (bet (gt it.parts (i:Int)).serial 0 1073741824,()))).bind λy6=>if(((!bet (gt it.parts (i:Int)).kind 1 3)||(!y6.1))||(((it.kind:Int)==10)&&(gt it.parts (i:Int)).fitted))=true then _ else _)=_;generalize bet (gt it.parts (i:Int)).kind 1 3=a at *;generalize bet (gt it.parts (i:Int)).serial 0 1073741824=b at *;generalize (((it.kind:Int)==10)&&(gt it.parts (i:Int)).fitted)=d at *;cases a<;>cases b<;>cases d<;>simp only[z9,w25,w2z,w0a,Bool.true_eq_false,if_true,if_false,w00,Bool.or_true,Bool.true_or,w3t,w2c]
   all_goals first |(rw[key rfl])|exact hk () (hnext rfl)
  .intro n _ hI;rw[w23] at hI;rw[z6z,if_neg (by simp),hI]
def zpo(p:Pool)(it:Item)(u:ByteArray)(c:Int):Bool:=if inB u c=true then zh4 p it c else zji it c==0
def letB(i:Nat):Int:=z76 z49 (i:Int)
def zx1(it:Item)(u:ByteArray):Bool:=((inB u 120==(it.text !=(⟨#[]⟩:ByteArray)))&&decide ((it.text.size:Int)<=2000))&&(if inB u 113=true then(zp3 it||false) else((it.parts.length:Int)==0))
theorem ymc{u:ByteArray}{p:Pool}{it:Item}(hall :(List.range 2).all (λi=>zpo p it u (letB i))=true)(hu:inB u 112=true):0<=it.place/\it.place<(p.network.places.length:Int):=by have:=w0l.1 hall 1 (by simp);unfold zpo at this;rw[show letB 1=112 from by decide,if_pos hu] at this;unfold zh4 zp4 at this;simp at this;have h2:=zta this.1;omega
theorem y8c(φ:Nat)(hφ:300<φ){p:Pool}(hp:PSz p)(it:Item)(u:ByteArray)(hu:u.size<=8)(hk:it.kind=3\/it.kind=4->inB u 112=true):
  z3v φ φ u 0 p it=some (((List.range 11).all λi=>zpo p it u (letB i))&&zx1 it u,()):=by
 refine z0a (λn i(_:Unit)=>z3v φ n u i p it) 11 (λi _=>(List.range i).all (λi=>zpo p it u (letB i))=true) (λo=>o=some (((List.range 11).all λi=>zpo p it u (letB i))&&zx1 it u,())) ?_ ?_ φ () rfl (by omega)
 .intro n i _ hi hI hkk;have hsz:z49.size=11:=by decide
  have hl:∀b,zpo p it u (letB i)=b->(List.range (i+1)).all (λi=>zpo p it u (letB i))=b:=λb hb=>by rw[w2t,w3y,hI];simp[hb]
  have hbad:zpo p it u (letB i)=false->(((List.range 11).all λi=>zpo p it u (letB i))&&zx1 it u)=false:=λhf=>by
   have :((List.range 11).all λi=>zpo p it u (letB i))=false:=by rw[w3j];exact⟨i,w1e.2 hi,by rw[hf];simp⟩
   rw[this];rfl
  rw[z3v,if_pos (by simp;omega),z4 ⟨by omega,by rw[hsz];omega⟩,W_id (by omega) (by omega)];change ((zbj φ u (letB i)).bind λy11=>((z9 (default,()) (y11.1=true) (zev φ p it (letB i))).bind λy12=>((z9 (default,()) ((y11.1&&(!y12.1))=false) (zbj φ u (letB i))).bind λy13=>((z9 (default,()) ((y11.1&&(!y12.1))=false/\(!y13.1)=true) (zes φ it (letB i))).bind λy14=>(if((y11.1&&(!y12.1))||((!y13.1)&&((y14.1:Int) !=0)))=true then _ else _)))))=_;rw[yih φ u _ (by omega) (by omega),w00,ydw];have hr:letB i=111->it.kind=3\/it.kind=4->0<=it.place/\it.place<(p.network.places.length:Int):=by
   intro h1 h2;have hi2:2<=i:=by
    have hc:∀j:Nat,j<2->letB j≠111:=by decide
    by_cases hlt:i<2
    .exact absurd h1 (hc i hlt)
    .omega
   refine ymc (u:=u) (w0l.2 λj hj=>w0l.1 hI j (by simp at hj⊢;omega)) (hk h2)
  rw[ygr φ hp it _ hr];have e:zpo p it u (letB i)=if inB u (letB i)=true then zh4 p it (letB i) else zji it (letB i)==0:=rfl
  rw[e] at hl hbad;clear e;cases hin:inB u (letB i) with
  |true=>
   rw[if_pos hin] at hl hbad;cases hrb:zh4 p it (letB i) with
   |true=>simp[z9];exact hkk () (hl true hrb)
   |false=>rw[hbad hrb];simp[z9]
  |false=>
   rw[if_neg (by rw[hin];simp)] at hl hbad;by_cases hf:zji it (letB i)=0
   .have:=hkk () (hl true (by rw[hf];rfl))
    simp[z9,hf];exact this
   .rw[hbad (by simpa using hf)];simp[z9,hf]
 .intro n _ hI;rw[z3v,if_neg (by simp),hI,yih φ u _ (by omega) (by omega),yih φ u _ (by omega) (by omega),w00,w00,ygi φ (by omega),w1o];unfold zx1;cases h1:inB u 120==(it.text !=(⟨#[]⟩:ByteArray)) with
  |false=>rw[if_pos (by rw[w14];left;rw[bne,h1];rfl)];rfl
  |true=>
   by_cases h2 :(it.text.size:Int)<=2000
   .rw[if_neg (by rw[bne,h1];simp;omega),decide_eq_true h2];cases h3:inB u 113 with
    |true=>by_cases h4:it.parts = []<;>cases zp3 it<;>simp[z9,h4]
    |false=>by_cases h4 :(it.parts.length:Int)=0<;>simp[z9,h4]
   .rw[if_pos (by rw[w14];right;simp;omega),decide_eq_false h2];rfl
def zwu(it:Item):Bool:=if(it.ref.railway=0/\it.ref.no=0) then it.kind !=14 else(bet it.ref.railway 0 15&&bet it.ref.no 1 4096)
theorem zzu(φ:Nat)(it:Item):za8 φ it=some (zwu it,()):=by
 unfold za8 zwu;by_cases h:it.ref.railway=0/\it.ref.no=0
 .rw[if_pos (by simpa using h),if_pos h]
 .rw[if_neg (by simpa using h),if_neg h];simp only[z8,w00];change ((z9 (default,()) (bet it.ref.railway 0 15=true) (some (bet it.ref.no 1 4096,()))).bind λy3=>some (bet it.ref.railway 0 15&&y3.1,()))=_;cases bet it.ref.railway 0 15<;>rfl
theorem ykc(it:Item):y5h it=zwu it:=by
 unfold y5h zwu z7u;by_cases h:it.ref.railway=0/\it.ref.no=0
 .rw[if_pos (by simpa using h),if_pos h];rfl
 .rw[if_neg (by simpa using h),if_neg h];rw[w0p];simp[bet];omega
def zf0(p:Pool)(it:Item):Bool:=bet it.kind 1 15&&(((List.range 11).all λi=>zpo p it (zwa it.kind) (letB i))&&zx1 it (zwa it.kind))
theorem y9u(φ:Nat)(hφ:300<φ){p:Pool}(hp:PSz p)(it:Item):zb5 φ p it=some (y5h it&&zf0 p it,()):=by
 unfold zb5 zf0;rw[yij,w00,zzu,ykc,y8c φ hφ hp it _ (ydn _) (λh=>by
  have:it.kind=3\/it.kind=4\/it.kind=6:=by omega
  have h1:it.kind≠1:=by omega
  have h2:it.kind≠2:=by omega
  rw[zwa,if_neg h1,if_neg h2,if_pos this];decide)]
 simp only[z8,w00];change ((z9 (default,()) ((!bet it.kind 1 15)=false) (some (zwu it,()))).bind λy5=>if((!bet it.kind 1 15)||(!y5.1))=true then some (false,()) else _)=_;cases bet it.kind 1 15<;>cases zwu it<;>simp[z9]
end Px
end
section
namespace Px
open Go
set_option maxHeartbeats 4000000
def tabL(k:Int):List Int:=
 if k=1 then [119,111,102] else if k=2 then [119,112,102,116] else if k=3 then [119,112,111,102,99] else if k=4 then [119,112,111,102,99] else if k=5 then [110,119,111,112,100,107,103,102]
 else if k=6 then [119,112,111,102,99] else if k=7 then [119,112,111,102] else if k=8 then [119,102,99] else if k=9 then [119,112,102,116,99,97,113] else if k=10 then [111,113]
 else if k=11 then [110,102,120] else if k=12 then [110,102,120] else if k=13 then [110,102] else if k=15 then [111,112,107,110,103,102,116,97] else []
def zy1:List Int:=[119,112,111,110,102,116,99,100,107,103,97,120,113]
theorem yld :((List.range 16).all λk=>zy1.all λc=>inB (zwa (k:Int)) c==(tabL (k:Int)).contains c)=true:=by decide+kernel
theorem y4y{k c:Int}(h:1<=k/\k<=15)(hc:c∈zy1):inB (zwa k) c =(tabL k).contains c:=by have:=w0l.1 yld k.toNat (w1e.2 (by omega));have:=w0l.1 this c hc;rw[show ((k.toNat:Nat):Int)=k by omega] at this;simpa using this
def sB(p:Pool)(it:Item)(c:Int):Bool:=if(tabL it.kind).contains c=true then zh4 p it c else zji it c==0
def RF(p:Pool)(it:Item):Bool:=
 (sB p it 119&&(sB p it 112&&(sB p it 111&&(sB p it 110&&(sB p it 102&&(sB p it 116&&(sB p it 99&&(sB p it 100&&(sB p it 107&&(sB p it 103&&sB p it 97))))))))))&&
  ((((tabL it.kind).contains 120==(it.text !=(⟨#[]⟩:ByteArray)))&&decide ((it.text.size:Int)<=2000))&&(if(tabL it.kind).contains 113=true then zp3 it else((it.parts.length:Int)==0)))
theorem y3k(p:Pool)(it:Item)(h:1<=it.kind/\it.kind<=15):zf0 p it=RF p it:=by
 unfold zf0 RF zx1;rw[zt9.2 h,w1o,y4y h (c:=120) (by decide),y4y h (c:=113) (by decide),w3t];congr 1;have e:∀c∈zy1,zpo p it (zwa it.kind) c=sB p it c:=λc hc=>by unfold zpo sB;rw[y4y h hc]
 have r:List.range 11 = [0,1,2,3,4,5,6,7,8,9,10]:=by decide
 rw[r];simp only[w1a,List.all_nil,Bool.and_true];rw[show letB 0=119 from by decide,show letB 1=112 from by decide,show letB 2=111 from by decide,show letB 3=110 from by decide,show letB 4=102 from by decide,show letB 5=116 from by decide,show letB 6=99 from by decide,show letB 7=100 from by decide,show letB 8=107 from by decide,show letB 9=103 from by decide,show letB 10=97 from by decide];rw[e 119 (by decide),e 112 (by decide),e 111 (by decide),e 110 (by decide),e 102 (by decide),e 116 (by decide),e 99 (by decide),e 100 (by decide),e 107 (by decide),e 103 (by decide),e 97 (by decide)]
theorem zmq(s:ByteArray):(s==(⟨#[]⟩:ByteArray))=decide ((s.size:Int)=0):=by obtain⟨a⟩:=s;show (a==(#[]:Array UInt8))=decide ((a.size:Int)=0);rw[w0p];simp
theorem yfy(x:Part):zbw true x =(bet x.kind 1 3&&bet x.serial 0 1073741824):=by rw[w0p];unfold zbw;simp[bet];omega
theorem yfx(x:Part):zbw false x =((bet x.kind 1 3&&bet x.serial 0 1073741824)&&!x.fitted):=by rw[w0p];unfold zbw;cases x.fitted<;>simp[bet]<;>omega
theorem ycq(it:Item)(h:it.kind=9):zp3 it =(it.parts.all (zbw true)&&decide ((it.parts.length:Int)<=16)):=by
 have e:zcf it.kind=zbw true:=by funext x;rw[yfy];unfold zcf;rw[h];simp
 unfold zp3;rw[e,h];cases it.parts.all (zbw true) with
 |false=>simp
 |true=>simp;omega
theorem y7y(it:Item)(h:it.kind=10):zp3 it =((decide ((0:Int)<(it.parts.length:Int))&&it.parts.all (zbw false))&&decide ((it.parts.length:Int)<=16)):=by
 have e:zcf it.kind=zbw false:=by funext x;rw[yfx];unfold zcf;rw[h];simp
 unfold zp3;rw[e,h];cases it.parts.all (zbw false)
 .simp
 .generalize it.parts.length=m;rw[w0p];simp;omega
theorem yf3(p:Pool)(it:Item)(hp:PSz p)(hparts:it.parts.length<=1000)(hpk:∀x∈p.network.places,1<=x.kind):∃b,(∀φ,1000<φ->zz φ p it=some (b,()))/\b=zf0 p it:=by
 obtain⟨hw,hr,hs,hpl,ht⟩:=hp;have w1:W ((p.fleet.wagons.length:Int)-1) =(p.fleet.wagons.length:Int)-1:=W_id (by omega) (by omega);have w2:W ((p.readers.length:Int)-1) =(p.readers.length:Int)-1:=W_id (by omega) (by omega);have w3:W ((p.shippers.length:Int)-1) =(p.shippers.length:Int)-1:=W_id (by omega) (by omega);have w4:W ((p.network.places.length:Int)-1) =(p.network.places.length:Int)-1:=W_id (by omega) (by omega);have w5:W ((p.fleet.types.length:Int)-1) =(p.fleet.types.length:Int)-1:=W_id (by omega) (by omega);have hE :((⟨#[]⟩:ByteArray)=ByteArray.empty):=rfl;have hm:∀x z:Int,max2 x 0<=z↔x<=z/\0<=z:=by intro x z;unfold max2;split<;>omega
 by_cases hk0:it.kind<1
 .refine⟨false,λφ hφ=>?_,?_⟩
  .unfold zz z7;rw[if_pos (by simp;omega),if_pos (by simpa using hk0)];simp
  .unfold zf0;rw[show bet it.kind 1 15=false by rw[<- w30,zt9];omega];rfl
 by_cases hk16:15<it.kind
 .refine⟨false,λφ hφ=>?_,?_⟩
  .have e:∀k:Int,k<=15->(it.kind==k)=false:=λk hk=>by simp;omega
   unfold zz;rw[if_neg (by simp;omega)];simp[e,z17,z7]
  .unfold zf0;rw[show bet it.kind 1 15=false by rw[<- w30,zt9];omega];rfl
 rw[y3k p it (by omega)];have hcases:it.kind=1\/it.kind=2\/it.kind=3\/it.kind=4\/it.kind=5\/it.kind=6\/it.kind=7\/it.kind=8\/it.kind=9\/it.kind=10\/it.kind=11\/it.kind=12\/it.kind=13\/it.kind=14\/it.kind=15:=by omega
 by_cases hin:0<=it.place/\it.place<(p.network.places.length:Int)
 .have e1 :(decide ((0:Int)<=it.place)&&decide ((it.place:Int)<(p.network.places.length:Int)))=true:=by simp[hin]
  have hpk1:=hpk _ (z79 hin.1 hin.2);rcases hcases with hk|hk|hk|hk|hk|hk|hk|hk|hk|hk|hk|hk|hk|hk|hk
  case inr.inr.inr.inr.inr.inr.inr.inr.inl=>refine⟨_,λφ hφ=>by unfold zz;simp only[hk,e1,z5d,z4 hin,w1,w2,w3,w4,w5,z6k φ _ _ hparts hφ,w00,Int.reduceLE,Int.reduceLT,Int.reduceBEq,decide_true,decide_false,if_true,w0a,if_false];refine(zrj _ _ (λb=>z7 φ ⟨_,_,b⟩)).trans ?_;unfold z7;rfl,?_⟩;unfold RF sB;rw[ycq it hk];simp only[bne,zmq,hk,tabL,zh4,zji,zp4,zrr,zl5,y1f];rw[w0p];generalize it.parts.all (zbw true)=al;generalize it.text.size=n;generalize it.parts.length=m;cases al<;>simp[bet,hm,hE]<;>omega
  case inr.inr.inr.inr.inr.inr.inr.inr.inr.inl=>refine⟨_,λφ hφ=>by unfold zz;simp only[hk,e1,z4 hin,w1,w2,w3,w4,w5,z6k φ _ _ hparts hφ,w00,Int.reduceLE,Int.reduceLT,Int.reduceBEq,decide_true,decide_false,if_true,w0a,if_false];refine(zrj _ _ (λb=>z7 φ ⟨_,_,b⟩)).trans ?_;unfold z7;rfl,?_⟩;unfold RF sB;rw[y7y it hk];simp only[bne,zmq,hk,tabL,zh4,zji,zp4,zrr,zl5,y1f];rw[w0p];generalize it.parts.all (zbw false)=al;generalize it.text.size=n;generalize it.parts.length=m;cases al<;>simp[bet,hm,hE]<;>omega
  all_goals
   refine⟨_,λφ hφ=>by unfold zz;simp only[hk,e1,z6o,z58,z59,z5a,z5b,z5c,z17,z5e,z7,z4 hin,w1,w2,w3,w4,w5,w00,Int.reduceLE,Int.reduceLT,Int.reduceBEq,Int.reduceBNe,Int.reduceNe,decide_true,decide_false,if_true,w0a,if_false];rfl,?_⟩;unfold RF sB;simp only[bne,zmq,hk,tabL,zh4,zji,zp4,zrr,zl5,y1f];generalize it.text.size=n;generalize it.parts.length=m;rw[w0p];simp[bet,hm,hE];omega
 .have e1 :(decide ((0:Int)<=it.place)&&decide ((it.place:Int)<(p.network.places.length:Int)))=false:=by rw[<- w30];simpa using hin
  rcases hcases with hk|hk|hk|hk|hk|hk|hk|hk|hk|hk|hk|hk|hk|hk|hk
  case inr.inr.inr.inr.inr.inr.inr.inr.inl=>refine⟨_,λφ hφ=>by unfold zz;simp only[hk,e1,z5d,w1,w2,w3,w4,w5,z6k φ _ _ hparts hφ,w00,Int.reduceLE,Int.reduceLT,Int.reduceBEq,decide_true,decide_false,if_true,w0a,if_false];refine(zrj _ _ (λb=>z7 φ ⟨_,_,b⟩)).trans ?_;unfold z7;rfl,?_⟩;unfold RF sB;rw[ycq it hk];simp only[bne,zmq,hk,tabL,zh4,zji,zp4,zrr,zl5,y1f];rw[w0p];generalize it.parts.all (zbw true)=al;generalize it.text.size=n;generalize it.parts.length=m;cases al<;>simp[bet,hm,hE]<;>omega
  case inr.inr.inr.inr.inr.inr.inr.inr.inr.inl=>refine⟨_,λφ hφ=>by unfold zz;simp only[hk,e1,w1,w2,w3,w4,w5,z6k φ _ _ hparts hφ,w00,Int.reduceLE,Int.reduceLT,Int.reduceBEq,decide_true,decide_false,if_true,w0a,if_false];refine(zrj _ _ (λb=>z7 φ ⟨_,_,b⟩)).trans ?_;unfold z7;rfl,?_⟩;unfold RF sB;rw[y7y it hk];simp only[bne,zmq,hk,tabL,zh4,zji,zp4,zrr,zl5,y1f];rw[w0p];generalize it.parts.all (zbw false)=al;generalize it.text.size=n;generalize it.parts.length=m;cases al<;>simp[bet,hm,hE]<;>omega
  all_goals
   refine⟨_,λφ hφ=>by unfold zz;simp only[hk,e1,z6o,z58,z59,z5a,z5b,z5c,z17,z5e,z7,w1,w2,w3,w4,w5,w00,Int.reduceLE,Int.reduceLT,Int.reduceBEq,Int.reduceBNe,Int.reduceNe,decide_true,decide_false,if_true,w0a,if_false];rfl,?_⟩;unfold RF sB;simp only[bne,zmq,hk,tabL,zh4,zji,zp4,zrr,zl5,y1f];generalize it.text.size=n;generalize it.parts.length=m;rw[w0p];simp[bet,hm,hE];omega
theorem psz{p:Pool}(hc:z57 p=0):PSz p/\∀x∈p.network.places,1<=x.kind:=by obtain⟨hn,hf,h1,h2,h3,_⟩:=zpv hc;obtain⟨n1,n2,n3,n4⟩:=zo4 hn;obtain⟨f1,f2,f3⟩:=zdy hf;refine⟨⟨by omega,by omega,by omega,by omega,by omega⟩,λx hx=>?_⟩;have:=n3 x hx;unfold za0 at this;simp only[w04] at this;exact(zta this.1.1).1
theorem ye0(φ:Nat)(hφ:300<φ){p:Pool}(hc:z57 p=0){it:Item}(hparts:it.parts.length<=1000):zb5 φ p it=some (zoz p it,()):=by obtain⟨hp,hk⟩:=psz hc;rw[y9u φ hφ hp];obtain⟨b,h1,h2⟩:=yf3 p it hp hparts hk;have h3:=(ztq hc hparts).1 2000 (by omega);rw[h1 2000 (by omega)] at h3;simp only[w01,w0e,and_true] at h3;unfold zoz;rw[<- h2,h3]
end Px
end
section
namespace Px
open Go
theorem z6c(φ:Nat)(a b c:Int):zl φ a b c=some (bet a b c,()):=rfl
theorem zux(φ:Nat)(l:List Wash)(hl:l.length<=4096)(hφ:5000<φ):zbx φ l=some (bif z7d l then 0 else 1,()):=by
 unfold zbx;rw[z4 (mk_t _ _ (by omega) (by omega) (by omega))];refine z0a (λn i t=>z6b φ n l i t) l.length
  (λi t=>(List.range i).all (z51 l)=true/\t.length=4096/\∀j:Int,0<=j->j<4096->gt t j =(l.take i).any λv=>keyW v==j)
  (λo=>o=some (bif z7d l then 0 else 1,())) ?_ ?_ φ _ ⟨by simp,by rw[List.length_replicate];rfl,λj h0 h1=>by rw[y1z _ _ _ h0 (by rw[show (4096:Int).toNat=4096 from rfl];omega)];simp⟩ (by omega)
 .intro n i t hi ⟨h1,h2,h3⟩ hs;have hW:W ((i:Int)+1) =(i:Int)+1:=W_id (by omega) (by omega);have hsucc:=zbe (z51 l) i;have hbad:z51 l i=false->z7d l=false:=by intro h;unfold z7d;rw[w3j];exact⟨i,by simp;omega,by simp[h]⟩
  rw[z6b,if_pos (by simp;omega),z4 ⟨by omega,by omega⟩];simp only[z6c,w00,z9];have hok:y2p (gt l i) =(bet (gt l i).from_ 0 63&&bet (gt l i).to 0 63&&((gt l i).from_ !=(gt l i).to)&&bet (gt l i).minutes 0 100000):=rfl;have hne :((gt l i).from_==(gt l i).to) = !((gt l i).from_ !=(gt l i).to):=by simp[bne]
  rw[hne];cases hw:y2p (gt l i) with
  |false=>rw[hbad (by simp[z51,hw])];rw[hw] at hok;clear hne hs h3;generalize bet (gt l i).from_ 0 63=a at *;generalize bet (gt l i).to 0 63=b at *;generalize ((gt l i).from_ !=(gt l i).to)=c at *;generalize bet (gt l i).minutes 0 100000=d at *;cases a<;>cases b<;>cases c<;>cases d<;>first|rfl|exact absurd hok (by decide)
  |true=>
   rw[hw] at hok;have hb:=hok.symm;simp only[w04] at hb;obtain⟨⟨⟨b1,b2⟩,b3⟩,b4⟩:=hb;have c1:=zta b1;have c2:=zta b2;have e1:W (64*(gt l i).from_)=64*(gt l i).from_:=W_id (by omega) (by omega);have e2:W (W (64*(gt l i).from_)+(gt l i).to)=keyW (gt l i):=by rw[e1];exact W_id (by omega) (by omega)
   have hk:0<=keyW (gt l i)/\keyW (gt l i)<4096:=by unfold keyW;omega
   simp only[b1,b2,b3,b4,w25,w3t,if_true,e2,Bool.or_self,w0a,if_false];rw[z4 ⟨hk.1,by omega⟩,h3 _ hk.1 hk.2];have hat:z51 l i = !(l.take i).any λv=>keyW v==keyW (gt l i):=by simp only[z51,hw,w1o]
   cases ha :(l.take i).any λv=>keyW v==keyW (gt l i) with
   |true=>rw[hbad (by rw[hat,ha];rfl)];rfl
   |false=>
    rw[if_neg (by simp),z4 ⟨hk.1,by omega⟩,hW];refine hs _ ⟨by rw[hsucc,h1,hat,ha];rfl,by rw[zf1,h2],λj j0 j1=>?_⟩;rw[zop _ _ _ _ hk.1 (by omega) j0,zhb _ _ _ hi,h3 j j0 j1];by_cases e:j=keyW (gt l i)
    .simp[e]
    .have :(keyW (gt l i)==j)=false:=by simp;exact λh=>e h.symm
     simp[e,this]
 .intro n t ⟨h1,h2,h3⟩;rw[z6b,if_neg (by simp)];unfold z7d;rw[h1];rfl
theorem zvs(φ:Nat)(hφ:5000<φ)(x:zc4):zif φ x=some (z6m x,()):=by
 have e :(((decide (32<(x.types.length:Int))||decide (4096<(x.wagons.length:Int)))||decide (1024<(x.swaps.length:Int)))||decide (4096<(x.washes.length:Int))) =
   (decide (32<x.types.length)||decide (4096<x.wagons.length)||decide (1024<x.swaps.length)||decide (4096<x.washes.length)):=by
  congr 1
  .congr 1
   .congr 1<;>(apply decide_eq_decide.2;omega)
   .apply decide_eq_decide.2;omega
  .apply decide_eq_decide.2;omega
 unfold zif z6m;rw[e];cases h :(decide (32<x.types.length)||decide (4096<x.wagons.length)||decide (1024<x.swaps.length)||decide (4096<x.washes.length)) with
 |true=>rfl
 |false=>
  simp only[w1i,decide_eq_false_iff_not,w4l] at h;obtain⟨⟨⟨h1,h2⟩,h3⟩,h4⟩:=h;have hp:W ((x.types.length:Int)-1) =(x.types.length:Int)-1:=W_id (by omega) (by omega);rw[if_neg (by simp)];rw[z7c (λn i=>z6x φ n i x) (z5j φ φ 0 x) (some (1,())) x.types (λt=>!zmz t) ?_ ?_ φ (by omega)]
  .rw[z7c (λn i=>z5j φ n i x) (z3u φ φ 0 x) (some (1,())) x.wagons (λt=>!zg8 x.types.length t) ?_ ?_ φ (by omega)]
   .rw[z7c (λn i=>z3u φ n i x) ((zbx φ x.washes).bind λy=>some (y.1,())) (some (1,())) x.swaps (λt=>!zp1 x.types.length t) ?_ ?_ φ (by omega)]
    .rw[zux _ _ h4 hφ];simp only[w00];simp only[w3g,Bool.not_not];cases x.types.all zmz<;>cases x.wagons.all (zg8 x.types.length)<;>cases x.swaps.all (zp1 x.types.length)<;>cases z7d x.washes<;>rfl
    .intro n i hi;have hW:W ((i:Int)+1) =(i:Int)+1:=W_id (by omega) (by omega);have hne :((gt x.swaps i).wanted==(gt x.swaps i).given) = !((gt x.swaps i).wanted !=(gt x.swaps i).given):=by simp[bne]
     rw[z3u,if_pos (by simp;omega),z4 ⟨by omega,by omega⟩];simp only[z6c,w00,zp1,z9,hW,hp,hne];cases bet (gt x.swaps i).wanted 0 ((x.types.length:Int)-1)<;>cases bet (gt x.swaps i).given 0 ((x.types.length:Int)-1)<;>cases ((gt x.swaps i).wanted !=(gt x.swaps i).given)<;>
      cases bet (gt x.swaps i).cost 0 1000000000<;>rfl
    .intro n;rw[z3u,if_neg (by simp)]
   .intro n i hi;have hW:W ((i:Int)+1) =(i:Int)+1:=W_id (by omega) (by omega);rw[z5j,if_pos (by simp;omega),z4 ⟨by omega,by omega⟩];simp only[zcg,z6c,w00,zg8,z9,hW,hp];cases bet (gt x.wagons i).type_ 0 ((x.types.length:Int)-1)<;>cases bet (gt x.wagons i).owner 0 63<;>cases bet (gt x.wagons i).home 0 511<;>
     cases bet (gt x.wagons i).built 0 1073741824<;>cases bet (gt x.wagons i).worth 0 1099511627776<;>rfl
   .intro n;rw[z5j,if_neg (by simp)]
  .intro n i hi;have hW:W ((i:Int)+1) =(i:Int)+1:=W_id (by omega) (by omega);rw[z6x,if_pos (by simp;omega),z4 ⟨by omega,by omega⟩];simp only[zer,z6c,w00,zmz,z9,hW];cases bet (gt x.types i).load 0 1000000<;>cases bet (gt x.types i).tare 0 1000000<;>cases bet (gt x.types i).length 0 1000000<;>cases bet (gt x.types i).brake 0 1000000<;>
    cases bet (gt x.types i).gauge 0 7<;>cases bet (gt x.types i).life 1 1073741824<;>cases bet (gt x.types i).floor 0 100<;>rfl
  .intro n;rw[z6x,if_neg (by simp)]
theorem yi6(b n:Nat):pw (b % PP) n=pw b n:=by unfold pw;rw[<- Nat.pow_mod]
theorem yn5(b n:Nat):pw (b*b % PP) n=pw b (2*n):=by rw[yi6];unfold pw;rw[Nat.pow_mul,Nat.pow_two]
theorem y9o(φ:Nat):∀(m:Nat)(a b c n:Nat),m<=64->b<2 ^ m->m<n->a<PP->c<PP->z3m φ n (a:Int) (b:Int) 2305843009213690799 (c:Int)=some ((((c+a*b) % PP:Nat):Int),()):=by
 intro m
 induction m with
 |zero=>
  intro a b c n hm64 hb hn ha hc;obtain⟨n,rfl⟩:∃n',n=n'+1:=⟨n-1,by omega⟩;have:b=0:=by simpa using hb
  subst this;rw[z3m,if_neg (by simp),Nat.mul_zero,w31,w2m hc]
 |succ m ih=>
  intro a b c n hm64 hb hn ha hc;obtain⟨n,rfl⟩:∃n',n=n'+1:=⟨n-1,by omega⟩;by_cases h0:b=0
  .subst h0;rw[z3m,if_neg (by simp),Nat.mul_zero,w31,w2m hc]
  .rw[z3m,if_pos (by simp;omega),if_pos (by decide :(2:Int)≠0)];have e1 :(b:Int).tdiv 2 =((b / 2:Nat):Int):=by rw[w35 (by omega)];omega
   have e2 :(b:Int).tmod 2 =((b % 2:Nat):Int):=by rw[w1u (by omega)];omega
   have hbl :(b / 2:Nat)<2 ^ m:=by rw[Nat.pow_succ] at hb;omega
   have h64 :(2:Nat) ^ m<=2 ^ 63:=Nat.pow_le_pow_right (by decide) (by omega);have hb2:U ((b / 2:Nat):Int) =((b / 2:Nat):Int):=U_id (by omega) (by omega);have ha0:=ha;have hc0:=hc;unfold PP at ha hc;have e3 :(U ((a:Int)+(a:Int))).tmod 2305843009213690799 =(((a+a) % PP:Nat):Int):=by rw[U_id (by omega) (by omega),w1u (by omega)];unfold PP;omega
   have e4 :(U ((c:Int)+(a:Int))).tmod 2305843009213690799 =(((c+a) % PP:Nat):Int):=by rw[U_id (by omega) (by omega),w1u (by omega)];unfold PP;omega
   unfold za2;rw[e1,e2,e3,e4,hb2];have hab:a*b =(a+a)*(b / 2)+a*(b % 2):=by
    conv=>lhs;rw[<- w4f b 2]
    rw[Nat.mul_add,<- w51];congr 1;rw[Nat.mul_two]
   have hfin:∀c':Nat,(c'+(a+a) % PP*(b / 2)) % PP =(c'+(a+a)*(b / 2)) % PP:=λc'=>by rw[Nat.add_mod,Nat.mul_mod,Nat.mod_mod,<- Nat.mul_mod,<- Nat.add_mod]
   have hlt:∀z:Nat,z % PP<PP:=λz=>w3o _ (by decide)
   rcases w3u b with hbit|hbit
   .rw[hbit,if_neg (by simp),z4 (by omega),if_pos (by decide :(2:Int)≠0),ih ((a+a) % PP) (b / 2) c n (by omega) hbl (by omega) (hlt _) hc0,hfin,hab,hbit,Nat.mul_zero,w31]
   .rw[hbit,if_pos (by simp),z4 (by omega),z4 (by omega),if_pos (by decide :(2:Int)≠0),ih ((a+a) % PP) (b / 2) ((c+a) % PP) n (by omega) hbl (by omega) (hlt _) (hlt _),hfin,hab,hbit,Nat.mul_one,Nat.mod_add_mod,show c+a+(a+a)*(b / 2)=c+((a+a)*(b / 2)+a) by omega]
theorem zn0(φ:Nat)(hφ:70<φ)(a b:Nat)(ha:a<PP)(hb:b<PP):zep φ (a:Int) (b:Int) 2305843009213690799=some (((a*b % PP:Nat):Int),()):=by unfold zep;have h64:b<2 ^ 64:=Nat.lt_trans hb (by decide);have:=y9o φ 64 a b 0 φ (by omega) h64 (by omega) ha (by decide);rw[w18] at this;exact this
theorem ygl(φ:Nat)(hφ:100<φ):∀(m:Nat)(a e c n:Nat),m<=64->e<2 ^ m->m<n->a<PP->c<PP->z6l φ n (a:Int) (e:Int) (c:Int)=some (((c*pw a e % PP:Nat):Int),()):=by
 intro m
 induction m with
 |zero=>
  intro a e c n _ he hn ha hc;obtain⟨n,rfl⟩:∃n',n=n'+1:=⟨n-1,by omega⟩;have:e=0:=by simpa using he
  subst this;rw[z6l,if_neg (by simp),zy8,Nat.mul_one,w2m hc]
 |succ m ih=>
  intro a e c n hm64 he hn ha hc;obtain⟨n,rfl⟩:∃n',n=n'+1:=⟨n-1,by omega⟩;by_cases h0:e=0
  .subst h0;rw[z6l,if_neg (by simp),zy8,Nat.mul_one,w2m hc]
  .rw[z6l,if_pos (by simp;omega),if_pos (by decide :(2:Int)≠0)];have e1 :(e:Int).tdiv 2 =((e / 2:Nat):Int):=by rw[w35 (by omega)];omega
   have e2 :(e:Int).tmod 2 =((e % 2:Nat):Int):=by rw[w1u (by omega)];omega
   have hel :(e / 2:Nat)<2 ^ m:=by rw[Nat.pow_succ] at he;omega
   have h64 :(2:Nat) ^ m<=2 ^ 63:=Nat.pow_le_pow_right (by decide) (by omega);have hU:U ((e / 2:Nat):Int) =((e / 2:Nat):Int):=U_id (by omega) (by omega);have hlt:∀z:Nat,z % PP<PP:=λz=>w3o _ (by decide)
   unfold zd4;rw[e1,e2,hU,zn0 φ (by omega) a a ha ha];have hab:pw a e=pw (a*a % PP) (e / 2)*pw a (e % 2) % PP:=by rw[yn5,ycx,w4f]
   rcases w3u e with hbit|hbit
   .rw[hbit,if_neg (by simp),w00,if_pos (by decide :(2:Int)≠0),ih _ _ _ n (by omega) hel (by omega) (hlt _) hc,hab,hbit,zy8,Nat.mul_one,w2m (y5p _ _)]
   .rw[hbit,if_pos (by simp),zn0 φ (by omega) c a hc ha,w00,w00,if_pos (by decide :(2:Int)≠0),ih _ _ _ n (by omega) hel (by omega) (hlt _) (hlt _),hab,hbit,yi7,w2m ha];congr 2;rw[Nat.mod_mul_mod,Nat.mul_mod_mod,w51,w54 a]
theorem y2s(φ:Nat)(hφ:100<φ)(b n:Nat)(hn:n<18446744073709551616):zp8 φ (b:Int) (n:Int)=some (((pw b n:Nat):Int),()):=by
 unfold zp8;rw[if_pos (by decide :(2305843009213690799:Int)≠0)];have hbm :((b:Int)).tmod 2305843009213690799 =((b % PP:Nat):Int):=by rw[w1u (by omega)];unfold PP;omega
 rw[hbm];have:=ygl φ hφ 64 (b % PP) n 1 φ (by omega) (by simpa using hn) (by omega) (w3o _ (by decide)) (by decide);rw[yi6,w3v,w2m (y5p _ _)] at this;exact this
theorem zvo(φ:Nat)(hφ:100<φ)(x:Int):zi3 φ x=some (y92 x,()):=by
 unfold zi3 y92;cases h:decide (2<=x)&&decide (x<2305843009213690799) with
 |false=>rw[gz_f (by simp)];simp
 |true=>simp only[w04,decide_eq_true_eq] at h;have:=y2s φ hφ x.toNat QQ (by decide);rw[show ((x.toNat:Nat):Int)=x by omega,show ((QQ:Nat):Int)=1152921504606845399 by decide] at this;rw[gz_t rfl,this,w00,zuj]
theorem zjo(φ:Nat)(a b c:Int):z2e φ a b c=some (bet a b c,()):=rfl
theorem zvr(φ:Nat)(p:z94):zic φ p=some (za0 p,()):=by
 unfold zic za0;simp only[zjo,w00];cases bet p.kind 1 5 with
 |false=>rfl
 |true=>
  rw[gz_t (by simp),w00];cases bet p.railway 0 15 with
  |false=>rfl
  |true=>
   rw[if_neg (by simp)];cases h:p.kind==3 with
   |false=>rfl
   |true=>rfl
theorem zyn(φ:Nat)(e:Edge)(n:Int)(h:W (n-1)=n-1):zmc φ e n=some (zfp n e,()):=by unfold zmc zfp;simp only[zjo,w00,h,z9];cases bet e.a 0 (n-1)<;>cases bet e.b 0 (n-1)<;>cases (e.a !=e.b)<;>cases bet e.railway 0 15<;>cases bet e.minutes 1 100000<;>cases bet e.km 0 10000<;>rfl
theorem zvq(φ:Nat)(hφ:5000<φ)(x:z8a):zi9 φ x=some (zdz x,()):=by
 unfold zi9 zdz;rw[y7p];cases h:decide (512<x.places.length)||decide (2048<x.edges.length) with
 |true=>rfl
 |false=>
  simp only[w1i,decide_eq_false_iff_not,w4l] at h;rw[if_neg (by simp),z7c (λn i=>z6w φ n i x) (z5i φ φ 0 x) (some (1,())) x.places (λt=>!za0 t) ?_ ?_ φ (by omega)]
  .rw[z7c (λn i=>z5i φ n i x) (some (0,())) (some (1,())) x.edges (λt=>!zfp x.places.length t) ?_ ?_ φ (by omega)]
   .simp only[w3g,Bool.not_not];cases x.places.all za0<;>cases x.edges.all (zfp x.places.length)<;>rfl
   .intro n i hi;rw[z5i,if_pos (by simp;omega),z4 ⟨by omega,by omega⟩,zyn _ _ _ (W_id (by omega) (by omega)),w00,W_id (by omega) (by omega)];cases zfp x.places.length (gt x.edges i)<;>rfl
   .intro n;rw[z5i,if_neg (by simp)]
  .intro n i hi;rw[z6w,if_pos (by simp;omega),z4 ⟨by omega,by omega⟩,zvr,w00,W_id (by omega) (by omega)];cases za0 (gt x.places i)<;>rfl
  .intro n;rw[z6w,if_neg (by simp)]
def zeo(l:List Int)(i:Nat):Int:=if i=0 then-1 else gt l ((i:Int)-1)
theorem ye6(φ:Nat)(c:z61):∀(n i:Nat),-1<=zeo c.holidays i->(i:Int)<=zeo c.holidays i+1->zeo c.holidays i<=745654->i<=c.holidays.length->745656<=(n:Int)+zeo c.holidays i->z6v φ n i c=some (bif y2o (zeo c.holidays i) (c.holidays.drop i) then 0 else 1,()):=by
 intro n
 induction n with
 |zero=>intro i _ _ _ _ _;omega
 |succ n ih=>
  intro i hp hip hp2 hi hn;by_cases h:i=c.holidays.length
  .rw[z6v,if_neg (by rw[h];simp),h,List.drop_length];rfl
  .have hW:W ((i:Int)-1) =(i:Int)-1:=W_id (by omega) (by omega);rw[z6v,if_pos (by simp;omega),z4 ⟨by omega,by omega⟩,hW,z4 (λh=>by have:=h.2;simp at this;omega),yah _ _ (by omega)];have hc :((decide ((gt c.holidays i)<0)||decide (745654<(gt c.holidays i)))||(decide (0<(i:Int))&&decide ((gt c.holidays i)<=(gt c.holidays ((i:Int)-1))))) = !(decide (zeo c.holidays i<gt c.holidays i)&&decide (gt c.holidays i<=745654)):=by
    unfold zeo at *;rw[w0p];by_cases h0:i=0
    .subst h0;simp;omega
    .rw[if_neg h0] at *;simp;omega
   rw[hc];cases hb:decide (zeo c.holidays i<gt c.holidays i)&&decide (gt c.holidays i<=745654) with
   |false=>rw[if_pos (by simp)];simp[y2o,hb]
   |true=>
    rw[if_neg (by simp),W_id (by omega) (by omega)];have hpe:zeo c.holidays (i+1)=gt c.holidays i:=by unfold zeo;rw[if_neg (by omega)];congr 1;omega
    have hb':=hb;simp only[w04,decide_eq_true_eq] at hb';have:=ih (i+1) (by rw[hpe];omega) (by rw[hpe];omega) (by rw[hpe];omega) (by omega) (by rw[hpe];omega);rw[hpe,show ((i+1:Nat):Int) =(i:Int)+1 by omega] at this;rw[this];simp[y2o,hb]
theorem zvp(φ:Nat)(hφ:800000<φ)(c:z61):zi6 φ c=some (bif zqe c then 0 else 1,()):=by
 unfold zi6;refine z0a (λn i(_:Unit)=>z6u φ n i c) 7 (λi _=>((List.range i).all λj=>zp0 (c.open_ j))=true) (λo=>o=some (bif zqe c then 0 else 1,())) ?_ ?_ φ () (by simp) (by omega)
 .intro n i _ hi h hs;rw[z6u,if_pos (by simp;omega),z4 ⟨by omega,by omega⟩,w1v,zo3,W_id (by omega) (by omega)];cases ho:zp0 (c.open_ i) with
  |true=>rw[if_neg (by simp)];exact hs () (by rw[zbe,h,ho];rfl)
  |false=>
   have:zqe c=false:=by
    unfold zqe;have :((List.range 7).all λj=>zp0 (c.open_ j))=false:=by rw[w3j];exact⟨i,by simp;omega,by simp[ho]⟩
    rw[this];rfl
   rw[if_pos (by simp),this];rfl
 .intro n _ h;rw[z6u,if_neg (by simp)];unfold zqe;rw[h,w1o];have:=ye6 φ c φ 0 (by simp[zeo]) (by simp[zeo]) (by simp[zeo]) (by omega) (by simp[zeo];omega);simpa[zeo] using this
theorem zyu(φ:Nat)(hφ:800000<φ)(x:Pool)(h1:x.network.places.length<=512)(h2:x.fleet.wagons.length<=4096)(h3:x.readers.length<=256)(h4:x.shippers.length<=256):
  zmd φ x=some (!((x.readers.any (z8d x.network.places.length)||x.shippers.any (z7s x.network))||x.fleet.wagons.any (λw=>decide ((x.network.places.length:Int)<=w.home))),()):=by
 have hp:W ((x.network.places.length:Int)-1) =(x.network.places.length:Int)-1:=W_id (by omega) (by omega);unfold zmd;rw[z7c (λn i=>z81 φ n (x.network.places.length:Int) i x) (z5k φ φ (x.network.places.length:Int) 0 x) (some (false,())) x.readers (z8d x.network.places.length) ?_ ?_ φ (by omega)]
 rotate_left
 .intro n i hi;rw[z81,if_pos (by simp;omega),z4 ⟨by omega,by omega⟩,hp,W_id (by omega) (by omega),z6c,w00];show (if z8d x.network.places.length (gt x.readers i)=true then some (false,()) else _)=_;cases z8d x.network.places.length (gt x.readers i)<;>rfl
 .intro n;rw[z81,if_neg (by simp)]
 rw[z7c (λn i=>z5k φ n (x.network.places.length:Int) i x) (z5l φ φ (x.network.places.length:Int) 0 x) (some (false,())) x.shippers (z7s x.network) ?_ ?_ φ (by omega)]
 rotate_left
 .intro n i hi;rw[z5k,if_pos (by simp;omega),z4 ⟨by omega,by omega⟩,hp,W_id (by omega) (by omega),z6c,w00,z4 (λ_=>⟨by omega,by omega⟩),z4 (λh=>by simp only[Bool.not_eq_false'] at h;have:=zta h;omega)];show (if z7s x.network (gt x.shippers i)=true then some (false,()) else _)=_;cases z7s x.network (gt x.shippers i)<;>rfl
 .intro n;rw[z5k,if_neg (by simp)]
 rw[z7c (λn i=>z5l φ n (x.network.places.length:Int) i x) (some (true,())) (some (false,())) x.fleet.wagons (λw=>decide ((x.network.places.length:Int)<=w.home)) ?_ ?_ φ (by omega)]
 rotate_left
 .intro n i hi;rw[z5l,if_pos (by simp;omega),z4 ⟨by omega,by omega⟩,W_id (by omega) (by omega)];cases decide ((x.network.places.length:Int)<=(gt x.fleet.wagons i).home)<;>rfl
 .intro n;rw[z5l,if_neg (by simp)]
 cases x.readers.any (z8d x.network.places.length)<;>cases x.shippers.any (z7s x.network)<;>cases x.fleet.wagons.any (λw=>decide ((x.network.places.length:Int)<=w.home))<;>rfl
theorem zvt(φ:Nat)(hφ:800000<φ)(x:Pool)(h1:x.network.places.length<=512)(h2:x.network.edges.length<=2048):
  zii φ x=some (!(x.network.places.any (λp=>decide ((x.railways.length:Int)<=p.railway)||decide ((x.railways.length:Int)<=p.other))||x.network.edges.any (λe=>decide ((x.railways.length:Int)<=e.railway))),()):=by
 unfold zii;rw[z7c (λn i=>z6y φ n (x.railways.length:Int) i x) (z5m φ φ (x.railways.length:Int) 0 x) (some (false,())) x.network.places (λp=>decide ((x.railways.length:Int)<=p.railway)||decide ((x.railways.length:Int)<=p.other)) ?_ ?_ φ (by omega)]
 rotate_left
 .intro n i hi;rw[z6y,if_pos (by simp;omega),z4 ⟨by omega,by omega⟩,W_id (by omega) (by omega)];cases decide ((x.railways.length:Int)<=(gt x.network.places i).railway)||decide ((x.railways.length:Int)<=(gt x.network.places i).other)<;>rfl
 .intro n;rw[z6y,if_neg (by simp)]
 rw[z7c (λn i=>z5m φ n (x.railways.length:Int) i x) (some (true,())) (some (false,())) x.network.edges (λe=>decide ((x.railways.length:Int)<=e.railway)) ?_ ?_ φ (by omega)]
 rotate_left
 .intro n i hi;rw[z5m,if_pos (by simp;omega),z4 ⟨by omega,by omega⟩,W_id (by omega) (by omega)];cases decide ((x.railways.length:Int)<=(gt x.network.edges i).railway)<;>rfl
 .intro n;rw[z5m,if_neg (by simp)]
 cases x.network.places.any (λp=>decide ((x.railways.length:Int)<=p.railway)||decide ((x.railways.length:Int)<=p.other))<;>cases x.network.edges.any (λe=>decide ((x.railways.length:Int)<=e.railway))<;>rfl
theorem z0d(φ:Nat)(hφ:800000<φ)(x:Pool):z69 φ x=some (z57 x,()):=by
 unfold z69 z57;rw[zvq _ (by omega),w00];by_cases hn:zdz x.network=0
 case neg=>rw[if_pos (by simp[hn]),if_pos hn]
 rw[if_neg (by simp[hn]),if_neg (λe:zdz x.network≠0=>e hn),zvs _ (by omega),w00];by_cases hf:z6m x.fleet=0
 case neg=>rw[if_pos (by simp[hf]),if_pos hf]
 rw[if_neg (by simp[hf]),if_neg (λe:z6m x.fleet≠0=>e hf)];cases hb:zhc x with
 |true=>have e :(((decide (256<(x.readers.length:Int))||decide (256<(x.shippers.length:Int)))||decide (16<(x.railways.length:Int))))=zhc x:=rfl;rw[e,hb];rfl
 |false=>
  have hb':¬(((decide (256<(x.readers.length:Int))||decide (256<(x.shippers.length:Int)))||decide (16<(x.railways.length:Int)))=true):=by rw[show (((decide (256<(x.readers.length:Int))||decide (256<(x.shippers.length:Int)))||decide (16<(x.railways.length:Int))))=zhc x from rfl,hb];simp
  rw[if_neg hb'];simp only[w14,decide_eq_true_eq,not_or] at hb';obtain⟨n1,n2,_,_⟩:=zo4 hn;obtain⟨f1,f2,_⟩:=zdy hf;rw[zyu φ hφ _ n1 f2 (by omega) (by omega),w00,zvt φ hφ _ n1 n2];have hL:z1f φ φ 0 x=bif x.railways.any zn8 then some (1,()) else(if(((x.railways.length:Int):Int)==0)=true then(some (1,())) else(some (0,()))):=by
   refine z7c (λn i=>z1f φ n i x) (if(((x.railways.length:Int):Int)==0)=true then(some (1,())) else(some (0,()))) (some (1,())) x.railways zn8 ?_ ?_ φ (by omega)
   .intro n i hi;rw[z1f,if_pos (by simp;omega),z4 ⟨by omega,by omega⟩,W_id (by omega) (by omega),zvp _ hφ,w00,z4 (λ_=>⟨by omega,by omega⟩)];unfold zn8;cases zqe (gt x.railways i).calendar with
    |false=>rw[gz_f (by simp)];rfl
    |true=>rw[gz_t (by simp),zvo _ (by omega),w00];cases y92 (gt x.railways i).key<;>rfl
   .intro n;rw[z1f,if_neg (by simp)]
  rw[hL];unfold zn7;cases x.readers.any (z8d x.network.places.length)<;>cases x.shippers.any (z7s x.network)<;>cases x.fleet.wagons.any (λw=>decide ((x.network.places.length:Int)<=w.home))<;>
   cases x.network.places.any (λp=>decide ((x.railways.length:Int)<=p.railway)||decide ((x.railways.length:Int)<=p.other))<;>cases x.network.edges.any (λe=>decide ((x.railways.length:Int)<=e.railway))<;>
   cases x.railways.any zn8<;>cases ((x.railways.length:Int)==0)<;>rfl
end Px
end
section
namespace Px
open Go
set_option maxRecDepth 100000
theorem yh4(φ:Nat)(v:List Int)(y:Int->Int->Option Int):z55 φ v y=y4w φ v y:=by kernel_rfl
theorem ydd(φ:Nat)(v:List z3)(y:z3->z3->Option Int):z2v φ v y=y4w φ v y:=by kernel_rfl
structure PH(p:Pool)(l:List z5):Prop where
 pool:z57 p=0
 len:l.length<=100
 parts:∀r∈l,r.item.parts.length<=1000
def okR(p:Pool)(k:Int)(r:z5):Bool:=((r.item.kind:Int)==k)&&zoz p r.item
def hofL(p:Pool)(l:List z5)(k:Int):List Int:=((List.range l.length).filter λi:Nat=>okR p k (gt l (i:Int))).map λi:Nat=>(i:Int)
theorem zm5{p:Pool}{l:List z5}{k x:Int}: x∈hofL p l k↔0<=x/\x<(l.length:Int)/\okR p k (gt l x)=true:=by
 unfold hofL;simp only[w0f,w0o,w1e];constructor
 .rintro⟨i,⟨h1,h2⟩,rfl⟩;exact⟨by omega,by omega,h2⟩
 .rintro⟨h0,h1,h2⟩;refine⟨x.toNat,⟨by omega,?_⟩,by omega⟩;rw[show ((x.toNat:Nat):Int)=x by omega];exact h2
theorem z9q(p:Pool)(l:List z5)(k:Int):(hofL p l k).length<=l.length:=by unfold hofL;rw[w10];exact w2a (List.length_filter_le _ _) (by simp)
theorem zqi(i:Nat):List.range (i+1)=List.range i++[i]:=w2t
theorem of_eq(φ:Nat)(hφ:800000<φ){p:Pool}{l:List z5}(h:PH p l)(k:Int):znk φ p l k=some (hofL p l k,()):=by
 have hl:=h.len;unfold znk;refine z0a (λn i acc=>z67 φ n k l (l.length:Int) i p acc) l.length (λi acc=>acc =((List.range i).filter λi:Nat=>okR p k (gt l (i:Int))).map λi:Nat=>(i:Int)) (λo=>o=some (hofL p l k,())) ?_ ?_ φ [] rfl (by omega)
 .intro n i acc hi ha hk;have hg:=h.parts _ (z79 (l:=l) (i:=(i:Int)) (by omega) (by omega));have hal:acc.length<=100:=by rw[ha,w10];exact w2a (List.length_filter_le _ _) (by simp;omega)
  rw[z67,if_pos (by simp;omega),z4 ⟨by omega,by omega⟩,W_id (x:=(i:Int)+1) (by omega) (by omega)];have hnext:okR p k (gt l (i:Int))=false->acc =((List.range (i+1)).filter λi:Nat=>okR p k (gt l (i:Int))).map λi:Nat=>(i:Int):=λq=>by rw[zqi,w29,w28,<- ha];simp[q]
  cases hkk :(((gt l (i:Int)).item.kind:Int)==k) with
  |false=>unfold z9;rw[if_neg (by simp),w00,if_neg (by simp)];exact hk acc (hnext (by unfold okR;rw[hkk];rfl))
  |true=>
   rw[zjs rfl,y1k φ hφ h.pool hg,w00];cases ho:zoz p (gt l (i:Int)).item with
   |false=>rw[if_neg (by simp)];exact hk acc (hnext (by unfold okR;rw[hkk,ho];rfl))
   |true=>
    rw[if_pos (by simp),z4 (z78 (by simp;omega) (by omega))];refine hk _ ?_;rw[zqi,w29,w28,<- ha];have:okR p k (gt l (i:Int))=true:=by unfold okR;rw[hkk,ho];rfl
    simp[this]
 .intro n acc ha;rw[z67,if_neg (by simp),ha];rfl
theorem zo2(φ:Nat)(h:3<=φ)(a b:Ref):z18 φ a b=some (or2 (cmpI a.railway b.railway) (cmpI a.no b.no),()):=by unfold z18;simp only[zlx,w00];rw[ykn φ h];rfl
def ltD(l:List z5)(i k:Int):Bool:=decide ((gt l i).item.from_<(gt l k).item.from_)||(decide ((gt l i).item.from_ =(gt l k).item.from_)&&zg6 (gt l i).ref (gt l k).ref)
theorem zqa{l:List z5}{i k:Int}: ltD l i k=true↔(gt l i).item.from_<(gt l k).item.from_\/((gt l i).item.from_ =(gt l k).item.from_/\((gt l i).ref.railway<(gt l k).ref.railway\/((gt l i).ref.railway =(gt l k).ref.railway/\(gt l i).ref.no<(gt l k).ref.no))):=by simp[ltD,zl3]
theorem yht{l:List z5}{i k:Int}: ltD l i k=false↔¬((gt l i).item.from_<(gt l k).item.from_\/((gt l i).item.from_ =(gt l k).item.from_/\((gt l i).ref.railway<(gt l k).ref.railway\/((gt l i).ref.railway =(gt l k).ref.railway/\(gt l i).ref.no<(gt l k).ref.no)))):=by rw[<- zqa];simp
theorem zv9(l:List z5):Swo (ltD l) where
 asym:=λa b h=>by rw[yht];rw[zqa] at h;omega
 ntr:=λa b c h1 h2=>by rw[yht] at *;omega
theorem ya9(φ:Nat)(h:3<=φ)(l:List z5):Cmp (λi:Int=>0<=i/\i<(l.length:Int)) (λa b=>(z4o φ a b l).bind λr=>(some r.1)) (ltD l):=by
 intro a b ha hb;refine⟨or2 (cmpI (gt l a).item.from_ (gt l b).item.from_) (or2 (cmpI (gt l a).ref.railway (gt l b).ref.railway) (cmpI (gt l a).ref.no (gt l b).ref.no)),?_,?_⟩
 .show ((z4o φ a b l).bind λr=>(some r.1))=_;unfold z4o;rw[z4 ha,z4 hb];simp only[zlx,zo2 φ h,w00];rw[z4 ha,z4 hb,ykn φ h];rfl
 .rw[w0p,decide_eq_true_eq,zus,zus,ze0,ze0,ze0,znc,znc,zqa]
def delL(p:Pool)(l:List z5):List Int:=zsi (ltD l) (hofL p l 3)
theorem zoa{p:Pool}{l:List z5}{x:Int}: x∈delL p l↔x∈hofL p l 3:=(zaz _ _).mem_iff
theorem zxg(p:Pool)(l:List z5):(delL p l).length<=l.length:=by unfold delL;rw[(zaz _ _).length_eq];exact z9q p l 3
theorem yex(φ:Nat)(hφ:10000<φ){p:Pool}{l:List z5}(h:PH p l):z55 φ (hofL p l 3) (λa b=>(z4o φ a b l).bind λr=>(some r.1))=some (delL p l):=by rw[yh4];have hl:=z9q p l 3;have:=h.len;obtain⟨r,h1,h2,h3⟩:=zt0 (zv9 l) (ya9 φ (by omega) l) φ (hofL p l 3) (λz hz=>by have:=zm5.1 hz;exact⟨this.1,this.2.1⟩) (by omega) (by omega);rw[h3,zh7 (zv9 l) h1 h2];rfl
def proB(p:Pool)(r:z5):Bool:=((r.ref.railway:Int) !=r.item.other)&&(((((gt p.network.places r.item.place).railway:Int)==r.ref.railway)&&(((gt p.network.places r.item.place).other:Int)==r.item.other))||((((gt p.network.places r.item.place).railway:Int)==r.item.other)&&(((gt p.network.places r.item.place).other:Int)==r.ref.railway)))
def gapI(a b:z5):Int:=max2 (W (a.item.from_-b.item.from_)) (W (b.item.from_-a.item.from_))
theorem yhl(φ:Nat)(a b:z5):zbu φ a b=some (gapI a b,()):=rfl
def fitR(l:List z5)(U:Int->Bool)(d:z5)(k:Int):Bool:=!(((((U k||(((gt l k).ref.railway:Int) !=d.item.other))||(((gt l k).item.other:Int) !=d.ref.railway))||(((gt l k).item.wagon:Int) !=d.item.wagon))||(((gt l k).item.place:Int) !=d.item.place)))&&!decide ((60:Int)<gapI d (gt l k))
def notW(l:List z5)(d:z5)(best k:Int):Bool:=decide ((0:Int)<=best)&&decide (or2 (cmpI (gapI d (gt l best)) (gapI d (gt l k))) (or2 (cmpI (gt l best).ref.railway (gt l k).ref.railway) (cmpI (gt l best).ref.no (gt l k).ref.no))<=0)
def zs0(l:List z5)(U:Int->Bool)(d:z5)(best k:Int):Int:=if fitR l U d k=true then(if notW l d best k=true then best else k) else best
def zqg(l:List z5)(U:Int->Bool)(d:z5)(R:List Int):Int:=R.foldl (zs0 l U d) (-1)
theorem zt5(l:List z5)(U:Int->Bool)(d:z5):∀(R:List Int)(b:Int),R.foldl (zs0 l U d) b=b\/R.foldl (zs0 l U d) b∈R
 | [],b=>.inl rfl
 |k::R,b=>by
  rcases zt5 l U d R (zs0 l U d b k) with h|h
  .rw[w1r,h];unfold zs0;split
   .split
    .exact .inl rfl
    .exact .inr (by simp)
   .exact .inl rfl
  .exact .inr (by simp[h])
def prA(i k:Int):Nat->Int:=upd (upd (λ_=>(default:Int)) 0 i) 1 k
theorem y2q(φ:Nat)(hφ:10000<φ)(k15)(p:Pool){l:List z5}(hl:l.length<=100)(i:Int)(n0 j:Int)(R:List Int)(hR:∀k∈R,0<=k/\k<(l.length:Int))(hRl:R.length<=100)(used:List (Int×Bool))(out:List (Nat->Int))(ho:out.length<=1000)(d:z5)(D:List Int):
  z05 φ k15 φ i (-1) n0 j (R.length:Int) 0 p l R used out d D =
   (if 0<=zqg l (λk=>(cget kl_0 used k).getD (default:Bool)) d R then k15 n0 (W (j+1)) p l R (cset kl_0 used (zqg l (λk=>(cget kl_0 used k).getD (default:Bool)) d R) true) (out++[prA i (zqg l (λk=>(cget kl_0 used k).getD (default:Bool)) d R)]) D
    else k15 n0 (W (j+1)) p l R used out D):=by
 refine(z9x (λn q best=>z05 φ k15 n i best n0 j (R.length:Int) q p l R used out d D) (λbest=>if 0<=best then k15 n0 (W (j+1)) p l R (cset kl_0 used best true) (out++[prA i best]) D else k15 n0 (W (j+1)) p l R used out D) R (zs0 l (λk=>(cget kl_0 used k).getD (default:Bool)) d) (λ_ best=>best=-1\/best∈R) ?_ ?_ φ (-1) (.inl rfl) (by omega)).1
 .intro n q best hq hb;have hkR:=z79 (l:=R) (i:=(q:Int)) (by omega) (by omega);have hk:=hR _ hkR;refine⟨?_,?_⟩
  .rw[z05,if_pos (by simp;omega),z4 ⟨by omega,by omega⟩,z4 hk,W_id (x:=(q:Int)+1) (by omega) (by omega)];generalize gt R (q:Int)=k at *;unfold zs0 fitR;cases hc :((((((cget kl_0 used k).getD (default:Bool))||(((gt l k).ref.railway:Int) !=d.item.other))||(((gt l k).item.other:Int) !=d.ref.railway))||(((gt l k).item.wagon:Int) !=d.item.wagon))||(((gt l k).item.place:Int) !=d.item.place)) with
   |true=>unfold z9;rw[if_neg (by simp),w00,if_pos (by simp),if_neg (by simp)]
   |false=>
    rw[zjs rfl,yhl,w00];simp only[w2c];by_cases hg :(60:Int)<gapI d (gt l k)
    .rw[if_pos (by simpa using hg),if_neg (by simp[hg])]
    .rw[if_neg (by simpa using hg),if_pos (by simp[hg])];have hbr :(decide ((0:Int)<=best)=true)->(0:Int)<=best/\best<(l.length:Int):=λh=>by
      rcases hb with rfl|hb
      .simp at h
      .exact hR _ hb
     rw[z4 hbr];unfold notW;by_cases h0 :(0:Int)<=best
     .have hd:decide ((0:Int)<=best)=true:=decide_eq_true h0;rw[hd,zjs rfl,yhl,w00];rw[zjs rfl];rw[w00,zjs rfl,zlx,w00,z4 (λ_=>hbr hd),zjs rfl,zo2 φ (by omega),w00,zjs rfl,ykn φ (by omega),w00];simp only[w1o];split<;>rfl
     .have hd:decide ((0:Int)<=best)=false:=decide_eq_false h0;rw[hd];unfold z9;simp only[w0a,if_false,w00,w4s];rw[z4 (λh=>by cases h)]
  .unfold zs0;split
   .split
    .exact hb
    .exact .inr hkR
   .exact hb
 .intro n best _;rw[z05,if_neg (by simp)];by_cases h0 :(0:Int)<=best
  .rw[if_pos (by simpa using h0),if_pos h0,z4 (z78 (by simp;omega) (by omega))];rfl
  .rw[if_neg (by simpa using h0),if_neg h0]
end Px
end
section
namespace Px
open Go
set_option maxRecDepth 100000
theorem PH.item{p:Pool}{l:List z5}(h:PH p l){k x:Int}(hx:x∈hofL p l k):(0<=x/\x<(l.length:Int))/\(gt l x).item.kind=k/\y6a p (gt l x).item:=by obtain⟨h1,h2,h3⟩:=zm5.1 hx;unfold okR at h3;simp only[w04,beq_iff_eq] at h3;exact⟨⟨h1,h2⟩,h3.1,ycb h.pool (h.parts _ (z79 h1 h2)) h3.2⟩
def zk0(o:List (Int×Int))(k:Int):Bool:=o.any λx=>x.2==k
def zqf(p:Pool)(l:List z5)(R:List Int)(o:List (Int×Int))(i:Int):List (Int×Int):=if proB p (gt l i)=true then(if 0<=zqg l (zk0 o) (gt l i) R then o++[(i,zqg l (zk0 o) (gt l i) R)] else o) else o
def ygg(p:Pool)(l:List z5)(R:List Int)(s:List (Int×Bool)×List (Int×Int))(i:Int):List (Int×Bool)×List (Int×Int):=if proB p (gt l i)=true then(if 0<=zqg l (zk0 s.2) (gt l i) R then(cset kl_0 s.1 (zqg l (zk0 s.2) (gt l i) R) true,s.2++[(i,zqg l (zk0 s.2) (gt l i) R)]) else s) else s
theorem yco(p:Pool)(l:List z5)(R:List Int):∀(D:List Int)(s:List (Int×Bool)×List (Int×Int)),(D.foldl (ygg p l R) s).2=D.foldl (zqf p l R) s.2
 | [],s=>rfl
 |i::D,s=>by
  rw[w1r,w1r,yco p l R D];congr 1;unfold ygg zqf;split
  .split<;>rfl
  .rfl
def z16(p:Pool)(l:List z5):List (Int×Int):=(delL p l).foldl (zqf p l (hofL p l 4)) []
def prM(o:List (Int×Int)):List (Nat->Int):=o.map λx=>prA x.1 x.2
theorem of_r(φ:Nat)(p:Pool)(l:List z5)(k:Int):z4y φ p l k=znk φ p l k:=by kernel_rfl
theorem y7x(φ:Nat)(hφ:800000<φ){p:Pool}{l:List z5}(h:PH p l):z5g φ p l=some (prM (z16 p l),()):=by
 unfold z5g;rw[z04 φ hφ,w00,h.pool,if_neg (by simp),of_r,of_r,of_eq φ hφ h,of_eq φ hφ h,w00,w00,yex φ (by omega) h,w00];have hlen:=h.len;have hD:=zxg p l;have hRl:=z9q p l 4;have hR:∀k∈hofL p l 4,0<=k/\k<(l.length:Int):=λk hk=>(h.item hk).1
 have key:=(z9x (λn q s=>z1e φ n ((delL p l).length:Int) q p l (hofL p l 4) s.1 (prM s.2) (delL p l)) (λs=>some (prM s.2,())) (delL p l) (ygg p l (hofL p l 4))
  (λi s=>OkS s.1/\(∀k,(s.1.map (·.1)).contains k=zk0 s.2 k)/\s.2.length<=i) ?_ ?_ φ ([],[]) ⟨OkS.nil,λk=>rfl,by simp⟩ (by omega)).1
 .refine key.trans ?_;rw[yco];rfl
 .intro n q s hq ⟨hs1,hs2,hs3⟩;have hm:=z79 (l:=delL p l) (i:=(q:Int)) (by omega) (by omega);obtain⟨hi,hk,hI⟩:=h.item (zoa.1 hm);have hpl:=hI.place (by omega);have hU :(λk=>(cget kl_0 s.1 k).getD (default:Bool))=zk0 s.2:=funext λk=>by rw[hs1.get,hs2]
  rw[z1e,if_pos (by simp;omega),z4 ⟨by omega,by omega⟩,z4 hi,W_id (x:=(q:Int)+1) (by omega) (by omega)];generalize gt (delL p l) (q:Int)=i at *;unfold ze7;rw[z4 hpl,w00];unfold ygg;by_cases hp:proB p (gt l i)=true
  .have hp':=hp;unfold proB at hp';rw[if_pos hp,hp',if_neg (by simp),y2q φ (by omega) _ p hlen i _ (q:Int) _ hR (by omega) s.1 _ (by simp[prM];omega),hU,W_id (x:=(q:Int)+1) (by omega) (by omega)];have hin:=zt5 l (zk0 s.2) (gt l i) (hofL p l 4) (-1);by_cases h0:0<=zqg l (zk0 s.2) (gt l i) (hofL p l 4)
   .rw[if_pos h0,if_pos h0];refine⟨by simp[prM],hs1.set _,?_,by simp;omega⟩;intro k;rw[w0p,List.contains_iff_mem];have:=hs2 k;rw[w0p,List.contains_iff_mem] at this;generalize zqg l (zk0 s.2) (gt l i) (hofL p l 4)=b at *;unfold zk0 at this⊢;rw[w4j,w14,<- this];simp only[w0f,w3s,List.any_nil,w3t,beq_iff_eq];constructor
    .rintro⟨x,hx,rfl⟩;rcases(z62 hs1.1).1 hx with rfl|⟨hx,_⟩
     .exact .inr rfl
     .exact .inl ⟨x,hx,rfl⟩
    .rintro(⟨x,hx,rfl⟩|rfl)
     .by_cases e:x.1=b
      .exact⟨(b,true),(z62 hs1.1).2 (.inl rfl),e.symm⟩
      .exact⟨x,(z62 hs1.1).2 (.inr ⟨hx,λg=>e (y57 g).symm⟩),rfl⟩
     .exact⟨(b,true),(z62 hs1.1).2 (.inl rfl),rfl⟩
   .rw[if_neg h0,if_neg h0];exact⟨rfl,hs1,hs2,by omega⟩
  .have hp':proB p (gt l i)=false:=by simpa using hp
   rw[if_neg hp];unfold proB at hp';rw[hp',if_pos (by simp)];exact⟨rfl,hs1,hs2,by omega⟩
 .intro n s _;rw[z1e,if_neg (by simp)]
end Px
end
section
namespace Px
open Go
set_option maxRecDepth 100000
theorem ykm(φ:Nat)(h:6<=φ)(a b c:Int):zo5 φ [a,b,c]=some (or2 a (or2 b c),()):=by
 obtain⟨n,rfl⟩:∃n,φ=n+6:=⟨φ-6,by omega⟩;show _=some (if a≠0 then a else if b≠0 then b else c,());unfold zo5;rw[zbr,if_pos (by simp),z4 ⟨by omega,by simp⟩];show (if(a !=0)=true then _ else _)=_;by_cases h1:a=0
 .rw[if_neg (by simp[h1]),if_neg (by simp[h1]),zbr,if_pos (by simp[y0k]),z4 ⟨by simp[y0k],by simp[y0k]⟩];show (if(b !=0)=true then _ else _)=_;by_cases h2:b=0
  .rw[if_neg (by simp[h2]),if_neg (by simp[h2]),zbr,if_pos (by simp[y0k]),z4 ⟨by simp[y0k],by simp[y0k]⟩];show (if(c !=0)=true then _ else _)=_;by_cases h3:c=0
   .rw[if_neg (by simp[h3]),zbr,if_neg (by simp[y0k]),h3]
   .rw[if_pos (by simp[h3])];rfl
  .rw[if_pos (by simp[h2]),if_pos (by simp[h2])];rfl
 .rw[if_pos (by simp[h1]),if_pos (by simp[h1])];rfl
def ltH(a b:z3):Bool:=decide (or2 (cmpI a.at_ b.at_) (or2 (cmpI a.wagon b.wagon) (or2 (cmpI a.deliver.railway b.deliver.railway) (cmpI a.deliver.no b.deliver.no)))<0)
theorem zuc{a b:z3}: ltH a b=true↔a.at_<b.at_\/(a.at_=b.at_/\(a.wagon<b.wagon\/(a.wagon=b.wagon/\(a.deliver.railway<b.deliver.railway\/(a.deliver.railway=b.deliver.railway/\a.deliver.no<b.deliver.no))))):=by unfold ltH;rw[decide_eq_true_eq,zus,zus,zus,ze0,ze0,ze0,ze0,znc,znc,znc]
theorem yhu{a b:z3}: ltH a b=false↔¬(a.at_<b.at_\/(a.at_=b.at_/\(a.wagon<b.wagon\/(a.wagon=b.wagon/\(a.deliver.railway<b.deliver.railway\/(a.deliver.railway=b.deliver.railway/\a.deliver.no<b.deliver.no)))))):=by rw[<- zuc];simp
theorem zrc:Swo ltH where
 asym:=λa b h=>by rw[yhu];rw[zuc] at h;omega
 ntr:=λa b c h1 h2=>by rw[yhu] at *;omega
theorem y1e(φ:Nat)(h:6<=φ):Cmp (λ_:z3=>True) (λa b=>(z4m φ a b).bind λr=>(some r.1)) ltH:=by intro a b _ _;refine⟨or2 (cmpI a.at_ b.at_) (or2 (cmpI a.wagon b.wagon) (or2 (cmpI a.deliver.railway b.deliver.railway) (cmpI a.deliver.no b.deliver.no))),?_,rfl⟩;show ((z4m φ a b).bind λr=>(some r.1))=_;unfold z4m;simp only[zlx,zo2 φ (by omega),w00];rw[ykm φ h];rfl
def yb9(d r:z5):z3:=⟨d.item.wagon,d.item.place,d.ref.railway,r.ref.railway,W (((W (d.item.from_+r.item.from_)):Int).tdiv 2),max2 d.item.code r.item.code,d.ref,r.ref⟩
def rawL(p:Pool)(l:List z5):List z3:=(z16 p l).map λx=>yb9 (gt l x.1) (gt l x.2)
def zh1(p:Pool)(l:List z5):List z3:=zsi ltH (rawL p l)
theorem zut{p:Pool}{l:List z5}{x:Int×Int}(hx:x∈z16 p l):x.1∈delL p l/\x.2∈hofL p l 4/\proB p (gt l x.1)=true:=by
 have key:∀(D:List Int)(o:List (Int×Int)),x∈D.foldl (zqf p l (hofL p l 4)) o->x∈o\/(x.1∈D/\x.2∈hofL p l 4/\proB p (gt l x.1)=true):=by
  intro D
  induction D with
  |nil=>exact λo h=>.inl h
  |cons i D ih=>
   intro o h;rw[w1r] at h;rcases ih _ h with h|⟨h1,h2⟩
   .unfold zqf at h;split at h
    .rename_i hp;split at h
     .rename_i h0;rcases w0j.1 h with h|h
      .exact .inl h
      .simp only[w0x] at h;have hin:=zt5 l (zk0 o) (gt l i) (hofL p l 4) (-1);refine .inr ?_;rw[h];refine⟨by simp,?_,hp⟩;rcases hin with hin|hin
       .unfold zqg at h0;omega
       .exact hin
     .exact .inl h
    .exact .inl h
   .exact .inr ⟨w0r _ h1,h2⟩
 rcases key _ _ hx with h|h
 .cases h
 .exact h
theorem zl6(p:Pool)(l:List z5):(z16 p l).length<=l.length:=by
 have key:∀(D:List Int)(o:List (Int×Int)),(D.foldl (zqf p l (hofL p l 4)) o).length<=o.length+D.length:=by
  intro D
  induction D with
  |nil=>intro o;simp
  |cons i D ih=>
   intro o;rw[w1r];have h1:=ih (zqf p l (hofL p l 4) o i);have h2 :(zqf p l (hofL p l 4) o i).length<=o.length+1:=by
    unfold zqf;split
    .split<;>simp
    .omega
   rw[w0m];omega
 have:=key (delL p l) [];have:=zxg p l;unfold z16;simp at *;omega
theorem prA0(i k:Int):prA i k ((0:Int).toNat)=i:=rfl
theorem prA1(i k:Int):prA i k ((1:Int).toNat)=k:=rfl
theorem y6c(φ:Nat)(hφ:800000<φ){p:Pool}{l:List z5}(h:PH p l):z0h φ p l=some (zh1 p l,()):=by
 unfold z0h;rw[y7x φ hφ h,w00];have hlen:=h.len;have hP:=zl6 p l;have hPM :(prM (z16 p l)).length =(z16 p l).length:=by simp[prM]
 have key:=(z9x (λn q s=>z22 φ n l (prM (z16 p l)) ((prM (z16 p l)).length:Int) q s) (λs=>(z2v φ s (λa b=>(z4m φ a b).bind λr=>(some r.1))).bind λy25=>(some (y25,()))) (z16 p l) (λs x=>s++[yb9 (gt l x.1) (gt l x.2)])
  (λi s=>s.length=i) ?_ ?_ φ [] rfl (by omega)).1
 .refine key.trans ?_;have hf:∀(X:List (Int×Int))(s:List z3),X.foldl (λs x=>s++[yb9 (gt l x.1) (gt l x.2)]) s=s++X.map λx=>yb9 (gt l x.1) (gt l x.2):=by
   intro X
   induction X with
   |nil=>simp
   |cons x X ih=>intro s;rw[w1r,ih];simp
  rw[hf,w2u,ydd];show ((y4w φ (rawL p l) _).bind _)=_;have hr :(rawL p l).length<=100:=by unfold rawL;simp;omega
  obtain⟨r,h1,h2,h3⟩:=zt0 zrc (y1e φ (by omega)) φ (rawL p l) (λ_ _=>trivial) (by omega) (by omega);rw[h3,zh7 zrc h1 h2];rfl
 .intro n q s hq hs;have hm:=z79 (l:=z16 p l) (i:=(q:Int)) (by omega) (by omega);obtain⟨m1,m2,_⟩:=zut hm;have i1:=(h.item (zoa.1 m1)).1;have i2:=(h.item m2).1;have hg:gt (prM (z16 p l)) (q:Int)=prA (gt (z16 p l) (q:Int)).1 (gt (z16 p l) (q:Int)).2:=by rw[z8i (by omega),z8i hq];simp[prM]
  refine⟨?_,by simp[hs]⟩;rw[z22,if_pos (by simp;omega),z4 ⟨by omega,by omega⟩,hg];unfold z4v;rw[prA0,prA1,z4 i1,z4 i2];unfold z4w;rw[if_pos (by omega),z4 (z78 (by simp;omega) (by omega)),W_id (x:=(q:Int)+1) (by omega) (by omega)];rfl
 .intro n s _;rw[z22,if_neg (by simp[hPM])]
def yfl(c:List z6):z6:=gt c ((c.length:Int)-1)
def y1c(w:Int)(c:List z6)(h:z3):List z6:=if(((h.wagon:Int)==w)&&((h.from_:Int)==(yfl c).railway)&&(decide ((yfl c).span.from_<h.at_)))=true then c++[(⟨h.to,(⟨h.at_,0⟩:Span),h.receive⟩:z6)] else c
def yba(p:Pool)(w:Int):z6:=⟨(gt p.network.places ((gt p.fleet.wagons w).home)).railway,(⟨0,0⟩:Span),(⟨0,0⟩:Ref)⟩
def z9f(p:Pool)(l:List z5)(w:Int):List z6:=(zh1 p l).foldl (y1c w) [yba p w]
theorem zqd(p:Pool)(l:List z5):(zh1 p l).length<=l.length:=by unfold zh1;rw[(zaz _ _).length_eq];unfold rawL;rw[w10];exact zl6 p l
theorem zsq(φ:Nat)(hφ:800000<φ){p:Pool}{l:List z5}(h:PH p l){w:Int}(hw:0<=w/\w<(p.fleet.wagons.length:Int))(hh:0<=(gt p.fleet.wagons w).home/\(gt p.fleet.wagons w).home<(p.network.places.length:Int)):
  z8j φ p l w=some (z9f p l w,())/\1<=(z9f p l w).length/\(z9f p l w).length<=l.length+1/\gt (z9f p l w) 0=yba p w:=by
 have hlen:=h.len;have hM:=zqd p l;have key:=z9x (λn q s=>z1d φ n w (zh1 p l) ((zh1 p l).length:Int) q s) (λs=>some (s,())) (zh1 p l) (y1c w)
  (λi c=>1<=c.length/\c.length<=i+1/\gt c 0=yba p w) ?_ ?_ φ [yba p w] ⟨by simp,by simp,rfl⟩ (by omega)
 .unfold z8j;rw[z4 hw,z4 hh,y6c φ hφ h,w00];exact⟨key.1,key.2.1,by have:=key.2.2.1;unfold z9f;omega,key.2.2.2⟩
 .intro n q c hq ⟨c1,c2,c3⟩;have w1:W ((c.length:Int)-1) =(c.length:Int)-1:=W_id (by omega) (by omega);rw[z1d,if_pos (by simp;omega),z4 ⟨by omega,by omega⟩,w1,z4 ⟨by omega,by omega⟩,W_id (x:=(q:Int)+1) (by omega) (by omega)];unfold y1c yfl;refine⟨?_,?_⟩
  .split
   .rw[z4 (z78 (by simp;omega) (by omega))]
   .rfl
  .split
   .refine⟨by simp,by simp;omega,?_⟩;rw[<- c3];cases c with
    |nil=>simp at c1
    |cons a c=>rfl
   .exact⟨c1,by omega,c3⟩
 .intro n c _;rw[z1d,if_neg (by simp)]
def atI(c:List z6)(t:Int):Nat->Int
 |0=>(gt c 0).railway
 |i+1=>if t<(gt c ((i:Int)+1)).span.from_ then atI c t i else(gt c ((i:Int)+1)).railway
theorem y0c(φ:Nat)(t:Int)(c:List z6)(hc :(gt c 0).span.from_<=t):∀(i n:Nat),i<c.length->i<1000->i<n->z66 φ n t c (i:Int)=some (atI c t i,0,())
 |0,n+1,h1,h2,_=>by rw[z66,z4 ⟨by omega,by omega⟩];show (if decide (t<(gt c 0).span.from_)=true then _ else _)=_;rw[if_neg (by simp;omega),z4 ⟨by omega,by omega⟩];rfl
 |i+1,n+1,h1,h2,h3=>by
  rw[z66,z4 ⟨by omega,by omega⟩,W_id (by omega) (by omega)];show (if decide (t<(gt c ((i:Int)+1)).span.from_)=true then _ else _)=_;unfold atI;by_cases hd:t<(gt c ((i:Int)+1)).span.from_
  .rw[if_pos (by simpa using hd),if_pos hd,show (((i+1:Nat):Int)-1) =(i:Int) by omega];exact y0c φ t c hc i n (by omega) (by omega) (by omega)
  .rw[if_neg (by simpa using hd),if_neg hd,z4 ⟨by omega,by omega⟩];rfl
def zn9(p:Pool)(w t:Int):Bool:=(((decide (w<0))||(decide ((p.fleet.wagons.length:Int)<=w)))||(decide (t<0)))||(decide ((1073741824:Int)<t))
def atB(p:Pool)(l:List z5)(w t:Int):Int×Int×Unit:=if zn9 p w t=true then(0,1,()) else(atI (z9f p l w) t ((z9f p l w).length-1),0,())
theorem ynj(φ:Nat)(hφ:800000<φ){p:Pool}{l:List z5}(h:PH p l)(w t:Int):z7j φ p l w t=some (atB p l w t):=by
 have hlen:=h.len;unfold z7j z19;rw[z04 φ hφ,w00,h.pool,if_neg (by simp)];unfold atB;by_cases hb:zn9 p w t=true
 .rw[if_pos hb];unfold zn9 at hb;rw[if_pos hb,w00,if_pos (by simp)]
 .rw[if_neg hb];have hb':=hb;unfold zn9 at hb;rw[if_neg hb,w00,if_neg (by simp)];simp at hb;have hw:0<=w/\w<(p.fleet.wagons.length:Int):=by omega
  have hh:0<=(gt p.fleet.wagons w).home/\(gt p.fleet.wagons w).home<(p.network.places.length:Int):=(zmb h.pool).2.1 _ (z79 hw.1 hw.2);obtain⟨e1,e2,e3,e4⟩:=zsq φ hφ h hw hh;rw[e1,w00];dsimp only;rw[W_id (by omega) (by omega),show (((z9f p l w).length:Int)-1) =(((z9f p l w).length-1:Nat):Int) by omega];exact y0c φ t _ (by rw[e4];show (0:Int)<=t;omega) _ φ (by omega) (by omega) (by omega)
end Px
end
section
namespace Px
open Go
set_option maxRecDepth 100000
theorem ydy(φ:Nat)(hφ:800000<φ){p:Pool}{l:List z5}(h:PH p l)(k:Int):zmj φ p l k=some (hofL p l k,()):=by
 have hlen:=h.len;unfold zmj;refine z0a (λn i(acc:List Int)=>z97 φ n l k i p acc) l.length (λi acc=>acc =((List.range i).filter λi:Nat=>okR p k (gt l (i:Int))).map λi:Nat=>(i:Int)) (λo=>o=some (hofL p l k,())) ?_ ?_ φ [] rfl (by omega)
 .intro n i acc hi ha hk;have hal:acc.length<=1000:=by rw[ha,w10];have:=List.length_filter_le (λi:Nat=>okR p k (gt l (i:Int))) (List.range i);rw[List.length_range] at this;omega
  have hr:=h.parts _ (z79 (l:=l) (i:=(i:Int)) (by omega) (by omega));have hnext:∀b,okR p k (gt l (i:Int))=b->(if b=true then acc++[(i:Int)] else acc) =((List.range (i+1)).filter λi:Nat=>okR p k (gt l (i:Int))).map λi:Nat=>(i:Int):=by intro b hb;rw[zqi,w29,w28,<- ha,w2g,hb];cases b<;>simp
  rw[z97,if_pos (by simp;omega),z4 ⟨by omega,by omega⟩,z4 (λ_=>⟨by omega,by omega⟩),W_id (x:=(i:Int)+1) (by omega) (by omega)];cases hkk :((gt l (i:Int)).item.kind:Int)==k with
  |false=>unfold z9;rw[if_neg (by simp),w00,if_neg (by simp)];exact hk acc (hnext false (by unfold okR;rw[hkk];rfl))
  |true=>
   rw[zjs rfl,ye0 φ (by omega) h.pool hr,w00];cases ho:zoz p (gt l (i:Int)).item with
   |false=>rw[if_neg (by simp)];exact hk acc (hnext false (by unfold okR;rw[hkk,ho];rfl))
   |true=>rw[if_pos (by simp),z4 (z78 (by simp;omega) (by omega))];exact hk _ (hnext true (by unfold okR;rw[hkk,ho];rfl))
 .intro n acc ha;rw[z97,if_neg (by simp),ha];rfl
theorem y0d(φ:Nat)(a b:z5):z2o φ a.ref b.ref=some (zro a b,()):=by unfold z2o;congr 2;rw[w0p,zqb];simp
def fitH(p:Pool)(d r:z5):Bool:=(((((proB p d&&proB p r)&&((d.ref.railway:Int)==r.item.other))&&((r.ref.railway:Int)==d.item.other))&&((d.item.wagon:Int)==r.item.wagon))&&((d.item.place:Int)==r.item.place))&&decide (gapI d r<=60)
theorem y2r(φ:Nat){p:Pool}{d:z5}(hd:0<=d.item.place/\d.item.place<(p.network.places.length:Int)):zbz φ p d=some (proB p d,()):=by unfold zbz;rw[z4 hd];rfl
theorem y77(φ:Nat)(a b:z5):zez φ a b=some (gapI a b,()):=rfl
theorem yig(φ:Nat){p:Pool}{d r:z5}(hd:0<=d.item.place/\d.item.place<(p.network.places.length:Int))(hr:0<=r.item.place/\r.item.place<(p.network.places.length:Int)):zmi φ p d r=some (fitH p d r,()):=by
 unfold zmi;rw[y2r φ hd,y2r φ hr,y77,w00];unfold fitH;cases h1:proB p d with
 |false=>unfold z9;rw[if_neg (by simp),w00,if_neg (by simp),w00];rfl
 |true=>
  rw[zjs rfl,w00];dsimp only;generalize (((((true&&proB p r)&&((d.ref.railway:Int)==r.item.other))&&((r.ref.railway:Int)==d.item.other))&&((d.item.wagon:Int)==r.item.wagon))&&((d.item.place:Int)==r.item.place))=c;cases c with
  |false=>unfold z9;rw[if_neg (by simp),w00];rfl
  |true=>rw[zjs rfl,w00]
theorem yas{p:Pool}{l:List z5}{U:Int->Bool}{d:z5}{k:Int}(hd:proB p d=true):fitR l U d k =(!U k&&fitH p d (gt l k)):=by
 unfold fitR fitH;rw[w0p];unfold proB at hd⊢;simp at hd⊢;constructor
 .rintro⟨⟨⟨⟨⟨a1,a2⟩,a3⟩,a4⟩,a5⟩,a6⟩;refine⟨a1,⟨⟨⟨⟨⟨hd,?_⟩,a3.symm⟩,a2⟩,a4.symm⟩,a5.symm⟩,a6⟩;rw[a2,a3,a5];refine⟨λe=>hd.1 e.symm,?_⟩;rcases hd.2 with h|h
  .exact .inr h
  .exact .inl h
 .rintro⟨a1,⟨⟨⟨⟨_,a2⟩,a3⟩,a4⟩,a5⟩,a6⟩;exact⟨⟨⟨⟨⟨a1,a3⟩,a2.symm⟩,a4.symm⟩,a5.symm⟩,a6⟩
end Px
end
section
namespace Px
open Go
set_option maxRecDepth 100000
theorem ybe{α:Type}{lt:α->α->Bool}(hs:Swo lt){A B:List α}{r:α}(h:Srt lt (A++B))(hA:∀x∈A,lt r x=false)(hB:∀y∈B,lt r y=true):
  Srt lt (A++[r]++B)/\Stb lt ((A++B)++[r]) (A++[r]++B):=by
 obtain⟨h1,h2,h3⟩:=Srt.parts h;constructor
 .refine Srt.app (Srt.app h1 (by simp[Srt]) λx hx y hy=>?_) h2 λx hx y hy=>?_
  .simp only[w0x] at hy;subst hy;exact hA x hx
  .rcases w0j.1 hx with hx|hx
   .exact h3 x hx y hy
   .simp only[w0x] at hx;subst hx;exact hs.asym _ _ (hB y hy)
 .have s1:Stb lt (B++[r]) ([r]++B):=Stb.swap hs λx hx y hy=>by simp only[w0x] at hy;subst hy;exact hB x hx
  have s2:=Stb.app (Stb.refl (lt:=lt) A) s1;rw[<- w0q,<- w0q] at s2;exact s2
theorem ykq{α:Type}(l:List α)(i:Nat):zw l ((0:Int).toNat) ((i:Int).toNat)=l.take i:=by simp[zw]
theorem ykr{α:Type}(l:List α)(i:Nat):zw l ((i:Int).toNat) (((l.length:Int):Int).toNat)=l.drop i:=by simp[zw]
theorem y02(φ:Nat)(k7)(l:List z5)(L:List Int)(j:Int)(hj:0<=j/\j<(L.length:Int))(q:Nat)(S:List Int)(hq:q<=S.length)(hS:S.length<=1000):
  z4q φ k7 l L j (q:Int) S=k7 l L (W (j+1)) (S.take q++[gt L j]++S.drop q):=by
 unfold z4q;rw[ykq,ykr,z4 ⟨by omega,by omega,by omega⟩,z4 (z78 (by simp;omega) (by omega)),z4 hj,z4 (z78 (by simp;omega) (by omega)),z4 ⟨by omega,by omega,by omega⟩,z4 (z78 (by simp;omega) (by omega))];simp
theorem y01(φ:Nat)(hφ:2000<φ)(k7)(l:List z5)(L:List Int)(j:Int)(hj:0<=j/\j<(L.length:Int))(S:List Int)(hS:S.length<=1000)(hR:∀k∈S,0<=k/\k<(l.length:Int))(hs:Srt (ltD l) S):
  ∃res,Srt (ltD l) res/\Stb (ltD l) (S++[gt L j]) res/\z30 φ k7 φ l L j 0 S (gt l (gt L j))=k7 l L (W (j+1)) res:=by
 have fin:∀q:Nat,q<=S.length->(∀k∈S.take q,ltD l (gt L j) k=false)->(∀k∈S.drop q,ltD l (gt L j) k=true)->∃res,Srt (ltD l) res/\Stb (ltD l) (S++[gt L j]) res/\z4q φ k7 l L j (q:Int) S=k7 l L (W (j+1)) res:=by
  intro q hq h1 h2;have h0:Srt (ltD l) (S.take q++S.drop q):=by rw[w0h];exact hs
  obtain⟨r1,r2⟩:=ybe (zv9 l) h0 h1 h2;rw[w0h] at r2;exact⟨_,r1,r2,y02 φ k7 l L j hj q S hq hS⟩
 refine z0a (λn q(_:Unit)=>z30 φ k7 n l L j q S (gt l (gt L j))) S.length (λq _=>∀k∈S.take q,ltD l (gt L j) k=false) (λo=>∃res,Srt (ltD l) res/\Stb (ltD l) (S++[gt L j]) res/\o=k7 l L (W (j+1)) res) ?_ ?_ φ () (by simp) (by omega)
 .intro n q _ hq hI hk;have hm:=z79 (l:=S) (i:=(q:Int)) (by omega) (by omega);rw[z30,if_pos (by simp;omega),z4 ⟨by omega,by omega⟩,z4 (hR _ hm),W_id (x:=(q:Int)+1) (by omega) (by omega)];have hgo:∀A B:Option ((List Int)×Unit),((z9 (default,()) ((decide ((((gt l (gt S (q:Int))).item).from_:Int)<(gt l (gt L j)).item.from_))=false/\(((gt l (gt L j)).item.from_:Int)==((gt l (gt S (q:Int))).item).from_)=true) (z2o φ (gt l (gt L j)).ref ((gt l (gt S (q:Int))).ref))).bind λy21=>(if(!((decide ((((gt l (gt S (q:Int))).item).from_:Int)<(gt l (gt L j)).item.from_))||((((gt l (gt L j)).item.from_:Int)==((gt l (gt S (q:Int))).item).from_)&&(!y21.1))))=true then A else B))=if ltD l (gt L j) (gt S (q:Int))=true then A else B:=by
   intro A B;rw[y0d];rcases Int.lt_trichotomy (gt l (gt L j)).item.from_ (gt l (gt S (q:Int))).item.from_ with h|h|h
   .have hD:ltD l (gt L j) (gt S (q:Int))=true:=zqa.2 (.inl h);rw[if_pos hD];unfold z9;rw[if_neg (by simp;omega),w00,if_pos (by simp;omega)]
   .have hD:ltD l (gt L j) (gt S (q:Int))=zro (gt l (gt L j)) (gt l (gt S (q:Int))):=by rw[w0p,zqa,zqb];simp[h]
    rw[zjs ⟨by simp;omega,by simp;omega⟩,w00,hD,h];cases zro (gt l (gt L j)) (gt l (gt S (q:Int)))<;>simp
   .have hD:¬ltD l (gt L j) (gt S (q:Int))=true:=by rw[zqa];omega
    rw[if_neg hD];unfold z9;rw[if_neg (by simp;omega),w00,if_neg (by simp;omega)]
  rw[hgo];by_cases hd:ltD l (gt L j) (gt S (q:Int))=true
  .rw[if_pos hd];refine fin q (by omega) hI λk hk=>?_
   have h0:Srt (ltD l) (S.take q++S.drop q):=by rw[w0h];exact hs
   have h1:=(Srt.parts h0).2.1;rw[z8i hq] at hd;rw[w40 hq] at h1 hk;rcases w08.1 hk with rfl|hk
   .exact hd
   .have h2:=(w0w.1 h1).1 k hk;cases hc:ltD l (gt L j) k with
    |true=>rfl
    |false=>have:=(zv9 l).ntr _ _ _ hc h2;rw[hd] at this;cases this
  .rw[if_neg hd];refine hk () ?_;rw[z0e _ q hq];intro k hk;rcases w0j.1 hk with hk|hk
   .exact hI k hk
   .simp only[w0x] at hk;subst hk;simpa using hd
 .intro n _ hI;rw[z30,if_neg (by simp)];exact fin S.length (by omega) hI (by simp)
theorem yda(φ:Nat)(hφ:2000<φ)(l:List z5)(L:List Int)(hL:L.length<=100)(hR:∀k∈L,0<=k/\k<(l.length:Int)):zfy φ l L=some (zsi (ltD l) L,()):=by
 unfold zfy;refine z0a (λn i(S:List Int)=>z3x φ n l L i S) L.length (λi S=>Srt (ltD l) S/\Stb (ltD l) (L.take i) S) (λo=>o=some (zsi (ltD l) L,())) ?_ ?_ φ [] ⟨List.Pairwise.nil,Stb.refl _⟩ (by omega)
 .intro n i S hi ⟨h1,h2⟩ hk;have hm:=z79 (l:=L) (i:=(i:Int)) (by omega) (by omega);have hlen:=h2.len;rw[w1d] at hlen;have hS:∀k∈S,0<=k/\k<(l.length:Int):=λk hk=>hR k (List.mem_of_mem_take (h2.mem.1 hk))
  rw[z3x,if_pos (by simp;omega),z4 ⟨by omega,by omega⟩,z4 (hR _ hm)];obtain⟨res,r1,r2,r3⟩:=y01 φ hφ (z3x φ n) l L (i:Int) ⟨by omega,by omega⟩ S (by omega) hS h1;rw[r3,W_id (x:=(i:Int)+1) (by omega) (by omega)];refine hk res ⟨r1,?_⟩;rw[z0e _ i hi];exact(Stb.app h2 (Stb.refl _)).trans r2
 .intro n S ⟨h1,h2⟩;rw[w23] at h2;rw[z3x,if_neg (by simp),zh7 (zv9 l) h1 h2]
end Px
end
section
namespace Px
open Go
set_option maxRecDepth 100000
def zs1(p:Pool)(l:List z5)(used:List Bool)(d:z5)(best k:Int):Int:=if(!gt used k&&fitH p d (gt l k))=true then(if notW l d best k=true then best else k) else best
theorem y0h(φ:Nat)(hφ:10000<φ)(k14){p:Pool}{l:List z5}(hl:l.length<=100)(D R:List Int)(j:Int)(hj:0<=j/\j<(D.length:Int))(used:List Bool)(hu:used.length=l.length)(out:List (Nat->Int))(ho:out.length<=1000)
  (d:z5) (hd:0<=d.item.place/\d.item.place<(p.network.places.length:Int)) (hR:∀k∈R,(0<=k/\k<(l.length:Int))/\0<=(gt l k).item.place/\(gt l k).item.place<(p.network.places.length:Int)) (hRl:R.length<=100) :
  z1g φ k14 φ l D R j (-1) 0 p used out d =(if 0<=R.foldl (zs1 p l used d) (-1) then k14 l D R (W (j+1)) p (zk used (R.foldl (zs1 p l used d) (-1)) true) (out++[prA (gt D j) (R.foldl (zs1 p l used d) (-1))]) else k14 l D R (W (j+1)) p used out):=by
 refine(z9x (λn q best=>z1g φ k14 n l D R j best q p used out d) (λbest=>if 0<=best then k14 l D R (W (j+1)) p (zk used best true) (out++[prA (gt D j) best]) else k14 l D R (W (j+1)) p used out) R (zs1 p l used d) (λ_ best=>best=-1\/best∈R) ?_ ?_ φ (-1) (.inl rfl) (by omega)).1
 .intro n q best hq hb;have hkR:=z79 (l:=R) (i:=(q:Int)) (by omega) (by omega);obtain⟨hk,hkp⟩:=hR _ hkR;have hbr:decide (best<0)=false->(0:Int)<=best/\best<(l.length:Int):=λh=>by
   simp at h;rcases hb with rfl|hb
   .omega
   .exact(hR _ hb).1
  refine⟨?_,?_⟩
  .rw[z1g,if_pos (by simp;omega),z4 ⟨by omega,by omega⟩,z4 ⟨by omega,by omega⟩,z4 (λ_=>hk),W_id (x:=(q:Int)+1) (by omega) (by omega)];generalize gt R (q:Int)=k at *;rw[yig φ hd hkp];unfold zs1;cases hU:gt used k with
   |true=>unfold z9;rw[if_neg (by simp),w00,if_pos (by simp),if_neg (by simp)]
   |false=>
    rw[zjs rfl,w00];cases hf:fitH p d (gt l k) with
    |false=>rw[if_pos (by simp),if_neg (by simp)]
    |true=>
     rw[if_neg (by simp),if_pos (by simp)];simp only[y77,y0d];rw[z4 (λ_=>hk)];cases h0:decide (best<0) with
     |true=>
      have hn:notW l d best k=false:=by
       unfold notW;have:decide ((0:Int)<=best)=false:=by simp at h0⊢;omega
       rw[this];rfl
      rw[hn];unfold z9;simp[ck,rg,rg]
     |false=>
      have hbb:=hbr h0;have hn:notW l d best k = !(decide (gapI d (gt l k)<gapI d (gt l best))||((gapI d (gt l k)==gapI d (gt l best))&&zro (gt l k) (gt l best))):=by
       unfold notW;have:decide ((0:Int)<=best)=true:=by simp;omega
       rw[this,w1o,w0p,decide_eq_true_eq];rw[w0z,w1i,Bool.and_eq_false_iff,decide_eq_false_iff_not,beq_eq_false_iff_ne,ybv];unfold or2 cmpI;split<;>split<;>omega
      rw[hn];rw[zjs rfl,w00,z4 (λ_=>hbb),zjs rfl,w00,z4 (λ_=>hk)];dsimp only;by_cases h1:gapI d (gt l k)<gapI d (gt l best)
      .simp[ck,rg,rg,z9,hk.1,hk.2,hbb.1,hbb.2,h1]
      .by_cases h2:gapI d (gt l k)=gapI d (gt l best)
       .cases h3:zro (gt l k) (gt l best)<;>simp[ck,rg,rg,z9,hk.1,hk.2,hbb.1,hbb.2,h1,h2,h3]
       .simp[ck,rg,rg,z9,hk.1,hk.2,hbb.1,hbb.2,h1,h2]
  .unfold zs1;split
   .split
    .exact hb
    .exact .inr hkR
   .exact hb
 .intro n best hb;have hbr :(0:Int)<=best->best<(l.length:Int):=λh=>by
   rcases hb with rfl|hb
   .omega
   .exact(hR _ hb).1.2
  rw[z1g,if_neg (by simp)];by_cases h0 :(0:Int)<=best
  .rw[if_pos (by simpa using h0),if_pos h0,z4 ⟨h0,by have:=hbr h0;omega⟩,z4 hj,z4 (z78 (by simp;omega) (by omega))];rfl
  .rw[if_neg (by simpa using h0),if_neg h0]
end Px
end
section
namespace Px
open Go
set_option maxRecDepth 100000
theorem y6h{p:Pool}{l:List z5}{used:List Bool}{U:Int->Bool}{d:z5}(hd:proB p d=true):∀(R:List Int)(b:Int),(∀k∈R,gt used k=U k)->R.foldl (zs1 p l used d) b=R.foldl (zs0 l U d) b
 | [],b,_=>rfl
 |k::R,b,h=>by
  rw[w1r,w1r];have e:zs1 p l used d b k=zs0 l U d b k:=by unfold zs1 zs0;rw[yas hd,h k (by simp)]
  rw[e];exact y6h hd R _ (λz hz=>h z (by simp[hz]))
theorem y0p{p:Pool}{l:List z5}{used:List Bool}{d:z5}(hd:proB p d=false):∀(R:List Int)(b:Int),R.foldl (zs1 p l used d) b=b
 | [],b=>rfl
 |k::R,b=>by
  rw[w1r];have e:zs1 p l used d b k=b:=by unfold zs1 fitH;rw[hd,if_neg (by simp)]
  rw[e];exact y0p hd R b
theorem zq4{u:List Bool}{i k:Int}(hi:0<=i/\i<(u.length:Int))(hk:0<=k/\k<(u.length:Int)):gt (zk u i true) k =(gt u k||i==k):=by
 obtain⟨a,rfl⟩:∃a:Nat,i =(a:Int):=⟨i.toNat,by omega⟩;obtain⟨b,rfl⟩:∃b:Nat,k =(b:Int):=⟨k.toNat,by omega⟩;rw[z8i (by simp[zk];omega),z8i (by omega)];simp only[zk,w1v,List.getElem_set];by_cases h:a=b
 .rw[if_pos h];simp[h]
 .rw[if_neg h];have :(((a:Nat):Int)==(b:Int))=false:=by rw[beq_eq_false_iff_ne];omega
  rw[this,w3t]
theorem zwd(φ:Nat)(hφ:800000<φ){p:Pool}{l:List z5}(h:PH p l):z98 φ p l=some (prM (z16 p l),()):=by
 have hlen:=h.len;have hD:=zxg p l;have hH:=z9q p l 3;have hRl:=z9q p l 4;unfold z98;rw[z0d φ hφ,w00,h.pool,if_neg (by simp),z4 (by simp[znn];omega),ydy φ hφ h,ydy φ hφ h,w00,yda φ (by omega) l _ (by omega) (λk hk=>(h.item hk).1),w00,w00];have hR:∀k∈hofL p l 4,(0<=k/\k<(l.length:Int))/\0<=(gt l k).item.place/\(gt l k).item.place<(p.network.places.length:Int):=λk hk=>by obtain⟨a,b,c⟩:=h.item hk;exact⟨a,c.place (by omega)⟩
 refine z0a (λn q(s:List Bool×List (Int×Int))=>z2p φ n l (delL p l) (hofL p l 4) q p s.1 (prM s.2)) (delL p l).length
  (λi s=>s.1.length=l.length/\(∀k,0<=k/\k<(l.length:Int)->gt s.1 k=zk0 s.2 k)/\s.2.length<=i/\s.2 =((delL p l).take i).foldl (zqf p l (hofL p l 4)) []) (λo=>o=some (prM (z16 p l),())) ?_ ?_ φ (List.replicate l.length (default:Bool),[]) ⟨by simp,λk hk=>?_,by simp,rfl⟩ (by omega)
 .intro n q s hq ⟨s1,s2,s3,s4⟩ hk;have hm:=z79 (l:=delL p l) (i:=(q:Int)) (by omega) (by omega);obtain⟨hi,_,hI⟩:=h.item (zoa.1 hm);have hpl:=hI.place (by omega);rw[z2p,if_pos (by simp;omega),z4 ⟨by omega,by omega⟩,z4 hi,y0h φ (by omega) _ hlen (delL p l) (hofL p l 4) (q:Int) ⟨by omega,by omega⟩ s.1 s1 (prM s.2) (by simp[prM];omega) _ hpl hR (by omega),W_id (x:=(q:Int)+1) (by omega) (by omega)];have s4' :((delL p l).take (q+1)).foldl (zqf p l (hofL p l 4)) []=zqf p l (hofL p l 4) s.2 (gt (delL p l) (q:Int)):=by rw[z0e _ q hq,w53,<- s4];rfl
  generalize gt (delL p l) (q:Int)=i at *;unfold zqf at s4';by_cases hp:proB p (gt l i)=true
  .have e:=y6h (used:=s.1) (U:=zk0 s.2) (l:=l) hp (hofL p l 4) (-1) (λk hk=>s2 k (hR k hk).1);rw[if_pos hp] at s4';rw[e];have hin:=zt5 l (zk0 s.2) (gt l i) (hofL p l 4) (-1);change _ =(if 0<=zqg l (zk0 s.2) (gt l i) (hofL p l 4) then _ else _) at s4';unfold zqg at s4';generalize (hofL p l 4).foldl (zs0 l (zk0 s.2) (gt l i)) (-1)=b at *;by_cases h0:0<=b
   .rw[if_pos h0];rw[if_pos h0] at s4';have hb:b<(l.length:Int):=by
     rcases hin with rfl|hin
     .omega
     .exact(hR _ hin).1.2
    refine(show z2p φ n l (delL p l) (hofL p l 4) ((q:Int)+1) p (zk s.1 b true) (prM s.2++[prA i b])=z2p φ n l (delL p l) (hofL p l 4) ((q:Int)+1) p (zk s.1 b true) (prM (s.2++[(i,b)])) from by simp[prM]).trans (hk (zk s.1 b true,s.2++[(i,b)]) ⟨by simp[zk,s1],λk hk=>?_,by simp;omega,s4'.symm⟩);show gt (zk s.1 b true) k=_;rw[zq4 ⟨h0,by omega⟩ ⟨hk.1,by omega⟩,s2 k hk];simp[zk0]
   .rw[if_neg h0];rw[if_neg h0] at s4';exact hk s ⟨s1,s2,by omega,s4'.symm⟩
  .have e:=y0p (used:=s.1) (l:=l) (by simpa using hp:proB p (gt l i)=false) (hofL p l 4) (-1);rw[if_neg hp] at s4';rw[e,if_neg (by omega)];exact hk s ⟨s1,s2,by omega,s4'.symm⟩
 .intro n s ⟨_,_,_,s4⟩;rw[w23] at s4;rw[z2p,if_neg (by simp),s4];rfl
 .have hk':k.toNat<(List.replicate l.length (default:Bool)).length:=by simp;omega
  obtain⟨b,rfl⟩:∃b:Nat,k =(b:Int):=⟨k.toNat,by omega⟩;show gt (List.replicate l.length (default:Bool)) (b:Int)=false;rw[z8i (by simpa using hk')];simp
end Px
end
section
namespace Px
open Go
set_option maxRecDepth 100000
theorem yeq(φ:Nat)(a b:z3):zj7 φ a b=some (ltH a b,()):=by
 unfold zj7;by_cases h1:a.at_=b.at_
 .rw[if_neg (by simpa using h1)];by_cases h2:a.wagon=b.wagon
  .rw[if_neg (by simpa using h2)];unfold z2o;rw[w00];congr 2;rw[w0p,zuc];simp[h1,h2]
  .rw[if_pos (by simpa using h2)];congr 2;rw[w0p,zuc,decide_eq_true_eq];omega
 .rw[if_pos (by simpa using h1)];congr 2;rw[w0p,zuc,decide_eq_true_eq];omega
theorem y0g(φ:Nat)(k8)(l:List z5)(P:List (Nat->Int))(i:Int)(S:List z3)(x:z3)(hS:S.length<=1000)(hs:Srt ltH S):∀(q n:Nat),q<=S.length->q<n->(∀y∈S.drop q,ltH x y=true)->
  ∃res,Srt ltH res/\Stb ltH (S++[x]) res/\z6d φ k8 n l P i (q:Int) S x=k8 l P (W (i+1)) res:=by
 have fin:∀q:Nat,q<=S.length->(∀y∈S.take q,ltH x y=false)->(∀y∈S.drop q,ltH x y=true)->∃res,Srt ltH res/\Stb ltH (S++[x]) res/\
   (ck ((0:Int)<=0/\0<=(q:Int)/\(q:Int)<=(S.length:Int)) (ck (fits (([]:List z3).length+(zw S (0:Int).toNat ((q:Int):Int).toNat).length) 80) (ck (fits ((([]:List z3)++(zw S (0:Int).toNat ((q:Int):Int).toNat)).length+([x]).length) 80) (ck ((0:Int)<=(q:Int)/\(q:Int)<=(S.length:Int)/\(S.length:Int)<=(S.length:Int)) (ck (fits ((((([]:List z3)++(zw S (0:Int).toNat ((q:Int):Int).toNat))++[x])).length+(zw S ((q:Int):Int).toNat ((S.length:Int):Int).toNat).length) 80) (k8 l P (W (i+1)) ((((([]:List z3)++(zw S (0:Int).toNat ((q:Int):Int).toNat))++[x])++(zw S ((q:Int):Int).toNat ((S.length:Int):Int).toNat)))))))))=k8 l P (W (i+1)) res:=by
  intro q hq h1 h2;have h0:Srt ltH (S.take q++S.drop q):=by rw[w0h];exact hs
  obtain⟨r1,r2⟩:=ybe zrc h0 h1 h2;rw[w0h] at r2;refine⟨_,r1,r2,?_⟩;rw[ykq,ykr,z4 ⟨by omega,by omega,by omega⟩,z4 (z78 (by simp;omega) (by omega)),z4 (z78 (by simp;omega) (by omega)),z4 ⟨by omega,by omega,by omega⟩,z4 (z78 (by simp;omega) (by omega))];simp
 intro q
 induction q with
 |zero=>intro n hq hn hB;obtain⟨n,rfl⟩:∃k,n=k+1:=⟨n-1,by omega⟩;rw[z6d,z4 (λh=>by simp at h)];unfold z9;rw[if_neg (by simp),w00,if_neg (by simp)];exact fin 0 hq (by simp) hB
 |succ q ih=>
  intro n hq hn hB;obtain⟨n,rfl⟩:∃k,n=k+1:=⟨n-1,by omega⟩;have hW:W (((q+1:Nat):Int)-1) =(q:Int):=by rw[W_id (by omega) (by omega)];omega
  have hp:decide ((0:Int)<((q+1:Nat):Int))=true:=decide_eq_true (by omega);rw[z6d,hW,z4 (λ_=>⟨by omega,by omega⟩),hp,zjs rfl,yeq,w00];have hqq:q<S.length:=by omega
  cases hc:ltH x (gt S (q:Int)) with
  |true=>
   rw[if_pos (by simp)];refine ih n (by omega) (by omega) λy hy=>?_
   rw[w40 hqq] at hy;rcases w08.1 hy with rfl|hy
   .rw[z8i hqq] at hc;exact hc
   .exact hB y hy
  |false=>
   rw[if_neg (by simp)];refine fin (q+1) hq (λy hy=>?_) hB;rw[z0e _ q hqq] at hy;have h0:Srt ltH (S.take (q+1)++S.drop (q+1)):=by rw[w0h];exact hs
   have h1:=(Srt.parts h0).1;rw[z0e _ q hqq] at h1;rcases w0j.1 hy with hy|hy
   .exact zrc.ntr _ _ _ hc ((Srt.parts h1).2.2 y hy _ (by simp))
   .simp only[w0x] at hy;subst hy;exact hc
theorem zwc(φ:Nat)(hφ:800000<φ){p:Pool}{l:List z5}(h:PH p l):z7l φ p l=some (zh1 p l,()):=by
 unfold z7l;rw[zwd φ hφ h,w00];have hlen:=h.len;have hP:=zl6 p l;have hPM :(prM (z16 p l)).length =(z16 p l).length:=by simp[prM]
 have hraw :(rawL p l).length =(z16 p l).length:=by simp[rawL]
 refine z0a (λn i(S:List z3)=>z3n φ n l (prM (z16 p l)) i S) (z16 p l).length (λi S=>Srt ltH S/\Stb ltH ((rawL p l).take i) S) (λo=>o=some (zh1 p l,())) ?_ ?_ φ [] ⟨List.Pairwise.nil,Stb.refl _⟩ (by omega)
 .intro n q S hq ⟨h1,h2⟩ hk;have hm:=z79 (l:=z16 p l) (i:=(q:Int)) (by omega) (by omega);obtain⟨m1,m2,_⟩:=zut hm;have i1:=(h.item (zoa.1 m1)).1;have i2:=(h.item m2).1;have hg:gt (prM (z16 p l)) (q:Int)=prA (gt (z16 p l) (q:Int)).1 (gt (z16 p l) (q:Int)).2:=by rw[z8i (by omega),z8i hq];simp[prM]
  have hgr:gt (rawL p l) (q:Int)=yb9 (gt l (gt (z16 p l) (q:Int)).1) (gt l (gt (z16 p l) (q:Int)).2):=by rw[z8i (by omega),z8i hq];simp[rawL]
  have hSl:=h2.len;rw[w1d] at hSl;rw[z3n,if_pos (by simp;omega),z4 ⟨by omega,by omega⟩,hg,prA0,prA1,z4 i1,z4 ⟨by omega,by omega⟩,z4 i2,if_pos (by omega)];obtain⟨res,r1,r2,r3⟩:=y0g φ (z3n φ n) l (prM (z16 p l)) (q:Int) S (gt (rawL p l) (q:Int)) (by omega) h1 S.length φ (by omega) (by omega) (by simp);rw[hgr] at r3;rw[W_id (x:=(q:Int)+1) (by omega) (by omega)] at r3;refine Eq.trans r3 (hk res ⟨r1,?_⟩);rw[z0e _ q (by omega)];exact(Stb.app h2 (Stb.refl _)).trans r2
 .intro n S ⟨h1,h2⟩;rw[w1h (by omega)] at h2;rw[z3n,if_neg (by simp[hPM]),zh7 zrc h1 h2];rfl
end Px
end
section
namespace Px
open Go
set_option maxRecDepth 100000
theorem zwi(φ:Nat)(hφ:800000<φ){p:Pool}{l:List z5}(h:PH p l){w:Int}(hw:0<=w/\w<(p.fleet.wagons.length:Int))(hh:0<=(gt p.fleet.wagons w).home/\(gt p.fleet.wagons w).home<(p.network.places.length:Int)):
  zew φ p l w=some (z9f p l w,()):=by
 have hlen:=h.len;have hM:=zqd p l;have key:=z9x (λn q s=>z5o φ n w (zh1 p l) q s) (λs=>some (s,())) (zh1 p l) (y1c w)
  (λi c=>1<=c.length/\c.length<=i+1) ?_ ?_ φ [yba p w] ⟨by simp,by simp⟩ (by omega)
 .unfold zew;rw[z4 hw,z4 hh,zwc φ hφ h,w00];exact key.1
 .intro n q c hq ⟨c1,c2⟩;have w1:W ((c.length:Int)-1) =(c.length:Int)-1:=W_id (by omega) (by omega);have hqb :(0:Int)<=(q:Int)/\(q:Int)<((zh1 p l).length:Int):=⟨by omega,by omega⟩;rw[z5o,if_pos (by simp;omega),w1,z4 ⟨by omega,by omega⟩,z4 hqb,z4 (λ_=>hqb),z4 (λ_=>hqb),W_id (x:=(q:Int)+1) (by omega) (by omega)];unfold y1c yfl;refine⟨?_,?_⟩
  .split
   .rw[z4 hqb,z4 hqb,z4 hqb,z4 (z78 (by simp;omega) (by omega))]
   .rfl
  .split
   .exact⟨by simp,by simp;omega⟩
   .exact⟨c1,by omega⟩
 .intro n c _;rw[z5o,if_neg (by simp)]
def y58(t:Int)(b:Int)(x:z6):Int:=if x.span.from_<=t then x.railway else b
theorem y2f(t:Int)(c:List z6)(hc :(gt c 0).span.from_<=t):∀i:Nat,i<c.length->(c.take (i+1)).foldl (y58 t) 0=atI c t i
 |0,h=>by rw[z0e c 0 h];show y58 t 0 (gt c 0) =(gt c 0).railway;unfold y58;rw[if_pos hc]
 |i+1,h=>by
  rw[z0e c (i+1) h,w53,y2f t c hc i (by omega)];show y58 t (atI c t i) (gt c ((i:Int)+1))=_;unfold atI y58;by_cases hd:t<(gt c ((i:Int)+1)).span.from_
  .rw[if_pos hd,if_neg (by omega)];cases i<;>rfl
  .rw[if_neg hd,if_pos (by omega)]
theorem yie(φ:Nat)(hφ:800000<φ){p:Pool}{l:List z5}(h:PH p l)(w t:Int):zmg φ p l w t=some (atB p l w t):=by
 have hlen:=h.len;unfold zmg z5p;rw[z0d φ hφ,w00,h.pool,if_neg (by simp)];unfold atB;by_cases hb:zn9 p w t=true
 .rw[if_pos hb];unfold zn9 at hb;rw[if_pos hb,w00,if_pos (by simp)]
 .rw[if_neg hb];unfold zn9 at hb;rw[if_neg hb,w00,if_neg (by simp)];simp at hb;have hw:0<=w/\w<(p.fleet.wagons.length:Int):=by omega
  have hh:=(zmb h.pool).2.1 _ (z79 hw.1 hw.2);obtain⟨_,e2,e3,e4⟩:=zsq φ hφ h hw hh;rw[zwi φ hφ h hw hh,w00];have key:=(z9x (λn q s=>z7k φ n t (z9f p l w) s q) (λs=>some (s,0,())) (z9f p l w) (y58 t) (λ_ _=>True) ?_ ?_ φ 0 trivial (by omega)).1
  .refine key.trans ?_;have:=y2f t (z9f p l w) (by rw[e4];show (0:Int)<=t;omega) ((z9f p l w).length-1) (by omega);rw[w1h (by omega)] at this;rw[this]
  .intro n q s hq _;refine⟨?_,trivial⟩;rw[z7k,if_pos (by simp;omega),z4 ⟨by omega,by omega⟩,z4 ⟨by omega,by omega⟩,W_id (x:=(q:Int)+1) (by omega) (by omega)];unfold y58;split
   .rename_i h1;rw[if_pos (by simpa using h1)]
   .rename_i h1;rw[if_neg (by simpa using h1)]
  .intro n s _;rw[z7k,if_neg (by simp)]
end Px
end
section
namespace Px
open Go
set_option maxRecDepth 100000
theorem yh5(φ:Nat)(v:List Ref)(y:Ref->Ref->Option Int):z2w φ v y=y4w φ v y:=by kernel_rfl
theorem Of_r(φ:Nat)(p:Pool)(l:List z5)(k:Int):zml φ p l k=zmj φ p l k:=by kernel_rfl
theorem yif(φ:Nat)(p:Pool)(l:List z5)(w:Int):ziz φ p l w=zew φ p l w:=by kernel_rfl
theorem y7k{a b:Ref}: zg6 a b=false↔¬(a.railway<b.railway\/(a.railway=b.railway/\a.no<b.no)):=by rw[<- zl3];simp
theorem zlu:Swo zg6 where
 asym:=λa b h=>by rw[y7k];rw[zl3] at h;omega
 ntr:=λa b c h1 h2=>by rw[y7k] at *;omega
theorem yj1(φ:Nat)(h:3<=φ):Cmp (λ_:Ref=>True) (λa b=>(z18 φ a b).bind λr=>(some r.1)) zg6:=by
 intro a b _ _;refine⟨or2 (cmpI a.railway b.railway) (cmpI a.no b.no),?_,?_⟩
 .show ((z18 φ a b).bind λr=>(some r.1))=_;rw[zo2 φ h];rfl
 .rw[w0p,decide_eq_true_eq,zus,ze0,ze0,znc,zl3]
theorem ya5(φ:Nat)(hφ:3<φ)(a b:List Int)(ha:a.length<=1000)(hb:b.length<=1000):z0z φ φ [a,b] (2:Int) 0 []=some (a++b,()):=by
 refine((z9x (λn q s=>z0z φ n [a,b] (2:Int) q s) (λs=>some (s,())) [a,b] (λs x=>s++x) (λi s=>s.length<=1000*i) ?_ ?_ φ [] (by simp) (by simp;omega)).1).trans ?_
 .intro n q s hq hs;have hq2:q<2:=hq;have hg :(gt [a,b] (q:Int)).length<=1000:=by
   match q,hq2 with
   |0,_=>exact ha
   |1,_=>exact hb
  rw[z0z,if_pos (by simp;omega),z4 ⟨by omega,by simp;omega⟩,z4 (z78 (by omega) (by omega)),W_id (by omega) (by omega)];exact⟨rfl,by simp;omega⟩
 .intro n s _;rw[z0z,if_neg (by simp)]
 .simp
theorem yiu(φ:Nat)(hφ:3<φ)(a b:List Int)(ha:a.length<=1000)(hb:b.length<=1000):z3y φ φ [a,b] (2:Int) 0 []=some (a++b,()):=by
 have:z3y φ φ [a,b] (2:Int) 0 []=z0z φ φ [a,b] (2:Int) 0 []:=by kernel_rfl
 rw[this,ya5 φ hφ a b ha hb]
theorem y9p(φ:Nat)(hφ:3<φ)(a b:List Int)(ha:a.length<=1000)(hb:b.length<=1000):z6f φ [a,b]=some (a++b,()):=by
 unfold z6f;have hg:∀j:Nat,j<2->(gt [a,b] (j:Int)).length<=1000:=by
  intro j hj
  match j,hj with
  |0,_=>exact ha
  |1,_=>exact hb
 refine z0a (λn j s=>z2u φ n [a,b] s [a,b] (([a,b]:List (List Int)).length:Int) j) 2 (λj s=>0<=s/\s<=1000*j) (λo=>o=some (a++b,())) ?_ ?_ φ 0 (by simp) (by omega)
 .intro n j s hj hs hk;have:=hg j hj;rw[z2u,if_pos (by simp;omega),z4 ⟨by omega,by simp;omega⟩,W_id (x:=s+_) (by omega) (by omega),if_neg (by simp;omega),W_id (by omega) (by omega)];exact hk _ (by omega)
 .intro n s hs;rw[z2u,if_neg (by simp),if_neg (by simp;omega),show W (s-0)=s by rw[Int.sub_zero];exact W_id (by omega) (by omega)];split
  .rename_i h;simp only[decide_eq_true_eq] at h;rw[z4 ⟨rfl,rfl⟩,z4 ⟨h,z78 (by omega) (by omega)⟩,z4 ⟨by omega,by omega,by omega⟩];exact ya5 φ hφ a b ha hb
  .exact yiu φ hφ a b ha hb
def inPr(o:List (Int×Int))(k:Int):Bool:=o.any λx=>x.1==k||x.2==k
def hofA(p:Pool)(l:List z5):List Int:=hofL p l 3++hofL p l 4
def unmR(p:Pool)(l:List z5):List Ref:=((hofA p l).filter λi=>!inPr (z16 p l) i).map λi=>(gt l i).ref
def unmL(p:Pool)(l:List z5):List Ref:=zsi zg6 (unmR p l)
theorem y7a{p:Pool}{l:List z5}{x:Int}(h:x∈hofA p l):0<=x/\x<(l.length:Int):=by
 rcases w0j.1 h with h|h
 .have:=zm5.1 h;exact⟨this.1,this.2.1⟩
 .have:=zm5.1 h;exact⟨this.1,this.2.1⟩
theorem zxx(p:Pool)(l:List z5):(hofA p l).length<=2*l.length:=by have h3:=z9q p l 3;have h4:=z9q p l 4;unfold hofA;rw[w0d];omega
theorem yi5{o:List (Int×Int)}{q:Nat}(h:q<o.length):gt (prM o) (q:Int)=prA (gt o (q:Int)).1 (gt o (q:Int)).2:=by rw[z8i (by simp[prM];omega),z8i h];simp[prM]
theorem y2a{o:List (Int×Int)}{q:Nat}(h:q<o.length)(k:Int):inPr (o.take (q+1)) k =(inPr (o.take q) k||((gt o (q:Int)).1==k||(gt o (q:Int)).2==k)):=by unfold inPr;rw[z0e o q h,w4j];simp
theorem y8d(φ:Nat)(p:Pool)(l:List z5)(o:List (Int×Int))(ho:o.length<=1000)(R:Option (List Ref×Unit))(hφ:1000<φ)
  (hk:∀m:List (Int×Bool),OkS m->(∀k,(cget kl_0 m k).getD (default:Bool)=inPr o k)->
   ((z4y φ p l 3).bind λy12=>((z4y φ p l 4).bind λy13=>((z6f φ ([y12.1,y13.1])).bind λy14=>(zo φ φ l (y14.1.length:Int) 0 m ([]:List Ref) y14.1))))=R) :
  z03 φ φ l (prM o) ((prM o).length:Int) 0 p []=R:=by
 have hl :(prM o).length=o.length:=by simp[prM]
 refine z0a (λn i m=>z03 φ n l (prM o) ((prM o).length:Int) i p m) o.length (λi m=>OkS m/\∀k,(cget kl_0 m k).getD (default:Bool)=inPr (o.take i) k) (λr=>r=R) ?_ ?_ φ [] ⟨OkS.nil,λk=>rfl⟩ (by omega)
 .intro n i m hi ⟨h1,h2⟩ hs;rw[z03,if_pos (by simp;omega),z4 ⟨by omega,by omega⟩,yi5 hi,W_id (x:=(i:Int)+1) (by omega) (by omega)];refine hs _ ⟨(h1.set _).set _,λk=>?_⟩;have e0:prA (gt o (i:Int)).1 (gt o (i:Int)).2 ((0:Int).toNat) =(gt o (i:Int)).1:=prA0 _ _;have e1:prA (gt o (i:Int)).1 (gt o (i:Int)).2 ((1:Int).toNat) =(gt o (i:Int)).2:=prA1 _ _;rw[e0,e1,((h1.set _).set _).get,y2a hi,<- h2 k,h1.get];rw[y7g (h1.set _).1,y7g h1.1,w0p,List.contains_iff_mem,zvf,zvf];simp only[w14,List.contains_iff_mem,beq_iff_eq];constructor
  .rintro(h|h|h)
   .exact .inr (.inr h.symm)
   .exact .inr (.inl h.symm)
   .exact .inl h
  .rintro(h|h|h)
   .exact .inr (.inr h)
   .exact .inr (.inl h.symm)
   .exact .inl h.symm
 .intro n m ⟨h1,h2⟩;rw[z03,if_neg (by simp[hl])];rw[w23] at h2;exact hk m h1 h2
theorem ylj(φ:Nat)(hφ:800000<φ){p:Pool}{l:List z5}(h:PH p l):zx φ p l=some (unmL p l,()):=by
 have hlen:=h.len;have hP:=zl6 p l;have h3:=z9q p l 3;have h4:=z9q p l 4;have hA:=zxx p l;unfold zx;rw[z04 φ hφ,w00,h.pool,if_neg (by simp),y7x φ hφ h,w00];refine y8d φ p l (z16 p l) (by omega) _ (by omega) λm hm hg=>?_
 rw[of_r,of_r,of_eq φ hφ h,of_eq φ hφ h,w00,w00];show ((z6f φ [hofL p l 3,hofL p l 4]).bind _)=_;rw[y9p φ (by omega) (hofL p l 3) (hofL p l 4) (by omega) (by omega),w00];show zo φ φ l ((hofA p l).length:Int) 0 m ([]:List Ref) (hofA p l)=_;refine((z9x (λn q s=>zo φ n l ((hofA p l).length:Int) q m s (hofA p l)) (λs=>(z2w φ s (λa b=>(z18 φ a b).bind λr=>(some r.1))).bind λy22=>(some (y22,()))) (hofA p l)
  (λs i=>if(!inPr (z16 p l) i)=true then s++[(gt l i).ref] else s) (λi s=>s.length<=i) ?_ ?_ φ [] (by simp) (by omega)).1).trans ?_
 .intro n q s hq hs;have hz:=y7a (z79 (l:=hofA p l) (i:=(q:Int)) (by omega) (by omega));rw[zo,if_pos (by simp;omega),z4 ⟨by omega,by omega⟩,hg,W_id (x:=(q:Int)+1) (by omega) (by omega)];split
  .rw[z4 hz,z4 (z78 (by simp;omega) (by omega))];exact⟨rfl,by simp;omega⟩
  .exact⟨rfl,by omega⟩
 .intro n s _;rw[zo,if_neg (by simp)]
 .have hf:∀(X:List Int)(s:List Ref),X.foldl (λs i=>if(!inPr (z16 p l) i)=true then s++[(gt l i).ref] else s) s=s++(X.filter λi=>!inPr (z16 p l) i).map λi=>(gt l i).ref:=by
   intro X
   induction X with
   |nil=>simp
   |cons x X ih=>intro s;rw[w1r,ih];cases hx:inPr (z16 p l) x<;>simp[hx]
  rw[hf,w2u,yh5];show ((y4w φ (unmR p l) _).bind _)=_;have hr :(unmR p l).length<=1000:=by unfold unmR;rw[w10];exact w2a (List.length_filter_le _ _) (by omega)
  obtain⟨r,r1,r2,r3⟩:=zt0 zlu (yj1 φ (by omega)) φ (unmR p l) (λ_ _=>trivial) (by omega) (by omega);rw[r3,zh7 zlu r1 r2];rfl
end Px
end
section
namespace Px
open Go
set_option maxRecDepth 100000
theorem y8a(φ:Nat)(a b:Ref):z2o φ a b=some (zg6 a b,()):=by
 unfold z2o;congr 2
 try (rw[w0p,zl3];simp)
theorem y8e(φ:Nat)(k18)(l:List z5)(i:Int)(u:List Bool)(A:List Int)(S:List Ref)(x:Ref)(hS:S.length<=1000)(hs:Srt zg6 S):∀(q n:Nat),q<=S.length->q<n->(∀y∈S.drop q,zg6 x y=true)->
  ∃res,Srt zg6 res/\Stb zg6 (S++[x]) res/\z26 φ k18 n l i (q:Int) u A S x=k18 l (W (i+1)) u A res:=by
 have fin:∀q:Nat,q<=S.length->(∀y∈S.take q,zg6 x y=false)->(∀y∈S.drop q,zg6 x y=true)->∃res,Srt zg6 res/\Stb zg6 (S++[x]) res/\
   (ck ((0:Int)<=0/\0<=(q:Int)/\(q:Int)<=(S.length:Int)) (ck (fits (([]:List Ref).length+(zw S (0:Int).toNat ((q:Int):Int).toNat).length) 16) (ck (fits ((([]:List Ref)++(zw S (0:Int).toNat ((q:Int):Int).toNat)).length+([x]).length) 16) (ck ((0:Int)<=(q:Int)/\(q:Int)<=(S.length:Int)/\(S.length:Int)<=(S.length:Int)) (ck (fits ((((([]:List Ref)++(zw S (0:Int).toNat ((q:Int):Int).toNat))++[x])).length+(zw S ((q:Int):Int).toNat ((S.length:Int):Int).toNat).length) 16) (k18 l (W (i+1)) u A ((((([]:List Ref)++(zw S (0:Int).toNat ((q:Int):Int).toNat))++[x])++(zw S ((q:Int):Int).toNat ((S.length:Int):Int).toNat)))))))))=k18 l (W (i+1)) u A res:=by
  intro q hq h1 h2;have h0:Srt zg6 (S.take q++S.drop q):=by rw[w0h];exact hs
  obtain⟨r1,r2⟩:=ybe zlu h0 h1 h2;rw[w0h] at r2;refine⟨_,r1,r2,?_⟩;rw[ykq,ykr,z4 ⟨by omega,by omega,by omega⟩,z4 (z78 (by simp;omega) (by omega)),z4 (z78 (by simp;omega) (by omega)),z4 ⟨by omega,by omega,by omega⟩,z4 (z78 (by simp;omega) (by omega))];simp
 intro q
 induction q with
 |zero=>intro n hq hn hB;obtain⟨n,rfl⟩:∃k,n=k+1:=⟨n-1,by omega⟩;rw[z26,z4 (λh=>by simp at h)];unfold z9;rw[if_neg (by simp),w00,if_neg (by simp)];exact fin 0 hq (by simp) hB
 |succ q ih=>
  intro n hq hn hB;obtain⟨n,rfl⟩:∃k,n=k+1:=⟨n-1,by omega⟩;have hW:W (((q+1:Nat):Int)-1) =(q:Int):=by rw[W_id (by omega) (by omega)];omega
  have hp:decide ((0:Int)<((q+1:Nat):Int))=true:=decide_eq_true (by omega);rw[z26,hW,z4 (λ_=>⟨by omega,by omega⟩),hp,zjs rfl,y8a,w00];have hqq:q<S.length:=by omega
  cases hc:zg6 x (gt S (q:Int)) with
  |true=>
   rw[if_pos (by simp)];refine ih n (by omega) (by omega) λy hy=>?_
   rw[w40 hqq] at hy;rcases w08.1 hy with rfl|hy
   .rw[z8i hqq] at hc;exact hc
   .exact hB y hy
  |false=>
   rw[if_neg (by simp)];refine fin (q+1) hq (λy hy=>?_) hB;rw[z0e _ q hqq] at hy;have h0:Srt zg6 (S.take (q+1)++S.drop (q+1)):=by rw[w0h];exact hs
   have h1:=(Srt.parts h0).1;rw[z0e _ q hqq] at h1;rcases w0j.1 hy with hy|hy
   .exact zlu.ntr _ _ _ hc ((Srt.parts h1).2.2 y hy _ (by simp))
   .simp only[w0x] at hy;subst hy;exact hc
theorem yfd{p:Pool}{l:List z5}{q:Nat}(hq:q<(z16 p l).length):(0<=(gt (z16 p l) (q:Int)).1/\(gt (z16 p l) (q:Int)).1<(l.length:Int))/\0<=(gt (z16 p l) (q:Int)).2/\(gt (z16 p l) (q:Int)).2<(l.length:Int):=by obtain⟨m1,m2,_⟩:=zut (z79 (l:=z16 p l) (i:=(q:Int)) (by omega) (by omega));have h1:=zm5.1 (zoa.1 m1);have h2:=zm5.1 m2;exact⟨⟨h1.1,h1.2.1⟩,h2.1,h2.2.1⟩
theorem y0j(φ:Nat)(hφ:2000<φ){p:Pool}{l:List z5}(hl:l.length<=100)(u:List Bool)(hu:u.length=l.length)(hg:∀k,0<=k/\k<(l.length:Int)->gt u k=inPr (z16 p l) k):
  z00 φ φ l 0 u (hofA p l) []=some (unmL p l,()):=by
 have hA:=zxx p l;refine z0a (λn i(S:List Ref)=>z00 φ n l i u (hofA p l) S) (hofA p l).length (λi S=>Srt zg6 S/\Stb zg6 ((((hofA p l).take i).filter λi=>!inPr (z16 p l) i).map λi=>(gt l i).ref) S) (λo=>o=some (unmL p l,())) ?_ ?_ φ [] ⟨List.Pairwise.nil,Stb.refl _⟩ (by omega)
 .intro n q S hq ⟨h1,h2⟩ hk;have hz:=y7a (z79 (l:=hofA p l) (i:=(q:Int)) (by omega) (by omega));have hSl:=h2.len;have hf:=List.length_filter_le (λi=>!inPr (z16 p l) i) ((hofA p l).take q);rw[w10] at hSl;rw[w1d] at hf;have ht :((((hofA p l).take (q+1)).filter λi=>!inPr (z16 p l) i).map λi=>(gt l i).ref) =((((hofA p l).take q).filter λi=>!inPr (z16 p l) i).map λi=>(gt l i).ref)++(if inPr (z16 p l) (gt (hofA p l) (q:Int))=true then [] else [(gt l (gt (hofA p l) (q:Int))).ref]):=by rw[z0e _ q hq,w29,w28];cases h:inPr (z16 p l) (gt (hofA p l) (q:Int))<;>simp[h]
  rw[z00,if_pos (by simp;omega),z4 ⟨by omega,by omega⟩,z4 (by omega),hg _ hz];by_cases hi:inPr (z16 p l) (gt (hofA p l) (q:Int))=true
  .rw[if_pos hi,W_id (x:=(q:Int)+1) (by omega) (by omega)];refine hk _ ⟨h1,?_⟩;rw[ht,if_pos hi,w09];exact h2
  .rw[if_neg hi,z4 ⟨by omega,by omega⟩,z4 hz];obtain⟨res,r1,r2,r3⟩:=y8e φ (z00 φ n) l (q:Int) u (hofA p l) S (gt l (gt (hofA p l) (q:Int))).ref (by omega) h1 S.length φ (by omega) (by omega) (by simp);rw[W_id (x:=(q:Int)+1) (by omega) (by omega)] at r3;refine Eq.trans r3 (hk res ⟨r1,?_⟩);rw[ht,if_neg hi];exact(Stb.app h2 (Stb.refl _)).trans r2
 .intro n S ⟨h1,h2⟩;rw[w23] at h2;rw[z00,if_neg (by simp),zh7 zlu h1 h2];rfl
theorem ye1(φ:Nat)(hφ:800000<φ){p:Pool}{l:List z5}(h:PH p l):z6e φ p l=some (unmL p l,()):=by
 have hlen:=h.len;have hP:=zl6 p l;have h3:=z9q p l 3;have h4:=z9q p l 4;have hl :(prM (z16 p l)).length =(z16 p l).length:=by simp[prM]
 unfold z6e;rw[z0d φ hφ,w00,h.pool,if_neg (by simp),z4 (by unfold znn;omega),zwd φ hφ h,w00];refine z0a (λn i(u:List Bool)=>z25 φ n l (prM (z16 p l)) i p u) (z16 p l).length (λi u=>u.length=l.length/\∀k,0<=k/\k<(l.length:Int)->gt u k=inPr ((z16 p l).take i) k) (λo=>o=some (unmL p l,())) ?_ ?_ φ _ ⟨by simp,λk hk=>?_⟩ (by omega)
 .intro n q u hq ⟨hu,hg⟩ hs;obtain⟨b1,b2⟩:=yfd hq;rw[z25,if_pos (by simp;omega),z4 ⟨by omega,by omega⟩,yi5 hq];have e0:prA (gt (z16 p l) (q:Int)).1 (gt (z16 p l) (q:Int)).2 (0:Int).toNat =(gt (z16 p l) (q:Int)).1:=prA0 _ _;have e1:prA (gt (z16 p l) (q:Int)).1 (gt (z16 p l) (q:Int)).2 (1:Int).toNat =(gt (z16 p l) (q:Int)).2:=prA1 _ _;have hlu :(zk u (gt (z16 p l) (q:Int)).1 true).length=l.length:=by rw[zf1,hu]
  rw[e0,e1,z4 (by omega),z4 ⟨by omega,by omega⟩,z4 (by omega),W_id (x:=(q:Int)+1) (by omega) (by omega)];refine hs _ ⟨by rw[zf1,hlu],λk hk=>?_⟩;rw[zq4 (by omega) (by omega),zq4 (by omega) (by omega),y2a hq,hg k hk,Bool.or_assoc]
 .intro n u ⟨hu,hg⟩;rw[w23] at hg;rw[z25,if_neg (by simp[hl]),Of_r,Of_r,ydy φ hφ h,ydy φ hφ h,w00,w00,z4 (z78 (n:=(hofL p l 3).length+(hofL p l 4).length) (by omega) (by omega))];exact y0j φ (by omega) hlen u hu hg
 .rw[show ((l.length:Int):Int).toNat=l.length by omega];have:k =((k.toNat:Nat):Int):=by omega
  rw[this,z8i (by simp;omega)];simp[inPr]
end Px
end
section
namespace Px
open Go
set_option maxRecDepth 100000
def endC(x:z6)(t:Int):z6:=⟨x.railway,⟨x.span.from_,t⟩,x.ref⟩
def spR(u:Int)(c:List z6)(i:Nat):List z6:=(List.range i).map λ(j:Nat)=>endC (gt c (j:Int)) (if j+1<c.length then min2 u (gt c ((j:Int)+1)).span.from_ else u)
def spP(u:Int)(c:List z6)(i:Nat):List z6:=(List.range i).map λ(j:Nat)=>endC (gt c (j:Int)) (if j+1<i then(gt c ((j:Int)+1)).span.from_ else u)
def cntC(u:Int)(c:List z6):Nat:=(c.takeWhile λx=>decide (x.span.from_<u)).length
def spnL(u:Int)(c:List z6):List z6:=spR u c (cntC u c)
theorem ztg(u:Int):∀(c:List z6)(i:Nat),i<=c.length->(∀j:Nat,j<i->(gt c (j:Int)).span.from_<u)->(i<c.length->u<=(gt c (i:Int)).span.from_)->cntC u c=i
 | [],i,h,_,_=>by simp at h;subst h;rfl
 |x::c,0,_,_,h2=>by have:u<=x.span.from_:=h2 (by simp);unfold cntC;rw[List.takeWhile_cons_of_neg (by simp;omega)];rfl
 |x::c,i+1,h,h1,h2=>by
  have hx:x.span.from_<u:=h1 0 (by omega);have hs:∀j:Nat,j<c.length->gt (x::c) ((j+1:Nat):Int)=gt c (j:Int):=λj hj=>by rw[z8i (by simp;omega),z8i hj];rfl
  have ih:=ztg u c i (by simpa using h) (λj hj=>by
   have:=h1 (j+1) (by omega)
   rwa [hs j (by simp at h;omega)] at this) (λhi=>by
   have:=h2 (by simpa using hi)
   rwa [hs i hi] at this)
  unfold cntC at ih⊢;rw[List.takeWhile_cons_of_pos (by simpa using hx),w0m,ih]
theorem ydc(u:Int)(c:List z6)(i:Nat)(hi:i<=c.length)(h1:∀j:Nat,j<i->(gt c (j:Int)).span.from_<u)(h2:i<c.length->u<=(gt c (i:Int)).span.from_):spP u c i=spR u c i:=by
 unfold spP spR;refine w4p λj hj=>?_
 have hj:=w1e.1 hj;congr 1;by_cases a:j+1<i
 .rw[if_pos a,if_pos (by omega)];have:=h1 (j+1) a;unfold min2;rw[if_pos (by simpa using this)]
 .rw[if_neg a];by_cases b:j+1<c.length
  .have e:j+1=i:=by omega
   have:=h2 (by omega);rw[<- e] at this;rw[if_pos b];unfold min2;rw[if_neg (by simp at this;omega)]
  .rw[if_neg b]
theorem ydb(u:Int)(c:List z6)(i:Nat):(spP u c i).length=i:=by simp[spP]
theorem yh2(u:Int)(c:List z6)(i:Nat):gt (spP u c (i+1)) (i:Int)=endC (gt c (i:Int)) u:=by rw[z8i (by rw[ydb];omega)];simp[spP]
theorem yh3(u:Int)(c:List z6)(i:Nat):spP u c (i+2)=zk (spP u c (i+1)) (i:Int) (endC (gt c (i:Int)) (gt c ((i:Int)+1)).span.from_)++[endC (gt c ((i+1:Nat):Int)) u]:=by
 refine List.ext_getElem (by simp[spP,zf1]) λk h1 h2=>?_
 have hk:k<i+2:=by simpa[spP] using h1
 unfold zk;simp only[w1v];by_cases e:k=i+1
 .subst e;rw[List.getElem_append_right (by simp[spP])];simp[spP]
 .rw[List.getElem_append_left (by simp[spP];omega)];by_cases e2:k=i
  .subst e2;rw[List.getElem_set_self];simp[spP]
  .rw[List.getElem_set_ne (by omega)];simp only[spP,List.getElem_map,List.getElem_range];congr 1;rw[if_pos (by omega),if_pos (by omega)]
theorem y0i(φ:Nat)(hφ:1000<φ)(u:Int)(c:List z6)(hc:c.length<=500):z0c φ φ u c (c.length:Int) 0 []=some (spnL u c,0,()):=by
 refine z0a (λn i(o:List z6)=>z0c φ n u c (c.length:Int) i o) c.length (λi o=>o=spP u c i/\∀j:Nat,j<i->(gt c (j:Int)).span.from_<u) (λr=>r=some (spnL u c,0,())) ?_ ?_ φ [] ⟨rfl,λj hj=>by omega⟩ (by omega)
 .intro n i o hi ⟨ho,h1⟩ hk;have hol:o.length=i:=by rw[ho,ydb]
  rw[z0c,if_pos (by simp;omega),z4 ⟨by omega,by omega⟩];by_cases hu:u<=(gt c (i:Int)).span.from_
  .rw[if_pos (by simpa using hu),ho];unfold spnL;rw[ztg u c i (by omega) h1 (λ_=>hu),ydc u c i (by omega) h1 (λ_=>hu)]
  .rw[if_neg (by simpa using hu)];have h1':∀j:Nat,j<i+1->(gt c (j:Int)).span.from_<u:=λj hj=>by
    by_cases e:j=i
    .subst e;omega
    .exact h1 j (by omega)
   match i,hi,ho,hol,hk,h1' with
   |0,hi,ho,hol,hk,h1'=>
    have:o = []:=by rw[ho];rfl
    subst this;rw[if_neg (by simp)];unfold z4x;rw[z4 (z78 (by simp) (by omega)),W_id (by omega) (by omega)];exact hk _ ⟨rfl,h1'⟩
   |i+1,hi,ho,hol,hk,h1'=>
    have hW:W ((o.length:Int)-1) =(i:Int):=by rw[W_id (by omega) (by omega)];omega
    rw[if_pos (by simp;omega),hW,z4 ⟨by omega,by omega⟩];unfold z4x;rw[z4 (z78 (by simp[zf1];omega) (by omega)),W_id (by omega) (by omega)];refine hk _ ⟨?_,h1'⟩;have hg:gt o (i:Int)=endC (gt c (i:Int)) u:=by rw[ho,yh2]
    rw[hg,yh3,<- ho];have :(((i+1:Nat):Int)) =(i:Int)+1:=by omega
    rw[this];rfl
 .intro n o ⟨ho,h1⟩;rw[z0c,if_neg (by simp),ho];unfold spnL;rw[ztg u c c.length (by omega) h1 (λh=>by omega),ydc u c c.length (by omega) h1 (λh=>by omega)]
theorem zvg(φ:Nat)(hφ:1000<φ)(u:Int)(c:List z6)(hc:c.length<=500):z0j φ φ u 0 c []=some (spnL u c,0,()):=by
 have key:=z0a (λn i(s:List z6×List z6)=>z0j φ n u i s.1 s.2) c.length (λi s=>s.2=spR u c i/\s.1.length=c.length/\(∀j:Nat,i<=j->j<c.length->gt s.1 (j:Int)=gt c (j:Int))/\∀j:Nat,j<i->(gt c (j:Int)).span.from_<u) (λr=>r=some (spnL u c,0,())) ?_ ?_ φ (c,[]) ⟨rfl,rfl,λj _ _=>rfl,λj hj=>by omega⟩ (by omega)
 .exact key
 .intro n i ⟨d,o⟩ hi ⟨ho,hd,hg,h1⟩ hk;simp only at ho hd hg;have hol:o.length=i:=by rw[ho];simp[spR]
  have hgi:=hg i (by omega) hi;show z0j φ (n+1) u i d o=_;rw[z0j,if_pos (by simp;omega),z4 ⟨by omega,by omega⟩,hgi];by_cases hu:u<=(gt c (i:Int)).span.from_
  .rw[if_pos (by simpa using hu),ho];unfold spnL;rw[ztg u c i (by omega) h1 (λ_=>hu)]
  .have h1':∀j:Nat,j<i+1->(gt c (j:Int)).span.from_<u:=λj hj=>by
    by_cases e:j=i
    .subst e;omega
    .exact h1 j (by omega)
   rw[if_neg (by simpa using hu),z4 ⟨by omega,by omega⟩,W_id (by omega) (by omega)];have hsucc:∀x:z6,x=endC (gt c (i:Int)) (if i+1<c.length then min2 u (gt c ((i:Int)+1)).span.from_ else u)->o++[x]=spR u c (i+1):=λx hx=>by rw[ho,hx];unfold spR;rw[w2t,w28];rfl
   generalize hE :(⟨(gt c (i:Int)).railway,(⟨((gt c (i:Int)).span).from_,u⟩:Span),(gt c (i:Int)).ref⟩:z6)=E;have hEl :(zk d (i:Int) E).length=c.length:=by rw[zf1,hd]
   have hEi:gt (zk d (i:Int) E) (i:Int)=E:=by rw[zop _ _ _ _ (by omega) (by omega) (by omega),if_pos rfl]
   have hEo:∀j:Nat,i+1<=j->j<c.length->gt (zk d (i:Int) E) (j:Int)=gt c (j:Int):=λj hj hjl=>by rw[zop _ _ _ _ (by omega) (by omega) (by omega),if_neg (by omega)];exact hg j (by omega) hjl
   by_cases hn:i+1<c.length
   .have hnx:gt (zk d (i:Int) E) ((i:Int)+1)=gt c ((i:Int)+1):=hEo (i+1) (by omega) hn;rw[if_pos (by simp;omega),z4 ⟨by omega,by omega⟩,z4 ⟨by omega,by omega⟩,hEi,hnx];generalize hF :(⟨E.railway,(⟨(E.span).from_,min2 u ((gt c ((i:Int)+1)).span).from_⟩:Span),E.ref⟩:z6)=F;have hFl :(zk (zk d (i:Int) E) (i:Int) F).length=c.length:=by rw[zf1,hEl]
    unfold z7n;rw[z4 ⟨by omega,by omega⟩,z4 (z78 (by simp;omega) (by omega)),W_id (by omega) (by omega)];refine hk (_,_) ⟨?_,hFl,λj hj hjl=>?_,h1'⟩
    .refine hsucc _ ?_;rw[zop _ _ _ _ (by omega) (by omega) (by omega),if_pos rfl,if_pos hn,<- hF,<- hE];rfl
    .show gt (zk (zk d (i:Int) E) (i:Int) F) (j:Int)=_;rw[zop _ _ _ _ (by omega) (by omega) (by omega),if_neg (by omega)];exact hEo j hj hjl
   .rw[if_neg (by simp;omega)];unfold z7n;rw[z4 ⟨by omega,by omega⟩,z4 (z78 (by simp;omega) (by omega)),W_id (by omega) (by omega)];refine hk (_,_) ⟨?_,hEl,hEo,h1'⟩;refine hsucc _ ?_;rw[hEi,if_neg hn,<- hE];rfl
 .intro n ⟨d,o⟩ ⟨ho,hd,hg,h1⟩;simp only at ho hd hg;show z0j φ (n+1) u c.length d o=_;rw[z0j,if_neg (by simp;omega),ho];unfold spnL;rw[ztg u c c.length (by omega) h1 (λh=>by omega)]
def spnB(p:Pool)(l:List z5)(w u:Int):List z6×Int×Unit:=if zn9 p w u=true then([],1,()) else(spnL u (z9f p l w),0,())
theorem y6e(φ:Nat)(hφ:800000<φ){p:Pool}{l:List z5}(h:PH p l)(w u:Int):z2d φ p l w u=some (spnB p l w u)/\z99 φ p l w u=some (spnB p l w u):=by
 have hlen:=h.len;have c1:z19 φ p w u=some ((if zn9 p w u=true then 1 else 0),()):=by unfold z19;rw[z04 φ hφ,w00,h.pool,if_neg (by simp)];unfold zn9;split<;>rfl
 have c2:z5p φ p w u=some ((if zn9 p w u=true then 1 else 0),()):=by unfold z5p;rw[z0d φ hφ,w00,h.pool,if_neg (by simp)];unfold zn9;split<;>rfl
 by_cases hb:zn9 p w u=true
 .rw[if_pos hb] at c1 c2;unfold spnB;rw[if_pos hb];refine⟨?_,?_⟩
  .unfold z2d;rw[c1,w00,if_pos (by simp)]
  .unfold z99;rw[c2,w00,if_pos (by simp)]
 .rw[if_neg hb] at c1 c2;unfold spnB;rw[if_neg hb];unfold zn9 at hb;simp at hb;have hw:0<=w/\w<(p.fleet.wagons.length:Int):=by omega
  have hh:=(zmb h.pool).2.1 _ (z79 hw.1 hw.2);obtain⟨e1,e2,e3,e4⟩:=zsq φ hφ h hw hh;refine⟨?_,?_⟩
  .unfold z2d;rw[c1,w00,if_neg (by simp),e1,w00];exact y0i φ (by omega) u (z9f p l w) (by omega)
  .unfold z99;rw[c2,w00,if_neg (by simp),yif,zwi φ hφ h hw hh,w00];exact zvg φ (by omega) u (z9f p l w) (by omega)
end Px
end
section
namespace Px
open Go
set_option maxRecDepth 100000
theorem yn8:zh0 100000000=some (true,()):=by kernel_rfl
theorem y9l(φ:Nat)(p:Pool)(hφ:1000<φ):∃b,zab φ p=some (b,()):=by
 unfold zab;split
 .exact⟨false,rfl⟩
 .rename_i hc;simp only[w14,decide_eq_true_eq,not_or] at hc;obtain⟨⟨⟨⟨⟨⟨c1,c2⟩,c3⟩,c4⟩,c5⟩,c6⟩,c7⟩:=hc;refine z0a (λn i(_:Unit)=>z2t φ n i p) p.railways.length (λ_ _=>True) (λo=>∃b,o=some (b,())) ?_ ?_ φ () trivial (by omega)
  .intro n i _ hi _ hs;rw[z2t,if_pos (by simp;omega),z4 ⟨by omega,by omega⟩,W_id (by omega) (by omega)];split
   .exact⟨false,rfl⟩
   .exact hs () trivial
  .intro n _ _;rw[z2t,if_neg (by simp)];exact⟨true,rfl⟩
theorem yaq(φ:Nat)(hφ:1000<φ)(l:List z5):∃b,z90 φ l 60=some (b,())/\(b=true->l.length<=60/\∀r∈l,r.item.parts.length<=40):=by
 unfold z90;by_cases h60:60<l.length
 .rw[if_pos (by simp;omega)];exact⟨false,rfl,λh=>by cases h⟩
 .rw[if_neg (by simp;omega)];refine z0a (λn i(_:Unit)=>z24 φ n l i) l.length (λi _=>∀j:Nat,j<i->(gt l (j:Int)).item.parts.length<=40)
   (λo=>∃b,o=some (b,())/\(b=true->l.length<=60/\∀r∈l,r.item.parts.length<=40)) ?_ ?_ φ () (λj hj=>by omega) (by omega)
  .intro n i _ hi hI hs;rw[z24,if_pos (by simp;omega),z4 ⟨by omega,by omega⟩,z4 (λ_=>⟨by omega,by omega⟩),W_id (by omega) (by omega)];split
   .exact⟨false,rfl,λh=>by cases h⟩
   .rename_i hc;simp only[w14,decide_eq_true_eq,not_or] at hc;refine hs () λj hj=>?_
    by_cases e:j=i
    .subst e;omega
    .exact hI j (by omega)
  .intro n _ hI;rw[z24,if_neg (by simp)];exact⟨true,rfl,λ_=>⟨by omega,λr hr=>by obtain⟨j,hj,rfl⟩:=yme hr;exact hI j hj⟩⟩
theorem yf1(φ:Nat)(hφ:1000<φ)(p:Pool)(l:List z5):∃b,zky φ p l=some (b,())/\(b=true->l.length<=60/\∀r∈l,r.item.parts.length<=40):=by
 unfold zky;obtain⟨b,hb⟩:=y9l φ p hφ;obtain⟨c,hc,h⟩:=yaq φ hφ l;rw[hb,w00];cases b with
 |false=>unfold z9;rw[if_neg (by simp),w00];exact⟨_,rfl,λh=>by cases h⟩
 |true=>rw[zjs (by rfl),hc,w00];exact⟨_,rfl,λhb=>h (by simpa using hb)⟩
theorem ygv(φ:Nat)(l:List z3)(hl:l.length<=1000)(hφ:1000<φ):z3w φ l l=some (true,()):=by
 unfold z3w;rw[if_neg (by simp)];refine z0a (λn i(_:Unit)=>z0f φ n l l i) l.length (λ_ _=>True) (λo=>o=some (true,())) ?_ ?_ φ () trivial (by omega)
 .intro n i _ hi _ hs;rw[z0f,if_pos (by simp;omega),z4 ⟨by omega,by omega⟩,z4 ⟨by omega,by omega⟩,W_id (by omega) (by omega),if_neg (by simp)];exact hs () trivial
 .intro n _ _;rw[z0f,if_neg (by simp)]
theorem ygx(φ:Nat)(l:List Ref)(hl:l.length<=1000)(hφ:1000<φ):z3o φ l l=some (true,()):=by
 unfold z3o;rw[if_neg (by simp)];refine z0a (λn i(_:Unit)=>z3r φ n l l i) l.length (λ_ _=>True) (λo=>o=some (true,())) ?_ ?_ φ () trivial (by omega)
 .intro n i _ hi _ hs;rw[z3r,if_pos (by simp;omega),z4 ⟨by omega,by omega⟩,z4 ⟨by omega,by omega⟩,W_id (by omega) (by omega),if_neg (by simp)];exact hs () trivial
 .intro n _ _;rw[z3r,if_neg (by simp)]
theorem yd4(φ:Nat)(l:List z6)(hl:l.length<=1000)(hφ:1000<φ):zh3 φ l l=some (true,()):=by
 unfold zh3;rw[if_neg (by simp)];refine z0a (λn i(_:Unit)=>z85 φ n l l i) l.length (λ_ _=>True) (λo=>o=some (true,())) ?_ ?_ φ () trivial (by omega)
 .intro n i _ hi _ hs;rw[z85,if_pos (by simp;omega),z4 ⟨by omega,by omega⟩,z4 ⟨by omega,by omega⟩,W_id (by omega) (by omega),if_neg (by simp)];exact hs () trivial
 .intro n _ _;rw[z85,if_neg (by simp)]
theorem yj3(u:Int)(c:List z6):cntC u c<=c.length:=by unfold cntC;exact(List.takeWhile_sublist _).length_le
theorem y47(φ:Nat)(p:Pool)(l:List z5)(w u m:Int):(z3j φ).F (p,l,w,u,m,())=z11 φ p l w u m:=rfl
theorem y2n(φ:Nat)(hφ:1000<φ){p:Pool}{l:List z5}{w u m:Int}{c:List z6×Int×Unit}{a:Int×Int×Unit}{h:List z3}{r:List Ref}(hc:c.1.length<=1000)(hh:h.length<=1000)(hr:r.length<=1000)
  (s1:zh0 φ=some (true,())) (s2:zky φ p l=some (true,())) (e1:z2d φ p l w u=some c) (e2:z99 φ p l w u=some c) (e3:z7j φ p l w m=some a) (e4:zmg φ p l w m=some a)
  (e5:z0h φ p l=some (h,())) (e6:z7l φ p l=some (h,())) (e7:zx φ p l=some (r,())) (e8:z6e φ p l=some (r,())):z11 φ p l w u m=some (true,()):=by
 unfold z11 z9;simp[s1,s2,e1,e2,e3,e4,e5,e6,e7,e8,ygv φ h hh hφ,ygx φ r hr hφ,yd4 φ c.1 hc hφ]
theorem zmt(φ:Nat)(hφ:60000000<φ)(hs:zh0 φ=some (true,()))(p:Pool)(l:List z5)(w u m:Int):z11 φ p l w u m=some (true,()):=by
 obtain⟨b,hb,hfew⟩:=yf1 φ (by omega) p l;cases b with
 |false=>unfold z11;rw[hs,w00,if_neg (by simp),hb,w00,if_pos (by simp)]
 |true=>
 obtain⟨hl,hparts⟩:=hfew rfl;by_cases hc:z57 p=0
 case neg=>
  have hc' :((z57 p:Int) !=0)=true:=by simpa using hc
  have kh:z19 φ p w u=some (z57 p,()):=by unfold z19;rw[z04 φ (by omega),w00,if_pos hc']
  have kh2:z19 φ p w m=some (z57 p,()):=by unfold z19;rw[z04 φ (by omega),w00,if_pos hc']
  have kr:z5p φ p w u=some (z57 p,()):=by unfold z5p;rw[z0d φ (by omega),w00,if_pos hc']
  have kr2:z5p φ p w m=some (z57 p,()):=by unfold z5p;rw[z0d φ (by omega),w00,if_pos hc']
  have hp:z5g φ p l=some ([],()):=by unfold z5g;rw[z04 φ (by omega),w00,if_pos hc']
  have hrp:z98 φ p l=some ([],()):=by unfold z98;rw[z0d φ (by omega),w00,if_pos hc']
  obtain⟨n,rfl⟩:∃n,φ=n+1:=⟨φ-1,by omega⟩;refine y2n (n+1) (by omega) (c:=([],z57 p,())) (a:=(0,z57 p,())) (h:=[]) (r:=[]) (by simp) (by simp) (by simp) hs hb ?_ ?_ ?_ ?_ ?_ ?_ ?_ ?_
  .unfold z2d;rw[kh,w00,if_pos hc']
  .unfold z99;rw[kr,w00,if_pos hc']
  .unfold z7j;rw[kh2,w00,if_pos hc']
  .unfold zmg;rw[kr2,w00,if_pos hc']
  .unfold z0h;rw[hp,w00,z22,if_neg (by simp),ydd];obtain⟨r,r1,r2,r3⟩:=zt0 zrc (y1e (n+1) (by omega)) (n+1) [] (λ_ _=>trivial) (by simp) (by simp;omega);have:r = []:=by have:=r2.len;simpa using this
   rw[r3,this];rfl
  .unfold z7l;rw[hrp,w00,z3n,if_neg (by simp)]
  .unfold zx;rw[z04 (n+1) (by omega),w00,if_pos hc']
  .unfold z6e;rw[z0d (n+1) (by omega),w00,if_pos hc']
 have hPH:PH p l:=⟨hc,by omega,λr hr=>by have:=hparts r hr;omega⟩;have hM:=zqd p l;have hA:=zxx p l;refine y2n φ (by omega) (c:=spnB p l w u) (a:=atB p l w m) (h:=zh1 p l) (r:=unmL p l) ?_ (by omega) ?_ hs hb (y6e φ (by omega) hPH w u).1 (y6e φ (by omega) hPH w u).2 (ynj φ (by omega) hPH w m) (yie φ (by omega) hPH w m) (y6c φ (by omega) hPH) (zwc φ (by omega) hPH) (ylj φ (by omega) hPH) (ye1 φ (by omega) hPH)
 .unfold spnB;split
  .simp
  .rename_i hb;unfold zn9 at hb;simp at hb;have hw:0<=w/\w<(p.fleet.wagons.length:Int):=by omega
   obtain⟨_,e2,e3,e4⟩:=zsq φ (by omega) hPH hw ((zmb hPH.pool).2.1 _ (z79 hw.1 hw.2));have:=yj3 u (z9f p l w);show (spnL u (z9f p l w)).length<=1000;unfold spnL spR;rw[w10,List.length_range];omega
 .unfold unmL;rw[(zaz _ _).length_eq];unfold unmR;rw[w10];exact w2a (List.length_filter_le _ _) (by omega)
theorem zmu(y:Tup TT [26,36,0,0,0])(h:yl1 TV 30 [26,36,0,0,0] y):∃φ,(z3j φ).F y=some (true,()):=by obtain⟨p,l,w,u,m,z⟩:=y;cases z;exact⟨100000000,(y47 _ p l w u m).trans (zmt _ (by omega) yn8 p l w u m)⟩
end Px
end
