/- A part of the proof of emptiesMatchesReference_holds. Conditions: none. -/
import Derived.Test.YtcofccdjgfgeeaaGreatKiag
set_option linter.unusedVariables false
set_option linter.unusedSimpArgs false
section
namespace Px
open Go
set_option maxRecDepth 100000
def z83(at_ w:Int)(r:z7):Bool:=(!decide ((at_:Int)<r.item.from_))&&((((r.item.kind:Int)==8)&&((r.item.code:Int)==9))&&decide (r.item.wagon=w))
def z82(at_ w:Int)(r:z7):Bool:=(!decide ((at_:Int)<r.item.from_))&&(((((r.item.kind:Int)==6)||((r.item.kind:Int)==7))||((r.item.kind:Int)==5))&&decide (r.item.wagon=w))
def zfh(at_ w:Int)(r:z7):Bool:=(!decide ((at_:Int)<r.item.from_))&&(((r.item.kind:Int)==5)&&decide (r.item.wagon=w))
def zjn(at_:Int)(S:List z7)(w:Int):Item:=((S.filter (z82 at_ w)).getLast?).elim default (·.item)
def zof(at_:Int)(S:List z7)(w:Int):Int:=((S.filter (zfh at_ w)).getLast?).elim (-1) (·.item.class_)
def zrj(at_:Int)(S:List z7)(w:Int):Bool:=S.any (z83 at_ w)
theorem zh1(at_:Int)(P:List z7)(r:z7)(w:Int):zjn at_ (P++[r]) w=if z82 at_ w r=true then r.item else zjn at_ P w:=by unfold zjn;rw[w12];cases h:z82 at_ w r<;>simp[w15,h]
theorem zeg(at_:Int)(P:List z7)(r:z7)(w:Int):zof at_ (P++[r]) w=if zfh at_ w r=true then r.item.class_ else zof at_ P w:=by unfold zof;rw[w12];cases h:zfh at_ w r<;>simp[w15,h]
theorem zgv(at_:Int)(P:List z7)(r:z7)(w:Int):zrj at_ (P++[r]) w =(z83 at_ w r||zrj at_ P w):=by unfold zrj;simp[Bool.or_comm]
structure StW(n:Nat)(at_:Int)(P:List z7)(last:List Item)(cls:List Int)(gone:List Bool):Prop where
 l1:last.length=n
 l2:cls.length=n
 l3:gone.length=n
 at1:∀w:Nat,w<n->gt last (w:Int)=zjn at_ P w
 at2:∀w:Nat,w<n->gt cls (w:Int)=zof at_ P w
 at3:∀w:Nat,w<n->gt gone (w:Int)=zrj at_ P w
theorem StW.skip{n:Nat}{at_:Int}{P:List z7}{f:List Item}{g:List Int}{d:List Bool}(h:StW n at_ P f g d)(r:z7)(u:∀w,z82 at_ w r=false)(z:∀w,zfh at_ w r=false)(h3:∀w,z83 at_ w r=false):StW n at_ (P++[r]) f g d:=⟨h.l1,h.l2,h.l3,λw j=>by rw[zh1,u w,h.at1 w j];rfl,λw j=>by rw[zeg,z w,h.at2 w j];rfl,λw j=>by rw[zgv,h3 w,h.at3 w j];rfl⟩
theorem y01(φ:Nat)(at_:Int)(p:Pool)(B:List Int)(S:List z7)(hS:S.length<=1000)(hφ:1000<φ)(f:∀r∈S,r.item.kind<=9->0<=r.item.wagon/\r.item.wagon<(p.fleet.wagons.length:Int))
  (G:Option (List za×Int×Unit)->Prop) {u:List Item} {a0:List Int} {j:List Bool} (h0:StW p.fleet.wagons.length at_ [] u a0 j)
  (fin:∀last d gone,StW p.fleet.wagons.length at_ S last d gone->G (z07 φ φ at_ p B (last.length:Int) 0 d gone ([]:StkM) last)) :
  G (z0p φ φ at_ p B (S.length:Int) 0 u a0 j S):=by
 refine zu (λn i(s:List Item×List Int×List Bool)=>z0p φ n at_ p B (S.length:Int) i s.1 s.2.1 s.2.2 S) S.length (λi s=>StW p.fleet.wagons.length at_ (S.take i) s.1 s.2.1 s.2.2) G ?_ ?_ φ (u,a0,j) (by simpa using h0) (by omega)
 .intro n i s hi h hk;obtain⟨last,d,gone⟩:=s;simp only at h hk⊢;have hm:gt S (i:Int)∈S:=z80 (by omega) (by omega);have a1:=f _ hm;rw[z0p,if_pos (by simp;omega),z6 ⟨by omega,by omega⟩,W_id (x:=(i:Int)+1) (by omega) (by omega)];have z:=z03 S i hi;generalize gt S (i:Int)=r at a1 z⊢;by_cases c1:at_<r.item.from_
  .rw[if_pos (by simpa using c1)];refine hk (last,d,gone) ?_;rw[z];exact h.skip r (λw=>by simp[z82,c1]) (λw=>by simp[zfh,c1]) (λw=>by simp[z83,c1])
  .rw[if_neg (by simpa using c1)];by_cases c2:r.item.kind=8/\r.item.code=9
   .have g:=a1 (by omega);rw[if_pos (by simp[c2]),z6 ⟨g.1,by rw[h.l3];exact g.2⟩];refine hk (last,d,zo gone r.item.wagon true) ?_;rw[z];refine⟨h.l1,h.l2,by rw[z11];exact h.l3,λw f=>?_,λw f=>?_,λw f=>?_⟩
    .rw[zh1,if_neg (by simp[z82,c2]),h.at1 w f]
    .rw[zeg,if_neg (by simp[zfh,c2]),h.at2 w f]
    .rw[z0b _ _ _ _ g.1 (by rw[h.l3];exact g.2) (by omega),zgv];by_cases e :(w:Int)=r.item.wagon
     .rw[if_pos e];simp[z83,c1,c2,e]
     .have e':¬r.item.wagon =(w:Int):=λq=>e q.symm
      rw[if_neg e,h.at3 w f];simp[z83,e']
   .rw[if_neg (by simpa using c2)];have hg:∀w,z83 at_ w r=false:=λw=>by
     simp only[z83,w33];refine .inr (.inl ?_);simp only[w33,beq_eq_false_iff_ne];by_cases q:r.item.kind=8
     .exact .inr λq2=>c2 ⟨q,q2⟩
     .exact .inl q
    by_cases c3:r.item.kind=5
    .have g:=a1 (by omega);rw[if_pos (by simp[c3]),z6 ⟨g.1,by rw[h.l2];exact g.2⟩,z6 ⟨g.1,by rw[h.l1];exact g.2⟩];refine hk (zo last r.item.wagon r.item,zo d r.item.wagon r.item.class_,gone) ?_;rw[z];refine⟨by rw[z11];exact h.l1,by rw[z11];exact h.l2,h.l3,λw f=>?_,λw f=>?_,λw f=>?_⟩
     .rw[z0b _ _ _ _ g.1 (by rw[h.l1];exact g.2) (by omega),zh1];by_cases e :(w:Int)=r.item.wagon
      .rw[if_pos e,if_pos (by simp[z82,c1,c3,e])]
      .have e':¬r.item.wagon =(w:Int):=λq=>e q.symm
       rw[if_neg e,if_neg (by simp[z82,e']),h.at1 w f]
     .rw[z0b _ _ _ _ g.1 (by rw[h.l2];exact g.2) (by omega),zeg];by_cases e :(w:Int)=r.item.wagon
      .rw[if_pos e,if_pos (by simp[zfh,c1,c3,e])]
      .have e':¬r.item.wagon =(w:Int):=λq=>e q.symm
       rw[if_neg e,if_neg (by simp[zfh,e']),h.at2 w f]
     .rw[zgv,hg,h.at3 w f];rfl
    .have a2:∀w,zfh at_ w r=false:=λw=>by simp[zfh,c3]
     rw[if_neg (by simpa using c3)];by_cases c4:r.item.kind=6\/r.item.kind=7
     .have g:=a1 (by omega);rw[if_pos (by simpa using c4),z6 ⟨g.1,by rw[h.l1];exact g.2⟩];refine hk (zo last r.item.wagon r.item,d,gone) ?_;rw[z];refine⟨by rw[z11];exact h.l1,h.l2,h.l3,λw f=>?_,λw f=>?_,λw f=>?_⟩
      .rw[z0b _ _ _ _ g.1 (by rw[h.l1];exact g.2) (by omega),zh1];by_cases e :(w:Int)=r.item.wagon
       .have a3:r.item.from_<=at_:=by omega
        rw[if_pos e,if_pos (by rcases c4 with c4|c4<;>simp[z82,a3,c4,e])]
       .have e':¬r.item.wagon =(w:Int):=λq=>e q.symm
        rw[if_neg e,if_neg (by simp[z82,e']),h.at1 w f]
      .rw[zeg,a2,h.at2 w f];rfl
      .rw[zgv,hg,h.at3 w f];rfl
     .rw[if_neg (by simpa using c4)];refine hk (last,d,gone) ?_;rw[z];refine h.skip r (λw=>?_) a2 hg;simp only[z82,w33,w1l,beq_eq_false_iff_ne];exact .inr (.inl ⟨⟨λq=>c4 (.inl q),λq=>c4 (.inr q)⟩,c3⟩)
 .intro n s h;obtain⟨last,d,gone⟩:=s;simp only at h⊢;rw[w11] at h;rw[z0p,if_neg (by simp)];exact fin last d gone h
theorem yc2(φ:Nat)(l:List Int)(x:Int)(g:l.length<=100000)(hφ:l.length<φ):∃i,zde φ l x=some (i,())/\(0<=i↔x∈l):=by
 unfold zde;refine zu (λn i(_:Unit)=>z64 φ n l x (l.length:Int) i) l.length (λi _=>x ∉ l.take i) (λo=>∃i,o=some (i,())/\(0<=i↔x∈l)) ?_ ?_ φ () (by simp) hφ
 .intro n i _ d h f;rw[z64,if_pos (by simp;omega),z6 ⟨by omega,by omega⟩,W_id (x:=(i:Int)+1) (by omega) (by omega)];by_cases e:x=gt l (i:Int)
  .rw[if_pos (by simpa using e)];exact⟨_,rfl,⟨λ_=>by rw[e];exact z80 (by omega) (by omega),λ_=>by omega⟩⟩
  .rw[if_neg (by simpa using e)];refine f () ?_;rw[z03 l i d,w0j,w0d];exact λq=>q.elim h e
 .intro n _ h;rw[w11] at h;rw[z64,if_neg (by simp)];exact⟨-1,rfl,⟨λq=>by omega,λq=>absurd q h⟩⟩
theorem zzw(φ:Nat)(l:List Int)(x:Int)(g:l.length<=100000)(hφ:l.length<φ):z9g φ l x=some (l.contains x,()):=by obtain⟨i,d,f⟩:=yc2 φ l x g hφ;unfold z9g;rw[d,w00];congr 2;rw[w0t,decide_eq_true_eq,List.contains_iff_mem];exact f
def zg1(at_:Int)(S:List z7)(w:Int):Bool:=(((zjn at_ S w).kind:Int)==7)&&!zrj at_ S w
def keyQ(p:Pool)(at_:Int)(S:List z7)(w:Int):zc:=⟨(gt p.fleet.wagons w).type_,zof at_ S w,(zjn at_ S w).place⟩
def y0x(at_:Int)(S:List z7)(B:List Int)(w:Int):Bool:=zg1 at_ S w&&!B.contains w
def zg5(p:Pool)(at_:Int)(S:List z7)(B:List Int)(n:Nat):List zc:=(((List.range n).map (λw:Nat=>(w:Int))).filter (y0x at_ S B)).map (keyQ p at_ S)
theorem zy1(p:Pool)(at_:Int)(S:List z7)(B:List Int)(n:Nat):(zg5 p at_ S B n).length<=n:=by unfold zg5;rw[w0q];refine w1o (List.length_filter_le _ _) ?_;simp
theorem zgz(p:Pool)(at_:Int)(S:List z7)(B:List Int)(n:Nat):zg5 p at_ S B (n+1)=if y0x at_ S B (n:Int)=true then zg5 p at_ S B n++[keyQ p at_ S (n:Int)] else zg5 p at_ S B n:=by unfold zg5;rw[w1n,w1g,w12,w1g];cases h:y0x at_ S B (n:Int)<;>simp[w15,h]
theorem y02(φ:Nat)(hφ:20000<φ)(at_:Int)(p:Pool)(B:List Int)(hB:B.length<=1000)(S:List z7){d:List Item}{g:List Int}{f:List Bool}(hn:p.fleet.wagons.length<=4096)(h:StW p.fleet.wagons.length at_ S d g f):
  ∃out,z07 φ φ at_ p B (d.length:Int) 0 g f ([]:StkM) d=some (out,0,())/\ze8 at_ (zg5 p at_ S B p.fleet.wagons.length) out:=by
 have h1:=h.l1;have h2:=h.l2;have h3:=h.l3;refine zu (λn i m=>z07 φ n at_ p B (d.length:Int) i g f m d) d.length (λi m=>zr8 (zg5 p at_ S B i) m/\m.length<=i) (λo=>∃out,o=some (out,0,())/\ze8 at_ (zg5 p at_ S B p.fleet.wagons.length) out) ?_ ?_ φ [] ⟨zr8.nil,by simp⟩ (by omega)
 .intro n i m hi ⟨z,hm⟩ hk;have a2:=zy1 p at_ S B i;rw[z07,if_pos (by simp;omega),z6 ⟨by omega,by omega⟩,z6 (λ_=>⟨by omega,by omega⟩),W_id (x:=(i:Int)+1) (by omega) (by omega),h.at1 i (by omega),h.at3 i (by omega),h.at2 i (by omega),zzw φ B i (by omega) (by omega)];have a0 :((((zjn at_ S (i:Int)).kind:Int)==7)&&(!zrj at_ S (i:Int)))=zg1 at_ S (i:Int):=rfl;rw[a0];have j :((zi (default,()) (zg1 at_ S (i:Int)=true) (some (B.contains (i:Int),()))).bind λa1=>(if(zg1 at_ S (i:Int)&&(!a1.1))=true then
    (ck ((0:Int)<=(i:Int)/\(i:Int)<(p.fleet.wagons.length:Int)) (ck ((0:Int)<=(i:Int)/\(i:Int)<(g.length:Int)) (z07 φ n at_ p B (d.length:Int) ((i:Int)+1) g f (incK m (keyQ p at_ S (i:Int))) d)))
    else z07 φ n at_ p B (d.length:Int) ((i:Int)+1) g f m d))=if y0x at_ S B (i:Int)=true then z07 φ n at_ p B (d.length:Int) ((i:Int)+1) g f (incK m (keyQ p at_ S (i:Int))) d else z07 φ n at_ p B (d.length:Int) ((i:Int)+1) g f m d:=by
   unfold zi y0x;cases hf:zg1 at_ S (i:Int) with
   |false=>rw[if_neg (by simp),w00,if_neg (by simp),if_neg (by simp)]
   |true=>
    rw[if_pos rfl,w00];cases B.contains (i:Int) with
    |true=>rw[if_neg (by simp),if_neg (by simp)]
    |false=>rw[if_pos (by simp),if_pos (by simp),z6 ⟨by omega,by omega⟩,z6 ⟨by omega,by omega⟩]
  refine Eq.mp (congrArg (λo=>∃out,o=some (out,(0:Int),())/\ze8 at_ (zg5 p at_ S B p.fleet.wagons.length) out) j.symm) ?_;split
  .rename_i u;refine hk _ ⟨?_,?_⟩
   .rw[zgz,if_pos u];exact z.inc _ (by omega)
   .have:=yd0 z.srt (keyQ p at_ S (i:Int)) (W ((cget zlh m (keyQ p at_ S (i:Int))).getD (default:Int)+1))
    unfold incK;omega
  .rename_i u;refine hk _ ⟨?_,by omega⟩;rw[zgz,if_neg u];exact z
 .intro n m ⟨z,hm⟩;rw[z07,if_neg (by simp),zo2 φ at_ m φ [] (by omega) (by simp;omega),w1z];obtain⟨out,o1,o2⟩:=zwb (at_:=at_) z (by omega);rw[o1,w00];exact⟨out,rfl,by rw[h1] at o2;exact o2⟩
end Px
end
section
namespace Px
open Go
set_option maxRecDepth 100000
def z3q(p:Pool)(l:List z7):List z7:=l.filter λr=>zgc p r.item
theorem FewP.filter{l:List z7}(h:FewP l)(q:z7->Bool):FewP (l.filter q):=⟨w1o (List.length_filter_le _ _) h.len,λr d=>h.parts r (w0i.1 d).1,λr d=>h.wagon r (w0i.1 d).1⟩
theorem y00(φ:Nat)(hφ:10000<φ)(at_:Int)(p:Pool)(B:List Int)(S:List z7)(u:S.length<=1000)(hn:p.fleet.wagons.length<=4096)(f:∀r∈S,r.item.kind<=9->0<=r.item.wagon/\r.item.wagon<(p.fleet.wagons.length:Int))
  (G:Option (List za×Int×Unit)->Prop)
  (fin:∀last d gone,StW p.fleet.wagons.length at_ S last d gone->G (z07 φ φ at_ p B (last.length:Int) 0 d gone ([]:StkM) last)) :
  G (z3l φ φ at_ p B (((List.replicate p.fleet.wagons.length (default:Int)).length:Int)) 0 S (List.replicate p.fleet.wagons.length (default:Item)) (List.replicate p.fleet.wagons.length (default:Int)) (List.replicate p.fleet.wagons.length (default:Bool))):=by
 refine zu (λn i d=>z3l φ n at_ p B (((List.replicate p.fleet.wagons.length (default:Int)).length:Int)) i S (List.replicate p.fleet.wagons.length (default:Item)) d (List.replicate p.fleet.wagons.length (default:Bool))) (List.replicate p.fleet.wagons.length (default:Int)).length
  (λi d=>d.length=p.fleet.wagons.length/\∀j:Nat,j<i->gt d (j:Int)=-1) G ?_ ?_ φ _ ⟨by simp,λj hj=>by omega⟩ (by simp;omega)
 .intro n i d z ⟨h,g⟩ hk;rw[List.length_replicate] at z;rw[z3l,if_pos (by simp;omega),z6 ⟨by omega,by omega⟩,W_id (x:=(i:Int)+1) (by omega) (by omega)];refine hk _ ⟨by rw[z11];exact h,λj hj=>?_⟩;rw[z0b _ _ _ _ (by omega) (by omega) (by omega)];by_cases e :(j:Int) =(i:Int)
  .rw[if_pos e]
  .rw[if_neg e];exact g j (by omega)
 .intro n d ⟨h,g⟩;rw[List.length_replicate] at g;rw[z3l,if_neg (by simp)];refine y01 φ at_ p B S u (by omega) f G ⟨by simp,h,by simp,λw f=>?_,λw f=>?_,λw f=>?_⟩ fin
  .rw[z68 (by simpa using f),List.getElem_replicate];rfl
  .rw[g w f];rfl
  .rw[z68 (by simpa using f),List.getElem_replicate];rfl
theorem yc1{φ:Nat}(hφ:800000<φ){p:Pool}(d:z1j p≠0)(l:List z7)(at_:Int):z3w φ p l at_=some ([],z1j p,()):=by unfold z3w;rw[z3h φ hφ,w00,if_pos (by simpa using d)]
theorem yc0{φ:Nat}(hφ:800000<φ){p:Pool}(d:z1j p=0)(l:List z7){at_:Int}(f:¬(0<=at_/\at_<=1073741824)):z3w φ p l at_=some ([],1,()):=by unfold z3w;rw[z3h φ hφ,w00,if_neg (by simpa using d),if_pos (by simp;omega)]
theorem zid{p:Pool}(h:z1j p=0):p.fleet.wagons.length<=4096:=(z1n (zgq h).2.1).2.1
theorem ygv{φ:Nat}(hφ:800000<φ){p:Pool}(g:z1j p=0){l:List z7}(h:FewP l){at_:Int}(ha:0<=at_/\at_<=1073741824):
  ∃b out,z3w φ p l at_=some (out,0,())/\za9 φ (z3q p l) at_=some (b,())/\Inc b/\b.length<=100/\ze8 at_ (zg5 p at_ (sT (z3q p l)) b p.fleet.wagons.length) out/\
   ∀x,x∈b↔∃r∈z3q p l,zi9 at_ r=true/\∃q∈r.item.parts,x∈posW (ofP q) (hist (z3q p l) at_):=by
 have hV:=h.filter λr=>zgc p r.item
 have a3:=h.len;have hn:=zid g;obtain⟨b,b1,b2,b3,b4⟩:=y5n (l:=z3q p l) hV φ (by omega) at_;have a2 :(z3q p l).length<=20:=hV.len;refine⟨b,?_⟩;suffices key:∃out,z3w φ p l at_=some (out,0,())/\ze8 at_ (zg5 p at_ (sT (z3q p l)) b p.fleet.wagons.length) out from by obtain⟨out,o1,o2⟩:=key;exact⟨out,o1,b1,b2,b3,o2,b4⟩
 unfold z3w;rw[z3h φ hφ,w00,if_neg (by simpa using g),if_neg (by simp;omega)];refine zu (λn i d=>z3k φ n at_ l (l.length:Int) i p d) l.length (λi d=>d=z3q p (l.take i)) (λo=>∃out,o=some (out,0,())/\ze8 at_ (zg5 p at_ (sT (z3q p l)) b p.fleet.wagons.length) out) ?_ ?_ φ [] rfl (by omega)
 .intro n i d hi f j;have hp:=h.parts _ (z80 (l:=l) (i:=(i:Int)) (by omega) (by omega));have a0:d.length<=100:=by rw[f];unfold z3q;exact w1o (List.length_filter_le _ _) (by rw[w1e];omega)
  rw[z3k,if_pos (by simp;omega),z6 ⟨by omega,by omega⟩,W_id (x:=(i:Int)+1) (by omega) (by omega),zxg φ hφ g (by omega),w00];cases ho:zgc p (gt l (i:Int)).item with
  |false=>rw[if_neg (by simp)];refine j d ?_;rw[z03 l i hi,f];unfold z3q;rw[w12];simp[ho]
  |true=>rw[if_pos (by simp),z6 (zac (by simp;omega) (by omega))];refine j _ ?_;rw[z03 l i hi,f];unfold z3q;rw[w12];simp[ho]
 .intro n d f;rw[w11] at f;subst f;rw[z3k,if_neg (by simp),zr7,b1,w00,ygq φ (by omega) _ (by omega),w00,w1i,
   z6 ⟨by omega,by omega,by omega⟩,z6 ⟨by omega,by omega,by omega⟩,z6 ⟨by omega,by omega,by omega⟩]
  refine y00 φ (by omega) at_ p b (sT (z3q p l)) (by rw[zqt];omega) hn (λr u j=>?_) (λo=>∃out,o=some (out,0,())/\ze8 at_ (zg5 p at_ (sT (z3q p l)) b p.fleet.wagons.length) out) λlast a1 gone z=>y02 φ (by omega) at_ p b (by omega) _ hn z
  have u:=w0i.1 (yb3.1 u);exact(yac g (by have:=h.parts r u.1;omega) u.2).wagon j
end Px
end
section
namespace Px
open Go
def inB(s:ByteArray)(c:Int):Bool:=(List.range s.size).any λ(i:Nat)=>z75 s (i:Int)==c
theorem y7k(φ:Nat)(s:ByteArray)(c:Int)(z:s.size<=100):∀(n i:Nat),i<=s.size->s.size<n+i->((List.range i).any λ(j:Nat)=>z75 s (j:Int)==c)=false->zcs φ n s c (i:Int)=some (inB s c,())
 |0,i,g,u,_=>by omega
 |n+1,i,g,u,f=>by
  rw[zcs];by_cases h:i<s.size
  .rw[if_pos (by simp;omega),z6 ⟨by omega,by omega⟩,W_id (by omega) (by omega)];by_cases d :(z75 s (i:Int)==c)=true
   .rw[if_pos d];have:inB s c=true:=w1q.2 ⟨i,w1d.2 h,d⟩;rw[this]
   .rw[if_neg d];have:=y7k φ s c z n (i+1) (by omega) (by omega) (by rw[w1n,List.any_append,f];simpa using d);simpa using this
  .rw[if_neg (by simp;omega)];have:i=s.size:=by omega
   subst this;unfold inB;rw[f]
theorem ygw(φ:Nat)(s:ByteArray)(c:Int)(d:s.size<=100)(hφ:200<φ):za4 φ s c=some (inB s c,()):=by have:=y7k φ s c d φ 0 (by omega) (by omega) (by simp);simpa[za4] using this
def zsd(k:Int):ByteArray:=
 if k=1 then zgm else if k=2 then zcz else if k=3\/k=4\/k=6 then z73 else if k=5 then zi3 else if k=7 then zd0 else if k=8 then zi0
 else if k=9 then zi1 else if k=10 then zr1 else if k=11\/k=12 then zgl else if k=13 then zr0 else if k=15 then zi2 else⟨#[]⟩
theorem ygy(φ:Nat)(k:Int):zh9 φ k=some (zsd k,()):=by
 unfold zh9 zb8 zb9 zsd;by_cases u:k=1;· simp[u]
 by_cases z:k=2;· simp[z]
 by_cases h3:k=3;· simp[h3]
 by_cases h4:k=4;· simp[h4]
 by_cases h5:k=5;· simp[h5]
 by_cases h6:k=6;· simp[h6]
 by_cases h7:k=7;· simp[h7]
 by_cases h8:k=8;· simp[h8]
 by_cases h9:k=9;· simp[h9]
 by_cases d:k=10;· simp[d]
 by_cases f:k=11;· simp[f]
 by_cases g:k=12;· simp[g]
 by_cases h:k=13;· simp[h]
 by_cases j:k=15;· simp[j]
 simp[u,z,h3,h4,h5,h6,h7,h8,h9,d,f,g,h,j]
theorem ybo(k:Int):(zsd k).size<=8:=by
 unfold zsd
 repeat' split
 all_goals decide
def zjy(p:Pool)(it:Item):Bool:=bet it.place 0 ((p.network.places.length:Int)-1)&&(if it.kind=3\/it.kind=4 then(gt p.network.places it.place).kind==3 else if it.kind=9 then(gt p.network.places it.place).kind==5 else true)
def zmu(p:Pool)(it:Item):Bool:=if it.kind=1 then bet it.other 0 ((p.readers.length:Int)-1) else if it.kind=3\/it.kind=4 then(it.other==(gt p.network.places it.place).railway||it.other==(gt p.network.places it.place).other)
 else if it.kind=10 then bet it.other 0 63 else bet it.other 0 ((p.shippers.length:Int)-1)
def zgb(p:Pool)(it:Item):Bool:=if it.kind=5 then bet it.number 1 1000000000 else if it.kind=15 then bet it.number 0 ((p.fleet.types.length:Int)-1) else bet it.number 1 6
def zxd(it:Item):Bool:=if it.kind=3\/it.kind=4 then bet it.code 0 8 else if it.kind=6 then bet it.code 0 1 else if it.kind=8 then bet it.code 1 9 else bet it.code 1 2
def ze3(p:Pool)(it:Item)(c:Int):Bool:=
 if c=119 then bet it.wagon 0 ((p.fleet.wagons.length:Int)-1) else if c=112 then zjy p it else if c=111 then zmu p it else if c=110 then zgb p it else if c=102 then bet it.from_ 0 1073741824
 else if c=116 then bet it.to it.from_ 1073741824 else if c=99 then zxd it else if c=100 then bet it.dest 0 ((p.network.places.length:Int)-1) else if c=107 then bet it.class_ 0 63
 else if c=103 then(if it.kind=15 then bet it.weight 1 1000 else bet it.weight 0 1000000) else bet it.amount 0 1000000000
def zfe(it:Item)(c:Int):Int:=if c=119 then it.wagon else if c=112 then it.place else if c=111 then it.other else if c=110 then it.number else if c=102 then it.from_ else if c=116 then it.to else if c=99 then it.code else if c=100 then it.dest else if c=107 then it.class_ else if c=103 then it.weight else it.amount
theorem ybz(φ:Nat)(d:Item)(c:Int):zcr φ d c=some (zfe d c,()):=by
 unfold zcr zfe;simp only[beq_iff_eq]
 repeat' split
 all_goals rfl
structure PSz(p:Pool):Prop where
 w:p.fleet.wagons.length<=4096
 r:p.readers.length<=256
 s:p.shippers.length<=256
 pl:p.network.places.length<=512
 t:p.fleet.types.length<=32
theorem yf7(φ:Nat){p:Pool}(hp:PSz p)(d:Item)(c:Int)(h:c=111->d.kind=3\/d.kind=4->0<=d.place/\d.place<(p.network.places.length:Int)):zcu φ p d c=some (ze3 p d c,()):=by
 obtain⟨h1,h2,h3,h4,h5⟩:=hp;have w1:W ((p.fleet.wagons.length:Int)-1) =(p.fleet.wagons.length:Int)-1:=W_id (by omega) (by omega);have w2:W ((p.readers.length:Int)-1) =(p.readers.length:Int)-1:=W_id (by omega) (by omega);have w3:W ((p.shippers.length:Int)-1) =(p.shippers.length:Int)-1:=W_id (by omega) (by omega);have w4:W ((p.network.places.length:Int)-1) =(p.network.places.length:Int)-1:=W_id (by omega) (by omega);have w5:W ((p.fleet.types.length:Int)-1) =(p.fleet.types.length:Int)-1:=W_id (by omega) (by omega);unfold zcu ze3;by_cases c1:c=119
 .simp[c1,zg,w1,bet]
 by_cases c2:c=112
 .simp only[c2,Int.reduceBEq,Int.reduceEq,if_false,if_true,w09,zif,zg,w4,w00];unfold zjy;change _=some (bet d.place 0 ((p.network.places.length:Int)-1)&&_,());cases z:bet d.place 0 ((p.network.places.length:Int)-1) with
  |false=>change (decide _&&decide _)=false at z;rw[z];rfl
  |true=>
   have a2:=zth z;change (decide _&&decide _)=true at z;rw[z];simp only[w21,w09,if_false,w25];rw[z6 (by omega)];unfold za6;by_cases g:d.kind=3
   .simp[g]
   by_cases j:d.kind=4
   .simp[j]
   by_cases k9:d.kind=9
   .simp[k9]
   .simp[g,j,k9]
 by_cases c3:c=111
 .have a0:=h c3;simp only[c3,Int.reduceBEq,Int.reduceEq,if_false,if_true,w09,zie,za5,zg,w2,w3,w00];unfold zmu;by_cases k1:d.kind=1
  .simp[k1,bet]
  by_cases g:d.kind=3
  .have:=a0 (.inl g)
   simp[g,z6 this]
  by_cases j:d.kind=4
  .have:=a0 (.inr j)
   simp[j,z6 this]
  by_cases a1:d.kind=10
  .simp[a1,bet]
  .simp[k1,g,j,a1,bet]
 by_cases c4:c=110
 .simp only[c4,Int.reduceBEq,Int.reduceEq,if_false,if_true,w09,zgd,zg,w5,w00];unfold zgb;by_cases k5:d.kind=5
  .simp[k5,bet]
  by_cases f:d.kind=15
  .simp[f,bet]
  .simp[k5,f,bet]
 by_cases c5:c=102
 .simp[c5,zg,bet]
 by_cases c6:c=116
 .simp[c6,zg,bet]
 by_cases c7:c=99
 .simp only[c7,Int.reduceBEq,Int.reduceEq,if_false,if_true,w09,zlu,zba,zg,w00];unfold zxd;by_cases g:d.kind=3
  .simp[g,bet]
  by_cases j:d.kind=4
  .simp[j,bet]
  by_cases k6:d.kind=6
  .simp[k6,bet]
  by_cases k8:d.kind=8
  .simp[k8,bet]
  .simp[g,j,k6,k8,bet]
 by_cases c8:c=100
 .simp[c8,zg,w4,bet]
 by_cases c9:c=107
 .simp[c9,zg,bet]
 by_cases u:c=103
 .by_cases f:d.kind=15
  .simp[u,f,zg,bet]
  .simp[u,f,zg,bet]
 .simp[c1,c2,c3,c4,c5,c6,c7,c8,c9,u,zg,bet]
def zat(k:Int)(x:Part):Bool:=(bet x.kind 1 3&&bet x.serial 0 1073741824)&&!((k==10)&&x.fitted)
def zjx(it:Item):Bool:=(decide (it.parts.length<=16)&&!((it.kind==10)&&(it.parts.length==0)))&&it.parts.all (zat it.kind)
theorem yer(φ:Nat)(hφ:100<φ)(f:Item):zf4 φ f=some (zjx f,()):=by
 unfold zf4 zjx;by_cases h:16<f.parts.length
 .rw[if_pos (by simp;omega)];rw[decide_eq_false (show ¬f.parts.length<=16 by omega)];rfl
 rw[decide_eq_true (show f.parts.length<=16 by omega),w25];by_cases j :((f.kind==10)&&(f.parts.length==0))=true
 .rw[if_pos (by simp at j⊢;exact .inr j),j];rfl
 .rw[if_neg (by simp at j⊢;exact⟨by omega,j⟩),w1k _ |>.mp j];simp only[w2m,w25];refine zu (λn i(_:Unit)=>z6v φ n i f) f.parts.length (λi _=>(f.parts.take i).all (zat f.kind)=true) (λo=>o=some (f.parts.all (zat f.kind),())) ?_ ?_ φ () (by simp) (by omega)
  .intro n i _ hi u hk;rw[z6v,if_pos (by simp;omega),z6 ⟨by omega,by omega⟩,W_id (by omega) (by omega)];have key:zat f.kind (gt f.parts (i:Int))=false->f.parts.all (zat f.kind)=false:=λz=>by rw[w3m];exact⟨_,z80 (l:=f.parts) (i:=(i:Int)) (by omega) (by omega),by rw[z];simp⟩
   have g:zat f.kind (gt f.parts (i:Int))=true->(f.parts.take (i+1)).all (zat f.kind)=true:=λht=>by rw[zeb _ _ _ hi,u,ht];rfl
   have e:zat f.kind (gt f.parts (i:Int)) =((bet (gt f.parts (i:Int)).kind 1 3&&bet (gt f.parts (i:Int)).serial 0 1073741824)&&!((f.kind==10)&&(gt f.parts (i:Int)).fitted)):=rfl;rw[e] at key g;clear e;simp only[zg,w00];change ((zi (default,()) ((!bet (gt f.parts (i:Int)).kind 1 3)=false) (some (bet (gt f.parts (i:Int)).serial 0 1073741824,()))).bind λy6=>if(((!bet (gt f.parts (i:Int)).kind 1 3)||(!y6.1))||(((f.kind:Int)==10)&&(gt f.parts (i:Int)).fitted))=true then _ else _)=_;generalize bet (gt f.parts (i:Int)).kind 1 3=a at *;generalize bet (gt f.parts (i:Int)).serial 0 1073741824=b at *;generalize (((f.kind:Int)==10)&&(gt f.parts (i:Int)).fitted)=d at *;cases a<;>cases b<;>cases d<;>simp only[zi,w21,w2m,w09,Bool.true_eq_false,if_true,if_false,w00,Bool.or_true,Bool.true_or,w4b,w2c]
   all_goals first |(rw[key rfl])|exact hk () (g rfl)
  .intro n _ u;rw[w11] at u;rw[z6v,if_neg (by simp),u]
def zkq(p:Pool)(it:Item)(u:ByteArray)(c:Int):Bool:=if inB u c=true then ze3 p it c else zfe it c==0
def letB(i:Nat):Int:=z75 z4j (i:Int)
def zt8(it:Item)(u:ByteArray):Bool:=((inB u 120==(it.text !=(⟨#[]⟩:ByteArray)))&&decide ((it.text.size:Int)<=2000))&&(if inB u 113=true then(zjx it||false) else((it.parts.length:Int)==0))
theorem yla{u:ByteArray}{p:Pool}{f:Item}(d :(List.range 2).all (λi=>zkq p f u (letB i))=true)(g:inB u 112=true):0<=f.place/\f.place<(p.network.places.length:Int):=by have:=w0a.1 d 1 (by simp);unfold zkq at this;rw[show letB 1=112 from by decide,if_pos g] at this;unfold ze3 zjy at this;simp at this;have h:=zth this.1;omega
theorem y5r(φ:Nat)(hφ:300<φ){p:Pool}(hp:PSz p)(d:Item)(u:ByteArray)(hu:u.size<=8)(hk:d.kind=3\/d.kind=4->inB u 112=true):
  z4e φ φ u 0 p d=some (((List.range 11).all λi=>zkq p d u (letB i))&&zt8 d u,()):=by
 refine zu (λn i(_:Unit)=>z4e φ n u i p d) 11 (λi _=>(List.range i).all (λi=>zkq p d u (letB i))=true) (λo=>o=some (((List.range 11).all λi=>zkq p d u (letB i))&&zt8 d u,())) ?_ ?_ φ () rfl (by omega)
 .intro n i _ hi hI a1;have a5:z4j.size=11:=by decide
  have hl:∀b,zkq p d u (letB i)=b->(List.range (i+1)).all (λi=>zkq p d u (letB i))=b:=λb hb=>by rw[w1n,w4e,hI];simp[hb]
  have f:zkq p d u (letB i)=false->(((List.range 11).all λi=>zkq p d u (letB i))&&zt8 d u)=false:=λz=>by
   have :((List.range 11).all λi=>zkq p d u (letB i))=false:=by rw[w3m];exact⟨i,w1d.2 hi,by rw[z];simp⟩
   rw[this];rfl
  rw[z4e,if_pos (by simp;omega),z6 ⟨by omega,by rw[a5];omega⟩,W_id (by omega) (by omega)];change ((za4 φ u (letB i)).bind λg=>((zi (default,()) (g.1=true) (zcu φ p d (letB i))).bind λh=>((zi (default,()) ((g.1&&(!h.1))=false) (za4 φ u (letB i))).bind λa3=>((zi (default,()) ((g.1&&(!h.1))=false/\(!a3.1)=true) (zcr φ d (letB i))).bind λa6=>(if((g.1&&(!h.1))||((!a3.1)&&((a6.1:Int) !=0)))=true then _ else _)))))=_;rw[ygw φ u _ (by omega) (by omega),w00,ybz];have hr:letB i=111->d.kind=3\/d.kind=4->0<=d.place/\d.place<(p.network.places.length:Int):=by
   intro h1 h2;have a7:2<=i:=by
    have hc:∀j:Nat,j<2->letB j≠111:=by decide
    by_cases a4:i<2
    .exact absurd h1 (hc i a4)
    .omega
   refine yla (u:=u) (w0a.2 λj hj=>w0a.1 hI j (by simp at hj⊢;omega)) (hk h2)
  rw[yf7 φ hp d _ hr];have e:zkq p d u (letB i)=if inB u (letB i)=true then ze3 p d (letB i) else zfe d (letB i)==0:=rfl
  rw[e] at hl f;clear e;cases a0:inB u (letB i) with
  |true=>
   rw[if_pos a0] at hl f;cases a2:ze3 p d (letB i) with
   |true=>simp[zi];exact a1 () (hl true a2)
   |false=>rw[f a2];simp[zi]
  |false=>
   rw[if_neg (by rw[a0];simp)] at hl f;by_cases z:zfe d (letB i)=0
   .have:=a1 () (hl true (by rw[z];rfl))
    simp[zi,z];exact this
   .rw[f (by simpa using z)];simp[zi,z]
 .intro n _ hI;rw[z4e,if_neg (by simp),hI,ygw φ u _ (by omega) (by omega),ygw φ u _ (by omega) (by omega),w00,w00,yer φ (by omega),w25];unfold zt8;cases h1:inB u 120==(d.text !=(⟨#[]⟩:ByteArray)) with
  |false=>rw[if_pos (by rw[w0w];left;rw[bne,h1];rfl)];rfl
  |true=>
   by_cases h2 :(d.text.size:Int)<=2000
   .rw[if_neg (by rw[bne,h1];simp;omega),decide_eq_true h2];cases h3:inB u 113 with
    |true=>by_cases h4:d.parts = []<;>cases zjx d<;>simp[zi,h4]
    |false=>by_cases h4 :(d.parts.length:Int)=0<;>simp[zi,h4]
   .rw[if_pos (by rw[w0w];right;simp;omega),decide_eq_false h2];rfl
def zsy(it:Item):Bool:=if(it.ref.railway=0/\it.ref.no=0) then it.kind !=14 else(bet it.ref.railway 0 15&&bet it.ref.no 1 4096)
theorem zw1(φ:Nat)(d:Item):z9a φ d=some (zsy d,()):=by
 unfold z9a zsy;by_cases h:d.ref.railway=0/\d.ref.no=0
 .rw[if_pos (by simpa using h),if_pos h]
 .rw[if_neg (by simpa using h),if_neg h];simp only[zg,w00];change ((zi (default,()) (bet d.ref.railway 0 15=true) (some (bet d.ref.no 1 4096,()))).bind λf=>some (bet d.ref.railway 0 15&&f.1,()))=_;cases bet d.ref.railway 0 15<;>rfl
theorem yiy(d:Item):y1n d=zsy d:=by
 unfold y1n zsy z7q;by_cases h:d.ref.railway=0/\d.ref.no=0
 .rw[if_pos (by simpa using h),if_pos h];rfl
 .rw[if_neg (by simpa using h),if_neg h];rw[w0t];simp[bet];omega
def zcx(p:Pool)(it:Item):Bool:=bet it.kind 1 15&&(((List.range 11).all λi=>zkq p it (zsd it.kind) (letB i))&&zt8 it (zsd it.kind))
theorem y7o(φ:Nat)(hφ:300<φ){p:Pool}(j:PSz p)(d:Item):zct φ p d=some (y1n d&&zcx p d,()):=by
 unfold zct zcx;rw[ygy,w00,zw1,yiy,y5r φ hφ j d _ (ybo _) (λh=>by
  have:d.kind=3\/d.kind=4\/d.kind=6:=by omega
  have f:d.kind≠1:=by omega
  have g:d.kind≠2:=by omega
  rw[zsd,if_neg f,if_neg g,if_pos this];decide)]
 simp only[zg,w00];change ((zi (default,()) ((!bet d.kind 1 15)=false) (some (zsy d,()))).bind λu=>if((!bet d.kind 1 15)||(!u.1))=true then some (false,()) else _)=_;cases bet d.kind 1 15<;>cases zsy d<;>simp[zi]
end Px
end
section
namespace Px
open Go
set_option maxHeartbeats 4000000
def tabL(k:Int):List Int:=
 if k=1 then [119,111,102] else if k=2 then [119,112,102,116] else if k=3 then [119,112,111,102,99] else if k=4 then [119,112,111,102,99] else if k=5 then [110,119,111,112,100,107,103,102]
 else if k=6 then [119,112,111,102,99] else if k=7 then [119,112,111,102] else if k=8 then [119,102,99] else if k=9 then [119,112,102,116,99,97,113] else if k=10 then [111,113]
 else if k=11 then [110,102,120] else if k=12 then [110,102,120] else if k=13 then [110,102] else if k=15 then [111,112,107,110,103,102,116,97] else []
def zun:List Int:=[119,112,111,110,102,116,99,100,107,103,97,120,113]
theorem yk0 :((List.range 16).all λk=>zun.all λc=>inB (zsd (k:Int)) c==(tabL (k:Int)).contains c)=true:=by decide+kernel
theorem y0z{k c:Int}(h:1<=k/\k<=15)(d:c∈zun):inB (zsd k) c =(tabL k).contains c:=by have:=w0a.1 yk0 k.toNat (w1d.2 (by omega));have:=w0a.1 this c d;rw[show ((k.toNat:Nat):Int)=k by omega] at this;simpa using this
def sB(p:Pool)(it:Item)(c:Int):Bool:=if(tabL it.kind).contains c=true then ze3 p it c else zfe it c==0
def RF(p:Pool)(it:Item):Bool:=
 (sB p it 119&&(sB p it 112&&(sB p it 111&&(sB p it 110&&(sB p it 102&&(sB p it 116&&(sB p it 99&&(sB p it 100&&(sB p it 107&&(sB p it 103&&sB p it 97))))))))))&&
  ((((tabL it.kind).contains 120==(it.text !=(⟨#[]⟩:ByteArray)))&&decide ((it.text.size:Int)<=2000))&&(if(tabL it.kind).contains 113=true then zjx it else((it.parts.length:Int)==0)))
theorem zz1(p:Pool)(d:Item)(h:1<=d.kind/\d.kind<=15):zcx p d=RF p d:=by
 unfold zcx RF zt8;rw[z4n.2 h,w25,y0z h (c:=120) (by decide),y0z h (c:=113) (by decide),w4b];congr 1;have e:∀c∈zun,zkq p d (zsd d.kind) c=sB p d c:=λc f=>by unfold zkq sB;rw[y0z h f]
 have r:List.range 11 = [0,1,2,3,4,5,6,7,8,9,10]:=by decide
 rw[r];simp only[w1h,List.all_nil,w5f];rw[show letB 0=119 from by decide,show letB 1=112 from by decide,show letB 2=111 from by decide,show letB 3=110 from by decide,show letB 4=102 from by decide,show letB 5=116 from by decide,show letB 6=99 from by decide,show letB 7=100 from by decide,show letB 8=107 from by decide,show letB 9=103 from by decide,show letB 10=97 from by decide];rw[e 119 (by decide),e 112 (by decide),e 111 (by decide),e 110 (by decide),e 102 (by decide),e 116 (by decide),e 99 (by decide),e 100 (by decide),e 107 (by decide),e 103 (by decide),e 97 (by decide)]
theorem zhg(s:ByteArray):(s==(⟨#[]⟩:ByteArray))=decide ((s.size:Int)=0):=by obtain⟨a⟩:=s;show (a==(#[]:Array UInt8))=decide ((a.size:Int)=0);rw[w0t];simp
theorem yeb(x:Part):zaf true x =(bet x.kind 1 3&&bet x.serial 0 1073741824):=by rw[w0t];unfold zaf;simp[bet];omega
theorem yea(x:Part):zaf false x =((bet x.kind 1 3&&bet x.serial 0 1073741824)&&!x.fitted):=by rw[w0t];unfold zaf;cases x.fitted<;>simp[bet]<;>omega
theorem yan(d:Item)(h:d.kind=9):zjx d =(d.parts.all (zaf true)&&decide ((d.parts.length:Int)<=16)):=by
 have e:zat d.kind=zaf true:=by funext x;rw[yeb];unfold zat;rw[h];simp
 unfold zjx;rw[e,h];cases d.parts.all (zaf true) with
 |false=>simp
 |true=>simp;omega
theorem y4r(d:Item)(h:d.kind=10):zjx d =((decide ((0:Int)<(d.parts.length:Int))&&d.parts.all (zaf false))&&decide ((d.parts.length:Int)<=16)):=by
 have e:zat d.kind=zaf false:=by funext x;rw[yea];unfold zat;rw[h];simp
 unfold zjx;rw[e,h];cases d.parts.all (zaf false)
 .simp
 .generalize d.parts.length=m;rw[w0t];simp;omega
theorem ydc(p:Pool)(d:Item)(hp:PSz p)(f:d.parts.length<=1000)(a1:∀x∈p.network.places,1<=x.kind):∃b,(∀φ,1000<φ->z0m φ p d=some (b,()))/\b=zcx p d:=by
 obtain⟨hw,hr,hs,a4,ht⟩:=hp;have w1:W ((p.fleet.wagons.length:Int)-1) =(p.fleet.wagons.length:Int)-1:=W_id (by omega) (by omega);have w2:W ((p.readers.length:Int)-1) =(p.readers.length:Int)-1:=W_id (by omega) (by omega);have w3:W ((p.shippers.length:Int)-1) =(p.shippers.length:Int)-1:=W_id (by omega) (by omega);have w4:W ((p.network.places.length:Int)-1) =(p.network.places.length:Int)-1:=W_id (by omega) (by omega);have w5:W ((p.fleet.types.length:Int)-1) =(p.fleet.types.length:Int)-1:=W_id (by omega) (by omega);have j :((⟨#[]⟩:ByteArray)=ByteArray.empty):=rfl;have u:∀x z:Int,max2 x 0<=z↔x<=z/\0<=z:=by intro x z;unfold max2;split<;>omega
 by_cases a0:d.kind<1
 .refine⟨false,λφ hφ=>?_,?_⟩
  .unfold z0m zf;rw[if_pos (by simp;omega),if_pos (by simpa using a0)];simp
  .unfold zcx;rw[show bet d.kind 1 15=false by rw[<- w1k,z4n];omega];rfl
 by_cases a2:15<d.kind
 .refine⟨false,λφ hφ=>?_,?_⟩
  .have e:∀k:Int,k<=15->(d.kind==k)=false:=λk hk=>by simp;omega
   unfold z0m;rw[if_neg (by simp;omega)];simp[e,z1l,zf]
  .unfold zcx;rw[show bet d.kind 1 15=false by rw[<- w1k,z4n];omega];rfl
 rw[zz1 p d (by omega)];have hcases:d.kind=1\/d.kind=2\/d.kind=3\/d.kind=4\/d.kind=5\/d.kind=6\/d.kind=7\/d.kind=8\/d.kind=9\/d.kind=10\/d.kind=11\/d.kind=12\/d.kind=13\/d.kind=14\/d.kind=15:=by omega
 by_cases g:0<=d.place/\d.place<(p.network.places.length:Int)
 .have h :(decide ((0:Int)<=d.place)&&decide ((d.place:Int)<(p.network.places.length:Int)))=true:=by simp[g]
  have a3:=a1 _ (z80 g.1 g.2);rcases hcases with hk|hk|hk|hk|hk|hk|hk|hk|hk|hk|hk|hk|hk|hk|hk
  case inr.inr.inr.inr.inr.inr.inr.inr.inl=>refine⟨_,λφ hφ=>by unfold z0m;simp only[hk,h,z59,z6 g,w1,w2,w3,w4,w5,z67 φ _ _ f hφ,w00,Int.reduceLE,Int.reduceLT,Int.reduceBEq,decide_true,decide_false,if_true,w09,if_false];refine(zmm _ _ (λb=>zf φ ⟨_,_,b⟩)).trans ?_;unfold zf;rfl,?_⟩;unfold RF sB;rw[yan d hk];simp only[bne,zhg,hk,tabL,ze3,zfe,zjy,zmu,zgb,zxd];rw[w0t];generalize d.parts.all (zaf true)=al;generalize d.text.size=n;generalize d.parts.length=m;cases al<;>simp[bet,u,j]<;>omega
  case inr.inr.inr.inr.inr.inr.inr.inr.inr.inl=>refine⟨_,λφ hφ=>by unfold z0m;simp only[hk,h,z6 g,w1,w2,w3,w4,w5,z67 φ _ _ f hφ,w00,Int.reduceLE,Int.reduceLT,Int.reduceBEq,decide_true,decide_false,if_true,w09,if_false];refine(zmm _ _ (λb=>zf φ ⟨_,_,b⟩)).trans ?_;unfold zf;rfl,?_⟩;unfold RF sB;rw[y4r d hk];simp only[bne,zhg,hk,tabL,ze3,zfe,zjy,zmu,zgb,zxd];rw[w0t];generalize d.parts.all (zaf false)=al;generalize d.text.size=n;generalize d.parts.length=m;cases al<;>simp[bet,u,j]<;>omega
  all_goals
   refine⟨_,λφ hφ=>by unfold z0m;simp only[hk,h,z6d,z52,z54,z56,z57,z58,z1l,z5a,zf,z6 g,w1,w2,w3,w4,w5,w00,Int.reduceLE,Int.reduceLT,Int.reduceBEq,Int.reduceBNe,Int.reduceNe,decide_true,decide_false,if_true,w09,if_false];rfl,?_⟩;unfold RF sB;simp only[bne,zhg,hk,tabL,ze3,zfe,zjy,zmu,zgb,zxd];generalize d.text.size=n;generalize d.parts.length=m;rw[w0t];simp[bet,u,j];omega
 .have h :(decide ((0:Int)<=d.place)&&decide ((d.place:Int)<(p.network.places.length:Int)))=false:=by rw[<- w1k];simpa using g
  rcases hcases with hk|hk|hk|hk|hk|hk|hk|hk|hk|hk|hk|hk|hk|hk|hk
  case inr.inr.inr.inr.inr.inr.inr.inr.inl=>refine⟨_,λφ hφ=>by unfold z0m;simp only[hk,h,z59,w1,w2,w3,w4,w5,z67 φ _ _ f hφ,w00,Int.reduceLE,Int.reduceLT,Int.reduceBEq,decide_true,decide_false,if_true,w09,if_false];refine(zmm _ _ (λb=>zf φ ⟨_,_,b⟩)).trans ?_;unfold zf;rfl,?_⟩;unfold RF sB;rw[yan d hk];simp only[bne,zhg,hk,tabL,ze3,zfe,zjy,zmu,zgb,zxd];rw[w0t];generalize d.parts.all (zaf true)=al;generalize d.text.size=n;generalize d.parts.length=m;cases al<;>simp[bet,u,j]<;>omega
  case inr.inr.inr.inr.inr.inr.inr.inr.inr.inl=>refine⟨_,λφ hφ=>by unfold z0m;simp only[hk,h,w1,w2,w3,w4,w5,z67 φ _ _ f hφ,w00,Int.reduceLE,Int.reduceLT,Int.reduceBEq,decide_true,decide_false,if_true,w09,if_false];refine(zmm _ _ (λb=>zf φ ⟨_,_,b⟩)).trans ?_;unfold zf;rfl,?_⟩;unfold RF sB;rw[y4r d hk];simp only[bne,zhg,hk,tabL,ze3,zfe,zjy,zmu,zgb,zxd];rw[w0t];generalize d.parts.all (zaf false)=al;generalize d.text.size=n;generalize d.parts.length=m;cases al<;>simp[bet,u,j]<;>omega
  all_goals
   refine⟨_,λφ hφ=>by unfold z0m;simp only[hk,h,z6d,z52,z54,z56,z57,z58,z1l,z5a,zf,w1,w2,w3,w4,w5,w00,Int.reduceLE,Int.reduceLT,Int.reduceBEq,Int.reduceBNe,Int.reduceNe,decide_true,decide_false,if_true,w09,if_false];rfl,?_⟩;unfold RF sB;simp only[bne,zhg,hk,tabL,ze3,zfe,zjy,zmu,zgb,zxd];generalize d.text.size=n;generalize d.parts.length=m;rw[w0t];simp[bet,u,j];omega
theorem psz{p:Pool}(d:z1j p=0):PSz p/\∀x∈p.network.places,1<=x.kind:=by obtain⟨g,f,h1,h2,h3,_⟩:=zgq d;obtain⟨n1,n2,h,n4⟩:=zdx g;obtain⟨j,u,z⟩:=z1n f;refine⟨⟨by omega,by omega,by omega,by omega,by omega⟩,λx hx=>?_⟩;have:=h x hx;unfold z98 at this;simp only[w02] at this;exact(zth this.1.1).1
theorem yc7(φ:Nat)(hφ:300<φ){p:Pool}(h:z1j p=0){f:Item}(d:f.parts.length<=1000):zct φ p f=some (zgc p f,()):=by obtain⟨j,hk⟩:=psz h;rw[y7o φ hφ j];obtain⟨b,u,z⟩:=ydc p f j d hk;have g:=(zor h d).1 2000 (by omega);rw[u 2000 (by omega)] at g;simp only[w01,w0k,and_true] at g;unfold zgc;rw[<- z,g]
end Px
end
section
namespace Px
open Go
theorem z3e(φ:Nat)(a b c:Int):z01 φ a b c=some (bet a b c,()):=rfl
theorem zq8(φ:Nat)(l:List Wash)(hl:l.length<=4096)(hφ:5000<φ):zah φ l=some (bif z6h l then 0 else 1,()):=by
 unfold zah;rw[z6 (mk_t _ _ (by omega) (by omega) (by omega))];refine zu (λn i t=>z61 φ n l i t) l.length
  (λi t=>(List.range i).all (z4m l)=true/\t.length=4096/\∀j:Int,0<=j->j<4096->gt t j =(l.take i).any λv=>keyW v==j)
  (λo=>o=some (bif z6h l then 0 else 1,())) ?_ ?_ φ _ ⟨by simp,by rw[List.length_replicate];rfl,λj h0 h1=>by rw[zd7 _ _ _ h0 (by rw[show (4096:Int).toNat=4096 from rfl];omega)];simp⟩ (by omega)
 .intro n i t hi ⟨h1,h2,h3⟩ hs;have hW:W ((i:Int)+1) =(i:Int)+1:=W_id (by omega) (by omega);have u:=z9y (z4m l) i;have g:z4m l i=false->z6h l=false:=by intro h;unfold z6h;rw[w3m];exact⟨i,by simp;omega,by simp[h]⟩
  rw[z61,if_pos (by simp;omega),z6 ⟨by omega,by omega⟩];simp only[z3e,w00,zi];have f:zsz (gt l i) =(bet (gt l i).from_ 0 63&&bet (gt l i).to 0 63&&((gt l i).from_ !=(gt l i).to)&&bet (gt l i).minutes 0 100000):=rfl;have a0 :((gt l i).from_==(gt l i).to) = !((gt l i).from_ !=(gt l i).to):=by simp[bne]
  rw[a0];cases hw:zsz (gt l i) with
  |false=>rw[g (by simp[z4m,hw])];rw[hw] at f;clear a0 hs h3;generalize bet (gt l i).from_ 0 63=a at *;generalize bet (gt l i).to 0 63=b at *;generalize ((gt l i).from_ !=(gt l i).to)=c at *;generalize bet (gt l i).minutes 0 100000=d at *;cases a<;>cases b<;>cases c<;>cases d<;>first|rfl|exact absurd f (by decide)
  |true=>
   rw[hw] at f;have hb:=f.symm;simp only[w02] at hb;obtain⟨⟨⟨b1,b2⟩,b3⟩,b4⟩:=hb;have c1:=zth b1;have c2:=zth b2;have e1:W (64*(gt l i).from_)=64*(gt l i).from_:=W_id (by omega) (by omega);have e2:W (W (64*(gt l i).from_)+(gt l i).to)=keyW (gt l i):=by rw[e1];exact W_id (by omega) (by omega)
   have hk:0<=keyW (gt l i)/\keyW (gt l i)<4096:=by unfold keyW;omega
   simp only[b1,b2,b3,b4,w21,w4b,if_true,e2,Bool.or_self,w09,if_false];rw[z6 ⟨hk.1,by omega⟩,h3 _ hk.1 hk.2];have z:z4m l i = !(l.take i).any λv=>keyW v==keyW (gt l i):=by simp only[z4m,hw,w25]
   cases ha :(l.take i).any λv=>keyW v==keyW (gt l i) with
   |true=>rw[g (by rw[z,ha];rfl)];rfl
   |false=>
    rw[if_neg (by simp),z6 ⟨hk.1,by omega⟩,hW];refine hs _ ⟨by rw[u,h1,z,ha];rfl,by rw[z11,h2],λj j0 j1=>?_⟩;rw[z0b _ _ _ _ hk.1 (by omega) j0,zec _ _ _ hi,h3 j j0 j1];by_cases e:j=keyW (gt l i)
    .simp[e]
    .have :(keyW (gt l i)==j)=false:=by simp;exact λh=>e h.symm
     simp[e,this]
 .intro n t ⟨h1,h2,h3⟩;rw[z61,if_neg (by simp)];unfold z6h;rw[h1];rfl
theorem zdt(φ:Nat)(hφ:5000<φ)(x:z2h):z9v φ x=some (z0j x,()):=by
 have e :(((decide (32<(x.types.length:Int))||decide (4096<(x.wagons.length:Int)))||decide (1024<(x.swaps.length:Int)))||decide (4096<(x.washes.length:Int))) =
   (decide (32<x.types.length)||decide (4096<x.wagons.length)||decide (1024<x.swaps.length)||decide (4096<x.washes.length)):=by
  congr 1
  .congr 1
   .congr 1<;>(apply decide_eq_decide.2;omega)
   .apply decide_eq_decide.2;omega
  .apply decide_eq_decide.2;omega
 unfold z9v z0j;rw[e];cases h :(decide (32<x.types.length)||decide (4096<x.wagons.length)||decide (1024<x.swaps.length)||decide (4096<x.washes.length)) with
 |true=>rfl
 |false=>
  simp only[w1l,decide_eq_false_iff_not,w4x] at h;obtain⟨⟨⟨z,h2⟩,h3⟩,u⟩:=h;have j:W ((x.types.length:Int)-1) =(x.types.length:Int)-1:=W_id (by omega) (by omega);rw[if_neg (by simp)];rw[z79 (λn i=>z6s φ n i x) (z5f φ φ 0 x) (some (1,())) x.types (λt=>!zhr t) ?_ ?_ φ (by omega)]
  .rw[z79 (λn i=>z5f φ n i x) (z4d φ φ 0 x) (some (1,())) x.wagons (λt=>!zev x.types.length t) ?_ ?_ φ (by omega)]
   .rw[z79 (λn i=>z4d φ n i x) ((zah φ x.washes).bind λy=>some (y.1,())) (some (1,())) x.swaps (λt=>!zhq x.types.length t) ?_ ?_ φ (by omega)]
    .rw[zq8 _ _ u hφ];simp only[w00];simp only[w3u,Bool.not_not];cases x.types.all zhr<;>cases x.wagons.all (zev x.types.length)<;>cases x.swaps.all (zhq x.types.length)<;>cases z6h x.washes<;>rfl
    .intro n i g;have d:W ((i:Int)+1) =(i:Int)+1:=W_id (by omega) (by omega);have f :((gt x.swaps i).wanted==(gt x.swaps i).given) = !((gt x.swaps i).wanted !=(gt x.swaps i).given):=by simp[bne]
     rw[z4d,if_pos (by simp;omega),z6 ⟨by omega,by omega⟩];simp only[z3e,w00,zhq,zi,d,j,f];cases bet (gt x.swaps i).wanted 0 ((x.types.length:Int)-1)<;>cases bet (gt x.swaps i).given 0 ((x.types.length:Int)-1)<;>cases ((gt x.swaps i).wanted !=(gt x.swaps i).given)<;>
      cases bet (gt x.swaps i).cost 0 1000000000<;>rfl
    .intro n;rw[z4d,if_neg (by simp)]
   .intro n i g;have d:W ((i:Int)+1) =(i:Int)+1:=W_id (by omega) (by omega);rw[z5f,if_pos (by simp;omega),z6 ⟨by omega,by omega⟩];simp only[zau,z3e,w00,zev,zi,d,j];cases bet (gt x.wagons i).type_ 0 ((x.types.length:Int)-1)<;>cases bet (gt x.wagons i).owner 0 63<;>cases bet (gt x.wagons i).home 0 511<;>
     cases bet (gt x.wagons i).built 0 1073741824<;>cases bet (gt x.wagons i).worth 0 1099511627776<;>rfl
   .intro n;rw[z5f,if_neg (by simp)]
  .intro n i g;have d:W ((i:Int)+1) =(i:Int)+1:=W_id (by omega) (by omega);rw[z6s,if_pos (by simp;omega),z6 ⟨by omega,by omega⟩];simp only[zcq,z3e,w00,zhr,zi,d];cases bet (gt x.types i).load 0 1000000<;>cases bet (gt x.types i).tare 0 1000000<;>cases bet (gt x.types i).length 0 1000000<;>cases bet (gt x.types i).brake 0 1000000<;>
    cases bet (gt x.types i).gauge 0 7<;>cases bet (gt x.types i).life 1 1073741824<;>cases bet (gt x.types i).floor 0 100<;>rfl
  .intro n;rw[z6s,if_neg (by simp)]
theorem ygl(b n:Nat):pw (b % PP) n=pw b n:=by unfold pw;rw[<- Nat.pow_mod]
theorem ym3(b n:Nat):pw (b*b % PP) n=pw b (2*n):=by rw[ygl];unfold pw;rw[Nat.pow_mul,Nat.pow_two]
theorem y7c(φ:Nat):∀(m:Nat)(a b c n:Nat),m<=64->b<2 ^ m->m<n->a<PP->c<PP->z3x φ n (a:Int) (b:Int) 2305843009213690799 (c:Int)=some ((((c+a*b) % PP:Nat):Int),()):=by
 intro m
 induction m with
 |zero=>
  intro a b c n u hb hn ha j;obtain⟨n,rfl⟩:∃n',n=n'+1:=⟨n-1,by omega⟩;have:b=0:=by simpa using hb
  subst this;rw[z3x,if_neg (by simp),Nat.mul_zero,w3r,w2u j]
 |succ m ih=>
  intro a b c n u hb hn ha j;obtain⟨n,rfl⟩:∃n',n=n'+1:=⟨n-1,by omega⟩;by_cases h0:b=0
  .subst h0;rw[z3x,if_neg (by simp),Nat.mul_zero,w3r,w2u j]
  .rw[z3x,if_pos (by simp;omega),if_pos (by decide :(2:Int)≠0)];have e1 :(b:Int).tdiv 2 =((b / 2:Nat):Int):=by rw[w3k (by omega)];omega
   have e2 :(b:Int).tmod 2 =((b % 2:Nat):Int):=by rw[w28 (by omega)];omega
   have h :(b / 2:Nat)<2 ^ m:=by rw[Nat.pow_succ] at hb;omega
   have a2 :(2:Nat) ^ m<=2 ^ 63:=Nat.pow_le_pow_right (by decide) (by omega);have a0:U ((b / 2:Nat):Int) =((b / 2:Nat):Int):=U_id (by omega) (by omega);have a3:=ha;have a1:=j;unfold PP at ha j;have e3 :(U ((a:Int)+(a:Int))).tmod 2305843009213690799 =(((a+a) % PP:Nat):Int):=by rw[U_id (by omega) (by omega),w28 (by omega)];unfold PP;omega
   have e4 :(U ((c:Int)+(a:Int))).tmod 2305843009213690799 =(((c+a) % PP:Nat):Int):=by rw[U_id (by omega) (by omega),w28 (by omega)];unfold PP;omega
   unfold z99;rw[e1,e2,e3,e4,a0];have g:a*b =(a+a)*(b / 2)+a*(b % 2):=by
    conv=>lhs;rw[<- w4r b 2]
    rw[Nat.mul_add,<- w5g];congr 1;rw[Nat.mul_two]
   have d:∀c':Nat,(c'+(a+a) % PP*(b / 2)) % PP =(c'+(a+a)*(b / 2)) % PP:=λc'=>by rw[Nat.add_mod,Nat.mul_mod,Nat.mod_mod,<- Nat.mul_mod,<- Nat.add_mod]
   have f:∀z:Nat,z % PP<PP:=λz=>w44 _ (by decide)
   rcases w4c b with hbit|hbit
   .rw[hbit,if_neg (by simp),z6 (by omega),if_pos (by decide :(2:Int)≠0),ih ((a+a) % PP) (b / 2) c n (by omega) h (by omega) (f _) a1,d,g,hbit,Nat.mul_zero,w3r]
   .rw[hbit,if_pos (by simp),z6 (by omega),z6 (by omega),if_pos (by decide :(2:Int)≠0),ih ((a+a) % PP) (b / 2) ((c+a) % PP) n (by omega) h (by omega) (f _) (f _),d,g,hbit,Nat.mul_one,Nat.mod_add_mod,show c+a+(a+a)*(b / 2)=c+((a+a)*(b / 2)+a) by omega]
theorem zhs(φ:Nat)(hφ:70<φ)(a b:Nat)(f:a<PP)(g:b<PP):zcm φ (a:Int) (b:Int) 2305843009213690799=some (((a*b % PP:Nat):Int),()):=by unfold zcm;have d:b<2 ^ 64:=Nat.lt_trans g (by decide);have:=y7c φ 64 a b 0 φ (by omega) d (by omega) f (by decide);rw[w1j] at this;exact this
theorem yex(φ:Nat)(hφ:100<φ):∀(m:Nat)(a e c n:Nat),m<=64->e<2 ^ m->m<n->a<PP->c<PP->z69 φ n (a:Int) (e:Int) (c:Int)=some (((c*pw a e % PP:Nat):Int),()):=by
 intro m
 induction m with
 |zero=>
  intro a e c n _ u hn f h;obtain⟨n,rfl⟩:∃n',n=n'+1:=⟨n-1,by omega⟩;have:e=0:=by simpa using u
  subst this;rw[z69,if_neg (by simp),zux,Nat.mul_one,w2u h]
 |succ m ih=>
  intro a e c n a0 u hn f h;obtain⟨n,rfl⟩:∃n',n=n'+1:=⟨n-1,by omega⟩;by_cases h0:e=0
  .subst h0;rw[z69,if_neg (by simp),zux,Nat.mul_one,w2u h]
  .rw[z69,if_pos (by simp;omega),if_pos (by decide :(2:Int)≠0)];have e1 :(e:Int).tdiv 2 =((e / 2:Nat):Int):=by rw[w3k (by omega)];omega
   have e2 :(e:Int).tmod 2 =((e % 2:Nat):Int):=by rw[w28 (by omega)];omega
   have j :(e / 2:Nat)<2 ^ m:=by rw[Nat.pow_succ] at u;omega
   have a1 :(2:Nat) ^ m<=2 ^ 63:=Nat.pow_le_pow_right (by decide) (by omega);have hU:U ((e / 2:Nat):Int) =((e / 2:Nat):Int):=U_id (by omega) (by omega);have d:∀z:Nat,z % PP<PP:=λz=>w44 _ (by decide)
   unfold zb7;rw[e1,e2,hU,zhs φ (by omega) a a f f];have g:pw a e=pw (a*a % PP) (e / 2)*pw a (e % 2) % PP:=by rw[ym3,yau,w4r]
   rcases w4c e with hbit|hbit
   .rw[hbit,if_neg (by simp),w00,if_pos (by decide :(2:Int)≠0),ih _ _ _ n (by omega) j (by omega) (d _) h,g,hbit,zux,Nat.mul_one,w2u (y1w _ _)]
   .rw[hbit,if_pos (by simp),zhs φ (by omega) c a h f,w00,w00,if_pos (by decide :(2:Int)≠0),ih _ _ _ n (by omega) j (by omega) (d _) (d _),g,hbit,ygm,w2u f];congr 2;rw[Nat.mod_mul_mod,Nat.mul_mod_mod,w5g,w4s a]
theorem zyk(φ:Nat)(hφ:100<φ)(b n:Nat)(f:n<18446744073709551616):zk2 φ (b:Int) (n:Int)=some (((pw b n:Nat):Int),()):=by
 unfold zk2;rw[if_pos (by decide :(2305843009213690799:Int)≠0)];have d :((b:Int)).tmod 2305843009213690799 =((b % PP:Nat):Int):=by rw[w28 (by omega)];unfold PP;omega
 rw[d];have:=yex φ hφ 64 (b % PP) n 1 φ (by omega) (by simpa using f) (by omega) (w44 _ (by decide)) (by decide);rw[ygl,w3x,w2u (y1w _ _)] at this;exact this
theorem zrn(φ:Nat)(hφ:100<φ)(x:Int):zey φ x=some (y6o x,()):=by
 unfold zey y6o;cases h:decide (2<=x)&&decide (x<2305843009213690799) with
 |false=>rw[gz_f (by simp)];simp
 |true=>simp only[w02,decide_eq_true_eq] at h;have:=zyk φ hφ x.toNat QQ (by decide);rw[show ((x.toNat:Nat):Int)=x by omega,show ((QQ:Nat):Int)=1152921504606845399 by decide] at this;rw[gz_t rfl,this,w00,zpk]
theorem z4p(φ:Nat)(a b c:Int):z1x φ a b c=some (bet a b c,()):=rfl
theorem zrs(φ:Nat)(p:z8f):zf0 φ p=some (z98 p,()):=by
 unfold zf0 z98;simp only[z4p,w00];cases bet p.kind 1 5 with
 |false=>rfl
 |true=>
  rw[gz_t (by simp),w00];cases bet p.railway 0 15 with
  |false=>rfl
  |true=>
   rw[if_neg (by simp)];cases h:p.kind==3 with
   |false=>rfl
   |true=>rfl
theorem zv9(φ:Nat)(e:Edge)(n:Int)(h:W (n-1)=n-1):zh7 φ e n=some (zay n e,()):=by unfold zh7 zay;simp only[z4p,w00,h,zi];cases bet e.a 0 (n-1)<;>cases bet e.b 0 (n-1)<;>cases (e.a !=e.b)<;>cases bet e.railway 0 15<;>cases bet e.minutes 1 100000<;>cases bet e.km 0 10000<;>rfl
theorem za3(φ:Nat)(hφ:5000<φ)(x:zk):zcn φ x=some (z7c x,()):=by
 unfold zcn z7c;rw[y4k];cases h:decide (512<x.places.length)||decide (2048<x.edges.length) with
 |true=>rfl
 |false=>
  simp only[w1l,decide_eq_false_iff_not,w4x] at h;rw[if_neg (by simp),z79 (λn i=>z6q φ n i x) (z5e φ φ 0 x) (some (1,())) x.places (λt=>!z98 t) ?_ ?_ φ (by omega)]
  .rw[z79 (λn i=>z5e φ n i x) (some (0,())) (some (1,())) x.edges (λt=>!zay x.places.length t) ?_ ?_ φ (by omega)]
   .simp only[w3u,Bool.not_not];cases x.places.all z98<;>cases x.edges.all (zay x.places.length)<;>rfl
   .intro n i d;rw[z5e,if_pos (by simp;omega),z6 ⟨by omega,by omega⟩,zv9 _ _ _ (W_id (by omega) (by omega)),w00,W_id (by omega) (by omega)];cases zay x.places.length (gt x.edges i)<;>rfl
   .intro n;rw[z5e,if_neg (by simp)]
  .intro n i d;rw[z6q,if_pos (by simp;omega),z6 ⟨by omega,by omega⟩,zrs,w00,W_id (by omega) (by omega)];cases z98 (gt x.places i)<;>rfl
  .intro n;rw[z6q,if_neg (by simp)]
def zcl(l:List Int)(i:Nat):Int:=if i=0 then-1 else gt l ((i:Int)-1)
theorem ych(φ:Nat)(c:z6a):∀(n i:Nat),-1<=zcl c.holidays i->(i:Int)<=zcl c.holidays i+1->zcl c.holidays i<=745654->i<=c.holidays.length->745656<=(n:Int)+zcl c.holidays i->z6p φ n i c=some (bif zyh (zcl c.holidays i) (c.holidays.drop i) then 0 else 1,()):=by
 intro n
 induction n with
 |zero=>intro i _ _ _ _ _;omega
 |succ n ih=>
  intro i hp a0 a1 hi hn;by_cases h:i=c.holidays.length
  .rw[z6p,if_neg (by rw[h];simp),h,List.drop_length];rfl
  .have u:W ((i:Int)-1) =(i:Int)-1:=W_id (by omega) (by omega);rw[z6p,if_pos (by simp;omega),z6 ⟨by omega,by omega⟩,u,z6 (λh=>by have:=h.2;simp at this;omega),y8h _ _ (by omega)];have z :((decide ((gt c.holidays i)<0)||decide (745654<(gt c.holidays i)))||(decide (0<(i:Int))&&decide ((gt c.holidays i)<=(gt c.holidays ((i:Int)-1))))) = !(decide (zcl c.holidays i<gt c.holidays i)&&decide (gt c.holidays i<=745654)):=by
    unfold zcl at *;rw[w0t];by_cases j:i=0
    .subst j;simp;omega
    .rw[if_neg j] at *;simp;omega
   rw[z];cases f:decide (zcl c.holidays i<gt c.holidays i)&&decide (gt c.holidays i<=745654) with
   |false=>rw[if_pos (by simp)];simp[zyh,f]
   |true=>
    rw[if_neg (by simp),W_id (by omega) (by omega)];have d:zcl c.holidays (i+1)=gt c.holidays i:=by unfold zcl;rw[if_neg (by omega)];congr 1;omega
    have g:=f;simp only[w02,decide_eq_true_eq] at g;have:=ih (i+1) (by rw[d];omega) (by rw[d];omega) (by rw[d];omega) (by omega) (by rw[d];omega);rw[d,show ((i+1:Nat):Int) =(i:Int)+1 by omega] at this;rw[this];simp[zyh,f]
theorem zro(φ:Nat)(hφ:800000<φ)(c:z6a):zez φ c=some (bif zln c then 0 else 1,()):=by
 unfold zez;refine zu (λn i(_:Unit)=>z6o φ n i c) 7 (λi _=>((List.range i).all λj=>zjt (c.open_ j))=true) (λo=>o=some (bif zln c then 0 else 1,())) ?_ ?_ φ () (by simp) (by omega)
 .intro n i _ g h f;rw[z6o,if_pos (by simp;omega),z6 ⟨by omega,by omega⟩,w1i,zis,W_id (by omega) (by omega)];cases d:zjt (c.open_ i) with
  |true=>rw[if_neg (by simp)];exact f () (by rw[z9y,h,d];rfl)
  |false=>
   have:zln c=false:=by
    unfold zln;have :((List.range 7).all λj=>zjt (c.open_ j))=false:=by rw[w3m];exact⟨i,by simp;omega,by simp[d]⟩
    rw[this];rfl
   rw[if_pos (by simp),this];rfl
 .intro n _ h;rw[z6o,if_neg (by simp)];unfold zln;rw[h,w25];have:=ych φ c φ 0 (by simp[zcl]) (by simp[zcl]) (by simp[zcl]) (by omega) (by simp[zcl];omega);simpa[zcl] using this
theorem zvh(φ:Nat)(hφ:800000<φ)(x:Pool)(g:x.network.places.length<=512)(j:x.fleet.wagons.length<=4096)(u:x.readers.length<=256)(z:x.shippers.length<=256):
  zh8 φ x=some (!((x.readers.any (z8r x.network.places.length)||x.shippers.any (z7p x.network))||x.fleet.wagons.any (λw=>decide ((x.network.places.length:Int)<=w.home))),()):=by
 have f:W ((x.network.places.length:Int)-1) =(x.network.places.length:Int)-1:=W_id (by omega) (by omega);unfold zh8;rw[z79 (λn i=>z7t φ n (x.network.places.length:Int) i x) (z5g φ φ (x.network.places.length:Int) 0 x) (some (false,())) x.readers (z8r x.network.places.length) ?_ ?_ φ (by omega)]
 rotate_left
 .intro n i d;rw[z7t,if_pos (by simp;omega),z6 ⟨by omega,by omega⟩,f,W_id (by omega) (by omega),z3e,w00];show (if z8r x.network.places.length (gt x.readers i)=true then some (false,()) else _)=_;cases z8r x.network.places.length (gt x.readers i)<;>rfl
 .intro n;rw[z7t,if_neg (by simp)]
 rw[z79 (λn i=>z5g φ n (x.network.places.length:Int) i x) (z5h φ φ (x.network.places.length:Int) 0 x) (some (false,())) x.shippers (z7p x.network) ?_ ?_ φ (by omega)]
 rotate_left
 .intro n i d;rw[z5g,if_pos (by simp;omega),z6 ⟨by omega,by omega⟩,f,W_id (by omega) (by omega),z3e,w00,z6 (λ_=>⟨by omega,by omega⟩),z6 (λh=>by simp only[Bool.not_eq_false'] at h;have:=zth h;omega)];show (if z7p x.network (gt x.shippers i)=true then some (false,()) else _)=_;cases z7p x.network (gt x.shippers i)<;>rfl
 .intro n;rw[z5g,if_neg (by simp)]
 rw[z79 (λn i=>z5h φ n (x.network.places.length:Int) i x) (some (true,())) (some (false,())) x.fleet.wagons (λw=>decide ((x.network.places.length:Int)<=w.home)) ?_ ?_ φ (by omega)]
 rotate_left
 .intro n i d;rw[z5h,if_pos (by simp;omega),z6 ⟨by omega,by omega⟩,W_id (by omega) (by omega)];cases decide ((x.network.places.length:Int)<=(gt x.fleet.wagons i).home)<;>rfl
 .intro n;rw[z5h,if_neg (by simp)]
 cases x.readers.any (z8r x.network.places.length)<;>cases x.shippers.any (z7p x.network)<;>cases x.fleet.wagons.any (λw=>decide ((x.network.places.length:Int)<=w.home))<;>rfl
theorem zrv(φ:Nat)(hφ:800000<φ)(x:Pool)(f:x.network.places.length<=512)(g:x.network.edges.length<=2048):
  zf3 φ x=some (!(x.network.places.any (λp=>decide ((x.railways.length:Int)<=p.railway)||decide ((x.railways.length:Int)<=p.other))||x.network.edges.any (λe=>decide ((x.railways.length:Int)<=e.railway))),()):=by
 unfold zf3;rw[z79 (λn i=>z6u φ n (x.railways.length:Int) i x) (z5i φ φ (x.railways.length:Int) 0 x) (some (false,())) x.network.places (λp=>decide ((x.railways.length:Int)<=p.railway)||decide ((x.railways.length:Int)<=p.other)) ?_ ?_ φ (by omega)]
 rotate_left
 .intro n i d;rw[z6u,if_pos (by simp;omega),z6 ⟨by omega,by omega⟩,W_id (by omega) (by omega)];cases decide ((x.railways.length:Int)<=(gt x.network.places i).railway)||decide ((x.railways.length:Int)<=(gt x.network.places i).other)<;>rfl
 .intro n;rw[z6u,if_neg (by simp)]
 rw[z79 (λn i=>z5i φ n (x.railways.length:Int) i x) (some (true,())) (some (false,())) x.network.edges (λe=>decide ((x.railways.length:Int)<=e.railway)) ?_ ?_ φ (by omega)]
 rotate_left
 .intro n i d;rw[z5i,if_pos (by simp;omega),z6 ⟨by omega,by omega⟩,W_id (by omega) (by omega)];cases decide ((x.railways.length:Int)<=(gt x.network.edges i).railway)<;>rfl
 .intro n;rw[z5i,if_neg (by simp)]
 cases x.network.places.any (λp=>decide ((x.railways.length:Int)<=p.railway)||decide ((x.railways.length:Int)<=p.other))<;>cases x.network.edges.any (λe=>decide ((x.railways.length:Int)<=e.railway))<;>rfl
theorem z4w(φ:Nat)(hφ:800000<φ)(x:Pool):z5y φ x=some (z1j x,()):=by
 unfold z5y z1j;rw[za3 _ (by omega),w00];by_cases g:z7c x.network=0
 case neg=>rw[if_pos (by simp[g]),if_pos g]
 rw[if_neg (by simp[g]),if_neg (λe:z7c x.network≠0=>e g),zdt _ (by omega),w00];by_cases f:z0j x.fleet=0
 case neg=>rw[if_pos (by simp[f]),if_pos f]
 rw[if_neg (by simp[f]),if_neg (λe:z0j x.fleet≠0=>e f)];cases h:zed x with
 |true=>have e :(((decide (256<(x.readers.length:Int))||decide (256<(x.shippers.length:Int)))||decide (16<(x.railways.length:Int))))=zed x:=rfl;rw[e,h];rfl
 |false=>
  have d:¬(((decide (256<(x.readers.length:Int))||decide (256<(x.shippers.length:Int)))||decide (16<(x.railways.length:Int)))=true):=by rw[show (((decide (256<(x.readers.length:Int))||decide (256<(x.shippers.length:Int)))||decide (16<(x.railways.length:Int))))=zed x from rfl,h];simp
  rw[if_neg d];simp only[w0w,decide_eq_true_eq,not_or] at d;obtain⟨n1,z,_,_⟩:=zdx g;obtain⟨f1,j,_⟩:=z1n f;rw[zvh φ hφ _ n1 j (by omega) (by omega),w00,zrv φ hφ _ n1 z];have u:z1y φ φ 0 x=bif x.railways.any zi5 then some (1,()) else(if(((x.railways.length:Int):Int)==0)=true then(some (1,())) else(some (0,()))):=by
   refine z79 (λn i=>z1y φ n i x) (if(((x.railways.length:Int):Int)==0)=true then(some (1,())) else(some (0,()))) (some (1,())) x.railways zi5 ?_ ?_ φ (by omega)
   .intro n i hi;rw[z1y,if_pos (by simp;omega),z6 ⟨by omega,by omega⟩,W_id (by omega) (by omega),zro _ hφ,w00,z6 (λ_=>⟨by omega,by omega⟩)];unfold zi5;cases zln (gt x.railways i).calendar with
    |false=>rw[gz_f (by simp)];rfl
    |true=>rw[gz_t (by simp),zrn _ (by omega),w00];cases y6o (gt x.railways i).key<;>rfl
   .intro n;rw[z1y,if_neg (by simp)]
  rw[u];unfold zkw;cases x.readers.any (z8r x.network.places.length)<;>cases x.shippers.any (z7p x.network)<;>cases x.fleet.wagons.any (λw=>decide ((x.network.places.length:Int)<=w.home))<;>
   cases x.network.places.any (λp=>decide ((x.railways.length:Int)<=p.railway)||decide ((x.railways.length:Int)<=p.other))<;>cases x.network.edges.any (λe=>decide ((x.railways.length:Int)<=e.railway))<;>
   cases x.railways.any zi5<;>cases ((x.railways.length:Int)==0)<;>rfl
end Px
end
section
namespace Px
open Go
theorem y60(φ:Nat)(a b:z7):z7u φ a b=some (zfm a b,()):=by
 unfold z7u;by_cases h :(a.item.to:Int)=b.item.to
 .rw[if_neg (by simp[h])];simp only[zge,w00];congr 2;rw[w0t,zg8];simp[h]
 .rw[if_pos (by simp[h])];congr 2;rw[w0t,zg8];simp[h]
theorem zr9(φ:Nat)(k7)(l:List z7)(at_ i:Int)(r:z7):∀(f Q:List z7)(n:Nat),Srt zfm f->f.length<n->f.length+Q.length<=1000->
  ∃g,Srt zfm g/\Stb zfm (f++[r]) g/\z48 φ k7 n l at_ i (f.length:Int) (f++r::Q)=k7 l at_ (W (i+1)) (g++Q):=by
 intro f;generalize hm:f.length=m
 induction m generalizing f with
 |zero=>intro Q n hs hn hl;have:=List.length_eq_zero_iff.1 hm;subst this;obtain⟨n,rfl⟩:∃k,n=k+1:=⟨n-1,by omega⟩;refine⟨[r],by simp[Srt],Stb.refl _,?_⟩;rw[z48,z6 (λh=>by simp at h),z6 (λh=>by simp at h)];rw[show zi (default,()) ((decide ((0:Int)<((0:Nat):Int)))=true) (z7u φ (gt ([]++r::Q) ((0:Nat):Int)) (gt ([]++r::Q) (W (((0:Nat):Int)-1))))=some (default,()) from if_neg (by simp),w00,if_neg (by simp)];rfl
 |succ m ih=>
  intro Q n hs hn hl;obtain⟨n,rfl⟩:∃k,n=k+1:=⟨n-1,by omega⟩;rcases zpt f with rfl|⟨A,z,rfl⟩
  .simp at hm
  have hA:A.length=m:=by simp at hm;omega
  obtain⟨a1,_,u⟩:=Srt.parts hs;have u:∀x∈A,zfm z x=false:=λx hx=>u x hx z (by simp)
  have a2 :((A++[z]++r::Q).length:Int) =(m:Int)+2+Q.length:=by simp;omega
  have g1:gt (A++[z]++r::Q) ((m+1:Nat):Int)=r:=by rw[z68 (by simp;omega),List.getElem_append_right (by simp;omega)];simp[hA]
  have g0:gt (A++[z]++r::Q) ((m:Nat):Int)=z:=by rw[z68 (by simp;omega),List.getElem_append_left (by simp;omega),List.getElem_append_right (by omega)];simp[hA]
  have hW:W (((m+1:Nat):Int)-1) =(m:Int):=by rw[W_id (by omega) (by omega)];omega
  rw[z48,hW,z6 (λ_=>⟨by omega,by omega⟩),z6 (λ_=>⟨by omega,by omega⟩),g1,g0];rw[show zi (default,()) ((decide ((0:Int)<((m+1:Nat):Int)))=true) (z7u φ r z)=some (zfm r z,()) from by unfold zi;rw[if_pos (by simp),y60],w00];cases hz:zfm r z with
  |false=>
   rw[if_neg (by simp)];refine⟨A++[z]++[r],?_,Stb.refl _,by simp⟩;refine Srt.app hs (by simp[Srt]) λx hx y hy=>?_
   simp only[w0d] at hy;subst hy;rcases w0j.1 hx with hx|hx
   .exact ze4.ntr _ _ _ hz (u x hx)
   .simp only[w0d] at hx;subst hx;exact hz
  |true=>
   have a0:zo (zo (A++[z]++r::Q) ((m+1:Nat):Int) z) (m:Int) r=A++r::(z::Q):=by
    refine w5o (by simp[zo]) λj h1 h2=>?_
    simp only[zo,w1i];rw[List.getElem_set,List.getElem_set];split
    .rename_i e;subst e;rw[List.getElem_append_right (by omega)];simp[hA]
    .split
     .rename_i e;subst e;rw[List.getElem_append_right (by omega)];simp[hA]
     .rename_i e1 e2;by_cases hj:j<m
      .rw[List.getElem_append_left (by simp;omega),List.getElem_append_left (by omega),List.getElem_append_left (by omega)]
      .rw[List.getElem_append_right (by simp;omega),List.getElem_append_right (by omega)];simp only[w0h,w0o,w2h,hA];obtain⟨d,rfl⟩:∃d,j=m+2+d:=⟨j-(m+2),by omega⟩;have q1:m+2+d-(m+(0+1))=d+1:=by omega
       have q2:m+2+d-m=d+2:=by omega
       simp only[q1,q2,List.getElem_cons_succ]
   rw[if_pos (by simp),z6 ⟨by omega,by omega⟩,z6 ⟨by omega,by omega⟩,z6 ⟨by omega,by omega⟩,z6 ⟨by omega,by rw[show (zo (A++[z]++r::Q) ((m+1:Nat):Int) z).length =(A++[z]++r::Q).length from by simp[zo]];omega⟩,a0];obtain⟨g,h1,h2,h3⟩:=ih A hA (z::Q) n a1 (by omega) (by simp;omega);refine⟨g++[z],?_,?_,by rw[h3];simp⟩
   .refine Srt.app h1 (by simp[Srt]) λx hx y hy=>?_
    simp only[w0d] at hy;subst hy;rcases w0j.1 (h2.mem.1 hx) with hx|hx
    .exact u x hx
    .simp only[w0d] at hx;subst hx;exact ze4.asym _ _ hz
   .have s1:Stb zfm ([z]++[r]) ([r]++[z]):=Stb.swap ze4 λx hx y hy=>by simp only[w0d] at hx hy;subst hx;subst hy;exact hz
    have s2:=Stb.app (Stb.refl (lt:=zfm) A) s1;have s3:=Stb.app h2 (Stb.refl (lt:=zfm) [z]);rw[<- w0m,<- w0m] at s2;exact s2.trans s3
theorem y5q(φ:Nat)(hφ:10000<φ)(l:List z7)(at_:Int)(hl:l.length<=100):zbc φ l at_=some (hist l at_,()):=by
 unfold zbc;refine zu (λn i d=>z2d φ n l at_ i d) l.length (λi d=>d.length<=i/\Srt zfm d/\Stb zfm ((l.take i).filter (zle at_)) d) (λo=>o=some (hist l at_,())) ?_ ?_ φ [] ⟨by simp,List.Pairwise.nil,by simpa using Stb.refl _⟩ (by omega)
 .intro n i d z ⟨h1,j,g⟩ hk;rw[z2d,if_pos (by simp;omega),z6 ⟨by omega,by omega⟩,z6 (λ_=>⟨by omega,by omega⟩),W_id (x:=(i:Int)+1) (by omega) (by omega)];have f :(((((gt l (i:Int)).item).kind:Int) !=9)||(decide ((at_:Int)<((gt l (i:Int)).item).to))) = !zle at_ (gt l (i:Int)):=by unfold zle;rw[Bool.not_and];congr 1;rw[<- decide_not];congr 1;exact propext ⟨λh=>by omega,λh=>by omega⟩
  rw[f];cases hr:zle at_ (gt l (i:Int)) with
  |false=>rw[if_pos (by simp)];refine hk d ⟨by omega,j,?_⟩;rw[z03 l i z,w12];simpa[hr] using g
  |true=>
   rw[if_neg (by simp),z6 ⟨by omega,by omega⟩,z6 (zac (by simp;omega) (by omega))];obtain⟨u,r1,r2,r3⟩:=zr9 φ (z2d φ n) l at_ (i:Int) (gt l (i:Int)) d [] φ j (by omega) (by simp;omega);have hW:W (((d++[gt l (i:Int)]).length:Int)-1) =(d.length:Int):=by rw[w0h,w3y,W_id (by omega) (by omega)];omega
   rw[hW,r3,w0e,W_id (x:=(i:Int)+1) (by omega) (by omega)];refine hk u ⟨by rw[r2.len];simp;omega,r1,?_⟩;rw[z03 l i z,w12];have : [gt l (i:Int)].filter (zle at_) = [gt l (i:Int)]:=by simp[hr]
   rw[this];exact(Stb.app g (Stb.refl _)).trans r2
 .intro n d ⟨h1,j,g⟩;rw[w11] at g;rw[z2d,if_neg (by simp),zgk ze4 j g];rfl
theorem zzr(s:List Int)(w:Int):(ze6 s w).length<=s.length+1:=by
 unfold ze6;simp only[w0h,w0o];have h:∀s:List Int,(s.filter λx=>decide (x<w)).length+(s.filter λx=>decide (w<x)).length<=s.length:=by
  intro s
  induction s with
  |nil=>simp
  |cons a s g=>
   simp only[w15];by_cases f:a<w
   .have d:¬w<a:=by omega
    simp only[f,d,decide_true,decide_false,if_true,w09,if_false,w0o];omega
   .by_cases d:w<a
    .simp only[f,d,decide_true,decide_false,if_true,w09,if_false,w0o];omega
    .simp only[f,d,decide_false,w09,if_false,w0o];omega
 have:=h s;omega
theorem ybs(φ:Nat)(hφ:10000<φ)(s:List Int)(w:Int)(j:s.length<=5000):zlz φ s w=some (ze6 s w,()):=by
 unfold zlz;refine(z3c (λn i d=>z7v φ n s w i d) (λd=>ck (fits (d.length+([w]).length) 8) (z5k φ φ s w 0 (d++[w]))) s (λd x=>if decide (x<w)=true then d++[x] else d) (λi d=>d.length<=i) ?_ ?_ φ [] (by simp) (by omega)).1.trans ?_
 .intro n i d g f;refine⟨?_,?_⟩
  .rw[z7v,if_pos (by simp;omega),z6 ⟨by omega,by omega⟩,W_id (x:=(i:Int)+1) (by omega) (by omega)];split
   .rw[z6 ⟨by omega,by omega⟩,z6 (zac (by simp;omega) (by omega))]
   .rfl
  .split
   .simp;omega
   .omega
 .intro n d _;rw[z7v,if_neg (by simp)]
 .rw[zbr (λx=>decide (x<w)),w1z];have h:=List.length_filter_le (λx=>decide (x<w)) s;rw[z6 (zac (by simp;omega) (by omega))];refine(z3c (λn i d=>z5k φ n s w i d) (λd=>some (d,())) s (λd x=>if decide (w<x)=true then d++[x] else d) (λi d=>d.length<=s.length+1+i) ?_ ?_ φ _ (by simp;omega) (by omega)).1.trans ?_
  .intro n i d g f;refine⟨?_,?_⟩
   .rw[z5k,if_pos (by simp;omega),z6 ⟨by omega,by omega⟩,W_id (x:=(i:Int)+1) (by omega) (by omega)];split
    .rw[z6 ⟨by omega,by omega⟩,z6 (zac (by simp;omega) (by omega))]
    .rfl
   .split
    .simp;omega
    .omega
  .intro n d _;rw[z5k,if_neg (by simp)]
  .rw[zbr (λx=>decide (w<x))];unfold ze6;simp
theorem y7e(φ:Nat)(hφ:10000<φ)(s:List Int)(w:Int)(h:s.length<=5000):zf5 φ s w=some (zhh s w,()):=by
 unfold zf5;refine(z3c (λn i d=>z4q φ n s w i d) (λd=>some (d,())) s (λd x=>if(x !=w)=true then d++[x] else d) (λi d=>d.length<=i) ?_ ?_ φ [] (by simp) (by omega)).1.trans ?_
 .intro n i d g f;refine⟨?_,?_⟩
  .rw[z4q,if_pos (by simp;omega),z6 ⟨by omega,by omega⟩,W_id (x:=(i:Int)+1) (by omega) (by omega)];split
   .rw[z6 ⟨by omega,by omega⟩,z6 (zac (by simp;omega) (by omega))]
   .rfl
  .split
   .simp;omega
   .omega
 .intro n d _;rw[z4q,if_neg (by simp)]
 .rw[zbr (λx=>x !=w),w1z];rfl
end Px
end
section
namespace Px
open Go
theorem zzi(c:z8)(w:Int)(s:List Int)(p:Part):(znq c w s p).length<=s.length+1:=by
 unfold znq;split
 .split
  .exact zzr s w
  .exact Nat.le_succ_of_le (List.length_filter_le _ _)
 .omega
theorem zpx(c:z8)(w:Int):∀(ps:List Part)(s:List Int),(ps.foldl (znq c w) s).length<=s.length+ps.length
 | [],s=>by simp
 |p::ps,s=>by have d:=zpx c w ps (znq c w s p);have f:=zzi c w s p;simp only[w1y,w0o];omega
theorem ya9(p:Part)(k s:Int):ofP p =(⟨k,s⟩:z8)↔p.kind=k/\p.serial=s:=by
 unfold ofP;constructor
 .intro h;cases h;exact⟨rfl,rfl⟩
 .rintro⟨rfl,rfl⟩;rfl
theorem zzs(φ:Nat)(s:List Int)(w:Int):zd8 φ s w=zlz φ s w:=by kernel_rfl
theorem zzu(φ:Nat)(s:List Int)(w:Int):zcv φ s w=zf5 φ s w:=by kernel_rfl
theorem zo4(φ:Nat)(hφ:10000<φ)(h)(u:List z7)(k d i:Int)(r:z7)(s:List Int)(hs:s.length<=4000)(hp:r.item.parts.length<=40):
  z0v φ h φ u k d i 0 s r.item=h u k d (W (i+1)) (posR ⟨k,d⟩ s r):=by
 refine(z3c (λn j s=>z0v φ h n u k d i j s r.item) (λs=>h u k d (W (i+1)) s) r.item.parts (znq ⟨k,d⟩ r.item.wagon) (λj t=>t.length<=s.length+j) ?_ ?_ φ s (by omega) (by omega)).1
 .intro n j t hj ht;refine⟨?_,by have:=zzi ⟨k,d⟩ r.item.wagon t (gt r.item.parts (j:Int));omega⟩;rw[z0v,if_pos (by simp;omega),z6 ⟨by omega,by omega⟩,z6 (λ_=>⟨by omega,by omega⟩),W_id (x:=(j:Int)+1) (by omega) (by omega)];unfold znq;by_cases f:ofP (gt r.item.parts (j:Int)) =(⟨k,d⟩:z8)
  .rw[if_pos f];have g:=(ya9 _ _ _).1 f;rw[if_neg (by simp[g.1,g.2]),z6 ⟨by omega,by omega⟩];cases hf :(gt r.item.parts (j:Int)).fitted with
   |true=>rw[if_pos rfl,if_pos rfl,zzs,ybs φ hφ t _ (by omega),w00]
   |false=>rw[if_neg (by simp),if_neg (by simp),zzu,y7e φ hφ t _ (by omega),w00]
  .rw[if_neg f,if_pos];rw[ya9] at f;simp only[w0w,bne_iff_ne,ne_eq];by_cases z :(gt r.item.parts (j:Int)).kind=k
   .exact .inr λg=>f ⟨z,g⟩
   .exact .inl z
 .intro n t _;rw[z0v,if_neg (by simp)]
theorem y03(φ:Nat)(hφ:10000<φ)(d:List z7)(k f:Int)(u:d.length<=100)(h:∀r∈d,r.item.parts.length<=40):za7 φ d k f=some (posW ⟨k,f⟩ d,()):=by
 unfold za7;refine(z3c (λn i s=>z47 φ n d k f i s) (λs=>some (s,())) d (posR ⟨k,f⟩) (λi s=>s.length<=40*i) ?_ ?_ φ [] (by simp) (by omega)).1
 .intro n i s j z;have g:=h _ (z80 (l:=d) (i:=(i:Int)) (by omega) (by omega));refine⟨?_,by have:=zpx ⟨k,f⟩ (gt d (i:Int)).item.wagon (gt d (i:Int)).item.parts s;unfold posR;omega⟩;rw[z47,if_pos (by simp;omega),z6 ⟨by omega,by omega⟩,zo4 φ hφ _ d k f (i:Int) (gt d (i:Int)) s (by omega) g,W_id (x:=(i:Int)+1) (by omega) (by omega)]
 .intro n s _;rw[z47,if_neg (by simp)]
theorem ztg:∀(s:List Int){out:List Int},Inc out->Inc (s.foldl ze6 out)/\∀x,x∈s.foldl ze6 out↔x∈out\/x∈s
 | [],out,h=>⟨h,λx=>by simp⟩
 |w::s,out,h=>by
  obtain⟨d,f⟩:=ztg s (zzq h w);refine⟨d,λx=>(f x).trans ?_⟩;rw[zkt];simp only[w05];constructor
  .rintro((q|q)|q)
   .exact .inr (.inl q)
   .exact .inl q
   .exact .inr (.inr q)
  .rintro(q|q|q)
   .exact .inl (.inr q)
   .exact .inl (.inl q)
   .exact .inr q
def InW(l:List z7)(out:List Int):Prop:=Inc out/\∀x∈out,∃r∈l,x=r.item.wagon
theorem InW.len{l:List z7}{out:List Int}(h:InW l out):out.length<=l.length:=by
 have:=zes h.1 (b:=l.map λr=>r.item.wagon) λx hx=>by obtain⟨r,d,e⟩:=h.2 x hx;exact w0b.2 ⟨r,d,e.symm⟩
 simpa using this
theorem InW.add{l:List z7}{out:List Int}(h:InW l out)(c:z8)(at_:Int):InW l ((posW c (hist l at_)).foldl ze6 out):=
 ⟨(ztg _ h.1).1,λx hx=>by
  rcases((ztg _ h.1).2 x).1 hx with q|q
  .exact h.2 x q
  .obtain⟨r,d,e⟩:=zh6 q;exact⟨r,(zjl.1 d).1,e⟩⟩
theorem zm3(φ:Nat)(hφ:10000<φ)(d)(l:List z7)(at_:Int)(H:List z7)(i j:Int)(s out:List Int)(h:s.length<=100)(f:out.length<=100):
  z2t φ d φ l at_ H i j s 0 out=d l at_ H i (W (j+1)) (s.foldl ze6 out):=by
 refine(z3c (λn q t=>z2t φ d n l at_ H i j s q t) (λt=>d l at_ H i (W (j+1)) t) s ze6 (λq t=>t.length<=out.length+q) ?_ ?_ φ out (by omega) (by omega)).1
 .intro n q t g u;refine⟨?_,by have:=zzr t (gt s (q:Int));omega⟩;rw[z2t,if_pos (by simp;omega),z6 ⟨by omega,by omega⟩,zzs,ybs φ hφ t _ (by omega),w00,W_id (x:=(q:Int)+1) (by omega) (by omega)]
 .intro n t _;rw[z2t,if_neg (by simp)]
def addR(at_:Int)(H:List z7)(out:List Int)(r:z7):List Int:=if zi9 at_ r=true then r.item.parts.foldl (λout p=>(posW (ofP p) H).foldl ze6 out) out else out
theorem InW.parts{l:List z7}(at_:Int):∀(ps:List Part){out:List Int},InW l out->InW l (ps.foldl (λout p=>(posW (ofP p) (hist l at_)).foldl ze6 out) out)/\
  ∀x,x∈ps.foldl (λout p=>(posW (ofP p) (hist l at_)).foldl ze6 out) out↔x∈out\/∃p∈ps,x∈posW (ofP p) (hist l at_)
 | [],out,h=>⟨h,λx=>by simp⟩
 |p::ps,out,h=>by
  obtain⟨f,g⟩:=InW.parts at_ ps (h.add (ofP p) at_);refine⟨f,λx=>(g x).trans ?_⟩;rw[(ztg _ h.1).2 x];constructor
  .rintro((q|q)|⟨d,hp,q⟩)
   .exact .inl q
   .exact .inr ⟨p,by simp,q⟩
   .exact .inr ⟨d,by simp[hp],q⟩
  .rintro(q|⟨d,hp,q⟩)
   .exact .inl (.inl q)
   .rcases w05.1 hp with rfl|hp
    .exact .inl (.inr q)
    .exact .inr ⟨d,hp,q⟩
theorem InW.addR{l:List z7}(at_:Int){out:List Int}(h:InW l out)(r:z7):InW l (Px.addR at_ (hist l at_) out r)/\
  ∀x,x∈Px.addR at_ (hist l at_) out r↔x∈out\/(zi9 at_ r=true/\∃p∈r.item.parts,x∈posW (ofP p) (hist l at_)):=by
 unfold Px.addR;cases g:zi9 at_ r with
 |false=>simp only[w09,if_false];exact⟨h,λx=>by simp⟩
 |true=>simp only[if_true];obtain⟨d,f⟩:=InW.parts at_ r.item.parts h;exact⟨d,λx=>(f x).trans (by simp)⟩
theorem InW.reps{l:List z7}(at_:Int):∀(d:List z7){out:List Int},InW l out->InW l (d.foldl (Px.addR at_ (hist l at_)) out)/\
  ∀x,x∈d.foldl (Px.addR at_ (hist l at_)) out↔x∈out\/∃r∈d,zi9 at_ r=true/\∃p∈r.item.parts,x∈posW (ofP p) (hist l at_)
 | [],out,h=>⟨h,λx=>by simp⟩
 |r::d,out,h=>by
  obtain⟨q1,u⟩:=h.addR at_ r;obtain⟨g,j⟩:=InW.reps at_ d q1;refine⟨g,λx=>(j x).trans ?_⟩;rw[u x];constructor
  .rintro((q|q)|⟨f,hr,q⟩)
   .exact .inl q
   .exact .inr ⟨r,by simp,q⟩
   .exact .inr ⟨f,by simp[hr],q⟩
  .rintro(q|⟨f,hr,q⟩)
   .exact .inl (.inl q)
   .rcases w05.1 hr with rfl|hr
    .exact .inl (.inr q)
    .exact .inr ⟨f,hr,q⟩
theorem zm2(φ:Nat)(hφ:10000<φ)(f){l:List z7}(h:FewP l)(at_:Int)(i:Nat)(hi:i<l.length)(out:List Int)(d:InW l out):
  z2s φ f φ l at_ (hist l at_) (i:Int) 0 out=f l at_ (hist l at_) (W ((i:Int)+1)) ((gt l (i:Int)).item.parts.foldl (λout p=>(posW (ofP p) (hist l at_)).foldl ze6 out) out):=by
 have u:=z80 (l:=l) (i:=(i:Int)) (by omega) (by omega);have hp:=h.parts _ u;have g:l.length<=100:=w1o h.len (by omega);have hh:=zue l at_;refine(z3c (λn j out=>z2s φ f n l at_ (hist l at_) (i:Int) j out) (λout=>f l at_ (hist l at_) (W ((i:Int)+1)) out) (gt l (i:Int)).item.parts (λout p=>(posW (ofP p) (hist l at_)).foldl ze6 out) (λ_ out=>InW l out) ?_ ?_ φ out d (by omega)).1
 .intro n j out hj d;refine⟨?_,d.add _ at_⟩;have z:=d.len;have hw:=y4u (ofP (gt (gt l (i:Int)).item.parts (j:Int))) (hist l at_);rw[z2s,z6 ⟨by omega,by omega⟩,if_pos (by simp;omega),z6 ⟨by omega,by omega⟩,z6 ⟨by omega,by omega⟩,z6 ⟨by omega,by omega⟩,z6 ⟨by omega,by omega⟩,y03 φ hφ (hist l at_) _ _ (by omega) (λr hr=>h.parts r (zjl.1 hr).1),w00];exact(zm3 φ hφ _ l at_ (hist l at_) (i:Int) (j:Int) (posW (ofP (gt (gt l (i:Int)).item.parts (j:Int))) (hist l at_)) out (by omega) (by omega)).trans (by rw[W_id (x:=(j:Int)+1) (by omega) (by omega)])
 .intro n out _;rw[z2s,z6 ⟨by omega,by omega⟩,if_neg (by simp)]
theorem zvy{l:List z7}(h:FewP l)(φ:Nat)(hφ:10000<φ)(at_:Int):∃b,zbb φ l at_=some (b,())/\Inc b/\
  ∀x,x∈b↔∃r∈l,zi9 at_ r=true/\∃p∈r.item.parts,x∈posW (ofP p) (hist l at_):=by
 have d:l.length<=100:=w1o h.len (by omega);unfold zbb;rw[y5q φ hφ l at_ d,w00];have g:InW l []:=⟨List.Pairwise.nil,λx hx=>by cases hx⟩;obtain⟨u,z⟩:=InW.reps at_ l g;refine⟨l.foldl (addR at_ (hist l at_)) [],?_,u.1,λx=>(z x).trans (by simp)⟩;refine(z3c (λn i out=>z3m φ n l at_ (hist l at_) i out) (λout=>some (out,())) l (addR at_ (hist l at_)) (λ_ out=>InW l out) ?_ ?_ φ [] g (by omega)).1
 .intro n i out hi j;refine⟨?_,(j.addR at_ _).1⟩;rw[z3m,if_pos (by simp;omega),z6 ⟨by omega,by omega⟩,z6 (λ_=>⟨by omega,by omega⟩),W_id (x:=(i:Int)+1) (by omega) (by omega),zm2 φ hφ _ h at_ i hi out j,W_id (x:=(i:Int)+1) (by omega) (by omega)];unfold addR zi9;by_cases f :((gt l (i:Int)).item.kind:Int)=10
  .by_cases ht :((gt l (i:Int)).time:Int)<=at_
   .rw[if_neg (by simp;omega),if_pos (by simp[f,ht])]
   .rw[if_pos (by simp;omega),if_neg (by simp;omega)]
  .rw[if_pos (by simp[f]),if_neg (by simp[f])]
 .intro n out _;rw[z3m,if_neg (by simp)]
end Px
end
section
namespace Px
open Go
set_option maxRecDepth 100000
theorem y5z{φ:Nat}(hφ:800000<φ){p:Pool}(hc:z1j p=0){l:List z7}(h:FewP l):zbe φ p l=some (z3q p l,()):=by
 have a0:=h.len;unfold zbe;refine zu (λn i d=>z3o φ n l i p d) l.length (λi d=>d=z3q p (l.take i)) (λo=>o=some (z3q p l,())) ?_ ?_ φ [] rfl (by omega)
 .intro n i d j f u;have hp:=h.parts _ (z80 (l:=l) (i:=(i:Int)) (by omega) (by omega));have g:d.length<=100:=by rw[f];unfold z3q;exact w1o (List.length_filter_le _ _) (by rw[w1e];omega)
  rw[z3o,if_pos (by simp;omega),z6 ⟨by omega,by omega⟩,W_id (x:=(i:Int)+1) (by omega) (by omega),yc7 φ (by omega) hc (by omega),w00];cases z:zgc p (gt l (i:Int)).item with
  |false=>rw[if_neg (by simp)];refine u d ?_;rw[z03 l i j,f];unfold z3q;rw[w12];simp[z]
  |true=>rw[if_pos rfl,z6 ⟨by omega,by omega⟩,z6 (zac (by simp;omega) (by omega))];refine u _ ?_;rw[z03 l i j,f];unfold z3q;rw[w12];simp[z]
 .intro n d f;rw[w11] at f;rw[z3o,if_neg (by simp),f]
theorem y3w(at_:Int)(V:List z7)(w:Int):zrj at_ (sT V) w=V.any (z83 at_ w):=by unfold zrj;rw[w0t,w1q,w1q];exact⟨λ⟨r,d,f⟩=>⟨r,yb3.1 d,f⟩,λ⟨r,d,f⟩=>⟨r,yb3.2 d,f⟩⟩
def ownP(at_:Int)(V:List z7)(w:Int):List z7:=(sT V).filter (z82 at_ w)
theorem yeo(at_:Int)(V:List z7)(w:Int):(ownP at_ V w).filter (λr=>(r.item.kind:Int)==5) =(sT V).filter (zfh at_ w):=by
 unfold ownP;rw[List.filter_filter];refine w3l λr _=>?_
 unfold z82 zfh;cases (!decide ((at_:Int)<r.item.from_))<;>cases d :((r.item.kind:Int)==5)<;>simp
theorem y0y(φ:Nat)(hφ:5000<φ)(at_ w:Int)(p:Pool)(z:za)(V:List z7)(hV:V.length<=1000)(hw:0<=w/\w<(p.fleet.wagons.length:Int))(d:ownP at_ V w≠[]):
  z3z φ φ w at_ (-1) 0 p z (ownP at_ V w)=some (⟨(gt p.fleet.wagons w).type_,zof at_ (sT V) w,(zjn at_ (sT V) w).place,at_,0⟩,true,()):=by
 have u :(ownP at_ V w).length<=1000:=w1o (List.length_filter_le _ _) (by rw[zqt];exact hV);have a0:0<(ownP at_ V w).length:=List.length_pos_iff.2 d;refine zu (λn i c=>z3z φ n w at_ c i p z (ownP at_ V w)) (ownP at_ V w).length (λi c=>c =((((ownP at_ V w).take i).filter (λr=>(r.item.kind:Int)==5)).getLast?).elim (-1) (·.item.class_)) (λo=>o=some (⟨(gt p.fleet.wagons w).type_,zof at_ (sT V) w,(zjn at_ (sT V) w).place,at_,0⟩,true,())) ?_ ?_ φ (-1) rfl (by omega)
 .intro n i c hi g j;rw[z3z,if_pos (by simp;omega),z6 ⟨by omega,by omega⟩,W_id (x:=(i:Int)+1) (by omega) (by omega)];have f:=z03 (ownP at_ V w) i hi;cases h :((gt (ownP at_ V w) (i:Int)).item.kind:Int)==5 with
  |true=>rw[if_pos rfl,z6 ⟨by omega,by omega⟩];refine j _ ?_;rw[f,w12,w15,if_pos (by simpa using h)];simp
  |false=>rw[if_neg (by simp)];refine j _ ?_;rw[f,w12,w15,if_neg (by simpa using h),w4w,w0e];exact g
 .intro n c g;rw[w11,yeo] at g;have hW:W (((ownP at_ V w).length:Int)-1) =(((ownP at_ V w).length-1:Nat):Int):=by rw[W_id (by omega) (by omega)];omega
  rw[z3z,if_neg (by simp),hW,z6 ⟨by omega,by omega⟩,z6 ⟨by omega,by omega⟩,g];have hl :(gt (ownP at_ V w) (((ownP at_ V w).length-1:Nat):Int)).item=zjn at_ (sT V) w:=by show _ =((ownP at_ V w).getLast?).elim default (·.item);rw[z68 (by omega),List.getLast?_eq_some_getLast d,List.getLast_eq_getElem];rfl
  rw[hl];rfl
theorem yi6{φ:Nat}(hφ:800000<φ)(at_ w:Int)(p:Pool){V:List z7}(hV:V.length<=800)(hw:0<=w/\w<(p.fleet.wagons.length:Int)):
  ∃x,zhb φ p V w at_=some (x,zg1 at_ (sT V) w,())/\(zg1 at_ (sT V) w=true->x.at_=at_/\keyS x=keyQ p at_ (sT V) w):=by
 unfold zhb;refine zu (λn i d=>z3y φ n V w at_ i p ⟨0,0,0,0,0⟩ d) V.length (λi d=>d=sT ((V.take i).filter (z82 at_ w))/\∀r∈V.take i,z83 at_ w r=false)
  (λo=>∃x,o=some (x,zg1 at_ (sT V) w,())/\(zg1 at_ (sT V) w=true->x.at_=at_/\keyS x=keyQ p at_ (sT V) w)) ?_ ?_ φ [] ⟨rfl,λr hr=>by simp at hr⟩ (by omega)
 .intro n i d hi ⟨he,hg⟩ hk;have hm:gt V (i:Int)∈V:=z80 (by omega) (by omega);have u:=z03 V i hi;rw[z3y,if_pos (by simp;omega),z6 ⟨by omega,by omega⟩,W_id (x:=(i:Int)+1) (by omega) (by omega)];generalize gt V (i:Int)=r at hm u⊢;have skip:z82 at_ w r=false->z83 at_ w r=false->d=sT ((V.take (i+1)).filter (z82 at_ w))/\∀r∈V.take (i+1),z83 at_ w r=false:=λq1 q2=>by
   rw[u,w12,w15,if_neg (by simp[q1]),w4w,w0e];refine⟨he,λy hy=>?_⟩;rcases w0j.1 hy with hy|hy
   .exact hg y hy
   .rw[w0d.1 hy];exact q2
  by_cases c1:r.item.wagon≠w\/at_<r.item.from_
  .rw[if_pos (by simpa using c1)];refine hk d (skip ?_ ?_)
   .rcases c1 with c1|c1<;>simp[z82,c1]
   .rcases c1 with c1|c1<;>simp[z83,c1]
  .rw[if_neg (by simpa using c1)];have d1:r.item.wagon=w:=Decidable.byContradiction λq=>c1 (.inl q)
   have d2:r.item.from_<=at_:=by omega
   by_cases c2:r.item.kind=8/\r.item.code=9
   .rw[if_pos (by simp[c2])];have z:zrj at_ (sT V) w=true:=by rw[y3w,w1q];exact⟨r,hm,by simp[z83,c2,d1,d2]⟩
    have g:zg1 at_ (sT V) w=false:=by unfold zg1;rw[z];simp
    exact⟨_,by rw[g],λq=>by rw[g] at q;cases q⟩
   .rw[if_neg (by simpa using c2)];have a0:z83 at_ w r=false:=by
     simp only[z83,w33];refine .inr (.inl ?_);simp only[w33,beq_eq_false_iff_ne];by_cases q:r.item.kind=8
     .exact .inr λq2=>c2 ⟨q,q2⟩
     .exact .inl q
    cases j:z82 at_ w r with
    |true=>
     have a2 :((((r.item.kind:Int)==6)||((r.item.kind:Int)==7))||((r.item.kind:Int)==5))=true:=by have j:=j;unfold z82 at j;simp only[w02] at j;exact j.2.1
     have g :((V.take i).filter (z82 at_ w)).length<=800:=w1o (List.length_filter_le _ _) (by rw[w1e];omega);rw[if_pos a2,z6 ⟨by omega,by omega⟩,he,zp7 φ (by omega) _ _ (by omega),w00];refine hk _ ⟨?_,λy hy=>?_⟩
     .rw[u,w12,w15,if_pos (by simp[j]),w4w]
     .rw[u] at hy;rcases w0j.1 hy with hy|hy
      .exact hg y hy
      .rw[w0d.1 hy];exact a0
    |false=>
     rw[if_neg (by
      intro q;have:z82 at_ w r=true:=by unfold z82;rw[q];simp[d1,d2]
      rw[this] at j;cases j)]
     exact hk d (skip j a0)
 .intro n d ⟨he,hg⟩;rw[w11] at he hg;have a1:d=ownP at_ V w:=by rw[he];unfold ownP;rw[zz8]
  have z:zrj at_ (sT V) w=false:=by rw[y3w,<- w1k,w1q];rintro⟨r,h1,h2⟩;rw[hg r h1] at h2;cases h2
  have a3 :(ownP at_ V w).length<=800:=w1o (List.length_filter_le _ _) (by rw[zqt];exact hV);have f:zg1 at_ (sT V) w =(((zjn at_ (sT V) w).kind:Int)==7):=by unfold zg1;rw[z];simp
  rw[z3y,if_neg (by simp),a1];by_cases h:ownP at_ V w = []
  .have g:zg1 at_ (sT V) w=false:=by
    rw[f];have:zjn at_ (sT V) w=default:=by show ((ownP at_ V w).getLast?).elim default (·.item)=default;rw[h];rfl
    rw[this];rfl
   rw[h];rw[z6 (λq=>by simp at q),if_pos (by simp)];exact⟨_,by rw[g],λq=>by rw[g] at q;cases q⟩
  .have a4:0<(ownP at_ V w).length:=List.length_pos_iff.2 h;have hW:W (((ownP at_ V w).length:Int)-1) =(((ownP at_ V w).length-1:Nat):Int):=by rw[W_id (by omega) (by omega)];omega
   have hl :(gt (ownP at_ V w) (((ownP at_ V w).length-1:Nat):Int)).item=zjn at_ (sT V) w:=by show _ =((ownP at_ V w).getLast?).elim default (·.item);rw[z68 (by omega),List.getLast?_eq_some_getLast h,List.getLast_eq_getElem];rfl
   have hz :(((ownP at_ V w).length:Int)==0)=false:=by rw[beq_eq_false_iff_ne];omega
   rw[hW,z6 (λ_=>⟨by omega,by omega⟩),hl,hz,w2c];by_cases h7 :(zjn at_ (sT V) w).kind=7
   .have g:zg1 at_ (sT V) w=true:=by rw[f];simpa using h7
    rw[if_neg (by simpa using h7),y0y φ (by omega) at_ w p _ V (by omega) hw h];exact⟨_,by rw[g],λ_=>⟨rfl,rfl⟩⟩
   .have g:zg1 at_ (sT V) w=false:=by rw[f];simpa using h7
    rw[if_pos (by simpa using h7)];exact⟨_,by rw[g],λq=>by rw[g] at q;cases q⟩
theorem zs7(φ:Nat)(d)(at_:Int)(V:List z7)(B:List Int)(w:Int)(p:Pool)(out:List za)(x:za)(hB:B.length<=1000)(hφ:1000<φ)(f:Bool):
  z5l φ d φ at_ V B w f 0 p out x=if(f&&!B.contains w)=true then((z7w φ out x).bind λy=>d at_ V B (W (w+1)) p y.1) else d at_ V B (W (w+1)) p out:=by
 refine zu (λn i b=>z5l φ d n at_ V B w b i p out x) B.length (λi b=>b =(f&&!(B.take i).contains w)) (λo=>o=if(f&&!B.contains w)=true then((z7w φ out x).bind λy=>d at_ V B (W (w+1)) p y.1) else d at_ V B (W (w+1)) p out) ?_ ?_ φ f (by simp) (by omega)
 .intro n i b z h hk;rw[z5l,if_pos (by simp;omega),z6 (λ_=>⟨by omega,by omega⟩),W_id (x:=(i:Int)+1) (by omega) (by omega)];refine hk _ ?_;rw[z03 B i z,h];rw[w0t];simp only[w02,w0v,bne_iff_ne,ne_eq,<- w1k,List.contains_iff_mem,w0j,w0d];constructor
  .rintro⟨⟨j,g⟩,u⟩;exact⟨j,λq=>q.elim g λq=>u q.symm⟩
  .rintro⟨j,g⟩;exact⟨⟨j,λq=>g (.inl q)⟩,λq=>g (.inr q.symm)⟩
 .intro n b h;rw[w11] at h;rw[z5l,if_neg (by simp),h]
theorem y6w{φ:Nat}(hφ:800000<φ){p:Pool}(hc:z1j p=0){l:List z7}(h:FewP l){at_:Int}(ha:0<=at_/\at_<=1073741824){b:List Int}(hb:Inc b)(a4:b.length<=100)
  (a0:∀x,x∈b↔∃r∈z3q p l,zi9 at_ r=true/\∃q∈r.item.parts,x∈posW (ofP q) (hist (z3q p l) at_)) :
  ∃out,z9x φ p l at_=some (out,0,())/\ze8 at_ (zg5 p at_ (sT (z3q p l)) b p.fleet.wagons.length) out/\out.length<=p.fleet.wagons.length:=by
 have hV:FewP (z3q p l):=h.filter λr=>zgc p r.item
 have a3:=hV.len;have hn:=zid hc;obtain⟨f,b1,b2,b4⟩:=zvy (l:=z3q p l) hV φ (by omega) at_;have z:f=b:=y1b b2 hb λx=>(b4 x).trans (a0 x).symm
 subst z;have a1:z0o φ at_ 0 1073741824=some (true,()):=by show some ((decide ((0:Int)<=at_))&&(decide (at_<=1073741824)),())=_;simp[ha]
 unfold z9x;rw[z4w φ hφ,w00,if_neg (by simpa using hc),a1,w00,if_neg (by simp),y5z hφ hc h,w00,b1,w00];refine zu (λn i out=>z6w φ n at_ (z3q p l) f i p out) p.fleet.wagons.length (λi out=>ze8 at_ (zg5 p at_ (sT (z3q p l)) f i) out/\out.length<=i) (λo=>∃out,o=some (out,0,())/\ze8 at_ (zg5 p at_ (sT (z3q p l)) f p.fleet.wagons.length) out/\out.length<=p.fleet.wagons.length) ?_ ?_ φ [] ⟨ze8.nil at_,by simp⟩ (by omega)
 .intro n i out hi ⟨u,g⟩ hk;have a5:=zy1 p at_ (sT (z3q p l)) f i;obtain⟨x,x1,x2⟩:=yi6 hφ at_ (i:Int) p (V:=z3q p l) (by omega) ⟨by omega,by omega⟩;rw[z6w,if_pos (by simp;omega),x1,w00];simp only;rw[zs7 φ _ at_ _ f (i:Int) p out x (by omega) (by omega),W_id (x:=(i:Int)+1) (by omega) (by omega)];split
  .rename_i d;have a2:zg1 at_ (sT (z3q p l)) (i:Int)=true:=by simp only[w02] at d;exact d.1
   obtain⟨q1,q2⟩:=x2 a2;obtain⟨j,o1,o2,o3⟩:=yc8 (φ:=φ) (by omega) u x q1 (by omega) (by omega);rw[o1,w00];refine hk j ⟨?_,by omega⟩;rw[zgz,if_pos (show y0x at_ (sT (z3q p l)) f (i:Int)=true from d),<- q2];exact o2
  .rename_i d;refine hk out ⟨?_,by omega⟩;rw[zgz,if_neg (show ¬y0x at_ (sT (z3q p l)) f (i:Int)=true from d)];exact u
 .intro n out ⟨u,g⟩;rw[z6w,if_neg (by simp)];exact⟨out,rfl,u,g⟩
end Px
end
section
namespace Px
open Go
theorem zjq{α σ ρ:Type}[Inhabited α](L:Nat->Int->σ->Option ρ)(k:σ->Option ρ)(r:Option ρ)(l:List α)(g:α->Bool)(f:σ->α->σ)(d:Nat->σ->Prop)
  (step:∀(n i:Nat)(s:σ),i<l.length->d i s->L (n+1) i s =(bif g (gt l i) then L n ((i:Int)+1) (f s (gt l i)) else r)/\(g (gt l i)=true->d (i+1) (f s (gt l i)))) (u:∀n s,d l.length s->L (n+1) l.length s=k s)
  (n:Nat) (s:σ) (h0:d 0 s) (hn:l.length<n):L n 0 s =(bif l.all g then k (l.foldl f s) else r)/\(l.all g=true->d l.length (l.foldl f s)):=by
 refine zu L l.length (λi t=>(l.take i).all g=true/\t =(l.take i).foldl f s/\d i t) (λo=>o =(bif l.all g then k (l.foldl f s) else r)/\(l.all g=true->d l.length (l.foldl f s))) ?_ ?_ n s ⟨by simp,by simp,h0⟩ hn
 .intro n i t hi ⟨ha,ht,z⟩ hs;obtain⟨e1,e2⟩:=step n i t hi z;rw[e1];cases j:g (gt l (i:Int)) with
  |true=>refine hs _ ⟨by rw[zeb g l i hi,ha,j];rfl,?_,e2 j⟩;rw[z03 l i hi,w4n,<- ht];rfl
  |false=>
   have:l.all g=false:=by rw[w3m];exact⟨gt l (i:Int),z80 (by omega) (by omega),by rw[j];simp⟩
   rw[this];exact⟨rfl,λh=>by cases h⟩
 .intro n t ⟨ha,ht,z⟩;rw[w11] at ha ht;subst ht;rw[ha];exact⟨u n _ z,λ_=>z⟩
end Px
end
section
namespace Px
open Go
def arcS(u:Int)(s:List za)(i:Nat):Arc:=⟨(i:Int),u+1,(gt s (i:Int)).count,0⟩
def arcO(u a:Int)(o:List zp)(k:Nat):Arc:=⟨u,a+(k:Int),(gt o (k:Int)).count,(gt o (k:Int)).weight⟩
theorem zye(φ:Nat)(u g:Int)(s:List za)(h:List Int)(d:List Arc)(hs:s.length<=6)(ha:d.length<=1000)(hu:0<=u/\u<=1000)(m:Nat)(hm:s.length<m):
  z1q φ m u g s (s.length:Int) 0 h d=z15 φ h (d++(List.range s.length).map (arcS u s)++[⟨u,u+1,g,0⟩]):=by
 have a0:W (u+1)=u+1:=W_id (by omega) (by omega);refine zu (λm i f=>z1q φ m u g s (s.length:Int) i h f) s.length (λi f=>f=d++(List.range i).map (arcS u s)) (λo=>o=z15 φ h (d++(List.range s.length).map (arcS u s)++[⟨u,u+1,g,0⟩])) ?_ ?_ m d (by simp) hm
 .intro m i f hi z hG;have hW:W ((i:Int)+1) =(i:Int)+1:=W_id (by omega) (by omega);have j:f.length=d.length+i:=by rw[z];simp
  show z1q φ (m+1) u g s (s.length:Int) (i:Int) h f=_;rw[z1q,if_pos (by simp;omega),z6 ⟨by omega,by omega⟩,z6 (by simp[fits,j];omega),if_neg (by simp),hW,a0];refine hG _ ?_;rw[z,w1n,w1g,w0m];rfl
 .intro m f z;have j:f.length=d.length+s.length:=by rw[z];simp
  show z1q φ (m+1) u g s (s.length:Int) (s.length:Int) h f=_;rw[z1q,if_neg (by simp),z6 (by simp[fits,j];omega),a0,z]
def sumC(o:List zp):Nat->Int
 |0=>0
 |k+1=>sumC o k+(gt o (k:Int)).count
theorem y6h(φ:Nat)(u:Int)(s:List za)(o:List zp)(f:List Int)(d:List Arc)(hs:s.length<=6)(ho:o.length<=6)(hc:∀k:Nat,k<o.length->0<=(gt o (k:Int)).count/\(gt o (k:Int)).count<=1000000)(ha:d.length<=500)(hu:0<=u/\u<=1000)(hφ:1000<φ)(m:Nat)(hm:o.length<m):
  z0y φ m u 0 o (o.length:Int) 0 s f d=z15 φ f (d++(List.range o.length).map (arcO u (s.length:Int) o)++(List.range s.length).map (arcS u s)++[⟨u,u+1,sumC o o.length,0⟩]):=by
 refine zu (λm i(st:Int×List Arc)=>z0y φ m u st.1 o (o.length:Int) i s f st.2) o.length (λi st=>st.1=sumC o i/\0<=st.1/\st.1<=1000000*(i:Int)/\st.2=d++(List.range i).map (arcO u (s.length:Int) o))
  (λr=>r=z15 φ f (d++(List.range o.length).map (arcO u (s.length:Int) o)++(List.range s.length).map (arcS u s)++[⟨u,u+1,sumC o o.length,0⟩])) ?_ ?_ m (0,d) ⟨rfl,by simp,by simp,by simp⟩ hm
 .rintro m i ⟨c,g⟩ hi ⟨z,h2,h3,j⟩ hG;simp only at z h2 h3 j;have hW:W ((i:Int)+1) =(i:Int)+1:=W_id (by omega) (by omega);have a0:W ((s.length:Int)+(i:Int)) =(s.length:Int)+(i:Int):=W_id (by omega) (by omega);have a2:=hc i hi;have a1:W (c+(gt o (i:Int)).count)=c+(gt o (i:Int)).count:=W_id (by omega) (by omega);have h:g.length=d.length+i:=by rw[j];simp
  show z0y φ (m+1) u c o (o.length:Int) (i:Int) s f g=_;rw[z0y,if_pos (by simp;omega),z6 ⟨by omega,by omega⟩,z6 (by simp[fits,h];omega),if_neg (by simp),hW,a0,a1];refine hG (c+(gt o (i:Int)).count,_) ⟨by rw[z];rfl,by omega,by push_cast;omega,?_⟩;simp only;rw[j,w1n,w1g,w0m];rfl
 .rintro m ⟨c,g⟩ ⟨z,h2,h3,j⟩;simp only at z h2 h3 j;have h:g.length=d.length+o.length:=by rw[j];simp
  show z0y φ (m+1) u c o (o.length:Int) (o.length:Int) s f g=_;rw[z0y,if_neg (by simp),zye φ u c s f g hs (by omega) hu φ (by omega),j,z]
end Px
end
section
namespace Px
open Go
def arcP(s:List za)(o:List zp)(c:Nat->Nat->Int)(b:Nat->Nat->Bool)(i k:Nat):List Arc:=bif b i k then [⟨(i:Int),(s.length:Int)+(k:Int),min2 (gt s (i:Int)).count (gt o (k:Int)).count,c i k⟩] else []
def arcR(s:List za)(o:List zp)(c:Nat->Nat->Int)(b:Nat->Nat->Bool)(i:Nat):List Arc:=(List.range o.length).flatMap (arcP s o c b i)
theorem znr{s:List za}{o:List zp}{c:Nat->Nat->Int}{b:Nat->Nat->Bool}(i:Nat):∀n:Nat,((List.range n).flatMap (arcP s o c b i)).length<=n
 |0=>by simp
 |n+1=>by
  rw[w1n,w2d,w0h];have:=znr (s:=s) (o:=o) (c:=c) (b:=b) i n;have d :([n].flatMap (arcP s o c b i)).length<=1:=by simp only[w0u,List.flatMap_nil,w0e,arcP];cases b i n<;>simp
  omega
theorem zgp{s:List za}{o:List zp}{c:Nat->Nat->Int}{b:Nat->Nat->Bool}(d:o.length<=6):∀n:Nat,((List.range n).flatMap (arcR s o c b)).length<=6*n
 |0=>by simp
 |n+1=>by
  rw[w1n,w2d,w0h];have:=zgp (s:=s) (o:=o) (c:=c) (b:=b) d n;have f :([n].flatMap (arcR s o c b)).length<=6:=by simp only[w0u,List.flatMap_nil,w0e,arcR];have:=znr (s:=s) (o:=o) (c:=c) (b:=b) n o.length;omega
  omega
theorem yiq(φ:Nat)(f:Int->Int->List za->Int->Int->List za->List zp->Pool->List Int->List Arc->Option (zq×Int×Unit))(u g:Int)(p:Pool)(s:List za)(o:List zp)(h:List Int)(c:Nat->Nat->Int)(b:Nat->Nat->Bool)(i:Nat)
  (a1:∀k:Nat,k<o.length->z1s φ p (gt s (i:Int)) (gt o (k:Int))=some (c i k,b i k,())) (hs:s.length<=6) (ho:o.length<=6) (d:List Arc) (ha:d.length<=100) (m:Nat) (hm:o.length<m) :
  z14 φ f m u g (i:Int) s (s.length:Int) (i:Int) o (o.length:Int) 0 s o p (gt s (i:Int)) h d=f u g s (s.length:Int) (W ((i:Int)+1)) s o p h (d++arcR s o c b i):=by
 refine zu (λm k d=>z14 φ f m u g (i:Int) s (s.length:Int) (i:Int) o (o.length:Int) k s o p (gt s (i:Int)) h d) o.length (λk a=>a=d++(List.range k).flatMap (arcP s o c b i))
  (λr=>r=f u g s (s.length:Int) (W ((i:Int)+1)) s o p h (d++arcR s o c b i)) ?_ ?_ m d (by simp) hm
 .intro m k a hk z hG;have hW:W ((k:Int)+1) =(k:Int)+1:=W_id (by omega) (by omega);have a0:W ((s.length:Int)+(k:Int)) =(s.length:Int)+(k:Int):=W_id (by omega) (by omega);have a2:a.length<=110:=by rw[z,w0h];have:=znr (s:=s) (o:=o) (c:=c) (b:=b) i k;omega
  show z14 φ f (m+1) u g (i:Int) s (s.length:Int) (i:Int) o (o.length:Int) (k:Int) s o p (gt s (i:Int)) h a=_;rw[z14,if_pos (by simp;omega),z6 ⟨by omega,by omega⟩,a1 k hk,w00,hW,a0];have j:∀a',a'=a++arcP s o c b i k->a'=d++(List.range (k+1)).flatMap (arcP s o c b i):=λa' e=>by rw[e,z,w1n,w2d,w0m];simp
  cases hb:b i k with
  |true=>rw[if_pos rfl,z6 (by simp[fits];omega),if_neg (by simp)];exact hG _ (j _ (by unfold arcP;rw[hb];rfl))
  |false=>rw[if_neg (by simp)];exact hG _ (j _ (by unfold arcP;rw[hb];simp))
 .intro m a z;show z14 φ f (m+1) u g (i:Int) s (s.length:Int) (i:Int) o (o.length:Int) (o.length:Int) s o p (gt s (i:Int)) h a=_;rw[z14,if_neg (by simp),z];rfl
theorem y9y(φ:Nat)(u d:Int)(p:Pool)(s:List za)(o:List zp)(f:List Int)(c:Nat->Nat->Int)(b:Nat->Nat->Bool)
  (z:∀i k:Nat,i<s.length->k<o.length->z1s φ p (gt s (i:Int)) (gt o (k:Int))=some (c i k,b i k,())) (hs:s.length<=6) (ho:o.length<=6) (hφ:1000<φ) (m:Nat) (hm:s.length<m) :
  z1p φ m u d s (s.length:Int) 0 s o p f []=z0y φ φ u d o (o.length:Int) 0 s f ((List.range s.length).flatMap (arcR s o c b)):=by
 refine zu (λm i j=>z1p φ m u d s (s.length:Int) i s o p f j) s.length (λi a=>a =(List.range i).flatMap (arcR s o c b))
  (λr=>r=z0y φ φ u d o (o.length:Int) 0 s f ((List.range s.length).flatMap (arcR s o c b))) ?_ ?_ m [] (by simp) hm
 .intro m i a hi h hG;have hW:W ((i:Int)+1) =(i:Int)+1:=W_id (by omega) (by omega);have g:a.length<=100:=by rw[h];have:=zgp (s:=s) (o:=o) (c:=c) (b:=b) ho i;omega
  show z1p φ (m+1) u d s (s.length:Int) (i:Int) s o p f a=_;rw[z1p,if_pos (by simp;omega),z6 ⟨by omega,by omega⟩,yiq φ _ u d p s o f c b i (λk hk=>z i k hi hk) hs ho a g φ (by omega),hW];refine hG _ ?_;rw[h,w1n,w2d];simp
 .intro m a h;show z1p φ (m+1) u d s (s.length:Int) (s.length:Int) s o p f a=_;rw[z1p,if_neg (by simp),h]
end Px
end
section
namespace Px
open Go
theorem zd6(φ:Nat)(a b c:Int):z0h φ a b c=some (bet a b c,()):=rfl
def okSu(p:Pool)(s:za):Bool:=(((bet s.type_ 0 (W ((p.fleet.types.length:Int)-1))&&bet s.class_ (-1) 63)&&bet s.place 0 (W ((p.network.places.length:Int)-1)))&&bet s.at_ 0 1073741824)&&bet s.count 1 4096
def okOr(p:Pool)(o:zp):Bool:=(((((bet o.type_ 0 (W ((p.fleet.types.length:Int)-1))&&bet o.class_ 0 63)&&bet o.place 0 (W ((p.network.places.length:Int)-1)))&&bet o.from_ 0 o.to)&&decide (o.to<=1073741824))&&bet o.count 1 1000)&&bet o.weight 0 1000000000
theorem z9m(φ:Nat)(p:Pool)(s:za):z31 φ p s=some (okSu p s,()):=by unfold z31 okSu;simp only[zd6,w00];cases d:bet s.type_ 0 (W ((p.fleet.types.length:Int)-1))<;>cases f:bet s.class_ (-1) 63<;>cases g:bet s.place 0 (W ((p.network.places.length:Int)-1))<;>cases h:bet s.at_ 0 1073741824<;>cases j:bet s.count 1 4096<;>simp[zi]
theorem zan(φ:Nat)(p:Pool)(o:zp):z3r φ p o=some (okOr p o,()):=by unfold z3r okOr;simp only[zd6,w00];cases f:bet o.type_ 0 (W ((p.fleet.types.length:Int)-1))<;>cases g:bet o.class_ 0 63<;>cases h:bet o.place 0 (W ((p.network.places.length:Int)-1))<;>cases j:bet o.from_ 0 o.to<;>cases d:decide (o.to<=1073741824)<;>cases u:bet o.count 1 1000<;>cases z:bet o.weight 0 1000000000<;>simp[zi,d]
end Px
end
section
namespace Px
open Go
def sumS(s:List za):Nat->Int
 |0=>0
 |k+1=>sumS s k+(gt s (k:Int)).count
def nodU(s:List za)(o:List zp):Int:=(s.length:Int)+(o.length:Int)
def ygj(s:List za)(o:List zp)(c:Nat->Nat->Int)(b:Nat->Nat->Bool):List Arc:=(List.range s.length).flatMap (arcR s o c b)
def y7v(s:List za)(o:List zp)(c:Nat->Nat->Int)(b:Nat->Nat->Bool):List Arc:=ygj s o c b++(List.range o.length).map (arcO (nodU s o) (s.length:Int) o)++(List.range s.length).map (arcS (nodU s o) s)++[⟨nodU s o,nodU s o+1,sumC o o.length,0⟩]
def supN(s:List za)(o:List zp):List Int:=s.map (·.count)++o.map (λy=>- y.count)++[sumC o o.length,- sumS s s.length]
def netN(s:List za)(o:List zp)(c:Nat->Nat->Int)(b:Nat->Nat->Bool):zq:=⟨supN s o,y7v s o c b⟩
section
variable{s:List za}{o:List zp}{c:Nat->Nat->Int}{b:Nat->Nat->Bool}{X:Nat->Nat->Int}
end
end Px
end
section
namespace Px
open Go
set_option maxRecDepth 100000
inductive Walk (E:List Swap) (a:Nat):List Nat->Nat->Int->Prop
 |nil:Walk E a [] a 0
 |step {vs:List Nat} {x:Int} {s:Swap} : Walk E a vs s.wanted.toNat x->s∈E->Walk E a (s.wanted.toNat::vs) s.given.toNat (x+s.cost)
def EOk(n:Nat)(E:List Swap):Prop:=∀s∈E,0<=s.wanted/\s.wanted<n/\0<=s.given/\s.given<n/\0<=s.cost/\s.cost<=1000000000
theorem Walk.lt{E:List Swap}{a n:Nat}(d:EOk n E)(f:a<n){vs:List Nat}{v:Nat}{x:Int}(h:Walk E a vs v x):v<n/\(∀u∈vs,u<n)/\0<=x:=by
 induction h with
 |nil=>exact⟨f,by simp,by omega⟩
 |step h g z=>
  have:=d _ g;refine⟨by omega,?_,by omega⟩;intro u j;rcases w05.1 j with h|h
  .omega
  .exact z.2.1 u h
theorem Walk.cut{E:List Swap}{a n:Nat}(hE:EOk n E){vs:List Nat}{u:Nat}{x:Int}(h:Walk E a vs u x)(f :(u::vs).Nodup):
  ∀v∈u::vs,∃d g,Walk E a d v g/\g<=x/\(v::d).Nodup:=by
 induction h with
 |nil=>
  intro v j;have:v=a:=by simpa using j
  subst this;exact⟨[],0,.nil,by omega,by simp⟩
 | @step vs x s h z ih=>
  intro v j;have hc:=hE _ z;rcases w05.1 j with e|e
  .subst e;exact⟨_,_,.step h z,w2y _,f⟩
  .obtain⟨d,g,h1,h2,h3⟩:=ih (w1x.1 f).2 v e;exact⟨d,g,h1,by omega,h3⟩
theorem Walk.simple{E:List Swap}{a n:Nat}(z:EOk n E){vs:List Nat}{v:Nat}{x:Int}(h:Walk E a vs v x):∃d g,Walk E a d v g/\g<=x/\(v::d).Nodup:=by
 induction h with
 |nil=>exact⟨[],0,.nil,by omega,by simp⟩
 | @step vs x s h hs ih=>
  obtain⟨d,g,j,h2,u⟩:=ih;have hc:=z _ hs;by_cases hm:s.given.toNat∈s.wanted.toNat::d
  .obtain⟨f,x2,k1,k2,k3⟩:=j.cut z u _ hm;exact⟨f,x2,k1,by omega,k3⟩
  .exact⟨_,_,.step j hs,by omega,w1x.2 ⟨hm,u⟩⟩
theorem zyf:∀(n:Nat)(l:List Nat),l.Nodup->(∀x∈l,x<n)->l.length<=n
 |0,l,_,h=>by
  cases l with
  |nil=>simp
  |cons x l=>have:=h x (by simp);omega
 |n+1,l,d,h=>by
  have g:=zyf n (l.erase n) (d.erase n) (λx hx=>by have:=(List.Nodup.mem_erase_iff d).1 hx;have:=h x this.2;omega);have:l.length<=(l.erase n).length+1:=by
   by_cases f:n∈l
   .rw[List.length_erase_of_mem f];omega
   .rw[List.erase_of_not_mem f];omega
  omega
theorem Walk.short{E:List Swap}{a n:Nat}(j:EOk n E)(ha:a<n){vs:List Nat}{v:Nat}{x:Int}(h:Walk E a vs v x):∃d f,Walk E a d v f/\f<=x/\d.length+1<=n:=by
 obtain⟨d,f,g,z,h3⟩:=h.simple j;obtain⟨g1,u,_⟩:=g.lt j ha;refine⟨d,f,g,z,?_⟩;have:=zyf n (v::d) h3 (λy hy=>by
  rcases w05.1 hy with e|e
  .omega
  .exact u y e)
 simpa using this
def z74(c:Nat->Int)(s:Swap):Bool:=decide (0<=c s.wanted.toNat)&&(decide (c s.given.toNat<0)||decide (c s.wanted.toNat+s.cost<c s.given.toNat))
def z9d(c:Nat->Int)(s:Swap):Nat->Int:=bif z74 c s then upd c s.given.toNat (c s.wanted.toNat+s.cost) else c
def Down(c d:Nat->Int):Prop:=∀v,0<=c v->0<=d v/\d v<=c v
theorem Down.refl(c:Nat->Int):Down c c:=λv h=>⟨h,w2y _⟩
theorem Down.trans{c d e:Nat->Int}(h:Down c d)(g:Down d e):Down c e:=λv f=>⟨(g v (h v f).1).1,Int.le_trans (g v (h v f).1).2 (h v f).2⟩
theorem zn0{α:Type}(f:Nat->α)(k:Nat)(x:α)(j:Nat):upd f k x j=if j=k then x else f j:=rfl
theorem zt4{c:Nat->Int}{s:Swap}(g:0<=s.cost):Down c (z9d c s):=by
 intro v d;unfold z9d;cases f:z74 c s with
 |false=>exact⟨d,w2y _⟩
 |true=>
  simp only[z74,w02,w0w,decide_eq_true_eq] at f;simp only[cond_true,zn0];split
  .rename_i e;subst e;omega
  .exact⟨d,w2y _⟩
theorem yf4{c:Nat->Int}{s:Swap}(f:0<=s.cost)(g:0<=c s.wanted.toNat):0<=z9d c s s.given.toNat/\z9d c s s.given.toNat<=c s.wanted.toNat+s.cost:=by
 unfold z9d;cases d:z74 c s with
 |false=>simp only[z74,w33,w1l,decide_eq_false_iff_not] at d;simp only[cond_false];omega
 |true=>simp only[cond_true,zn0,if_true];omega
theorem zgh{c:Nat->Int}{s:Swap}(h:z74 c s=false):z9d c s=c:=by unfold z9d;rw[h];rfl
def zkk(E:List Swap)(c:Nat->Int):Nat->Int:=E.foldl z9d c
theorem zp1{n:Nat}: ∀{E:List Swap},EOk n E->∀c,Down c (E.foldl z9d c)
 | [],_,c=>Down.refl c
 |s::E,h,c=>(zt4 (h s (by simp)).2.2.2.2.1).trans (zp1 (λt d=>h t (w0g _ d)) _)
theorem y8z{n:Nat}: ∀{E:List Swap},EOk n E->∀c,∀s∈E,0<=c s.wanted.toNat->0<=E.foldl z9d c s.given.toNat/\E.foldl z9d c s.given.toNat<=c s.wanted.toNat+s.cost
 | [],_,c,s,j,_=>by simp at j
 |t::E,h,c,s,j,z=>by
  have d:=(h t (by simp)).2.2.2.2.1;have u:EOk n E:=λt d=>h t (w0g _ d)
  rcases w05.1 j with e|e
  .subst e;have f:=yf4 d z;have g:=zp1 u (z9d c s) _ f.1;exact⟨g.1,by simp only[w1y];omega⟩
  .have f:=zt4 d (c:=c) _ z;have g:=y8z u (z9d c t) s e f.1;exact⟨g.1,by simp only[w1y];omega⟩
def y7p(E:List Swap)(a:Nat)(c:Nat->Int):Prop:=∀v,0<=c v->∃vs,Walk E a vs v (c v)
theorem y2b{E:List Swap}{a:Nat}{c:Nat->Int}{s:Swap}(g:s∈E)(h:y7p E a c):y7p E a (z9d c s):=by
 intro v d;unfold z9d at d⊢;cases f:z74 c s with
 |false=>rw[f] at d;exact h v d
 |true=>
  rw[f] at d;simp only[z74,w02,w0w,decide_eq_true_eq] at f;simp only[cond_true,zn0] at d⊢;split
  .rename_i e;subst e;obtain⟨vs,j⟩:=h _ f.1;exact⟨_,.step j g⟩
  .rename_i e;rw[if_neg e] at d;exact h v d
theorem zsq{E:List Swap}{a:Nat}: ∀{F:List Swap},(∀s∈F,s∈E)->∀c,y7p E a c->y7p E a (F.foldl z9d c)
 | [],_,c,h=>h
 |s::F,d,c,h=>zsq (λt f=>d t (w0g _ f)) _ (y2b (d s (by simp)) h)
def cRw(E:List Swap)(a:Nat):Nat->Nat->Int
 |0=>λj=>if j=a then 0 else-1
 |r+1=>zkk E (cRw E a r)
theorem zx3(E:List Swap)(a:Nat):∀r,y7p E a (cRw E a r)
 |0=>by
  intro v d;simp only[cRw] at d⊢;split
  .rename_i e;subst e;exact⟨[],.nil⟩
  .rename_i e;rw[if_neg e] at d;omega
 |r+1=>zsq (λs h=>h) _ (zx3 E a r)
theorem ycg{E:List Swap}{n:Nat}(d:EOk n E)(a:Nat)(r:Nat):Down (cRw E a r) (cRw E a (r+1)):=zp1 d _
theorem zx2{E:List Swap}{n:Nat}(j:EOk n E)(a:Nat):∀(r:Nat){vs:List Nat}{v:Nat}{x:Int},Walk E a vs v x->vs.length<=r->0<=cRw E a r v/\cRw E a r v<=x:=by
 intro r
 induction r with
 |zero=>
  intro vs v x h g;cases h with
  |nil=>simp[cRw]
  |step=>simp at g
 |succ r z=>
  intro vs v x h g;by_cases u:vs.length<=r
  .have d:=z h u;have f:=ycg j a r v d.1;exact⟨f.1,by omega⟩
  .cases h with
   |nil=>simp at u
   |step h hs=>have d:=z h (by simpa using g);have f:=y8z j (cRw E a r) _ hs d.1;exact⟨f.1,by simp only[cRw,zkk];omega⟩
def zdf(E:List Swap)(n a:Nat):Nat->Int:=cRw E a n
theorem y0b(E:List Swap)(n a:Nat){v:Nat}(h:0<=zdf E n a v):∃vs,Walk E a vs v (zdf E n a v):=zx3 E a n v h
theorem zra{E:List Swap}{n a:Nat}(d:EOk n E)(j:a<n){vs:List Nat}{v:Nat}{x:Int}(h:Walk E a vs v x):0<=zdf E n a v/\zdf E n a v<=x:=by obtain⟨u,x',f,g,z⟩:=h.short d j;have:=zx2 d a n f (by omega);exact⟨this.1,Int.le_trans this.2 g⟩
theorem y86{E:List Swap}{n a:Nat}(d:EOk n E)(f:a<n){s:Swap}(g:s∈E)(h:0<=zdf E n a s.wanted.toNat):0<=zdf E n a s.given.toNat/\zdf E n a s.given.toNat<=zdf E n a s.wanted.toNat+s.cost:=by obtain⟨vs,j⟩:=y0b E n a h;exact zra d f (.step j g)
theorem y0c{E:List Swap}{n a:Nat}(f:EOk n E)(g:a<n):∀s∈E,z74 (zdf E n a) s=false:=by
 intro s h;cases d:z74 (zdf E n a) s with
 |false=>rfl
 |true=>simp only[z74,w02,w0w,decide_eq_true_eq] at d;have:=y86 f g h d.1;omega
theorem zgu:∀{E:List Swap}{c:Nat->Int},(∀s∈E,z74 c s=false)->E.foldl z9d c=c
 | [],c,_=>rfl
 |s::E,c,h=>by rw[w1y,zgh (h s (by simp))];exact zgu λt d=>h t (w0g _ d)
theorem zx4{E:List Swap}{a r:Nat}(h:∀s∈E,z74 (cRw E a r) s=false):∀k,cRw E a (r+k)=cRw E a r
 |0=>rfl
 |k+1=>by show zkk E (cRw E a (r+k))=_;rw[zx4 h k];exact zgu h
def BdC(B:Int)(c:Nat->Int):Prop:=∀v,-1<=c v/\c v<=B
theorem yf3{n:Nat}{E:List Swap}(d:EOk n E){s:Swap}(g:s∈E){B:Int}{c:Nat->Int}(h:BdC B c):BdC (B+1000000000) (z9d c s):=by
 intro v;have j:=h v;have u:=h s.wanted.toNat;have z:=d s g;unfold z9d;cases f:z74 c s with
 |false=>simp only[cond_false];omega
 |true=>simp only[z74,w02,w0w,decide_eq_true_eq] at f;simp only[cond_true,zn0];split<;>omega
theorem zub{n:Nat}{E:List Swap}(d:EOk n E):∀{F:List Swap},(∀s∈F,s∈E)->∀{B:Int}{c:Nat->Int},BdC B c->BdC (B+1000000000*F.length) (F.foldl z9d c)
 | [],_,B,c,h=>by simpa using h
 |s::F,f,B,c,h=>by have:=zub d (F:=F) (λt g=>f t (w0g _ g)) (yf3 d (f s (by simp)) h);rw[w1y];intro v;have:=this v;simp only[w0o];omega
theorem zx1{n:Nat}{E:List Swap}(d:EOk n E)(f:E.length<=1024)(a:Nat):∀r:Nat,BdC (1024000000000*r) (cRw E a r)
 |0=>by intro v;simp only[cRw];split<;>omega
 |r+1=>by have:=zub d (F:=E) (λs h=>h) (zx1 d f a r);intro v;have:=this v;simp only[cRw,zkk];omega
end Px
end
section
namespace Px
open Go
set_option maxRecDepth 100000
def zew(a:Int)(T:Nat)(c:Nat->Int):List Swap:=(List.range T).filterMap λi=>if 0<=c i then some ⟨a,i,c i⟩ else none
theorem zh4(a:Int)(i:Nat)(c:Nat->Int):zew a (i+1) c=if 0<=c i then zew a i c++[⟨a,i,c i⟩] else zew a i c:=by
 unfold zew;rw[w1n,List.filterMap_append];by_cases h:0<=c i
 .simp[h]
 .simp[h]
theorem zpw(a:Int)(T:Nat)(c:Nat->Int):(zew a T c).length<=T:=by have:=List.length_filterMap_le (λi=>if 0<=c i then some (⟨a,i,c i⟩:Swap) else none) (List.range T);simpa[zew] using this
theorem yg0{n:Nat}(h:n<=100000):fits n 24:=by unfold fits;omega
def z6z(x:z2h)(a:Int):List Swap×Int×Unit:=
 if z0j x≠0 then([],z0j x,()) else if ¬(0<=a/\a<x.types.length) then([],90,()) else
 (zew a x.types.length (zdf x.swaps x.types.length a.toNat),0,())
theorem y2s{x:z2h}(h:z0j x=0):EOk x.types.length x.swaps:=by intro s f;obtain⟨g,j,a3,a4,u,z,d,b4⟩:=z1n h;have:=d s f;simp only[zhq,w02,z4n] at this;omega
def zfn(p:Bool×(Nat->Int))(s:Swap):Bool×(Nat->Int):=(p.1||z74 p.2 s,z9d p.2 s)
theorem zpz:∀(E:List Swap)(p:Bool×(Nat->Int)),(E.foldl zfn p).2=E.foldl z9d p.2
 | [],p=>rfl
 |s::E,p=>by rw[w1y,w1y,zpz E];rfl
theorem zpy:∀(E:List Swap)(p:Bool×(Nat->Int)),(E.foldl zfn p).1=false->p.1=false/\∀s∈E,z74 p.2 s=false
 | [],p,h=>⟨h,by simp⟩
 |s::E,p,h=>by
  rw[w1y] at h;obtain⟨d,f⟩:=zpy E _ h;simp only[zfn,w1l] at d;rw[show (zfn p s).2=p.2 from zgh d.2] at f;refine⟨d.1,λt g=>?_⟩;rcases w05.1 g with e|e
  .rw[e];exact d.2
  .exact f t e
theorem zq0:∀(E:List Swap)(p:Bool×(Nat->Int)),(∀s∈E,z74 p.2 s=false)->(E.foldl zfn p).1=p.1
 | [],p,h=>rfl
 |s::E,p,h=>by
  rw[w1y];have d:=h s (by simp);have e:zfn p s=p:=by obtain⟨b,c⟩:=p;simp only[zfn];rw[zgh d,d,w4b]
  rw[e];exact zq0 E p λt f=>h t (w0g _ f)
theorem zff{α β:Type}[Inhabited α](f:β->α->β)(b:β)(l:List α)(i:Nat)(h:i<l.length):(l.take (i+1)).foldl f b=f ((l.take i).foldl f b) (gt l (i:Int)):=by rw[z03 l i h,w4n];rfl
theorem zp3(φ:Nat)(x:z2h)(a0:Int)(hE:EOk x.types.length x.swaps)(hT:x.types.length<=32)(hl:x.swaps.length<=1024)(k:Int->Bool->z2h->(Nat->Int)->Option (List Swap×Int×Unit))(r:Option (List Swap×Int×Unit)){B:Int}(a4:0<=B)(hB:B<=1000000000000000)(c:Nat->Int)(hc:BdC B c)(d:Nat->Int)(hd:∀j<32,d j=c j)
  (hk:∀d',(∀j<32,d' j=zkk x.swaps c j)->k a0 (x.swaps.foldl zfn (false,c)).1 x d'=r) (n:Nat) (hn:x.swaps.length<n):z3a φ k n a0 false x.swaps (x.swaps.length:Int) 0 x d=r:=by
 refine zu (λn i(t:Bool×(Nat->Int))=>z3a φ k n a0 t.1 x.swaps (x.swaps.length:Int) i x t.2) x.swaps.length
  (λi t=>t.1 =((x.swaps.take i).foldl zfn (false,c)).1/\∀j<32,t.2 j =((x.swaps.take i).foldl zfn (false,c)).2 j) (λo=>o=r) ?_ ?_ n (false,d) ⟨by simp,by simpa using hd⟩ hn
 .intro n i t hi ⟨u,g⟩ hs;have hW:W ((i:Int)+1) =(i:Int)+1:=W_id (by omega) (by omega);have hm:=z80 (l:=x.swaps) (i:=(i:Int)) (by omega) (by omega);have he:=hE _ hm;have a1:BdC (B+1000000000*(x.swaps.take i).length) ((x.swaps.take i).foldl zfn (false,c)).2:=by rw[zpz];exact zub hE (λs hs=>List.mem_of_mem_take hs) hc
  have a3 :(x.swaps.take i).length<=1024:=by rw[w1e];omega
  rw[z3a,if_pos (by simp;omega),z6 ⟨by omega,by omega⟩,z6 ⟨by omega,by omega⟩,z6 ⟨by omega,by omega⟩,z6 (λ_=>⟨by omega,by omega⟩),z6 (λ_=>⟨by omega,by omega⟩)];have f:=zff zfn (false,c) x.swaps i hi;generalize hp :(x.swaps.take i).foldl zfn (false,c)=p at *;have ew:=g (gt x.swaps i).wanted.toNat (by omega);have eg:=g (gt x.swaps i).given.toNat (by omega);have bw:=a1 (gt x.swaps i).wanted.toNat;rw[ew,eg,W_id (x:=p.2 (gt x.swaps i).wanted.toNat+(gt x.swaps i).cost) (by omega) (by omega)];have a2 :(decide (0<=p.2 (gt x.swaps i).wanted.toNat)&&(decide (p.2 (gt x.swaps i).given.toNat<0)||decide (p.2 (gt x.swaps i).wanted.toNat+(gt x.swaps i).cost<p.2 (gt x.swaps i).given.toNat)))=z74 p.2 (gt x.swaps i):=rfl;rw[a2];cases z:z74 p.2 (gt x.swaps i) with
  |true=>
   rw[if_pos rfl,z6 ⟨by omega,by omega⟩,hW];refine hs (true,upd t.2 (gt x.swaps i).given.toNat (p.2 (gt x.swaps i).wanted.toNat+(gt x.swaps i).cost)) ⟨by rw[f];simp[zfn,z],λj h=>?_⟩;rw[f];simp only[zfn,z9d,z,cond_true,zn0];split
   .rfl
   .exact g j h
  |false=>rw[if_neg (by simp),hW];refine hs (t.1,t.2) ⟨by rw[f];simp[zfn,z,u],λj h=>?_⟩;rw[f];simp only[zfn,z9d,z,cond_false];exact g j h
 .intro n t ⟨u,g⟩;rw[w11] at u g;rw[z3a,if_neg (by simp),u];refine hk _ λj h=>?_
  rw[g j h,zpz];rfl
theorem zxw(φ:Nat)(x:z2h)(hT:x.types.length<=32)(hφ:5000<φ)(a:Int)(c d:Nat->Int)(hd:∀j<32,d j=c j):z3b φ φ a (x.types.length:Int) 0 d []=some (zew a x.types.length c,0,()):=by
 refine zu (λn i t=>z3b φ n a (x.types.length:Int) i d t) x.types.length (λi t=>t=zew a i c) (λo=>o=some (zew a x.types.length c,0,())) ?_ ?_ φ _ rfl (by omega)
 .intro n i t hi f z;have g:W ((i:Int)+1) =(i:Int)+1:=W_id (by omega) (by omega);have u:=zpw a i c;rw[z3b,if_pos (by simp;omega),z6 ⟨by omega,by omega⟩,w1i,hd i (by omega)];by_cases h:0<=c i
  .rw[if_pos (by simpa using h),z6 ⟨by omega,by omega⟩,z6 (yg0 (by rw[f];simp;omega)),g];exact z _ (by rw[zh4,if_pos h,f])
  .rw[if_neg (by simpa using h),g];exact z _ (by rw[zh4,if_neg h,f])
 .intro n t f;rw[z3b,if_neg (by simp),f]
theorem y63(φ:Nat)(x:z2h)(h:EOk x.types.length x.swaps)(z:x.types.length<=32)(hl:x.swaps.length<=1024)(a:Nat)(ha:a<x.types.length)(hφ:5000<φ):
  ∀(m n i:Nat),x.types.length-i=m->i<=x.types.length->m+2<=n->∀d,(∀j<32,d j=cRw x.swaps a i j)->z38 φ n (a:Int) true x d=some (zew (a:Int) x.types.length (zdf x.swaps x.types.length a),0,()):=by
 intro m
 induction m with
 |zero=>
  intro n i hm hi hn d hd;obtain⟨n,rfl⟩:∃n',n=n'+2:=⟨n-2,by omega⟩;have hi:i=x.types.length:=by omega
  subst hi;rw[z38,if_pos rfl];have f:=y0c h ha;have hb:=zx1 h hl a x.types.length;refine zp3 φ x a h z hl _ _ (by omega) (by omega) _ hb d hd (λu g=>?_) φ (by omega);rw[zq0 _ _ f,z38,if_neg (by simp)];refine zxw φ x z hφ a _ u λj hj=>?_
  rw[g j hj];show zkk x.swaps (zdf x.swaps x.types.length a) j=_;unfold zkk;rw[zgu f]
 |succ m ih=>
  intro n i hm hi hn d hd;obtain⟨n,rfl⟩:∃n',n=n'+2:=⟨n-2,by omega⟩;rw[z38,if_pos rfl];have hb:=zx1 h hl a i;refine zp3 φ x a h z hl _ _ (by omega) (by omega) _ hb d hd (λu g=>?_) φ (by omega);cases a0 :(x.swaps.foldl zfn (false,cRw x.swaps a i)).1 with
  |true=>exact ih (n+1) (i+1) (by omega) (by omega) (by omega) u g
  |false=>
   rw[z38,if_neg (by simp)];refine zxw φ x z hφ a _ u λj hj=>?_
   have f:=(zpy _ _ a0).2;have h1:=zx4 f (x.types.length-i);rw[show i+(x.types.length-i)=x.types.length by omega] at h1;rw[g j hj];unfold zkk zdf;rw[zgu f,h1]
theorem zrh(φ:Nat)(hφ:5000<φ)(x:z2h)(a:Int):zeo φ x a=some (z6z x a):=by
 unfold zeo z6z;rw[zdh φ hφ,w00];by_cases h:z0j x=0
 .obtain⟨z,a2,a3,a4,b1,b2,b3,b4⟩:=z1n h;rw[if_neg (by simp[h]),if_neg (λe:z0j x≠0=>e h),W_id (by omega) (by omega),z2c,w00];by_cases g:0<=a/\a<x.types.length
  .rw[if_neg (by simp[bet];omega),if_neg (λe:¬(0<=a/\a<(x.types.length:Int))=>e g)];refine zu (λn i t=>z6n φ n a i x t) 32 (λi t=>∀j<i,t j=-1) (λo=>o=some (zew a x.types.length (zdf x.swaps x.types.length a.toNat),0,())) ?_ ?_ φ _ (by intro j d;omega) (by omega)
   .intro n i t a0 f hs;rw[z6n,if_pos (by simp;omega),z6 ⟨by omega,by omega⟩,W_id (by omega) (by omega)];refine hs _ λj d=>?_
    rw[zn0];split
    .rfl
    .rename_i e;rw[w1i] at e;exact f j (by omega)
   .intro n t f;rw[z6n,if_neg (by simp),z6 ⟨by omega,by omega⟩];have ea:a =((a.toNat:Nat):Int):=by omega
    have u:=y63 φ x (y2s h) z a3 a.toNat (by omega) hφ x.types.length φ 0 (by omega) (by omega) (by omega) (upd t a.toNat 0) (λj d=>by
     rw[zn0];simp only[cRw];split
     .rfl
     .exact f j d)
    rw[<- ea] at u;exact u
  .rw[if_pos (by simp[bet];omega),if_pos (show ¬(0<=a/\a<(x.types.length:Int)) from g)]
 .rw[if_pos (by simp[h]),if_pos (show z0j x≠0 from h)]
def zeh(x:z2h)(a b:Int):Int×Int×Unit:=
 if z0j x≠0 then(0,z0j x,()) else if ¬((0<=a/\a<=63)/\0<=b/\b<=63) then(0,1,()) else
 match x.washes.find? (λw=>(w.from_==a)&&(w.to==b)) with|some w=>(w.minutes,0,())|none=>(0,0,())
theorem zrg(φ:Nat)(hφ:5000<φ)(x:z2h)(a b:Int):zbt φ x a b=some (zeh x a b):=by
 unfold zbt zeh;rw[zdh φ hφ,w00];by_cases h:z0j x=0
 .obtain⟨a1,a2,a3,a4,b1,b2,b3,b4⟩:=z1n h;rw[if_neg (by simp[h]),if_neg (λe:z0j x≠0=>e h)];simp only[z2c,w00];by_cases f:0<=a/\a<=63
  .rw[z4n.2 f,gz_t (by simp),w00];by_cases g:0<=b/\b<=63
   .rw[z4n.2 g,if_neg (by simp),if_neg (λe=>e ⟨f,g⟩)];have key:∀(m n i:Nat),x.washes.length-i=m->i<=x.washes.length->m<n->(∀j:Nat,j<i->((gt x.washes (j:Int)).from_==a&&(gt x.washes (j:Int)).to==b)=false)->
      z5r φ n x.washes (x.washes.length:Int) (i:Int) a b x=some (match (x.washes.drop i).find? (λw=>(w.from_==a)&&(w.to==b)) with|some w=>(w.minutes,0,())|none=>(0,0,())):=by
     intro m
     induction m with
     |zero=>intro n i hm hi hn u;obtain⟨n,rfl⟩:∃z,n=z+1:=⟨n-1,by omega⟩;rw[z5r,if_neg (by simp;omega),w2z (by omega)];rfl
     |succ m ih=>
      intro n i hm hi hn u;obtain⟨n,rfl⟩:∃z,n=z+1:=⟨n-1,by omega⟩;have d:i<x.washes.length:=by omega
      have e:x.washes.drop i=gt x.washes (i:Int)::x.washes.drop (i+1):=by rw[z68 d];exact w3n d
      rw[z5r,if_pos (by simp;omega),z6 ⟨by omega,by omega⟩,e,w3w];show (some _).bind _=_;rw[w00];cases hc :((gt x.washes (i:Int)).from_==a&&(gt x.washes (i:Int)).to==b) with
      |true=>rw[if_pos rfl,if_neg (by simp),z6 ⟨by omega,by omega⟩]
      |false=>
       rw[if_neg (by simp),W_id (by omega) (by omega),show (i:Int)+1 =((i+1:Nat):Int) by omega];exact ih n (i+1) (by omega) (by omega) (by omega) λj a0=>by
        by_cases e:j=i
        .rw[e];exact hc
        .exact u j (by omega)
    have:=key x.washes.length φ 0 (by omega) (by omega) (by omega) (λj u=>by omega);rw[w3p] at this;exact this
   .have e:bet b 0 63=false:=by rw[<- w1k,z4n];exact g
    rw[e,if_pos (by simp),if_pos (λh=>g h.2)]
  .have e:bet a 0 63=false:=by rw[<- w1k,z4n];exact f
   rw[e,gz_f (by simp),w00,if_pos (by simp),if_pos (λh=>f h.1)]
 .rw[if_pos (by simp[h]),if_pos (show z0j x≠0 from h)]
theorem ztp(x:z2h)(a b:Int):0<=(zeh x a b).1/\(zeh x a b).1<=100000:=by
 unfold zeh;split
 .simp
 .rename_i h;split
  .simp
  .cases g:x.washes.find? (λw=>(w.from_==a)&&(w.to==b)) with
   |none=>simp
   |some w=>have u:=List.mem_of_find?_eq_some g;obtain⟨z,a2,a3,a4,b1,b2,b3,d⟩:=z1n (w4o.1 h);obtain⟨j,f,e⟩:=w3d u;simp only[z6h,w0a,w1d] at d;have:=d j f;simp only[z4m,zsz,w02,z4n] at this;rw[z68 f,e] at this;exact⟨this.1.2.1,this.1.2.2⟩
theorem y3v(x:z2h)(a:Int):∀s∈(z6z x a).1,0<=s.cost/\s.cost<=100000000000000:=by
 unfold z6z;split
 .simp
 .rename_i h;split
  .simp
  .intro s f;simp only[zew,w57,w1d] at f;obtain⟨i,hi,e⟩:=f;obtain⟨g,j,a3,a4,u,z,b3,b4⟩:=z1n (w4o.1 h);have hb:=zx1 (y2s (w4o.1 h)) a3 a.toNat x.types.length i;split at e
   .rename_i d;cases e;unfold zdf at d⊢;exact⟨d,by simp only;omega⟩
   .cases e
end Px
end
section
namespace Px
open Go
def zn3(φ:Nat):Prop:=∀(x:zk)(a b:Int),∃t e,z09 φ x a b=some (t,e,())/\0<=t/\t<=51200000
def betF(φ:Nat)(x:zk)(a b:Int):Int×Int:=match z09 φ x a b with|some (t,e,_)=>(t,e)|none=>(0,0)
theorem zn3.eq{φ:Nat}(h:zn3 φ)(x:zk)(a b:Int):z09 φ x a b=some ((betF φ x a b).1,(betF φ x a b).2,())/\0<=(betF φ x a b).1/\(betF φ x a b).1<=51200000:=by obtain⟨t,e,d,f,g⟩:=h x a b;unfold betF;rw[d];exact⟨rfl,f,g⟩
def bitF(p:Pool)(s:za)(o:zp):Bool:=(U ((BitVec.ofInt 64 (((gt p.fleet.types s.type_).classes:Int).fdiv (2 ^ (min (o.class_:Int).toNat 64)))&&& BitVec.ofInt 64 1).toNat):Int)==0
def minF(φ:Nat)(p:Pool)(s:za)(o:zp):Int:=(betF φ p.network s.place o.place).1+if 0<=s.class_ then(zeh p.fleet s.class_ o.class_).1 else 0
def zzl(φ:Nat)(p:Pool)(s:za)(o:zp):Int×Bool:=
 bif ((betF φ p.network s.place o.place).2 !=0)||bitF p s o then(0,false) else
 match (z6z p.fleet o.type_).1.find? (λg=>g.given==s.type_) with
 |none=>(0,false)
 |some g=>bif decide (o.to<s.at_+minF φ p s o)||decide (1000000000<minF φ p s o+g.cost) then(0,false) else(minF φ p s o+g.cost,true)
theorem yip{φ:Nat}(h:zn3 φ)(p:Pool)(s:za)(o:zp):(betF φ p.network s.place o.place).1<=minF φ p s o/\0<=minF φ p s o/\minF φ p s o<=60000000:=by obtain⟨_,d,f⟩:=h.eq p.network s.place o.place;have g:=ztp p.fleet s.class_ o.class_;unfold minF;split<;>omega
theorem y7a{φ:Nat}(p:Pool)(s:za)(o:zp)(m:Int)(l:List Swap)(hl:l.length<=1000)(z:0<=m/\m<=60000000)(ha:0<=s.at_/\s.at_<=1073741824)(hb:∀g∈l,0<=g.cost/\g.cost<=100000000000000):
  ∀(d n i:Nat),l.length-i=d->i<=l.length->d<n->z41 φ n l (l.length:Int) (i:Int) m l s o=some (match (l.drop i).find? (λg=>g.given==s.type_) with
   |none=>(0,false,())
   |some g=>bif decide (o.to<s.at_+m)||decide (1000000000<m+g.cost) then(0,false,()) else(m+g.cost,true,())):=by
 have h:W (s.at_+m)=s.at_+m:=W_id (by omega) (by omega);intro d
 induction d with
 |zero=>intro n i z hi hn;obtain⟨n,rfl⟩:∃u,n=u+1:=⟨n-1,by omega⟩;rw[z41,if_neg (by simp;omega),w2z (by omega),z6 (by simp),if_pos (by simp)];rfl
 |succ d ih=>
  intro n i z hi hn;obtain⟨n,rfl⟩:∃u,n=u+1:=⟨n-1,by omega⟩;have f:i<l.length:=by omega
  have e:l.drop i=gt l (i:Int)::l.drop (i+1):=by rw[z68 f];exact w3n f
  have hg:=hb (gt l (i:Int)) (z80 (by omega) (by omega));rw[z41,if_pos (by simp;omega),z6 ⟨by omega,by omega⟩,e,w3w];show (some _).bind _=_;rw[w00];simp only;cases hc :((gt l (i:Int)).given==s.type_) with
  |true=>
   have j:W (m+(gt l (i:Int)).cost)=m+(gt l (i:Int)).cost:=W_id (by omega) (by omega);rw[if_pos rfl,z6 (λ_=>⟨by omega,by omega⟩),h,j,z6 ⟨by omega,by omega⟩];simp only;have e0:decide ((i:Int)<0)=false:=by simp
   rw[e0,w2c];cases (decide (o.to<s.at_+m)||decide (1000000000<m+(gt l (i:Int)).cost))<;>rfl
  |false=>rw[if_neg (by simp),W_id (by omega) (by omega),show (i:Int)+1 =((i+1:Nat):Int) by omega];exact ih n (i+1) (by omega) (by omega) (by omega)
theorem zjk(x:z2h)(a:Int):(z6z x a).1.length<=1000:=by
 unfold z6z;split
 .simp
 .rename_i h;obtain⟨d,_⟩:=z1n (w4o.1 h);split
  .simp
  .have:=zpw a x.types.length (zdf x.swaps x.types.length a.toNat)
   simp only;omega
theorem y5j{φ:Nat}(hφ:5000<φ)(h:zn3 φ)(p:Pool)(s:za)(o:zp)(ht:0<=s.type_/\s.type_<(p.fleet.types.length:Int))(ho:0<=o.class_)(z:0<=s.at_/\s.at_<=1073741824):
  z1s φ p s o=some ((zzl φ p s o).1,(zzl φ p s o).2,()):=by
 obtain⟨u,h2,h3⟩:=h.eq p.network s.place o.place;have j:=yip h p s o;have a0:=ztp p.fleet s.class_ o.class_;have j9:z2b φ (minF φ p s o) p s o=some (match (z6z p.fleet o.type_).1.find? (λg=>g.given==s.type_) with
   |none=>(0,false,())
   |some g=>bif decide (o.to<s.at_+minF φ p s o)||decide (1000000000<minF φ p s o+g.cost) then(0,false,()) else(minF φ p s o+g.cost,true,())):=by
  unfold z2b;rw[zrh φ hφ,w00];have:=y7a (φ:=φ) p s o (minF φ p s o) (z6z p.fleet o.type_).1 (zjk _ _) ⟨j.2.1,j.2.2⟩ z (y3v _ _) _ φ 0 rfl (by omega) (by have:=zjk p.fleet o.type_;omega);rw[w3p] at this;exact this
 unfold z1s zzl;rw[u,w00,z6 (λ_=>ht),z6 (λ_=>ho)];simp only;show (if(((betF φ p.network s.place o.place).2 !=0)||bitF p s o)=true then _ else _)=_;cases hc :(((betF φ p.network s.place o.place).2 !=0)||bitF p s o) with
 |true=>rfl
 |false=>
  rw[if_neg (by simp),cond_false];have hj :(if(decide ((0:Int)<=s.class_))=true then((zbt φ p.fleet s.class_ o.class_).bind λf=>(z2b φ (W ((betF φ p.network s.place o.place).1+f.1)) p s o)) else(z2b φ (betF φ p.network s.place o.place).1 p s o))=z2b φ (minF φ p s o) p s o:=by
   unfold minF;by_cases d:0<=s.class_
   .rw[if_pos (by simpa using d),zrg φ hφ,w00,if_pos d,W_id (by omega) (by omega)]
   .rw[if_neg (by simpa using d),if_neg d,Int.add_zero]
  rw[hj,j9];cases (z6z p.fleet o.type_).1.find? (λg=>g.given==s.type_) with
  |none=>rfl
  |some g=>simp only;cases (decide (o.to<s.at_+minF φ p s o)||decide (1000000000<minF φ p s o+g.cost))<;>rfl
theorem zju{p:Pool}(f:p.fleet.types.length<=32/\p.network.places.length<=512){s:za}(h:okSu p s=true):(0<=s.type_/\s.type_<(p.fleet.types.length:Int))/\(0<=s.at_/\s.at_<=1073741824)/\1<=s.count/\s.count<=4096:=by unfold okSu at h;rw[W_id (x:=(p.fleet.types.length:Int)-1) (by omega) (by omega),W_id (x:=(p.network.places.length:Int)-1) (by omega) (by omega)] at h;simp only[w02,z4n] at h;obtain⟨⟨⟨⟨a,b⟩,c⟩,d⟩,e⟩:=h;exact⟨⟨a.1,by omega⟩,d,e.1,e.2⟩
theorem zh3{p:Pool}(j:p.fleet.types.length<=32/\p.network.places.length<=512){o:zp}(h:okOr p o=true):0<=o.class_/\(1<=o.count/\o.count<=1000)/\0<=o.weight/\o.weight<=1000000000:=by unfold okOr at h;simp only[w02,z4n] at h;obtain⟨⟨⟨⟨⟨⟨a,b⟩,c⟩,d⟩,e⟩,f⟩,g⟩:=h;exact⟨b.1,f,g⟩
theorem zh5{p:Pool}(h:z1j p=0):p.fleet.types.length<=32/\p.network.places.length<=512:=by obtain⟨d,f,_⟩:=zgq h;exact⟨(z1n f).1,(zdx d).1⟩
end Px
end
section
namespace Px
open Go
set_option maxRecDepth 100000
def LAgW(T:Nat)(l:List Int)(c:Nat->Int):Prop:=l.length=T/\∀j:Nat,j<T->gt l (j:Int)=c j
theorem LAgW.at{T:Nat}{l:List Int}{c:Nat->Int}(h:LAgW T l c){i:Int}(d:0<=i)(f:i<T):gt l i=c i.toNat:=by
 have:=h.2 i.toNat (by omega)
 rwa [show ((i.toNat:Nat):Int)=i by omega] at this
theorem LAgW.set{T:Nat}{l:List Int}{c:Nat->Int}(h:LAgW T l c){i:Int}(d:0<=i)(g:i<T)(x:Int):LAgW T (zo l i x) (upd c i.toNat x):=by
 refine⟨by rw[z11,h.1],λj f=>?_⟩;rw[z0b _ _ _ _ d (by rw[h.1];omega) (by omega),zn0,h.2 j f];by_cases e :(j:Int)=i
 .rw[if_pos e,if_pos (by omega)]
 .rw[if_neg e,if_neg (by omega)]
theorem y6v(φ:Nat)(x:z2h)(a0 u:Int)(hE:EOk x.types.length x.swaps)(hl:x.swaps.length<=1024)(k:Int->Int->z2h->List Int->Option (List Swap×Int×Unit))(r:Option (List Swap×Int×Unit)){B:Int}(a3:0<=B)(hB:B<=1000000000000000)(c:Nat->Int)(hc:BdC B c)(d:List Int)(hd:LAgW x.types.length d c)
  (hk:∀d',LAgW x.types.length d' (zkk x.swaps c)->k a0 (W (u+1)) x d'=r) (n:Nat) (hn:x.swaps.length<n):z1z φ k n a0 u 0 x d=r:=by
 refine zu (λn i t=>z1z φ k n a0 u i x t) x.swaps.length (λi t=>LAgW x.types.length t ((x.swaps.take i).foldl z9d c)) (λo=>o=r) ?_ ?_ n d (by simpa using hd) hn
 .intro n i t hi g j;have hW:W ((i:Int)+1) =(i:Int)+1:=W_id (by omega) (by omega);have hm:=z80 (l:=x.swaps) (i:=(i:Int)) (by omega) (by omega);have h:=hE _ hm;have z:BdC (B+1000000000*(x.swaps.take i).length) ((x.swaps.take i).foldl z9d c):=zub hE (λs j=>List.mem_of_mem_take j) hc;have a2 :(x.swaps.take i).length<=1024:=by rw[w1e];omega
  have f:=zff z9d c x.swaps i hi;rw[z1z,if_pos (by simp;omega),z6 ⟨by omega,by omega⟩,z6 ⟨by omega,by rw[g.1];omega⟩];generalize hp :(x.swaps.take i).foldl z9d c=p at *;have ew:=g.at h.1 h.2.1;have eg:=g.at h.2.2.1 h.2.2.2.1;have bw:=z (gt x.swaps i).wanted.toNat;rw[ew,eg,hW];by_cases h0:p (gt x.swaps i).wanted.toNat<0
  .rw[if_pos (by simpa using h0)];refine j _ ?_;rw[f,zgh (by simp[z74];omega)];exact g
  .rw[if_neg (by simpa using h0),z6 ⟨by omega,by rw[g.1];omega⟩,z6 ⟨by omega,by rw[g.1];omega⟩,z6 (λ_=>⟨by omega,by rw[g.1];omega⟩),W_id (x:=p (gt x.swaps i).wanted.toNat+(gt x.swaps i).cost) (by omega) (by omega)];have a1 :(decide (p (gt x.swaps i).given.toNat<0)||decide (p (gt x.swaps i).wanted.toNat+(gt x.swaps i).cost<p (gt x.swaps i).given.toNat))=z74 p (gt x.swaps i):=by unfold z74;rw[decide_eq_true (by omega:0<=p (gt x.swaps i).wanted.toNat),w25]
   rw[a1];cases hb:z74 p (gt x.swaps i) with
   |true=>rw[if_pos rfl,z6 ⟨by omega,by rw[g.1];omega⟩];refine j _ ?_;rw[f];unfold z9d;rw[hb];exact g.set h.2.2.1 h.2.2.2.1 _
   |false=>rw[if_neg (by simp)];refine j _ ?_;rw[f,zgh hb];exact g
 .intro n t g;rw[w11] at g;rw[z1z,if_neg (by simp)];exact hk _ g
theorem yf1(φ:Nat)(T:Nat)(hT:T<=32)(hφ:5000<φ)(a:Int)(c:Nat->Int)(d:List Int)(f:LAgW T d c):z3d φ φ a 0 d []=some (zew a T c,0,()):=by
 refine zu (λn i t=>z3d φ n a i d t) T (λi t=>t=zew a i c) (λo=>o=some (zew a T c,0,())) ?_ ?_ φ _ rfl (by omega)
 .intro n i t hi g u;have z:W ((i:Int)+1) =(i:Int)+1:=W_id (by omega) (by omega);have j:=zpw a i c;rw[z3d,if_pos (by rw[f.1];simp;omega),z6 ⟨by omega,by rw[f.1];omega⟩,f.2 i hi,z];by_cases h:0<=c i
  .rw[if_pos (by simpa using h),z6 ⟨by omega,by rw[f.1];omega⟩,z6 (yg0 (by rw[g];simp;omega))];exact u _ (by rw[zh4,if_pos h,g])
  .rw[if_neg (by simpa using h)];exact u _ (by rw[zh4,if_neg h,g])
 .intro n t g;rw[z3d,if_neg (by rw[f.1];simp),g]
theorem zru(φ:Nat)(hφ:5000<φ)(x:z2h)(a:Int):zf2 φ x a=some (z6z x a):=by
 unfold zf2 z6z;rw[zdt φ hφ,w00];by_cases h:z0j x=0
 .obtain⟨a1,a2,a3,a4,b1,b2,b3,b4⟩:=z1n h;rw[if_neg (by simp[h]),if_neg (λe:z0j x≠0=>e h),W_id (by omega) (by omega),z3e,w00];by_cases hi:0<=a/\a<x.types.length
  .rw[if_neg (by simp[bet];omega),if_neg (λe:¬(0<=a/\a<(x.types.length:Int))=>e hi),z6 (mk_t _ _ (by omega) (by omega) (by omega)),show ((x.types.length:Int)).toNat=x.types.length by omega];refine zu (λn i t=>z6t φ n a i x t) x.types.length (λi t=>t.length=x.types.length/\∀j:Nat,j<i->gt t (j:Int)=-1) (λo=>o=some (zew a x.types.length (zdf x.swaps x.types.length a.toNat),0,())) ?_ ?_ φ _ ⟨by simp,by intro j z;omega⟩ (by omega)
   .intro n i t u ⟨d,f⟩ hs;rw[z6t,if_pos (by rw[d];simp;omega),z6 ⟨by omega,by rw[d];omega⟩,W_id (by omega) (by omega)];refine hs _ ⟨by rw[z11,d],λj z=>?_⟩;rw[z0b _ _ _ _ (by omega) (by rw[d];omega) (by omega)];split
    .rfl
    .rename_i e;exact f j (by omega)
   .intro n t ⟨d,f⟩;rw[z6t,if_neg (by rw[d];simp),z6 ⟨by omega,by rw[d];omega⟩];have a0:LAgW x.types.length (zo t a 0) (cRw x.swaps a.toNat 0):=by
     refine⟨by rw[z11,d],λj z=>?_⟩;rw[z0b _ _ _ _ (by omega) (by rw[d];omega) (by omega),f j z];simp only[cRw];by_cases e :(j:Int)=a
     .rw[if_pos e,if_pos (by omega)]
     .rw[if_neg e,if_neg (by omega)]
    refine zu (λn i t=>z60 φ n a i x t) x.types.length (λi t=>LAgW x.types.length t (cRw x.swaps a.toNat i)) (λo=>o=some (zew a x.types.length (zdf x.swaps x.types.length a.toNat),0,())) ?_ ?_ φ _ a0 (by omega)
    .intro n i t u f hs;have hb:=zx1 (y2s h) a3 a.toNat i;rw[z60,if_pos (by simp;omega)];refine y6v φ x a i (y2s h) a3 _ _ (by omega) (by omega) _ hb t f (λd' g=>?_) φ (by omega);rw[W_id (by omega) (by omega)];exact hs d' g
    .intro n t f;rw[z60,if_neg (by simp)];exact yf1 φ _ a1 hφ a _ t f
  .rw[if_pos (by simp[bet];omega),if_pos (show ¬(0<=a/\a<(x.types.length:Int)) from hi)]
 .rw[if_pos (by simp[h]),if_pos (show z0j x≠0 from h)]
theorem zrt(φ:Nat)(hφ:5000<φ)(x:z2h)(a b:Int):zcp φ x a b=some (zeh x a b):=by
 unfold zcp zeh;rw[zdt φ hφ,w00];by_cases h:z0j x=0
 .obtain⟨a1,a2,a3,a4,b1,b2,b3,b4⟩:=z1n h;rw[if_neg (by simp[h]),if_neg (λe:z0j x≠0=>e h)];simp only[z3e,w00];by_cases f:0<=a/\a<=63
  .rw[z4n.2 f,gz_t (by simp),w00];by_cases g:0<=b/\b<=63
   .rw[z4n.2 g,if_neg (by simp),if_neg (λe=>e ⟨f,g⟩)];have key:∀(m n i:Nat),x.washes.length-i=m->i<=x.washes.length->m<n->
      z5z φ n a b (i:Int) x=some (match (x.washes.drop i).find? (λw=>(w.from_==a)&&(w.to==b)) with|some w=>(w.minutes,0,())|none=>(0,0,())):=by
     intro m
     induction m with
     |zero=>intro n i z u hn;obtain⟨n,rfl⟩:∃j,n=j+1:=⟨n-1,by omega⟩;rw[z5z,if_neg (by simp;omega),w2z (by omega)];rfl
     |succ m ih=>
      intro n i z u hn;obtain⟨n,rfl⟩:∃j,n=j+1:=⟨n-1,by omega⟩;have d:i<x.washes.length:=by omega
      have e:x.washes.drop i=gt x.washes (i:Int)::x.washes.drop (i+1):=by rw[z68 d];exact w3n d
      rw[z5z,if_pos (by simp;omega),z6 ⟨by omega,by omega⟩,z6 (λ_=>⟨by omega,by omega⟩),e,w3w];cases hc :((gt x.washes (i:Int)).from_==a&&(gt x.washes (i:Int)).to==b) with
      |true=>rw[if_pos rfl,z6 ⟨by omega,by omega⟩]
      |false=>rw[if_neg (by simp),W_id (by omega) (by omega),show (i:Int)+1 =((i+1:Nat):Int) by omega];exact ih n (i+1) (by omega) (by omega) (by omega)
    have:=key x.washes.length φ 0 (by omega) (by omega) (by omega);rw[w3p] at this;exact this
   .have e:bet b 0 63=false:=by rw[<- w1k,z4n];exact g
    rw[e,if_pos (by simp),if_pos (λh=>g h.2)]
  .have e:bet a 0 63=false:=by rw[<- w1k,z4n];exact f
   rw[e,gz_f (by simp),w00,if_pos (by simp),if_pos (λh=>f h.1)]
 .rw[if_pos (by simp[h]),if_pos (show z0j x≠0 from h)]
theorem zgg(φ:Nat)(p:Pool)(s:za):zdb φ p s=some (okSu p s,()):=z9m φ p s
theorem zhv(φ:Nat)(p:Pool)(o:zp):zf6 φ p o=some (okOr p o,()):=zan φ p o
theorem ygz(v:Int):U ((BitVec.ofInt 64 v&&& BitVec.ofInt 64 1).toNat)=v % 2:=by
 have g :(BitVec.ofInt 64 v&&& BitVec.ofInt 64 1).toNat =(v % 2).toNat:=by
  rw[w5p];have d :(BitVec.ofInt 64 1).toNat=1:=rfl;have f :(BitVec.ofInt 64 v).toNat =(v % 18446744073709551616).toNat:=by rw[BitVec.toNat_ofInt];rfl
  rw[d,f,Nat.and_one_is_mod];omega
 rw[g,y5s];omega
theorem ynl(v:Int):((v.tmod 2:Int)==0) =((v % 2:Int)==0):=by rw[w0t,beq_iff_eq,beq_iff_eq];exact(Int.dvd_iff_tmod_eq_zero (a:=2) (b:=v)).symm.trans (Int.dvd_iff_emod_eq_zero (a:=2) (b:=v))
theorem y64(x:z2h)(a:Int):(z6z x a).1.Pairwise (λg h=>g.given≠h.given):=by
 unfold z6z;split
 .exact List.Pairwise.nil
 .split
  .exact List.Pairwise.nil
  .unfold zew;simp only;rw[List.pairwise_filterMap];refine List.Pairwise.imp ?_ (List.pairwise_lt_range (n:=x.types.length));intro i j u b f z d;split at f
   .split at d
    .cases f;cases d;show (i:Int)≠(j:Int);omega
    .cases d
   .cases f
theorem znk{φ:Nat}(p:Pool)(s:za)(o:zp)(t c:Int)(l:List Swap)(hl:l.length<=1000)(hm:0<=t/\0<=c/\t+c<=60000000)(ha:0<=s.at_/\s.at_<=1073741824)(hb:∀g∈l,0<=g.cost/\g.cost<=100000000000000):
  ∀(d n i:Nat),l.length-i=d->i<=l.length->d<n->(l.drop i).Pairwise (λg h=>g.given≠h.given)->z4g φ n t c l (i:Int) s o=some (match (l.drop i).find? (λg=>g.given==s.type_) with
   |none=>(0,false,())
   |some g=>bif decide (o.to<s.at_+(t+c))||decide (1000000000<t+c+g.cost) then(0,false,()) else(t+c+g.cost,true,())):=by
 intro d
 induction d with
 |zero=>intro n i hm hi hn _;obtain⟨n,rfl⟩:∃n',n=n'+1:=⟨n-1,by omega⟩;rw[z4g,if_neg (by simp;omega),w2z (by omega)];rfl
 |succ d ih=>
  intro n i a3 hi hn a1;obtain⟨n,rfl⟩:∃n',n=n'+1:=⟨n-1,by omega⟩;have a0:i<l.length:=by omega
  have e:l.drop i=gt l (i:Int)::l.drop (i+1):=by rw[z68 a0];exact w3n a0
  rw[e] at a1;have f:=w13.1 a1;have hg:=hb (gt l (i:Int)) (z80 (by omega) (by omega));rw[z4g,if_pos (by simp;omega),z6 ⟨by omega,by omega⟩,e,w3w];have j:=ih n (i+1) (by omega) (by omega) (by omega) f.2;have z:W ((i:Int)+1) =((i+1:Nat):Int):=by rw[W_id (by omega) (by omega)];omega
  cases hc :((gt l (i:Int)).given==s.type_) with
  |true=>
   rw[if_pos rfl,z6 ⟨by omega,by omega⟩,W_id (x:=s.at_+t) (by omega) (by omega),W_id (x:=s.at_+t+c) (by omega) (by omega),W_id (x:=t+c) (by omega) (by omega),W_id (x:=t+c+(gt l (i:Int)).cost) (by omega) (by omega),z];simp only;by_cases g:o.to<s.at_+(t+c)\/1000000000<t+c+(gt l (i:Int)).cost
   .have e1 :(decide (o.to<s.at_+(t+c))||decide (1000000000<t+c+(gt l (i:Int)).cost))=true:=by rw[w0w,decide_eq_true_eq,decide_eq_true_eq];exact g
    rw[e1,if_neg (by rw[w02,decide_eq_true_eq,decide_eq_true_eq];omega),j];have u :(l.drop (i+1)).find? (λg=>g.given==s.type_)=none:=by rw[w59];intro q hq a2;have:=f.1 q hq;rw[beq_iff_eq] at hc a2;exact this (hc.trans a2.symm)
    rw[u];rfl
   .have e1 :(decide (o.to<s.at_+(t+c))||decide (1000000000<t+c+(gt l (i:Int)).cost))=false:=by rw[<- w1k,w0w,decide_eq_true_eq,decide_eq_true_eq];exact g
    rw[e1,if_pos (by rw[w02,decide_eq_true_eq,decide_eq_true_eq];omega)];rfl
  |false=>rw[if_neg (by simp),z,j]
theorem zhw{φ:Nat}(hφ:5000<φ)(hB:zn3 φ)(hR:∀x a b,z3s φ x a b=z09 φ x a b)(p:Pool)(s:za)(o:zp)(ht:0<=s.type_/\s.type_<(p.fleet.types.length:Int))(ho:0<=o.class_)(ha:0<=s.at_/\s.at_<=1073741824):
  z8h φ p s o=some ((zzl φ p s o).1,(zzl φ p s o).2,()):=by
 obtain⟨h1,h2,h3⟩:=hB.eq p.network s.place o.place;have a0:=ztp p.fleet s.class_ o.class_;have f:∀c:Int,(c=if 0<=s.class_ then(zeh p.fleet s.class_ o.class_).1 else 0)->z4h φ (betF φ p.network s.place o.place).1 c p s o=some (match (z6z p.fleet o.type_).1.find? (λg=>g.given==s.type_) with
   |none=>(0,false,())
   |some g=>bif decide (o.to<s.at_+minF φ p s o)||decide (1000000000<minF φ p s o+g.cost) then(0,false,()) else(minF φ p s o+g.cost,true,())):=λc j=>by
  unfold z4h;rw[zru φ hφ,w00];have u:0<=c/\c<=100000:=by rw[j];split<;>omega
  have:=znk (φ:=φ) p s o (betF φ p.network s.place o.place).1 c (z6z p.fleet o.type_).1 (zjk _ _) ⟨h2,u.1,by omega⟩ ha (y3v _ _) _ φ 0 rfl (by omega) (by have:=zjk p.fleet o.type_;omega) (by rw[w3p];exact y64 _ _);rw[w3p] at this;have em :(betF φ p.network s.place o.place).1+c=minF φ p s o:=by unfold minF;rw[j]
  rw[em] at this;exact this
 unfold z8h zzl;rw[hR,h1,w00,z6 (λ_=>ht),z6 (λ_=>ho),if_pos (by decide)];simp only;have d :(((((gt p.fleet.types s.type_).classes:Int).fdiv (2 ^ (min (o.class_:Int).toNat 64))):Int).tmod 2==0)=bitF p s o:=by unfold bitF;rw[ygz,ynl]
 rw[d];cases j :(((betF φ p.network s.place o.place).2 !=0)||bitF p s o) with
 |true=>rfl
 |false=>
  rw[if_neg (by simp),cond_false];have hj :(if(decide ((0:Int)<=s.class_))=true then((zcp φ p.fleet s.class_ o.class_).bind λz=>(z4h φ (betF φ p.network s.place o.place).1 z.1 p s o)) else(z4h φ (betF φ p.network s.place o.place).1 0 p s o))=some (match (z6z p.fleet o.type_).1.find? (λg=>g.given==s.type_) with
   |none=>(0,false,())
   |some g=>bif decide (o.to<s.at_+minF φ p s o)||decide (1000000000<minF φ p s o+g.cost) then(0,false,()) else(minF φ p s o+g.cost,true,())):=by
   by_cases h:0<=s.class_
   .rw[if_pos (by simpa using h),zrt φ hφ,w00,f _ (by rw[if_pos h])]
   .rw[if_neg (by simpa using h),f _ (by rw[if_neg h])]
  rw[hj];cases (z6z p.fleet o.type_).1.find? (λg=>g.given==s.type_) with
  |none=>rfl
  |some g=>simp only;cases (decide (o.to<s.at_+minF φ p s o)||decide (1000000000<minF φ p s o+g.cost))<;>rfl
end Px
end
section
namespace Px
open Go
def cF(φ:Nat)(p:Pool)(s:List za)(o:List zp)(i k:Nat):Int:=(zzl φ p (gt s (i:Int)) (gt o (k:Int))).1
def bF(φ:Nat)(p:Pool)(s:List za)(o:List zp)(i k:Nat):Bool:=(zzl φ p (gt s (i:Int)) (gt o (k:Int))).2
def netF(φ:Nat)(p:Pool)(s:List za)(o:List zp):zq:=netN s o (cF φ p s o) (bF φ p s o)
def yab(p:Pool)(s:List za)(o:List zp):Bool:=s.all (okSu p)&&o.all (okOr p)
theorem zwr(s:List za)(o:List zp)(c:Nat->Nat->Int)(b:Nat->Nat->Bool)(f:s.length<=6)(d:o.length<=6):(y7v s o c b).length<=49:=by unfold y7v ygj;have:=zgp (s:=s) (o:=o) (c:=c) (b:=b) d s.length;simp only[w0h,w0q,List.length_range,w0o,w2h];omega
theorem y5p{φ:Nat}(hφ:800000<φ)(hB:zn3 φ){p:Pool}(hp:z1j p=0){s:List za}{o:List zp}(hs:s.length<=6)(ho:o.length<=6)(a7:s.all (okSu p)=true)(m:Nat)(hm:o.length<m)(hS:0<=sumS s s.length/\sumS s s.length<=100000):
  z1o φ m s o (sumS s s.length) 0 o (o.length:Int) 0 p (s.map (·.count)) []=some (bif o.all (okOr p) then(netF φ p s o,0,()) else(⟨[],[]⟩,1,())):=by
 have d:=zh5 hp;have:=zjq (λm i(st:Int×List Int)=>z1o φ m s o (sumS s s.length) st.1 o (o.length:Int) i p st.2 []) (λst=>some (netF φ p s o,0,())) (some (⟨[],[]⟩,1,())) o (okOr p)
  (λst y=>(st.1+y.count,st.2++[- y.count])) (λi st=>(i=o.length->o.all (okOr p)=true)/\st.1=sumC o i/\0<=st.1/\st.1<=1000*(i:Int)/\st.2=s.map (·.count)++(o.take i).map (λy=>- y.count)/\∀j:Nat,j<i->okOr p (gt o (j:Int))=true) ?_ ?_ m (0,s.map (·.count)) ⟨λh=>by have:o = []:=w14 h.symm;rw[this];rfl,rfl,by simp,by simp,by simp,λj hj=>by omega⟩ hm
 .rw[this.1];cases o.all (okOr p)<;>rfl
 .rintro m i ⟨c,l⟩ hi ⟨_,h1,h2,h3,f,h5⟩;simp only at h1 h2 h3 f h5;have hW:W ((i:Int)+1) =(i:Int)+1:=W_id (by omega) (by omega);have a4:l.length<=12:=by rw[f];simp only[w0h,w0q,w1e];omega
  show z1o φ (m+1) s o (sumS s s.length) c o (o.length:Int) (i:Int) p l []=_/\_;rw[z1o,if_pos (by simp;omega),z6 ⟨by omega,by omega⟩,zan,w00,hW];cases a5:okOr p (gt o (i:Int)) with
  |false=>exact⟨by simp,λh=>by cases h⟩
  |true=>
   obtain⟨b1,b2,b3⟩:=zh3 d a5;have u:W (0-(gt o (i:Int)).count)=-(gt o (i:Int)).count:=by rw[w5q];exact W_id (by omega) (by omega)
   have z:W (c+(gt o (i:Int)).count)=c+(gt o (i:Int)).count:=W_id (by omega) (by omega);have g:∀j:Nat,j<i+1->okOr p (gt o (j:Int))=true:=λj hj=>by
    by_cases e:j=i
    .rw[e];exact a5
    .exact h5 j (by omega)
   rw[if_neg (by simp),z6 (by simp[fits];omega),u,z];refine⟨rfl,λ_=>⟨λh=>?_,by rw[h1];rfl,by omega,by push_cast;omega,?_,g⟩⟩
   .rw[w0a];intro x hx;obtain⟨j,hj,e⟩:=w3d hx;rw[<- e,<- z68 hj];exact g j (by omega)
   .rw[f,z03 o i hi,w1g,<- w0m];rfl
 .rintro m ⟨c,l⟩ ⟨h0,h1,h2,h3,f,h5⟩;simp only at h1 h2 h3 f h5;rw[w11] at f;have a4:l.length<=12:=by rw[f];simp only[w0h,w0q];omega
  have u:W (0-sumS s s.length)=- sumS s s.length:=by rw[w5q];exact W_id (by omega) (by omega)
  have z:W ((s.length:Int)+(o.length:Int))=nodU s o:=W_id (by omega) (by omega);show z1o φ (m+1) s o (sumS s s.length) c o (o.length:Int) (o.length:Int) p l []=_;rw[z1o,if_neg (by simp),z6 (by simp[fits];omega),if_neg (by simp only[w0h,w0o,w2h,decide_eq_true_eq];omega),u,z];have hu:0<=nodU s o/\nodU s o<=1000:=by unfold nodU;omega
  have a0:∀k:Nat,k<o.length->0<=(gt o (k:Int)).count/\(gt o (k:Int)).count<=1000000:=λk hk=>by obtain⟨b1,b2,b3⟩:=zh3 d (h5 k hk);omega
  have a6 :((List.range s.length).flatMap (arcR s o (cF φ p s o) (bF φ p s o))).length<=500:=by have:=zgp (s:=s) (o:=o) (c:=cF φ p s o) (b:=bF φ p s o) ho s.length;omega
  rw[y9y φ (nodU s o) 0 p s o _ (cF φ p s o) (bF φ p s o) (λi k hi hk=>?_) hs ho (by omega) φ (by omega),y6h φ (nodU s o) s o _ _ hs ho a0 a6 hu (by omega) φ (by omega)]
  .unfold z15;have a8:=zwr s o (cF φ p s o) (bF φ p s o) hs ho;have e :(List.range s.length).flatMap (arcR s o (cF φ p s o) (bF φ p s o))++(List.range o.length).map (arcO (nodU s o) (s.length:Int) o)++(List.range s.length).map (arcS (nodU s o) s)++[⟨nodU s o,nodU s o+1,sumC o o.length,0⟩]=y7v s o (cF φ p s o) (bF φ p s o):=rfl;rw[e,if_neg (by simp only[decide_eq_true_eq];omega),h1,f];rfl
  .obtain⟨a1,a2,a3⟩:=zju d (w0a.1 a7 _ (z80 (i:=(i:Int)) (by omega) (by omega)));obtain⟨b1,b2,b3⟩:=zh3 d (h5 k hk);exact y5j (by omega) hB p _ _ a1 b1 a2
theorem yk7{φ:Nat}(hφ:800000<φ)(hB:zn3 φ)(p:Pool){s:List za}{o:List zp}(hs:s.length<=6)(ho:o.length<=6):
  zbn φ p s o=some (if z1j p≠0 then(⟨[],[]⟩,z1j p,()) else bif yab p s o then(netF φ p s o,0,()) else(⟨[],[]⟩,1,())):=by
 unfold zbn;rw[z3h φ hφ,w00];by_cases g:z1j p=0
 case neg=>rw[if_pos (by simpa using g),if_pos g]
 rw[if_neg (by simpa using g),if_neg (λh=>h g)];have a1:=zh5 g;have:=zjq (λm i(st:Int×List Int)=>z36 φ m s o st.1 0 s (s.length:Int) i p st.2 []) (λst=>some (bif o.all (okOr p) then(netF φ p s o,0,()) else(⟨[],[]⟩,1,()))) (some (⟨[],[]⟩,1,())) s (okSu p)
  (λst y=>(st.1+y.count,st.2++[y.count])) (λi st=>(i=s.length->s.all (okSu p)=true)/\st.1=sumS s i/\0<=st.1/\st.1<=4096*(i:Int)/\st.2 =(s.take i).map (·.count)/\∀j:Nat,j<i->okSu p (gt s (j:Int))=true) ?_ ?_ φ (0,[]) ⟨λh=>by have:s = []:=w14 h.symm;rw[this];rfl,rfl,by simp,by simp,by simp,λj hj=>by omega⟩ (by omega)
 .rw[this.1];unfold yab;cases s.all (okSu p)<;>rfl
 .rintro m i ⟨c,l⟩ hi ⟨_,u,h2,h3,f,h5⟩;simp only at u h2 h3 f h5;have hW:W ((i:Int)+1) =(i:Int)+1:=W_id (by omega) (by omega);have a2:l.length<=12:=by rw[f];simp only[w0q,w1e];omega
  show z36 φ (m+1) s o c 0 s (s.length:Int) (i:Int) p l []=_/\_;rw[z36,if_pos (by simp;omega),z6 ⟨by omega,by omega⟩,z9m,w00,hW];cases z:okSu p (gt s (i:Int)) with
  |false=>exact⟨by simp,λh=>by cases h⟩
  |true=>
   obtain⟨b1,b2,b3⟩:=zju a1 z;have a0:W (c+(gt s (i:Int)).count)=c+(gt s (i:Int)).count:=W_id (by omega) (by omega);have d:∀j:Nat,j<i+1->okSu p (gt s (j:Int))=true:=λj hj=>by
    by_cases e:j=i
    .rw[e];exact z
    .exact h5 j (by omega)
   rw[if_neg (by simp),z6 (by simp[fits];omega),a0];refine⟨rfl,λ_=>⟨λh=>?_,by rw[u];rfl,by omega,by push_cast;omega,?_,d⟩⟩
   .rw[w0a];intro x hx;obtain⟨j,hj,e⟩:=w3d hx;rw[<- e,<- z68 hj];exact d j (by omega)
   .rw[f,z03 s i hi,w1g];rfl
 .rintro m ⟨c,l⟩ ⟨h0,u,h2,h3,f,h5⟩;simp only at u h2 h3 f h5;rw[w11] at f;show z36 φ (m+1) s o c 0 s (s.length:Int) (s.length:Int) p l []=_;rw[z36,if_neg (by simp),u,f];exact y5p hφ hB g hs ho (h0 rfl) φ (by omega) ⟨by omega,by omega⟩
end Px
end
section
namespace Px
open Go
theorem zvz(φ:Nat)(u h:Int)(s:List za)(q1:List Int)(q2:List Arc)(j:List Int)(d:List Arc)(hs:s.length<=6)(ha:d.length<=1000)(hu:0<=u/\u<=1000)(m:Nat)(hm:s.length<m):
  z3v φ m s h u 0 q1 q2 j d=some (⟨j,d++(List.range s.length).map (arcS u s)++[⟨u,u+1,h,0⟩]⟩,0,()):=by
 have a0:W (u+1)=u+1:=W_id (by omega) (by omega);refine zu (λm i f=>z3v φ m s h u i q1 q2 j f) s.length (λi f=>f=d++(List.range i).map (arcS u s)) (λo=>o=some (⟨j,d++(List.range s.length).map (arcS u s)++[⟨u,u+1,h,0⟩]⟩,0,())) ?_ ?_ m d (by simp) hm
 .intro m i f hi z hG;have hW:W ((i:Int)+1) =(i:Int)+1:=W_id (by omega) (by omega);have g:f.length=d.length+i:=by rw[z];simp
  show z3v φ (m+1) s h u (i:Int) q1 q2 j f=_;rw[z3v,if_pos (by simp;omega),z6 ⟨by omega,by omega⟩,z6 (by simp[fits,g];omega),hW,a0];refine hG _ ?_;rw[z,w1n,w1g,w0m];rfl
 .intro m f z;have g:f.length=d.length+s.length:=by rw[z];simp
  show z3v φ (m+1) s h u (s.length:Int) q1 q2 j f=_;rw[z3v,if_neg (by simp),z6 (by simp[fits,g];omega),if_neg (by simp[g];omega),a0,z]
theorem y25(φ:Nat)(u g:Int)(s:List za)(o:List zp)(q1:List Int)(q2:List Arc)(h:List Int)(d:List Arc)(hs:s.length<=6)(ho:o.length<=6)(ha:d.length<=500)(hu:0<=u/\u<=1000)(hφ:1000<φ)(m:Nat)(hm:o.length<m):
  z20 φ m s o g u 0 q1 q2 h d=some (⟨h,d++(List.range o.length).map (arcO u (s.length:Int) o)++(List.range s.length).map (arcS u s)++[⟨u,u+1,g,0⟩]⟩,0,()):=by
 refine zu (λm i f=>z20 φ m s o g u i q1 q2 h f) o.length (λi f=>f=d++(List.range i).map (arcO u (s.length:Int) o)) (λr=>r=some (⟨h,d++(List.range o.length).map (arcO u (s.length:Int) o)++(List.range s.length).map (arcS u s)++[⟨u,u+1,g,0⟩]⟩,0,())) ?_ ?_ m d (by simp) hm
 .intro m i f hi z hG;have hW:W ((i:Int)+1) =(i:Int)+1:=W_id (by omega) (by omega);have a0:W ((s.length:Int)+(i:Int)) =(s.length:Int)+(i:Int):=W_id (by omega) (by omega);have j:f.length=d.length+i:=by rw[z];simp
  show z20 φ (m+1) s o g u (i:Int) q1 q2 h f=_;rw[z20,if_pos (by simp;omega),z6 ⟨by omega,by omega⟩,z6 ⟨by omega,by omega⟩,z6 (by simp[fits,j];omega),hW,a0];refine hG _ ?_;rw[z,w1n,w1g,w0m];rfl
 .intro m f z;have j:f.length=d.length+o.length:=by rw[z];simp
  show z20 φ (m+1) s o g u (o.length:Int) q1 q2 h f=_;rw[z20,if_neg (by simp),zvz φ u g s q1 q2 h f hs (by omega) hu φ (by omega),z]
theorem yf2(φ:Nat)(f:List za->List zp->Int->Int->Int->Pool->List Int->List Arc->List Int->List Arc->Option (zq×Int×Unit))(u g:Int)(p:Pool)(s:List za)(o:List zp)(z:List Int)(q2:List Arc)(h:List Int)(c:Nat->Nat->Int)(b:Nat->Nat->Bool)(i:Nat)(hi:i<s.length)
  (a1:∀k:Nat,k<o.length->z8h φ p (gt s (i:Int)) (gt o (k:Int))=some (c i k,b i k,())) (hs:s.length<=6) (ho:o.length<=6) (d:List Arc) (ha:d.length<=100) (m:Nat) (hm:o.length<m) :
  z32 φ f m s o g u (i:Int) 0 p z q2 h d=f s o g u (W ((i:Int)+1)) p z q2 h (d++arcR s o c b i):=by
 refine zu (λm k d=>z32 φ f m s o g u (i:Int) k p z q2 h d) o.length (λk a=>a=d++(List.range k).flatMap (arcP s o c b i))
  (λr=>r=f s o g u (W ((i:Int)+1)) p z q2 h (d++arcR s o c b i)) ?_ ?_ m d (by simp) hm
 .intro m k a hk hI hG;have hW:W ((k:Int)+1) =(k:Int)+1:=W_id (by omega) (by omega);have a0:W ((s.length:Int)+(k:Int)) =(s.length:Int)+(k:Int):=W_id (by omega) (by omega);have a2:a.length<=110:=by rw[hI,w0h];have:=znr (s:=s) (o:=o) (c:=c) (b:=b) i k;omega
  show z32 φ f (m+1) s o g u (i:Int) (k:Int) p z q2 h a=_;rw[z32,if_pos (by simp;omega),z6 ⟨by omega,by omega⟩,z6 ⟨by omega,by omega⟩,a1 k hk,w00,hW,a0];have j:∀a',a'=a++arcP s o c b i k->a'=d++(List.range (k+1)).flatMap (arcP s o c b i):=λa' e=>by rw[e,hI,w1n,w2d,w0m];simp
  cases hb:b i k with
  |true=>rw[if_pos rfl,z6 ⟨by omega,by omega⟩,z6 ⟨by omega,by omega⟩,z6 (by simp[fits];omega)];exact hG _ (j _ (by unfold arcP;rw[hb];rfl))
  |false=>rw[if_neg (by simp)];exact hG _ (j _ (by unfold arcP;rw[hb];simp))
 .intro m a hI;show z32 φ f (m+1) s o g u (i:Int) (o.length:Int) p z q2 h a=_;rw[z32,if_neg (by simp),hI];rfl
theorem y6x(φ:Nat)(u d:Int)(p:Pool)(s:List za)(o:List zp)(g:List Int)(h:List Arc)(f:List Int)(c:Nat->Nat->Int)(b:Nat->Nat->Bool)
  (a1:∀i k:Nat,i<s.length->k<o.length->z8h φ p (gt s (i:Int)) (gt o (k:Int))=some (c i k,b i k,())) (hs:s.length<=6) (ho:o.length<=6) (hφ:1000<φ) (m:Nat) (hm:s.length<m) :
  z3u φ m s o d u 0 p g h f []=z20 φ φ s o d u 0 g h f ((List.range s.length).flatMap (arcR s o c b)):=by
 refine zu (λm i a0=>z3u φ m s o d u i p g h f a0) s.length (λi a=>a =(List.range i).flatMap (arcR s o c b))
  (λr=>r=z20 φ φ s o d u 0 g h f ((List.range s.length).flatMap (arcR s o c b))) ?_ ?_ m [] (by simp) hm
 .intro m i a hi z hG;have hW:W ((i:Int)+1) =(i:Int)+1:=W_id (by omega) (by omega);have j:a.length<=100:=by rw[z];have:=zgp (s:=s) (o:=o) (c:=c) (b:=b) ho i;omega
  show z3u φ (m+1) s o d u (i:Int) p g h f a=_;rw[z3u,if_pos (by simp;omega),yf2 φ _ u d p s o g h f c b i hi (λk hk=>a1 i k hi hk) hs ho a j φ (by omega),hW];refine hG _ ?_;rw[z,w1n,w2d];simp
 .intro m a z;show z3u φ (m+1) s o d u (s.length:Int) p g h f a=_;rw[z3u,if_neg (by simp),z]
def zwj(φ:Nat):Prop:=∀x a b,z3s φ x a b=z09 φ x a b
theorem ztf{φ:Nat}(hφ:800000<φ)(hB:zn3 φ)(hR:zwj φ){p:Pool}(hp:z1j p=0){s:List za}{o:List zp}(hs:s.length<=6)(ho:o.length<=6)(a6:s.all (okSu p)=true)(m:Nat)(hm:o.length<m)(hS:0<=sumS s s.length/\sumS s s.length<=100000):
  z3t φ m s o (sumS s s.length) 0 0 p [] [] (s.map (·.count)) []=some (bif o.all (okOr p) then(netF φ p s o,0,()) else(⟨[],[]⟩,1,())):=by
 have z:=zh5 hp;have:=zjq (λm i(st:Int×List Int)=>z3t φ m s o (sumS s s.length) st.1 i p [] [] st.2 []) (λst=>some (netF φ p s o,0,())) (some (⟨[],[]⟩,1,())) o (okOr p)
  (λst y=>(st.1+y.count,st.2++[- y.count])) (λi st=>(i=o.length->o.all (okOr p)=true)/\st.1=sumC o i/\0<=st.1/\st.1<=1000*(i:Int)/\st.2=s.map (·.count)++(o.take i).map (λy=>- y.count)/\∀j:Nat,j<i->okOr p (gt o (j:Int))=true) ?_ ?_ m (0,s.map (·.count)) ⟨λh=>by have:o = []:=w14 h.symm;rw[this];rfl,rfl,by simp,by simp,by simp,λj hj=>by omega⟩ hm
 .rw[this.1];cases o.all (okOr p)<;>rfl
 .rintro m i ⟨c,l⟩ hi ⟨_,h1,h2,h3,d,h5⟩;simp only at h1 h2 h3 d h5;have hW:W ((i:Int)+1) =(i:Int)+1:=W_id (by omega) (by omega);have a0:l.length<=12:=by rw[d];simp only[w0h,w0q,w1e];omega
  show z3t φ (m+1) s o (sumS s s.length) c (i:Int) p [] [] l []=_/\_;rw[z3t,if_pos (by simp;omega),z6 ⟨by omega,by omega⟩,zhv,w00,hW];cases a4:okOr p (gt o (i:Int)) with
  |false=>exact⟨by simp,λh=>by cases h⟩
  |true=>
   obtain⟨b1,b2,b3⟩:=zh3 z a4;have g:W (0-(gt o (i:Int)).count)=-(gt o (i:Int)).count:=by rw[w5q];exact W_id (by omega) (by omega)
   have u:W (c+(gt o (i:Int)).count)=c+(gt o (i:Int)).count:=W_id (by omega) (by omega);have f:∀j:Nat,j<i+1->okOr p (gt o (j:Int))=true:=λj hj=>by
    by_cases e:j=i
    .rw[e];exact a4
    .exact h5 j (by omega)
   rw[if_neg (by simp),z6 ⟨by omega,by omega⟩,z6 ⟨by omega,by omega⟩,z6 (by simp[fits];omega),g,u];refine⟨rfl,λ_=>⟨λh=>?_,by rw[h1];rfl,by omega,by push_cast;omega,?_,f⟩⟩
   .rw[w0a];intro x hx;obtain⟨j,hj,e⟩:=w3d hx;rw[<- e,<- z68 hj];exact f j (by omega)
   .rw[d,z03 o i hi,w1g,<- w0m];rfl
 .rintro m ⟨c,l⟩ ⟨h0,h1,h2,h3,d,h5⟩;simp only at h1 h2 h3 d h5;rw[w11] at d;have a0:l.length<=12:=by rw[d];simp only[w0h,w0q];omega
  have g:W (0-sumS s s.length)=- sumS s s.length:=by rw[w5q];exact W_id (by omega) (by omega)
  have u:W ((s.length:Int)+(o.length:Int))=nodU s o:=W_id (by omega) (by omega);show z3t φ (m+1) s o (sumS s s.length) c (o.length:Int) p [] [] l []=_;rw[z3t,if_neg (by simp),z6 (by simp[fits];omega),if_neg (by simp only[w0h,w0o,w2h,decide_eq_true_eq];omega),g,u];have hu:0<=nodU s o/\nodU s o<=1000:=by unfold nodU;omega
  have a5 :((List.range s.length).flatMap (arcR s o (cF φ p s o) (bF φ p s o))).length<=500:=by have:=zgp (s:=s) (o:=o) (c:=cF φ p s o) (b:=bF φ p s o) ho s.length;omega
  rw[y6x φ (nodU s o) c p s o [] [] _ (cF φ p s o) (bF φ p s o) (λi k hi hk=>?_) hs ho (by omega) φ (by omega),y25 φ (nodU s o) c s o [] [] _ _ hs ho a5 hu (by omega) φ (by omega)]
  .rw[h1,d];rfl
  .obtain⟨a1,a2,a3⟩:=zju z (w0a.1 a6 _ (z80 (i:=(i:Int)) (by omega) (by omega)));obtain⟨b1,b2,b3⟩:=zh3 z (h5 k hk);exact zhw (by omega) hB hR p _ _ a1 b1 a2
theorem y7n{φ:Nat}(hφ:800000<φ)(hB:zn3 φ)(hR:zwj φ)(p:Pool){s:List za}{o:List zp}(hs:s.length<=6)(ho:o.length<=6):
  zgf φ p s o=some (if z1j p≠0 then(⟨[],[]⟩,z1j p,()) else bif yab p s o then(netF φ p s o,0,()) else(⟨[],[]⟩,1,())):=by
 unfold zgf;rw[z4w φ hφ,w00];by_cases g:z1j p=0
 case neg=>rw[if_pos (by simpa using g),if_pos g]
 rw[if_neg (by simpa using g),if_neg (λh=>h g)];have a1:=zh5 g;have:=zjq (λm i(st:Int×List Int)=>z4x φ m s o st.1 0 i p [] [] st.2 []) (λst=>some (bif o.all (okOr p) then(netF φ p s o,0,()) else(⟨[],[]⟩,1,()))) (some (⟨[],[]⟩,1,())) s (okSu p)
  (λst y=>(st.1+y.count,st.2++[y.count])) (λi st=>(i=s.length->s.all (okSu p)=true)/\st.1=sumS s i/\0<=st.1/\st.1<=4096*(i:Int)/\st.2 =(s.take i).map (·.count)/\∀j:Nat,j<i->okSu p (gt s (j:Int))=true) ?_ ?_ φ (0,[]) ⟨λh=>by have:s = []:=w14 h.symm;rw[this];rfl,rfl,by simp,by simp,by simp,λj hj=>by omega⟩ (by omega)
 .rw[this.1];unfold yab;cases s.all (okSu p)<;>rfl
 .rintro m i ⟨c,l⟩ hi ⟨_,u,h2,h3,f,h5⟩;simp only at u h2 h3 f h5;have hW:W ((i:Int)+1) =(i:Int)+1:=W_id (by omega) (by omega);have a2:l.length<=12:=by rw[f];simp only[w0q,w1e];omega
  show z4x φ (m+1) s o c 0 (i:Int) p [] [] l []=_/\_;rw[z4x,if_pos (by simp;omega),z6 ⟨by omega,by omega⟩,zgg,w00,hW];cases z:okSu p (gt s (i:Int)) with
  |false=>exact⟨by simp,λh=>by cases h⟩
  |true=>
   obtain⟨b1,b2,b3⟩:=zju a1 z;have a0:W (c+(gt s (i:Int)).count)=c+(gt s (i:Int)).count:=W_id (by omega) (by omega);have d:∀j:Nat,j<i+1->okSu p (gt s (j:Int))=true:=λj hj=>by
    by_cases e:j=i
    .rw[e];exact z
    .exact h5 j (by omega)
   rw[if_neg (by simp),z6 ⟨by omega,by omega⟩,z6 ⟨by omega,by omega⟩,z6 (by simp[fits];omega),a0];refine⟨rfl,λ_=>⟨λh=>?_,by rw[u];rfl,by omega,by push_cast;omega,?_,d⟩⟩
   .rw[w0a];intro x hx;obtain⟨j,hj,e⟩:=w3d hx;rw[<- e,<- z68 hj];exact d j (by omega)
   .rw[f,z03 s i hi,w1g];rfl
 .rintro m ⟨c,l⟩ ⟨h0,u,h2,h3,f,h5⟩;simp only at u h2 h3 f h5;rw[w11] at f;show z4x φ (m+1) s o c 0 (s.length:Int) p [] [] l []=_;rw[z4x,if_neg (by simp),u,f];exact ztf hφ hB hR g hs ho (h0 rfl) φ (by omega) ⟨by omega,by omega⟩
end Px
end
section
namespace Px
open Go
theorem yg1{n b:Nat}(h:n<=100000)(d:b<=1000):fits n b:=by unfold fits;have:n*b<=100000*1000:=Nat.mul_le_mul h d;omega
abbrev Ln:=List ((Nat->Int)×Int)
abbrev keyP(a b:Int):Nat->Int:=upd (upd (λ_=>(default:Int)) 0 a) 1 b
abbrev lget(m:Ln)(a b:Int):Option Int:=cget z71 m (keyP a b)
abbrev lset(m:Ln)(a b i:Int):Ln:=cset z71 m (keyP a b) i
theorem kl32(f:Nat->Int):z71 f = [f 0,f 1]:=rfl
theorem yil(a b c d:Int):(z71 (keyP c d)==z71 (keyP a b)) =(c==a&&d==b):=by rw[kl32,kl32];show ([c,d]==[a,b])=_;simp
theorem ziu{κ ν:Type}(e:κ->List Int)(k d:κ)(v:ν):∀m:List (κ×ν),cget e (cset e m k v) d=bif e d==e k then some v else cget e m d
 | []=>rfl
 |(a,b)::m=>by
  unfold cset;cases f :(e k==e a) with
  |true=>have f:=beq_iff_eq.1 f;rw[cond_true];show (bif e d==e k then some v else cget e m d)=bif e d==e k then some v else(bif e d==e a then some b else cget e m d);rw[f];cases (e d==e a)<;>rfl
  |false=>
   rw[cond_false];cases j:ltI (e k) (e a) with
   |true=>rfl
   |false=>
    rw[cond_false];show (bif e d==e a then some b else cget e (cset e m k v) d)=bif e d==e k then some v else(bif e d==e a then some b else cget e m d);rw[ziu e k d v m];cases h :(e d==e a) with
    |false=>rfl
    |true=>
     have h:=beq_iff_eq.1 h;rw[h];have :(e a==e k)=false:=by rw[<- w1k,beq_iff_eq];intro g;rw[g] at f;simp at f
     rw[this];rfl
theorem zjp(m:Ln)(a b i c d:Int):lget (lset m a b i) c d=if c=a/\d=b then some i else lget m c d:=by
 show cget z71 (cset z71 m (keyP a b) i) (keyP c d)=_;rw[ziu,yil];by_cases h:c=a/\d=b
 .rw[if_pos h];simp[h]
 .rw[if_neg h];have :(c==a&&d==b)=false:=by rw[<- w1k];simpa using h
  rw[this];rfl
theorem ye9{b:Bool}(h:¬(!b)=true):b=true:=by cases b<;>simp_all
def ent1(es:List Edge)(i a b:Int)(s:List (List Int)×Ln):List (List Int)×Ln:=
 (if(!(lget s.2 a b).isSome)=true then zo s.1 a (gt s.1 a++[b]) else s.1,
  if(!(lget s.2 a b).isSome||decide ((gt es i).minutes<(gt es ((lget s.2 a b).getD default)).minutes))=true then lset s.2 a b i else s.2)
def entE(es:List Edge)(i:Int)(s:List (List Int)×Ln):List (List Int)×Ln:=ent1 es i (gt es i).b (gt es i).a (ent1 es i (gt es i).a (gt es i).b s)
structure GI(es:List Edge)(P k:Nat)(s:List (List Int)×Ln):Prop where
 len:s.1.length=P
 near:∀a b:Int,0<=a->a<(P:Int)->(b∈gt s.1 a↔(lget s.2 a b).isSome=true)
 line:∀a b i:Int,lget s.2 a b=some i->0<=i/\i<(k:Int)/\(((gt es i).a=a/\(gt es i).b=b)\/((gt es i).a=b/\(gt es i).b=a))
 size:∀a:Int,0<=a->a<(P:Int)->(gt s.1 a).length<=2*k
structure HI(es:List Edge)(P k:Nat)(s:List (List Int)×Ln):Prop extends GI es P k s where
 sym:∀a b:Int,lget s.2 a b=lget s.2 b a
theorem ydi(es:List Edge)(P:Nat):HI es P 0 (List.replicate P (default:List Int),[]) where
 len:=by simp
 near:=λa b d f=>by rw[zd7 _ _ _ d (by omega)];show b∈([]:List Int)↔_;simp[lget,cget]
 line:=λa b i h=>by simp[lget,cget] at h
 size:=λa d f=>by rw[zd7 _ _ _ d (by omega)];simp;rfl
 sym:=λa b=>rfl
theorem yhr{es:List Edge}{P k:Nat}{s:List (List Int)×Ln}(h:GI es P k s){a b:Int}(ha:0<=a)(a0:a<(P:Int))(he :((gt es (k:Int)).a=a/\(gt es (k:Int)).b=b)\/((gt es (k:Int)).a=b/\(gt es (k:Int)).b=a)):
  (ent1 es k a b s).1.length=P/\(∀c d:Int,0<=c->c<(P:Int)->(d∈gt (ent1 es k a b s).1 c↔(lget (ent1 es k a b s).2 c d).isSome=true))/\
  (∀c d i:Int,lget (ent1 es k a b s).2 c d=some i->0<=i/\i<((k+1:Nat):Int)/\(((gt es i).a=c/\(gt es i).b=d)\/((gt es i).a=d/\(gt es i).b=c)))/\
  (∀c:Int,0<=c->c<(P:Int)->(gt (ent1 es k a b s).1 c).length<=(gt s.1 c).length+1)/\
  (∀c d:Int,¬(c=a/\d=b)->lget (ent1 es k a b s).2 c d=lget s.2 c d)/\
  lget (ent1 es k a b s).2 a b =(if(!(lget s.2 a b).isSome||decide ((gt es (k:Int)).minutes<(gt es ((lget s.2 a b).getD default)).minutes))=true then some (k:Int) else lget s.2 a b):=by
 have g:∀c d:Int,lget (ent1 es k a b s).2 c d=if(c=a/\d=b) then(if(!(lget s.2 a b).isSome||decide ((gt es (k:Int)).minutes<(gt es ((lget s.2 a b).getD default)).minutes))=true then some (k:Int) else lget s.2 a b) else lget s.2 c d:=by
  intro c d;unfold ent1;simp only[];split
  .rw[zjp]
  .split
   .rename_i q;rw[q.1,q.2]
   .rfl
 have a1 :(lget (ent1 es k a b s).2 a b).isSome=true:=by
  rw[g,if_pos ⟨rfl,rfl⟩];split
  .rfl
  .rename_i q;simp only[w0w,not_or] at q;exact ye9 q.1
 refine⟨?_,?_,?_,?_,λc d f=>by rw[g,if_neg f],by rw[g,if_pos ⟨rfl,rfl⟩]⟩
 .unfold ent1;simp only[];split
  .rw[z11];exact h.len
  .exact h.len
 .intro c d u j;by_cases f:c=a/\d=b
  .obtain⟨rfl,rfl⟩:=f;rw[a1];refine⟨λ_=>rfl,λ_=>?_⟩;unfold ent1;simp only[];split
   .rw[z0b _ _ _ _ u (by rw[h.len];exact j) u,if_pos rfl];simp
   .rename_i q;exact(h.near c d u j).2 (ye9 q)
  .rw[g,if_neg f,<- h.near c d u j];unfold ent1;simp only[];split
   .rw[z0b _ _ _ _ ha (by rw[h.len];exact a0) u];by_cases e:c=a
    .subst e;rw[if_pos rfl];simp only[w0j,w0d];exact⟨λq=>q.resolve_right (λe=>f ⟨rfl,e⟩),.inl⟩
    .rw[if_neg e]
   .exact Iff.rfl
 .intro c d i z;rw[g] at z;split at z
  .rename_i q;obtain⟨rfl,rfl⟩:=q;split at z
   .have:=w0f z
    subst this;exact⟨by omega,by omega,he⟩
   .obtain⟨h1,h2,h3⟩:=h.line _ _ _ z;exact⟨h1,by omega,h3⟩
  .obtain⟨h1,h2,h3⟩:=h.line _ _ _ z;exact⟨h1,by omega,h3⟩
 .intro c u j;unfold ent1;simp only[];split
  .rw[z0b _ _ _ _ ha (by rw[h.len];exact a0) u];split
   .rename_i e;subst e;simp
   .omega
  .omega
theorem yhs{es:List Edge}{P k:Nat}{s:List (List Int)×Ln}(h:HI es P k s)(ha:0<=(gt es (k:Int)).a)(aa :(gt es (k:Int)).a<(P:Int))(hb:0<=(gt es (k:Int)).b)(a8 :(gt es (k:Int)).b<(P:Int))(a9 :(gt es (k:Int)).a≠(gt es (k:Int)).b):
  HI es P (k+1) (entE es k s):=by
 obtain⟨a1,a2,a3,a4,a5,a6⟩:=yhr h.toGI ha aa (.inl ⟨rfl,rfl⟩);unfold entE;generalize af:ent1 es k (gt es (k:Int)).a (gt es (k:Int)).b s=u at *;generalize (gt es (k:Int)).a=a at *;generalize (gt es (k:Int)).b=b at *
 have f:∀c d:Int,lget (ent1 es k b a u).2 c d=if(c=b/\d=a) then(if(!(lget u.2 b a).isSome||decide ((gt es (k:Int)).minutes<(gt es ((lget u.2 b a).getD default)).minutes))=true then some (k:Int) else lget u.2 b a) else lget u.2 c d:=by
  intro c d;unfold ent1;simp only[];split
  .rw[zjp]
  .split
   .rename_i q;rw[q.1,q.2]
   .rfl
 have ab:lget u.2 b a=lget s.2 a b:=by rw[a5 b a (λq=>a9 q.2),h.sym]
 have ac :(lget (ent1 es k b a u).2 b a).isSome=true:=by
  rw[f,if_pos ⟨rfl,rfl⟩];split
  .rfl
  .rename_i q;simp only[w0w,not_or] at q;exact ye9 q.1
 have a0:lget (ent1 es k b a u).2 a b=lget u.2 a b:=by rw[f,if_neg (λq=>a9 q.1)]
 have z:lget (ent1 es k b a u).2 b a=lget u.2 a b:=by rw[f,if_pos ⟨rfl,rfl⟩,ab,a6]
 have ad :((gt es (k:Int)).a=a/\(gt es (k:Int)).b=b)\/((gt es (k:Int)).a=b/\(gt es (k:Int)).b=a)->True:=λ_=>trivial
 refine⟨⟨?_,?_,?_,?_⟩,?_⟩
 .unfold ent1;simp only[];split
  .rw[z11];exact a1
  .exact a1
 .intro c d hc g;by_cases j:c=b/\d=a
  .obtain⟨rfl,rfl⟩:=j;rw[ac];refine⟨λ_=>rfl,λ_=>?_⟩;unfold ent1;simp only[];split
   .rw[z0b _ _ _ _ hc (by rw[a1];exact g) hc,if_pos rfl];simp
   .rename_i q;exact(a2 c d hc g).2 (ye9 q)
  .rw[f,if_neg j,<- a2 c d hc g];unfold ent1;simp only[];split
   .rw[z0b _ _ _ _ hb (by rw[a1];exact a8) hc];by_cases e:c=b
    .subst e;rw[if_pos rfl];simp only[w0j,w0d];exact⟨λq=>q.resolve_right (λe=>j ⟨rfl,e⟩),.inl⟩
    .rw[if_neg e]
   .exact Iff.rfl
 .intro c d i hi;by_cases j:c=b/\d=a
  .obtain⟨rfl,rfl⟩:=j;rw[z] at hi;obtain⟨h1,h2,h3⟩:=a3 _ _ _ hi;exact⟨h1,h2,h3.elim .inr .inl⟩
  .rw[f,if_neg j] at hi;exact a3 _ _ _ hi
 .intro c hc g;have h1:=a4 c hc g;have h0:=h.size c hc g;have h2 :(gt (ent1 es k b a u).1 c).length<=(gt u.1 c).length+1:=by
   unfold ent1;simp only[];split
   .rw[z0b _ _ _ _ hb (by rw[a1];exact a8) hc];split
    .rename_i e;subst e;simp
    .omega
   .omega
  omega
 .intro c d;by_cases h1:c=b/\d=a
  .obtain⟨rfl,rfl⟩:=h1;rw[z,a0]
  .by_cases h2:c=a/\d=b
   .obtain⟨rfl,rfl⟩:=h2;rw[a0,z]
   .rw[f,if_neg h1,f,if_neg (λq=>h2 ⟨q.2,q.1⟩),a5 c d h2,a5 d c (λq=>h1 ⟨q.2,q.1⟩),h.sym]
def zbk(es:List Edge)(P:Nat):Nat->List (List Int)×Ln
 |0=>(List.replicate P default,[])
 |k+1=>entE es k (zbk es P k)
structure zaa(x:zk):Prop where
 places:x.places.length<=512
 edges:x.edges.length<=2048
 edge:∀i:Int,0<=i->i<(x.edges.length:Int)->zay x.places.length (gt x.edges i)=true
theorem y6g{x:zk}(h:z7c x=0):zaa x:=by obtain⟨f,g,_,j⟩:=zdx h;exact⟨f,g,λi d u=>j _ (z80 d u)⟩
theorem zaa.ends{x:zk}(h:zaa x){i:Int}(j:0<=i)(u:i<(x.edges.length:Int)):0<=(gt x.edges i).a/\(gt x.edges i).a<(x.places.length:Int)/\0<=(gt x.edges i).b/\(gt x.edges i).b<(x.places.length:Int)/\
  (gt x.edges i).a≠(gt x.edges i).b/\0<=(gt x.edges i).railway/\(gt x.edges i).railway<=15/\1<=(gt x.edges i).minutes/\(gt x.edges i).minutes<=100000/\0<=(gt x.edges i).km/\(gt x.edges i).km<=10000:=by
 have:=h.edge i j u;simp only[zay,w02,z4n,bne_iff_ne,ne_eq] at this;obtain⟨⟨⟨⟨⟨q1,z⟩,q3⟩,d⟩,f⟩,g⟩:=this;exact⟨q1.1,by omega,z.1,by omega,q3,d.1,d.2,f.1,f.2,g.1,g.2⟩
theorem zee{x:zk}(h:zaa x):∀k,k<=x.edges.length->HI x.edges x.places.length k (zbk x.edges x.places.length k)
 |0,_=>ydi _ _
 |k+1,g=>by obtain⟨d,f,a3,a4,a5,_⟩:=h.ends (i:=(k:Int)) (by omega) (by omega);exact yhs (zee h k (by omega)) d f a3 a4 a5
structure Gr(P:Nat)(near:List (List Int))(wt:Int->Int->Int):Prop where
 len:near.length=P
 small:P<=512
 size:∀a:Int,0<=a->a<(P:Int)->(gt near a).length<=5000
 rng:∀a b:Int,0<=a->a<(P:Int)->b∈gt near a->0<=b/\b<(P:Int)
 sym:∀a b:Int,0<=a->a<(P:Int)->b∈gt near a->a∈gt near b/\wt b a=wt a b
 wt:∀a b:Int,0<=a->a<(P:Int)->b∈gt near a->1<=wt a b/\wt a b<=100000
def zad(x:zk):Ln:=(zbk x.edges x.places.length x.edges.length).2
def wtN(x:zk)(a b:Int):Int:=(gt x.edges ((lget (zad x) a b).getD default)).minutes
def zia(x:zk):List (List Int):=(zbk x.edges x.places.length x.edges.length).1
def z5s(x:zk):List (List Int):=(zia x).map λl=>zb4 (λa b=>decide (a<b)) l
theorem y3y{α β:Type}[Inhabited α][Inhabited β](f:α->β)(l:List α){i:Int}(d:0<=i)(h:i<(l.length:Int)):gt (l.map f) i=f (gt l i):=by obtain⟨n,rfl⟩:∃n:Nat,i =(n:Int):=⟨i.toNat,by omega⟩;rw[z68 (by simp;omega),z68 (by omega)];simp
theorem zup{x:zk}(h:zaa x){a b:Int}(g:0<=a)(d:a<(x.places.length:Int))(f:b∈gt (z5s x) a):∃i,lget (zad x) a b=some i/\0<=i/\i<(x.edges.length:Int)/\(((gt x.edges i).a=a/\(gt x.edges i).b=b)\/((gt x.edges i).a=b/\(gt x.edges i).b=a)):=by have H:=zee h x.edges.length (w16 _);unfold z5s at f;rw[y3y _ _ g (by show a<((zia x).length:Int);rw[show (zia x).length=_ from H.len];exact d)] at f;have f:=(z0w _ _).mem_iff.1 f;have:=(H.near a b g d).1 f;obtain⟨i,j⟩:=w19.1 this;obtain⟨u,z,h3⟩:=H.line _ _ _ j;exact⟨i,j,u,z,h3⟩
theorem grN{x:zk}(h:zaa x):Gr x.places.length (z5s x) (wtN x):=by
 have H:=zee h x.edges.length (w16 _);have a2 :(z5s x).length=x.places.length:=by unfold z5s;rw[w0q];exact H.len
 have a1 :(zia x).length=x.places.length:=H.len;have a3:∀a b:Int,0<=a->a<(x.places.length:Int)->(b∈gt (z5s x) a↔(lget (zad x) a b).isSome=true):=by intro a b f d;unfold z5s;rw[y3y _ _ f (by rw[a1];exact d)];exact((z0w _ _).mem_iff).trans (H.near a b f d)
 refine⟨a2,h.places,?_,?_,?_,?_⟩
 .intro a f d;unfold z5s;rw[y3y _ _ f (by rw[a1];exact d),(z0w _ _).length_eq];have:=H.size a f d;have:=h.edges;show (gt (zbk x.edges x.places.length x.edges.length).1 a).length<=_;omega
 .intro a b f d hb;obtain⟨i,_,u,z,h3⟩:=zup h f d hb;obtain⟨g,j,e3,e4,_⟩:=h.ends u z;rcases h3 with⟨rfl,rfl⟩|⟨rfl,rfl⟩
  .exact⟨e3,e4⟩
  .exact⟨g,j⟩
 .intro a b f d hb;obtain⟨i,hi,u,z,h3⟩:=zup h f d hb;obtain⟨g,j,e3,e4,_⟩:=h.ends u z;have a0:0<=b/\b<(x.places.length:Int):=by
   rcases h3 with⟨rfl,rfl⟩|⟨rfl,rfl⟩
   .exact⟨e3,e4⟩
   .exact⟨g,j⟩
  have hs:lget (zad x) b a=lget (zad x) a b:=H.sym b a;refine⟨(a3 b a a0.1 a0.2).2 (by rw[hs,hi];rfl),?_⟩;unfold wtN;rw[hs]
 .intro a b f d hb;obtain⟨i,hi,u,z,_⟩:=zup h f d hb;obtain⟨_,_,_,_,_,_,_,g,j,_⟩:=h.ends u z;unfold wtN;rw[hi];exact⟨g,j⟩
structure DI(P:Nat)(near:List (List Int))(wt:Int->Int->Int)(s:Int)(k:Nat)(t:List Int)(d:List Bool):Prop where
 lt:t.length=P
 ld:d.length=P
 src:gt t s=0
 bd:∀i:Int,0<=i->i<(P:Int)->gt t i=-1\/(0<=gt t i/\gt t i<=100000*k)
 don:∀i:Int,0<=i->i<(P:Int)->gt d i=true->0<=gt t i
 pre:∀a:Int,0<=a->a<(P:Int)->a≠s->0<=gt t a->∃q,0<=q/\q<(P:Int)/\gt d q=true/\q∈gt near a/\gt t a=gt t q+wt q a
 mon:∀q i:Int,0<=q->q<(P:Int)->0<=i->i<(P:Int)->gt d q=true->gt d i=false->0<=gt t i->gt t q<=gt t i
 nbr:∀q i:Int,0<=q->q<(P:Int)->gt d q=true->i∈gt near q->0<=gt t i/\gt t i<=gt t q+wt q i
 cnt:d.count true=k
structure RndI(P:Nat)(near:List (List Int))(wt:Int->Int->Int)(s p:Int)(k:Nat)(t0:List Int)(d:List Bool)(seen:List Int)(t:List Int):Prop where
 lt:t.length=P
 own:gt t p=gt t0 p
 val:∀i:Int,0<=i->i<(P:Int)->gt t i=gt t0 i\/(i∈seen/\gt t i=gt t0 p+wt p i/\(gt t0 i<0\/gt t0 p+wt p i<gt t0 i))
 got:∀i∈seen,0<=i->0<=gt t i/\gt t i<=gt t p+wt p i
end Px
end
section
namespace Px
open Go
section
variable{P:Nat}{near:List (List Int)}{wt:Int->Int->Int}{s:Int}
theorem y72{α:Type}[Inhabited α](l:List α){i:Int}(d:0<=i)(h:i<(l.length:Int)):zo l i (gt l i)=l:=by obtain⟨n,rfl⟩:∃n:Nat,i =(n:Int):=⟨i.toNat,by omega⟩;rw[z68 (by omega)];simp[zo]
theorem yax{p:Int}{k:Nat}{t0:List Int}{d:List Bool}(h:DI P near wt s k t0 d):RndI P near wt s p k t0 d [] t0:=⟨h.lt,rfl,λi _ _=>.inl rfl,λi f=>by cases f⟩
theorem yf8(hG:Gr P near wt){p:Int}(hp:0<=p)(a0:p<(P:Int)){k:Nat}{t0:List Int}{d:List Bool}(a1:0<=gt t0 p){u t:List Int}(h:RndI P near wt s p k t0 d u t){q:Int}(hq:q∈gt near p):
  RndI P near wt s p k t0 d (u++[q]) (if(decide (gt t q<0)||decide (gt t p+wt p q<gt t q))=true then zo t q (gt t p+wt p q) else t):=by
 obtain⟨q0,q1⟩:=hG.rng p q hp a0 hq;obtain⟨w0,w1⟩:=hG.wt p q hp a0 hq;have f:=h.own;by_cases c:gt t q<0\/gt t p+wt p q<gt t q
 .rw[if_pos (by simpa using c)];have z:q≠p:=λe=>by subst e;omega
  refine⟨by rw[z11];exact h.lt,?_,λi h0 h1=>?_,λi hi g=>?_⟩
  .rw[z0b _ _ _ _ q0 (by rw[h.lt];exact q1) hp,if_neg (λe=>z e.symm)];exact f
  .rw[z0b _ _ _ _ q0 (by rw[h.lt];exact q1) h0];by_cases e:i=q
   .subst e;rw[if_pos rfl];refine .inr ⟨by simp,by rw[f],?_⟩;rcases h.val i h0 h1 with j|⟨_,j,_⟩
    .rw[j,f] at c;exact c
    .rw[j,f] at c;exfalso;omega
   .rw[if_neg e];rcases h.val i h0 h1 with j|⟨j,h3,h4⟩
    .exact .inl j
    .exact .inr ⟨w1f _ j,h3,h4⟩
  .by_cases e:i=q
   .subst e;rw[z0b _ _ _ _ q0 (by rw[h.lt];exact q1) q0,if_pos rfl,z0b _ _ _ _ q0 (by rw[h.lt];exact q1) hp,if_neg (λe=>z e.symm)];omega
   .have hi:i∈u:=by
     rcases w0j.1 hi with hi|hi
     .exact hi
     .exact absurd (w0d.1 hi) e
    rw[z0b _ _ _ _ q0 (by rw[h.lt];exact q1) g,if_neg e,z0b _ _ _ _ q0 (by rw[h.lt];exact q1) hp,if_neg (λe=>z e.symm)];exact h.got i hi g
 .rw[if_neg (by simpa using c)];refine⟨h.lt,f,λi h0 h1=>?_,λi hi g=>?_⟩
  .rcases h.val i h0 h1 with j|⟨j,h3,h4⟩
   .exact .inl j
   .exact .inr ⟨w1f _ j,h3,h4⟩
  .rcases w0j.1 hi with hi|hi
   .exact h.got i hi g
   .rw[w0d.1 hi];omega
theorem y0d{d:List Bool}{p:Int}(j:0<=p)(g:p<(d.length:Int))(h:gt d p=false):(zo d p true).count true=d.count true+1:=by
 obtain⟨n,rfl⟩:∃n:Nat,p =(n:Int):=⟨p.toNat,by omega⟩;have f:n<d.length:=by omega
 rw[z68 f] at h;unfold zo;rw[w1i,List.count_set f,h];simp
theorem yf9(hG:Gr P near wt){p:Int}(hp:0<=p)(z:p<(P:Int)){k:Nat}{t0:List Int}{d:List Bool}(h:DI P near wt s k t0 d)(hs:0<=s)(aa:s<(P:Int))(a2:0<=gt t0 p)(hd:gt d p=false)
  (a3:∀i:Int,0<=i->i<(P:Int)->0<=gt t0 i->gt d i=false->gt t0 p<=gt t0 i) {t:List Int} (hr:RndI P near wt s p k t0 d (gt near p) t):DI P near wt s (k+1) t (zo d p true):=by
 have a0:∀i:Int,0<=i->gt (zo d p true) i=if i=p then true else gt d i:=λi hi=>z0b _ _ _ _ hp (by rw[h.ld];exact z) hi
 have hw:∀i,i∈gt near p->1<=wt p i/\wt p i<=100000:=λi hi=>hG.wt p i hp z hi
 have u:∀i:Int,0<=i->i<(P:Int)->gt d i=true->gt t i=gt t0 i:=by
  intro i h0 h1 f;rcases hr.val i h0 h1 with j|⟨j,h3,h4⟩
  .exact j
  .have:=hw i j
   have:=h.don i h0 h1 f;have:=h.mon i p h0 h1 hp z f hd a2;omega
 have ac:=(h.bd p hp z).resolve_left (by omega);refine⟨hr.lt,by rw[z11];exact h.ld,?_,λi h0 h1=>?_,λi h0 h1 f=>?_,λa h0 h1 a6 a4=>?_,λq i q0 q1 h0 h1 g f a5=>?_,λq i q0 q1 g a1=>?_,?_⟩
 .rcases hr.val s hs aa with j|⟨j,h3,h4⟩
  .rw[j,h.src]
  .have:=hw s j
   have:=h.src;omega
 .rcases hr.val i h0 h1 with j|⟨j,h3,h4⟩
  .rw[j];rcases h.bd i h0 h1 with h5|h5
   .exact .inl h5
   .right;omega
  .have:=hw i j
   right;omega
 .rw[a0 i h0] at f;by_cases e:i=p
  .subst e;rw[hr.own];exact a2
  .rw[if_neg e] at f;rw[u i h0 h1 f];exact h.don i h0 h1 f
 .rcases hr.val a h0 h1 with j|⟨j,h3,h4⟩
  .rw[j] at a4⊢;obtain⟨q,q0,q1,g,a9,he⟩:=h.pre a h0 h1 a6 a4;refine⟨q,q0,q1,?_,a9,by rw[u q q0 q1 g];exact he⟩;rw[a0 q q0];split
   .rfl
   .exact g
  .obtain⟨ab,ad⟩:=hG.sym p a hp z j;exact⟨p,hp,z,by rw[a0 p hp,if_pos rfl],ab,by rw[hr.own,h3]⟩
 .rw[a0 q q0] at g;rw[a0 i h0] at f;have a8:i≠p:=λe=>by rw[if_pos e] at f;cases f
  rw[if_neg a8] at f;have a7:gt t0 p<=gt t i:=by
   rcases hr.val i h0 h1 with j|⟨j,h3,h4⟩
   .rw[j] at a5⊢;exact a3 i h0 h1 a5 f
   .have:=hw i j;omega
  by_cases e:q=p
  .subst e;rw[hr.own];exact a7
  .rw[if_neg e] at g;have:=h.mon q p q0 q1 hp z g hd a2;rw[u q q0 q1 g];omega
 .rw[a0 q q0] at g;by_cases e:q=p
  .subst e;exact hr.got i a1 (hG.rng q i hp z a1).1
  .rw[if_neg e] at g;obtain⟨i0,i1⟩:=hG.rng q i q0 q1 a1;have:=h.nbr q i q0 q1 g a1;rw[u q q0 q1 g];rcases hr.val i i0 i1 with j|⟨j,h3,h4⟩
   .rw[j];exact this
   .have:=hw i j;omega
 .rw[y0d hp (by rw[h.ld];exact z) hd,h.cnt]
structure DF(P:Nat)(near:List (List Int))(wt:Int->Int->Int)(s:Int)(t:List Int):Prop where
 lt:t.length=P
 src:gt t s=0
 bd:∀i:Int,0<=i->i<(P:Int)->gt t i=-1\/(0<=gt t i/\gt t i<=51200000)
 pre:∀a:Int,0<=a->a<(P:Int)->a≠s->0<=gt t a->∃q,0<=q/\q<(P:Int)/\q∈gt near a/\0<=gt t q/\gt t a=gt t q+wt q a
 nbr:∀q i:Int,0<=q->q<(P:Int)->0<=gt t q->i∈gt near q->0<=gt t i/\gt t i<=gt t q+wt q i
theorem ymr(hG:Gr P near wt){k:Nat}{t:List Int}{d:List Bool}(h:DI P near wt s k t d)(f:∀i:Int,0<=i->i<(P:Int)->0<=gt t i->gt d i=true):DF P near wt s t:=by
 have hk:k<=P:=by rw[<- h.cnt,<- h.ld];exact w51
 have:=hG.small;refine⟨h.lt,h.src,λi j u=>?_,λa j u ha a1=>?_,λq i g q1 hq hi=>h.nbr q i g q1 (f q g q1 hq) hi⟩
 .rcases h.bd i j u with h2|h2
  .exact .inl h2
  .right;omega
 .obtain⟨q,g,q1,z,a0,he⟩:=h.pre a j u ha a1;exact⟨q,g,q1,a0,h.don q g q1 z,he⟩
theorem yd5(hs:0<=s)(z:s<(P:Int))(t:List Int)(ht:t.length=P)(d:∀i:Int,0<=i->i<(P:Int)->gt t i=if i=s then 0 else-1):DI P near wt s 0 t (List.replicate P (default:Bool)):=by
 have u:∀i:Int,0<=i->i<(P:Int)->gt (List.replicate P (default:Bool)) i=false:=λi g j=>by rw[zd7 _ _ _ g (by omega)];rfl
 refine⟨ht,by simp,by rw[d s hs z,if_pos rfl],λi g j=>?_,λi g j h=>?_,λa g j ha a0=>?_,λq i q0 q1 g j f=>?_,λq i q0 q1 f=>?_,?_⟩
 .rw[d i g j];split<;>omega
 .rw[u i g j] at h;cases h
 .rw[d a g j,if_neg ha] at a0;omega
 .rw[u q q0 q1] at f;cases f
 .rw[u q q0 q1] at f;cases f
 .simp[List.count_replicate]
end
section walk
variable{ρ:Type}{P:Nat}{near:List (List Int)}{wt:Int->Int->Int}{s:Int}
theorem ym9(hP:P<=512)(A:Nat->Int->Int->Option ρ)(fin:Int->Option ρ)(t:List Int)(d:List Bool)(ht:t.length=P)(hd:d.length=P)
  (a0:∀n p i,A (n+1) p i =(if(decide ((i:Int)<(P:Int)))=true then(ck ((0:Int)<=i/\i<(t.length:Int)) (ck (((decide ((0:Int)<=(gt t i)))=true)->(0:Int)<=i/\i<(d.length:Int)) (ck ((((decide ((0:Int)<=(gt t i)))&&(!(gt d i)))=true/\(decide ((p:Int)<0))=false)->(0:Int)<=i/\i<(t.length:Int)) (ck ((((decide ((0:Int)<=(gt t i)))&&(!(gt d i)))=true/\(decide ((p:Int)<0))=false)->(0:Int)<=p/\p<(t.length:Int)) (if(((decide ((0:Int)<=(gt t i)))&&(!(gt d i)))&&((decide ((p:Int)<0))||(decide (((gt t i):Int)<(gt t p)))))=true then(A n i (W (i+1))) else(A n p (W (i+1)))))))) else fin p)) (n:Nat) (hn:P<n) :
  ∃p,A n (-1) 0=fin p/\((p=-1/\∀i:Int,0<=i->i<(P:Int)->0<=gt t i->gt d i=true)\/(0<=p/\p<(P:Int)/\0<=gt t p/\gt d p=false/\∀i:Int,0<=i->i<(P:Int)->0<=gt t i->gt d i=false->gt t p<=gt t i)):=by
 refine zu (λn i(p:Int)=>A n p i) P (λi p=>(p=-1/\∀j:Int,0<=j->j<(i:Int)->0<=gt t j->gt d j=true)\/(0<=p/\p<(i:Int)/\0<=gt t p/\gt d p=false/\∀j:Int,0<=j->j<(i:Int)->0<=gt t j->gt d j=false->gt t p<=gt t j))
  (λo=>∃p,o=fin p/\((p=-1/\∀i:Int,0<=i->i<(P:Int)->0<=gt t i->gt d i=true)\/(0<=p/\p<(P:Int)/\0<=gt t p/\gt d p=false/\∀i:Int,0<=i->i<(P:Int)->0<=gt t i->gt d i=false->gt t p<=gt t i))) ?_ ?_ n (-1) (.inl ⟨rfl,λj z u=>by omega⟩) hn
 .intro n i p hi hI hs;rw[a0,if_pos (by simp;omega),z6 ⟨by omega,by omega⟩,z6 (λ_=>⟨by omega,by omega⟩),z6 (λ_=>⟨by omega,by omega⟩),W_id (by omega) (by omega)];have a2 :(decide ((p:Int)<0))=false->(0:Int)<=p/\p<(t.length:Int):=by
   intro h;simp only[decide_eq_false_iff_not] at h;rcases hI with⟨rfl,_⟩|⟨u,h2,_⟩
   .omega
   .exact⟨u,by omega⟩
  rw[z6 (λh=>a2 h.2)];have split_j:∀j:Int,j<((i+1:Nat):Int)->j<(i:Int)\/j =(i:Int):=λj h=>by omega
  by_cases c :(0<=gt t (i:Int)/\gt d (i:Int)=false)/\(p<0\/gt t (i:Int)<gt t p)
  .rw[if_pos (by simpa using c)];refine hs _ (.inr ⟨by omega,by omega,c.1.1,c.1.2,λj z u f g=>?_⟩);rcases split_j j u with h2|rfl
   .rcases hI with⟨_,h3⟩|⟨q0,_,_,_,h3⟩
    .have:=h3 j z h2 f;rw[g] at this;cases this
    .have:=h3 j z h2 f g
     have:=c.2.resolve_left (by omega);omega
   .exact w2y _
  .rw[if_neg (by simpa using c)];refine hs p ?_;rcases hI with⟨rfl,h3⟩|⟨q0,q1,q2,q3,h3⟩
   .refine .inl ⟨rfl,λj z u f=>?_⟩;rcases split_j j u with h2|rfl
    .exact h3 j z h2 f
    .cases a1:gt d (i:Int) with
     |true=>rfl
     |false=>exact absurd ⟨⟨f,a1⟩,.inl (by omega)⟩ c
   .refine .inr ⟨q0,by omega,q2,q3,λj z u f g=>?_⟩;rcases split_j j u with h2|rfl
    .exact h3 j z h2 f g
    .rcases Int.lt_or_le (gt t (i:Int)) (gt t p) with h4|h4
     .exact absurd ⟨⟨f,g⟩,.inr h4⟩ c
     .exact h4
 .intro n p hI;rw[a0,if_neg (by simp)];exact⟨p,rfl,hI⟩
theorem ym5(hG:Gr P near wt){p:Int}(hp:0<=p)(f:p<(P:Int)){k:Nat}(hk:k<=512){t0:List Int}{d:List Bool}(hD:DI P near wt s k t0 d)(a3:0<=gt t0 p)(B:Nat->Int->List Int->Option ρ)(K:List Int->Option ρ)(nb:List Int)(h:nb=gt near p)(E:Nat)(j:Int->Int)(g:Int->Int)
  (a2:∀q∈nb,0<=j q/\j q<(E:Int)/\g (j q)=wt p q)
  (a1:∀n i t,B (n+1) i t =(if(decide ((i:Int)<(nb.length:Int)))=true then(ck ((0:Int)<=i/\i<(nb.length:Int)) (ck ((0:Int)<=p/\p<(t.length:Int)) (ck ((0:Int)<=j (gt nb i)/\j (gt nb i)<(E:Int)) (ck ((0:Int)<=(gt nb i)/\(gt nb i)<(t.length:Int)) (ck (((decide (((gt t (gt nb i)):Int)<0))=false)->(0:Int)<=(gt nb i)/\(gt nb i)<(t.length:Int)) (if((decide (((gt t (gt nb i)):Int)<0))||(decide (((W ((gt t p)+g (j (gt nb i)))):Int)<(gt t (gt nb i)))))=true then(ck ((0:Int)<=(gt nb i)/\(gt nb i)<(t.length:Int)) (B n (W (i+1)) (zo t (gt nb i) (W ((gt t p)+g (j (gt nb i))))))) else(B n (W (i+1)) t))))))) else K t)) (n:Nat) (hn:nb.length<n) :
  ∃t,B n 0 t0=K t/\RndI P near wt s p k t0 d nb t:=by
 have a7:nb.length<=5000:=by rw[h];exact hG.size p hp f
 have a5:=(hD.bd p hp f).resolve_left (by omega);refine zu (λn i t=>B n i t) nb.length (λi t=>RndI P near wt s p k t0 d (nb.take i) t) (λo=>∃t,o=K t/\RndI P near wt s p k t0 d nb t) ?_ ?_ n t0 (yax hD) hn
 .intro n i t hi u hs;have z:gt nb (i:Int)∈gt near p:=by rw[<- h];exact z80 (by omega) (by omega)
  obtain⟨q0,q1⟩:=hG.rng p _ hp f z;obtain⟨w0,w1⟩:=hG.wt p _ hp f z;obtain⟨l0,l1,l2⟩:=a2 (gt nb (i:Int)) (by rw[h];rw[h] at z;exact z);have a6:=u.lt;have a0:=yf8 hG hp f a3 u z;rw[<- z03 nb i hi] at a0;have hr:=hs _ a0;have a4:=u.own;rw[a1,if_pos (by simp;omega),z6 ⟨by omega,by omega⟩,z6 ⟨by omega,by omega⟩,z6 ⟨l0,l1⟩,z6 ⟨by omega,by omega⟩,z6 (λ_=>⟨by omega,by omega⟩),l2,W_id (x:=gt t p+_) (by omega) (by omega),W_id (by omega) (by omega)];generalize gt nb (i:Int)=q at *;by_cases c :(decide (gt t q<0)||decide (gt t p+wt p q<gt t q))=true
  .rw[if_pos c] at hr⊢;rw[z6 ⟨by omega,by omega⟩];exact hr
  .rw[if_neg c] at hr⊢;exact hr
 .intro n t u;rw[a1,if_neg (by simp)];rw[w11] at u;exact⟨t,rfl,u⟩
theorem yfn(z:Gr P near wt)(hs:0<=s)(a0:s<(P:Int))(M:Nat->List Int->List Bool->Option ρ)(fin:List Int->Option ρ)(φ:Nat)
  (f:∀n k t d,k<=512->DI P near wt s k t d->(∃t',DF P near wt s t'/\M (n+1) t d=fin t')\/(∃t' p,0<=p/\p<(P:Int)/\DI P near wt s (k+1) t' (zo d p true)/\M (n+1) t d=M n t' (zo d p true))) :
  ∀n k t d,DI P near wt s k t d->P<n+k->∃t',DF P near wt s t'/\M n t d=fin t':=by
 intro n
 induction n with
 |zero=>
  intro k t d h hn;have hk:k<=P:=by rw[<- h.cnt,<- h.ld];exact w51
  omega
 |succ n ih=>
  intro k t d h hn;have hk:k<=P:=by rw[<- h.cnt,<- h.ld];exact w51
  have:=z.small;rcases f n k t d (by omega) h with g|⟨t',p,_,_,j,u⟩
  .exact g
  .rw[u];exact ih (k+1) t' _ j (by omega)
end walk
end Px
end
section
namespace Px
open Go
section
variable(φ:Nat)(K:List Edge->Int->Int->zk->List (List Int)->Ln->Option (zy×Int×Unit))(x:zk)
theorem zmh{i:Nat}(hi:i<x.edges.length){P:Nat}{near:List (List Int)}{line:Ln}{a b:Int}(hl:near.length=P)(f:0<=a)(j:a<(P:Int))(z :(gt near a).length<=10000)(hx:x.edges.length<=2048)(d:∀o,lget line a b=some o->0<=o/\o<(x.edges.length:Int)):
  (if(!(lget line a b).isSome)=true then(ck ((0:Int)<=a/\a<(near.length:Int)) (ck ((0:Int)<=a/\a<(near.length:Int)) (ck ((a:Int)=a) (ck (fits ((gt near a).length+([b]).length) 8) (ck ((0:Int)<=a/\a<(near.length:Int)) (ck ((a:Int)=a) (z5u φ K i ((lget line a b).getD default) ((lget line a b).isSome) x.edges (x.edges.length:Int) i x (keyP a b) (zo near a (gt near a++[b])) line))))))) else(z5u φ K i ((lget line a b).getD default) ((lget line a b).isSome) x.edges (x.edges.length:Int) i x (keyP a b) near line)) =
  K x.edges (x.edges.length:Int) ((i:Int)+1) x (ent1 x.edges i a b (near,line)).1 (ent1 x.edges i a b (near,line)).2:=by
 have g:W ((i:Int)+1) =(i:Int)+1:=W_id (by omega) (by omega);unfold z5u ent1;simp only[];cases h:lget line a b with
 |none=>simp only[w5d,w2m,if_true,w5r,Bool.true_or];rw[z6 ⟨f,by omega⟩,z6 ⟨f,by omega⟩,z6 trivial,z6 (yg1 (by simp;omega) (by omega)),z6 ⟨f,by omega⟩,z6 trivial,z6 (by simp),z6 (by simp),g]
 |some o=>
  have u:=d o h;simp only[w5e,w21,w09,if_false,w1b,w2c];rw[z6 (λ_=>⟨by omega,by omega⟩),z6 (λ_=>u),g];by_cases c:decide ((gt x.edges (i:Int)).minutes<(gt x.edges o).minutes)=true
  .rw[if_pos c,if_pos c]
  .rw[if_neg c,if_neg c]
theorem zx0{i:Nat}(j:i<x.edges.length){P:Nat}{near:List (List Int)}{line:Ln}{a b:Int}(u:near.length=P)(h:0<=a)(f:a<(P:Int))(g :(gt near a).length<=10000)(z:x.edges.length<=2048)(d:∀o,lget line a b=some o->0<=o/\o<(x.edges.length:Int)):
  (if(!(lget line a b).isSome)=true then(ck ((0:Int)<=a/\a<(near.length:Int)) (ck ((0:Int)<=a/\a<(near.length:Int)) (ck ((a:Int)=a) (ck (fits ((gt near a).length+([b]).length) 8) (ck ((0:Int)<=a/\a<(near.length:Int)) (ck ((a:Int)=a) (z5v φ K i ((lget line a b).getD default) ((lget line a b).isSome) x.edges (x.edges.length:Int) i x (keyP a b) (zo near a (gt near a++[b])) line))))))) else(z5v φ K i ((lget line a b).getD default) ((lget line a b).isSome) x.edges (x.edges.length:Int) i x (keyP a b) near line)) =
  K x.edges (x.edges.length:Int) ((i:Int)+1) x (ent1 x.edges i a b (near,line)).1 (ent1 x.edges i a b (near,line)).2:=zmh φ K x j u h f g z d
theorem zmg(hx:zaa x){i:Nat}(hi:i<x.edges.length){near d:List (List Int)}{line:Ln}(old:Int)(z:Bool)(hl:d.length=x.places.length)(ho:z=true->0<=old/\old<(x.edges.length:Int))
  (j :(gt d (gt x.edges (i:Int)).b).length<=10000) (g:∀a b o,lget line a b=some o->0<=o/\o<(x.edges.length:Int)) (f:Ln) (u:f=if(!z||decide ((gt x.edges (i:Int)).minutes<(gt x.edges old).minutes))=true then lset line (gt x.edges (i:Int)).a (gt x.edges (i:Int)).b i else line) :
  z5t φ K i old z i x.edges (x.edges.length:Int) i x (keyP (gt x.edges (i:Int)).a (gt x.edges (i:Int)).b) (gt x.edges (i:Int)) d line =
  K x.edges (x.edges.length:Int) ((i:Int)+1) x (ent1 x.edges i (gt x.edges (i:Int)).b (gt x.edges (i:Int)).a (d,f)).1 (ent1 x.edges i (gt x.edges (i:Int)).b (gt x.edges (i:Int)).a (d,f)).2:=by
 obtain⟨e1,e2,e3,e4,e5,_⟩:=hx.ends (i:=(i:Int)) (by omega) (by omega);unfold z5t;rw[z6 (λ_=>⟨by omega,by omega⟩),z6 (λh=>ho (by simpa using h))];by_cases c :(!z||decide ((gt x.edges (i:Int)).minutes<(gt x.edges old).minutes))=true
 .rw[if_pos c] at u⊢;subst u;refine zmh φ K x hi hl e3 e4 j hx.edges λo h=>?_
  rw[zjp,if_neg (λq=>e5 q.1.symm)] at h;exact g _ _ o h
 .rw[if_neg c] at u⊢;subst u;exact zx0 φ K x hi hl e3 e4 j hx.edges λo h=>g _ _ o h
end
section
variable(φ:Nat)(x:zk)
theorem y5w(hx:zaa x)(n:Nat){i:Nat}(hi:i<x.edges.length){s:List (List Int)×Ln}(h:HI x.edges x.places.length i s):
  z0c φ (n+1) x.edges (x.edges.length:Int) i x s.1 s.2=z0c φ n x.edges (x.edges.length:Int) ((i:Int)+1) x (entE x.edges i s).1 (entE x.edges i s).2:=by
 obtain⟨u,e2,e3,e4,e5,_⟩:=hx.ends (i:=(i:Int)) (by omega) (by omega);have hE:=hx.edges;have f:∀a b o,lget s.2 a b=some o->0<=o/\o<(x.edges.length:Int):=λa b o ho=>by obtain⟨h1,h2,_⟩:=h.line _ _ _ ho;exact⟨h1,by omega⟩
 have a1:=h.size _ u e2;have a2:=h.size _ e3 e4;have g:=h.len;rw[z0c,if_pos (by simp;omega),z6 ⟨by omega,by omega⟩];unfold entE;generalize a0:ent1 x.edges i (gt x.edges (i:Int)).a (gt x.edges (i:Int)).b s=s1;have d:=a0;unfold ent1 at d;cases z:lget s.2 (gt x.edges (i:Int)).a (gt x.edges (i:Int)).b with
 |none=>have j:cget z71 s.2 (upd (upd (λ_=>(default:Int)) 0 (gt x.edges (i:Int)).a) 1 (gt x.edges (i:Int)).b)=none:=z;rw[z] at d;simp only[w5d,w2m,if_true,w5r,Bool.true_or] at d;rw[j];simp only[w5d,w2m,if_true,w5r];rw[z6 ⟨u,by omega⟩,z6 ⟨u,by omega⟩,z6 trivial,z6 (yg1 (by simp;omega) (by omega)),z6 ⟨u,by omega⟩,z6 trivial,<- d];refine zmg φ (z0c φ n) x hx hi (near:=s.1) _ _ (by rw[z11];exact g) (λh=>by cases h) ?_ f _ (by simp);rw[z0b _ _ _ _ u (by omega) e3,if_neg (λq=>e5 q.symm)];omega
 |some o=>have j:cget z71 s.2 (upd (upd (λ_=>(default:Int)) 0 (gt x.edges (i:Int)).a) 1 (gt x.edges (i:Int)).b)=some o:=z;rw[z] at d;simp only[w5e,w21,w09,if_false,w1b,w2c] at d;rw[j];simp only[w5e,w21,w09,if_false,w1b];rw[<- d];exact zmg φ (z0c φ n) x hx hi (near:=s.1) _ _ g (λ_=>f _ _ _ z) (by omega) f _ (by simp)
theorem y5v(z:zaa x)(hφ:5000<φ)(line:Ln):z2o φ φ ((zia x).length:Int) 0 (zia x) line=some (⟨z5s x,line⟩,0,()):=by
 have d :(zia x).length=x.places.length:=(zee z x.edges.length (w16 _)).len;have hP:=z.places;have hE:=z.edges;obtain⟨n0,a0⟩:∃n0,n0=x.places.length:=⟨_,rfl⟩;rw[<- a0] at d hP;rw[d];have j:∀o:List (List Int),o.length=n0->(∀w:Nat,w<n0->gt o (w:Int)=zb4 (λa b=>decide (a<b)) (gt (zia x) (w:Int)))->o=z5s x:=by
  intro o ho h;unfold z5s;refine w5o (by simp[ho,d]) λi h1 h2=>?_
  have:=h i (by omega);rw[z68 h1,z68 (by omega)] at this;simpa using this
 refine zu (λn i o=>z2o φ n (n0:Int) i o line) n0 (λi o=>o.length=n0/\∀w:Nat,w<n0->gt o (w:Int)=if w<i then zb4 (λa b=>decide (a<b)) (gt (zia x) (w:Int)) else gt (zia x) (w:Int)) (λo=>o=some (⟨z5s x,line⟩,0,())) ?_ ?_ φ (zia x) ⟨d,λw h=>by rw[if_neg (by omega)]⟩ (by omega)
 .intro n i o hi ⟨g,f⟩ hs;have u:=(zee z x.edges.length (w16 _)).size (i:Int) (by omega) (by omega);have u :(gt (zia x) (i:Int)).length<=2*x.edges.length:=u;have a1:zw9 (gt (zia x) (i:Int))=some (zb4 (λa b=>decide (a<b)) (gt (zia x) (i:Int))):=by unfold zw9 zo1;rw[if_pos (by omega)]
  rw[z2o,if_pos (by simp;omega),z6 ⟨by omega,by omega⟩,z6 ⟨by omega,by omega⟩,z6 rfl,f i hi,if_neg (by omega),a1,w00,W_id (by omega) (by omega)];refine hs _ ⟨by rw[z11];exact g,λw h=>?_⟩;rw[z0b _ _ _ _ (by omega) (by omega) (by omega)];by_cases e:w=i
  .subst e;rw[if_pos rfl,if_pos (by omega)]
  .rw[if_neg (by omega),f w h];by_cases h2:w<i
   .rw[if_pos h2,if_pos (by omega)]
   .rw[if_neg h2,if_neg (by omega)]
 .intro n o ⟨g,f⟩;have:=j o g λw h=>by rw[f w h,if_pos h]
  subst this;rw[z2o,if_neg (by simp)]
theorem zwz(d:zaa x)(hφ:5000<φ):z0c φ φ x.edges (x.edges.length:Int) 0 x (List.replicate ((x.places.length:Int)).toNat (default:List Int)) []=some (⟨z5s x,zad x⟩,0,()):=by
 have u:=d.edges;have g :(List.replicate ((x.places.length:Int)).toNat (default:List Int),([]:Ln))=zbk x.edges x.places.length 0:=by simp[zbk]
 refine zu (λn i(s:List (List Int)×Ln)=>z0c φ n x.edges (x.edges.length:Int) i x s.1 s.2) x.edges.length (λi s=>s=zbk x.edges x.places.length i) (λo=>o=some (⟨z5s x,zad x⟩,0,())) ?_ ?_ φ (List.replicate ((x.places.length:Int)).toNat (default:List Int),[]) g (by omega)
 .intro n i s h f j;subst f;rw[y5w φ x d n h (zee d i (by omega))];exact j _ rfl
 .intro n s f;subst f;rw[z0c,if_neg (by simp)];exact y5v φ x d hφ (zad x)
theorem zzn(hx:zaa x)(hφ:800000<φ)(a0:Int)(h:0<=a0)(u:a0<(x.places.length:Int)):∃t,DF x.places.length (z5s x) (wtN x) a0 t/\zb6 φ x ⟨z5s x,zad x⟩ a0=some (t,()):=by
 have hG:=grN hx;have hP:=hx.places;have a2 :(List.replicate ((x.places.length:Int):Int).toNat (default:Int)).length=x.places.length:=by simp
 unfold zb6;rw[a2];have e1 :((x.places.length:Int)).toNat=x.places.length:=by simp
 rw[e1,z6 (mk_t _ _ (by omega) (by omega) (by omega)),z6 (mk_t _ _ (by omega) (by omega) (by omega))];have search:∀t:List Int,t.length=x.places.length->(∀i:Int,0<=i->i<(x.places.length:Int)->gt t i=if i=a0 then 0 else-1)->
   ∃t',DF x.places.length (z5s x) (wtN x) a0 t'/\z0d φ φ x ⟨z5s x,zad x⟩ t (List.replicate x.places.length (default:Bool))=some (t',()):=by
  intro t ht f;refine yfn hG h u (λn t d=>z0d φ n x ⟨z5s x,zad x⟩ t d) (λt'=>some (t',())) φ ?_ φ 0 t _ (yd5 h u t ht f) (by omega);intro n k t d hk g;obtain⟨p,a1,a3⟩:=ym9 hP (λm p i=>z2p φ (z0d φ n) m p (x.places.length:Int) i x ⟨z5s x,zad x⟩ t d)
   (λp=>(if(decide ((p:Int)<0))=true then(some (t,())) else(ck ((0:Int)<=p/\p<(d.length:Int)) (ck ((0:Int)<=p/\p<((z5s x).length:Int)) (z2q φ (z0d φ n) φ p (gt (z5s x) p) ((gt (z5s x) p).length:Int) 0 x ⟨z5s x,zad x⟩ t (zo d p true))))))
   t d g.lt g.ld (λm p i=>by rw[z2p]) φ (by omega)
  have hM:z0d φ (n+1) x ⟨z5s x,zad x⟩ t d=z2p φ (z0d φ n) φ (-1) (x.places.length:Int) 0 x ⟨z5s x,zad x⟩ t d:=by rw[z0d,g.lt]
  try simp only[] at a1
  simp only[hM];rw[a1];rcases a3 with⟨rfl,f⟩|⟨z,p1,p2,p3,p4⟩
  .left
   refine⟨t,ymr hG g f,?_⟩;rw[if_pos (by decide)]
  .right
   rw[if_neg (by simp;omega),z6 ⟨z,by rw[g.ld];exact p1⟩,z6 ⟨z,by rw[hG.len];exact p1⟩];obtain⟨t',h1,h2⟩:=ym5 hG z p1 hk g p2 (λm i t=>z2q φ (z0d φ n) m p (gt (z5s x) p) ((gt (z5s x) p).length:Int) i x ⟨z5s x,zad x⟩ t (zo d p true))
    (λt=>z0d φ n x ⟨z5s x,zad x⟩ t (zo d p true)) (gt (z5s x) p) rfl x.edges.length (λq=>(lget (zad x) p q).getD default) (λi=>(gt x.edges i).minutes)
    (λq hq=>by obtain⟨i,hi,i0,i1,_⟩:=zup hx z p1 hq;rw[hi];exact⟨i0,i1,by unfold wtN;rw[hi]⟩) (λm i t=>by rw[z2q]) φ (by have:=hG.size p z p1;omega)
   exact⟨t',p,z,p1,yf9 hG z p1 g h u p2 p3 p4 h2,h1⟩
 refine zu (λn i t=>z44 φ n a0 (x.places.length:Int) i x ⟨z5s x,zad x⟩ t (List.replicate x.places.length (default:Bool))) x.places.length (λi t=>t.length=x.places.length/\∀j:Int,0<=j->j<(i:Int)->gt t j=-1) (λo=>∃t,DF x.places.length (z5s x) (wtN x) a0 t/\o=some (t,())) ?_ ?_ φ (List.replicate x.places.length (default:Int)) ⟨by simp,λj j0 j1=>by omega⟩ (by omega)
 .intro n i t hi ⟨h1,h2⟩ h;rw[z44,if_pos (by simp;omega),z6 ⟨by omega,by omega⟩,W_id (by omega) (by omega)];refine h _ ⟨by rw[z11];exact h1,λj j0 j1=>?_⟩;rw[z0b _ _ _ _ (by omega) (by omega) j0];by_cases e:j =(i:Int)
  .rw[if_pos e]
  .rw[if_neg e];exact h2 j j0 (by omega)
 .intro n t ⟨h1,h2⟩;rw[z44,if_neg (by simp),z6 ⟨h,by omega⟩];exact search (zo t a0 0) (by rw[z11];exact h1) (λi i0 i1=>by
   rw[z0b _ _ _ _ h (by omega) i0];split
   .rfl
   .exact h2 i i0 i1)
end
theorem yce(φ:Nat)(hφ:800000<φ)(x:zk)(a b:Int):∃e,(z7c x=0/\(0<=a/\a<(x.places.length:Int))/\(0<=b/\b<(x.places.length:Int))/\z4v φ x [a,b]=some (⟨z5s x,zad x⟩,0,()))\/(e≠0/\∃g,z4v φ x [a,b]=some (g,e,())):=by
 unfold z4v;rw[z8a _ (by omega),w00];by_cases d:z7c x=0
 case neg=>exact⟨z7c x,.inr ⟨d,_,by rw[if_pos (by simpa using d)]⟩⟩
 have hx:=y6g d;have u:=hx.places;rw[if_neg (by simp[d])];obtain⟨m,rfl⟩:∃m,φ=m+3:=⟨φ-3,by omega⟩;have f:gt [a,b] 0=a:=rfl;have g1:gt [a,b] 1=b:=rfl;have L :((([a,b]:List Int).length:Nat):Int)=2:=rfl;rw[L,show m+3 =(m+2)+1 from rfl,z18,if_pos (by decide),z6 (by rw[L];decide),f];by_cases h:0<=a/\a<(x.places.length:Int)
 case neg=>rw[if_pos (by simp;omega)];exact⟨1,.inr ⟨by omega,_,rfl⟩⟩
 rw[if_neg (by simp;omega),show W (0+1)=1 by rfl,show m+2 =(m+1)+1 from rfl,z18,if_pos (by decide),z6 (by rw[L];decide),g1];by_cases j:0<=b/\b<(x.places.length:Int)
 case neg=>rw[if_pos (by simp;omega)];exact⟨1,.inr ⟨by omega,_,rfl⟩⟩
 rw[if_neg (by simp;omega),show W (1+1)=2 by rfl,z18,if_neg (by decide),z6 (mk_t _ _ (by omega) (by omega) (by omega)),zwz (m+1+1+1) x hx (by omega)];exact⟨0,.inl ⟨d,h,j,rfl⟩⟩
theorem y5m(φ:Nat)(hφ:800000<φ)(x:zk)(a b:Int):∃t e,z09 φ x a b=some (t,e,())/\0<=t/\t<=51200000:=by
 unfold z09;obtain⟨e,⟨hn,u,d,h⟩|⟨he,g,h⟩⟩:=yce φ hφ x a b
 .have hx:=y6g hn;rw[h,w00,if_neg (by simp)];obtain⟨t,f,z⟩:=zzn φ x hx hφ a u.1 u.2;rw[z,w00,z6 ⟨d.1,by rw[f.lt];exact d.2⟩];rcases f.bd b d.1 d.2 with j|⟨j,h4⟩
  .rw[if_pos (by simp;omega)];exact⟨0,80,rfl,by omega,by omega⟩
  .rw[if_neg (by simp;omega)];exact⟨_,0,rfl,j,h4⟩
 .rw[h,w00,if_pos (by simpa using he)];exact⟨0,e,rfl,by omega,by omega⟩
end Px
end
section
namespace Px
namespace BF
section
variable{β:Type}(si sj:β->Nat)(sw:β->Int)
abbrev X:=Nat->Option Int
def ltO(a:Int):Option Int->Bool
 |none=>true
 |some b=>decide (a<b)
def imp(x:X)(b:β):Bool:=match x (si b) with
 |none=>false
 |some a=>ltO (a+sw b) (x (sj b))
def rlx(x:X)(b:β):X:=match x (si b) with
 |none=>x
 |some a=>if ltO (a+sw b) (x (sj b))=true then λv=>if v=sj b then some (a+sw b) else x v else x
def rnd(L:List β)(x:X):X:=L.foldl (rlx si sj sw) x
def rnds(L:List β)(x:X):Nat->X
 |0=>x
 |n+1=>rnd si sj sw L (rnds L x n)
inductive Wk (x0:X) (L:List β):Nat->Nat->Int->Prop where
 |nil {v:Nat} {c:Int} : x0 v=some c->Wk x0 L 0 v c
 |step {m:Nat} {c:Int} {b:β} : Wk x0 L m (si b) c->b∈L->Wk x0 L (m+1) (sj b) (c+sw b)
def le(o:Option Int)(c:Int):Prop:=∃a,o=some a/\a<=c
variable{si sj sw}
theorem rlx_not{x:X}{b:β}(h:imp si sj sw x b=false):rlx si sj sw x b=x:=by
 unfold imp at h;unfold rlx;cases hx:x (si b) with
 |none=>rfl
 |some a=>rw[hx] at h;simp only at h⊢;rw[if_neg (by rw[h];simp)]
theorem rlx_imp{x:X}{b:β}(h:imp si sj sw x b=true):∃a,x (si b)=some a/\ltO (a+sw b) (x (sj b))=true/\rlx si sj sw x b=λv=>if v=sj b then some (a+sw b) else x v:=by
 unfold imp at h;unfold rlx;cases hx:x (si b) with
 |none=>rw[hx] at h;cases h
 |some a=>rw[hx] at h;simp only at h⊢;exact⟨a,rfl,h,by rw[if_pos h]⟩
theorem rlx_mono{x:X}{b:β}{v:Nat}{c:Int}(h:le (x v) c):le (rlx si sj sw x b v) c:=by
 cases f:imp si sj sw x b with
 |false=>rw[rlx_not f];exact h
 |true=>
  obtain⟨a,z,g,e⟩:=rlx_imp f;rw[e];simp only;split
  .rename_i u;subst u;obtain⟨d,j,hc⟩:=h;rw[j] at g;simp only[ltO,decide_eq_true_eq] at g;exact⟨_,rfl,by omega⟩
  .exact h
theorem rlx_new{x:X}{b:β}{c:Int}(h:le (x (si b)) c):le (rlx si sj sw x b (sj b)) (c+sw b):=by
 obtain⟨a,j,z⟩:=h;cases f:imp si sj sw x b with
 |false=>
  rw[rlx_not f];unfold imp at f;rw[j] at f;simp only at f;cases hx:x (sj b) with
  |none=>rw[hx] at f;cases f
  |some d=>rw[hx] at f;simp only[ltO,decide_eq_false_iff_not] at f;exact⟨d,rfl,by omega⟩
 |true=>obtain⟨u,g,hl,e⟩:=rlx_imp f;rw[j] at g;cases g;rw[e];exact⟨_,if_pos rfl,by omega⟩
theorem rnd_mono{v:Nat}{c:Int}: ∀(L:List β)(x:X),le (x v) c->le (rnd si sj sw L x v) c
 | [],x,h=>h
 |b::L,x,h=>rnd_mono L _ (rlx_mono h)
theorem rnd_new{c:Int}: ∀(L:List β)(x:X)(b:β),b∈L->le (x (si b)) c->le (rnd si sj sw L x (sj b)) (c+sw b)
 |b'::L,x,b,hb,h=>by
  rcases w05.1 hb with rfl|hb
  .exact rnd_mono L _ (rlx_new h)
  .exact rnd_new L _ b hb (rlx_mono h)
theorem rnds_mono(L:List β){x:X}{v:Nat}{c:Int}(h:le (x v) c):∀n,le (rnds si sj sw L x n v) c
 |0=>h
 |n+1=>rnd_mono L _ (rnds_mono L h n)
theorem rnds_low{L:List β}{d:X}: ∀(k m v:Nat)(c:Int),Wk si sj sw d L m v c->m<=k->le (rnds si sj sw L d k v) c
 |k,0,v,c,h,g=>by cases h with|nil h=>exact rnds_mono L ⟨c,h,w2y _⟩ k
 |k+1,m+1,v,c,h,g=>by
  cases h with
  |step h f=>exact rnd_new L _ _ f (rnds_low k m _ _ h (by omega))
def Inv(si sj:β->Nat)(sw:β->Int)(x0:X)(L:List β)(x:X):Prop:=∀v a,x v=some a->∃m,Wk si sj sw x0 L m v a
theorem Inv.rlx{j x:X}{L:List β}{b:β}(h:Inv si sj sw j L x)(z:b∈L):Inv si sj sw j L (rlx si sj sw x b):=by
 cases g:imp si sj sw x b with
 |false=>rw[rlx_not g];exact h
 |true=>
  obtain⟨a,u,hl,e⟩:=rlx_imp g;intro v d f;rw[e] at f;simp only at f;split at f
  .rename_i hj;subst hj;cases f;obtain⟨m,hm⟩:=h _ _ u;exact⟨_,.step hm z⟩
  .exact h v d f
theorem Inv.rnd{f:X}{L:List β}: ∀(M:List β)(x:X),(∀b∈M,b∈L)->Inv si sj sw f L x->Inv si sj sw f L (rnd si sj sw M x)
 | [],x,_,h=>h
 |b::M,x,d,h=>Inv.rnd M _ (λb g=>d b (w0g _ g)) (h.rlx (d b (w0n ..)))
theorem Inv.rnds{d:X}{L:List β}: ∀n,Inv si sj sw d L (rnds si sj sw L d n)
 |0=>λv a h=>⟨0,.nil h⟩
 |n+1=>Inv.rnd L _ (λ_ h=>h) (Inv.rnds n)
theorem least{Q:Nat->Prop}: ∀n,Q n->∃m,Q m/\∀k,Q k->m<=k:=by
 intro n
 induction n using Nat.strongRecOn with
 |_ n j=>
  intro h;by_cases d:∃k,k<n/\Q k
  .obtain⟨k,d,f⟩:=d;exact j k d f
  .exact⟨n,h,λk f=>w41 λg=>d ⟨k,g,f⟩⟩
structure Feas(si sj:β->Nat)(sw:β->Int)(x0:X)(L:List β)(n:Nat):Prop where
 ex:∃(p:Nat->Int)(C:Int),(∀b∈L,p (sj b)<=p (si b)+sw b)/\∀v c,x0 v=some c->p v-c<=C
 j:∀b∈L,sj b<n
 z:∀v c,x0 v=some c->v<n
theorem Wk.lt{d:X}{L:List β}{n:Nat}(F:Feas si sj sw d L n){m v:Nat}{c:Int}(h:Wk si sj sw d L m v c):v<n:=by
 cases h with
 |nil h=>exact F.z _ _ h
 |step h f=>exact F.j _ f
theorem Wk.low{g:X}{L:List β}{p:Nat->Int}{C:Int}(d:∀b∈L,p (sj b)<=p (si b)+sw b)(f:∀v c,g v=some c->p v-c<=C):∀{m v:Nat}{c:Int},Wk si sj sw g L m v c->p v-c<=C
 |0,_,_,.nil h=>f _ _ h
 |_+1,_,_,.step h j=>by have:=Wk.low d f h;have:=d _ j;omega
structure Mn(si sj:β->Nat)(sw:β->Int)(x0:X)(L:List β)(v m:Nat)(c:Int):Prop where
 w:Wk si sj sw x0 L m v c
 lo:∀m' c',Wk si sj sw x0 L m' v c'->c<=c'
 sh:∀m',Wk si sj sw x0 L m' v c->m<=m'
theorem Mn.ex{d:X}{L:List β}{n:Nat}(F:Feas si sj sw d L n){m v:Nat}{c:Int}(h:Wk si sj sw d L m v c):∃m c,Mn si sj sw d L v m c:=by obtain⟨p,C,u,z⟩:=F.ex;obtain⟨k,⟨m1,g,hk,hw⟩,hl⟩:=least (Q:=λk=>∃m c,(C-(p v-c)).toNat=k/\Wk si sj sw d L m v c) _ ⟨m,c,rfl,h⟩;obtain⟨m2,hm,f⟩:=least (Q:=λm=>Wk si sj sw d L m v g) m1 hw;refine⟨m2,g,hm,λm' c' j=>?_,f⟩;have:=hl _ ⟨m',c',rfl,j⟩;have:=Wk.low u z hw;have:=Wk.low u z j;omega
theorem Mn.pred{j:X}{L:List β}{v m:Nat}{c:Int}(h:Mn si sj sw j L v (m+1) c):∃u d,Mn si sj sw j L u m d:=by
 obtain⟨w,z,hm⟩:=h;cases w with
 | @step _ d b hw g=>
  refine⟨si b,d,hw,λm' c' f=>?_,λm' f=>?_⟩
  .have:=z _ _ (.step f g);omega
  .have:=hm _ (.step f g);omega
theorem Mn.all{f:X}{L:List β}: ∀{m v:Nat}{c:Int},Mn si sj sw f L v m c->∀k,k<=m->∃u d,Mn si sj sw f L u k d
 |0,v,c,h,k,j=>by
  have:k=0:=by omega
  subst this;exact⟨v,c,h⟩
 |m+1,v,c,h,k,j=>by
  by_cases e:k=m+1
  .subst e;exact⟨v,c,h⟩
  .obtain⟨u,d,g⟩:=h.pred;exact Mn.all g k (by omega)
theorem Mn.uniq{j:X}{L:List β}{v m g:Nat}{c f:Int}(h:Mn si sj sw j L v m c)(d:Mn si sj sw j L v g f):c=f/\m=g:=by have e:c=f:=Int.le_antisymm (h.lo _ _ d.w) (d.lo _ _ h.w);subst e;exact⟨rfl,Nat.le_antisymm (h.sh _ d.w) (d.sh _ h.w)⟩
theorem holes:∀(n M:Nat)(R:Nat->Nat->Prop),(∀k z u,R k u->R z u->k=z)->(∀k,k<M->∃u,u<n/\R k u)->M<=n
 |0,M,R,_,h=>by
  cases M with
  |zero=>exact w16 _
  |succ M=>obtain⟨u,hu,_⟩:=h 0 (by omega);omega
 |n+1,M,R,g,h=>by
  by_cases j:∃k,k<M/\R k n
  .obtain⟨k0,a0,hr⟩:=j;have:=holes n (M-1) (λk u=>R (if k<k0 then k else k+1) u) (λk z u h1 h2=>by
    have:=g _ _ _ h1 h2;split at this<;>split at this<;>omega) λk j=>by
    obtain⟨u,hu,d⟩:=h (if k<k0 then k else k+1) (by split<;>omega);refine⟨u,?_,d⟩;by_cases e:u=n
    .subst e;have:=g _ _ _ d hr;split at this<;>omega
    .omega
   omega
  .have:=holes n M R g λk f=>by
    obtain⟨u,hu,d⟩:=h k f;exact⟨u,by
     by_cases e:u=n
     .subst e;exact(j ⟨k,f,d⟩).elim
     .omega,d⟩
   omega
theorem Mn.short{f:X}{L:List β}{n:Nat}(F:Feas si sj sw f L n){m v:Nat}{c:Int}(h:Mn si sj sw f L v m c):m<n:=holes n (m+1) (λk u=>∃d,Mn si sj sw f L u k d) (λk z u ⟨_,a⟩ ⟨_,b⟩=>(a.uniq b).2) λk j=>by obtain⟨u,d,g⟩:=h.all k (by omega);exact⟨u,g.w.lt F,d,g⟩
theorem done{g:X}{L:List β}{n:Nat}(F:Feas si sj sw g L n){k:Nat}(hk:n<=k+1):∀b∈L,imp si sj sw (rnds si sj sw L g k) b=false:=by
 intro b h;unfold imp;cases hx:rnds si sj sw L g k (si b) with
 |none=>rfl
 |some a=>obtain⟨m,j⟩:=Inv.rnds k _ _ hx;obtain⟨m',d,f⟩:=Mn.ex F (.step j h);obtain⟨e,u,z⟩:=rnds_low k m' _ _ f.w (by have:=f.short F;omega);have:=f.lo _ _ (.step j h);rw[u];simp only[ltO,decide_eq_false_iff_not];omega
def Fix(si sj:β->Nat)(sw:β->Int)(L:List β)(x:X):Prop:=∀b∈L,imp si sj sw x b=false
theorem Fix.le{L:List β}{x:X}(h:Fix si sj sw L x){b:β}(g:b∈L){a:Int}(f:x (si b)=some a):∃d,x (sj b)=some d/\d<=a+sw b:=by
 have:=h b g;unfold imp at this;rw[f] at this;simp only at this;cases hx:x (sj b) with
 |none=>rw[hx] at this;cases this
 |some d=>rw[hx] at this;simp only[ltO,decide_eq_false_iff_not] at this;exact⟨d,rfl,by omega⟩
theorem Fix.wk{j:X}{L:List β}{x:X}(h:Fix si sj sw L x)(g:∀v c,j v=some c->BF.le (x v) c):∀{m v:Nat}{c:Int},Wk si sj sw j L m v c->BF.le (x v) c
 |0,_,_,.nil f=>g _ _ f
 |_+1,_,_,.step (c:=c) f z=>by obtain⟨a,u,hc⟩:=Fix.wk h g f;obtain⟨d,hd,hl⟩:=h.le z u;exact⟨d,hd,by omega⟩
theorem Fix.uniq{d:X}{L:List β}{x y:X}(hx:Fix si sj sw L x)(hy:Fix si sj sw L y)(ix:Inv si sj sw d L x)(iy:Inv si sj sw d L y)(x1:∀v c,d v=some c->BF.le (x v) c)(y1:∀v c,d v=some c->BF.le (y v) c):x=y:=by
 funext v;have h:∀(x y:X),Fix si sj sw L y->Inv si sj sw d L x->(∀v c,d v=some c->BF.le (y v) c)->∀a,x v=some a->BF.le (y v) a:=λx y hy ix y1 a g=>by obtain⟨m,hm⟩:=ix v a g;exact hy.wk y1 hm
 cases j:x v with
 |none=>
  cases h2:y v with
  |none=>rfl
  |some b=>obtain⟨a,g,_⟩:=h y x hx iy x1 b h2;rw[j] at g;cases g
 |some a=>obtain⟨b,hb,u⟩:=h x y hy ix y1 a j;obtain⟨a',f,z⟩:=h y x hx iy x1 b hb;rw[j] at f;cases f;rw[hb,Int.le_antisymm u z]
end
end BF
end Px
end
section
namespace Px
open Go
def zrk(e:Edge)(a b:Int):Prop:=(e.a=a/\e.b=b)\/(e.a=b/\e.b=a)
instance(e:Edge)(a b:Int):Decidable (zrk e a b):=inferInstanceAs (Decidable (_\/_))
def lnF(es:List Edge)(a b:Int):Nat->Int
 |0=>-1
 |k+1=>if zrk (gt es (k:Int)) a b/\(lnF es a b k<0\/(gt es (k:Int)).minutes<(gt es (lnF es a b k)).minutes) then(k:Int) else lnF es a b k
theorem y4c(es:List Edge)(a b:Int)(k:Nat):lnF es a b (k+1)=if zrk (gt es (k:Int)) a b/\(lnF es a b k<0\/(gt es (k:Int)).minutes<(gt es (lnF es a b k)).minutes) then(k:Int) else lnF es a b k:=rfl
theorem y4b(es:List Edge)(a b:Int):∀k:Nat,(-1<=lnF es a b k/\lnF es a b k<(k:Int))/\(0<=lnF es a b k->zrk (gt es (lnF es a b k)) a b)/\∀j:Nat,j<k->zrk (gt es (j:Int)) a b->0<=lnF es a b k/\(gt es (lnF es a b k)).minutes<=(gt es (j:Int)).minutes
 |0=>⟨⟨by simp[lnF],by simp[lnF]⟩,by simp[lnF],λj h=>by omega⟩
 |k+1=>by
  obtain⟨⟨u,h2⟩,z,g⟩:=y4b es a b k;unfold lnF;split
  .rename_i f;refine⟨⟨by omega,by omega⟩,λ_=>f.1,λj h d=>⟨by omega,?_⟩⟩;by_cases e:j=k
   .subst e;exact w2y _
   .have:=g j (by omega) d
    rcases f.2 with q|q<;>omega
  .rename_i f;refine⟨⟨u,by omega⟩,z,λj h d=>?_⟩;by_cases e:j=k
   .subst e;by_cases q:lnF es a b j<0
    .exact absurd ⟨d,.inl q⟩ f
    .refine⟨by omega,?_⟩;by_cases q2 :(gt es (j:Int)).minutes<(gt es (lnF es a b j)).minutes
     .exact absurd ⟨d,.inr q2⟩ f
     .omega
   .exact g j (by omega) d
theorem zu3(es:List Edge)(i a b:Int)(s:List (List Int)×Ln)(c d:Int):lget (ent1 es i a b s).2 c d=if(c=a/\d=b)/\((lget s.2 a b).isSome=false\/(gt es i).minutes<(gt es ((lget s.2 a b).getD default)).minutes) then some i else lget s.2 c d:=by
 unfold ent1;simp only;by_cases f :(lget s.2 a b).isSome=false\/(gt es i).minutes<(gt es ((lget s.2 a b).getD default)).minutes
 .rw[if_pos (by simpa using f),zjp];by_cases q:c=a/\d=b
  .rw[if_pos q,if_pos ⟨q,f⟩]
  .rw[if_neg q,if_neg (λr=>q r.1)]
 .rw[if_neg (by simpa using f),if_neg (λr=>f r.2)]
theorem zuo{x:zk}(h:zaa x):∀k,k<=x.edges.length->∀c d:Int,lget (zbk x.edges x.places.length k).2 c d=if lnF x.edges c d k<0 then none else some (lnF x.edges c d k)
 |0,_,c,d=>by simp[zbk,lget,cget,lnF]
 |k+1,hk,c,d=>by
  obtain⟨_,_,_,_,g,_⟩:=h.ends (i:=(k:Int)) (by omega) (by omega);have u:=zuo h k (by omega);have key:∀a b,(lget (zbk x.edges x.places.length k).2 a b).isSome=false\/(gt x.edges (k:Int)).minutes<(gt x.edges ((lget (zbk x.edges x.places.length k).2 a b).getD default)).minutes↔lnF x.edges a b k<0\/(gt x.edges (k:Int)).minutes<(gt x.edges (lnF x.edges a b k)).minutes:=by
   intro a b;rw[u a b];by_cases q:lnF x.edges a b k<0
   .rw[if_pos q];simp[q]
   .rw[if_neg q];simp[q]
  show lget (entE x.edges k (zbk x.edges x.places.length k)).2 c d=_;unfold entE;have e2:lget (ent1 x.edges k (gt x.edges (k:Int)).a (gt x.edges (k:Int)).b (zbk x.edges x.places.length k)).2 (gt x.edges (k:Int)).b (gt x.edges (k:Int)).a=lget (zbk x.edges x.places.length k).2 (gt x.edges (k:Int)).b (gt x.edges (k:Int)).a:=by rw[zu3,if_neg (λq=>g q.1.2)]
  rw[zu3,e2,zu3];simp only[key];have j:zrk (gt x.edges (k:Int)) c d/\(lnF x.edges c d k<0\/(gt x.edges (k:Int)).minutes<(gt x.edges (lnF x.edges c d k)).minutes)->lnF x.edges c d (k+1) =(k:Int):=λq=>by rw[y4c,if_pos q]
  have z:¬(zrk (gt x.edges (k:Int)) c d/\(lnF x.edges c d k<0\/(gt x.edges (k:Int)).minutes<(gt x.edges (lnF x.edges c d k)).minutes))->lnF x.edges c d (k+1)=lnF x.edges c d k:=λq=>by rw[y4c,if_neg q]
  by_cases q1:c =(gt x.edges (k:Int)).a/\d =(gt x.edges (k:Int)).b
  .obtain⟨rfl,rfl⟩:=q1;rw[if_neg (λq=>g q.1.1)];by_cases f:lnF x.edges (gt x.edges (k:Int)).a (gt x.edges (k:Int)).b k<0\/(gt x.edges (k:Int)).minutes<(gt x.edges (lnF x.edges (gt x.edges (k:Int)).a (gt x.edges (k:Int)).b k)).minutes
   .rw[j ⟨.inl ⟨rfl,rfl⟩,f⟩,if_pos ⟨⟨rfl,rfl⟩,f⟩,if_neg (by omega)]
   .rw[z (λq=>f q.2),if_neg (λq=>f q.2),u]
  .by_cases q3:c =(gt x.edges (k:Int)).b/\d =(gt x.edges (k:Int)).a
   .obtain⟨rfl,rfl⟩:=q3;by_cases f:lnF x.edges (gt x.edges (k:Int)).b (gt x.edges (k:Int)).a k<0\/(gt x.edges (k:Int)).minutes<(gt x.edges (lnF x.edges (gt x.edges (k:Int)).b (gt x.edges (k:Int)).a k)).minutes
    .rw[j ⟨.inr ⟨rfl,rfl⟩,f⟩,if_pos ⟨⟨rfl,rfl⟩,f⟩,if_neg (by omega)]
    .rw[z (λq=>f q.2),if_neg (λq=>f q.2),if_neg (λq=>q1 q.1),u]
   .rw[z (λq=>by
     rcases q.1 with⟨r1,r2⟩|⟨r1,r2⟩
     .exact q1 ⟨r1.symm,r2.symm⟩
     .exact q3 ⟨r2.symm,r1.symm⟩),if_neg (λq=>q3 q.1),if_neg (λq=>q1 q.1),u]
abbrev DE3:=Nat×Nat×Int
abbrev dI(e:DE3):Nat:=e.1
abbrev dJ(e:DE3):Nat:=e.2.1
abbrev dW(e:DE3):Int:=e.2.2
def dirs(e:Edge):List DE3:=[(e.a.toNat,e.b.toNat,e.minutes),(e.b.toNat,e.a.toNat,e.minutes)]
def dE(x:zk):List DE3:=x.edges.flatMap dirs
def tf(t:List Int):BF.X:=λv=>if v<t.length/\0<=gt t (v:Int) then some (gt t (v:Int)) else none
def tz(s:Int):BF.X:=λv=>if(v:Int)=s then some 0 else none
theorem y2l{t:List Int}{i:Int}(d:0<=i)(h:i<(t.length:Int)):tf t i.toNat=if 0<=gt t i then some (gt t i) else none:=by
 unfold tf;rw[show ((i.toNat:Nat):Int)=i by omega];by_cases q:0<=gt t i
 .rw[if_pos ⟨by omega,q⟩,if_pos q]
 .rw[if_neg (λr=>q r.2),if_neg q]
def ryl(t:List Int)(a b m:Int):List Int:=if 0<=gt t a/\(gt t b<0\/gt t a+m<gt t b) then zo t b (gt t a+m) else t
theorem y5c{t:List Int}{a b m:Int}(ha:0<=a)(g:a<(t.length:Int))(u:0<=b)(f:b<(t.length:Int))(hm:1<=m):
  tf (ryl t a b m)=BF.rlx dI dJ dW (tf t) (a.toNat,b.toNat,m)/\(BF.imp dI dJ dW (tf t) (a.toNat,b.toNat,m)=decide (0<=gt t a/\(gt t b<0\/gt t a+m<gt t b))):=by
 have j:=y2l ha g;have e2:=y2l u f;have d:BF.imp dI dJ dW (tf t) (a.toNat,b.toNat,m)=decide (0<=gt t a/\(gt t b<0\/gt t a+m<gt t b)):=by
  unfold BF.imp;simp only[dI,dJ,dW,j,e2];by_cases q:0<=gt t a
  .rw[if_pos q];by_cases q2:0<=gt t b
   .rw[if_pos q2];simp only[BF.ltO];rw[decide_eq_decide];omega
   .rw[if_neg q2];simp only[BF.ltO]
    symm;rw[decide_eq_true_eq];omega
  .rw[if_neg q]
   symm;rw[decide_eq_false_iff_not];exact λr=>q r.1
 refine⟨?_,d⟩;unfold ryl;by_cases q:0<=gt t a/\(gt t b<0\/gt t a+m<gt t b)
 .rw[if_pos q];rw[decide_eq_true q] at d;obtain⟨c,z,_,er⟩:=BF.rlx_imp d;rw[er];simp only[dI,j,if_pos q.1,w01] at z;subst z;funext v;unfold tf;rw[z11];simp only[dJ,dW];by_cases h:v<t.length
  .rw[z0b _ _ _ _ u f (by omega)];by_cases e :(v:Int)=b
   .rw[if_pos e,if_pos (show v<t.length/\0<=gt t a+m from⟨h,by omega⟩),if_pos (show v=b.toNat by omega)]
   .rw[if_neg e,if_neg (show ¬v=b.toNat by omega)]
  .rw[if_neg (λr=>h r.1),if_neg (show ¬v=b.toNat by omega),if_neg (λr=>h r.1)]
 .rw[if_neg q];rw[decide_eq_false q] at d;exact(BF.rlx_not d).symm
def rst(t:List Int)(e:Edge):List Int:=ryl (ryl t e.a e.b e.minutes) e.b e.a e.minutes
def bett(x y:Int):Int:=if x<0 then y else min2 x y
theorem zqr(t:List Int)(a b m:Int):(ryl t a b m).length=t.length:=by
 unfold ryl;split
 .exact z11 ..
 .rfl
theorem ym7{t:List Int}{a b m:Int}(ha:0<=a)(z:a<(t.length:Int))(j:0<=b)(f:b<(t.length:Int))(a0:a≠b)(hm:1<=m)(a1 : -1<=gt t a)(a2 : -1<=gt t b):
  (if 0<=gt t b then zo (if 0<=gt t a then zo t b (bett (gt t b) (gt t a+m)) else t) a (bett (gt t a) (gt t b+m)) else(if 0<=gt t a then zo t b (bett (gt t b) (gt t a+m)) else t))=ryl (ryl t a b m) b a m:=by
 have d:∀(u:List Int)(i:Int),0<=i->i<(u.length:Int)->zo u i (gt u i)=u:=λu i h0 h1=>y72 u h0 h1
 by_cases q1:0<=gt t a
 .by_cases g:0<=gt t b
  .rw[if_pos g,if_pos q1];by_cases q3:gt t a+m<gt t b
   .have h:ryl t a b m=zo t b (gt t a+m):=by unfold ryl;rw[if_pos ⟨q1,.inr q3⟩]
    rw[h];have g1:gt (zo t b (gt t a+m)) b=gt t a+m:=by rw[z0b _ _ _ _ j f j,if_pos rfl]
    have g2:gt (zo t b (gt t a+m)) a=gt t a:=by rw[z0b _ _ _ _ j f ha,if_neg a0]
    have e2:ryl (zo t b (gt t a+m)) b a m=zo t b (gt t a+m):=by unfold ryl;rw[g1,g2,if_neg (by omega)]
    rw[e2,show bett (gt t b) (gt t a+m)=gt t a+m by unfold bett min2;rw[if_neg (by omega)];split<;>omega,show bett (gt t a) (gt t b+m)=gt t a by unfold bett min2;rw[if_neg (by omega)];split<;>omega];have:=d (zo t b (gt t a+m)) a ha (by rw[z11];exact z)
    rwa [g2] at this
   .have h:ryl t a b m=t:=by unfold ryl;rw[if_neg (by omega)]
    rw[h,show bett (gt t b) (gt t a+m)=gt t b by unfold bett min2;rw[if_neg (by omega)];split<;>omega,d t b j f];unfold ryl;by_cases q4:gt t b+m<gt t a
    .rw[if_pos ⟨g,.inr q4⟩,show bett (gt t a) (gt t b+m)=gt t b+m by unfold bett min2;rw[if_neg (by omega)];split<;>omega]
    .rw[if_neg (by omega),show bett (gt t a) (gt t b+m)=gt t a by unfold bett min2;rw[if_neg (by omega)];split<;>omega,d t a ha z]
  .rw[if_neg g,if_pos q1];have h:ryl t a b m=zo t b (gt t a+m):=by unfold ryl;rw[if_pos ⟨q1,.inl (by omega)⟩]
   have g1:gt (zo t b (gt t a+m)) b=gt t a+m:=by rw[z0b _ _ _ _ j f j,if_pos rfl]
   have g2:gt (zo t b (gt t a+m)) a=gt t a:=by rw[z0b _ _ _ _ j f ha,if_neg a0]
   rw[h,show bett (gt t b) (gt t a+m)=gt t a+m by unfold bett;rw[if_pos (by omega)]];unfold ryl;rw[g1,g2,if_neg (by omega)]
 .have h:ryl t a b m=t:=by unfold ryl;rw[if_neg (λr=>q1 r.1)]
  rw[if_neg q1,h];by_cases g:0<=gt t b
  .rw[if_pos g,show bett (gt t a) (gt t b+m)=gt t b+m by unfold bett;rw[if_pos (by omega)]];unfold ryl;rw[if_pos ⟨g,.inl (by omega)⟩]
  .rw[if_neg g];unfold ryl;rw[if_neg (λr=>g r.1)]
end Px
end
section
namespace Px
open Go
def chF(t:List Int)(e:Edge):Bool:=(gt (rst t e) e.a !=gt t e.a)||(gt (rst t e) e.b !=gt t e.b)
structure EdOK(P:Nat)(e:Edge):Prop where
 a0:0<=e.a
 a1:e.a<(P:Int)
 b0:0<=e.b
 b1:e.b<(P:Int)
 ne:e.a≠e.b
 m1:1<=e.minutes
 m2:e.minutes<=100000
theorem edOK{x:zk}(h:zaa x){i:Nat}(hi:i<x.edges.length):EdOK x.places.length (gt x.edges (i:Int)):=by obtain⟨q1,d,f,g,j,_,_,u,z,_⟩:=h.ends (i:=(i:Int)) (by omega) (by omega);exact⟨q1,d,f,g,j,u,z⟩
theorem yaz(t:List Int)(e:Edge):(rst t e).length=t.length:=by unfold rst;rw[zqr,zqr]
theorem ym8{P:Nat}{t:List Int}(u:t.length=P){e:Edge}(j:EdOK P e):tf (rst t e) =(dirs e).foldl (BF.rlx dI dJ dW) (tf t):=by obtain⟨a0,d,f,g,ne,h,z⟩:=j;subst u;unfold rst dirs;rw[(y5c (t:=ryl t e.a e.b e.minutes) f (by rw[zqr];exact g) a0 (by rw[zqr];exact d) h).1,(y5c a0 d f g h).1];rfl
theorem zqs{t:List Int}{a b m:Int}(h:¬(0<=gt t a/\(gt t b<0\/gt t a+m<gt t b))):ryl t a b m=t:=by unfold ryl;rw[if_neg h]
theorem y39{P:Nat}{t:List Int}(ht:t.length=P){e:Edge}(he:EdOK P e):(chF t e=false->rst t e=t/\∀d∈dirs e,BF.imp dI dJ dW (tf t) d=false)/\((∀d∈dirs e,BF.imp dI dJ dW (tf t) d=false)->rst t e=t/\chF t e=false):=by
 obtain⟨a0,j,f,g,ne,m1,m2⟩:=he;subst ht;have i1:=(y5c a0 j f g m1).2;have i2:=(y5c f g a0 j m1).2;constructor
 .intro hc;unfold chF at hc;simp only[w1l,bne_eq_false_iff_eq] at hc;obtain⟨u,z⟩:=hc;have n1:¬(0<=gt t e.a/\(gt t e.b<0\/gt t e.a+e.minutes<gt t e.b)):=by
   intro q;unfold rst at z;have h:ryl t e.a e.b e.minutes=zo t e.b (gt t e.a+e.minutes):=by unfold ryl;rw[if_pos q]
   rw[h] at z;have g1:gt (zo t e.b (gt t e.a+e.minutes)) e.b=gt t e.a+e.minutes:=by rw[z0b _ _ _ _ f g f,if_pos rfl]
   have g2:gt (zo t e.b (gt t e.a+e.minutes)) e.a=gt t e.a:=by rw[z0b _ _ _ _ f g a0,if_neg ne]
   rw[zqs (by rw[g1,g2];omega),g1] at z;omega
  have h:=zqs n1;have n2:¬(0<=gt t e.b/\(gt t e.a<0\/gt t e.b+e.minutes<gt t e.a)):=by
   intro q;unfold rst at u;rw[h] at u;have e2:ryl t e.b e.a e.minutes=zo t e.a (gt t e.b+e.minutes):=by unfold ryl;rw[if_pos q]
   rw[e2,z0b _ _ _ _ a0 j a0,if_pos rfl] at u;omega
  refine⟨by unfold rst;rw[h,zqs n2],λd hd=>?_⟩;simp only[dirs,w05,w0y,or_false] at hd;rcases hd with rfl|rfl
  .rw[i1,decide_eq_false n1]
  .rw[i2,decide_eq_false n2]
 .intro hq;have q1:=hq (e.a.toNat,e.b.toNat,e.minutes) (by simp[dirs]);have q2:=hq (e.b.toNat,e.a.toNat,e.minutes) (by simp[dirs]);rw[i1,decide_eq_false_iff_not] at q1;rw[i2,decide_eq_false_iff_not] at q2;have hr:rst t e=t:=by unfold rst;rw[zqs q1,zqs q2]
  refine⟨hr,?_⟩;unfold chF;rw[hr];simp
structure TB(P c:Nat)(t:List Int):Prop where
 len:t.length=P
 bd:∀i:Int,0<=i->i<(P:Int)->-1<=gt t i/\gt t i<=100000*(c:Int)
theorem TB.up{P c d:Nat}{t:List Int}(h:TB P c t)(j:c<=d):TB P d t:=⟨h.len,λi f g=>by have:=h.bd i f g;omega⟩
theorem TB.ryl{P c:Nat}{t:List Int}(h:TB P c t){a b m:Int}(u:0<=a)(d:a<(P:Int))(z:0<=b)(f:b<(P:Int))(hm:1<=m)(a0:m<=100000):TB P (c+1) (Px.ryl t a b m):=by
 refine⟨by rw[zqr];exact h.len,λi g j=>?_⟩;have q1:=h.bd a u d;have q2:=h.bd i g j;unfold Px.ryl;split
 .rw[z0b _ _ _ _ z (by rw[h.len];exact f) g];split<;>omega
 .omega
theorem TB.rst{P c:Nat}{t:List Int}(h:TB P c t){e:Edge}(d:EdOK P e):TB P (c+2) (Px.rst t e):=(h.ryl d.a0 d.a1 d.b0 d.b1 d.m1 d.m2).ryl d.b0 d.b1 d.a0 d.a1 d.m1 d.m2
def rnT(es:List Edge)(t:List Int):Nat->List Int
 |0=>t
 |m+1=>rst (rnT es t m) (gt es (m:Int))
def fl(es:List Edge)(t:List Int):Nat->Bool
 |0=>false
 |m+1=>fl es t m||chF (rnT es t m) (gt es (m:Int))
theorem zo8(φ:Nat)(x y:Int):zag φ x y=some (bett x y,()):=by
 unfold zag bett;by_cases h:x<0
 .rw[if_pos (by simpa using h),if_pos h]
 .rw[if_neg (by simpa using h),if_neg h]
theorem yl4(φ:Nat)(k)(f:Bool)(i a b:Int)(x:zk)(t:List Int)(e:Edge)(d:0<=e.a/\e.a<(t.length:Int))(g:0<=e.b/\e.b<(t.length:Int)):z5x φ k f i a b x t e=k ((f||(gt t e.a !=a))||(gt t e.b !=b)) (W (i+1)) x t:=by unfold z5x;rw[z6 (λ_=>d),z6 (λ_=>g)]
theorem yc3(φ:Nat)(k)(n:Nat)(f:Bool)(i:Nat){x:zk}(hi:i<x.edges.length)(a3:x.edges.length<=2048){P c:Nat}(he:EdOK P (gt x.edges (i:Int))){t:List Int}(ht:TB P c t)(hc:c<=10000000):
  z0t φ k (n+1) f (i:Int) x t=z0t φ k n (f||chF t (gt x.edges (i:Int))) ((i:Int)+1) x (rst t (gt x.edges (i:Int))):=by
 obtain⟨a0,j,z,b1,ne,m1,m2⟩:=he;have g:=ht.len;have qa:=ht.bd _ a0 j;have qb:=ht.bd _ z b1;have d:=ym7 (t:=t) a0 (by rw[g];exact j) z (by rw[g];exact b1) ne m1 qa.1 qb.1;have a2:rst t (gt x.edges (i:Int))=ryl (ryl t (gt x.edges (i:Int)).a (gt x.edges (i:Int)).b (gt x.edges (i:Int)).minutes) (gt x.edges (i:Int)).b (gt x.edges (i:Int)).a (gt x.edges (i:Int)).minutes:=rfl;rw[<- a2] at d;rw[z0t,if_pos (by simp;omega),z6 ⟨by omega,by omega⟩,z6 ⟨a0,by rw[g];exact j⟩,z6 ⟨z,by rw[g];exact b1⟩];have fin:∀u:List Int,u=rst t (gt x.edges (i:Int))->z5x φ (z0t φ k n) f (i:Int) (gt t (gt x.edges (i:Int)).a) (gt t (gt x.edges (i:Int)).b) x u (gt x.edges (i:Int))=z0t φ k n (f||chF t (gt x.edges (i:Int))) ((i:Int)+1) x (rst t (gt x.edges (i:Int))):=by intro u hu;subst hu;rw[yl4 _ _ _ _ _ _ _ _ _ ⟨a0,by rw[yaz,g];exact j⟩ ⟨z,by rw[yaz,g];exact b1⟩,W_id (by omega) (by omega),Bool.or_assoc];rfl
 by_cases q1:0<=gt t (gt x.edges (i:Int)).a
 .rw[if_pos (by simpa using q1),W_id (by omega) (by omega),zo8,w00,z6 ⟨z,by rw[g];exact b1⟩];rw[if_pos q1] at d;unfold z7n;by_cases h:0<=gt t (gt x.edges (i:Int)).b
  .rw[if_pos h] at d;rw[if_pos (by simpa using h),W_id (by omega) (by omega),zo8,w00,z6 ⟨a0,by rw[z11,g];exact j⟩];exact fin _ d
  .rw[if_neg h] at d;rw[if_neg (by simpa using h)];exact fin _ d
 .rw[if_neg (by simpa using q1)];rw[if_neg q1] at d;unfold z7n;by_cases h:0<=gt t (gt x.edges (i:Int)).b
  .rw[if_pos h] at d;rw[if_pos (by simpa using h),W_id (by omega) (by omega),zo8,w00,z6 ⟨a0,by rw[g];exact j⟩];exact fin _ d
  .rw[if_neg h] at d;rw[if_neg (by simpa using h)];exact fin _ d
theorem y4z{x:zk}(h:zaa x){c:Nat}{t:List Int}(d:TB x.places.length c t):∀m,m<=x.edges.length->TB x.places.length (c+2*m) (rnT x.edges t m)
 |0,_=>d
 |m+1,f=>((y4z h d m (by omega)).rst (edOK h (by omega))).up (by omega)
theorem ygn{x:zk}(h:zaa x){c:Nat}{t:List Int}(d:TB x.places.length c t):∀m,m<=x.edges.length->tf (rnT x.edges t m) =((x.edges.take m).flatMap dirs).foldl (BF.rlx dI dJ dW) (tf t)
 |0,_=>rfl
 |m+1,g=>by have f:=ygn h d m (by omega);rw[z03 x.edges m (by omega),w2d,w4n,<- f];show tf (rst (rnT x.edges t m) (gt x.edges (m:Int)))=_;rw[ym8 (y4z h d m (by omega)).len (edOK h (by omega))];simp
theorem y3o{x:zk}(h:zaa x){c:Nat}{t:List Int}(u:TB x.places.length c t):∀m,m<=x.edges.length->fl x.edges t m=false->rnT x.edges t m=t/\∀j:Nat,j<m->∀d∈dirs (gt x.edges (j:Int)),BF.imp dI dJ dW (tf t) d=false
 |0,_,_=>⟨rfl,λj hj=>by omega⟩
 |m+1,hm,f=>by
  simp only[fl,w1l] at f;obtain⟨g,z⟩:=y3o h u m (by omega) f.1;rw[g] at f;obtain⟨h3,h4⟩:=(y39 u.len (edOK h (by omega))).1 f.2;refine⟨by show rst (rnT x.edges t m) _=t;rw[g,h3],λj hj=>?_⟩;by_cases e:j=m
  .subst e;exact h4
  .exact z j (by omega)
theorem ykv{x:zk}(h:zaa x){c:Nat}{t:List Int}(j:TB x.places.length c t)(g:∀d∈dE x,BF.imp dI dJ dW (tf t) d=false):∀m,m<=x.edges.length->fl x.edges t m=false/\rnT x.edges t m=t
 |0,_=>⟨rfl,rfl⟩
 |m+1,hm=>by obtain⟨u,f⟩:=ykv h j g m (by omega);obtain⟨z,h4⟩:=(y39 j.len (edOK h (i:=m) (by omega))).2 (λd hd=>g d (w24.2 ⟨_,z80 (l:=x.edges) (i:=(m:Int)) (by omega) (by omega),hd⟩));refine⟨?_,by show rst (rnT x.edges t m) _=t;rw[f,z]⟩;simp only[fl,u,f,h4,Bool.or_self]
theorem ymt{x:zk}(h:zaa x){s:Int}(hs:0<=s)(z:s<(x.places.length:Int)):BF.Feas dI dJ dW (tz s) (dE x) x.places.length:=by
 refine⟨⟨λ_=>0,0,λd f=>?_,λv c g=>?_⟩,λd f=>?_,λv c g=>?_⟩
 .obtain⟨e,j,f⟩:=w24.1 f;obtain⟨i,u,rfl⟩:=zyb j;have:=(edOK h u).m1;simp only[dirs,w05,w0y,or_false] at f;rcases f with rfl|rfl
  .show (0:Int)<=0+(gt x.edges (i:Int)).minutes;omega
  .show (0:Int)<=0+(gt x.edges (i:Int)).minutes;omega
 .unfold tz at g;split at g
  .cases g;show (0:Int)-0<=0;omega
  .cases g
 .obtain⟨e,j,f⟩:=w24.1 f;obtain⟨i,u,rfl⟩:=zyb j;obtain⟨a0,a1,b0,b1,_⟩:=edOK h u;simp only[dirs,w05,w0y,or_false] at f;rcases f with rfl|rfl<;>simp only[dJ]<;>omega
 .unfold tz at g;split at g
  .omega
  .cases g
structure TF(x:zk)(s:Int)(t:List Int):Prop where
 len:t.length=x.places.length
 lo:∀i:Int,0<=i->i<(x.places.length:Int)->-1<=gt t i
 fix:BF.Fix dI dJ dW (dE x) (tf t)
 rnd:∃k,tf t=BF.rnds dI dJ dW (dE x) (tz s) k
theorem yfa(φ:Nat)(hφ:5000<φ){x:zk}(h:zaa x){s:Int}(hs:0<=s)(a2:s<(x.places.length:Int))(M:Nat)(hM:2*x.edges.length<=M)(a1:M<=4096)(f:Nat):∀(k:Nat)(t:List Int),TB x.places.length (k*M) t->tf t=BF.rnds dI dJ dW (dE x) (tz s) k->k<=x.places.length->x.places.length+2<=f+k->
  ∃t',z1w φ f true x t=some (t',0,())/\TF x s t':=by
 induction f with
 |zero=>intro k t _ _ h1 h2;omega
 |succ f ih=>
  intro k t z ht h1 h2;have hP:=h.places;have hE:=h.edges;have hround:z0t φ (z1w φ f) φ false 0 x t=z1w φ f (fl x.edges t x.edges.length) x (rnT x.edges t x.edges.length):=by
   refine zu (λn i(u:Bool×List Int)=>z0t φ (z1w φ f) n u.1 i x u.2) x.edges.length (λi u=>u =(fl x.edges t i,rnT x.edges t i)) (λo=>o=_) ?_ ?_ φ (false,t) rfl (by omega)
   .intro n i u hi hu hk;subst hu;have hb:=y4z h z i (by omega);rw[yc3 φ _ n _ i hi hE (edOK h hi) hb (by have:=Nat.mul_le_mul (show k<=512 by omega) a1;omega)];exact hk _ rfl
   .intro n u hu;subst hu;rw[z0t,if_neg (by simp)]
  rw[z1w,if_pos rfl,hround];have a0:=ygn h z x.edges.length (w16 _);rw[w11] at a0;have g:tf (rnT x.edges t x.edges.length)=BF.rnds dI dJ dW (dE x) (tz s) (k+1):=by rw[a0,ht];rfl
  have hb:=y4z h z x.edges.length (w16 _);cases j:fl x.edges t x.edges.length with
  |false=>obtain⟨q1,q2⟩:=y3o h z x.edges.length (w16 _) j;obtain⟨f',rfl⟩:∃f',f=f'+1:=⟨f-1,by omega⟩;rw[z1w,if_neg (by simp)];refine⟨_,rfl,hb.len,λi i0 i1=>(hb.bd i i0 i1).1,?_,k+1,g⟩;rw[q1];intro d hd;obtain⟨e,he,hd⟩:=w24.1 hd;obtain⟨i,hi,rfl⟩:=zyb he;exact q2 i hi d hd
  |true=>
   by_cases hk:x.places.length<=k+1
   .exfalso;have:=(ykv h z (λd hd=>by have:=BF.done (ymt h hs a2) hk d hd;rwa [<- ht] at this) x.edges.length (w16 _)).1;rw[this] at j;cases j
   .exact ih (k+1) _ (hb.up (by rw[w1s,w3x];omega)) g (by omega) (by omega)
theorem yfl{x:zk}{s:Int}(g:0<=s)(f:s<(x.places.length:Int)){t:List Int}(j:t.length=x.places.length)(h:∀i:Int,0<=i->i<(x.places.length:Int)->gt t i=if i=s then 0 else-1):tf t=tz s:=by
 funext v;unfold tf tz;by_cases d:v<t.length
 .rw[h v (by omega) (by omega)];by_cases e :(v:Int)=s
  .rw[if_pos e,if_pos ⟨d,by omega⟩,if_pos e]
  .rw[if_neg e,if_neg (λq=>by have:=q.2;omega),if_neg e]
 .rw[if_neg (λq=>d q.1),if_neg (by omega)]
theorem y2u(φ:Nat)(hφ:5000<φ){x:zk}(hn:z7c x=0){s:Int}(d:0<=s)(f:s<(x.places.length:Int)):∃t,z9u φ x s=some (t,0,())/\TF x s t:=by
 have h:=y6g hn;have hP:=h.places;unfold z9u z7m;rw[za3 φ hφ,w00,if_neg (by simp[hn]),z4p,W_id (by omega) (by omega),w00,w00,if_neg (by simp;exact z4n.2 ⟨d,by omega⟩),z6 (mk_t _ _ (by omega) (by omega) (by omega)),w1i];refine zu (λn i t=>z6r φ n s i x t) x.places.length (λi t=>t.length=x.places.length/\∀j:Int,0<=j->j<(i:Int)->gt t j=-1) (λo=>∃t,o=some (t,0,())/\TF x s t) ?_ ?_ φ _ ⟨by simp,λj h0 h1=>by omega⟩ (by omega)
 .intro n i t hi ⟨q1,q2⟩ hk;rw[z6r,if_pos (by rw[q1];simp;omega),z6 ⟨by omega,by omega⟩,W_id (by omega) (by omega)];refine hk _ ⟨by rw[z11];exact q1,λj j0 j1=>?_⟩;rw[z0b _ _ _ _ (by omega) (by omega) j0];split
  .rfl
  .exact q2 j j0 (by omega)
 .intro n t ⟨q1,q2⟩;rw[z6r,if_neg (by rw[q1];simp),z6 ⟨d,by omega⟩];have g:∀i:Int,0<=i->i<(x.places.length:Int)->gt (zo t s 0) i=if i=s then 0 else-1:=λi u z=>by
   rw[z0b _ _ _ _ d (by omega) u];split
   .rfl
   .exact q2 i u z
  have hl :(zo t s 0).length=x.places.length:=by rw[z11];exact q1
  have hE:=h.edges;exact yfa φ hφ h d f 4096 (by omega) (by omega) φ 0 _ ⟨hl,λi u z=>by rw[g i u z];split<;>omega⟩ (yfl d f hl g) (by omega) (by omega)
end Px
end
section
namespace Px
open Go
theorem zur{x:zk}(h:zaa x){a b:Int}(g:0<=a)(d:a<(x.places.length:Int)):b∈gt (z5s x) a↔0<=lnF x.edges a b x.edges.length:=by
 have H:=zee h x.edges.length (w16 _);have f :(zia x).length=x.places.length:=H.len;have e:=zuo h x.edges.length (w16 _) a b;unfold z5s;rw[y3y _ _ g (by rw[f];exact d)];refine((z0w _ _).mem_iff).trans ((H.near a b g d).trans ?_);rw[e];by_cases q:lnF x.edges a b x.edges.length<0
 .rw[if_pos q];simp;omega
 .rw[if_neg q];simp;omega
theorem ybt{x:zk}(h:zaa x){a b:Int}(d:0<=lnF x.edges a b x.edges.length):wtN x a b =(gt x.edges (lnF x.edges a b x.edges.length)).minutes:=by unfold wtN zad;rw[zuo h x.edges.length (w16 _) a b,if_neg (by omega)];rfl
theorem ykk{x:zk}(h:zaa x){d:DE3}(f:d∈dE x):∃a b:Int,0<=a/\a<(x.places.length:Int)/\0<=b/\b<(x.places.length:Int)/\d =(a.toNat,b.toNat,dW d)/\0<=lnF x.edges a b x.edges.length/\wtN x a b<=dW d:=by
 obtain⟨e,he,f⟩:=w24.1 f;obtain⟨i,g,rfl⟩:=zyb he;obtain⟨a0,u,z,b1,_⟩:=edOK h g;simp only[dirs,w05,w0y,or_false] at f;rcases f with rfl|rfl
 .obtain⟨q1,j⟩:=(y4b x.edges (gt x.edges (i:Int)).a (gt x.edges (i:Int)).b x.edges.length).2.2 i g (.inl ⟨rfl,rfl⟩);exact⟨_,_,a0,u,z,b1,rfl,q1,by rw[ybt h q1];exact j⟩
 .obtain⟨q1,j⟩:=(y4b x.edges (gt x.edges (i:Int)).b (gt x.edges (i:Int)).a x.edges.length).2.2 i g (.inr ⟨rfl,rfl⟩);exact⟨_,_,z,b1,a0,u,rfl,q1,by rw[ybt h q1];exact j⟩
theorem ylc{x:zk}(h:zaa x){a b:Int}(d:0<=lnF x.edges a b x.edges.length):(a.toNat,b.toNat,wtN x a b)∈dE x:=by
 obtain⟨⟨_,g⟩,j,_⟩:=y4b x.edges a b x.edges.length;rw[ybt h d];refine w24.2 ⟨_,z80 (l:=x.edges) d g,?_⟩;rcases j d with⟨q1,f⟩|⟨q1,f⟩
 .simp only[dirs,q1,f,w05,true_or]
 .simp only[dirs,q1,f,w05,true_or,or_true]
theorem ykl{x:zk}(h:zaa x){s:Int}{t:List Int}(g:DF x.places.length (z5s x) (wtN x) s t):BF.Fix dI dJ dW (dE x) (tf t):=by
 intro d hd;obtain⟨a,b,a0,f,j,u,e,hl,hw⟩:=ykk h hd;have z:tf t (dI d)=if 0<=gt t a then some (gt t a) else none:=by rw[e];exact y2l a0 (by rw[g.lt];exact f)
 have e2:tf t (dJ d)=if 0<=gt t b then some (gt t b) else none:=by rw[e];exact y2l j (by rw[g.lt];exact u)
 unfold BF.imp;rw[z,e2];by_cases q:0<=gt t a
 .obtain⟨n1,n2⟩:=g.nbr a b a0 f q ((zur h a0 f).2 hl);rw[if_pos q,if_pos n1];simp only[BF.ltO,decide_eq_false_iff_not];omega
 .rw[if_neg q]
theorem ykm{x:zk}(h:zaa x){s:Int}(hs:0<=s)(a1:s<(x.places.length:Int)){t:List Int}(j:DF x.places.length (z5s x) (wtN x) s t):BF.Inv dI dJ dW (tz s) (dE x) (tf t):=by
 have key:∀(n:Nat)(v:Int),0<=v->v<(x.places.length:Int)->0<=gt t v->(gt t v).toNat=n->∃m,BF.Wk dI dJ dW (tz s) (dE x) m v.toNat (gt t v):=by
  intro n
  induction n using Nat.strongRecOn with
  |_ n ih=>
   intro v v0 g z hn;by_cases e:v=s
   .subst e;rw[j.src];exact⟨0,.nil (by unfold tz;rw[if_pos (by omega)])⟩
   .obtain⟨q,q0,q1,q2,q3,q4⟩:=j.pre v v0 g e z;have a0:=(zur h v0 g).1 q2;obtain⟨u,a3⟩:=(grN h).sym v q v0 g q2;have hl:=(zur h q0 q1).1 u;have a2:=((grN h).wt v q v0 g q2).1;obtain⟨m,f⟩:=ih (gt t q).toNat (by omega) q q0 q1 q3 rfl;have:=BF.Wk.step (b:=(q.toNat,v.toNat,wtN x q v)) f (ylc h hl);rw[q4];exact⟨_,this⟩
 intro v c d;unfold tf at d;split at d
 .rename_i z;cases d;obtain⟨m,f⟩:=key _ (v:Int) (by omega) (by rw[<- j.lt];omega) z.2 rfl;rw[w1i] at f;exact⟨m,f⟩
 .cases d
theorem y7d{x:zk}(h:zaa x){s:Int}(hs:0<=s)(z:s<(x.places.length:Int)){t u:List Int}(g:DF x.places.length (z5s x) (wtN x) s t)(hT:TF x s u){b:Int}(hb:0<=b)(d:b<(x.places.length:Int)):gt t b=gt u b:=by
 obtain⟨k,hk⟩:=hT.rnd;have a0:∀v c,tz s v=some c->BF.le (tf t v) c:=λv c j=>by
  unfold tz at j;split at j
  .rename_i e;cases j;refine⟨0,?_,w2y _⟩;have:=y2l (t:=t) hs (by rw[g.lt];exact z);rw[g.src,if_pos (w2y _)] at this;rw[show v=s.toNat by omega];exact this
  .cases j
 have a1:∀v c,tz s v=some c->BF.le (tf u v) c:=λv c j=>by rw[hk];exact BF.rnds_mono _ ⟨c,j,w2y _⟩ k
 have e:=BF.Fix.uniq (ykl h g) hT.fix (ykm h hs z g) (by rw[hk];exact BF.Inv.rnds k) a0 a1;have f:=y2l (t:=t) hb (by rw[g.lt];exact d);have e2:=y2l (t:=u) hb (by rw[hT.len];exact d);rw[e,e2] at f;have l1:=g.bd b hb d;have l2:=hT.lo b hb d;by_cases q1:0<=gt u b
 .by_cases q2:0<=gt t b
  .rw[if_pos q1,if_pos q2] at f;exact(w0f f).symm
  .rw[if_pos q1,if_neg q2] at f;cases f
 .by_cases q2:0<=gt t b
  .rw[if_neg q1,if_pos q2] at f;cases f
  .omega
theorem y2z(φ:Nat)(hφ:800000<φ){x:zk}(g:z7c x=0)(a b:Int):z4v φ x [a,b]=if(0<=a/\a<(x.places.length:Int))/\0<=b/\b<(x.places.length:Int) then some (⟨z5s x,zad x⟩,0,()) else some (⟨[],[]⟩,1,()):=by
 unfold z4v;have hx:=y6g g;have u:=hx.places;rw[z8a _ (by omega),w00,if_neg (by simp[g])];obtain⟨m,rfl⟩:∃m,φ=m+3:=⟨φ-3,by omega⟩;have j:gt [a,b] 0=a:=rfl;have g1:gt [a,b] 1=b:=rfl;have L :((([a,b]:List Int).length:Nat):Int)=2:=rfl;rw[L,show m+3 =(m+2)+1 from rfl,z18,if_pos (by decide),z6 (by rw[L];decide),j];by_cases d:0<=a/\a<(x.places.length:Int)
 case neg=>rw[if_pos (by simp;omega),if_neg (λh=>d h.1)]
 rw[if_neg (by simp;omega),show W (0+1)=1 by rfl,show m+2 =(m+1)+1 from rfl,z18,if_pos (by decide),z6 (by rw[L];decide),g1];by_cases f:0<=b/\b<(x.places.length:Int)
 case neg=>rw[if_pos (by simp;omega),if_neg (λh=>f h.2)]
 rw[if_neg (by simp;omega),show W (1+1)=2 by rfl,z18,if_neg (by decide),z6 (mk_t _ _ (by omega) (by omega) (by omega)),zwz (m+1+1+1) x hx (by omega),if_pos ⟨d,f⟩]
theorem y5l(φ:Nat)(hφ:800000<φ){x:zk}(j:z7c x=0){a b:Int}(f:0<=a/\a<(x.places.length:Int))(g:0<=b/\b<(x.places.length:Int)):
  ∃t,DF x.places.length (z5s x) (wtN x) a t/\z09 φ x a b=some (if gt t b<0 then(0,80,()) else(gt t b,0,())):=by
 have hx:=y6g j;obtain⟨t,h,u⟩:=zzn φ x hx hφ a f.1 f.2;refine⟨t,h,?_⟩;unfold z09;rw[y2z φ hφ j,if_pos ⟨f,g⟩,w00,if_neg (by simp),u,w00,z6 ⟨g.1,by rw[h.lt];exact g.2⟩];by_cases d:gt t b<0
 .rw[if_pos (by simpa using d),if_pos d]
 .rw[if_neg (by simpa using d),if_neg d]
theorem y7f(φ:Nat)(hφ:800000<φ)(x:zk)(a b:Int):z3s φ x a b=z09 φ x a b:=by
 by_cases d:z7c x=0
 case neg=>unfold z3s z9u z09 z4v;rw[za3 φ (by omega),z8a _ (by omega),w00,w00,if_pos (by simpa using d),w00,if_pos (by simpa using d),if_pos (by simpa using d),w00,if_pos (by simpa using d)]
 have hx:=y6g d;have hP:=hx.places;by_cases h :(0<=a/\a<(x.places.length:Int))/\0<=b/\b<(x.places.length:Int)
 case neg=>
  have e1:z09 φ x a b=some (0,1,()):=by unfold z09;rw[y2z φ hφ d,if_neg h,w00,if_pos (by simp)]
  rw[e1];by_cases f:0<=a/\a<(x.places.length:Int)
  case neg=>unfold z3s z9u z7m;rw[za3 φ (by omega),w00,if_neg (by simp[d]),z4p,W_id (by omega) (by omega),w00,w00,if_pos (by simp only[w0v];rw[<- w1k,z4n];omega),w00,if_pos (by simp)]
  obtain⟨u,hu,z⟩:=y2u φ (by omega) d f.1 f.2;unfold z3s z7m;rw[hu,w00,if_neg (by simp),z4p,W_id (by omega) (by omega),w00,w00,if_pos (by simp only[w0v];rw[<- w1k,z4n];omega)]
 obtain⟨f,g⟩:=h;obtain⟨u,hu,z⟩:=y2u φ (by omega) d f.1 f.2;obtain⟨t,h1,h2⟩:=y5l φ hφ d f g;have hs:=y7d hx f.1 f.2 h1 z g.1 g.2;rw[h2,hs];unfold z3s z7m;rw[hu,w00,if_neg (by simp),z4p,W_id (by omega) (by omega),w00,w00,if_neg (by simp only[w0v,Bool.not_eq_false];rw[z4n];omega),z6 ⟨g.1,by rw[z.len];exact g.2⟩];by_cases j:gt u b<0
 .rw[if_pos (by simpa using j),if_pos j]
 .rw[if_neg (by simpa using j),if_neg j,z6 ⟨g.1,by rw[z.len];exact g.2⟩]
end Px
end
section
namespace Px
open Go
set_option maxRecDepth 100000
theorem y2i(φ:Nat)(hφ:1000<φ)(p:Pool):∃b,z9b φ p=some (b,()):=by
 unfold z9b;split
 .exact⟨false,rfl⟩
 .rename_i d;simp only[w0w,decide_eq_true_eq,not_or] at d;obtain⟨⟨⟨⟨⟨⟨g,h⟩,j⟩,u⟩,z⟩,c6⟩,c7⟩:=d;refine zu (λn i(_:Unit)=>z3i φ n i p) p.railways.length (λ_ _=>True) (λo=>∃b,o=some (b,())) ?_ ?_ φ () trivial (by omega)
  .intro n i _ hi _ f;rw[z3i,if_pos (by simp;omega),z6 ⟨by omega,by omega⟩,W_id (by omega) (by omega)];split
   .exact⟨false,rfl⟩
   .exact f () trivial
  .intro n _ _;rw[z3i,if_neg (by simp)];exact⟨true,rfl⟩
theorem y8q(φ:Nat)(hφ:1000<φ)(l:List z7):∃b,z8c φ l 20=some (b,())/\(b=true->l.length<=20/\∀r∈l,r.item.parts.length<=40):=by
 unfold z8c;by_cases g:20<l.length
 .rw[if_pos (by simp;omega)];exact⟨false,rfl,λh=>by cases h⟩
 .rw[if_neg (by simp;omega)];refine zu (λn i(_:Unit)=>z2r φ n l i) l.length (λi _=>∀j:Nat,j<i->(gt l (j:Int)).item.parts.length<=40)
   (λo=>∃b,o=some (b,())/\(b=true->l.length<=20/\∀r∈l,r.item.parts.length<=40)) ?_ ?_ φ () (λj f=>by omega) (by omega)
  .intro n i _ hi d hs;rw[z2r,if_pos (by simp;omega),z6 ⟨by omega,by omega⟩,z6 (λ_=>⟨by omega,by omega⟩),W_id (by omega) (by omega)];split
   .exact⟨false,rfl,λh=>by cases h⟩
   .rename_i u;simp only[w0w,decide_eq_true_eq,not_or] at u;refine hs () λj f=>?_
    by_cases e:j=i
    .subst e;omega
    .exact d j (by omega)
  .intro n _ d;rw[z2r,if_neg (by simp)];exact⟨true,rfl,λ_=>⟨by omega,λr z=>by obtain⟨j,f,rfl⟩:=zyb z;exact d j f⟩⟩
theorem yjt:ze0 100000000=some (true,()):=by kernel_rfl
theorem y2o{l:List z7}(h:rdN TV 30 54 l):∀r∈l,-9223372036854775808<=r.item.wagon/\r.item.wagon<9223372036854775808:=by intro r z;have j:RL (rdN TV 29 53) l:=h;have u:rdN TV 29 53 r:=j.1 r z;have d:RI .i64 r.item.wagon:=u.2.2.2.2.2.1;have f:IntKind.i64.min=-9223372036854775808:=rfl;have g:IntKind.i64.max=9223372036854775807:=rfl;unfold RI at d;rw[f,g] at d;omega
end Px
end
section
namespace Px
open Go
set_option maxRecDepth 100000
theorem yjs(φ:Nat)(l:List za)(d:l.length<φ)(g:l.length<=100000):z7b φ l l=some (true,()):=by
 unfold z7b;rw[if_neg (by simp)];refine zu (λn i(_:Unit)=>z1h φ n l l i) l.length (λ_ _=>True) (λo=>o=some (true,())) ?_ ?_ φ () trivial d
 .intro n i _ h _ f;rw[z1h,if_pos (by simp;omega),z6 ⟨by omega,by omega⟩,z6 ⟨by omega,by omega⟩,if_neg (by simp),W_id (by omega) (by omega)];exact f () trivial
 .intro n _ _;rw[z1h,if_neg (by simp)]
theorem yjr(φ:Nat)(l:List zp)(d:l.length<φ)(g:l.length<=100000):z8e φ l l=some (true,()):=by
 unfold z8e;rw[if_neg (by simp)];refine zu (λn i(_:Unit)=>z2u φ n l l i) l.length (λ_ _=>True) (λo=>o=some (true,())) ?_ ?_ φ () trivial d
 .intro n i _ h _ f;rw[z2u,if_pos (by simp;omega),z6 ⟨by omega,by omega⟩,z6 ⟨by omega,by omega⟩,if_neg (by simp),W_id (by omega) (by omega)];exact f () trivial
 .intro n _ _;rw[z2u,if_neg (by simp)]
theorem y70(φ:Nat)(l:List Int)(d:l.length<φ)(g:l.length<=100000):za8 φ l l=some (true,()):=by
 unfold za8;rw[if_neg (by simp)];refine zu (λn i(_:Unit)=>z49 φ n l l i) l.length (λ_ _=>True) (λo=>o=some (true,())) ?_ ?_ φ () trivial d
 .intro n i _ h _ f;rw[z49,if_pos (by simp;omega),z6 ⟨by omega,by omega⟩,z6 ⟨by omega,by omega⟩,if_neg (by simp),W_id (by omega) (by omega)];exact f () trivial
 .intro n _ _;rw[z49,if_neg (by simp)]
theorem yjq(φ:Nat)(f:zq)(h:f.supply.length<φ)(g:f.supply.length<=100000)(d:f.arcs.length<φ)(u:f.arcs.length<=100000):zbd φ f f=some (true,()):=by
 unfold zbd;rw[y70 φ _ h g,w00,if_neg (by simp)];refine zu (λn i(_:Unit)=>z4r φ n i f f) f.arcs.length (λ_ _=>True) (λo=>o=some (true,())) ?_ ?_ φ () trivial d
 .intro n i _ z _ j;rw[z4r,if_pos (by simp;omega),z6 ⟨by omega,by omega⟩,z6 ⟨by omega,by omega⟩,if_neg (by simp),W_id (by omega) (by omega)];exact j () trivial
 .intro n _ _;rw[z4r,if_neg (by simp)]
theorem y8p(φ:Nat)(hφ:1000<φ)(p:Pool)(s:List za)(o:List zp):∃b,zjo φ p s o=some (b,())/\(b=true->s.length<=6/\o.length<=6):=by unfold zjo;obtain⟨b,d⟩:=y2i φ hφ p;rw[d,w00];refine⟨_,rfl,λh=>?_⟩;simp only[w02,decide_eq_true_eq] at h;omega
theorem y7j{φ:Nat}(hφ:800000<φ)(p:Pool){l:List z7}(h:FewP l)(at_:Int):∃a e,z3w φ p l at_=some (a,e,())/\z9x φ p l at_=some (a,e,())/\a.length<=4096:=by
 by_cases d:z1j p=0
 .by_cases f:0<=at_/\at_<=1073741824
  .obtain⟨b,out,u,o2,z,o4,o5,o6⟩:=ygv hφ d h f;obtain⟨j,q1,q2,q3⟩:=y6w hφ d h f z o4 o6;have:=q2.uniq o5;subst this;have:=zid d;exact⟨_,_,u,q1,by omega⟩
  .refine⟨_,_,yc0 hφ d l f,?_,by simp⟩;have g:z0o φ at_ 0 1073741824=some (false,()):=by
    show some ((decide ((0:Int)<=at_))&&(decide (at_<=1073741824)),())=_;have :((decide ((0:Int)<=at_))&&(decide (at_<=1073741824)))=false:=by rw[<- w1k];simp only[w02,decide_eq_true_eq];exact f
    rw[this]
   unfold z9x;rw[z4w φ hφ,w00,if_neg (by simpa using d),g,w00,if_pos (by simp)]
 .refine⟨_,_,yc1 hφ d l at_,?_,by simp⟩;unfold z9x;rw[z4w φ hφ,w00,if_pos (by simpa using d)]
theorem yc5{φ:Nat}(hφ:800000<φ)(h:zn3 φ)(u:zwj φ)(p:Pool){s:List za}{o:List zp}(g:s.length<=6)(d:o.length<=6):
  ∃f e,zbn φ p s o=some (f,e,())/\zgf φ p s o=some (f,e,())/\f.supply.length<=1000/\f.arcs.length<=1000:=by
 rw[yk7 hφ h p g d,y7n hφ h u p g d];by_cases j:z1j p=0
 .rw[if_neg (λq=>q j)];cases yab p s o with
  |true=>
   have z:=zwr s o (cF φ p s o) (bF φ p s o) g d;refine⟨_,_,rfl,rfl,?_,?_⟩
   .simp[netF,netN,supN];omega
   .show (y7v s o (cF φ p s o) (bF φ p s o)).length<=1000;omega
  |false=>exact⟨_,_,rfl,rfl,by simp,by simp⟩
 .rw[if_pos j];exact⟨_,_,rfl,rfl,by simp,by simp⟩
theorem y7g{φ:Nat}(hφ:800000<φ)(g:zn3 φ)(u:zwj φ)(p:Pool)(s:za)(o:zp):∃c b e,zab φ p s o=some (c,b,e,())/\zha φ p s o=some (c,b,e,()):=by
 unfold zab zha;rw[z3h φ hφ,z4w φ hφ,w00,w00];by_cases f:z1j p=0
 .rw[if_neg (by simpa using f),if_neg (by simpa using f),z9m,zgg,w00,w00,zan,zhv];cases h:okSu p s with
  |false=>exact⟨_,_,_,rfl,rfl⟩
  |true=>
   cases j:okOr p o with
   |false=>exact⟨_,_,_,rfl,rfl⟩
   |true=>obtain⟨a,b,c⟩:=zju (zh5 f) h;obtain⟨d,_⟩:=zh3 (zh5 f) j;simp only[zi,w21,if_true,w00,Bool.or_self,w09,if_false];rw[y5j (by omega) g p s o a d b,zhw (by omega) g u p s o a d b];exact⟨_,_,_,rfl,rfl⟩
 .rw[if_pos (by simpa using f),if_pos (by simpa using f)];exact⟨_,_,_,rfl,rfl⟩
theorem zph{φ:Nat}(hφ:60000000<φ)(h:zn3 φ)(j:zwj φ)(g:ze0 φ=some (true,()))(p:Pool)(l:List z7)(at_:Int)(s:List za)(o:List zp)
  (hw:∀r∈l,-9223372036854775808<=r.item.wagon/\r.item.wagon<9223372036854775808):z0s φ p l at_ s o=some (true,()):=by
 unfold z0s;obtain⟨b,h1,h2⟩:=y8p φ (by omega) p s o;obtain⟨c,g1,g2⟩:=y8q φ (by omega) l;rw[g,w00,if_neg (by simp),h1,w00];cases b with
 |false=>rw[ymu (by simp),w00,if_pos (by simp)]
 |true=>
 rw[yhz (by rfl),g1,w00];cases c with
 |false=>rw[if_pos (by simp)]
 |true=>
 obtain⟨hs,ho⟩:=h2 rfl;obtain⟨hl,hp⟩:=g2 rfl;have hF:FewP l:=⟨by omega,hp,hw⟩;obtain⟨a,e,i1,i2,i3⟩:=y7j (φ:=φ) (by omega) p hF at_;obtain⟨f,q,n1,n2,n3,n4⟩:=yc5 (φ:=φ) (by omega) h j p hs ho;have a0 :(wanted l at_).length<=20:=by unfold wanted;rw[w0q,zqt];exact w1o (List.length_filter_le _ _) hl
 rw[if_neg (by simp),i1,i2,w00,w00,n1,n2,w00,w00];simp only;rw[yjs φ a (by omega) (by omega),w00];simp only;rw[yhz (by simp),yjq φ f (by omega) (by omega) (by omega) (by omega),w00,if_pos (by simp),y7q φ (by omega) l at_ (by omega),w00,zz2 φ (by omega) l at_ (by omega),w00];simp only;rw[yjr φ _ (by omega) (by omega),w00,if_neg (by simp)];split
 .rfl
 .rename_i hn;simp only[w0w,beq_iff_eq,not_or] at hn;obtain⟨k,d,r,u,z⟩:=y7g (φ:=φ) (by omega) h j p (gt s 0) (gt o 0);rw[z6 ⟨by omega,by omega⟩,z6 ⟨by omega,by omega⟩,u,w00,z6 ⟨by omega,by omega⟩,z6 ⟨by omega,by omega⟩,z,w00];simp
theorem zwn(φ:Nat)(p:Pool)(l:List z7)(at_:Int)(s:List za)(o:List zp):(z2m φ).F (p,l,at_,s,o,())=z0s φ p l at_ s o:=rfl
theorem zb3(y:Tup TT [28,54,0,36,37])(h:yji TV 30 [28,54,0,36,37] y):∃φ,(z2m φ).F y=some (true,()):=by obtain⟨p,l,at_,s,o,u⟩:=y;cases u;change Pool at p;change List z7 at l;change Int at at_;change List za at s;change List zp at o;have f:rdN TV 30 54 l:=h.2.1;suffices key:∀φ:Nat,60000000<φ->ze0 φ=some (true,())->z0s φ p l at_ s o=some (true,()) from⟨100000000,(zwn _ p l at_ s o).trans (key _ (by omega) yjt)⟩;intro φ hφ d;exact zph hφ (λx a b=>y5m φ (by omega) x a b) (λx a b=>y7f φ (by omega) x a b) d p l at_ s o (y2o f)
end Px
end
