/- A part of the proof of emptiesIdle_holds. Conditions: none. -/
import Derived.Test.YtcofccdjgfgeeaaGreatKibg
set_option linter.unusedVariables false
set_option linter.unusedSimpArgs false
section
namespace Px
open Go
def y22(s:List Int)(w:Int):List Int:=s.filter (λx=>decide (x<w))++w::s.filter (λx=>decide (w<x))
def zk3(s:List Int)(w:Int):List Int:=s.filter (λx=>x !=w)
abbrev Inc(s:List Int):Prop:=s.Pairwise λa b=>a<b
theorem y4a{a b:List Int}(ha:Inc a)(hb:Inc b)(h:∀x,x∈a↔x∈b):a=b:=by
 have na:a.Nodup:=ha.imp λh=>by omega
 have nb:b.Nodup:=hb.imp λh=>by omega
 refine List.Perm.eq_of_pairwise (le:=λa b:Int=>a<=b) (λa b _ _ h1 h2=>by omega) (ha.imp λh=>by omega) (hb.imp λh=>by omega) ?_;exact(w4w na nb).2 h
theorem ze0{s:List Int}{w x:Int}: x∈y22 s w↔x=w\/x∈s:=by
 unfold y22;simp only[w0m,w0i,w08,decide_eq_true_eq];constructor
 .rintro(h|h|h)
  .exact .inr h.1
  .exact .inl h
  .exact .inr h.1
 .rintro(h|h)
  .exact .inr (.inl h)
  .rcases Int.lt_trichotomy x w with q|q|q
   .exact .inl ⟨h,q⟩
   .exact .inr (.inl q)
   .exact .inr (.inr ⟨h,q⟩)
theorem y73{s:List Int}(h:Inc s)(w:Int):Inc (y22 s w):=by
 unfold y22 Inc;rw[w4j];refine⟨h.filter _,w0o.2 ⟨λx hx=>?_,h.filter _⟩,λa ha b hb=>?_⟩
 .simpa using(w0i.1 hx).2
 .have h1:a<w:=by simpa using(w0i.1 ha).2
  rcases w08.1 hb with rfl|hb
  .exact h1
  .have h2:w<b:=by simpa using(w0i.1 hb).2
   omega
theorem z9m{s:List Int}{w x:Int}: x∈zk3 s w↔x∈s/\x≠w:=by simp[zk3]
theorem zwd{s:List Int}(h:Inc s)(w:Int):Inc (zk3 s w):=h.filter _
theorem yfk{a b:Int}: ltI (kl_0 a) (kl_0 b)=true↔a<b:=by
 show ltI [a] [b]=true↔_;simp only[ltI];by_cases h:a<b
 .simp[h]
 .by_cases h2:a=b
  .simp[h2]
  .simp[h,h2]
theorem zh7{s:List (Int×Bool)}(h:Srt' kl_0 s):Inc (s.map (·.1)):=w2s.2 (List.Pairwise.imp (λ{a b}q=>yfk.1 q) h)
theorem y4i{a b:Int}(h:kl_0 a=kl_0 b):a=b:=by have h : [a] = [b]:=h;cases h;rfl
theorem y8z{a b:z7}(h:z4i a=z4i b):a=b:=by obtain⟨a1,a2⟩:=a;obtain⟨b1,b2⟩:=b;have h : [a1,a2] = [b1,b2]:=h;cases h;rfl
theorem zsx{s:List (Int×Bool)}(h:Srt' kl_0 s)(w:Int)(v:Bool):(cset kl_0 s w v).map (·.1)=y22 (s.map (·.1)) w:=by
 refine y4a (zh7 (h.set w v)) (y73 (zh7 h) w) λx=>?_
 rw[ze0];simp only[w0a];constructor
 .rintro⟨p,hp,rfl⟩;rcases(z2z h).1 hp with rfl|⟨hp,_⟩
  .exact .inl rfl
  .exact .inr ⟨p,hp,rfl⟩
 .rintro(rfl|⟨p,hp,rfl⟩)
  .exact⟨_,(z2z h).2 (.inl rfl),rfl⟩
  .by_cases e:p.1=w
   .exact⟨(w,v),(z2z h).2 (.inl rfl),e.symm⟩
   .exact⟨p,(z2z h).2 (.inr ⟨hp,λq=>e (y4i q).symm⟩),rfl⟩
theorem y8y{s:List (Int×Bool)}(h:Srt' kl_0 s)(w:Int):(cdel kl_0 s w).map (·.1)=zk3 (s.map (·.1)) w:=by
 refine y4a (zh7 (h.del w)) (zwd (zh7 h) w) λx=>?_
 rw[z9m,zat h.ndp];simp only[w0a,w0i,w0z,beq_eq_false_iff_ne];constructor
 .rintro⟨p,⟨hp,hn⟩,rfl⟩;exact⟨⟨p,hp,rfl⟩,λe=>hn (by rw[e])⟩
 .rintro⟨⟨p,hp,rfl⟩,hn⟩;exact⟨p,⟨hp,λe=>hn (y4i e).symm⟩,rfl⟩
instance:DecidableEq z7:=λa b=>decidable_of_iff (a.kind=b.kind/\a.serial=b.serial) ⟨λh=>by cases a;cases b;cases h.1;cases h.2;rfl,λh=>by rw[h];exact⟨rfl,rfl⟩⟩
def OkS(s:List (Int×Bool)):Prop:=Srt' kl_0 s/\∀q∈s,q.2=true
theorem OkS.nil:OkS []:=⟨List.Pairwise.nil,λq hq=>by cases hq⟩
theorem OkS.set{s:List (Int×Bool)}(h:OkS s)(w:Int):OkS (cset kl_0 s w true):=
 ⟨h.1.set w true,λq hq=>by
  rcases(z2z h.1).1 hq with rfl|⟨hq,_⟩
  .rfl
  .exact h.2 q hq⟩
theorem OkS.del{s:List (Int×Bool)}(h:OkS s)(w:Int):OkS (cdel kl_0 s w):=⟨h.1.del w,λq hq=>h.2 q ((zn7 s w).subset hq)⟩
structure OkM(M:Cmps):Prop where
 srt:Srt' z4i M
 vals:∀p∈M,OkS p.2
def wk(M:Cmps)(c:z7):List (Int×Bool):=(cget z4i M c).getD (default:List (Int×Bool))
theorem OkM.nil:OkM []:=⟨List.Pairwise.nil,λq hq=>by cases hq⟩
theorem OkM.set{M:Cmps}(h:OkM M)(c:z7){s:List (Int×Bool)}(hs:OkS s):OkM (cset z4i M c s):=
 ⟨h.srt.set c s,λq hq=>by
  rcases(z2z h.srt).1 hq with rfl|⟨hq,_⟩
  .exact hs
  .exact h.vals q hq⟩
theorem OkM.get{M:Cmps}(h:OkM M){c:z7}{s:List (Int×Bool)}(hc:cget z4i M c=some s):OkS s:=by obtain⟨a,hm,_⟩:=zab hc;exact h.vals _ hm
theorem OkM.wk{M:Cmps}(h:OkM M)(c:z7):OkS (wk M c):=by
 unfold Px.wk;cases hc:cget z4i M c with
 |none=>exact OkS.nil
 |some s=>exact h.get hc
theorem OkM.step{M:Cmps}(h:OkM M)(w:Int)(p:Part):OkM (zpw w M p):=by
 unfold zpw;split
 .split
  .rename_i s hc;exact h.set _ ((h.get hc).del w)
  .exact h
 .split
  .rename_i s hc;exact h.set _ ((h.get hc).set w)
  .exact(h.set _ OkS.nil).set _ (OkS.nil.set w)
theorem y0h{M:Cmps}(h:Srt' z4i M)(c d:z7)(s:List (Int×Bool)):wk (cset z4i M c s) d=if d=c then s else wk M d:=by
 unfold wk;rw[zs2 h];by_cases e:d=c
 .subst e;simp
 .have :(z4i d==z4i c)=false:=by rw[beq_eq_false_iff_ne];exact λq=>e (y8z q)
  rw[this,if_neg e];rfl
def zpx(c:z7)(w:Int)(s:List Int)(p:Part):List Int:=if ofP p=c then(if p.fitted=true then y22 s w else zk3 s w) else s
theorem yeo{M:Cmps}(h:OkM M)(w:Int)(p:Part)(c:z7):(wk (zpw w M p) c).map (·.1)=zpx c w ((wk M c).map (·.1)) p:=by
 unfold zpw zpx;cases hf:p.fitted with
 |false=>
  simp only[if_true];split
  .rename_i s hc;rw[y0h h.srt];by_cases e:c=ofP p
   .rw[if_pos e,if_pos e.symm,if_neg (by simp),y8y (h.get hc).1];have:wk M c=s:=by unfold wk;rw[e,hc];rfl
    rw[this]
   .rw[if_neg e,if_neg (λq=>e q.symm)]
  .rename_i hc;by_cases e:c=ofP p
   .rw[if_pos e.symm,if_neg (by simp)];have:wk M c = []:=by unfold wk;rw[e,hc];rfl
    rw[this];rfl
   .rw[if_neg (λq=>e q.symm)]
 |true=>
  simp only[Bool.true_eq_false,if_false];split
  .rename_i s hc;rw[y0h h.srt];by_cases e:c=ofP p
   .rw[if_pos e,if_pos e.symm,if_pos trivial,zsx (h.get hc).1];have:wk M c=s:=by unfold wk;rw[e,hc];rfl
    rw[this]
   .rw[if_neg e,if_neg (λq=>e q.symm)]
  .rename_i hc;rw[y0h (h.srt.set _ _),y0h h.srt];by_cases e:c=ofP p
   .rw[if_pos e,if_pos e.symm,if_pos trivial,zsx OkS.nil.1];have:wk M c = []:=by unfold wk;rw[e,hc];rfl
    rw[this]
   .rw[if_neg e,if_neg e,if_neg (λq=>e q.symm)]
def posR(c:z7)(s:List Int)(r:z6):List Int:=r.item.parts.foldl (zpx c r.item.wagon) s
def posW(c:z7)(rs:List z6):List Int:=rs.foldl (posR c) []
theorem y00(w:Int)(c:z7):∀(ps:List Part)(M:Cmps),OkM M->OkM (ps.foldl (zpw w) M)/\(wk (ps.foldl (zpw w) M) c).map (·.1)=ps.foldl (zpx c w) ((wk M c).map (·.1))
 | [],M,h=>⟨h,rfl⟩
 |p::ps,M,h=>by have:=y00 w c ps (zpw w M p) (h.step w p);rw[yeo h] at this;exact this
theorem zy7(c:z7):∀(rs:List z6)(M:Cmps),OkM M->OkM (rs.foldl zye M)/\(wk (rs.foldl zye M) c).map (·.1)=rs.foldl (posR c) ((wk M c).map (·.1))
 | [],M,h=>⟨h,rfl⟩
 |r::rs,M,h=>by have h1:=y00 r.item.wagon c r.item.parts M h;have:=zy7 c rs (zye M r) h1.1;show _/\_=rs.foldl (posR c) (posR c _ r);rw[show posR c ((wk M c).map (·.1)) r =(wk (zye M r) c).map (·.1) from h1.2.symm];exact this
theorem zym(rs:List z6):OkM (zty rs):=(zy7 ⟨0,0⟩ rs [] OkM.nil).1
theorem zif(rs:List z6)(c:z7):(wk (zty rs) c).map (·.1)=posW c rs:=(zy7 c rs [] OkM.nil).2
theorem ya0(c:z7)(rs:List z6):Inc (posW c rs):=by rw[<- zif];exact zh7 ((zym rs).wk c).1
theorem zw8(c:z7)(w:Int):∀(ps:List Part)(s:List Int)(x:Int),x∈ps.foldl (zpx c w) s->x=w\/x∈s
 | [],s,x,h=>.inr h
 |p::ps,s,x,h=>by
  rcases zw8 c w ps _ x h with q|q
  .exact .inl q
  .unfold zpx at q;split at q
   .split at q
    .exact ze0.1 q
    .exact .inr (z9m.1 q).1
   .exact .inr q
theorem y02(c:z7):∀(rs:List z6)(s:List Int)(x:Int),x∈rs.foldl (posR c) s->x∈s\/∃r∈rs,x=r.item.wagon
 | [],s,x,h=>.inl h
 |r::rs,s,x,h=>by
  rcases y02 c rs _ x h with q|⟨r',hr,q⟩
  .rcases zw8 c _ _ _ x q with q|q
   .exact .inr ⟨r,by simp,q⟩
   .exact .inl q
  .exact .inr ⟨r',by simp[hr],q⟩
theorem zl7{c:z7}{rs:List z6}{x:Int}(h:x∈posW c rs):∃r∈rs,x=r.item.wagon:=by
 rcases y02 c rs [] x h with q|q
 .cases q
 .exact q
theorem zhy:∀{a:List Int}{b:List Int},Inc a->(∀x∈a,x∈b)->a.length<=b.length
 | [],b,_,_=>w2p _
 |x::a,b,ha,h=>by
  have hx:=h x (by simp);have h2:=w0o.1 ha;have:=zhy (a:=a) (b:=b.erase x) h2.2 λy hy=>(List.mem_erase_of_ne (λe=>by have:=h2.1 y hy;omega)).2 (h y (by simp[hy]))
  rw[List.length_erase_of_mem hx] at this;have:=List.length_pos_of_mem hx;simp only[w0k];omega
theorem ya1(c:z7)(rs:List z6):(posW c rs).length<=rs.length:=by
 have:=zhy (ya0 c rs) (b:=rs.map λr=>r.item.wagon) λx hx=>by obtain⟨r,hr,e⟩:=zl7 hx;exact w0a.2 ⟨r,hr,e.symm⟩
 simpa using this
end Px
end
section
namespace Px
open Go
structure FewP(l:List z6):Prop where
 len:l.length<=100
 parts:∀r∈l,r.item.parts.length<=40
 wagon:∀r∈l,-9223372036854775808<=r.item.wagon/\r.item.wagon<9223372036854775808
theorem FewP.carriers{l:List z6}(h:FewP l)(φ:Nat)(hφ:10000<φ)(at_:Int):z3y φ l at_=some (zty (hist l at_),()):=zwt φ hφ l at_ (by have:=h.len;omega) (λr hr=>by have:=h.parts r hr;omega)
theorem y1m{l:List z6}(h:FewP l){c:z7}{at_ x:Int}(hx:x∈posW c (hist l at_)): -9223372036854775808<=x/\x<9223372036854775808:=by obtain⟨r,hr,rfl⟩:=zl7 hx;exact h.wagon r (zne.1 hr).1
theorem ygp{s:List (Int×Bool)}(h:∀x∈s.map (·.1),-9223372036854775808<=x/\x<9223372036854775808)(hl:s.length<=100000):soK kl_0 s=true:=by unfold soK;rw[w03];refine⟨w0g.2 λp hp=>?_,Nat.ble_eq_true_of_le (by omega)⟩;obtain⟨h1,h2⟩:=h p.1 (w0a.2 ⟨p,hp,rfl⟩);show inI [p.1]=true;simp[inI,h1,h2]
theorem y84{κ ν:Type}{e:κ->List Int}{m:List (κ×ν)}(h:Srt' e m)(k:κ)(v:ν):(cset e m k v).length<=m.length+1:=by rw[(zim h k v).length_eq,w0k];have:=(zn7 (e:=e) m k).length_le;omega
end Px
end
section
namespace Px
open Go
def cpM(m s:List (Int×Bool)):List (Int×Bool):=s.foldl (λm e=>cset kl_0 m e.1 e.2) m
theorem yap:∀{s m:List (Int×Bool)},OkS m->(∀q∈s,q.2=true)->OkS (cpM m s)/\∀x,x∈(cpM m s).map (·.1)↔x∈m.map (·.1)\/x∈s.map (·.1)
 | [],m,h,_=>⟨h,λx=>by simp[cpM]⟩
 |e::s,m,h,hs=>by
  have he:e.2=true:=hs e (by simp);have h1:OkS (cset kl_0 m e.1 e.2):=by rw[he];exact h.set e.1
  obtain⟨h2,h3⟩:=yap (s:=s) h1 λq hq=>hs q (by simp[hq])
  refine⟨h2,λx=>(h3 x).trans ?_⟩;rw[zsx h.1,ze0];simp only[w0e,w08];constructor
  .rintro((q|q)|q)
   .exact .inr (.inl q)
   .exact .inl q
   .exact .inr (.inr q)
  .rintro(q|q|q)
   .exact .inl (.inr q)
   .exact .inl (.inl q)
   .exact .inr q
theorem zhj(φ:Nat)(k20):∀(s:List (Int×Bool))(n:Nat)(a b c d e f g i)(m:List (Int×Bool)),s.length<n->z00 φ k20 n a b c d e f g i m s=k20 a b c d e f g (W (i+1)) (cpM m s)
 | [],n+1,a,b,c,d,e,f,g,i,m,_=>rfl
 |x::s,n+1,a,b,c,d,e,f,g,i,m,h=>by simp only[w0k] at h;simp only[z00,z1f];rw[zhj φ k20 s n _ _ _ _ _ _ _ _ _ (by omega)];rfl
def zor(at_:Int)(r:z6):Bool:=((r.item.kind:Int)==10)&&decide ((r.time:Int)<=at_)
def blkR(at_:Int)(M:Cmps)(m:List (Int×Bool))(r:z6):List (Int×Bool):=if zor at_ r=true then r.item.parts.foldl (λm p=>cpM m (wk M (ofP p))) m else m
theorem zq3(φ:Nat)(k10)(at_:Int)(M:Cmps)(l:List z6)(ln i:Int)(ps:List Part)(hp:ps.length<=1000)(hM:∀c,(wk M c).length<φ)(n:Nat)(hn:ps.length<n)(m:List (Int×Bool)):
  z0r φ k10 n at_ M l ln i ps (ps.length:Int) 0 m=k10 at_ M l ln (W (i+1)) (ps.foldl (λm p=>cpM m (wk M (ofP p))) m):=by
 refine(zgi (λn j m=>z0r φ k10 n at_ M l ln i ps (ps.length:Int) j m) (λm=>k10 at_ M l ln (W (i+1)) m) ps (λm p=>cpM m (wk M (ofP p))) (λ_ _=>True) ?_ ?_ n m trivial hn).1
 .intro n j m hj _;refine⟨?_,trivial⟩;rw[z0r,if_pos (by simp;omega),zg ⟨by omega,by omega⟩];simp only[zdw,w04];show z00 φ (z0r φ k10 n) φ at_ M l ln i ps (ps.length:Int) (j:Int) m (wk M (ofP (gt ps (j:Int))))=_;rw[zhj φ _ _ φ _ _ _ _ _ _ _ _ _ (hM _),W_id (x:=(j:Int)+1) (by omega) (by omega)]
 .intro n m _;rw[z0r,if_neg (by simp)]
theorem ztt(φ:Nat){l:List z6}(h:FewP l)(hφ:10000<φ)(at_:Int)(M:Cmps)(hM:∀c,(wk M c).length<φ):
  z0q φ φ at_ M l (l.length:Int) 0 []=ck (soK kl_0 (l.foldl (blkR at_ M) [])=true) (some ((l.foldl (blkR at_ M) []).map (·.1),())):=by
 have hl:=h.len;refine(zgi (λn i m=>z0q φ n at_ M l (l.length:Int) i m) (λm=>ck (soK kl_0 m=true) (some (m.map (·.1),()))) l (blkR at_ M) (λ_ _=>True) ?_ ?_ φ [] trivial (by omega)).1
 .intro n i m hi _;refine⟨?_,trivial⟩;rw[z0q,if_pos (by simp;omega),zg ⟨by omega,by omega⟩];have hg:=zf5 (l:=l) (i:=(i:Int)) (by omega) (by omega);rw[W_id (x:=(i:Int)+1) (by omega) (by omega)];unfold blkR zor;by_cases hk :((gt l (i:Int)).item.kind:Int)=10
  .by_cases ht :((gt l (i:Int)).time:Int)<=at_
   .rw[if_neg (by simp;omega),if_pos (by simp[hk,ht]),zq3 φ _ at_ M l _ _ _ (by have:=h.parts _ hg;omega) hM φ (by have:=h.parts _ hg;omega),W_id (x:=(i:Int)+1) (by omega) (by omega)]
   .rw[if_pos (by simp;omega),if_neg (by simp;omega)]
  .rw[if_pos (by simp[hk]),if_neg (by simp[hk])]
 .intro n m _;rw[z0q,if_neg (by simp)]
theorem zvo{M:Cmps}(hM:OkM M):∀(ps:List Part){m:List (Int×Bool)},OkS m->OkS (ps.foldl (λm p=>cpM m (wk M (ofP p))) m)/\∀x,x∈(ps.foldl (λm p=>cpM m (wk M (ofP p))) m).map (·.1)↔x∈m.map (·.1)\/∃p∈ps,x∈(wk M (ofP p)).map (·.1)
 | [],m,h=>⟨h,λx=>by simp⟩
 |p::ps,m,h=>by
  obtain⟨h1,h2⟩:=yap h (hM.wk (ofP p)).2;obtain⟨h3,h4⟩:=zvo hM ps h1;refine⟨h3,λx=>(h4 x).trans ?_⟩;rw[h2 x];constructor
  .rintro((q|q)|⟨p',hp,q⟩)
   .exact .inl q
   .exact .inr ⟨p,by simp,q⟩
   .exact .inr ⟨p',by simp[hp],q⟩
  .rintro(q|⟨p',hp,q⟩)
   .exact .inl (.inl q)
   .rcases w08.1 hp with rfl|hp
    .exact .inl (.inr q)
    .exact .inr ⟨p',hp,q⟩
theorem y04(at_:Int){M:Cmps}(hM:OkM M):∀(rs:List z6){m:List (Int×Bool)},OkS m->OkS (rs.foldl (blkR at_ M) m)/\
  ∀x,x∈(rs.foldl (blkR at_ M) m).map (·.1)↔x∈m.map (·.1)\/∃r∈rs,zor at_ r=true/\∃p∈r.item.parts,x∈(wk M (ofP p)).map (·.1)
 | [],m,h=>⟨h,λx=>by simp⟩
 |r::rs,m,h=>by
  have h1:OkS (blkR at_ M m r)/\∀x,x∈(blkR at_ M m r).map (·.1)↔x∈m.map (·.1)\/(zor at_ r=true/\∃p∈r.item.parts,x∈(wk M (ofP p)).map (·.1)):=by
   unfold blkR;cases hr:zor at_ r with
   |false=>simp only[w0q,if_false];exact⟨h,λx=>by simp⟩
   |true=>simp only[if_true];obtain⟨q1,q2⟩:=zvo hM r.item.parts h;exact⟨q1,λx=>(q2 x).trans (by simp)⟩
  obtain⟨h3,h4⟩:=y04 at_ hM rs h1.1;refine⟨h3,λx=>(h4 x).trans ?_⟩;rw[h1.2 x];constructor
  .rintro((q|q)|⟨r',hr,q⟩)
   .exact .inl q
   .exact .inr ⟨r,by simp,q⟩
   .exact .inr ⟨r',by simp[hr],q⟩
  .rintro(q|⟨r',hr,q⟩)
   .exact .inl (.inl q)
   .rcases w08.1 hr with rfl|hr
    .exact .inl (.inr q)
    .exact .inr ⟨r',hr,q⟩
theorem y0i{l:List z6}(h:FewP l)(φ:Nat)(hφ:10000<φ)(at_:Int):∃b,z4g φ l at_=some (b,())/\Inc b/\b.length<=100/\
  ∀x,x∈b↔∃r∈l,zor at_ r=true/\∃p∈r.item.parts,x∈posW (ofP p) (hist l at_):=by
 unfold z4g;rw[h.carriers φ hφ,w04];simp only;have hM:=zym (hist l at_);have hw:∀c,(wk (zty (hist l at_)) c).length<φ:=λc=>by have h1:=congrArg List.length (zif (hist l at_) c);rw[w0x] at h1;have:=ya1 c (hist l at_);have:=zzf l at_;have:=h.len;omega
 rw[ztt φ h hφ at_ _ hw];obtain⟨h1,h2⟩:=y04 at_ hM l OkS.nil;have hx:∀x,x∈(l.foldl (blkR at_ (zty (hist l at_))) []).map (·.1)↔∃r∈l,zor at_ r=true/\∃p∈r.item.parts,x∈posW (ofP p) (hist l at_):=by
  intro x;rw[h2 x];simp only[List.map_nil,w10,false_or];constructor
  .rintro⟨r,hr,q,p,hp,hx⟩;exact⟨r,hr,q,p,hp,by rw[<- zif];exact hx⟩
  .rintro⟨r,hr,q,p,hp,hx⟩;exact⟨r,hr,q,p,hp,by rw[zif];exact hx⟩
 have hinc:=zh7 h1.1;generalize l.foldl (blkR at_ (zty (hist l at_))) []=m at *;have hlen:m.length<=100:=by
  have:=zhy hinc (b:=l.map λr=>r.item.wagon) λx hxx=>by obtain⟨r,_,_,p,_,hp⟩:=(hx x).1 hxx;obtain⟨r',hr',e⟩:=zl7 hp;exact w0a.2 ⟨r',(zne.1 hr').1,e.symm⟩
  rw[w0x,w0x] at this;have:=h.len;omega
 rw[zg (ygp (λx hxx=>by obtain⟨r,_,_,p,_,hp⟩:=(hx x).1 hxx;exact y1m h hp) (by omega))];exact⟨_,rfl,hinc,by rw[w0x];exact hlen,hx⟩
theorem zq4(φ:Nat)(l:List z6)(at_:Int):za3 φ l at_=z4g φ l at_:=by kernel_rfl
end Px
end
section
namespace Px
open Go
theorem z3c(φ:Nat)(a b c:Int):zo φ a b c=some (bet a b c,()):=rfl
def zph(t:z2k):Bool:=bet t.load 0 1000000&&bet t.tare 0 1000000&&bet t.length 0 1000000&&bet t.brake 0 1000000&&bet t.gauge 0 7&&bet t.life 1 1073741824&&bet t.floor 0 100
def zl6(n:Int)(w:zq7):Bool:=bet w.type_ 0 (n-1)&&bet w.owner 0 63&&bet w.home 0 511&&bet w.built 0 1073741824&&bet w.worth 0 1099511627776
def zrg(n:Int)(s:Swap):Bool:=bet s.wanted 0 (n-1)&&bet s.given 0 (n-1)&&(s.wanted !=s.given)&&bet s.cost 0 1000000000
def y5i(w:Wash):Bool:=bet w.from_ 0 63&&bet w.to 0 63&&(w.from_ !=w.to)&&bet w.minutes 0 100000
def keyW(w:Wash):Int:=64*w.from_+w.to
def z80(l:List Wash)(i:Nat):Bool:=y5i (gt l (i:Int))&&!(l.take i).any λv=>keyW v==keyW (gt l (i:Int))
def zcq(l:List Wash):Bool:=(List.range l.length).all (z80 l)
def z6y(x:z8c):Int:=
 bif decide (32<x.types.length)||decide (4096<x.wagons.length)||decide (1024<x.swaps.length)||decide (4096<x.washes.length) then 2 else
 bif x.types.all zph&&x.wagons.all (zl6 x.types.length)&&x.swaps.all (zrg x.types.length)&&zcq x.washes then 0 else 1
theorem zhk(p:Nat->Bool)(i:Nat):(List.range (i+1)).all p =((List.range i).all p&&p i):=by rw[w3w,w4i];simp
theorem zkt(φ:Nat)(x:z8c)(hl:x.swaps.length<=1024)(ht:x.types.length<=32):
  ∀n s,x.swaps.length<n->z0v φ n x.swaps (x.swaps.length:Int) 0 x s=zw φ φ x.washes (x.washes.length:Int) 0 (bif x.swaps.all (zrg (x.types.length:Int)) then s else 1) (λ_=>default):=by
 have hp:W ((x.types.length:Int)-1) =(x.types.length:Int)-1:=W_id (by omega) (by omega);refine zng (λn i s=>z0v φ n x.swaps (x.swaps.length:Int) i x s) (λs=>zw φ φ x.washes (x.washes.length:Int) 0 s (λ_=>default)) _ _ ?_ ?_
 .intro n i s hi;have hW:W ((i:Int)+1) =(i:Int)+1:=W_id (by omega) (by omega);rw[z0v,if_pos (by simp;omega),zg ⟨by omega,by omega⟩];simp only[z3c,w04,zrg,z0a,hW,hp];cases bet (gt x.swaps i).wanted 0 ((x.types.length:Int)-1)<;>cases bet (gt x.swaps i).given 0 ((x.types.length:Int)-1)<;>cases ((gt x.swaps i).wanted !=(gt x.swaps i).given)<;>
   cases bet (gt x.swaps i).cost 0 1000000000<;>rfl
 .intro n s;rw[z0v,if_neg (by simp)]
theorem ziw(φ:Nat)(x:z8c)(hl:x.wagons.length<=4096)(ht:x.types.length<=32):
  ∀n s,x.wagons.length<n->z0g φ n x.wagons (x.wagons.length:Int) 0 x s=z0v φ φ x.swaps (x.swaps.length:Int) 0 x (bif x.wagons.all (zl6 (x.types.length:Int)) then s else 1):=by
 have hp:W ((x.types.length:Int)-1) =(x.types.length:Int)-1:=W_id (by omega) (by omega);refine zng (λn i s=>z0g φ n x.wagons (x.wagons.length:Int) i x s) (λs=>z0v φ φ x.swaps (x.swaps.length:Int) 0 x s) _ _ ?_ ?_
 .intro n i s hi;have hW:W ((i:Int)+1) =(i:Int)+1:=W_id (by omega) (by omega);rw[z0g,if_pos (by simp;omega),zg ⟨by omega,by omega⟩];simp only[z3c,w04,zl6,z0a,hW,hp];cases bet (gt x.wagons i).type_ 0 ((x.types.length:Int)-1)<;>cases bet (gt x.wagons i).owner 0 63<;>cases bet (gt x.wagons i).home 0 511<;>
   cases bet (gt x.wagons i).built 0 1073741824<;>cases bet (gt x.wagons i).worth 0 1099511627776<;>rfl
 .intro n s;rw[z0g,if_neg (by simp)]
theorem zmu(φ:Nat)(k:List z2k->Int->Int->z8c->Int->Option (Int×Unit))(ts:List z2k)(len i:Int)(x:z8c)(t:z2k)(n:Nat)(s:Int)(hn:4<n):
  z20 φ k n ts len i 4 0 x s t [t.load,t.tare,t.length,t.brake]=k ts len (W (i+1)) x (bif zph t then s else 1):=by
 have h:=zng (λn j s=>z20 φ k n ts len i 4 j x s t [t.load,t.tare,t.length,t.brake]) (λs=>k ts len (W (i+1)) x (bif (bet t.gauge 0 7&&bet t.life 1 1073741824&&bet t.floor 0 100) then s else 1))
  [t.load,t.tare,t.length,t.brake] (λa=>bet a 0 1000000) (λn j s hi=>by
   rw[z20,if_pos (by simp at hi⊢;omega),zg ⟨by omega,by omega⟩];simp at hi;have hW:W ((j:Int)+1) =(j:Int)+1:=W_id (by omega) (by omega);simp only[z3c,w04,hW];cases bet (gt [t.load,t.tare,t.length,t.brake] (j:Int)) 0 1000000<;>rfl) (λn s=>by
   rw[z20,if_neg (by simp)];simp only[z3c,w04,z0a];cases bet t.gauge 0 7<;>cases bet t.life 1 1073741824<;>cases bet t.floor 0 100<;>rfl) n s hn
 rw[h];simp only[zph,w1b,List.all_nil];cases bet t.load 0 1000000<;>cases bet t.tare 0 1000000<;>cases bet t.length 0 1000000<;>cases bet t.brake 0 1000000<;>
   cases bet t.gauge 0 7<;>cases bet t.life 1 1073741824<;>cases bet t.floor 0 100<;>rfl
theorem zku(φ:Nat)(hφ:4<φ)(x:z8c)(hl:x.types.length<=32):
  ∀n s,x.types.length<n->z3m φ n x.types (x.types.length:Int) 0 x s=z0g φ φ x.wagons (x.wagons.length:Int) 0 x (bif x.types.all zph then s else 1):=by
 refine zng (λn i s=>z3m φ n x.types (x.types.length:Int) i x s) (λs=>z0g φ φ x.wagons (x.wagons.length:Int) 0 x s) _ _ ?_ ?_
 .intro n i s hi;rw[z3m,if_pos (by simp;omega),zg ⟨by omega,by omega⟩];have hW:W ((i:Int)+1) =(i:Int)+1:=W_id (by omega) (by omega);refine(zmu φ _ x.types (x.types.length:Int) (i:Int) x (gt x.types i) φ s hφ).trans ?_;rw[hW]
 .intro n s;rw[z3m,if_neg (by simp)]
theorem zix(φ:Nat)(x:z8c)(hl:x.washes.length<=4096)(n:Nat)(s:Int)(hn:x.washes.length<n):
  zw φ n x.washes (x.washes.length:Int) 0 s (λ_=>default)=some (bif zcq x.washes then s else 1,()):=by
 refine z31 (λn i(t:Int×(Nat->Bool))=>zw φ n x.washes (x.washes.length:Int) i t.1 t.2) x.washes.length
  (λi t=>t.1 =(bif (List.range i).all (z80 x.washes) then s else 1)/\((List.range i).all (z80 x.washes)=true->∀j:Nat,t.2 j =(x.washes.take i).any λv=>keyW v==(j:Int)))
  (λo=>o=some (bif zcq x.washes then s else 1,())) ?_ ?_ n (s,λ_=>false) ⟨by simp,by simp⟩ hn
 .intro n i t hi ⟨h1,h2⟩ hs;have hW:W ((i:Int)+1) =(i:Int)+1:=W_id (by omega) (by omega);rw[zw,if_pos (by simp;omega),zg ⟨by omega,by omega⟩];simp only[z3c,w04,z0a,hW];have hok:y5i (gt x.washes i) =(bet (gt x.washes i).from_ 0 63&&bet (gt x.washes i).to 0 63&&((gt x.washes i).from_ !=(gt x.washes i).to)&&bet (gt x.washes i).minutes 0 100000):=rfl;have hsucc:=zhk (z80 x.washes) i;cases hw:y5i (gt x.washes i) with
  |false=>
   have hf :(List.range (i+1)).all (z80 x.washes)=false:=by rw[hsucc];simp[z80,hw]
   have h3:zw φ n x.washes (x.washes.length:Int) ((i:Int)+1) 1 t.2=some (bif zcq x.washes then s else 1,()):=hs (1,t.2) ⟨by rw[hf];rfl,by rw[hf];intro h;cases h⟩;rw[hw] at hok;rw[<- h3];generalize bet (gt x.washes i).from_ 0 63=a at *;generalize bet (gt x.washes i).to 0 63=b at *;generalize ((gt x.washes i).from_ !=(gt x.washes i).to)=c at *;generalize bet (gt x.washes i).minutes 0 100000=d at *;cases a<;>cases b<;>cases c<;>cases d<;>first |(exact absurd hok (by decide))|rfl
  |true=>
   rw[hw] at hok;have hb:=hok.symm;simp only[w03] at hb;obtain⟨⟨⟨b1,b2⟩,b3⟩,b4⟩:=hb;have c1:=ybq b1;have c2:=ybq b2;simp only[b1,b2,b3,b4,w3t,if_true,w04,w2o,w0q,if_false];rw[zg ⟨by omega,by omega⟩,zg ⟨by omega,by omega⟩];have hkey :((gt x.washes i).from_.toNat*64+(gt x.washes i).to.toNat:Nat) =(keyW (gt x.washes i)).toNat:=by unfold keyW;omega
   have hk0 :((keyW (gt x.washes i)).toNat:Int)=keyW (gt x.washes i):=by unfold keyW;omega
   have key:∀e,(e=bif (List.range (i+1)).all (z80 x.washes) then s else 1)->
     zw φ n x.washes (x.washes.length:Int) ((i:Int)+1) e (upd t.2 (keyW (gt x.washes i)).toNat true)=some (bif zcq x.washes then s else 1,()):=by
    intro e he;refine hs (e,_) ⟨he,λhall j=>?_⟩;rw[hsucc,w03] at hall;rw[zig _ _ _ hi,<- h2 hall.1 j];show (if j =(keyW (gt x.washes i)).toNat then true else t.2 j)=_;by_cases hj:j =(keyW (gt x.washes i)).toNat
    .simp[hj,hk0]
    .have :(keyW (gt x.washes i)==(j:Int))=false:=by simp;intro h;exact hj (by omega)
     simp[hj,this]
   have e64:∀(p:Prop)[Decidable p](y:Option (Int×Unit)),p->ck p y=y:=λp _ y hp=>zg hp
   rw[hkey];simp only[e64 _ _ (show (0:Int)<=(gt x.washes i).from_/\(gt x.washes i).from_<64 by omega),e64 _ _ (show (0:Int)<=(gt x.washes i).to/\(gt x.washes i).to<64 by omega)];cases hall :(List.range i).all (z80 x.washes) with
   |true=>
    have hat:z80 x.washes i = !(t.2 (keyW (gt x.washes i)).toNat):=by rw[h2 hall];simp only[z80,hw,w3d,hk0]
    cases ht2:t.2 (keyW (gt x.washes i)).toNat with
    |true=>simp only[w2o,w3f,if_true];refine key 1 ?_;rw[hsucc,hat,ht2];simp
    |false=>simp only[w2o,w3f,w0q,if_false];refine key t.1 ?_;rw[hsucc,hat,ht2,h1,hall];simp
   |false=>
    have hf :(List.range (i+1)).all (z80 x.washes)=false:=by rw[hsucc,hall];rfl
    have ht1:t.1=1:=by rw[h1,hall];rfl
    rw[ht1];split<;>exact key 1 (by rw[hf];rfl)
 .intro n t ⟨h1,_⟩;rw[zw,if_neg (by simp),h1];rfl
theorem zqg(φ:Nat)(hφ:5000<φ)(x:z8c):z8l φ x=some (z6y x,()):=by
 have e :(((decide (32<(x.types.length:Int))||decide (4096<(x.wagons.length:Int)))||decide (1024<(x.swaps.length:Int)))||decide (4096<(x.washes.length:Int))) =
   (decide (32<x.types.length)||decide (4096<x.wagons.length)||decide (1024<x.swaps.length)||decide (4096<x.washes.length)):=by
  congr 1
  .congr 1
   .congr 1<;>(apply decide_eq_decide.2;omega)
   .apply decide_eq_decide.2;omega
  .apply decide_eq_decide.2;omega
 unfold z8l z6y;rw[e];cases h :(decide (32<x.types.length)||decide (4096<x.wagons.length)||decide (1024<x.swaps.length)||decide (4096<x.washes.length)) with
 |true=>rfl
 |false=>simp only[w2i,decide_eq_false_iff_not,Nat.not_lt] at h;obtain⟨⟨⟨h1,h2⟩,h3⟩,h4⟩:=h;rw[if_neg (by simp),zku φ (by omega) x h1 _ _ (by omega),ziw _ _ h2 h1 _ _ (by omega),zkt _ _ h3 h1 _ _ (by omega),zix _ _ h4 _ _ (by omega)];cases x.types.all zph<;>cases x.wagons.all (zl6 x.types.length)<;>cases x.swaps.all (zrg x.types.length)<;>cases zcq x.washes<;>rfl
theorem zhq{x:z8c}(h:z6y x=0):x.types.length<=32/\x.wagons.length<=4096/\x.swaps.length<=1024/\x.washes.length<=4096/\
  (∀t∈x.types,zph t=true)/\(∀t∈x.wagons,zl6 x.types.length t=true)/\(∀t∈x.swaps,zrg x.types.length t=true)/\zcq x.washes=true:=by
 unfold z6y at h;cases h1 :(decide (32<x.types.length)||decide (4096<x.wagons.length)||decide (1024<x.swaps.length)||decide (4096<x.washes.length)) with
 |true=>rw[h1] at h;cases h
 |false=>
  rw[h1] at h;simp only[w2i,decide_eq_false_iff_not,Nat.not_lt] at h1;obtain⟨⟨⟨a1,a2⟩,a3⟩,a4⟩:=h1;cases h2 :(x.types.all zph&&x.wagons.all (zl6 x.types.length)&&x.swaps.all (zrg x.types.length)&&zcq x.washes) with
  |false=>rw[h2] at h;cases h
  |true=>simp only[w03,w0g] at h2;exact⟨a1,a2,a3,a4,h2.1.1.1,h2.1.1.2,h2.1.2,h2.2⟩
end Px
end
section
namespace Px
open Go
theorem z8y{c:Int}(h:0<=c)(h':c<18446744073709551616):(BitVec.ofInt 64 c).toNat=c.toNat:=by rw[BitVec.toNat_ofInt];omega
theorem ybn{n:Nat}(h:n<18446744073709551616):U (n:Int)=n:=U_id (by omega) (by omega)
theorem yam{a b:Nat}(h:a<18446744073709551616):a&&& b<18446744073709551616:=w4t Nat.and_le_left h
theorem ya3{k:Nat}(h:k<=63):(2 ^ k:Nat)<18446744073709551616:=w2g (Nat.pow_lt_pow_right (by decide) (by omega:k<64)) (by decide)
theorem ygn{c k:Int}(h:0<=c)(hk:0<=k)(hk':k<=63):c.fdiv (2 ^ (min (k:Int).toNat (IntKind.bits .u64))) =((c.toNat / 2 ^ k.toNat:Nat):Int):=by
 have e:min (k:Int).toNat (IntKind.bits .u64)=k.toNat:=by simp[IntKind.bits];omega
 rw[e];have e2 :((2:Int) ^ k.toNat) =((2 ^ k.toNat:Nat):Int):=by simp
 rw[e2,w1r _ (Int.natCast_nonneg _)];have:c =(c.toNat:Int):=by omega
 rw[this];simp
end Px
end
section
namespace Px
open Go
set_option maxRecDepth 100000
theorem y1b :((List.range 256).all λi=>decide (0<=zas z01 i/\zas z01 i<=8/\i<2 ^ (zas z01 i).toNat/\(0<i->0<zas z01 i/\2 ^ ((zas z01 i).toNat-1)<=i)))=true:=by decide+kernel
theorem zow{i:Int}(h:0<=i)(h':i<256):∃n:Nat,zas z01 i=n/\n<=8/\i.toNat<2 ^ n/\(0<i->0<n/\2 ^ (n-1)<=i.toNat):=by have:=w0g.1 y1b i.toNat (by simp;omega);rw[decide_eq_true_eq,show ((i.toNat:Nat):Int)=i by omega] at this;obtain⟨a,b,c,d⟩:=this;exact⟨(zas z01 i).toNat,by omega,by omega,c,λhi=>⟨by have:=(d (by omega)).1;omega,(d (by omega)).2⟩⟩
def z89(v:Nat)(n:Nat):Prop:=v<2 ^ n/\(0<v->0<n/\2 ^ (n-1)<=v)
theorem z89.up{v:Nat}(k:Nat){n:Nat}(h:z89 (v / 2 ^ k) n)(hv:2 ^ k<=v):z89 v (n+k):=by
 have hp:=Nat.two_pow_pos k;have hpos:0<v / 2 ^ k:=Nat.div_pos hv hp;obtain⟨h1,h2⟩:=h;obtain⟨h3,h4⟩:=h2 hpos;refine⟨?_,λ_=>⟨by omega,?_⟩⟩
 .rw[w4q];exact(Nat.div_lt_iff_lt_mul hp).1 h1
 .have:n+k-1 =(n-1)+k:=by omega
  rw[this,w4q];exact(Nat.le_div_iff_mul_le hp).1 h4
theorem y4k(φ:Nat)(v w:Int)(h:0<=v)(h':v<256)(hw:0<=w)(hw':w<=64):∃n:Nat,z1a φ v w=some (64-(w+n),())/\n<=8/\z89 v.toNat n:=by
 obtain⟨n,e,hn,a,b⟩:=zow h h';have e8:IntKind.wrap .u8 v=v:=by simp[IntKind.wrap,IntKind.bits,IntKind.signed];omega
 refine⟨n,?_,hn,a,λhv=>b (by omega)⟩;unfold z1a;rw[e8,zg ⟨h,h'⟩,e,W_id (x:=(n:Int)) (by omega) (by omega),W_id (x:=w+n) (by omega) (by omega),W_id (by omega) (by omega)]
theorem sh8(v:Int):v.fdiv (2 ^ (min (8:Int).toNat 64))=v / 256:=by rw[show ((2:Int) ^ (min (8:Int).toNat 64))=256 by decide];exact w1r _ (by omega)
theorem sh16(v:Int):v.fdiv (2 ^ (min (16:Int).toNat 64))=v / 65536:=by rw[show ((2:Int) ^ (min (16:Int).toNat 64))=65536 by decide];exact w1r _ (by omega)
theorem sh32(v:Int):v.fdiv (2 ^ (min (32:Int).toNat 64))=v / 4294967296:=by rw[show ((2:Int) ^ (min (32:Int).toNat 64))=4294967296 by decide];exact w1r _ (by omega)
theorem yb2(φ:Nat)(v w:Int)(h:0<=v)(h':v<65536)(hw:0<=w)(hw':w<=48):∃n:Nat,z1p φ v w=some (64-(w+n),())/\n<=16/\z89 v.toNat n:=by
 unfold z1p;by_cases c:256<=v
 .rw[if_pos (by simpa using c),if_pos (by decide),sh8,W_id (by omega) (by omega)];obtain⟨n,e,hn,hl⟩:=y4k φ (v / 256) (w+8) (by omega) (by omega) (by omega) (by omega);refine⟨n+8,by rw[e];congr 2;omega,by omega,?_⟩;refine z89.up 8 ?_ (by omega)
  rwa [show v.toNat / 2 ^ 8 =(v / 256).toNat by omega]
 .rw[if_neg (by simpa using c)];obtain⟨n,e,hn,hl⟩:=y4k φ v w h (by omega) (by omega) (by omega);exact⟨n,e,by omega,hl⟩
theorem yb1(φ:Nat)(v w:Int)(h:0<=v)(h':v<4294967296)(hw:0<=w)(hw':w<=32):∃n:Nat,z1o φ v w=some (64-(w+n),())/\n<=32/\z89 v.toNat n:=by
 unfold z1o;by_cases c:65536<=v
 .rw[if_pos (by simpa using c),if_pos (by decide),sh16,W_id (by omega) (by omega)];obtain⟨n,e,hn,hl⟩:=yb2 φ (v / 65536) (w+16) (by omega) (by omega) (by omega) (by omega);refine⟨n+16,by rw[e];congr 2;omega,by omega,?_⟩;refine z89.up 16 ?_ (by omega)
  rwa [show v.toNat / 2 ^ 16 =(v / 65536).toNat by omega]
 .rw[if_neg (by simpa using c)];obtain⟨n,e,hn,hl⟩:=yb2 φ v w h (by omega) (by omega) (by omega);exact⟨n,e,by omega,hl⟩
theorem ygz(φ:Nat)(v:Int)(h:0<=v)(h':v<18446744073709551616):∃n:Nat,z2u φ v=some (64-(n:Int),())/\n<=64/\z89 v.toNat n:=by
 unfold z2u;by_cases c:4294967296<=v
 .rw[if_pos (by simpa using c),if_pos (by decide),sh32];obtain⟨n,e,hn,hl⟩:=yb1 φ (v / 4294967296) 32 (by omega) (by omega) (by omega) (by omega);refine⟨n+32,by rw[e];congr 2;omega,by omega,?_⟩;refine z89.up 32 ?_ (by omega)
  rwa [show v.toNat / 2 ^ 32 =(v / 4294967296).toNat by omega]
 .rw[if_neg (by simpa using c)];obtain⟨n,e,hn,hl⟩:=yb1 φ v 0 h (by omega) (by omega) (by omega);exact⟨n,by rw[e];simp,by omega,hl⟩
theorem zp2{v:Int}(h:0<=v)(h':v<18446744073709551616):U ((BitVec.ofInt 64 v&&& BitVec.ofInt 64 4294967295).toNat)=v % 4294967296:=by
 show U ((BitVec.ofInt 64 v&&& BitVec.ofInt 64 4294967295).toNat:Int)=_;rw[BitVec.toNat_and,z8y h h',z8y (by omega) (by omega),ybn (yam (by omega))];have :(4294967295:Int).toNat=2 ^ 32-1:=by decide
 rw[this,Nat.and_two_pow_sub_one_eq_mod];omega
theorem zp4{a b m n:Int}(ha:0<=a)(hb:0<=b)(h:a<=m)(h':b<=n):0<=a*b/\a*b<=m*n:=⟨w3g ha hb,Int.mul_le_mul h h' hb (by omega)⟩
theorem y7d(φ:Nat)(x y:Int)(hx:0<=x)(hx':x<18446744073709551616)(hy:0<=y)(hy':y<18446744073709551616):
  z8d φ x y=some (x*y / 18446744073709551616,x*y % 18446744073709551616,()):=by
 unfold z8d;simp only[show (0:Int)<=32 by decide,if_true];rw[zp2 hx hx',zp2 hy hy'];simp only[sh32];have ex:x=x / 4294967296*4294967296+x % 4294967296:=by omega
 have ey:y=y / 4294967296*4294967296+y % 4294967296:=by omega
 have a1:0<=x / 4294967296/\x / 4294967296<=4294967295:=by omega
 have a0:0<=x % 4294967296/\x % 4294967296<=4294967295:=by omega
 have b1:0<=y / 4294967296/\y / 4294967296<=4294967295:=by omega
 have b0:0<=y % 4294967296/\y % 4294967296<=4294967295:=by omega
 have hxy:x*y =(x / 4294967296)*(y / 4294967296)*18446744073709551616+((x / 4294967296)*(y % 4294967296)+(x % 4294967296)*(y / 4294967296))*4294967296+(x % 4294967296)*(y % 4294967296):=by
  conv=>lhs;rw[ex,ey]
  generalize x / 4294967296=a;generalize x % 4294967296=b;generalize y / 4294967296=c;generalize y % 4294967296=d;rw[w3v,w4r,w4r,w3v];have e1:a*4294967296*(c*4294967296)=a*c*18446744073709551616:=by rw[w34,Int.mul_left_comm 4294967296 c,<- w34];rfl
  have e2:a*4294967296*d=a*d*4294967296:=by rw[w4u]
  have e3:b*(c*4294967296)=b*c*4294967296:=by rw[w34]
  rw[e1,e2,e3];omega
 have p11:=zp4 a1.1 b1.1 a1.2 b1.2;have p10:=zp4 a1.1 b0.1 a1.2 b0.2;have p01:=zp4 a0.1 b1.1 a0.2 b1.2;have p00:=zp4 a0.1 b0.1 a0.2 b0.2;rw[y2e (x*y),hxy];generalize (x / 4294967296)*(y / 4294967296)=p at *;generalize (x / 4294967296)*(y % 4294967296)=q at *;generalize (x % 4294967296)*(y / 4294967296)=r at *;generalize (x % 4294967296)*(y % 4294967296)=s at *;clear hxy ex ey a1 a0 b1 b0;rw[U_id (x:=p) (by omega) (by omega),U_id (x:=q) (by omega) (by omega),U_id (x:=r) (by omega) (by omega),U_id (x:=s) (by omega) (by omega)];rw[U_id (x:=q+s / 4294967296) (by omega) (by omega),zp2 (by omega) (by omega),
  U_id (x:=(q+s / 4294967296) % 4294967296+r) (by omega) (by omega),U_id (x:=p+(q+s / 4294967296) / 4294967296) (by omega) (by omega),U_id (by omega) (by omega)]
 refine congrArg some (Prod.ext ?_ rfl);show _=_;omega
theorem yf4{yn1 yn0 u d q r:Int}(h1:2147483648<=yn1)(h1':yn1<4294967296)(h0:0<=yn0)(h0':yn0<4294967296)(hd:0<=d)(hd':d<4294967296)(hu:0<=u)
  (hu':u<yn1*4294967296+yn0) (hqr:q*yn1+r=u) (hr:0<=r) (hr':r<4294967296) (hq :(u*4294967296+d) /(yn1*4294967296+yn0)<=q) :
  0<=q/\q<=4294967297/\0<=(u*4294967296+d) /(yn1*4294967296+yn0)/\(u*4294967296+d) /(yn1*4294967296+yn0)<4294967296/\
  (4294967296<=q\/4294967296*r+d<q*yn0->(u*4294967296+d) /(yn1*4294967296+yn0)<=q-1)/\
  (¬(4294967296<=q\/4294967296*r+d<q*yn0)->q =(u*4294967296+d) /(yn1*4294967296+yn0))/\
  (4294967296<=q\/4294967296*r+d<q*yn0->4294967296<=r+yn1->q-1 =(u*4294967296+d) /(yn1*4294967296+yn0)):=by
 have hY:0<yn1*4294967296+yn0:=by omega
 have hQ0:0<=(u*4294967296+d) /(yn1*4294967296+yn0):=w3b (by omega) (by omega);have hQ1 :(u*4294967296+d) /(yn1*4294967296+yn0)<4294967296:=w3m hY (by omega);have hq0:0<=q:=by omega
 have key:q*(yn1*4294967296+yn0) =(u-r)*4294967296+q*yn0:=by rw[w4r,<- w34,<- hqr];omega
 have hq2:q<=4294967297:=by
  rcases Int.lt_or_le 4294967297 q with h|h
  .have:4294967298*yn1<=q*yn1:=w4k (by omega) (by omega);omega
  .exact h
 have lt_of:∀{z:Int},(u*4294967296+d) /(yn1*4294967296+yn0)<z↔u*4294967296+d<z*(yn1*4294967296+yn0):=λ{z}=>Int.ediv_lt_iff_lt_mul hY
 refine⟨hq0,hq2,hQ0,hQ1,λh=>?_,λh=>?_,λh hr2=>?_⟩
 .have :(u*4294967296+d) /(yn1*4294967296+yn0)<q:=by
   rcases h with h|h
   .omega
   .rw[lt_of,key];omega
  omega
 .have:¬(u*4294967296+d) /(yn1*4294967296+yn0)<q:=by rw[lt_of,key];omega
  omega
 .have hq1 :(u*4294967296+d) /(yn1*4294967296+yn0)<q:=by
   rcases h with h|h
   .omega
   .rw[lt_of,key];omega
  have h2:¬(u*4294967296+d) /(yn1*4294967296+yn0)<q-1:=by
   rw[lt_of];have e :(q-1)*(yn1*4294967296+yn0) =(u-(r+yn1))*4294967296+(q-1)*yn0:=by
    have :(q-1)*yn1+(r+yn1)=u:=by rw[Int.sub_mul];omega
    rw[w4r,<- w34,<- this];omega
   have b:=(zp4 (by omega:0<=q-1) h0 (by omega:q-1<=4294967296) (by omega:yn0<=4294967295)).2;rw[e];omega
  omega
theorem mulB{a b:Int}(h:0<=a)(h':a<4294967296)(g:0<=b)(g':b<4294967296):0<=a*b/\a*b<=18446744065119617025:=zp4 h g (by omega:a<=4294967295) (by omega:b<=4294967295)
theorem zr4{ρ:Type}(L:Nat->Int->Int->Option ρ)(k:Int->Option ρ){yn1 yn0 u d:Int}(h1:2147483648<=yn1)(h1':yn1<4294967296)(h0:0<=yn0)(h0':yn0<4294967296)(hd:0<=d)(hd':d<4294967296)(hu:0<=u)
  (hu':u<yn1*4294967296+yn0)
  (step:∀n q r,L (n+1) q r=if(decide (4294967296<=q)||decide (U (U (4294967296*r)+d)<U (q*yn0)))=true then(if decide (4294967296<=U (r+yn1))=true then k (U (q-1)) else L n (U (q-1)) (U (r+yn1))) else k q) :
  ∀(n:Nat)q r,q*yn1+r=u->0<=r->r<4294967296->(u*4294967296+d) /(yn1*4294967296+yn0)<=q->4294967296-r<=2147483648*n->L (n+1) q r=k ((u*4294967296+d) /(yn1*4294967296+yn0)):=by
 intro n
 induction n with
 |zero=>intro q r _ _ _ _ h;omega
 |succ n ih=>
  intro q r hqr hr hr' hq hn;obtain⟨g0,g1,g2,g3,g4,g5,g6⟩:=yf4 h1 h1' h0 h0' hd hd' hu hu' hqr hr hr' hq;have hc :(decide (4294967296<=q)||decide (U (U (4294967296*r)+d)<U (q*yn0)))=true↔(4294967296<=q\/4294967296*r+d<q*yn0):=by
   rw[w1h,decide_eq_true_eq,decide_eq_true_eq];by_cases hqB:4294967296<=q
   .simp[hqB]
   .have:=mulB g0 (by omega:q<4294967296) h0 h0'
    rw[U_id (x:=4294967296*r) (by omega) (by omega),U_id (by omega) (by omega),U_id (by omega) (by omega)]
  rw[step];by_cases c:4294967296<=q\/4294967296*r+d<q*yn0
  .have a4:=g4 c;rw[if_pos (hc.2 c),U_id (x:=r+yn1) (by omega) (by omega),U_id (x:=q-1) (by omega) (by omega)];by_cases e:4294967296<=r+yn1
   .rw[if_pos (by simpa using e),g6 c e]
   .rw[if_neg (by simpa using e)];exact ih _ _ (by rw[Int.sub_mul];omega) (by omega) (by omega) a4 (by omega)
  .rw[if_neg (λh=>c (hc.1 h)),<- g5 c]
theorem znx{yn1 yn0 u d:Int}(h1:2147483648<=yn1)(h1':yn1<4294967296)(h0:0<=yn0)(h0':yn0<4294967296)(hd:0<=d)(hd':d<4294967296)(hu:0<=u)
  (hu':u<yn1*4294967296+yn0):U (u.tdiv yn1)=u / yn1/\U (u-U (U (u.tdiv yn1)*yn1))=u % yn1/\u / yn1*yn1+u % yn1=u/\0<=u % yn1/\u % yn1<4294967296/\
  (u*4294967296+d) /(yn1*4294967296+yn0)<=u / yn1:=by
 have e1:u.tdiv yn1=u / yn1:=w4x hu;have hdm:u / yn1*yn1+u % yn1=u:=by have:=w3c u yn1;exact this
 have hm0:=w3x u (by omega:yn1≠0);have hm1:=w3z u (by omega:0<yn1);have hq0:0<=u / yn1:=w3b hu (by omega);have hq1:u / yn1<=u:=Int.ediv_le_self _ hu;have hqm:0<=u / yn1*yn1:=w3g hq0 (by omega);rw[e1,U_id hq0 (by omega),U_id (x:=u / yn1*yn1) (by omega) (by omega),U_id (by omega) (by omega)];refine⟨rfl,by omega,hdm,hm0,by omega,?_⟩;have hY:0<yn1*4294967296+yn0:=by omega
 have hQ0:0<=(u*4294967296+d) /(yn1*4294967296+yn0):=w3b (by omega) (by omega);have hQ:=Int.ediv_mul_le (u*4294967296+d) (b:=yn1*4294967296+yn0) (by omega);generalize (u*4294967296+d) /(yn1*4294967296+yn0)=z at *;rw[w4r,<- w34] at hQ;have:=w3g hQ0 h0;exact(Int.le_ediv_iff_mul_le (by omega)).2 (by omega)
theorem ybk(a b c:Int):U (U (U a+b)-U c)=U (a+b-c):=by simp only[y2e];omega
theorem ygd{a b:Int}{s:Nat}(hs:s<=63)(ha:0<=a)(h:a*2 ^ s<18446744073709551616)(hb:0<=b)(hb':b<2 ^ s):
  U ((BitVec.ofInt 64 (U (a*2 ^ s))||| BitVec.ofInt 64 b).toNat)=a*2 ^ s+b:=by
 have hp :(0:Int)<2 ^ s:=Int.pow_pos (by decide);have hn:=w3g ha (Int.le_of_lt hp);have hp2 :(2:Int) ^ s =((2 ^ s:Nat):Int):=by simp
 have hlt :(2 ^ s:Nat)<18446744073709551616:=ya3 hs;rw[U_id hn (by omega)];show U ((BitVec.ofInt 64 (a*2 ^ s)||| BitVec.ofInt 64 b).toNat:Int)=_;have hlt2:=(BitVec.ofInt 64 (a*2 ^ s)||| BitVec.ofInt 64 b).isLt;rw[ybn (by omega),BitVec.toNat_or,z8y hn h,z8y hb (by omega)];obtain⟨n,rfl⟩:=Int.eq_ofNat_of_zero_le ha;obtain⟨m,rfl⟩:=Int.eq_ofNat_of_zero_le hb;have e :((n:Int)*2 ^ s).toNat=2 ^ s*n:=by rw[hp2,<- w4l,w2d,w50]
 rw[e,w2d,<- Nat.two_pow_add_eq_or_of_lt (by rw[hp2] at hb';omega)];simp[w4m]
theorem zkb(φ:Nat)(v:Int)(h:0<v)(h':v<18446744073709551616):∃s:Nat,z2u φ v=some ((s:Int),())/\s<=63/\
  9223372036854775808<=v*2 ^ s/\v*2 ^ s<18446744073709551616/\v<=2 ^ (64-s):=by
 obtain⟨n,e,hn,h1,h2⟩:=ygz φ v (by omega) h';obtain⟨h3,h4⟩:=h2 (by omega);refine⟨64-n,?_,by omega,?_,?_,?_⟩
 .rw[e];congr 2;omega
 .have:2 ^ (n-1)*2 ^ (64-n)<=v.toNat*2 ^ (64-n):=w13 _ h4;rw[<- w4q,show n-1+(64-n)=63 by omega] at this;have e2 :((v.toNat*2 ^ (64-n):Nat):Int)=v*2 ^ (64-n):=by rw[w4l,Int.natCast_pow];congr 1;omega
  omega
 .have:v.toNat*2 ^ (64-n)<2 ^ n*2 ^ (64-n):=Nat.mul_lt_mul_of_pos_right h1 (Nat.two_pow_pos _);rw[<- w4q,show n+(64-n)=64 by omega] at this;have e2 :((v.toNat*2 ^ (64-n):Nat):Int)=v*2 ^ (64-n):=by rw[w4l,Int.natCast_pow];congr 1;omega
  omega
 .rw[show 64-(64-n)=n by omega];have e2 :((2 ^ n:Nat):Int) =(2:Int) ^ n:=by simp
  omega
theorem y79(φ:Nat)(hφ:5<φ)(hi lo y:Int)(h0:0<=hi)(hy:hi<y)(hy':y<18446744073709551616)(hl:0<=lo)(hl':lo<18446744073709551616):
  z6r φ hi lo y=some ((hi*18446744073709551616+lo) / y,(hi*18446744073709551616+lo) % y,()):=by
 unfold z6r;rw[if_neg (by simp;omega),if_neg (by simp;omega)];by_cases hz:hi=0
 .subst hz;rw[if_pos (by simp),zg (by omega),zg (by omega),w4x hl,w3u hl,U_id (w3b hl (by omega)) (by have:=Int.ediv_le_self y hl;omega)];simp
 rw[if_neg (by simpa using hz)];obtain⟨s,es,hs,hY1,hY2,hyP⟩:=zkb φ y (by omega) hy';have em1:min (s:Int).toNat 64=s:=by omega
 have em2:min (64-(s:Int)).toNat 64=64-s:=by omega
 have hp :(0:Int)<2 ^ s:=Int.pow_pos (by decide);have hP :(0:Int)<2 ^ (64-s):=Int.pow_pos (by decide);have hpP :(2:Int) ^ s*2 ^ (64-s)=18446744073709551616:=by rw[<- Int.pow_add,show s+(64-s)=64 by omega];rfl
 have hhp:hi*2 ^ s<y*2 ^ s:=w4v hy hp;have hlP0:0<=lo / 2 ^ (64-s):=w3b hl (by omega);have hlP1:lo / 2 ^ (64-s)<2 ^ s:=w3m hP (by omega);have hh0:0<=hi*2 ^ s:=w3g h0 (by omega)
 -- the low word
 have hlo10:U (lo*2 ^ s)=lo % 2 ^ (64-s)*2 ^ s:=by
  have e:lo=lo / 2 ^ (64-s)*2 ^ (64-s)+lo % 2 ^ (64-s):=(w3c lo _).symm;have e2:lo*2 ^ s=lo / 2 ^ (64-s)*18446744073709551616+lo % 2 ^ (64-s)*2 ^ s:=by
   conv=>lhs;rw[e]
   rw[w3v,w34,w4m (2 ^ (64-s)),hpP]
  have m0:=w3x lo (by omega :(2:Int) ^ (64-s)≠0);have m1:=w3z lo hP;have m2:lo % 2 ^ (64-s)*2 ^ s<2 ^ (64-s)*2 ^ s:=w4v m1 hp;have m3:=w3g m0 (Int.le_of_lt hp);rw[w4m (2 ^ (64-s))] at m2;rw[e2,y2e];omega
 have hN :(hi*2 ^ s+lo / 2 ^ (64-s))*18446744073709551616+lo % 2 ^ (64-s)*2 ^ s =(hi*18446744073709551616+lo)*2 ^ s:=by
  have e:lo=lo / 2 ^ (64-s)*2 ^ (64-s)+lo % 2 ^ (64-s):=(w3c lo _).symm;have e2:lo*2 ^ s=lo / 2 ^ (64-s)*18446744073709551616+lo % 2 ^ (64-s)*2 ^ s:=by
   conv=>lhs;rw[e]
   rw[w3v,w34,w4m (2 ^ (64-s)),hpP]
  have e3 :(hi*18446744073709551616+lo)*2 ^ s=hi*2 ^ s*18446744073709551616+lo*2 ^ s:=by rw[w3v,w4u]
  rw[e3,e2];omega
 have hun0:0<=lo % 2 ^ (64-s)*2 ^ s:=w3g (w3x lo (by omega)) (by omega);have hun1:lo % 2 ^ (64-s)*2 ^ s<18446744073709551616:=by rw[<- hlo10,y2e];omega
 have hu':hi*2 ^ s+lo / 2 ^ (64-s)<y*2 ^ s:=by have :(hi+1)*2 ^ s<=y*2 ^ s:=w4k (by omega) (by omega);rw[w3v] at this;omega
 have hs1:U (s:Int)=s:=U_id (by omega) (by omega);have hs2:U (64-(s:Int))=64-(s:Int):=U_id (by omega) (by omega);have ef:lo.fdiv (2 ^ (64-s))=lo / 2 ^ (64-s):=w1r _ (by omega);have eor:=ygd hs h0 (by omega:hi*2 ^ s<18446744073709551616) hlP0 hlP1;obtain⟨Y,hYd⟩:∃Y,Y=y*2 ^ s:=⟨_,rfl⟩;have eY:U (y*2 ^ s)=Y:=by rw[hYd];exact U_id (by omega) (by omega)
 obtain⟨u,hud⟩:∃u,u=hi*2 ^ s+lo / 2 ^ (64-s):=⟨_,rfl⟩;obtain⟨w,hwd⟩:∃w,w=lo % 2 ^ (64-s)*2 ^ s:=⟨_,rfl⟩;rw[<- hwd] at hlo10 hN hun0 hun1;rw[<- hud] at hN hu' eor;rw[<- hYd] at hu' hY1 hY2 hhp;have hu0:0<=u:=by omega
 have fY:Y.fdiv 4294967296=Y / 4294967296:=w1r _ (by omega);have fw:w.fdiv 4294967296=w / 4294967296:=w1r _ (by omega);have mY:=zp2 (v:=Y) (by omega) (by omega);have mw:=zp2 (v:=w) (by omega) (by omega);have b1:2147483648<=Y / 4294967296/\Y / 4294967296<4294967296/\0<=Y % 4294967296/\Y % 4294967296<4294967296:=by omega
 have b2:0<=w / 4294967296/\w / 4294967296<4294967296/\0<=w % 4294967296/\w % 4294967296<4294967296:=by omega
 have eYs:Y / 4294967296*4294967296+Y % 4294967296=Y:=by omega
 obtain⟨m,rfl⟩:∃m,φ=m+3:=⟨φ-3,by omega⟩;rw[es];simp only[w04,hs1,hs2,em1,em2,sh32,eY,hlo10,mY,mw,ef,eor,show (0:Int)<=32 by decide,if_true];rw[zg (by omega),zg (by omega),zg (by omega),zg (by omega),zg (by omega)];obtain⟨i1,i2,i3,i4,i5,i6⟩:=znx (u:=u) (d:=w / 4294967296) b1.1 b1.2.1 b1.2.2.1 b1.2.2.2 b2.1 b2.2.1 hu0 (by omega);rw[i1] at i2⊢;rw[i2];refine(zr4 (λn q r=>z5z (m+3) n Y s (Y / 4294967296) (Y % 4294967296) u (w / 4294967296) (w % 4294967296) q r) (λq=>z60 (m+3) Y s (Y / 4294967296) (Y % 4294967296) u (w / 4294967296) (w % 4294967296) q)
  b1.1 b1.2.1 b1.2.2.1 b1.2.2.2 b2.1 b2.2.1 hu0 (by omega) (λn q r=>by rw[z5z]) (m+2) _ _ i3 i4 i5 i6 (by omega)).trans ?_
 rw[eYs];unfold z60;rw[zg (by omega)];have hQ1:0<=(u*4294967296+w / 4294967296) / Y/\(u*4294967296+w / 4294967296) / Y<4294967296:=⟨w3b (by omega) (by omega),w3m (by omega) (by omega)⟩;have hR1:=w3c (u*4294967296+w / 4294967296) Y;have hR1a:=w3x (u*4294967296+w / 4294967296) (by omega:Y≠0);have hR1b:=w3z (u*4294967296+w / 4294967296) (by omega:0<Y);generalize (u*4294967296+w / 4294967296) / Y=q1 at *;generalize (u*4294967296+w / 4294967296) % Y=r1 at *;have eu21:U (U (U (u*4294967296)+w / 4294967296)-U (q1*Y))=r1:=by rw[ybk,show u*4294967296+w / 4294967296-q1*Y=r1 by omega];exact U_id hR1a (by omega)
 rw[eu21];obtain⟨j1,j2,j3,j4,j5,j6⟩:=znx (u:=r1) (d:=w % 4294967296) b1.1 b1.2.1 b1.2.2.1 b1.2.2.2 b2.2.2.1 b2.2.2.2 hR1a (by omega);rw[j1] at j2⊢;rw[j2];refine(zr4 (λn q r=>z5y (m+3) n Y s (Y / 4294967296) (Y % 4294967296) (w % 4294967296) q1 r r1 q) (λq=>z61 (m+3) Y s (w % 4294967296) q1 r1 q)
  b1.1 b1.2.1 b1.2.2.1 b1.2.2.2 b2.2.2.1 b2.2.2.2 hR1a (by omega) (λn q r=>by rw[z5y]) (m+2) _ _ j3 j4 j5 j6 (by omega)).trans ?_
 rw[eYs];unfold z61;rw[em1,zg (by omega)];have hQ0:0<=(r1*4294967296+w % 4294967296) / Y/\(r1*4294967296+w % 4294967296) / Y<4294967296:=⟨w3b (by omega) (by omega),w3m (by omega) (by omega)⟩;have hR0:=w3c (r1*4294967296+w % 4294967296) Y;have hR0a:=w3x (r1*4294967296+w % 4294967296) (by omega:Y≠0);have hR0b:=w3z (r1*4294967296+w % 4294967296) (by omega:0<Y);generalize (r1*4294967296+w % 4294967296) / Y=q0 at *;generalize (r1*4294967296+w % 4294967296) % Y=r0 at *;rw[ybk,show r1*4294967296+w % 4294967296-q0*Y=r0 by omega,U_id (x:=r0) hR0a (by omega),U_id (x:=q1*4294967296) (by omega) (by omega),U_id (by omega) (by omega),w1r _ (by omega)];have hall :(hi*18446744073709551616+lo-(q1*4294967296+q0)*y)*2 ^ s=r0:=by rw[Int.sub_mul,<- hN,w34,<- hYd,w3v,w4u];omega
 have hz0:0<=hi*18446744073709551616+lo-(q1*4294967296+q0)*y:=by
  rcases Int.lt_or_le (hi*18446744073709551616+lo-(q1*4294967296+q0)*y) 0 with h|h
  .have:=Int.mul_neg_of_neg_of_pos h hp;omega
  .exact h
 have hz1:hi*18446744073709551616+lo-(q1*4294967296+q0)*y<y:=by refine Int.lt_of_mul_lt_mul_right (a:=2 ^ s) ?_ (by omega);rw[hall,<- hYd];exact hR0b
 have hr0:r0 / 2 ^ s=hi*18446744073709551616+lo-(q1*4294967296+q0)*y:=by rw[<- hall];exact Int.mul_ediv_cancel _ (by omega)
 have hdm :(hi*18446744073709551616+lo) / y=q1*4294967296+q0/\(hi*18446744073709551616+lo) % y=hi*18446744073709551616+lo-(q1*4294967296+q0)*y:=(Int.ediv_emod_unique (by omega)).2 ⟨by rw[w4m y];omega,hz0,hz1⟩;rw[hr0,hdm.1,hdm.2]
end Px
end
section
namespace Px
open Go
set_option maxRecDepth 100000
def PP:Nat:=2305843009213690799
def QQ:Nat:=1152921504606845399
def pw(b n:Nat):Nat:=b ^ n % PP
theorem y62(b n:Nat):pw b n<PP:=w4e _ (by decide)
theorem ye6(b:Nat):pw b 0=1:=by simp[pw,PP]
theorem ybf(b m n:Nat):pw b m*pw b n % PP=pw b (m+n):=by unfold pw;rw[w4q,<- Nat.mul_mod]
theorem ygj(b:Nat):pw b 1=b % PP:=by simp[pw]
theorem yfr{a:Nat}(h:a<PP):((a:Int)).tmod 2305843009213690799 =(a:Int):=by unfold PP at h;rw[w3u (by omega)];omega
theorem yfs(b:Nat):((b:Int)).tmod 2305843009213690799 =((b % PP:Nat):Int):=by rw[w3u (by omega)];unfold PP;omega
theorem y4v{ρ:Type}{a b:Nat}(ha:a<PP)(hb:b<PP)(φ:Nat)(hφ:5<φ)(K:Int->Option ρ):((z8d φ (a:Int) (b:Int)).bind λy=>(z6r φ y.1 y.2.1 2305843009213690799).bind λz=>K z.2.1)=K ((a*b % PP:Nat):Int):=by
 have ha' :(a:Int)<2305843009213690799:=by unfold PP at ha;omega
 have hb' :(b:Int)<2305843009213690799:=by unfold PP at hb;omega
 have hp:=zp4 (by omega:0<=(a:Int)) (by omega:0<=(b:Int)) (by omega :(a:Int)<=2305843009213690798) (by omega :(b:Int)<=2305843009213690798);rw[y7d φ _ _ (by omega) (by omega) (by omega) (by omega),w04];generalize hz :(a:Int)*(b:Int)=z at *;show (z6r φ (z / 18446744073709551616) (z % 18446744073709551616) 2305843009213690799).bind _=_;rw[y79 φ hφ _ _ _ (by omega) (by omega) (by omega) (by omega) (by omega),w04];congr 1;have:z / 18446744073709551616*18446744073709551616+z % 18446744073709551616=z:=by omega
 show (z / 18446744073709551616*18446744073709551616+z % 18446744073709551616) % 2305843009213690799=_;rw[this,<- hz,Int.natCast_emod,w4l];rfl
theorem z89.uniq{v m n:Nat}(hv:0<v)(h:z89 v m)(k:z89 v n):m=n:=by obtain⟨h1,h2⟩:=h;obtain⟨k1,k2⟩:=k;obtain⟨h3,h4⟩:=h2 hv;obtain⟨k3,k4⟩:=k2 hv;have a:m-1<n:=(Nat.pow_lt_pow_iff_right (by decide:1<2)).1 (w4t h4 k1);have b:n-1<m:=(Nat.pow_lt_pow_iff_right (by decide:1<2)).1 (w4t k4 h1);omega
section first
variable(φ:Nat)(b n a p:Int)
theorem y5y(v w:Int)(h:0<=v)(h':v<256)(hw:0<=w)(hw':w<=64):∃m:Nat,z9j φ v w b n a p=z0o φ φ b n a (w+m) 0 p/\m<=8/\z89 v.toNat m:=by
 obtain⟨m,e,hm,x,y⟩:=zow h h';have e8:IntKind.wrap .u8 v=v:=by simp[IntKind.wrap,IntKind.bits,IntKind.signed];omega
 refine⟨m,?_,hm,x,λhv=>y (by omega)⟩;unfold z9j;rw[e8,zg ⟨h,h'⟩,e,W_id (x:=(m:Int)) (by omega) (by omega),W_id (x:=w+m) (by omega) (by omega)]
theorem y5x(v w:Int)(h:0<=v)(h':v<65536)(hw:0<=w)(hw':w<=48):∃m:Nat,z9i φ v w b n a p=z0o φ φ b n a (w+m) 0 p/\m<=16/\z89 v.toNat m:=by
 unfold z9i;by_cases c:256<=v
 .rw[if_pos (by simpa using c),if_pos (by decide),sh8,W_id (by omega) (by omega)];obtain⟨m,e,hn,hl⟩:=y5y φ b n a p (v / 256) (w+8) (by omega) (by omega) (by omega) (by omega);refine⟨m+8,by rw[e];congr 1;omega,by omega,?_⟩;refine z89.up 8 ?_ (by omega)
  rwa [show v.toNat / 2 ^ 8 =(v / 256).toNat by omega]
 .rw[if_neg (by simpa using c)];obtain⟨m,e,hn,hl⟩:=y5y φ b n a p v w h (by omega) (by omega) (by omega);exact⟨m,e,by omega,hl⟩
theorem ybe(v w:Int)(h:0<=v)(h':v<4294967296)(hw:0<=w)(hw':w<=32):∃m:Nat,zca φ v w b n a p=z0o φ φ b n a (w+m) 0 p/\m<=32/\z89 v.toNat m:=by
 unfold zca;by_cases c:65536<=v
 .rw[if_pos (by simpa using c),if_pos (by decide),sh16,W_id (by omega) (by omega)];obtain⟨m,e,hn,hl⟩:=y5x φ b n a p (v / 65536) (w+16) (by omega) (by omega) (by omega) (by omega);refine⟨m+16,by rw[e];congr 1;omega,by omega,?_⟩;refine z89.up 16 ?_ (by omega)
  rwa [show v.toNat / 2 ^ 16 =(v / 65536).toNat by omega]
 .rw[if_neg (by simpa using c)];obtain⟨m,e,hn,hl⟩:=y5x φ b n a p v w h (by omega) (by omega) (by omega);exact⟨m,e,by omega,hl⟩
end first
def zl8(φ:Nat)(k:Int->Int->Int->Int->Int->Int->Option (Int×Unit))(L b c d e f g i a:Int):Option (Int×Unit):=ck (0<=(W ((W (L-1))-e))) (if(((U ((BitVec.ofInt 64 ((i:Int).fdiv (2 ^ (min ((W ((W (L-1))-e)):Int).toNat 64)))&&& BitVec.ofInt 64 1).toNat)):Int)==1)=true then(ck (a≠0) (ck (a≠0) ((z8d φ ((d:Int).tmod a) ((b:Int).tmod a)).bind λh=>((z6r φ h.1 h.2.1 a).bind λj=>(k b c j.2.1 f (W (g+1)) a))))) else(k b c d f (W (g+1)) a))
section second
variable(φ:Nat)(k:Int->Int->Int->Int->Int->Int->Option (Int×Unit))(x57 x58 x59 x60 x61 x62 x63 x64:Int)
theorem y61(v w:Int)(h:0<=v)(h':v<256)(hw:0<=w)(hw':w<=64):∃m:Nat,z9l φ k v w x57 x58 x59 x60 x61 x62 x63 x64=zl8 φ k (w+m) x57 x58 x59 x60 x61 x62 x63 x64/\m<=8/\z89 v.toNat m:=by
 obtain⟨m,e,hm,x,y⟩:=zow h h';have e8:IntKind.wrap .u8 v=v:=by simp[IntKind.wrap,IntKind.bits,IntKind.signed];omega
 refine⟨m,?_,hm,x,λhv=>y (by omega)⟩;unfold z9l zl8;rw[e8,zg ⟨h,h'⟩,e,W_id (x:=(m:Int)) (by omega) (by omega),W_id (x:=w+m) (by omega) (by omega)]
theorem y60(v w:Int)(h:0<=v)(h':v<65536)(hw:0<=w)(hw':w<=48):∃m:Nat,z9k φ k v w x57 x58 x59 x60 x61 x62 x63 x64=zl8 φ k (w+m) x57 x58 x59 x60 x61 x62 x63 x64/\m<=16/\z89 v.toNat m:=by
 unfold z9k;by_cases c:256<=v
 .rw[if_pos (by simpa using c),if_pos (by decide),sh8,W_id (by omega) (by omega)];obtain⟨m,e,hn,hl⟩:=y61 φ k x57 x58 x59 x60 x61 x62 x63 x64 (v / 256) (w+8) (by omega) (by omega) (by omega) (by omega);refine⟨m+8,by rw[e];congr 1;omega,by omega,?_⟩;refine z89.up 8 ?_ (by omega)
  rwa [show v.toNat / 2 ^ 8 =(v / 256).toNat by omega]
 .rw[if_neg (by simpa using c)];obtain⟨m,e,hn,hl⟩:=y61 φ k x57 x58 x59 x60 x61 x62 x63 x64 v w h (by omega) (by omega) (by omega);exact⟨m,e,by omega,hl⟩
theorem y5z(v w:Int)(h:0<=v)(h':v<4294967296)(hw:0<=w)(hw':w<=32):∃m:Nat,z3k φ k v w x57 x58 x59 x60 x61 x62 x63 x64=zl8 φ k (w+m) x57 x58 x59 x60 x61 x62 x63 x64/\m<=32/\z89 v.toNat m:=by
 unfold z3k;by_cases c:65536<=v
 .rw[if_pos (by simpa using c),if_pos (by decide),sh16,W_id (by omega) (by omega)];obtain⟨m,e,hn,hl⟩:=y60 φ k x57 x58 x59 x60 x61 x62 x63 x64 (v / 65536) (w+16) (by omega) (by omega) (by omega) (by omega);refine⟨m+16,by rw[e];congr 1;omega,by omega,?_⟩;refine z89.up 16 ?_ (by omega)
  rwa [show v.toNat / 2 ^ 16 =(v / 65536).toNat by omega]
 .rw[if_neg (by simpa using c)];obtain⟨m,e,hn,hl⟩:=y60 φ k x57 x58 x59 x60 x61 x62 x63 x64 v w h (by omega) (by omega) (by omega);exact⟨m,e,by omega,hl⟩
theorem ygg(v:Int)(h:0<=v)(h':v<18446744073709551616):∃m:Nat,(if(decide ((4294967296:Int)<=v))=true then(if 0<=(32:Int) then(z3k φ k (((v:Int).fdiv (2 ^ (min (32:Int).toNat 64)))) 32 x57 x58 x59 x60 x61 x62 x63 x64) else none) else(z3k φ k v 0 x57 x58 x59 x60 x61 x62 x63 x64)) =
  zl8 φ k m x57 x58 x59 x60 x61 x62 x63 x64/\m<=64/\z89 v.toNat m:=by
 by_cases c:4294967296<=v
 .rw[if_pos (by simpa using c),if_pos (by decide),sh32];obtain⟨m,e,hn,hl⟩:=y5z φ k x57 x58 x59 x60 x61 x62 x63 x64 (v / 4294967296) 32 (by omega) (by omega) (by omega) (by omega);refine⟨m+32,by rw[e];congr 1;omega,by omega,?_⟩;refine z89.up 32 ?_ (by omega)
  rwa [show v.toNat / 2 ^ 32 =(v / 4294967296).toNat by omega]
 .rw[if_neg (by simpa using c)];obtain⟨m,e,hn,hl⟩:=y5z φ k x57 x58 x59 x60 x61 x62 x63 x64 v 0 h (by omega) (by omega) (by omega);exact⟨m,by rw[e];simp,by omega,hl⟩
end second
theorem zya(φ:Nat)(hφ:100<φ)(b n:Nat)(hn0:0<n)(hn:n<18446744073709551616):zk0 φ (b:Int) (n:Int)=some (((pw b n:Nat):Int),()):=by
 have hstart:∃L:Nat,zk0 φ (b:Int) (n:Int)=z0o φ φ b n 1 L 0 2305843009213690799/\L<=64/\z89 n L:=by
  unfold zk0;by_cases c :(4294967296:Int)<=n
  .rw[if_pos (by simpa using c),if_pos (by decide),sh32];obtain⟨m,e,hm,hl⟩:=ybe φ b n 1 2305843009213690799 ((n:Int) / 4294967296) 32 (by omega) (by omega) (by omega) (by omega);refine⟨m+32,by rw[e];congr 1;omega,by omega,?_⟩;refine z89.up 32 ?_ (by omega)
   rwa [show n / 2 ^ 32 =((n:Int) / 4294967296).toNat by omega]
  .rw[if_neg (by simpa using c)];obtain⟨m,e,hm,hl⟩:=ybe φ b n 1 2305843009213690799 (n:Int) 0 (by omega) (by omega) (by omega) (by omega);exact⟨m,by rw[e];simp,by omega,by rwa [w2d] at hl⟩
 obtain⟨L,e0,hL,hlen⟩:=hstart;rw[e0];obtain⟨h1,h2⟩:=hlen;refine z31 (λk i v=>z0o φ k (b:Int) (n:Int) v (L:Int) i 2305843009213690799) L (λi v=>v =((pw b (n / 2 ^ (L-i)):Nat):Int)) (λo=>o=some (((pw b n:Nat):Int),())) ?_ ?_ φ 1 ?_ (by omega)
 .intro k i v hi hv hs;rw[z0o,if_pos (by simp;omega),zg (by decide),zg (by decide)];subst hv;rw[yfr (y62 _ _)];refine(y4v (y62 _ _) (y62 _ _) φ (by omega) (λz=>(if(decide ((4294967296:Int)<=(n:Int)))=true then(if 0<=(32:Int) then(z3k φ (z0o φ k) ((((n:Int):Int).fdiv (2 ^ (min (32:Int).toNat 64)))) 32 b n z i L i n 2305843009213690799) else none) else(z3k φ (z0o φ k) n 0 b n z i L i n 2305843009213690799)))).trans ?_;rw[ybf];obtain⟨m,em,hm,hl⟩:=ygg φ (z0o φ k) b n ((pw b (n / 2 ^ (L-i)+n / 2 ^ (L-i)):Nat):Int) i L i n 2305843009213690799 (n:Int) (by omega) (by omega);refine em.trans ?_;rw[w2d] at hl;have:=z89.uniq hn0 hl ⟨h1,h2⟩;subst this;unfold zl8;have hw1:W ((m:Int)-1) =(m:Int)-1:=W_id (by omega) (by omega);have hw2:W ((m:Int)-1-(i:Int)) =((m-1-i:Nat):Int):=by rw[W_id (by omega) (by omega)];omega
  rw[hw1,hw2,zg (by omega)];have hsh:=ygn (c:=(n:Int)) (k:=((m-1-i:Nat):Int)) (by omega) (by omega) (by omega);have hone:U ((BitVec.ofInt 64 ((n:Int).fdiv (2 ^ (min (((m-1-i:Nat):Int)).toNat 64)))&&& BitVec.ofInt 64 1).toNat) =((n / 2 ^ (m-1-i) % 2:Nat):Int):=by rw[show ((n:Int).fdiv (2 ^ (min (((m-1-i:Nat):Int)).toNat 64)))=_ from hsh,w2d,w2d];have hd:n / 2 ^ (m-1-i)<=n:=Nat.div_le_self _ _;rw[BitVec.toNat_and,z8y (Int.natCast_nonneg _) (by omega),z8y (by omega) (by omega),ybn (yam (by omega)),w2d];show ((n / 2 ^ (m-1-i)&&& 1:Nat):Int)=_;rw[Nat.and_one_is_mod]
  rw[hone];have hhalf:n / 2 ^ (m-i)=n / 2 ^ (m-1-i) / 2:=by rw[Nat.div_div_eq_div_mul,<- Nat.pow_succ];congr 2;omega
  have hidx:m-(i+1)=m-1-i:=by omega
  have hW:W ((i:Int)+1) =(i:Int)+1:=W_id (by omega) (by omega);have hbit:=Nat.mod_two_eq_zero_or_one (n / 2 ^ (m-1-i));rcases hbit with hbit|hbit
  .rw[hbit,if_neg (by simp),hW];refine hs _ ?_;rw[hidx,hhalf];congr 2;omega
  .rw[hbit,if_pos (by simp),yfr (y62 _ _),yfs,zg (by decide),zg (by decide),hW];refine(y4v (y62 _ _) (w4e b (by decide:0<PP)) φ (by omega) (λz=>z0o φ k b n z m ((i:Int)+1) 2305843009213690799)).trans ?_;refine hs _ ?_;rw[<- ygj b,ybf,hidx,hhalf];congr 2;omega
 .intro k v hv;rw[z0o,if_neg (by simp),hv];rw[Nat.sub_self,Nat.pow_zero,Nat.div_one]
 .rw[w39,w4z h1,ye6];rfl
def ydl(x:Int):Bool:=decide (2<=x)&&decide (x<2305843009213690799)&&(pw x.toNat QQ==1)
theorem zxp(a:Nat):(((a:Nat):Int)==1) =(a==1):=by rw[w2n,beq_iff_eq,beq_iff_eq];omega
theorem zti(φ:Nat)(hφ:100<φ)(x:Int):zhd φ x=some (ydl x,()):=by
 unfold zhd ydl z0a;cases h:decide (2<=x)&&decide (x<2305843009213690799) with
 |false=>rw[if_neg (by simp),w04];simp only[Bool.false_and]
 |true=>simp only[w03,decide_eq_true_eq] at h;have:=zya φ hφ x.toNat QQ (by decide) (by decide);rw[show ((x.toNat:Nat):Int)=x by omega,show ((QQ:Nat):Int)=1152921504606845399 by decide] at this;rw[if_pos rfl,this,w04,w3d,w3d];show some ((((pw x.toNat QQ:Nat):Int)==1),())=_;rw[zxp]
end Px
end
section
namespace Px
open Go
theorem gz_t{α:Type}{z:α}{p:Prop}[Decidable p]{x:Option α}(h:p):z0a z p x=x:=if_pos h
theorem gz_f{α:Type}{z:α}{p:Prop}[Decidable p]{x:Option α}(h:¬p):z0a z p x=some z:=if_neg h
def zgm(p:z6w):Bool:=bet p.kind 1 5&&bet p.railway 0 15&&(bif p.kind==3 then bet p.other 0 15&&(p.other !=p.railway) else p.other==(-1))
def zji(n:Int)(e:Edge):Bool:=bet e.a 0 (n-1)&&bet e.b 0 (n-1)&&(e.a !=e.b)&&bet e.railway 0 15&&bet e.minutes 1 100000&&bet e.km 0 10000
def zfv(x:z19):Int:=bif decide (512<x.places.length)||decide (2048<x.edges.length) then 2 else bif x.places.all zgm&&x.edges.all (zji x.places.length) then 0 else 1
theorem zmw(φ:Nat)(p:z6w):zam φ p=some (zgm p,()):=by
 have hb :(((decide (p.kind<1)||decide (5<p.kind))||decide (p.railway<0))||decide (16<=p.railway)) = !(bet p.kind 1 5&&bet p.railway 0 15):=by rw[w2n];simp[bet];omega
 unfold zam zgm;rw[hb];cases bet p.kind 1 5&&bet p.railway 0 15 with
 |false=>rfl
 |true=>
  rw[if_neg (by simp)];by_cases h:p.kind=3
  .have :(decide (0<=p.other)&&decide (p.other<16))=bet p.other 0 15:=by rw[w2n];simp[bet];omega
   rw[if_neg (by simp[h]),this];simp[h]
  .have h2 :(p.kind==3)=false:=by simpa using h
   rw[if_pos (by simp[h]),h2];rfl
theorem y39(n:Int)(e:Edge):((((((decide ((min2 (min2 (min2 (e.a) (e.b)) (e.railway)) (e.km))<0)||decide (n<=(max2 (e.a) (e.b))))||(e.a==e.b))||decide (16<=e.railway))||decide (e.minutes<1))||decide (100000<e.minutes))||decide (10000<e.km)) = !zji n e:=by
 have hm:∀x y z:Int,z<=max2 x y↔z<=x\/z<=y:=by intro x y z;unfold max2;split<;>omega
 have hok:zji n e=true↔((((((0<=e.a/\e.a<=n-1)/\0<=e.b/\e.b<=n-1)/\¬e.a=e.b)/\0<=e.railway/\e.railway<=15)/\1<=e.minutes/\e.minutes<=100000)/\0<=e.km/\e.km<=10000):=by simp only[zji,w03,y2l,bne_iff_ne,ne_eq]
 rw[w2n,w0z,<- Bool.not_eq_true,hok];simp only[w1h,decide_eq_true_eq,ydc,hm,beq_iff_eq];omega
theorem y96(x:z19):(decide (512<(x.places.length:Int))||decide (2048<(x.edges.length:Int))) =(decide (512<x.places.length)||decide (2048<x.edges.length)):=by congr 1<;>(apply decide_eq_decide.2;omega)
theorem zmv(φ:Nat)(hφ:5000<φ)(x:z19):z7u φ x=some (zfv x,()):=by
 unfold z7u zfv;rw[y96];cases h:decide (512<x.places.length)||decide (2048<x.edges.length) with
 |true=>rfl
 |false=>
  simp only[w2i,decide_eq_false_iff_not,Nat.not_lt] at h;rw[if_neg (by simp),zt3 (λn i=>z3d φ n (x.places.length:Int) x.places (x.places.length:Int) i x) (z1t φ φ (x.places.length:Int) x.edges (x.edges.length:Int) 0) (some (1,())) x.places (λt=>!zgm t) ?_ ?_ φ (by omega)]
  .rw[zt3 (λn i=>z1t φ n (x.places.length:Int) x.edges (x.edges.length:Int) i) (some (0,())) (some (1,())) x.edges (λt=>!zji x.places.length t) ?_ ?_ φ (by omega)]
   .simp only[List.any_eq_not_all_not,Bool.not_not];cases x.places.all zgm<;>cases x.edges.all (zji x.places.length)<;>rfl
   .intro n i hi;rw[z1t,if_pos (by simp;omega),zg ⟨by omega,by omega⟩,y39,W_id (by omega) (by omega)];cases zji x.places.length (gt x.edges i)<;>rfl
   .intro n;rw[z1t,if_neg (by simp)]
  .intro n i hi;rw[z3d,if_pos (by simp;omega),zg ⟨by omega,by omega⟩,zmw,w04,W_id (by omega) (by omega)];cases zgm (gt x.places i)<;>rfl
  .intro n;rw[z3d,if_neg (by simp)]
theorem zue{x:z19}(h:zfv x=0):x.places.length<=512/\x.edges.length<=2048/\(∀p∈x.places,zgm p=true)/\∀e∈x.edges,zji x.places.length e=true:=by
 unfold zfv at h;cases h1:decide (512<x.places.length)||decide (2048<x.edges.length) with
 |true=>rw[h1] at h;cases h
 |false=>
  rw[h1] at h;cases h2:x.places.all zgm&&x.edges.all (zji x.places.length) with
  |false=>rw[h2] at h;cases h
  |true=>simp only[w2i,decide_eq_false_iff_not,Nat.not_lt] at h1;simp only[w03,w0g] at h2;exact⟨h1.1,h1.2,h2⟩
def y5f:Int->List Int->Bool
 |_,[]=>true
 |p,h::t=>decide (p<h)&&decide (h<=745654)&&y5f h t
def zrf(s:Span):Bool:=decide (0<=s.from_)&&decide (s.from_<=s.to)&&decide (s.to<=1440)
def zxu(c:z94):Bool:=((List.range 7).all λi=>zrf (c.open_ i))&&y5f (-1) c.holidays
theorem ybt(φ:Nat)(c:z94):∀(n i:Nat)(p:Int),-1<=p->(i:Int)<=p+1->p<=745654->i<=c.holidays.length->745656<=(n:Int)+p->z29 φ n p c.holidays (c.holidays.length:Int) i=some (bif y5f p (c.holidays.drop i) then 0 else 1,()):=by
 intro n
 induction n with
 |zero=>intro i p _ _ _ _ _;omega
 |succ n ih=>
  intro i p hp hip hp2 hi hn;by_cases h:i=c.holidays.length
  .rw[h,z29,if_neg (by simp),List.drop_length];rfl
  .rw[z29,if_pos (by simp;omega),zg ⟨by omega,by omega⟩,ycg _ _ (by omega)];by_cases hb:gt c.holidays i<=p\/745654<gt c.holidays i
   .have :(decide (p<gt c.holidays i)&&decide (gt c.holidays i<=745654))=false:=by simp;omega
    rw[if_pos (by simpa using hb)];simp[y5f,this]
   .have h2 :(decide (p<gt c.holidays i)&&decide (gt c.holidays i<=745654))=true:=by simp;omega
    rw[if_neg (by simpa using hb),W_id (by omega) (by omega)];have:=ih (i+1) (gt c.holidays i) (by omega) (by omega) (by omega) (by omega) (by omega);rw[show ((i+1:Nat):Int) =(i:Int)+1 by omega] at this;rw[this];simp[y5f,h2]
theorem zrx(s:Span):((decide (s.from_<0)||decide (s.to<s.from_))||decide (1440<s.to)) = !zrf s:=by
 rw[w2n];simp[zrf]
 try omega
theorem zke(φ:Nat)(hφ:800000<φ)(c:z94):z95 φ c=some (bif zxu c then 0 else 1,()):=by
 unfold z95;refine z31 (λn i(_:Unit)=>z2p φ n c.open_ i c) 7 (λi _=>((List.range i).all λj=>zrf (c.open_ j))=true) (λo=>o=some (bif zxu c then 0 else 1,())) ?_ ?_ φ () (by simp) (by omega)
 .intro n i _ hi h hs;rw[z2p,if_pos (by simp;omega),zg ⟨by omega,by omega⟩,w2d,zrx,W_id (by omega) (by omega)];cases ho:zrf (c.open_ i) with
  |true=>rw[if_neg (by simp)];exact hs () (by rw[zhk,h,ho];rfl)
  |false=>
   have:zxu c=false:=by
    unfold zxu;have :((List.range 7).all λj=>zrf (c.open_ j))=false:=by rw[List.all_eq_false];exact⟨i,by simp;omega,by simp[ho]⟩
    rw[this];rfl
   rw[if_pos (by simp),this];rfl
 .intro n _ h;rw[z2p,if_neg (by simp)];unfold zxu;rw[h,w3d];have:=ybt φ c φ 0 (-1) (by omega) (by omega) (by omega) (by omega) (by omega);simpa using this
theorem zl0{α ρ:Type}[Inhabited α](L:Nat->Bool->Int->Option ρ)(k:Bool->Option ρ)(l:List α)(p:α->Bool)
  (step:∀(n i:Nat)(s:Bool),i<l.length->L (n+1) s i=L n (s||p (gt l i)) ((i:Int)+1)) (done:∀n s,L (n+1) s l.length=k s) (n:Nat) (s:Bool) (hn:l.length<n):L n s 0=k (s||l.any p):=by
 refine z31 (λn i t=>L n t i) l.length (λi t=>t =(s||(l.take i).any p)) (λo=>o=k (s||l.any p)) ?_ ?_ n s (by simp) hn
 .intro n i t hi ht hs;rw[step n i t hi];exact hs _ (by rw[zig _ _ _ hi,ht,Bool.or_assoc])
 .intro n t ht;rw[w29] at ht;rw[done,ht]
def znl(n:Int)(r:zid):Bool:=(((!bet r.place 0 (n-1))||decide (r.low<(-1000)))||decide (r.high<r.low))||decide (1000<r.high)
def zkc(x:z19)(s:ze2):Bool:=(!bet s.place 0 ((x.places.length:Int)-1))||((gt x.places s.place).kind !=4)
def zwq(r:z47):Bool:=!zxu r.calendar||!ydl r.key
def znk(x:Pool):Bool:=
 ((((((x.railways.length:Int)==0)||x.readers.any (znl x.network.places.length))||x.shippers.any (zkc x.network))||x.fleet.wagons.any (λw=>decide ((x.network.places.length:Int)<=w.home)))||
 x.network.places.any (λp=>decide ((x.railways.length:Int)<=p.railway)||decide ((x.railways.length:Int)<=p.other)))||x.network.edges.any (λe=>decide ((x.railways.length:Int)<=e.railway))||x.railways.any zwq
def zkd(x:Pool):Bool:=(decide (256<(x.readers.length:Int))||decide (256<(x.shippers.length:Int)))||decide (16<(x.railways.length:Int))
def z8f(x:Pool):Int:=if zfv x.network≠0 then zfv x.network else if z6y x.fleet≠0 then z6y x.fleet else bif zkd x then 2 else bif znk x then 1 else 0
theorem z4q(φ:Nat)(hφ:800000<φ)(x:Pool):z0u φ x=some (z8f x,()):=by
 unfold z0u z8f;rw[zmv _ (by omega),w04];by_cases hn:zfv x.network=0
 case neg=>rw[if_pos (by simp[hn]),if_pos hn]
 rw[if_neg (by simp[hn]),if_neg (λe:zfv x.network≠0=>e hn),zqg _ (by omega),w04];by_cases hf:z6y x.fleet=0
 case neg=>rw[if_pos (by simp[hf]),if_pos hf]
 rw[if_neg (by simp[hf]),if_neg (λe:z6y x.fleet≠0=>e hf)];cases hb:zkd x with
 |true=>have e :(((decide (256<(x.readers.length:Int))||decide (256<(x.shippers.length:Int)))||decide (16<(x.railways.length:Int))))=zkd x:=rfl;rw[e,hb];rfl
 |false=>
  have hb':¬(((decide (256<(x.readers.length:Int))||decide (256<(x.shippers.length:Int)))||decide (16<(x.railways.length:Int)))=true):=by rw[show (((decide (256<(x.readers.length:Int))||decide (256<(x.shippers.length:Int)))||decide (16<(x.railways.length:Int))))=zkd x from rfl,hb];simp
  rw[if_neg hb'];simp only[w1h,decide_eq_true_eq,not_or] at hb';obtain⟨n1,n2,_,_⟩:=zue hn;obtain⟨f1,f2,_⟩:=zhq hf;have hp:W ((x.network.places.length:Int)-1) =(x.network.places.length:Int)-1:=W_id (by omega) (by omega);have a1:=zl0 (λn s i=>z1s φ n x.network.places (x.railways.length:Int) s x.readers (x.readers.length:Int) i x) (λs=>z0y φ φ x.network.places (x.railways.length:Int) s x.shippers (x.shippers.length:Int) 0 x) x.readers (znl x.network.places.length) (λn i s hi=>by
   rw[z1s,if_pos (by simp;omega),zg ⟨by omega,by omega⟩,hp,W_id (by omega) (by omega)];unfold znl;cases s with
   |true=>rw[gz_f (by simp)];rfl
   |false=>rw[gz_t rfl];rfl) (λn s=>by rw[z1s,if_neg (by simp)]) φ ((x.railways.length:Int)==0) (by omega)
  refine a1.trans ?_;have a2:=λs0=>zl0 (λn s i=>z0y φ n x.network.places (x.railways.length:Int) s x.shippers (x.shippers.length:Int) i x) (λs=>z0z φ φ x.network.places (x.railways.length:Int) s x.fleet.wagons (x.fleet.wagons.length:Int) 0 x) x.shippers (zkc x.network) (λn i s hi=>by
   rw[z0y,if_pos (by simp;omega),zg ⟨by omega,by omega⟩,hp,W_id (by omega) (by omega)];unfold zkc;cases s with
   |true=>rw[gz_f (by simp),w04,zg (by simp)];rfl
   |false=>
    rw[gz_t rfl,z3c,w04];cases hbt:bet (gt x.shippers i).place 0 ((x.network.places.length:Int)-1) with
    |true=>rw[zg (λ_=>by have:=ybq hbt;omega)];rfl
    |false=>rw[zg (by simp)];rfl) (λn s=>by rw[z0y,if_neg (by simp)]) φ s0 (by omega)
  refine(a2 _).trans ?_;have a3:=λs0=>zl0 (λn s i=>z0z φ n x.network.places (x.railways.length:Int) s x.fleet.wagons (x.fleet.wagons.length:Int) i x) (λs=>z10 φ φ (x.railways.length:Int) s x.network.places (x.network.places.length:Int) 0 x) x.fleet.wagons (λw=>decide ((x.network.places.length:Int)<=w.home)) (λn i s hi=>by rw[z0z,if_pos (by simp;omega),zg ⟨by omega,by omega⟩,W_id (by omega) (by omega)]) (λn s=>by rw[z0z,if_neg (by simp)]) φ s0 (by omega)
  refine(a3 _).trans ?_;have a4:=λs0=>zl0 (λn s i=>z10 φ n (x.railways.length:Int) s x.network.places (x.network.places.length:Int) i x) (λs=>z11 φ φ (x.railways.length:Int) s x.network.edges (x.network.edges.length:Int) 0 x) x.network.places (λp=>decide ((x.railways.length:Int)<=p.railway)||decide ((x.railways.length:Int)<=p.other)) (λn i s hi=>by rw[z10,if_pos (by simp;omega),zg ⟨by omega,by omega⟩,W_id (by omega) (by omega),Bool.or_assoc]) (λn s=>by rw[z10,if_neg (by simp)]) φ s0 (by omega)
  refine(a4 _).trans ?_;have a5:=λs0=>zl0 (λn s i=>z11 φ n (x.railways.length:Int) s x.network.edges (x.network.edges.length:Int) i x) (λs=>z12 φ φ s x.railways (x.railways.length:Int) 0) x.network.edges (λe=>decide ((x.railways.length:Int)<=e.railway)) (λn i s hi=>by rw[z11,if_pos (by simp;omega),zg ⟨by omega,by omega⟩,W_id (by omega) (by omega)]) (λn s=>by rw[z11,if_neg (by simp)]) φ s0 (by omega)
  refine(a5 _).trans ?_;have a6:=λs0=>zl0 (λn s i=>z12 φ n s x.railways (x.railways.length:Int) i) (λs=>if s=true then some (1,()) else some (0,())) x.railways zwq (λn i s hi=>by
   rw[z12,if_pos (by simp;omega),zg ⟨by omega,by omega⟩,W_id (by omega) (by omega)];unfold zwq;cases s with
   |true=>rw[gz_f (by simp),w04,gz_f (by simp)];rfl
   |false=>
    rw[gz_t rfl,zke _ hφ,w04];cases zxu (gt x.railways i).calendar with
    |false=>rw[gz_f (by simp)];rfl
    |true=>rw[gz_t (by simp),zti _ (by omega)];rfl) (λn s=>by rw[z12,if_neg (by simp)]) φ s0 (by omega)
  refine(a6 _).trans ?_;show (if znk x=true then some ((1:Int),()) else some (0,()))=_;cases znk x<;>rfl
theorem zr1{p:Pool}(h:z8f p=0):zfv p.network=0/\z6y p.fleet=0/\p.readers.length<=256/\p.shippers.length<=256/\p.railways.length<=16/\znk p=false:=by
 unfold z8f at h;by_cases hn:zfv p.network=0
 case neg=>rw[if_pos hn] at h;exact absurd h hn
 rw[if_neg (λe:zfv p.network≠0=>e hn)] at h;by_cases hf:z6y p.fleet=0
 case neg=>rw[if_pos hf] at h;exact absurd h hf
 rw[if_neg (λe:z6y p.fleet≠0=>e hf)] at h;cases hb:zkd p with
 |true=>rw[hb] at h;cases h
 |false=>
  rw[hb] at h;cases hd:znk p with
  |true=>rw[hd] at h;cases h
  |false=>simp only[zkd,w2i,decide_eq_false_iff_not] at hb;exact⟨hn,hf,by omega,by omega,by omega,rfl⟩
end Px
end
section
namespace Px
open Go
set_option maxHeartbeats 4000000
def y5h(fit:Bool)(x:Part):Bool:=!(((((decide ((x.kind:Int)<1))||(decide ((3:Int)<x.kind)))||(decide ((x.serial:Int)<0)))||(decide ((1073741824:Int)<x.serial)))||(x.fitted&&(!fit)))
theorem zci(φ:Nat)(l:List Part)(fit:Bool)(h:l.length<=1000)(hφ:1000<φ):zg1 φ l fit=some (l.all (y5h fit)&&decide ((l.length:Int)<=16),()):=by
 unfold zg1;rw[zt3 (λn i=>z6s φ n l fit l (l.length:Int) i) (some (decide ((l.length:Int)<=16),())) (some (false,())) l (λx=>!y5h fit x) ?_ ?_ φ (by omega)]
 .simp only[List.any_eq_not_all_not,Bool.not_not];cases l.all (y5h fit)<;>rfl
 .intro n i hi;rw[z6s,if_pos (by simp;omega),zg ⟨by omega,by omega⟩,W_id (by omega) (by omega)];show _=bif !!_ then _ else _;rw[Bool.not_not];cases (((((decide (((gt l i).kind:Int)<1))||(decide ((3:Int)<(gt l i).kind)))||(decide (((gt l i).serial:Int)<0)))||(decide ((1073741824:Int)<(gt l i).serial)))||((gt l i).fitted&&(!fit)))<;>rfl
 .intro n;rw[z6s,if_neg (by simp)]
structure y2c(p:Pool)(it:Item):Prop where
 kind:1<=it.kind/\it.kind<=15
 wagon:it.kind<=9->0<=it.wagon/\it.wagon<(p.fleet.wagons.length:Int)
 read:it.kind=1->0<=it.other/\it.other<(p.readers.length:Int)
 place:it.kind=2\/it.kind=3\/it.kind=4\/it.kind=6\/it.kind=7\/it.kind=9->0<=it.place/\it.place<(p.network.places.length:Int)
 from_:it.kind<=9->0<=it.from_/\it.from_<=1073741824
 to:it.kind=2\/it.kind=9->it.from_<=it.to/\it.to<=1073741824
theorem zzc{ρ:Type}(c q:Bool)(K:Bool->Option ρ):((z0a (default,()) (c=true) (some (q,()))).bind λy=>K (c&&y.1))=K (c&&q):=by unfold z0a;cases c<;>rfl
theorem y3i(p:Pool)(it:Item)(hparts:it.parts.length<=1000)(hw:p.fleet.wagons.length<=4096)(hr:p.readers.length<=256)(hs:p.shippers.length<=256)(hpl:p.network.places.length<=512)(ht:p.fleet.types.length<=32):
  ∃b,(∀φ,1000<φ->z2q φ p it=some (b,()))/\(b=true->y2c p it):=by
 have w1:W ((p.fleet.wagons.length:Int)-1) =(p.fleet.wagons.length:Int)-1:=W_id (by omega) (by omega);have w2:W ((p.readers.length:Int)-1) =(p.readers.length:Int)-1:=W_id (by omega) (by omega);have w3:W ((p.shippers.length:Int)-1) =(p.shippers.length:Int)-1:=W_id (by omega) (by omega);have w4:W ((p.network.places.length:Int)-1) =(p.network.places.length:Int)-1:=W_id (by omega) (by omega);have w5:W ((p.fleet.types.length:Int)-1) =(p.fleet.types.length:Int)-1:=W_id (by omega) (by omega);have hm:∀x z:Int,max2 x 0<=z↔x<=z/\0<=z:=by intro x z;unfold max2;split<;>omega
 by_cases hk0:it.kind<1
 .refine⟨false,λφ hφ=>?_,λh=>by cases h⟩;unfold z2q zj;rw[if_pos (by simp;omega),if_pos (by simpa using hk0)];simp
 by_cases hk16:15<it.kind
 .refine⟨false,λφ hφ=>?_,λh=>by cases h⟩;have e:∀k:Int,k<=15->(it.kind==k)=false:=λk hk=>by simp;omega
  unfold z2q;rw[if_neg (by simp;omega)];simp[e,z3l,zj]
 have hcases:it.kind=1\/it.kind=2\/it.kind=3\/it.kind=4\/it.kind=5\/it.kind=6\/it.kind=7\/it.kind=8\/it.kind=9\/it.kind=10\/it.kind=11\/it.kind=12\/it.kind=13\/it.kind=14\/it.kind=15:=by omega
 by_cases hin:0<=it.place/\it.place<(p.network.places.length:Int)
 .have e1 :(decide ((0:Int)<=it.place)&&decide ((it.place:Int)<(p.network.places.length:Int)))=true:=by simp[hin]
  rcases hcases with hk|hk|hk|hk|hk|hk|hk|hk|hk|hk|hk|hk|hk|hk|hk
  case inr.inr.inr.inr.inr.inr.inr.inr.inl=>refine⟨_,λφ hφ=>by unfold z2q;simp only[hk,e1,z69,zg hin,w1,w2,w3,w4,w5,zci φ _ _ hparts hφ,w04,Int.reduceLE,Int.reduceLT,Int.reduceBEq,decide_true,decide_false,if_true,w0q,if_false];refine(zzc _ _ (λb=>zj φ ⟨_,_,b⟩)).trans ?_;unfold zj;rfl,λhb=>?_⟩;simp only[w03,decide_eq_true_eq,hm,beq_iff_eq,bne_iff_ne,ne_eq,w1h] at hb;constructor<;>omega
  case inr.inr.inr.inr.inr.inr.inr.inr.inr.inl=>refine⟨_,λφ hφ=>by unfold z2q;simp only[hk,e1,zg hin,w1,w2,w3,w4,w5,zci φ _ _ hparts hφ,w04,Int.reduceLE,Int.reduceLT,Int.reduceBEq,decide_true,decide_false,if_true,w0q,if_false];refine(zzc _ _ (λb=>zj φ ⟨_,_,b⟩)).trans ?_;unfold zj;rfl,λhb=>?_⟩;constructor<;>omega
  all_goals
   refine⟨_,λφ hφ=>by unfold z2q;simp only[hk,e1,z6z,z63,z64,z65,z67,z68,z3l,z6a,zj,zg hin,w1,w2,w3,w4,w5,w04,Int.reduceLE,Int.reduceLT,Int.reduceBEq,Int.reduceBNe,Int.reduceNe,decide_true,decide_false,if_true,w0q,if_false];rfl,λhb=>?_⟩;simp only[w03,decide_eq_true_eq,hm,beq_iff_eq,bne_iff_ne,ne_eq,w1h] at hb;constructor<;>omega
 .have e1 :(decide ((0:Int)<=it.place)&&decide ((it.place:Int)<(p.network.places.length:Int)))=false:=by rw[<- Bool.not_eq_true];simpa using hin
  rcases hcases with hk|hk|hk|hk|hk|hk|hk|hk|hk|hk|hk|hk|hk|hk|hk
  case inr.inr.inr.inr.inr.inr.inr.inr.inl=>refine⟨_,λφ hφ=>by unfold z2q;simp only[hk,e1,z69,w1,w2,w3,w4,w5,zci φ _ _ hparts hφ,w04,Int.reduceLE,Int.reduceLT,Int.reduceBEq,decide_true,decide_false,if_true,w0q,if_false];refine(zzc _ _ (λb=>zj φ ⟨_,_,b⟩)).trans ?_;unfold zj;rfl,λhb=>?_⟩;simp at hb
  case inr.inr.inr.inr.inr.inr.inr.inr.inr.inl=>refine⟨_,λφ hφ=>by unfold z2q;simp only[hk,e1,w1,w2,w3,w4,w5,zci φ _ _ hparts hφ,w04,Int.reduceLE,Int.reduceLT,Int.reduceBEq,decide_true,decide_false,if_true,w0q,if_false];refine(zzc _ _ (λb=>zj φ ⟨_,_,b⟩)).trans ?_;unfold zj;rfl,λhb=>?_⟩;constructor<;>omega
  all_goals
   refine⟨_,λφ hφ=>by unfold z2q;simp only[hk,e1,z6z,z63,z64,z65,z67,z68,z3l,z6a,zj,w1,w2,w3,w4,w5,w04,Int.reduceLE,Int.reduceLT,Int.reduceBEq,Int.reduceBNe,Int.reduceNe,decide_true,decide_false,if_true,w0q,if_false];rfl,λhb=>?_⟩;simp only[w03,decide_eq_true_eq,hm,beq_iff_eq,bne_iff_ne,ne_eq,w1h] at hb
   first |(constructor<;>omega) |(simp at hb;done) |(simp at hb;constructor<;>omega)
def zh9(p:Pool)(it:Item):Bool:=((z2q 2000 p it).getD (false,())).1
def y9e(it:Item):Bool:=((z71 0 it).getD (false,())).1
theorem zvp(φ:Nat)(it:Item):z71 φ it=some (y9e it,()):=by unfold y9e z71;split<;>rfl
def zjj(p:Pool)(it:Item):Bool:=y9e it&&zh9 p it
theorem zuq{p:Pool}(hc:z8f p=0){it:Item}(hparts:it.parts.length<=1000):(∀φ,1000<φ->z2q φ p it=some (zh9 p it,()))/\(zh9 p it=true->y2c p it):=by
 obtain⟨hn,hf,h1,h2,h3,hb⟩:=zr1 hc;obtain⟨n1,n2,_,_⟩:=zue hn;obtain⟨f1,f2,_⟩:=zhq hf;obtain⟨b,hφ,hok⟩:=y3i p it hparts f2 h1 h2 n1 f1;have:zh9 p it=b:=by unfold zh9;rw[hφ 2000 (by omega)];rfl
 rw[this];exact⟨hφ,hok⟩
theorem zlv(φ:Nat)(hφ:800000<φ){p:Pool}(hc:z8f p=0){it:Item}(hparts:it.parts.length<=1000):zfy φ p it=some (bif zjj p it then 0 else 110,()):=by
 unfold zfy zjj;rw[z4q φ hφ,w04,if_neg (by simp[hc]),zvp,w04];cases y9e it with
 |false=>rfl
 |true=>rw[gz_t (by simp),(zuq hc hparts).1 φ (by omega),w04];cases zh9 p it<;>rfl
theorem y5g{p:Pool}(hc:z8f p=0){it:Item}(hparts:it.parts.length<=1000)(h:zjj p it=true):y2c p it:=by simp only[zjj,w03] at h;exact(zuq hc hparts).2 h.2
end Px
end
section
namespace Px
open Go
set_option maxRecDepth 100000
def zeq(at_ w:Int)(r:z6):Bool:=(!decide ((at_:Int)<r.item.from_))&&((((r.item.kind:Int)==8)&&((r.item.code:Int)==9))&&decide (r.item.wagon=w))
def za8(at_ w:Int)(r:z6):Bool:=(!decide ((at_:Int)<r.item.from_))&&(((((r.item.kind:Int)==6)||((r.item.kind:Int)==7))||((r.item.kind:Int)==5))&&decide (r.item.wagon=w))
def zhm(at_ w:Int)(r:z6):Bool:=(!decide ((at_:Int)<r.item.from_))&&(((r.item.kind:Int)==5)&&decide (r.item.wagon=w))
def zsy(at_:Int)(S:List z6)(w:Int):Item:=((S.filter (za8 at_ w)).getLast?).elim default (·.item)
def zuf(at_:Int)(S:List z6)(w:Int):Int:=((S.filter (zhm at_ w)).getLast?).elim (-1) (·.item.class_)
def zsr(at_:Int)(S:List z6)(w:Int):Bool:=S.any (zeq at_ w)
theorem zh8(at_:Int)(P:List z6)(r:z6)(w:Int):zsy at_ (P++[r]) w=if za8 at_ w r=true then r.item else zsy at_ P w:=by unfold zsy;rw[w1g];cases h:za8 at_ w r<;>simp[w1o,h]
theorem ze4(at_:Int)(P:List z6)(r:z6)(w:Int):zuf at_ (P++[r]) w=if zhm at_ w r=true then r.item.class_ else zuf at_ P w:=by unfold zuf;rw[w1g];cases h:zhm at_ w r<;>simp[w1o,h]
theorem zgz(at_:Int)(P:List z6)(r:z6)(w:Int):zsr at_ (P++[r]) w =(zeq at_ w r||zsr at_ P w):=by unfold zsr;simp[Bool.or_comm]
structure StW(n:Nat)(at_:Int)(P:List z6)(last:List Item)(cls:List Int)(gone:List Bool):Prop where
 l1:last.length=n
 l2:cls.length=n
 l3:gone.length=n
 at1:∀w:Nat,w<n->gt last (w:Int)=zsy at_ P w
 at2:∀w:Nat,w<n->gt cls (w:Int)=zuf at_ P w
 at3:∀w:Nat,w<n->gt gone (w:Int)=zsr at_ P w
theorem StW.skip{n:Nat}{at_:Int}{P:List z6}{last:List Item}{cls:List Int}{gone:List Bool}(h:StW n at_ P last cls gone)(r:z6)(h1:∀w,za8 at_ w r=false)(h2:∀w,zhm at_ w r=false)(h3:∀w,zeq at_ w r=false):StW n at_ (P++[r]) last cls gone:=⟨h.l1,h.l2,h.l3,λw hw=>by rw[zh8,h1 w,h.at1 w hw];rfl,λw hw=>by rw[ze4,h2 w,h.at2 w hw];rfl,λw hw=>by rw[zgz,h3 w,h.at3 w hw];rfl⟩
theorem zwk(φ:Nat)(at_:Int)(p:Pool)(B:List Int)(S:List z6)(hS:S.length<=1000)(hφ:1000<φ)(hw:∀r∈S,r.item.kind<=9->0<=r.item.wagon/\r.item.wagon<(p.fleet.wagons.length:Int))
  (G:Option (List zf×Int×Unit)->Prop) {last0:List Item} {cls0:List Int} {gone0:List Bool} (h0:StW p.fleet.wagons.length at_ [] last0 cls0 gone0)
  (fin:∀last cls gone,StW p.fleet.wagons.length at_ S last cls gone->G (zz φ φ at_ p B (last.length:Int) 0 cls gone ([]:StkM) last)) :
  G (z0d φ φ at_ p B (S.length:Int) 0 last0 cls0 gone0 S):=by
 refine z31 (λn i(s:List Item×List Int×List Bool)=>z0d φ n at_ p B (S.length:Int) i s.1 s.2.1 s.2.2 S) S.length (λi s=>StW p.fleet.wagons.length at_ (S.take i) s.1 s.2.1 s.2.2) G ?_ ?_ φ (last0,cls0,gone0) (by simpa using h0) (by omega)
 .intro n i s hi h hk;obtain⟨last,cls,gone⟩:=s;simp only at h hk⊢;have hm:gt S (i:Int)∈S:=zf5 (by omega) (by omega);have hwr:=hw _ hm;rw[z0d,if_pos (by simp;omega),zg ⟨by omega,by omega⟩,W_id (x:=(i:Int)+1) (by omega) (by omega)];have htk:=z27 S i hi;generalize gt S (i:Int)=r at hwr htk⊢;by_cases c1:at_<r.item.from_
  .rw[if_pos (by simpa using c1)];refine hk (last,cls,gone) ?_;rw[htk];exact h.skip r (λw=>by simp[za8,c1]) (λw=>by simp[zhm,c1]) (λw=>by simp[zeq,c1])
  .rw[if_neg (by simpa using c1)];by_cases c2:r.item.kind=8/\r.item.code=9
   .have hb:=hwr (by omega);rw[if_pos (by simp[c2]),zg ⟨hb.1,by rw[h.l3];exact hb.2⟩];refine hk (last,cls,zt gone r.item.wagon true) ?_;rw[htk];refine⟨h.l1,h.l2,by rw[zgp];exact h.l3,λw hw=>?_,λw hw=>?_,λw hw=>?_⟩
    .rw[zh8,if_neg (by simp[za8,c2]),h.at1 w hw]
    .rw[ze4,if_neg (by simp[zhm,c2]),h.at2 w hw]
    .rw[zjc _ _ _ _ hb.1 (by rw[h.l3];exact hb.2) (by omega),zgz];by_cases e :(w:Int)=r.item.wagon
     .rw[if_pos e];simp[zeq,c1,c2,e]
     .have e':¬r.item.wagon =(w:Int):=λq=>e q.symm
      rw[if_neg e,h.at3 w hw];simp[zeq,e']
   .rw[if_neg (by simpa using c2)];have hg:∀w,zeq at_ w r=false:=λw=>by
     simp only[zeq,w4b];refine .inr (.inl ?_);simp only[w4b,beq_eq_false_iff_ne];by_cases q:r.item.kind=8
     .exact .inr λq2=>c2 ⟨q,q2⟩
     .exact .inl q
    by_cases c3:r.item.kind=5
    .have hb:=hwr (by omega);rw[if_pos (by simp[c3]),zg ⟨hb.1,by rw[h.l2];exact hb.2⟩,zg ⟨hb.1,by rw[h.l1];exact hb.2⟩];refine hk (zt last r.item.wagon r.item,zt cls r.item.wagon r.item.class_,gone) ?_;rw[htk];refine⟨by rw[zgp];exact h.l1,by rw[zgp];exact h.l2,h.l3,λw hw=>?_,λw hw=>?_,λw hw=>?_⟩
     .rw[zjc _ _ _ _ hb.1 (by rw[h.l1];exact hb.2) (by omega),zh8];by_cases e :(w:Int)=r.item.wagon
      .rw[if_pos e,if_pos (by simp[za8,c1,c3,e])]
      .have e':¬r.item.wagon =(w:Int):=λq=>e q.symm
       rw[if_neg e,if_neg (by simp[za8,e']),h.at1 w hw]
     .rw[zjc _ _ _ _ hb.1 (by rw[h.l2];exact hb.2) (by omega),ze4];by_cases e :(w:Int)=r.item.wagon
      .rw[if_pos e,if_pos (by simp[zhm,c1,c3,e])]
      .have e':¬r.item.wagon =(w:Int):=λq=>e q.symm
       rw[if_neg e,if_neg (by simp[zhm,e']),h.at2 w hw]
     .rw[zgz,hg,h.at3 w hw];rfl
    .have hwy:∀w,zhm at_ w r=false:=λw=>by simp[zhm,c3]
     rw[if_neg (by simpa using c3)];by_cases c4:r.item.kind=6\/r.item.kind=7
     .have hb:=hwr (by omega);rw[if_pos (by simpa using c4),zg ⟨hb.1,by rw[h.l1];exact hb.2⟩];refine hk (zt last r.item.wagon r.item,cls,gone) ?_;rw[htk];refine⟨by rw[zgp];exact h.l1,h.l2,h.l3,λw hw=>?_,λw hw=>?_,λw hw=>?_⟩
      .rw[zjc _ _ _ _ hb.1 (by rw[h.l1];exact hb.2) (by omega),zh8];by_cases e :(w:Int)=r.item.wagon
       .have c1':r.item.from_<=at_:=by omega
        rw[if_pos e,if_pos (by rcases c4 with c4|c4<;>simp[za8,c1',c4,e])]
       .have e':¬r.item.wagon =(w:Int):=λq=>e q.symm
        rw[if_neg e,if_neg (by simp[za8,e']),h.at1 w hw]
      .rw[ze4,hwy,h.at2 w hw];rfl
      .rw[zgz,hg,h.at3 w hw];rfl
     .rw[if_neg (by simpa using c4)];refine hk (last,cls,gone) ?_;rw[htk];refine h.skip r (λw=>?_) hwy hg;simp only[za8,w4b,w2i,beq_eq_false_iff_ne];exact .inr (.inl ⟨⟨λq=>c4 (.inl q),λq=>c4 (.inr q)⟩,c3⟩)
 .intro n s h;obtain⟨last,cls,gone⟩:=s;simp only at h⊢;rw[w29] at h;rw[z0d,if_neg (by simp)];exact fin last cls gone h
theorem y7c(φ:Nat)(l:List Int)(x:Int)(hl:l.length<=100000)(hφ:l.length<φ):∃i,zcu φ l x=some (i,())/\(0<=i↔x∈l):=by
 unfold zcu;refine z31 (λn i(_:Unit)=>z40 φ n l x (l.length:Int) i) l.length (λi _=>x ∉ l.take i) (λo=>∃i,o=some (i,())/\(0<=i↔x∈l)) ?_ ?_ φ () (by simp) hφ
 .intro n i _ hi h hk;rw[z40,if_pos (by simp;omega),zg ⟨by omega,by omega⟩,W_id (x:=(i:Int)+1) (by omega) (by omega)];by_cases e:x=gt l (i:Int)
  .rw[if_pos (by simpa using e)];exact⟨_,rfl,⟨λ_=>by rw[e];exact zf5 (by omega) (by omega),λ_=>by omega⟩⟩
  .rw[if_neg (by simpa using e)];refine hk () ?_;rw[z27 l i hi,w0m,w0v];exact λq=>q.elim h e
 .intro n _ h;rw[w29] at h;rw[z40,if_neg (by simp)];exact⟨-1,rfl,⟨λq=>by omega,λq=>absurd q h⟩⟩
theorem zwf(φ:Nat)(l:List Int)(x:Int)(hl:l.length<=100000)(hφ:l.length<φ):z88 φ l x=some (l.contains x,()):=by obtain⟨i,h1,h2⟩:=y7c φ l x hl hφ;unfold z88;rw[h1,w04];congr 2;rw[w2n,decide_eq_true_eq,List.contains_iff_mem];exact h2
def zqj(at_:Int)(S:List z6)(w:Int):Bool:=(((zsy at_ S w).kind:Int)==7)&&!zsr at_ S w
def keyQ(p:Pool)(at_:Int)(S:List z6)(w:Int):zc:=⟨(gt p.fleet.wagons w).type_,zuf at_ S w,(zsy at_ S w).place⟩
def zhh(at_:Int)(S:List z6)(B:List Int)(w:Int):Bool:=zqj at_ S w&&!B.contains w
def zbe(p:Pool)(at_:Int)(S:List z6)(B:List Int)(n:Nat):List zc:=(((List.range n).map (λw:Nat=>(w:Int))).filter (zhh at_ S B)).map (keyQ p at_ S)
theorem zov(p:Pool)(at_:Int)(S:List z6)(B:List Int)(n:Nat):(zbe p at_ S B n).length<=n:=by unfold zbe;rw[w0x];refine w26 (List.length_filter_le _ _) ?_;simp
theorem zh6(p:Pool)(at_:Int)(S:List z6)(B:List Int)(n:Nat):zbe p at_ S B (n+1)=if zhh at_ S B (n:Int)=true then zbe p at_ S B n++[keyQ p at_ S (n:Int)] else zbe p at_ S B n:=by unfold zbe;rw[w3w,w25,w1g,w25];cases h:zhh at_ S B (n:Int)<;>simp[w1o,h]
theorem zwl(φ:Nat)(hφ:20000<φ)(at_:Int)(p:Pool)(B:List Int)(hB:B.length<=1000)(S:List z6){last:List Item}{cls:List Int}{gone:List Bool}(hn:p.fleet.wagons.length<=4096)(h:StW p.fleet.wagons.length at_ S last cls gone):
  ∃out,zz φ φ at_ p B (last.length:Int) 0 cls gone ([]:StkM) last=some (out,0,())/\zq6 at_ (zbe p at_ S B p.fleet.wagons.length) out:=by
 have h1:=h.l1;have h2:=h.l2;have h3:=h.l3;refine z31 (λn i m=>zz φ n at_ p B (last.length:Int) i cls gone m last) last.length (λi m=>zq5 (zbe p at_ S B i) m/\m.length<=i) (λo=>∃out,o=some (out,0,())/\zq6 at_ (zbe p at_ S B p.fleet.wagons.length) out) ?_ ?_ φ [] ⟨zq5.nil,by simp⟩ (by omega)
 .intro n i m hi ⟨hc,hm⟩ hk;have hkl:=zov p at_ S B i;rw[zz,if_pos (by simp;omega),zg ⟨by omega,by omega⟩,zg (λ_=>⟨by omega,by omega⟩),W_id (x:=(i:Int)+1) (by omega) (by omega),h.at1 i (by omega),h.at3 i (by omega),h.at2 i (by omega),zwf φ B i (by omega) (by omega)];have hfr :((((zsy at_ S (i:Int)).kind:Int)==7)&&(!zsr at_ S (i:Int)))=zqj at_ S (i:Int):=rfl;rw[hfr];have hcond :((z0a (default,()) (zqj at_ S (i:Int)=true) (some (B.contains (i:Int),()))).bind λy45=>(if(zqj at_ S (i:Int)&&(!y45.1))=true then
    (ck ((0:Int)<=(i:Int)/\(i:Int)<(p.fleet.wagons.length:Int)) (ck ((0:Int)<=(i:Int)/\(i:Int)<(cls.length:Int)) (zz φ n at_ p B (last.length:Int) ((i:Int)+1) cls gone (incK m (keyQ p at_ S (i:Int))) last)))
    else zz φ n at_ p B (last.length:Int) ((i:Int)+1) cls gone m last))=if zhh at_ S B (i:Int)=true then zz φ n at_ p B (last.length:Int) ((i:Int)+1) cls gone (incK m (keyQ p at_ S (i:Int))) last else zz φ n at_ p B (last.length:Int) ((i:Int)+1) cls gone m last:=by
   unfold z0a zhh;cases hf:zqj at_ S (i:Int) with
   |false=>rw[if_neg (by simp),w04,if_neg (by simp),if_neg (by simp)]
   |true=>
    rw[if_pos rfl,w04];cases B.contains (i:Int) with
    |true=>rw[if_neg (by simp),if_neg (by simp)]
    |false=>rw[if_pos (by simp),if_pos (by simp),zg ⟨by omega,by omega⟩,zg ⟨by omega,by omega⟩]
  refine Eq.mp (congrArg (λo=>∃out,o=some (out,(0:Int),())/\zq6 at_ (zbe p at_ S B p.fleet.wagons.length) out) hcond.symm) ?_;split
  .rename_i hi2;refine hk _ ⟨?_,?_⟩
   .rw[zh6,if_pos hi2];exact hc.inc _ (by omega)
   .have:=y84 hc.srt (keyQ p at_ S (i:Int)) (W ((cget zkz m (keyQ p at_ S (i:Int))).getD (default:Int)+1))
    unfold incK;omega
  .rename_i hi2;refine hk _ ⟨?_,by omega⟩;rw[zh6,if_neg hi2];exact hc
 .intro n m ⟨hc,hm⟩;rw[zz,if_neg (by simp),zni φ at_ m φ [] (by omega) (by simp;omega),w2u];obtain⟨out,o1,o2⟩:=ztl (at_:=at_) hc (by omega);rw[o1,w04];exact⟨out,rfl,by rw[h1] at o2;exact o2⟩
end Px
end
section
namespace Px
open Go
set_option maxRecDepth 100000
def z3r(p:Pool)(l:List z6):List z6:=l.filter λr=>zjj p r.item
theorem FewP.filter{l:List z6}(h:FewP l)(q:z6->Bool):FewP (l.filter q):=⟨w26 (List.length_filter_le _ _) h.len,λr hr=>h.parts r (w0i.1 hr).1,λr hr=>h.wagon r (w0i.1 hr).1⟩
theorem zwj(φ:Nat)(hφ:10000<φ)(at_:Int)(p:Pool)(B:List Int)(S:List z6)(hS:S.length<=1000)(hn:p.fleet.wagons.length<=4096)(hw:∀r∈S,r.item.kind<=9->0<=r.item.wagon/\r.item.wagon<(p.fleet.wagons.length:Int))
  (G:Option (List zf×Int×Unit)->Prop)
  (fin:∀last cls gone,StW p.fleet.wagons.length at_ S last cls gone->G (zz φ φ at_ p B (last.length:Int) 0 cls gone ([]:StkM) last)) :
  G (z2g φ φ at_ p B (((List.replicate p.fleet.wagons.length (default:Int)).length:Int)) 0 S (List.replicate p.fleet.wagons.length (default:Item)) (List.replicate p.fleet.wagons.length (default:Int)) (List.replicate p.fleet.wagons.length (default:Bool))):=by
 refine z31 (λn i cls=>z2g φ n at_ p B (((List.replicate p.fleet.wagons.length (default:Int)).length:Int)) i S (List.replicate p.fleet.wagons.length (default:Item)) cls (List.replicate p.fleet.wagons.length (default:Bool))) (List.replicate p.fleet.wagons.length (default:Int)).length
  (λi cls=>cls.length=p.fleet.wagons.length/\∀j:Nat,j<i->gt cls (j:Int)=-1) G ?_ ?_ φ _ ⟨by simp,λj hj=>by omega⟩ (by simp;omega)
 .intro n i cls hi ⟨h1,h2⟩ hk;rw[List.length_replicate] at hi;rw[z2g,if_pos (by simp;omega),zg ⟨by omega,by omega⟩,W_id (x:=(i:Int)+1) (by omega) (by omega)];refine hk _ ⟨by rw[zgp];exact h1,λj hj=>?_⟩;rw[zjc _ _ _ _ (by omega) (by omega) (by omega)];by_cases e :(j:Int) =(i:Int)
  .rw[if_pos e]
  .rw[if_neg e];exact h2 j (by omega)
 .intro n cls ⟨h1,h2⟩;rw[List.length_replicate] at h2;rw[z2g,if_neg (by simp)];refine zwk φ at_ p B S hS (by omega) hw G ⟨by simp,h1,by simp,λw hw=>?_,λw hw=>?_,λw hw=>?_⟩ fin
  .rw[zv5 (by simpa using hw),List.getElem_replicate];rfl
  .rw[h2 w hw];rfl
  .rw[zv5 (by simpa using hw),List.getElem_replicate];rfl
theorem y7b{φ:Nat}(hφ:800000<φ){p:Pool}(hc:z8f p≠0)(l:List z6)(at_:Int):z2o φ p l at_=some ([],z8f p,()):=by unfold z2o;rw[z4q φ hφ,w04,if_pos (by simpa using hc)]
theorem y7a{φ:Nat}(hφ:800000<φ){p:Pool}(hc:z8f p=0)(l:List z6){at_:Int}(ha:¬(0<=at_/\at_<=1073741824)):z2o φ p l at_=some ([],1,()):=by unfold z2o;rw[z4q φ hφ,w04,if_neg (by simpa using hc),if_pos (by simp;omega)]
theorem zpk{p:Pool}(h:z8f p=0):p.fleet.wagons.length<=4096:=(zhq (zr1 h).2.1).2.1
theorem y2b{φ:Nat}(hφ:800000<φ){p:Pool}(hc:z8f p=0){l:List z6}(h:FewP l){at_:Int}(ha:0<=at_/\at_<=1073741824):
  ∃b out,z2o φ p l at_=some (out,0,())/\z4g φ (z3r p l) at_=some (b,())/\Inc b/\b.length<=100/\zq6 at_ (zbe p at_ (sT (z3r p l)) b p.fleet.wagons.length) out/\
   ∀x,x∈b↔∃r∈z3r p l,zor at_ r=true/\∃q∈r.item.parts,x∈posW (ofP q) (hist (z3r p l) at_):=by
 have hV:=h.filter λr=>zjj p r.item
 have hln:=h.len;have hn:=zpk hc;obtain⟨b,b1,b2,b3,b4⟩:=y0i (l:=z3r p l) hV φ (by omega) at_;have hVl :(z3r p l).length<=100:=hV.len;refine⟨b,?_⟩;suffices key:∃out,z2o φ p l at_=some (out,0,())/\zq6 at_ (zbe p at_ (sT (z3r p l)) b p.fleet.wagons.length) out from by obtain⟨out,o1,o2⟩:=key;exact⟨out,o1,b1,b2,b3,o2,b4⟩
 unfold z2o;rw[z4q φ hφ,w04,if_neg (by simpa using hc),if_neg (by simp;omega)];refine z31 (λn i acc=>z2f φ n at_ l (l.length:Int) i p acc) l.length (λi acc=>acc=z3r p (l.take i)) (λo=>∃out,o=some (out,0,())/\zq6 at_ (zbe p at_ (sT (z3r p l)) b p.fleet.wagons.length) out) ?_ ?_ φ [] rfl (by omega)
 .intro n i acc hi he hk;have hp:=h.parts _ (zf5 (l:=l) (i:=(i:Int)) (by omega) (by omega));have hacc:acc.length<=100:=by rw[he];unfold z3r;exact w26 (List.length_filter_le _ _) (by rw[w1f];omega)
  rw[z2f,if_pos (by simp;omega),zg ⟨by omega,by omega⟩,W_id (x:=(i:Int)+1) (by omega) (by omega),zlv φ hφ hc (by omega),w04];cases ho:zjj p (gt l (i:Int)).item with
  |false=>rw[if_neg (by simp)];refine hk acc ?_;rw[z27 l i hi,he];unfold z3r;rw[w1g];simp[ho]
  |true=>rw[if_pos (by simp),zg (zus (by simp;omega) (by omega))];refine hk _ ?_;rw[z27 l i hi,he];unfold z3r;rw[w1g];simp[ho]
 .intro n acc he;rw[w29] at he;subst he;rw[z2f,if_neg (by simp),zq4,b1,w04,ygr φ (by omega) _ (by omega),w04,w2d,
   zg ⟨by omega,by omega,by omega⟩,zg ⟨by omega,by omega,by omega⟩,zg ⟨by omega,by omega,by omega⟩]
  refine zwj φ (by omega) at_ p b (sT (z3r p l)) (by rw[ygm];omega) hn (λr hr hk=>?_) (λo=>∃out,o=some (out,0,())/\zq6 at_ (zbe p at_ (sT (z3r p l)) b p.fleet.wagons.length) out) λlast cls gone hst=>zwl φ (by omega) at_ p b (by omega) _ hn hst
  have hr:=w0i.1 (ybg.1 hr);exact(y5g hc (by have:=h.parts r hr.1;omega) hr.2).wagon hk
end Px
end
section
namespace Px
open Go
set_option maxRecDepth 100000
theorem zyc(φ:Nat)(hφ:1000<φ)(p:Pool):∃b,z83 φ p=some (b,()):=by
 unfold z83;split
 .exact⟨false,rfl⟩
 .rename_i hc;simp only[w1h,decide_eq_true_eq,not_or] at hc;obtain⟨⟨⟨⟨⟨⟨c1,c2⟩,c3⟩,c4⟩,c5⟩,c6⟩,c7⟩:=hc;refine z31 (λn i(_:Unit)=>z2a φ n i p) p.railways.length (λ_ _=>True) (λo=>∃b,o=some (b,())) ?_ ?_ φ () trivial (by omega)
  .intro n i _ hi _ hs;rw[z2a,if_pos (by simp;omega),zg ⟨by omega,by omega⟩,W_id (by omega) (by omega)];split
   .exact⟨false,rfl⟩
   .exact hs () trivial
  .intro n _ _;rw[z2a,if_neg (by simp)];exact⟨true,rfl⟩
theorem y3h(φ:Nat)(hφ:1000<φ)(l:List z6):∃b,z6k φ l 20=some (b,())/\(b=true->l.length<=20/\∀r∈l,r.item.parts.length<=40):=by
 unfold z6k;by_cases h60:20<l.length
 .rw[if_pos (by simp;omega)];exact⟨false,rfl,λh=>by cases h⟩
 .rw[if_neg (by simp;omega)];refine z31 (λn i(_:Unit)=>z1u φ n l i) l.length (λi _=>∀j:Nat,j<i->(gt l (j:Int)).item.parts.length<=40)
   (λo=>∃b,o=some (b,())/\(b=true->l.length<=20/\∀r∈l,r.item.parts.length<=40)) ?_ ?_ φ () (λj hj=>by omega) (by omega)
  .intro n i _ hi hI hs;rw[z1u,if_pos (by simp;omega),zg ⟨by omega,by omega⟩,zg (λ_=>⟨by omega,by omega⟩),W_id (by omega) (by omega)];split
   .exact⟨false,rfl,λh=>by cases h⟩
   .rename_i hc;simp only[w1h,decide_eq_true_eq,not_or] at hc;refine hs () λj hj=>?_
    by_cases e:j=i
    .subst e;omega
    .exact hI j (by omega)
  .intro n _ hI;rw[z1u,if_neg (by simp)];exact⟨true,rfl,λ_=>⟨by omega,λr hr=>by obtain⟨j,hj,rfl⟩:=yfq hr;exact hI j hj⟩⟩
theorem yeg:zds 100000000=some (true,()):=by kernel_rfl
theorem zyh{l:List z6}(h:rdN TV 30 54 l):∀r∈l,-9223372036854775808<=r.item.wagon/\r.item.wagon<9223372036854775808:=by intro r hr;have h1:RL (rdN TV 29 53) l:=h;have h2:rdN TV 29 53 r:=h1.1 r hr;have h3:RI .i64 r.item.wagon:=h2.2.2.2.2.2.1;have e1:IntKind.i64.min=-9223372036854775808:=rfl;have e2:IntKind.i64.max=9223372036854775807:=rfl;unfold RI at h3;rw[e1,e2] at h3;omega
end Px
end
section
namespace Px
open Go
set_option maxRecDepth 100000
theorem y0f:∀(ks:List zc)(out:List zf),(out.Pairwise λa b=>z9p a b<0)->(∀k∈ks,∃x∈out,keyS x=k)->(out.map λx=>cntK ks (keyS x)).sum=ks.length
 | [],out,_,_=>by
  have h0:∀o:List zf,(o.map λx=>cntK [] (keyS x)).sum=0:=by
   intro o
   induction o with
   |nil=>rfl
   |cons x o ih=>rw[w0e,List.sum_cons,ih];rfl
  exact h0 out
 |k::ks,out,hs,hk=>by
  have ih:=y0f ks out hs λk' hk'=>hk k' (w0h _ hk')
  have hc:∀y,cntK (k::ks) y =(if k=y then 1 else 0)+cntK ks y:=λy=>by unfold cntK;by_cases h:k=y<;>simp[w1o,h];omega
  have hone:∀(o:List zf),(o.Pairwise λa b=>z9p a b<0)->(o.map λx=>if k=keyS x then 1 else 0).sum=if ∃x∈o,keyS x=k then 1 else 0:=by
   intro o
   induction o with
   |nil=>intro _;simp
   |cons x o ih=>
    intro ho;obtain⟨h1,h2⟩:=w0o.1 ho;rw[w0e,List.sum_cons,ih h2];by_cases e:k=keyS x
    .have hn:¬ ∃y∈o,keyS y=k:=by rintro⟨y,hy,q⟩;exact(yb0.1 (e.symm.trans q.symm)).1 (h1 y hy)
     rw[if_pos e,if_neg hn,if_pos ⟨x,by simp,e.symm⟩]
    .rw[if_neg e];by_cases q:∃y∈o,keyS y=k
     .obtain⟨y,hy,hq⟩:=q;rw[if_pos ⟨y,hy,hq⟩,if_pos ⟨y,w0h _ hy,hq⟩]
     .rw[if_neg q,if_neg];rintro⟨y,hy,hq⟩;rcases w08.1 hy with rfl|hy
      .exact e hq.symm
      .exact q ⟨y,hy,hq⟩
  have hadd:∀o:List zf,(o.map λx=>cntK (k::ks) (keyS x)).sum =(o.map λx=>if k=keyS x then 1 else 0).sum+(o.map λx=>cntK ks (keyS x)).sum:=by
   intro o
   induction o with
   |nil=>rfl
   |cons x o ih=>rw[w0e,List.sum_cons,w0e,List.sum_cons,w0e,List.sum_cons,ih,hc];omega
  rw[hadd,ih,hone out hs,if_pos (hk k (by simp)),w0k];omega
def sumQ(out:List zf):Int:=(out.map (·.count)).foldl (· + ·) 0
theorem y6t{at_:Int}{ks:List zc}: ∀{out:List zf},(∀x∈out,x.count =(cntK ks (keyS x):Int))->∀c:Int,(out.map (·.count)).foldl (· + ·) c=c+((out.map λx=>cntK ks (keyS x)).sum:Nat)
 | [],_,c=>by simp
 |x::out,h,c=>by rw[w0e,w2f,y6t (at_:=at_) (λy hy=>h y (w0h _ hy)),w0e,List.sum_cons,h x (by simp)];omega
theorem zq6.sum{at_:Int}{ks:List zc}{out:List zf}(h:zq6 at_ ks out):sumQ out =(ks.length:Int)/\out.length<=ks.length/\(1<=ks.length->1<=out.length):=by
 have hcn:∀x∈out,x.count =(cntK ks (keyS x):Int):=λx hx=>((h.mem x).1 hx).2.1
 have hk:∀k∈ks,∃x∈out,keyS x=k:=λk hk=>by have h1:1<=cntK ks k:=List.length_pos_of_mem (w0i.2 ⟨hk,by simp⟩);refine⟨⟨k.kind,k.class_,k.place,at_,cntK ks k⟩,(h.mem _).2 ⟨rfl,rfl,?_⟩,rfl⟩;show (1:Int)<=(cntK ks k:Int);omega
 have hs:=y0f ks out h.srt hk;refine⟨?_,?_,λhl=>?_⟩
 .unfold sumQ;rw[y6t (at_:=at_) hcn,hs];omega
 .have:∀o:List zf,(∀x∈o,1<=cntK ks (keyS x))->o.length<=(o.map λx=>cntK ks (keyS x)).sum:=by
   intro o
   induction o with
   |nil=>intro _;simp
   |cons x o ih=>
    intro hx;have h1:=hx x (by simp);have h2:=ih λy hy=>hx y (w0h _ hy)
    rw[w0e,List.sum_cons,w0k];omega
  have:=this out λx hx=>by have h1:=(h.mem x).1 hx;have:=h1.2.1;have:=h1.2.2;omega
  omega
 .cases out with
  |nil=>simp at hs;omega
  |cons x o=>simp
def ownB(w:Int)(r:z6):Bool:=((r.item.kind:Int)==10)||((r.item.wagon:Int)==w)
theorem zpy{c:z7}{w v:Int}(h:v≠w):∀(ps:List Part)(s:List Int),w∈ps.foldl (zpx c v) s↔w∈s
 | [],s=>Iff.rfl
 |q::ps,s=>by
  rw[w2f,zpy h ps];unfold zpx;split
  .split
   .rw[ze0];exact⟨λq=>q.elim (λe=>absurd e.symm h) id,.inr⟩
   .rw[z9m];exact⟨λq=>q.1,λq=>⟨q,λe=>h e.symm⟩⟩
  .exact Iff.rfl
theorem zro{c:z7}{w v:Int}: ∀(ps:List Part)(s s':List Int),(w∈s↔w∈s')->(w∈ps.foldl (zpx c v) s↔w∈ps.foldl (zpx c v) s')
 | [],s,s',h=>h
 |q::ps,s,s',h=>by
  rw[w2f,w2f];refine zro ps _ _ ?_;unfold zpx;split
  .split
   .rw[ze0,ze0,h]
   .rw[z9m,z9m,h]
  .exact h
theorem zpl(c:z7)(w:Int):∀(rs:List z6)(s s':List Int),(∀r∈rs,r.item.kind≠10)->(w∈s↔w∈s')->(w∈rs.foldl (posR c) s↔w∈(rs.filter (ownB w)).foldl (posR c) s')
 | [],s,s',_,h=>h
 |r::rs,s,s',hk,h=>by
  have hk':=λy hy=>hk y (w0h r hy)
  have h10 :((r.item.kind:Int)==10)=false:=by rw[beq_eq_false_iff_ne];exact hk r (by simp)
  rw[w2f,w1o];by_cases e:r.item.wagon=w
  .rw[if_pos (by simp[ownB,e]),w2f];exact zpl c w rs _ _ hk' (zro _ _ _ h)
  .rw[if_neg (by simp[ownB,h10,e])];exact zpl c w rs _ _ hk' ((zpy e _ _).trans h)
theorem y8m(V:List z6)(at_ w:Int):hist (V.filter (ownB w)) at_ =(hist V at_).filter (ownB w):=by
 unfold hist;refine(zk1 zgs ((zot zgs _).filter (ownB w)) ⟨?_,λa=>?_⟩).symm
 .refine((z16 zql _).filter (ownB w)).trans ?_;rw[List.filter_filter,List.filter_filter];rw[w2c λx _=>Bool.and_comm _ _]
 .have h:=(zjd zgs (V.filter (zos at_))).2 a;have e:∀M:List z6,(M.filter (ownB w)).filter (eqv2 zql a) =(M.filter (eqv2 zql a)).filter (ownB w):=λM=>by rw[List.filter_filter,List.filter_filter];exact w2c λx _=>Bool.and_comm _ _
  rw[e,h,List.filter_filter,List.filter_filter,List.filter_filter,List.filter_filter];refine w2c λx _=>?_
  cases ownB w x<;>cases eqv2 zql a x<;>cases zos at_ x<;>rfl
theorem y70(p:Pool)(l:List z6)(w:Int):z3r p (l.filter (ownB w)) =(z3r p l).filter (ownB w):=by unfold z3r;rw[List.filter_filter,List.filter_filter];exact w2c λx _=>Bool.and_comm _ _
theorem ydx(at_:Int)(V:List z6)(w:Int):(sT (V.filter (ownB w))).filter (za8 at_ w) =(sT V).filter (za8 at_ w):=by
 rw[<- zvv,List.filter_filter];refine w2c λr _=>?_
 unfold za8 ownB;by_cases e:r.item.wagon=w<;>simp[e]
theorem y9v(at_:Int)(V:List z6)(w:Int):zsr at_ (sT (V.filter (ownB w))) w=zsr at_ (sT V) w:=by unfold zsr;rw[<- zvv,List.any_filter];refine congrArg (λf=>List.any (sT V) f) (funext λr=>?_);unfold zeq ownB;by_cases e:r.item.wagon=w<;>simp[e]
theorem y8j(at_:Int)(V:List z6)(w:Int):zqj at_ (sT (V.filter (ownB w))) w=zqj at_ (sT V) w:=by unfold zqj zsy;rw[ydx,y9v]
theorem y0q(at_:Int)(V:List z6){w v:Int}(h:v≠w):zqj at_ (sT (V.filter (ownB w))) v=false:=by
 have hn :(sT (V.filter (ownB w))).filter (za8 at_ v) = []:=by
  rw[w45];intro r hr hp;have ho:=(w0i.1 (ybg.1 hr)).2;unfold ownB at ho;unfold za8 at hp;simp only[w03,w1h,beq_iff_eq,decide_eq_true_eq] at ho hp;obtain⟨_,hp1,hp2⟩:=hp;rcases ho with ho|ho
  .omega
  .exact h (hp2.symm.trans ho)
 unfold zqj zsy;rw[hn];rfl
theorem y8o(p:Pool)(at_:Int)(V:List z6)(w:Nat){b b':List Int}{n:Nat}(hw:w<n)
  (hb:∀x,x∈b↔∃r∈V,zor at_ r=true/\∃q∈r.item.parts,x∈posW (ofP q) (hist V at_))
  (hb':∀x,x∈b'↔∃r∈V.filter (ownB (w:Int)),zor at_ r=true/\∃q∈r.item.parts,x∈posW (ofP q) (hist (V.filter (ownB (w:Int))) at_)) :
  (zbe p at_ (sT (V.filter (ownB (w:Int)))) b' n).length=if zhh at_ (sT V) b (w:Int)=true then 1 else 0:=by
 have hbw:b'.contains (w:Int)=b.contains (w:Int):=by
  rw[w2n,List.contains_iff_mem,List.contains_iff_mem,hb,hb'];have hp:∀c,(w:Int)∈posW c (hist (V.filter (ownB (w:Int))) at_)↔(w:Int)∈posW c (hist V at_):=λc=>by rw[y8m];refine(zpl c (w:Int) (hist V at_) [] [] (λr hr=>?_) Iff.rfl).symm;have:=(zne.1 hr).2;unfold zos at this;simp only[w03,beq_iff_eq] at this;omega
  constructor
  .rintro⟨r,hr,h1,q,hq,h2⟩;exact⟨r,(w0i.1 hr).1,h1,q,hq,(hp _).1 h2⟩
  .rintro⟨r,hr,h1,q,hq,h2⟩;refine⟨r,w0i.2 ⟨hr,?_⟩,h1,q,hq,(hp _).2 h2⟩;unfold zor at h1;simp only[w03] at h1;unfold ownB;rw[h1.1];rfl
 have hid:∀v:Nat,zhh at_ (sT (V.filter (ownB (w:Int)))) b' (v:Int) =(decide (v=w)&&zhh at_ (sT V) b (w:Int)):=λv=>by
  unfold zhh;by_cases e:v=w
  .subst e;rw[y8j,hbw];simp
  .rw[y0q at_ V (w:=(w:Int)) (v:=(v:Int)) (λq=>e (by omega))];simp[e]
 have key:∀m:Nat,(zbe p at_ (sT (V.filter (ownB (w:Int)))) b' m).length=if w<m/\zhh at_ (sT V) b (w:Int)=true then 1 else 0:=by
  intro m
  induction m with
  |zero=>simp[zbe]
  |succ m ih=>
   rw[zh6,hid m];by_cases e:m=w
   .subst e;have ih0 :(zbe p at_ (sT (V.filter (ownB (m:Int)))) b' m).length=0:=by rw[ih,if_neg (by omega)]
    cases hi:zhh at_ (sT V) b (m:Int)<;>simp[ih0]
   .have hlt:w<m↔w<m+1:=⟨λq=>by omega,λq=>by omega⟩;rw[if_neg (by simp[e]),ih];by_cases q:w<m/\zhh at_ (sT V) b (w:Int)=true
    .rw[if_pos q,if_pos ⟨hlt.1 q.1,q.2⟩]
    .rw[if_neg q,if_neg λz=>q ⟨hlt.2 z.1,z.2⟩]
 rw[key n];simp[hw]
theorem zou(p:Pool)(at_:Int)(S:List z6)(b:List Int)(n:Nat):(zbe p at_ S b (n+1)).length =(zbe p at_ S b n).length+if zhh at_ S b (n:Int)=true then 1 else 0:=by rw[zh6];split<;>simp
theorem yal(φ:Nat)(k32)(l:List z6)(at_:Int)(b:List Int)(a e w:Int)(t:List zf)(p:Pool)(hb:b.length<=1000)(hφ:1000<φ)(h:t.length=1->w ∉ b):
  z0m φ k32 φ l at_ b a e w t 0 p=k32 l at_ b a e (W (w+1)) p:=by
 refine z31 (λn i(_:Unit)=>z0m φ k32 n l at_ b a e w t i p) b.length (λ_ _=>True) (λo=>o=k32 l at_ b a e (W (w+1)) p) ?_ ?_ φ () trivial (by omega)
 .intro n i _ hi _ hs;rw[z0m,if_pos (by simp;omega),zg (λ_=>⟨by omega,by omega⟩),W_id (x:=(i:Int)+1) (by omega) (by omega),if_neg]
  .exact hs () trivial
  .simp only[w03,beq_iff_eq];rintro⟨h1,h2⟩;exact h (by omega) (by rw[<- h2];exact zf5 (by omega) (by omega))
 .intro n _ _;rw[z0m,if_neg (by simp)]
theorem y46{φ:Nat}(hφ:60000000<φ)(hsane:zds φ=some (true,()))(p:Pool)(l:List z6)(at_:Int)
  (hw:∀r∈l,-9223372036854775808<=r.item.wagon/\r.item.wagon<9223372036854775808):z3w φ p l at_=some (true,()):=by
 unfold z3w;obtain⟨b,h1⟩:=zyc φ (by omega) p;obtain⟨c,g1,g2⟩:=y3h φ (by omega) l;rw[hsane,w04,if_neg (by simp),h1,w04];cases b with
 |false=>rw[yh4 (by simp),w04,if_pos (by simp)]
 |true=>
 rw[yfe (by rfl),g1,w04];cases c with
 |false=>rw[if_pos (by simp)]
 |true=>
 obtain⟨hl,hp⟩:=g2 rfl;have hF:FewP l:=⟨by omega,hp,hw⟩;rw[if_neg (by simp)];by_cases hc:z8f p=0
 case neg=>rw[y7b (by omega) hc,w04,if_pos (by simpa using hc)];rfl
 by_cases ha:0<=at_/\at_<=1073741824
 case neg=>rw[y7a (by omega) hc l ha,w04,if_pos (by simp)];rfl
 obtain⟨b,out,o1,o2,o3,o4,o5,o6⟩:=y2b (φ:=φ) (by omega) hc hF ha;have hn:=zpk hc;have hV:=(hF.filter λr=>zjj p r.item).len;have hkl:=zov p at_ (sT (z3r p l)) b p.fleet.wagons.length;obtain⟨s1,s2,s3⟩:=o5.sum;rw[o1,w04,if_neg (by simp)]
 -- the last loop
 have last:z0c φ φ l at_ b (sumQ out) 0 0 p=some (true,()):=by
  refine z31 (λn i(a:Int)=>z0c φ n l at_ b (sumQ out) a i p) p.fleet.wagons.length (λi a=>a =((zbe p at_ (sT (z3r p l)) b i).length:Int)) (λo=>o=some (true,())) ?_ ?_ φ 0 (by simp[zbe]) (by omega)
  .intro n i a hi he hk;have hki:=zov p at_ (sT (z3r p l)) b i;rw[z0c,if_pos (by simp;omega)];refine z31 (λm j acc=>z0l φ (z0c φ n) m l at_ b (sumQ out) a (i:Int) j p acc) l.length (λj acc=>acc =(l.take j).filter (ownB (i:Int))) (λo=>o=some (true,())) ?_ ?_ φ [] rfl (by omega)
   .intro m j acc hj hacc hk2;have hal:acc.length<=20:=by rw[hacc];exact w26 (List.length_filter_le _ _) (by rw[w1f];omega)
    rw[z0l,if_pos (by simp;omega),zg ⟨by omega,by omega⟩,zg (λ_=>⟨by omega,by omega⟩),W_id (x:=(j:Int)+1) (by omega) (by omega)];show (if ownB (i:Int) (gt l (j:Int))=true then _ else _)=_;cases hr:ownB (i:Int) (gt l (j:Int)) with
    |false=>rw[if_neg (by simp)];refine hk2 acc ?_;rw[z27 l j hj,w1g,hacc];simp[hr]
    |true=>rw[if_pos rfl,zg ⟨by omega,by omega⟩,zg (zus (by simp;omega) (by omega))];refine hk2 _ ?_;rw[z27 l j hj,w1g,hacc];simp[hr]
   .intro m acc hacc;rw[w29] at hacc;subst hacc;obtain⟨b',t,t1,t2,t3,t4,t5,t6⟩:=y2b (φ:=φ) (by omega) hc (hF.filter (ownB (i:Int))) ha;rw[y70] at t5 t6;have hlen:=y8o p at_ (z3r p l) i (n:=p.fleet.wagons.length) hi o6 t6;obtain⟨_,u2,u3⟩:=t5.sum;rw[hlen] at u2 u3;have hone:t.length=if zhh at_ (sT (z3r p l)) b (i:Int)=true then 1 else 0:=by
     split at u2<;>rename_i hi2
     .rw[if_pos hi2] at u3⊢;have:=u3 (by omega);omega
     .rw[if_neg hi2];omega
    have hnb:t.length=1->(i:Int) ∉ b:=λq hm=>by
     have:zhh at_ (sT (z3r p l)) b (i:Int)=true:=by
      refine Decidable.byContradiction λq2=>?_
      rw[if_neg q2] at hone;omega
     unfold zhh at this;rw[List.contains_iff_mem.2 hm] at this;simp at this
    have hle:t.length<=1:=by rw[hone];split<;>omega
    rw[z0l,if_neg (by simp),t1,w04,if_neg (by simp;omega)];by_cases ht:t.length=1
    .rw[if_pos (by simp[ht])];unfold z21;rw[yal φ _ l at_ b (sumQ out) _ (i:Int) t p (by omega) (by omega) hnb,W_id (x:=(i:Int)+1) (by omega) (by omega),W_id (x:=a+1) (by omega) (by omega)];refine hk _ ?_;rw[zou,<- hone,ht,he];rfl
    .rw[if_neg (by simp;omega)];unfold z21;rw[yal φ _ l at_ b (sumQ out) _ (i:Int) t p (by omega) (by omega) hnb,W_id (x:=(i:Int)+1) (by omega) (by omega)];refine hk _ ?_;rw[zou,<- hone,he];have:t.length=0:=by omega
     rw[this];rfl
  .intro n a he;rw[z0c,if_neg (by simp),s1,he];simp
 -- the counts
 have hx:∀x∈out,1<=x.count/\x.count<=(p.fleet.wagons.length:Int)/\x.at_=at_:=λx hx=>by obtain⟨q1,q2,q3⟩:=(o5.mem x).1 hx;have:=y2t (zbe p at_ (sT (z3r p l)) b p.fleet.wagons.length) (keyS x);exact⟨q3,by omega,q1⟩
 have counts:z0k φ φ l at_ out b 0 0 p=some (true,()):=by
  refine z31 (λn i(a:Int)=>z0k φ n l at_ out b a i p) out.length (λi a=>a=sumQ (out.take i)/\0<=a/\a<=4096*i) (λo=>o=some (true,())) ?_ ?_ φ 0 ⟨rfl,by omega,by omega⟩ (by omega)
  .intro n i a hi ⟨he,hb1,hb2⟩ hk;obtain⟨q1,q2,q3⟩:=hx _ (zf5 (l:=out) (i:=(i:Int)) (by omega) (by omega));rw[z0k,if_pos (by simp;omega),zg ⟨by omega,by omega⟩,zg (λ_=>⟨by omega,by omega⟩),zg (λ_=>⟨by omega,by omega⟩),if_neg (by simp;omega),zg ⟨by omega,by omega⟩,W_id (x:=(i:Int)+1) (by omega) (by omega),W_id (x:=a+_) (by omega) (by omega)];refine hk _ ⟨?_,by omega,by omega⟩;rw[z27 out i hi,he];unfold sumQ;rw[w25,List.foldl_append];rfl
  .intro n a ⟨he,_⟩;rw[w29] at he;rw[z0k,if_neg (by simp),he];exact last
 refine z31 (λn i acc=>z0j φ n l at_ out i p acc) l.length (λi acc=>acc=z3r p (l.take i)) (λo=>o=some (true,())) ?_ ?_ φ [] rfl (by omega)
 .intro n i acc hi he hk;have hpr:=hF.parts _ (zf5 (l:=l) (i:=(i:Int)) (by omega) (by omega));have hacc:acc.length<=100:=by rw[he];unfold z3r;exact w26 (List.length_filter_le _ _) (by rw[w1f];omega)
  rw[z0j,if_pos (by simp;omega),zg ⟨by omega,by omega⟩,W_id (x:=(i:Int)+1) (by omega) (by omega),zlv φ (by omega) hc (by omega),w04];cases ho:zjj p (gt l (i:Int)).item with
  |false=>rw[if_neg (by simp)];refine hk acc ?_;rw[z27 l i hi,he];unfold z3r;rw[w1g];simp[ho]
  |true=>rw[if_pos (by simp),zg ⟨by omega,by omega⟩,zg (zus (by simp;omega) (by omega))];refine hk _ ?_;rw[z27 l i hi,he];unfold z3r;rw[w1g];simp[ho]
 .intro n acc he;rw[w29] at he;rw[z0j,if_neg (by simp),he,o2,w04];exact counts
theorem yer(φ:Nat)(p:Pool)(l:List z6)(at_:Int):(z49 φ).F (p,l,at_,())=z3w φ p l at_:=rfl
theorem zmk(y:Tup TT [28,54,0])(h:ye9 TV 30 [28,54,0] y):∃φ,(z49 φ).F y=some (true,()):=by obtain⟨p,l,at_,u⟩:=y;cases u;change Pool at p;change List z6 at l;change Int at at_;have hr:rdN TV 30 54 l:=h.2.1;suffices key:∀φ:Nat,60000000<φ->zds φ=some (true,())->z3w φ p l at_=some (true,()) from⟨100000000,(yer _ p l at_).trans (key _ (by omega) yeg)⟩;intro φ hφ hsane;exact y46 hφ hsane p l at_ (zyh hr)
end Px
end
