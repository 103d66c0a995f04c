/- A part of the proof of emptiesNetwork_holds. Conditions: none. -/
import Derived.Test.YtcofccdjgfgeeaaKnaf
set_option linter.unusedVariables false
set_option linter.unusedSimpArgs false
section
namespace Px
open Go
theorem z1g (φ:Nat) (a b c:Int):zq φ a b c=some (bet a b c,()):=rfl
def zk0 (t:z2k):Bool:=
 bet t.load 0 1000000&&bet t.tare 0 1000000&&bet t.length 0 1000000&&bet t.brake 0 1000000&&bet t.gauge 0 7&&bet t.life 1 1073741824&&bet t.floor 0 100
def zh2 (n:Int) (w:zlj):Bool:=
 bet w.type_ 0 (n-1)&&bet w.owner 0 63&&bet w.home 0 511&&bet w.built 0 1073741824&&bet w.worth 0 1099511627776
def zkj (n:Int) (s:Swap):Bool:=bet s.wanted 0 (n-1)&&bet s.given 0 (n-1)&&(s.wanted !=s.given)&&bet s.cost 0 1000000000
def zu7 (w:Wash):Bool:=bet w.from_ 0 63&&bet w.to 0 63&&(w.from_ !=w.to)&&bet w.minutes 0 100000
def keyW (w:Wash):Int:=64*w.from_+w.to
def z5y (l:List Wash) (i:Nat):Bool:=zu7 (gt l (i:Int))&&!(l.take i).any fun v=>keyW v==keyW (gt l (i:Int))
def z8j (l:List Wash):Bool:=(List.range l.length).all (z5y l)
def z1h (x:z4a):Int:=
 bif decide (32<x.types.length)||decide (4096<x.wagons.length)||decide (1024<x.swaps.length)||decide (4096<x.washes.length) then 2 else
 bif x.types.all zk0&&x.wagons.all (zh2 x.types.length)&&x.swaps.all (zkj x.types.length)&&z8j x.washes then 0 else 1
theorem zem (p:Nat->Bool) (i:Nat) :(List.range (i+1)).all p =((List.range i).all p&&p i):=by
 rw [w1j,w42]; simp
theorem zh0 (φ:Nat) (x:z4a) (hl:x.swaps.length<=1024) (ht:x.types.length<=32) :
  ∀ n s,x.swaps.length<n->z0u φ n x.swaps (x.swaps.length:Int) 0 x s=zy φ φ x.washes (x.washes.length:Int) 0 (bif x.swaps.all (zkj (x.types.length:Int)) then s else 1) (fun _=>default):=by
 have hp:W ((x.types.length:Int)-1) =(x.types.length:Int)-1:=W_id (by omega) (by omega)
 refine zir (fun n i s=>z0u φ n x.swaps (x.swaps.length:Int) i x s) (fun s=>zy φ φ x.washes (x.washes.length:Int) 0 s (fun _=>default)) _ _ ?_ ?_
 ·intro n i s hi
  have hW:W ((i:Int)+1) =(i:Int)+1:=W_id (by omega) (by omega)
  rw [z0u,if_pos (by simp; omega),z6 ⟨by omega,by omega⟩]
  simp only [z1g,w04,zkj,z0q,hW,hp]
  cases bet (gt x.swaps i).wanted 0 ((x.types.length:Int)-1) <;> cases bet (gt x.swaps i).given 0 ((x.types.length:Int)-1) <;> cases ((gt x.swaps i).wanted !=(gt x.swaps i).given) <;>
   cases bet (gt x.swaps i).cost 0 1000000000 <;> rfl
 ·intro n s
  rw [z0u,if_neg (by simp)]
theorem zg5 (φ:Nat) (x:z4a) (hl:x.wagons.length<=4096) (ht:x.types.length<=32) :
  ∀ n s,x.wagons.length<n->z0c φ n x.wagons (x.wagons.length:Int) 0 x s=z0u φ φ x.swaps (x.swaps.length:Int) 0 x (bif x.wagons.all (zh2 (x.types.length:Int)) then s else 1):=by
 have hp:W ((x.types.length:Int)-1) =(x.types.length:Int)-1:=W_id (by omega) (by omega)
 refine zir (fun n i s=>z0c φ n x.wagons (x.wagons.length:Int) i x s) (fun s=>z0u φ φ x.swaps (x.swaps.length:Int) 0 x s) _ _ ?_ ?_
 ·intro n i s hi
  have hW:W ((i:Int)+1) =(i:Int)+1:=W_id (by omega) (by omega)
  rw [z0c,if_pos (by simp; omega),z6 ⟨by omega,by omega⟩]
  simp only [z1g,w04,zh2,z0q,hW,hp]
  cases bet (gt x.wagons i).type_ 0 ((x.types.length:Int)-1) <;> cases bet (gt x.wagons i).owner 0 63 <;> cases bet (gt x.wagons i).home 0 511 <;>
   cases bet (gt x.wagons i).built 0 1073741824 <;> cases bet (gt x.wagons i).worth 0 1099511627776 <;> rfl
 ·intro n s
  rw [z0c,if_neg (by simp)]
theorem zij (φ:Nat) (k:List z2k->Int->Int->z4a->Int->Option (Int×Unit)) (ts:List z2k) (len i:Int) (x:z4a) (t:z2k) (n:Nat) (s:Int) (hn:4<n) :
  z2a φ k n ts len i 4 0 x s t [t.load,t.tare,t.length,t.brake]=k ts len (W (i+1)) x (bif zk0 t then s else 1):=by
 have h:=zir (fun n j s=>z2a φ k n ts len i 4 j x s t [t.load,t.tare,t.length,t.brake]) (fun s=>k ts len (W (i+1)) x (bif (bet t.gauge 0 7&&bet t.life 1 1073741824&&bet t.floor 0 100) then s else 1))
  [t.load,t.tare,t.length,t.brake] (fun a=>bet a 0 1000000) (fun n j s hi=>by
   rw [z2a,if_pos (by simp at hi ⊢; omega),z6 ⟨by omega,by omega⟩]
   simp at hi
   have hW:W ((j:Int)+1) =(j:Int)+1:=W_id (by omega) (by omega)
   simp only [z1g,w04,hW]
   cases bet (gt [t.load,t.tare,t.length,t.brake] (j:Int)) 0 1000000 <;> rfl) (fun n s=>by
   rw [z2a,if_neg (by simp)]
   simp only [z1g,w04,z0q]
   cases bet t.gauge 0 7 <;> cases bet t.life 1 1073741824 <;> cases bet t.floor 0 100 <;> rfl) n s hn
 rw [h]
 simp only [zk0,w1d,List.all_nil]
 cases bet t.load 0 1000000 <;> cases bet t.tare 0 1000000 <;> cases bet t.length 0 1000000 <;> cases bet t.brake 0 1000000 <;>
   cases bet t.gauge 0 7 <;> cases bet t.life 1 1073741824 <;> cases bet t.floor 0 100 <;> rfl
theorem zge (φ:Nat) (hφ:4<φ) (x:z4a) (hl:x.types.length<=32) :
  ∀ n s,x.types.length<n->z3m φ n x.types (x.types.length:Int) 0 x s=z0c φ φ x.wagons (x.wagons.length:Int) 0 x (bif x.types.all zk0 then s else 1):=by
 refine zir (fun n i s=>z3m φ n x.types (x.types.length:Int) i x s) (fun s=>z0c φ φ x.wagons (x.wagons.length:Int) 0 x s) _ _ ?_ ?_
 ·intro n i s hi
  rw [z3m,if_pos (by simp; omega),z6 ⟨by omega,by omega⟩]
  have hW:W ((i:Int)+1) =(i:Int)+1:=W_id (by omega) (by omega)
  refine(zij φ _ x.types (x.types.length:Int) (i:Int) x (gt x.types i) φ s hφ).trans ?_
  rw [hW]
 ·intro n s
  rw [z3m,if_neg (by simp)]
theorem zfu (φ:Nat) (x:z4a) (hl:x.washes.length<=4096) (n:Nat) (s:Int) (hn:x.washes.length<n) :
  zy φ n x.washes (x.washes.length:Int) 0 s (fun _=>default)=some (bif z8j x.washes then s else 1,()):=by
 refine z0h (fun n i (t:Int×(Nat->Bool))=>zy φ n x.washes (x.washes.length:Int) i t.1 t.2) x.washes.length
  (fun i t=>t.1 =(bif (List.range i).all (z5y x.washes) then s else 1)/\((List.range i).all (z5y x.washes)=true->∀ j:Nat,t.2 j =(x.washes.take i).any fun v=>keyW v==(j:Int)))
  (fun o=>o=some (bif z8j x.washes then s else 1,())) ?_ ?_ n (s,fun _=>false) ⟨by simp,by simp⟩ hn
 ·intro n i t hi ⟨h1,h2⟩ hs
  have hW:W ((i:Int)+1) =(i:Int)+1:=W_id (by omega) (by omega)
  rw [zy,if_pos (by simp; omega),z6 ⟨by omega,by omega⟩]
  simp only [z1g,w04,z0q,hW]
  have hok:zu7 (gt x.washes i) =(bet (gt x.washes i).from_ 0 63&&bet (gt x.washes i).to 0 63&&((gt x.washes i).from_ !=(gt x.washes i).to)&&bet (gt x.washes i).minutes 0 100000):=rfl
  have hsucc:=zem (z5y x.washes) i
  cases hw:zu7 (gt x.washes i) with
  | false=>
   have hf :(List.range (i+1)).all (z5y x.washes)=false:=by rw [hsucc]; simp [z5y,hw]
   have h3:zy φ n x.washes (x.washes.length:Int) ((i:Int)+1) 1 t.2=some (bif z8j x.washes then s else 1,()):=hs (1,t.2) ⟨by rw [hf]; rfl,by rw [hf]; intro h; cases h⟩
   rw [hw] at hok
   rw [<- h3]
   generalize bet (gt x.washes i).from_ 0 63=a at *; generalize bet (gt x.washes i).to 0 63=b at *; generalize ((gt x.washes i).from_ !=(gt x.washes i).to)=c at *; generalize bet (gt x.washes i).minutes 0 100000=d at *
   cases a <;> cases b <;> cases c <;> cases d <;> first |(exact absurd hok (by decide)) | rfl
  | true=>
   rw [hw] at hok
   have hb:=hok.symm
   simp only [w02] at hb
   obtain⟨⟨⟨b1,b2⟩,b3⟩,b4⟩:=hb
   have c1:=zxd b1; have c2:=zxd b2
   simp only [b1,b2,b3,b4,w3x,if_true,w04,w25,w0w,if_false]
   rw [z6 ⟨by omega,by omega⟩,z6 ⟨by omega,by omega⟩]
   have hkey :((gt x.washes i).from_.toNat*64 +(gt x.washes i).to.toNat:Nat) =(keyW (gt x.washes i)).toNat:=by unfold keyW; omega
   have hk0 :((keyW (gt x.washes i)).toNat:Int)=keyW (gt x.washes i):=by unfold keyW; omega
   have key:∀ e,(e=bif (List.range (i+1)).all (z5y x.washes) then s else 1)->
     zy φ n x.washes (x.washes.length:Int) ((i:Int)+1) e (upd t.2 (keyW (gt x.washes i)).toNat true)=some (bif z8j x.washes then s else 1,()):=by
    intro e he
    refine hs (e,_) ⟨he,fun hall j=>?_⟩
    rw [hsucc,w02] at hall
    rw [zfg _ _ _ hi,<- h2 hall.1 j]
    show (if j =(keyW (gt x.washes i)).toNat then true else t.2 j)=_
    by_cases hj:j =(keyW (gt x.washes i)).toNat
    ·simp [hj,hk0]
    ·have :(keyW (gt x.washes i)==(j:Int))=false:=by
      simp; intro h; exact hj (by omega)
     simp [hj,this]
   have e64:∀(p:Prop) [Decidable p] (y:Option (Int×Unit)),p->ck p y=y:=fun p _ y hp=>z6 hp
   rw [hkey]
   simp only [e64 _ _ (show (0:Int)<=(gt x.washes i).from_/\(gt x.washes i).from_<64 by omega),e64 _ _ (show (0:Int)<=(gt x.washes i).to/\(gt x.washes i).to<64 by omega)]
   cases hall :(List.range i).all (z5y x.washes) with
   | true=>
    have hat:z5y x.washes i = !(t.2 (keyW (gt x.washes i)).toNat):=by
     rw [h2 hall]; simp only [z5y,hw,w38,hk0]
    cases ht2:t.2 (keyW (gt x.washes i)).toNat with
    | true=>
     simp only [w25,w2m,if_true]
     refine key 1 ?_
     rw [hsucc,hat,ht2]; simp
    | false=>
     simp only [w25,w2m,w0w,if_false]
     refine key t.1 ?_
     rw [hsucc,hat,ht2,h1,hall]; simp
   | false=>
    have hf :(List.range (i+1)).all (z5y x.washes)=false:=by rw [hsucc,hall]; rfl
    have ht1:t.1=1:=by rw [h1,hall]; rfl
    rw [ht1]
    split <;> exact key 1 (by rw [hf]; rfl)
 ·intro n t ⟨h1,_⟩
  rw [zy,if_neg (by simp),h1]; rfl
theorem zau (φ:Nat) (hφ:5000<φ) (x:z4a):z77 φ x=some (z1h x,()):=by
 have e :(((decide (32 <(x.types.length:Int))||decide (4096 <(x.wagons.length:Int)))||decide (1024 <(x.swaps.length:Int)))||decide (4096 <(x.washes.length:Int))) =
   (decide (32<x.types.length)||decide (4096<x.wagons.length)||decide (1024<x.swaps.length)||decide (4096<x.washes.length)):=by
  congr 1
  ·congr 1
   ·congr 1 <;>(apply decide_eq_decide.2; omega)
   ·apply decide_eq_decide.2; omega
  ·apply decide_eq_decide.2; omega
 unfold z77 z1h
 rw [e]
 cases h :(decide (32<x.types.length)||decide (4096<x.wagons.length)||decide (1024<x.swaps.length)||decide (4096<x.washes.length)) with
 | true=>rfl
 | false=>
  simp only [w1g,decide_eq_false_iff_not,Nat.not_lt] at h
  obtain⟨⟨⟨h1,h2⟩,h3⟩,h4⟩:=h
  rw [if_neg (by simp),zge φ (by omega) x h1 _ _ (by omega),zg5 _ _ h2 h1 _ _ (by omega),zh0 _ _ h3 h1 _ _ (by omega),zfu _ _ h4 _ _ (by omega)]
  cases x.types.all zk0 <;> cases x.wagons.all (zh2 x.types.length) <;> cases x.swaps.all (zkj x.types.length) <;> cases z8j x.washes <;> rfl
theorem z4v {x:z4a} (h:z1h x=0):x.types.length<=32/\x.wagons.length<=4096/\x.swaps.length<=1024/\x.washes.length<=4096/\
  (∀ t∈x.types,zk0 t=true)/\(∀ t∈x.wagons,zh2 x.types.length t=true)/\(∀ t∈x.swaps,zkj x.types.length t=true)/\z8j x.washes=true:=by
 unfold z1h at h
 cases h1 :(decide (32<x.types.length)||decide (4096<x.wagons.length)||decide (1024<x.swaps.length)||decide (4096<x.washes.length)) with
 | true=>rw [h1] at h; cases h
 | false=>
  rw [h1] at h
  simp only [w1g,decide_eq_false_iff_not,Nat.not_lt] at h1
  obtain⟨⟨⟨a1,a2⟩,a3⟩,a4⟩:=h1
  cases h2 :(x.types.all zk0&&x.wagons.all (zh2 x.types.length)&&x.swaps.all (zkj x.types.length)&&z8j x.washes) with
  | false=>rw [h2] at h; cases h
  | true=>
   simp only [w02,w0b] at h2
   exact⟨a1,a2,a3,a4,h2.1.1.1,h2.1.1.2,h2.1.2,h2.2⟩
end Px
end
section
namespace Px
open Go
theorem z71 {c:Int} (h:0<=c) (h':c<18446744073709551616) :(BitVec.ofInt 64 c).toNat=c.toNat:=by
 rw [BitVec.toNat_ofInt]; omega
theorem y7w {n:Nat} (h:n<18446744073709551616):U (n:Int)=n:=U_id (by omega) (by omega)
theorem y5l {a b:Nat} (h:a<18446744073709551616):a&&& b<18446744073709551616:=w4d Nat.and_le_left h
theorem y46 {k:Nat} (h:k<=63) :(2 ^ k:Nat)<18446744073709551616:=w2w (Nat.pow_lt_pow_right (by decide) (by omega:k<64)) (by decide)
theorem y8t {c k:Int} (h:0<=c) (hk:0<=k) (hk':k<=63):c.fdiv (2 ^ (min (k:Int).toNat (IntKind.bits .u64))) =((c.toNat / 2 ^ k.toNat:Nat):Int):=by
 have e:min (k:Int).toNat (IntKind.bits .u64)=k.toNat:=by simp [IntKind.bits]; omega
 rw [e]
 have e2 :((2:Int) ^ k.toNat) =((2 ^ k.toNat:Nat):Int):=by simp
 rw [e2,w1u _ (Int.natCast_nonneg _)]
 have:c =(c.toNat:Int):=by omega
 rw [this]; simp
end Px
end
section
namespace Px
open Go
set_option maxRecDepth 100000
theorem zvw :((List.range 256).all fun i=>decide (0<=z9e zz i/\z9e zz i<=8/\i<2 ^ (z9e zz i).toNat/\(0<i->0<z9e zz i/\2 ^ ((z9e zz i).toNat-1)<=i)))=true:=by decide +kernel
theorem zj8 {i:Int} (h:0<=i) (h':i<256):∃ n:Nat,z9e zz i=n/\n<=8/\i.toNat<2 ^ n/\(0<i->0<n/\2 ^ (n-1)<=i.toNat):=by
 have:=w0b.1 zvw i.toNat (by simp; omega)
 rw [decide_eq_true_eq,show ((i.toNat:Nat):Int)=i by omega] at this
 obtain⟨a,b,c,d⟩:=this
 exact⟨(z9e zz i).toNat,by omega,by omega,c,fun hi=>⟨by have:=(d (by omega)).1; omega,(d (by omega)).2⟩⟩
def z6y (v:Nat) (n:Nat):Prop:=v<2 ^ n/\(0<v->0<n/\2 ^ (n-1)<=v)
theorem z6y.up {v:Nat} (k:Nat) {n:Nat} (h:z6y (v / 2 ^ k) n) (hv:2 ^ k<=v):z6y v (n+k):=by
 have hp:=Nat.two_pow_pos k
 have hpos:0<v / 2 ^ k:=Nat.div_pos hv hp
 obtain⟨h1,h2⟩:=h
 obtain⟨h3,h4⟩:=h2 hpos
 refine⟨?_,fun _=>⟨by omega,?_⟩⟩
 ·rw [w49]; exact(Nat.div_lt_iff_lt_mul hp).1 h1
 ·have:n+k-1 =(n-1)+k:=by omega
  rw [this,w49]; exact(Nat.le_div_iff_mul_le hp).1 h4
theorem zyp (φ:Nat) (v w:Int) (h:0<=v) (h':v<256) (hw:0<=w) (hw':w<=64):∃ n:Nat,z1c φ v w=some (64 -(w+n),())/\n<=8/\z6y v.toNat n:=by
 obtain⟨n,e,hn,a,b⟩:=zj8 h h'
 have e8:IntKind.wrap .u8 v=v:=by simp [IntKind.wrap,IntKind.bits,IntKind.signed]; omega
 refine⟨n,?_,hn,a,fun hv=>b (by omega)⟩
 unfold z1c
 rw [e8,z6 ⟨h,h'⟩,e,W_id (x:=(n:Int)) (by omega) (by omega),W_id (x:=w+n) (by omega) (by omega),W_id (by omega) (by omega)]
theorem sh8 (v:Int):v.fdiv (2 ^ (min (8:Int).toNat 64))=v / 256:=by rw [show ((2:Int) ^ (min (8:Int).toNat 64))=256 by decide]; exact w1u _ (by omega)
theorem sh16 (v:Int):v.fdiv (2 ^ (min (16:Int).toNat 64))=v / 65536:=by rw [show ((2:Int) ^ (min (16:Int).toNat 64))=65536 by decide]; exact w1u _ (by omega)
theorem sh32 (v:Int):v.fdiv (2 ^ (min (32:Int).toNat 64))=v / 4294967296:=by rw [show ((2:Int) ^ (min (32:Int).toNat 64))=4294967296 by decide]; exact w1u _ (by omega)
theorem y4j (φ:Nat) (v w:Int) (h:0<=v) (h':v<65536) (hw:0<=w) (hw':w<=48):∃ n:Nat,z1m φ v w=some (64 -(w+n),())/\n<=16/\z6y v.toNat n:=by
 unfold z1m
 by_cases c:256<=v
 ·rw [if_pos (by simpa using c),if_pos (by decide),sh8,W_id (by omega) (by omega)]
  obtain⟨n,e,hn,hl⟩:=zyp φ (v / 256) (w+8) (by omega) (by omega) (by omega) (by omega)
  refine⟨n+8,by rw [e]; congr 2; omega,by omega,?_⟩
  refine z6y.up 8 ?_ (by omega)
  rwa [show v.toNat / 2 ^ 8 =(v / 256).toNat by omega]
 ·rw [if_neg (by simpa using c)]
  obtain⟨n,e,hn,hl⟩:=zyp φ v w h (by omega) (by omega) (by omega)
  exact⟨n,e,by omega,hl⟩
theorem y58 (φ:Nat) (v w:Int) (h:0<=v) (h':v<4294967296) (hw:0<=w) (hw':w<=32):∃ n:Nat,z1n φ v w=some (64 -(w+n),())/\n<=32/\z6y v.toNat n:=by
 unfold z1n
 by_cases c:65536<=v
 ·rw [if_pos (by simpa using c),if_pos (by decide),sh16,W_id (by omega) (by omega)]
  obtain⟨n,e,hn,hl⟩:=y4j φ (v / 65536) (w+16) (by omega) (by omega) (by omega) (by omega)
  refine⟨n+16,by rw [e]; congr 2; omega,by omega,?_⟩
  refine z6y.up 16 ?_ (by omega)
  rwa [show v.toNat / 2 ^ 16 =(v / 65536).toNat by omega]
 ·rw [if_neg (by simpa using c)]
  obtain⟨n,e,hn,hl⟩:=y4j φ v w h (by omega) (by omega) (by omega)
  exact⟨n,e,by omega,hl⟩
theorem yaq (φ:Nat) (v:Int) (h:0<=v) (h':v<18446744073709551616):∃ n:Nat,z2y φ v=some (64 -(n:Int),())/\n<=64/\z6y v.toNat n:=by
 unfold z2y
 by_cases c:4294967296<=v
 ·rw [if_pos (by simpa using c),if_pos (by decide),sh32]
  obtain⟨n,e,hn,hl⟩:=y58 φ (v / 4294967296) 32 (by omega) (by omega) (by omega) (by omega)
  refine⟨n+32,by rw [e]; congr 2; omega,by omega,?_⟩
  refine z6y.up 32 ?_ (by omega)
  rwa [show v.toNat / 2 ^ 32 =(v / 4294967296).toNat by omega]
 ·rw [if_neg (by simpa using c)]
  obtain⟨n,e,hn,hl⟩:=y58 φ v 0 h (by omega) (by omega) (by omega)
  exact⟨n,by rw [e]; simp,by omega,hl⟩
theorem zje {v:Int} (h:0<=v) (h':v<18446744073709551616):U ((BitVec.ofInt 64 v&&& BitVec.ofInt 64 4294967295).toNat)=v % 4294967296:=by
 show U ((BitVec.ofInt 64 v&&& BitVec.ofInt 64 4294967295).toNat:Int)=_
 rw [BitVec.toNat_and,z71 h h',z71 (by omega) (by omega),y7w (y5l (by omega))]
 have :(4294967295:Int).toNat=2 ^ 32-1:=by decide
 rw [this,Nat.and_two_pow_sub_one_eq_mod]
 omega
theorem zj2 {a b m n:Int} (ha:0<=a) (hb:0<=b) (h:a<=m) (h':b<=n):0<=a*b/\a*b<=m*n:=
 ⟨w2d ha hb,Int.mul_le_mul h h' hb (by omega)⟩
theorem y2l (φ:Nat) (x y:Int) (hx:0<=x) (hx':x<18446744073709551616) (hy:0<=y) (hy':y<18446744073709551616) :
  z7a φ x y=some (x*y / 18446744073709551616,x*y % 18446744073709551616,()):=by
 unfold z7a
 simp only [show (0:Int)<=32 by decide,if_true]
 rw [zje hx hx',zje hy hy']
 simp only [sh32]
 have ex:x=x / 4294967296*4294967296+x % 4294967296:=by omega
 have ey:y=y / 4294967296*4294967296+y % 4294967296:=by omega
 have a1:0<=x / 4294967296/\x / 4294967296<=4294967295:=by omega
 have a0:0<=x % 4294967296/\x % 4294967296<=4294967295:=by omega
 have b1:0<=y / 4294967296/\y / 4294967296<=4294967295:=by omega
 have b0:0<=y % 4294967296/\y % 4294967296<=4294967295:=by omega
 have hxy:x*y =(x / 4294967296) *(y / 4294967296)*18446744073709551616 +((x / 4294967296) *(y % 4294967296) +(x % 4294967296) *(y / 4294967296))*4294967296 +(x % 4294967296) *(y % 4294967296):=by
  conv=>lhs; rw [ex,ey]
  generalize x / 4294967296=a; generalize x % 4294967296=b; generalize y / 4294967296=c; generalize y % 4294967296=d
  rw [w2v,w3c,w3c,w2v]
  have e1:a*4294967296 *(c*4294967296)=a*c*18446744073709551616:=by
   rw [w2q,Int.mul_left_comm 4294967296 c,<- w2q]; rfl
  have e2:a*4294967296*d=a*d*4294967296:=by rw [w4e]
  have e3:b *(c*4294967296)=b*c*4294967296:=by rw [w2q]
  rw [e1,e2,e3]; omega
 have p11:=zj2 a1.1 b1.1 a1.2 b1.2
 have p10:=zj2 a1.1 b0.1 a1.2 b0.2
 have p01:=zj2 a0.1 b1.1 a0.2 b1.2
 have p00:=zj2 a0.1 b0.1 a0.2 b0.2
 rw [zzf (x*y),hxy]
 generalize (x / 4294967296) *(y / 4294967296)=p at *; generalize (x / 4294967296) *(y % 4294967296)=q at *
 generalize (x % 4294967296) *(y / 4294967296)=r at *; generalize (x % 4294967296) *(y % 4294967296)=s at *
 clear hxy ex ey a1 a0 b1 b0
 rw [U_id (x:=p) (by omega) (by omega),U_id (x:=q) (by omega) (by omega),U_id (x:=r) (by omega) (by omega),U_id (x:=s) (by omega) (by omega)]
 rw [U_id (x:=q+s / 4294967296) (by omega) (by omega),zje (by omega) (by omega),
  U_id (x:=(q+s / 4294967296) % 4294967296+r) (by omega) (by omega),U_id (x:=p +(q+s / 4294967296) / 4294967296) (by omega) (by omega),U_id (by omega) (by omega)]
 refine congrArg some (Prod.ext ?_ rfl)
 show _=_
 omega
theorem y9l {yn1 yn0 u d q r:Int} (h1:2147483648<=yn1) (h1':yn1<4294967296) (h0:0<=yn0) (h0':yn0<4294967296) (hd:0<=d) (hd':d<4294967296) (hu:0<=u)
  (hu':u<yn1*4294967296+yn0) (hqr:q*yn1+r=u) (hr:0<=r) (hr':r<4294967296) (hq :(u*4294967296+d) /(yn1*4294967296+yn0)<=q) :
  0<=q/\q<=4294967297/\0<=(u*4294967296+d) /(yn1*4294967296+yn0)/\(u*4294967296+d) /(yn1*4294967296+yn0)<4294967296/\
  (4294967296<=q\/4294967296*r+d<q*yn0->(u*4294967296+d) /(yn1*4294967296+yn0)<=q-1)/\
  (¬(4294967296<=q\/4294967296*r+d<q*yn0)->q =(u*4294967296+d) /(yn1*4294967296+yn0))/\
  (4294967296<=q\/4294967296*r+d<q*yn0->4294967296<=r+yn1->q-1 =(u*4294967296+d) /(yn1*4294967296+yn0)):=by
 have hY:0<yn1*4294967296+yn0:=by omega
 have hQ0:0<=(u*4294967296+d) /(yn1*4294967296+yn0):=w2y (by omega) (by omega)
 have hQ1 :(u*4294967296+d) /(yn1*4294967296+yn0)<4294967296:=w3f hY (by omega)
 have hq0:0<=q:=by omega
 have key:q *(yn1*4294967296+yn0) =(u-r)*4294967296+q*yn0:=by
  rw [w3c,<- w2q,<- hqr]; omega
 have hq2:q<=4294967297:=by
  rcases Int.lt_or_le 4294967297 q with h | h
  ·have:4294967298*yn1<=q*yn1:=w21 (by omega) (by omega)
   omega
  ·exact h
 have lt_of:∀ {z:Int},(u*4294967296+d) /(yn1*4294967296+yn0)<z↔u*4294967296+d<z *(yn1*4294967296+yn0):=fun {z}=>Int.ediv_lt_iff_lt_mul hY
 refine⟨hq0,hq2,hQ0,hQ1,fun h=>?_,fun h=>?_,fun h hr2=>?_⟩
 ·have :(u*4294967296+d) /(yn1*4294967296+yn0)<q:=by
   rcases h with h | h
   ·omega
   ·rw [lt_of,key]; omega
  omega
 ·have:¬(u*4294967296+d) /(yn1*4294967296+yn0)<q:=by rw [lt_of,key]; omega
  omega
 ·have hq1 :(u*4294967296+d) /(yn1*4294967296+yn0)<q:=by
   rcases h with h | h
   ·omega
   ·rw [lt_of,key]; omega
  have h2:¬(u*4294967296+d) /(yn1*4294967296+yn0)<q-1:=by
   rw [lt_of]
   have e :(q-1) *(yn1*4294967296+yn0) =(u -(r+yn1))*4294967296 +(q-1)*yn0:=by
    have :(q-1)*yn1 +(r+yn1)=u:=by rw [w52]; omega
    rw [w3c,<- w2q,<- this]; omega
   have b:=(zj2 (by omega:0<=q-1) h0 (by omega:q-1<=4294967296) (by omega:yn0<=4294967295)).2
   rw [e]; omega
  omega
theorem mulB {a b:Int} (h:0<=a) (h':a<4294967296) (g:0<=b) (g':b<4294967296):0<=a*b/\a*b<=18446744065119617025:=
 zj2 h g (by omega:a<=4294967295) (by omega:b<=4294967295)
theorem zmk {ρ:Type} (L:Nat->Int->Int->Option ρ) (k:Int->Option ρ) {yn1 yn0 u d:Int} (h1:2147483648<=yn1) (h1':yn1<4294967296) (h0:0<=yn0) (h0':yn0<4294967296) (hd:0<=d) (hd':d<4294967296) (hu:0<=u)
  (hu':u<yn1*4294967296+yn0)
  (step:∀ n q r,L (n+1) q r=if(decide (4294967296<=q)||decide (U (U (4294967296*r)+d)<U (q*yn0)))=true then(if decide (4294967296<=U (r+yn1))=true then k (U (q-1)) else L n (U (q-1)) (U (r+yn1))) else k q) :
  ∀(n:Nat) q r,q*yn1+r=u->0<=r->r<4294967296->(u*4294967296+d) /(yn1*4294967296+yn0)<=q->4294967296-r<=2147483648*n->L (n+1) q r=k ((u*4294967296+d) /(yn1*4294967296+yn0)):=by
 intro n
 induction n with
 | zero=>intro q r _ _ _ _ h; omega
 | succ n ih=>
  intro q r hqr hr hr' hq hn
  obtain⟨g0,g1,g2,g3,g4,g5,g6⟩:=y9l h1 h1' h0 h0' hd hd' hu hu' hqr hr hr' hq
  have hc :(decide (4294967296<=q)||decide (U (U (4294967296*r)+d)<U (q*yn0)))=true↔(4294967296<=q\/4294967296*r+d<q*yn0):=by
   rw [w16,decide_eq_true_eq,decide_eq_true_eq]
   by_cases hqB:4294967296<=q
   ·simp [hqB]
   ·have:=mulB g0 (by omega:q<4294967296) h0 h0'
    rw [U_id (x:=4294967296*r) (by omega) (by omega),U_id (by omega) (by omega),U_id (by omega) (by omega)]
  rw [step]
  by_cases c:4294967296<=q\/4294967296*r+d<q*yn0
  ·have a4:=g4 c
   rw [if_pos (hc.2 c),U_id (x:=r+yn1) (by omega) (by omega),U_id (x:=q-1) (by omega) (by omega)]
   by_cases e:4294967296<=r+yn1
   ·rw [if_pos (by simpa using e),g6 c e]
   ·rw [if_neg (by simpa using e)]
    exact ih _ _ (by rw [w52]; omega) (by omega) (by omega) a4 (by omega)
  ·rw [if_neg (fun h=>c (hc.1 h)),<- g5 c]
theorem zjm {yn1 yn0 u d:Int} (h1:2147483648<=yn1) (h1':yn1<4294967296) (h0:0<=yn0) (h0':yn0<4294967296) (hd:0<=d) (hd':d<4294967296) (hu:0<=u)
  (hu':u<yn1*4294967296+yn0):U (u.tdiv yn1)=u / yn1/\U (u-U (U (u.tdiv yn1)*yn1))=u % yn1/\u / yn1*yn1+u % yn1=u/\0<=u % yn1/\u % yn1<4294967296/\
  (u*4294967296+d) /(yn1*4294967296+yn0)<=u / yn1:=by
 have e1:u.tdiv yn1=u / yn1:=w4i hu
 have hdm:u / yn1*yn1+u % yn1=u:=by have:=w2z u yn1; exact this
 have hm0:=w3n u (by omega:yn1≠0)
 have hm1:=w3q u (by omega:0<yn1)
 have hq0:0<=u / yn1:=w2y hu (by omega)
 have hq1:u / yn1<=u:=Int.ediv_le_self _ hu
 have hqm:0<=u / yn1*yn1:=w2d hq0 (by omega)
 rw [e1,U_id hq0 (by omega),U_id (x:=u / yn1*yn1) (by omega) (by omega),U_id (by omega) (by omega)]
 refine⟨rfl,by omega,hdm,hm0,by omega,?_⟩
 have hY:0<yn1*4294967296+yn0:=by omega
 have hQ0:0<=(u*4294967296+d) /(yn1*4294967296+yn0):=w2y (by omega) (by omega)
 have hQ:=Int.ediv_mul_le (u*4294967296+d) (b:=yn1*4294967296+yn0) (by omega)
 generalize (u*4294967296+d) /(yn1*4294967296+yn0)=z at *
 rw [w3c,<- w2q] at hQ
 have:=w2d hQ0 h0
 exact(Int.le_ediv_iff_mul_le (by omega)).2 (by omega)
theorem y4q (a b c:Int):U (U (U a+b)-U c)=U (a+b-c):=by
 simp only [zzf]; omega
theorem yag {a b:Int} {s:Nat} (hs:s<=63) (ha:0<=a) (h:a*2 ^ s<18446744073709551616) (hb:0<=b) (hb':b<2 ^ s) :
  U ((BitVec.ofInt 64 (U (a*2 ^ s))||| BitVec.ofInt 64 b).toNat)=a*2 ^ s+b:=by
 have hp :(0:Int)<2 ^ s:=Int.pow_pos (by decide)
 have hn:=w2d ha (Int.le_of_lt hp)
 have hp2 :(2:Int) ^ s =((2 ^ s:Nat):Int):=by simp
 have hlt :(2 ^ s:Nat)<18446744073709551616:=y46 hs
 rw [U_id hn (by omega)]
 show U ((BitVec.ofInt 64 (a*2 ^ s)||| BitVec.ofInt 64 b).toNat:Int)=_
 have hlt2:=(BitVec.ofInt 64 (a*2 ^ s)||| BitVec.ofInt 64 b).isLt
 rw [y7w (by omega),BitVec.toNat_or,z71 hn h,z71 hb (by omega)]
 obtain⟨n,rfl⟩:=w1v ha
 obtain⟨m,rfl⟩:=w1v hb
 have e :((n:Int)*2 ^ s).toNat=2 ^ s*n:=by rw [hp2,<- w44,w1m,Nat.mul_comm]
 rw [e,w1m,<- Nat.two_pow_add_eq_or_of_lt (by rw [hp2] at hb'; omega)]
 simp [w45]
theorem zhd (φ:Nat) (v:Int) (h:0<v) (h':v<18446744073709551616):∃ s:Nat,z2y φ v=some ((s:Int),())/\s<=63/\
  9223372036854775808<=v*2 ^ s/\v*2 ^ s<18446744073709551616/\v<=2 ^ (64-s):=by
 obtain⟨n,e,hn,h1,h2⟩:=yaq φ v (by omega) h'
 obtain⟨h3,h4⟩:=h2 (by omega)
 refine⟨64-n,?_,by omega,?_,?_,?_⟩
 ·rw [e]; congr 2; omega
 ·have:2 ^ (n-1)*2 ^ (64-n)<=v.toNat*2 ^ (64-n):=w12 _ h4
  rw [<- w49,show n-1 +(64-n)=63 by omega] at this
  have e2 :((v.toNat*2 ^ (64-n):Nat):Int)=v*2 ^ (64-n):=by
   rw [w44,Int.natCast_pow]; congr 1; omega
  omega
 ·have:v.toNat*2 ^ (64-n)<2 ^ n*2 ^ (64-n):=Nat.mul_lt_mul_of_pos_right h1 (Nat.two_pow_pos _)
  rw [<- w49,show n +(64-n)=64 by omega] at this
  have e2 :((v.toNat*2 ^ (64-n):Nat):Int)=v*2 ^ (64-n):=by
   rw [w44,Int.natCast_pow]; congr 1; omega
  omega
 ·rw [show 64 -(64-n)=n by omega]
  have e2 :((2 ^ n:Nat):Int) =(2:Int) ^ n:=by simp
  omega
theorem y3j (φ:Nat) (hφ:5<φ) (hi lo y:Int) (h0:0<=hi) (hy:hi<y) (hy':y<18446744073709551616) (hl:0<=lo) (hl':lo<18446744073709551616) :
  z64 φ hi lo y=some ((hi*18446744073709551616+lo) / y,(hi*18446744073709551616+lo) % y,()):=by
 unfold z64
 rw [if_neg (by simp; omega),if_neg (by simp; omega)]
 by_cases hz:hi=0
 ·subst hz
  rw [if_pos (by simp),z6 (by omega),z6 (by omega),w4i hl,w3k hl,U_id (w2y hl (by omega)) (by have:=Int.ediv_le_self y hl; omega)]
  simp
 rw [if_neg (by simpa using hz)]
 obtain⟨s,es,hs,hY1,hY2,hyP⟩:=zhd φ y (by omega) hy'
 have em1:min (s:Int).toNat 64=s:=by omega
 have em2:min (64 -(s:Int)).toNat 64=64-s:=by omega
 have hp :(0:Int)<2 ^ s:=Int.pow_pos (by decide)
 have hP :(0:Int)<2 ^ (64-s):=Int.pow_pos (by decide)
 have hpP :(2:Int) ^ s*2 ^ (64-s)=18446744073709551616:=by rw [<- Int.pow_add,show s +(64-s)=64 by omega]; rfl
 have hhp:hi*2 ^ s<y*2 ^ s:=w4f hy hp
 have hlP0:0<=lo / 2 ^ (64-s):=w2y hl (by omega)
 have hlP1:lo / 2 ^ (64-s)<2 ^ s:=w3f hP (by omega)
 have hh0:0<=hi*2 ^ s:=w2d h0 (by omega)
 -- the low word
 have hlo10:U (lo*2 ^ s)=lo % 2 ^ (64-s)*2 ^ s:=by
  have e:lo=lo / 2 ^ (64-s)*2 ^ (64-s)+lo % 2 ^ (64-s):=(w2z lo _).symm
  have e2:lo*2 ^ s=lo / 2 ^ (64-s)*18446744073709551616+lo % 2 ^ (64-s)*2 ^ s:=by
   conv=>lhs; rw [e]
   rw [w2v,w2q,w45 (2 ^ (64-s)),hpP]
  have m0:=w3n lo (by omega :(2:Int) ^ (64-s)≠0)
  have m1:=w3q lo hP
  have m2:lo % 2 ^ (64-s)*2 ^ s<2 ^ (64-s)*2 ^ s:=w4f m1 hp
  have m3:=w2d m0 (Int.le_of_lt hp)
  rw [w45 (2 ^ (64-s))] at m2
  rw [e2,zzf]; omega
 have hN :(hi*2 ^ s+lo / 2 ^ (64-s))*18446744073709551616+lo % 2 ^ (64-s)*2 ^ s =(hi*18446744073709551616+lo)*2 ^ s:=by
  have e:lo=lo / 2 ^ (64-s)*2 ^ (64-s)+lo % 2 ^ (64-s):=(w2z lo _).symm
  have e2:lo*2 ^ s=lo / 2 ^ (64-s)*18446744073709551616+lo % 2 ^ (64-s)*2 ^ s:=by
   conv=>lhs; rw [e]
   rw [w2v,w2q,w45 (2 ^ (64-s)),hpP]
  have e3 :(hi*18446744073709551616+lo)*2 ^ s=hi*2 ^ s*18446744073709551616+lo*2 ^ s:=by rw [w2v,w4e]
  rw [e3,e2]; omega
 have hun0:0<=lo % 2 ^ (64-s)*2 ^ s:=w2d (w3n lo (by omega)) (by omega)
 have hun1:lo % 2 ^ (64-s)*2 ^ s<18446744073709551616:=by
  rw [<- hlo10,zzf]; omega
 have hu':hi*2 ^ s+lo / 2 ^ (64-s)<y*2 ^ s:=by
  have :(hi+1)*2 ^ s<=y*2 ^ s:=w21 (by omega) (by omega)
  rw [w2v] at this; omega
 have hs1:U (s:Int)=s:=U_id (by omega) (by omega)
 have hs2:U (64 -(s:Int))=64 -(s:Int):=U_id (by omega) (by omega)
 have ef:lo.fdiv (2 ^ (64-s))=lo / 2 ^ (64-s):=w1u _ (by omega)
 have eor:=yag hs h0 (by omega:hi*2 ^ s<18446744073709551616) hlP0 hlP1
 obtain⟨Y,hYd⟩:∃ Y,Y=y*2 ^ s:=⟨_,rfl⟩
 have eY:U (y*2 ^ s)=Y:=by rw [hYd]; exact U_id (by omega) (by omega)
 obtain⟨u,hud⟩:∃ u,u=hi*2 ^ s+lo / 2 ^ (64-s):=⟨_,rfl⟩
 obtain⟨w,hwd⟩:∃ w,w=lo % 2 ^ (64-s)*2 ^ s:=⟨_,rfl⟩
 rw [<- hwd] at hlo10 hN hun0 hun1
 rw [<- hud] at hN hu' eor
 rw [<- hYd] at hu' hY1 hY2 hhp
 have hu0:0<=u:=by omega
 have fY:Y.fdiv 4294967296=Y / 4294967296:=w1u _ (by omega)
 have fw:w.fdiv 4294967296=w / 4294967296:=w1u _ (by omega)
 have mY:=zje (v:=Y) (by omega) (by omega)
 have mw:=zje (v:=w) (by omega) (by omega)
 have b1:2147483648<=Y / 4294967296/\Y / 4294967296<4294967296/\0<=Y % 4294967296/\Y % 4294967296<4294967296:=by omega
 have b2:0<=w / 4294967296/\w / 4294967296<4294967296/\0<=w % 4294967296/\w % 4294967296<4294967296:=by omega
 have eYs:Y / 4294967296*4294967296+Y % 4294967296=Y:=by omega
 obtain⟨m,rfl⟩:∃ m,φ=m+3:=⟨φ-3,by omega⟩
 rw [es]
 simp only [w04,hs1,hs2,em1,em2,sh32,eY,hlo10,mY,mw,ef,eor,show (0:Int)<=32 by decide,if_true]
 rw [z6 (by omega),z6 (by omega),z6 (by omega),z6 (by omega),z6 (by omega)]
 obtain⟨i1,i2,i3,i4,i5,i6⟩:=zjm (u:=u) (d:=w / 4294967296) b1.1 b1.2.1 b1.2.2.1 b1.2.2.2 b2.1 b2.2.1 hu0 (by omega)
 rw [i1] at i2 ⊢
 rw [i2]
 refine(zmk (fun n q r=>z5q (m+3) n Y s (Y / 4294967296) (Y % 4294967296) u (w / 4294967296) (w % 4294967296) q r) (fun q=>z5n (m+3) Y s (Y / 4294967296) (Y % 4294967296) u (w / 4294967296) (w % 4294967296) q)
  b1.1 b1.2.1 b1.2.2.1 b1.2.2.2 b2.1 b2.2.1 hu0 (by omega) (fun n q r=>by rw [z5q]) (m+2) _ _ i3 i4 i5 i6 (by omega)).trans ?_
 rw [eYs]
 unfold z5n
 rw [z6 (by omega)]
 have hQ1:0<=(u*4294967296+w / 4294967296) / Y/\(u*4294967296+w / 4294967296) / Y<4294967296:=⟨w2y (by omega) (by omega),w3f (by omega) (by omega)⟩
 have hR1:=w2z (u*4294967296+w / 4294967296) Y
 have hR1a:=w3n (u*4294967296+w / 4294967296) (by omega:Y≠0)
 have hR1b:=w3q (u*4294967296+w / 4294967296) (by omega:0<Y)
 generalize (u*4294967296+w / 4294967296) / Y=q1 at *
 generalize (u*4294967296+w / 4294967296) % Y=r1 at *
 have eu21:U (U (U (u*4294967296)+w / 4294967296)-U (q1*Y))=r1:=by
  rw [y4q,show u*4294967296+w / 4294967296-q1*Y=r1 by omega]; exact U_id hR1a (by omega)
 rw [eu21]
 obtain⟨j1,j2,j3,j4,j5,j6⟩:=zjm (u:=r1) (d:=w % 4294967296) b1.1 b1.2.1 b1.2.2.1 b1.2.2.2 b2.2.2.1 b2.2.2.2 hR1a (by omega)
 rw [j1] at j2 ⊢
 rw [j2]
 refine(zmk (fun n q r=>z5s (m+3) n Y s (Y / 4294967296) (Y % 4294967296) (w % 4294967296) q1 r r1 q) (fun q=>z5r (m+3) Y s (w % 4294967296) q1 r1 q)
  b1.1 b1.2.1 b1.2.2.1 b1.2.2.2 b2.2.2.1 b2.2.2.2 hR1a (by omega) (fun n q r=>by rw [z5s]) (m+2) _ _ j3 j4 j5 j6 (by omega)).trans ?_
 rw [eYs]
 unfold z5r
 rw [em1,z6 (by omega)]
 have hQ0:0<=(r1*4294967296+w % 4294967296) / Y/\(r1*4294967296+w % 4294967296) / Y<4294967296:=⟨w2y (by omega) (by omega),w3f (by omega) (by omega)⟩
 have hR0:=w2z (r1*4294967296+w % 4294967296) Y
 have hR0a:=w3n (r1*4294967296+w % 4294967296) (by omega:Y≠0)
 have hR0b:=w3q (r1*4294967296+w % 4294967296) (by omega:0<Y)
 generalize (r1*4294967296+w % 4294967296) / Y=q0 at *
 generalize (r1*4294967296+w % 4294967296) % Y=r0 at *
 rw [y4q,show r1*4294967296+w % 4294967296-q0*Y=r0 by omega,U_id (x:=r0) hR0a (by omega),U_id (x:=q1*4294967296) (by omega) (by omega),U_id (by omega) (by omega),w1u _ (by omega)]
 have hall :(hi*18446744073709551616+lo -(q1*4294967296+q0)*y)*2 ^ s=r0:=by
  rw [w52,<- hN,w2q,<- hYd,w2v,w4e]; omega
 have hz0:0<=hi*18446744073709551616+lo -(q1*4294967296+q0)*y:=by
  rcases Int.lt_or_le (hi*18446744073709551616+lo -(q1*4294967296+q0)*y) 0 with h | h
  ·have:=Int.mul_neg_of_neg_of_pos h hp; omega
  ·exact h
 have hz1:hi*18446744073709551616+lo -(q1*4294967296+q0)*y<y:=by
  refine Int.lt_of_mul_lt_mul_right (a:=2 ^ s) ?_ (by omega)
  rw [hall,<- hYd]; exact hR0b
 have hr0:r0 / 2 ^ s=hi*18446744073709551616+lo -(q1*4294967296+q0)*y:=by
  rw [<- hall]; exact Int.mul_ediv_cancel _ (by omega)
 have hdm :(hi*18446744073709551616+lo) / y=q1*4294967296+q0/\(hi*18446744073709551616+lo) % y=hi*18446744073709551616+lo -(q1*4294967296+q0)*y:=
  (Int.ediv_emod_unique (by omega)).2 ⟨by rw [w45 y]; omega,hz0,hz1⟩
 rw [hr0,hdm.1,hdm.2]
end Px
end
section
namespace Px
open Go
set_option maxRecDepth 100000
def PP:Nat:=2305843009213690799
def QQ:Nat:=1152921504606845399
def pw (b n:Nat):Nat:=b ^ n % PP
theorem zyo (b n:Nat):pw b n<PP:=Nat.mod_lt _ (by decide)
theorem y60 (b:Nat):pw b 0=1:=by simp [pw,PP]
theorem y5b (b m n:Nat):pw b m*pw b n % PP=pw b (m+n):=by
 unfold pw; rw [w49,<- Nat.mul_mod]
theorem yaf (b:Nat):pw b 1=b % PP:=by simp [pw]
theorem y9a {a:Nat} (h:a<PP) :((a:Int)).tmod 2305843009213690799 =(a:Int):=by
 unfold PP at h
 rw [w3k (by omega)]; omega
theorem ya0 (b:Nat) :((b:Int)).tmod 2305843009213690799 =((b % PP:Nat):Int):=by
 rw [w3k (by omega)]; unfold PP; omega
theorem zzr {ρ:Type} {a b:Nat} (ha:a<PP) (hb:b<PP) (φ:Nat) (hφ:5<φ) (K:Int->Option ρ) :((z7a φ (a:Int) (b:Int)).bind fun y=>(z64 φ y.1 y.2.1 2305843009213690799).bind fun z=>K z.2.1)=K ((a*b % PP:Nat):Int):=by
 have ha' :(a:Int)<2305843009213690799:=by unfold PP at ha; omega
 have hb' :(b:Int)<2305843009213690799:=by unfold PP at hb; omega
 have hp:=zj2 (by omega:0<=(a:Int)) (by omega:0<=(b:Int)) (by omega :(a:Int)<=2305843009213690798) (by omega :(b:Int)<=2305843009213690798)
 rw [y2l φ _ _ (by omega) (by omega) (by omega) (by omega),w04]
 generalize hz :(a:Int) *(b:Int)=z at *
 show (z64 φ (z / 18446744073709551616) (z % 18446744073709551616) 2305843009213690799).bind _=_
 rw [y3j φ hφ _ _ _ (by omega) (by omega) (by omega) (by omega) (by omega),w04]
 congr 1
 have:z / 18446744073709551616*18446744073709551616+z % 18446744073709551616=z:=by omega
 show (z / 18446744073709551616*18446744073709551616+z % 18446744073709551616) % 2305843009213690799=_
 rw [this,<- hz,Int.natCast_emod,w44]; rfl
theorem z6y.uniq {v m n:Nat} (hv:0<v) (h:z6y v m) (k:z6y v n):m=n:=by
 obtain⟨h1,h2⟩:=h
 obtain⟨k1,k2⟩:=k
 obtain⟨h3,h4⟩:=h2 hv
 obtain⟨k3,k4⟩:=k2 hv
 have a:m-1<n:=(Nat.pow_lt_pow_iff_right (by decide:1<2)).1 (w4d h4 k1)
 have b:n-1<m:=(Nat.pow_lt_pow_iff_right (by decide:1<2)).1 (w4d k4 h1)
 omega
section first
variable (φ:Nat) (b n a p:Int)
theorem y0a (v w:Int) (h:0<=v) (h':v<256) (hw:0<=w) (hw':w<=64):∃ m:Nat,z7t φ v w b n a p=z0j φ φ b n a (w+m) 0 p/\m<=8/\z6y v.toNat m:=by
 obtain⟨m,e,hm,x,y⟩:=zj8 h h'
 have e8:IntKind.wrap .u8 v=v:=by simp [IntKind.wrap,IntKind.bits,IntKind.signed]; omega
 refine⟨m,?_,hm,x,fun hv=>y (by omega)⟩
 unfold z7t
 rw [e8,z6 ⟨h,h'⟩,e,W_id (x:=(m:Int)) (by omega) (by omega),W_id (x:=w+m) (by omega) (by omega)]
theorem y09 (v w:Int) (h:0<=v) (h':v<65536) (hw:0<=w) (hw':w<=48):∃ m:Nat,z7u φ v w b n a p=z0j φ φ b n a (w+m) 0 p/\m<=16/\z6y v.toNat m:=by
 unfold z7u
 by_cases c:256<=v
 ·rw [if_pos (by simpa using c),if_pos (by decide),sh8,W_id (by omega) (by omega)]
  obtain⟨m,e,hn,hl⟩:=y0a φ b n a p (v / 256) (w+8) (by omega) (by omega) (by omega) (by omega)
  refine⟨m+8,by rw [e]; congr 1; omega,by omega,?_⟩
  refine z6y.up 8 ?_ (by omega)
  rwa [show v.toNat / 2 ^ 8 =(v / 256).toNat by omega]
 ·rw [if_neg (by simpa using c)]
  obtain⟨m,e,hn,hl⟩:=y0a φ b n a p v w h (by omega) (by omega) (by omega)
  exact⟨m,e,by omega,hl⟩
theorem y4d (v w:Int) (h:0<=v) (h':v<4294967296) (hw:0<=w) (hw':w<=32):∃ m:Nat,z9c φ v w b n a p=z0j φ φ b n a (w+m) 0 p/\m<=32/\z6y v.toNat m:=by
 unfold z9c
 by_cases c:65536<=v
 ·rw [if_pos (by simpa using c),if_pos (by decide),sh16,W_id (by omega) (by omega)]
  obtain⟨m,e,hn,hl⟩:=y09 φ b n a p (v / 65536) (w+16) (by omega) (by omega) (by omega) (by omega)
  refine⟨m+16,by rw [e]; congr 1; omega,by omega,?_⟩
  refine z6y.up 16 ?_ (by omega)
  rwa [show v.toNat / 2 ^ 16 =(v / 65536).toNat by omega]
 ·rw [if_neg (by simpa using c)]
  obtain⟨m,e,hn,hl⟩:=y09 φ b n a p v w h (by omega) (by omega) (by omega)
  exact⟨m,e,by omega,hl⟩
end first
def zgg (φ:Nat) (k:Int->Int->Int->Int->Int->Int->Option (Int×Unit)) (L x57 x58 x59 x60 x61 x62 x63 x64:Int):Option (Int×Unit):=
 ck (0<=(W ((W (L-1))-x60))) (if(((U ((BitVec.ofInt 64 ((x63:Int).fdiv (2 ^ (min ((W ((W (L-1))-x60)):Int).toNat 64)))&&& BitVec.ofInt 64 1).toNat)):Int)==1)=true then(ck (x64≠0) (ck (x64≠0) ((z7a φ ((x59:Int).tmod x64) ((x57:Int).tmod x64)).bind fun y66=>((z64 φ y66.1 y66.2.1 x64).bind fun y67=>(k x57 x58 y67.2.1 x61 (W (x62+1)) x64))))) else(k x57 x58 x59 x61 (W (x62+1)) x64))
section second
variable (φ:Nat) (k:Int->Int->Int->Int->Int->Int->Option (Int×Unit)) (x57 x58 x59 x60 x61 x62 x63 x64:Int)
theorem zxk (v w:Int) (h:0<=v) (h':v<256) (hw:0<=w) (hw':w<=64):∃ m:Nat,z7w φ k v w x57 x58 x59 x60 x61 x62 x63 x64=zgg φ k (w+m) x57 x58 x59 x60 x61 x62 x63 x64/\m<=8/\z6y v.toNat m:=by
 obtain⟨m,e,hm,x,y⟩:=zj8 h h'
 have e8:IntKind.wrap .u8 v=v:=by simp [IntKind.wrap,IntKind.bits,IntKind.signed]; omega
 refine⟨m,?_,hm,x,fun hv=>y (by omega)⟩
 unfold z7w zgg
 rw [e8,z6 ⟨h,h'⟩,e,W_id (x:=(m:Int)) (by omega) (by omega),W_id (x:=w+m) (by omega) (by omega)]
theorem zzv (v w:Int) (h:0<=v) (h':v<65536) (hw:0<=w) (hw':w<=48):∃ m:Nat,z7s φ k v w x57 x58 x59 x60 x61 x62 x63 x64=zgg φ k (w+m) x57 x58 x59 x60 x61 x62 x63 x64/\m<=16/\z6y v.toNat m:=by
 unfold z7s
 by_cases c:256<=v
 ·rw [if_pos (by simpa using c),if_pos (by decide),sh8,W_id (by omega) (by omega)]
  obtain⟨m,e,hn,hl⟩:=zxk φ k x57 x58 x59 x60 x61 x62 x63 x64 (v / 256) (w+8) (by omega) (by omega) (by omega) (by omega)
  refine⟨m+8,by rw [e]; congr 1; omega,by omega,?_⟩
  refine z6y.up 8 ?_ (by omega)
  rwa [show v.toNat / 2 ^ 8 =(v / 256).toNat by omega]
 ·rw [if_neg (by simpa using c)]
  obtain⟨m,e,hn,hl⟩:=zxk φ k x57 x58 x59 x60 x61 x62 x63 x64 v w h (by omega) (by omega) (by omega)
  exact⟨m,e,by omega,hl⟩
theorem zx5 (v w:Int) (h:0<=v) (h':v<4294967296) (hw:0<=w) (hw':w<=32):∃ m:Nat,z3f φ k v w x57 x58 x59 x60 x61 x62 x63 x64=zgg φ k (w+m) x57 x58 x59 x60 x61 x62 x63 x64/\m<=32/\z6y v.toNat m:=by
 unfold z3f
 by_cases c:65536<=v
 ·rw [if_pos (by simpa using c),if_pos (by decide),sh16,W_id (by omega) (by omega)]
  obtain⟨m,e,hn,hl⟩:=zzv φ k x57 x58 x59 x60 x61 x62 x63 x64 (v / 65536) (w+16) (by omega) (by omega) (by omega) (by omega)
  refine⟨m+16,by rw [e]; congr 1; omega,by omega,?_⟩
  refine z6y.up 16 ?_ (by omega)
  rwa [show v.toNat / 2 ^ 16 =(v / 65536).toNat by omega]
 ·rw [if_neg (by simpa using c)]
  obtain⟨m,e,hn,hl⟩:=zzv φ k x57 x58 x59 x60 x61 x62 x63 x64 v w h (by omega) (by omega) (by omega)
  exact⟨m,e,by omega,hl⟩
theorem y91 (v:Int) (h:0<=v) (h':v<18446744073709551616):∃ m:Nat,(if(decide ((4294967296:Int)<=v))=true then(if 0<=(32:Int) then(z3f φ k (((v:Int).fdiv (2 ^ (min (32:Int).toNat 64)))) 32 x57 x58 x59 x60 x61 x62 x63 x64) else none) else(z3f φ k v 0 x57 x58 x59 x60 x61 x62 x63 x64)) =
  zgg φ k m x57 x58 x59 x60 x61 x62 x63 x64/\m<=64/\z6y v.toNat m:=by
 by_cases c:4294967296<=v
 ·rw [if_pos (by simpa using c),if_pos (by decide),sh32]
  obtain⟨m,e,hn,hl⟩:=zx5 φ k x57 x58 x59 x60 x61 x62 x63 x64 (v / 4294967296) 32 (by omega) (by omega) (by omega) (by omega)
  refine⟨m+32,by rw [e]; congr 1; omega,by omega,?_⟩
  refine z6y.up 32 ?_ (by omega)
  rwa [show v.toNat / 2 ^ 32 =(v / 4294967296).toNat by omega]
 ·rw [if_neg (by simpa using c)]
  obtain⟨m,e,hn,hl⟩:=zx5 φ k x57 x58 x59 x60 x61 x62 x63 x64 v 0 h (by omega) (by omega) (by omega)
  exact⟨m,by rw [e]; simp,by omega,hl⟩
end second
theorem zsu (φ:Nat) (hφ:100<φ) (b n:Nat) (hn0:0<n) (hn:n<18446744073709551616):zfe φ (b:Int) (n:Int)=some (((pw b n:Nat):Int),()):=by
 have hstart:∃ L:Nat,zfe φ (b:Int) (n:Int)=z0j φ φ b n 1 L 0 2305843009213690799/\L<=64/\z6y n L:=by
  unfold zfe
  by_cases c :(4294967296:Int)<=n
  ·rw [if_pos (by simpa using c),if_pos (by decide),sh32]
   obtain⟨m,e,hm,hl⟩:=y4d φ b n 1 2305843009213690799 ((n:Int) / 4294967296) 32 (by omega) (by omega) (by omega) (by omega)
   refine⟨m+32,by rw [e]; congr 1; omega,by omega,?_⟩
   refine z6y.up 32 ?_ (by omega)
   rwa [show n / 2 ^ 32 =((n:Int) / 4294967296).toNat by omega]
  ·rw [if_neg (by simpa using c)]
   obtain⟨m,e,hm,hl⟩:=y4d φ b n 1 2305843009213690799 (n:Int) 0 (by omega) (by omega) (by omega) (by omega)
   exact⟨m,by rw [e]; simp,by omega,by rwa [w1m] at hl⟩
 obtain⟨L,e0,hL,hlen⟩:=hstart
 rw [e0]
 obtain⟨h1,h2⟩:=hlen
 refine z0h (fun k i v=>z0j φ k (b:Int) (n:Int) v (L:Int) i 2305843009213690799) L (fun i v=>v =((pw b (n / 2 ^ (L-i)):Nat):Int)) (fun o=>o=some (((pw b n:Nat):Int),())) ?_ ?_ φ 1 ?_ (by omega)
 ·intro k i v hi hv hs
  rw [z0j,if_pos (by simp; omega),z6 (by decide),z6 (by decide)]
  subst hv
  rw [y9a (zyo _ _)]
  refine(zzr (zyo _ _) (zyo _ _) φ (by omega) (fun z=>(if(decide ((4294967296:Int)<=(n:Int)))=true then(if 0<=(32:Int) then(z3f φ (z0j φ k) ((((n:Int):Int).fdiv (2 ^ (min (32:Int).toNat 64)))) 32 b n z i L i n 2305843009213690799) else none) else(z3f φ (z0j φ k) n 0 b n z i L i n 2305843009213690799)))).trans ?_
  rw [y5b]
  obtain⟨m,em,hm,hl⟩:=y91 φ (z0j φ k) b n ((pw b (n / 2 ^ (L-i)+n / 2 ^ (L-i)):Nat):Int) i L i n 2305843009213690799 (n:Int) (by omega) (by omega)
  refine em.trans ?_
  rw [w1m] at hl
  have:=z6y.uniq hn0 hl ⟨h1,h2⟩
  subst this
  unfold zgg
  have hw1:W ((m:Int)-1) =(m:Int)-1:=W_id (by omega) (by omega)
  have hw2:W ((m:Int)-1 -(i:Int)) =((m-1-i:Nat):Int):=by rw [W_id (by omega) (by omega)]; omega
  rw [hw1,hw2,z6 (by omega)]
  have hsh:=y8t (c:=(n:Int)) (k:=((m-1-i:Nat):Int)) (by omega) (by omega) (by omega)
  have hone:U ((BitVec.ofInt 64 ((n:Int).fdiv (2 ^ (min (((m-1-i:Nat):Int)).toNat 64)))&&& BitVec.ofInt 64 1).toNat) =((n / 2 ^ (m-1-i) % 2:Nat):Int):=by
   rw [show ((n:Int).fdiv (2 ^ (min (((m-1-i:Nat):Int)).toNat 64)))=_ from hsh,w1m,w1m]
   have hd:n / 2 ^ (m-1-i)<=n:=Nat.div_le_self _ _
   rw [BitVec.toNat_and,z71 (Int.natCast_nonneg _) (by omega),z71 (by omega) (by omega),y7w (y5l (by omega)),w1m]
   show ((n / 2 ^ (m-1-i)&&& 1:Nat):Int)=_
   rw [Nat.and_one_is_mod]
  rw [hone]
  have hhalf:n / 2 ^ (m-i)=n / 2 ^ (m-1-i) / 2:=by
   rw [Nat.div_div_eq_div_mul,<- Nat.pow_succ]; congr 2; omega
  have hidx:m -(i+1)=m-1-i:=by omega
  have hW:W ((i:Int)+1) =(i:Int)+1:=W_id (by omega) (by omega)
  have hbit:=Nat.mod_two_eq_zero_or_one (n / 2 ^ (m-1-i))
  rcases hbit with hbit | hbit
  ·rw [hbit,if_neg (by simp),hW]
   refine hs _ ?_
   rw [hidx,hhalf]; congr 2; omega
  ·rw [hbit,if_pos (by simp),y9a (zyo _ _),ya0,z6 (by decide),z6 (by decide),hW]
   refine(zzr (zyo _ _) (Nat.mod_lt b (by decide:0<PP)) φ (by omega) (fun z=>z0j φ k b n z m ((i:Int)+1) 2305843009213690799)).trans ?_
   refine hs _ ?_
   rw [<- yaf b,y5b,hidx,hhalf]; congr 2; omega
 ·intro k v hv
  rw [z0j,if_neg (by simp),hv]
  rw [Nat.sub_self,Nat.pow_zero,Nat.div_one]
 ·rw [w3d,Nat.div_eq_of_lt h1,y60]; rfl
def y81 (x:Int):Bool:=decide (2<=x)&&decide (x<2305843009213690799)&&(pw x.toNat QQ==1)
theorem zs2 (a:Nat) :(((a:Nat):Int)==1) =(a==1):=by
 rw [w3a,beq_iff_eq,beq_iff_eq]; omega
theorem zog (φ:Nat) (hφ:100<φ) (x:Int):zeg φ x=some (y81 x,()):=by
 unfold zeg y81 z0q
 cases h:decide (2<=x)&&decide (x<2305843009213690799) with
 | false=>rw [if_neg (by simp),w04]; simp only [Bool.false_and]
 | true=>
  simp only [w02,decide_eq_true_eq] at h
  have:=zsu φ hφ x.toNat QQ (by decide) (by decide)
  rw [show ((x.toNat:Nat):Int)=x by omega,show ((QQ:Nat):Int)=1152921504606845399 by decide] at this
  rw [if_pos rfl,this,w04,w38,w38]
  show some ((((pw x.toNat QQ:Nat):Int)==1),())=_
  rw [zs2]
end Px
end
section
namespace Px
open Go
theorem gz_t {α:Type} {z:α} {p:Prop} [Decidable p] {x:Option α} (h:p):z0q z p x=x:=if_pos h
theorem gz_f {α:Type} {z:α} {p:Prop} [Decidable p] {x:Option α} (h:¬ p):z0q z p x=some z:=if_neg h
def zdt (p:zdv):Bool:=bet p.kind 1 5&&bet p.railway 0 15&&(bif p.kind==3 then bet p.other 0 15&&(p.other !=p.railway) else p.other==(-1))
def zdl (n:Int) (e:Edge):Bool:=bet e.a 0 (n-1)&&bet e.b 0 (n-1)&&(e.a !=e.b)&&bet e.railway 0 15&&bet e.minutes 1 100000&&bet e.km 0 10000
def z9a (x:z00):Int:=bif decide (512<x.places.length)||decide (2048<x.edges.length) then 2 else bif x.places.all zdt&&x.edges.all (zdl x.places.length) then 0 else 1
theorem zin (φ:Nat) (p:zdv):z8l φ p=some (zdt p,()):=by
 have hb :(((decide (p.kind<1)||decide (5<p.kind))||decide (p.railway<0))||decide (16<=p.railway)) = !(bet p.kind 1 5&&bet p.railway 0 15):=by
  rw [w3a]; simp [bet]; omega
 unfold z8l zdt
 rw [hb]
 cases bet p.kind 1 5&&bet p.railway 0 15 with
 | false=>rfl
 | true=>
  rw [if_neg (by simp)]
  by_cases h:p.kind=3
  ·have :(decide (0<=p.other)&&decide (p.other<16))=bet p.other 0 15:=by rw [w3a]; simp [bet]; omega
   rw [if_neg (by simp [h]),this]; simp [h]
  ·have h2 :(p.kind==3)=false:=by simpa using h
   rw [if_pos (by simp [h]),h2]; rfl
theorem zxz (n:Int) (e:Edge) :((((((decide ((min2 (min2 (min2 (e.a) (e.b)) (e.railway)) (e.km))<0)||decide (n<=(max2 (e.a) (e.b))))||(e.a==e.b))||decide (16<=e.railway))||decide (e.minutes<1))||decide (100000<e.minutes))||decide (10000<e.km)) = !zdl n e:=by
 have hm:∀ x y z:Int,z<=max2 x y↔z<=x\/z<=y:=by intro x y z; unfold max2; split <;> omega
 have hok:zdl n e=true↔((((((0<=e.a/\e.a<=n-1)/\0<=e.b/\e.b<=n-1)/\¬ e.a=e.b)/\0<=e.railway/\e.railway<=15)/\1<=e.minutes/\e.minutes<=100000)/\0<=e.km/\e.km<=10000):=by
  simp only [zdl,w02,z7b,bne_iff_ne,ne_eq]
 rw [w3a,w0u,<- w3j,hok]
 simp only [w16,decide_eq_true_eq,y89,hm,beq_iff_eq]
 omega
theorem y3l (x:z00) :(decide (512 <(x.places.length:Int))||decide (2048 <(x.edges.length:Int))) =(decide (512<x.places.length)||decide (2048<x.edges.length)):=by
 congr 1 <;>(apply decide_eq_decide.2; omega)
theorem zck (φ:Nat) (hφ:5000<φ) (x:z00):z6o φ x=some (z9a x,()):=by
 unfold z6o z9a
 rw [y3l]
 cases h:decide (512<x.places.length)||decide (2048<x.edges.length) with
 | true=>rfl
 | false=>
  simp only [w1g,decide_eq_false_iff_not,Nat.not_lt] at h
  rw [if_neg (by simp),ztf (fun n i=>z3c φ n (x.places.length:Int) x.places (x.places.length:Int) i x) (z1r φ φ (x.places.length:Int) x.edges (x.edges.length:Int) 0) (some (1,())) x.places (fun t=>!zdt t) ?_ ?_ φ (by omega)]
  ·rw [ztf (fun n i=>z1r φ n (x.places.length:Int) x.edges (x.edges.length:Int) i) (some (0,())) (some (1,())) x.edges (fun t=>!zdl x.places.length t) ?_ ?_ φ (by omega)]
   ·simp only [List.any_eq_not_all_not,Bool.not_not]
    cases x.places.all zdt <;> cases x.edges.all (zdl x.places.length) <;> rfl
   ·intro n i hi
    rw [z1r,if_pos (by simp; omega),z6 ⟨by omega,by omega⟩,zxz,W_id (by omega) (by omega)]
    cases zdl x.places.length (gt x.edges i) <;> rfl
   ·intro n; rw [z1r,if_neg (by simp)]
  ·intro n i hi
   rw [z3c,if_pos (by simp; omega),z6 ⟨by omega,by omega⟩,zin,w04,W_id (by omega) (by omega)]
   cases zdt (gt x.places i) <;> rfl
  ·intro n; rw [z3c,if_neg (by simp)]
theorem zjt {x:z00} (h:z9a x=0):x.places.length<=512/\x.edges.length<=2048/\(∀ p∈x.places,zdt p=true)/\∀ e∈x.edges,zdl x.places.length e=true:=by
 unfold z9a at h
 cases h1:decide (512<x.places.length)||decide (2048<x.edges.length) with
 | true=>rw [h1] at h; cases h
 | false=>
  rw [h1] at h
  cases h2:x.places.all zdt&&x.edges.all (zdl x.places.length) with
  | false=>rw [h2] at h; cases h
  | true=>
   simp only [w1g,decide_eq_false_iff_not,Nat.not_lt] at h1
   simp only [w02,w0b] at h2
   exact⟨h1.1,h1.2,h2⟩
def zwg:Int->List Int->Bool
 | _,[]=>true
 | p,h::t=>decide (p<h)&&decide (h<=745654)&&zwg h t
def zlw (s:Span):Bool:=decide (0<=s.from_)&&decide (s.from_<=s.to)&&decide (s.to<=1440)
def zrz (c:z7n):Bool:=((List.range 7).all fun i=>zlw (c.open_ i))&&zwg (-1) c.holidays
theorem y7a (φ:Nat) (c:z7n):∀(n i:Nat) (p:Int),-1<=p->(i:Int)<=p+1->p<=745654->i<=c.holidays.length->745656<=(n:Int)+p->z2c φ n p c.holidays (c.holidays.length:Int) i=some (bif zwg p (c.holidays.drop i) then 0 else 1,()):=by
 intro n
 induction n with
 | zero=>intro i p _ _ _ _ _; omega
 | succ n ih=>
  intro i p hp hip hp2 hi hn
  by_cases h:i=c.holidays.length
  ·rw [h,z2c,if_neg (by simp),List.drop_length]; rfl
  ·rw [z2c,if_pos (by simp; omega),z6 ⟨by omega,by omega⟩,y6x _ _ (by omega)]
   by_cases hb:gt c.holidays i<=p\/745654<gt c.holidays i
   ·have :(decide (p<gt c.holidays i)&&decide (gt c.holidays i<=745654))=false:=by simp; omega
    rw [if_pos (by simpa using hb)]
    simp [zwg,this]
   ·have h2 :(decide (p<gt c.holidays i)&&decide (gt c.holidays i<=745654))=true:=by simp; omega
    rw [if_neg (by simpa using hb),W_id (by omega) (by omega)]
    have:=ih (i+1) (gt c.holidays i) (by omega) (by omega) (by omega) (by omega) (by omega)
    rw [show ((i+1:Nat):Int) =(i:Int)+1 by omega] at this
    rw [this]
    simp [zwg,h2]
theorem zoc (s:Span) :((decide (s.from_<0)||decide (s.to<s.from_))||decide (1440<s.to)) = !zlw s:=by
 rw [w3a]; simp [zlw]
 try omega
theorem zhe (φ:Nat) (hφ:800000<φ) (c:z7n):z7r φ c=some (bif zrz c then 0 else 1,()):=by
 unfold z7r
 refine z0h (fun n i (_:Unit)=>z2u φ n c.open_ i c) 7 (fun i _=>((List.range i).all fun j=>zlw (c.open_ j))=true) (fun o=>o=some (bif zrz c then 0 else 1,())) ?_ ?_ φ () (by simp) (by omega)
 ·intro n i _ hi h hs
  rw [z2u,if_pos (by simp; omega),z6 ⟨by omega,by omega⟩,w1m,zoc,W_id (by omega) (by omega)]
  cases ho:zlw (c.open_ i) with
  | true=>
   rw [if_neg (by simp)]
   exact hs () (by rw [zem,h,ho]; rfl)
  | false=>
   have:zrz c=false:=by
    unfold zrz
    have :((List.range 7).all fun j=>zlw (c.open_ j))=false:=by
     rw [List.all_eq_false]; exact⟨i,by simp; omega,by simp [ho]⟩
    rw [this]; rfl
   rw [if_pos (by simp),this]; rfl
 ·intro n _ h
  rw [z2u,if_neg (by simp)]
  unfold zrz
  rw [h,w38]
  have:=y7a φ c φ 0 (-1) (by omega) (by omega) (by omega) (by omega) (by omega)
  simpa using this
theorem zhc {α ρ:Type} [Inhabited α] (L:Nat->Bool->Int->Option ρ) (k:Bool->Option ρ) (l:List α) (p:α->Bool)
  (step:∀(n i:Nat) (s:Bool),i<l.length->L (n+1) s i=L n (s||p (gt l i)) ((i:Int)+1)) (done:∀ n s,L (n+1) s l.length=k s) (n:Nat) (s:Bool) (hn:l.length<n):L n s 0=k (s||l.any p):=by
 refine z0h (fun n i t=>L n t i) l.length (fun i t=>t =(s||(l.take i).any p)) (fun o=>o=k (s||l.any p)) ?_ ?_ n s (by simp) hn
 ·intro n i t hi ht hs
  rw [step n i t hi]
  exact hs _ (by rw [zfg _ _ _ hi,ht,Bool.or_assoc])
 ·intro n t ht
  rw [w1r] at ht
  rw [done,ht]
def zjy (n:Int) (r:zfb):Bool:=(((!bet r.place 0 (n-1))||decide (r.low <(-1000)))||decide (r.high<r.low))||decide (1000<r.high)
def zhb (x:z00) (s:zc4):Bool:=(!bet s.place 0 ((x.places.length:Int)-1))||((gt x.places s.place).kind !=4)
def zre (r:z48):Bool:=!zrz r.calendar||!y81 r.key
def zjj (x:Pool):Bool:=
 ((((((x.railways.length:Int)==0)||x.readers.any (zjy x.network.places.length))||x.shippers.any (zhb x.network))||x.fleet.wagons.any (fun w=>decide ((x.network.places.length:Int)<=w.home)))||
 x.network.places.any (fun p=>decide ((x.railways.length:Int)<=p.railway)||decide ((x.railways.length:Int)<=p.other)))||x.network.edges.any (fun e=>decide ((x.railways.length:Int)<=e.railway))||x.railways.any zre
def zgi (x:Pool):Bool:=(decide (256 <(x.readers.length:Int))||decide (256 <(x.shippers.length:Int)))||decide (16 <(x.railways.length:Int))
def z7f (x:Pool):Int:=if z9a x.network≠0 then z9a x.network else if z1h x.fleet≠0 then z1h x.fleet else bif zgi x then 2 else bif zjj x then 1 else 0
theorem zam (φ:Nat) (hφ:800000<φ) (x:Pool):z19 φ x=some (z7f x,()):=by
 unfold z19 z7f
 rw [zck _ (by omega),w04]
 by_cases hn:z9a x.network=0
 case neg=>rw [if_pos (by simp [hn]),if_pos hn]
 rw [if_neg (by simp [hn]),if_neg (fun e:z9a x.network≠0=>e hn),zau _ (by omega),w04]
 by_cases hf:z1h x.fleet=0
 case neg=>rw [if_pos (by simp [hf]),if_pos hf]
 rw [if_neg (by simp [hf]),if_neg (fun e:z1h x.fleet≠0=>e hf)]
 cases hb:zgi x with
 | true=>
  have e :(((decide (256 <(x.readers.length:Int))||decide (256 <(x.shippers.length:Int)))||decide (16 <(x.railways.length:Int))))=zgi x:=rfl
  rw [e,hb]; rfl
 | false=>
  have hb':¬(((decide (256 <(x.readers.length:Int))||decide (256 <(x.shippers.length:Int)))||decide (16 <(x.railways.length:Int)))=true):=by
   rw [show (((decide (256 <(x.readers.length:Int))||decide (256 <(x.shippers.length:Int)))||decide (16 <(x.railways.length:Int))))=zgi x from rfl,hb]; simp
  rw [if_neg hb']
  simp only [w16,decide_eq_true_eq,not_or] at hb'
  obtain⟨n1,n2,_,_⟩:=zjt hn
  obtain⟨f1,f2,_⟩:=z4v hf
  have hp:W ((x.network.places.length:Int)-1) =(x.network.places.length:Int)-1:=W_id (by omega) (by omega)
  have a1:=zhc (fun n s i=>z1q φ n x.network.places (x.railways.length:Int) s x.readers (x.readers.length:Int) i x) (fun s=>z10 φ φ x.network.places (x.railways.length:Int) s x.shippers (x.shippers.length:Int) 0 x) x.readers (zjy x.network.places.length) (fun n i s hi=>by
   rw [z1q,if_pos (by simp; omega),z6 ⟨by omega,by omega⟩,hp,W_id (by omega) (by omega)]
   unfold zjy
   cases s with
   | true=>rw [gz_f (by simp)]; rfl
   | false=>rw [gz_t rfl]; rfl) (fun n s=>by rw [z1q,if_neg (by simp)]) φ ((x.railways.length:Int)==0) (by omega)
  refine a1.trans ?_
  have a2:=fun s0=>zhc (fun n s i=>z10 φ n x.network.places (x.railways.length:Int) s x.shippers (x.shippers.length:Int) i x) (fun s=>z0y φ φ x.network.places (x.railways.length:Int) s x.fleet.wagons (x.fleet.wagons.length:Int) 0 x) x.shippers (zhb x.network) (fun n i s hi=>by
   rw [z10,if_pos (by simp; omega),z6 ⟨by omega,by omega⟩,hp,W_id (by omega) (by omega)]
   unfold zhb
   cases s with
   | true=>rw [gz_f (by simp),w04,z6 (by simp)]; rfl
   | false=>
    rw [gz_t rfl,z1g,w04]
    cases hbt:bet (gt x.shippers i).place 0 ((x.network.places.length:Int)-1) with
    | true=>rw [z6 (fun _=>by have:=zxd hbt; omega)]; rfl
    | false=>rw [z6 (by simp)]; rfl) (fun n s=>by rw [z10,if_neg (by simp)]) φ s0 (by omega)
  refine(a2 _).trans ?_
  have a3:=fun s0=>zhc (fun n s i=>z0y φ n x.network.places (x.railways.length:Int) s x.fleet.wagons (x.fleet.wagons.length:Int) i x) (fun s=>z12 φ φ (x.railways.length:Int) s x.network.places (x.network.places.length:Int) 0 x) x.fleet.wagons (fun w=>decide ((x.network.places.length:Int)<=w.home)) (fun n i s hi=>by
   rw [z0y,if_pos (by simp; omega),z6 ⟨by omega,by omega⟩,W_id (by omega) (by omega)]) (fun n s=>by rw [z0y,if_neg (by simp)]) φ s0 (by omega)
  refine(a3 _).trans ?_
  have a4:=fun s0=>zhc (fun n s i=>z12 φ n (x.railways.length:Int) s x.network.places (x.network.places.length:Int) i x) (fun s=>z11 φ φ (x.railways.length:Int) s x.network.edges (x.network.edges.length:Int) 0 x) x.network.places (fun p=>decide ((x.railways.length:Int)<=p.railway)||decide ((x.railways.length:Int)<=p.other)) (fun n i s hi=>by
   rw [z12,if_pos (by simp; omega),z6 ⟨by omega,by omega⟩,W_id (by omega) (by omega),Bool.or_assoc]) (fun n s=>by rw [z12,if_neg (by simp)]) φ s0 (by omega)
  refine(a4 _).trans ?_
  have a5:=fun s0=>zhc (fun n s i=>z11 φ n (x.railways.length:Int) s x.network.edges (x.network.edges.length:Int) i x) (fun s=>z0z φ φ s x.railways (x.railways.length:Int) 0) x.network.edges (fun e=>decide ((x.railways.length:Int)<=e.railway)) (fun n i s hi=>by
   rw [z11,if_pos (by simp; omega),z6 ⟨by omega,by omega⟩,W_id (by omega) (by omega)]) (fun n s=>by rw [z11,if_neg (by simp)]) φ s0 (by omega)
  refine(a5 _).trans ?_
  have a6:=fun s0=>zhc (fun n s i=>z0z φ n s x.railways (x.railways.length:Int) i) (fun s=>if s=true then some (1,()) else some (0,())) x.railways zre (fun n i s hi=>by
   rw [z0z,if_pos (by simp; omega),z6 ⟨by omega,by omega⟩,W_id (by omega) (by omega)]
   unfold zre
   cases s with
   | true=>rw [gz_f (by simp),w04,gz_f (by simp)]; rfl
   | false=>
    rw [gz_t rfl,zhe _ hφ,w04]
    cases zrz (gt x.railways i).calendar with
    | false=>rw [gz_f (by simp)]; rfl
    | true=>rw [gz_t (by simp),zog _ (by omega)]; rfl) (fun n s=>by rw [z0z,if_neg (by simp)]) φ s0 (by omega)
  refine(a6 _).trans ?_
  show (if zjj x=true then some ((1:Int),()) else some (0,()))=_
  cases zjj x <;> rfl
theorem zv9 {p:Pool} (h:z7f p=0):z9a p.network=0/\z1h p.fleet=0/\p.readers.length<=256/\p.shippers.length<=256/\p.railways.length<=16/\zjj p=false:=by
 unfold z7f at h
 by_cases hn:z9a p.network=0
 case neg=>rw [if_pos hn] at h; exact absurd h hn
 rw [if_neg (fun e:z9a p.network≠0=>e hn)] at h
 by_cases hf:z1h p.fleet=0
 case neg=>rw [if_pos hf] at h; exact absurd h hf
 rw [if_neg (fun e:z1h p.fleet≠0=>e hf)] at h
 cases hb:zgi p with
 | true=>rw [hb] at h; cases h
 | false=>
  rw [hb] at h
  cases hd:zjj p with
  | true=>rw [hd] at h; cases h
  | false=>
   simp only [zgi,w1g,decide_eq_false_iff_not] at hb
   exact⟨hn,hf,by omega,by omega,by omega,rfl⟩
end Px
end
section
namespace Px
open Go
set_option maxRecDepth 100000
inductive Walk (E:List Swap) (a:Nat):List Nat->Nat->Int->Prop
 | nil:Walk E a [] a 0
 | step {vs:List Nat} {x:Int} {s:Swap} : Walk E a vs s.wanted.toNat x->s∈E->Walk E a (s.wanted.toNat::vs) s.given.toNat (x+s.cost)
def EOk (n:Nat) (E:List Swap):Prop:=∀ s∈E,0<=s.wanted/\s.wanted<n/\0<=s.given/\s.given<n/\0<=s.cost/\s.cost<=1000000000
theorem Walk.lt {E:List Swap} {a n:Nat} (hE:EOk n E) (ha:a<n) {vs:List Nat} {v:Nat} {x:Int} (h:Walk E a vs v x):v<n/\(∀ u∈vs,u<n)/\0<=x:=by
 induction h with
 | nil=>exact⟨ha,by simp,by omega⟩
 | step h hs ih=>
  have:=hE _ hs
  refine⟨by omega,?_,by omega⟩
  intro u hu
  rcases w09.1 hu with h | h
  ·omega
  ·exact ih.2.1 u h
theorem Walk.cut {E:List Swap} {a n:Nat} (hE:EOk n E) {vs:List Nat} {u:Nat} {x:Int} (h:Walk E a vs u x) (hnd :(u::vs).Nodup) :
  ∀ v∈u::vs,∃ vs' x',Walk E a vs' v x'/\x'<=x/\(v::vs').Nodup:=by
 induction h with
 | nil=>
  intro v hv
  have:v=a:=by simpa using hv
  subst this
  exact⟨[],0,.nil,by omega,by simp⟩
 | @step vs x s h hs ih=>
  intro v hv
  have hc:=hE _ hs
  rcases w09.1 hv with e | e
  ·subst e
   exact⟨_,_,.step h hs,w1p _,hnd⟩
  ·obtain⟨vs',x',h1,h2,h3⟩:=ih (w1o.1 hnd).2 v e
   exact⟨vs',x',h1,by omega,h3⟩
theorem Walk.simple {E:List Swap} {a n:Nat} (hE:EOk n E) {vs:List Nat} {v:Nat} {x:Int} (h:Walk E a vs v x):∃ vs' x',Walk E a vs' v x'/\x'<=x/\(v::vs').Nodup:=by
 induction h with
 | nil=>exact⟨[],0,.nil,by omega,by simp⟩
 | @step vs x s h hs ih=>
  obtain⟨vs',x',h1,h2,h3⟩:=ih
  have hc:=hE _ hs
  by_cases hm:s.given.toNat∈s.wanted.toNat::vs'
  ·obtain⟨vs2,x2,k1,k2,k3⟩:=h1.cut hE h3 _ hm
   exact⟨vs2,x2,k1,by omega,k3⟩
  ·exact⟨_,_,.step h1 hs,by omega,w1o.2 ⟨hm,h3⟩⟩
theorem zpt:∀(n:Nat) (l:List Nat),l.Nodup->(∀ x∈l,x<n)->l.length<=n
 | 0,l,_,h=>by
  cases l with
  | nil=>simp
  | cons x l=>have:=h x (by simp); omega
 | n+1,l,hd,h=>by
  have h1:=zpt n (l.erase n) (hd.erase n) (fun x hx=>by
   have:=(List.Nodup.mem_erase_iff hd).1 hx
   have:=h x this.2
   omega)
  have:l.length<=(l.erase n).length+1:=by
   by_cases hm:n∈l
   ·rw [List.length_erase_of_mem hm]; omega
   ·rw [List.erase_of_not_mem hm]; omega
  omega
theorem Walk.short {E:List Swap} {a n:Nat} (hE:EOk n E) (ha:a<n) {vs:List Nat} {v:Nat} {x:Int} (h:Walk E a vs v x):∃ vs' x',Walk E a vs' v x'/\x'<=x/\vs'.length+1<=n:=by
 obtain⟨vs',x',h1,h2,h3⟩:=h.simple hE
 obtain⟨g1,g2,_⟩:=h1.lt hE ha
 refine⟨vs',x',h1,h2,?_⟩
 have:=zpt n (v::vs') h3 (fun y hy=>by
  rcases w09.1 hy with e | e
  ·omega
  ·exact g2 y e)
 simpa using this
def z62 (c:Nat->Int) (s:Swap):Bool:=decide (0<=c s.wanted.toNat)&&(decide (c s.given.toNat<0)||decide (c s.wanted.toNat+s.cost<c s.given.toNat))
def relax (c:Nat->Int) (s:Swap):Nat->Int:=bif z62 c s then upd c s.given.toNat (c s.wanted.toNat+s.cost) else c
def Down (c d:Nat->Int):Prop:=∀ v,0<=c v->0<=d v/\d v<=c v
theorem Down.refl (c:Nat->Int):Down c c:=fun v h=>⟨h,w1p _⟩
theorem Down.trans {c d e:Nat->Int} (h:Down c d) (g:Down d e):Down c e:=fun v hv=>⟨(g v (h v hv).1).1,w4u (g v (h v hv).1).2 (h v hv).2⟩
theorem zl6 {α:Type} (f:Nat->α) (k:Nat) (x:α) (j:Nat):upd f k x j=if j=k then x else f j:=rfl
theorem zm8 {c:Nat->Int} {s:Swap} (hs:0<=s.cost):Down c (relax c s):=by
 intro v hv
 unfold relax
 cases hb:z62 c s with
 | false=>exact⟨hv,w1p _⟩
 | true=>
  simp only [z62,w02,w16,decide_eq_true_eq] at hb
  simp only [cond_true,zl6]
  split
  ·rename_i e; subst e; omega
  ·exact⟨hv,w1p _⟩
theorem y0k {c:Nat->Int} {s:Swap} (hs:0<=s.cost) (hw:0<=c s.wanted.toNat):0<=relax c s s.given.toNat/\relax c s s.given.toNat<=c s.wanted.toNat+s.cost:=by
 unfold relax
 cases hb:z62 c s with
 | false=>
  simp only [z62,Bool.and_eq_false_iff,w1g,decide_eq_false_iff_not] at hb
  simp only [cond_false]; omega
 | true=>simp only [cond_true,zl6,if_true]; omega
theorem zk1 {c:Nat->Int} {s:Swap} (h:z62 c s=false):relax c s=c:=by unfold relax; rw [h]; rfl
def zi3 (E:List Swap) (c:Nat->Int):Nat->Int:=E.foldl relax c
theorem zji {n:Nat} : ∀ {E:List Swap},EOk n E->∀ c,Down c (E.foldl relax c)
 | [],_,c=>Down.refl c
 | s::E,h,c=>(zm8 (h s (by simp)).2.2.2.2.1).trans (zji (fun t ht=>h t (w0a _ ht)) _)
theorem zyw {n:Nat} : ∀ {E:List Swap},EOk n E->∀ c,∀ s∈E,0<=c s.wanted.toNat->0<=E.foldl relax c s.given.toNat/\E.foldl relax c s.given.toNat<=c s.wanted.toNat+s.cost
 | [],_,c,s,hs,_=>by simp at hs
 | t::E,h,c,s,hs,hw=>by
  have ht:=(h t (by simp)).2.2.2.2.1
  have hE:EOk n E:=fun t ht=>h t (w0a _ ht)
  rcases w09.1 hs with e | e
  ·subst e
   have h1:=y0k ht hw
   have h2:=zji hE (relax c s) _ h1.1
   exact⟨h2.1,by simp only [w1z]; omega⟩
  ·have h1:=zm8 ht (c:=c) _ hw
   have h2:=zyw hE (relax c t) s e h1.1
   exact⟨h2.1,by simp only [w1z]; omega⟩
def zxi (E:List Swap) (a:Nat) (c:Nat->Int):Prop:=∀ v,0<=c v->∃ vs,Walk E a vs v (c v)
theorem zs1 {E:List Swap} {a:Nat} {c:Nat->Int} {s:Swap} (hs:s∈E) (h:zxi E a c):zxi E a (relax c s):=by
 intro v hv
 unfold relax at hv ⊢
 cases hb:z62 c s with
 | false=>rw [hb] at hv; exact h v hv
 | true=>
  rw [hb] at hv
  simp only [z62,w02,w16,decide_eq_true_eq] at hb
  simp only [cond_true,zl6] at hv ⊢
  split
  ·rename_i e
   subst e
   obtain⟨vs,hw⟩:=h _ hb.1
   exact⟨_,.step hw hs⟩
  ·rename_i e
   rw [if_neg e] at hv
   exact h v hv
theorem zm9 {E:List Swap} {a:Nat} : ∀ {F:List Swap},(∀ s∈F,s∈E)->∀ c,zxi E a c->zxi E a (F.foldl relax c)
 | [],_,c,h=>h
 | s::F,hF,c,h=>zm9 (fun t ht=>hF t (w0a _ ht)) _ (zs1 (hF s (by simp)) h)
def cRw (E:List Swap) (a:Nat):Nat->Nat->Int
 | 0=>fun j=>if j=a then 0 else -1
 | r+1=>zi3 E (cRw E a r)
theorem zq1 (E:List Swap) (a:Nat):∀ r,zxi E a (cRw E a r)
 | 0=>by
  intro v hv
  simp only [cRw] at hv ⊢
  split
  ·rename_i e; subst e; exact⟨[],.nil⟩
  ·rename_i e; rw [if_neg e] at hv; omega
 | r+1=>zm9 (fun s h=>h) _ (zq1 E a r)
theorem y2y {E:List Swap} {n:Nat} (hE:EOk n E) (a:Nat) (r:Nat):Down (cRw E a r) (cRw E a (r+1)):=zji hE _
theorem zpa {E:List Swap} {n:Nat} (hE:EOk n E) (a:Nat):∀(r:Nat) {vs:List Nat} {v:Nat} {x:Int},Walk E a vs v x->vs.length<=r->0<=cRw E a r v/\cRw E a r v<=x:=by
 intro r
 induction r with
 | zero=>
  intro vs v x h hl
  cases h with
  | nil=>simp [cRw]
  | step=>simp at hl
 | succ r ih=>
  intro vs v x h hl
  by_cases hr:vs.length<=r
  ·have h1:=ih h hr
   have h2:=y2y hE a r v h1.1
   exact⟨h2.1,by omega⟩
  ·cases h with
   | nil=>simp at hr
   | step h hs=>
    have h1:=ih h (by simpa using hl)
    have h2:=zyw hE (cRw E a r) _ hs h1.1
    exact⟨h2.1,by simp only [cRw,zi3]; omega⟩
def zb1 (E:List Swap) (n a:Nat):Nat->Int:=cRw E a n
theorem zs6 (E:List Swap) (n a:Nat) {v:Nat} (h:0<=zb1 E n a v):∃ vs,Walk E a vs v (zb1 E n a v):=zq1 E a n v h
theorem zlg {E:List Swap} {n a:Nat} (hE:EOk n E) (ha:a<n) {vs:List Nat} {v:Nat} {x:Int} (h:Walk E a vs v x):0<=zb1 E n a v/\zb1 E n a v<=x:=by
 obtain⟨vs',x',h1,h2,h3⟩:=h.short hE ha
 have:=zpa hE a n h1 (by omega)
 exact⟨this.1,w4u this.2 h2⟩
theorem zwr {E:List Swap} {n a:Nat} (hE:EOk n E) (ha:a<n) {s:Swap} (hs:s∈E) (h:0<=zb1 E n a s.wanted.toNat):0<=zb1 E n a s.given.toNat/\zb1 E n a s.given.toNat<=zb1 E n a s.wanted.toNat+s.cost:=by
 obtain⟨vs,hw⟩:=zs6 E n a h
 exact zlg hE ha (.step hw hs)
theorem zrv {E:List Swap} {n a:Nat} (hE:EOk n E) (ha:a<n):∀ s∈E,z62 (zb1 E n a) s=false:=by
 intro s hs
 cases hb:z62 (zb1 E n a) s with
 | false=>rfl
 | true=>
  simp only [z62,w02,w16,decide_eq_true_eq] at hb
  have:=zwr hE ha hs hb.1
  omega
theorem zea:∀ {E:List Swap} {c:Nat->Int},(∀ s∈E,z62 c s=false)->E.foldl relax c=c
 | [],c,_=>rfl
 | s::E,c,h=>by
  rw [w1z,zk1 (h s (by simp))]
  exact zea fun t ht=>h t (w0a _ ht)
theorem zpw {E:List Swap} {a r:Nat} (h:∀ s∈E,z62 (cRw E a r) s=false):∀ k,cRw E a (r+k)=cRw E a r
 | 0=>rfl
 | k+1=>by
  show zi3 E (cRw E a (r+k))=_
  rw [zpw h k]
  exact zea h
def BdC (B:Int) (c:Nat->Int):Prop:=∀ v,-1<=c v/\c v<=B
theorem y3f {n:Nat} {E:List Swap} (hE:EOk n E) {s:Swap} (hs:s∈E) {B:Int} {c:Nat->Int} (h:BdC B c):BdC (B+1000000000) (relax c s):=by
 intro v
 have h1:=h v; have h2:=h s.wanted.toNat; have h3:=hE s hs
 unfold relax
 cases hb:z62 c s with
 | false=>simp only [cond_false]; omega
 | true=>
  simp only [z62,w02,w16,decide_eq_true_eq] at hb
  simp only [cond_true,zl6]
  split <;> omega
theorem zsk {n:Nat} {E:List Swap} (hE:EOk n E):∀ {F:List Swap},(∀ s∈F,s∈E)->∀ {B:Int} {c:Nat->Int},BdC B c->BdC (B+1000000000*F.length) (F.foldl relax c)
 | [],_,B,c,h=>by simpa using h
 | s::F,hF,B,c,h=>by
  have:=zsk hE (F:=F) (fun t ht=>hF t (w0a _ ht)) (y3f hE (hF s (by simp)) h)
  rw [w1z]
  intro v
  have:=this v
  simp only [w0z]
  omega
theorem zuc {n:Nat} {E:List Swap} (hE:EOk n E) (hl:E.length<=1024) (a:Nat):∀ r:Nat,BdC (1024000000000*r) (cRw E a r)
 | 0=>by intro v; simp only [cRw]; split <;> omega
 | r+1=>by
  have:=zsk hE (F:=E) (fun s h=>h) (zuc hE hl a r)
  intro v
  have:=this v
  simp only [cRw,zi3]
  omega
end Px
end
section
namespace Px
open Go
set_option maxRecDepth 100000
def zgq (a:Int) (T:Nat) (c:Nat->Int):List Swap:=(List.range T).filterMap fun i=>if 0<=c i then some ⟨a,i,c i⟩ else none
theorem zmf (a:Int) (i:Nat) (c:Nat->Int):zgq a (i+1) c=if 0<=c i then zgq a i c++[⟨a,i,c i⟩] else zgq a i c:=by
 unfold zgq
 rw [w1j,List.filterMap_append]
 by_cases h:0<=c i
 ·simp [h]
 ·simp [h]
theorem zpy (a:Int) (T:Nat) (c:Nat->Int) :(zgq a T c).length<=T:=by
 have:=List.length_filterMap_le (fun i=>if 0<=c i then some (⟨a,i,c i⟩:Swap) else none) (List.range T)
 simpa [zgq] using this
theorem y9m {n:Nat} (h:n<=100000):fits n 24:=by unfold fits; omega
def z9k (x:z4a) (a:Int):List Swap×Int×Unit:=
 if z1h x≠0 then([],z1h x,()) else if ¬(0<=a/\a<x.types.length) then([],90,()) else
 (zgq a x.types.length (zb1 x.swaps x.types.length a.toNat),0,())
theorem y4w {x:z4a} (h:z1h x=0):EOk x.types.length x.swaps:=by
 intro s hs
 obtain⟨a1,a2,a3,a4,b1,b2,b3,b4⟩:=z4v h
 have:=b3 s hs
 simp only [zkj,w02,z7b] at this
 omega
def zcs (p:Bool×(Nat->Int)) (s:Swap):Bool×(Nat->Int):=(p.1||z62 p.2 s,relax p.2 s)
theorem zl7:∀(E:List Swap) (p:Bool×(Nat->Int)),(E.foldl zcs p).2=E.foldl relax p.2
 | [],p=>rfl
 | s::E,p=>by rw [w1z,w1z,zl7 E]; rfl
theorem zja:∀(E:List Swap) (p:Bool×(Nat->Int)),(E.foldl zcs p).1=false->p.1=false/\∀ s∈E,z62 p.2 s=false
 | [],p,h=>⟨h,by simp⟩
 | s::E,p,h=>by
  rw [w1z] at h
  obtain⟨h1,h2⟩:=zja E _ h
  simp only [zcs,w1g] at h1
  rw [show (zcs p s).2=p.2 from zk1 h1.2] at h2
  refine⟨h1.1,fun t ht=>?_⟩
  rcases w09.1 ht with e | e
  ·rw [e]; exact h1.2
  ·exact h2 t e
theorem zky:∀(E:List Swap) (p:Bool×(Nat->Int)),(∀ s∈E,z62 p.2 s=false)->(E.foldl zcs p).1=p.1
 | [],p,h=>rfl
 | s::E,p,h=>by
  rw [w1z]
  have h1:=h s (by simp)
  have e:zcs p s=p:=by
   obtain⟨b,c⟩:=p
   simp only [zcs]
   rw [zk1 h1,h1,Bool.or_false]
  rw [e]; exact zky E p fun t ht=>h t (w0a _ ht)
theorem zii {α β:Type} [Inhabited α] (f:β->α->β) (b:β) (l:List α) (i:Nat) (h:i<l.length) :(l.take (i+1)).foldl f b=f ((l.take i).foldl f b) (gt l (i:Int)):=by
 rw [z2o l i h,w4m]; rfl
theorem zkl (φ:Nat) (x:z4a) (a0:Int) (hE:EOk x.types.length x.swaps) (hT:x.types.length<=32) (hl:x.swaps.length<=1024) (k:Int->Bool->z4a->(Nat->Int)->Option (List Swap×Int×Unit)) (r:Option (List Swap×Int×Unit)) {B:Int} (hB0:0<=B) (hB:B<=1000000000000000) (c:Nat->Int) (hc:BdC B c) (d:Nat->Int) (hd:∀ j<32,d j=c j)
  (hk:∀ d',(∀ j<32,d' j=zi3 x.swaps c j)->k a0 (x.swaps.foldl zcs (false,c)).1 x d'=r) (n:Nat) (hn:x.swaps.length<n):z27 φ k n a0 false x.swaps (x.swaps.length:Int) 0 x d=r:=by
 refine z0h (fun n i (t:Bool×(Nat->Int))=>z27 φ k n a0 t.1 x.swaps (x.swaps.length:Int) i x t.2) x.swaps.length
  (fun i t=>t.1 =((x.swaps.take i).foldl zcs (false,c)).1/\∀ j<32,t.2 j =((x.swaps.take i).foldl zcs (false,c)).2 j) (fun o=>o=r) ?_ ?_ n (false,d) ⟨by simp,by simpa using hd⟩ hn
 ·intro n i t hi ⟨h1,h2⟩ hs
  have hW:W ((i:Int)+1) =(i:Int)+1:=W_id (by omega) (by omega)
  have hm:=zbc (l:=x.swaps) (i:=(i:Int)) (by omega) (by omega)
  have he:=hE _ hm
  have hbd:BdC (B+1000000000 *(x.swaps.take i).length) ((x.swaps.take i).foldl zcs (false,c)).2:=by
   rw [zl7]; exact zsk hE (fun s hs=>List.mem_of_mem_take hs) hc
  have hlen :(x.swaps.take i).length<=1024:=by rw [w1q]; omega
  rw [z27,if_pos (by simp; omega),z6 ⟨by omega,by omega⟩,z6 ⟨by omega,by omega⟩,z6 ⟨by omega,by omega⟩,z6 (fun _=>⟨by omega,by omega⟩),z6 (fun _=>⟨by omega,by omega⟩)]
  have hstep:=zii zcs (false,c) x.swaps i hi
  generalize hp :(x.swaps.take i).foldl zcs (false,c)=p at *
  have ew:=h2 (gt x.swaps i).wanted.toNat (by omega)
  have eg:=h2 (gt x.swaps i).given.toNat (by omega)
  have bw:=hbd (gt x.swaps i).wanted.toNat
  rw [ew,eg,W_id (x:=p.2 (gt x.swaps i).wanted.toNat +(gt x.swaps i).cost) (by omega) (by omega)]
  have hbe :(decide (0<=p.2 (gt x.swaps i).wanted.toNat)&&(decide (p.2 (gt x.swaps i).given.toNat<0)||decide (p.2 (gt x.swaps i).wanted.toNat +(gt x.swaps i).cost<p.2 (gt x.swaps i).given.toNat)))=z62 p.2 (gt x.swaps i):=rfl
  rw [hbe]
  cases hb:z62 p.2 (gt x.swaps i) with
  | true=>
   rw [if_pos rfl,z6 ⟨by omega,by omega⟩,hW]
   refine hs (true,upd t.2 (gt x.swaps i).given.toNat (p.2 (gt x.swaps i).wanted.toNat +(gt x.swaps i).cost)) ⟨by rw [hstep]; simp [zcs,hb],fun j hj=>?_⟩
   rw [hstep]
   simp only [zcs,relax,hb,cond_true,zl6]
   split
   ·rfl
   ·exact h2 j hj
  | false=>
   rw [if_neg (by simp),hW]
   refine hs (t.1,t.2) ⟨by rw [hstep]; simp [zcs,hb,h1],fun j hj=>?_⟩
   rw [hstep]
   simp only [zcs,relax,hb,cond_false]
   exact h2 j hj
 ·intro n t ⟨h1,h2⟩
  rw [w1r] at h1 h2
  rw [z27,if_neg (by simp),h1]
  refine hk _ fun j hj=>?_
  rw [h2 j hj,zl7]; rfl
theorem zp0 (φ:Nat) (x:z4a) (hT:x.types.length<=32) (hφ:5000<φ) (a:Int) (c d:Nat->Int) (hd:∀ j<32,d j=c j):z22 φ φ a (x.types.length:Int) 0 d []=some (zgq a x.types.length c,0,()):=by
 refine z0h (fun n i t=>z22 φ n a (x.types.length:Int) i d t) x.types.length (fun i t=>t=zgq a i c) (fun o=>o=some (zgq a x.types.length c,0,())) ?_ ?_ φ _ rfl (by omega)
 ·intro n i t hi ht hs
  have hW:W ((i:Int)+1) =(i:Int)+1:=W_id (by omega) (by omega)
  have hlen:=zpy a i c
  rw [z22,if_pos (by simp; omega),z6 ⟨by omega,by omega⟩,w1m,hd i (by omega)]
  by_cases h:0<=c i
  ·rw [if_pos (by simpa using h),z6 ⟨by omega,by omega⟩,z6 (y9m (by rw [ht]; simp; omega)),hW]
   exact hs _ (by rw [zmf,if_pos h,ht])
  ·rw [if_neg (by simpa using h),hW]
   exact hs _ (by rw [zmf,if_neg h,ht])
 ·intro n t ht
  rw [z22,if_neg (by simp),ht]
theorem zvs (φ:Nat) (x:z4a) (hE:EOk x.types.length x.swaps) (hT:x.types.length<=32) (hl:x.swaps.length<=1024) (a:Nat) (ha:a<x.types.length) (hφ:5000<φ) :
  ∀(m n i:Nat),x.types.length-i=m->i<=x.types.length->m+2<=n->∀ d,(∀ j<32,d j=cRw x.swaps a i j)->z29 φ n (a:Int) true x d=some (zgq (a:Int) x.types.length (zb1 x.swaps x.types.length a),0,()):=by
 intro m
 induction m with
 | zero=>
  intro n i hm hi hn d hd
  obtain⟨n,rfl⟩:∃ n',n=n'+2:=⟨n-2,by omega⟩
  have hi:i=x.types.length:=by omega
  subst hi
  rw [z29,if_pos rfl]
  have hst:=zrv hE ha
  have hb:=zuc hE hl a x.types.length
  refine zkl φ x a hE hT hl _ _ (by omega) (by omega) _ hb d hd (fun d' hd'=>?_) φ (by omega)
  rw [zky _ _ hst,z29,if_neg (by simp)]
  refine zp0 φ x hT hφ a _ d' fun j hj=>?_
  rw [hd' j hj]
  show zi3 x.swaps (zb1 x.swaps x.types.length a) j=_
  unfold zi3
  rw [zea hst]
 | succ m ih=>
  intro n i hm hi hn d hd
  obtain⟨n,rfl⟩:∃ n',n=n'+2:=⟨n-2,by omega⟩
  rw [z29,if_pos rfl]
  have hb:=zuc hE hl a i
  refine zkl φ x a hE hT hl _ _ (by omega) (by omega) _ hb d hd (fun d' hd'=>?_) φ (by omega)
  cases hch :(x.swaps.foldl zcs (false,cRw x.swaps a i)).1 with
  | true=>exact ih (n+1) (i+1) (by omega) (by omega) (by omega) d' hd'
  | false=>
   rw [z29,if_neg (by simp)]
   refine zp0 φ x hT hφ a _ d' fun j hj=>?_
   have hst:=(zja _ _ hch).2
   have h1:=zpw hst (x.types.length-i)
   rw [show i +(x.types.length-i)=x.types.length by omega] at h1
   rw [hd' j hj]
   unfold zi3 zb1
   rw [zea hst,h1]
theorem zlq (φ:Nat) (hφ:5000<φ) (x:z4a) (a:Int):zc6 φ x a=some (z9k x a):=by
 unfold zc6 z9k
 rw [zau φ hφ,w04]
 by_cases h:z1h x=0
 ·obtain⟨a1,a2,a3,a4,b1,b2,b3,b4⟩:=z4v h
  rw [if_neg (by simp [h]),if_neg (fun e:z1h x≠0=>e h),W_id (by omega) (by omega),z1g,w04]
  by_cases hi:0<=a/\a<x.types.length
  ·rw [if_neg (by simp [bet]; omega),if_neg (fun e:¬(0<=a/\a <(x.types.length:Int))=>e hi)]
   refine z0h (fun n i t=>z4g φ n a i x t) 32 (fun i t=>∀ j<i,t j=-1) (fun o=>o=some (zgq a x.types.length (zb1 x.swaps x.types.length a.toNat),0,())) ?_ ?_ φ _ (by intro j hj; omega) (by omega)
   ·intro n i t hi2 ht hs
    rw [z4g,if_pos (by simp; omega),z6 ⟨by omega,by omega⟩,W_id (by omega) (by omega)]
    refine hs _ fun j hj=>?_
    rw [zl6]
    split
    ·rfl
    ·rename_i e; rw [w1m] at e; exact ht j (by omega)
   ·intro n t ht
    rw [z4g,if_neg (by simp),z6 ⟨by omega,by omega⟩]
    have ea:a =((a.toNat:Nat):Int):=by omega
    have hl:=zvs φ x (y4w h) a1 a3 a.toNat (by omega) hφ x.types.length φ 0 (by omega) (by omega) (by omega) (upd t a.toNat 0) (fun j hj=>by
     rw [zl6]
     simp only [cRw]
     split
     ·rfl
     ·exact ht j hj)
    rw [<- ea] at hl
    exact hl
  ·rw [if_pos (by simp [bet]; omega),if_pos (show ¬(0<=a/\a <(x.types.length:Int)) from hi)]
 ·rw [if_pos (by simp [h]),if_pos (show z1h x≠0 from h)]
def zh3 (x:z4a) (a b:Int):Int×Int×Unit:=
 if z1h x≠0 then(0,z1h x,()) else if ¬((0<=a/\a<=63)/\0<=b/\b<=63) then(0,1,()) else
 match x.washes.find? (fun w=>(w.from_==a)&&(w.to==b)) with | some w=>(w.minutes,0,()) | none=>(0,0,())
theorem zll (φ:Nat) (hφ:5000<φ) (x:z4a) (a b:Int):z97 φ x a b=some (zh3 x a b):=by
 unfold z97 zh3
 rw [zau φ hφ,w04]
 by_cases h:z1h x=0
 ·obtain⟨a1,a2,a3,a4,b1,b2,b3,b4⟩:=z4v h
  rw [if_neg (by simp [h]),if_neg (fun e:z1h x≠0=>e h)]
  simp only [z1g,w04]
  by_cases ha:0<=a/\a<=63
  ·rw [z7b.2 ha,gz_t (by simp),w04]
   by_cases hb:0<=b/\b<=63
   ·rw [z7b.2 hb,if_neg (by simp),if_neg (fun e=>e ⟨ha,hb⟩)]
    have key:∀(m n i:Nat),x.washes.length-i=m->i<=x.washes.length->m<n->(∀ j:Nat,j<i->((gt x.washes (j:Int)).from_==a&&(gt x.washes (j:Int)).to==b)=false)->
      z3t φ n x.washes (x.washes.length:Int) (i:Int) a b x=some (match (x.washes.drop i).find? (fun w=>(w.from_==a)&&(w.to==b)) with | some w=>(w.minutes,0,()) | none=>(0,0,())):=by
     intro m
     induction m with
     | zero=>
      intro n i hm hi hn hj
      obtain⟨n,rfl⟩:∃ n',n=n'+1:=⟨n-1,by omega⟩
      rw [z3t,if_neg (by simp; omega),w3b (by omega)]; rfl
     | succ m ih=>
      intro n i hm hi hn hj
      obtain⟨n,rfl⟩:∃ n',n=n'+1:=⟨n-1,by omega⟩
      have hi':i<x.washes.length:=by omega
      have e:x.washes.drop i=gt x.washes (i:Int)::x.washes.drop (i+1):=by
       rw [z6g hi']; exact List.drop_eq_getElem_cons hi'
      rw [z3t,if_pos (by simp; omega),z6 ⟨by omega,by omega⟩,e,w43]
      show (some _).bind _=_
      rw [w04]
      cases hc :((gt x.washes (i:Int)).from_==a&&(gt x.washes (i:Int)).to==b) with
      | true=>rw [if_pos rfl,if_neg (by simp),z6 ⟨by omega,by omega⟩]
      | false=>
       rw [if_neg (by simp),W_id (by omega) (by omega),show (i:Int)+1 =((i+1:Nat):Int) by omega]
       exact ih n (i+1) (by omega) (by omega) (by omega) fun j hj'=>by
        by_cases e:j=i
        ·rw [e]; exact hc
        ·exact hj j (by omega)
    have:=key x.washes.length φ 0 (by omega) (by omega) (by omega) (fun j hj=>by omega)
    rw [w48] at this
    exact this
   ·have e:bet b 0 63=false:=by rw [<- w3j,z7b]; exact hb
    rw [e,if_pos (by simp),if_pos (fun h=>hb h.2)]
  ·have e:bet a 0 63=false:=by rw [<- w3j,z7b]; exact ha
   rw [e,gz_f (by simp),w04,if_pos (by simp),if_pos (fun h=>ha h.1)]
 ·rw [if_pos (by simp [h]),if_pos (show z1h x≠0 from h)]
theorem zug (x:z4a) (a b:Int):0<=(zh3 x a b).1/\(zh3 x a b).1<=100000:=by
 unfold zh3
 split
 ·simp
 ·rename_i h
  split
  ·simp
  ·cases hf:x.washes.find? (fun w=>(w.from_==a)&&(w.to==b)) with
   | none=>simp
   | some w=>
    have hm:=List.mem_of_find?_eq_some hf
    obtain⟨a1,a2,a3,a4,b1,b2,b3,b4⟩:=z4v (w3u.1 h)
    obtain⟨j,hj,e⟩:=w2s hm
    simp only [z8j,w0b,w13] at b4
    have:=b4 j hj
    simp only [z5y,zu7,w02,z7b] at this
    rw [z6g hj,e] at this
    exact⟨this.1.2.1,this.1.2.2⟩
theorem ztl (x:z4a) (a:Int):∀ s∈(z9k x a).1,0<=s.cost/\s.cost<=100000000000000:=by
 unfold z9k
 split
 ·simp
 ·rename_i h
  split
  ·simp
  ·intro s hs
   simp only [zgq,w4a,w13] at hs
   obtain⟨i,hi,e⟩:=hs
   obtain⟨a1,a2,a3,a4,b1,b2,b3,b4⟩:=z4v (w3u.1 h)
   have hb:=zuc (y4w (w3u.1 h)) a3 a.toNat x.types.length i
   split at e
   ·rename_i h0
    cases e
    unfold zb1 at h0 ⊢
    exact⟨h0,by simp only; omega⟩
   ·cases e
end Px
end
section
namespace Px
open Go
def zh5 (φ:Nat):Prop:=∀(x:z00) (a b:Int),∃ t e,z23 φ x a b=some (t,e,())/\0<=t/\t<=51200000
def betF (φ:Nat) (x:z00) (a b:Int):Int×Int:=match z23 φ x a b with | some (t,e,_)=>(t,e) | none=>(0,0)
theorem zh5.eq {φ:Nat} (h:zh5 φ) (x:z00) (a b:Int):z23 φ x a b=some ((betF φ x a b).1,(betF φ x a b).2,())/\0<=(betF φ x a b).1/\(betF φ x a b).1<=51200000:=by
 obtain⟨t,e,h1,h2,h3⟩:=h x a b
 unfold betF
 rw [h1]
 exact⟨rfl,h2,h3⟩
def bitF (p:Pool) (s:zb) (o:zk):Bool:=(U ((BitVec.ofInt 64 (((gt p.fleet.types s.type_).classes:Int).fdiv (2 ^ (min (o.class_:Int).toNat 64)))&&& BitVec.ofInt 64 1).toNat):Int)==0
def minF (φ:Nat) (p:Pool) (s:zb) (o:zk):Int:=(betF φ p.network s.place o.place).1+if 0<=s.class_ then(zh3 p.fleet s.class_ o.class_).1 else 0
def zez (φ:Nat) (p:Pool) (s:zb) (o:zk):Int×Bool:=
 bif ((betF φ p.network s.place o.place).2 !=0)||bitF p s o then(0,false) else
 match (z9k p.fleet o.type_).1.find? (fun g=>g.given==s.type_) with
 | none=>(0,false)
 | some g=>bif decide (o.to<s.at_+minF φ p s o)||decide (1000000000<minF φ p s o+g.cost) then(0,false) else(minF φ p s o+g.cost,true)
theorem y06 {φ:Nat} (h:zh5 φ) (p:Pool) (s:zb) (o:zk) :(betF φ p.network s.place o.place).1<=minF φ p s o/\0<=minF φ p s o/\minF φ p s o<=60000000:=by
 obtain⟨_,h1,h2⟩:=h.eq p.network s.place o.place
 have h3:=zug p.fleet s.class_ o.class_
 unfold minF
 split <;> omega
theorem zvo {φ:Nat} (p:Pool) (s:zb) (o:zk) (m:Int) (l:List Swap) (hl:l.length<=1000) (hm:0<=m/\m<=60000000) (ha:0<=s.at_/\s.at_<=1073741824) (hb:∀ g∈l,0<=g.cost/\g.cost<=100000000000000) :
  ∀(d n i:Nat),l.length-i=d->i<=l.length->d<n->z2w φ n l (l.length:Int) (i:Int) m l s o=some (match (l.drop i).find? (fun g=>g.given==s.type_) with
   | none=>(0,false,())
   | some g=>bif decide (o.to<s.at_+m)||decide (1000000000<m+g.cost) then(0,false,()) else(m+g.cost,true,())):=by
 have hW2:W (s.at_+m)=s.at_+m:=W_id (by omega) (by omega)
 intro d
 induction d with
 | zero=>
  intro n i hm hi hn
  obtain⟨n,rfl⟩:∃ n',n=n'+1:=⟨n-1,by omega⟩
  rw [z2w,if_neg (by simp; omega),w3b (by omega),z6 (by simp),if_pos (by simp)]; rfl
 | succ d ih=>
  intro n i hm hi hn
  obtain⟨n,rfl⟩:∃ n',n=n'+1:=⟨n-1,by omega⟩
  have hi':i<l.length:=by omega
  have e:l.drop i=gt l (i:Int)::l.drop (i+1):=by
   rw [z6g hi']; exact List.drop_eq_getElem_cons hi'
  have hg:=hb (gt l (i:Int)) (zbc (by omega) (by omega))
  rw [z2w,if_pos (by simp; omega),z6 ⟨by omega,by omega⟩,e,w43]
  show (some _).bind _=_
  rw [w04]
  simp only
  cases hc :((gt l (i:Int)).given==s.type_) with
  | true=>
   have hW3:W (m +(gt l (i:Int)).cost)=m +(gt l (i:Int)).cost:=W_id (by omega) (by omega)
   rw [if_pos rfl,z6 (fun _=>⟨by omega,by omega⟩),hW2,hW3,z6 ⟨by omega,by omega⟩]
   simp only
   have e0:decide ((i:Int)<0)=false:=by simp
   rw [e0,w26]
   cases (decide (o.to<s.at_+m)||decide (1000000000<m +(gt l (i:Int)).cost)) <;> rfl
  | false=>
   rw [if_neg (by simp),W_id (by omega) (by omega),show (i:Int)+1 =((i+1:Nat):Int) by omega]
   exact ih n (i+1) (by omega) (by omega) (by omega)
theorem zqx (x:z4a) (a:Int) :(z9k x a).1.length<=1000:=by
 unfold z9k
 split
 ·simp
 ·rename_i h
  obtain⟨a1,_⟩:=z4v (w3u.1 h)
  split
  ·simp
  ·have:=zpy a x.types.length (zb1 x.swaps x.types.length a.toNat)
   simp only; omega
theorem ztr {φ:Nat} (hφ:5000<φ) (hB:zh5 φ) (p:Pool) (s:zb) (o:zk) (ht:0<=s.type_/\s.type_ <(p.fleet.types.length:Int)) (ho:0<=o.class_) (ha:0<=s.at_/\s.at_<=1073741824) :
  z18 φ p s o=some ((zez φ p s o).1,(zez φ p s o).2,()):=by
 obtain⟨h1,h2,h3⟩:=hB.eq p.network s.place o.place
 have hm:=y06 hB p s o
 have hcl:=zug p.fleet s.class_ o.class_
 have j9:z1f φ (minF φ p s o) p s o=some (match (z9k p.fleet o.type_).1.find? (fun g=>g.given==s.type_) with
   | none=>(0,false,())
   | some g=>bif decide (o.to<s.at_+minF φ p s o)||decide (1000000000<minF φ p s o+g.cost) then(0,false,()) else(minF φ p s o+g.cost,true,())):=by
  unfold z1f
  rw [zlq φ hφ,w04]
  have:=zvo (φ:=φ) p s o (minF φ p s o) (z9k p.fleet o.type_).1 (zqx _ _) ⟨hm.2.1,hm.2.2⟩ ha (ztl _ _) _ φ 0 rfl (by omega) (by have:=zqx p.fleet o.type_; omega)
  rw [w48] at this
  exact this
 unfold z18 zez
 rw [h1,w04,z6 (fun _=>ht),z6 (fun _=>ho)]
 simp only
 show (if(((betF φ p.network s.place o.place).2 !=0)||bitF p s o)=true then _ else _)=_
 cases hc :(((betF φ p.network s.place o.place).2 !=0)||bitF p s o) with
 | true=>rfl
 | false=>
  rw [if_neg (by simp),cond_false]
  have hj :(if(decide ((0:Int)<=s.class_))=true then((z97 φ p.fleet s.class_ o.class_).bind fun y20=>(z1f φ (W ((betF φ p.network s.place o.place).1+y20.1)) p s o)) else(z1f φ (betF φ p.network s.place o.place).1 p s o))=z1f φ (minF φ p s o) p s o:=by
   unfold minF
   by_cases hs:0<=s.class_
   ·rw [if_pos (by simpa using hs),zll φ hφ,w04,if_pos hs,W_id (by omega) (by omega)]
   ·rw [if_neg (by simpa using hs),if_neg hs,Int.add_zero]
  rw [hj,j9]
  cases (z9k p.fleet o.type_).1.find? (fun g=>g.given==s.type_) with
  | none=>rfl
  | some g=>
   simp only
   cases (decide (o.to<s.at_+minF φ p s o)||decide (1000000000<minF φ p s o+g.cost)) <;> rfl
theorem zyr {φ:Nat} (hB:zh5 φ) {p:Pool} {s:zb} {o:zk} (h :(zez φ p s o).2=true):0<=(zez φ p s o).1/\(zez φ p s o).1<=1000000000/\(betF φ p.network s.place o.place).2=0/\(betF φ p.network s.place o.place).1<=(zez φ p s o).1:=by
 have hm:=y06 hB p s o
 unfold zez at h ⊢
 cases hc :(((betF φ p.network s.place o.place).2 !=0)||bitF p s o) with
 | true=>rw [hc] at h; cases h
 | false=>
  rw [hc] at h
  simp only [cond_false] at h ⊢
  cases hf :(z9k p.fleet o.type_).1.find? (fun g=>g.given==s.type_) with
  | none=>rw [hf] at h; cases h
  | some g=>
   rw [hf] at h
   simp only at h ⊢
   have hg:=ztl _ _ g (List.mem_of_find?_eq_some hf)
   cases hd :(decide (o.to<s.at_+minF φ p s o)||decide (1000000000<minF φ p s o+g.cost)) with
   | true=>rw [hd] at h; cases h
   | false=>
    simp only [w1g,decide_eq_false_iff_not,bne_eq_false_iff_eq] at hd hc
    simp only [cond_false]
    exact⟨by omega,by omega,hc.1,by omega⟩
theorem zj0 {p:Pool} (hp:p.fleet.types.length<=32/\p.network.places.length<=512) {s:zb} (h:okSu p s=true) :(0<=s.type_/\s.type_ <(p.fleet.types.length:Int))/\(0<=s.at_/\s.at_<=1073741824)/\1<=s.count/\s.count<=4096:=by
 unfold okSu at h
 rw [W_id (x:=(p.fleet.types.length:Int)-1) (by omega) (by omega),W_id (x:=(p.network.places.length:Int)-1) (by omega) (by omega)] at h
 simp only [w02,z7b] at h
 obtain⟨⟨⟨⟨a,b⟩,c⟩,d⟩,e⟩:=h
 exact⟨⟨a.1,by omega⟩,d,e.1,e.2⟩
theorem zf9 {p:Pool} (hp:p.fleet.types.length<=32/\p.network.places.length<=512) {o:zk} (h:okOr p o=true):0<=o.class_/\(1<=o.count/\o.count<=1000)/\0<=o.weight/\o.weight<=1000000000:=by
 unfold okOr at h
 simp only [w02,z7b] at h
 obtain⟨⟨⟨⟨⟨⟨a,b⟩,c⟩,d⟩,e⟩,f⟩,g⟩:=h
 exact⟨b.1,f,g⟩
theorem ze7 {p:Pool} (h:z7f p=0):p.fleet.types.length<=32/\p.network.places.length<=512:=by
 obtain⟨h1,h2,_⟩:=zv9 h
 exact⟨(z4v h2).1,(zjt h1).1⟩
theorem y7k {φ:Nat} (hφ:800000<φ) (hB:zh5 φ) {p:Pool} (hp:z7f p=0) {s:zb} {o:zk} (hs:okSu p s=true) (ho:okOr p o=true):z7x φ p s o=some ((zez φ p s o).1,(zez φ p s o).2,0,()):=by
 obtain⟨a,b,c⟩:=zj0 (ze7 hp) hs
 obtain⟨d,_⟩:=zf9 (ze7 hp) ho
 unfold z7x
 rw [zam φ hφ,w04,if_neg (by simp [hp]),zbe,w04,hs,gz_t (by simp),zcm,w04,ho,if_neg (by simp),ztr (by omega) hB p s o a d b,w04]
end Px
end
section
namespace Px
open Go
def cF (φ:Nat) (p:Pool) (s:List zb) (o:List zk) (i k:Nat):Int:=(zez φ p (gt s (i:Int)) (gt o (k:Int))).1
def bF (φ:Nat) (p:Pool) (s:List zb) (o:List zk) (i k:Nat):Bool:=(zez φ p (gt s (i:Int)) (gt o (k:Int))).2
def netF (φ:Nat) (p:Pool) (s:List zb) (o:List zk):zj:=netN s o (cF φ p s o) (bF φ p s o)
def zrh (p:Pool) (s:List zb) (o:List zk):Bool:=s.all (okSu p)&&o.all (okOr p)
theorem zpr (s:List zb) (o:List zk) (c:Nat->Nat->Int) (b:Nat->Nat->Bool) (hs:s.length<=6) (ho:o.length<=6) :(z5z s o c b).length<=49:=by
 unfold z5z zmt
 have:=zfm (s:=s) (o:=o) (c:=c) (b:=b) ho s.length
 simp only [w0f,w17,List.length_range,w0z,w2o]
 omega
theorem zw8 {φ:Nat} (hφ:800000<φ) (hB:zh5 φ) {p:Pool} (hp:z7f p=0) {s:List zb} {o:List zk} (hs:s.length<=6) (ho:o.length<=6) (hsv:s.all (okSu p)=true) (m:Nat) (hm:o.length<m) (hS:0<=sumS s s.length/\sumS s s.length<=100000) :
  z17 φ m s o (sumS s s.length) 0 o (o.length:Int) 0 p (s.map (·.count)) []=some (bif o.all (okOr p) then(netF φ p s o,0,()) else(⟨[],[]⟩,1,())):=by
 have hpl:=ze7 hp
 have:=zfi (fun m i (st:Int×List Int)=>z17 φ m s o (sumS s s.length) st.1 o (o.length:Int) i p st.2 []) (fun st=>some (netF φ p s o,0,())) (some (⟨[],[]⟩,1,())) o (okOr p)
  (fun st y=>(st.1+y.count,st.2++[- y.count])) (fun i st=>(i=o.length->o.all (okOr p)=true)/\st.1=sumC o i/\0<=st.1/\st.1<=1000 *(i:Int)/\st.2=s.map (·.count)++(o.take i).map (fun y=>- y.count)/\∀ j:Nat,j<i->okOr p (gt o (j:Int))=true) ?_ ?_ m (0,s.map (·.count)) ⟨fun h=>by
   have:o = []:=w1b h.symm
   rw [this]; rfl,rfl,by simp,by simp,by simp,fun j hj=>by omega⟩ hm
 ·rw [this.1]
  cases o.all (okOr p) <;> rfl
 ·rintro m i ⟨c,l⟩ hi ⟨_,h1,h2,h3,h4,h5⟩
  simp only at h1 h2 h3 h4 h5
  have hW:W ((i:Int)+1) =(i:Int)+1:=W_id (by omega) (by omega)
  have hlen:l.length<=12:=by rw [h4]; simp only [w0f,w17,w1q]; omega
  show z17 φ (m+1) s o (sumS s s.length) c o (o.length:Int) (i:Int) p l []=_/\_
  rw [z17,if_pos (by simp; omega),z6 ⟨by omega,by omega⟩,zcm,w04,hW]
  cases hok:okOr p (gt o (i:Int)) with
  | false=>exact⟨by simp,fun h=>by cases h⟩
  | true=>
   obtain⟨b1,b2,b3⟩:=zf9 hpl hok
   have hW2:W (0 -(gt o (i:Int)).count)=-(gt o (i:Int)).count:=by rw [Int.zero_sub]; exact W_id (by omega) (by omega)
   have hW3:W (c +(gt o (i:Int)).count)=c +(gt o (i:Int)).count:=W_id (by omega) (by omega)
   have hall:∀ j:Nat,j<i+1->okOr p (gt o (j:Int))=true:=fun j hj=>by
    by_cases e:j=i
    ·rw [e]; exact hok
    ·exact h5 j (by omega)
   rw [if_neg (by simp),z6 (by simp [fits]; omega),hW2,hW3]
   refine⟨rfl,fun _=>⟨fun h=>?_,by rw [h1]; rfl,by omega,by push_cast; omega,?_,hall⟩⟩
   ·rw [w0b]
    intro x hx
    obtain⟨j,hj,e⟩:=w2s hx
    rw [<- e,<- z6g hj]
    exact hall j (by omega)
   ·rw [h4,z2o o i hi,w28,<- w0p]; rfl
 ·rintro m ⟨c,l⟩ ⟨h0,h1,h2,h3,h4,h5⟩
  simp only at h1 h2 h3 h4 h5
  rw [w1r] at h4
  have hlen:l.length<=12:=by rw [h4]; simp only [w0f,w17]; omega
  have hW2:W (0-sumS s s.length)=- sumS s s.length:=by rw [Int.zero_sub]; exact W_id (by omega) (by omega)
  have hW3:W ((s.length:Int) +(o.length:Int))=nodU s o:=W_id (by omega) (by omega)
  show z17 φ (m+1) s o (sumS s s.length) c o (o.length:Int) (o.length:Int) p l []=_
  rw [z17,if_neg (by simp),z6 (by simp [fits]; omega),if_neg (by simp only [w0f,w0z,w2o,decide_eq_true_eq]; omega),hW2,hW3]
  have hu:0<=nodU s o/\nodU s o<=1000:=by unfold nodU; omega
  have hcnt:∀ k:Nat,k<o.length->0<=(gt o (k:Int)).count/\(gt o (k:Int)).count<=1000000:=fun k hk=>by
   obtain⟨b1,b2,b3⟩:=zf9 hpl (h5 k hk)
   omega
  have hlp :((List.range s.length).flatMap (arcR s o (cF φ p s o) (bF φ p s o))).length<=500:=by
   have:=zfm (s:=s) (o:=o) (c:=cF φ p s o) (b:=bF φ p s o) ho s.length
   omega
  rw [zzp φ (nodU s o) 0 p s o _ (cF φ p s o) (bF φ p s o) (fun i k hi hk=>?_) hs ho (by omega) φ (by omega),zvx φ (nodU s o) s o _ _ hs ho hcnt hlp hu (by omega) φ (by omega)]
  ·unfold z0w
   have hal:=zpr s o (cF φ p s o) (bF φ p s o) hs ho
   have e :(List.range s.length).flatMap (arcR s o (cF φ p s o) (bF φ p s o))++(List.range o.length).map (arcO (nodU s o) (s.length:Int) o)++(List.range s.length).map (arcS (nodU s o) s)++[⟨nodU s o,nodU s o+1,sumC o o.length,0⟩]=z5z s o (cF φ p s o) (bF φ p s o):=rfl
   rw [e,if_neg (by simp only [decide_eq_true_eq]; omega),h1,h4]
   rfl
  ·obtain⟨a1,a2,a3⟩:=zj0 hpl (w0b.1 hsv _ (zbc (i:=(i:Int)) (by omega) (by omega)))
   obtain⟨b1,b2,b3⟩:=zf9 hpl (h5 k hk)
   exact ztr (by omega) hB p _ _ a1 b1 a2
theorem y5i {φ:Nat} (hφ:800000<φ) (hB:zh5 φ) (p:Pool) {s:List zb} {o:List zk} (hs:s.length<=6) (ho:o.length<=6) :
  z7h φ p s o=some (if z7f p≠0 then(⟨[],[]⟩,z7f p,()) else bif zrh p s o then(netF φ p s o,0,()) else(⟨[],[]⟩,1,())):=by
 unfold z7h
 rw [zam φ hφ,w04]
 by_cases hp:z7f p=0
 case neg=>rw [if_pos (by simpa using hp),if_pos hp]
 rw [if_neg (by simpa using hp),if_neg (fun h=>h hp)]
 have hpl:=ze7 hp
 have:=zfi (fun m i (st:Int×List Int)=>z21 φ m s o st.1 0 s (s.length:Int) i p st.2 []) (fun st=>some (bif o.all (okOr p) then(netF φ p s o,0,()) else(⟨[],[]⟩,1,()))) (some (⟨[],[]⟩,1,())) s (okSu p)
  (fun st y=>(st.1+y.count,st.2++[y.count])) (fun i st=>(i=s.length->s.all (okSu p)=true)/\st.1=sumS s i/\0<=st.1/\st.1<=4096 *(i:Int)/\st.2 =(s.take i).map (·.count)/\∀ j:Nat,j<i->okSu p (gt s (j:Int))=true) ?_ ?_ φ (0,[]) ⟨fun h=>by
   have:s = []:=w1b h.symm
   rw [this]; rfl,rfl,by simp,by simp,by simp,fun j hj=>by omega⟩ (by omega)
 ·rw [this.1]
  unfold zrh
  cases s.all (okSu p) <;> rfl
 ·rintro m i ⟨c,l⟩ hi ⟨_,h1,h2,h3,h4,h5⟩
  simp only at h1 h2 h3 h4 h5
  have hW:W ((i:Int)+1) =(i:Int)+1:=W_id (by omega) (by omega)
  have hlen:l.length<=12:=by rw [h4]; simp only [w17,w1q]; omega
  show z21 φ (m+1) s o c 0 s (s.length:Int) (i:Int) p l []=_/\_
  rw [z21,if_pos (by simp; omega),z6 ⟨by omega,by omega⟩,zbe,w04,hW]
  cases hok:okSu p (gt s (i:Int)) with
  | false=>exact⟨by simp,fun h=>by cases h⟩
  | true=>
   obtain⟨b1,b2,b3⟩:=zj0 hpl hok
   have hW3:W (c +(gt s (i:Int)).count)=c +(gt s (i:Int)).count:=W_id (by omega) (by omega)
   have hall:∀ j:Nat,j<i+1->okSu p (gt s (j:Int))=true:=fun j hj=>by
    by_cases e:j=i
    ·rw [e]; exact hok
    ·exact h5 j (by omega)
   rw [if_neg (by simp),z6 (by simp [fits]; omega),hW3]
   refine⟨rfl,fun _=>⟨fun h=>?_,by rw [h1]; rfl,by omega,by push_cast; omega,?_,hall⟩⟩
   ·rw [w0b]
    intro x hx
    obtain⟨j,hj,e⟩:=w2s hx
    rw [<- e,<- z6g hj]
    exact hall j (by omega)
   ·rw [h4,z2o s i hi,w28]; rfl
 ·rintro m ⟨c,l⟩ ⟨h0,h1,h2,h3,h4,h5⟩
  simp only at h1 h2 h3 h4 h5
  rw [w1r] at h4
  show z21 φ (m+1) s o c 0 s (s.length:Int) (s.length:Int) p l []=_
  rw [z21,if_neg (by simp),h1,h4]
  exact zw8 hφ hB hp hs ho (h0 rfl) φ (by omega) ⟨by omega,by omega⟩
structure Val (φ:Nat) (p:Pool) (s:List zb) (o:List zk):Prop where
 hφ:800000<φ
 hB:zh5 φ
 hp:z7f p=0
 hs:s.length<=6
 ho:o.length<=6
 su:∀ i:Nat,i<s.length->okSu p (gt s (i:Int))=true
 or:∀ k:Nat,k<o.length->okOr p (gt o (k:Int))=true
theorem Val.sc {φ:Nat} {p:Pool} {s:List zb} {o:List zk} (h:Val φ p s o) {i:Nat} (hi:i<s.length):1<=(gt s (i:Int)).count/\(gt s (i:Int)).count<=4096:=(zj0 (ze7 h.hp) (h.su i hi)).2.2
theorem Val.oc {φ:Nat} {p:Pool} {s:List zb} {o:List zk} (h:Val φ p s o) {k:Nat} (hk:k<o.length) :(1<=(gt o (k:Int)).count/\(gt o (k:Int)).count<=1000)/\0<=(gt o (k:Int)).weight/\(gt o (k:Int)).weight<=1000000000:=(zf9 (ze7 h.hp) (h.or k hk)).2
theorem yai {φ:Nat} (hφ:800000<φ) (hB:zh5 φ) {p:Pool} {s:List zb} {o:List zk} (hp:z7f p=0) (hs:s.length<=6) (ho:o.length<=6) (h:zrh p s o=true):Val φ p s o:=by
 unfold zrh at h
 rw [w02] at h
 exact⟨hφ,hB,hp,hs,ho,fun i hi=>w0b.1 h.1 _ (zbc (by omega) (by omega)),fun k hk=>w0b.1 h.2 _ (zbc (by omega) (by omega))⟩
theorem Val.all {φ:Nat} {p:Pool} {s:List zb} {o:List zk} (h:Val φ p s o):zrh p s o=true:=by
 unfold zrh
 rw [w02,w0b,w0b]
 refine⟨fun x hx=>?_,fun x hx=>?_⟩
 ·obtain⟨j,hj,e⟩:=w2s hx
  rw [<- e,<- z6g hj]; exact h.su j hj
 ·obtain⟨j,hj,e⟩:=w2s hx
  rw [<- e,<- z6g hj]; exact h.or j hj
theorem Val.net {φ:Nat} {p:Pool} {s:List zb} {o:List zk} (h:Val φ p s o):z7h φ p s o=some (netF φ p s o,0,()):=by
 rw [y5i h.hφ h.hB p h.hs h.ho,if_neg (fun e=>e h.hp),h.all]; rfl
theorem zme (f:Nat->Int) (a:Nat):∀ b:Nat,sumN (a+b) f=sumN a f+sumN b (fun k=>f (a+k))
 | 0=>by simp [sumN]
 | b+1=>by
  show sumN (a+b) f+f (a+b)=_
  rw [zme f a b]; simp only [sumN]; omega
theorem zu9 (f:Nat->Int):∀ n:Nat,sumN n (fun i=>- f i)=- sumN n f
 | 0=>rfl
 | n+1=>by simp only [sumN,zu9 f n]; omega
theorem Val.sumS_bd {φ:Nat} {p:Pool} {s:List zb} {o:List zk} (h:Val φ p s o):0<=sumS s s.length/\sumS s s.length<=24576:=by
 rw [zod]
 have:=ztp (m:=s.length) (f:=fun i=>(gt s (i:Int)).count) (B:=4096) fun i hi=>by have:=h.sc hi; exact⟨by omega,this.2⟩
 have:=h.hs
 omega
theorem Val.sumC_bd {φ:Nat} {p:Pool} {s:List zb} {o:List zk} (h:Val φ p s o):0<=sumC o o.length/\sumC o o.length<=6000:=by
 rw [zka]
 have:=ztp (m:=o.length) (f:=fun i=>(gt o (i:Int)).count) (B:=1000) fun i hi=>by have:=h.oc hi; exact⟨by omega,this.1.2⟩
 have:=h.ho
 omega
theorem zy5 {α:Type} [Inhabited α] {l:List α} {P:α->Bool} (h:∀ i:Nat,i<l.length->P (gt l (i:Int))=true):l.all P=true:=by
 rw [w0b]
 intro x hx
 obtain⟨j,hj,e⟩:=w2s hx
 rw [<- e,<- z6g hj]; exact h j hj
theorem Val.chk {φ:Nat} {p:Pool} {s:List zb} {o:List zk} (h:Val φ p s o):zsm (netF φ p s o)=0:=by
 have hs:=h.hs
 have ho:=h.ho
 have hS:=h.sumS_bd
 have hC:=h.sumC_bd
 have hal:=zpr s o (cF φ p s o) (bF φ p s o) hs ho
 have hsl :(supN s o).length<=14:=by rw [zac]; omega
 have e0 :(netF φ p s o).supply=supN s o:=rfl
 have e1 :(netF φ p s o).arcs=z5z s o (cF φ p s o) (bF φ p s o):=rfl
 have h1 :(supN s o).all zpp=true:=by
  refine zy5 fun v hv=>?_
  rw [zac] at hv
  show zpp (atN (supN s o) v)=true
  unfold zpp
  rw [z7b]
  by_cases g1:v<s.length
  ·rw [ztd g1]; have:=h.sc g1; omega
  ·by_cases g2:v<s.length+o.length
   ·obtain⟨k,rfl⟩:∃ k,v=s.length+k:=⟨v-s.length,by omega⟩
    rw [zud (by omega)]; have:=h.oc (k:=k) (by omega); omega
   ·by_cases g3:v=s.length+o.length
    ·rw [g3,zta]; omega
    ·rw [show v=s.length+o.length+1 by omega,zu1]; omega
 have h2 :(z5z s o (cF φ p s o) (bF φ p s o)).all (zlk (supN s o).length)=true:=by
  rw [w0b]
  intro a ha
  rw [zqu,zac]
  rcases zq8 ha with⟨i,k,hi,hk,hb,e⟩ |⟨k,hk,e⟩ |⟨i,hi,e⟩ | e
  ·have h1:=h.sc hi
   have h2:=h.oc hk
   have h3:=zyr h.hB hb
   rw [e]
   show (0<=(i:Int)/\(i:Int)<_)/\(0<=(s.length:Int) +(k:Int)/\(s.length:Int) +(k:Int)<_)/\(i:Int)≠(s.length:Int) +(k:Int)/\(0<=min2 (gt s (i:Int)).count (gt o (k:Int)).count/\min2 (gt s (i:Int)).count (gt o (k:Int)).count<=1000000000)/\(0<=cF φ p s o i k/\cF φ p s o i k<=1000000000)
   have h4:0<=min2 (gt s (i:Int)).count (gt o (k:Int)).count/\min2 (gt s (i:Int)).count (gt o (k:Int)).count<=1000000000:=by unfold min2; split <;> omega
   exact⟨by omega,by omega,by omega,h4,h3.1,h3.2.1⟩
  ·have h2:=h.oc hk
   rw [e]
   show (0<=nodU s o/\nodU s o<_)/\(0<=(s.length:Int) +(k:Int)/\(s.length:Int) +(k:Int)<_)/\nodU s o≠(s.length:Int) +(k:Int)/\(0<=(gt o (k:Int)).count/\(gt o (k:Int)).count<=1000000000)/\(0<=(gt o (k:Int)).weight/\(gt o (k:Int)).weight<=1000000000)
   unfold nodU; omega
  ·have h1:=h.sc hi
   rw [e]
   show (0<=(i:Int)/\(i:Int)<_)/\(0<=nodU s o+1/\nodU s o+1<_)/\(i:Int)≠nodU s o+1/\(0<=(gt s (i:Int)).count/\(gt s (i:Int)).count<=1000000000)/\(0<=(0:Int)/\(0:Int)<=1000000000)
   unfold nodU; omega
  ·rw [e]
   show (0<=nodU s o/\nodU s o<_)/\(0<=nodU s o+1/\nodU s o+1<_)/\nodU s o≠nodU s o+1/\(0<=sumC o o.length/\sumC o o.length<=1000000000)/\(0<=(0:Int)/\(0:Int)<=1000000000)
   unfold nodU; omega
 have h3:sumL (supN s o)=0:=by
  rw [zx0,zac,show s.length+o.length+2=s.length+o.length+1+1 by rfl]
  simp only [sumN]
  rw [zme,zta,zu1]
  rw [zt (n:=s.length) (g:=fun i=>(gt s (i:Int)).count) fun i hi=>ztd hi,zt (n:=o.length) (g:=fun k=>-(gt o (k:Int)).count) fun k hk=>zud hk,zu9,<- zod,<- zka]
  omega
 unfold zsm
 rw [e0,e1,h1,h2,h3]
 rw [show (decide (256 <(supN s o).length)||decide (2048 <(z5z s o (cF φ p s o) (bF φ p s o)).length))=false by simp; omega]
 rfl
theorem Val.poss0 {φ:Nat} {p:Pool} {s:List zb} {o:List zk} (h:Val φ p s o):Poss s o (bF φ p s o) (fun _ _=>0) where
 pos:=fun _ _ _ _=>w1p _
 no:=fun _ _ _ _ _=>rfl
 row:=fun i hi=>by rw [z4d]; have:=h.sc hi; omega
 col:=fun k hk=>by rw [z4d]; have:=h.oc hk; omega
end Px
end
section
namespace Px
open Go
section
variable {φ:Nat} {p:Pool} {s:List zb} {o:List zk}
end
theorem zvt (φ:Nat) (hφ:1000<φ) (p:Pool):∃ b,z6r φ p=some (b,()):=by
 unfold z6r
 split
 ·exact⟨false,rfl⟩
 ·rename_i hc
  simp only [w16,decide_eq_true_eq,not_or] at hc
  obtain⟨⟨⟨⟨⟨⟨c1,c2⟩,c3⟩,c4⟩,c5⟩,c6⟩,c7⟩:=hc
  refine z0h (fun n i (_:Unit)=>z2f φ n i p) p.railways.length (fun _ _=>True) (fun o=>∃ b,o=some (b,())) ?_ ?_ φ () trivial (by omega)
  ·intro n i _ hi _ hs
   rw [z2f,if_pos (by simp; omega),z6 ⟨by omega,by omega⟩,W_id (by omega) (by omega)]
   split
   ·exact⟨false,rfl⟩
   ·exact hs () trivial
  ·intro n _ _
   rw [z2f,if_neg (by simp)]
   exact⟨true,rfl⟩
theorem y36 (φ:Nat) (hφ:1000<φ) (p:Pool) (s:List zb) (o:List zk):∃ b,zgb φ p s o=some (b,())/\(b=true->s.length<=6/\o.length<=6):=by
 unfold zgb
 obtain⟨b,hb⟩:=zvt φ hφ p
 rw [hb,w04]
 refine⟨_,rfl,fun h=>?_⟩
 simp only [w02,decide_eq_true_eq] at h
 omega
theorem y9p:zbl 100000000=some (true,()):=by kernel_rfl
theorem zwe {φ:Nat} (hφ:800000<φ) (hB:zh5 φ) (p:Pool) {s:List zb} {o:List zk} (hs:s.length<=6) (ho:o.length<=6):Val φ p s o\/∃ e,e≠0/\z7h φ p s o=some (⟨[],[]⟩,e,()):=by
 have h:=y5i hφ hB p hs ho
 by_cases hp:z7f p=0
 ·rw [if_neg (fun e=>e hp)] at h
  cases ha:zrh p s o with
  | true=>exact .inl (yai hφ hB hp hs ho ha)
  | false=>rw [ha] at h; exact .inr ⟨1,by omega,h⟩
 ·rw [if_pos hp] at h
  exact .inr ⟨_,hp,h⟩
end Px
end
section
namespace Px
open Go
section
variable {φ:Nat} {p:Pool} {s:List zb} {o:List zk}
theorem Val.mu (h:Val φ p s o):muL (netF φ p s o).supply.length (netF φ p s o).supply<=1000000:=by
 have hs:=h.hs
 have ho:=h.ho
 have hS:=h.sumS_bd
 have hC:=h.sumC_bd
 have h1:∀ v:Nat,v <(supN s o).length->max (atN (supN s o) v) 0<=24576:=fun v hv=>by
  rw [zac] at hv
  by_cases g1:v<s.length
  ·rw [ztd g1]; have:=h.sc g1; omega
  ·by_cases g2:v<s.length+o.length
   ·obtain⟨k,rfl⟩:∃ k,v=s.length+k:=⟨v-s.length,by omega⟩
    rw [zud (by omega)]; have:=h.oc (k:=k) (by omega); omega
   ·by_cases g3:v=s.length+o.length
    ·rw [g3,zta]; omega
    ·rw [show v=s.length+o.length+1 by omega,zu1]; omega
 have h2:=zjb h1
 have h3:=zac s o
 show (sumN (supN s o).length fun v=>max (atN (supN s o) v) 0)<=1000000
 omega
end
end Px
end
section
namespace Px
open Go
def preN (s:List zb) (o:List zk) (c:Nat->Nat->Int) (b:Nat->Nat->Bool) (i k:Nat):List Arc:=(List.range i).flatMap (arcR s o c b)++(List.range k).flatMap (arcP s o c b i)
theorem zzl (s:List zb) (o:List zk) (c:Nat->Nat->Int) (b:Nat->Nat->Bool) (i k:Nat):preN s o c b i (k+1)=preN s o c b i k++arcP s o c b i k:=by
 unfold preN; rw [w1j (n:=k),w1i,<- w0p]; simp
theorem y2z (s:List zb) (o:List zk) (c:Nat->Nat->Int) (b:Nat->Nat->Bool) (i:Nat):preN s o c b i o.length=preN s o c b (i+1) 0:=by
 unfold preN; rw [w1j (n:=i),w1i]; simp [arcR]
theorem zfc {α:Type} (f:Nat->List α) {i n:Nat} (h:i<n):∃ B,(List.range n).flatMap f =(List.range i).flatMap f++(f i++B):=by
 refine⟨(List.range' (i+1) (n-i-1)).flatMap f,?_⟩
 have h1:List.range n=List.range i++List.range' i (n-i):=by
  have:=List.range'_append_1 (s:=0) (m:=i) (n:=n-i)
  rw [w11,show i +(n-i)=n by omega,<- w31,<- w31] at this
  exact this.symm
 rw [h1,w1i,show n-i =(n-i-1)+1 by omega,w3z,w0m]
 simp
theorem y61 {s:List zb} {o:List zk} {c:Nat->Nat->Int} {b:Nat->Nat->Bool} {i k:Nat} (hi:i<s.length) (hk:k<o.length) (hb:b i k=true) :(preN s o c b i k).length <(z5z s o c b).length/\gt (z5z s o c b) ((preN s o c b i k).length:Int)=arcQ s o c i k:=by
 obtain⟨B1,e1⟩:=zfc (arcR s o c b) hi
 obtain⟨B2,e2⟩:=zfc (arcP s o c b i) hk
 have e3:arcP s o c b i k = [arcQ s o c i k]:=by unfold arcP; rw [hb]; rfl
 obtain⟨T,hT⟩:∃ T,z5z s o c b=preN s o c b i k++arcQ s o c i k::T:=by
  refine⟨B2++B1++(List.range o.length).map (arcO (nodU s o) (s.length:Int) o)++(List.range s.length).map (arcS (nodU s o) s)++[⟨nodU s o,nodU s o+1,sumC o o.length,0⟩],?_⟩
  unfold z5z zmt
  rw [e1]
  have:arcR s o c b i =(List.range k).flatMap (arcP s o c b i)++(arcQ s o c i k::B2):=by
   unfold arcR; rw [e2,e3]; rfl
  rw [this]
  unfold preN
  simp [w0p]
 rw [hT]
 refine⟨by simp,?_⟩
 rw [zar _ _ _ (by omega),Int.sub_self]; rfl
theorem zub {s:List zb} {o:List zk} {c:Nat->Nat->Int} {b:Nat->Nat->Bool} (hs:s.length<=6) (ho:o.length<=6) {i k:Nat} (hi:i<=s.length) (hk:k<=o.length) :(preN s o c b i k).length<=60:=by
 unfold preN
 have h1:=zfm (s:=s) (o:=o) (c:=c) (b:=b) ho i
 have h2:=ziu (s:=s) (o:=o) (c:=c) (b:=b) i k
 rw [w0f]; omega
theorem zpz {φ:Nat} (hφ:60000000<φ) (hB:zh5 φ) (hsane:zbl φ=some (true,())) (p:Pool) (s:List zb) (o:List zk):z2i φ p s o=some (true,()):=by
 unfold z2i
 obtain⟨b,h1,h2⟩:=y36 φ (by omega) p s o
 rw [hsane,w04,if_neg (by simp),h1,w04]
 by_cases hc :(!b)=true
 ·rw [if_pos hc]
 ·rw [if_neg hc]
  obtain⟨hs,ho⟩:=h2 (by simpa using hc)
  rcases zwe (by omega) hB p hs ho with hv |⟨e,he,hn⟩
  ·have hmu:=hv.mu
   obtain⟨f,q1,q2⟩:=y3c (φ:=φ) hv.chk (by omega) (by omega) hv.poss0.feas
   have hlen :(netF φ p s o).supply.length=s.length+o.length+2:=zac s o
   rw [hv.net,w04,if_neg (by simp),q1,w04,zf7 φ _ (by omega),hv.chk,w04]
   rw [if_neg (by
    rw [hlen,W_id (x:=(s.length:Int) +(o.length:Int)) (by omega) (by omega),W_id (x:=(s.length:Int) +(o.length:Int)+2) (by omega) (by omega)]
    simp)]
   -- the arcs,one after the other
   refine z0h (fun m i (at_:Int)=>z02 φ m s o at_ i p (netF φ p s o)) s.length (fun i at_=>at_ =((preN s o (cF φ p s o) (bF φ p s o) i 0).length:Int)) (fun r=>r=some (true,())) ?_ ?_ φ 0 rfl (by omega)
   ·intro m i at_ hi hI hg
    show z02 φ (m+1) s o at_ (i:Int) p (netF φ p s o)=_
    rw [z02,if_pos (by simp; omega)]
    refine z0h (fun m k (at_:Int)=>zw φ _ m s o at_ (i:Int) k p (netF φ p s o)) o.length (fun k at_=>at_ =((preN s o (cF φ p s o) (bF φ p s o) i k).length:Int)) (fun r=>r=some (true,())) ?_ ?_ φ at_ hI (by omega)
    ·intro m k at_ hk hI hg
     have hW:W ((k:Int)+1) =(k:Int)+1:=W_id (by omega) (by omega)
     have hpre:=zub (s:=s) (o:=o) (c:=cF φ p s o) (b:=bF φ p s o) hs ho (i:=i) (k:=k) (by omega) (by omega)
     show zw φ _ (m+1) s o at_ (i:Int) (k:Int) p (netF φ p s o)=_
     rw [zw,if_pos (by simp; omega),z6 ⟨by omega,by omega⟩,z6 ⟨by omega,by omega⟩,y7k hv.hφ hv.hB hv.hp (hv.su i hi) (hv.or k hk),w04,if_neg (by simp),hW]
     have hsucc:=zzl s o (cF φ p s o) (bF φ p s o) i k
     cases hb :(zez φ p (gt s (i:Int)) (gt o (k:Int))).2 with
     | false=>
      rw [if_pos (by simp)]
      refine hg _ ?_
      have:arcP s o (cF φ p s o) (bF φ p s o) i k = []:=by unfold arcP bF; rw [hb]; rfl
      rw [hsucc,this,w0d]; exact hI
     | true=>
      obtain⟨g1,g2⟩:=y61 (s:=s) (o:=o) (c:=cF φ p s o) (b:=bF φ p s o) hi hk hb
      rw [<- hI] at g2
      have g2:gt (netF φ p s o).arcs at_=arcQ s o (cF φ p s o) i k:=g2
      have g1 :(preN s o (cF φ p s o) (bF φ p s o) i k).length <(netF φ p s o).arcs.length:=g1
      obtain⟨t1,t2,t3,t4⟩:=zyr hv.hB hb
      obtain⟨u1,u2,u3⟩:=hv.hB.eq p.network (gt s (i:Int)).place (gt o (k:Int)).place
      rw [if_neg (by simp),z6 ⟨by omega,by omega⟩,z6 ⟨by omega,by omega⟩,u1,w04,z6 (fun _=>⟨by omega,by omega⟩),z6 (fun _=>⟨by omega,by omega⟩),z6 (fun _=>⟨by omega,by omega⟩),g2]
      have f1 :(arcQ s o (cF φ p s o) i k).from_ =(i:Int):=rfl
      have f2 :(arcQ s o (cF φ p s o) i k).to =(s.length:Int) +(k:Int):=rfl
      have f3 :(arcQ s o (cF φ p s o) i k).cap=min2 (gt s (i:Int)).count (gt o (k:Int)).count:=rfl
      have f4 :(arcQ s o (cF φ p s o) i k).cost =(zez φ p (gt s (i:Int)) (gt o (k:Int))).1:=rfl
      rw [f1,f2,f3,f4,W_id (x:=(s.length:Int) +(k:Int)) (by omega) (by omega),t3]
      have d1:decide ((zez φ p (gt s (i:Int)) (gt o (k:Int))).1 <(betF φ p.network (gt s (i:Int)).place (gt o (k:Int)).place).1)=false:=by simp; omega
      have d2:decide (((netF φ p s o).arcs.length:Int)<=at_)=false:=by simp; omega
      simp only []
      rw [d1,d2,if_neg (by simp),W_id (x:=at_+1) (by omega) (by omega)]
      refine hg _ ?_
      have:arcP s o (cF φ p s o) (bF φ p s o) i k = [arcQ s o (cF φ p s o) i k]:=by unfold arcP bF; rw [hb]; rfl
      rw [hsucc,this,hI]; simp
    ·intro m at_ hI
     show zw φ _ (m+1) s o at_ (i:Int) (o.length:Int) p (netF φ p s o)=_
     rw [zw,if_neg (by simp),W_id (x:=(i:Int)+1) (by omega) (by omega)]
     exact hg at_ (by rw [hI,y2z])
   ·intro m at_ hI
    have hpre:=zub (s:=s) (o:=o) (c:=cF φ p s o) (b:=bF φ p s o) hs ho (i:=s.length) (k:=0) (by omega) (by omega)
    show z02 φ (m+1) s o at_ (s.length:Int) p (netF φ p s o)=_
    rw [z02,if_neg (by simp),W_id (x:=at_ +(o.length:Int)) (by omega) (by omega),W_id (x:=at_ +(o.length:Int) +(s.length:Int)) (by omega) (by omega),W_id (x:=at_ +(o.length:Int) +(s.length:Int)+1) (by omega) (by omega)]
    have hl :(netF φ p s o).arcs.length =(preN s o (cF φ p s o) (bF φ p s o) s.length 0).length+o.length+s.length+1:=by
     show (z5z s o (cF φ p s o) (bF φ p s o)).length=_
     unfold z5z zmt preN
     simp only [w0f,w17,List.length_range,w0z,w2o,List.range_zero,w4v]
     omega
    rw [hl,hI]
    simp
  ·rw [hn,w04,if_pos (by simpa using he)]
   simp
end Px
end
section
namespace Px
open Go
theorem y4p {n b:Nat} (h:n<=100000) (hb:b<=1000):fits n b:=by
 unfold fits
 have:n*b<=100000*1000:=Nat.mul_le_mul h hb
 omega
abbrev Ln:=List ((Nat->Int)×Int)
abbrev keyP (a b:Int):Nat->Int:=upd (upd (fun _=>(default:Int)) 0 a) 1 b
abbrev lget (m:Ln) (a b:Int):Option Int:=cget z4m m (keyP a b)
abbrev lset (m:Ln) (a b i:Int):Ln:=cset z4m m (keyP a b) i
theorem kl32 (f:Nat->Int):z4m f = [f 0,f 1]:=rfl
theorem y80 (a b c d:Int) :(z4m (keyP c d)==z4m (keyP a b)) =(c==a&&d==b):=by
 rw [kl32,kl32]
 show ([c,d]==[a,b])=_
 simp
theorem zfw {κ ν:Type} (e:κ->List Int) (k k':κ) (v:ν):∀ m:List (κ×ν),cget e (cset e m k v) k'=bif e k'==e k then some v else cget e m k'
 | []=>rfl
 |(a,b)::m=>by
  unfold cset
  cases h1 :(e k==e a) with
  | true=>
   have h1:=beq_iff_eq.1 h1
   rw [cond_true]
   show (bif e k'==e k then some v else cget e m k')=bif e k'==e k then some v else(bif e k'==e a then some b else cget e m k')
   rw [h1]
   cases (e k'==e a) <;> rfl
  | false=>
   rw [cond_false]
   cases h2:ltI (e k) (e a) with
   | true=>rfl
   | false=>
    rw [cond_false]
    show (bif e k'==e a then some b else cget e (cset e m k v) k')=bif e k'==e k then some v else(bif e k'==e a then some b else cget e m k')
    rw [zfw e k k' v m]
    cases h3 :(e k'==e a) with
    | false=>rfl
    | true=>
     have h3:=beq_iff_eq.1 h3
     rw [h3]
     have :(e a==e k)=false:=by
      rw [<- w3j,beq_iff_eq]
      intro g; rw [g] at h1; simp at h1
     rw [this]; rfl
theorem zla (m:Ln) (a b i c d:Int):lget (lset m a b i) c d=if c=a/\d=b then some i else lget m c d:=by
 show cget z4m (cset z4m m (keyP a b) i) (keyP c d)=_
 rw [zfw,y80]
 by_cases h:c=a/\d=b
 ·rw [if_pos h]; simp [h]
 ·rw [if_neg h]
  have :(c==a&&d==b)=false:=by rw [<- w3j]; simpa using h
  rw [this]; rfl
theorem y1x {b:Bool} (h:¬(!b)=true):b=true:=by cases b <;> simp_all
def ent1 (es:List Edge) (i a b:Int) (s:List (List Int)×Ln):List (List Int)×Ln:=
 (if(!(lget s.2 a b).isSome)=true then zr s.1 a (gt s.1 a++[b]) else s.1,
  if(!(lget s.2 a b).isSome||decide ((gt es i).minutes <(gt es ((lget s.2 a b).getD default)).minutes))=true then lset s.2 a b i else s.2)
def entE (es:List Edge) (i:Int) (s:List (List Int)×Ln):List (List Int)×Ln:=ent1 es i (gt es i).b (gt es i).a (ent1 es i (gt es i).a (gt es i).b s)
structure GI (es:List Edge) (P k:Nat) (s:List (List Int)×Ln):Prop where
 len:s.1.length=P
 near:∀ a b:Int,0<=a->a <(P:Int)->(b∈gt s.1 a↔(lget s.2 a b).isSome=true)
 line:∀ a b i:Int,lget s.2 a b=some i->0<=i/\i <(k:Int)/\(((gt es i).a=a/\(gt es i).b=b)\/((gt es i).a=b/\(gt es i).b=a))
 size:∀ a:Int,0<=a->a <(P:Int)->(gt s.1 a).length<=2*k
structure HI (es:List Edge) (P k:Nat) (s:List (List Int)×Ln):Prop extends GI es P k s where
 sym:∀ a b:Int,lget s.2 a b=lget s.2 b a
theorem y1v (es:List Edge) (P:Nat):HI es P 0 (List.replicate P (default:List Int),[]) where
 len:=by simp
 near:=fun a b h0 h1=>by
  rw [ze0 _ _ _ h0 (by omega)]
  show b∈([]:List Int)↔_
  simp [lget,cget]
 line:=fun a b i h=>by simp [lget,cget] at h
 size:=fun a h0 h1=>by rw [ze0 _ _ _ h0 (by omega)]; simp; rfl
 sym:=fun a b=>rfl
theorem y68 {es:List Edge} {P k:Nat} {s:List (List Int)×Ln} (h:GI es P k s) {a b:Int} (ha:0<=a) (ha':a <(P:Int)) (he :((gt es (k:Int)).a=a/\(gt es (k:Int)).b=b)\/((gt es (k:Int)).a=b/\(gt es (k:Int)).b=a)) :
  (ent1 es k a b s).1.length=P/\(∀ c d:Int,0<=c->c <(P:Int)->(d∈gt (ent1 es k a b s).1 c↔(lget (ent1 es k a b s).2 c d).isSome=true))/\
  (∀ c d i:Int,lget (ent1 es k a b s).2 c d=some i->0<=i/\i <((k+1:Nat):Int)/\(((gt es i).a=c/\(gt es i).b=d)\/((gt es i).a=d/\(gt es i).b=c)))/\
  (∀ c:Int,0<=c->c <(P:Int)->(gt (ent1 es k a b s).1 c).length<=(gt s.1 c).length+1)/\
  (∀ c d:Int,¬(c=a/\d=b)->lget (ent1 es k a b s).2 c d=lget s.2 c d)/\
  lget (ent1 es k a b s).2 a b =(if(!(lget s.2 a b).isSome||decide ((gt es (k:Int)).minutes <(gt es ((lget s.2 a b).getD default)).minutes))=true then some (k:Int) else lget s.2 a b):=by
 have hl2:∀ c d:Int,lget (ent1 es k a b s).2 c d=if(c=a/\d=b) then(if(!(lget s.2 a b).isSome||decide ((gt es (k:Int)).minutes <(gt es ((lget s.2 a b).getD default)).minutes))=true then some (k:Int) else lget s.2 a b) else lget s.2 c d:=by
  intro c d
  unfold ent1
  simp only []
  split
  ·rw [zla]
  ·split
   ·rename_i q; rw [q.1,q.2]
   ·rfl
 have hsm :(lget (ent1 es k a b s).2 a b).isSome=true:=by
  rw [hl2,if_pos ⟨rfl,rfl⟩]
  split
  ·rfl
  ·rename_i q
   simp only [w16,not_or] at q
   exact y1x q.1
 refine⟨?_,?_,?_,?_,fun c d hcd=>by rw [hl2,if_neg hcd],by rw [hl2,if_pos ⟨rfl,rfl⟩]⟩
 ·unfold ent1
  simp only []
  split
  ·rw [z08]; exact h.len
  ·exact h.len
 ·intro c d hc hc'
  by_cases hcd:c=a/\d=b
  ·obtain⟨rfl,rfl⟩:=hcd
   rw [hsm]
   refine⟨fun _=>rfl,fun _=>?_⟩
   unfold ent1
   simp only []
   split
   ·rw [z0r _ _ _ _ hc (by rw [h.len]; exact hc') hc,if_pos rfl]; simp
   ·rename_i q
    exact(h.near c d hc hc').2 (y1x q)
  ·rw [hl2,if_neg hcd,<- h.near c d hc hc']
   unfold ent1
   simp only []
   split
   ·rw [z0r _ _ _ _ ha (by rw [h.len]; exact ha') hc]
    by_cases e:c=a
    ·subst e
     rw [if_pos rfl]
     simp only [w0l,w0k]
     exact⟨fun q=>q.resolve_right (fun e=>hcd ⟨rfl,e⟩),.inl⟩
    ·rw [if_neg e]
   ·exact Iff.rfl
 ·intro c d i hi
  rw [hl2] at hi
  split at hi
  ·rename_i q
   obtain⟨rfl,rfl⟩:=q
   split at hi
   ·have:=w0c hi
    subst this
    exact⟨by omega,by omega,he⟩
   ·obtain⟨h1,h2,h3⟩:=h.line _ _ _ hi
    exact⟨h1,by omega,h3⟩
  ·obtain⟨h1,h2,h3⟩:=h.line _ _ _ hi
   exact⟨h1,by omega,h3⟩
 ·intro c hc hc'
  unfold ent1
  simp only []
  split
  ·rw [z0r _ _ _ _ ha (by rw [h.len]; exact ha') hc]
   split
   ·rename_i e; subst e; simp
   ·omega
  ·omega
theorem y5y {es:List Edge} {P k:Nat} {s:List (List Int)×Ln} (h:HI es P k s) (ha:0<=(gt es (k:Int)).a) (ha' :(gt es (k:Int)).a <(P:Int)) (hb:0<=(gt es (k:Int)).b) (hb' :(gt es (k:Int)).b <(P:Int)) (hne :(gt es (k:Int)).a≠(gt es (k:Int)).b) :
  HI es P (k+1) (entE es k s):=by
 obtain⟨a1,a2,a3,a4,a5,a6⟩:=y68 h.toGI ha ha' (.inl ⟨rfl,rfl⟩)
 unfold entE
 generalize hs1:ent1 es k (gt es (k:Int)).a (gt es (k:Int)).b s=s1 at *
 generalize (gt es (k:Int)).a=a at *
 generalize (gt es (k:Int)).b=b at *
 -- the second end,by the same law: only the zdk on the numbers has moved
 have hl2:∀ c d:Int,lget (ent1 es k b a s1).2 c d=if(c=b/\d=a) then(if(!(lget s1.2 b a).isSome||decide ((gt es (k:Int)).minutes <(gt es ((lget s1.2 b a).getD default)).minutes))=true then some (k:Int) else lget s1.2 b a) else lget s1.2 c d:=by
  intro c d
  unfold ent1
  simp only []
  split
  ·rw [zla]
  ·split
   ·rename_i q; rw [q.1,q.2]
   ·rfl
 have hba:lget s1.2 b a=lget s.2 a b:=by rw [a5 b a (fun q=>hne q.2),h.sym]
 have hsm :(lget (ent1 es k b a s1).2 b a).isSome=true:=by
  rw [hl2,if_pos ⟨rfl,rfl⟩]
  split
  ·rfl
  ·rename_i q
   simp only [w16,not_or] at q
   exact y1x q.1
 have hlab:lget (ent1 es k b a s1).2 a b=lget s1.2 a b:=by rw [hl2,if_neg (fun q=>hne q.1)]
 have hlba:lget (ent1 es k b a s1).2 b a=lget s1.2 a b:=by
  rw [hl2,if_pos ⟨rfl,rfl⟩,hba,a6]
 have hab :((gt es (k:Int)).a=a/\(gt es (k:Int)).b=b)\/((gt es (k:Int)).a=b/\(gt es (k:Int)).b=a)->True:=fun _=>trivial
 refine⟨⟨?_,?_,?_,?_⟩,?_⟩
 ·unfold ent1
  simp only []
  split
  ·rw [z08]; exact a1
  ·exact a1
 ·intro c d hc hc'
  by_cases hcd:c=b/\d=a
  ·obtain⟨rfl,rfl⟩:=hcd
   rw [hsm]
   refine⟨fun _=>rfl,fun _=>?_⟩
   unfold ent1
   simp only []
   split
   ·rw [z0r _ _ _ _ hc (by rw [a1]; exact hc') hc,if_pos rfl]; simp
   ·rename_i q
    exact(a2 c d hc hc').2 (y1x q)
  ·rw [hl2,if_neg hcd,<- a2 c d hc hc']
   unfold ent1
   simp only []
   split
   ·rw [z0r _ _ _ _ hb (by rw [a1]; exact hb') hc]
    by_cases e:c=b
    ·subst e
     rw [if_pos rfl]
     simp only [w0l,w0k]
     exact⟨fun q=>q.resolve_right (fun e=>hcd ⟨rfl,e⟩),.inl⟩
    ·rw [if_neg e]
   ·exact Iff.rfl
 ·intro c d i hi
  by_cases hcd:c=b/\d=a
  ·obtain⟨rfl,rfl⟩:=hcd
   rw [hlba] at hi
   obtain⟨h1,h2,h3⟩:=a3 _ _ _ hi
   exact⟨h1,h2,h3.elim .inr .inl⟩
  ·rw [hl2,if_neg hcd] at hi
   exact a3 _ _ _ hi
 ·intro c hc hc'
  have h1:=a4 c hc hc'
  have h0:=h.size c hc hc'
  have h2 :(gt (ent1 es k b a s1).1 c).length<=(gt s1.1 c).length+1:=by
   unfold ent1
   simp only []
   split
   ·rw [z0r _ _ _ _ hb (by rw [a1]; exact hb') hc]
    split
    ·rename_i e; subst e; simp
    ·omega
   ·omega
  omega
 ·intro c d
  by_cases h1:c=b/\d=a
  ·obtain⟨rfl,rfl⟩:=h1
   rw [hlba,hlab]
  ·by_cases h2:c=a/\d=b
   ·obtain⟨rfl,rfl⟩:=h2
    rw [hlab,hlba]
   ·rw [hl2,if_neg h1,hl2,if_neg (fun q=>h2 ⟨q.2,q.1⟩),a5 c d h2,a5 d c (fun q=>h1 ⟨q.2,q.1⟩),h.sym]
def zhr (es:List Edge) (P:Nat):Nat->List (List Int)×Ln
 | 0=>(List.replicate P default,[])
 | k+1=>entE es k (zhr es P k)
structure zk2 (x:z00):Prop where
 places:x.places.length<=512
 edges:x.edges.length<=2048
 edge:∀ i:Int,0<=i->i <(x.edges.length:Int)->zdl x.places.length (gt x.edges i)=true
theorem yah {x:z00} (h:z9a x=0):zk2 x:=by
 obtain⟨h1,h2,_,h4⟩:=zjt h
 exact⟨h1,h2,fun i h0 hi=>h4 _ (zbc h0 hi)⟩
theorem zk2.ends {x:z00} (h:zk2 x) {i:Int} (h0:0<=i) (hi:i <(x.edges.length:Int)):0<=(gt x.edges i).a/\(gt x.edges i).a <(x.places.length:Int)/\0<=(gt x.edges i).b/\(gt x.edges i).b <(x.places.length:Int)/\
  (gt x.edges i).a≠(gt x.edges i).b/\0<=(gt x.edges i).railway/\(gt x.edges i).railway<=15/\1<=(gt x.edges i).minutes/\(gt x.edges i).minutes<=100000/\0<=(gt x.edges i).km/\(gt x.edges i).km<=10000:=by
 have:=h.edge i h0 hi
 simp only [zdl,w02,z7b,bne_iff_ne,ne_eq] at this
 obtain⟨⟨⟨⟨⟨q1,q2⟩,q3⟩,q4⟩,q5⟩,q6⟩:=this
 exact⟨q1.1,by omega,q2.1,by omega,q3,q4.1,q4.2,q5.1,q5.2,q6.1,q6.2⟩
theorem zec {x:z00} (h:zk2 x):∀ k,k<=x.edges.length->HI x.edges x.places.length k (zhr x.edges x.places.length k)
 | 0,_=>y1v _ _
 | k+1,hk=>by
  obtain⟨a1,a2,a3,a4,a5,_⟩:=h.ends (i:=(k:Int)) (by omega) (by omega)
  exact y5y (zec h k (by omega)) a1 a2 a3 a4 a5
structure Gr (P:Nat) (near:List (List Int)) (wt:Int->Int->Int):Prop where
 len:near.length=P
 small:P<=512
 size:∀ a:Int,0<=a->a <(P:Int)->(gt near a).length<=5000
 rng:∀ a b:Int,0<=a->a <(P:Int)->b∈gt near a->0<=b/\b <(P:Int)
 sym:∀ a b:Int,0<=a->a <(P:Int)->b∈gt near a->a∈gt near b/\wt b a=wt a b
 wt:∀ a b:Int,0<=a->a <(P:Int)->b∈gt near a->1<=wt a b/\wt a b<=100000
def z91 (x:z00):Ln:=(zhr x.edges x.places.length x.edges.length).2
def wtN (x:z00) (a b:Int):Int:=(gt x.edges ((lget (z91 x) a b).getD default)).minutes
def zg0 (x:z00):List (List Int):=(zhr x.edges x.places.length x.edges.length).1
def z5j (x:z00):List (List Int):=(zg0 x).map fun l=>znd (fun a b=>decide (a<b)) l
theorem zxt {α β:Type} [Inhabited α] [Inhabited β] (f:α->β) (l:List α) {i:Int} (h0:0<=i) (h:i <(l.length:Int)):gt (l.map f) i=f (gt l i):=by
 obtain⟨n,rfl⟩:∃ n:Nat,i =(n:Int):=⟨i.toNat,by omega⟩
 rw [z6g (by simp; omega),z6g (by omega)]
 simp
theorem zo3 {x:z00} (h:zk2 x) {a b:Int} (ha:0<=a) (ha':a <(x.places.length:Int)) (hb:b∈gt (z5j x) a):∃ i,lget (z91 x) a b=some i/\0<=i/\i <(x.edges.length:Int)/\(((gt x.edges i).a=a/\(gt x.edges i).b=b)\/((gt x.edges i).a=b/\(gt x.edges i).b=a)):=by
 have H:=zec h x.edges.length (w18 _)
 unfold z5j at hb
 rw [zxt _ _ ha (by show a <((zg0 x).length:Int); rw [show (zg0 x).length=_ from H.len]; exact ha')] at hb
 have hb:=(z8v _ _).mem_iff.1 hb
 have:=(H.near a b ha ha').1 hb
 obtain⟨i,hi⟩:=w0y.1 this
 obtain⟨h1,h2,h3⟩:=H.line _ _ _ hi
 exact⟨i,hi,h1,h2,h3⟩
theorem grN {x:z00} (h:zk2 x):Gr x.places.length (z5j x) (wtN x):=by
 have H:=zec h x.edges.length (w18 _)
 have hlen :(z5j x).length=x.places.length:=by unfold z5j; rw [w17]; exact H.len
 have hl0 :(zg0 x).length=x.places.length:=H.len
 have hmem:∀ a b:Int,0<=a->a <(x.places.length:Int)->(b∈gt (z5j x) a↔(lget (z91 x) a b).isSome=true):=by
  intro a b ha ha'
  unfold z5j
  rw [zxt _ _ ha (by rw [hl0]; exact ha')]
  exact((z8v _ _).mem_iff).trans (H.near a b ha ha')
 refine⟨hlen,h.places,?_,?_,?_,?_⟩
 ·intro a ha ha'
  unfold z5j
  rw [zxt _ _ ha (by rw [hl0]; exact ha'),(z8v _ _).length_eq]
  have:=H.size a ha ha'
  have:=h.edges
  show (gt (zhr x.edges x.places.length x.edges.length).1 a).length<=_
  omega
 ·intro a b ha ha' hb
  obtain⟨i,_,h1,h2,h3⟩:=zo3 h ha ha' hb
  obtain⟨e1,e2,e3,e4,_⟩:=h.ends h1 h2
  rcases h3 with⟨rfl,rfl⟩ |⟨rfl,rfl⟩
  ·exact⟨e3,e4⟩
  ·exact⟨e1,e2⟩
 ·intro a b ha ha' hb
  obtain⟨i,hi,h1,h2,h3⟩:=zo3 h ha ha' hb
  obtain⟨e1,e2,e3,e4,_⟩:=h.ends h1 h2
  have hbr:0<=b/\b <(x.places.length:Int):=by
   rcases h3 with⟨rfl,rfl⟩ |⟨rfl,rfl⟩
   ·exact⟨e3,e4⟩
   ·exact⟨e1,e2⟩
  have hs:lget (z91 x) b a=lget (z91 x) a b:=H.sym b a
  refine⟨(hmem b a hbr.1 hbr.2).2 (by rw [hs,hi]; rfl),?_⟩
  unfold wtN
  rw [hs]
 ·intro a b ha ha' hb
  obtain⟨i,hi,h1,h2,_⟩:=zo3 h ha ha' hb
  obtain⟨_,_,_,_,_,_,_,e1,e2,_⟩:=h.ends h1 h2
  unfold wtN
  rw [hi]
  exact⟨e1,e2⟩
structure DI (P:Nat) (near:List (List Int)) (wt:Int->Int->Int) (s:Int) (k:Nat) (t:List Int) (d:List Bool):Prop where
 lt:t.length=P
 ld:d.length=P
 src:gt t s=0
 bd:∀ i:Int,0<=i->i <(P:Int)->gt t i=-1\/(0<=gt t i/\gt t i<=100000*k)
 don:∀ i:Int,0<=i->i <(P:Int)->gt d i=true->0<=gt t i
 pre:∀ a:Int,0<=a->a <(P:Int)->a≠s->0<=gt t a->∃ q,0<=q/\q <(P:Int)/\gt d q=true/\q∈gt near a/\gt t a=gt t q+wt q a
 mon:∀ q i:Int,0<=q->q <(P:Int)->0<=i->i <(P:Int)->gt d q=true->gt d i=false->0<=gt t i->gt t q<=gt t i
 nbr:∀ q i:Int,0<=q->q <(P:Int)->gt d q=true->i∈gt near q->0<=gt t i/\gt t i<=gt t q+wt q i
 cnt:d.count true=k
structure RndI (P:Nat) (near:List (List Int)) (wt:Int->Int->Int) (s p:Int) (k:Nat) (t0:List Int) (d:List Bool) (seen:List Int) (t:List Int):Prop where
 lt:t.length=P
 own:gt t p=gt t0 p
 val:∀ i:Int,0<=i->i <(P:Int)->gt t i=gt t0 i\/(i∈seen/\gt t i=gt t0 p+wt p i/\(gt t0 i<0\/gt t0 p+wt p i<gt t0 i))
 got:∀ i∈seen,0<=i->0<=gt t i/\gt t i<=gt t p+wt p i
end Px
end
section
namespace Px
open Go
section
variable {P:Nat} {near:List (List Int)} {wt:Int->Int->Int} {s:Int}
theorem zzg {p:Int} {k:Nat} {t0:List Int} {d:List Bool} (h:DI P near wt s k t0 d):RndI P near wt s p k t0 d [] t0:=
 ⟨h.lt,rfl,fun i _ _=>.inl rfl,fun i hi=>by cases hi⟩
theorem y0u (hG:Gr P near wt) {p:Int} (hp:0<=p) (hp':p <(P:Int)) {k:Nat} {t0:List Int} {d:List Bool} (hp0:0<=gt t0 p) {seen t:List Int} (h:RndI P near wt s p k t0 d seen t) {q:Int} (hq:q∈gt near p) :
  RndI P near wt s p k t0 d (seen++[q]) (if(decide (gt t q<0)||decide (gt t p+wt p q<gt t q))=true then zr t q (gt t p+wt p q) else t):=by
 obtain⟨q0,q1⟩:=hG.rng p q hp hp' hq
 obtain⟨w0,w1⟩:=hG.wt p q hp hp' hq
 have hown:=h.own
 by_cases c:gt t q<0\/gt t p+wt p q<gt t q
 ·rw [if_pos (by simpa using c)]
  have hqp:q≠p:=fun e=>by subst e; omega
  refine⟨by rw [z08]; exact h.lt,?_,fun i h0 h1=>?_,fun i hi hneg=>?_⟩
  ·rw [z0r _ _ _ _ q0 (by rw [h.lt]; exact q1) hp,if_neg (fun e=>hqp e.symm)]; exact hown
  ·rw [z0r _ _ _ _ q0 (by rw [h.lt]; exact q1) h0]
   by_cases e:i=q
   ·subst e
    rw [if_pos rfl]
    refine .inr ⟨by simp,by rw [hown],?_⟩
    rcases h.val i h0 h1 with h2 |⟨_,h2,_⟩
    ·rw [h2,hown] at c; exact c
    ·rw [h2,hown] at c; exfalso; omega
   ·rw [if_neg e]
    rcases h.val i h0 h1 with h2 |⟨h2,h3,h4⟩
    ·exact .inl h2
    ·exact .inr ⟨w1c _ h2,h3,h4⟩
  ·by_cases e:i=q
   ·subst e
    rw [z0r _ _ _ _ q0 (by rw [h.lt]; exact q1) q0,if_pos rfl,z0r _ _ _ _ q0 (by rw [h.lt]; exact q1) hp,if_neg (fun e=>hqp e.symm)]
    omega
   ·have hi:i∈seen:=by
     rcases w0l.1 hi with hi | hi
     ·exact hi
     ·exact absurd (w0k.1 hi) e
    rw [z0r _ _ _ _ q0 (by rw [h.lt]; exact q1) hneg,if_neg e,z0r _ _ _ _ q0 (by rw [h.lt]; exact q1) hp,if_neg (fun e=>hqp e.symm)]
    exact h.got i hi hneg
 ·rw [if_neg (by simpa using c)]
  refine⟨h.lt,hown,fun i h0 h1=>?_,fun i hi hneg=>?_⟩
  ·rcases h.val i h0 h1 with h2 |⟨h2,h3,h4⟩
   ·exact .inl h2
   ·exact .inr ⟨w1c _ h2,h3,h4⟩
  ·rcases w0l.1 hi with hi | hi
   ·exact h.got i hi hneg
   ·rw [w0k.1 hi]; omega
theorem zsy {d:List Bool} {p:Int} (hp:0<=p) (hp':p <(d.length:Int)) (h:gt d p=false) :(zr d p true).count true=d.count true+1:=by
 obtain⟨n,rfl⟩:∃ n:Nat,p =(n:Int):=⟨p.toNat,by omega⟩
 have hn:n<d.length:=by omega
 rw [z6g hn] at h
 unfold zr
 rw [w1m,List.count_set hn,h]
 simp
theorem y0y (hG:Gr P near wt) {p:Int} (hp:0<=p) (hp':p <(P:Int)) {k:Nat} {t0:List Int} {d:List Bool} (h:DI P near wt s k t0 d) (hs:0<=s) (hs':s <(P:Int)) (hp0:0<=gt t0 p) (hd:gt d p=false)
  (hmin:∀ i:Int,0<=i->i <(P:Int)->0<=gt t0 i->gt d i=false->gt t0 p<=gt t0 i) {t:List Int} (hr:RndI P near wt s p k t0 d (gt near p) t):DI P near wt s (k+1) t (zr d p true):=by
 have hds:∀ i:Int,0<=i->gt (zr d p true) i=if i=p then true else gt d i:=fun i hi=>z0r _ _ _ _ hp (by rw [h.ld]; exact hp') hi
 have hw:∀ i,i∈gt near p->1<=wt p i/\wt p i<=100000:=fun i hi=>hG.wt p i hp hp' hi
 -- what is done stays
 have hdone:∀ i:Int,0<=i->i <(P:Int)->gt d i=true->gt t i=gt t0 i:=by
  intro i h0 h1 hdi
  rcases hr.val i h0 h1 with h2 |⟨h2,h3,h4⟩
  ·exact h2
  ·have:=hw i h2
   have:=h.don i h0 h1 hdi
   have:=h.mon i p h0 h1 hp hp' hdi hd hp0
   omega
 have hbdp:=(h.bd p hp hp').resolve_left (by omega)
 refine⟨hr.lt,by rw [z08]; exact h.ld,?_,fun i h0 h1=>?_,fun i h0 h1 hdi=>?_,fun a h0 h1 has hta=>?_,fun q i q0 q1 h0 h1 hdq hdi hti=>?_,fun q i q0 q1 hdq hin=>?_,?_⟩
 ·rcases hr.val s hs hs' with h2 |⟨h2,h3,h4⟩
  ·rw [h2,h.src]
  ·have:=hw s h2
   have:=h.src
   omega
 ·rcases hr.val i h0 h1 with h2 |⟨h2,h3,h4⟩
  ·rw [h2]
   rcases h.bd i h0 h1 with h5 | h5
   ·exact .inl h5
   ·right; omega
  ·have:=hw i h2
   right; omega
 ·rw [hds i h0] at hdi
  by_cases e:i=p
  ·subst e; rw [hr.own]; exact hp0
  ·rw [if_neg e] at hdi
   rw [hdone i h0 h1 hdi]; exact h.don i h0 h1 hdi
 ·rcases hr.val a h0 h1 with h2 |⟨h2,h3,h4⟩
  ·rw [h2] at hta ⊢
   obtain⟨q,q0,q1,hdq,hqn,he⟩:=h.pre a h0 h1 has hta
   refine⟨q,q0,q1,?_,hqn,by rw [hdone q q0 q1 hdq]; exact he⟩
   rw [hds q q0]; split
   ·rfl
   ·exact hdq
  ·obtain⟨hsy,hwt⟩:=hG.sym p a hp hp' h2
   exact⟨p,hp,hp',by rw [hds p hp,if_pos rfl],hsy,by rw [hr.own,h3]⟩
 ·rw [hds q q0] at hdq
  rw [hds i h0] at hdi
  have hip:i≠p:=fun e=>by rw [if_pos e] at hdi; cases hdi
  rw [if_neg hip] at hdi
  have hge:gt t0 p<=gt t i:=by
   rcases hr.val i h0 h1 with h2 |⟨h2,h3,h4⟩
   ·rw [h2] at hti ⊢; exact hmin i h0 h1 hti hdi
   ·have:=hw i h2; omega
  by_cases e:q=p
  ·subst e; rw [hr.own]; exact hge
  ·rw [if_neg e] at hdq
   have:=h.mon q p q0 q1 hp hp' hdq hd hp0
   rw [hdone q q0 q1 hdq]; omega
 ·rw [hds q q0] at hdq
  by_cases e:q=p
  ·subst e; exact hr.got i hin (hG.rng q i hp hp' hin).1
  ·rw [if_neg e] at hdq
   obtain⟨i0,i1⟩:=hG.rng q i q0 q1 hin
   have:=h.nbr q i q0 q1 hdq hin
   rw [hdone q q0 q1 hdq]
   rcases hr.val i i0 i1 with h2 |⟨h2,h3,h4⟩
   ·rw [h2]; exact this
   ·have:=hw i h2; omega
 ·rw [zsy hp (by rw [h.ld]; exact hp') hd,h.cnt]
structure DF (P:Nat) (near:List (List Int)) (wt:Int->Int->Int) (s:Int) (t:List Int):Prop where
 lt:t.length=P
 src:gt t s=0
 bd:∀ i:Int,0<=i->i <(P:Int)->gt t i=-1\/(0<=gt t i/\gt t i<=51200000)
 pre:∀ a:Int,0<=a->a <(P:Int)->a≠s->0<=gt t a->∃ q,0<=q/\q <(P:Int)/\q∈gt near a/\0<=gt t q/\gt t a=gt t q+wt q a
 nbr:∀ q i:Int,0<=q->q <(P:Int)->0<=gt t q->i∈gt near q->0<=gt t i/\gt t i<=gt t q+wt q i
theorem ybe (hG:Gr P near wt) {k:Nat} {t:List Int} {d:List Bool} (h:DI P near wt s k t d) (hall:∀ i:Int,0<=i->i <(P:Int)->0<=gt t i->gt d i=true):DF P near wt s t:=by
 have hk:k<=P:=by rw [<- h.cnt,<- h.ld]; exact w46
 have:=hG.small
 refine⟨h.lt,h.src,fun i h0 h1=>?_,fun a h0 h1 ha hta=>?_,fun q i q0 q1 hq hi=>h.nbr q i q0 q1 (hall q q0 q1 hq) hi⟩
 ·rcases h.bd i h0 h1 with h2 | h2
  ·exact .inl h2
  ·right; omega
 ·obtain⟨q,q0,q1,hdq,hqn,he⟩:=h.pre a h0 h1 ha hta
  exact⟨q,q0,q1,hqn,h.don q q0 q1 hdq,he⟩
theorem y2m (hs:0<=s) (hs':s <(P:Int)) (t:List Int) (ht:t.length=P) (hall:∀ i:Int,0<=i->i <(P:Int)->gt t i=if i=s then 0 else -1):DI P near wt s 0 t (List.replicate P (default:Bool)):=by
 have hd:∀ i:Int,0<=i->i <(P:Int)->gt (List.replicate P (default:Bool)) i=false:=fun i h0 h1=>by rw [ze0 _ _ _ h0 (by omega)]; rfl
 refine⟨ht,by simp,by rw [hall s hs hs',if_pos rfl],fun i h0 h1=>?_,fun i h0 h1 h=>?_,fun a h0 h1 ha hta=>?_,fun q i q0 q1 h0 h1 hdq=>?_,fun q i q0 q1 hdq=>?_,?_⟩
 ·rw [hall i h0 h1]; split <;> omega
 ·rw [hd i h0 h1] at h; cases h
 ·rw [hall a h0 h1,if_neg ha] at hta; omega
 ·rw [hd q q0 q1] at hdq; cases hdq
 ·rw [hd q q0 q1] at hdq; cases hdq
 ·simp [List.count_replicate]
end
section walk
variable {ρ:Type} {P:Nat} {near:List (List Int)} {wt:Int->Int->Int} {s:Int}
theorem ya2 (hP:P<=512) (A:Nat->Int->Int->Option ρ) (fin:Int->Option ρ) (t:List Int) (d:List Bool) (ht:t.length=P) (hd:d.length=P)
  (stp:∀ n p i,A (n+1) p i =(if(decide ((i:Int) <(P:Int)))=true then(ck ((0:Int)<=i/\i <(t.length:Int)) (ck (((decide ((0:Int)<=(gt t i)))=true)->(0:Int)<=i/\i <(d.length:Int)) (ck ((((decide ((0:Int)<=(gt t i)))&&(!(gt d i)))=true/\(decide ((p:Int)<0))=false)->(0:Int)<=i/\i <(t.length:Int)) (ck ((((decide ((0:Int)<=(gt t i)))&&(!(gt d i)))=true/\(decide ((p:Int)<0))=false)->(0:Int)<=p/\p <(t.length:Int)) (if(((decide ((0:Int)<=(gt t i)))&&(!(gt d i)))&&((decide ((p:Int)<0))||(decide (((gt t i):Int) <(gt t p)))))=true then(A n i (W (i+1))) else(A n p (W (i+1)))))))) else fin p)) (n:Nat) (hn:P<n) :
  ∃ p,A n (-1) 0=fin p/\((p=-1/\∀ i:Int,0<=i->i <(P:Int)->0<=gt t i->gt d i=true)\/(0<=p/\p <(P:Int)/\0<=gt t p/\gt d p=false/\∀ i:Int,0<=i->i <(P:Int)->0<=gt t i->gt d i=false->gt t p<=gt t i)):=by
 refine z0h (fun n i (p:Int)=>A n p i) P (fun i p=>(p=-1/\∀ j:Int,0<=j->j <(i:Int)->0<=gt t j->gt d j=true)\/(0<=p/\p <(i:Int)/\0<=gt t p/\gt d p=false/\∀ j:Int,0<=j->j <(i:Int)->0<=gt t j->gt d j=false->gt t p<=gt t j))
  (fun o=>∃ p,o=fin p/\((p=-1/\∀ i:Int,0<=i->i <(P:Int)->0<=gt t i->gt d i=true)\/(0<=p/\p <(P:Int)/\0<=gt t p/\gt d p=false/\∀ i:Int,0<=i->i <(P:Int)->0<=gt t i->gt d i=false->gt t p<=gt t i))) ?_ ?_ n (-1) (.inl ⟨rfl,fun j h0 h1=>by omega⟩) hn
 ·intro n i p hi hI hs
  rw [stp,if_pos (by simp; omega),z6 ⟨by omega,by omega⟩,z6 (fun _=>⟨by omega,by omega⟩),z6 (fun _=>⟨by omega,by omega⟩),W_id (by omega) (by omega)]
  have hpr :(decide ((p:Int)<0))=false->(0:Int)<=p/\p <(t.length:Int):=by
   intro h
   simp only [decide_eq_false_iff_not] at h
   rcases hI with⟨rfl,_⟩ |⟨h1,h2,_⟩
   ·omega
   ·exact⟨h1,by omega⟩
  rw [z6 (fun h=>hpr h.2)]
  have split_j:∀ j:Int,j <((i+1:Nat):Int)->j <(i:Int)\/j =(i:Int):=fun j h=>by omega
  by_cases c :(0<=gt t (i:Int)/\gt d (i:Int)=false)/\(p<0\/gt t (i:Int)<gt t p)
  ·rw [if_pos (by simpa using c)]
   refine hs _ (.inr ⟨by omega,by omega,c.1.1,c.1.2,fun j h0 h1 htj hdj=>?_⟩)
   rcases split_j j h1 with h2 | rfl
   ·rcases hI with⟨_,h3⟩ |⟨q0,_,_,_,h3⟩
    ·have:=h3 j h0 h2 htj; rw [hdj] at this; cases this
    ·have:=h3 j h0 h2 htj hdj
     have:=c.2.resolve_left (by omega)
     omega
   ·exact w1p _
  ·rw [if_neg (by simpa using c)]
   refine hs p ?_
   rcases hI with⟨rfl,h3⟩ |⟨q0,q1,q2,q3,h3⟩
   ·refine .inl ⟨rfl,fun j h0 h1 htj=>?_⟩
    rcases split_j j h1 with h2 | rfl
    ·exact h3 j h0 h2 htj
    ·cases hdi:gt d (i:Int) with
     | true=>rfl
     | false=>exact absurd ⟨⟨htj,hdi⟩,.inl (by omega)⟩ c
   ·refine .inr ⟨q0,by omega,q2,q3,fun j h0 h1 htj hdj=>?_⟩
    rcases split_j j h1 with h2 | rfl
    ·exact h3 j h0 h2 htj hdj
    ·rcases Int.lt_or_le (gt t (i:Int)) (gt t p) with h4 | h4
     ·exact absurd ⟨⟨htj,hdj⟩,.inr h4⟩ c
     ·exact h4
 ·intro n p hI
  rw [stp,if_neg (by simp)]
  exact⟨p,rfl,hI⟩
theorem y9x (hG:Gr P near wt) {p:Int} (hp:0<=p) (hp':p <(P:Int)) {k:Nat} (hk:k<=512) {t0:List Int} {d:List Bool} (hD:DI P near wt s k t0 d) (hp0:0<=gt t0 p) (B:Nat->Int->List Int->Option ρ) (K:List Int->Option ρ) (nb:List Int) (hnb:nb=gt near p) (E:Nat) (lg:Int->Int) (mins:Int->Int)
  (hlg:∀ q∈nb,0<=lg q/\lg q <(E:Int)/\mins (lg q)=wt p q)
  (stp:∀ n i t,B (n+1) i t =(if(decide ((i:Int) <(nb.length:Int)))=true then(ck ((0:Int)<=i/\i <(nb.length:Int)) (ck ((0:Int)<=p/\p <(t.length:Int)) (ck ((0:Int)<=lg (gt nb i)/\lg (gt nb i) <(E:Int)) (ck ((0:Int)<=(gt nb i)/\(gt nb i) <(t.length:Int)) (ck (((decide (((gt t (gt nb i)):Int)<0))=false)->(0:Int)<=(gt nb i)/\(gt nb i) <(t.length:Int)) (if((decide (((gt t (gt nb i)):Int)<0))||(decide (((W ((gt t p)+mins (lg (gt nb i)))):Int) <(gt t (gt nb i)))))=true then(ck ((0:Int)<=(gt nb i)/\(gt nb i) <(t.length:Int)) (B n (W (i+1)) (zr t (gt nb i) (W ((gt t p)+mins (lg (gt nb i))))))) else(B n (W (i+1)) t))))))) else K t)) (n:Nat) (hn:nb.length<n) :
  ∃ t,B n 0 t0=K t/\RndI P near wt s p k t0 d nb t:=by
 have hsz:nb.length<=5000:=by rw [hnb]; exact hG.size p hp hp'
 have hbp:=(hD.bd p hp hp').resolve_left (by omega)
 refine z0h (fun n i t=>B n i t) nb.length (fun i t=>RndI P near wt s p k t0 d (nb.take i) t) (fun o=>∃ t,o=K t/\RndI P near wt s p k t0 d nb t) ?_ ?_ n t0 (zzg hD) hn
 ·intro n i t hi hI hs
  have hm:gt nb (i:Int)∈gt near p:=by rw [<- hnb]; exact zbc (by omega) (by omega)
  obtain⟨q0,q1⟩:=hG.rng p _ hp hp' hm
  obtain⟨w0,w1⟩:=hG.wt p _ hp hp' hm
  obtain⟨l0,l1,l2⟩:=hlg (gt nb (i:Int)) (by rw [hnb]; rw [hnb] at hm; exact hm)
  have hlt:=hI.lt
  have hst:=y0u hG hp hp' hp0 hI hm
  rw [<- z2o nb i hi] at hst
  have hr:=hs _ hst
  have hown:=hI.own
  rw [stp,if_pos (by simp; omega),z6 ⟨by omega,by omega⟩,z6 ⟨by omega,by omega⟩,z6 ⟨l0,l1⟩,z6 ⟨by omega,by omega⟩,z6 (fun _=>⟨by omega,by omega⟩),l2,W_id (x:=gt t p+_) (by omega) (by omega),W_id (by omega) (by omega)]
  generalize gt nb (i:Int)=q at *
  by_cases c :(decide (gt t q<0)||decide (gt t p+wt p q<gt t q))=true
  ·rw [if_pos c] at hr ⊢
   rw [z6 ⟨by omega,by omega⟩]
   exact hr
  ·rw [if_neg c] at hr ⊢
   exact hr
 ·intro n t hI
  rw [stp,if_neg (by simp)]
  rw [w1r] at hI
  exact⟨t,rfl,hI⟩
theorem y1f (hG:Gr P near wt) (hs:0<=s) (hs':s <(P:Int)) (M:Nat->List Int->List Bool->Option ρ) (fin:List Int->Option ρ) (φ:Nat)
  (rnd:∀ n k t d,k<=512->DI P near wt s k t d->(∃ t',DF P near wt s t'/\M (n+1) t d=fin t')\/(∃ t' p,0<=p/\p <(P:Int)/\DI P near wt s (k+1) t' (zr d p true)/\M (n+1) t d=M n t' (zr d p true))) :
  ∀ n k t d,DI P near wt s k t d->P<n+k->∃ t',DF P near wt s t'/\M n t d=fin t':=by
 intro n
 induction n with
 | zero=>
  intro k t d h hn
  have hk:k<=P:=by rw [<- h.cnt,<- h.ld]; exact w46
  omega
 | succ n ih=>
  intro k t d h hn
  have hk:k<=P:=by rw [<- h.cnt,<- h.ld]; exact w46
  have:=hG.small
  rcases rnd n k t d (by omega) h with h1 |⟨t',p,_,_,h2,h3⟩
  ·exact h1
  ·rw [h3]
   exact ih (k+1) t' _ h2 (by omega)
end walk
end Px
end
section
namespace Px
open Go
section
variable (φ:Nat) (K:List Edge->Int->Int->z00->List (List Int)->Ln->Option (zp×Int×Unit)) (x:z00)
theorem zht {i:Nat} (hi:i<x.edges.length) {P:Nat} {near:List (List Int)} {line:Ln} {a b:Int} (hl:near.length=P) (ha:0<=a) (ha':a <(P:Int)) (hsz :(gt near a).length<=10000) (hx:x.edges.length<=2048) (hold:∀ o,lget line a b=some o->0<=o/\o <(x.edges.length:Int)) :
  (if(!(lget line a b).isSome)=true then(ck ((0:Int)<=a/\a <(near.length:Int)) (ck ((0:Int)<=a/\a <(near.length:Int)) (ck ((a:Int)=a) (ck (fits ((gt near a).length +([b]).length) 8) (ck ((0:Int)<=a/\a <(near.length:Int)) (ck ((a:Int)=a) (z3s φ K i ((lget line a b).getD default) ((lget line a b).isSome) x.edges (x.edges.length:Int) i x (keyP a b) (zr near a (gt near a++[b])) line))))))) else(z3s φ K i ((lget line a b).getD default) ((lget line a b).isSome) x.edges (x.edges.length:Int) i x (keyP a b) near line)) =
  K x.edges (x.edges.length:Int) ((i:Int)+1) x (ent1 x.edges i a b (near,line)).1 (ent1 x.edges i a b (near,line)).2:=by
 have hW:W ((i:Int)+1) =(i:Int)+1:=W_id (by omega) (by omega)
 unfold z3s ent1
 simp only []
 cases h:lget line a b with
 | none=>
  simp only [w4g,w2m,if_true,w4w,Bool.true_or]
  rw [z6 ⟨ha,by omega⟩,z6 ⟨ha,by omega⟩,z6 trivial,z6 (y4p (by simp; omega) (by omega)),z6 ⟨ha,by omega⟩,z6 trivial,z6 (by simp),z6 (by simp),hW]
 | some o=>
  have ho:=hold o h
  simp only [w4h,w25,w0w,if_false,w10,w26]
  rw [z6 (fun _=>⟨by omega,by omega⟩),z6 (fun _=>ho),hW]
  by_cases c:decide ((gt x.edges (i:Int)).minutes <(gt x.edges o).minutes)=true
  ·rw [if_pos c,if_pos c]
  ·rw [if_neg c,if_neg c]
theorem zqt {i:Nat} (hi:i<x.edges.length) {P:Nat} {near:List (List Int)} {line:Ln} {a b:Int} (hl:near.length=P) (ha:0<=a) (ha':a <(P:Int)) (hsz :(gt near a).length<=10000) (hx:x.edges.length<=2048) (hold:∀ o,lget line a b=some o->0<=o/\o <(x.edges.length:Int)) :
  (if(!(lget line a b).isSome)=true then(ck ((0:Int)<=a/\a <(near.length:Int)) (ck ((0:Int)<=a/\a <(near.length:Int)) (ck ((a:Int)=a) (ck (fits ((gt near a).length +([b]).length) 8) (ck ((0:Int)<=a/\a <(near.length:Int)) (ck ((a:Int)=a) (z45 φ K i ((lget line a b).getD default) ((lget line a b).isSome) x.edges (x.edges.length:Int) i x (keyP a b) (zr near a (gt near a++[b])) line))))))) else(z45 φ K i ((lget line a b).getD default) ((lget line a b).isSome) x.edges (x.edges.length:Int) i x (keyP a b) near line)) =
  K x.edges (x.edges.length:Int) ((i:Int)+1) x (ent1 x.edges i a b (near,line)).1 (ent1 x.edges i a b (near,line)).2:=zht φ K x hi hl ha ha' hsz hx hold
theorem zi4 (hx:zk2 x) {i:Nat} (hi:i<x.edges.length) {near near1:List (List Int)} {line:Ln} (old:Int) (sm:Bool) (hl:near1.length=x.places.length) (ho:sm=true->0<=old/\old <(x.edges.length:Int))
  (hsz :(gt near1 (gt x.edges (i:Int)).b).length<=10000) (hline:∀ a b o,lget line a b=some o->0<=o/\o <(x.edges.length:Int)) (line1:Ln) (h1:line1=if(!sm||decide ((gt x.edges (i:Int)).minutes <(gt x.edges old).minutes))=true then lset line (gt x.edges (i:Int)).a (gt x.edges (i:Int)).b i else line) :
  z43 φ K i old sm i x.edges (x.edges.length:Int) i x (keyP (gt x.edges (i:Int)).a (gt x.edges (i:Int)).b) (gt x.edges (i:Int)) near1 line =
  K x.edges (x.edges.length:Int) ((i:Int)+1) x (ent1 x.edges i (gt x.edges (i:Int)).b (gt x.edges (i:Int)).a (near1,line1)).1 (ent1 x.edges i (gt x.edges (i:Int)).b (gt x.edges (i:Int)).a (near1,line1)).2:=by
 obtain⟨e1,e2,e3,e4,e5,_⟩:=hx.ends (i:=(i:Int)) (by omega) (by omega)
 unfold z43
 rw [z6 (fun _=>⟨by omega,by omega⟩),z6 (fun h=>ho (by simpa using h))]
 by_cases c :(!sm||decide ((gt x.edges (i:Int)).minutes <(gt x.edges old).minutes))=true
 ·rw [if_pos c] at h1 ⊢
  subst h1
  refine zht φ K x hi hl e3 e4 hsz hx.edges fun o h=>?_
  rw [zla,if_neg (fun q=>e5 q.1.symm)] at h
  exact hline _ _ o h
 ·rw [if_neg c] at h1 ⊢
  subst h1
  exact zqt φ K x hi hl e3 e4 hsz hx.edges fun o h=>hline _ _ o h
end
section
variable (φ:Nat) (x:z00)
theorem zw4 (hx:zk2 x) (n:Nat) {i:Nat} (hi:i<x.edges.length) {s:List (List Int)×Ln} (h:HI x.edges x.places.length i s) :
  z04 φ (n+1) x.edges (x.edges.length:Int) i x s.1 s.2=z04 φ n x.edges (x.edges.length:Int) ((i:Int)+1) x (entE x.edges i s).1 (entE x.edges i s).2:=by
 obtain⟨e1,e2,e3,e4,e5,_⟩:=hx.ends (i:=(i:Int)) (by omega) (by omega)
 have hE:=hx.edges
 have hline:∀ a b o,lget s.2 a b=some o->0<=o/\o <(x.edges.length:Int):=fun a b o ho=>by
  obtain⟨h1,h2,_⟩:=h.line _ _ _ ho
  exact⟨h1,by omega⟩
 have hsa:=h.size _ e1 e2
 have hsb:=h.size _ e3 e4
 have hlen:=h.len
 rw [z04,if_pos (by simp; omega),z6 ⟨by omega,by omega⟩]
 unfold entE
 generalize hs1:ent1 x.edges i (gt x.edges (i:Int)).a (gt x.edges (i:Int)).b s=s1
 have hs1':=hs1
 unfold ent1 at hs1'
 cases hg:lget s.2 (gt x.edges (i:Int)).a (gt x.edges (i:Int)).b with
 | none=>
  have hg':cget z4m s.2 (upd (upd (fun _=>(default:Int)) 0 (gt x.edges (i:Int)).a) 1 (gt x.edges (i:Int)).b)=none:=hg
  rw [hg] at hs1'
  simp only [w4g,w2m,if_true,w4w,Bool.true_or] at hs1'
  rw [hg']
  simp only [w4g,w2m,if_true,w4w]
  rw [z6 ⟨e1,by omega⟩,z6 ⟨e1,by omega⟩,z6 trivial,z6 (y4p (by simp; omega) (by omega)),z6 ⟨e1,by omega⟩,z6 trivial,<- hs1']
  refine zi4 φ (z04 φ n) x hx hi (near:=s.1) _ _ (by rw [z08]; exact hlen) (fun h=>by cases h) ?_ hline _ (by simp)
  rw [z0r _ _ _ _ e1 (by omega) e3,if_neg (fun q=>e5 q.symm)]
  omega
 | some o=>
  have hg':cget z4m s.2 (upd (upd (fun _=>(default:Int)) 0 (gt x.edges (i:Int)).a) 1 (gt x.edges (i:Int)).b)=some o:=hg
  rw [hg] at hs1'
  simp only [w4h,w25,w0w,if_false,w10,w26] at hs1'
  rw [hg']
  simp only [w4h,w25,w0w,if_false,w10]
  rw [<- hs1']
  exact zi4 φ (z04 φ n) x hx hi (near:=s.1) _ _ hlen (fun _=>hline _ _ _ hg) (by omega) hline _ (by simp)
theorem zvp (hx:zk2 x) (hφ:5000<φ) (line:Ln):z1w φ φ ((zg0 x).length:Int) 0 (zg0 x) line=some (⟨z5j x,line⟩,0,()):=by
 have hl0 :(zg0 x).length=x.places.length:=(zec hx x.edges.length (w18 _)).len
 have hP:=hx.places
 have hE:=hx.edges
 obtain⟨n0,hn0⟩:∃ n0,n0=x.places.length:=⟨_,rfl⟩
 rw [<- hn0] at hl0 hP
 rw [hl0]
 have hfin:∀ o:List (List Int),o.length=n0->(∀ w:Nat,w<n0->gt o (w:Int)=znd (fun a b=>decide (a<b)) (gt (zg0 x) (w:Int)))->o=z5j x:=by
  intro o ho hw
  unfold z5j
  refine List.ext_getElem (by simp [ho,hl0]) fun i h1 h2=>?_
  have:=hw i (by omega)
  rw [z6g h1,z6g (by omega)] at this
  simpa using this
 refine z0h (fun n i o=>z1w φ n (n0:Int) i o line) n0 (fun i o=>o.length=n0/\∀ w:Nat,w<n0->gt o (w:Int)=if w<i then znd (fun a b=>decide (a<b)) (gt (zg0 x) (w:Int)) else gt (zg0 x) (w:Int)) (fun o=>o=some (⟨z5j x,line⟩,0,())) ?_ ?_ φ (zg0 x) ⟨hl0,fun w hw=>by rw [if_neg (by omega)]⟩ (by omega)
 ·intro n i o hi ⟨ho1,ho2⟩ hs
  have hsz:=(zec hx x.edges.length (w18 _)).size (i:Int) (by omega) (by omega)
  have hsz :(gt (zg0 x) (i:Int)).length<=2*x.edges.length:=hsz
  have hso:znu (gt (zg0 x) (i:Int))=some (znd (fun a b=>decide (a<b)) (gt (zg0 x) (i:Int))):=by
   unfold znu zio; rw [if_pos (by omega)]
  rw [z1w,if_pos (by simp; omega),z6 ⟨by omega,by omega⟩,z6 ⟨by omega,by omega⟩,z6 rfl,ho2 i hi,if_neg (by omega),hso,w04,W_id (by omega) (by omega)]
  refine hs _ ⟨by rw [z08]; exact ho1,fun w hw=>?_⟩
  rw [z0r _ _ _ _ (by omega) (by omega) (by omega)]
  by_cases e:w=i
  ·subst e; rw [if_pos rfl,if_pos (by omega)]
  ·rw [if_neg (by omega),ho2 w hw]
   by_cases h2:w<i
   ·rw [if_pos h2,if_pos (by omega)]
   ·rw [if_neg h2,if_neg (by omega)]
 ·intro n o ⟨ho1,ho2⟩
  have:=hfin o ho1 fun w hw=>by rw [ho2 w hw,if_pos hw]
  subst this
  rw [z1w,if_neg (by simp)]
theorem zwj (hx:zk2 x) (hφ:5000<φ):z04 φ φ x.edges (x.edges.length:Int) 0 x (List.replicate ((x.places.length:Int)).toNat (default:List Int)) []=some (⟨z5j x,z91 x⟩,0,()):=by
 have hE:=hx.edges
 have h0 :(List.replicate ((x.places.length:Int)).toNat (default:List Int),([]:Ln))=zhr x.edges x.places.length 0:=by simp [zhr]
 refine z0h (fun n i (s:List (List Int)×Ln)=>z04 φ n x.edges (x.edges.length:Int) i x s.1 s.2) x.edges.length (fun i s=>s=zhr x.edges x.places.length i) (fun o=>o=some (⟨z5j x,z91 x⟩,0,())) ?_ ?_ φ (List.replicate ((x.places.length:Int)).toNat (default:List Int),[]) h0 (by omega)
 ·intro n i s hi hs hk
  subst hs
  rw [zw4 φ x hx n hi (zec hx i (by omega))]
  exact hk _ rfl
 ·intro n s hs
  subst hs
  rw [z04,if_neg (by simp)]
  exact zvp φ x hx hφ (z91 x)
theorem zzw (hx:zk2 x) (hφ:800000<φ) (a0:Int) (hs:0<=a0) (hs':a0 <(x.places.length:Int)):∃ t,DF x.places.length (z5j x) (wtN x) a0 t/\z8m φ x ⟨z5j x,z91 x⟩ a0=some (t,()):=by
 have hG:=grN hx
 have hP:=hx.places
 have hrep :(List.replicate ((x.places.length:Int):Int).toNat (default:Int)).length=x.places.length:=by simp
 unfold z8m
 rw [hrep]
 have e1 :((x.places.length:Int)).toNat=x.places.length:=by simp
 rw [e1,z6 (mk_t _ _ (by omega) (by omega) (by omega)),z6 (mk_t _ _ (by omega) (by omega) (by omega))]
 have search:∀ t:List Int,t.length=x.places.length->(∀ i:Int,0<=i->i <(x.places.length:Int)->gt t i=if i=a0 then 0 else -1)->
   ∃ t',DF x.places.length (z5j x) (wtN x) a0 t'/\z03 φ φ x ⟨z5j x,z91 x⟩ t (List.replicate x.places.length (default:Bool))=some (t',()):=by
  intro t ht hall
  refine y1f hG hs hs' (fun n t d=>z03 φ n x ⟨z5j x,z91 x⟩ t d) (fun t'=>some (t',())) φ ?_ φ 0 t _ (y2m hs hs' t ht hall) (by omega)
  intro n k t d hk hD
  obtain⟨p,hp1,hp2⟩:=ya2 hP (fun m p i=>z1o φ (z03 φ n) m p (x.places.length:Int) i x ⟨z5j x,z91 x⟩ t d)
   (fun p=>(if(decide ((p:Int)<0))=true then(some (t,())) else(ck ((0:Int)<=p/\p <(d.length:Int)) (ck ((0:Int)<=p/\p <((z5j x).length:Int)) (z1s φ (z03 φ n) φ p (gt (z5j x) p) ((gt (z5j x) p).length:Int) 0 x ⟨z5j x,z91 x⟩ t (zr d p true))))))
   t d hD.lt hD.ld (fun m p i=>by rw [z1o]) φ (by omega)
  have hM:z03 φ (n+1) x ⟨z5j x,z91 x⟩ t d=z1o φ (z03 φ n) φ (-1) (x.places.length:Int) 0 x ⟨z5j x,z91 x⟩ t d:=by
   rw [z03,hD.lt]
  try simp only [] at hp1
  simp only [hM]
  rw [hp1]
  rcases hp2 with⟨rfl,hall⟩ |⟨p0,p1,p2,p3,p4⟩
  ·left
   refine⟨t,ybe hG hD hall,?_⟩
   rw [if_pos (by decide)]
  ·right
   rw [if_neg (by simp; omega),z6 ⟨p0,by rw [hD.ld]; exact p1⟩,z6 ⟨p0,by rw [hG.len]; exact p1⟩]
   obtain⟨t',h1,h2⟩:=y9x hG p0 p1 hk hD p2 (fun m i t=>z1s φ (z03 φ n) m p (gt (z5j x) p) ((gt (z5j x) p).length:Int) i x ⟨z5j x,z91 x⟩ t (zr d p true))
    (fun t=>z03 φ n x ⟨z5j x,z91 x⟩ t (zr d p true)) (gt (z5j x) p) rfl x.edges.length (fun q=>(lget (z91 x) p q).getD default) (fun i=>(gt x.edges i).minutes)
    (fun q hq=>by
     obtain⟨i,hi,i0,i1,_⟩:=zo3 hx p0 p1 hq
     rw [hi]
     exact⟨i0,i1,by unfold wtN; rw [hi]⟩) (fun m i t=>by rw [z1s]) φ (by have:=hG.size p p0 p1; omega)
   exact⟨t',p,p0,p1,y0y hG p0 p1 hD hs hs' p2 p3 p4 h2,h1⟩
 refine z0h (fun n i t=>z2t φ n a0 (x.places.length:Int) i x ⟨z5j x,z91 x⟩ t (List.replicate x.places.length (default:Bool))) x.places.length (fun i t=>t.length=x.places.length/\∀ j:Int,0<=j->j <(i:Int)->gt t j=-1) (fun o=>∃ t,DF x.places.length (z5j x) (wtN x) a0 t/\o=some (t,())) ?_ ?_ φ (List.replicate x.places.length (default:Int)) ⟨by simp,fun j j0 j1=>by omega⟩ (by omega)
 ·intro n i t hi ⟨h1,h2⟩ hs
  rw [z2t,if_pos (by simp; omega),z6 ⟨by omega,by omega⟩,W_id (by omega) (by omega)]
  refine hs _ ⟨by rw [z08]; exact h1,fun j j0 j1=>?_⟩
  rw [z0r _ _ _ _ (by omega) (by omega) j0]
  by_cases e:j =(i:Int)
  ·rw [if_pos e]
  ·rw [if_neg e]; exact h2 j j0 (by omega)
 ·intro n t ⟨h1,h2⟩
  rw [z2t,if_neg (by simp),z6 ⟨hs,by omega⟩]
  exact search (zr t a0 0) (by rw [z08]; exact h1) (fun i i0 i1=>by
   rw [z0r _ _ _ _ hs (by omega) i0]
   split
   ·rfl
   ·exact h2 i i0 i1)
end
theorem y2c (φ:Nat) (hφ:800000<φ) (x:z00) (a b:Int):∃ e,(z9a x=0/\(0<=a/\a <(x.places.length:Int))/\(0<=b/\b <(x.places.length:Int))/\z6t φ x [a,b]=some (⟨z5j x,z91 x⟩,0,()))\/(e≠0/\∃ g,z6t φ x [a,b]=some (g,e,())):=by
 unfold z6t
 rw [zck _ (by omega),w04]
 by_cases hn:z9a x=0
 case neg=>exact⟨z9a x,.inr ⟨hn,_,by rw [if_pos (by simpa using hn)]⟩⟩
 have hx:=yah hn
 have hP:=hx.places
 rw [if_neg (by simp [hn])]
 obtain⟨m,rfl⟩:∃ m,φ=m+3:=⟨φ-3,by omega⟩
 have g0:gt [a,b] 0=a:=rfl
 have g1:gt [a,b] 1=b:=rfl
 have L :((([a,b]:List Int).length:Nat):Int)=2:=rfl
 rw [L,show m+3 =(m+2)+1 from rfl,z3d,if_pos (by decide),z6 (by rw [L]; decide),g0]
 by_cases ha:0<=a/\a <(x.places.length:Int)
 case neg=>
  rw [if_pos (by simp; omega)]
  exact⟨1,.inr ⟨by omega,_,rfl⟩⟩
 rw [if_neg (by simp; omega),show W (0+1)=1 by rfl,show m+2 =(m+1)+1 from rfl,z3d,if_pos (by decide),z6 (by rw [L]; decide),g1]
 by_cases hb:0<=b/\b <(x.places.length:Int)
 case neg=>
  rw [if_pos (by simp; omega)]
  exact⟨1,.inr ⟨by omega,_,rfl⟩⟩
 rw [if_neg (by simp; omega),show W (1+1)=2 by rfl,z3d,if_neg (by decide),z6 (mk_t _ _ (by omega) (by omega) (by omega)),zwj (m+1+1+1) x hx (by omega)]
 exact⟨0,.inl ⟨hn,ha,hb,rfl⟩⟩
theorem zvv (φ:Nat) (hφ:800000<φ) (x:z00) (a b:Int):∃ t e,z23 φ x a b=some (t,e,())/\0<=t/\t<=51200000:=by
 unfold z23
 obtain⟨e,⟨hn,ha,hb,h⟩ |⟨he,g,h⟩⟩:=y2c φ hφ x a b
 ·have hx:=yah hn
  rw [h,w04,if_neg (by simp)]
  obtain⟨t,h1,h2⟩:=zzw φ x hx hφ a ha.1 ha.2
  rw [h2,w04,z6 ⟨hb.1,by rw [h1.lt]; exact hb.2⟩]
  rcases h1.bd b hb.1 hb.2 with h3 |⟨h3,h4⟩
  ·rw [if_pos (by simp; omega)]
   exact⟨0,80,rfl,by omega,by omega⟩
  ·rw [if_neg (by simp; omega)]
   exact⟨_,0,rfl,h3,h4⟩
 ·rw [h,w04,if_pos (by simpa using he)]
  exact⟨0,e,rfl,by omega,by omega⟩
end Px
end
section
namespace Px
open Go
theorem ybf (φ:Nat) (hφ:800000<φ):zh5 φ:=zvv φ hφ
end Px
end
section
namespace Px
open Go
theorem zza (φ:Nat) (p:Pool) (s:List zb) (o:List zk) :(z35 φ).F (p,s,o,())=z2i φ p s o:=rfl
theorem zev (y:Tup TT [26,36,37]) (h:y76 TV 30 [26,36,37] y):∃ φ,(z35 φ).F y=some (true,()):=by
 obtain⟨p,s,o,u⟩:=y
 cases u
 change Pool at p
 change List zb at s
 change List zk at o
 suffices key:∀ φ:Nat,60000000<φ->zbl φ=some (true,())->z2i φ p s o=some (true,()) from⟨100000000,(zza _ p s o).trans (key _ (by omega) y9p)⟩
 intro φ hφ hsane
 exact zpz hφ (ybf φ (by omega)) hsane p s o
end Px
end
