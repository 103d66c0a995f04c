/- A part of the proof of sightTruth_holds. Conditions: none. -/
import Derived.Test.YtlejlmkoalncgaaGreatZtac
set_option linter.unusedVariables false
set_option linter.unusedSimpArgs false
section
namespace Px
open Go Go.RowKit
section reg
variable {P:Program} {C:Cx P} {ops:Array Oper} {tab:Tab} {Q:Exit->Act->World->Prop}
theorem Reg.withInv {D:List Nat} {s:St} {QR:List (Nat×VP)} (h :(∃ r S w,WInv C.w0 C.base s.objs r S w)->Reg C ops tab Q D s QR):Reg C ops tab Q D s QR:=
 fun fuel listed a w E r S hN hd hn hw he hs hf=>h ⟨r,S,w,hw⟩ fuel listed a w E r S hN hd hn hw he hs hf
theorem Reg.weak {D:List Nat} {s s':St} {QR QR':List (Nat×VP)} (hs:∀ a r w,zh s.slots a r w->zh s'.slots a r w) (ho:ObW s.objs s'.objs) (hk:∀ q∈QR.map (·.1),q∈QR'.map (·.1))
  (hf:∀ p∈QR',p.1∈QR.map (·.1)->∃ x,(p.1,x)∈QR/\Ent x p.2) (h:Reg C ops tab Q D s' QR'):Reg C ops tab Q D s QR:=by
 intro fuel listed a w E r S hN hd hn hw he hsl hfa
 obtain⟨S',hw'⟩:=ho _ _ _ _ _ hw
 refine h fuel listed a w E r S' ⟨hN.closed,hN.size,hN.lst,fun q hq=>hk q (hN.sub q hq),hN.fuel⟩ hd hn hw' he (hs _ _ _ hsl) ?_
 intro q x t hq hm ht
 obtain⟨x0,h1,h2⟩:=hf (q,x) hm (hN.sub q hq)
 exact h2 _ _ _ (hfa q x0 t hq h1 ht)
theorem Reg.last {D:List Nat} {s:St} {QR:List (Nat×VP)} (l:Nat) (sure:List Nat) (htab:z02 ops=tab) (hchk:chk tab C.n D (QR.map (·.1)) [l] sure=true) (hnone':zri tab s.slots QR)
  (hQ':AllP (fun p=>memB sure p.1=false->∃ o,ops[p.1]? = some o/\GQ C tab o ⟨z2y tab (memB (tab.deps p.1)) s.slots QR,s.objs⟩ p.2) QR)
  (hcl :(QR.map (·.1)).all (fun q=>(l::(D++QR.map (·.1))).any fun j=>memB (Tab.deps tab j) q)=true) (hall :(List.range ops.size).all (fun q=>Nat.beq q l||memB D q||memB (QR.map (·.1)) q)=true)
  {o:Oper} (ho:ops[l]? = some o) (hg:o.guard=none) (hl:zav tab D (QR.map (·.1))=false)
  (hW:∀ a w,Sat C ⟨z2y tab (fun _=>true) s.slots QR,s.objs⟩ a w->o.wp P a w (Q .normal) Q):Reg C ops tab Q D s QR:=by
 refine Reg.introW [] [l] sure htab hchk hnone' hQ' trivial ?_ (fun hc=>by rw [hl] at hc; cases hc)
 intro i hi fuel listed a w E r S hN hd hn hw he hs hf hisz hdeps hoth
 simp only [List.mem_singleton] at hi
 subst hi
 have hk3:∀ q∈QR.map (·.1),q ∉ D/\q<tab.length:=by
  intro q hq
  simp only [chk,Bool.and_eq_true,List.all_eq_true,decide_eq_true_eq] at hchk
  obtain⟨⟨⟨_,h1⟩,h2⟩,_⟩:=hchk.1.1.2 q hq
  exact⟨fun h=>by rw [zx.2 h] at h1; simp at h1,h2⟩
 have hk5:∀ j,j<tab.length->∀ e∈tab.deps j,e<j:=by
  intro j hj e hej
  simp only [chk,Bool.and_eq_true,List.all_eq_true,decide_eq_true_eq,List.mem_range] at hchk
  exact hchk.2 j hj e hej
 have key:∀ m q,q∈QR.map (·.1)->tab.length<=m+q->q∈E:=by
  intro m
  induction m with
  | zero=>intro q hq hm; have:=(hk3 q hq).2; omega
  | succ m ihm=>
   intro q hq hm
   have h1:=List.all_eq_true.1 hcl q hq
   obtain⟨j,hj,hd⟩:=List.any_eq_true.1 h1
   have hd:=zx.1 hd
   rcases List.mem_cons.1 hj with rfl | hj
   ·exact(hdeps q hd).resolve_left (hk3 q hq).1
   rcases List.mem_append.1 hj with hj | hj
   ·exact(hN.closed j (.inl hj) q hd).resolve_left (hk3 q hq).1
   ·have hlt:=hk5 j (hk3 j hj).2 q hd
    exact(hN.closed j (.inr (ihm j hj (by omega))) q hd).resolve_left (hk3 q hq).1
 have hkeys:∀ q∈QR.map (·.1),q∈E:=fun q hq=>key tab.length q hq (by omega)
 have hlis:∀ j,j<ops.size->j≠i->listed.getD j true=true:=by
  intro j hj hne
  cases hb:listed.getD j true with
  | true=>rfl
  | false=>
   obtain⟨h1,h2⟩:=hoth j hj hb hne
   have:=List.all_eq_true.1 hall j (by simpa using hj)
   simp only [Bool.or_eq_true] at this
   rcases this with(q | q) | q
   ·exact absurd (Nat.eq_of_beq_eq_true q) hne
   ·exact absurd (zx.1 q) h1
   ·exact absurd (hkeys j (zx.1 q)) h2
 have hget:∀ j,(listed.setIfInBounds i true).getD j true=true\/ops.size<=j:=by
  intro j
  by_cases hj:j<ops.size
  ·refine .inl ?_
   by_cases e:j=i
   ·subst e
    by_cases hb:j<listed.size <;> simp [hb]
   ·have:¬ i=j:=fun h=>e h.symm
    have h2:=hlis j hj e
    simp [Array.getElem?_setIfInBounds_ne this]
    simpa using h2
  ·exact .inr (by omega)
 have hfin:∀ a' w',Q .normal a' w'->wpAny P .any ops Q fuel (listed.setIfInBounds i true) a' w':=by
  intro a' w' hq
  have hr:Region.ready .any ops (listed.setIfInBounds i true) = []:=by
   apply List.eq_nil_iff_forall_not_mem.2
   intro j hj
   obtain⟨h1,h2,_⟩:=ze5 hj
   rcases hget j with h | h
   ·rw [h] at h2; cases h2
   ·omega
  cases fuel with
  | zero=>exact⟨hr,hq⟩
  | succ fuel=>exact⟨fun _=>hq,fun j hj=>by rw [hr] at hj; cases hj⟩
 unfold wpOp
 rw [ho]
 simp only [Region.wanted,hg,if_true]
 refine .inl (Oper.wp_mono hfin ?_)
 exact hW a w ⟨hd,hn,r,S,hw,he,zec hs fun q x t hm _ ht=>hf q x t (hkeys q (List.mem_map.2 ⟨_,hm,rfl⟩)) hm ht⟩
theorem Reg.last2 {D:List Nat} {s:St} {QR:List (Nat×VP)} (l m:Nat) (sure:List Nat) (htab:z02 ops=tab) (hchk:chk tab C.n D (QR.map (·.1)) [l] sure=true) (hnone':zri tab s.slots QR)
  (hQ':AllP (fun p=>memB sure p.1=false->∃ o,ops[p.1]? = some o/\GQ C tab o ⟨z2y tab (memB (tab.deps p.1)) s.slots QR,s.objs⟩ p.2) QR)
  (hcl :(QR.map (·.1)).all (fun q=>(l::(D++QR.map (·.1))).any fun j=>memB (Tab.deps tab j) q)=true) (hall :(List.range ops.size).all (fun q=>Nat.beq q l||Nat.beq q m||memB D q||memB (QR.map (·.1)) q)=true)
  {o o2:Oper} (ho:ops[l]? = some o) (hg:o.guard=none) (ho2:ops[m]? = some o2) (hg2:o2.guard=none) (hlm:l<m) (hlD:memB D l=false) (hlK:memB (QR.map (·.1)) l=false) (hmD:memB D m=false) (hmK:memB (QR.map (·.1)) m=false) (hl:zav tab D (QR.map (·.1))=false)
  (hW:∀ a w,Sat C ⟨z2y tab (fun _=>true) s.slots QR,s.objs⟩ a w->o.wp P a w (fun a' w'=>o2.wp P a' w' (Q .normal) Q) Q):Reg C ops tab Q D s QR:=by
 refine Reg.introW [] [l] sure htab hchk hnone' hQ' trivial ?_ (fun hc=>by rw [hl] at hc; cases hc)
 intro i hi fuel listed a w E r S hN hd hn hw he hs hf hisz hdeps hoth
 simp only [List.mem_singleton] at hi
 subst hi
 have hlen:=zmd htab
 have hmsz:m<ops.size:=(Array.getElem?_eq_some_iff.1 ho2).1
 have hk3:∀ q∈QR.map (·.1),q ∉ D/\q<tab.length:=by
  intro q hq
  simp only [chk,Bool.and_eq_true,List.all_eq_true,decide_eq_true_eq] at hchk
  obtain⟨⟨⟨_,h1⟩,h2⟩,_⟩:=hchk.1.1.2 q hq
  exact⟨fun h=>by rw [zx.2 h] at h1; simp at h1,h2⟩
 have hk5:∀ j,j<tab.length->∀ e∈tab.deps j,e<j:=by
  intro j hj e hej
  simp only [chk,Bool.and_eq_true,List.all_eq_true,decide_eq_true_eq,List.mem_range] at hchk
  exact hchk.2 j hj e hej
 have key:∀ m q,q∈QR.map (·.1)->tab.length<=m+q->q∈E:=by
  intro m
  induction m with
  | zero=>intro q hq hm; have:=(hk3 q hq).2; omega
  | succ m ihm=>
   intro q hq hm
   have h1:=List.all_eq_true.1 hcl q hq
   obtain⟨j,hj,hd⟩:=List.any_eq_true.1 h1
   have hd:=zx.1 hd
   rcases List.mem_cons.1 hj with rfl | hj
   ·exact(hdeps q hd).resolve_left (hk3 q hq).1
   rcases List.mem_append.1 hj with hj | hj
   ·exact(hN.closed j (.inl hj) q hd).resolve_left (hk3 q hq).1
   ·have hlt:=hk5 j (hk3 j hj).2 q hd
    exact(hN.closed j (.inr (ihm j hj (by omega))) q hd).resolve_left (hk3 q hq).1
 have hkeys:∀ q∈QR.map (·.1),q∈E:=fun q hq=>key tab.length q hq (by omega)
 have hmE:m ∉ E:=fun h=>by
  have:=hN.sub m h
  rw [zx.2 this] at hmK; cases hmK
 have hmD':m ∉ D:=fun h=>by rw [zx.2 h] at hmD; cases hmD
 have hmun:listed.getD m true=false:=by
  cases hb:listed.getD m true with
  | false=>rfl
  | true=>
   exfalso
   rcases(hN.lst m hmsz).1 hb with h | h
   ·exact hmD' h
   ·exact hmE h
 have hlis:∀ j,j<ops.size->j≠i->j≠m->listed.getD j true=true:=by
  intro j hj hne hnm
  cases hb:listed.getD j true with
  | true=>rfl
  | false=>
   obtain⟨h1,h2⟩:=hoth j hj hb hne
   have:=List.all_eq_true.1 hall j (by simpa using hj)
   simp only [Bool.or_eq_true] at this
   rcases this with((q | q) | q) | q
   ·exact absurd (Nat.eq_of_beq_eq_true q) hne
   ·exact absurd (Nat.eq_of_beq_eq_true q) hnm
   ·exact absurd (zx.1 q) h1
   ·exact absurd (hkeys j (zx.1 q)) h2
 have hsz:=hN.size
 have hset:∀(L:Array Bool) (x j:Nat),L.size=ops.size->(L.setIfInBounds x true).getD j true=if j=x then true else L.getD j true:=by
  intro L x j hL
  by_cases e:j=x
  ·subst e
   by_cases hb:j<L.size <;> simp [hb]
  ·have:¬ x=j:=fun h=>e h.symm
   simp [e,Array.getElem?_setIfInBounds_ne this]
 have h1:∀ j,j<ops.size->j≠m->(listed.setIfInBounds i true).getD j true=true:=fun j hj hnm=>by
  rw [hset _ _ _ hsz]
  by_cases e:j=i
  ·rw [if_pos e]
  ·rw [if_neg e]; exact hlis j hj e hnm
 have h1m :(listed.setIfInBounds i true).getD m true=false:=by rw [hset _ _ _ hsz,if_neg (by omega)]; exact hmun
 have hs1 :(listed.setIfInBounds i true).size=ops.size:=by simp [hsz]
 have h2:∀ j,j<ops.size->((listed.setIfInBounds i true).setIfInBounds m true).getD j true=true:=fun j hj=>by
  rw [hset _ _ _ hs1]
  by_cases e:j=m
  ·rw [if_pos e]
  ·rw [if_neg e]; exact h1 j hj e
 have hr2:Region.ready .any ops ((listed.setIfInBounds i true).setIfInBounds m true) = []:=by
  apply List.eq_nil_iff_forall_not_mem.2
  intro j hj
  obtain⟨q1,q2,_⟩:=ze5 hj
  rw [h2 j q1] at q2; cases q2
 have gd:∀(L:Array Bool) (k:Nat),k<L.size->L.getD k true=true->L.getD k false=true:=fun L k hk h=>by
  simp [hk] at h ⊢
  exact h
 have hmr:m∈Region.ready .any ops (listed.setIfInBounds i true):=by
  simp only [Region.ready,List.mem_filter,List.mem_range,Bool.and_eq_true,Bool.not_eq_true']
  refine⟨hmsz,h1m,?_⟩
  simp only [Array.getElem?_eq_getElem hmsz,Option.map_some,Option.getD_some,Array.all_eq_true_iff_forall_mem]
  intro e hem
  by_cases hb:Region.binds .any e=true
  ·simp only [hb,Bool.not_true,Bool.false_or]
   have htb:=zof htab (i:=m) (o:=ops[m]) (by simp [hmsz])
   have hlt:=hk5 m (by omega) e.on (by
    simp only [Tab.deps,htb]
    exact List.mem_map.2 ⟨e,List.mem_filter.2 ⟨by simpa using hem,hb⟩,rfl⟩)
   have:=h1 e.on (by omega) (by omega)
   have hb':e.on <(listed.setIfInBounds i true).size:=by rw [hs1]; omega
   exact gd _ _ hb' this
  ·simp [hb]
 have hf2:fuel=0->False:=fun e=>by
  have hc:=hN.fuel
  have hnd :((List.range ops.size).filter fun i=>!listed.getD i true).Nodup:=List.nodup_range.sublist List.filter_sublist
  have m1:i∈(List.range ops.size).filter fun i=>!listed.getD i true:=by
   refine List.mem_filter.2 ⟨List.mem_range.2 hisz,?_⟩
   cases hb:listed.getD i true with
   | false=>rfl
   | true=>
    exfalso
    rcases(hN.lst i hisz).1 hb with h | h
    ·rw [zx.2 h] at hlD; cases hlD
    ·have:=hN.sub i h
     rw [zx.2 this] at hlK; cases hlK
  have m2:m∈(List.range ops.size).filter fun i=>!listed.getD i true:=List.mem_filter.2 ⟨List.mem_range.2 hmsz,by rw [hmun]; rfl⟩
  rw [e] at hc
  obtain⟨x,hx⟩:=List.length_eq_one_iff.1 hc
  rw [hx] at m1 m2
  simp only [List.mem_singleton] at m1 m2
  omega
 have hfin:∀ a' w',o2.wp P a' w' (Q .normal) Q->wpAny P .any ops Q fuel (listed.setIfInBounds i true) a' w':=by
  intro a' w' hq
  cases fuel with
  | zero=>exact(hf2 rfl).elim
  | succ fuel=>
   refine⟨fun hr=>(by rw [hr] at hmr; cases hmr),fun j hj=>?_⟩
   obtain⟨q1,q2,_⟩:=ze5 hj
   have hjm:j=m:=by
    by_cases e:j=m
    ·exact e
    ·rw [h1 j q1 e] at q2; cases q2
   subst hjm
   unfold wpOp
   rw [ho2]
   simp only [Region.wanted,hg2,if_true]
   refine .inl (Oper.wp_mono (fun a2 w2 hq2=>?_) hq)
   cases fuel with
   | zero=>exact⟨hr2,hq2⟩
   | succ fuel=>exact⟨fun _=>hq2,fun j hj=>by rw [hr2] at hj; cases hj⟩
 unfold wpOp
 rw [ho]
 simp only [Region.wanted,hg,if_true]
 refine .inl (Oper.wp_mono hfin ?_)
 exact hW a w ⟨hd,hn,r,S,hw,he,zec hs fun q x t hm _ ht=>hf q x t (hkeys q (List.mem_map.2 ⟨_,hm,rfl⟩)) hm ht⟩
theorem OpQ.slots {o:Oper} {s s':St} {x:VP} (ho:s'.objs=s.objs) (hs:∀ t A,s.slots t=some A->s'.slots t=some A) (h:OpQ C o s x):OpQ C o s' x:=by
 intro a w ro S Q hd hn hw hsl
 have:=h a w ro S Q hd hn (ho ▸ hw) fun t A ht=>hsl t A (hs t A ht)
 rw [ho]; exact this
theorem GQ.slots {o:Oper} {s s':St} {x:VP} (ho:s'.objs=s.objs) (hs:∀ t A,s.slots t=some A->s'.slots t=some A) (h:GQ C tab o s x):GQ C tab o s' x:=by
 unfold GQ at h ⊢
 cases hg:o.guard with
 | none=>rw [hg] at h; exact h.slots ho hs
 | some jw=>
  rw [hg] at h
  obtain⟨p,x0,t,h1,h2,h3,h4⟩:=h
  exact⟨p,x0,t,h1,h2,fun hp=>(h3 hp).slots ho hs,h4.imp (fun⟨g,a,b⟩=>⟨g,hs _ _ a,b⟩) fun⟨c,g,a,b⟩=>⟨c,g,hs _ _ a,b⟩⟩
end reg
section free
variable {V:TE} {N:Env V} {R:Type} {r:R}
theorem z7q {α β:Type} {p:Prop} [Decidable p] {x:Option α} {k:α->Option β} :(ck p x).bind k=ck p (x.bind k):=by
 unfold ck; split <;> rfl
theorem z29 {α β:Type} {b:Bool} {x y:Option α} {k:α->Option β} :(bif b then x else y).bind k=bif b then x.bind k else y.bind k:=by cases b <;> rfl
theorem y1k {s:SS V.T} {op:BinOp} {t:TypeId} {y:Operand} {a b:SV V.T} (k:SV V.T->Option R):binX V N s [] op t y a b k =(binX V N s [] op t y a b some).bind k:=by
 unfold binX
 split
 ·cases zoh op with
  | true=>
   simp only [cond_true]
   unfold shift
   split <;> first | rfl |(split <;> rfl) | simp [ckG,z7q]
  | false=>
   simp only [cond_false]
   split
   ·unfold ztw
    split <;> first | rfl |(unfold ztw.ckD; split <;> first |(split <;> rfl) | simp [ckG,z7q]) | simp [ckG,z7q]
   ·rfl
 ·split <;> rfl
 ·split <;> rfl
 ·split
  ·rw [z29]
   cases (!(z4o a&&z4o b)) with
   | true=>rfl
   | false=>
    simp only [cond_false]
    split
    ·rw [z29]
     cases N.P.eqGuardType N.P.depth t with
     | true=>rfl
     | false=>
      simp only [cond_false]
      split <;> rfl
    ·rfl
  ·rfl
theorem zl7 {α β γ:Type} (x:Option α) (f:α->Option β) (g:β->Option γ) :(x.bind f).bind g=x.bind fun a=>(f a).bind g:=by cases x <;> rfl
theorem y05 {s:SS V.T} {o:Op} (hf:zsq o=true) (ty:TypeId) (k:SV V.T->Option R):zk V N s [] o ty k =(zk V N s [] o ty some).bind k:=by
 cases o <;> simp [zsq] at hf
 case move x=>simp only [zk]; split <;> rfl
 case assign x=>simp only [zk]; split <;> rfl
 case nilCheck x=>simp only [zk]; split <;> rfl
 case fieldAddr t x f=>
  simp only [zk]
  split <;> first | rfl | skip
  split <;> rfl
 case load t x=>
  simp only [zk]
  split <;> first | rfl | skip
  split
  ·generalize (!_&&Nat.beq _ 1)=bb
   cases bb <;> simp [ckG,z7q]
  ·split <;> rfl
 case indexAddr t x i=>
  simp only [zk]
  split
  ·cases Nat.beq _ _ <;> simp [ckG,z7q]
  ·split
   ·cases Nat.beq _ _ <;> simp [ckG,z7q]
   ·cases Nat.beq _ _ <;> simp [ckG,z7q]
   ·cases Nat.beq _ _ <;> simp [ckG,z7q]
   ·rfl
  ·split
   ·split
    ·cases (Nat.blt _ _&&Nat.beq _ _&&Nat.beq _ _) <;> simp [ckG,z7q]
    ·rfl
   ·rfl
  ·cases (Nat.blt _ _&&Nat.beq _ _&&Nat.beq _ _) <;> simp [ckG,z7q]
  ·cases (Nat.beq _ _&&Nat.beq _ _) <;> simp [ckG,z7q]
  ·rfl
 case slice t x lo hi mx=>
  cases mx with
  | some o=>rfl
  | none=>
   simp only [zk]
   split
   ·split
    ·cases Nat.beq _ _ <;> simp [ckG,z7q]
    ·rfl
   ·split
    ·split
     ·cases Nat.beq _ _ <;> simp [ckG,z7q]
     ·rfl
    ·rfl
   ·rfl
 case build t parts=>
  simp only [zk]
  split
  ·rw [z29]
   congr 1
   ·split <;> rfl
   ·rw [z29]
    congr 1
    split <;> rfl
  ·rfl
 case binOp op t x y c=>
  simp only [zk]
  split
  ·exact y1k k
  ·rfl
 case unOp op t x=>
  cases op <;> simp only [zk] <;> first | rfl |(split <;> rfl)
 case convert a b x=>
  simp only [zk]
  split
  ·rw [z29]; rfl
  ·rfl
 case extract x i=>
  simp only [zk]
  split
  ·split <;> rfl
  ·rfl
 case call c=>
  obtain⟨callee,args,ts⟩:=c
  cases callee with
  | value fo=>
   cases fo with
   | func f=>
    simp only [zk]
    split
    ·rw [z29]
     congr 1
     split
     ·rw [z29]; congr 1; simp only [zps,zl7]; rfl
     ·rfl
    ·rfl
   | tmp t=>
    simp only [zk]
    split
    ·split
     ·split
      ·simp only [zps,zl7]; rfl
      ·rfl
     ·rfl
    ·split
     ·rw [z29]
      congr 1
      split
      ·rw [z29]; congr 1; simp only [zps,zl7]; rfl
      ·rfl
     ·rfl
    ·rfl
   | const v=>simp only [zk]; rfl
   | global g=>simp only [zk]; rfl
  | builtin b=>
   cases b <;> simp at hf
   simp only [zk]
   rcases hargs:args.toList with _ |⟨x,_ |⟨y,l⟩⟩
   ·rfl
   ·simp only
    split
    ·rw [z29]; rfl
    ·split
     ·rw [z29]; rfl
     ·rw [z29]; rfl
     ·rw [z29]; rfl
     ·rw [z29]; rfl
     ·rfl
    ·rw [z29]; rfl
    ·rw [z29]; rfl
    ·rfl
   ·rfl
  | _=>simp at hf
structure SubS (s s':SS V.T):Prop where
 sl:∀(t:Nat) (x:Ch×SV V.T),lk s.sl t=some x->lk s'.sl t=some x
 kn:s'.kn=s.kn
 ob:∀(i:Nat) (x:SO V.T),s.ob[i]? = some x->x=SO.emp\/s'.ob[i]? = some x
theorem SubS.ev {s s':SS V.T} (h:SubS s s') {o:Operand} {ch:Ch} {x:SV V.T} (hx:evO s.sl ch o=some x):evO s'.sl ch o=some x:=by
 cases o with
 | tmp t=>
  simp only [evO] at hx ⊢
  cases hl:lk s.sl t with
  | none=>rw [hl] at hx; cases hx
  | some e=>rw [hl] at hx; rw [h.sl t e hl]; exact hx
 | const v=>exact hx
 | func f=>exact hx
 | global g=>exact hx
theorem SubS.at {s s':SS V.T} (h:SubS s s') {i:Nat} {x:SO V.T} (hx:s.ob[i]? = some x) (he:x≠SO.emp):s'.ob[i]? = some x:=(h.ob i x hx).resolve_left he
theorem ych {s s':SS V.T} (h:SubS s s') {g:Bool} {n:Nat} {p v:SV V.T} (hv:ld V s g n p=some v):ld V s' g n p=some v:=by
 cases p <;> simp only [ld] at hv ⊢
 case ptr i off=>
  split at hv
  ·rename_i ho; rw [h.at ho (by simp)]; exact hv
  ·cases hv
 case pta i off m z idx cnt fo=>
  split at hv
  ·rename_i ho; rw [h.at ho (by simp)]; exact hv
  ·cases hv
 case rop cs=>exact hv
 case elt i k z fo=>
  split at hv
  ·rename_i ho; rw [h.at ho (by simp)]; exact hv
  ·rename_i ho; rw [h.at ho (by simp)]; exact hv
  ·cases hv
 all_goals cases hv
theorem zxk {s s':SS V.T} (h:SubS s s') {ch:Ch} {d:Int} {o:Option Operand} {m:Int} (hb:bdX V s.sl ch d o=some m):bdX V s'.sl ch d o=some m:=by
 cases o with
 | none=>exact hb
 | some o=>
  simp only [bdX] at hb ⊢
  split at hb
  ·rename_i k q hq
   simp only [h.ev (zz hq),Option.bind_some,zcb]
   exact hb
  ·cases hb
theorem y5x {s s':SS V.T} (h:SubS s s') {p:SV V.T} {q:Int×Int×Nat} (hq:zjn V s p=some q):zjn V s' p=some q:=by
 unfold zjn at hq ⊢
 split at hq
 ·split at hq
  ·rename_i ho; simp only [h.at ho (by simp)]; exact hq
  ·cases hq
 ·cases hq
theorem yax {s s':SS V.T} (h:SubS s s') {g:Bool} {n:Nat} {p v:SV V.T} (hv:ld V s g n p=some v):zjn V s' p=none:=by
 unfold zjn
 split
 ·rename_i i m z
  simp only [ld] at hv
  split at hv
  ·rename_i ho; rw [h.at ho (by simp)]
  ·rename_i ho; rw [h.at ho (by simp)]
  ·cases hv
 ·rfl
theorem zxh {g g' :(c:Nat)->List (SV V.T)->Option (V.T c×List (SV V.T))} (hg:∀ c l y,g c l=some y->g' c l=some y):∀(fs:List Nat) (l:List (SV V.T)) (y:Tup V.T fs×List (SV V.T)),decT g fs l=some y->decT g' fs l=some y
 | [],_,_,h=>h
 | c::cs,l,y,h=>by
  simp only [decT] at h ⊢
  cases h1:g c l with
  | none=>rw [h1] at h; cases h
  | some p=>
   rw [h1] at h
   rw [hg _ _ _ h1]
   simp only at h ⊢
   cases h2:decT g cs p.2 with
   | none=>rw [h2] at h; cases h
   | some q=>rw [h2] at h; rw [zxh hg cs _ _ h2]; exact h
theorem y7p {rd rd' :(c:Nat)->SV V.T->Option (List (V.T c))} {g g' :(c:Nat)->List (SV V.T)->Option (V.T c×List (SV V.T))} (hr:∀ c x l,rd c x=some l->rd' c x=some l) (hg:∀ c l y,g c l=some y->g' c l=some y) :
  ∀ {α:Type} (d:Ds V.T α) (l:List (SV V.T)) (y:α×List (SV V.T)),decD rd g d l=some y->decD rd' g' d l=some y:=by
 intro α d l y h
 cases d with
 | sl c=>
  cases l with
  | nil=>simp [decD] at h
  | cons x l=>
   simp only [decD] at h ⊢
   cases h1:rd c x with
   | none=>rw [h1] at h; cases h
   | some m=>rw [h1] at h; rw [hr _ _ _ h1]; exact h
 | st fs mk un law=>
  simp only [decD] at h ⊢
  cases h1:decT g fs l with
  | none=>rw [h1] at h; cases h
  | some p=>rw [h1] at h; rw [zxh hg _ _ _ h1]; exact h
 | int k=>cases l with
  | nil=>simp [decD] at h
  | cons x l=>cases x <;> exact h
 | bool=>cases l with
  | nil=>simp [decD] at h
  | cons x l=>cases x <;> exact h
 | str=>cases l with
  | nil=>simp [decD] at h
  | cons x l=>cases x <;> exact h
 | arr n c=>cases l with
  | nil=>simp [decD] at h
  | cons x l=>cases x <;> exact h
theorem zxb {rd rd' :(c:Nat)->SV V.T->Option (List (V.T c))} (hr:∀ c x l,rd c x=some l->rd' c x=some l):∀(n c:Nat) (l:List (SV V.T)) (y:V.T c×List (SV V.T)),decN V rd n c l=some y->decN V rd' n c l=some y
 | 0,_,_,_,h=>by simp [decN] at h
 | n+1,c,l,y,h=>y7p hr (zxb hr n) (V.d c) l y h
theorem zxg {rd rd' :(c:Nat)->SV V.T->Option (List (V.T c))} (hr:∀ c x l,rd c x=some l->rd' c x=some l) {c:Nat} {l:List (SV V.T)} {y:V.T c} (h:V.decC rd c l=some y):V.decC rd' c l=some y:=by
 unfold TE.decC at h ⊢
 cases h1:decN V rd (c+1) c l with
 | none=>rw [h1] at h; cases h
 | some p=>rw [h1] at h; rw [zxb hr _ _ _ _ h1]; exact h
theorem ya0 {rd rd' :(c:Nat)->SV V.T->Option (List (V.T c))} (hr:∀ c x l,rd c x=some l->rd' c x=some l) {c:Nat} {x:SV V.T} {y:V.T c} (h:V.dec rd c x=some y):V.dec rd' c x=some y:=by
 unfold TE.dec at h ⊢
 cases hb :(z5h (V.d c)==z4o x) with
 | false=>rw [hb] at h; cases h
 | true=>rw [hb] at h; exact zxg hr h
theorem SubS.rd {s s':SS V.T} (h:SubS s s') (c:Nat) (x:SV V.T) (l:List (V.T c)) (hl:rdSl s.ob c x=some l):rdSl s'.ob c x=some l:=by
 unfold rdSl at hl ⊢
 split at hl
 ·exact hl
 ·split at hl
  ·rename_i ho; simp only [h.at ho (by simp)]; exact hl
  ·rename_i ho; simp only [h.at ho (by simp)]; exact hl
  ·cases hl
 ·exact hl
 ·cases hl
theorem SubS.rdB {s s':SS V.T} (h:SubS s s') (c:Nat) (x:SV V.T) (l:List (V.T c)) (hl:rdB s.ob c x=some l):rdB s'.ob c x=some l:=by
 unfold Px.rdB at hl ⊢
 split at hl
 ·exact hl
 ·split at hl
  ·rename_i ho; simp only [h.at ho (by simp)]; exact hl
  ·cases hl
 ·exact hl
 ·cases hl
theorem SubS.rdQ {s s':SS V.T} (h:SubS s s') {res:List RC} (c:Nat) (x:SV V.T) (l:List (V.T c)) (hl:rdQ V s.ob res c x=some l):rdQ V s'.ob res c x=some l:=by
 unfold Px.rdQ at hl ⊢
 cases h1:res.all (flR V) with
 | true=>rw [h1] at hl; exact h.rd c x l hl
 | false=>
  rw [h1] at hl
  cases h2:res.all (sepR V) with
  | true=>rw [h2] at hl; exact h.rdB c x l hl
  | false=>rw [h2] at hl; exact hl
theorem zks {rd rd' :(c:Nat)->SV V.T->Option (List (V.T c))} (hr:∀ c x l,rd c x=some l->rd' c x=some l) {s s':SS V.T} (h:SubS s s') {ch:Ch} : ∀ {cs:List Nat} {os:List Operand} {a:Tup V.T cs},decA V rd s.sl ch cs os=some a->decA V rd' s'.sl ch cs os=some a
 | [],[],_,ha=>ha
 | c::cs,o::os,a,ha=>by
  simp only [decA] at ha ⊢
  cases h1:evO s.sl ch o with
  | none=>rw [h1] at ha; cases ha
  | some x=>
   rw [h1] at ha
   rw [h.ev h1]
   simp only at ha ⊢
   cases h2:V.dec rd c x with
   | none=>simp only [h2] at ha; cases ha
   | some y=>
    simp only [h2] at ha
    simp only [ya0 hr h2]
    cases h3:decA V rd s.sl ch cs os with
    | none=>rw [h3] at ha; cases ha
    | some b=>rw [h3] at ha; rw [zks hr h h3]; exact ha
 | [],_::_,_,ha=>by simp [decA] at ha
 | _::_,[],_,ha=>by simp [decA] at ha
theorem y7b {s s':SS V.T} (h:SubS s s') {c:Nat} {x:SV V.T} {y:V.T c} (hy:capX V s.ob c x=some y):capX V s'.ob c x=some y:=by
 unfold capX at hy ⊢
 split at hy
 ·exact hy
 ·split at hy
  ·rename_i ho; simp only [h.at ho (by simp)]; exact zxg h.rd hy
  ·cases hy
 ·cases hy
theorem y6h {s s':SS V.T} (h:SubS s s') {kc vc:Nat} {x:SV V.T} {y:List (V.T kc×V.T vc)} (hy:capM V s.ob kc vc x=some y):capM V s'.ob kc vc x=some y:=by
 unfold capM at hy ⊢
 split at hy
 ·exact hy
 ·split at hy
  ·rename_i ho
   simp only [h.at ho (by simp)]
   split at hy
   ·rename_i ho2; simp only [h.at ho2 (by simp)]; exact hy
   ·cases hy
  ·cases hy
 ·cases hy
theorem zx8 {s s':SS V.T} (h:SubS s s') {k:KB} {x:SV V.T} {y:k.T V.T} (hy:capB V s.ob k x=some y):capB V s'.ob k x=some y:=by
 cases k with
 | val c=>exact y7b h hy
 | map kc vc=>exact y6h h hy
theorem zma {s s':SS V.T} (h:SubS s s'):∀ {cs:List KB} {l:List (SV V.T)} {b:KBs V.T cs},zfr V s.ob cs l=some b->zfr V s'.ob cs l=some b
 | [],[],_,hb=>hb
 | c::cs,x::l,b,hb=>by
  simp only [zfr] at hb ⊢
  split at hb
  ·rename_i y r h1 h2
   rw [zx8 h h1,zma h h2]; exact hb
  ·cases hb
 | [],_::_,_,hb=>by simp [zfr] at hb
 | _::_,[],_,hb=>by simp [zfr] at hb
theorem y6r {s s':SS V.T} (h:SubS s s') {k:KC} {x:SV V.T} {y:k.T V.T} (hy:capC V s.ob k x=some y):capC V s'.ob k x=some y:=by
 cases k with
 | b k=>exact zx8 h hy
 | fn f ks=>
  change capF V s.ob f ks x=some y at hy
  change capF V s'.ob f ks x=some y
  unfold capF at hy ⊢
  split at hy
  ·rename_i g l
   cases hb:Nat.beq f g with
   | false=>rw [hb] at hy; cases hy
   | true=>rw [hb] at hy; exact zma h hy
  ·split at hy
   ·rename_i g l ho
    simp only [h.at ho (by simp)]
    cases hb:Nat.beq f g with
    | false=>rw [hb] at hy; cases hy
    | true=>rw [hb] at hy; exact zma h hy
   ·cases hy
  ·cases hy
theorem zt7 {s s':SS V.T} (h:SubS s s'):∀ {cs:List KC} {l:List (SV V.T)} {b:KCs V.T cs},zfn V s.ob cs l=some b->zfn V s'.ob cs l=some b
 | [],[],_,hb=>hb
 | c::cs,x::l,b,hb=>by
  simp only [zfn] at hb ⊢
  split at hb
  ·rename_i y r h1 h2
   rw [y6r h h1,zt7 h h2]; exact hb
  ·cases hb
 | [],_::_,_,hb=>by simp [zfn] at hb
 | _::_,[],_,hb=>by simp [zfn] at hb
theorem SubS.storable {s s':SS V.T} (h:SubS s s') {x:SV V.T} (hx:storable V s.ob x=true):storable V s'.ob x=true:=by
 unfold Px.storable at hx ⊢
 simp only [Bool.or_eq_true] at hx ⊢
 refine hx.imp id fun hx=>?_
 cases x <;> simp only [oneS] at hx ⊢ <;> first | exact hx | skip
 split at hx
 ·rename_i ho; simp only [h.at ho (by simp)]
 ·rename_i ho; simp only [h.at ho (by simp)]
 ·cases hx
theorem zpe {s s':SS V.T} (h:SubS s s') {P:Program} {t:TypeId} {ch:Ch} : ∀ {ps:List (Nat×Operand)} {cs v:List (SV V.T)},layX V P t s.ob s.sl ch cs ps=some v->layX V P t s'.ob s'.sl ch cs ps=some v
 | [],_,_,hv=>hv
 |(i,o)::ps,cs,v,hv=>by
  simp only [layX] at hv ⊢
  split at hv
  ·rename_i off n x h1 h2
   simp only [h.ev h2]
   cases hb :(Nat.beq n (clen V (cellsOf x))&&storable V s.ob x) with
   | false=>rw [hb] at hv; cases hv
   | true=>
    rw [hb] at hv
    simp only [Bool.and_eq_true] at hb
    simp only [cond_true] at hv
    simp only [h1,hb.1,h.storable hb.2,Bool.and_self,cond_true]
    split at hv
    ·exact zpe h hv
    ·cases hv
  ·cases hv
theorem ybk {s s':SS V.T} {op:BinOp} {t:TypeId} {y:Operand} {a b:SV V.T} {k:SV V.T->Option R} (h:binX V N s [] op t y a b k=some r):binX V N s' [] op t y a b k=some r:=by
 unfold binX at h ⊢
 split at h
 ·cases hs:zoh op with
  | true=>
   rw [hs] at h
   simp only [cond_true] at h ⊢
   unfold shift at h ⊢
   exact h
  | false=>
   rw [hs] at h
   simp only [cond_false] at h ⊢
   split at h
   ·rename_i e
    rw [if_pos e]
    unfold ztw at h ⊢
    exact h
   ·cases h
 ·exact h
 ·exact h
 ·exact h
theorem zqt {s s':SS V.T} (h:SubS s s') {o:Op} (hf:zsq o=true) {ty:TypeId} {k:SV V.T->Option R} (hr:zk V N s [] o ty k=some r):zk V N s' [] o ty k=some r:=by
 have hk:=h.kn
 cases o <;> simp [zsq] at hf
 case move x=>
  simp only [zk] at hr ⊢
  rw [hk]
  split at hr
  ·rename_i v hv; rw [h.ev hv]; exact hr
  ·cases hr
 case assign x=>
  simp only [zk] at hr ⊢
  rw [hk]
  split at hr
  ·rename_i v hv; rw [h.ev hv]; exact hr
  ·cases hr
 case nilCheck x=>
  simp only [zk] at hr ⊢
  rw [hk]
  split at hr
  ·rename_i i o hv; rw [h.ev hv]; exact hr
  ·cases hr
 case fieldAddr t x f=>
  simp only [zk] at hr ⊢
  rw [hk]
  split at hr
  ·rename_i hof hv; simp only [hof,h.ev hv]; exact hr
  ·rename_i hof hv; simp only [hof,h.ev hv]; exact hr
  ·rename_i hof hv; simp only [hof,h.ev hv]; exact hr
  ·rename_i hof hv; simp only [hof,h.ev hv]; exact hr
  ·cases hr
 case load t x=>
  simp only [zk] at hr ⊢
  rw [hk]
  split at hr
  ·rename_i g n p ht hv
   simp only [ht,h.ev hv]
   split at hr
   ·rename_i hh; simp only [y5x h hh]; exact hr
   ·split at hr
    ·rename_i v hl; simp only [yax h hl,ych h hl]; exact hr
    ·cases hr
  ·cases hr
 case slice t x lo hi mx=>
  cases mx with
  | some o=>cases hr
  | none=>
   simp only [zk] at hr ⊢
   rw [hk]
   split at hr
   ·rename_i ht hx
    simp only [ht,h.ev hx]
    split at hr
    ·rename_i hm hn; simp only [zxk h hm,zxk h hn]; exact hr
    ·cases hr
   ·rename_i ht hx
    simp only [ht,h.ev hx]
    split at hr
    ·rename_i ho
     simp only [h.at ho (by simp)]
     split at hr
     ·rename_i hm hn; simp only [zxk h hm,zxk h hn]; exact hr
     ·cases hr
    ·cases hr
   ·cases hr
 case indexAddr t x i=>
  simp only [zk] at hr ⊢
  rw [hk]
  split at hr
  ·rename_i ht hx hi
   have hi':=zz hi
   simp only [ht,h.ev hx,h.ev hi',Option.bind_some,zcb]; exact hr
  ·rename_i ht hx hi
   have hi':=zz hi
   simp only [ht,h.ev hx,h.ev hi',Option.bind_some,zcb]
   split at hr
   ·rename_i ho; simp only [h.at ho (by simp)]; exact hr
   ·rename_i ho; simp only [h.at ho (by simp)]; exact hr
   ·rename_i ho; simp only [h.at ho (by simp)]; exact hr
   ·cases hr
  ·rename_i ht hx hi
   have hi':=zz hi
   simp only [ht,h.ev hx,h.ev hi',Option.bind_some,zcb]
   split at hr
   ·rename_i ho; simp only [h.at ho (by simp)]; exact hr
   ·cases hr
  ·rename_i ht hx hi
   have hi':=zz hi
   simp only [ht,h.ev hx,h.ev hi',Option.bind_some,zcb]; exact hr
  ·rename_i ht hx hi
   have hi':=zz hi
   simp only [ht,h.ev hx,h.ev hi',Option.bind_some,zcb]; exact hr
  ·cases hr
 case build t parts=>
  simp only [zk] at hr ⊢
  rw [hk]
  split at hr
  ·rename_i zs hz
   cases hb :(zde V (V.zero (V.code t)) zs&&zjh N.P t) with
   | true=>
    rw [hb] at hr
    simp only [cond_true] at hr ⊢
    split at hr
    ·rename_i v hv; simp only [zpe h hv]; exact hr
    ·cases hr
   | false=>
    rw [hb] at hr
    simp only [cond_false] at hr ⊢
    cases hb2 :(zs.all (·.oneCell')&&zjh N.P t) with
    | false=>rw [hb2] at hr; cases hr
    | true=>
     rw [hb2] at hr
     simp only [cond_true] at hr ⊢
     split at hr
     ·rename_i v hv; simp only [zpe h hv]; exact hr
     ·cases hr
  ·cases hr
 case binOp op t x y c=>
  simp only [zk] at hr ⊢
  rw [hk]
  split at hr
  ·rename_i hx hy; simp only [h.ev hx,h.ev hy]; exact ybk hr
  ·cases hr
 case unOp op t x=>
  cases op <;> simp only [zk,reduceCtorEq] at hr ⊢
  ·rw [hk]
   split at hr
   ·rename_i i m hb
    have hb':=zz hb
    simp only [h.ev hb',Option.bind_some,zcb]; exact hr
   ·cases hr
  ·rw [hk]
   split at hr
   ·rename_i b hb
    have hb':=z9v hb
    simp only [h.ev hb',Option.bind_some,zgx]; exact hr
   ·cases hr
 case convert a b x=>
  simp only [zk] at hr ⊢
  rw [hk]
  split at hr
  ·rename_i i j m hu hb
   have hb':=zz hb
   simp only [hu,h.ev hb',Option.bind_some,zcb]; exact hr
  ·cases hr
 case extract x i=>
  simp only [zk] at hr ⊢
  rw [hk]
  split at hr
  ·rename_i l hx; simp only [h.ev hx]; exact hr
  ·cases hr
 case call c=>
  obtain⟨callee,args,ts⟩:=c
  cases callee with
  | value fo=>
   cases fo with
   | func f=>
    simp only [zk] at hr ⊢
    rw [hk]
    split at hr
    ·rename_i sp hsp
     cases h1:sp.res.any zd2 with
     | true=>rw [h1] at hr; cases hr
     | false=>
      rw [h1] at hr
      simp only [cond_false] at hr ⊢
      split at hr
      ·rename_i a ha
       have:decA V (Px.rdQ V s'.ob sp.res) s'.sl ([]++s.kn) sp.args args.toList=some a:=zks h.rdQ h ha
       simp only [this]; exact hr
      ·cases hr
    ·cases hr
   | tmp t=>
    simp only [zk] at hr ⊢
    rw [hk]
    split at hr
    ·rename_i c f hf
     simp only [h.ev hf]
     split at hr
     ·rename_i x y _
      split at hr
      ·rename_i a b ha hb
       cases hx:evO s.sl ([]++s.kn) x with
       | none=>rw [hx] at ha; cases ha
       | some vx=>
        cases hy:evO s.sl ([]++s.kn) y with
        | none=>rw [hy] at hb; cases hb
        | some vy=>
         rw [hx] at ha
         rw [hy] at hb
         simp only [h.ev hx,h.ev hy,ha,hb]; exact hr
      ·cases hr
     ·cases hr
    ·rename_i f caps hf
     simp only [h.ev hf]
     split at hr
     ·rename_i sp hsp
      cases h1:sp.res.any zd2 with
      | true=>rw [h1] at hr; cases hr
      | false=>
       rw [h1] at hr
       simp only [cond_false] at hr ⊢
       split at hr
       ·rename_i a b ha hb
        cases h2:sp.res.all (flR V) with
        | true=>rw [h2] at ha hb; simp only [cond_true] at ha hb; simp only [cond_true,zks h.rd h ha,zt7 h hb]; exact hr
        | false=>rw [h2] at ha hb; simp only [cond_false] at ha hb; simp only [cond_false,zks (fun _ _ _ h=>h) h ha,hb]; exact hr
       ·cases hr
     ·cases hr
    ·cases hr
   | const v=>simp [zk] at hr
   | global g=>simp [zk] at hr
  | builtin b=>
   cases b <;> simp at hf
   simp only [zk] at hr ⊢
   rw [hk]
   rcases hargs:args.toList with _ |⟨x,_ |⟨y,l⟩⟩
   ·simp only [hargs] at hr; cases hr
   ·simp only [hargs] at hr ⊢
    split at hr
    ·rename_i hx; simp only [h.ev hx]; exact hr
    ·rename_i hx
     simp only [h.ev hx]
     split at hr
     ·rename_i ho; simp only [h.at ho (by simp)]; exact hr
     ·rename_i ho; simp only [h.at ho (by simp)]; exact hr
     ·rename_i ho; simp only [h.at ho (by simp)]; exact hr
     ·rename_i ho; simp only [h.at ho (by simp)]; exact hr
     ·cases hr
    ·rename_i hx; simp only [h.ev hx]; exact hr
    ·rename_i hx; simp only [h.ev hx]; exact hr
    ·cases hr
   ·simp only [hargs] at hr; cases hr
  | _=>simp at hf
end free
end Px
end
section
namespace Px
open Go Go.RowKit
section
variable {V:TE} {N:Env V} {R:Type} {r:R}
theorem zkq {f:Nat->Bool} {bs:Sls V.T} {es:List (DE V.T)} {t:Nat} {x:Ch×SV V.T} (h:lk (drSl V f bs es) t=some x) :(∃ e∈es,f e.1=true/\e.2 =(t,x))\/lk bs t=some x:=by
 unfold drSl at h
 rw [zrm] at h
 cases hl:lk ((es.filter fun e=>f e.1).map (·.2)) t with
 | none=>rw [hl] at h; exact .inr h
 | some y=>
  rw [hl] at h
  simp only [Option.some.injEq] at h
  subst h
  obtain⟨e,he,h2⟩:=List.mem_map.1 (zjc hl)
  obtain⟨h3,h4⟩:=List.mem_filter.1 he
  exact .inl ⟨e,h3,h4,h2⟩
theorem zfu {α:Type} : ∀ {l:List (Nat×α)} {t:Nat} {x:α},(t,x)∈l->∃ y,lk l t=some y
 |(k,y)::l,t,x,h=>by
  rw [z0o]
  by_cases e:t=k
  ·exact⟨y,by rw [if_pos e]⟩
  ·rw [if_neg e]
   rcases List.mem_cons.1 h with h | h
   ·cases h; exact absurd rfl e
   ·exact zfu h
theorem zwf {tab:Tab} {gb:List (Nat×Bool)} {bs:Sls V.T} {new es:List (DE V.T)} (h:EsOK tab gb bs (new++es)) (f:Nat->Bool) {t:Nat} {x:Ch×SV V.T} (hx:lk (drSl V f bs es) t=some x):lk (drSl V f bs (new++es)) t=some x:=by
 have hs:∃ y,lk (drSl V f bs (new++es)) t=some y:=by
  rcases zkq hx with⟨e,he,hf,h2⟩ | hb
  ·refine zfu (x:=x) ?_
   unfold drSl
   refine List.mem_append_left _ (List.mem_map.2 ⟨e,List.mem_filter.2 ⟨List.mem_append_right _ he,hf⟩,h2⟩)
  ·unfold drSl
   rw [zrm]
   cases lk (((new++es).filter fun e=>f e.1).map (·.2)) t with
   | some y=>exact⟨y,rfl⟩
   | none=>exact⟨x,hb⟩
 obtain⟨y,hy⟩:=hs
 rw [hy]
 rcases zkq hx with⟨e,he,hf,h2⟩ | hb
 ·rcases zkq hy with⟨e',he',hf',h2'⟩ | hb'
  ·have:=h.inj e (List.mem_append_right _ he) e' he' (by rw [h2,h2'])
   subst this
   rw [h2] at h2'
   cases h2'; rfl
  ·rcases h.bs e (List.mem_append_right _ he) with this |⟨this,_⟩
   ·rw [h2] at this
    change lk bs t=none at this
    rw [this] at hb'; cases hb'
   ·rw [h2] at this
    change lk bs t=some x at this
    rw [<- hb',this]
 ·rcases zkq hy with⟨e',he',hf',h2'⟩ | hb'
  ·rcases h.bs e' he' with this |⟨this,_⟩
   ·rw [h2'] at this
    change lk bs t=none at this
    rw [this] at hb; cases hb
   ·rw [h2'] at this
    change lk bs t=some y at this
    rw [<- this,hb]
  ·rw [<- hb,hb']
def Cls (ops:List Oper) (clo:List Nat) (n0:Nat) (later:List Nat) (q:Nat) (obm:List (SO V.T)):Prop:=
 ∀ l∈later,bitB (clo.getD l 0) q=false->∀(i:Nat) (x:SO V.T),obm[i]? = some x->x=SO.emp\/zsd ops n0 l i (zkv x)=true
def zdi (N:Env V) (ops:Array Oper) (clo:List Nat) (n0:Nat) (later:List Nat) (bs:Sls V.T) (es:List (DE V.T)) (s:SS V.T) (e:DE V.T):Prop:=
 ∃(o:Oper) (obm:List (SO V.T)),ops[e.1]? = some o/\o.guard=none/\zsq o.op=true/\e.2.2.1 = []/\(∀(i:Nat) (x:SO V.T),obm[i]? = some x->x=SO.emp\/s.ob[i]? = some x)/\Cls ops.toList clo n0 later e.1 obm/\
  zk V N { s with sl:=drSl V (memB (z07 o)) bs es,ob:=obm } [] o.op o.type some=some e.2.2.2
theorem y46 (hN:z90 V N) {C:Cx N.P} {A:Asg} {ops:Array Oper} {clo:List Nat} {n0:Nat} {later:List Nat} {bs:Sls V.T} {es:List (DE V.T)} {s:SS V.T} {e:DE V.T} (h:zdi N ops clo n0 later bs es s e) (hes:EsOK (z02 ops) s.gb bs es)
  (hgb:GbOK (⟨bs,s.gb,s.kn,s.n⟩:Fm V.T)) (hkn:chP s.gb s.kn) (h1:OneA V A s.ob) :
  ∃ o,ops[e.1]? = some o/\GQ C (z02 ops) o ⟨z2y (z02 ops) (memB (Tab.deps (z02 ops) e.1)) (slD V N.P A s.gb bs) (qrOf N.P A s.gb es),obD V N.P A A s.ob⟩ (denE V N.P A s.gb e.2.2):=by
 obtain⟨o,obm,ho,hg,hf,hch,hob,hcls,hq⟩:=h
 refine⟨o,ho,?_⟩
 have h2:=zqt (s:={ s with sl:=drSl V (memB (z07 o)) bs es,ob:=obm }) (s':={ s with sl:=drSl V (memB (z07 o)) bs es }) ⟨fun _ _ h=>h,rfl,hob⟩ hf hq
 obtain⟨v,hv,hQ⟩:=zbx (C:=C) (A:=A) (s:={ s with sl:=drSl V (memB (z07 o)) bs es }) hN hkn (hes.gb hgb _) h1 h2
 cases hv
 rw [zf9 ho,z4t _ hes.dst]
 obtain⟨dst,op,ty,pos,aft,guard⟩:=o
 simp only at hg
 subst hg
 have:=hQ trivial dst pos aft none
 unfold GQ denE
 rw [hch]
 exact this
theorem zdi.more {ops:Array Oper} {clo:List Nat} {n0:Nat} {later:List Nat} {bs:Sls V.T} {new es:List (DE V.T)} {s s':SS V.T} {e:DE V.T} (h:zdi N ops clo n0 later bs es s e) {gb:List (Nat×Bool)} (hes:EsOK (z02 ops) gb bs (new++es)) (hk:s'.kn=s.kn) (ho:s'.ob=s.ob) :
  zdi N ops clo n0 later bs (new++es) s' e:=by
 obtain⟨o,obm,h1,h2,h3,h4,h5,h6,h7⟩:=h
 refine⟨o,obm,h1,h2,h3,h4,by rw [ho]; exact h5,h6,zqt (s:={ s with sl:=drSl V (memB (z07 o)) bs es,ob:=obm }) (s':={ s' with sl:=drSl V (memB (z07 o)) bs (new++es),ob:=obm }) ⟨fun t x hx=>zwf hes _ hx,hk,fun i x hx=>.inr hx⟩ h3 h7⟩
theorem zom {ops:List Oper} {n0:Nat} {ls:List Nat} : ∀(ob:List (SO V.T)) (i0 i:Nat) (x:SO V.T),(zya V ops n0 ls i0 ob)[i]? = some x->x=SO.emp\/(ob[i]? = some x/\∀ l∈ls,zsd ops n0 l (i0+i) (zkv x)=true)
 | [],i0,i,x,h=>by simp [zya] at h
 | y::ob,i0,0,x,h=>by
  simp only [zya,List.getElem?_cons_zero,Option.some.injEq] at h
  cases hb :(ls.all fun l=>zsd ops n0 l i0 (zkv y)) with
  | true=>
   rw [hb] at h
   simp only [cond_true] at h
   subst h
   exact .inr ⟨rfl,fun l hl=>List.all_eq_true.1 hb l hl⟩
  | false=>rw [hb] at h; exact .inl h.symm
 | y::ob,i0,i+1,x,h=>by
  simp only [zya,List.getElem?_cons_succ] at h ⊢
  have:=zom ob (i0+1) i x h
  rwa [Nat.add_right_comm,Nat.add_assoc] at this
theorem ybj {clo:List Nat} {ops:Array Oper} {n0 q:Nat} {o:Oper} {later:List Nat} {ob obm:List (SO V.T)} (h:seen V clo ops.toList n0 q o later ob=some obm) :
  (obm=ob/\∀ l∈later,bitB (clo.getD l 0) q=true)\/(o.guard=none/\zsq o.op=true/\(∀(i:Nat) (x:SO V.T),obm[i]? = some x->x=SO.emp\/ob[i]? = some x)/\Cls ops.toList clo n0 later q obm):=by
 unfold seen at h
 split at h
 ·rename_i hl
  simp only [Option.some.injEq] at h
  refine .inl ⟨h.symm,fun l hlm=>?_⟩
  cases hb:bitB (clo.getD l 0) q with
  | true=>rfl
  | false=>
   have:l∈later.filter fun l=>!bitB (clo.getD l 0) q:=List.mem_filter.2 ⟨hlm,by rw [hb]; rfl⟩
   rw [hl] at this; cases this
 ·cases hb :(zsq o.op&&o.guard.isNone) with
  | false=>rw [hb] at h; cases h
  | true=>
   rw [hb] at h
   simp only [Bool.and_eq_true,Option.isNone_iff_eq_none] at hb
   simp only [cond_true,Option.some.injEq] at h
   subst h
   refine .inr ⟨hb.2,hb.1,fun i x hx=>(zom ob 0 i x hx).imp id (·.1),fun l hl hbl i x hx=>?_⟩
   refine(zom ob 0 i x hx).imp id fun q=>?_
   have:=q.2 l (List.mem_filter.2 ⟨hl,by rw [hbl]; rfl⟩)
   rwa [Nat.zero_add] at this
theorem y4z {T:Nat->Type} {x y:SV T} (h:y79 x y=true):x=y:=by
 cases x <;> cases y <;> first
  |(simp only [y79,Bool.and_eq_true] at h; obtain⟨h1,h2⟩:=h; rw [Nat.eq_of_beq_eq_true h1,Nat.eq_of_beq_eq_true h2])
  |(simp only [y79] at h; rw [Nat.eq_of_beq_eq_true h])
  | cases h
theorem zwk {T:Nat->Type} : ∀ {l m:List (SV T)},y6l l m=true->l=m
 | [],[],_=>rfl
 | [],_::_,h=>by cases h
 | _::_,[],h=>by cases h
 | x::l,y::m,h=>by
  simp only [y6l,Bool.and_eq_true] at h
  rw [y4z h.1,zwk h.2]
theorem y8f {T:Nat->Type} {x:Option (Ch×SV T)} {v:SV T} (h:okB x v=true):x=none\/(x=some ([],v)/\y4x v=true):=by
 cases x with
 | none=>exact .inl rfl
 | some e=>
  obtain⟨ch,w⟩:=e
  cases ch with
  | cons p l=>cases h
  | nil=>
   change yaq v w=true at h
   cases v with
   | func f l=>
    cases w with
    | func g m=>
     simp only [yaq,Bool.and_eq_true] at h
     have:=Nat.eq_of_beq_eq_true h.1
     subst this
     rw [zwk h.2]
     exact .inr ⟨rfl,rfl⟩
    | _=>cases h
   | _=>cases h
theorem zzy (hN:z90 V N) {C:Cx N.P} {A:Asg} {ops:Array Oper} {clo:List Nat} {n0:Nat} {later:List Nat} {bs:Sls V.T} {k:SS V.T->List (DE V.T)->Option R} : ∀(is:List Nat) (s:SS V.T) (es:List (DE V.T)),segX V N ops clo n0 later bs is s es k=some r->
  EsOK (z02 ops) s.gb bs es->GbOK (⟨bs,s.gb,s.kn,s.n⟩:Fm V.T)->chP s.gb s.kn->OneA V A s.ob->
  ∃(gb':List (Nat×Bool)) (new:List (DE V.T)),GbX s.gb gb'/\k { s with gb:=gb' } (new++es)=some r/\EsOK (z02 ops) gb' bs (new++es)/\GbOK (⟨bs,gb',s.kn,s.n⟩:Fm V.T)/\
   ∀ e∈new,(∃ o,ops[e.1]? = some o/\GQ C (z02 ops) o ⟨z2y (z02 ops) (memB (Tab.deps (z02 ops) e.1)) (slD V N.P A gb' bs) (qrOf N.P A gb' (new++es)),obD V N.P A A s.ob⟩ (denE V N.P A gb' e.2.2))/\
    ((∃ l∈later,bitB (clo.getD l 0) e.1=false)->zdi N ops clo n0 later bs (new++es) { s with gb:=gb' } e)
 | [],s,es,h,hes,hgb,hkn,h1=>⟨s.gb,[],GbX.refl _,h,hes,hgb,fun e he=>absurd he List.not_mem_nil⟩
 | i::is,s,es,h,hes,hgb,hkn,h1=>by
  simp only [segX] at h
  cases ho:ops[i]? with
  | none=>rw [ho] at h; cases h
  | some o=>
  rw [ho] at h
  simp only at h
  split at h
  ·rename_i d obm hd hseen
   split at h
   ·rename_i hg0
    cases hany :(es.any fun e=>Nat.beq e.2.1 d) with
    | true=>rw [hany] at h; cases h
    | false=>
     rw [hany] at h
     simp only [cond_false] at h
     have hdt:Tab.dst (z02 ops) i=some d:=by rw [zqv ho,hd]
     have hRt:=hes.gb hgb (memB (z07 o))
     have hseen':=ybj hseen
     -- what the rest shows
     have fin:∀(g1:List (Nat×Bool)) (ch:Ch) (v:SV V.T),GbX s.gb g1->EsOK (z02 ops) g1 bs es->GbOK (⟨bs,g1,s.kn,s.n⟩:Fm V.T)->lk g1 d=none->(lk bs d=none\/(lk bs d=some (ch,v)/\y4x v=true))->(∀ p∈ch,(lk g1 p.1).isSome=true)->
       segX V N ops clo n0 later bs is { s with gb:=g1 } ((i,d,ch,v)::es) k=some r->
       (∀ gb' st,GbX g1 gb'->st =(⟨slD V N.P A g1 (drSl V (memB (z07 o)) bs es),obD V N.P A A s.ob⟩:St)->GQ C (z02 ops) o st (denE V N.P A gb' (ch,v)))->
       ((∃ l∈later,bitB (clo.getD l 0) i=false)->zdi N ops clo n0 later bs es s (i,d,ch,v))->
       ∃(gb':List (Nat×Bool)) (new:List (DE V.T)),GbX s.gb gb'/\k { s with gb:=gb' } (new++es)=some r/\EsOK (z02 ops) gb' bs (new++es)/\GbOK (⟨bs,gb',s.kn,s.n⟩:Fm V.T)/\
        ∀ e∈new,(∃ o,ops[e.1]? = some o/\GQ C (z02 ops) o ⟨z2y (z02 ops) (memB (Tab.deps (z02 ops) e.1)) (slD V N.P A gb' bs) (qrOf N.P A gb' (new++es)),obD V N.P A A s.ob⟩ (denE V N.P A gb' e.2.2))/\
         ((∃ l∈later,bitB (clo.getD l 0) e.1=false)->zdi N ops clo n0 later bs (new++es) { s with gb:=gb' } e):=by
      intro g1 ch v hX hes1 hgb1 hgd hb0 hch hr hq hfr
      obtain⟨gb',new,x1,x2,x3,x4,x5⟩:=zzy hN (C:=C) (A:=A) is { s with gb:=g1 } _ hr (hes1.put (v:=v) hdt hgd hb0 hany hch) hgb1 ((hX.chP hgb.kn) ▸ hkn) h1
      have eapp :(new++[(i,d,ch,v)])++es=new++(i,d,ch,v)::es:=by simp
      refine⟨gb',new++[(i,d,ch,v)],hX.trans x1,by rw [eapp]; exact x2,by rw [eapp]; exact x3,x4,fun e he=>?_⟩
      rw [eapp]
      rcases List.mem_append.1 he with he | he
      ·exact x5 e he
      ·simp only [List.mem_singleton] at he
       subst he
       have hR1:=hes1.gb hgb1 (memB (z07 o))
       have x3':=x3
       rw [<- eapp] at x3'
       refine⟨⟨o,ho,?_⟩,fun hl=>?_⟩
       ·have h6:=hq gb' _ x1 rfl
        rw [zwt x1 hR1] at h6
        rw [zf9 ho,z4t _ x3.dst]
        refine GQ.slots (s:=⟨slD V N.P A gb' (drSl V (memB (z07 o)) bs es),obD V N.P A A s.ob⟩) rfl (fun t X hX'=>?_) h6
        simp only [slD] at hX' ⊢
        cases hl:lk (drSl V (memB (z07 o)) bs es) t with
        | none=>rw [hl] at hX'; cases hX'
        | some y=>
         rw [hl] at hX'
         have:=zwf x3' (memB (z07 o)) hl
         rw [eapp] at this
         rw [this]; exact hX'
       ·have:=(hfr hl).more (s':={ s with gb:=gb' }) x3' rfl rfl
        rw [eapp] at this; exact this
     split at h
     ·rename_i hg
      rcases hseen' with⟨rfl,hno⟩ |⟨_,hf,hsub,hcls⟩
      ·obtain⟨v,hv,hq⟩:=zbx (C:=C) (A:=A) (s:={ s with sl:=drSl V (memB (z07 o)) bs es }) hN hkn hRt h1 h
       cases hok:okB (lk bs d) v with
       | false=>rw [hok] at hv; cases hv
       | true=>
       rw [hok] at hv
       simp only [cond_true] at hv
       refine fin s.gb [] v (GbX.refl _) hes hgb hg0 (y8f hok) (fun p hp=>by cases hp) hv (fun gb' st _ hst=>?_) (fun⟨l,hl,hb⟩=>by rw [hno l hl] at hb; cases hb)
       subst hst
       obtain⟨dst,op,ty,pos,aft,guard⟩:=o
       simp only at hg
       subst hg
       exact hq trivial dst pos aft none
      ·rw [y05 hf] at h
       obtain⟨v,hv0,hv⟩:=bind_some h
       cases hok:okB (lk bs d) v with
       | false=>rw [hok] at hv; cases hv
       | true=>
       rw [hok] at hv
       simp only [cond_true] at hv
       have hF:zdi N ops clo n0 later bs es s (i,d,[],v):=⟨o,obm,ho,hg,hf,rfl,hsub,hcls,hv0⟩
       obtain⟨o',ho',hq⟩:=y46 hN (C:=C) (A:=A) hF hes hgb hkn h1
       rw [ho] at ho'
       cases ho'
       refine fin s.gb [] v (GbX.refl _) hes hgb hg0 (y8f hok) (fun p hp=>by cases hp) hv (fun gb' st _ hst=>?_) (fun _=>hF)
       subst hst
       rw [zf9 ho,z4t _ hes.dst] at hq
       exact hq
     ·rename_i g hg
      cases hbs :(lk bs d).isSome with
      | true=>rw [hbs] at h; cases h
      | false=>
      rw [hbs] at h
      simp only [cond_false] at h
      have hb0:lk bs d=none:=by simpa using hbs
      rcases hseen' with⟨rfl,hno⟩ |⟨hgn,_⟩
      rotate_left
      ·rw [hg] at hgn; cases hgn
      split at h
      ·rename_i ch s' hgo
       unfold ze2 at hgo
       split at hgo
       ·rename_i t ht
        have htj:Tab.dst (z02 ops) g.1=some t:=by
         cases ho':ops[g.1]? with
         | none=>simp [ho'] at ht
         | some o'=>rw [zqv ho']; simpa [ho'] using ht
        split at hgo
        ·cases hgo
        ·rename_i chj b hl
         have hcase:∃ g1,s' = { s with gb:=g1,sl:=drSl V (memB (z07 o)) bs es }/\ch =(t,g.2)::chj/\GbX s.gb g1/\EsOK (z02 ops) g1 bs es/\GbOK (⟨bs,g1,s.kn,s.n⟩:Fm V.T)/\lk g1 t=some b/\(∀ u,u≠t->lk g1 u=lk s.gb u):=by
          split at hgo
          ·rename_i g' hg'
           simp only [Option.some.injEq,Prod.mk.injEq] at hgo
           obtain⟨rfl,rfl⟩:=hgo
           have e:=hRt.val t g' hg' chj _ hl
           simp only [SV.bool.injEq] at e
           subst e
           exact⟨s.gb,rfl,rfl,GbX.refl _,hes,hgb,hg',fun _ _=>rfl⟩
          ·rename_i hg'
           simp only [Option.some.injEq,Prod.mk.injEq] at hgo
           obtain⟨rfl,rfl⟩:=hgo
           obtain⟨m1,m2,m3⟩:=hes.more hgb hl hg'
           exact⟨_,rfl,rfl,m3,m1,m2,by simp [z0o],fun u hu=>by rw [z0o,if_neg hu]⟩
         obtain⟨g1,rfl,rfl,hX,hes1,hgb1,hgt,hoth⟩:=hcase
         have hR1:=hes1.gb hgb1 (memB (z07 o))
         obtain⟨v,hv,hq⟩:=zbx (C:=C) (A:=A) (s:={ s with gb:=g1,sl:=drSl V (memB (z07 o)) bs es }) hN ((hX.chP hgb.kn) ▸ hkn) hR1 h1 h
         have hchj:∀ p∈chj,(lk g1 p.1).isSome=true:=hR1.ch t chj _ hl
         have hch:∀ p∈(t,g.2)::chj,(lk g1 p.1).isSome=true:=fun p hp=>by
          rcases List.mem_cons.1 hp with rfl | hp
          ·simp [hgt]
          ·exact hchj p hp
         have hg1d:lk g1 d=none:=by
          cases e1:lk g1 d with
          | none=>rfl
          | some b'=>
           exfalso
           by_cases e2:d=t
           ·subst e2
            rcases ziy hl with⟨e,he,h2⟩ | hl'
            ·have :(es.any fun e=>Nat.beq e.2.1 d)=true:=List.any_eq_true.2 ⟨e,he,by rw [h2]; exact Nat.beq_refl d⟩
             rw [hany] at this; cases this
            ·rw [hb0] at hl'; cases hl'
           ·rw [hoth d e2,hg0] at e1; cases e1
         refine fin g1 _ v hX hes1 hgb1 hg1d (.inl hb0) hch hv (fun gb' st hX' hst=>?_) (fun⟨l,hl,hb⟩=>by rw [hno l hl] at hb; cases hb)
         subst hst
         obtain⟨dst,op,ty,pos,aft,guard⟩:=o
         simp only at hg
         subst hg
         refine⟨chP gb' ((t,g.2)::chj),v.den V N.P A,t,htj,rfl,fun hp=>hq ((hX'.chP hch) ▸ hp) dst pos aft _,?_⟩
         have hsl:slD V N.P A g1 (drSl V (memB (z07 ⟨dst,op,ty,pos,aft,some g⟩)) bs es) t=some (denE V N.P A g1 (chj,.bool b)):=by
          simp only [slD,hl,Option.map_some]
         have hgt':=hX' t b hgt
         cases chj with
         | nil=>
          refine .inl ⟨b,hsl,?_⟩
          simp [chP,hgt']
         | cons c0 cl=>
          refine .inr ⟨chP g1 (c0::cl),b,hsl,?_⟩
          rw [hX'.chP hchj]
          simp [chP,hgt']
        ·cases hgo
       ·cases hgo
      ·cases h
   ·cases h
  ·cases h
end
end Px
end
section
namespace Px
open Go Go.RowKit
section
variable {V:TE} {N:Env V} {R:Type} {r:R}
def Chg (o:Op) (fs:Bool) (n0:Nat) (ob ob':List (SO V.T)):Prop:=∀(i:Nat) (x:SO V.T),ob[i]? = some x->(zyr o||zdt o||(appO o&&zkv x)||(fs&&Nat.blt i n0))=true->ob'[i]? = some x
theorem zkz (o:Op) (fs:Bool) (n0:Nat) (ob us:List (SO V.T)):Chg o fs n0 ob (ob++us):=fun i x hx _=>by
 rw [List.getElem?_append_left (List.getElem?_eq_some_iff.1 hx).1]; exact hx
open Classical in
theorem y45 {s:SS V.T} {o:Op} {fs:Bool} {n0:Nat} {ty:TypeId} {k:SV V.T->SS V.T->Option R} (hst:fs=true->∃ t p v i off,o = .store t p v/\evO s.sl s.kn p=some (.ptr i off)/\n0<=i) (h:z3r V N s o ty k=some r):z3r V N s o ty (fun v s'=>if Chg o fs n0 s.ob s'.ob then k v s' else none)=some r:=by
 by_cases hld:zyr o=true
 ·have hs:Chg (V:=V) o fs n0 s.ob s.ob:=fun i x h _=>h
  cases o <;> simp [zyr] at hld
  case load t x=>
   simp only [z3r] at h ⊢
   simp only [if_pos hs]
   exact h
  case call c=>
   have hb:c.callee = .builtin .len:=by
    split at hld
    ·assumption
    ·cases hld
   simp only [z3r,hb] at h ⊢
   simp only [if_pos hs]
   exact h
 by_cases ha:appO o=true
 ·have hfs:fs=false:=by
   cases hf:fs with
   | false=>rfl
   | true=>
    obtain⟨t,p,v,i,off,rfl,_⟩:=hst hf
    simp [appO,zdt] at ha
  subst hfs
  cases o <;> simp [appO,zdt] at ha
  case box t x=>
   simp only [z3r] at h ⊢
   split at h <;> first |(simp only [if_pos (zkz _ _ _ _ _)]; exact h) | cases h
  case alloc t=>
   simp only [z3r] at h ⊢
   split at h
   ·simp only [if_pos (zkz _ _ _ _ _)]; exact h
   ·cases h
  case buildSlice t n parts=>
   simp only [z3r] at h ⊢
   split at h
   ·split at h <;> first |(simp only [if_pos (zkz _ _ _ _ _)]; exact h) | cases h
   ·cases h
  case makeSlice t x y=>
   simp only [z3r] at h ⊢
   split at h
   ·split at h
    ·simp only [if_pos (zkz _ _ _ _ _)]; exact h
    ·cases h
   ·cases h
  case makeMap t hint=>
   cases hint with
   | some o=>simp [z3r,zk] at h
   | none=>
    simp only [z3r] at h ⊢
    split at h <;> first |(simp only [if_pos (zkz _ _ _ _ _)]; exact h) | cases h
  case call c=>
   have hb:c.callee = .builtin .append:=by
    split at ha
    ·assumption
    ·cases ha
   have hc:∀(i:Nat) (us:List (SO V.T)) (E c0:Nat) (l:List (V.T c0)),s.ob[i]? = some (.row E c0 l)->Chg (.call c) false n0 s.ob (s.ob.set i .emp++us):=by
    intro i us E c0 l ho j x hj hcond
    have hx:zkv x=true:=by simpa [zdt] using And.right (by simpa [zdt,zyr,hb] using hcond:appO (.call c)=true/\zkv x=true)
    have hij:i≠j:=fun e=>by subst e; rw [ho] at hj; cases hj; cases hx
    have hlt:=(List.getElem?_eq_some_iff.1 hj).1
    rw [List.getElem?_append_left (by simpa using hlt),List.getElem?_set_ne hij]; exact hj
   have hc2:∀(E c0:Nat) (us:List (SO V.T)),Chg (.call c) false n0 s.ob ((s.ob++[(SO.row E c0 []:SO V.T)]).set s.ob.length .emp++us):=by
    intro E c0 us j x hj hcond
    have hlt:=(List.getElem?_eq_some_iff.1 hj).1
    rw [List.getElem?_append_left (by simp; omega),List.getElem?_set_ne (by omega),List.getElem?_append_left hlt]; exact hj
   simp only [z3r,hb] at h ⊢
   split at h
   ·rename_i x y hcb _; cases hcb
   ·split at h
    ·rename_i t t' _
     cases hbb:Nat.beq t t' with
     | false=>rw [hbb] at h; cases h
     | true=>
      rw [hbb] at h
      simp only [cond_true] at h ⊢
      split at h
      ·split at h
       ·rename_i i yv _ _ _ _ E' c0 l ho
        cases hb2 :(Nat.beq _ E'&&Nat.beq _ (V.sz c0)&&Nat.blt 0 _) with
        | false=>rw [hb2] at h; cases h
        | true=>
         rw [hb2] at h
         simp only [cond_true,appX] at h ⊢
         split at h
         ·simp only [if_pos (hc _ _ _ _ _ ho)]; exact h
         ·cases h
       ·cases h
      ·rename_i E z by' yv _ _ _
       cases hb2 :(Nat.beq z (V.sz (V.code E))&&Nat.blt 0 by') with
       | false=>rw [hb2] at h; cases h
       | true=>
        rw [hb2] at h
        simp only [cond_true,appX] at h ⊢
        split at h
        ·simp only [if_pos (hc2 _ _ _)]; exact h
        ·cases h
      ·cases h
    ·cases h
   ·rename_i x y hcb _; cases hcb
   ·rename_i hcb; cases hcb
   ·rename_i hcb; cases hcb
   ·cases h
 ·have hm:¬ zdt o=true:=fun q=>ha (by cases o <;> simp [zdt] at q <;> rfl)
  cases hf:fs with
  | false=>
   have:∀ ob',Chg (V:=V) o false n0 s.ob ob':=fun ob' i x _ hcond=>by
    simp [hld,hm,ha] at hcond
   simp only [if_pos (this _)]
   exact h
  | true=>
   obtain⟨t,p,v,i,off,rfl,hp,hi⟩:=hst hf
   have hc:∀ y,Chg (V:=V) (.store t p v) true n0 s.ob (updO V s i y).ob:=by
    intro y j x hj hcond
    show (s.ob.set i y)[j]? = some x
    have:j<n0:=by simpa [zdt,appO,zyr] using hcond
    rw [List.getElem?_set_ne (by omega)]; exact hj
   simp only [z3r,hp] at h ⊢
   split at h
   ·rename_i n p' v' ht hp' hv
    cases hp'
    simp only [stoX] at h ⊢
    split at h
    ·split at h
     ·rename_i hh
      simp only [if_pos (hc _)]
      exact h
     ·exact h
    ·cases h
   ·cases h
theorem zdi.step {ops:Array Oper} {clo:List Nat} {n0:Nat} {later:List Nat} {l:Nat} {bs:Sls V.T} {es:List (DE V.T)} {s s':SS V.T} {e:DE V.T} {d:Option Nat} {v:SV V.T} {o:Oper} (h:zdi N ops clo n0 later bs es s e) (hm:l∈later) (hb:bitB (clo.getD l 0) e.1=false) (ho:ops[l]? = some o)
  (hd:∀ x,d=some x->lk bs x=none/\∀ e∈es,e.2.1≠x) (hes:EsOK (z02 ops) s.gb bs es) (hk:s'.kn=s.kn) (hc:Chg o.op (stoF ops.toList l) n0 s.ob s'.ob):zdi N ops clo n0 (later.filter fun x=>!Nat.beq x l) (putB V bs v d) es s' e:=by
 obtain⟨o',obm,h1,h2,h3,h4,h5,h6,h7⟩:=h
 have hop:opAt ops.toList l=o.op:=by unfold opAt; rw [Array.getElem?_toList,ho]
 have hsl:∀ t x,lk (drSl V (memB (z07 o')) bs es) t=some x->lk (drSl V (memB (z07 o')) (putB V bs v d) es) t=some x:=by
  intro t x hx
  cases d with
  | none=>exact hx
  | some d=>
   obtain⟨k1,k2⟩:=hd d rfl
   unfold drSl putB at *
   rw [zrm] at hx ⊢
   cases hl:lk ((es.filter fun e=>memB (z07 o') e.1).map (·.2)) t with
   | some y=>rw [hl] at hx; exact hx
   | none=>
    rw [hl] at hx
    simp only at hx ⊢
    rw [z0o,if_neg]
    ·exact hx
    ·intro e2; subst e2; rw [k1] at hx; cases hx
 refine⟨o',obm,h1,h2,h3,h4,fun i x hx=>?_,fun l' hl'=>h6 l' (List.mem_filter.1 hl').1,zqt (s:={ s with sl:=drSl V (memB (z07 o')) bs es,ob:=obm }) (s':={ s' with sl:=drSl V (memB (z07 o')) (putB V bs v d) es,ob:=obm }) ⟨hsl,hk,fun i x hx=>.inr hx⟩ h3 h7⟩
 rcases h5 i x hx with q | q
 ·exact .inl q
 ·rcases h6 l hm hb i x hx with q2 | q2
  ·exact .inl q2
  ·refine .inr (hc i x q ?_)
   unfold zsd at q2
   rwa [hop] at q2
theorem zr1 {A:Asg} {P:Program} {gb:List (Nat×Bool)} (es:List (DE V.T)) :(qrOf P A gb es).map (·.1)=es.map (·.1):=by
 unfold qrOf
 rw [List.map_map]; rfl
theorem yad {A:Asg} {P:Program} {tab:Tab} {n:Nat} {D cands sure:List Nat} {gb gb':List (Nat×Bool)} {bs:Sls V.T} {new es:List (DE V.T)} (hx:GbX gb gb') (hes:EsOK tab gb bs es) (hc:chk tab n D ((new++es).map (·.1)) cands sure=true) :
  ∀ p∈qrOf P A gb' (new++es),p.1∈(qrOf P A gb es).map (·.1)->∃ x,(p.1,x)∈qrOf P A gb es/\Ent x p.2:=by
 intro p hp hpe
 simp only [chk,Bool.and_eq_true] at hc
 have hnd:=zbs hc.1.1.1.1.2
 simp only [qrOf,List.mem_map] at hp
 obtain⟨e,he,rfl⟩:=hp
 have hpe':e.1∈es.map (·.1):=by rw [zr1] at hpe; exact hpe
 obtain⟨e2,he2,h2⟩:=List.mem_map.1 hpe'
 have:=z9u hnd he (List.mem_append_right _ he2) h2.symm
 subst this
 exact⟨denE V P A gb e.2.2,List.mem_map.2 ⟨e,he2,rfl⟩,Ent.of_eq (hx.denE (hes.ch e he2))⟩
theorem yc2 {ops:Array Oper} {clo:List Nat} {n0:Nat} {later sure:List Nat} {bs:Sls V.T} {new es:List (DE V.T)} {s:SS V.T} {gb':List (Nat×Bool)} (hx:GbX s.gb gb') (h3:EsOK (z02 ops) gb' bs (new++es)) (h:∀ e∈es,memB sure e.1=false->zdi N ops clo n0 later bs es s e) :
  ∀ e∈es,memB sure e.1=false->zdi N ops clo n0 later bs (new++es) { s with gb:=gb' } e:=
 fun e he hs=>(h e he hs).more (s':={ s with gb:=gb' }) h3 rfl rfl
theorem yen (hN:z90 V N) {C:Cx N.P} {A:Asg} {ops:Array Oper} {clo:List Nat} {n0:Nat} {later sure:List Nat} {bs:Sls V.T} {new es:List (DE V.T)} {s:SS V.T} {gb':List (Nat×Bool)} (hf:∀ e∈es,memB sure e.1=false->zdi N ops clo n0 later bs (new++es) { s with gb:=gb' } e)
  (x5:∀ e∈new,(∃ o,ops[e.1]? = some o/\GQ C (z02 ops) o ⟨z2y (z02 ops) (memB (Tab.deps (z02 ops) e.1)) (slD V N.P A gb' bs) (qrOf N.P A gb' (new++es)),obD V N.P A A s.ob⟩ (denE V N.P A gb' e.2.2))/\
    ((∃ l∈later,bitB (clo.getD l 0) e.1=false)->zdi N ops clo n0 later bs (new++es) { s with gb:=gb' } e))
  (x3:EsOK (z02 ops) gb' bs (new++es)) (x4:GbOK (⟨bs,gb',s.kn,s.n⟩:Fm V.T)) (hkn:chP gb' s.kn) (h1:OneA V A s.ob) {p:Nat×VP} (hp:p∈qrOf N.P A gb' (new++es)) (hs:memB sure p.1=false) :
  ∃ o,ops[p.1]? = some o/\GQ C (z02 ops) o ⟨z2y (z02 ops) (memB (Tab.deps (z02 ops) p.1)) (slD V N.P A gb' bs) (qrOf N.P A gb' (new++es)),obD V N.P A A s.ob⟩ p.2:=by
 simp only [qrOf,List.mem_map] at hp
 obtain⟨e,he,rfl⟩:=hp
 rcases List.mem_append.1 he with hn | ho
 ·exact(x5 e hn).1
 ·exact y46 hN (s:={ s with gb:=gb' }) (hf e ho hs) x3 x4 hkn h1
theorem yex {ops:Array Oper} {l m:Nat} {done:List Nat} {E:List (DE V.T)} (h :(List.range ops.size).all (fun q=>Nat.beq q l||Nat.beq q m||memB done q||hasE V E q)=true) :(List.range ops.size).all (fun q=>Nat.beq q l||Nat.beq q m||memB done q||memB (E.map (·.1)) q)=true:=by
 refine List.all_eq_true.2 fun q hq=>?_
 have:=List.all_eq_true.1 h q hq
 simp only [Bool.or_eq_true] at this ⊢
 rcases this with q1 | q1
 ·exact .inl q1
 ·obtain⟨e,he,hb⟩:=List.any_eq_true.1 q1
  exact .inr (zx.2 (List.mem_map.2 ⟨e,he,Nat.eq_of_beq_eq_true hb⟩))
theorem yc4 {ops:Array Oper} {l:Nat} {done:List Nat} {E:List (DE V.T)} (h :(List.range ops.size).all (fun q=>Nat.beq q l||memB done q||hasE V E q)=true) :(List.range ops.size).all (fun q=>Nat.beq q l||memB done q||memB (E.map (·.1)) q)=true:=by
 refine List.all_eq_true.2 fun q hq=>?_
 have:=List.all_eq_true.1 h q hq
 simp only [Bool.or_eq_true] at this ⊢
 rcases this with q1 | q1
 ·exact .inl q1
 ·obtain⟨e,he,hb⟩:=List.any_eq_true.1 q1
  exact .inr (zx.2 (List.mem_map.2 ⟨e,he,Nat.eq_of_beq_eq_true hb⟩))
end
end Px
end
section
namespace Px
open Go Go.RowKit
section
variable {V:TE} {N:Env V} {R:Type} {r:R}
structure zvr {R R':Type} (leaf:Option R->Option R') (comb:List (Option R')->Option R') (r:R) (G:R'->Prop):Prop where
 leaf:∀ x y,leaf x=some y->G y->x=some r
 comb:∀ l y,comb l=some y->G y->∀ x∈l,∃ a,x=some a/\G a
theorem zx2:zvr id one1 r (fun y=>y=r) where
 leaf:=fun x y h e=>by subst e; exact h
 comb:=fun l y h e x hx=>by
  unfold one1 at h
  split at h
  ·simp only [List.mem_singleton] at hx; subst hx; exact⟨y,h,e⟩
  ·cases h
theorem y6f:zvr (fun x:Option R=>some [x]) catL r (fun L=>∀ x∈L,x=some r) where
 leaf:=fun x y h e=>by
  simp only [Option.some.injEq] at h
  subst h; exact e x (List.mem_singleton.2 rfl)
 comb:=fun l=>by
  induction l with
  | nil=>intro y _ _ x hx; cases hx
  | cons z l ih=>
   intro y h e x hx
   simp only [catL] at h
   cases hz:z with
   | none=>rw [hz] at h; simp [cat2] at h
   | some a=>
    cases hl:catL l with
    | none=>rw [hz,hl] at h; simp [cat2] at h
    | some b=>
     rw [hz,hl] at h
     simp only [cat2,Option.some.injEq] at h
     subst h
     rcases List.mem_cons.1 hx with rfl | hx
     ·exact⟨a,hz,fun q hq=>e q (List.mem_append_left _ hq)⟩
     ·exact ih b hl (fun q hq=>e q (List.mem_append_right _ hq)) x hx
theorem zl3 {clo:List Nat} {l:Nat} : z7f clo [l] = [l]:=by simp [z7f]
def zuc (x:VP) (objs:List HP) (x2:VP) (objs2:List HP):Prop:=(x2=x/\objs2=objs)\/
 ∃(O:List HP) (i:Nat) (sv:Value) (H:HP),ObW objs O/\O[i]? = some H/\Ent x (eqv sv)/\(∀ r S w,H.h S r w->x2.h (fun b=>r b\/S b) w sv)/\objs2=O.set i emp
theorem zm4 {sv:Value} {X:VP} : ∀(l:List HP),zjp sv X l l
 | []=>trivial
 | A::l=>⟨fun _ _ _ _ h=>h,zm4 l⟩
theorem OpT.frz {P:Program} {C:Cx P} {o:Oper} {s:St} {K K':VP->List HP->Prop} (h:OpT C o s K) (hk:∀ x objs,K x objs->∃ x2 objs2,zuc x objs x2 objs2/\K' x2 objs2):OpT C o s K':=by
 intro a w ro S Q hd hn hw hs
 refine Oper.wp_mono ?_ (h a w ro S Q hd hn hw hs)
 rintro a' w' ⟨v,ro',S',x,objs',ha,e,hw',hx,hkk⟩
 obtain⟨x2,objs2,hf,hk2⟩:=hk _ _ hkk
 rcases hf with⟨rfl,rfl⟩ |⟨O,i,sv,H,hO,hi,hent,hX,rfl⟩
 ·exact⟨v,ro',S',x2,objs2,ha,e,hw',hx,hk2⟩
 ·obtain⟨S2,hw2⟩:=hO _ _ _ _ _ hw'
  have hv:v=sv:=hent _ _ _ hx
  subst hv
  obtain⟨r3,S3,hrr,hw3,hev3,hx3⟩:=zze i (List.getElem?_eq_some_iff.1 hi).1 hw2 e (hX _ _ _ (hw2.obj i H hi)) (zm4 _)
  exact⟨v,r3,S3,x2,_,ha,hev3,hw3,hx3,hk2⟩
theorem yb2 {P:Program} {ops:List Oper} {l n0:Nat} {o:Op} {fs:Bool} {ob ob':List (SO V.T)} {v:SV V.T} {A:Asg} {x:VP} {objs:List HP} (hlen:A.length=ob'.length) (hent:Ent x (v.den V P A)) (hobw:ObW objs (obD V P A A ob')) (hchg:Chg o fs n0 ob ob') :
  ∃ x2 objs2,zuc x objs x2 objs2/\Ent x2 ((frzN V ops l ob.length v ob').1.den V P A)/\ObW objs2 (obD V P A A (frzN V ops l ob.length v ob').2)/\A.length =(frzN V ops l ob.length v ob').2.length/\Chg o fs n0 ob (frzN V ops l ob.length v ob').2:=by
 have idle:∃ x2 objs2,zuc x objs x2 objs2/\Ent x2 (v.den V P A)/\ObW objs2 (obD V P A A ob')/\A.length=ob'.length/\Chg o fs n0 ob ob':=⟨x,objs,.inl ⟨rfl,rfl⟩,hent,hobw,hlen,hchg⟩
 unfold frzN
 cases elB ops l with
 | false=>exact idle
 | true=>
 simp only [cond_true]
 split
 ·rename_i n
  cases hb:Nat.ble ob.length n with
  | false=>exact idle
  | true=>
  simp only [cond_true]
  split
  ·rename_i E c l' hn
   have hlt:=(List.getElem?_eq_some_iff.1 hn).1
   obtain⟨q,hq⟩:∃ q,A[n]? = some q:=⟨_,List.getElem?_eq_getElem (hlen ▸ hlt)⟩
   have hob:=zu V P (A:=A) (ps:=A) hq hn
   refine⟨Px.ro (V.ev c) (V.sz c) l',_,.inr ⟨_,n,q.2,_,hobw,hob,?_,fun r S w h=>zwc (V.ev_len c) h,rfl⟩,?_,?_,by simpa using hlen,fun i y hi hc=>?_⟩
   ·simp only [SV.den,hq] at hent
    exact hent
   ·simp only [SV.den]; exact Ent.refl
   ·rw [z7t V P A ob' n q .emp hq]; exact ObW.refl
   ·have hi2:=(List.getElem?_eq_some_iff.1 hi).1
    have hge:=Nat.le_of_ble_eq_true hb
    rw [List.getElem?_set_ne (by omega)]
    exact hchg i y hi hc
  ·exact idle
 ·exact idle
theorem y6y (hN:z90 V N) {R':Type} {leaf:Option R->Option R'} {comb:List (Option R')->Option R'} {G:R'->Prop} (hcomb:zvr leaf comb r G) {C:Cx N.P} {acts:List Act} {ops:Array Oper} {inl:Nat->Inl V R} {K:KX V R} {Q:Exit->Act->World->Prop} {clo:List Nat} {n0:Nat} {A0:Asg} {ro0:Nat->Prop} {wz:World}
  (hinl:∀ i f fn c,N.P.funcs[f]? = some fn->fn.body=some c->zit C r (inl i f) c (inlK V N fn (zim V N inl ops i K)))
  (hK:∀ s a w,K .normal s=some r->SatS V C acts s a w->Q .normal a w) (hev0:Evo C.base C.r0 C.wI ro0 wz) :
  ∀(n:Nat) (later done sure:List Nat) (bs:Sls V.T) (es:List (DE V.T)) (s:SS V.T) (A:Asg) (L:R'),y0v V N leaf comb inl ops clo n0 (fun s=>K .normal s) n later done sure bs es s=some L->G L->
   AExt A0 A->A.length=s.ob.length->Stk V N.P A0 ro0 wz s.stk acts->
   EsOK (z02 ops) s.gb bs es->GbOK (⟨bs,s.gb,s.kn,s.n⟩:Fm V.T)->chP s.gb s.kn->(∀ e∈es,memB sure e.1=false->zdi N ops clo n0 later bs es s e)->
   Reg (P:=N.P) { C with n:=s.n,r0:=ro0,wI:=wz } ops (z02 ops) Q done ⟨slD V N.P A s.gb bs,obD V N.P A A s.ob⟩ (qrOf N.P A s.gb es):=by
 intro n
 induction n with
 | zero=>intro later done sure bs es s A L h; cases h
 | succ n ih=>
  intro later done sure bs es s A L h hL hA hl hst hes hgb hkn hfree
  refine Reg.withInv fun⟨r1,S1,w1,hw1⟩=>?_
  have h1:=zqa hw1
  simp only [y0v] at h
  obtain⟨gb',new,x1,x2,x3,x4,x5⟩:=zzy hN (C:={ C with n:=s.n,r0:=ro0,wI:=wz }) (A:=A) _ s es h hes hgb hkn h1
  have hkn':chP gb' s.kn:=(x1.chP hgb.kn) ▸ hkn
  have hf2:=yc2 x1 x3 hfree
  simp only at x2
  revert x2 x3 x5 hf2
  have hdist:chk (z02 ops) s.n done ((new++es).map (·.1)) (z7f clo later) sure=true->∀ p∈qrOf N.P A gb' (new++es),p.1∈(qrOf N.P A s.gb es).map (·.1)->∃ x,(p.1,x)∈qrOf N.P A s.gb es/\Ent x p.2:=fun hc=>yad x1 hes hc
  generalize hE:new++es=E at *
  intro x2 x3 x5 hf2
  cases hck:chk (z02 ops) s.n done (E.map (·.1)) (z7f clo later) sure with
  | false=>rw [hck] at x2; cases x2
  | true=>
  rw [hck] at x2
  simp only [cond_true] at x2
  have hkeys:=zr1 (P:=N.P) (A:=A) (gb:=gb') E
  have hgq:∀ p∈qrOf N.P A gb' E,memB sure p.1=false->∃ o,ops[p.1]? = some o/\GQ (P:=N.P) (C:={ C with n:=s.n,r0:=ro0,wI:=wz }) (z02 ops) o ⟨z2y (z02 ops) (memB (Tab.deps (z02 ops) p.1)) (slD V N.P A gb' bs) (qrOf N.P A gb' E),obD V N.P A A s.ob⟩ p.2:=by
   intro p hp hs
   subst hE
   exact yen hN hf2 x5 x3 x4 hkn' h1 hp hs
  refine Reg.weak (s':=⟨slD V N.P A gb' bs,obD V N.P A A s.ob⟩) (QR':=qrOf N.P A gb' E) (fun a r w q=>by rw [<- zwt x1 hgb]; exact q) ObW.refl ?_ (hdist hck) ?_
  ·intro q hq
   rw [hkeys,<- hE,List.map_append]
   refine List.mem_append_right _ ?_
   rw [zr1] at hq; exact hq
  cases later with
  | nil=>
   have hk:=hcomb.leaf _ _ x2 hL
   refine Reg.introG [] sure rfl (by rw [hkeys]; exact hck) (zi8 x3) (zex fun p hp hs=>hgq p hp hs) trivial ?_
   intro _ a' w' hsat
   obtain⟨hd',hn',ro',S',hw',hev',hsl'⟩:=hsat
   rw [z4t _ x3.dst] at hsl'
   exact hK _ a' w' hk ⟨hd',hn',hkn',x3.gb x4 _,A,ro',S',hl,hw',hev0.trans hev',hsl',hst.ext hA hev'⟩
  | cons l0 lt=>
  generalize hlat:l0::lt=later at *
  have x2' :(bif (z7f clo later).isEmpty then none else comb ((z7f clo later).map fun l=>match ops[l]? with
    | some o=>bif o.guard.isNone&&zr7 o&&!memB done l&&!memB (E.map (·.1)) l then(bif tlB V bs o then(bif Nat.beq later.length 1&&Nat.beq (l+1) ops.size&&(E.map (·.1)).all (fun q=>(l::(done++E.map (·.1))).any fun j=>memB (Tab.deps (z02 ops) j) q)&&(List.range ops.size).all (fun q=>Nat.beq q l||memB done q||hasE V E q) then
       leaf (zk V N { s with gb:=gb',sl:=drSl V (fun _=>true) bs E } [] o.op o.type fun v=>after V { s with gb:=gb',sl:=drSl V (fun _=>true) bs E } o.dst ([],v) (fun s=>K .normal s)) else none) else bif zak V { s with gb:=gb' } bs E o.dst then(match inlC V N { s with gb:=gb',sl:=drSl V (memB (z07 o)) bs E } o.op with
     | some _=>bif Nat.beq later.length 1&&Nat.beq (l+1) ops.size&&(E.map (·.1)).all (fun q=>(l::(done++E.map (·.1))).any fun j=>memB (Tab.deps (z02 ops) j) q)&&(List.range ops.size).all (fun q=>Nat.beq q l||memB done q||hasE V E q) then
       leaf (znb V N (inl l) o { s with gb:=gb',sl:=drSl V (fun _=>true) bs E } (fun s=>K .normal s)) else
      bif Nat.beq later.length 1&&Nat.beq (l+2) ops.size&&!memB done (l+1)&&(E.map (·.1)).all (fun q=>(l::(done++E.map (·.1))).any fun j=>memB (Tab.deps (z02 ops) j) q)&&(List.range ops.size).all (fun q=>Nat.beq q l||Nat.beq q (l+1)||memB done q||hasE V E q) then(match ops[l+1]? with
       | some o2=>bif o2.guard.isNone&&!zxd V N o2.op&&!memB (E.map (·.1)) (l+1) then leaf (znb V N (inl l) o { s with gb:=gb',sl:=drSl V (fun _=>true) bs E } fun s=>zk V N s [] o2.op o2.type fun v=>after V s o2.dst ([],v) fun s=>K .normal s) else none
       | none=>none) else none
     | none=>bif (zyd V N { s with gb:=gb',sl:=drSl V (memB (z07 o)) bs E } o.op).isEmpty&&y5u V ops.toList n0 l { s with gb:=gb',sl:=drSl V (memB (z07 o)) bs E } o.op then
       z3r (R:=R') V N { s with gb:=gb',sl:=drSl V (memB (z07 o)) bs E } o.op o.type fun v s'=>
        y0v V N leaf comb inl ops clo n0 (fun s=>K .normal s) n (later.filter fun x=>!Nat.beq x l) (l::done) (sure++(E.map (·.1)).filter fun q=>bitB (clo.getD l 0) q&&!memB sure q) (putB V bs (frzN V ops.toList l s.ob.length v s'.ob).1 o.dst) E { s with gb:=gb',ob:=(frzN V ops.toList l s.ob.length v s'.ob).2 } else none) else none) else none
    | none=>none))=some L:=by
   subst hlat
   exact x2
  clear x2
  cases hem :(z7f clo later).isEmpty with
  | true=>rw [hem] at x2'; cases x2'
  | false=>
  rw [hem] at x2'
  simp only [cond_false] at x2'
  have hat:=fun l (hl:l∈z7f clo later)=>hcomb.comb _ _ x2' hL _ (List.mem_map_of_mem hl)
  have hfacts:∀ l∈z7f clo later,∃ o,ops[l]? = some o/\o.guard=none/\zr7 o=true/\memB done l=false/\memB (E.map (·.1)) l=false:=by
   intro l hl
   obtain⟨a,ha,_⟩:=hat l hl
   cases ho:ops[l]? with
   | none=>rw [ho] at ha; cases ha
   | some o=>
    rw [ho] at ha
    simp only at ha
    cases hc :(o.guard.isNone&&zr7 o&&!memB done l&&!memB (E.map (·.1)) l) with
    | false=>rw [hc] at ha; cases ha
    | true=>
     simp only [Bool.and_eq_true,Option.isNone_iff_eq_none] at hc
     simp only [Bool.not_eq_true'] at hc
     exact⟨o,rfl,hc.1.1.1,hc.1.1.2,hc.1.2,hc.2⟩
  have hco:zav (z02 ops) done (E.map (·.1))=false:=by
   obtain⟨l,hl⟩:∃ l,l∈z7f clo later:=by
    cases hcx:z7f clo later with
    | nil=>rw [hcx] at hem; cases hem
    | cons l _=>exact⟨l,List.mem_cons_self ..⟩
   obtain⟨o,ho,_,_,hld,hle⟩:=hfacts l hl
   cases hco:zav (z02 ops) done (E.map (·.1)) with
   | false=>rfl
   | true=>
    unfold zav at hco
    have:=List.all_eq_true.1 hco l (by rw [List.mem_range,zmd rfl]; exact(Array.getElem?_eq_some_iff.1 ho).1)
    rw [hld,hle] at this; cases this
  have tailW:∀ l∈z7f clo later,∀ o,ops[l]? = some o->o.guard=none->(Nat.beq later.length 1&&Nat.beq (l+1) ops.size&&(E.map (·.1)).all (fun q=>(l::(done++E.map (·.1))).any fun j=>memB (Tab.deps (z02 ops) j) q)&&(List.range ops.size).all (fun q=>Nat.beq q l||memB done q||hasE V E q))=true->
    (∀ a w,SatS V C acts { s with gb:=gb',sl:=drSl V (fun _=>true) bs E } a w->o.wp N.P a w (Q .normal) Q)->
    Reg (P:=N.P) { C with n:=s.n,r0:=ro0,wI:=wz } ops (z02 ops) Q done ⟨slD V N.P A gb' bs,obD V N.P A A s.ob⟩ (qrOf N.P A gb' E):=by
   intro l hlc o ho hg hcc hwp
   simp only [Bool.and_eq_true] at hcc
   obtain⟨⟨⟨hone,hsz⟩,hcl⟩,hall⟩:=hcc
   have hone:=Nat.eq_of_beq_eq_true hone
   have hlat1:later = [l]:=by
    have hml:l∈later:=(List.mem_filter.1 hlc).1
    match later,hone,hml with
    | [y],_,hml=>simp at hml; rw [hml]
   subst hlat1
   rw [zl3] at hck
   refine Reg.last l sure rfl (by rw [hkeys]; exact hck) (zi8 x3) (zex fun p hp hs=>hgq p hp hs) (by rw [hkeys]; exact hcl) (by rw [hkeys]; exact yc4 hall) ho hg ?_ ?_
   ·rw [hkeys]; exact hco
   ·intro a w hsat
    obtain⟨hd',hn',ro',S',hw',hev',hsl'⟩:=hsat
    rw [z4t _ x3.dst] at hsl'
    exact hwp a w ⟨hd',hn',hkn',x3.gb x4 _,A,ro',S',hl,hw',hev0.trans hev',hsl',hst.ext hA hev'⟩
  by_cases htl:∃ l∈z7f clo later,∃ o,ops[l]? = some o/\tlB V bs o=true
  ·-- a variable's new value,at the end
   obtain⟨l,hlc,o,ho,ht⟩:=htl
   obtain⟨a,ha,haL⟩:=hat l hlc
   obtain⟨o',ho',hg,hdst,hld,hle⟩:=hfacts l hlc
   rw [ho] at ho'; cases ho'
   simp only [ho,hg,hdst,hld,hle,ht,Option.isNone_none,Bool.not_false,Bool.and_self,cond_true] at ha
   cases hcc :(Nat.beq later.length 1&&Nat.beq (l+1) ops.size&&(E.map (·.1)).all (fun q=>(l::(done++E.map (·.1))).any fun j=>memB (Tab.deps (z02 ops) j) q)&&(List.range ops.size).all (fun q=>Nat.beq q l||memB done q||hasE V E q)) with
   | false=>rw [hcc] at ha; cases ha
   | true=>
    rw [hcc] at ha
    simp only [cond_true] at ha
    have x2:=hcomb.leaf _ _ ha haL
    refine tailW l hlc o ho hg hcc fun a w hsat=>?_
    exact(ze1 hN x2 (fun p hp=>by simp at hp) hsat (fun s2 v0 w' hk hs2=>hK s2 _ w' hk hs2)).1 trivial
  by_cases hin:∃ l∈z7f clo later,∃ o f,ops[l]? = some o/\inlC V N { s with gb:=gb',sl:=drSl V (memB (z07 o)) bs E } o.op=some f
  ·-- a callee that is gone through in place,at the end
   obtain⟨l,hlc,o,f0,ho,hi⟩:=hin
   obtain⟨a,ha,haL⟩:=hat l hlc
   obtain⟨o',ho',hg,hdst,hld,hle⟩:=hfacts l hlc
   rw [ho] at ho'; cases ho'
   have htb:tlB V bs o=false:=by
    cases e:tlB V bs o with
    | false=>rfl
    | true=>exact absurd ⟨l,hlc,o,ho,e⟩ htl
   have hdf:zak V { s with gb:=gb' } bs E o.dst=true:=by
    cases e:zak V { s with gb:=gb' } bs E o.dst with
    | true=>rfl
    | false=>simp [ho,hg,hdst,hld,hle,htb,e] at ha
   simp only [ho,hg,hdst,hdf,hld,hle,hi,htb,Option.isNone_none,Bool.not_false,Bool.and_self,cond_true,cond_false] at ha
   cases hcc :(Nat.beq later.length 1&&Nat.beq (l+1) ops.size&&(E.map (·.1)).all (fun q=>(l::(done++E.map (·.1))).any fun j=>memB (Tab.deps (z02 ops) j) q)&&(List.range ops.size).all (fun q=>Nat.beq q l||memB done q||hasE V E q)) with
   | false=>
    rw [hcc] at ha
    simp only [cond_false] at ha
    cases hcc2 :(Nat.beq later.length 1&&Nat.beq (l+2) ops.size&&!memB done (l+1)&&(E.map (·.1)).all (fun q=>(l::(done++E.map (·.1))).any fun j=>memB (Tab.deps (z02 ops) j) q)&&(List.range ops.size).all (fun q=>Nat.beq q l||Nat.beq q (l+1)||memB done q||hasE V E q)) with
    | false=>rw [hcc2] at ha; cases ha
    | true=>
     rw [hcc2] at ha
     simp only [cond_true] at ha
     cases ho2:ops[l+1]? with
     | none=>rw [ho2] at ha; cases ha
     | some o2=>
      rw [ho2] at ha
      simp only at ha
      cases hc3 :(o2.guard.isNone&&!zxd V N o2.op&&!memB (E.map (·.1)) (l+1)) with
      | false=>rw [hc3] at ha; cases ha
      | true=>
       rw [hc3] at ha
       simp only [cond_true] at ha
       have x2:=hcomb.leaf _ _ ha haL
       simp only [Bool.and_eq_true,Option.isNone_iff_eq_none,Bool.not_eq_true'] at hc3
       obtain⟨⟨hg2,hq2⟩,hmK⟩:=hc3
       simp only [Bool.and_eq_true,Bool.not_eq_true'] at hcc2
       obtain⟨⟨⟨⟨hone,hsz⟩,hmD⟩,hcl⟩,hall⟩:=hcc2
       have hsz:=Nat.eq_of_beq_eq_true hsz
       have hone:=Nat.eq_of_beq_eq_true hone
       have hlat1:later = [l]:=by
        have hml:l∈later:=(List.mem_filter.1 hlc).1
        match later,hone,hml with
        | [y],_,hml=>simp at hml; rw [hml]
       subst hlat1
       rw [zl3] at hck
       refine Reg.last2 l (l+1) sure rfl (by rw [hkeys]; exact hck) (zi8 x3) (zex fun p hp hs=>hgq p hp hs) (by rw [hkeys]; exact hcl) (by rw [hkeys]; exact yex hall) ho hg ho2 hg2 (by omega) hld (by rw [hkeys]; exact hle) hmD (by rw [hkeys]; exact hmK) ?_ ?_
       ·rw [hkeys]; exact hco
       ·intro a w hsat
        obtain⟨hd',hn',ro',S',hw',hev',hsl'⟩:=hsat
        rw [z4t _ x3.dst] at hsl'
        have hrest :(fun v s=>after V s o.dst ([],v) fun s=>zk V N s [] o2.op o2.type fun v=>after V s o2.dst ([],v) fun s=>K .normal s)=zim V N inl ops l K:=by
         funext v s
         have hdr:ops.toList.drop (l+1) = [o2]:=by
          have h1:ops.toList.drop (l+1)=o2::ops.toList.drop (l+2):=by
           have hlt:l+1<ops.toList.length:=by simp; omega
           rw [List.drop_eq_getElem_cons hlt]
           congr 1
           have:=(Array.getElem?_eq_some_iff.1 ho2).2
           simpa using this
          rw [h1,hsz]; simp
         have hlq:∀ s:SS V.T,zh0 V N s [] o2.op=false:=fun s=>by unfold zh0; rw [hq2]; rfl
         simp only [zim,ho,hdr,z6z,hg2,hlq,cond_false]
        refine zpq hN x2 (fun f fn c hf hb=>?_) (C:=C) (acts:=acts) ⟨hd',hn',hkn',x3.gb x4 _,A,ro',S',hl,hw',hev0.trans hev',hsl',hst.ext hA hev'⟩ (fun s2 v0 w' hk hs2=>?_)
        ·rw [hrest]
         exact hinl l f fn c hf hb
        ·exact(ze1 hN hk (fun p hp=>by simp at hp) hs2 (fun s3 v1 w2 hk3 hs3=>hK s3 _ w2 hk3 hs3)).1 trivial
   | true=>
    rw [hcc] at ha
    simp only [cond_true] at ha
    have x2:=hcomb.leaf _ _ ha haL
    simp only [Bool.and_eq_true] at hcc
    obtain⟨⟨⟨hone,hsz⟩,hcl⟩,hall⟩:=hcc
    have hsz:=Nat.eq_of_beq_eq_true hsz
    have hone:=Nat.eq_of_beq_eq_true hone
    have hlat1:later = [l]:=by
     have hml:l∈later:=(List.mem_filter.1 hlc).1
     match later,hone,hml with
     | [y],_,hml=>simp at hml; rw [hml]
    subst hlat1
    rw [zl3] at hck
    refine Reg.last l sure rfl (by rw [hkeys]; exact hck) (zi8 x3) (zex fun p hp hs=>hgq p hp hs) (by rw [hkeys]; exact hcl) (by rw [hkeys]; exact yc4 hall) ho hg ?_ ?_
    ·rw [hkeys]; exact hco
    ·intro a w hsat
     obtain⟨hd',hn',ro',S',hw',hev',hsl'⟩:=hsat
     rw [z4t _ x3.dst] at hsl'
     have hrest :(fun v s=>after V s o.dst ([],v) fun s=>K .normal s)=zim V N inl ops l K:=by
      funext v s
      have hdr:ops.toList.drop (l+1) = []:=by rw [hsz]; simp
      simp only [zim,ho,hdr,z6z]
     refine zpq hN x2 (fun f fn c hf hb=>?_) (C:=C) (acts:=acts) ⟨hd',hn',hkn',x3.gb x4 _,A,ro',S',hl,hw',hev0.trans hev',hsl',hst.ext hA hev'⟩ (fun s2 v0 w' hk hs2=>hK s2 _ w' hk hs2)
     rw [hrest]
     exact hinl l f fn c hf hb
  ·-- others
   refine Reg.introG (z7f clo later) sure rfl (by rw [hkeys]; exact hck) (zi8 x3) (zex fun p hp hs=>hgq p hp hs) (zex fun l hlc=>?_) (fun hc2=>by rw [hkeys,hco] at hc2; cases hc2)
   obtain⟨a,ha,haL⟩:=hat l hlc
   obtain⟨o,ho,hg,hdst,hld,hle⟩:=hfacts l hlc
   have htb:tlB V bs o=false:=by
    cases e:tlB V bs o with
    | false=>rfl
    | true=>exact absurd ⟨l,hlc,o,ho,e⟩ htl
   have hdf:zak V { s with gb:=gb' } bs E o.dst=true:=by
    cases e:zak V { s with gb:=gb' } bs E o.dst with
    | true=>rfl
    | false=>simp [ho,hg,hdst,hld,hle,htb,e] at ha
   have hni:inlC V N { s with gb:=gb',sl:=drSl V (memB (z07 o)) bs E } o.op=none:=by
    cases hi:inlC V N { s with gb:=gb',sl:=drSl V (memB (z07 o)) bs E } o.op with
    | none=>rfl
    | some f=>exact absurd ⟨l,hlc,o,f,ho,hi⟩ hin
   simp only [ho,hg,hdst,hdf,hld,hle,hni,htb,Option.isNone_none,Bool.not_false,Bool.and_self,cond_true,cond_false] at ha
   cases hfz :((zyd V N { s with gb:=gb',sl:=drSl V (memB (z07 o)) bs E } o.op).isEmpty&&y5u V ops.toList n0 l { s with gb:=gb',sl:=drSl V (memB (z07 o)) bs E } o.op) with
   | false=>rw [hfz] at ha; cases ha
   | true=>
    rw [hfz] at ha
    simp only [cond_true] at ha
    simp only [Bool.and_eq_true] at hfz
    have hchg:=y45 (fs:=stoF ops.toList l) (n0:=n0) (fun hf=>by
     have h2:=hfz.2
     unfold y5u at h2
     split at h2
     ·rename_i t p v hop
      rw [hf] at h2
      simp only [Bool.not_true,Bool.false_or] at h2
      split at h2
      ·rename_i i off hp
       exact⟨t,p,v,i,off,hop,hp,Nat.le_of_ble_eq_true h2⟩
      ·cases h2
     ·rename_i hop
      exfalso
      unfold stoF at hf
      have hop2:opAt ops.toList l=o.op:=by unfold opAt; rw [Array.getElem?_toList,ho]
      rw [hop2] at hf
      split at hf
      ·rename_i t p v hopp; exact hop _ _ _ hopp
      ·cases hf) ha
    have hOp:=fun dst pos aft guard hd=>zw4 (C:={ C with n:=s.n,r0:=ro0,wI:=wz }) (s:={ s with gb:=gb',sl:=drSl V (memB (z07 o)) bs E }) hN hl hkn' (x3.gb x4 _) h1 hchg dst pos aft guard hd
    refine⟨o,ho,?_,?_,?_⟩
    ·unfold z40
     cases hod:o.dst with
     | none=>rfl
     | some d=>rw [hod] at hdf; simp only [zak,Bool.and_eq_true,Nat.blt_eq] at hdf; simpa using hdf.1.1.1
    ·rw [hkeys]
     refine List.all_eq_true.2 fun q hq=>?_
     obtain⟨e,he,rfl⟩:=List.mem_map.1 hq
     rw [x3.dst e he]
     cases hod:o.dst with
     | none=>rfl
     | some d=>
      rw [hod] at hdf
      simp only [zak,Bool.and_eq_true,Bool.not_eq_true'] at hdf
      simp only [y2u,Bool.not_eq_true']
      cases hb:Nat.beq e.2.1 d with
      | false=>rfl
      | true=>
       have :(E.any fun e=>Nat.beq e.2.1 d)=true:=List.any_eq_true.2 ⟨e,he,hb⟩
       rw [hdf.2] at this; cases this
    ·unfold y3e
     rw [hg]
     have h6:=hOp o.dst o.pos o.after none (fun e=>by
      cases hod:o.dst with
      | none=>rfl
      | some d=>
       obtain⟨dst,op,ty,pos,aft,guard⟩:=o
       simp only at hod
       subst hod
       cases op <;> simp [y9p] at e <;> simp [zr7] at hdst)
     have ho3 :(⟨o.dst,o.op,o.type,o.pos,o.after,none⟩:Oper)=o:=by
      obtain⟨dst,op,ty,pos,aft,guard⟩:=o
      simp only at hg
      subst hg; rfl
     rw [ho3] at h6
     have e4 :(⟨z2y (z02 ops) (memB (Tab.deps (z02 ops) l)) (slD V N.P A gb' bs) (qrOf N.P A gb' E),obD V N.P A A s.ob⟩:St)=SS.st V N.P A { s with gb:=gb',sl:=drSl V (memB (z07 o)) bs E }:=by
      rw [zf9 ho,z4t _ x3.dst]; rfl
     rw [e4]
     refine h6.frz ?_
     rintro x objs ⟨B,ob',v,hkv,hlen,hent,hobw⟩
     simp only at hkv
     split at hkv
     ·rename_i hchg2
      obtain⟨x',objs',hfz',hent',hobw',hlen',hchg'⟩:=yb2 (ops:=ops.toList) (l:=l) hlen hent hobw hchg2
      refine⟨x',objs',hfz',[],rfl,?_⟩
      rw [List.append_nil]
      clear hent hobw hlen hchg2 hfz'
      revert hkv hent' hobw' hlen' hchg'
      generalize frzN V ops.toList l s.ob.length v ob'=fz
      obtain⟨v,ob'⟩:=fz
      clear x objs
      revert x' objs'
      intro x objs hkv hent hobw hlen hchg2
      simp only at hkv hent hobw hlen hchg2
      have hfree3:∀ e∈E,memB (sure++(E.map (·.1)).filter fun q=>bitB (clo.getD l 0) q&&!memB sure q) e.1=false->zdi N ops clo n0 (later.filter fun x=>!Nat.beq x l) (putB V bs v o.dst) E { s with gb:=gb',ob:=ob' } e:=by
       intro e he hs
       have hs1:memB sure e.1=false:=by
        cases hm:memB sure e.1 with
        | false=>rfl
        | true=>rw [zx.2 (List.mem_append_left _ (zx.1 hm))] at hs; cases hs
       have hs2:bitB (clo.getD l 0) e.1=false:=by
        cases hm:bitB (clo.getD l 0) e.1 with
        | false=>rfl
        | true=>rw [zx.2 (List.mem_append_right _ (List.mem_filter.2 ⟨List.mem_map.2 ⟨e,he,rfl⟩,by rw [hm,hs1]; rfl⟩))] at hs; cases hs
       have hF:zdi N ops clo n0 later bs E { s with gb:=gb' } e:=by
        subst hE
        rcases List.mem_append.1 he with hn | ho2
        ·exact(x5 e hn).2 ⟨l,(List.mem_filter.1 hlc).1,hs2⟩
        ·exact hf2 e ho2 hs1
       refine hF.step (List.mem_filter.1 hlc).1 hs2 ho ?_ x3 rfl hchg2
       intro d hd
       rw [hd] at hdf
       simp only [zak,Bool.and_eq_true,Option.isNone_iff_eq_none,Bool.not_eq_true'] at hdf
       refine⟨hdf.1.2,fun e2 he2 q=>?_⟩
       have :(E.any fun e=>Nat.beq e.2.1 d)=true:=List.any_eq_true.2 ⟨e2,he2,by rw [q]; exact Nat.beq_refl d⟩
       rw [hdf.2] at this; cases this
      have hesn:EsOK (z02 ops) gb' (putB V bs v o.dst) E:=by
       refine⟨x3.dst,x3.ch,x3.val,x3.inj,fun e he=>?_⟩
       cases hod:o.dst with
       | none=>exact x3.bs e he
       | some d=>
        rw [hod] at hdf
        simp only [zak,Bool.and_eq_true,Bool.not_eq_true'] at hdf
        simp only [putB,z0o]
        rw [if_neg]
        ·exact x3.bs e he
        ·intro q
         have :(E.any fun e=>Nat.beq e.2.1 d)=true:=List.any_eq_true.2 ⟨e,he,by rw [q]; exact Nat.beq_refl d⟩
         rw [hdf.2] at this; cases this
      have hgbn:GbOK (⟨putB V bs v o.dst,gb',s.kn,s.n⟩:Fm V.T):=by
       cases hod:o.dst with
       | none=>exact x4
       | some d=>
        rw [hod] at hdf
        simp only [zak,Bool.and_eq_true,Option.isNone_iff_eq_none] at hdf
        refine⟨fun t g ht ch z hz=>?_,fun t ch z hz p hp=>?_,x4.kn⟩
        ·simp only [putB,z0o] at hz
         by_cases e:t=d
         ·subst e
          have hgd:lk gb' t=none:=hdf.1.1.2
          have ht':lk gb' t=some g:=ht
          rw [hgd] at ht'; cases ht'
         ·rw [if_neg e] at hz; exact x4.val t g ht ch z hz
        ·simp only [putB,z0o] at hz
         by_cases e:t=d
         ·rw [if_pos e] at hz; cases hz; cases hp
         ·rw [if_neg e] at hz; exact x4.ch t ch z hz p hp
      have hrec:=ih _ (l::done) _ (putB V bs v o.dst) E { s with gb:=gb',ob:=ob' } (A++B) a hkv haL (fun i p hp=>AExt.app A B i p (hA i p hp)) hlen hst hesn hgbn hkn' hfree3
      refine Reg.weak (fun a r w hsl=>?_) hobw ?_ ?_ hrec
      ·intro t X hX
       simp only [slD] at hX
       cases hod:o.dst with
       | none=>
        rw [hod] at hX hsl
        exact zht V N.P (AExt.app A B) hsl t X hX
       | some d=>
        rw [hod] at hX hsl
        simp only [putB,z0o] at hX
        by_cases e:t=d
        ·subst e
         rw [if_pos rfl] at hX
         simp only [Option.map_some,Option.some.injEq] at hX
         subst hX
         have:=hsl t x (by simp only [z3u.set,Nat.beq_refl,cond_true])
         exact hent _ _ _ this
        ·rw [if_neg e] at hX
         have hsl2:zh (slD V N.P A gb' bs) a r w\/True:=.inr trivial
         cases hbs:lk bs t with
         | none=>rw [hbs] at hX; cases hX
         | some y=>
          rw [hbs] at hX
          simp only [Option.map_some,Option.some.injEq] at hX
          subst hX
          have:=hsl t (denE V N.P A gb' y) (by simp only [z3u.set,zo1 e,cond_false,slD,hbs,Option.map_some])
          exact zl1 V N.P (AExt.app A B) y _ _ _ this
      ·intro q hq; rw [zr1] at hq ⊢; exact hq
      ·intro p hp _
       simp only [qrOf,List.mem_map] at hp
       obtain⟨e,he,rfl⟩:=hp
       exact⟨denE V N.P A gb' e.2.2,List.mem_map.2 ⟨e,he,rfl⟩,zl1 V N.P (AExt.app A B) e.2.2⟩
     ·cases hkv
end
end Px
end
section
namespace Px
open Go Go.RowKit
section
variable {V:TE} {N:Env V} {R:Type} {r:R} {C:Cx N.P}
theorem zv4 (hN:z90 V N) {R':Type} {leaf:Option R->Option R'} {comb:List (Option R')->Option R'} {G:R'->Prop} (hcomb:zvr leaf comb r G) {inl:Nat->Inl V R} {id:Nat} {ops:Array Oper} {K:KX V R} (hinl:∀ i f fn c,N.P.funcs[f]? = some fn->fn.body=some c->zit C r (inl i f) c (inlK V N fn (zim V N inl ops i K)))
  {acts:List Act} {Q:Exit->Act->World->Prop} (hK:∀ e s a w,K e s=some r->SatS V C acts s a w->Q e a w) (hm:N.P.follows .mixedOrders=true) {ls:List Nat} {L:R'} {s:SS V.T} {a:Act} {w:World}
  (h:altT V N leaf comb inl ops ls s K=some L) (hL:G L) (hs:SatS V C acts s a w) :(Code.region id ops true).wp N.P Q a w:=by
 unfold altT ycn at h
 obtain⟨hd,hn,hkn,hgb,A,ro,S,hl,hw,hev,hsl,hst⟩:=hs
 generalize hbs :(s.sl.filter fun p=>!isDs (wrO V ops s) p.1||y6c ops.toList p.1)=bs at h
 have hlk:∀ {t:Nat} {x:Ch×SV V.T},lk bs t=some x->lk s.sl t=some x:=fun {t x} hx=>zdv (fun k=>!isDs (wrO V ops s) k||y6c ops.toList k) (by rw [hbs]; exact hx)
 have hgb0:GbOK (⟨bs,s.gb,s.kn,s.n⟩:Fm V.T):=⟨fun t g hg ch z hz=>hgb.val t g hg ch z (hlk hz),fun t ch z hz=>hgb.ch t ch z (hlk hz),hgb.kn⟩
 have hbs':zh (slD V N.P A s.gb bs) a ro w:=by
  intro t X hX
  simp only [slD] at hX
  cases hb:lk bs t with
  | none=>rw [hb] at hX; cases hX
  | some e=>
   rw [hb] at hX
   exact hsl t X (by simp only [slD,hlk hb]; exact hX)
 have hreg:=y6y hN hcomb hinl (hK .normal) hev _ _ [] [] bs [] s A L h hL (AExt.refl A) hl hst ⟨fun e he=>absurd he List.not_mem_nil,fun e he=>absurd he List.not_mem_nil,fun e he=>absurd he List.not_mem_nil,fun e he=>absurd he List.not_mem_nil,fun e he=>absurd he List.not_mem_nil⟩ hgb0 hkn (fun e he=>absurd he List.not_mem_nil)
 exact zfp.draw hm hreg a w ⟨hd,hn,ro,S,hw,Evo.refl _ _ _,hbs'⟩
theorem zzg (hN:z90 V N) {inl:Nat->Inl V R} {id:Nat} {ops:Array Oper} {d:Bool} {K:KX V R} (hinl:∀ i f fn c,N.P.funcs[f]? = some fn->fn.body=some c->zit C r (inl i f) c (inlK V N fn (zim V N inl ops i K)))
  {acts:List Act} {Q:Exit->Act->World->Prop} (hK:∀ e s a w,K e s=some r->SatS V C acts s a w->Q e a w) {s:SS V.T} {a:Act} {w:World} (h:regX V N inl ops d s K=some r) (hs:SatS V C acts s a w) :(Code.region id ops d).wp N.P Q a w:=by
 unfold regX at h
 cases d with
 | true=>
  simp only [cond_true] at h
  cases hm:N.P.follows .mixedOrders with
  | false=>rw [hm] at h; cases h
  | true=>
   rw [hm] at h
   simp only [cond_true] at h
   split at h
   ·split at h
    ·exact yag hN (K:=fun s=>K .normal s) (hK .normal) hm h hs
    ·exact zv4 hN zx2 hinl hK hm h rfl hs
   ·exact zv4 hN zx2 hinl hK hm h rfl hs
 | false=>
  simp only [cond_false] at h
  refine wp_region ?_
  have:=zrd hN hinl (hK .normal) ops.toList 0 s a w rfl h hs
  rw [<- List.range_eq_range'] at this
  simpa using this
theorem zqn {acts:List Act} {Q:Exit->Act->World->Prop} {n:SS V.T->Option R} {K:KX V R} {W:Act->World->Prop} (hn:∀ s a w,n s=some r->SatS V C acts s a w->W a w) (hK:∀ e s a w,K e s=some r->SatS V C acts s a w->Q e a w) :
  ∀ e s a w,seqK V n K e s=some r->SatS V C acts s a w->Exit.then W Q e a w:=by
 intro e s a w h hs
 cases e with
 | normal=>exact hn s a w h hs
 | _=>exact hK _ s a w h hs
theorem zzb {acts:List Act} {Q:Exit->Act->World->Prop} {id:Nat} {K:KX V R} (hK:∀ e s a w,K e s=some r->SatS V C acts s a w->Q e a w) :
  ∀ e s a w,blkK V id K e s=some r->SatS V C acts s a w->Exit.inBlock id Q e a w:=by
 intro e s a w h hs
 cases e with
 | exit i=>
  simp only [blkK] at h
  simp only [Exit.inBlock]
  by_cases e:i=id
  ·subst e
   rw [Nat.beq_refl] at h
   rw [if_pos rfl]
   exact hK .normal s a w h hs
  ·rw [zo1 e] at h
   rw [if_neg e]
   exact hK _ s a w h hs
 | _=>exact hK _ s a w h hs
theorem y87 {acts:List Act} {Q:Exit->Act->World->Prop} {K:KX V R} (hK:∀ e s a w,K e s=some r->SatS V C acts s a w->Q e a w) :
  ∀ e s a w,ngK V K e s=some r->SatS V C acts s a w->Exit.noGoto Q e a w:=by
 intro e s a w h hs
 cases e with
 | goto l=>cases h
 | _=>exact hK _ s a w h hs
theorem zvy {acts:List Act} {Q:Exit->Act->World->Prop} {o:Operand} {c d:Code} {x y:Option R} {s:SS V.T} {a:Act} {w:World} (h:y6m V s o x y=some r) (hs:SatS V C acts s a w) (hx:x=some r->c.wp N.P Q a w) (hy:y=some r->d.wp N.P Q a w) :(Code.cond o c d).wp N.P Q a w:=by
 unfold y6m at h
 split at h
 ·rename_i b hb
  obtain⟨_,_,hkn,hgb,A,ro,S,hl,hw,hev,hsl,hst⟩:=hs
  have he:=z2z V N.P (A:=A) (z9v hb) trivial a ro w hsl
  simp only [SV.den] at he
  refine wp_cond_split he (fun e=>hx ?_) (fun e=>hy ?_)
  ·subst e; simpa using h
  ·subst e; simpa using h
 ·cases h
theorem zx1 (hN:z90 V N) {dfl:Inl V R} (hd:∀ f fn c K,N.P.funcs[f]? = some fn->fn.body=some c->zit C r (dfl f) c K):∀(c:Code) (K:KX V R),zit C r (zqo V N dfl) c K:=by
 intro c
 induction c with
 | skip=>exact fun K acts Q hK s a w h hs=>wp_skip (hK _ s a w h hs)
 | label l=>exact fun K acts Q hK s a w h hs=>wp_label (hK _ s a w h hs)
 | region id ops d=>exact fun K acts Q hK s a w h hs=>zzg hN (fun i f fn c h1 h2=>hd f fn c _ h1 h2) hK h hs
 | seq x y hx hy=>
  intro K acts Q hK s a w h hs
  exact wp_seq (hx _ acts _ (zqn (fun s a w h hs=>hy K acts Q hK s a w h hs) hK) s a w h hs)
 | cond o x y hx hy=>
  intro K acts Q hK s a w h hs
  exact zvy h hs (fun h=>hx K acts Q hK s a w h hs) (fun h=>hy K acts Q hK s a w h hs)
 | block id c hc=>
  intro K acts Q hK s a w h hs
  exact wp_block (hc _ acts _ (zzb hK) s a w h hs)
 | scope c hc=>
  intro K acts Q hK s a w h hs
  exact wp_scope_straight (hc _ acts _ (y87 hK) s a w h hs)
 | exit id=>exact fun K acts Q hK s a w h hs=>wp_exit (hK _ s a w h hs)
 | ret=>exact fun K acts Q hK s a w h hs=>wp_ret (hK _ s a w h hs)
 | _=>exact fun K acts Q hK s a w h hs=>by cases h
theorem z92 (hN:z90 V N):∀(n f:Nat) (c:Code) (K:KX V R),zit C r (dflN V N n f) c K
 | 0,f,c,K=>fun acts Q hK s a w h hs=>by cases h
 | n+1,f,c,K=>zx1 hN (fun f fn c K _ _=>z92 hN n f c K) c K
theorem zf5 {α:Type} {x:Option α} {k:α->Option R} (h:zt3 x k=some r):∃ z,x=some z/\k z=some r:=by
 cases x with
 | none=>cases h
 | some z=>exact⟨z,rfl,h⟩
theorem y40 {s:SS V.T} {t:Nat} {x:Ch×SV V.T} (h:lk (clrG V s).sl t=some x):lk s.sl t=some x/\x.1 = []:=by
 have h1:=zdv (fun k=>zvg s.sl k) h
 refine⟨h1,?_⟩
 have:=(List.mem_filter.1 (zjc h)).2
 simp only [zvg,h1] at this
 obtain⟨ch,v⟩:=x
 cases ch with
 | nil=>rfl
 | cons _ _=>cases this
theorem yb1 {acts:List Act} {s:SS V.T} {a:Act} {w:World} (hs:SatS V C acts s a w):SatS V C acts (clrG V s) a w:=by
 obtain⟨hd,hn,hkn,hgb,A,ro,S,hl,hw,hev,hsl,hst⟩:=hs
 refine⟨hd,hn,trivial,⟨fun t g h=>by simp [clrG,lk] at h,fun t ch z hz p hp=>?_,fun p hp=>by simp [clrG] at hp⟩,A,ro,S,hl,hw,hev,?_,hst⟩
 ·have:=(y40 hz).2
  simp only at this
  subst this; cases hp
 ·intro t X hX
  simp only [slD] at hX
  cases hz:lk (clrG V s).sl t with
  | none=>rw [hz] at hX; cases hX
  | some e=>
   rw [hz] at hX
   obtain⟨h1,h2⟩:=y40 hz
   obtain⟨ch,v⟩:=e
   simp only at h2
   subst h2
   refine hsl t X ?_
   simp only [slD,h1]
   exact hX
theorem ye7 (hN:z90 V N) (φ:Nat) (h:H V R) :(∀ c K,obl V N φ h none c K->zit C r (ex V N φ h).run c K)/\
  (∀ full id ops d K,obl V N φ h (some full) (.region id ops d) K->∀ i f fn c,N.P.funcs[f]? = some fn->fn.body=some c->zit C r ((ex V N φ h).inl i f) c (inlK V N fn (zim V N full ops i K))):=by
 induction h with
 | x=>exact⟨fun c K _=>zx1 hN (fun f fn c K _ _=>z92 hN 8 f c K) c K,fun full id ops d K _ i f fn c _ _=>z92 hN 8 f c _⟩
 | no=>
  refine⟨fun c K ho=>?_,fun full id ops d K _ i f fn c _ _=>z92 hN 8 f c _⟩
  intro acts Q hK s a w h hs
  cases h
 | seq h1 h2 i1 i2=>
  refine⟨fun c K ho=>?_,fun full id ops d K _ i f fn c _ _=>z92 hN 8 f c _⟩
  cases c with
  | seq x y=>
   intro acts Q hK s a w h hs
   exact wp_seq (i1.1 _ _ ho.1 acts _ (zqn (fun s a w h hs=>i2.1 y K ho.2 acts Q hK s a w h hs) hK) s a w h hs)
  | _=>exact ho.elim
 | cond h1 h2 i1 i2=>
  refine⟨fun c K ho=>?_,fun full id ops d K _ i f fn c _ _=>z92 hN 8 f c _⟩
  cases c with
  | cond o x y=>
   intro acts Q hK s a w h hs
   exact zvy h hs (fun h=>i1.1 x K ho.1 acts Q hK s a w h hs) (fun h=>i2.1 y K ho.2 acts Q hK s a w h hs)
  | _=>exact ho.elim
 | body h ih=>
  refine⟨fun c K ho=>?_,fun full id ops d K _ i f fn c _ _=>z92 hN 8 f c _⟩
  cases c with
  | block id c=>
   intro acts Q hK s a w h hs
   exact wp_block (ih.1 c _ ho acts _ (zzb hK) s a w h hs)
  | scope c=>
   intro acts Q hK s a w h hs
   exact wp_scope_straight (ih.1 c _ ho acts _ (y87 hK) s a w h hs)
  | _=>exact ho.elim
 | loop h L b ih=>
  refine⟨fun c K ho=>?_,fun full id ops d K _ i f fn c _ _=>z92 hN 8 f c _⟩
  cases c with
  | loop c=>
   obtain⟨h0,hS,hb⟩:=ho
   intro acts Q hK s a w hr hs
   obtain⟨z,hz,hL⟩:=zf5 hr
   have key:∀ n z,L n z=some r->∀ a w,SatS V C acts (h.enc V z) a w->Code.rounds N.P c Q n a w:=by
    intro n
    induction n with
    | zero=>intro z hz; rw [h0] at hz; cases hz
    | succ n ihn=>
     intro z hz a w hs
     rw [hS] at hz
     refine(ih (L n)).1 c _ (hb n) acts (Exit.then (Code.rounds N.P c Q n) Q) (zqn (fun s a w h hs=>?_) hK) _ a w hz hs
     obtain⟨z',hz',hL'⟩:=zf5 h
     exact ihn z' hL' a w (zw1 hs _ z' hz')
   exact wp_loop_rounds φ (key φ z hL a w (zw1 hs h z hz))
  | _=>exact ho.elim
 | join h J b ih=>
  refine⟨fun c K ho=>?_,fun full id ops d K _ i f fn c _ _=>z92 hN 8 f c _⟩
  have ho' :(∀ z,J z=K .normal (h.enc V z))/\obl V N φ b none c (seqK V (fun s=>zt3 (h.dec V s) J) K):=by
   cases c <;> exact ho
  intro acts Q hK s a w hr hs
  refine ih.1 c _ ho'.2 acts Q (fun e s a w hk hs=>?_) s a w hr hs
  cases e with
  | normal=>
   obtain⟨z,hz,hJ⟩:=zf5 hk
   rw [ho'.1] at hJ
   exact hK _ _ a w hJ (zw1 hs h z hz)
  | _=>exact hK _ s a w hk hs
 | ins i f h rest ih1 ih2=>
  have B:∀ full id ops d K,obl V N φ (.ins i f h rest) (some full) (.region id ops d) K->∀ j g fn c,N.P.funcs[g]? = some fn->fn.body=some c->zit C r ((ex V N φ (.ins i f h rest)).inl j g) c (inlK V N fn (zim V N full ops j K)):=by
   intro full id ops d K ho j g fn c hf hc
   obtain⟨ho1,ho2⟩:=ho
   show zit C r (fun c s K=>bif Nat.beq j i&&Nat.beq g f then(ex V N φ h).run c s K else(ex V N φ rest).inl j g c s K) c _
   cases he :(Nat.beq j i&&Nat.beq g f) with
   | false=>exact ih2.2 full id ops d K ho2 j g fn c hf hc
   | true=>
    simp only [Bool.and_eq_true] at he
    have e1:=Nat.eq_of_beq_eq_true he.1
    have e2:=Nat.eq_of_beq_eq_true he.2
    subst e1; subst e2
    rw [hf] at ho1
    simp only [hc] at ho1
    exact ih1.1 c _ ho1
  refine⟨fun c K ho=>?_,B⟩
  cases c with
  | region id ops d=>
   intro acts Q hK s a w h hs
   exact zzg hN (fun j g fn c hf hc=>B _ id ops d K ho j g fn c hf hc) hK h hs
  | _=>exact ho.elim
 | foc p q h ih=>
  refine⟨fun c K ho=>?_,fun full id ops d K ho=>ih.2 full id ops d K ho⟩
  have ho':obl V N φ h none c K:=by cases c <;> exact ho
  intro acts Q hK s a w hr hs
  change (match focP V p q s with
   | some (i,m)=>focX V s i m fun s=>(ex V N φ h).run c s K
   | none=>none)=some r at hr
  split at hr
  ·obtain⟨s',h1,h2⟩:=y96 hr hs
   exact ih.1 c K ho' acts Q hK s' a w h1 h2
  ·cases hr
 | unr n h ih=>
  refine⟨fun c K ho=>?_,fun full id ops d K _ i f fn c _ _=>z92 hN 8 f c _⟩
  cases c with
  | loop c=>
   intro acts Q hK s a w hr hs
   have key:∀ m s a w,unrX V ((ex V N φ h).run c) m s K=some r->SatS V C acts s a w->Code.rounds N.P c Q m a w:=by
    intro m
    induction m with
    | zero=>intro s a w hz; cases hz
    | succ m ihm=>
     intro s a w hz hs
     exact ih.1 c _ (ho _) acts (Exit.then (Code.rounds N.P c Q m) Q) (zqn (fun s a w h hs=>ihm s a w h hs) hK) _ a w hz (yb1 hs)
   exact wp_loop_rounds n (key n s a w hr hs)
  | _=>exact ho.elim
 | alt h J J2=>
  refine⟨fun c K ho=>?_,fun full id ops d K _ i f fn c _ _=>z92 hN 8 f c _⟩
  cases c with
  | region id ops d=>
   obtain⟨hd,hz,hA⟩:=ho
   simp only [Bool.and_eq_true] at hd
   obtain⟨rfl,hm⟩:=hd
   intro acts Q hK s a w hr hs
   obtain⟨z,hz1,hJ⟩:=zf5 hr
   obtain⟨L,h1,h2⟩:=(hA z).ok r hJ
   rw [hz] at h1
   exact zv4 hN y6f (inl:=fun _=>Dfl V N R) (fun i f fn c _ _=>z92 hN 8 f c _) hK hm h1 h2 (zw1 hs h z hz1)
  | _=>exact ho.elim
 | frz ps h ih=>
  refine⟨fun c K ho=>?_,fun full id ops d K ho=>ih.2 full id ops d K ho⟩
  have ho':obl V N φ h none c K:=by cases c <;> exact ho
  intro acts Q hK s a w hr hs
  exact ih.1 c K ho' acts Q hK _ a w hr (zkp _ hs)
end
end Px
end
section
namespace Px
open Go Go.RowKit
section
variable {V:TE} {N:Env V}
theorem zua {P:Program} {A B:Asg} {s:SS V.T} (hl:A.length=s.ob.length):∀(cs:List RC) (l:List (SV V.T)) (y:RTup V.T cs) (n:Nat),decR V s cs l=some y->(∀ k i,(zju V cs l)[k]? = some i->B[n+k]? = some (A.getD i default))->
  F2 Ent (denV V P A l) (denV V P B (encR V n cs y))/\zab (obD V P A A s.ob) (zju V cs l) (obD V P B ((zju V cs l).map fun i=>A.getD i default) (newR V cs y))/\(newR V cs y).length =(zju V cs l).length
 | [],l,y,n,h,hB=>by
  cases l with
  | nil=>exact⟨trivial,trivial,rfl⟩
  | cons x l=>exact zg h
 | .val c::cs,l,y,n,h,hB=>by
  cases l with
  | nil=>exact zg h
  | cons x l=>
   change (match V.dec (rdSl []) c x,decR V s cs l with
    | some y,some r=>some (y,r)
    | _,_=>none)=some y at h
   split at h
   ·rename_i y1 r hy hr
    have e:=Option.some.inj h
    subst e
    obtain⟨h1,h2,h3⟩:=zua hl cs l r n hr hB
    refine⟨⟨?_,h1⟩,h2,h3⟩
    rw [z5d]
    exact z6o V P hy
   ·exact zg h
 | .row E c::cs,l,y,n,h,hB=>by
  cases l with
  | nil=>exact zg h
  | cons x l=>
   cases x with
   | own i=>
    cases hr:decR V s cs l with
    | none=>simp [decR,hr] at h
    | some r=>
     simp only [decR,hr] at h
     split at h
     ·rename_i E' c' z hz
      cases hE:Nat.beq E E' with
      | false=>rw [hE] at h; exact zg h
      | true=>
       rw [hE] at h
       have:=Nat.eq_of_beq_eq_true hE
       subst this
       simp only [cond_true] at h
       split at h
       ·rename_i e
        subst e
        have e:=Option.some.inj h
        subst e
        have hlt:i<A.length:=by rw [hl]; exact(List.getElem?_eq_some_iff.1 hz).1
        have ha:A[i]? = some (A.getD i default):=by simp [List.getD,List.getElem?_eq_getElem hlt]
        obtain⟨h1,h2,h3⟩:=zua hl cs l r (n+1) hr fun k j hk=>by
         have:=hB (k+1) j (by simpa [zju] using hk)
         rw [<- this]; congr 1; omega
        have hb:=hB 0 i rfl
        refine⟨⟨?_,h1⟩,⟨⟨_,zu V P ha hz,EntH.refl⟩,h2⟩,by simp [zju,newR,h3]⟩
        simp only [SV.den]
        rw [ha,show B[n]? = some (A.getD i default) from hb]
        exact Ent.refl
       ·exact zg h
     ·exact zg h
   | _=>simp [decR] at h
theorem y7i {P:Program} {A B:Asg} : ∀ {l m:List (SV V.T)},F2 Ent (denV V P A l) (denV V P B m)->Ent ((resV V l).den V P A) ((resV V m).den V P B)
 | [],[],_=>by simp only [resV,SV.den]; exact Ent.refl
 | [x],[y],h=>h.1
 | x::x'::l,y::y'::m,h=>by simp only [resV,SV.den]; exact y3f h
 | [],_::_,h=>h.elim
 | _::_,[],h=>h.elim
 | [_],_::_::_,h=>h.2.elim
 | _::_::_,[_],h=>h.2.elim
theorem zmw {P:Program} {A:Asg} : ∀(cs:List Nat) (x:Tup V.T cs),denV V P A (encA V cs x)=vls V cs x
 | [],_=>rfl
 | c::cs,x=>by simp only [encA,denV,vls,z5d,zmw cs]
theorem zor:∀(cs:List Nat) (x:Tup V.T cs),(encA V cs x).length=cs.length
 | [],_=>rfl
 | c::cs,x=>by simp only [encA,List.length_cons,zor cs]
theorem zx5:∀(cs:List KC) (x:KCs V.T cs),(encK V cs x).length=cs.length
 | [],_=>rfl
 | c::cs,x=>by simp only [encK,List.length_cons,zx5 cs]
theorem y88 (hN:z90 V N) {f φ:Nat} {fn:Func} {rs:List RC} (h:H V (RTup V.T rs)) (hf:N.P.funcs[f]? = some fn) {us:List (SV V.T)} (hle:us.length<=fn.ntmps) {r:RTup V.T rs}
  (hr:fnV V N φ fn rs h us=some r) (ho:fnO V N φ fn rs h):zhb N.P f (denV V N.P [] us) (Kres V N.P rs r):=by
 unfold fnV at hr
 unfold fnO at ho
 split at hr
 ·rename_i c hb
  rw [hb] at ho
  intro r0 w vs hr0 hl hA
  rw [zhj] at hl
  refine calls_of_wp hf hb ((ye7 hN (r:=r) (C:=(⟨w,w.heap.size,r0,w,fn.ntmps⟩:Cx N.P)) φ h).1 c _ ho [] _ ?_ _ _ _ hr ?_)
  ·intro e s a' w' hK hs
   have fin :(match zhy V N s fn.results.toList with
     | some l=>match zhy V N (zsy V s (zve V rs l)) fn.results.toList with
      | some l'=>bif z97 (zju V rs l') then decR V (zsy V s (zve V rs l)) rs l' else none
      | none=>none
     | none=>none)=some r->a'.defers = []/\∃ v,(results fn a'.tmps).run N.P w' = .ok v w'/\retR w w.heap.size r0 w (Kres V N.P rs r) (.returned v) w':=by
    intro hK
    split at hK
    ·rename_i l hl1
     split at hK
     ·rename_i l' hl2
      cases hnd:z97 (zju V rs l') with
      | false=>rw [hnd] at hK; cases hK
      | true=>
       rw [hnd] at hK
       simp only [cond_true] at hK
       obtain⟨hd',hn',hkn',hgb',A',ro',S',hl',hw',hev',hsl',hst'⟩:=zkp (zve V rs l) hs
       obtain⟨v,hv,hvx⟩:=zo5 hw' hsl' hl2
       obtain⟨k1,k2,k3⟩:=zua (P:=N.P) (B:=(zju V rs l').map fun i=>A'.getD i default) hl' rs l' r 0 hK fun k i hk=>by
        rw [Nat.zero_add,List.getElem?_map,hk]; rfl
       exact⟨hd',v,hv,v,_,_,ro',_,rfl,hev',hw'.sel k2 hnd,y7i k1 _ _ _ hvx,_,by rw [k3]; simp,rfl,rfl⟩
     ·cases hK
    ·cases hK
   cases e with
   | ret=>exact fin hK
   | normal=>exact fin hK
   | exit id=>simp [retK] at hK
   | goto l=>simp [retK] at hK
   | panic ch=>simp [retK] at hK
   | outgrown=>simp [retK] at hK
  ·refine⟨rfl,by simp [hl]; omega,trivial,⟨fun t g h=>by simp [lk] at h,fun t ch z hz p hp=>?_,fun p hp=>by simp at hp⟩,[],r0,fun _ _=>False,rfl,⟨Bel.refl _ _,Nat.le_refl _,fun i H hi=>by simp [obD] at hi,fun i b hb=>hb.elim,fun i j b hb=>hb.elim,hr0⟩,Evo.refl _ _ _,?_,trivial⟩
   ·rw [zhu] at hz
    simp only [Nat.zero_le,if_true,Option.map_eq_some_iff,Prod.mk.injEq] at hz
    obtain⟨_,_,rfl,_⟩:=hz
    simp at hp
   ·intro t X hX
    simp only [slD,zhu,Nat.zero_le,if_true,Nat.sub_zero,Option.map_map,Option.map_eq_some_iff] at hX
    obtain⟨y,hy,rfl⟩:=hX
    have hlt:=(List.getElem?_eq_some_iff.1 hy).1
    have hdv:∀(l:List (SV V.T)) (t:Nat),l[t]? = some y->(denV V N.P [] l)[t]? = some (y.den V N.P []):=by
     intro l
     induction l with
     | nil=>intro t h; simp at h
     | cons z l ih=>intro t h; cases t with
      | zero=>simp at h; subst h; rfl
      | succ t=>simp at h; simpa [denV] using ih t h
    have:=hA t _ (hdv _ t hy)
    have hvt:t<vs.size:=hl ▸ hlt
    simpa [denE,Array.getD_eq_getD_getElem?,Array.getElem?_append,hvt] using this
 ·cases hr
theorem z1d (hN:z90 V N) {f φ:Nat} {fn:Func} {as:List Nat} {rs:List RC} {F:Tup V.T as->Option (RTup V.T rs)} (h:H V (RTup V.T rs)) (hf:N.P.funcs[f]? = some fn) (hn:Nat.ble as.length fn.ntmps=true)
  (hF:∀ a,F a=fnX V N φ fn as rs h a) (ho:fnO V N φ fn rs h):z14 V N.P f ⟨as,rs,F⟩:=by
 intro x r hr
 simp only at x r hr
 rw [hF] at hr
 have:=y88 hN (us:=encA V as x) h hf (by rw [zor]; exact Nat.le_of_ble_eq_true hn) hr ho
 rwa [zmw] at this
theorem ybz (hN:z90 V N) {f φ:Nat} {fn:Func} {as:List Nat} {cs:List KC} {rs:List RC} {F:Tup V.T as->KCs V.T cs->Option (RTup V.T rs)} (h:H V (RTup V.T rs)) (hf:N.P.funcs[f]? = some fn) (hn:Nat.ble (as.length+cs.length) fn.ntmps=true)
  (hF:∀ a b,F a b=fnXc V N φ fn as cs rs h a b) (ho:fnO V N φ fn rs h):y5h V N.P f ⟨as,cs,rs,F⟩:=by
 intro x y r hr
 simp only at x y r hr
 rw [hF] at hr
 have:=y88 hN (us:=encA V as x++encK V cs y) h hf (by rw [List.length_append,zor,zx5]; exact Nat.le_of_ble_eq_true hn) hr ho
 rwa [zon,zmw] at this
theorem zvu {α:Type} {Q:Nat->α->Prop} : ∀ {l:List (Nat×α)},AllP (fun p=>Q p.1 p.2) l->∀ f x,lk l f=some x->Q f x
 | [],_,f,x,h=>by cases h
 |(k,y)::l,hl,f,x,h=>by
  rw [z0o] at h
  by_cases e:f=k
  ·rw [if_pos e] at h; cases h; subst e; exact hl.1
  ·rw [if_neg e] at h; exact zvu hl.2 f x h
theorem zy {P:Program} {l:List (Nat×Fsp V)} {m:List (Nat×Msp V)} {n:List (Nat×Csp V)} (h:AllP (fun p=>z14 V P p.1 p.2) l) (hm:AllP (fun p=>y2y V P p.1 p.2) m) (hn:AllP (fun p=>y5h V P p.1 p.2) n):z90 V (⟨P,lk l,lk m,lk n⟩:Env V):=
 ⟨fun f sp hf=>zvu hn f sp hf,fun f sp hf=>zvu hm f sp hf,fun f sp hf=>zvu h f sp hf⟩
end
end Px
end
