/- A part of the proof of conflictExplained_holds. Conditions: none. -/
import Derived.Test.YtghkddgggfodgaaGreatZeac
section
namespace Px
open Go Go.RowKit
set_option linter.unusedVariables false
set_option linter.unusedSimpArgs false
section
variable {V : TE} {N : Env V} {R : Type} {r : R}
def Chg (o : Op) (fs : Bool) (n0 : Nat) (ob ob' : List (SO V.T)) : Prop := ∀ (i : Nat) (x : SO V.T), ob[i]? = some x -> (zwl o || zd1 o || (appO o && zl4 x) || (fs && Nat.blt i n0)) = true -> ob'[i]? = some x
theorem zl9 (o : Op) (fs : Bool) (n0 : Nat) (ob us : List (SO V.T)) : Chg o fs n0 ob (ob ++ us) := fun i x hx _ => by
 rw [List.getElem?_append_left (List.getElem?_eq_some_iff.1 hx).1]; exact hx
open Classical in
theorem zzn {s : SS V.T} {o : Op} {fs : Bool} {n0 : Nat} {ty : TypeId} {k : SV V.T -> SS V.T -> Option R} (hst : fs = true -> ∃ t p v i off, o = .store t p v /\ evO s.sl s.kn p = some (.ptr i off) /\ n0 <= i) (h : z35 V N s o ty k = some r) : z35 V N s o ty (fun v s' => if Chg o fs n0 s.ob s'.ob then k v s' else none) = some r := by
 by_cases hld : zwl o = true
 ·have hs : Chg (V := V) o fs n0 s.ob s.ob := fun i x h _ => h
  cases o <;> simp [zwl] at hld
  simp only [z35] at h ⊢
  simp only [if_pos hs]
  exact h
 by_cases ha : appO o = true
 ·have hfs : fs = false := by
   cases hf : fs with
   | false => rfl
   | true =>
    obtain ⟨t, p, v, i, off, rfl, _⟩ := hst hf
    simp [appO, zd1] at ha
  subst hfs
  cases o <;> simp [appO, zd1] at ha
  case box t x =>
   simp only [z35] at h ⊢
   split at h <;> first | (simp only [if_pos (zl9 _ _ _ _ _)]; exact h) | cases h
  case alloc t =>
   simp only [z35] at h ⊢
   split at h
   ·simp only [if_pos (zl9 _ _ _ _ _)]; exact h
   ·cases h
  case buildSlice t n parts =>
   simp only [z35] at h ⊢
   split at h
   ·split at h <;> first | (simp only [if_pos (zl9 _ _ _ _ _)]; exact h) | cases h
   ·cases h
  case makeSlice t x y =>
   simp only [z35] at h ⊢
   split at h
   ·split at h
    ·simp only [if_pos (zl9 _ _ _ _ _)]; exact h
    ·cases h
   ·cases h
  case makeMap t hint =>
   cases hint with
   | some o => simp [z35, zi] at h
   | none =>
    simp only [z35] at h ⊢
    split at h <;> first | (simp only [if_pos (zl9 _ _ _ _ _)]; exact h) | cases h
  case call c =>
   have hb : c.callee = .builtin .append := by
    split at ha
    ·assumption
    ·cases ha
   have hc : ∀ (i : Nat) (us : List (SO V.T)) (E c0 : Nat) (l : List (V.T c0)), s.ob[i]? = some (.row E c0 l) -> Chg (.call c) false n0 s.ob (s.ob.set i .emp ++ us) := by
    intro i us E c0 l ho j x hj hcond
    have hx : zl4 x = true := by simpa [zd1] using And.right (by simpa [zd1, zwl] using hcond : appO (.call c) = true /\ zl4 x = true)
    have hij : i ≠ j := fun e => by subst e; rw [ho] at hj; cases hj; cases hx
    have hlt := (List.getElem?_eq_some_iff.1 hj).1
    rw [List.getElem?_append_left (by simpa using hlt), List.getElem?_set_ne hij]; exact hj
   have hc2 : ∀ (E c0 : Nat) (us : List (SO V.T)), Chg (.call c) false n0 s.ob ((s.ob ++ [(SO.row E c0 [] : SO V.T)]).set s.ob.length .emp ++ us) := by
    intro E c0 us j x hj hcond
    have hlt := (List.getElem?_eq_some_iff.1 hj).1
    rw [List.getElem?_append_left (by simp; omega), List.getElem?_set_ne (by omega), List.getElem?_append_left hlt]; exact hj
   simp only [z35, hb] at h ⊢
   split at h
   ·rename_i x y hcb _; cases hcb
   ·split at h
    ·rename_i t t' _
     cases hbb : Nat.beq t t' with
     | false => rw [hbb] at h; cases h
     | true =>
      rw [hbb] at h
      simp only [cond_true] at h ⊢
      split at h
      ·split at h
       ·rename_i i yv _ _ _ _ E' c0 l ho
        cases hb2 : (Nat.beq _ E' && Nat.beq _ (V.sz c0) && Nat.blt 0 _) with
        | false => rw [hb2] at h; cases h
        | true =>
         rw [hb2] at h
         simp only [cond_true, appX] at h ⊢
         split at h
         ·simp only [if_pos (hc _ _ _ _ _ ho)]; exact h
         ·cases h
       ·cases h
      ·rename_i E z by' yv _ _ _
       cases hb2 : (Nat.beq z (V.sz (V.code E)) && Nat.blt 0 by') with
       | false => rw [hb2] at h; cases h
       | true =>
        rw [hb2] at h
        simp only [cond_true, appX] at h ⊢
        split at h
        ·simp only [if_pos (hc2 _ _ _)]; exact h
        ·cases h
      ·cases h
    ·cases h
   ·rename_i x y hcb _; cases hcb
   ·rename_i hcb; cases hcb
   ·cases h
 ·have hm : ¬ zd1 o = true := fun q => ha (by cases o <;> simp [zd1] at q <;> rfl)
  cases hf : fs with
  | false =>
   have : ∀ ob', Chg (V := V) o false n0 s.ob ob' := fun ob' i x _ hcond => by
    simp [hld, hm, ha] at hcond
   simp only [if_pos (this _)]
   exact h
  | true =>
   obtain ⟨t, p, v, i, off, rfl, hp, hi⟩ := hst hf
   have hc : ∀ y, Chg (V := V) (.store t p v) true n0 s.ob (updO V s i y).ob := by
    intro y j x hj hcond
    show (s.ob.set i y)[j]? = some x
    have : j < n0 := by simpa [zd1, appO, zwl] using hcond
    rw [List.getElem?_set_ne (by omega)]; exact hj
   simp only [z35, hp] at h ⊢
   split at h
   ·rename_i n p' v' ht hp' hv
    cases hp'
    simp only [stoX] at h ⊢
    split at h
    ·split at h
     ·rename_i hh
      simp only [if_pos (hc _)]
      exact h
     ·exact h
    ·cases h
   ·cases h
theorem zcl.step {ops : Array Oper} {clo : List Nat} {n0 : Nat} {later : List Nat} {l : Nat} {bs : Sls V.T} {es : List (DE V.T)} {s s' : SS V.T} {e : DE V.T} {d : Option Nat} {v : SV V.T} {o : Oper} (h : zcl N ops clo n0 later bs es s e) (hm : l ∈ later) (hb : bitB (clo.getD l 0) e.1 = false) (ho : ops[l]? = some o)
  (hd : ∀ x, d = some x -> lk bs x = none /\ ∀ e ∈ es, e.2.1 ≠ x) (hes : EsOK (z03 ops) s.gb bs es) (hk : s'.kn = s.kn) (hc : Chg o.op (stoF ops.toList l) n0 s.ob s'.ob) : zcl N ops clo n0 (later.filter fun x => !Nat.beq x l) (putB V bs v d) es s' e := by
 obtain ⟨o', obm, h1, h2, h3, h4, h5, h6, h7⟩ := h
 have hop : opAt ops.toList l = o.op := by unfold opAt; rw [Array.getElem?_toList, ho]
 have hsl : ∀ t x, lk (drSl V (memB (z04 o')) bs es) t = some x -> lk (drSl V (memB (z04 o')) (putB V bs v d) es) t = some x := by
  intro t x hx
  cases d with
  | none => exact hx
  | some d =>
   obtain ⟨k1, k2⟩ := hd d rfl
   unfold drSl putB at *
   rw [zqw] at hx ⊢
   cases hl : lk ((es.filter fun e => memB (z04 o') e.1).map (·.2)) t with
   | some y => rw [hl] at hx; exact hx
   | none =>
    rw [hl] at hx
    simp only at hx ⊢
    rw [z0i, if_neg]
    ·exact hx
    ·intro e2; subst e2; rw [k1] at hx; cases hx
 refine ⟨o', obm, h1, h2, h3, h4, fun i x hx => ?_, fun l' hl' => h6 l' (List.mem_filter.1 hl').1, znq (s := { s with sl := drSl V (memB (z04 o')) bs es, ob := obm }) (s' := { s' with sl := drSl V (memB (z04 o')) (putB V bs v d) es, ob := obm }) ⟨hsl, hk, fun i x hx => .inr hx⟩ h3 h7⟩
 rcases h5 i x hx with q | q
 ·exact .inl q
 ·rcases h6 l hm hb i x hx with q2 | q2
  ·exact .inl q2
  ·refine .inr (hc i x q ?_)
   unfold zpw at q2
   rwa [hop] at q2
theorem zo0 {A : Asg} {P : Program} {gb : List (Nat × Bool)} (es : List (DE V.T)) : (qrOf P A gb es).map (·.1) = es.map (·.1) := by
 unfold qrOf
 rw [List.map_map]; rfl
theorem y9b {A : Asg} {P : Program} {tab : Tab} {n : Nat} {D cands sure : List Nat} {gb gb' : List (Nat × Bool)} {bs : Sls V.T} {new es : List (DE V.T)} (hx : GbX gb gb') (hes : EsOK tab gb bs es) (hc : chk tab n D ((new ++ es).map (·.1)) cands sure = true) :
  ∀ p ∈ qrOf P A gb' (new ++ es), p.1 ∈ (qrOf P A gb es).map (·.1) -> ∃ x, (p.1, x) ∈ qrOf P A gb es /\ Ent x p.2 := by
 intro p hp hpe
 simp only [chk, Bool.and_eq_true] at hc
 have hnd := zba hc.1.1.1.1.2
 simp only [qrOf, List.mem_map] at hp
 obtain ⟨e, he, rfl⟩ := hp
 have hpe' : e.1 ∈ es.map (·.1) := by rw [zo0] at hpe; exact hpe
 obtain ⟨e2, he2, h2⟩ := List.mem_map.1 hpe'
 have := z8z hnd he (List.mem_append_right _ he2) h2.symm
 subst this
 exact ⟨denE V P A gb e.2.2, List.mem_map.2 ⟨e, he2, rfl⟩, Ent.of_eq (hx.denE (hes.ch e he2))⟩
theorem ybb {ops : Array Oper} {clo : List Nat} {n0 : Nat} {later sure : List Nat} {bs : Sls V.T} {new es : List (DE V.T)} {s : SS V.T} {gb' : List (Nat × Bool)} (hx : GbX s.gb gb') (h3 : EsOK (z03 ops) gb' bs (new ++ es)) (h : ∀ e ∈ es, memB sure e.1 = false -> zcl N ops clo n0 later bs es s e) :
  ∀ e ∈ es, memB sure e.1 = false -> zcl N ops clo n0 later bs (new ++ es) { s with gb := gb' } e :=
 fun e he hs => (h e he hs).more (s' := { s with gb := gb' }) h3 rfl rfl
theorem ybw (hN : z7y V N) {C : Cx N.P} {A : Asg} {ops : Array Oper} {clo : List Nat} {n0 : Nat} {later sure : List Nat} {bs : Sls V.T} {new es : List (DE V.T)} {s : SS V.T} {gb' : List (Nat × Bool)} (hf : ∀ e ∈ es, memB sure e.1 = false -> zcl N ops clo n0 later bs (new ++ es) { s with gb := gb' } e)
  (x5 : ∀ e ∈ new, (∃ o, ops[e.1]? = some o /\ GQ C (z03 ops) o ⟨z2v (z03 ops) (memB (Tab.deps (z03 ops) e.1)) (slD V N.P A gb' bs) (qrOf N.P A gb' (new ++ es)), obD V N.P A A s.ob⟩ (denE V N.P A gb' e.2.2)) /\
    ((∃ l ∈ later, bitB (clo.getD l 0) e.1 = false) -> zcl N ops clo n0 later bs (new ++ es) { s with gb := gb' } e))
  (x3 : EsOK (z03 ops) gb' bs (new ++ es)) (x4 : GbOK (⟨bs, gb', s.kn, s.n⟩ : Fm V.T)) (hkn : chP gb' s.kn) (h1 : OneA V A s.ob) {p : Nat × VP} (hp : p ∈ qrOf N.P A gb' (new ++ es)) (hs : memB sure p.1 = false) :
  ∃ o, ops[p.1]? = some o /\ GQ C (z03 ops) o ⟨z2v (z03 ops) (memB (Tab.deps (z03 ops) p.1)) (slD V N.P A gb' bs) (qrOf N.P A gb' (new ++ es)), obD V N.P A A s.ob⟩ p.2 := by
 simp only [qrOf, List.mem_map] at hp
 obtain ⟨e, he, rfl⟩ := hp
 rcases List.mem_append.1 he with hn | ho
 ·exact (x5 e hn).1
 ·exact zz3 hN (s := { s with gb := gb' }) (hf e ho hs) x3 x4 hkn h1
theorem yac {ops : Array Oper} {l : Nat} {done : List Nat} {E : List (DE V.T)} (h : (List.range ops.size).all (fun q => Nat.beq q l || memB done q || hasE V E q) = true) : (List.range ops.size).all (fun q => Nat.beq q l || memB done q || memB (E.map (·.1)) q) = true := by
 refine List.all_eq_true.2 fun q hq => ?_
 have := List.all_eq_true.1 h q hq
 simp only [Bool.or_eq_true] at this ⊢
 rcases this with q1 | q1
 ·exact .inl q1
 ·obtain ⟨e, he, hb⟩ := List.any_eq_true.1 q1
  exact .inr (z0g.2 (List.mem_map.2 ⟨e, he, Nat.eq_of_beq_eq_true hb⟩))
end
end Px
end
section
namespace Px
open Go Go.RowKit
set_option linter.unusedVariables false
set_option linter.unusedSimpArgs false
section
variable {V : TE} {N : Env V} {R : Type} {r : R}
structure zul {R R' : Type} (leaf : Option R -> Option R') (comb : List (Option R') -> Option R') (r : R) (G : R' -> Prop) : Prop where
 leaf : ∀ x y, leaf x = some y -> G y -> x = some r
 comb : ∀ l y, comb l = some y -> G y -> ∀ x ∈ l, ∃ a, x = some a /\ G a
theorem zuq : zul id one1 r (fun y => y = r) where
 leaf := fun x y h e => by subst e; exact h
 comb := fun l y h e x hx => by
  unfold one1 at h
  split at h
  ·simp only [List.mem_singleton] at hx; subst hx; exact ⟨y, h, e⟩
  ·cases h
theorem y4l : zul (fun x : Option R => some [x]) catL r (fun L => ∀ x ∈ L, x = some r) where
 leaf := fun x y h e => by
  simp only [Option.some.injEq] at h
  subst h; exact e x (List.mem_singleton.2 rfl)
 comb := fun l => by
  induction l with
  | nil => intro y _ _ x hx; cases hx
  | cons z l ih =>
   intro y h e x hx
   simp only [catL] at h
   cases hz : z with
   | none => rw [hz] at h; simp [cat2] at h
   | some a =>
    cases hl : catL l with
    | none => rw [hz, hl] at h; simp [cat2] at h
    | some b =>
     rw [hz, hl] at h
     simp only [cat2, Option.some.injEq] at h
     subst h
     rcases List.mem_cons.1 hx with rfl | hx
     ·exact ⟨a, hz, fun q hq => e q (List.mem_append_left _ hq)⟩
     ·exact ih b hl (fun q hq => e q (List.mem_append_right _ hq)) x hx
theorem zpb {clo : List Nat} {l : Nat} : z6m clo [l] = [l] := by simp [z6m]
def zsh (x : VP) (objs : List HP) (x2 : VP) (objs2 : List HP) : Prop := (x2 = x /\ objs2 = objs) \/
 ∃ (O : List HP) (i : Nat) (sv : Value) (H : HP), ObW objs O /\ O[i]? = some H /\ Ent x (eqv sv) /\ (∀ r S w, H.h S r w -> x2.h (fun b => r b \/ S b) w sv) /\ objs2 = O.set i emp
theorem zld {sv : Value} {X : VP} : ∀ (l : List HP), zi8 sv X l l
 | [] => trivial
 | A :: l => ⟨fun _ _ _ _ h => h, zld l⟩
theorem OpT.frz {P : Program} {C : Cx P} {o : Oper} {s : St} {K K' : VP -> List HP -> Prop} (h : OpT C o s K) (hk : ∀ x objs, K x objs -> ∃ x2 objs2, zsh x objs x2 objs2 /\ K' x2 objs2) : OpT C o s K' := by
 intro a w ro S Q hd hn hw hs
 refine Oper.wp_mono ?_ (h a w ro S Q hd hn hw hs)
 rintro a' w' ⟨v, ro', S', x, objs', ha, e, hw', hx, hkk⟩
 obtain ⟨x2, objs2, hf, hk2⟩ := hk _ _ hkk
 rcases hf with ⟨rfl, rfl⟩ | ⟨O, i, sv, H, hO, hi, hent, hX, rfl⟩
 ·exact ⟨v, ro', S', x2, objs2, ha, e, hw', hx, hk2⟩
 ·obtain ⟨S2, hw2⟩ := hO _ _ _ _ _ hw'
  have hv : v = sv := hent _ _ _ hx
  subst hv
  obtain ⟨r3, S3, hrr, hw3, hev3, hx3⟩ := zyg i (List.getElem?_eq_some_iff.1 hi).1 hw2 e (hX _ _ _ (hw2.obj i H hi)) (zld _)
  exact ⟨v, r3, S3, x2, _, ha, hev3, hw3, hx3, hk2⟩
theorem y98 {P : Program} {ops : List Oper} {l n0 : Nat} {o : Op} {fs : Bool} {ob ob' : List (SO V.T)} {v : SV V.T} {A : Asg} {x : VP} {objs : List HP} (hlen : A.length = ob'.length) (hent : Ent x (v.den V P A)) (hobw : ObW objs (obD V P A A ob')) (hchg : Chg o fs n0 ob ob') :
  ∃ x2 objs2, zsh x objs x2 objs2 /\ Ent x2 ((frzN V ops l ob.length v ob').1.den V P A) /\ ObW objs2 (obD V P A A (frzN V ops l ob.length v ob').2) /\ A.length = (frzN V ops l ob.length v ob').2.length /\ Chg o fs n0 ob (frzN V ops l ob.length v ob').2 := by
 have idle : ∃ x2 objs2, zsh x objs x2 objs2 /\ Ent x2 (v.den V P A) /\ ObW objs2 (obD V P A A ob') /\ A.length = ob'.length /\ Chg o fs n0 ob ob' := ⟨x, objs, .inl ⟨rfl, rfl⟩, hent, hobw, hlen, hchg⟩
 unfold frzN
 cases elB ops l with
 | false => exact idle
 | true =>
 simp only [cond_true]
 split
 ·rename_i n
  cases hb : Nat.ble ob.length n with
  | false => exact idle
  | true =>
  simp only [cond_true]
  split
  ·rename_i E c l' hn
   have hlt := (List.getElem?_eq_some_iff.1 hn).1
   obtain ⟨q, hq⟩ : ∃ q, A[n]? = some q := ⟨_, List.getElem?_eq_getElem (hlen ▸ hlt)⟩
   have hob := z02 V P (A := A) (ps := A) hq hn
   refine ⟨Px.ro (V.ev c) (V.sz c) l', _, .inr ⟨_, n, q.2, _, hobw, hob, ?_, fun r S w h => y0c (V.ev_len c) h, rfl⟩, ?_, ?_, by simpa using hlen, fun i y hi hc => ?_⟩
   ·simp only [SV.den, hq] at hent
    exact hent
   ·simp only [SV.den]; exact Ent.refl
   ·rw [z6u V P A ob' n q .emp hq]; exact ObW.refl
   ·have hi2 := (List.getElem?_eq_some_iff.1 hi).1
    have hge := Nat.le_of_ble_eq_true hb
    rw [List.getElem?_set_ne (by omega)]
    exact hchg i y hi hc
  ·exact idle
 ·exact idle
theorem y3h (hN : z7y V N) {R' : Type} {leaf : Option R -> Option R'} {comb : List (Option R') -> Option R'} {G : R' -> Prop} (hcomb : zul leaf comb r G) {C : Cx N.P} {acts : List Act} {ops : Array Oper} {inl : Nat -> Inl V R} {K : KX V R} {Q : Exit -> Act -> World -> Prop} {clo : List Nat} {n0 : Nat} {A0 : Asg} {ro0 : Nat -> Prop} {wz : World}
  (hinl : ∀ i f fn c, N.P.funcs[f]? = some fn -> fn.body = some c -> zi0 C r (inl i f) c (inlK V N fn (zkz V N inl ops i K)))
  (hK : ∀ s a w, K .normal s = some r -> SatS V C acts s a w -> Q .normal a w) (hev0 : Evo C.base C.r0 C.wI ro0 wz) :
  ∀ (n : Nat) (later done sure : List Nat) (bs : Sls V.T) (es : List (DE V.T)) (s : SS V.T) (A : Asg) (L : R'), zwv V N leaf comb inl ops clo n0 (fun s => K .normal s) n later done sure bs es s = some L -> G L ->
   AExt A0 A -> A.length = s.ob.length -> Stk V N.P A0 ro0 wz s.stk acts ->
   EsOK (z03 ops) s.gb bs es -> GbOK (⟨bs, s.gb, s.kn, s.n⟩ : Fm V.T) -> chP s.gb s.kn -> (∀ e ∈ es, memB sure e.1 = false -> zcl N ops clo n0 later bs es s e) ->
   Reg (P := N.P) { C with n := s.n, r0 := ro0, wI := wz } ops (z03 ops) Q done ⟨slD V N.P A s.gb bs, obD V N.P A A s.ob⟩ (qrOf N.P A s.gb es) := by
 intro n
 induction n with
 | zero => intro later done sure bs es s A L h; cases h
 | succ n ih =>
  intro later done sure bs es s A L h hL hA hl hst hes hgb hkn hfree
  refine Reg.withInv fun ⟨r1, S1, w1, hw1⟩ => ?_
  have h1 := zna hw1
  simp only [zwv] at h
  obtain ⟨gb', new, x1, x2, x3, x4, x5⟩ := zy3 hN (C := { C with n := s.n, r0 := ro0, wI := wz }) (A := A) _ s es h hes hgb hkn h1
  have hkn' : chP gb' s.kn := (x1.chP hgb.kn) ▸ hkn
  have hf2 := ybb x1 x3 hfree
  simp only at x2
  revert x2 x3 x5 hf2
  have hdist : chk (z03 ops) s.n done ((new ++ es).map (·.1)) (z6m clo later) sure = true -> ∀ p ∈ qrOf N.P A gb' (new ++ es), p.1 ∈ (qrOf N.P A s.gb es).map (·.1) -> ∃ x, (p.1, x) ∈ qrOf N.P A s.gb es /\ Ent x p.2 := fun hc => y9b x1 hes hc
  generalize hE : new ++ es = E at *
  intro x2 x3 x5 hf2
  cases hck : chk (z03 ops) s.n done (E.map (·.1)) (z6m clo later) sure with
  | false => rw [hck] at x2; cases x2
  | true =>
  rw [hck] at x2
  simp only [cond_true] at x2
  have hkeys := zo0 (P := N.P) (A := A) (gb := gb') E
  have hgq : ∀ p ∈ qrOf N.P A gb' E, memB sure p.1 = false -> ∃ o, ops[p.1]? = some o /\ GQ (P := N.P) (C := { C with n := s.n, r0 := ro0, wI := wz }) (z03 ops) o ⟨z2v (z03 ops) (memB (Tab.deps (z03 ops) p.1)) (slD V N.P A gb' bs) (qrOf N.P A gb' E), obD V N.P A A s.ob⟩ p.2 := by
   intro p hp hs
   subst hE
   exact ybw hN hf2 x5 x3 x4 hkn' h1 hp hs
  refine Reg.weak (s' := ⟨slD V N.P A gb' bs, obD V N.P A A s.ob⟩) (QR' := qrOf N.P A gb' E) (fun a r w q => by rw [<- zu8 x1 hgb]; exact q) ObW.refl ?_ (hdist hck) ?_
  ·intro q hq
   rw [hkeys, <- hE, List.map_append]
   refine List.mem_append_right _ ?_
   rw [zo0] at hq; exact hq
  cases later with
  | nil =>
   have hk := hcomb.leaf _ _ x2 hL
   refine Reg.introG [] sure rfl (by rw [hkeys]; exact hck) (zk0 x3) (zf2 fun p hp hs => hgq p hp hs) trivial ?_
   intro _ a' w' hsat
   obtain ⟨hd', hn', ro', S', hw', hev', hsl'⟩ := hsat
   rw [z4o _ x3.dst] at hsl'
   exact hK _ a' w' hk ⟨hd', hn', hkn', x3.gb x4 _, A, ro', S', hl, hw', hev0.trans hev', hsl', hst.ext hA hev'⟩
  | cons l0 lt =>
  generalize hlat : l0 :: lt = later at *
  have x2' : (bif (z6m clo later).isEmpty then none else comb ((z6m clo later).map fun l => match ops[l]? with
    | some o => bif o.guard.isNone && zr0 o && !memB done l && !memB (E.map (·.1)) l then (bif tlB V bs o then (bif Nat.beq later.length 1 && Nat.beq (l + 1) ops.size && (E.map (·.1)).all (fun q => (l :: (done ++ E.map (·.1))).any fun j => memB (Tab.deps (z03 ops) j) q) && (List.range ops.size).all (fun q => Nat.beq q l || memB done q || hasE V E q) then
       leaf (zi V N { s with gb := gb', sl := drSl V (fun _ => true) bs E } [] o.op o.type fun v => after V { s with gb := gb', sl := drSl V (fun _ => true) bs E } o.dst ([], v) (fun s => K .normal s)) else none) else bif z9p V { s with gb := gb' } bs E o.dst then (match inlC V N { s with gb := gb', sl := drSl V (memB (z04 o)) bs E } o.op with
     | some _ => bif Nat.beq later.length 1 && Nat.beq (l + 1) ops.size && (E.map (·.1)).all (fun q => (l :: (done ++ E.map (·.1))).any fun j => memB (Tab.deps (z03 ops) j) q) && (List.range ops.size).all (fun q => Nat.beq q l || memB done q || hasE V E q) then
       leaf (zro V N (inl l) o { s with gb := gb', sl := drSl V (fun _ => true) bs E } (fun s => K .normal s)) else none
     | none => bif (zwa V N { s with gb := gb', sl := drSl V (memB (z04 o)) bs E } o.op).isEmpty && y4t V ops.toList n0 l { s with gb := gb', sl := drSl V (memB (z04 o)) bs E } o.op then
       z35 (R := R') V N { s with gb := gb', sl := drSl V (memB (z04 o)) bs E } o.op o.type fun v s' =>
        zwv V N leaf comb inl ops clo n0 (fun s => K .normal s) n (later.filter fun x => !Nat.beq x l) (l :: done) (sure ++ (E.map (·.1)).filter fun q => bitB (clo.getD l 0) q && !memB sure q) (putB V bs (frzN V ops.toList l s.ob.length v s'.ob).1 o.dst) E { s with gb := gb', ob := (frzN V ops.toList l s.ob.length v s'.ob).2 } else none) else none) else none
    | none => none)) = some L := by
   subst hlat
   exact x2
  clear x2
  cases hem : (z6m clo later).isEmpty with
  | true => rw [hem] at x2'; cases x2'
  | false =>
  rw [hem] at x2'
  simp only [cond_false] at x2'
  have hat := fun l (hl : l ∈ z6m clo later) => hcomb.comb _ _ x2' hL _ (List.mem_map_of_mem hl)
  have hfacts : ∀ l ∈ z6m clo later, ∃ o, ops[l]? = some o /\ o.guard = none /\ zr0 o = true /\ memB done l = false /\ memB (E.map (·.1)) l = false := by
   intro l hl
   obtain ⟨a, ha, _⟩ := hat l hl
   cases ho : ops[l]? with
   | none => rw [ho] at ha; cases ha
   | some o =>
    rw [ho] at ha
    simp only at ha
    cases hc : (o.guard.isNone && zr0 o && !memB done l && !memB (E.map (·.1)) l) with
    | false => rw [hc] at ha; cases ha
    | true =>
     simp only [Bool.and_eq_true, Option.isNone_iff_eq_none] at hc
     simp only [Bool.not_eq_true'] at hc
     exact ⟨o, rfl, hc.1.1.1, hc.1.1.2, hc.1.2, hc.2⟩
  have hco : zbt (z03 ops) done (E.map (·.1)) = false := by
   obtain ⟨l, hl⟩ : ∃ l, l ∈ z6m clo later := by
    cases hcx : z6m clo later with
    | nil => rw [hcx] at hem; cases hem
    | cons l _ => exact ⟨l, List.mem_cons_self ..⟩
   obtain ⟨o, ho, _, _, hld, hle⟩ := hfacts l hl
   cases hco : zbt (z03 ops) done (E.map (·.1)) with
   | false => rfl
   | true =>
    unfold zbt at hco
    have := List.all_eq_true.1 hco l (by rw [List.mem_range, zng rfl]; exact (Array.getElem?_eq_some_iff.1 ho).1)
    rw [hld, hle] at this; cases this
  have tailW : ∀ l ∈ z6m clo later, ∀ o, ops[l]? = some o -> o.guard = none -> (Nat.beq later.length 1 && Nat.beq (l + 1) ops.size && (E.map (·.1)).all (fun q => (l :: (done ++ E.map (·.1))).any fun j => memB (Tab.deps (z03 ops) j) q) && (List.range ops.size).all (fun q => Nat.beq q l || memB done q || hasE V E q)) = true ->
    (∀ a w, SatS V C acts { s with gb := gb', sl := drSl V (fun _ => true) bs E } a w -> o.wp N.P a w (Q .normal) Q) ->
    Reg (P := N.P) { C with n := s.n, r0 := ro0, wI := wz } ops (z03 ops) Q done ⟨slD V N.P A gb' bs, obD V N.P A A s.ob⟩ (qrOf N.P A gb' E) := by
   intro l hlc o ho hg hcc hwp
   simp only [Bool.and_eq_true] at hcc
   obtain ⟨⟨⟨hone, hsz⟩, hcl⟩, hall⟩ := hcc
   have hone := Nat.eq_of_beq_eq_true hone
   have hlat1 : later = [l] := by
    have hml : l ∈ later := (List.mem_filter.1 hlc).1
    match later, hone, hml with
    | [y], _, hml => simp at hml; rw [hml]
   subst hlat1
   rw [zpb] at hck
   refine Reg.last l sure rfl (by rw [hkeys]; exact hck) (zk0 x3) (zf2 fun p hp hs => hgq p hp hs) (by rw [hkeys]; exact hcl) (by rw [hkeys]; exact yac hall) ho hg ?_ ?_
   ·rw [hkeys]; exact hco
   ·intro a w hsat
    obtain ⟨hd', hn', ro', S', hw', hev', hsl'⟩ := hsat
    rw [z4o _ x3.dst] at hsl'
    exact hwp a w ⟨hd', hn', hkn', x3.gb x4 _, A, ro', S', hl, hw', hev0.trans hev', hsl', hst.ext hA hev'⟩
  by_cases htl : ∃ l ∈ z6m clo later, ∃ o, ops[l]? = some o /\ tlB V bs o = true
  ·-- a variable's new value, at the end
   obtain ⟨l, hlc, o, ho, ht⟩ := htl
   obtain ⟨a, ha, haL⟩ := hat l hlc
   obtain ⟨o', ho', hg, hdst, hld, hle⟩ := hfacts l hlc
   rw [ho] at ho'; cases ho'
   simp only [ho, hg, hdst, hld, hle, ht, Option.isNone_none, Bool.not_false, Bool.and_self, cond_true] at ha
   cases hcc : (Nat.beq later.length 1 && Nat.beq (l + 1) ops.size && (E.map (·.1)).all (fun q => (l :: (done ++ E.map (·.1))).any fun j => memB (Tab.deps (z03 ops) j) q) && (List.range ops.size).all (fun q => Nat.beq q l || memB done q || hasE V E q)) with
   | false => rw [hcc] at ha; cases ha
   | true =>
    rw [hcc] at ha
    simp only [cond_true] at ha
    have x2 := hcomb.leaf _ _ ha haL
    refine tailW l hlc o ho hg hcc fun a w hsat => ?_
    exact (zgq hN x2 (fun p hp => by simp at hp) hsat (fun s2 v0 w' hk hs2 => hK s2 _ w' hk hs2)).1 trivial
  by_cases hin : ∃ l ∈ z6m clo later, ∃ o f, ops[l]? = some o /\ inlC V N { s with gb := gb', sl := drSl V (memB (z04 o)) bs E } o.op = some f
  ·-- a callee that is gone through in place, at the end
   obtain ⟨l, hlc, o, f0, ho, hi⟩ := hin
   obtain ⟨a, ha, haL⟩ := hat l hlc
   obtain ⟨o', ho', hg, hdst, hld, hle⟩ := hfacts l hlc
   rw [ho] at ho'; cases ho'
   have htb : tlB V bs o = false := by
    cases e : tlB V bs o with
    | false => rfl
    | true => exact absurd ⟨l, hlc, o, ho, e⟩ htl
   have hdf : z9p V { s with gb := gb' } bs E o.dst = true := by
    cases e : z9p V { s with gb := gb' } bs E o.dst with
    | true => rfl
    | false => simp [ho, hg, hdst, hld, hle, htb, e] at ha
   simp only [ho, hg, hdst, hdf, hld, hle, hi, htb, Option.isNone_none, Bool.not_false, Bool.and_self, cond_true, cond_false] at ha
   cases hcc : (Nat.beq later.length 1 && Nat.beq (l + 1) ops.size && (E.map (·.1)).all (fun q => (l :: (done ++ E.map (·.1))).any fun j => memB (Tab.deps (z03 ops) j) q) && (List.range ops.size).all (fun q => Nat.beq q l || memB done q || hasE V E q)) with
   | false => rw [hcc] at ha; cases ha
   | true =>
    rw [hcc] at ha
    simp only [cond_true] at ha
    have x2 := hcomb.leaf _ _ ha haL
    simp only [Bool.and_eq_true] at hcc
    obtain ⟨⟨⟨hone, hsz⟩, hcl⟩, hall⟩ := hcc
    have hsz := Nat.eq_of_beq_eq_true hsz
    have hone := Nat.eq_of_beq_eq_true hone
    have hlat1 : later = [l] := by
     have hml : l ∈ later := (List.mem_filter.1 hlc).1
     match later, hone, hml with
     | [y], _, hml => simp at hml; rw [hml]
    subst hlat1
    rw [zpb] at hck
    refine Reg.last l sure rfl (by rw [hkeys]; exact hck) (zk0 x3) (zf2 fun p hp hs => hgq p hp hs) (by rw [hkeys]; exact hcl) (by rw [hkeys]; exact yac hall) ho hg ?_ ?_
    ·rw [hkeys]; exact hco
    ·intro a w hsat
     obtain ⟨hd', hn', ro', S', hw', hev', hsl'⟩ := hsat
     rw [z4o _ x3.dst] at hsl'
     have hrest : (fun v s => after V s o.dst ([], v) fun s => K .normal s) = zkz V N inl ops l K := by
      funext v s
      have hdr : ops.toList.drop (l + 1) = [] := by rw [hsz]; simp
      simp only [zkz, ho, hdr, z6n]
     refine zu7 hN x2 (fun f fn c hf hb => ?_) (C := C) (acts := acts) ⟨hd', hn', hkn', x3.gb x4 _, A, ro', S', hl, hw', hev0.trans hev', hsl', hst.ext hA hev'⟩ (fun s2 v0 w' hk hs2 => hK s2 _ w' hk hs2)
     rw [hrest]
     exact hinl l f fn c hf hb
  ·-- others
   refine Reg.introG (z6m clo later) sure rfl (by rw [hkeys]; exact hck) (zk0 x3) (zf2 fun p hp hs => hgq p hp hs) (zf2 fun l hlc => ?_) (fun hc2 => by rw [hkeys, hco] at hc2; cases hc2)
   obtain ⟨a, ha, haL⟩ := hat l hlc
   obtain ⟨o, ho, hg, hdst, hld, hle⟩ := hfacts l hlc
   have htb : tlB V bs o = false := by
    cases e : tlB V bs o with
    | false => rfl
    | true => exact absurd ⟨l, hlc, o, ho, e⟩ htl
   have hdf : z9p V { s with gb := gb' } bs E o.dst = true := by
    cases e : z9p V { s with gb := gb' } bs E o.dst with
    | true => rfl
    | false => simp [ho, hg, hdst, hld, hle, htb, e] at ha
   have hni : inlC V N { s with gb := gb', sl := drSl V (memB (z04 o)) bs E } o.op = none := by
    cases hi : inlC V N { s with gb := gb', sl := drSl V (memB (z04 o)) bs E } o.op with
    | none => rfl
    | some f => exact absurd ⟨l, hlc, o, f, ho, hi⟩ hin
   simp only [ho, hg, hdst, hdf, hld, hle, hni, htb, Option.isNone_none, Bool.not_false, Bool.and_self, cond_true, cond_false] at ha
   cases hfz : ((zwa V N { s with gb := gb', sl := drSl V (memB (z04 o)) bs E } o.op).isEmpty && y4t V ops.toList n0 l { s with gb := gb', sl := drSl V (memB (z04 o)) bs E } o.op) with
   | false => rw [hfz] at ha; cases ha
   | true =>
    rw [hfz] at ha
    simp only [cond_true] at ha
    simp only [Bool.and_eq_true] at hfz
    have hchg := zzn (fs := stoF ops.toList l) (n0 := n0) (fun hf => by
     have h2 := hfz.2
     unfold y4t at h2
     split at h2
     ·rename_i t p v hop
      rw [hf] at h2
      simp only [Bool.not_true, Bool.false_or] at h2
      split at h2
      ·rename_i i off hp
       exact ⟨t, p, v, i, off, hop, hp, Nat.le_of_ble_eq_true h2⟩
      ·cases h2
     ·rename_i hop
      exfalso
      unfold stoF at hf
      have hop2 : opAt ops.toList l = o.op := by unfold opAt; rw [Array.getElem?_toList, ho]
      rw [hop2] at hf
      split at hf
      ·rename_i t p v hopp; exact hop _ _ _ hopp
      ·cases hf) ha
    have hOp := fun dst pos aft guard hd => zuu (C := { C with n := s.n, r0 := ro0, wI := wz }) (s := { s with gb := gb', sl := drSl V (memB (z04 o)) bs E }) hN hl hkn' (x3.gb x4 _) h1 hchg dst pos aft guard hd
    refine ⟨o, ho, ?_, ?_, ?_⟩
    ·unfold z33
     cases hod : o.dst with
     | none => rfl
     | some d => rw [hod] at hdf; simp only [z9p, Bool.and_eq_true, Nat.blt_eq] at hdf; simpa using hdf.1.1.1
    ·rw [hkeys]
     refine List.all_eq_true.2 fun q hq => ?_
     obtain ⟨e, he, rfl⟩ := List.mem_map.1 hq
     rw [x3.dst e he]
     cases hod : o.dst with
     | none => rfl
     | some d =>
      rw [hod] at hdf
      simp only [z9p, Bool.and_eq_true, Bool.not_eq_true'] at hdf
      simp only [y06, Bool.not_eq_true']
      cases hb : Nat.beq e.2.1 d with
      | false => rfl
      | true =>
       have : (E.any fun e => Nat.beq e.2.1 d) = true := List.any_eq_true.2 ⟨e, he, hb⟩
       rw [hdf.2] at this; cases this
    ·unfold zxv
     rw [hg]
     have h6 := hOp o.dst o.pos o.after none (fun e => by
      cases hod : o.dst with
      | none => rfl
      | some d =>
       obtain ⟨dst, op, ty, pos, aft, guard⟩ := o
       simp only at hod
       subst hod
       cases op <;> simp [y7b] at e <;> simp [zr0] at hdst)
     have ho3 : (⟨o.dst, o.op, o.type, o.pos, o.after, none⟩ : Oper) = o := by
      obtain ⟨dst, op, ty, pos, aft, guard⟩ := o
      simp only at hg
      subst hg; rfl
     rw [ho3] at h6
     have e4 : (⟨z2v (z03 ops) (memB (Tab.deps (z03 ops) l)) (slD V N.P A gb' bs) (qrOf N.P A gb' E), obD V N.P A A s.ob⟩ : St) = SS.st V N.P A { s with gb := gb', sl := drSl V (memB (z04 o)) bs E } := by
      rw [zeg ho, z4o _ x3.dst]; rfl
     rw [e4]
     refine h6.frz ?_
     rintro x objs ⟨B, ob', v, hkv, hlen, hent, hobw⟩
     simp only at hkv
     split at hkv
     ·rename_i hchg2
      obtain ⟨x', objs', hfz', hent', hobw', hlen', hchg'⟩ := y98 (ops := ops.toList) (l := l) hlen hent hobw hchg2
      refine ⟨x', objs', hfz', [], rfl, ?_⟩
      rw [List.append_nil]
      clear hent hobw hlen hchg2 hfz'
      revert hkv hent' hobw' hlen' hchg'
      generalize frzN V ops.toList l s.ob.length v ob' = fz
      obtain ⟨v, ob'⟩ := fz
      clear x objs
      revert x' objs'
      intro x objs hkv hent hobw hlen hchg2
      simp only at hkv hent hobw hlen hchg2
      have hfree3 : ∀ e ∈ E, memB (sure ++ (E.map (·.1)).filter fun q => bitB (clo.getD l 0) q && !memB sure q) e.1 = false -> zcl N ops clo n0 (later.filter fun x => !Nat.beq x l) (putB V bs v o.dst) E { s with gb := gb', ob := ob' } e := by
       intro e he hs
       have hs1 : memB sure e.1 = false := by
        cases hm : memB sure e.1 with
        | false => rfl
        | true => rw [z0g.2 (List.mem_append_left _ (z0g.1 hm))] at hs; cases hs
       have hs2 : bitB (clo.getD l 0) e.1 = false := by
        cases hm : bitB (clo.getD l 0) e.1 with
        | false => rfl
        | true => rw [z0g.2 (List.mem_append_right _ (List.mem_filter.2 ⟨List.mem_map.2 ⟨e, he, rfl⟩, by rw [hm, hs1]; rfl⟩))] at hs; cases hs
       have hF : zcl N ops clo n0 later bs E { s with gb := gb' } e := by
        subst hE
        rcases List.mem_append.1 he with hn | ho2
        ·exact (x5 e hn).2 ⟨l, (List.mem_filter.1 hlc).1, hs2⟩
        ·exact hf2 e ho2 hs1
       refine hF.step (List.mem_filter.1 hlc).1 hs2 ho ?_ x3 rfl hchg2
       intro d hd
       rw [hd] at hdf
       simp only [z9p, Bool.and_eq_true, Option.isNone_iff_eq_none, Bool.not_eq_true'] at hdf
       refine ⟨hdf.1.2, fun e2 he2 q => ?_⟩
       have : (E.any fun e => Nat.beq e.2.1 d) = true := List.any_eq_true.2 ⟨e2, he2, by rw [q]; exact Nat.beq_refl d⟩
       rw [hdf.2] at this; cases this
      have hesn : EsOK (z03 ops) gb' (putB V bs v o.dst) E := by
       refine ⟨x3.dst, x3.ch, x3.val, x3.inj, fun e he => ?_⟩
       cases hod : o.dst with
       | none => exact x3.bs e he
       | some d =>
        rw [hod] at hdf
        simp only [z9p, Bool.and_eq_true, Bool.not_eq_true'] at hdf
        simp only [putB, z0i]
        rw [if_neg]
        ·exact x3.bs e he
        ·intro q
         have : (E.any fun e => Nat.beq e.2.1 d) = true := List.any_eq_true.2 ⟨e, he, by rw [q]; exact Nat.beq_refl d⟩
         rw [hdf.2] at this; cases this
      have hgbn : GbOK (⟨putB V bs v o.dst, gb', s.kn, s.n⟩ : Fm V.T) := by
       cases hod : o.dst with
       | none => exact x4
       | some d =>
        rw [hod] at hdf
        simp only [z9p, Bool.and_eq_true, Option.isNone_iff_eq_none] at hdf
        refine ⟨fun t g ht ch z hz => ?_, fun t ch z hz p hp => ?_, x4.kn⟩
        ·simp only [putB, z0i] at hz
         by_cases e : t = d
         ·subst e
          have hgd : lk gb' t = none := hdf.1.1.2
          have ht' : lk gb' t = some g := ht
          rw [hgd] at ht'; cases ht'
         ·rw [if_neg e] at hz; exact x4.val t g ht ch z hz
        ·simp only [putB, z0i] at hz
         by_cases e : t = d
         ·rw [if_pos e] at hz; cases hz; cases hp
         ·rw [if_neg e] at hz; exact x4.ch t ch z hz p hp
      have hrec := ih _ (l :: done) _ (putB V bs v o.dst) E { s with gb := gb', ob := ob' } (A ++ B) a hkv haL (fun i p hp => AExt.app A B i p (hA i p hp)) hlen hst hesn hgbn hkn' hfree3
      refine Reg.weak (fun a r w hsl => ?_) hobw ?_ ?_ hrec
      ·intro t X hX
       simp only [slD] at hX
       cases hod : o.dst with
       | none =>
        rw [hod] at hX hsl
        exact zgj V N.P (AExt.app A B) hsl t X hX
       | some d =>
        rw [hod] at hX hsl
        simp only [putB, z0i] at hX
        by_cases e : t = d
        ·subst e
         rw [if_pos rfl] at hX
         simp only [Option.map_some, Option.some.injEq] at hX
         subst hX
         have := hsl t x (by simp only [z3g.set, Nat.beq_refl, cond_true])
         exact hent _ _ _ this
        ·rw [if_neg e] at hX
         have hsl2 : ze (slD V N.P A gb' bs) a r w \/ True := .inr trivial
         cases hbs : lk bs t with
         | none => rw [hbs] at hX; cases hX
         | some y =>
          rw [hbs] at hX
          simp only [Option.map_some, Option.some.injEq] at hX
          subst hX
          have := hsl t (denE V N.P A gb' y) (by simp only [z3g.set, zml e, cond_false, slD, hbs, Option.map_some])
          exact zku V N.P (AExt.app A B) y _ _ _ this
      ·intro q hq; rw [zo0] at hq ⊢; exact hq
      ·intro p hp _
       simp only [qrOf, List.mem_map] at hp
       obtain ⟨e, he, rfl⟩ := hp
       exact ⟨denE V N.P A gb' e.2.2, List.mem_map.2 ⟨e, he, rfl⟩, zku V N.P (AExt.app A B) e.2.2⟩
     ·cases hkv
end
end Px
end
section
namespace Px
open Go Go.RowKit
set_option linter.unusedVariables false
set_option linter.unusedSimpArgs false
section
variable {V : TE} {N : Env V} {R : Type} {r : R} {C : Cx N.P}
theorem zsq (hN : z7y V N) {R' : Type} {leaf : Option R -> Option R'} {comb : List (Option R') -> Option R'} {G : R' -> Prop} (hcomb : zul leaf comb r G) {inl : Nat -> Inl V R} {id : Nat} {ops : Array Oper} {K : KX V R} (hinl : ∀ i f fn c, N.P.funcs[f]? = some fn -> fn.body = some c -> zi0 C r (inl i f) c (inlK V N fn (zkz V N inl ops i K)))
  {acts : List Act} {Q : Exit -> Act -> World -> Prop} (hK : ∀ e s a w, K e s = some r -> SatS V C acts s a w -> Q e a w) (hm : N.P.follows .mixedOrders = true) {ls : List Nat} {L : R'} {s : SS V.T} {a : Act} {w : World}
  (h : altT V N leaf comb inl ops ls s K = some L) (hL : G L) (hs : SatS V C acts s a w) : (Code.region id ops true).wp N.P Q a w := by
 unfold altT y9p at h
 obtain ⟨hd, hn, hkn, hgb, A, ro, S, hl, hw, hev, hsl, hst⟩ := hs
 generalize hbs : (s.sl.filter fun p => !isDs (wrO V ops s) p.1 || y3v ops.toList p.1) = bs at h
 have hlk : ∀ {t : Nat} {x : Ch × SV V.T}, lk bs t = some x -> lk s.sl t = some x := fun {t x} hx => zdo (fun k => !isDs (wrO V ops s) k || y3v ops.toList k) (by rw [hbs]; exact hx)
 have hgb0 : GbOK (⟨bs, s.gb, s.kn, s.n⟩ : Fm V.T) := ⟨fun t g hg ch z hz => hgb.val t g hg ch z (hlk hz), fun t ch z hz => hgb.ch t ch z (hlk hz), hgb.kn⟩
 have hbs' : ze (slD V N.P A s.gb bs) a ro w := by
  intro t X hX
  simp only [slD] at hX
  cases hb : lk bs t with
  | none => rw [hb] at hX; cases hX
  | some e =>
   rw [hb] at hX
   exact hsl t X (by simp only [slD, hlk hb]; exact hX)
 have hreg := y3h hN hcomb hinl (hK .normal) hev _ _ [] [] bs [] s A L h hL (AExt.refl A) hl hst ⟨fun e he => absurd he List.not_mem_nil, fun e he => absurd he List.not_mem_nil, fun e he => absurd he List.not_mem_nil, fun e he => absurd he List.not_mem_nil, fun e he => absurd he List.not_mem_nil⟩ hgb0 hkn (fun e he => absurd he List.not_mem_nil)
 exact zel.draw hm hreg a w ⟨hd, hn, ro, S, hw, Evo.refl _ _ _, hbs'⟩
theorem y0v (hN : z7y V N) {inl : Nat -> Inl V R} {id : Nat} {ops : Array Oper} {d : Bool} {K : KX V R} (hinl : ∀ i f fn c, N.P.funcs[f]? = some fn -> fn.body = some c -> zi0 C r (inl i f) c (inlK V N fn (zkz V N inl ops i K)))
  {acts : List Act} {Q : Exit -> Act -> World -> Prop} (hK : ∀ e s a w, K e s = some r -> SatS V C acts s a w -> Q e a w) {s : SS V.T} {a : Act} {w : World} (h : regX V N inl ops d s K = some r) (hs : SatS V C acts s a w) : (Code.region id ops d).wp N.P Q a w := by
 unfold regX at h
 cases d with
 | true =>
  simp only [cond_true] at h
  cases hm : N.P.follows .mixedOrders with
  | false => rw [hm] at h; cases h
  | true =>
   rw [hm] at h
   simp only [cond_true] at h
   split at h
   ·split at h
    ·exact y85 hN (K := fun s => K .normal s) (hK .normal) hm h hs
    ·exact zsq hN zuq hinl hK hm h rfl hs
   ·exact zsq hN zuq hinl hK hm h rfl hs
 | false =>
  simp only [cond_false] at h
  refine wp_region ?_
  have := zr8 hN hinl (hK .normal) ops.toList 0 s a w rfl h hs
  rw [<- List.range_eq_range'] at this
  simpa using this
theorem zop {acts : List Act} {Q : Exit -> Act -> World -> Prop} {n : SS V.T -> Option R} {K : KX V R} {W : Act -> World -> Prop} (hn : ∀ s a w, n s = some r -> SatS V C acts s a w -> W a w) (hK : ∀ e s a w, K e s = some r -> SatS V C acts s a w -> Q e a w) :
  ∀ e s a w, seqK V n K e s = some r -> SatS V C acts s a w -> Exit.then W Q e a w := by
 intro e s a w h hs
 cases e with
 | normal => exact hn s a w h hs
 | _ => exact hK _ s a w h hs
theorem zx8 {acts : List Act} {Q : Exit -> Act -> World -> Prop} {id : Nat} {K : KX V R} (hK : ∀ e s a w, K e s = some r -> SatS V C acts s a w -> Q e a w) :
  ∀ e s a w, blkK V id K e s = some r -> SatS V C acts s a w -> Exit.inBlock id Q e a w := by
 intro e s a w h hs
 cases e with
 | exit i =>
  simp only [blkK] at h
  simp only [Exit.inBlock]
  by_cases e : i = id
  ·subst e
   rw [Nat.beq_refl] at h
   rw [if_pos rfl]
   exact hK .normal s a w h hs
  ·rw [zml e] at h
   rw [if_neg e]
   exact hK _ s a w h hs
 | _ => exact hK _ s a w h hs
theorem y61 {acts : List Act} {Q : Exit -> Act -> World -> Prop} {K : KX V R} (hK : ∀ e s a w, K e s = some r -> SatS V C acts s a w -> Q e a w) :
  ∀ e s a w, ngK V K e s = some r -> SatS V C acts s a w -> Exit.noGoto Q e a w := by
 intro e s a w h hs
 cases e with
 | goto l => cases h
 | _ => exact hK _ s a w h hs
theorem zur {acts : List Act} {Q : Exit -> Act -> World -> Prop} {o : Operand} {c d : Code} {x y : Option R} {s : SS V.T} {a : Act} {w : World} (h : y3e V s o x y = some r) (hs : SatS V C acts s a w) (hx : x = some r -> c.wp N.P Q a w) (hy : y = some r -> d.wp N.P Q a w) : (Code.cond o c d).wp N.P Q a w := by
 unfold y3e at h
 split at h
 ·rename_i b hb
  obtain ⟨_, _, hkn, hgb, A, ro, S, hl, hw, hev, hsl, hst⟩ := hs
  have he := z2u V N.P (A := A) (z9k hb) trivial a ro w hsl
  simp only [SV.den] at he
  refine wp_cond_split he (fun e => hx ?_) (fun e => hy ?_)
  ·subst e; simpa using h
  ·subst e; simpa using h
 ·cases h
theorem zvg (hN : z7y V N) {dfl : Inl V R} (hd : ∀ f fn c K, N.P.funcs[f]? = some fn -> fn.body = some c -> zi0 C r (dfl f) c K) : ∀ (c : Code) (K : KX V R), zi0 C r (znc V N dfl) c K := by
 intro c
 induction c with
 | skip => exact fun K acts Q hK s a w h hs => wp_skip (hK _ s a w h hs)
 | label l => exact fun K acts Q hK s a w h hs => wp_label (hK _ s a w h hs)
 | region id ops d => exact fun K acts Q hK s a w h hs => y0v hN (fun i f fn c h1 h2 => hd f fn c _ h1 h2) hK h hs
 | seq x y hx hy =>
  intro K acts Q hK s a w h hs
  exact wp_seq (hx _ acts _ (zop (fun s a w h hs => hy K acts Q hK s a w h hs) hK) s a w h hs)
 | cond o x y hx hy =>
  intro K acts Q hK s a w h hs
  exact zur h hs (fun h => hx K acts Q hK s a w h hs) (fun h => hy K acts Q hK s a w h hs)
 | block id c hc =>
  intro K acts Q hK s a w h hs
  exact wp_block (hc _ acts _ (zx8 hK) s a w h hs)
 | scope c hc =>
  intro K acts Q hK s a w h hs
  exact wp_scope_straight (hc _ acts _ (y61 hK) s a w h hs)
 | exit id => exact fun K acts Q hK s a w h hs => wp_exit (hK _ s a w h hs)
 | ret => exact fun K acts Q hK s a w h hs => wp_ret (hK _ s a w h hs)
 | _ => exact fun K acts Q hK s a w h hs => by cases h
theorem z87 (hN : z7y V N) : ∀ (n f : Nat) (c : Code) (K : KX V R), zi0 C r (dflN V N n f) c K
 | 0, f, c, K => fun acts Q hK s a w h hs => by cases h
 | n + 1, f, c, K => zvg hN (fun f fn c K _ _ => z87 hN n f c K) c K
theorem ze3 {α : Type} {x : Option α} {k : α -> Option R} (h : zox x k = some r) : ∃ z, x = some z /\ k z = some r := by
 cases x with
 | none => cases h
 | some z => exact ⟨z, rfl, h⟩
theorem y0f {s : SS V.T} {t : Nat} {x : Ch × SV V.T} (h : lk (clrG V s).sl t = some x) : lk s.sl t = some x /\ x.1 = [] := by
 have h1 := zdo (fun k => zs6 s.sl k) h
 refine ⟨h1, ?_⟩
 have := (List.mem_filter.1 (zhm h)).2
 simp only [zs6, h1] at this
 obtain ⟨ch, v⟩ := x
 cases ch with
 | nil => rfl
 | cons _ _ => cases this
theorem y7h {acts : List Act} {s : SS V.T} {a : Act} {w : World} (hs : SatS V C acts s a w) : SatS V C acts (clrG V s) a w := by
 obtain ⟨hd, hn, hkn, hgb, A, ro, S, hl, hw, hev, hsl, hst⟩ := hs
 refine ⟨hd, hn, trivial, ⟨fun t g h => by simp [clrG, lk] at h, fun t ch z hz p hp => ?_, fun p hp => by simp [clrG] at hp⟩, A, ro, S, hl, hw, hev, ?_, hst⟩
 ·have := (y0f hz).2
  simp only at this
  subst this; cases hp
 ·intro t X hX
  simp only [slD] at hX
  cases hz : lk (clrG V s).sl t with
  | none => rw [hz] at hX; cases hX
  | some e =>
   rw [hz] at hX
   obtain ⟨h1, h2⟩ := y0f hz
   obtain ⟨ch, v⟩ := e
   simp only at h2
   subst h2
   refine hsl t X ?_
   simp only [slD, h1]
   exact hX
theorem ybk (hN : z7y V N) (φ : Nat) (h : H V R) : (∀ c K, obl V N φ h none c K -> zi0 C r (ex V N φ h).run c K) /\
  (∀ full id ops d K, obl V N φ h (some full) (.region id ops d) K -> ∀ i f fn c, N.P.funcs[f]? = some fn -> fn.body = some c -> zi0 C r ((ex V N φ h).inl i f) c (inlK V N fn (zkz V N full ops i K))) := by
 induction h with
 | x => exact ⟨fun c K _ => zvg hN (fun f fn c K _ _ => z87 hN 8 f c K) c K, fun full id ops d K _ i f fn c _ _ => z87 hN 8 f c _⟩
 | no =>
  refine ⟨fun c K ho => ?_, fun full id ops d K _ i f fn c _ _ => z87 hN 8 f c _⟩
  intro acts Q hK s a w h hs
  cases h
 | seq h1 h2 i1 i2 =>
  refine ⟨fun c K ho => ?_, fun full id ops d K _ i f fn c _ _ => z87 hN 8 f c _⟩
  cases c with
  | seq x y =>
   intro acts Q hK s a w h hs
   exact wp_seq (i1.1 _ _ ho.1 acts _ (zop (fun s a w h hs => i2.1 y K ho.2 acts Q hK s a w h hs) hK) s a w h hs)
  | _ => exact ho.elim
 | cond h1 h2 i1 i2 =>
  refine ⟨fun c K ho => ?_, fun full id ops d K _ i f fn c _ _ => z87 hN 8 f c _⟩
  cases c with
  | cond o x y =>
   intro acts Q hK s a w h hs
   exact zur h hs (fun h => i1.1 x K ho.1 acts Q hK s a w h hs) (fun h => i2.1 y K ho.2 acts Q hK s a w h hs)
  | _ => exact ho.elim
 | body h ih =>
  refine ⟨fun c K ho => ?_, fun full id ops d K _ i f fn c _ _ => z87 hN 8 f c _⟩
  cases c with
  | block id c =>
   intro acts Q hK s a w h hs
   exact wp_block (ih.1 c _ ho acts _ (zx8 hK) s a w h hs)
  | scope c =>
   intro acts Q hK s a w h hs
   exact wp_scope_straight (ih.1 c _ ho acts _ (y61 hK) s a w h hs)
  | _ => exact ho.elim
 | loop h L b ih =>
  refine ⟨fun c K ho => ?_, fun full id ops d K _ i f fn c _ _ => z87 hN 8 f c _⟩
  cases c with
  | loop c =>
   obtain ⟨h0, hS, hb⟩ := ho
   intro acts Q hK s a w hr hs
   obtain ⟨z, hz, hL⟩ := ze3 hr
   have key : ∀ n z, L n z = some r -> ∀ a w, SatS V C acts (h.enc V z) a w -> Code.rounds N.P c Q n a w := by
    intro n
    induction n with
    | zero => intro z hz; rw [h0] at hz; cases hz
    | succ n ihn =>
     intro z hz a w hs
     rw [hS] at hz
     refine (ih (L n)).1 c _ (hb n) acts (Exit.then (Code.rounds N.P c Q n) Q) (zop (fun s a w h hs => ?_) hK) _ a w hz hs
     obtain ⟨z', hz', hL'⟩ := ze3 h
     exact ihn z' hL' a w (ztu hs _ z' hz')
   exact wp_loop_rounds φ (key φ z hL a w (ztu hs h z hz))
  | _ => exact ho.elim
 | join h J b ih =>
  refine ⟨fun c K ho => ?_, fun full id ops d K _ i f fn c _ _ => z87 hN 8 f c _⟩
  have ho' : (∀ z, J z = K .normal (h.enc V z)) /\ obl V N φ b none c (seqK V (fun s => zox (h.dec V s) J) K) := by
   cases c <;> exact ho
  intro acts Q hK s a w hr hs
  refine ih.1 c _ ho'.2 acts Q (fun e s a w hk hs => ?_) s a w hr hs
  cases e with
  | normal =>
   obtain ⟨z, hz, hJ⟩ := ze3 hk
   rw [ho'.1] at hJ
   exact hK _ _ a w hJ (ztu hs h z hz)
  | _ => exact hK _ s a w hk hs
 | ins i f h rest ih1 ih2 =>
  have B : ∀ full id ops d K, obl V N φ (.ins i f h rest) (some full) (.region id ops d) K -> ∀ j g fn c, N.P.funcs[g]? = some fn -> fn.body = some c -> zi0 C r ((ex V N φ (.ins i f h rest)).inl j g) c (inlK V N fn (zkz V N full ops j K)) := by
   intro full id ops d K ho j g fn c hf hc
   obtain ⟨ho1, ho2⟩ := ho
   show zi0 C r (fun c s K => bif Nat.beq j i && Nat.beq g f then (ex V N φ h).run c s K else (ex V N φ rest).inl j g c s K) c _
   cases he : (Nat.beq j i && Nat.beq g f) with
   | false => exact ih2.2 full id ops d K ho2 j g fn c hf hc
   | true =>
    simp only [Bool.and_eq_true] at he
    have e1 := Nat.eq_of_beq_eq_true he.1
    have e2 := Nat.eq_of_beq_eq_true he.2
    subst e1; subst e2
    rw [hf] at ho1
    simp only [hc] at ho1
    exact ih1.1 c _ ho1
  refine ⟨fun c K ho => ?_, B⟩
  cases c with
  | region id ops d =>
   intro acts Q hK s a w h hs
   exact y0v hN (fun j g fn c hf hc => B _ id ops d K ho j g fn c hf hc) hK h hs
  | _ => exact ho.elim
 | foc p q h ih =>
  refine ⟨fun c K ho => ?_, fun full id ops d K ho => ih.2 full id ops d K ho⟩
  have ho' : obl V N φ h none c K := by cases c <;> exact ho
  intro acts Q hK s a w hr hs
  change (match focP V p q s with
   | some (i, m) => focX V s i m fun s => (ex V N φ h).run c s K
   | none => none) = some r at hr
  split at hr
  ·obtain ⟨s', h1, h2⟩ := y9j hr hs
   exact ih.1 c K ho' acts Q hK s' a w h1 h2
  ·cases hr
 | unr n h ih =>
  refine ⟨fun c K ho => ?_, fun full id ops d K _ i f fn c _ _ => z87 hN 8 f c _⟩
  cases c with
  | loop c =>
   intro acts Q hK s a w hr hs
   have key : ∀ m s a w, unrX V ((ex V N φ h).run c) m s K = some r -> SatS V C acts s a w -> Code.rounds N.P c Q m a w := by
    intro m
    induction m with
    | zero => intro s a w hz; cases hz
    | succ m ihm =>
     intro s a w hz hs
     exact ih.1 c _ (ho _) acts (Exit.then (Code.rounds N.P c Q m) Q) (zop (fun s a w h hs => ihm s a w h hs) hK) _ a w hz (y7h hs)
   exact wp_loop_rounds n (key n s a w hr hs)
  | _ => exact ho.elim
 | alt h J J2 =>
  refine ⟨fun c K ho => ?_, fun full id ops d K _ i f fn c _ _ => z87 hN 8 f c _⟩
  cases c with
  | region id ops d =>
   obtain ⟨hd, hz, hA⟩ := ho
   simp only [Bool.and_eq_true] at hd
   obtain ⟨rfl, hm⟩ := hd
   intro acts Q hK s a w hr hs
   obtain ⟨z, hz1, hJ⟩ := ze3 hr
   obtain ⟨L, h1, h2⟩ := (hA z).ok r hJ
   rw [hz] at h1
   exact zsq hN y4l (inl := fun _ => Dfl V N R) (fun i f fn c _ _ => z87 hN 8 f c _) hK hm h1 h2 (ztu hs h z hz1)
  | _ => exact ho.elim
 | frz ps h ih =>
  refine ⟨fun c K ho => ?_, fun full id ops d K ho => ih.2 full id ops d K ho⟩
  have ho' : obl V N φ h none c K := by cases c <;> exact ho
  intro acts Q hK s a w hr hs
  exact ih.1 c K ho' acts Q hK _ a w hr (zj5 _ hs)
end
end Px
end
section
namespace Px
open Go Go.RowKit
set_option linter.unusedVariables false
set_option linter.unusedSimpArgs false
section
variable {V : TE} {N : Env V}
theorem zte {P : Program} {A B : Asg} {s : SS V.T} (hl : A.length = s.ob.length) : ∀ (cs : List RC) (l : List (SV V.T)) (y : RTup V.T cs) (n : Nat), decR V s cs l = some y -> (∀ k i, (ziv V cs l)[k]? = some i -> B[n + k]? = some (A.getD i default)) ->
  F2 Ent (denV V P A l) (denV V P B (encR V n cs y)) /\ zam (obD V P A A s.ob) (ziv V cs l) (obD V P B ((ziv V cs l).map fun i => A.getD i default) (newR V cs y)) /\ (newR V cs y).length = (ziv V cs l).length
 | [], l, y, n, h, hB => by
  cases l with
  | nil => exact ⟨trivial, trivial, rfl⟩
  | cons x l => exact zg h
 | .val c :: cs, l, y, n, h, hB => by
  cases l with
  | nil => exact zg h
  | cons x l =>
   change (match V.dec (rdSl []) c x, decR V s cs l with
    | some y, some r => some (y, r)
    | _, _ => none) = some y at h
   split at h
   ·rename_i y1 r hy hr
    have e := Option.some.inj h
    subst e
    obtain ⟨h1, h2, h3⟩ := zte hl cs l r n hr hB
    refine ⟨⟨?_, h1⟩, h2, h3⟩
    rw [z52]
    exact z72 V P hy
   ·exact zg h
 | .row E c :: cs, l, y, n, h, hB => by
  cases l with
  | nil => exact zg h
  | cons x l =>
   cases x with
   | own i =>
    cases hr : decR V s cs l with
    | none => simp [decR, hr] at h
    | some r =>
     simp only [decR, hr] at h
     split at h
     ·rename_i E' c' z hz
      cases hE : Nat.beq E E' with
      | false => rw [hE] at h; exact zg h
      | true =>
       rw [hE] at h
       have := Nat.eq_of_beq_eq_true hE
       subst this
       simp only [cond_true] at h
       split at h
       ·rename_i e
        subst e
        have e := Option.some.inj h
        subst e
        have hlt : i < A.length := by rw [hl]; exact (List.getElem?_eq_some_iff.1 hz).1
        have ha : A[i]? = some (A.getD i default) := by simp [List.getD, List.getElem?_eq_getElem hlt]
        obtain ⟨h1, h2, h3⟩ := zte hl cs l r (n + 1) hr fun k j hk => by
         have := hB (k + 1) j (by simpa [ziv] using hk)
         rw [<- this]; congr 1; omega
        have hb := hB 0 i rfl
        refine ⟨⟨?_, h1⟩, ⟨⟨_, z02 V P ha hz, EntH.refl⟩, h2⟩, by simp [ziv, newR, h3]⟩
        simp only [SV.den]
        rw [ha, show B[n]? = some (A.getD i default) from hb]
        exact Ent.refl
       ·exact zg h
     ·exact zg h
   | _ => simp [decR] at h
theorem y1l {P : Program} {A B : Asg} : ∀ {l m : List (SV V.T)}, F2 Ent (denV V P A l) (denV V P B m) -> Ent ((resV V l).den V P A) ((resV V m).den V P B)
 | [], [], _ => by simp only [resV, SV.den]; exact Ent.refl
 | [x], [y], h => h.1
 | x :: x' :: l, y :: y' :: m, h => by simp only [resV, SV.den]; exact y01 h
 | [], _ :: _, h => h.elim
 | _ :: _, [], h => h.elim
 | [_], _ :: _ :: _, h => h.2.elim
 | _ :: _ :: _, [_], h => h.2.elim
theorem zl3 {P : Program} {A : Asg} : ∀ (cs : List Nat) (x : Tup V.T cs), denV V P A (encA V cs x) = vls V cs x
 | [], _ => rfl
 | c :: cs, x => by simp only [encA, denV, vls, z52, zl3 cs]
theorem zn8 : ∀ (cs : List Nat) (x : Tup V.T cs), (encA V cs x).length = cs.length
 | [], _ => rfl
 | c :: cs, x => by simp only [encA, List.length_cons, zn8 cs]
theorem ztq : ∀ (cs : List KC) (x : KCs V.T cs), (encK V cs x).length = cs.length
 | [], _ => rfl
 | c :: cs, x => by simp only [encK, List.length_cons, ztq cs]
theorem y6n (hN : z7y V N) {f φ : Nat} {fn : Func} {rs : List RC} (h : H V (RTup V.T rs)) (hf : N.P.funcs[f]? = some fn) {us : List (SV V.T)} (hle : us.length <= fn.ntmps) {r : RTup V.T rs}
  (hr : fnV V N φ fn rs h us = some r) (ho : fnO V N φ fn rs h) : zhs N.P f (denV V N.P [] us) (Kres V N.P rs r) := by
 unfold fnV at hr
 unfold fnO at ho
 split at hr
 ·rename_i c hb
  rw [hb] at ho
  intro r0 w vs hr0 hl hA
  rw [zgv] at hl
  refine calls_of_wp hf hb ((ybk hN (r := r) (C := (⟨w, w.heap.size, r0, w, fn.ntmps⟩ : Cx N.P)) φ h).1 c _ ho [] _ ?_ _ _ _ hr ?_)
  ·intro e s a' w' hK hs
   have fin : (match zga V N s fn.results.toList with
     | some l => match zga V N (zpy V s (zsl V rs l)) fn.results.toList with
      | some l' => bif za4 (ziv V rs l') then decR V (zpy V s (zsl V rs l)) rs l' else none
      | none => none
     | none => none) = some r -> a'.defers = [] /\ ∃ v, (results fn a'.tmps).run N.P w' = .ok v w' /\ retR w w.heap.size r0 w (Kres V N.P rs r) (.returned v) w' := by
    intro hK
    split at hK
    ·rename_i l hl1
     split at hK
     ·rename_i l' hl2
      cases hnd : za4 (ziv V rs l') with
      | false => rw [hnd] at hK; cases hK
      | true =>
       rw [hnd] at hK
       simp only [cond_true] at hK
       obtain ⟨hd', hn', hkn', hgb', A', ro', S', hl', hw', hev', hsl', hst'⟩ := zj5 (zsl V rs l) hs
       obtain ⟨v, hv, hvx⟩ := zm1 hw' hsl' hl2
       obtain ⟨k1, k2, k3⟩ := zte (P := N.P) (B := (ziv V rs l').map fun i => A'.getD i default) hl' rs l' r 0 hK fun k i hk => by
        rw [Nat.zero_add, List.getElem?_map, hk]; rfl
       exact ⟨hd', v, hv, v, _, _, ro', _, rfl, hev', hw'.sel k2 hnd, y1l k1 _ _ _ hvx, _, by rw [k3]; simp, rfl, rfl⟩
     ·cases hK
    ·cases hK
   cases e with
   | ret => exact fin hK
   | normal => exact fin hK
   | exit id => simp [retK] at hK
   | goto l => simp [retK] at hK
   | panic ch => simp [retK] at hK
   | outgrown => simp [retK] at hK
  ·refine ⟨rfl, by simp [hl]; omega, trivial, ⟨fun t g h => by simp [lk] at h, fun t ch z hz p hp => ?_, fun p hp => by simp at hp⟩, [], r0, fun _ _ => False, rfl, ⟨Bel.refl _ _, Nat.le_refl _, fun i H hi => by simp [obD] at hi, fun i b hb => hb.elim, fun i j b hb => hb.elim, hr0⟩, Evo.refl _ _ _, ?_, trivial⟩
   ·rw [zfx] at hz
    simp only [Nat.zero_le, if_true, Option.map_eq_some_iff, Prod.mk.injEq] at hz
    obtain ⟨_, _, rfl, _⟩ := hz
    simp at hp
   ·intro t X hX
    simp only [slD, zfx, Nat.zero_le, if_true, Nat.sub_zero, Option.map_map, Option.map_eq_some_iff] at hX
    obtain ⟨y, hy, rfl⟩ := hX
    have hlt := (List.getElem?_eq_some_iff.1 hy).1
    have hdv : ∀ (l : List (SV V.T)) (t : Nat), l[t]? = some y -> (denV V N.P [] l)[t]? = some (y.den V N.P []) := by
     intro l
     induction l with
     | nil => intro t h; simp at h
     | cons z l ih => intro t h; cases t with
      | zero => simp at h; subst h; rfl
      | succ t => simp at h; simpa [denV] using ih t h
    have := hA t _ (hdv _ t hy)
    have hvt : t < vs.size := hl ▸ hlt
    simpa [denE, Array.getD_eq_getD_getElem?, Array.getElem?_append, hvt] using this
 ·cases hr
theorem z1j (hN : z7y V N) {f φ : Nat} {fn : Func} {as : List Nat} {rs : List RC} {F : Tup V.T as -> Option (RTup V.T rs)} (h : H V (RTup V.T rs)) (hf : N.P.funcs[f]? = some fn) (hn : Nat.ble as.length fn.ntmps = true)
  (hF : ∀ a, F a = fnX V N φ fn as rs h a) (ho : fnO V N φ fn rs h) : z13 V N.P f ⟨as, rs, F⟩ := by
 intro x r hr
 simp only at x r hr
 rw [hF] at hr
 have := y6n hN (us := encA V as x) h hf (by rw [zn8]; exact Nat.le_of_ble_eq_true hn) hr ho
 rwa [zl3] at this
theorem zuv (hN : z7y V N) {f φ : Nat} {fn : Func} {as : List Nat} {cs : List KC} {rs : List RC} {F : Tup V.T as -> KCs V.T cs -> Option (RTup V.T rs)} (h : H V (RTup V.T rs)) (hf : N.P.funcs[f]? = some fn) (hn : Nat.ble (as.length + cs.length) fn.ntmps = true)
  (hF : ∀ a b, F a b = fnXc V N φ fn as cs rs h a b) (ho : fnO V N φ fn rs h) : zrt V N.P f ⟨as, cs, rs, F⟩ := by
 intro x y r hr
 simp only at x y r hr
 rw [hF] at hr
 have := y6n hN (us := encA V as x ++ encK V cs y) h hf (by rw [List.length_append, zn8, ztq]; exact Nat.le_of_ble_eq_true hn) hr ho
 rwa [zos, zl3] at this
theorem ztv {α : Type} {Q : Nat -> α -> Prop} : ∀ {l : List (Nat × α)}, AllP (fun p => Q p.1 p.2) l -> ∀ f x, lk l f = some x -> Q f x
 | [], _, f, x, h => by cases h
 | (k, y) :: l, hl, f, x, h => by
  rw [z0i] at h
  by_cases e : f = k
  ·rw [if_pos e] at h; cases h; subst e; exact hl.1
  ·rw [if_neg e] at h; exact ztv hl.2 f x h
theorem zt {P : Program} {l : List (Nat × Fsp V)} {m : List (Nat × Msp V)} {n : List (Nat × Csp V)} (h : AllP (fun p => z13 V P p.1 p.2) l) (hm : AllP (fun p => zxf V P p.1 p.2) m) (hn : AllP (fun p => zrt V P p.1 p.2) n) : z7y V (⟨P, lk l, lk m, lk n⟩ : Env V) :=
 ⟨fun f sp hf => ztv hn f sp hf, fun f sp hf => ztv hm f sp hf, fun f sp hf => ztv h f sp hf⟩
end
end Px
end
