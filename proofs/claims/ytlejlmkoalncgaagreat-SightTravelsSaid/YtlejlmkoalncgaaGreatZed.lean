/- A part of the proof of sightTravels_holds. Conditions: none. -/
import Derived.Test.YtlejlmkoalncgaaGreatZec
section
namespace Px
open Go Go.RowKit
set_option linter.unusedVariables false
set_option linter.unusedSimpArgs false
section
variable {V : TE} {N : Env V} {R : Type} {r : R} {C : Cx N.P}
theorem zo1 (hN : z72 V N) {R' : Type} {leaf : Option R → Option R'} {comb : List (Option R') → Option R'} {G : R' → Prop} (hcomb : zpu leaf comb r G) {inl : Nat → Inl V R} {id : Nat} {ops : Array Oper} {K : KX V R} (hinl : ∀ i f fn c, N.P.funcs[f]? = some fn → fn.body = some c → zeo C r (inl i f) c (inlK V N fn (zhp V N inl ops i K)))
    {acts : List Act} {Q : Exit → Act → World → Prop} (hK : ∀ e s a w, K e s = some r → SatS V C acts s a w → Q e a w) (hm : N.P.follows .mixedOrders = true) {ls : List Nat} {L : R'} {s : SS V.T} {a : Act} {w : World}
    (h : altT V N leaf comb inl ops ls s K = some L) (hL : G L) (hs : SatS V C acts s a w) : (Code.region id ops true).wp N.P Q a w := by
  unfold altT y3n at h
  obtain ⟨hd, hn, hkn, hgb, A, ro, S, hl, hw, hev, hsl, hst⟩ := hs
  generalize hbs : (s.sl.filter fun p => !isDs (wrO V ops s) p.1) = bs at h
  have hlk : ∀ {t : Nat} {x : Ch × SV V.T}, lk bs t = some x → lk s.sl t = some x := fun {t x} hx => zb8 (fun k => !isDs (wrO V ops s) k) (by rw [hbs]; exact hx)
  have hgb0 : GbOK (⟨bs, s.gb, s.kn, s.n⟩ : Fm V.T) := ⟨fun t g hg ch z hz => hgb.val t g hg ch z (hlk hz), fun t ch z hz => hgb.ch t ch z (hlk hz), hgb.kn⟩
  have hbs' : zb (slD V N.P A s.gb bs) a ro w := by
    intro t X hX
    simp only [slD] at hX
    cases hb : lk bs t with
    | none => rw [hb] at hX; cases hX
    | some e =>
      rw [hb] at hX
      exact hsl t X (by simp only [slD, hlk hb]; exact hX)
  have hreg := zxh hN hcomb hinl (hK .normal) hev _ _ [] [] bs [] s A L h hL (AExt.refl A) hl hst ⟨fun e he => absurd he List.not_mem_nil, fun e he => absurd he List.not_mem_nil, fun e he => absurd he List.not_mem_nil, fun e he => absurd he List.not_mem_nil, fun e he => absurd he List.not_mem_nil⟩ hgb0 hkn (fun e he => absurd he List.not_mem_nil)
  exact zcb.draw hm hreg a w ⟨hd, hn, ro, S, hw, Evo.refl _ _ _, hbs'⟩
theorem zuf (hN : z72 V N) {inl : Nat → Inl V R} {id : Nat} {ops : Array Oper} {d : Bool} {K : KX V R} (hinl : ∀ i f fn c, N.P.funcs[f]? = some fn → fn.body = some c → zeo C r (inl i f) c (inlK V N fn (zhp V N inl ops i K)))
    {acts : List Act} {Q : Exit → Act → World → Prop} (hK : ∀ e s a w, K e s = some r → SatS V C acts s a w → Q e a w) {s : SS V.T} {a : Act} {w : World} (h : regX V N inl ops d s K = some r) (hs : SatS V C acts s a w) : (Code.region id ops d).wp N.P Q a w := by
  unfold regX at h
  cases d with
  | true =>
    simp only [cond_true] at h
    cases hm : N.P.follows .mixedOrders with
    | false => rw [hm] at h; cases h
    | true =>
      rw [hm] at h
      simp only [cond_true] at h
      split at h
      · split at h
        · exact y1x hN (K := fun s => K .normal s) (hK .normal) hm h hs
        · exact zo1 hN zqs hinl hK hm h rfl hs
      · exact zo1 hN zqs hinl hK hm h rfl hs
  | false =>
    simp only [cond_false] at h
    refine wp_region ?_
    have := znk hN hinl (hK .normal) ops.toList 0 s a w rfl h hs
    rw [← List.range_eq_range'] at this
    simpa using this
theorem zl2 {acts : List Act} {Q : Exit → Act → World → Prop} {n : SS V.T → Option R} {K : KX V R} {W : Act → World → Prop} (hn : ∀ s a w, n s = some r → SatS V C acts s a w → W a w) (hK : ∀ e s a w, K e s = some r → SatS V C acts s a w → Q e a w) :
    ∀ e s a w, seqK V n K e s = some r → SatS V C acts s a w → Exit.then W Q e a w := by
  intro e s a w h hs
  cases e with
  | normal => exact hn s a w h hs
  | _ => exact hK _ s a w h hs
theorem ztp {acts : List Act} {Q : Exit → Act → World → Prop} {id : Nat} {K : KX V R} (hK : ∀ e s a w, K e s = some r → SatS V C acts s a w → Q e a w) :
    ∀ e s a w, blkK V id K e s = some r → SatS V C acts s a w → Exit.inBlock id Q e a w := by
  intro e s a w h hs
  cases e with
  | exit i =>
    simp only [blkK] at h
    simp only [Exit.inBlock]
    by_cases e : i = id
    · subst e
      rw [Nat.beq_refl] at h
      rw [if_pos rfl]
      exact hK .normal s a w h hs
    · rw [zj8 e] at h
      rw [if_neg e]
      exact hK _ s a w h hs
  | _ => exact hK _ s a w h hs
theorem zz1 {acts : List Act} {Q : Exit → Act → World → Prop} {K : KX V R} (hK : ∀ e s a w, K e s = some r → SatS V C acts s a w → Q e a w) :
    ∀ e s a w, ngK V K e s = some r → SatS V C acts s a w → Exit.noGoto Q e a w := by
  intro e s a w h hs
  cases e with
  | goto l => cases h
  | _ => exact hK _ s a w h hs
theorem zq5 {acts : List Act} {Q : Exit → Act → World → Prop} {o : Operand} {c d : Code} {x y : Option R} {s : SS V.T} {a : Act} {w : World} (h : zxs V s o x y = some r) (hs : SatS V C acts s a w) (hx : x = some r → c.wp N.P Q a w) (hy : y = some r → d.wp N.P Q a w) : (Code.cond o c d).wp N.P Q a w := by
  unfold zxs at h
  split at h
  · rename_i b hb
    obtain ⟨_, _, hkn, hgb, A, ro, S, hl, hw, hev, hsl, hst⟩ := hs
    have he := z2b V N.P (A := A) (z7z hb) trivial a ro w hsl
    simp only [SV.den] at he
    refine wp_cond_split he (fun e => hx ?_) (fun e => hy ?_)
    · subst e; simpa using h
    · subst e; simpa using h
  · cases h
theorem zq3 (hN : z72 V N) {dfl : Inl V R} (hd : ∀ f fn c K, N.P.funcs[f]? = some fn → fn.body = some c → zeo C r (dfl f) c K) : ∀ (c : Code) (K : KX V R), zeo C r (zl5 V N dfl) c K := by
  intro c
  induction c with
  | skip => exact fun K acts Q hK s a w h hs => wp_skip (hK _ s a w h hs)
  | label l => exact fun K acts Q hK s a w h hs => wp_label (hK _ s a w h hs)
  | region id ops d => exact fun K acts Q hK s a w h hs => zuf hN (fun i f fn c h1 h2 => hd f fn c _ h1 h2) hK h hs
  | seq x y hx hy =>
    intro K acts Q hK s a w h hs
    exact wp_seq (hx _ acts _ (zl2 (fun s a w h hs => hy K acts Q hK s a w h hs) hK) s a w h hs)
  | cond o x y hx hy =>
    intro K acts Q hK s a w h hs
    exact zq5 h hs (fun h => hx K acts Q hK s a w h hs) (fun h => hy K acts Q hK s a w h hs)
  | block id c hc =>
    intro K acts Q hK s a w h hs
    exact wp_block (hc _ acts _ (ztp hK) s a w h hs)
  | scope c hc =>
    intro K acts Q hK s a w h hs
    exact wp_scope_straight (hc _ acts _ (zz1 hK) s a w h hs)
  | exit id => exact fun K acts Q hK s a w h hs => wp_exit (hK _ s a w h hs)
  | ret => exact fun K acts Q hK s a w h hs => wp_ret (hK _ s a w h hs)
  | _ => exact fun K acts Q hK s a w h hs => by cases h
theorem z7q (hN : z72 V N) : ∀ (n f : Nat) (c : Code) (K : KX V R), zeo C r (dflN V N n f) c K
  | 0, f, c, K => fun acts Q hK s a w h hs => by cases h
  | n + 1, f, c, K => zq3 hN (fun f fn c K _ _ => z7q hN n f c K) c K
theorem zc5 {α : Type} {x : Option α} {k : α → Option R} (h : znq x k = some r) : ∃ z, x = some z ∧ k z = some r := by
  cases x with
  | none => cases h
  | some z => exact ⟨z, rfl, h⟩
/-- What depends on guards is forgotten. -/
theorem zsr {s : SS V.T} {t : Nat} {x : Ch × SV V.T} (h : lk (clrG V s).sl t = some x) : lk s.sl t = some x ∧ x.1 = [] := by
  have h1 := zb8 (fun k => zoc s.sl k) h
  refine ⟨h1, ?_⟩
  have := (List.mem_filter.1 (zeu h)).2
  simp only [zoc, h1] at this
  obtain ⟨ch, v⟩ := x
  cases ch with
  | nil => rfl
  | cons _ _ => cases this
theorem y1f {acts : List Act} {s : SS V.T} {a : Act} {w : World} (hs : SatS V C acts s a w) : SatS V C acts (clrG V s) a w := by
  obtain ⟨hd, hn, hkn, hgb, A, ro, S, hl, hw, hev, hsl, hst⟩ := hs
  refine ⟨hd, hn, trivial, ⟨fun t g h => by simp [clrG, lk] at h, fun t ch z hz p hp => ?_, fun p hp => by simp [clrG] at hp⟩, A, ro, S, hl, hw, hev, ?_, hst⟩
  · have := (zsr hz).2
    simp only at this
    subst this; cases hp
  · intro t X hX
    simp only [slD] at hX
    cases hz : lk (clrG V s).sl t with
    | none => rw [hz] at hX; cases hX
    | some e =>
      rw [hz] at hX
      obtain ⟨h1, h2⟩ := zsr hz
      obtain ⟨ch, v⟩ := e
      simp only at h2
      subst h2
      refine hsl t X ?_
      simp only [slD, h1]
      exact hX
/-- What is asked of the hints is enough. -/
theorem y4p (hN : z72 V N) (φ : Nat) (h : H V R) : (∀ c K, obl V N φ h none c K → zeo C r (ex V N φ h).run c K) ∧
    (∀ full id ops d K, obl V N φ h (some full) (.region id ops d) K → ∀ i f fn c, N.P.funcs[f]? = some fn → fn.body = some c → zeo C r ((ex V N φ h).inl i f) c (inlK V N fn (zhp V N full ops i K))) := by
  induction h with
  | x => exact ⟨fun c K _ => zq3 hN (fun f fn c K _ _ => z7q hN 8 f c K) c K, fun full id ops d K _ i f fn c _ _ => z7q hN 8 f c _⟩
  | seq h1 h2 i1 i2 =>
    refine ⟨fun c K ho => ?_, fun full id ops d K _ i f fn c _ _ => z7q hN 8 f c _⟩
    cases c with
    | seq x y =>
      intro acts Q hK s a w h hs
      exact wp_seq (i1.1 _ _ ho.1 acts _ (zl2 (fun s a w h hs => i2.1 y K ho.2 acts Q hK s a w h hs) hK) s a w h hs)
    | _ => exact ho.elim
  | cond h1 h2 i1 i2 =>
    refine ⟨fun c K ho => ?_, fun full id ops d K _ i f fn c _ _ => z7q hN 8 f c _⟩
    cases c with
    | cond o x y =>
      intro acts Q hK s a w h hs
      exact zq5 h hs (fun h => i1.1 x K ho.1 acts Q hK s a w h hs) (fun h => i2.1 y K ho.2 acts Q hK s a w h hs)
    | _ => exact ho.elim
  | body h ih =>
    refine ⟨fun c K ho => ?_, fun full id ops d K _ i f fn c _ _ => z7q hN 8 f c _⟩
    cases c with
    | block id c =>
      intro acts Q hK s a w h hs
      exact wp_block (ih.1 c _ ho acts _ (ztp hK) s a w h hs)
    | scope c =>
      intro acts Q hK s a w h hs
      exact wp_scope_straight (ih.1 c _ ho acts _ (zz1 hK) s a w h hs)
    | _ => exact ho.elim
  | loop h L b ih =>
    refine ⟨fun c K ho => ?_, fun full id ops d K _ i f fn c _ _ => z7q hN 8 f c _⟩
    cases c with
    | loop c =>
      obtain ⟨h0, hS, hb⟩ := ho
      intro acts Q hK s a w hr hs
      obtain ⟨z, hz, hL⟩ := zc5 hr
      have key : ∀ n z, L n z = some r → ∀ a w, SatS V C acts (h.enc V z) a w → Code.rounds N.P c Q n a w := by
        intro n
        induction n with
        | zero => intro z hz; rw [h0] at hz; cases hz
        | succ n ihn =>
          intro z hz a w hs
          rw [hS] at hz
          refine (ih (L n)).1 c _ (hb n) acts (Exit.then (Code.rounds N.P c Q n) Q) (zl2 (fun s a w h hs => ?_) hK) _ a w hz hs
          obtain ⟨z', hz', hL'⟩ := zc5 h
          exact ihn z' hL' a w (zqh hs _ z' hz')
      exact wp_loop_rounds φ (key φ z hL a w (zqh hs h z hz))
    | _ => exact ho.elim
  | join h J b ih =>
    refine ⟨fun c K ho => ?_, fun full id ops d K _ i f fn c _ _ => z7q hN 8 f c _⟩
    have ho' : (∀ z, J z = K .normal (h.enc V z)) ∧ obl V N φ b none c (seqK V (fun s => znq (h.dec V s) J) K) := by
      cases c <;> exact ho
    intro acts Q hK s a w hr hs
    refine ih.1 c _ ho'.2 acts Q (fun e s a w hk hs => ?_) s a w hr hs
    cases e with
    | normal =>
      obtain ⟨z, hz, hJ⟩ := zc5 hk
      rw [ho'.1] at hJ
      exact hK _ _ a w hJ (zqh hs h z hz)
    | _ => exact hK _ s a w hk hs
  | ins i f h rest ih1 ih2 =>
    have B : ∀ full id ops d K, obl V N φ (.ins i f h rest) (some full) (.region id ops d) K → ∀ j g fn c, N.P.funcs[g]? = some fn → fn.body = some c → zeo C r ((ex V N φ (.ins i f h rest)).inl j g) c (inlK V N fn (zhp V N full ops j K)) := by
      intro full id ops d K ho j g fn c hf hc
      obtain ⟨ho1, ho2⟩ := ho
      show zeo C r (fun c s K => bif Nat.beq j i && Nat.beq g f then (ex V N φ h).run c s K else (ex V N φ rest).inl j g c s K) c _
      cases he : (Nat.beq j i && Nat.beq g f) with
      | false => exact ih2.2 full id ops d K ho2 j g fn c hf hc
      | true =>
        simp only [Bool.and_eq_true] at he
        have e1 := Nat.eq_of_beq_eq_true he.1
        have e2 := Nat.eq_of_beq_eq_true he.2
        subst e1; subst e2
        rw [hf] at ho1
        simp only [hc] at ho1
        exact ih1.1 c _ ho1
    refine ⟨fun c K ho => ?_, B⟩
    cases c with
    | region id ops d =>
      intro acts Q hK s a w h hs
      exact zuf hN (fun j g fn c hf hc => B _ id ops d K ho j g fn c hf hc) hK h hs
    | _ => exact ho.elim
  | foc p q h ih =>
    refine ⟨fun c K ho => ?_, fun full id ops d K ho => ih.2 full id ops d K ho⟩
    have ho' : obl V N φ h none c K := by cases c <;> exact ho
    intro acts Q hK s a w hr hs
    change (match focP V p q s with
      | some (i, m) => focX V s i m fun s => (ex V N φ h).run c s K
      | none => none) = some r at hr
    split at hr
    · obtain ⟨s', h1, h2⟩ := y0t hr hs
      exact ih.1 c K ho' acts Q hK s' a w h1 h2
    · cases hr
  | unr n h ih =>
    refine ⟨fun c K ho => ?_, fun full id ops d K _ i f fn c _ _ => z7q hN 8 f c _⟩
    cases c with
    | loop c =>
      intro acts Q hK s a w hr hs
      have key : ∀ m s a w, unrX V ((ex V N φ h).run c) m s K = some r → SatS V C acts s a w → Code.rounds N.P c Q m a w := by
        intro m
        induction m with
        | zero => intro s a w hz; cases hz
        | succ m ihm =>
          intro s a w hz hs
          exact ih.1 c _ (ho _) acts (Exit.then (Code.rounds N.P c Q m) Q) (zl2 (fun s a w h hs => ihm s a w h hs) hK) _ a w hz (y1f hs)
      exact wp_loop_rounds n (key n s a w hr hs)
    | _ => exact ho.elim
  | alt h J J2 =>
    refine ⟨fun c K ho => ?_, fun full id ops d K _ i f fn c _ _ => z7q hN 8 f c _⟩
    cases c with
    | region id ops d =>
      obtain ⟨hd, hz, hA⟩ := ho
      simp only [Bool.and_eq_true] at hd
      obtain ⟨rfl, hm⟩ := hd
      intro acts Q hK s a w hr hs
      obtain ⟨z, hz1, hJ⟩ := zc5 hr
      obtain ⟨L, h1, h2⟩ := (hA z).ok r hJ
      rw [hz] at h1
      exact zo1 hN zww (inl := fun _ => Dfl V N R) (fun i f fn c _ _ => z7q hN 8 f c _) hK hm h1 h2 (zqh hs h z hz1)
    | _ => exact ho.elim
  | frz ps h ih =>
    refine ⟨fun c K ho => ?_, fun full id ops d K ho => ih.2 full id ops d K ho⟩
    have ho' : obl V N φ h none c K := by cases c <;> exact ho
    intro acts Q hK s a w hr hs
    exact ih.1 c K ho' acts Q hK _ a w hr (zgh _ hs)
end
end Px
end
section
namespace Px
open Go Go.RowKit
set_option linter.unusedVariables false
set_option linter.unusedSimpArgs false
section
variable {V : TE} {N : Env V}
theorem zoq {P : Program} {A B : Asg} {s : SS V.T} (hl : A.length = s.ob.length) : ∀ (cs : List RC) (l : List (SV V.T)) (y : RTup V.T cs) (n : Nat), decR V s cs l = some y → (∀ k i, (zga V cs l)[k]? = some i → B[n + k]? = some (A.getD i default)) →
    F2 Ent (denV V P A l) (denV V P B (encR V n cs y)) ∧ z91 (obD V P A A s.ob) (zga V cs l) (obD V P B ((zga V cs l).map fun i => A.getD i default) (newR V cs y)) ∧ (newR V cs y).length = (zga V cs l).length
  | [], l, y, n, h, hB => by
    cases l with
    | nil => exact ⟨trivial, trivial, rfl⟩
    | cons x l => exact ze h
  | .val c :: cs, l, y, n, h, hB => by
    cases l with
    | nil => exact ze h
    | cons x l =>
      change (match V.dec (rdSl []) c x, decR V s cs l with
        | some y, some r => some (y, r)
        | _, _ => none) = some y at h
      split at h
      · rename_i y1 r hy hr
        have e := Option.some.inj h
        subst e
        obtain ⟨h1, h2, h3⟩ := zoq hl cs l r n hr hB
        refine ⟨⟨?_, h1⟩, h2, h3⟩
        rw [z6f]
        exact z78 V P hy
      · exact ze h
  | .row E c :: cs, l, y, n, h, hB => by
    cases l with
    | nil => exact ze h
    | cons x l =>
      cases x with
      | own i =>
        cases hr : decR V s cs l with
        | none => simp [decR, hr] at h
        | some r =>
          simp only [decR, hr] at h
          split at h
          · rename_i E' c' z hz
            cases hE : Nat.beq E E' with
            | false => rw [hE] at h; exact ze h
            | true =>
              rw [hE] at h
              have := Nat.eq_of_beq_eq_true hE
              subst this
              simp only [cond_true] at h
              split at h
              · rename_i e
                subst e
                have e := Option.some.inj h
                subst e
                have hlt : i < A.length := by rw [hl]; exact (List.getElem?_eq_some_iff.1 hz).1
                have ha : A[i]? = some (A.getD i default) := by simp [List.getD, List.getElem?_eq_getElem hlt]
                obtain ⟨h1, h2, h3⟩ := zoq hl cs l r (n + 1) hr fun k j hk => by
                  have := hB (k + 1) j (by simpa [zga] using hk)
                  rw [← this]; congr 1; omega
                have hb := hB 0 i rfl
                refine ⟨⟨?_, h1⟩, ⟨⟨_, z00 V P ha hz, EntH.refl⟩, h2⟩, by simp [zga, newR, h3]⟩
                simp only [SV.den]
                rw [ha, show B[n]? = some (A.getD i default) from hb]
                exact Ent.refl
              · exact ze h
          · exact ze h
      | _ => simp [decR] at h
theorem zxf {P : Program} {A B : Asg} : ∀ {l m : List (SV V.T)}, F2 Ent (denV V P A l) (denV V P B m) → Ent ((resV V l).den V P A) ((resV V m).den V P B)
  | [], [], _ => by simp only [resV, SV.den]; exact Ent.refl
  | [x], [y], h => h.1
  | x :: x' :: l, y :: y' :: m, h => by simp only [resV, SV.den]; exact zst h
  | [], _ :: _, h => h.elim
  | _ :: _, [], h => h.elim
  | [_], _ :: _ :: _, h => h.2.elim
  | _ :: _ :: _, [_], h => h.2.elim
theorem zh0 {P : Program} {A : Asg} : ∀ (cs : List Nat) (x : Tup V.T cs), denV V P A (encA V cs x) = vls V cs x
  | [], _ => rfl
  | c :: cs, x => by simp only [encA, denV, vls, z6f, zh0 cs]
theorem zjv : ∀ (cs : List Nat) (x : Tup V.T cs), (encA V cs x).length = cs.length
  | [], _ => rfl
  | c :: cs, x => by simp only [encA, List.length_cons, zjv cs]
theorem zlq {P : Program} {A : Asg} : ∀ (cs : List Nat) (x : Tup V.T cs), denV V P A (encK V cs x) = vlc V cs x
  | [], _ => rfl
  | c :: cs, x => by simp only [encK, denV, vlc, SV.den, z2c, zlq cs]
theorem zq8 : ∀ (cs : List Nat) (x : Tup V.T cs), (encK V cs x).length = cs.length
  | [], _ => rfl
  | c :: cs, x => by simp only [encK, List.length_cons, zq8 cs]
/-- A run from known arguments. -/
theorem zyu (hN : z72 V N) {f φ : Nat} {fn : Func} {rs : List RC} (h : H V (RTup V.T rs)) (hf : N.P.funcs[f]? = some fn) {us : List (SV V.T)} (hle : us.length ≤ fn.ntmps) {r : RTup V.T rs}
    (hr : fnV V N φ fn rs h us = some r) (ho : fnO V N φ fn rs h) : zg4 N.P f (denV V N.P [] us) (Kres V N.P rs r) := by
  unfold fnV at hr
  unfold fnO at ho
  split at hr
  · rename_i c hb
    rw [hb] at ho
    intro r0 w vs hr0 hl hA
    rw [zd5] at hl
    refine calls_of_wp hf hb ((y4p hN (r := r) (C := (⟨w, w.heap.size, r0, w, fn.ntmps⟩ : Cx N.P)) φ h).1 c _ ho [] _ ?_ _ _ _ hr ?_)
    · intro e s a' w' hK hs
      have fin : (match zdy V N s fn.results.toList with
          | some l => match zdy V N (zlv V s (zo9 V rs l)) fn.results.toList with
            | some l' => bif z90 (zga V rs l') then decR V (zlv V s (zo9 V rs l)) rs l' else none
            | none => none
          | none => none) = some r → a'.defers = [] ∧ ∃ v, (results fn a'.tmps).run N.P w' = .ok v w' ∧ retR w w.heap.size r0 w (Kres V N.P rs r) (.returned v) w' := by
        intro hK
        split at hK
        · rename_i l hl1
          split at hK
          · rename_i l' hl2
            cases hnd : z90 (zga V rs l') with
            | false => rw [hnd] at hK; cases hK
            | true =>
              rw [hnd] at hK
              simp only [cond_true] at hK
              obtain ⟨hd', hn', hkn', hgb', A', ro', S', hl', hw', hev', hsl', hst'⟩ := zgh (zo9 V rs l) hs
              obtain ⟨v, hv, hvx⟩ := zj2 hw' hsl' hl2
              obtain ⟨k1, k2, k3⟩ := zoq (P := N.P) (B := (zga V rs l').map fun i => A'.getD i default) hl' rs l' r 0 hK fun k i hk => by
                rw [Nat.zero_add, List.getElem?_map, hk]; rfl
              exact ⟨hd', v, hv, v, _, _, ro', _, rfl, hev', hw'.sel k2 hnd, zxf k1 _ _ _ hvx, _, by rw [k3]; simp, rfl, rfl⟩
          · cases hK
        · cases hK
      cases e with
      | ret => exact fin hK
      | normal => exact fin hK
      | exit id => simp [retK] at hK
      | goto l => simp [retK] at hK
      | panic ch => simp [retK] at hK
      | outgrown => simp [retK] at hK
    · refine ⟨rfl, by simp [hl]; omega, trivial, ⟨fun t g h => by simp [lk] at h, fun t ch z hz p hp => ?_, fun p hp => by simp at hp⟩, [], r0, fun _ _ => False, rfl, ⟨Bel.refl _ _, Nat.le_refl _, fun i H hi => by simp [obD] at hi, fun i b hb => hb.elim, fun i j b hb => hb.elim, hr0⟩, Evo.refl _ _ _, ?_, trivial⟩
      · rw [zdx] at hz
        simp only [Nat.zero_le, if_true, Option.map_eq_some_iff, Prod.mk.injEq] at hz
        obtain ⟨_, _, rfl, _⟩ := hz
        simp at hp
      · intro t X hX
        simp only [slD, zdx, Nat.zero_le, if_true, Nat.sub_zero, Option.map_map, Option.map_eq_some_iff] at hX
        obtain ⟨y, hy, rfl⟩ := hX
        have hlt := (List.getElem?_eq_some_iff.1 hy).1
        have hdv : ∀ (l : List (SV V.T)) (t : Nat), l[t]? = some y → (denV V N.P [] l)[t]? = some (y.den V N.P []) := by
          intro l
          induction l with
          | nil => intro t h; simp at h
          | cons z l ih => intro t h; cases t with
            | zero => simp at h; subst h; rfl
            | succ t => simp at h; simpa [denV] using ih t h
        have := hA t _ (hdv _ t hy)
        have hvt : t < vs.size := hl ▸ hlt
        simpa [denE, Array.getD_eq_getD_getElem?, Array.getElem?_append, hvt] using this
  · cases hr
/-- A function, by its hints. -/
theorem z1v (hN : z72 V N) {f φ : Nat} {fn : Func} {as : List Nat} {rs : List RC} {F : Tup V.T as → Option (RTup V.T rs)} (h : H V (RTup V.T rs)) (hf : N.P.funcs[f]? = some fn) (hn : Nat.ble as.length fn.ntmps = true)
    (hF : ∀ a, F a = fnX V N φ fn as rs h a) (ho : fnO V N φ fn rs h) : z1i V N.P f ⟨as, rs, F⟩ := by
  intro x r hr
  simp only at x r hr
  rw [hF] at hr
  have := zyu hN (us := encA V as x) h hf (by rw [zjv]; exact Nat.le_of_ble_eq_true hn) hr ho
  rwa [zh0] at this
/-- A function value that only reads what it brings along, by its hints. -/
theorem y3e (hN : z72 V N) {f φ : Nat} {fn : Func} {as cs : List Nat} {rs : List RC} {F : Tup V.T as → Tup V.T cs → Option (RTup V.T rs)} (h : H V (RTup V.T rs)) (hf : N.P.funcs[f]? = some fn) (hn : Nat.ble (as.length + cs.length) fn.ntmps = true)
    (hF : ∀ a b, F a b = fnXc V N φ fn as cs rs h a b) (ho : fnO V N φ fn rs h) : zx5 V N.P f ⟨as, cs, rs, F⟩ := by
  intro x y r hr
  simp only at x y r hr
  rw [hF] at hr
  have := zyu hN (us := encA V as x ++ encK V cs y) h hf (by rw [List.length_append, zjv, zq8]; exact Nat.le_of_ble_eq_true hn) hr ho
  rwa [zkc, zh0, zlq] at this
theorem zr0 {α : Type} {Q : Nat → α → Prop} : ∀ {l : List (Nat × α)}, AllP (fun p => Q p.1 p.2) l → ∀ f x, lk l f = some x → Q f x
  | [], _, f, x, h => by cases h
  | (k, y) :: l, hl, f, x, h => by
    rw [z09] at h
    by_cases e : f = k
    · rw [if_pos e] at h; cases h; subst e; exact hl.1
    · rw [if_neg e] at h; exact zr0 hl.2 f x h
/-- The functions that are known, one by one. -/
theorem z03 {P : Program} {l : List (Nat × Fsp V)} {m : List (Nat × Msp V)} {n : List (Nat × Csp V)} (h : AllP (fun p => z1i V P p.1 p.2) l) (hm : AllP (fun p => zvz V P p.1 p.2) m) (hn : AllP (fun p => zx5 V P p.1 p.2) n) : z72 V (⟨P, lk l, lk m, lk n⟩ : Env V) :=
  ⟨fun f sp hf => zr0 hn f sp hf, fun f sp hf => zr0 hm f sp hf, fun f sp hf => zr0 h f sp hf⟩
end
end Px
end
