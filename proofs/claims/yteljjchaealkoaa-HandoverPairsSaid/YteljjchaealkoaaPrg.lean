/- A part of the proof of handoverPairs_holds. Conditions: none. -/
import Derived.Test.YteljjchaealkoaaPrf
section
namespace Px
open Go
set_option linter.unusedVariables false
set_option linter.unusedSimpArgs false
set_option maxHeartbeats 1000000
section
variable {D : z4 → Prop} {lt : z4 → z4 → Bool} {y : z4 → z4 → Option Int}
theorem zgu (hy : Cmp D y lt) (φ : Nat) (k : List z4 → Option (List z4)) (P : List z4) (x : z4) (hx : D x) : ∀ (n : Nat) (S1 S2 : List z4), (∀ z ∈ S1, D z) → P.length + S1.length + S2.length ≤ 1000000 → S1.length < n →
    ∃ A B, S1 = A ++ B ∧ (∀ z ∈ B, lt x z = true) ∧ (A = [] ∨ ∃ A' z, A = A' ++ [z] ∧ lt x z = false) ∧
      z00 φ (P.length : Int) y k n ((P.length : Int) + S1.length) (P ++ S1 ++ x :: S2) = k (P ++ A ++ x :: (B ++ S2)) := by
  intro n
  induction n with
  | zero => intro S1 S2 _ _ h; omega
  | succ n ih =>
    intro S1 S2 hD hl hn
    rcases List.eq_nil_or_concat S1 with rfl | ⟨S, z, rfl⟩
    · refine ⟨[], [], rfl, by simp, .inl rfl, ?_⟩
      have h0 : decide ((P.length : Int) < (P.length : Int) + (([] : List z4).length : Int)) = false := by simp
      rw [z00, h0]
      simp [ck, z3d]
    · simp only [List.concat_eq_append] at hD hl hn ⊢
      simp only [List.length_append, List.length_cons, List.length_nil] at hl hn
      have e1 : P ++ (S ++ [z]) ++ x :: S2 = (P ++ S ++ [z]) ++ x :: S2 := by simp
      have e2 : P ++ (S ++ [z]) ++ x :: S2 = (P ++ S) ++ z :: (x :: S2) := by simp
      have g1 : gt (P ++ (S ++ [z]) ++ x :: S2) ((P.length : Int) + ((S ++ [z]).length : Int)) = x := by
        rw [e1]; exact z5u (by simp <;> omega)
      have hw : W ((P.length : Int) + ((S ++ [z]).length : Int) - 1) = (P.length : Int) + S.length := by
        rw [W_id (by simp; omega) (by simp; omega)]; simp; omega
      have g2 : gt (P ++ (S ++ [z]) ++ x :: S2) ((P.length : Int) + (S.length : Int)) = z := by
        rw [e2]; exact z5u (by simp)
      have h0 : decide ((P.length : Int) < (P.length : Int) + ((S ++ [z]).length : Int)) = true := by simp; omega
      have hlen : ((P ++ (S ++ [z]) ++ x :: S2).length : Int) = P.length + S.length + 1 + 1 + S2.length := by simp; omega
      obtain ⟨w, hw1, hw2⟩ := hy x z hx (hD z (by simp))
      have s1 : z2o (P ++ (S ++ [z]) ++ x :: S2) ((P.length : Int) + ((S ++ [z]).length : Int)) z = (P ++ S) ++ z :: (z :: S2) := by
        rw [e1, z8l (by simp <;> omega)]; simp
      have s2 : z2o ((P ++ S) ++ z :: (z :: S2)) ((P.length : Int) + (S.length : Int)) x = P ++ S ++ x :: (z :: S2) := z8l (by simp)
      rw [z00, hw, h0, g1, g2, hw1, hlen]
      rw [zj (fun _ => ⟨by omega, by simp; omega⟩), zj (fun _ => ⟨by omega, by omega⟩), zfr rfl]
      simp only [Option.bind_some, hw2, Bool.true_and]
      cases hlt : lt x z with
      | true =>
        rw [if_pos rfl, zj ⟨by omega, by omega⟩, zj ⟨by omega, by simp; omega⟩, s1]
        rw [zj ⟨by omega, by simp; omega⟩, s2]
        obtain ⟨A, B, q1, q2, q3, q4⟩ := ih S (z :: S2) (fun u hu => hD u (by simp [hu])) (by simp; omega) (by omega)
        refine ⟨A, B ++ [z], by rw [q1]; simp, ?_, q3, ?_⟩
        · intro u hu
          rcases List.mem_append.1 hu with h | h
          · exact q2 u h
          · simp at h; rw [h]; exact hlt
        · rw [q4]; simp
      | false =>
        rw [if_neg (by simp)]
        exact ⟨S ++ [z], [], by simp, by simp, .inr ⟨S, z, rfl, hlt⟩, by simp⟩
theorem zfy (hs : Swo lt) (hy : Cmp D y lt) (φ : Nat) (P Q : List z4) : ∀ (n : Nat) (S R : List z4), S ≠ [] → Srt lt S → (∀ z ∈ S, D z) → (∀ z ∈ R, D z) → P.length + S.length + R.length + Q.length ≤ 1000000 → P.length + S.length + R.length < φ → R.length < n →
    ∃ S', Srt lt S' ∧ Stb lt (S ++ R) S' ∧ zc φ (P.length : Int) ((P.length : Int) + S.length + R.length) y n ((P.length : Int) + S.length) (P ++ S ++ R ++ Q) = some (P ++ S' ++ Q) := by
  intro n
  induction n with
  | zero => intro S R _ _ _ _ _ _ h; omega
  | succ n ih =>
    intro S R hne hS hD hD' hl hφ hn
    cases R with
    | nil =>
      refine ⟨S, hS, by simpa using Stb.refl S, ?_⟩
      rw [zc, if_neg (by simp)]
      simp
    | cons x R =>
      simp only [List.length_cons] at hl hφ hn
      rw [zc, if_pos (by simp; omega)]
      obtain ⟨A, B, q1, q2, q3, q4⟩ := zgu hy φ (zz φ ((P.length : Int) + S.length) (zc φ (P.length : Int) ((P.length : Int) + S.length + (x :: R).length) y n)) P x (hD' x (by simp)) φ S (R ++ Q) hD (by simp; omega) (by omega)
      rw [show P ++ S ++ x :: R ++ Q = P ++ S ++ x :: (R ++ Q) by simp, q4]
      have hA : ∀ u ∈ A, lt x u = false := by
        rcases q3 with rfl | ⟨A', z, rfl, hz⟩
        · simp
        · intro u hu
          rcases List.mem_append.1 hu with h | h
          · subst q1
            have := (hS.parts.1).parts.2.2 u h z (by simp)
            exact hs.ntr _ _ _ hz this
          · simp at h; rw [h]; exact hz
      have hS2 : Srt lt (A ++ x :: B) := by
        subst q1
        refine hS.parts.1.app (List.pairwise_cons.2 ⟨fun u hu => hs.asym _ _ (q2 u hu), hS.parts.2.1⟩) fun u hu v hv => ?_
        rcases List.mem_cons.1 hv with h | h
        · subst h; exact hA u hu
        · exact hS.parts.2.2 u hu v h
      obtain ⟨S', p1, p2, p3⟩ := ih (A ++ x :: B) R (by simp) hS2 (fun z hz => by
        subst q1
        simp only [List.mem_append, List.mem_cons] at hz
        rcases hz with h | h | h
        · exact hD z (by simp [h])
        · subst h; exact hD' _ (by simp)
        · exact hD z (by simp [h])) (fun z hz => hD' z (by simp [hz])) (by subst q1; simp at hl ⊢; omega) (by subst q1; simp at hφ ⊢; omega) (by omega)
      refine ⟨S', p1, ?_, ?_⟩
      · have h1 : Stb lt (S ++ [x]) (A ++ [x] ++ B) := by subst q1; exact zdq hs q2
        have := h1.app (Stb.refl R)
        refine Stb.trans ?_ (Stb.trans this ?_)
        · simpa using Stb.refl (lt := lt) (S ++ x :: R)
        · simpa using p2
      · rw [← p3]
        unfold zz
        have e1 : W ((P.length : Int) + S.length + 1) = (P.length : Int) + S.length + 1 := W_id (by omega) (by omega)
        have hSl : S.length = A.length + B.length := by rw [q1]; simp
        have e2 : (P.length : Int) + S.length + 1 = P.length + (A ++ x :: B).length := by simp; omega
        have e3 : (P.length : Int) + S.length + (x :: R).length = P.length + (A ++ x :: B).length + R.length := by simp; omega
        have e4 : P ++ A ++ x :: (B ++ (R ++ Q)) = P ++ (A ++ x :: B) ++ R ++ Q := by simp
        rw [e1, e2, e3, e4]
theorem za2 (hs : Swo lt) (hy : Cmp D y lt) (φ : Nat) (P X Q : List z4) (hD : ∀ z ∈ X, D z) (hl : P.length + X.length + Q.length ≤ 1000000) (hφ : P.length + X.length < φ) :
    ∃ X', Srt lt X' ∧ Stb lt X X' ∧ z13 φ (P ++ X ++ Q) (P.length : Int) ((P.length : Int) + X.length) y = some (P ++ X' ++ Q) := by
  unfold z13
  rw [W_id (x := (P.length : Int) + 1) (by omega) (by omega)]
  cases X with
  | nil =>
    refine ⟨[], List.Pairwise.nil, Stb.refl _, ?_⟩
    obtain ⟨n, rfl⟩ : ∃ n, φ = n + 1 := ⟨φ - 1, by omega⟩
    rw [zc, if_neg (by simp; omega)]
  | cons x R =>
    simp only [List.length_cons] at hl hφ
    obtain ⟨S', p1, p2, p3⟩ := zfy hs hy φ P Q φ [x] R (by simp) (List.pairwise_singleton _ _) (fun z hz => hD z (by simp at hz; simp [hz])) (fun z hz => hD z (by simp [hz])) (by simp; omega) (by simp; omega) (by omega)
    refine ⟨S', p1, by simpa using p2, ?_⟩
    rw [← p3]
    simp only [List.append_assoc, List.cons_append, List.length_cons, List.length_nil, List.nil_append]
    congr 1
    simp; omega
end
end Px
end
section
namespace Px
open Go
set_option linter.unusedVariables false
set_option linter.unusedSimpArgs false
set_option maxHeartbeats 4000000
section
variable {D : z4 → Prop} {lt : z4 → z4 → Bool} {y : z4 → z4 → Option Int}
theorem ze8 (hs : Swo lt) (hy : Cmp D y lt) (φ N : Nat) (k : Int → List z4 → Option (List z4)) (hN : N ≤ 900000) (hφ : N < φ) :
    ∀ (n : Nat) (X Y : List z4), (∀ z ∈ Y, D z) → X.length + Y.length = N → Y.length < n →
    ∃ Y1 Y2 Y1', Y = Y1 ++ Y2 ∧ Runs lt 20 (Y1' ++ []) ∧ Y2.length < 20 ∧ Stb lt Y1 Y1' ∧ (∀ T, Runs lt 20 T → Runs lt 20 (Y1' ++ T)) ∧
      z0y φ (N : Int) y k n (X.length : Int) ((X.length : Int) + 20) (X ++ Y) = k ((X.length : Int) + Y1.length) (X ++ Y1' ++ Y2) := by
  intro n
  induction n with
  | zero => intro X Y _ _ h; omega
  | succ n ih =>
    intro X Y hD hl hn
    rw [z0y]
    by_cases h : Y.length < 20
    · refine ⟨[], Y, [], rfl, .last (by simp) List.Pairwise.nil, h, Stb.refl _, fun T hT => hT, ?_⟩
      rw [if_neg (by simp; omega)]
      simp
    · obtain ⟨B, Z, rfl, hB⟩ : ∃ B Z, Y = B ++ Z ∧ B.length = 20 := ⟨Y.take 20, Y.drop 20, (List.take_append_drop _ _).symm, by simp; omega⟩
      simp only [List.length_append] at hl hn h
      rw [if_pos (by simp; omega)]
      obtain ⟨B', b1, b2, b3⟩ := za2 hs hy φ X B Z (fun z hz => hD z (by simp [hz])) (by omega) (by omega)
      rw [hB] at b3
      have e1 : X ++ (B ++ Z) = X ++ B ++ Z := by simp
      have e2 : ((20 : Nat) : Int) = 20 := rfl
      rw [e2] at b3
      rw [e1, b3]
      simp only [Option.bind_some]
      have hB' : B'.length = 20 := by rw [b2.len, hB]
      have w1 : W ((X.length : Int) + 20 + 20) = (X.length : Int) + 20 + 20 := W_id (by omega) (by omega)
      have e3 : (X.length : Int) + 20 = ((X ++ B').length : Nat) := by simp [hB']
      rw [w1]
      obtain ⟨Y1, Y2, Y1', q1, q2, q3, q4, q5, q6⟩ := ih (X ++ B') Z (fun z hz => hD z (by simp [hz])) (by simp; omega) (by omega)
      rw [← e3] at q6
      refine ⟨B ++ Y1, Y2, B' ++ Y1', by rw [q1]; simp, ?_, q3, b2.app q4, fun T hT => ?_, ?_⟩
      · rw [List.append_assoc]; exact .cons hB' b1 q2
      · rw [List.append_assoc]; exact .cons hB' b1 (q5 T hT)
      · rw [q6]
        have e4 : (X.length : Int) + 20 + Y1.length = (X.length : Int) + ((B ++ Y1).length : Nat) := by simp; omega
        rw [e4]
        simp
theorem zim (hs : Swo lt) (hy : Cmp D y lt) (φ N bs : Nat) (k : Int → List z4 → Option (List z4)) (hN : N ≤ 900000) (hφ : 2 * N + 3 < φ) (hb0 : 0 < bs) (hb : bs ≤ 900000) :
    ∀ (n : Nat) (X Y : List z4), (∀ z ∈ Y, D z) → Runs lt bs Y → X.length + Y.length = N → Y.length < n →
    ∃ Y', Runs lt (bs * 2) Y' ∧ Stb lt Y Y' ∧ z1l φ (N : Int) y (bs : Int) (z0v φ (N : Int) y (bs : Int) k) n (X.length : Int) ((X.length : Int) + 2 * bs) (X ++ Y) = k ((bs * 2 : Nat) : Int) (X ++ Y') := by
  intro n
  induction n with
  | zero => intro X Y _ _ _ h; omega
  | succ n ih =>
    intro X Y hD hR hl hn
    have w1 : W ((X.length : Int) + bs) = (X.length : Int) + bs := W_id (by omega) (by omega)
    have w2 : W ((bs : Int) * 2) = ((bs * 2 : Nat) : Int) := by rw [W_id (by omega) (by omega)]; simp
    have w3 : W (2 * (bs : Int)) = 2 * (bs : Int) := W_id (by omega) (by omega)
    have w4 : W ((X.length : Int) + 2 * bs + 2 * bs) = (X.length : Int) + 2 * bs + 2 * bs := W_id (by omega) (by omega)
    rw [z1l, w1, w3, w4]
    by_cases h : 2 * bs ≤ Y.length
    · rw [if_pos (by simp; omega)]
      obtain ⟨B1, r, rfl, h1, s1, hr, hne⟩ := hR.big (by omega)
      simp only [List.length_append] at hl hn h
      obtain ⟨B2, Z, rfl, h2, s2, hZ⟩ : ∃ B2 Z, r = B2 ++ Z ∧ B2.length = bs ∧ Srt lt B2 ∧ Runs lt bs Z := by
        by_cases q : r.length = bs
        · exact ⟨r, [], by simp, q, hr.small (by omega), .last (by simp) List.Pairwise.nil⟩
        · obtain ⟨b, r', e, q1, q2, q3, _⟩ := hr.big (by omega)
          exact ⟨b, r', e, q1, q2, q3⟩
      simp only [List.length_append] at hl hn h
      obtain ⟨R, r1, r2, r3⟩ := zbw hs hy φ X B1 B2 Z (fun z hz => hD z (by simp [hz])) (fun z hz => hD z (by simp [hz])) s1 s2 (by intro e; subst e; simp at h1; omega) (by intro e; subst e; simp at h2; omega) (by omega) (by omega)
      have hRl : R.length = 2 * bs := by rw [r2.len]; simp; omega
      have e1 : X ++ (B1 ++ (B2 ++ Z)) = X ++ B1 ++ B2 ++ Z := by simp
      have e2 : (X.length : Int) + bs = (X.length : Int) + B1.length := by omega
      have e3 : (X.length : Int) + 2 * bs = (X.length : Int) + B1.length + B2.length := by omega
      have e4 : (X.length : Int) + 2 * bs = ((X ++ R).length : Nat) := by simp; omega
      obtain ⟨Y', p1, p2, p3⟩ := ih (X ++ R) Z (fun z hz => hD z (by simp [hz])) hZ (by simp; omega) (by omega)
      refine ⟨R ++ Y', .cons (by omega) r1 p1, ?_, ?_⟩
      · have := r2.app p2
        simpa using this
      · rw [e1]
        conv => lhs; arg 1; rw [e2, e3]
        rw [r3]
        simp only [Option.bind_some]
        rw [e4, p3]
        simp
    · rw [if_neg (by simp; omega)]
      unfold z0v z2b
      rw [w1, w2]
      by_cases q : bs < Y.length
      · rw [if_pos (by simp; omega)]
        obtain ⟨B1, B2, rfl, h1, s1, hr, hne⟩ := hR.big q
        simp only [List.length_append] at hl hn h
        obtain ⟨R, r1, r2, r3⟩ := zbw hs hy φ X B1 B2 [] (fun z hz => hD z (by simp [hz])) (fun z hz => hD z (by simp [hz])) s1 (hr.small (by omega)) (by intro e; subst e; simp at h1; omega) hne (by simp; omega) (by omega)
        have e1 : X ++ (B1 ++ B2) = X ++ B1 ++ B2 ++ [] := by simp
        have e2 : (X.length : Int) + bs = (X.length : Int) + B1.length := by omega
        have e3 : (N : Int) = (X.length : Int) + B1.length + B2.length := by omega
        refine ⟨R, .last (by rw [r2.len]; simp; omega) r1, r2, ?_⟩
        rw [e1, e2, e3, r3]
        simp
      · rw [if_neg (by simp; omega)]
        exact ⟨Y, .last (by omega) (hR.small (by omega)), Stb.refl _, rfl⟩
theorem zgx (hs : Swo lt) (hy : Cmp D y lt) (φ N : Nat) (hN : N ≤ 400000) (hφ : 2 * N + 3 < φ) :
    ∀ (n bs : Nat) (Y : List z4), (∀ z ∈ Y, D z) → Runs lt bs Y → Y.length = N → 0 < bs → bs ≤ 900000 → N - bs < n →
    ∃ Y', Srt lt Y' ∧ Stb lt Y Y' ∧ zf φ (N : Int) y n (bs : Int) Y = some Y' := by
  intro n
  induction n with
  | zero => intro bs Y _ _ _ _ _ h; omega
  | succ n ih =>
    intro bs Y hD hR hl hb0 hb hn
    rw [zf]
    by_cases h : bs < N
    · rw [if_pos (by simp; omega), W_id (x := 2 * (bs : Int)) (by omega) (by omega)]
      obtain ⟨Y', p1, p2, p3⟩ := zim hs hy φ N bs (zf φ (N : Int) y n) (by omega) hφ hb0 hb φ [] Y hD hR (by simpa using hl) (by omega)
      obtain ⟨Y'', q1, q2, q3⟩ := ih (bs * 2) Y' (fun z hz => hD z (p2.mem.1 hz)) p1 (by rw [p2.len, hl]) (by omega) (by omega) (by omega)
      refine ⟨Y'', q1, p2.trans q2, ?_⟩
      rw [← q3]
      simpa using p3
    · rw [if_neg (by simp; omega)]
      exact ⟨Y, hR.small (by omega), Stb.refl _, rfl⟩
/-- The stable sort sorts, and keeps the order of equal elements. -/
theorem zdw (hs : Swo lt) (hy : Cmp D y lt) (φ : Nat) (v : List z4) (hD : ∀ z ∈ v, D z) (hN : v.length ≤ 400000) (hφ : 2 * v.length + 3 < φ) :
    ∃ r, Srt lt r ∧ Stb lt v r ∧ z39 φ v y = some r := by
  unfold z39 z4e
  obtain ⟨Y1, Y2, Y1', q1, q2, q3, q4, q5, q6⟩ := ze8 hs hy φ v.length (z02 φ (v.length : Int) y) (by omega) (by omega) φ [] v hD (by simp) (by omega)
  have q6' : z0y φ (v.length : Int) y (z02 φ (v.length : Int) y) φ 0 20 v = z02 φ (v.length : Int) y (Y1.length : Int) (Y1' ++ Y2) := by simpa using q6
  rw [q6']
  unfold z02
  have hl : v.length = Y1.length + Y2.length := by rw [q1]; simp
  have hl1 : Y1'.length = Y1.length := q4.len
  obtain ⟨Y2', p1, p2, p3⟩ := za2 hs hy φ Y1' Y2 [] (fun z hz => hD z (by rw [q1]; simp [hz])) (by simp; omega) (by omega)
  simp only [List.append_nil] at p3
  have e1 : (Y1.length : Int) = Y1'.length := by omega
  have e2 : (v.length : Int) = (Y1'.length : Int) + Y2.length := by omega
  have p3' : z13 φ (Y1' ++ Y2) (Y1.length : Int) (v.length : Int) y = some (Y1' ++ Y2') := by rw [e1, e2]; exact p3
  have hst : Stb lt v (Y1' ++ Y2') := by rw [q1]; exact q4.app p2
  obtain ⟨r, r1, r2, r3⟩ := zgx hs hy φ v.length hN hφ φ 20 (Y1' ++ Y2') (fun z hz => hD z (hst.mem.1 hz)) (q5 _ (.last (by rw [p2.len]; omega) p1)) hst.len (by omega) (by omega) (by omega)
  refine ⟨r, r1, hst.trans r2, ?_⟩
  rw [p3']
  simp only [Option.bind_some]
  have r3' : zf φ (v.length : Int) y φ 20 (Y1' ++ Y2') = some r := r3
  rw [r3']
  rfl
end
end Px
end
section
namespace Px
open Go
set_option linter.unusedVariables false
set_option linter.unusedSimpArgs false
/-- What is known of the pairs: each is a delivery and a receipt that fit; no receipt, no delivery twice; used tells the receipts. -/
structure PInv (p : Pool) (l : List zo) (rs done : List Int) (st : List (Int × Bool) × List (Nat → Int)) : Prop where
  pr : ∀ x ∈ st.2, ∃ d k, x = ofL [d, k] ∧ d ∈ done ∧ k ∈ rs ∧ zef p (gt l d) = true ∧ zhl l [] d k = false
  used : ∀ k, (mget st.1 k).getD false = true ↔ ∃ x ∈ st.2, x 1 = k
  nd : (st.2.map fun x => x 1).Nodup
  sub : (st.2.map fun x => x 0).Sublist done
theorem zhx {κ ν : Type} [BEq κ] [LawfulBEq κ] (m : List (κ × ν)) (k j : κ) (v : ν) : mget (mset m k v) j = if j == k then some v else mget m j := by
  induction m with
  | nil => simp [mset, mget]
  | cons a m ih =>
    obtain ⟨a, b⟩ := a
    simp only [mset]
    cases h : (k == a) with
    | true =>
      have := eq_of_beq h; subst this
      simp only [cond_true, mget]
      cases j == k <;> simp
    | false =>
      simp only [cond_false, mget, ih]
      cases h2 : (j == a) with
      | false => simp
      | true =>
        have := eq_of_beq h2; subst this
        have : (j == k) = false := by
          cases e : (j == k) with
          | false => rfl
          | true => rw [eq_of_beq e] at h; simp at h
        simp [this]
theorem zot {l : List zo} {used : List (Int × Bool)} {i k : Int} (h : zhl l used i k = false) : zhl l [] i k = false ∧ (mget used k).getD false = false := by
  simp only [zhl, unf5, zcl] at h ⊢
  exact ⟨⟨⟨⟨⟨⟨rfl, h.1.1.1.1.2⟩, h.1.1.1.2⟩, h.1.1.2⟩, h.1.2⟩, h.2⟩, h.1.1.1.1.1⟩
theorem zmj (l : List zo) (used : List (Int × Bool)) (i : Int) : ∀ (rs : List Int) (b : Int), (0 ≤ rs.foldl (zdj l used i) b) → (rs.foldl (zdj l used i) b = b ∨ rs.foldl (zdj l used i) b ∈ rs ∧ zhl l used i (rs.foldl (zdj l used i) b) = false) := by
  intro rs
  induction rs with
  | nil => intro b _; exact .inl rfl
  | cons k rs ih =>
    intro b h
    simp only [List.foldl_cons] at h ⊢
    rcases ih _ h with e | ⟨e1, e2⟩
    · rw [e]
      unfold zdj
      split
      · exact .inl rfl
      · rename_i hu
        split
        · exact .inl rfl
        · exact .inr ⟨List.mem_cons_self, by simpa using hu⟩
    · exact .inr ⟨List.mem_cons_of_mem _ e1, e2⟩
theorem zpr {p : Pool} {l : List zo} {rs done : List Int} {st : List (Int × Bool) × List (Nat → Int)} (h : PInv p l rs done st) (d : Int) : PInv p l rs (done ++ [d]) (zi8 p l rs st d) := by
  have keep : PInv p l rs (done ++ [d]) st := ⟨fun x hx => by
      obtain ⟨a, k, h1, h2, h3⟩ := h.pr x hx
      exact ⟨a, k, h1, by simp [h2], h3⟩, h.used, h.nd, h.sub.trans (List.sublist_append_left _ _)⟩
  unfold zi8
  split
  · exact keep
  · rename_i hp
    split
    · rename_i hb
      rcases zmj l st.1 d rs (-1) hb with e | ⟨e1, e2⟩
      · have : zc9 l st.1 d rs = -1 := e
        omega
      · have hm : zc9 l st.1 d rs ∈ rs := e1
        obtain ⟨u1, u2⟩ := zot (show zhl l st.1 d (zc9 l st.1 d rs) = false from e2)
        generalize zc9 l st.1 d rs = b at *
        refine ⟨fun x hx => ?_, fun k => ?_, ?_, ?_⟩
        · rcases List.mem_append.1 hx with hx | hx
          · exact keep.pr x hx
          · simp at hx; subst hx
            exact ⟨d, b, rfl, by simp, hm, by simpa using hp, u1⟩
        · simp only [zhx]
          by_cases q : k = b
          · subst q; simp; right; rfl
          · rw [if_neg (by simp [q]), h.used k]
            constructor
            · rintro ⟨x, hx, e⟩; exact ⟨x, by simp [hx], e⟩
            · rintro ⟨x, hx, e⟩
              rcases List.mem_append.1 hx with hx | hx
              · exact ⟨x, hx, e⟩
              · simp at hx; subst hx; exact absurd e.symm q
        · simp only [List.map_append, List.map_cons, List.map_nil]
          rw [List.nodup_append]
          refine ⟨h.nd, by simp, fun a ha c hc => ?_⟩
          simp at hc
          obtain ⟨x, hx, e⟩ := List.mem_map.1 ha
          intro e'
          have : (mget st.1 b).getD false = true := (h.used b).2 ⟨x, hx, by rw [e, e', hc]; rfl⟩
          rw [u2] at this; cases this
        · simp only [List.map_append, List.map_cons, List.map_nil]
          exact h.sub.append (List.Sublist.refl _)
    · exact keep
theorem zl6 {p : Pool} {l : List zo} {rs : List Int} : ∀ (ds done : List Int) (st : List (Int × Bool) × List (Nat → Int)), PInv p l rs done st → PInv p l rs (done ++ ds) (ds.foldl (zi8 p l rs) st)
  | [], done, st, h => by simpa using h
  | d :: ds, done, st, h => by
    have := zl6 ds (done ++ [d]) _ (zpr h d)
    simpa using this
theorem pinv (p : Pool) (l : List zo) (rs ds : List Int) : PInv p l rs ds (ds.foldl (zi8 p l rs) ([], [])) := by
  have := zl6 (p := p) (l := l) (rs := rs) ds [] ([], []) ⟨by simp, by simp [mget], by simp, by simp⟩
  simpa using this
end Px
end
section
namespace Px
open Go
set_option linter.unusedVariables false
set_option linter.unusedSimpArgs false
def mkH (l : List zo) (x : Nat → Int) : z4 :=
  z4.mk (gt l (x 0)).fItem.fWagon (gt l (x 0)).fItem.fPlace (gt l (x 0)).fRef.fRailway (gt l (x 1)).fRef.fRailway (W ((W (((gt l (x 0)).fItem.fFrom) + ((gt l (x 1)).fItem.fFrom))).tdiv 2)) (max2 ((gt l (x 0)).fItem.fCode) ((gt l (x 1)).fItem.fCode)) (gt l (x 0)).fRef (gt l (x 1)).fRef
theorem zoa (φ : Nat) (l : List zo) (ps : List (Nat → Int)) (hl : ps.length ≤ 100000) (hp : ∀ x ∈ ps, (0 ≤ x 0 ∧ x 0 < (l.length : Int)) ∧ 0 ≤ x 1 ∧ x 1 < (l.length : Int)) (hφ : ps.length < φ) (k : List z4 → Option (List z4)) :
    z30 φ l ps k φ 0 [] = k (ps.map (mkH l)) := by
  refine z56 (z30 φ l ps k) ps.length (fun j s => s = (ps.take j).map (mkH l)) (fun o => o = k (ps.map (mkH l))) ?_ ?_ φ [] (by simp) hφ
  · intro n j s hj hs hk
    obtain ⟨h0, h1⟩ := hp _ (z9h (l := ps) (i := (j : Int)) (by omega) (by omega))
    have hsl : s.length ≤ j := by rw [hs]; simp; omega
    have w : W ((j : Int) + 1) = (j : Int) + 1 := W_id (by omega) (by omega)
    rw [z30, if_pos (by simp; omega), zj ⟨by omega, by omega⟩, zj h0, zj h1]
    unfold z7h
    rw [zj (zb7 (by simp; omega) (by omega)), w]
    refine hk _ ?_
    rw [zay ps j hj, List.map_append, ← hs]
    rfl
  · intro n s hs
    rw [List.take_length] at hs
    rw [z30, if_neg (by simp), hs]
theorem zmw {p : Pool} {l : List zo} {rs ds : List Int} (hr : ∀ z ∈ rs, 0 ≤ z ∧ z < (l.length : Int)) (hd : ∀ z ∈ ds, 0 ≤ z ∧ z < (l.length : Int)) :
    ∀ x ∈ ze9 p l rs ds, (0 ≤ x 0 ∧ x 0 < (l.length : Int)) ∧ 0 ≤ x 1 ∧ x 1 < (l.length : Int) := by
  intro x hx
  obtain ⟨d, k, rfl, h1, h2, _⟩ := (pinv p l rs ds).pr x hx
  exact ⟨hd d h1, hr k h2⟩
theorem zp8 (p : Pool) (l : List zo) (rs ds : List Int) : (ze9 p l rs ds).length ≤ ds.length := by
  have := (pinv p l rs ds).sub.length_le
  simpa [ze9] using this
end Px
end
section
namespace Px
open Go
set_option linter.unusedVariables false
set_option linter.unusedSimpArgs false
def insS {α : Type} (lt : α → α → Bool) (x : α) : List α → List α
  | [] => [x]
  | y :: l => bif lt x y then x :: y :: l else y :: insS lt x l
def zg3 {α : Type} (lt : α → α → Bool) (l : List α) : List α := l.foldl (fun a x => insS lt x a) []
section
variable {α : Type} {lt : α → α → Bool}
theorem zg0 (hs : Swo lt) (x : α) : ∀ (l : List α), Srt lt l → ∃ A B, l = A ++ B ∧ insS lt x l = A ++ [x] ++ B ∧ (∀ y ∈ A, lt x y = false) ∧ ∀ y ∈ B, lt x y = true
  | [], _ => ⟨[], [], rfl, rfl, by simp, by simp⟩
  | y :: l, h => by
    have h' := List.pairwise_cons.1 h
    unfold insS
    cases e : lt x y with
    | true =>
      refine ⟨[], y :: l, rfl, rfl, by simp, fun z hz => ?_⟩
      rcases List.mem_cons.1 hz with rfl | hz
      · exact e
      · cases e2 : lt x z with
        | true => rfl
        | false =>
          have := hs.ntr _ _ _ e2 (h'.1 z hz)
          rw [e] at this; cases this
    | false =>
      obtain ⟨A, B, h1, h2, h3, h4⟩ := zg0 hs x l h'.2
      refine ⟨y :: A, B, by rw [h1]; rfl, by simp [h2], fun z hz => ?_, h4⟩
      rcases List.mem_cons.1 hz with rfl | hz
      · exact e
      · exact h3 z hz
theorem zqy (hs : Swo lt) (x : α) {l : List α} (h : Srt lt l) : Srt lt (insS lt x l) := by
  obtain ⟨A, B, h1, h2, h3, h4⟩ := zg0 hs x l h
  rw [h2]; rw [h1] at h
  obtain ⟨a, b, c⟩ := h.parts
  refine Srt.app (Srt.app a (List.pairwise_singleton _ _) fun z hz y hy => ?_) b fun z hz y hy => ?_
  · simp at hy; subst hy; exact h3 z hz
  · rcases List.mem_append.1 hz with hz | hz
    · exact c z hz y hy
    · simp at hz; subst hz; exact hs.asym _ _ (h4 y hy)
theorem zrf (hs : Swo lt) (x : α) {l : List α} (h : Srt lt l) : Stb lt (l ++ [x]) (insS lt x l) := by
  obtain ⟨A, B, h1, h2, h3, h4⟩ := zg0 hs x l h
  rw [h2, h1]; exact zdq hs h4
theorem zjh (l : List α) (x : α) : zg3 lt (l ++ [x]) = insS lt x (zg3 lt l) := by
  simp [zg3, List.foldl_append]
theorem zmz {P : List α → Prop} (h0 : P []) (h1 : ∀ l x, P l → P (l ++ [x])) (l : List α) : P l := by
  have : ∀ r : List α, P r.reverse := by
    intro r
    induction r with
    | nil => exact h0
    | cons x r ih => rw [List.reverse_cons]; exact h1 _ _ ih
  have h := this l.reverse
  rwa [List.reverse_reverse] at h
theorem z9r (hs : Swo lt) (l : List α) : Srt lt (zg3 lt l) ∧ Stb lt l (zg3 lt l) := by
  induction l using zmz with
  | h0 => exact ⟨List.Pairwise.nil, Stb.refl _⟩
  | h1 l x ih =>
    rw [zjh]
    exact ⟨zqy hs x ih.1, (ih.2.app (Stb.refl [x])).trans (zrf hs x ih.1)⟩
theorem zkm (hs : Swo lt) {l r : List α} (h1 : Srt lt r) (h2 : Stb lt l r) : r = zg3 lt l :=
  Srt.unique hs h1 (z9r hs l).1 ⟨(z9r hs l).2.1.trans h2.1.symm, fun a => ((z9r hs l).2.2 a).trans (h2.2 a).symm⟩
theorem zhe (hs : Swo lt) (l : List α) : (zg3 lt l).length = l.length := (z9r hs l).2.len
end
theorem znc {α : Type} {lt : α → α → Bool} {x y : α} : ∀ {l : List α}, y ∈ insS lt x l → y = x ∨ y ∈ l
  | [], h => by simp [insS] at h; exact .inl h
  | z :: l, h => by
    unfold insS at h
    cases e : lt x z with
    | true => rw [e] at h; simpa using h
    | false =>
      rw [e] at h
      rcases List.mem_cons.1 h with h | h
      · exact .inr (by simp [h])
      · rcases znc h with h | h
        · exact .inl h
        · exact .inr (by simp [h])
theorem zhk {α : Type} {lt : α → α → Bool} {y : α} (l : List α) : y ∈ zg3 lt l → y ∈ l := by
  induction l using zmz with
  | h0 => exact id
  | h1 l x ih =>
    rw [zjh]
    intro h
    rcases znc h with h | h
    · simp [h]
    · simp [ih h]
/-- A list that is an exchange of pictures is a picture of an exchange. -/
theorem zrb {α β : Type} (f : β → α) {l : List β} : ∀ {r : List α}, r.Perm (l.map f) → ∃ q : List β, q.Perm l ∧ r = q.map f := by
  intro r h
  generalize hm : l.map f = m at h
  induction h generalizing l with
  | nil => exact ⟨[], by rw [List.map_eq_nil_iff.1 hm], rfl⟩
  | cons x h ih =>
    cases l with
    | nil => cases hm
    | cons y l =>
      simp only [List.map_cons, List.cons.injEq] at hm
      obtain ⟨q, h1, h2⟩ := ih hm.2
      exact ⟨y :: q, h1.cons _, by simp [h2, hm.1]⟩
  | swap x y m =>
    match l, hm with
    | a :: b :: l, hm =>
      simp only [List.map_cons, List.cons.injEq] at hm
      exact ⟨b :: a :: l, .swap _ _ _, by simp [hm]⟩
  | trans h1 h2 ih1 ih2 =>
    obtain ⟨q, p1, p2⟩ := ih2 hm
    obtain ⟨q', p1', p2'⟩ := ih1 p2.symm
    exact ⟨q', p1'.trans p1, p2'⟩
end Px
end
section
namespace Px
open Go
set_option linter.unusedVariables false
set_option linter.unusedSimpArgs false
theorem za7 {c : Int} (h : 0 ≤ c) (h' : c < 18446744073709551616) : (BitVec.ofInt 64 c).toNat = c.toNat := by
  rw [BitVec.toNat_ofInt]; omega
theorem zu6 {n : Nat} (h : n < 18446744073709551616) : U (n : Int) = n := U_id (by omega) (by omega)
theorem zsj {a b : Nat} (h : a < 18446744073709551616) : a &&& b < 18446744073709551616 := Nat.lt_of_le_of_lt Nat.and_le_left h
theorem zr0 {k : Nat} (h : k ≤ 63) : (2 ^ k : Nat) < 18446744073709551616 := Nat.lt_of_lt_of_le (Nat.pow_lt_pow_right (by decide) (by omega : k < 64)) (by decide)
theorem zux {c k : Int} (h : 0 ≤ c) (hk : 0 ≤ k) (hk' : k ≤ 63) : c.fdiv (2 ^ (min (k : Int).toNat (IntKind.bits .u64))) = ((c.toNat / 2 ^ k.toNat : Nat) : Int) := by
  have e : min (k : Int).toNat (IntKind.bits .u64) = k.toNat := by simp [IntKind.bits]; omega
  rw [e]
  have e2 : ((2 : Int) ^ k.toNat) = ((2 ^ k.toNat : Nat) : Int) := by simp
  rw [e2, Int.fdiv_eq_ediv_of_nonneg _ (Int.natCast_nonneg _)]
  have : c = (c.toNat : Int) := by omega
  rw [this]; simp
end Px
end
section
namespace Px
open Go
set_option linter.unusedVariables false
set_option linter.unusedSimpArgs false
set_option maxRecDepth 100000
theorem zob : ((List.range 256).all fun i => decide (0 ≤ zca ze1 i ∧ zca ze1 i ≤ 8 ∧ i < 2 ^ (zca ze1 i).toNat ∧ (0 < i → 0 < zca ze1 i ∧ 2 ^ ((zca ze1 i).toNat - 1) ≤ i))) = true := by decide +kernel
theorem zoz {i : Int} (h : 0 ≤ i) (h' : i < 256) : ∃ n : Nat, zca ze1 i = n ∧ n ≤ 8 ∧ i.toNat < 2 ^ n ∧ (0 < i → 0 < n ∧ 2 ^ (n - 1) ≤ i.toNat) := by
  have := List.all_eq_true.1 zob i.toNat (by simp; omega)
  rw [decide_eq_true_eq, show ((i.toNat : Nat) : Int) = i by omega] at this
  obtain ⟨a, b, c, d⟩ := this
  exact ⟨(zca ze1 i).toNat, by omega, by omega, c, fun hi => ⟨by have := (d (by omega)).1; omega, (d (by omega)).2⟩⟩
/-- How many bits. -/
def ziu (v : Nat) (n : Nat) : Prop := v < 2 ^ n ∧ (0 < v → 0 < n ∧ 2 ^ (n - 1) ≤ v)
theorem ziu.up {v : Nat} (k : Nat) {n : Nat} (h : ziu (v / 2 ^ k) n) (hv : 2 ^ k ≤ v) : ziu v (n + k) := by
  have hp := Nat.two_pow_pos k
  have hpos : 0 < v / 2 ^ k := Nat.div_pos hv hp
  obtain ⟨h1, h2⟩ := h
  obtain ⟨h3, h4⟩ := h2 hpos
  refine ⟨?_, fun _ => ⟨by omega, ?_⟩⟩
  · rw [Nat.pow_add]; exact (Nat.div_lt_iff_lt_mul hp).1 h1
  · have : n + k - 1 = (n - 1) + k := by omega
    rw [this, Nat.pow_add]; exact (Nat.le_div_iff_mul_le hp).1 h4
theorem zqb (φ : Nat) (v w : Int) (h : 0 ≤ v) (h' : v < 256) (hw : 0 ≤ w) (hw' : w ≤ 64) : ∃ n : Nat, z7v φ v w = some (w + n) ∧ n ≤ 8 ∧ ziu v.toNat n := by
  obtain ⟨n, e, hn, a, b⟩ := zoz h h'
  have e8 : IntKind.wrap .u8 v = v := by simp [IntKind.wrap, IntKind.bits, IntKind.signed]; omega
  refine ⟨n, ?_, hn, a, fun hv => b (by omega)⟩
  unfold z7v
  rw [e8, zj ⟨h, h'⟩, e, W_id (x := (n : Int)) (by omega) (by omega), W_id (by omega) (by omega)]
theorem zs0 (φ : Nat) (v w : Int) (h : 0 ≤ v) (h' : v < 65536) (hw : 0 ≤ w) (hw' : w ≤ 48) : ∃ n : Nat, z8c φ v w = some (w + n) ∧ n ≤ 16 ∧ ziu v.toNat n := by
  unfold z8c
  by_cases c : 256 ≤ v
  · rw [if_pos (by simpa using c), Int.fdiv_eq_ediv_of_nonneg _ (by omega), W_id (by omega) (by omega)]
    obtain ⟨n, e, hn, hl⟩ := zqb φ (v / 256) (w + 8) (by omega) (by omega) (by omega) (by omega)
    refine ⟨n + 8, by rw [e]; congr 1; omega, by omega, ?_⟩
    refine ziu.up 8 ?_ (by omega)
    rwa [show v.toNat / 2 ^ 8 = (v / 256).toNat by omega]
  · rw [if_neg (by simpa using c)]
    obtain ⟨n, e, hn, hl⟩ := zqb φ v w h (by omega) (by omega) (by omega)
    exact ⟨n, e, by omega, hl⟩
theorem zrz (φ : Nat) (v w : Int) (h : 0 ≤ v) (h' : v < 4294967296) (hw : 0 ≤ w) (hw' : w ≤ 32) : ∃ n : Nat, z8d φ v w = some (w + n) ∧ n ≤ 32 ∧ ziu v.toNat n := by
  unfold z8d
  by_cases c : 65536 ≤ v
  · rw [if_pos (by simpa using c), Int.fdiv_eq_ediv_of_nonneg _ (by omega), W_id (by omega) (by omega)]
    obtain ⟨n, e, hn, hl⟩ := zs0 φ (v / 65536) (w + 16) (by omega) (by omega) (by omega) (by omega)
    refine ⟨n + 16, by rw [e]; congr 1; omega, by omega, ?_⟩
    refine ziu.up 16 ?_ (by omega)
    rwa [show v.toNat / 2 ^ 16 = (v / 65536).toNat by omega]
  · rw [if_neg (by simpa using c)]
    obtain ⟨n, e, hn, hl⟩ := zs0 φ v w h (by omega) (by omega) (by omega)
    exact ⟨n, e, by omega, hl⟩
theorem zns (φ : Nat) (v : Int) (h : 0 ≤ v) (h' : v < 18446744073709551616) : ∃ n : Nat, zac φ v = some (n : Int) ∧ n ≤ 64 ∧ ziu v.toNat n := by
  unfold zac
  by_cases c : 4294967296 ≤ v
  · rw [if_pos (by simpa using c), Int.fdiv_eq_ediv_of_nonneg _ (by omega)]
    obtain ⟨n, e, hn, hl⟩ := zrz φ (v / 4294967296) 32 (by omega) (by omega) (by omega) (by omega)
    refine ⟨n + 32, by rw [e]; congr 1; omega, by omega, ?_⟩
    refine ziu.up 32 ?_ (by omega)
    rwa [show v.toNat / 2 ^ 32 = (v / 4294967296).toNat by omega]
  · rw [if_neg (by simpa using c)]
    obtain ⟨n, e, hn, hl⟩ := zrz φ v 0 h (by omega) (by omega) (by omega)
    exact ⟨n, by rw [e]; simp, by omega, hl⟩
theorem zhq {v : Int} (h : 0 ≤ v) (h' : v < 18446744073709551616) : U ((BitVec.ofInt (IntKind.bits .u64) v &&& BitVec.ofInt (IntKind.bits .u64) 4294967295).toNat) = v % 4294967296 := by
  show U ((BitVec.ofInt 64 v &&& BitVec.ofInt 64 4294967295).toNat : Int) = _
  rw [BitVec.toNat_and, za7 h h', za7 (by omega) (by omega), zu6 (zsj (by omega))]
  have : (4294967295 : Int).toNat = 2 ^ 32 - 1 := by decide
  rw [this, Nat.and_two_pow_sub_one_eq_mod]
  omega
theorem zga {a b m n : Int} (ha : 0 ≤ a) (hb : 0 ≤ b) (h : a ≤ m) (h' : b ≤ n) : 0 ≤ a * b ∧ a * b ≤ m * n :=
  ⟨Int.mul_nonneg ha hb, Int.mul_le_mul h h' hb (by omega)⟩
theorem zni (φ : Nat) (x y : Int) (hx : 0 ≤ x) (hx' : x < 18446744073709551616) (hy : 0 ≤ y) (hy' : y < 18446744073709551616) :
    za9 φ x y = some (x * y / 18446744073709551616, x * y % 18446744073709551616) := by
  unfold za9
  rw [zhq hx hx', zhq hy hy', Int.fdiv_eq_ediv_of_nonneg _ (by omega), Int.fdiv_eq_ediv_of_nonneg _ (by omega)]
  have ex : x = x / 4294967296 * 4294967296 + x % 4294967296 := by omega
  have ey : y = y / 4294967296 * 4294967296 + y % 4294967296 := by omega
  have a1 : 0 ≤ x / 4294967296 ∧ x / 4294967296 ≤ 4294967295 := by omega
  have a0 : 0 ≤ x % 4294967296 ∧ x % 4294967296 ≤ 4294967295 := by omega
  have b1 : 0 ≤ y / 4294967296 ∧ y / 4294967296 ≤ 4294967295 := by omega
  have b0 : 0 ≤ y % 4294967296 ∧ y % 4294967296 ≤ 4294967295 := by omega
  have hxy : x * y = (x / 4294967296) * (y / 4294967296) * 18446744073709551616 + ((x / 4294967296) * (y % 4294967296) + (x % 4294967296) * (y / 4294967296)) * 4294967296 + (x % 4294967296) * (y % 4294967296) := by
    conv => lhs; rw [ex, ey]
    generalize x / 4294967296 = a; generalize x % 4294967296 = b; generalize y / 4294967296 = c; generalize y % 4294967296 = d
    rw [Int.add_mul, Int.mul_add, Int.mul_add, Int.add_mul]
    have e1 : a * 4294967296 * (c * 4294967296) = a * c * 18446744073709551616 := by
      rw [Int.mul_assoc, Int.mul_left_comm 4294967296 c, ← Int.mul_assoc]; rfl
    have e2 : a * 4294967296 * d = a * d * 4294967296 := by rw [Int.mul_right_comm]
    have e3 : b * (c * 4294967296) = b * c * 4294967296 := by rw [Int.mul_assoc]
    rw [e1, e2, e3]; omega
  have p11 := zga a1.1 b1.1 a1.2 b1.2
  have p10 := zga a1.1 b0.1 a1.2 b0.2
  have p01 := zga a0.1 b1.1 a0.2 b1.2
  have p00 := zga a0.1 b0.1 a0.2 b0.2
  rw [zpf (x * y), hxy]
  generalize (x / 4294967296) * (y / 4294967296) = p at *; generalize (x / 4294967296) * (y % 4294967296) = q at *
  generalize (x % 4294967296) * (y / 4294967296) = r at *; generalize (x % 4294967296) * (y % 4294967296) = s at *
  clear hxy ex ey a1 a0 b1 b0
  rw [U_id (x := p) (by omega) (by omega), U_id (x := q) (by omega) (by omega), U_id (x := r) (by omega) (by omega), U_id (x := s) (by omega) (by omega)]
  rw [Int.fdiv_eq_ediv_of_nonneg s (by omega), U_id (x := q + s / 4294967296) (by omega) (by omega), zhq (by omega) (by omega), Int.fdiv_eq_ediv_of_nonneg (q + s / 4294967296) (by omega),
    U_id (x := (q + s / 4294967296) % 4294967296 + r) (by omega) (by omega), Int.fdiv_eq_ediv_of_nonneg ((q + s / 4294967296) % 4294967296 + r) (by omega),
    U_id (x := p + (q + s / 4294967296) / 4294967296) (by omega) (by omega), U_id (by omega) (by omega)]
  congr 2
  omega
/-- One zv5 of the quotient: what the two loops find. -/
theorem zv5 {yn1 yn0 u d q r : Int} (h1 : 2147483648 ≤ yn1) (h1' : yn1 < 4294967296) (h0 : 0 ≤ yn0) (h0' : yn0 < 4294967296) (hd : 0 ≤ d) (hd' : d < 4294967296) (hu : 0 ≤ u)
    (hu' : u < yn1 * 4294967296 + yn0) (hqr : q * yn1 + r = u) (hr : 0 ≤ r) (hr' : r < 4294967296) (hq : (u * 4294967296 + d) / (yn1 * 4294967296 + yn0) ≤ q) :
    0 ≤ q ∧ q ≤ 4294967297 ∧ 0 ≤ (u * 4294967296 + d) / (yn1 * 4294967296 + yn0) ∧ (u * 4294967296 + d) / (yn1 * 4294967296 + yn0) < 4294967296 ∧
    (4294967296 ≤ q ∨ 4294967296 * r + d < q * yn0 → (u * 4294967296 + d) / (yn1 * 4294967296 + yn0) ≤ q - 1) ∧
    (¬ (4294967296 ≤ q ∨ 4294967296 * r + d < q * yn0) → q = (u * 4294967296 + d) / (yn1 * 4294967296 + yn0)) ∧
    (4294967296 ≤ q ∨ 4294967296 * r + d < q * yn0 → 4294967296 ≤ r + yn1 → q - 1 = (u * 4294967296 + d) / (yn1 * 4294967296 + yn0)) := by
  have hY : 0 < yn1 * 4294967296 + yn0 := by omega
  have hQ0 : 0 ≤ (u * 4294967296 + d) / (yn1 * 4294967296 + yn0) := Int.ediv_nonneg (by omega) (by omega)
  have hQ1 : (u * 4294967296 + d) / (yn1 * 4294967296 + yn0) < 4294967296 := Int.ediv_lt_of_lt_mul hY (by omega)
  have hq0 : 0 ≤ q := by omega
  have key : q * (yn1 * 4294967296 + yn0) = (u - r) * 4294967296 + q * yn0 := by
    rw [Int.mul_add, ← Int.mul_assoc, ← hqr]; omega
  have hq2 : q ≤ 4294967297 := by
    rcases Int.lt_or_le 4294967297 q with h | h
    · have : 4294967298 * yn1 ≤ q * yn1 := Int.mul_le_mul_of_nonneg_right (by omega) (by omega)
      omega
    · exact h
  have lt_of : ∀ {z : Int}, (u * 4294967296 + d) / (yn1 * 4294967296 + yn0) < z ↔ u * 4294967296 + d < z * (yn1 * 4294967296 + yn0) := fun {z} => Int.ediv_lt_iff_lt_mul hY
  refine ⟨hq0, hq2, hQ0, hQ1, fun h => ?_, fun h => ?_, fun h hr2 => ?_⟩
  · have : (u * 4294967296 + d) / (yn1 * 4294967296 + yn0) < q := by
      rcases h with h | h
      · omega
      · rw [lt_of, key]; omega
    omega
  · have : ¬ (u * 4294967296 + d) / (yn1 * 4294967296 + yn0) < q := by rw [lt_of, key]; omega
    omega
  · have hq1 : (u * 4294967296 + d) / (yn1 * 4294967296 + yn0) < q := by
      rcases h with h | h
      · omega
      · rw [lt_of, key]; omega
    have h2 : ¬ (u * 4294967296 + d) / (yn1 * 4294967296 + yn0) < q - 1 := by
      rw [lt_of]
      have e : (q - 1) * (yn1 * 4294967296 + yn0) = (u - (r + yn1)) * 4294967296 + (q - 1) * yn0 := by
        have : (q - 1) * yn1 + (r + yn1) = u := by rw [Int.sub_mul]; omega
        rw [Int.mul_add, ← Int.mul_assoc, ← this]; omega
      have b := (zga (by omega : 0 ≤ q - 1) h0 (by omega : q - 1 ≤ 4294967296) (by omega : yn0 ≤ 4294967295)).2
      rw [e]; omega
    omega
theorem mulB {a b : Int} (h : 0 ≤ a) (h' : a < 4294967296) (g : 0 ≤ b) (g' : b < 4294967296) : 0 ≤ a * b ∧ a * b ≤ 18446744065119617025 :=
  zga h g (by omega : a ≤ 4294967295) (by omega : b ≤ 4294967295)
theorem zjr {ρ : Type} (L : Nat → Int → Int → Option ρ) (k : Int → Option ρ) {yn1 yn0 u d : Int} (h1 : 2147483648 ≤ yn1) (h1' : yn1 < 4294967296) (h0 : 0 ≤ yn0) (h0' : yn0 < 4294967296) (hd : 0 ≤ d) (hd' : d < 4294967296) (hu : 0 ≤ u)
    (hu' : u < yn1 * 4294967296 + yn0)
    (step : ∀ n q r, L (n + 1) q r = if (decide (4294967296 ≤ q) || decide (U (U (4294967296 * r) + d) < U (q * yn0))) = true then (if decide (4294967296 ≤ U (r + yn1)) = true then k (U (q - 1)) else L n (U (q - 1)) (U (r + yn1))) else k q) :
    ∀ (n : Nat) q r, q * yn1 + r = u → 0 ≤ r → r < 4294967296 → (u * 4294967296 + d) / (yn1 * 4294967296 + yn0) ≤ q → 4294967296 - r ≤ 2147483648 * n → L (n + 1) q r = k ((u * 4294967296 + d) / (yn1 * 4294967296 + yn0)) := by
  intro n
  induction n with
  | zero => intro q r _ _ _ _ h; omega
  | succ n ih =>
    intro q r hqr hr hr' hq hn
    obtain ⟨g0, g1, g2, g3, g4, g5, g6⟩ := zv5 h1 h1' h0 h0' hd hd' hu hu' hqr hr hr' hq
    have hc : (decide (4294967296 ≤ q) || decide (U (U (4294967296 * r) + d) < U (q * yn0))) = true ↔ (4294967296 ≤ q ∨ 4294967296 * r + d < q * yn0) := by
      rw [Bool.or_eq_true, decide_eq_true_eq, decide_eq_true_eq]
      by_cases hqB : 4294967296 ≤ q
      · simp [hqB]
      · have := mulB g0 (by omega : q < 4294967296) h0 h0'
        rw [U_id (x := 4294967296 * r) (by omega) (by omega), U_id (by omega) (by omega), U_id (by omega) (by omega)]
    rw [step]
    by_cases c : 4294967296 ≤ q ∨ 4294967296 * r + d < q * yn0
    · have a4 := g4 c
      rw [if_pos (hc.2 c), U_id (x := r + yn1) (by omega) (by omega), U_id (x := q - 1) (by omega) (by omega)]
      by_cases e : 4294967296 ≤ r + yn1
      · rw [if_pos (by simpa using e), g6 c e]
      · rw [if_neg (by simpa using e)]
        exact ih _ _ (by rw [Int.sub_mul]; omega) (by omega) (by omega) a4 (by omega)
    · rw [if_neg (fun h => c (hc.1 h)), ← g5 c]
/-- The first guess. -/
theorem zi1 {yn1 yn0 u d : Int} (h1 : 2147483648 ≤ yn1) (h1' : yn1 < 4294967296) (h0 : 0 ≤ yn0) (h0' : yn0 < 4294967296) (hd : 0 ≤ d) (hd' : d < 4294967296) (hu : 0 ≤ u)
    (hu' : u < yn1 * 4294967296 + yn0) : U (u.tdiv yn1) = u / yn1 ∧ U (u - U (U (u.tdiv yn1) * yn1)) = u % yn1 ∧ u / yn1 * yn1 + u % yn1 = u ∧ 0 ≤ u % yn1 ∧ u % yn1 < 4294967296 ∧
    (u * 4294967296 + d) / (yn1 * 4294967296 + yn0) ≤ u / yn1 := by
  have e1 : u.tdiv yn1 = u / yn1 := Int.tdiv_eq_ediv_of_nonneg hu
  have hdm : u / yn1 * yn1 + u % yn1 = u := by have := Int.ediv_mul_add_emod u yn1; exact this
  have hm0 := Int.emod_nonneg u (by omega : yn1 ≠ 0)
  have hm1 := Int.emod_lt_of_pos u (by omega : 0 < yn1)
  have hq0 : 0 ≤ u / yn1 := Int.ediv_nonneg hu (by omega)
  have hq1 : u / yn1 ≤ u := Int.ediv_le_self _ hu
  have hqm : 0 ≤ u / yn1 * yn1 := Int.mul_nonneg hq0 (by omega)
  rw [e1, U_id hq0 (by omega), U_id (x := u / yn1 * yn1) (by omega) (by omega), U_id (by omega) (by omega)]
  refine ⟨rfl, by omega, hdm, hm0, by omega, ?_⟩
  have hY : 0 < yn1 * 4294967296 + yn0 := by omega
  have hQ0 : 0 ≤ (u * 4294967296 + d) / (yn1 * 4294967296 + yn0) := Int.ediv_nonneg (by omega) (by omega)
  have hQ := Int.ediv_mul_le (u * 4294967296 + d) (b := yn1 * 4294967296 + yn0) (by omega)
  generalize (u * 4294967296 + d) / (yn1 * 4294967296 + yn0) = z at *
  rw [Int.mul_add, ← Int.mul_assoc] at hQ
  have := Int.mul_nonneg hQ0 h0
  exact (Int.le_ediv_iff_mul_le (by omega)).2 (by omega)
theorem zst (a b c : Int) : U (U (U a + b) - U c) = U (a + b - c) := by
  simp only [zpf]; omega
theorem zx6 {a b : Int} {s : Nat} (hs : s ≤ 63) (ha : 0 ≤ a) (h : a * 2 ^ s < 18446744073709551616) (hb : 0 ≤ b) (hb' : b < 2 ^ s) :
    U ((BitVec.ofInt (IntKind.bits .u64) (U (a * 2 ^ s)) ||| BitVec.ofInt (IntKind.bits .u64) b).toNat) = a * 2 ^ s + b := by
  have hp : (0 : Int) < 2 ^ s := Int.pow_pos (by decide)
  have hn := Int.mul_nonneg ha (Int.le_of_lt hp)
  have hp2 : (2 : Int) ^ s = ((2 ^ s : Nat) : Int) := by simp
  have hlt : (2 ^ s : Nat) < 18446744073709551616 := zr0 hs
  rw [U_id hn (by omega)]
  show U ((BitVec.ofInt 64 (a * 2 ^ s) ||| BitVec.ofInt 64 b).toNat : Int) = _
  have hlt2 := (BitVec.ofInt 64 (a * 2 ^ s) ||| BitVec.ofInt 64 b).isLt
  rw [zu6 (by omega), BitVec.toNat_or, za7 hn h, za7 hb (by omega)]
  obtain ⟨n, rfl⟩ := Int.eq_ofNat_of_zero_le ha
  obtain ⟨m, rfl⟩ := Int.eq_ofNat_of_zero_le hb
  have e : ((n : Int) * 2 ^ s).toNat = 2 ^ s * n := by rw [hp2, ← Int.natCast_mul, Int.toNat_natCast, Nat.mul_comm]
  rw [e, Int.toNat_natCast, ← Nat.two_pow_add_eq_or_of_lt (by rw [hp2] at hb'; omega)]
  simp [Int.mul_comm]
theorem zfx (φ : Nat) (v : Int) (h : 0 < v) (h' : v < 18446744073709551616) : ∃ s : Nat, z73 φ v = some (s : Int) ∧ s ≤ 63 ∧
    9223372036854775808 ≤ v * 2 ^ s ∧ v * 2 ^ s < 18446744073709551616 ∧ v ≤ 2 ^ (64 - s) := by
  obtain ⟨n, e, hn, h1, h2⟩ := zns φ v (by omega) h'
  obtain ⟨h3, h4⟩ := h2 (by omega)
  refine ⟨64 - n, ?_, by omega, ?_, ?_, ?_⟩
  · unfold z73
    rw [e, Option.bind_some, W_id (by omega) (by omega)]
    congr 1; omega
  · have : 2 ^ (n - 1) * 2 ^ (64 - n) ≤ v.toNat * 2 ^ (64 - n) := Nat.mul_le_mul_right _ h4
    rw [← Nat.pow_add, show n - 1 + (64 - n) = 63 by omega] at this
    have e2 : ((v.toNat * 2 ^ (64 - n) : Nat) : Int) = v * 2 ^ (64 - n) := by
      rw [Int.natCast_mul, Int.natCast_pow]; congr 1; omega
    omega
  · have : v.toNat * 2 ^ (64 - n) < 2 ^ n * 2 ^ (64 - n) := Nat.mul_lt_mul_of_pos_right h1 (Nat.two_pow_pos _)
    rw [← Nat.pow_add, show n + (64 - n) = 64 by omega] at this
    have e2 : ((v.toNat * 2 ^ (64 - n) : Nat) : Int) = v * 2 ^ (64 - n) := by
      rw [Int.natCast_mul, Int.natCast_pow]; congr 1; omega
    omega
  · rw [show 64 - (64 - n) = n by omega]
    have e2 : ((2 ^ n : Nat) : Int) = (2 : Int) ^ n := by simp
    omega
theorem zrh (φ : Nat) (hφ : 5 < φ) (hi lo y : Int) (h0 : 0 ≤ hi) (hy : hi < y) (hy' : y < 18446744073709551616) (hl : 0 ≤ lo) (hl' : lo < 18446744073709551616) :
    z96 φ hi lo y = some ((hi * 18446744073709551616 + lo) / y, (hi * 18446744073709551616 + lo) % y) := by
  unfold z96
  rw [if_neg (by simp; omega), if_neg (by simp; omega)]
  by_cases hz : hi = 0
  · subst hz
    rw [if_pos (by simp), zj (by omega), Int.tdiv_eq_ediv_of_nonneg hl, Int.tmod_eq_emod_of_nonneg hl, U_id (Int.ediv_nonneg hl (by omega)) (by have := Int.ediv_le_self y hl; omega)]
    simp
  rw [if_neg (by simpa using hz)]
  obtain ⟨s, es, hs, hY1, hY2, hyP⟩ := zfx φ y (by omega) hy'
  rw [es, Option.bind_some, U_id (x := (s : Int)) (by omega) (by omega), zj (by omega), U_id (x := 64 - (s : Int)) (by omega) (by omega), zj (by omega)]
  have em1 : min (s : Int).toNat (IntKind.bits .u64) = s := by simp [IntKind.bits]; omega
  have em2 : min (64 - (s : Int)).toNat (IntKind.bits .u64) = 64 - s := by simp [IntKind.bits]
  rw [em1, em2]
  have hp : (0 : Int) < 2 ^ s := Int.pow_pos (by decide)
  have hP : (0 : Int) < 2 ^ (64 - s) := Int.pow_pos (by decide)
  have hpP : (2 : Int) ^ s * 2 ^ (64 - s) = 18446744073709551616 := by rw [← Int.pow_add, show s + (64 - s) = 64 by omega]; rfl
  have hhp : hi * 2 ^ s < y * 2 ^ s := Int.mul_lt_mul_of_pos_right hy hp
  have hlP0 : 0 ≤ lo / 2 ^ (64 - s) := Int.ediv_nonneg hl (by omega)
  have hlP1 : lo / 2 ^ (64 - s) < 2 ^ s := Int.ediv_lt_of_lt_mul hP (by omega)
  have hh0 : 0 ≤ hi * 2 ^ s := Int.mul_nonneg h0 (by omega)
  -- the low word
  have hlo10 : U (lo * 2 ^ s) = lo % 2 ^ (64 - s) * 2 ^ s := by
    have e : lo = lo / 2 ^ (64 - s) * 2 ^ (64 - s) + lo % 2 ^ (64 - s) := (Int.ediv_mul_add_emod lo _).symm
    have e2 : lo * 2 ^ s = lo / 2 ^ (64 - s) * 18446744073709551616 + lo % 2 ^ (64 - s) * 2 ^ s := by
      conv => lhs; rw [e]
      rw [Int.add_mul, Int.mul_assoc, Int.mul_comm (2 ^ (64 - s)), hpP]
    have m0 := Int.emod_nonneg lo (by omega : (2 : Int) ^ (64 - s) ≠ 0)
    have m1 := Int.emod_lt_of_pos lo hP
    have m2 : lo % 2 ^ (64 - s) * 2 ^ s < 2 ^ (64 - s) * 2 ^ s := Int.mul_lt_mul_of_pos_right m1 hp
    have m3 := Int.mul_nonneg m0 (Int.le_of_lt hp)
    rw [Int.mul_comm (2 ^ (64 - s))] at m2
    rw [e2, zpf]; omega
  have hN : (hi * 2 ^ s + lo / 2 ^ (64 - s)) * 18446744073709551616 + lo % 2 ^ (64 - s) * 2 ^ s = (hi * 18446744073709551616 + lo) * 2 ^ s := by
    have e : lo = lo / 2 ^ (64 - s) * 2 ^ (64 - s) + lo % 2 ^ (64 - s) := (Int.ediv_mul_add_emod lo _).symm
    have e2 : lo * 2 ^ s = lo / 2 ^ (64 - s) * 18446744073709551616 + lo % 2 ^ (64 - s) * 2 ^ s := by
      conv => lhs; rw [e]
      rw [Int.add_mul, Int.mul_assoc, Int.mul_comm (2 ^ (64 - s)), hpP]
    have e3 : (hi * 18446744073709551616 + lo) * 2 ^ s = hi * 2 ^ s * 18446744073709551616 + lo * 2 ^ s := by rw [Int.add_mul, Int.mul_right_comm]
    rw [e3, e2]; omega
  have hun0 : 0 ≤ lo % 2 ^ (64 - s) * 2 ^ s := Int.mul_nonneg (Int.emod_nonneg lo (by omega)) (by omega)
  have hun1 : lo % 2 ^ (64 - s) * 2 ^ s < 18446744073709551616 := by
    rw [← hlo10, zpf]; omega
  have hu' : hi * 2 ^ s + lo / 2 ^ (64 - s) < y * 2 ^ s := by
    have : (hi + 1) * 2 ^ s ≤ y * 2 ^ s := Int.mul_le_mul_of_nonneg_right (by omega) (by omega)
    rw [Int.add_mul] at this; omega
  have hs1 : U (s : Int) = s := U_id (by omega) (by omega)
  have hs2 : U (64 - (s : Int)) = 64 - (s : Int) := U_id (by omega) (by omega)
  have ef : lo.fdiv (2 ^ (64 - s)) = lo / 2 ^ (64 - s) := Int.fdiv_eq_ediv_of_nonneg _ (by omega)
  have eor := zx6 hs h0 (by omega : hi * 2 ^ s < 18446744073709551616) hlP0 hlP1
  obtain ⟨Y, hYd⟩ : ∃ Y, Y = y * 2 ^ s := ⟨_, rfl⟩
  have eY : U (y * 2 ^ s) = Y := by rw [hYd]; exact U_id (by omega) (by omega)
  obtain ⟨u, hud⟩ : ∃ u, u = hi * 2 ^ s + lo / 2 ^ (64 - s) := ⟨_, rfl⟩
  obtain ⟨w, hwd⟩ : ∃ w, w = lo % 2 ^ (64 - s) * 2 ^ s := ⟨_, rfl⟩
  rw [← hwd] at hlo10 hN hun0 hun1
  rw [← hud] at hN hu' eor
  rw [← hYd] at hu' hY1 hY2 hhp
  have hu0 : 0 ≤ u := by omega
  have fY : Y.fdiv 4294967296 = Y / 4294967296 := Int.fdiv_eq_ediv_of_nonneg _ (by omega)
  have fw : w.fdiv 4294967296 = w / 4294967296 := Int.fdiv_eq_ediv_of_nonneg _ (by omega)
  have mY := zhq (v := Y) (by omega) (by omega)
  have mw := zhq (v := w) (by omega) (by omega)
  have b1 : 2147483648 ≤ Y / 4294967296 ∧ Y / 4294967296 < 4294967296 ∧ 0 ≤ Y % 4294967296 ∧ Y % 4294967296 < 4294967296 := by omega
  have b2 : 0 ≤ w / 4294967296 ∧ w / 4294967296 < 4294967296 ∧ 0 ≤ w % 4294967296 ∧ w % 4294967296 < 4294967296 := by omega
  have eYs : Y / 4294967296 * 4294967296 + Y % 4294967296 = Y := by omega
  have stepA : ∀ (K : Int → Option (Int × Int)) n q r, z5y φ lo y s K (n + 1) q r = if (decide (4294967296 ≤ q) || decide (U (U (4294967296 * r) + w / 4294967296) < U (q * (Y % 4294967296)))) = true then
      (if decide (4294967296 ≤ U (r + Y / 4294967296)) = true then K (U (q - 1)) else z5y φ lo y s K n (U (q - 1)) (U (r + Y / 4294967296))) else K q := by
    intro K n q r
    rw [z5y]
    simp only [hs1, hs2, em1, em2, eY, hlo10, fY, fw, mY, mw]
  have stepB : ∀ (K : Int → Option (Int × Int)) n q r, z63 φ lo y s K (n + 1) r q = if (decide (4294967296 ≤ q) || decide (U (U (4294967296 * r) + w % 4294967296) < U (q * (Y % 4294967296)))) = true then
      (if decide (4294967296 ≤ U (r + Y / 4294967296)) = true then K (U (q - 1)) else z63 φ lo y s K n (U (r + Y / 4294967296)) (U (q - 1))) else K q := by
    intro K n q r
    rw [z63]
    simp only [hs1, hs2, em1, em2, eY, hlo10, fY, fw, mY, mw]
  obtain ⟨m, rfl⟩ : ∃ m, φ = m + 3 := ⟨φ - 3, by omega⟩
  rw [ef, eor, eY, fY, zj (by omega)]
  obtain ⟨i1, i2, i3, i4, i5, i6⟩ := zi1 (u := u) (d := w / 4294967296) b1.1 b1.2.1 b1.2.2.1 b1.2.2.2 b2.1 b2.2.1 hu0 (by omega)
  rw [i1] at i2 ⊢
  rw [i2, zjr (z5y (m + 3) lo y s _) _ b1.1 b1.2.1 b1.2.2.1 b1.2.2.2 b2.1 b2.2.1 hu0 (by omega) (stepA _) (m + 2) _ _ i3 i4 i5 i6 (by omega)]
  rw [eYs]
  unfold z7t
  simp only [hs1, hs2, em1, em2, eY, hlo10, fY, fw, ef, eor]
  rw [zj (by omega)]
  have hQ1 : 0 ≤ (u * 4294967296 + w / 4294967296) / Y ∧ (u * 4294967296 + w / 4294967296) / Y < 4294967296 := ⟨Int.ediv_nonneg (by omega) (by omega), Int.ediv_lt_of_lt_mul (by omega) (by omega)⟩
  have hR1 := Int.ediv_mul_add_emod (u * 4294967296 + w / 4294967296) Y
  have hR1a := Int.emod_nonneg (u * 4294967296 + w / 4294967296) (by omega : Y ≠ 0)
  have hR1b := Int.emod_lt_of_pos (u * 4294967296 + w / 4294967296) (by omega : 0 < Y)
  generalize (u * 4294967296 + w / 4294967296) / Y = q1 at *
  generalize (u * 4294967296 + w / 4294967296) % Y = r1 at *
  have eu21 : U (U (U (u * 4294967296) + w / 4294967296) - U (q1 * Y)) = r1 := by
    rw [zst, show u * 4294967296 + w / 4294967296 - q1 * Y = r1 by omega]; exact U_id hR1a (by omega)
  rw [eu21]
  obtain ⟨j1, j2, j3, j4, j5, j6⟩ := zi1 (u := r1) (d := w % 4294967296) b1.1 b1.2.1 b1.2.2.1 b1.2.2.2 b2.2.2.1 b2.2.2.2 hR1a (by omega)
  rw [j1] at j2 ⊢
  rw [j2]
  refine (zjr (fun n q r => z63 (m + 3) lo y s _ n r q) _ b1.1 b1.2.1 b1.2.2.1 b1.2.2.2 b2.2.2.1 b2.2.2.2 hR1a (by omega) (fun n q r => stepB _ n q r) (m + 2) _ _ j3 j4 j5 j6 (by omega)).trans ?_
  rw [eYs]
  unfold z7r
  simp only [hs1, hs2, em1, em2, eY, hlo10, fY, fw, mw, ef, eor, eu21]
  rw [zj (by omega)]
  have hQ0 : 0 ≤ (r1 * 4294967296 + w % 4294967296) / Y ∧ (r1 * 4294967296 + w % 4294967296) / Y < 4294967296 := ⟨Int.ediv_nonneg (by omega) (by omega), Int.ediv_lt_of_lt_mul (by omega) (by omega)⟩
  have hR0 := Int.ediv_mul_add_emod (r1 * 4294967296 + w % 4294967296) Y
  have hR0a := Int.emod_nonneg (r1 * 4294967296 + w % 4294967296) (by omega : Y ≠ 0)
  have hR0b := Int.emod_lt_of_pos (r1 * 4294967296 + w % 4294967296) (by omega : 0 < Y)
  generalize (r1 * 4294967296 + w % 4294967296) / Y = q0 at *
  generalize (r1 * 4294967296 + w % 4294967296) % Y = r0 at *
  rw [zst, show r1 * 4294967296 + w % 4294967296 - q0 * Y = r0 by omega, U_id (x := r0) hR0a (by omega), U_id (x := q1 * 4294967296) (by omega) (by omega), U_id (by omega) (by omega), Int.fdiv_eq_ediv_of_nonneg _ (by omega)]
  have hall : (hi * 18446744073709551616 + lo - (q1 * 4294967296 + q0) * y) * 2 ^ s = r0 := by
    rw [Int.sub_mul, ← hN, Int.mul_assoc, ← hYd, Int.add_mul, Int.mul_right_comm]; omega
  have hz0 : 0 ≤ hi * 18446744073709551616 + lo - (q1 * 4294967296 + q0) * y := by
    rcases Int.lt_or_le (hi * 18446744073709551616 + lo - (q1 * 4294967296 + q0) * y) 0 with h | h
    · have := Int.mul_neg_of_neg_of_pos h hp; omega
    · exact h
  have hz1 : hi * 18446744073709551616 + lo - (q1 * 4294967296 + q0) * y < y := by
    refine Int.lt_of_mul_lt_mul_right (a := 2 ^ s) ?_ (by omega)
    rw [hall, ← hYd]; exact hR0b
  have hr0 : r0 / 2 ^ s = hi * 18446744073709551616 + lo - (q1 * 4294967296 + q0) * y := by
    rw [← hall]; exact Int.mul_ediv_cancel _ (by omega)
  have hdm : (hi * 18446744073709551616 + lo) / y = q1 * 4294967296 + q0 ∧ (hi * 18446744073709551616 + lo) % y = hi * 18446744073709551616 + lo - (q1 * 4294967296 + q0) * y :=
    (Int.ediv_emod_unique (by omega)).2 ⟨by rw [Int.mul_comm y]; omega, hz0, hz1⟩
  rw [hr0, hdm.1, hdm.2]
end Px
end
section
namespace Px
open Go
set_option linter.unusedVariables false
set_option linter.unusedSimpArgs false
set_option maxRecDepth 100000
theorem z7d (φ : Nat) (a b c : Int) : z2k φ a b c = some (bet a b c) := rfl
theorem z84 (φ : Nat) (a b c : Int) : z2c φ a b c = some (bet a b c) := rfl
def zfd (t : z6c) : Bool :=
  bet t.fLoad 0 1000000 && bet t.fTare 0 1000000 && bet t.fLength 0 1000000 && bet t.fBrake 0 1000000 && bet t.fGauge 0 7 && bet t.fLife 1 1073741824 && bet t.fFloor 0 100
def zcp (n : Int) (w : zd8) : Bool :=
  bet w.fType 0 (n - 1) && bet w.fOwner 0 63 && bet w.fHome 0 511 && bet w.fBuilt 0 1073741824 && bet w.fWorth 0 1099511627776
def zf6 (n : Int) (s : Swap) : Bool := bet s.fWanted 0 (n - 1) && bet s.fGiven 0 (n - 1) && (s.fWanted != s.fGiven) && bet s.fCost 0 1000000000
def zl1 (w : Wash) : Bool := bet w.fFrom 0 63 && bet w.fTo 0 63 && (w.fFrom != w.fTo) && bet w.fMinutes 0 100000
def keyW (w : Wash) : Int := 64 * w.fFrom + w.fTo
def z7l (l : List Wash) (i : Nat) : Bool := zl1 (gt l (i : Int)) && !(l.take i).any fun v => keyW v == keyW (gt l (i : Int))
def z8m (l : List Wash) : Bool := (List.range l.length).all (z7l l)
/-- What Check answers. -/
def z9b (x : z8p) : Int :=
  bif decide (32 < x.fTypes.length) || decide (4096 < x.fWagons.length) || decide (1024 < x.fSwaps.length) || decide (4096 < x.fWashes.length) then 2 else
  bif x.fTypes.all zfd && x.fWagons.all (zcp x.fTypes.length) && x.fSwaps.all (zf6 x.fTypes.length) && z8m x.fWashes then 0 else 1
theorem zan (p : Nat → Bool) (i : Nat) : (List.range (i + 1)).all p = ((List.range i).all p && p i) := by
  rw [List.range_succ, List.all_append]; simp
theorem z9p {α : Type} [Inhabited α] {p : Prop} [Decidable p] {x : Option α} (h : p) : z3d p x = x := if_pos h
theorem z9n {α : Type} [Inhabited α] {p : Prop} [Decidable p] {x : Option α} (h : ¬ p) : z3d p x = some default := if_neg h
theorem zfw (φ : Nat) (x : z8p) (k : Int → Option Int) (hl : x.fSwaps.length ≤ 1024) (ht : x.fTypes.length ≤ 32) :
    ∀ n s, x.fSwaps.length < n → z40 φ x k n 0 s = k (bif x.fSwaps.all (zf6 (x.fTypes.length : Int)) then s else 1) := by
  have hp : W ((x.fTypes.length : Int) - 1) = (x.fTypes.length : Int) - 1 := W_id (by omega) (by omega)
  refine zh2 _ k _ _ ?_ ?_
  · intro n i s hi
    rw [z40, if_pos (by simp; omega), zj ⟨by omega, by omega⟩]
    have hW : W ((i : Int) + 1) = (i : Int) + 1 := W_id (by omega) (by omega)
    simp only [z7d, Option.bind_some, zf6, z3d, z7x, hW, hp]
    cases bet (gt x.fSwaps i).fWanted 0 ((x.fTypes.length : Int) - 1) <;> cases bet (gt x.fSwaps i).fGiven 0 ((x.fTypes.length : Int) - 1) <;> cases ((gt x.fSwaps i).fWanted != (gt x.fSwaps i).fGiven) <;>
      cases bet (gt x.fSwaps i).fCost 0 1000000000 <;> rfl
  · intro n s
    rw [z40, if_neg (by simp)]
theorem zfh (φ : Nat) (x : z8p) (k : Int → Option Int) (hl : x.fWagons.length ≤ 4096) (ht : x.fTypes.length ≤ 32) :
    ∀ n s, x.fWagons.length < n → z3a φ x k n 0 s = k (bif x.fWagons.all (zcp (x.fTypes.length : Int)) then s else 1) := by
  have hp : W ((x.fTypes.length : Int) - 1) = (x.fTypes.length : Int) - 1 := W_id (by omega) (by omega)
  refine zh2 _ k _ _ ?_ ?_
  · intro n i s hi
    rw [z3a, if_pos (by simp; omega), zj ⟨by omega, by omega⟩]
    have hW : W ((i : Int) + 1) = (i : Int) + 1 := W_id (by omega) (by omega)
    simp only [z7d, Option.bind_some, zcp, z3d, z7c, z7e, hW, hp]
    cases bet (gt x.fWagons i).fType 0 ((x.fTypes.length : Int) - 1) <;> cases bet (gt x.fWagons i).fOwner 0 63 <;> cases bet (gt x.fWagons i).fHome 0 511 <;>
      cases bet (gt x.fWagons i).fBuilt 0 1073741824 <;> cases bet (gt x.fWagons i).fWorth 0 1099511627776 <;> rfl
  · intro n s
    rw [z3a, if_neg (by simp)]
theorem zgo (φ : Nat) (x : z8p) (i : Int) (k : Int → Option Int) (n : Nat) (s : Int) (hn : 4 < n) :
    z37 φ x i k n 0 s = k (bif [(gt x.fTypes i).fLoad, (gt x.fTypes i).fTare, (gt x.fTypes i).fLength, (gt x.fTypes i).fBrake].all (fun a => bet a 0 1000000) then s else 1) := by
  refine zh2 (z37 φ x i k) k _ _ ?_ ?_ n s hn
  · intro n j s hi
    rw [z37, if_pos (by simp at hi ⊢; omega), zj ⟨by omega, by omega⟩]
    simp at hi
    have hW : W ((j : Int) + 1) = (j : Int) + 1 := W_id (by omega) (by omega)
    simp only [z7d, Option.bind_some, z7f, hW]
    cases bet (gt [(gt x.fTypes i).fLoad, (gt x.fTypes i).fTare, (gt x.fTypes i).fLength, (gt x.fTypes i).fBrake] (j : Int)) 0 1000000 <;> rfl
  · intro n s
    rw [z37, if_neg (by simp)]
theorem zg1 (φ : Nat) (hφ : 4 < φ) (x : z8p) (k : Int → Option Int) (hl : x.fTypes.length ≤ 32) :
    ∀ n s, x.fTypes.length < n → z1m φ x k n 0 s = k (bif x.fTypes.all zfd then s else 1) := by
  refine zh2 _ k _ _ ?_ ?_
  · intro n i s hi
    rw [z1m, if_pos (by simp; omega), zj ⟨by omega, by omega⟩, zgo _ _ _ _ _ _ hφ]
    have hW : W ((i : Int) + 1) = (i : Int) + 1 := W_id (by omega) (by omega)
    simp only [z7d, Option.bind_some, zfd, z3d, z4r, z7g, z2y, hW, List.all_cons, List.all_nil]
    cases bet (gt x.fTypes i).fLoad 0 1000000 <;> cases bet (gt x.fTypes i).fTare 0 1000000 <;> cases bet (gt x.fTypes i).fLength 0 1000000 <;> cases bet (gt x.fTypes i).fBrake 0 1000000 <;>
      cases bet (gt x.fTypes i).fGauge 0 7 <;> cases bet (gt x.fTypes i).fLife 1 1073741824 <;> cases bet (gt x.fTypes i).fFloor 0 100 <;> rfl
  · intro n s
    rw [z1m, if_neg (by simp)]
theorem zf9 (φ : Nat) (x : z8p) (k : Int → Option Int) (hl : x.fWashes.length ≤ 4096) (n : Nat) (s : Int) (hn : x.fWashes.length < n) :
    z1x φ x k n 0 s (fun _ => false) = k (bif z8m x.fWashes then s else 1) := by
  refine z56 (fun n i (t : Int × (Nat → Bool)) => z1x φ x k n i t.1 t.2) x.fWashes.length
    (fun i t => t.1 = (bif (List.range i).all (z7l x.fWashes) then s else 1) ∧ ((List.range i).all (z7l x.fWashes) = true → ∀ j : Nat, t.2 j = (x.fWashes.take i).any fun v => keyW v == (j : Int)))
    (fun o => o = k (bif z8m x.fWashes then s else 1)) ?_ ?_ n (s, fun _ => false) ⟨by simp, by simp⟩ hn
  · intro n i t hi ⟨h1, h2⟩ hs
    have hW : W ((i : Int) + 1) = (i : Int) + 1 := W_id (by omega) (by omega)
    rw [z1x, if_pos (by simp; omega), zj ⟨by omega, by omega⟩]
    simp only [z7d, Option.bind_some, z3d]
    have hok : zl1 (gt x.fWashes i) = (bet (gt x.fWashes i).fFrom 0 63 && bet (gt x.fWashes i).fTo 0 63 && ((gt x.fWashes i).fFrom != (gt x.fWashes i).fTo) && bet (gt x.fWashes i).fMinutes 0 100000) := rfl
    have hsucc := zan (z7l x.fWashes) i
    cases hw : zl1 (gt x.fWashes i) with
    | false =>
      have hf : (List.range (i + 1)).all (z7l x.fWashes) = false := by rw [hsucc]; simp [z7l, hw]
      have h3 : z1x φ x k n ((i : Int) + 1) 1 t.2 = k (bif z8m x.fWashes then s else 1) := hs (1, t.2) ⟨by rw [hf]; rfl, by rw [hf]; intro h; cases h⟩
      rw [hw] at hok
      rw [← h3]
      simp only [z71, z4l, hW]
      generalize bet (gt x.fWashes i).fFrom 0 63 = a at *; generalize bet (gt x.fWashes i).fTo 0 63 = b at *; generalize ((gt x.fWashes i).fFrom != (gt x.fWashes i).fTo) = c at *; generalize bet (gt x.fWashes i).fMinutes 0 100000 = d at *
      cases a <;> cases b <;> cases c <;> cases d <;> first | (simp only [Bool.and_self, Bool.and_true, Bool.and_false, Bool.false_and, Bool.true_and, Option.bind_some, if_true, Bool.not_false, Bool.not_true, Bool.false_eq_true, if_false, default]; done) | exact absurd hok (by decide)
    | true =>
      rw [hw] at hok
      have hb := hok.symm
      simp only [Bool.and_eq_true] at hb
      obtain ⟨⟨⟨b1, b2⟩, b3⟩, b4⟩ := hb
      have c1 := zo6 b1; have c2 := zo6 b2
      simp only [b1, b2, b3, b4, z71, Bool.and_self, if_true, Option.bind_some, Bool.not_true, Bool.false_eq_true, if_false]
      rw [zj ⟨by omega, by omega⟩, zj ⟨by omega, by omega⟩]
      have hkey : ((gt x.fWashes i).fFrom.toNat * 64 + (gt x.fWashes i).fTo.toNat : Nat) = (keyW (gt x.fWashes i)).toNat := by unfold keyW; omega
      have hk0 : ((keyW (gt x.fWashes i)).toNat : Int) = keyW (gt x.fWashes i) := by unfold keyW; omega
      rw [hkey]
      have key : ∀ e, (e = bif (List.range (i + 1)).all (z7l x.fWashes) then s else 1) →
          z1x φ x k n ((i : Int) + 1) e (upd t.2 (keyW (gt x.fWashes i)).toNat true) = k (bif z8m x.fWashes then s else 1) := by
        intro e he
        refine hs (e, _) ⟨he, fun hall j => ?_⟩
        rw [hsucc, Bool.and_eq_true] at hall
        rw [z9z _ _ _ hi, ← h2 hall.1 j]
        show (if j = (keyW (gt x.fWashes i)).toNat then true else t.2 j) = _
        by_cases hj : j = (keyW (gt x.fWashes i)).toNat
        · simp [hj, hk0]
        · have : (keyW (gt x.fWashes i) == (j : Int)) = false := by
            simp; intro h; exact hj (by omega)
          simp [hj, this]
      simp only [z82, z4l, hW, hkey]
      cases hall : (List.range i).all (z7l x.fWashes) with
      | true =>
        have hat : z7l x.fWashes i = !(t.2 (keyW (gt x.fWashes i)).toNat) := by
          rw [h2 hall]; simp only [z7l, hw, Bool.true_and, hk0]
        cases ht2 : t.2 (keyW (gt x.fWashes i)).toNat with
        | true =>
          simp only [Bool.not_true, Bool.not_false, if_true]
          refine key 1 ?_
          rw [hsucc, hat, ht2]; simp
        | false =>
          simp only [Bool.not_true, Bool.not_false, Bool.false_eq_true, if_false]
          refine key t.1 ?_
          rw [hsucc, hat, ht2, h1, hall]; simp
      | false =>
        have hf : (List.range (i + 1)).all (z7l x.fWashes) = false := by rw [hsucc, hall]; rfl
        have ht1 : t.1 = 1 := by rw [h1, hall]; rfl
        rw [ht1]
        split <;> exact key 1 (by rw [hf]; rfl)
  · intro n t ⟨h1, _⟩
    rw [z1x, if_neg (by simp), h1]; rfl
theorem zj5 (φ : Nat) (hφ : 5000 < φ) (x : z8p) : zbe φ x = some (z9b x) := by
  have e : (((decide (32 < (x.fTypes.length : Int)) || decide (4096 < (x.fWagons.length : Int))) || decide (1024 < (x.fSwaps.length : Int))) || decide (4096 < (x.fWashes.length : Int))) =
      (decide (32 < x.fTypes.length) || decide (4096 < x.fWagons.length) || decide (1024 < x.fSwaps.length) || decide (4096 < x.fWashes.length)) := by
    congr 1
    · congr 1
      · congr 1 <;> (apply decide_eq_decide.2; omega)
      · apply decide_eq_decide.2; omega
    · apply decide_eq_decide.2; omega
  unfold zbe z9b
  rw [e]
  cases h : (decide (32 < x.fTypes.length) || decide (4096 < x.fWagons.length) || decide (1024 < x.fSwaps.length) || decide (4096 < x.fWashes.length)) with
  | true => rfl
  | false =>
    simp only [Bool.or_eq_false_iff, decide_eq_false_iff_not, Nat.not_lt] at h
    obtain ⟨⟨⟨h1, h2⟩, h3⟩, h4⟩ := h
    rw [if_neg (by simp), zg1 φ (by omega) x _ h1 _ _ (by omega)]
    unfold z2e
    rw [zfh _ _ _ h2 h1 _ _ (by omega)]
    unfold z3w
    rw [zfw _ _ _ h3 h1 _ _ (by omega)]
    unfold z5f
    rw [zf9 _ _ _ h4 _ _ (by omega)]
    unfold z3b
    cases x.fTypes.all zfd <;> cases x.fWagons.all (zcp x.fTypes.length) <;> cases x.fSwaps.all (zf6 x.fTypes.length) <;> cases z8m x.fWashes <;> rfl
theorem zhw (φ : Nat) (l : List Wash) (hl : l.length ≤ 4096) (hφ : 5000 < φ) : zap φ l = some (bif z8m l then 0 else 1) := by
  unfold zap
  rw [zj (mk_t _ _ (by omega) (by omega) (by omega))]
  refine z56 (fun n i t => z6e φ l (z76 φ) n i t) l.length
    (fun i t => (List.range i).all (z7l l) = true ∧ t.length = 4096 ∧ ∀ j : Int, 0 ≤ j → j < 4096 → gt t j = (l.take i).any fun v => keyW v == j)
    (fun o => o = some (bif z8m l then 0 else 1)) ?_ ?_ φ _ ⟨by simp, by simp, fun j h0 h1 => by rw [zg7 _ _ _ h0 (by omega)]; simp⟩ (by omega)
  · intro n i t hi ⟨h1, h2, h3⟩ hs
    have hW : W ((i : Int) + 1) = (i : Int) + 1 := W_id (by omega) (by omega)
    have hsucc := zan (z7l l) i
    have hbad : z7l l i = false → z8m l = false := by
      intro h
      unfold z8m
      rw [List.all_eq_false]
      exact ⟨i, by simp; omega, by simp [h]⟩
    rw [z6e, if_pos (by simp; omega), zj ⟨by omega, by omega⟩]
    simp only [z84, Option.bind_some, z3d]
    have hok : zl1 (gt l i) = (bet (gt l i).fFrom 0 63 && bet (gt l i).fTo 0 63 && ((gt l i).fFrom != (gt l i).fTo) && bet (gt l i).fMinutes 0 100000) := rfl
    have hne : ((gt l i).fFrom == (gt l i).fTo) = !((gt l i).fFrom != (gt l i).fTo) := by simp [bne]
    rw [hne]
    cases hw : zl1 (gt l i) with
    | false =>
      rw [hbad (by simp [z7l, hw])]
      rw [hw] at hok
      clear hne hs h3
      generalize bet (gt l i).fFrom 0 63 = a at *; generalize bet (gt l i).fTo 0 63 = b at *; generalize ((gt l i).fFrom != (gt l i).fTo) = c at *; generalize bet (gt l i).fMinutes 0 100000 = d at *
      cases a <;> cases b <;> cases c <;> cases d <;> first | rfl | exact absurd hok (by decide)
    | true =>
      rw [hw] at hok
      have hb := hok.symm
      simp only [Bool.and_eq_true] at hb
      obtain ⟨⟨⟨b1, b2⟩, b3⟩, b4⟩ := hb
      have c1 := zo6 b1; have c2 := zo6 b2
      have e1 : W (64 * (gt l i).fFrom) = 64 * (gt l i).fFrom := W_id (by omega) (by omega)
      have e2 : W (W (64 * (gt l i).fFrom) + (gt l i).fTo) = keyW (gt l i) := by rw [e1]; exact W_id (by omega) (by omega)
      have hk : 0 ≤ keyW (gt l i) ∧ keyW (gt l i) < 4096 := by unfold keyW; omega
      simp only [b1, b2, b3, b4, Bool.not_true, Bool.or_false, if_true, e2, Bool.or_self, Bool.false_eq_true, if_false]
      rw [zj ⟨hk.1, by omega⟩, h3 _ hk.1 hk.2]
      have hat : z7l l i = !(l.take i).any fun v => keyW v == keyW (gt l i) := by simp only [z7l, hw, Bool.true_and]
      cases ha : (l.take i).any fun v => keyW v == keyW (gt l i) with
      | true => rw [hbad (by rw [hat, ha]; rfl)]; rfl
      | false =>
        rw [if_neg (by simp), hW]
        refine hs _ ⟨by rw [hsucc, h1, hat, ha]; rfl, by rw [zd5, h2], fun j j0 j1 => ?_⟩
        rw [zjy _ _ _ _ hk.1 (by omega) j0, z9z _ _ _ hi, h3 j j0 j1]
        by_cases e : j = keyW (gt l i)
        · simp [e]
        · have : (keyW (gt l i) == j) = false := by simp; exact fun h => e h.symm
          simp [e, this]
  · intro n t ⟨h1, h2, h3⟩
    rw [z6e, if_neg (by simp)]
    unfold z8m
    rw [h1]; rfl
theorem zis (φ : Nat) (hφ : 5000 < φ) (x : z8p) : zb8 φ x = some (z9b x) := by
  have e : (((decide (32 < (x.fTypes.length : Int)) || decide (4096 < (x.fWagons.length : Int))) || decide (1024 < (x.fSwaps.length : Int))) || decide (4096 < (x.fWashes.length : Int))) =
      (decide (32 < x.fTypes.length) || decide (4096 < x.fWagons.length) || decide (1024 < x.fSwaps.length) || decide (4096 < x.fWashes.length)) := by
    congr 1
    · congr 1
      · congr 1 <;> (apply decide_eq_decide.2; omega)
      · apply decide_eq_decide.2; omega
    · apply decide_eq_decide.2; omega
  unfold zb8 z9b
  rw [e]
  cases h : (decide (32 < x.fTypes.length) || decide (4096 < x.fWagons.length) || decide (1024 < x.fSwaps.length) || decide (4096 < x.fWashes.length)) with
  | true => rfl
  | false =>
    simp only [Bool.or_eq_false_iff, decide_eq_false_iff_not, Nat.not_lt] at h
    obtain ⟨⟨⟨h1, h2⟩, h3⟩, h4⟩ := h
    have hp : W ((x.fTypes.length : Int) - 1) = (x.fTypes.length : Int) - 1 := W_id (by omega) (by omega)
    rw [if_neg (by simp)]
    rw [z99 (z64 φ x (z5b φ x)) (z5b φ x) (some 1) x.fTypes (fun t => !zfd t) ?_ ?_ φ (by omega)]
    · unfold z5b
      rw [z99 (z6f φ x (z5e φ x)) (z5e φ x) (some 1) x.fWagons (fun t => !zcp x.fTypes.length t) ?_ ?_ φ (by omega)]
      · unfold z5e
        rw [z99 (z66 φ x (z58 φ x)) (z58 φ x) (some 1) x.fSwaps (fun t => !zf6 x.fTypes.length t) ?_ ?_ φ (by omega)]
        · unfold z58
          rw [zhw _ _ h4 hφ]
          simp only [Option.bind_some]
          simp only [List.any_eq_not_all_not, Bool.not_not]
          cases x.fTypes.all zfd <;> cases x.fWagons.all (zcp x.fTypes.length) <;> cases x.fSwaps.all (zf6 x.fTypes.length) <;> cases z8m x.fWashes <;> rfl
        · intro n i hi
          have hW : W ((i : Int) + 1) = (i : Int) + 1 := W_id (by omega) (by omega)
          have hne : ((gt x.fSwaps i).fWanted == (gt x.fSwaps i).fGiven) = !((gt x.fSwaps i).fWanted != (gt x.fSwaps i).fGiven) := by simp [bne]
          rw [z66, if_pos (by simp; omega), zj ⟨by omega, by omega⟩]
          simp only [z84, Option.bind_some, zf6, z3d, hW, hp, hne]
          cases bet (gt x.fSwaps i).fWanted 0 ((x.fTypes.length : Int) - 1) <;> cases bet (gt x.fSwaps i).fGiven 0 ((x.fTypes.length : Int) - 1) <;> cases ((gt x.fSwaps i).fWanted != (gt x.fSwaps i).fGiven) <;>
            cases bet (gt x.fSwaps i).fCost 0 1000000000 <;> rfl
        · intro n; rw [z66, if_neg (by simp)]
      · intro n i hi
        have hW : W ((i : Int) + 1) = (i : Int) + 1 := W_id (by omega) (by omega)
        rw [z6f, if_pos (by simp; omega), zj ⟨by omega, by omega⟩]
        simp only [z9i, z84, Option.bind_some, zcp, z3d, hW, hp]
        cases bet (gt x.fWagons i).fType 0 ((x.fTypes.length : Int) - 1) <;> cases bet (gt x.fWagons i).fOwner 0 63 <;> cases bet (gt x.fWagons i).fHome 0 511 <;>
          cases bet (gt x.fWagons i).fBuilt 0 1073741824 <;> cases bet (gt x.fWagons i).fWorth 0 1099511627776 <;> rfl
      · intro n; rw [z6f, if_neg (by simp)]
    · intro n i hi
      have hW : W ((i : Int) + 1) = (i : Int) + 1 := W_id (by omega) (by omega)
      rw [z64, if_pos (by simp; omega), zj ⟨by omega, by omega⟩]
      simp only [za4, z84, Option.bind_some, zfd, z3d, hW]
      cases bet (gt x.fTypes i).fLoad 0 1000000 <;> cases bet (gt x.fTypes i).fTare 0 1000000 <;> cases bet (gt x.fTypes i).fLength 0 1000000 <;> cases bet (gt x.fTypes i).fBrake 0 1000000 <;>
        cases bet (gt x.fTypes i).fGauge 0 7 <;> cases bet (gt x.fTypes i).fLife 1 1073741824 <;> cases bet (gt x.fTypes i).fFloor 0 100 <;> rfl
    · intro n; rw [z64, if_neg (by simp)]
/-- What a fleet that passes is. -/
theorem zel {x : z8p} (h : z9b x = 0) : x.fTypes.length ≤ 32 ∧ x.fWagons.length ≤ 4096 ∧ x.fSwaps.length ≤ 1024 ∧ x.fWashes.length ≤ 4096 ∧
    (∀ t ∈ x.fTypes, zfd t = true) ∧ (∀ t ∈ x.fWagons, zcp x.fTypes.length t = true) ∧ (∀ t ∈ x.fSwaps, zf6 x.fTypes.length t = true) ∧ z8m x.fWashes = true := by
  unfold z9b at h
  cases h1 : (decide (32 < x.fTypes.length) || decide (4096 < x.fWagons.length) || decide (1024 < x.fSwaps.length) || decide (4096 < x.fWashes.length)) with
  | true => rw [h1] at h; cases h
  | false =>
    rw [h1] at h
    simp only [Bool.or_eq_false_iff, decide_eq_false_iff_not, Nat.not_lt] at h1
    obtain ⟨⟨⟨a1, a2⟩, a3⟩, a4⟩ := h1
    cases h2 : (x.fTypes.all zfd && x.fWagons.all (zcp x.fTypes.length) && x.fSwaps.all (zf6 x.fTypes.length) && z8m x.fWashes) with
    | false => rw [h2] at h; cases h
    | true =>
      simp only [Bool.and_eq_true, List.all_eq_true] at h2
      obtain ⟨⟨⟨b1, b2⟩, b3⟩, b4⟩ := h2
      exact ⟨a1, a2, a3, a4, b1, b2, b3, b4⟩
end Px
end
section
namespace Px
open Go
set_option linter.unusedVariables false
set_option linter.unusedSimpArgs false
set_option maxRecDepth 100000
def PP : Nat := 2305843009213690799
def QQ : Nat := 1152921504606845399
/-- A power modulo the prime. -/
def pw (b n : Nat) : Nat := b ^ n % PP
theorem zhu (b n : Nat) : pw b n < PP := Nat.mod_lt _ (by decide)
theorem zk7 (b : Nat) : pw b 0 = 1 := by simp [pw, PP]
theorem zol (b m n : Nat) : pw b m * pw b n % PP = pw b (m + n) := by
  unfold pw; rw [Nat.pow_add, ← Nat.mul_mod]
theorem zsp (b : Nat) : pw b 1 = b % PP := by simp [pw]
theorem zs2 (b n : Nat) : pw (b % PP) n = pw b n := by unfold pw; rw [← Nat.pow_mod]
theorem zx7 (b n : Nat) : pw (b * b % PP) n = pw b (2 * n) := by
  rw [zs2]; unfold pw; rw [Nat.pow_mul, Nat.pow_two]
theorem zgb {a b : Nat} (ha : a < PP) (hb : b < PP) (φ : Nat) (hφ : 5 < φ) : ((za9 φ (a : Int) (b : Int)).bind fun y => (z96 φ y.1 y.2 2305843009213690799).bind fun z => some z.2) = some ((a * b % PP : Nat) : Int) := by
  have ha' : (a : Int) < 2305843009213690799 := by unfold PP at ha; omega
  have hb' : (b : Int) < 2305843009213690799 := by unfold PP at hb; omega
  have hp := zga (by omega : 0 ≤ (a : Int)) (by omega : 0 ≤ (b : Int)) (by omega : (a : Int) ≤ 2305843009213690798) (by omega : (b : Int) ≤ 2305843009213690798)
  rw [zni φ _ _ (by omega) (by omega) (by omega) (by omega), Option.bind_some]
  generalize hz : (a : Int) * (b : Int) = z at *
  rw [zrh φ hφ _ _ _ (by omega) (by omega) (by omega) (by omega) (by omega), Option.bind_some]
  congr 1
  have : z / 18446744073709551616 * 18446744073709551616 + z % 18446744073709551616 = z := by omega
  rw [this, ← hz, Int.natCast_emod, Int.natCast_mul]; rfl
theorem zw1 {a : Nat} (h : a < PP) : ((a : Int)).tmod 2305843009213690799 = (a : Int) := by
  unfold PP at h
  rw [Int.tmod_eq_emod_of_nonneg (by omega)]; omega
theorem zlw (φ : Nat) (hφ : 100 < φ) (b n : Nat) (hb : b < 18446744073709551616) (hn : n < 18446744073709551616) : zf0 φ (b : Int) (n : Int) = some ((pw b n : Nat) : Int) := by
  unfold zf0
  obtain ⟨L, eL, hL, h1, h2⟩ := zns φ (n : Int) (by omega) (by omega)
  rw [eL, Option.bind_some]
  rw [Int.toNat_natCast] at h1 h2
  have hbm : ((b : Int)).tmod 2305843009213690799 = ((b % PP : Nat) : Int) := by
    rw [Int.tmod_eq_emod_of_nonneg (by omega)]; unfold PP; omega
  refine z56 (fun k i v => z6k φ (b : Int) (n : Int) (L : Int) (z74 φ) k v i) L (fun i v => v = ((pw b (n / 2 ^ (L - i)) : Nat) : Int)) (fun o => o = some ((pw b n : Nat) : Int)) ?_ ?_ φ 1 ?_ (by omega)
  · intro k i v hi hv hs
    rw [z6k, if_pos (by simp; omega)]
    subst hv
    rw [zw1 (zhu _ _)]
    have hm := zgb (zhu b (n / 2 ^ (L - i))) (zhu b (n / 2 ^ (L - i))) φ (by omega)
    -- the square
    have hp := zga (m := 2305843009213690798) (n := 2305843009213690798) (a := ((pw b (n / 2 ^ (L - i)) : Nat) : Int)) (b := ((pw b (n / 2 ^ (L - i)) : Nat) : Int)) (by omega) (by omega) (by have := zhu b (n / 2 ^ (L - i)); unfold PP at this; omega) (by have := zhu b (n / 2 ^ (L - i)); unfold PP at this; omega)
    have e1 := zni φ ((pw b (n / 2 ^ (L - i)) : Nat) : Int) ((pw b (n / 2 ^ (L - i)) : Nat) : Int) (by omega) (by have := zhu b (n / 2 ^ (L - i)); unfold PP at this; omega) (by omega) (by have := zhu b (n / 2 ^ (L - i)); unfold PP at this; omega)
    rw [e1, Option.bind_some] at hm
    rw [e1, Option.bind_some]
    have hw1 : W ((L : Int) - 1) = (L : Int) - 1 := W_id (by omega) (by omega)
    have hw2 : W ((L : Int) - 1 - (i : Int)) = ((L - 1 - i : Nat) : Int) := by rw [W_id (by omega) (by omega)]; omega
    cases hdv : z96 φ (((pw b (n / 2 ^ (L - i)) : Nat) : Int) * ((pw b (n / 2 ^ (L - i)) : Nat) : Int) / 18446744073709551616) (((pw b (n / 2 ^ (L - i)) : Nat) : Int) * ((pw b (n / 2 ^ (L - i)) : Nat) : Int) % 18446744073709551616) 2305843009213690799 with
    | none => rw [hdv] at hm; cases hm
    | some z =>
      rw [hdv, Option.bind_some] at hm
      have hz : z.2 = ((pw b (n / 2 ^ (L - i)) * pw b (n / 2 ^ (L - i)) % PP : Nat) : Int) := Option.some.inj hm
      rw [zol] at hz
      rw [Option.bind_some, eL, Option.bind_some, hw1, hw2, zj (by omega), hz]
      have hsh := zux (c := (n : Int)) (k := ((L - 1 - i : Nat) : Int)) (by omega) (by omega) (by omega)
      have hone : U ((BitVec.ofInt (IntKind.bits .u64) ((n : Int).fdiv (2 ^ (min (((L - 1 - i : Nat) : Int)).toNat (IntKind.bits .u64)))) &&& BitVec.ofInt (IntKind.bits .u64) 1).toNat) = ((n / 2 ^ (L - 1 - i) % 2 : Nat) : Int) := by
        rw [hsh, Int.toNat_natCast, Int.toNat_natCast]
        show U ((BitVec.ofInt 64 ((n / 2 ^ (L - 1 - i) : Nat) : Int) &&& BitVec.ofInt 64 1).toNat : Int) = _
        have hd : n / 2 ^ (L - 1 - i) ≤ n := Nat.div_le_self _ _
        rw [BitVec.toNat_and, za7 (Int.natCast_nonneg _) (by omega), za7 (by omega) (by omega), zu6 (zsj (by omega)), Int.toNat_natCast]
        show ((n / 2 ^ (L - 1 - i) &&& 1 : Nat) : Int) = _
        rw [Nat.and_one_is_mod]
      rw [hone]
      have hhalf : n / 2 ^ (L - i) = n / 2 ^ (L - 1 - i) / 2 := by
        rw [Nat.div_div_eq_div_mul, ← Nat.pow_succ]; congr 2; omega
      have hidx : L - (i + 1) = L - 1 - i := by omega
      have hW : W ((i : Int) + 1) = (i : Int) + 1 := W_id (by omega) (by omega)
      have hbit := Nat.mod_two_eq_zero_or_one (n / 2 ^ (L - 1 - i))
      rcases hbit with hbit | hbit
      · rw [hbit, if_neg (by simp)]
        unfold z8v
        rw [hW]
        refine hs _ ?_
        rw [hidx, hhalf]; congr 2; omega
      · rw [hbit, if_pos (by simp), zw1 (zhu _ _), hbm]
        have hm2 := zgb (zhu b (n / 2 ^ (L - i) + n / 2 ^ (L - i))) (Nat.mod_lt b (by decide : 0 < PP)) φ (by omega)
        unfold z8v
        rw [hW]
        have key : ∀ (X : Option (Int × Int)) (G : Int × Int → Option (Int × Int)) (K : Int → Option Int) (r : Int), (X.bind fun y => (G y).bind fun z => some z.2) = some r → (X.bind fun y => (G y).bind fun z => K z.2) = K r := by
          intro X G K r h
          cases X with
          | none => cases h
          | some y =>
            rw [Option.bind_some] at h ⊢
            cases hG : G y with
            | none => rw [hG] at h; cases h
            | some z => rw [hG, Option.bind_some] at h; rw [Option.bind_some, Option.some.inj h]
        have := key _ (fun y => z96 φ y.1 y.2 2305843009213690799) (fun v => z6k φ (b : Int) (n : Int) (L : Int) (z74 φ) k v ((i : Int) + 1)) _ hm2
        refine Eq.trans this ?_
        refine hs _ ?_
        rw [← zsp b, zol, hidx, hhalf]; congr 2; omega
  · intro k v hv
    rw [z6k, if_neg (by simp), hv]
    unfold z74
    rw [Nat.sub_self, Nat.pow_zero, Nat.div_one]
  · rw [Nat.sub_zero, Nat.div_eq_of_lt h1, zk7]; rfl
theorem zo1 (φ : Nat) (k : Int → Option Int) : ∀ (m : Nat) (a b c n : Nat), m ≤ 64 → b < 2 ^ m → m < n → a < PP → c < PP → z44 φ 2305843009213690799 k n (a : Int) (b : Int) (c : Int) = k (((c + a * b) % PP : Nat) : Int) := by
  intro m
  induction m with
  | zero =>
    intro a b c n hm64 hb hn ha hc
    obtain ⟨n, rfl⟩ : ∃ n', n = n' + 1 := ⟨n - 1, by omega⟩
    have : b = 0 := by simpa using hb
    subst this
    rw [z44, if_neg (by simp), Nat.mul_zero, Nat.add_zero, Nat.mod_eq_of_lt hc]
  | succ m ih =>
    intro a b c n hm64 hb hn ha hc
    obtain ⟨n, rfl⟩ : ∃ n', n = n' + 1 := ⟨n - 1, by omega⟩
    by_cases h0 : b = 0
    · subst h0
      rw [z44, if_neg (by simp), Nat.mul_zero, Nat.add_zero, Nat.mod_eq_of_lt hc]
    · rw [z44, if_pos (by simp; omega)]
      have e1 : (b : Int).tdiv 2 = ((b / 2 : Nat) : Int) := by rw [Int.tdiv_eq_ediv_of_nonneg (by omega)]; omega
      have e2 : (b : Int).tmod 2 = ((b % 2 : Nat) : Int) := by rw [Int.tmod_eq_emod_of_nonneg (by omega)]; omega
      have hbl : (b / 2 : Nat) < 2 ^ m := by rw [Nat.pow_succ] at hb; omega
      have h64 : (2 : Nat) ^ m ≤ 2 ^ 63 := Nat.pow_le_pow_right (by decide) (by omega)
      have hb2 : U ((b / 2 : Nat) : Int) = ((b / 2 : Nat) : Int) := U_id (by omega) (by omega)
      have ha0 := ha; have hc0 := hc
      unfold PP at ha hc
      have e3 : (U ((a : Int) + (a : Int))).tmod 2305843009213690799 = (((a + a) % PP : Nat) : Int) := by
        rw [U_id (by omega) (by omega), Int.tmod_eq_emod_of_nonneg (by omega)]; unfold PP; omega
      have e4 : (U ((c : Int) + (a : Int))).tmod 2305843009213690799 = (((c + a) % PP : Nat) : Int) := by
        rw [U_id (by omega) (by omega), Int.tmod_eq_emod_of_nonneg (by omega)]; unfold PP; omega
      unfold z80
      rw [e1, e2, e3, e4, hb2]
      have hab : a * b = (a + a) * (b / 2) + a * (b % 2) := by
        conv => lhs; rw [← Nat.div_add_mod b 2]
        rw [Nat.mul_add, ← Nat.mul_assoc]; congr 1; rw [Nat.mul_two]
      have hfin : ∀ c' : Nat, (c' + (a + a) % PP * (b / 2)) % PP = (c' + (a + a) * (b / 2)) % PP := fun c' => by
        rw [Nat.add_mod, Nat.mul_mod, Nat.mod_mod, ← Nat.mul_mod, ← Nat.add_mod]
      have hlt : ∀ z : Nat, z % PP < PP := fun z => Nat.mod_lt _ (by decide)
      rcases Nat.mod_two_eq_zero_or_one b with hbit | hbit
      · rw [hbit, if_neg (by simp), zj (by omega), ih ((a + a) % PP) (b / 2) c n (by omega) hbl (by omega) (hlt _) hc0, hfin, hab, hbit, Nat.mul_zero, Nat.add_zero]
      · rw [hbit, if_pos (by simp), zj (by omega), zj (by omega), ih ((a + a) % PP) (b / 2) ((c + a) % PP) n (by omega) hbl (by omega) (hlt _) (hlt _), hfin, hab, hbit, Nat.mul_one, Nat.mod_add_mod]
        congr 3; omega
theorem ze5 (φ : Nat) (hφ : 70 < φ) (a b : Nat) (ha : a < PP) (hb : b < PP) : za8 φ (a : Int) (b : Int) 2305843009213690799 = some ((a * b % PP : Nat) : Int) := by
  unfold za8
  have h64 : b < 2 ^ 64 := Nat.lt_trans hb (by decide)
  have := zo1 φ (z62 φ) 64 a b 0 φ (by omega) h64 (by omega) ha (by decide)
  rw [Nat.zero_add] at this
  exact this
theorem zr9 (φ : Nat) (hφ : 100 < φ) (k : Int → Option Int) : ∀ (m : Nat) (a e c n : Nat), m ≤ 64 → e < 2 ^ m → m < n → a < PP → c < PP → z5k φ k n (a : Int) (e : Int) (c : Int) = k ((c * pw a e % PP : Nat) : Int) := by
  intro m
  induction m with
  | zero =>
    intro a e c n _ he hn ha hc
    obtain ⟨n, rfl⟩ : ∃ n', n = n' + 1 := ⟨n - 1, by omega⟩
    have : e = 0 := by simpa using he
    subst this
    rw [z5k, if_neg (by simp), zk7, Nat.mul_one, Nat.mod_eq_of_lt hc]
  | succ m ih =>
    intro a e c n hm64 he hn ha hc
    obtain ⟨n, rfl⟩ : ∃ n', n = n' + 1 := ⟨n - 1, by omega⟩
    by_cases h0 : e = 0
    · subst h0
      rw [z5k, if_neg (by simp), zk7, Nat.mul_one, Nat.mod_eq_of_lt hc]
    · rw [z5k, if_pos (by simp; omega)]
      have e1 : (e : Int).tdiv 2 = ((e / 2 : Nat) : Int) := by rw [Int.tdiv_eq_ediv_of_nonneg (by omega)]; omega
      have e2 : (e : Int).tmod 2 = ((e % 2 : Nat) : Int) := by rw [Int.tmod_eq_emod_of_nonneg (by omega)]; omega
      have hel : (e / 2 : Nat) < 2 ^ m := by rw [Nat.pow_succ] at he; omega
      have h64 : (2 : Nat) ^ m ≤ 2 ^ 63 := Nat.pow_le_pow_right (by decide) (by omega)
      have hU : U ((e / 2 : Nat) : Int) = ((e / 2 : Nat) : Int) := U_id (by omega) (by omega)
      have hlt : ∀ z : Nat, z % PP < PP := fun z => Nat.mod_lt _ (by decide)
      unfold z94
      rw [e1, e2, hU, ze5 φ (by omega) a a ha ha]
      have hab : pw a e = pw (a * a % PP) (e / 2) * pw a (e % 2) % PP := by
        rw [zx7, zol, Nat.div_add_mod]
      rcases Nat.mod_two_eq_zero_or_one e with hbit | hbit
      · rw [hbit, if_neg (by simp), Option.bind_some, ih _ _ _ n (by omega) hel (by omega) (hlt _) hc, hab, hbit, zk7, Nat.mul_one, Nat.mod_eq_of_lt (zhu _ _)]
      · rw [hbit, if_pos (by simp), ze5 φ (by omega) c a hc ha, Option.bind_some, Option.bind_some, ih _ _ _ n (by omega) hel (by omega) (hlt _) (hlt _), hab, hbit, zsp, Nat.mod_eq_of_lt ha]
        congr 2
        rw [Nat.mod_mul_mod, Nat.mul_mod_mod, Nat.mul_assoc, Nat.mul_comm a]
theorem zl3 (φ : Nat) (hφ : 100 < φ) (b n : Nat) (hn : n < 18446744073709551616) : zdc φ (b : Int) (n : Int) = some ((pw b n : Nat) : Int) := by
  unfold zdc
  have hbm : ((b : Int)).tmod 2305843009213690799 = ((b % PP : Nat) : Int) := by
    rw [Int.tmod_eq_emod_of_nonneg (by omega)]; unfold PP; omega
  rw [hbm]
  have := zr9 φ hφ (z7o φ) 64 (b % PP) n 1 φ (by omega) (by simpa using hn) (by omega) (Nat.mod_lt _ (by decide)) (by decide)
  rw [zs2, Nat.one_mul, Nat.mod_eq_of_lt (zhu _ _)] at this
  exact this
/-- What Valid answers. -/
def zo4 (x : Int) : Bool := decide (2 ≤ x) && decide (x < 2305843009213690799) && (pw x.toNat QQ == 1)
theorem zho (a : Nat) : (((a : Nat) : Int) == 1) = (a == 1) := by
  rw [Bool.eq_iff_iff, beq_iff_eq, beq_iff_eq]; omega
theorem zkf (φ : Nat) (hφ : 100 < φ) (x : Int) : zci φ x = some (zo4 x) := by
  unfold zci zo4
  cases h : decide (2 ≤ x) && decide (x < 2305843009213690799) with
  | false => rw [z9n (by simp)]; simp
  | true =>
    simp only [Bool.and_eq_true, decide_eq_true_eq] at h
    have := zlw φ hφ x.toNat QQ (by omega) (by decide)
    rw [show ((x.toNat : Nat) : Int) = x by omega, show ((QQ : Nat) : Int) = 1152921504606845399 by decide] at this
    rw [z9p rfl, this, Option.bind_some, zho]
theorem ziy (φ : Nat) (hφ : 100 < φ) (x : Int) : zb9 φ x = some (zo4 x) := by
  unfold zb9 zo4
  cases h : decide (2 ≤ x) && decide (x < 2305843009213690799) with
  | false => rw [z9n (by simp)]; simp
  | true =>
    simp only [Bool.and_eq_true, decide_eq_true_eq] at h
    have := zl3 φ hφ x.toNat QQ (by decide)
    rw [show ((x.toNat : Nat) : Int) = x by omega, show ((QQ : Nat) : Int) = 1152921504606845399 by decide] at this
    rw [z9p rfl, this, Option.bind_some, zho]
end Px
end
section
namespace Px
open Go
set_option linter.unusedVariables false
set_option linter.unusedSimpArgs false
set_option maxRecDepth 100000
def zaf (p : z8g) : Bool := bet p.fKind 1 5 && bet p.fRailway 0 15 && (bif p.fKind == 3 then bet p.fOther 0 15 && (p.fOther != p.fRailway) else p.fOther == (-1))
def zc0 (n : Int) (e : Edge) : Bool := bet e.fA 0 (n - 1) && bet e.fB 0 (n - 1) && (e.fA != e.fB) && bet e.fRailway 0 15 && bet e.fMinutes 1 100000 && bet e.fKm 0 10000
def zbt (x : z7s) : Int := bif decide (512 < x.fPlaces.length) || decide (2048 < x.fEdges.length) then 2 else bif x.fPlaces.all zaf && x.fEdges.all (zc0 x.fPlaces.length) then 0 else 1
theorem zcy (φ : Nat) (a b c : Int) : z5a φ a b c = some (bet a b c) := rfl
theorem zgq (φ : Nat) (p : z8g) : z9u φ p = some (zaf p) := by
  have hb : (((decide (p.fKind < 1) || decide (5 < p.fKind)) || decide (p.fRailway < 0)) || decide (16 ≤ p.fRailway)) = !(bet p.fKind 1 5 && bet p.fRailway 0 15) := by
    rw [Bool.eq_iff_iff]; simp [bet]; omega
  unfold z9u zaf
  rw [hb]
  cases bet p.fKind 1 5 && bet p.fRailway 0 15 with
  | false => rfl
  | true =>
    rw [if_neg (by simp)]
    by_cases h : p.fKind = 3
    · have : (decide (0 ≤ p.fOther) && decide (p.fOther < 16)) = bet p.fOther 0 15 := by rw [Bool.eq_iff_iff]; simp [bet]; omega
      rw [if_neg (by simp [h]), this]; simp [h]
    · have h2 : (p.fKind == 3) = false := by simpa using h
      rw [if_pos (by simp [h]), h2]; rfl
theorem zj1 (φ : Nat) (p : z8g) : zba φ p = some (zaf p) := by
  unfold zba zaf
  simp only [zcy, Option.bind_some]
  cases bet p.fKind 1 5 with
  | false => rfl
  | true =>
    rw [z9p (by simp), Option.bind_some]
    cases bet p.fRailway 0 15 with
    | false => rfl
    | true =>
      rw [if_neg (by simp)]
      cases h : p.fKind == 3 with
      | false => rfl
      | true => rfl
theorem zkq (φ : Nat) (e : Edge) (n : Int) (h : W (n - 1) = n - 1) : zc5 φ e n = some (zc0 n e) := by
  unfold zc5 zc0
  simp only [zcy, Option.bind_some, h, z3d]
  cases bet e.fA 0 (n - 1) <;> cases bet e.fB 0 (n - 1) <;> cases (e.fA != e.fB) <;> cases bet e.fRailway 0 15 <;> cases bet e.fMinutes 1 100000 <;> cases bet e.fKm 0 10000 <;> rfl
theorem zqf (n : Int) (e : Edge) : ((((((decide ((min2 (min2 (min2 (e.fA) (e.fB)) (e.fRailway)) (e.fKm)) < 0) || decide (n ≤ (max2 (e.fA) (e.fB)))) || (e.fA == e.fB)) || decide (16 ≤ e.fRailway)) || decide (e.fMinutes < 1)) || decide (100000 < e.fMinutes)) || decide (10000 < e.fKm)) = !zc0 n e := by
  have hm : ∀ x y z : Int, z ≤ max2 x y ↔ z ≤ x ∨ z ≤ y := by intro x y z; unfold max2; split <;> omega
  have hok : zc0 n e = true ↔ ((((((0 ≤ e.fA ∧ e.fA ≤ n - 1) ∧ 0 ≤ e.fB ∧ e.fB ≤ n - 1) ∧ ¬ e.fA = e.fB) ∧ 0 ≤ e.fRailway ∧ e.fRailway ≤ 15) ∧ 1 ≤ e.fMinutes ∧ e.fMinutes ≤ 100000) ∧ 0 ≤ e.fKm ∧ e.fKm ≤ 10000) := by
    simp only [zc0, Bool.and_eq_true, zmr, bne_iff_ne, ne_eq]
  rw [Bool.eq_iff_iff, Bool.not_eq_true', ← Bool.not_eq_true, hok]
  simp only [Bool.or_eq_true, decide_eq_true_eq, zt9, hm, beq_iff_eq]
  omega
theorem znv (x : z7s) : (decide (512 < (x.fPlaces.length : Int)) || decide (2048 < (x.fEdges.length : Int))) = (decide (512 < x.fPlaces.length) || decide (2048 < x.fEdges.length)) := by
  congr 1 <;> (apply decide_eq_decide.2; omega)
theorem zgn (φ : Nat) (hφ : 5000 < φ) (x : z7s) : za5 φ x = some (zbt x) := by
  unfold za5 zbt
  rw [znv]
  cases h : decide (512 < x.fPlaces.length) || decide (2048 < x.fEdges.length) with
  | true => rfl
  | false =>
    simp only [Bool.or_eq_false_iff, decide_eq_false_iff_not, Nat.not_lt] at h
    rw [if_neg (by simp), z99 (z50 φ x (z4q φ x)) (z4q φ x) (some 1) x.fPlaces (fun t => !zaf t) ?_ ?_ φ (by omega)]
    · unfold z4q
      rw [z99 (z4y φ x (z4x φ)) (z4x φ) (some 1) x.fEdges (fun t => !zc0 x.fPlaces.length t) ?_ ?_ φ (by omega)]
      · simp only [List.any_eq_not_all_not, Bool.not_not]
        cases x.fPlaces.all zaf <;> cases x.fEdges.all (zc0 x.fPlaces.length) <;> rfl
      · intro n i hi
        rw [z4y, if_pos (by simp; omega), zj ⟨by omega, by omega⟩, zqf, W_id (by omega) (by omega)]
        cases zc0 x.fPlaces.length (gt x.fEdges i) <;> rfl
      · intro n; rw [z4y, if_neg (by simp)]
    · intro n i hi
      rw [z50, if_pos (by simp; omega), zj ⟨by omega, by omega⟩, zgq, Option.bind_some, W_id (by omega) (by omega)]
      cases zaf (gt x.fPlaces i) <;> rfl
    · intro n; rw [z50, if_neg (by simp)]
theorem zik (φ : Nat) (hφ : 5000 < φ) (x : z7s) : zbh φ x = some (zbt x) := by
  unfold zbh zbt
  rw [znv]
  cases h : decide (512 < x.fPlaces.length) || decide (2048 < x.fEdges.length) with
  | true => rfl
  | false =>
    simp only [Bool.or_eq_false_iff, decide_eq_false_iff_not, Nat.not_lt] at h
    rw [if_neg (by simp), z99 (z6a φ x (z5z φ x)) (z5z φ x) (some 1) x.fPlaces (fun t => !zaf t) ?_ ?_ φ (by omega)]
    · unfold z5z
      rw [z99 (z65 φ x (z6b φ)) (z6b φ) (some 1) x.fEdges (fun t => !zc0 x.fPlaces.length t) ?_ ?_ φ (by omega)]
      · simp only [List.any_eq_not_all_not, Bool.not_not]
        cases x.fPlaces.all zaf <;> cases x.fEdges.all (zc0 x.fPlaces.length) <;> rfl
      · intro n i hi
        rw [z65, if_pos (by simp; omega), zj ⟨by omega, by omega⟩, zkq _ _ _ (W_id (by omega) (by omega)), Option.bind_some, W_id (by omega) (by omega)]
        cases zc0 x.fPlaces.length (gt x.fEdges i) <;> rfl
      · intro n; rw [z65, if_neg (by simp)]
    · intro n i hi
      rw [z6a, if_pos (by simp; omega), zj ⟨by omega, by omega⟩, zj1, Option.bind_some, W_id (by omega) (by omega)]
      cases zaf (gt x.fPlaces i) <;> rfl
    · intro n; rw [z6a, if_neg (by simp)]
theorem zl7 {x : z7s} (h : zbt x = 0) : x.fPlaces.length ≤ 512 ∧ x.fEdges.length ≤ 2048 ∧ (∀ p ∈ x.fPlaces, zaf p = true) ∧ ∀ e ∈ x.fEdges, zc0 x.fPlaces.length e = true := by
  unfold zbt at h
  cases h1 : decide (512 < x.fPlaces.length) || decide (2048 < x.fEdges.length) with
  | true => rw [h1] at h; cases h
  | false =>
    rw [h1] at h
    cases h2 : x.fPlaces.all zaf && x.fEdges.all (zc0 x.fPlaces.length) with
    | false => rw [h2] at h; cases h
    | true =>
      simp only [Bool.or_eq_false_iff, decide_eq_false_iff_not, Nat.not_lt] at h1
      simp only [Bool.and_eq_true, List.all_eq_true] at h2
      exact ⟨h1.1, h1.2, h2⟩
/-- What Check says of a calendar. -/
def zks : Int → List Int → Bool
  | _, [] => true
  | p, h :: t => decide (p < h) && decide (h ≤ 745654) && zks h t
def zfe (s : Span) : Bool := decide (0 ≤ s.fFrom) && decide (s.fFrom ≤ s.fTo) && decide (s.fTo ≤ 1440)
def zfs (c : z2w) : Bool := ((List.range 7).all fun i => zfe (c.fOpen i)) && zks (-1) c.fHolidays
theorem zth (φ : Nat) (c : z2w) : ∀ (n i : Nat) (p : Int), -1 ≤ p → (i : Int) ≤ p + 1 → p ≤ 745654 → i ≤ c.fHolidays.length → 745656 ≤ (n : Int) + p → z51 φ c (z5q φ) n p i = some (bif zks p (c.fHolidays.drop i) then 0 else 1) := by
  intro n
  induction n with
  | zero => intro i p _ _ _ _ _; omega
  | succ n ih =>
    intro i p hp hip hp2 hi hn
    by_cases h : i = c.fHolidays.length
    · rw [h, z51, if_neg (by simp), List.drop_length]; rfl
    · rw [z51, if_pos (by simp; omega), zj ⟨by omega, by omega⟩, zmf _ _ (by omega)]
      by_cases hb : gt c.fHolidays i ≤ p ∨ 745654 < gt c.fHolidays i
      · have : (decide (p < gt c.fHolidays i) && decide (gt c.fHolidays i ≤ 745654)) = false := by simp; omega
        rw [if_pos (by simpa using hb)]
        simp [zks, this]
      · have h2 : (decide (p < gt c.fHolidays i) && decide (gt c.fHolidays i ≤ 745654)) = true := by simp; omega
        rw [if_neg (by simpa using hb), W_id (by omega) (by omega)]
        have := ih (i + 1) (gt c.fHolidays i) (by omega) (by omega) (by omega) (by omega) (by omega)
        rw [show ((i + 1 : Nat) : Int) = (i : Int) + 1 by omega] at this
        rw [this]
        simp [zks, h2]
theorem zfc (s : Span) : ((decide (s.fFrom < 0) || decide (s.fTo < s.fFrom)) || decide (1440 < s.fTo)) = !zfe s := by
  rw [Bool.eq_iff_iff]; simp [zfe]
  try omega
theorem zfj (φ : Nat) (hφ : 800000 < φ) (c : z2w) : z9d φ c = some (bif zfs c then 0 else 1) := by
  unfold z9d
  refine z56 (fun n i (_ : Unit) => z4g φ c (z4z φ c) n i) 7 (fun i _ => ((List.range i).all fun j => zfe (c.fOpen j)) = true) (fun o => o = some (bif zfs c then 0 else 1)) ?_ ?_ φ () (by simp) (by omega)
  · intro n i _ hi h hs
    rw [z4g, if_pos (by simp; omega), zj ⟨by omega, by omega⟩, Int.toNat_natCast, zfc, W_id (by omega) (by omega)]
    cases ho : zfe (c.fOpen i) with
    | true =>
      rw [if_neg (by simp)]
      exact hs () (by rw [zan, h, ho]; rfl)
    | false =>
      have : zfs c = false := by
        unfold zfs
        have : ((List.range 7).all fun j => zfe (c.fOpen j)) = false := by
          rw [List.all_eq_false]; exact ⟨i, by simp; omega, by simp [ho]⟩
        rw [this]; rfl
      rw [if_pos (by simp), this]; rfl
  · intro n _ h
    rw [z4g, if_neg (by simp)]
    unfold z4z zfs
    rw [h, Bool.true_and]
    have := zth φ c φ 0 (-1) (by omega) (by omega) (by omega) (by omega) (by omega)
    simpa using this
def zbq (l : List Int) (i : Nat) : Int := if i = 0 then -1 else gt l ((i : Int) - 1)
theorem zri (φ : Nat) (c : z2w) : ∀ (n i : Nat), -1 ≤ zbq c.fHolidays i → (i : Int) ≤ zbq c.fHolidays i + 1 → zbq c.fHolidays i ≤ 745654 → i ≤ c.fHolidays.length → 745656 ≤ (n : Int) + zbq c.fHolidays i → z6t φ c (z7w φ) n i = some (bif zks (zbq c.fHolidays i) (c.fHolidays.drop i) then 0 else 1) := by
  intro n
  induction n with
  | zero => intro i _ _ _ _ _; omega
  | succ n ih =>
    intro i hp hip hp2 hi hn
    by_cases h : i = c.fHolidays.length
    · rw [z6t, if_neg (by rw [h]; simp), h, List.drop_length]; rfl
    · have hW : W ((i : Int) - 1) = (i : Int) - 1 := W_id (by omega) (by omega)
      rw [z6t, if_pos (by simp; omega), zj ⟨by omega, by omega⟩, hW, zj (fun h => by have := h.2; simp at this; omega), zmf _ _ (by omega)]
      have hc : ((decide ((gt c.fHolidays i) < 0) || decide (745654 < (gt c.fHolidays i))) || (decide (0 < (i : Int)) && decide ((gt c.fHolidays i) ≤ (gt c.fHolidays ((i : Int) - 1))))) = !(decide (zbq c.fHolidays i < gt c.fHolidays i) && decide (gt c.fHolidays i ≤ 745654)) := by
        unfold zbq at *
        rw [Bool.eq_iff_iff]
        by_cases h0 : i = 0
        · subst h0; simp; omega
        · rw [if_neg h0] at *; simp; omega
      rw [hc]
      cases hb : decide (zbq c.fHolidays i < gt c.fHolidays i) && decide (gt c.fHolidays i ≤ 745654) with
      | false => rw [if_pos (by simp)]; simp [zks, hb]
      | true =>
        rw [if_neg (by simp), W_id (by omega) (by omega)]
        have hpe : zbq c.fHolidays (i + 1) = gt c.fHolidays i := by
          unfold zbq
          rw [if_neg (by omega)]; congr 1; omega
        have hb' := hb
        simp only [Bool.and_eq_true, decide_eq_true_eq] at hb'
        have := ih (i + 1) (by rw [hpe]; omega) (by rw [hpe]; omega) (by rw [hpe]; omega) (by omega) (by rw [hpe]; omega)
        rw [hpe, show ((i + 1 : Nat) : Int) = (i : Int) + 1 by omega] at this
        rw [this]
        simp [zks, hb]
theorem zit (φ : Nat) (hφ : 800000 < φ) (c : z2w) : zbo φ c = some (bif zfs c then 0 else 1) := by
  unfold zbo
  refine z56 (fun n i (_ : Unit) => z69 φ c (z6u φ c) n i) 7 (fun i _ => ((List.range i).all fun j => zfe (c.fOpen j)) = true) (fun o => o = some (bif zfs c then 0 else 1)) ?_ ?_ φ () (by simp) (by omega)
  · intro n i _ hi h hs
    rw [z69, if_pos (by simp; omega), zj ⟨by omega, by omega⟩, Int.toNat_natCast, zfc, W_id (by omega) (by omega)]
    cases ho : zfe (c.fOpen i) with
    | true =>
      rw [if_neg (by simp)]
      exact hs () (by rw [zan, h, ho]; rfl)
    | false =>
      have : zfs c = false := by
        unfold zfs
        have : ((List.range 7).all fun j => zfe (c.fOpen j)) = false := by
          rw [List.all_eq_false]; exact ⟨i, by simp; omega, by simp [ho]⟩
        rw [this]; rfl
      rw [if_pos (by simp), this]; rfl
  · intro n _ h
    rw [z69, if_neg (by simp)]
    unfold z6u zfs
    rw [h, Bool.true_and]
    have := zri φ c φ 0 (by simp [zbq]) (by simp [zbq]) (by simp [zbq]) (by omega) (by simp [zbq]; omega)
    simpa [zbq] using this
end Px
end
section
namespace Px
open Go
set_option linter.unusedVariables false
set_option linter.unusedSimpArgs false
set_option maxRecDepth 100000
/-- A loop that gathers a flag. -/
theorem zfu {α ρ : Type} [Inhabited α] (L : Nat → Bool → Int → Option ρ) (k : Bool → Option ρ) (l : List α) (p : α → Bool)
    (step : ∀ (n i : Nat) (s : Bool), i < l.length → L (n + 1) s i = L n (s || p (gt l i)) ((i : Int) + 1)) (done : ∀ n s, L (n + 1) s l.length = k s) (n : Nat) (s : Bool) (hn : l.length < n) : L n s 0 = k (s || l.any p) := by
  refine z56 (fun n i t => L n t i) l.length (fun i t => t = (s || (l.take i).any p)) (fun o => o = k (s || l.any p)) ?_ ?_ n s (by simp) hn
  · intro n i t hi ht hs
    rw [step n i t hi]
    exact hs _ (by rw [z9z _ _ _ hi, ht, Bool.or_assoc])
  · intro n t ht
    rw [List.take_length] at ht
    rw [done, ht]
def za3 (n : Int) (r : zev) : Bool := (((!bet r.fPlace 0 (n - 1)) || decide (r.fLow < (-1000))) || decide (r.fHigh < r.fLow)) || decide (1000 < r.fHigh)
def z93 (x : z7s) (s : zcn) : Bool := (!bet s.fPlace 0 ((x.fPlaces.length : Int) - 1)) || ((gt x.fPlaces s.fPlace).fKind != 4)
def zeg (r : z2p) : Bool := !zfs r.fCalendar || !zo4 r.fKey
def zk3 (x : Pool) : Bool :=
  ((((((x.fRailways.length : Int) == 0) || x.fReaders.any (za3 x.fNetwork.fPlaces.length)) || x.fShippers.any (z93 x.fNetwork)) || x.fFleet.fWagons.any (fun w => decide ((x.fNetwork.fPlaces.length : Int) ≤ w.fHome))) ||
  x.fNetwork.fPlaces.any (fun p => decide ((x.fRailways.length : Int) ≤ p.fRailway) || decide ((x.fRailways.length : Int) ≤ p.fOther))) || x.fNetwork.fEdges.any (fun e => decide ((x.fRailways.length : Int) ≤ e.fRailway)) || x.fRailways.any zeg
def zeb (x : Pool) : Bool := (decide (256 < (x.fReaders.length : Int)) || decide (256 < (x.fShippers.length : Int))) || decide (16 < (x.fRailways.length : Int))
/-- What CheckPool answers. -/
def z7u (x : Pool) : Int := if zbt x.fNetwork ≠ 0 then zbt x.fNetwork else if z9b x.fFleet ≠ 0 then z9b x.fFleet else bif zeb x then 2 else bif zk3 x then 1 else 0
theorem z8o (φ : Nat) (hφ : 800000 < φ) (x : Pool) : z5g φ x = some (z7u x) := by
  unfold z5g z7u
  rw [zgn _ (by omega), Option.bind_some]
  by_cases hn : zbt x.fNetwork = 0
  case neg => rw [if_pos (by simp [hn]), if_pos hn]
  rw [if_neg (by simp [hn]), if_neg (fun e : zbt x.fNetwork ≠ 0 => e hn), zj5 _ (by omega), Option.bind_some]
  by_cases hf : z9b x.fFleet = 0
  case neg => rw [if_pos (by simp [hf]), if_pos hf]
  rw [if_neg (by simp [hf]), if_neg (fun e : z9b x.fFleet ≠ 0 => e hf)]
  cases hb : zeb x with
  | true =>
    have e : (((decide (256 < (x.fReaders.length : Int)) || decide (256 < (x.fShippers.length : Int))) || decide (16 < (x.fRailways.length : Int)))) = zeb x := rfl
    rw [e, hb]; rfl
  | false =>
    have hb' : ¬ (((decide (256 < (x.fReaders.length : Int)) || decide (256 < (x.fShippers.length : Int))) || decide (16 < (x.fRailways.length : Int))) = true) := by
      rw [show (((decide (256 < (x.fReaders.length : Int)) || decide (256 < (x.fShippers.length : Int))) || decide (16 < (x.fRailways.length : Int)))) = zeb x from rfl, hb]; simp
    rw [if_neg hb']
    simp only [Bool.or_eq_true, decide_eq_true_eq, not_or] at hb'
    obtain ⟨n1, n2, _, _⟩ := zl7 hn
    obtain ⟨f1, f2, _⟩ := zel hf
    have hp : W ((x.fNetwork.fPlaces.length : Int) - 1) = (x.fNetwork.fPlaces.length : Int) - 1 := W_id (by omega) (by omega)
    rw [zfu (z3m φ x (z3j φ x)) (z3j φ x) x.fReaders (za3 x.fNetwork.fPlaces.length) ?_ ?_ φ _ (by omega)]
    rotate_left
    · intro n i s hi
      rw [z3m, if_pos (by simp; omega), zj ⟨by omega, by omega⟩, hp, W_id (by omega) (by omega)]
      unfold za3
      cases s with
      | true => rw [z9n (by simp)]; rfl
      | false => rw [z9p rfl]; rfl
    · intro n s; rw [z3m, if_neg (by simp)]
    unfold z3j
    rw [zfu (z3x φ x (z3h φ x)) (z3h φ x) x.fShippers (z93 x.fNetwork) ?_ ?_ φ _ (by omega)]
    rotate_left
    · intro n i s hi
      rw [z3x, if_pos (by simp; omega), zj ⟨by omega, by omega⟩, hp, W_id (by omega) (by omega)]
      unfold z93
      cases s with
      | true => rw [z9n (by simp), Option.bind_some, zj (by simp)]; rfl
      | false =>
        rw [z9p rfl, z7d, Option.bind_some]
        cases hbt : bet (gt x.fShippers i).fPlace 0 ((x.fNetwork.fPlaces.length : Int) - 1) with
        | true => rw [zj (fun _ => by have := zo6 hbt; omega)]; rfl
        | false => rw [zj (by simp)]; rfl
    · intro n s; rw [z3x, if_neg (by simp)]
    unfold z3h
    rw [zfu (z41 φ x (z3l φ x)) (z3l φ x) x.fFleet.fWagons (fun w => decide ((x.fNetwork.fPlaces.length : Int) ≤ w.fHome)) ?_ ?_ φ _ (by omega)]
    rotate_left
    · intro n i s hi
      rw [z41, if_pos (by simp; omega), zj ⟨by omega, by omega⟩, W_id (by omega) (by omega)]
    · intro n s; rw [z41, if_neg (by simp)]
    unfold z3l
    rw [zfu (z3t φ x (z3i φ x)) (z3i φ x) x.fNetwork.fPlaces (fun p => decide ((x.fRailways.length : Int) ≤ p.fRailway) || decide ((x.fRailways.length : Int) ≤ p.fOther)) ?_ ?_ φ _ (by omega)]
    rotate_left
    · intro n i s hi
      rw [z3t, if_pos (by simp; omega), zj ⟨by omega, by omega⟩, W_id (by omega) (by omega), Bool.or_assoc]
    · intro n s; rw [z3t, if_neg (by simp)]
    unfold z3i
    rw [zfu (z3v φ x (z3f φ x)) (z3f φ x) x.fNetwork.fEdges (fun e => decide ((x.fRailways.length : Int) ≤ e.fRailway)) ?_ ?_ φ _ (by omega)]
    rotate_left
    · intro n i s hi
      rw [z3v, if_pos (by simp; omega), zj ⟨by omega, by omega⟩, W_id (by omega) (by omega)]
    · intro n s; rw [z3v, if_neg (by simp)]
    unfold z3f
    rw [zfu (z3u φ x (z35 φ)) (z35 φ) x.fRailways zeg ?_ ?_ φ _ (by omega)]
    rotate_left
    · intro n i s hi
      rw [z3u, if_pos (by simp; omega), zj ⟨by omega, by omega⟩, W_id (by omega) (by omega)]
      unfold zeg
      cases s with
      | true => rw [z9n (by simp), Option.bind_some, z9n (by simp)]; rfl
      | false =>
        rw [z9p rfl, zfj _ hφ, Option.bind_some]
        cases zfs (gt x.fRailways i).fCalendar with
        | false => rw [z9n (by simp)]; rfl
        | true => rw [z9p (by simp), zkf _ (by omega)]; rfl
    · intro n s; rw [z3u, if_neg (by simp)]
    show z35 φ (zk3 x) = _
    unfold z35
    cases zk3 x <;> rfl
theorem zk2 (φ : Nat) (hφ : 800000 < φ) (x : Pool) (h1 : x.fNetwork.fPlaces.length ≤ 512) (h2 : x.fFleet.fWagons.length ≤ 4096) (h3 : x.fReaders.length ≤ 256) (h4 : x.fShippers.length ≤ 256) :
    zce φ x = some (!((x.fReaders.any (za3 x.fNetwork.fPlaces.length) || x.fShippers.any (z93 x.fNetwork)) || x.fFleet.fWagons.any (fun w => decide ((x.fNetwork.fPlaces.length : Int) ≤ w.fHome)))) := by
  have hp : W ((x.fNetwork.fPlaces.length : Int) - 1) = (x.fNetwork.fPlaces.length : Int) - 1 := W_id (by omega) (by omega)
  unfold zce
  rw [z99 (z6q φ x (z6n φ x)) (z6n φ x) (some false) x.fReaders (za3 x.fNetwork.fPlaces.length) ?_ ?_ φ (by omega)]
  rotate_left
  · intro n i hi
    rw [z6q, if_pos (by simp; omega), zj ⟨by omega, by omega⟩, hp, W_id (by omega) (by omega), z84, Option.bind_some]
    show (if za3 x.fNetwork.fPlaces.length (gt x.fReaders i) = true then some false else _) = _
    cases za3 x.fNetwork.fPlaces.length (gt x.fReaders i) <;> rfl
  · intro n; rw [z6q, if_neg (by simp)]
  unfold z6n
  rw [z99 (z6r φ x (z6o φ x)) (z6o φ x) (some false) x.fShippers (z93 x.fNetwork) ?_ ?_ φ (by omega)]
  rotate_left
  · intro n i hi
    rw [z6r, if_pos (by simp; omega), zj ⟨by omega, by omega⟩, hp, W_id (by omega) (by omega), z84, Option.bind_some, zj (fun h => by
      simp only [Bool.not_eq_false'] at h
      have := zo6 h; omega)]
    show (if z93 x.fNetwork (gt x.fShippers i) = true then some false else _) = _
    cases z93 x.fNetwork (gt x.fShippers i) <;> rfl
  · intro n; rw [z6r, if_neg (by simp)]
  unfold z6o
  rw [z99 (z7n φ x (z7k φ)) (z7k φ) (some false) x.fFleet.fWagons (fun w => decide ((x.fNetwork.fPlaces.length : Int) ≤ w.fHome)) ?_ ?_ φ (by omega)]
  rotate_left
  · intro n i hi
    rw [z7n, if_pos (by simp; omega), zj ⟨by omega, by omega⟩, W_id (by omega) (by omega)]
    cases decide ((x.fNetwork.fPlaces.length : Int) ≤ (gt x.fFleet.fWagons i).fHome) <;> rfl
  · intro n; rw [z7n, if_neg (by simp)]
  cases x.fReaders.any (za3 x.fNetwork.fPlaces.length) <;> cases x.fShippers.any (z93 x.fNetwork) <;> cases x.fFleet.fWagons.any (fun w => decide ((x.fNetwork.fPlaces.length : Int) ≤ w.fHome)) <;> rfl
theorem zio (φ : Nat) (hφ : 800000 < φ) (x : Pool) (h1 : x.fNetwork.fPlaces.length ≤ 512) (h2 : x.fNetwork.fEdges.length ≤ 2048) :
    zbd φ x = some (!(x.fNetwork.fPlaces.any (fun p => decide ((x.fRailways.length : Int) ≤ p.fRailway) || decide ((x.fRailways.length : Int) ≤ p.fOther)) || x.fNetwork.fEdges.any (fun e => decide ((x.fRailways.length : Int) ≤ e.fRailway)))) := by
  unfold zbd
  rw [z99 (z6d φ x (z60 φ x)) (z60 φ x) (some false) x.fNetwork.fPlaces (fun p => decide ((x.fRailways.length : Int) ≤ p.fRailway) || decide ((x.fRailways.length : Int) ≤ p.fOther)) ?_ ?_ φ (by omega)]
  rotate_left
  · intro n i hi
    rw [z6d, if_pos (by simp; omega), zj ⟨by omega, by omega⟩, W_id (by omega) (by omega)]
    cases decide ((x.fRailways.length : Int) ≤ (gt x.fNetwork.fPlaces i).fRailway) || decide ((x.fRailways.length : Int) ≤ (gt x.fNetwork.fPlaces i).fOther) <;> rfl
  · intro n; rw [z6d, if_neg (by simp)]
  unfold z60
  rw [z99 (z6p φ x (z6v φ)) (z6v φ) (some false) x.fNetwork.fEdges (fun e => decide ((x.fRailways.length : Int) ≤ e.fRailway)) ?_ ?_ φ (by omega)]
  rotate_left
  · intro n i hi
    rw [z6p, if_pos (by simp; omega), zj ⟨by omega, by omega⟩, W_id (by omega) (by omega)]
    cases decide ((x.fRailways.length : Int) ≤ (gt x.fNetwork.fEdges i).fRailway) <;> rfl
  · intro n; rw [z6p, if_neg (by simp)]
  cases x.fNetwork.fPlaces.any (fun p => decide ((x.fRailways.length : Int) ≤ p.fRailway) || decide ((x.fRailways.length : Int) ≤ p.fOther)) <;> cases x.fNetwork.fEdges.any (fun e => decide ((x.fRailways.length : Int) ≤ e.fRailway)) <;> rfl
theorem zf4 (φ : Nat) (hφ : 800000 < φ) (x : Pool) : z8r φ x = some (z7u x) := by
  unfold z8r z7u
  rw [zik _ (by omega), Option.bind_some]
  by_cases hn : zbt x.fNetwork = 0
  case neg => rw [if_pos (by simp [hn]), if_pos hn]
  rw [if_neg (by simp [hn]), if_neg (fun e : zbt x.fNetwork ≠ 0 => e hn), zis _ (by omega), Option.bind_some]
  by_cases hf : z9b x.fFleet = 0
  case neg => rw [if_pos (by simp [hf]), if_pos hf]
  rw [if_neg (by simp [hf]), if_neg (fun e : z9b x.fFleet ≠ 0 => e hf)]
  cases hb : zeb x with
  | true =>
    have e : (((decide (256 < (x.fReaders.length : Int)) || decide (256 < (x.fShippers.length : Int))) || decide (16 < (x.fRailways.length : Int)))) = zeb x := rfl
    rw [e, hb]; rfl
  | false =>
    have hb' : ¬ (((decide (256 < (x.fReaders.length : Int)) || decide (256 < (x.fShippers.length : Int))) || decide (16 < (x.fRailways.length : Int))) = true) := by
      rw [show (((decide (256 < (x.fReaders.length : Int)) || decide (256 < (x.fShippers.length : Int))) || decide (16 < (x.fRailways.length : Int)))) = zeb x from rfl, hb]; simp
    rw [if_neg hb']
    simp only [Bool.or_eq_true, decide_eq_true_eq, not_or] at hb'
    obtain ⟨n1, n2, _, _⟩ := zl7 hn
    obtain ⟨f1, f2, _⟩ := zel hf
    rw [zk2 φ hφ _ n1 f2 (by omega) (by omega), Option.bind_some, zio φ hφ _ n1 n2]
    have hL : z3g φ x (z2t φ x) φ 0 = bif x.fRailways.any zeg then some 1 else z2t φ x := by
      refine z99 (z3g φ x (z2t φ x)) (z2t φ x) (some 1) x.fRailways zeg ?_ ?_ φ (by omega)
      · intro n i hi
        rw [z3g, if_pos (by simp; omega), zj ⟨by omega, by omega⟩, W_id (by omega) (by omega), zit _ hφ, Option.bind_some]
        unfold zeg
        cases zfs (gt x.fRailways i).fCalendar with
        | false => rw [z9n (by simp)]; rfl
        | true =>
          rw [z9p (by simp), ziy _ (by omega), Option.bind_some]
          cases zo4 (gt x.fRailways i).fKey <;> rfl
      · intro n; rw [z3g, if_neg (by simp)]
    rw [hL]
    unfold z2t zk3
    cases x.fReaders.any (za3 x.fNetwork.fPlaces.length) <;> cases x.fShippers.any (z93 x.fNetwork) <;> cases x.fFleet.fWagons.any (fun w => decide ((x.fNetwork.fPlaces.length : Int) ≤ w.fHome)) <;>
      cases x.fNetwork.fPlaces.any (fun p => decide ((x.fRailways.length : Int) ≤ p.fRailway) || decide ((x.fRailways.length : Int) ≤ p.fOther)) <;> cases x.fNetwork.fEdges.any (fun e => decide ((x.fRailways.length : Int) ≤ e.fRailway)) <;>
      cases x.fRailways.any zeg <;> cases ((x.fRailways.length : Int) == 0) <;> rfl
end Px
end
section
namespace Px
open Go
set_option linter.unusedVariables false
set_option linter.unusedSimpArgs false
set_option maxRecDepth 100000
def zqt (it : Item) : Bool := bif zdi it.fRef (Ref.mk 0 0) then it.fKind != 14 else (((decide (0 ≤ it.fRef.fRailway) && decide (it.fRef.fRailway < 16)) && decide (1 ≤ it.fRef.fNo)) && decide (it.fRef.fNo ≤ 4096))
theorem zh0 (φ : Nat) (it : Item) : z9v φ it = some (zqt it) := by
  unfold z9v zqt
  cases zdi it.fRef (Ref.mk 0 0) <;> rfl
theorem zhp (φ : Nat) (hφ : 11 < φ) (it : Item) (v : Bool) :
    z59 φ it (z67 φ it) φ 0 v = some (((v && [0, 0, 0, it.fNumber, 0, it.fTo, 0, it.fDest, it.fClass, it.fWeight, it.fAmount].all fun x => x == 0) && (it.fText == zhc)) && ((it.fParts.length : Int) == 0)) := by
  refine z56 (z59 φ it (z67 φ it)) 11 (fun n s => s = (v && ([0, 0, 0, it.fNumber, 0, it.fTo, 0, it.fDest, it.fClass, it.fWeight, it.fAmount].take n).all fun x => x == 0)) (fun o => o = some (((v && [0, 0, 0, it.fNumber, 0, it.fTo, 0, it.fDest, it.fClass, it.fWeight, it.fAmount].all fun x => x == 0) && (it.fText == zhc)) && ((it.fParts.length : Int) == 0))) ?_ ?_ φ v (by simp) hφ
  · intro n m s hm hs hk
    rw [z59, if_pos (by simp; omega), zj ⟨by omega, by omega⟩, W_id (by omega) (by omega)]
    refine hk _ ?_
    rw [zer _ _ _ hm, hs, Bool.and_assoc]
  · intro n s hs
    rw [z59, if_neg (by simp), hs]
    rfl
def plIn (p : Pool) (it : Item) : Bool := decide (0 ≤ it.fPlace) && decide (it.fPlace < (p.fNetwork.fPlaces.length : Int))
/-- The fields of a delivery or a receipt. -/
def zpa (p : Pool) (it : Item) : Bool :=
  plIn p it && bet it.fWagon 0 ((p.fFleet.fWagons.length : Int) - 1) && ((gt p.fNetwork.fPlaces it.fPlace).fKind == 3) && ((it.fOther == (gt p.fNetwork.fPlaces it.fPlace).fRailway) || (it.fOther == (gt p.fNetwork.fPlaces it.fPlace).fOther)) &&
  bet it.fFrom 0 1073741824 && bet it.fCode 0 8 && (it.fNumber == 0) && (it.fTo == 0) && (it.fDest == 0) && (it.fClass == 0) && (it.fWeight == 0) && (it.fAmount == 0) && (it.fText == zhc) && ((it.fParts.length : Int) == 0)
theorem zib (φ : Nat) (hφ : 11 < φ) (p : Pool) (it : Item) (hk : it.fKind = 3 ∨ it.fKind = 4) (hw : p.fFleet.fWagons.length ≤ 4096) : zb6 φ p it = some (zpa p it) := by
  have h161 : zb6 φ p it = z7p φ p it true := by
    unfold zb6
    rcases hk with h | h <;> simp only [h] <;> rfl
  have hW : W ((p.fFleet.fWagons.length : Int) - 1) = (p.fFleet.fWagons.length : Int) - 1 := W_id (by omega) (by omega)
  rw [h161]
  unfold z7p z8i zpa
  rw [if_pos rfl]
  have hpl : (decide (0 ≤ it.fPlace) && decide (it.fPlace < (p.fNetwork.fPlaces.length : Int))) = plIn p it := rfl
  rw [hpl, hW]
  cases hp : plIn p it with
  | true =>
    unfold plIn at hp
    rw [if_pos rfl, zj (by simpa using hp), zhp φ hφ]
    congr 1
    unfold bet
    generalize (it.fText == zhc) = z
    rw [Bool.eq_iff_iff]
    simp only [List.all_cons, List.all_nil, Bool.and_eq_true, Bool.or_eq_true, decide_eq_true_eq, beq_iff_eq, bne_iff_ne, ne_eq, beq_self_eq_true, true_and, and_true]
    generalize (gt p.fNetwork.fPlaces it.fPlace).fKind = k
    constructor
    · intro h
      obtain ⟨⟨⟨h1, h2⟩, h3⟩, h4⟩ := h
      refine ⟨⟨⟨⟨⟨⟨⟨⟨⟨⟨⟨⟨?_, ?_⟩, ?_⟩, ?_⟩, ?_⟩, ?_⟩, ?_⟩, ?_⟩, ?_⟩, ?_⟩, ?_⟩, h3⟩, h4⟩ <;> first | omega | grind
    · intro h
      grind
  | false =>
    rw [if_neg (by simp), zhp φ hφ]
    simp
/-- Whether an item that is a delivery or a receipt is valid. -/
def okDR (p : Pool) (it : Item) : Bool := zqt it && zpa p it
theorem zai (φ : Nat) (hφ : 800000 < φ) (p : Pool) (it : Item) (hk : it.fKind = 3 ∨ it.fKind = 4) :
    z8x φ p it = some (if z7u p ≠ 0 then z7u p else if okDR p it = true then 0 else 110) := by
  unfold z8x
  simp only [Pool.eta', Item.eta', z8o φ hφ, zh0, Option.bind_some]
  by_cases h : z7u p = 0
  · rw [if_neg (by simp [h]), if_neg (fun e : z7u p ≠ 0 => e h)]
    unfold okDR
    have hw : p.fFleet.fWagons.length ≤ 4096 := by
      unfold z7u at h
      by_cases hn : zbt p.fNetwork = 0
      · rw [if_neg (fun e : zbt p.fNetwork ≠ 0 => e hn)] at h
        by_cases hf : z9b p.fFleet = 0
        · exact (zel hf).2.1
        · rw [if_pos hf] at h; exact absurd h hf
      · rw [if_pos hn] at h; exact absurd h hn
    cases hr : zqt it with
    | false => rw [z9n (by simp)]; rfl
    | true =>
      rw [z9p (by simp), zib φ (by omega) p it hk hw]
      cases zpa p it <;> rfl
  · rw [if_pos (by simp [h]), if_pos h]
theorem zcg {p : Pool} {it : Item} (h : okDR p it = true) : (0 ≤ it.fPlace ∧ it.fPlace < (p.fNetwork.fPlaces.length : Int)) ∧ (0 ≤ it.fFrom ∧ it.fFrom ≤ 1073741824) ∧ (0 ≤ it.fCode ∧ it.fCode ≤ 8) ∧ (0 ≤ it.fWagon ∧ it.fWagon < (p.fFleet.fWagons.length : Int)) := by
  simp only [okDR, zpa, plIn, Bool.and_eq_true, decide_eq_true_eq, zmr] at h
  obtain ⟨_, h⟩ := h
  have h1 := h.1.1.1.1.1.1.1.1
  obtain ⟨⟨⟨⟨⟨h2, h3⟩, _⟩, _⟩, h4⟩, h5⟩ := h1
  exact ⟨h2, h4, h5, h3.1, by omega⟩
end Px
end
section
namespace Px
open Go
set_option linter.unusedVariables false
set_option linter.unusedSimpArgs false
theorem zi0 {x y : Ref} : zdi x y = true ↔ x = y := by
  cases x; cases y; simp [zdi]
theorem zqs (φ : Nat) (hφ : 100 < φ) (p : Pool) : ∃ b, z8y φ p = some b ∧ (b = true → p.fRailways.length ≤ 17) := by
  unfold z8y
  split
  · exact ⟨false, rfl, by simp⟩
  · rename_i h
    have hr : p.fRailways.length ≤ 17 := by
      simp only [Bool.or_eq_true, decide_eq_true_eq, not_or] at h; omega
    refine z56 (fun n i (_ : Unit) => z3z φ p (z4t φ) n i) p.fRailways.length (fun _ _ => True) (fun o => ∃ b, o = some b ∧ (b = true → p.fRailways.length ≤ 17)) ?_ ?_ φ () trivial (by omega)
    · intro n i _ hi _ hk
      rw [z3z, if_pos (by simp; omega), zj ⟨by omega, by omega⟩]
      split
      · exact ⟨false, rfl, by simp⟩
      · rw [W_id (by omega) (by omega)]; exact hk () trivial
    · intro n _ _
      rw [z3z, if_neg (by simp)]; exact ⟨true, rfl, fun _ => hr⟩
theorem zti (φ : Nat) (m : Nat) (hm : m ≤ 100000) (hφ : m < φ) (l : List zo) : ∃ b, z7b φ l (m : Int) = some b ∧ (b = true → l.length ≤ m) := by
  unfold z7b
  split
  · exact ⟨false, rfl, by simp⟩
  · rename_i h
    have hr : l.length ≤ m := by
      simp only [decide_eq_true_eq] at h; omega
    refine z56 (fun n i (_ : Unit) => z42 φ l (z4s φ) n i) l.length (fun _ _ => True) (fun o => ∃ b, o = some b ∧ (b = true → l.length ≤ m)) ?_ ?_ φ () trivial (by omega)
    · intro n i _ hi _ hk
      rw [z42, if_pos (by simp; omega), zj ⟨by omega, by omega⟩]
      split
      · exact ⟨false, rfl, by simp⟩
      · rw [W_id (by omega) (by omega)]; exact hk () trivial
    · intro n _ _
      rw [z42, if_neg (by simp)]; exact ⟨true, rfl, fun _ => hr⟩
theorem zx3 (φ : Nat) (hφ : 100 < φ) (p : Pool) (l : List zo) : ∃ b, zdg φ p l = some b ∧ (b = true → l.length ≤ 60 ∧ p.fRailways.length ≤ 17) := by
  unfold zdg
  obtain ⟨a, h1, h2⟩ := zqs φ hφ p
  obtain ⟨c, h3, h4⟩ := zti φ 60 (by omega) (by omega) l
  simp only [Pool.eta', h1, Option.bind_some]
  cases a with
  | false => rw [z9n (by simp)]; exact ⟨false, rfl, by simp⟩
  | true =>
    rw [z9p rfl]
    have h3' : z7b φ l 60 = some c := h3
    rw [h3', Option.bind_some]
    exact ⟨c, by simp, fun e => ⟨h4 e, h2 rfl⟩⟩
/-- All Refs are different. -/
def Diff (l : List zo) : Prop := ∀ i j : Nat, i < l.length → j < l.length → (gt l (i : Int)).fRef = (gt l (j : Int)).fRef → i = j
theorem zlq (φ : Nat) (l : List zo) (hl : l.length ≤ 100000) (hφ : l.length < φ) : ∃ b, z8q φ l = some b ∧ (b = true → Diff l) := by
  unfold z8q
  refine z56 (fun n i (_ : Unit) => z2j φ l (z2s φ) n i) l.length (fun i _ => ∀ a b : Nat, a < i → b < i → (gt l (a : Int)).fRef = (gt l (b : Int)).fRef → a = b) (fun o => ∃ b, o = some b ∧ (b = true → Diff l)) ?_ ?_ φ () (by omega) hφ
  · intro n i _ hi hI hk
    rw [z2j, if_pos (by simp; omega)]
    refine z56 (fun m j (_ : Unit) => z4f φ l (i : Int) (z4d φ (i : Int) (z2j φ l (z2s φ) n)) m j) i (fun j _ => ∀ b : Nat, b < j → (gt l (i : Int)).fRef ≠ (gt l (b : Int)).fRef) (fun o => ∃ b, o = some b ∧ (b = true → Diff l)) ?_ ?_ φ () (by omega) (by omega)
    · intro m j _ hj hJ hk2
      rw [z4f, if_pos (by simp; omega), zj ⟨by omega, by omega⟩, zj ⟨by omega, by omega⟩]
      cases he : zdi (gt l (i : Int)).fRef (gt l (j : Int)).fRef with
      | true => exact ⟨false, rfl, by simp⟩
      | false =>
        rw [if_neg (by simp), W_id (by omega) (by omega)]
        refine hk2 () fun b hb => ?_
        by_cases e : b = j
        · subst e
          intro e2; rw [zi0.2 e2] at he; cases he
        · exact hJ b (by omega)
    · intro m _ hJ
      rw [z4f, if_neg (by simp)]
      unfold z4d
      rw [W_id (by omega) (by omega)]
      refine hk () fun a b ha hb e => ?_
      by_cases h1 : a = i
      · by_cases h2 : b = i
        · omega
        · subst h1; exact absurd e (hJ b (by omega))
      · by_cases h2 : b = i
        · subst h2; exact absurd e.symm (hJ a (by omega))
        · exact hI a b (by omega) (by omega) e
  · intro n _ hI
    rw [z2j, if_neg (by simp)]
    exact ⟨true, rfl, fun _ i j hi hj e => hI i j hi hj e⟩
theorem zhn (φ : Nat) (l : List zo) (hd : Diff l) (hl : l.length ≤ 100000) (hφ : l.length < φ) (k : Int) (r : Ref) (h0 : 0 ≤ k) (hk : k < (l.length : Int)) (hr : (gt l k).fRef = r) : zaa φ l r = some k := by
  unfold zaa
  refine z56 (fun n i (_ : Unit) => z89 φ l r (z8a φ) n i) l.length (fun i _ => (i : Int) ≤ k) (fun o => o = some k) ?_ ?_ φ () (by omega) hφ
  · intro n i _ hi hI hs
    rw [z89, if_pos (by simp; omega), zj ⟨by omega, by omega⟩]
    cases he : zdi (gt l (i : Int)).fRef r with
    | true =>
      have e := zi0.1 he
      have : i = k.toNat := hd i k.toNat hi (by omega) (by rw [e, Int.toNat_of_nonneg h0, hr])
      rw [if_pos rfl]
      congr 1; omega
    | false =>
      rw [if_neg (by simp), W_id (by omega) (by omega)]
      refine hs () ?_
      have : (i : Int) ≠ k := by
        intro e; rw [e, zi0.2 hr] at he; cases he
      omega
  · intro n _ hI; omega
theorem zqz {l : List zo} (hd : Diff l) {i j : Int} (hi : 0 ≤ i ∧ i < (l.length : Int)) (hj : 0 ≤ j ∧ j < (l.length : Int)) (e : (gt l i).fRef = (gt l j).fRef) : i = j := by
  have := hd i.toNat j.toNat (by omega) (by omega) (by rw [Int.toNat_of_nonneg hi.1, Int.toNat_of_nonneg hj.1]; exact e)
  omega
end Px
end
section
namespace Px
open Go
set_option linter.unusedVariables false
set_option linter.unusedSimpArgs false
set_option maxHeartbeats 1000000
section
theorem znx (φ : Nat) (P Z Q : List Ref) (c : Nat) : ∀ (n : Nat) (X1 X2 Y1 Y2 : List Ref), X1.length = Y1.length → X2.length = Y2.length → c = X1.length + X2.length → P.length + c + Z.length + c + Q.length ≤ 1000000 → X2.length < n →
    z1j φ (P.length : Int) ((P.length : Int) + c + Z.length) (c : Int) n (X1.length : Int) (P ++ Y1 ++ X2 ++ Z ++ X1 ++ Y2 ++ Q) = some (P ++ Y1 ++ Y2 ++ Z ++ X1 ++ X2 ++ Q) := by
  intro n
  induction n with
  | zero => intro X1 X2 Y1 Y2 _ _ _ _ h; omega
  | succ n ih =>
    intro X1 X2 Y1 Y2 h1 h2 hc hl hn
    cases X2 with
    | nil =>
      have : Y2 = [] := List.eq_nil_of_length_eq_zero (by simpa using h2.symm)
      subst this
      simp only [List.length_nil, Nat.add_zero] at hc
      rw [z1j, if_neg (by simp; omega)]
    | cons x X2 =>
      cases Y2 with
      | nil => simp at h2
      | cons w Y2 =>
        simp only [List.length_cons, Nat.add_right_cancel_iff] at h2 hc hn
        have w1 : W ((P.length : Int) + c + Z.length + X1.length) = (P.length : Int) + c + Z.length + X1.length := W_id (by omega) (by omega)
        have w2 : W ((P.length : Int) + X1.length) = (P.length : Int) + X1.length := W_id (by omega) (by omega)
        have w3 : W ((X1.length : Int) + 1) = (X1.length : Int) + 1 := W_id (by omega) (by omega)
        have e1 : P ++ Y1 ++ x :: X2 ++ Z ++ X1 ++ w :: Y2 ++ Q = (P ++ Y1) ++ x :: (X2 ++ Z ++ X1 ++ w :: Y2 ++ Q) := by simp
        have e2 : P ++ Y1 ++ x :: X2 ++ Z ++ X1 ++ w :: Y2 ++ Q = (P ++ Y1 ++ x :: X2 ++ Z ++ X1) ++ w :: (Y2 ++ Q) := by simp
        have g1 : gt (P ++ Y1 ++ x :: X2 ++ Z ++ X1 ++ w :: Y2 ++ Q) ((P.length : Int) + X1.length) = x := by rw [e1]; exact z5u (by simp; omega)
        have g2 : gt (P ++ Y1 ++ x :: X2 ++ Z ++ X1 ++ w :: Y2 ++ Q) ((P.length : Int) + c + Z.length + X1.length) = w := by rw [e2]; exact z5u (by simp; omega)
        have s1 : z2o (P ++ Y1 ++ x :: X2 ++ Z ++ X1 ++ w :: Y2 ++ Q) ((P.length : Int) + X1.length) w = (P ++ Y1) ++ w :: (X2 ++ Z ++ X1 ++ w :: Y2 ++ Q) := by rw [e1]; exact z8l (by simp; omega)
        have e3 : (P ++ Y1) ++ w :: (X2 ++ Z ++ X1 ++ w :: Y2 ++ Q) = (P ++ Y1 ++ w :: X2 ++ Z ++ X1) ++ w :: (Y2 ++ Q) := by simp
        have s2 : z2o ((P ++ Y1 ++ w :: X2 ++ Z ++ X1) ++ w :: (Y2 ++ Q)) ((P.length : Int) + c + Z.length + X1.length) x = (P ++ Y1 ++ w :: X2 ++ Z ++ X1) ++ x :: (Y2 ++ Q) := z8l (by simp; omega)
        have e4 : (P ++ Y1 ++ w :: X2 ++ Z ++ X1) ++ x :: (Y2 ++ Q) = P ++ (Y1 ++ [w]) ++ X2 ++ Z ++ (X1 ++ [x]) ++ Y2 ++ Q := by simp
        have hlen : ((P ++ Y1 ++ x :: X2 ++ Z ++ X1 ++ w :: Y2 ++ Q).length : Int) = P.length + c + Z.length + c + Q.length := by simp; omega
        have hlen2 : (((P ++ Y1 ++ w :: X2 ++ Z ++ X1) ++ w :: (Y2 ++ Q)).length : Int) = P.length + c + Z.length + c + Q.length := by simp; omega
        rw [z1j, if_pos (by simp; omega), w1, w2, w3, g1, g2, s1, e3, s2, e4, hlen, hlen2]
        rw [zj ⟨by omega, by omega⟩, zj ⟨by omega, by omega⟩, zj ⟨by omega, by omega⟩]
        have := ih (X1 ++ [x]) X2 (Y1 ++ [w]) Y2 (by simp [h1]) h2 (by simp; omega) hl (by omega)
        have e5 : (((X1 ++ [x]).length : Nat) : Int) = (X1.length : Int) + 1 := by simp
        rw [e5] at this
        rw [this]
        simp
theorem zhh (φ : Nat) (P X Z Y Q : List Ref) (y : Ref → Ref → Option Int) (h : X.length = Y.length) (hl : P.length + X.length + Z.length + X.length + Q.length ≤ 1000000) (hφ : X.length < φ) :
    z2q φ (P ++ X ++ Z ++ Y ++ Q) (P.length : Int) ((P.length : Int) + X.length + Z.length) (X.length : Int) y = some (P ++ Y ++ Z ++ X ++ Q) := by
  have := znx φ P Z Q X.length φ [] X [] Y rfl h (by simp) hl hφ
  simpa [z2q] using this
theorem zqi (φ : Nat) (y : Ref → Ref → Option Int) : ∀ (n : Nat) (P X Y Q : List Ref), X ≠ [] → Y ≠ [] → P.length + X.length + Y.length + Q.length ≤ 1000000 → X.length + Y.length ≤ n → X.length + Y.length < φ →
    z1r φ ((P.length : Int) + X.length) y (z21 φ ((P.length : Int) + X.length) y) n (X.length : Int) (Y.length : Int) (P ++ X ++ Y ++ Q) = some (P ++ Y ++ X ++ Q) := by
  intro n
  induction n with
  | zero => intro P X Y Q hX hY _ h; have := List.length_pos_iff.2 hX; omega
  | succ n ih =>
    intro P X Y Q hX hY hl hn hφ
    have hX0 := List.length_pos_iff.2 hX
    have hY0 := List.length_pos_iff.2 hY
    have w1 : W ((P.length : Int) + X.length - X.length) = (P.length : Int) := by rw [W_id (by omega) (by omega)]; omega
    rw [z1r, w1]
    by_cases he : X.length = Y.length
    · rw [if_neg (by simp [he])]
      unfold z21
      rw [w1]
      have := zhh φ P X [] Y Q y he (by simp; omega) (by omega)
      simp only [List.append_nil, List.length_nil, Int.ofNat_zero, Int.add_zero] at this
      rw [this]; rfl
    · rw [if_pos (by simp; omega)]
      by_cases hlt : Y.length < X.length
      · rw [if_pos (by simp; omega)]
        obtain ⟨X1, X2, rfl, h1⟩ : ∃ X1 X2, X = X1 ++ X2 ∧ X1.length = Y.length := ⟨X.take Y.length, X.drop Y.length, (List.take_append_drop _ _).symm, by simp; omega⟩
        simp only [List.length_append] at hl hn hφ hlt hX0 he
        have e1 : P ++ (X1 ++ X2) ++ Y ++ Q = P ++ X1 ++ X2 ++ Y ++ Q := by simp
        have e2 : (P.length : Int) + ((X1 ++ X2).length : Nat) = (P.length : Int) + X1.length + X2.length := by simp; omega
        rw [e1, e2, ← h1, zhh φ P X1 X2 Y Q y h1 (by omega) (by omega)]
        simp only [Option.bind_some]
        have w2 : W (((X1 ++ X2).length : Int) - X1.length) = (X2.length : Int) := by simp; rw [W_id (by omega) (by omega)]; omega
        rw [w2]
        have := ih (P ++ Y) X2 X1 Q (by intro e; subst e; simp at hlt; omega) (by intro e; subst e; simp at h1; omega) (by simp; omega) (by omega) (by omega)
        have e3 : (((P ++ Y).length : Nat) : Int) + X2.length = (P.length : Int) + X1.length + X2.length := by simp; omega
        rw [e3] at this
        rw [this]
        simp
      · rw [if_neg (by simp; omega)]
        obtain ⟨Y1, Y2, rfl, h1⟩ : ∃ Y1 Y2, Y = Y1 ++ Y2 ∧ Y2.length = X.length := ⟨Y.take (Y.length - X.length), Y.drop (Y.length - X.length), (List.take_append_drop _ _).symm, by simp; omega⟩
        simp only [List.length_append] at hl hn hφ hlt hY0 he
        have e1 : P ++ X ++ (Y1 ++ Y2) ++ Q = P ++ X ++ Y1 ++ Y2 ++ Q := by simp
        have w3 : W ((P.length : Int) + X.length + ((Y1 ++ Y2).length : Nat)) = (P.length : Int) + X.length + Y1.length + Y2.length := by simp; rw [W_id (by omega) (by omega)]; omega
        have w4 : W ((P.length : Int) + X.length + Y1.length + Y2.length - X.length) = (P.length : Int) + X.length + Y1.length := by rw [W_id (by omega) (by omega)]; omega
        have w5 : W (((Y1 ++ Y2).length : Int) - X.length) = (Y1.length : Int) := by simp; rw [W_id (by omega) (by omega)]; omega
        rw [e1, w3, w4, w5, zhh φ P X Y1 Y2 Q y h1.symm (by omega) (by omega)]
        simp only [Option.bind_some]
        have := ih P Y2 Y1 (X ++ Q) (by intro e; subst e; simp at h1; omega) (by intro e; subst e; simp at h1 hlt he; omega) (by simp; omega) (by omega) (by omega)
        rw [h1] at this
        have e2 : P ++ Y2 ++ Y1 ++ X ++ Q = P ++ Y2 ++ Y1 ++ (X ++ Q) := by simp
        rw [e2, this]
        simp
theorem zmc (φ : Nat) (P X Y Q : List Ref) (y : Ref → Ref → Option Int) (hX : X ≠ []) (hY : Y ≠ []) (hl : P.length + X.length + Y.length + Q.length ≤ 1000000) (hφ : X.length + Y.length < φ) :
    z4o φ (P ++ X ++ Y ++ Q) (P.length : Int) ((P.length : Int) + X.length) ((P.length : Int) + X.length + Y.length) y = some (P ++ Y ++ X ++ Q) := by
  have := zqi φ y φ P X Y Q hX hY hl (by omega) hφ
  rw [← this]
  unfold z4o
  have w1 : W ((P.length : Int) + X.length - P.length) = (X.length : Int) := by rw [W_id (by omega) (by omega)]; omega
  have w2 : W ((P.length : Int) + X.length + Y.length - ((P.length : Int) + X.length)) = (Y.length : Int) := by rw [W_id (by omega) (by omega)]; omega
  rw [w1, w2]
end
end Px
end
section
namespace Px
open Go
set_option linter.unusedVariables false
set_option linter.unusedSimpArgs false
set_option maxHeartbeats 2000000
section
variable {D : Ref → Prop} {lt : Ref → Ref → Bool} {y : Ref → Ref → Option Int}
theorem zla (φ : Nat) (k : List Ref → Option (List Ref)) (x : Ref) : ∀ (n : Nat) (P C E : List Ref), P.length + C.length + E.length ≤ 999999 → C.length < n →
    z28 φ ((P.length : Int) + C.length + 1) k n (P.length : Int) (P ++ x :: (C ++ E)) = k (P ++ C ++ x :: E) := by
  intro n
  induction n with
  | zero => intro P C E _ h; omega
  | succ n ih =>
    intro P C E hl hn
    have w0 : W ((P.length : Int) + C.length + 1 - 1) = (P.length : Int) + C.length := by rw [W_id (by omega) (by omega)]; omega
    rw [z28, w0]
    cases C with
    | nil => rw [if_neg (by simp)]; simp
    | cons w C =>
      simp only [List.length_cons] at hl hn
      have w1 : W ((P.length : Int) + 1) = (P.length : Int) + 1 := W_id (by omega) (by omega)
      have e1 : P ++ x :: (w :: C ++ E) = (P ++ [x]) ++ w :: (C ++ E) := by simp
      have g1 : gt (P ++ x :: (w :: C ++ E)) (P.length : Int) = x := z5u rfl
      have g2 : gt (P ++ x :: (w :: C ++ E)) ((P.length : Int) + 1) = w := by rw [e1]; exact z5u (by simp)
      have s1 : z2o (P ++ x :: (w :: C ++ E)) (P.length : Int) w = P ++ w :: (w :: C ++ E) := z8l rfl
      have e2 : P ++ w :: (w :: C ++ E) = (P ++ [w]) ++ w :: (C ++ E) := by simp
      have s2 : z2o ((P ++ [w]) ++ w :: (C ++ E)) ((P.length : Int) + 1) x = (P ++ [w]) ++ x :: (C ++ E) := z8l (by simp)
      have hlen : ((P ++ x :: (w :: C ++ E)).length : Int) = P.length + C.length + E.length + 2 := by simp; omega
      have hlen2 : (((P ++ [w]) ++ w :: (C ++ E)).length : Int) = P.length + C.length + E.length + 2 := by simp; omega
      rw [if_pos (by simp; omega), w1, g1, g2, s1, e2, s2, hlen, hlen2, zj ⟨by omega, by omega⟩, zj ⟨by omega, by omega⟩, zj ⟨by omega, by omega⟩]
      have := ih (P ++ [w]) C E (by simp; omega) (by omega)
      have e3 : (((P ++ [w]).length : Nat) : Int) = (P.length : Int) + 1 := by simp
      have e4 : (P.length : Int) + ((w :: C).length : Nat) + 1 = (P.length : Int) + 1 + C.length + 1 := by simp; omega
      rw [e3] at this
      rw [e4, this]
      simp
theorem zij (φ : Nat) (k : List Ref → Option (List Ref)) (x : Ref) (P : List Ref) : ∀ (n : Nat) (C E : List Ref), P.length + C.length + E.length ≤ 999999 → C.length < n →
    z29 φ (P.length : Int) k n ((P.length : Int) + C.length) (P ++ C ++ x :: E) = k (P ++ x :: (C ++ E)) := by
  intro n
  induction n with
  | zero => intro C E _ h; omega
  | succ n ih =>
    intro C E hl hn
    rw [z29]
    rcases z4u C with rfl | ⟨S, z, rfl⟩
    · rw [if_neg (by simp)]; simp
    · simp only [List.length_append, List.length_cons, List.length_nil] at hl hn
      have w1 : W ((P.length : Int) + ((S ++ [z]).length : Nat) - 1) = (P.length : Int) + S.length := by
        rw [W_id (by simp; omega) (by simp; omega)]; simp; omega
      have e1 : P ++ (S ++ [z]) ++ x :: E = (P ++ S ++ [z]) ++ x :: E := by simp
      have e2 : P ++ (S ++ [z]) ++ x :: E = (P ++ S) ++ z :: (x :: E) := by simp
      have g1 : gt (P ++ (S ++ [z]) ++ x :: E) ((P.length : Int) + ((S ++ [z]).length : Nat)) = x := by rw [e1]; exact z5u (by simp <;> omega)
      have g2 : gt (P ++ (S ++ [z]) ++ x :: E) ((P.length : Int) + S.length) = z := by rw [e2]; exact z5u (by simp)
      have s1 : z2o (P ++ (S ++ [z]) ++ x :: E) ((P.length : Int) + ((S ++ [z]).length : Nat)) z = (P ++ S) ++ z :: (z :: E) := by rw [e1, z8l (by simp <;> omega)]; simp
      have s2 : z2o ((P ++ S) ++ z :: (z :: E)) ((P.length : Int) + S.length) x = P ++ S ++ x :: (z :: E) := z8l (by simp)
      have hlen : ((P ++ (S ++ [z]) ++ x :: E).length : Int) = P.length + S.length + E.length + 2 := by simp; omega
      have hlen2 : (((P ++ S) ++ z :: (z :: E)).length : Int) = P.length + S.length + E.length + 2 := by simp; omega
      rw [if_pos (by simp; omega), w1, g1, g2, s1, s2, hlen, hlen2, zj ⟨by omega, by omega⟩, zj ⟨by omega, by simp; omega⟩, zj ⟨by omega, by omega⟩]
      rw [ih S (z :: E) (by simp; omega) (by omega)]
      simp
/-- One element before a sorted list. -/
theorem zia (hs : Swo lt) (hy : Cmp D y lt) (φ : Nat) (P L Q : List Ref) (x : Ref) (hx : D x) (hD : ∀ z ∈ L, D z) (hS : Srt lt L) (hl : P.length + L.length + Q.length ≤ 999998) (hφ : P.length + L.length + 2 < φ) :
    ∃ R, Srt lt R ∧ Stb lt (x :: L) R ∧ z0e φ (P ++ x :: (L ++ Q)) (P.length : Int) y (z07 φ (P ++ x :: (L ++ Q)) (P.length : Int)) φ ((P.length : Int) + 1) ((P.length : Int) + 1 + L.length) = some (P ++ R ++ Q) := by
  have gx : gt (P ++ x :: (L ++ Q)) (P.length : Int) = x := z5u rfl
  have hlen : ((P ++ x :: (L ++ Q)).length : Int) = P.length + L.length + Q.length + 1 := by simp; omega
  have gL : ∀ i : Nat, P.length + 1 ≤ i → i < P.length + 1 + L.length → gt (P ++ x :: (L ++ Q)) (i : Int) = gt L ((i - (P.length + 1) : Nat) : Int) := by
    intro i h1 h2
    have e : P ++ x :: (L ++ Q) = (P ++ [x]) ++ (L ++ Q) := by simp
    rw [e, z55 _ _ _ (by simp; omega), z6l _ _ _ (by simp; omega) (by simp; omega)]
    congr 1; simp; omega
  obtain ⟨c, h1, h2, h3, h4, h5⟩ := zcr (z0e φ (P ++ x :: (L ++ Q)) (P.length : Int) y (z07 φ (P ++ x :: (L ++ Q)) (P.length : Int)))
    (z07 φ (P ++ x :: (L ++ Q)) (P.length : Int)) (fun h => lt (gt (P ++ x :: (L ++ Q)) (h : Int)) x) (P.length + 1 + L.length) (P.length + 1)
    (by
      intro n s r h0 hlt hR
      have hm : (W ((U (W ((s : Int) + r))).fdiv 2)) = (((s + r) / 2 : Nat) : Int) := by rw [zen (by omega) (by omega)]; omega
      have hm1 : W ((((s + r) / 2 : Nat) : Int) + 1) = (((s + r) / 2 + 1 : Nat) : Int) := by rw [W_id (by omega) (by omega)]; simp
      obtain ⟨w, hw1, hw2⟩ := hy (gt (P ++ x :: (L ++ Q)) (((s + r) / 2 : Nat) : Int)) x (by
        rw [gL _ (by omega) (by omega)]; exact hD _ (z9h (by omega) (by omega))) hx
      rw [z0e, if_pos (by simp; omega), hm, hm1, hlen, gx, zj ⟨by omega, by omega⟩, zj ⟨by omega, by omega⟩, hw1]
      simp only [Option.bind_some, hw2])
    (by
      intro n s
      rw [z0e, if_neg (by simp)]) φ (P.length + 1) (P.length + 1 + L.length) (Nat.le_refl _) (by omega) (Nat.le_refl _) (by omega)
  obtain ⟨C, E, rfl, hC⟩ : ∃ C E, L = C ++ E ∧ C.length = c - (P.length + 1) := ⟨L.take (c - (P.length + 1)), L.drop (c - (P.length + 1)), (List.take_append_drop _ _).symm, by simp; omega⟩
  simp only [List.length_append] at hl hφ h2 gL
  have hCx : ∀ z ∈ C, lt z x = true := by
    intro z hz
    rcases z4u C with rfl | ⟨S, w, rfl⟩
    · cases hz
    · simp only [List.length_append, List.length_cons, List.length_nil] at hC hz hS gL h2
      have hp : lt w x = true := by
        rcases h3 with h3 | h3
        · omega
        · rw [gL _ (by omega) (by omega)] at h3
          have e : S ++ [w] ++ E = S ++ w :: E := by simp
          rw [e, z5u (by omega)] at h3
          exact h3
      rcases List.mem_append.1 hz with h | h
      · exact z95 hs (hS.parts.1.parts.2.2 z h w (by simp)) hp (hs.irr x)
      · simp at h; rw [h]; exact hp
  have hEx : ∀ z ∈ E, lt z x = false := by
    intro z hz
    cases E with
    | nil => cases hz
    | cons w E =>
      simp only [List.length_cons] at h2 gL h4
      have hp : lt w x = false := by
        rcases h4 with h4 | h4
        · simp at h4; omega
        · rw [gL _ (by omega) (by omega), z5u (by omega)] at h4
          exact h4
      rcases List.mem_cons.1 hz with h | h
      · rw [h]; exact hp
      · exact hs.ntr _ _ _ ((List.pairwise_cons.1 hS.parts.2.1).1 z h) hp
  have hm := z8e hs (A := []) (B := [x]) (C := C) (E := E) (R1 := C) (R2 := x :: E) (List.pairwise_singleton _ _) hS (by simpa using hCx) (by simp) hS.parts.1 (by simpa using Stb.refl C) (List.pairwise_cons.2 ⟨hEx, hS.parts.2.1⟩) (by simpa using Stb.refl (x :: E))
  refine ⟨C ++ x :: E, hm.1, by simpa using hm.2, ?_⟩
  have e5 : ((P.length : Int) + 1 + ((C ++ E).length : Nat)) = ((P.length + 1 + (C ++ E).length : Nat) : Int) := by simp
  have e6 : ((P.length : Int) + 1) = ((P.length + 1 : Nat) : Int) := by simp
  rw [e5, e6, h5]
  unfold z07
  have e7 : (c : Int) = (P.length : Int) + C.length + 1 := by omega
  have e8 : P ++ x :: (C ++ E ++ Q) = P ++ x :: (C ++ (E ++ Q)) := by simp
  rw [e7, e8, zla φ _ x φ P C (E ++ Q) (by simp; omega) (by omega)]
  simp [z27]
/-- A sorted list before one element. -/
theorem zip (hs : Swo lt) (hy : Cmp D y lt) (φ : Nat) (P L Q : List Ref) (x : Ref) (hx : D x) (hD : ∀ z ∈ L, D z) (hS : Srt lt L) (hl : P.length + L.length + Q.length ≤ 999998) (hφ : P.length + L.length + 2 < φ) :
    ∃ R, Srt lt R ∧ Stb lt (L ++ [x]) R ∧ z09 φ (P ++ L ++ x :: Q) ((P.length : Int) + L.length) y (z0b φ (P ++ L ++ x :: Q) ((P.length : Int) + L.length)) φ (P.length : Int) ((P.length : Int) + L.length) = some (P ++ R ++ Q) := by
  have gx : gt (P ++ L ++ x :: Q) ((P.length : Int) + L.length) = x := z5u (by simp)
  have hlen : ((P ++ L ++ x :: Q).length : Int) = P.length + L.length + Q.length + 1 := by simp; omega
  have gL : ∀ i : Nat, P.length ≤ i → i < P.length + L.length → gt (P ++ L ++ x :: Q) (i : Int) = gt L ((i - P.length : Nat) : Int) := by
    intro i h1 h2
    rw [List.append_assoc, z55 _ _ _ (by omega), z6l _ _ _ (by omega) (by omega)]
    congr 1; omega
  obtain ⟨c, h1, h2, h3, h4, h5⟩ := zcr (z09 φ (P ++ L ++ x :: Q) ((P.length : Int) + L.length) y (z0b φ (P ++ L ++ x :: Q) ((P.length : Int) + L.length)))
    (z0b φ (P ++ L ++ x :: Q) ((P.length : Int) + L.length)) (fun h => !lt x (gt (P ++ L ++ x :: Q) (h : Int))) (P.length + L.length) P.length
    (by
      intro n s r h0 hlt hR
      have hm : (W ((U (W ((s : Int) + r))).fdiv 2)) = (((s + r) / 2 : Nat) : Int) := by rw [zen (by omega) (by omega)]; omega
      have hm1 : W ((((s + r) / 2 : Nat) : Int) + 1) = (((s + r) / 2 + 1 : Nat) : Int) := by rw [W_id (by omega) (by omega)]; simp
      obtain ⟨w, hw1, hw2⟩ := hy x (gt (P ++ L ++ x :: Q) (((s + r) / 2 : Nat) : Int)) hx (by
        rw [gL _ (by omega) (by omega)]; exact hD _ (z9h (by omega) (by omega)))
      rw [z09, if_pos (by simp; omega), hm, hm1, hlen, gx, zj ⟨by omega, by omega⟩, zj ⟨by omega, by omega⟩, hw1]
      simp only [Option.bind_some, hw2])
    (by
      intro n s
      rw [z09, if_neg (by simp)]) φ P.length (P.length + L.length) (Nat.le_refl _) (by omega) (Nat.le_refl _) (by omega)
  obtain ⟨A, B, rfl, hC⟩ : ∃ A B, L = A ++ B ∧ A.length = c - P.length := ⟨L.take (c - P.length), L.drop (c - P.length), (List.take_append_drop _ _).symm, by simp; omega⟩
  simp only [List.length_append] at hl hφ h2 gL
  have hA : ∀ z ∈ A, lt x z = false := by
    intro z hz
    rcases z4u A with rfl | ⟨S, w, rfl⟩
    · cases hz
    · simp only [List.length_append, List.length_cons, List.length_nil] at hC hz hS gL h2
      have hp : lt x w = false := by
        rcases h3 with h3 | h3
        · omega
        · rw [gL _ (by omega) (by omega)] at h3
          have e : S ++ [w] ++ B = S ++ w :: B := by simp
          rw [e, z5u (by omega)] at h3
          simpa using h3
      rcases List.mem_append.1 hz with h | h
      · exact hs.ntr _ _ _ hp (hS.parts.1.parts.2.2 z h w (by simp))
      · simp at h; rw [h]; exact hp
  have hB : ∀ z ∈ B, lt x z = true := by
    intro z hz
    cases B with
    | nil => cases hz
    | cons w B =>
      simp only [List.length_cons] at h2 gL h4
      have hp : lt x w = true := by
        rcases h4 with h4 | h4
        · simp at h4; omega
        · rw [gL _ (by omega) (by omega), z5u (by omega)] at h4
          simpa using h4
      rcases List.mem_cons.1 hz with h | h
      · rw [h]; exact hp
      · exact z95 hs (hs.irr x) hp ((List.pairwise_cons.1 hS.parts.2.1).1 z h)
  have hm := z8e hs (A := A) (B := B) (C := [x]) (E := []) (R1 := A ++ [x]) (R2 := B) hS (by rw [List.append_nil]; exact List.pairwise_singleton _ x) (by simpa using hB) (by simp)
    (hS.parts.1.app (List.pairwise_singleton _ _) (by simpa using hA)) (Stb.refl _) hS.parts.2.1 (by simpa using Stb.refl B)
  refine ⟨A ++ [x] ++ B, hm.1, by simpa using hm.2, ?_⟩
  have e5 : ((P.length : Int) + ((A ++ B).length : Nat)) = ((P.length + (A ++ B).length : Nat) : Int) := by simp
  rw [e5] at h5 ⊢
  rw [h5]
  unfold z0b
  have e7 : (c : Int) = (((P ++ A).length : Nat) : Int) := by simp; omega
  have e8 : P ++ (A ++ B) ++ x :: Q = (P ++ A) ++ B ++ x :: Q := by simp
  have e9 : ((P.length + (A ++ B).length : Nat) : Int) = (((P ++ A).length : Nat) : Int) + B.length := by simp; omega
  rw [e7, e8, e9, zij φ _ x (P ++ A) φ B Q (by simp; omega) (by omega)]
  simp [z22]
end
end Px
end
section
namespace Px
open Go
set_option linter.unusedVariables false
set_option linter.unusedSimpArgs false
set_option maxHeartbeats 4000000
section
variable {D : Ref → Prop} {lt : Ref → Ref → Bool} {y : Ref → Ref → Option Int}
/-- Where the two lists are split. -/
theorem zlv (hs : Swo lt) (hy : Cmp D y lt) (φ : Nat) (P L1 L2 Q : List Ref) (k : Int → Option (List Ref)) (hD1 : ∀ z ∈ L1, D z) (hD2 : ∀ z ∈ L2, D z) (hS1 : Srt lt L1) (hS2 : Srt lt L2)
    (a m b mid s0 r0 : Nat) (ha : a = P.length) (hm : m = a + L1.length) (hb : b = m + L2.length) (hmid : mid = (a + b) / 2) (hl : b + Q.length ≤ 999998) (hφ : b < φ)
    (h1 : 1 ≤ L1.length) (h2 : 1 ≤ L2.length) (hs0 : (mid < m ∧ s0 = mid + m - b ∧ r0 = mid) ∨ (m ≤ mid ∧ s0 = a ∧ r0 = m)) :
    ∃ A B C E, L1 = A ++ B ∧ L2 = C ++ E ∧ mid + m - (a + A.length) = m + C.length ∧ (∀ x ∈ B, ∀ y ∈ C, lt y x = true) ∧ (∀ x ∈ A, ∀ y ∈ E, lt y x = false) ∧
      z0f φ (P ++ L1 ++ L2 ++ Q) (a : Int) (m : Int) (b : Int) y k φ (s0 : Int) (r0 : Int) = k ((a + A.length : Nat) : Int) := by
  have g1 : ∀ i : Nat, a ≤ i → i < m → gt (P ++ L1 ++ L2 ++ Q) (i : Int) = gt L1 ((i - a : Nat) : Int) := by
    intro i q1 q2
    have e : P ++ L1 ++ L2 ++ Q = P ++ (L1 ++ (L2 ++ Q)) := by simp
    rw [e, z55 _ _ _ (by omega), z6l _ _ _ (by omega) (by omega)]
    congr 1; omega
  have g2 : ∀ i : Nat, m ≤ i → i < b → gt (P ++ L1 ++ L2 ++ Q) (i : Int) = gt L2 ((i - m : Nat) : Int) := by
    intro i q1 q2
    have e : P ++ L1 ++ L2 ++ Q = (P ++ L1) ++ (L2 ++ Q) := by simp
    rw [e, z55 _ _ _ (by simp; omega), z6l _ _ _ (by simp; omega) (by simp; omega)]
    congr 1; simp; omega
  have hlen : ((P ++ L1 ++ L2 ++ Q).length : Int) = b + Q.length := by simp; omega
  have hW : W ((U (W ((a : Int) + b))).fdiv 2) = (mid : Int) := by rw [zen (by omega) (by omega)]; omega
  have hn : W ((mid : Int) + m) = ((mid + m : Nat) : Int) := by rw [W_id (by omega) (by omega)]; simp
  have hp : W (((mid + m : Nat) : Int) - 1) = ((mid + m - 1 : Nat) : Int) := by rw [W_id (by omega) (by omega)]; omega
  have hmb : mid ≤ b := by omega
  have ham : a ≤ mid := by omega
  obtain ⟨c, h3, h4, h5, h6, h7⟩ := zcr (z0f φ (P ++ L1 ++ L2 ++ Q) (a : Int) (m : Int) (b : Int) y k) k
    (fun c => !lt (gt (P ++ L1 ++ L2 ++ Q) ((mid + m - 1 - c : Nat) : Int)) (gt (P ++ L1 ++ L2 ++ Q) (c : Int))) r0 s0
    (by
      intro n s r q0 hlt hR
      have hm' : (W ((U (W ((s : Int) + r))).fdiv 2)) = (((s + r) / 2 : Nat) : Int) := by rw [zen (by omega) (by omega)]; omega
      have hm1 : W ((((s + r) / 2 : Nat) : Int) + 1) = (((s + r) / 2 + 1 : Nat) : Int) := by rw [W_id (by omega) (by omega)]; simp
      have hpc : W (((mid + m - 1 : Nat) : Int) - (((s + r) / 2 : Nat) : Int)) = ((mid + m - 1 - (s + r) / 2 : Nat) : Int) := by rw [W_id (by omega) (by omega)]; omega
      obtain ⟨w, hw1, hw2⟩ := hy (gt (P ++ L1 ++ L2 ++ Q) ((mid + m - 1 - (s + r) / 2 : Nat) : Int)) (gt (P ++ L1 ++ L2 ++ Q) (((s + r) / 2 : Nat) : Int))
        (by rw [g2 _ (by omega) (by omega)]; exact hD2 _ (z9h (by omega) (by omega))) (by rw [g1 _ (by omega) (by omega)]; exact hD1 _ (z9h (by omega) (by omega)))
      rw [z0f, if_pos (by simp; omega), hm', hm1, hW, hn, hp, hpc, hlen, zj ⟨by omega, by omega⟩, zj ⟨by omega, by omega⟩, hw1]
      simp only [Option.bind_some, hw2])
    (by
      intro n s
      rw [z0f, if_neg (by simp)]) φ s0 r0 (Nat.le_refl _) (by omega) (Nat.le_refl _) (by omega)
  obtain ⟨A, B, rfl, hA⟩ : ∃ A B, L1 = A ++ B ∧ A.length = c - a := ⟨L1.take (c - a), L1.drop (c - a), (List.take_append_drop _ _).symm, by simp; omega⟩
  obtain ⟨C, E, rfl, hC⟩ : ∃ C E, L2 = C ++ E ∧ C.length = mid - c := ⟨L2.take (mid - c), L2.drop (mid - c), (List.take_append_drop _ _).symm, by simp; omega⟩
  simp only [List.length_append] at hm hb g1 g2
  refine ⟨A, B, C, E, rfl, rfl, by omega, ?_, ?_, ?_⟩
  · intro x hx z hz
    rcases z4u C with rfl | ⟨S, w, rfl⟩
    · cases hz
    · cases B with
      | nil => cases hx
      | cons x0 B =>
        simp only [List.length_append, List.length_cons, List.length_nil] at hC hm hb g1 g2 hA
        have hp : lt w x0 = true := by
          rcases h6 with h6 | h6
          · omega
          · rw [g1 c (by omega) (by omega), g2 (mid + m - 1 - c) (by omega) (by omega)] at h6
            have e : S ++ [w] ++ E = S ++ w :: E := by simp
            rw [e, z5u (by omega), z5u (by omega)] at h6
            simpa using h6
        have hz1 : lt w z = false := by
          rcases List.mem_append.1 hz with h | h
          · exact hS2.parts.1.parts.2.2 z h w (by simp)
          · simp at h; rw [h]; exact hs.irr _
        have hx1 : lt x x0 = false := by
          rcases List.mem_cons.1 hx with h | h
          · rw [h]; exact hs.irr _
          · exact (List.pairwise_cons.1 hS1.parts.2.1).1 x h
        exact z95 hs hz1 hp hx1
  · intro x hx z hz
    rcases z4u A with rfl | ⟨S, w, rfl⟩
    · cases hx
    · cases E with
      | nil => cases hz
      | cons e0 E =>
        simp only [List.length_append, List.length_cons, List.length_nil] at hC hm hb g1 g2 hA
        have hp : lt e0 w = false := by
          rcases h5 with h5 | h5
          · omega
          · have e1 : mid + m - 1 - (c - 1) = mid + m - c := by omega
            rw [e1, g1 (c - 1) (by omega) (by omega), g2 (mid + m - c) (by omega) (by omega)] at h5
            have e : S ++ [w] ++ B = S ++ w :: B := by simp
            rw [e, z5u (by omega), z5u (by omega)] at h5
            simpa using h5
        have hz1 : lt z e0 = false := by
          rcases List.mem_cons.1 hz with h | h
          · rw [h]; exact hs.irr _
          · exact (List.pairwise_cons.1 hS2.parts.2.1).1 z h
        have hx1 : lt w x = false := by
          rcases List.mem_append.1 hx with h | h
          · exact hS1.parts.1.parts.2.2 x h w (by simp)
          · simp at h; rw [h]; exact hs.irr _
        exact zej hs hz1 hp hx1
  · rw [h7]
    congr 1
    omega
/-- Merging two sorted lists in place. -/
theorem zf5 (hs : Swo lt) (hy : Cmp D y lt) : ∀ (φ : Nat) (P L1 L2 Q : List Ref), (∀ z ∈ L1, D z) → (∀ z ∈ L2, D z) → Srt lt L1 → Srt lt L2 → L1 ≠ [] → L2 ≠ [] →
    P.length + L1.length + L2.length + Q.length ≤ 999998 → P.length + L1.length + L2.length + (L1.length + L2.length) + 3 < φ →
    ∃ R, Srt lt R ∧ Stb lt (L1 ++ L2) R ∧ za φ (P ++ L1 ++ L2 ++ Q) (P.length : Int) ((P.length : Int) + L1.length) ((P.length : Int) + L1.length + L2.length) y = some (P ++ R ++ Q) := by
  intro φ
  induction φ with
  | zero => intro P L1 L2 Q _ _ _ _ _ _ _ h; omega
  | succ φ ih =>
    intro P L1 L2 Q hD1 hD2 hS1 hS2 hn1 hn2 hl hφ
    have hp1 := List.length_pos_iff.2 hn1
    have hp2 := List.length_pos_iff.2 hn2
    rw [za]
    have w1 : W ((P.length : Int) + L1.length - P.length) = (L1.length : Int) := by rw [W_id (by omega) (by omega)]; omega
    have w2 : W ((P.length : Int) + L1.length + L2.length - ((P.length : Int) + L1.length)) = (L2.length : Int) := by rw [W_id (by omega) (by omega)]; omega
    rw [w1, w2]
    by_cases q1 : L1.length = 1
    · rw [if_pos (by simp [q1])]
      match L1, q1 with
      | [x], _ =>
        obtain ⟨R, r1, r2, r3⟩ := zia hs hy φ P L2 Q x (hD1 x (by simp)) hD2 hS2 (by simp at hl; omega) (by simp at hφ; omega)
        refine ⟨R, r1, r2, ?_⟩
        rw [← r3]
        simp
    · rw [if_neg (by simp; omega)]
      by_cases q2 : L2.length = 1
      · rw [if_pos (by simp [q2])]
        match L2, q2 with
        | [x], _ =>
          obtain ⟨R, r1, r2, r3⟩ := zip hs hy φ P L1 Q x (hD2 x (by simp)) hD1 hS1 (by simp at hl; omega) (by simp at hφ; omega)
          refine ⟨R, r1, r2, ?_⟩
          rw [← r3]
          simp
      · rw [if_neg (by simp; omega)]
        obtain ⟨a, ha⟩ : ∃ a, a = P.length := ⟨_, rfl⟩
        obtain ⟨m, hm⟩ : ∃ m, m = a + L1.length := ⟨_, rfl⟩
        obtain ⟨b, hb⟩ : ∃ b, b = m + L2.length := ⟨_, rfl⟩
        obtain ⟨mid, hmid⟩ : ∃ mid, mid = (a + b) / 2 := ⟨_, rfl⟩
        have ea : (P.length : Int) = (a : Int) := by omega
        have em : (P.length : Int) + L1.length = (m : Int) := by omega
        have eb : (P.length : Int) + L1.length + L2.length = (b : Int) := by omega
        rw [eb, em, ea]
        have hW : W ((U (W ((a : Int) + b))).fdiv 2) = (mid : Int) := by rw [zen (by omega) (by omega)]; omega
        have hn : W ((mid : Int) + m) = ((mid + m : Nat) : Int) := by rw [W_id (by omega) (by omega)]; simp
        rw [hW, hn]
        have key : ∃ s0 r0 : Nat, ((mid < m ∧ s0 = mid + m - b ∧ r0 = mid) ∨ (m ≤ mid ∧ s0 = a ∧ r0 = m)) ∧
            (if decide ((mid : Int) < m) = true then z0r φ (P ++ L1 ++ L2 ++ Q) (a : Int) (m : Int) (b : Int) y (za φ) (W (((mid + m : Nat) : Int) - b)) (mid : Int)
              else z0r φ (P ++ L1 ++ L2 ++ Q) (a : Int) (m : Int) (b : Int) y (za φ) (a : Int) (m : Int)) =
            z0r φ (P ++ L1 ++ L2 ++ Q) (a : Int) (m : Int) (b : Int) y (za φ) (s0 : Int) (r0 : Int) := by
          by_cases q : mid < m
          · refine ⟨mid + m - b, mid, .inl ⟨q, rfl, rfl⟩, ?_⟩
            have : W (((mid + m : Nat) : Int) - b) = ((mid + m - b : Nat) : Int) := by rw [W_id (by omega) (by omega)]; omega
            rw [if_pos (by simp; omega), this]
          · refine ⟨a, m, .inr ⟨by omega, rfl, rfl⟩, ?_⟩
            rw [if_neg (by simp; omega)]
        obtain ⟨s0, r0, hk, e⟩ := key
        rw [e]
        unfold z0r
        obtain ⟨A, B, C, E, rfl, rfl, hc, hA, hB, hL⟩ := zlv hs hy φ P L1 L2 Q (z0u φ (P ++ L1 ++ L2 ++ Q) (a : Int) (m : Int) (b : Int) y (za φ)) hD1 hD2 hS1 hS2 a m b mid s0 r0 ha hm hb hmid (by omega) (by omega) (by omega) (by omega) hk
        rw [hL]
        simp only [List.length_append] at hm hb hl hφ hp1 hp2 q1 q2
        have hcm : mid = a + A.length + C.length := by omega
        have hend : W (((mid + m : Nat) : Int) - ((a + A.length : Nat) : Int)) = ((m + C.length : Nat) : Int) := by rw [W_id (by omega) (by omega)]; omega
        have step1 : z0u φ (P ++ (A ++ B) ++ (C ++ E) ++ Q) (a : Int) (m : Int) (b : Int) y (za φ) ((a + A.length : Nat) : Int) =
            z1g φ (a : Int) (m : Int) (b : Int) y (za φ) ((a + A.length : Nat) : Int) (P ++ A ++ C ++ B ++ E ++ Q) := by
          unfold z0u
          rw [hW, hn, hend]
          by_cases hBC : B = [] ∨ C = []
          · rw [if_neg (by
              rcases hBC with rfl | rfl
              · simp at hm ⊢; omega
              · simp)]
            rcases hBC with rfl | rfl <;> simp
          · obtain ⟨hB0, hC0⟩ := not_or.1 hBC
            have b0 := List.length_pos_iff.2 hB0
            have c0 := List.length_pos_iff.2 hC0
            rw [if_pos (by simp; omega)]
            have := zmc φ (P ++ A) B C (E ++ Q) y hB0 hC0 (by simp; omega) (by omega)
            have e1 : P ++ (A ++ B) ++ (C ++ E) ++ Q = P ++ A ++ B ++ C ++ (E ++ Q) := by simp
            have e2 : ((a + A.length : Nat) : Int) = ((P ++ A).length : Nat) := by simp; omega
            have e3 : (m : Int) = ((P ++ A).length : Nat) + (B.length : Int) := by simp; omega
            have e4 : ((m + C.length : Nat) : Int) = ((P ++ A).length : Nat) + (B.length : Int) + C.length := by simp; omega
            rw [e1]
            conv => lhs; rw [e4, e2]; arg 1; rw [e3]
            rw [this]
            simp [ha]
        rw [step1]
        have step2 : ∃ R1, Srt lt R1 ∧ Stb lt (A ++ C) R1 ∧ z1g φ (a : Int) (m : Int) (b : Int) y (za φ) ((a + A.length : Nat) : Int) (P ++ A ++ C ++ B ++ E ++ Q) =
            z1d φ (a : Int) (m : Int) (b : Int) y (za φ) ((a + A.length : Nat) : Int) (P ++ R1 ++ B ++ E ++ Q) := by
          unfold z1g
          rw [hW]
          by_cases hAC : A = [] ∨ C = []
          · refine ⟨A ++ C, ?_, Stb.refl _, ?_⟩
            · rcases hAC with rfl | rfl
              · simpa using hS2.parts.1
              · simpa using hS1.parts.1
            · rw [if_neg (by
                rcases hAC with rfl | rfl
                · simp
                · simp at hcm ⊢; omega)]
              simp
          · obtain ⟨hA0, hC0⟩ := not_or.1 hAC
            have a0 := List.length_pos_iff.2 hA0
            have c0 := List.length_pos_iff.2 hC0
            obtain ⟨R1, r1, r2, r3⟩ := ih P A C (B ++ E ++ Q) (fun z hz => hD1 z (by simp [hz])) (fun z hz => hD2 z (by simp [hz])) hS1.parts.1 hS2.parts.1 hA0 hC0 (by simp; omega) (by omega)
            refine ⟨R1, r1, r2, ?_⟩
            rw [if_pos (by simp; omega)]
            have e1 : P ++ A ++ C ++ B ++ E ++ Q = P ++ A ++ C ++ (B ++ E ++ Q) := by simp
            have e2 : ((a + A.length : Nat) : Int) = (P.length : Int) + A.length := by simp; omega
            have e3 : (mid : Int) = (P.length : Int) + A.length + C.length := by omega
            rw [e1]
            conv => lhs; arg 1; rw [e3, e2, ← ea]
            rw [r3]
            simp
        obtain ⟨R1, r1, r2, e2⟩ := step2
        rw [e2]
        have hR1 : R1.length = A.length + C.length := by rw [r2.len]; simp
        have step3 : ∃ R2, Srt lt R2 ∧ Stb lt (B ++ E) R2 ∧ z1d φ (a : Int) (m : Int) (b : Int) y (za φ) ((a + A.length : Nat) : Int) (P ++ R1 ++ B ++ E ++ Q) = some (P ++ (R1 ++ R2) ++ Q) := by
          unfold z1d
          rw [hW, hn, hend]
          by_cases hBE : B = [] ∨ E = []
          · refine ⟨B ++ E, ?_, Stb.refl _, ?_⟩
            · rcases hBE with rfl | rfl
              · simpa using hS2.parts.2.1
              · simpa using hS1.parts.2.1
            · rw [if_neg (by
                rcases hBE with rfl | rfl
                · simp at hm ⊢; omega
                · simp at hb ⊢; omega)]
              simp
          · obtain ⟨hB0, hE0⟩ := not_or.1 hBE
            have b0 := List.length_pos_iff.2 hB0
            have c0 := List.length_pos_iff.2 hE0
            obtain ⟨R2, p1, p2, p3⟩ := ih (P ++ R1) B E Q (fun z hz => hD1 z (by simp [hz])) (fun z hz => hD2 z (by simp [hz])) hS1.parts.2.1 hS2.parts.2.1 hB0 hE0 (by simp; omega) (by simp; omega)
            refine ⟨R2, p1, p2, ?_⟩
            rw [if_pos (by simp; omega)]
            have e1 : (mid : Int) = ((P ++ R1).length : Nat) := by simp; omega
            have e3 : ((m + C.length : Nat) : Int) = ((P ++ R1).length : Nat) + (B.length : Int) := by simp; omega
            have e4 : (b : Int) = ((P ++ R1).length : Nat) + (B.length : Int) + E.length := by simp; omega
            conv => lhs; arg 1; rw [e4, e3, e1]
            rw [p3]
            simp
        obtain ⟨R2, p1, p2, e3⟩ := step3
        rw [e3]
        have hm' := z8e hs hS1 hS2 hA hB r1 r2 p1 p2
        exact ⟨R1 ++ R2, hm'.1, hm'.2, rfl⟩
end
end Px
end
section
namespace Px
open Go
set_option linter.unusedVariables false
set_option linter.unusedSimpArgs false
set_option maxHeartbeats 1000000
section
variable {D : Ref → Prop} {lt : Ref → Ref → Bool} {y : Ref → Ref → Option Int}
theorem zmm (hy : Cmp D y lt) (φ : Nat) (k : List Ref → Option (List Ref)) (P : List Ref) (x : Ref) (hx : D x) : ∀ (n : Nat) (S1 S2 : List Ref), (∀ z ∈ S1, D z) → P.length + S1.length + S2.length ≤ 1000000 → S1.length < n →
    ∃ A B, S1 = A ++ B ∧ (∀ z ∈ B, lt x z = true) ∧ (A = [] ∨ ∃ A' z, A = A' ++ [z] ∧ lt x z = false) ∧
      z0k φ (P.length : Int) y k n ((P.length : Int) + S1.length) (P ++ S1 ++ x :: S2) = k (P ++ A ++ x :: (B ++ S2)) := by
  intro n
  induction n with
  | zero => intro S1 S2 _ _ h; omega
  | succ n ih =>
    intro S1 S2 hD hl hn
    rcases List.eq_nil_or_concat S1 with rfl | ⟨S, z, rfl⟩
    · refine ⟨[], [], rfl, by simp, .inl rfl, ?_⟩
      have h0 : decide ((P.length : Int) < (P.length : Int) + (([] : List Ref).length : Int)) = false := by simp
      rw [z0k, h0]
      simp [ck, z3d]
    · simp only [List.concat_eq_append] at hD hl hn ⊢
      simp only [List.length_append, List.length_cons, List.length_nil] at hl hn
      have e1 : P ++ (S ++ [z]) ++ x :: S2 = (P ++ S ++ [z]) ++ x :: S2 := by simp
      have e2 : P ++ (S ++ [z]) ++ x :: S2 = (P ++ S) ++ z :: (x :: S2) := by simp
      have g1 : gt (P ++ (S ++ [z]) ++ x :: S2) ((P.length : Int) + ((S ++ [z]).length : Int)) = x := by
        rw [e1]; exact z5u (by simp <;> omega)
      have hw : W ((P.length : Int) + ((S ++ [z]).length : Int) - 1) = (P.length : Int) + S.length := by
        rw [W_id (by simp; omega) (by simp; omega)]; simp; omega
      have g2 : gt (P ++ (S ++ [z]) ++ x :: S2) ((P.length : Int) + (S.length : Int)) = z := by
        rw [e2]; exact z5u (by simp)
      have h0 : decide ((P.length : Int) < (P.length : Int) + ((S ++ [z]).length : Int)) = true := by simp; omega
      have hlen : ((P ++ (S ++ [z]) ++ x :: S2).length : Int) = P.length + S.length + 1 + 1 + S2.length := by simp; omega
      obtain ⟨w, hw1, hw2⟩ := hy x z hx (hD z (by simp))
      have s1 : z2o (P ++ (S ++ [z]) ++ x :: S2) ((P.length : Int) + ((S ++ [z]).length : Int)) z = (P ++ S) ++ z :: (z :: S2) := by
        rw [e1, z8l (by simp <;> omega)]; simp
      have s2 : z2o ((P ++ S) ++ z :: (z :: S2)) ((P.length : Int) + (S.length : Int)) x = P ++ S ++ x :: (z :: S2) := z8l (by simp)
      rw [z0k, hw, h0, g1, g2, hw1, hlen]
      rw [zj (fun _ => ⟨by omega, by simp; omega⟩), zj (fun _ => ⟨by omega, by omega⟩), zfr rfl]
      simp only [Option.bind_some, hw2, Bool.true_and]
      cases hlt : lt x z with
      | true =>
        rw [if_pos rfl, zj ⟨by omega, by omega⟩, zj ⟨by omega, by simp; omega⟩, s1]
        rw [zj ⟨by omega, by simp; omega⟩, s2]
        obtain ⟨A, B, q1, q2, q3, q4⟩ := ih S (z :: S2) (fun u hu => hD u (by simp [hu])) (by simp; omega) (by omega)
        refine ⟨A, B ++ [z], by rw [q1]; simp, ?_, q3, ?_⟩
        · intro u hu
          rcases List.mem_append.1 hu with h | h
          · exact q2 u h
          · simp at h; rw [h]; exact hlt
        · rw [q4]; simp
      | false =>
        rw [if_neg (by simp)]
        exact ⟨S ++ [z], [], by simp, by simp, .inr ⟨S, z, rfl, hlt⟩, by simp⟩
theorem zli (hs : Swo lt) (hy : Cmp D y lt) (φ : Nat) (P Q : List Ref) : ∀ (n : Nat) (S R : List Ref), S ≠ [] → Srt lt S → (∀ z ∈ S, D z) → (∀ z ∈ R, D z) → P.length + S.length + R.length + Q.length ≤ 1000000 → P.length + S.length + R.length < φ → R.length < n →
    ∃ S', Srt lt S' ∧ Stb lt (S ++ R) S' ∧ zi φ (P.length : Int) ((P.length : Int) + S.length + R.length) y n ((P.length : Int) + S.length) (P ++ S ++ R ++ Q) = some (P ++ S' ++ Q) := by
  intro n
  induction n with
  | zero => intro S R _ _ _ _ _ _ h; omega
  | succ n ih =>
    intro S R hne hS hD hD' hl hφ hn
    cases R with
    | nil =>
      refine ⟨S, hS, by simpa using Stb.refl S, ?_⟩
      rw [zi, if_neg (by simp)]
      simp
    | cons x R =>
      simp only [List.length_cons] at hl hφ hn
      rw [zi, if_pos (by simp; omega)]
      obtain ⟨A, B, q1, q2, q3, q4⟩ := zmm hy φ (z0n φ ((P.length : Int) + S.length) (zi φ (P.length : Int) ((P.length : Int) + S.length + (x :: R).length) y n)) P x (hD' x (by simp)) φ S (R ++ Q) hD (by simp; omega) (by omega)
      rw [show P ++ S ++ x :: R ++ Q = P ++ S ++ x :: (R ++ Q) by simp, q4]
      have hA : ∀ u ∈ A, lt x u = false := by
        rcases q3 with rfl | ⟨A', z, rfl, hz⟩
        · simp
        · intro u hu
          rcases List.mem_append.1 hu with h | h
          · subst q1
            have := (hS.parts.1).parts.2.2 u h z (by simp)
            exact hs.ntr _ _ _ hz this
          · simp at h; rw [h]; exact hz
      have hS2 : Srt lt (A ++ x :: B) := by
        subst q1
        refine hS.parts.1.app (List.pairwise_cons.2 ⟨fun u hu => hs.asym _ _ (q2 u hu), hS.parts.2.1⟩) fun u hu v hv => ?_
        rcases List.mem_cons.1 hv with h | h
        · subst h; exact hA u hu
        · exact hS.parts.2.2 u hu v h
      obtain ⟨S', p1, p2, p3⟩ := ih (A ++ x :: B) R (by simp) hS2 (fun z hz => by
        subst q1
        simp only [List.mem_append, List.mem_cons] at hz
        rcases hz with h | h | h
        · exact hD z (by simp [h])
        · subst h; exact hD' _ (by simp)
        · exact hD z (by simp [h])) (fun z hz => hD' z (by simp [hz])) (by subst q1; simp at hl ⊢; omega) (by subst q1; simp at hφ ⊢; omega) (by omega)
      refine ⟨S', p1, ?_, ?_⟩
      · have h1 : Stb lt (S ++ [x]) (A ++ [x] ++ B) := by subst q1; exact zdq hs q2
        have := h1.app (Stb.refl R)
        refine Stb.trans ?_ (Stb.trans this ?_)
        · simpa using Stb.refl (lt := lt) (S ++ x :: R)
        · simpa using p2
      · rw [← p3]
        unfold z0n
        have e1 : W ((P.length : Int) + S.length + 1) = (P.length : Int) + S.length + 1 := W_id (by omega) (by omega)
        have hSl : S.length = A.length + B.length := by rw [q1]; simp
        have e2 : (P.length : Int) + S.length + 1 = P.length + (A ++ x :: B).length := by simp; omega
        have e3 : (P.length : Int) + S.length + (x :: R).length = P.length + (A ++ x :: B).length + R.length := by simp; omega
        have e4 : P ++ A ++ x :: (B ++ (R ++ Q)) = P ++ (A ++ x :: B) ++ R ++ Q := by simp
        rw [e1, e2, e3, e4]
theorem zbu (hs : Swo lt) (hy : Cmp D y lt) (φ : Nat) (P X Q : List Ref) (hD : ∀ z ∈ X, D z) (hl : P.length + X.length + Q.length ≤ 1000000) (hφ : P.length + X.length < φ) :
    ∃ X', Srt lt X' ∧ Stb lt X X' ∧ z1w φ (P ++ X ++ Q) (P.length : Int) ((P.length : Int) + X.length) y = some (P ++ X' ++ Q) := by
  unfold z1w
  rw [W_id (x := (P.length : Int) + 1) (by omega) (by omega)]
  cases X with
  | nil =>
    refine ⟨[], List.Pairwise.nil, Stb.refl _, ?_⟩
    obtain ⟨n, rfl⟩ : ∃ n, φ = n + 1 := ⟨φ - 1, by omega⟩
    rw [zi, if_neg (by simp; omega)]
  | cons x R =>
    simp only [List.length_cons] at hl hφ
    obtain ⟨S', p1, p2, p3⟩ := zli hs hy φ P Q φ [x] R (by simp) (List.pairwise_singleton _ _) (fun z hz => hD z (by simp at hz; simp [hz])) (fun z hz => hD z (by simp [hz])) (by simp; omega) (by simp; omega) (by omega)
    refine ⟨S', p1, by simpa using p2, ?_⟩
    rw [← p3]
    simp only [List.append_assoc, List.cons_append, List.length_cons, List.length_nil, List.nil_append]
    congr 1
    simp; omega
end
end Px
end
section
namespace Px
open Go
set_option linter.unusedVariables false
set_option linter.unusedSimpArgs false
set_option maxHeartbeats 4000000
section
variable {D : Ref → Prop} {lt : Ref → Ref → Bool} {y : Ref → Ref → Option Int}
theorem ziw (hs : Swo lt) (hy : Cmp D y lt) (φ N : Nat) (k : Int → List Ref → Option (List Ref)) (hN : N ≤ 900000) (hφ : N < φ) :
    ∀ (n : Nat) (X Y : List Ref), (∀ z ∈ Y, D z) → X.length + Y.length = N → Y.length < n →
    ∃ Y1 Y2 Y1', Y = Y1 ++ Y2 ∧ Runs lt 20 (Y1' ++ []) ∧ Y2.length < 20 ∧ Stb lt Y1 Y1' ∧ (∀ T, Runs lt 20 T → Runs lt 20 (Y1' ++ T)) ∧
      z1o φ (N : Int) y k n (X.length : Int) ((X.length : Int) + 20) (X ++ Y) = k ((X.length : Int) + Y1.length) (X ++ Y1' ++ Y2) := by
  intro n
  induction n with
  | zero => intro X Y _ _ h; omega
  | succ n ih =>
    intro X Y hD hl hn
    rw [z1o]
    by_cases h : Y.length < 20
    · refine ⟨[], Y, [], rfl, .last (by simp) List.Pairwise.nil, h, Stb.refl _, fun T hT => hT, ?_⟩
      rw [if_neg (by simp; omega)]
      simp
    · obtain ⟨B, Z, rfl, hB⟩ : ∃ B Z, Y = B ++ Z ∧ B.length = 20 := ⟨Y.take 20, Y.drop 20, (List.take_append_drop _ _).symm, by simp; omega⟩
      simp only [List.length_append] at hl hn h
      rw [if_pos (by simp; omega)]
      obtain ⟨B', b1, b2, b3⟩ := zbu hs hy φ X B Z (fun z hz => hD z (by simp [hz])) (by omega) (by omega)
      rw [hB] at b3
      have e1 : X ++ (B ++ Z) = X ++ B ++ Z := by simp
      have e2 : ((20 : Nat) : Int) = 20 := rfl
      rw [e2] at b3
      rw [e1, b3]
      simp only [Option.bind_some]
      have hB' : B'.length = 20 := by rw [b2.len, hB]
      have w1 : W ((X.length : Int) + 20 + 20) = (X.length : Int) + 20 + 20 := W_id (by omega) (by omega)
      have e3 : (X.length : Int) + 20 = ((X ++ B').length : Nat) := by simp [hB']
      rw [w1]
      obtain ⟨Y1, Y2, Y1', q1, q2, q3, q4, q5, q6⟩ := ih (X ++ B') Z (fun z hz => hD z (by simp [hz])) (by simp; omega) (by omega)
      rw [← e3] at q6
      refine ⟨B ++ Y1, Y2, B' ++ Y1', by rw [q1]; simp, ?_, q3, b2.app q4, fun T hT => ?_, ?_⟩
      · rw [List.append_assoc]; exact .cons hB' b1 q2
      · rw [List.append_assoc]; exact .cons hB' b1 (q5 T hT)
      · rw [q6]
        have e4 : (X.length : Int) + 20 + Y1.length = (X.length : Int) + ((B ++ Y1).length : Nat) := by simp; omega
        rw [e4]
        simp
theorem zqa (hs : Swo lt) (hy : Cmp D y lt) (φ N bs : Nat) (k : Int → List Ref → Option (List Ref)) (hN : N ≤ 900000) (hφ : 2 * N + 3 < φ) (hb0 : 0 < bs) (hb : bs ≤ 900000) :
    ∀ (n : Nat) (X Y : List Ref), (∀ z ∈ Y, D z) → Runs lt bs Y → X.length + Y.length = N → Y.length < n →
    ∃ Y', Runs lt (bs * 2) Y' ∧ Stb lt Y Y' ∧ z2n φ (N : Int) y (bs : Int) (z1p φ (N : Int) y (bs : Int) k) n (X.length : Int) ((X.length : Int) + 2 * bs) (X ++ Y) = k ((bs * 2 : Nat) : Int) (X ++ Y') := by
  intro n
  induction n with
  | zero => intro X Y _ _ _ h; omega
  | succ n ih =>
    intro X Y hD hR hl hn
    have w1 : W ((X.length : Int) + bs) = (X.length : Int) + bs := W_id (by omega) (by omega)
    have w2 : W ((bs : Int) * 2) = ((bs * 2 : Nat) : Int) := by rw [W_id (by omega) (by omega)]; simp
    have w3 : W (2 * (bs : Int)) = 2 * (bs : Int) := W_id (by omega) (by omega)
    have w4 : W ((X.length : Int) + 2 * bs + 2 * bs) = (X.length : Int) + 2 * bs + 2 * bs := W_id (by omega) (by omega)
    rw [z2n, w1, w3, w4]
    by_cases h : 2 * bs ≤ Y.length
    · rw [if_pos (by simp; omega)]
      obtain ⟨B1, r, rfl, h1, s1, hr, hne⟩ := hR.big (by omega)
      simp only [List.length_append] at hl hn h
      obtain ⟨B2, Z, rfl, h2, s2, hZ⟩ : ∃ B2 Z, r = B2 ++ Z ∧ B2.length = bs ∧ Srt lt B2 ∧ Runs lt bs Z := by
        by_cases q : r.length = bs
        · exact ⟨r, [], by simp, q, hr.small (by omega), .last (by simp) List.Pairwise.nil⟩
        · obtain ⟨b, r', e, q1, q2, q3, _⟩ := hr.big (by omega)
          exact ⟨b, r', e, q1, q2, q3⟩
      simp only [List.length_append] at hl hn h
      obtain ⟨R, r1, r2, r3⟩ := zf5 hs hy φ X B1 B2 Z (fun z hz => hD z (by simp [hz])) (fun z hz => hD z (by simp [hz])) s1 s2 (by intro e; subst e; simp at h1; omega) (by intro e; subst e; simp at h2; omega) (by omega) (by omega)
      have hRl : R.length = 2 * bs := by rw [r2.len]; simp; omega
      have e1 : X ++ (B1 ++ (B2 ++ Z)) = X ++ B1 ++ B2 ++ Z := by simp
      have e2 : (X.length : Int) + bs = (X.length : Int) + B1.length := by omega
      have e3 : (X.length : Int) + 2 * bs = (X.length : Int) + B1.length + B2.length := by omega
      have e4 : (X.length : Int) + 2 * bs = ((X ++ R).length : Nat) := by simp; omega
      obtain ⟨Y', p1, p2, p3⟩ := ih (X ++ R) Z (fun z hz => hD z (by simp [hz])) hZ (by simp; omega) (by omega)
      refine ⟨R ++ Y', .cons (by omega) r1 p1, ?_, ?_⟩
      · have := r2.app p2
        simpa using this
      · rw [e1]
        conv => lhs; arg 1; rw [e2, e3]
        rw [r3]
        simp only [Option.bind_some]
        rw [e4, p3]
        simp
    · rw [if_neg (by simp; omega)]
      unfold z1p z2x
      rw [w1, w2]
      by_cases q : bs < Y.length
      · rw [if_pos (by simp; omega)]
        obtain ⟨B1, B2, rfl, h1, s1, hr, hne⟩ := hR.big q
        simp only [List.length_append] at hl hn h
        obtain ⟨R, r1, r2, r3⟩ := zf5 hs hy φ X B1 B2 [] (fun z hz => hD z (by simp [hz])) (fun z hz => hD z (by simp [hz])) s1 (hr.small (by omega)) (by intro e; subst e; simp at h1; omega) hne (by simp; omega) (by omega)
        have e1 : X ++ (B1 ++ B2) = X ++ B1 ++ B2 ++ [] := by simp
        have e2 : (X.length : Int) + bs = (X.length : Int) + B1.length := by omega
        have e3 : (N : Int) = (X.length : Int) + B1.length + B2.length := by omega
        refine ⟨R, .last (by rw [r2.len]; simp; omega) r1, r2, ?_⟩
        rw [e1, e2, e3, r3]
        simp
      · rw [if_neg (by simp; omega)]
        exact ⟨Y, .last (by omega) (hR.small (by omega)), Stb.refl _, rfl⟩
theorem zmg (hs : Swo lt) (hy : Cmp D y lt) (φ N : Nat) (hN : N ≤ 400000) (hφ : 2 * N + 3 < φ) :
    ∀ (n bs : Nat) (Y : List Ref), (∀ z ∈ Y, D z) → Runs lt bs Y → Y.length = N → 0 < bs → bs ≤ 900000 → N - bs < n →
    ∃ Y', Srt lt Y' ∧ Stb lt Y Y' ∧ zk φ (N : Int) y n (bs : Int) Y = some Y' := by
  intro n
  induction n with
  | zero => intro bs Y _ _ _ _ _ h; omega
  | succ n ih =>
    intro bs Y hD hR hl hb0 hb hn
    rw [zk]
    by_cases h : bs < N
    · rw [if_pos (by simp; omega), W_id (x := 2 * (bs : Int)) (by omega) (by omega)]
      obtain ⟨Y', p1, p2, p3⟩ := zqa hs hy φ N bs (zk φ (N : Int) y n) (by omega) hφ hb0 hb φ [] Y hD hR (by simpa using hl) (by omega)
      obtain ⟨Y'', q1, q2, q3⟩ := ih (bs * 2) Y' (fun z hz => hD z (p2.mem.1 hz)) p1 (by rw [p2.len, hl]) (by omega) (by omega) (by omega)
      refine ⟨Y'', q1, p2.trans q2, ?_⟩
      rw [← q3]
      simpa using p3
    · rw [if_neg (by simp; omega)]
      exact ⟨Y, hR.small (by omega), Stb.refl _, rfl⟩
/-- The stable sort sorts, and keeps the order of equal elements. -/
theorem zhs (hs : Swo lt) (hy : Cmp D y lt) (φ : Nat) (v : List Ref) (hD : ∀ z ∈ v, D z) (hN : v.length ≤ 400000) (hφ : 2 * v.length + 3 < φ) :
    ∃ r, Srt lt r ∧ Stb lt v r ∧ z47 φ v y = some r := by
  unfold z47 z5w
  obtain ⟨Y1, Y2, Y1', q1, q2, q3, q4, q5, q6⟩ := ziw hs hy φ v.length (z12 φ (v.length : Int) y) (by omega) (by omega) φ [] v hD (by simp) (by omega)
  have q6' : z1o φ (v.length : Int) y (z12 φ (v.length : Int) y) φ 0 20 v = z12 φ (v.length : Int) y (Y1.length : Int) (Y1' ++ Y2) := by simpa using q6
  rw [q6']
  unfold z12
  have hl : v.length = Y1.length + Y2.length := by rw [q1]; simp
  have hl1 : Y1'.length = Y1.length := q4.len
  obtain ⟨Y2', p1, p2, p3⟩ := zbu hs hy φ Y1' Y2 [] (fun z hz => hD z (by rw [q1]; simp [hz])) (by simp; omega) (by omega)
  simp only [List.append_nil] at p3
  have e1 : (Y1.length : Int) = Y1'.length := by omega
  have e2 : (v.length : Int) = (Y1'.length : Int) + Y2.length := by omega
  have p3' : z1w φ (Y1' ++ Y2) (Y1.length : Int) (v.length : Int) y = some (Y1' ++ Y2') := by rw [e1, e2]; exact p3
  have hst : Stb lt v (Y1' ++ Y2') := by rw [q1]; exact q4.app p2
  obtain ⟨r, r1, r2, r3⟩ := zmg hs hy φ v.length hN hφ φ 20 (Y1' ++ Y2') (fun z hz => hD z (hst.mem.1 hz)) (q5 _ (.last (by rw [p2.len]; omega) p1)) hst.len (by omega) (by omega) (by omega)
  refine ⟨r, r1, hst.trans r2, ?_⟩
  rw [p3']
  simp only [Option.bind_some]
  have r3' : zk φ (v.length : Int) y φ 20 (Y1' ++ Y2') = some r := r3
  rw [r3']
  rfl
end
end Px
end
section
namespace Px
open Go
set_option linter.unusedVariables false
set_option linter.unusedSimpArgs false
/-- The receipts; the deliveries in their order; the pairs; the handovers. -/
def isD (p : Pool) (r : zo) : Bool := r.fItem.fKind == 3 && okDR p r.fItem
def isR (p : Pool) (r : zo) : Bool := r.fItem.fKind == 4 && okDR p r.fItem
def rcpI (p : Pool) (l : List zo) : List Int := idxF (isR p) l
def dlvI (p : Pool) (l : List zo) : List Int := zg3 (zih l) (idxF (isD p) l)
def prs (p : Pool) (l : List zo) : List (Nat → Int) := ze9 p l (rcpI p l) (dlvI p l)
def mts (p : Pool) (l : List zo) : List z4 := if z7u p = 0 then zg3 zkl ((prs p l).map (mkH l)) else []
theorem zf8 {p : Pool} {l : List zo} {i : Int} (h : i ∈ rcpI p l) : (0 ≤ i ∧ i < (l.length : Int)) ∧ (gt l i).fItem.fKind = 4 ∧ okDR p (gt l i).fItem = true := by
  obtain ⟨h1, h2, h3⟩ := zal.1 h
  simp only [isR, Bool.and_eq_true, beq_iff_eq] at h3
  exact ⟨⟨h1, h2⟩, h3⟩
theorem zn5 {p : Pool} {l : List zo} {i : Int} (h : i ∈ dlvI p l) : (0 ≤ i ∧ i < (l.length : Int)) ∧ (gt l i).fItem.fKind = 3 ∧ okDR p (gt l i).fItem = true := by
  obtain ⟨h1, h2, h3⟩ := zal.1 (zhk _ h)
  simp only [isD, Bool.and_eq_true, beq_iff_eq] at h3
  exact ⟨⟨h1, h2⟩, h3⟩
theorem zqu (p : Pool) (l : List zo) : (dlvI p l).length ≤ l.length := by
  unfold dlvI; rw [zhe (zh3 l)]; exact zco _ _
theorem zm7 (p : Pool) (l : List zo) : (prs p l).length ≤ l.length := Nat.le_trans (zp8 p l _ _) (zqu p l)
theorem ok34 (φ : Nat) (hφ : 800000 < φ) (p : Pool) (hc : z7u p = 0) (l : List zo) : ∀ r ∈ l, r.fItem.fKind = 3 ∨ r.fItem.fKind = 4 → ∃ e, z8x φ p r.fItem = some e ∧ (e == 0) = okDR p r.fItem := by
  intro r _ hk
  rw [zai φ hφ p _ hk, if_neg (fun e : z7u p ≠ 0 => e hc)]
  refine ⟨_, rfl, ?_⟩
  cases okDR p r.fItem <;> rfl
theorem zky (φ : Nat) (hφ : 800000 < φ) (p : Pool) (l : List zo) (hl : l.length ≤ 100000) : z5t φ p l = some (if z7u p = 0 then prs p l else []) := by
  by_cases hc : z7u p = 0
  · obtain ⟨ds, s1, s2, s3⟩ := zr4 φ p l (okDR p) hl (by omega) (by rw [z8o φ hφ, hc]) (ok34 φ hφ p hc l) (fun r _ _ h => (zcg h).1)
    rw [if_pos hc, s3]
    have : ds = dlvI p l := zkm (zh3 l) s1 s2
    rw [this]; rfl
  · rw [if_neg hc]
    unfold z5t
    simp only [Pool.eta', z8o φ hφ, Option.bind_some]
    rw [if_pos (by simpa using hc)]
theorem zpl (φ : Nat) (hφ : 800000 < φ) (p : Pool) (l : List zo) (hl : l.length ≤ 100000) : z57 φ p l = some (mts p l) := by
  have hb : ∀ ps : List (Nat → Int), ps.length ≤ 100000 → (∀ x ∈ ps, (0 ≤ x 0 ∧ x 0 < (l.length : Int)) ∧ 0 ≤ x 1 ∧ x 1 < (l.length : Int)) → z5t φ p l = some ps → z57 φ p l = some (zg3 zkl (ps.map (mkH l))) := by
    intro ps hps hin he
    obtain ⟨ms, m1, m2, m3⟩ := zdw zm3 (ztn φ (by omega)) φ (ps.map (mkH l)) (fun _ _ => trivial) (by simp; omega) (by simp; omega)
    unfold z57
    simp only [Pool.eta', he, Option.bind_some]
    rw [zoa φ l _ hps hin (by omega)]
    unfold z3p
    rw [m3, Option.bind_some, zkm zm3 m1 m2]
  have hp := zky φ hφ p l hl
  unfold mts
  by_cases hc : z7u p = 0
  · rw [if_pos hc] at hp ⊢
    refine hb _ (Nat.le_trans (zm7 p l) hl) ?_ hp
    exact zmw (fun z hz => (zf8 hz).1) (fun z hz => (zn5 hz).1)
  · rw [if_neg hc] at hp ⊢
    exact hb [] (by simp) (by simp) hp
theorem zu2 (φ : Nat) (n : Nat) (h : n ≤ 1000000) : zbk φ (n : Int) = some [] := by
  have h0 : W (0 - (([] : List Int).length : Int)) = 0 := rfl
  have h1 : W ((n : Int) - 0) = n := by rw [Int.sub_zero]; exact W_id (by omega) (by omega)
  unfold zbk
  rw [if_neg (by simp), h0, h1]
  split
  · rename_i h2
    rw [zj (by simpa using h2), zj (zb7 (by omega) (by omega)), zj ⟨by omega, by simp⟩]
    rfl
  · rfl
theorem zov (φ : Nat) (hφ : 3 < φ) (a b : List Int) (ha : a.length ≤ 100000) (hb : b.length ≤ 100000) : z9y φ [a, b] = some (a ++ b) := by
  unfold z9y
  have hg : ∀ j : Nat, j < 2 → (gt [a, b] (j : Int)).length ≤ 100000 := by
    intro j hj
    match j, hj with
    | 0, _ => exact ha
    | 1, _ => exact hb
  refine z56 (fun n j s => z53 φ [a, b] (z5i φ [a, b]) n s j) 2 (fun j s => 0 ≤ s ∧ s ≤ 100000 * j) (fun o => o = some (a ++ b)) ?_ ?_ φ 0 (by simp) (by omega)
  · intro n j s hj hs hk
    have := hg j hj
    rw [z53, if_pos (by simp; omega), zj ⟨by omega, by simp; omega⟩, W_id (by omega) (by omega), if_neg (by simp; omega), W_id (by omega) (by omega)]
    exact hk _ (by omega)
  · intro n s hs
    rw [z53, if_neg (by simp)]
    unfold z5i
    have e : s = (s.toNat : Int) := by omega
    rw [e, zu2 φ _ (by omega), Option.bind_some]
    refine z56 (z4w φ [a, b] (z52 φ)) 2 (fun j s => s = ([a, b].take j).flatten) (fun o => o = some (a ++ b)) ?_ ?_ φ [] (by simp) (by omega)
    · intro n j s hj hs hk
      have hl := hg j hj
      have hsl : s.length ≤ 100000 := by
        match j, hj with
        | 0, _ => rw [hs]; simp
        | 1, _ => rw [hs]; simpa using ha
      rw [z4w, if_pos (by simp; omega), zj ⟨by omega, by simp; omega⟩, zj (zb7 (by omega) (by omega)), W_id (by omega) (by omega)]
      refine hk _ ?_
      match j, hj with
      | 0, _ => rw [hs]; simp [gt]
      | 1, _ => rw [hs]; simp [gt]
    · intro n s hs
      rw [z4w, if_neg (by simp), hs]
      simp [z52]
/-- Whether a report belongs to a pair. -/
def z9f (ps : List (Nat → Int)) (i : Int) : Bool := ps.any fun x => x 0 == i || x 1 == i
def zfo (p : Pool) (l : List zo) : List Int := (idxF (isD p) l ++ rcpI p l).filter fun i => !z9f (prs p l) i
def unm (p : Pool) (l : List zo) : List Ref := if z7u p = 0 then zg3 zil ((zfo p l).map fun i => (gt l i).fRef) else []
theorem zql (φ : Nat) (ps : List (Nat → Int)) (k : List (Int × Bool) → Option (List Ref)) (R : List Ref) (hl : ps.length ≤ 100000) (hφ : ps.length < φ)
    (hk : ∀ u, (∀ i, (mget u i).getD false = z9f ps i) → k u = some R) : z2u φ ps k φ 0 [] = some R := by
  refine z56 (z2u φ ps k) ps.length (fun j s => ∀ i, (mget s i).getD false = z9f (ps.take j) i) (fun o => o = some R) ?_ ?_ φ [] (fun i => by simp [mget, z9f]) hφ
  · intro n j s hj hs hk
    rw [z2u, if_pos (by simp; omega), zj ⟨by omega, by omega⟩, W_id (by omega) (by omega)]
    refine hk _ fun i => ?_
    rw [zhx, zhx]
    have := hs i
    unfold z9f at this ⊢
    rw [z9z _ _ _ hj, ← this]
    by_cases h1 : i = gt ps (j : Int) 1
    · subst h1; simp
    · by_cases h0 : i = gt ps (j : Int) 0
      · subst h0; simp [h1]
      · rw [if_neg (by simpa using h1), if_neg (by simpa using h0)]
        have e1 : (gt ps (j : Int) 0 == i) = false := by simpa using fun e => h0 e.symm
        have e2 : (gt ps (j : Int) 1 == i) = false := by simpa using fun e => h1 e.symm
        rw [e1, e2]; simp
  · intro n s hs
    rw [List.take_length] at hs
    rw [z2u, if_neg (by simp)]
    exact hk s hs
theorem zug (φ : Nat) (hφ : 800000 < φ) (p : Pool) (l : List zo) (hl : l.length ≤ 100000) : z6j φ p l = some (unm p l) := by
  unfold z6j unm
  simp only [Pool.eta', z8o φ hφ, Option.bind_some]
  by_cases hc : z7u p = 0
  case neg => rw [if_pos (by simpa using hc), if_neg hc]
  rw [if_neg (by simpa using hc), zky φ hφ p l hl, if_pos hc, if_pos hc, Option.bind_some]
  have pl := zm7 p l
  refine zql φ _ _ _ (by omega) (by omega) fun u hu => ?_
  have h3 := of_eq φ p l 3 (okDR p) hl (by omega) fun r hr hk => ok34 φ hφ p hc l r hr (.inl hk)
  have h4 := of_eq φ p l 4 (okDR p) hl (by omega) fun r hr hk => ok34 φ hφ p hc l r hr (.inr hk)
  unfold z3o
  simp only [Pool.eta', h3, h4, Option.bind_some]
  have l3 := zco (isD p) l
  have l4 := zco (isR p) l
  have e3 : idxF (fun r => r.fItem.fKind == 3 && okDR p r.fItem) l = idxF (isD p) l := rfl
  have e4 : idxF (fun r => r.fItem.fKind == 4 && okDR p r.fItem) l = rcpI p l := rfl
  have l4' : (rcpI p l).length ≤ l.length := l4
  rw [e3, e4, zov φ (by omega) _ _ (by omega) (by omega), Option.bind_some]
  generalize hA : idxF (isD p) l ++ rcpI p l = A
  have hAl : A.length ≤ 2 * l.length := by rw [← hA]; simp; omega
  have hAm : ∀ z ∈ A, 0 ≤ z ∧ z < (l.length : Int) := by
    intro z hz
    rw [← hA] at hz
    rcases List.mem_append.1 hz with hz | hz
    · have := zal.1 hz; exact ⟨this.1, this.2.1⟩
    · exact (zf8 hz).1
  have hfree : zfo p l = A.filter fun i => !z9f (prs p l) i := by unfold zfo; rw [hA]
  rw [hfree]
  refine z56 (z1y φ l u A (z2l φ)) A.length (fun j s => s = ((A.take j).filter fun i => !z9f (prs p l) i).map (fun i => (gt l i).fRef) ∧ s.length ≤ j) (fun o => o = some _) ?_ ?_ φ [] ⟨by simp, by simp⟩ (by omega)
  · intro n j s hj ⟨hs, hsl⟩ hk
    have hz := hAm _ (z9h (l := A) (i := (j : Int)) (by omega) (by omega))
    rw [z1y, if_pos (by simp; omega), zj ⟨by omega, by omega⟩, hu]
    unfold z4j
    rw [W_id (by omega) (by omega)]
    have hnext : ((A.take (j + 1)).filter fun i => !z9f (prs p l) i).map (fun i => (gt l i).fRef) = if (!z9f (prs p l) (gt A (j : Int))) = true then s ++ [(gt l (gt A (j : Int))).fRef] else s := by
      rw [zay A j hj, List.filter_append, List.map_append, ← hs]
      cases h : z9f (prs p l) (gt A (j : Int)) <;> simp [h]
    split
    · rename_i h
      rw [zj hz, zj (zb7 (by simp; omega) (by omega))]
      exact hk _ ⟨by rw [hnext, if_pos h], by simp; omega⟩
    · rename_i h
      exact hk _ ⟨by rw [hnext, if_neg h], by omega⟩
  · intro n s ⟨hs, hsl⟩
    rw [List.take_length] at hs
    rw [z1y, if_neg (by simp)]
    unfold z2l
    obtain ⟨rs, m1, m2, m3⟩ := zhs zfz (zt3 φ (by omega)) φ s (fun _ _ => trivial) (by omega) (by omega)
    rw [m3, Option.bind_some, zkm zfz m1 m2, hs]
end Px
end
section
namespace Px
open Go
theorem zmx : zdp 1000000 = some true := by kernel_rfl
end Px
end
section
namespace Px
open Go
set_option linter.unusedVariables false
set_option linter.unusedSimpArgs false
theorem zig {p : Pool} {l : List zo} {i : Int} (h : i ∈ zfo p l) : (0 ≤ i ∧ i < (l.length : Int)) ∧ z9f (prs p l) i = false ∧ (i ∈ idxF (isD p) l ∨ i ∈ rcpI p l) := by
  unfold zfo at h
  simp only [List.mem_filter, List.mem_append, Bool.not_eq_true'] at h
  refine ⟨?_, h.2, h.1⟩
  rcases h.1 with h1 | h1
  · have := zal.1 h1; exact ⟨this.1, this.2.1⟩
  · exact (zf8 h1).1
theorem zt4 {p : Pool} {l : List zo} {r : Ref} (h : r ∈ unm p l) : ∃ i ∈ zfo p l, (gt l i).fRef = r := by
  unfold unm at h
  split at h
  · exact List.mem_map.1 (zhk _ h)
  · cases h
theorem zpe (p : Pool) (l : List zo) : (zfo p l).length ≤ 2 * l.length := by
  unfold zfo
  have h1 := List.length_filter_le (fun i => !z9f (prs p l) i) (idxF (isD p) l ++ rcpI p l)
  have h2 := zco (isD p) l
  have h3 : (rcpI p l).length ≤ l.length := zco (isR p) l
  simp only [List.length_append] at h1
  omega
theorem ztp (p : Pool) (l : List zo) : (unm p l).length ≤ 2 * l.length := by
  unfold unm
  split
  · rw [zhe zfz, List.length_map]; exact zpe p l
  · simp
end Px
end
section
namespace Px
open Go
set_option linter.unusedVariables false
set_option linter.unusedSimpArgs false
/-- A handover is between two railways. -/
theorem zvs {p : Pool} {l : List zo} {h : z4} (hh : h ∈ mts p l) : h.fFrom ≠ h.fTo := by
  unfold mts at hh
  split at hh
  · obtain ⟨x, hx, rfl⟩ := List.mem_map.1 (zhk _ hh)
    obtain ⟨d, k, rfl, h1, h2, h3, h4⟩ := (pinv p l (rcpI p l) (dlvI p l)).pr x hx
    simp only [zef, Bool.and_eq_true, bne_iff_ne, ne_eq] at h3
    simp only [zhl, unf5, zcl, bne_eq_false_iff_eq] at h4
    show (gt l d).fRef.fRailway ≠ (gt l k).fRef.fRailway
    rw [h4.1.1.1.1.2]
    exact h3.1
  · cases hh
end Px
end
section
namespace Px
open Go
set_option linter.unusedVariables false
set_option linter.unusedSimpArgs false
theorem zo8 (p : Pool) (l : List zo) : (dlvI p l).Nodup := (z9r (zh3 l) _).2.1.nodup_iff.2 (zg5 _ _)
/-- What is known of each pair. -/
theorem zq9 {p : Pool} {l : List zo} {x : Nat → Int} (hx : x ∈ prs p l) : ((0 ≤ x 0 ∧ x 0 < (l.length : Int)) ∧ (gt l (x 0)).fItem.fKind = 3 ∧ okDR p (gt l (x 0)).fItem = true) ∧ ((0 ≤ x 1 ∧ x 1 < (l.length : Int)) ∧ (gt l (x 1)).fItem.fKind = 4 ∧ okDR p (gt l (x 1)).fItem = true) ∧
    zef p (gt l (x 0)) = true ∧ ((gt l (x 1)).fRef.fRailway = (gt l (x 0)).fItem.fOther ∧ (gt l (x 1)).fItem.fOther = (gt l (x 0)).fRef.fRailway ∧ (gt l (x 1)).fItem.fWagon = (gt l (x 0)).fItem.fWagon ∧ (gt l (x 1)).fItem.fPlace = (gt l (x 0)).fItem.fPlace ∧ gapW (gt l (x 0)) (gt l (x 1)) ≤ 60) := by
  obtain ⟨d, k, rfl, h1, h2, h3, h4⟩ := (pinv p l (rcpI p l) (dlvI p l)).pr x hx
  refine ⟨zn5 h1, zf8 h2, h3, ?_⟩
  simp only [zhl, unf5, zcl, bne_eq_false_iff_eq, decide_eq_false_iff_not] at h4
  obtain ⟨⟨⟨⟨⟨_, e1⟩, e2⟩, e3⟩, e4⟩, e5⟩ := h4
  exact ⟨e1, e2, e3, e4, Int.not_lt.1 e5⟩
theorem zqx {a b : zo} (ha : 0 ≤ a.fItem.fFrom ∧ a.fItem.fFrom ≤ 1073741824) (hb : 0 ≤ b.fItem.fFrom ∧ b.fItem.fFrom ≤ 1073741824) : gapW a b = max2 (a.fItem.fFrom - b.fItem.fFrom) (b.fItem.fFrom - a.fItem.fFrom) := by
  unfold gapW; rw [W_id (by omega) (by omega), W_id (by omega) (by omega)]
theorem zto {a b : Int} (ha : 0 ≤ a ∧ a ≤ 1073741824) (hb : 0 ≤ b ∧ b ≤ 1073741824) : W ((W (a + b)).tdiv 2) = (a + b) / 2 := by
  rw [W_id (x := a + b) (by omega) (by omega), Int.tdiv_eq_ediv_of_nonneg (by omega), W_id (by omega) (by omega)]
theorem znm {α : Type} (a b g : α → Bool) (h : ∀ x, a x = true → b x = false) : ∀ L : List α, (L.filter fun i => (a i || b i) && g i).length = (L.filter fun i => a i && g i).length + (L.filter fun i => b i && g i).length
  | [] => rfl
  | x :: L => by
    have ih := znm a b g h L
    simp only [List.filter_cons]
    have := h x
    cases ha : a x <;> cases hb : b x <;> cases hg : g x <;> simp_all <;> omega
theorem zjo {α : Type} [Inhabited α] (f : α → Bool) (g : Int → Bool) (l : List α) : ((idxF f l).filter g).length = ((List.range l.length).filter fun (i : Nat) => f (gt l (i : Int)) && g (i : Int)).length := by
  unfold idxF
  rw [List.filter_map, List.length_map, List.filter_filter]
  congr 2
  funext i
  simp [Bool.and_comm]
theorem zmv (p : Pool) (l : List zo) : (zfo p l).length = ((List.range l.length).filter fun (i : Nat) => (isD p (gt l (i : Int)) || isR p (gt l (i : Int))) && !z9f (prs p l) (i : Int)).length := by
  unfold zfo rcpI
  rw [List.filter_append, List.length_append, zjo, zjo]
  symm
  refine znm (fun i : Nat => isD p (gt l (i : Int))) (fun i : Nat => isR p (gt l (i : Int))) (fun i : Nat => !z9f (prs p l) (i : Int)) (fun x hx => ?_) _
  simp only [isD, isR, Bool.and_eq_true, beq_iff_eq] at hx ⊢
  simp [hx.1]
theorem zm1 (p : Pool) (l : List zo) : (zfo p l).Nodup := by
  unfold zfo
  refine List.Pairwise.filter _ (show List.Nodup _ from ?_)
  rw [List.nodup_append]
  refine ⟨zg5 _ _, zg5 _ _, fun a ha b hb e => ?_⟩
  subst e
  have h1 := (zal.1 ha).2.2
  have h2 := (zf8 hb).2.1
  simp [isD] at h1
  omega
theorem zl5 {α β : Type} {f : α → β} : ∀ {l : List α}, l.Nodup → (∀ a ∈ l, ∀ b ∈ l, f a = f b → a = b) → (l.map f).Nodup
  | [], _, _ => List.nodup_nil
  | x :: l, h, hi => by
    have h' := List.nodup_cons.1 h
    rw [List.map_cons, List.nodup_cons]
    refine ⟨fun hm => ?_, zl5 h'.2 fun a ha b hb => hi a (by simp [ha]) b (by simp [hb])⟩
    obtain ⟨y, hy, e⟩ := List.mem_map.1 hm
    have := hi y (by simp [hy]) x (by simp) e
    exact h'.1 (this ▸ hy)
theorem zpj {p : Pool} {l : List zo} (hd : Diff l) : (unm p l).Nodup := by
  unfold unm
  split
  · rw [(z9r zfz _).2.1.nodup_iff]
    exact zl5 (zm1 p l) fun a ha b hb e => zqz hd (zig ha).1 (zig hb).1 e
  · exact List.nodup_nil
theorem ztg (p : Pool) (l : List zo) : Srt zil (unm p l) := by
  unfold unm
  split
  · exact (z9r zfz _).1
  · exact List.Pairwise.nil
theorem zog (φ : Nat) (a b : Ref) : zav φ a b = some (zil a b) := by
  unfold zav zil
  congr 1
  rw [Bool.eq_iff_iff]
  simp only [Bool.or_eq_true, Bool.and_eq_true, decide_eq_true_eq, beq_iff_eq, zdh]
theorem zsl {α : Type} [Inhabited α] {lt : α → α → Bool} {l : List α} (h : Srt lt l) {i j : Nat} (hij : i < j) (hj : j < l.length) : lt (gt l (j : Int)) (gt l (i : Int)) = false := by
  have := List.pairwise_iff_getElem.1 h i j (by omega) hj hij
  rw [zcc (by omega), zcc (by omega)]; exact this
theorem zqg {α : Type} [Inhabited α] {l : List α} (h : l.Nodup) {i j : Nat} (hij : i < j) (hj : j < l.length) : gt l (i : Int) ≠ gt l (j : Int) := by
  have := List.pairwise_iff_getElem.1 h i j (by omega) hj hij
  rw [zcc (by omega), zcc (by omega)]; exact this
theorem zl4 {α β : Type} [Inhabited α] [Inhabited β] (f : α → β) (l : List α) (i : Nat) (h : i < l.length) : gt (l.map f) (i : Int) = f (gt l (i : Int)) := by
  rw [zcc (by simpa using h), zcc h]; simp
theorem zoc {ps qs : List (Nat → Int)} (h : qs.Perm ps) (i : Int) : z9f qs i = z9f ps i := by
  rw [Bool.eq_iff_iff]
  simp only [z9f, List.any_eq_true]
  exact ⟨fun ⟨x, hx, e⟩ => ⟨x, h.mem_iff.1 hx, e⟩, fun ⟨x, hx, e⟩ => ⟨x, h.mem_iff.2 hx, e⟩⟩
theorem zid {qs : List (Nat → Int)} {i : Int} (h : ∀ x ∈ qs, x 0 ≠ i ∧ x 1 ≠ i) : z9f qs i = false := by
  unfold z9f
  rw [List.any_eq_false]
  intro x hx
  have := h x hx
  simp [this.1, this.2]
theorem zfa (p : Pool) (l : List zo) {A B : Prop} (_ : A) (_ : B) : ∃ φ, z8h φ p l = some true := by
  refine ⟨1000000, ?_⟩
  have h8 : 800000 < 1000000 := by omega
  unfold z8h
  obtain ⟨b, hb, hb2⟩ := zx3 1000000 (by omega) p l
  simp only [Pool.eta', zmx, hb, Option.bind_some]
  rw [if_neg (by simp)]
  cases b with
  | false => rw [z9n (by simp), Option.bind_some, z9n (by simp)]; rfl
  | true =>
  obtain ⟨hl, _⟩ := hb2 rfl
  rw [z9p (by simp)]
  obtain ⟨d, hd, hd2⟩ := zlq 1000000 l (by omega) (by omega)
  rw [hd, Option.bind_some]
  cases d with
  | false => rw [z9n (by simp)]; rfl
  | true =>
  have hdf := hd2 rfl
  rw [z9p (by simp), zf4 _ h8, Option.bind_some]
  by_cases hc : z7u p = 0
  case neg => rw [if_pos (by simpa using hc)]
  rw [if_neg (by simp [hc]), zj (mk_t _ _ (by omega) (by omega) (by omega)), zpl _ h8 p l (by omega), Option.bind_some]
  have hE : mts p l = zg3 zkl ((prs p l).map (mkH l)) := by unfold mts; rw [if_pos hc]
  have hS := z9r zm3 ((prs p l).map (mkH l))
  obtain ⟨qs, hq1, hq2⟩ := zrb (mkH l) hS.2.1
  have hqm : mts p l = qs.map (mkH l) := hE.trans hq2
  have hsrt : Srt zkl (qs.map (mkH l)) := by rw [← hq2]; exact hS.1
  have hql : qs.length ≤ l.length := by rw [hq1.length_eq]; exact zm7 p l
  have hft : ∀ h ∈ qs.map (mkH l), h.fFrom ≠ h.fTo := fun h hh => zvs (p := p) (l := l) (by rw [hqm]; exact hh)
  have hok : ∀ i : Nat, i < qs.length → gt qs (i : Int) ∈ prs p l := fun i hi => hq1.mem_iff.1 (z9h (by omega) (by omega))
  have hn0 : (qs.map fun x => x 0).Nodup := (hq1.map _).nodup_iff.2 ((pinv p l (rcpI p l) (dlvI p l)).sub.nodup (zo8 p l))
  have hn1 : (qs.map fun x => x 1).Nodup := (hq1.map _).nodup_iff.2 (pinv p l (rcpI p l) (dlvI p l)).nd
  rw [hqm]
  -- the loop over the handovers
  refine z56 (fun n i s => z33 1000000 p l (qs.map (mkH l)) (z32 1000000 p l) n i s) (qs.map (mkH l)).length
    (fun i s => s.length = l.length ∧ ∀ j : Int, 0 ≤ j → j < (l.length : Int) → gt s j = z9f (qs.take i) j) (fun o => o = some true) ?_ ?_ _ _ ⟨by simp, fun j h0 h1 => by rw [zg7 _ _ _ h0 (by simpa using h1)]; simp [z9f]⟩ (by simp; omega)
  · intro n i s hi ⟨hs1, hs2⟩ hk
    simp only [List.length_map] at hi
    obtain ⟨⟨a1, a2, a3⟩, ⟨b1, b2, b3⟩, hp, f1, f2, f3, f4, f5⟩ := zq9 (hok i hi)
    have hgm : gt (qs.map (mkH l)) (i : Int) = mkH l (gt qs (i : Int)) := zl4 _ _ _ hi
    have hmem : mkH l (gt qs (i : Int)) ∈ qs.map (mkH l) := List.mem_map.2 ⟨_, z9h (by omega) (by omega), rfl⟩
    have hne := hft _ hmem
    -- neither was used
    have u1 : z9f (qs.take i) ((gt qs (i : Int)) 0) = false := zid fun x hx => by
      obtain ⟨j, hj, e⟩ := zrr hx
      have hj' : j < i := by simp at hj; omega
      have ej : gt (qs.take i) (j : Int) = gt qs (j : Int) := by rw [zcc hj, zcc (by omega)]; simp
      subst e
      rw [ej]
      refine ⟨fun e => ?_, fun e => ?_⟩
      · have := zqg hn0 hj' (by simpa using hi)
        rw [zl4 _ _ _ (by omega), zl4 _ _ _ hi] at this
        exact this e
      · have h4 := (zq9 (hok j (by omega))).2.1.2.1
        rw [e, a2] at h4; cases h4
    have u2 : z9f (qs.take i) ((gt qs (i : Int)) 1) = false := zid fun x hx => by
      obtain ⟨j, hj, e⟩ := zrr hx
      have hj' : j < i := by simp at hj; omega
      have ej : gt (qs.take i) (j : Int) = gt qs (j : Int) := by rw [zcc hj, zcc (by omega)]; simp
      subst e
      rw [ej]
      refine ⟨fun e => ?_, fun e => ?_⟩
      · have h3 := (zq9 (hok j (by omega))).1.2.1
        rw [e, b2] at h3; cases h3
      · have := zqg hn1 hj' (by simpa using hi)
        rw [zl4 _ _ _ (by omega), zl4 _ _ _ hi] at this
        exact this e
    have hab : (gt qs (i : Int)) 0 ≠ (gt qs (i : Int)) 1 := fun e => by
      rw [e, b2] at a2; cases a2
    have g1 := hs2 _ a1.1 a1.2
    have g2 := hs2 _ b1.1 b1.2
    have hsort : ∀ j : Nat, j + 1 = i → (gt (qs.map (mkH l)) (j : Int)).fAt ≤ (mkH l (gt qs (i : Int))).fAt := fun j hj => by
      have := zsl hsrt (show j < i by omega) (by simpa using hi)
      rw [hgm] at this
      simp only [zkl, decide_eq_false_iff_not, zms] at this
      omega
    rw [z33, if_pos (by simp; omega), zj ⟨by omega, by simp; omega⟩, hgm]
    have hfd : (mkH l (gt qs (i : Int))).fDeliver = (gt l ((gt qs (i : Int)) 0)).fRef := rfl
    have hfr : (mkH l (gt qs (i : Int))).fReceive = (gt l ((gt qs (i : Int)) 1)).fRef := rfl
    rw [zhn _ l hdf (by omega) (by omega) _ _ a1.1 a1.2 hfd.symm, Option.bind_some, zhn _ l hdf (by omega) (by omega) _ _ b1.1 b1.2 hfr.symm, Option.bind_some]
    have hW : ∀ (x : z4), x = mkH l (gt qs (i : Int)) → x.fAt = ((gt l ((gt qs (i : Int)) 0)).fItem.fFrom + (gt l ((gt qs (i : Int)) 1)).fItem.fFrom) / 2 := by
      rintro x rfl
      exact zto (zcg a3).2.1 (zcg b3).2.1
    have hAt := hW _ rfl
    have hFr : (mkH l (gt qs (i : Int))).fFrom = (gt l ((gt qs (i : Int)) 0)).fRef.fRailway := rfl
    have hTo : (mkH l (gt qs (i : Int))).fTo = (gt l ((gt qs (i : Int)) 1)).fRef.fRailway := rfl
    have hWa : (mkH l (gt qs (i : Int))).fWagon = (gt l ((gt qs (i : Int)) 0)).fItem.fWagon := rfl
    have hPl : (mkH l (gt qs (i : Int))).fPlace = (gt l ((gt qs (i : Int)) 0)).fItem.fPlace := rfl
    have hCo : (mkH l (gt qs (i : Int))).fCode = max2 (gt l ((gt qs (i : Int)) 0)).fItem.fCode (gt l ((gt qs (i : Int)) 1)).fItem.fCode := rfl
    have ta := (zcg a3).2.1
    have tb := (zcg b3).2.1
    rw [zqx ta tb] at f5
    have hnext : ∀ j : Int, 0 ≤ j → j < (l.length : Int) → gt (z2o (z2o s ((gt qs (i : Int)) 0) true) ((gt qs (i : Int)) 1) true) j = z9f (qs.take (i + 1)) j := fun j h0 h1 => by
      rw [zjy _ _ _ _ b1.1 (by rw [zd5]; omega) h0, zjy _ _ _ _ a1.1 (by omega) h0, hs2 j h0 h1]
      unfold z9f
      rw [z9z _ _ _ hi]
      by_cases q1 : j = (gt qs (i : Int)) 1
      · rw [if_pos q1]; simp [q1]
      · rw [if_neg q1]
        by_cases q0 : j = (gt qs (i : Int)) 0
        · rw [if_pos q0]; simp [q0]
        · rw [if_neg q0]
          have e0 : ((gt qs (i : Int)) 0 == j) = false := by simpa using fun e => q0 e.symm
          have e1 : ((gt qs (i : Int)) 1 == j) = false := by simpa using fun e => q1 e.symm
          rw [e0, e1]; simp
    generalize mkH l (gt qs (i : Int)) = h at *
    generalize (gt qs (i : Int)) 0 = a at *
    generalize (gt qs (i : Int)) 1 = b at *
    rw [zj (fun _ => ⟨a1.1, by omega⟩), zj (fun _ => ⟨b1.1, by omega⟩), g1, g2, u1, u2, if_neg (by simp; omega), zj ⟨a1.1, by omega⟩, zj ⟨b1.1, by rw [zd5]; omega⟩, zj a1, zj b1,
      zai _ h8 p _ (.inl a2), if_neg (fun e : z7u p ≠ 0 => e hc), if_pos a3, Option.bind_some, z9p (by decide), zai _ h8 p _ (.inr b2), if_neg (fun e : z7u p ≠ 0 => e hc), if_pos b3, Option.bind_some]
    have hmm : max2 (gt l a).fItem.fFrom (gt l b).fItem.fFrom - min2 (gt l a).fItem.fFrom (gt l b).fItem.fFrom ≤ 60 ∧ 0 ≤ max2 (gt l a).fItem.fFrom (gt l b).fItem.fFrom - min2 (gt l a).fItem.fFrom (gt l b).fItem.fFrom ∧
        min2 (gt l a).fItem.fFrom (gt l b).fItem.fFrom ≤ h.fAt ∧ h.fAt ≤ max2 (gt l a).fItem.fFrom (gt l b).fItem.fFrom := by
      rw [hAt]
      unfold max2 min2 at *
      split at f5 <;> split <;> split <;> omega
    rw [if_neg (by simp [a2, b2, hWa, hPl, f3, f4]), if_neg (by simp [hFr, hTo, ← f1, f2] at hne ⊢; exact hne), W_id (x := max2 (gt l a).fItem.fFrom (gt l b).fItem.fFrom - min2 (gt l a).fItem.fFrom (gt l b).fItem.fFrom) (by omega) (by omega)]
    have hW2 : 0 < i → W ((i : Int) - 1) = ((i - 1 : Nat) : Int) := fun h0 => by rw [W_id (by omega) (by omega)]; omega
    rw [zj (fun hh => by
      have h0 : 0 < i := by have := hh.2; simp at this; omega
      rw [hW2 h0]; simp; omega)]
    rw [if_neg (by
      simp only [Bool.or_eq_true, Bool.and_eq_true, decide_eq_true_eq, bne_iff_ne, ne_eq, hCo, not_true_eq_false, or_false]
      rintro (((h1 | h1) | h1) | ⟨h1, h2⟩)
      · omega
      · omega
      · omega
      · have h0 : 0 < i := by omega
        rw [hW2 h0] at h2
        have := hsort (i - 1) (by omega)
        omega), W_id (by omega) (by omega)]
    exact hk _ ⟨by rw [zd5, zd5]; exact hs1, hnext⟩
  · intro n s ⟨hs1, hs2⟩
    rw [List.length_map, List.take_length] at hs2
    have hs3 : ∀ j : Int, 0 ≤ j → j < (l.length : Int) → gt s j = z9f (prs p l) j := fun j h0 h1 => (hs2 j h0 h1).trans (zoc hq1 j)
    rw [z33, if_neg (by simp)]
    unfold z32
    -- the count
    refine z56 (fun n i c => z0t 1000000 p l s (z19 1000000 p l s) n c i) l.length
      (fun i c => c = ((((List.range i).filter fun (i : Nat) => (isD p (gt l (i : Int)) || isR p (gt l (i : Int))) && !z9f (prs p l) (i : Int)).length : Nat) : Int)) (fun o => o = some true) ?_ ?_ _ 0 (by simp) (by omega)
    · intro n i c hi hcn hk
      have hcl : ((List.range i).filter fun (i : Nat) => (isD p (gt l (i : Int)) || isR p (gt l (i : Int))) && !z9f (prs p l) (i : Int)).length ≤ i := Nat.le_trans (List.length_filter_le _ _) (by simp)
      have hnx : ((List.range (i + 1)).filter fun (i : Nat) => (isD p (gt l (i : Int)) || isR p (gt l (i : Int))) && !z9f (prs p l) (i : Int)).length = ((List.range i).filter fun (i : Nat) => (isD p (gt l (i : Int)) || isR p (gt l (i : Int))) && !z9f (prs p l) (i : Int)).length + (if ((isD p (gt l (i : Int)) || isR p (gt l (i : Int))) && !z9f (prs p l) (i : Int)) = true then 1 else 0) := by
        rw [List.range_succ, List.filter_append, List.length_append]
        congr 1
        cases e : ((isD p (gt l (i : Int)) || isR p (gt l (i : Int))) && !z9f (prs p l) (i : Int)) <;> simp [e]
      have w1 : W ((i : Int) + 1) = (i : Int) + 1 := W_id (by omega) (by omega)
      have w2 : W (c + 1) = c + 1 := W_id (by omega) (by omega)
      rw [z0t, if_pos (by simp; omega), zj ⟨by omega, by omega⟩]
      unfold z45
      rw [w1, w2]
      have key : ∀ y : Int, (((((gt l (i : Int)).fItem.fKind == 3) || ((gt l (i : Int)).fItem.fKind == 4)) && (y == 0)) = (isD p (gt l (i : Int)) || isR p (gt l (i : Int)))) →
          (ck ((((((gt l (i : Int)).fItem.fKind == 3) || ((gt l (i : Int)).fItem.fKind == 4)) && (y == 0)) = true) → ((0 : Int) ≤ (i : Int) ∧ (i : Int) < (s.length : Int))) ((if (((((gt l (i : Int)).fItem.fKind == 3) || ((gt l (i : Int)).fItem.fKind == 4)) && (y == 0)) && (!(gt s (i : Int)))) = true then z0t 1000000 p l s (z19 1000000 p l s) n (c + 1) ((i : Int) + 1) else z0t 1000000 p l s (z19 1000000 p l s) n c ((i : Int) + 1)))) = some true := by
        intro y hy
        rw [zj (fun _ => ⟨by omega, by omega⟩), hy, hs3 _ (by omega) (by omega)]
        split
        · rename_i hh
          exact hk _ (by rw [hnx, if_pos hh]; omega)
        · rename_i hh
          exact hk _ (by rw [hnx, if_neg hh]; omega)
      by_cases k34 : (gt l (i : Int)).fItem.fKind = 3 ∨ (gt l (i : Int)).fItem.fKind = 4
      · rw [z9p (by simpa using k34), zai _ h8 p _ k34, if_neg (fun e : z7u p ≠ 0 => e hc), Option.bind_some]
        refine key _ ?_
        unfold isD isR
        rcases k34 with k | k <;> rw [k] <;> cases okDR p (gt l (i : Int)).fItem <;> rfl
      · rw [z9n (by simpa using k34), Option.bind_some]
        refine key _ ?_
        unfold isD isR
        have e3 : ((gt l (i : Int)).fItem.fKind == 3) = false := by simp; exact fun e => k34 (.inl e)
        have e4 : ((gt l (i : Int)).fItem.fKind == 4) = false := by simp; exact fun e => k34 (.inr e)
        rw [e3, e4]; rfl
    · intro n c hcn
      rw [z0t, if_neg (by simp)]
      unfold z19
      simp only [Pool.eta', zug _ h8 p l (by omega : l.length ≤ 100000), Option.bind_some]
      have hul := ztp p l
      have hnd := zpj (p := p) hdf
      have hus := ztg p l
      have hulc : (unm p l).length = (zfo p l).length := by unfold unm; rw [if_pos hc, zhe zfz, List.length_map]
      refine z56 (fun n i (_ : Unit) => z34 1000000 l s (unm p l) (z31 1000000 c (unm p l)) n i) (unm p l).length (fun _ _ => True) (fun o => o = some true) ?_ ?_ _ () trivial (by omega)
      · intro n i _ hi _ hk
        obtain ⟨a, ha, e⟩ := zt4 (z9h (l := unm p l) (i := (i : Int)) (by omega) (by omega))
        obtain ⟨a1, a2, _⟩ := zig ha
        have hW2 : 0 < i → W ((i : Int) - 1) = ((i - 1 : Nat) : Int) := fun h0 => by rw [W_id (by omega) (by omega)]; omega
        rw [z34, if_pos (by simp; omega), zj ⟨by omega, by omega⟩, zhn _ l hdf (by omega) (by omega) a _ a1.1 a1.2 e, Option.bind_some, zj (fun _ => ⟨a1.1, by omega⟩), hs3 a a1.1 a1.2, a2]
        rw [zj (fun hh => by
          have h0 : 0 < i := by have := hh.2; simp at this; omega
          rw [hW2 h0]; omega)]
        have wi : W ((i : Int) + 1) = (i : Int) + 1 := W_id (by omega) (by omega)
        have hneg : decide (a < 0) = false := by simp; omega
        rw [hneg, wi]
        by_cases h0 : 0 < i
        · rw [z9p (by simp; omega), hW2 h0, zog, Option.bind_some]
          have hlt : zil (gt (unm p l) ((i - 1 : Nat) : Int)) (gt (unm p l) (i : Int)) = true := by
            have h1 := zsl hus (show i - 1 < i by omega) hi
            have h2 := zqg hnd (show i - 1 < i by omega) hi
            generalize gt (unm p l) ((i - 1 : Nat) : Int) = x at *
            generalize gt (unm p l) (i : Int) = y at *
            cases x; cases y
            simp only [zil, decide_eq_false_iff_not, decide_eq_true_eq, zdh, ne_eq, Ref.mk.injEq] at h1 h2 ⊢
            omega
          rw [hlt, if_neg (by simp)]
          exact hk () trivial
        · rw [z9n (by simp; omega), Option.bind_some, if_neg (by simp; omega)]
          exact hk () trivial
      · intro n _ _
        rw [z34, if_neg (by simp)]
        unfold z31
        rw [hulc, zmv, hcn]; simp
end Px
end
