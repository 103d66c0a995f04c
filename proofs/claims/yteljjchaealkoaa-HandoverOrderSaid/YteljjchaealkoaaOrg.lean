/- A part of the proof of handoverOrder_holds. Conditions: none. -/
import Derived.Test.YteljjchaealkoaaOrf
section
namespace Px
open Go
set_option linter.unusedVariables false
set_option linter.unusedSimpArgs false
set_option maxHeartbeats 1000000
section
variable {D : Ref → Prop} {lt : Ref → Ref → Bool} {y : Ref → Ref → Option Int}
theorem zjp (hy : Cmp D y lt) (φ : Nat) (k : List Ref → Option (List Ref)) (P : List Ref) (x : Ref) (hx : D x) : ∀ (n : Nat) (S1 S2 : List Ref), (∀ z ∈ S1, D z) → P.length + S1.length + S2.length ≤ 1000000 → S1.length < n →
    ∃ A B, S1 = A ++ B ∧ (∀ z ∈ B, lt x z = true) ∧ (A = [] ∨ ∃ A' z, A = A' ++ [z] ∧ lt x z = false) ∧
      z0d φ (P.length : Int) y k n ((P.length : Int) + S1.length) (P ++ S1 ++ x :: S2) = k (P ++ A ++ x :: (B ++ S2)) := by
  intro n
  induction n with
  | zero => intro S1 S2 _ _ h; omega
  | succ n ih =>
    intro S1 S2 hD hl hn
    rcases List.eq_nil_or_concat S1 with rfl | ⟨S, z, rfl⟩
    · refine ⟨[], [], rfl, by simp, .inl rfl, ?_⟩
      have h0 : decide ((P.length : Int) < (P.length : Int) + (([] : List Ref).length : Int)) = false := by simp
      rw [z0d, h0]
      simp [ck, z57]
    · simp only [List.concat_eq_append] at hD hl hn ⊢
      simp only [List.length_append, List.length_cons, List.length_nil] at hl hn
      have e1 : P ++ (S ++ [z]) ++ x :: S2 = (P ++ S ++ [z]) ++ x :: S2 := by simp
      have e2 : P ++ (S ++ [z]) ++ x :: S2 = (P ++ S) ++ z :: (x :: S2) := by simp
      have g1 : gt (P ++ (S ++ [z]) ++ x :: S2) ((P.length : Int) + ((S ++ [z]).length : Int)) = x := by
        rw [e1]; exact z5b (by simp <;> omega)
      have hw : W ((P.length : Int) + ((S ++ [z]).length : Int) - 1) = (P.length : Int) + S.length := by
        rw [W_id (by simp; omega) (by simp; omega)]; simp; omega
      have g2 : gt (P ++ (S ++ [z]) ++ x :: S2) ((P.length : Int) + (S.length : Int)) = z := by
        rw [e2]; exact z5b (by simp)
      have h0 : decide ((P.length : Int) < (P.length : Int) + ((S ++ [z]).length : Int)) = true := by simp; omega
      have hlen : ((P ++ (S ++ [z]) ++ x :: S2).length : Int) = P.length + S.length + 1 + 1 + S2.length := by simp; omega
      obtain ⟨w, hw1, hw2⟩ := hy x z hx (hD z (by simp))
      have s1 : z1t (P ++ (S ++ [z]) ++ x :: S2) ((P.length : Int) + ((S ++ [z]).length : Int)) z = (P ++ S) ++ z :: (z :: S2) := by
        rw [e1, z7e (by simp <;> omega)]; simp
      have s2 : z1t ((P ++ S) ++ z :: (z :: S2)) ((P.length : Int) + (S.length : Int)) x = P ++ S ++ x :: (z :: S2) := z7e (by simp)
      rw [z0d, hw, h0, g1, g2, hw1, hlen]
      rw [zm (fun _ => ⟨by omega, by simp; omega⟩), zm (fun _ => ⟨by omega, by omega⟩), zdi rfl]
      simp only [Option.bind_some, hw2, Bool.true_and]
      cases hlt : lt x z with
      | true =>
        rw [if_pos rfl, zm ⟨by omega, by omega⟩, zm ⟨by omega, by simp; omega⟩, s1]
        rw [zm ⟨by omega, by simp; omega⟩, s2]
        obtain ⟨A, B, q1, q2, q3, q4⟩ := ih S (z :: S2) (fun u hu => hD u (by simp [hu])) (by simp; omega) (by omega)
        refine ⟨A, B ++ [z], by rw [q1]; simp, ?_, q3, ?_⟩
        · intro u hu
          rcases List.mem_append.1 hu with h | h
          · exact q2 u h
          · simp at h; rw [h]; exact hlt
        · rw [q4]; simp
      | false =>
        rw [if_neg (by simp)]
        exact ⟨S ++ [z], [], by simp, by simp, .inr ⟨S, z, rfl, hlt⟩, by simp⟩
theorem ziu (hs : Swo lt) (hy : Cmp D y lt) (φ : Nat) (P Q : List Ref) : ∀ (n : Nat) (S R : List Ref), S ≠ [] → Srt lt S → (∀ z ∈ S, D z) → (∀ z ∈ R, D z) → P.length + S.length + R.length + Q.length ≤ 1000000 → P.length + S.length + R.length < φ → R.length < n →
    ∃ S', Srt lt S' ∧ Stb lt (S ++ R) S' ∧ zg φ (P.length : Int) ((P.length : Int) + S.length + R.length) y n ((P.length : Int) + S.length) (P ++ S ++ R ++ Q) = some (P ++ S' ++ Q) := by
  intro n
  induction n with
  | zero => intro S R _ _ _ _ _ _ h; omega
  | succ n ih =>
    intro S R hne hS hD hD' hl hφ hn
    cases R with
    | nil =>
      refine ⟨S, hS, by simpa using Stb.refl S, ?_⟩
      rw [zg, if_neg (by simp)]
      simp
    | cons x R =>
      simp only [List.length_cons] at hl hφ hn
      rw [zg, if_pos (by simp; omega)]
      obtain ⟨A, B, q1, q2, q3, q4⟩ := zjp hy φ (z0e φ ((P.length : Int) + S.length) (zg φ (P.length : Int) ((P.length : Int) + S.length + (x :: R).length) y n)) P x (hD' x (by simp)) φ S (R ++ Q) hD (by simp; omega) (by omega)
      rw [show P ++ S ++ x :: R ++ Q = P ++ S ++ x :: (R ++ Q) by simp, q4]
      have hA : ∀ u ∈ A, lt x u = false := by
        rcases q3 with rfl | ⟨A', z, rfl, hz⟩
        · simp
        · intro u hu
          rcases List.mem_append.1 hu with h | h
          · subst q1
            have := (hS.parts.1).parts.2.2 u h z (by simp)
            exact hs.ntr _ _ _ hz this
          · simp at h; rw [h]; exact hz
      have hS2 : Srt lt (A ++ x :: B) := by
        subst q1
        refine hS.parts.1.app (List.pairwise_cons.2 ⟨fun u hu => hs.asym _ _ (q2 u hu), hS.parts.2.1⟩) fun u hu v hv => ?_
        rcases List.mem_cons.1 hv with h | h
        · subst h; exact hA u hu
        · exact hS.parts.2.2 u hu v h
      obtain ⟨S', p1, p2, p3⟩ := ih (A ++ x :: B) R (by simp) hS2 (fun z hz => by
        subst q1
        simp only [List.mem_append, List.mem_cons] at hz
        rcases hz with h | h | h
        · exact hD z (by simp [h])
        · subst h; exact hD' _ (by simp)
        · exact hD z (by simp [h])) (fun z hz => hD' z (by simp [hz])) (by subst q1; simp at hl ⊢; omega) (by subst q1; simp at hφ ⊢; omega) (by omega)
      refine ⟨S', p1, ?_, ?_⟩
      · have h1 : Stb lt (S ++ [x]) (A ++ [x] ++ B) := by subst q1; exact zbe hs q2
        have := h1.app (Stb.refl R)
        refine Stb.trans ?_ (Stb.trans this ?_)
        · simpa using Stb.refl (lt := lt) (S ++ x :: R)
        · simpa using p2
      · rw [← p3]
        unfold z0e
        have e1 : W ((P.length : Int) + S.length + 1) = (P.length : Int) + S.length + 1 := W_id (by omega) (by omega)
        have hSl : S.length = A.length + B.length := by rw [q1]; simp
        have e2 : (P.length : Int) + S.length + 1 = P.length + (A ++ x :: B).length := by simp; omega
        have e3 : (P.length : Int) + S.length + (x :: R).length = P.length + (A ++ x :: B).length + R.length := by simp; omega
        have e4 : P ++ A ++ x :: (B ++ (R ++ Q)) = P ++ (A ++ x :: B) ++ R ++ Q := by simp
        rw [e1, e2, e3, e4]
theorem za1 (hs : Swo lt) (hy : Cmp D y lt) (φ : Nat) (P X Q : List Ref) (hD : ∀ z ∈ X, D z) (hl : P.length + X.length + Q.length ≤ 1000000) (hφ : P.length + X.length < φ) :
    ∃ X', Srt lt X' ∧ Stb lt X X' ∧ z1q φ (P ++ X ++ Q) (P.length : Int) ((P.length : Int) + X.length) y = some (P ++ X' ++ Q) := by
  unfold z1q
  rw [W_id (x := (P.length : Int) + 1) (by omega) (by omega)]
  cases X with
  | nil =>
    refine ⟨[], List.Pairwise.nil, Stb.refl _, ?_⟩
    obtain ⟨n, rfl⟩ : ∃ n, φ = n + 1 := ⟨φ - 1, by omega⟩
    rw [zg, if_neg (by simp; omega)]
  | cons x R =>
    simp only [List.length_cons] at hl hφ
    obtain ⟨S', p1, p2, p3⟩ := ziu hs hy φ P Q φ [x] R (by simp) (List.pairwise_singleton _ _) (fun z hz => hD z (by simp at hz; simp [hz])) (fun z hz => hD z (by simp [hz])) (by simp; omega) (by simp; omega) (by omega)
    refine ⟨S', p1, by simpa using p2, ?_⟩
    rw [← p3]
    simp only [List.append_assoc, List.cons_append, List.length_cons, List.length_nil, List.nil_append]
    congr 1
    simp; omega
end
end Px
end
section
namespace Px
open Go
set_option linter.unusedVariables false
set_option linter.unusedSimpArgs false
set_option maxHeartbeats 4000000
section
variable {D : Ref → Prop} {lt : Ref → Ref → Bool} {y : Ref → Ref → Option Int}
theorem zg7 (hs : Swo lt) (hy : Cmp D y lt) (φ N : Nat) (k : Int → List Ref → Option (List Ref)) (hN : N ≤ 900000) (hφ : N < φ) :
    ∀ (n : Nat) (X Y : List Ref), (∀ z ∈ Y, D z) → X.length + Y.length = N → Y.length < n →
    ∃ Y1 Y2 Y1', Y = Y1 ++ Y2 ∧ Runs lt 20 (Y1' ++ []) ∧ Y2.length < 20 ∧ Stb lt Y1 Y1' ∧ (∀ T, Runs lt 20 T → Runs lt 20 (Y1' ++ T)) ∧
      z1l φ (N : Int) y k n (X.length : Int) ((X.length : Int) + 20) (X ++ Y) = k ((X.length : Int) + Y1.length) (X ++ Y1' ++ Y2) := by
  intro n
  induction n with
  | zero => intro X Y _ _ h; omega
  | succ n ih =>
    intro X Y hD hl hn
    rw [z1l]
    by_cases h : Y.length < 20
    · refine ⟨[], Y, [], rfl, .last (by simp) List.Pairwise.nil, h, Stb.refl _, fun T hT => hT, ?_⟩
      rw [if_neg (by simp; omega)]
      simp
    · obtain ⟨B, Z, rfl, hB⟩ : ∃ B Z, Y = B ++ Z ∧ B.length = 20 := ⟨Y.take 20, Y.drop 20, (List.take_append_drop _ _).symm, by simp; omega⟩
      simp only [List.length_append] at hl hn h
      rw [if_pos (by simp; omega)]
      obtain ⟨B', b1, b2, b3⟩ := za1 hs hy φ X B Z (fun z hz => hD z (by simp [hz])) (by omega) (by omega)
      rw [hB] at b3
      have e1 : X ++ (B ++ Z) = X ++ B ++ Z := by simp
      have e2 : ((20 : Nat) : Int) = 20 := rfl
      rw [e2] at b3
      rw [e1, b3]
      simp only [Option.bind_some]
      have hB' : B'.length = 20 := by rw [b2.len, hB]
      have w1 : W ((X.length : Int) + 20 + 20) = (X.length : Int) + 20 + 20 := W_id (by omega) (by omega)
      have e3 : (X.length : Int) + 20 = ((X ++ B').length : Nat) := by simp [hB']
      rw [w1]
      obtain ⟨Y1, Y2, Y1', q1, q2, q3, q4, q5, q6⟩ := ih (X ++ B') Z (fun z hz => hD z (by simp [hz])) (by simp; omega) (by omega)
      rw [← e3] at q6
      refine ⟨B ++ Y1, Y2, B' ++ Y1', by rw [q1]; simp, ?_, q3, b2.app q4, fun T hT => ?_, ?_⟩
      · rw [List.append_assoc]; exact .cons hB' b1 q2
      · rw [List.append_assoc]; exact .cons hB' b1 (q5 T hT)
      · rw [q6]
        have e4 : (X.length : Int) + 20 + Y1.length = (X.length : Int) + ((B ++ Y1).length : Nat) := by simp; omega
        rw [e4]
        simp
theorem zmb (hs : Swo lt) (hy : Cmp D y lt) (φ N bs : Nat) (k : Int → List Ref → Option (List Ref)) (hN : N ≤ 900000) (hφ : 2 * N + 3 < φ) (hb0 : 0 < bs) (hb : bs ≤ 900000) :
    ∀ (n : Nat) (X Y : List Ref), (∀ z ∈ Y, D z) → Runs lt bs Y → X.length + Y.length = N → Y.length < n →
    ∃ Y', Runs lt (bs * 2) Y' ∧ Stb lt Y Y' ∧ z2e φ (N : Int) y (bs : Int) (z1j φ (N : Int) y (bs : Int) k) n (X.length : Int) ((X.length : Int) + 2 * bs) (X ++ Y) = k ((bs * 2 : Nat) : Int) (X ++ Y') := by
  intro n
  induction n with
  | zero => intro X Y _ _ _ h; omega
  | succ n ih =>
    intro X Y hD hR hl hn
    have w1 : W ((X.length : Int) + bs) = (X.length : Int) + bs := W_id (by omega) (by omega)
    have w2 : W ((bs : Int) * 2) = ((bs * 2 : Nat) : Int) := by rw [W_id (by omega) (by omega)]; simp
    have w3 : W (2 * (bs : Int)) = 2 * (bs : Int) := W_id (by omega) (by omega)
    have w4 : W ((X.length : Int) + 2 * bs + 2 * bs) = (X.length : Int) + 2 * bs + 2 * bs := W_id (by omega) (by omega)
    rw [z2e, w1, w3, w4]
    by_cases h : 2 * bs ≤ Y.length
    · rw [if_pos (by simp; omega)]
      obtain ⟨B1, r, rfl, h1, s1, hr, hne⟩ := hR.big (by omega)
      simp only [List.length_append] at hl hn h
      obtain ⟨B2, Z, rfl, h2, s2, hZ⟩ : ∃ B2 Z, r = B2 ++ Z ∧ B2.length = bs ∧ Srt lt B2 ∧ Runs lt bs Z := by
        by_cases q : r.length = bs
        · exact ⟨r, [], by simp, q, hr.small (by omega), .last (by simp) List.Pairwise.nil⟩
        · obtain ⟨b, r', e, q1, q2, q3, _⟩ := hr.big (by omega)
          exact ⟨b, r', e, q1, q2, q3⟩
      simp only [List.length_append] at hl hn h
      obtain ⟨R, r1, r2, r3⟩ := zdb hs hy φ X B1 B2 Z (fun z hz => hD z (by simp [hz])) (fun z hz => hD z (by simp [hz])) s1 s2 (by intro e; subst e; simp at h1; omega) (by intro e; subst e; simp at h2; omega) (by omega) (by omega)
      have hRl : R.length = 2 * bs := by rw [r2.len]; simp; omega
      have e1 : X ++ (B1 ++ (B2 ++ Z)) = X ++ B1 ++ B2 ++ Z := by simp
      have e2 : (X.length : Int) + bs = (X.length : Int) + B1.length := by omega
      have e3 : (X.length : Int) + 2 * bs = (X.length : Int) + B1.length + B2.length := by omega
      have e4 : (X.length : Int) + 2 * bs = ((X ++ R).length : Nat) := by simp; omega
      obtain ⟨Y', p1, p2, p3⟩ := ih (X ++ R) Z (fun z hz => hD z (by simp [hz])) hZ (by simp; omega) (by omega)
      refine ⟨R ++ Y', .cons (by omega) r1 p1, ?_, ?_⟩
      · have := r2.app p2
        simpa using this
      · rw [e1]
        conv => lhs; arg 1; rw [e2, e3]
        rw [r3]
        simp only [Option.bind_some]
        rw [e4, p3]
        simp
    · rw [if_neg (by simp; omega)]
      unfold z1j z2v
      rw [w1, w2]
      by_cases q : bs < Y.length
      · rw [if_pos (by simp; omega)]
        obtain ⟨B1, B2, rfl, h1, s1, hr, hne⟩ := hR.big q
        simp only [List.length_append] at hl hn h
        obtain ⟨R, r1, r2, r3⟩ := zdb hs hy φ X B1 B2 [] (fun z hz => hD z (by simp [hz])) (fun z hz => hD z (by simp [hz])) s1 (hr.small (by omega)) (by intro e; subst e; simp at h1; omega) hne (by simp; omega) (by omega)
        have e1 : X ++ (B1 ++ B2) = X ++ B1 ++ B2 ++ [] := by simp
        have e2 : (X.length : Int) + bs = (X.length : Int) + B1.length := by omega
        have e3 : (N : Int) = (X.length : Int) + B1.length + B2.length := by omega
        refine ⟨R, .last (by rw [r2.len]; simp; omega) r1, r2, ?_⟩
        rw [e1, e2, e3, r3]
        simp
      · rw [if_neg (by simp; omega)]
        exact ⟨Y, .last (by omega) (hR.small (by omega)), Stb.refl _, rfl⟩
theorem zjg (hs : Swo lt) (hy : Cmp D y lt) (φ N : Nat) (hN : N ≤ 400000) (hφ : 2 * N + 3 < φ) :
    ∀ (n bs : Nat) (Y : List Ref), (∀ z ∈ Y, D z) → Runs lt bs Y → Y.length = N → 0 < bs → bs ≤ 900000 → N - bs < n →
    ∃ Y', Srt lt Y' ∧ Stb lt Y Y' ∧ zo φ (N : Int) y n (bs : Int) Y = some Y' := by
  intro n
  induction n with
  | zero => intro bs Y _ _ _ _ _ h; omega
  | succ n ih =>
    intro bs Y hD hR hl hb0 hb hn
    rw [zo]
    by_cases h : bs < N
    · rw [if_pos (by simp; omega), W_id (x := 2 * (bs : Int)) (by omega) (by omega)]
      obtain ⟨Y', p1, p2, p3⟩ := zmb hs hy φ N bs (zo φ (N : Int) y n) (by omega) hφ hb0 hb φ [] Y hD hR (by simpa using hl) (by omega)
      obtain ⟨Y'', q1, q2, q3⟩ := ih (bs * 2) Y' (fun z hz => hD z (p2.mem.1 hz)) p1 (by rw [p2.len, hl]) (by omega) (by omega) (by omega)
      refine ⟨Y'', q1, p2.trans q2, ?_⟩
      rw [← q3]
      simpa using p3
    · rw [if_neg (by simp; omega)]
      exact ⟨Y, hR.small (by omega), Stb.refl _, rfl⟩
/-- The stable sort sorts, and keeps the order of equal elements. -/
theorem zf6 (hs : Swo lt) (hy : Cmp D y lt) (φ : Nat) (v : List Ref) (hD : ∀ z ∈ v, D z) (hN : v.length ≤ 400000) (hφ : 2 * v.length + 3 < φ) :
    ∃ r, Srt lt r ∧ Stb lt v r ∧ z43 φ v y = some r := by
  unfold z43 z5m
  obtain ⟨Y1, Y2, Y1', q1, q2, q3, q4, q5, q6⟩ := zg7 hs hy φ v.length (z0v φ (v.length : Int) y) (by omega) (by omega) φ [] v hD (by simp) (by omega)
  have q6' : z1l φ (v.length : Int) y (z0v φ (v.length : Int) y) φ 0 20 v = z0v φ (v.length : Int) y (Y1.length : Int) (Y1' ++ Y2) := by simpa using q6
  rw [q6']
  unfold z0v
  have hl : v.length = Y1.length + Y2.length := by rw [q1]; simp
  have hl1 : Y1'.length = Y1.length := q4.len
  obtain ⟨Y2', p1, p2, p3⟩ := za1 hs hy φ Y1' Y2 [] (fun z hz => hD z (by rw [q1]; simp [hz])) (by simp; omega) (by omega)
  simp only [List.append_nil] at p3
  have e1 : (Y1.length : Int) = Y1'.length := by omega
  have e2 : (v.length : Int) = (Y1'.length : Int) + Y2.length := by omega
  have p3' : z1q φ (Y1' ++ Y2) (Y1.length : Int) (v.length : Int) y = some (Y1' ++ Y2') := by rw [e1, e2]; exact p3
  have hst : Stb lt v (Y1' ++ Y2') := by rw [q1]; exact q4.app p2
  obtain ⟨r, r1, r2, r3⟩ := zjg hs hy φ v.length hN hφ φ 20 (Y1' ++ Y2') (fun z hz => hD z (hst.mem.1 hz)) (q5 _ (.last (by rw [p2.len]; omega) p1)) hst.len (by omega) (by omega) (by omega)
  refine ⟨r, r1, hst.trans r2, ?_⟩
  rw [p3']
  simp only [Option.bind_some]
  have r3' : zo φ (v.length : Int) y φ 20 (Y1' ++ Y2') = some r := r3
  rw [r3']
  rfl
end
end Px
end
section
namespace Px
open Go
set_option linter.unusedVariables false
set_option linter.unusedSimpArgs false
/-- The receipts; the deliveries in their order; the pairs; the handovers. -/
def isD (p : Pool) (r : zb) : Bool := r.fItem.fKind == 3 && okDR p r.fItem
def isR (p : Pool) (r : zb) : Bool := r.fItem.fKind == 4 && okDR p r.fItem
def rcpI (p : Pool) (l : List zb) : List Int := idxF (isR p) l
def dlvI (p : Pool) (l : List zb) : List Int := zbm (zb8 l) (idxF (isD p) l)
def prs (p : Pool) (l : List zb) : List (Nat → Int) := zc2 p l (rcpI p l) (dlvI p l)
def mts (p : Pool) (l : List zb) : List z3 := if z4e p = 0 then zbm zl6 ((prs p l).map (mkH l)) else []
theorem zad {p : Pool} {l : List zb} {i : Int} (h : i ∈ rcpI p l) : (0 ≤ i ∧ i < (l.length : Int)) ∧ (gt l i).fItem.fKind = 4 ∧ okDR p (gt l i).fItem = true := by
  obtain ⟨h1, h2, h3⟩ := z5r.1 h
  simp only [isR, Bool.and_eq_true, beq_iff_eq] at h3
  exact ⟨⟨h1, h2⟩, h3⟩
theorem zhn {p : Pool} {l : List zb} {i : Int} (h : i ∈ dlvI p l) : (0 ≤ i ∧ i < (l.length : Int)) ∧ (gt l i).fItem.fKind = 3 ∧ okDR p (gt l i).fItem = true := by
  obtain ⟨h1, h2, h3⟩ := z5r.1 (zi4 _ h)
  simp only [isD, Bool.and_eq_true, beq_iff_eq] at h3
  exact ⟨⟨h1, h2⟩, h3⟩
theorem zoj (p : Pool) (l : List zb) : (dlvI p l).length ≤ l.length := by
  unfold dlvI; rw [zfb (zex l)]; exact zaq _ _
theorem zjl (p : Pool) (l : List zb) : (prs p l).length ≤ l.length := Nat.le_trans (zlo p l _ _) (zoj p l)
theorem zj4 (p : Pool) (l : List zb) : (mts p l).length ≤ l.length := by
  unfold mts
  split
  · rw [zfb zj8]; simpa using zjl p l
  · simp
theorem ok34 (φ : Nat) (hφ : 800000 < φ) (p : Pool) (hc : z4e p = 0) (l : List zb) : ∀ r ∈ l, r.fItem.fKind = 3 ∨ r.fItem.fKind = 4 → ∃ e, z94 φ p r.fItem = some e ∧ (e == 0) = okDR p r.fItem := by
  intro r _ hk
  rw [zgb φ hφ p _ hk, if_neg (fun e : z4e p ≠ 0 => e hc)]
  refine ⟨_, rfl, ?_⟩
  cases okDR p r.fItem <;> rfl
theorem zin (φ : Nat) (hφ : 800000 < φ) (p : Pool) (l : List zb) (hl : l.length ≤ 100000) : z5l φ p l = some (if z4e p = 0 then prs p l else []) := by
  by_cases hc : z4e p = 0
  · obtain ⟨ds, s1, s2, s3⟩ := zoy φ p l (okDR p) hl (by omega) (by rw [z5v φ hφ, hc]) (ok34 φ hφ p hc l) (fun r _ _ h => (zl5 h).1)
    rw [if_pos hc, s3]
    have : ds = dlvI p l := zhf (zex l) s1 s2
    rw [this]; rfl
  · rw [if_neg hc]
    unfold z5l
    simp only [Pool.eta', z5v φ hφ, Option.bind_some]
    rw [if_pos (by simpa using hc)]
theorem zcj (φ : Nat) (hφ : 800000 < φ) (p : Pool) (l : List zb) (hl : l.length ≤ 100000) : z3f φ p l = some (mts p l) := by
  have hb : ∀ ps : List (Nat → Int), ps.length ≤ 100000 → (∀ x ∈ ps, (0 ≤ x 0 ∧ x 0 < (l.length : Int)) ∧ 0 ≤ x 1 ∧ x 1 < (l.length : Int)) → z5l φ p l = some ps → z3f φ p l = some (zbm zl6 (ps.map (mkH l))) := by
    intro ps hps hin he
    obtain ⟨ms, m1, m2, m3⟩ := zbn zj8 (zrq φ (by omega)) φ (ps.map (mkH l)) (fun _ _ => trivial) (by simp; omega) (by simp; omega)
    unfold z3f
    simp only [Pool.eta', he, Option.bind_some]
    rw [zlc φ l _ hps hin (by omega)]
    unfold z3l
    rw [m3, Option.bind_some, zhf zj8 m1 m2]
  have hp := zin φ hφ p l hl
  unfold mts
  by_cases hc : z4e p = 0
  · rw [if_pos hc] at hp ⊢
    refine hb _ (Nat.le_trans (zjl p l) hl) ?_ hp
    exact ziz (fun z hz => (zad hz).1) (fun z hz => (zhn hz).1)
  · rw [if_neg hc] at hp ⊢
    exact hb [] (by simp) (by simp) hp
theorem zqv (φ : Nat) (n : Nat) (h : n ≤ 1000000) : z9l φ (n : Int) = some [] := by
  have h0 : W (0 - (([] : List Int).length : Int)) = 0 := rfl
  have h1 : W ((n : Int) - 0) = n := by rw [Int.sub_zero]; exact W_id (by omega) (by omega)
  unfold z9l
  rw [if_neg (by simp), h0, h1]
  split
  · rename_i h2
    rw [zm (by simpa using h2), zm (z6z (by omega) (by omega)), zm ⟨by omega, by simp⟩]
    rfl
  · rfl
theorem zln (φ : Nat) (hφ : 3 < φ) (a b : List Int) (ha : a.length ≤ 100000) (hb : b.length ≤ 100000) : z8p φ [a, b] = some (a ++ b) := by
  unfold z8p
  have hg : ∀ j : Nat, j < 2 → (gt [a, b] (j : Int)).length ≤ 100000 := by
    intro j hj
    match j, hj with
    | 0, _ => exact ha
    | 1, _ => exact hb
  refine z51 (fun n j s => z4y φ [a, b] (z59 φ [a, b]) n s j) 2 (fun j s => 0 ≤ s ∧ s ≤ 100000 * j) (fun o => o = some (a ++ b)) ?_ ?_ φ 0 (by simp) (by omega)
  · intro n j s hj hs hk
    have := hg j hj
    rw [z4y, if_pos (by simp; omega), zm ⟨by omega, by simp; omega⟩, W_id (by omega) (by omega), if_neg (by simp; omega), W_id (by omega) (by omega)]
    exact hk _ (by omega)
  · intro n s hs
    rw [z4y, if_neg (by simp)]
    unfold z59
    have e : s = (s.toNat : Int) := by omega
    rw [e, zqv φ _ (by omega), Option.bind_some]
    refine z51 (z4v φ [a, b] (z4q φ)) 2 (fun j s => s = ([a, b].take j).flatten) (fun o => o = some (a ++ b)) ?_ ?_ φ [] (by simp) (by omega)
    · intro n j s hj hs hk
      have hl := hg j hj
      have hsl : s.length ≤ 100000 := by
        match j, hj with
        | 0, _ => rw [hs]; simp
        | 1, _ => rw [hs]; simpa using ha
      rw [z4v, if_pos (by simp; omega), zm ⟨by omega, by simp; omega⟩, zm (z6z (by omega) (by omega)), W_id (by omega) (by omega)]
      refine hk _ ?_
      match j, hj with
      | 0, _ => rw [hs]; simp [gt]
      | 1, _ => rw [hs]; simp [gt]
    · intro n s hs
      rw [z4v, if_neg (by simp), hs]
      simp [z4q]
/-- Whether a report belongs to a pair. -/
def zc3 (ps : List (Nat → Int)) (i : Int) : Bool := ps.any fun x => x 0 == i || x 1 == i
def zcn (p : Pool) (l : List zb) : List Int := (idxF (isD p) l ++ rcpI p l).filter fun i => !zc3 (prs p l) i
def unm (p : Pool) (l : List zb) : List Ref := if z4e p = 0 then zbm zlj ((zcn p l).map fun i => (gt l i).fRef) else []
theorem zm6 (φ : Nat) (ps : List (Nat → Int)) (k : List (Int × Bool) → Option (List Ref)) (R : List Ref) (hl : ps.length ≤ 100000) (hφ : ps.length < φ)
    (hk : ∀ u, (∀ i, (mget u i).getD false = zc3 ps i) → k u = some R) : z2r φ ps k φ 0 [] = some R := by
  refine z51 (z2r φ ps k) ps.length (fun j s => ∀ i, (mget s i).getD false = zc3 (ps.take j) i) (fun o => o = some R) ?_ ?_ φ [] (fun i => by simp [mget, zc3]) hφ
  · intro n j s hj hs hk
    rw [z2r, if_pos (by simp; omega), zm ⟨by omega, by omega⟩, W_id (by omega) (by omega)]
    refine hk _ fun i => ?_
    rw [zde, zde]
    have := hs i
    unfold zc3 at this ⊢
    rw [zan _ _ _ hj, ← this]
    by_cases h1 : i = gt ps (j : Int) 1
    · subst h1; simp
    · by_cases h0 : i = gt ps (j : Int) 0
      · subst h0; simp [h1]
      · rw [if_neg (by simpa using h1), if_neg (by simpa using h0)]
        have e1 : (gt ps (j : Int) 0 == i) = false := by simpa using fun e => h0 e.symm
        have e2 : (gt ps (j : Int) 1 == i) = false := by simpa using fun e => h1 e.symm
        rw [e1, e2]; simp
  · intro n s hs
    rw [List.take_length] at hs
    rw [z2r, if_neg (by simp)]
    exact hk s hs
theorem znl (φ : Nat) (hφ : 800000 < φ) (p : Pool) (l : List zb) (hl : l.length ≤ 100000) : z54 φ p l = some (unm p l) := by
  unfold z54 unm
  simp only [Pool.eta', z5v φ hφ, Option.bind_some]
  by_cases hc : z4e p = 0
  case neg => rw [if_pos (by simpa using hc), if_neg hc]
  rw [if_neg (by simpa using hc), zin φ hφ p l hl, if_pos hc, if_pos hc, Option.bind_some]
  have pl := zjl p l
  refine zm6 φ _ _ _ (by omega) (by omega) fun u hu => ?_
  have h3 := of_eq φ p l 3 (okDR p) hl (by omega) fun r hr hk => ok34 φ hφ p hc l r hr (.inl hk)
  have h4 := of_eq φ p l 4 (okDR p) hl (by omega) fun r hr hk => ok34 φ hφ p hc l r hr (.inr hk)
  unfold z3j
  simp only [Pool.eta', h3, h4, Option.bind_some]
  have l3 := zaq (isD p) l
  have l4 := zaq (isR p) l
  have e3 : idxF (fun r => r.fItem.fKind == 3 && okDR p r.fItem) l = idxF (isD p) l := rfl
  have e4 : idxF (fun r => r.fItem.fKind == 4 && okDR p r.fItem) l = rcpI p l := rfl
  have l4' : (rcpI p l).length ≤ l.length := l4
  rw [e3, e4, zln φ (by omega) _ _ (by omega) (by omega), Option.bind_some]
  generalize hA : idxF (isD p) l ++ rcpI p l = A
  have hAl : A.length ≤ 2 * l.length := by rw [← hA]; simp; omega
  have hAm : ∀ z ∈ A, 0 ≤ z ∧ z < (l.length : Int) := by
    intro z hz
    rw [← hA] at hz
    rcases List.mem_append.1 hz with hz | hz
    · have := z5r.1 hz; exact ⟨this.1, this.2.1⟩
    · exact (zad hz).1
  have hfree : zcn p l = A.filter fun i => !zc3 (prs p l) i := by unfold zcn; rw [hA]
  rw [hfree]
  refine z51 (z1r φ l u A (z2d φ)) A.length (fun j s => s = ((A.take j).filter fun i => !zc3 (prs p l) i).map (fun i => (gt l i).fRef) ∧ s.length ≤ j) (fun o => o = some _) ?_ ?_ φ [] ⟨by simp, by simp⟩ (by omega)
  · intro n j s hj ⟨hs, hsl⟩ hk
    have hz := hAm _ (z8e (l := A) (i := (j : Int)) (by omega) (by omega))
    rw [z1r, if_pos (by simp; omega), zm ⟨by omega, by omega⟩, hu]
    unfold z4a
    rw [W_id (by omega) (by omega)]
    have hnext : ((A.take (j + 1)).filter fun i => !zc3 (prs p l) i).map (fun i => (gt l i).fRef) = if (!zc3 (prs p l) (gt A (j : Int))) = true then s ++ [(gt l (gt A (j : Int))).fRef] else s := by
      rw [z7s A j hj, List.filter_append, List.map_append, ← hs]
      cases h : zc3 (prs p l) (gt A (j : Int)) <;> simp [h]
    split
    · rename_i h
      rw [zm hz, zm (z6z (by simp; omega) (by omega))]
      exact hk _ ⟨by rw [hnext, if_pos h], by simp; omega⟩
    · rename_i h
      exact hk _ ⟨by rw [hnext, if_neg h], by omega⟩
  · intro n s ⟨hs, hsl⟩
    rw [List.take_length] at hs
    rw [z1r, if_neg (by simp)]
    unfold z2d
    obtain ⟨rs, m1, m2, m3⟩ := zf6 zh5 (zrw φ (by omega)) φ s (fun _ _ => trivial) (by omega) (by omega)
    rw [m3, Option.bind_some, zhf zh5 m1 m2, hs]
/-- What a valid pool says of a wagon's home. -/
theorem zns {p : Pool} (hc : z4e p = 0) {w : Int} (hw : 0 ≤ w ∧ w < (p.fFleet.fWagons.length : Int)) :
    0 ≤ (gt p.fFleet.fWagons w).fHome ∧ (gt p.fFleet.fWagons w).fHome < (p.fNetwork.fPlaces.length : Int) := by
  have hm := z8e (l := p.fFleet.fWagons) hw.1 hw.2
  unfold z4e at hc
  by_cases hn : za7 p.fNetwork = 0
  case neg => rw [if_pos hn] at hc; exact absurd hc hn
  by_cases hf : z8l p.fFleet = 0
  case neg => rw [if_neg (fun e : za7 p.fNetwork ≠ 0 => e hn), if_pos hf] at hc; exact absurd hc hf
  rw [if_neg (fun e : za7 p.fNetwork ≠ 0 => e hn), if_neg (fun e : z8l p.fFleet ≠ 0 => e hf)] at hc
  obtain ⟨_, _, _, _, _, f6, _⟩ := zc8 hf
  have h2 := f6 _ hm
  simp only [zce, Bool.and_eq_true, zhi] at h2
  refine ⟨h2.1.1.2.1, ?_⟩
  cases hb : zfm p with
  | true => rw [hb] at hc; cases hc
  | false =>
    cases hd : zfc p with
    | true => rw [hb, hd] at hc; cases hc
    | false =>
      unfold zfc at hd
      simp only [Bool.or_eq_false_iff, List.any_eq_false, beq_eq_false_iff_ne, decide_eq_true_eq, Bool.not_eq_true] at hd
      have := hd.1.1.1.2 _ hm
      omega
def chnC (p : Pool) (l : List zb) (w : Int) : List zi := zdo (zjd p w) w (mts p l)
theorem zmm (φ : Nat) (hφ : 800000 < φ) (p : Pool) (l : List zb) (hl : l.length ≤ 100000) (hc : z4e p = 0) (w : Int) (hw : 0 ≤ w ∧ w < (p.fFleet.fWagons.length : Int)) : z6s φ p l w = some (chnC p l w) := by
  have := zj4 p l
  exact zo8 φ p l w _ (zcj φ hφ p l hl) (by omega) (by omega) hw (zns hc hw)
theorem zh6 (p : Pool) (l : List zb) (w : Int) : Chn (chnC p l w) := by
  have := zfl w (mts p l) [] (zjd p w) (List.pairwise_singleton _ _)
  exact this
theorem zcg (w : Int) : ∀ (ms : List z3) (a : List zi), a.length ≤ (ms.foldl (z5a w) a).length ∧ (ms.foldl (z5a w) a).length ≤ a.length + ms.length
  | [], a => ⟨Nat.le_refl _, Nat.le_refl _⟩
  | m :: ms, a => by
    have h1 := zd2 w a m
    have h2 := zcg w ms (z5a w a m)
    simp only [List.foldl_cons, List.length_cons]
    omega
theorem zh8 (p : Pool) (l : List zb) (w : Int) : 1 ≤ (chnC p l w).length ∧ (chnC p l w).length ≤ l.length + 1 := by
  have h1 := zcg w (mts p l) [zjd p w]
  have h2 := zj4 p l
  unfold chnC zdo
  simp at h1 ⊢
  omega
theorem zci (w : Int) : ∀ (ms : List z3) (a : List zi), ∃ b, ms.foldl (z5a w) a = a ++ b
  | [], a => ⟨[], by simp⟩
  | m :: ms, a => by
    obtain ⟨b, hb⟩ := zci w ms (z5a w a m)
    have : ∃ b', z5a w a m = a ++ b' := by
      unfold z5a
      split
      · exact ⟨_, rfl⟩
      · exact ⟨[], by simp⟩
    obtain ⟨b', hb'⟩ := this
    exact ⟨b' ++ b, by rw [List.foldl_cons, hb, hb', List.append_assoc]⟩
theorem zni (p : Pool) (l : List zb) (w : Int) : gt (chnC p l w) 0 = zjd p w := by
  obtain ⟨b, hb⟩ := zci w (mts p l) [zjd p w]
  unfold chnC zdo
  rw [hb]; rfl
/-- A chain is cut by a minute. -/
theorem zh9 : ∀ (c : List zi), Chn c → ∀ m : Int, ∃ i : Nat, i ≤ c.length ∧ c.filter (fun x => decide (x.fSpan.fFrom ≤ m)) = c.take i ∧ (∀ j : Nat, j < i → (gt c (j : Int)).fSpan.fFrom ≤ m) ∧ ∀ j : Nat, i ≤ j → j < c.length → m < (gt c (j : Int)).fSpan.fFrom
  | [], _, m => ⟨0, Nat.le_refl _, rfl, by omega, by simp⟩
  | x :: c, h, m => by
    have h' := List.pairwise_cons.1 h
    by_cases hx : x.fSpan.fFrom ≤ m
    · obtain ⟨i, h1, h2, h3, h4⟩ := zh9 c h'.2 m
      have hg : ∀ j : Nat, gt (x :: c) ((j + 1 : Nat) : Int) = gt c (j : Int) := fun j => by simp [gt]
      refine ⟨i + 1, by simp; omega, ?_, fun j hj => ?_, fun j hj hj' => ?_⟩
      · rw [List.filter_cons_of_pos (by simpa using hx), h2]; rfl
      · cases j with
        | zero => exact hx
        | succ j => rw [hg]; exact h3 j (by omega)
      · cases j with
        | zero => omega
        | succ j => rw [hg]; exact h4 j (by omega) (by simp at hj'; omega)
    · have hall : ∀ y ∈ x :: c, m < y.fSpan.fFrom := fun y hy => by
        rcases List.mem_cons.1 hy with rfl | hy
        · omega
        · have := h'.1 y hy; omega
      refine ⟨0, Nat.zero_le _, ?_, by omega, fun j _ hj => hall _ (z8e (by omega) (by omega))⟩
      rw [List.take_zero, List.filter_eq_nil_iff]
      intro y hy
      have := hall y hy
      simp; omega
def cutC (c : List zi) (m : Int) : List zi := c.filter fun x => decide (x.fSpan.fFrom ≤ m)
def okWM (p : Pool) (w m : Int) : Prop := 0 ≤ w ∧ w < (p.fFleet.fWagons.length : Int) ∧ 0 ≤ m ∧ m ≤ 1073741824
instance (p : Pool) (w m : Int) : Decidable (okWM p w m) := by unfold okWM; infer_instance
theorem At_all (φ : Nat) (hφ : 800000 < φ) (p : Pool) (l : List zb) (hl : l.length ≤ 90000) (w m : Int) :
    z8v φ p l w m = some (if z4e p ≠ 0 then (0, z4e p) else if okWM p w m then ((zli (cutC (chnC p l w) m)).fRailway, 0) else (0, 1)) := by
  unfold z8v
  rw [zl1 φ p w m _ (z5v φ hφ p), Option.bind_some]
  by_cases hc : z4e p = 0
  case neg => rw [if_pos hc, if_pos (by simpa using hc), if_pos hc]
  rw [if_neg (fun e : z4e p ≠ 0 => e hc), if_neg (fun e : z4e p ≠ 0 => e hc)]
  by_cases hv : okWM p w m
  case neg =>
    have hv' : ¬ (0 ≤ w ∧ w < (p.fFleet.fWagons.length : Int) ∧ 0 ≤ m ∧ m ≤ 1073741824) := hv
    rw [if_neg hv', if_pos (by decide), if_neg hv]
  have hv' : 0 ≤ w ∧ w < (p.fFleet.fWagons.length : Int) ∧ 0 ≤ m ∧ m ≤ 1073741824 := hv
  rw [if_pos hv', if_neg (by decide), if_pos hv]
  obtain ⟨w0, w1, m0, m1⟩ := hv
  rw [zmm φ hφ p l (by omega) hc w ⟨w0, w1⟩, Option.bind_some]
  obtain ⟨c1, c2⟩ := zh8 p l w
  have e : W (((chnC p l w).length : Int) - 1) = (((chnC p l w).length - 1 : Nat) : Int) := by rw [W_id (by omega) (by omega)]; omega
  obtain ⟨i, h1, h2, h3, h4⟩ := zqb φ m (chnC p l w) (by omega) φ ((chnC p l w).length - 1) (by omega) ⟨0, by omega, by
    have : gt (chnC p l w) ((0 : Nat) : Int) = zjd p w := zni p l w
    rw [this]; exact m0⟩ (by omega)
  rw [e, h4]
  obtain ⟨i0, k1, k2, k3, k4⟩ := zh9 _ (zh6 p l w) m
  have : i0 = i + 1 := by
    by_cases q : i < i0
    · by_cases q2 : i + 1 < i0
      · have a := h3 (i + 1) (by omega) (by omega)
        have b := k3 (i + 1) q2
        omega
      · omega
    · have := k4 i (by omega) (by omega); omega
  unfold cutC
  rw [k2, this, z7s _ _ (by omega), zir]
def spnC (c : List zi) (u : Int) : List zi := zb7 c u (cutC c (u - 1)).length
theorem zf5 (φ : Nat) (hφ : 800000 < φ) (p : Pool) (l : List zb) (hl : l.length ≤ 90000) (w u : Int) :
    z5n φ p l w u = some (if z4e p ≠ 0 then ([], z4e p) else if okWM p w u then (spnC (chnC p l w) u, 0) else ([], 1)) := by
  unfold z5n
  rw [zl1 φ p w u _ (z5v φ hφ p), Option.bind_some]
  by_cases hc : z4e p = 0
  case neg => rw [if_pos hc, if_pos (by simpa using hc), if_pos hc]
  rw [if_neg (fun e : z4e p ≠ 0 => e hc), if_neg (fun e : z4e p ≠ 0 => e hc)]
  by_cases hv : okWM p w u
  case neg =>
    have hv' : ¬ (0 ≤ w ∧ w < (p.fFleet.fWagons.length : Int) ∧ 0 ≤ u ∧ u ≤ 1073741824) := hv
    rw [if_neg hv', if_pos (by decide), if_neg hv]
  have hv' : 0 ≤ w ∧ w < (p.fFleet.fWagons.length : Int) ∧ 0 ≤ u ∧ u ≤ 1073741824 := hv
  rw [if_pos hv', if_neg (by decide), if_pos hv]
  obtain ⟨w0, w1, m0, m1⟩ := hv
  rw [zmm φ hφ p l (by omega) hc w ⟨w0, w1⟩, Option.bind_some]
  obtain ⟨c1, c2⟩ := zh8 p l w
  obtain ⟨i, h1, h2, h3, h4⟩ := zl4 φ u (chnC p l w) (by omega) (by omega)
  rw [h4]
  obtain ⟨i0, k1, k2, k3, k4⟩ := zh9 _ (zh6 p l w) (u - 1)
  have : i0 = i := by
    by_cases q : i < i0
    · have a := k3 i q
      have b := h3 (by omega)
      omega
    · by_cases q2 : i0 < i
      · have a := k4 i0 (by omega) (by omega)
        have b := h2 i0 q2
        omega
      · omega
  unfold spnC cutC
  rw [k2, List.length_take, this, Nat.min_eq_left h1]
end Px
end
section
namespace Px
open Go
theorem zk5 : zbh 1000000 = some true := by kernel_rfl
end Px
end
section
namespace Px
open Go
set_option linter.unusedVariables false
set_option linter.unusedSimpArgs false
theorem zie (l : List zb) (used : List (Int × Bool)) (i : Int) : ∀ (rs : List Int) (b : Int), (∀ z ∈ rs, 0 ≤ z) → 0 ≤ b → 0 ≤ rs.foldl (z87 l used i) b
  | [], b, _, h => h
  | k :: rs, b, hr, h => by
    simp only [List.foldl_cons]
    refine zie l used i rs _ (fun z hz => hr z (by simp [hz])) ?_
    unfold z87
    split
    · exact h
    · split
      · exact h
      · exact hr k (by simp)
theorem zh7 (l : List zb) (used : List (Int × Bool)) (i : Int) : ∀ (rs : List Int) (b : Int), (∀ z ∈ rs, 0 ≤ z) → rs.foldl (z87 l used i) b < 0 → ∀ k ∈ rs, unfit l used i k = true
  | [], b, _, _, k, hk => by cases hk
  | k :: rs, b, hr, h, j, hj => by
    simp only [List.foldl_cons] at h
    have hr' : ∀ z ∈ rs, 0 ≤ z := fun z hz => hr z (by simp [hz])
    rcases List.mem_cons.1 hj with rfl | hj
    · cases e : unfit l used i j with
      | true => rfl
      | false =>
        have : 0 ≤ z87 l used i b j := by
          unfold z87
          rw [if_neg (by simp [e])]
          split
          · rename_i h2; simp at h2; exact h2.1
          · exact hr j (by simp)
        have := zie l used i rs _ hr' this
        omega
    · exact zh7 l used i rs _ hr' h j hj
theorem zfg {p : Pool} {l : List zb} {i : Int} (h : i ∈ zcn p l) : (0 ≤ i ∧ i < (l.length : Int)) ∧ zc3 (prs p l) i = false ∧ (i ∈ idxF (isD p) l ∨ i ∈ rcpI p l) := by
  unfold zcn at h
  simp only [List.mem_filter, List.mem_append, Bool.not_eq_true'] at h
  refine ⟨?_, h.2, h.1⟩
  rcases h.1 with h1 | h1
  · have := z5r.1 h1; exact ⟨this.1, this.2.1⟩
  · exact (zad h1).1
theorem zma (p : Pool) (l : List zb) : (zcn p l).length ≤ 2 * l.length := by
  unfold zcn
  have h1 := List.length_filter_le (fun i => !zc3 (prs p l) i) (idxF (isD p) l ++ rcpI p l)
  have h2 := zaq (isD p) l
  have h3 : (rcpI p l).length ≤ l.length := zaq (isR p) l
  simp only [List.length_append] at h1
  omega
theorem zrn (p : Pool) (l : List zb) : (unm p l).length ≤ 2 * l.length := by
  unfold unm
  split
  · rw [zfb zh5, List.length_map]; exact zma p l
  · simp
end Px
end
section
namespace Px
open Go
set_option linter.unusedVariables false
set_option linter.unusedSimpArgs false
theorem zoi {c : List zi} (h : Chn c) (m : Int) : (cutC c m).length ≤ c.length ∧ cutC c m = c.take (cutC c m).length ∧ (∀ j : Nat, j < (cutC c m).length → (gt c (j : Int)).fSpan.fFrom ≤ m) ∧
    ∀ j : Nat, (cutC c m).length ≤ j → j < c.length → m < (gt c (j : Int)).fSpan.fFrom := by
  obtain ⟨i, h1, h2, h3, h4⟩ := zh9 c h m
  have e : (cutC c m).length = i := by unfold cutC; rw [h2, List.length_take, Nat.min_eq_left h1]
  rw [e]
  exact ⟨h1, h2, h3, h4⟩
theorem zo3 (c : List zi) (u : Int) : (spnC c u).length = (cutC c (u - 1)).length := zgo _ _ _
end Px
end
section
namespace Px
open Go
set_option linter.unusedVariables false
set_option linter.unusedSimpArgs false
/-- What is known of each pair. -/
theorem zpb {p : Pool} {l : List zb} {x : Nat → Int} (hx : x ∈ prs p l) : ((0 ≤ x 0 ∧ x 0 < (l.length : Int)) ∧ (gt l (x 0)).fItem.fKind = 3 ∧ okDR p (gt l (x 0)).fItem = true) ∧ ((0 ≤ x 1 ∧ x 1 < (l.length : Int)) ∧ (gt l (x 1)).fItem.fKind = 4 ∧ okDR p (gt l (x 1)).fItem = true) ∧
    zb3 p (gt l (x 0)) = true ∧ ((gt l (x 1)).fRef.fRailway = (gt l (x 0)).fItem.fOther ∧ (gt l (x 1)).fItem.fOther = (gt l (x 0)).fRef.fRailway ∧ (gt l (x 1)).fItem.fWagon = (gt l (x 0)).fItem.fWagon ∧ (gt l (x 1)).fItem.fPlace = (gt l (x 0)).fItem.fPlace ∧ gapW (gt l (x 0)) (gt l (x 1)) ≤ 60) := by
  obtain ⟨d, k, rfl, h1, h2, h3, h4⟩ := (pinv p l (rcpI p l) (dlvI p l)).pr x hx
  refine ⟨zhn h1, zad h2, h3, ?_⟩
  simp only [unfit, unf5, zcp, bne_eq_false_iff_eq, decide_eq_false_iff_not] at h4
  obtain ⟨⟨⟨⟨⟨_, e1⟩, e2⟩, e3⟩, e4⟩, e5⟩ := h4
  exact ⟨e1, e2, e3, e4, Int.not_lt.1 e5⟩
theorem zfd (p : Pool) (l : List zb) : (zcn p l).Nodup := by
  unfold zcn
  refine List.Pairwise.filter _ (show List.Nodup _ from ?_)
  rw [List.nodup_append]
  refine ⟨zbb _ _, zbb _ _, fun a ha b hb e => ?_⟩
  subst e
  have h1 := (z5r.1 ha).2.2
  have h2 := (zad hb).2.1
  simp [isD] at h1
  omega
theorem zff {α β : Type} {f : α → β} : ∀ {l : List α}, l.Nodup → (∀ a ∈ l, ∀ b ∈ l, f a = f b → a = b) → (l.map f).Nodup
  | [], _, _ => List.nodup_nil
  | x :: l, h, hi => by
    have h' := List.nodup_cons.1 h
    rw [List.map_cons, List.nodup_cons]
    refine ⟨fun hm => ?_, zff h'.2 fun a ha b hb => hi a (by simp [ha]) b (by simp [hb])⟩
    obtain ⟨y, hy, e⟩ := List.mem_map.1 hm
    have := hi y (by simp [hy]) x (by simp) e
    exact h'.1 (this ▸ hy)
end Px
end
section
namespace Px
open Go
set_option linter.unusedVariables false
set_option linter.unusedSimpArgs false
/-- The same reports in another order: place j of l' holds what place τ j of l holds. -/
structure Sim (l l' : List zb) (τ : Int → Int) : Prop where
  len : l'.length = l.length
  rng : ∀ j, 0 ≤ j ∧ j < (l'.length : Int) → 0 ≤ τ j ∧ τ j < (l.length : Int)
  cell : ∀ j, 0 ≤ j ∧ j < (l'.length : Int) → gt l' j = gt l (τ j)
  inj : ∀ i j, 0 ≤ i ∧ i < (l'.length : Int) → 0 ≤ j ∧ j < (l'.length : Int) → τ i = τ j → i = j
  sur : ∀ i, 0 ≤ i ∧ i < (l.length : Int) → ∃ j, (0 ≤ j ∧ j < (l'.length : Int)) ∧ τ j = i
theorem zl2 {α : Type} {a b : List α} (ha : a.Nodup) (hb : b.Nodup) (h : ∀ x, x ∈ a ↔ x ∈ b) : a.Perm b := (List.perm_ext_iff_of_nodup ha hb).2 h
theorem Sim.idx {l l' : List zb} {τ : Int → Int} (h : Sim l l' τ) (f : zb → Bool) : ((idxF f l').map τ).Perm (idxF f l) := by
  refine zl2 (zff (zbb f l') fun a ha b hb e => ?_) (zbb f l) fun x => ?_
  · have h1 := z5r.1 ha
    have h2 := z5r.1 hb
    exact h.inj a b ⟨h1.1, h1.2.1⟩ ⟨h2.1, h2.2.1⟩ e
  · rw [List.mem_map, z5r]
    constructor
    · rintro ⟨j, hj, rfl⟩
      have h1 := z5r.1 hj
      have h2 := h.rng j ⟨h1.1, h1.2.1⟩
      exact ⟨h2.1, h2.2, by rw [← h.cell j ⟨h1.1, h1.2.1⟩]; exact h1.2.2⟩
    · rintro ⟨h1, h2, h3⟩
      obtain ⟨j, hj, rfl⟩ := h.sur x ⟨h1, h2⟩
      exact ⟨j, z5r.2 ⟨hj.1, hj.2, by rw [h.cell j hj]; exact h3⟩, rfl⟩
theorem Sim.dlv {l l' : List zb} {τ : Int → Int} (h : Sim l l' τ) (hd : Diff l) (p : Pool) : dlvI p l = (dlvI p l').map τ := by
  unfold dlvI
  rw [← zmz (zb8 l) (zb8 l') τ (fun j => 0 ≤ j ∧ j < (l'.length : Int)) (fun x y hx hy => by
    unfold zb8 znf; rw [h.cell x hx, h.cell y hy]) _ (fun x hx => by have := z5r.1 hx; exact ⟨this.1, this.2.1⟩)]
  refine zgt (zex l) (fun a ha b hb h1 h2 => ?_) (h.idx (isD p)).symm
  have ra := z5r.1 ha
  have rb := z5r.1 hb
  refine zkw hd ⟨ra.1, ra.2.1⟩ ⟨rb.1, rb.2.1⟩ ?_
  simp only [zb8, decide_eq_false_iff_not, zhq, zaj] at h1 h2
  have e1 : (gt l a).fRef.fRailway = (gt l b).fRef.fRailway := by omega
  have e2 : (gt l a).fRef.fNo = (gt l b).fRef.fNo := by omega
  generalize (gt l a).fRef = x at *
  generalize (gt l b).fRef = y at *
  cases x; cases y; simp_all
theorem zhm {l : List zb} {i b k : Int} : betC l i b k ≤ 0 ↔ gapW (gt l i) (gt l b) < gapW (gt l i) (gt l k) ∨ gapW (gt l i) (gt l b) = gapW (gt l i) (gt l k) ∧
    ((gt l b).fRef.fRailway < (gt l k).fRef.fRailway ∨ (gt l b).fRef.fRailway = (gt l k).fRef.fRailway ∧ (gt l b).fRef.fNo ≤ (gt l k).fRef.fNo) := by
  unfold betC
  rw [zq0, zq0, zdg, zb1]
  have hn : orI [] ≤ 0 := by decide
  have h1 := zaj (a := (gt l b).fRef) (b := (gt l k).fRef)
  have h2 := zqr (a := (gt l b).fRef) (b := (gt l k).fRef)
  simp only [hn, and_true]
  omega
/-- The partner of a delivery is the best one. -/
theorem zhc (l : List zb) (used : List (Int × Bool)) (i : Int) : ∀ (rs : List Int) (b : Int), (∀ z ∈ rs, 0 ≤ z) → 0 ≤ rs.foldl (z87 l used i) b →
    (∀ k ∈ rs, unfit l used i k = false → betC l i (rs.foldl (z87 l used i) b) k ≤ 0) ∧ (0 ≤ b → betC l i (rs.foldl (z87 l used i) b) b ≤ 0)
  | [], b, _, h => ⟨fun k hk => (nomatch hk), fun _ => by rw [zhm]; simp⟩
  | r :: rs, b, hr, h => by
    simp only [List.foldl_cons] at h ⊢
    obtain ⟨h1, h2⟩ := zhc l used i rs _ (fun z hz => hr z (by simp [hz])) h
    have hr0 := hr r (by simp)
    generalize hB : rs.foldl (z87 l used i) (z87 l used i b r) = B at *
    have htr : ∀ x y : Int, betC l i B x ≤ 0 → betC l i x y ≤ 0 → betC l i B y ≤ 0 := fun x y q1 q2 => by
      rw [zhm] at *; omega
    have hto : ∀ x y : Int, ¬ betC l i x y ≤ 0 → betC l i y x ≤ 0 := fun x y q => by
      rw [zhm] at *; omega
    unfold z87 at h2 hB
    cases hu : unfit l used i r with
    | true =>
      rw [if_pos hu] at h2
      refine ⟨fun k hk hk2 => ?_, h2⟩
      rcases List.mem_cons.1 hk with rfl | hk
      · rw [hu] at hk2; cases hk2
      · exact h1 k hk hk2
    | false =>
      rw [if_neg (by simp [hu])] at h2
      by_cases hc : (decide (0 ≤ b) && decide (betC l i b r ≤ 0)) = true
      · rw [if_pos hc] at h2
        simp only [Bool.and_eq_true, decide_eq_true_eq] at hc
        refine ⟨fun k hk hk2 => ?_, h2⟩
        rcases List.mem_cons.1 hk with rfl | hk
        · exact htr _ _ (h2 hc.1) hc.2
        · exact h1 k hk hk2
      · rw [if_neg hc] at h2
        refine ⟨fun k hk hk2 => ?_, fun hb => ?_⟩
        · rcases List.mem_cons.1 hk with rfl | hk
          · exact h2 hr0
          · exact h1 k hk hk2
        · have : ¬ betC l i b r ≤ 0 := fun q => hc (by simp [hb, q])
          exact htr _ _ (h2 hr0) (hto _ _ this)
theorem zgi (l : List zb) (used : List (Int × Bool)) (i : Int) (rs : List Int) (hr : ∀ z ∈ rs, 0 ≤ z) : z58 l used i rs = -1 ∨ 0 ≤ z58 l used i rs := by
  unfold z58
  have : ∀ (rs : List Int) (b : Int), (∀ z ∈ rs, 0 ≤ z) → b = -1 ∨ 0 ≤ b → rs.foldl (z87 l used i) b = -1 ∨ 0 ≤ rs.foldl (z87 l used i) b := by
    intro rs
    induction rs with
    | nil => intro b _ h; exact h
    | cons r rs ih =>
      intro b hr h
      simp only [List.foldl_cons]
      refine ih _ (fun z hz => hr z (by simp [hz])) ?_
      unfold z87
      split
      · exact h
      · split
        · exact h
        · exact .inr (hr r (by simp))
  exact this rs (-1) hr (.inl rfl)
/-- What tells the partner. -/
theorem zrj {l : List zb} (hd : Diff l) {used : List (Int × Bool)} {i b : Int} {rs : List Int} (hr : ∀ z ∈ rs, 0 ≤ z ∧ z < (l.length : Int)) (hb : b ∈ rs) (hu : unfit l used i b = false) (hm : ∀ k ∈ rs, unfit l used i k = false → betC l i b k ≤ 0) : z58 l used i rs = b := by
  have hr0 : ∀ z ∈ rs, 0 ≤ z := fun z hz => (hr z hz).1
  rcases zgi l used i rs hr0 with h | h
  · have := zh7 l used i rs (-1) hr0 (by have : z58 l used i rs = rs.foldl (z87 l used i) (-1) := rfl; omega) b hb
    rw [hu] at this; cases this
  · obtain ⟨h1, _⟩ := zhc l used i rs (-1) hr0 h
    rcases z9p l used i rs (-1) h with e | ⟨e1, e2⟩
    · have : z58 l used i rs = -1 := e
      omega
    · have e1' : z58 l used i rs ∈ rs := e1
      have q1 : betC l i (z58 l used i rs) b ≤ 0 := h1 b hb hu
      have q2 := hm _ e1' e2
      refine zkw hd (hr _ e1') (hr _ hb) ?_
      rw [zhm] at q1 q2
      have r1 : (gt l (z58 l used i rs)).fRef.fRailway = (gt l b).fRef.fRailway := by omega
      have r2 : (gt l (z58 l used i rs)).fRef.fNo = (gt l b).fRef.fNo := by omega
      generalize (gt l (z58 l used i rs)).fRef = x at *
      generalize (gt l b).fRef = y at *
      cases x; cases y; simp_all
def mapP (τ : Int → Int) (x : Nat → Int) : Nat → Int := ofL [τ (x 0), τ (x 1)]
structure SSt (l l' : List zb) (τ : Int → Int) (st st' : List (Int × Bool) × List (Nat → Int)) : Prop where
  used : ∀ k, 0 ≤ k ∧ k < (l'.length : Int) → (mget st'.1 k).getD false = (mget st.1 (τ k)).getD false
  out : st.2 = st'.2.map (mapP τ)
theorem Sim.unfit {l l' : List zb} {τ : Int → Int} (h : Sim l l' τ) {u u' : List (Int × Bool)} {i k : Int} (hi : 0 ≤ i ∧ i < (l'.length : Int)) (hk : 0 ≤ k ∧ k < (l'.length : Int)) (hu : (mget u' k).getD false = (mget u (τ k)).getD false) :
    unfit l u (τ i) (τ k) = unfit l' u' i k := by
  unfold Px.unfit unf5
  rw [hu, h.cell i hi, h.cell k hk]
theorem Sim.step {l l' : List zb} {τ : Int → Int} (h : Sim l l' τ) (hd : Diff l) {p : Pool} {st st' : List (Int × Bool) × List (Nat → Int)} (hs : SSt l l' τ st st') {d : Int} (hdr : 0 ≤ d ∧ d < (l'.length : Int)) :
    SSt l l' τ (zbo p l (rcpI p l) st (τ d)) (zbo p l' (rcpI p l') st' d) := by
  have hrl : ∀ z ∈ rcpI p l, 0 ≤ z ∧ z < (l.length : Int) := fun z hz => (zad hz).1
  have hrl' : ∀ z ∈ rcpI p l', 0 ≤ z ∧ z < (l'.length : Int) := fun z hz => (zad hz).1
  have hm : ∀ x, x ∈ (rcpI p l').map τ ↔ x ∈ rcpI p l := fun x => (h.idx (isR p)).mem_iff
  have hbest : z58 l st.1 (τ d) (rcpI p l) = if 0 ≤ z58 l' st'.1 d (rcpI p l') then τ (z58 l' st'.1 d (rcpI p l')) else -1 := by
    split
    · rename_i hb
      rcases z9p l' st'.1 d (rcpI p l') (-1) hb with e | ⟨e1, e2⟩
      · have : z58 l' st'.1 d (rcpI p l') = -1 := e
        omega
      · have e1' : z58 l' st'.1 d (rcpI p l') ∈ rcpI p l' := e1
        obtain ⟨h1, _⟩ := zhc l' st'.1 d (rcpI p l') (-1) (fun z hz => (hrl' z hz).1) hb
        refine zrj hd hrl ((hm _).1 (List.mem_map.2 ⟨_, e1', rfl⟩)) ?_ fun k hk hku => ?_
        · rw [h.unfit hdr (hrl' _ e1') (hs.used _ (hrl' _ e1'))]; exact e2
        · obtain ⟨k', hk', rfl⟩ := List.mem_map.1 ((hm _).2 hk)
          have hkr := hrl' _ hk'
          rw [h.unfit hdr hkr (hs.used _ hkr)] at hku
          have := h1 k' hk' hku
          have e : betC l (τ d) (τ (z58 l' st'.1 d (rcpI p l'))) (τ k') = betC l' d (z58 l' st'.1 d (rcpI p l')) k' := by
            unfold betC; rw [h.cell _ hdr, h.cell _ (hrl' _ e1'), h.cell _ hkr]
          rw [e]; exact this
    · rename_i hb
      rcases zgi l st.1 (τ d) (rcpI p l) (fun z hz => (hrl z hz).1) with q | q
      · exact q
      · rcases z9p l st.1 (τ d) (rcpI p l) (-1) q with e | ⟨e1, e2⟩
        · exact e
        · have e1' : z58 l st.1 (τ d) (rcpI p l) ∈ rcpI p l := e1
          have e2' : Px.unfit l st.1 (τ d) (z58 l st.1 (τ d) (rcpI p l)) = false := e2
          obtain ⟨k', hk', ek⟩ := List.mem_map.1 ((hm _).2 e1')
          have hkr := hrl' _ hk'
          rw [← ek, h.unfit hdr hkr (hs.used _ hkr)] at e2'
          have := zh7 l' st'.1 d (rcpI p l') (-1) (fun z hz => (hrl' z hz).1) (show z58 l' st'.1 d (rcpI p l') < 0 by omega) k' hk'
          rw [e2'] at this; cases this
  have hp : zb3 p (gt l (τ d)) = zb3 p (gt l' d) := by rw [h.cell d hdr]
  unfold zbo
  rw [hbest, hp]
  split
  · exact hs
  · by_cases hb : 0 ≤ z58 l' st'.1 d (rcpI p l')
    · have hin : z58 l' st'.1 d (rcpI p l') ∈ rcpI p l' := by
        rcases z9p l' st'.1 d (rcpI p l') (-1) hb with e | ⟨e1, _⟩
        · have : z58 l' st'.1 d (rcpI p l') = -1 := e
          omega
        · exact e1
      have hbr := hrl' _ hin
      simp only [if_pos hb]
      rw [if_pos (h.rng _ hbr).1]
      generalize z58 l' st'.1 d (rcpI p l') = b at *
      refine ⟨fun k hk => ?_, ?_⟩
      · simp only [zde]
        by_cases q : k = b
        · subst q; simp
        · have q2 : τ k ≠ τ b := fun e => q (h.inj k b hk hbr e)
          rw [if_neg (by simpa using q), if_neg (by simpa using q2)]
          exact hs.used k hk
      · simp only [List.map_append, List.map_cons, List.map_nil, hs.out]
        rfl
    · simp only [if_neg hb]
      rw [if_neg (by decide)]
      exact hs
theorem Sim.fold {l l' : List zb} {τ : Int → Int} (h : Sim l l' τ) (hd : Diff l) {p : Pool} : ∀ (ds : List Int) (st st' : List (Int × Bool) × List (Nat → Int)), SSt l l' τ st st' → (∀ d ∈ ds, 0 ≤ d ∧ d < (l'.length : Int)) →
    SSt l l' τ ((ds.map τ).foldl (zbo p l (rcpI p l)) st) (ds.foldl (zbo p l' (rcpI p l')) st')
  | [], st, st', hs, _ => hs
  | d :: ds, st, st', hs, hr => by
    simp only [List.map_cons, List.foldl_cons]
    exact h.fold hd ds _ _ (h.step hd hs (hr d (by simp))) fun e he => hr e (by simp [he])
theorem Sim.prs {l l' : List zb} {τ : Int → Int} (h : Sim l l' τ) (hd : Diff l) (p : Pool) : prs p l = (prs p l').map (mapP τ) := by
  have := h.fold hd (p := p) (dlvI p l') ([], []) ([], []) ⟨fun k _ => rfl, rfl⟩ fun d hd' => (zhn hd').1
  rw [← h.dlv hd p] at this
  exact this.out
theorem Sim.mts {l l' : List zb} {τ : Int → Int} (h : Sim l l' τ) (hd : Diff l) (p : Pool) : mts p l = mts p l' := by
  unfold Px.mts
  rw [h.prs hd p, List.map_map]
  have : (Px.prs p l').map (mkH l ∘ mapP τ) = (Px.prs p l').map (mkH l') := by
    refine List.map_congr_left fun x hx => ?_
    obtain ⟨⟨a1, _⟩, ⟨b1, _⟩, _⟩ := zpb hx
    show mkH l (mapP τ x) = mkH l' x
    unfold mkH
    rw [h.cell _ a1, h.cell _ b1]; rfl
  rw [this]
theorem Sim.unm {l l' : List zb} {τ : Int → Int} (h : Sim l l' τ) (hd : Diff l) (p : Pool) : unm p l = unm p l' := by
  unfold Px.unm
  split
  · have hu : ∀ i, 0 ≤ i ∧ i < (l'.length : Int) → zc3 (Px.prs p l) (τ i) = zc3 (Px.prs p l') i := fun i hi => by
      rw [h.prs hd p, Bool.eq_iff_iff]
      simp only [zc3, List.any_eq_true, List.mem_map, Bool.or_eq_true, beq_iff_eq]
      constructor
      · rintro ⟨_, ⟨x, hx, rfl⟩, e⟩
        obtain ⟨⟨a1, _⟩, ⟨b1, _⟩, _⟩ := zpb hx
        refine ⟨x, hx, e.imp (fun e => ?_) (fun e => ?_)⟩
        · exact h.inj _ _ a1 hi e
        · exact h.inj _ _ b1 hi e
      · rintro ⟨x, hx, e⟩
        exact ⟨_, ⟨x, hx, rfl⟩, e.imp (fun e => by show τ (x 0) = τ i; rw [e]) (fun e => by show τ (x 1) = τ i; rw [e])⟩
    have hp : ((zcn p l').map τ).Perm (zcn p l) := by
      refine zl2 (zff (zfd p l') fun a ha b hb e => h.inj a b (zfg ha).1 (zfg hb).1 e) (zfd p l) fun x => ?_
      have hD := (h.idx (isD p)).mem_iff (a := x)
      have hR := (h.idx (isR p)).mem_iff (a := x)
      unfold zcn rcpI
      simp only [List.mem_map, List.mem_filter, List.mem_append, Bool.not_eq_true'] at hD hR ⊢
      constructor
      · rintro ⟨j, ⟨hj, hf⟩, rfl⟩
        have hjr : 0 ≤ j ∧ j < (l'.length : Int) := by
          rcases hj with hj | hj <;> (have := z5r.1 hj; exact ⟨this.1, this.2.1⟩)
        refine ⟨hj.imp (fun e => hD.1 ⟨j, e, rfl⟩) (fun e => hR.1 ⟨j, e, rfl⟩), ?_⟩
        rw [hu j hjr]; exact hf
      · rintro ⟨hx, hf⟩
        rcases hx with hx | hx
        · obtain ⟨j, hj, rfl⟩ := hD.2 hx
          have := z5r.1 hj
          exact ⟨j, ⟨.inl hj, by rw [← hu j ⟨this.1, this.2.1⟩]; exact hf⟩, rfl⟩
        · obtain ⟨j, hj, rfl⟩ := hR.2 hx
          have := z5r.1 hj
          exact ⟨j, ⟨.inr hj, by rw [← hu j ⟨this.1, this.2.1⟩]; exact hf⟩, rfl⟩
    have e : (zcn p l').map (fun i => (gt l' i).fRef) = ((zcn p l').map τ).map (fun i => (gt l i).fRef) := by
      rw [List.map_map]
      exact List.map_congr_left fun x hx => by rw [h.cell x (zfg hx).1]; rfl
    rw [e]
    refine zgt zh5 (fun a _ b _ h1 h2 => ?_) (hp.map _).symm
    simp only [zlj, decide_eq_false_iff_not, zaj] at h1 h2
    have r1 : a.fRailway = b.fRailway := by omega
    have r2 : a.fNo = b.fNo := by omega
    cases a; cases b; simp_all
  · rfl
end Px
end
section
namespace Px
open Go
set_option linter.unusedVariables false
set_option linter.unusedSimpArgs false
theorem zow (l : List zb) {i k : Int} (hi : 0 ≤ i ∧ i < (l.length : Int)) (hk : 0 ≤ k ∧ k < (l.length : Int)) :
    Sim l (z1t (z1t (([] : List zb) ++ l) i (gt (([] : List zb) ++ l) k)) k (gt (([] : List zb) ++ l) i)) (fun j => if j = k then i else if j = i then k else j) := by
  rw [List.nil_append]
  have hl : (z1t (z1t l i (gt l k)) k (gt l i)).length = l.length := by rw [zaz, zaz]
  constructor
  · exact hl
  · intro j hj
    rw [hl] at hj
    split
    · exact hi
    · split
      · exact hk
      · exact hj
  · intro j hj
    rw [hl] at hj
    rw [zks _ _ _ _ hk.1 (by rw [zaz]; exact hk.2) hj.1, zks _ _ _ _ hi.1 hi.2 hj.1]
    split
    · rfl
    · split <;> rfl
  · intro x y hx hy e
    split at e <;> split at e <;> (try split at e) <;> (try split at e) <;> omega
  · intro x hx
    rw [hl]
    by_cases q : x = i
    · exact ⟨k, hk, by simp [q]⟩
    · by_cases q2 : x = k
      · refine ⟨i, hi, ?_⟩
        split
        · omega
        · rw [if_pos rfl]; exact q2.symm
      · exact ⟨x, hx, by rw [if_neg q2, if_neg q]⟩
theorem zs6 {l l' : List zb} (hl : l'.length = l.length) (h : ∀ j, 0 ≤ j ∧ j < (l'.length : Int) → gt l' j = gt l ((l.length : Int) - 1 - j)) : Sim l l' (fun j => (l.length : Int) - 1 - j) :=
  ⟨hl, fun j hj => by omega, h, fun i j hi hj e => by omega, fun i hi => ⟨(l.length : Int) - 1 - i, by omega, by omega⟩⟩
theorem Sim.spans {l l' : List zb} {τ : Int → Int} (h : Sim l l' τ) (hd : Diff l) (p : Pool) (w : Int) : chnC p l' w = chnC p l w := by
  unfold chnC; rw [h.mts hd p]
theorem zmt (p : Pool) (l t : List zb) (a b u : Int) (τ : Int → Int) (hl : l.length ≤ 60) (h0 : l.length ≠ 0) (hd : Diff l) (ht : Sim l t τ) : z2i 1000000 p l a b u t = some true := by
  have h8 : 800000 < 1000000 := by omega
  have hr : ∀ x : Int, 0 ≤ W ((U x).tmod (U (l.length : Int))) ∧ W ((U x).tmod (U (l.length : Int))) < (l.length : Int) := by
    intro x
    have hU : U (l.length : Int) = l.length := U_id (by omega) (by omega)
    have hu : 0 ≤ U x := by rw [zj5]; omega
    have hlt := Int.emod_lt_of_pos (U x) (by omega : 0 < (l.length : Int))
    have hge := Int.emod_nonneg (U x) (by omega : (l.length : Int) ≠ 0)
    rw [hU, Int.tmod_eq_emod_of_nonneg hu, W_id (by omega) (by omega)]
    exact ⟨hge, hlt⟩
  unfold z2i
  have hi := hr a
  have hk := hr b
  generalize W ((U a).tmod (U (l.length : Int))) = i at *
  generalize W ((U b).tmod (U (l.length : Int))) = k at *
  have hs := zow l hi hk
  generalize z1t (z1t (([] : List zb) ++ l) i (gt (([] : List zb) ++ l) k)) k (gt (([] : List zb) ++ l) i) = s at *
  have sl := hs.len
  have tl := ht.len
  rw [zm hi]
  simp only [Pool.eta', zf5 _ h8 p l (by omega : l.length ≤ 90000), zf5 _ h8 p s (by omega : s.length ≤ 90000), zf5 _ h8 p t (by omega : t.length ≤ 90000), zcj _ h8 p l (by omega : l.length ≤ 100000), zcj _ h8 p s (by omega : s.length ≤ 100000), zcj _ h8 p t (by omega : t.length ≤ 100000),
    znl _ h8 p l (by omega : l.length ≤ 100000), znl _ h8 p t (by omega : t.length ≤ 100000), Option.bind_some, hs.spans hd p, ht.spans hd p, ← hs.mts hd p, ← ht.mts hd p, ← ht.unm hd p]
  have hspl : ∀ w : Int, (if z4e p ≠ 0 then (([] : List zi), z4e p) else if okWM p w u then (spnC (chnC p l w) u, 0) else ([], 1)).1.length ≤ 100 := by
    intro w
    split
    · simp
    · split
      · show (spnC (chnC p l w) u).length ≤ 100
        rw [zo3]
        have := (zoi (zh6 p l w) (u - 1)).1
        have := (zh8 p l w).2
        omega
      · simp
  have hw := hspl (gt l i).fItem.fWagon
  generalize (if z4e p ≠ 0 then (([] : List zi), z4e p) else if okWM p (gt l i).fItem.fWagon u then (spnC (chnC p l (gt l i).fItem.fWagon) u, 0) else ([], 1)) = y at *
  have m1 := zj4 p l
  have m2 := zrn p l
  have e0 : (y.2 == y.2) = true := by simp
  have s1 := znn 1000000 y.1 (by omega) (by omega)
  have s2 := zd1 1000000 (mts p l) (by omega) (by omega)
  have s3 := zhu 1000000 (unm p l) (by omega) (by omega)
  have gT : ∀ {α : Type} [Inhabited α] (x : Option α), z57 True x = x := fun x => zak trivial
  simp only [e0, Bool.and_self, gT, s1, s2, s3, Option.bind_some]
theorem zd7 (p : Pool) (l : List zb) (a b u : Int) {A B C D E : Prop} (_ : A) (_ : B) (_ : C) (_ : D) (_ : E) : ∃ φ, z79 φ p l a b u = some true := by
  refine ⟨1000000, ?_⟩
  have h8 : 800000 < 1000000 := by omega
  unfold z79
  obtain ⟨x, hx, hx2⟩ := zux 1000000 (by omega) p l
  simp only [Pool.eta', zk5, hx, Option.bind_some]
  rw [if_neg (by simp)]
  cases x with
  | false => rw [zap (by simp)]; rfl
  | true =>
  obtain ⟨hl, _⟩ := hx2 rfl
  rw [zak (by simp)]
  obtain ⟨d, hd, hd2⟩ := zic 1000000 l (by omega) (by omega)
  rw [hd, Option.bind_some]
  cases d with
  | false => rfl
  | true =>
  have hdf := hd2 rfl
  by_cases h0 : l.length = 0
  · rw [if_pos (by simp [h0])]
  rw [if_neg (by simp; intro e; subst e; simp at h0)]
  have hr : ∀ x : Int, 0 ≤ W ((U x).tmod (U (l.length : Int))) ∧ W ((U x).tmod (U (l.length : Int))) < (l.length : Int) := by
    intro x
    have hU : U (l.length : Int) = l.length := U_id (by omega) (by omega)
    have hu : 0 ≤ U x := by rw [zj5]; omega
    have hlt := Int.emod_lt_of_pos (U x) (by omega : 0 < (l.length : Int))
    have hge := Int.emod_nonneg (U x) (by omega : (l.length : Int) ≠ 0)
    rw [hU, Int.tmod_eq_emod_of_nonneg hu, W_id (by omega) (by omega)]
    exact ⟨hge, hlt⟩
  have hU : U (l.length : Int) = l.length := U_id (by omega) (by omega)
  have wl : W ((l.length : Int) - 1) = (l.length : Int) - 1 - ((0 : Nat) : Int) := by rw [W_id (by omega) (by omega)]; omega
  rw [zm (z6z (by simp; omega) (by omega)), zm (by rw [hU]; omega), zm (by simpa using hr b), zm (by simpa using hr a), zm (by rw [zaz]; simpa using hr b), wl]
  refine z51 (fun n i s => z2s 1000000 l (z2i 1000000 p l a b u) n ((l.length : Int) - 1 - i) s) l.length (fun i s => s = (List.range i).map fun (j : Nat) => gt l ((l.length : Int) - 1 - (j : Int))) (fun o => o = some true) ?_ ?_ _ [] (by simp) (by omega)
  · intro n i s hi hs hk
    have w1 : W ((l.length : Int) - 1 - (i : Int) - 1) = (l.length : Int) - 1 - ((i : Int) + 1) := by rw [W_id (by omega) (by omega)]; omega
    have hsl : s.length = i := by rw [hs]; simp
    rw [z2s, if_pos (by simp; omega), zm ⟨by omega, by omega⟩, zm (z6z (by simp; omega) (by omega)), w1]
    refine hk _ ?_
    rw [List.range_succ, List.map_append, ← hs]; rfl
  · intro n s hs
    rw [z2s, if_neg (by simp; omega)]
    have hsl : s.length = l.length := by rw [hs]; simp
    refine zmt p l s a b u _ hl h0 hdf (zs6 hsl fun j hj => ?_)
    rw [hs]
    have e : j = ((j.toNat : Nat) : Int) := by omega
    rw [e, zmo (by simp; omega)]
    simp
end Px
end
