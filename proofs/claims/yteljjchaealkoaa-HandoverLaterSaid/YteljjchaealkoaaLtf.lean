/- A part of the proof of handoverLater_holds. Conditions: none. -/
import Derived.Test.YteljjchaealkoaaLte
section
namespace Px
open Go
set_option linter.unusedVariables false
set_option linter.unusedSimpArgs false
def gapW (a b : zf) : Int := max2 (W (a.fItem.fFrom - b.fItem.fFrom)) (W (b.fItem.fFrom - a.fItem.fFrom))
theorem zs2 (φ : Nat) (a b : zf) : z7y φ a b = some (gapW a b) := rfl
def unf5 (l : List zf) (used : List (Int × Bool)) (i k : Int) : Bool :=
  (((((mget used k).getD false) || ((gt l k).fRef.fRailway != (gt l i).fItem.fOther)) || ((gt l k).fItem.fOther != (gt l i).fRef.fRailway)) || ((gt l k).fItem.fWagon != (gt l i).fItem.fWagon)) || ((gt l k).fItem.fPlace != (gt l i).fItem.fPlace)
def zaf (l : List zf) (used : List (Int × Bool)) (i k : Int) : Bool := unf5 l used i k || decide (60 < gapW (gt l i) (gt l k))
def betC (l : List zf) (i b k : Int) : Int := orI [cmpI (gapW (gt l i) (gt l b)) (gapW (gt l i) (gt l k)), refC (gt l b).fRef (gt l k).fRef]
def z8c (l : List zf) (used : List (Int × Bool)) (i b k : Int) : Int :=
  if zaf l used i k = true then b else if (decide (0 ≤ b) && decide (betC l i b k ≤ 0)) = true then b else k
def z6g (l : List zf) (used : List (Int × Bool)) (i : Int) (rs : List Int) : Int := rs.foldl (z8c l used i) (-1)
theorem zm3 (φ : Nat) (hφ : 4 < φ) (l : List zf) (rs ds : List Int) (d : Int) (used : List (Int × Bool)) (k : Int → Option (List (Nat → Int))) (hl : rs.length ≤ 100000) (hr : ∀ z ∈ rs, 0 ≤ z ∧ z < (l.length : Int)) (hφ2 : rs.length < φ) :
    z0s φ l rs ds d used k φ (-1) 0 = k (z6g l used (gt ds d) rs) := by
  refine z74 (fun n j s => z0s φ l rs ds d used k n s j) rs.length (fun j s => s = (rs.take j).foldl (z8c l used (gt ds d)) (-1) ∧ (0 ≤ s → s < (l.length : Int)))
    (fun o => o = k (z6g l used (gt ds d) rs)) ?_ ?_ φ (-1) ⟨by simp, by omega⟩ hφ2
  · intro n j s hj ⟨hs, hin⟩ hk
    have hz := hr _ (z91 (l := rs) (i := (j : Int)) (by omega) (by omega))
    have hnext : (rs.take (j + 1)).foldl (z8c l used (gt ds d)) (-1) = z8c l used (gt ds d) s (gt rs (j : Int)) := by
      rw [z7x rs j hj, List.foldl_append, ← hs]; rfl
    have w : W ((j : Int) + 1) = (j : Int) + 1 := W_id (by omega) (by omega)
    rw [z0s, if_pos (by simp; omega), z06 ⟨by omega, by omega⟩, z06 hz]
    simp only [Item.eta', zf.eta', zs2, z4o, w]
    have hu5 : (((((mget used (gt rs (j : Int))).getD false) || ((gt l (gt rs (j : Int))).fRef.fRailway != (gt l (gt ds d)).fItem.fOther)) || ((gt l (gt rs (j : Int))).fItem.fOther != (gt l (gt ds d)).fRef.fRailway)) || ((gt l (gt rs (j : Int))).fItem.fWagon != (gt l (gt ds d)).fItem.fWagon) || ((gt l (gt rs (j : Int))).fItem.fPlace != (gt l (gt ds d)).fItem.fPlace)) = unf5 l used (gt ds d) (gt rs (j : Int)) := rfl
    rw [hu5]
    have hun : zaf l used (gt ds d) (gt rs (j : Int)) = (unf5 l used (gt ds d) (gt rs (j : Int)) || decide (60 < gapW (gt l (gt ds d)) (gt l (gt rs (j : Int))))) := rfl
    have htail : ∀ (b : Bool), b = zaf l used (gt ds d) (gt rs (j : Int)) →
        (if b = true then z0s φ l rs ds d used k n s ((j : Int) + 1) else
          ck ((decide (0 ≤ s) = true) → ((0 : Int) ≤ s ∧ s < (l.length : Int))) ((z5l (decide (0 ≤ s) = true) (some (gapW (gt l (gt ds d)) (gt l s)))).bind fun y103 => ((z5l (decide (0 ≤ s) = true) (some (gapW (gt l (gt ds d)) (gt l (gt rs (j : Int)))))).bind fun y107 => ((z5l (decide (0 ≤ s) = true) (z5k φ y103 y107)).bind fun y109 => ((z5l (decide (0 ≤ s) = true) (z40 φ ((gt l s).fRef) ((gt l (gt rs (j : Int))).fRef))).bind fun y118 => ((z5l (decide (0 ≤ s) = true) (zc5 φ [y109, y118])).bind fun y125 =>
            (if (decide (0 ≤ s) && decide (y125 ≤ 0)) = true then z0s φ l rs ds d used k n s ((j : Int) + 1) else z0s φ l rs ds d used k n (gt rs (j : Int)) ((j : Int) + 1)))))))) = k (z6g l used (gt ds d) rs) := by
      intro b hb
      cases b with
      | true =>
        rw [if_pos rfl]
        have e : z8c l used (gt ds d) s (gt rs (j : Int)) = s := by unfold z8c; rw [if_pos hb.symm]
        exact hk s ⟨by rw [hnext, e], hin⟩
      | false =>
        rw [if_neg (by simp)]
        by_cases q : 0 ≤ s
        · rw [z06 (fun _ => ⟨q, hin q⟩)]
          simp only [zfc (show decide (0 ≤ s) = true by simp [q]), Option.bind_some, z8q, zgw φ (by omega : 3 < φ)]
          rw [zcx φ _ (by simp) (by simp; omega)]
          simp only [Option.bind_some]
          have hb2 : orI [cmpI (gapW (gt l (gt ds d)) (gt l s)) (gapW (gt l (gt ds d)) (gt l (gt rs (j : Int)))), refC (gt l s).fRef (gt l (gt rs (j : Int))).fRef] = betC l (gt ds d) s (gt rs (j : Int)) := rfl
          rw [hb2]
          split
          · rename_i h
            have e : z8c l used (gt ds d) s (gt rs (j : Int)) = s := by unfold z8c; rw [← hb, if_neg (by simp), if_pos h]
            exact hk s ⟨by rw [hnext, e], hin⟩
          · rename_i h
            have e : z8c l used (gt ds d) s (gt rs (j : Int)) = gt rs (j : Int) := by unfold z8c; rw [← hb, if_neg (by simp), if_neg h]
            exact hk _ ⟨by rw [hnext, e], fun _ => hz.2⟩
        · rw [z06 (fun h => absurd (by simpa using h) q)]
          simp only [zip (show ¬ decide (0 ≤ s) = true by simpa using q), Option.bind_some]
          have h : ¬ (decide (0 ≤ s) && decide (betC l (gt ds d) s (gt rs (j : Int)) ≤ 0)) = true := by simp [q]
          have e : z8c l used (gt ds d) s (gt rs (j : Int)) = gt rs (j : Int) := by unfold z8c; rw [← hb, if_neg (by simp), if_neg h]
          rw [if_neg (by simp [q])]
          exact hk _ ⟨by rw [hnext, e], fun _ => hz.2⟩
    cases h5 : unf5 l used (gt ds d) (gt rs (j : Int)) with
    | true =>
      rw [zip (by simp)]
      simp only [Option.bind_some, Bool.true_or]
      exact htail true (by rw [hun, h5]; rfl)
    | false =>
      rw [zfc rfl]
      simp only [Option.bind_some, Bool.false_or]
      exact htail _ (by rw [hun, h5]; rfl)
  · intro n s ⟨hs, _⟩
    rw [List.take_length] at hs
    rw [z0s, if_neg (by simp), hs]
    rfl
end Px
end
section
namespace Px
open Go
set_option linter.unusedVariables false
set_option linter.unusedSimpArgs false
set_option maxHeartbeats 1000000
section
theorem zk8 (φ : Nat) (P Z Q : List Int) (c : Nat) : ∀ (n : Nat) (X1 X2 Y1 Y2 : List Int), X1.length = Y1.length → X2.length = Y2.length → c = X1.length + X2.length → P.length + c + Z.length + c + Q.length ≤ 1000000 → X2.length < n →
    z0z φ (P.length : Int) ((P.length : Int) + c + Z.length) (c : Int) n (X1.length : Int) (P ++ Y1 ++ X2 ++ Z ++ X1 ++ Y2 ++ Q) = some (P ++ Y1 ++ Y2 ++ Z ++ X1 ++ X2 ++ Q) := by
  intro n
  induction n with
  | zero => intro X1 X2 Y1 Y2 _ _ _ _ h; omega
  | succ n ih =>
    intro X1 X2 Y1 Y2 h1 h2 hc hl hn
    cases X2 with
    | nil =>
      have : Y2 = [] := List.eq_nil_of_length_eq_zero (by simpa using h2.symm)
      subst this
      simp only [List.length_nil, Nat.add_zero] at hc
      rw [z0z, if_neg (by simp; omega)]
    | cons x X2 =>
      cases Y2 with
      | nil => simp at h2
      | cons w Y2 =>
        simp only [List.length_cons, Nat.add_right_cancel_iff] at h2 hc hn
        have w1 : W ((P.length : Int) + c + Z.length + X1.length) = (P.length : Int) + c + Z.length + X1.length := W_id (by omega) (by omega)
        have w2 : W ((P.length : Int) + X1.length) = (P.length : Int) + X1.length := W_id (by omega) (by omega)
        have w3 : W ((X1.length : Int) + 1) = (X1.length : Int) + 1 := W_id (by omega) (by omega)
        have e1 : P ++ Y1 ++ x :: X2 ++ Z ++ X1 ++ w :: Y2 ++ Q = (P ++ Y1) ++ x :: (X2 ++ Z ++ X1 ++ w :: Y2 ++ Q) := by simp
        have e2 : P ++ Y1 ++ x :: X2 ++ Z ++ X1 ++ w :: Y2 ++ Q = (P ++ Y1 ++ x :: X2 ++ Z ++ X1) ++ w :: (Y2 ++ Q) := by simp
        have g1 : gt (P ++ Y1 ++ x :: X2 ++ Z ++ X1 ++ w :: Y2 ++ Q) ((P.length : Int) + X1.length) = x := by rw [e1]; exact z71 (by simp; omega)
        have g2 : gt (P ++ Y1 ++ x :: X2 ++ Z ++ X1 ++ w :: Y2 ++ Q) ((P.length : Int) + c + Z.length + X1.length) = w := by rw [e2]; exact z71 (by simp; omega)
        have s1 : z2x (P ++ Y1 ++ x :: X2 ++ Z ++ X1 ++ w :: Y2 ++ Q) ((P.length : Int) + X1.length) w = (P ++ Y1) ++ w :: (X2 ++ Z ++ X1 ++ w :: Y2 ++ Q) := by rw [e1]; exact z90 (by simp; omega)
        have e3 : (P ++ Y1) ++ w :: (X2 ++ Z ++ X1 ++ w :: Y2 ++ Q) = (P ++ Y1 ++ w :: X2 ++ Z ++ X1) ++ w :: (Y2 ++ Q) := by simp
        have s2 : z2x ((P ++ Y1 ++ w :: X2 ++ Z ++ X1) ++ w :: (Y2 ++ Q)) ((P.length : Int) + c + Z.length + X1.length) x = (P ++ Y1 ++ w :: X2 ++ Z ++ X1) ++ x :: (Y2 ++ Q) := z90 (by simp; omega)
        have e4 : (P ++ Y1 ++ w :: X2 ++ Z ++ X1) ++ x :: (Y2 ++ Q) = P ++ (Y1 ++ [w]) ++ X2 ++ Z ++ (X1 ++ [x]) ++ Y2 ++ Q := by simp
        have hlen : ((P ++ Y1 ++ x :: X2 ++ Z ++ X1 ++ w :: Y2 ++ Q).length : Int) = P.length + c + Z.length + c + Q.length := by simp; omega
        have hlen2 : (((P ++ Y1 ++ w :: X2 ++ Z ++ X1) ++ w :: (Y2 ++ Q)).length : Int) = P.length + c + Z.length + c + Q.length := by simp; omega
        rw [z0z, if_pos (by simp; omega), w1, w2, w3, g1, g2, s1, e3, s2, e4, hlen, hlen2]
        rw [z06 ⟨by omega, by omega⟩, z06 ⟨by omega, by omega⟩, z06 ⟨by omega, by omega⟩]
        have := ih (X1 ++ [x]) X2 (Y1 ++ [w]) Y2 (by simp [h1]) h2 (by simp; omega) hl (by omega)
        have e5 : (((X1 ++ [x]).length : Nat) : Int) = (X1.length : Int) + 1 := by simp
        rw [e5] at this
        rw [this]
        simp
theorem zet (φ : Nat) (P X Z Y Q : List Int) (y : Int → Int → Option Int) (h : X.length = Y.length) (hl : P.length + X.length + Z.length + X.length + Q.length ≤ 1000000) (hφ : X.length < φ) :
    z1s φ (P ++ X ++ Z ++ Y ++ Q) (P.length : Int) ((P.length : Int) + X.length + Z.length) (X.length : Int) y = some (P ++ Y ++ Z ++ X ++ Q) := by
  have := zk8 φ P Z Q X.length φ [] X [] Y rfl h (by simp) hl hφ
  simpa [z1s] using this
theorem zli (φ : Nat) (y : Int → Int → Option Int) : ∀ (n : Nat) (P X Y Q : List Int), X ≠ [] → Y ≠ [] → P.length + X.length + Y.length + Q.length ≤ 1000000 → X.length + Y.length ≤ n → X.length + Y.length < φ →
    z16 φ ((P.length : Int) + X.length) y (z1c φ ((P.length : Int) + X.length) y) n (X.length : Int) (Y.length : Int) (P ++ X ++ Y ++ Q) = some (P ++ Y ++ X ++ Q) := by
  intro n
  induction n with
  | zero => intro P X Y Q hX hY _ h; have := List.length_pos_iff.2 hX; omega
  | succ n ih =>
    intro P X Y Q hX hY hl hn hφ
    have hX0 := List.length_pos_iff.2 hX
    have hY0 := List.length_pos_iff.2 hY
    have w1 : W ((P.length : Int) + X.length - X.length) = (P.length : Int) := by rw [W_id (by omega) (by omega)]; omega
    rw [z16, w1]
    by_cases he : X.length = Y.length
    · rw [if_neg (by simp [he])]
      unfold z1c
      rw [w1]
      have := zet φ P X [] Y Q y he (by simp; omega) (by omega)
      simp only [List.append_nil, List.length_nil, Int.ofNat_zero, Int.add_zero] at this
      rw [this]; rfl
    · rw [if_pos (by simp; omega)]
      by_cases hlt : Y.length < X.length
      · rw [if_pos (by simp; omega)]
        obtain ⟨X1, X2, rfl, h1⟩ : ∃ X1 X2, X = X1 ++ X2 ∧ X1.length = Y.length := ⟨X.take Y.length, X.drop Y.length, (List.take_append_drop _ _).symm, by simp; omega⟩
        simp only [List.length_append] at hl hn hφ hlt hX0 he
        have e1 : P ++ (X1 ++ X2) ++ Y ++ Q = P ++ X1 ++ X2 ++ Y ++ Q := by simp
        have e2 : (P.length : Int) + ((X1 ++ X2).length : Nat) = (P.length : Int) + X1.length + X2.length := by simp; omega
        rw [e1, e2, ← h1, zet φ P X1 X2 Y Q y h1 (by omega) (by omega)]
        simp only [Option.bind_some]
        have w2 : W (((X1 ++ X2).length : Int) - X1.length) = (X2.length : Int) := by simp; rw [W_id (by omega) (by omega)]; omega
        rw [w2]
        have := ih (P ++ Y) X2 X1 Q (by intro e; subst e; simp at hlt; omega) (by intro e; subst e; simp at h1; omega) (by simp; omega) (by omega) (by omega)
        have e3 : (((P ++ Y).length : Nat) : Int) + X2.length = (P.length : Int) + X1.length + X2.length := by simp; omega
        rw [e3] at this
        rw [this]
        simp
      · rw [if_neg (by simp; omega)]
        obtain ⟨Y1, Y2, rfl, h1⟩ : ∃ Y1 Y2, Y = Y1 ++ Y2 ∧ Y2.length = X.length := ⟨Y.take (Y.length - X.length), Y.drop (Y.length - X.length), (List.take_append_drop _ _).symm, by simp; omega⟩
        simp only [List.length_append] at hl hn hφ hlt hY0 he
        have e1 : P ++ X ++ (Y1 ++ Y2) ++ Q = P ++ X ++ Y1 ++ Y2 ++ Q := by simp
        have w3 : W ((P.length : Int) + X.length + ((Y1 ++ Y2).length : Nat)) = (P.length : Int) + X.length + Y1.length + Y2.length := by simp; rw [W_id (by omega) (by omega)]; omega
        have w4 : W ((P.length : Int) + X.length + Y1.length + Y2.length - X.length) = (P.length : Int) + X.length + Y1.length := by rw [W_id (by omega) (by omega)]; omega
        have w5 : W (((Y1 ++ Y2).length : Int) - X.length) = (Y1.length : Int) := by simp; rw [W_id (by omega) (by omega)]; omega
        rw [e1, w3, w4, w5, zet φ P X Y1 Y2 Q y h1.symm (by omega) (by omega)]
        simp only [Option.bind_some]
        have := ih P Y2 Y1 (X ++ Q) (by intro e; subst e; simp at h1; omega) (by intro e; subst e; simp at h1 hlt he; omega) (by simp; omega) (by omega) (by omega)
        rw [h1] at this
        have e2 : P ++ Y2 ++ Y1 ++ X ++ Q = P ++ Y2 ++ Y1 ++ (X ++ Q) := by simp
        rw [e2, this]
        simp
theorem zir (φ : Nat) (P X Y Q : List Int) (y : Int → Int → Option Int) (hX : X ≠ []) (hY : Y ≠ []) (hl : P.length + X.length + Y.length + Q.length ≤ 1000000) (hφ : X.length + Y.length < φ) :
    z44 φ (P ++ X ++ Y ++ Q) (P.length : Int) ((P.length : Int) + X.length) ((P.length : Int) + X.length + Y.length) y = some (P ++ Y ++ X ++ Q) := by
  have := zli φ y φ P X Y Q hX hY hl (by omega) hφ
  rw [← this]
  unfold z44
  have w1 : W ((P.length : Int) + X.length - P.length) = (X.length : Int) := by rw [W_id (by omega) (by omega)]; omega
  have w2 : W ((P.length : Int) + X.length + Y.length - ((P.length : Int) + X.length)) = (Y.length : Int) := by rw [W_id (by omega) (by omega)]; omega
  rw [w1, w2]
end
end Px
end
section
namespace Px
open Go
set_option linter.unusedVariables false
set_option linter.unusedSimpArgs false
set_option maxHeartbeats 2000000
section
variable {D : Int → Prop} {lt : Int → Int → Bool} {y : Int → Int → Option Int}
theorem zhe (φ : Nat) (k : List Int → Option (List Int)) (x : Int) : ∀ (n : Nat) (P C E : List Int), P.length + C.length + E.length ≤ 999999 → C.length < n →
    z1h φ ((P.length : Int) + C.length + 1) k n (P.length : Int) (P ++ x :: (C ++ E)) = k (P ++ C ++ x :: E) := by
  intro n
  induction n with
  | zero => intro P C E _ h; omega
  | succ n ih =>
    intro P C E hl hn
    have w0 : W ((P.length : Int) + C.length + 1 - 1) = (P.length : Int) + C.length := by rw [W_id (by omega) (by omega)]; omega
    rw [z1h, w0]
    cases C with
    | nil => rw [if_neg (by simp)]; simp
    | cons w C =>
      simp only [List.length_cons] at hl hn
      have w1 : W ((P.length : Int) + 1) = (P.length : Int) + 1 := W_id (by omega) (by omega)
      have e1 : P ++ x :: (w :: C ++ E) = (P ++ [x]) ++ w :: (C ++ E) := by simp
      have g1 : gt (P ++ x :: (w :: C ++ E)) (P.length : Int) = x := z71 rfl
      have g2 : gt (P ++ x :: (w :: C ++ E)) ((P.length : Int) + 1) = w := by rw [e1]; exact z71 (by simp)
      have s1 : z2x (P ++ x :: (w :: C ++ E)) (P.length : Int) w = P ++ w :: (w :: C ++ E) := z90 rfl
      have e2 : P ++ w :: (w :: C ++ E) = (P ++ [w]) ++ w :: (C ++ E) := by simp
      have s2 : z2x ((P ++ [w]) ++ w :: (C ++ E)) ((P.length : Int) + 1) x = (P ++ [w]) ++ x :: (C ++ E) := z90 (by simp)
      have hlen : ((P ++ x :: (w :: C ++ E)).length : Int) = P.length + C.length + E.length + 2 := by simp; omega
      have hlen2 : (((P ++ [w]) ++ w :: (C ++ E)).length : Int) = P.length + C.length + E.length + 2 := by simp; omega
      rw [if_pos (by simp; omega), w1, g1, g2, s1, e2, s2, hlen, hlen2, z06 ⟨by omega, by omega⟩, z06 ⟨by omega, by omega⟩, z06 ⟨by omega, by omega⟩]
      have := ih (P ++ [w]) C E (by simp; omega) (by omega)
      have e3 : (((P ++ [w]).length : Nat) : Int) = (P.length : Int) + 1 := by simp
      have e4 : (P.length : Int) + ((w :: C).length : Nat) + 1 = (P.length : Int) + 1 + C.length + 1 := by simp; omega
      rw [e3] at this
      rw [e4, this]
      simp
theorem zfv (φ : Nat) (k : List Int → Option (List Int)) (x : Int) (P : List Int) : ∀ (n : Nat) (C E : List Int), P.length + C.length + E.length ≤ 999999 → C.length < n →
    z1f φ (P.length : Int) k n ((P.length : Int) + C.length) (P ++ C ++ x :: E) = k (P ++ x :: (C ++ E)) := by
  intro n
  induction n with
  | zero => intro C E _ h; omega
  | succ n ih =>
    intro C E hl hn
    rw [z1f]
    rcases z6f C with rfl | ⟨S, z, rfl⟩
    · rw [if_neg (by simp)]; simp
    · simp only [List.length_append, List.length_cons, List.length_nil] at hl hn
      have w1 : W ((P.length : Int) + ((S ++ [z]).length : Nat) - 1) = (P.length : Int) + S.length := by
        rw [W_id (by simp; omega) (by simp; omega)]; simp; omega
      have e1 : P ++ (S ++ [z]) ++ x :: E = (P ++ S ++ [z]) ++ x :: E := by simp
      have e2 : P ++ (S ++ [z]) ++ x :: E = (P ++ S) ++ z :: (x :: E) := by simp
      have g1 : gt (P ++ (S ++ [z]) ++ x :: E) ((P.length : Int) + ((S ++ [z]).length : Nat)) = x := by rw [e1]; exact z71 (by simp <;> omega)
      have g2 : gt (P ++ (S ++ [z]) ++ x :: E) ((P.length : Int) + S.length) = z := by rw [e2]; exact z71 (by simp)
      have s1 : z2x (P ++ (S ++ [z]) ++ x :: E) ((P.length : Int) + ((S ++ [z]).length : Nat)) z = (P ++ S) ++ z :: (z :: E) := by rw [e1, z90 (by simp <;> omega)]; simp
      have s2 : z2x ((P ++ S) ++ z :: (z :: E)) ((P.length : Int) + S.length) x = P ++ S ++ x :: (z :: E) := z90 (by simp)
      have hlen : ((P ++ (S ++ [z]) ++ x :: E).length : Int) = P.length + S.length + E.length + 2 := by simp; omega
      have hlen2 : (((P ++ S) ++ z :: (z :: E)).length : Int) = P.length + S.length + E.length + 2 := by simp; omega
      rw [if_pos (by simp; omega), w1, g1, g2, s1, s2, hlen, hlen2, z06 ⟨by omega, by omega⟩, z06 ⟨by omega, by simp; omega⟩, z06 ⟨by omega, by omega⟩]
      rw [ih S (z :: E) (by simp; omega) (by omega)]
      simp
/-- One element before a sorted list. -/
theorem zeo (hs : Swo lt) (hy : Cmp D y lt) (φ : Nat) (P L Q : List Int) (x : Int) (hx : D x) (hD : ∀ z ∈ L, D z) (hS : Srt lt L) (hl : P.length + L.length + Q.length ≤ 999998) (hφ : P.length + L.length + 2 < φ) :
    ∃ R, Srt lt R ∧ Stb lt (x :: L) R ∧ z05 φ (P ++ x :: (L ++ Q)) (P.length : Int) y (z02 φ (P ++ x :: (L ++ Q)) (P.length : Int)) φ ((P.length : Int) + 1) ((P.length : Int) + 1 + L.length) = some (P ++ R ++ Q) := by
  have gx : gt (P ++ x :: (L ++ Q)) (P.length : Int) = x := z71 rfl
  have hlen : ((P ++ x :: (L ++ Q)).length : Int) = P.length + L.length + Q.length + 1 := by simp; omega
  have gL : ∀ i : Nat, P.length + 1 ≤ i → i < P.length + 1 + L.length → gt (P ++ x :: (L ++ Q)) (i : Int) = gt L ((i - (P.length + 1) : Nat) : Int) := by
    intro i h1 h2
    have e : P ++ x :: (L ++ Q) = (P ++ [x]) ++ (L ++ Q) := by simp
    rw [e, z64 _ _ _ (by simp; omega), z7a _ _ _ (by simp; omega) (by simp; omega)]
    congr 1; simp; omega
  obtain ⟨c, h1, h2, h3, h4, h5⟩ := zdj (z05 φ (P ++ x :: (L ++ Q)) (P.length : Int) y (z02 φ (P ++ x :: (L ++ Q)) (P.length : Int)))
    (z02 φ (P ++ x :: (L ++ Q)) (P.length : Int)) (fun h => lt (gt (P ++ x :: (L ++ Q)) (h : Int)) x) (P.length + 1 + L.length) (P.length + 1)
    (by
      intro n s r h0 hlt hR
      have hm : (W ((U (W ((s : Int) + r))).fdiv 2)) = (((s + r) / 2 : Nat) : Int) := by rw [zfp (by omega) (by omega)]; omega
      have hm1 : W ((((s + r) / 2 : Nat) : Int) + 1) = (((s + r) / 2 + 1 : Nat) : Int) := by rw [W_id (by omega) (by omega)]; simp
      obtain ⟨w, hw1, hw2⟩ := hy (gt (P ++ x :: (L ++ Q)) (((s + r) / 2 : Nat) : Int)) x (by
        rw [gL _ (by omega) (by omega)]; exact hD _ (z91 (by omega) (by omega))) hx
      rw [z05, if_pos (by simp; omega), hm, hm1, hlen, gx, z06 ⟨by omega, by omega⟩, z06 ⟨by omega, by omega⟩, hw1]
      simp only [Option.bind_some, hw2])
    (by
      intro n s
      rw [z05, if_neg (by simp)]) φ (P.length + 1) (P.length + 1 + L.length) (Nat.le_refl _) (by omega) (Nat.le_refl _) (by omega)
  obtain ⟨C, E, rfl, hC⟩ : ∃ C E, L = C ++ E ∧ C.length = c - (P.length + 1) := ⟨L.take (c - (P.length + 1)), L.drop (c - (P.length + 1)), (List.take_append_drop _ _).symm, by simp; omega⟩
  simp only [List.length_append] at hl hφ h2 gL
  have hCx : ∀ z ∈ C, lt z x = true := by
    intro z hz
    rcases z6f C with rfl | ⟨S, w, rfl⟩
    · cases hz
    · simp only [List.length_append, List.length_cons, List.length_nil] at hC hz hS gL h2
      have hp : lt w x = true := by
        rcases h3 with h3 | h3
        · omega
        · rw [gL _ (by omega) (by omega)] at h3
          have e : S ++ [w] ++ E = S ++ w :: E := by simp
          rw [e, z71 (by omega)] at h3
          exact h3
      rcases List.mem_append.1 hz with h | h
      · exact z9b hs (hS.parts.1.parts.2.2 z h w (by simp)) hp (hs.irr x)
      · simp at h; rw [h]; exact hp
  have hEx : ∀ z ∈ E, lt z x = false := by
    intro z hz
    cases E with
    | nil => cases hz
    | cons w E =>
      simp only [List.length_cons] at h2 gL h4
      have hp : lt w x = false := by
        rcases h4 with h4 | h4
        · simp at h4; omega
        · rw [gL _ (by omega) (by omega), z71 (by omega)] at h4
          exact h4
      rcases List.mem_cons.1 hz with h | h
      · rw [h]; exact hp
      · exact hs.ntr _ _ _ ((List.pairwise_cons.1 hS.parts.2.1).1 z h) hp
  have hm := z8h hs (A := []) (B := [x]) (C := C) (E := E) (R1 := C) (R2 := x :: E) (List.pairwise_singleton _ _) hS (by simpa using hCx) (by simp) hS.parts.1 (by simpa using Stb.refl C) (List.pairwise_cons.2 ⟨hEx, hS.parts.2.1⟩) (by simpa using Stb.refl (x :: E))
  refine ⟨C ++ x :: E, hm.1, by simpa using hm.2, ?_⟩
  have e5 : ((P.length : Int) + 1 + ((C ++ E).length : Nat)) = ((P.length + 1 + (C ++ E).length : Nat) : Int) := by simp
  have e6 : ((P.length : Int) + 1) = ((P.length + 1 : Nat) : Int) := by simp
  rw [e5, e6, h5]
  unfold z02
  have e7 : (c : Int) = (P.length : Int) + C.length + 1 := by omega
  have e8 : P ++ x :: (C ++ E ++ Q) = P ++ x :: (C ++ (E ++ Q)) := by simp
  rw [e7, e8, zhe φ _ x φ P C (E ++ Q) (by simp; omega) (by omega)]
  simp [z1g]
/-- A sorted list before one element. -/
theorem zfm (hs : Swo lt) (hy : Cmp D y lt) (φ : Nat) (P L Q : List Int) (x : Int) (hx : D x) (hD : ∀ z ∈ L, D z) (hS : Srt lt L) (hl : P.length + L.length + Q.length ≤ 999998) (hφ : P.length + L.length + 2 < φ) :
    ∃ R, Srt lt R ∧ Stb lt (L ++ [x]) R ∧ z01 φ (P ++ L ++ x :: Q) ((P.length : Int) + L.length) y (z03 φ (P ++ L ++ x :: Q) ((P.length : Int) + L.length)) φ (P.length : Int) ((P.length : Int) + L.length) = some (P ++ R ++ Q) := by
  have gx : gt (P ++ L ++ x :: Q) ((P.length : Int) + L.length) = x := z71 (by simp)
  have hlen : ((P ++ L ++ x :: Q).length : Int) = P.length + L.length + Q.length + 1 := by simp; omega
  have gL : ∀ i : Nat, P.length ≤ i → i < P.length + L.length → gt (P ++ L ++ x :: Q) (i : Int) = gt L ((i - P.length : Nat) : Int) := by
    intro i h1 h2
    rw [List.append_assoc, z64 _ _ _ (by omega), z7a _ _ _ (by omega) (by omega)]
    congr 1; omega
  obtain ⟨c, h1, h2, h3, h4, h5⟩ := zdj (z01 φ (P ++ L ++ x :: Q) ((P.length : Int) + L.length) y (z03 φ (P ++ L ++ x :: Q) ((P.length : Int) + L.length)))
    (z03 φ (P ++ L ++ x :: Q) ((P.length : Int) + L.length)) (fun h => !lt x (gt (P ++ L ++ x :: Q) (h : Int))) (P.length + L.length) P.length
    (by
      intro n s r h0 hlt hR
      have hm : (W ((U (W ((s : Int) + r))).fdiv 2)) = (((s + r) / 2 : Nat) : Int) := by rw [zfp (by omega) (by omega)]; omega
      have hm1 : W ((((s + r) / 2 : Nat) : Int) + 1) = (((s + r) / 2 + 1 : Nat) : Int) := by rw [W_id (by omega) (by omega)]; simp
      obtain ⟨w, hw1, hw2⟩ := hy x (gt (P ++ L ++ x :: Q) (((s + r) / 2 : Nat) : Int)) hx (by
        rw [gL _ (by omega) (by omega)]; exact hD _ (z91 (by omega) (by omega)))
      rw [z01, if_pos (by simp; omega), hm, hm1, hlen, gx, z06 ⟨by omega, by omega⟩, z06 ⟨by omega, by omega⟩, hw1]
      simp only [Option.bind_some, hw2])
    (by
      intro n s
      rw [z01, if_neg (by simp)]) φ P.length (P.length + L.length) (Nat.le_refl _) (by omega) (Nat.le_refl _) (by omega)
  obtain ⟨A, B, rfl, hC⟩ : ∃ A B, L = A ++ B ∧ A.length = c - P.length := ⟨L.take (c - P.length), L.drop (c - P.length), (List.take_append_drop _ _).symm, by simp; omega⟩
  simp only [List.length_append] at hl hφ h2 gL
  have hA : ∀ z ∈ A, lt x z = false := by
    intro z hz
    rcases z6f A with rfl | ⟨S, w, rfl⟩
    · cases hz
    · simp only [List.length_append, List.length_cons, List.length_nil] at hC hz hS gL h2
      have hp : lt x w = false := by
        rcases h3 with h3 | h3
        · omega
        · rw [gL _ (by omega) (by omega)] at h3
          have e : S ++ [w] ++ B = S ++ w :: B := by simp
          rw [e, z71 (by omega)] at h3
          simpa using h3
      rcases List.mem_append.1 hz with h | h
      · exact hs.ntr _ _ _ hp (hS.parts.1.parts.2.2 z h w (by simp))
      · simp at h; rw [h]; exact hp
  have hB : ∀ z ∈ B, lt x z = true := by
    intro z hz
    cases B with
    | nil => cases hz
    | cons w B =>
      simp only [List.length_cons] at h2 gL h4
      have hp : lt x w = true := by
        rcases h4 with h4 | h4
        · simp at h4; omega
        · rw [gL _ (by omega) (by omega), z71 (by omega)] at h4
          simpa using h4
      rcases List.mem_cons.1 hz with h | h
      · rw [h]; exact hp
      · exact z9b hs (hs.irr x) hp ((List.pairwise_cons.1 hS.parts.2.1).1 z h)
  have hm := z8h hs (A := A) (B := B) (C := [x]) (E := []) (R1 := A ++ [x]) (R2 := B) hS (by rw [List.append_nil]; exact List.pairwise_singleton _ x) (by simpa using hB) (by simp)
    (hS.parts.1.app (List.pairwise_singleton _ _) (by simpa using hA)) (Stb.refl _) hS.parts.2.1 (by simpa using Stb.refl B)
  refine ⟨A ++ [x] ++ B, hm.1, by simpa using hm.2, ?_⟩
  have e5 : ((P.length : Int) + ((A ++ B).length : Nat)) = ((P.length + (A ++ B).length : Nat) : Int) := by simp
  rw [e5] at h5 ⊢
  rw [h5]
  unfold z03
  have e7 : (c : Int) = (((P ++ A).length : Nat) : Int) := by simp; omega
  have e8 : P ++ (A ++ B) ++ x :: Q = (P ++ A) ++ B ++ x :: Q := by simp
  have e9 : ((P.length + (A ++ B).length : Nat) : Int) = (((P ++ A).length : Nat) : Int) + B.length := by simp; omega
  rw [e7, e8, e9, zfv φ _ x (P ++ A) φ B Q (by simp; omega) (by omega)]
  simp [z1e]
end
end Px
end
section
namespace Px
open Go
set_option linter.unusedVariables false
set_option linter.unusedSimpArgs false
set_option maxHeartbeats 4000000
section
variable {D : Int → Prop} {lt : Int → Int → Bool} {y : Int → Int → Option Int}
/-- Where the two lists are split. -/
theorem ziw (hs : Swo lt) (hy : Cmp D y lt) (φ : Nat) (P L1 L2 Q : List Int) (k : Int → Option (List Int)) (hD1 : ∀ z ∈ L1, D z) (hD2 : ∀ z ∈ L2, D z) (hS1 : Srt lt L1) (hS2 : Srt lt L2)
    (a m b mid s0 r0 : Nat) (ha : a = P.length) (hm : m = a + L1.length) (hb : b = m + L2.length) (hmid : mid = (a + b) / 2) (hl : b + Q.length ≤ 999998) (hφ : b < φ)
    (h1 : 1 ≤ L1.length) (h2 : 1 ≤ L2.length) (hs0 : (mid < m ∧ s0 = mid + m - b ∧ r0 = mid) ∨ (m ≤ mid ∧ s0 = a ∧ r0 = m)) :
    ∃ A B C E, L1 = A ++ B ∧ L2 = C ++ E ∧ mid + m - (a + A.length) = m + C.length ∧ (∀ x ∈ B, ∀ y ∈ C, lt y x = true) ∧ (∀ x ∈ A, ∀ y ∈ E, lt y x = false) ∧
      z04 φ (P ++ L1 ++ L2 ++ Q) (a : Int) (m : Int) (b : Int) y k φ (s0 : Int) (r0 : Int) = k ((a + A.length : Nat) : Int) := by
  have g1 : ∀ i : Nat, a ≤ i → i < m → gt (P ++ L1 ++ L2 ++ Q) (i : Int) = gt L1 ((i - a : Nat) : Int) := by
    intro i q1 q2
    have e : P ++ L1 ++ L2 ++ Q = P ++ (L1 ++ (L2 ++ Q)) := by simp
    rw [e, z64 _ _ _ (by omega), z7a _ _ _ (by omega) (by omega)]
    congr 1; omega
  have g2 : ∀ i : Nat, m ≤ i → i < b → gt (P ++ L1 ++ L2 ++ Q) (i : Int) = gt L2 ((i - m : Nat) : Int) := by
    intro i q1 q2
    have e : P ++ L1 ++ L2 ++ Q = (P ++ L1) ++ (L2 ++ Q) := by simp
    rw [e, z64 _ _ _ (by simp; omega), z7a _ _ _ (by simp; omega) (by simp; omega)]
    congr 1; simp; omega
  have hlen : ((P ++ L1 ++ L2 ++ Q).length : Int) = b + Q.length := by simp; omega
  have hW : W ((U (W ((a : Int) + b))).fdiv 2) = (mid : Int) := by rw [zfp (by omega) (by omega)]; omega
  have hn : W ((mid : Int) + m) = ((mid + m : Nat) : Int) := by rw [W_id (by omega) (by omega)]; simp
  have hp : W (((mid + m : Nat) : Int) - 1) = ((mid + m - 1 : Nat) : Int) := by rw [W_id (by omega) (by omega)]; omega
  have hmb : mid ≤ b := by omega
  have ham : a ≤ mid := by omega
  obtain ⟨c, h3, h4, h5, h6, h7⟩ := zdj (z04 φ (P ++ L1 ++ L2 ++ Q) (a : Int) (m : Int) (b : Int) y k) k
    (fun c => !lt (gt (P ++ L1 ++ L2 ++ Q) ((mid + m - 1 - c : Nat) : Int)) (gt (P ++ L1 ++ L2 ++ Q) (c : Int))) r0 s0
    (by
      intro n s r q0 hlt hR
      have hm' : (W ((U (W ((s : Int) + r))).fdiv 2)) = (((s + r) / 2 : Nat) : Int) := by rw [zfp (by omega) (by omega)]; omega
      have hm1 : W ((((s + r) / 2 : Nat) : Int) + 1) = (((s + r) / 2 + 1 : Nat) : Int) := by rw [W_id (by omega) (by omega)]; simp
      have hpc : W (((mid + m - 1 : Nat) : Int) - (((s + r) / 2 : Nat) : Int)) = ((mid + m - 1 - (s + r) / 2 : Nat) : Int) := by rw [W_id (by omega) (by omega)]; omega
      obtain ⟨w, hw1, hw2⟩ := hy (gt (P ++ L1 ++ L2 ++ Q) ((mid + m - 1 - (s + r) / 2 : Nat) : Int)) (gt (P ++ L1 ++ L2 ++ Q) (((s + r) / 2 : Nat) : Int))
        (by rw [g2 _ (by omega) (by omega)]; exact hD2 _ (z91 (by omega) (by omega))) (by rw [g1 _ (by omega) (by omega)]; exact hD1 _ (z91 (by omega) (by omega)))
      rw [z04, if_pos (by simp; omega), hm', hm1, hW, hn, hp, hpc, hlen, z06 ⟨by omega, by omega⟩, z06 ⟨by omega, by omega⟩, hw1]
      simp only [Option.bind_some, hw2])
    (by
      intro n s
      rw [z04, if_neg (by simp)]) φ s0 r0 (Nat.le_refl _) (by omega) (Nat.le_refl _) (by omega)
  obtain ⟨A, B, rfl, hA⟩ : ∃ A B, L1 = A ++ B ∧ A.length = c - a := ⟨L1.take (c - a), L1.drop (c - a), (List.take_append_drop _ _).symm, by simp; omega⟩
  obtain ⟨C, E, rfl, hC⟩ : ∃ C E, L2 = C ++ E ∧ C.length = mid - c := ⟨L2.take (mid - c), L2.drop (mid - c), (List.take_append_drop _ _).symm, by simp; omega⟩
  simp only [List.length_append] at hm hb g1 g2
  refine ⟨A, B, C, E, rfl, rfl, by omega, ?_, ?_, ?_⟩
  · intro x hx z hz
    rcases z6f C with rfl | ⟨S, w, rfl⟩
    · cases hz
    · cases B with
      | nil => cases hx
      | cons x0 B =>
        simp only [List.length_append, List.length_cons, List.length_nil] at hC hm hb g1 g2 hA
        have hp : lt w x0 = true := by
          rcases h6 with h6 | h6
          · omega
          · rw [g1 c (by omega) (by omega), g2 (mid + m - 1 - c) (by omega) (by omega)] at h6
            have e : S ++ [w] ++ E = S ++ w :: E := by simp
            rw [e, z71 (by omega), z71 (by omega)] at h6
            simpa using h6
        have hz1 : lt w z = false := by
          rcases List.mem_append.1 hz with h | h
          · exact hS2.parts.1.parts.2.2 z h w (by simp)
          · simp at h; rw [h]; exact hs.irr _
        have hx1 : lt x x0 = false := by
          rcases List.mem_cons.1 hx with h | h
          · rw [h]; exact hs.irr _
          · exact (List.pairwise_cons.1 hS1.parts.2.1).1 x h
        exact z9b hs hz1 hp hx1
  · intro x hx z hz
    rcases z6f A with rfl | ⟨S, w, rfl⟩
    · cases hx
    · cases E with
      | nil => cases hz
      | cons e0 E =>
        simp only [List.length_append, List.length_cons, List.length_nil] at hC hm hb g1 g2 hA
        have hp : lt e0 w = false := by
          rcases h5 with h5 | h5
          · omega
          · have e1 : mid + m - 1 - (c - 1) = mid + m - c := by omega
            rw [e1, g1 (c - 1) (by omega) (by omega), g2 (mid + m - c) (by omega) (by omega)] at h5
            have e : S ++ [w] ++ B = S ++ w :: B := by simp
            rw [e, z71 (by omega), z71 (by omega)] at h5
            simpa using h5
        have hz1 : lt z e0 = false := by
          rcases List.mem_cons.1 hz with h | h
          · rw [h]; exact hs.irr _
          · exact (List.pairwise_cons.1 hS2.parts.2.1).1 z h
        have hx1 : lt w x = false := by
          rcases List.mem_append.1 hx with h | h
          · exact hS1.parts.1.parts.2.2 x h w (by simp)
          · simp at h; rw [h]; exact hs.irr _
        exact zfb hs hz1 hp hx1
  · rw [h7]
    congr 1
    omega
/-- Merging two sorted lists in place. -/
theorem zcb (hs : Swo lt) (hy : Cmp D y lt) : ∀ (φ : Nat) (P L1 L2 Q : List Int), (∀ z ∈ L1, D z) → (∀ z ∈ L2, D z) → Srt lt L1 → Srt lt L2 → L1 ≠ [] → L2 ≠ [] →
    P.length + L1.length + L2.length + Q.length ≤ 999998 → P.length + L1.length + L2.length + (L1.length + L2.length) + 3 < φ →
    ∃ R, Srt lt R ∧ Stb lt (L1 ++ L2) R ∧ z8 φ (P ++ L1 ++ L2 ++ Q) (P.length : Int) ((P.length : Int) + L1.length) ((P.length : Int) + L1.length + L2.length) y = some (P ++ R ++ Q) := by
  intro φ
  induction φ with
  | zero => intro P L1 L2 Q _ _ _ _ _ _ _ h; omega
  | succ φ ih =>
    intro P L1 L2 Q hD1 hD2 hS1 hS2 hn1 hn2 hl hφ
    have hp1 := List.length_pos_iff.2 hn1
    have hp2 := List.length_pos_iff.2 hn2
    rw [z8]
    have w1 : W ((P.length : Int) + L1.length - P.length) = (L1.length : Int) := by rw [W_id (by omega) (by omega)]; omega
    have w2 : W ((P.length : Int) + L1.length + L2.length - ((P.length : Int) + L1.length)) = (L2.length : Int) := by rw [W_id (by omega) (by omega)]; omega
    rw [w1, w2]
    by_cases q1 : L1.length = 1
    · rw [if_pos (by simp [q1])]
      match L1, q1 with
      | [x], _ =>
        obtain ⟨R, r1, r2, r3⟩ := zeo hs hy φ P L2 Q x (hD1 x (by simp)) hD2 hS2 (by simp at hl; omega) (by simp at hφ; omega)
        refine ⟨R, r1, r2, ?_⟩
        rw [← r3]
        simp
    · rw [if_neg (by simp; omega)]
      by_cases q2 : L2.length = 1
      · rw [if_pos (by simp [q2])]
        match L2, q2 with
        | [x], _ =>
          obtain ⟨R, r1, r2, r3⟩ := zfm hs hy φ P L1 Q x (hD2 x (by simp)) hD1 hS1 (by simp at hl; omega) (by simp at hφ; omega)
          refine ⟨R, r1, r2, ?_⟩
          rw [← r3]
          simp
      · rw [if_neg (by simp; omega)]
        obtain ⟨a, ha⟩ : ∃ a, a = P.length := ⟨_, rfl⟩
        obtain ⟨m, hm⟩ : ∃ m, m = a + L1.length := ⟨_, rfl⟩
        obtain ⟨b, hb⟩ : ∃ b, b = m + L2.length := ⟨_, rfl⟩
        obtain ⟨mid, hmid⟩ : ∃ mid, mid = (a + b) / 2 := ⟨_, rfl⟩
        have ea : (P.length : Int) = (a : Int) := by omega
        have em : (P.length : Int) + L1.length = (m : Int) := by omega
        have eb : (P.length : Int) + L1.length + L2.length = (b : Int) := by omega
        rw [eb, em, ea]
        have hW : W ((U (W ((a : Int) + b))).fdiv 2) = (mid : Int) := by rw [zfp (by omega) (by omega)]; omega
        have hn : W ((mid : Int) + m) = ((mid + m : Nat) : Int) := by rw [W_id (by omega) (by omega)]; simp
        rw [hW, hn]
        have key : ∃ s0 r0 : Nat, ((mid < m ∧ s0 = mid + m - b ∧ r0 = mid) ∨ (m ≤ mid ∧ s0 = a ∧ r0 = m)) ∧
            (if decide ((mid : Int) < m) = true then z0f φ (P ++ L1 ++ L2 ++ Q) (a : Int) (m : Int) (b : Int) y (z8 φ) (W (((mid + m : Nat) : Int) - b)) (mid : Int)
              else z0f φ (P ++ L1 ++ L2 ++ Q) (a : Int) (m : Int) (b : Int) y (z8 φ) (a : Int) (m : Int)) =
            z0f φ (P ++ L1 ++ L2 ++ Q) (a : Int) (m : Int) (b : Int) y (z8 φ) (s0 : Int) (r0 : Int) := by
          by_cases q : mid < m
          · refine ⟨mid + m - b, mid, .inl ⟨q, rfl, rfl⟩, ?_⟩
            have : W (((mid + m : Nat) : Int) - b) = ((mid + m - b : Nat) : Int) := by rw [W_id (by omega) (by omega)]; omega
            rw [if_pos (by simp; omega), this]
          · refine ⟨a, m, .inr ⟨by omega, rfl, rfl⟩, ?_⟩
            rw [if_neg (by simp; omega)]
        obtain ⟨s0, r0, hk, e⟩ := key
        rw [e]
        unfold z0f
        obtain ⟨A, B, C, E, rfl, rfl, hc, hA, hB, hL⟩ := ziw hs hy φ P L1 L2 Q (z0g φ (P ++ L1 ++ L2 ++ Q) (a : Int) (m : Int) (b : Int) y (z8 φ)) hD1 hD2 hS1 hS2 a m b mid s0 r0 ha hm hb hmid (by omega) (by omega) (by omega) (by omega) hk
        rw [hL]
        simp only [List.length_append] at hm hb hl hφ hp1 hp2 q1 q2
        have hcm : mid = a + A.length + C.length := by omega
        have hend : W (((mid + m : Nat) : Int) - ((a + A.length : Nat) : Int)) = ((m + C.length : Nat) : Int) := by rw [W_id (by omega) (by omega)]; omega
        have step1 : z0g φ (P ++ (A ++ B) ++ (C ++ E) ++ Q) (a : Int) (m : Int) (b : Int) y (z8 φ) ((a + A.length : Nat) : Int) =
            z0w φ (a : Int) (m : Int) (b : Int) y (z8 φ) ((a + A.length : Nat) : Int) (P ++ A ++ C ++ B ++ E ++ Q) := by
          unfold z0g
          rw [hW, hn, hend]
          by_cases hBC : B = [] ∨ C = []
          · rw [if_neg (by
              rcases hBC with rfl | rfl
              · simp at hm ⊢; omega
              · simp)]
            rcases hBC with rfl | rfl <;> simp
          · obtain ⟨hB0, hC0⟩ := not_or.1 hBC
            have b0 := List.length_pos_iff.2 hB0
            have c0 := List.length_pos_iff.2 hC0
            rw [if_pos (by simp; omega)]
            have := zir φ (P ++ A) B C (E ++ Q) y hB0 hC0 (by simp; omega) (by omega)
            have e1 : P ++ (A ++ B) ++ (C ++ E) ++ Q = P ++ A ++ B ++ C ++ (E ++ Q) := by simp
            have e2 : ((a + A.length : Nat) : Int) = ((P ++ A).length : Nat) := by simp; omega
            have e3 : (m : Int) = ((P ++ A).length : Nat) + (B.length : Int) := by simp; omega
            have e4 : ((m + C.length : Nat) : Int) = ((P ++ A).length : Nat) + (B.length : Int) + C.length := by simp; omega
            rw [e1]
            conv => lhs; rw [e4, e2]; arg 1; rw [e3]
            rw [this]
            simp [ha]
        rw [step1]
        have step2 : ∃ R1, Srt lt R1 ∧ Stb lt (A ++ C) R1 ∧ z0w φ (a : Int) (m : Int) (b : Int) y (z8 φ) ((a + A.length : Nat) : Int) (P ++ A ++ C ++ B ++ E ++ Q) =
            z0v φ (a : Int) (m : Int) (b : Int) y (z8 φ) ((a + A.length : Nat) : Int) (P ++ R1 ++ B ++ E ++ Q) := by
          unfold z0w
          rw [hW]
          by_cases hAC : A = [] ∨ C = []
          · refine ⟨A ++ C, ?_, Stb.refl _, ?_⟩
            · rcases hAC with rfl | rfl
              · simpa using hS2.parts.1
              · simpa using hS1.parts.1
            · rw [if_neg (by
                rcases hAC with rfl | rfl
                · simp
                · simp at hcm ⊢; omega)]
              simp
          · obtain ⟨hA0, hC0⟩ := not_or.1 hAC
            have a0 := List.length_pos_iff.2 hA0
            have c0 := List.length_pos_iff.2 hC0
            obtain ⟨R1, r1, r2, r3⟩ := ih P A C (B ++ E ++ Q) (fun z hz => hD1 z (by simp [hz])) (fun z hz => hD2 z (by simp [hz])) hS1.parts.1 hS2.parts.1 hA0 hC0 (by simp; omega) (by omega)
            refine ⟨R1, r1, r2, ?_⟩
            rw [if_pos (by simp; omega)]
            have e1 : P ++ A ++ C ++ B ++ E ++ Q = P ++ A ++ C ++ (B ++ E ++ Q) := by simp
            have e2 : ((a + A.length : Nat) : Int) = (P.length : Int) + A.length := by simp; omega
            have e3 : (mid : Int) = (P.length : Int) + A.length + C.length := by omega
            rw [e1]
            conv => lhs; arg 1; rw [e3, e2, ← ea]
            rw [r3]
            simp
        obtain ⟨R1, r1, r2, e2⟩ := step2
        rw [e2]
        have hR1 : R1.length = A.length + C.length := by rw [r2.len]; simp
        have step3 : ∃ R2, Srt lt R2 ∧ Stb lt (B ++ E) R2 ∧ z0v φ (a : Int) (m : Int) (b : Int) y (z8 φ) ((a + A.length : Nat) : Int) (P ++ R1 ++ B ++ E ++ Q) = some (P ++ (R1 ++ R2) ++ Q) := by
          unfold z0v
          rw [hW, hn, hend]
          by_cases hBE : B = [] ∨ E = []
          · refine ⟨B ++ E, ?_, Stb.refl _, ?_⟩
            · rcases hBE with rfl | rfl
              · simpa using hS2.parts.2.1
              · simpa using hS1.parts.2.1
            · rw [if_neg (by
                rcases hBE with rfl | rfl
                · simp at hm ⊢; omega
                · simp at hb ⊢; omega)]
              simp
          · obtain ⟨hB0, hE0⟩ := not_or.1 hBE
            have b0 := List.length_pos_iff.2 hB0
            have c0 := List.length_pos_iff.2 hE0
            obtain ⟨R2, p1, p2, p3⟩ := ih (P ++ R1) B E Q (fun z hz => hD1 z (by simp [hz])) (fun z hz => hD2 z (by simp [hz])) hS1.parts.2.1 hS2.parts.2.1 hB0 hE0 (by simp; omega) (by simp; omega)
            refine ⟨R2, p1, p2, ?_⟩
            rw [if_pos (by simp; omega)]
            have e1 : (mid : Int) = ((P ++ R1).length : Nat) := by simp; omega
            have e3 : ((m + C.length : Nat) : Int) = ((P ++ R1).length : Nat) + (B.length : Int) := by simp; omega
            have e4 : (b : Int) = ((P ++ R1).length : Nat) + (B.length : Int) + E.length := by simp; omega
            conv => lhs; arg 1; rw [e4, e3, e1]
            rw [p3]
            simp
        obtain ⟨R2, p1, p2, e3⟩ := step3
        rw [e3]
        have hm' := z8h hs hS1 hS2 hA hB r1 r2 p1 p2
        exact ⟨R1 ++ R2, hm'.1, hm'.2, rfl⟩
end
end Px
end
section
namespace Px
open Go
set_option linter.unusedVariables false
set_option linter.unusedSimpArgs false
set_option maxHeartbeats 1000000
section
variable {D : Int → Prop} {lt : Int → Int → Bool} {y : Int → Int → Option Int}
theorem zid (hy : Cmp D y lt) (φ : Nat) (k : List Int → Option (List Int)) (P : List Int) (x : Int) (hx : D x) : ∀ (n : Nat) (S1 S2 : List Int), (∀ z ∈ S1, D z) → P.length + S1.length + S2.length ≤ 1000000 → S1.length < n →
    ∃ A B, S1 = A ++ B ∧ (∀ z ∈ B, lt x z = true) ∧ (A = [] ∨ ∃ A' z, A = A' ++ [z] ∧ lt x z = false) ∧
      z0a φ (P.length : Int) y k n ((P.length : Int) + S1.length) (P ++ S1 ++ x :: S2) = k (P ++ A ++ x :: (B ++ S2)) := by
  intro n
  induction n with
  | zero => intro S1 S2 _ _ h; omega
  | succ n ih =>
    intro S1 S2 hD hl hn
    rcases List.eq_nil_or_concat S1 with rfl | ⟨S, z, rfl⟩
    · refine ⟨[], [], rfl, by simp, .inl rfl, ?_⟩
      have h0 : decide ((P.length : Int) < (P.length : Int) + (([] : List Int).length : Int)) = false := by simp
      rw [z0a, h0]
      simp [ck, z5l]
    · simp only [List.concat_eq_append] at hD hl hn ⊢
      simp only [List.length_append, List.length_cons, List.length_nil] at hl hn
      have e1 : P ++ (S ++ [z]) ++ x :: S2 = (P ++ S ++ [z]) ++ x :: S2 := by simp
      have e2 : P ++ (S ++ [z]) ++ x :: S2 = (P ++ S) ++ z :: (x :: S2) := by simp
      have g1 : gt (P ++ (S ++ [z]) ++ x :: S2) ((P.length : Int) + ((S ++ [z]).length : Int)) = x := by
        rw [e1]; exact z71 (by simp <;> omega)
      have hw : W ((P.length : Int) + ((S ++ [z]).length : Int) - 1) = (P.length : Int) + S.length := by
        rw [W_id (by simp; omega) (by simp; omega)]; simp; omega
      have g2 : gt (P ++ (S ++ [z]) ++ x :: S2) ((P.length : Int) + (S.length : Int)) = z := by
        rw [e2]; exact z71 (by simp)
      have h0 : decide ((P.length : Int) < (P.length : Int) + ((S ++ [z]).length : Int)) = true := by simp; omega
      have hlen : ((P ++ (S ++ [z]) ++ x :: S2).length : Int) = P.length + S.length + 1 + 1 + S2.length := by simp; omega
      obtain ⟨w, hw1, hw2⟩ := hy x z hx (hD z (by simp))
      have s1 : z2x (P ++ (S ++ [z]) ++ x :: S2) ((P.length : Int) + ((S ++ [z]).length : Int)) z = (P ++ S) ++ z :: (z :: S2) := by
        rw [e1, z90 (by simp <;> omega)]; simp
      have s2 : z2x ((P ++ S) ++ z :: (z :: S2)) ((P.length : Int) + (S.length : Int)) x = P ++ S ++ x :: (z :: S2) := z90 (by simp)
      rw [z0a, hw, h0, g1, g2, hw1, hlen]
      rw [z06 (fun _ => ⟨by omega, by simp; omega⟩), z06 (fun _ => ⟨by omega, by omega⟩), zfc rfl]
      simp only [Option.bind_some, hw2, Bool.true_and]
      cases hlt : lt x z with
      | true =>
        rw [if_pos rfl, z06 ⟨by omega, by omega⟩, z06 ⟨by omega, by simp; omega⟩, s1]
        rw [z06 ⟨by omega, by simp; omega⟩, s2]
        obtain ⟨A, B, q1, q2, q3, q4⟩ := ih S (z :: S2) (fun u hu => hD u (by simp [hu])) (by simp; omega) (by omega)
        refine ⟨A, B ++ [z], by rw [q1]; simp, ?_, q3, ?_⟩
        · intro u hu
          rcases List.mem_append.1 hu with h | h
          · exact q2 u h
          · simp at h; rw [h]; exact hlt
        · rw [q4]; simp
      | false =>
        rw [if_neg (by simp)]
        exact ⟨S ++ [z], [], by simp, by simp, .inr ⟨S, z, rfl, hlt⟩, by simp⟩
theorem zhu (hs : Swo lt) (hy : Cmp D y lt) (φ : Nat) (P Q : List Int) : ∀ (n : Nat) (S R : List Int), S ≠ [] → Srt lt S → (∀ z ∈ S, D z) → (∀ z ∈ R, D z) → P.length + S.length + R.length + Q.length ≤ 1000000 → P.length + S.length + R.length < φ → R.length < n →
    ∃ S', Srt lt S' ∧ Stb lt (S ++ R) S' ∧ ze φ (P.length : Int) ((P.length : Int) + S.length + R.length) y n ((P.length : Int) + S.length) (P ++ S ++ R ++ Q) = some (P ++ S' ++ Q) := by
  intro n
  induction n with
  | zero => intro S R _ _ _ _ _ _ h; omega
  | succ n ih =>
    intro S R hne hS hD hD' hl hφ hn
    cases R with
    | nil =>
      refine ⟨S, hS, by simpa using Stb.refl S, ?_⟩
      rw [ze, if_neg (by simp)]
      simp
    | cons x R =>
      simp only [List.length_cons] at hl hφ hn
      rw [ze, if_pos (by simp; omega)]
      obtain ⟨A, B, q1, q2, q3, q4⟩ := zid hy φ (z0b φ ((P.length : Int) + S.length) (ze φ (P.length : Int) ((P.length : Int) + S.length + (x :: R).length) y n)) P x (hD' x (by simp)) φ S (R ++ Q) hD (by simp; omega) (by omega)
      rw [show P ++ S ++ x :: R ++ Q = P ++ S ++ x :: (R ++ Q) by simp, q4]
      have hA : ∀ u ∈ A, lt x u = false := by
        rcases q3 with rfl | ⟨A', z, rfl, hz⟩
        · simp
        · intro u hu
          rcases List.mem_append.1 hu with h | h
          · subst q1
            have := (hS.parts.1).parts.2.2 u h z (by simp)
            exact hs.ntr _ _ _ hz this
          · simp at h; rw [h]; exact hz
      have hS2 : Srt lt (A ++ x :: B) := by
        subst q1
        refine hS.parts.1.app (List.pairwise_cons.2 ⟨fun u hu => hs.asym _ _ (q2 u hu), hS.parts.2.1⟩) fun u hu v hv => ?_
        rcases List.mem_cons.1 hv with h | h
        · subst h; exact hA u hu
        · exact hS.parts.2.2 u hu v h
      obtain ⟨S', p1, p2, p3⟩ := ih (A ++ x :: B) R (by simp) hS2 (fun z hz => by
        subst q1
        simp only [List.mem_append, List.mem_cons] at hz
        rcases hz with h | h | h
        · exact hD z (by simp [h])
        · subst h; exact hD' _ (by simp)
        · exact hD z (by simp [h])) (fun z hz => hD' z (by simp [hz])) (by subst q1; simp at hl ⊢; omega) (by subst q1; simp at hφ ⊢; omega) (by omega)
      refine ⟨S', p1, ?_, ?_⟩
      · have h1 : Stb lt (S ++ [x]) (A ++ [x] ++ B) := by subst q1; exact zd9 hs q2
        have := h1.app (Stb.refl R)
        refine Stb.trans ?_ (Stb.trans this ?_)
        · simpa using Stb.refl (lt := lt) (S ++ x :: R)
        · simpa using p2
      · rw [← p3]
        unfold z0b
        have e1 : W ((P.length : Int) + S.length + 1) = (P.length : Int) + S.length + 1 := W_id (by omega) (by omega)
        have hSl : S.length = A.length + B.length := by rw [q1]; simp
        have e2 : (P.length : Int) + S.length + 1 = P.length + (A ++ x :: B).length := by simp; omega
        have e3 : (P.length : Int) + S.length + (x :: R).length = P.length + (A ++ x :: B).length + R.length := by simp; omega
        have e4 : P ++ A ++ x :: (B ++ (R ++ Q)) = P ++ (A ++ x :: B) ++ R ++ Q := by simp
        rw [e1, e2, e3, e4]
theorem z9r (hs : Swo lt) (hy : Cmp D y lt) (φ : Nat) (P X Q : List Int) (hD : ∀ z ∈ X, D z) (hl : P.length + X.length + Q.length ≤ 1000000) (hφ : P.length + X.length < φ) :
    ∃ X', Srt lt X' ∧ Stb lt X X' ∧ z18 φ (P ++ X ++ Q) (P.length : Int) ((P.length : Int) + X.length) y = some (P ++ X' ++ Q) := by
  unfold z18
  rw [W_id (x := (P.length : Int) + 1) (by omega) (by omega)]
  cases X with
  | nil =>
    refine ⟨[], List.Pairwise.nil, Stb.refl _, ?_⟩
    obtain ⟨n, rfl⟩ : ∃ n, φ = n + 1 := ⟨φ - 1, by omega⟩
    rw [ze, if_neg (by simp; omega)]
  | cons x R =>
    simp only [List.length_cons] at hl hφ
    obtain ⟨S', p1, p2, p3⟩ := zhu hs hy φ P Q φ [x] R (by simp) (List.pairwise_singleton _ _) (fun z hz => hD z (by simp at hz; simp [hz])) (fun z hz => hD z (by simp [hz])) (by simp; omega) (by simp; omega) (by omega)
    refine ⟨S', p1, by simpa using p2, ?_⟩
    rw [← p3]
    simp only [List.append_assoc, List.cons_append, List.length_cons, List.length_nil, List.nil_append]
    congr 1
    simp; omega
end
end Px
end
section
namespace Px
open Go
set_option linter.unusedVariables false
set_option linter.unusedSimpArgs false
set_option maxHeartbeats 4000000
section
variable {D : Int → Prop} {lt : Int → Int → Bool} {y : Int → Int → Option Int}
theorem zfo (hs : Swo lt) (hy : Cmp D y lt) (φ N : Nat) (k : Int → List Int → Option (List Int)) (hN : N ≤ 900000) (hφ : N < φ) :
    ∀ (n : Nat) (X Y : List Int), (∀ z ∈ Y, D z) → X.length + Y.length = N → Y.length < n →
    ∃ Y1 Y2 Y1', Y = Y1 ++ Y2 ∧ Runs lt 20 (Y1' ++ []) ∧ Y2.length < 20 ∧ Stb lt Y1 Y1' ∧ (∀ T, Runs lt 20 T → Runs lt 20 (Y1' ++ T)) ∧
      z14 φ (N : Int) y k n (X.length : Int) ((X.length : Int) + 20) (X ++ Y) = k ((X.length : Int) + Y1.length) (X ++ Y1' ++ Y2) := by
  intro n
  induction n with
  | zero => intro X Y _ _ h; omega
  | succ n ih =>
    intro X Y hD hl hn
    rw [z14]
    by_cases h : Y.length < 20
    · refine ⟨[], Y, [], rfl, .last (by simp) List.Pairwise.nil, h, Stb.refl _, fun T hT => hT, ?_⟩
      rw [if_neg (by simp; omega)]
      simp
    · obtain ⟨B, Z, rfl, hB⟩ : ∃ B Z, Y = B ++ Z ∧ B.length = 20 := ⟨Y.take 20, Y.drop 20, (List.take_append_drop _ _).symm, by simp; omega⟩
      simp only [List.length_append] at hl hn h
      rw [if_pos (by simp; omega)]
      obtain ⟨B', b1, b2, b3⟩ := z9r hs hy φ X B Z (fun z hz => hD z (by simp [hz])) (by omega) (by omega)
      rw [hB] at b3
      have e1 : X ++ (B ++ Z) = X ++ B ++ Z := by simp
      have e2 : ((20 : Nat) : Int) = 20 := rfl
      rw [e2] at b3
      rw [e1, b3]
      simp only [Option.bind_some]
      have hB' : B'.length = 20 := by rw [b2.len, hB]
      have w1 : W ((X.length : Int) + 20 + 20) = (X.length : Int) + 20 + 20 := W_id (by omega) (by omega)
      have e3 : (X.length : Int) + 20 = ((X ++ B').length : Nat) := by simp [hB']
      rw [w1]
      obtain ⟨Y1, Y2, Y1', q1, q2, q3, q4, q5, q6⟩ := ih (X ++ B') Z (fun z hz => hD z (by simp [hz])) (by simp; omega) (by omega)
      rw [← e3] at q6
      refine ⟨B ++ Y1, Y2, B' ++ Y1', by rw [q1]; simp, ?_, q3, b2.app q4, fun T hT => ?_, ?_⟩
      · rw [List.append_assoc]; exact .cons hB' b1 q2
      · rw [List.append_assoc]; exact .cons hB' b1 (q5 T hT)
      · rw [q6]
        have e4 : (X.length : Int) + 20 + Y1.length = (X.length : Int) + ((B ++ Y1).length : Nat) := by simp; omega
        rw [e4]
        simp
theorem zl5 (hs : Swo lt) (hy : Cmp D y lt) (φ N bs : Nat) (k : Int → List Int → Option (List Int)) (hN : N ≤ 900000) (hφ : 2 * N + 3 < φ) (hb0 : 0 < bs) (hb : bs ≤ 900000) :
    ∀ (n : Nat) (X Y : List Int), (∀ z ∈ Y, D z) → Runs lt bs Y → X.length + Y.length = N → Y.length < n →
    ∃ Y', Runs lt (bs * 2) Y' ∧ Stb lt Y Y' ∧ z1p φ (N : Int) y (bs : Int) (z15 φ (N : Int) y (bs : Int) k) n (X.length : Int) ((X.length : Int) + 2 * bs) (X ++ Y) = k ((bs * 2 : Nat) : Int) (X ++ Y') := by
  intro n
  induction n with
  | zero => intro X Y _ _ _ h; omega
  | succ n ih =>
    intro X Y hD hR hl hn
    have w1 : W ((X.length : Int) + bs) = (X.length : Int) + bs := W_id (by omega) (by omega)
    have w2 : W ((bs : Int) * 2) = ((bs * 2 : Nat) : Int) := by rw [W_id (by omega) (by omega)]; simp
    have w3 : W (2 * (bs : Int)) = 2 * (bs : Int) := W_id (by omega) (by omega)
    have w4 : W ((X.length : Int) + 2 * bs + 2 * bs) = (X.length : Int) + 2 * bs + 2 * bs := W_id (by omega) (by omega)
    rw [z1p, w1, w3, w4]
    by_cases h : 2 * bs ≤ Y.length
    · rw [if_pos (by simp; omega)]
      obtain ⟨B1, r, rfl, h1, s1, hr, hne⟩ := hR.big (by omega)
      simp only [List.length_append] at hl hn h
      obtain ⟨B2, Z, rfl, h2, s2, hZ⟩ : ∃ B2 Z, r = B2 ++ Z ∧ B2.length = bs ∧ Srt lt B2 ∧ Runs lt bs Z := by
        by_cases q : r.length = bs
        · exact ⟨r, [], by simp, q, hr.small (by omega), .last (by simp) List.Pairwise.nil⟩
        · obtain ⟨b, r', e, q1, q2, q3, _⟩ := hr.big (by omega)
          exact ⟨b, r', e, q1, q2, q3⟩
      simp only [List.length_append] at hl hn h
      obtain ⟨R, r1, r2, r3⟩ := zcb hs hy φ X B1 B2 Z (fun z hz => hD z (by simp [hz])) (fun z hz => hD z (by simp [hz])) s1 s2 (by intro e; subst e; simp at h1; omega) (by intro e; subst e; simp at h2; omega) (by omega) (by omega)
      have hRl : R.length = 2 * bs := by rw [r2.len]; simp; omega
      have e1 : X ++ (B1 ++ (B2 ++ Z)) = X ++ B1 ++ B2 ++ Z := by simp
      have e2 : (X.length : Int) + bs = (X.length : Int) + B1.length := by omega
      have e3 : (X.length : Int) + 2 * bs = (X.length : Int) + B1.length + B2.length := by omega
      have e4 : (X.length : Int) + 2 * bs = ((X ++ R).length : Nat) := by simp; omega
      obtain ⟨Y', p1, p2, p3⟩ := ih (X ++ R) Z (fun z hz => hD z (by simp [hz])) hZ (by simp; omega) (by omega)
      refine ⟨R ++ Y', .cons (by omega) r1 p1, ?_, ?_⟩
      · have := r2.app p2
        simpa using this
      · rw [e1]
        conv => lhs; arg 1; rw [e2, e3]
        rw [r3]
        simp only [Option.bind_some]
        rw [e4, p3]
        simp
    · rw [if_neg (by simp; omega)]
      unfold z15 z2a
      rw [w1, w2]
      by_cases q : bs < Y.length
      · rw [if_pos (by simp; omega)]
        obtain ⟨B1, B2, rfl, h1, s1, hr, hne⟩ := hR.big q
        simp only [List.length_append] at hl hn h
        obtain ⟨R, r1, r2, r3⟩ := zcb hs hy φ X B1 B2 [] (fun z hz => hD z (by simp [hz])) (fun z hz => hD z (by simp [hz])) s1 (hr.small (by omega)) (by intro e; subst e; simp at h1; omega) hne (by simp; omega) (by omega)
        have e1 : X ++ (B1 ++ B2) = X ++ B1 ++ B2 ++ [] := by simp
        have e2 : (X.length : Int) + bs = (X.length : Int) + B1.length := by omega
        have e3 : (N : Int) = (X.length : Int) + B1.length + B2.length := by omega
        refine ⟨R, .last (by rw [r2.len]; simp; omega) r1, r2, ?_⟩
        rw [e1, e2, e3, r3]
        simp
      · rw [if_neg (by simp; omega)]
        exact ⟨Y, .last (by omega) (hR.small (by omega)), Stb.refl _, rfl⟩
theorem zio (hs : Swo lt) (hy : Cmp D y lt) (φ N : Nat) (hN : N ≤ 400000) (hφ : 2 * N + 3 < φ) :
    ∀ (n bs : Nat) (Y : List Int), (∀ z ∈ Y, D z) → Runs lt bs Y → Y.length = N → 0 < bs → bs ≤ 900000 → N - bs < n →
    ∃ Y', Srt lt Y' ∧ Stb lt Y Y' ∧ zk φ (N : Int) y n (bs : Int) Y = some Y' := by
  intro n
  induction n with
  | zero => intro bs Y _ _ _ _ _ h; omega
  | succ n ih =>
    intro bs Y hD hR hl hb0 hb hn
    rw [zk]
    by_cases h : bs < N
    · rw [if_pos (by simp; omega), W_id (x := 2 * (bs : Int)) (by omega) (by omega)]
      obtain ⟨Y', p1, p2, p3⟩ := zl5 hs hy φ N bs (zk φ (N : Int) y n) (by omega) hφ hb0 hb φ [] Y hD hR (by simpa using hl) (by omega)
      obtain ⟨Y'', q1, q2, q3⟩ := ih (bs * 2) Y' (fun z hz => hD z (p2.mem.1 hz)) p1 (by rw [p2.len, hl]) (by omega) (by omega) (by omega)
      refine ⟨Y'', q1, p2.trans q2, ?_⟩
      rw [← q3]
      simpa using p3
    · rw [if_neg (by simp; omega)]
      exact ⟨Y, hR.small (by omega), Stb.refl _, rfl⟩
/-- The stable sort sorts, and keeps the order of equal elements. -/
theorem zfg (hs : Swo lt) (hy : Cmp D y lt) (φ : Nat) (v : List Int) (hD : ∀ z ∈ v, D z) (hN : v.length ≤ 400000) (hφ : 2 * v.length + 3 < φ) :
    ∃ r, Srt lt r ∧ Stb lt v r ∧ z3s φ v y = some r := by
  unfold z3s z50
  obtain ⟨Y1, Y2, Y1', q1, q2, q3, q4, q5, q6⟩ := zfo hs hy φ v.length (z0l φ (v.length : Int) y) (by omega) (by omega) φ [] v hD (by simp) (by omega)
  have q6' : z14 φ (v.length : Int) y (z0l φ (v.length : Int) y) φ 0 20 v = z0l φ (v.length : Int) y (Y1.length : Int) (Y1' ++ Y2) := by simpa using q6
  rw [q6']
  unfold z0l
  have hl : v.length = Y1.length + Y2.length := by rw [q1]; simp
  have hl1 : Y1'.length = Y1.length := q4.len
  obtain ⟨Y2', p1, p2, p3⟩ := z9r hs hy φ Y1' Y2 [] (fun z hz => hD z (by rw [q1]; simp [hz])) (by simp; omega) (by omega)
  simp only [List.append_nil] at p3
  have e1 : (Y1.length : Int) = Y1'.length := by omega
  have e2 : (v.length : Int) = (Y1'.length : Int) + Y2.length := by omega
  have p3' : z18 φ (Y1' ++ Y2) (Y1.length : Int) (v.length : Int) y = some (Y1' ++ Y2') := by rw [e1, e2]; exact p3
  have hst : Stb lt v (Y1' ++ Y2') := by rw [q1]; exact q4.app p2
  obtain ⟨r, r1, r2, r3⟩ := zio hs hy φ v.length hN hφ φ 20 (Y1' ++ Y2') (fun z hz => hD z (hst.mem.1 hz)) (q5 _ (.last (by rw [p2.len]; omega) p1)) hst.len (by omega) (by omega) (by omega)
  refine ⟨r, r1, hst.trans r2, ?_⟩
  rw [p3']
  simp only [Option.bind_some]
  have r3' : zk φ (v.length : Int) y φ 20 (Y1' ++ Y2') = some r := r3
  rw [r3']
  rfl
end
end Px
end
section
namespace Px
open Go
set_option linter.unusedVariables false
set_option linter.unusedSimpArgs false
def zby (p : Pool) (r : zf) : Bool :=
  (r.fRef.fRailway != r.fItem.fOther) && ((((gt p.fNetwork.fPlaces r.fItem.fPlace).fRailway == r.fRef.fRailway) && ((gt p.fNetwork.fPlaces r.fItem.fPlace).fOther == r.fItem.fOther)) || (((gt p.fNetwork.fPlaces r.fItem.fPlace).fRailway == r.fItem.fOther) && ((gt p.fNetwork.fPlaces r.fItem.fPlace).fOther == r.fRef.fRailway)))
theorem zmd (φ : Nat) (p : Pool) (r : zf) (h : 0 ≤ r.fItem.fPlace ∧ r.fItem.fPlace < (p.fNetwork.fPlaces.length : Int)) : z78 φ p r = some (zby p r) := by
  unfold z78; rw [z06 h]; rfl
def z9y (p : Pool) (l : List zf) (rs : List Int) (st : List (Int × Bool) × List (Nat → Int)) (d : Int) : List (Int × Bool) × List (Nat → Int) :=
  if zby p (gt l d) = false then st else if 0 ≤ z6g l st.1 d rs then (mset st.1 (z6g l st.1 d rs) true, st.2 ++ [ofL [d, z6g l st.1 d rs]]) else st
def zaz (p : Pool) (l : List zf) (rs ds : List Int) : List (Nat → Int) := (ds.foldl (z9y p l rs) ([], [])).2
theorem zki (φ : Nat) (hφ : 4 < φ) (p : Pool) (l : List zf) (rs ds : List Int) (hl : ds.length ≤ 100000) (hrl : rs.length ≤ 100000) (hr : ∀ z ∈ rs, 0 ≤ z ∧ z < (l.length : Int)) (hφ2 : rs.length < φ) (hφ3 : ds.length < φ)
    (hd : ∀ z ∈ ds, (0 ≤ z ∧ z < (l.length : Int)) ∧ 0 ≤ (gt l z).fItem.fPlace ∧ (gt l z).fItem.fPlace < (p.fNetwork.fPlaces.length : Int)) :
    z0d φ p l rs ds (z0t φ) φ 0 [] [] = some (zaz p l rs ds) := by
  refine z74 (fun n j (s : List (Int × Bool) × List (Nat → Int)) => z0d φ p l rs ds (z0t φ) n j s.1 s.2) ds.length (fun j s => s = (ds.take j).foldl (z9y p l rs) ([], []) ∧ s.2.length ≤ j)
    (fun o => o = some (zaz p l rs ds)) ?_ ?_ φ ([], []) ⟨by simp, by simp⟩ hφ3
  · intro n j s hj ⟨hs, hsl⟩ hk
    obtain ⟨hz, hpl⟩ := hd _ (z91 (l := ds) (i := (j : Int)) (by omega) (by omega))
    have hnext : (ds.take (j + 1)).foldl (z9y p l rs) ([], []) = z9y p l rs s (gt ds (j : Int)) := by
      rw [z7x ds j hj, List.foldl_append, ← hs]; rfl
    have w : W ((j : Int) + 1) = (j : Int) + 1 := W_id (by omega) (by omega)
    rw [z0d, if_pos (by simp; omega), z06 ⟨by omega, by omega⟩, z06 hz]
    simp only [Pool.eta', Item.eta', zf.eta', zmd φ p _ hpl, Option.bind_some]
    by_cases q : zby p (gt l (gt ds (j : Int))) = false
    · rw [q, if_pos (by simp)]
      unfold z1b
      rw [w]
      exact hk s ⟨by rw [hnext]; unfold z9y; rw [if_pos q], by omega⟩
    · have q' : zby p (gt l (gt ds (j : Int))) = true := by simpa using q
      rw [q', if_neg (by simp), zm3 φ hφ l rs ds _ s.1 _ hrl hr hφ2]
      unfold z3b
      by_cases hb : 0 ≤ z6g l s.1 (gt ds (j : Int)) rs
      · rw [if_pos (by simpa using hb), z06 (za1 (by simp; omega) (by omega))]
        unfold z1b
        rw [w]
        refine hk (mset s.1 (z6g l s.1 (gt ds (j : Int)) rs) true, s.2 ++ [ofL [gt ds (j : Int), z6g l s.1 (gt ds (j : Int)) rs]]) ⟨?_, by simp; omega⟩
        rw [hnext]; unfold z9y; rw [if_neg q, if_pos hb]
      · rw [if_neg (by simpa using hb)]
        unfold z1b
        rw [w]
        refine hk s ⟨?_, by omega⟩
        rw [hnext]; unfold z9y; rw [if_neg q, if_neg hb]
  · intro n s ⟨hs, _⟩
    rw [List.take_length] at hs
    rw [z0d, if_neg (by simp), hs]
    rfl
/-- What pairs answers. -/
theorem zne (φ : Nat) (p : Pool) (l : List zf) (ok : Item → Bool) (hl : l.length ≤ 100000) (hφ : 2 * l.length + 10 < φ) (hc : z41 φ p = some 0)
    (hok : ∀ r ∈ l, r.fItem.fKind = 3 ∨ r.fItem.fKind = 4 → ∃ e, z8r φ p r.fItem = some e ∧ (e == 0) = ok r.fItem)
    (hpl : ∀ r ∈ l, r.fItem.fKind = 3 ∨ r.fItem.fKind = 4 → ok r.fItem = true → 0 ≤ r.fItem.fPlace ∧ r.fItem.fPlace < (p.fNetwork.fPlaces.length : Int)) :
    ∃ ds, Srt (zap l) ds ∧ Stb (zap l) (idxF (fun r => r.fItem.fKind == 3 && ok r.fItem) l) ds ∧
      z52 φ p l = some (zaz p l (idxF (fun r => r.fItem.fKind == 4 && ok r.fItem) l) ds) := by
  have h3 := of_eq φ p l 3 ok hl (by omega) fun r hr hk => hok r hr (.inl hk)
  have h4 := of_eq φ p l 4 ok hl (by omega) fun r hr hk => hok r hr (.inr hk)
  have l3 := zh4 (fun r : zf => r.fItem.fKind == 3 && ok r.fItem) l
  have l4 := zh4 (fun r : zf => r.fItem.fKind == 4 && ok r.fItem) l
  obtain ⟨ds, s1, s2, s3⟩ := zfg (zc4 l) (zn5 φ (by omega) l) φ (idxF (fun r => r.fItem.fKind == 3 && ok r.fItem) l)
    (fun z hz => ⟨(z95.1 hz).1, (z95.1 hz).2.1⟩) (by omega) (by omega)
  refine ⟨ds, s1, s2, ?_⟩
  have dl := s2.len
  unfold z52
  simp only [Pool.eta', hc, h3, h4, Option.bind_some, s3]
  rw [if_neg (by decide)]
  refine zki φ (by omega) p l _ ds (by omega) (by omega) (fun z hz => ⟨(z95.1 hz).1, (z95.1 hz).2.1⟩) (by omega) (by omega) fun z hz => ?_
  obtain ⟨q1, q2, q3⟩ := z95.1 (s2.mem.1 hz)
  simp only [Bool.and_eq_true, beq_iff_eq] at q3
  exact ⟨⟨q1, q2⟩, hpl _ (z91 q1 q2) (.inl q3.1) q3.2⟩
end Px
end
section
namespace Px
open Go
set_option linter.unusedVariables false
set_option linter.unusedSimpArgs false
set_option maxHeartbeats 1000000
section
theorem zez (φ : Nat) (P Z Q : List z3) (c : Nat) : ∀ (n : Nat) (X1 X2 Y1 Y2 : List z3), X1.length = Y1.length → X2.length = Y2.length → c = X1.length + X2.length → P.length + c + Z.length + c + Q.length ≤ 1000000 → X2.length < n →
    z08 φ (P.length : Int) ((P.length : Int) + c + Z.length) (c : Int) n (X1.length : Int) (P ++ Y1 ++ X2 ++ Z ++ X1 ++ Y2 ++ Q) = some (P ++ Y1 ++ Y2 ++ Z ++ X1 ++ X2 ++ Q) := by
  intro n
  induction n with
  | zero => intro X1 X2 Y1 Y2 _ _ _ _ h; omega
  | succ n ih =>
    intro X1 X2 Y1 Y2 h1 h2 hc hl hn
    cases X2 with
    | nil =>
      have : Y2 = [] := List.eq_nil_of_length_eq_zero (by simpa using h2.symm)
      subst this
      simp only [List.length_nil, Nat.add_zero] at hc
      rw [z08, if_neg (by simp; omega)]
    | cons x X2 =>
      cases Y2 with
      | nil => simp at h2
      | cons w Y2 =>
        simp only [List.length_cons, Nat.add_right_cancel_iff] at h2 hc hn
        have w1 : W ((P.length : Int) + c + Z.length + X1.length) = (P.length : Int) + c + Z.length + X1.length := W_id (by omega) (by omega)
        have w2 : W ((P.length : Int) + X1.length) = (P.length : Int) + X1.length := W_id (by omega) (by omega)
        have w3 : W ((X1.length : Int) + 1) = (X1.length : Int) + 1 := W_id (by omega) (by omega)
        have e1 : P ++ Y1 ++ x :: X2 ++ Z ++ X1 ++ w :: Y2 ++ Q = (P ++ Y1) ++ x :: (X2 ++ Z ++ X1 ++ w :: Y2 ++ Q) := by simp
        have e2 : P ++ Y1 ++ x :: X2 ++ Z ++ X1 ++ w :: Y2 ++ Q = (P ++ Y1 ++ x :: X2 ++ Z ++ X1) ++ w :: (Y2 ++ Q) := by simp
        have g1 : gt (P ++ Y1 ++ x :: X2 ++ Z ++ X1 ++ w :: Y2 ++ Q) ((P.length : Int) + X1.length) = x := by rw [e1]; exact z71 (by simp; omega)
        have g2 : gt (P ++ Y1 ++ x :: X2 ++ Z ++ X1 ++ w :: Y2 ++ Q) ((P.length : Int) + c + Z.length + X1.length) = w := by rw [e2]; exact z71 (by simp; omega)
        have s1 : z2x (P ++ Y1 ++ x :: X2 ++ Z ++ X1 ++ w :: Y2 ++ Q) ((P.length : Int) + X1.length) w = (P ++ Y1) ++ w :: (X2 ++ Z ++ X1 ++ w :: Y2 ++ Q) := by rw [e1]; exact z90 (by simp; omega)
        have e3 : (P ++ Y1) ++ w :: (X2 ++ Z ++ X1 ++ w :: Y2 ++ Q) = (P ++ Y1 ++ w :: X2 ++ Z ++ X1) ++ w :: (Y2 ++ Q) := by simp
        have s2 : z2x ((P ++ Y1 ++ w :: X2 ++ Z ++ X1) ++ w :: (Y2 ++ Q)) ((P.length : Int) + c + Z.length + X1.length) x = (P ++ Y1 ++ w :: X2 ++ Z ++ X1) ++ x :: (Y2 ++ Q) := z90 (by simp; omega)
        have e4 : (P ++ Y1 ++ w :: X2 ++ Z ++ X1) ++ x :: (Y2 ++ Q) = P ++ (Y1 ++ [w]) ++ X2 ++ Z ++ (X1 ++ [x]) ++ Y2 ++ Q := by simp
        have hlen : ((P ++ Y1 ++ x :: X2 ++ Z ++ X1 ++ w :: Y2 ++ Q).length : Int) = P.length + c + Z.length + c + Q.length := by simp; omega
        have hlen2 : (((P ++ Y1 ++ w :: X2 ++ Z ++ X1) ++ w :: (Y2 ++ Q)).length : Int) = P.length + c + Z.length + c + Q.length := by simp; omega
        rw [z08, if_pos (by simp; omega), w1, w2, w3, g1, g2, s1, e3, s2, e4, hlen, hlen2]
        rw [z06 ⟨by omega, by omega⟩, z06 ⟨by omega, by omega⟩, z06 ⟨by omega, by omega⟩]
        have := ih (X1 ++ [x]) X2 (Y1 ++ [w]) Y2 (by simp [h1]) h2 (by simp; omega) hl (by omega)
        have e5 : (((X1 ++ [x]).length : Nat) : Int) = (X1.length : Int) + 1 := by simp
        rw [e5] at this
        rw [this]
        simp
theorem z9w (φ : Nat) (P X Z Y Q : List z3) (y : z3 → z3 → Option Int) (h : X.length = Y.length) (hl : P.length + X.length + Z.length + X.length + Q.length ≤ 1000000) (hφ : X.length < φ) :
    z12 φ (P ++ X ++ Z ++ Y ++ Q) (P.length : Int) ((P.length : Int) + X.length + Z.length) (X.length : Int) y = some (P ++ Y ++ Z ++ X ++ Q) := by
  have := zez φ P Z Q X.length φ [] X [] Y rfl h (by simp) hl hφ
  simpa [z12] using this
theorem zfw (φ : Nat) (y : z3 → z3 → Option Int) : ∀ (n : Nat) (P X Y Q : List z3), X ≠ [] → Y ≠ [] → P.length + X.length + Y.length + Q.length ≤ 1000000 → X.length + Y.length ≤ n → X.length + Y.length < φ →
    z0j φ ((P.length : Int) + X.length) y (z0n φ ((P.length : Int) + X.length) y) n (X.length : Int) (Y.length : Int) (P ++ X ++ Y ++ Q) = some (P ++ Y ++ X ++ Q) := by
  intro n
  induction n with
  | zero => intro P X Y Q hX hY _ h; have := List.length_pos_iff.2 hX; omega
  | succ n ih =>
    intro P X Y Q hX hY hl hn hφ
    have hX0 := List.length_pos_iff.2 hX
    have hY0 := List.length_pos_iff.2 hY
    have w1 : W ((P.length : Int) + X.length - X.length) = (P.length : Int) := by rw [W_id (by omega) (by omega)]; omega
    rw [z0j, w1]
    by_cases he : X.length = Y.length
    · rw [if_neg (by simp [he])]
      unfold z0n
      rw [w1]
      have := z9w φ P X [] Y Q y he (by simp; omega) (by omega)
      simp only [List.append_nil, List.length_nil, Int.ofNat_zero, Int.add_zero] at this
      rw [this]; rfl
    · rw [if_pos (by simp; omega)]
      by_cases hlt : Y.length < X.length
      · rw [if_pos (by simp; omega)]
        obtain ⟨X1, X2, rfl, h1⟩ : ∃ X1 X2, X = X1 ++ X2 ∧ X1.length = Y.length := ⟨X.take Y.length, X.drop Y.length, (List.take_append_drop _ _).symm, by simp; omega⟩
        simp only [List.length_append] at hl hn hφ hlt hX0 he
        have e1 : P ++ (X1 ++ X2) ++ Y ++ Q = P ++ X1 ++ X2 ++ Y ++ Q := by simp
        have e2 : (P.length : Int) + ((X1 ++ X2).length : Nat) = (P.length : Int) + X1.length + X2.length := by simp; omega
        rw [e1, e2, ← h1, z9w φ P X1 X2 Y Q y h1 (by omega) (by omega)]
        simp only [Option.bind_some]
        have w2 : W (((X1 ++ X2).length : Int) - X1.length) = (X2.length : Int) := by simp; rw [W_id (by omega) (by omega)]; omega
        rw [w2]
        have := ih (P ++ Y) X2 X1 Q (by intro e; subst e; simp at hlt; omega) (by intro e; subst e; simp at h1; omega) (by simp; omega) (by omega) (by omega)
        have e3 : (((P ++ Y).length : Nat) : Int) + X2.length = (P.length : Int) + X1.length + X2.length := by simp; omega
        rw [e3] at this
        rw [this]
        simp
      · rw [if_neg (by simp; omega)]
        obtain ⟨Y1, Y2, rfl, h1⟩ : ∃ Y1 Y2, Y = Y1 ++ Y2 ∧ Y2.length = X.length := ⟨Y.take (Y.length - X.length), Y.drop (Y.length - X.length), (List.take_append_drop _ _).symm, by simp; omega⟩
        simp only [List.length_append] at hl hn hφ hlt hY0 he
        have e1 : P ++ X ++ (Y1 ++ Y2) ++ Q = P ++ X ++ Y1 ++ Y2 ++ Q := by simp
        have w3 : W ((P.length : Int) + X.length + ((Y1 ++ Y2).length : Nat)) = (P.length : Int) + X.length + Y1.length + Y2.length := by simp; rw [W_id (by omega) (by omega)]; omega
        have w4 : W ((P.length : Int) + X.length + Y1.length + Y2.length - X.length) = (P.length : Int) + X.length + Y1.length := by rw [W_id (by omega) (by omega)]; omega
        have w5 : W (((Y1 ++ Y2).length : Int) - X.length) = (Y1.length : Int) := by simp; rw [W_id (by omega) (by omega)]; omega
        rw [e1, w3, w4, w5, z9w φ P X Y1 Y2 Q y h1.symm (by omega) (by omega)]
        simp only [Option.bind_some]
        have := ih P Y2 Y1 (X ++ Q) (by intro e; subst e; simp at h1; omega) (by intro e; subst e; simp at h1 hlt he; omega) (by simp; omega) (by omega) (by omega)
        rw [h1] at this
        have e2 : P ++ Y2 ++ Y1 ++ X ++ Q = P ++ Y2 ++ Y1 ++ (X ++ Q) := by simp
        rw [e2, this]
        simp
theorem zej (φ : Nat) (P X Y Q : List z3) (y : z3 → z3 → Option Int) (hX : X ≠ []) (hY : Y ≠ []) (hl : P.length + X.length + Y.length + Q.length ≤ 1000000) (hφ : X.length + Y.length < φ) :
    z2y φ (P ++ X ++ Y ++ Q) (P.length : Int) ((P.length : Int) + X.length) ((P.length : Int) + X.length + Y.length) y = some (P ++ Y ++ X ++ Q) := by
  have := zfw φ y φ P X Y Q hX hY hl (by omega) hφ
  rw [← this]
  unfold z2y
  have w1 : W ((P.length : Int) + X.length - P.length) = (X.length : Int) := by rw [W_id (by omega) (by omega)]; omega
  have w2 : W ((P.length : Int) + X.length + Y.length - ((P.length : Int) + X.length)) = (Y.length : Int) := by rw [W_id (by omega) (by omega)]; omega
  rw [w1, w2]
end
end Px
end
section
namespace Px
open Go
set_option linter.unusedVariables false
set_option linter.unusedSimpArgs false
set_option maxHeartbeats 2000000
section
variable {D : z3 → Prop} {lt : z3 → z3 → Bool} {y : z3 → z3 → Option Int}
theorem zdc (φ : Nat) (k : List z3 → Option (List z3)) (x : z3) : ∀ (n : Nat) (P C E : List z3), P.length + C.length + E.length ≤ 999999 → C.length < n →
    z0q φ ((P.length : Int) + C.length + 1) k n (P.length : Int) (P ++ x :: (C ++ E)) = k (P ++ C ++ x :: E) := by
  intro n
  induction n with
  | zero => intro P C E _ h; omega
  | succ n ih =>
    intro P C E hl hn
    have w0 : W ((P.length : Int) + C.length + 1 - 1) = (P.length : Int) + C.length := by rw [W_id (by omega) (by omega)]; omega
    rw [z0q, w0]
    cases C with
    | nil => rw [if_neg (by simp)]; simp
    | cons w C =>
      simp only [List.length_cons] at hl hn
      have w1 : W ((P.length : Int) + 1) = (P.length : Int) + 1 := W_id (by omega) (by omega)
      have e1 : P ++ x :: (w :: C ++ E) = (P ++ [x]) ++ w :: (C ++ E) := by simp
      have g1 : gt (P ++ x :: (w :: C ++ E)) (P.length : Int) = x := z71 rfl
      have g2 : gt (P ++ x :: (w :: C ++ E)) ((P.length : Int) + 1) = w := by rw [e1]; exact z71 (by simp)
      have s1 : z2x (P ++ x :: (w :: C ++ E)) (P.length : Int) w = P ++ w :: (w :: C ++ E) := z90 rfl
      have e2 : P ++ w :: (w :: C ++ E) = (P ++ [w]) ++ w :: (C ++ E) := by simp
      have s2 : z2x ((P ++ [w]) ++ w :: (C ++ E)) ((P.length : Int) + 1) x = (P ++ [w]) ++ x :: (C ++ E) := z90 (by simp)
      have hlen : ((P ++ x :: (w :: C ++ E)).length : Int) = P.length + C.length + E.length + 2 := by simp; omega
      have hlen2 : (((P ++ [w]) ++ w :: (C ++ E)).length : Int) = P.length + C.length + E.length + 2 := by simp; omega
      rw [if_pos (by simp; omega), w1, g1, g2, s1, e2, s2, hlen, hlen2, z06 ⟨by omega, by omega⟩, z06 ⟨by omega, by omega⟩, z06 ⟨by omega, by omega⟩]
      have := ih (P ++ [w]) C E (by simp; omega) (by omega)
      have e3 : (((P ++ [w]).length : Nat) : Int) = (P.length : Int) + 1 := by simp
      have e4 : (P.length : Int) + ((w :: C).length : Nat) + 1 = (P.length : Int) + 1 + C.length + 1 := by simp; omega
      rw [e3] at this
      rw [e4, this]
      simp
theorem zbw (φ : Nat) (k : List z3 → Option (List z3)) (x : z3) (P : List z3) : ∀ (n : Nat) (C E : List z3), P.length + C.length + E.length ≤ 999999 → C.length < n →
    z0r φ (P.length : Int) k n ((P.length : Int) + C.length) (P ++ C ++ x :: E) = k (P ++ x :: (C ++ E)) := by
  intro n
  induction n with
  | zero => intro C E _ h; omega
  | succ n ih =>
    intro C E hl hn
    rw [z0r]
    rcases z6f C with rfl | ⟨S, z, rfl⟩
    · rw [if_neg (by simp)]; simp
    · simp only [List.length_append, List.length_cons, List.length_nil] at hl hn
      have w1 : W ((P.length : Int) + ((S ++ [z]).length : Nat) - 1) = (P.length : Int) + S.length := by
        rw [W_id (by simp; omega) (by simp; omega)]; simp; omega
      have e1 : P ++ (S ++ [z]) ++ x :: E = (P ++ S ++ [z]) ++ x :: E := by simp
      have e2 : P ++ (S ++ [z]) ++ x :: E = (P ++ S) ++ z :: (x :: E) := by simp
      have g1 : gt (P ++ (S ++ [z]) ++ x :: E) ((P.length : Int) + ((S ++ [z]).length : Nat)) = x := by rw [e1]; exact z71 (by simp <;> omega)
      have g2 : gt (P ++ (S ++ [z]) ++ x :: E) ((P.length : Int) + S.length) = z := by rw [e2]; exact z71 (by simp)
      have s1 : z2x (P ++ (S ++ [z]) ++ x :: E) ((P.length : Int) + ((S ++ [z]).length : Nat)) z = (P ++ S) ++ z :: (z :: E) := by rw [e1, z90 (by simp <;> omega)]; simp
      have s2 : z2x ((P ++ S) ++ z :: (z :: E)) ((P.length : Int) + S.length) x = P ++ S ++ x :: (z :: E) := z90 (by simp)
      have hlen : ((P ++ (S ++ [z]) ++ x :: E).length : Int) = P.length + S.length + E.length + 2 := by simp; omega
      have hlen2 : (((P ++ S) ++ z :: (z :: E)).length : Int) = P.length + S.length + E.length + 2 := by simp; omega
      rw [if_pos (by simp; omega), w1, g1, g2, s1, s2, hlen, hlen2, z06 ⟨by omega, by omega⟩, z06 ⟨by omega, by simp; omega⟩, z06 ⟨by omega, by omega⟩]
      rw [ih S (z :: E) (by simp; omega) (by omega)]
      simp
/-- One element before a sorted list. -/
theorem zba (hs : Swo lt) (hy : Cmp D y lt) (φ : Nat) (P L Q : List z3) (x : z3) (hx : D x) (hD : ∀ z ∈ L, D z) (hS : Srt lt L) (hl : P.length + L.length + Q.length ≤ 999998) (hφ : P.length + L.length + 2 < φ) :
    ∃ R, Srt lt R ∧ Stb lt (x :: L) R ∧ zq φ (P ++ x :: (L ++ Q)) (P.length : Int) y (zm φ (P ++ x :: (L ++ Q)) (P.length : Int)) φ ((P.length : Int) + 1) ((P.length : Int) + 1 + L.length) = some (P ++ R ++ Q) := by
  have gx : gt (P ++ x :: (L ++ Q)) (P.length : Int) = x := z71 rfl
  have hlen : ((P ++ x :: (L ++ Q)).length : Int) = P.length + L.length + Q.length + 1 := by simp; omega
  have gL : ∀ i : Nat, P.length + 1 ≤ i → i < P.length + 1 + L.length → gt (P ++ x :: (L ++ Q)) (i : Int) = gt L ((i - (P.length + 1) : Nat) : Int) := by
    intro i h1 h2
    have e : P ++ x :: (L ++ Q) = (P ++ [x]) ++ (L ++ Q) := by simp
    rw [e, z64 _ _ _ (by simp; omega), z7a _ _ _ (by simp; omega) (by simp; omega)]
    congr 1; simp; omega
  obtain ⟨c, h1, h2, h3, h4, h5⟩ := zdj (zq φ (P ++ x :: (L ++ Q)) (P.length : Int) y (zm φ (P ++ x :: (L ++ Q)) (P.length : Int)))
    (zm φ (P ++ x :: (L ++ Q)) (P.length : Int)) (fun h => lt (gt (P ++ x :: (L ++ Q)) (h : Int)) x) (P.length + 1 + L.length) (P.length + 1)
    (by
      intro n s r h0 hlt hR
      have hm : (W ((U (W ((s : Int) + r))).fdiv 2)) = (((s + r) / 2 : Nat) : Int) := by rw [zfp (by omega) (by omega)]; omega
      have hm1 : W ((((s + r) / 2 : Nat) : Int) + 1) = (((s + r) / 2 + 1 : Nat) : Int) := by rw [W_id (by omega) (by omega)]; simp
      obtain ⟨w, hw1, hw2⟩ := hy (gt (P ++ x :: (L ++ Q)) (((s + r) / 2 : Nat) : Int)) x (by
        rw [gL _ (by omega) (by omega)]; exact hD _ (z91 (by omega) (by omega))) hx
      rw [zq, if_pos (by simp; omega), hm, hm1, hlen, gx, z06 ⟨by omega, by omega⟩, z06 ⟨by omega, by omega⟩, hw1]
      simp only [Option.bind_some, hw2])
    (by
      intro n s
      rw [zq, if_neg (by simp)]) φ (P.length + 1) (P.length + 1 + L.length) (Nat.le_refl _) (by omega) (Nat.le_refl _) (by omega)
  obtain ⟨C, E, rfl, hC⟩ : ∃ C E, L = C ++ E ∧ C.length = c - (P.length + 1) := ⟨L.take (c - (P.length + 1)), L.drop (c - (P.length + 1)), (List.take_append_drop _ _).symm, by simp; omega⟩
  simp only [List.length_append] at hl hφ h2 gL
  have hCx : ∀ z ∈ C, lt z x = true := by
    intro z hz
    rcases z6f C with rfl | ⟨S, w, rfl⟩
    · cases hz
    · simp only [List.length_append, List.length_cons, List.length_nil] at hC hz hS gL h2
      have hp : lt w x = true := by
        rcases h3 with h3 | h3
        · omega
        · rw [gL _ (by omega) (by omega)] at h3
          have e : S ++ [w] ++ E = S ++ w :: E := by simp
          rw [e, z71 (by omega)] at h3
          exact h3
      rcases List.mem_append.1 hz with h | h
      · exact z9b hs (hS.parts.1.parts.2.2 z h w (by simp)) hp (hs.irr x)
      · simp at h; rw [h]; exact hp
  have hEx : ∀ z ∈ E, lt z x = false := by
    intro z hz
    cases E with
    | nil => cases hz
    | cons w E =>
      simp only [List.length_cons] at h2 gL h4
      have hp : lt w x = false := by
        rcases h4 with h4 | h4
        · simp at h4; omega
        · rw [gL _ (by omega) (by omega), z71 (by omega)] at h4
          exact h4
      rcases List.mem_cons.1 hz with h | h
      · rw [h]; exact hp
      · exact hs.ntr _ _ _ ((List.pairwise_cons.1 hS.parts.2.1).1 z h) hp
  have hm := z8h hs (A := []) (B := [x]) (C := C) (E := E) (R1 := C) (R2 := x :: E) (List.pairwise_singleton _ _) hS (by simpa using hCx) (by simp) hS.parts.1 (by simpa using Stb.refl C) (List.pairwise_cons.2 ⟨hEx, hS.parts.2.1⟩) (by simpa using Stb.refl (x :: E))
  refine ⟨C ++ x :: E, hm.1, by simpa using hm.2, ?_⟩
  have e5 : ((P.length : Int) + 1 + ((C ++ E).length : Nat)) = ((P.length + 1 + (C ++ E).length : Nat) : Int) := by simp
  have e6 : ((P.length : Int) + 1) = ((P.length + 1 : Nat) : Int) := by simp
  rw [e5, e6, h5]
  unfold zm
  have e7 : (c : Int) = (P.length : Int) + C.length + 1 := by omega
  have e8 : P ++ x :: (C ++ E ++ Q) = P ++ x :: (C ++ (E ++ Q)) := by simp
  rw [e7, e8, zdc φ _ x φ P C (E ++ Q) (by simp; omega) (by omega)]
  simp [z0o]
/-- A sorted list before one element. -/
theorem zbx (hs : Swo lt) (hy : Cmp D y lt) (φ : Nat) (P L Q : List z3) (x : z3) (hx : D x) (hD : ∀ z ∈ L, D z) (hS : Srt lt L) (hl : P.length + L.length + Q.length ≤ 999998) (hφ : P.length + L.length + 2 < φ) :
    ∃ R, Srt lt R ∧ Stb lt (L ++ [x]) R ∧ zp φ (P ++ L ++ x :: Q) ((P.length : Int) + L.length) y (zn φ (P ++ L ++ x :: Q) ((P.length : Int) + L.length)) φ (P.length : Int) ((P.length : Int) + L.length) = some (P ++ R ++ Q) := by
  have gx : gt (P ++ L ++ x :: Q) ((P.length : Int) + L.length) = x := z71 (by simp)
  have hlen : ((P ++ L ++ x :: Q).length : Int) = P.length + L.length + Q.length + 1 := by simp; omega
  have gL : ∀ i : Nat, P.length ≤ i → i < P.length + L.length → gt (P ++ L ++ x :: Q) (i : Int) = gt L ((i - P.length : Nat) : Int) := by
    intro i h1 h2
    rw [List.append_assoc, z64 _ _ _ (by omega), z7a _ _ _ (by omega) (by omega)]
    congr 1; omega
  obtain ⟨c, h1, h2, h3, h4, h5⟩ := zdj (zp φ (P ++ L ++ x :: Q) ((P.length : Int) + L.length) y (zn φ (P ++ L ++ x :: Q) ((P.length : Int) + L.length)))
    (zn φ (P ++ L ++ x :: Q) ((P.length : Int) + L.length)) (fun h => !lt x (gt (P ++ L ++ x :: Q) (h : Int))) (P.length + L.length) P.length
    (by
      intro n s r h0 hlt hR
      have hm : (W ((U (W ((s : Int) + r))).fdiv 2)) = (((s + r) / 2 : Nat) : Int) := by rw [zfp (by omega) (by omega)]; omega
      have hm1 : W ((((s + r) / 2 : Nat) : Int) + 1) = (((s + r) / 2 + 1 : Nat) : Int) := by rw [W_id (by omega) (by omega)]; simp
      obtain ⟨w, hw1, hw2⟩ := hy x (gt (P ++ L ++ x :: Q) (((s + r) / 2 : Nat) : Int)) hx (by
        rw [gL _ (by omega) (by omega)]; exact hD _ (z91 (by omega) (by omega)))
      rw [zp, if_pos (by simp; omega), hm, hm1, hlen, gx, z06 ⟨by omega, by omega⟩, z06 ⟨by omega, by omega⟩, hw1]
      simp only [Option.bind_some, hw2])
    (by
      intro n s
      rw [zp, if_neg (by simp)]) φ P.length (P.length + L.length) (Nat.le_refl _) (by omega) (Nat.le_refl _) (by omega)
  obtain ⟨A, B, rfl, hC⟩ : ∃ A B, L = A ++ B ∧ A.length = c - P.length := ⟨L.take (c - P.length), L.drop (c - P.length), (List.take_append_drop _ _).symm, by simp; omega⟩
  simp only [List.length_append] at hl hφ h2 gL
  have hA : ∀ z ∈ A, lt x z = false := by
    intro z hz
    rcases z6f A with rfl | ⟨S, w, rfl⟩
    · cases hz
    · simp only [List.length_append, List.length_cons, List.length_nil] at hC hz hS gL h2
      have hp : lt x w = false := by
        rcases h3 with h3 | h3
        · omega
        · rw [gL _ (by omega) (by omega)] at h3
          have e : S ++ [w] ++ B = S ++ w :: B := by simp
          rw [e, z71 (by omega)] at h3
          simpa using h3
      rcases List.mem_append.1 hz with h | h
      · exact hs.ntr _ _ _ hp (hS.parts.1.parts.2.2 z h w (by simp))
      · simp at h; rw [h]; exact hp
  have hB : ∀ z ∈ B, lt x z = true := by
    intro z hz
    cases B with
    | nil => cases hz
    | cons w B =>
      simp only [List.length_cons] at h2 gL h4
      have hp : lt x w = true := by
        rcases h4 with h4 | h4
        · simp at h4; omega
        · rw [gL _ (by omega) (by omega), z71 (by omega)] at h4
          simpa using h4
      rcases List.mem_cons.1 hz with h | h
      · rw [h]; exact hp
      · exact z9b hs (hs.irr x) hp ((List.pairwise_cons.1 hS.parts.2.1).1 z h)
  have hm := z8h hs (A := A) (B := B) (C := [x]) (E := []) (R1 := A ++ [x]) (R2 := B) hS (by rw [List.append_nil]; exact List.pairwise_singleton _ x) (by simpa using hB) (by simp)
    (hS.parts.1.app (List.pairwise_singleton _ _) (by simpa using hA)) (Stb.refl _) hS.parts.2.1 (by simpa using Stb.refl B)
  refine ⟨A ++ [x] ++ B, hm.1, by simpa using hm.2, ?_⟩
  have e5 : ((P.length : Int) + ((A ++ B).length : Nat)) = ((P.length + (A ++ B).length : Nat) : Int) := by simp
  rw [e5] at h5 ⊢
  rw [h5]
  unfold zn
  have e7 : (c : Int) = (((P ++ A).length : Nat) : Int) := by simp; omega
  have e8 : P ++ (A ++ B) ++ x :: Q = (P ++ A) ++ B ++ x :: Q := by simp
  have e9 : ((P.length + (A ++ B).length : Nat) : Int) = (((P ++ A).length : Nat) : Int) + B.length := by simp; omega
  rw [e7, e8, e9, zbw φ _ x (P ++ A) φ B Q (by simp; omega) (by omega)]
  simp [z0p]
end
end Px
end
section
namespace Px
open Go
set_option linter.unusedVariables false
set_option linter.unusedSimpArgs false
set_option maxHeartbeats 4000000
section
variable {D : z3 → Prop} {lt : z3 → z3 → Bool} {y : z3 → z3 → Option Int}
/-- Where the two lists are split. -/
theorem zee (hs : Swo lt) (hy : Cmp D y lt) (φ : Nat) (P L1 L2 Q : List z3) (k : Int → Option (List z3)) (hD1 : ∀ z ∈ L1, D z) (hD2 : ∀ z ∈ L2, D z) (hS1 : Srt lt L1) (hS2 : Srt lt L2)
    (a m b mid s0 r0 : Nat) (ha : a = P.length) (hm : m = a + L1.length) (hb : b = m + L2.length) (hmid : mid = (a + b) / 2) (hl : b + Q.length ≤ 999998) (hφ : b < φ)
    (h1 : 1 ≤ L1.length) (h2 : 1 ≤ L2.length) (hs0 : (mid < m ∧ s0 = mid + m - b ∧ r0 = mid) ∨ (m ≤ mid ∧ s0 = a ∧ r0 = m)) :
    ∃ A B C E, L1 = A ++ B ∧ L2 = C ++ E ∧ mid + m - (a + A.length) = m + C.length ∧ (∀ x ∈ B, ∀ y ∈ C, lt y x = true) ∧ (∀ x ∈ A, ∀ y ∈ E, lt y x = false) ∧
      zo φ (P ++ L1 ++ L2 ++ Q) (a : Int) (m : Int) (b : Int) y k φ (s0 : Int) (r0 : Int) = k ((a + A.length : Nat) : Int) := by
  have g1 : ∀ i : Nat, a ≤ i → i < m → gt (P ++ L1 ++ L2 ++ Q) (i : Int) = gt L1 ((i - a : Nat) : Int) := by
    intro i q1 q2
    have e : P ++ L1 ++ L2 ++ Q = P ++ (L1 ++ (L2 ++ Q)) := by simp
    rw [e, z64 _ _ _ (by omega), z7a _ _ _ (by omega) (by omega)]
    congr 1; omega
  have g2 : ∀ i : Nat, m ≤ i → i < b → gt (P ++ L1 ++ L2 ++ Q) (i : Int) = gt L2 ((i - m : Nat) : Int) := by
    intro i q1 q2
    have e : P ++ L1 ++ L2 ++ Q = (P ++ L1) ++ (L2 ++ Q) := by simp
    rw [e, z64 _ _ _ (by simp; omega), z7a _ _ _ (by simp; omega) (by simp; omega)]
    congr 1; simp; omega
  have hlen : ((P ++ L1 ++ L2 ++ Q).length : Int) = b + Q.length := by simp; omega
  have hW : W ((U (W ((a : Int) + b))).fdiv 2) = (mid : Int) := by rw [zfp (by omega) (by omega)]; omega
  have hn : W ((mid : Int) + m) = ((mid + m : Nat) : Int) := by rw [W_id (by omega) (by omega)]; simp
  have hp : W (((mid + m : Nat) : Int) - 1) = ((mid + m - 1 : Nat) : Int) := by rw [W_id (by omega) (by omega)]; omega
  have hmb : mid ≤ b := by omega
  have ham : a ≤ mid := by omega
  obtain ⟨c, h3, h4, h5, h6, h7⟩ := zdj (zo φ (P ++ L1 ++ L2 ++ Q) (a : Int) (m : Int) (b : Int) y k) k
    (fun c => !lt (gt (P ++ L1 ++ L2 ++ Q) ((mid + m - 1 - c : Nat) : Int)) (gt (P ++ L1 ++ L2 ++ Q) (c : Int))) r0 s0
    (by
      intro n s r q0 hlt hR
      have hm' : (W ((U (W ((s : Int) + r))).fdiv 2)) = (((s + r) / 2 : Nat) : Int) := by rw [zfp (by omega) (by omega)]; omega
      have hm1 : W ((((s + r) / 2 : Nat) : Int) + 1) = (((s + r) / 2 + 1 : Nat) : Int) := by rw [W_id (by omega) (by omega)]; simp
      have hpc : W (((mid + m - 1 : Nat) : Int) - (((s + r) / 2 : Nat) : Int)) = ((mid + m - 1 - (s + r) / 2 : Nat) : Int) := by rw [W_id (by omega) (by omega)]; omega
      obtain ⟨w, hw1, hw2⟩ := hy (gt (P ++ L1 ++ L2 ++ Q) ((mid + m - 1 - (s + r) / 2 : Nat) : Int)) (gt (P ++ L1 ++ L2 ++ Q) (((s + r) / 2 : Nat) : Int))
        (by rw [g2 _ (by omega) (by omega)]; exact hD2 _ (z91 (by omega) (by omega))) (by rw [g1 _ (by omega) (by omega)]; exact hD1 _ (z91 (by omega) (by omega)))
      rw [zo, if_pos (by simp; omega), hm', hm1, hW, hn, hp, hpc, hlen, z06 ⟨by omega, by omega⟩, z06 ⟨by omega, by omega⟩, hw1]
      simp only [Option.bind_some, hw2])
    (by
      intro n s
      rw [zo, if_neg (by simp)]) φ s0 r0 (Nat.le_refl _) (by omega) (Nat.le_refl _) (by omega)
  obtain ⟨A, B, rfl, hA⟩ : ∃ A B, L1 = A ++ B ∧ A.length = c - a := ⟨L1.take (c - a), L1.drop (c - a), (List.take_append_drop _ _).symm, by simp; omega⟩
  obtain ⟨C, E, rfl, hC⟩ : ∃ C E, L2 = C ++ E ∧ C.length = mid - c := ⟨L2.take (mid - c), L2.drop (mid - c), (List.take_append_drop _ _).symm, by simp; omega⟩
  simp only [List.length_append] at hm hb g1 g2
  refine ⟨A, B, C, E, rfl, rfl, by omega, ?_, ?_, ?_⟩
  · intro x hx z hz
    rcases z6f C with rfl | ⟨S, w, rfl⟩
    · cases hz
    · cases B with
      | nil => cases hx
      | cons x0 B =>
        simp only [List.length_append, List.length_cons, List.length_nil] at hC hm hb g1 g2 hA
        have hp : lt w x0 = true := by
          rcases h6 with h6 | h6
          · omega
          · rw [g1 c (by omega) (by omega), g2 (mid + m - 1 - c) (by omega) (by omega)] at h6
            have e : S ++ [w] ++ E = S ++ w :: E := by simp
            rw [e, z71 (by omega), z71 (by omega)] at h6
            simpa using h6
        have hz1 : lt w z = false := by
          rcases List.mem_append.1 hz with h | h
          · exact hS2.parts.1.parts.2.2 z h w (by simp)
          · simp at h; rw [h]; exact hs.irr _
        have hx1 : lt x x0 = false := by
          rcases List.mem_cons.1 hx with h | h
          · rw [h]; exact hs.irr _
          · exact (List.pairwise_cons.1 hS1.parts.2.1).1 x h
        exact z9b hs hz1 hp hx1
  · intro x hx z hz
    rcases z6f A with rfl | ⟨S, w, rfl⟩
    · cases hx
    · cases E with
      | nil => cases hz
      | cons e0 E =>
        simp only [List.length_append, List.length_cons, List.length_nil] at hC hm hb g1 g2 hA
        have hp : lt e0 w = false := by
          rcases h5 with h5 | h5
          · omega
          · have e1 : mid + m - 1 - (c - 1) = mid + m - c := by omega
            rw [e1, g1 (c - 1) (by omega) (by omega), g2 (mid + m - c) (by omega) (by omega)] at h5
            have e : S ++ [w] ++ B = S ++ w :: B := by simp
            rw [e, z71 (by omega), z71 (by omega)] at h5
            simpa using h5
        have hz1 : lt z e0 = false := by
          rcases List.mem_cons.1 hz with h | h
          · rw [h]; exact hs.irr _
          · exact (List.pairwise_cons.1 hS2.parts.2.1).1 z h
        have hx1 : lt w x = false := by
          rcases List.mem_append.1 hx with h | h
          · exact hS1.parts.1.parts.2.2 x h w (by simp)
          · simp at h; rw [h]; exact hs.irr _
        exact zfb hs hz1 hp hx1
  · rw [h7]
    congr 1
    omega
/-- Merging two sorted lists in place. -/
theorem z9s (hs : Swo lt) (hy : Cmp D y lt) : ∀ (φ : Nat) (P L1 L2 Q : List z3), (∀ z ∈ L1, D z) → (∀ z ∈ L2, D z) → Srt lt L1 → Srt lt L2 → L1 ≠ [] → L2 ≠ [] →
    P.length + L1.length + L2.length + Q.length ≤ 999998 → P.length + L1.length + L2.length + (L1.length + L2.length) + 3 < φ →
    ∃ R, Srt lt R ∧ Stb lt (L1 ++ L2) R ∧ z6 φ (P ++ L1 ++ L2 ++ Q) (P.length : Int) ((P.length : Int) + L1.length) ((P.length : Int) + L1.length + L2.length) y = some (P ++ R ++ Q) := by
  intro φ
  induction φ with
  | zero => intro P L1 L2 Q _ _ _ _ _ _ _ h; omega
  | succ φ ih =>
    intro P L1 L2 Q hD1 hD2 hS1 hS2 hn1 hn2 hl hφ
    have hp1 := List.length_pos_iff.2 hn1
    have hp2 := List.length_pos_iff.2 hn2
    rw [z6]
    have w1 : W ((P.length : Int) + L1.length - P.length) = (L1.length : Int) := by rw [W_id (by omega) (by omega)]; omega
    have w2 : W ((P.length : Int) + L1.length + L2.length - ((P.length : Int) + L1.length)) = (L2.length : Int) := by rw [W_id (by omega) (by omega)]; omega
    rw [w1, w2]
    by_cases q1 : L1.length = 1
    · rw [if_pos (by simp [q1])]
      match L1, q1 with
      | [x], _ =>
        obtain ⟨R, r1, r2, r3⟩ := zba hs hy φ P L2 Q x (hD1 x (by simp)) hD2 hS2 (by simp at hl; omega) (by simp at hφ; omega)
        refine ⟨R, r1, r2, ?_⟩
        rw [← r3]
        simp
    · rw [if_neg (by simp; omega)]
      by_cases q2 : L2.length = 1
      · rw [if_pos (by simp [q2])]
        match L2, q2 with
        | [x], _ =>
          obtain ⟨R, r1, r2, r3⟩ := zbx hs hy φ P L1 Q x (hD2 x (by simp)) hD1 hS1 (by simp at hl; omega) (by simp at hφ; omega)
          refine ⟨R, r1, r2, ?_⟩
          rw [← r3]
          simp
      · rw [if_neg (by simp; omega)]
        obtain ⟨a, ha⟩ : ∃ a, a = P.length := ⟨_, rfl⟩
        obtain ⟨m, hm⟩ : ∃ m, m = a + L1.length := ⟨_, rfl⟩
        obtain ⟨b, hb⟩ : ∃ b, b = m + L2.length := ⟨_, rfl⟩
        obtain ⟨mid, hmid⟩ : ∃ mid, mid = (a + b) / 2 := ⟨_, rfl⟩
        have ea : (P.length : Int) = (a : Int) := by omega
        have em : (P.length : Int) + L1.length = (m : Int) := by omega
        have eb : (P.length : Int) + L1.length + L2.length = (b : Int) := by omega
        rw [eb, em, ea]
        have hW : W ((U (W ((a : Int) + b))).fdiv 2) = (mid : Int) := by rw [zfp (by omega) (by omega)]; omega
        have hn : W ((mid : Int) + m) = ((mid + m : Nat) : Int) := by rw [W_id (by omega) (by omega)]; simp
        rw [hW, hn]
        have key : ∃ s0 r0 : Nat, ((mid < m ∧ s0 = mid + m - b ∧ r0 = mid) ∨ (m ≤ mid ∧ s0 = a ∧ r0 = m)) ∧
            (if decide ((mid : Int) < m) = true then zx φ (P ++ L1 ++ L2 ++ Q) (a : Int) (m : Int) (b : Int) y (z6 φ) (W (((mid + m : Nat) : Int) - b)) (mid : Int)
              else zx φ (P ++ L1 ++ L2 ++ Q) (a : Int) (m : Int) (b : Int) y (z6 φ) (a : Int) (m : Int)) =
            zx φ (P ++ L1 ++ L2 ++ Q) (a : Int) (m : Int) (b : Int) y (z6 φ) (s0 : Int) (r0 : Int) := by
          by_cases q : mid < m
          · refine ⟨mid + m - b, mid, .inl ⟨q, rfl, rfl⟩, ?_⟩
            have : W (((mid + m : Nat) : Int) - b) = ((mid + m - b : Nat) : Int) := by rw [W_id (by omega) (by omega)]; omega
            rw [if_pos (by simp; omega), this]
          · refine ⟨a, m, .inr ⟨by omega, rfl, rfl⟩, ?_⟩
            rw [if_neg (by simp; omega)]
        obtain ⟨s0, r0, hk, e⟩ := key
        rw [e]
        unfold zx
        obtain ⟨A, B, C, E, rfl, rfl, hc, hA, hB, hL⟩ := zee hs hy φ P L1 L2 Q (zw φ (P ++ L1 ++ L2 ++ Q) (a : Int) (m : Int) (b : Int) y (z6 φ)) hD1 hD2 hS1 hS2 a m b mid s0 r0 ha hm hb hmid (by omega) (by omega) (by omega) (by omega) hk
        rw [hL]
        simp only [List.length_append] at hm hb hl hφ hp1 hp2 q1 q2
        have hcm : mid = a + A.length + C.length := by omega
        have hend : W (((mid + m : Nat) : Int) - ((a + A.length : Nat) : Int)) = ((m + C.length : Nat) : Int) := by rw [W_id (by omega) (by omega)]; omega
        have step1 : zw φ (P ++ (A ++ B) ++ (C ++ E) ++ Q) (a : Int) (m : Int) (b : Int) y (z6 φ) ((a + A.length : Nat) : Int) =
            z07 φ (a : Int) (m : Int) (b : Int) y (z6 φ) ((a + A.length : Nat) : Int) (P ++ A ++ C ++ B ++ E ++ Q) := by
          unfold zw
          rw [hW, hn, hend]
          by_cases hBC : B = [] ∨ C = []
          · rw [if_neg (by
              rcases hBC with rfl | rfl
              · simp at hm ⊢; omega
              · simp)]
            rcases hBC with rfl | rfl <;> simp
          · obtain ⟨hB0, hC0⟩ := not_or.1 hBC
            have b0 := List.length_pos_iff.2 hB0
            have c0 := List.length_pos_iff.2 hC0
            rw [if_pos (by simp; omega)]
            have := zej φ (P ++ A) B C (E ++ Q) y hB0 hC0 (by simp; omega) (by omega)
            have e1 : P ++ (A ++ B) ++ (C ++ E) ++ Q = P ++ A ++ B ++ C ++ (E ++ Q) := by simp
            have e2 : ((a + A.length : Nat) : Int) = ((P ++ A).length : Nat) := by simp; omega
            have e3 : (m : Int) = ((P ++ A).length : Nat) + (B.length : Int) := by simp; omega
            have e4 : ((m + C.length : Nat) : Int) = ((P ++ A).length : Nat) + (B.length : Int) + C.length := by simp; omega
            rw [e1]
            conv => lhs; rw [e4, e2]; arg 1; rw [e3]
            rw [this]
            simp [ha]
        rw [step1]
        have step2 : ∃ R1, Srt lt R1 ∧ Stb lt (A ++ C) R1 ∧ z07 φ (a : Int) (m : Int) (b : Int) y (z6 φ) ((a + A.length : Nat) : Int) (P ++ A ++ C ++ B ++ E ++ Q) =
            z09 φ (a : Int) (m : Int) (b : Int) y (z6 φ) ((a + A.length : Nat) : Int) (P ++ R1 ++ B ++ E ++ Q) := by
          unfold z07
          rw [hW]
          by_cases hAC : A = [] ∨ C = []
          · refine ⟨A ++ C, ?_, Stb.refl _, ?_⟩
            · rcases hAC with rfl | rfl
              · simpa using hS2.parts.1
              · simpa using hS1.parts.1
            · rw [if_neg (by
                rcases hAC with rfl | rfl
                · simp
                · simp at hcm ⊢; omega)]
              simp
          · obtain ⟨hA0, hC0⟩ := not_or.1 hAC
            have a0 := List.length_pos_iff.2 hA0
            have c0 := List.length_pos_iff.2 hC0
            obtain ⟨R1, r1, r2, r3⟩ := ih P A C (B ++ E ++ Q) (fun z hz => hD1 z (by simp [hz])) (fun z hz => hD2 z (by simp [hz])) hS1.parts.1 hS2.parts.1 hA0 hC0 (by simp; omega) (by omega)
            refine ⟨R1, r1, r2, ?_⟩
            rw [if_pos (by simp; omega)]
            have e1 : P ++ A ++ C ++ B ++ E ++ Q = P ++ A ++ C ++ (B ++ E ++ Q) := by simp
            have e2 : ((a + A.length : Nat) : Int) = (P.length : Int) + A.length := by simp; omega
            have e3 : (mid : Int) = (P.length : Int) + A.length + C.length := by omega
            rw [e1]
            conv => lhs; arg 1; rw [e3, e2, ← ea]
            rw [r3]
            simp
        obtain ⟨R1, r1, r2, e2⟩ := step2
        rw [e2]
        have hR1 : R1.length = A.length + C.length := by rw [r2.len]; simp
        have step3 : ∃ R2, Srt lt R2 ∧ Stb lt (B ++ E) R2 ∧ z09 φ (a : Int) (m : Int) (b : Int) y (z6 φ) ((a + A.length : Nat) : Int) (P ++ R1 ++ B ++ E ++ Q) = some (P ++ (R1 ++ R2) ++ Q) := by
          unfold z09
          rw [hW, hn, hend]
          by_cases hBE : B = [] ∨ E = []
          · refine ⟨B ++ E, ?_, Stb.refl _, ?_⟩
            · rcases hBE with rfl | rfl
              · simpa using hS2.parts.2.1
              · simpa using hS1.parts.2.1
            · rw [if_neg (by
                rcases hBE with rfl | rfl
                · simp at hm ⊢; omega
                · simp at hb ⊢; omega)]
              simp
          · obtain ⟨hB0, hE0⟩ := not_or.1 hBE
            have b0 := List.length_pos_iff.2 hB0
            have c0 := List.length_pos_iff.2 hE0
            obtain ⟨R2, p1, p2, p3⟩ := ih (P ++ R1) B E Q (fun z hz => hD1 z (by simp [hz])) (fun z hz => hD2 z (by simp [hz])) hS1.parts.2.1 hS2.parts.2.1 hB0 hE0 (by simp; omega) (by simp; omega)
            refine ⟨R2, p1, p2, ?_⟩
            rw [if_pos (by simp; omega)]
            have e1 : (mid : Int) = ((P ++ R1).length : Nat) := by simp; omega
            have e3 : ((m + C.length : Nat) : Int) = ((P ++ R1).length : Nat) + (B.length : Int) := by simp; omega
            have e4 : (b : Int) = ((P ++ R1).length : Nat) + (B.length : Int) + E.length := by simp; omega
            conv => lhs; arg 1; rw [e4, e3, e1]
            rw [p3]
            simp
        obtain ⟨R2, p1, p2, e3⟩ := step3
        rw [e3]
        have hm' := z8h hs hS1 hS2 hA hB r1 r2 p1 p2
        exact ⟨R1 ++ R2, hm'.1, hm'.2, rfl⟩
end
end Px
end
section
namespace Px
open Go
set_option linter.unusedVariables false
set_option linter.unusedSimpArgs false
set_option maxHeartbeats 1000000
section
variable {D : z3 → Prop} {lt : z3 → z3 → Bool} {y : z3 → z3 → Option Int}
theorem ze5 (hy : Cmp D y lt) (φ : Nat) (k : List z3 → Option (List z3)) (P : List z3) (x : z3) (hx : D x) : ∀ (n : Nat) (S1 S2 : List z3), (∀ z ∈ S1, D z) → P.length + S1.length + S2.length ≤ 1000000 → S1.length < n →
    ∃ A B, S1 = A ++ B ∧ (∀ z ∈ B, lt x z = true) ∧ (A = [] ∨ ∃ A' z, A = A' ++ [z] ∧ lt x z = false) ∧
      zr φ (P.length : Int) y k n ((P.length : Int) + S1.length) (P ++ S1 ++ x :: S2) = k (P ++ A ++ x :: (B ++ S2)) := by
  intro n
  induction n with
  | zero => intro S1 S2 _ _ h; omega
  | succ n ih =>
    intro S1 S2 hD hl hn
    rcases List.eq_nil_or_concat S1 with rfl | ⟨S, z, rfl⟩
    · refine ⟨[], [], rfl, by simp, .inl rfl, ?_⟩
      have h0 : decide ((P.length : Int) < (P.length : Int) + (([] : List z3).length : Int)) = false := by simp
      rw [zr, h0]
      simp [ck, z5l]
    · simp only [List.concat_eq_append] at hD hl hn ⊢
      simp only [List.length_append, List.length_cons, List.length_nil] at hl hn
      have e1 : P ++ (S ++ [z]) ++ x :: S2 = (P ++ S ++ [z]) ++ x :: S2 := by simp
      have e2 : P ++ (S ++ [z]) ++ x :: S2 = (P ++ S) ++ z :: (x :: S2) := by simp
      have g1 : gt (P ++ (S ++ [z]) ++ x :: S2) ((P.length : Int) + ((S ++ [z]).length : Int)) = x := by
        rw [e1]; exact z71 (by simp <;> omega)
      have hw : W ((P.length : Int) + ((S ++ [z]).length : Int) - 1) = (P.length : Int) + S.length := by
        rw [W_id (by simp; omega) (by simp; omega)]; simp; omega
      have g2 : gt (P ++ (S ++ [z]) ++ x :: S2) ((P.length : Int) + (S.length : Int)) = z := by
        rw [e2]; exact z71 (by simp)
      have h0 : decide ((P.length : Int) < (P.length : Int) + ((S ++ [z]).length : Int)) = true := by simp; omega
      have hlen : ((P ++ (S ++ [z]) ++ x :: S2).length : Int) = P.length + S.length + 1 + 1 + S2.length := by simp; omega
      obtain ⟨w, hw1, hw2⟩ := hy x z hx (hD z (by simp))
      have s1 : z2x (P ++ (S ++ [z]) ++ x :: S2) ((P.length : Int) + ((S ++ [z]).length : Int)) z = (P ++ S) ++ z :: (z :: S2) := by
        rw [e1, z90 (by simp <;> omega)]; simp
      have s2 : z2x ((P ++ S) ++ z :: (z :: S2)) ((P.length : Int) + (S.length : Int)) x = P ++ S ++ x :: (z :: S2) := z90 (by simp)
      rw [zr, hw, h0, g1, g2, hw1, hlen]
      rw [z06 (fun _ => ⟨by omega, by simp; omega⟩), z06 (fun _ => ⟨by omega, by omega⟩), zfc rfl]
      simp only [Option.bind_some, hw2, Bool.true_and]
      cases hlt : lt x z with
      | true =>
        rw [if_pos rfl, z06 ⟨by omega, by omega⟩, z06 ⟨by omega, by simp; omega⟩, s1]
        rw [z06 ⟨by omega, by simp; omega⟩, s2]
        obtain ⟨A, B, q1, q2, q3, q4⟩ := ih S (z :: S2) (fun u hu => hD u (by simp [hu])) (by simp; omega) (by omega)
        refine ⟨A, B ++ [z], by rw [q1]; simp, ?_, q3, ?_⟩
        · intro u hu
          rcases List.mem_append.1 hu with h | h
          · exact q2 u h
          · simp at h; rw [h]; exact hlt
        · rw [q4]; simp
      | false =>
        rw [if_neg (by simp)]
        exact ⟨S ++ [z], [], by simp, by simp, .inr ⟨S, z, rfl, hlt⟩, by simp⟩
theorem zd3 (hs : Swo lt) (hy : Cmp D y lt) (φ : Nat) (P Q : List z3) : ∀ (n : Nat) (S R : List z3), S ≠ [] → Srt lt S → (∀ z ∈ S, D z) → (∀ z ∈ R, D z) → P.length + S.length + R.length + Q.length ≤ 1000000 → P.length + S.length + R.length < φ → R.length < n →
    ∃ S', Srt lt S' ∧ Stb lt (S ++ R) S' ∧ za φ (P.length : Int) ((P.length : Int) + S.length + R.length) y n ((P.length : Int) + S.length) (P ++ S ++ R ++ Q) = some (P ++ S' ++ Q) := by
  intro n
  induction n with
  | zero => intro S R _ _ _ _ _ _ h; omega
  | succ n ih =>
    intro S R hne hS hD hD' hl hφ hn
    cases R with
    | nil =>
      refine ⟨S, hS, by simpa using Stb.refl S, ?_⟩
      rw [za, if_neg (by simp)]
      simp
    | cons x R =>
      simp only [List.length_cons] at hl hφ hn
      rw [za, if_pos (by simp; omega)]
      obtain ⟨A, B, q1, q2, q3, q4⟩ := ze5 hy φ (zt φ ((P.length : Int) + S.length) (za φ (P.length : Int) ((P.length : Int) + S.length + (x :: R).length) y n)) P x (hD' x (by simp)) φ S (R ++ Q) hD (by simp; omega) (by omega)
      rw [show P ++ S ++ x :: R ++ Q = P ++ S ++ x :: (R ++ Q) by simp, q4]
      have hA : ∀ u ∈ A, lt x u = false := by
        rcases q3 with rfl | ⟨A', z, rfl, hz⟩
        · simp
        · intro u hu
          rcases List.mem_append.1 hu with h | h
          · subst q1
            have := (hS.parts.1).parts.2.2 u h z (by simp)
            exact hs.ntr _ _ _ hz this
          · simp at h; rw [h]; exact hz
      have hS2 : Srt lt (A ++ x :: B) := by
        subst q1
        refine hS.parts.1.app (List.pairwise_cons.2 ⟨fun u hu => hs.asym _ _ (q2 u hu), hS.parts.2.1⟩) fun u hu v hv => ?_
        rcases List.mem_cons.1 hv with h | h
        · subst h; exact hA u hu
        · exact hS.parts.2.2 u hu v h
      obtain ⟨S', p1, p2, p3⟩ := ih (A ++ x :: B) R (by simp) hS2 (fun z hz => by
        subst q1
        simp only [List.mem_append, List.mem_cons] at hz
        rcases hz with h | h | h
        · exact hD z (by simp [h])
        · subst h; exact hD' _ (by simp)
        · exact hD z (by simp [h])) (fun z hz => hD' z (by simp [hz])) (by subst q1; simp at hl ⊢; omega) (by subst q1; simp at hφ ⊢; omega) (by omega)
      refine ⟨S', p1, ?_, ?_⟩
      · have h1 : Stb lt (S ++ [x]) (A ++ [x] ++ B) := by subst q1; exact zd9 hs q2
        have := h1.app (Stb.refl R)
        refine Stb.trans ?_ (Stb.trans this ?_)
        · simpa using Stb.refl (lt := lt) (S ++ x :: R)
        · simpa using p2
      · rw [← p3]
        unfold zt
        have e1 : W ((P.length : Int) + S.length + 1) = (P.length : Int) + S.length + 1 := W_id (by omega) (by omega)
        have hSl : S.length = A.length + B.length := by rw [q1]; simp
        have e2 : (P.length : Int) + S.length + 1 = P.length + (A ++ x :: B).length := by simp; omega
        have e3 : (P.length : Int) + S.length + (x :: R).length = P.length + (A ++ x :: B).length + R.length := by simp; omega
        have e4 : P ++ A ++ x :: (B ++ (R ++ Q)) = P ++ (A ++ x :: B) ++ R ++ Q := by simp
        rw [e1, e2, e3, e4]
theorem z8a (hs : Swo lt) (hy : Cmp D y lt) (φ : Nat) (P X Q : List z3) (hD : ∀ z ∈ X, D z) (hl : P.length + X.length + Q.length ≤ 1000000) (hφ : P.length + X.length < φ) :
    ∃ X', Srt lt X' ∧ Stb lt X X' ∧ z0m φ (P ++ X ++ Q) (P.length : Int) ((P.length : Int) + X.length) y = some (P ++ X' ++ Q) := by
  unfold z0m
  rw [W_id (x := (P.length : Int) + 1) (by omega) (by omega)]
  cases X with
  | nil =>
    refine ⟨[], List.Pairwise.nil, Stb.refl _, ?_⟩
    obtain ⟨n, rfl⟩ : ∃ n, φ = n + 1 := ⟨φ - 1, by omega⟩
    rw [za, if_neg (by simp; omega)]
  | cons x R =>
    simp only [List.length_cons] at hl hφ
    obtain ⟨S', p1, p2, p3⟩ := zd3 hs hy φ P Q φ [x] R (by simp) (List.pairwise_singleton _ _) (fun z hz => hD z (by simp at hz; simp [hz])) (fun z hz => hD z (by simp [hz])) (by simp; omega) (by simp; omega) (by omega)
    refine ⟨S', p1, by simpa using p2, ?_⟩
    rw [← p3]
    simp only [List.append_assoc, List.cons_append, List.length_cons, List.length_nil, List.nil_append]
    congr 1
    simp; omega
end
end Px
end
section
namespace Px
open Go
set_option linter.unusedVariables false
set_option linter.unusedSimpArgs false
set_option maxHeartbeats 4000000
section
variable {D : z3 → Prop} {lt : z3 → z3 → Bool} {y : z3 → z3 → Option Int}
theorem zbq (hs : Swo lt) (hy : Cmp D y lt) (φ N : Nat) (k : Int → List z3 → Option (List z3)) (hN : N ≤ 900000) (hφ : N < φ) :
    ∀ (n : Nat) (X Y : List z3), (∀ z ∈ Y, D z) → X.length + Y.length = N → Y.length < n →
    ∃ Y1 Y2 Y1', Y = Y1 ++ Y2 ∧ Runs lt 20 (Y1' ++ []) ∧ Y2.length < 20 ∧ Stb lt Y1 Y1' ∧ (∀ T, Runs lt 20 T → Runs lt 20 (Y1' ++ T)) ∧
      z0h φ (N : Int) y k n (X.length : Int) ((X.length : Int) + 20) (X ++ Y) = k ((X.length : Int) + Y1.length) (X ++ Y1' ++ Y2) := by
  intro n
  induction n with
  | zero => intro X Y _ _ h; omega
  | succ n ih =>
    intro X Y hD hl hn
    rw [z0h]
    by_cases h : Y.length < 20
    · refine ⟨[], Y, [], rfl, .last (by simp) List.Pairwise.nil, h, Stb.refl _, fun T hT => hT, ?_⟩
      rw [if_neg (by simp; omega)]
      simp
    · obtain ⟨B, Z, rfl, hB⟩ : ∃ B Z, Y = B ++ Z ∧ B.length = 20 := ⟨Y.take 20, Y.drop 20, (List.take_append_drop _ _).symm, by simp; omega⟩
      simp only [List.length_append] at hl hn h
      rw [if_pos (by simp; omega)]
      obtain ⟨B', b1, b2, b3⟩ := z8a hs hy φ X B Z (fun z hz => hD z (by simp [hz])) (by omega) (by omega)
      rw [hB] at b3
      have e1 : X ++ (B ++ Z) = X ++ B ++ Z := by simp
      have e2 : ((20 : Nat) : Int) = 20 := rfl
      rw [e2] at b3
      rw [e1, b3]
      simp only [Option.bind_some]
      have hB' : B'.length = 20 := by rw [b2.len, hB]
      have w1 : W ((X.length : Int) + 20 + 20) = (X.length : Int) + 20 + 20 := W_id (by omega) (by omega)
      have e3 : (X.length : Int) + 20 = ((X ++ B').length : Nat) := by simp [hB']
      rw [w1]
      obtain ⟨Y1, Y2, Y1', q1, q2, q3, q4, q5, q6⟩ := ih (X ++ B') Z (fun z hz => hD z (by simp [hz])) (by simp; omega) (by omega)
      rw [← e3] at q6
      refine ⟨B ++ Y1, Y2, B' ++ Y1', by rw [q1]; simp, ?_, q3, b2.app q4, fun T hT => ?_, ?_⟩
      · rw [List.append_assoc]; exact .cons hB' b1 q2
      · rw [List.append_assoc]; exact .cons hB' b1 (q5 T hT)
      · rw [q6]
        have e4 : (X.length : Int) + 20 + Y1.length = (X.length : Int) + ((B ++ Y1).length : Nat) := by simp; omega
        rw [e4]
        simp
theorem zfs (hs : Swo lt) (hy : Cmp D y lt) (φ N bs : Nat) (k : Int → List z3 → Option (List z3)) (hN : N ≤ 900000) (hφ : 2 * N + 3 < φ) (hb0 : 0 < bs) (hb : bs ≤ 900000) :
    ∀ (n : Nat) (X Y : List z3), (∀ z ∈ Y, D z) → Runs lt bs Y → X.length + Y.length = N → Y.length < n →
    ∃ Y', Runs lt (bs * 2) Y' ∧ Stb lt Y Y' ∧ z10 φ (N : Int) y (bs : Int) (z0i φ (N : Int) y (bs : Int) k) n (X.length : Int) ((X.length : Int) + 2 * bs) (X ++ Y) = k ((bs * 2 : Nat) : Int) (X ++ Y') := by
  intro n
  induction n with
  | zero => intro X Y _ _ _ h; omega
  | succ n ih =>
    intro X Y hD hR hl hn
    have w1 : W ((X.length : Int) + bs) = (X.length : Int) + bs := W_id (by omega) (by omega)
    have w2 : W ((bs : Int) * 2) = ((bs * 2 : Nat) : Int) := by rw [W_id (by omega) (by omega)]; simp
    have w3 : W (2 * (bs : Int)) = 2 * (bs : Int) := W_id (by omega) (by omega)
    have w4 : W ((X.length : Int) + 2 * bs + 2 * bs) = (X.length : Int) + 2 * bs + 2 * bs := W_id (by omega) (by omega)
    rw [z10, w1, w3, w4]
    by_cases h : 2 * bs ≤ Y.length
    · rw [if_pos (by simp; omega)]
      obtain ⟨B1, r, rfl, h1, s1, hr, hne⟩ := hR.big (by omega)
      simp only [List.length_append] at hl hn h
      obtain ⟨B2, Z, rfl, h2, s2, hZ⟩ : ∃ B2 Z, r = B2 ++ Z ∧ B2.length = bs ∧ Srt lt B2 ∧ Runs lt bs Z := by
        by_cases q : r.length = bs
        · exact ⟨r, [], by simp, q, hr.small (by omega), .last (by simp) List.Pairwise.nil⟩
        · obtain ⟨b, r', e, q1, q2, q3, _⟩ := hr.big (by omega)
          exact ⟨b, r', e, q1, q2, q3⟩
      simp only [List.length_append] at hl hn h
      obtain ⟨R, r1, r2, r3⟩ := z9s hs hy φ X B1 B2 Z (fun z hz => hD z (by simp [hz])) (fun z hz => hD z (by simp [hz])) s1 s2 (by intro e; subst e; simp at h1; omega) (by intro e; subst e; simp at h2; omega) (by omega) (by omega)
      have hRl : R.length = 2 * bs := by rw [r2.len]; simp; omega
      have e1 : X ++ (B1 ++ (B2 ++ Z)) = X ++ B1 ++ B2 ++ Z := by simp
      have e2 : (X.length : Int) + bs = (X.length : Int) + B1.length := by omega
      have e3 : (X.length : Int) + 2 * bs = (X.length : Int) + B1.length + B2.length := by omega
      have e4 : (X.length : Int) + 2 * bs = ((X ++ R).length : Nat) := by simp; omega
      obtain ⟨Y', p1, p2, p3⟩ := ih (X ++ R) Z (fun z hz => hD z (by simp [hz])) hZ (by simp; omega) (by omega)
      refine ⟨R ++ Y', .cons (by omega) r1 p1, ?_, ?_⟩
      · have := r2.app p2
        simpa using this
      · rw [e1]
        conv => lhs; arg 1; rw [e2, e3]
        rw [r3]
        simp only [Option.bind_some]
        rw [e4, p3]
        simp
    · rw [if_neg (by simp; omega)]
      unfold z0i z1j
      rw [w1, w2]
      by_cases q : bs < Y.length
      · rw [if_pos (by simp; omega)]
        obtain ⟨B1, B2, rfl, h1, s1, hr, hne⟩ := hR.big q
        simp only [List.length_append] at hl hn h
        obtain ⟨R, r1, r2, r3⟩ := z9s hs hy φ X B1 B2 [] (fun z hz => hD z (by simp [hz])) (fun z hz => hD z (by simp [hz])) s1 (hr.small (by omega)) (by intro e; subst e; simp at h1; omega) hne (by simp; omega) (by omega)
        have e1 : X ++ (B1 ++ B2) = X ++ B1 ++ B2 ++ [] := by simp
        have e2 : (X.length : Int) + bs = (X.length : Int) + B1.length := by omega
        have e3 : (N : Int) = (X.length : Int) + B1.length + B2.length := by omega
        refine ⟨R, .last (by rw [r2.len]; simp; omega) r1, r2, ?_⟩
        rw [e1, e2, e3, r3]
        simp
      · rw [if_neg (by simp; omega)]
        exact ⟨Y, .last (by omega) (hR.small (by omega)), Stb.refl _, rfl⟩
theorem ze2 (hs : Swo lt) (hy : Cmp D y lt) (φ N : Nat) (hN : N ≤ 400000) (hφ : 2 * N + 3 < φ) :
    ∀ (n bs : Nat) (Y : List z3), (∀ z ∈ Y, D z) → Runs lt bs Y → Y.length = N → 0 < bs → bs ≤ 900000 → N - bs < n →
    ∃ Y', Srt lt Y' ∧ Stb lt Y Y' ∧ zb φ (N : Int) y n (bs : Int) Y = some Y' := by
  intro n
  induction n with
  | zero => intro bs Y _ _ _ _ _ h; omega
  | succ n ih =>
    intro bs Y hD hR hl hb0 hb hn
    rw [zb]
    by_cases h : bs < N
    · rw [if_pos (by simp; omega), W_id (x := 2 * (bs : Int)) (by omega) (by omega)]
      obtain ⟨Y', p1, p2, p3⟩ := zfs hs hy φ N bs (zb φ (N : Int) y n) (by omega) hφ hb0 hb φ [] Y hD hR (by simpa using hl) (by omega)
      obtain ⟨Y'', q1, q2, q3⟩ := ih (bs * 2) Y' (fun z hz => hD z (p2.mem.1 hz)) p1 (by rw [p2.len, hl]) (by omega) (by omega) (by omega)
      refine ⟨Y'', q1, p2.trans q2, ?_⟩
      rw [← q3]
      simpa using p3
    · rw [if_neg (by simp; omega)]
      exact ⟨Y, hR.small (by omega), Stb.refl _, rfl⟩
/-- The stable sort sorts, and keeps the order of equal elements. -/
theorem zbb (hs : Swo lt) (hy : Cmp D y lt) (φ : Nat) (v : List z3) (hD : ∀ z ∈ v, D z) (hN : v.length ≤ 400000) (hφ : 2 * v.length + 3 < φ) :
    ∃ r, Srt lt r ∧ Stb lt v r ∧ z2m φ v y = some r := by
  unfold z2m z3u
  obtain ⟨Y1, Y2, Y1', q1, q2, q3, q4, q5, q6⟩ := zbq hs hy φ v.length (zy φ (v.length : Int) y) (by omega) (by omega) φ [] v hD (by simp) (by omega)
  have q6' : z0h φ (v.length : Int) y (zy φ (v.length : Int) y) φ 0 20 v = zy φ (v.length : Int) y (Y1.length : Int) (Y1' ++ Y2) := by simpa using q6
  rw [q6']
  unfold zy
  have hl : v.length = Y1.length + Y2.length := by rw [q1]; simp
  have hl1 : Y1'.length = Y1.length := q4.len
  obtain ⟨Y2', p1, p2, p3⟩ := z8a hs hy φ Y1' Y2 [] (fun z hz => hD z (by rw [q1]; simp [hz])) (by simp; omega) (by omega)
  simp only [List.append_nil] at p3
  have e1 : (Y1.length : Int) = Y1'.length := by omega
  have e2 : (v.length : Int) = (Y1'.length : Int) + Y2.length := by omega
  have p3' : z0m φ (Y1' ++ Y2) (Y1.length : Int) (v.length : Int) y = some (Y1' ++ Y2') := by rw [e1, e2]; exact p3
  have hst : Stb lt v (Y1' ++ Y2') := by rw [q1]; exact q4.app p2
  obtain ⟨r, r1, r2, r3⟩ := ze2 hs hy φ v.length hN hφ φ 20 (Y1' ++ Y2') (fun z hz => hD z (hst.mem.1 hz)) (q5 _ (.last (by rw [p2.len]; omega) p1)) hst.len (by omega) (by omega) (by omega)
  refine ⟨r, r1, hst.trans r2, ?_⟩
  rw [p3']
  simp only [Option.bind_some]
  have r3' : zb φ (v.length : Int) y φ 20 (Y1' ++ Y2') = some r := r3
  rw [r3']
  rfl
end
end Px
end
section
namespace Px
open Go
set_option linter.unusedVariables false
set_option linter.unusedSimpArgs false
/-- What is known of the pairs: each is a delivery and a receipt that fit; no receipt, no delivery twice; used tells the receipts. -/
structure PInv (p : Pool) (l : List zf) (rs done : List Int) (st : List (Int × Bool) × List (Nat → Int)) : Prop where
  pr : ∀ x ∈ st.2, ∃ d k, x = ofL [d, k] ∧ d ∈ done ∧ k ∈ rs ∧ zby p (gt l d) = true ∧ zaf l [] d k = false
  used : ∀ k, (mget st.1 k).getD false = true ↔ ∃ x ∈ st.2, x 1 = k
  nd : (st.2.map fun x => x 1).Nodup
  sub : (st.2.map fun x => x 0).Sublist done
theorem zff {κ ν : Type} [BEq κ] [LawfulBEq κ] (m : List (κ × ν)) (k j : κ) (v : ν) : mget (mset m k v) j = if j == k then some v else mget m j := by
  induction m with
  | nil => simp [mset, mget]
  | cons a m ih =>
    obtain ⟨a, b⟩ := a
    simp only [mset]
    cases h : (k == a) with
    | true =>
      have := eq_of_beq h; subst this
      simp only [cond_true, mget]
      cases j == k <;> simp
    | false =>
      simp only [cond_false, mget, ih]
      cases h2 : (j == a) with
      | false => simp
      | true =>
        have := eq_of_beq h2; subst this
        have : (j == k) = false := by
          cases e : (j == k) with
          | false => rfl
          | true => rw [eq_of_beq e] at h; simp at h
        simp [this]
theorem zcp {l : List zf} {used : List (Int × Bool)} {i k : Int} (h : zaf l used i k = false) : zaf l [] i k = false ∧ (mget used k).getD false = false := by
  simp only [zaf, unf5, z94] at h ⊢
  exact ⟨⟨⟨⟨⟨⟨rfl, h.1.1.1.1.2⟩, h.1.1.1.2⟩, h.1.1.2⟩, h.1.2⟩, h.2⟩, h.1.1.1.1.1⟩
theorem zac (l : List zf) (used : List (Int × Bool)) (i : Int) : ∀ (rs : List Int) (b : Int), (0 ≤ rs.foldl (z8c l used i) b) → (rs.foldl (z8c l used i) b = b ∨ rs.foldl (z8c l used i) b ∈ rs ∧ zaf l used i (rs.foldl (z8c l used i) b) = false) := by
  intro rs
  induction rs with
  | nil => intro b _; exact .inl rfl
  | cons k rs ih =>
    intro b h
    simp only [List.foldl_cons] at h ⊢
    rcases ih _ h with e | ⟨e1, e2⟩
    · rw [e]
      unfold z8c
      split
      · exact .inl rfl
      · rename_i hu
        split
        · exact .inl rfl
        · exact .inr ⟨List.mem_cons_self, by simpa using hu⟩
    · exact .inr ⟨List.mem_cons_of_mem _ e1, e2⟩
theorem zlr {p : Pool} {l : List zf} {rs done : List Int} {st : List (Int × Bool) × List (Nat → Int)} (h : PInv p l rs done st) (d : Int) : PInv p l rs (done ++ [d]) (z9y p l rs st d) := by
  have keep : PInv p l rs (done ++ [d]) st := ⟨fun x hx => by
      obtain ⟨a, k, h1, h2, h3⟩ := h.pr x hx
      exact ⟨a, k, h1, by simp [h2], h3⟩, h.used, h.nd, h.sub.trans (List.sublist_append_left _ _)⟩
  unfold z9y
  split
  · exact keep
  · rename_i hp
    split
    · rename_i hb
      rcases zac l st.1 d rs (-1) hb with e | ⟨e1, e2⟩
      · have : z6g l st.1 d rs = -1 := e
        omega
      · have hm : z6g l st.1 d rs ∈ rs := e1
        obtain ⟨u1, u2⟩ := zcp (show zaf l st.1 d (z6g l st.1 d rs) = false from e2)
        generalize z6g l st.1 d rs = b at *
        refine ⟨fun x hx => ?_, fun k => ?_, ?_, ?_⟩
        · rcases List.mem_append.1 hx with hx | hx
          · exact keep.pr x hx
          · simp at hx; subst hx
            exact ⟨d, b, rfl, by simp, hm, by simpa using hp, u1⟩
        · simp only [zff]
          by_cases q : k = b
          · subst q; simp; right; rfl
          · rw [if_neg (by simp [q]), h.used k]
            constructor
            · rintro ⟨x, hx, e⟩; exact ⟨x, by simp [hx], e⟩
            · rintro ⟨x, hx, e⟩
              rcases List.mem_append.1 hx with hx | hx
              · exact ⟨x, hx, e⟩
              · simp at hx; subst hx; exact absurd e.symm q
        · simp only [List.map_append, List.map_cons, List.map_nil]
          rw [List.nodup_append]
          refine ⟨h.nd, by simp, fun a ha c hc => ?_⟩
          simp at hc
          obtain ⟨x, hx, e⟩ := List.mem_map.1 ha
          intro e'
          have : (mget st.1 b).getD false = true := (h.used b).2 ⟨x, hx, by rw [e, e', hc]; rfl⟩
          rw [u2] at this; cases this
        · simp only [List.map_append, List.map_cons, List.map_nil]
          exact h.sub.append (List.Sublist.refl _)
    · exact keep
theorem zhf {p : Pool} {l : List zf} {rs : List Int} : ∀ (ds done : List Int) (st : List (Int × Bool) × List (Nat → Int)), PInv p l rs done st → PInv p l rs (done ++ ds) (ds.foldl (z9y p l rs) st)
  | [], done, st, h => by simpa using h
  | d :: ds, done, st, h => by
    have := zhf ds (done ++ [d]) _ (zlr h d)
    simpa using this
theorem pinv (p : Pool) (l : List zf) (rs ds : List Int) : PInv p l rs ds (ds.foldl (z9y p l rs) ([], [])) := by
  have := zhf (p := p) (l := l) (rs := rs) ds [] ([], []) ⟨by simp, by simp [mget], by simp, by simp⟩
  simpa using this
end Px
end
section
namespace Px
open Go
set_option linter.unusedVariables false
set_option linter.unusedSimpArgs false
def mkH (l : List zf) (x : Nat → Int) : z3 :=
  z3.mk (gt l (x 0)).fItem.fWagon (gt l (x 0)).fItem.fPlace (gt l (x 0)).fRef.fRailway (gt l (x 1)).fRef.fRailway (W ((W (((gt l (x 0)).fItem.fFrom) + ((gt l (x 1)).fItem.fFrom))).tdiv 2)) (max2 ((gt l (x 0)).fItem.fCode) ((gt l (x 1)).fItem.fCode)) (gt l (x 0)).fRef (gt l (x 1)).fRef
theorem zkb (φ : Nat) (l : List zf) (ps : List (Nat → Int)) (hl : ps.length ≤ 100000) (hp : ∀ x ∈ ps, (0 ≤ x 0 ∧ x 0 < (l.length : Int)) ∧ 0 ≤ x 1 ∧ x 1 < (l.length : Int)) (hφ : ps.length < φ) (k : List z3 → Option (List z3)) :
    z2d φ l ps k φ 0 [] = k (ps.map (mkH l)) := by
  refine z74 (z2d φ l ps k) ps.length (fun j s => s = (ps.take j).map (mkH l)) (fun o => o = k (ps.map (mkH l))) ?_ ?_ φ [] (by simp) hφ
  · intro n j s hj hs hk
    obtain ⟨h0, h1⟩ := hp _ (z91 (l := ps) (i := (j : Int)) (by omega) (by omega))
    have hsl : s.length ≤ j := by rw [hs]; simp; omega
    have w : W ((j : Int) + 1) = (j : Int) + 1 := W_id (by omega) (by omega)
    rw [z2d, if_pos (by simp; omega), z06 ⟨by omega, by omega⟩, z06 h0, z06 h1]
    unfold z66
    rw [z06 (za1 (by simp; omega) (by omega)), w]
    refine hk _ ?_
    rw [z7x ps j hj, List.map_append, ← hs]
    rfl
  · intro n s hs
    rw [List.take_length] at hs
    rw [z2d, if_neg (by simp), hs]
theorem ziu {p : Pool} {l : List zf} {rs ds : List Int} (hr : ∀ z ∈ rs, 0 ≤ z ∧ z < (l.length : Int)) (hd : ∀ z ∈ ds, 0 ≤ z ∧ z < (l.length : Int)) :
    ∀ x ∈ zaz p l rs ds, (0 ≤ x 0 ∧ x 0 < (l.length : Int)) ∧ 0 ≤ x 1 ∧ x 1 < (l.length : Int) := by
  intro x hx
  obtain ⟨d, k, rfl, h1, h2, _⟩ := (pinv p l rs ds).pr x hx
  exact ⟨hd d h1, hr k h2⟩
theorem zmo (p : Pool) (l : List zf) (rs ds : List Int) : (zaz p l rs ds).length ≤ ds.length := by
  have := (pinv p l rs ds).sub.length_le
  simpa [zaz] using this
end Px
end
section
namespace Px
open Go
set_option linter.unusedVariables false
set_option linter.unusedSimpArgs false
def zhw (a : List zj) : zj := gt a ((a.length : Int) - 1)
def z2h (w : Int) (a : List zj) (h : z3) : List zj :=
  if (((h.fWagon == w) && (h.fFrom == (zhw a).fRailway)) && decide ((zhw a).fSpan.fFrom < h.fAt)) = true then a ++ [zj.mk h.fTo (Span.mk h.fAt 0) h.fReceive] else a
def zhy (p : Pool) (w : Int) : zj := zj.mk (gt p.fNetwork.fPlaces ((gt p.fFleet.fWagons w).fHome)).fRailway (Span.mk 0 0) (Ref.mk 0 0)
def zbz (c : zj) (w : Int) (ms : List z3) : List zj := ms.foldl (z2h w) [c]
theorem zc6 (w : Int) (a : List zj) (h : z3) : a.length ≤ (z2h w a h).length ∧ (z2h w a h).length ≤ a.length + 1 := by
  unfold z2h; split <;> simp
theorem zk6 (φ : Nat) (w : Int) (ms : List z3) (c : zj) (hl : ms.length ≤ 100000) (hφ : ms.length < φ) :
    z24 φ w ms (z2v φ) φ 0 [c] = some (zbz c w ms) := by
  refine z74 (z24 φ w ms (z2v φ)) ms.length (fun j s => s = (ms.take j).foldl (z2h w) [c] ∧ 1 ≤ s.length ∧ s.length ≤ j + 1) (fun o => o = some (zbz c w ms)) ?_ ?_ φ [c] ⟨by simp, by simp, by simp⟩ hφ
  · intro n j s hj ⟨hs, h1, h2⟩ hk
    have w1 : W ((j : Int) + 1) = (j : Int) + 1 := W_id (by omega) (by omega)
    have w2 : W ((s.length : Int) - 1) = (s.length : Int) - 1 := W_id (by omega) (by omega)
    have hnext : (ms.take (j + 1)).foldl (z2h w) [c] = z2h w s (gt ms (j : Int)) := by
      rw [z7x ms j hj, List.foldl_append, ← hs]; rfl
    have hle := zc6 w s (gt ms (j : Int))
    rw [z24, if_pos (by simp; omega), z06 ⟨by omega, by omega⟩, w2, z06 ⟨by omega, by omega⟩]
    have hlast : gt s ((s.length : Int) - 1) = zhw s := rfl
    rw [hlast]
    unfold z57
    rw [w1]
    split
    · rename_i h
      rw [z06 (za1 (by simp; omega) (by omega))]
      refine hk _ ⟨?_, by simp, by simp; omega⟩
      rw [hnext]; unfold z2h; rw [if_pos h]
    · rename_i h
      refine hk _ ⟨?_, h1, by omega⟩
      rw [hnext]; unfold z2h; rw [if_neg h]
  · intro n s ⟨hs, _⟩
    rw [List.take_length] at hs
    rw [z24, if_neg (by simp), hs]
    rfl
theorem zn4 (φ : Nat) (p : Pool) (l : List zf) (w : Int) (ms : List z3) (hm : z4l φ p l = some ms) (hl : ms.length ≤ 100000) (hφ : ms.length < φ)
    (hw : 0 ≤ w ∧ w < (p.fFleet.fWagons.length : Int)) (hh : 0 ≤ (gt p.fFleet.fWagons w).fHome ∧ (gt p.fFleet.fWagons w).fHome < (p.fNetwork.fPlaces.length : Int)) :
    z6e φ p l w = some (zbz (zhy p w) w ms) := by
  unfold z6e
  rw [z06 hw, z06 hh]
  simp only [Pool.eta', hm, Option.bind_some]
  exact zk6 φ w ms _ hl hφ
/-- A chain: it begins with c, and goes on in time. -/
def Chn : List zj → Prop := List.Pairwise fun a b => a.fSpan.fFrom < b.fSpan.fFrom
theorem zht (a : List zj) (x : zj) : zhw (a ++ [x]) = x := by
  unfold zhw; exact z71 (by simp)
theorem zf4 (w : Int) : ∀ (ms : List z3) (a : List zj) (c : zj), Chn (a ++ [c]) → Chn (ms.foldl (z2h w) (a ++ [c]))
  | [], a, c, h => h
  | m :: ms, a, c, h => by
    simp only [List.foldl_cons]
    unfold z2h
    rw [zht]
    split
    · rename_i hh
      simp only [Bool.and_eq_true, decide_eq_true_eq] at hh
      refine zf4 w ms (a ++ [c]) _ ?_
      refine List.pairwise_append.2 ⟨h, List.pairwise_singleton _ _, fun x hx y hy => ?_⟩
      simp at hy; subst hy
      rcases List.mem_append.1 hx with hx | hx
      · exact Int.lt_trans ((List.pairwise_append.1 h).2.2 x hx c (by simp)) hh.2
      · simp at hx; subst hx; exact hh.2
    · exact zf4 w ms a c h
theorem zn8 (φ : Nat) (p : Pool) (w m e : Int) (hc : z41 φ p = some e) :
    z6x φ p w m = some (if e ≠ 0 then e else if 0 ≤ w ∧ w < (p.fFleet.fWagons.length : Int) ∧ 0 ≤ m ∧ m ≤ 1073741824 then 0 else 1) := by
  unfold z6x
  simp only [Pool.eta', hc, Option.bind_some]
  by_cases q : e = 0
  · subst q
    simp only [bne_self_eq_false, Bool.false_eq_true, if_false, ne_eq, not_true_eq_false]
    by_cases h : 0 ≤ w ∧ w < (p.fFleet.fWagons.length : Int) ∧ 0 ≤ m ∧ m ≤ 1073741824
    · rw [if_pos h, if_neg (by simp only [Bool.or_eq_true, decide_eq_true_eq]; omega)]
    · rw [if_neg h, if_pos (by simp only [Bool.or_eq_true, decide_eq_true_eq]; omega)]
  · rw [if_pos (by simp [q]), if_pos q]
/-- At looks back from the end. -/
theorem zqn (φ : Nat) (m : Int) (c : List zj) (hc : c.length ≤ 100000) : ∀ (n : Nat) (k : Nat), k < c.length → (∃ i : Nat, i ≤ k ∧ (gt c (i : Int)).fSpan.fFrom ≤ m) → k < n →
    ∃ i : Nat, i ≤ k ∧ (gt c (i : Int)).fSpan.fFrom ≤ m ∧ (∀ j : Nat, i < j → j ≤ k → m < (gt c (j : Int)).fSpan.fFrom) ∧ z5s φ m c (z54 φ c) n (k : Int) = some ((gt c (i : Int)).fRailway, 0) := by
  intro n
  induction n with
  | zero => intro k _ _ h; omega
  | succ n ih =>
    intro k hk hex hn
    rw [z5s, z06 ⟨by omega, by omega⟩]
    by_cases q : m < (gt c (k : Int)).fSpan.fFrom
    · rw [if_pos (by simpa using q)]
      obtain ⟨i, h1, h2⟩ := hex
      have hik : i ≠ k := by intro e; subst e; omega
      have w : W ((k : Int) - 1) = ((k - 1 : Nat) : Int) := by rw [W_id (by omega) (by omega)]; omega
      rw [w]
      obtain ⟨i', p1, p2, p3, p4⟩ := ih (k - 1) (by omega) ⟨i, by omega, h2⟩ (by omega)
      refine ⟨i', by omega, p2, fun j hj hj' => ?_, p4⟩
      by_cases e : j = k
      · subst e; exact q
      · exact p3 j hj (by omega)
    · rw [if_neg (by simpa using q)]
      refine ⟨k, Nat.le_refl _, by omega, fun j hj hj' => by omega, ?_⟩
      unfold z54
      rw [z06 ⟨by omega, by omega⟩]
end Px
end
section
namespace Px
open Go
set_option linter.unusedVariables false
set_option linter.unusedSimpArgs false
def insS {α : Type} (lt : α → α → Bool) (x : α) : List α → List α
  | [] => [x]
  | y :: l => bif lt x y then x :: y :: l else y :: insS lt x l
def zc0 {α : Type} (lt : α → α → Bool) (l : List α) : List α := l.foldl (fun a x => insS lt x a) []
section
variable {α : Type} {lt : α → α → Bool}
theorem zde (hs : Swo lt) (x : α) : ∀ (l : List α), Srt lt l → ∃ A B, l = A ++ B ∧ insS lt x l = A ++ [x] ++ B ∧ (∀ y ∈ A, lt x y = false) ∧ ∀ y ∈ B, lt x y = true
  | [], _ => ⟨[], [], rfl, rfl, by simp, by simp⟩
  | y :: l, h => by
    have h' := List.pairwise_cons.1 h
    unfold insS
    cases e : lt x y with
    | true =>
      refine ⟨[], y :: l, rfl, rfl, by simp, fun z hz => ?_⟩
      rcases List.mem_cons.1 hz with rfl | hz
      · exact e
      · cases e2 : lt x z with
        | true => rfl
        | false =>
          have := hs.ntr _ _ _ e2 (h'.1 z hz)
          rw [e] at this; cases this
    | false =>
      obtain ⟨A, B, h1, h2, h3, h4⟩ := zde hs x l h'.2
      refine ⟨y :: A, B, by rw [h1]; rfl, by simp [h2], fun z hz => ?_, h4⟩
      rcases List.mem_cons.1 hz with rfl | hz
      · exact e
      · exact h3 z hz
theorem znf (hs : Swo lt) (x : α) {l : List α} (h : Srt lt l) : Srt lt (insS lt x l) := by
  obtain ⟨A, B, h1, h2, h3, h4⟩ := zde hs x l h
  rw [h2]; rw [h1] at h
  obtain ⟨a, b, c⟩ := h.parts
  refine Srt.app (Srt.app a (List.pairwise_singleton _ _) fun z hz y hy => ?_) b fun z hz y hy => ?_
  · simp at hy; subst hy; exact h3 z hz
  · rcases List.mem_append.1 hz with hz | hz
    · exact c z hz y hy
    · simp at hz; subst hz; exact hs.asym _ _ (h4 y hy)
theorem znr (hs : Swo lt) (x : α) {l : List α} (h : Srt lt l) : Stb lt (l ++ [x]) (insS lt x l) := by
  obtain ⟨A, B, h1, h2, h3, h4⟩ := zde hs x l h
  rw [h2, h1]; exact zd9 hs h4
theorem zb7 (l : List α) (x : α) : zc0 lt (l ++ [x]) = insS lt x (zc0 lt l) := by
  simp [zc0, List.foldl_append]
theorem zgu {P : List α → Prop} (h0 : P []) (h1 : ∀ l x, P l → P (l ++ [x])) (l : List α) : P l := by
  have : ∀ r : List α, P r.reverse := by
    intro r
    induction r with
    | nil => exact h0
    | cons x r ih => rw [List.reverse_cons]; exact h1 _ _ ih
  have h := this l.reverse
  rwa [List.reverse_reverse] at h
theorem z8f (hs : Swo lt) (l : List α) : Srt lt (zc0 lt l) ∧ Stb lt l (zc0 lt l) := by
  induction l using zgu with
  | h0 => exact ⟨List.Pairwise.nil, Stb.refl _⟩
  | h1 l x ih =>
    rw [zb7]
    exact ⟨znf hs x ih.1, (ih.2.app (Stb.refl [x])).trans (znr hs x ih.1)⟩
theorem zhc (hs : Swo lt) {l r : List α} (h1 : Srt lt r) (h2 : Stb lt l r) : r = zc0 lt l :=
  Srt.unique hs h1 (z8f hs l).1 ⟨(z8f hs l).2.1.trans h2.1.symm, fun a => ((z8f hs l).2.2 a).trans (h2.2 a).symm⟩
theorem zhq (hs : Swo lt) (l : List α) : (zc0 lt l).length = l.length := (z8f hs l).2.len
theorem zan (hs : Swo lt) (p : α → Bool) (l : List α) : (zc0 lt l).filter p = zc0 lt (l.filter p) := by
  obtain ⟨h1, h2⟩ := z8f hs l
  refine zhc hs (List.Pairwise.filter _ h1) ⟨h2.1.filter _, fun a => ?_⟩
  have : ∀ r : List α, (r.filter p).filter (eqv2 lt a) = (r.filter (eqv2 lt a)).filter p := by
    intro r; rw [List.filter_filter, List.filter_filter]; congr 1; funext x; exact Bool.and_comm _ _
  rw [this, this, h2.2 a]
end
theorem zk3 {α β : Type} (lt : α → α → Bool) (lt' : β → β → Bool) (f : β → α) (x : β) : ∀ (l : List β), (∀ y ∈ l, lt (f x) (f y) = lt' x y) → insS lt (f x) (l.map f) = (insS lt' x l).map f
  | [], _ => rfl
  | y :: l, h => by
    simp only [List.map_cons, insS]
    rw [h y List.mem_cons_self, zk3 lt lt' f x l fun z hz => h z (List.mem_cons_of_mem _ hz)]
    cases lt' x y <;> rfl
theorem zjq {α : Type} {lt : α → α → Bool} {x y : α} : ∀ {l : List α}, y ∈ insS lt x l → y = x ∨ y ∈ l
  | [], h => by simp [insS] at h; exact .inl h
  | z :: l, h => by
    unfold insS at h
    cases e : lt x z with
    | true => rw [e] at h; simpa using h
    | false =>
      rw [e] at h
      rcases List.mem_cons.1 h with h | h
      · exact .inr (by simp [h])
      · rcases zjq h with h | h
        · exact .inl h
        · exact .inr (by simp [h])
theorem zhp {α : Type} {lt : α → α → Bool} {y : α} (l : List α) : y ∈ zc0 lt l → y ∈ l := by
  induction l using zgu with
  | h0 => exact id
  | h1 l x ih =>
    rw [zb7]
    intro h
    rcases zjq h with h | h
    · simp [h]
    · simp [ih h]
theorem zmt {α β : Type} (lt : α → α → Bool) (lt' : β → β → Bool) (f : β → α) (D : β → Prop) (h : ∀ x y, D x → D y → lt (f x) (f y) = lt' x y) (l : List β) (hD : ∀ x ∈ l, D x) : zc0 lt (l.map f) = (zc0 lt' l).map f := by
  induction l using zgu with
  | h0 => rfl
  | h1 l x ih =>
    rw [List.map_append, List.map_cons, List.map_nil, zb7, zb7, ih fun z hz => hD z (by simp [hz])]
    exact zk3 lt lt' f x _ fun y hy => h x y (hD x (by simp)) (hD y (by simp [zhp l hy]))
end Px
end
section
namespace Px
open Go
set_option linter.unusedVariables false
set_option linter.unusedSimpArgs false
theorem z8j {c : Int} (h : 0 ≤ c) (h' : c < 18446744073709551616) : (BitVec.ofInt 64 c).toNat = c.toNat := by
  rw [BitVec.toNat_ofInt]; omega
theorem zpz {n : Nat} (h : n < 18446744073709551616) : U (n : Int) = n := U_id (by omega) (by omega)
theorem zog {a b : Nat} (h : a < 18446744073709551616) : a &&& b < 18446744073709551616 := Nat.lt_of_le_of_lt Nat.and_le_left h
theorem znh {k : Nat} (h : k ≤ 63) : (2 ^ k : Nat) < 18446744073709551616 := Nat.lt_of_lt_of_le (Nat.pow_lt_pow_right (by decide) (by omega : k < 64)) (by decide)
theorem zsb {c k : Int} (h : 0 ≤ c) (hk : 0 ≤ k) (hk' : k ≤ 63) : c.fdiv (2 ^ (min (k : Int).toNat (IntKind.bits .u64))) = ((c.toNat / 2 ^ k.toNat : Nat) : Int) := by
  have e : min (k : Int).toNat (IntKind.bits .u64) = k.toNat := by simp [IntKind.bits]; omega
  rw [e]
  have e2 : ((2 : Int) ^ k.toNat) = ((2 ^ k.toNat : Nat) : Int) := by simp
  rw [e2, Int.fdiv_eq_ediv_of_nonneg _ (Int.natCast_nonneg _)]
  have : c = (c.toNat : Int) := by omega
  rw [this]; simp
end Px
end
section
namespace Px
open Go
set_option linter.unusedVariables false
set_option linter.unusedSimpArgs false
set_option maxRecDepth 100000
theorem zke : ((List.range 256).all fun i => decide (0 ≤ za4 zbe i ∧ za4 zbe i ≤ 8 ∧ i < 2 ^ (za4 zbe i).toNat ∧ (0 < i → 0 < za4 zbe i ∧ 2 ^ ((za4 zbe i).toNat - 1) ≤ i))) = true := by decide +kernel
theorem zlz {i : Int} (h : 0 ≤ i) (h' : i < 256) : ∃ n : Nat, za4 zbe i = n ∧ n ≤ 8 ∧ i.toNat < 2 ^ n ∧ (0 < i → 0 < n ∧ 2 ^ (n - 1) ≤ i.toNat) := by
  have := List.all_eq_true.1 zke i.toNat (by simp; omega)
  rw [decide_eq_true_eq, show ((i.toNat : Nat) : Int) = i by omega] at this
  obtain ⟨a, b, c, d⟩ := this
  exact ⟨(za4 zbe i).toNat, by omega, by omega, c, fun hi => ⟨by have := (d (by omega)).1; omega, (d (by omega)).2⟩⟩
/-- How many bits. -/
def zfz (v : Nat) (n : Nat) : Prop := v < 2 ^ n ∧ (0 < v → 0 < n ∧ 2 ^ (n - 1) ≤ v)
theorem zfz.up {v : Nat} (k : Nat) {n : Nat} (h : zfz (v / 2 ^ k) n) (hv : 2 ^ k ≤ v) : zfz v (n + k) := by
  have hp := Nat.two_pow_pos k
  have hpos : 0 < v / 2 ^ k := Nat.div_pos hv hp
  obtain ⟨h1, h2⟩ := h
  obtain ⟨h3, h4⟩ := h2 hpos
  refine ⟨?_, fun _ => ⟨by omega, ?_⟩⟩
  · rw [Nat.pow_add]; exact (Nat.div_lt_iff_lt_mul hp).1 h1
  · have : n + k - 1 = (n - 1) + k := by omega
    rw [this, Nat.pow_add]; exact (Nat.le_div_iff_mul_le hp).1 h4
theorem zmi (φ : Nat) (v w : Int) (h : 0 ≤ v) (h' : v < 256) (hw : 0 ≤ w) (hw' : w ≤ 64) : ∃ n : Nat, z6c φ v w = some (w + n) ∧ n ≤ 8 ∧ zfz v.toNat n := by
  obtain ⟨n, e, hn, a, b⟩ := zlz h h'
  have e8 : IntKind.wrap .u8 v = v := by simp [IntKind.wrap, IntKind.bits, IntKind.signed]; omega
  refine ⟨n, ?_, hn, a, fun hv => b (by omega)⟩
  unfold z6c
  rw [e8, z06 ⟨h, h'⟩, e, W_id (x := (n : Int)) (by omega) (by omega), W_id (by omega) (by omega)]
theorem zor (φ : Nat) (v w : Int) (h : 0 ≤ v) (h' : v < 65536) (hw : 0 ≤ w) (hw' : w ≤ 48) : ∃ n : Nat, z6t φ v w = some (w + n) ∧ n ≤ 16 ∧ zfz v.toNat n := by
  unfold z6t
  by_cases c : 256 ≤ v
  · rw [if_pos (by simpa using c), Int.fdiv_eq_ediv_of_nonneg _ (by omega), W_id (by omega) (by omega)]
    obtain ⟨n, e, hn, hl⟩ := zmi φ (v / 256) (w + 8) (by omega) (by omega) (by omega) (by omega)
    refine ⟨n + 8, by rw [e]; congr 1; omega, by omega, ?_⟩
    refine zfz.up 8 ?_ (by omega)
    rwa [show v.toNat / 2 ^ 8 = (v / 256).toNat by omega]
  · rw [if_neg (by simpa using c)]
    obtain ⟨n, e, hn, hl⟩ := zmi φ v w h (by omega) (by omega) (by omega)
    exact ⟨n, e, by omega, hl⟩
theorem zo6 (φ : Nat) (v w : Int) (h : 0 ≤ v) (h' : v < 4294967296) (hw : 0 ≤ w) (hw' : w ≤ 32) : ∃ n : Nat, z6w φ v w = some (w + n) ∧ n ≤ 32 ∧ zfz v.toNat n := by
  unfold z6w
  by_cases c : 65536 ≤ v
  · rw [if_pos (by simpa using c), Int.fdiv_eq_ediv_of_nonneg _ (by omega), W_id (by omega) (by omega)]
    obtain ⟨n, e, hn, hl⟩ := zor φ (v / 65536) (w + 16) (by omega) (by omega) (by omega) (by omega)
    refine ⟨n + 16, by rw [e]; congr 1; omega, by omega, ?_⟩
    refine zfz.up 16 ?_ (by omega)
    rwa [show v.toNat / 2 ^ 16 = (v / 65536).toNat by omega]
  · rw [if_neg (by simpa using c)]
    obtain ⟨n, e, hn, hl⟩ := zor φ v w h (by omega) (by omega) (by omega)
    exact ⟨n, e, by omega, hl⟩
theorem zjd (φ : Nat) (v : Int) (h : 0 ≤ v) (h' : v < 18446744073709551616) : ∃ n : Nat, z8i φ v = some (n : Int) ∧ n ≤ 64 ∧ zfz v.toNat n := by
  unfold z8i
  by_cases c : 4294967296 ≤ v
  · rw [if_pos (by simpa using c), Int.fdiv_eq_ediv_of_nonneg _ (by omega)]
    obtain ⟨n, e, hn, hl⟩ := zo6 φ (v / 4294967296) 32 (by omega) (by omega) (by omega) (by omega)
    refine ⟨n + 32, by rw [e]; congr 1; omega, by omega, ?_⟩
    refine zfz.up 32 ?_ (by omega)
    rwa [show v.toNat / 2 ^ 32 = (v / 4294967296).toNat by omega]
  · rw [if_neg (by simpa using c)]
    obtain ⟨n, e, hn, hl⟩ := zo6 φ v 0 h (by omega) (by omega) (by omega)
    exact ⟨n, by rw [e]; simp, by omega, hl⟩
theorem zfa {v : Int} (h : 0 ≤ v) (h' : v < 18446744073709551616) : U ((BitVec.ofInt (IntKind.bits .u64) v &&& BitVec.ofInt (IntKind.bits .u64) 4294967295).toNat) = v % 4294967296 := by
  show U ((BitVec.ofInt 64 v &&& BitVec.ofInt 64 4294967295).toNat : Int) = _
  rw [BitVec.toNat_and, z8j h h', z8j (by omega) (by omega), zpz (zog (by omega))]
  have : (4294967295 : Int).toNat = 2 ^ 32 - 1 := by decide
  rw [this, Nat.and_two_pow_sub_one_eq_mod]
  omega
theorem ze0 {a b m n : Int} (ha : 0 ≤ a) (hb : 0 ≤ b) (h : a ≤ m) (h' : b ≤ n) : 0 ≤ a * b ∧ a * b ≤ m * n :=
  ⟨Int.mul_nonneg ha hb, Int.mul_le_mul h h' hb (by omega)⟩
theorem zje (φ : Nat) (x y : Int) (hx : 0 ≤ x) (hx' : x < 18446744073709551616) (hy : 0 ≤ y) (hy' : y < 18446744073709551616) :
    z8g φ x y = some (x * y / 18446744073709551616, x * y % 18446744073709551616) := by
  unfold z8g
  rw [zfa hx hx', zfa hy hy', Int.fdiv_eq_ediv_of_nonneg _ (by omega), Int.fdiv_eq_ediv_of_nonneg _ (by omega)]
  have ex : x = x / 4294967296 * 4294967296 + x % 4294967296 := by omega
  have ey : y = y / 4294967296 * 4294967296 + y % 4294967296 := by omega
  have a1 : 0 ≤ x / 4294967296 ∧ x / 4294967296 ≤ 4294967295 := by omega
  have a0 : 0 ≤ x % 4294967296 ∧ x % 4294967296 ≤ 4294967295 := by omega
  have b1 : 0 ≤ y / 4294967296 ∧ y / 4294967296 ≤ 4294967295 := by omega
  have b0 : 0 ≤ y % 4294967296 ∧ y % 4294967296 ≤ 4294967295 := by omega
  have hxy : x * y = (x / 4294967296) * (y / 4294967296) * 18446744073709551616 + ((x / 4294967296) * (y % 4294967296) + (x % 4294967296) * (y / 4294967296)) * 4294967296 + (x % 4294967296) * (y % 4294967296) := by
    conv => lhs; rw [ex, ey]
    generalize x / 4294967296 = a; generalize x % 4294967296 = b; generalize y / 4294967296 = c; generalize y % 4294967296 = d
    rw [Int.add_mul, Int.mul_add, Int.mul_add, Int.add_mul]
    have e1 : a * 4294967296 * (c * 4294967296) = a * c * 18446744073709551616 := by
      rw [Int.mul_assoc, Int.mul_left_comm 4294967296 c, ← Int.mul_assoc]; rfl
    have e2 : a * 4294967296 * d = a * d * 4294967296 := by rw [Int.mul_right_comm]
    have e3 : b * (c * 4294967296) = b * c * 4294967296 := by rw [Int.mul_assoc]
    rw [e1, e2, e3]; omega
  have p11 := ze0 a1.1 b1.1 a1.2 b1.2
  have p10 := ze0 a1.1 b0.1 a1.2 b0.2
  have p01 := ze0 a0.1 b1.1 a0.2 b1.2
  have p00 := ze0 a0.1 b0.1 a0.2 b0.2
  rw [zm4 (x * y), hxy]
  generalize (x / 4294967296) * (y / 4294967296) = p at *; generalize (x / 4294967296) * (y % 4294967296) = q at *
  generalize (x % 4294967296) * (y / 4294967296) = r at *; generalize (x % 4294967296) * (y % 4294967296) = s at *
  clear hxy ex ey a1 a0 b1 b0
  rw [U_id (x := p) (by omega) (by omega), U_id (x := q) (by omega) (by omega), U_id (x := r) (by omega) (by omega), U_id (x := s) (by omega) (by omega)]
  rw [Int.fdiv_eq_ediv_of_nonneg s (by omega), U_id (x := q + s / 4294967296) (by omega) (by omega), zfa (by omega) (by omega), Int.fdiv_eq_ediv_of_nonneg (q + s / 4294967296) (by omega),
    U_id (x := (q + s / 4294967296) % 4294967296 + r) (by omega) (by omega), Int.fdiv_eq_ediv_of_nonneg ((q + s / 4294967296) % 4294967296 + r) (by omega),
    U_id (x := p + (q + s / 4294967296) / 4294967296) (by omega) (by omega), U_id (by omega) (by omega)]
  congr 2
  omega
/-- One zt6 of the quotient: what the two loops find. -/
theorem zt6 {yn1 yn0 u d q r : Int} (h1 : 2147483648 ≤ yn1) (h1' : yn1 < 4294967296) (h0 : 0 ≤ yn0) (h0' : yn0 < 4294967296) (hd : 0 ≤ d) (hd' : d < 4294967296) (hu : 0 ≤ u)
    (hu' : u < yn1 * 4294967296 + yn0) (hqr : q * yn1 + r = u) (hr : 0 ≤ r) (hr' : r < 4294967296) (hq : (u * 4294967296 + d) / (yn1 * 4294967296 + yn0) ≤ q) :
    0 ≤ q ∧ q ≤ 4294967297 ∧ 0 ≤ (u * 4294967296 + d) / (yn1 * 4294967296 + yn0) ∧ (u * 4294967296 + d) / (yn1 * 4294967296 + yn0) < 4294967296 ∧
    (4294967296 ≤ q ∨ 4294967296 * r + d < q * yn0 → (u * 4294967296 + d) / (yn1 * 4294967296 + yn0) ≤ q - 1) ∧
    (¬ (4294967296 ≤ q ∨ 4294967296 * r + d < q * yn0) → q = (u * 4294967296 + d) / (yn1 * 4294967296 + yn0)) ∧
    (4294967296 ≤ q ∨ 4294967296 * r + d < q * yn0 → 4294967296 ≤ r + yn1 → q - 1 = (u * 4294967296 + d) / (yn1 * 4294967296 + yn0)) := by
  have hY : 0 < yn1 * 4294967296 + yn0 := by omega
  have hQ0 : 0 ≤ (u * 4294967296 + d) / (yn1 * 4294967296 + yn0) := Int.ediv_nonneg (by omega) (by omega)
  have hQ1 : (u * 4294967296 + d) / (yn1 * 4294967296 + yn0) < 4294967296 := Int.ediv_lt_of_lt_mul hY (by omega)
  have hq0 : 0 ≤ q := by omega
  have key : q * (yn1 * 4294967296 + yn0) = (u - r) * 4294967296 + q * yn0 := by
    rw [Int.mul_add, ← Int.mul_assoc, ← hqr]; omega
  have hq2 : q ≤ 4294967297 := by
    rcases Int.lt_or_le 4294967297 q with h | h
    · have : 4294967298 * yn1 ≤ q * yn1 := Int.mul_le_mul_of_nonneg_right (by omega) (by omega)
      omega
    · exact h
  have lt_of : ∀ {z : Int}, (u * 4294967296 + d) / (yn1 * 4294967296 + yn0) < z ↔ u * 4294967296 + d < z * (yn1 * 4294967296 + yn0) := fun {z} => Int.ediv_lt_iff_lt_mul hY
  refine ⟨hq0, hq2, hQ0, hQ1, fun h => ?_, fun h => ?_, fun h hr2 => ?_⟩
  · have : (u * 4294967296 + d) / (yn1 * 4294967296 + yn0) < q := by
      rcases h with h | h
      · omega
      · rw [lt_of, key]; omega
    omega
  · have : ¬ (u * 4294967296 + d) / (yn1 * 4294967296 + yn0) < q := by rw [lt_of, key]; omega
    omega
  · have hq1 : (u * 4294967296 + d) / (yn1 * 4294967296 + yn0) < q := by
      rcases h with h | h
      · omega
      · rw [lt_of, key]; omega
    have h2 : ¬ (u * 4294967296 + d) / (yn1 * 4294967296 + yn0) < q - 1 := by
      rw [lt_of]
      have e : (q - 1) * (yn1 * 4294967296 + yn0) = (u - (r + yn1)) * 4294967296 + (q - 1) * yn0 := by
        have : (q - 1) * yn1 + (r + yn1) = u := by rw [Int.sub_mul]; omega
        rw [Int.mul_add, ← Int.mul_assoc, ← this]; omega
      have b := (ze0 (by omega : 0 ≤ q - 1) h0 (by omega : q - 1 ≤ 4294967296) (by omega : yn0 ≤ 4294967295)).2
      rw [e]; omega
    omega
theorem mulB {a b : Int} (h : 0 ≤ a) (h' : a < 4294967296) (g : 0 ≤ b) (g' : b < 4294967296) : 0 ≤ a * b ∧ a * b ≤ 18446744065119617025 :=
  ze0 h g (by omega : a ≤ 4294967295) (by omega : b ≤ 4294967295)
theorem zgm {ρ : Type} (L : Nat → Int → Int → Option ρ) (k : Int → Option ρ) {yn1 yn0 u d : Int} (h1 : 2147483648 ≤ yn1) (h1' : yn1 < 4294967296) (h0 : 0 ≤ yn0) (h0' : yn0 < 4294967296) (hd : 0 ≤ d) (hd' : d < 4294967296) (hu : 0 ≤ u)
    (hu' : u < yn1 * 4294967296 + yn0)
    (step : ∀ n q r, L (n + 1) q r = if (decide (4294967296 ≤ q) || decide (U (U (4294967296 * r) + d) < U (q * yn0))) = true then (if decide (4294967296 ≤ U (r + yn1)) = true then k (U (q - 1)) else L n (U (q - 1)) (U (r + yn1))) else k q) :
    ∀ (n : Nat) q r, q * yn1 + r = u → 0 ≤ r → r < 4294967296 → (u * 4294967296 + d) / (yn1 * 4294967296 + yn0) ≤ q → 4294967296 - r ≤ 2147483648 * n → L (n + 1) q r = k ((u * 4294967296 + d) / (yn1 * 4294967296 + yn0)) := by
  intro n
  induction n with
  | zero => intro q r _ _ _ _ h; omega
  | succ n ih =>
    intro q r hqr hr hr' hq hn
    obtain ⟨g0, g1, g2, g3, g4, g5, g6⟩ := zt6 h1 h1' h0 h0' hd hd' hu hu' hqr hr hr' hq
    have hc : (decide (4294967296 ≤ q) || decide (U (U (4294967296 * r) + d) < U (q * yn0))) = true ↔ (4294967296 ≤ q ∨ 4294967296 * r + d < q * yn0) := by
      rw [Bool.or_eq_true, decide_eq_true_eq, decide_eq_true_eq]
      by_cases hqB : 4294967296 ≤ q
      · simp [hqB]
      · have := mulB g0 (by omega : q < 4294967296) h0 h0'
        rw [U_id (x := 4294967296 * r) (by omega) (by omega), U_id (by omega) (by omega), U_id (by omega) (by omega)]
    rw [step]
    by_cases c : 4294967296 ≤ q ∨ 4294967296 * r + d < q * yn0
    · have a4 := g4 c
      rw [if_pos (hc.2 c), U_id (x := r + yn1) (by omega) (by omega), U_id (x := q - 1) (by omega) (by omega)]
      by_cases e : 4294967296 ≤ r + yn1
      · rw [if_pos (by simpa using e), g6 c e]
      · rw [if_neg (by simpa using e)]
        exact ih _ _ (by rw [Int.sub_mul]; omega) (by omega) (by omega) a4 (by omega)
    · rw [if_neg (fun h => c (hc.1 h)), ← g5 c]
/-- The first guess. -/
theorem zey {yn1 yn0 u d : Int} (h1 : 2147483648 ≤ yn1) (h1' : yn1 < 4294967296) (h0 : 0 ≤ yn0) (h0' : yn0 < 4294967296) (hd : 0 ≤ d) (hd' : d < 4294967296) (hu : 0 ≤ u)
    (hu' : u < yn1 * 4294967296 + yn0) : U (u.tdiv yn1) = u / yn1 ∧ U (u - U (U (u.tdiv yn1) * yn1)) = u % yn1 ∧ u / yn1 * yn1 + u % yn1 = u ∧ 0 ≤ u % yn1 ∧ u % yn1 < 4294967296 ∧
    (u * 4294967296 + d) / (yn1 * 4294967296 + yn0) ≤ u / yn1 := by
  have e1 : u.tdiv yn1 = u / yn1 := Int.tdiv_eq_ediv_of_nonneg hu
  have hdm : u / yn1 * yn1 + u % yn1 = u := by have := Int.ediv_mul_add_emod u yn1; exact this
  have hm0 := Int.emod_nonneg u (by omega : yn1 ≠ 0)
  have hm1 := Int.emod_lt_of_pos u (by omega : 0 < yn1)
  have hq0 : 0 ≤ u / yn1 := Int.ediv_nonneg hu (by omega)
  have hq1 : u / yn1 ≤ u := Int.ediv_le_self _ hu
  have hqm : 0 ≤ u / yn1 * yn1 := Int.mul_nonneg hq0 (by omega)
  rw [e1, U_id hq0 (by omega), U_id (x := u / yn1 * yn1) (by omega) (by omega), U_id (by omega) (by omega)]
  refine ⟨rfl, by omega, hdm, hm0, by omega, ?_⟩
  have hY : 0 < yn1 * 4294967296 + yn0 := by omega
  have hQ0 : 0 ≤ (u * 4294967296 + d) / (yn1 * 4294967296 + yn0) := Int.ediv_nonneg (by omega) (by omega)
  have hQ := Int.ediv_mul_le (u * 4294967296 + d) (b := yn1 * 4294967296 + yn0) (by omega)
  generalize (u * 4294967296 + d) / (yn1 * 4294967296 + yn0) = z at *
  rw [Int.mul_add, ← Int.mul_assoc] at hQ
  have := Int.mul_nonneg hQ0 h0
  exact (Int.le_ediv_iff_mul_le (by omega)).2 (by omega)
theorem zp2 (a b c : Int) : U (U (U a + b) - U c) = U (a + b - c) := by
  simp only [zm4]; omega
theorem ztp {a b : Int} {s : Nat} (hs : s ≤ 63) (ha : 0 ≤ a) (h : a * 2 ^ s < 18446744073709551616) (hb : 0 ≤ b) (hb' : b < 2 ^ s) :
    U ((BitVec.ofInt (IntKind.bits .u64) (U (a * 2 ^ s)) ||| BitVec.ofInt (IntKind.bits .u64) b).toNat) = a * 2 ^ s + b := by
  have hp : (0 : Int) < 2 ^ s := Int.pow_pos (by decide)
  have hn := Int.mul_nonneg ha (Int.le_of_lt hp)
  have hp2 : (2 : Int) ^ s = ((2 ^ s : Nat) : Int) := by simp
  have hlt : (2 ^ s : Nat) < 18446744073709551616 := znh hs
  rw [U_id hn (by omega)]
  show U ((BitVec.ofInt 64 (a * 2 ^ s) ||| BitVec.ofInt 64 b).toNat : Int) = _
  have hlt2 := (BitVec.ofInt 64 (a * 2 ^ s) ||| BitVec.ofInt 64 b).isLt
  rw [zpz (by omega), BitVec.toNat_or, z8j hn h, z8j hb (by omega)]
  obtain ⟨n, rfl⟩ := Int.eq_ofNat_of_zero_le ha
  obtain ⟨m, rfl⟩ := Int.eq_ofNat_of_zero_le hb
  have e : ((n : Int) * 2 ^ s).toNat = 2 ^ s * n := by rw [hp2, ← Int.natCast_mul, Int.toNat_natCast, Nat.mul_comm]
  rw [e, Int.toNat_natCast, ← Nat.two_pow_add_eq_or_of_lt (by rw [hp2] at hb'; omega)]
  simp [Int.mul_comm]
theorem zdi (φ : Nat) (v : Int) (h : 0 < v) (h' : v < 18446744073709551616) : ∃ s : Nat, z5o φ v = some (s : Int) ∧ s ≤ 63 ∧
    9223372036854775808 ≤ v * 2 ^ s ∧ v * 2 ^ s < 18446744073709551616 ∧ v ≤ 2 ^ (64 - s) := by
  obtain ⟨n, e, hn, h1, h2⟩ := zjd φ v (by omega) h'
  obtain ⟨h3, h4⟩ := h2 (by omega)
  refine ⟨64 - n, ?_, by omega, ?_, ?_, ?_⟩
  · unfold z5o
    rw [e, Option.bind_some, W_id (by omega) (by omega)]
    congr 1; omega
  · have : 2 ^ (n - 1) * 2 ^ (64 - n) ≤ v.toNat * 2 ^ (64 - n) := Nat.mul_le_mul_right _ h4
    rw [← Nat.pow_add, show n - 1 + (64 - n) = 63 by omega] at this
    have e2 : ((v.toNat * 2 ^ (64 - n) : Nat) : Int) = v * 2 ^ (64 - n) := by
      rw [Int.natCast_mul, Int.natCast_pow]; congr 1; omega
    omega
  · have : v.toNat * 2 ^ (64 - n) < 2 ^ n * 2 ^ (64 - n) := Nat.mul_lt_mul_of_pos_right h1 (Nat.two_pow_pos _)
    rw [← Nat.pow_add, show n + (64 - n) = 64 by omega] at this
    have e2 : ((v.toNat * 2 ^ (64 - n) : Nat) : Int) = v * 2 ^ (64 - n) := by
      rw [Int.natCast_mul, Int.natCast_pow]; congr 1; omega
    omega
  · rw [show 64 - (64 - n) = n by omega]
    have e2 : ((2 ^ n : Nat) : Int) = (2 : Int) ^ n := by simp
    omega
theorem znu (φ : Nat) (hφ : 5 < φ) (hi lo y : Int) (h0 : 0 ≤ hi) (hy : hi < y) (hy' : y < 18446744073709551616) (hl : 0 ≤ lo) (hl' : lo < 18446744073709551616) :
    z7d φ hi lo y = some ((hi * 18446744073709551616 + lo) / y, (hi * 18446744073709551616 + lo) % y) := by
  unfold z7d
  rw [if_neg (by simp; omega), if_neg (by simp; omega)]
  by_cases hz : hi = 0
  · subst hz
    rw [if_pos (by simp), z06 (by omega), Int.tdiv_eq_ediv_of_nonneg hl, Int.tmod_eq_emod_of_nonneg hl, U_id (Int.ediv_nonneg hl (by omega)) (by have := Int.ediv_le_self y hl; omega)]
    simp
  rw [if_neg (by simpa using hz)]
  obtain ⟨s, es, hs, hY1, hY2, hyP⟩ := zdi φ y (by omega) hy'
  rw [es, Option.bind_some, U_id (x := (s : Int)) (by omega) (by omega), z06 (by omega), U_id (x := 64 - (s : Int)) (by omega) (by omega), z06 (by omega)]
  have em1 : min (s : Int).toNat (IntKind.bits .u64) = s := by simp [IntKind.bits]; omega
  have em2 : min (64 - (s : Int)).toNat (IntKind.bits .u64) = 64 - s := by simp [IntKind.bits]
  rw [em1, em2]
  have hp : (0 : Int) < 2 ^ s := Int.pow_pos (by decide)
  have hP : (0 : Int) < 2 ^ (64 - s) := Int.pow_pos (by decide)
  have hpP : (2 : Int) ^ s * 2 ^ (64 - s) = 18446744073709551616 := by rw [← Int.pow_add, show s + (64 - s) = 64 by omega]; rfl
  have hhp : hi * 2 ^ s < y * 2 ^ s := Int.mul_lt_mul_of_pos_right hy hp
  have hlP0 : 0 ≤ lo / 2 ^ (64 - s) := Int.ediv_nonneg hl (by omega)
  have hlP1 : lo / 2 ^ (64 - s) < 2 ^ s := Int.ediv_lt_of_lt_mul hP (by omega)
  have hh0 : 0 ≤ hi * 2 ^ s := Int.mul_nonneg h0 (by omega)
  -- the low word
  have hlo10 : U (lo * 2 ^ s) = lo % 2 ^ (64 - s) * 2 ^ s := by
    have e : lo = lo / 2 ^ (64 - s) * 2 ^ (64 - s) + lo % 2 ^ (64 - s) := (Int.ediv_mul_add_emod lo _).symm
    have e2 : lo * 2 ^ s = lo / 2 ^ (64 - s) * 18446744073709551616 + lo % 2 ^ (64 - s) * 2 ^ s := by
      conv => lhs; rw [e]
      rw [Int.add_mul, Int.mul_assoc, Int.mul_comm (2 ^ (64 - s)), hpP]
    have m0 := Int.emod_nonneg lo (by omega : (2 : Int) ^ (64 - s) ≠ 0)
    have m1 := Int.emod_lt_of_pos lo hP
    have m2 : lo % 2 ^ (64 - s) * 2 ^ s < 2 ^ (64 - s) * 2 ^ s := Int.mul_lt_mul_of_pos_right m1 hp
    have m3 := Int.mul_nonneg m0 (Int.le_of_lt hp)
    rw [Int.mul_comm (2 ^ (64 - s))] at m2
    rw [e2, zm4]; omega
  have hN : (hi * 2 ^ s + lo / 2 ^ (64 - s)) * 18446744073709551616 + lo % 2 ^ (64 - s) * 2 ^ s = (hi * 18446744073709551616 + lo) * 2 ^ s := by
    have e : lo = lo / 2 ^ (64 - s) * 2 ^ (64 - s) + lo % 2 ^ (64 - s) := (Int.ediv_mul_add_emod lo _).symm
    have e2 : lo * 2 ^ s = lo / 2 ^ (64 - s) * 18446744073709551616 + lo % 2 ^ (64 - s) * 2 ^ s := by
      conv => lhs; rw [e]
      rw [Int.add_mul, Int.mul_assoc, Int.mul_comm (2 ^ (64 - s)), hpP]
    have e3 : (hi * 18446744073709551616 + lo) * 2 ^ s = hi * 2 ^ s * 18446744073709551616 + lo * 2 ^ s := by rw [Int.add_mul, Int.mul_right_comm]
    rw [e3, e2]; omega
  have hun0 : 0 ≤ lo % 2 ^ (64 - s) * 2 ^ s := Int.mul_nonneg (Int.emod_nonneg lo (by omega)) (by omega)
  have hun1 : lo % 2 ^ (64 - s) * 2 ^ s < 18446744073709551616 := by
    rw [← hlo10, zm4]; omega
  have hu' : hi * 2 ^ s + lo / 2 ^ (64 - s) < y * 2 ^ s := by
    have : (hi + 1) * 2 ^ s ≤ y * 2 ^ s := Int.mul_le_mul_of_nonneg_right (by omega) (by omega)
    rw [Int.add_mul] at this; omega
  have hs1 : U (s : Int) = s := U_id (by omega) (by omega)
  have hs2 : U (64 - (s : Int)) = 64 - (s : Int) := U_id (by omega) (by omega)
  have ef : lo.fdiv (2 ^ (64 - s)) = lo / 2 ^ (64 - s) := Int.fdiv_eq_ediv_of_nonneg _ (by omega)
  have eor := ztp hs h0 (by omega : hi * 2 ^ s < 18446744073709551616) hlP0 hlP1
  obtain ⟨Y, hYd⟩ : ∃ Y, Y = y * 2 ^ s := ⟨_, rfl⟩
  have eY : U (y * 2 ^ s) = Y := by rw [hYd]; exact U_id (by omega) (by omega)
  obtain ⟨u, hud⟩ : ∃ u, u = hi * 2 ^ s + lo / 2 ^ (64 - s) := ⟨_, rfl⟩
  obtain ⟨w, hwd⟩ : ∃ w, w = lo % 2 ^ (64 - s) * 2 ^ s := ⟨_, rfl⟩
  rw [← hwd] at hlo10 hN hun0 hun1
  rw [← hud] at hN hu' eor
  rw [← hYd] at hu' hY1 hY2 hhp
  have hu0 : 0 ≤ u := by omega
  have fY : Y.fdiv 4294967296 = Y / 4294967296 := Int.fdiv_eq_ediv_of_nonneg _ (by omega)
  have fw : w.fdiv 4294967296 = w / 4294967296 := Int.fdiv_eq_ediv_of_nonneg _ (by omega)
  have mY := zfa (v := Y) (by omega) (by omega)
  have mw := zfa (v := w) (by omega) (by omega)
  have b1 : 2147483648 ≤ Y / 4294967296 ∧ Y / 4294967296 < 4294967296 ∧ 0 ≤ Y % 4294967296 ∧ Y % 4294967296 < 4294967296 := by omega
  have b2 : 0 ≤ w / 4294967296 ∧ w / 4294967296 < 4294967296 ∧ 0 ≤ w % 4294967296 ∧ w % 4294967296 < 4294967296 := by omega
  have eYs : Y / 4294967296 * 4294967296 + Y % 4294967296 = Y := by omega
  have stepA : ∀ (K : Int → Option (Int × Int)) n q r, z51 φ lo y s K (n + 1) q r = if (decide (4294967296 ≤ q) || decide (U (U (4294967296 * r) + w / 4294967296) < U (q * (Y % 4294967296)))) = true then
      (if decide (4294967296 ≤ U (r + Y / 4294967296)) = true then K (U (q - 1)) else z51 φ lo y s K n (U (q - 1)) (U (r + Y / 4294967296))) else K q := by
    intro K n q r
    rw [z51]
    simp only [hs1, hs2, em1, em2, eY, hlo10, fY, fw, mY, mw]
  have stepB : ∀ (K : Int → Option (Int × Int)) n q r, z53 φ lo y s K (n + 1) r q = if (decide (4294967296 ≤ q) || decide (U (U (4294967296 * r) + w % 4294967296) < U (q * (Y % 4294967296)))) = true then
      (if decide (4294967296 ≤ U (r + Y / 4294967296)) = true then K (U (q - 1)) else z53 φ lo y s K n (U (r + Y / 4294967296)) (U (q - 1))) else K q := by
    intro K n q r
    rw [z53]
    simp only [hs1, hs2, em1, em2, eY, hlo10, fY, fw, mY, mw]
  obtain ⟨m, rfl⟩ : ∃ m, φ = m + 3 := ⟨φ - 3, by omega⟩
  rw [ef, eor, eY, fY, z06 (by omega)]
  obtain ⟨i1, i2, i3, i4, i5, i6⟩ := zey (u := u) (d := w / 4294967296) b1.1 b1.2.1 b1.2.2.1 b1.2.2.2 b2.1 b2.2.1 hu0 (by omega)
  rw [i1] at i2 ⊢
  rw [i2, zgm (z51 (m + 3) lo y s _) _ b1.1 b1.2.1 b1.2.2.1 b1.2.2.2 b2.1 b2.2.1 hu0 (by omega) (stepA _) (m + 2) _ _ i3 i4 i5 i6 (by omega)]
  rw [eYs]
  unfold z69
  simp only [hs1, hs2, em1, em2, eY, hlo10, fY, fw, ef, eor]
  rw [z06 (by omega)]
  have hQ1 : 0 ≤ (u * 4294967296 + w / 4294967296) / Y ∧ (u * 4294967296 + w / 4294967296) / Y < 4294967296 := ⟨Int.ediv_nonneg (by omega) (by omega), Int.ediv_lt_of_lt_mul (by omega) (by omega)⟩
  have hR1 := Int.ediv_mul_add_emod (u * 4294967296 + w / 4294967296) Y
  have hR1a := Int.emod_nonneg (u * 4294967296 + w / 4294967296) (by omega : Y ≠ 0)
  have hR1b := Int.emod_lt_of_pos (u * 4294967296 + w / 4294967296) (by omega : 0 < Y)
  generalize (u * 4294967296 + w / 4294967296) / Y = q1 at *
  generalize (u * 4294967296 + w / 4294967296) % Y = r1 at *
  have eu21 : U (U (U (u * 4294967296) + w / 4294967296) - U (q1 * Y)) = r1 := by
    rw [zp2, show u * 4294967296 + w / 4294967296 - q1 * Y = r1 by omega]; exact U_id hR1a (by omega)
  rw [eu21]
  obtain ⟨j1, j2, j3, j4, j5, j6⟩ := zey (u := r1) (d := w % 4294967296) b1.1 b1.2.1 b1.2.2.1 b1.2.2.2 b2.2.2.1 b2.2.2.2 hR1a (by omega)
  rw [j1] at j2 ⊢
  rw [j2]
  refine (zgm (fun n q r => z53 (m + 3) lo y s _ n r q) _ b1.1 b1.2.1 b1.2.2.1 b1.2.2.2 b2.2.2.1 b2.2.2.2 hR1a (by omega) (fun n q r => stepB _ n q r) (m + 2) _ _ j3 j4 j5 j6 (by omega)).trans ?_
  rw [eYs]
  unfold z6a
  simp only [hs1, hs2, em1, em2, eY, hlo10, fY, fw, mw, ef, eor, eu21]
  rw [z06 (by omega)]
  have hQ0 : 0 ≤ (r1 * 4294967296 + w % 4294967296) / Y ∧ (r1 * 4294967296 + w % 4294967296) / Y < 4294967296 := ⟨Int.ediv_nonneg (by omega) (by omega), Int.ediv_lt_of_lt_mul (by omega) (by omega)⟩
  have hR0 := Int.ediv_mul_add_emod (r1 * 4294967296 + w % 4294967296) Y
  have hR0a := Int.emod_nonneg (r1 * 4294967296 + w % 4294967296) (by omega : Y ≠ 0)
  have hR0b := Int.emod_lt_of_pos (r1 * 4294967296 + w % 4294967296) (by omega : 0 < Y)
  generalize (r1 * 4294967296 + w % 4294967296) / Y = q0 at *
  generalize (r1 * 4294967296 + w % 4294967296) % Y = r0 at *
  rw [zp2, show r1 * 4294967296 + w % 4294967296 - q0 * Y = r0 by omega, U_id (x := r0) hR0a (by omega), U_id (x := q1 * 4294967296) (by omega) (by omega), U_id (by omega) (by omega), Int.fdiv_eq_ediv_of_nonneg _ (by omega)]
  have hall : (hi * 18446744073709551616 + lo - (q1 * 4294967296 + q0) * y) * 2 ^ s = r0 := by
    rw [Int.sub_mul, ← hN, Int.mul_assoc, ← hYd, Int.add_mul, Int.mul_right_comm]; omega
  have hz0 : 0 ≤ hi * 18446744073709551616 + lo - (q1 * 4294967296 + q0) * y := by
    rcases Int.lt_or_le (hi * 18446744073709551616 + lo - (q1 * 4294967296 + q0) * y) 0 with h | h
    · have := Int.mul_neg_of_neg_of_pos h hp; omega
    · exact h
  have hz1 : hi * 18446744073709551616 + lo - (q1 * 4294967296 + q0) * y < y := by
    refine Int.lt_of_mul_lt_mul_right (a := 2 ^ s) ?_ (by omega)
    rw [hall, ← hYd]; exact hR0b
  have hr0 : r0 / 2 ^ s = hi * 18446744073709551616 + lo - (q1 * 4294967296 + q0) * y := by
    rw [← hall]; exact Int.mul_ediv_cancel _ (by omega)
  have hdm : (hi * 18446744073709551616 + lo) / y = q1 * 4294967296 + q0 ∧ (hi * 18446744073709551616 + lo) % y = hi * 18446744073709551616 + lo - (q1 * 4294967296 + q0) * y :=
    (Int.ediv_emod_unique (by omega)).2 ⟨by rw [Int.mul_comm y]; omega, hz0, hz1⟩
  rw [hr0, hdm.1, hdm.2]
end Px
end
section
namespace Px
open Go
set_option linter.unusedVariables false
set_option linter.unusedSimpArgs false
set_option maxRecDepth 100000
theorem z5y (φ : Nat) (a b c : Int) : z1o φ a b c = some (bet a b c) := rfl
def zg3 (t : z5j) : Bool :=
  bet t.fLoad 0 1000000 && bet t.fTare 0 1000000 && bet t.fLength 0 1000000 && bet t.fBrake 0 1000000 && bet t.fGauge 0 7 && bet t.fLife 1 1073741824 && bet t.fFloor 0 100
def zbt (n : Int) (w : zbs) : Bool :=
  bet w.fType 0 (n - 1) && bet w.fOwner 0 63 && bet w.fHome 0 511 && bet w.fBuilt 0 1073741824 && bet w.fWorth 0 1099511627776
def zg1 (n : Int) (s : Swap) : Bool := bet s.fWanted 0 (n - 1) && bet s.fGiven 0 (n - 1) && (s.fWanted != s.fGiven) && bet s.fCost 0 1000000000
def zko (w : Wash) : Bool := bet w.fFrom 0 63 && bet w.fTo 0 63 && (w.fFrom != w.fTo) && bet w.fMinutes 0 100000
def keyW (w : Wash) : Int := 64 * w.fFrom + w.fTo
def z82 (l : List Wash) (i : Nat) : Bool := zko (gt l (i : Int)) && !(l.take i).any fun v => keyW v == keyW (gt l (i : Int))
def z9q (l : List Wash) : Bool := (List.range l.length).all (z82 l)
/-- What Check answers. -/
def z8b (x : z8m) : Int :=
  bif decide (32 < x.fTypes.length) || decide (4096 < x.fWagons.length) || decide (1024 < x.fSwaps.length) || decide (4096 < x.fWashes.length) then 2 else
  bif x.fTypes.all zg3 && x.fWagons.all (zbt x.fTypes.length) && x.fSwaps.all (zg1 x.fTypes.length) && z9q x.fWashes then 0 else 1
theorem zbh (p : Nat → Bool) (i : Nat) : (List.range (i + 1)).all p = ((List.range i).all p && p i) := by
  rw [List.range_succ, List.all_append]; simp
theorem zbo {α : Type} [Inhabited α] {p : Prop} [Decidable p] {x : Option α} (h : p) : z5l p x = x := if_pos h
theorem zb0 {α : Type} [Inhabited α] {p : Prop} [Decidable p] {x : Option α} (h : ¬ p) : z5l p x = some default := if_neg h
theorem zd6 (φ : Nat) (x : z8m) (k : Int → Option Int) (hl : x.fSwaps.length ≤ 1024) (ht : x.fTypes.length ≤ 32) :
    ∀ n s, x.fSwaps.length < n → z3h φ x k n 0 s = k (bif x.fSwaps.all (zg1 (x.fTypes.length : Int)) then s else 1) := by
  have hp : W ((x.fTypes.length : Int) - 1) = (x.fTypes.length : Int) - 1 := W_id (by omega) (by omega)
  refine zen _ k _ _ ?_ ?_
  · intro n i s hi
    rw [z3h, if_pos (by simp; omega), z06 ⟨by omega, by omega⟩]
    have hW : W ((i : Int) + 1) = (i : Int) + 1 := W_id (by omega) (by omega)
    simp only [z5y, Option.bind_some, zg1, z5l, z6n, hW, hp]
    cases bet (gt x.fSwaps i).fWanted 0 ((x.fTypes.length : Int) - 1) <;> cases bet (gt x.fSwaps i).fGiven 0 ((x.fTypes.length : Int) - 1) <;> cases ((gt x.fSwaps i).fWanted != (gt x.fSwaps i).fGiven) <;>
      cases bet (gt x.fSwaps i).fCost 0 1000000000 <;> rfl
  · intro n s
    rw [z3h, if_neg (by simp)]
theorem zcd (φ : Nat) (x : z8m) (k : Int → Option Int) (hl : x.fWagons.length ≤ 4096) (ht : x.fTypes.length ≤ 32) :
    ∀ n s, x.fWagons.length < n → z2p φ x k n 0 s = k (bif x.fWagons.all (zbt (x.fTypes.length : Int)) then s else 1) := by
  have hp : W ((x.fTypes.length : Int) - 1) = (x.fTypes.length : Int) - 1 := W_id (by omega) (by omega)
  refine zen _ k _ _ ?_ ?_
  · intro n i s hi
    rw [z2p, if_pos (by simp; omega), z06 ⟨by omega, by omega⟩]
    have hW : W ((i : Int) + 1) = (i : Int) + 1 := W_id (by omega) (by omega)
    simp only [z5y, Option.bind_some, zbt, z5l, z5z, z5x, hW, hp]
    cases bet (gt x.fWagons i).fType 0 ((x.fTypes.length : Int) - 1) <;> cases bet (gt x.fWagons i).fOwner 0 63 <;> cases bet (gt x.fWagons i).fHome 0 511 <;>
      cases bet (gt x.fWagons i).fBuilt 0 1073741824 <;> cases bet (gt x.fWagons i).fWorth 0 1099511627776 <;> rfl
  · intro n s
    rw [z2p, if_neg (by simp)]
theorem ze9 (φ : Nat) (x : z8m) (i : Int) (k : Int → Option Int) (n : Nat) (s : Int) (hn : 4 < n) :
    z2l φ x i k n 0 s = k (bif [(gt x.fTypes i).fLoad, (gt x.fTypes i).fTare, (gt x.fTypes i).fLength, (gt x.fTypes i).fBrake].all (fun a => bet a 0 1000000) then s else 1) := by
  refine zen (z2l φ x i k) k _ _ ?_ ?_ n s hn
  · intro n j s hi
    rw [z2l, if_pos (by simp at hi ⊢; omega), z06 ⟨by omega, by omega⟩]
    simp at hi
    have hW : W ((j : Int) + 1) = (j : Int) + 1 := W_id (by omega) (by omega)
    simp only [z5y, Option.bind_some, z62, hW]
    cases bet (gt [(gt x.fTypes i).fLoad, (gt x.fTypes i).fTare, (gt x.fTypes i).fLength, (gt x.fTypes i).fBrake] (j : Int)) 0 1000000 <;> rfl
  · intro n s
    rw [z2l, if_neg (by simp)]
theorem zdl (φ : Nat) (hφ : 4 < φ) (x : z8m) (k : Int → Option Int) (hl : x.fTypes.length ≤ 32) :
    ∀ n s, x.fTypes.length < n → z11 φ x k n 0 s = k (bif x.fTypes.all zg3 then s else 1) := by
  refine zen _ k _ _ ?_ ?_
  · intro n i s hi
    rw [z11, if_pos (by simp; omega), z06 ⟨by omega, by omega⟩, ze9 _ _ _ _ _ _ hφ]
    have hW : W ((i : Int) + 1) = (i : Int) + 1 := W_id (by omega) (by omega)
    simp only [z5y, Option.bind_some, zg3, z5l, z48, z63, z2b, hW, List.all_cons, List.all_nil]
    cases bet (gt x.fTypes i).fLoad 0 1000000 <;> cases bet (gt x.fTypes i).fTare 0 1000000 <;> cases bet (gt x.fTypes i).fLength 0 1000000 <;> cases bet (gt x.fTypes i).fBrake 0 1000000 <;>
      cases bet (gt x.fTypes i).fGauge 0 7 <;> cases bet (gt x.fTypes i).fLife 1 1073741824 <;> cases bet (gt x.fTypes i).fFloor 0 100 <;> rfl
  · intro n s
    rw [z11, if_neg (by simp)]
theorem zcr (φ : Nat) (x : z8m) (k : Int → Option Int) (hl : x.fWashes.length ≤ 4096) (n : Nat) (s : Int) (hn : x.fWashes.length < n) :
    z1a φ x k n 0 s (fun _ => false) = k (bif z9q x.fWashes then s else 1) := by
  refine z74 (fun n i (t : Int × (Nat → Bool)) => z1a φ x k n i t.1 t.2) x.fWashes.length
    (fun i t => t.1 = (bif (List.range i).all (z82 x.fWashes) then s else 1) ∧ ((List.range i).all (z82 x.fWashes) = true → ∀ j : Nat, t.2 j = (x.fWashes.take i).any fun v => keyW v == (j : Int)))
    (fun o => o = k (bif z9q x.fWashes then s else 1)) ?_ ?_ n (s, fun _ => false) ⟨by simp, by simp⟩ hn
  · intro n i t hi ⟨h1, h2⟩ hs
    have hW : W ((i : Int) + 1) = (i : Int) + 1 := W_id (by omega) (by omega)
    rw [z1a, if_pos (by simp; omega), z06 ⟨by omega, by omega⟩]
    simp only [z5y, Option.bind_some, z5l]
    have hok : zko (gt x.fWashes i) = (bet (gt x.fWashes i).fFrom 0 63 && bet (gt x.fWashes i).fTo 0 63 && ((gt x.fWashes i).fFrom != (gt x.fWashes i).fTo) && bet (gt x.fWashes i).fMinutes 0 100000) := rfl
    have hsucc := zbh (z82 x.fWashes) i
    cases hw : zko (gt x.fWashes i) with
    | false =>
      have hf : (List.range (i + 1)).all (z82 x.fWashes) = false := by rw [hsucc]; simp [z82, hw]
      have h3 : z1a φ x k n ((i : Int) + 1) 1 t.2 = k (bif z9q x.fWashes then s else 1) := hs (1, t.2) ⟨by rw [hf]; rfl, by rw [hf]; intro h; cases h⟩
      rw [hw] at hok
      rw [← h3]
      simp only [z5q, z42, hW]
      generalize bet (gt x.fWashes i).fFrom 0 63 = a at *; generalize bet (gt x.fWashes i).fTo 0 63 = b at *; generalize ((gt x.fWashes i).fFrom != (gt x.fWashes i).fTo) = c at *; generalize bet (gt x.fWashes i).fMinutes 0 100000 = d at *
      cases a <;> cases b <;> cases c <;> cases d <;> first | (simp only [Bool.and_self, Bool.and_true, Bool.and_false, Bool.false_and, Bool.true_and, Option.bind_some, if_true, Bool.not_false, Bool.not_true, Bool.false_eq_true, if_false, default]; done) | exact absurd hok (by decide)
    | true =>
      rw [hw] at hok
      have hb := hok.symm
      simp only [Bool.and_eq_true] at hb
      obtain ⟨⟨⟨b1, b2⟩, b3⟩, b4⟩ := hb
      have c1 := zqa b1; have c2 := zqa b2
      simp only [b1, b2, b3, b4, z5q, Bool.and_self, if_true, Option.bind_some, Bool.not_true, Bool.false_eq_true, if_false]
      rw [z06 ⟨by omega, by omega⟩, z06 ⟨by omega, by omega⟩]
      have hkey : ((gt x.fWashes i).fFrom.toNat * 64 + (gt x.fWashes i).fTo.toNat : Nat) = (keyW (gt x.fWashes i)).toNat := by unfold keyW; omega
      have hk0 : ((keyW (gt x.fWashes i)).toNat : Int) = keyW (gt x.fWashes i) := by unfold keyW; omega
      rw [hkey]
      have key : ∀ e, (e = bif (List.range (i + 1)).all (z82 x.fWashes) then s else 1) →
          z1a φ x k n ((i : Int) + 1) e (upd t.2 (keyW (gt x.fWashes i)).toNat true) = k (bif z9q x.fWashes then s else 1) := by
        intro e he
        refine hs (e, _) ⟨he, fun hall j => ?_⟩
        rw [hsucc, Bool.and_eq_true] at hall
        rw [zcc _ _ _ hi, ← h2 hall.1 j]
        show (if j = (keyW (gt x.fWashes i)).toNat then true else t.2 j) = _
        by_cases hj : j = (keyW (gt x.fWashes i)).toNat
        · simp [hj, hk0]
        · have : (keyW (gt x.fWashes i) == (j : Int)) = false := by
            simp; intro h; exact hj (by omega)
          simp [hj, this]
      simp only [z6p, z42, hW, hkey]
      cases hall : (List.range i).all (z82 x.fWashes) with
      | true =>
        have hat : z82 x.fWashes i = !(t.2 (keyW (gt x.fWashes i)).toNat) := by
          rw [h2 hall]; simp only [z82, hw, Bool.true_and, hk0]
        cases ht2 : t.2 (keyW (gt x.fWashes i)).toNat with
        | true =>
          simp only [Bool.not_true, Bool.not_false, if_true]
          refine key 1 ?_
          rw [hsucc, hat, ht2]; simp
        | false =>
          simp only [Bool.not_true, Bool.not_false, Bool.false_eq_true, if_false]
          refine key t.1 ?_
          rw [hsucc, hat, ht2, h1, hall]; simp
      | false =>
        have hf : (List.range (i + 1)).all (z82 x.fWashes) = false := by rw [hsucc, hall]; rfl
        have ht1 : t.1 = 1 := by rw [h1, hall]; rfl
        rw [ht1]
        split <;> exact key 1 (by rw [hf]; rfl)
  · intro n t ⟨h1, _⟩
    rw [z1a, if_neg (by simp), h1]; rfl
theorem zfu (φ : Nat) (hφ : 5000 < φ) (x : z8m) : z9d φ x = some (z8b x) := by
  have e : (((decide (32 < (x.fTypes.length : Int)) || decide (4096 < (x.fWagons.length : Int))) || decide (1024 < (x.fSwaps.length : Int))) || decide (4096 < (x.fWashes.length : Int))) =
      (decide (32 < x.fTypes.length) || decide (4096 < x.fWagons.length) || decide (1024 < x.fSwaps.length) || decide (4096 < x.fWashes.length)) := by
    congr 1
    · congr 1
      · congr 1 <;> (apply decide_eq_decide.2; omega)
      · apply decide_eq_decide.2; omega
    · apply decide_eq_decide.2; omega
  unfold z9d z8b
  rw [e]
  cases h : (decide (32 < x.fTypes.length) || decide (4096 < x.fWagons.length) || decide (1024 < x.fSwaps.length) || decide (4096 < x.fWashes.length)) with
  | true => rfl
  | false =>
    simp only [Bool.or_eq_false_iff, decide_eq_false_iff_not, Nat.not_lt] at h
    obtain ⟨⟨⟨h1, h2⟩, h3⟩, h4⟩ := h
    rw [if_neg (by simp), zdl φ (by omega) x _ h1 _ _ (by omega)]
    unfold z1k
    rw [zcd _ _ _ h2 h1 _ _ (by omega)]
    unfold z3f
    rw [zd6 _ _ _ h3 h1 _ _ (by omega)]
    unfold z4n
    rw [zcr _ _ _ h4 _ _ (by omega)]
    unfold z2n
    cases x.fTypes.all zg3 <;> cases x.fWagons.all (zbt x.fTypes.length) <;> cases x.fSwaps.all (zg1 x.fTypes.length) <;> cases z9q x.fWashes <;> rfl
/-- What a fleet that passes is. -/
theorem zbu {x : z8m} (h : z8b x = 0) : x.fTypes.length ≤ 32 ∧ x.fWagons.length ≤ 4096 ∧ x.fSwaps.length ≤ 1024 ∧ x.fWashes.length ≤ 4096 ∧
    (∀ t ∈ x.fTypes, zg3 t = true) ∧ (∀ t ∈ x.fWagons, zbt x.fTypes.length t = true) ∧ (∀ t ∈ x.fSwaps, zg1 x.fTypes.length t = true) ∧ z9q x.fWashes = true := by
  unfold z8b at h
  cases h1 : (decide (32 < x.fTypes.length) || decide (4096 < x.fWagons.length) || decide (1024 < x.fSwaps.length) || decide (4096 < x.fWashes.length)) with
  | true => rw [h1] at h; cases h
  | false =>
    rw [h1] at h
    simp only [Bool.or_eq_false_iff, decide_eq_false_iff_not, Nat.not_lt] at h1
    obtain ⟨⟨⟨a1, a2⟩, a3⟩, a4⟩ := h1
    cases h2 : (x.fTypes.all zg3 && x.fWagons.all (zbt x.fTypes.length) && x.fSwaps.all (zg1 x.fTypes.length) && z9q x.fWashes) with
    | false => rw [h2] at h; cases h
    | true =>
      simp only [Bool.and_eq_true, List.all_eq_true] at h2
      obtain ⟨⟨⟨b1, b2⟩, b3⟩, b4⟩ := h2
      exact ⟨a1, a2, a3, a4, b1, b2, b3, b4⟩
end Px
end
section
namespace Px
open Go
set_option linter.unusedVariables false
set_option linter.unusedSimpArgs false
set_option maxRecDepth 100000
def PP : Nat := 2305843009213690799
def QQ : Nat := 1152921504606845399
/-- A power modulo the prime. -/
def pw (b n : Nat) : Nat := b ^ n % PP
theorem zgt (b n : Nat) : pw b n < PP := Nat.mod_lt _ (by decide)
theorem zpq (b : Nat) : pw b 0 = 1 := by simp [pw, PP]
theorem zo2 (b m n : Nat) : pw b m * pw b n % PP = pw b (m + n) := by
  unfold pw; rw [Nat.pow_add, ← Nat.mul_mod]
theorem zsa (b : Nat) : pw b 1 = b % PP := by simp [pw]
theorem zdo {a b : Nat} (ha : a < PP) (hb : b < PP) (φ : Nat) (hφ : 5 < φ) : ((z8g φ (a : Int) (b : Int)).bind fun y => (z7d φ y.1 y.2 2305843009213690799).bind fun z => some z.2) = some ((a * b % PP : Nat) : Int) := by
  have ha' : (a : Int) < 2305843009213690799 := by unfold PP at ha; omega
  have hb' : (b : Int) < 2305843009213690799 := by unfold PP at hb; omega
  have hp := ze0 (by omega : 0 ≤ (a : Int)) (by omega : 0 ≤ (b : Int)) (by omega : (a : Int) ≤ 2305843009213690798) (by omega : (b : Int) ≤ 2305843009213690798)
  rw [zje φ _ _ (by omega) (by omega) (by omega) (by omega), Option.bind_some]
  generalize hz : (a : Int) * (b : Int) = z at *
  rw [znu φ hφ _ _ _ (by omega) (by omega) (by omega) (by omega) (by omega), Option.bind_some]
  congr 1
  have : z / 18446744073709551616 * 18446744073709551616 + z % 18446744073709551616 = z := by omega
  rw [this, ← hz, Int.natCast_emod, Int.natCast_mul]; rfl
theorem ztr {a : Nat} (h : a < PP) : ((a : Int)).tmod 2305843009213690799 = (a : Int) := by
  unfold PP at h
  rw [Int.tmod_eq_emod_of_nonneg (by omega)]; omega
theorem zj3 (φ : Nat) (hφ : 100 < φ) (b n : Nat) (hb : b < 18446744073709551616) (hn : n < 18446744073709551616) : zcq φ (b : Int) (n : Int) = some ((pw b n : Nat) : Int) := by
  unfold zcq
  obtain ⟨L, eL, hL, h1, h2⟩ := zjd φ (n : Int) (by omega) (by omega)
  rw [eL, Option.bind_some]
  rw [Int.toNat_natCast] at h1 h2
  have hbm : ((b : Int)).tmod 2305843009213690799 = ((b % PP : Nat) : Int) := by
    rw [Int.tmod_eq_emod_of_nonneg (by omega)]; unfold PP; omega
  refine z74 (fun k i v => z58 φ (b : Int) (n : Int) (L : Int) (z5p φ) k v i) L (fun i v => v = ((pw b (n / 2 ^ (L - i)) : Nat) : Int)) (fun o => o = some ((pw b n : Nat) : Int)) ?_ ?_ φ 1 ?_ (by omega)
  · intro k i v hi hv hs
    rw [z58, if_pos (by simp; omega)]
    subst hv
    rw [ztr (zgt _ _)]
    have hm := zdo (zgt b (n / 2 ^ (L - i))) (zgt b (n / 2 ^ (L - i))) φ (by omega)
    -- the square
    have hp := ze0 (m := 2305843009213690798) (n := 2305843009213690798) (a := ((pw b (n / 2 ^ (L - i)) : Nat) : Int)) (b := ((pw b (n / 2 ^ (L - i)) : Nat) : Int)) (by omega) (by omega) (by have := zgt b (n / 2 ^ (L - i)); unfold PP at this; omega) (by have := zgt b (n / 2 ^ (L - i)); unfold PP at this; omega)
    have e1 := zje φ ((pw b (n / 2 ^ (L - i)) : Nat) : Int) ((pw b (n / 2 ^ (L - i)) : Nat) : Int) (by omega) (by have := zgt b (n / 2 ^ (L - i)); unfold PP at this; omega) (by omega) (by have := zgt b (n / 2 ^ (L - i)); unfold PP at this; omega)
    rw [e1, Option.bind_some] at hm
    rw [e1, Option.bind_some]
    have hw1 : W ((L : Int) - 1) = (L : Int) - 1 := W_id (by omega) (by omega)
    have hw2 : W ((L : Int) - 1 - (i : Int)) = ((L - 1 - i : Nat) : Int) := by rw [W_id (by omega) (by omega)]; omega
    cases hdv : z7d φ (((pw b (n / 2 ^ (L - i)) : Nat) : Int) * ((pw b (n / 2 ^ (L - i)) : Nat) : Int) / 18446744073709551616) (((pw b (n / 2 ^ (L - i)) : Nat) : Int) * ((pw b (n / 2 ^ (L - i)) : Nat) : Int) % 18446744073709551616) 2305843009213690799 with
    | none => rw [hdv] at hm; cases hm
    | some z =>
      rw [hdv, Option.bind_some] at hm
      have hz : z.2 = ((pw b (n / 2 ^ (L - i)) * pw b (n / 2 ^ (L - i)) % PP : Nat) : Int) := Option.some.inj hm
      rw [zo2] at hz
      rw [Option.bind_some, eL, Option.bind_some, hw1, hw2, z06 (by omega), hz]
      have hsh := zsb (c := (n : Int)) (k := ((L - 1 - i : Nat) : Int)) (by omega) (by omega) (by omega)
      have hone : U ((BitVec.ofInt (IntKind.bits .u64) ((n : Int).fdiv (2 ^ (min (((L - 1 - i : Nat) : Int)).toNat (IntKind.bits .u64)))) &&& BitVec.ofInt (IntKind.bits .u64) 1).toNat) = ((n / 2 ^ (L - 1 - i) % 2 : Nat) : Int) := by
        rw [hsh, Int.toNat_natCast, Int.toNat_natCast]
        show U ((BitVec.ofInt 64 ((n / 2 ^ (L - 1 - i) : Nat) : Int) &&& BitVec.ofInt 64 1).toNat : Int) = _
        have hd : n / 2 ^ (L - 1 - i) ≤ n := Nat.div_le_self _ _
        rw [BitVec.toNat_and, z8j (Int.natCast_nonneg _) (by omega), z8j (by omega) (by omega), zpz (zog (by omega)), Int.toNat_natCast]
        show ((n / 2 ^ (L - 1 - i) &&& 1 : Nat) : Int) = _
        rw [Nat.and_one_is_mod]
      rw [hone]
      have hhalf : n / 2 ^ (L - i) = n / 2 ^ (L - 1 - i) / 2 := by
        rw [Nat.div_div_eq_div_mul, ← Nat.pow_succ]; congr 2; omega
      have hidx : L - (i + 1) = L - 1 - i := by omega
      have hW : W ((i : Int) + 1) = (i : Int) + 1 := W_id (by omega) (by omega)
      have hbit := Nat.mod_two_eq_zero_or_one (n / 2 ^ (L - 1 - i))
      rcases hbit with hbit | hbit
      · rw [hbit, if_neg (by simp)]
        unfold z77
        rw [hW]
        refine hs _ ?_
        rw [hidx, hhalf]; congr 2; omega
      · rw [hbit, if_pos (by simp), ztr (zgt _ _), hbm]
        have hm2 := zdo (zgt b (n / 2 ^ (L - i) + n / 2 ^ (L - i))) (Nat.mod_lt b (by decide : 0 < PP)) φ (by omega)
        unfold z77
        rw [hW]
        have key : ∀ (X : Option (Int × Int)) (G : Int × Int → Option (Int × Int)) (K : Int → Option Int) (r : Int), (X.bind fun y => (G y).bind fun z => some z.2) = some r → (X.bind fun y => (G y).bind fun z => K z.2) = K r := by
          intro X G K r h
          cases X with
          | none => cases h
          | some y =>
            rw [Option.bind_some] at h ⊢
            cases hG : G y with
            | none => rw [hG] at h; cases h
            | some z => rw [hG, Option.bind_some] at h; rw [Option.bind_some, Option.some.inj h]
        have := key _ (fun y => z7d φ y.1 y.2 2305843009213690799) (fun v => z58 φ (b : Int) (n : Int) (L : Int) (z5p φ) k v ((i : Int) + 1)) _ hm2
        refine Eq.trans this ?_
        refine hs _ ?_
        rw [← zsa b, zo2, hidx, hhalf]; congr 2; omega
  · intro k v hv
    rw [z58, if_neg (by simp), hv]
    unfold z5p
    rw [Nat.sub_self, Nat.pow_zero, Nat.div_one]
  · rw [Nat.sub_zero, Nat.div_eq_of_lt h1, zpq]; rfl
/-- What Valid answers. -/
def zq7 (x : Int) : Bool := decide (2 ≤ x) && decide (x < 2305843009213690799) && (pw x.toNat QQ == 1)
theorem zif (a : Nat) : (((a : Nat) : Int) == 1) = (a == 1) := by
  rw [Bool.eq_iff_iff, beq_iff_eq, beq_iff_eq]; omega
theorem zh9 (φ : Nat) (hφ : 100 < φ) (x : Int) : za9 φ x = some (zq7 x) := by
  unfold za9 zq7
  cases h : decide (2 ≤ x) && decide (x < 2305843009213690799) with
  | false => rw [zb0 (by simp)]; simp
  | true =>
    simp only [Bool.and_eq_true, decide_eq_true_eq] at h
    have := zj3 φ hφ x.toNat QQ (by omega) (by decide)
    rw [show ((x.toNat : Nat) : Int) = x by omega, show ((QQ : Nat) : Int) = 1152921504606845399 by decide] at this
    rw [zbo rfl, this, Option.bind_some, zif]
end Px
end
section
namespace Px
open Go
set_option linter.unusedVariables false
set_option linter.unusedSimpArgs false
set_option maxRecDepth 100000
def zau (p : z75) : Bool := bet p.fKind 1 5 && bet p.fRailway 0 15 && (bif p.fKind == 3 then bet p.fOther 0 15 && (p.fOther != p.fRailway) else p.fOther == (-1))
def zcy (n : Int) (e : Edge) : Bool := bet e.fA 0 (n - 1) && bet e.fB 0 (n - 1) && (e.fA != e.fB) && bet e.fRailway 0 15 && bet e.fMinutes 1 100000 && bet e.fKm 0 10000
def za7 (x : z7w) : Int := bif decide (512 < x.fPlaces.length) || decide (2048 < x.fEdges.length) then 2 else bif x.fPlaces.all zau && x.fEdges.all (zcy x.fPlaces.length) then 0 else 1
theorem zeh (φ : Nat) (p : z75) : z89 φ p = some (zau p) := by
  have hb : (((decide (p.fKind < 1) || decide (5 < p.fKind)) || decide (p.fRailway < 0)) || decide (16 ≤ p.fRailway)) = !(bet p.fKind 1 5 && bet p.fRailway 0 15) := by
    rw [Bool.eq_iff_iff]; simp [bet]; omega
  unfold z89 zau
  rw [hb]
  cases bet p.fKind 1 5 && bet p.fRailway 0 15 with
  | false => rfl
  | true =>
    rw [if_neg (by simp)]
    by_cases h : p.fKind = 3
    · have : (decide (0 ≤ p.fOther) && decide (p.fOther < 16)) = bet p.fOther 0 15 := by rw [Bool.eq_iff_iff]; simp [bet]; omega
      rw [if_neg (by simp [h]), this]; simp [h]
    · have h2 : (p.fKind == 3) = false := by simpa using h
      rw [if_pos (by simp [h]), h2]; rfl
theorem zm7 (n : Int) (e : Edge) : ((((((decide ((min2 (min2 (min2 (e.fA) (e.fB)) (e.fRailway)) (e.fKm)) < 0) || decide (n ≤ (max2 (e.fA) (e.fB)))) || (e.fA == e.fB)) || decide (16 ≤ e.fRailway)) || decide (e.fMinutes < 1)) || decide (100000 < e.fMinutes)) || decide (10000 < e.fKm)) = !zcy n e := by
  have hm : ∀ x y z : Int, z ≤ max2 x y ↔ z ≤ x ∨ z ≤ y := by intro x y z; unfold max2; split <;> omega
  have hok : zcy n e = true ↔ ((((((0 ≤ e.fA ∧ e.fA ≤ n - 1) ∧ 0 ≤ e.fB ∧ e.fB ≤ n - 1) ∧ ¬ e.fA = e.fB) ∧ 0 ≤ e.fRailway ∧ e.fRailway ≤ 15) ∧ 1 ≤ e.fMinutes ∧ e.fMinutes ≤ 100000) ∧ 0 ≤ e.fKm ∧ e.fKm ≤ 10000) := by
    simp only [zcy, Bool.and_eq_true, zh7, bne_iff_ne, ne_eq]
  rw [Bool.eq_iff_iff, Bool.not_eq_true', ← Bool.not_eq_true, hok]
  simp only [Bool.or_eq_true, decide_eq_true_eq, zpt, hm, beq_iff_eq]
  omega
theorem zn1 (x : z7w) : (decide (512 < (x.fPlaces.length : Int)) || decide (2048 < (x.fEdges.length : Int))) = (decide (512 < x.fPlaces.length) || decide (2048 < x.fEdges.length)) := by
  congr 1 <;> (apply decide_eq_decide.2; omega)
theorem zec (φ : Nat) (hφ : 5000 < φ) (x : z7w) : z88 φ x = some (za7 x) := by
  unfold z88 za7
  rw [zn1]
  cases h : decide (512 < x.fPlaces.length) || decide (2048 < x.fEdges.length) with
  | true => rfl
  | false =>
    simp only [Bool.or_eq_false_iff, decide_eq_false_iff_not, Nat.not_lt] at h
    rw [if_neg (by simp), zjg (z4j φ x (z49 φ x)) (z49 φ x) (some 1) x.fPlaces (fun t => !zau t) ?_ ?_ φ (by omega)]
    · unfold z49
      rw [zjg (z4f φ x (z4h φ)) (z4h φ) (some 1) x.fEdges (fun t => !zcy x.fPlaces.length t) ?_ ?_ φ (by omega)]
      · simp only [List.any_eq_not_all_not, Bool.not_not]
        cases x.fPlaces.all zau <;> cases x.fEdges.all (zcy x.fPlaces.length) <;> rfl
      · intro n i hi
        rw [z4f, if_pos (by simp; omega), z06 ⟨by omega, by omega⟩, zm7, W_id (by omega) (by omega)]
        cases zcy x.fPlaces.length (gt x.fEdges i) <;> rfl
      · intro n; rw [z4f, if_neg (by simp)]
    · intro n i hi
      rw [z4j, if_pos (by simp; omega), z06 ⟨by omega, by omega⟩, zeh, Option.bind_some, W_id (by omega) (by omega)]
      cases zau (gt x.fPlaces i) <;> rfl
    · intro n; rw [z4j, if_neg (by simp)]
theorem zm0 {x : z7w} (h : za7 x = 0) : x.fPlaces.length ≤ 512 ∧ x.fEdges.length ≤ 2048 ∧ (∀ p ∈ x.fPlaces, zau p = true) ∧ ∀ e ∈ x.fEdges, zcy x.fPlaces.length e = true := by
  unfold za7 at h
  cases h1 : decide (512 < x.fPlaces.length) || decide (2048 < x.fEdges.length) with
  | true => rw [h1] at h; cases h
  | false =>
    rw [h1] at h
    cases h2 : x.fPlaces.all zau && x.fEdges.all (zcy x.fPlaces.length) with
    | false => rw [h2] at h; cases h
    | true =>
      simp only [Bool.or_eq_false_iff, decide_eq_false_iff_not, Nat.not_lt] at h1
      simp only [Bool.and_eq_true, List.all_eq_true] at h2
      exact ⟨h1.1, h1.2, h2⟩
/-- What Check says of a calendar. -/
def zlp : Int → List Int → Bool
  | _, [] => true
  | p, h :: t => decide (p < h) && decide (h ≤ 745654) && zlp h t
def zg5 (s : Span) : Bool := decide (0 ≤ s.fFrom) && decide (s.fFrom ≤ s.fTo) && decide (s.fTo ≤ 1440)
def zij (c : z37) : Bool := ((List.range 7).all fun i => zg5 (c.fOpen i)) && zlp (-1) c.fHolidays
theorem zqb (φ : Nat) (c : z37) : ∀ (n i : Nat) (p : Int), -1 ≤ p → (i : Int) ≤ p + 1 → p ≤ 745654 → i ≤ c.fHolidays.length → 745656 ≤ (n : Int) + p → z4k φ c (z4t φ) n p i = some (bif zlp p (c.fHolidays.drop i) then 0 else 1) := by
  intro n
  induction n with
  | zero => intro i p _ _ _ _ _; omega
  | succ n ih =>
    intro i p hp hip hp2 hi hn
    by_cases h : i = c.fHolidays.length
    · rw [h, z4k, if_neg (by simp), List.drop_length]; rfl
    · rw [z4k, if_pos (by simp; omega), z06 ⟨by omega, by omega⟩, zln _ _ (by omega)]
      by_cases hb : gt c.fHolidays i ≤ p ∨ 745654 < gt c.fHolidays i
      · have : (decide (p < gt c.fHolidays i) && decide (gt c.fHolidays i ≤ 745654)) = false := by simp; omega
        rw [if_pos (by simpa using hb)]
        simp [zlp, this]
      · have h2 : (decide (p < gt c.fHolidays i) && decide (gt c.fHolidays i ≤ 745654)) = true := by simp; omega
        rw [if_neg (by simpa using hb), W_id (by omega) (by omega)]
        have := ih (i + 1) (gt c.fHolidays i) (by omega) (by omega) (by omega) (by omega) (by omega)
        rw [show ((i + 1 : Nat) : Int) = (i : Int) + 1 by omega] at this
        rw [this]
        simp [zlp, h2]
theorem zgq (s : Span) : ((decide (s.fFrom < 0) || decide (s.fTo < s.fFrom)) || decide (1440 < s.fTo)) = !zg5 s := by
  rw [Bool.eq_iff_iff]; simp [zg5]
  try omega
theorem zd2 (φ : Nat) (hφ : 800000 < φ) (c : z37) : z7o φ c = some (bif zij c then 0 else 1) := by
  unfold z7o
  refine z74 (fun n i (_ : Unit) => z3t φ c (z4g φ c) n i) 7 (fun i _ => ((List.range i).all fun j => zg5 (c.fOpen j)) = true) (fun o => o = some (bif zij c then 0 else 1)) ?_ ?_ φ () (by simp) (by omega)
  · intro n i _ hi h hs
    rw [z3t, if_pos (by simp; omega), z06 ⟨by omega, by omega⟩, Int.toNat_natCast, zgq, W_id (by omega) (by omega)]
    cases ho : zg5 (c.fOpen i) with
    | true =>
      rw [if_neg (by simp)]
      exact hs () (by rw [zbh, h, ho]; rfl)
    | false =>
      have : zij c = false := by
        unfold zij
        have : ((List.range 7).all fun j => zg5 (c.fOpen j)) = false := by
          rw [List.all_eq_false]; exact ⟨i, by simp; omega, by simp [ho]⟩
        rw [this]; rfl
      rw [if_pos (by simp), this]; rfl
  · intro n _ h
    rw [z3t, if_neg (by simp)]
    unfold z4g zij
    rw [h, Bool.true_and]
    have := zqb φ c φ 0 (-1) (by omega) (by omega) (by omega) (by omega) (by omega)
    simpa using this
end Px
end
section
namespace Px
open Go
set_option linter.unusedVariables false
set_option linter.unusedSimpArgs false
set_option maxRecDepth 100000
/-- A loop that gathers a flag. -/
theorem zd5 {α ρ : Type} [Inhabited α] (L : Nat → Bool → Int → Option ρ) (k : Bool → Option ρ) (l : List α) (p : α → Bool)
    (step : ∀ (n i : Nat) (s : Bool), i < l.length → L (n + 1) s i = L n (s || p (gt l i)) ((i : Int) + 1)) (done : ∀ n s, L (n + 1) s l.length = k s) (n : Nat) (s : Bool) (hn : l.length < n) : L n s 0 = k (s || l.any p) := by
  refine z74 (fun n i t => L n t i) l.length (fun i t => t = (s || (l.take i).any p)) (fun o => o = k (s || l.any p)) ?_ ?_ n s (by simp) hn
  · intro n i t hi ht hs
    rw [step n i t hi]
    exact hs _ (by rw [zcc _ _ _ hi, ht, Bool.or_assoc])
  · intro n t ht
    rw [List.take_length] at ht
    rw [done, ht]
def zfh (n : Int) (r : zca) : Bool := (((!bet r.fPlace 0 (n - 1)) || decide (r.fLow < (-1000))) || decide (r.fHigh < r.fLow)) || decide (1000 < r.fHigh)
def zdn (x : z7w) (s : zaa) : Bool := (!bet s.fPlace 0 ((x.fPlaces.length : Int) - 1)) || ((gt x.fPlaces s.fPlace).fKind != 4)
def zig (r : z1r) : Bool := !zij r.fCalendar || !zq7 r.fKey
def zf2 (x : Pool) : Bool :=
  ((((((x.fRailways.length : Int) == 0) || x.fReaders.any (zfh x.fNetwork.fPlaces.length)) || x.fShippers.any (zdn x.fNetwork)) || x.fFleet.fWagons.any (fun w => decide ((x.fNetwork.fPlaces.length : Int) ≤ w.fHome))) ||
  x.fNetwork.fPlaces.any (fun p => decide ((x.fRailways.length : Int) ≤ p.fRailway) || decide ((x.fRailways.length : Int) ≤ p.fOther))) || x.fNetwork.fEdges.any (fun e => decide ((x.fRailways.length : Int) ≤ e.fRailway)) || x.fRailways.any zig
def zep (x : Pool) : Bool := (decide (256 < (x.fReaders.length : Int)) || decide (256 < (x.fShippers.length : Int))) || decide (16 < (x.fRailways.length : Int))
/-- What CheckPool answers. -/
def z5m (x : Pool) : Int := if za7 x.fNetwork ≠ 0 then za7 x.fNetwork else if z8b x.fFleet ≠ 0 then z8b x.fFleet else bif zep x then 2 else bif zf2 x then 1 else 0
theorem z72 (φ : Nat) (hφ : 800000 < φ) (x : Pool) : z41 φ x = some (z5m x) := by
  unfold z41 z5m
  rw [zec _ (by omega), Option.bind_some]
  by_cases hn : za7 x.fNetwork = 0
  case neg => rw [if_pos (by simp [hn]), if_pos hn]
  rw [if_neg (by simp [hn]), if_neg (fun e : za7 x.fNetwork ≠ 0 => e hn), zfu _ (by omega), Option.bind_some]
  by_cases hf : z8b x.fFleet = 0
  case neg => rw [if_pos (by simp [hf]), if_pos hf]
  rw [if_neg (by simp [hf]), if_neg (fun e : z8b x.fFleet ≠ 0 => e hf)]
  cases hb : zep x with
  | true =>
    have e : (((decide (256 < (x.fReaders.length : Int)) || decide (256 < (x.fShippers.length : Int))) || decide (16 < (x.fRailways.length : Int)))) = zep x := rfl
    rw [e, hb]; rfl
  | false =>
    have hb' : ¬ (((decide (256 < (x.fReaders.length : Int)) || decide (256 < (x.fShippers.length : Int))) || decide (16 < (x.fRailways.length : Int))) = true) := by
      rw [show (((decide (256 < (x.fReaders.length : Int)) || decide (256 < (x.fShippers.length : Int))) || decide (16 < (x.fRailways.length : Int)))) = zep x from rfl, hb]; simp
    rw [if_neg hb']
    simp only [Bool.or_eq_true, decide_eq_true_eq, not_or] at hb'
    obtain ⟨n1, n2, _, _⟩ := zm0 hn
    obtain ⟨f1, f2, _⟩ := zbu hf
    have hp : W ((x.fNetwork.fPlaces.length : Int) - 1) = (x.fNetwork.fPlaces.length : Int) - 1 := W_id (by omega) (by omega)
    rw [zd5 (z38 φ x (z32 φ x)) (z32 φ x) x.fReaders (zfh x.fNetwork.fPlaces.length) ?_ ?_ φ _ (by omega)]
    rotate_left
    · intro n i s hi
      rw [z38, if_pos (by simp; omega), z06 ⟨by omega, by omega⟩, hp, W_id (by omega) (by omega)]
      unfold zfh
      cases s with
      | true => rw [zb0 (by simp)]; rfl
      | false => rw [zbo rfl]; rfl
    · intro n s; rw [z38, if_neg (by simp)]
    unfold z32
    rw [zd5 (z3m φ x (z31 φ x)) (z31 φ x) x.fShippers (zdn x.fNetwork) ?_ ?_ φ _ (by omega)]
    rotate_left
    · intro n i s hi
      rw [z3m, if_pos (by simp; omega), z06 ⟨by omega, by omega⟩, hp, W_id (by omega) (by omega)]
      unfold zdn
      cases s with
      | true => rw [zb0 (by simp), Option.bind_some, z06 (by simp)]; rfl
      | false =>
        rw [zbo rfl, z5y, Option.bind_some]
        cases hbt : bet (gt x.fShippers i).fPlace 0 ((x.fNetwork.fPlaces.length : Int) - 1) with
        | true => rw [z06 (fun _ => by have := zqa hbt; omega)]; rfl
        | false => rw [z06 (by simp)]; rfl
    · intro n s; rw [z3m, if_neg (by simp)]
    unfold z31
    rw [zd5 (z3n φ x (z30 φ x)) (z30 φ x) x.fFleet.fWagons (fun w => decide ((x.fNetwork.fPlaces.length : Int) ≤ w.fHome)) ?_ ?_ φ _ (by omega)]
    rotate_left
    · intro n i s hi
      rw [z3n, if_pos (by simp; omega), z06 ⟨by omega, by omega⟩, W_id (by omega) (by omega)]
    · intro n s; rw [z3n, if_neg (by simp)]
    unfold z30
    rw [zd5 (z3g φ x (z33 φ x)) (z33 φ x) x.fNetwork.fPlaces (fun p => decide ((x.fRailways.length : Int) ≤ p.fRailway) || decide ((x.fRailways.length : Int) ≤ p.fOther)) ?_ ?_ φ _ (by omega)]
    rotate_left
    · intro n i s hi
      rw [z3g, if_pos (by simp; omega), z06 ⟨by omega, by omega⟩, W_id (by omega) (by omega), Bool.or_assoc]
    · intro n s; rw [z3g, if_neg (by simp)]
    unfold z33
    rw [zd5 (z3j φ x (z2z φ x)) (z2z φ x) x.fNetwork.fEdges (fun e => decide ((x.fRailways.length : Int) ≤ e.fRailway)) ?_ ?_ φ _ (by omega)]
    rotate_left
    · intro n i s hi
      rw [z3j, if_pos (by simp; omega), z06 ⟨by omega, by omega⟩, W_id (by omega) (by omega)]
    · intro n s; rw [z3j, if_neg (by simp)]
    unfold z2z
    rw [zd5 (z3l φ x (z2e φ)) (z2e φ) x.fRailways zig ?_ ?_ φ _ (by omega)]
    rotate_left
    · intro n i s hi
      rw [z3l, if_pos (by simp; omega), z06 ⟨by omega, by omega⟩, W_id (by omega) (by omega)]
      unfold zig
      cases s with
      | true => rw [zb0 (by simp), Option.bind_some, zb0 (by simp)]; rfl
      | false =>
        rw [zbo rfl, zd2 _ hφ, Option.bind_some]
        cases zij (gt x.fRailways i).fCalendar with
        | false => rw [zb0 (by simp)]; rfl
        | true => rw [zbo (by simp), zh9 _ (by omega)]; rfl
    · intro n s; rw [z3l, if_neg (by simp)]
    show z2e φ (zf2 x) = _
    unfold z2e
    cases zf2 x <;> rfl
end Px
end
section
namespace Px
open Go
set_option linter.unusedVariables false
set_option linter.unusedSimpArgs false
set_option maxRecDepth 100000
def zno (it : Item) : Bool := bif zi8 it.fRef (Ref.mk 0 0) then it.fKind != 14 else (((decide (0 ≤ it.fRef.fRailway) && decide (it.fRef.fRailway < 16)) && decide (1 ≤ it.fRef.fNo)) && decide (it.fRef.fNo ≤ 4096))
theorem ze8 (φ : Nat) (it : Item) : z87 φ it = some (zno it) := by
  unfold z87 zno
  cases zi8 it.fRef (Ref.mk 0 0) <;> rfl
theorem zf7 (φ : Nat) (hφ : 11 < φ) (it : Item) (v : Bool) :
    z4m φ it (z55 φ it) φ 0 v = some (((v && [0, 0, 0, it.fNumber, 0, it.fTo, 0, it.fDest, it.fClass, it.fWeight, it.fAmount].all fun x => x == 0) && (it.fText == zf3)) && ((it.fParts.length : Int) == 0)) := by
  refine z74 (z4m φ it (z55 φ it)) 11 (fun n s => s = (v && ([0, 0, 0, it.fNumber, 0, it.fTo, 0, it.fDest, it.fClass, it.fWeight, it.fAmount].take n).all fun x => x == 0)) (fun o => o = some (((v && [0, 0, 0, it.fNumber, 0, it.fTo, 0, it.fDest, it.fClass, it.fWeight, it.fAmount].all fun x => x == 0) && (it.fText == zf3)) && ((it.fParts.length : Int) == 0))) ?_ ?_ φ v (by simp) hφ
  · intro n m s hm hs hk
    rw [z4m, if_pos (by simp; omega), z06 ⟨by omega, by omega⟩, W_id (by omega) (by omega)]
    refine hk _ ?_
    rw [zc2 _ _ _ hm, hs, Bool.and_assoc]
  · intro n s hs
    rw [z4m, if_neg (by simp), hs]
    rfl
def plIn (p : Pool) (it : Item) : Bool := decide (0 ≤ it.fPlace) && decide (it.fPlace < (p.fNetwork.fPlaces.length : Int))
/-- The fields of a delivery or a receipt. -/
def zlw (p : Pool) (it : Item) : Bool :=
  plIn p it && bet it.fWagon 0 ((p.fFleet.fWagons.length : Int) - 1) && ((gt p.fNetwork.fPlaces it.fPlace).fKind == 3) && ((it.fOther == (gt p.fNetwork.fPlaces it.fPlace).fRailway) || (it.fOther == (gt p.fNetwork.fPlaces it.fPlace).fOther)) &&
  bet it.fFrom 0 1073741824 && bet it.fCode 0 8 && (it.fNumber == 0) && (it.fTo == 0) && (it.fDest == 0) && (it.fClass == 0) && (it.fWeight == 0) && (it.fAmount == 0) && (it.fText == zf3) && ((it.fParts.length : Int) == 0)
theorem zfk (φ : Nat) (hφ : 11 < φ) (p : Pool) (it : Item) (hk : it.fKind = 3 ∨ it.fKind = 4) (hw : p.fFleet.fWagons.length ≤ 4096) : z9a φ p it = some (zlw p it) := by
  have h161 : z9a φ p it = z68 φ p it true := by
    unfold z9a
    rcases hk with h | h <;> simp only [h] <;> rfl
  have hW : W ((p.fFleet.fWagons.length : Int) - 1) = (p.fFleet.fWagons.length : Int) - 1 := W_id (by omega) (by omega)
  rw [h161]
  unfold z68 z6y zlw
  rw [if_pos rfl]
  have hpl : (decide (0 ≤ it.fPlace) && decide (it.fPlace < (p.fNetwork.fPlaces.length : Int))) = plIn p it := rfl
  rw [hpl, hW]
  cases hp : plIn p it with
  | true =>
    unfold plIn at hp
    rw [if_pos rfl, z06 (by simpa using hp), zf7 φ hφ]
    congr 1
    unfold bet
    generalize (it.fText == zf3) = z
    rw [Bool.eq_iff_iff]
    simp only [List.all_cons, List.all_nil, Bool.and_eq_true, Bool.or_eq_true, decide_eq_true_eq, beq_iff_eq, bne_iff_ne, ne_eq, beq_self_eq_true, true_and, and_true]
    generalize (gt p.fNetwork.fPlaces it.fPlace).fKind = k
    constructor
    · intro h
      obtain ⟨⟨⟨h1, h2⟩, h3⟩, h4⟩ := h
      refine ⟨⟨⟨⟨⟨⟨⟨⟨⟨⟨⟨⟨?_, ?_⟩, ?_⟩, ?_⟩, ?_⟩, ?_⟩, ?_⟩, ?_⟩, ?_⟩, ?_⟩, ?_⟩, h3⟩, h4⟩ <;> first | omega | grind
    · intro h
      grind
  | false =>
    rw [if_neg (by simp), zf7 φ hφ]
    simp
/-- Whether an item that is a delivery or a receipt is valid. -/
def okDR (p : Pool) (it : Item) : Bool := zno it && zlw p it
theorem zft (φ : Nat) (hφ : 800000 < φ) (p : Pool) (it : Item) (hk : it.fKind = 3 ∨ it.fKind = 4) :
    z8r φ p it = some (if z5m p ≠ 0 then z5m p else if okDR p it = true then 0 else 110) := by
  unfold z8r
  simp only [Pool.eta', Item.eta', z72 φ hφ, ze8, Option.bind_some]
  by_cases h : z5m p = 0
  · rw [if_neg (by simp [h]), if_neg (fun e : z5m p ≠ 0 => e h)]
    unfold okDR
    have hw : p.fFleet.fWagons.length ≤ 4096 := by
      unfold z5m at h
      by_cases hn : za7 p.fNetwork = 0
      · rw [if_neg (fun e : za7 p.fNetwork ≠ 0 => e hn)] at h
        by_cases hf : z8b p.fFleet = 0
        · exact (zbu hf).2.1
        · rw [if_pos hf] at h; exact absurd h hf
      · rw [if_pos hn] at h; exact absurd h hn
    cases hr : zno it with
    | false => rw [zb0 (by simp)]; rfl
    | true =>
      rw [zbo (by simp), zfk φ (by omega) p it hk hw]
      cases zlw p it <;> rfl
  · rw [if_pos (by simp [h]), if_pos h]
theorem za0 {p : Pool} {it : Item} (h : okDR p it = true) : (0 ≤ it.fPlace ∧ it.fPlace < (p.fNetwork.fPlaces.length : Int)) ∧ (0 ≤ it.fFrom ∧ it.fFrom ≤ 1073741824) ∧ (0 ≤ it.fCode ∧ it.fCode ≤ 8) ∧ (0 ≤ it.fWagon ∧ it.fWagon < (p.fFleet.fWagons.length : Int)) := by
  simp only [okDR, zlw, plIn, Bool.and_eq_true, decide_eq_true_eq, zh7] at h
  obtain ⟨_, h⟩ := h
  have h1 := h.1.1.1.1.1.1.1.1
  obtain ⟨⟨⟨⟨⟨h2, h3⟩, _⟩, _⟩, h4⟩, h5⟩ := h1
  exact ⟨h2, h4, h5, h3.1, by omega⟩
end Px
end
section
namespace Px
open Go
set_option linter.unusedVariables false
set_option linter.unusedSimpArgs false
theorem znt (φ : Nat) (hφ : 100 < φ) (p : Pool) : ∃ b, z79 φ p = some b ∧ (b = true → p.fRailways.length ≤ 17) := by
  unfold z79
  split
  · exact ⟨false, rfl, by simp⟩
  · rename_i h
    have hr : p.fRailways.length ≤ 17 := by
      simp only [Bool.or_eq_true, decide_eq_true_eq, not_or] at h; omega
    refine z74 (fun n i (_ : Unit) => z3k φ p (z4a φ) n i) p.fRailways.length (fun _ _ => True) (fun o => ∃ b, o = some b ∧ (b = true → p.fRailways.length ≤ 17)) ?_ ?_ φ () trivial (by omega)
    · intro n i _ hi _ hk
      rw [z3k, if_pos (by simp; omega), z06 ⟨by omega, by omega⟩]
      split
      · exact ⟨false, rfl, by simp⟩
      · rw [W_id (by omega) (by omega)]; exact hk () trivial
    · intro n _ _
      rw [z3k, if_neg (by simp)]; exact ⟨true, rfl, fun _ => hr⟩
theorem zqq (φ : Nat) (m : Nat) (hm : m ≤ 100000) (hφ : m < φ) (l : List zf) : ∃ b, z61 φ l (m : Int) = some b ∧ (b = true → l.length ≤ m) := by
  unfold z61
  split
  · exact ⟨false, rfl, by simp⟩
  · rename_i h
    have hr : l.length ≤ m := by
      simp only [decide_eq_true_eq] at h; omega
    refine z74 (fun n i (_ : Unit) => z3i φ l (z4b φ) n i) l.length (fun _ _ => True) (fun o => ∃ b, o = some b ∧ (b = true → l.length ≤ m)) ?_ ?_ φ () trivial (by omega)
    · intro n i _ hi _ hk
      rw [z3i, if_pos (by simp; omega), z06 ⟨by omega, by omega⟩]
      split
      · exact ⟨false, rfl, by simp⟩
      · rw [W_id (by omega) (by omega)]; exact hk () trivial
    · intro n _ _
      rw [z3i, if_neg (by simp)]; exact ⟨true, rfl, fun _ => hr⟩
theorem zt7 (φ : Nat) (hφ : 100 < φ) (p : Pool) (l : List zf) : ∃ b, zat φ p l = some b ∧ (b = true → l.length ≤ 60 ∧ p.fRailways.length ≤ 17) := by
  unfold zat
  obtain ⟨a, h1, h2⟩ := znt φ hφ p
  obtain ⟨c, h3, h4⟩ := zqq φ 60 (by omega) (by omega) l
  simp only [Pool.eta', h1, Option.bind_some]
  cases a with
  | false => rw [zb0 (by simp)]; exact ⟨false, rfl, by simp⟩
  | true =>
    rw [zbo rfl]
    have h3' : z61 φ l 60 = some c := h3
    rw [h3', Option.bind_some]
    exact ⟨c, by simp, fun e => ⟨h4 e, h2 rfl⟩⟩
end Px
end
section
namespace Px
open Go
set_option linter.unusedVariables false
set_option linter.unusedSimpArgs false
/-- The receipts; the deliveries in their order; the pairs; the handovers. -/
def isD (p : Pool) (r : zf) : Bool := r.fItem.fKind == 3 && okDR p r.fItem
def isR (p : Pool) (r : zf) : Bool := r.fItem.fKind == 4 && okDR p r.fItem
def rcpI (p : Pool) (l : List zf) : List Int := idxF (isR p) l
def dlvI (p : Pool) (l : List zf) : List Int := zc0 (zap l) (idxF (isD p) l)
def prs (p : Pool) (l : List zf) : List (Nat → Int) := zaz p l (rcpI p l) (dlvI p l)
def mts (p : Pool) (l : List zf) : List z3 := if z5m p = 0 then zc0 zh6 ((prs p l).map (mkH l)) else []
theorem zcg {p : Pool} {l : List zf} {i : Int} (h : i ∈ rcpI p l) : (0 ≤ i ∧ i < (l.length : Int)) ∧ (gt l i).fItem.fKind = 4 ∧ okDR p (gt l i).fItem = true := by
  obtain ⟨h1, h2, h3⟩ := z95.1 h
  simp only [isR, Bool.and_eq_true, beq_iff_eq] at h3
  exact ⟨⟨h1, h2⟩, h3⟩
theorem zcl {p : Pool} {l : List zf} {i : Int} (h : i ∈ dlvI p l) : (0 ≤ i ∧ i < (l.length : Int)) ∧ (gt l i).fItem.fKind = 3 ∧ okDR p (gt l i).fItem = true := by
  obtain ⟨h1, h2, h3⟩ := z95.1 (zhp _ h)
  simp only [isD, Bool.and_eq_true, beq_iff_eq] at h3
  exact ⟨⟨h1, h2⟩, h3⟩
theorem zng (p : Pool) (l : List zf) : (dlvI p l).length ≤ l.length := by
  unfold dlvI; rw [zhq (zc4 l)]; exact zh4 _ _
theorem zkn (p : Pool) (l : List zf) : (prs p l).length ≤ l.length := Nat.le_trans (zmo p l _ _) (zng p l)
theorem zmw (p : Pool) (l : List zf) : (mts p l).length ≤ l.length := by
  unfold mts
  split
  · rw [zhq zd4]; simpa using zkn p l
  · simp
theorem ok34 (φ : Nat) (hφ : 800000 < φ) (p : Pool) (hc : z5m p = 0) (l : List zf) : ∀ r ∈ l, r.fItem.fKind = 3 ∨ r.fItem.fKind = 4 → ∃ e, z8r φ p r.fItem = some e ∧ (e == 0) = okDR p r.fItem := by
  intro r _ hk
  rw [zft φ hφ p _ hk, if_neg (fun e : z5m p ≠ 0 => e hc)]
  refine ⟨_, rfl, ?_⟩
  cases okDR p r.fItem <;> rfl
theorem zlh (φ : Nat) (hφ : 800000 < φ) (p : Pool) (l : List zf) (hl : l.length ≤ 100000) : z52 φ p l = some (if z5m p = 0 then prs p l else []) := by
  by_cases hc : z5m p = 0
  · obtain ⟨ds, s1, s2, s3⟩ := zne φ p l (okDR p) hl (by omega) (by rw [z72 φ hφ, hc]) (ok34 φ hφ p hc l) (fun r _ _ h => (za0 h).1)
    rw [if_pos hc, s3]
    have : ds = dlvI p l := zhc (zc4 l) s1 s2
    rw [this]; rfl
  · rw [if_neg hc]
    unfold z52
    simp only [Pool.eta', z72 φ hφ, Option.bind_some]
    rw [if_pos (by simpa using hc)]
theorem zlb (φ : Nat) (hφ : 800000 < φ) (p : Pool) (l : List zf) (hl : l.length ≤ 100000) : z4l φ p l = some (mts p l) := by
  have hb : ∀ ps : List (Nat → Int), ps.length ≤ 100000 → (∀ x ∈ ps, (0 ≤ x 0 ∧ x 0 < (l.length : Int)) ∧ 0 ≤ x 1 ∧ x 1 < (l.length : Int)) → z52 φ p l = some ps → z4l φ p l = some (zc0 zh6 (ps.map (mkH l))) := by
    intro ps hps hin he
    obtain ⟨ms, m1, m2, m3⟩ := zbb zd4 (zpo φ (by omega)) φ (ps.map (mkH l)) (fun _ _ => trivial) (by simp; omega) (by simp; omega)
    unfold z4l
    simp only [Pool.eta', he, Option.bind_some]
    rw [zkb φ l _ hps hin (by omega)]
    unfold z3a
    rw [m3, Option.bind_some, zhc zd4 m1 m2]
  have hp := zlh φ hφ p l hl
  unfold mts
  by_cases hc : z5m p = 0
  · rw [if_pos hc] at hp ⊢
    refine hb _ (Nat.le_trans (zkn p l) hl) ?_ hp
    exact ziu (fun z hz => (zcg hz).1) (fun z hz => (zcl hz).1)
  · rw [if_neg hc] at hp ⊢
    exact hb [] (by simp) (by simp) hp
/-- What a valid pool says of a wagon's home. -/
theorem zlm {p : Pool} (hc : z5m p = 0) {w : Int} (hw : 0 ≤ w ∧ w < (p.fFleet.fWagons.length : Int)) :
    0 ≤ (gt p.fFleet.fWagons w).fHome ∧ (gt p.fFleet.fWagons w).fHome < (p.fNetwork.fPlaces.length : Int) := by
  have hm := z91 (l := p.fFleet.fWagons) hw.1 hw.2
  unfold z5m at hc
  by_cases hn : za7 p.fNetwork = 0
  case neg => rw [if_pos hn] at hc; exact absurd hc hn
  by_cases hf : z8b p.fFleet = 0
  case neg => rw [if_neg (fun e : za7 p.fNetwork ≠ 0 => e hn), if_pos hf] at hc; exact absurd hc hf
  rw [if_neg (fun e : za7 p.fNetwork ≠ 0 => e hn), if_neg (fun e : z8b p.fFleet ≠ 0 => e hf)] at hc
  obtain ⟨_, _, _, _, _, f6, _⟩ := zbu hf
  have h2 := f6 _ hm
  simp only [zbt, Bool.and_eq_true, zh7] at h2
  refine ⟨h2.1.1.2.1, ?_⟩
  cases hb : zep p with
  | true => rw [hb] at hc; cases hc
  | false =>
    cases hd : zf2 p with
    | true => rw [hb, hd] at hc; cases hc
    | false =>
      unfold zf2 at hd
      simp only [Bool.or_eq_false_iff, List.any_eq_false, beq_eq_false_iff_ne, decide_eq_true_eq, Bool.not_eq_true] at hd
      have := hd.1.1.1.2 _ hm
      omega
def chnC (p : Pool) (l : List zf) (w : Int) : List zj := zbz (zhy p w) w (mts p l)
theorem zqu (φ : Nat) (hφ : 800000 < φ) (p : Pool) (l : List zf) (hl : l.length ≤ 100000) (hc : z5m p = 0) (w : Int) (hw : 0 ≤ w ∧ w < (p.fFleet.fWagons.length : Int)) : z6e φ p l w = some (chnC p l w) := by
  have := zmw p l
  exact zn4 φ p l w _ (zlb φ hφ p l hl) (by omega) (by omega) hw (zlm hc hw)
theorem znk (p : Pool) (l : List zf) (w : Int) : Chn (chnC p l w) := by
  have := zf4 w (mts p l) [] (zhy p w) (List.pairwise_singleton _ _)
  exact this
theorem zcm (w : Int) : ∀ (ms : List z3) (a : List zj), a.length ≤ (ms.foldl (z2h w) a).length ∧ (ms.foldl (z2h w) a).length ≤ a.length + ms.length
  | [], a => ⟨Nat.le_refl _, Nat.le_refl _⟩
  | m :: ms, a => by
    have h1 := zc6 w a m
    have h2 := zcm w ms (z2h w a m)
    simp only [List.foldl_cons, List.length_cons]
    omega
theorem zn7 (p : Pool) (l : List zf) (w : Int) : 1 ≤ (chnC p l w).length ∧ (chnC p l w).length ≤ l.length + 1 := by
  have h1 := zcm w (mts p l) [zhy p w]
  have h2 := zmw p l
  unfold chnC zbz
  simp at h1 ⊢
  omega
theorem zc3 (w : Int) : ∀ (ms : List z3) (a : List zj), ∃ b, ms.foldl (z2h w) a = a ++ b
  | [], a => ⟨[], by simp⟩
  | m :: ms, a => by
    obtain ⟨b, hb⟩ := zc3 w ms (z2h w a m)
    have : ∃ b', z2h w a m = a ++ b' := by
      unfold z2h
      split
      · exact ⟨_, rfl⟩
      · exact ⟨[], by simp⟩
    obtain ⟨b', hb'⟩ := this
    exact ⟨b' ++ b, by rw [List.foldl_cons, hb, hb', List.append_assoc]⟩
theorem zlg (p : Pool) (l : List zf) (w : Int) : gt (chnC p l w) 0 = zhy p w := by
  obtain ⟨b, hb⟩ := zc3 w (mts p l) [zhy p w]
  unfold chnC zbz
  rw [hb]; rfl
/-- A chain is cut by a minute. -/
theorem zkx : ∀ (c : List zj), Chn c → ∀ m : Int, ∃ i : Nat, i ≤ c.length ∧ c.filter (fun x => decide (x.fSpan.fFrom ≤ m)) = c.take i ∧ (∀ j : Nat, j < i → (gt c (j : Int)).fSpan.fFrom ≤ m) ∧ ∀ j : Nat, i ≤ j → j < c.length → m < (gt c (j : Int)).fSpan.fFrom
  | [], _, m => ⟨0, Nat.le_refl _, rfl, by omega, by simp⟩
  | x :: c, h, m => by
    have h' := List.pairwise_cons.1 h
    by_cases hx : x.fSpan.fFrom ≤ m
    · obtain ⟨i, h1, h2, h3, h4⟩ := zkx c h'.2 m
      have hg : ∀ j : Nat, gt (x :: c) ((j + 1 : Nat) : Int) = gt c (j : Int) := fun j => by simp [gt]
      refine ⟨i + 1, by simp; omega, ?_, fun j hj => ?_, fun j hj hj' => ?_⟩
      · rw [List.filter_cons_of_pos (by simpa using hx), h2]; rfl
      · cases j with
        | zero => exact hx
        | succ j => rw [hg]; exact h3 j (by omega)
      · cases j with
        | zero => omega
        | succ j => rw [hg]; exact h4 j (by omega) (by simp at hj'; omega)
    · have hall : ∀ y ∈ x :: c, m < y.fSpan.fFrom := fun y hy => by
        rcases List.mem_cons.1 hy with rfl | hy
        · omega
        · have := h'.1 y hy; omega
      refine ⟨0, Nat.zero_le _, ?_, by omega, fun j _ hj => hall _ (z91 (by omega) (by omega))⟩
      rw [List.take_zero, List.filter_eq_nil_iff]
      intro y hy
      have := hall y hy
      simp; omega
def cutC (c : List zj) (m : Int) : List zj := c.filter fun x => decide (x.fSpan.fFrom ≤ m)
def okWM (p : Pool) (w m : Int) : Prop := 0 ≤ w ∧ w < (p.fFleet.fWagons.length : Int) ∧ 0 ≤ m ∧ m ≤ 1073741824
instance (p : Pool) (w m : Int) : Decidable (okWM p w m) := by unfold okWM; infer_instance
theorem zo1 (φ : Nat) (hφ : 800000 < φ) (p : Pool) (l : List zf) (hl : l.length ≤ 90000) (w m : Int) :
    z7b φ p l w m = some (if z5m p ≠ 0 then (0, z5m p) else if okWM p w m then ((zhw (cutC (chnC p l w) m)).fRailway, 0) else (0, 1)) := by
  unfold z7b
  rw [zn8 φ p w m _ (z72 φ hφ p), Option.bind_some]
  by_cases hc : z5m p = 0
  case neg => rw [if_pos hc, if_pos (by simpa using hc), if_pos hc]
  rw [if_neg (fun e : z5m p ≠ 0 => e hc), if_neg (fun e : z5m p ≠ 0 => e hc)]
  by_cases hv : okWM p w m
  case neg =>
    have hv' : ¬ (0 ≤ w ∧ w < (p.fFleet.fWagons.length : Int) ∧ 0 ≤ m ∧ m ≤ 1073741824) := hv
    rw [if_neg hv', if_pos (by decide), if_neg hv]
  have hv' : 0 ≤ w ∧ w < (p.fFleet.fWagons.length : Int) ∧ 0 ≤ m ∧ m ≤ 1073741824 := hv
  rw [if_pos hv', if_neg (by decide), if_pos hv]
  obtain ⟨w0, w1, m0, m1⟩ := hv
  rw [zqu φ hφ p l (by omega) hc w ⟨w0, w1⟩, Option.bind_some]
  obtain ⟨c1, c2⟩ := zn7 p l w
  have e : W (((chnC p l w).length : Int) - 1) = (((chnC p l w).length - 1 : Nat) : Int) := by rw [W_id (by omega) (by omega)]; omega
  obtain ⟨i, h1, h2, h3, h4⟩ := zqn φ m (chnC p l w) (by omega) φ ((chnC p l w).length - 1) (by omega) ⟨0, by omega, by
    have : gt (chnC p l w) ((0 : Nat) : Int) = zhy p w := zlg p l w
    rw [this]; exact m0⟩ (by omega)
  rw [e, h4]
  obtain ⟨i0, k1, k2, k3, k4⟩ := zkx _ (znk p l w) m
  have : i0 = i + 1 := by
    by_cases q : i < i0
    · by_cases q2 : i + 1 < i0
      · have a := h3 (i + 1) (by omega) (by omega)
        have b := k3 (i + 1) q2
        omega
      · omega
    · have := k4 i (by omega) (by omega); omega
  unfold cutC
  rw [k2, this, z7x _ _ (by omega), zht]
end Px
end
section
namespace Px
open Go
theorem zis : zb4 1000000 = some true := by kernel_rfl
end Px
end
section
namespace Px
open Go
set_option linter.unusedVariables false
set_option linter.unusedSimpArgs false
theorem zji {a b : zf} (ha : 0 ≤ a.fItem.fFrom ∧ a.fItem.fFrom ≤ 1073741824) (hb : 0 ≤ b.fItem.fFrom ∧ b.fItem.fFrom ≤ 1073741824) : gapW a b = max2 (a.fItem.fFrom - b.fItem.fFrom) (b.fItem.fFrom - a.fItem.fFrom) := by
  unfold gapW; rw [W_id (by omega) (by omega), W_id (by omega) (by omega)]
theorem zqs {a b : Int} (ha : 0 ≤ a ∧ a ≤ 1073741824) (hb : 0 ≤ b ∧ b ≤ 1073741824) : W ((W (a + b)).tdiv 2) = (a + b) / 2 := by
  rw [W_id (x := a + b) (by omega) (by omega), Int.tdiv_eq_ediv_of_nonneg (by omega), W_id (by omega) (by omega)]
theorem srt_at {α : Type} [Inhabited α] {lt : α → α → Bool} {l : List α} (h : Srt lt l) {i j : Nat} (hij : i < j) (hj : j < l.length) : lt (gt l (j : Int)) (gt l (i : Int)) = false := by
  have := List.pairwise_iff_getElem.1 h i j (by omega) hj hij
  rw [zct (by omega), zct (by omega)]; exact this
theorem zru {α : Type} [Inhabited α] {l : List α} (h : l.Nodup) {i j : Nat} (hij : i < j) (hj : j < l.length) : gt l (i : Int) ≠ gt l (j : Int) := by
  have := List.pairwise_iff_getElem.1 h i j (by omega) hj hij
  rw [zct (by omega), zct (by omega)]; exact this
theorem zot {α β : Type} [Inhabited α] [Inhabited β] (f : α → β) (l : List α) (i : Nat) (h : i < l.length) : gt (l.map f) (i : Int) = f (gt l (i : Int)) := by
  rw [zct (by simpa using h), zct h]; simp
end Px
end
section
namespace Px
open Go
set_option linter.unusedVariables false
set_option linter.unusedSimpArgs false
/-- The reports that q picks, by their places. -/
def z3z (q : zf → Bool) (l : List zf) : List zf := (idxF q l).map fun i => gt l i
def sig (q : zf → Bool) (l : List zf) (j : Int) : Int := gt (idxF q l) j
theorem znb {α : Type} [Inhabited α] (I : List α) : (List.range I.length).map (fun (j : Nat) => gt I (j : Int)) = I := by
  apply List.ext_getElem
  · simp
  · intro i h1 h2
    simp only [List.getElem_map, List.getElem_range]
    exact zct h2
theorem zjn {q : zf → Bool} {l : List zf} (f : zf → Bool) : (idxF f (z3z q l)).map (sig q l) = (idxF q l).filter fun i => f (gt l i) := by
  have h1 : idxF f (z3z q l) = ((List.range (idxF q l).length).filter fun (j : Nat) => f (gt l (gt (idxF q l) (j : Int)))).map fun (j : Nat) => (j : Int) := by
    unfold idxF
    rw [show (z3z q l).length = (idxF q l).length by simp [z3z]]
    congr 1
    refine List.filter_congr fun j hj => ?_
    have hj' : j < (idxF q l).length := by simpa using hj
    unfold z3z
    rw [zot _ _ _ hj']; rfl
  rw [h1, List.map_map]
  conv => rhs; rw [← znb (idxF q l)]
  rw [List.filter_map]
  rfl
theorem zgx (q : zf → Bool) (l : List zf) : (z3z q l).length = (idxF q l).length := by simp [z3z]
theorem z9g {q : zf → Bool} {l : List zf} {j : Int} (h : 0 ≤ j ∧ j < ((z3z q l).length : Int)) : gt (z3z q l) j = gt l (sig q l j) := by
  rw [zgx] at h
  have e : j = ((j.toNat : Nat) : Int) := by omega
  rw [e]; unfold z3z sig
  rw [zot _ _ _ (by omega)]
theorem zf8 {q : zf → Bool} {l : List zf} {j : Int} (h : 0 ≤ j ∧ j < ((z3z q l).length : Int)) : (0 ≤ sig q l j ∧ sig q l j < (l.length : Int)) ∧ q (gt l (sig q l j)) = true := by
  rw [zgx] at h
  have := z95.1 (z91 (l := idxF q l) h.1 h.2)
  exact ⟨⟨this.1, this.2.1⟩, this.2.2⟩
theorem zqj {q : zf → Bool} {l : List zf} {i j : Int} (hi : 0 ≤ i ∧ i < ((z3z q l).length : Int)) (hj : 0 ≤ j ∧ j < ((z3z q l).length : Int)) (e : sig q l i = sig q l j) : i = j := by
  rw [zgx] at hi hj
  have nd := zk7 q l
  have key : ∀ a b : Nat, a < b → b < (idxF q l).length → gt (idxF q l) (a : Int) ≠ gt (idxF q l) (b : Int) := fun a b h1 h2 => zru nd h1 h2
  have ei : i = ((i.toNat : Nat) : Int) := by omega
  have ej : j = ((j.toNat : Nat) : Int) := by omega
  unfold sig at e
  rw [ei, ej] at e
  rcases Nat.lt_trichotomy i.toNat j.toNat with h | h | h
  · exact absurd e (key _ _ h (by omega))
  · omega
  · exact absurd e.symm (key _ _ h (by omega))
theorem znv (p : Pool) (q : zf → Bool) (l : List zf) : (dlvI p (z3z q l)).map (sig q l) = (dlvI p l).filter fun i => q (gt l i) := by
  unfold dlvI
  rw [← zmt (zap l) (zap (z3z q l)) (sig q l) (fun j => 0 ≤ j ∧ j < ((z3z q l).length : Int)) (fun x y hx hy => by
    unfold zap zlj; rw [z9g hx, z9g hy]) _ (fun x hx => by have := z95.1 hx; exact ⟨this.1, this.2.1⟩), zan (zc4 l), zjn]
  congr 1
  unfold idxF
  rw [List.filter_map, List.filter_map, List.filter_filter, List.filter_filter]
  congr 1
  refine List.filter_congr fun j _ => ?_
  show (isD p (gt l (j : Int)) && q (gt l (j : Int))) = (q (gt l (j : Int)) && isD p (gt l (j : Int)))
  exact Bool.and_comm _ _
theorem zn6 (p : Pool) (q : zf → Bool) (l : List zf) : (rcpI p (z3z q l)).map (sig q l) = (rcpI p l).filter fun i => q (gt l i) := by
  unfold rcpI
  rw [zjn]
  unfold idxF
  rw [List.filter_map, List.filter_map, List.filter_filter, List.filter_filter]
  congr 1
  refine List.filter_congr fun j _ => ?_
  show (isR p (gt l (j : Int)) && q (gt l (j : Int))) = (q (gt l (j : Int)) && isR p (gt l (j : Int)))
  exact Bool.and_comm _ _
theorem zdr {α : Type} (f : α → Bool) : ∀ {l : List α}, l.Pairwise (fun a b => f b = true → f a = true) → l = l.filter f ++ l.filter (fun x => !f x)
  | [], _ => rfl
  | x :: l, h => by
    have h' := List.pairwise_cons.1 h
    cases e : f x with
    | true =>
      rw [List.filter_cons_of_pos e, List.filter_cons_of_neg (by simp [e])]
      conv => lhs; rw [zdr f h'.2]
      rfl
    | false =>
      have hn : ∀ y ∈ l, f y = false := fun y hy => by
        cases e2 : f y with
        | false => rfl
        | true => have := h'.1 y hy e2; rw [e] at this; cases this
      rw [List.filter_cons_of_neg (by simp [e]), List.filter_cons_of_pos (by simp [e]), List.filter_eq_nil_iff.2 (fun y hy => by simp [hn y hy]), List.filter_eq_self.2 (fun y hy => by simp [hn y hy])]
      rfl
/-- The early handovers of a wagon. -/
def z9m (w m : Int) (h : z3) : Bool := (h.fWagon == w) && decide (h.fAt ≤ m)
def soon (m : Int) (l : List zf) (i : Int) : Bool := decide ((gt l i).fItem.fFrom ≤ m + 60)
def z1z (w m : Int) (r : zf) : Bool := (r.fItem.fWagon == w) && decide (r.fItem.fFrom ≤ m + 120)
theorem zi4 (p : Pool) (l : List zf) (m : Int) : dlvI p l = (dlvI p l).filter (soon m l) ++ (dlvI p l).filter (fun i => !soon m l i) := by
  refine zdr _ ((z8f (zc4 l) _).1.imp fun {a b} h hb => ?_)
  simp only [zap, decide_eq_false_iff_not, zh5] at h
  simp only [soon, decide_eq_true_eq] at hb ⊢
  omega
/-- Late deliveries make late handovers. -/
theorem zf1 {p : Pool} {l : List zf} {w m : Int} : ∀ (ds : List Int) (st : List (Int × Bool) × List (Nat → Int)), (∀ d ∈ ds, d ∈ dlvI p l ∧ soon m l d = false) →
    ((ds.foldl (z9y p l (rcpI p l)) st).2.map (mkH l)).filter (z9m w m) = (st.2.map (mkH l)).filter (z9m w m)
  | [], st, _ => rfl
  | d :: ds, st, h => by
    rw [List.foldl_cons, zf1 ds _ fun e he => h e (by simp [he])]
    obtain ⟨h1, h2⟩ := h d (by simp)
    unfold z9y
    split
    · rfl
    · split
      · rename_i hb
        rcases zac l st.1 d (rcpI p l) (-1) hb with e | ⟨e1, e2⟩
        · have : z6g l st.1 d (rcpI p l) = -1 := e
          omega
        · have e1' : z6g l st.1 d (rcpI p l) ∈ rcpI p l := e1
          have e2' : zaf l st.1 d (z6g l st.1 d (rcpI p l)) = false := e2
          obtain ⟨_, _, o1⟩ := zcl h1
          obtain ⟨_, _, o2⟩ := zcg e1'
          generalize z6g l st.1 d (rcpI p l) = b at *
          have t1 := (za0 o1).2.1
          have t2 := (za0 o2).2.1
          have hg := (zcp e2').1
          simp only [zaf, z94, decide_eq_false_iff_not, zji t1 t2] at hg
          have hA : (mkH l (ofL [d, b])).fAt = ((gt l d).fItem.fFrom + (gt l b).fItem.fFrom) / 2 := zqs t1 t2
          have hE : z9m w m (mkH l (ofL [d, b])) = false := by
            unfold z9m
            rw [hA]
            have h3 := hg.2
            simp only [soon, decide_eq_false_iff_not] at h2
            have : ¬ ((gt l d).fItem.fFrom + (gt l b).fItem.fFrom) / 2 ≤ m := by
              unfold max2 at h3
              split at h3 <;> omega
            simp [this]
          rw [List.map_append, List.filter_append, List.map_cons, List.map_nil, List.filter_cons_of_neg (by simp [hE])]
          simp
      · rfl
structure LSt (w m : Int) (l : List zf) (st st' : List (Int × Bool) × List (Nat → Int)) : Prop where
  used : ∀ k, 0 ≤ k ∧ k < ((z3z (z1z w m) l).length : Int) → (mget st'.1 k).getD false = (mget st.1 (sig (z1z w m) l k)).getD false
  out : (st.2.map (mkH l)).filter (z9m w m) = (st'.2.map (mkH (z3z (z1z w m) l))).filter (z9m w m)
/-- A delivery of another wagon. -/
theorem zkh {p : Pool} {l : List zf} {w m : Int} {st st' : List (Int × Bool) × List (Nat → Int)} (hs : LSt w m l st st') {d : Int} (hw : (gt l d).fItem.fWagon ≠ w) : LSt w m l (z9y p l (rcpI p l) st d) st' := by
  unfold z9y
  split
  · exact hs
  · split
    · rename_i hb
      rcases zac l st.1 d (rcpI p l) (-1) hb with e | ⟨e1, e2⟩
      · have : z6g l st.1 d (rcpI p l) = -1 := e
        omega
      · have e2' : zaf l st.1 d (z6g l st.1 d (rcpI p l)) = false := e2
        generalize z6g l st.1 d (rcpI p l) = b at *
        have hg := (zcp e2').1
        simp only [zaf, unf5, z94, bne_eq_false_iff_eq] at hg
        have hbw : (gt l b).fItem.fWagon ≠ w := by rw [hg.1.1.2]; exact hw
        refine ⟨fun k hk => ?_, ?_⟩
        · simp only [zff]
          have hq := (zf8 hk).2
          have : sig (z1z w m) l k ≠ b := fun e => by
            rw [e] at hq
            simp only [z1z, Bool.and_eq_true, beq_iff_eq] at hq
            exact hbw hq.1
          rw [if_neg (by simpa using this)]
          exact hs.used k hk
        · rw [List.map_append, List.filter_append, List.map_cons, List.map_nil, List.filter_cons_of_neg (by
            have : (mkH l (ofL [d, b])).fWagon = (gt l d).fItem.fWagon := rfl
            simp [z9m, this, hw])]
          simpa using hs.out
    · exact hs
/-- The partner of a delivery in the shorter list. -/
theorem zk9 {p : Pool} {l : List zf} {w m : Int} {st st' : List (Int × Bool) × List (Nat → Int)} (hs : LSt w m l st st') {d : Int} (hd : 0 ≤ d ∧ d < ((z3z (z1z w m) l).length : Int)) (hdm : sig (z1z w m) l d ∈ dlvI p l) (hso : soon m l (sig (z1z w m) l d) = true) :
    z6g l st.1 (sig (z1z w m) l d) (rcpI p l) = if 0 ≤ z6g (z3z (z1z w m) l) st'.1 d (rcpI p (z3z (z1z w m) l)) then sig (z1z w m) l (z6g (z3z (z1z w m) l) st'.1 d (rcpI p (z3z (z1z w m) l))) else -1 := by
  have hdw := (zf8 hd).2
  simp only [z1z, Bool.and_eq_true, beq_iff_eq, decide_eq_true_eq] at hdw
  have hdw1 : (gt l (sig (z1z w m) l d)).fItem.fWagon = w := hdw.1
  have hskip : ∀ (rs : List Int) (b : Int), (∀ k ∈ rs, k ∈ rcpI p l) → rs.foldl (z8c l st.1 (sig (z1z w m) l d)) b = (rs.filter fun i => z1z w m (gt l i)).foldl (z8c l st.1 (sig (z1z w m) l d)) b := by
    intro rs
    induction rs with
    | nil => intro b _; rfl
    | cons k rs ih =>
      intro b hr
      cases e : z1z w m (gt l k) with
      | true => rw [List.filter_cons_of_pos (p := fun i => z1z w m (gt l i)) e, List.foldl_cons, List.foldl_cons]; exact ih _ fun z hz => hr z (by simp [hz])
      | false =>
        rw [List.filter_cons_of_neg (by simp [e]), List.foldl_cons]
        have hu : zaf l st.1 (sig (z1z w m) l d) k = true := by
          obtain ⟨_, _, o1⟩ := zcl hdm
          obtain ⟨_, _, o2⟩ := zcg (hr k (by simp))
          have t1 := (za0 o1).2.1
          have t2 := (za0 o2).2.1
          cases hu : zaf l st.1 (sig (z1z w m) l d) k with
          | true => rfl
          | false =>
            have hg := (zcp hu).1
            simp only [zaf, unf5, z94, bne_eq_false_iff_eq, decide_eq_false_iff_not, zji t1 t2] at hg
            obtain ⟨⟨⟨⟨_, _⟩, q1⟩, _⟩, q2⟩ := hg
            simp only [soon, decide_eq_true_eq] at hso
            have : z1z w m (gt l k) = true := by
              unfold z1z
              rw [q1, hdw1]
              simp only [beq_self_eq_true, Bool.true_and, decide_eq_true_eq]
              unfold max2 at q2
              split at q2 <;> omega
            rw [e] at this; cases this
        have : z8c l st.1 (sig (z1z w m) l d) b k = b := by unfold z8c; rw [if_pos hu]
        rw [this]
        exact ih _ fun z hz => hr z (by simp [hz])
  unfold z6g
  rw [hskip _ _ (fun k hk => hk), ← zn6 p (z1z w m) l]
  have hrn : ∀ z ∈ rcpI p (z3z (z1z w m) l), 0 ≤ z ∧ z < ((z3z (z1z w m) l).length : Int) := fun z hz => (zcg hz).1
  -- step by step
  have key : ∀ (rs : List Int) (b b' : Int), (∀ z ∈ rs, 0 ≤ z ∧ z < ((z3z (z1z w m) l).length : Int)) → (b' = -1 ∧ b = -1 ∨ (0 ≤ b' ∧ b' < ((z3z (z1z w m) l).length : Int)) ∧ b = sig (z1z w m) l b') →
      (rs.foldl (z8c (z3z (z1z w m) l) st'.1 d) b' = -1 ∧ (rs.map (sig (z1z w m) l)).foldl (z8c l st.1 (sig (z1z w m) l d)) b = -1 ∨
        (0 ≤ rs.foldl (z8c (z3z (z1z w m) l) st'.1 d) b' ∧ rs.foldl (z8c (z3z (z1z w m) l) st'.1 d) b' < ((z3z (z1z w m) l).length : Int)) ∧ (rs.map (sig (z1z w m) l)).foldl (z8c l st.1 (sig (z1z w m) l d)) b = sig (z1z w m) l (rs.foldl (z8c (z3z (z1z w m) l) st'.1 d) b')) := by
    intro rs
    induction rs with
    | nil => intro b b' _ h; exact h
    | cons k rs ih =>
      intro b b' hr h
      have hk := hr k (by simp)
      simp only [List.map_cons, List.foldl_cons]
      refine ih _ _ (fun z hz => hr z (by simp [hz])) ?_
      have hu : zaf l st.1 (sig (z1z w m) l d) (sig (z1z w m) l k) = zaf (z3z (z1z w m) l) st'.1 d k := by
        unfold zaf unf5
        rw [hs.used k hk, z9g hd, z9g hk]
      have hsk := (zf8 hk).1
      unfold z8c
      rw [hu]
      split
      · exact h
      · rcases h with ⟨rfl, rfl⟩ | ⟨hb, rfl⟩
        · simp only [show (decide ((0 : Int) ≤ -1)) = false from rfl, Bool.false_and, Bool.false_eq_true, if_false]
          exact .inr ⟨hk, trivial⟩
        · have hbe : betC l (sig (z1z w m) l d) (sig (z1z w m) l b') (sig (z1z w m) l k) = betC (z3z (z1z w m) l) d b' k := by
            unfold betC; rw [z9g hd, z9g hb, z9g hk]
          have h1 : decide (0 ≤ sig (z1z w m) l b') = true := by simpa using (zf8 hb).1.1
          have h2 : decide (0 ≤ b') = true := by simpa using hb.1
          rw [hbe, h1, h2]
          split
          · exact .inr ⟨hb, rfl⟩
          · exact .inr ⟨hk, rfl⟩
  rcases key (rcpI p (z3z (z1z w m) l)) (-1) (-1) hrn (.inl ⟨rfl, rfl⟩) with ⟨h1, h2⟩ | ⟨h1, h2⟩
  · rw [h1, h2]; rfl
  · rw [if_pos h1.1, h2]
theorem zkc {p : Pool} {l : List zf} {w m : Int} {st st' : List (Int × Bool) × List (Nat → Int)} (hs : LSt w m l st st') {d : Int} (hd : 0 ≤ d ∧ d < ((z3z (z1z w m) l).length : Int)) (hdm : sig (z1z w m) l d ∈ dlvI p l) (hso : soon m l (sig (z1z w m) l d) = true) :
    LSt w m l (z9y p l (rcpI p l) st (sig (z1z w m) l d)) (z9y p (z3z (z1z w m) l) (rcpI p (z3z (z1z w m) l)) st' d) := by
  have hb := zk9 hs hd hdm hso
  have hp : zby p (gt l (sig (z1z w m) l d)) = zby p (gt (z3z (z1z w m) l) d) := by rw [z9g hd]
  unfold z9y
  rw [hb, hp]
  split
  · exact hs
  · by_cases q : 0 ≤ z6g (z3z (z1z w m) l) st'.1 d (rcpI p (z3z (z1z w m) l))
    · have hin : z6g (z3z (z1z w m) l) st'.1 d (rcpI p (z3z (z1z w m) l)) ∈ rcpI p (z3z (z1z w m) l) := by
        rcases zac (z3z (z1z w m) l) st'.1 d (rcpI p (z3z (z1z w m) l)) (-1) q with e | ⟨e1, _⟩
        · have : z6g (z3z (z1z w m) l) st'.1 d (rcpI p (z3z (z1z w m) l)) = -1 := e
          omega
        · exact e1
      have hbr := (zcg hin).1
      simp only [if_pos q]
      rw [if_pos (zf8 hbr).1.1]
      generalize z6g (z3z (z1z w m) l) st'.1 d (rcpI p (z3z (z1z w m) l)) = b at *
      refine ⟨fun k hk => ?_, ?_⟩
      · simp only [zff]
        by_cases e : k = b
        · subst e; simp
        · have e2 : sig (z1z w m) l k ≠ sig (z1z w m) l b := fun x => e (zqj hk hbr x)
          rw [if_neg (by simpa using e), if_neg (by simpa using e2)]
          exact hs.used k hk
      · have hm : mkH l (ofL [sig (z1z w m) l d, sig (z1z w m) l b]) = mkH (z3z (z1z w m) l) (ofL [d, b]) := by
          unfold mkH
          show z3.mk _ _ _ _ _ _ _ _ = z3.mk _ _ _ _ _ _ _ _
          have e0 : ∀ x y : Int, (ofL [x, y]) 0 = x := fun _ _ => rfl
          have e1 : ∀ x y : Int, (ofL [x, y]) 1 = y := fun _ _ => rfl
          simp only [e0, e1, z9g hd, z9g hbr]
        simp only [List.map_append, List.filter_append, List.map_cons, List.map_nil, hm]
        rw [hs.out]
    · simp only [if_neg q]
      rw [if_neg (by decide)]
      exact hs
theorem zdd {p : Pool} {l : List zf} {w m : Int} : ∀ (A A' : List Int) (st st' : List (Int × Bool) × List (Nat → Int)), LSt w m l st st' → (∀ d ∈ A, d ∈ dlvI p l ∧ soon m l d = true) → (∀ d ∈ A', 0 ≤ d ∧ d < ((z3z (z1z w m) l).length : Int)) →
    A'.map (sig (z1z w m) l) = A.filter (fun i => z1z w m (gt l i)) → LSt w m l (A.foldl (z9y p l (rcpI p l)) st) (A'.foldl (z9y p (z3z (z1z w m) l) (rcpI p (z3z (z1z w m) l))) st')
  | [], A', st, st', hs, _, _, he => by
    have : A' = [] := List.map_eq_nil_iff.1 he
    subst this; exact hs
  | d :: A, A', st, st', hs, hA, hA', he => by
    obtain ⟨h1, h2⟩ := hA d (by simp)
    cases e : z1z w m (gt l d) with
    | false =>
      rw [List.filter_cons_of_neg (by simp [e])] at he
      have hw : (gt l d).fItem.fWagon ≠ w := fun hw => by
        have : z1z w m (gt l d) = true := by
          unfold z1z
          simp only [soon, decide_eq_true_eq] at h2
          rw [hw]; simp; omega
        rw [e] at this; cases this
      exact zdd A A' _ st' (zkh hs hw) (fun x hx => hA x (by simp [hx])) hA' he
    | true =>
      rw [List.filter_cons_of_pos (p := fun i => z1z w m (gt l i)) e] at he
      match A', he with
      | d' :: A', he =>
        simp only [List.map_cons, List.cons.injEq] at he
        obtain ⟨rfl, he2⟩ := he
        exact zdd A A' _ _ (zkc hs (hA' d' (by simp)) h1 h2) (fun x hx => hA x (by simp [hx])) (fun x hx => hA' x (by simp [hx])) he2
/-- The early handovers are the same. -/
theorem zkj (p : Pool) (l : List zf) (w m : Int) : (mts p l).filter (z9m w m) = (mts p (z3z (z1z w m) l)).filter (z9m w m) := by
  unfold mts
  split
  · rw [zan zd4, zan zd4]
    congr 1
    unfold prs zaz
    rw [zi4 p l m, zi4 p (z3z (z1z w m) l) m, List.foldl_append, List.foldl_append, zf1 (l := l) _ _ (fun d hd => by simpa using List.mem_filter.1 hd), zf1 (l := z3z (z1z w m) l) _ _ (fun d hd => by simpa using List.mem_filter.1 hd)]
    refine (zdd (p := p) (w := w) (m := m) _ _ ([], []) ([], []) ⟨fun k _ => rfl, rfl⟩ (fun d hd => List.mem_filter.1 hd) (fun d hd => (zcl (List.mem_filter.1 hd).1).1) ?_).out
    have h := znv p (z1z w m) l
    have e1 : ((dlvI p (z3z (z1z w m) l)).filter (soon m (z3z (z1z w m) l))).map (sig (z1z w m) l) = ((dlvI p (z3z (z1z w m) l)).map (sig (z1z w m) l)).filter (soon m l) := by
      rw [List.filter_map]
      congr 1
      refine List.filter_congr fun j hj => ?_
      show soon m (z3z (z1z w m) l) j = soon m l (sig (z1z w m) l j)
      unfold soon
      rw [z9g (zcl hj).1]
    rw [e1, h, List.filter_filter, List.filter_filter]
    congr 1
    funext i
    exact Bool.and_comm _ _
  · rfl
theorem zdg (w m : Int) : ∀ (ms : List z3) (a : List zj), (∀ h ∈ ms, h.fWagon = w → m < h.fAt) → ∃ b, ms.foldl (z2h w) a = a ++ b ∧ ∀ x ∈ b, m < x.fSpan.fFrom
  | [], a, _ => ⟨[], by simp, by simp⟩
  | h :: ms, a, hl => by
    rw [List.foldl_cons]
    by_cases hh : (((h.fWagon == w) && (h.fFrom == (zhw a).fRailway)) && decide ((zhw a).fSpan.fFrom < h.fAt)) = true
    · have hc : z2h w a h = a ++ [zj.mk h.fTo (Span.mk h.fAt 0) h.fReceive] := by unfold z2h; rw [if_pos hh]
      simp only [Bool.and_eq_true, beq_iff_eq, decide_eq_true_eq] at hh
      obtain ⟨b, h1, h2⟩ := zdg w m ms (a ++ [zj.mk h.fTo (Span.mk h.fAt 0) h.fReceive]) fun x hx => hl x (by simp [hx])
      refine ⟨_ :: b, by rw [hc, h1, List.append_assoc]; rfl, fun x hx => ?_⟩
      rcases List.mem_cons.1 hx with rfl | hx
      · exact hl h (by simp) hh.1.1
      · exact h2 x hx
    · have hc : z2h w a h = a := by unfold z2h; rw [if_neg hh]
      rw [hc]
      exact zdg w m ms a fun x hx => hl x (by simp [hx])
/-- A chain, cut, is the chain of the early handovers. -/
theorem zcs (w m : Int) : ∀ (ms : List z3) (a : List zj), Srt zh6 ms → (∀ x ∈ a, x.fSpan.fFrom ≤ m) → cutC (ms.foldl (z2h w) a) m = (ms.filter (z9m w m)).foldl (z2h w) a
  | [], a, _, ha => by
    unfold cutC
    exact List.filter_eq_self.2 fun x hx => by simpa using ha x hx
  | h :: ms, a, hs, ha => by
    have hs' := List.pairwise_cons.1 hs
    cases e : z9m w m h with
    | true =>
      rw [List.filter_cons_of_pos e, List.foldl_cons, List.foldl_cons]
      refine zcs w m ms _ hs'.2 fun x hx => ?_
      simp only [z9m, Bool.and_eq_true, decide_eq_true_eq] at e
      unfold z2h at hx
      split at hx
      · rcases List.mem_append.1 hx with hx | hx
        · exact ha x hx
        · simp at hx; subst hx; exact e.2
      · exact ha x hx
    | false =>
      rw [List.filter_cons_of_neg (by simp [e])]
      by_cases hw : h.fWagon = w
      · have hm : m < h.fAt := by
          simp only [z9m, hw, beq_self_eq_true, Bool.true_and, decide_eq_false_iff_not] at e; omega
        have hlate : ∀ x ∈ h :: ms, m < x.fAt := fun x hx => by
          rcases List.mem_cons.1 hx with rfl | hx
          · exact hm
          · have := hs'.1 x hx
            simp only [zh6, decide_eq_false_iff_not, zix] at this
            omega
        obtain ⟨b, h1, h2⟩ := zdg w m (h :: ms) a fun x hx _ => hlate x hx
        have h0 : ms.filter (z9m w m) = [] := List.filter_eq_nil_iff.2 fun x hx => by
          have := hlate x (by simp [hx])
          simp [z9m]; omega
        rw [h1, h0]
        unfold cutC
        rw [List.filter_append, List.filter_eq_self.2 (fun x hx => by simpa using ha x hx), List.filter_eq_nil_iff.2 (fun x hx => by have := h2 x hx; simp; omega)]
        simp
      · rw [List.foldl_cons]
        have : z2h w a h = a := by
          unfold z2h; rw [if_neg (by simp [hw])]
        rw [this]
        exact zcs w m ms a hs'.2 ha
theorem zly (p : Pool) (l : List zf) : Srt zh6 (mts p l) := by
  unfold mts
  split
  · exact (z8f zd4 _).1
  · exact List.Pairwise.nil
theorem zlo (p : Pool) (l : List zf) (w m : Int) (hm : 0 ≤ m) : cutC (chnC p l w) m = cutC (chnC p (z3z (z1z w m) l) w) m := by
  have h0 : ∀ x ∈ [zhy p w], x.fSpan.fFrom ≤ m := fun x hx => by simp at hx; subst hx; exact hm
  unfold chnC zbz
  rw [zcs w m _ _ (zly p l) h0, zcs w m _ _ (zly p _) h0, zkj p l w m]
theorem zck (p : Pool) (l : List zf) (w m : Int) {A B C : Prop} (_ : A) (_ : B) (_ : C) (hm : RI .i64 m) : ∃ φ, z6s φ p l w m = some true := by
  refine ⟨1000000, ?_⟩
  have h8 : 800000 < 1000000 := by omega
  unfold z6s
  obtain ⟨x, hx, hx2⟩ := zt7 1000000 (by omega) p l
  simp only [Pool.eta', zis, hx, Option.bind_some]
  rw [if_neg (by simp)]
  cases x with
  | false => rfl
  | true =>
  obtain ⟨hl, _⟩ := hx2 rfl
  rw [if_neg (by simp)]
  refine z74 (z13 1000000 l w m (z1i 1000000 p l w m)) l.length
    (fun i s => s = ((List.range i).filter fun (j : Nat) => ((gt l (j : Int)).fItem.fWagon == w) && (decide (1073741824 < m) || decide ((gt l (j : Int)).fItem.fFrom ≤ W (m + 120)))).map fun (j : Nat) => gt l (j : Int)) (fun o => o = some true) ?_ ?_ _ [] (by simp) (by omega)
  · intro n i s hi hs hk
    have w1 : W ((i : Int) + 1) = (i : Int) + 1 := W_id (by omega) (by omega)
    have hsl : s.length ≤ i := by rw [hs, List.length_map]; exact Nat.le_trans (List.length_filter_le _ _) (by simp)
    rw [z13, if_pos (by simp; omega), z06 ⟨by omega, by omega⟩]
    unfold z3r
    rw [w1]
    split
    · rename_i h
      rw [z06 (za1 (by simp; omega) (by omega))]
      refine hk _ ?_
      rw [List.range_succ, List.filter_append, List.map_append, ← hs, List.filter_cons_of_pos (p := (fun (j : Nat) => ((gt l (j : Int)).fItem.fWagon == w) && (decide (1073741824 < m) || decide ((gt l (j : Int)).fItem.fFrom ≤ W (m + 120))))) h]; rfl
    · rename_i h
      refine hk _ ?_
      rw [List.range_succ, List.filter_append, List.map_append, ← hs, List.filter_cons_of_neg (p := (fun (j : Nat) => ((gt l (j : Int)).fItem.fWagon == w) && (decide (1073741824 < m) || decide ((gt l (j : Int)).fItem.fFrom ≤ W (m + 120))))) h]; simp
  · intro n s hs
    rw [z13, if_neg (by simp)]
    unfold z1i
    have hsl : s.length ≤ 60 := by
      rw [hs, List.length_map]
      refine Nat.le_trans (List.length_filter_le _ _) ?_
      rw [List.length_range]; exact hl
    simp only [Pool.eta', zo1 _ h8 p l (by omega : l.length ≤ 90000), zo1 _ h8 p s (by omega : s.length ≤ 90000), Option.bind_some]
    by_cases hc : z5m p = 0
    case neg => simp only [if_pos hc]; simp
    simp only [if_neg (fun e : z5m p ≠ 0 => e hc)]
    by_cases hv : okWM p w m
    case neg => simp only [if_neg hv]; rfl
    simp only [if_pos hv]
    have hm2 := hv.2.2
    have wm : W (m + 120) = m + 120 := W_id (by omega) (by omega)
    have hsn : s = z3z (z1z w m) l := by
      rw [hs, wm]
      unfold z3z idxF
      rw [List.map_map]
      have : decide (1073741824 < m) = false := by simp; omega
      simp only [this, Bool.false_or]
      rfl
    rw [hsn, ← zlo p l w m hm2.1]
    simp
end Px
end
