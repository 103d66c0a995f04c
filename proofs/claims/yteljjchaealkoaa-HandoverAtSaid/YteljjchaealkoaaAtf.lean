/- A part of the proof of handoverAt_holds. Conditions: none. -/
import Derived.Test.YteljjchaealkoaaAte
section
namespace Px
open Go
set_option linter.unusedVariables false
set_option linter.unusedSimpArgs false
theorem Pool.eta' (p : Pool) : Pool.mk p.fNetwork p.fFleet p.fReaders p.fShippers p.fRailways = p := rfl
theorem Item.eta' (x : Item) : Item.mk x.fKind x.fRef x.fWagon x.fPlace x.fOther x.fNumber x.fFrom x.fTo x.fCode x.fDest x.fClass x.fWeight x.fAmount x.fText x.fParts = x := rfl
theorem Report.eta' (x : Report) : Report.mk x.fRef x.fBy x.fTime x.fItem = x := rfl
theorem fits_small {n b : Nat} (h : n ≤ 1000000) (hb : b ≤ 1000000) : fits n b := by
  have : n * b ≤ 1000000 * 1000000 := Nat.mul_le_mul h hb
  unfold fits
  first | omega | (constructor <;> omega)
def idxF {α : Type} [Inhabited α] (p : α → Bool) (l : List α) : List Int := ((List.range l.length).filter fun (i : Nat) => p (gt l (i : Int))).map fun (i : Nat) => (i : Int)
theorem idxF_mem {α : Type} [Inhabited α] {p : α → Bool} {l : List α} {i : Int} : i ∈ idxF p l ↔ 0 ≤ i ∧ i < (l.length : Int) ∧ p (gt l i) = true := by
  simp only [idxF, List.mem_map, List.mem_filter, List.mem_range]
  constructor
  · rintro ⟨a, ⟨h1, h2⟩, rfl⟩
    exact ⟨by omega, by omega, h2⟩
  · rintro ⟨h1, h2, h3⟩
    refine ⟨i.toNat, ⟨by omega, ?_⟩, by omega⟩
    rw [Int.toNat_of_nonneg h1]; exact h3
theorem idxF_len {α : Type} [Inhabited α] (p : α → Bool) (l : List α) : (idxF p l).length ≤ l.length := by
  simp only [idxF, List.length_map]
  exact Nat.le_trans (List.length_filter_le _ _) (by simp)
theorem of_eq (φ : Nat) (p : Pool) (l : List Report) (kind : Int) (ok : Item → Bool) (hl : l.length ≤ 100000) (hφ : l.length < φ)
    (hok : ∀ r ∈ l, r.fItem.fKind = kind → ∃ e, edi_Check φ p r.fItem = some e ∧ (e == 0) = ok r.fItem) :
    handover_of φ p l kind = some (idxF (fun r => r.fItem.fKind == kind && ok r.fItem) l) := by
  unfold handover_of
  refine loop_up0 (handover_of_L11 φ p l kind (handover_of_j7 φ)) l.length (fun i s => s = ((List.range i).filter fun (j : Nat) => (gt l (j : Int)).fItem.fKind == kind && ok (gt l (j : Int)).fItem).map fun (j : Nat) => (j : Int))
    (fun o => o = some (idxF (fun r => r.fItem.fKind == kind && ok r.fItem) l)) ?_ ?_ φ [] rfl hφ
  · intro n i s hi hs hk
    have hsl : s.length ≤ i := by rw [hs, List.length_map]; exact Nat.le_trans (List.length_filter_le _ _) (by simp)
    have hnext : ((List.range (i + 1)).filter fun (j : Nat) => (gt l (j : Int)).fItem.fKind == kind && ok (gt l (j : Int)).fItem).map (fun (j : Nat) => (j : Int)) = if ((gt l (i : Int)).fItem.fKind == kind && ok (gt l (i : Int)).fItem) = true then s ++ [(i : Int)] else s := by
      rw [List.range_succ, List.filter_append, List.map_append, ← hs]
      cases h : ((gt l (i : Int)).fItem.fKind == kind && ok (gt l (i : Int)).fItem) <;> simp [h]
    rw [handover_of_L11, if_pos (by simp; omega), ck_pos ⟨by omega, by omega⟩]
    have w : W ((i : Int) + 1) = (i : Int) + 1 := W_id (by omega) (by omega)
    simp only [Pool.eta', Item.eta', handover_of_j24, w]
    by_cases q : (gt l (i : Int)).fItem.fKind = kind
    · obtain ⟨e, h1, h2⟩ := hok (gt l (i : Int)) (gt_mem (by omega) (by omega)) q
      rw [gcall_y (by simp [q]), h1]
      simp only [Option.bind_some]
      rw [show (e == 0) = ok (gt l (i : Int)).fItem from h2]
      split
      · rename_i h
        rw [ck_pos (fits_small (by simp; omega) (by omega))]
        exact hk _ (by rw [hnext, if_pos h])
      · rename_i h
        exact hk _ (by rw [hnext, if_neg h])
    · rw [gcall_n (by simp [q])]
      simp only [Option.bind_some]
      have hq : ((gt l (i : Int)).fItem.fKind == kind) = false := by simp [q]
      rw [hq, Bool.false_and, if_neg (by simp)]
      exact hk _ (by rw [hnext, hq]; simp)
  · intro n s hs
    rw [handover_of_L11, if_neg (by simp), hs]
    rfl
end Px
end
section
namespace Px
open Go
set_option linter.unusedVariables false
set_option linter.unusedSimpArgs false
def gapW (a b : Report) : Int := max2 (W (a.fItem.fFrom - b.fItem.fFrom)) (W (b.fItem.fFrom - a.fItem.fFrom))
theorem gap_eq (φ : Nat) (a b : Report) : handover_gap φ a b = some (gapW a b) := rfl
def unf5 (l : List Report) (used : List (Int × Bool)) (i k : Int) : Bool :=
  (((((mget used k).getD false) || ((gt l k).fRef.fRailway != (gt l i).fItem.fOther)) || ((gt l k).fItem.fOther != (gt l i).fRef.fRailway)) || ((gt l k).fItem.fWagon != (gt l i).fItem.fWagon)) || ((gt l k).fItem.fPlace != (gt l i).fItem.fPlace)
def unfit (l : List Report) (used : List (Int × Bool)) (i k : Int) : Bool := unf5 l used i k || decide (60 < gapW (gt l i) (gt l k))
def betC (l : List Report) (i b k : Int) : Int := orI [cmpI (gapW (gt l i) (gt l b)) (gapW (gt l i) (gt l k)), refC (gt l b).fRef (gt l k).fRef]
def bstep (l : List Report) (used : List (Int × Bool)) (i b k : Int) : Int :=
  if unfit l used i k = true then b else if (decide (0 ≤ b) && decide (betC l i b k ≤ 0)) = true then b else k
def bestOf (l : List Report) (used : List (Int × Bool)) (i : Int) (rs : List Int) : Int := rs.foldl (bstep l used i) (-1)
theorem bestOf_eq (φ : Nat) (hφ : 4 < φ) (l : List Report) (rs ds : List Int) (d : Int) (used : List (Int × Bool)) (k : Int → Option (List (Nat → Int))) (hl : rs.length ≤ 100000) (hr : ∀ z ∈ rs, 0 ≤ z ∧ z < (l.length : Int)) (hφ2 : rs.length < φ) :
    handover_pairs_L50 φ l rs ds d used k φ (-1) 0 = k (bestOf l used (gt ds d) rs) := by
  refine loop_up0 (fun n j s => handover_pairs_L50 φ l rs ds d used k n s j) rs.length (fun j s => s = (rs.take j).foldl (bstep l used (gt ds d)) (-1) ∧ (0 ≤ s → s < (l.length : Int)))
    (fun o => o = k (bestOf l used (gt ds d) rs)) ?_ ?_ φ (-1) ⟨by simp, by omega⟩ hφ2
  · intro n j s hj ⟨hs, hin⟩ hk
    have hz := hr _ (gt_mem (l := rs) (i := (j : Int)) (by omega) (by omega))
    have hnext : (rs.take (j + 1)).foldl (bstep l used (gt ds d)) (-1) = bstep l used (gt ds d) s (gt rs (j : Int)) := by
      rw [take_succ_gt rs j hj, List.foldl_append, ← hs]; rfl
    have w : W ((j : Int) + 1) = (j : Int) + 1 := W_id (by omega) (by omega)
    rw [handover_pairs_L50, if_pos (by simp; omega), ck_pos ⟨by omega, by omega⟩, ck_pos hz]
    simp only [Item.eta', Report.eta', gap_eq, handover_pairs_j53, w]
    have hu5 : (((((mget used (gt rs (j : Int))).getD false) || ((gt l (gt rs (j : Int))).fRef.fRailway != (gt l (gt ds d)).fItem.fOther)) || ((gt l (gt rs (j : Int))).fItem.fOther != (gt l (gt ds d)).fRef.fRailway)) || ((gt l (gt rs (j : Int))).fItem.fWagon != (gt l (gt ds d)).fItem.fWagon) || ((gt l (gt rs (j : Int))).fItem.fPlace != (gt l (gt ds d)).fItem.fPlace)) = unf5 l used (gt ds d) (gt rs (j : Int)) := rfl
    rw [hu5]
    have hun : unfit l used (gt ds d) (gt rs (j : Int)) = (unf5 l used (gt ds d) (gt rs (j : Int)) || decide (60 < gapW (gt l (gt ds d)) (gt l (gt rs (j : Int))))) := rfl
    have htail : ∀ (b : Bool), b = unfit l used (gt ds d) (gt rs (j : Int)) →
        (if b = true then handover_pairs_L50 φ l rs ds d used k n s ((j : Int) + 1) else
          ck ((decide (0 ≤ s) = true) → ((0 : Int) ≤ s ∧ s < (l.length : Int))) ((gcall (decide (0 ≤ s) = true) (some (gapW (gt l (gt ds d)) (gt l s)))).bind fun y103 => ((gcall (decide (0 ≤ s) = true) (some (gapW (gt l (gt ds d)) (gt l (gt rs (j : Int)))))).bind fun y107 => ((gcall (decide (0 ≤ s) = true) (cmp_Compare φ y103 y107)).bind fun y109 => ((gcall (decide (0 ≤ s) = true) (handover_byRef φ ((gt l s).fRef) ((gt l (gt rs (j : Int))).fRef))).bind fun y118 => ((gcall (decide (0 ≤ s) = true) (cmp_Or φ [y109, y118])).bind fun y125 =>
            (if (decide (0 ≤ s) && decide (y125 ≤ 0)) = true then handover_pairs_L50 φ l rs ds d used k n s ((j : Int) + 1) else handover_pairs_L50 φ l rs ds d used k n (gt rs (j : Int)) ((j : Int) + 1)))))))) = k (bestOf l used (gt ds d) rs) := by
      intro b hb
      cases b with
      | true =>
        rw [if_pos rfl]
        have e : bstep l used (gt ds d) s (gt rs (j : Int)) = s := by unfold bstep; rw [if_pos hb.symm]
        exact hk s ⟨by rw [hnext, e], hin⟩
      | false =>
        rw [if_neg (by simp)]
        by_cases q : 0 ≤ s
        · rw [ck_pos (fun _ => ⟨q, hin q⟩)]
          simp only [gcall_y (show decide (0 ≤ s) = true by simp [q]), Option.bind_some, cmp_Compare_eq, byRef_eq φ (by omega : 3 < φ)]
          rw [cmp_Or_eq φ _ (by simp) (by simp; omega)]
          simp only [Option.bind_some]
          have hb2 : orI [cmpI (gapW (gt l (gt ds d)) (gt l s)) (gapW (gt l (gt ds d)) (gt l (gt rs (j : Int)))), refC (gt l s).fRef (gt l (gt rs (j : Int))).fRef] = betC l (gt ds d) s (gt rs (j : Int)) := rfl
          rw [hb2]
          split
          · rename_i h
            have e : bstep l used (gt ds d) s (gt rs (j : Int)) = s := by unfold bstep; rw [← hb, if_neg (by simp), if_pos h]
            exact hk s ⟨by rw [hnext, e], hin⟩
          · rename_i h
            have e : bstep l used (gt ds d) s (gt rs (j : Int)) = gt rs (j : Int) := by unfold bstep; rw [← hb, if_neg (by simp), if_neg h]
            exact hk _ ⟨by rw [hnext, e], fun _ => hz.2⟩
        · rw [ck_pos (fun h => absurd (by simpa using h) q)]
          simp only [gcall_n (show ¬ decide (0 ≤ s) = true by simpa using q), Option.bind_some]
          have h : ¬ (decide (0 ≤ s) && decide (betC l (gt ds d) s (gt rs (j : Int)) ≤ 0)) = true := by simp [q]
          have e : bstep l used (gt ds d) s (gt rs (j : Int)) = gt rs (j : Int) := by unfold bstep; rw [← hb, if_neg (by simp), if_neg h]
          rw [if_neg (by simp [q])]
          exact hk _ ⟨by rw [hnext, e], fun _ => hz.2⟩
    cases h5 : unf5 l used (gt ds d) (gt rs (j : Int)) with
    | true =>
      rw [gcall_n (by simp)]
      simp only [Option.bind_some, Bool.true_or]
      exact htail true (by rw [hun, h5]; rfl)
    | false =>
      rw [gcall_y rfl]
      simp only [Option.bind_some, Bool.false_or]
      exact htail _ (by rw [hun, h5]; rfl)
  · intro n s ⟨hs, _⟩
    rw [List.take_length] at hs
    rw [handover_pairs_L50, if_neg (by simp), hs]
    rfl
end Px
end
section
namespace Px
open Go
set_option linter.unusedVariables false
set_option linter.unusedSimpArgs false
set_option maxHeartbeats 1000000
section
theorem swapL_eI64 (φ : Nat) (P Z Q : List Int) (c : Nat) : ∀ (n : Nat) (X1 X2 Y1 Y2 : List Int), X1.length = Y1.length → X2.length = Y2.length → c = X1.length + X2.length → P.length + c + Z.length + c + Q.length ≤ 1000000 → X2.length < n →
    slices_swapRangeCmpFunc_eI64_L9 φ (P.length : Int) ((P.length : Int) + c + Z.length) (c : Int) n (X1.length : Int) (P ++ Y1 ++ X2 ++ Z ++ X1 ++ Y2 ++ Q) = some (P ++ Y1 ++ Y2 ++ Z ++ X1 ++ X2 ++ Q) := by
  intro n
  induction n with
  | zero => intro X1 X2 Y1 Y2 _ _ _ _ h; omega
  | succ n ih =>
    intro X1 X2 Y1 Y2 h1 h2 hc hl hn
    cases X2 with
    | nil =>
      have : Y2 = [] := List.eq_nil_of_length_eq_zero (by simpa using h2.symm)
      subst this
      simp only [List.length_nil, Nat.add_zero] at hc
      rw [slices_swapRangeCmpFunc_eI64_L9, if_neg (by simp; omega)]
    | cons x X2 =>
      cases Y2 with
      | nil => simp at h2
      | cons w Y2 =>
        simp only [List.length_cons, Nat.add_right_cancel_iff] at h2 hc hn
        have w1 : W ((P.length : Int) + c + Z.length + X1.length) = (P.length : Int) + c + Z.length + X1.length := W_id (by omega) (by omega)
        have w2 : W ((P.length : Int) + X1.length) = (P.length : Int) + X1.length := W_id (by omega) (by omega)
        have w3 : W ((X1.length : Int) + 1) = (X1.length : Int) + 1 := W_id (by omega) (by omega)
        have e1 : P ++ Y1 ++ x :: X2 ++ Z ++ X1 ++ w :: Y2 ++ Q = (P ++ Y1) ++ x :: (X2 ++ Z ++ X1 ++ w :: Y2 ++ Q) := by simp
        have e2 : P ++ Y1 ++ x :: X2 ++ Z ++ X1 ++ w :: Y2 ++ Q = (P ++ Y1 ++ x :: X2 ++ Z ++ X1) ++ w :: (Y2 ++ Q) := by simp
        have g1 : gt (P ++ Y1 ++ x :: X2 ++ Z ++ X1 ++ w :: Y2 ++ Q) ((P.length : Int) + X1.length) = x := by rw [e1]; exact gt_at (by simp; omega)
        have g2 : gt (P ++ Y1 ++ x :: X2 ++ Z ++ X1 ++ w :: Y2 ++ Q) ((P.length : Int) + c + Z.length + X1.length) = w := by rw [e2]; exact gt_at (by simp; omega)
        have s1 : setAt (P ++ Y1 ++ x :: X2 ++ Z ++ X1 ++ w :: Y2 ++ Q) ((P.length : Int) + X1.length) w = (P ++ Y1) ++ w :: (X2 ++ Z ++ X1 ++ w :: Y2 ++ Q) := by rw [e1]; exact set_at (by simp; omega)
        have e3 : (P ++ Y1) ++ w :: (X2 ++ Z ++ X1 ++ w :: Y2 ++ Q) = (P ++ Y1 ++ w :: X2 ++ Z ++ X1) ++ w :: (Y2 ++ Q) := by simp
        have s2 : setAt ((P ++ Y1 ++ w :: X2 ++ Z ++ X1) ++ w :: (Y2 ++ Q)) ((P.length : Int) + c + Z.length + X1.length) x = (P ++ Y1 ++ w :: X2 ++ Z ++ X1) ++ x :: (Y2 ++ Q) := set_at (by simp; omega)
        have e4 : (P ++ Y1 ++ w :: X2 ++ Z ++ X1) ++ x :: (Y2 ++ Q) = P ++ (Y1 ++ [w]) ++ X2 ++ Z ++ (X1 ++ [x]) ++ Y2 ++ Q := by simp
        have hlen : ((P ++ Y1 ++ x :: X2 ++ Z ++ X1 ++ w :: Y2 ++ Q).length : Int) = P.length + c + Z.length + c + Q.length := by simp; omega
        have hlen2 : (((P ++ Y1 ++ w :: X2 ++ Z ++ X1) ++ w :: (Y2 ++ Q)).length : Int) = P.length + c + Z.length + c + Q.length := by simp; omega
        rw [slices_swapRangeCmpFunc_eI64_L9, if_pos (by simp; omega), w1, w2, w3, g1, g2, s1, e3, s2, e4, hlen, hlen2]
        rw [ck_pos ⟨by omega, by omega⟩, ck_pos ⟨by omega, by omega⟩, ck_pos ⟨by omega, by omega⟩]
        have := ih (X1 ++ [x]) X2 (Y1 ++ [w]) Y2 (by simp [h1]) h2 (by simp; omega) hl (by omega)
        have e5 : (((X1 ++ [x]).length : Nat) : Int) = (X1.length : Int) + 1 := by simp
        rw [e5] at this
        rw [this]
        simp
theorem swap_eI64 (φ : Nat) (P X Z Y Q : List Int) (y : Int → Int → Option Int) (h : X.length = Y.length) (hl : P.length + X.length + Z.length + X.length + Q.length ≤ 1000000) (hφ : X.length < φ) :
    slices_swapRangeCmpFunc_eI64 φ (P ++ X ++ Z ++ Y ++ Q) (P.length : Int) ((P.length : Int) + X.length + Z.length) (X.length : Int) y = some (P ++ Y ++ Z ++ X ++ Q) := by
  have := swapL_eI64 φ P Z Q X.length φ [] X [] Y rfl h (by simp) hl hφ
  simpa [slices_swapRangeCmpFunc_eI64] using this
theorem rotL_eI64 (φ : Nat) (y : Int → Int → Option Int) : ∀ (n : Nat) (P X Y Q : List Int), X ≠ [] → Y ≠ [] → P.length + X.length + Y.length + Q.length ≤ 1000000 → X.length + Y.length ≤ n → X.length + Y.length < φ →
    slices_rotateCmpFunc_eI64_L17 φ ((P.length : Int) + X.length) y (slices_rotateCmpFunc_eI64_j9 φ ((P.length : Int) + X.length) y) n (X.length : Int) (Y.length : Int) (P ++ X ++ Y ++ Q) = some (P ++ Y ++ X ++ Q) := by
  intro n
  induction n with
  | zero => intro P X Y Q hX hY _ h; have := List.length_pos_iff.2 hX; omega
  | succ n ih =>
    intro P X Y Q hX hY hl hn hφ
    have hX0 := List.length_pos_iff.2 hX
    have hY0 := List.length_pos_iff.2 hY
    have w1 : W ((P.length : Int) + X.length - X.length) = (P.length : Int) := by rw [W_id (by omega) (by omega)]; omega
    rw [slices_rotateCmpFunc_eI64_L17, w1]
    by_cases he : X.length = Y.length
    · rw [if_neg (by simp [he])]
      unfold slices_rotateCmpFunc_eI64_j9
      rw [w1]
      have := swap_eI64 φ P X [] Y Q y he (by simp; omega) (by omega)
      simp only [List.append_nil, List.length_nil, Int.ofNat_zero, Int.add_zero] at this
      rw [this]; rfl
    · rw [if_pos (by simp; omega)]
      by_cases hlt : Y.length < X.length
      · rw [if_pos (by simp; omega)]
        obtain ⟨X1, X2, rfl, h1⟩ : ∃ X1 X2, X = X1 ++ X2 ∧ X1.length = Y.length := ⟨X.take Y.length, X.drop Y.length, (List.take_append_drop _ _).symm, by simp; omega⟩
        simp only [List.length_append] at hl hn hφ hlt hX0 he
        have e1 : P ++ (X1 ++ X2) ++ Y ++ Q = P ++ X1 ++ X2 ++ Y ++ Q := by simp
        have e2 : (P.length : Int) + ((X1 ++ X2).length : Nat) = (P.length : Int) + X1.length + X2.length := by simp; omega
        rw [e1, e2, ← h1, swap_eI64 φ P X1 X2 Y Q y h1 (by omega) (by omega)]
        simp only [Option.bind_some]
        have w2 : W (((X1 ++ X2).length : Int) - X1.length) = (X2.length : Int) := by simp; rw [W_id (by omega) (by omega)]; omega
        rw [w2]
        have := ih (P ++ Y) X2 X1 Q (by intro e; subst e; simp at hlt; omega) (by intro e; subst e; simp at h1; omega) (by simp; omega) (by omega) (by omega)
        have e3 : (((P ++ Y).length : Nat) : Int) + X2.length = (P.length : Int) + X1.length + X2.length := by simp; omega
        rw [e3] at this
        rw [this]
        simp
      · rw [if_neg (by simp; omega)]
        obtain ⟨Y1, Y2, rfl, h1⟩ : ∃ Y1 Y2, Y = Y1 ++ Y2 ∧ Y2.length = X.length := ⟨Y.take (Y.length - X.length), Y.drop (Y.length - X.length), (List.take_append_drop _ _).symm, by simp; omega⟩
        simp only [List.length_append] at hl hn hφ hlt hY0 he
        have e1 : P ++ X ++ (Y1 ++ Y2) ++ Q = P ++ X ++ Y1 ++ Y2 ++ Q := by simp
        have w3 : W ((P.length : Int) + X.length + ((Y1 ++ Y2).length : Nat)) = (P.length : Int) + X.length + Y1.length + Y2.length := by simp; rw [W_id (by omega) (by omega)]; omega
        have w4 : W ((P.length : Int) + X.length + Y1.length + Y2.length - X.length) = (P.length : Int) + X.length + Y1.length := by rw [W_id (by omega) (by omega)]; omega
        have w5 : W (((Y1 ++ Y2).length : Int) - X.length) = (Y1.length : Int) := by simp; rw [W_id (by omega) (by omega)]; omega
        rw [e1, w3, w4, w5, swap_eI64 φ P X Y1 Y2 Q y h1.symm (by omega) (by omega)]
        simp only [Option.bind_some]
        have := ih P Y2 Y1 (X ++ Q) (by intro e; subst e; simp at h1; omega) (by intro e; subst e; simp at h1 hlt he; omega) (by simp; omega) (by omega) (by omega)
        rw [h1] at this
        have e2 : P ++ Y2 ++ Y1 ++ X ++ Q = P ++ Y2 ++ Y1 ++ (X ++ Q) := by simp
        rw [e2, this]
        simp
theorem rotate_eI64 (φ : Nat) (P X Y Q : List Int) (y : Int → Int → Option Int) (hX : X ≠ []) (hY : Y ≠ []) (hl : P.length + X.length + Y.length + Q.length ≤ 1000000) (hφ : X.length + Y.length < φ) :
    slices_rotateCmpFunc_eI64 φ (P ++ X ++ Y ++ Q) (P.length : Int) ((P.length : Int) + X.length) ((P.length : Int) + X.length + Y.length) y = some (P ++ Y ++ X ++ Q) := by
  have := rotL_eI64 φ y φ P X Y Q hX hY hl (by omega) hφ
  rw [← this]
  unfold slices_rotateCmpFunc_eI64
  have w1 : W ((P.length : Int) + X.length - P.length) = (X.length : Int) := by rw [W_id (by omega) (by omega)]; omega
  have w2 : W ((P.length : Int) + X.length + Y.length - ((P.length : Int) + X.length)) = (Y.length : Int) := by rw [W_id (by omega) (by omega)]; omega
  rw [w1, w2]
end
end Px
end
section
namespace Px
open Go
set_option linter.unusedVariables false
set_option linter.unusedSimpArgs false
set_option maxHeartbeats 2000000
section
variable {D : Int → Prop} {lt : Int → Int → Bool} {y : Int → Int → Option Int}
theorem shiftUp_eI64 (φ : Nat) (k : List Int → Option (List Int)) (x : Int) : ∀ (n : Nat) (P C E : List Int), P.length + C.length + E.length ≤ 999999 → C.length < n →
    slices_symMergeCmpFunc_eI64_L15 φ ((P.length : Int) + C.length + 1) k n (P.length : Int) (P ++ x :: (C ++ E)) = k (P ++ C ++ x :: E) := by
  intro n
  induction n with
  | zero => intro P C E _ h; omega
  | succ n ih =>
    intro P C E hl hn
    have w0 : W ((P.length : Int) + C.length + 1 - 1) = (P.length : Int) + C.length := by rw [W_id (by omega) (by omega)]; omega
    rw [slices_symMergeCmpFunc_eI64_L15, w0]
    cases C with
    | nil => rw [if_neg (by simp)]; simp
    | cons w C =>
      simp only [List.length_cons] at hl hn
      have w1 : W ((P.length : Int) + 1) = (P.length : Int) + 1 := W_id (by omega) (by omega)
      have e1 : P ++ x :: (w :: C ++ E) = (P ++ [x]) ++ w :: (C ++ E) := by simp
      have g1 : gt (P ++ x :: (w :: C ++ E)) (P.length : Int) = x := gt_at rfl
      have g2 : gt (P ++ x :: (w :: C ++ E)) ((P.length : Int) + 1) = w := by rw [e1]; exact gt_at (by simp)
      have s1 : setAt (P ++ x :: (w :: C ++ E)) (P.length : Int) w = P ++ w :: (w :: C ++ E) := set_at rfl
      have e2 : P ++ w :: (w :: C ++ E) = (P ++ [w]) ++ w :: (C ++ E) := by simp
      have s2 : setAt ((P ++ [w]) ++ w :: (C ++ E)) ((P.length : Int) + 1) x = (P ++ [w]) ++ x :: (C ++ E) := set_at (by simp)
      have hlen : ((P ++ x :: (w :: C ++ E)).length : Int) = P.length + C.length + E.length + 2 := by simp; omega
      have hlen2 : (((P ++ [w]) ++ w :: (C ++ E)).length : Int) = P.length + C.length + E.length + 2 := by simp; omega
      rw [if_pos (by simp; omega), w1, g1, g2, s1, e2, s2, hlen, hlen2, ck_pos ⟨by omega, by omega⟩, ck_pos ⟨by omega, by omega⟩, ck_pos ⟨by omega, by omega⟩]
      have := ih (P ++ [w]) C E (by simp; omega) (by omega)
      have e3 : (((P ++ [w]).length : Nat) : Int) = (P.length : Int) + 1 := by simp
      have e4 : (P.length : Int) + ((w :: C).length : Nat) + 1 = (P.length : Int) + 1 + C.length + 1 := by simp; omega
      rw [e3] at this
      rw [e4, this]
      simp
theorem shiftDown_eI64 (φ : Nat) (k : List Int → Option (List Int)) (x : Int) (P : List Int) : ∀ (n : Nat) (C E : List Int), P.length + C.length + E.length ≤ 999999 → C.length < n →
    slices_symMergeCmpFunc_eI64_L37 φ (P.length : Int) k n ((P.length : Int) + C.length) (P ++ C ++ x :: E) = k (P ++ x :: (C ++ E)) := by
  intro n
  induction n with
  | zero => intro C E _ h; omega
  | succ n ih =>
    intro C E hl hn
    rw [slices_symMergeCmpFunc_eI64_L37]
    rcases nil_or_snoc C with rfl | ⟨S, z, rfl⟩
    · rw [if_neg (by simp)]; simp
    · simp only [List.length_append, List.length_cons, List.length_nil] at hl hn
      have w1 : W ((P.length : Int) + ((S ++ [z]).length : Nat) - 1) = (P.length : Int) + S.length := by
        rw [W_id (by simp; omega) (by simp; omega)]; simp; omega
      have e1 : P ++ (S ++ [z]) ++ x :: E = (P ++ S ++ [z]) ++ x :: E := by simp
      have e2 : P ++ (S ++ [z]) ++ x :: E = (P ++ S) ++ z :: (x :: E) := by simp
      have g1 : gt (P ++ (S ++ [z]) ++ x :: E) ((P.length : Int) + ((S ++ [z]).length : Nat)) = x := by rw [e1]; exact gt_at (by simp <;> omega)
      have g2 : gt (P ++ (S ++ [z]) ++ x :: E) ((P.length : Int) + S.length) = z := by rw [e2]; exact gt_at (by simp)
      have s1 : setAt (P ++ (S ++ [z]) ++ x :: E) ((P.length : Int) + ((S ++ [z]).length : Nat)) z = (P ++ S) ++ z :: (z :: E) := by rw [e1, set_at (by simp <;> omega)]; simp
      have s2 : setAt ((P ++ S) ++ z :: (z :: E)) ((P.length : Int) + S.length) x = P ++ S ++ x :: (z :: E) := set_at (by simp)
      have hlen : ((P ++ (S ++ [z]) ++ x :: E).length : Int) = P.length + S.length + E.length + 2 := by simp; omega
      have hlen2 : (((P ++ S) ++ z :: (z :: E)).length : Int) = P.length + S.length + E.length + 2 := by simp; omega
      rw [if_pos (by simp; omega), w1, g1, g2, s1, s2, hlen, hlen2, ck_pos ⟨by omega, by omega⟩, ck_pos ⟨by omega, by simp; omega⟩, ck_pos ⟨by omega, by omega⟩]
      rw [ih S (z :: E) (by simp; omega) (by omega)]
      simp
/-- One element before a sorted list. -/
theorem mergeFirst_eI64 (hs : Swo lt) (hy : Cmp D y lt) (φ : Nat) (P L Q : List Int) (x : Int) (hx : D x) (hD : ∀ z ∈ L, D z) (hS : Srt lt L) (hl : P.length + L.length + Q.length ≤ 999998) (hφ : P.length + L.length + 2 < φ) :
    ∃ R, Srt lt R ∧ Stb lt (x :: L) R ∧ slices_symMergeCmpFunc_eI64_L24 φ (P ++ x :: (L ++ Q)) (P.length : Int) y (slices_symMergeCmpFunc_eI64_j10 φ (P ++ x :: (L ++ Q)) (P.length : Int)) φ ((P.length : Int) + 1) ((P.length : Int) + 1 + L.length) = some (P ++ R ++ Q) := by
  have gx : gt (P ++ x :: (L ++ Q)) (P.length : Int) = x := gt_at rfl
  have hlen : ((P ++ x :: (L ++ Q)).length : Int) = P.length + L.length + Q.length + 1 := by simp; omega
  have gL : ∀ i : Nat, P.length + 1 ≤ i → i < P.length + 1 + L.length → gt (P ++ x :: (L ++ Q)) (i : Int) = gt L ((i - (P.length + 1) : Nat) : Int) := by
    intro i h1 h2
    have e : P ++ x :: (L ++ Q) = (P ++ [x]) ++ (L ++ Q) := by simp
    rw [e, gt_app_right _ _ _ (by simp; omega), gt_app_left _ _ _ (by simp; omega) (by simp; omega)]
    congr 1; simp; omega
  obtain ⟨c, h1, h2, h3, h4, h5⟩ := bsearch (slices_symMergeCmpFunc_eI64_L24 φ (P ++ x :: (L ++ Q)) (P.length : Int) y (slices_symMergeCmpFunc_eI64_j10 φ (P ++ x :: (L ++ Q)) (P.length : Int)))
    (slices_symMergeCmpFunc_eI64_j10 φ (P ++ x :: (L ++ Q)) (P.length : Int)) (fun h => lt (gt (P ++ x :: (L ++ Q)) (h : Int)) x) (P.length + 1 + L.length) (P.length + 1)
    (by
      intro n s r h0 hlt hR
      have hm : (W ((U (W ((s : Int) + r))).fdiv 2)) = (((s + r) / 2 : Nat) : Int) := by rw [mid_W (by omega) (by omega)]; omega
      have hm1 : W ((((s + r) / 2 : Nat) : Int) + 1) = (((s + r) / 2 + 1 : Nat) : Int) := by rw [W_id (by omega) (by omega)]; simp
      obtain ⟨w, hw1, hw2⟩ := hy (gt (P ++ x :: (L ++ Q)) (((s + r) / 2 : Nat) : Int)) x (by
        rw [gL _ (by omega) (by omega)]; exact hD _ (gt_mem (by omega) (by omega))) hx
      rw [slices_symMergeCmpFunc_eI64_L24, if_pos (by simp; omega), hm, hm1, hlen, gx, ck_pos ⟨by omega, by omega⟩, ck_pos ⟨by omega, by omega⟩, hw1]
      simp only [Option.bind_some, hw2])
    (by
      intro n s
      rw [slices_symMergeCmpFunc_eI64_L24, if_neg (by simp)]) φ (P.length + 1) (P.length + 1 + L.length) (Nat.le_refl _) (by omega) (Nat.le_refl _) (by omega)
  obtain ⟨C, E, rfl, hC⟩ : ∃ C E, L = C ++ E ∧ C.length = c - (P.length + 1) := ⟨L.take (c - (P.length + 1)), L.drop (c - (P.length + 1)), (List.take_append_drop _ _).symm, by simp; omega⟩
  simp only [List.length_append] at hl hφ h2 gL
  have hCx : ∀ z ∈ C, lt z x = true := by
    intro z hz
    rcases nil_or_snoc C with rfl | ⟨S, w, rfl⟩
    · cases hz
    · simp only [List.length_append, List.length_cons, List.length_nil] at hC hz hS gL h2
      have hp : lt w x = true := by
        rcases h3 with h3 | h3
        · omega
        · rw [gL _ (by omega) (by omega)] at h3
          have e : S ++ [w] ++ E = S ++ w :: E := by simp
          rw [e, gt_at (by omega)] at h3
          exact h3
      rcases List.mem_append.1 hz with h | h
      · exact lt_of_ends hs (hS.parts.1.parts.2.2 z h w (by simp)) hp (hs.irr x)
      · simp at h; rw [h]; exact hp
  have hEx : ∀ z ∈ E, lt z x = false := by
    intro z hz
    cases E with
    | nil => cases hz
    | cons w E =>
      simp only [List.length_cons] at h2 gL h4
      have hp : lt w x = false := by
        rcases h4 with h4 | h4
        · simp at h4; omega
        · rw [gL _ (by omega) (by omega), gt_at (by omega)] at h4
          exact h4
      rcases List.mem_cons.1 hz with h | h
      · rw [h]; exact hp
      · exact hs.ntr _ _ _ ((List.pairwise_cons.1 hS.parts.2.1).1 z h) hp
  have hm := merge_parts hs (A := []) (B := [x]) (C := C) (E := E) (R1 := C) (R2 := x :: E) (List.pairwise_singleton _ _) hS (by simpa using hCx) (by simp) hS.parts.1 (by simpa using Stb.refl C) (List.pairwise_cons.2 ⟨hEx, hS.parts.2.1⟩) (by simpa using Stb.refl (x :: E))
  refine ⟨C ++ x :: E, hm.1, by simpa using hm.2, ?_⟩
  have e5 : ((P.length : Int) + 1 + ((C ++ E).length : Nat)) = ((P.length + 1 + (C ++ E).length : Nat) : Int) := by simp
  have e6 : ((P.length : Int) + 1) = ((P.length + 1 : Nat) : Int) := by simp
  rw [e5, e6, h5]
  unfold slices_symMergeCmpFunc_eI64_j10
  have e7 : (c : Int) = (P.length : Int) + C.length + 1 := by omega
  have e8 : P ++ x :: (C ++ E ++ Q) = P ++ x :: (C ++ (E ++ Q)) := by simp
  rw [e7, e8, shiftUp_eI64 φ _ x φ P C (E ++ Q) (by simp; omega) (by omega)]
  simp [slices_symMergeCmpFunc_eI64_j12]
/-- A sorted list before one element. -/
theorem mergeLast_eI64 (hs : Swo lt) (hy : Cmp D y lt) (φ : Nat) (P L Q : List Int) (x : Int) (hx : D x) (hD : ∀ z ∈ L, D z) (hS : Srt lt L) (hl : P.length + L.length + Q.length ≤ 999998) (hφ : P.length + L.length + 2 < φ) :
    ∃ R, Srt lt R ∧ Stb lt (L ++ [x]) R ∧ slices_symMergeCmpFunc_eI64_L46 φ (P ++ L ++ x :: Q) ((P.length : Int) + L.length) y (slices_symMergeCmpFunc_eI64_j32 φ (P ++ L ++ x :: Q) ((P.length : Int) + L.length)) φ (P.length : Int) ((P.length : Int) + L.length) = some (P ++ R ++ Q) := by
  have gx : gt (P ++ L ++ x :: Q) ((P.length : Int) + L.length) = x := gt_at (by simp)
  have hlen : ((P ++ L ++ x :: Q).length : Int) = P.length + L.length + Q.length + 1 := by simp; omega
  have gL : ∀ i : Nat, P.length ≤ i → i < P.length + L.length → gt (P ++ L ++ x :: Q) (i : Int) = gt L ((i - P.length : Nat) : Int) := by
    intro i h1 h2
    rw [List.append_assoc, gt_app_right _ _ _ (by omega), gt_app_left _ _ _ (by omega) (by omega)]
    congr 1; omega
  obtain ⟨c, h1, h2, h3, h4, h5⟩ := bsearch (slices_symMergeCmpFunc_eI64_L46 φ (P ++ L ++ x :: Q) ((P.length : Int) + L.length) y (slices_symMergeCmpFunc_eI64_j32 φ (P ++ L ++ x :: Q) ((P.length : Int) + L.length)))
    (slices_symMergeCmpFunc_eI64_j32 φ (P ++ L ++ x :: Q) ((P.length : Int) + L.length)) (fun h => !lt x (gt (P ++ L ++ x :: Q) (h : Int))) (P.length + L.length) P.length
    (by
      intro n s r h0 hlt hR
      have hm : (W ((U (W ((s : Int) + r))).fdiv 2)) = (((s + r) / 2 : Nat) : Int) := by rw [mid_W (by omega) (by omega)]; omega
      have hm1 : W ((((s + r) / 2 : Nat) : Int) + 1) = (((s + r) / 2 + 1 : Nat) : Int) := by rw [W_id (by omega) (by omega)]; simp
      obtain ⟨w, hw1, hw2⟩ := hy x (gt (P ++ L ++ x :: Q) (((s + r) / 2 : Nat) : Int)) hx (by
        rw [gL _ (by omega) (by omega)]; exact hD _ (gt_mem (by omega) (by omega)))
      rw [slices_symMergeCmpFunc_eI64_L46, if_pos (by simp; omega), hm, hm1, hlen, gx, ck_pos ⟨by omega, by omega⟩, ck_pos ⟨by omega, by omega⟩, hw1]
      simp only [Option.bind_some, hw2])
    (by
      intro n s
      rw [slices_symMergeCmpFunc_eI64_L46, if_neg (by simp)]) φ P.length (P.length + L.length) (Nat.le_refl _) (by omega) (Nat.le_refl _) (by omega)
  obtain ⟨A, B, rfl, hC⟩ : ∃ A B, L = A ++ B ∧ A.length = c - P.length := ⟨L.take (c - P.length), L.drop (c - P.length), (List.take_append_drop _ _).symm, by simp; omega⟩
  simp only [List.length_append] at hl hφ h2 gL
  have hA : ∀ z ∈ A, lt x z = false := by
    intro z hz
    rcases nil_or_snoc A with rfl | ⟨S, w, rfl⟩
    · cases hz
    · simp only [List.length_append, List.length_cons, List.length_nil] at hC hz hS gL h2
      have hp : lt x w = false := by
        rcases h3 with h3 | h3
        · omega
        · rw [gL _ (by omega) (by omega)] at h3
          have e : S ++ [w] ++ B = S ++ w :: B := by simp
          rw [e, gt_at (by omega)] at h3
          simpa using h3
      rcases List.mem_append.1 hz with h | h
      · exact hs.ntr _ _ _ hp (hS.parts.1.parts.2.2 z h w (by simp))
      · simp at h; rw [h]; exact hp
  have hB : ∀ z ∈ B, lt x z = true := by
    intro z hz
    cases B with
    | nil => cases hz
    | cons w B =>
      simp only [List.length_cons] at h2 gL h4
      have hp : lt x w = true := by
        rcases h4 with h4 | h4
        · simp at h4; omega
        · rw [gL _ (by omega) (by omega), gt_at (by omega)] at h4
          simpa using h4
      rcases List.mem_cons.1 hz with h | h
      · rw [h]; exact hp
      · exact lt_of_ends hs (hs.irr x) hp ((List.pairwise_cons.1 hS.parts.2.1).1 z h)
  have hm := merge_parts hs (A := A) (B := B) (C := [x]) (E := []) (R1 := A ++ [x]) (R2 := B) hS (by rw [List.append_nil]; exact List.pairwise_singleton _ x) (by simpa using hB) (by simp)
    (hS.parts.1.app (List.pairwise_singleton _ _) (by simpa using hA)) (Stb.refl _) hS.parts.2.1 (by simpa using Stb.refl B)
  refine ⟨A ++ [x] ++ B, hm.1, by simpa using hm.2, ?_⟩
  have e5 : ((P.length : Int) + ((A ++ B).length : Nat)) = ((P.length + (A ++ B).length : Nat) : Int) := by simp
  rw [e5] at h5 ⊢
  rw [h5]
  unfold slices_symMergeCmpFunc_eI64_j32
  have e7 : (c : Int) = (((P ++ A).length : Nat) : Int) := by simp; omega
  have e8 : P ++ (A ++ B) ++ x :: Q = (P ++ A) ++ B ++ x :: Q := by simp
  have e9 : ((P.length + (A ++ B).length : Nat) : Int) = (((P ++ A).length : Nat) : Int) + B.length := by simp; omega
  rw [e7, e8, e9, shiftDown_eI64 φ _ x (P ++ A) φ B Q (by simp; omega) (by omega)]
  simp [slices_symMergeCmpFunc_eI64_j34]
end
end Px
end
section
namespace Px
open Go
set_option linter.unusedVariables false
set_option linter.unusedSimpArgs false
set_option maxHeartbeats 4000000
section
variable {D : Int → Prop} {lt : Int → Int → Bool} {y : Int → Int → Option Int}
/-- Where the two lists are split. -/
theorem splitL_eI64 (hs : Swo lt) (hy : Cmp D y lt) (φ : Nat) (P L1 L2 Q : List Int) (k : Int → Option (List Int)) (hD1 : ∀ z ∈ L1, D z) (hD2 : ∀ z ∈ L2, D z) (hS1 : Srt lt L1) (hS2 : Srt lt L2)
    (a m b mid s0 r0 : Nat) (ha : a = P.length) (hm : m = a + L1.length) (hb : b = m + L2.length) (hmid : mid = (a + b) / 2) (hl : b + Q.length ≤ 999998) (hφ : b < φ)
    (h1 : 1 ≤ L1.length) (h2 : 1 ≤ L2.length) (hs0 : (mid < m ∧ s0 = mid + m - b ∧ r0 = mid) ∨ (m ≤ mid ∧ s0 = a ∧ r0 = m)) :
    ∃ A B C E, L1 = A ++ B ∧ L2 = C ++ E ∧ mid + m - (a + A.length) = m + C.length ∧ (∀ x ∈ B, ∀ y ∈ C, lt y x = true) ∧ (∀ x ∈ A, ∀ y ∈ E, lt y x = false) ∧
      slices_symMergeCmpFunc_eI64_L90 φ (P ++ L1 ++ L2 ++ Q) (a : Int) (m : Int) (b : Int) y k φ (s0 : Int) (r0 : Int) = k ((a + A.length : Nat) : Int) := by
  have g1 : ∀ i : Nat, a ≤ i → i < m → gt (P ++ L1 ++ L2 ++ Q) (i : Int) = gt L1 ((i - a : Nat) : Int) := by
    intro i q1 q2
    have e : P ++ L1 ++ L2 ++ Q = P ++ (L1 ++ (L2 ++ Q)) := by simp
    rw [e, gt_app_right _ _ _ (by omega), gt_app_left _ _ _ (by omega) (by omega)]
    congr 1; omega
  have g2 : ∀ i : Nat, m ≤ i → i < b → gt (P ++ L1 ++ L2 ++ Q) (i : Int) = gt L2 ((i - m : Nat) : Int) := by
    intro i q1 q2
    have e : P ++ L1 ++ L2 ++ Q = (P ++ L1) ++ (L2 ++ Q) := by simp
    rw [e, gt_app_right _ _ _ (by simp; omega), gt_app_left _ _ _ (by simp; omega) (by simp; omega)]
    congr 1; simp; omega
  have hlen : ((P ++ L1 ++ L2 ++ Q).length : Int) = b + Q.length := by simp; omega
  have hW : W ((U (W ((a : Int) + b))).fdiv 2) = (mid : Int) := by rw [mid_W (by omega) (by omega)]; omega
  have hn : W ((mid : Int) + m) = ((mid + m : Nat) : Int) := by rw [W_id (by omega) (by omega)]; simp
  have hp : W (((mid + m : Nat) : Int) - 1) = ((mid + m - 1 : Nat) : Int) := by rw [W_id (by omega) (by omega)]; omega
  have hmb : mid ≤ b := by omega
  have ham : a ≤ mid := by omega
  obtain ⟨c, h3, h4, h5, h6, h7⟩ := bsearch (slices_symMergeCmpFunc_eI64_L90 φ (P ++ L1 ++ L2 ++ Q) (a : Int) (m : Int) (b : Int) y k) k
    (fun c => !lt (gt (P ++ L1 ++ L2 ++ Q) ((mid + m - 1 - c : Nat) : Int)) (gt (P ++ L1 ++ L2 ++ Q) (c : Int))) r0 s0
    (by
      intro n s r q0 hlt hR
      have hm' : (W ((U (W ((s : Int) + r))).fdiv 2)) = (((s + r) / 2 : Nat) : Int) := by rw [mid_W (by omega) (by omega)]; omega
      have hm1 : W ((((s + r) / 2 : Nat) : Int) + 1) = (((s + r) / 2 + 1 : Nat) : Int) := by rw [W_id (by omega) (by omega)]; simp
      have hpc : W (((mid + m - 1 : Nat) : Int) - (((s + r) / 2 : Nat) : Int)) = ((mid + m - 1 - (s + r) / 2 : Nat) : Int) := by rw [W_id (by omega) (by omega)]; omega
      obtain ⟨w, hw1, hw2⟩ := hy (gt (P ++ L1 ++ L2 ++ Q) ((mid + m - 1 - (s + r) / 2 : Nat) : Int)) (gt (P ++ L1 ++ L2 ++ Q) (((s + r) / 2 : Nat) : Int))
        (by rw [g2 _ (by omega) (by omega)]; exact hD2 _ (gt_mem (by omega) (by omega))) (by rw [g1 _ (by omega) (by omega)]; exact hD1 _ (gt_mem (by omega) (by omega)))
      rw [slices_symMergeCmpFunc_eI64_L90, if_pos (by simp; omega), hm', hm1, hW, hn, hp, hpc, hlen, ck_pos ⟨by omega, by omega⟩, ck_pos ⟨by omega, by omega⟩, hw1]
      simp only [Option.bind_some, hw2])
    (by
      intro n s
      rw [slices_symMergeCmpFunc_eI64_L90, if_neg (by simp)]) φ s0 r0 (Nat.le_refl _) (by omega) (Nat.le_refl _) (by omega)
  obtain ⟨A, B, rfl, hA⟩ : ∃ A B, L1 = A ++ B ∧ A.length = c - a := ⟨L1.take (c - a), L1.drop (c - a), (List.take_append_drop _ _).symm, by simp; omega⟩
  obtain ⟨C, E, rfl, hC⟩ : ∃ C E, L2 = C ++ E ∧ C.length = mid - c := ⟨L2.take (mid - c), L2.drop (mid - c), (List.take_append_drop _ _).symm, by simp; omega⟩
  simp only [List.length_append] at hm hb g1 g2
  refine ⟨A, B, C, E, rfl, rfl, by omega, ?_, ?_, ?_⟩
  · intro x hx z hz
    rcases nil_or_snoc C with rfl | ⟨S, w, rfl⟩
    · cases hz
    · cases B with
      | nil => cases hx
      | cons x0 B =>
        simp only [List.length_append, List.length_cons, List.length_nil] at hC hm hb g1 g2 hA
        have hp : lt w x0 = true := by
          rcases h6 with h6 | h6
          · omega
          · rw [g1 c (by omega) (by omega), g2 (mid + m - 1 - c) (by omega) (by omega)] at h6
            have e : S ++ [w] ++ E = S ++ w :: E := by simp
            rw [e, gt_at (by omega), gt_at (by omega)] at h6
            simpa using h6
        have hz1 : lt w z = false := by
          rcases List.mem_append.1 hz with h | h
          · exact hS2.parts.1.parts.2.2 z h w (by simp)
          · simp at h; rw [h]; exact hs.irr _
        have hx1 : lt x x0 = false := by
          rcases List.mem_cons.1 hx with h | h
          · rw [h]; exact hs.irr _
          · exact (List.pairwise_cons.1 hS1.parts.2.1).1 x h
        exact lt_of_ends hs hz1 hp hx1
  · intro x hx z hz
    rcases nil_or_snoc A with rfl | ⟨S, w, rfl⟩
    · cases hx
    · cases E with
      | nil => cases hz
      | cons e0 E =>
        simp only [List.length_append, List.length_cons, List.length_nil] at hC hm hb g1 g2 hA
        have hp : lt e0 w = false := by
          rcases h5 with h5 | h5
          · omega
          · have e1 : mid + m - 1 - (c - 1) = mid + m - c := by omega
            rw [e1, g1 (c - 1) (by omega) (by omega), g2 (mid + m - c) (by omega) (by omega)] at h5
            have e : S ++ [w] ++ B = S ++ w :: B := by simp
            rw [e, gt_at (by omega), gt_at (by omega)] at h5
            simpa using h5
        have hz1 : lt z e0 = false := by
          rcases List.mem_cons.1 hz with h | h
          · rw [h]; exact hs.irr _
          · exact (List.pairwise_cons.1 hS2.parts.2.1).1 z h
        have hx1 : lt w x = false := by
          rcases List.mem_append.1 hx with h | h
          · exact hS1.parts.1.parts.2.2 x h w (by simp)
          · simp at h; rw [h]; exact hs.irr _
        exact nlt_of_ends hs hz1 hp hx1
  · rw [h7]
    congr 1
    omega
/-- Merging two sorted lists in place. -/
theorem symMerge_eI64 (hs : Swo lt) (hy : Cmp D y lt) : ∀ (φ : Nat) (P L1 L2 Q : List Int), (∀ z ∈ L1, D z) → (∀ z ∈ L2, D z) → Srt lt L1 → Srt lt L2 → L1 ≠ [] → L2 ≠ [] →
    P.length + L1.length + L2.length + Q.length ≤ 999998 → P.length + L1.length + L2.length + (L1.length + L2.length) + 3 < φ →
    ∃ R, Srt lt R ∧ Stb lt (L1 ++ L2) R ∧ slices_symMergeCmpFunc_eI64 φ (P ++ L1 ++ L2 ++ Q) (P.length : Int) ((P.length : Int) + L1.length) ((P.length : Int) + L1.length + L2.length) y = some (P ++ R ++ Q) := by
  intro φ
  induction φ with
  | zero => intro P L1 L2 Q _ _ _ _ _ _ _ h; omega
  | succ φ ih =>
    intro P L1 L2 Q hD1 hD2 hS1 hS2 hn1 hn2 hl hφ
    have hp1 := List.length_pos_iff.2 hn1
    have hp2 := List.length_pos_iff.2 hn2
    rw [slices_symMergeCmpFunc_eI64]
    have w1 : W ((P.length : Int) + L1.length - P.length) = (L1.length : Int) := by rw [W_id (by omega) (by omega)]; omega
    have w2 : W ((P.length : Int) + L1.length + L2.length - ((P.length : Int) + L1.length)) = (L2.length : Int) := by rw [W_id (by omega) (by omega)]; omega
    rw [w1, w2]
    by_cases q1 : L1.length = 1
    · rw [if_pos (by simp [q1])]
      match L1, q1 with
      | [x], _ =>
        obtain ⟨R, r1, r2, r3⟩ := mergeFirst_eI64 hs hy φ P L2 Q x (hD1 x (by simp)) hD2 hS2 (by simp at hl; omega) (by simp at hφ; omega)
        refine ⟨R, r1, r2, ?_⟩
        rw [← r3]
        simp
    · rw [if_neg (by simp; omega)]
      by_cases q2 : L2.length = 1
      · rw [if_pos (by simp [q2])]
        match L2, q2 with
        | [x], _ =>
          obtain ⟨R, r1, r2, r3⟩ := mergeLast_eI64 hs hy φ P L1 Q x (hD2 x (by simp)) hD1 hS1 (by simp at hl; omega) (by simp at hφ; omega)
          refine ⟨R, r1, r2, ?_⟩
          rw [← r3]
          simp
      · rw [if_neg (by simp; omega)]
        obtain ⟨a, ha⟩ : ∃ a, a = P.length := ⟨_, rfl⟩
        obtain ⟨m, hm⟩ : ∃ m, m = a + L1.length := ⟨_, rfl⟩
        obtain ⟨b, hb⟩ : ∃ b, b = m + L2.length := ⟨_, rfl⟩
        obtain ⟨mid, hmid⟩ : ∃ mid, mid = (a + b) / 2 := ⟨_, rfl⟩
        have ea : (P.length : Int) = (a : Int) := by omega
        have em : (P.length : Int) + L1.length = (m : Int) := by omega
        have eb : (P.length : Int) + L1.length + L2.length = (b : Int) := by omega
        rw [eb, em, ea]
        have hW : W ((U (W ((a : Int) + b))).fdiv 2) = (mid : Int) := by rw [mid_W (by omega) (by omega)]; omega
        have hn : W ((mid : Int) + m) = ((mid + m : Nat) : Int) := by rw [W_id (by omega) (by omega)]; simp
        rw [hW, hn]
        have key : ∃ s0 r0 : Nat, ((mid < m ∧ s0 = mid + m - b ∧ r0 = mid) ∨ (m ≤ mid ∧ s0 = a ∧ r0 = m)) ∧
            (if decide ((mid : Int) < m) = true then slices_symMergeCmpFunc_eI64_j54 φ (P ++ L1 ++ L2 ++ Q) (a : Int) (m : Int) (b : Int) y (slices_symMergeCmpFunc_eI64 φ) (W (((mid + m : Nat) : Int) - b)) (mid : Int)
              else slices_symMergeCmpFunc_eI64_j54 φ (P ++ L1 ++ L2 ++ Q) (a : Int) (m : Int) (b : Int) y (slices_symMergeCmpFunc_eI64 φ) (a : Int) (m : Int)) =
            slices_symMergeCmpFunc_eI64_j54 φ (P ++ L1 ++ L2 ++ Q) (a : Int) (m : Int) (b : Int) y (slices_symMergeCmpFunc_eI64 φ) (s0 : Int) (r0 : Int) := by
          by_cases q : mid < m
          · refine ⟨mid + m - b, mid, .inl ⟨q, rfl, rfl⟩, ?_⟩
            have : W (((mid + m : Nat) : Int) - b) = ((mid + m - b : Nat) : Int) := by rw [W_id (by omega) (by omega)]; omega
            rw [if_pos (by simp; omega), this]
          · refine ⟨a, m, .inr ⟨by omega, rfl, rfl⟩, ?_⟩
            rw [if_neg (by simp; omega)]
        obtain ⟨s0, r0, hk, e⟩ := key
        rw [e]
        unfold slices_symMergeCmpFunc_eI64_j54
        obtain ⟨A, B, C, E, rfl, rfl, hc, hA, hB, hL⟩ := splitL_eI64 hs hy φ P L1 L2 Q (slices_symMergeCmpFunc_eI64_j56 φ (P ++ L1 ++ L2 ++ Q) (a : Int) (m : Int) (b : Int) y (slices_symMergeCmpFunc_eI64 φ)) hD1 hD2 hS1 hS2 a m b mid s0 r0 ha hm hb hmid (by omega) (by omega) (by omega) (by omega) hk
        rw [hL]
        simp only [List.length_append] at hm hb hl hφ hp1 hp2 q1 q2
        have hcm : mid = a + A.length + C.length := by omega
        have hend : W (((mid + m : Nat) : Int) - ((a + A.length : Nat) : Int)) = ((m + C.length : Nat) : Int) := by rw [W_id (by omega) (by omega)]; omega
        have step1 : slices_symMergeCmpFunc_eI64_j56 φ (P ++ (A ++ B) ++ (C ++ E) ++ Q) (a : Int) (m : Int) (b : Int) y (slices_symMergeCmpFunc_eI64 φ) ((a + A.length : Nat) : Int) =
            slices_symMergeCmpFunc_eI64_j62 φ (a : Int) (m : Int) (b : Int) y (slices_symMergeCmpFunc_eI64 φ) ((a + A.length : Nat) : Int) (P ++ A ++ C ++ B ++ E ++ Q) := by
          unfold slices_symMergeCmpFunc_eI64_j56
          rw [hW, hn, hend]
          by_cases hBC : B = [] ∨ C = []
          · rw [if_neg (by
              rcases hBC with rfl | rfl
              · simp at hm ⊢; omega
              · simp)]
            rcases hBC with rfl | rfl <;> simp
          · obtain ⟨hB0, hC0⟩ := not_or.1 hBC
            have b0 := List.length_pos_iff.2 hB0
            have c0 := List.length_pos_iff.2 hC0
            rw [if_pos (by simp; omega)]
            have := rotate_eI64 φ (P ++ A) B C (E ++ Q) y hB0 hC0 (by simp; omega) (by omega)
            have e1 : P ++ (A ++ B) ++ (C ++ E) ++ Q = P ++ A ++ B ++ C ++ (E ++ Q) := by simp
            have e2 : ((a + A.length : Nat) : Int) = ((P ++ A).length : Nat) := by simp; omega
            have e3 : (m : Int) = ((P ++ A).length : Nat) + (B.length : Int) := by simp; omega
            have e4 : ((m + C.length : Nat) : Int) = ((P ++ A).length : Nat) + (B.length : Int) + C.length := by simp; omega
            rw [e1]
            conv => lhs; rw [e4, e2]; arg 1; rw [e3]
            rw [this]
            simp [ha]
        rw [step1]
        have step2 : ∃ R1, Srt lt R1 ∧ Stb lt (A ++ C) R1 ∧ slices_symMergeCmpFunc_eI64_j62 φ (a : Int) (m : Int) (b : Int) y (slices_symMergeCmpFunc_eI64 φ) ((a + A.length : Nat) : Int) (P ++ A ++ C ++ B ++ E ++ Q) =
            slices_symMergeCmpFunc_eI64_j68 φ (a : Int) (m : Int) (b : Int) y (slices_symMergeCmpFunc_eI64 φ) ((a + A.length : Nat) : Int) (P ++ R1 ++ B ++ E ++ Q) := by
          unfold slices_symMergeCmpFunc_eI64_j62
          rw [hW]
          by_cases hAC : A = [] ∨ C = []
          · refine ⟨A ++ C, ?_, Stb.refl _, ?_⟩
            · rcases hAC with rfl | rfl
              · simpa using hS2.parts.1
              · simpa using hS1.parts.1
            · rw [if_neg (by
                rcases hAC with rfl | rfl
                · simp
                · simp at hcm ⊢; omega)]
              simp
          · obtain ⟨hA0, hC0⟩ := not_or.1 hAC
            have a0 := List.length_pos_iff.2 hA0
            have c0 := List.length_pos_iff.2 hC0
            obtain ⟨R1, r1, r2, r3⟩ := ih P A C (B ++ E ++ Q) (fun z hz => hD1 z (by simp [hz])) (fun z hz => hD2 z (by simp [hz])) hS1.parts.1 hS2.parts.1 hA0 hC0 (by simp; omega) (by omega)
            refine ⟨R1, r1, r2, ?_⟩
            rw [if_pos (by simp; omega)]
            have e1 : P ++ A ++ C ++ B ++ E ++ Q = P ++ A ++ C ++ (B ++ E ++ Q) := by simp
            have e2 : ((a + A.length : Nat) : Int) = (P.length : Int) + A.length := by simp; omega
            have e3 : (mid : Int) = (P.length : Int) + A.length + C.length := by omega
            rw [e1]
            conv => lhs; arg 1; rw [e3, e2, ← ea]
            rw [r3]
            simp
        obtain ⟨R1, r1, r2, e2⟩ := step2
        rw [e2]
        have hR1 : R1.length = A.length + C.length := by rw [r2.len]; simp
        have step3 : ∃ R2, Srt lt R2 ∧ Stb lt (B ++ E) R2 ∧ slices_symMergeCmpFunc_eI64_j68 φ (a : Int) (m : Int) (b : Int) y (slices_symMergeCmpFunc_eI64 φ) ((a + A.length : Nat) : Int) (P ++ R1 ++ B ++ E ++ Q) = some (P ++ (R1 ++ R2) ++ Q) := by
          unfold slices_symMergeCmpFunc_eI64_j68
          rw [hW, hn, hend]
          by_cases hBE : B = [] ∨ E = []
          · refine ⟨B ++ E, ?_, Stb.refl _, ?_⟩
            · rcases hBE with rfl | rfl
              · simpa using hS2.parts.2.1
              · simpa using hS1.parts.2.1
            · rw [if_neg (by
                rcases hBE with rfl | rfl
                · simp at hm ⊢; omega
                · simp at hb ⊢; omega)]
              simp
          · obtain ⟨hB0, hE0⟩ := not_or.1 hBE
            have b0 := List.length_pos_iff.2 hB0
            have c0 := List.length_pos_iff.2 hE0
            obtain ⟨R2, p1, p2, p3⟩ := ih (P ++ R1) B E Q (fun z hz => hD1 z (by simp [hz])) (fun z hz => hD2 z (by simp [hz])) hS1.parts.2.1 hS2.parts.2.1 hB0 hE0 (by simp; omega) (by simp; omega)
            refine ⟨R2, p1, p2, ?_⟩
            rw [if_pos (by simp; omega)]
            have e1 : (mid : Int) = ((P ++ R1).length : Nat) := by simp; omega
            have e3 : ((m + C.length : Nat) : Int) = ((P ++ R1).length : Nat) + (B.length : Int) := by simp; omega
            have e4 : (b : Int) = ((P ++ R1).length : Nat) + (B.length : Int) + E.length := by simp; omega
            conv => lhs; arg 1; rw [e4, e3, e1]
            rw [p3]
            simp
        obtain ⟨R2, p1, p2, e3⟩ := step3
        rw [e3]
        have hm' := merge_parts hs hS1 hS2 hA hB r1 r2 p1 p2
        exact ⟨R1 ++ R2, hm'.1, hm'.2, rfl⟩
end
end Px
end
section
namespace Px
open Go
set_option linter.unusedVariables false
set_option linter.unusedSimpArgs false
set_option maxHeartbeats 1000000
section
variable {D : Int → Prop} {lt : Int → Int → Bool} {y : Int → Int → Option Int}
theorem ins_in_eI64 (hy : Cmp D y lt) (φ : Nat) (k : List Int → Option (List Int)) (P : List Int) (x : Int) (hx : D x) : ∀ (n : Nat) (S1 S2 : List Int), (∀ z ∈ S1, D z) → P.length + S1.length + S2.length ≤ 1000000 → S1.length < n →
    ∃ A B, S1 = A ++ B ∧ (∀ z ∈ B, lt x z = true) ∧ (A = [] ∨ ∃ A' z, A = A' ++ [z] ∧ lt x z = false) ∧
      slices_insertionSortCmpFunc_eI64_L14 φ (P.length : Int) y k n ((P.length : Int) + S1.length) (P ++ S1 ++ x :: S2) = k (P ++ A ++ x :: (B ++ S2)) := by
  intro n
  induction n with
  | zero => intro S1 S2 _ _ h; omega
  | succ n ih =>
    intro S1 S2 hD hl hn
    rcases List.eq_nil_or_concat S1 with rfl | ⟨S, z, rfl⟩
    · refine ⟨[], [], rfl, by simp, .inl rfl, ?_⟩
      have h0 : decide ((P.length : Int) < (P.length : Int) + (([] : List Int).length : Int)) = false := by simp
      rw [slices_insertionSortCmpFunc_eI64_L14, h0]
      simp [ck, gcall]
    · simp only [List.concat_eq_append] at hD hl hn ⊢
      simp only [List.length_append, List.length_cons, List.length_nil] at hl hn
      have e1 : P ++ (S ++ [z]) ++ x :: S2 = (P ++ S ++ [z]) ++ x :: S2 := by simp
      have e2 : P ++ (S ++ [z]) ++ x :: S2 = (P ++ S) ++ z :: (x :: S2) := by simp
      have g1 : gt (P ++ (S ++ [z]) ++ x :: S2) ((P.length : Int) + ((S ++ [z]).length : Int)) = x := by
        rw [e1]; exact gt_at (by simp <;> omega)
      have hw : W ((P.length : Int) + ((S ++ [z]).length : Int) - 1) = (P.length : Int) + S.length := by
        rw [W_id (by simp; omega) (by simp; omega)]; simp; omega
      have g2 : gt (P ++ (S ++ [z]) ++ x :: S2) ((P.length : Int) + (S.length : Int)) = z := by
        rw [e2]; exact gt_at (by simp)
      have h0 : decide ((P.length : Int) < (P.length : Int) + ((S ++ [z]).length : Int)) = true := by simp; omega
      have hlen : ((P ++ (S ++ [z]) ++ x :: S2).length : Int) = P.length + S.length + 1 + 1 + S2.length := by simp; omega
      obtain ⟨w, hw1, hw2⟩ := hy x z hx (hD z (by simp))
      have s1 : setAt (P ++ (S ++ [z]) ++ x :: S2) ((P.length : Int) + ((S ++ [z]).length : Int)) z = (P ++ S) ++ z :: (z :: S2) := by
        rw [e1, set_at (by simp <;> omega)]; simp
      have s2 : setAt ((P ++ S) ++ z :: (z :: S2)) ((P.length : Int) + (S.length : Int)) x = P ++ S ++ x :: (z :: S2) := set_at (by simp)
      rw [slices_insertionSortCmpFunc_eI64_L14, hw, h0, g1, g2, hw1, hlen]
      rw [ck_pos (fun _ => ⟨by omega, by simp; omega⟩), ck_pos (fun _ => ⟨by omega, by omega⟩), gcall_y rfl]
      simp only [Option.bind_some, hw2, Bool.true_and]
      cases hlt : lt x z with
      | true =>
        rw [if_pos rfl, ck_pos ⟨by omega, by omega⟩, ck_pos ⟨by omega, by simp; omega⟩, s1]
        rw [ck_pos ⟨by omega, by simp; omega⟩, s2]
        obtain ⟨A, B, q1, q2, q3, q4⟩ := ih S (z :: S2) (fun u hu => hD u (by simp [hu])) (by simp; omega) (by omega)
        refine ⟨A, B ++ [z], by rw [q1]; simp, ?_, q3, ?_⟩
        · intro u hu
          rcases List.mem_append.1 hu with h | h
          · exact q2 u h
          · simp at h; rw [h]; exact hlt
        · rw [q4]; simp
      | false =>
        rw [if_neg (by simp)]
        exact ⟨S ++ [z], [], by simp, by simp, .inr ⟨S, z, rfl, hlt⟩, by simp⟩
theorem ins_out_eI64 (hs : Swo lt) (hy : Cmp D y lt) (φ : Nat) (P Q : List Int) : ∀ (n : Nat) (S R : List Int), S ≠ [] → Srt lt S → (∀ z ∈ S, D z) → (∀ z ∈ R, D z) → P.length + S.length + R.length + Q.length ≤ 1000000 → P.length + S.length + R.length < φ → R.length < n →
    ∃ S', Srt lt S' ∧ Stb lt (S ++ R) S' ∧ slices_insertionSortCmpFunc_eI64_L8 φ (P.length : Int) ((P.length : Int) + S.length + R.length) y n ((P.length : Int) + S.length) (P ++ S ++ R ++ Q) = some (P ++ S' ++ Q) := by
  intro n
  induction n with
  | zero => intro S R _ _ _ _ _ _ h; omega
  | succ n ih =>
    intro S R hne hS hD hD' hl hφ hn
    cases R with
    | nil =>
      refine ⟨S, hS, by simpa using Stb.refl S, ?_⟩
      rw [slices_insertionSortCmpFunc_eI64_L8, if_neg (by simp)]
      simp
    | cons x R =>
      simp only [List.length_cons] at hl hφ hn
      rw [slices_insertionSortCmpFunc_eI64_L8, if_pos (by simp; omega)]
      obtain ⟨A, B, q1, q2, q3, q4⟩ := ins_in_eI64 hy φ (slices_insertionSortCmpFunc_eI64_j11 φ ((P.length : Int) + S.length) (slices_insertionSortCmpFunc_eI64_L8 φ (P.length : Int) ((P.length : Int) + S.length + (x :: R).length) y n)) P x (hD' x (by simp)) φ S (R ++ Q) hD (by simp; omega) (by omega)
      rw [show P ++ S ++ x :: R ++ Q = P ++ S ++ x :: (R ++ Q) by simp, q4]
      have hA : ∀ u ∈ A, lt x u = false := by
        rcases q3 with rfl | ⟨A', z, rfl, hz⟩
        · simp
        · intro u hu
          rcases List.mem_append.1 hu with h | h
          · subst q1
            have := (hS.parts.1).parts.2.2 u h z (by simp)
            exact hs.ntr _ _ _ hz this
          · simp at h; rw [h]; exact hz
      have hS2 : Srt lt (A ++ x :: B) := by
        subst q1
        refine hS.parts.1.app (List.pairwise_cons.2 ⟨fun u hu => hs.asym _ _ (q2 u hu), hS.parts.2.1⟩) fun u hu v hv => ?_
        rcases List.mem_cons.1 hv with h | h
        · subst h; exact hA u hu
        · exact hS.parts.2.2 u hu v h
      obtain ⟨S', p1, p2, p3⟩ := ih (A ++ x :: B) R (by simp) hS2 (fun z hz => by
        subst q1
        simp only [List.mem_append, List.mem_cons] at hz
        rcases hz with h | h | h
        · exact hD z (by simp [h])
        · subst h; exact hD' _ (by simp)
        · exact hD z (by simp [h])) (fun z hz => hD' z (by simp [hz])) (by subst q1; simp at hl ⊢; omega) (by subst q1; simp at hφ ⊢; omega) (by omega)
      refine ⟨S', p1, ?_, ?_⟩
      · have h1 : Stb lt (S ++ [x]) (A ++ [x] ++ B) := by subst q1; exact insert_stb hs q2
        have := h1.app (Stb.refl R)
        refine Stb.trans ?_ (Stb.trans this ?_)
        · simpa using Stb.refl (lt := lt) (S ++ x :: R)
        · simpa using p2
      · rw [← p3]
        unfold slices_insertionSortCmpFunc_eI64_j11
        have e1 : W ((P.length : Int) + S.length + 1) = (P.length : Int) + S.length + 1 := W_id (by omega) (by omega)
        have hSl : S.length = A.length + B.length := by rw [q1]; simp
        have e2 : (P.length : Int) + S.length + 1 = P.length + (A ++ x :: B).length := by simp; omega
        have e3 : (P.length : Int) + S.length + (x :: R).length = P.length + (A ++ x :: B).length + R.length := by simp; omega
        have e4 : P ++ A ++ x :: (B ++ (R ++ Q)) = P ++ (A ++ x :: B) ++ R ++ Q := by simp
        rw [e1, e2, e3, e4]
theorem insertionSort_eI64 (hs : Swo lt) (hy : Cmp D y lt) (φ : Nat) (P X Q : List Int) (hD : ∀ z ∈ X, D z) (hl : P.length + X.length + Q.length ≤ 1000000) (hφ : P.length + X.length < φ) :
    ∃ X', Srt lt X' ∧ Stb lt X X' ∧ slices_insertionSortCmpFunc_eI64 φ (P ++ X ++ Q) (P.length : Int) ((P.length : Int) + X.length) y = some (P ++ X' ++ Q) := by
  unfold slices_insertionSortCmpFunc_eI64
  rw [W_id (x := (P.length : Int) + 1) (by omega) (by omega)]
  cases X with
  | nil =>
    refine ⟨[], List.Pairwise.nil, Stb.refl _, ?_⟩
    obtain ⟨n, rfl⟩ : ∃ n, φ = n + 1 := ⟨φ - 1, by omega⟩
    rw [slices_insertionSortCmpFunc_eI64_L8, if_neg (by simp; omega)]
  | cons x R =>
    simp only [List.length_cons] at hl hφ
    obtain ⟨S', p1, p2, p3⟩ := ins_out_eI64 hs hy φ P Q φ [x] R (by simp) (List.pairwise_singleton _ _) (fun z hz => hD z (by simp at hz; simp [hz])) (fun z hz => hD z (by simp [hz])) (by simp; omega) (by simp; omega) (by omega)
    refine ⟨S', p1, by simpa using p2, ?_⟩
    rw [← p3]
    simp only [List.append_assoc, List.cons_append, List.length_cons, List.length_nil, List.nil_append]
    congr 1
    simp; omega
end
end Px
end
section
namespace Px
open Go
set_option linter.unusedVariables false
set_option linter.unusedSimpArgs false
set_option maxHeartbeats 4000000
section
variable {D : Int → Prop} {lt : Int → Int → Bool} {y : Int → Int → Option Int}
theorem insBlocks_eI64 (hs : Swo lt) (hy : Cmp D y lt) (φ N : Nat) (k : Int → List Int → Option (List Int)) (hN : N ≤ 900000) (hφ : N < φ) :
    ∀ (n : Nat) (X Y : List Int), (∀ z ∈ Y, D z) → X.length + Y.length = N → Y.length < n →
    ∃ Y1 Y2 Y1', Y = Y1 ++ Y2 ∧ Runs lt 20 (Y1' ++ []) ∧ Y2.length < 20 ∧ Stb lt Y1 Y1' ∧ (∀ T, Runs lt 20 T → Runs lt 20 (Y1' ++ T)) ∧
      slices_stableCmpFunc_eI64_L38 φ (N : Int) y k n (X.length : Int) ((X.length : Int) + 20) (X ++ Y) = k ((X.length : Int) + Y1.length) (X ++ Y1' ++ Y2) := by
  intro n
  induction n with
  | zero => intro X Y _ _ h; omega
  | succ n ih =>
    intro X Y hD hl hn
    rw [slices_stableCmpFunc_eI64_L38]
    by_cases h : Y.length < 20
    · refine ⟨[], Y, [], rfl, .last (by simp) List.Pairwise.nil, h, Stb.refl _, fun T hT => hT, ?_⟩
      rw [if_neg (by simp; omega)]
      simp
    · obtain ⟨B, Z, rfl, hB⟩ : ∃ B Z, Y = B ++ Z ∧ B.length = 20 := ⟨Y.take 20, Y.drop 20, (List.take_append_drop _ _).symm, by simp; omega⟩
      simp only [List.length_append] at hl hn h
      rw [if_pos (by simp; omega)]
      obtain ⟨B', b1, b2, b3⟩ := insertionSort_eI64 hs hy φ X B Z (fun z hz => hD z (by simp [hz])) (by omega) (by omega)
      rw [hB] at b3
      have e1 : X ++ (B ++ Z) = X ++ B ++ Z := by simp
      have e2 : ((20 : Nat) : Int) = 20 := rfl
      rw [e2] at b3
      rw [e1, b3]
      simp only [Option.bind_some]
      have hB' : B'.length = 20 := by rw [b2.len, hB]
      have w1 : W ((X.length : Int) + 20 + 20) = (X.length : Int) + 20 + 20 := W_id (by omega) (by omega)
      have e3 : (X.length : Int) + 20 = ((X ++ B').length : Nat) := by simp [hB']
      rw [w1]
      obtain ⟨Y1, Y2, Y1', q1, q2, q3, q4, q5, q6⟩ := ih (X ++ B') Z (fun z hz => hD z (by simp [hz])) (by simp; omega) (by omega)
      rw [← e3] at q6
      refine ⟨B ++ Y1, Y2, B' ++ Y1', by rw [q1]; simp, ?_, q3, b2.app q4, fun T hT => ?_, ?_⟩
      · rw [List.append_assoc]; exact .cons hB' b1 q2
      · rw [List.append_assoc]; exact .cons hB' b1 (q5 T hT)
      · rw [q6]
        have e4 : (X.length : Int) + 20 + Y1.length = (X.length : Int) + ((B ++ Y1).length : Nat) := by simp; omega
        rw [e4]
        simp
theorem pass_eI64 (hs : Swo lt) (hy : Cmp D y lt) (φ N bs : Nat) (k : Int → List Int → Option (List Int)) (hN : N ≤ 900000) (hφ : 2 * N + 3 < φ) (hb0 : 0 < bs) (hb : bs ≤ 900000) :
    ∀ (n : Nat) (X Y : List Int), (∀ z ∈ Y, D z) → Runs lt bs Y → X.length + Y.length = N → Y.length < n →
    ∃ Y', Runs lt (bs * 2) Y' ∧ Stb lt Y Y' ∧ slices_stableCmpFunc_eI64_L29 φ (N : Int) y (bs : Int) (slices_stableCmpFunc_eI64_j18 φ (N : Int) y (bs : Int) k) n (X.length : Int) ((X.length : Int) + 2 * bs) (X ++ Y) = k ((bs * 2 : Nat) : Int) (X ++ Y') := by
  intro n
  induction n with
  | zero => intro X Y _ _ _ h; omega
  | succ n ih =>
    intro X Y hD hR hl hn
    have w1 : W ((X.length : Int) + bs) = (X.length : Int) + bs := W_id (by omega) (by omega)
    have w2 : W ((bs : Int) * 2) = ((bs * 2 : Nat) : Int) := by rw [W_id (by omega) (by omega)]; simp
    have w3 : W (2 * (bs : Int)) = 2 * (bs : Int) := W_id (by omega) (by omega)
    have w4 : W ((X.length : Int) + 2 * bs + 2 * bs) = (X.length : Int) + 2 * bs + 2 * bs := W_id (by omega) (by omega)
    rw [slices_stableCmpFunc_eI64_L29, w1, w3, w4]
    by_cases h : 2 * bs ≤ Y.length
    · rw [if_pos (by simp; omega)]
      obtain ⟨B1, r, rfl, h1, s1, hr, hne⟩ := hR.big (by omega)
      simp only [List.length_append] at hl hn h
      obtain ⟨B2, Z, rfl, h2, s2, hZ⟩ : ∃ B2 Z, r = B2 ++ Z ∧ B2.length = bs ∧ Srt lt B2 ∧ Runs lt bs Z := by
        by_cases q : r.length = bs
        · exact ⟨r, [], by simp, q, hr.small (by omega), .last (by simp) List.Pairwise.nil⟩
        · obtain ⟨b, r', e, q1, q2, q3, _⟩ := hr.big (by omega)
          exact ⟨b, r', e, q1, q2, q3⟩
      simp only [List.length_append] at hl hn h
      obtain ⟨R, r1, r2, r3⟩ := symMerge_eI64 hs hy φ X B1 B2 Z (fun z hz => hD z (by simp [hz])) (fun z hz => hD z (by simp [hz])) s1 s2 (by intro e; subst e; simp at h1; omega) (by intro e; subst e; simp at h2; omega) (by omega) (by omega)
      have hRl : R.length = 2 * bs := by rw [r2.len]; simp; omega
      have e1 : X ++ (B1 ++ (B2 ++ Z)) = X ++ B1 ++ B2 ++ Z := by simp
      have e2 : (X.length : Int) + bs = (X.length : Int) + B1.length := by omega
      have e3 : (X.length : Int) + 2 * bs = (X.length : Int) + B1.length + B2.length := by omega
      have e4 : (X.length : Int) + 2 * bs = ((X ++ R).length : Nat) := by simp; omega
      obtain ⟨Y', p1, p2, p3⟩ := ih (X ++ R) Z (fun z hz => hD z (by simp [hz])) hZ (by simp; omega) (by omega)
      refine ⟨R ++ Y', .cons (by omega) r1 p1, ?_, ?_⟩
      · have := r2.app p2
        simpa using this
      · rw [e1]
        conv => lhs; arg 1; rw [e2, e3]
        rw [r3]
        simp only [Option.bind_some]
        rw [e4, p3]
        simp
    · rw [if_neg (by simp; omega)]
      unfold slices_stableCmpFunc_eI64_j18 slices_stableCmpFunc_eI64_j20
      rw [w1, w2]
      by_cases q : bs < Y.length
      · rw [if_pos (by simp; omega)]
        obtain ⟨B1, B2, rfl, h1, s1, hr, hne⟩ := hR.big q
        simp only [List.length_append] at hl hn h
        obtain ⟨R, r1, r2, r3⟩ := symMerge_eI64 hs hy φ X B1 B2 [] (fun z hz => hD z (by simp [hz])) (fun z hz => hD z (by simp [hz])) s1 (hr.small (by omega)) (by intro e; subst e; simp at h1; omega) hne (by simp; omega) (by omega)
        have e1 : X ++ (B1 ++ B2) = X ++ B1 ++ B2 ++ [] := by simp
        have e2 : (X.length : Int) + bs = (X.length : Int) + B1.length := by omega
        have e3 : (N : Int) = (X.length : Int) + B1.length + B2.length := by omega
        refine ⟨R, .last (by rw [r2.len]; simp; omega) r1, r2, ?_⟩
        rw [e1, e2, e3, r3]
        simp
      · rw [if_neg (by simp; omega)]
        exact ⟨Y, .last (by omega) (hR.small (by omega)), Stb.refl _, rfl⟩
theorem passes_eI64 (hs : Swo lt) (hy : Cmp D y lt) (φ N : Nat) (hN : N ≤ 400000) (hφ : 2 * N + 3 < φ) :
    ∀ (n bs : Nat) (Y : List Int), (∀ z ∈ Y, D z) → Runs lt bs Y → Y.length = N → 0 < bs → bs ≤ 900000 → N - bs < n →
    ∃ Y', Srt lt Y' ∧ Stb lt Y Y' ∧ slices_stableCmpFunc_eI64_L14 φ (N : Int) y n (bs : Int) Y = some Y' := by
  intro n
  induction n with
  | zero => intro bs Y _ _ _ _ _ h; omega
  | succ n ih =>
    intro bs Y hD hR hl hb0 hb hn
    rw [slices_stableCmpFunc_eI64_L14]
    by_cases h : bs < N
    · rw [if_pos (by simp; omega), W_id (x := 2 * (bs : Int)) (by omega) (by omega)]
      obtain ⟨Y', p1, p2, p3⟩ := pass_eI64 hs hy φ N bs (slices_stableCmpFunc_eI64_L14 φ (N : Int) y n) (by omega) hφ hb0 hb φ [] Y hD hR (by simpa using hl) (by omega)
      obtain ⟨Y'', q1, q2, q3⟩ := ih (bs * 2) Y' (fun z hz => hD z (p2.mem.1 hz)) p1 (by rw [p2.len, hl]) (by omega) (by omega) (by omega)
      refine ⟨Y'', q1, p2.trans q2, ?_⟩
      rw [← q3]
      simpa using p3
    · rw [if_neg (by simp; omega)]
      exact ⟨Y, hR.small (by omega), Stb.refl _, rfl⟩
/-- The stable sort sorts, and keeps the order of equal elements. -/
theorem sortStable_eI64 (hs : Swo lt) (hy : Cmp D y lt) (φ : Nat) (v : List Int) (hD : ∀ z ∈ v, D z) (hN : v.length ≤ 400000) (hφ : 2 * v.length + 3 < φ) :
    ∃ r, Srt lt r ∧ Stb lt v r ∧ slices_SortStableFunc_eI64 φ v y = some r := by
  unfold slices_SortStableFunc_eI64 slices_stableCmpFunc_eI64
  obtain ⟨Y1, Y2, Y1', q1, q2, q3, q4, q5, q6⟩ := insBlocks_eI64 hs hy φ v.length (slices_stableCmpFunc_eI64_j7 φ (v.length : Int) y) (by omega) (by omega) φ [] v hD (by simp) (by omega)
  have q6' : slices_stableCmpFunc_eI64_L38 φ (v.length : Int) y (slices_stableCmpFunc_eI64_j7 φ (v.length : Int) y) φ 0 20 v = slices_stableCmpFunc_eI64_j7 φ (v.length : Int) y (Y1.length : Int) (Y1' ++ Y2) := by simpa using q6
  rw [q6']
  unfold slices_stableCmpFunc_eI64_j7
  have hl : v.length = Y1.length + Y2.length := by rw [q1]; simp
  have hl1 : Y1'.length = Y1.length := q4.len
  obtain ⟨Y2', p1, p2, p3⟩ := insertionSort_eI64 hs hy φ Y1' Y2 [] (fun z hz => hD z (by rw [q1]; simp [hz])) (by simp; omega) (by omega)
  simp only [List.append_nil] at p3
  have e1 : (Y1.length : Int) = Y1'.length := by omega
  have e2 : (v.length : Int) = (Y1'.length : Int) + Y2.length := by omega
  have p3' : slices_insertionSortCmpFunc_eI64 φ (Y1' ++ Y2) (Y1.length : Int) (v.length : Int) y = some (Y1' ++ Y2') := by rw [e1, e2]; exact p3
  have hst : Stb lt v (Y1' ++ Y2') := by rw [q1]; exact q4.app p2
  obtain ⟨r, r1, r2, r3⟩ := passes_eI64 hs hy φ v.length hN hφ φ 20 (Y1' ++ Y2') (fun z hz => hD z (hst.mem.1 hz)) (q5 _ (.last (by rw [p2.len]; omega) p1)) hst.len (by omega) (by omega) (by omega)
  refine ⟨r, r1, hst.trans r2, ?_⟩
  rw [p3']
  simp only [Option.bind_some]
  have r3' : slices_stableCmpFunc_eI64_L14 φ (v.length : Int) y φ 20 (Y1' ++ Y2') = some r := r3
  rw [r3']
  rfl
end
end Px
end
section
namespace Px
open Go
set_option linter.unusedVariables false
set_option linter.unusedSimpArgs false
def properB (p : Pool) (r : Report) : Bool :=
  (r.fRef.fRailway != r.fItem.fOther) && ((((gt p.fNetwork.fPlaces r.fItem.fPlace).fRailway == r.fRef.fRailway) && ((gt p.fNetwork.fPlaces r.fItem.fPlace).fOther == r.fItem.fOther)) || (((gt p.fNetwork.fPlaces r.fItem.fPlace).fRailway == r.fItem.fOther) && ((gt p.fNetwork.fPlaces r.fItem.fPlace).fOther == r.fRef.fRailway)))
theorem proper_eq (φ : Nat) (p : Pool) (r : Report) (h : 0 ≤ r.fItem.fPlace ∧ r.fItem.fPlace < (p.fNetwork.fPlaces.length : Int)) : handover_proper φ p r = some (properB p r) := by
  unfold handover_proper; rw [ck_pos h]; rfl
def pstep (p : Pool) (l : List Report) (rs : List Int) (st : List (Int × Bool) × List (Nat → Int)) (d : Int) : List (Int × Bool) × List (Nat → Int) :=
  if properB p (gt l d) = false then st else if 0 ≤ bestOf l st.1 d rs then (mset st.1 (bestOf l st.1 d rs) true, st.2 ++ [ofL [d, bestOf l st.1 d rs]]) else st
def pairsOf (p : Pool) (l : List Report) (rs ds : List Int) : List (Nat → Int) := (ds.foldl (pstep p l rs) ([], [])).2
theorem pairs_loop (φ : Nat) (hφ : 4 < φ) (p : Pool) (l : List Report) (rs ds : List Int) (hl : ds.length ≤ 100000) (hrl : rs.length ≤ 100000) (hr : ∀ z ∈ rs, 0 ≤ z ∧ z < (l.length : Int)) (hφ2 : rs.length < φ) (hφ3 : ds.length < φ)
    (hd : ∀ z ∈ ds, (0 ≤ z ∧ z < (l.length : Int)) ∧ 0 ≤ (gt l z).fItem.fPlace ∧ (gt l z).fItem.fPlace < (p.fNetwork.fPlaces.length : Int)) :
    handover_pairs_L31 φ p l rs ds (handover_pairs_j26 φ) φ 0 [] [] = some (pairsOf p l rs ds) := by
  refine loop_up0 (fun n j (s : List (Int × Bool) × List (Nat → Int)) => handover_pairs_L31 φ p l rs ds (handover_pairs_j26 φ) n j s.1 s.2) ds.length (fun j s => s = (ds.take j).foldl (pstep p l rs) ([], []) ∧ s.2.length ≤ j)
    (fun o => o = some (pairsOf p l rs ds)) ?_ ?_ φ ([], []) ⟨by simp, by simp⟩ hφ3
  · intro n j s hj ⟨hs, hsl⟩ hk
    obtain ⟨hz, hpl⟩ := hd _ (gt_mem (l := ds) (i := (j : Int)) (by omega) (by omega))
    have hnext : (ds.take (j + 1)).foldl (pstep p l rs) ([], []) = pstep p l rs s (gt ds (j : Int)) := by
      rw [take_succ_gt ds j hj, List.foldl_append, ← hs]; rfl
    have w : W ((j : Int) + 1) = (j : Int) + 1 := W_id (by omega) (by omega)
    rw [handover_pairs_L31, if_pos (by simp; omega), ck_pos ⟨by omega, by omega⟩, ck_pos hz]
    simp only [Pool.eta', Item.eta', Report.eta', proper_eq φ p _ hpl, Option.bind_some]
    by_cases q : properB p (gt l (gt ds (j : Int))) = false
    · rw [q, if_pos (by simp)]
      unfold handover_pairs_j36
      rw [w]
      exact hk s ⟨by rw [hnext]; unfold pstep; rw [if_pos q], by omega⟩
    · have q' : properB p (gt l (gt ds (j : Int))) = true := by simpa using q
      rw [q', if_neg (by simp), bestOf_eq φ hφ l rs ds _ s.1 _ hrl hr hφ2]
      unfold handover_pairs_j43
      by_cases hb : 0 ≤ bestOf l s.1 (gt ds (j : Int)) rs
      · rw [if_pos (by simpa using hb), ck_pos (fits_small (by simp; omega) (by omega))]
        unfold handover_pairs_j36
        rw [w]
        refine hk (mset s.1 (bestOf l s.1 (gt ds (j : Int)) rs) true, s.2 ++ [ofL [gt ds (j : Int), bestOf l s.1 (gt ds (j : Int)) rs]]) ⟨?_, by simp; omega⟩
        rw [hnext]; unfold pstep; rw [if_neg q, if_pos hb]
      · rw [if_neg (by simpa using hb)]
        unfold handover_pairs_j36
        rw [w]
        refine hk s ⟨?_, by omega⟩
        rw [hnext]; unfold pstep; rw [if_neg q, if_neg hb]
  · intro n s ⟨hs, _⟩
    rw [List.take_length] at hs
    rw [handover_pairs_L31, if_neg (by simp), hs]
    rfl
/-- What pairs answers. -/
theorem pairs_eq (φ : Nat) (p : Pool) (l : List Report) (ok : Item → Bool) (hl : l.length ≤ 100000) (hφ : 2 * l.length + 10 < φ) (hc : fleet_CheckPool φ p = some 0)
    (hok : ∀ r ∈ l, r.fItem.fKind = 3 ∨ r.fItem.fKind = 4 → ∃ e, edi_Check φ p r.fItem = some e ∧ (e == 0) = ok r.fItem)
    (hpl : ∀ r ∈ l, r.fItem.fKind = 3 ∨ r.fItem.fKind = 4 → ok r.fItem = true → 0 ≤ r.fItem.fPlace ∧ r.fItem.fPlace < (p.fNetwork.fPlaces.length : Int)) :
    ∃ ds, Srt (pairLt l) ds ∧ Stb (pairLt l) (idxF (fun r => r.fItem.fKind == 3 && ok r.fItem) l) ds ∧
      handover_pairs φ p l = some (pairsOf p l (idxF (fun r => r.fItem.fKind == 4 && ok r.fItem) l) ds) := by
  have h3 := of_eq φ p l 3 ok hl (by omega) fun r hr hk => hok r hr (.inl hk)
  have h4 := of_eq φ p l 4 ok hl (by omega) fun r hr hk => hok r hr (.inr hk)
  have l3 := idxF_len (fun r : Report => r.fItem.fKind == 3 && ok r.fItem) l
  have l4 := idxF_len (fun r : Report => r.fItem.fKind == 4 && ok r.fItem) l
  obtain ⟨ds, s1, s2, s3⟩ := sortStable_eI64 (swo_pair l) (cmp_pair φ (by omega) l) φ (idxF (fun r => r.fItem.fKind == 3 && ok r.fItem) l)
    (fun z hz => ⟨(idxF_mem.1 hz).1, (idxF_mem.1 hz).2.1⟩) (by omega) (by omega)
  refine ⟨ds, s1, s2, ?_⟩
  have dl := s2.len
  unfold handover_pairs
  simp only [Pool.eta', hc, h3, h4, Option.bind_some, s3]
  rw [if_neg (by decide)]
  refine pairs_loop φ (by omega) p l _ ds (by omega) (by omega) (fun z hz => ⟨(idxF_mem.1 hz).1, (idxF_mem.1 hz).2.1⟩) (by omega) (by omega) fun z hz => ?_
  obtain ⟨q1, q2, q3⟩ := idxF_mem.1 (s2.mem.1 hz)
  simp only [Bool.and_eq_true, beq_iff_eq] at q3
  exact ⟨⟨q1, q2⟩, hpl _ (gt_mem q1 q2) (.inl q3.1) q3.2⟩
end Px
end
section
namespace Px
open Go
set_option linter.unusedVariables false
set_option linter.unusedSimpArgs false
set_option maxHeartbeats 1000000
section
theorem swapL_eHandover (φ : Nat) (P Z Q : List Handover) (c : Nat) : ∀ (n : Nat) (X1 X2 Y1 Y2 : List Handover), X1.length = Y1.length → X2.length = Y2.length → c = X1.length + X2.length → P.length + c + Z.length + c + Q.length ≤ 1000000 → X2.length < n →
    slices_swapRangeCmpFunc_eHandover_L9 φ (P.length : Int) ((P.length : Int) + c + Z.length) (c : Int) n (X1.length : Int) (P ++ Y1 ++ X2 ++ Z ++ X1 ++ Y2 ++ Q) = some (P ++ Y1 ++ Y2 ++ Z ++ X1 ++ X2 ++ Q) := by
  intro n
  induction n with
  | zero => intro X1 X2 Y1 Y2 _ _ _ _ h; omega
  | succ n ih =>
    intro X1 X2 Y1 Y2 h1 h2 hc hl hn
    cases X2 with
    | nil =>
      have : Y2 = [] := List.eq_nil_of_length_eq_zero (by simpa using h2.symm)
      subst this
      simp only [List.length_nil, Nat.add_zero] at hc
      rw [slices_swapRangeCmpFunc_eHandover_L9, if_neg (by simp; omega)]
    | cons x X2 =>
      cases Y2 with
      | nil => simp at h2
      | cons w Y2 =>
        simp only [List.length_cons, Nat.add_right_cancel_iff] at h2 hc hn
        have w1 : W ((P.length : Int) + c + Z.length + X1.length) = (P.length : Int) + c + Z.length + X1.length := W_id (by omega) (by omega)
        have w2 : W ((P.length : Int) + X1.length) = (P.length : Int) + X1.length := W_id (by omega) (by omega)
        have w3 : W ((X1.length : Int) + 1) = (X1.length : Int) + 1 := W_id (by omega) (by omega)
        have e1 : P ++ Y1 ++ x :: X2 ++ Z ++ X1 ++ w :: Y2 ++ Q = (P ++ Y1) ++ x :: (X2 ++ Z ++ X1 ++ w :: Y2 ++ Q) := by simp
        have e2 : P ++ Y1 ++ x :: X2 ++ Z ++ X1 ++ w :: Y2 ++ Q = (P ++ Y1 ++ x :: X2 ++ Z ++ X1) ++ w :: (Y2 ++ Q) := by simp
        have g1 : gt (P ++ Y1 ++ x :: X2 ++ Z ++ X1 ++ w :: Y2 ++ Q) ((P.length : Int) + X1.length) = x := by rw [e1]; exact gt_at (by simp; omega)
        have g2 : gt (P ++ Y1 ++ x :: X2 ++ Z ++ X1 ++ w :: Y2 ++ Q) ((P.length : Int) + c + Z.length + X1.length) = w := by rw [e2]; exact gt_at (by simp; omega)
        have s1 : setAt (P ++ Y1 ++ x :: X2 ++ Z ++ X1 ++ w :: Y2 ++ Q) ((P.length : Int) + X1.length) w = (P ++ Y1) ++ w :: (X2 ++ Z ++ X1 ++ w :: Y2 ++ Q) := by rw [e1]; exact set_at (by simp; omega)
        have e3 : (P ++ Y1) ++ w :: (X2 ++ Z ++ X1 ++ w :: Y2 ++ Q) = (P ++ Y1 ++ w :: X2 ++ Z ++ X1) ++ w :: (Y2 ++ Q) := by simp
        have s2 : setAt ((P ++ Y1 ++ w :: X2 ++ Z ++ X1) ++ w :: (Y2 ++ Q)) ((P.length : Int) + c + Z.length + X1.length) x = (P ++ Y1 ++ w :: X2 ++ Z ++ X1) ++ x :: (Y2 ++ Q) := set_at (by simp; omega)
        have e4 : (P ++ Y1 ++ w :: X2 ++ Z ++ X1) ++ x :: (Y2 ++ Q) = P ++ (Y1 ++ [w]) ++ X2 ++ Z ++ (X1 ++ [x]) ++ Y2 ++ Q := by simp
        have hlen : ((P ++ Y1 ++ x :: X2 ++ Z ++ X1 ++ w :: Y2 ++ Q).length : Int) = P.length + c + Z.length + c + Q.length := by simp; omega
        have hlen2 : (((P ++ Y1 ++ w :: X2 ++ Z ++ X1) ++ w :: (Y2 ++ Q)).length : Int) = P.length + c + Z.length + c + Q.length := by simp; omega
        rw [slices_swapRangeCmpFunc_eHandover_L9, if_pos (by simp; omega), w1, w2, w3, g1, g2, s1, e3, s2, e4, hlen, hlen2]
        rw [ck_pos ⟨by omega, by omega⟩, ck_pos ⟨by omega, by omega⟩, ck_pos ⟨by omega, by omega⟩]
        have := ih (X1 ++ [x]) X2 (Y1 ++ [w]) Y2 (by simp [h1]) h2 (by simp; omega) hl (by omega)
        have e5 : (((X1 ++ [x]).length : Nat) : Int) = (X1.length : Int) + 1 := by simp
        rw [e5] at this
        rw [this]
        simp
theorem swap_eHandover (φ : Nat) (P X Z Y Q : List Handover) (y : Handover → Handover → Option Int) (h : X.length = Y.length) (hl : P.length + X.length + Z.length + X.length + Q.length ≤ 1000000) (hφ : X.length < φ) :
    slices_swapRangeCmpFunc_eHandover φ (P ++ X ++ Z ++ Y ++ Q) (P.length : Int) ((P.length : Int) + X.length + Z.length) (X.length : Int) y = some (P ++ Y ++ Z ++ X ++ Q) := by
  have := swapL_eHandover φ P Z Q X.length φ [] X [] Y rfl h (by simp) hl hφ
  simpa [slices_swapRangeCmpFunc_eHandover] using this
theorem rotL_eHandover (φ : Nat) (y : Handover → Handover → Option Int) : ∀ (n : Nat) (P X Y Q : List Handover), X ≠ [] → Y ≠ [] → P.length + X.length + Y.length + Q.length ≤ 1000000 → X.length + Y.length ≤ n → X.length + Y.length < φ →
    slices_rotateCmpFunc_eHandover_L17 φ ((P.length : Int) + X.length) y (slices_rotateCmpFunc_eHandover_j9 φ ((P.length : Int) + X.length) y) n (X.length : Int) (Y.length : Int) (P ++ X ++ Y ++ Q) = some (P ++ Y ++ X ++ Q) := by
  intro n
  induction n with
  | zero => intro P X Y Q hX hY _ h; have := List.length_pos_iff.2 hX; omega
  | succ n ih =>
    intro P X Y Q hX hY hl hn hφ
    have hX0 := List.length_pos_iff.2 hX
    have hY0 := List.length_pos_iff.2 hY
    have w1 : W ((P.length : Int) + X.length - X.length) = (P.length : Int) := by rw [W_id (by omega) (by omega)]; omega
    rw [slices_rotateCmpFunc_eHandover_L17, w1]
    by_cases he : X.length = Y.length
    · rw [if_neg (by simp [he])]
      unfold slices_rotateCmpFunc_eHandover_j9
      rw [w1]
      have := swap_eHandover φ P X [] Y Q y he (by simp; omega) (by omega)
      simp only [List.append_nil, List.length_nil, Int.ofNat_zero, Int.add_zero] at this
      rw [this]; rfl
    · rw [if_pos (by simp; omega)]
      by_cases hlt : Y.length < X.length
      · rw [if_pos (by simp; omega)]
        obtain ⟨X1, X2, rfl, h1⟩ : ∃ X1 X2, X = X1 ++ X2 ∧ X1.length = Y.length := ⟨X.take Y.length, X.drop Y.length, (List.take_append_drop _ _).symm, by simp; omega⟩
        simp only [List.length_append] at hl hn hφ hlt hX0 he
        have e1 : P ++ (X1 ++ X2) ++ Y ++ Q = P ++ X1 ++ X2 ++ Y ++ Q := by simp
        have e2 : (P.length : Int) + ((X1 ++ X2).length : Nat) = (P.length : Int) + X1.length + X2.length := by simp; omega
        rw [e1, e2, ← h1, swap_eHandover φ P X1 X2 Y Q y h1 (by omega) (by omega)]
        simp only [Option.bind_some]
        have w2 : W (((X1 ++ X2).length : Int) - X1.length) = (X2.length : Int) := by simp; rw [W_id (by omega) (by omega)]; omega
        rw [w2]
        have := ih (P ++ Y) X2 X1 Q (by intro e; subst e; simp at hlt; omega) (by intro e; subst e; simp at h1; omega) (by simp; omega) (by omega) (by omega)
        have e3 : (((P ++ Y).length : Nat) : Int) + X2.length = (P.length : Int) + X1.length + X2.length := by simp; omega
        rw [e3] at this
        rw [this]
        simp
      · rw [if_neg (by simp; omega)]
        obtain ⟨Y1, Y2, rfl, h1⟩ : ∃ Y1 Y2, Y = Y1 ++ Y2 ∧ Y2.length = X.length := ⟨Y.take (Y.length - X.length), Y.drop (Y.length - X.length), (List.take_append_drop _ _).symm, by simp; omega⟩
        simp only [List.length_append] at hl hn hφ hlt hY0 he
        have e1 : P ++ X ++ (Y1 ++ Y2) ++ Q = P ++ X ++ Y1 ++ Y2 ++ Q := by simp
        have w3 : W ((P.length : Int) + X.length + ((Y1 ++ Y2).length : Nat)) = (P.length : Int) + X.length + Y1.length + Y2.length := by simp; rw [W_id (by omega) (by omega)]; omega
        have w4 : W ((P.length : Int) + X.length + Y1.length + Y2.length - X.length) = (P.length : Int) + X.length + Y1.length := by rw [W_id (by omega) (by omega)]; omega
        have w5 : W (((Y1 ++ Y2).length : Int) - X.length) = (Y1.length : Int) := by simp; rw [W_id (by omega) (by omega)]; omega
        rw [e1, w3, w4, w5, swap_eHandover φ P X Y1 Y2 Q y h1.symm (by omega) (by omega)]
        simp only [Option.bind_some]
        have := ih P Y2 Y1 (X ++ Q) (by intro e; subst e; simp at h1; omega) (by intro e; subst e; simp at h1 hlt he; omega) (by simp; omega) (by omega) (by omega)
        rw [h1] at this
        have e2 : P ++ Y2 ++ Y1 ++ X ++ Q = P ++ Y2 ++ Y1 ++ (X ++ Q) := by simp
        rw [e2, this]
        simp
theorem rotate_eHandover (φ : Nat) (P X Y Q : List Handover) (y : Handover → Handover → Option Int) (hX : X ≠ []) (hY : Y ≠ []) (hl : P.length + X.length + Y.length + Q.length ≤ 1000000) (hφ : X.length + Y.length < φ) :
    slices_rotateCmpFunc_eHandover φ (P ++ X ++ Y ++ Q) (P.length : Int) ((P.length : Int) + X.length) ((P.length : Int) + X.length + Y.length) y = some (P ++ Y ++ X ++ Q) := by
  have := rotL_eHandover φ y φ P X Y Q hX hY hl (by omega) hφ
  rw [← this]
  unfold slices_rotateCmpFunc_eHandover
  have w1 : W ((P.length : Int) + X.length - P.length) = (X.length : Int) := by rw [W_id (by omega) (by omega)]; omega
  have w2 : W ((P.length : Int) + X.length + Y.length - ((P.length : Int) + X.length)) = (Y.length : Int) := by rw [W_id (by omega) (by omega)]; omega
  rw [w1, w2]
end
end Px
end
section
namespace Px
open Go
set_option linter.unusedVariables false
set_option linter.unusedSimpArgs false
set_option maxHeartbeats 2000000
section
variable {D : Handover → Prop} {lt : Handover → Handover → Bool} {y : Handover → Handover → Option Int}
theorem shiftUp_eHandover (φ : Nat) (k : List Handover → Option (List Handover)) (x : Handover) : ∀ (n : Nat) (P C E : List Handover), P.length + C.length + E.length ≤ 999999 → C.length < n →
    slices_symMergeCmpFunc_eHandover_L15 φ ((P.length : Int) + C.length + 1) k n (P.length : Int) (P ++ x :: (C ++ E)) = k (P ++ C ++ x :: E) := by
  intro n
  induction n with
  | zero => intro P C E _ h; omega
  | succ n ih =>
    intro P C E hl hn
    have w0 : W ((P.length : Int) + C.length + 1 - 1) = (P.length : Int) + C.length := by rw [W_id (by omega) (by omega)]; omega
    rw [slices_symMergeCmpFunc_eHandover_L15, w0]
    cases C with
    | nil => rw [if_neg (by simp)]; simp
    | cons w C =>
      simp only [List.length_cons] at hl hn
      have w1 : W ((P.length : Int) + 1) = (P.length : Int) + 1 := W_id (by omega) (by omega)
      have e1 : P ++ x :: (w :: C ++ E) = (P ++ [x]) ++ w :: (C ++ E) := by simp
      have g1 : gt (P ++ x :: (w :: C ++ E)) (P.length : Int) = x := gt_at rfl
      have g2 : gt (P ++ x :: (w :: C ++ E)) ((P.length : Int) + 1) = w := by rw [e1]; exact gt_at (by simp)
      have s1 : setAt (P ++ x :: (w :: C ++ E)) (P.length : Int) w = P ++ w :: (w :: C ++ E) := set_at rfl
      have e2 : P ++ w :: (w :: C ++ E) = (P ++ [w]) ++ w :: (C ++ E) := by simp
      have s2 : setAt ((P ++ [w]) ++ w :: (C ++ E)) ((P.length : Int) + 1) x = (P ++ [w]) ++ x :: (C ++ E) := set_at (by simp)
      have hlen : ((P ++ x :: (w :: C ++ E)).length : Int) = P.length + C.length + E.length + 2 := by simp; omega
      have hlen2 : (((P ++ [w]) ++ w :: (C ++ E)).length : Int) = P.length + C.length + E.length + 2 := by simp; omega
      rw [if_pos (by simp; omega), w1, g1, g2, s1, e2, s2, hlen, hlen2, ck_pos ⟨by omega, by omega⟩, ck_pos ⟨by omega, by omega⟩, ck_pos ⟨by omega, by omega⟩]
      have := ih (P ++ [w]) C E (by simp; omega) (by omega)
      have e3 : (((P ++ [w]).length : Nat) : Int) = (P.length : Int) + 1 := by simp
      have e4 : (P.length : Int) + ((w :: C).length : Nat) + 1 = (P.length : Int) + 1 + C.length + 1 := by simp; omega
      rw [e3] at this
      rw [e4, this]
      simp
theorem shiftDown_eHandover (φ : Nat) (k : List Handover → Option (List Handover)) (x : Handover) (P : List Handover) : ∀ (n : Nat) (C E : List Handover), P.length + C.length + E.length ≤ 999999 → C.length < n →
    slices_symMergeCmpFunc_eHandover_L37 φ (P.length : Int) k n ((P.length : Int) + C.length) (P ++ C ++ x :: E) = k (P ++ x :: (C ++ E)) := by
  intro n
  induction n with
  | zero => intro C E _ h; omega
  | succ n ih =>
    intro C E hl hn
    rw [slices_symMergeCmpFunc_eHandover_L37]
    rcases nil_or_snoc C with rfl | ⟨S, z, rfl⟩
    · rw [if_neg (by simp)]; simp
    · simp only [List.length_append, List.length_cons, List.length_nil] at hl hn
      have w1 : W ((P.length : Int) + ((S ++ [z]).length : Nat) - 1) = (P.length : Int) + S.length := by
        rw [W_id (by simp; omega) (by simp; omega)]; simp; omega
      have e1 : P ++ (S ++ [z]) ++ x :: E = (P ++ S ++ [z]) ++ x :: E := by simp
      have e2 : P ++ (S ++ [z]) ++ x :: E = (P ++ S) ++ z :: (x :: E) := by simp
      have g1 : gt (P ++ (S ++ [z]) ++ x :: E) ((P.length : Int) + ((S ++ [z]).length : Nat)) = x := by rw [e1]; exact gt_at (by simp <;> omega)
      have g2 : gt (P ++ (S ++ [z]) ++ x :: E) ((P.length : Int) + S.length) = z := by rw [e2]; exact gt_at (by simp)
      have s1 : setAt (P ++ (S ++ [z]) ++ x :: E) ((P.length : Int) + ((S ++ [z]).length : Nat)) z = (P ++ S) ++ z :: (z :: E) := by rw [e1, set_at (by simp <;> omega)]; simp
      have s2 : setAt ((P ++ S) ++ z :: (z :: E)) ((P.length : Int) + S.length) x = P ++ S ++ x :: (z :: E) := set_at (by simp)
      have hlen : ((P ++ (S ++ [z]) ++ x :: E).length : Int) = P.length + S.length + E.length + 2 := by simp; omega
      have hlen2 : (((P ++ S) ++ z :: (z :: E)).length : Int) = P.length + S.length + E.length + 2 := by simp; omega
      rw [if_pos (by simp; omega), w1, g1, g2, s1, s2, hlen, hlen2, ck_pos ⟨by omega, by omega⟩, ck_pos ⟨by omega, by simp; omega⟩, ck_pos ⟨by omega, by omega⟩]
      rw [ih S (z :: E) (by simp; omega) (by omega)]
      simp
/-- One element before a sorted list. -/
theorem mergeFirst_eHandover (hs : Swo lt) (hy : Cmp D y lt) (φ : Nat) (P L Q : List Handover) (x : Handover) (hx : D x) (hD : ∀ z ∈ L, D z) (hS : Srt lt L) (hl : P.length + L.length + Q.length ≤ 999998) (hφ : P.length + L.length + 2 < φ) :
    ∃ R, Srt lt R ∧ Stb lt (x :: L) R ∧ slices_symMergeCmpFunc_eHandover_L24 φ (P ++ x :: (L ++ Q)) (P.length : Int) y (slices_symMergeCmpFunc_eHandover_j10 φ (P ++ x :: (L ++ Q)) (P.length : Int)) φ ((P.length : Int) + 1) ((P.length : Int) + 1 + L.length) = some (P ++ R ++ Q) := by
  have gx : gt (P ++ x :: (L ++ Q)) (P.length : Int) = x := gt_at rfl
  have hlen : ((P ++ x :: (L ++ Q)).length : Int) = P.length + L.length + Q.length + 1 := by simp; omega
  have gL : ∀ i : Nat, P.length + 1 ≤ i → i < P.length + 1 + L.length → gt (P ++ x :: (L ++ Q)) (i : Int) = gt L ((i - (P.length + 1) : Nat) : Int) := by
    intro i h1 h2
    have e : P ++ x :: (L ++ Q) = (P ++ [x]) ++ (L ++ Q) := by simp
    rw [e, gt_app_right _ _ _ (by simp; omega), gt_app_left _ _ _ (by simp; omega) (by simp; omega)]
    congr 1; simp; omega
  obtain ⟨c, h1, h2, h3, h4, h5⟩ := bsearch (slices_symMergeCmpFunc_eHandover_L24 φ (P ++ x :: (L ++ Q)) (P.length : Int) y (slices_symMergeCmpFunc_eHandover_j10 φ (P ++ x :: (L ++ Q)) (P.length : Int)))
    (slices_symMergeCmpFunc_eHandover_j10 φ (P ++ x :: (L ++ Q)) (P.length : Int)) (fun h => lt (gt (P ++ x :: (L ++ Q)) (h : Int)) x) (P.length + 1 + L.length) (P.length + 1)
    (by
      intro n s r h0 hlt hR
      have hm : (W ((U (W ((s : Int) + r))).fdiv 2)) = (((s + r) / 2 : Nat) : Int) := by rw [mid_W (by omega) (by omega)]; omega
      have hm1 : W ((((s + r) / 2 : Nat) : Int) + 1) = (((s + r) / 2 + 1 : Nat) : Int) := by rw [W_id (by omega) (by omega)]; simp
      obtain ⟨w, hw1, hw2⟩ := hy (gt (P ++ x :: (L ++ Q)) (((s + r) / 2 : Nat) : Int)) x (by
        rw [gL _ (by omega) (by omega)]; exact hD _ (gt_mem (by omega) (by omega))) hx
      rw [slices_symMergeCmpFunc_eHandover_L24, if_pos (by simp; omega), hm, hm1, hlen, gx, ck_pos ⟨by omega, by omega⟩, ck_pos ⟨by omega, by omega⟩, hw1]
      simp only [Option.bind_some, hw2])
    (by
      intro n s
      rw [slices_symMergeCmpFunc_eHandover_L24, if_neg (by simp)]) φ (P.length + 1) (P.length + 1 + L.length) (Nat.le_refl _) (by omega) (Nat.le_refl _) (by omega)
  obtain ⟨C, E, rfl, hC⟩ : ∃ C E, L = C ++ E ∧ C.length = c - (P.length + 1) := ⟨L.take (c - (P.length + 1)), L.drop (c - (P.length + 1)), (List.take_append_drop _ _).symm, by simp; omega⟩
  simp only [List.length_append] at hl hφ h2 gL
  have hCx : ∀ z ∈ C, lt z x = true := by
    intro z hz
    rcases nil_or_snoc C with rfl | ⟨S, w, rfl⟩
    · cases hz
    · simp only [List.length_append, List.length_cons, List.length_nil] at hC hz hS gL h2
      have hp : lt w x = true := by
        rcases h3 with h3 | h3
        · omega
        · rw [gL _ (by omega) (by omega)] at h3
          have e : S ++ [w] ++ E = S ++ w :: E := by simp
          rw [e, gt_at (by omega)] at h3
          exact h3
      rcases List.mem_append.1 hz with h | h
      · exact lt_of_ends hs (hS.parts.1.parts.2.2 z h w (by simp)) hp (hs.irr x)
      · simp at h; rw [h]; exact hp
  have hEx : ∀ z ∈ E, lt z x = false := by
    intro z hz
    cases E with
    | nil => cases hz
    | cons w E =>
      simp only [List.length_cons] at h2 gL h4
      have hp : lt w x = false := by
        rcases h4 with h4 | h4
        · simp at h4; omega
        · rw [gL _ (by omega) (by omega), gt_at (by omega)] at h4
          exact h4
      rcases List.mem_cons.1 hz with h | h
      · rw [h]; exact hp
      · exact hs.ntr _ _ _ ((List.pairwise_cons.1 hS.parts.2.1).1 z h) hp
  have hm := merge_parts hs (A := []) (B := [x]) (C := C) (E := E) (R1 := C) (R2 := x :: E) (List.pairwise_singleton _ _) hS (by simpa using hCx) (by simp) hS.parts.1 (by simpa using Stb.refl C) (List.pairwise_cons.2 ⟨hEx, hS.parts.2.1⟩) (by simpa using Stb.refl (x :: E))
  refine ⟨C ++ x :: E, hm.1, by simpa using hm.2, ?_⟩
  have e5 : ((P.length : Int) + 1 + ((C ++ E).length : Nat)) = ((P.length + 1 + (C ++ E).length : Nat) : Int) := by simp
  have e6 : ((P.length : Int) + 1) = ((P.length + 1 : Nat) : Int) := by simp
  rw [e5, e6, h5]
  unfold slices_symMergeCmpFunc_eHandover_j10
  have e7 : (c : Int) = (P.length : Int) + C.length + 1 := by omega
  have e8 : P ++ x :: (C ++ E ++ Q) = P ++ x :: (C ++ (E ++ Q)) := by simp
  rw [e7, e8, shiftUp_eHandover φ _ x φ P C (E ++ Q) (by simp; omega) (by omega)]
  simp [slices_symMergeCmpFunc_eHandover_j12]
/-- A sorted list before one element. -/
theorem mergeLast_eHandover (hs : Swo lt) (hy : Cmp D y lt) (φ : Nat) (P L Q : List Handover) (x : Handover) (hx : D x) (hD : ∀ z ∈ L, D z) (hS : Srt lt L) (hl : P.length + L.length + Q.length ≤ 999998) (hφ : P.length + L.length + 2 < φ) :
    ∃ R, Srt lt R ∧ Stb lt (L ++ [x]) R ∧ slices_symMergeCmpFunc_eHandover_L46 φ (P ++ L ++ x :: Q) ((P.length : Int) + L.length) y (slices_symMergeCmpFunc_eHandover_j32 φ (P ++ L ++ x :: Q) ((P.length : Int) + L.length)) φ (P.length : Int) ((P.length : Int) + L.length) = some (P ++ R ++ Q) := by
  have gx : gt (P ++ L ++ x :: Q) ((P.length : Int) + L.length) = x := gt_at (by simp)
  have hlen : ((P ++ L ++ x :: Q).length : Int) = P.length + L.length + Q.length + 1 := by simp; omega
  have gL : ∀ i : Nat, P.length ≤ i → i < P.length + L.length → gt (P ++ L ++ x :: Q) (i : Int) = gt L ((i - P.length : Nat) : Int) := by
    intro i h1 h2
    rw [List.append_assoc, gt_app_right _ _ _ (by omega), gt_app_left _ _ _ (by omega) (by omega)]
    congr 1; omega
  obtain ⟨c, h1, h2, h3, h4, h5⟩ := bsearch (slices_symMergeCmpFunc_eHandover_L46 φ (P ++ L ++ x :: Q) ((P.length : Int) + L.length) y (slices_symMergeCmpFunc_eHandover_j32 φ (P ++ L ++ x :: Q) ((P.length : Int) + L.length)))
    (slices_symMergeCmpFunc_eHandover_j32 φ (P ++ L ++ x :: Q) ((P.length : Int) + L.length)) (fun h => !lt x (gt (P ++ L ++ x :: Q) (h : Int))) (P.length + L.length) P.length
    (by
      intro n s r h0 hlt hR
      have hm : (W ((U (W ((s : Int) + r))).fdiv 2)) = (((s + r) / 2 : Nat) : Int) := by rw [mid_W (by omega) (by omega)]; omega
      have hm1 : W ((((s + r) / 2 : Nat) : Int) + 1) = (((s + r) / 2 + 1 : Nat) : Int) := by rw [W_id (by omega) (by omega)]; simp
      obtain ⟨w, hw1, hw2⟩ := hy x (gt (P ++ L ++ x :: Q) (((s + r) / 2 : Nat) : Int)) hx (by
        rw [gL _ (by omega) (by omega)]; exact hD _ (gt_mem (by omega) (by omega)))
      rw [slices_symMergeCmpFunc_eHandover_L46, if_pos (by simp; omega), hm, hm1, hlen, gx, ck_pos ⟨by omega, by omega⟩, ck_pos ⟨by omega, by omega⟩, hw1]
      simp only [Option.bind_some, hw2])
    (by
      intro n s
      rw [slices_symMergeCmpFunc_eHandover_L46, if_neg (by simp)]) φ P.length (P.length + L.length) (Nat.le_refl _) (by omega) (Nat.le_refl _) (by omega)
  obtain ⟨A, B, rfl, hC⟩ : ∃ A B, L = A ++ B ∧ A.length = c - P.length := ⟨L.take (c - P.length), L.drop (c - P.length), (List.take_append_drop _ _).symm, by simp; omega⟩
  simp only [List.length_append] at hl hφ h2 gL
  have hA : ∀ z ∈ A, lt x z = false := by
    intro z hz
    rcases nil_or_snoc A with rfl | ⟨S, w, rfl⟩
    · cases hz
    · simp only [List.length_append, List.length_cons, List.length_nil] at hC hz hS gL h2
      have hp : lt x w = false := by
        rcases h3 with h3 | h3
        · omega
        · rw [gL _ (by omega) (by omega)] at h3
          have e : S ++ [w] ++ B = S ++ w :: B := by simp
          rw [e, gt_at (by omega)] at h3
          simpa using h3
      rcases List.mem_append.1 hz with h | h
      · exact hs.ntr _ _ _ hp (hS.parts.1.parts.2.2 z h w (by simp))
      · simp at h; rw [h]; exact hp
  have hB : ∀ z ∈ B, lt x z = true := by
    intro z hz
    cases B with
    | nil => cases hz
    | cons w B =>
      simp only [List.length_cons] at h2 gL h4
      have hp : lt x w = true := by
        rcases h4 with h4 | h4
        · simp at h4; omega
        · rw [gL _ (by omega) (by omega), gt_at (by omega)] at h4
          simpa using h4
      rcases List.mem_cons.1 hz with h | h
      · rw [h]; exact hp
      · exact lt_of_ends hs (hs.irr x) hp ((List.pairwise_cons.1 hS.parts.2.1).1 z h)
  have hm := merge_parts hs (A := A) (B := B) (C := [x]) (E := []) (R1 := A ++ [x]) (R2 := B) hS (by rw [List.append_nil]; exact List.pairwise_singleton _ x) (by simpa using hB) (by simp)
    (hS.parts.1.app (List.pairwise_singleton _ _) (by simpa using hA)) (Stb.refl _) hS.parts.2.1 (by simpa using Stb.refl B)
  refine ⟨A ++ [x] ++ B, hm.1, by simpa using hm.2, ?_⟩
  have e5 : ((P.length : Int) + ((A ++ B).length : Nat)) = ((P.length + (A ++ B).length : Nat) : Int) := by simp
  rw [e5] at h5 ⊢
  rw [h5]
  unfold slices_symMergeCmpFunc_eHandover_j32
  have e7 : (c : Int) = (((P ++ A).length : Nat) : Int) := by simp; omega
  have e8 : P ++ (A ++ B) ++ x :: Q = (P ++ A) ++ B ++ x :: Q := by simp
  have e9 : ((P.length + (A ++ B).length : Nat) : Int) = (((P ++ A).length : Nat) : Int) + B.length := by simp; omega
  rw [e7, e8, e9, shiftDown_eHandover φ _ x (P ++ A) φ B Q (by simp; omega) (by omega)]
  simp [slices_symMergeCmpFunc_eHandover_j34]
end
end Px
end
section
namespace Px
open Go
set_option linter.unusedVariables false
set_option linter.unusedSimpArgs false
set_option maxHeartbeats 4000000
section
variable {D : Handover → Prop} {lt : Handover → Handover → Bool} {y : Handover → Handover → Option Int}
/-- Where the two lists are split. -/
theorem splitL_eHandover (hs : Swo lt) (hy : Cmp D y lt) (φ : Nat) (P L1 L2 Q : List Handover) (k : Int → Option (List Handover)) (hD1 : ∀ z ∈ L1, D z) (hD2 : ∀ z ∈ L2, D z) (hS1 : Srt lt L1) (hS2 : Srt lt L2)
    (a m b mid s0 r0 : Nat) (ha : a = P.length) (hm : m = a + L1.length) (hb : b = m + L2.length) (hmid : mid = (a + b) / 2) (hl : b + Q.length ≤ 999998) (hφ : b < φ)
    (h1 : 1 ≤ L1.length) (h2 : 1 ≤ L2.length) (hs0 : (mid < m ∧ s0 = mid + m - b ∧ r0 = mid) ∨ (m ≤ mid ∧ s0 = a ∧ r0 = m)) :
    ∃ A B C E, L1 = A ++ B ∧ L2 = C ++ E ∧ mid + m - (a + A.length) = m + C.length ∧ (∀ x ∈ B, ∀ y ∈ C, lt y x = true) ∧ (∀ x ∈ A, ∀ y ∈ E, lt y x = false) ∧
      slices_symMergeCmpFunc_eHandover_L90 φ (P ++ L1 ++ L2 ++ Q) (a : Int) (m : Int) (b : Int) y k φ (s0 : Int) (r0 : Int) = k ((a + A.length : Nat) : Int) := by
  have g1 : ∀ i : Nat, a ≤ i → i < m → gt (P ++ L1 ++ L2 ++ Q) (i : Int) = gt L1 ((i - a : Nat) : Int) := by
    intro i q1 q2
    have e : P ++ L1 ++ L2 ++ Q = P ++ (L1 ++ (L2 ++ Q)) := by simp
    rw [e, gt_app_right _ _ _ (by omega), gt_app_left _ _ _ (by omega) (by omega)]
    congr 1; omega
  have g2 : ∀ i : Nat, m ≤ i → i < b → gt (P ++ L1 ++ L2 ++ Q) (i : Int) = gt L2 ((i - m : Nat) : Int) := by
    intro i q1 q2
    have e : P ++ L1 ++ L2 ++ Q = (P ++ L1) ++ (L2 ++ Q) := by simp
    rw [e, gt_app_right _ _ _ (by simp; omega), gt_app_left _ _ _ (by simp; omega) (by simp; omega)]
    congr 1; simp; omega
  have hlen : ((P ++ L1 ++ L2 ++ Q).length : Int) = b + Q.length := by simp; omega
  have hW : W ((U (W ((a : Int) + b))).fdiv 2) = (mid : Int) := by rw [mid_W (by omega) (by omega)]; omega
  have hn : W ((mid : Int) + m) = ((mid + m : Nat) : Int) := by rw [W_id (by omega) (by omega)]; simp
  have hp : W (((mid + m : Nat) : Int) - 1) = ((mid + m - 1 : Nat) : Int) := by rw [W_id (by omega) (by omega)]; omega
  have hmb : mid ≤ b := by omega
  have ham : a ≤ mid := by omega
  obtain ⟨c, h3, h4, h5, h6, h7⟩ := bsearch (slices_symMergeCmpFunc_eHandover_L90 φ (P ++ L1 ++ L2 ++ Q) (a : Int) (m : Int) (b : Int) y k) k
    (fun c => !lt (gt (P ++ L1 ++ L2 ++ Q) ((mid + m - 1 - c : Nat) : Int)) (gt (P ++ L1 ++ L2 ++ Q) (c : Int))) r0 s0
    (by
      intro n s r q0 hlt hR
      have hm' : (W ((U (W ((s : Int) + r))).fdiv 2)) = (((s + r) / 2 : Nat) : Int) := by rw [mid_W (by omega) (by omega)]; omega
      have hm1 : W ((((s + r) / 2 : Nat) : Int) + 1) = (((s + r) / 2 + 1 : Nat) : Int) := by rw [W_id (by omega) (by omega)]; simp
      have hpc : W (((mid + m - 1 : Nat) : Int) - (((s + r) / 2 : Nat) : Int)) = ((mid + m - 1 - (s + r) / 2 : Nat) : Int) := by rw [W_id (by omega) (by omega)]; omega
      obtain ⟨w, hw1, hw2⟩ := hy (gt (P ++ L1 ++ L2 ++ Q) ((mid + m - 1 - (s + r) / 2 : Nat) : Int)) (gt (P ++ L1 ++ L2 ++ Q) (((s + r) / 2 : Nat) : Int))
        (by rw [g2 _ (by omega) (by omega)]; exact hD2 _ (gt_mem (by omega) (by omega))) (by rw [g1 _ (by omega) (by omega)]; exact hD1 _ (gt_mem (by omega) (by omega)))
      rw [slices_symMergeCmpFunc_eHandover_L90, if_pos (by simp; omega), hm', hm1, hW, hn, hp, hpc, hlen, ck_pos ⟨by omega, by omega⟩, ck_pos ⟨by omega, by omega⟩, hw1]
      simp only [Option.bind_some, hw2])
    (by
      intro n s
      rw [slices_symMergeCmpFunc_eHandover_L90, if_neg (by simp)]) φ s0 r0 (Nat.le_refl _) (by omega) (Nat.le_refl _) (by omega)
  obtain ⟨A, B, rfl, hA⟩ : ∃ A B, L1 = A ++ B ∧ A.length = c - a := ⟨L1.take (c - a), L1.drop (c - a), (List.take_append_drop _ _).symm, by simp; omega⟩
  obtain ⟨C, E, rfl, hC⟩ : ∃ C E, L2 = C ++ E ∧ C.length = mid - c := ⟨L2.take (mid - c), L2.drop (mid - c), (List.take_append_drop _ _).symm, by simp; omega⟩
  simp only [List.length_append] at hm hb g1 g2
  refine ⟨A, B, C, E, rfl, rfl, by omega, ?_, ?_, ?_⟩
  · intro x hx z hz
    rcases nil_or_snoc C with rfl | ⟨S, w, rfl⟩
    · cases hz
    · cases B with
      | nil => cases hx
      | cons x0 B =>
        simp only [List.length_append, List.length_cons, List.length_nil] at hC hm hb g1 g2 hA
        have hp : lt w x0 = true := by
          rcases h6 with h6 | h6
          · omega
          · rw [g1 c (by omega) (by omega), g2 (mid + m - 1 - c) (by omega) (by omega)] at h6
            have e : S ++ [w] ++ E = S ++ w :: E := by simp
            rw [e, gt_at (by omega), gt_at (by omega)] at h6
            simpa using h6
        have hz1 : lt w z = false := by
          rcases List.mem_append.1 hz with h | h
          · exact hS2.parts.1.parts.2.2 z h w (by simp)
          · simp at h; rw [h]; exact hs.irr _
        have hx1 : lt x x0 = false := by
          rcases List.mem_cons.1 hx with h | h
          · rw [h]; exact hs.irr _
          · exact (List.pairwise_cons.1 hS1.parts.2.1).1 x h
        exact lt_of_ends hs hz1 hp hx1
  · intro x hx z hz
    rcases nil_or_snoc A with rfl | ⟨S, w, rfl⟩
    · cases hx
    · cases E with
      | nil => cases hz
      | cons e0 E =>
        simp only [List.length_append, List.length_cons, List.length_nil] at hC hm hb g1 g2 hA
        have hp : lt e0 w = false := by
          rcases h5 with h5 | h5
          · omega
          · have e1 : mid + m - 1 - (c - 1) = mid + m - c := by omega
            rw [e1, g1 (c - 1) (by omega) (by omega), g2 (mid + m - c) (by omega) (by omega)] at h5
            have e : S ++ [w] ++ B = S ++ w :: B := by simp
            rw [e, gt_at (by omega), gt_at (by omega)] at h5
            simpa using h5
        have hz1 : lt z e0 = false := by
          rcases List.mem_cons.1 hz with h | h
          · rw [h]; exact hs.irr _
          · exact (List.pairwise_cons.1 hS2.parts.2.1).1 z h
        have hx1 : lt w x = false := by
          rcases List.mem_append.1 hx with h | h
          · exact hS1.parts.1.parts.2.2 x h w (by simp)
          · simp at h; rw [h]; exact hs.irr _
        exact nlt_of_ends hs hz1 hp hx1
  · rw [h7]
    congr 1
    omega
/-- Merging two sorted lists in place. -/
theorem symMerge_eHandover (hs : Swo lt) (hy : Cmp D y lt) : ∀ (φ : Nat) (P L1 L2 Q : List Handover), (∀ z ∈ L1, D z) → (∀ z ∈ L2, D z) → Srt lt L1 → Srt lt L2 → L1 ≠ [] → L2 ≠ [] →
    P.length + L1.length + L2.length + Q.length ≤ 999998 → P.length + L1.length + L2.length + (L1.length + L2.length) + 3 < φ →
    ∃ R, Srt lt R ∧ Stb lt (L1 ++ L2) R ∧ slices_symMergeCmpFunc_eHandover φ (P ++ L1 ++ L2 ++ Q) (P.length : Int) ((P.length : Int) + L1.length) ((P.length : Int) + L1.length + L2.length) y = some (P ++ R ++ Q) := by
  intro φ
  induction φ with
  | zero => intro P L1 L2 Q _ _ _ _ _ _ _ h; omega
  | succ φ ih =>
    intro P L1 L2 Q hD1 hD2 hS1 hS2 hn1 hn2 hl hφ
    have hp1 := List.length_pos_iff.2 hn1
    have hp2 := List.length_pos_iff.2 hn2
    rw [slices_symMergeCmpFunc_eHandover]
    have w1 : W ((P.length : Int) + L1.length - P.length) = (L1.length : Int) := by rw [W_id (by omega) (by omega)]; omega
    have w2 : W ((P.length : Int) + L1.length + L2.length - ((P.length : Int) + L1.length)) = (L2.length : Int) := by rw [W_id (by omega) (by omega)]; omega
    rw [w1, w2]
    by_cases q1 : L1.length = 1
    · rw [if_pos (by simp [q1])]
      match L1, q1 with
      | [x], _ =>
        obtain ⟨R, r1, r2, r3⟩ := mergeFirst_eHandover hs hy φ P L2 Q x (hD1 x (by simp)) hD2 hS2 (by simp at hl; omega) (by simp at hφ; omega)
        refine ⟨R, r1, r2, ?_⟩
        rw [← r3]
        simp
    · rw [if_neg (by simp; omega)]
      by_cases q2 : L2.length = 1
      · rw [if_pos (by simp [q2])]
        match L2, q2 with
        | [x], _ =>
          obtain ⟨R, r1, r2, r3⟩ := mergeLast_eHandover hs hy φ P L1 Q x (hD2 x (by simp)) hD1 hS1 (by simp at hl; omega) (by simp at hφ; omega)
          refine ⟨R, r1, r2, ?_⟩
          rw [← r3]
          simp
      · rw [if_neg (by simp; omega)]
        obtain ⟨a, ha⟩ : ∃ a, a = P.length := ⟨_, rfl⟩
        obtain ⟨m, hm⟩ : ∃ m, m = a + L1.length := ⟨_, rfl⟩
        obtain ⟨b, hb⟩ : ∃ b, b = m + L2.length := ⟨_, rfl⟩
        obtain ⟨mid, hmid⟩ : ∃ mid, mid = (a + b) / 2 := ⟨_, rfl⟩
        have ea : (P.length : Int) = (a : Int) := by omega
        have em : (P.length : Int) + L1.length = (m : Int) := by omega
        have eb : (P.length : Int) + L1.length + L2.length = (b : Int) := by omega
        rw [eb, em, ea]
        have hW : W ((U (W ((a : Int) + b))).fdiv 2) = (mid : Int) := by rw [mid_W (by omega) (by omega)]; omega
        have hn : W ((mid : Int) + m) = ((mid + m : Nat) : Int) := by rw [W_id (by omega) (by omega)]; simp
        rw [hW, hn]
        have key : ∃ s0 r0 : Nat, ((mid < m ∧ s0 = mid + m - b ∧ r0 = mid) ∨ (m ≤ mid ∧ s0 = a ∧ r0 = m)) ∧
            (if decide ((mid : Int) < m) = true then slices_symMergeCmpFunc_eHandover_j54 φ (P ++ L1 ++ L2 ++ Q) (a : Int) (m : Int) (b : Int) y (slices_symMergeCmpFunc_eHandover φ) (W (((mid + m : Nat) : Int) - b)) (mid : Int)
              else slices_symMergeCmpFunc_eHandover_j54 φ (P ++ L1 ++ L2 ++ Q) (a : Int) (m : Int) (b : Int) y (slices_symMergeCmpFunc_eHandover φ) (a : Int) (m : Int)) =
            slices_symMergeCmpFunc_eHandover_j54 φ (P ++ L1 ++ L2 ++ Q) (a : Int) (m : Int) (b : Int) y (slices_symMergeCmpFunc_eHandover φ) (s0 : Int) (r0 : Int) := by
          by_cases q : mid < m
          · refine ⟨mid + m - b, mid, .inl ⟨q, rfl, rfl⟩, ?_⟩
            have : W (((mid + m : Nat) : Int) - b) = ((mid + m - b : Nat) : Int) := by rw [W_id (by omega) (by omega)]; omega
            rw [if_pos (by simp; omega), this]
          · refine ⟨a, m, .inr ⟨by omega, rfl, rfl⟩, ?_⟩
            rw [if_neg (by simp; omega)]
        obtain ⟨s0, r0, hk, e⟩ := key
        rw [e]
        unfold slices_symMergeCmpFunc_eHandover_j54
        obtain ⟨A, B, C, E, rfl, rfl, hc, hA, hB, hL⟩ := splitL_eHandover hs hy φ P L1 L2 Q (slices_symMergeCmpFunc_eHandover_j56 φ (P ++ L1 ++ L2 ++ Q) (a : Int) (m : Int) (b : Int) y (slices_symMergeCmpFunc_eHandover φ)) hD1 hD2 hS1 hS2 a m b mid s0 r0 ha hm hb hmid (by omega) (by omega) (by omega) (by omega) hk
        rw [hL]
        simp only [List.length_append] at hm hb hl hφ hp1 hp2 q1 q2
        have hcm : mid = a + A.length + C.length := by omega
        have hend : W (((mid + m : Nat) : Int) - ((a + A.length : Nat) : Int)) = ((m + C.length : Nat) : Int) := by rw [W_id (by omega) (by omega)]; omega
        have step1 : slices_symMergeCmpFunc_eHandover_j56 φ (P ++ (A ++ B) ++ (C ++ E) ++ Q) (a : Int) (m : Int) (b : Int) y (slices_symMergeCmpFunc_eHandover φ) ((a + A.length : Nat) : Int) =
            slices_symMergeCmpFunc_eHandover_j62 φ (a : Int) (m : Int) (b : Int) y (slices_symMergeCmpFunc_eHandover φ) ((a + A.length : Nat) : Int) (P ++ A ++ C ++ B ++ E ++ Q) := by
          unfold slices_symMergeCmpFunc_eHandover_j56
          rw [hW, hn, hend]
          by_cases hBC : B = [] ∨ C = []
          · rw [if_neg (by
              rcases hBC with rfl | rfl
              · simp at hm ⊢; omega
              · simp)]
            rcases hBC with rfl | rfl <;> simp
          · obtain ⟨hB0, hC0⟩ := not_or.1 hBC
            have b0 := List.length_pos_iff.2 hB0
            have c0 := List.length_pos_iff.2 hC0
            rw [if_pos (by simp; omega)]
            have := rotate_eHandover φ (P ++ A) B C (E ++ Q) y hB0 hC0 (by simp; omega) (by omega)
            have e1 : P ++ (A ++ B) ++ (C ++ E) ++ Q = P ++ A ++ B ++ C ++ (E ++ Q) := by simp
            have e2 : ((a + A.length : Nat) : Int) = ((P ++ A).length : Nat) := by simp; omega
            have e3 : (m : Int) = ((P ++ A).length : Nat) + (B.length : Int) := by simp; omega
            have e4 : ((m + C.length : Nat) : Int) = ((P ++ A).length : Nat) + (B.length : Int) + C.length := by simp; omega
            rw [e1]
            conv => lhs; rw [e4, e2]; arg 1; rw [e3]
            rw [this]
            simp [ha]
        rw [step1]
        have step2 : ∃ R1, Srt lt R1 ∧ Stb lt (A ++ C) R1 ∧ slices_symMergeCmpFunc_eHandover_j62 φ (a : Int) (m : Int) (b : Int) y (slices_symMergeCmpFunc_eHandover φ) ((a + A.length : Nat) : Int) (P ++ A ++ C ++ B ++ E ++ Q) =
            slices_symMergeCmpFunc_eHandover_j68 φ (a : Int) (m : Int) (b : Int) y (slices_symMergeCmpFunc_eHandover φ) ((a + A.length : Nat) : Int) (P ++ R1 ++ B ++ E ++ Q) := by
          unfold slices_symMergeCmpFunc_eHandover_j62
          rw [hW]
          by_cases hAC : A = [] ∨ C = []
          · refine ⟨A ++ C, ?_, Stb.refl _, ?_⟩
            · rcases hAC with rfl | rfl
              · simpa using hS2.parts.1
              · simpa using hS1.parts.1
            · rw [if_neg (by
                rcases hAC with rfl | rfl
                · simp
                · simp at hcm ⊢; omega)]
              simp
          · obtain ⟨hA0, hC0⟩ := not_or.1 hAC
            have a0 := List.length_pos_iff.2 hA0
            have c0 := List.length_pos_iff.2 hC0
            obtain ⟨R1, r1, r2, r3⟩ := ih P A C (B ++ E ++ Q) (fun z hz => hD1 z (by simp [hz])) (fun z hz => hD2 z (by simp [hz])) hS1.parts.1 hS2.parts.1 hA0 hC0 (by simp; omega) (by omega)
            refine ⟨R1, r1, r2, ?_⟩
            rw [if_pos (by simp; omega)]
            have e1 : P ++ A ++ C ++ B ++ E ++ Q = P ++ A ++ C ++ (B ++ E ++ Q) := by simp
            have e2 : ((a + A.length : Nat) : Int) = (P.length : Int) + A.length := by simp; omega
            have e3 : (mid : Int) = (P.length : Int) + A.length + C.length := by omega
            rw [e1]
            conv => lhs; arg 1; rw [e3, e2, ← ea]
            rw [r3]
            simp
        obtain ⟨R1, r1, r2, e2⟩ := step2
        rw [e2]
        have hR1 : R1.length = A.length + C.length := by rw [r2.len]; simp
        have step3 : ∃ R2, Srt lt R2 ∧ Stb lt (B ++ E) R2 ∧ slices_symMergeCmpFunc_eHandover_j68 φ (a : Int) (m : Int) (b : Int) y (slices_symMergeCmpFunc_eHandover φ) ((a + A.length : Nat) : Int) (P ++ R1 ++ B ++ E ++ Q) = some (P ++ (R1 ++ R2) ++ Q) := by
          unfold slices_symMergeCmpFunc_eHandover_j68
          rw [hW, hn, hend]
          by_cases hBE : B = [] ∨ E = []
          · refine ⟨B ++ E, ?_, Stb.refl _, ?_⟩
            · rcases hBE with rfl | rfl
              · simpa using hS2.parts.2.1
              · simpa using hS1.parts.2.1
            · rw [if_neg (by
                rcases hBE with rfl | rfl
                · simp at hm ⊢; omega
                · simp at hb ⊢; omega)]
              simp
          · obtain ⟨hB0, hE0⟩ := not_or.1 hBE
            have b0 := List.length_pos_iff.2 hB0
            have c0 := List.length_pos_iff.2 hE0
            obtain ⟨R2, p1, p2, p3⟩ := ih (P ++ R1) B E Q (fun z hz => hD1 z (by simp [hz])) (fun z hz => hD2 z (by simp [hz])) hS1.parts.2.1 hS2.parts.2.1 hB0 hE0 (by simp; omega) (by simp; omega)
            refine ⟨R2, p1, p2, ?_⟩
            rw [if_pos (by simp; omega)]
            have e1 : (mid : Int) = ((P ++ R1).length : Nat) := by simp; omega
            have e3 : ((m + C.length : Nat) : Int) = ((P ++ R1).length : Nat) + (B.length : Int) := by simp; omega
            have e4 : (b : Int) = ((P ++ R1).length : Nat) + (B.length : Int) + E.length := by simp; omega
            conv => lhs; arg 1; rw [e4, e3, e1]
            rw [p3]
            simp
        obtain ⟨R2, p1, p2, e3⟩ := step3
        rw [e3]
        have hm' := merge_parts hs hS1 hS2 hA hB r1 r2 p1 p2
        exact ⟨R1 ++ R2, hm'.1, hm'.2, rfl⟩
end
end Px
end
section
namespace Px
open Go
set_option linter.unusedVariables false
set_option linter.unusedSimpArgs false
set_option maxHeartbeats 1000000
section
variable {D : Handover → Prop} {lt : Handover → Handover → Bool} {y : Handover → Handover → Option Int}
theorem ins_in_eHandover (hy : Cmp D y lt) (φ : Nat) (k : List Handover → Option (List Handover)) (P : List Handover) (x : Handover) (hx : D x) : ∀ (n : Nat) (S1 S2 : List Handover), (∀ z ∈ S1, D z) → P.length + S1.length + S2.length ≤ 1000000 → S1.length < n →
    ∃ A B, S1 = A ++ B ∧ (∀ z ∈ B, lt x z = true) ∧ (A = [] ∨ ∃ A' z, A = A' ++ [z] ∧ lt x z = false) ∧
      slices_insertionSortCmpFunc_eHandover_L14 φ (P.length : Int) y k n ((P.length : Int) + S1.length) (P ++ S1 ++ x :: S2) = k (P ++ A ++ x :: (B ++ S2)) := by
  intro n
  induction n with
  | zero => intro S1 S2 _ _ h; omega
  | succ n ih =>
    intro S1 S2 hD hl hn
    rcases List.eq_nil_or_concat S1 with rfl | ⟨S, z, rfl⟩
    · refine ⟨[], [], rfl, by simp, .inl rfl, ?_⟩
      have h0 : decide ((P.length : Int) < (P.length : Int) + (([] : List Handover).length : Int)) = false := by simp
      rw [slices_insertionSortCmpFunc_eHandover_L14, h0]
      simp [ck, gcall]
    · simp only [List.concat_eq_append] at hD hl hn ⊢
      simp only [List.length_append, List.length_cons, List.length_nil] at hl hn
      have e1 : P ++ (S ++ [z]) ++ x :: S2 = (P ++ S ++ [z]) ++ x :: S2 := by simp
      have e2 : P ++ (S ++ [z]) ++ x :: S2 = (P ++ S) ++ z :: (x :: S2) := by simp
      have g1 : gt (P ++ (S ++ [z]) ++ x :: S2) ((P.length : Int) + ((S ++ [z]).length : Int)) = x := by
        rw [e1]; exact gt_at (by simp <;> omega)
      have hw : W ((P.length : Int) + ((S ++ [z]).length : Int) - 1) = (P.length : Int) + S.length := by
        rw [W_id (by simp; omega) (by simp; omega)]; simp; omega
      have g2 : gt (P ++ (S ++ [z]) ++ x :: S2) ((P.length : Int) + (S.length : Int)) = z := by
        rw [e2]; exact gt_at (by simp)
      have h0 : decide ((P.length : Int) < (P.length : Int) + ((S ++ [z]).length : Int)) = true := by simp; omega
      have hlen : ((P ++ (S ++ [z]) ++ x :: S2).length : Int) = P.length + S.length + 1 + 1 + S2.length := by simp; omega
      obtain ⟨w, hw1, hw2⟩ := hy x z hx (hD z (by simp))
      have s1 : setAt (P ++ (S ++ [z]) ++ x :: S2) ((P.length : Int) + ((S ++ [z]).length : Int)) z = (P ++ S) ++ z :: (z :: S2) := by
        rw [e1, set_at (by simp <;> omega)]; simp
      have s2 : setAt ((P ++ S) ++ z :: (z :: S2)) ((P.length : Int) + (S.length : Int)) x = P ++ S ++ x :: (z :: S2) := set_at (by simp)
      rw [slices_insertionSortCmpFunc_eHandover_L14, hw, h0, g1, g2, hw1, hlen]
      rw [ck_pos (fun _ => ⟨by omega, by simp; omega⟩), ck_pos (fun _ => ⟨by omega, by omega⟩), gcall_y rfl]
      simp only [Option.bind_some, hw2, Bool.true_and]
      cases hlt : lt x z with
      | true =>
        rw [if_pos rfl, ck_pos ⟨by omega, by omega⟩, ck_pos ⟨by omega, by simp; omega⟩, s1]
        rw [ck_pos ⟨by omega, by simp; omega⟩, s2]
        obtain ⟨A, B, q1, q2, q3, q4⟩ := ih S (z :: S2) (fun u hu => hD u (by simp [hu])) (by simp; omega) (by omega)
        refine ⟨A, B ++ [z], by rw [q1]; simp, ?_, q3, ?_⟩
        · intro u hu
          rcases List.mem_append.1 hu with h | h
          · exact q2 u h
          · simp at h; rw [h]; exact hlt
        · rw [q4]; simp
      | false =>
        rw [if_neg (by simp)]
        exact ⟨S ++ [z], [], by simp, by simp, .inr ⟨S, z, rfl, hlt⟩, by simp⟩
theorem ins_out_eHandover (hs : Swo lt) (hy : Cmp D y lt) (φ : Nat) (P Q : List Handover) : ∀ (n : Nat) (S R : List Handover), S ≠ [] → Srt lt S → (∀ z ∈ S, D z) → (∀ z ∈ R, D z) → P.length + S.length + R.length + Q.length ≤ 1000000 → P.length + S.length + R.length < φ → R.length < n →
    ∃ S', Srt lt S' ∧ Stb lt (S ++ R) S' ∧ slices_insertionSortCmpFunc_eHandover_L8 φ (P.length : Int) ((P.length : Int) + S.length + R.length) y n ((P.length : Int) + S.length) (P ++ S ++ R ++ Q) = some (P ++ S' ++ Q) := by
  intro n
  induction n with
  | zero => intro S R _ _ _ _ _ _ h; omega
  | succ n ih =>
    intro S R hne hS hD hD' hl hφ hn
    cases R with
    | nil =>
      refine ⟨S, hS, by simpa using Stb.refl S, ?_⟩
      rw [slices_insertionSortCmpFunc_eHandover_L8, if_neg (by simp)]
      simp
    | cons x R =>
      simp only [List.length_cons] at hl hφ hn
      rw [slices_insertionSortCmpFunc_eHandover_L8, if_pos (by simp; omega)]
      obtain ⟨A, B, q1, q2, q3, q4⟩ := ins_in_eHandover hy φ (slices_insertionSortCmpFunc_eHandover_j11 φ ((P.length : Int) + S.length) (slices_insertionSortCmpFunc_eHandover_L8 φ (P.length : Int) ((P.length : Int) + S.length + (x :: R).length) y n)) P x (hD' x (by simp)) φ S (R ++ Q) hD (by simp; omega) (by omega)
      rw [show P ++ S ++ x :: R ++ Q = P ++ S ++ x :: (R ++ Q) by simp, q4]
      have hA : ∀ u ∈ A, lt x u = false := by
        rcases q3 with rfl | ⟨A', z, rfl, hz⟩
        · simp
        · intro u hu
          rcases List.mem_append.1 hu with h | h
          · subst q1
            have := (hS.parts.1).parts.2.2 u h z (by simp)
            exact hs.ntr _ _ _ hz this
          · simp at h; rw [h]; exact hz
      have hS2 : Srt lt (A ++ x :: B) := by
        subst q1
        refine hS.parts.1.app (List.pairwise_cons.2 ⟨fun u hu => hs.asym _ _ (q2 u hu), hS.parts.2.1⟩) fun u hu v hv => ?_
        rcases List.mem_cons.1 hv with h | h
        · subst h; exact hA u hu
        · exact hS.parts.2.2 u hu v h
      obtain ⟨S', p1, p2, p3⟩ := ih (A ++ x :: B) R (by simp) hS2 (fun z hz => by
        subst q1
        simp only [List.mem_append, List.mem_cons] at hz
        rcases hz with h | h | h
        · exact hD z (by simp [h])
        · subst h; exact hD' _ (by simp)
        · exact hD z (by simp [h])) (fun z hz => hD' z (by simp [hz])) (by subst q1; simp at hl ⊢; omega) (by subst q1; simp at hφ ⊢; omega) (by omega)
      refine ⟨S', p1, ?_, ?_⟩
      · have h1 : Stb lt (S ++ [x]) (A ++ [x] ++ B) := by subst q1; exact insert_stb hs q2
        have := h1.app (Stb.refl R)
        refine Stb.trans ?_ (Stb.trans this ?_)
        · simpa using Stb.refl (lt := lt) (S ++ x :: R)
        · simpa using p2
      · rw [← p3]
        unfold slices_insertionSortCmpFunc_eHandover_j11
        have e1 : W ((P.length : Int) + S.length + 1) = (P.length : Int) + S.length + 1 := W_id (by omega) (by omega)
        have hSl : S.length = A.length + B.length := by rw [q1]; simp
        have e2 : (P.length : Int) + S.length + 1 = P.length + (A ++ x :: B).length := by simp; omega
        have e3 : (P.length : Int) + S.length + (x :: R).length = P.length + (A ++ x :: B).length + R.length := by simp; omega
        have e4 : P ++ A ++ x :: (B ++ (R ++ Q)) = P ++ (A ++ x :: B) ++ R ++ Q := by simp
        rw [e1, e2, e3, e4]
theorem insertionSort_eHandover (hs : Swo lt) (hy : Cmp D y lt) (φ : Nat) (P X Q : List Handover) (hD : ∀ z ∈ X, D z) (hl : P.length + X.length + Q.length ≤ 1000000) (hφ : P.length + X.length < φ) :
    ∃ X', Srt lt X' ∧ Stb lt X X' ∧ slices_insertionSortCmpFunc_eHandover φ (P ++ X ++ Q) (P.length : Int) ((P.length : Int) + X.length) y = some (P ++ X' ++ Q) := by
  unfold slices_insertionSortCmpFunc_eHandover
  rw [W_id (x := (P.length : Int) + 1) (by omega) (by omega)]
  cases X with
  | nil =>
    refine ⟨[], List.Pairwise.nil, Stb.refl _, ?_⟩
    obtain ⟨n, rfl⟩ : ∃ n, φ = n + 1 := ⟨φ - 1, by omega⟩
    rw [slices_insertionSortCmpFunc_eHandover_L8, if_neg (by simp; omega)]
  | cons x R =>
    simp only [List.length_cons] at hl hφ
    obtain ⟨S', p1, p2, p3⟩ := ins_out_eHandover hs hy φ P Q φ [x] R (by simp) (List.pairwise_singleton _ _) (fun z hz => hD z (by simp at hz; simp [hz])) (fun z hz => hD z (by simp [hz])) (by simp; omega) (by simp; omega) (by omega)
    refine ⟨S', p1, by simpa using p2, ?_⟩
    rw [← p3]
    simp only [List.append_assoc, List.cons_append, List.length_cons, List.length_nil, List.nil_append]
    congr 1
    simp; omega
end
end Px
end
section
namespace Px
open Go
set_option linter.unusedVariables false
set_option linter.unusedSimpArgs false
set_option maxHeartbeats 4000000
section
variable {D : Handover → Prop} {lt : Handover → Handover → Bool} {y : Handover → Handover → Option Int}
theorem insBlocks_eHandover (hs : Swo lt) (hy : Cmp D y lt) (φ N : Nat) (k : Int → List Handover → Option (List Handover)) (hN : N ≤ 900000) (hφ : N < φ) :
    ∀ (n : Nat) (X Y : List Handover), (∀ z ∈ Y, D z) → X.length + Y.length = N → Y.length < n →
    ∃ Y1 Y2 Y1', Y = Y1 ++ Y2 ∧ Runs lt 20 (Y1' ++ []) ∧ Y2.length < 20 ∧ Stb lt Y1 Y1' ∧ (∀ T, Runs lt 20 T → Runs lt 20 (Y1' ++ T)) ∧
      slices_stableCmpFunc_eHandover_L38 φ (N : Int) y k n (X.length : Int) ((X.length : Int) + 20) (X ++ Y) = k ((X.length : Int) + Y1.length) (X ++ Y1' ++ Y2) := by
  intro n
  induction n with
  | zero => intro X Y _ _ h; omega
  | succ n ih =>
    intro X Y hD hl hn
    rw [slices_stableCmpFunc_eHandover_L38]
    by_cases h : Y.length < 20
    · refine ⟨[], Y, [], rfl, .last (by simp) List.Pairwise.nil, h, Stb.refl _, fun T hT => hT, ?_⟩
      rw [if_neg (by simp; omega)]
      simp
    · obtain ⟨B, Z, rfl, hB⟩ : ∃ B Z, Y = B ++ Z ∧ B.length = 20 := ⟨Y.take 20, Y.drop 20, (List.take_append_drop _ _).symm, by simp; omega⟩
      simp only [List.length_append] at hl hn h
      rw [if_pos (by simp; omega)]
      obtain ⟨B', b1, b2, b3⟩ := insertionSort_eHandover hs hy φ X B Z (fun z hz => hD z (by simp [hz])) (by omega) (by omega)
      rw [hB] at b3
      have e1 : X ++ (B ++ Z) = X ++ B ++ Z := by simp
      have e2 : ((20 : Nat) : Int) = 20 := rfl
      rw [e2] at b3
      rw [e1, b3]
      simp only [Option.bind_some]
      have hB' : B'.length = 20 := by rw [b2.len, hB]
      have w1 : W ((X.length : Int) + 20 + 20) = (X.length : Int) + 20 + 20 := W_id (by omega) (by omega)
      have e3 : (X.length : Int) + 20 = ((X ++ B').length : Nat) := by simp [hB']
      rw [w1]
      obtain ⟨Y1, Y2, Y1', q1, q2, q3, q4, q5, q6⟩ := ih (X ++ B') Z (fun z hz => hD z (by simp [hz])) (by simp; omega) (by omega)
      rw [← e3] at q6
      refine ⟨B ++ Y1, Y2, B' ++ Y1', by rw [q1]; simp, ?_, q3, b2.app q4, fun T hT => ?_, ?_⟩
      · rw [List.append_assoc]; exact .cons hB' b1 q2
      · rw [List.append_assoc]; exact .cons hB' b1 (q5 T hT)
      · rw [q6]
        have e4 : (X.length : Int) + 20 + Y1.length = (X.length : Int) + ((B ++ Y1).length : Nat) := by simp; omega
        rw [e4]
        simp
theorem pass_eHandover (hs : Swo lt) (hy : Cmp D y lt) (φ N bs : Nat) (k : Int → List Handover → Option (List Handover)) (hN : N ≤ 900000) (hφ : 2 * N + 3 < φ) (hb0 : 0 < bs) (hb : bs ≤ 900000) :
    ∀ (n : Nat) (X Y : List Handover), (∀ z ∈ Y, D z) → Runs lt bs Y → X.length + Y.length = N → Y.length < n →
    ∃ Y', Runs lt (bs * 2) Y' ∧ Stb lt Y Y' ∧ slices_stableCmpFunc_eHandover_L29 φ (N : Int) y (bs : Int) (slices_stableCmpFunc_eHandover_j18 φ (N : Int) y (bs : Int) k) n (X.length : Int) ((X.length : Int) + 2 * bs) (X ++ Y) = k ((bs * 2 : Nat) : Int) (X ++ Y') := by
  intro n
  induction n with
  | zero => intro X Y _ _ _ h; omega
  | succ n ih =>
    intro X Y hD hR hl hn
    have w1 : W ((X.length : Int) + bs) = (X.length : Int) + bs := W_id (by omega) (by omega)
    have w2 : W ((bs : Int) * 2) = ((bs * 2 : Nat) : Int) := by rw [W_id (by omega) (by omega)]; simp
    have w3 : W (2 * (bs : Int)) = 2 * (bs : Int) := W_id (by omega) (by omega)
    have w4 : W ((X.length : Int) + 2 * bs + 2 * bs) = (X.length : Int) + 2 * bs + 2 * bs := W_id (by omega) (by omega)
    rw [slices_stableCmpFunc_eHandover_L29, w1, w3, w4]
    by_cases h : 2 * bs ≤ Y.length
    · rw [if_pos (by simp; omega)]
      obtain ⟨B1, r, rfl, h1, s1, hr, hne⟩ := hR.big (by omega)
      simp only [List.length_append] at hl hn h
      obtain ⟨B2, Z, rfl, h2, s2, hZ⟩ : ∃ B2 Z, r = B2 ++ Z ∧ B2.length = bs ∧ Srt lt B2 ∧ Runs lt bs Z := by
        by_cases q : r.length = bs
        · exact ⟨r, [], by simp, q, hr.small (by omega), .last (by simp) List.Pairwise.nil⟩
        · obtain ⟨b, r', e, q1, q2, q3, _⟩ := hr.big (by omega)
          exact ⟨b, r', e, q1, q2, q3⟩
      simp only [List.length_append] at hl hn h
      obtain ⟨R, r1, r2, r3⟩ := symMerge_eHandover hs hy φ X B1 B2 Z (fun z hz => hD z (by simp [hz])) (fun z hz => hD z (by simp [hz])) s1 s2 (by intro e; subst e; simp at h1; omega) (by intro e; subst e; simp at h2; omega) (by omega) (by omega)
      have hRl : R.length = 2 * bs := by rw [r2.len]; simp; omega
      have e1 : X ++ (B1 ++ (B2 ++ Z)) = X ++ B1 ++ B2 ++ Z := by simp
      have e2 : (X.length : Int) + bs = (X.length : Int) + B1.length := by omega
      have e3 : (X.length : Int) + 2 * bs = (X.length : Int) + B1.length + B2.length := by omega
      have e4 : (X.length : Int) + 2 * bs = ((X ++ R).length : Nat) := by simp; omega
      obtain ⟨Y', p1, p2, p3⟩ := ih (X ++ R) Z (fun z hz => hD z (by simp [hz])) hZ (by simp; omega) (by omega)
      refine ⟨R ++ Y', .cons (by omega) r1 p1, ?_, ?_⟩
      · have := r2.app p2
        simpa using this
      · rw [e1]
        conv => lhs; arg 1; rw [e2, e3]
        rw [r3]
        simp only [Option.bind_some]
        rw [e4, p3]
        simp
    · rw [if_neg (by simp; omega)]
      unfold slices_stableCmpFunc_eHandover_j18 slices_stableCmpFunc_eHandover_j20
      rw [w1, w2]
      by_cases q : bs < Y.length
      · rw [if_pos (by simp; omega)]
        obtain ⟨B1, B2, rfl, h1, s1, hr, hne⟩ := hR.big q
        simp only [List.length_append] at hl hn h
        obtain ⟨R, r1, r2, r3⟩ := symMerge_eHandover hs hy φ X B1 B2 [] (fun z hz => hD z (by simp [hz])) (fun z hz => hD z (by simp [hz])) s1 (hr.small (by omega)) (by intro e; subst e; simp at h1; omega) hne (by simp; omega) (by omega)
        have e1 : X ++ (B1 ++ B2) = X ++ B1 ++ B2 ++ [] := by simp
        have e2 : (X.length : Int) + bs = (X.length : Int) + B1.length := by omega
        have e3 : (N : Int) = (X.length : Int) + B1.length + B2.length := by omega
        refine ⟨R, .last (by rw [r2.len]; simp; omega) r1, r2, ?_⟩
        rw [e1, e2, e3, r3]
        simp
      · rw [if_neg (by simp; omega)]
        exact ⟨Y, .last (by omega) (hR.small (by omega)), Stb.refl _, rfl⟩
theorem passes_eHandover (hs : Swo lt) (hy : Cmp D y lt) (φ N : Nat) (hN : N ≤ 400000) (hφ : 2 * N + 3 < φ) :
    ∀ (n bs : Nat) (Y : List Handover), (∀ z ∈ Y, D z) → Runs lt bs Y → Y.length = N → 0 < bs → bs ≤ 900000 → N - bs < n →
    ∃ Y', Srt lt Y' ∧ Stb lt Y Y' ∧ slices_stableCmpFunc_eHandover_L14 φ (N : Int) y n (bs : Int) Y = some Y' := by
  intro n
  induction n with
  | zero => intro bs Y _ _ _ _ _ h; omega
  | succ n ih =>
    intro bs Y hD hR hl hb0 hb hn
    rw [slices_stableCmpFunc_eHandover_L14]
    by_cases h : bs < N
    · rw [if_pos (by simp; omega), W_id (x := 2 * (bs : Int)) (by omega) (by omega)]
      obtain ⟨Y', p1, p2, p3⟩ := pass_eHandover hs hy φ N bs (slices_stableCmpFunc_eHandover_L14 φ (N : Int) y n) (by omega) hφ hb0 hb φ [] Y hD hR (by simpa using hl) (by omega)
      obtain ⟨Y'', q1, q2, q3⟩ := ih (bs * 2) Y' (fun z hz => hD z (p2.mem.1 hz)) p1 (by rw [p2.len, hl]) (by omega) (by omega) (by omega)
      refine ⟨Y'', q1, p2.trans q2, ?_⟩
      rw [← q3]
      simpa using p3
    · rw [if_neg (by simp; omega)]
      exact ⟨Y, hR.small (by omega), Stb.refl _, rfl⟩
/-- The stable sort sorts, and keeps the order of equal elements. -/
theorem sortStable_eHandover (hs : Swo lt) (hy : Cmp D y lt) (φ : Nat) (v : List Handover) (hD : ∀ z ∈ v, D z) (hN : v.length ≤ 400000) (hφ : 2 * v.length + 3 < φ) :
    ∃ r, Srt lt r ∧ Stb lt v r ∧ slices_SortStableFunc_eHandover φ v y = some r := by
  unfold slices_SortStableFunc_eHandover slices_stableCmpFunc_eHandover
  obtain ⟨Y1, Y2, Y1', q1, q2, q3, q4, q5, q6⟩ := insBlocks_eHandover hs hy φ v.length (slices_stableCmpFunc_eHandover_j7 φ (v.length : Int) y) (by omega) (by omega) φ [] v hD (by simp) (by omega)
  have q6' : slices_stableCmpFunc_eHandover_L38 φ (v.length : Int) y (slices_stableCmpFunc_eHandover_j7 φ (v.length : Int) y) φ 0 20 v = slices_stableCmpFunc_eHandover_j7 φ (v.length : Int) y (Y1.length : Int) (Y1' ++ Y2) := by simpa using q6
  rw [q6']
  unfold slices_stableCmpFunc_eHandover_j7
  have hl : v.length = Y1.length + Y2.length := by rw [q1]; simp
  have hl1 : Y1'.length = Y1.length := q4.len
  obtain ⟨Y2', p1, p2, p3⟩ := insertionSort_eHandover hs hy φ Y1' Y2 [] (fun z hz => hD z (by rw [q1]; simp [hz])) (by simp; omega) (by omega)
  simp only [List.append_nil] at p3
  have e1 : (Y1.length : Int) = Y1'.length := by omega
  have e2 : (v.length : Int) = (Y1'.length : Int) + Y2.length := by omega
  have p3' : slices_insertionSortCmpFunc_eHandover φ (Y1' ++ Y2) (Y1.length : Int) (v.length : Int) y = some (Y1' ++ Y2') := by rw [e1, e2]; exact p3
  have hst : Stb lt v (Y1' ++ Y2') := by rw [q1]; exact q4.app p2
  obtain ⟨r, r1, r2, r3⟩ := passes_eHandover hs hy φ v.length hN hφ φ 20 (Y1' ++ Y2') (fun z hz => hD z (hst.mem.1 hz)) (q5 _ (.last (by rw [p2.len]; omega) p1)) hst.len (by omega) (by omega) (by omega)
  refine ⟨r, r1, hst.trans r2, ?_⟩
  rw [p3']
  simp only [Option.bind_some]
  have r3' : slices_stableCmpFunc_eHandover_L14 φ (v.length : Int) y φ 20 (Y1' ++ Y2') = some r := r3
  rw [r3']
  rfl
end
end Px
end
section
namespace Px
open Go
set_option linter.unusedVariables false
set_option linter.unusedSimpArgs false
/-- What is known of the pairs: each is a delivery and a receipt that fit; no receipt, no delivery twice; used tells the receipts. -/
structure PInv (p : Pool) (l : List Report) (rs done : List Int) (st : List (Int × Bool) × List (Nat → Int)) : Prop where
  pr : ∀ x ∈ st.2, ∃ d k, x = ofL [d, k] ∧ d ∈ done ∧ k ∈ rs ∧ properB p (gt l d) = true ∧ unfit l [] d k = false
  used : ∀ k, (mget st.1 k).getD false = true ↔ ∃ x ∈ st.2, x 1 = k
  nd : (st.2.map fun x => x 1).Nodup
  sub : (st.2.map fun x => x 0).Sublist done
theorem mget_mset {κ ν : Type} [BEq κ] [LawfulBEq κ] (m : List (κ × ν)) (k j : κ) (v : ν) : mget (mset m k v) j = if j == k then some v else mget m j := by
  induction m with
  | nil => simp [mset, mget]
  | cons a m ih =>
    obtain ⟨a, b⟩ := a
    simp only [mset]
    cases h : (k == a) with
    | true =>
      have := eq_of_beq h; subst this
      simp only [cond_true, mget]
      cases j == k <;> simp
    | false =>
      simp only [cond_false, mget, ih]
      cases h2 : (j == a) with
      | false => simp
      | true =>
        have := eq_of_beq h2; subst this
        have : (j == k) = false := by
          cases e : (j == k) with
          | false => rfl
          | true => rw [eq_of_beq e] at h; simp at h
        simp [this]
theorem unfit_nil {l : List Report} {used : List (Int × Bool)} {i k : Int} (h : unfit l used i k = false) : unfit l [] i k = false ∧ (mget used k).getD false = false := by
  simp only [unfit, unf5, bool_or_false] at h ⊢
  exact ⟨⟨⟨⟨⟨⟨rfl, h.1.1.1.1.2⟩, h.1.1.1.2⟩, h.1.1.2⟩, h.1.2⟩, h.2⟩, h.1.1.1.1.1⟩
theorem bestOf_spec (l : List Report) (used : List (Int × Bool)) (i : Int) : ∀ (rs : List Int) (b : Int), (0 ≤ rs.foldl (bstep l used i) b) → (rs.foldl (bstep l used i) b = b ∨ rs.foldl (bstep l used i) b ∈ rs ∧ unfit l used i (rs.foldl (bstep l used i) b) = false) := by
  intro rs
  induction rs with
  | nil => intro b _; exact .inl rfl
  | cons k rs ih =>
    intro b h
    simp only [List.foldl_cons] at h ⊢
    rcases ih _ h with e | ⟨e1, e2⟩
    · rw [e]
      unfold bstep
      split
      · exact .inl rfl
      · rename_i hu
        split
        · exact .inl rfl
        · exact .inr ⟨List.mem_cons_self, by simpa using hu⟩
    · exact .inr ⟨List.mem_cons_of_mem _ e1, e2⟩
theorem pinv_step {p : Pool} {l : List Report} {rs done : List Int} {st : List (Int × Bool) × List (Nat → Int)} (h : PInv p l rs done st) (d : Int) : PInv p l rs (done ++ [d]) (pstep p l rs st d) := by
  have keep : PInv p l rs (done ++ [d]) st := ⟨fun x hx => by
      obtain ⟨a, k, h1, h2, h3⟩ := h.pr x hx
      exact ⟨a, k, h1, by simp [h2], h3⟩, h.used, h.nd, h.sub.trans (List.sublist_append_left _ _)⟩
  unfold pstep
  split
  · exact keep
  · rename_i hp
    split
    · rename_i hb
      rcases bestOf_spec l st.1 d rs (-1) hb with e | ⟨e1, e2⟩
      · have : bestOf l st.1 d rs = -1 := e
        omega
      · have hm : bestOf l st.1 d rs ∈ rs := e1
        obtain ⟨u1, u2⟩ := unfit_nil (show unfit l st.1 d (bestOf l st.1 d rs) = false from e2)
        generalize bestOf l st.1 d rs = b at *
        refine ⟨fun x hx => ?_, fun k => ?_, ?_, ?_⟩
        · rcases List.mem_append.1 hx with hx | hx
          · exact keep.pr x hx
          · simp at hx; subst hx
            exact ⟨d, b, rfl, by simp, hm, by simpa using hp, u1⟩
        · simp only [mget_mset]
          by_cases q : k = b
          · subst q; simp; right; rfl
          · rw [if_neg (by simp [q]), h.used k]
            constructor
            · rintro ⟨x, hx, e⟩; exact ⟨x, by simp [hx], e⟩
            · rintro ⟨x, hx, e⟩
              rcases List.mem_append.1 hx with hx | hx
              · exact ⟨x, hx, e⟩
              · simp at hx; subst hx; exact absurd e.symm q
        · simp only [List.map_append, List.map_cons, List.map_nil]
          rw [List.nodup_append]
          refine ⟨h.nd, by simp, fun a ha c hc => ?_⟩
          simp at hc
          obtain ⟨x, hx, e⟩ := List.mem_map.1 ha
          intro e'
          have : (mget st.1 b).getD false = true := (h.used b).2 ⟨x, hx, by rw [e, e', hc]; rfl⟩
          rw [u2] at this; cases this
        · simp only [List.map_append, List.map_cons, List.map_nil]
          exact h.sub.append (List.Sublist.refl _)
    · exact keep
theorem pinv_fold {p : Pool} {l : List Report} {rs : List Int} : ∀ (ds done : List Int) (st : List (Int × Bool) × List (Nat → Int)), PInv p l rs done st → PInv p l rs (done ++ ds) (ds.foldl (pstep p l rs) st)
  | [], done, st, h => by simpa using h
  | d :: ds, done, st, h => by
    have := pinv_fold ds (done ++ [d]) _ (pinv_step h d)
    simpa using this
theorem pinv (p : Pool) (l : List Report) (rs ds : List Int) : PInv p l rs ds (ds.foldl (pstep p l rs) ([], [])) := by
  have := pinv_fold (p := p) (l := l) (rs := rs) ds [] ([], []) ⟨by simp, by simp [mget], by simp, by simp⟩
  simpa using this
end Px
end
section
namespace Px
open Go
set_option linter.unusedVariables false
set_option linter.unusedSimpArgs false
def mkH (l : List Report) (x : Nat → Int) : Handover :=
  Handover.mk (gt l (x 0)).fItem.fWagon (gt l (x 0)).fItem.fPlace (gt l (x 0)).fRef.fRailway (gt l (x 1)).fRef.fRailway (W ((W (((gt l (x 0)).fItem.fFrom) + ((gt l (x 1)).fItem.fFrom))).tdiv 2)) (max2 ((gt l (x 0)).fItem.fCode) ((gt l (x 1)).fItem.fCode)) (gt l (x 0)).fRef (gt l (x 1)).fRef
theorem Match_loop (φ : Nat) (l : List Report) (ps : List (Nat → Int)) (hl : ps.length ≤ 100000) (hp : ∀ x ∈ ps, (0 ≤ x 0 ∧ x 0 < (l.length : Int)) ∧ 0 ≤ x 1 ∧ x 1 < (l.length : Int)) (hφ : ps.length < φ) (k : List Handover → Option (List Handover)) :
    handover_Match_L19 φ l ps k φ 0 [] = k (ps.map (mkH l)) := by
  refine loop_up0 (handover_Match_L19 φ l ps k) ps.length (fun j s => s = (ps.take j).map (mkH l)) (fun o => o = k (ps.map (mkH l))) ?_ ?_ φ [] (by simp) hφ
  · intro n j s hj hs hk
    obtain ⟨h0, h1⟩ := hp _ (gt_mem (l := ps) (i := (j : Int)) (by omega) (by omega))
    have hsl : s.length ≤ j := by rw [hs]; simp; omega
    have w : W ((j : Int) + 1) = (j : Int) + 1 := W_id (by omega) (by omega)
    rw [handover_Match_L19, if_pos (by simp; omega), ck_pos ⟨by omega, by omega⟩, ck_pos h0, ck_pos h1]
    unfold handover_Match_j25
    rw [ck_pos (fits_small (by simp; omega) (by omega)), w]
    refine hk _ ?_
    rw [take_succ_gt ps j hj, List.map_append, ← hs]
    rfl
  · intro n s hs
    rw [List.take_length] at hs
    rw [handover_Match_L19, if_neg (by simp), hs]
theorem pairs_range {p : Pool} {l : List Report} {rs ds : List Int} (hr : ∀ z ∈ rs, 0 ≤ z ∧ z < (l.length : Int)) (hd : ∀ z ∈ ds, 0 ≤ z ∧ z < (l.length : Int)) :
    ∀ x ∈ pairsOf p l rs ds, (0 ≤ x 0 ∧ x 0 < (l.length : Int)) ∧ 0 ≤ x 1 ∧ x 1 < (l.length : Int) := by
  intro x hx
  obtain ⟨d, k, rfl, h1, h2, _⟩ := (pinv p l rs ds).pr x hx
  exact ⟨hd d h1, hr k h2⟩
theorem pairs_len (p : Pool) (l : List Report) (rs ds : List Int) : (pairsOf p l rs ds).length ≤ ds.length := by
  have := (pinv p l rs ds).sub.length_le
  simpa [pairsOf] using this
end Px
end
section
namespace Px
open Go
set_option linter.unusedVariables false
set_option linter.unusedSimpArgs false
def lastC (a : List Custody) : Custody := gt a ((a.length : Int) - 1)
def chainStep (w : Int) (a : List Custody) (h : Handover) : List Custody :=
  if (((h.fWagon == w) && (h.fFrom == (lastC a).fRailway)) && decide ((lastC a).fSpan.fFrom < h.fAt)) = true then a ++ [Custody.mk h.fTo (Span.mk h.fAt 0) h.fReceive] else a
def homeC (p : Pool) (w : Int) : Custody := Custody.mk (gt p.fNetwork.fPlaces ((gt p.fFleet.fWagons w).fHome)).fRailway (Span.mk 0 0) (Ref.mk 0 0)
def chainOf (c : Custody) (w : Int) (ms : List Handover) : List Custody := ms.foldl (chainStep w) [c]
theorem chainStep_len (w : Int) (a : List Custody) (h : Handover) : a.length ≤ (chainStep w a h).length ∧ (chainStep w a h).length ≤ a.length + 1 := by
  unfold chainStep; split <;> simp
theorem chain_loop (φ : Nat) (w : Int) (ms : List Handover) (c : Custody) (hl : ms.length ≤ 100000) (hφ : ms.length < φ) :
    handover_chain_L21 φ w ms (handover_chain_j17 φ) φ 0 [c] = some (chainOf c w ms) := by
  refine loop_up0 (handover_chain_L21 φ w ms (handover_chain_j17 φ)) ms.length (fun j s => s = (ms.take j).foldl (chainStep w) [c] ∧ 1 ≤ s.length ∧ s.length ≤ j + 1) (fun o => o = some (chainOf c w ms)) ?_ ?_ φ [c] ⟨by simp, by simp, by simp⟩ hφ
  · intro n j s hj ⟨hs, h1, h2⟩ hk
    have w1 : W ((j : Int) + 1) = (j : Int) + 1 := W_id (by omega) (by omega)
    have w2 : W ((s.length : Int) - 1) = (s.length : Int) - 1 := W_id (by omega) (by omega)
    have hnext : (ms.take (j + 1)).foldl (chainStep w) [c] = chainStep w s (gt ms (j : Int)) := by
      rw [take_succ_gt ms j hj, List.foldl_append, ← hs]; rfl
    have hle := chainStep_len w s (gt ms (j : Int))
    rw [handover_chain_L21, if_pos (by simp; omega), ck_pos ⟨by omega, by omega⟩, w2, ck_pos ⟨by omega, by omega⟩]
    have hlast : gt s ((s.length : Int) - 1) = lastC s := rfl
    rw [hlast]
    unfold handover_chain_j42
    rw [w1]
    split
    · rename_i h
      rw [ck_pos (fits_small (by simp; omega) (by omega))]
      refine hk _ ⟨?_, by simp, by simp; omega⟩
      rw [hnext]; unfold chainStep; rw [if_pos h]
    · rename_i h
      refine hk _ ⟨?_, h1, by omega⟩
      rw [hnext]; unfold chainStep; rw [if_neg h]
  · intro n s ⟨hs, _⟩
    rw [List.take_length] at hs
    rw [handover_chain_L21, if_neg (by simp), hs]
    rfl
theorem chain_eq (φ : Nat) (p : Pool) (l : List Report) (w : Int) (ms : List Handover) (hm : handover_Match φ p l = some ms) (hl : ms.length ≤ 100000) (hφ : ms.length < φ)
    (hw : 0 ≤ w ∧ w < (p.fFleet.fWagons.length : Int)) (hh : 0 ≤ (gt p.fFleet.fWagons w).fHome ∧ (gt p.fFleet.fWagons w).fHome < (p.fNetwork.fPlaces.length : Int)) :
    handover_chain φ p l w = some (chainOf (homeC p w) w ms) := by
  unfold handover_chain
  rw [ck_pos hw, ck_pos hh]
  simp only [Pool.eta', hm, Option.bind_some]
  exact chain_loop φ w ms _ hl hφ
/-- A chain: it begins with c, and goes on in time. -/
def Chn : List Custody → Prop := List.Pairwise fun a b => a.fSpan.fFrom < b.fSpan.fFrom
theorem lastC_app (a : List Custody) (x : Custody) : lastC (a ++ [x]) = x := by
  unfold lastC; exact gt_at (by simp)
theorem chain_inv (w : Int) : ∀ (ms : List Handover) (a : List Custody) (c : Custody), Chn (a ++ [c]) → Chn (ms.foldl (chainStep w) (a ++ [c]))
  | [], a, c, h => h
  | m :: ms, a, c, h => by
    simp only [List.foldl_cons]
    unfold chainStep
    rw [lastC_app]
    split
    · rename_i hh
      simp only [Bool.and_eq_true, decide_eq_true_eq] at hh
      refine chain_inv w ms (a ++ [c]) _ ?_
      refine List.pairwise_append.2 ⟨h, List.pairwise_singleton _ _, fun x hx y hy => ?_⟩
      simp at hy; subst hy
      rcases List.mem_append.1 hx with hx | hx
      · exact Int.lt_trans ((List.pairwise_append.1 h).2.2 x hx c (by simp)) hh.2
      · simp at hx; subst hx; exact hh.2
    · exact chain_inv w ms a c h
theorem check_eq (φ : Nat) (p : Pool) (w m e : Int) (hc : fleet_CheckPool φ p = some e) :
    handover_check φ p w m = some (if e ≠ 0 then e else if 0 ≤ w ∧ w < (p.fFleet.fWagons.length : Int) ∧ 0 ≤ m ∧ m ≤ 1073741824 then 0 else 1) := by
  unfold handover_check
  simp only [Pool.eta', hc, Option.bind_some]
  by_cases q : e = 0
  · subst q
    simp only [bne_self_eq_false, Bool.false_eq_true, if_false, ne_eq, not_true_eq_false]
    by_cases h : 0 ≤ w ∧ w < (p.fFleet.fWagons.length : Int) ∧ 0 ≤ m ∧ m ≤ 1073741824
    · rw [if_pos h, if_neg (by simp only [Bool.or_eq_true, decide_eq_true_eq]; omega)]
    · rw [if_neg h, if_pos (by simp only [Bool.or_eq_true, decide_eq_true_eq]; omega)]
  · rw [if_pos (by simp [q]), if_pos q]
/-- At looks back from the end. -/
theorem At_loop (φ : Nat) (m : Int) (c : List Custody) (hc : c.length ≤ 100000) : ∀ (n : Nat) (k : Nat), k < c.length → (∃ i : Nat, i ≤ k ∧ (gt c (i : Int)).fSpan.fFrom ≤ m) → k < n →
    ∃ i : Nat, i ≤ k ∧ (gt c (i : Int)).fSpan.fFrom ≤ m ∧ (∀ j : Nat, i < j → j ≤ k → m < (gt c (j : Int)).fSpan.fFrom) ∧ handover_At_L17 φ m c (handover_At_j14 φ c) n (k : Int) = some ((gt c (i : Int)).fRailway, 0) := by
  intro n
  induction n with
  | zero => intro k _ _ h; omega
  | succ n ih =>
    intro k hk hex hn
    rw [handover_At_L17, ck_pos ⟨by omega, by omega⟩]
    by_cases q : m < (gt c (k : Int)).fSpan.fFrom
    · rw [if_pos (by simpa using q)]
      obtain ⟨i, h1, h2⟩ := hex
      have hik : i ≠ k := by intro e; subst e; omega
      have w : W ((k : Int) - 1) = ((k - 1 : Nat) : Int) := by rw [W_id (by omega) (by omega)]; omega
      rw [w]
      obtain ⟨i', p1, p2, p3, p4⟩ := ih (k - 1) (by omega) ⟨i, by omega, h2⟩ (by omega)
      refine ⟨i', by omega, p2, fun j hj hj' => ?_, p4⟩
      by_cases e : j = k
      · subst e; exact q
      · exact p3 j hj (by omega)
    · rw [if_neg (by simpa using q)]
      refine ⟨k, Nat.le_refl _, by omega, fun j hj hj' => by omega, ?_⟩
      unfold handover_At_j14
      rw [ck_pos ⟨by omega, by omega⟩]
end Px
end
section
namespace Px
open Go
set_option linter.unusedVariables false
set_option linter.unusedSimpArgs false
def setTo (c : Custody) (t : Int) : Custody := Custody.mk c.fRailway (Span.mk c.fSpan.fFrom t) c.fRef
/-- The first i spans of a chain, the last one to until. -/
def spansN (c : List Custody) (u : Int) : Nat → List Custody
  | 0 => []
  | i + 1 => ((List.range i).map fun (j : Nat) => setTo (gt c (j : Int)) (gt c ((j : Int) + 1)).fSpan.fFrom) ++ [setTo (gt c (i : Int)) u]
theorem spansN_len (c : List Custody) (u : Int) (i : Nat) : (spansN c u i).length = i := by cases i <;> simp [spansN]
theorem spansN_next (c : List Custody) (u : Int) (i : Nat) : setAt (spansN c u (i + 1)) (i : Int) (setTo (gt (spansN c u (i + 1)) (i : Int)) (gt c ((i + 1 : Nat) : Int)).fSpan.fFrom) ++ [setTo (gt c ((i + 1 : Nat) : Int)) u] = spansN c u (i + 2) := by
  have e : spansN c u (i + 1) = ((List.range i).map fun (j : Nat) => setTo (gt c (j : Int)) (gt c ((j : Int) + 1)).fSpan.fFrom) ++ setTo (gt c (i : Int)) u :: [] := rfl
  rw [e, gt_at (by simp), set_at (by simp)]
  simp [spansN, List.range_succ, setTo]
theorem Spans_loop (φ : Nat) (u : Int) (c : List Custody) (hl : c.length ≤ 100000) (hφ : c.length < φ) :
    ∃ i : Nat, i ≤ c.length ∧ (∀ j : Nat, j < i → (gt c (j : Int)).fSpan.fFrom < u) ∧ (i < c.length → u ≤ (gt c (i : Int)).fSpan.fFrom) ∧
      handover_Spans_L19 φ u c (handover_Spans_j15 φ) φ 0 [] = some (spansN c u i, 0) := by
  refine loop_up0 (handover_Spans_L19 φ u c (handover_Spans_j15 φ)) c.length (fun j s => s = spansN c u j ∧ ∀ i : Nat, i < j → (gt c (i : Int)).fSpan.fFrom < u)
    (fun o => ∃ i : Nat, i ≤ c.length ∧ (∀ j : Nat, j < i → (gt c (j : Int)).fSpan.fFrom < u) ∧ (i < c.length → u ≤ (gt c (i : Int)).fSpan.fFrom) ∧ o = some (spansN c u i, 0)) ?_ ?_ φ [] ⟨rfl, by omega⟩ hφ
  · intro n j s hj ⟨hs, hlt⟩ hk
    have hsl : s.length = j := by rw [hs, spansN_len]
    have w1 : W ((j : Int) + 1) = (j : Int) + 1 := W_id (by omega) (by omega)
    have w2 : W ((s.length : Int) - 1) = (s.length : Int) - 1 := W_id (by omega) (by omega)
    rw [handover_Spans_L19, if_pos (by simp; omega), ck_pos ⟨by omega, by omega⟩, w2]
    by_cases q : u ≤ (gt c (j : Int)).fSpan.fFrom
    · rw [if_pos (by simpa using q)]
      exact ⟨j, by omega, hlt, fun _ => q, by rw [hs]; rfl⟩
    · rw [if_neg (by simpa using q)]
      have hlt' : ∀ i : Nat, i < j + 1 → (gt c (i : Int)).fSpan.fFrom < u := fun i hi => by
        by_cases e : i = j
        · subst e; omega
        · exact hlt i (by omega)
      unfold handover_Spans_j25
      rw [w1]
      cases j with
      | zero =>
        rw [if_neg (by simp [hsl])]
        have hs0 : s = [] := hs
        subst hs0
        rw [ck_pos (fits_small (by simp) (by omega))]
        exact hk _ ⟨rfl, hlt'⟩
      | succ j =>
        rw [if_pos (by simp [hsl]), ck_pos ⟨by omega, by omega⟩, ck_pos (fits_small (by simp [setAt_len]; omega) (by omega))]
        refine hk _ ⟨?_, hlt'⟩
        have e : (s.length : Int) - 1 = (j : Int) := by omega
        rw [e, hs]
        exact spansN_next c u j
  · intro n s ⟨hs, hlt⟩
    rw [handover_Spans_L19, if_neg (by simp)]
    exact ⟨c.length, Nat.le_refl _, hlt, fun h => absurd h (Nat.lt_irrefl _), by rw [hs]; rfl⟩
end Px
end
section
namespace Px
open Go
set_option linter.unusedVariables false
set_option linter.unusedSimpArgs false
def insS {α : Type} (lt : α → α → Bool) (x : α) : List α → List α
  | [] => [x]
  | y :: l => bif lt x y then x :: y :: l else y :: insS lt x l
def sortS {α : Type} (lt : α → α → Bool) (l : List α) : List α := l.foldl (fun a x => insS lt x a) []
section
variable {α : Type} {lt : α → α → Bool}
theorem insS_split (hs : Swo lt) (x : α) : ∀ (l : List α), Srt lt l → ∃ A B, l = A ++ B ∧ insS lt x l = A ++ [x] ++ B ∧ (∀ y ∈ A, lt x y = false) ∧ ∀ y ∈ B, lt x y = true
  | [], _ => ⟨[], [], rfl, rfl, by simp, by simp⟩
  | y :: l, h => by
    have h' := List.pairwise_cons.1 h
    unfold insS
    cases e : lt x y with
    | true =>
      refine ⟨[], y :: l, rfl, rfl, by simp, fun z hz => ?_⟩
      rcases List.mem_cons.1 hz with rfl | hz
      · exact e
      · cases e2 : lt x z with
        | true => rfl
        | false =>
          have := hs.ntr _ _ _ e2 (h'.1 z hz)
          rw [e] at this; cases this
    | false =>
      obtain ⟨A, B, h1, h2, h3, h4⟩ := insS_split hs x l h'.2
      refine ⟨y :: A, B, by rw [h1]; rfl, by simp [h2], fun z hz => ?_, h4⟩
      rcases List.mem_cons.1 hz with rfl | hz
      · exact e
      · exact h3 z hz
theorem insS_srt (hs : Swo lt) (x : α) {l : List α} (h : Srt lt l) : Srt lt (insS lt x l) := by
  obtain ⟨A, B, h1, h2, h3, h4⟩ := insS_split hs x l h
  rw [h2]; rw [h1] at h
  obtain ⟨a, b, c⟩ := h.parts
  refine Srt.app (Srt.app a (List.pairwise_singleton _ _) fun z hz y hy => ?_) b fun z hz y hy => ?_
  · simp at hy; subst hy; exact h3 z hz
  · rcases List.mem_append.1 hz with hz | hz
    · exact c z hz y hy
    · simp at hz; subst hz; exact hs.asym _ _ (h4 y hy)
theorem insS_stb (hs : Swo lt) (x : α) {l : List α} (h : Srt lt l) : Stb lt (l ++ [x]) (insS lt x l) := by
  obtain ⟨A, B, h1, h2, h3, h4⟩ := insS_split hs x l h
  rw [h2, h1]; exact insert_stb hs h4
theorem sortS_snoc (l : List α) (x : α) : sortS lt (l ++ [x]) = insS lt x (sortS lt l) := by
  simp [sortS, List.foldl_append]
theorem snoc_ind {P : List α → Prop} (h0 : P []) (h1 : ∀ l x, P l → P (l ++ [x])) (l : List α) : P l := by
  have : ∀ r : List α, P r.reverse := by
    intro r
    induction r with
    | nil => exact h0
    | cons x r ih => rw [List.reverse_cons]; exact h1 _ _ ih
  have h := this l.reverse
  rwa [List.reverse_reverse] at h
theorem sortS_spec (hs : Swo lt) (l : List α) : Srt lt (sortS lt l) ∧ Stb lt l (sortS lt l) := by
  induction l using snoc_ind with
  | h0 => exact ⟨List.Pairwise.nil, Stb.refl _⟩
  | h1 l x ih =>
    rw [sortS_snoc]
    exact ⟨insS_srt hs x ih.1, (ih.2.app (Stb.refl [x])).trans (insS_stb hs x ih.1)⟩
theorem sortS_eq (hs : Swo lt) {l r : List α} (h1 : Srt lt r) (h2 : Stb lt l r) : r = sortS lt l :=
  Srt.unique hs h1 (sortS_spec hs l).1 ⟨(sortS_spec hs l).2.1.trans h2.1.symm, fun a => ((sortS_spec hs l).2.2 a).trans (h2.2 a).symm⟩
theorem sortS_len (hs : Swo lt) (l : List α) : (sortS lt l).length = l.length := (sortS_spec hs l).2.len
end
theorem insS_mem {α : Type} {lt : α → α → Bool} {x y : α} : ∀ {l : List α}, y ∈ insS lt x l → y = x ∨ y ∈ l
  | [], h => by simp [insS] at h; exact .inl h
  | z :: l, h => by
    unfold insS at h
    cases e : lt x z with
    | true => rw [e] at h; simpa using h
    | false =>
      rw [e] at h
      rcases List.mem_cons.1 h with h | h
      · exact .inr (by simp [h])
      · rcases insS_mem h with h | h
        · exact .inl h
        · exact .inr (by simp [h])
theorem sortS_sub {α : Type} {lt : α → α → Bool} {y : α} (l : List α) : y ∈ sortS lt l → y ∈ l := by
  induction l using snoc_ind with
  | h0 => exact id
  | h1 l x ih =>
    rw [sortS_snoc]
    intro h
    rcases insS_mem h with h | h
    · simp [h]
    · simp [ih h]
end Px
end
section
namespace Px
open Go
set_option linter.unusedVariables false
set_option linter.unusedSimpArgs false
theorem ofInt_toNat {c : Int} (h : 0 ≤ c) (h' : c < 18446744073709551616) : (BitVec.ofInt 64 c).toNat = c.toNat := by
  rw [BitVec.toNat_ofInt]; omega
theorem U_nat {n : Nat} (h : n < 18446744073709551616) : U (n : Int) = n := U_id (by omega) (by omega)
theorem and_lt {a b : Nat} (h : a < 18446744073709551616) : a &&& b < 18446744073709551616 := Nat.lt_of_le_of_lt Nat.and_le_left h
theorem pow_lt64 {k : Nat} (h : k ≤ 63) : (2 ^ k : Nat) < 18446744073709551616 := Nat.lt_of_lt_of_le (Nat.pow_lt_pow_right (by decide) (by omega : k < 64)) (by decide)
theorem shr_eq {c k : Int} (h : 0 ≤ c) (hk : 0 ≤ k) (hk' : k ≤ 63) : c.fdiv (2 ^ (min (k : Int).toNat (IntKind.bits .u64))) = ((c.toNat / 2 ^ k.toNat : Nat) : Int) := by
  have e : min (k : Int).toNat (IntKind.bits .u64) = k.toNat := by simp [IntKind.bits]; omega
  rw [e]
  have e2 : ((2 : Int) ^ k.toNat) = ((2 ^ k.toNat : Nat) : Int) := by simp
  rw [e2, Int.fdiv_eq_ediv_of_nonneg _ (Int.natCast_nonneg _)]
  have : c = (c.toNat : Int) := by omega
  rw [this]; simp
end Px
end
section
namespace Px
open Go
set_option linter.unusedVariables false
set_option linter.unusedSimpArgs false
set_option maxRecDepth 100000
theorem lenTab_all : ((List.range 256).all fun i => decide (0 ≤ byteAt str_c0 i ∧ byteAt str_c0 i ≤ 8 ∧ i < 2 ^ (byteAt str_c0 i).toNat ∧ (0 < i → 0 < byteAt str_c0 i ∧ 2 ^ ((byteAt str_c0 i).toNat - 1) ≤ i))) = true := by decide +kernel
theorem lenTab_at {i : Int} (h : 0 ≤ i) (h' : i < 256) : ∃ n : Nat, byteAt str_c0 i = n ∧ n ≤ 8 ∧ i.toNat < 2 ^ n ∧ (0 < i → 0 < n ∧ 2 ^ (n - 1) ≤ i.toNat) := by
  have := List.all_eq_true.1 lenTab_all i.toNat (by simp; omega)
  rw [decide_eq_true_eq, show ((i.toNat : Nat) : Int) = i by omega] at this
  obtain ⟨a, b, c, d⟩ := this
  exact ⟨(byteAt str_c0 i).toNat, by omega, by omega, c, fun hi => ⟨by have := (d (by omega)).1; omega, (d (by omega)).2⟩⟩
/-- How many bits. -/
def IsLen (v : Nat) (n : Nat) : Prop := v < 2 ^ n ∧ (0 < v → 0 < n ∧ 2 ^ (n - 1) ≤ v)
theorem IsLen.up {v : Nat} (k : Nat) {n : Nat} (h : IsLen (v / 2 ^ k) n) (hv : 2 ^ k ≤ v) : IsLen v (n + k) := by
  have hp := Nat.two_pow_pos k
  have hpos : 0 < v / 2 ^ k := Nat.div_pos hv hp
  obtain ⟨h1, h2⟩ := h
  obtain ⟨h3, h4⟩ := h2 hpos
  refine ⟨?_, fun _ => ⟨by omega, ?_⟩⟩
  · rw [Nat.pow_add]; exact (Nat.div_lt_iff_lt_mul hp).1 h1
  · have : n + k - 1 = (n - 1) + k := by omega
    rw [this, Nat.pow_add]; exact (Nat.le_div_iff_mul_le hp).1 h4
theorem len_j10 (φ : Nat) (v w : Int) (h : 0 ≤ v) (h' : v < 256) (hw : 0 ≤ w) (hw' : w ≤ 64) : ∃ n : Nat, bits_Len64_j10 φ v w = some (w + n) ∧ n ≤ 8 ∧ IsLen v.toNat n := by
  obtain ⟨n, e, hn, a, b⟩ := lenTab_at h h'
  have e8 : IntKind.wrap .u8 v = v := by simp [IntKind.wrap, IntKind.bits, IntKind.signed]; omega
  refine ⟨n, ?_, hn, a, fun hv => b (by omega)⟩
  unfold bits_Len64_j10
  rw [e8, ck_pos ⟨h, h'⟩, e, W_id (x := (n : Int)) (by omega) (by omega), W_id (by omega) (by omega)]
theorem len_j7 (φ : Nat) (v w : Int) (h : 0 ≤ v) (h' : v < 65536) (hw : 0 ≤ w) (hw' : w ≤ 48) : ∃ n : Nat, bits_Len64_j7 φ v w = some (w + n) ∧ n ≤ 16 ∧ IsLen v.toNat n := by
  unfold bits_Len64_j7
  by_cases c : 256 ≤ v
  · rw [if_pos (by simpa using c), Int.fdiv_eq_ediv_of_nonneg _ (by omega), W_id (by omega) (by omega)]
    obtain ⟨n, e, hn, hl⟩ := len_j10 φ (v / 256) (w + 8) (by omega) (by omega) (by omega) (by omega)
    refine ⟨n + 8, by rw [e]; congr 1; omega, by omega, ?_⟩
    refine IsLen.up 8 ?_ (by omega)
    rwa [show v.toNat / 2 ^ 8 = (v / 256).toNat by omega]
  · rw [if_neg (by simpa using c)]
    obtain ⟨n, e, hn, hl⟩ := len_j10 φ v w h (by omega) (by omega) (by omega)
    exact ⟨n, e, by omega, hl⟩
theorem len_j4 (φ : Nat) (v w : Int) (h : 0 ≤ v) (h' : v < 4294967296) (hw : 0 ≤ w) (hw' : w ≤ 32) : ∃ n : Nat, bits_Len64_j4 φ v w = some (w + n) ∧ n ≤ 32 ∧ IsLen v.toNat n := by
  unfold bits_Len64_j4
  by_cases c : 65536 ≤ v
  · rw [if_pos (by simpa using c), Int.fdiv_eq_ediv_of_nonneg _ (by omega), W_id (by omega) (by omega)]
    obtain ⟨n, e, hn, hl⟩ := len_j7 φ (v / 65536) (w + 16) (by omega) (by omega) (by omega) (by omega)
    refine ⟨n + 16, by rw [e]; congr 1; omega, by omega, ?_⟩
    refine IsLen.up 16 ?_ (by omega)
    rwa [show v.toNat / 2 ^ 16 = (v / 65536).toNat by omega]
  · rw [if_neg (by simpa using c)]
    obtain ⟨n, e, hn, hl⟩ := len_j7 φ v w h (by omega) (by omega) (by omega)
    exact ⟨n, e, by omega, hl⟩
theorem Len64_eq (φ : Nat) (v : Int) (h : 0 ≤ v) (h' : v < 18446744073709551616) : ∃ n : Nat, bits_Len64 φ v = some (n : Int) ∧ n ≤ 64 ∧ IsLen v.toNat n := by
  unfold bits_Len64
  by_cases c : 4294967296 ≤ v
  · rw [if_pos (by simpa using c), Int.fdiv_eq_ediv_of_nonneg _ (by omega)]
    obtain ⟨n, e, hn, hl⟩ := len_j4 φ (v / 4294967296) 32 (by omega) (by omega) (by omega) (by omega)
    refine ⟨n + 32, by rw [e]; congr 1; omega, by omega, ?_⟩
    refine IsLen.up 32 ?_ (by omega)
    rwa [show v.toNat / 2 ^ 32 = (v / 4294967296).toNat by omega]
  · rw [if_neg (by simpa using c)]
    obtain ⟨n, e, hn, hl⟩ := len_j4 φ v 0 h (by omega) (by omega) (by omega)
    exact ⟨n, by rw [e]; simp, by omega, hl⟩
theorem mask_eq {v : Int} (h : 0 ≤ v) (h' : v < 18446744073709551616) : U ((BitVec.ofInt (IntKind.bits .u64) v &&& BitVec.ofInt (IntKind.bits .u64) 4294967295).toNat) = v % 4294967296 := by
  show U ((BitVec.ofInt 64 v &&& BitVec.ofInt 64 4294967295).toNat : Int) = _
  rw [BitVec.toNat_and, ofInt_toNat h h', ofInt_toNat (by omega) (by omega), U_nat (and_lt (by omega))]
  have : (4294967295 : Int).toNat = 2 ^ 32 - 1 := by decide
  rw [this, Nat.and_two_pow_sub_one_eq_mod]
  omega
theorem mul_bd {a b m n : Int} (ha : 0 ≤ a) (hb : 0 ≤ b) (h : a ≤ m) (h' : b ≤ n) : 0 ≤ a * b ∧ a * b ≤ m * n :=
  ⟨Int.mul_nonneg ha hb, Int.mul_le_mul h h' hb (by omega)⟩
theorem Mul64_eq (φ : Nat) (x y : Int) (hx : 0 ≤ x) (hx' : x < 18446744073709551616) (hy : 0 ≤ y) (hy' : y < 18446744073709551616) :
    bits_Mul64 φ x y = some (x * y / 18446744073709551616, x * y % 18446744073709551616) := by
  unfold bits_Mul64
  rw [mask_eq hx hx', mask_eq hy hy', Int.fdiv_eq_ediv_of_nonneg _ (by omega), Int.fdiv_eq_ediv_of_nonneg _ (by omega)]
  have ex : x = x / 4294967296 * 4294967296 + x % 4294967296 := by omega
  have ey : y = y / 4294967296 * 4294967296 + y % 4294967296 := by omega
  have a1 : 0 ≤ x / 4294967296 ∧ x / 4294967296 ≤ 4294967295 := by omega
  have a0 : 0 ≤ x % 4294967296 ∧ x % 4294967296 ≤ 4294967295 := by omega
  have b1 : 0 ≤ y / 4294967296 ∧ y / 4294967296 ≤ 4294967295 := by omega
  have b0 : 0 ≤ y % 4294967296 ∧ y % 4294967296 ≤ 4294967295 := by omega
  have hxy : x * y = (x / 4294967296) * (y / 4294967296) * 18446744073709551616 + ((x / 4294967296) * (y % 4294967296) + (x % 4294967296) * (y / 4294967296)) * 4294967296 + (x % 4294967296) * (y % 4294967296) := by
    conv => lhs; rw [ex, ey]
    generalize x / 4294967296 = a; generalize x % 4294967296 = b; generalize y / 4294967296 = c; generalize y % 4294967296 = d
    rw [Int.add_mul, Int.mul_add, Int.mul_add, Int.add_mul]
    have e1 : a * 4294967296 * (c * 4294967296) = a * c * 18446744073709551616 := by
      rw [Int.mul_assoc, Int.mul_left_comm 4294967296 c, ← Int.mul_assoc]; rfl
    have e2 : a * 4294967296 * d = a * d * 4294967296 := by rw [Int.mul_right_comm]
    have e3 : b * (c * 4294967296) = b * c * 4294967296 := by rw [Int.mul_assoc]
    rw [e1, e2, e3]; omega
  have p11 := mul_bd a1.1 b1.1 a1.2 b1.2
  have p10 := mul_bd a1.1 b0.1 a1.2 b0.2
  have p01 := mul_bd a0.1 b1.1 a0.2 b1.2
  have p00 := mul_bd a0.1 b0.1 a0.2 b0.2
  rw [U_def (x * y), hxy]
  generalize (x / 4294967296) * (y / 4294967296) = p at *; generalize (x / 4294967296) * (y % 4294967296) = q at *
  generalize (x % 4294967296) * (y / 4294967296) = r at *; generalize (x % 4294967296) * (y % 4294967296) = s at *
  clear hxy ex ey a1 a0 b1 b0
  rw [U_id (x := p) (by omega) (by omega), U_id (x := q) (by omega) (by omega), U_id (x := r) (by omega) (by omega), U_id (x := s) (by omega) (by omega)]
  rw [Int.fdiv_eq_ediv_of_nonneg s (by omega), U_id (x := q + s / 4294967296) (by omega) (by omega), mask_eq (by omega) (by omega), Int.fdiv_eq_ediv_of_nonneg (q + s / 4294967296) (by omega),
    U_id (x := (q + s / 4294967296) % 4294967296 + r) (by omega) (by omega), Int.fdiv_eq_ediv_of_nonneg ((q + s / 4294967296) % 4294967296 + r) (by omega),
    U_id (x := p + (q + s / 4294967296) / 4294967296) (by omega) (by omega), U_id (by omega) (by omega)]
  congr 2
  omega
/-- One digit of the quotient: what the two loops find. -/
theorem digit {yn1 yn0 u d q r : Int} (h1 : 2147483648 ≤ yn1) (h1' : yn1 < 4294967296) (h0 : 0 ≤ yn0) (h0' : yn0 < 4294967296) (hd : 0 ≤ d) (hd' : d < 4294967296) (hu : 0 ≤ u)
    (hu' : u < yn1 * 4294967296 + yn0) (hqr : q * yn1 + r = u) (hr : 0 ≤ r) (hr' : r < 4294967296) (hq : (u * 4294967296 + d) / (yn1 * 4294967296 + yn0) ≤ q) :
    0 ≤ q ∧ q ≤ 4294967297 ∧ 0 ≤ (u * 4294967296 + d) / (yn1 * 4294967296 + yn0) ∧ (u * 4294967296 + d) / (yn1 * 4294967296 + yn0) < 4294967296 ∧
    (4294967296 ≤ q ∨ 4294967296 * r + d < q * yn0 → (u * 4294967296 + d) / (yn1 * 4294967296 + yn0) ≤ q - 1) ∧
    (¬ (4294967296 ≤ q ∨ 4294967296 * r + d < q * yn0) → q = (u * 4294967296 + d) / (yn1 * 4294967296 + yn0)) ∧
    (4294967296 ≤ q ∨ 4294967296 * r + d < q * yn0 → 4294967296 ≤ r + yn1 → q - 1 = (u * 4294967296 + d) / (yn1 * 4294967296 + yn0)) := by
  have hY : 0 < yn1 * 4294967296 + yn0 := by omega
  have hQ0 : 0 ≤ (u * 4294967296 + d) / (yn1 * 4294967296 + yn0) := Int.ediv_nonneg (by omega) (by omega)
  have hQ1 : (u * 4294967296 + d) / (yn1 * 4294967296 + yn0) < 4294967296 := Int.ediv_lt_of_lt_mul hY (by omega)
  have hq0 : 0 ≤ q := by omega
  have key : q * (yn1 * 4294967296 + yn0) = (u - r) * 4294967296 + q * yn0 := by
    rw [Int.mul_add, ← Int.mul_assoc, ← hqr]; omega
  have hq2 : q ≤ 4294967297 := by
    rcases Int.lt_or_le 4294967297 q with h | h
    · have : 4294967298 * yn1 ≤ q * yn1 := Int.mul_le_mul_of_nonneg_right (by omega) (by omega)
      omega
    · exact h
  have lt_of : ∀ {z : Int}, (u * 4294967296 + d) / (yn1 * 4294967296 + yn0) < z ↔ u * 4294967296 + d < z * (yn1 * 4294967296 + yn0) := fun {z} => Int.ediv_lt_iff_lt_mul hY
  refine ⟨hq0, hq2, hQ0, hQ1, fun h => ?_, fun h => ?_, fun h hr2 => ?_⟩
  · have : (u * 4294967296 + d) / (yn1 * 4294967296 + yn0) < q := by
      rcases h with h | h
      · omega
      · rw [lt_of, key]; omega
    omega
  · have : ¬ (u * 4294967296 + d) / (yn1 * 4294967296 + yn0) < q := by rw [lt_of, key]; omega
    omega
  · have hq1 : (u * 4294967296 + d) / (yn1 * 4294967296 + yn0) < q := by
      rcases h with h | h
      · omega
      · rw [lt_of, key]; omega
    have h2 : ¬ (u * 4294967296 + d) / (yn1 * 4294967296 + yn0) < q - 1 := by
      rw [lt_of]
      have e : (q - 1) * (yn1 * 4294967296 + yn0) = (u - (r + yn1)) * 4294967296 + (q - 1) * yn0 := by
        have : (q - 1) * yn1 + (r + yn1) = u := by rw [Int.sub_mul]; omega
        rw [Int.mul_add, ← Int.mul_assoc, ← this]; omega
      have b := (mul_bd (by omega : 0 ≤ q - 1) h0 (by omega : q - 1 ≤ 4294967296) (by omega : yn0 ≤ 4294967295)).2
      rw [e]; omega
    omega
theorem mulB {a b : Int} (h : 0 ≤ a) (h' : a < 4294967296) (g : 0 ≤ b) (g' : b < 4294967296) : 0 ≤ a * b ∧ a * b ≤ 18446744065119617025 :=
  mul_bd h g (by omega : a ≤ 4294967295) (by omega : b ≤ 4294967295)
theorem digit_loop {ρ : Type} (L : Nat → Int → Int → Option ρ) (k : Int → Option ρ) {yn1 yn0 u d : Int} (h1 : 2147483648 ≤ yn1) (h1' : yn1 < 4294967296) (h0 : 0 ≤ yn0) (h0' : yn0 < 4294967296) (hd : 0 ≤ d) (hd' : d < 4294967296) (hu : 0 ≤ u)
    (hu' : u < yn1 * 4294967296 + yn0)
    (step : ∀ n q r, L (n + 1) q r = if (decide (4294967296 ≤ q) || decide (U (U (4294967296 * r) + d) < U (q * yn0))) = true then (if decide (4294967296 ≤ U (r + yn1)) = true then k (U (q - 1)) else L n (U (q - 1)) (U (r + yn1))) else k q) :
    ∀ (n : Nat) q r, q * yn1 + r = u → 0 ≤ r → r < 4294967296 → (u * 4294967296 + d) / (yn1 * 4294967296 + yn0) ≤ q → 4294967296 - r ≤ 2147483648 * n → L (n + 1) q r = k ((u * 4294967296 + d) / (yn1 * 4294967296 + yn0)) := by
  intro n
  induction n with
  | zero => intro q r _ _ _ _ h; omega
  | succ n ih =>
    intro q r hqr hr hr' hq hn
    obtain ⟨g0, g1, g2, g3, g4, g5, g6⟩ := digit h1 h1' h0 h0' hd hd' hu hu' hqr hr hr' hq
    have hc : (decide (4294967296 ≤ q) || decide (U (U (4294967296 * r) + d) < U (q * yn0))) = true ↔ (4294967296 ≤ q ∨ 4294967296 * r + d < q * yn0) := by
      rw [Bool.or_eq_true, decide_eq_true_eq, decide_eq_true_eq]
      by_cases hqB : 4294967296 ≤ q
      · simp [hqB]
      · have := mulB g0 (by omega : q < 4294967296) h0 h0'
        rw [U_id (x := 4294967296 * r) (by omega) (by omega), U_id (by omega) (by omega), U_id (by omega) (by omega)]
    rw [step]
    by_cases c : 4294967296 ≤ q ∨ 4294967296 * r + d < q * yn0
    · have a4 := g4 c
      rw [if_pos (hc.2 c), U_id (x := r + yn1) (by omega) (by omega), U_id (x := q - 1) (by omega) (by omega)]
      by_cases e : 4294967296 ≤ r + yn1
      · rw [if_pos (by simpa using e), g6 c e]
      · rw [if_neg (by simpa using e)]
        exact ih _ _ (by rw [Int.sub_mul]; omega) (by omega) (by omega) a4 (by omega)
    · rw [if_neg (fun h => c (hc.1 h)), ← g5 c]
/-- The first guess. -/
theorem digit_start {yn1 yn0 u d : Int} (h1 : 2147483648 ≤ yn1) (h1' : yn1 < 4294967296) (h0 : 0 ≤ yn0) (h0' : yn0 < 4294967296) (hd : 0 ≤ d) (hd' : d < 4294967296) (hu : 0 ≤ u)
    (hu' : u < yn1 * 4294967296 + yn0) : U (u.tdiv yn1) = u / yn1 ∧ U (u - U (U (u.tdiv yn1) * yn1)) = u % yn1 ∧ u / yn1 * yn1 + u % yn1 = u ∧ 0 ≤ u % yn1 ∧ u % yn1 < 4294967296 ∧
    (u * 4294967296 + d) / (yn1 * 4294967296 + yn0) ≤ u / yn1 := by
  have e1 : u.tdiv yn1 = u / yn1 := Int.tdiv_eq_ediv_of_nonneg hu
  have hdm : u / yn1 * yn1 + u % yn1 = u := by have := Int.ediv_mul_add_emod u yn1; exact this
  have hm0 := Int.emod_nonneg u (by omega : yn1 ≠ 0)
  have hm1 := Int.emod_lt_of_pos u (by omega : 0 < yn1)
  have hq0 : 0 ≤ u / yn1 := Int.ediv_nonneg hu (by omega)
  have hq1 : u / yn1 ≤ u := Int.ediv_le_self _ hu
  have hqm : 0 ≤ u / yn1 * yn1 := Int.mul_nonneg hq0 (by omega)
  rw [e1, U_id hq0 (by omega), U_id (x := u / yn1 * yn1) (by omega) (by omega), U_id (by omega) (by omega)]
  refine ⟨rfl, by omega, hdm, hm0, by omega, ?_⟩
  have hY : 0 < yn1 * 4294967296 + yn0 := by omega
  have hQ0 : 0 ≤ (u * 4294967296 + d) / (yn1 * 4294967296 + yn0) := Int.ediv_nonneg (by omega) (by omega)
  have hQ := Int.ediv_mul_le (u * 4294967296 + d) (b := yn1 * 4294967296 + yn0) (by omega)
  generalize (u * 4294967296 + d) / (yn1 * 4294967296 + yn0) = z at *
  rw [Int.mul_add, ← Int.mul_assoc] at hQ
  have := Int.mul_nonneg hQ0 h0
  exact (Int.le_ediv_iff_mul_le (by omega)).2 (by omega)
theorem sub_UU (a b c : Int) : U (U (U a + b) - U c) = U (a + b - c) := by
  simp only [U_def]; omega
theorem or_add {a b : Int} {s : Nat} (hs : s ≤ 63) (ha : 0 ≤ a) (h : a * 2 ^ s < 18446744073709551616) (hb : 0 ≤ b) (hb' : b < 2 ^ s) :
    U ((BitVec.ofInt (IntKind.bits .u64) (U (a * 2 ^ s)) ||| BitVec.ofInt (IntKind.bits .u64) b).toNat) = a * 2 ^ s + b := by
  have hp : (0 : Int) < 2 ^ s := Int.pow_pos (by decide)
  have hn := Int.mul_nonneg ha (Int.le_of_lt hp)
  have hp2 : (2 : Int) ^ s = ((2 ^ s : Nat) : Int) := by simp
  have hlt : (2 ^ s : Nat) < 18446744073709551616 := pow_lt64 hs
  rw [U_id hn (by omega)]
  show U ((BitVec.ofInt 64 (a * 2 ^ s) ||| BitVec.ofInt 64 b).toNat : Int) = _
  have hlt2 := (BitVec.ofInt 64 (a * 2 ^ s) ||| BitVec.ofInt 64 b).isLt
  rw [U_nat (by omega), BitVec.toNat_or, ofInt_toNat hn h, ofInt_toNat hb (by omega)]
  obtain ⟨n, rfl⟩ := Int.eq_ofNat_of_zero_le ha
  obtain ⟨m, rfl⟩ := Int.eq_ofNat_of_zero_le hb
  have e : ((n : Int) * 2 ^ s).toNat = 2 ^ s * n := by rw [hp2, ← Int.natCast_mul, Int.toNat_natCast, Nat.mul_comm]
  rw [e, Int.toNat_natCast, ← Nat.two_pow_add_eq_or_of_lt (by rw [hp2] at hb'; omega)]
  simp [Int.mul_comm]
theorem LeadingZeros64_eq (φ : Nat) (v : Int) (h : 0 < v) (h' : v < 18446744073709551616) : ∃ s : Nat, bits_LeadingZeros64 φ v = some (s : Int) ∧ s ≤ 63 ∧
    9223372036854775808 ≤ v * 2 ^ s ∧ v * 2 ^ s < 18446744073709551616 ∧ v ≤ 2 ^ (64 - s) := by
  obtain ⟨n, e, hn, h1, h2⟩ := Len64_eq φ v (by omega) h'
  obtain ⟨h3, h4⟩ := h2 (by omega)
  refine ⟨64 - n, ?_, by omega, ?_, ?_, ?_⟩
  · unfold bits_LeadingZeros64
    rw [e, Option.bind_some, W_id (by omega) (by omega)]
    congr 1; omega
  · have : 2 ^ (n - 1) * 2 ^ (64 - n) ≤ v.toNat * 2 ^ (64 - n) := Nat.mul_le_mul_right _ h4
    rw [← Nat.pow_add, show n - 1 + (64 - n) = 63 by omega] at this
    have e2 : ((v.toNat * 2 ^ (64 - n) : Nat) : Int) = v * 2 ^ (64 - n) := by
      rw [Int.natCast_mul, Int.natCast_pow]; congr 1; omega
    omega
  · have : v.toNat * 2 ^ (64 - n) < 2 ^ n * 2 ^ (64 - n) := Nat.mul_lt_mul_of_pos_right h1 (Nat.two_pow_pos _)
    rw [← Nat.pow_add, show n + (64 - n) = 64 by omega] at this
    have e2 : ((v.toNat * 2 ^ (64 - n) : Nat) : Int) = v * 2 ^ (64 - n) := by
      rw [Int.natCast_mul, Int.natCast_pow]; congr 1; omega
    omega
  · rw [show 64 - (64 - n) = n by omega]
    have e2 : ((2 ^ n : Nat) : Int) = (2 : Int) ^ n := by simp
    omega
theorem Div64_eq (φ : Nat) (hφ : 5 < φ) (hi lo y : Int) (h0 : 0 ≤ hi) (hy : hi < y) (hy' : y < 18446744073709551616) (hl : 0 ≤ lo) (hl' : lo < 18446744073709551616) :
    bits_Div64 φ hi lo y = some ((hi * 18446744073709551616 + lo) / y, (hi * 18446744073709551616 + lo) % y) := by
  unfold bits_Div64
  rw [if_neg (by simp; omega), if_neg (by simp; omega)]
  by_cases hz : hi = 0
  · subst hz
    rw [if_pos (by simp), ck_pos (by omega), Int.tdiv_eq_ediv_of_nonneg hl, Int.tmod_eq_emod_of_nonneg hl, U_id (Int.ediv_nonneg hl (by omega)) (by have := Int.ediv_le_self y hl; omega)]
    simp
  rw [if_neg (by simpa using hz)]
  obtain ⟨s, es, hs, hY1, hY2, hyP⟩ := LeadingZeros64_eq φ y (by omega) hy'
  rw [es, Option.bind_some, U_id (x := (s : Int)) (by omega) (by omega), ck_pos (by omega), U_id (x := 64 - (s : Int)) (by omega) (by omega), ck_pos (by omega)]
  have em1 : min (s : Int).toNat (IntKind.bits .u64) = s := by simp [IntKind.bits]; omega
  have em2 : min (64 - (s : Int)).toNat (IntKind.bits .u64) = 64 - s := by simp [IntKind.bits]
  rw [em1, em2]
  have hp : (0 : Int) < 2 ^ s := Int.pow_pos (by decide)
  have hP : (0 : Int) < 2 ^ (64 - s) := Int.pow_pos (by decide)
  have hpP : (2 : Int) ^ s * 2 ^ (64 - s) = 18446744073709551616 := by rw [← Int.pow_add, show s + (64 - s) = 64 by omega]; rfl
  have hhp : hi * 2 ^ s < y * 2 ^ s := Int.mul_lt_mul_of_pos_right hy hp
  have hlP0 : 0 ≤ lo / 2 ^ (64 - s) := Int.ediv_nonneg hl (by omega)
  have hlP1 : lo / 2 ^ (64 - s) < 2 ^ s := Int.ediv_lt_of_lt_mul hP (by omega)
  have hh0 : 0 ≤ hi * 2 ^ s := Int.mul_nonneg h0 (by omega)
  -- the low word
  have hlo10 : U (lo * 2 ^ s) = lo % 2 ^ (64 - s) * 2 ^ s := by
    have e : lo = lo / 2 ^ (64 - s) * 2 ^ (64 - s) + lo % 2 ^ (64 - s) := (Int.ediv_mul_add_emod lo _).symm
    have e2 : lo * 2 ^ s = lo / 2 ^ (64 - s) * 18446744073709551616 + lo % 2 ^ (64 - s) * 2 ^ s := by
      conv => lhs; rw [e]
      rw [Int.add_mul, Int.mul_assoc, Int.mul_comm (2 ^ (64 - s)), hpP]
    have m0 := Int.emod_nonneg lo (by omega : (2 : Int) ^ (64 - s) ≠ 0)
    have m1 := Int.emod_lt_of_pos lo hP
    have m2 : lo % 2 ^ (64 - s) * 2 ^ s < 2 ^ (64 - s) * 2 ^ s := Int.mul_lt_mul_of_pos_right m1 hp
    have m3 := Int.mul_nonneg m0 (Int.le_of_lt hp)
    rw [Int.mul_comm (2 ^ (64 - s))] at m2
    rw [e2, U_def]; omega
  have hN : (hi * 2 ^ s + lo / 2 ^ (64 - s)) * 18446744073709551616 + lo % 2 ^ (64 - s) * 2 ^ s = (hi * 18446744073709551616 + lo) * 2 ^ s := by
    have e : lo = lo / 2 ^ (64 - s) * 2 ^ (64 - s) + lo % 2 ^ (64 - s) := (Int.ediv_mul_add_emod lo _).symm
    have e2 : lo * 2 ^ s = lo / 2 ^ (64 - s) * 18446744073709551616 + lo % 2 ^ (64 - s) * 2 ^ s := by
      conv => lhs; rw [e]
      rw [Int.add_mul, Int.mul_assoc, Int.mul_comm (2 ^ (64 - s)), hpP]
    have e3 : (hi * 18446744073709551616 + lo) * 2 ^ s = hi * 2 ^ s * 18446744073709551616 + lo * 2 ^ s := by rw [Int.add_mul, Int.mul_right_comm]
    rw [e3, e2]; omega
  have hun0 : 0 ≤ lo % 2 ^ (64 - s) * 2 ^ s := Int.mul_nonneg (Int.emod_nonneg lo (by omega)) (by omega)
  have hun1 : lo % 2 ^ (64 - s) * 2 ^ s < 18446744073709551616 := by
    rw [← hlo10, U_def]; omega
  have hu' : hi * 2 ^ s + lo / 2 ^ (64 - s) < y * 2 ^ s := by
    have : (hi + 1) * 2 ^ s ≤ y * 2 ^ s := Int.mul_le_mul_of_nonneg_right (by omega) (by omega)
    rw [Int.add_mul] at this; omega
  have hs1 : U (s : Int) = s := U_id (by omega) (by omega)
  have hs2 : U (64 - (s : Int)) = 64 - (s : Int) := U_id (by omega) (by omega)
  have ef : lo.fdiv (2 ^ (64 - s)) = lo / 2 ^ (64 - s) := Int.fdiv_eq_ediv_of_nonneg _ (by omega)
  have eor := or_add hs h0 (by omega : hi * 2 ^ s < 18446744073709551616) hlP0 hlP1
  obtain ⟨Y, hYd⟩ : ∃ Y, Y = y * 2 ^ s := ⟨_, rfl⟩
  have eY : U (y * 2 ^ s) = Y := by rw [hYd]; exact U_id (by omega) (by omega)
  obtain ⟨u, hud⟩ : ∃ u, u = hi * 2 ^ s + lo / 2 ^ (64 - s) := ⟨_, rfl⟩
  obtain ⟨w, hwd⟩ : ∃ w, w = lo % 2 ^ (64 - s) * 2 ^ s := ⟨_, rfl⟩
  rw [← hwd] at hlo10 hN hun0 hun1
  rw [← hud] at hN hu' eor
  rw [← hYd] at hu' hY1 hY2 hhp
  have hu0 : 0 ≤ u := by omega
  have fY : Y.fdiv 4294967296 = Y / 4294967296 := Int.fdiv_eq_ediv_of_nonneg _ (by omega)
  have fw : w.fdiv 4294967296 = w / 4294967296 := Int.fdiv_eq_ediv_of_nonneg _ (by omega)
  have mY := mask_eq (v := Y) (by omega) (by omega)
  have mw := mask_eq (v := w) (by omega) (by omega)
  have b1 : 2147483648 ≤ Y / 4294967296 ∧ Y / 4294967296 < 4294967296 ∧ 0 ≤ Y % 4294967296 ∧ Y % 4294967296 < 4294967296 := by omega
  have b2 : 0 ≤ w / 4294967296 ∧ w / 4294967296 < 4294967296 ∧ 0 ≤ w % 4294967296 ∧ w % 4294967296 < 4294967296 := by omega
  have eYs : Y / 4294967296 * 4294967296 + Y % 4294967296 = Y := by omega
  have stepA : ∀ (K : Int → Option (Int × Int)) n q r, bits_Div64_L34 φ lo y s K (n + 1) q r = if (decide (4294967296 ≤ q) || decide (U (U (4294967296 * r) + w / 4294967296) < U (q * (Y % 4294967296)))) = true then
      (if decide (4294967296 ≤ U (r + Y / 4294967296)) = true then K (U (q - 1)) else bits_Div64_L34 φ lo y s K n (U (q - 1)) (U (r + Y / 4294967296))) else K q := by
    intro K n q r
    rw [bits_Div64_L34]
    simp only [hs1, hs2, em1, em2, eY, hlo10, fY, fw, mY, mw]
  have stepB : ∀ (K : Int → Option (Int × Int)) n q r, bits_Div64_L20 φ lo y s K (n + 1) r q = if (decide (4294967296 ≤ q) || decide (U (U (4294967296 * r) + w % 4294967296) < U (q * (Y % 4294967296)))) = true then
      (if decide (4294967296 ≤ U (r + Y / 4294967296)) = true then K (U (q - 1)) else bits_Div64_L20 φ lo y s K n (U (r + Y / 4294967296)) (U (q - 1))) else K q := by
    intro K n q r
    rw [bits_Div64_L20]
    simp only [hs1, hs2, em1, em2, eY, hlo10, fY, fw, mY, mw]
  obtain ⟨m, rfl⟩ : ∃ m, φ = m + 3 := ⟨φ - 3, by omega⟩
  rw [ef, eor, eY, fY, ck_pos (by omega)]
  obtain ⟨i1, i2, i3, i4, i5, i6⟩ := digit_start (u := u) (d := w / 4294967296) b1.1 b1.2.1 b1.2.2.1 b1.2.2.2 b2.1 b2.2.1 hu0 (by omega)
  rw [i1] at i2 ⊢
  rw [i2, digit_loop (bits_Div64_L34 (m + 3) lo y s _) _ b1.1 b1.2.1 b1.2.2.1 b1.2.2.2 b2.1 b2.2.1 hu0 (by omega) (stepA _) (m + 2) _ _ i3 i4 i5 i6 (by omega)]
  rw [eYs]
  unfold bits_Div64_j13
  simp only [hs1, hs2, em1, em2, eY, hlo10, fY, fw, ef, eor]
  rw [ck_pos (by omega)]
  have hQ1 : 0 ≤ (u * 4294967296 + w / 4294967296) / Y ∧ (u * 4294967296 + w / 4294967296) / Y < 4294967296 := ⟨Int.ediv_nonneg (by omega) (by omega), Int.ediv_lt_of_lt_mul (by omega) (by omega)⟩
  have hR1 := Int.ediv_mul_add_emod (u * 4294967296 + w / 4294967296) Y
  have hR1a := Int.emod_nonneg (u * 4294967296 + w / 4294967296) (by omega : Y ≠ 0)
  have hR1b := Int.emod_lt_of_pos (u * 4294967296 + w / 4294967296) (by omega : 0 < Y)
  generalize (u * 4294967296 + w / 4294967296) / Y = q1 at *
  generalize (u * 4294967296 + w / 4294967296) % Y = r1 at *
  have eu21 : U (U (U (u * 4294967296) + w / 4294967296) - U (q1 * Y)) = r1 := by
    rw [sub_UU, show u * 4294967296 + w / 4294967296 - q1 * Y = r1 by omega]; exact U_id hR1a (by omega)
  rw [eu21]
  obtain ⟨j1, j2, j3, j4, j5, j6⟩ := digit_start (u := r1) (d := w % 4294967296) b1.1 b1.2.1 b1.2.2.1 b1.2.2.2 b2.2.2.1 b2.2.2.2 hR1a (by omega)
  rw [j1] at j2 ⊢
  rw [j2]
  refine (digit_loop (fun n q r => bits_Div64_L20 (m + 3) lo y s _ n r q) _ b1.1 b1.2.1 b1.2.2.1 b1.2.2.2 b2.2.2.1 b2.2.2.2 hR1a (by omega) (fun n q r => stepB _ n q r) (m + 2) _ _ j3 j4 j5 j6 (by omega)).trans ?_
  rw [eYs]
  unfold bits_Div64_j16
  simp only [hs1, hs2, em1, em2, eY, hlo10, fY, fw, mw, ef, eor, eu21]
  rw [ck_pos (by omega)]
  have hQ0 : 0 ≤ (r1 * 4294967296 + w % 4294967296) / Y ∧ (r1 * 4294967296 + w % 4294967296) / Y < 4294967296 := ⟨Int.ediv_nonneg (by omega) (by omega), Int.ediv_lt_of_lt_mul (by omega) (by omega)⟩
  have hR0 := Int.ediv_mul_add_emod (r1 * 4294967296 + w % 4294967296) Y
  have hR0a := Int.emod_nonneg (r1 * 4294967296 + w % 4294967296) (by omega : Y ≠ 0)
  have hR0b := Int.emod_lt_of_pos (r1 * 4294967296 + w % 4294967296) (by omega : 0 < Y)
  generalize (r1 * 4294967296 + w % 4294967296) / Y = q0 at *
  generalize (r1 * 4294967296 + w % 4294967296) % Y = r0 at *
  rw [sub_UU, show r1 * 4294967296 + w % 4294967296 - q0 * Y = r0 by omega, U_id (x := r0) hR0a (by omega), U_id (x := q1 * 4294967296) (by omega) (by omega), U_id (by omega) (by omega), Int.fdiv_eq_ediv_of_nonneg _ (by omega)]
  have hall : (hi * 18446744073709551616 + lo - (q1 * 4294967296 + q0) * y) * 2 ^ s = r0 := by
    rw [Int.sub_mul, ← hN, Int.mul_assoc, ← hYd, Int.add_mul, Int.mul_right_comm]; omega
  have hz0 : 0 ≤ hi * 18446744073709551616 + lo - (q1 * 4294967296 + q0) * y := by
    rcases Int.lt_or_le (hi * 18446744073709551616 + lo - (q1 * 4294967296 + q0) * y) 0 with h | h
    · have := Int.mul_neg_of_neg_of_pos h hp; omega
    · exact h
  have hz1 : hi * 18446744073709551616 + lo - (q1 * 4294967296 + q0) * y < y := by
    refine Int.lt_of_mul_lt_mul_right (a := 2 ^ s) ?_ (by omega)
    rw [hall, ← hYd]; exact hR0b
  have hr0 : r0 / 2 ^ s = hi * 18446744073709551616 + lo - (q1 * 4294967296 + q0) * y := by
    rw [← hall]; exact Int.mul_ediv_cancel _ (by omega)
  have hdm : (hi * 18446744073709551616 + lo) / y = q1 * 4294967296 + q0 ∧ (hi * 18446744073709551616 + lo) % y = hi * 18446744073709551616 + lo - (q1 * 4294967296 + q0) * y :=
    (Int.ediv_emod_unique (by omega)).2 ⟨by rw [Int.mul_comm y]; omega, hz0, hz1⟩
  rw [hr0, hdm.1, hdm.2]
end Px
end
section
namespace Px
open Go
set_option linter.unusedVariables false
set_option linter.unusedSimpArgs false
set_option maxRecDepth 100000
theorem fleet_between_eq (φ : Nat) (a b c : Int) : fleet_between φ a b c = some (bet a b c) := rfl
def okType (t : WagonType) : Bool :=
  bet t.fLoad 0 1000000 && bet t.fTare 0 1000000 && bet t.fLength 0 1000000 && bet t.fBrake 0 1000000 && bet t.fGauge 0 7 && bet t.fLife 1 1073741824 && bet t.fFloor 0 100
def okWagon (n : Int) (w : Wagon) : Bool :=
  bet w.fType 0 (n - 1) && bet w.fOwner 0 63 && bet w.fHome 0 511 && bet w.fBuilt 0 1073741824 && bet w.fWorth 0 1099511627776
def okSwap (n : Int) (s : Swap) : Bool := bet s.fWanted 0 (n - 1) && bet s.fGiven 0 (n - 1) && (s.fWanted != s.fGiven) && bet s.fCost 0 1000000000
def okWash (w : Wash) : Bool := bet w.fFrom 0 63 && bet w.fTo 0 63 && (w.fFrom != w.fTo) && bet w.fMinutes 0 100000
def keyW (w : Wash) : Int := 64 * w.fFrom + w.fTo
def okWashAt (l : List Wash) (i : Nat) : Bool := okWash (gt l (i : Int)) && !(l.take i).any fun v => keyW v == keyW (gt l (i : Int))
def okWashes (l : List Wash) : Bool := (List.range l.length).all (okWashAt l)
/-- What Check answers. -/
def chkFleet (x : Fleet) : Int :=
  bif decide (32 < x.fTypes.length) || decide (4096 < x.fWagons.length) || decide (1024 < x.fSwaps.length) || decide (4096 < x.fWashes.length) then 2 else
  bif x.fTypes.all okType && x.fWagons.all (okWagon x.fTypes.length) && x.fSwaps.all (okSwap x.fTypes.length) && okWashes x.fWashes then 0 else 1
theorem all_range_succ (p : Nat → Bool) (i : Nat) : (List.range (i + 1)).all p = ((List.range i).all p && p i) := by
  rw [List.range_succ, List.all_append]; simp
theorem gcall_t {α : Type} [Inhabited α] {p : Prop} [Decidable p] {x : Option α} (h : p) : gcall p x = x := if_pos h
theorem gcall_f {α : Type} [Inhabited α] {p : Prop} [Decidable p] {x : Option α} (h : ¬ p) : gcall p x = some default := if_neg h
theorem fleet_Check_swaps (φ : Nat) (x : Fleet) (k : Int → Option Int) (hl : x.fSwaps.length ≤ 1024) (ht : x.fTypes.length ≤ 32) :
    ∀ n s, x.fSwaps.length < n → fleet_Check_L69 φ x k n 0 s = k (bif x.fSwaps.all (okSwap (x.fTypes.length : Int)) then s else 1) := by
  have hp : W ((x.fTypes.length : Int) - 1) = (x.fTypes.length : Int) - 1 := W_id (by omega) (by omega)
  refine loop_all _ k _ _ ?_ ?_
  · intro n i s hi
    rw [fleet_Check_L69, if_pos (by simp; omega), ck_pos ⟨by omega, by omega⟩]
    have hW : W ((i : Int) + 1) = (i : Int) + 1 := W_id (by omega) (by omega)
    simp only [fleet_between_eq, Option.bind_some, okSwap, gcall, fleet_Check_j95, hW, hp]
    cases bet (gt x.fSwaps i).fWanted 0 ((x.fTypes.length : Int) - 1) <;> cases bet (gt x.fSwaps i).fGiven 0 ((x.fTypes.length : Int) - 1) <;> cases ((gt x.fSwaps i).fWanted != (gt x.fSwaps i).fGiven) <;>
      cases bet (gt x.fSwaps i).fCost 0 1000000000 <;> rfl
  · intro n s
    rw [fleet_Check_L69, if_neg (by simp)]
theorem fleet_Check_wagons (φ : Nat) (x : Fleet) (k : Int → Option Int) (hl : x.fWagons.length ≤ 4096) (ht : x.fTypes.length ≤ 32) :
    ∀ n s, x.fWagons.length < n → fleet_Check_L99 φ x k n 0 s = k (bif x.fWagons.all (okWagon (x.fTypes.length : Int)) then s else 1) := by
  have hp : W ((x.fTypes.length : Int) - 1) = (x.fTypes.length : Int) - 1 := W_id (by omega) (by omega)
  refine loop_all _ k _ _ ?_ ?_
  · intro n i s hi
    rw [fleet_Check_L99, if_pos (by simp; omega), ck_pos ⟨by omega, by omega⟩]
    have hW : W ((i : Int) + 1) = (i : Int) + 1 := W_id (by omega) (by omega)
    simp only [fleet_between_eq, Option.bind_some, okWagon, gcall, fleet_Check_j115, fleet_Check_j123, hW, hp]
    cases bet (gt x.fWagons i).fType 0 ((x.fTypes.length : Int) - 1) <;> cases bet (gt x.fWagons i).fOwner 0 63 <;> cases bet (gt x.fWagons i).fHome 0 511 <;>
      cases bet (gt x.fWagons i).fBuilt 0 1073741824 <;> cases bet (gt x.fWagons i).fWorth 0 1099511627776 <;> rfl
  · intro n s
    rw [fleet_Check_L99, if_neg (by simp)]
theorem fleet_Check_four (φ : Nat) (x : Fleet) (i : Int) (k : Int → Option Int) (n : Nat) (s : Int) (hn : 4 < n) :
    fleet_Check_L153 φ x i k n 0 s = k (bif [(gt x.fTypes i).fLoad, (gt x.fTypes i).fTare, (gt x.fTypes i).fLength, (gt x.fTypes i).fBrake].all (fun a => bet a 0 1000000) then s else 1) := by
  refine loop_all (fleet_Check_L153 φ x i k) k _ _ ?_ ?_ n s hn
  · intro n j s hi
    rw [fleet_Check_L153, if_pos (by simp at hi ⊢; omega), ck_pos ⟨by omega, by omega⟩]
    simp at hi
    have hW : W ((j : Int) + 1) = (j : Int) + 1 := W_id (by omega) (by omega)
    simp only [fleet_between_eq, Option.bind_some, fleet_Check_j158, hW]
    cases bet (gt [(gt x.fTypes i).fLoad, (gt x.fTypes i).fTare, (gt x.fTypes i).fLength, (gt x.fTypes i).fBrake] (j : Int)) 0 1000000 <;> rfl
  · intro n s
    rw [fleet_Check_L153, if_neg (by simp)]
theorem fleet_Check_types (φ : Nat) (hφ : 4 < φ) (x : Fleet) (k : Int → Option Int) (hl : x.fTypes.length ≤ 32) :
    ∀ n s, x.fTypes.length < n → fleet_Check_L128 φ x k n 0 s = k (bif x.fTypes.all okType then s else 1) := by
  refine loop_all _ k _ _ ?_ ?_
  · intro n i s hi
    rw [fleet_Check_L128, if_pos (by simp; omega), ck_pos ⟨by omega, by omega⟩, fleet_Check_four _ _ _ _ _ _ hφ]
    have hW : W ((i : Int) + 1) = (i : Int) + 1 := W_id (by omega) (by omega)
    simp only [fleet_between_eq, Option.bind_some, okType, gcall, fleet_Check_j136, fleet_Check_j149, fleet_Check_j131, hW, List.all_cons, List.all_nil]
    cases bet (gt x.fTypes i).fLoad 0 1000000 <;> cases bet (gt x.fTypes i).fTare 0 1000000 <;> cases bet (gt x.fTypes i).fLength 0 1000000 <;> cases bet (gt x.fTypes i).fBrake 0 1000000 <;>
      cases bet (gt x.fTypes i).fGauge 0 7 <;> cases bet (gt x.fTypes i).fLife 1 1073741824 <;> cases bet (gt x.fTypes i).fFloor 0 100 <;> rfl
  · intro n s
    rw [fleet_Check_L128, if_neg (by simp)]
theorem fleet_Check_washes (φ : Nat) (x : Fleet) (k : Int → Option Int) (hl : x.fWashes.length ≤ 4096) (n : Nat) (s : Int) (hn : x.fWashes.length < n) :
    fleet_Check_L32 φ x k n 0 s (fun _ => false) = k (bif okWashes x.fWashes then s else 1) := by
  refine loop_up0 (fun n i (t : Int × (Nat → Bool)) => fleet_Check_L32 φ x k n i t.1 t.2) x.fWashes.length
    (fun i t => t.1 = (bif (List.range i).all (okWashAt x.fWashes) then s else 1) ∧ ((List.range i).all (okWashAt x.fWashes) = true → ∀ j : Nat, t.2 j = (x.fWashes.take i).any fun v => keyW v == (j : Int)))
    (fun o => o = k (bif okWashes x.fWashes then s else 1)) ?_ ?_ n (s, fun _ => false) ⟨by simp, by simp⟩ hn
  · intro n i t hi ⟨h1, h2⟩ hs
    have hW : W ((i : Int) + 1) = (i : Int) + 1 := W_id (by omega) (by omega)
    rw [fleet_Check_L32, if_pos (by simp; omega), ck_pos ⟨by omega, by omega⟩]
    simp only [fleet_between_eq, Option.bind_some, gcall]
    have hok : okWash (gt x.fWashes i) = (bet (gt x.fWashes i).fFrom 0 63 && bet (gt x.fWashes i).fTo 0 63 && ((gt x.fWashes i).fFrom != (gt x.fWashes i).fTo) && bet (gt x.fWashes i).fMinutes 0 100000) := rfl
    have hsucc := all_range_succ (okWashAt x.fWashes) i
    cases hw : okWash (gt x.fWashes i) with
    | false =>
      have hf : (List.range (i + 1)).all (okWashAt x.fWashes) = false := by rw [hsucc]; simp [okWashAt, hw]
      have h3 : fleet_Check_L32 φ x k n ((i : Int) + 1) 1 t.2 = k (bif okWashes x.fWashes then s else 1) := hs (1, t.2) ⟨by rw [hf]; rfl, by rw [hf]; intro h; cases h⟩
      rw [hw] at hok
      rw [← h3]
      simp only [fleet_Check_j54, fleet_Check_j57, hW]
      generalize bet (gt x.fWashes i).fFrom 0 63 = a at *; generalize bet (gt x.fWashes i).fTo 0 63 = b at *; generalize ((gt x.fWashes i).fFrom != (gt x.fWashes i).fTo) = c at *; generalize bet (gt x.fWashes i).fMinutes 0 100000 = d at *
      cases a <;> cases b <;> cases c <;> cases d <;> first | (simp only [Bool.and_self, Bool.and_true, Bool.and_false, Bool.false_and, Bool.true_and, Option.bind_some, if_true, Bool.not_false, Bool.not_true, Bool.false_eq_true, if_false, default]; done) | exact absurd hok (by decide)
    | true =>
      rw [hw] at hok
      have hb := hok.symm
      simp only [Bool.and_eq_true] at hb
      obtain ⟨⟨⟨b1, b2⟩, b3⟩, b4⟩ := hb
      have c1 := bet_t b1; have c2 := bet_t b2
      simp only [b1, b2, b3, b4, fleet_Check_j54, Bool.and_self, if_true, Option.bind_some, Bool.not_true, Bool.false_eq_true, if_false]
      rw [ck_pos ⟨by omega, by omega⟩, ck_pos ⟨by omega, by omega⟩]
      have hkey : ((gt x.fWashes i).fFrom.toNat * 64 + (gt x.fWashes i).fTo.toNat : Nat) = (keyW (gt x.fWashes i)).toNat := by unfold keyW; omega
      have hk0 : ((keyW (gt x.fWashes i)).toNat : Int) = keyW (gt x.fWashes i) := by unfold keyW; omega
      rw [hkey]
      have key : ∀ e, (e = bif (List.range (i + 1)).all (okWashAt x.fWashes) then s else 1) →
          fleet_Check_L32 φ x k n ((i : Int) + 1) e (upd t.2 (keyW (gt x.fWashes i)).toNat true) = k (bif okWashes x.fWashes then s else 1) := by
        intro e he
        refine hs (e, _) ⟨he, fun hall j => ?_⟩
        rw [hsucc, Bool.and_eq_true] at hall
        rw [any_take_succ _ _ _ hi, ← h2 hall.1 j]
        show (if j = (keyW (gt x.fWashes i)).toNat then true else t.2 j) = _
        by_cases hj : j = (keyW (gt x.fWashes i)).toNat
        · simp [hj, hk0]
        · have : (keyW (gt x.fWashes i) == (j : Int)) = false := by
            simp; intro h; exact hj (by omega)
          simp [hj, this]
      simp only [fleet_Check_j63, fleet_Check_j57, hW, hkey]
      cases hall : (List.range i).all (okWashAt x.fWashes) with
      | true =>
        have hat : okWashAt x.fWashes i = !(t.2 (keyW (gt x.fWashes i)).toNat) := by
          rw [h2 hall]; simp only [okWashAt, hw, Bool.true_and, hk0]
        cases ht2 : t.2 (keyW (gt x.fWashes i)).toNat with
        | true =>
          simp only [Bool.not_true, Bool.not_false, if_true]
          refine key 1 ?_
          rw [hsucc, hat, ht2]; simp
        | false =>
          simp only [Bool.not_true, Bool.not_false, Bool.false_eq_true, if_false]
          refine key t.1 ?_
          rw [hsucc, hat, ht2, h1, hall]; simp
      | false =>
        have hf : (List.range (i + 1)).all (okWashAt x.fWashes) = false := by rw [hsucc, hall]; rfl
        have ht1 : t.1 = 1 := by rw [h1, hall]; rfl
        rw [ht1]
        split <;> exact key 1 (by rw [hf]; rfl)
  · intro n t ⟨h1, _⟩
    rw [fleet_Check_L32, if_neg (by simp), h1]; rfl
theorem fleet_Check_eq (φ : Nat) (hφ : 5000 < φ) (x : Fleet) : fleet_Check φ x = some (chkFleet x) := by
  have e : (((decide (32 < (x.fTypes.length : Int)) || decide (4096 < (x.fWagons.length : Int))) || decide (1024 < (x.fSwaps.length : Int))) || decide (4096 < (x.fWashes.length : Int))) =
      (decide (32 < x.fTypes.length) || decide (4096 < x.fWagons.length) || decide (1024 < x.fSwaps.length) || decide (4096 < x.fWashes.length)) := by
    congr 1
    · congr 1
      · congr 1 <;> (apply decide_eq_decide.2; omega)
      · apply decide_eq_decide.2; omega
    · apply decide_eq_decide.2; omega
  unfold fleet_Check chkFleet
  rw [e]
  cases h : (decide (32 < x.fTypes.length) || decide (4096 < x.fWagons.length) || decide (1024 < x.fSwaps.length) || decide (4096 < x.fWashes.length)) with
  | true => rfl
  | false =>
    simp only [Bool.or_eq_false_iff, decide_eq_false_iff_not, Nat.not_lt] at h
    obtain ⟨⟨⟨h1, h2⟩, h3⟩, h4⟩ := h
    rw [if_neg (by simp), fleet_Check_types φ (by omega) x _ h1 _ _ (by omega)]
    unfold fleet_Check_j21
    rw [fleet_Check_wagons _ _ _ h2 h1 _ _ (by omega)]
    unfold fleet_Check_j23
    rw [fleet_Check_swaps _ _ _ h3 h1 _ _ (by omega)]
    unfold fleet_Check_j25
    rw [fleet_Check_washes _ _ _ h4 _ _ (by omega)]
    unfold fleet_Check_j28
    cases x.fTypes.all okType <;> cases x.fWagons.all (okWagon x.fTypes.length) <;> cases x.fSwaps.all (okSwap x.fTypes.length) <;> cases okWashes x.fWashes <;> rfl
/-- What a fleet that passes is. -/
theorem chkFleet_ok {x : Fleet} (h : chkFleet x = 0) : x.fTypes.length ≤ 32 ∧ x.fWagons.length ≤ 4096 ∧ x.fSwaps.length ≤ 1024 ∧ x.fWashes.length ≤ 4096 ∧
    (∀ t ∈ x.fTypes, okType t = true) ∧ (∀ t ∈ x.fWagons, okWagon x.fTypes.length t = true) ∧ (∀ t ∈ x.fSwaps, okSwap x.fTypes.length t = true) ∧ okWashes x.fWashes = true := by
  unfold chkFleet at h
  cases h1 : (decide (32 < x.fTypes.length) || decide (4096 < x.fWagons.length) || decide (1024 < x.fSwaps.length) || decide (4096 < x.fWashes.length)) with
  | true => rw [h1] at h; cases h
  | false =>
    rw [h1] at h
    simp only [Bool.or_eq_false_iff, decide_eq_false_iff_not, Nat.not_lt] at h1
    obtain ⟨⟨⟨a1, a2⟩, a3⟩, a4⟩ := h1
    cases h2 : (x.fTypes.all okType && x.fWagons.all (okWagon x.fTypes.length) && x.fSwaps.all (okSwap x.fTypes.length) && okWashes x.fWashes) with
    | false => rw [h2] at h; cases h
    | true =>
      simp only [Bool.and_eq_true, List.all_eq_true] at h2
      obtain ⟨⟨⟨b1, b2⟩, b3⟩, b4⟩ := h2
      exact ⟨a1, a2, a3, a4, b1, b2, b3, b4⟩
end Px
end
section
namespace Px
open Go
set_option linter.unusedVariables false
set_option linter.unusedSimpArgs false
set_option maxRecDepth 100000
def PP : Nat := 2305843009213690799
def QQ : Nat := 1152921504606845399
/-- A power modulo the prime. -/
def pw (b n : Nat) : Nat := b ^ n % PP
theorem pw_lt (b n : Nat) : pw b n < PP := Nat.mod_lt _ (by decide)
theorem pw_zero (b : Nat) : pw b 0 = 1 := by simp [pw, PP]
theorem pw_add (b m n : Nat) : pw b m * pw b n % PP = pw b (m + n) := by
  unfold pw; rw [Nat.pow_add, ← Nat.mul_mod]
theorem pw_one (b : Nat) : pw b 1 = b % PP := by simp [pw]
theorem mul_mod_word {a b : Nat} (ha : a < PP) (hb : b < PP) (φ : Nat) (hφ : 5 < φ) : ((bits_Mul64 φ (a : Int) (b : Int)).bind fun y => (bits_Div64 φ y.1 y.2 2305843009213690799).bind fun z => some z.2) = some ((a * b % PP : Nat) : Int) := by
  have ha' : (a : Int) < 2305843009213690799 := by unfold PP at ha; omega
  have hb' : (b : Int) < 2305843009213690799 := by unfold PP at hb; omega
  have hp := mul_bd (by omega : 0 ≤ (a : Int)) (by omega : 0 ≤ (b : Int)) (by omega : (a : Int) ≤ 2305843009213690798) (by omega : (b : Int) ≤ 2305843009213690798)
  rw [Mul64_eq φ _ _ (by omega) (by omega) (by omega) (by omega), Option.bind_some]
  generalize hz : (a : Int) * (b : Int) = z at *
  rw [Div64_eq φ hφ _ _ _ (by omega) (by omega) (by omega) (by omega) (by omega), Option.bind_some]
  congr 1
  have : z / 18446744073709551616 * 18446744073709551616 + z % 18446744073709551616 = z := by omega
  rw [this, ← hz, Int.natCast_emod, Int.natCast_mul]; rfl
theorem mod_P {a : Nat} (h : a < PP) : ((a : Int)).tmod 2305843009213690799 = (a : Int) := by
  unfold PP at h
  rw [Int.tmod_eq_emod_of_nonneg (by omega)]; omega
theorem sign_Pow_eq (φ : Nat) (hφ : 100 < φ) (b n : Nat) (hb : b < 18446744073709551616) (hn : n < 18446744073709551616) : sign_Pow φ (b : Int) (n : Int) = some ((pw b n : Nat) : Int) := by
  unfold sign_Pow
  obtain ⟨L, eL, hL, h1, h2⟩ := Len64_eq φ (n : Int) (by omega) (by omega)
  rw [eL, Option.bind_some]
  rw [Int.toNat_natCast] at h1 h2
  have hbm : ((b : Int)).tmod 2305843009213690799 = ((b % PP : Nat) : Int) := by
    rw [Int.tmod_eq_emod_of_nonneg (by omega)]; unfold PP; omega
  refine loop_up0 (fun k i v => sign_Pow_L9 φ (b : Int) (n : Int) (L : Int) (sign_Pow_j6 φ) k v i) L (fun i v => v = ((pw b (n / 2 ^ (L - i)) : Nat) : Int)) (fun o => o = some ((pw b n : Nat) : Int)) ?_ ?_ φ 1 ?_ (by omega)
  · intro k i v hi hv hs
    rw [sign_Pow_L9, if_pos (by simp; omega)]
    subst hv
    rw [mod_P (pw_lt _ _)]
    have hm := mul_mod_word (pw_lt b (n / 2 ^ (L - i))) (pw_lt b (n / 2 ^ (L - i))) φ (by omega)
    -- the square
    have hp := mul_bd (m := 2305843009213690798) (n := 2305843009213690798) (a := ((pw b (n / 2 ^ (L - i)) : Nat) : Int)) (b := ((pw b (n / 2 ^ (L - i)) : Nat) : Int)) (by omega) (by omega) (by have := pw_lt b (n / 2 ^ (L - i)); unfold PP at this; omega) (by have := pw_lt b (n / 2 ^ (L - i)); unfold PP at this; omega)
    have e1 := Mul64_eq φ ((pw b (n / 2 ^ (L - i)) : Nat) : Int) ((pw b (n / 2 ^ (L - i)) : Nat) : Int) (by omega) (by have := pw_lt b (n / 2 ^ (L - i)); unfold PP at this; omega) (by omega) (by have := pw_lt b (n / 2 ^ (L - i)); unfold PP at this; omega)
    rw [e1, Option.bind_some] at hm
    rw [e1, Option.bind_some]
    have hw1 : W ((L : Int) - 1) = (L : Int) - 1 := W_id (by omega) (by omega)
    have hw2 : W ((L : Int) - 1 - (i : Int)) = ((L - 1 - i : Nat) : Int) := by rw [W_id (by omega) (by omega)]; omega
    cases hdv : bits_Div64 φ (((pw b (n / 2 ^ (L - i)) : Nat) : Int) * ((pw b (n / 2 ^ (L - i)) : Nat) : Int) / 18446744073709551616) (((pw b (n / 2 ^ (L - i)) : Nat) : Int) * ((pw b (n / 2 ^ (L - i)) : Nat) : Int) % 18446744073709551616) 2305843009213690799 with
    | none => rw [hdv] at hm; cases hm
    | some z =>
      rw [hdv, Option.bind_some] at hm
      have hz : z.2 = ((pw b (n / 2 ^ (L - i)) * pw b (n / 2 ^ (L - i)) % PP : Nat) : Int) := Option.some.inj hm
      rw [pw_add] at hz
      rw [Option.bind_some, eL, Option.bind_some, hw1, hw2, ck_pos (by omega), hz]
      have hsh := shr_eq (c := (n : Int)) (k := ((L - 1 - i : Nat) : Int)) (by omega) (by omega) (by omega)
      have hone : U ((BitVec.ofInt (IntKind.bits .u64) ((n : Int).fdiv (2 ^ (min (((L - 1 - i : Nat) : Int)).toNat (IntKind.bits .u64)))) &&& BitVec.ofInt (IntKind.bits .u64) 1).toNat) = ((n / 2 ^ (L - 1 - i) % 2 : Nat) : Int) := by
        rw [hsh, Int.toNat_natCast, Int.toNat_natCast]
        show U ((BitVec.ofInt 64 ((n / 2 ^ (L - 1 - i) : Nat) : Int) &&& BitVec.ofInt 64 1).toNat : Int) = _
        have hd : n / 2 ^ (L - 1 - i) ≤ n := Nat.div_le_self _ _
        rw [BitVec.toNat_and, ofInt_toNat (Int.natCast_nonneg _) (by omega), ofInt_toNat (by omega) (by omega), U_nat (and_lt (by omega)), Int.toNat_natCast]
        show ((n / 2 ^ (L - 1 - i) &&& 1 : Nat) : Int) = _
        rw [Nat.and_one_is_mod]
      rw [hone]
      have hhalf : n / 2 ^ (L - i) = n / 2 ^ (L - 1 - i) / 2 := by
        rw [Nat.div_div_eq_div_mul, ← Nat.pow_succ]; congr 2; omega
      have hidx : L - (i + 1) = L - 1 - i := by omega
      have hW : W ((i : Int) + 1) = (i : Int) + 1 := W_id (by omega) (by omega)
      have hbit := Nat.mod_two_eq_zero_or_one (n / 2 ^ (L - 1 - i))
      rcases hbit with hbit | hbit
      · rw [hbit, if_neg (by simp)]
        unfold sign_Pow_j16
        rw [hW]
        refine hs _ ?_
        rw [hidx, hhalf]; congr 2; omega
      · rw [hbit, if_pos (by simp), mod_P (pw_lt _ _), hbm]
        have hm2 := mul_mod_word (pw_lt b (n / 2 ^ (L - i) + n / 2 ^ (L - i))) (Nat.mod_lt b (by decide : 0 < PP)) φ (by omega)
        unfold sign_Pow_j16
        rw [hW]
        have key : ∀ (X : Option (Int × Int)) (G : Int × Int → Option (Int × Int)) (K : Int → Option Int) (r : Int), (X.bind fun y => (G y).bind fun z => some z.2) = some r → (X.bind fun y => (G y).bind fun z => K z.2) = K r := by
          intro X G K r h
          cases X with
          | none => cases h
          | some y =>
            rw [Option.bind_some] at h ⊢
            cases hG : G y with
            | none => rw [hG] at h; cases h
            | some z => rw [hG, Option.bind_some] at h; rw [Option.bind_some, Option.some.inj h]
        have := key _ (fun y => bits_Div64 φ y.1 y.2 2305843009213690799) (fun v => sign_Pow_L9 φ (b : Int) (n : Int) (L : Int) (sign_Pow_j6 φ) k v ((i : Int) + 1)) _ hm2
        refine Eq.trans this ?_
        refine hs _ ?_
        rw [← pw_one b, pw_add, hidx, hhalf]; congr 2; omega
  · intro k v hv
    rw [sign_Pow_L9, if_neg (by simp), hv]
    unfold sign_Pow_j6
    rw [Nat.sub_self, Nat.pow_zero, Nat.div_one]
  · rw [Nat.sub_zero, Nat.div_eq_of_lt h1, pw_zero]; rfl
/-- What Valid answers. -/
def okKey (x : Int) : Bool := decide (2 ≤ x) && decide (x < 2305843009213690799) && (pw x.toNat QQ == 1)
theorem natcast_beq (a : Nat) : (((a : Nat) : Int) == 1) = (a == 1) := by
  rw [Bool.eq_iff_iff, beq_iff_eq, beq_iff_eq]; omega
theorem sign_Valid_eq (φ : Nat) (hφ : 100 < φ) (x : Int) : sign_Valid φ x = some (okKey x) := by
  unfold sign_Valid okKey
  cases h : decide (2 ≤ x) && decide (x < 2305843009213690799) with
  | false => rw [gcall_f (by simp)]; simp
  | true =>
    simp only [Bool.and_eq_true, decide_eq_true_eq] at h
    have := sign_Pow_eq φ hφ x.toNat QQ (by omega) (by decide)
    rw [show ((x.toNat : Nat) : Int) = x by omega, show ((QQ : Nat) : Int) = 1152921504606845399 by decide] at this
    rw [gcall_t rfl, this, Option.bind_some, natcast_beq]
end Px
end
section
namespace Px
open Go
set_option linter.unusedVariables false
set_option linter.unusedSimpArgs false
set_option maxRecDepth 100000
def okPlace (p : Place) : Bool := bet p.fKind 1 5 && bet p.fRailway 0 15 && (bif p.fKind == 3 then bet p.fOther 0 15 && (p.fOther != p.fRailway) else p.fOther == (-1))
def okEdge (n : Int) (e : Edge) : Bool := bet e.fA 0 (n - 1) && bet e.fB 0 (n - 1) && (e.fA != e.fB) && bet e.fRailway 0 15 && bet e.fMinutes 1 100000 && bet e.fKm 0 10000
def chkNet (x : Network) : Int := bif decide (512 < x.fPlaces.length) || decide (2048 < x.fEdges.length) then 2 else bif x.fPlaces.all okPlace && x.fEdges.all (okEdge x.fPlaces.length) then 0 else 1
theorem network_place_eq (φ : Nat) (p : Place) : network_place φ p = some (okPlace p) := by
  have hb : (((decide (p.fKind < 1) || decide (5 < p.fKind)) || decide (p.fRailway < 0)) || decide (16 ≤ p.fRailway)) = !(bet p.fKind 1 5 && bet p.fRailway 0 15) := by
    rw [Bool.eq_iff_iff]; simp [bet]; omega
  unfold network_place okPlace
  rw [hb]
  cases bet p.fKind 1 5 && bet p.fRailway 0 15 with
  | false => rfl
  | true =>
    rw [if_neg (by simp)]
    by_cases h : p.fKind = 3
    · have : (decide (0 ≤ p.fOther) && decide (p.fOther < 16)) = bet p.fOther 0 15 := by rw [Bool.eq_iff_iff]; simp [bet]; omega
      rw [if_neg (by simp [h]), this]; simp [h]
    · have h2 : (p.fKind == 3) = false := by simpa using h
      rw [if_pos (by simp [h]), h2]; rfl
theorem edge_cond (n : Int) (e : Edge) : ((((((decide ((min2 (min2 (min2 (e.fA) (e.fB)) (e.fRailway)) (e.fKm)) < 0) || decide (n ≤ (max2 (e.fA) (e.fB)))) || (e.fA == e.fB)) || decide (16 ≤ e.fRailway)) || decide (e.fMinutes < 1)) || decide (100000 < e.fMinutes)) || decide (10000 < e.fKm)) = !okEdge n e := by
  have hm : ∀ x y z : Int, z ≤ max2 x y ↔ z ≤ x ∨ z ≤ y := by intro x y z; unfold max2; split <;> omega
  have hok : okEdge n e = true ↔ ((((((0 ≤ e.fA ∧ e.fA ≤ n - 1) ∧ 0 ≤ e.fB ∧ e.fB ≤ n - 1) ∧ ¬ e.fA = e.fB) ∧ 0 ≤ e.fRailway ∧ e.fRailway ≤ 15) ∧ 1 ≤ e.fMinutes ∧ e.fMinutes ≤ 100000) ∧ 0 ≤ e.fKm ∧ e.fKm ≤ 10000) := by
    simp only [okEdge, Bool.and_eq_true, bet_iff, bne_iff_ne, ne_eq]
  rw [Bool.eq_iff_iff, Bool.not_eq_true', ← Bool.not_eq_true, hok]
  simp only [Bool.or_eq_true, decide_eq_true_eq, min2_lt, hm, beq_iff_eq]
  omega
theorem net_head (x : Network) : (decide (512 < (x.fPlaces.length : Int)) || decide (2048 < (x.fEdges.length : Int))) = (decide (512 < x.fPlaces.length) || decide (2048 < x.fEdges.length)) := by
  congr 1 <;> (apply decide_eq_decide.2; omega)
theorem network_Check_eq (φ : Nat) (hφ : 5000 < φ) (x : Network) : network_Check φ x = some (chkNet x) := by
  unfold network_Check chkNet
  rw [net_head]
  cases h : decide (512 < x.fPlaces.length) || decide (2048 < x.fEdges.length) with
  | true => rfl
  | false =>
    simp only [Bool.or_eq_false_iff, decide_eq_false_iff_not, Nat.not_lt] at h
    rw [if_neg (by simp), loop_any (network_Check_L48 φ x (network_Check_j9 φ x)) (network_Check_j9 φ x) (some 1) x.fPlaces (fun t => !okPlace t) ?_ ?_ φ (by omega)]
    · unfold network_Check_j9
      rw [loop_any (network_Check_L12 φ x (network_Check_j10 φ)) (network_Check_j10 φ) (some 1) x.fEdges (fun t => !okEdge x.fPlaces.length t) ?_ ?_ φ (by omega)]
      · simp only [List.any_eq_not_all_not, Bool.not_not]
        cases x.fPlaces.all okPlace <;> cases x.fEdges.all (okEdge x.fPlaces.length) <;> rfl
      · intro n i hi
        rw [network_Check_L12, if_pos (by simp; omega), ck_pos ⟨by omega, by omega⟩, edge_cond, W_id (by omega) (by omega)]
        cases okEdge x.fPlaces.length (gt x.fEdges i) <;> rfl
      · intro n; rw [network_Check_L12, if_neg (by simp)]
    · intro n i hi
      rw [network_Check_L48, if_pos (by simp; omega), ck_pos ⟨by omega, by omega⟩, network_place_eq, Option.bind_some, W_id (by omega) (by omega)]
      cases okPlace (gt x.fPlaces i) <;> rfl
    · intro n; rw [network_Check_L48, if_neg (by simp)]
theorem chkNet_ok {x : Network} (h : chkNet x = 0) : x.fPlaces.length ≤ 512 ∧ x.fEdges.length ≤ 2048 ∧ (∀ p ∈ x.fPlaces, okPlace p = true) ∧ ∀ e ∈ x.fEdges, okEdge x.fPlaces.length e = true := by
  unfold chkNet at h
  cases h1 : decide (512 < x.fPlaces.length) || decide (2048 < x.fEdges.length) with
  | true => rw [h1] at h; cases h
  | false =>
    rw [h1] at h
    cases h2 : x.fPlaces.all okPlace && x.fEdges.all (okEdge x.fPlaces.length) with
    | false => rw [h2] at h; cases h
    | true =>
      simp only [Bool.or_eq_false_iff, decide_eq_false_iff_not, Nat.not_lt] at h1
      simp only [Bool.and_eq_true, List.all_eq_true] at h2
      exact ⟨h1.1, h1.2, h2⟩
/-- What Check says of a calendar. -/
def okHol : Int → List Int → Bool
  | _, [] => true
  | p, h :: t => decide (p < h) && decide (h ≤ 745654) && okHol h t
def okSpan (s : Span) : Bool := decide (0 ≤ s.fFrom) && decide (s.fFrom ≤ s.fTo) && decide (s.fTo ≤ 1440)
def okCal (c : Calendar) : Bool := ((List.range 7).all fun i => okSpan (c.fOpen i)) && okHol (-1) c.fHolidays
theorem cal_hol (φ : Nat) (c : Calendar) : ∀ (n i : Nat) (p : Int), -1 ≤ p → (i : Int) ≤ p + 1 → p ≤ 745654 → i ≤ c.fHolidays.length → 745656 ≤ (n : Int) + p → calendar_Check_L7 φ c (calendar_Check_j4 φ) n p i = some (bif okHol p (c.fHolidays.drop i) then 0 else 1) := by
  intro n
  induction n with
  | zero => intro i p _ _ _ _ _; omega
  | succ n ih =>
    intro i p hp hip hp2 hi hn
    by_cases h : i = c.fHolidays.length
    · rw [h, calendar_Check_L7, if_neg (by simp), List.drop_length]; rfl
    · rw [calendar_Check_L7, if_pos (by simp; omega), ck_pos ⟨by omega, by omega⟩, drop_gt _ _ (by omega)]
      by_cases hb : gt c.fHolidays i ≤ p ∨ 745654 < gt c.fHolidays i
      · have : (decide (p < gt c.fHolidays i) && decide (gt c.fHolidays i ≤ 745654)) = false := by simp; omega
        rw [if_pos (by simpa using hb)]
        simp [okHol, this]
      · have h2 : (decide (p < gt c.fHolidays i) && decide (gt c.fHolidays i ≤ 745654)) = true := by simp; omega
        rw [if_neg (by simpa using hb), W_id (by omega) (by omega)]
        have := ih (i + 1) (gt c.fHolidays i) (by omega) (by omega) (by omega) (by omega) (by omega)
        rw [show ((i + 1 : Nat) : Int) = (i : Int) + 1 by omega] at this
        rw [this]
        simp [okHol, h2]
theorem cal_open_cond (s : Span) : ((decide (s.fFrom < 0) || decide (s.fTo < s.fFrom)) || decide (1440 < s.fTo)) = !okSpan s := by
  rw [Bool.eq_iff_iff]; simp [okSpan]
  try omega
theorem calendar_Check_eq (φ : Nat) (hφ : 800000 < φ) (c : Calendar) : calendar_Check φ c = some (bif okCal c then 0 else 1) := by
  unfold calendar_Check
  refine loop_up0 (fun n i (_ : Unit) => calendar_Check_L15 φ c (calendar_Check_j3 φ c) n i) 7 (fun i _ => ((List.range i).all fun j => okSpan (c.fOpen j)) = true) (fun o => o = some (bif okCal c then 0 else 1)) ?_ ?_ φ () (by simp) (by omega)
  · intro n i _ hi h hs
    rw [calendar_Check_L15, if_pos (by simp; omega), ck_pos ⟨by omega, by omega⟩, Int.toNat_natCast, cal_open_cond, W_id (by omega) (by omega)]
    cases ho : okSpan (c.fOpen i) with
    | true =>
      rw [if_neg (by simp)]
      exact hs () (by rw [all_range_succ, h, ho]; rfl)
    | false =>
      have : okCal c = false := by
        unfold okCal
        have : ((List.range 7).all fun j => okSpan (c.fOpen j)) = false := by
          rw [List.all_eq_false]; exact ⟨i, by simp; omega, by simp [ho]⟩
        rw [this]; rfl
      rw [if_pos (by simp), this]; rfl
  · intro n _ h
    rw [calendar_Check_L15, if_neg (by simp)]
    unfold calendar_Check_j3 okCal
    rw [h, Bool.true_and]
    have := cal_hol φ c φ 0 (-1) (by omega) (by omega) (by omega) (by omega) (by omega)
    simpa using this
end Px
end
section
namespace Px
open Go
set_option linter.unusedVariables false
set_option linter.unusedSimpArgs false
set_option maxRecDepth 100000
/-- A loop that gathers a flag. -/
theorem loop_or {α ρ : Type} [Inhabited α] (L : Nat → Bool → Int → Option ρ) (k : Bool → Option ρ) (l : List α) (p : α → Bool)
    (step : ∀ (n i : Nat) (s : Bool), i < l.length → L (n + 1) s i = L n (s || p (gt l i)) ((i : Int) + 1)) (done : ∀ n s, L (n + 1) s l.length = k s) (n : Nat) (s : Bool) (hn : l.length < n) : L n s 0 = k (s || l.any p) := by
  refine loop_up0 (fun n i t => L n t i) l.length (fun i t => t = (s || (l.take i).any p)) (fun o => o = k (s || l.any p)) ?_ ?_ n s (by simp) hn
  · intro n i t hi ht hs
    rw [step n i t hi]
    exact hs _ (by rw [any_take_succ _ _ _ hi, ht, Bool.or_assoc])
  · intro n t ht
    rw [List.take_length] at ht
    rw [done, ht]
def badReader (n : Int) (r : Reader) : Bool := (((!bet r.fPlace 0 (n - 1)) || decide (r.fLow < (-1000))) || decide (r.fHigh < r.fLow)) || decide (1000 < r.fHigh)
def badShipper (x : Network) (s : Shipper) : Bool := (!bet s.fPlace 0 ((x.fPlaces.length : Int) - 1)) || ((gt x.fPlaces s.fPlace).fKind != 4)
def badRail (r : RailwayInfo) : Bool := !okCal r.fCalendar || !okKey r.fKey
def badPool (x : Pool) : Bool :=
  ((((((x.fRailways.length : Int) == 0) || x.fReaders.any (badReader x.fNetwork.fPlaces.length)) || x.fShippers.any (badShipper x.fNetwork)) || x.fFleet.fWagons.any (fun w => decide ((x.fNetwork.fPlaces.length : Int) ≤ w.fHome))) ||
  x.fNetwork.fPlaces.any (fun p => decide ((x.fRailways.length : Int) ≤ p.fRailway) || decide ((x.fRailways.length : Int) ≤ p.fOther))) || x.fNetwork.fEdges.any (fun e => decide ((x.fRailways.length : Int) ≤ e.fRailway)) || x.fRailways.any badRail
def bigPool (x : Pool) : Bool := (decide (256 < (x.fReaders.length : Int)) || decide (256 < (x.fShippers.length : Int))) || decide (16 < (x.fRailways.length : Int))
/-- What CheckPool answers. -/
def chkPool (x : Pool) : Int := if chkNet x.fNetwork ≠ 0 then chkNet x.fNetwork else if chkFleet x.fFleet ≠ 0 then chkFleet x.fFleet else bif bigPool x then 2 else bif badPool x then 1 else 0
theorem fleet_CheckPool_eq (φ : Nat) (hφ : 800000 < φ) (x : Pool) : fleet_CheckPool φ x = some (chkPool x) := by
  unfold fleet_CheckPool chkPool
  rw [network_Check_eq _ (by omega), Option.bind_some]
  by_cases hn : chkNet x.fNetwork = 0
  case neg => rw [if_pos (by simp [hn]), if_pos hn]
  rw [if_neg (by simp [hn]), if_neg (fun e : chkNet x.fNetwork ≠ 0 => e hn), fleet_Check_eq _ (by omega), Option.bind_some]
  by_cases hf : chkFleet x.fFleet = 0
  case neg => rw [if_pos (by simp [hf]), if_pos hf]
  rw [if_neg (by simp [hf]), if_neg (fun e : chkFleet x.fFleet ≠ 0 => e hf)]
  cases hb : bigPool x with
  | true =>
    have e : (((decide (256 < (x.fReaders.length : Int)) || decide (256 < (x.fShippers.length : Int))) || decide (16 < (x.fRailways.length : Int)))) = bigPool x := rfl
    rw [e, hb]; rfl
  | false =>
    have hb' : ¬ (((decide (256 < (x.fReaders.length : Int)) || decide (256 < (x.fShippers.length : Int))) || decide (16 < (x.fRailways.length : Int))) = true) := by
      rw [show (((decide (256 < (x.fReaders.length : Int)) || decide (256 < (x.fShippers.length : Int))) || decide (16 < (x.fRailways.length : Int)))) = bigPool x from rfl, hb]; simp
    rw [if_neg hb']
    simp only [Bool.or_eq_true, decide_eq_true_eq, not_or] at hb'
    obtain ⟨n1, n2, _, _⟩ := chkNet_ok hn
    obtain ⟨f1, f2, _⟩ := chkFleet_ok hf
    have hp : W ((x.fNetwork.fPlaces.length : Int) - 1) = (x.fNetwork.fPlaces.length : Int) - 1 := W_id (by omega) (by omega)
    rw [loop_or (fleet_CheckPool_L114 φ x (fleet_CheckPool_j19 φ x)) (fleet_CheckPool_j19 φ x) x.fReaders (badReader x.fNetwork.fPlaces.length) ?_ ?_ φ _ (by omega)]
    rotate_left
    · intro n i s hi
      rw [fleet_CheckPool_L114, if_pos (by simp; omega), ck_pos ⟨by omega, by omega⟩, hp, W_id (by omega) (by omega)]
      unfold badReader
      cases s with
      | true => rw [gcall_f (by simp)]; rfl
      | false => rw [gcall_t rfl]; rfl
    · intro n s; rw [fleet_CheckPool_L114, if_neg (by simp)]
    unfold fleet_CheckPool_j19
    rw [loop_or (fleet_CheckPool_L90 φ x (fleet_CheckPool_j21 φ x)) (fleet_CheckPool_j21 φ x) x.fShippers (badShipper x.fNetwork) ?_ ?_ φ _ (by omega)]
    rotate_left
    · intro n i s hi
      rw [fleet_CheckPool_L90, if_pos (by simp; omega), ck_pos ⟨by omega, by omega⟩, hp, W_id (by omega) (by omega)]
      unfold badShipper
      cases s with
      | true => rw [gcall_f (by simp), Option.bind_some, ck_pos (by simp)]; rfl
      | false =>
        rw [gcall_t rfl, fleet_between_eq, Option.bind_some]
        cases hbt : bet (gt x.fShippers i).fPlace 0 ((x.fNetwork.fPlaces.length : Int) - 1) with
        | true => rw [ck_pos (fun _ => by have := bet_t hbt; omega)]; rfl
        | false => rw [ck_pos (by simp)]; rfl
    · intro n s; rw [fleet_CheckPool_L90, if_neg (by simp)]
    unfold fleet_CheckPool_j21
    rw [loop_or (fleet_CheckPool_L78 φ x (fleet_CheckPool_j23 φ x)) (fleet_CheckPool_j23 φ x) x.fFleet.fWagons (fun w => decide ((x.fNetwork.fPlaces.length : Int) ≤ w.fHome)) ?_ ?_ φ _ (by omega)]
    rotate_left
    · intro n i s hi
      rw [fleet_CheckPool_L78, if_pos (by simp; omega), ck_pos ⟨by omega, by omega⟩, W_id (by omega) (by omega)]
    · intro n s; rw [fleet_CheckPool_L78, if_neg (by simp)]
    unfold fleet_CheckPool_j23
    rw [loop_or (fleet_CheckPool_L62 φ x (fleet_CheckPool_j25 φ x)) (fleet_CheckPool_j25 φ x) x.fNetwork.fPlaces (fun p => decide ((x.fRailways.length : Int) ≤ p.fRailway) || decide ((x.fRailways.length : Int) ≤ p.fOther)) ?_ ?_ φ _ (by omega)]
    rotate_left
    · intro n i s hi
      rw [fleet_CheckPool_L62, if_pos (by simp; omega), ck_pos ⟨by omega, by omega⟩, W_id (by omega) (by omega), Bool.or_assoc]
    · intro n s; rw [fleet_CheckPool_L62, if_neg (by simp)]
    unfold fleet_CheckPool_j25
    rw [loop_or (fleet_CheckPool_L51 φ x (fleet_CheckPool_j27 φ x)) (fleet_CheckPool_j27 φ x) x.fNetwork.fEdges (fun e => decide ((x.fRailways.length : Int) ≤ e.fRailway)) ?_ ?_ φ _ (by omega)]
    rotate_left
    · intro n i s hi
      rw [fleet_CheckPool_L51, if_pos (by simp; omega), ck_pos ⟨by omega, by omega⟩, W_id (by omega) (by omega)]
    · intro n s; rw [fleet_CheckPool_L51, if_neg (by simp)]
    unfold fleet_CheckPool_j27
    rw [loop_or (fleet_CheckPool_L33 φ x (fleet_CheckPool_j29 φ)) (fleet_CheckPool_j29 φ) x.fRailways badRail ?_ ?_ φ _ (by omega)]
    rotate_left
    · intro n i s hi
      rw [fleet_CheckPool_L33, if_pos (by simp; omega), ck_pos ⟨by omega, by omega⟩, W_id (by omega) (by omega)]
      unfold badRail
      cases s with
      | true => rw [gcall_f (by simp), Option.bind_some, gcall_f (by simp)]; rfl
      | false =>
        rw [gcall_t rfl, calendar_Check_eq _ hφ, Option.bind_some]
        cases okCal (gt x.fRailways i).fCalendar with
        | false => rw [gcall_f (by simp)]; rfl
        | true => rw [gcall_t (by simp), sign_Valid_eq _ (by omega)]; rfl
    · intro n s; rw [fleet_CheckPool_L33, if_neg (by simp)]
    show fleet_CheckPool_j29 φ (badPool x) = _
    unfold fleet_CheckPool_j29
    cases badPool x <;> rfl
end Px
end
section
namespace Px
open Go
set_option linter.unusedVariables false
set_option linter.unusedSimpArgs false
set_option maxRecDepth 100000
def refOK (it : Item) : Bool := bif eqRefB it.fRef (Ref.mk 0 0) then it.fKind != 14 else (((decide (0 ≤ it.fRef.fRailway) && decide (it.fRef.fRailway < 16)) && decide (1 ≤ it.fRef.fNo)) && decide (it.fRef.fNo ≤ 4096))
theorem edi_reference_eq (φ : Nat) (it : Item) : edi_reference φ it = some (refOK it) := by
  unfold edi_reference refOK
  cases eqRefB it.fRef (Ref.mk 0 0) <;> rfl
theorem edi_j106_eq (φ : Nat) (hφ : 11 < φ) (it : Item) (v : Bool) :
    edi_fields_L120 φ it (edi_fields_j106 φ it) φ 0 v = some (((v && [0, 0, 0, it.fNumber, 0, it.fTo, 0, it.fDest, it.fClass, it.fWeight, it.fAmount].all fun x => x == 0) && (it.fText == str_c1)) && ((it.fParts.length : Int) == 0)) := by
  refine loop_up0 (edi_fields_L120 φ it (edi_fields_j106 φ it)) 11 (fun n s => s = (v && ([0, 0, 0, it.fNumber, 0, it.fTo, 0, it.fDest, it.fClass, it.fWeight, it.fAmount].take n).all fun x => x == 0)) (fun o => o = some (((v && [0, 0, 0, it.fNumber, 0, it.fTo, 0, it.fDest, it.fClass, it.fWeight, it.fAmount].all fun x => x == 0) && (it.fText == str_c1)) && ((it.fParts.length : Int) == 0))) ?_ ?_ φ v (by simp) hφ
  · intro n m s hm hs hk
    rw [edi_fields_L120, if_pos (by simp; omega), ck_pos ⟨by omega, by omega⟩, W_id (by omega) (by omega)]
    refine hk _ ?_
    rw [all_take_succ _ _ _ hm, hs, Bool.and_assoc]
  · intro n s hs
    rw [edi_fields_L120, if_neg (by simp), hs]
    rfl
def plIn (p : Pool) (it : Item) : Bool := decide (0 ≤ it.fPlace) && decide (it.fPlace < (p.fNetwork.fPlaces.length : Int))
/-- The fields of a delivery or a receipt. -/
def fldDR (p : Pool) (it : Item) : Bool :=
  plIn p it && bet it.fWagon 0 ((p.fFleet.fWagons.length : Int) - 1) && ((gt p.fNetwork.fPlaces it.fPlace).fKind == 3) && ((it.fOther == (gt p.fNetwork.fPlaces it.fPlace).fRailway) || (it.fOther == (gt p.fNetwork.fPlaces it.fPlace).fOther)) &&
  bet it.fFrom 0 1073741824 && bet it.fCode 0 8 && (it.fNumber == 0) && (it.fTo == 0) && (it.fDest == 0) && (it.fClass == 0) && (it.fWeight == 0) && (it.fAmount == 0) && (it.fText == str_c1) && ((it.fParts.length : Int) == 0)
theorem edi_fields_eq34 (φ : Nat) (hφ : 11 < φ) (p : Pool) (it : Item) (hk : it.fKind = 3 ∨ it.fKind = 4) (hw : p.fFleet.fWagons.length ≤ 4096) : edi_fields φ p it = some (fldDR p it) := by
  have h161 : edi_fields φ p it = edi_fields_j24 φ p it true := by
    unfold edi_fields
    rcases hk with h | h <;> simp only [h] <;> rfl
  have hW : W ((p.fFleet.fWagons.length : Int) - 1) = (p.fFleet.fWagons.length : Int) - 1 := W_id (by omega) (by omega)
  rw [h161]
  unfold edi_fields_j24 edi_fields_j44 fldDR
  rw [if_pos rfl]
  have hpl : (decide (0 ≤ it.fPlace) && decide (it.fPlace < (p.fNetwork.fPlaces.length : Int))) = plIn p it := rfl
  rw [hpl, hW]
  cases hp : plIn p it with
  | true =>
    unfold plIn at hp
    rw [if_pos rfl, ck_pos (by simpa using hp), edi_j106_eq φ hφ]
    congr 1
    unfold bet
    generalize (it.fText == str_c1) = z
    rw [Bool.eq_iff_iff]
    simp only [List.all_cons, List.all_nil, Bool.and_eq_true, Bool.or_eq_true, decide_eq_true_eq, beq_iff_eq, bne_iff_ne, ne_eq, beq_self_eq_true, true_and, and_true]
    generalize (gt p.fNetwork.fPlaces it.fPlace).fKind = k
    constructor
    · intro h
      obtain ⟨⟨⟨h1, h2⟩, h3⟩, h4⟩ := h
      refine ⟨⟨⟨⟨⟨⟨⟨⟨⟨⟨⟨⟨?_, ?_⟩, ?_⟩, ?_⟩, ?_⟩, ?_⟩, ?_⟩, ?_⟩, ?_⟩, ?_⟩, ?_⟩, h3⟩, h4⟩ <;> first | omega | grind
    · intro h
      grind
  | false =>
    rw [if_neg (by simp), edi_j106_eq φ hφ]
    simp
/-- Whether an item that is a delivery or a receipt is valid. -/
def okDR (p : Pool) (it : Item) : Bool := refOK it && fldDR p it
theorem edi_Check_eq34 (φ : Nat) (hφ : 800000 < φ) (p : Pool) (it : Item) (hk : it.fKind = 3 ∨ it.fKind = 4) :
    edi_Check φ p it = some (if chkPool p ≠ 0 then chkPool p else if okDR p it = true then 0 else 110) := by
  unfold edi_Check
  simp only [Pool.eta', Item.eta', fleet_CheckPool_eq φ hφ, edi_reference_eq, Option.bind_some]
  by_cases h : chkPool p = 0
  · rw [if_neg (by simp [h]), if_neg (fun e : chkPool p ≠ 0 => e h)]
    unfold okDR
    have hw : p.fFleet.fWagons.length ≤ 4096 := by
      unfold chkPool at h
      by_cases hn : chkNet p.fNetwork = 0
      · rw [if_neg (fun e : chkNet p.fNetwork ≠ 0 => e hn)] at h
        by_cases hf : chkFleet p.fFleet = 0
        · exact (chkFleet_ok hf).2.1
        · rw [if_pos hf] at h; exact absurd h hf
      · rw [if_pos hn] at h; exact absurd h hn
    cases hr : refOK it with
    | false => rw [gcall_f (by simp)]; rfl
    | true =>
      rw [gcall_t (by simp), edi_fields_eq34 φ (by omega) p it hk hw]
      cases fldDR p it <;> rfl
  · rw [if_pos (by simp [h]), if_pos h]
theorem okDR_place {p : Pool} {it : Item} (h : okDR p it = true) : (0 ≤ it.fPlace ∧ it.fPlace < (p.fNetwork.fPlaces.length : Int)) ∧ (0 ≤ it.fFrom ∧ it.fFrom ≤ 1073741824) ∧ (0 ≤ it.fCode ∧ it.fCode ≤ 8) ∧ (0 ≤ it.fWagon ∧ it.fWagon < (p.fFleet.fWagons.length : Int)) := by
  simp only [okDR, fldDR, plIn, Bool.and_eq_true, decide_eq_true_eq, bet_iff] at h
  obtain ⟨_, h⟩ := h
  have h1 := h.1.1.1.1.1.1.1.1
  obtain ⟨⟨⟨⟨⟨h2, h3⟩, _⟩, _⟩, h4⟩, h5⟩ := h1
  exact ⟨h2, h4, h5, h3.1, by omega⟩
end Px
end
section
namespace Px
open Go
set_option linter.unusedVariables false
set_option linter.unusedSimpArgs false
theorem small_ex (φ : Nat) (hφ : 100 < φ) (p : Pool) : ∃ b, ref24_SmallPool φ p = some b ∧ (b = true → p.fRailways.length ≤ 17) := by
  unfold ref24_SmallPool
  split
  · exact ⟨false, rfl, by simp⟩
  · rename_i h
    have hr : p.fRailways.length ≤ 17 := by
      simp only [Bool.or_eq_true, decide_eq_true_eq, not_or] at h; omega
    refine loop_up0 (fun n i (_ : Unit) => ref24_SmallPool_L40 φ p (ref24_SmallPool_j38 φ) n i) p.fRailways.length (fun _ _ => True) (fun o => ∃ b, o = some b ∧ (b = true → p.fRailways.length ≤ 17)) ?_ ?_ φ () trivial (by omega)
    · intro n i _ hi _ hk
      rw [ref24_SmallPool_L40, if_pos (by simp; omega), ck_pos ⟨by omega, by omega⟩]
      split
      · exact ⟨false, rfl, by simp⟩
      · rw [W_id (by omega) (by omega)]; exact hk () trivial
    · intro n _ _
      rw [ref24_SmallPool_L40, if_neg (by simp)]; exact ⟨true, rfl, fun _ => hr⟩
theorem fewR_ex (φ : Nat) (m : Nat) (hm : m ≤ 100000) (hφ : m < φ) (l : List Report) : ∃ b, ref24_FewReports φ l (m : Int) = some b ∧ (b = true → l.length ≤ m) := by
  unfold ref24_FewReports
  split
  · exact ⟨false, rfl, by simp⟩
  · rename_i h
    have hr : l.length ≤ m := by
      simp only [decide_eq_true_eq] at h; omega
    refine loop_up0 (fun n i (_ : Unit) => ref24_FewReports_L6 φ l (ref24_FewReports_j4 φ) n i) l.length (fun _ _ => True) (fun o => ∃ b, o = some b ∧ (b = true → l.length ≤ m)) ?_ ?_ φ () trivial (by omega)
    · intro n i _ hi _ hk
      rw [ref24_FewReports_L6, if_pos (by simp; omega), ck_pos ⟨by omega, by omega⟩]
      split
      · exact ⟨false, rfl, by simp⟩
      · rw [W_id (by omega) (by omega)]; exact hk () trivial
    · intro n _ _
      rw [ref24_FewReports_L6, if_neg (by simp)]; exact ⟨true, rfl, fun _ => hr⟩
theorem few_ex (φ : Nat) (hφ : 100 < φ) (p : Pool) (l : List Report) : ∃ b, law27_few φ p l = some b ∧ (b = true → l.length ≤ 60 ∧ p.fRailways.length ≤ 17) := by
  unfold law27_few
  obtain ⟨a, h1, h2⟩ := small_ex φ hφ p
  obtain ⟨c, h3, h4⟩ := fewR_ex φ 60 (by omega) (by omega) l
  simp only [Pool.eta', h1, Option.bind_some]
  cases a with
  | false => rw [gcall_f (by simp)]; exact ⟨false, rfl, by simp⟩
  | true =>
    rw [gcall_t rfl]
    have h3' : ref24_FewReports φ l 60 = some c := h3
    rw [h3', Option.bind_some]
    exact ⟨c, by simp, fun e => ⟨h4 e, h2 rfl⟩⟩
end Px
end
section
namespace Px
open Go
set_option linter.unusedVariables false
set_option linter.unusedSimpArgs false
/-- The receipts; the deliveries in their order; the pairs; the handovers. -/
def isD (p : Pool) (r : Report) : Bool := r.fItem.fKind == 3 && okDR p r.fItem
def isR (p : Pool) (r : Report) : Bool := r.fItem.fKind == 4 && okDR p r.fItem
def rcpI (p : Pool) (l : List Report) : List Int := idxF (isR p) l
def dlvI (p : Pool) (l : List Report) : List Int := sortS (pairLt l) (idxF (isD p) l)
def prs (p : Pool) (l : List Report) : List (Nat → Int) := pairsOf p l (rcpI p l) (dlvI p l)
def mts (p : Pool) (l : List Report) : List Handover := if chkPool p = 0 then sortS matLt ((prs p l).map (mkH l)) else []
theorem rcpI_mem {p : Pool} {l : List Report} {i : Int} (h : i ∈ rcpI p l) : (0 ≤ i ∧ i < (l.length : Int)) ∧ (gt l i).fItem.fKind = 4 ∧ okDR p (gt l i).fItem = true := by
  obtain ⟨h1, h2, h3⟩ := idxF_mem.1 h
  simp only [isR, Bool.and_eq_true, beq_iff_eq] at h3
  exact ⟨⟨h1, h2⟩, h3⟩
theorem dlvI_mem {p : Pool} {l : List Report} {i : Int} (h : i ∈ dlvI p l) : (0 ≤ i ∧ i < (l.length : Int)) ∧ (gt l i).fItem.fKind = 3 ∧ okDR p (gt l i).fItem = true := by
  obtain ⟨h1, h2, h3⟩ := idxF_mem.1 (sortS_sub _ h)
  simp only [isD, Bool.and_eq_true, beq_iff_eq] at h3
  exact ⟨⟨h1, h2⟩, h3⟩
theorem dlvI_len (p : Pool) (l : List Report) : (dlvI p l).length ≤ l.length := by
  unfold dlvI; rw [sortS_len (swo_pair l)]; exact idxF_len _ _
theorem prs_len (p : Pool) (l : List Report) : (prs p l).length ≤ l.length := Nat.le_trans (pairs_len p l _ _) (dlvI_len p l)
theorem mts_len (p : Pool) (l : List Report) : (mts p l).length ≤ l.length := by
  unfold mts
  split
  · rw [sortS_len swo_mat]; simpa using prs_len p l
  · simp
theorem ok34 (φ : Nat) (hφ : 800000 < φ) (p : Pool) (hc : chkPool p = 0) (l : List Report) : ∀ r ∈ l, r.fItem.fKind = 3 ∨ r.fItem.fKind = 4 → ∃ e, edi_Check φ p r.fItem = some e ∧ (e == 0) = okDR p r.fItem := by
  intro r _ hk
  rw [edi_Check_eq34 φ hφ p _ hk, if_neg (fun e : chkPool p ≠ 0 => e hc)]
  refine ⟨_, rfl, ?_⟩
  cases okDR p r.fItem <;> rfl
theorem pairs_all (φ : Nat) (hφ : 800000 < φ) (p : Pool) (l : List Report) (hl : l.length ≤ 100000) : handover_pairs φ p l = some (if chkPool p = 0 then prs p l else []) := by
  by_cases hc : chkPool p = 0
  · obtain ⟨ds, s1, s2, s3⟩ := pairs_eq φ p l (okDR p) hl (by omega) (by rw [fleet_CheckPool_eq φ hφ, hc]) (ok34 φ hφ p hc l) (fun r _ _ h => (okDR_place h).1)
    rw [if_pos hc, s3]
    have : ds = dlvI p l := sortS_eq (swo_pair l) s1 s2
    rw [this]; rfl
  · rw [if_neg hc]
    unfold handover_pairs
    simp only [Pool.eta', fleet_CheckPool_eq φ hφ, Option.bind_some]
    rw [if_pos (by simpa using hc)]
theorem Match_all (φ : Nat) (hφ : 800000 < φ) (p : Pool) (l : List Report) (hl : l.length ≤ 100000) : handover_Match φ p l = some (mts p l) := by
  have hb : ∀ ps : List (Nat → Int), ps.length ≤ 100000 → (∀ x ∈ ps, (0 ≤ x 0 ∧ x 0 < (l.length : Int)) ∧ 0 ≤ x 1 ∧ x 1 < (l.length : Int)) → handover_pairs φ p l = some ps → handover_Match φ p l = some (sortS matLt (ps.map (mkH l))) := by
    intro ps hps hin he
    obtain ⟨ms, m1, m2, m3⟩ := sortStable_eHandover swo_mat (cmp_mat φ (by omega)) φ (ps.map (mkH l)) (fun _ _ => trivial) (by simp; omega) (by simp; omega)
    unfold handover_Match
    simp only [Pool.eta', he, Option.bind_some]
    rw [Match_loop φ l _ hps hin (by omega)]
    unfold handover_Match_j11
    rw [m3, Option.bind_some, sortS_eq swo_mat m1 m2]
  have hp := pairs_all φ hφ p l hl
  unfold mts
  by_cases hc : chkPool p = 0
  · rw [if_pos hc] at hp ⊢
    refine hb _ (Nat.le_trans (prs_len p l) hl) ?_ hp
    exact pairs_range (fun z hz => (rcpI_mem hz).1) (fun z hz => (dlvI_mem hz).1)
  · rw [if_neg hc] at hp ⊢
    exact hb [] (by simp) (by simp) hp
/-- What a valid pool says of a wagon's home. -/
theorem pool_home {p : Pool} (hc : chkPool p = 0) {w : Int} (hw : 0 ≤ w ∧ w < (p.fFleet.fWagons.length : Int)) :
    0 ≤ (gt p.fFleet.fWagons w).fHome ∧ (gt p.fFleet.fWagons w).fHome < (p.fNetwork.fPlaces.length : Int) := by
  have hm := gt_mem (l := p.fFleet.fWagons) hw.1 hw.2
  unfold chkPool at hc
  by_cases hn : chkNet p.fNetwork = 0
  case neg => rw [if_pos hn] at hc; exact absurd hc hn
  by_cases hf : chkFleet p.fFleet = 0
  case neg => rw [if_neg (fun e : chkNet p.fNetwork ≠ 0 => e hn), if_pos hf] at hc; exact absurd hc hf
  rw [if_neg (fun e : chkNet p.fNetwork ≠ 0 => e hn), if_neg (fun e : chkFleet p.fFleet ≠ 0 => e hf)] at hc
  obtain ⟨_, _, _, _, _, f6, _⟩ := chkFleet_ok hf
  have h2 := f6 _ hm
  simp only [okWagon, Bool.and_eq_true, bet_iff] at h2
  refine ⟨h2.1.1.2.1, ?_⟩
  cases hb : bigPool p with
  | true => rw [hb] at hc; cases hc
  | false =>
    cases hd : badPool p with
    | true => rw [hb, hd] at hc; cases hc
    | false =>
      unfold badPool at hd
      simp only [Bool.or_eq_false_iff, List.any_eq_false, beq_eq_false_iff_ne, decide_eq_true_eq, Bool.not_eq_true] at hd
      have := hd.1.1.1.2 _ hm
      omega
def chnC (p : Pool) (l : List Report) (w : Int) : List Custody := chainOf (homeC p w) w (mts p l)
theorem chn_all (φ : Nat) (hφ : 800000 < φ) (p : Pool) (l : List Report) (hl : l.length ≤ 100000) (hc : chkPool p = 0) (w : Int) (hw : 0 ≤ w ∧ w < (p.fFleet.fWagons.length : Int)) : handover_chain φ p l w = some (chnC p l w) := by
  have := mts_len p l
  exact chain_eq φ p l w _ (Match_all φ hφ p l hl) (by omega) (by omega) hw (pool_home hc hw)
theorem chnC_chn (p : Pool) (l : List Report) (w : Int) : Chn (chnC p l w) := by
  have := chain_inv w (mts p l) [] (homeC p w) (List.pairwise_singleton _ _)
  exact this
theorem chainFold_len (w : Int) : ∀ (ms : List Handover) (a : List Custody), a.length ≤ (ms.foldl (chainStep w) a).length ∧ (ms.foldl (chainStep w) a).length ≤ a.length + ms.length
  | [], a => ⟨Nat.le_refl _, Nat.le_refl _⟩
  | m :: ms, a => by
    have h1 := chainStep_len w a m
    have h2 := chainFold_len w ms (chainStep w a m)
    simp only [List.foldl_cons, List.length_cons]
    omega
theorem chnC_len (p : Pool) (l : List Report) (w : Int) : 1 ≤ (chnC p l w).length ∧ (chnC p l w).length ≤ l.length + 1 := by
  have h1 := chainFold_len w (mts p l) [homeC p w]
  have h2 := mts_len p l
  unfold chnC chainOf
  simp at h1 ⊢
  omega
theorem chainFold_pre (w : Int) : ∀ (ms : List Handover) (a : List Custody), ∃ b, ms.foldl (chainStep w) a = a ++ b
  | [], a => ⟨[], by simp⟩
  | m :: ms, a => by
    obtain ⟨b, hb⟩ := chainFold_pre w ms (chainStep w a m)
    have : ∃ b', chainStep w a m = a ++ b' := by
      unfold chainStep
      split
      · exact ⟨_, rfl⟩
      · exact ⟨[], by simp⟩
    obtain ⟨b', hb'⟩ := this
    exact ⟨b' ++ b, by rw [List.foldl_cons, hb, hb', List.append_assoc]⟩
theorem chnC_head (p : Pool) (l : List Report) (w : Int) : gt (chnC p l w) 0 = homeC p w := by
  obtain ⟨b, hb⟩ := chainFold_pre w (mts p l) [homeC p w]
  unfold chnC chainOf
  rw [hb]; rfl
/-- A chain is cut by a minute. -/
theorem chn_cut : ∀ (c : List Custody), Chn c → ∀ m : Int, ∃ i : Nat, i ≤ c.length ∧ c.filter (fun x => decide (x.fSpan.fFrom ≤ m)) = c.take i ∧ (∀ j : Nat, j < i → (gt c (j : Int)).fSpan.fFrom ≤ m) ∧ ∀ j : Nat, i ≤ j → j < c.length → m < (gt c (j : Int)).fSpan.fFrom
  | [], _, m => ⟨0, Nat.le_refl _, rfl, by omega, by simp⟩
  | x :: c, h, m => by
    have h' := List.pairwise_cons.1 h
    by_cases hx : x.fSpan.fFrom ≤ m
    · obtain ⟨i, h1, h2, h3, h4⟩ := chn_cut c h'.2 m
      have hg : ∀ j : Nat, gt (x :: c) ((j + 1 : Nat) : Int) = gt c (j : Int) := fun j => by simp [gt]
      refine ⟨i + 1, by simp; omega, ?_, fun j hj => ?_, fun j hj hj' => ?_⟩
      · rw [List.filter_cons_of_pos (by simpa using hx), h2]; rfl
      · cases j with
        | zero => exact hx
        | succ j => rw [hg]; exact h3 j (by omega)
      · cases j with
        | zero => omega
        | succ j => rw [hg]; exact h4 j (by omega) (by simp at hj'; omega)
    · have hall : ∀ y ∈ x :: c, m < y.fSpan.fFrom := fun y hy => by
        rcases List.mem_cons.1 hy with rfl | hy
        · omega
        · have := h'.1 y hy; omega
      refine ⟨0, Nat.zero_le _, ?_, by omega, fun j _ hj => hall _ (gt_mem (by omega) (by omega))⟩
      rw [List.take_zero, List.filter_eq_nil_iff]
      intro y hy
      have := hall y hy
      simp; omega
def cutC (c : List Custody) (m : Int) : List Custody := c.filter fun x => decide (x.fSpan.fFrom ≤ m)
def okWM (p : Pool) (w m : Int) : Prop := 0 ≤ w ∧ w < (p.fFleet.fWagons.length : Int) ∧ 0 ≤ m ∧ m ≤ 1073741824
instance (p : Pool) (w m : Int) : Decidable (okWM p w m) := by unfold okWM; infer_instance
theorem At_all (φ : Nat) (hφ : 800000 < φ) (p : Pool) (l : List Report) (hl : l.length ≤ 90000) (w m : Int) :
    handover_At φ p l w m = some (if chkPool p ≠ 0 then (0, chkPool p) else if okWM p w m then ((lastC (cutC (chnC p l w) m)).fRailway, 0) else (0, 1)) := by
  unfold handover_At
  rw [check_eq φ p w m _ (fleet_CheckPool_eq φ hφ p), Option.bind_some]
  by_cases hc : chkPool p = 0
  case neg => rw [if_pos hc, if_pos (by simpa using hc), if_pos hc]
  rw [if_neg (fun e : chkPool p ≠ 0 => e hc), if_neg (fun e : chkPool p ≠ 0 => e hc)]
  by_cases hv : okWM p w m
  case neg =>
    have hv' : ¬ (0 ≤ w ∧ w < (p.fFleet.fWagons.length : Int) ∧ 0 ≤ m ∧ m ≤ 1073741824) := hv
    rw [if_neg hv', if_pos (by decide), if_neg hv]
  have hv' : 0 ≤ w ∧ w < (p.fFleet.fWagons.length : Int) ∧ 0 ≤ m ∧ m ≤ 1073741824 := hv
  rw [if_pos hv', if_neg (by decide), if_pos hv]
  obtain ⟨w0, w1, m0, m1⟩ := hv
  rw [chn_all φ hφ p l (by omega) hc w ⟨w0, w1⟩, Option.bind_some]
  obtain ⟨c1, c2⟩ := chnC_len p l w
  have e : W (((chnC p l w).length : Int) - 1) = (((chnC p l w).length - 1 : Nat) : Int) := by rw [W_id (by omega) (by omega)]; omega
  obtain ⟨i, h1, h2, h3, h4⟩ := At_loop φ m (chnC p l w) (by omega) φ ((chnC p l w).length - 1) (by omega) ⟨0, by omega, by
    have : gt (chnC p l w) ((0 : Nat) : Int) = homeC p w := chnC_head p l w
    rw [this]; exact m0⟩ (by omega)
  rw [e, h4]
  obtain ⟨i0, k1, k2, k3, k4⟩ := chn_cut _ (chnC_chn p l w) m
  have : i0 = i + 1 := by
    by_cases q : i < i0
    · by_cases q2 : i + 1 < i0
      · have a := h3 (i + 1) (by omega) (by omega)
        have b := k3 (i + 1) q2
        omega
      · omega
    · have := k4 i (by omega) (by omega); omega
  unfold cutC
  rw [k2, this, take_succ_gt _ _ (by omega), lastC_app]
def spnC (c : List Custody) (u : Int) : List Custody := spansN c u (cutC c (u - 1)).length
theorem Spans_all (φ : Nat) (hφ : 800000 < φ) (p : Pool) (l : List Report) (hl : l.length ≤ 90000) (w u : Int) :
    handover_Spans φ p l w u = some (if chkPool p ≠ 0 then ([], chkPool p) else if okWM p w u then (spnC (chnC p l w) u, 0) else ([], 1)) := by
  unfold handover_Spans
  rw [check_eq φ p w u _ (fleet_CheckPool_eq φ hφ p), Option.bind_some]
  by_cases hc : chkPool p = 0
  case neg => rw [if_pos hc, if_pos (by simpa using hc), if_pos hc]
  rw [if_neg (fun e : chkPool p ≠ 0 => e hc), if_neg (fun e : chkPool p ≠ 0 => e hc)]
  by_cases hv : okWM p w u
  case neg =>
    have hv' : ¬ (0 ≤ w ∧ w < (p.fFleet.fWagons.length : Int) ∧ 0 ≤ u ∧ u ≤ 1073741824) := hv
    rw [if_neg hv', if_pos (by decide), if_neg hv]
  have hv' : 0 ≤ w ∧ w < (p.fFleet.fWagons.length : Int) ∧ 0 ≤ u ∧ u ≤ 1073741824 := hv
  rw [if_pos hv', if_neg (by decide), if_pos hv]
  obtain ⟨w0, w1, m0, m1⟩ := hv
  rw [chn_all φ hφ p l (by omega) hc w ⟨w0, w1⟩, Option.bind_some]
  obtain ⟨c1, c2⟩ := chnC_len p l w
  obtain ⟨i, h1, h2, h3, h4⟩ := Spans_loop φ u (chnC p l w) (by omega) (by omega)
  rw [h4]
  obtain ⟨i0, k1, k2, k3, k4⟩ := chn_cut _ (chnC_chn p l w) (u - 1)
  have : i0 = i := by
    by_cases q : i < i0
    · have a := k3 i q
      have b := h3 (by omega)
      omega
    · by_cases q2 : i0 < i
      · have a := k4 i0 (by omega) (by omega)
        have b := h2 i0 q2
        omega
      · omega
  unfold spnC cutC
  rw [k2, List.length_take, this, Nat.min_eq_left h1]
end Px
end
section
namespace Px
open Go
theorem sane27_true : law27_sane 1000000 = some true := by kernel_rfl
end Px
end
section
namespace Px
open Go
set_option linter.unusedVariables false
set_option linter.unusedSimpArgs false
theorem cut_spec {c : List Custody} (h : Chn c) (m : Int) : (cutC c m).length ≤ c.length ∧ cutC c m = c.take (cutC c m).length ∧ (∀ j : Nat, j < (cutC c m).length → (gt c (j : Int)).fSpan.fFrom ≤ m) ∧
    ∀ j : Nat, (cutC c m).length ≤ j → j < c.length → m < (gt c (j : Int)).fSpan.fFrom := by
  obtain ⟨i, h1, h2, h3, h4⟩ := chn_cut c h m
  have e : (cutC c m).length = i := by unfold cutC; rw [h2, List.length_take, Nat.min_eq_left h1]
  rw [e]
  exact ⟨h1, h2, h3, h4⟩
theorem cut_mono {c : List Custody} (h : Chn c) {m n : Int} (hmn : m ≤ n) : (cutC c m).length ≤ (cutC c n).length := by
  obtain ⟨a1, _, a3, a4⟩ := cut_spec h m
  obtain ⟨b1, _, b3, b4⟩ := cut_spec h n
  by_cases q : (cutC c m).length ≤ (cutC c n).length
  · exact q
  · have := a3 (cutC c n).length (by omega)
    have := b4 (cutC c n).length (Nat.le_refl _) (by omega)
    omega
theorem spn_at (c : List Custody) (u : Int) (n i : Nat) (h : i < n) : gt (spansN c u n) (i : Int) = setTo (gt c (i : Int)) (if i + 1 < n then (gt c ((i + 1 : Nat) : Int)).fSpan.fFrom else u) := by
  cases n with
  | zero => omega
  | succ n =>
    unfold spansN
    by_cases q : i < n
    · rw [gt_app_left _ _ _ (by omega) (by simp; omega), if_pos (by omega), gt_nat (by simp; omega)]
      simp
    · have e : i = n := by omega
      subst e
      rw [gt_at (by simp), if_neg (by omega)]
theorem spnC_len (c : List Custody) (u : Int) : (spnC c u).length = (cutC c (u - 1)).length := spansN_len _ _ _
theorem chn_cut_pos {p : Pool} {l : List Report} {w : Int} {m : Int} (hm : 0 ≤ m) : 1 ≤ (cutC (chnC p l w) m).length := by
  obtain ⟨h1, _, _, h4⟩ := cut_spec (chnC_chn p l w) m
  obtain ⟨c1, _⟩ := chnC_len p l w
  by_cases q : 1 ≤ (cutC (chnC p l w) m).length
  · exact q
  · have := h4 0 (by omega) (by omega)
    have e : gt (chnC p l w) ((0 : Nat) : Int) = homeC p w := chnC_head p l w
    rw [e] at this
    have : (homeC p w).fSpan.fFrom = 0 := rfl
    omega
theorem eqCus_iff {x y : Custody} : eqCustodyB x y = true ↔ x = y := by
  obtain ⟨a, ⟨b, c⟩, ⟨d, e⟩⟩ := x
  obtain ⟨a', ⟨b', c'⟩, ⟨d', e'⟩⟩ := y
  simp only [eqCustodyB, Bool.and_eq_true, beq_iff_eq, Bool.and_true, Custody.mk.injEq, Span.mk.injEq, Ref.mk.injEq]
theorem lastC_take {c : List Custody} {i : Nat} (h0 : 0 < i) (h : i ≤ c.length) : lastC (c.take i) = gt c ((i - 1 : Nat) : Int) := by
  obtain ⟨j, rfl⟩ : ∃ j, i = j + 1 := ⟨i - 1, by omega⟩
  rw [take_succ_gt _ _ (by omega), lastC_app]; rfl
theorem handoverAt_true (p : Pool) (l : List Report) (w m u t : Int) {A B C D E F : Prop} (_ : A) (_ : B) (_ : C) (_ : D) (_ : E) (_ : F) : ∃ φ, law27_HandoverAt φ p l w m u t = some true := by
  refine ⟨1000000, ?_⟩
  have h8 : 800000 < 1000000 := by omega
  unfold law27_HandoverAt
  obtain ⟨b, hb, hb2⟩ := few_ex 1000000 (by omega) p l
  simp only [Pool.eta', sane27_true, hb, Option.bind_some]
  rw [if_neg (by simp)]
  cases b with
  | false => rw [if_pos (by simp)]
  | true =>
  obtain ⟨hl, _⟩ := hb2 rfl
  by_cases hg : m < 0 ∨ u ≤ m ∨ t < u
  · rw [if_pos (by simp only [Bool.not_true, Bool.false_or, Bool.or_eq_true, decide_eq_true_eq]; omega)]
  rw [if_neg (by simp only [Bool.not_true, Bool.false_or, Bool.or_eq_true, decide_eq_true_eq]; omega)]
  simp only [At_all _ h8 p l (by omega), Spans_all _ h8 p l (by omega), Option.bind_some]
  by_cases hc : chkPool p = 0
  case neg =>
    simp only [if_pos hc]
    rw [if_pos (by simpa using hc)]; rfl
  simp only [if_neg (fun e : chkPool p ≠ 0 => e hc)]
  by_cases ht : okWM p w t
  case neg => simp only [if_neg ht]; rfl
  have hu : okWM p w u := ⟨ht.1, ht.2.1, by have := ht.2.2; omega, by have := ht.2.2; omega⟩
  have hm : okWM p w m := ⟨ht.1, ht.2.1, by omega, by have := ht.2.2; omega⟩
  simp only [if_pos ht, if_pos hu, if_pos hm]
  rw [if_neg (by decide)]
  have hch := chnC_chn p l w
  obtain ⟨c1, c2⟩ := chnC_len p l w
  have pm := chn_cut_pos (p := p) (l := l) (w := w) (m := m) (by omega)
  generalize chnC p l w = c at *
  obtain ⟨a1, a2, a3, a4⟩ := cut_spec hch m
  obtain ⟨b1, _, b3, b4⟩ := cut_spec hch (u - 1)
  obtain ⟨d1, _, d3, d4⟩ := cut_spec hch (t - 1)
  have m1 := cut_mono hch (show m ≤ u - 1 by omega)
  have m2 := cut_mono hch (show u - 1 ≤ t - 1 by omega)
  have e1 := spnC_len c u
  have e2 := spnC_len c t
  have ea : lastC (cutC c m) = gt c (((cutC c m).length - 1 : Nat) : Int) := by rw [a2]; rw [lastC_take (by omega) a1, List.length_take, Nat.min_eq_left a1]
  rw [if_neg (by simp only [bne_self_eq_false, Bool.false_or, decide_eq_true_eq]; omega), ea]
  unfold spnC at *
  generalize hi : (cutC c m).length = im at *
  generalize hj : (cutC c (u - 1)).length = iu at *
  generalize hk : (cutC c (t - 1)).length = it at *
  refine loop_up0 (fun n i s => law27_HandoverAt_L68 1000000 m u ((gt c ((im - 1 : Nat) : Int)).fRailway, 0) (spansN c u iu, 0) (spansN c t it, 0) (law27_HandoverAt_j46 1000000 u (spansN c u iu, 0) (spansN c t it, 0)) n s i) iu
    (fun i s => s = if im ≤ i then 1 else 0) (fun o => o = some true) ?_ ?_ _ 0 (by rw [if_neg (by omega)]) (by omega)
  · intro n i s hi' hs hk'
    have hw1 : W ((i : Int) + 1) = (i : Int) + 1 := W_id (by omega) (by omega)
    rw [law27_HandoverAt_L68, if_pos (by simp only [decide_eq_true_eq, e1]; omega), ck_pos ⟨by omega, by simp only [e2]; omega⟩, ck_pos ⟨by omega, by simp only [e1]; omega⟩]
    simp only [spn_at c u iu i hi', spn_at c t it i (by omega), setTo]
    have hto : min2 (if i + 1 < it then (gt c ((i + 1 : Nat) : Int)).fSpan.fFrom else t) u = if i + 1 < iu then (gt c ((i + 1 : Nat) : Int)).fSpan.fFrom else u := by
      unfold min2
      by_cases q : i + 1 < iu
      · rw [if_pos (by omega : i + 1 < it), if_pos q]
        have := b3 (i + 1) q
        split <;> omega
      · rw [if_neg q]
        by_cases q2 : i + 1 < it
        · rw [if_pos q2]
          have := b4 (i + 1) (by omega) (by omega)
          split <;> omega
        · rw [if_neg q2]; split <;> omega
    rw [hto, eqCus_iff.2 rfl, if_neg (by simp), ck_pos ⟨by omega, by simp only [e1]; omega⟩]
    unfold law27_HandoverAt_j85
    rw [hw1]
    have hiff : ((gt c (i : Int)).fSpan.fFrom ≤ m ∧ m < if i + 1 < iu then (gt c ((i + 1 : Nat) : Int)).fSpan.fFrom else u) ↔ i + 1 = im := by
      constructor
      · rintro ⟨q1, q2⟩
        have r1 : i < im := by
          by_cases q : i < im
          · exact q
          · have := a4 i (by omega) (by omega); omega
        by_cases q3 : i + 1 < im
        · rw [if_pos (by omega)] at q2
          have := a3 (i + 1) q3; omega
        · omega
      · intro q
        refine ⟨a3 i (by omega), ?_⟩
        split
        · exact a4 (i + 1) (by omega) (by omega)
        · omega
    by_cases q : i + 1 = im
    · rw [if_pos (by simpa using hiff.2 q), if_neg (by rw [show im - 1 = i by omega]; simp)]
      refine hk' _ ?_
      rw [hs, if_neg (by omega), if_pos (by omega)]; rfl
    · rw [if_neg (fun h => q (hiff.1 (by simpa using h)))]
      refine hk' _ ?_
      rw [hs]
      by_cases q2 : im ≤ i
      · rw [if_pos q2, if_pos (by omega)]
      · rw [if_neg q2, if_neg (by omega)]
  · intro n s hs
    rw [law27_HandoverAt_L68, if_neg (by simp [e1]), hs, if_pos m1]
    unfold law27_HandoverAt_j46
    simp only [e1, e2]
    rw [ck_pos (fun h => by
      have := h.2
      simp only [beq_eq_false_iff_ne, ne_eq] at this
      omega)]
    by_cases q : iu = it
    · simp [q]
    · have hg : gt (spansN c t it) (iu : Int) = _ := spn_at c t it iu (by omega)
      rw [hg]
      have := b4 iu (Nat.le_refl _) (by omega)
      simp only [setTo]
      have hle : u ≤ (gt c (iu : Int)).fSpan.fFrom := by omega
      simp [hle]
end Px
end
