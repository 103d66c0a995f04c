/- A part of the proof of handoverPartition_holds. Conditions: none. -/
import Derived.Test.YteljjchaealkoaaPtd
section
set_option linter.unusedVariables false
set_option linter.unusedSimpArgs false
set_option maxHeartbeats 4000000
set_option maxRecDepth 100000
namespace Px
open Go Go.RowKit Go.Proofs
theorem slices_stableCmpFunc_eHandover_ok {P : Program} (H : P = Try.prog) (φ : Nat) (v1 : (List Handover)) (v3 : Int) (y4 : (Handover → Handover → Option Int)) (sv2 : Value) (r : (List Handover)) (h : slices_stableCmpFunc_eHandover φ v1 v3 y4 = some r) : MutT P 55 [(eqv sv2), (iv .i64 v3), (fcmp P (fun x => (agg (eHandover x))) y4)] 70 eHandover 10 v1 sv2 (fun x l' => x = eqv (.tuple #[]) ∧ r = l') := by
 unfold slices_stableCmpFunc_eHandover at h
 refine MutT.of_code 63 (fn55 H) rfl rfl (Nat.le_of_ble_eq_true rfl) fun w0 base r0 wI => ?_
 refine cl [0, 1, 2] [0] rfl rfl rfl (cs (cr [0] rfl (q1 rfl (opAssign ct) (rn (al [0, 1, 2, 6] [0] rfl rfl rfl (sq (cs (cr [0, 1, 2] rfl (q1 rfl (opMove (mv rfl)) (q1 rfl (opAssign ct) (q1 rfl (opAssign (mv rfl)) ?_)))))))))))
 refine rn (al [0, 1, 2, 6, 7, 8] [0] rfl rfl rfl (sq (cs ?_)))
 refine CodeT.join (fun z : Int × (List Handover) => (slices_stableCmpFunc_eHandover_j7 φ v3 y4) z.1 z.2) r (fun z => ⟨Slots.of [(0, (eqv sv2)), (1, (iv .i64 v3)), (2, (fcmp P (fun x => (agg (eHandover x))) y4)), (6, (iv .i64 20)), (7, (iv .i64 z.1))], [(row 70 eHandover 10 z.2 sv2)]⟩) (fun z h => ?_) (fun hJ7 => ?_)
 ·
  obtain ⟨v5, v6⟩ := z
  replace h : (slices_stableCmpFunc_eHandover_j7 φ v3 y4) v5 v6 = some r := h
  unfold slices_stableCmpFunc_eHandover_j7 at h
  refine al [0, 1, 2, 6, 7] [0] rfl rfl rfl (sq (cs (cr [0, 1, 2, 3, 4] rfl (q1 rfl (opMove (mv rfl)) (q1 rfl (opMove (mv rfl)) (q1 rfl (opMove (mv rfl)) (q1 rfl (opMove (mv rfl)) (bindE h fun y8 ey8 h => n1 rfl (opCallM 0 rfl (fun x => (fHandover x).mem) (fnok75 H) (args := [(eqv sv2), (iv .i64 v5), (iv .i64 v3), (fcmp P (fun x => (agg (eHandover x))) y4)]) ⟨(mv rfl), (mv rfl), (mv rfl), (mv rfl), trivial⟩ (slices_insertionSortCmpFunc_eHandover_ok H φ v6 v5 v3 y4 sv2 _ ey8) fun x9 nw10 hk11 => ?_)))))))))
  obtain ⟨rfl, rfl⟩ := hk11
  refine ⟨flat_eqv, ?_⟩
  refine rn (al [0, 1, 2, 6] [0] rfl rfl rfl (sq (CodeT.block ?_)))
  refine CodeT.to (CodeT.loop (fun n (z : Int × (List Handover)) => slices_stableCmpFunc_eHandover_L14 φ v3 y4 n z.1 z.2) r (fun z => ⟨Slots.of [(0, (eqv sv2)), (1, (iv .i64 v3)), (2, (fcmp P (fun x => (agg (eHandover x))) y4)), (6, (iv .i64 z.1))], [(row 70 eHandover 10 z.2 sv2)]⟩) (fun z => rfl) (fun n14 z ih14 h => ?_) φ (20, y8) h) [0] (sl rfl) (ol rfl) rfl
  obtain ⟨v12, v13⟩ := z
  replace h : slices_stableCmpFunc_eHandover_L14 φ v3 y4 (n14 + 1) v12 v13 = some r := h
  rw [slices_stableCmpFunc_eHandover_L14] at h
  refine cs (cs (cr [0, 1, 2] rfl (q1 rfl (opMove (mv rfl)) (q1 rfl (opMove (mv rfl)) (q1 rfl (opLss (mv rfl) (mv rfl)) (rn (al [0, 1, 2, 6, 30] [0] rfl rfl rfl (sq ?_))))))))
  refine cI h rfl (fun c15 h => ?_) (fun c15 h => ?_)
  ·
   refine CodeT.skip (al [0, 1, 2, 6] [0] rfl rfl rfl (sq (CodeT.block (cs (cr [0, 1, 2, 3] rfl (q1 rfl (opMove (mv rfl)) (q1 rfl (opMul ct (mv rfl)) (q1 rfl (opAssign ct) (q1 rfl (opAssign (mv rfl)) (rn (al [0, 1, 2, 6, 7, 8] [0] rfl rfl rfl ?_)))))))))))
   refine sq (cs ?_)
   refine CodeT.join (fun z : Int × (List Handover) => (slices_stableCmpFunc_eHandover_j18 φ v3 y4 v12 (slices_stableCmpFunc_eHandover_L14 φ v3 y4 n14)) z.1 z.2) r (fun z => ⟨Slots.of [(0, (eqv sv2)), (1, (iv .i64 v3)), (2, (fcmp P (fun x => (agg (eHandover x))) y4)), (6, (iv .i64 v12)), (7, (iv .i64 z.1))], [(row 70 eHandover 10 z.2 sv2)]⟩) (fun z h => ?_) (fun hJ18 => ?_)
   ·
    obtain ⟨v16, v17⟩ := z
    replace h : (slices_stableCmpFunc_eHandover_j18 φ v3 y4 v12 (slices_stableCmpFunc_eHandover_L14 φ v3 y4 n14)) v16 v17 = some r := h
    unfold slices_stableCmpFunc_eHandover_j18 at h
    refine al [0, 1, 2, 6, 7] [0] rfl rfl rfl (sq (cs (cs (cr [0, 1, 2, 3] rfl (q1 rfl (opMove (mv rfl)) (q1 rfl (opMove (mv rfl)) (q1 rfl (opAdd (mv rfl) (mv rfl)) (q1 rfl (opAssign (mv rfl)) (rn (al [0, 1, 2, 6, 7, 9] [0] rfl rfl rfl (sq ?_)))))))))))
    refine cs (cr [0, 1, 2] rfl (q1 rfl (opMove (mv rfl)) (q1 rfl (opMove (mv rfl)) (q1 rfl (opLss (mv rfl) (mv rfl)) (rn (al [0, 1, 2, 6, 7, 9, 54] [0] rfl rfl rfl (sq ?_)))))))
    refine CodeT.join (fun z : (List Handover) => (slices_stableCmpFunc_eHandover_j20 φ v12 (slices_stableCmpFunc_eHandover_L14 φ v3 y4 n14)) z) r (fun z => ⟨Slots.of [(0, (eqv sv2)), (1, (iv .i64 v3)), (2, (fcmp P (fun x => (agg (eHandover x))) y4)), (6, (iv .i64 v12))], [(row 70 eHandover 10 z sv2)]⟩) (fun v19 h => ?_) (fun hJ20 => ?_)
    ·
     replace h : (slices_stableCmpFunc_eHandover_j20 φ v12 (slices_stableCmpFunc_eHandover_L14 φ v3 y4 n14)) v19 = some r := h
     unfold slices_stableCmpFunc_eHandover_j20 at h
     refine al [0, 1, 2, 6] [0] rfl rfl rfl (sq (cr [0, 1, 2] rfl (q1 rfl (opMove (mv rfl)) (q1 rfl (opMul (mv rfl) ct) (q1 rfl (opAssign (mv rfl)) (rn (AtX.in_normal ?_)))))))
     exact AtX.to (ih14 ((W (v12 * 2)), v19) h) [0] (sl rfl) (ol rfl) rfl
    ·
     refine cI h rfl (fun c21 h => ?_) (fun c21 h => ?_)
     ·
      refine cr [0, 1, 2, 3, 4, 5] rfl (q1 rfl (opMove (mv rfl)) (q1 rfl (opMove (mv rfl)) (q1 rfl (opMove (mv rfl)) (q1 rfl (opMove (mv rfl)) (q1 rfl (opMove (mv rfl)) (bindE h fun y22 ey22 h => n1 rfl (opCallM 0 rfl (fun x => (fHandover x).mem) (fnok76 H) (args := [(eqv sv2), (iv .i64 v16), (iv .i64 (W (v16 + v12))), (iv .i64 v3), (fcmp P (fun x => (agg (eHandover x))) y4)]) ⟨(mv rfl), (mv rfl), (mv rfl), (mv rfl), (mv rfl), trivial⟩ (slices_symMergeCmpFunc_eHandover_ok H φ v17 v16 (W (v16 + v12)) v3 y4 sv2 _ ey22) fun x23 nw24 hk25 => ?_)))))))
      obtain ⟨rfl, rfl⟩ := hk25
      refine ⟨flat_eqv, ?_⟩
      refine rn ?_
      exact AtX.to (hJ20 y22 h) [0] (sl rfl) (ol rfl) rfl
     ·
      refine CodeT.skip ?_
      exact AtX.to (hJ20 v17 h) [0] (sl rfl) (ol rfl) rfl
   ·
    refine CodeT.block ?_
    refine CodeT.to (CodeT.loop (fun n (z : Int × Int × (List Handover)) => slices_stableCmpFunc_eHandover_L29 φ v3 y4 v12 (slices_stableCmpFunc_eHandover_j18 φ v3 y4 v12 (slices_stableCmpFunc_eHandover_L14 φ v3 y4 n14)) n z.1 z.2.1 z.2.2) r (fun z => ⟨Slots.of [(0, (eqv sv2)), (1, (iv .i64 v3)), (2, (fcmp P (fun x => (agg (eHandover x))) y4)), (6, (iv .i64 v12)), (7, (iv .i64 z.1)), (8, (iv .i64 z.2.1))], [(row 70 eHandover 10 z.2.2 sv2)]⟩) (fun z => rfl) (fun n29 z ih29 h => ?_) φ (0, (W (2 * v12)), v13) h) [0] (sl rfl) (ol rfl) rfl
    obtain ⟨v26, v27, v28⟩ := z
    replace h : slices_stableCmpFunc_eHandover_L29 φ v3 y4 v12 (slices_stableCmpFunc_eHandover_j18 φ v3 y4 v12 (slices_stableCmpFunc_eHandover_L14 φ v3 y4 n14)) (n29 + 1) v26 v27 v28 = some r := h
    rw [slices_stableCmpFunc_eHandover_L29] at h
    refine cs (cs (cr [0, 1, 2] rfl (q1 rfl (opMove (mv rfl)) (q1 rfl (opMove (mv rfl)) (q1 rfl (opLeq (mv rfl) (mv rfl)) (rn (al [0, 1, 2, 6, 7, 8, 35] [0] rfl rfl rfl (sq ?_))))))))
    refine cI h rfl (fun c30 h => ?_) (fun c30 h => ?_)
    ·
     refine CodeT.skip (al [0, 1, 2, 6, 7, 8] [0] rfl rfl rfl (sq (CodeT.block (cs (cr [0, 1, 2, 3, 4, 5, 6, 7] rfl (q1 rfl (opMove (mv rfl)) (q1 rfl (opMove (mv rfl)) (q1 rfl (opMove (mv rfl)) (q1 rfl (opMove (mv rfl)) (q1 rfl (opAdd (mv rfl) (mv rfl)) (q1 rfl (opMove (mv rfl)) ?_)))))))))))
     refine q1 rfl (opMove (mv rfl)) (bindE h fun y31 ey31 h => n1 rfl (opCallM 0 rfl (fun x => (fHandover x).mem) (fnok76 H) (args := [(eqv sv2), (iv .i64 v26), (iv .i64 (W (v26 + v12))), (iv .i64 v27), (fcmp P (fun x => (agg (eHandover x))) y4)]) ⟨(mv rfl), (mv rfl), (mv rfl), (mv rfl), (mv rfl), trivial⟩ (slices_symMergeCmpFunc_eHandover_ok H φ v28 v26 (W (v26 + v12)) v27 y4 sv2 _ ey31) fun x32 nw33 hk34 => ?_))
     obtain ⟨rfl, rfl⟩ := hk34
     refine ⟨flat_eqv, ?_⟩
     refine rn (al [0, 1, 2, 6, 8] [0] rfl rfl rfl (sq (cs (cr [0, 1] rfl (q1 rfl (opMove (mv rfl)) (q1 rfl (opAssign (mv rfl)) (rn (al [0, 1, 2, 6, 7, 8] [0] rfl rfl rfl (sq (cr [0, 1, 2, 3, 4] rfl (q1 rfl (opMove (mv rfl)) ?_)))))))))))
     refine q1 rfl (opMove (mv rfl)) (q1 rfl (opMul ct (mv rfl)) (q1 rfl (opAdd (mv rfl) (mv rfl)) (q1 rfl (opAssign (mv rfl)) (rn (AtX.in_normal ?_)))))
     exact AtX.to (ih29 (v27, (W (v27 + (W (2 * v12)))), y31) h) [0] (sl rfl) (ol rfl) rfl
    ·
     refine CodeT.exit (AtX.then_exit (AtX.then_exit (AtX.in_hit ?_)))
     exact AtX.to (hJ18 (v26, v28) h) [0] (sl rfl) (ol rfl) rfl
  ·
   refine CodeT.exit (AtX.then_exit (AtX.then_exit (AtX.in_hit (AtX.fall' (eqv (.tuple #[])) (ResOK.zero Try.results55) [0] [(row 70 eHandover 10 v13 sv2)] (ol rfl) rfl ?_))))
   obtain rfl := Option.some.inj h
   exact ⟨_, rfl, rfl, rfl⟩
 ·
  refine CodeT.block ?_
  refine CodeT.to (CodeT.loop (fun n (z : Int × Int × (List Handover)) => slices_stableCmpFunc_eHandover_L38 φ v3 y4 (slices_stableCmpFunc_eHandover_j7 φ v3 y4) n z.1 z.2.1 z.2.2) r (fun z => ⟨Slots.of [(0, (eqv sv2)), (1, (iv .i64 v3)), (2, (fcmp P (fun x => (agg (eHandover x))) y4)), (6, (iv .i64 20)), (7, (iv .i64 z.1)), (8, (iv .i64 z.2.1))], [(row 70 eHandover 10 z.2.2 sv2)]⟩) (fun z => rfl) (fun n38 z ih38 h => ?_) φ (0, 20, v1) h) [0] (sl rfl) (ol rfl) rfl
  obtain ⟨v35, v36, v37⟩ := z
  replace h : slices_stableCmpFunc_eHandover_L38 φ v3 y4 (slices_stableCmpFunc_eHandover_j7 φ v3 y4) (n38 + 1) v35 v36 v37 = some r := h
  rw [slices_stableCmpFunc_eHandover_L38] at h
  refine cs (cs (cr [0, 1, 2] rfl (q1 rfl (opMove (mv rfl)) (q1 rfl (opMove (mv rfl)) (q1 rfl (opLeq (mv rfl) (mv rfl)) (rn (al [0, 1, 2, 6, 7, 8, 13] [0] rfl rfl rfl (sq ?_))))))))
  refine cI h rfl (fun c39 h => ?_) (fun c39 h => ?_)
  ·
   refine CodeT.skip (al [0, 1, 2, 6, 7, 8] [0] rfl rfl rfl (sq (CodeT.block (cs (cr [0, 1, 2, 3, 4] rfl (q1 rfl (opMove (mv rfl)) (q1 rfl (opMove (mv rfl)) (q1 rfl (opMove (mv rfl)) (q1 rfl (opMove (mv rfl)) (bindE h fun y40 ey40 h => n1 rfl (opCallM 0 rfl (fun x => (fHandover x).mem) (fnok75 H) (args := [(eqv sv2), (iv .i64 v35), (iv .i64 v36), (fcmp P (fun x => (agg (eHandover x))) y4)]) ⟨(mv rfl), (mv rfl), (mv rfl), (mv rfl), trivial⟩ (slices_insertionSortCmpFunc_eHandover_ok H φ v37 v35 v36 y4 sv2 _ ey40) fun x41 nw42 hk43 => ?_)))))))))))
   obtain ⟨rfl, rfl⟩ := hk43
   refine ⟨flat_eqv, ?_⟩
   refine rn (al [0, 1, 2, 6, 8] [0] rfl rfl rfl (sq (cs (cr [0, 1] rfl (q1 rfl (opMove (mv rfl)) (q1 rfl (opAssign (mv rfl)) (rn (al [0, 1, 2, 6, 7, 8] [0] rfl rfl rfl (sq (cr [0, 1, 2, 3] rfl (q1 rfl (opMove (mv rfl)) ?_)))))))))))
   refine q1 rfl (opMove (mv rfl)) (q1 rfl (opAdd (mv rfl) (mv rfl)) (q1 rfl (opAssign (mv rfl)) (rn (AtX.in_normal ?_))))
   exact AtX.to (ih38 (v36, (W (v36 + 20)), y40) h) [0] (sl rfl) (ol rfl) rfl
  ·
   refine CodeT.exit (AtX.then_exit (AtX.then_exit (AtX.in_hit ?_)))
   exact AtX.to (hJ7 (v35, v37) h) [0] (sl rfl) (ol rfl) rfl
theorem slices_SortStableFunc_eHandover_ok {P : Program} (H : P = Try.prog) (φ : Nat) (v1 : (List Handover)) (y3 : (Handover → Handover → Option Int)) (sv2 : Value) (r : (List Handover)) (h : slices_SortStableFunc_eHandover φ v1 y3 = some r) : MutT P 32 [(eqv sv2), (fcmp P (fun x => (agg (eHandover x))) y3)] 70 eHandover 10 v1 sv2 (fun x l' => x = eqv (.tuple #[]) ∧ r = l') := by
 unfold slices_SortStableFunc_eHandover at h
 refine MutT.of_code 9 (fn32 H) rfl rfl (Nat.le_of_ble_eq_true rfl) fun w0 base r0 wI => ?_
 refine cl [0, 1] [0] rfl rfl rfl (cr [0, 1, 2, 3, 4] rfl (q1 rfl (opMove (mv rfl)) (q1 rfl (opMove (mv rfl)) (q1 rfl (opLenO 0 (il53 H) (mv rfl) rfl) (q1 rfl (opMove (mv rfl)) (bindE h fun y4 ey4 h => n1 rfl (opCallM 0 rfl (fun x => (fHandover x).mem) (fnok55 H) (args := [(eqv sv2), (iv .i64 (v1.length : Int)), (fcmp P (fun x => (agg (eHandover x))) y3)]) ⟨(mv rfl), (mv rfl), (mv rfl), trivial⟩ (slices_stableCmpFunc_eHandover_ok H φ v1 (v1.length : Int) y3 sv2 _ ey4) fun x5 nw6 hk7 => ?_)))))))
 obtain ⟨rfl, rfl⟩ := hk7
 refine ⟨flat_eqv, ?_⟩
 refine rn (AtX.fall' (eqv (.tuple #[])) (ResOK.zero Try.results32) [0] [(row 70 eHandover 10 y4 sv2)] (ol rfl) rfl ?_)
 obtain rfl := Option.some.inj h
 exact ⟨_, rfl, rfl, rfl⟩
theorem handover_Match_c1_ok {P : Program} (H : P = Try.prog) (φ : Nat) (v1 : Handover) (v2 : Handover) (r : (Int)) (h : handover_Match_c1 φ v1 v2 = some r) : PureT P 33 [(agg (eHandover v1)), (agg (eHandover v2))] (fun x news => x = (iv .i64 r) ∧ news = []) := by
 unfold handover_Match_c1 at h
 refine PureT.of_code' 22 (fn33 H) rfl rfl (Nat.le_of_ble_eq_true rfl) fun w0 base r0 wI => ?_
 refine cl [0, 1] [] rfl rfl rfl (cs (cr [0, 1, 2] rfl (n1 rfl (opBox (Ce.agg (mv rfl)) fun b3 => n1 rfl (opBox (Ce.agg (mv rfl)) fun b4 => q1 rfl (opAssign ct) (rn (al [2, 3] [0, 1] rfl rfl rfl (sq (cs (bindE h fun y5 ey5 h => bindE h fun y6 ey6 h => ?_))))))))))
 refine bindE h fun y7 ey7 h => bindE h fun y11 ey11 h => CodeT.draw (QR := [(0, _), (1, _), (2, _), (3, _), (4, _), (5, _), (6, _), (7, _), (8, _), (9, _), (10, _), (11, _), (12, _), (13, _), (14, _)]) (tab := [(some 5, []), (some 6, [0]), (some 7, []), (some 8, [2]), (some 9, [1, 3]), (some 10, []), (some 11, [5]), (some 12, []), (some 13, [7]), (some 14, [6, 8, 4]), (some 15, []), (some 16, [10]), (some 17, []), (some 18, [12]), (some 19, [11, 13, 9]), (some 20, [4, 9, 14]), (some 21, [15, 14]), (some 4, [16, 16, 0, 1, 2, 3, 4, 5, 6, 7, 8, 9, 10, 11, 12, 13, 14, 15, 16])]) (mixed H) (Reg.intro [15] [] (by kernel_rfl) rfl (an rfl) ⟨(qr rfl (opFieldP (fo70_4 H) (mv rfl))), (qr rfl (lb (tl3 H) 0 (mv rfl) rfl rfl)), (qr rfl (opFieldP (fo70_4 H) (mv rfl))), (qr rfl (lb (tl3 H) 1 (mv rfl) rfl rfl)), (qr rfl (oQ (fnok35 H) (cmp_Compare_ok H φ v1.fAt v2.fAt _ ey5) flat_eqv ⟨ef (mv rfl), ef (mv rfl), trivial⟩)), (qr rfl (opFieldP (fo70_0 H) (mv rfl))), (qr rfl (lb (tl3 H) 0 (mv rfl) rfl rfl)), (qr rfl (opFieldP (fo70_0 H) (mv rfl))), (qr rfl (lb (tl3 H) 1 (mv rfl) rfl rfl)), (qr rfl (oQ (fnok35 H) (cmp_Compare_ok H φ v1.fWagon v2.fWagon _ ey6) flat_eqv ⟨ef (mv rfl), ef (mv rfl), trivial⟩)), (qr rfl (opFieldP (fo70_6 H) (mv rfl))), (qr rfl (ln (tl43 H) ((Pt.box 0 (mv rfl) rfl rfl).take 2 (cs' := (eRef v1.fDeliver)) rfl) rfl)), (qr rfl (opFieldP (fo70_6 H) (mv rfl))), (qr rfl (ln (tl43 H) ((Pt.box 1 (mv rfl) rfl rfl).take 2 (cs' := (eRef v2.fDeliver)) rfl) rfl)), (qr rfl (oQ (fnok36 H) (handover_byRef_ok H φ v1.fDeliver v2.fDeliver _ ey7) flat_eqv ⟨ef (mv rfl), ef (mv rfl), trivial⟩)), trivial⟩ ⟨⟨_, rfl, rfl, rfl, rfl, opBuildSlice (e := eI64) [y5, y6, y7] (sl96 H) lI64 rfl (by decide) ⟨rfl, (Ce.one (mv rfl) (One.eqv rfl)), ⟨rfl, (Ce.one (mv rfl) (One.eqv rfl)), ⟨rfl, (Ce.one (mv rfl) (One.eqv rfl)), trivial⟩⟩⟩ fun sv10 => ⟨[(16, (iv .i64 y11)), (17, (iv .i64 y11))], rfl, ?_⟩⟩, trivial⟩ ft)
 refine Reg.intro [] [0, 1, 2, 3, 4, 5, 6, 7, 8, 9, 10, 11, 12, 13, 14] (by kernel_rfl) rfl (an rfl) ⟨nf, nf, nf, nf, nf, nf, nf, nf, nf, nf, nf, nf, nf, nf, nf, (qr rfl (oQ (fnok34 H) (cmp_Or_ok H φ [y5, y6, y7] _ ey11) flat_eqv ⟨EvF.of (mv rfl) (FEnt.row 2 lI64 rfl), trivial⟩)), (qr rfl (opAssign (mv rfl))), trivial⟩ trivial (fun _ => al [4] [] rfl rfl rfl (sq (CodeT.ret (AtX.ret' (iv .i64 y11) (ResOK.one Try.results33 rfl) [] [] trivial rfl ?_))))
 obtain rfl := Option.some.inj h
 exact ⟨rfl, rfl⟩
theorem handover_Match_ok {P : Program} (H : P = Try.prog) (φ : Nat) (v1 : Pool) (v2 : (List Report)) (r : ((List Handover))) (h : handover_Match φ v1 v2 = some r) : PureT P 13 [(agg (ePool v1)), (ro eReport 21 v2)] (K_handover_Match r) := by
 unfold handover_Match at h
 refine PureT.of_code' 67 (fn13 H) rfl rfl (Nat.le_of_ble_eq_true rfl) fun w0 base r0 wI => ?_
 refine CodeT.le' [(0, (agg (ePool v1))), (1, (ro eReport 21 v2))] [] [] ⟨⟨_, rfl, Ent.refl⟩, ⟨_, rfl, Ent.refl⟩, trivial⟩ trivial rfl ?_
 refine CodeT.seq ?_
 refine CodeT.addNil 70 eHandover 10 ?_
 refine CodeT.region' [0, 1] rfl ?_
 refine RunOps.cons rfl rfl rfl (opBox (cs := (ePool v1)) (Ce.agg (Ev.tmp rfl)) fun b3 => RunOps.cons_q (eqv (.slice none 0 0)) rfl rfl rfl (opAssign (Ev.const _)) (RunOps.nil (AtX.le' [(1, (ro eReport 21 v2)), (2, (eqv (.pointer (some ⟨b3, 0, none⟩))))] [1] [(box b3 36 (ePool v1))] ⟨⟨_, rfl, Ent.refl⟩, ⟨_, rfl, Ent.refl⟩, trivial⟩ ⟨⟨_, rfl, EntH.refl⟩, trivial⟩ rfl (AtX.seq ?_))))
 refine CodeT.seq ?_
 refine CodeT.addNil 70 eHandover 10 ?_
 refine CodeT.region' [0] rfl ?_
 refine RunOps.cons_q (eqv (.slice none 0 0)) rfl rfl rfl (opAssign (Ev.const _)) (RunOps.nil (AtX.le' [(1, (ro eReport 21 v2)), (2, (eqv (.pointer (some ⟨b3, 0, none⟩)))), (5, (eqv (Value.slice none 0 0)))] [0, 1] [(box b3 36 (ePool v1)), (row 70 eHandover 10 ([] : List Handover) (Value.slice none 0 0))] ⟨⟨_, rfl, Ent.refl⟩, ⟨_, rfl, Ent.refl⟩, ⟨_, rfl, Ent.refl⟩, trivial⟩ ⟨⟨_, rfl, EntH.refl⟩, ⟨_, rfl, EntH.refl⟩, trivial⟩ rfl (AtX.seq ?_)))
 refine CodeT.seq ?_
 refine CodeT.seq ?_
 refine CodeT.region' [0, 1, 2, 3, 4] rfl ?_
 refine RunOps.cons_q (agg (ePool v1)) rfl rfl rfl (opLoadN (tl36 H) ((Pt.box 0 (Ev.tmp rfl) rfl rfl).take 9 (cs' := (ePool v1)) rfl)) (RunOps.cons_q (ro eReport 21 v2) rfl rfl rfl (opMove (Ev.tmp rfl)) (bindE h fun y4 ey4 h => RunOps.cons rfl rfl rfl (opCallF (fnok31 H) (args := [(agg (ePool v1)), (ro eReport 21 v2)]) ⟨EvF.of (Ev.tmp rfl) FEnt.refl, EvF.of (Ev.tmp rfl) FEnt.refl, trivial⟩ (handover_pairs_ok H φ v1 v2 _ ey4) fun x7 nw8 hk6 => ?_)))
 obtain ⟨sv5, rfl, rfl⟩ := hk6
 refine ⟨flat_eqv, allFlatH ⟨flat_row' fA2I64, trivial⟩, ?_⟩
 refine RunOps.cons_q (iv .i64 (y4.length : Int)) rfl rfl rfl (opLenO 2 (il87 H) (Ev.tmp rfl) rfl) (RunOps.cons_q (iv .i64 0) rfl rfl rfl (opMove (Ev.const _)) (RunOps.nil (AtX.le' [(1, (ro eReport 21 v2)), (5, (eqv (Value.slice none 0 0))), (12, (eqv sv5)), (13, (iv .i64 (y4.length : Int))), (14, (iv .i64 0))] [1, 2] [(row 70 eHandover 10 ([] : List Handover) (Value.slice none 0 0)), (row 89 eA2I64 2 y4 sv5)] ⟨⟨_, rfl, Ent.refl⟩, ⟨_, rfl, Ent.refl⟩, ⟨_, rfl, Ent.refl⟩, ⟨_, rfl, Ent.refl⟩, ⟨_, rfl, Ent.refl⟩, trivial⟩ ⟨⟨_, rfl, EntH.refl⟩, ⟨_, rfl, EntH.refl⟩, trivial⟩ rfl (AtX.seq ?_))))
 refine CodeT.join (fun z : (List Handover) × Value => (handover_Match_j11 φ) z.1) r (fun z => ⟨Slots.of [(5, (eqv z.2))], [(row 70 eHandover 10 z.1 z.2)]⟩) (fun z h => ?_) (fun hJ11 => ?_)
 ·
  obtain ⟨v9, sv10⟩ := z
  replace h : (handover_Match_j11 φ) v9 = some r := h
  unfold handover_Match_j11 at h
  change AtX _ ⟨Slots.of [(5, (eqv sv10))], [(row 70 eHandover 10 v9 sv10)]⟩ _ _
  refine AtX.le' [(5, (eqv sv10))] [0] [(row 70 eHandover 10 v9 sv10)] ⟨⟨_, rfl, Ent.refl⟩, trivial⟩ ⟨⟨_, rfl, EntH.refl⟩, trivial⟩ rfl (AtX.seq ?_)
  refine CodeT.seq ?_
  refine CodeT.region' [0, 1] rfl ?_
  refine RunOps.cons_q (eqv sv10) rfl rfl rfl (opMove (Ev.tmp rfl)) (bindE h fun y12 ey12 h => RunOps.cons rfl rfl rfl (opCallM 0 rfl (fun x => (fHandover x).mem) (fnok32 H) (args := [(eqv sv10), (fcmp P (fun x => (agg (eHandover x))) (fun a b => handover_Match_c1 φ a b))]) ⟨(Ev.tmp rfl), (Ev.ent (Ev.ent (Ev.func _) fnc_eqv) (fcmp_of_fnc (fnok33 H) (fun a b cc hc => handover_Match_c1_ok H φ a b cc hc))), trivial⟩ (slices_SortStableFunc_eHandover_ok H φ v9 (fun a b => handover_Match_c1 φ a b) sv10 _ ey12) fun x13 nw14 hk15 => ?_))
  obtain ⟨rfl, rfl⟩ := hk15
  refine ⟨flat_eqv, ?_⟩
  refine RunOps.nil (AtX.le' [(5, (eqv sv10))] [0] [(row 70 eHandover 10 y12 sv10)] ⟨⟨_, rfl, Ent.refl⟩, trivial⟩ ⟨⟨_, rfl, EntH.refl⟩, trivial⟩ rfl (AtX.seq ?_))
  refine CodeT.seq ?_
  refine CodeT.region' [0, 1] rfl ?_
  refine RunOps.cons_q (eqv sv10) rfl rfl rfl (opMove (Ev.tmp rfl)) (RunOps.cons_q (eqv sv10) rfl rfl rfl (opAssign (Ev.tmp rfl)) (RunOps.nil (AtX.le' [(4, (eqv sv10))] [0] [(row 70 eHandover 10 y12 sv10)] ⟨⟨_, rfl, Ent.refl⟩, trivial⟩ ⟨⟨_, rfl, EntH.refl⟩, trivial⟩ rfl (AtX.seq (CodeT.ret (AtX.ret' (eqv sv10) (ResOK.one Try.results13 rfl) [0] [(row 70 eHandover 10 y12 sv10)] ⟨⟨_, rfl, EntH.refl⟩, trivial⟩ rfl ?_))))))
  obtain rfl := Option.some.inj h
  exact ⟨sv10, rfl, rfl⟩
 ·
  refine CodeT.block ?_
  refine CodeT.to (CodeT.loop (fun n (z : Int × (List Handover) × Value) => handover_Match_L19 φ v2 y4 (handover_Match_j11 φ) n z.1 z.2.1) r (fun z => ⟨Slots.of [(1, (ro eReport 21 v2)), (5, (eqv z.2.2)), (12, (eqv sv5)), (13, (iv .i64 (y4.length : Int))), (14, (iv .i64 z.1))], [(row 70 eHandover 10 z.2.1 z.2.2), (row 89 eA2I64 2 y4 sv5)]⟩) (fun z => rfl) (fun n19 z ih19 h => ?_) φ (0, ([] : List Handover), (Value.slice none 0 0)) h) [0, 1] ⟨⟨_, rfl, Ent.refl⟩, ⟨_, rfl, Ent.refl⟩, ⟨_, rfl, Ent.refl⟩, ⟨_, rfl, Ent.refl⟩, ⟨_, rfl, Ent.refl⟩, trivial⟩ ⟨⟨_, rfl, EntH.refl⟩, ⟨_, rfl, EntH.refl⟩, trivial⟩ rfl
  obtain ⟨v16, v17, sv18⟩ := z
  replace h : handover_Match_L19 φ v2 y4 (handover_Match_j11 φ) (n19 + 1) v16 v17 = some r := h
  rw [handover_Match_L19] at h
  change CodeT _ _ ⟨Slots.of [(1, (ro eReport 21 v2)), (5, (eqv sv18)), (12, (eqv sv5)), (13, (iv .i64 (y4.length : Int))), (14, (iv .i64 v16))], [(row 70 eHandover 10 v17 sv18), (row 89 eA2I64 2 y4 sv5)]⟩ _
  refine CodeT.seq ?_
  refine CodeT.region' [0] rfl ?_
  refine RunOps.cons_q (bv (decide (v16 < (y4.length : Int)))) rfl rfl rfl (opLss (Ev.tmp rfl) (Ev.tmp rfl)) (RunOps.nil (AtX.le' [(1, (ro eReport 21 v2)), (5, (eqv sv18)), (12, (eqv sv5)), (13, (iv .i64 (y4.length : Int))), (14, (iv .i64 v16)), (15, (bv (decide (v16 < (y4.length : Int)))))] [0, 1] [(row 70 eHandover 10 v17 sv18), (row 89 eA2I64 2 y4 sv5)] ⟨⟨_, rfl, Ent.refl⟩, ⟨_, rfl, Ent.refl⟩, ⟨_, rfl, Ent.refl⟩, ⟨_, rfl, Ent.refl⟩, ⟨_, rfl, Ent.refl⟩, ⟨_, rfl, Ent.refl⟩, trivial⟩ ⟨⟨_, rfl, EntH.refl⟩, ⟨_, rfl, EntH.refl⟩, trivial⟩ rfl (AtX.seq ?_)))
  refine CodeT.seq ?_
  refine cI h rfl (fun c20 h => ?_) (fun c20 h => ?_)
  ·
   refine CodeT.skip (AtX.le' [(1, (ro eReport 21 v2)), (5, (eqv sv18)), (12, (eqv sv5)), (13, (iv .i64 (y4.length : Int))), (14, (iv .i64 v16))] [0, 1] [(row 70 eHandover 10 v17 sv18), (row 89 eA2I64 2 y4 sv5)] ⟨⟨_, rfl, Ent.refl⟩, ⟨_, rfl, Ent.refl⟩, ⟨_, rfl, Ent.refl⟩, ⟨_, rfl, Ent.refl⟩, ⟨_, rfl, Ent.refl⟩, trivial⟩ ⟨⟨_, rfl, EntH.refl⟩, ⟨_, rfl, EntH.refl⟩, trivial⟩ rfl (AtX.seq ?_))
   refine CodeT.seq ?_
   refine CodeT.block ?_
   refine CodeT.seq ?_
   refine CodeT.region' [0, 1, 2, 3] rfl ?_
   refine ckE h fun h21 h => RunOps.cons_q (rowp sv5 ((v16 : Int).toNat * 2)) rfl rfl rfl (opIndexO 1 (ix87 H) (Ev.tmp rfl) rfl (Ev.tmp rfl) (h21).1 (h21).2) (RunOps.cons_q (agg (eA2I64 (gt y4 v16))) rfl rfl rfl (opLoadN' (tl89 H) (by simp [arr_len lI64, eA2I64]) ((Pt.row _ 1 (k := (v16 : Int).toNat) (fo := 0) lA2I64 (Ev.tmp rfl) rfl (by omega) (gt_some h21) rfl).take 2 (cs' := (eA2I64 (gt y4 v16))) rfl)) (RunOps.cons rfl rfl rfl (opAllocA (e := eI64) 0 [.int .i64 0] (za89 H) rfl rfl fun b22 => RunOps.cons rfl rfl rfl (opStore 2 (cells := ([] ++ arr 2 eI64 (fun _ => 0) ++ [])) (cs := (eA2I64 (gt y4 v16))) (out := ([] ++ arr 2 eI64 (gt y4 v16) ++ [])) (tl89 H) (Ev.tmp rfl) (Ce.agg (Ev.tmp rfl)) rfl rfl (Nat.le_of_ble_eq_true rfl) rfl (RunOps.nil (AtX.le' [(1, (ro eReport 21 v2)), (5, (eqv sv18)), (7, (eqv (.pointer (some ⟨b22, 0, none⟩)))), (12, (eqv sv5)), (13, (iv .i64 (y4.length : Int))), (14, (iv .i64 v16))] [0, 1, 2] [(row 70 eHandover 10 v17 sv18), (row 89 eA2I64 2 y4 sv5), (box b22 89 ([] ++ arr 2 eI64 (gt y4 v16) ++ []))] ⟨⟨_, rfl, Ent.refl⟩, ⟨_, rfl, Ent.refl⟩, ⟨_, rfl, Ent.refl⟩, ⟨_, rfl, Ent.refl⟩, ⟨_, rfl, Ent.refl⟩, ⟨_, rfl, Ent.refl⟩, trivial⟩ ⟨⟨_, rfl, EntH.refl⟩, ⟨_, rfl, EntH.refl⟩, ⟨_, rfl, EntH.refl⟩, trivial⟩ rfl (AtX.seq ?_)))))))
   refine CodeT.seq ?_
   refine CodeT.join (fun z : Nat × Nat => (handover_Match_j25 φ v2 y4 v16 v17 (handover_Match_L19 φ v2 y4 (handover_Match_j11 φ) n19))) r (fun z => ⟨Slots.of [(1, (ro eReport 21 v2)), (5, (eqv sv18)), (8, (eqv (.pointer (some ⟨z.1, 0, none⟩)))), (9, (eqv (.pointer (some ⟨z.2, 0, none⟩)))), (12, (eqv sv5)), (13, (iv .i64 (y4.length : Int))), (14, (iv .i64 v16))], [(row 70 eHandover 10 v17 sv18), (row 89 eA2I64 2 y4 sv5), (box z.1 48 (eReport (gt v2 ((gt y4 v16) 0)))), (box z.2 48 (eReport (gt v2 ((gt y4 v16) 1))))]⟩) (fun z h => ?_) (fun hJ25 => ?_)
   ·
    obtain ⟨b23, b24⟩ := z
    replace h : (handover_Match_j25 φ v2 y4 v16 v17 (handover_Match_L19 φ v2 y4 (handover_Match_j11 φ) n19)) = some r := h
    unfold handover_Match_j25 at h
    change AtX _ ⟨Slots.of [(1, (ro eReport 21 v2)), (5, (eqv sv18)), (8, (eqv (.pointer (some ⟨b23, 0, none⟩)))), (9, (eqv (.pointer (some ⟨b24, 0, none⟩)))), (12, (eqv sv5)), (13, (iv .i64 (y4.length : Int))), (14, (iv .i64 v16))], [(row 70 eHandover 10 v17 sv18), (row 89 eA2I64 2 y4 sv5), (box b23 48 (eReport (gt v2 ((gt y4 v16) 0)))), (box b24 48 (eReport (gt v2 ((gt y4 v16) 1))))]⟩ _ _
    refine AtX.le' [(1, (ro eReport 21 v2)), (5, (eqv sv18)), (8, (eqv (.pointer (some ⟨b23, 0, none⟩)))), (9, (eqv (.pointer (some ⟨b24, 0, none⟩)))), (12, (eqv sv5)), (13, (iv .i64 (y4.length : Int))), (14, (iv .i64 v16))] [0, 1, 2, 3] [(row 70 eHandover 10 v17 sv18), (row 89 eA2I64 2 y4 sv5), (box b23 48 (eReport (gt v2 ((gt y4 v16) 0)))), (box b24 48 (eReport (gt v2 ((gt y4 v16) 1))))] ⟨⟨_, rfl, Ent.refl⟩, ⟨_, rfl, Ent.refl⟩, ⟨_, rfl, Ent.refl⟩, ⟨_, rfl, Ent.refl⟩, ⟨_, rfl, Ent.refl⟩, ⟨_, rfl, Ent.refl⟩, ⟨_, rfl, Ent.refl⟩, trivial⟩ ⟨⟨_, rfl, EntH.refl⟩, ⟨_, rfl, EntH.refl⟩, ⟨_, rfl, EntH.refl⟩, ⟨_, rfl, EntH.refl⟩, trivial⟩ rfl (AtX.seq ?_)
    refine CodeT.region' [0, 1, 2, 3, 4, 5, 6, 7, 8, 9, 10, 11, 12, 13, 14, 15, 16, 17, 18, 19, 20, 21, 22, 23, 24, 25, 26, 27, 28, 29, 30, 31, 32, 33, 34, 35] rfl ?_
    refine RunOps.cons_q (eqv sv18) rfl rfl rfl (opMove (Ev.tmp rfl)) (RunOps.cons_q (eqv (.pointer (some ⟨b23, 5, none⟩))) rfl rfl rfl (opFieldP (fo48_3 H) (Ev.tmp rfl)) (RunOps.cons_q (eqv (.pointer (some ⟨b23, 8, none⟩))) rfl rfl rfl (opFieldP (fo46_2 H) (Ev.tmp rfl)) (RunOps.cons_q (iv .i64 ((gt v2 ((gt y4 v16) 0)).fItem.fWagon)) rfl rfl rfl (opLoad1 (tl3 H) ((Pt.box 2 (Ev.tmp rfl) rfl rfl).take 1 (cs' := [(iv .i64 ((gt v2 ((gt y4 v16) 0)).fItem.fWagon))]) rfl)) (RunOps.cons_q (eqv (.pointer (some ⟨b23, 5, none⟩))) rfl rfl rfl (opFieldP (fo48_3 H) (Ev.tmp rfl)) (RunOps.cons_q (eqv (.pointer (some ⟨b23, 9, none⟩))) rfl rfl rfl (opFieldP (fo46_3 H) (Ev.tmp rfl)) (RunOps.cons_q (iv .i64 ((gt v2 ((gt y4 v16) 0)).fItem.fPlace)) rfl rfl rfl (opLoad1 (tl3 H) ((Pt.box 2 (Ev.tmp rfl) rfl rfl).take 1 (cs' := [(iv .i64 ((gt v2 ((gt y4 v16) 0)).fItem.fPlace))]) rfl)) (RunOps.cons_q (eqv (.pointer (some ⟨b23, 0, none⟩))) rfl rfl rfl (opFieldP (fo48_0 H) (Ev.tmp rfl)) (RunOps.cons_q (eqv (.pointer (some ⟨b23, 0, none⟩))) rfl rfl rfl (opFieldP (fo43_0 H) (Ev.tmp rfl)) (RunOps.cons_q (iv .i64 ((gt v2 ((gt y4 v16) 0)).fRef.fRailway)) rfl rfl rfl (opLoad1 (tl3 H) ((Pt.box 2 (Ev.tmp rfl) rfl rfl).take 1 (cs' := [(iv .i64 ((gt v2 ((gt y4 v16) 0)).fRef.fRailway))]) rfl)) (RunOps.cons_q (eqv (.pointer (some ⟨b24, 0, none⟩))) rfl rfl rfl (opFieldP (fo48_0 H) (Ev.tmp rfl)) (RunOps.cons_q (eqv (.pointer (some ⟨b24, 0, none⟩))) rfl rfl rfl (opFieldP (fo43_0 H) (Ev.tmp rfl)) ?_)))))))))))
    refine RunOps.cons_q (iv .i64 ((gt v2 ((gt y4 v16) 1)).fRef.fRailway)) rfl rfl rfl (opLoad1 (tl3 H) ((Pt.box 3 (Ev.tmp rfl) rfl rfl).take 1 (cs' := [(iv .i64 ((gt v2 ((gt y4 v16) 1)).fRef.fRailway))]) rfl)) (RunOps.cons_q (eqv (.pointer (some ⟨b23, 5, none⟩))) rfl rfl rfl (opFieldP (fo48_3 H) (Ev.tmp rfl)) (RunOps.cons_q (eqv (.pointer (some ⟨b23, 12, none⟩))) rfl rfl rfl (opFieldP (fo46_6 H) (Ev.tmp rfl)) (RunOps.cons_q (iv .i64 ((gt v2 ((gt y4 v16) 0)).fItem.fFrom)) rfl rfl rfl (opLoad1 (tl3 H) ((Pt.box 2 (Ev.tmp rfl) rfl rfl).take 1 (cs' := [(iv .i64 ((gt v2 ((gt y4 v16) 0)).fItem.fFrom))]) rfl)) (RunOps.cons_q (eqv (.pointer (some ⟨b24, 5, none⟩))) rfl rfl rfl (opFieldP (fo48_3 H) (Ev.tmp rfl)) (RunOps.cons_q (eqv (.pointer (some ⟨b24, 12, none⟩))) rfl rfl rfl (opFieldP (fo46_6 H) (Ev.tmp rfl)) (RunOps.cons_q (iv .i64 ((gt v2 ((gt y4 v16) 1)).fItem.fFrom)) rfl rfl rfl (opLoad1 (tl3 H) ((Pt.box 3 (Ev.tmp rfl) rfl rfl).take 1 (cs' := [(iv .i64 ((gt v2 ((gt y4 v16) 1)).fItem.fFrom))]) rfl)) (RunOps.cons_q (iv .i64 (W (((gt v2 ((gt y4 v16) 0)).fItem.fFrom) + ((gt v2 ((gt y4 v16) 1)).fItem.fFrom)))) rfl rfl rfl (opAdd (Ev.tmp rfl) (Ev.tmp rfl)) (RunOps.cons_q (iv .i64 (W ((W (((gt v2 ((gt y4 v16) 0)).fItem.fFrom) + ((gt v2 ((gt y4 v16) 1)).fItem.fFrom))).tdiv 2))) rfl rfl rfl (opQuo (Ev.tmp rfl) (Ev.const _) (by decide)) (RunOps.cons_q (eqv (.pointer (some ⟨b23, 5, none⟩))) rfl rfl rfl (opFieldP (fo48_3 H) (Ev.tmp rfl)) (RunOps.cons_q (eqv (.pointer (some ⟨b23, 14, none⟩))) rfl rfl rfl (opFieldP (fo46_8 H) (Ev.tmp rfl)) (RunOps.cons_q (iv .i64 ((gt v2 ((gt y4 v16) 0)).fItem.fCode)) rfl rfl rfl (opLoad1 (tl3 H) ((Pt.box 2 (Ev.tmp rfl) rfl rfl).take 1 (cs' := [(iv .i64 ((gt v2 ((gt y4 v16) 0)).fItem.fCode))]) rfl)) ?_)))))))))))
    refine RunOps.cons_q (eqv (.pointer (some ⟨b24, 5, none⟩))) rfl rfl rfl (opFieldP (fo48_3 H) (Ev.tmp rfl)) (RunOps.cons_q (eqv (.pointer (some ⟨b24, 14, none⟩))) rfl rfl rfl (opFieldP (fo46_8 H) (Ev.tmp rfl)) (RunOps.cons_q (iv .i64 ((gt v2 ((gt y4 v16) 1)).fItem.fCode)) rfl rfl rfl (opLoad1 (tl3 H) ((Pt.box 3 (Ev.tmp rfl) rfl rfl).take 1 (cs' := [(iv .i64 ((gt v2 ((gt y4 v16) 1)).fItem.fCode))]) rfl)) (RunOps.cons_q (iv .i64 (max2 ((gt v2 ((gt y4 v16) 0)).fItem.fCode) ((gt v2 ((gt y4 v16) 1)).fItem.fCode))) rfl rfl rfl (opMax (n := [(gt v2 ((gt y4 v16) 1)).fItem.fCode]) (Ev.tmp rfl) ⟨(Ev.tmp rfl), trivial⟩) (RunOps.cons_q (eqv (.pointer (some ⟨b23, 0, none⟩))) rfl rfl rfl (opFieldP (fo48_0 H) (Ev.tmp rfl)) (RunOps.cons_q (agg (eRef (gt v2 ((gt y4 v16) 0)).fRef)) rfl rfl rfl (opLoadN (tl43 H) ((Pt.box 2 (Ev.tmp rfl) rfl rfl).take 2 (cs' := (eRef (gt v2 ((gt y4 v16) 0)).fRef)) rfl)) (RunOps.cons_q (eqv (.pointer (some ⟨b24, 0, none⟩))) rfl rfl rfl (opFieldP (fo48_0 H) (Ev.tmp rfl)) (RunOps.cons_q (agg (eRef (gt v2 ((gt y4 v16) 1)).fRef)) rfl rfl rfl (opLoadN (tl43 H) ((Pt.box 3 (Ev.tmp rfl) rfl rfl).take 2 (cs' := (eRef (gt v2 ((gt y4 v16) 1)).fRef)) rfl)) (RunOps.cons_q (agg [(iv .i64 ((gt v2 ((gt y4 v16) 0)).fItem.fWagon)), (iv .i64 ((gt v2 ((gt y4 v16) 0)).fItem.fPlace)), (iv .i64 ((gt v2 ((gt y4 v16) 0)).fRef.fRailway)), (iv .i64 ((gt v2 ((gt y4 v16) 1)).fRef.fRailway)), (iv .i64 (W ((W (((gt v2 ((gt y4 v16) 0)).fItem.fFrom) + ((gt v2 ((gt y4 v16) 1)).fItem.fFrom))).tdiv 2))), (iv .i64 (max2 ((gt v2 ((gt y4 v16) 0)).fItem.fCode) ((gt v2 ((gt y4 v16) 1)).fItem.fCode))), (iv .i64 ((gt v2 ((gt y4 v16) 0)).fRef.fRailway)), (iv .i64 ((gt v2 ((gt y4 v16) 0)).fRef.fNo)), (iv .i64 ((gt v2 ((gt y4 v16) 1)).fRef.fRailway)), (iv .i64 ((gt v2 ((gt y4 v16) 1)).fRef.fNo))]) rfl rfl rfl (opBuild [.int .i64 0, .int .i64 0, .int .i64 0, .int .i64 0, .int .i64 0, .int .i64 0, .int .i64 0, .int .i64 0, .int .i64 0, .int .i64 0] [(0, [(iv .i64 ((gt v2 ((gt y4 v16) 0)).fItem.fWagon))]), (1, [(iv .i64 ((gt v2 ((gt y4 v16) 0)).fItem.fPlace))]), (2, [(iv .i64 ((gt v2 ((gt y4 v16) 0)).fRef.fRailway))]), (3, [(iv .i64 ((gt v2 ((gt y4 v16) 1)).fRef.fRailway))]), (4, [(iv .i64 (W ((W (((gt v2 ((gt y4 v16) 0)).fItem.fFrom) + ((gt v2 ((gt y4 v16) 1)).fItem.fFrom))).tdiv 2)))]), (5, [(iv .i64 (max2 ((gt v2 ((gt y4 v16) 0)).fItem.fCode) ((gt v2 ((gt y4 v16) 1)).fItem.fCode)))]), (6, (eRef (gt v2 ((gt y4 v16) 0)).fRef)), (8, (eRef (gt v2 ((gt y4 v16) 1)).fRef))] (out := [(iv .i64 ((gt v2 ((gt y4 v16) 0)).fItem.fWagon)), (iv .i64 ((gt v2 ((gt y4 v16) 0)).fItem.fPlace)), (iv .i64 ((gt v2 ((gt y4 v16) 0)).fRef.fRailway)), (iv .i64 ((gt v2 ((gt y4 v16) 1)).fRef.fRailway)), (iv .i64 (W ((W (((gt v2 ((gt y4 v16) 0)).fItem.fFrom) + ((gt v2 ((gt y4 v16) 1)).fItem.fFrom))).tdiv 2))), (iv .i64 (max2 ((gt v2 ((gt y4 v16) 0)).fItem.fCode) ((gt v2 ((gt y4 v16) 1)).fItem.fCode))), (iv .i64 ((gt v2 ((gt y4 v16) 0)).fRef.fRailway)), (iv .i64 ((gt v2 ((gt y4 v16) 0)).fRef.fNo)), (iv .i64 ((gt v2 ((gt y4 v16) 1)).fRef.fRailway)), (iv .i64 ((gt v2 ((gt y4 v16) 1)).fRef.fNo))]) (ze70 H) rfl (tb70 H) ⟨(tp70_0 H), Nat.le_of_ble_eq_true rfl, (Ce.one (Ev.tmp rfl) (One.eqv rfl)), ⟨(tp70_1 H), Nat.le_of_ble_eq_true rfl, (Ce.one (Ev.tmp rfl) (One.eqv rfl)), ⟨(tp70_2 H), Nat.le_of_ble_eq_true rfl, (Ce.one (Ev.tmp rfl) (One.eqv rfl)), ⟨(tp70_3 H), Nat.le_of_ble_eq_true rfl, (Ce.one (Ev.tmp rfl) (One.eqv rfl)), ⟨(tp70_4 H), Nat.le_of_ble_eq_true rfl, (Ce.one (Ev.tmp rfl) (One.eqv rfl)), ⟨(tp70_5 H), Nat.le_of_ble_eq_true rfl, (Ce.one (Ev.tmp rfl) (One.eqv rfl)), ⟨(tp70_6 H), Nat.le_of_ble_eq_true rfl, (Ce.agg (Ev.tmp rfl)), ⟨(tp70_7 H), Nat.le_of_ble_eq_true rfl, (Ce.agg (Ev.tmp rfl)), trivial⟩⟩⟩⟩⟩⟩⟩⟩ rfl) ?_))))))))
    refine RunOps.cons rfl rfl rfl (opBuildSlice (e := eHandover) [(Handover.mk (gt v2 ((gt y4 v16) 0)).fItem.fWagon (gt v2 ((gt y4 v16) 0)).fItem.fPlace (gt v2 ((gt y4 v16) 0)).fRef.fRailway (gt v2 ((gt y4 v16) 1)).fRef.fRailway (W ((W (((gt v2 ((gt y4 v16) 0)).fItem.fFrom) + ((gt v2 ((gt y4 v16) 1)).fItem.fFrom))).tdiv 2)) (max2 ((gt v2 ((gt y4 v16) 0)).fItem.fCode) ((gt v2 ((gt y4 v16) 1)).fItem.fCode)) (gt v2 ((gt y4 v16) 0)).fRef (gt v2 ((gt y4 v16) 1)).fRef)] (sl53 H) lHandover rfl (by decide) ⟨rfl, (Ce.agg (Ev.tmp rfl)), trivial⟩ fun sv26 => ckE h fun h27 h => RunOps.cons rfl rfl rfl (opAppend 0 (l := v17) (m := [(Handover.mk (gt v2 ((gt y4 v16) 0)).fItem.fWagon (gt v2 ((gt y4 v16) 0)).fItem.fPlace (gt v2 ((gt y4 v16) 0)).fRef.fRailway (gt v2 ((gt y4 v16) 1)).fRef.fRailway (W ((W (((gt v2 ((gt y4 v16) 0)).fItem.fFrom) + ((gt v2 ((gt y4 v16) 1)).fItem.fFrom))).tdiv 2)) (max2 ((gt v2 ((gt y4 v16) 0)).fItem.fCode) ((gt v2 ((gt y4 v16) 1)).fItem.fCode)) (gt v2 ((gt y4 v16) 0)).fRef (gt v2 ((gt y4 v16) 1)).fRef)]) (sl53 H) lHandover (Ev.tmp rfl) rfl (Src.row 4 (Ev.tmp rfl) rfl) h27 (fits_max (by decide) h27) fun sv28 => RunOps.cons_q (eqv sv28) rfl rfl rfl (opAssign (Ev.tmp rfl)) (RunOps.nil (AtX.in_normal (AtX.le' [(1, (ro eReport 21 v2)), (5, (eqv sv28)), (12, (eqv sv5)), (13, (iv .i64 (y4.length : Int))), (14, (iv .i64 v16))] [0, 1] [(row 70 eHandover 10 (v17 ++ [(Handover.mk (gt v2 ((gt y4 v16) 0)).fItem.fWagon (gt v2 ((gt y4 v16) 0)).fItem.fPlace (gt v2 ((gt y4 v16) 0)).fRef.fRailway (gt v2 ((gt y4 v16) 1)).fRef.fRailway (W ((W (((gt v2 ((gt y4 v16) 0)).fItem.fFrom) + ((gt v2 ((gt y4 v16) 1)).fItem.fFrom))).tdiv 2)) (max2 ((gt v2 ((gt y4 v16) 0)).fItem.fCode) ((gt v2 ((gt y4 v16) 1)).fItem.fCode)) (gt v2 ((gt y4 v16) 0)).fRef (gt v2 ((gt y4 v16) 1)).fRef)]) sv28), (row 89 eA2I64 2 y4 sv5)] ⟨⟨_, rfl, Ent.refl⟩, ⟨_, rfl, Ent.refl⟩, ⟨_, rfl, Ent.refl⟩, ⟨_, rfl, Ent.refl⟩, ⟨_, rfl, Ent.refl⟩, trivial⟩ ⟨⟨_, rfl, EntH.refl⟩, ⟨_, rfl, EntH.refl⟩, trivial⟩ rfl (AtX.seq ?_))))))
    refine CodeT.region' [0, 1] rfl ?_
    refine RunOps.cons_q (iv .i64 (W (v16 + 1))) rfl rfl rfl (opAdd (Ev.tmp rfl) (Ev.const _)) (RunOps.cons_q (iv .i64 (W (v16 + 1))) rfl rfl rfl (opMove (Ev.tmp rfl)) (RunOps.nil ?_))
    exact AtX.to (ih19 ((W (v16 + 1)), (v17 ++ [(Handover.mk (gt v2 ((gt y4 v16) 0)).fItem.fWagon (gt v2 ((gt y4 v16) 0)).fItem.fPlace (gt v2 ((gt y4 v16) 0)).fRef.fRailway (gt v2 ((gt y4 v16) 1)).fRef.fRailway (W ((W (((gt v2 ((gt y4 v16) 0)).fItem.fFrom) + ((gt v2 ((gt y4 v16) 1)).fItem.fFrom))).tdiv 2)) (max2 ((gt v2 ((gt y4 v16) 0)).fItem.fCode) ((gt v2 ((gt y4 v16) 1)).fItem.fCode)) (gt v2 ((gt y4 v16) 0)).fRef (gt v2 ((gt y4 v16) 1)).fRef)]), sv28) h) [0, 1] ⟨⟨_, rfl, Ent.refl⟩, ⟨_, rfl, Ent.refl⟩, ⟨_, rfl, Ent.refl⟩, ⟨_, rfl, Ent.refl⟩, ⟨_, rfl, Ent.refl⟩, trivial⟩ ⟨⟨_, rfl, EntH.refl⟩, ⟨_, rfl, EntH.refl⟩, trivial⟩ rfl
   ·
    refine ckE h fun h29 h => ckE h fun h30 h => ?_
    refine CodeT.draw (QR := [(0, (ro eReport 21 v2)), (1, (eqv (.pointer (some ⟨b22, 0, none⟩)))), (2, (iv .i64 ((gt y4 v16) 0))), (3, (rop (eReport (gt v2 ((gt y4 v16) 0))))), (4, (agg (eReport (gt v2 ((gt y4 v16) 0))))), (5, (ro eReport 21 v2)), (6, (eqv (.pointer (some ⟨b22, 1, none⟩)))), (7, (iv .i64 ((gt y4 v16) 1))), (8, (rop (eReport (gt v2 ((gt y4 v16) 1))))), (9, (agg (eReport (gt v2 ((gt y4 v16) 1)))))]) (tab := [(some 18, []), (some 19, []), (some 20, [1]), (some 21, [0, 2]), (some 22, [3]), (some 23, []), (some 24, []), (some 25, [6]), (some 26, [5, 7]), (some 27, [8]), (some 8, []), (some 9, []), (none, [10, 4, 0, 1, 2, 3, 4, 10, 11]), (none, [11, 9, 12, 0, 1, 2, 3, 4, 5, 6, 7, 8, 9, 10, 11, 12])]) (mixed H) (Reg.intro [10, 11] [] (by kernel_rfl) rfl ⟨rfl, rfl, rfl, rfl, rfl, rfl, rfl, rfl, rfl, rfl, trivial⟩ ⟨(fun _ => ⟨_, rfl, (opMove (Ev.tmp rfl))⟩), (fun _ => ⟨_, rfl, (opIndexA (ix89 H) (Ev.tmp rfl) (Ev.const _) (by decide) (by decide))⟩), (fun _ => ⟨_, rfl, (opLoad1 (tl3 H) (Pt.ofArr (e := eI64) 2 (k := 0) (Ev.tmp rfl) rfl lI64 rfl (by decide)))⟩), (fun _ => ⟨_, rfl, (opIndexR (e := eReport) (y := (gt v2 ((gt y4 v16) 0))) (ix37 H) (Ev.tmp rfl) (Ev.tmp rfl) (h29).1 (gt_some h29))⟩), (fun _ => ⟨_, rfl, (opLoadN (tl48 H) (Pt.rop (Ev.tmp rfl)))⟩), (fun _ => ⟨_, rfl, (opMove (Ev.tmp rfl))⟩), (fun _ => ⟨_, rfl, (opIndexA (ix89 H) (Ev.tmp rfl) (Ev.const _) (by decide) (by decide))⟩), (fun _ => ⟨_, rfl, (opLoad1 (tl3 H) (Pt.ofArr (e := eI64) 2 (k := 1) (Ev.tmp rfl) rfl lI64 rfl (by decide)))⟩), (fun _ => ⟨_, rfl, (opIndexR (e := eReport) (y := (gt v2 ((gt y4 v16) 1))) (ix37 H) (Ev.tmp rfl) (Ev.tmp rfl) (h30).1 (gt_some h30))⟩), (fun _ => ⟨_, rfl, (opLoadN (tl48 H) (Pt.rop (Ev.tmp rfl)))⟩), trivial⟩ ⟨⟨_, rfl, rfl, rfl, rfl, opAlloc [.int .i64 0, .int .i64 0, .int .i64 0, .int .i64 0, .int .i64 0, .int .i64 0, .int .i64 0, .int .i64 0, .int .i64 0, .int .i64 0, .int .i64 0, .int .i64 0, .int .i64 0, .int .i64 0, .int .i64 0, .int .i64 0, .int .i64 0, .int .i64 0, .int .i64 0, .string ⟨#[]⟩, .slice none 0 0] (ze48 H) rfl fun b34 => ⟨[], rfl, ?_⟩⟩, ⟨_, rfl, rfl, rfl, rfl, opAlloc [.int .i64 0, .int .i64 0, .int .i64 0, .int .i64 0, .int .i64 0, .int .i64 0, .int .i64 0, .int .i64 0, .int .i64 0, .int .i64 0, .int .i64 0, .int .i64 0, .int .i64 0, .int .i64 0, .int .i64 0, .int .i64 0, .int .i64 0, .int .i64 0, .int .i64 0, .string ⟨#[]⟩, .slice none 0 0] (ze48 H) rfl fun b34 => ⟨[], rfl, ?_⟩⟩, trivial⟩ (fun hc => Bool.noConfusion (hc : false = true)))
    ·
     refine Reg.intro [11] [] (by kernel_rfl) rfl ⟨rfl, rfl, rfl, rfl, rfl, rfl, rfl, rfl, rfl, rfl, trivial⟩ ⟨(fun _ => ⟨_, rfl, (opMove (Ev.tmp rfl))⟩), (fun _ => ⟨_, rfl, (opIndexA (ix89 H) (Ev.tmp rfl) (Ev.const _) (by decide) (by decide))⟩), (fun _ => ⟨_, rfl, (opLoad1 (tl3 H) (Pt.ofArr (e := eI64) 2 (k := 0) (Ev.tmp rfl) rfl lI64 rfl (by decide)))⟩), (fun _ => ⟨_, rfl, (opIndexR (e := eReport) (y := (gt v2 ((gt y4 v16) 0))) (ix37 H) (Ev.tmp rfl) (Ev.tmp rfl) (h29).1 (gt_some h29))⟩), (fun _ => ⟨_, rfl, (opLoadN (tl48 H) (Pt.rop (Ev.tmp rfl)))⟩), (fun _ => ⟨_, rfl, (opMove (Ev.tmp rfl))⟩), (fun _ => ⟨_, rfl, (opIndexA (ix89 H) (Ev.tmp rfl) (Ev.const _) (by decide) (by decide))⟩), (fun _ => ⟨_, rfl, (opLoad1 (tl3 H) (Pt.ofArr (e := eI64) 2 (k := 1) (Ev.tmp rfl) rfl lI64 rfl (by decide)))⟩), (fun _ => ⟨_, rfl, (opIndexR (e := eReport) (y := (gt v2 ((gt y4 v16) 1))) (ix37 H) (Ev.tmp rfl) (Ev.tmp rfl) (h30).1 (gt_some h30))⟩), (fun _ => ⟨_, rfl, (opLoadN (tl48 H) (Pt.rop (Ev.tmp rfl)))⟩), trivial⟩ ⟨⟨_, rfl, rfl, rfl, rfl, opAlloc [.int .i64 0, .int .i64 0, .int .i64 0, .int .i64 0, .int .i64 0, .int .i64 0, .int .i64 0, .int .i64 0, .int .i64 0, .int .i64 0, .int .i64 0, .int .i64 0, .int .i64 0, .int .i64 0, .int .i64 0, .int .i64 0, .int .i64 0, .int .i64 0, .int .i64 0, .string ⟨#[]⟩, .slice none 0 0] (ze48 H) rfl fun b37 => ⟨[], rfl, ?_⟩⟩, trivial⟩ (fun hc => Bool.noConfusion (hc : false = true))
     refine Reg.intro [12] [] (by kernel_rfl) rfl ⟨rfl, rfl, rfl, rfl, rfl, rfl, rfl, rfl, rfl, rfl, trivial⟩ ⟨(fun _ => ⟨_, rfl, (opMove (Ev.tmp rfl))⟩), (fun _ => ⟨_, rfl, (opIndexA (ix89 H) (Ev.tmp rfl) (Ev.const _) (by decide) (by decide))⟩), (fun _ => ⟨_, rfl, (opLoad1 (tl3 H) (Pt.ofArr (e := eI64) 2 (k := 0) (Ev.tmp rfl) rfl lI64 rfl (by decide)))⟩), (fun _ => ⟨_, rfl, (opIndexR (e := eReport) (y := (gt v2 ((gt y4 v16) 0))) (ix37 H) (Ev.tmp rfl) (Ev.tmp rfl) (h29).1 (gt_some h29))⟩), (fun _ => ⟨_, rfl, (opLoadN (tl48 H) (Pt.rop (Ev.tmp rfl)))⟩), (fun _ => ⟨_, rfl, (opMove (Ev.tmp rfl))⟩), (fun _ => ⟨_, rfl, (opIndexA (ix89 H) (Ev.tmp rfl) (Ev.const _) (by decide) (by decide))⟩), (fun _ => ⟨_, rfl, (opLoad1 (tl3 H) (Pt.ofArr (e := eI64) 2 (k := 1) (Ev.tmp rfl) rfl lI64 rfl (by decide)))⟩), (fun _ => ⟨_, rfl, (opIndexR (e := eReport) (y := (gt v2 ((gt y4 v16) 1))) (ix37 H) (Ev.tmp rfl) (Ev.tmp rfl) (h30).1 (gt_some h30))⟩), (fun _ => ⟨_, rfl, (opLoadN (tl48 H) (Pt.rop (Ev.tmp rfl)))⟩), trivial⟩ ⟨⟨_, rfl, rfl, rfl, rfl, opStore 3 (cells := [(iv .i64 0), (iv .i64 0), (iv .i64 0), (iv .i64 0), (iv .i64 0), (iv .i64 0), (iv .i64 0), (iv .i64 0), (iv .i64 0), (iv .i64 0), (iv .i64 0), (iv .i64 0), (iv .i64 0), (iv .i64 0), (iv .i64 0), (iv .i64 0), (iv .i64 0), (iv .i64 0), (iv .i64 0), (eqv (.string (⟨#[]⟩))), (eqv (.slice none 0 0))]) (cs := (eReport (gt v2 ((gt y4 v16) 0)))) (out := (eReport (gt v2 ((gt y4 v16) 0)))) (tl48 H) (Ev.tmp rfl) (Ce.agg (Ev.tmp rfl)) rfl rfl (Nat.le_of_ble_eq_true rfl) rfl ⟨[], rfl, ?_⟩⟩, trivial⟩ (fun hc => Bool.noConfusion (hc : false = true))
     refine Reg.intro [13] [0, 1, 2, 3, 4] (by kernel_rfl) rfl ⟨rfl, rfl, rfl, rfl, rfl, rfl, rfl, rfl, rfl, rfl, trivial⟩ ⟨(fun hn => Bool.noConfusion (hn : true = false)), (fun hn => Bool.noConfusion (hn : true = false)), (fun hn => Bool.noConfusion (hn : true = false)), (fun hn => Bool.noConfusion (hn : true = false)), (fun hn => Bool.noConfusion (hn : true = false)), (fun _ => ⟨_, rfl, (opMove (Ev.tmp rfl))⟩), (fun _ => ⟨_, rfl, (opIndexA (ix89 H) (Ev.tmp rfl) (Ev.const _) (by decide) (by decide))⟩), (fun _ => ⟨_, rfl, (opLoad1 (tl3 H) (Pt.ofArr (e := eI64) 2 (k := 1) (Ev.tmp rfl) rfl lI64 rfl (by decide)))⟩), (fun _ => ⟨_, rfl, (opIndexR (e := eReport) (y := (gt v2 ((gt y4 v16) 1))) (ix37 H) (Ev.tmp rfl) (Ev.tmp rfl) (h30).1 (gt_some h30))⟩), (fun _ => ⟨_, rfl, (opLoadN (tl48 H) (Pt.rop (Ev.tmp rfl)))⟩), trivial⟩ ⟨⟨_, rfl, rfl, rfl, rfl, opStore 4 (cells := [(iv .i64 0), (iv .i64 0), (iv .i64 0), (iv .i64 0), (iv .i64 0), (iv .i64 0), (iv .i64 0), (iv .i64 0), (iv .i64 0), (iv .i64 0), (iv .i64 0), (iv .i64 0), (iv .i64 0), (iv .i64 0), (iv .i64 0), (iv .i64 0), (iv .i64 0), (iv .i64 0), (iv .i64 0), (eqv (.string (⟨#[]⟩))), (eqv (.slice none 0 0))]) (cs := (eReport (gt v2 ((gt y4 v16) 1)))) (out := (eReport (gt v2 ((gt y4 v16) 1)))) (tl48 H) (Ev.tmp rfl) (Ce.agg (Ev.tmp rfl)) rfl rfl (Nat.le_of_ble_eq_true rfl) rfl ⟨[], rfl, ?_⟩⟩, trivial⟩ (fun hc => Bool.noConfusion (hc : false = true))
     refine Reg.intro [] [0, 1, 2, 3, 4, 5, 6, 7, 8, 9] (by kernel_rfl) rfl ⟨rfl, rfl, rfl, rfl, rfl, rfl, rfl, rfl, rfl, rfl, trivial⟩ ⟨(fun hn => Bool.noConfusion (hn : true = false)), (fun hn => Bool.noConfusion (hn : true = false)), (fun hn => Bool.noConfusion (hn : true = false)), (fun hn => Bool.noConfusion (hn : true = false)), (fun hn => Bool.noConfusion (hn : true = false)), (fun hn => Bool.noConfusion (hn : true = false)), (fun hn => Bool.noConfusion (hn : true = false)), (fun hn => Bool.noConfusion (hn : true = false)), (fun hn => Bool.noConfusion (hn : true = false)), (fun hn => Bool.noConfusion (hn : true = false)), trivial⟩ trivial (fun _ => ?_)
     exact AtX.to (hJ25 (b34, b37) h) [0, 1, 3, 4] ⟨⟨_, rfl, Ent.refl⟩, ⟨_, rfl, Ent.refl⟩, ⟨_, rfl, Ent.refl⟩, ⟨_, rfl, Ent.refl⟩, ⟨_, rfl, Ent.refl⟩, ⟨_, rfl, Ent.refl⟩, ⟨_, rfl, Ent.refl⟩, trivial⟩ ⟨⟨_, rfl, EntH.refl⟩, ⟨_, rfl, EntH.refl⟩, ⟨_, rfl, EntH.refl⟩, ⟨_, rfl, EntH.refl⟩, trivial⟩ rfl
    ·
     refine Reg.intro [10] [] (by kernel_rfl) rfl ⟨rfl, rfl, rfl, rfl, rfl, rfl, rfl, rfl, rfl, rfl, trivial⟩ ⟨(fun _ => ⟨_, rfl, (opMove (Ev.tmp rfl))⟩), (fun _ => ⟨_, rfl, (opIndexA (ix89 H) (Ev.tmp rfl) (Ev.const _) (by decide) (by decide))⟩), (fun _ => ⟨_, rfl, (opLoad1 (tl3 H) (Pt.ofArr (e := eI64) 2 (k := 0) (Ev.tmp rfl) rfl lI64 rfl (by decide)))⟩), (fun _ => ⟨_, rfl, (opIndexR (e := eReport) (y := (gt v2 ((gt y4 v16) 0))) (ix37 H) (Ev.tmp rfl) (Ev.tmp rfl) (h29).1 (gt_some h29))⟩), (fun _ => ⟨_, rfl, (opLoadN (tl48 H) (Pt.rop (Ev.tmp rfl)))⟩), (fun _ => ⟨_, rfl, (opMove (Ev.tmp rfl))⟩), (fun _ => ⟨_, rfl, (opIndexA (ix89 H) (Ev.tmp rfl) (Ev.const _) (by decide) (by decide))⟩), (fun _ => ⟨_, rfl, (opLoad1 (tl3 H) (Pt.ofArr (e := eI64) 2 (k := 1) (Ev.tmp rfl) rfl lI64 rfl (by decide)))⟩), (fun _ => ⟨_, rfl, (opIndexR (e := eReport) (y := (gt v2 ((gt y4 v16) 1))) (ix37 H) (Ev.tmp rfl) (Ev.tmp rfl) (h30).1 (gt_some h30))⟩), (fun _ => ⟨_, rfl, (opLoadN (tl48 H) (Pt.rop (Ev.tmp rfl)))⟩), trivial⟩ ⟨⟨_, rfl, rfl, rfl, rfl, opAlloc [.int .i64 0, .int .i64 0, .int .i64 0, .int .i64 0, .int .i64 0, .int .i64 0, .int .i64 0, .int .i64 0, .int .i64 0, .int .i64 0, .int .i64 0, .int .i64 0, .int .i64 0, .int .i64 0, .int .i64 0, .int .i64 0, .int .i64 0, .int .i64 0, .int .i64 0, .string ⟨#[]⟩, .slice none 0 0] (ze48 H) rfl fun b37 => ⟨[], rfl, ?_⟩⟩, trivial⟩ (fun hc => Bool.noConfusion (hc : false = true))
     refine Reg.intro [12] [] (by kernel_rfl) rfl ⟨rfl, rfl, rfl, rfl, rfl, rfl, rfl, rfl, rfl, rfl, trivial⟩ ⟨(fun _ => ⟨_, rfl, (opMove (Ev.tmp rfl))⟩), (fun _ => ⟨_, rfl, (opIndexA (ix89 H) (Ev.tmp rfl) (Ev.const _) (by decide) (by decide))⟩), (fun _ => ⟨_, rfl, (opLoad1 (tl3 H) (Pt.ofArr (e := eI64) 2 (k := 0) (Ev.tmp rfl) rfl lI64 rfl (by decide)))⟩), (fun _ => ⟨_, rfl, (opIndexR (e := eReport) (y := (gt v2 ((gt y4 v16) 0))) (ix37 H) (Ev.tmp rfl) (Ev.tmp rfl) (h29).1 (gt_some h29))⟩), (fun _ => ⟨_, rfl, (opLoadN (tl48 H) (Pt.rop (Ev.tmp rfl)))⟩), (fun _ => ⟨_, rfl, (opMove (Ev.tmp rfl))⟩), (fun _ => ⟨_, rfl, (opIndexA (ix89 H) (Ev.tmp rfl) (Ev.const _) (by decide) (by decide))⟩), (fun _ => ⟨_, rfl, (opLoad1 (tl3 H) (Pt.ofArr (e := eI64) 2 (k := 1) (Ev.tmp rfl) rfl lI64 rfl (by decide)))⟩), (fun _ => ⟨_, rfl, (opIndexR (e := eReport) (y := (gt v2 ((gt y4 v16) 1))) (ix37 H) (Ev.tmp rfl) (Ev.tmp rfl) (h30).1 (gt_some h30))⟩), (fun _ => ⟨_, rfl, (opLoadN (tl48 H) (Pt.rop (Ev.tmp rfl)))⟩), trivial⟩ ⟨⟨_, rfl, rfl, rfl, rfl, opStore 4 (cells := [(iv .i64 0), (iv .i64 0), (iv .i64 0), (iv .i64 0), (iv .i64 0), (iv .i64 0), (iv .i64 0), (iv .i64 0), (iv .i64 0), (iv .i64 0), (iv .i64 0), (iv .i64 0), (iv .i64 0), (iv .i64 0), (iv .i64 0), (iv .i64 0), (iv .i64 0), (iv .i64 0), (iv .i64 0), (eqv (.string (⟨#[]⟩))), (eqv (.slice none 0 0))]) (cs := (eReport (gt v2 ((gt y4 v16) 0)))) (out := (eReport (gt v2 ((gt y4 v16) 0)))) (tl48 H) (Ev.tmp rfl) (Ce.agg (Ev.tmp rfl)) rfl rfl (Nat.le_of_ble_eq_true rfl) rfl ⟨[], rfl, ?_⟩⟩, trivial⟩ (fun hc => Bool.noConfusion (hc : false = true))
     refine Reg.intro [13] [0, 1, 2, 3, 4] (by kernel_rfl) rfl ⟨rfl, rfl, rfl, rfl, rfl, rfl, rfl, rfl, rfl, rfl, trivial⟩ ⟨(fun hn => Bool.noConfusion (hn : true = false)), (fun hn => Bool.noConfusion (hn : true = false)), (fun hn => Bool.noConfusion (hn : true = false)), (fun hn => Bool.noConfusion (hn : true = false)), (fun hn => Bool.noConfusion (hn : true = false)), (fun _ => ⟨_, rfl, (opMove (Ev.tmp rfl))⟩), (fun _ => ⟨_, rfl, (opIndexA (ix89 H) (Ev.tmp rfl) (Ev.const _) (by decide) (by decide))⟩), (fun _ => ⟨_, rfl, (opLoad1 (tl3 H) (Pt.ofArr (e := eI64) 2 (k := 1) (Ev.tmp rfl) rfl lI64 rfl (by decide)))⟩), (fun _ => ⟨_, rfl, (opIndexR (e := eReport) (y := (gt v2 ((gt y4 v16) 1))) (ix37 H) (Ev.tmp rfl) (Ev.tmp rfl) (h30).1 (gt_some h30))⟩), (fun _ => ⟨_, rfl, (opLoadN (tl48 H) (Pt.rop (Ev.tmp rfl)))⟩), trivial⟩ ⟨⟨_, rfl, rfl, rfl, rfl, opStore 3 (cells := [(iv .i64 0), (iv .i64 0), (iv .i64 0), (iv .i64 0), (iv .i64 0), (iv .i64 0), (iv .i64 0), (iv .i64 0), (iv .i64 0), (iv .i64 0), (iv .i64 0), (iv .i64 0), (iv .i64 0), (iv .i64 0), (iv .i64 0), (iv .i64 0), (iv .i64 0), (iv .i64 0), (iv .i64 0), (eqv (.string (⟨#[]⟩))), (eqv (.slice none 0 0))]) (cs := (eReport (gt v2 ((gt y4 v16) 1)))) (out := (eReport (gt v2 ((gt y4 v16) 1)))) (tl48 H) (Ev.tmp rfl) (Ce.agg (Ev.tmp rfl)) rfl rfl (Nat.le_of_ble_eq_true rfl) rfl ⟨[], rfl, ?_⟩⟩, trivial⟩ (fun hc => Bool.noConfusion (hc : false = true))
     refine Reg.intro [] [0, 1, 2, 3, 4, 5, 6, 7, 8, 9] (by kernel_rfl) rfl ⟨rfl, rfl, rfl, rfl, rfl, rfl, rfl, rfl, rfl, rfl, trivial⟩ ⟨(fun hn => Bool.noConfusion (hn : true = false)), (fun hn => Bool.noConfusion (hn : true = false)), (fun hn => Bool.noConfusion (hn : true = false)), (fun hn => Bool.noConfusion (hn : true = false)), (fun hn => Bool.noConfusion (hn : true = false)), (fun hn => Bool.noConfusion (hn : true = false)), (fun hn => Bool.noConfusion (hn : true = false)), (fun hn => Bool.noConfusion (hn : true = false)), (fun hn => Bool.noConfusion (hn : true = false)), (fun hn => Bool.noConfusion (hn : true = false)), trivial⟩ trivial (fun _ => ?_)
     exact AtX.to (hJ25 (b37, b34) h) [0, 1, 4, 3] ⟨⟨_, rfl, Ent.refl⟩, ⟨_, rfl, Ent.refl⟩, ⟨_, rfl, Ent.refl⟩, ⟨_, rfl, Ent.refl⟩, ⟨_, rfl, Ent.refl⟩, ⟨_, rfl, Ent.refl⟩, ⟨_, rfl, Ent.refl⟩, trivial⟩ ⟨⟨_, rfl, EntH.refl⟩, ⟨_, rfl, EntH.refl⟩, ⟨_, rfl, EntH.refl⟩, ⟨_, rfl, EntH.refl⟩, trivial⟩ rfl
  ·
   refine CodeT.exit (AtX.then_exit (AtX.then_exit (AtX.in_hit ?_)))
   exact AtX.to (hJ11 (v17, sv18) h) [0] ⟨⟨_, rfl, Ent.refl⟩, trivial⟩ ⟨⟨_, rfl, EntH.refl⟩, trivial⟩ rfl
theorem handover_check_ok {P : Program} (H : P = Try.prog) (φ : Nat) (v1 : Pool) (v2 : Int) (v3 : Int) (r : (Int)) (h : handover_check φ v1 v2 v3 = some r) : PureT P 29 [(agg (ePool v1)), (iv .i64 v2), (iv .i64 v3)] (fun x news => x = (iv .i64 r) ∧ news = []) := by
 unfold handover_check at h
 refine PureT.of_code' 31 (fn29 H) rfl rfl (Nat.le_of_ble_eq_true rfl) fun w0 base r0 wI => ?_
 refine cl [0, 1, 2] [] rfl rfl rfl (cs (cr [0, 1] rfl (n1 rfl (opBox (Ce.agg (mv rfl)) fun b4 => q1 rfl (opAssign ct) (rn (al [1, 2, 3] [0] rfl rfl rfl (sq (cs (cs (cr [0, 1, 2] rfl (q1 rfl (ln (tl36 H) ((Pt.box 0 (mv rfl) rfl rfl).take 9 (cs' := (ePool v1)) rfl) rfl) ?_)))))))))))
 refine bindE h fun y5 ey5 h => q1 rfl (oQ (fnok37 H) (fleet_CheckPool_ok H φ v1 _ ey5) flat_eqv ⟨ef (mv rfl), trivial⟩) (q1 rfl (opAssign (mv rfl)) (rn (al [1, 2, 3, 7] [0] rfl rfl rfl (sq (cs (cr [0, 1] rfl (q1 rfl (opMove (mv rfl)) (q1 rfl (opNeq (mv rfl) ct) (rn (al [1, 2, 3, 7, 11] [0] rfl rfl rfl ?_))))))))))
 refine sq ?_
 refine cI h rfl (fun c6 h => ?_) (fun c6 h => ?_)
 ·
  refine cs (cr [0, 1] rfl (q1 rfl (opMove (mv rfl)) (q1 rfl (opAssign (mv rfl)) (rn (al [6] [] rfl rfl rfl (sq (CodeT.ret (AtX.then_ret (AtX.ret' (iv .i64 y5) (ResOK.one Try.results29 rfl) [] [] trivial rfl ?_)))))))))
  obtain rfl := Option.some.inj h
  exact ⟨rfl, rfl⟩
 ·
  refine CodeT.skip (al [1, 2, 3] [0] rfl rfl rfl (sq (cs (cs (cr [0, 1, 2, 3, 4, 5, 6, 7, 8, 9, 10, 11, 12, 13, 14, 15, 16, 17] rfl (q1 rfl (opMove (mv rfl)) (q1 rfl (opLss (mv rfl) ct) (q1 rfl (opMove (mv rfl)) (g1 rfl rfl (fun g7 => opMove (mv rfl)) (g1 rfl rfl (fun g8 => opFieldP (fo36_1 H) (mv rfl)) (g1 rfl rfl (fun g9 => opFieldP (fo31_1 H) (mc rfl g9)) ?_)))))))))))
  refine g1 rfl rfl (fun g10 => lb (tl27 H) 0 (mc rfl g10) rfl rfl) (g1 rfl rfl (fun g11 => opLenR (il27 H) (mc rfl g11)) (g1 rfl rfl (fun g12 => opGeq (mc rfl g12) (mc rfl g12)) (q1 rfl (opOr (mv rfl) ct (fun g13 => (mc rfl g13))) (q1 rfl (opMove (mv rfl)) (g1 rfl rfl (fun g14 => opMove (mv rfl)) (g1 rfl rfl (fun g15 => opLss (mc rfl g15) ct) (q1 rfl (opOr (mv rfl) ct (fun g16 => (mc rfl g16))) (q1 rfl (opMove (mv rfl)) (g1 rfl rfl (fun g17 => opMove (mv rfl)) (g1 rfl rfl (fun g18 => opGtr (mc rfl g18) ct) (q1 rfl (opOr (mv rfl) ct (fun g19 => (mc rfl g19))) ?_)))))))))))
  refine rn (al [30] [] rfl rfl rfl (sq ?_))
  refine cI h rfl (fun c20 h => ?_) (fun c20 h => ?_)
  ·
   refine cs (cr [0] rfl (q1 rfl (opAssign ct) (rn (al [6] [] rfl rfl rfl (sq (CodeT.ret (AtX.then_ret (AtX.ret' (iv .i64 1) (ResOK.one Try.results29 rfl) [] [] trivial rfl ?_))))))))
   obtain rfl := Option.some.inj h
   exact ⟨rfl, rfl⟩
  ·
   refine CodeT.skip (al [] [] rfl rfl rfl (sq (cs (cr [0] rfl (q1 rfl (opAssign ct) (rn (al [6] [] rfl rfl rfl (sq (CodeT.ret (AtX.ret' (iv .i64 0) (ResOK.one Try.results29 rfl) [] [] trivial rfl ?_))))))))))
   obtain rfl := Option.some.inj h
   exact ⟨rfl, rfl⟩
theorem handover_chain_ok {P : Program} (H : P = Try.prog) (φ : Nat) (v1 : Pool) (v2 : (List Report)) (v3 : Int) (r : ((List Custody))) (h : handover_chain φ v1 v2 v3 = some r) : PureT P 30 [(agg (ePool v1)), (ro eReport 21 v2), (iv .i64 v3)] (K_handover_chain r) := by
 unfold handover_chain at h
 refine PureT.of_code' 72 (fn30 H) rfl rfl (Nat.le_of_ble_eq_true rfl) fun w0 base r0 wI => ?_
 refine cl [0, 1, 2] [] rfl rfl rfl (cs (CodeT.addNil 64 eCustody 5 (cr [0, 1] rfl (n1 rfl (opBox (Ce.agg (mv rfl)) fun b4 => q1 rfl (opAssign ct) (rn (al [1, 2, 3] [1] rfl rfl rfl (sq (cs (ckE h fun h5 h => ckE h fun h6 h => ?_))))))))))
 refine CodeT.draw (QR := [(0, _), (1, _), (2, _), (3, _), (4, _), (5, _), (6, _), (7, _), (8, _), (9, _), (10, _), (11, _), (12, _), (13, _)]) (tab := [(some 11, []), (some 12, [0]), (some 13, [1]), (some 14, []), (some 15, [3]), (some 16, [4]), (some 17, []), (some 18, [5, 6]), (some 19, [7]), (some 20, [8]), (some 21, [2, 9]), (some 22, [10]), (some 23, [11]), (some 24, [12]), (some 25, [13]), (some 7, [14, 0, 1, 2, 3, 4, 5, 6, 7, 8, 9, 10, 11, 12, 13, 14])]) (mixed H) (Reg.intro [14] [] (by kernel_rfl) rfl (an rfl) ⟨(qr rfl (opFieldP (fo36_0 H) (mv rfl))), (qr rfl (opFieldP (fo25_0 H) (mv rfl))), (qr rfl (lb (tl22 H) 0 (mv rfl) rfl rfl)), (qr rfl (opFieldP (fo36_1 H) (mv rfl))), (qr rfl (opFieldP (fo31_1 H) (mv rfl))), (qr rfl (lb (tl27 H) 0 (mv rfl) rfl rfl)), (qr rfl (opMove (mv rfl))), (qr rfl (opIndexR (ix27 H) (mv rfl) (mv rfl) (h5).1 (gt_some h5))), (qr rfl (opFieldRT (fo66_2 H) (mv rfl) (cs' := [(iv .i64 ((gt v1.fFleet.fWagons v3).fHome))]) 1 rfl)), (qr rfl (lr (tl3 H) (mv rfl))), (qr rfl (opIndexR (ix22 H) (mv rfl) (mv rfl) (h6).1 (gt_some h6))), (qr rfl (opFieldRT (fo68_1 H) (mv rfl) (cs' := [(iv .i64 ((gt v1.fNetwork.fPlaces ((gt v1.fFleet.fWagons v3).fHome)).fRailway))]) 1 rfl)), (qr rfl (lr (tl3 H) (mv rfl))), (qr rfl (opBuild [.int .i64 0, .int .i64 0, .int .i64 0, .int .i64 0, .int .i64 0] [(0, [(iv .i64 ((gt v1.fNetwork.fPlaces ((gt v1.fFleet.fWagons v3).fHome)).fRailway))])] (out := [(iv .i64 ((gt v1.fNetwork.fPlaces ((gt v1.fFleet.fWagons v3).fHome)).fRailway)), (iv .i64 0), (iv .i64 0), (iv .i64 0), (iv .i64 0)]) (ze64 H) rfl (tb64 H) ⟨(tp64_0 H), Nat.le_of_ble_eq_true rfl, (Ce.one (mv rfl) (One.eqv rfl)), trivial⟩ rfl)), trivial⟩ ⟨⟨_, rfl, rfl, rfl, rfl, opBuildSlice [(Custody.mk (gt v1.fNetwork.fPlaces ((gt v1.fFleet.fWagons v3).fHome)).fRailway (Span.mk 0 0) (Ref.mk 0 0))] (sl49 H) lCustody rfl (by decide) ⟨rfl, (Ce.agg (mv rfl)), trivial⟩ fun sv9 => ⟨[(15, (eqv sv9))], rfl, ?_⟩⟩, trivial⟩ ft)
 refine Reg.intro [] [0, 1, 2, 3, 4, 5, 6, 7, 8, 9, 10, 11, 12, 13] (by kernel_rfl) rfl (an rfl) ⟨nf, nf, nf, nf, nf, nf, nf, nf, nf, nf, nf, nf, nf, nf, (qr rfl (opAssign (mv rfl))), trivial⟩ trivial (fun _ => al [1, 2, 3, 7] [0, 1] rfl rfl rfl (sq (cs (cs (cr [0, 1, 2, 3, 4] rfl (q1 rfl (ln (tl36 H) ((Pt.box 0 (mv rfl) rfl rfl).take 9 (cs' := (ePool v1)) rfl) rfl) (q1 rfl (opMove (mv rfl)) (bindE h fun y10 ey10 h => n1 rfl (oF (fnok13 H) (handover_Match_ok H φ v1 v2 _ ey10) ⟨ef (mv rfl), ef (mv rfl), trivial⟩ fun x13 nw14 hk12 => ?_)))))))))
 obtain ⟨sv11, rfl, rfl⟩ := hk12
 refine ⟨flat_eqv, allFlatH ⟨flat_row' fHandover, trivial⟩, ?_⟩
 refine q1 rfl (opLenO 2 (il53 H) (mv rfl) rfl) (q1 rfl (opMove ct) (rn (al [2, 7, 28, 29, 30] [1, 2] rfl rfl rfl (sq ?_))))
 refine CodeT.join (fun z : (List Custody) × Value => (handover_chain_j17 φ) z.1) r (fun z => ⟨Slots.of [(7, (eqv z.2))], [(row 64 eCustody 5 z.1 z.2)]⟩) (fun z h => ?_) (fun hJ17 => ?_)
 ·
  obtain ⟨v15, sv16⟩ := z
  replace h : (handover_chain_j17 φ) v15 = some r := h
  unfold handover_chain_j17 at h
  refine al [7] [0] rfl rfl rfl (sq (cs (cr [0, 1] rfl (q1 rfl (opMove (mv rfl)) (q1 rfl (opAssign (mv rfl)) (rn (al [6] [0] rfl rfl rfl (sq (CodeT.ret (AtX.ret' (eqv sv16) (ResOK.one Try.results30 rfl) [0] [(row 64 eCustody 5 v15 sv16)] (ol rfl) rfl ?_))))))))))
  obtain rfl := Option.some.inj h
  exact ⟨sv16, rfl, rfl⟩
 ·
  refine CodeT.block ?_
  refine CodeT.to (CodeT.loop (fun n (z : Int × (List Custody) × Value) => handover_chain_L21 φ v3 y10 (handover_chain_j17 φ) n z.1 z.2.1) r (fun z => ⟨Slots.of [(2, (iv .i64 v3)), (7, (eqv z.2.2)), (28, (eqv sv11)), (29, (iv .i64 (y10.length : Int))), (30, (iv .i64 z.1))], [(row 64 eCustody 5 z.2.1 z.2.2), (row 70 eHandover 10 y10 sv11)]⟩) (fun z => rfl) (fun n21 z ih21 h => ?_) φ (0, [(Custody.mk (gt v1.fNetwork.fPlaces ((gt v1.fFleet.fWagons v3).fHome)).fRailway (Span.mk 0 0) (Ref.mk 0 0))], sv9) h) [0, 1] (sl rfl) (ol rfl) rfl
  obtain ⟨v18, v19, sv20⟩ := z
  replace h : handover_chain_L21 φ v3 y10 (handover_chain_j17 φ) (n21 + 1) v18 v19 = some r := h
  rw [handover_chain_L21] at h
  refine cs (cr [0] rfl (q1 rfl (opLss (mv rfl) (mv rfl)) (rn (al [2, 7, 28, 29, 30, 31] [0, 1] rfl rfl rfl (sq (cs ?_))))))
  refine cI h rfl (fun c22 h => ?_) (fun c22 h => ?_)
  ·
   refine CodeT.skip (AtX.le' [(2, (iv .i64 v3)), (7, (eqv sv20)), (28, (eqv sv11)), (29, (iv .i64 (y10.length : Int))), (30, (iv .i64 v18))] [0, 1] [(row 64 eCustody 5 v19 sv20), (row 70 eHandover 10 y10 sv11)] (sl rfl) (ol rfl) rfl (AtX.seq ?_))
   refine CodeT.seq ?_
   refine CodeT.block ?_
   refine CodeT.seq ?_
   refine CodeT.region' [0, 1, 2, 3] rfl ?_
   refine ckE h fun h23 h => RunOps.cons_q (rowp sv11 ((v18 : Int).toNat * 10)) rfl rfl rfl (opIndexO 1 (ix53 H) (mv rfl) rfl (mv rfl) (h23).1 (h23).2) (RunOps.cons_q (agg (eHandover (gt y10 v18))) rfl rfl rfl (opLoadN (tl70 H) ((Pt.row _ 1 (k := (v18 : Int).toNat) (fo := 0) lHandover (Ev.tmp rfl) rfl (by omega) (gt_some h23) rfl).take 10 (cs' := (eHandover (gt y10 v18))) rfl)) (RunOps.cons rfl rfl rfl (opAlloc [.int .i64 0, .int .i64 0, .int .i64 0, .int .i64 0, .int .i64 0, .int .i64 0, .int .i64 0, .int .i64 0, .int .i64 0, .int .i64 0] (ze70 H) rfl fun b24 => RunOps.cons rfl rfl rfl (opStore 2 (cells := [(iv .i64 0), (iv .i64 0), (iv .i64 0), (iv .i64 0), (iv .i64 0), (iv .i64 0), (iv .i64 0), (iv .i64 0), (iv .i64 0), (iv .i64 0)]) (cs := (eHandover (gt y10 v18))) (out := (eHandover (gt y10 v18))) (tl70 H) (Ev.tmp rfl) (Ce.agg (Ev.tmp rfl)) rfl rfl (Nat.le_of_ble_eq_true rfl) rfl (RunOps.nil (AtX.le' [(2, (iv .i64 v3)), (7, (eqv sv20)), (9, (eqv (.pointer (some ⟨b24, 0, none⟩)))), (28, (eqv sv11)), (29, (iv .i64 (y10.length : Int))), (30, (iv .i64 v18))] [0, 1, 2] [(row 64 eCustody 5 v19 sv20), (row 70 eHandover 10 y10 sv11), (box b24 70 (eHandover (gt y10 v18)))] ⟨⟨_, rfl, Ent.refl⟩, ⟨_, rfl, Ent.refl⟩, ⟨_, rfl, Ent.refl⟩, ⟨_, rfl, Ent.refl⟩, ⟨_, rfl, Ent.refl⟩, ⟨_, rfl, Ent.refl⟩, trivial⟩ ⟨⟨_, rfl, EntH.refl⟩, ⟨_, rfl, EntH.refl⟩, ⟨_, rfl, EntH.refl⟩, trivial⟩ rfl (AtX.seq ?_)))))))
   refine CodeT.seq ?_
   refine CodeT.region' [0, 1, 2, 3, 4, 5, 6, 7] rfl ?_
   refine RunOps.cons_q (eqv sv20) rfl rfl rfl (opMove (mv rfl)) (RunOps.cons_q (eqv sv20) rfl rfl rfl (opMove (mv rfl)) (RunOps.cons_q (iv .i64 (v19.length : Int)) rfl rfl rfl (opLenO 0 (il49 H) (mv rfl) rfl) (RunOps.cons_q (iv .i64 (W ((v19.length : Int) - 1))) rfl rfl rfl (opSub (mv rfl) (Ev.const _)) (ckE h fun h25 h => RunOps.cons_q (rowp sv20 (((W ((v19.length : Int) - 1)) : Int).toNat * 5)) rfl rfl rfl (opIndexO 0 (ix49 H) (mv rfl) rfl (mv rfl) (h25).1 (h25).2) (RunOps.cons_q (agg (eCustody (gt v19 (W ((v19.length : Int) - 1))))) rfl rfl rfl (opLoadN (tl64 H) ((Pt.row _ 0 (k := ((W ((v19.length : Int) - 1)) : Int).toNat) (fo := 0) lCustody (Ev.tmp rfl) rfl (by omega) (gt_some h25) rfl).take 5 (cs' := (eCustody (gt v19 (W ((v19.length : Int) - 1))))) rfl)) (n1 rfl (opAlloc _ (ze64 H) rfl fun b26 => n1 rfl (sto 3 (tl64 H) (mv rfl) (Ce.agg (mv rfl)) rfl rfl rfl rfl (rn (al [2, 7, 9, 10, 28, 29, 30] [0, 1, 2, 3] rfl rfl rfl (sq ?_)))))))))))
   refine cs (cr [0, 1, 2, 3, 4, 5, 6, 7, 8, 9, 10, 11, 12, 13, 14, 15, 16, 17, 18] rfl (q1 rfl (opFieldP (fo70_0 H) (mv rfl)) (q1 rfl (lb (tl3 H) 2 (mv rfl) rfl rfl) (q1 rfl (opMove (mv rfl)) (q1 rfl (opEql (mv rfl) (mv rfl)) (q1 rfl (opMove (mv rfl)) (g1 rfl rfl (fun g27 => opFieldP (fo70_2 H) (mv rfl)) (g1 rfl rfl (fun g28 => lb (tl3 H) 2 (mc rfl g28) rfl rfl) (g1 rfl rfl (fun g29 => opFieldP (fo64_0 H) (mv rfl)) (g1 rfl rfl (fun g30 => lb (tl3 H) 3 (mc rfl g30) rfl rfl) (g1 rfl rfl (fun g31 => opEql (mc rfl g31) (mc rfl g31)) ?_)))))))))))
   refine q1 rfl (opAnd (mv rfl) (fun g32 => (mc rfl g32)) ct) (q1 rfl (opMove (mv rfl)) (g1 rfl rfl (fun g33 => opFieldP (fo70_4 H) (mv rfl)) (g1 rfl rfl (fun g34 => lb (tl3 H) 2 (mc rfl g34) rfl rfl) (g1 rfl rfl (fun g35 => opFieldP (fo64_1 H) (mv rfl)) (g1 rfl rfl (fun g36 => opFieldP (fo62_0 H) (mc rfl g36)) (g1 rfl rfl (fun g37 => lb (tl3 H) 3 (mc rfl g37) rfl rfl) (g1 rfl rfl (fun g38 => opGtr (mc rfl g38) (mc rfl g38)) (q1 rfl (opAnd (mv rfl) (fun g39 => (mc rfl g39)) ct) (rn (al [2, 7, 9, 28, 29, 30, 58] [0, 1, 2] rfl rfl rfl (sq ?_)))))))))))
   refine CodeT.join (fun z : (List Custody) × Value => (handover_chain_j42 φ v18 (handover_chain_L21 φ v3 y10 (handover_chain_j17 φ) n21)) z.1) r (fun z => ⟨Slots.of [(2, (iv .i64 v3)), (7, (eqv z.2)), (28, (eqv sv11)), (29, (iv .i64 (y10.length : Int))), (30, (iv .i64 v18))], [(row 64 eCustody 5 z.1 z.2), (row 70 eHandover 10 y10 sv11)]⟩) (fun z h => ?_) (fun hJ42 => ?_)
   ·
    obtain ⟨v40, sv41⟩ := z
    replace h : (handover_chain_j42 φ v18 (handover_chain_L21 φ v3 y10 (handover_chain_j17 φ) n21)) v40 = some r := h
    unfold handover_chain_j42 at h
    refine AtX.in_normal (al [2, 7, 28, 29, 30] [0, 1] rfl rfl rfl (sq (cr [0, 1] rfl (q1 rfl (opAdd (mv rfl) ct) (q1 rfl (opMove (mv rfl)) (rn ?_))))))
    exact AtX.to (ih21 ((W (v18 + 1)), v40, sv41) h) [0, 1] (sl rfl) (ol rfl) rfl
   ·
    refine cI h rfl (fun c43 h => ?_) (fun c43 h => ?_)
    ·
     refine cr [0, 1, 2, 3, 4, 5, 6, 7, 8, 9, 10, 11] rfl (q1 rfl (opMove (mv rfl)) (q1 rfl (opFieldP (fo70_3 H) (mv rfl)) (q1 rfl (lb (tl3 H) 2 (mv rfl) rfl rfl) (q1 rfl (opFieldP (fo70_4 H) (mv rfl)) (q1 rfl (lb (tl3 H) 2 (mv rfl) rfl rfl) (q1 rfl (opBuild [.int .i64 0, .int .i64 0] [(0, [(iv .i64 ((gt y10 v18).fAt))])] (out := [(iv .i64 ((gt y10 v18).fAt)), (iv .i64 0)]) (ze62 H) rfl (tb62 H) ⟨(tp62_0 H), Nat.le_of_ble_eq_true rfl, (Ce.one (mv rfl) (One.eqv rfl)), trivial⟩ rfl) (q1 rfl (opFieldP (fo70_7 H) (mv rfl)) (q1 rfl (ln (tl43 H) ((Pt.box 2 (mv rfl) rfl rfl).take 2 (cs' := (eRef (gt y10 v18).fReceive)) rfl) rfl) (q1 rfl (opBuild [.int .i64 0, .int .i64 0, .int .i64 0, .int .i64 0, .int .i64 0] [(0, [(iv .i64 ((gt y10 v18).fTo))]), (1, [(iv .i64 ((gt y10 v18).fAt)), (iv .i64 0)]), (3, (eRef (gt y10 v18).fReceive))] (out := [(iv .i64 ((gt y10 v18).fTo)), (iv .i64 ((gt y10 v18).fAt)), (iv .i64 0), (iv .i64 ((gt y10 v18).fReceive.fRailway)), (iv .i64 ((gt y10 v18).fReceive.fNo))]) (ze64 H) rfl (tb64 H) ⟨(tp64_0 H), Nat.le_of_ble_eq_true rfl, (Ce.one (mv rfl) (One.eqv rfl)), ⟨(tp64_1 H), Nat.le_of_ble_eq_true rfl, (Ce.agg (mv rfl)), ⟨(tp64_2 H), Nat.le_of_ble_eq_true rfl, (Ce.agg (mv rfl)), trivial⟩⟩⟩ rfl) (n1 rfl (opBuildSlice (e := eCustody) [(Custody.mk (gt y10 v18).fTo (Span.mk (gt y10 v18).fAt 0) (gt y10 v18).fReceive)] (sl49 H) lCustody rfl (by decide) ⟨rfl, (Ce.agg (mv rfl)), trivial⟩ fun sv44 => ckE h fun h45 h => ?_)))))))))))
     refine n1 rfl (opAppend 0 (l := v19) (m := [(Custody.mk (gt y10 v18).fTo (Span.mk (gt y10 v18).fAt 0) (gt y10 v18).fReceive)]) (sl49 H) lCustody (mv rfl) rfl (Src.row 3 (mv rfl) rfl) h45 (fits_max (by decide) h45) fun sv46 => q1 rfl (opAssign (mv rfl)) (rn ?_))
     exact AtX.to (hJ42 ((v19 ++ [(Custody.mk (gt y10 v18).fTo (Span.mk (gt y10 v18).fAt 0) (gt y10 v18).fReceive)]), sv46) h) [0, 1] (sl rfl) (ol rfl) rfl
    ·
     refine CodeT.skip ?_
     exact AtX.to (hJ42 (v19, sv20) h) [0, 1] (sl rfl) (ol rfl) rfl
  ·
   refine CodeT.exit (AtX.then_exit (AtX.then_exit (AtX.in_hit ?_)))
   exact AtX.to (hJ17 (v19, sv20) h) [0] (sl rfl) (ol rfl) rfl
theorem handover_Spans_ok {P : Program} (H : P = Try.prog) (φ : Nat) (v1 : Pool) (v2 : (List Report)) (v3 : Int) (v4 : Int) (r : ((List Custody) × Int)) (h : handover_Spans φ v1 v2 v3 v4 = some r) : PureT P 12 [(agg (ePool v1)), (ro eReport 21 v2), (iv .i64 v3), (iv .i64 v4)] (K_handover_Spans r) := by
 unfold handover_Spans at h
 refine PureT.of_code' 58 (fn12 H) rfl rfl (Nat.le_of_ble_eq_true rfl) fun w0 base r0 wI => ?_
 refine cl [0, 1, 2, 3] [] rfl rfl rfl (cs (CodeT.addNil 64 eCustody 5 (cr [0, 1, 2] rfl (n1 rfl (opBox (Ce.agg (mv rfl)) fun b5 => q1 rfl (opAssign ct) (q1 rfl (opAssign ct) (rn (al [1, 2, 3, 4] [1] rfl rfl rfl (sq (cs (cs ?_)))))))))))
 refine cr [0, 1, 2, 3, 4] rfl (q1 rfl (ln (tl36 H) ((Pt.box 0 (mv rfl) rfl rfl).take 9 (cs' := (ePool v1)) rfl) rfl) (q1 rfl (opMove (mv rfl)) (q1 rfl (opMove (mv rfl)) (bindE h fun y6 ey6 h => q1 rfl (oQ (fnok29 H) (handover_check_ok H φ v1 v3 v4 _ ey6) flat_eqv ⟨ef (mv rfl), ef (mv rfl), ef (mv rfl), trivial⟩) (q1 rfl (opAssign (mv rfl)) (rn (al [1, 2, 3, 4, 10] [0] rfl rfl rfl (sq (cs (cr [0, 1] rfl ?_))))))))))
 refine q1 rfl (opMove (mv rfl)) (q1 rfl (opNeq (mv rfl) ct) (rn (al [1, 2, 3, 4, 10, 20] [0] rfl rfl rfl (sq ?_))))
 refine cI h rfl (fun c7 h => ?_) (fun c7 h => ?_)
 ·
  refine cs (CodeT.addNil 64 eCustody 5 (cr [0, 1, 2] rfl (q1 rfl (opMove (mv rfl)) (q1 rfl (opAssign ct) (q1 rfl (opAssign (mv rfl)) (rn (al [8, 9] [1] rfl rfl rfl (sq (CodeT.ret (AtX.then_ret (AtX.ret' (tupv [(eqv (Value.slice none 0 0)), (iv .i64 y6)]) (ResOK.two Try.results12 rfl rfl) [0] [(row 64 eCustody 5 ([] : List Custody) (Value.slice none 0 0))] (ol rfl) rfl ?_)))))))))))
  obtain rfl := Option.some.inj h
  exact ⟨(Value.slice none 0 0), rfl, rfl⟩
 ·
  refine CodeT.skip (al [1, 2, 3, 4] [0] rfl rfl rfl (sq (cs (CodeT.addNil 64 eCustody 5 (cr [0] rfl (q1 rfl (opAssign ct) (rn (al [1, 2, 3, 4, 11] [0, 1] rfl rfl rfl (sq (cs (cs ?_)))))))))))
  refine cr [0, 1, 2, 3, 4, 5] rfl (q1 rfl (ln (tl36 H) ((Pt.box 0 (mv rfl) rfl rfl).take 9 (cs' := (ePool v1)) rfl) rfl) (q1 rfl (opMove (mv rfl)) (q1 rfl (opMove (mv rfl)) (bindE h fun y8 ey8 h => n1 rfl (oF (fnok30 H) (handover_chain_ok H φ v1 v2 v3 _ ey8) ⟨ef (mv rfl), ef (mv rfl), ef (mv rfl), trivial⟩ fun x11 nw12 hk10 => ?_)))))
  obtain ⟨sv9, rfl, rfl⟩ := hk10
  refine ⟨flat_eqv, allFlatH ⟨flat_row' fCustody, trivial⟩, ?_⟩
  refine q1 rfl (opLenO 2 (il49 H) (mv rfl) rfl) (q1 rfl (opMove ct) (rn (al [3, 11, 25, 26, 27] [1, 2] rfl rfl rfl (sq ?_))))
  refine CodeT.join (fun z : (List Custody) × Value => (handover_Spans_j15 φ) z.1) r (fun z => ⟨Slots.of [(11, (eqv z.2))], [(row 64 eCustody 5 z.1 z.2)]⟩) (fun z h => ?_) (fun hJ15 => ?_)
  ·
   obtain ⟨v13, sv14⟩ := z
   replace h : (handover_Spans_j15 φ) v13 = some r := h
   unfold handover_Spans_j15 at h
   refine al [11] [0] rfl rfl rfl (sq (cs (cr [0, 1, 2] rfl (q1 rfl (opMove (mv rfl)) (q1 rfl (opAssign (mv rfl)) (q1 rfl (opAssign ct) (rn (al [8, 9] [0] rfl rfl rfl (sq (CodeT.ret (AtX.ret' (tupv [(eqv sv14), (iv .i64 0)]) (ResOK.two Try.results12 rfl rfl) [0] [(row 64 eCustody 5 v13 sv14)] (ol rfl) rfl ?_)))))))))))
   obtain rfl := Option.some.inj h
   exact ⟨sv14, rfl, rfl⟩
  ·
   refine CodeT.block ?_
   refine CodeT.to (CodeT.loop (fun n (z : Int × (List Custody) × Value) => handover_Spans_L19 φ v4 y8 (handover_Spans_j15 φ) n z.1 z.2.1) r (fun z => ⟨Slots.of [(3, (iv .i64 v4)), (11, (eqv z.2.2)), (25, (eqv sv9)), (26, (iv .i64 (y8.length : Int))), (27, (iv .i64 z.1))], [(row 64 eCustody 5 z.2.1 z.2.2), (row 64 eCustody 5 y8 sv9)]⟩) (fun z => rfl) (fun n19 z ih19 h => ?_) φ (0, ([] : List Custody), (Value.slice none 0 0)) h) [0, 1] (sl rfl) (ol rfl) rfl
   obtain ⟨v16, v17, sv18⟩ := z
   replace h : handover_Spans_L19 φ v4 y8 (handover_Spans_j15 φ) (n19 + 1) v16 v17 = some r := h
   rw [handover_Spans_L19] at h
   refine cs (cr [0] rfl (q1 rfl (opLss (mv rfl) (mv rfl)) (rn (al [3, 11, 25, 26, 27, 28] [0, 1] rfl rfl rfl (sq (cs ?_))))))
   refine cI h rfl (fun c20 h => ?_) (fun c20 h => ?_)
   ·
    refine CodeT.skip (al [3, 11, 25, 26, 27] [0, 1] rfl rfl rfl (sq (cs (CodeT.block (cs (cr [0, 1, 2, 3] rfl (ckE h fun h21 h => q1 rfl (opIndexO 1 (ix49 H) (mv rfl) rfl (mv rfl) (h21).1 (h21).2) (q1 rfl (ln (tl64 H) ((Pt.row _ 1 (k := (v16 : Int).toNat) (fo := 0) lCustody (mv rfl) rfl (by omega) (gt_some h21) rfl).take 5 (cs' := (eCustody (gt y8 v16))) rfl) rfl) (n1 rfl (opAlloc _ (ze64 H) rfl fun b22 => n1 rfl (sto 2 (tl64 H) (mv rfl) (Ce.agg (mv rfl)) rfl rfl rfl rfl ?_)))))))))))
    refine rn (al [3, 11, 13, 25, 26, 27] [0, 1, 2] rfl rfl rfl (sq (cs (cs (cr [0, 1, 2, 3, 4] rfl (q1 rfl (opFieldP (fo64_1 H) (mv rfl)) (q1 rfl (opFieldP (fo62_0 H) (mv rfl)) (q1 rfl (lb (tl3 H) 2 (mv rfl) rfl rfl) (q1 rfl (opMove (mv rfl)) (q1 rfl (opGeq (mv rfl) (mv rfl)) (rn ?_)))))))))))
    refine al [3, 11, 13, 25, 26, 27, 35] [0, 1, 2] rfl rfl rfl (sq ?_)
    refine cI h rfl (fun c23 h => ?_) (fun c23 h => ?_)
    ·
     refine CodeT.exit (AtX.then_exit (AtX.in_miss (by decide) (AtX.then_exit (AtX.then_exit (AtX.in_hit ?_)))))
     exact AtX.to (hJ15 (v17, sv18) h) [0] (sl rfl) (ol rfl) rfl
    ·
     refine CodeT.skip (al [3, 11, 13, 25, 26, 27] [0, 1, 2] rfl rfl rfl (sq (cs (cs (cr [0, 1, 2] rfl (q1 rfl (opMove (mv rfl)) (q1 rfl (opLenO 0 (il49 H) (mv rfl) rfl) (q1 rfl (opAssign (mv rfl)) (rn (al [3, 11, 13, 14, 25, 26, 27] [0, 1, 2] rfl rfl rfl (sq ?_)))))))))))
     refine cs (cr [0, 1] rfl (q1 rfl (opMove (mv rfl)) (q1 rfl (opGtr (mv rfl) ct) (rn (al [3, 11, 13, 14, 25, 26, 27, 39] [0, 1, 2] rfl rfl rfl (sq ?_))))))
     refine CodeT.join (fun z : (List Custody) => (handover_Spans_j25 φ v4 y8 v16 (handover_Spans_L19 φ v4 y8 (handover_Spans_j15 φ) n19)) z) r (fun z => ⟨Slots.of [(3, (iv .i64 v4)), (11, (eqv sv18)), (13, (eqv (.pointer (some ⟨b22, 0, none⟩)))), (25, (eqv sv9)), (26, (iv .i64 (y8.length : Int))), (27, (iv .i64 v16))], [(row 64 eCustody 5 z sv18), (row 64 eCustody 5 y8 sv9), (box b22 64 (eCustody (gt y8 v16)))]⟩) (fun v24 h => ?_) (fun hJ25 => ?_)
     ·
      replace h : (handover_Spans_j25 φ v4 y8 v16 (handover_Spans_L19 φ v4 y8 (handover_Spans_j15 φ) n19)) v24 = some r := h
      unfold handover_Spans_j25 at h
      refine al [3, 11, 13, 25, 26, 27] [0, 1, 2] rfl rfl rfl (sq (cs (cr [0, 1, 2, 3] rfl (q1 rfl (opMove (mv rfl)) (q1 rfl (opFieldP (fo64_1 H) (mv rfl)) (q1 rfl (opFieldP (fo62_1 H) (mv rfl)) (n1 rfl (sto 2 (tl3 H) (mv rfl) (Ce.one (mv rfl) (One.eqv rfl)) rfl rfl rfl rfl (rn (al [3, 11, 13, 25, 26, 27] [0, 1, 2] rfl rfl rfl (sq (cr [0, 1, 2, 3, 4] rfl ?_))))))))))))
      refine q1 rfl (opMove (mv rfl)) (q1 rfl (ln (tl64 H) ((Pt.box 2 (mv rfl) rfl rfl).take 5 (cs' := [(iv .i64 ((gt y8 v16).fRailway)), (iv .i64 ((gt y8 v16).fSpan.fFrom)), (iv .i64 v4), (iv .i64 ((gt y8 v16).fRef.fRailway)), (iv .i64 ((gt y8 v16).fRef.fNo))]) rfl) rfl) (n1 rfl (opBuildSlice (e := eCustody) [(Custody.mk (gt y8 v16).fRailway (Span.mk (gt y8 v16).fSpan.fFrom v4) (gt y8 v16).fRef)] (sl49 H) lCustody rfl (by decide) ⟨rfl, (Ce.agg (mv rfl)), trivial⟩ fun sv26 => ckE h fun h27 h => RunOps.cons rfl rfl rfl (opAppend 0 (l := v24) (m := [(Custody.mk (gt y8 v16).fRailway (Span.mk (gt y8 v16).fSpan.fFrom v4) (gt y8 v16).fRef)]) (sl49 H) lCustody (mv rfl) rfl (Src.row 3 (mv rfl) rfl) h27 (fits_max (by decide) h27) fun sv28 => cq rfl rfl rfl (opAssign (mv rfl)) (RunOps.nil (AtX.in_normal (AtX.le' [(3, (iv .i64 v4)), (11, (eqv sv28)), (25, (eqv sv9)), (26, (iv .i64 (y8.length : Int))), (27, (iv .i64 v16))] [0, 1] [(row 64 eCustody 5 (v24 ++ [(Custody.mk (gt y8 v16).fRailway (Span.mk (gt y8 v16).fSpan.fFrom v4) (gt y8 v16).fRef)]) sv28), (row 64 eCustody 5 y8 sv9)] (sl rfl) (ol rfl) rfl (AtX.seq ?_))))))))
      refine CodeT.region' [0, 1] rfl ?_
      refine RunOps.cons_q (iv .i64 (W (v16 + 1))) rfl rfl rfl (opAdd (mv rfl) (Ev.const _)) (RunOps.cons_q (iv .i64 (W (v16 + 1))) rfl rfl rfl (opMove (mv rfl)) (RunOps.nil ?_))
      exact AtX.to (ih19 ((W (v16 + 1)), (v24 ++ [(Custody.mk (gt y8 v16).fRailway (Span.mk (gt y8 v16).fSpan.fFrom v4) (gt y8 v16).fRef)]), sv28) h) [0, 1] ⟨⟨_, rfl, Ent.refl⟩, ⟨_, rfl, Ent.refl⟩, ⟨_, rfl, Ent.refl⟩, ⟨_, rfl, Ent.refl⟩, ⟨_, rfl, Ent.refl⟩, trivial⟩ ⟨⟨_, rfl, EntH.refl⟩, ⟨_, rfl, EntH.refl⟩, trivial⟩ rfl
     ·
      refine cI h rfl (fun c29 h => ?_) (fun c29 h => ?_)
      ·
       refine CodeT.region' [0, 1, 2, 3, 4, 5, 6, 7, 8, 9] rfl ?_
       refine RunOps.cons_q (eqv sv18) rfl rfl rfl (opMove (mv rfl)) (RunOps.cons_q (iv .i64 (v17.length : Int)) rfl rfl rfl (opMove (mv rfl)) (RunOps.cons_q (iv .i64 (W ((v17.length : Int) - 1))) rfl rfl rfl (opSub (mv rfl) (Ev.const _)) (RunOps.cons_q (eqv (.pointer (some ⟨b22, 1, none⟩))) rfl rfl rfl (opFieldP (fo64_1 H) (mv rfl)) (RunOps.cons_q (eqv (.pointer (some ⟨b22, 1, none⟩))) rfl rfl rfl (opFieldP (fo62_0 H) (mv rfl)) (RunOps.cons_q (iv .i64 ((gt y8 v16).fSpan.fFrom)) rfl rfl rfl (opLoad1 (tl3 H) ((Pt.box 2 (mv rfl) rfl rfl).take 1 (cs' := [(iv .i64 ((gt y8 v16).fSpan.fFrom))]) rfl)) (ckE h fun h30 h => RunOps.cons_q (rowp sv18 (((W ((v17.length : Int) - 1)) : Int).toNat * 5)) rfl rfl rfl (opIndexO 0 (ix49 H) (mv rfl) rfl (mv rfl) (h30).1 (h30).2) (RunOps.cons_q (rowp sv18 (((W ((v17.length : Int) - 1)) : Int).toNat * 5 + 1)) rfl rfl rfl (opFieldO (fo64_1 H) (mv rfl)) (RunOps.cons_q (rowp sv18 (((W ((v17.length : Int) - 1)) : Int).toNat * 5 + 1 + 1)) rfl rfl rfl (opFieldO (fo62_1 H) (mv rfl)) (RunOps.cons rfl rfl rfl (opStoreO 0 (k := ((W ((v17.length : Int) - 1)) : Int).toNat) (fo := 2) (z' := (Custody.mk (gt v17 (W ((v17.length : Int) - 1))).fRailway (Span.mk (gt v17 (W ((v17.length : Int) - 1))).fSpan.fFrom (gt y8 v16).fSpan.fFrom) (gt v17 (W ((v17.length : Int) - 1))).fRef)) (cs := [(iv .i64 ((gt y8 v16).fSpan.fFrom))]) lCustody (tl3 H) (Ev.tmp rfl) (Ce.one (Ev.tmp rfl) (One.eqv rfl)) rfl rfl (by omega) (gt_some h30) (Nat.le_of_ble_eq_true rfl) rfl (rn ?_)))))))))))
       exact AtX.to (hJ25 (setAt v17 (W ((v17.length : Int) - 1)) (Custody.mk (gt v17 (W ((v17.length : Int) - 1))).fRailway (Span.mk (gt v17 (W ((v17.length : Int) - 1))).fSpan.fFrom (gt y8 v16).fSpan.fFrom) (gt v17 (W ((v17.length : Int) - 1))).fRef)) h) [0, 1, 2] (sl rfl) (ol rfl) rfl
      ·
       refine CodeT.skip ?_
       exact AtX.to (hJ25 v17 h) [0, 1, 2] (sl rfl) (ol rfl) rfl
   ·
    refine CodeT.exit (AtX.then_exit (AtX.then_exit (AtX.in_hit ?_)))
    exact AtX.to (hJ15 (v17, sv18) h) [0] (sl rfl) (ol rfl) rfl
theorem handover_At_ok {P : Program} (H : P = Try.prog) (φ : Nat) (v1 : Pool) (v2 : (List Report)) (v3 : Int) (v4 : Int) (r : (Int × Int)) (h : handover_At φ v1 v2 v3 v4 = some r) : PureT P 18 [(agg (ePool v1)), (ro eReport 21 v2), (iv .i64 v3), (iv .i64 v4)] (fun x news => x = tupv [(iv .i64 r.1), (iv .i64 r.2)] ∧ news = []) := by
 unfold handover_At at h
 refine PureT.of_code' 42 (fn18 H) rfl rfl (Nat.le_of_ble_eq_true rfl) fun w0 base r0 wI => ?_
 refine cl [0, 1, 2, 3] [] rfl rfl rfl (cs (cr [0, 1, 2] rfl (n1 rfl (opBox (Ce.agg (mv rfl)) fun b5 => q1 rfl (opAssign ct) (q1 rfl (opAssign ct) (rn (al [1, 2, 3, 4] [0] rfl rfl rfl (sq (cs (cs (cr [0, 1, 2, 3, 4] rfl ?_)))))))))))
 refine q1 rfl (ln (tl36 H) ((Pt.box 0 (mv rfl) rfl rfl).take 9 (cs' := (ePool v1)) rfl) rfl) (q1 rfl (opMove (mv rfl)) (q1 rfl (opMove (mv rfl)) (bindE h fun y6 ey6 h => q1 rfl (oQ (fnok29 H) (handover_check_ok H φ v1 v3 v4 _ ey6) flat_eqv ⟨ef (mv rfl), ef (mv rfl), ef (mv rfl), trivial⟩) (q1 rfl (opAssign (mv rfl)) (rn (al [1, 2, 3, 4, 10] [0] rfl rfl rfl (sq (cs (cr [0, 1] rfl (q1 rfl (opMove (mv rfl)) ?_))))))))))
 refine q1 rfl (opNeq (mv rfl) ct) (rn (al [1, 2, 3, 4, 10, 18] [0] rfl rfl rfl (sq ?_)))
 refine cI h rfl (fun c7 h => ?_) (fun c7 h => ?_)
 ·
  refine cs (cr [0, 1, 2] rfl (q1 rfl (opMove (mv rfl)) (q1 rfl (opAssign ct) (q1 rfl (opAssign (mv rfl)) (rn (al [8, 9] [] rfl rfl rfl (sq (CodeT.ret (AtX.then_ret (AtX.ret' (tupv [(iv .i64 0), (iv .i64 y6)]) (ResOK.two Try.results18 rfl rfl) [] [] trivial rfl ?_))))))))))
  obtain rfl := Option.some.inj h
  exact ⟨rfl, rfl⟩
 ·
  refine CodeT.skip (al [1, 2, 3, 4] [0] rfl rfl rfl (sq (cs (cr [0, 1, 2, 3, 4] rfl (q1 rfl (ln (tl36 H) ((Pt.box 0 (mv rfl) rfl rfl).take 9 (cs' := (ePool v1)) rfl) rfl) (q1 rfl (opMove (mv rfl)) (q1 rfl (opMove (mv rfl)) (bindE h fun y8 ey8 h => n1 rfl (oF (fnok30 H) (handover_chain_ok H φ v1 v2 v3 _ ey8) ⟨ef (mv rfl), ef (mv rfl), ef (mv rfl), trivial⟩ fun x11 nw12 hk10 => ?_)))))))))
  obtain ⟨sv9, rfl, rfl⟩ := hk10
  refine ⟨flat_eqv, allFlatH ⟨flat_row' fCustody, trivial⟩, ?_⟩
  refine q1 rfl (opAssign (mv rfl)) (rn (al [3, 11] [1] rfl rfl rfl (sq (cs (cr [0, 1, 2, 3] rfl (q1 rfl (opMove (mv rfl)) (q1 rfl (opLenO 0 (il49 H) (mv rfl) rfl) (q1 rfl (opSub (mv rfl) ct) (q1 rfl (opAssign (mv rfl)) (rn (al [3, 11, 12] [0] rfl rfl rfl ?_)))))))))))
  refine sq (cs ?_)
  refine CodeT.join (fun z : Int => (handover_At_j14 φ y8) z) r (fun z => ⟨Slots.of [(11, (eqv sv9)), (12, (iv .i64 z))], [(row 64 eCustody 5 y8 sv9)]⟩) (fun v13 h => ?_) (fun hJ14 => ?_)
  ·
   replace h : (handover_At_j14 φ y8) v13 = some r := h
   unfold handover_At_j14 at h
   refine al [11, 12] [0] rfl rfl rfl (sq (cs (cr [0, 1, 2, 3, 4, 5, 6] rfl (q1 rfl (opMove (mv rfl)) (q1 rfl (opMove (mv rfl)) (ckE h fun h15 h => q1 rfl (opIndexO 0 (ix49 H) (mv rfl) rfl (mv rfl) (h15).1 (h15).2) (q1 rfl (opFieldO (fo64_0 H) (mv rfl)) (q1 rfl (opLoad1 (tl3 H) ((Pt.row _ 0 (k := (v13 : Int).toNat) (fo := 0) lCustody (mv rfl) rfl (by omega) (gt_some h15) rfl).take 1 (cs' := [(iv .i64 ((gt y8 v13).fRailway))]) rfl)) (q1 rfl (opAssign (mv rfl)) (q1 rfl (opAssign ct) ?_))))))))))
   refine rn (al [8, 9] [] rfl rfl rfl (sq (CodeT.ret (AtX.ret' (tupv [(iv .i64 ((gt y8 v13).fRailway)), (iv .i64 0)]) (ResOK.two Try.results18 rfl rfl) [] [] trivial rfl ?_))))
   obtain rfl := Option.some.inj h
   exact ⟨rfl, rfl⟩
  ·
   refine CodeT.block ?_
   refine CodeT.to (CodeT.loop (fun n (z : Int) => handover_At_L17 φ v4 y8 (handover_At_j14 φ y8) n z) r (fun z => ⟨Slots.of [(3, (iv .i64 v4)), (11, (eqv sv9)), (12, (iv .i64 z))], [(row 64 eCustody 5 y8 sv9)]⟩) (fun z => rfl) (fun n17 v16 ih17 h => ?_) φ (W ((y8.length : Int) - 1)) h) [0] (sl rfl) (ol rfl) rfl
   replace h : handover_At_L17 φ v4 y8 (handover_At_j14 φ y8) (n17 + 1) v16 = some r := h
   rw [handover_At_L17] at h
   refine cs (cs (cr [0, 1, 2, 3, 4, 5, 6, 7] rfl (q1 rfl (opMove (mv rfl)) (q1 rfl (opMove (mv rfl)) (ckE h fun h18 h => q1 rfl (opIndexO 0 (ix49 H) (mv rfl) rfl (mv rfl) (h18).1 (h18).2) (q1 rfl (opFieldO (fo64_1 H) (mv rfl)) (q1 rfl (opFieldO (fo62_0 H) (mv rfl)) (q1 rfl (opLoad1 (tl3 H) ((Pt.row _ 0 (k := (v16 : Int).toNat) (fo := 1) lCustody (mv rfl) rfl (by omega) (gt_some h18) rfl).take 1 (cs' := [(iv .i64 ((gt y8 v16).fSpan.fFrom))]) rfl)) (q1 rfl (opMove (mv rfl)) (q1 rfl (opGtr (mv rfl) (mv rfl)) ?_))))))))))
   refine rn (al [3, 11, 12, 34] [0] rfl rfl rfl (sq ?_))
   refine cI h rfl (fun c19 h => ?_) (fun c19 h => ?_)
   ·
    refine CodeT.skip (al [3, 11, 12] [0] rfl rfl rfl (sq (CodeT.block (cr [0, 1, 2] rfl (q1 rfl (opMove (mv rfl)) (q1 rfl (opSub (mv rfl) ct) (q1 rfl (opAssign (mv rfl)) (rn (AtX.in_normal ?_)))))))))
    exact AtX.to (ih17 (W (v16 - 1)) h) [0] (sl rfl) (ol rfl) rfl
   ·
    refine CodeT.exit (AtX.then_exit (AtX.then_exit (AtX.in_hit ?_)))
    exact AtX.to (hJ14 v16 h) [0] (sl rfl) (ol rfl) rfl
theorem ref27_SameHandovers_ok {P : Program} (H : P = Try.prog) (φ : Nat) (v1 : (List Handover)) (v2 : (List Handover)) (r : (Bool)) (h : ref27_SameHandovers φ v1 v2 = some r) : PureT P 16 [(ro eHandover 10 v1), (ro eHandover 10 v2)] (fun x news => x = (bv r) ∧ news = []) := by
 unfold ref27_SameHandovers at h
 refine PureT.of_code' 26 (fn16 H) rfl rfl (Nat.le_of_ble_eq_true rfl) fun w0 base r0 wI => ?_
 refine cl [0, 1] [] rfl rfl rfl (cs (cr [0] rfl (q1 rfl (opAssign ct) (rn (al [0, 1] [] rfl rfl rfl (sq (cs (cs (cr [0, 1, 2, 3, 4] rfl (q1 rfl (opMove (mv rfl)) (q1 rfl (opLenR (il53 H) (mv rfl)) ?_)))))))))))
 refine q1 rfl (opMove (mv rfl)) (q1 rfl (opLenR (il53 H) (mv rfl)) (q1 rfl (opNeq (mv rfl) (mv rfl)) (rn (al [0, 1, 10] [] rfl rfl rfl (sq ?_)))))
 refine cI h rfl (fun c3 h => ?_) (fun c3 h => ?_)
 ·
  refine cs (cr [0] rfl (q1 rfl (opAssign ct) (rn (al [4] [] rfl rfl rfl (sq (CodeT.ret (AtX.then_ret (AtX.ret' (bv false) (ResOK.one Try.results16 rfl) [] [] trivial rfl ?_))))))))
  obtain rfl := Option.some.inj h
  exact ⟨rfl, rfl⟩
 ·
  refine CodeT.skip (al [0, 1] [] rfl rfl rfl (sq (cs (cs (cr [0] rfl (q1 rfl (opAssign ct) (rn (al [0, 1, 5] [] rfl rfl rfl (sq ?_)))))))))
  refine CodeT.join (fun z : Unit => (ref27_SameHandovers_j4 φ)) r (fun z => ⟨Slots.of [], []⟩) (fun z h => ?_) (fun hJ4 => ?_)
  ·
   replace h : (ref27_SameHandovers_j4 φ) = some r := h
   unfold ref27_SameHandovers_j4 at h
   refine al [] [] rfl rfl rfl (sq (cs (cr [0] rfl (q1 rfl (opAssign ct) (rn (al [4] [] rfl rfl rfl (sq (CodeT.ret (AtX.ret' (bv true) (ResOK.one Try.results16 rfl) [] [] trivial rfl ?_)))))))))
   obtain rfl := Option.some.inj h
   exact ⟨rfl, rfl⟩
  ·
   refine CodeT.block ?_
   refine CodeT.to (CodeT.loop (fun n (z : Int) => ref27_SameHandovers_L6 φ v1 v2 (ref27_SameHandovers_j4 φ) n z) r (fun z => ⟨Slots.of [(0, (ro eHandover 10 v1)), (1, (ro eHandover 10 v2)), (5, (iv .i64 z))], []⟩) (fun z => rfl) (fun n6 v5 ih6 h => ?_) φ 0 h) [] (sl rfl) trivial rfl
   replace h : ref27_SameHandovers_L6 φ v1 v2 (ref27_SameHandovers_j4 φ) (n6 + 1) v5 = some r := h
   rw [ref27_SameHandovers_L6] at h
   refine cs (cs (cr [0, 1, 2, 3] rfl (q1 rfl (opMove (mv rfl)) (q1 rfl (opMove (mv rfl)) (q1 rfl (opLenR (il53 H) (mv rfl)) (q1 rfl (opLss (mv rfl) (mv rfl)) (rn (al [0, 1, 5, 14] [] rfl rfl rfl (sq ?_)))))))))
   refine cI h rfl (fun c7 h => ?_) (fun c7 h => ?_)
   ·
    refine CodeT.skip (al [0, 1, 5] [] rfl rfl rfl (sq (cs (CodeT.block (cs (ckE h fun h8 h => ckE h fun h9 h => CodeT.draw (QR := [(0, _), (1, _), (2, _), (3, _), (4, _), (5, _), (6, _), (7, _), (8, _)]) (tab := [(some 17, []), (some 18, []), (some 19, [0, 1]), (some 20, [2]), (some 21, []), (some 22, []), (some 23, [4, 5]), (some 24, [6]), (some 25, [3, 7])]) (mixed H) (Reg.intro [] [] (by kernel_rfl) rfl (an rfl) ⟨(qr rfl (opMove (mv rfl))), (qr rfl (opMove (mv rfl))), (qr rfl (opIndexR (ix53 H) (mv rfl) (mv rfl) (h8).1 (gt_some h8))), (qr rfl (ln (tl70 H) (Pt.rop (mv rfl)) rfl)), (qr rfl (opMove (mv rfl))), (qr rfl (opMove (mv rfl))), (qr rfl (opIndexR (ix53 H) (mv rfl) (mv rfl) (h9).1 (gt_some h9))), (qr rfl (ln (tl70 H) (Pt.rop (mv rfl)) rfl)), (qr rfl (opNeS [(.int .i64 ((gt v1 v5).fWagon)), (.int .i64 ((gt v1 v5).fPlace)), (.int .i64 ((gt v1 v5).fFrom)), (.int .i64 ((gt v1 v5).fTo)), (.int .i64 ((gt v1 v5).fAt)), (.int .i64 ((gt v1 v5).fCode)), (.int .i64 ((gt v1 v5).fDeliver.fRailway)), (.int .i64 ((gt v1 v5).fDeliver.fNo)), (.int .i64 ((gt v1 v5).fReceive.fRailway)), (.int .i64 ((gt v1 v5).fReceive.fNo))] [(.int .i64 ((gt v2 v5).fWagon)), (.int .i64 ((gt v2 v5).fPlace)), (.int .i64 ((gt v2 v5).fFrom)), (.int .i64 ((gt v2 v5).fTo)), (.int .i64 ((gt v2 v5).fAt)), (.int .i64 ((gt v2 v5).fCode)), (.int .i64 ((gt v2 v5).fDeliver.fRailway)), (.int .i64 ((gt v2 v5).fDeliver.fNo)), (.int .i64 ((gt v2 v5).fReceive.fRailway)), (.int .i64 ((gt v2 v5).fReceive.fNo))] (mv rfl) (mv rfl) rfl rfl (eg70 H) (fun w => eqHandoverR H w (gt v1 v5) (gt v2 v5)))), trivial⟩ trivial (fun _ => al [0, 1, 5, 25] [] rfl rfl rfl (sq ?_)))))))))
    refine cI h rfl (fun c10 h => ?_) (fun c10 h => ?_)
    ·
     refine cs (cr [0] rfl (q1 rfl (opAssign ct) (rn (al [4] [] rfl rfl rfl (sq (CodeT.ret (AtX.in_ret (AtX.then_ret (AtX.then_ret (AtX.in_ret (AtX.then_ret ?_)))))))))))
     refine AtX.ret' (bv false) (ResOK.one Try.results16 rfl) [] [] trivial rfl ?_
     obtain rfl := Option.some.inj h
     exact ⟨rfl, rfl⟩
    ·
     refine CodeT.skip (AtX.in_normal (al [0, 1, 5] [] rfl rfl rfl (sq (cr [0, 1, 2] rfl (q1 rfl (opMove (mv rfl)) (q1 rfl (opAdd (mv rfl) ct) (q1 rfl (opAssign (mv rfl)) (rn ?_))))))))
     exact AtX.to (ih6 (W (v5 + 1)) h) [] (sl rfl) trivial rfl
   ·
    refine CodeT.exit (AtX.then_exit (AtX.then_exit (AtX.in_hit ?_)))
    exact AtX.to (hJ4 () h) [] trivial trivial rfl
theorem ref27_Same_ok {P : Program} (H : P = Try.prog) (φ : Nat) (v1 : (List Custody)) (v2 : (List Custody)) (r : (Bool)) (h : ref27_Same φ v1 v2 = some r) : PureT P 15 [(ro eCustody 5 v1), (ro eCustody 5 v2)] (fun x news => x = (bv r) ∧ news = []) := by
 unfold ref27_Same at h
 refine PureT.of_code' 26 (fn15 H) rfl rfl (Nat.le_of_ble_eq_true rfl) fun w0 base r0 wI => ?_
 refine cl [0, 1] [] rfl rfl rfl (cs (cr [0] rfl (q1 rfl (opAssign ct) (rn (al [0, 1] [] rfl rfl rfl (sq (cs (cs (cr [0, 1, 2, 3, 4] rfl (q1 rfl (opMove (mv rfl)) (q1 rfl (opLenR (il49 H) (mv rfl)) ?_)))))))))))
 refine q1 rfl (opMove (mv rfl)) (q1 rfl (opLenR (il49 H) (mv rfl)) (q1 rfl (opNeq (mv rfl) (mv rfl)) (rn (al [0, 1, 10] [] rfl rfl rfl (sq ?_)))))
 refine cI h rfl (fun c3 h => ?_) (fun c3 h => ?_)
 ·
  refine cs (cr [0] rfl (q1 rfl (opAssign ct) (rn (al [4] [] rfl rfl rfl (sq (CodeT.ret (AtX.then_ret (AtX.ret' (bv false) (ResOK.one Try.results15 rfl) [] [] trivial rfl ?_))))))))
  obtain rfl := Option.some.inj h
  exact ⟨rfl, rfl⟩
 ·
  refine CodeT.skip (al [0, 1] [] rfl rfl rfl (sq (cs (cs (cr [0] rfl (q1 rfl (opAssign ct) (rn (al [0, 1, 5] [] rfl rfl rfl (sq ?_)))))))))
  refine CodeT.join (fun z : Unit => (ref27_Same_j4 φ)) r (fun z => ⟨Slots.of [], []⟩) (fun z h => ?_) (fun hJ4 => ?_)
  ·
   replace h : (ref27_Same_j4 φ) = some r := h
   unfold ref27_Same_j4 at h
   refine al [] [] rfl rfl rfl (sq (cs (cr [0] rfl (q1 rfl (opAssign ct) (rn (al [4] [] rfl rfl rfl (sq (CodeT.ret (AtX.ret' (bv true) (ResOK.one Try.results15 rfl) [] [] trivial rfl ?_)))))))))
   obtain rfl := Option.some.inj h
   exact ⟨rfl, rfl⟩
  ·
   refine CodeT.block ?_
   refine CodeT.to (CodeT.loop (fun n (z : Int) => ref27_Same_L6 φ v1 v2 (ref27_Same_j4 φ) n z) r (fun z => ⟨Slots.of [(0, (ro eCustody 5 v1)), (1, (ro eCustody 5 v2)), (5, (iv .i64 z))], []⟩) (fun z => rfl) (fun n6 v5 ih6 h => ?_) φ 0 h) [] (sl rfl) trivial rfl
   replace h : ref27_Same_L6 φ v1 v2 (ref27_Same_j4 φ) (n6 + 1) v5 = some r := h
   rw [ref27_Same_L6] at h
   refine cs (cs (cr [0, 1, 2, 3] rfl (q1 rfl (opMove (mv rfl)) (q1 rfl (opMove (mv rfl)) (q1 rfl (opLenR (il49 H) (mv rfl)) (q1 rfl (opLss (mv rfl) (mv rfl)) (rn (al [0, 1, 5, 14] [] rfl rfl rfl (sq ?_)))))))))
   refine cI h rfl (fun c7 h => ?_) (fun c7 h => ?_)
   ·
    refine CodeT.skip (al [0, 1, 5] [] rfl rfl rfl (sq (cs (CodeT.block (cs (ckE h fun h8 h => ckE h fun h9 h => CodeT.draw (QR := [(0, _), (1, _), (2, _), (3, _), (4, _), (5, _), (6, _), (7, _), (8, _)]) (tab := [(some 17, []), (some 18, []), (some 19, [0, 1]), (some 20, [2]), (some 21, []), (some 22, []), (some 23, [4, 5]), (some 24, [6]), (some 25, [3, 7])]) (mixed H) (Reg.intro [] [] (by kernel_rfl) rfl (an rfl) ⟨(qr rfl (opMove (mv rfl))), (qr rfl (opMove (mv rfl))), (qr rfl (opIndexR (ix49 H) (mv rfl) (mv rfl) (h8).1 (gt_some h8))), (qr rfl (ln (tl64 H) (Pt.rop (mv rfl)) rfl)), (qr rfl (opMove (mv rfl))), (qr rfl (opMove (mv rfl))), (qr rfl (opIndexR (ix49 H) (mv rfl) (mv rfl) (h9).1 (gt_some h9))), (qr rfl (ln (tl64 H) (Pt.rop (mv rfl)) rfl)), (qr rfl (opNeS [(.int .i64 ((gt v1 v5).fRailway)), (.int .i64 ((gt v1 v5).fSpan.fFrom)), (.int .i64 ((gt v1 v5).fSpan.fTo)), (.int .i64 ((gt v1 v5).fRef.fRailway)), (.int .i64 ((gt v1 v5).fRef.fNo))] [(.int .i64 ((gt v2 v5).fRailway)), (.int .i64 ((gt v2 v5).fSpan.fFrom)), (.int .i64 ((gt v2 v5).fSpan.fTo)), (.int .i64 ((gt v2 v5).fRef.fRailway)), (.int .i64 ((gt v2 v5).fRef.fNo))] (mv rfl) (mv rfl) rfl rfl (eg64 H) (fun w => eqCustodyR H w (gt v1 v5) (gt v2 v5)))), trivial⟩ trivial (fun _ => al [0, 1, 5, 25] [] rfl rfl rfl (sq ?_)))))))))
    refine cI h rfl (fun c10 h => ?_) (fun c10 h => ?_)
    ·
     refine cs (cr [0] rfl (q1 rfl (opAssign ct) (rn (al [4] [] rfl rfl rfl (sq (CodeT.ret (AtX.in_ret (AtX.then_ret (AtX.then_ret (AtX.in_ret (AtX.then_ret ?_)))))))))))
     refine AtX.ret' (bv false) (ResOK.one Try.results15 rfl) [] [] trivial rfl ?_
     obtain rfl := Option.some.inj h
     exact ⟨rfl, rfl⟩
    ·
     refine CodeT.skip (AtX.in_normal (al [0, 1, 5] [] rfl rfl rfl (sq (cr [0, 1, 2] rfl (q1 rfl (opMove (mv rfl)) (q1 rfl (opAdd (mv rfl) ct) (q1 rfl (opAssign (mv rfl)) (rn ?_))))))))
     exact AtX.to (ih6 (W (v5 + 1)) h) [] (sl rfl) trivial rfl
   ·
    refine CodeT.exit (AtX.then_exit (AtX.then_exit (AtX.in_hit ?_)))
    exact AtX.to (hJ4 () h) [] trivial trivial rfl
theorem slices_Grow_ok {P : Program} (H : P = Try.prog) (φ : Nat) (v1 : Int) (r : (List Int)) (h : slices_Grow φ v1 = some r) : PureT P 62 [(eqv (.slice none 0 0)), (iv .i64 v1)] (K_slices_Grow r) := by
 unfold slices_Grow at h
 refine PureT.of_code' 27 (fn62 H) rfl rfl (Nat.le_of_ble_eq_true rfl) fun w0 base r0 wI => ?_
 refine cl [0, 1] [] rfl rfl rfl (CodeT.addNil 3 eI64 1 (cs (CodeT.addNil 3 eI64 1 (cr [0] rfl (q1 rfl (opAssign ct) (rn (al [0, 1] [0] rfl rfl rfl (sq (cs (cs (cr [0, 1] rfl ?_)))))))))))
 refine q1 rfl (opMove (mv rfl)) (q1 rfl (opLss (mv rfl) ct) (rn (al [0, 1, 6] [0] rfl rfl rfl (sq ?_))))
 refine cI h rfl (fun c2 h => ?_) (fun c2 h => ?_)
 ·
  cases h
 ·
  refine CodeT.skip (al [0, 1] [0] rfl rfl rfl (sq (cs (cs (cr [0, 1, 2, 3, 4, 5, 6, 7] rfl (q1 rfl (opMove (mv rfl)) (q1 rfl (opMove (mv rfl)) (q1 rfl (opCapNil (il96 H) (mv rfl)) (q1 rfl (opMove (mv rfl)) (q1 rfl (opLenO 0 (il96 H) (mv rfl) rfl) (q1 rfl (opSub (mv rfl) (mv rfl)) ?_)))))))))))
  refine q1 rfl (opSub (mv rfl) (mv rfl)) (q1 rfl (opAssign (mv rfl)) (rn (al [0, 1] [0] rfl rfl rfl (sq (cs (cr [0, 1] rfl (q1 rfl (opMove (mv rfl)) (q1 rfl (opGtr (mv rfl) ct) (rn (al [0, 1, 16] [0] rfl rfl rfl (sq ?_)))))))))))
  refine CodeT.join (fun z : (List Int) × Value => (slices_Grow_j5 φ) z.1) r (fun z => ⟨Slots.of [(0, (eqv z.2))], [(row 3 eI64 1 z.1 z.2)]⟩) (fun z h => ?_) (fun hJ5 => ?_)
  ·
   obtain ⟨v3, sv4⟩ := z
   replace h : (slices_Grow_j5 φ) v3 = some r := h
   unfold slices_Grow_j5 at h
   refine al [0] [0] rfl rfl rfl (sq (cs (cr [0, 1] rfl (q1 rfl (opMove (mv rfl)) (q1 rfl (opAssign (mv rfl)) (rn (al [4] [0] rfl rfl rfl (sq (CodeT.ret (AtX.ret' (eqv sv4) (ResOK.one Try.results62 rfl) [0] [(row 3 eI64 1 v3 sv4)] (ol rfl) rfl ?_))))))))))
   obtain rfl := Option.some.inj h
   exact ⟨sv4, rfl, rfl⟩
  ·
   refine cI h rfl (fun c6 h => ?_) (fun c6 h => ?_)
   ·
    refine cr [0, 1, 2, 3, 4, 5, 6, 7, 8, 9] rfl (q1 rfl (opMove (mv rfl)) (q1 rfl (opMove (mv rfl)) (q1 rfl (opCapNil (il96 H) (mv rfl)) (q1 rfl (opSliceNil (sl96 H) (mv rfl) (mv rfl)) (q1 rfl (opMove (mv rfl)) (ckE h fun h7 h => ckE h fun h8 h => n1 rfl (opGrowNil 0 0 [.int .i64 0] (sl96 H) (ui3 H) lI64 (ze3 H) rfl rfl (mv rfl) rfl (mv rfl) h7 h8 (fits_max (by decide) h8) fun sv9 => q1 rfl (opMove (mv rfl)) (q1 rfl (opLenNil (il96 H) (mv rfl)) (ckE h fun h10 h => ?_)))))))))
    refine n1 rfl (opSlice 0 (sl96 H) lI64 (mv rfl) rfl (mv rfl) (h10).1 (h10).2 fun sv11 => q1 rfl (opAssign (mv rfl)) (rn ?_))
    exact AtX.to (hJ5 (((List.replicate ((W (v1 - (W (0 - (([] : List Int).length : Int))))) : Int).toNat (0 : Int)).take (0 : Int).toNat), sv11) h) [0] (sl rfl) (ol rfl) rfl
   ·
    refine CodeT.skip ?_
    exact AtX.to (hJ5 (([] : List Int), (Value.slice none 0 0)) h) [0] (sl rfl) (ol rfl) rfl
theorem slices_Concat_ok {P : Program} (H : P = Try.prog) (φ : Nat) (v1 : (List (List Int))) (r : ((List Int))) (h : slices_Concat φ v1 = some r) : PureT P 38 [(ro eL_eI64 1 v1)] (K_slices_Concat r) := by
 unfold slices_Concat at h
 refine PureT.of_code' 36 (fn38 H) rfl rfl (Nat.le_of_ble_eq_true rfl) fun w0 base r0 wI => ?_
 refine cl [0] [] rfl rfl rfl (cs (CodeT.addNil 3 eI64 1 (cr [0] rfl (q1 rfl (opAssign ct) (rn (al [0] [] rfl rfl rfl (sq (cs (cr [0] rfl (q1 rfl (opAssign ct) (rn ?_)))))))))))
 refine al [0, 3] [] rfl rfl rfl (sq (cs (cs (cr [0, 1, 2] rfl (q1 rfl (opMove (mv rfl)) (q1 rfl (opLenR (il125 H) (mv rfl)) (q1 rfl (opMove ct) (rn (al [0, 3, 9, 10, 11] [] rfl rfl rfl (sq ?_))))))))))
 refine CodeT.join (fun z : Int => (slices_Concat_j3 φ v1) z) r (fun z => ⟨Slots.of [(0, (ro eL_eI64 1 v1)), (3, (iv .i64 z))], []⟩) (fun v2 h => ?_) (fun hJ3 => ?_)
 ·
  replace h : (slices_Concat_j3 φ v1) v2 = some r := h
  unfold slices_Concat_j3 at h
  refine al [0, 3] [] rfl rfl rfl (sq (cs (cr [0, 1, 2] rfl (q1 rfl (opMove (mv rfl)) (bindE h fun y4 ey4 h => n1 rfl (oF (fnok62 H) (slices_Grow_ok H φ v2 _ ey4) ⟨ef ct, ef (mv rfl), trivial⟩ fun x7 nw8 hk6 => ?_))))))
  obtain ⟨sv5, rfl, rfl⟩ := hk6
  refine ⟨flat_eqv, allFlatH ⟨flat_row' flat1eI64, trivial⟩, ?_⟩
  refine q1 rfl (opAssign (mv rfl)) (rn (al [0, 6] [0] rfl rfl rfl (sq (cs (cs (cr [0, 1, 2] rfl (q1 rfl (opMove (mv rfl)) (q1 rfl (opLenR (il125 H) (mv rfl)) (q1 rfl (opMove ct) (rn (al [6, 25, 26, 27] [0] rfl rfl rfl ?_)))))))))))
  refine sq ?_
  refine CodeT.join (fun z : (List Int) × Value => (slices_Concat_j11 φ) z.1) r (fun z => ⟨Slots.of [(6, (eqv z.2))], [(row 3 eI64 1 z.1 z.2)]⟩) (fun z h => ?_) (fun hJ11 => ?_)
  ·
   obtain ⟨v9, sv10⟩ := z
   replace h : (slices_Concat_j11 φ) v9 = some r := h
   unfold slices_Concat_j11 at h
   refine al [6] [0] rfl rfl rfl (sq (cs (cr [0, 1] rfl (q1 rfl (opMove (mv rfl)) (q1 rfl (opAssign (mv rfl)) (rn (al [2] [0] rfl rfl rfl (sq (CodeT.ret (AtX.ret' (eqv sv10) (ResOK.one Try.results38 rfl) [0] [(row 3 eI64 1 v9 sv10)] (ol rfl) rfl ?_))))))))))
   obtain rfl := Option.some.inj h
   exact ⟨sv10, rfl, rfl⟩
  ·
   refine CodeT.block ?_
   refine CodeT.to (CodeT.loop (fun n (z : Int × (List Int) × Value) => slices_Concat_L15 φ v1 (slices_Concat_j11 φ) n z.1 z.2.1) r (fun z => ⟨Slots.of [(6, (eqv z.2.2)), (25, (ro eL_eI64 1 v1)), (26, (iv .i64 (v1.length : Int))), (27, (iv .i64 z.1))], [(row 3 eI64 1 z.2.1 z.2.2)]⟩) (fun z => rfl) (fun n15 z ih15 h => ?_) φ (0, y4, sv5) h) [0] (sl rfl) (ol rfl) rfl
   obtain ⟨v12, v13, sv14⟩ := z
   replace h : slices_Concat_L15 φ v1 (slices_Concat_j11 φ) (n15 + 1) v12 v13 = some r := h
   rw [slices_Concat_L15] at h
   refine cs (cr [0] rfl (q1 rfl (opLss (mv rfl) (mv rfl)) (rn (al [6, 25, 26, 27, 28] [0] rfl rfl rfl (sq (cs ?_))))))
   refine cI h rfl (fun c16 h => ?_) (fun c16 h => ?_)
   ·
    refine CodeT.skip (al [6, 25, 26, 27] [0] rfl rfl rfl (sq (cs (CodeT.block (cs (cr [0, 1, 2] rfl (ckE h fun h17 h => q1 rfl (opIndexR (ix125 H) (mv rfl) (mv rfl) (h17).1 (gt_some h17)) (q1 rfl (lr (tl96 H) (mv rfl)) (q1 rfl (opAssign (mv rfl)) (rn ?_))))))))))
    refine al [6, 8, 25, 26, 27] [0] rfl rfl rfl (sq (cr [0, 1, 2, 3] rfl (q1 rfl (opMove (mv rfl)) (q1 rfl (opMove (mv rfl)) (ckE h fun h18 h => n1 rfl (opAppend 0 (l := v13) (m := (gt v1 v12)) (sl96 H) lI64 (mv rfl) rfl (Src.ro lI64 (by decide) (mv rfl)) h18 (fits_max (by decide) h18) fun sv19 => q1 rfl (opAssign (mv rfl)) (rn (AtX.in_normal (al [6, 25, 26, 27] [0] rfl rfl rfl (sq ?_))))))))))
    refine cr [0, 1] rfl (q1 rfl (opAdd (mv rfl) ct) (q1 rfl (opMove (mv rfl)) (rn ?_)))
    exact AtX.to (ih15 ((W (v12 + 1)), (v13 ++ (gt v1 v12)), sv19) h) [0] (sl rfl) (ol rfl) rfl
   ·
    refine CodeT.exit (AtX.then_exit (AtX.then_exit (AtX.in_hit ?_)))
    exact AtX.to (hJ11 (v13, sv14) h) [0] (sl rfl) (ol rfl) rfl
 ·
  refine CodeT.block ?_
  refine CodeT.to (CodeT.loop (fun n (z : Int × Int) => slices_Concat_L22 φ v1 (slices_Concat_j3 φ v1) n z.1 z.2) r (fun z => ⟨Slots.of [(0, (ro eL_eI64 1 v1)), (3, (iv .i64 z.1)), (9, (ro eL_eI64 1 v1)), (10, (iv .i64 (v1.length : Int))), (11, (iv .i64 z.2))], []⟩) (fun z => rfl) (fun n22 z ih22 h => ?_) φ (0, 0) h) [] (sl rfl) trivial rfl
  obtain ⟨v20, v21⟩ := z
  replace h : slices_Concat_L22 φ v1 (slices_Concat_j3 φ v1) (n22 + 1) v20 v21 = some r := h
  rw [slices_Concat_L22] at h
  refine cs (cr [0] rfl (q1 rfl (opLss (mv rfl) (mv rfl)) (rn (al [0, 3, 9, 10, 11, 12] [] rfl rfl rfl (sq (cs ?_))))))
  refine cI h rfl (fun c23 h => ?_) (fun c23 h => ?_)
  ·
   refine CodeT.skip (al [0, 3, 9, 10, 11] [] rfl rfl rfl (sq (cs (CodeT.block (cs (cr [0, 1, 2] rfl (ckE h fun h24 h => q1 rfl (opIndexR (ix125 H) (mv rfl) (mv rfl) (h24).1 (gt_some h24)) (q1 rfl (lr (tl96 H) (mv rfl)) (q1 rfl (opAssign (mv rfl)) (rn ?_))))))))))
   refine al [0, 3, 5, 9, 10, 11] [] rfl rfl rfl (sq (cs (cr [0, 1, 2, 3, 4] rfl (q1 rfl (opMove (mv rfl)) (q1 rfl (opMove (mv rfl)) (q1 rfl (opLenR (il96 H) (mv rfl)) (q1 rfl (opAdd (mv rfl) (mv rfl)) (q1 rfl (opAssign (mv rfl)) (rn (al [0, 3, 9, 10, 11] [] rfl rfl rfl (sq ?_)))))))))))
   refine cs (cr [0, 1] rfl (q1 rfl (opMove (mv rfl)) (q1 rfl (opLss (mv rfl) ct) (rn (al [0, 3, 9, 10, 11, 20] [] rfl rfl rfl (sq ?_))))))
   refine cI h rfl (fun c25 h => ?_) (fun c25 h => ?_)
   ·
    cases h
   ·
    refine CodeT.skip (AtX.in_normal (al [0, 3, 9, 10, 11] [] rfl rfl rfl (sq (cr [0, 1] rfl (q1 rfl (opAdd (mv rfl) ct) (q1 rfl (opMove (mv rfl)) (rn ?_)))))))
    exact AtX.to (ih22 ((W (v20 + ((gt v1 v21).length : Int))), (W (v21 + 1))) h) [] (sl rfl) trivial rfl
  ·
   refine CodeT.exit (AtX.then_exit (AtX.then_exit (AtX.in_hit ?_)))
   exact AtX.to (hJ3 v20 h) [] (sl rfl) trivial rfl
theorem slices_insertionSortCmpFunc_eRef_ok {P : Program} (H : P = Try.prog) (φ : Nat) (v1 : (List Ref)) (v3 : Int) (v4 : Int) (y5 : (Ref → Ref → Option Int)) (sv2 : Value) (r : (List Ref)) (h : slices_insertionSortCmpFunc_eRef φ v1 v3 v4 y5 = some r) : MutT P 80 [(eqv sv2), (iv .i64 v3), (iv .i64 v4), (fcmp P (fun x => (agg (eRef x))) y5)] 43 eRef 2 v1 sv2 (fun x l' => x = eqv (.tuple #[]) ∧ r = l') := by
 unfold slices_insertionSortCmpFunc_eRef at h
 refine MutT.of_code 53 (fn80 H) rfl rfl (Nat.le_of_ble_eq_true rfl) fun w0 base r0 wI => ?_
 refine cl [0, 1, 2, 3] [0] rfl rfl rfl (cs (cr [0, 1, 2] rfl (q1 rfl (opMove (mv rfl)) (q1 rfl (opAdd (mv rfl) ct) (q1 rfl (opAssign (mv rfl)) (rn (al [0, 1, 2, 3, 8] [0] rfl rfl rfl (sq (CodeT.block ?_)))))))))
 refine CodeT.to (CodeT.loop (fun n (z : Int × (List Ref)) => slices_insertionSortCmpFunc_eRef_L8 φ v3 v4 y5 n z.1 z.2) r (fun z => ⟨Slots.of [(0, (eqv sv2)), (1, (iv .i64 v3)), (2, (iv .i64 v4)), (3, (fcmp P (fun x => (agg (eRef x))) y5)), (8, (iv .i64 z.1))], [(row 43 eRef 2 z.2 sv2)]⟩) (fun z => rfl) (fun n8 z ih8 h => ?_) φ ((W (v3 + 1)), v1) h) [0] (sl rfl) (ol rfl) rfl
 obtain ⟨v6, v7⟩ := z
 replace h : slices_insertionSortCmpFunc_eRef_L8 φ v3 v4 y5 (n8 + 1) v6 v7 = some r := h
 rw [slices_insertionSortCmpFunc_eRef_L8] at h
 refine cs (cs (cr [0, 1, 2] rfl (q1 rfl (opMove (mv rfl)) (q1 rfl (opMove (mv rfl)) (q1 rfl (opLss (mv rfl) (mv rfl)) (rn (al [0, 1, 2, 3, 8, 14] [0] rfl rfl rfl (sq ?_))))))))
 refine cI h rfl (fun c9 h => ?_) (fun c9 h => ?_)
 ·
  refine CodeT.skip (al [0, 1, 2, 3, 8] [0] rfl rfl rfl (sq (cs ?_)))
  refine CodeT.join (fun z : (List Ref) => (slices_insertionSortCmpFunc_eRef_j11 φ v6 (slices_insertionSortCmpFunc_eRef_L8 φ v3 v4 y5 n8)) z) r (fun z => ⟨Slots.of [(0, (eqv sv2)), (1, (iv .i64 v3)), (2, (iv .i64 v4)), (3, (fcmp P (fun x => (agg (eRef x))) y5)), (8, (iv .i64 v6))], [(row 43 eRef 2 z sv2)]⟩) (fun v10 h => ?_) (fun hJ11 => ?_)
  ·
   replace h : (slices_insertionSortCmpFunc_eRef_j11 φ v6 (slices_insertionSortCmpFunc_eRef_L8 φ v3 v4 y5 n8)) v10 = some r := h
   unfold slices_insertionSortCmpFunc_eRef_j11 at h
   refine al [0, 1, 2, 3, 8] [0] rfl rfl rfl (sq (cr [0, 1, 2] rfl (q1 rfl (opMove (mv rfl)) (q1 rfl (opAdd (mv rfl) ct) (q1 rfl (opAssign (mv rfl)) (rn ?_))))))
   exact AtX.to (ih8 ((W (v6 + 1)), v10) h) [0] (sl rfl) (ol rfl) rfl
  ·
   refine CodeT.block (cs (cr [0, 1] rfl (q1 rfl (opMove (mv rfl)) (q1 rfl (opAssign (mv rfl)) (rn (al [0, 1, 2, 3, 8, 9] [0] rfl rfl rfl (sq (CodeT.block ?_))))))))
   refine CodeT.to (CodeT.loop (fun n (z : Int × (List Ref)) => slices_insertionSortCmpFunc_eRef_L14 φ v3 y5 (slices_insertionSortCmpFunc_eRef_j11 φ v6 (slices_insertionSortCmpFunc_eRef_L8 φ v3 v4 y5 n8)) n z.1 z.2) r (fun z => ⟨Slots.of [(0, (eqv sv2)), (1, (iv .i64 v3)), (2, (iv .i64 v4)), (3, (fcmp P (fun x => (agg (eRef x))) y5)), (8, (iv .i64 v6)), (9, (iv .i64 z.1))], [(row 43 eRef 2 z.2 sv2)]⟩) (fun z => rfl) (fun n14 z ih14 h => ?_) φ (v6, v7) h) [0] (sl rfl) (ol rfl) rfl
   obtain ⟨v12, v13⟩ := z
   replace h : slices_insertionSortCmpFunc_eRef_L14 φ v3 y5 (slices_insertionSortCmpFunc_eRef_j11 φ v6 (slices_insertionSortCmpFunc_eRef_L8 φ v3 v4 y5 n8)) (n14 + 1) v12 v13 = some r := h
   rw [slices_insertionSortCmpFunc_eRef_L14] at h
   refine cs (cs (ckE h fun h19 h => ckE h fun h25 h => bindE h fun y28 ey28 h => CodeT.draw (QR := [(0, _), (1, _), (2, _), (3, _), (4, _), (5, _), (6, _), (7, _), (8, _), (9, _), (10, _), (11, _), (12, _), (13, _), (14, _), (15, _), (16, _)]) (tab := [(some 18, []), (some 19, []), (some 20, [0, 1]), (some 21, [2]), (some 22, [3]), (some 23, [3]), (some 24, [3]), (some 25, [5, 6, 3]), (some 26, [7, 3]), (some 27, [3]), (some 28, [3]), (some 29, [10, 3]), (some 30, [9, 11, 3]), (some 31, [12, 3]), (some 32, [4, 8, 13, 3, 3]), (some 33, [14, 3]), (some 34, [3, 15])]) (mixed H) (Reg.intro [] [] (by kernel_rfl) rfl (an rfl) ⟨(qr rfl (opMove (mv rfl))), (qr rfl (opMove (mv rfl))), (qr rfl (opGtr (mv rfl) (mv rfl))), (qr rfl (opMove (mv rfl))), (qr rfl ⟨(decide (v3 < v12) = true), (fcmp P (fun x => (agg (eRef x))) y5), 21, rfl, rfl, fun g15 => (opMove (mv rfl)), .inl ⟨(decide (v3 < v12)), rfl, rfl⟩⟩), (qr rfl ⟨(decide (v3 < v12) = true), (eqv sv2), 21, rfl, rfl, fun g16 => (opMove (mv rfl)), .inl ⟨(decide (v3 < v12)), rfl, rfl⟩⟩), (qr rfl ⟨(decide (v3 < v12) = true), (iv .i64 v12), 21, rfl, rfl, fun g17 => (opMove (mv rfl)), .inl ⟨(decide (v3 < v12)), rfl, rfl⟩⟩), (qr rfl ⟨(decide (v3 < v12) = true), (rowp sv2 ((v12 : Int).toNat * 2)), 21, rfl, rfl, fun g18 => (opIndexO 0 (ix55 H) (mc rfl g18) rfl (mc rfl g18) ((h19 g18)).1 ((h19 g18)).2), .inl ⟨(decide (v3 < v12)), rfl, rfl⟩⟩), (qr rfl ⟨(decide (v3 < v12) = true), (agg (eRef (gt v13 v12))), 21, rfl, rfl, fun g20 => (ln (tl43 H) ((Pt.row _ 0 (k := (v12 : Int).toNat) (fo := 0) lRef (mc rfl g20) rfl (by omega) (gt_some (h19 g20)) rfl).take 2 (cs' := (eRef (gt v13 v12))) rfl) rfl), .inl ⟨(decide (v3 < v12)), rfl, rfl⟩⟩), (qr rfl ⟨(decide (v3 < v12) = true), (eqv sv2), 21, rfl, rfl, fun g21 => (opMove (mv rfl)), .inl ⟨(decide (v3 < v12)), rfl, rfl⟩⟩), (qr rfl ⟨(decide (v3 < v12) = true), (iv .i64 v12), 21, rfl, rfl, fun g22 => (opMove (mv rfl)), .inl ⟨(decide (v3 < v12)), rfl, rfl⟩⟩), (qr rfl ⟨(decide (v3 < v12) = true), (iv .i64 (W (v12 - 1))), 21, rfl, rfl, fun g23 => (opSub (mc rfl g23) ct), .inl ⟨(decide (v3 < v12)), rfl, rfl⟩⟩), (qr rfl ⟨(decide (v3 < v12) = true), (rowp sv2 (((W (v12 - 1)) : Int).toNat * 2)), 21, rfl, rfl, fun g24 => (opIndexO 0 (ix55 H) (mc rfl g24) rfl (mc rfl g24) ((h25 g24)).1 ((h25 g24)).2), .inl ⟨(decide (v3 < v12)), rfl, rfl⟩⟩), (qr rfl ⟨(decide (v3 < v12) = true), (agg (eRef (gt v13 (W (v12 - 1))))), 21, rfl, rfl, fun g26 => (ln (tl43 H) ((Pt.row _ 0 (k := ((W (v12 - 1)) : Int).toNat) (fo := 0) lRef (mc rfl g26) rfl (by omega) (gt_some (h25 g26)) rfl).take 2 (cs' := (eRef (gt v13 (W (v12 - 1))))) rfl) rfl), .inl ⟨(decide (v3 < v12)), rfl, rfl⟩⟩), (qr rfl ⟨(decide (v3 < v12) = true), (iv .i64 y28), 21, rfl, rfl, fun g27 => (opCallC (mc rfl g27) (mc rfl g27) (mc rfl g27) (gcall_pos ey28 g27)), .inl ⟨(decide (v3 < v12)), rfl, rfl⟩⟩), (qr rfl ⟨(decide (v3 < v12) = true), (bv (decide (y28 < 0))), 21, rfl, rfl, fun g29 => (opLss (mc rfl g29) ct), .inl ⟨(decide (v3 < v12)), rfl, rfl⟩⟩), (qr rfl (opAnd (mv rfl) (fun g30 => (mc rfl g30)) ct)), trivial⟩ trivial (fun _ => ?_))))
   refine al [0, 1, 2, 3, 8, 9, 34] [0] rfl rfl rfl (sq ?_)
   refine cI h rfl (fun c31 h => ?_) (fun c31 h => ?_)
   ·
    refine CodeT.skip (al [0, 1, 2, 3, 8, 9] [0] rfl rfl rfl (sq (cs (CodeT.block (ckE h fun h32 h => ckE h fun h33 h => ckE h fun h35 h => CodeT.draw (QR := [(0, (eqv sv2)), (1, (iv .i64 v12)), (2, (eqv sv2)), (3, (iv .i64 v12)), (4, (iv .i64 (W (v12 - 1)))), (5, (eqv sv2)), (6, (iv .i64 v12)), (7, (iv .i64 (W (v12 - 1)))), (8, (rowp sv2 (((W (v12 - 1)) : Int).toNat * 2))), (9, (agg (eRef (gt v13 (W (v12 - 1)))))), (10, (eqv sv2)), (11, (iv .i64 v12)), (12, (rowp sv2 ((v12 : Int).toNat * 2))), (13, (agg (eRef (gt v13 v12)))), (14, (rowp sv2 ((v12 : Int).toNat * 2)))]) (tab := [(some 37, []), (some 38, []), (some 39, []), (some 40, []), (some 41, [3]), (some 42, []), (some 43, []), (some 44, [6]), (some 45, [5, 7]), (some 46, [8]), (some 47, []), (some 48, []), (some 49, [10, 11]), (some 50, [12]), (some 51, [0, 1, 0, 1, 5, 6, 7, 8, 9, 13]), (none, [14, 9, 0, 1, 5, 6, 7, 8, 9, 13]), (some 52, [2, 4, 0, 1, 2, 3, 4, 5, 6, 7, 8, 9, 10, 11, 12, 13, 14, 15]), (none, [16, 13, 15, 0, 1, 2, 3, 4, 5, 6, 7, 8, 9, 10, 11, 12, 13, 14, 15])]) (mixed H) (Reg.intro [15] [] (by kernel_rfl) rfl (an rfl) ⟨(qr rfl (opMove (mv rfl))), (qr rfl (opMove (mv rfl))), (qr rfl (opMove (mv rfl))), (qr rfl (opMove (mv rfl))), (qr rfl (opSub (mv rfl) ct)), (qr rfl (opMove (mv rfl))), (qr rfl (opMove (mv rfl))), (qr rfl (opSub (mv rfl) ct)), (qr rfl (opIndexO 0 (ix55 H) (mv rfl) rfl (mv rfl) (h32).1 (h32).2)), (qr rfl (ln (tl43 H) ((Pt.row _ 0 (k := ((W (v12 - 1)) : Int).toNat) (fo := 0) lRef (mv rfl) rfl (by omega) (gt_some h32) rfl).take 2 (cs' := (eRef (gt v13 (W (v12 - 1))))) rfl) rfl)), (qr rfl (opMove (mv rfl))), (qr rfl (opMove (mv rfl))), (qr rfl (opIndexO 0 (ix55 H) (mv rfl) rfl (mv rfl) (h33).1 (h33).2)), (qr rfl (ln (tl43 H) ((Pt.row _ 0 (k := (v12 : Int).toNat) (fo := 0) lRef (mv rfl) rfl (by omega) (gt_some h33) rfl).take 2 (cs' := (eRef (gt v13 v12))) rfl) rfl)), (qr rfl (opIndexO 0 (ix55 H) (mv rfl) rfl (mv rfl) (h33).1 (h33).2)), trivial⟩ ⟨⟨_, rfl, rfl, rfl, rfl, opStoreO 0 (k := (v12 : Int).toNat) (fo := 0) (z' := (gt v13 (W (v12 - 1)))) (cs := (eRef (gt v13 (W (v12 - 1))))) lRef (tl43 H) (mv rfl) (Ce.agg (mv rfl)) rfl rfl (by omega) (gt_some h33) (Nat.le_of_ble_eq_true rfl) rfl ⟨[(16, (rowp sv2 (((W (v12 - 1)) : Int).toNat * 2)))], rfl, ?_⟩⟩, trivial⟩ ft))))))
    refine Reg.intro [17] [0, 1, 5, 6, 7, 8, 9, 10, 11, 12, 13, 14] (by kernel_rfl) rfl (an rfl) ⟨nf, nf, (qr rfl (opMove (mv rfl))), (qr rfl (opMove (mv rfl))), (qr rfl (opSub (mv rfl) ct)), nf, nf, nf, nf, nf, nf, nf, nf, nf, nf, (qr rfl (opIndexO 0 (ix55 H) (mv rfl) rfl (mv rfl) (h35).1 (h35).2)), trivial⟩ ⟨⟨_, rfl, rfl, rfl, rfl, opStoreO 0 (k := ((W (v12 - 1)) : Int).toNat) (fo := 0) (z' := (gt v13 v12)) (cs := (eRef (gt v13 v12))) lRef (tl43 H) (mv rfl) (Ce.agg (mv rfl)) rfl rfl (by omega) (gt_some h35) (Nat.le_of_ble_eq_true rfl) rfl ⟨[], rfl, ?_⟩⟩, trivial⟩ ft
    refine Reg.intro [] [0, 1, 2, 3, 4, 5, 6, 7, 8, 9, 10, 11, 12, 13, 14, 16] (by kernel_rfl) rfl (an rfl) ⟨nf, nf, nf, nf, nf, nf, nf, nf, nf, nf, nf, nf, nf, nf, nf, nf, trivial⟩ trivial (fun _ => AtX.in_normal (al [0, 1, 2, 3, 8, 9] [0] rfl rfl rfl (sq (cr [0, 1, 2] rfl (q1 rfl (opMove (mv rfl)) (q1 rfl (opSub (mv rfl) ct) (q1 rfl (opAssign (mv rfl)) (rn ?_))))))))
    exact AtX.to (ih14 ((W (v12 - 1)), (setAt (setAt v13 v12 (gt v13 (W (v12 - 1)))) (W (v12 - 1)) (gt v13 v12))) h) [0] (sl rfl) (ol rfl) rfl
   ·
    refine CodeT.exit (AtX.then_exit (AtX.then_exit (AtX.in_hit (AtX.in_normal ?_))))
    exact AtX.to (hJ11 v13 h) [0] (sl rfl) (ol rfl) rfl
 ·
  refine CodeT.exit (AtX.then_exit (AtX.then_exit (AtX.in_hit (AtX.fall' (eqv (.tuple #[])) (ResOK.zero Try.results80) [0] [(row 43 eRef 2 v7 sv2)] (ol rfl) rfl ?_))))
  obtain rfl := Option.some.inj h
  exact ⟨_, rfl, rfl, rfl⟩
theorem slices_swapRangeCmpFunc_eRef_ok {P : Program} (H : P = Try.prog) (φ : Nat) (v1 : (List Ref)) (v3 : Int) (v4 : Int) (v5 : Int) (y6 : (Ref → Ref → Option Int)) (sv2 : Value) (r : (List Ref)) (h : slices_swapRangeCmpFunc_eRef φ v1 v3 v4 v5 y6 = some r) : MutT P 103 [(eqv sv2), (iv .i64 v3), (iv .i64 v4), (iv .i64 v5), (fcmp P (fun x => (agg (eRef x))) y6)] 43 eRef 2 v1 sv2 (fun x l' => x = eqv (.tuple #[]) ∧ r = l') := by
 unfold slices_swapRangeCmpFunc_eRef at h
 refine MutT.of_code 38 (fn103 H) rfl rfl (Nat.le_of_ble_eq_true rfl) fun w0 base r0 wI => ?_
 refine cl [0, 1, 2, 3] [0] rfl rfl rfl (cs (cr [0] rfl (q1 rfl (opAssign ct) (rn (al [0, 1, 2, 3, 10] [0] rfl rfl rfl (sq (CodeT.block ?_)))))))
 refine CodeT.to (CodeT.loop (fun n (z : Int × (List Ref)) => slices_swapRangeCmpFunc_eRef_L9 φ v3 v4 v5 n z.1 z.2) r (fun z => ⟨Slots.of [(0, (eqv sv2)), (1, (iv .i64 v3)), (2, (iv .i64 v4)), (3, (iv .i64 v5)), (10, (iv .i64 z.1))], [(row 43 eRef 2 z.2 sv2)]⟩) (fun z => rfl) (fun n9 z ih9 h => ?_) φ (0, v1) h) [0] (sl rfl) (ol rfl) rfl
 obtain ⟨v7, v8⟩ := z
 replace h : slices_swapRangeCmpFunc_eRef_L9 φ v3 v4 v5 (n9 + 1) v7 v8 = some r := h
 rw [slices_swapRangeCmpFunc_eRef_L9] at h
 refine cs (cs (cr [0, 1, 2] rfl (q1 rfl (opMove (mv rfl)) (q1 rfl (opMove (mv rfl)) (q1 rfl (opLss (mv rfl) (mv rfl)) (rn (al [0, 1, 2, 3, 10, 13] [0] rfl rfl rfl (sq ?_))))))))
 refine cI h rfl (fun c10 h => ?_) (fun c10 h => ?_)
 ·
  refine CodeT.skip (al [0, 1, 2, 3, 10] [0] rfl rfl rfl (sq (cs (CodeT.block (ckE h fun h11 h => ckE h fun h12 h => ckE h fun h14 h => CodeT.draw (QR := [(0, _), (1, _), (2, _), (3, _), (4, _), (5, _), (6, _), (7, _), (8, _), (9, _), (10, _), (11, _), (12, _), (13, _), (14, _), (15, _), (16, _), (17, _), (18, _), (19, _), (20, _)]) (tab := [(some 16, []), (some 17, []), (some 18, []), (some 19, [1, 2]), (some 20, []), (some 21, []), (some 22, []), (some 23, [5, 6]), (some 24, []), (some 25, []), (some 26, []), (some 27, [9, 10]), (some 28, [8, 11]), (some 29, [12]), (some 30, []), (some 31, []), (some 32, []), (some 33, [15, 16]), (some 34, [14, 17]), (some 35, [18]), (some 36, [0, 3, 0, 1, 2, 3, 8, 9, 10, 11, 12, 13, 19]), (none, [20, 13, 0, 1, 2, 3, 8, 9, 10, 11, 12, 13, 19]), (some 37, [4, 7, 0, 1, 2, 3, 4, 5, 6, 7, 8, 9, 10, 11, 12, 13, 14, 15, 16, 17, 18, 19, 20, 21]), (none, [22, 19, 21, 0, 1, 2, 3, 4, 5, 6, 7, 8, 9, 10, 11, 12, 13, 14, 15, 16, 17, 18, 19, 20, 21])]) (mixed H) (Reg.intro [21] [] (by kernel_rfl) rfl (an rfl) ⟨(qr rfl (opMove (Ev.tmp (A := (eqv sv2)) (by kernel_rfl)))), (qr rfl (opMove (Ev.tmp (A := (iv .i64 v3)) (by kernel_rfl)))), (qr rfl (opMove (Ev.tmp (A := (iv .i64 v7)) (by kernel_rfl)))), (qr rfl (opAdd (Ev.tmp (A := (iv .i64 v3)) (by kernel_rfl)) (Ev.tmp (A := (iv .i64 v7)) (by kernel_rfl)))), (qr rfl (opMove (Ev.tmp (A := (eqv sv2)) (by kernel_rfl)))), (qr rfl (opMove (Ev.tmp (A := (iv .i64 v4)) (by kernel_rfl)))), (qr rfl (opMove (Ev.tmp (A := (iv .i64 v7)) (by kernel_rfl)))), (qr rfl (opAdd (Ev.tmp (A := (iv .i64 v4)) (by kernel_rfl)) (Ev.tmp (A := (iv .i64 v7)) (by kernel_rfl)))), (qr rfl (opMove (Ev.tmp (A := (eqv sv2)) (by kernel_rfl)))), (qr rfl (opMove (Ev.tmp (A := (iv .i64 v4)) (by kernel_rfl)))), (qr rfl (opMove (Ev.tmp (A := (iv .i64 v7)) (by kernel_rfl)))), (qr rfl (opAdd (Ev.tmp (A := (iv .i64 v4)) (by kernel_rfl)) (Ev.tmp (A := (iv .i64 v7)) (by kernel_rfl)))), (qr rfl (opIndexO 0 (ix55 H) (Ev.tmp (A := (eqv sv2)) (by kernel_rfl)) rfl (Ev.tmp (A := (iv .i64 (W (v4 + v7)))) (by kernel_rfl)) (h11).1 (h11).2)), (qr rfl (ln (tl43 H) ((Pt.row _ 0 (k := ((W (v4 + v7)) : Int).toNat) (fo := 0) lRef (Ev.tmp (A := (rowp sv2 (((W (v4 + v7)) : Int).toNat * 2))) (by kernel_rfl)) rfl (by omega) (gt_some h11) rfl).take 2 (cs' := (eRef (gt v8 (W (v4 + v7))))) rfl) rfl)), (qr rfl (opMove (Ev.tmp (A := (eqv sv2)) (by kernel_rfl)))), (qr rfl (opMove (Ev.tmp (A := (iv .i64 v3)) (by kernel_rfl)))), (qr rfl (opMove (Ev.tmp (A := (iv .i64 v7)) (by kernel_rfl)))), (qr rfl (opAdd (Ev.tmp (A := (iv .i64 v3)) (by kernel_rfl)) (Ev.tmp (A := (iv .i64 v7)) (by kernel_rfl)))), (qr rfl (opIndexO 0 (ix55 H) (Ev.tmp (A := (eqv sv2)) (by kernel_rfl)) rfl (Ev.tmp (A := (iv .i64 (W (v3 + v7)))) (by kernel_rfl)) (h12).1 (h12).2)), (qr rfl (ln (tl43 H) ((Pt.row _ 0 (k := ((W (v3 + v7)) : Int).toNat) (fo := 0) lRef (Ev.tmp (A := (rowp sv2 (((W (v3 + v7)) : Int).toNat * 2))) (by kernel_rfl)) rfl (by omega) (gt_some h12) rfl).take 2 (cs' := (eRef (gt v8 (W (v3 + v7))))) rfl) rfl)), (qr rfl (opIndexO 0 (ix55 H) (Ev.tmp (A := (eqv sv2)) (by kernel_rfl)) rfl (Ev.tmp (A := (iv .i64 (W (v3 + v7)))) (by kernel_rfl)) (h12).1 (h12).2)), trivial⟩ ⟨⟨_, rfl, rfl, rfl, rfl, opStoreO 0 (k := ((W (v3 + v7)) : Int).toNat) (fo := 0) (z' := (gt v8 (W (v4 + v7)))) (cs := (eRef (gt v8 (W (v4 + v7))))) lRef (tl43 H) (Ev.tmp (A := (rowp sv2 (((W (v3 + v7)) : Int).toNat * 2))) (by kernel_rfl)) (Ce.agg (Ev.tmp (A := (agg (eRef (gt v8 (W (v4 + v7)))))) (by kernel_rfl))) rfl rfl (by omega) (gt_some h12) (Nat.le_of_ble_eq_true rfl) rfl ⟨[(22, (rowp sv2 (((W (v4 + v7)) : Int).toNat * 2)))], rfl, ?_⟩⟩, trivial⟩ ft))))))
  refine Reg.intro [23] [0, 1, 2, 3, 8, 9, 10, 11, 12, 13, 14, 15, 16, 17, 18, 19, 20] (by kernel_rfl) rfl (an rfl) ⟨nf, nf, nf, nf, (qr rfl (opMove (Ev.tmp (A := (eqv sv2)) (by kernel_rfl)))), (qr rfl (opMove (Ev.tmp (A := (iv .i64 v4)) (by kernel_rfl)))), (qr rfl (opMove (Ev.tmp (A := (iv .i64 v7)) (by kernel_rfl)))), (qr rfl (opAdd (Ev.tmp (A := (iv .i64 v4)) (by kernel_rfl)) (Ev.tmp (A := (iv .i64 v7)) (by kernel_rfl)))), nf, nf, nf, nf, nf, nf, nf, nf, nf, nf, nf, nf, nf, (qr rfl (opIndexO 0 (ix55 H) (Ev.tmp (A := (eqv sv2)) (by kernel_rfl)) rfl (Ev.tmp (A := (iv .i64 (W (v4 + v7)))) (by kernel_rfl)) (h14).1 (h14).2)), trivial⟩ ⟨⟨_, rfl, rfl, rfl, rfl, opStoreO 0 (k := ((W (v4 + v7)) : Int).toNat) (fo := 0) (z' := (gt v8 (W (v3 + v7)))) (cs := (eRef (gt v8 (W (v3 + v7))))) lRef (tl43 H) (Ev.tmp (A := (rowp sv2 (((W (v4 + v7)) : Int).toNat * 2))) (by kernel_rfl)) (Ce.agg (Ev.tmp (A := (agg (eRef (gt v8 (W (v3 + v7)))))) (by kernel_rfl))) rfl rfl (by omega) (gt_some h14) (Nat.le_of_ble_eq_true rfl) rfl ⟨[], rfl, ?_⟩⟩, trivial⟩ ft
  refine Reg.intro [] [0, 1, 2, 3, 4, 5, 6, 7, 8, 9, 10, 11, 12, 13, 14, 15, 16, 17, 18, 19, 20, 22] (by kernel_rfl) rfl (an rfl) ⟨nf, nf, nf, nf, nf, nf, nf, nf, nf, nf, nf, nf, nf, nf, nf, nf, nf, nf, nf, nf, nf, nf, trivial⟩ trivial (fun _ => AtX.in_normal (al [0, 1, 2, 3, 10] [0] rfl rfl rfl (sq (cr [0, 1, 2] rfl (q1 rfl (opMove (mv rfl)) (q1 rfl (opAdd (mv rfl) ct) (q1 rfl (opAssign (mv rfl)) (rn ?_))))))))
  exact AtX.to (ih9 ((W (v7 + 1)), (setAt (setAt v8 (W (v3 + v7)) (gt v8 (W (v4 + v7)))) (W (v4 + v7)) (gt v8 (W (v3 + v7))))) h) [0] (sl rfl) (ol rfl) rfl
 ·
  refine CodeT.exit (AtX.then_exit (AtX.then_exit (AtX.in_hit (AtX.fall' (eqv (.tuple #[])) (ResOK.zero Try.results103) [0] [(row 43 eRef 2 v8 sv2)] (ol rfl) rfl ?_))))
  obtain rfl := Option.some.inj h
  exact ⟨_, rfl, rfl, rfl⟩
theorem slices_rotateCmpFunc_eRef_ok {P : Program} (H : P = Try.prog) (φ : Nat) (v1 : (List Ref)) (v3 : Int) (v4 : Int) (v5 : Int) (y6 : (Ref → Ref → Option Int)) (sv2 : Value) (r : (List Ref)) (h : slices_rotateCmpFunc_eRef φ v1 v3 v4 v5 y6 = some r) : MutT P 97 [(eqv sv2), (iv .i64 v3), (iv .i64 v4), (iv .i64 v5), (fcmp P (fun x => (agg (eRef x))) y6)] 43 eRef 2 v1 sv2 (fun x l' => x = eqv (.tuple #[]) ∧ r = l') := by
 unfold slices_rotateCmpFunc_eRef at h
 refine MutT.of_code 58 (fn97 H) rfl rfl (Nat.le_of_ble_eq_true rfl) fun w0 base r0 wI => ?_
 refine cl [0, 1, 2, 3, 4] [0] rfl rfl rfl (cs (cr [0, 1, 2, 3] rfl (q1 rfl (opMove (mv rfl)) (q1 rfl (opMove (mv rfl)) (q1 rfl (opSub (mv rfl) (mv rfl)) (q1 rfl (opAssign (mv rfl)) (rn (al [0, 2, 3, 4, 10] [0] rfl rfl rfl (sq (cs (cr [0, 1, 2, 3] rfl ?_)))))))))))
 refine q1 rfl (opMove (mv rfl)) (q1 rfl (opMove (mv rfl)) (q1 rfl (opSub (mv rfl) (mv rfl)) (q1 rfl (opAssign (mv rfl)) (rn (al [0, 2, 4, 10, 11] [0] rfl rfl rfl (sq (cs ?_)))))))
 refine CodeT.join (fun z : Int × (List Ref) => (slices_rotateCmpFunc_eRef_j9 φ v4 y6) z.1 z.2) r (fun z => ⟨Slots.of [(0, (eqv sv2)), (2, (iv .i64 v4)), (4, (fcmp P (fun x => (agg (eRef x))) y6)), (10, (iv .i64 z.1))], [(row 43 eRef 2 z.2 sv2)]⟩) (fun z h => ?_) (fun hJ9 => ?_)
 ·
  obtain ⟨v7, v8⟩ := z
  replace h : (slices_rotateCmpFunc_eRef_j9 φ v4 y6) v7 v8 = some r := h
  unfold slices_rotateCmpFunc_eRef_j9 at h
  refine al [0, 2, 4, 10] [0] rfl rfl rfl (sq (cr [0, 1, 2, 3, 4, 5, 6, 7] rfl (q1 rfl (opMove (mv rfl)) (q1 rfl (opMove (mv rfl)) (q1 rfl (opMove (mv rfl)) (q1 rfl (opSub (mv rfl) (mv rfl)) (q1 rfl (opMove (mv rfl)) (q1 rfl (opMove (mv rfl)) (q1 rfl (opMove (mv rfl)) (bindE h fun y10 ey10 h => n1 rfl (opCallM 0 rfl (fun x => (fRef x).mem) (fnok103 H) (args := [(eqv sv2), (iv .i64 (W (v4 - v7))), (iv .i64 v4), (iv .i64 v7), (fcmp P (fun x => (agg (eRef x))) y6)]) ⟨(mv rfl), (mv rfl), (mv rfl), (mv rfl), (mv rfl), trivial⟩ (slices_swapRangeCmpFunc_eRef_ok H φ v8 (W (v4 - v7)) v4 v7 y6 sv2 _ ey10) fun x11 nw12 hk13 => ?_)))))))))))
  obtain ⟨rfl, rfl⟩ := hk13
  refine ⟨flat_eqv, ?_⟩
  refine rn (AtX.fall' (eqv (.tuple #[])) (ResOK.zero Try.results97) [0] [(row 43 eRef 2 y10 sv2)] (ol rfl) rfl ?_)
  obtain rfl := Option.some.inj h
  exact ⟨_, rfl, rfl, rfl⟩
 ·
  refine CodeT.block ?_
  refine CodeT.to (CodeT.loop (fun n (z : Int × Int × (List Ref)) => slices_rotateCmpFunc_eRef_L17 φ v4 y6 (slices_rotateCmpFunc_eRef_j9 φ v4 y6) n z.1 z.2.1 z.2.2) r (fun z => ⟨Slots.of [(0, (eqv sv2)), (2, (iv .i64 v4)), (4, (fcmp P (fun x => (agg (eRef x))) y6)), (10, (iv .i64 z.1)), (11, (iv .i64 z.2.1))], [(row 43 eRef 2 z.2.2 sv2)]⟩) (fun z => rfl) (fun n17 z ih17 h => ?_) φ ((W (v4 - v3)), (W (v5 - v4)), v1) h) [0] (sl rfl) (ol rfl) rfl
  obtain ⟨v14, v15, v16⟩ := z
  replace h : slices_rotateCmpFunc_eRef_L17 φ v4 y6 (slices_rotateCmpFunc_eRef_j9 φ v4 y6) (n17 + 1) v14 v15 v16 = some r := h
  rw [slices_rotateCmpFunc_eRef_L17] at h
  refine cs (cs (cr [0, 1, 2] rfl (q1 rfl (opMove (mv rfl)) (q1 rfl (opMove (mv rfl)) (q1 rfl (opNeq (mv rfl) (mv rfl)) (rn (al [0, 2, 4, 10, 11, 20] [0] rfl rfl rfl (sq ?_))))))))
  refine cI h rfl (fun c18 h => ?_) (fun c18 h => ?_)
  ·
   refine CodeT.skip (al [0, 2, 4, 10, 11] [0] rfl rfl rfl (sq (CodeT.block (cs (cr [0, 1, 2] rfl (q1 rfl (opMove (mv rfl)) (q1 rfl (opMove (mv rfl)) (q1 rfl (opGtr (mv rfl) (mv rfl)) (rn (al [0, 2, 4, 10, 11, 23] [0] rfl rfl rfl (sq ?_)))))))))))
   refine cI h rfl (fun c19 h => ?_) (fun c19 h => ?_)
   ·
    refine cs (cr [0, 1, 2, 3, 4, 5, 6, 7] rfl (q1 rfl (opMove (mv rfl)) (q1 rfl (opMove (mv rfl)) (q1 rfl (opMove (mv rfl)) (q1 rfl (opSub (mv rfl) (mv rfl)) (q1 rfl (opMove (mv rfl)) (q1 rfl (opMove (mv rfl)) (q1 rfl (opMove (mv rfl)) (bindE h fun y20 ey20 h => n1 rfl (opCallM 0 rfl (fun x => (fRef x).mem) (fnok103 H) (args := [(eqv sv2), (iv .i64 (W (v4 - v14))), (iv .i64 v4), (iv .i64 v15), (fcmp P (fun x => (agg (eRef x))) y6)]) ⟨(mv rfl), (mv rfl), (mv rfl), (mv rfl), (mv rfl), trivial⟩ (slices_swapRangeCmpFunc_eRef_ok H φ v16 (W (v4 - v14)) v4 v15 y6 sv2 _ ey20) fun x21 nw22 hk23 => ?_))))))))))
    obtain ⟨rfl, rfl⟩ := hk23
    refine ⟨flat_eqv, ?_⟩
    refine rn (al [0, 2, 4, 10, 11] [0] rfl rfl rfl (sq (cr [0, 1, 2, 3] rfl (q1 rfl (opMove (mv rfl)) (q1 rfl (opMove (mv rfl)) (q1 rfl (opSub (mv rfl) (mv rfl)) (q1 rfl (opAssign (mv rfl)) (rn (AtX.in_normal ?_)))))))))
    exact AtX.to (ih17 ((W (v14 - v15)), v15, y20) h) [0] (sl rfl) (ol rfl) rfl
   ·
    refine cs (cr [0, 1, 2, 3, 4, 5, 6, 7, 8, 9, 10, 11] rfl (q1 rfl (opMove (mv rfl)) (q1 rfl (opMove (mv rfl)) (q1 rfl (opMove (mv rfl)) (q1 rfl (opSub (mv rfl) (mv rfl)) (q1 rfl (opMove (mv rfl)) (q1 rfl (opMove (mv rfl)) (q1 rfl (opAdd (mv rfl) (mv rfl)) (q1 rfl (opMove (mv rfl)) (q1 rfl (opSub (mv rfl) (mv rfl)) (q1 rfl (opMove (mv rfl)) ?_)))))))))))
    refine q1 rfl (opMove (mv rfl)) (bindE h fun y24 ey24 h => n1 rfl (opCallM 0 rfl (fun x => (fRef x).mem) (fnok103 H) (args := [(eqv sv2), (iv .i64 (W (v4 - v14))), (iv .i64 (W ((W (v4 + v15)) - v14))), (iv .i64 v14), (fcmp P (fun x => (agg (eRef x))) y6)]) ⟨(mv rfl), (mv rfl), (mv rfl), (mv rfl), (mv rfl), trivial⟩ (slices_swapRangeCmpFunc_eRef_ok H φ v16 (W (v4 - v14)) (W ((W (v4 + v15)) - v14)) v14 y6 sv2 _ ey24) fun x25 nw26 hk27 => ?_))
    obtain ⟨rfl, rfl⟩ := hk27
    refine ⟨flat_eqv, ?_⟩
    refine rn (al [0, 2, 4, 10, 11] [0] rfl rfl rfl (sq (cr [0, 1, 2, 3] rfl (q1 rfl (opMove (mv rfl)) (q1 rfl (opMove (mv rfl)) (q1 rfl (opSub (mv rfl) (mv rfl)) (q1 rfl (opAssign (mv rfl)) (rn (AtX.in_normal ?_)))))))))
    exact AtX.to (ih17 (v14, (W (v15 - v14)), y24) h) [0] (sl rfl) (ol rfl) rfl
  ·
   refine CodeT.exit (AtX.then_exit (AtX.then_exit (AtX.in_hit ?_)))
   exact AtX.to (hJ9 (v14, v16) h) [0] (sl rfl) (ol rfl) rfl
end Px
end
section
set_option linter.unusedVariables false
set_option linter.unusedSimpArgs false
set_option maxHeartbeats 4000000
set_option maxRecDepth 100000
namespace Px
open Go Go.RowKit Go.Proofs
end Px
end
section
set_option linter.unusedVariables false
set_option linter.unusedSimpArgs false
set_option maxHeartbeats 4000000
set_option maxRecDepth 100000
namespace Px
open Go Go.RowKit Go.Proofs
theorem slices_symMergeCmpFunc_eRef_ok {P : Program} (H : P = Try.prog) : ∀ (φ : Nat) (v1 : (List Ref)) (v3 : Int) (v4 : Int) (v5 : Int) (y6 : (Ref → Ref → Option Int)) (sv2 : Value) (r : (List Ref)) (h : slices_symMergeCmpFunc_eRef φ v1 v3 v4 v5 y6 = some r), MutT P 81 [(eqv sv2), (iv .i64 v3), (iv .i64 v4), (iv .i64 v5), (fcmp P (fun x => (agg (eRef x))) y6)] 43 eRef 2 v1 sv2 (fun x l' => x = eqv (.tuple #[]) ∧ r = l') := by
 intro φ
 induction φ with
 | zero => intro v1 v3 v4 v5 y6 sv2 r h; cases h
 | succ φ ih =>
  intro v1 v3 v4 v5 y6 sv2 r h
  rw [slices_symMergeCmpFunc_eRef] at h
  refine MutT.of_code 220 (fn81 H) rfl rfl (Nat.le_of_ble_eq_true rfl) fun w0 base r0 wI => ?_
  refine cl [0, 1, 2, 3, 4] [0] rfl rfl rfl (cs (cs (cr [0, 1, 2, 3] rfl (q1 rfl (opMove (mv rfl)) (q1 rfl (opMove (mv rfl)) (q1 rfl (opSub (mv rfl) (mv rfl)) (q1 rfl (opEql (mv rfl) ct) (rn (al [0, 1, 2, 3, 4, 28] [0] rfl rfl rfl (sq ?_))))))))))
  refine cI h rfl (fun c8 h => ?_) (fun c8 h => ?_)
  ·
   refine cs (cr [0, 1] rfl (q1 rfl (opMove (mv rfl)) (q1 rfl (opAssign (mv rfl)) (rn (al [0, 1, 3, 4, 10] [0] rfl rfl rfl (sq (cs (cr [0, 1] rfl (q1 rfl (opMove (mv rfl)) (q1 rfl (opAssign (mv rfl)) (rn ?_)))))))))))
   refine al [0, 1, 4, 10, 11] [0] rfl rfl rfl (sq (cs ?_))
   refine CodeT.join (fun z : Int => (slices_symMergeCmpFunc_eRef_j10 φ v1 v3) z) r (fun z => ⟨Slots.of [(0, (eqv sv2)), (1, (iv .i64 v3)), (10, (iv .i64 z))], [(row 43 eRef 2 v1 sv2)]⟩) (fun v9 h => ?_) (fun hJ10 => ?_)
   ·
    replace h : (slices_symMergeCmpFunc_eRef_j10 φ v1 v3) v9 = some r := h
    unfold slices_symMergeCmpFunc_eRef_j10 at h
    refine al [0, 1, 10] [0] rfl rfl rfl (sq (cs (cs (cr [0, 1] rfl (q1 rfl (opMove (mv rfl)) (q1 rfl (opAssign (mv rfl)) (rn (al [0, 10, 13] [0] rfl rfl rfl (sq ?_)))))))))
    refine CodeT.join (fun z : (List Ref) => (slices_symMergeCmpFunc_eRef_j12 φ) z) r (fun z => ⟨Slots.of [], [(row 43 eRef 2 z sv2)]⟩) (fun v11 h => ?_) (fun hJ12 => ?_)
    ·
     replace h : (slices_symMergeCmpFunc_eRef_j12 φ) v11 = some r := h
     unfold slices_symMergeCmpFunc_eRef_j12 at h
     refine al [] [0] rfl rfl rfl (sq (CodeT.ret (AtX.then_ret (AtX.ret' (eqv (.tuple #[])) (ResOK.zero Try.results81) [0] [(row 43 eRef 2 v11 sv2)] (ol rfl) rfl ?_))))
     obtain rfl := Option.some.inj h
     exact ⟨_, rfl, rfl, rfl⟩
    ·
     refine CodeT.block ?_
     refine CodeT.to (CodeT.loop (fun n (z : Int × (List Ref)) => slices_symMergeCmpFunc_eRef_L15 φ v9 (slices_symMergeCmpFunc_eRef_j12 φ) n z.1 z.2) r (fun z => ⟨Slots.of [(0, (eqv sv2)), (10, (iv .i64 v9)), (13, (iv .i64 z.1))], [(row 43 eRef 2 z.2 sv2)]⟩) (fun z => rfl) (fun n15 z ih15 h => ?_) φ (v3, v1) h) [0] (sl rfl) (ol rfl) rfl
     obtain ⟨v13, v14⟩ := z
     replace h : slices_symMergeCmpFunc_eRef_L15 φ v9 (slices_symMergeCmpFunc_eRef_j12 φ) (n15 + 1) v13 v14 = some r := h
     rw [slices_symMergeCmpFunc_eRef_L15] at h
     refine cs (cs (cr [0, 1, 2, 3] rfl (q1 rfl (opMove (mv rfl)) (q1 rfl (opMove (mv rfl)) (q1 rfl (opSub (mv rfl) ct) (q1 rfl (opLss (mv rfl) (mv rfl)) (rn (al [0, 10, 13, 58] [0] rfl rfl rfl (sq ?_)))))))))
     refine cI h rfl (fun c16 h => ?_) (fun c16 h => ?_)
     ·
      refine CodeT.skip (al [0, 10, 13] [0] rfl rfl rfl (sq (cs (CodeT.block (ckE h fun h17 h => ckE h fun h18 h => ckE h fun h20 h => CodeT.draw (QR := [(0, (eqv sv2)), (1, (iv .i64 v13)), (2, (eqv sv2)), (3, (iv .i64 v13)), (4, (iv .i64 (W (v13 + 1)))), (5, (eqv sv2)), (6, (iv .i64 v13)), (7, (iv .i64 (W (v13 + 1)))), (8, (rowp sv2 (((W (v13 + 1)) : Int).toNat * 2))), (9, (agg (eRef (gt v14 (W (v13 + 1)))))), (10, (eqv sv2)), (11, (iv .i64 v13)), (12, (rowp sv2 ((v13 : Int).toNat * 2))), (13, (agg (eRef (gt v14 v13)))), (14, (rowp sv2 ((v13 : Int).toNat * 2)))]) (tab := [(some 61, []), (some 62, []), (some 63, []), (some 64, []), (some 65, [3]), (some 66, []), (some 67, []), (some 68, [6]), (some 69, [5, 7]), (some 70, [8]), (some 71, []), (some 72, []), (some 73, [10, 11]), (some 74, [12]), (some 75, [0, 1, 0, 1, 5, 6, 7, 8, 9, 13]), (none, [14, 9, 0, 1, 5, 6, 7, 8, 9, 13]), (some 76, [2, 4, 0, 1, 2, 3, 4, 5, 6, 7, 8, 9, 10, 11, 12, 13, 14, 15]), (none, [16, 13, 15, 0, 1, 2, 3, 4, 5, 6, 7, 8, 9, 10, 11, 12, 13, 14, 15])]) (mixed H) (Reg.intro [15] [] (by kernel_rfl) rfl (an rfl) ⟨(qr rfl (opMove (mv rfl))), (qr rfl (opMove (mv rfl))), (qr rfl (opMove (mv rfl))), (qr rfl (opMove (mv rfl))), (qr rfl (opAdd (mv rfl) ct)), (qr rfl (opMove (mv rfl))), (qr rfl (opMove (mv rfl))), (qr rfl (opAdd (mv rfl) ct)), (qr rfl (opIndexO 0 (ix55 H) (mv rfl) rfl (mv rfl) (h17).1 (h17).2)), (qr rfl (ln (tl43 H) ((Pt.row _ 0 (k := ((W (v13 + 1)) : Int).toNat) (fo := 0) lRef (mv rfl) rfl (by omega) (gt_some h17) rfl).take 2 (cs' := (eRef (gt v14 (W (v13 + 1))))) rfl) rfl)), (qr rfl (opMove (mv rfl))), (qr rfl (opMove (mv rfl))), (qr rfl (opIndexO 0 (ix55 H) (mv rfl) rfl (mv rfl) (h18).1 (h18).2)), (qr rfl (ln (tl43 H) ((Pt.row _ 0 (k := (v13 : Int).toNat) (fo := 0) lRef (mv rfl) rfl (by omega) (gt_some h18) rfl).take 2 (cs' := (eRef (gt v14 v13))) rfl) rfl)), (qr rfl (opIndexO 0 (ix55 H) (mv rfl) rfl (mv rfl) (h18).1 (h18).2)), trivial⟩ ⟨⟨_, rfl, rfl, rfl, rfl, opStoreO 0 (k := (v13 : Int).toNat) (fo := 0) (z' := (gt v14 (W (v13 + 1)))) (cs := (eRef (gt v14 (W (v13 + 1))))) lRef (tl43 H) (mv rfl) (Ce.agg (mv rfl)) rfl rfl (by omega) (gt_some h18) (Nat.le_of_ble_eq_true rfl) rfl ⟨[(16, (rowp sv2 (((W (v13 + 1)) : Int).toNat * 2)))], rfl, ?_⟩⟩, trivial⟩ ft))))))
      refine Reg.intro [17] [0, 1, 5, 6, 7, 8, 9, 10, 11, 12, 13, 14] (by kernel_rfl) rfl (an rfl) ⟨nf, nf, (qr rfl (opMove (mv rfl))), (qr rfl (opMove (mv rfl))), (qr rfl (opAdd (mv rfl) ct)), nf, nf, nf, nf, nf, nf, nf, nf, nf, nf, (qr rfl (opIndexO 0 (ix55 H) (mv rfl) rfl (mv rfl) (h20).1 (h20).2)), trivial⟩ ⟨⟨_, rfl, rfl, rfl, rfl, opStoreO 0 (k := ((W (v13 + 1)) : Int).toNat) (fo := 0) (z' := (gt v14 v13)) (cs := (eRef (gt v14 v13))) lRef (tl43 H) (mv rfl) (Ce.agg (mv rfl)) rfl rfl (by omega) (gt_some h20) (Nat.le_of_ble_eq_true rfl) rfl ⟨[], rfl, ?_⟩⟩, trivial⟩ ft
      refine Reg.intro [] [0, 1, 2, 3, 4, 5, 6, 7, 8, 9, 10, 11, 12, 13, 14, 16] (by kernel_rfl) rfl (an rfl) ⟨nf, nf, nf, nf, nf, nf, nf, nf, nf, nf, nf, nf, nf, nf, nf, nf, trivial⟩ trivial (fun _ => AtX.in_normal (al [0, 10, 13] [0] rfl rfl rfl (sq (cr [0, 1, 2] rfl (q1 rfl (opMove (mv rfl)) (q1 rfl (opAdd (mv rfl) ct) (q1 rfl (opAssign (mv rfl)) (rn ?_))))))))
      exact AtX.to (ih15 ((W (v13 + 1)), (setAt (setAt v14 v13 (gt v14 (W (v13 + 1)))) (W (v13 + 1)) (gt v14 v13))) h) [0] (sl rfl) (ol rfl) rfl
     ·
      refine CodeT.exit (AtX.then_exit (AtX.then_exit (AtX.in_hit ?_)))
      exact AtX.to (hJ12 v14 h) [0] trivial (ol rfl) rfl
   ·
    refine CodeT.block ?_
    refine CodeT.to (CodeT.loop (fun n (z : Int × Int) => slices_symMergeCmpFunc_eRef_L24 φ v1 v3 y6 (slices_symMergeCmpFunc_eRef_j10 φ v1 v3) n z.1 z.2) r (fun z => ⟨Slots.of [(0, (eqv sv2)), (1, (iv .i64 v3)), (4, (fcmp P (fun x => (agg (eRef x))) y6)), (10, (iv .i64 z.1)), (11, (iv .i64 z.2))], [(row 43 eRef 2 v1 sv2)]⟩) (fun z => rfl) (fun n24 z ih24 h => ?_) φ (v4, v5) h) [0] (sl rfl) (ol rfl) rfl
    obtain ⟨v22, v23⟩ := z
    replace h : slices_symMergeCmpFunc_eRef_L24 φ v1 v3 y6 (slices_symMergeCmpFunc_eRef_j10 φ v1 v3) (n24 + 1) v22 v23 = some r := h
    rw [slices_symMergeCmpFunc_eRef_L24] at h
    refine cs (cs (cr [0, 1, 2] rfl (q1 rfl (opMove (mv rfl)) (q1 rfl (opMove (mv rfl)) (q1 rfl (opLss (mv rfl) (mv rfl)) (rn (al [0, 1, 4, 10, 11, 33] [0] rfl rfl rfl (sq ?_))))))))
    refine cI h rfl (fun c25 h => ?_) (fun c25 h => ?_)
    ·
     refine CodeT.skip (al [0, 1, 4, 10, 11] [0] rfl rfl rfl (sq (CodeT.block (cs (cr [0, 1, 2, 3, 4, 5, 6] rfl (q1 rfl (opMove (mv rfl)) (q1 rfl (opMove (mv rfl)) (q1 rfl (opAdd (mv rfl) (mv rfl)) (q1 rfl (opConv (us3 H) (un159 H) (mv rfl)) (q1 rfl (opShrC 2 (by decide) (mv rfl) ct (by decide)) (q1 rfl (opConv (us159 H) (un3 H) (mv rfl)) ?_)))))))))))
     refine q1 rfl (opAssign (mv rfl)) (rn (al [0, 1, 4, 10, 11, 12] [0] rfl rfl rfl (sq (cs (ckE h fun h26 h => ckE h fun h27 h => bindE h fun y28 ey28 h => CodeT.draw (QR := [(0, (fcmp P (fun x => (agg (eRef x))) y6)), (1, (eqv sv2)), (2, (iv .i64 (W (((U ((W (v22 + v23)))).fdiv 2))))), (3, (rowp sv2 (((W (((U ((W (v22 + v23)))).fdiv 2))) : Int).toNat * 2))), (4, (agg (eRef (gt v1 (W (((U ((W (v22 + v23)))).fdiv 2))))))), (5, (eqv sv2)), (6, (iv .i64 v3)), (7, (rowp sv2 ((v3 : Int).toNat * 2))), (8, (agg (eRef (gt v1 v3)))), (9, (iv .i64 y28)), (10, (bv (decide (y28 < 0))))]) (tab := [(some 40, []), (some 41, []), (some 42, []), (some 43, [1, 2]), (some 44, [3]), (some 45, []), (some 46, []), (some 47, [5, 6]), (some 48, [7]), (some 49, [0, 4, 8]), (some 50, [9])]) (mixed H) (Reg.intro [] [] (by kernel_rfl) rfl (an rfl) ⟨(qr rfl (opMove (mv rfl))), (qr rfl (opMove (mv rfl))), (qr rfl (opMove (mv rfl))), (qr rfl (opIndexO 0 (ix55 H) (mv rfl) rfl (mv rfl) (h26).1 (h26).2)), (qr rfl (ln (tl43 H) ((Pt.row _ 0 (k := ((W (((U ((W (v22 + v23)))).fdiv 2))) : Int).toNat) (fo := 0) lRef (mv rfl) rfl (by omega) (gt_some h26) rfl).take 2 (cs' := (eRef (gt v1 (W (((U ((W (v22 + v23)))).fdiv 2)))))) rfl) rfl)), (qr rfl (opMove (mv rfl))), (qr rfl (opMove (mv rfl))), (qr rfl (opIndexO 0 (ix55 H) (mv rfl) rfl (mv rfl) (h27).1 (h27).2)), (qr rfl (ln (tl43 H) ((Pt.row _ 0 (k := (v3 : Int).toNat) (fo := 0) lRef (mv rfl) rfl (by omega) (gt_some h27) rfl).take 2 (cs' := (eRef (gt v1 v3))) rfl) rfl)), (qr rfl (opCallC (mv rfl) (mv rfl) (mv rfl) ey28)), (qr rfl (opLss (mv rfl) ct)), trivial⟩ trivial (fun _ => al [0, 1, 4, 10, 11, 12, 50] [0] rfl rfl rfl (sq ?_))))))))
     refine cI h rfl (fun c29 h => ?_) (fun c29 h => ?_)
     ·
      refine cr [0, 1, 2] rfl (q1 rfl (opMove (mv rfl)) (q1 rfl (opAdd (mv rfl) ct) (q1 rfl (opAssign (mv rfl)) (rn (AtX.in_normal ?_)))))
      exact AtX.to (ih24 ((W ((W (((U ((W (v22 + v23)))).fdiv 2))) + 1)), v23) h) [0] (sl rfl) (ol rfl) rfl
     ·
      refine cr [0, 1] rfl (q1 rfl (opMove (mv rfl)) (q1 rfl (opAssign (mv rfl)) (rn (AtX.in_normal ?_))))
      exact AtX.to (ih24 (v22, (W (((U ((W (v22 + v23)))).fdiv 2)))) h) [0] (sl rfl) (ol rfl) rfl
    ·
     refine CodeT.exit (AtX.then_exit (AtX.then_exit (AtX.in_hit ?_)))
     exact AtX.to (hJ10 v22 h) [0] (sl rfl) (ol rfl) rfl
  ·
   refine CodeT.skip (al [0, 1, 2, 3, 4] [0] rfl rfl rfl (sq (cs (cs (cr [0, 1, 2, 3] rfl (q1 rfl (opMove (mv rfl)) (q1 rfl (opMove (mv rfl)) (q1 rfl (opSub (mv rfl) (mv rfl)) (q1 rfl (opEql (mv rfl) ct) (rn (al [0, 1, 2, 3, 4, 80] [0] rfl rfl rfl ?_)))))))))))
   refine sq ?_
   refine cI h rfl (fun c30 h => ?_) (fun c30 h => ?_)
   ·
    refine cs (cr [0, 1] rfl (q1 rfl (opMove (mv rfl)) (q1 rfl (opAssign (mv rfl)) (rn (al [0, 2, 4, 14] [0] rfl rfl rfl (sq (cs (cr [0, 1] rfl (q1 rfl (opMove (mv rfl)) (q1 rfl (opAssign (mv rfl)) (rn ?_)))))))))))
    refine al [0, 2, 4, 14, 15] [0] rfl rfl rfl (sq (cs ?_))
    refine CodeT.join (fun z : Int => (slices_symMergeCmpFunc_eRef_j32 φ v1 v4) z) r (fun z => ⟨Slots.of [(0, (eqv sv2)), (2, (iv .i64 v4)), (14, (iv .i64 z))], [(row 43 eRef 2 v1 sv2)]⟩) (fun v31 h => ?_) (fun hJ32 => ?_)
    ·
     replace h : (slices_symMergeCmpFunc_eRef_j32 φ v1 v4) v31 = some r := h
     unfold slices_symMergeCmpFunc_eRef_j32 at h
     refine al [0, 2, 14] [0] rfl rfl rfl (sq (cs (cs (cr [0, 1] rfl (q1 rfl (opMove (mv rfl)) (q1 rfl (opAssign (mv rfl)) (rn (al [0, 14, 17] [0] rfl rfl rfl (sq ?_)))))))))
     refine CodeT.join (fun z : (List Ref) => (slices_symMergeCmpFunc_eRef_j34 φ) z) r (fun z => ⟨Slots.of [], [(row 43 eRef 2 z sv2)]⟩) (fun v33 h => ?_) (fun hJ34 => ?_)
     ·
      replace h : (slices_symMergeCmpFunc_eRef_j34 φ) v33 = some r := h
      unfold slices_symMergeCmpFunc_eRef_j34 at h
      refine al [] [0] rfl rfl rfl (sq (CodeT.ret (AtX.then_ret (AtX.ret' (eqv (.tuple #[])) (ResOK.zero Try.results81) [0] [(row 43 eRef 2 v33 sv2)] (ol rfl) rfl ?_))))
      obtain rfl := Option.some.inj h
      exact ⟨_, rfl, rfl, rfl⟩
     ·
      refine CodeT.block ?_
      refine CodeT.to (CodeT.loop (fun n (z : Int × (List Ref)) => slices_symMergeCmpFunc_eRef_L37 φ v31 (slices_symMergeCmpFunc_eRef_j34 φ) n z.1 z.2) r (fun z => ⟨Slots.of [(0, (eqv sv2)), (14, (iv .i64 v31)), (17, (iv .i64 z.1))], [(row 43 eRef 2 z.2 sv2)]⟩) (fun z => rfl) (fun n37 z ih37 h => ?_) φ (v4, v1) h) [0] (sl rfl) (ol rfl) rfl
      obtain ⟨v35, v36⟩ := z
      replace h : slices_symMergeCmpFunc_eRef_L37 φ v31 (slices_symMergeCmpFunc_eRef_j34 φ) (n37 + 1) v35 v36 = some r := h
      rw [slices_symMergeCmpFunc_eRef_L37] at h
      refine cs (cs (cr [0, 1, 2] rfl (q1 rfl (opMove (mv rfl)) (q1 rfl (opMove (mv rfl)) (q1 rfl (opGtr (mv rfl) (mv rfl)) (rn (al [0, 14, 17, 110] [0] rfl rfl rfl (sq ?_))))))))
      refine cI h rfl (fun c38 h => ?_) (fun c38 h => ?_)
      ·
       refine CodeT.skip (al [0, 14, 17] [0] rfl rfl rfl (sq (cs (CodeT.block (ckE h fun h39 h => ckE h fun h40 h => ckE h fun h42 h => CodeT.draw (QR := [(0, (eqv sv2)), (1, (iv .i64 v35)), (2, (eqv sv2)), (3, (iv .i64 v35)), (4, (iv .i64 (W (v35 - 1)))), (5, (eqv sv2)), (6, (iv .i64 v35)), (7, (iv .i64 (W (v35 - 1)))), (8, (rowp sv2 (((W (v35 - 1)) : Int).toNat * 2))), (9, (agg (eRef (gt v36 (W (v35 - 1)))))), (10, (eqv sv2)), (11, (iv .i64 v35)), (12, (rowp sv2 ((v35 : Int).toNat * 2))), (13, (agg (eRef (gt v36 v35)))), (14, (rowp sv2 ((v35 : Int).toNat * 2)))]) (tab := [(some 113, []), (some 114, []), (some 115, []), (some 116, []), (some 117, [3]), (some 118, []), (some 119, []), (some 120, [6]), (some 121, [5, 7]), (some 122, [8]), (some 123, []), (some 124, []), (some 125, [10, 11]), (some 126, [12]), (some 127, [0, 1, 0, 1, 5, 6, 7, 8, 9, 13]), (none, [14, 9, 0, 1, 5, 6, 7, 8, 9, 13]), (some 128, [2, 4, 0, 1, 2, 3, 4, 5, 6, 7, 8, 9, 10, 11, 12, 13, 14, 15]), (none, [16, 13, 15, 0, 1, 2, 3, 4, 5, 6, 7, 8, 9, 10, 11, 12, 13, 14, 15])]) (mixed H) (Reg.intro [15] [] (by kernel_rfl) rfl (an rfl) ⟨(qr rfl (opMove (mv rfl))), (qr rfl (opMove (mv rfl))), (qr rfl (opMove (mv rfl))), (qr rfl (opMove (mv rfl))), (qr rfl (opSub (mv rfl) ct)), (qr rfl (opMove (mv rfl))), (qr rfl (opMove (mv rfl))), (qr rfl (opSub (mv rfl) ct)), (qr rfl (opIndexO 0 (ix55 H) (mv rfl) rfl (mv rfl) (h39).1 (h39).2)), (qr rfl (ln (tl43 H) ((Pt.row _ 0 (k := ((W (v35 - 1)) : Int).toNat) (fo := 0) lRef (mv rfl) rfl (by omega) (gt_some h39) rfl).take 2 (cs' := (eRef (gt v36 (W (v35 - 1))))) rfl) rfl)), (qr rfl (opMove (mv rfl))), (qr rfl (opMove (mv rfl))), (qr rfl (opIndexO 0 (ix55 H) (mv rfl) rfl (mv rfl) (h40).1 (h40).2)), (qr rfl (ln (tl43 H) ((Pt.row _ 0 (k := (v35 : Int).toNat) (fo := 0) lRef (mv rfl) rfl (by omega) (gt_some h40) rfl).take 2 (cs' := (eRef (gt v36 v35))) rfl) rfl)), (qr rfl (opIndexO 0 (ix55 H) (mv rfl) rfl (mv rfl) (h40).1 (h40).2)), trivial⟩ ⟨⟨_, rfl, rfl, rfl, rfl, opStoreO 0 (k := (v35 : Int).toNat) (fo := 0) (z' := (gt v36 (W (v35 - 1)))) (cs := (eRef (gt v36 (W (v35 - 1))))) lRef (tl43 H) (mv rfl) (Ce.agg (mv rfl)) rfl rfl (by omega) (gt_some h40) (Nat.le_of_ble_eq_true rfl) rfl ⟨[(16, (rowp sv2 (((W (v35 - 1)) : Int).toNat * 2)))], rfl, ?_⟩⟩, trivial⟩ ft))))))
       refine Reg.intro [17] [0, 1, 5, 6, 7, 8, 9, 10, 11, 12, 13, 14] (by kernel_rfl) rfl (an rfl) ⟨nf, nf, (qr rfl (opMove (mv rfl))), (qr rfl (opMove (mv rfl))), (qr rfl (opSub (mv rfl) ct)), nf, nf, nf, nf, nf, nf, nf, nf, nf, nf, (qr rfl (opIndexO 0 (ix55 H) (mv rfl) rfl (mv rfl) (h42).1 (h42).2)), trivial⟩ ⟨⟨_, rfl, rfl, rfl, rfl, opStoreO 0 (k := ((W (v35 - 1)) : Int).toNat) (fo := 0) (z' := (gt v36 v35)) (cs := (eRef (gt v36 v35))) lRef (tl43 H) (mv rfl) (Ce.agg (mv rfl)) rfl rfl (by omega) (gt_some h42) (Nat.le_of_ble_eq_true rfl) rfl ⟨[], rfl, ?_⟩⟩, trivial⟩ ft
       refine Reg.intro [] [0, 1, 2, 3, 4, 5, 6, 7, 8, 9, 10, 11, 12, 13, 14, 16] (by kernel_rfl) rfl (an rfl) ⟨nf, nf, nf, nf, nf, nf, nf, nf, nf, nf, nf, nf, nf, nf, nf, nf, trivial⟩ trivial (fun _ => AtX.in_normal (al [0, 14, 17] [0] rfl rfl rfl (sq (cr [0, 1, 2] rfl (q1 rfl (opMove (mv rfl)) (q1 rfl (opSub (mv rfl) ct) (q1 rfl (opAssign (mv rfl)) (rn ?_))))))))
       exact AtX.to (ih37 ((W (v35 - 1)), (setAt (setAt v36 v35 (gt v36 (W (v35 - 1)))) (W (v35 - 1)) (gt v36 v35))) h) [0] (sl rfl) (ol rfl) rfl
      ·
       refine CodeT.exit (AtX.then_exit (AtX.then_exit (AtX.in_hit ?_)))
       exact AtX.to (hJ34 v36 h) [0] trivial (ol rfl) rfl
    ·
     refine CodeT.block ?_
     refine CodeT.to (CodeT.loop (fun n (z : Int × Int) => slices_symMergeCmpFunc_eRef_L46 φ v1 v4 y6 (slices_symMergeCmpFunc_eRef_j32 φ v1 v4) n z.1 z.2) r (fun z => ⟨Slots.of [(0, (eqv sv2)), (2, (iv .i64 v4)), (4, (fcmp P (fun x => (agg (eRef x))) y6)), (14, (iv .i64 z.1)), (15, (iv .i64 z.2))], [(row 43 eRef 2 v1 sv2)]⟩) (fun z => rfl) (fun n46 z ih46 h => ?_) φ (v3, v4) h) [0] (sl rfl) (ol rfl) rfl
     obtain ⟨v44, v45⟩ := z
     replace h : slices_symMergeCmpFunc_eRef_L46 φ v1 v4 y6 (slices_symMergeCmpFunc_eRef_j32 φ v1 v4) (n46 + 1) v44 v45 = some r := h
     rw [slices_symMergeCmpFunc_eRef_L46] at h
     refine cs (cs (cr [0, 1, 2] rfl (q1 rfl (opMove (mv rfl)) (q1 rfl (opMove (mv rfl)) (q1 rfl (opLss (mv rfl) (mv rfl)) (rn (al [0, 2, 4, 14, 15, 85] [0] rfl rfl rfl (sq ?_))))))))
     refine cI h rfl (fun c47 h => ?_) (fun c47 h => ?_)
     ·
      refine CodeT.skip (al [0, 2, 4, 14, 15] [0] rfl rfl rfl (sq (CodeT.block (cs (cr [0, 1, 2, 3, 4, 5, 6] rfl (q1 rfl (opMove (mv rfl)) (q1 rfl (opMove (mv rfl)) (q1 rfl (opAdd (mv rfl) (mv rfl)) (q1 rfl (opConv (us3 H) (un159 H) (mv rfl)) (q1 rfl (opShrC 2 (by decide) (mv rfl) ct (by decide)) (q1 rfl (opConv (us159 H) (un3 H) (mv rfl)) ?_)))))))))))
      refine q1 rfl (opAssign (mv rfl)) (rn (al [0, 2, 4, 14, 15, 16] [0] rfl rfl rfl (sq (cs (ckE h fun h48 h => ckE h fun h49 h => bindE h fun y50 ey50 h => CodeT.draw (QR := [(0, (fcmp P (fun x => (agg (eRef x))) y6)), (1, (eqv sv2)), (2, (iv .i64 v4)), (3, (rowp sv2 ((v4 : Int).toNat * 2))), (4, (agg (eRef (gt v1 v4)))), (5, (eqv sv2)), (6, (iv .i64 (W (((U ((W (v44 + v45)))).fdiv 2))))), (7, (rowp sv2 (((W (((U ((W (v44 + v45)))).fdiv 2))) : Int).toNat * 2))), (8, (agg (eRef (gt v1 (W (((U ((W (v44 + v45)))).fdiv 2))))))), (9, (iv .i64 y50)), (10, (bv (decide (y50 < 0)))), (11, (bv (!(decide (y50 < 0)))))]) (tab := [(some 92, []), (some 93, []), (some 94, []), (some 95, [1, 2]), (some 96, [3]), (some 97, []), (some 98, []), (some 99, [5, 6]), (some 100, [7]), (some 101, [0, 4, 8]), (some 102, [9]), (some 103, [10])]) (mixed H) (Reg.intro [] [] (by kernel_rfl) rfl (an rfl) ⟨(qr rfl (opMove (mv rfl))), (qr rfl (opMove (mv rfl))), (qr rfl (opMove (mv rfl))), (qr rfl (opIndexO 0 (ix55 H) (mv rfl) rfl (mv rfl) (h48).1 (h48).2)), (qr rfl (ln (tl43 H) ((Pt.row _ 0 (k := (v4 : Int).toNat) (fo := 0) lRef (mv rfl) rfl (by omega) (gt_some h48) rfl).take 2 (cs' := (eRef (gt v1 v4))) rfl) rfl)), (qr rfl (opMove (mv rfl))), (qr rfl (opMove (mv rfl))), (qr rfl (opIndexO 0 (ix55 H) (mv rfl) rfl (mv rfl) (h49).1 (h49).2)), (qr rfl (ln (tl43 H) ((Pt.row _ 0 (k := ((W (((U ((W (v44 + v45)))).fdiv 2))) : Int).toNat) (fo := 0) lRef (mv rfl) rfl (by omega) (gt_some h49) rfl).take 2 (cs' := (eRef (gt v1 (W (((U ((W (v44 + v45)))).fdiv 2)))))) rfl) rfl)), (qr rfl (opCallC (mv rfl) (mv rfl) (mv rfl) ey50)), (qr rfl (opLss (mv rfl) ct)), (qr rfl (opNot (mv rfl))), trivial⟩ trivial (fun _ => al [0, 2, 4, 14, 15, 16, 103] [0] rfl rfl rfl (sq ?_))))))))
      refine cI h rfl (fun c51 h => ?_) (fun c51 h => ?_)
      ·
       refine cr [0, 1, 2] rfl (q1 rfl (opMove (mv rfl)) (q1 rfl (opAdd (mv rfl) ct) (q1 rfl (opAssign (mv rfl)) (rn (AtX.in_normal ?_)))))
       exact AtX.to (ih46 ((W ((W (((U ((W (v44 + v45)))).fdiv 2))) + 1)), v45) h) [0] (sl rfl) (ol rfl) rfl
      ·
       refine cr [0, 1] rfl (q1 rfl (opMove (mv rfl)) (q1 rfl (opAssign (mv rfl)) (rn (AtX.in_normal ?_))))
       exact AtX.to (ih46 (v44, (W (((U ((W (v44 + v45)))).fdiv 2)))) h) [0] (sl rfl) (ol rfl) rfl
     ·
      refine CodeT.exit (AtX.then_exit (AtX.then_exit (AtX.in_hit ?_)))
      exact AtX.to (hJ32 v44 h) [0] (sl rfl) (ol rfl) rfl
   ·
    refine CodeT.skip (al [0, 1, 2, 3, 4] [0] rfl rfl rfl (sq (cs (cr [0, 1, 2, 3, 4, 5, 6] rfl (q1 rfl (opMove (mv rfl)) (q1 rfl (opMove (mv rfl)) (q1 rfl (opAdd (mv rfl) (mv rfl)) (q1 rfl (opConv (us3 H) (un159 H) (mv rfl)) (q1 rfl (opShrC 2 (by decide) (mv rfl) ct (by decide)) (q1 rfl (opConv (us159 H) (un3 H) (mv rfl)) (q1 rfl (opAssign (mv rfl)) ?_)))))))))))
    refine rn (al [0, 1, 2, 3, 4, 18] [0] rfl rfl rfl (sq (cs (cr [0, 1, 2, 3] rfl (q1 rfl (opMove (mv rfl)) (q1 rfl (opMove (mv rfl)) (q1 rfl (opAdd (mv rfl) (mv rfl)) (q1 rfl (opAssign (mv rfl)) (rn (al [0, 1, 2, 3, 4, 18, 19] [0] rfl rfl rfl (sq ?_)))))))))))
    refine cs (cr [0, 1] rfl (q1 rfl (opAssign ct) (q1 rfl (opAssign ct) (rn (al [0, 1, 2, 3, 4, 18, 19] [0] rfl rfl rfl (sq (cs (cs (cr [0, 1, 2] rfl (q1 rfl (opMove (mv rfl)) (q1 rfl (opMove (mv rfl)) ?_)))))))))))
    refine q1 rfl (opGtr (mv rfl) (mv rfl)) (rn (al [0, 1, 2, 3, 4, 18, 19, 140] [0] rfl rfl rfl (sq ?_)))
    refine CodeT.join (fun z : Int × Int => (slices_symMergeCmpFunc_eRef_j54 φ v1 v3 v4 v5 y6 (slices_symMergeCmpFunc_eRef φ)) z.1 z.2) r (fun z => ⟨Slots.of [(0, (eqv sv2)), (1, (iv .i64 v3)), (2, (iv .i64 v4)), (3, (iv .i64 v5)), (4, (fcmp P (fun x => (agg (eRef x))) y6)), (18, (iv .i64 (W (((U ((W (v3 + v5)))).fdiv 2))))), (19, (iv .i64 (W ((W (((U ((W (v3 + v5)))).fdiv 2))) + v4)))), (20, (iv .i64 z.1)), (21, (iv .i64 z.2))], [(row 43 eRef 2 v1 sv2)]⟩) (fun z h => ?_) (fun hJ54 => ?_)
    ·
     obtain ⟨v52, v53⟩ := z
     replace h : (slices_symMergeCmpFunc_eRef_j54 φ v1 v3 v4 v5 y6 (slices_symMergeCmpFunc_eRef φ)) v52 v53 = some r := h
     unfold slices_symMergeCmpFunc_eRef_j54 at h
     refine al [0, 1, 2, 3, 4, 18, 19, 20, 21] [0] rfl rfl rfl (sq (cs (cr [0, 1, 2] rfl (q1 rfl (opMove (mv rfl)) (q1 rfl (opSub (mv rfl) ct) (q1 rfl (opAssign (mv rfl)) (rn (al [0, 1, 2, 3, 4, 18, 19, 20, 21, 22] [0] rfl rfl rfl (sq (cs ?_))))))))))
     refine CodeT.join (fun z : Int => (slices_symMergeCmpFunc_eRef_j56 φ v1 v3 v4 v5 y6 (slices_symMergeCmpFunc_eRef φ)) z) r (fun z => ⟨Slots.of [(0, (eqv sv2)), (1, (iv .i64 v3)), (2, (iv .i64 v4)), (3, (iv .i64 v5)), (4, (fcmp P (fun x => (agg (eRef x))) y6)), (18, (iv .i64 (W (((U ((W (v3 + v5)))).fdiv 2))))), (19, (iv .i64 (W ((W (((U ((W (v3 + v5)))).fdiv 2))) + v4)))), (20, (iv .i64 z))], [(row 43 eRef 2 v1 sv2)]⟩) (fun v55 h => ?_) (fun hJ56 => ?_)
     ·
      replace h : (slices_symMergeCmpFunc_eRef_j56 φ v1 v3 v4 v5 y6 (slices_symMergeCmpFunc_eRef φ)) v55 = some r := h
      unfold slices_symMergeCmpFunc_eRef_j56 at h
      refine al [0, 1, 2, 3, 4, 18, 19, 20] [0] rfl rfl rfl (sq (cs (cr [0, 1, 2, 3] rfl (q1 rfl (opMove (mv rfl)) (q1 rfl (opMove (mv rfl)) (q1 rfl (opSub (mv rfl) (mv rfl)) (q1 rfl (opAssign (mv rfl)) (rn (al [0, 1, 2, 3, 4, 18, 20, 24] [0] rfl rfl rfl (sq (cs ?_)))))))))))
      refine cs (cr [0, 1, 2, 3, 4, 5, 6, 7] rfl (q1 rfl (opMove (mv rfl)) (q1 rfl (opMove (mv rfl)) (q1 rfl (opLss (mv rfl) (mv rfl)) (q1 rfl (opMove (mv rfl)) (g1 rfl rfl (fun g57 => opMove (mv rfl)) (g1 rfl rfl (fun g58 => opMove (mv rfl)) (g1 rfl rfl (fun g59 => opLss (mc rfl g59) (mc rfl g59)) (q1 rfl (opAnd (mv rfl) (fun g60 => (mc rfl g60)) ct) (rn (al [0, 1, 2, 3, 4, 18, 20, 24, 185] [0] rfl rfl rfl ?_)))))))))))
      refine sq ?_
      refine CodeT.join (fun z : (List Ref) => (slices_symMergeCmpFunc_eRef_j62 φ v3 v4 v5 y6 (slices_symMergeCmpFunc_eRef φ) v55) z) r (fun z => ⟨Slots.of [(0, (eqv sv2)), (1, (iv .i64 v3)), (3, (iv .i64 v5)), (4, (fcmp P (fun x => (agg (eRef x))) y6)), (18, (iv .i64 (W (((U ((W (v3 + v5)))).fdiv 2))))), (20, (iv .i64 v55)), (24, (iv .i64 (W ((W ((W (((U ((W (v3 + v5)))).fdiv 2))) + v4)) - v55))))], [(row 43 eRef 2 z sv2)]⟩) (fun v61 h => ?_) (fun hJ62 => ?_)
      ·
       replace h : (slices_symMergeCmpFunc_eRef_j62 φ v3 v4 v5 y6 (slices_symMergeCmpFunc_eRef φ) v55) v61 = some r := h
       unfold slices_symMergeCmpFunc_eRef_j62 at h
       refine al [0, 1, 3, 4, 18, 20, 24] [0] rfl rfl rfl (sq (cs (cs (cr [0, 1, 2, 3, 4, 5, 6, 7] rfl (q1 rfl (opMove (mv rfl)) (q1 rfl (opMove (mv rfl)) (q1 rfl (opLss (mv rfl) (mv rfl)) (q1 rfl (opMove (mv rfl)) (g1 rfl rfl (fun g63 => opMove (mv rfl)) (g1 rfl rfl (fun g64 => opMove (mv rfl)) (g1 rfl rfl (fun g65 => opLss (mc rfl g65) (mc rfl g65)) ?_)))))))))))
       refine q1 rfl (opAnd (mv rfl) (fun g66 => (mc rfl g66)) ct) (rn (al [0, 1, 3, 4, 18, 20, 24, 199] [0] rfl rfl rfl (sq ?_)))
       refine CodeT.join (fun z : (List Ref) => (slices_symMergeCmpFunc_eRef_j68 φ v3 v4 v5 y6 (slices_symMergeCmpFunc_eRef φ) v55) z) r (fun z => ⟨Slots.of [(0, (eqv sv2)), (3, (iv .i64 v5)), (4, (fcmp P (fun x => (agg (eRef x))) y6)), (18, (iv .i64 (W (((U ((W (v3 + v5)))).fdiv 2))))), (24, (iv .i64 (W ((W ((W (((U ((W (v3 + v5)))).fdiv 2))) + v4)) - v55))))], [(row 43 eRef 2 z sv2)]⟩) (fun v67 h => ?_) (fun hJ68 => ?_)
       ·
        replace h : (slices_symMergeCmpFunc_eRef_j68 φ v3 v4 v5 y6 (slices_symMergeCmpFunc_eRef φ) v55) v67 = some r := h
        unfold slices_symMergeCmpFunc_eRef_j68 at h
        refine al [0, 3, 4, 18, 24] [0] rfl rfl rfl (sq (cs (cr [0, 1, 2, 3, 4, 5, 6, 7] rfl (q1 rfl (opMove (mv rfl)) (q1 rfl (opMove (mv rfl)) (q1 rfl (opLss (mv rfl) (mv rfl)) (q1 rfl (opMove (mv rfl)) (g1 rfl rfl (fun g69 => opMove (mv rfl)) (g1 rfl rfl (fun g70 => opMove (mv rfl)) (g1 rfl rfl (fun g71 => opLss (mc rfl g71) (mc rfl g71)) (q1 rfl (opAnd (mv rfl) (fun g72 => (mc rfl g72)) ct) ?_)))))))))))
        refine rn (al [0, 3, 4, 18, 24, 213] [0] rfl rfl rfl (sq ?_))
        refine cI h rfl (fun c73 h => ?_) (fun c73 h => ?_)
        ·
         refine cr [0, 1, 2, 3, 4, 5] rfl (q1 rfl (opMove (mv rfl)) (q1 rfl (opMove (mv rfl)) (q1 rfl (opMove (mv rfl)) (q1 rfl (opMove (mv rfl)) (q1 rfl (opMove (mv rfl)) (bindE h fun y74 ey74 h => n1 rfl (opCallM 0 rfl (fun x => (fRef x).mem) (fnok81 H) (args := [(eqv sv2), (iv .i64 (W (((U ((W (v3 + v5)))).fdiv 2)))), (iv .i64 (W ((W ((W (((U ((W (v3 + v5)))).fdiv 2))) + v4)) - v55))), (iv .i64 v5), (fcmp P (fun x => (agg (eRef x))) y6)]) ⟨(mv rfl), (mv rfl), (mv rfl), (mv rfl), (mv rfl), trivial⟩ (ih v67 (W (((U ((W (v3 + v5)))).fdiv 2))) (W ((W ((W (((U ((W (v3 + v5)))).fdiv 2))) + v4)) - v55)) v5 y6 sv2 _ ey74) fun x75 nw76 hk77 => ?_)))))))
         obtain ⟨rfl, rfl⟩ := hk77
         refine ⟨flat_eqv, ?_⟩
         refine rn (AtX.fall' (eqv (.tuple #[])) (ResOK.zero Try.results81) [0] [(row 43 eRef 2 y74 sv2)] (ol rfl) rfl ?_)
         obtain rfl := Option.some.inj h
         exact ⟨_, rfl, rfl, rfl⟩
        ·
         refine CodeT.skip (AtX.fall' (eqv (.tuple #[])) (ResOK.zero Try.results81) [0] [(row 43 eRef 2 v67 sv2)] (ol rfl) rfl ?_)
         obtain rfl := Option.some.inj h
         exact ⟨_, rfl, rfl, rfl⟩
       ·
        refine cI h rfl (fun c78 h => ?_) (fun c78 h => ?_)
        ·
         refine cr [0, 1, 2, 3, 4, 5] rfl (q1 rfl (opMove (mv rfl)) (q1 rfl (opMove (mv rfl)) (q1 rfl (opMove (mv rfl)) (q1 rfl (opMove (mv rfl)) (q1 rfl (opMove (mv rfl)) (bindE h fun y79 ey79 h => n1 rfl (opCallM 0 rfl (fun x => (fRef x).mem) (fnok81 H) (args := [(eqv sv2), (iv .i64 v3), (iv .i64 v55), (iv .i64 (W (((U ((W (v3 + v5)))).fdiv 2)))), (fcmp P (fun x => (agg (eRef x))) y6)]) ⟨(mv rfl), (mv rfl), (mv rfl), (mv rfl), (mv rfl), trivial⟩ (ih v61 v3 v55 (W (((U ((W (v3 + v5)))).fdiv 2))) y6 sv2 _ ey79) fun x80 nw81 hk82 => ?_)))))))
         obtain ⟨rfl, rfl⟩ := hk82
         refine ⟨flat_eqv, ?_⟩
         refine rn ?_
         exact AtX.to (hJ68 y79 h) [0] (sl rfl) (ol rfl) rfl
        ·
         refine CodeT.skip ?_
         exact AtX.to (hJ68 v61 h) [0] (sl rfl) (ol rfl) rfl
      ·
       refine cI h rfl (fun c83 h => ?_) (fun c83 h => ?_)
       ·
        refine cr [0, 1, 2, 3, 4, 5] rfl (q1 rfl (opMove (mv rfl)) (q1 rfl (opMove (mv rfl)) (q1 rfl (opMove (mv rfl)) (q1 rfl (opMove (mv rfl)) (q1 rfl (opMove (mv rfl)) (bindE h fun y84 ey84 h => n1 rfl (opCallM 0 rfl (fun x => (fRef x).mem) (fnok97 H) (args := [(eqv sv2), (iv .i64 v55), (iv .i64 v4), (iv .i64 (W ((W ((W (((U ((W (v3 + v5)))).fdiv 2))) + v4)) - v55))), (fcmp P (fun x => (agg (eRef x))) y6)]) ⟨(mv rfl), (mv rfl), (mv rfl), (mv rfl), (mv rfl), trivial⟩ (slices_rotateCmpFunc_eRef_ok H φ v1 v55 v4 (W ((W ((W (((U ((W (v3 + v5)))).fdiv 2))) + v4)) - v55)) y6 sv2 _ ey84) fun x85 nw86 hk87 => ?_)))))))
        obtain ⟨rfl, rfl⟩ := hk87
        refine ⟨flat_eqv, ?_⟩
        refine rn ?_
        exact AtX.to (hJ62 y84 h) [0] (sl rfl) (ol rfl) rfl
       ·
        refine CodeT.skip ?_
        exact AtX.to (hJ62 v1 h) [0] (sl rfl) (ol rfl) rfl
     ·
      refine CodeT.block ?_
      refine CodeT.to (CodeT.loop (fun n (z : Int × Int) => slices_symMergeCmpFunc_eRef_L90 φ v1 v3 v4 v5 y6 (slices_symMergeCmpFunc_eRef_j56 φ v1 v3 v4 v5 y6 (slices_symMergeCmpFunc_eRef φ)) n z.1 z.2) r (fun z => ⟨Slots.of [(0, (eqv sv2)), (1, (iv .i64 v3)), (2, (iv .i64 v4)), (3, (iv .i64 v5)), (4, (fcmp P (fun x => (agg (eRef x))) y6)), (18, (iv .i64 (W (((U ((W (v3 + v5)))).fdiv 2))))), (19, (iv .i64 (W ((W (((U ((W (v3 + v5)))).fdiv 2))) + v4)))), (20, (iv .i64 z.1)), (21, (iv .i64 z.2)), (22, (iv .i64 (W ((W ((W (((U ((W (v3 + v5)))).fdiv 2))) + v4)) - 1))))], [(row 43 eRef 2 v1 sv2)]⟩) (fun z => rfl) (fun n90 z ih90 h => ?_) φ (v52, v53) h) [0] (sl rfl) (ol rfl) rfl
      obtain ⟨v88, v89⟩ := z
      replace h : slices_symMergeCmpFunc_eRef_L90 φ v1 v3 v4 v5 y6 (slices_symMergeCmpFunc_eRef_j56 φ v1 v3 v4 v5 y6 (slices_symMergeCmpFunc_eRef φ)) (n90 + 1) v88 v89 = some r := h
      rw [slices_symMergeCmpFunc_eRef_L90] at h
      refine cs (cs (cr [0, 1, 2] rfl (q1 rfl (opMove (mv rfl)) (q1 rfl (opMove (mv rfl)) (q1 rfl (opLss (mv rfl) (mv rfl)) (rn (al [0, 1, 2, 3, 4, 18, 19, 20, 21, 22, 151] [0] rfl rfl rfl (sq ?_))))))))
      refine cI h rfl (fun c91 h => ?_) (fun c91 h => ?_)
      ·
       refine CodeT.skip (al [0, 1, 2, 3, 4, 18, 19, 20, 21, 22] [0] rfl rfl rfl (sq (CodeT.block (cs (cr [0, 1, 2, 3, 4, 5, 6] rfl (q1 rfl (opMove (mv rfl)) (q1 rfl (opMove (mv rfl)) (q1 rfl (opAdd (mv rfl) (mv rfl)) (q1 rfl (opConv (us3 H) (un159 H) (mv rfl)) (q1 rfl (opShrC 2 (by decide) (mv rfl) ct (by decide)) (q1 rfl (opConv (us159 H) (un3 H) (mv rfl)) ?_)))))))))))
       refine q1 rfl (opAssign (mv rfl)) (rn (al [0, 1, 2, 3, 4, 18, 19, 20, 21, 22, 23] [0] rfl rfl rfl (sq (cs (ckE h fun h92 h => ckE h fun h93 h => bindE h fun y94 ey94 h => CodeT.draw (QR := [(0, (fcmp P (fun x => (agg (eRef x))) y6)), (1, (eqv sv2)), (2, (iv .i64 (W ((W ((W (((U ((W (v3 + v5)))).fdiv 2))) + v4)) - 1)))), (3, (iv .i64 (W (((U ((W (v88 + v89)))).fdiv 2))))), (4, (iv .i64 (W ((W ((W ((W (((U ((W (v3 + v5)))).fdiv 2))) + v4)) - 1)) - (W (((U ((W (v88 + v89)))).fdiv 2))))))), (5, (rowp sv2 (((W ((W ((W ((W (((U ((W (v3 + v5)))).fdiv 2))) + v4)) - 1)) - (W (((U ((W (v88 + v89)))).fdiv 2))))) : Int).toNat * 2))), (6, (agg (eRef (gt v1 (W ((W ((W ((W (((U ((W (v3 + v5)))).fdiv 2))) + v4)) - 1)) - (W (((U ((W (v88 + v89)))).fdiv 2))))))))), (7, (eqv sv2)), (8, (iv .i64 (W (((U ((W (v88 + v89)))).fdiv 2))))), (9, (rowp sv2 (((W (((U ((W (v88 + v89)))).fdiv 2))) : Int).toNat * 2))), (10, (agg (eRef (gt v1 (W (((U ((W (v88 + v89)))).fdiv 2))))))), (11, (iv .i64 y94)), (12, (bv (decide (y94 < 0)))), (13, (bv (!(decide (y94 < 0)))))]) (tab := [(some 158, []), (some 159, []), (some 160, []), (some 161, []), (some 162, [2, 3]), (some 163, [1, 4]), (some 164, [5]), (some 165, []), (some 166, []), (some 167, [7, 8]), (some 168, [9]), (some 169, [0, 6, 10]), (some 170, [11]), (some 171, [12])]) (mixed H) (Reg.intro [] [] (by kernel_rfl) rfl ⟨rfl, rfl, rfl, rfl, rfl, rfl, rfl, rfl, rfl, rfl, rfl, rfl, rfl, rfl, trivial⟩ ⟨(fun _ => ⟨_, rfl, (opMove (Ev.tmp rfl))⟩), (fun _ => ⟨_, rfl, (opMove (Ev.tmp rfl))⟩), (fun _ => ⟨_, rfl, (opMove (Ev.tmp rfl))⟩), (fun _ => ⟨_, rfl, (opMove (Ev.tmp rfl))⟩), (fun _ => ⟨_, rfl, (opSub (Ev.tmp rfl) (Ev.tmp rfl))⟩), (fun _ => ⟨_, rfl, (opIndexO 0 (ix55 H) (Ev.tmp rfl) rfl (Ev.tmp rfl) (h92).1 (h92).2)⟩), (fun _ => ⟨_, rfl, (opLoadN (tl43 H) ((Pt.row _ 0 (k := ((W ((W ((W ((W (((U ((W (v3 + v5)))).fdiv 2))) + v4)) - 1)) - (W (((U ((W (v88 + v89)))).fdiv 2))))) : Int).toNat) (fo := 0) lRef (Ev.tmp rfl) rfl (by omega) (gt_some h92) rfl).take 2 (cs' := (eRef (gt v1 (W ((W ((W ((W (((U ((W (v3 + v5)))).fdiv 2))) + v4)) - 1)) - (W (((U ((W (v88 + v89)))).fdiv 2)))))))) rfl))⟩), (fun _ => ⟨_, rfl, (opMove (Ev.tmp rfl))⟩), (fun _ => ⟨_, rfl, (opMove (Ev.tmp rfl))⟩), (fun _ => ⟨_, rfl, (opIndexO 0 (ix55 H) (Ev.tmp rfl) rfl (Ev.tmp rfl) (h93).1 (h93).2)⟩), (fun _ => ⟨_, rfl, (opLoadN (tl43 H) ((Pt.row _ 0 (k := ((W (((U ((W (v88 + v89)))).fdiv 2))) : Int).toNat) (fo := 0) lRef (Ev.tmp rfl) rfl (by omega) (gt_some h93) rfl).take 2 (cs' := (eRef (gt v1 (W (((U ((W (v88 + v89)))).fdiv 2)))))) rfl))⟩), (fun _ => ⟨_, rfl, (opCallC (Ev.tmp rfl) (Ev.tmp rfl) (Ev.tmp rfl) ey94)⟩), (fun _ => ⟨_, rfl, (opLss (Ev.tmp rfl) (Ev.const _))⟩), (fun _ => ⟨_, rfl, (opNot (Ev.tmp rfl))⟩), trivial⟩ trivial (fun _ => al [0, 1, 2, 3, 4, 18, 19, 20, 21, 22, 23, 171] [0] rfl rfl rfl (sq ?_))))))))
       refine cI h rfl (fun c95 h => ?_) (fun c95 h => ?_)
       ·
        refine cr [0, 1, 2] rfl (q1 rfl (opMove (mv rfl)) (q1 rfl (opAdd (mv rfl) ct) (q1 rfl (opAssign (mv rfl)) (rn (AtX.in_normal ?_)))))
        exact AtX.to (ih90 ((W ((W (((U ((W (v88 + v89)))).fdiv 2))) + 1)), v89) h) [0] (sl rfl) (ol rfl) rfl
       ·
        refine cr [0, 1] rfl (q1 rfl (opMove (mv rfl)) (q1 rfl (opAssign (mv rfl)) (rn (AtX.in_normal ?_))))
        exact AtX.to (ih90 (v88, (W (((U ((W (v88 + v89)))).fdiv 2)))) h) [0] (sl rfl) (ol rfl) rfl
      ·
       refine CodeT.exit (AtX.then_exit (AtX.then_exit (AtX.in_hit ?_)))
       exact AtX.to (hJ56 v88 h) [0] (sl rfl) (ol rfl) rfl
    ·
     refine cI h rfl (fun c96 h => ?_) (fun c96 h => ?_)
     ·
      refine cs (cr [0, 1, 2, 3] rfl (q1 rfl (opMove (mv rfl)) (q1 rfl (opMove (mv rfl)) (q1 rfl (opSub (mv rfl) (mv rfl)) (q1 rfl (opAssign (mv rfl)) (rn (al [0, 1, 2, 3, 4, 18, 19, 20] [0] rfl rfl rfl (sq (cr [0, 1] rfl (q1 rfl (opMove (mv rfl)) (q1 rfl (opAssign (mv rfl)) ?_)))))))))))
      refine rn ?_
      exact AtX.to (hJ54 ((W ((W ((W (((U ((W (v3 + v5)))).fdiv 2))) + v4)) - v5)), (W (((U ((W (v3 + v5)))).fdiv 2)))) h) [0] (sl rfl) (ol rfl) rfl
     ·
      refine cs (cr [0, 1] rfl (q1 rfl (opMove (mv rfl)) (q1 rfl (opAssign (mv rfl)) (rn (al [0, 1, 2, 3, 4, 18, 19, 20] [0] rfl rfl rfl (sq (cr [0, 1] rfl (q1 rfl (opMove (mv rfl)) (q1 rfl (opAssign (mv rfl)) (rn ?_))))))))))
      exact AtX.to (hJ54 (v3, v4) h) [0] (sl rfl) (ol rfl) rfl
theorem slices_stableCmpFunc_eRef_ok {P : Program} (H : P = Try.prog) (φ : Nat) (v1 : (List Ref)) (v3 : Int) (y4 : (Ref → Ref → Option Int)) (sv2 : Value) (r : (List Ref)) (h : slices_stableCmpFunc_eRef φ v1 v3 y4 = some r) : MutT P 63 [(eqv sv2), (iv .i64 v3), (fcmp P (fun x => (agg (eRef x))) y4)] 43 eRef 2 v1 sv2 (fun x l' => x = eqv (.tuple #[]) ∧ r = l') := by
 unfold slices_stableCmpFunc_eRef at h
 refine MutT.of_code 63 (fn63 H) rfl rfl (Nat.le_of_ble_eq_true rfl) fun w0 base r0 wI => ?_
 refine cl [0, 1, 2] [0] rfl rfl rfl (cs (cr [0] rfl (q1 rfl (opAssign ct) (rn (al [0, 1, 2, 6] [0] rfl rfl rfl (sq (cs (cr [0, 1, 2] rfl (q1 rfl (opMove (mv rfl)) (q1 rfl (opAssign ct) (q1 rfl (opAssign (mv rfl)) ?_)))))))))))
 refine rn (al [0, 1, 2, 6, 7, 8] [0] rfl rfl rfl (sq (cs ?_)))
 refine CodeT.join (fun z : Int × (List Ref) => (slices_stableCmpFunc_eRef_j7 φ v3 y4) z.1 z.2) r (fun z => ⟨Slots.of [(0, (eqv sv2)), (1, (iv .i64 v3)), (2, (fcmp P (fun x => (agg (eRef x))) y4)), (6, (iv .i64 20)), (7, (iv .i64 z.1))], [(row 43 eRef 2 z.2 sv2)]⟩) (fun z h => ?_) (fun hJ7 => ?_)
 ·
  obtain ⟨v5, v6⟩ := z
  replace h : (slices_stableCmpFunc_eRef_j7 φ v3 y4) v5 v6 = some r := h
  unfold slices_stableCmpFunc_eRef_j7 at h
  refine al [0, 1, 2, 6, 7] [0] rfl rfl rfl (sq (cs (cr [0, 1, 2, 3, 4] rfl (q1 rfl (opMove (mv rfl)) (q1 rfl (opMove (mv rfl)) (q1 rfl (opMove (mv rfl)) (q1 rfl (opMove (mv rfl)) (bindE h fun y8 ey8 h => n1 rfl (opCallM 0 rfl (fun x => (fRef x).mem) (fnok80 H) (args := [(eqv sv2), (iv .i64 v5), (iv .i64 v3), (fcmp P (fun x => (agg (eRef x))) y4)]) ⟨(mv rfl), (mv rfl), (mv rfl), (mv rfl), trivial⟩ (slices_insertionSortCmpFunc_eRef_ok H φ v6 v5 v3 y4 sv2 _ ey8) fun x9 nw10 hk11 => ?_)))))))))
  obtain ⟨rfl, rfl⟩ := hk11
  refine ⟨flat_eqv, ?_⟩
  refine rn (al [0, 1, 2, 6] [0] rfl rfl rfl (sq (CodeT.block ?_)))
  refine CodeT.to (CodeT.loop (fun n (z : Int × (List Ref)) => slices_stableCmpFunc_eRef_L14 φ v3 y4 n z.1 z.2) r (fun z => ⟨Slots.of [(0, (eqv sv2)), (1, (iv .i64 v3)), (2, (fcmp P (fun x => (agg (eRef x))) y4)), (6, (iv .i64 z.1))], [(row 43 eRef 2 z.2 sv2)]⟩) (fun z => rfl) (fun n14 z ih14 h => ?_) φ (20, y8) h) [0] (sl rfl) (ol rfl) rfl
  obtain ⟨v12, v13⟩ := z
  replace h : slices_stableCmpFunc_eRef_L14 φ v3 y4 (n14 + 1) v12 v13 = some r := h
  rw [slices_stableCmpFunc_eRef_L14] at h
  refine cs (cs (cr [0, 1, 2] rfl (q1 rfl (opMove (mv rfl)) (q1 rfl (opMove (mv rfl)) (q1 rfl (opLss (mv rfl) (mv rfl)) (rn (al [0, 1, 2, 6, 30] [0] rfl rfl rfl (sq ?_))))))))
  refine cI h rfl (fun c15 h => ?_) (fun c15 h => ?_)
  ·
   refine CodeT.skip (al [0, 1, 2, 6] [0] rfl rfl rfl (sq (CodeT.block (cs (cr [0, 1, 2, 3] rfl (q1 rfl (opMove (mv rfl)) (q1 rfl (opMul ct (mv rfl)) (q1 rfl (opAssign ct) (q1 rfl (opAssign (mv rfl)) (rn (al [0, 1, 2, 6, 7, 8] [0] rfl rfl rfl ?_)))))))))))
   refine sq (cs ?_)
   refine CodeT.join (fun z : Int × (List Ref) => (slices_stableCmpFunc_eRef_j18 φ v3 y4 v12 (slices_stableCmpFunc_eRef_L14 φ v3 y4 n14)) z.1 z.2) r (fun z => ⟨Slots.of [(0, (eqv sv2)), (1, (iv .i64 v3)), (2, (fcmp P (fun x => (agg (eRef x))) y4)), (6, (iv .i64 v12)), (7, (iv .i64 z.1))], [(row 43 eRef 2 z.2 sv2)]⟩) (fun z h => ?_) (fun hJ18 => ?_)
   ·
    obtain ⟨v16, v17⟩ := z
    replace h : (slices_stableCmpFunc_eRef_j18 φ v3 y4 v12 (slices_stableCmpFunc_eRef_L14 φ v3 y4 n14)) v16 v17 = some r := h
    unfold slices_stableCmpFunc_eRef_j18 at h
    refine al [0, 1, 2, 6, 7] [0] rfl rfl rfl (sq (cs (cs (cr [0, 1, 2, 3] rfl (q1 rfl (opMove (mv rfl)) (q1 rfl (opMove (mv rfl)) (q1 rfl (opAdd (mv rfl) (mv rfl)) (q1 rfl (opAssign (mv rfl)) (rn (al [0, 1, 2, 6, 7, 9] [0] rfl rfl rfl (sq ?_)))))))))))
    refine cs (cr [0, 1, 2] rfl (q1 rfl (opMove (mv rfl)) (q1 rfl (opMove (mv rfl)) (q1 rfl (opLss (mv rfl) (mv rfl)) (rn (al [0, 1, 2, 6, 7, 9, 54] [0] rfl rfl rfl (sq ?_)))))))
    refine CodeT.join (fun z : (List Ref) => (slices_stableCmpFunc_eRef_j20 φ v12 (slices_stableCmpFunc_eRef_L14 φ v3 y4 n14)) z) r (fun z => ⟨Slots.of [(0, (eqv sv2)), (1, (iv .i64 v3)), (2, (fcmp P (fun x => (agg (eRef x))) y4)), (6, (iv .i64 v12))], [(row 43 eRef 2 z sv2)]⟩) (fun v19 h => ?_) (fun hJ20 => ?_)
    ·
     replace h : (slices_stableCmpFunc_eRef_j20 φ v12 (slices_stableCmpFunc_eRef_L14 φ v3 y4 n14)) v19 = some r := h
     unfold slices_stableCmpFunc_eRef_j20 at h
     refine al [0, 1, 2, 6] [0] rfl rfl rfl (sq (cr [0, 1, 2] rfl (q1 rfl (opMove (mv rfl)) (q1 rfl (opMul (mv rfl) ct) (q1 rfl (opAssign (mv rfl)) (rn (AtX.in_normal ?_)))))))
     exact AtX.to (ih14 ((W (v12 * 2)), v19) h) [0] (sl rfl) (ol rfl) rfl
    ·
     refine cI h rfl (fun c21 h => ?_) (fun c21 h => ?_)
     ·
      refine cr [0, 1, 2, 3, 4, 5] rfl (q1 rfl (opMove (mv rfl)) (q1 rfl (opMove (mv rfl)) (q1 rfl (opMove (mv rfl)) (q1 rfl (opMove (mv rfl)) (q1 rfl (opMove (mv rfl)) (bindE h fun y22 ey22 h => n1 rfl (opCallM 0 rfl (fun x => (fRef x).mem) (fnok81 H) (args := [(eqv sv2), (iv .i64 v16), (iv .i64 (W (v16 + v12))), (iv .i64 v3), (fcmp P (fun x => (agg (eRef x))) y4)]) ⟨(mv rfl), (mv rfl), (mv rfl), (mv rfl), (mv rfl), trivial⟩ (slices_symMergeCmpFunc_eRef_ok H φ v17 v16 (W (v16 + v12)) v3 y4 sv2 _ ey22) fun x23 nw24 hk25 => ?_)))))))
      obtain ⟨rfl, rfl⟩ := hk25
      refine ⟨flat_eqv, ?_⟩
      refine rn ?_
      exact AtX.to (hJ20 y22 h) [0] (sl rfl) (ol rfl) rfl
     ·
      refine CodeT.skip ?_
      exact AtX.to (hJ20 v17 h) [0] (sl rfl) (ol rfl) rfl
   ·
    refine CodeT.block ?_
    refine CodeT.to (CodeT.loop (fun n (z : Int × Int × (List Ref)) => slices_stableCmpFunc_eRef_L29 φ v3 y4 v12 (slices_stableCmpFunc_eRef_j18 φ v3 y4 v12 (slices_stableCmpFunc_eRef_L14 φ v3 y4 n14)) n z.1 z.2.1 z.2.2) r (fun z => ⟨Slots.of [(0, (eqv sv2)), (1, (iv .i64 v3)), (2, (fcmp P (fun x => (agg (eRef x))) y4)), (6, (iv .i64 v12)), (7, (iv .i64 z.1)), (8, (iv .i64 z.2.1))], [(row 43 eRef 2 z.2.2 sv2)]⟩) (fun z => rfl) (fun n29 z ih29 h => ?_) φ (0, (W (2 * v12)), v13) h) [0] (sl rfl) (ol rfl) rfl
    obtain ⟨v26, v27, v28⟩ := z
    replace h : slices_stableCmpFunc_eRef_L29 φ v3 y4 v12 (slices_stableCmpFunc_eRef_j18 φ v3 y4 v12 (slices_stableCmpFunc_eRef_L14 φ v3 y4 n14)) (n29 + 1) v26 v27 v28 = some r := h
    rw [slices_stableCmpFunc_eRef_L29] at h
    refine cs (cs (cr [0, 1, 2] rfl (q1 rfl (opMove (mv rfl)) (q1 rfl (opMove (mv rfl)) (q1 rfl (opLeq (mv rfl) (mv rfl)) (rn (al [0, 1, 2, 6, 7, 8, 35] [0] rfl rfl rfl (sq ?_))))))))
    refine cI h rfl (fun c30 h => ?_) (fun c30 h => ?_)
    ·
     refine CodeT.skip (al [0, 1, 2, 6, 7, 8] [0] rfl rfl rfl (sq (CodeT.block (cs (cr [0, 1, 2, 3, 4, 5, 6, 7] rfl (q1 rfl (opMove (mv rfl)) (q1 rfl (opMove (mv rfl)) (q1 rfl (opMove (mv rfl)) (q1 rfl (opMove (mv rfl)) (q1 rfl (opAdd (mv rfl) (mv rfl)) (q1 rfl (opMove (mv rfl)) ?_)))))))))))
     refine q1 rfl (opMove (mv rfl)) (bindE h fun y31 ey31 h => n1 rfl (opCallM 0 rfl (fun x => (fRef x).mem) (fnok81 H) (args := [(eqv sv2), (iv .i64 v26), (iv .i64 (W (v26 + v12))), (iv .i64 v27), (fcmp P (fun x => (agg (eRef x))) y4)]) ⟨(mv rfl), (mv rfl), (mv rfl), (mv rfl), (mv rfl), trivial⟩ (slices_symMergeCmpFunc_eRef_ok H φ v28 v26 (W (v26 + v12)) v27 y4 sv2 _ ey31) fun x32 nw33 hk34 => ?_))
     obtain ⟨rfl, rfl⟩ := hk34
     refine ⟨flat_eqv, ?_⟩
     refine rn (al [0, 1, 2, 6, 8] [0] rfl rfl rfl (sq (cs (cr [0, 1] rfl (q1 rfl (opMove (mv rfl)) (q1 rfl (opAssign (mv rfl)) (rn (al [0, 1, 2, 6, 7, 8] [0] rfl rfl rfl (sq (cr [0, 1, 2, 3, 4] rfl (q1 rfl (opMove (mv rfl)) ?_)))))))))))
     refine q1 rfl (opMove (mv rfl)) (q1 rfl (opMul ct (mv rfl)) (q1 rfl (opAdd (mv rfl) (mv rfl)) (q1 rfl (opAssign (mv rfl)) (rn (AtX.in_normal ?_)))))
     exact AtX.to (ih29 (v27, (W (v27 + (W (2 * v12)))), y31) h) [0] (sl rfl) (ol rfl) rfl
    ·
     refine CodeT.exit (AtX.then_exit (AtX.then_exit (AtX.in_hit ?_)))
     exact AtX.to (hJ18 (v26, v28) h) [0] (sl rfl) (ol rfl) rfl
  ·
   refine CodeT.exit (AtX.then_exit (AtX.then_exit (AtX.in_hit (AtX.fall' (eqv (.tuple #[])) (ResOK.zero Try.results63) [0] [(row 43 eRef 2 v13 sv2)] (ol rfl) rfl ?_))))
   obtain rfl := Option.some.inj h
   exact ⟨_, rfl, rfl, rfl⟩
 ·
  refine CodeT.block ?_
  refine CodeT.to (CodeT.loop (fun n (z : Int × Int × (List Ref)) => slices_stableCmpFunc_eRef_L38 φ v3 y4 (slices_stableCmpFunc_eRef_j7 φ v3 y4) n z.1 z.2.1 z.2.2) r (fun z => ⟨Slots.of [(0, (eqv sv2)), (1, (iv .i64 v3)), (2, (fcmp P (fun x => (agg (eRef x))) y4)), (6, (iv .i64 20)), (7, (iv .i64 z.1)), (8, (iv .i64 z.2.1))], [(row 43 eRef 2 z.2.2 sv2)]⟩) (fun z => rfl) (fun n38 z ih38 h => ?_) φ (0, 20, v1) h) [0] (sl rfl) (ol rfl) rfl
  obtain ⟨v35, v36, v37⟩ := z
  replace h : slices_stableCmpFunc_eRef_L38 φ v3 y4 (slices_stableCmpFunc_eRef_j7 φ v3 y4) (n38 + 1) v35 v36 v37 = some r := h
  rw [slices_stableCmpFunc_eRef_L38] at h
  refine cs (cs (cr [0, 1, 2] rfl (q1 rfl (opMove (mv rfl)) (q1 rfl (opMove (mv rfl)) (q1 rfl (opLeq (mv rfl) (mv rfl)) (rn (al [0, 1, 2, 6, 7, 8, 13] [0] rfl rfl rfl (sq ?_))))))))
  refine cI h rfl (fun c39 h => ?_) (fun c39 h => ?_)
  ·
   refine CodeT.skip (al [0, 1, 2, 6, 7, 8] [0] rfl rfl rfl (sq (CodeT.block (cs (cr [0, 1, 2, 3, 4] rfl (q1 rfl (opMove (mv rfl)) (q1 rfl (opMove (mv rfl)) (q1 rfl (opMove (mv rfl)) (q1 rfl (opMove (mv rfl)) (bindE h fun y40 ey40 h => n1 rfl (opCallM 0 rfl (fun x => (fRef x).mem) (fnok80 H) (args := [(eqv sv2), (iv .i64 v35), (iv .i64 v36), (fcmp P (fun x => (agg (eRef x))) y4)]) ⟨(mv rfl), (mv rfl), (mv rfl), (mv rfl), trivial⟩ (slices_insertionSortCmpFunc_eRef_ok H φ v37 v35 v36 y4 sv2 _ ey40) fun x41 nw42 hk43 => ?_)))))))))))
   obtain ⟨rfl, rfl⟩ := hk43
   refine ⟨flat_eqv, ?_⟩
   refine rn (al [0, 1, 2, 6, 8] [0] rfl rfl rfl (sq (cs (cr [0, 1] rfl (q1 rfl (opMove (mv rfl)) (q1 rfl (opAssign (mv rfl)) (rn (al [0, 1, 2, 6, 7, 8] [0] rfl rfl rfl (sq (cr [0, 1, 2, 3] rfl (q1 rfl (opMove (mv rfl)) ?_)))))))))))
   refine q1 rfl (opMove (mv rfl)) (q1 rfl (opAdd (mv rfl) (mv rfl)) (q1 rfl (opAssign (mv rfl)) (rn (AtX.in_normal ?_))))
   exact AtX.to (ih38 (v36, (W (v36 + 20)), y40) h) [0] (sl rfl) (ol rfl) rfl
  ·
   refine CodeT.exit (AtX.then_exit (AtX.then_exit (AtX.in_hit ?_)))
   exact AtX.to (hJ7 (v35, v37) h) [0] (sl rfl) (ol rfl) rfl
theorem slices_SortStableFunc_eRef_ok {P : Program} (H : P = Try.prog) (φ : Nat) (v1 : (List Ref)) (y3 : (Ref → Ref → Option Int)) (sv2 : Value) (r : (List Ref)) (h : slices_SortStableFunc_eRef φ v1 y3 = some r) : MutT P 40 [(eqv sv2), (fcmp P (fun x => (agg (eRef x))) y3)] 43 eRef 2 v1 sv2 (fun x l' => x = eqv (.tuple #[]) ∧ r = l') := by
 unfold slices_SortStableFunc_eRef at h
 refine MutT.of_code 9 (fn40 H) rfl rfl (Nat.le_of_ble_eq_true rfl) fun w0 base r0 wI => ?_
 refine cl [0, 1] [0] rfl rfl rfl (cr [0, 1, 2, 3, 4] rfl (q1 rfl (opMove (mv rfl)) (q1 rfl (opMove (mv rfl)) (q1 rfl (opLenO 0 (il55 H) (mv rfl) rfl) (q1 rfl (opMove (mv rfl)) (bindE h fun y4 ey4 h => n1 rfl (opCallM 0 rfl (fun x => (fRef x).mem) (fnok63 H) (args := [(eqv sv2), (iv .i64 (v1.length : Int)), (fcmp P (fun x => (agg (eRef x))) y3)]) ⟨(mv rfl), (mv rfl), (mv rfl), trivial⟩ (slices_stableCmpFunc_eRef_ok H φ v1 (v1.length : Int) y3 sv2 _ ey4) fun x5 nw6 hk7 => ?_)))))))
 obtain ⟨rfl, rfl⟩ := hk7
 refine ⟨flat_eqv, ?_⟩
 refine rn (AtX.fall' (eqv (.tuple #[])) (ResOK.zero Try.results40) [0] [(row 43 eRef 2 y4 sv2)] (ol rfl) rfl ?_)
 obtain rfl := Option.some.inj h
 exact ⟨_, rfl, rfl, rfl⟩
theorem handover_Unmatched_ok {P : Program} (H : P = Try.prog) (φ : Nat) (v1 : Pool) (v2 : (List Report)) (r : ((List Ref))) (h : handover_Unmatched φ v1 v2 = some r) : PureT P 14 [(agg (ePool v1)), (ro eReport 21 v2)] (K_handover_Unmatched r) := by
 unfold handover_Unmatched at h
 refine PureT.of_code' 59 (fn14 H) rfl rfl (Nat.le_of_ble_eq_true rfl) fun w0 base r0 wI => ?_
 refine cl [0, 1] [] rfl rfl rfl (cs (CodeT.addNil 43 eRef 2 (cr [0, 1] rfl (n1 rfl (opBox (Ce.agg (mv rfl)) fun b3 => q1 rfl (opAssign ct) (rn (al [1, 2] [1] rfl rfl rfl (sq (cs (cs (cr [0, 1, 2] rfl ?_)))))))))))
 refine q1 rfl (ln (tl36 H) ((Pt.box 0 (mv rfl) rfl rfl).take 9 (cs' := (ePool v1)) rfl) rfl) (bindE h fun y4 ey4 h => q1 rfl (oQ (fnok37 H) (fleet_CheckPool_ok H φ v1 _ ey4) flat_eqv ⟨ef (mv rfl), trivial⟩) (q1 rfl (opNeq (mv rfl) ct) (rn (al [1, 2, 13] [0] rfl rfl rfl (sq ?_)))))
 refine cI h rfl (fun c5 h => ?_) (fun c5 h => ?_)
 ·
  refine cs (CodeT.addNil 43 eRef 2 (cr [0] rfl (q1 rfl (opAssign ct) (rn (al [4] [1] rfl rfl rfl (sq (CodeT.ret (AtX.then_ret (AtX.ret' (eqv (Value.slice none 0 0)) (ResOK.one Try.results14 rfl) [0] [(row 43 eRef 2 ([] : List Ref) (Value.slice none 0 0))] (ol rfl) rfl ?_)))))))))
  obtain rfl := Option.some.inj h
  exact ⟨(Value.slice none 0 0), rfl, rfl⟩
 ·
  refine CodeT.skip (al [1, 2] [0] rfl rfl rfl (sq (cs (cr [0, 1] rfl (n1 rfl (opMakeMap (eK := (Value.int .i64)) (eV := Value.bool) fun b6 => q1 rfl (opAssign (mv rfl)) (rn (al [1, 2, 5] [0, 1] rfl rfl rfl (sq (cs (cs ?_)))))))))))
  refine cr [0, 1, 2, 3, 4] rfl (q1 rfl (ln (tl36 H) ((Pt.box 0 (mv rfl) rfl rfl).take 9 (cs' := (ePool v1)) rfl) rfl) (q1 rfl (opMove (mv rfl)) (bindE h fun y7 ey7 h => n1 rfl (oF (fnok31 H) (handover_pairs_ok H φ v1 v2 _ ey7) ⟨ef (mv rfl), ef (mv rfl), trivial⟩ fun x10 nw11 hk9 => ?_))))
  obtain ⟨sv8, rfl, rfl⟩ := hk9
  refine ⟨flat_eqv, allFlatH ⟨flat_row' fA2I64, trivial⟩, ?_⟩
  refine q1 rfl (opLenO 2 (il87 H) (mv rfl) rfl) (q1 rfl (opMove ct) (rn (al [1, 2, 5, 17, 18, 19] [0, 1, 2] rfl rfl rfl (sq ?_))))
  refine CodeT.join (fun z : (List (Int × Bool)) => (handover_Unmatched_j13 φ v1 v2) z) r (fun z => ⟨Slots.of [(1, (ro eReport 21 v2)), (2, (eqv (.pointer (some ⟨b3, 0, none⟩)))), (5, (eqv (.map (some b6))))], [(box b3 36 (ePool v1)), (mapo b6 (Value.int .i64) Value.bool z)]⟩) (fun v12 h => ?_) (fun hJ13 => ?_)
  ·
   replace h : (handover_Unmatched_j13 φ v1 v2) v12 = some r := h
   unfold handover_Unmatched_j13 at h
   refine al [1, 2, 5] [0, 1] rfl rfl rfl (sq (cs (CodeT.addNil 43 eRef 2 (cr [0] rfl (q1 rfl (opAssign ct) (rn (al [1, 2, 5, 8] [0, 1, 2] rfl rfl rfl (sq (cs (cs (bindE h fun y15 ey15 h => ?_)))))))))))
   refine CodeT.draw (QR := [(0, _), (1, _), (3, _), (4, _), (9, _)]) (tab := [(some 30, []), (some 31, []), (some 32, [0, 1]), (some 33, []), (some 34, []), (some 35, [3, 4, 2]), (some 36, [2, 5]), (some 37, [6, 5]), (some 38, [7]), (some 39, [])]) (mixed H) (Reg.intro [2] [] (by kernel_rfl) rfl (an rfl) ⟨(qr rfl (ln (tl36 H) ((Pt.box 0 (mv rfl) rfl rfl).take 9 (cs' := (ePool v1)) rfl) rfl)), (qr rfl (opMove (mv rfl))), (qr rfl (ln (tl36 H) ((Pt.box 0 (mv rfl) rfl rfl).take 9 (cs' := (ePool v1)) rfl) rfl)), (qr rfl (opMove (mv rfl))), (qr rfl (opMove ct)), trivial⟩ ⟨⟨_, rfl, rfl, rfl, rfl, oF (fnok39 H) (handover_of_ok H φ v1 v2 3 _ ey15) ⟨ef (mv rfl), ef (mv rfl), ef ct, trivial⟩ fun x18 nw19 hk17 => ?_⟩, trivial⟩ ft)
   obtain ⟨sv16, rfl, rfl⟩ := hk17
   refine ⟨flat_eqv, allFlatH ⟨flat_row' flat1eI64, trivial⟩, ⟨[], rfl, ?_⟩⟩
   refine bindE h fun y21 ey21 h => Reg.intro [5] [0, 1] (by kernel_rfl) rfl (an rfl) ⟨nf, nf, (qr rfl (ln (tl36 H) ((Pt.box 0 (mv rfl) rfl rfl).take 9 (cs' := (ePool v1)) rfl) rfl)), (qr rfl (opMove (mv rfl))), (qr rfl (opMove ct)), trivial⟩ ⟨⟨_, rfl, rfl, rfl, rfl, oF (fnok39 H) (handover_of_ok H φ v1 v2 4 _ ey21) ⟨ef (mv rfl), ef (mv rfl), ef ct, trivial⟩ fun x24 nw25 hk23 => ?_⟩, trivial⟩ ft
   obtain ⟨sv22, rfl, rfl⟩ := hk23
   refine ⟨flat_eqv, allFlatH ⟨flat_row' flat1eI64, trivial⟩, ⟨[], rfl, ?_⟩⟩
   refine Reg.freeze 3 [(32, (ro eI64 1 y15))] [(box b3 36 (ePool v1)), (mapo b6 (Value.int .i64) Value.bool v12), (row 43 eRef 2 ([] : List Ref) (Value.slice none 0 0)), emp, (row 3 eI64 1 y21 sv22)] rfl lI64 ⟨⟨_, rfl, FzV.here⟩, trivial⟩ ⟨FzH.refl, FzH.refl, FzH.refl, FzH.emp, FzH.refl, trivial⟩ (Reg.freeze 4 [(35, (ro eI64 1 y21))] [(box b3 36 (ePool v1)), (mapo b6 (Value.int .i64) Value.bool v12), (row 43 eRef 2 ([] : List Ref) (Value.slice none 0 0)), emp, emp] rfl lI64 ⟨⟨_, rfl, FzV.here⟩, trivial⟩ ⟨FzH.refl, FzH.refl, FzH.refl, FzH.refl, FzH.emp, trivial⟩ (Reg.intro [6] [0, 1, 3, 4] (by kernel_rfl) rfl (an rfl) ⟨nf, nf, nf, nf, (qr rfl (opMove ct)), trivial⟩ ⟨⟨_, rfl, rfl, rfl, rfl, opBuildSlice (e := eL_eI64) [y15, y21] (sl125 H) lL_eI64 rfl (by decide) ⟨rfl, (Ce.one (mv rfl) One.ro), ⟨rfl, (Ce.one (mv rfl) One.ro), trivial⟩⟩ fun sv28 => ⟨[], rfl, ?_⟩⟩, trivial⟩ ft))
   refine bindE h fun y30 ey30 h => Reg.intro [7] [0, 1, 3, 4] (by kernel_rfl) rfl (an rfl) ⟨nf, nf, nf, nf, (qr rfl (opMove ct)), trivial⟩ ⟨⟨_, rfl, rfl, rfl, rfl, oF (fnok38 H) (slices_Concat_ok H φ [y15, y21] _ ey30) ⟨EvF.of (mv rfl) (FEnt.row 5 lL_eI64 rfl), trivial⟩ fun x33 nw34 hk32 => ?_⟩, trivial⟩ ft
   obtain ⟨sv31, rfl, rfl⟩ := hk32
   refine ⟨flat_eqv, allFlatH ⟨flat_row' flat1eI64, trivial⟩, ⟨[(8, (iv .i64 (y30.length : Int)))], rfl, ?_⟩⟩
   refine Reg.intro [] [0, 1, 3, 4] (by kernel_rfl) rfl (an rfl) ⟨nf, nf, nf, nf, (qr rfl (opMove ct)), (qr rfl (opLenO 6 (il96 H) (mv rfl) rfl)), trivial⟩ trivial (fun _ => al [1, 5, 8, 37, 38, 39] [1, 2, 6] rfl rfl rfl (sq ?_))
   refine CodeT.join (fun z : (List Ref) × Value => (handover_Unmatched_j37 φ) z.1) r (fun z => ⟨Slots.of [(8, (eqv z.2))], [(row 43 eRef 2 z.1 z.2)]⟩) (fun z h => ?_) (fun hJ37 => ?_)
   ·
    obtain ⟨v35, sv36⟩ := z
    replace h : (handover_Unmatched_j37 φ) v35 = some r := h
    unfold handover_Unmatched_j37 at h
    refine al [8] [0] rfl rfl rfl (sq (cs (cr [0, 1] rfl (q1 rfl (opMove (mv rfl)) (bindE h fun y38 ey38 h => n1 rfl (opCallM 0 rfl (fun x => (fRef x).mem) (fnok40 H) (args := [(eqv sv36), (fcmp P (fun x => (agg (eRef x))) (fun a b => handover_byRef φ a b))]) ⟨(mv rfl), (Ev.ent (Ev.ent (Ev.func _) fnc_eqv) (fcmp_of_fnc (fnok36 H) (fun a b cc hc => handover_byRef_ok H φ a b cc hc))), trivial⟩ (slices_SortStableFunc_eRef_ok H φ v35 (fun a b => handover_byRef φ a b) sv36 _ ey38) fun x39 nw40 hk41 => ?_))))))
    obtain ⟨rfl, rfl⟩ := hk41
    refine ⟨flat_eqv, ?_⟩
    refine rn (al [8] [0] rfl rfl rfl (sq (cs (cr [0, 1] rfl (q1 rfl (opMove (mv rfl)) (q1 rfl (opAssign (mv rfl)) (rn (al [4] [0] rfl rfl rfl (sq (CodeT.ret (AtX.ret' (eqv sv36) (ResOK.one Try.results14 rfl) [0] [(row 43 eRef 2 y38 sv36)] (ol rfl) rfl ?_)))))))))))
    obtain rfl := Option.some.inj h
    exact ⟨sv36, rfl, rfl⟩
   ·
    refine CodeT.block ?_
    refine CodeT.to (CodeT.loop (fun n (z : Int × (List Ref) × Value) => handover_Unmatched_L45 φ v2 v12 y30 (handover_Unmatched_j37 φ) n z.1 z.2.1) r (fun z => ⟨Slots.of [(1, (ro eReport 21 v2)), (5, (eqv (.map (some b6)))), (8, (eqv z.2.2)), (37, (eqv sv31)), (38, (iv .i64 (y30.length : Int))), (39, (iv .i64 z.1))], [(mapo b6 (Value.int .i64) Value.bool v12), (row 43 eRef 2 z.2.1 z.2.2), (row 3 eI64 1 y30 sv31)]⟩) (fun z => rfl) (fun n45 z ih45 h => ?_) φ (0, ([] : List Ref), (Value.slice none 0 0)) h) [0, 1, 2] (sl rfl) (ol rfl) rfl
    obtain ⟨v42, v43, sv44⟩ := z
    replace h : handover_Unmatched_L45 φ v2 v12 y30 (handover_Unmatched_j37 φ) (n45 + 1) v42 v43 = some r := h
    rw [handover_Unmatched_L45] at h
    refine cs (cr [0] rfl (q1 rfl (opLss (mv rfl) (mv rfl)) (rn (al [1, 5, 8, 37, 38, 39, 40] [0, 1, 2] rfl rfl rfl (sq (cs ?_))))))
    refine cI h rfl (fun c46 h => ?_) (fun c46 h => ?_)
    ·
     refine CodeT.skip (al [1, 5, 8, 37, 38, 39] [0, 1, 2] rfl rfl rfl (sq (cs (CodeT.block (cs (cr [0, 1, 2] rfl (ckE h fun h47 h => q1 rfl (opIndexO 2 (ix96 H) (mv rfl) rfl (mv rfl) (h47).1 (h47).2) (q1 rfl (opLoad1 (tl3 H) ((Pt.row _ 2 (k := (v42 : Int).toNat) (fo := 0) lI64 (mv rfl) rfl (by omega) (gt_some h47) rfl).take 1 (cs' := [(iv .i64 (gt y30 v42))]) rfl)) (q1 rfl (opAssign (mv rfl)) (rn ?_))))))))))
     refine al [1, 5, 8, 10, 37, 38, 39] [0, 1, 2] rfl rfl rfl (sq (cs (cr [0, 1, 2, 3] rfl (q1 rfl (opMove (mv rfl)) (q1 rfl (opMove (mv rfl)) (q1 rfl (opLookup (eK := (Value.int .i64)) (eV := Value.bool) (d := false) 0 (keyI (un3 H)) (um95 H) (tz4 H) rfl (mv rfl) (mv rfl)) (q1 rfl (opNot (mv rfl)) (rn (al [1, 5, 8, 10, 37, 38, 39, 46] [0, 1, 2] rfl rfl rfl (sq ?_))))))))))
     refine CodeT.join (fun z : (List Ref) × Value => (handover_Unmatched_j50 φ v42 (handover_Unmatched_L45 φ v2 v12 y30 (handover_Unmatched_j37 φ) n45)) z.1) r (fun z => ⟨Slots.of [(1, (ro eReport 21 v2)), (5, (eqv (.map (some b6)))), (8, (eqv z.2)), (37, (eqv sv31)), (38, (iv .i64 (y30.length : Int))), (39, (iv .i64 v42))], [(mapo b6 (Value.int .i64) Value.bool v12), (row 43 eRef 2 z.1 z.2), (row 3 eI64 1 y30 sv31)]⟩) (fun z h => ?_) (fun hJ50 => ?_)
     ·
      obtain ⟨v48, sv49⟩ := z
      replace h : (handover_Unmatched_j50 φ v42 (handover_Unmatched_L45 φ v2 v12 y30 (handover_Unmatched_j37 φ) n45)) v48 = some r := h
      unfold handover_Unmatched_j50 at h
      refine AtX.in_normal (al [1, 5, 8, 37, 38, 39] [0, 1, 2] rfl rfl rfl (sq (cr [0, 1] rfl (q1 rfl (opAdd (mv rfl) ct) (q1 rfl (opMove (mv rfl)) (rn ?_))))))
      exact AtX.to (ih45 ((W (v42 + 1)), v48, sv49) h) [0, 1, 2] (sl rfl) (ol rfl) rfl
     ·
      refine cI h rfl (fun c51 h => ?_) (fun c51 h => ?_)
      ·
       refine cr [0, 1, 2, 3, 4, 5, 6, 7, 8] rfl (q1 rfl (opMove (mv rfl)) (q1 rfl (opMove (mv rfl)) (q1 rfl (opMove (mv rfl)) (ckE h fun h52 h => q1 rfl (opIndexR (ix37 H) (mv rfl) (mv rfl) (h52).1 (gt_some h52)) (q1 rfl (opFieldRT (fo48_0 H) (mv rfl) (cs' := (eRef (gt v2 (gt y30 v42)).fRef)) 2 rfl) (q1 rfl (ln (tl43 H) (Pt.rop (mv rfl)) rfl) (n1 rfl (opBuildSlice (e := eRef) [(gt v2 (gt y30 v42)).fRef] (sl55 H) lRef rfl (by decide) ⟨rfl, (Ce.agg (mv rfl)), trivial⟩ fun sv53 => ckE h fun h54 h => n1 rfl (opAppend 1 (l := v43) (m := [(gt v2 (gt y30 v42)).fRef]) (sl55 H) lRef (mv rfl) rfl (Src.row 3 (mv rfl) rfl) h54 (fits_max (by decide) h54) fun sv55 => q1 rfl (opAssign (mv rfl)) ?_)))))))))
       refine rn ?_
       exact AtX.to (hJ50 ((v43 ++ [(gt v2 (gt y30 v42)).fRef]), sv55) h) [0, 1, 2] (sl rfl) (ol rfl) rfl
      ·
       refine CodeT.skip ?_
       exact AtX.to (hJ50 (v43, sv44) h) [0, 1, 2] (sl rfl) (ol rfl) rfl
    ·
     refine CodeT.exit (AtX.then_exit (AtX.then_exit (AtX.in_hit ?_)))
     exact AtX.to (hJ37 (v43, sv44) h) [1] (sl rfl) (ol rfl) rfl
  ·
   refine CodeT.block ?_
   refine CodeT.to (CodeT.loop (fun n (z : Int × (List (Int × Bool))) => handover_Unmatched_L58 φ y7 (handover_Unmatched_j13 φ v1 v2) n z.1 z.2) r (fun z => ⟨Slots.of [(1, (ro eReport 21 v2)), (2, (eqv (.pointer (some ⟨b3, 0, none⟩)))), (5, (eqv (.map (some b6)))), (17, (eqv sv8)), (18, (iv .i64 (y7.length : Int))), (19, (iv .i64 z.1))], [(box b3 36 (ePool v1)), (mapo b6 (Value.int .i64) Value.bool z.2), (row 89 eA2I64 2 y7 sv8)]⟩) (fun z => rfl) (fun n58 z ih58 h => ?_) φ (0, ([] : List (Int × Bool))) h) [0, 1, 2] (sl rfl) (ol rfl) rfl
   obtain ⟨v56, v57⟩ := z
   replace h : handover_Unmatched_L58 φ y7 (handover_Unmatched_j13 φ v1 v2) (n58 + 1) v56 v57 = some r := h
   rw [handover_Unmatched_L58] at h
   refine cs (cr [0] rfl (q1 rfl (opLss (mv rfl) (mv rfl)) (rn (al [1, 2, 5, 17, 18, 19, 20] [0, 1, 2] rfl rfl rfl (sq (cs ?_))))))
   refine cI h rfl (fun c59 h => ?_) (fun c59 h => ?_)
   ·
    refine CodeT.skip (al [1, 2, 5, 17, 18, 19] [0, 1, 2] rfl rfl rfl (sq ?_))
    refine CodeT.seq ?_
    refine CodeT.block ?_
    refine CodeT.seq ?_
    refine CodeT.region' [0, 1, 2, 3] rfl ?_
    refine ckE h fun h60 h => RunOps.cons_q (rowp sv8 ((v56 : Int).toNat * 2)) rfl rfl rfl (opIndexO 2 (ix87 H) (mv rfl) rfl (mv rfl) (h60).1 (h60).2) (RunOps.cons_q (agg (eA2I64 (gt y7 v56))) rfl rfl rfl (opLoadN' (tl89 H) (by simp [arr_len lI64, eA2I64]) ((Pt.row _ 2 (k := (v56 : Int).toNat) (fo := 0) lA2I64 (mv rfl) rfl (by omega) (gt_some h60) rfl).take 2 (cs' := (eA2I64 (gt y7 v56))) rfl)) (RunOps.cons rfl rfl rfl (opAllocA (e := eI64) 0 [.int .i64 0] (za89 H) rfl rfl fun b61 => RunOps.cons rfl rfl rfl (opStore 3 (cells := ([] ++ arr 2 eI64 (fun _ => 0) ++ [])) (cs := (eA2I64 (gt y7 v56))) (out := ([] ++ arr 2 eI64 (gt y7 v56) ++ [])) (tl89 H) (Ev.tmp rfl) (Ce.agg (Ev.tmp rfl)) rfl rfl (Nat.le_of_ble_eq_true rfl) rfl (RunOps.nil (AtX.le' [(1, (ro eReport 21 v2)), (2, (eqv (.pointer (some ⟨b3, 0, none⟩)))), (5, (eqv (.map (some b6)))), (7, (eqv (.pointer (some ⟨b61, 0, none⟩)))), (17, (eqv sv8)), (18, (iv .i64 (y7.length : Int))), (19, (iv .i64 v56))] [0, 1, 2, 3] [(box b3 36 (ePool v1)), (mapo b6 (Value.int .i64) Value.bool v57), (row 89 eA2I64 2 y7 sv8), (box b61 89 ([] ++ arr 2 eI64 (gt y7 v56) ++ []))] ⟨⟨_, rfl, Ent.refl⟩, ⟨_, rfl, Ent.refl⟩, ⟨_, rfl, Ent.refl⟩, ⟨_, rfl, Ent.refl⟩, ⟨_, rfl, Ent.refl⟩, ⟨_, rfl, Ent.refl⟩, ⟨_, rfl, Ent.refl⟩, trivial⟩ ⟨⟨_, rfl, EntH.refl⟩, ⟨_, rfl, EntH.refl⟩, ⟨_, rfl, EntH.refl⟩, ⟨_, rfl, EntH.refl⟩, trivial⟩ rfl (AtX.seq (CodeT.draw (QR := [(0, (eqv (.map (some b6)))), (1, (eqv (.pointer (some ⟨b61, 0, none⟩)))), (2, (iv .i64 ((gt y7 v56) 0))), (3, (eqv (.map (some b6)))), (4, (eqv (.pointer (some ⟨b61, 1, none⟩)))), (5, (iv .i64 ((gt y7 v56) 1)))]) (tab := [(some 23, []), (some 24, []), (some 25, [1]), (some 26, []), (some 27, []), (some 28, [4]), (none, [0, 2, 0, 1, 2]), (none, [3, 5, 6, 0, 1, 2, 3, 4, 5, 6])]) (mixed H) (Reg.intro [6] [] (by kernel_rfl) rfl ⟨rfl, rfl, rfl, rfl, rfl, rfl, trivial⟩ ⟨(fun _ => ⟨_, rfl, (opMove (Ev.tmp rfl))⟩), (fun _ => ⟨_, rfl, (opIndexA (ix89 H) (Ev.tmp rfl) (Ev.const _) (by decide) (by decide))⟩), (fun _ => ⟨_, rfl, (opLoad1 (tl3 H) (Pt.ofArr (e := eI64) 3 (k := 0) (Ev.tmp rfl) rfl lI64 rfl (by decide)))⟩), (fun _ => ⟨_, rfl, (opMove (Ev.tmp rfl))⟩), (fun _ => ⟨_, rfl, (opIndexA (ix89 H) (Ev.tmp rfl) (Ev.const _) (by decide) (by decide))⟩), (fun _ => ⟨_, rfl, (opLoad1 (tl3 H) (Pt.ofArr (e := eI64) 3 (k := 1) (Ev.tmp rfl) rfl lI64 rfl (by decide)))⟩), trivial⟩ ⟨⟨_, rfl, rfl, rfl, rfl, opMapUpdate (eK := (Value.int .i64)) (eV := Value.bool) (v := true) 1 (keyI (un3 H)) (um95 H) rfl (Ev.tmp rfl) (Ev.tmp rfl) (Ev.const _) ⟨[], rfl, ?_⟩⟩, trivial⟩ (fun hc => Bool.noConfusion (hc : false = true)))))))))))
    refine Reg.intro [7] [0, 1, 2] (by kernel_rfl) rfl (an rfl) ⟨nf, nf, nf, (qr rfl (opMove (mv rfl))), (qr rfl (opIndexA (ix89 H) (mv rfl) ct (by decide) (by decide))), (qr rfl (opLoad1 (tl3 H) (Pt.ofArr (e := eI64) 3 (k := 1) (mv rfl) rfl lI64 rfl (by decide)))), trivial⟩ ⟨⟨_, rfl, rfl, rfl, rfl, opMapUpdate (eK := (Value.int .i64)) (eV := Value.bool) (v := true) 1 (keyI (un3 H)) (um95 H) rfl (mv rfl) (mv rfl) ct ⟨[], rfl, ?_⟩⟩, trivial⟩ ft
    refine Reg.intro [] [0, 1, 2, 3, 4, 5] (by kernel_rfl) rfl (an rfl) ⟨nf, nf, nf, nf, nf, nf, trivial⟩ trivial (fun _ => AtX.in_normal (al [1, 2, 5, 17, 18, 19] [0, 1, 2] rfl rfl rfl (sq (cr [0, 1] rfl (q1 rfl (opAdd (mv rfl) ct) (q1 rfl (opMove (mv rfl)) (rn ?_)))))))
    exact AtX.to (ih58 ((W (v56 + 1)), (mset (mset v57 ((gt y7 v56) 0) true) ((gt y7 v56) 1) true)) h) [0, 1, 2] (sl rfl) (ol rfl) rfl
   ·
    refine CodeT.exit (AtX.then_exit (AtX.then_exit (AtX.in_hit ?_)))
    exact AtX.to (hJ13 v57 h) [0, 1] (sl rfl) (ol rfl) rfl
theorem ref27_SameRefs_ok {P : Program} (H : P = Try.prog) (φ : Nat) (v1 : (List Ref)) (v2 : (List Ref)) (r : (Bool)) (h : ref27_SameRefs φ v1 v2 = some r) : PureT P 17 [(ro eRef 2 v1), (ro eRef 2 v2)] (fun x news => x = (bv r) ∧ news = []) := by
 unfold ref27_SameRefs at h
 refine PureT.of_code' 26 (fn17 H) rfl rfl (Nat.le_of_ble_eq_true rfl) fun w0 base r0 wI => ?_
 refine cl [0, 1] [] rfl rfl rfl (cs (cr [0] rfl (q1 rfl (opAssign ct) (rn (al [0, 1] [] rfl rfl rfl (sq (cs (cs (cr [0, 1, 2, 3, 4] rfl (q1 rfl (opMove (mv rfl)) (q1 rfl (opLenR (il55 H) (mv rfl)) ?_)))))))))))
 refine q1 rfl (opMove (mv rfl)) (q1 rfl (opLenR (il55 H) (mv rfl)) (q1 rfl (opNeq (mv rfl) (mv rfl)) (rn (al [0, 1, 10] [] rfl rfl rfl (sq ?_)))))
 refine cI h rfl (fun c3 h => ?_) (fun c3 h => ?_)
 ·
  refine cs (cr [0] rfl (q1 rfl (opAssign ct) (rn (al [4] [] rfl rfl rfl (sq (CodeT.ret (AtX.then_ret (AtX.ret' (bv false) (ResOK.one Try.results17 rfl) [] [] trivial rfl ?_))))))))
  obtain rfl := Option.some.inj h
  exact ⟨rfl, rfl⟩
 ·
  refine CodeT.skip (al [0, 1] [] rfl rfl rfl (sq (cs (cs (cr [0] rfl (q1 rfl (opAssign ct) (rn (al [0, 1, 5] [] rfl rfl rfl (sq ?_)))))))))
  refine CodeT.join (fun z : Unit => (ref27_SameRefs_j4 φ)) r (fun z => ⟨Slots.of [], []⟩) (fun z h => ?_) (fun hJ4 => ?_)
  ·
   replace h : (ref27_SameRefs_j4 φ) = some r := h
   unfold ref27_SameRefs_j4 at h
   refine al [] [] rfl rfl rfl (sq (cs (cr [0] rfl (q1 rfl (opAssign ct) (rn (al [4] [] rfl rfl rfl (sq (CodeT.ret (AtX.ret' (bv true) (ResOK.one Try.results17 rfl) [] [] trivial rfl ?_)))))))))
   obtain rfl := Option.some.inj h
   exact ⟨rfl, rfl⟩
  ·
   refine CodeT.block ?_
   refine CodeT.to (CodeT.loop (fun n (z : Int) => ref27_SameRefs_L6 φ v1 v2 (ref27_SameRefs_j4 φ) n z) r (fun z => ⟨Slots.of [(0, (ro eRef 2 v1)), (1, (ro eRef 2 v2)), (5, (iv .i64 z))], []⟩) (fun z => rfl) (fun n6 v5 ih6 h => ?_) φ 0 h) [] (sl rfl) trivial rfl
   replace h : ref27_SameRefs_L6 φ v1 v2 (ref27_SameRefs_j4 φ) (n6 + 1) v5 = some r := h
   rw [ref27_SameRefs_L6] at h
   refine cs (cs (cr [0, 1, 2, 3] rfl (q1 rfl (opMove (mv rfl)) (q1 rfl (opMove (mv rfl)) (q1 rfl (opLenR (il55 H) (mv rfl)) (q1 rfl (opLss (mv rfl) (mv rfl)) (rn (al [0, 1, 5, 14] [] rfl rfl rfl (sq ?_)))))))))
   refine cI h rfl (fun c7 h => ?_) (fun c7 h => ?_)
   ·
    refine CodeT.skip (al [0, 1, 5] [] rfl rfl rfl (sq (cs (CodeT.block (cs (ckE h fun h8 h => ckE h fun h9 h => CodeT.draw (QR := [(0, _), (1, _), (2, _), (3, _), (4, _), (5, _), (6, _), (7, _), (8, _)]) (tab := [(some 17, []), (some 18, []), (some 19, [0, 1]), (some 20, [2]), (some 21, []), (some 22, []), (some 23, [4, 5]), (some 24, [6]), (some 25, [3, 7])]) (mixed H) (Reg.intro [] [] (by kernel_rfl) rfl (an rfl) ⟨(qr rfl (opMove (mv rfl))), (qr rfl (opMove (mv rfl))), (qr rfl (opIndexR (ix55 H) (mv rfl) (mv rfl) (h8).1 (gt_some h8))), (qr rfl (ln (tl43 H) (Pt.rop (mv rfl)) rfl)), (qr rfl (opMove (mv rfl))), (qr rfl (opMove (mv rfl))), (qr rfl (opIndexR (ix55 H) (mv rfl) (mv rfl) (h9).1 (gt_some h9))), (qr rfl (ln (tl43 H) (Pt.rop (mv rfl)) rfl)), (qr rfl (opNeS [(.int .i64 ((gt v1 v5).fRailway)), (.int .i64 ((gt v1 v5).fNo))] [(.int .i64 ((gt v2 v5).fRailway)), (.int .i64 ((gt v2 v5).fNo))] (mv rfl) (mv rfl) rfl rfl (eg43 H) (fun w => eqRefR H w (gt v1 v5) (gt v2 v5)))), trivial⟩ trivial (fun _ => al [0, 1, 5, 25] [] rfl rfl rfl (sq ?_)))))))))
    refine cI h rfl (fun c10 h => ?_) (fun c10 h => ?_)
    ·
     refine cs (cr [0] rfl (q1 rfl (opAssign ct) (rn (al [4] [] rfl rfl rfl (sq (CodeT.ret (AtX.in_ret (AtX.then_ret (AtX.then_ret (AtX.in_ret (AtX.then_ret ?_)))))))))))
     refine AtX.ret' (bv false) (ResOK.one Try.results17 rfl) [] [] trivial rfl ?_
     obtain rfl := Option.some.inj h
     exact ⟨rfl, rfl⟩
    ·
     refine CodeT.skip (AtX.in_normal (al [0, 1, 5] [] rfl rfl rfl (sq (cr [0, 1, 2] rfl (q1 rfl (opMove (mv rfl)) (q1 rfl (opAdd (mv rfl) ct) (q1 rfl (opAssign (mv rfl)) (rn ?_))))))))
     exact AtX.to (ih6 (W (v5 + 1)) h) [] (sl rfl) trivial rfl
   ·
    refine CodeT.exit (AtX.then_exit (AtX.then_exit (AtX.in_hit ?_)))
    exact AtX.to (hJ4 () h) [] trivial trivial rfl
theorem law27_sane_ok {P : Program} (H : P = Try.prog) (φ : Nat)  (r : (Bool)) (h : law27_sane φ  = some r) : PureT P 9 [] (fun x news => x = (bv r) ∧ news = []) := by
 unfold law27_sane at h
 refine PureT.of_code' 136 (fn9 H) rfl rfl (Nat.le_of_ble_eq_true rfl) fun w0 base r0 wI => ?_
 refine cl [] [] rfl rfl rfl (cs (cr [0] rfl (q1 rfl (opAssign ct) (rn (al [] [] rfl rfl rfl (sq (cs (cr [0, 1, 2] rfl (bindE h fun y1 ey1 h => n1 rfl (oP (fnok24 H) (law27_example_ok H φ  _ ey1) trivial fun x3 nw4 hk2 => ?_))))))))))
 obtain ⟨rfl, rfl⟩ := hk2
 refine n1 rfl (opAlloc _ (ze36 H) rfl fun b5 => n1 rfl (sto 0 (tl36 H) (mv rfl) (Ce.agg (mv rfl)) rfl rfl rfl rfl (rn (al [1] [0] rfl rfl rfl (sq (cs (cr [0, 1, 2, 3] rfl (bindE h fun y6 ey6 h => n1 rfl (oP (fnok25 H) (law27_deliver_ok H φ 1 100 1 _ ey6) ⟨ct, ct, ct, trivial⟩ fun x8 nw9 hk7 => ?_)))))))))
 obtain ⟨rfl, rfl⟩ := hk7
 refine bindE h fun y10 ey10 h => n1 rfl (oP (fnok26 H) (law27_receive_ok H φ 1 111 3 _ ey10) ⟨ct, ct, ct, trivial⟩ fun x12 nw13 hk11 => ?_)
 obtain ⟨rfl, rfl⟩ := hk11
 refine n1 rfl (opBuildSlice (e := eReport) [y6, y10] (sl37 H) lReport rfl (by decide) ⟨rfl, (Ce.agg (mv rfl)), ⟨rfl, (Ce.agg (mv rfl)), trivial⟩⟩ fun sv14 => q1 rfl (opAssign (mv rfl)) (rn (al [1, 2] [0, 1] rfl rfl rfl (sq (cs (cr [0, 1, 2, 3] rfl (bindE h fun y15 ey15 h => n1 rfl (oP (fnok25 H) (law27_deliver_ok H φ 1 100 1 _ ey15) ⟨ct, ct, ct, trivial⟩ fun x17 nw18 hk16 => ?_))))))))
 obtain ⟨rfl, rfl⟩ := hk16
 refine bindE h fun y19 ey19 h => n1 rfl (oP (fnok26 H) (law27_receive_ok H φ 1 161 3 _ ey19) ⟨ct, ct, ct, trivial⟩ fun x21 nw22 hk20 => ?_)
 obtain ⟨rfl, rfl⟩ := hk20
 refine n1 rfl (opBuildSlice (e := eReport) [y15, y19] (sl37 H) lReport rfl (by decide) ⟨rfl, (Ce.agg (mv rfl)), ⟨rfl, (Ce.agg (mv rfl)), trivial⟩⟩ fun sv23 => q1 rfl (opAssign (mv rfl)) (rn (al [1, 2, 3] [0, 1, 2] rfl rfl rfl (sq (cs (cr [0, 1, 2, 3, 4, 5] rfl (bindE h fun y24 ey24 h => n1 rfl (oP (fnok25 H) (law27_deliver_ok H φ 1 100 0 _ ey24) ⟨ct, ct, ct, trivial⟩ fun x26 nw27 hk25 => ?_))))))))
 obtain ⟨rfl, rfl⟩ := hk25
 refine bindE h fun y28 ey28 h => n1 rfl (oP (fnok25 H) (law27_deliver_ok H φ 2 120 0 _ ey28) ⟨ct, ct, ct, trivial⟩ fun x30 nw31 hk29 => ?_)
 obtain ⟨rfl, rfl⟩ := hk29
 refine bindE h fun y32 ey32 h => n1 rfl (oP (fnok26 H) (law27_receive_ok H φ 1 119 0 _ ey32) ⟨ct, ct, ct, trivial⟩ fun x34 nw35 hk33 => ?_)
 obtain ⟨rfl, rfl⟩ := hk33
 refine bindE h fun y36 ey36 h => n1 rfl (oP (fnok26 H) (law27_receive_ok H φ 2 130 0 _ ey36) ⟨ct, ct, ct, trivial⟩ fun x38 nw39 hk37 => ?_)
 obtain ⟨rfl, rfl⟩ := hk37
 refine n1 rfl (opBuildSlice (e := eReport) [y24, y28, y32, y36] (sl37 H) lReport rfl (by decide) ⟨rfl, (Ce.agg (mv rfl)), ⟨rfl, (Ce.agg (mv rfl)), ⟨rfl, (Ce.agg (mv rfl)), ⟨rfl, (Ce.agg (mv rfl)), trivial⟩⟩⟩⟩ fun sv40 => q1 rfl (opAssign (mv rfl)) (rn (al [1, 2, 3, 4] [0, 1, 2, 3] rfl rfl rfl (sq (cs (cr [0, 1, 2, 3] rfl (q1 rfl (ln (tl36 H) ((Pt.box 0 (mv rfl) rfl rfl).take 9 (cs' := (ePool y1)) rfl) rfl) (q1 rfl (opMove (mv rfl)) (bindE h fun y41 ey41 h => n1 rfl (oF (fnok13 H) (handover_Match_ok H φ y1 [y6, y10] _ ey41) ⟨ef (mv rfl), EvF.of (mv rfl) (FEnt.row 1 lReport rfl), trivial⟩ fun x44 nw45 hk43 => ?_))))))))))
 obtain ⟨sv42, rfl, rfl⟩ := hk43
 refine ⟨flat_eqv, allFlatH ⟨flat_row' fHandover, trivial⟩, ?_⟩
 refine q1 rfl (opAssign (mv rfl)) (rn (al [1, 2, 3, 4, 5] [0, 1, 2, 3, 4] rfl rfl rfl (sq (cs (cr [0, 1, 2, 3, 4, 5, 6, 7] rfl (q1 rfl (ln (tl36 H) ((Pt.box 0 (mv rfl) rfl rfl).take 9 (cs' := (ePool y1)) rfl) rfl) (q1 rfl (opMove (mv rfl)) (bindE h fun y46 ey46 h => n1 rfl (oF (fnok12 H) (handover_Spans_ok H φ y1 [y6, y10] 0 500 _ ey46) ⟨ef (mv rfl), EvF.of (mv rfl) (FEnt.row 1 lReport rfl), ef ct, ef ct, trivial⟩ fun x49 nw50 hk48 => ?_)))))))))
 obtain ⟨sv47, rfl, rfl⟩ := hk48
 refine ⟨(flat_tup' ⟨flat_eqv, flat_eqv, trivial⟩), allFlatH ⟨flat_row' fCustody, trivial⟩, ?_⟩
 refine q1 rfl (opMove (mv rfl)) (q1 rfl (opExtract (mv rfl) rfl) (q1 rfl (opExtract (mv rfl) rfl) (q1 rfl (opAssign (mv rfl)) (q1 rfl (opAssign (mv rfl)) (rn (al [1, 3, 4, 5, 6, 7] [0, 2, 3, 4, 5] rfl rfl rfl (sq (cs (cr [0, 1, 2, 3, 4, 5, 6, 7] rfl (q1 rfl (ln (tl36 H) ((Pt.box 0 (mv rfl) rfl rfl).take 9 (cs' := (ePool y1)) rfl) rfl) (q1 rfl (opMove (mv rfl)) ?_)))))))))))
 refine bindE h fun y51 ey51 h => n1 rfl (oF (fnok12 H) (handover_Spans_ok H φ y1 [y15, y19] 0 500 _ ey51) ⟨ef (mv rfl), EvF.of (mv rfl) (FEnt.row 1 lReport rfl), ef ct, ef ct, trivial⟩ fun x54 nw55 hk53 => ?_)
 obtain ⟨sv52, rfl, rfl⟩ := hk53
 refine ⟨(flat_tup' ⟨flat_eqv, flat_eqv, trivial⟩), allFlatH ⟨flat_row' fCustody, trivial⟩, ?_⟩
 refine q1 rfl (opMove (mv rfl)) (q1 rfl (opExtract (mv rfl) rfl) (q1 rfl (opExtract (mv rfl) rfl) (q1 rfl (opAssign (mv rfl)) (q1 rfl (opAssign (mv rfl)) (rn (al [1, 3, 4, 5, 6, 7, 8, 9] [0, 1, 2, 3, 4, 5] rfl rfl rfl (sq (cs (cr [0, 1, 2, 3, 4, 5, 6, 7] rfl (q1 rfl (ln (tl36 H) ((Pt.box 0 (mv rfl) rfl rfl).take 9 (cs' := (ePool y1)) rfl) rfl) (q1 rfl (opMove (mv rfl)) ?_)))))))))))
 refine bindE h fun y56 ey56 h => q1 rfl (oQ (fnok18 H) (handover_At_ok H φ y1 [y24, y28, y32, y36] 0 108 _ ey56) (flat_tup' ⟨flat_eqv, flat_eqv, trivial⟩) ⟨ef (mv rfl), EvF.of (mv rfl) (FEnt.row 2 lReport rfl), ef ct, ef ct, trivial⟩) (q1 rfl (opMove (mv rfl)) (q1 rfl (opExtract (mv rfl) rfl) (q1 rfl (opExtract (mv rfl) rfl) (q1 rfl (opAssign (mv rfl)) (q1 rfl (opAssign (mv rfl)) (rn (al [1, 3, 4, 5, 6, 7, 8, 9, 10, 11] [0, 1, 2, 3, 4, 5] rfl rfl rfl (sq (cs (cr [0, 1, 2, 3, 4, 5, 6, 7] rfl ?_))))))))))
 refine q1 rfl (ln (tl36 H) ((Pt.box 0 (mv rfl) rfl rfl).take 9 (cs' := (ePool y1)) rfl) rfl) (q1 rfl (opMove (mv rfl)) (bindE h fun y57 ey57 h => q1 rfl (oQ (fnok18 H) (handover_At_ok H φ y1 [y24, y28, y32, y36] 0 109 _ ey57) (flat_tup' ⟨flat_eqv, flat_eqv, trivial⟩) ⟨ef (mv rfl), EvF.of (mv rfl) (FEnt.row 2 lReport rfl), ef ct, ef ct, trivial⟩) (q1 rfl (opMove (mv rfl)) (q1 rfl (opExtract (mv rfl) rfl) (q1 rfl (opExtract (mv rfl) rfl) (q1 rfl (opAssign (mv rfl)) (q1 rfl (opAssign (mv rfl)) (rn (al [1, 3, 4, 5, 6, 7, 8, 9, 10, 11, 12, 13] [0, 1, 2, 3, 4, 5] rfl rfl rfl (sq ?_))))))))))
 refine cs (cr [0, 1, 2, 3] rfl (q1 rfl (ln (tl36 H) ((Pt.box 0 (mv rfl) rfl rfl).take 9 (cs' := (ePool y1)) rfl) rfl) (q1 rfl (opMove (mv rfl)) (bindE h fun y58 ey58 h => n1 rfl (oF (fnok13 H) (handover_Match_ok H φ y1 [y24, y28, y32, y36] _ ey58) ⟨ef (mv rfl), EvF.of (mv rfl) (FEnt.row 2 lReport rfl), trivial⟩ fun x61 nw62 hk60 => ?_)))))
 obtain ⟨sv59, rfl, rfl⟩ := hk60
 refine ⟨flat_eqv, allFlatH ⟨flat_row' fHandover, trivial⟩, ?_⟩
 refine q1 rfl (opAssign (mv rfl)) (rn (al [1, 3, 5, 6, 7, 8, 9, 10, 11, 12, 13, 14] [0, 1, 3, 4, 5, 6] rfl rfl rfl (sq (cs (cs (cr [0, 1, 2, 3, 4, 5, 6, 7, 8, 9, 10, 11, 12, 13, 14, 15, 16, 17, 18, 19, 20, 21, 22, 23, 24, 25] rfl (q1 rfl (opMove (mv rfl)) (q1 rfl (opBuild [.int .i64 0, .int .i64 0] [(1, [(iv .i64 1)])] (out := [(iv .i64 0), (iv .i64 1)]) (ze43 H) rfl (tb43 H) ⟨(tp43_1 H), Nat.le_of_ble_eq_true rfl, (Ce.one ct (One.eqv rfl)), trivial⟩ rfl) (q1 rfl (opBuild [.int .i64 0, .int .i64 0] [(0, [(iv .i64 1)]), (1, [(iv .i64 1)])] (out := [(iv .i64 1), (iv .i64 1)]) (ze43 H) rfl (tb43 H) ⟨(tp43_0 H), Nat.le_of_ble_eq_true rfl, (Ce.one ct (One.eqv rfl)), ⟨(tp43_1 H), Nat.le_of_ble_eq_true rfl, (Ce.one ct (One.eqv rfl)), trivial⟩⟩ rfl) (q1 rfl (opBuild [.int .i64 0, .int .i64 0, .int .i64 0, .int .i64 0, .int .i64 0, .int .i64 0, .int .i64 0, .int .i64 0, .int .i64 0, .int .i64 0] [(1, [(iv .i64 2)]), (3, [(iv .i64 1)]), (4, [(iv .i64 105)]), (5, [(iv .i64 3)]), (6, [(iv .i64 0), (iv .i64 1)]), (8, [(iv .i64 1), (iv .i64 1)])] (out := [(iv .i64 0), (iv .i64 2), (iv .i64 0), (iv .i64 1), (iv .i64 105), (iv .i64 3), (iv .i64 0), (iv .i64 1), (iv .i64 1), (iv .i64 1)]) (ze70 H) rfl (tb70 H) ⟨(tp70_1 H), Nat.le_of_ble_eq_true rfl, (Ce.one ct (One.eqv rfl)), ⟨(tp70_3 H), Nat.le_of_ble_eq_true rfl, (Ce.one ct (One.eqv rfl)), ⟨(tp70_4 H), Nat.le_of_ble_eq_true rfl, (Ce.one ct (One.eqv rfl)), ⟨(tp70_5 H), Nat.le_of_ble_eq_true rfl, (Ce.one ct (One.eqv rfl)), ⟨(tp70_6 H), Nat.le_of_ble_eq_true rfl, (Ce.agg (mv rfl)), ⟨(tp70_7 H), Nat.le_of_ble_eq_true rfl, (Ce.agg (mv rfl)), trivial⟩⟩⟩⟩⟩⟩ rfl) (n1 rfl (opBuildSlice (e := eHandover) [(Handover.mk 0 2 0 1 105 3 (Ref.mk 0 1) (Ref.mk 1 1))] (sl53 H) lHandover rfl (by decide) ⟨rfl, (Ce.agg (mv rfl)), trivial⟩ fun sv63 => ?_))))))))))))
 refine bindE h fun y64 ey64 h => q1 rfl (oQ (fnok16 H) (ref27_SameHandovers_ok H φ y41 [(Handover.mk 0 2 0 1 105 3 (Ref.mk 0 1) (Ref.mk 1 1))] _ ey64) flat_eqv ⟨EvF.of (mv rfl) (FEnt.row 2 lHandover rfl), EvF.of (mv rfl) (FEnt.row 6 lHandover rfl), trivial⟩) (q1 rfl (opNot (mv rfl)) (q1 rfl (opMove (mv rfl)) (g1 rfl rfl (fun g65 => opMove (mv rfl)) (g1 rfl rfl (fun g66 => opLenO 5 (il53 H) (mc rfl g66) rfl) (g1 rfl rfl (fun g67 => opNeq (mc rfl g67) ct) (q1 rfl (opOr (mv rfl) ct (fun g68 => (mc rfl g68))) (q1 rfl (opMove (mv rfl)) (g1 rfl rfl (fun g69 => opMove (mv rfl)) (ckE h fun h71 h => g1 rfl rfl (fun g70 => opIndexO 5 (ix53 H) (mc rfl g70) rfl ct ((h71 g70)).1 ((h71 g70)).2) ?_)))))))))
 refine g1 rfl rfl (fun g72 => opFieldO (fo70_4 H) (mc rfl g72)) (g1 rfl rfl (fun g73 => opLoad1 (tl3 H) ((Pt.row _ 5 (k := (0 : Int).toNat) (fo := 4) lHandover (mc rfl g73) rfl (by omega) (gt_some (h71 g73)) rfl).take 1 (cs' := [(iv .i64 ((gt y58 0).fAt))]) rfl)) (g1 rfl rfl (fun g74 => opNeq (mc rfl g74) ct) (q1 rfl (opOr (mv rfl) ct (fun g75 => (mc rfl g75))) (q1 rfl (opMove (mv rfl)) (g1 rfl rfl (fun g76 => opMove (mv rfl)) (ckE h fun h78 h => g1 rfl rfl (fun g77 => opIndexO 5 (ix53 H) (mc rfl g77) rfl ct ((h78 g77)).1 ((h78 g77)).2) (g1 rfl rfl (fun g79 => opFieldO (fo70_4 H) (mc rfl g79)) (g1 rfl rfl (fun g80 => opLoad1 (tl3 H) ((Pt.row _ 5 (k := (1 : Int).toNat) (fo := 4) lHandover (mc rfl g80) rfl (by omega) (gt_some (h78 g80)) rfl).take 1 (cs' := [(iv .i64 ((gt y58 1).fAt))]) rfl)) (g1 rfl rfl (fun g81 => opNeq (mc rfl g81) ct) (q1 rfl (opOr (mv rfl) ct (fun g82 => (mc rfl g82))) ?_))))))))))
 refine rn (al [1, 3, 6, 7, 8, 9, 10, 11, 12, 13, 82] [0, 1, 3, 4] rfl rfl rfl (sq ?_))
 refine cI h rfl (fun c83 h => ?_) (fun c83 h => ?_)
 ·
  refine cs (cr [0] rfl (q1 rfl (opAssign ct) (rn (al [0] [] rfl rfl rfl (sq (CodeT.ret (AtX.then_ret (AtX.ret' (bv false) (ResOK.one Try.results9 rfl) [] [] trivial rfl ?_))))))))
  obtain rfl := Option.some.inj h
  exact ⟨rfl, rfl⟩
 ·
  refine CodeT.skip (al [1, 3, 6, 7, 8, 9, 10, 11, 12, 13] [0, 1, 2, 3] rfl rfl rfl (sq (cs (cr [0, 1, 2, 3, 4, 5, 6, 7, 8, 9, 10, 11, 12, 13, 14, 15, 16, 17, 18, 19, 20, 21, 22, 23, 24, 25, 26, 27, 28, 29, 30, 31, 32, 33, 34, 35, 36, 37, 38, 39, 40, 41, 42, 43, 44, 45, 46, 47, 48, 49, 50, 51, 52, 53] rfl (q1 rfl (opMove (mv rfl)) (q1 rfl (opEql (mv rfl) ct) (q1 rfl (opMove (mv rfl)) (g1 rfl rfl (fun g84 => opMove (mv rfl)) (g1 rfl rfl (fun g85 => opBuild [.int .i64 0, .int .i64 0] [(1, [(iv .i64 105)])] (out := [(iv .i64 0), (iv .i64 105)]) (ze62 H) rfl (tb62 H) ⟨(tp62_1 H), Nat.le_of_ble_eq_true rfl, (Ce.one ct (One.eqv rfl)), trivial⟩ rfl) (g1 rfl rfl (fun g86 => opBuild [.int .i64 0, .int .i64 0, .int .i64 0, .int .i64 0, .int .i64 0] [(1, [(iv .i64 0), (iv .i64 105)])] (out := [(iv .i64 0), (iv .i64 0), (iv .i64 105), (iv .i64 0), (iv .i64 0)]) (ze64 H) rfl (tb64 H) ⟨(tp64_1 H), Nat.le_of_ble_eq_true rfl, (Ce.agg (mc rfl g86)), trivial⟩ rfl) (g1 rfl rfl (fun g87 => opBuild [.int .i64 0, .int .i64 0] [(0, [(iv .i64 105)]), (1, [(iv .i64 500)])] (out := [(iv .i64 105), (iv .i64 500)]) (ze62 H) rfl (tb62 H) ⟨(tp62_0 H), Nat.le_of_ble_eq_true rfl, (Ce.one ct (One.eqv rfl)), ⟨(tp62_1 H), Nat.le_of_ble_eq_true rfl, (Ce.one ct (One.eqv rfl)), trivial⟩⟩ rfl) ?_)))))))))))
  refine g1 rfl rfl (fun g88 => opBuild [.int .i64 0, .int .i64 0] [(0, [(iv .i64 1)]), (1, [(iv .i64 1)])] (out := [(iv .i64 1), (iv .i64 1)]) (ze43 H) rfl (tb43 H) ⟨(tp43_0 H), Nat.le_of_ble_eq_true rfl, (Ce.one ct (One.eqv rfl)), ⟨(tp43_1 H), Nat.le_of_ble_eq_true rfl, (Ce.one ct (One.eqv rfl)), trivial⟩⟩ rfl) (g1 rfl rfl (fun g89 => opBuild [.int .i64 0, .int .i64 0, .int .i64 0, .int .i64 0, .int .i64 0] [(0, [(iv .i64 1)]), (1, [(iv .i64 105), (iv .i64 500)]), (3, [(iv .i64 1), (iv .i64 1)])] (out := [(iv .i64 1), (iv .i64 105), (iv .i64 500), (iv .i64 1), (iv .i64 1)]) (ze64 H) rfl (tb64 H) ⟨(tp64_0 H), Nat.le_of_ble_eq_true rfl, (Ce.one ct (One.eqv rfl)), ⟨(tp64_1 H), Nat.le_of_ble_eq_true rfl, (Ce.agg (mc rfl g89)), ⟨(tp64_2 H), Nat.le_of_ble_eq_true rfl, (Ce.agg (mc rfl g89)), trivial⟩⟩⟩ rfl) (RunOps.cons_gnb (fun z => eqv z) (fun z => [row 64 eCustody 5 [(Custody.mk 0 (Span.mk 0 105) (Ref.mk 0 0)), (Custody.mk 1 (Span.mk 105 500) (Ref.mk 1 1))] z]) (y46.2 == 0) rfl rfl rfl rfl rfl (fun g90 => opBuildSlice (e := eCustody) [(Custody.mk 0 (Span.mk 0 105) (Ref.mk 0 0)), (Custody.mk 1 (Span.mk 105 500) (Ref.mk 1 1))] (sl49 H) lCustody rfl (by decide) ⟨rfl, (Ce.agg (mc rfl g90)), ⟨rfl, (Ce.agg (mc rfl g90)), trivial⟩⟩ fun z => ⟨z, rfl, rfl⟩) fun sv91 => bindE h fun y93 ey93 h => g1 rfl rfl (fun g92 => oQ (fnok15 H) (ref27_Same_ok H φ y46.1 [(Custody.mk 0 (Span.mk 0 105) (Ref.mk 0 0)), (Custody.mk 1 (Span.mk 105 500) (Ref.mk 1 1))] _ (gcall_pos ey93 g92)) flat_eqv ⟨EvF.of (mc rfl g92) (FEnt.row 2 lCustody rfl), EvF.of (mc rfl g92) (FEnt.row 4 lCustody (when_at rfl g92)), trivial⟩) (q1 rfl (opAnd (mv rfl) (fun g94 => (mc rfl g94)) ct) (q1 rfl (opMove (mv rfl)) (g1 rfl rfl (fun g95 => opMove (mv rfl)) (g1 rfl rfl (fun g96 => opEql (mc rfl g96) ct) (q1 rfl (opAnd (mv rfl) (fun g97 => (mc rfl g97)) ct) (q1 rfl (opMove (mv rfl)) (g1 rfl rfl (fun g98 => opMove (mv rfl)) ?_)))))))))
  refine g1 rfl rfl (fun g99 => opLenO 3 (il49 H) (mc rfl g99) rfl) (g1 rfl rfl (fun g100 => opEql (mc rfl g100) ct) (q1 rfl (opAnd (mv rfl) (fun g101 => (mc rfl g101)) ct) (q1 rfl (opMove (mv rfl)) (g1 rfl rfl (fun g102 => ln (tl36 H) ((Pt.box 0 (mv rfl) rfl rfl).take 9 (cs' := (ePool y1)) rfl) rfl) (g1 rfl rfl (fun g103 => opMove (mv rfl)) (bindE h fun y105 ey105 h => RunOps.cons_gnb (fun sv106 => (eqv sv106)) (fun sv106 => [row 70 eHandover 10 y105 sv106]) ((((y46.2 == 0) && y93) && (y51.2 == 0)) && ((y51.1.length : Int) == 1)) rfl rfl rfl rfl rfl (fun g104 => oF (fnok13 H) (handover_Match_ok H φ y1 [y15, y19] _ (gcall_pos ey105 g104)) ⟨ef (mc rfl g104), EvF.of (mc rfl g104) (FEnt.row 1 lReport rfl), trivial⟩ fun x nw hk => by obtain ⟨sv0_sv106, rfl, rfl⟩ := hk; exact ⟨flat_eqv, allFlatH ⟨flat_row' fHandover, trivial⟩, ⟨sv0_sv106, rfl, rfl⟩⟩) fun sv106 => g1 rfl rfl (fun g107 => opLenO 5 (il53 H) (mc rfl g107) (when_at rfl g107)) (g1 rfl rfl (fun g108 => opEql (mc rfl g108) ct) (q1 rfl (opAnd (mv rfl) (fun g109 => (mc rfl g109)) ct) (q1 rfl (opMove (mv rfl)) ?_)))))))))
  refine g1 rfl rfl (fun g110 => ln (tl36 H) ((Pt.box 0 (mv rfl) rfl rfl).take 9 (cs' := (ePool y1)) rfl) rfl) (g1 rfl rfl (fun g111 => opMove (mv rfl)) (bindE h fun y113 ey113 h => RunOps.cons_gnb (fun sv114 => (eqv sv114)) (fun sv114 => [row 43 eRef 2 y113 sv114]) (((((y46.2 == 0) && y93) && (y51.2 == 0)) && ((y51.1.length : Int) == 1)) && ((y105.length : Int) == 0)) rfl rfl rfl rfl rfl (fun g112 => oF (fnok14 H) (handover_Unmatched_ok H φ y1 [y15, y19] _ (gcall_pos ey113 g112)) ⟨ef (mc rfl g112), EvF.of (mc rfl g112) (FEnt.row 1 lReport rfl), trivial⟩ fun x nw hk => by obtain ⟨sv0_sv114, rfl, rfl⟩ := hk; exact ⟨flat_eqv, allFlatH ⟨flat_row' fRef, trivial⟩, ⟨sv0_sv114, rfl, rfl⟩⟩) fun sv114 => g1 rfl rfl (fun g115 => opBuild [.int .i64 0, .int .i64 0] [(1, [(iv .i64 1)])] (out := [(iv .i64 0), (iv .i64 1)]) (ze43 H) rfl (tb43 H) ⟨(tp43_1 H), Nat.le_of_ble_eq_true rfl, (Ce.one ct (One.eqv rfl)), trivial⟩ rfl) (g1 rfl rfl (fun g116 => opBuild [.int .i64 0, .int .i64 0] [(0, [(iv .i64 1)]), (1, [(iv .i64 1)])] (out := [(iv .i64 1), (iv .i64 1)]) (ze43 H) rfl (tb43 H) ⟨(tp43_0 H), Nat.le_of_ble_eq_true rfl, (Ce.one ct (One.eqv rfl)), ⟨(tp43_1 H), Nat.le_of_ble_eq_true rfl, (Ce.one ct (One.eqv rfl)), trivial⟩⟩ rfl) (RunOps.cons_gnb (fun z => eqv z) (fun z => [row 43 eRef 2 [(Ref.mk 0 1), (Ref.mk 1 1)] z]) (((((y46.2 == 0) && y93) && (y51.2 == 0)) && ((y51.1.length : Int) == 1)) && ((y105.length : Int) == 0)) rfl rfl rfl rfl rfl (fun g117 => opBuildSlice (e := eRef) [(Ref.mk 0 1), (Ref.mk 1 1)] (sl55 H) lRef rfl (by decide) ⟨rfl, (Ce.agg (mc rfl g117)), ⟨rfl, (Ce.agg (mc rfl g117)), trivial⟩⟩ fun z => ⟨z, rfl, rfl⟩) fun sv118 => bindE h fun y120 ey120 h => g1 rfl rfl (fun g119 => oQ (fnok17 H) (ref27_SameRefs_ok H φ y113 [(Ref.mk 0 1), (Ref.mk 1 1)] _ (gcall_pos ey120 g119)) flat_eqv ⟨EvF.of (mc rfl g119) (FEnt.row 6 lRef (when_at rfl g119)), EvF.of (mc rfl g119) (FEnt.row 7 lRef (when_at rfl g119)), trivial⟩) (q1 rfl (opAnd (mv rfl) (fun g121 => (mc rfl g121)) ct) (q1 rfl (opMove (mv rfl)) (g1 rfl rfl (fun g122 => opMove (mv rfl)) ?_)))))))
  refine g1 rfl rfl (fun g123 => opEql (mc rfl g123) ct) (q1 rfl (opAnd (mv rfl) (fun g124 => (mc rfl g124)) ct) (q1 rfl (opMove (mv rfl)) (g1 rfl rfl (fun g125 => opMove (mv rfl)) (g1 rfl rfl (fun g126 => opEql (mc rfl g126) ct) (q1 rfl (opAnd (mv rfl) (fun g127 => (mc rfl g127)) ct) (q1 rfl (opMove (mv rfl)) (g1 rfl rfl (fun g128 => opMove (mv rfl)) (g1 rfl rfl (fun g129 => opEql (mc rfl g129) ct) (q1 rfl (opAnd (mv rfl) (fun g130 => (mc rfl g130)) ct) (q1 rfl (opMove (mv rfl)) (g1 rfl rfl (fun g131 => opMove (mv rfl)) ?_)))))))))))
  refine g1 rfl rfl (fun g132 => opEql (mc rfl g132) ct) (q1 rfl (opAnd (mv rfl) (fun g133 => (mc rfl g133)) ct) (q1 rfl (opAssign (mv rfl)) (rn (al [0] [] rfl rfl rfl (sq (CodeT.ret (AtX.ret' (bv ((((((((((y46.2 == 0) && y93) && (y51.2 == 0)) && ((y51.1.length : Int) == 1)) && ((y105.length : Int) == 0)) && y120) && (y56.2 == 0)) && (y56.1 == 0)) && (y57.2 == 0)) && (y57.1 == 1))) (ResOK.one Try.results9 rfl) [] [] trivial rfl ?_)))))))
  obtain rfl := Option.some.inj h
  exact ⟨rfl, rfl⟩
theorem ref24_SmallPool_ok {P : Program} (H : P = Try.prog) (φ : Nat) (v1 : Pool) (r : (Bool)) (h : ref24_SmallPool φ v1 = some r) : PureT P 27 [(agg (ePool v1))] (fun x news => x = (bv r) ∧ news = []) := by
 unfold ref24_SmallPool at h
 refine PureT.of_code' 65 (fn27 H) rfl rfl (Nat.le_of_ble_eq_true rfl) fun w0 base r0 wI => ?_
 refine cl [0] [] rfl rfl rfl (cs (cr [0, 1] rfl (n1 rfl (opBox (Ce.agg (mv rfl)) fun b2 => q1 rfl (opAssign ct) (rn (al [1] [0] rfl rfl rfl (sq (cs (cs (cr [0, 1, 2, 3, 4, 5, 6, 7, 8, 9, 10, 11, 12, 13, 14, 15, 16, 17, 18, 19, 20, 21, 22, 23, 24, 25, 26, 27, 28, 29, 30, 31, 32, 33, 34, 35, 36, 37, 38, 39, 40, 41, 42, 43, 44] rfl (q1 rfl (opFieldP (fo36_0 H) (mv rfl)) ?_)))))))))))
 refine q1 rfl (opFieldP (fo25_0 H) (mv rfl)) (q1 rfl (lb (tl22 H) 0 (mv rfl) rfl rfl) (q1 rfl (opLenR (il22 H) (mv rfl)) (q1 rfl (opGtr (mv rfl) ct) (q1 rfl (opMove (mv rfl)) (g1 rfl rfl (fun g3 => opFieldP (fo36_0 H) (mv rfl)) (g1 rfl rfl (fun g4 => opFieldP (fo25_1 H) (mc rfl g4)) (g1 rfl rfl (fun g5 => lb (tl23 H) 0 (mc rfl g5) rfl rfl) (g1 rfl rfl (fun g6 => opLenR (il23 H) (mc rfl g6)) (g1 rfl rfl (fun g7 => opGtr (mc rfl g7) ct) (q1 rfl (opOr (mv rfl) ct (fun g8 => (mc rfl g8))) (q1 rfl (opMove (mv rfl)) ?_)))))))))))
 refine g1 rfl rfl (fun g9 => opFieldP (fo36_1 H) (mv rfl)) (g1 rfl rfl (fun g10 => opFieldP (fo31_1 H) (mc rfl g10)) (g1 rfl rfl (fun g11 => lb (tl27 H) 0 (mc rfl g11) rfl rfl) (g1 rfl rfl (fun g12 => opLenR (il27 H) (mc rfl g12)) (g1 rfl rfl (fun g13 => opGtr (mc rfl g13) ct) (q1 rfl (opOr (mv rfl) ct (fun g14 => (mc rfl g14))) (q1 rfl (opMove (mv rfl)) (g1 rfl rfl (fun g15 => opFieldP (fo36_2 H) (mv rfl)) (g1 rfl rfl (fun g16 => lb (tl32 H) 0 (mc rfl g16) rfl rfl) (g1 rfl rfl (fun g17 => opLenR (il32 H) (mc rfl g17)) (g1 rfl rfl (fun g18 => opGtr (mc rfl g18) ct) (q1 rfl (opOr (mv rfl) ct (fun g19 => (mc rfl g19))) ?_)))))))))))
 refine q1 rfl (opMove (mv rfl)) (g1 rfl rfl (fun g20 => opFieldP (fo36_1 H) (mv rfl)) (g1 rfl rfl (fun g21 => opFieldP (fo31_2 H) (mc rfl g21)) (g1 rfl rfl (fun g22 => lb (tl28 H) 0 (mc rfl g22) rfl rfl) (g1 rfl rfl (fun g23 => opLenR (il28 H) (mc rfl g23)) (g1 rfl rfl (fun g24 => opGtr (mc rfl g24) ct) (q1 rfl (opOr (mv rfl) ct (fun g25 => (mc rfl g25))) (q1 rfl (opMove (mv rfl)) (g1 rfl rfl (fun g26 => opFieldP (fo36_1 H) (mv rfl)) (g1 rfl rfl (fun g27 => opFieldP (fo31_3 H) (mc rfl g27)) (g1 rfl rfl (fun g28 => lb (tl29 H) 0 (mc rfl g28) rfl rfl) (g1 rfl rfl (fun g29 => opLenR (il29 H) (mc rfl g29)) ?_)))))))))))
 refine g1 rfl rfl (fun g30 => opGtr (mc rfl g30) ct) (q1 rfl (opOr (mv rfl) ct (fun g31 => (mc rfl g31))) (q1 rfl (opMove (mv rfl)) (g1 rfl rfl (fun g32 => opFieldP (fo36_4 H) (mv rfl)) (g1 rfl rfl (fun g33 => lb (tl34 H) 0 (mc rfl g33) rfl rfl) (g1 rfl rfl (fun g34 => opLenR (il34 H) (mc rfl g34)) (g1 rfl rfl (fun g35 => opGtr (mc rfl g35) ct) (q1 rfl (opOr (mv rfl) ct (fun g36 => (mc rfl g36))) (rn (al [1, 48] [0] rfl rfl rfl (sq ?_))))))))))
 refine cI h rfl (fun c37 h => ?_) (fun c37 h => ?_)
 ·
  refine cs (cr [0] rfl (q1 rfl (opAssign ct) (rn (al [2] [] rfl rfl rfl (sq (CodeT.ret (AtX.then_ret (AtX.ret' (bv false) (ResOK.one Try.results27 rfl) [] [] trivial rfl ?_))))))))
  obtain rfl := Option.some.inj h
  exact ⟨rfl, rfl⟩
 ·
  refine CodeT.skip (al [1] [0] rfl rfl rfl (sq (cs (cs (cr [0] rfl (q1 rfl (opAssign ct) (rn (al [1, 3] [0] rfl rfl rfl (sq ?_)))))))))
  refine CodeT.join (fun z : Unit => (ref24_SmallPool_j38 φ)) r (fun z => ⟨Slots.of [], []⟩) (fun z h => ?_) (fun hJ38 => ?_)
  ·
   replace h : (ref24_SmallPool_j38 φ) = some r := h
   unfold ref24_SmallPool_j38 at h
   refine al [] [] rfl rfl rfl (sq (cs (cr [0] rfl (q1 rfl (opAssign ct) (rn (al [2] [] rfl rfl rfl (sq (CodeT.ret (AtX.ret' (bv true) (ResOK.one Try.results27 rfl) [] [] trivial rfl ?_)))))))))
   obtain rfl := Option.some.inj h
   exact ⟨rfl, rfl⟩
  ·
   refine CodeT.block ?_
   refine CodeT.to (CodeT.loop (fun n (z : Int) => ref24_SmallPool_L40 φ v1 (ref24_SmallPool_j38 φ) n z) r (fun z => ⟨Slots.of [(1, (eqv (.pointer (some ⟨b2, 0, none⟩)))), (3, (iv .i64 z))], [(box b2 36 (ePool v1))]⟩) (fun z => rfl) (fun n40 v39 ih40 h => ?_) φ 0 h) [0] (sl rfl) (ol rfl) rfl
   replace h : ref24_SmallPool_L40 φ v1 (ref24_SmallPool_j38 φ) (n40 + 1) v39 = some r := h
   rw [ref24_SmallPool_L40] at h
   refine cs (cs (cr [0, 1, 2, 3, 4] rfl (q1 rfl (opMove (mv rfl)) (q1 rfl (opFieldP (fo36_4 H) (mv rfl)) (q1 rfl (lb (tl34 H) 0 (mv rfl) rfl rfl) (q1 rfl (opLenR (il34 H) (mv rfl)) (q1 rfl (opLss (mv rfl) (mv rfl)) (rn (al [1, 3, 53] [0] rfl rfl rfl (sq ?_))))))))))
   refine cI h rfl (fun c41 h => ?_) (fun c41 h => ?_)
   ·
    refine CodeT.skip (al [1, 3] [0] rfl rfl rfl (sq (cs (CodeT.block (cs (cr [0, 1, 2, 3, 4, 5, 6, 7, 8] rfl (q1 rfl (opFieldP (fo36_4 H) (mv rfl)) (q1 rfl (lb (tl34 H) 0 (mv rfl) rfl rfl) (q1 rfl (opMove (mv rfl)) (ckE h fun h42 h => q1 rfl (opIndexR (ix34 H) (mv rfl) (mv rfl) (h42).1 (gt_some h42)) ?_))))))))))
    refine q1 rfl (opFieldRT (fo107_1 H) (mv rfl) (cs' := (eCalendar (gt v1.fRailways v39).fCalendar)) 15 rfl) (q1 rfl (opFieldRT (fo105_1 H) (mv rfl) (cs' := [(ro eI64 1 ((gt v1.fRailways v39).fCalendar.fHolidays))]) 1 rfl) (q1 rfl (lr (tl96 H) (mv rfl)) (q1 rfl (opLenR (il96 H) (mv rfl)) (q1 rfl (opGtr (mv rfl) ct) (rn (al [1, 3, 64] [0] rfl rfl rfl (sq ?_)))))))
    refine cI h rfl (fun c43 h => ?_) (fun c43 h => ?_)
    ·
     refine cs (cr [0] rfl (q1 rfl (opAssign ct) (rn (al [2] [] rfl rfl rfl (sq (CodeT.ret (AtX.in_ret (AtX.then_ret (AtX.then_ret (AtX.in_ret (AtX.then_ret ?_)))))))))))
     refine AtX.ret' (bv false) (ResOK.one Try.results27 rfl) [] [] trivial rfl ?_
     obtain rfl := Option.some.inj h
     exact ⟨rfl, rfl⟩
    ·
     refine CodeT.skip (AtX.in_normal (al [1, 3] [0] rfl rfl rfl (sq (cr [0, 1, 2] rfl (q1 rfl (opMove (mv rfl)) (q1 rfl (opAdd (mv rfl) ct) (q1 rfl (opAssign (mv rfl)) (rn ?_))))))))
     exact AtX.to (ih40 (W (v39 + 1)) h) [0] (sl rfl) (ol rfl) rfl
   ·
    refine CodeT.exit (AtX.then_exit (AtX.then_exit (AtX.in_hit ?_)))
    exact AtX.to (hJ38 () h) [] trivial trivial rfl
theorem ref24_FewReports_ok {P : Program} (H : P = Try.prog) (φ : Nat) (v1 : (List Report)) (v2 : Int) (r : (Bool)) (h : ref24_FewReports φ v1 v2 = some r) : PureT P 28 [(ro eReport 21 v1), (iv .i64 v2)] (fun x news => x = (bv r) ∧ news = []) := by
 unfold ref24_FewReports at h
 refine PureT.of_code' 34 (fn28 H) rfl rfl (Nat.le_of_ble_eq_true rfl) fun w0 base r0 wI => ?_
 refine cl [0, 1] [] rfl rfl rfl (cs (cr [0] rfl (q1 rfl (opAssign ct) (rn (al [0, 1] [] rfl rfl rfl (sq (cs (cs (cr [0, 1, 2, 3] rfl (q1 rfl (opMove (mv rfl)) (q1 rfl (opLenR (il37 H) (mv rfl)) ?_)))))))))))
 refine q1 rfl (opMove (mv rfl)) (q1 rfl (opGtr (mv rfl) (mv rfl)) (rn (al [0, 9] [] rfl rfl rfl (sq ?_))))
 refine cI h rfl (fun c3 h => ?_) (fun c3 h => ?_)
 ·
  refine cs (cr [0] rfl (q1 rfl (opAssign ct) (rn (al [4] [] rfl rfl rfl (sq (CodeT.ret (AtX.then_ret (AtX.ret' (bv false) (ResOK.one Try.results28 rfl) [] [] trivial rfl ?_))))))))
  obtain rfl := Option.some.inj h
  exact ⟨rfl, rfl⟩
 ·
  refine CodeT.skip (al [0] [] rfl rfl rfl (sq (cs (cs (cr [0] rfl (q1 rfl (opAssign ct) (rn (al [0, 5] [] rfl rfl rfl (sq ?_)))))))))
  refine CodeT.join (fun z : Unit => (ref24_FewReports_j4 φ)) r (fun z => ⟨Slots.of [], []⟩) (fun z h => ?_) (fun hJ4 => ?_)
  ·
   replace h : (ref24_FewReports_j4 φ) = some r := h
   unfold ref24_FewReports_j4 at h
   refine al [] [] rfl rfl rfl (sq (cs (cr [0] rfl (q1 rfl (opAssign ct) (rn (al [4] [] rfl rfl rfl (sq (CodeT.ret (AtX.ret' (bv true) (ResOK.one Try.results28 rfl) [] [] trivial rfl ?_)))))))))
   obtain rfl := Option.some.inj h
   exact ⟨rfl, rfl⟩
  ·
   refine CodeT.block ?_
   refine CodeT.to (CodeT.loop (fun n (z : Int) => ref24_FewReports_L6 φ v1 (ref24_FewReports_j4 φ) n z) r (fun z => ⟨Slots.of [(0, (ro eReport 21 v1)), (5, (iv .i64 z))], []⟩) (fun z => rfl) (fun n6 v5 ih6 h => ?_) φ 0 h) [] (sl rfl) trivial rfl
   replace h : ref24_FewReports_L6 φ v1 (ref24_FewReports_j4 φ) (n6 + 1) v5 = some r := h
   rw [ref24_FewReports_L6] at h
   refine cs (cs (cr [0, 1, 2, 3] rfl (q1 rfl (opMove (mv rfl)) (q1 rfl (opMove (mv rfl)) (q1 rfl (opLenR (il37 H) (mv rfl)) (q1 rfl (opLss (mv rfl) (mv rfl)) (rn (al [0, 5, 13] [] rfl rfl rfl (sq ?_)))))))))
   refine cI h rfl (fun c7 h => ?_) (fun c7 h => ?_)
   ·
    refine CodeT.skip (al [0, 5] [] rfl rfl rfl (sq (cs (CodeT.block (cs (cr [0, 1, 2, 3, 4, 5, 6, 7, 8, 9, 10, 11, 12, 13, 14, 15, 16, 17] rfl (q1 rfl (opMove (mv rfl)) (q1 rfl (opMove (mv rfl)) (ckE h fun h8 h => q1 rfl (opIndexR (ix37 H) (mv rfl) (mv rfl) (h8).1 (gt_some h8)) (q1 rfl (opFieldRT (fo48_3 H) (mv rfl) (cs' := (eItem (gt v1 v5).fItem)) 16 rfl) ?_))))))))))
    refine q1 rfl (opFieldRT (fo46_14 H) (mv rfl) (cs' := [(ro ePart 3 ((gt v1 v5).fItem.fParts))]) 1 rfl) (q1 rfl (lr (tl44 H) (mv rfl)) (q1 rfl (opLenR (il44 H) (mv rfl)) (q1 rfl (opGtr (mv rfl) ct) (q1 rfl (opMove (mv rfl)) (g1 rfl rfl (fun g9 => opMove (mv rfl)) (g1 rfl rfl (fun g10 => opMove (mv rfl)) (g1 rfl rfl (fun g11 => opIndexR (ix37 H) (mc rfl g11) (mc rfl g11) (h8).1 (gt_some h8)) (g1 rfl rfl (fun g12 => opFieldRT (fo48_3 H) (mc rfl g12) (cs' := (eItem (gt v1 v5).fItem)) 16 rfl) (g1 rfl rfl (fun g13 => opFieldRT (fo46_13 H) (mc rfl g13) (cs' := [(eqv (.string ((gt v1 v5).fItem.fText)))]) 1 rfl) (g1 rfl rfl (fun g14 => lr (tl9 H) (mc rfl g14)) (g1 rfl rfl (fun g15 => opLenS (un9 H) (mc rfl g15)) ?_)))))))))))
    refine g1 rfl rfl (fun g16 => opGtr (mc rfl g16) ct) (q1 rfl (opOr (mv rfl) ct (fun g17 => (mc rfl g17))) (rn (al [0, 5, 33] [] rfl rfl rfl (sq ?_))))
    refine cI h rfl (fun c18 h => ?_) (fun c18 h => ?_)
    ·
     refine cs (cr [0] rfl (q1 rfl (opAssign ct) (rn (al [4] [] rfl rfl rfl (sq (CodeT.ret (AtX.in_ret (AtX.then_ret (AtX.then_ret (AtX.in_ret (AtX.then_ret ?_)))))))))))
     refine AtX.ret' (bv false) (ResOK.one Try.results28 rfl) [] [] trivial rfl ?_
     obtain rfl := Option.some.inj h
     exact ⟨rfl, rfl⟩
    ·
     refine CodeT.skip (AtX.in_normal (al [0, 5] [] rfl rfl rfl (sq (cr [0, 1, 2] rfl (q1 rfl (opMove (mv rfl)) (q1 rfl (opAdd (mv rfl) ct) (q1 rfl (opAssign (mv rfl)) (rn ?_))))))))
     exact AtX.to (ih6 (W (v5 + 1)) h) [] (sl rfl) trivial rfl
   ·
    refine CodeT.exit (AtX.then_exit (AtX.then_exit (AtX.in_hit ?_)))
    exact AtX.to (hJ4 () h) [] trivial trivial rfl
theorem law27_few_ok {P : Program} (H : P = Try.prog) (φ : Nat) (v1 : Pool) (v2 : (List Report)) (r : (Bool)) (h : law27_few φ v1 v2 = some r) : PureT P 10 [(agg (ePool v1)), (ro eReport 21 v2)] (fun x news => x = (bv r) ∧ news = []) := by
 unfold law27_few at h
 refine PureT.of_code' 11 (fn10 H) rfl rfl (Nat.le_of_ble_eq_true rfl) fun w0 base r0 wI => ?_
 refine cl [0, 1] [] rfl rfl rfl (cs (cr [0, 1] rfl (n1 rfl (opBox (Ce.agg (mv rfl)) fun b3 => q1 rfl (opAssign ct) (rn (al [1, 2] [0] rfl rfl rfl (sq (cs (cr [0, 1, 2, 3, 4, 5, 6] rfl (q1 rfl (ln (tl36 H) ((Pt.box 0 (mv rfl) rfl rfl).take 9 (cs' := (ePool v1)) rfl) rfl) (bindE h fun y4 ey4 h => ?_)))))))))))
 refine q1 rfl (oQ (fnok27 H) (ref24_SmallPool_ok H φ v1 _ ey4) flat_eqv ⟨ef (mv rfl), trivial⟩) (q1 rfl (opMove (mv rfl)) (g1 rfl rfl (fun g5 => opMove (mv rfl)) (bindE h fun y7 ey7 h => g1 rfl rfl (fun g6 => oQ (fnok28 H) (ref24_FewReports_ok H φ v2 60 _ (gcall_pos ey7 g6)) flat_eqv ⟨ef (mc rfl g6), ef ct, trivial⟩) (q1 rfl (opAnd (mv rfl) (fun g8 => (mc rfl g8)) ct) (q1 rfl (opAssign (mv rfl)) (rn (al [4] [] rfl rfl rfl (sq (CodeT.ret (AtX.ret' (bv (y4 && y7)) (ResOK.one Try.results10 rfl) [] [] trivial rfl ?_))))))))))
 obtain rfl := Option.some.inj h
 exact ⟨rfl, rfl⟩
end Px
end
