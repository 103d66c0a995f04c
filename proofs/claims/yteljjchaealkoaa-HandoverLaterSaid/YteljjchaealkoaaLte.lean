/- A part of the proof of handoverLater_holds. Conditions: none. -/
import Derived.Test.YteljjchaealkoaaLtd
section
set_option linter.unusedVariables false
set_option linter.unusedSimpArgs false
set_option maxHeartbeats 4000000
set_option maxRecDepth 100000
namespace Px
open Go Go.RowKit Go.Proofs
theorem z85 {P : Program} (H : P = Try.prog) (φ : Nat) (v1 : (List z3)) (v3 : Int) (y4 : (z3 → z3 → Option Int)) (sv2 : Value) (r : (List z3)) (h : z3u φ v1 v3 y4 = some r) : MutT P 55 [(eqv sv2), (iv .i64 v3), (fcmp P (fun x => (agg (z5 x))) y4)] 70 z5 10 v1 sv2 (fun x l' => x = eqv (.tuple #[]) ∧ r = l') := by
 unfold z3u at h
 refine MutT.of_code 63 (fn55 H) rfl rfl (Nat.le_of_ble_eq_true rfl) fun w0 base r0 wI => ?_
 refine cl [0, 1, 2] [0] rfl rfl rfl (cs (cr [0] rfl (q1 rfl (z1 ct) (rn (al [0, 1, 2, 6] [0] rfl rfl rfl (sq (cs (cr [0, 1, 2] rfl (q1 rfl (z0 (mv rfl)) (q1 rfl (z1 ct) (q1 rfl (z1 (mv rfl)) ?_)))))))))))
 refine rn (al [0, 1, 2, 6, 7, 8] [0] rfl rfl rfl (sq (cs ?_)))
 refine z2.join (fun z : Int × (List z3) => (zy φ v3 y4) z.1 z.2) r (fun z => ⟨zh.of [(0, (eqv sv2)), (1, (iv .i64 v3)), (2, (fcmp P (fun x => (agg (z5 x))) y4)), (6, (iv .i64 20)), (7, (iv .i64 z.1))], [(row 70 z5 10 z.2 sv2)]⟩) (fun z h => ?_) (fun hJ7 => ?_)
 ·
  obtain ⟨v5, v6⟩ := z
  replace h : (zy φ v3 y4) v5 v6 = some r := h
  unfold zy at h
  refine al [0, 1, 2, 6, 7] [0] rfl rfl rfl (sq (cs (cr [0, 1, 2, 3, 4] rfl (q1 rfl (z0 (mv rfl)) (q1 rfl (z0 (mv rfl)) (q1 rfl (z0 (mv rfl)) (q1 rfl (z0 (mv rfl)) (z0c h fun y8 ey8 h => n1 rfl (z3d 0 rfl (fun x => (z59 x).mem) (zp5 H) (args := [(eqv sv2), (iv .i64 v5), (iv .i64 v3), (fcmp P (fun x => (agg (z5 x))) y4)]) ⟨(mv rfl), (mv rfl), (mv rfl), (mv rfl), trivial⟩ (z4y H φ v6 v5 v3 y4 sv2 _ ey8) fun x9 nw10 hk11 => ?_)))))))))
  obtain ⟨rfl, rfl⟩ := hk11
  refine ⟨z7, ?_⟩
  refine rn (al [0, 1, 2, 6] [0] rfl rfl rfl (sq (z2.block ?_)))
  refine z2.to (z2.loop (fun n (z : Int × (List z3)) => zb φ v3 y4 n z.1 z.2) r (fun z => ⟨zh.of [(0, (eqv sv2)), (1, (iv .i64 v3)), (2, (fcmp P (fun x => (agg (z5 x))) y4)), (6, (iv .i64 z.1))], [(row 70 z5 10 z.2 sv2)]⟩) (fun z => rfl) (fun n14 z ih14 h => ?_) φ (20, y8) h) [0] (sl rfl) (ol rfl) rfl
  obtain ⟨v12, v13⟩ := z
  replace h : zb φ v3 y4 (n14 + 1) v12 v13 = some r := h
  rw [zb] at h
  refine cs (cs (cr [0, 1, 2] rfl (q1 rfl (z0 (mv rfl)) (q1 rfl (z0 (mv rfl)) (q1 rfl (z1l (mv rfl) (mv rfl)) (rn (al [0, 1, 2, 6, 30] [0] rfl rfl rfl (sq ?_))))))))
  refine cI h rfl (fun c15 h => ?_) (fun c15 h => ?_)
  ·
   refine z2.skip (al [0, 1, 2, 6] [0] rfl rfl rfl (sq (z2.block (cs (cr [0, 1, 2, 3] rfl (q1 rfl (z0 (mv rfl)) (q1 rfl (z8v ct (mv rfl)) (q1 rfl (z1 ct) (q1 rfl (z1 (mv rfl)) (rn (al [0, 1, 2, 6, 7, 8] [0] rfl rfl rfl ?_)))))))))))
   refine sq (cs ?_)
   refine z2.join (fun z : Int × (List z3) => (z0i φ v3 y4 v12 (zb φ v3 y4 n14)) z.1 z.2) r (fun z => ⟨zh.of [(0, (eqv sv2)), (1, (iv .i64 v3)), (2, (fcmp P (fun x => (agg (z5 x))) y4)), (6, (iv .i64 v12)), (7, (iv .i64 z.1))], [(row 70 z5 10 z.2 sv2)]⟩) (fun z h => ?_) (fun hJ18 => ?_)
   ·
    obtain ⟨v16, v17⟩ := z
    replace h : (z0i φ v3 y4 v12 (zb φ v3 y4 n14)) v16 v17 = some r := h
    unfold z0i at h
    refine al [0, 1, 2, 6, 7] [0] rfl rfl rfl (sq (cs (cs (cr [0, 1, 2, 3] rfl (q1 rfl (z0 (mv rfl)) (q1 rfl (z0 (mv rfl)) (q1 rfl (z0u (mv rfl) (mv rfl)) (q1 rfl (z1 (mv rfl)) (rn (al [0, 1, 2, 6, 7, 9] [0] rfl rfl rfl (sq ?_)))))))))))
    refine cs (cr [0, 1, 2] rfl (q1 rfl (z0 (mv rfl)) (q1 rfl (z0 (mv rfl)) (q1 rfl (z1l (mv rfl) (mv rfl)) (rn (al [0, 1, 2, 6, 7, 9, 54] [0] rfl rfl rfl (sq ?_)))))))
    refine z2.join (fun z : (List z3) => (z1j φ v12 (zb φ v3 y4 n14)) z) r (fun z => ⟨zh.of [(0, (eqv sv2)), (1, (iv .i64 v3)), (2, (fcmp P (fun x => (agg (z5 x))) y4)), (6, (iv .i64 v12))], [(row 70 z5 10 z sv2)]⟩) (fun v19 h => ?_) (fun hJ20 => ?_)
    ·
     replace h : (z1j φ v12 (zb φ v3 y4 n14)) v19 = some r := h
     unfold z1j at h
     refine al [0, 1, 2, 6] [0] rfl rfl rfl (sq (cr [0, 1, 2] rfl (q1 rfl (z0 (mv rfl)) (q1 rfl (z8v (mv rfl) ct) (q1 rfl (z1 (mv rfl)) (rn (AtX.in_normal ?_)))))))
     exact AtX.to (ih14 ((W (v12 * 2)), v19) h) [0] (sl rfl) (ol rfl) rfl
    ·
     refine cI h rfl (fun c21 h => ?_) (fun c21 h => ?_)
     ·
      refine cr [0, 1, 2, 3, 4, 5] rfl (q1 rfl (z0 (mv rfl)) (q1 rfl (z0 (mv rfl)) (q1 rfl (z0 (mv rfl)) (q1 rfl (z0 (mv rfl)) (q1 rfl (z0 (mv rfl)) (z0c h fun y22 ey22 h => n1 rfl (z3d 0 rfl (fun x => (z59 x).mem) (zj9 H) (args := [(eqv sv2), (iv .i64 v16), (iv .i64 (W (v16 + v12))), (iv .i64 v3), (fcmp P (fun x => (agg (z5 x))) y4)]) ⟨(mv rfl), (mv rfl), (mv rfl), (mv rfl), (mv rfl), trivial⟩ (z5i H φ v17 v16 (W (v16 + v12)) v3 y4 sv2 _ ey22) fun x23 nw24 hk25 => ?_)))))))
      obtain ⟨rfl, rfl⟩ := hk25
      refine ⟨z7, ?_⟩
      refine rn ?_
      exact AtX.to (hJ20 y22 h) [0] (sl rfl) (ol rfl) rfl
     ·
      refine z2.skip ?_
      exact AtX.to (hJ20 v17 h) [0] (sl rfl) (ol rfl) rfl
   ·
    refine z2.block ?_
    refine z2.to (z2.loop (fun n (z : Int × Int × (List z3)) => z10 φ v3 y4 v12 (z0i φ v3 y4 v12 (zb φ v3 y4 n14)) n z.1 z.2.1 z.2.2) r (fun z => ⟨zh.of [(0, (eqv sv2)), (1, (iv .i64 v3)), (2, (fcmp P (fun x => (agg (z5 x))) y4)), (6, (iv .i64 v12)), (7, (iv .i64 z.1)), (8, (iv .i64 z.2.1))], [(row 70 z5 10 z.2.2 sv2)]⟩) (fun z => rfl) (fun n29 z ih29 h => ?_) φ (0, (W (2 * v12)), v13) h) [0] (sl rfl) (ol rfl) rfl
    obtain ⟨v26, v27, v28⟩ := z
    replace h : z10 φ v3 y4 v12 (z0i φ v3 y4 v12 (zb φ v3 y4 n14)) (n29 + 1) v26 v27 v28 = some r := h
    rw [z10] at h
    refine cs (cs (cr [0, 1, 2] rfl (q1 rfl (z0 (mv rfl)) (q1 rfl (z0 (mv rfl)) (q1 rfl (zae (mv rfl) (mv rfl)) (rn (al [0, 1, 2, 6, 7, 8, 35] [0] rfl rfl rfl (sq ?_))))))))
    refine cI h rfl (fun c30 h => ?_) (fun c30 h => ?_)
    ·
     refine z2.skip (al [0, 1, 2, 6, 7, 8] [0] rfl rfl rfl (sq (z2.block (cs (cr [0, 1, 2, 3, 4, 5, 6, 7] rfl (q1 rfl (z0 (mv rfl)) (q1 rfl (z0 (mv rfl)) (q1 rfl (z0 (mv rfl)) (q1 rfl (z0 (mv rfl)) (q1 rfl (z0u (mv rfl) (mv rfl)) (q1 rfl (z0 (mv rfl)) ?_)))))))))))
     refine q1 rfl (z0 (mv rfl)) (z0c h fun y31 ey31 h => n1 rfl (z3d 0 rfl (fun x => (z59 x).mem) (zj9 H) (args := [(eqv sv2), (iv .i64 v26), (iv .i64 (W (v26 + v12))), (iv .i64 v27), (fcmp P (fun x => (agg (z5 x))) y4)]) ⟨(mv rfl), (mv rfl), (mv rfl), (mv rfl), (mv rfl), trivial⟩ (z5i H φ v28 v26 (W (v26 + v12)) v27 y4 sv2 _ ey31) fun x32 nw33 hk34 => ?_))
     obtain ⟨rfl, rfl⟩ := hk34
     refine ⟨z7, ?_⟩
     refine rn (al [0, 1, 2, 6, 8] [0] rfl rfl rfl (sq (cs (cr [0, 1] rfl (q1 rfl (z0 (mv rfl)) (q1 rfl (z1 (mv rfl)) (rn (al [0, 1, 2, 6, 7, 8] [0] rfl rfl rfl (sq (cr [0, 1, 2, 3, 4] rfl (q1 rfl (z0 (mv rfl)) ?_)))))))))))
     refine q1 rfl (z0 (mv rfl)) (q1 rfl (z8v ct (mv rfl)) (q1 rfl (z0u (mv rfl) (mv rfl)) (q1 rfl (z1 (mv rfl)) (rn (AtX.in_normal ?_)))))
     exact AtX.to (ih29 (v27, (W (v27 + (W (2 * v12)))), y31) h) [0] (sl rfl) (ol rfl) rfl
    ·
     refine z2.exit (AtX.then_exit (AtX.then_exit (AtX.in_hit ?_)))
     exact AtX.to (hJ18 (v26, v28) h) [0] (sl rfl) (ol rfl) rfl
  ·
   refine z2.exit (AtX.then_exit (AtX.then_exit (AtX.in_hit (AtX.fall' (eqv (.tuple #[])) (z0k.zero Try.results55) [0] [(row 70 z5 10 v13 sv2)] (ol rfl) rfl ?_))))
   obtain rfl := Option.some.inj h
   exact ⟨_, rfl, rfl, rfl⟩
 ·
  refine z2.block ?_
  refine z2.to (z2.loop (fun n (z : Int × Int × (List z3)) => z0h φ v3 y4 (zy φ v3 y4) n z.1 z.2.1 z.2.2) r (fun z => ⟨zh.of [(0, (eqv sv2)), (1, (iv .i64 v3)), (2, (fcmp P (fun x => (agg (z5 x))) y4)), (6, (iv .i64 20)), (7, (iv .i64 z.1)), (8, (iv .i64 z.2.1))], [(row 70 z5 10 z.2.2 sv2)]⟩) (fun z => rfl) (fun n38 z ih38 h => ?_) φ (0, 20, v1) h) [0] (sl rfl) (ol rfl) rfl
  obtain ⟨v35, v36, v37⟩ := z
  replace h : z0h φ v3 y4 (zy φ v3 y4) (n38 + 1) v35 v36 v37 = some r := h
  rw [z0h] at h
  refine cs (cs (cr [0, 1, 2] rfl (q1 rfl (z0 (mv rfl)) (q1 rfl (z0 (mv rfl)) (q1 rfl (zae (mv rfl) (mv rfl)) (rn (al [0, 1, 2, 6, 7, 8, 13] [0] rfl rfl rfl (sq ?_))))))))
  refine cI h rfl (fun c39 h => ?_) (fun c39 h => ?_)
  ·
   refine z2.skip (al [0, 1, 2, 6, 7, 8] [0] rfl rfl rfl (sq (z2.block (cs (cr [0, 1, 2, 3, 4] rfl (q1 rfl (z0 (mv rfl)) (q1 rfl (z0 (mv rfl)) (q1 rfl (z0 (mv rfl)) (q1 rfl (z0 (mv rfl)) (z0c h fun y40 ey40 h => n1 rfl (z3d 0 rfl (fun x => (z59 x).mem) (zp5 H) (args := [(eqv sv2), (iv .i64 v35), (iv .i64 v36), (fcmp P (fun x => (agg (z5 x))) y4)]) ⟨(mv rfl), (mv rfl), (mv rfl), (mv rfl), trivial⟩ (z4y H φ v37 v35 v36 y4 sv2 _ ey40) fun x41 nw42 hk43 => ?_)))))))))))
   obtain ⟨rfl, rfl⟩ := hk43
   refine ⟨z7, ?_⟩
   refine rn (al [0, 1, 2, 6, 8] [0] rfl rfl rfl (sq (cs (cr [0, 1] rfl (q1 rfl (z0 (mv rfl)) (q1 rfl (z1 (mv rfl)) (rn (al [0, 1, 2, 6, 7, 8] [0] rfl rfl rfl (sq (cr [0, 1, 2, 3] rfl (q1 rfl (z0 (mv rfl)) ?_)))))))))))
   refine q1 rfl (z0 (mv rfl)) (q1 rfl (z0u (mv rfl) (mv rfl)) (q1 rfl (z1 (mv rfl)) (rn (AtX.in_normal ?_))))
   exact AtX.to (ih38 (v36, (W (v36 + 20)), y40) h) [0] (sl rfl) (ol rfl) rfl
  ·
   refine z2.exit (AtX.then_exit (AtX.then_exit (AtX.in_hit ?_)))
   exact AtX.to (hJ7 (v35, v37) h) [0] (sl rfl) (ol rfl) rfl
theorem z7z {P : Program} (H : P = Try.prog) (φ : Nat) (v1 : (List z3)) (y3 : (z3 → z3 → Option Int)) (sv2 : Value) (r : (List z3)) (h : z2m φ v1 y3 = some r) : MutT P 32 [(eqv sv2), (fcmp P (fun x => (agg (z5 x))) y3)] 70 z5 10 v1 sv2 (fun x l' => x = eqv (.tuple #[]) ∧ r = l') := by
 unfold z2m at h
 refine MutT.of_code 9 (fn32 H) rfl rfl (Nat.le_of_ble_eq_true rfl) fun w0 base r0 wI => ?_
 refine cl [0, 1] [0] rfl rfl rfl (cr [0, 1, 2, 3, 4] rfl (q1 rfl (z0 (mv rfl)) (q1 rfl (z0 (mv rfl)) (q1 rfl (z8e 0 (il53 H) (mv rfl) rfl) (q1 rfl (z0 (mv rfl)) (z0c h fun y4 ey4 h => n1 rfl (z3d 0 rfl (fun x => (z59 x).mem) (zrc H) (args := [(eqv sv2), (iv .i64 (v1.length : Int)), (fcmp P (fun x => (agg (z5 x))) y3)]) ⟨(mv rfl), (mv rfl), (mv rfl), trivial⟩ (z85 H φ v1 (v1.length : Int) y3 sv2 _ ey4) fun x5 nw6 hk7 => ?_)))))))
 obtain ⟨rfl, rfl⟩ := hk7
 refine ⟨z7, ?_⟩
 refine rn (AtX.fall' (eqv (.tuple #[])) (z0k.zero Try.results32) [0] [(row 70 z5 10 y4 sv2)] (ol rfl) rfl ?_)
 obtain rfl := Option.some.inj h
 exact ⟨_, rfl, rfl, rfl⟩
theorem zbd {P : Program} (H : P = Try.prog) (φ : Nat) (v1 : z3) (v2 : z3) (r : (Int)) (h : z4e φ v1 v2 = some r) : z1q P 33 [(agg (z5 v1)), (agg (z5 v2))] (fun x news => x = (iv .i64 r) ∧ news = []) := by
 unfold z4e at h
 refine z1q.of_code' 22 (fn33 H) rfl rfl (Nat.le_of_ble_eq_true rfl) fun w0 base r0 wI => ?_
 refine cl [0, 1] [] rfl rfl rfl (cs (cr [0, 1, 2] rfl (n1 rfl (z7u (Ce.agg (mv rfl)) fun b3 => n1 rfl (z7u (Ce.agg (mv rfl)) fun b4 => q1 rfl (z1 ct) (rn (al [2, 3] [0, 1] rfl rfl rfl (sq (cs (z0c h fun y5 ey5 h => z0c h fun y6 ey6 h => ?_))))))))))
 refine z0c h fun y7 ey7 h => z0c h fun y11 ey11 h => z2.draw (QR := [(0, _), (1, _), (2, _), (3, _), (4, _), (5, _), (6, _), (7, _), (8, _), (9, _), (10, _), (11, _), (12, _), (13, _), (14, _)]) (tab := [(some 5, []), (some 6, [0]), (some 7, []), (some 8, [2]), (some 9, [1, 3]), (some 10, []), (some 11, [5]), (some 12, []), (some 13, [7]), (some 14, [6, 8, 4]), (some 15, []), (some 16, [10]), (some 17, []), (some 18, [12]), (some 19, [11, 13, 9]), (some 20, [4, 9, 14]), (some 21, [15, 14]), (some 4, [16, 16, 0, 1, 2, 3, 4, 5, 6, 7, 8, 9, 10, 11, 12, 13, 14, 15, 16])]) (z5e H) (Reg.intro [15] [] (by kernel_rfl) rfl (an rfl) ⟨(qr rfl (z4 (zgl H) (mv rfl))), (qr rfl (lb (tl3 H) 0 (mv rfl) rfl rfl)), (qr rfl (z4 (zgl H) (mv rfl))), (qr rfl (lb (tl3 H) 1 (mv rfl) rfl rfl)), (qr rfl (oQ (zg4 H) (z6z H φ v1.fAt v2.fAt _ ey5) z7 ⟨ef (mv rfl), ef (mv rfl), trivial⟩)), (qr rfl (z4 (zls H) (mv rfl))), (qr rfl (lb (tl3 H) 0 (mv rfl) rfl rfl)), (qr rfl (z4 (zls H) (mv rfl))), (qr rfl (lb (tl3 H) 1 (mv rfl) rfl rfl)), (qr rfl (oQ (zg4 H) (z6z H φ v1.fWagon v2.fWagon _ ey6) z7 ⟨ef (mv rfl), ef (mv rfl), trivial⟩)), (qr rfl (z4 (zox H) (mv rfl))), (qr rfl (ln (tl43 H) ((Pt.box 0 (mv rfl) rfl rfl).take 2 (cs' := (eRef v1.fDeliver)) rfl) rfl)), (qr rfl (z4 (zox H) (mv rfl))), (qr rfl (ln (tl43 H) ((Pt.box 1 (mv rfl) rfl rfl).take 2 (cs' := (eRef v2.fDeliver)) rfl) rfl)), (qr rfl (oQ (zjj H) (z7h H φ v1.fDeliver v2.fDeliver _ ey7) z7 ⟨ef (mv rfl), ef (mv rfl), trivial⟩)), trivial⟩ ⟨⟨_, rfl, rfl, rfl, rfl, z1d (e := eI64) [y5, y6, y7] (sl96 H) lI64 rfl (by decide) ⟨rfl, (Ce.one (mv rfl) (One.eqv rfl)), ⟨rfl, (Ce.one (mv rfl) (One.eqv rfl)), ⟨rfl, (Ce.one (mv rfl) (One.eqv rfl)), trivial⟩⟩⟩ fun sv10 => ⟨[(16, (iv .i64 y11)), (17, (iv .i64 y11))], rfl, ?_⟩⟩, trivial⟩ ft)
 refine Reg.intro [] [0, 1, 2, 3, 4, 5, 6, 7, 8, 9, 10, 11, 12, 13, 14] (by kernel_rfl) rfl (an rfl) ⟨nf, nf, nf, nf, nf, nf, nf, nf, nf, nf, nf, nf, nf, nf, nf, (qr rfl (oQ (zjy H) (zch H φ [y5, y6, y7] _ ey11) z7 ⟨EvF.of (mv rfl) (FEnt.row 2 lI64 rfl), trivial⟩)), (qr rfl (z1 (mv rfl))), trivial⟩ trivial (fun _ => al [4] [] rfl rfl rfl (sq (z2.ret (AtX.ret' (iv .i64 y11) (z0k.one Try.results33 rfl) [] [] trivial rfl ?_))))
 obtain rfl := Option.some.inj h
 exact ⟨rfl, rfl⟩
theorem z7g {P : Program} (H : P = Try.prog) (φ : Nat) (v1 : Pool) (v2 : (List zf)) (r : ((List z3))) (h : z4l φ v1 v2 = some r) : z1q P 13 [(agg (z2k v1)), (ro zd 21 v2)] (zeg r) := by
 unfold z4l at h
 refine z1q.of_code' 67 (fn13 H) rfl rfl (Nat.le_of_ble_eq_true rfl) fun w0 base r0 wI => ?_
 refine z2.le' [(0, (agg (z2k v1))), (1, (ro zd 21 v2))] [] [] ⟨⟨_, rfl, Ent.refl⟩, ⟨_, rfl, Ent.refl⟩, trivial⟩ trivial rfl ?_
 refine z2.seq ?_
 refine z2.addNil 70 z5 10 ?_
 refine z2.region' [0, 1] rfl ?_
 refine zg.cons rfl rfl rfl (z7u (cs := (z2k v1)) (Ce.agg (Ev.tmp rfl)) fun b3 => zg.cons_q (eqv (.slice none 0 0)) rfl rfl rfl (z1 (Ev.const _)) (zg.nil (AtX.le' [(1, (ro zd 21 v2)), (2, (eqv (.pointer (some ⟨b3, 0, none⟩))))] [1] [(box b3 36 (z2k v1))] ⟨⟨_, rfl, Ent.refl⟩, ⟨_, rfl, Ent.refl⟩, trivial⟩ ⟨⟨_, rfl, EntH.refl⟩, trivial⟩ rfl (AtX.seq ?_))))
 refine z2.seq ?_
 refine z2.addNil 70 z5 10 ?_
 refine z2.region' [0] rfl ?_
 refine zg.cons_q (eqv (.slice none 0 0)) rfl rfl rfl (z1 (Ev.const _)) (zg.nil (AtX.le' [(1, (ro zd 21 v2)), (2, (eqv (.pointer (some ⟨b3, 0, none⟩)))), (5, (eqv (Value.slice none 0 0)))] [0, 1] [(box b3 36 (z2k v1)), (row 70 z5 10 ([] : List z3) (Value.slice none 0 0))] ⟨⟨_, rfl, Ent.refl⟩, ⟨_, rfl, Ent.refl⟩, ⟨_, rfl, Ent.refl⟩, trivial⟩ ⟨⟨_, rfl, EntH.refl⟩, ⟨_, rfl, EntH.refl⟩, trivial⟩ rfl (AtX.seq ?_)))
 refine z2.seq ?_
 refine z2.seq ?_
 refine z2.region' [0, 1, 2, 3, 4] rfl ?_
 refine zg.cons_q (agg (z2k v1)) rfl rfl rfl (z5r (tl36 H) ((Pt.box 0 (Ev.tmp rfl) rfl rfl).take 9 (cs' := (z2k v1)) rfl)) (zg.cons_q (ro zd 21 v2) rfl rfl rfl (z0 (Ev.tmp rfl)) (z0c h fun y4 ey4 h => zg.cons rfl rfl rfl (zim (zod H) (args := [(agg (z2k v1)), (ro zd 21 v2)]) ⟨EvF.of (Ev.tmp rfl) FEnt.refl, EvF.of (Ev.tmp rfl) FEnt.refl, trivial⟩ (z9z H φ v1 v2 _ ey4) fun x7 nw8 hk6 => ?_)))
 obtain ⟨sv5, rfl, rfl⟩ := hk6
 refine ⟨z7, z5u ⟨z56 zok, trivial⟩, ?_⟩
 refine zg.cons_q (iv .i64 (y4.length : Int)) rfl rfl rfl (z8e 2 (il87 H) (Ev.tmp rfl) rfl) (zg.cons_q (iv .i64 0) rfl rfl rfl (z0 (Ev.const _)) (zg.nil (AtX.le' [(1, (ro zd 21 v2)), (5, (eqv (Value.slice none 0 0))), (12, (eqv sv5)), (13, (iv .i64 (y4.length : Int))), (14, (iv .i64 0))] [1, 2] [(row 70 z5 10 ([] : List z3) (Value.slice none 0 0)), (row 89 z4x 2 y4 sv5)] ⟨⟨_, rfl, Ent.refl⟩, ⟨_, rfl, Ent.refl⟩, ⟨_, rfl, Ent.refl⟩, ⟨_, rfl, Ent.refl⟩, ⟨_, rfl, Ent.refl⟩, trivial⟩ ⟨⟨_, rfl, EntH.refl⟩, ⟨_, rfl, EntH.refl⟩, trivial⟩ rfl (AtX.seq ?_))))
 refine z2.join (fun z : (List z3) × Value => (z3a φ) z.1) r (fun z => ⟨zh.of [(5, (eqv z.2))], [(row 70 z5 10 z.1 z.2)]⟩) (fun z h => ?_) (fun hJ11 => ?_)
 ·
  obtain ⟨v9, sv10⟩ := z
  replace h : (z3a φ) v9 = some r := h
  unfold z3a at h
  change AtX _ ⟨zh.of [(5, (eqv sv10))], [(row 70 z5 10 v9 sv10)]⟩ _ _
  refine AtX.le' [(5, (eqv sv10))] [0] [(row 70 z5 10 v9 sv10)] ⟨⟨_, rfl, Ent.refl⟩, trivial⟩ ⟨⟨_, rfl, EntH.refl⟩, trivial⟩ rfl (AtX.seq ?_)
  refine z2.seq ?_
  refine z2.region' [0, 1] rfl ?_
  refine zg.cons_q (eqv sv10) rfl rfl rfl (z0 (Ev.tmp rfl)) (z0c h fun y12 ey12 h => zg.cons rfl rfl rfl (z3d 0 rfl (fun x => (z59 x).mem) (zrn H) (args := [(eqv sv10), (fcmp P (fun x => (agg (z5 x))) (fun a b => z4e φ a b))]) ⟨(Ev.tmp rfl), (Ev.ent (Ev.ent (Ev.func _) zl1) (zbn (zs0 H) (fun a b cc hc => zbd H φ a b cc hc))), trivial⟩ (z7z H φ v9 (fun a b => z4e φ a b) sv10 _ ey12) fun x13 nw14 hk15 => ?_))
  obtain ⟨rfl, rfl⟩ := hk15
  refine ⟨z7, ?_⟩
  refine zg.nil (AtX.le' [(5, (eqv sv10))] [0] [(row 70 z5 10 y12 sv10)] ⟨⟨_, rfl, Ent.refl⟩, trivial⟩ ⟨⟨_, rfl, EntH.refl⟩, trivial⟩ rfl (AtX.seq ?_))
  refine z2.seq ?_
  refine z2.region' [0, 1] rfl ?_
  refine zg.cons_q (eqv sv10) rfl rfl rfl (z0 (Ev.tmp rfl)) (zg.cons_q (eqv sv10) rfl rfl rfl (z1 (Ev.tmp rfl)) (zg.nil (AtX.le' [(4, (eqv sv10))] [0] [(row 70 z5 10 y12 sv10)] ⟨⟨_, rfl, Ent.refl⟩, trivial⟩ ⟨⟨_, rfl, EntH.refl⟩, trivial⟩ rfl (AtX.seq (z2.ret (AtX.ret' (eqv sv10) (z0k.one Try.results13 rfl) [0] [(row 70 z5 10 y12 sv10)] ⟨⟨_, rfl, EntH.refl⟩, trivial⟩ rfl ?_))))))
  obtain rfl := Option.some.inj h
  exact ⟨sv10, rfl, rfl⟩
 ·
  refine z2.block ?_
  refine z2.to (z2.loop (fun n (z : Int × (List z3) × Value) => z2d φ v2 y4 (z3a φ) n z.1 z.2.1) r (fun z => ⟨zh.of [(1, (ro zd 21 v2)), (5, (eqv z.2.2)), (12, (eqv sv5)), (13, (iv .i64 (y4.length : Int))), (14, (iv .i64 z.1))], [(row 70 z5 10 z.2.1 z.2.2), (row 89 z4x 2 y4 sv5)]⟩) (fun z => rfl) (fun n19 z ih19 h => ?_) φ (0, ([] : List z3), (Value.slice none 0 0)) h) [0, 1] ⟨⟨_, rfl, Ent.refl⟩, ⟨_, rfl, Ent.refl⟩, ⟨_, rfl, Ent.refl⟩, ⟨_, rfl, Ent.refl⟩, ⟨_, rfl, Ent.refl⟩, trivial⟩ ⟨⟨_, rfl, EntH.refl⟩, ⟨_, rfl, EntH.refl⟩, trivial⟩ rfl
  obtain ⟨v16, v17, sv18⟩ := z
  replace h : z2d φ v2 y4 (z3a φ) (n19 + 1) v16 v17 = some r := h
  rw [z2d] at h
  change z2 _ _ ⟨zh.of [(1, (ro zd 21 v2)), (5, (eqv sv18)), (12, (eqv sv5)), (13, (iv .i64 (y4.length : Int))), (14, (iv .i64 v16))], [(row 70 z5 10 v17 sv18), (row 89 z4x 2 y4 sv5)]⟩ _
  refine z2.seq ?_
  refine z2.region' [0] rfl ?_
  refine zg.cons_q (bv (decide (v16 < (y4.length : Int)))) rfl rfl rfl (z1l (Ev.tmp rfl) (Ev.tmp rfl)) (zg.nil (AtX.le' [(1, (ro zd 21 v2)), (5, (eqv sv18)), (12, (eqv sv5)), (13, (iv .i64 (y4.length : Int))), (14, (iv .i64 v16)), (15, (bv (decide (v16 < (y4.length : Int)))))] [0, 1] [(row 70 z5 10 v17 sv18), (row 89 z4x 2 y4 sv5)] ⟨⟨_, rfl, Ent.refl⟩, ⟨_, rfl, Ent.refl⟩, ⟨_, rfl, Ent.refl⟩, ⟨_, rfl, Ent.refl⟩, ⟨_, rfl, Ent.refl⟩, ⟨_, rfl, Ent.refl⟩, trivial⟩ ⟨⟨_, rfl, EntH.refl⟩, ⟨_, rfl, EntH.refl⟩, trivial⟩ rfl (AtX.seq ?_)))
  refine z2.seq ?_
  refine cI h rfl (fun c20 h => ?_) (fun c20 h => ?_)
  ·
   refine z2.skip (AtX.le' [(1, (ro zd 21 v2)), (5, (eqv sv18)), (12, (eqv sv5)), (13, (iv .i64 (y4.length : Int))), (14, (iv .i64 v16))] [0, 1] [(row 70 z5 10 v17 sv18), (row 89 z4x 2 y4 sv5)] ⟨⟨_, rfl, Ent.refl⟩, ⟨_, rfl, Ent.refl⟩, ⟨_, rfl, Ent.refl⟩, ⟨_, rfl, Ent.refl⟩, ⟨_, rfl, Ent.refl⟩, trivial⟩ ⟨⟨_, rfl, EntH.refl⟩, ⟨_, rfl, EntH.refl⟩, trivial⟩ rfl (AtX.seq ?_))
   refine z2.seq ?_
   refine z2.block ?_
   refine z2.seq ?_
   refine z2.region' [0, 1, 2, 3] rfl ?_
   refine ckE h fun h21 h => zg.cons_q (rowp sv5 ((v16 : Int).toNat * 2)) rfl rfl rfl (zi 1 (ix87 H) (Ev.tmp rfl) rfl (Ev.tmp rfl) (h21).1 (h21).2) (zg.cons_q (agg (z4x (gt y4 v16))) rfl rfl rfl (zco (tl89 H) (by simp [zao lI64, z4x]) ((Pt.row _ 1 (k := (v16 : Int).toNat) (fo := 0) zjt (Ev.tmp rfl) rfl (by omega) (z9 h21) rfl).take 2 (cs' := (z4x (gt y4 v16))) rfl)) (zg.cons rfl rfl rfl (zhd (e := eI64) 0 [.int .i64 0] (za89 H) rfl rfl fun b22 => zg.cons rfl rfl rfl (zai 2 (cells := ([] ++ arr 2 eI64 (fun _ => 0) ++ [])) (cs := (z4x (gt y4 v16))) (out := ([] ++ arr 2 eI64 (gt y4 v16) ++ [])) (tl89 H) (Ev.tmp rfl) (Ce.agg (Ev.tmp rfl)) rfl rfl (Nat.le_of_ble_eq_true rfl) rfl (zg.nil (AtX.le' [(1, (ro zd 21 v2)), (5, (eqv sv18)), (7, (eqv (.pointer (some ⟨b22, 0, none⟩)))), (12, (eqv sv5)), (13, (iv .i64 (y4.length : Int))), (14, (iv .i64 v16))] [0, 1, 2] [(row 70 z5 10 v17 sv18), (row 89 z4x 2 y4 sv5), (box b22 89 ([] ++ arr 2 eI64 (gt y4 v16) ++ []))] ⟨⟨_, rfl, Ent.refl⟩, ⟨_, rfl, Ent.refl⟩, ⟨_, rfl, Ent.refl⟩, ⟨_, rfl, Ent.refl⟩, ⟨_, rfl, Ent.refl⟩, ⟨_, rfl, Ent.refl⟩, trivial⟩ ⟨⟨_, rfl, EntH.refl⟩, ⟨_, rfl, EntH.refl⟩, ⟨_, rfl, EntH.refl⟩, trivial⟩ rfl (AtX.seq ?_)))))))
   refine z2.seq ?_
   refine z2.join (fun z : Nat × Nat => (z66 φ v2 y4 v16 v17 (z2d φ v2 y4 (z3a φ) n19))) r (fun z => ⟨zh.of [(1, (ro zd 21 v2)), (5, (eqv sv18)), (8, (eqv (.pointer (some ⟨z.1, 0, none⟩)))), (9, (eqv (.pointer (some ⟨z.2, 0, none⟩)))), (12, (eqv sv5)), (13, (iv .i64 (y4.length : Int))), (14, (iv .i64 v16))], [(row 70 z5 10 v17 sv18), (row 89 z4x 2 y4 sv5), (box z.1 48 (zd (gt v2 ((gt y4 v16) 0)))), (box z.2 48 (zd (gt v2 ((gt y4 v16) 1))))]⟩) (fun z h => ?_) (fun hJ25 => ?_)
   ·
    obtain ⟨b23, b24⟩ := z
    replace h : (z66 φ v2 y4 v16 v17 (z2d φ v2 y4 (z3a φ) n19)) = some r := h
    unfold z66 at h
    change AtX _ ⟨zh.of [(1, (ro zd 21 v2)), (5, (eqv sv18)), (8, (eqv (.pointer (some ⟨b23, 0, none⟩)))), (9, (eqv (.pointer (some ⟨b24, 0, none⟩)))), (12, (eqv sv5)), (13, (iv .i64 (y4.length : Int))), (14, (iv .i64 v16))], [(row 70 z5 10 v17 sv18), (row 89 z4x 2 y4 sv5), (box b23 48 (zd (gt v2 ((gt y4 v16) 0)))), (box b24 48 (zd (gt v2 ((gt y4 v16) 1))))]⟩ _ _
    refine AtX.le' [(1, (ro zd 21 v2)), (5, (eqv sv18)), (8, (eqv (.pointer (some ⟨b23, 0, none⟩)))), (9, (eqv (.pointer (some ⟨b24, 0, none⟩)))), (12, (eqv sv5)), (13, (iv .i64 (y4.length : Int))), (14, (iv .i64 v16))] [0, 1, 2, 3] [(row 70 z5 10 v17 sv18), (row 89 z4x 2 y4 sv5), (box b23 48 (zd (gt v2 ((gt y4 v16) 0)))), (box b24 48 (zd (gt v2 ((gt y4 v16) 1))))] ⟨⟨_, rfl, Ent.refl⟩, ⟨_, rfl, Ent.refl⟩, ⟨_, rfl, Ent.refl⟩, ⟨_, rfl, Ent.refl⟩, ⟨_, rfl, Ent.refl⟩, ⟨_, rfl, Ent.refl⟩, ⟨_, rfl, Ent.refl⟩, trivial⟩ ⟨⟨_, rfl, EntH.refl⟩, ⟨_, rfl, EntH.refl⟩, ⟨_, rfl, EntH.refl⟩, ⟨_, rfl, EntH.refl⟩, trivial⟩ rfl (AtX.seq ?_)
    refine z2.region' [0, 1, 2, 3, 4, 5, 6, 7, 8, 9, 10, 11, 12, 13, 14, 15, 16, 17, 18, 19, 20, 21, 22, 23, 24, 25, 26, 27, 28, 29, 30, 31, 32, 33, 34, 35] rfl ?_
    refine zg.cons_q (eqv sv18) rfl rfl rfl (z0 (Ev.tmp rfl)) (zg.cons_q (eqv (.pointer (some ⟨b23, 5, none⟩))) rfl rfl rfl (z4 (z65 H) (Ev.tmp rfl)) (zg.cons_q (eqv (.pointer (some ⟨b23, 8, none⟩))) rfl rfl rfl (z4 (zg2 H) (Ev.tmp rfl)) (zg.cons_q (iv .i64 ((gt v2 ((gt y4 v16) 0)).fItem.fWagon)) rfl rfl rfl (z1n (tl3 H) ((Pt.box 2 (Ev.tmp rfl) rfl rfl).take 1 (cs' := [(iv .i64 ((gt v2 ((gt y4 v16) 0)).fItem.fWagon))]) rfl)) (zg.cons_q (eqv (.pointer (some ⟨b23, 5, none⟩))) rfl rfl rfl (z4 (z65 H) (Ev.tmp rfl)) (zg.cons_q (eqv (.pointer (some ⟨b23, 9, none⟩))) rfl rfl rfl (z4 (zbg H) (Ev.tmp rfl)) (zg.cons_q (iv .i64 ((gt v2 ((gt y4 v16) 0)).fItem.fPlace)) rfl rfl rfl (z1n (tl3 H) ((Pt.box 2 (Ev.tmp rfl) rfl rfl).take 1 (cs' := [(iv .i64 ((gt v2 ((gt y4 v16) 0)).fItem.fPlace))]) rfl)) (zg.cons_q (eqv (.pointer (some ⟨b23, 0, none⟩))) rfl rfl rfl (z4 (z9t H) (Ev.tmp rfl)) (zg.cons_q (eqv (.pointer (some ⟨b23, 0, none⟩))) rfl rfl rfl (z4 (zav H) (Ev.tmp rfl)) (zg.cons_q (iv .i64 ((gt v2 ((gt y4 v16) 0)).fRef.fRailway)) rfl rfl rfl (z1n (tl3 H) ((Pt.box 2 (Ev.tmp rfl) rfl rfl).take 1 (cs' := [(iv .i64 ((gt v2 ((gt y4 v16) 0)).fRef.fRailway))]) rfl)) (zg.cons_q (eqv (.pointer (some ⟨b24, 0, none⟩))) rfl rfl rfl (z4 (z9t H) (Ev.tmp rfl)) (zg.cons_q (eqv (.pointer (some ⟨b24, 0, none⟩))) rfl rfl rfl (z4 (zav H) (Ev.tmp rfl)) ?_)))))))))))
    refine zg.cons_q (iv .i64 ((gt v2 ((gt y4 v16) 1)).fRef.fRailway)) rfl rfl rfl (z1n (tl3 H) ((Pt.box 3 (Ev.tmp rfl) rfl rfl).take 1 (cs' := [(iv .i64 ((gt v2 ((gt y4 v16) 1)).fRef.fRailway))]) rfl)) (zg.cons_q (eqv (.pointer (some ⟨b23, 5, none⟩))) rfl rfl rfl (z4 (z65 H) (Ev.tmp rfl)) (zg.cons_q (eqv (.pointer (some ⟨b23, 12, none⟩))) rfl rfl rfl (z4 (zaq H) (Ev.tmp rfl)) (zg.cons_q (iv .i64 ((gt v2 ((gt y4 v16) 0)).fItem.fFrom)) rfl rfl rfl (z1n (tl3 H) ((Pt.box 2 (Ev.tmp rfl) rfl rfl).take 1 (cs' := [(iv .i64 ((gt v2 ((gt y4 v16) 0)).fItem.fFrom))]) rfl)) (zg.cons_q (eqv (.pointer (some ⟨b24, 5, none⟩))) rfl rfl rfl (z4 (z65 H) (Ev.tmp rfl)) (zg.cons_q (eqv (.pointer (some ⟨b24, 12, none⟩))) rfl rfl rfl (z4 (zaq H) (Ev.tmp rfl)) (zg.cons_q (iv .i64 ((gt v2 ((gt y4 v16) 1)).fItem.fFrom)) rfl rfl rfl (z1n (tl3 H) ((Pt.box 3 (Ev.tmp rfl) rfl rfl).take 1 (cs' := [(iv .i64 ((gt v2 ((gt y4 v16) 1)).fItem.fFrom))]) rfl)) (zg.cons_q (iv .i64 (W (((gt v2 ((gt y4 v16) 0)).fItem.fFrom) + ((gt v2 ((gt y4 v16) 1)).fItem.fFrom)))) rfl rfl rfl (z0u (Ev.tmp rfl) (Ev.tmp rfl)) (zg.cons_q (iv .i64 (W ((W (((gt v2 ((gt y4 v16) 0)).fItem.fFrom) + ((gt v2 ((gt y4 v16) 1)).fItem.fFrom))).tdiv 2))) rfl rfl rfl (zmx (Ev.tmp rfl) (Ev.const _) (by decide)) (zg.cons_q (eqv (.pointer (some ⟨b23, 5, none⟩))) rfl rfl rfl (z4 (z65 H) (Ev.tmp rfl)) (zg.cons_q (eqv (.pointer (some ⟨b23, 14, none⟩))) rfl rfl rfl (z4 (zjo H) (Ev.tmp rfl)) (zg.cons_q (iv .i64 ((gt v2 ((gt y4 v16) 0)).fItem.fCode)) rfl rfl rfl (z1n (tl3 H) ((Pt.box 2 (Ev.tmp rfl) rfl rfl).take 1 (cs' := [(iv .i64 ((gt v2 ((gt y4 v16) 0)).fItem.fCode))]) rfl)) ?_)))))))))))
    refine zg.cons_q (eqv (.pointer (some ⟨b24, 5, none⟩))) rfl rfl rfl (z4 (z65 H) (Ev.tmp rfl)) (zg.cons_q (eqv (.pointer (some ⟨b24, 14, none⟩))) rfl rfl rfl (z4 (zjo H) (Ev.tmp rfl)) (zg.cons_q (iv .i64 ((gt v2 ((gt y4 v16) 1)).fItem.fCode)) rfl rfl rfl (z1n (tl3 H) ((Pt.box 3 (Ev.tmp rfl) rfl rfl).take 1 (cs' := [(iv .i64 ((gt v2 ((gt y4 v16) 1)).fItem.fCode))]) rfl)) (zg.cons_q (iv .i64 (max2 ((gt v2 ((gt y4 v16) 0)).fItem.fCode) ((gt v2 ((gt y4 v16) 1)).fItem.fCode))) rfl rfl rfl (zpx (n := [(gt v2 ((gt y4 v16) 1)).fItem.fCode]) (Ev.tmp rfl) ⟨(Ev.tmp rfl), trivial⟩) (zg.cons_q (eqv (.pointer (some ⟨b23, 0, none⟩))) rfl rfl rfl (z4 (z9t H) (Ev.tmp rfl)) (zg.cons_q (agg (eRef (gt v2 ((gt y4 v16) 0)).fRef)) rfl rfl rfl (z5r (tl43 H) ((Pt.box 2 (Ev.tmp rfl) rfl rfl).take 2 (cs' := (eRef (gt v2 ((gt y4 v16) 0)).fRef)) rfl)) (zg.cons_q (eqv (.pointer (some ⟨b24, 0, none⟩))) rfl rfl rfl (z4 (z9t H) (Ev.tmp rfl)) (zg.cons_q (agg (eRef (gt v2 ((gt y4 v16) 1)).fRef)) rfl rfl rfl (z5r (tl43 H) ((Pt.box 3 (Ev.tmp rfl) rfl rfl).take 2 (cs' := (eRef (gt v2 ((gt y4 v16) 1)).fRef)) rfl)) (zg.cons_q (agg [(iv .i64 ((gt v2 ((gt y4 v16) 0)).fItem.fWagon)), (iv .i64 ((gt v2 ((gt y4 v16) 0)).fItem.fPlace)), (iv .i64 ((gt v2 ((gt y4 v16) 0)).fRef.fRailway)), (iv .i64 ((gt v2 ((gt y4 v16) 1)).fRef.fRailway)), (iv .i64 (W ((W (((gt v2 ((gt y4 v16) 0)).fItem.fFrom) + ((gt v2 ((gt y4 v16) 1)).fItem.fFrom))).tdiv 2))), (iv .i64 (max2 ((gt v2 ((gt y4 v16) 0)).fItem.fCode) ((gt v2 ((gt y4 v16) 1)).fItem.fCode))), (iv .i64 ((gt v2 ((gt y4 v16) 0)).fRef.fRailway)), (iv .i64 ((gt v2 ((gt y4 v16) 0)).fRef.fNo)), (iv .i64 ((gt v2 ((gt y4 v16) 1)).fRef.fRailway)), (iv .i64 ((gt v2 ((gt y4 v16) 1)).fRef.fNo))]) rfl rfl rfl (z3q [.int .i64 0, .int .i64 0, .int .i64 0, .int .i64 0, .int .i64 0, .int .i64 0, .int .i64 0, .int .i64 0, .int .i64 0, .int .i64 0] [(0, [(iv .i64 ((gt v2 ((gt y4 v16) 0)).fItem.fWagon))]), (1, [(iv .i64 ((gt v2 ((gt y4 v16) 0)).fItem.fPlace))]), (2, [(iv .i64 ((gt v2 ((gt y4 v16) 0)).fRef.fRailway))]), (3, [(iv .i64 ((gt v2 ((gt y4 v16) 1)).fRef.fRailway))]), (4, [(iv .i64 (W ((W (((gt v2 ((gt y4 v16) 0)).fItem.fFrom) + ((gt v2 ((gt y4 v16) 1)).fItem.fFrom))).tdiv 2)))]), (5, [(iv .i64 (max2 ((gt v2 ((gt y4 v16) 0)).fItem.fCode) ((gt v2 ((gt y4 v16) 1)).fItem.fCode)))]), (6, (eRef (gt v2 ((gt y4 v16) 0)).fRef)), (8, (eRef (gt v2 ((gt y4 v16) 1)).fRef))] (out := [(iv .i64 ((gt v2 ((gt y4 v16) 0)).fItem.fWagon)), (iv .i64 ((gt v2 ((gt y4 v16) 0)).fItem.fPlace)), (iv .i64 ((gt v2 ((gt y4 v16) 0)).fRef.fRailway)), (iv .i64 ((gt v2 ((gt y4 v16) 1)).fRef.fRailway)), (iv .i64 (W ((W (((gt v2 ((gt y4 v16) 0)).fItem.fFrom) + ((gt v2 ((gt y4 v16) 1)).fItem.fFrom))).tdiv 2))), (iv .i64 (max2 ((gt v2 ((gt y4 v16) 0)).fItem.fCode) ((gt v2 ((gt y4 v16) 1)).fItem.fCode))), (iv .i64 ((gt v2 ((gt y4 v16) 0)).fRef.fRailway)), (iv .i64 ((gt v2 ((gt y4 v16) 0)).fRef.fNo)), (iv .i64 ((gt v2 ((gt y4 v16) 1)).fRef.fRailway)), (iv .i64 ((gt v2 ((gt y4 v16) 1)).fRef.fNo))]) (ze70 H) rfl (tb70 H) ⟨(zrb H), Nat.le_of_ble_eq_true rfl, (Ce.one (Ev.tmp rfl) (One.eqv rfl)), ⟨(zp1 H), Nat.le_of_ble_eq_true rfl, (Ce.one (Ev.tmp rfl) (One.eqv rfl)), ⟨(ztm H), Nat.le_of_ble_eq_true rfl, (Ce.one (Ev.tmp rfl) (One.eqv rfl)), ⟨(zny H), Nat.le_of_ble_eq_true rfl, (Ce.one (Ev.tmp rfl) (One.eqv rfl)), ⟨(zo8 H), Nat.le_of_ble_eq_true rfl, (Ce.one (Ev.tmp rfl) (One.eqv rfl)), ⟨(zof H), Nat.le_of_ble_eq_true rfl, (Ce.one (Ev.tmp rfl) (One.eqv rfl)), ⟨(zow H), Nat.le_of_ble_eq_true rfl, (Ce.agg (Ev.tmp rfl)), ⟨(zob H), Nat.le_of_ble_eq_true rfl, (Ce.agg (Ev.tmp rfl)), trivial⟩⟩⟩⟩⟩⟩⟩⟩ rfl) ?_))))))))
    refine zg.cons rfl rfl rfl (z1d (e := z5) [(z3.mk (gt v2 ((gt y4 v16) 0)).fItem.fWagon (gt v2 ((gt y4 v16) 0)).fItem.fPlace (gt v2 ((gt y4 v16) 0)).fRef.fRailway (gt v2 ((gt y4 v16) 1)).fRef.fRailway (W ((W (((gt v2 ((gt y4 v16) 0)).fItem.fFrom) + ((gt v2 ((gt y4 v16) 1)).fItem.fFrom))).tdiv 2)) (max2 ((gt v2 ((gt y4 v16) 0)).fItem.fCode) ((gt v2 ((gt y4 v16) 1)).fItem.fCode)) (gt v2 ((gt y4 v16) 0)).fRef (gt v2 ((gt y4 v16) 1)).fRef)] (sl53 H) z1t rfl (by decide) ⟨rfl, (Ce.agg (Ev.tmp rfl)), trivial⟩ fun sv26 => ckE h fun h27 h => zg.cons rfl rfl rfl (z9p 0 (l := v17) (m := [(z3.mk (gt v2 ((gt y4 v16) 0)).fItem.fWagon (gt v2 ((gt y4 v16) 0)).fItem.fPlace (gt v2 ((gt y4 v16) 0)).fRef.fRailway (gt v2 ((gt y4 v16) 1)).fRef.fRailway (W ((W (((gt v2 ((gt y4 v16) 0)).fItem.fFrom) + ((gt v2 ((gt y4 v16) 1)).fItem.fFrom))).tdiv 2)) (max2 ((gt v2 ((gt y4 v16) 0)).fItem.fCode) ((gt v2 ((gt y4 v16) 1)).fItem.fCode)) (gt v2 ((gt y4 v16) 0)).fRef (gt v2 ((gt y4 v16) 1)).fRef)]) (sl53 H) z1t (Ev.tmp rfl) rfl (Src.row 4 (Ev.tmp rfl) rfl) h27 (z99 (by decide) h27) fun sv28 => zg.cons_q (eqv sv28) rfl rfl rfl (z1 (Ev.tmp rfl)) (zg.nil (AtX.in_normal (AtX.le' [(1, (ro zd 21 v2)), (5, (eqv sv28)), (12, (eqv sv5)), (13, (iv .i64 (y4.length : Int))), (14, (iv .i64 v16))] [0, 1] [(row 70 z5 10 (v17 ++ [(z3.mk (gt v2 ((gt y4 v16) 0)).fItem.fWagon (gt v2 ((gt y4 v16) 0)).fItem.fPlace (gt v2 ((gt y4 v16) 0)).fRef.fRailway (gt v2 ((gt y4 v16) 1)).fRef.fRailway (W ((W (((gt v2 ((gt y4 v16) 0)).fItem.fFrom) + ((gt v2 ((gt y4 v16) 1)).fItem.fFrom))).tdiv 2)) (max2 ((gt v2 ((gt y4 v16) 0)).fItem.fCode) ((gt v2 ((gt y4 v16) 1)).fItem.fCode)) (gt v2 ((gt y4 v16) 0)).fRef (gt v2 ((gt y4 v16) 1)).fRef)]) sv28), (row 89 z4x 2 y4 sv5)] ⟨⟨_, rfl, Ent.refl⟩, ⟨_, rfl, Ent.refl⟩, ⟨_, rfl, Ent.refl⟩, ⟨_, rfl, Ent.refl⟩, ⟨_, rfl, Ent.refl⟩, trivial⟩ ⟨⟨_, rfl, EntH.refl⟩, ⟨_, rfl, EntH.refl⟩, trivial⟩ rfl (AtX.seq ?_))))))
    refine z2.region' [0, 1] rfl ?_
    refine zg.cons_q (iv .i64 (W (v16 + 1))) rfl rfl rfl (z0u (Ev.tmp rfl) (Ev.const _)) (zg.cons_q (iv .i64 (W (v16 + 1))) rfl rfl rfl (z0 (Ev.tmp rfl)) (zg.nil ?_))
    exact AtX.to (ih19 ((W (v16 + 1)), (v17 ++ [(z3.mk (gt v2 ((gt y4 v16) 0)).fItem.fWagon (gt v2 ((gt y4 v16) 0)).fItem.fPlace (gt v2 ((gt y4 v16) 0)).fRef.fRailway (gt v2 ((gt y4 v16) 1)).fRef.fRailway (W ((W (((gt v2 ((gt y4 v16) 0)).fItem.fFrom) + ((gt v2 ((gt y4 v16) 1)).fItem.fFrom))).tdiv 2)) (max2 ((gt v2 ((gt y4 v16) 0)).fItem.fCode) ((gt v2 ((gt y4 v16) 1)).fItem.fCode)) (gt v2 ((gt y4 v16) 0)).fRef (gt v2 ((gt y4 v16) 1)).fRef)]), sv28) h) [0, 1] ⟨⟨_, rfl, Ent.refl⟩, ⟨_, rfl, Ent.refl⟩, ⟨_, rfl, Ent.refl⟩, ⟨_, rfl, Ent.refl⟩, ⟨_, rfl, Ent.refl⟩, trivial⟩ ⟨⟨_, rfl, EntH.refl⟩, ⟨_, rfl, EntH.refl⟩, trivial⟩ rfl
   ·
    refine ckE h fun h29 h => ckE h fun h30 h => ?_
    refine z2.draw (QR := [(0, (ro zd 21 v2)), (1, (eqv (.pointer (some ⟨b22, 0, none⟩)))), (2, (iv .i64 ((gt y4 v16) 0))), (3, (rop (zd (gt v2 ((gt y4 v16) 0))))), (4, (agg (zd (gt v2 ((gt y4 v16) 0))))), (5, (ro zd 21 v2)), (6, (eqv (.pointer (some ⟨b22, 1, none⟩)))), (7, (iv .i64 ((gt y4 v16) 1))), (8, (rop (zd (gt v2 ((gt y4 v16) 1))))), (9, (agg (zd (gt v2 ((gt y4 v16) 1)))))]) (tab := [(some 18, []), (some 19, []), (some 20, [1]), (some 21, [0, 2]), (some 22, [3]), (some 23, []), (some 24, []), (some 25, [6]), (some 26, [5, 7]), (some 27, [8]), (some 8, []), (some 9, []), (none, [10, 4, 0, 1, 2, 3, 4, 10, 11]), (none, [11, 9, 12, 0, 1, 2, 3, 4, 5, 6, 7, 8, 9, 10, 11, 12])]) (z5e H) (Reg.intro [10, 11] [] (by kernel_rfl) rfl ⟨rfl, rfl, rfl, rfl, rfl, rfl, rfl, rfl, rfl, rfl, trivial⟩ ⟨(fun _ => ⟨_, rfl, (z0 (Ev.tmp rfl))⟩), (fun _ => ⟨_, rfl, (z5b (ix89 H) (Ev.tmp rfl) (Ev.const _) (by decide) (by decide))⟩), (fun _ => ⟨_, rfl, (z1n (tl3 H) (Pt.ofArr (e := eI64) 2 (k := 0) (Ev.tmp rfl) rfl lI64 rfl (by decide)))⟩), (fun _ => ⟨_, rfl, (z0e (e := zd) (y := (gt v2 ((gt y4 v16) 0))) (ix37 H) (Ev.tmp rfl) (Ev.tmp rfl) (h29).1 (z9 h29))⟩), (fun _ => ⟨_, rfl, (z5r (tl48 H) (Pt.rop (Ev.tmp rfl)))⟩), (fun _ => ⟨_, rfl, (z0 (Ev.tmp rfl))⟩), (fun _ => ⟨_, rfl, (z5b (ix89 H) (Ev.tmp rfl) (Ev.const _) (by decide) (by decide))⟩), (fun _ => ⟨_, rfl, (z1n (tl3 H) (Pt.ofArr (e := eI64) 2 (k := 1) (Ev.tmp rfl) rfl lI64 rfl (by decide)))⟩), (fun _ => ⟨_, rfl, (z0e (e := zd) (y := (gt v2 ((gt y4 v16) 1))) (ix37 H) (Ev.tmp rfl) (Ev.tmp rfl) (h30).1 (z9 h30))⟩), (fun _ => ⟨_, rfl, (z5r (tl48 H) (Pt.rop (Ev.tmp rfl)))⟩), trivial⟩ ⟨⟨_, rfl, rfl, rfl, rfl, z3p [.int .i64 0, .int .i64 0, .int .i64 0, .int .i64 0, .int .i64 0, .int .i64 0, .int .i64 0, .int .i64 0, .int .i64 0, .int .i64 0, .int .i64 0, .int .i64 0, .int .i64 0, .int .i64 0, .int .i64 0, .int .i64 0, .int .i64 0, .int .i64 0, .int .i64 0, .string ⟨#[]⟩, .slice none 0 0] (ze48 H) rfl fun b34 => ⟨[], rfl, ?_⟩⟩, ⟨_, rfl, rfl, rfl, rfl, z3p [.int .i64 0, .int .i64 0, .int .i64 0, .int .i64 0, .int .i64 0, .int .i64 0, .int .i64 0, .int .i64 0, .int .i64 0, .int .i64 0, .int .i64 0, .int .i64 0, .int .i64 0, .int .i64 0, .int .i64 0, .int .i64 0, .int .i64 0, .int .i64 0, .int .i64 0, .string ⟨#[]⟩, .slice none 0 0] (ze48 H) rfl fun b34 => ⟨[], rfl, ?_⟩⟩, trivial⟩ (fun hc => Bool.noConfusion (hc : false = true)))
    ·
     refine Reg.intro [11] [] (by kernel_rfl) rfl ⟨rfl, rfl, rfl, rfl, rfl, rfl, rfl, rfl, rfl, rfl, trivial⟩ ⟨(fun _ => ⟨_, rfl, (z0 (Ev.tmp rfl))⟩), (fun _ => ⟨_, rfl, (z5b (ix89 H) (Ev.tmp rfl) (Ev.const _) (by decide) (by decide))⟩), (fun _ => ⟨_, rfl, (z1n (tl3 H) (Pt.ofArr (e := eI64) 2 (k := 0) (Ev.tmp rfl) rfl lI64 rfl (by decide)))⟩), (fun _ => ⟨_, rfl, (z0e (e := zd) (y := (gt v2 ((gt y4 v16) 0))) (ix37 H) (Ev.tmp rfl) (Ev.tmp rfl) (h29).1 (z9 h29))⟩), (fun _ => ⟨_, rfl, (z5r (tl48 H) (Pt.rop (Ev.tmp rfl)))⟩), (fun _ => ⟨_, rfl, (z0 (Ev.tmp rfl))⟩), (fun _ => ⟨_, rfl, (z5b (ix89 H) (Ev.tmp rfl) (Ev.const _) (by decide) (by decide))⟩), (fun _ => ⟨_, rfl, (z1n (tl3 H) (Pt.ofArr (e := eI64) 2 (k := 1) (Ev.tmp rfl) rfl lI64 rfl (by decide)))⟩), (fun _ => ⟨_, rfl, (z0e (e := zd) (y := (gt v2 ((gt y4 v16) 1))) (ix37 H) (Ev.tmp rfl) (Ev.tmp rfl) (h30).1 (z9 h30))⟩), (fun _ => ⟨_, rfl, (z5r (tl48 H) (Pt.rop (Ev.tmp rfl)))⟩), trivial⟩ ⟨⟨_, rfl, rfl, rfl, rfl, z3p [.int .i64 0, .int .i64 0, .int .i64 0, .int .i64 0, .int .i64 0, .int .i64 0, .int .i64 0, .int .i64 0, .int .i64 0, .int .i64 0, .int .i64 0, .int .i64 0, .int .i64 0, .int .i64 0, .int .i64 0, .int .i64 0, .int .i64 0, .int .i64 0, .int .i64 0, .string ⟨#[]⟩, .slice none 0 0] (ze48 H) rfl fun b37 => ⟨[], rfl, ?_⟩⟩, trivial⟩ (fun hc => Bool.noConfusion (hc : false = true))
     refine Reg.intro [12] [] (by kernel_rfl) rfl ⟨rfl, rfl, rfl, rfl, rfl, rfl, rfl, rfl, rfl, rfl, trivial⟩ ⟨(fun _ => ⟨_, rfl, (z0 (Ev.tmp rfl))⟩), (fun _ => ⟨_, rfl, (z5b (ix89 H) (Ev.tmp rfl) (Ev.const _) (by decide) (by decide))⟩), (fun _ => ⟨_, rfl, (z1n (tl3 H) (Pt.ofArr (e := eI64) 2 (k := 0) (Ev.tmp rfl) rfl lI64 rfl (by decide)))⟩), (fun _ => ⟨_, rfl, (z0e (e := zd) (y := (gt v2 ((gt y4 v16) 0))) (ix37 H) (Ev.tmp rfl) (Ev.tmp rfl) (h29).1 (z9 h29))⟩), (fun _ => ⟨_, rfl, (z5r (tl48 H) (Pt.rop (Ev.tmp rfl)))⟩), (fun _ => ⟨_, rfl, (z0 (Ev.tmp rfl))⟩), (fun _ => ⟨_, rfl, (z5b (ix89 H) (Ev.tmp rfl) (Ev.const _) (by decide) (by decide))⟩), (fun _ => ⟨_, rfl, (z1n (tl3 H) (Pt.ofArr (e := eI64) 2 (k := 1) (Ev.tmp rfl) rfl lI64 rfl (by decide)))⟩), (fun _ => ⟨_, rfl, (z0e (e := zd) (y := (gt v2 ((gt y4 v16) 1))) (ix37 H) (Ev.tmp rfl) (Ev.tmp rfl) (h30).1 (z9 h30))⟩), (fun _ => ⟨_, rfl, (z5r (tl48 H) (Pt.rop (Ev.tmp rfl)))⟩), trivial⟩ ⟨⟨_, rfl, rfl, rfl, rfl, zai 3 (cells := [(iv .i64 0), (iv .i64 0), (iv .i64 0), (iv .i64 0), (iv .i64 0), (iv .i64 0), (iv .i64 0), (iv .i64 0), (iv .i64 0), (iv .i64 0), (iv .i64 0), (iv .i64 0), (iv .i64 0), (iv .i64 0), (iv .i64 0), (iv .i64 0), (iv .i64 0), (iv .i64 0), (iv .i64 0), (eqv (.string (⟨#[]⟩))), (eqv (.slice none 0 0))]) (cs := (zd (gt v2 ((gt y4 v16) 0)))) (out := (zd (gt v2 ((gt y4 v16) 0)))) (tl48 H) (Ev.tmp rfl) (Ce.agg (Ev.tmp rfl)) rfl rfl (Nat.le_of_ble_eq_true rfl) rfl ⟨[], rfl, ?_⟩⟩, trivial⟩ (fun hc => Bool.noConfusion (hc : false = true))
     refine Reg.intro [13] [0, 1, 2, 3, 4] (by kernel_rfl) rfl ⟨rfl, rfl, rfl, rfl, rfl, rfl, rfl, rfl, rfl, rfl, trivial⟩ ⟨(fun hn => Bool.noConfusion (hn : true = false)), (fun hn => Bool.noConfusion (hn : true = false)), (fun hn => Bool.noConfusion (hn : true = false)), (fun hn => Bool.noConfusion (hn : true = false)), (fun hn => Bool.noConfusion (hn : true = false)), (fun _ => ⟨_, rfl, (z0 (Ev.tmp rfl))⟩), (fun _ => ⟨_, rfl, (z5b (ix89 H) (Ev.tmp rfl) (Ev.const _) (by decide) (by decide))⟩), (fun _ => ⟨_, rfl, (z1n (tl3 H) (Pt.ofArr (e := eI64) 2 (k := 1) (Ev.tmp rfl) rfl lI64 rfl (by decide)))⟩), (fun _ => ⟨_, rfl, (z0e (e := zd) (y := (gt v2 ((gt y4 v16) 1))) (ix37 H) (Ev.tmp rfl) (Ev.tmp rfl) (h30).1 (z9 h30))⟩), (fun _ => ⟨_, rfl, (z5r (tl48 H) (Pt.rop (Ev.tmp rfl)))⟩), trivial⟩ ⟨⟨_, rfl, rfl, rfl, rfl, zai 4 (cells := [(iv .i64 0), (iv .i64 0), (iv .i64 0), (iv .i64 0), (iv .i64 0), (iv .i64 0), (iv .i64 0), (iv .i64 0), (iv .i64 0), (iv .i64 0), (iv .i64 0), (iv .i64 0), (iv .i64 0), (iv .i64 0), (iv .i64 0), (iv .i64 0), (iv .i64 0), (iv .i64 0), (iv .i64 0), (eqv (.string (⟨#[]⟩))), (eqv (.slice none 0 0))]) (cs := (zd (gt v2 ((gt y4 v16) 1)))) (out := (zd (gt v2 ((gt y4 v16) 1)))) (tl48 H) (Ev.tmp rfl) (Ce.agg (Ev.tmp rfl)) rfl rfl (Nat.le_of_ble_eq_true rfl) rfl ⟨[], rfl, ?_⟩⟩, trivial⟩ (fun hc => Bool.noConfusion (hc : false = true))
     refine Reg.intro [] [0, 1, 2, 3, 4, 5, 6, 7, 8, 9] (by kernel_rfl) rfl ⟨rfl, rfl, rfl, rfl, rfl, rfl, rfl, rfl, rfl, rfl, trivial⟩ ⟨(fun hn => Bool.noConfusion (hn : true = false)), (fun hn => Bool.noConfusion (hn : true = false)), (fun hn => Bool.noConfusion (hn : true = false)), (fun hn => Bool.noConfusion (hn : true = false)), (fun hn => Bool.noConfusion (hn : true = false)), (fun hn => Bool.noConfusion (hn : true = false)), (fun hn => Bool.noConfusion (hn : true = false)), (fun hn => Bool.noConfusion (hn : true = false)), (fun hn => Bool.noConfusion (hn : true = false)), (fun hn => Bool.noConfusion (hn : true = false)), trivial⟩ trivial (fun _ => ?_)
     exact AtX.to (hJ25 (b34, b37) h) [0, 1, 3, 4] ⟨⟨_, rfl, Ent.refl⟩, ⟨_, rfl, Ent.refl⟩, ⟨_, rfl, Ent.refl⟩, ⟨_, rfl, Ent.refl⟩, ⟨_, rfl, Ent.refl⟩, ⟨_, rfl, Ent.refl⟩, ⟨_, rfl, Ent.refl⟩, trivial⟩ ⟨⟨_, rfl, EntH.refl⟩, ⟨_, rfl, EntH.refl⟩, ⟨_, rfl, EntH.refl⟩, ⟨_, rfl, EntH.refl⟩, trivial⟩ rfl
    ·
     refine Reg.intro [10] [] (by kernel_rfl) rfl ⟨rfl, rfl, rfl, rfl, rfl, rfl, rfl, rfl, rfl, rfl, trivial⟩ ⟨(fun _ => ⟨_, rfl, (z0 (Ev.tmp rfl))⟩), (fun _ => ⟨_, rfl, (z5b (ix89 H) (Ev.tmp rfl) (Ev.const _) (by decide) (by decide))⟩), (fun _ => ⟨_, rfl, (z1n (tl3 H) (Pt.ofArr (e := eI64) 2 (k := 0) (Ev.tmp rfl) rfl lI64 rfl (by decide)))⟩), (fun _ => ⟨_, rfl, (z0e (e := zd) (y := (gt v2 ((gt y4 v16) 0))) (ix37 H) (Ev.tmp rfl) (Ev.tmp rfl) (h29).1 (z9 h29))⟩), (fun _ => ⟨_, rfl, (z5r (tl48 H) (Pt.rop (Ev.tmp rfl)))⟩), (fun _ => ⟨_, rfl, (z0 (Ev.tmp rfl))⟩), (fun _ => ⟨_, rfl, (z5b (ix89 H) (Ev.tmp rfl) (Ev.const _) (by decide) (by decide))⟩), (fun _ => ⟨_, rfl, (z1n (tl3 H) (Pt.ofArr (e := eI64) 2 (k := 1) (Ev.tmp rfl) rfl lI64 rfl (by decide)))⟩), (fun _ => ⟨_, rfl, (z0e (e := zd) (y := (gt v2 ((gt y4 v16) 1))) (ix37 H) (Ev.tmp rfl) (Ev.tmp rfl) (h30).1 (z9 h30))⟩), (fun _ => ⟨_, rfl, (z5r (tl48 H) (Pt.rop (Ev.tmp rfl)))⟩), trivial⟩ ⟨⟨_, rfl, rfl, rfl, rfl, z3p [.int .i64 0, .int .i64 0, .int .i64 0, .int .i64 0, .int .i64 0, .int .i64 0, .int .i64 0, .int .i64 0, .int .i64 0, .int .i64 0, .int .i64 0, .int .i64 0, .int .i64 0, .int .i64 0, .int .i64 0, .int .i64 0, .int .i64 0, .int .i64 0, .int .i64 0, .string ⟨#[]⟩, .slice none 0 0] (ze48 H) rfl fun b37 => ⟨[], rfl, ?_⟩⟩, trivial⟩ (fun hc => Bool.noConfusion (hc : false = true))
     refine Reg.intro [12] [] (by kernel_rfl) rfl ⟨rfl, rfl, rfl, rfl, rfl, rfl, rfl, rfl, rfl, rfl, trivial⟩ ⟨(fun _ => ⟨_, rfl, (z0 (Ev.tmp rfl))⟩), (fun _ => ⟨_, rfl, (z5b (ix89 H) (Ev.tmp rfl) (Ev.const _) (by decide) (by decide))⟩), (fun _ => ⟨_, rfl, (z1n (tl3 H) (Pt.ofArr (e := eI64) 2 (k := 0) (Ev.tmp rfl) rfl lI64 rfl (by decide)))⟩), (fun _ => ⟨_, rfl, (z0e (e := zd) (y := (gt v2 ((gt y4 v16) 0))) (ix37 H) (Ev.tmp rfl) (Ev.tmp rfl) (h29).1 (z9 h29))⟩), (fun _ => ⟨_, rfl, (z5r (tl48 H) (Pt.rop (Ev.tmp rfl)))⟩), (fun _ => ⟨_, rfl, (z0 (Ev.tmp rfl))⟩), (fun _ => ⟨_, rfl, (z5b (ix89 H) (Ev.tmp rfl) (Ev.const _) (by decide) (by decide))⟩), (fun _ => ⟨_, rfl, (z1n (tl3 H) (Pt.ofArr (e := eI64) 2 (k := 1) (Ev.tmp rfl) rfl lI64 rfl (by decide)))⟩), (fun _ => ⟨_, rfl, (z0e (e := zd) (y := (gt v2 ((gt y4 v16) 1))) (ix37 H) (Ev.tmp rfl) (Ev.tmp rfl) (h30).1 (z9 h30))⟩), (fun _ => ⟨_, rfl, (z5r (tl48 H) (Pt.rop (Ev.tmp rfl)))⟩), trivial⟩ ⟨⟨_, rfl, rfl, rfl, rfl, zai 4 (cells := [(iv .i64 0), (iv .i64 0), (iv .i64 0), (iv .i64 0), (iv .i64 0), (iv .i64 0), (iv .i64 0), (iv .i64 0), (iv .i64 0), (iv .i64 0), (iv .i64 0), (iv .i64 0), (iv .i64 0), (iv .i64 0), (iv .i64 0), (iv .i64 0), (iv .i64 0), (iv .i64 0), (iv .i64 0), (eqv (.string (⟨#[]⟩))), (eqv (.slice none 0 0))]) (cs := (zd (gt v2 ((gt y4 v16) 0)))) (out := (zd (gt v2 ((gt y4 v16) 0)))) (tl48 H) (Ev.tmp rfl) (Ce.agg (Ev.tmp rfl)) rfl rfl (Nat.le_of_ble_eq_true rfl) rfl ⟨[], rfl, ?_⟩⟩, trivial⟩ (fun hc => Bool.noConfusion (hc : false = true))
     refine Reg.intro [13] [0, 1, 2, 3, 4] (by kernel_rfl) rfl ⟨rfl, rfl, rfl, rfl, rfl, rfl, rfl, rfl, rfl, rfl, trivial⟩ ⟨(fun hn => Bool.noConfusion (hn : true = false)), (fun hn => Bool.noConfusion (hn : true = false)), (fun hn => Bool.noConfusion (hn : true = false)), (fun hn => Bool.noConfusion (hn : true = false)), (fun hn => Bool.noConfusion (hn : true = false)), (fun _ => ⟨_, rfl, (z0 (Ev.tmp rfl))⟩), (fun _ => ⟨_, rfl, (z5b (ix89 H) (Ev.tmp rfl) (Ev.const _) (by decide) (by decide))⟩), (fun _ => ⟨_, rfl, (z1n (tl3 H) (Pt.ofArr (e := eI64) 2 (k := 1) (Ev.tmp rfl) rfl lI64 rfl (by decide)))⟩), (fun _ => ⟨_, rfl, (z0e (e := zd) (y := (gt v2 ((gt y4 v16) 1))) (ix37 H) (Ev.tmp rfl) (Ev.tmp rfl) (h30).1 (z9 h30))⟩), (fun _ => ⟨_, rfl, (z5r (tl48 H) (Pt.rop (Ev.tmp rfl)))⟩), trivial⟩ ⟨⟨_, rfl, rfl, rfl, rfl, zai 3 (cells := [(iv .i64 0), (iv .i64 0), (iv .i64 0), (iv .i64 0), (iv .i64 0), (iv .i64 0), (iv .i64 0), (iv .i64 0), (iv .i64 0), (iv .i64 0), (iv .i64 0), (iv .i64 0), (iv .i64 0), (iv .i64 0), (iv .i64 0), (iv .i64 0), (iv .i64 0), (iv .i64 0), (iv .i64 0), (eqv (.string (⟨#[]⟩))), (eqv (.slice none 0 0))]) (cs := (zd (gt v2 ((gt y4 v16) 1)))) (out := (zd (gt v2 ((gt y4 v16) 1)))) (tl48 H) (Ev.tmp rfl) (Ce.agg (Ev.tmp rfl)) rfl rfl (Nat.le_of_ble_eq_true rfl) rfl ⟨[], rfl, ?_⟩⟩, trivial⟩ (fun hc => Bool.noConfusion (hc : false = true))
     refine Reg.intro [] [0, 1, 2, 3, 4, 5, 6, 7, 8, 9] (by kernel_rfl) rfl ⟨rfl, rfl, rfl, rfl, rfl, rfl, rfl, rfl, rfl, rfl, trivial⟩ ⟨(fun hn => Bool.noConfusion (hn : true = false)), (fun hn => Bool.noConfusion (hn : true = false)), (fun hn => Bool.noConfusion (hn : true = false)), (fun hn => Bool.noConfusion (hn : true = false)), (fun hn => Bool.noConfusion (hn : true = false)), (fun hn => Bool.noConfusion (hn : true = false)), (fun hn => Bool.noConfusion (hn : true = false)), (fun hn => Bool.noConfusion (hn : true = false)), (fun hn => Bool.noConfusion (hn : true = false)), (fun hn => Bool.noConfusion (hn : true = false)), trivial⟩ trivial (fun _ => ?_)
     exact AtX.to (hJ25 (b37, b34) h) [0, 1, 4, 3] ⟨⟨_, rfl, Ent.refl⟩, ⟨_, rfl, Ent.refl⟩, ⟨_, rfl, Ent.refl⟩, ⟨_, rfl, Ent.refl⟩, ⟨_, rfl, Ent.refl⟩, ⟨_, rfl, Ent.refl⟩, ⟨_, rfl, Ent.refl⟩, trivial⟩ ⟨⟨_, rfl, EntH.refl⟩, ⟨_, rfl, EntH.refl⟩, ⟨_, rfl, EntH.refl⟩, ⟨_, rfl, EntH.refl⟩, trivial⟩ rfl
  ·
   refine z2.exit (AtX.then_exit (AtX.then_exit (AtX.in_hit ?_)))
   exact AtX.to (hJ11 (v17, sv18) h) [0] ⟨⟨_, rfl, Ent.refl⟩, trivial⟩ ⟨⟨_, rfl, EntH.refl⟩, trivial⟩ rfl
theorem za5 {P : Program} (H : P = Try.prog) (φ : Nat) (v1 : Pool) (v2 : Int) (v3 : Int) (r : (Int)) (h : z6x φ v1 v2 v3 = some r) : z1q P 29 [(agg (z2k v1)), (iv .i64 v2), (iv .i64 v3)] (fun x news => x = (iv .i64 r) ∧ news = []) := by
 unfold z6x at h
 refine z1q.of_code' 31 (fn29 H) rfl rfl (Nat.le_of_ble_eq_true rfl) fun w0 base r0 wI => ?_
 refine cl [0, 1, 2] [] rfl rfl rfl (cs (cr [0, 1] rfl (n1 rfl (z7u (Ce.agg (mv rfl)) fun b4 => q1 rfl (z1 ct) (rn (al [1, 2, 3] [0] rfl rfl rfl (sq (cs (cs (cr [0, 1, 2] rfl (q1 rfl (ln (tl36 H) ((Pt.box 0 (mv rfl) rfl rfl).take 9 (cs' := (z2k v1)) rfl) rfl) ?_)))))))))))
 refine z0c h fun y5 ey5 h => q1 rfl (oQ (zjv H) (z73 H φ v1 _ ey5) z7 ⟨ef (mv rfl), trivial⟩) (q1 rfl (z1 (mv rfl)) (rn (al [1, 2, 3, 7] [0] rfl rfl rfl (sq (cs (cr [0, 1] rfl (q1 rfl (z0 (mv rfl)) (q1 rfl (z7p (mv rfl) ct) (rn (al [1, 2, 3, 7, 11] [0] rfl rfl rfl ?_))))))))))
 refine sq ?_
 refine cI h rfl (fun c6 h => ?_) (fun c6 h => ?_)
 ·
  refine cs (cr [0, 1] rfl (q1 rfl (z0 (mv rfl)) (q1 rfl (z1 (mv rfl)) (rn (al [6] [] rfl rfl rfl (sq (z2.ret (AtX.then_ret (AtX.ret' (iv .i64 y5) (z0k.one Try.results29 rfl) [] [] trivial rfl ?_)))))))))
  obtain rfl := Option.some.inj h
  exact ⟨rfl, rfl⟩
 ·
  refine z2.skip (al [1, 2, 3] [0] rfl rfl rfl (sq (cs (cs (cr [0, 1, 2, 3, 4, 5, 6, 7, 8, 9, 10, 11, 12, 13, 14, 15, 16, 17] rfl (q1 rfl (z0 (mv rfl)) (q1 rfl (z1l (mv rfl) ct) (q1 rfl (z0 (mv rfl)) (g1 rfl rfl (fun g7 => z0 (mv rfl)) (g1 rfl rfl (fun g8 => z4 (zdx H) (mv rfl)) (g1 rfl rfl (fun g9 => z4 (zf5 H) (mc rfl g9)) ?_)))))))))))
  refine g1 rfl rfl (fun g10 => lb (tl27 H) 0 (mc rfl g10) rfl rfl) (g1 rfl rfl (fun g11 => z28 (il27 H) (mc rfl g11)) (g1 rfl rfl (fun g12 => z96 (mc rfl g12) (mc rfl g12)) (q1 rfl (opOr (mv rfl) ct (fun g13 => (mc rfl g13))) (q1 rfl (z0 (mv rfl)) (g1 rfl rfl (fun g14 => z0 (mv rfl)) (g1 rfl rfl (fun g15 => z1l (mc rfl g15) ct) (q1 rfl (opOr (mv rfl) ct (fun g16 => (mc rfl g16))) (q1 rfl (z0 (mv rfl)) (g1 rfl rfl (fun g17 => z0 (mv rfl)) (g1 rfl rfl (fun g18 => z5a (mc rfl g18) ct) (q1 rfl (opOr (mv rfl) ct (fun g19 => (mc rfl g19))) ?_)))))))))))
  refine rn (al [30] [] rfl rfl rfl (sq ?_))
  refine cI h rfl (fun c20 h => ?_) (fun c20 h => ?_)
  ·
   refine cs (cr [0] rfl (q1 rfl (z1 ct) (rn (al [6] [] rfl rfl rfl (sq (z2.ret (AtX.then_ret (AtX.ret' (iv .i64 1) (z0k.one Try.results29 rfl) [] [] trivial rfl ?_))))))))
   obtain rfl := Option.some.inj h
   exact ⟨rfl, rfl⟩
  ·
   refine z2.skip (al [] [] rfl rfl rfl (sq (cs (cr [0] rfl (q1 rfl (z1 ct) (rn (al [6] [] rfl rfl rfl (sq (z2.ret (AtX.ret' (iv .i64 0) (z0k.one Try.results29 rfl) [] [] trivial rfl ?_))))))))))
   obtain rfl := Option.some.inj h
   exact ⟨rfl, rfl⟩
theorem za6 {P : Program} (H : P = Try.prog) (φ : Nat) (v1 : Pool) (v2 : (List zf)) (v3 : Int) (r : ((List zj))) (h : z6e φ v1 v2 v3 = some r) : z1q P 30 [(agg (z2k v1)), (ro zd 21 v2), (iv .i64 v3)] (zei r) := by
 unfold z6e at h
 refine z1q.of_code' 72 (fn30 H) rfl rfl (Nat.le_of_ble_eq_true rfl) fun w0 base r0 wI => ?_
 refine cl [0, 1, 2] [] rfl rfl rfl (cs (z2.addNil 64 z26 5 (cr [0, 1] rfl (n1 rfl (z7u (Ce.agg (mv rfl)) fun b4 => q1 rfl (z1 ct) (rn (al [1, 2, 3] [1] rfl rfl rfl (sq (cs (ckE h fun h5 h => ckE h fun h6 h => ?_))))))))))
 refine z2.draw (QR := [(0, _), (1, _), (2, _), (3, _), (4, _), (5, _), (6, _), (7, _), (8, _), (9, _), (10, _), (11, _), (12, _), (13, _)]) (tab := [(some 11, []), (some 12, [0]), (some 13, [1]), (some 14, []), (some 15, [3]), (some 16, [4]), (some 17, []), (some 18, [5, 6]), (some 19, [7]), (some 20, [8]), (some 21, [2, 9]), (some 22, [10]), (some 23, [11]), (some 24, [12]), (some 25, [13]), (some 7, [14, 0, 1, 2, 3, 4, 5, 6, 7, 8, 9, 10, 11, 12, 13, 14])]) (z5e H) (Reg.intro [14] [] (by kernel_rfl) rfl (an rfl) ⟨(qr rfl (z4 (zbi H) (mv rfl))), (qr rfl (z4 (zci H) (mv rfl))), (qr rfl (lb (tl22 H) 0 (mv rfl) rfl rfl)), (qr rfl (z4 (zdx H) (mv rfl))), (qr rfl (z4 (zf5 H) (mv rfl))), (qr rfl (lb (tl27 H) 0 (mv rfl) rfl rfl)), (qr rfl (z0 (mv rfl))), (qr rfl (z0e (ix27 H) (mv rfl) (mv rfl) (h5).1 (z9 h5))), (qr rfl (z43 (zmh H) (mv rfl) (cs' := [(iv .i64 ((gt v1.fFleet.fWagons v3).fHome))]) 1 rfl)), (qr rfl (lr (tl3 H) (mv rfl))), (qr rfl (z0e (ix22 H) (mv rfl) (mv rfl) (h6).1 (z9 h6))), (qr rfl (z43 (zdz H) (mv rfl) (cs' := [(iv .i64 ((gt v1.fNetwork.fPlaces ((gt v1.fFleet.fWagons v3).fHome)).fRailway))]) 1 rfl)), (qr rfl (lr (tl3 H) (mv rfl))), (qr rfl (z3q [.int .i64 0, .int .i64 0, .int .i64 0, .int .i64 0, .int .i64 0] [(0, [(iv .i64 ((gt v1.fNetwork.fPlaces ((gt v1.fFleet.fWagons v3).fHome)).fRailway))])] (out := [(iv .i64 ((gt v1.fNetwork.fPlaces ((gt v1.fFleet.fWagons v3).fHome)).fRailway)), (iv .i64 0), (iv .i64 0), (iv .i64 0), (iv .i64 0)]) (ze64 H) rfl (tb64 H) ⟨(zm9 H), Nat.le_of_ble_eq_true rfl, (Ce.one (mv rfl) (One.eqv rfl)), trivial⟩ rfl)), trivial⟩ ⟨⟨_, rfl, rfl, rfl, rfl, z1d [(zj.mk (gt v1.fNetwork.fPlaces ((gt v1.fFleet.fWagons v3).fHome)).fRailway (Span.mk 0 0) (Ref.mk 0 0))] (sl49 H) z7f rfl (by decide) ⟨rfl, (Ce.agg (mv rfl)), trivial⟩ fun sv9 => ⟨[(15, (eqv sv9))], rfl, ?_⟩⟩, trivial⟩ ft)
 refine Reg.intro [] [0, 1, 2, 3, 4, 5, 6, 7, 8, 9, 10, 11, 12, 13] (by kernel_rfl) rfl (an rfl) ⟨nf, nf, nf, nf, nf, nf, nf, nf, nf, nf, nf, nf, nf, nf, (qr rfl (z1 (mv rfl))), trivial⟩ trivial (fun _ => al [1, 2, 3, 7] [0, 1] rfl rfl rfl (sq (cs (cs (cr [0, 1, 2, 3, 4] rfl (q1 rfl (ln (tl36 H) ((Pt.box 0 (mv rfl) rfl rfl).take 9 (cs' := (z2k v1)) rfl) rfl) (q1 rfl (z0 (mv rfl)) (z0c h fun y10 ey10 h => n1 rfl (oF (zk0 H) (z7g H φ v1 v2 _ ey10) ⟨ef (mv rfl), ef (mv rfl), trivial⟩ fun x13 nw14 hk12 => ?_)))))))))
 obtain ⟨sv11, rfl, rfl⟩ := hk12
 refine ⟨z7, z5u ⟨z56 z59, trivial⟩, ?_⟩
 refine q1 rfl (z8e 2 (il53 H) (mv rfl) rfl) (q1 rfl (z0 ct) (rn (al [2, 7, 28, 29, 30] [1, 2] rfl rfl rfl (sq ?_))))
 refine z2.join (fun z : (List zj) × Value => (z2v φ) z.1) r (fun z => ⟨zh.of [(7, (eqv z.2))], [(row 64 z26 5 z.1 z.2)]⟩) (fun z h => ?_) (fun hJ17 => ?_)
 ·
  obtain ⟨v15, sv16⟩ := z
  replace h : (z2v φ) v15 = some r := h
  unfold z2v at h
  refine al [7] [0] rfl rfl rfl (sq (cs (cr [0, 1] rfl (q1 rfl (z0 (mv rfl)) (q1 rfl (z1 (mv rfl)) (rn (al [6] [0] rfl rfl rfl (sq (z2.ret (AtX.ret' (eqv sv16) (z0k.one Try.results30 rfl) [0] [(row 64 z26 5 v15 sv16)] (ol rfl) rfl ?_))))))))))
  obtain rfl := Option.some.inj h
  exact ⟨sv16, rfl, rfl⟩
 ·
  refine z2.block ?_
  refine z2.to (z2.loop (fun n (z : Int × (List zj) × Value) => z24 φ v3 y10 (z2v φ) n z.1 z.2.1) r (fun z => ⟨zh.of [(2, (iv .i64 v3)), (7, (eqv z.2.2)), (28, (eqv sv11)), (29, (iv .i64 (y10.length : Int))), (30, (iv .i64 z.1))], [(row 64 z26 5 z.2.1 z.2.2), (row 70 z5 10 y10 sv11)]⟩) (fun z => rfl) (fun n21 z ih21 h => ?_) φ (0, [(zj.mk (gt v1.fNetwork.fPlaces ((gt v1.fFleet.fWagons v3).fHome)).fRailway (Span.mk 0 0) (Ref.mk 0 0))], sv9) h) [0, 1] (sl rfl) (ol rfl) rfl
  obtain ⟨v18, v19, sv20⟩ := z
  replace h : z24 φ v3 y10 (z2v φ) (n21 + 1) v18 v19 = some r := h
  rw [z24] at h
  refine cs (cr [0] rfl (q1 rfl (z1l (mv rfl) (mv rfl)) (rn (al [2, 7, 28, 29, 30, 31] [0, 1] rfl rfl rfl (sq (cs ?_))))))
  refine cI h rfl (fun c22 h => ?_) (fun c22 h => ?_)
  ·
   refine z2.skip (AtX.le' [(2, (iv .i64 v3)), (7, (eqv sv20)), (28, (eqv sv11)), (29, (iv .i64 (y10.length : Int))), (30, (iv .i64 v18))] [0, 1] [(row 64 z26 5 v19 sv20), (row 70 z5 10 y10 sv11)] (sl rfl) (ol rfl) rfl (AtX.seq ?_))
   refine z2.seq ?_
   refine z2.block ?_
   refine z2.seq ?_
   refine z2.region' [0, 1, 2, 3] rfl ?_
   refine ckE h fun h23 h => zg.cons_q (rowp sv11 ((v18 : Int).toNat * 10)) rfl rfl rfl (zi 1 (ix53 H) (mv rfl) rfl (mv rfl) (h23).1 (h23).2) (zg.cons_q (agg (z5 (gt y10 v18))) rfl rfl rfl (z5r (tl70 H) ((Pt.row _ 1 (k := (v18 : Int).toNat) (fo := 0) z1t (Ev.tmp rfl) rfl (by omega) (z9 h23) rfl).take 10 (cs' := (z5 (gt y10 v18))) rfl)) (zg.cons rfl rfl rfl (z3p [.int .i64 0, .int .i64 0, .int .i64 0, .int .i64 0, .int .i64 0, .int .i64 0, .int .i64 0, .int .i64 0, .int .i64 0, .int .i64 0] (ze70 H) rfl fun b24 => zg.cons rfl rfl rfl (zai 2 (cells := [(iv .i64 0), (iv .i64 0), (iv .i64 0), (iv .i64 0), (iv .i64 0), (iv .i64 0), (iv .i64 0), (iv .i64 0), (iv .i64 0), (iv .i64 0)]) (cs := (z5 (gt y10 v18))) (out := (z5 (gt y10 v18))) (tl70 H) (Ev.tmp rfl) (Ce.agg (Ev.tmp rfl)) rfl rfl (Nat.le_of_ble_eq_true rfl) rfl (zg.nil (AtX.le' [(2, (iv .i64 v3)), (7, (eqv sv20)), (9, (eqv (.pointer (some ⟨b24, 0, none⟩)))), (28, (eqv sv11)), (29, (iv .i64 (y10.length : Int))), (30, (iv .i64 v18))] [0, 1, 2] [(row 64 z26 5 v19 sv20), (row 70 z5 10 y10 sv11), (box b24 70 (z5 (gt y10 v18)))] ⟨⟨_, rfl, Ent.refl⟩, ⟨_, rfl, Ent.refl⟩, ⟨_, rfl, Ent.refl⟩, ⟨_, rfl, Ent.refl⟩, ⟨_, rfl, Ent.refl⟩, ⟨_, rfl, Ent.refl⟩, trivial⟩ ⟨⟨_, rfl, EntH.refl⟩, ⟨_, rfl, EntH.refl⟩, ⟨_, rfl, EntH.refl⟩, trivial⟩ rfl (AtX.seq ?_)))))))
   refine z2.seq ?_
   refine z2.region' [0, 1, 2, 3, 4, 5, 6, 7] rfl ?_
   refine zg.cons_q (eqv sv20) rfl rfl rfl (z0 (mv rfl)) (zg.cons_q (eqv sv20) rfl rfl rfl (z0 (mv rfl)) (zg.cons_q (iv .i64 (v19.length : Int)) rfl rfl rfl (z8e 0 (il49 H) (mv rfl) rfl) (zg.cons_q (iv .i64 (W ((v19.length : Int) - 1))) rfl rfl rfl (z25 (mv rfl) (Ev.const _)) (ckE h fun h25 h => zg.cons_q (rowp sv20 (((W ((v19.length : Int) - 1)) : Int).toNat * 5)) rfl rfl rfl (zi 0 (ix49 H) (mv rfl) rfl (mv rfl) (h25).1 (h25).2) (zg.cons_q (agg (z26 (gt v19 (W ((v19.length : Int) - 1))))) rfl rfl rfl (z5r (tl64 H) ((Pt.row _ 0 (k := ((W ((v19.length : Int) - 1)) : Int).toNat) (fo := 0) z7f (Ev.tmp rfl) rfl (by omega) (z9 h25) rfl).take 5 (cs' := (z26 (gt v19 (W ((v19.length : Int) - 1))))) rfl)) (n1 rfl (z3p _ (ze64 H) rfl fun b26 => n1 rfl (sto 3 (tl64 H) (mv rfl) (Ce.agg (mv rfl)) rfl rfl rfl rfl (rn (al [2, 7, 9, 10, 28, 29, 30] [0, 1, 2, 3] rfl rfl rfl (sq ?_)))))))))))
   refine cs (cr [0, 1, 2, 3, 4, 5, 6, 7, 8, 9, 10, 11, 12, 13, 14, 15, 16, 17, 18] rfl (q1 rfl (z4 (zls H) (mv rfl)) (q1 rfl (lb (tl3 H) 2 (mv rfl) rfl rfl) (q1 rfl (z0 (mv rfl)) (q1 rfl (z6h (mv rfl) (mv rfl)) (q1 rfl (z0 (mv rfl)) (g1 rfl rfl (fun g27 => z4 (zsz H) (mv rfl)) (g1 rfl rfl (fun g28 => lb (tl3 H) 2 (mc rfl g28) rfl rfl) (g1 rfl rfl (fun g29 => z4 (zov H) (mv rfl)) (g1 rfl rfl (fun g30 => lb (tl3 H) 3 (mc rfl g30) rfl rfl) (g1 rfl rfl (fun g31 => z6h (mc rfl g31) (mc rfl g31)) ?_)))))))))))
   refine q1 rfl (z4c (mv rfl) (fun g32 => (mc rfl g32)) ct) (q1 rfl (z0 (mv rfl)) (g1 rfl rfl (fun g33 => z4 (zgl H) (mv rfl)) (g1 rfl rfl (fun g34 => lb (tl3 H) 2 (mc rfl g34) rfl rfl) (g1 rfl rfl (fun g35 => z4 (zge H) (mv rfl)) (g1 rfl rfl (fun g36 => z4 (zg8 H) (mc rfl g36)) (g1 rfl rfl (fun g37 => lb (tl3 H) 3 (mc rfl g37) rfl rfl) (g1 rfl rfl (fun g38 => z5a (mc rfl g38) (mc rfl g38)) (q1 rfl (z4c (mv rfl) (fun g39 => (mc rfl g39)) ct) (rn (al [2, 7, 9, 28, 29, 30, 58] [0, 1, 2] rfl rfl rfl (sq ?_)))))))))))
   refine z2.join (fun z : (List zj) × Value => (z57 φ v18 (z24 φ v3 y10 (z2v φ) n21)) z.1) r (fun z => ⟨zh.of [(2, (iv .i64 v3)), (7, (eqv z.2)), (28, (eqv sv11)), (29, (iv .i64 (y10.length : Int))), (30, (iv .i64 v18))], [(row 64 z26 5 z.1 z.2), (row 70 z5 10 y10 sv11)]⟩) (fun z h => ?_) (fun hJ42 => ?_)
   ·
    obtain ⟨v40, sv41⟩ := z
    replace h : (z57 φ v18 (z24 φ v3 y10 (z2v φ) n21)) v40 = some r := h
    unfold z57 at h
    refine AtX.in_normal (al [2, 7, 28, 29, 30] [0, 1] rfl rfl rfl (sq (cr [0, 1] rfl (q1 rfl (z0u (mv rfl) ct) (q1 rfl (z0 (mv rfl)) (rn ?_))))))
    exact AtX.to (ih21 ((W (v18 + 1)), v40, sv41) h) [0, 1] (sl rfl) (ol rfl) rfl
   ·
    refine cI h rfl (fun c43 h => ?_) (fun c43 h => ?_)
    ·
     refine cr [0, 1, 2, 3, 4, 5, 6, 7, 8, 9, 10, 11] rfl (q1 rfl (z0 (mv rfl)) (q1 rfl (z4 (zrp H) (mv rfl)) (q1 rfl (lb (tl3 H) 2 (mv rfl) rfl rfl) (q1 rfl (z4 (zgl H) (mv rfl)) (q1 rfl (lb (tl3 H) 2 (mv rfl) rfl rfl) (q1 rfl (z3q [.int .i64 0, .int .i64 0] [(0, [(iv .i64 ((gt y10 v18).fAt))])] (out := [(iv .i64 ((gt y10 v18).fAt)), (iv .i64 0)]) (ze62 H) rfl (tb62 H) ⟨(zop H), Nat.le_of_ble_eq_true rfl, (Ce.one (mv rfl) (One.eqv rfl)), trivial⟩ rfl) (q1 rfl (z4 (zrl H) (mv rfl)) (q1 rfl (ln (tl43 H) ((Pt.box 2 (mv rfl) rfl rfl).take 2 (cs' := (eRef (gt y10 v18).fReceive)) rfl) rfl) (q1 rfl (z3q [.int .i64 0, .int .i64 0, .int .i64 0, .int .i64 0, .int .i64 0] [(0, [(iv .i64 ((gt y10 v18).fTo))]), (1, [(iv .i64 ((gt y10 v18).fAt)), (iv .i64 0)]), (3, (eRef (gt y10 v18).fReceive))] (out := [(iv .i64 ((gt y10 v18).fTo)), (iv .i64 ((gt y10 v18).fAt)), (iv .i64 0), (iv .i64 ((gt y10 v18).fReceive.fRailway)), (iv .i64 ((gt y10 v18).fReceive.fNo))]) (ze64 H) rfl (tb64 H) ⟨(zm9 H), Nat.le_of_ble_eq_true rfl, (Ce.one (mv rfl) (One.eqv rfl)), ⟨(zlv H), Nat.le_of_ble_eq_true rfl, (Ce.agg (mv rfl)), ⟨(zoj H), Nat.le_of_ble_eq_true rfl, (Ce.agg (mv rfl)), trivial⟩⟩⟩ rfl) (n1 rfl (z1d (e := z26) [(zj.mk (gt y10 v18).fTo (Span.mk (gt y10 v18).fAt 0) (gt y10 v18).fReceive)] (sl49 H) z7f rfl (by decide) ⟨rfl, (Ce.agg (mv rfl)), trivial⟩ fun sv44 => ckE h fun h45 h => ?_)))))))))))
     refine n1 rfl (z9p 0 (l := v19) (m := [(zj.mk (gt y10 v18).fTo (Span.mk (gt y10 v18).fAt 0) (gt y10 v18).fReceive)]) (sl49 H) z7f (mv rfl) rfl (Src.row 3 (mv rfl) rfl) h45 (z99 (by decide) h45) fun sv46 => q1 rfl (z1 (mv rfl)) (rn ?_))
     exact AtX.to (hJ42 ((v19 ++ [(zj.mk (gt y10 v18).fTo (Span.mk (gt y10 v18).fAt 0) (gt y10 v18).fReceive)]), sv46) h) [0, 1] (sl rfl) (ol rfl) rfl
    ·
     refine z2.skip ?_
     exact AtX.to (hJ42 (v19, sv20) h) [0, 1] (sl rfl) (ol rfl) rfl
  ·
   refine z2.exit (AtX.then_exit (AtX.then_exit (AtX.in_hit ?_)))
   exact AtX.to (hJ17 (v19, sv20) h) [0] (sl rfl) (ol rfl) rfl
theorem za8 {P : Program} (H : P = Try.prog) (φ : Nat) (v1 : Pool) (v2 : (List zf)) (v3 : Int) (v4 : Int) (r : ((List zj) × Int)) (h : z8n φ v1 v2 v3 v4 = some r) : z1q P 12 [(agg (z2k v1)), (ro zd 21 v2), (iv .i64 v3), (iv .i64 v4)] (ze7 r) := by
 unfold z8n at h
 refine z1q.of_code' 58 (fn12 H) rfl rfl (Nat.le_of_ble_eq_true rfl) fun w0 base r0 wI => ?_
 refine cl [0, 1, 2, 3] [] rfl rfl rfl (cs (z2.addNil 64 z26 5 (cr [0, 1, 2] rfl (n1 rfl (z7u (Ce.agg (mv rfl)) fun b5 => q1 rfl (z1 ct) (q1 rfl (z1 ct) (rn (al [1, 2, 3, 4] [1] rfl rfl rfl (sq (cs (cs ?_)))))))))))
 refine cr [0, 1, 2, 3, 4] rfl (q1 rfl (ln (tl36 H) ((Pt.box 0 (mv rfl) rfl rfl).take 9 (cs' := (z2k v1)) rfl) rfl) (q1 rfl (z0 (mv rfl)) (q1 rfl (z0 (mv rfl)) (z0c h fun y6 ey6 h => q1 rfl (oQ (zon H) (za5 H φ v1 v3 v4 _ ey6) z7 ⟨ef (mv rfl), ef (mv rfl), ef (mv rfl), trivial⟩) (q1 rfl (z1 (mv rfl)) (rn (al [1, 2, 3, 4, 10] [0] rfl rfl rfl (sq (cs (cr [0, 1] rfl ?_))))))))))
 refine q1 rfl (z0 (mv rfl)) (q1 rfl (z7p (mv rfl) ct) (rn (al [1, 2, 3, 4, 10, 20] [0] rfl rfl rfl (sq ?_))))
 refine cI h rfl (fun c7 h => ?_) (fun c7 h => ?_)
 ·
  refine cs (z2.addNil 64 z26 5 (cr [0, 1, 2] rfl (q1 rfl (z0 (mv rfl)) (q1 rfl (z1 ct) (q1 rfl (z1 (mv rfl)) (rn (al [8, 9] [1] rfl rfl rfl (sq (z2.ret (AtX.then_ret (AtX.ret' (tupv [(eqv (Value.slice none 0 0)), (iv .i64 y6)]) (z0k.two Try.results12 rfl rfl) [0] [(row 64 z26 5 ([] : List zj) (Value.slice none 0 0))] (ol rfl) rfl ?_)))))))))))
  obtain rfl := Option.some.inj h
  exact ⟨(Value.slice none 0 0), rfl, rfl⟩
 ·
  refine z2.skip (al [1, 2, 3, 4] [0] rfl rfl rfl (sq (cs (z2.addNil 64 z26 5 (cr [0] rfl (q1 rfl (z1 ct) (rn (al [1, 2, 3, 4, 11] [0, 1] rfl rfl rfl (sq (cs (cs ?_)))))))))))
  refine cr [0, 1, 2, 3, 4, 5] rfl (q1 rfl (ln (tl36 H) ((Pt.box 0 (mv rfl) rfl rfl).take 9 (cs' := (z2k v1)) rfl) rfl) (q1 rfl (z0 (mv rfl)) (q1 rfl (z0 (mv rfl)) (z0c h fun y8 ey8 h => n1 rfl (oF (zoc H) (za6 H φ v1 v2 v3 _ ey8) ⟨ef (mv rfl), ef (mv rfl), ef (mv rfl), trivial⟩ fun x11 nw12 hk10 => ?_)))))
  obtain ⟨sv9, rfl, rfl⟩ := hk10
  refine ⟨z7, z5u ⟨z56 zem, trivial⟩, ?_⟩
  refine q1 rfl (z8e 2 (il49 H) (mv rfl) rfl) (q1 rfl (z0 ct) (rn (al [3, 11, 25, 26, 27] [1, 2] rfl rfl rfl (sq ?_))))
  refine z2.join (fun z : (List zj) × Value => (z3v φ) z.1) r (fun z => ⟨zh.of [(11, (eqv z.2))], [(row 64 z26 5 z.1 z.2)]⟩) (fun z h => ?_) (fun hJ15 => ?_)
  ·
   obtain ⟨v13, sv14⟩ := z
   replace h : (z3v φ) v13 = some r := h
   unfold z3v at h
   refine al [11] [0] rfl rfl rfl (sq (cs (cr [0, 1, 2] rfl (q1 rfl (z0 (mv rfl)) (q1 rfl (z1 (mv rfl)) (q1 rfl (z1 ct) (rn (al [8, 9] [0] rfl rfl rfl (sq (z2.ret (AtX.ret' (tupv [(eqv sv14), (iv .i64 0)]) (z0k.two Try.results12 rfl rfl) [0] [(row 64 z26 5 v13 sv14)] (ol rfl) rfl ?_)))))))))))
   obtain rfl := Option.some.inj h
   exact ⟨sv14, rfl, rfl⟩
  ·
   refine z2.block ?_
   refine z2.to (z2.loop (fun n (z : Int × (List zj) × Value) => z3w φ v4 y8 (z3v φ) n z.1 z.2.1) r (fun z => ⟨zh.of [(3, (iv .i64 v4)), (11, (eqv z.2.2)), (25, (eqv sv9)), (26, (iv .i64 (y8.length : Int))), (27, (iv .i64 z.1))], [(row 64 z26 5 z.2.1 z.2.2), (row 64 z26 5 y8 sv9)]⟩) (fun z => rfl) (fun n19 z ih19 h => ?_) φ (0, ([] : List zj), (Value.slice none 0 0)) h) [0, 1] (sl rfl) (ol rfl) rfl
   obtain ⟨v16, v17, sv18⟩ := z
   replace h : z3w φ v4 y8 (z3v φ) (n19 + 1) v16 v17 = some r := h
   rw [z3w] at h
   refine cs (cr [0] rfl (q1 rfl (z1l (mv rfl) (mv rfl)) (rn (al [3, 11, 25, 26, 27, 28] [0, 1] rfl rfl rfl (sq (cs ?_))))))
   refine cI h rfl (fun c20 h => ?_) (fun c20 h => ?_)
   ·
    refine z2.skip (al [3, 11, 25, 26, 27] [0, 1] rfl rfl rfl (sq (cs (z2.block (cs (cr [0, 1, 2, 3] rfl (ckE h fun h21 h => q1 rfl (zi 1 (ix49 H) (mv rfl) rfl (mv rfl) (h21).1 (h21).2) (q1 rfl (ln (tl64 H) ((Pt.row _ 1 (k := (v16 : Int).toNat) (fo := 0) z7f (mv rfl) rfl (by omega) (z9 h21) rfl).take 5 (cs' := (z26 (gt y8 v16))) rfl) rfl) (n1 rfl (z3p _ (ze64 H) rfl fun b22 => n1 rfl (sto 2 (tl64 H) (mv rfl) (Ce.agg (mv rfl)) rfl rfl rfl rfl ?_)))))))))))
    refine rn (al [3, 11, 13, 25, 26, 27] [0, 1, 2] rfl rfl rfl (sq (cs (cs (cr [0, 1, 2, 3, 4] rfl (q1 rfl (z4 (zge H) (mv rfl)) (q1 rfl (z4 (zg8 H) (mv rfl)) (q1 rfl (lb (tl3 H) 2 (mv rfl) rfl rfl) (q1 rfl (z0 (mv rfl)) (q1 rfl (z96 (mv rfl) (mv rfl)) (rn ?_)))))))))))
    refine al [3, 11, 13, 25, 26, 27, 35] [0, 1, 2] rfl rfl rfl (sq ?_)
    refine cI h rfl (fun c23 h => ?_) (fun c23 h => ?_)
    ·
     refine z2.exit (AtX.then_exit (AtX.in_miss (by decide) (AtX.then_exit (AtX.then_exit (AtX.in_hit ?_)))))
     exact AtX.to (hJ15 (v17, sv18) h) [0] (sl rfl) (ol rfl) rfl
    ·
     refine z2.skip (al [3, 11, 13, 25, 26, 27] [0, 1, 2] rfl rfl rfl (sq (cs (cs (cr [0, 1, 2] rfl (q1 rfl (z0 (mv rfl)) (q1 rfl (z8e 0 (il49 H) (mv rfl) rfl) (q1 rfl (z1 (mv rfl)) (rn (al [3, 11, 13, 14, 25, 26, 27] [0, 1, 2] rfl rfl rfl (sq ?_)))))))))))
     refine cs (cr [0, 1] rfl (q1 rfl (z0 (mv rfl)) (q1 rfl (z5a (mv rfl) ct) (rn (al [3, 11, 13, 14, 25, 26, 27, 39] [0, 1, 2] rfl rfl rfl (sq ?_))))))
     refine z2.join (fun z : (List zj) => (z67 φ v4 y8 v16 (z3w φ v4 y8 (z3v φ) n19)) z) r (fun z => ⟨zh.of [(3, (iv .i64 v4)), (11, (eqv sv18)), (13, (eqv (.pointer (some ⟨b22, 0, none⟩)))), (25, (eqv sv9)), (26, (iv .i64 (y8.length : Int))), (27, (iv .i64 v16))], [(row 64 z26 5 z sv18), (row 64 z26 5 y8 sv9), (box b22 64 (z26 (gt y8 v16)))]⟩) (fun v24 h => ?_) (fun hJ25 => ?_)
     ·
      replace h : (z67 φ v4 y8 v16 (z3w φ v4 y8 (z3v φ) n19)) v24 = some r := h
      unfold z67 at h
      refine al [3, 11, 13, 25, 26, 27] [0, 1, 2] rfl rfl rfl (sq (cs (cr [0, 1, 2, 3] rfl (q1 rfl (z0 (mv rfl)) (q1 rfl (z4 (zge H) (mv rfl)) (q1 rfl (z4 (zjf H) (mv rfl)) (n1 rfl (sto 2 (tl3 H) (mv rfl) (Ce.one (mv rfl) (One.eqv rfl)) rfl rfl rfl rfl (rn (al [3, 11, 13, 25, 26, 27] [0, 1, 2] rfl rfl rfl (sq (cr [0, 1, 2, 3, 4] rfl ?_))))))))))))
      refine q1 rfl (z0 (mv rfl)) (q1 rfl (ln (tl64 H) ((Pt.box 2 (mv rfl) rfl rfl).take 5 (cs' := [(iv .i64 ((gt y8 v16).fRailway)), (iv .i64 ((gt y8 v16).fSpan.fFrom)), (iv .i64 v4), (iv .i64 ((gt y8 v16).fRef.fRailway)), (iv .i64 ((gt y8 v16).fRef.fNo))]) rfl) rfl) (n1 rfl (z1d (e := z26) [(zj.mk (gt y8 v16).fRailway (Span.mk (gt y8 v16).fSpan.fFrom v4) (gt y8 v16).fRef)] (sl49 H) z7f rfl (by decide) ⟨rfl, (Ce.agg (mv rfl)), trivial⟩ fun sv26 => ckE h fun h27 h => zg.cons rfl rfl rfl (z9p 0 (l := v24) (m := [(zj.mk (gt y8 v16).fRailway (Span.mk (gt y8 v16).fSpan.fFrom v4) (gt y8 v16).fRef)]) (sl49 H) z7f (mv rfl) rfl (Src.row 3 (mv rfl) rfl) h27 (z99 (by decide) h27) fun sv28 => cq rfl rfl rfl (z1 (mv rfl)) (zg.nil (AtX.in_normal (AtX.le' [(3, (iv .i64 v4)), (11, (eqv sv28)), (25, (eqv sv9)), (26, (iv .i64 (y8.length : Int))), (27, (iv .i64 v16))] [0, 1] [(row 64 z26 5 (v24 ++ [(zj.mk (gt y8 v16).fRailway (Span.mk (gt y8 v16).fSpan.fFrom v4) (gt y8 v16).fRef)]) sv28), (row 64 z26 5 y8 sv9)] (sl rfl) (ol rfl) rfl (AtX.seq ?_))))))))
      refine z2.region' [0, 1] rfl ?_
      refine zg.cons_q (iv .i64 (W (v16 + 1))) rfl rfl rfl (z0u (mv rfl) (Ev.const _)) (zg.cons_q (iv .i64 (W (v16 + 1))) rfl rfl rfl (z0 (mv rfl)) (zg.nil ?_))
      exact AtX.to (ih19 ((W (v16 + 1)), (v24 ++ [(zj.mk (gt y8 v16).fRailway (Span.mk (gt y8 v16).fSpan.fFrom v4) (gt y8 v16).fRef)]), sv28) h) [0, 1] ⟨⟨_, rfl, Ent.refl⟩, ⟨_, rfl, Ent.refl⟩, ⟨_, rfl, Ent.refl⟩, ⟨_, rfl, Ent.refl⟩, ⟨_, rfl, Ent.refl⟩, trivial⟩ ⟨⟨_, rfl, EntH.refl⟩, ⟨_, rfl, EntH.refl⟩, trivial⟩ rfl
     ·
      refine cI h rfl (fun c29 h => ?_) (fun c29 h => ?_)
      ·
       refine z2.region' [0, 1, 2, 3, 4, 5, 6, 7, 8, 9] rfl ?_
       refine zg.cons_q (eqv sv18) rfl rfl rfl (z0 (mv rfl)) (zg.cons_q (iv .i64 (v17.length : Int)) rfl rfl rfl (z0 (mv rfl)) (zg.cons_q (iv .i64 (W ((v17.length : Int) - 1))) rfl rfl rfl (z25 (mv rfl) (Ev.const _)) (zg.cons_q (eqv (.pointer (some ⟨b22, 1, none⟩))) rfl rfl rfl (z4 (zge H) (mv rfl)) (zg.cons_q (eqv (.pointer (some ⟨b22, 1, none⟩))) rfl rfl rfl (z4 (zg8 H) (mv rfl)) (zg.cons_q (iv .i64 ((gt y8 v16).fSpan.fFrom)) rfl rfl rfl (z1n (tl3 H) ((Pt.box 2 (mv rfl) rfl rfl).take 1 (cs' := [(iv .i64 ((gt y8 v16).fSpan.fFrom))]) rfl)) (ckE h fun h30 h => zg.cons_q (rowp sv18 (((W ((v17.length : Int) - 1)) : Int).toNat * 5)) rfl rfl rfl (zi 0 (ix49 H) (mv rfl) rfl (mv rfl) (h30).1 (h30).2) (zg.cons_q (rowp sv18 (((W ((v17.length : Int) - 1)) : Int).toNat * 5 + 1)) rfl rfl rfl (zab (zge H) (mv rfl)) (zg.cons_q (rowp sv18 (((W ((v17.length : Int) - 1)) : Int).toNat * 5 + 1 + 1)) rfl rfl rfl (zab (zjf H) (mv rfl)) (zg.cons rfl rfl rfl (z47 0 (k := ((W ((v17.length : Int) - 1)) : Int).toNat) (fo := 2) (z' := (zj.mk (gt v17 (W ((v17.length : Int) - 1))).fRailway (Span.mk (gt v17 (W ((v17.length : Int) - 1))).fSpan.fFrom (gt y8 v16).fSpan.fFrom) (gt v17 (W ((v17.length : Int) - 1))).fRef)) (cs := [(iv .i64 ((gt y8 v16).fSpan.fFrom))]) z7f (tl3 H) (Ev.tmp rfl) (Ce.one (Ev.tmp rfl) (One.eqv rfl)) rfl rfl (by omega) (z9 h30) (Nat.le_of_ble_eq_true rfl) rfl (rn ?_)))))))))))
       exact AtX.to (hJ25 (z2x v17 (W ((v17.length : Int) - 1)) (zj.mk (gt v17 (W ((v17.length : Int) - 1))).fRailway (Span.mk (gt v17 (W ((v17.length : Int) - 1))).fSpan.fFrom (gt y8 v16).fSpan.fFrom) (gt v17 (W ((v17.length : Int) - 1))).fRef)) h) [0, 1, 2] (sl rfl) (ol rfl) rfl
      ·
       refine z2.skip ?_
       exact AtX.to (hJ25 v17 h) [0, 1, 2] (sl rfl) (ol rfl) rfl
   ·
    refine z2.exit (AtX.then_exit (AtX.then_exit (AtX.in_hit ?_)))
    exact AtX.to (hJ15 (v17, sv18) h) [0] (sl rfl) (ol rfl) rfl
theorem z8p {P : Program} (H : P = Try.prog) (φ : Nat) (v1 : Pool) (v2 : (List zf)) (v3 : Int) (v4 : Int) (r : (Int × Int)) (h : z7b φ v1 v2 v3 v4 = some r) : z1q P 18 [(agg (z2k v1)), (ro zd 21 v2), (iv .i64 v3), (iv .i64 v4)] (fun x news => x = tupv [(iv .i64 r.1), (iv .i64 r.2)] ∧ news = []) := by
 unfold z7b at h
 refine z1q.of_code' 42 (fn18 H) rfl rfl (Nat.le_of_ble_eq_true rfl) fun w0 base r0 wI => ?_
 refine cl [0, 1, 2, 3] [] rfl rfl rfl (cs (cr [0, 1, 2] rfl (n1 rfl (z7u (Ce.agg (mv rfl)) fun b5 => q1 rfl (z1 ct) (q1 rfl (z1 ct) (rn (al [1, 2, 3, 4] [0] rfl rfl rfl (sq (cs (cs (cr [0, 1, 2, 3, 4] rfl ?_)))))))))))
 refine q1 rfl (ln (tl36 H) ((Pt.box 0 (mv rfl) rfl rfl).take 9 (cs' := (z2k v1)) rfl) rfl) (q1 rfl (z0 (mv rfl)) (q1 rfl (z0 (mv rfl)) (z0c h fun y6 ey6 h => q1 rfl (oQ (zon H) (za5 H φ v1 v3 v4 _ ey6) z7 ⟨ef (mv rfl), ef (mv rfl), ef (mv rfl), trivial⟩) (q1 rfl (z1 (mv rfl)) (rn (al [1, 2, 3, 4, 10] [0] rfl rfl rfl (sq (cs (cr [0, 1] rfl (q1 rfl (z0 (mv rfl)) ?_))))))))))
 refine q1 rfl (z7p (mv rfl) ct) (rn (al [1, 2, 3, 4, 10, 18] [0] rfl rfl rfl (sq ?_)))
 refine cI h rfl (fun c7 h => ?_) (fun c7 h => ?_)
 ·
  refine cs (cr [0, 1, 2] rfl (q1 rfl (z0 (mv rfl)) (q1 rfl (z1 ct) (q1 rfl (z1 (mv rfl)) (rn (al [8, 9] [] rfl rfl rfl (sq (z2.ret (AtX.then_ret (AtX.ret' (tupv [(iv .i64 0), (iv .i64 y6)]) (z0k.two Try.results18 rfl rfl) [] [] trivial rfl ?_))))))))))
  obtain rfl := Option.some.inj h
  exact ⟨rfl, rfl⟩
 ·
  refine z2.skip (al [1, 2, 3, 4] [0] rfl rfl rfl (sq (cs (cr [0, 1, 2, 3, 4] rfl (q1 rfl (ln (tl36 H) ((Pt.box 0 (mv rfl) rfl rfl).take 9 (cs' := (z2k v1)) rfl) rfl) (q1 rfl (z0 (mv rfl)) (q1 rfl (z0 (mv rfl)) (z0c h fun y8 ey8 h => n1 rfl (oF (zoc H) (za6 H φ v1 v2 v3 _ ey8) ⟨ef (mv rfl), ef (mv rfl), ef (mv rfl), trivial⟩ fun x11 nw12 hk10 => ?_)))))))))
  obtain ⟨sv9, rfl, rfl⟩ := hk10
  refine ⟨z7, z5u ⟨z56 zem, trivial⟩, ?_⟩
  refine q1 rfl (z1 (mv rfl)) (rn (al [3, 11] [1] rfl rfl rfl (sq (cs (cr [0, 1, 2, 3] rfl (q1 rfl (z0 (mv rfl)) (q1 rfl (z8e 0 (il49 H) (mv rfl) rfl) (q1 rfl (z25 (mv rfl) ct) (q1 rfl (z1 (mv rfl)) (rn (al [3, 11, 12] [0] rfl rfl rfl ?_)))))))))))
  refine sq (cs ?_)
  refine z2.join (fun z : Int => (z54 φ y8) z) r (fun z => ⟨zh.of [(11, (eqv sv9)), (12, (iv .i64 z))], [(row 64 z26 5 y8 sv9)]⟩) (fun v13 h => ?_) (fun hJ14 => ?_)
  ·
   replace h : (z54 φ y8) v13 = some r := h
   unfold z54 at h
   refine al [11, 12] [0] rfl rfl rfl (sq (cs (cr [0, 1, 2, 3, 4, 5, 6] rfl (q1 rfl (z0 (mv rfl)) (q1 rfl (z0 (mv rfl)) (ckE h fun h15 h => q1 rfl (zi 0 (ix49 H) (mv rfl) rfl (mv rfl) (h15).1 (h15).2) (q1 rfl (zab (zov H) (mv rfl)) (q1 rfl (z1n (tl3 H) ((Pt.row _ 0 (k := (v13 : Int).toNat) (fo := 0) z7f (mv rfl) rfl (by omega) (z9 h15) rfl).take 1 (cs' := [(iv .i64 ((gt y8 v13).fRailway))]) rfl)) (q1 rfl (z1 (mv rfl)) (q1 rfl (z1 ct) ?_))))))))))
   refine rn (al [8, 9] [] rfl rfl rfl (sq (z2.ret (AtX.ret' (tupv [(iv .i64 ((gt y8 v13).fRailway)), (iv .i64 0)]) (z0k.two Try.results18 rfl rfl) [] [] trivial rfl ?_))))
   obtain rfl := Option.some.inj h
   exact ⟨rfl, rfl⟩
  ·
   refine z2.block ?_
   refine z2.to (z2.loop (fun n (z : Int) => z5s φ v4 y8 (z54 φ y8) n z) r (fun z => ⟨zh.of [(3, (iv .i64 v4)), (11, (eqv sv9)), (12, (iv .i64 z))], [(row 64 z26 5 y8 sv9)]⟩) (fun z => rfl) (fun n17 v16 ih17 h => ?_) φ (W ((y8.length : Int) - 1)) h) [0] (sl rfl) (ol rfl) rfl
   replace h : z5s φ v4 y8 (z54 φ y8) (n17 + 1) v16 = some r := h
   rw [z5s] at h
   refine cs (cs (cr [0, 1, 2, 3, 4, 5, 6, 7] rfl (q1 rfl (z0 (mv rfl)) (q1 rfl (z0 (mv rfl)) (ckE h fun h18 h => q1 rfl (zi 0 (ix49 H) (mv rfl) rfl (mv rfl) (h18).1 (h18).2) (q1 rfl (zab (zge H) (mv rfl)) (q1 rfl (zab (zg8 H) (mv rfl)) (q1 rfl (z1n (tl3 H) ((Pt.row _ 0 (k := (v16 : Int).toNat) (fo := 1) z7f (mv rfl) rfl (by omega) (z9 h18) rfl).take 1 (cs' := [(iv .i64 ((gt y8 v16).fSpan.fFrom))]) rfl)) (q1 rfl (z0 (mv rfl)) (q1 rfl (z5a (mv rfl) (mv rfl)) ?_))))))))))
   refine rn (al [3, 11, 12, 34] [0] rfl rfl rfl (sq ?_))
   refine cI h rfl (fun c19 h => ?_) (fun c19 h => ?_)
   ·
    refine z2.skip (al [3, 11, 12] [0] rfl rfl rfl (sq (z2.block (cr [0, 1, 2] rfl (q1 rfl (z0 (mv rfl)) (q1 rfl (z25 (mv rfl) ct) (q1 rfl (z1 (mv rfl)) (rn (AtX.in_normal ?_)))))))))
    exact AtX.to (ih17 (W (v16 - 1)) h) [0] (sl rfl) (ol rfl) rfl
   ·
    refine z2.exit (AtX.then_exit (AtX.then_exit (AtX.in_hit ?_)))
    exact AtX.to (hJ14 v16 h) [0] (sl rfl) (ol rfl) rfl
theorem zal {P : Program} (H : P = Try.prog) (φ : Nat) (v1 : (List z3)) (v2 : (List z3)) (r : (Bool)) (h : z7v φ v1 v2 = some r) : z1q P 16 [(ro z5 10 v1), (ro z5 10 v2)] (fun x news => x = (bv r) ∧ news = []) := by
 unfold z7v at h
 refine z1q.of_code' 26 (fn16 H) rfl rfl (Nat.le_of_ble_eq_true rfl) fun w0 base r0 wI => ?_
 refine cl [0, 1] [] rfl rfl rfl (cs (cr [0] rfl (q1 rfl (z1 ct) (rn (al [0, 1] [] rfl rfl rfl (sq (cs (cs (cr [0, 1, 2, 3, 4] rfl (q1 rfl (z0 (mv rfl)) (q1 rfl (z28 (il53 H) (mv rfl)) ?_)))))))))))
 refine q1 rfl (z0 (mv rfl)) (q1 rfl (z28 (il53 H) (mv rfl)) (q1 rfl (z7p (mv rfl) (mv rfl)) (rn (al [0, 1, 10] [] rfl rfl rfl (sq ?_)))))
 refine cI h rfl (fun c3 h => ?_) (fun c3 h => ?_)
 ·
  refine cs (cr [0] rfl (q1 rfl (z1 ct) (rn (al [4] [] rfl rfl rfl (sq (z2.ret (AtX.then_ret (AtX.ret' (bv false) (z0k.one Try.results16 rfl) [] [] trivial rfl ?_))))))))
  obtain rfl := Option.some.inj h
  exact ⟨rfl, rfl⟩
 ·
  refine z2.skip (al [0, 1] [] rfl rfl rfl (sq (cs (cs (cr [0] rfl (q1 rfl (z1 ct) (rn (al [0, 1, 5] [] rfl rfl rfl (sq ?_)))))))))
  refine z2.join (fun z : Unit => (z3x φ)) r (fun z => ⟨zh.of [], []⟩) (fun z h => ?_) (fun hJ4 => ?_)
  ·
   replace h : (z3x φ) = some r := h
   unfold z3x at h
   refine al [] [] rfl rfl rfl (sq (cs (cr [0] rfl (q1 rfl (z1 ct) (rn (al [4] [] rfl rfl rfl (sq (z2.ret (AtX.ret' (bv true) (z0k.one Try.results16 rfl) [] [] trivial rfl ?_)))))))))
   obtain rfl := Option.some.inj h
   exact ⟨rfl, rfl⟩
  ·
   refine z2.block ?_
   refine z2.to (z2.loop (fun n (z : Int) => z4s φ v1 v2 (z3x φ) n z) r (fun z => ⟨zh.of [(0, (ro z5 10 v1)), (1, (ro z5 10 v2)), (5, (iv .i64 z))], []⟩) (fun z => rfl) (fun n6 v5 ih6 h => ?_) φ 0 h) [] (sl rfl) trivial rfl
   replace h : z4s φ v1 v2 (z3x φ) (n6 + 1) v5 = some r := h
   rw [z4s] at h
   refine cs (cs (cr [0, 1, 2, 3] rfl (q1 rfl (z0 (mv rfl)) (q1 rfl (z0 (mv rfl)) (q1 rfl (z28 (il53 H) (mv rfl)) (q1 rfl (z1l (mv rfl) (mv rfl)) (rn (al [0, 1, 5, 14] [] rfl rfl rfl (sq ?_)))))))))
   refine cI h rfl (fun c7 h => ?_) (fun c7 h => ?_)
   ·
    refine z2.skip (al [0, 1, 5] [] rfl rfl rfl (sq (cs (z2.block (cs (ckE h fun h8 h => ckE h fun h9 h => z2.draw (QR := [(0, _), (1, _), (2, _), (3, _), (4, _), (5, _), (6, _), (7, _), (8, _)]) (tab := [(some 17, []), (some 18, []), (some 19, [0, 1]), (some 20, [2]), (some 21, []), (some 22, []), (some 23, [4, 5]), (some 24, [6]), (some 25, [3, 7])]) (z5e H) (Reg.intro [] [] (by kernel_rfl) rfl (an rfl) ⟨(qr rfl (z0 (mv rfl))), (qr rfl (z0 (mv rfl))), (qr rfl (z0e (ix53 H) (mv rfl) (mv rfl) (h8).1 (z9 h8))), (qr rfl (ln (tl70 H) (Pt.rop (mv rfl)) rfl)), (qr rfl (z0 (mv rfl))), (qr rfl (z0 (mv rfl))), (qr rfl (z0e (ix53 H) (mv rfl) (mv rfl) (h9).1 (z9 h9))), (qr rfl (ln (tl70 H) (Pt.rop (mv rfl)) rfl)), (qr rfl (zpu [(.int .i64 ((gt v1 v5).fWagon)), (.int .i64 ((gt v1 v5).fPlace)), (.int .i64 ((gt v1 v5).fFrom)), (.int .i64 ((gt v1 v5).fTo)), (.int .i64 ((gt v1 v5).fAt)), (.int .i64 ((gt v1 v5).fCode)), (.int .i64 ((gt v1 v5).fDeliver.fRailway)), (.int .i64 ((gt v1 v5).fDeliver.fNo)), (.int .i64 ((gt v1 v5).fReceive.fRailway)), (.int .i64 ((gt v1 v5).fReceive.fNo))] [(.int .i64 ((gt v2 v5).fWagon)), (.int .i64 ((gt v2 v5).fPlace)), (.int .i64 ((gt v2 v5).fFrom)), (.int .i64 ((gt v2 v5).fTo)), (.int .i64 ((gt v2 v5).fAt)), (.int .i64 ((gt v2 v5).fCode)), (.int .i64 ((gt v2 v5).fDeliver.fRailway)), (.int .i64 ((gt v2 v5).fDeliver.fNo)), (.int .i64 ((gt v2 v5).fReceive.fRailway)), (.int .i64 ((gt v2 v5).fReceive.fNo))] (mv rfl) (mv rfl) rfl rfl (eg70 H) (fun w => ziz H w (gt v1 v5) (gt v2 v5)))), trivial⟩ trivial (fun _ => al [0, 1, 5, 25] [] rfl rfl rfl (sq ?_)))))))))
    refine cI h rfl (fun c10 h => ?_) (fun c10 h => ?_)
    ·
     refine cs (cr [0] rfl (q1 rfl (z1 ct) (rn (al [4] [] rfl rfl rfl (sq (z2.ret (AtX.in_ret (AtX.then_ret (AtX.then_ret (AtX.in_ret (AtX.then_ret ?_)))))))))))
     refine AtX.ret' (bv false) (z0k.one Try.results16 rfl) [] [] trivial rfl ?_
     obtain rfl := Option.some.inj h
     exact ⟨rfl, rfl⟩
    ·
     refine z2.skip (AtX.in_normal (al [0, 1, 5] [] rfl rfl rfl (sq (cr [0, 1, 2] rfl (q1 rfl (z0 (mv rfl)) (q1 rfl (z0u (mv rfl) ct) (q1 rfl (z1 (mv rfl)) (rn ?_))))))))
     exact AtX.to (ih6 (W (v5 + 1)) h) [] (sl rfl) trivial rfl
   ·
    refine z2.exit (AtX.then_exit (AtX.then_exit (AtX.in_hit ?_)))
    exact AtX.to (hJ4 () h) [] trivial trivial rfl
theorem zgz {P : Program} (H : P = Try.prog) (φ : Nat) (v1 : (List zj)) (v2 : (List zj)) (r : (Bool)) (h : zd1 φ v1 v2 = some r) : z1q P 15 [(ro z26 5 v1), (ro z26 5 v2)] (fun x news => x = (bv r) ∧ news = []) := by
 unfold zd1 at h
 refine z1q.of_code' 26 (fn15 H) rfl rfl (Nat.le_of_ble_eq_true rfl) fun w0 base r0 wI => ?_
 refine cl [0, 1] [] rfl rfl rfl (cs (cr [0] rfl (q1 rfl (z1 ct) (rn (al [0, 1] [] rfl rfl rfl (sq (cs (cs (cr [0, 1, 2, 3, 4] rfl (q1 rfl (z0 (mv rfl)) (q1 rfl (z28 (il49 H) (mv rfl)) ?_)))))))))))
 refine q1 rfl (z0 (mv rfl)) (q1 rfl (z28 (il49 H) (mv rfl)) (q1 rfl (z7p (mv rfl) (mv rfl)) (rn (al [0, 1, 10] [] rfl rfl rfl (sq ?_)))))
 refine cI h rfl (fun c3 h => ?_) (fun c3 h => ?_)
 ·
  refine cs (cr [0] rfl (q1 rfl (z1 ct) (rn (al [4] [] rfl rfl rfl (sq (z2.ret (AtX.then_ret (AtX.ret' (bv false) (z0k.one Try.results15 rfl) [] [] trivial rfl ?_))))))))
  obtain rfl := Option.some.inj h
  exact ⟨rfl, rfl⟩
 ·
  refine z2.skip (al [0, 1] [] rfl rfl rfl (sq (cs (cs (cr [0] rfl (q1 rfl (z1 ct) (rn (al [0, 1, 5] [] rfl rfl rfl (sq ?_)))))))))
  refine z2.join (fun z : Unit => (z7j φ)) r (fun z => ⟨zh.of [], []⟩) (fun z h => ?_) (fun hJ4 => ?_)
  ·
   replace h : (z7j φ) = some r := h
   unfold z7j at h
   refine al [] [] rfl rfl rfl (sq (cs (cr [0] rfl (q1 rfl (z1 ct) (rn (al [4] [] rfl rfl rfl (sq (z2.ret (AtX.ret' (bv true) (z0k.one Try.results15 rfl) [] [] trivial rfl ?_)))))))))
   obtain rfl := Option.some.inj h
   exact ⟨rfl, rfl⟩
  ·
   refine z2.block ?_
   refine z2.to (z2.loop (fun n (z : Int) => z80 φ v1 v2 (z7j φ) n z) r (fun z => ⟨zh.of [(0, (ro z26 5 v1)), (1, (ro z26 5 v2)), (5, (iv .i64 z))], []⟩) (fun z => rfl) (fun n6 v5 ih6 h => ?_) φ 0 h) [] (sl rfl) trivial rfl
   replace h : z80 φ v1 v2 (z7j φ) (n6 + 1) v5 = some r := h
   rw [z80] at h
   refine cs (cs (cr [0, 1, 2, 3] rfl (q1 rfl (z0 (mv rfl)) (q1 rfl (z0 (mv rfl)) (q1 rfl (z28 (il49 H) (mv rfl)) (q1 rfl (z1l (mv rfl) (mv rfl)) (rn (al [0, 1, 5, 14] [] rfl rfl rfl (sq ?_)))))))))
   refine cI h rfl (fun c7 h => ?_) (fun c7 h => ?_)
   ·
    refine z2.skip (al [0, 1, 5] [] rfl rfl rfl (sq (cs (z2.block (cs (ckE h fun h8 h => ckE h fun h9 h => z2.draw (QR := [(0, _), (1, _), (2, _), (3, _), (4, _), (5, _), (6, _), (7, _), (8, _)]) (tab := [(some 17, []), (some 18, []), (some 19, [0, 1]), (some 20, [2]), (some 21, []), (some 22, []), (some 23, [4, 5]), (some 24, [6]), (some 25, [3, 7])]) (z5e H) (Reg.intro [] [] (by kernel_rfl) rfl (an rfl) ⟨(qr rfl (z0 (mv rfl))), (qr rfl (z0 (mv rfl))), (qr rfl (z0e (ix49 H) (mv rfl) (mv rfl) (h8).1 (z9 h8))), (qr rfl (ln (tl64 H) (Pt.rop (mv rfl)) rfl)), (qr rfl (z0 (mv rfl))), (qr rfl (z0 (mv rfl))), (qr rfl (z0e (ix49 H) (mv rfl) (mv rfl) (h9).1 (z9 h9))), (qr rfl (ln (tl64 H) (Pt.rop (mv rfl)) rfl)), (qr rfl (zpu [(.int .i64 ((gt v1 v5).fRailway)), (.int .i64 ((gt v1 v5).fSpan.fFrom)), (.int .i64 ((gt v1 v5).fSpan.fTo)), (.int .i64 ((gt v1 v5).fRef.fRailway)), (.int .i64 ((gt v1 v5).fRef.fNo))] [(.int .i64 ((gt v2 v5).fRailway)), (.int .i64 ((gt v2 v5).fSpan.fFrom)), (.int .i64 ((gt v2 v5).fSpan.fTo)), (.int .i64 ((gt v2 v5).fRef.fRailway)), (.int .i64 ((gt v2 v5).fRef.fNo))] (mv rfl) (mv rfl) rfl rfl (eg64 H) (fun w => zkm H w (gt v1 v5) (gt v2 v5)))), trivial⟩ trivial (fun _ => al [0, 1, 5, 25] [] rfl rfl rfl (sq ?_)))))))))
    refine cI h rfl (fun c10 h => ?_) (fun c10 h => ?_)
    ·
     refine cs (cr [0] rfl (q1 rfl (z1 ct) (rn (al [4] [] rfl rfl rfl (sq (z2.ret (AtX.in_ret (AtX.then_ret (AtX.then_ret (AtX.in_ret (AtX.then_ret ?_)))))))))))
     refine AtX.ret' (bv false) (z0k.one Try.results15 rfl) [] [] trivial rfl ?_
     obtain rfl := Option.some.inj h
     exact ⟨rfl, rfl⟩
    ·
     refine z2.skip (AtX.in_normal (al [0, 1, 5] [] rfl rfl rfl (sq (cr [0, 1, 2] rfl (q1 rfl (z0 (mv rfl)) (q1 rfl (z0u (mv rfl) ct) (q1 rfl (z1 (mv rfl)) (rn ?_))))))))
     exact AtX.to (ih6 (W (v5 + 1)) h) [] (sl rfl) trivial rfl
   ·
    refine z2.exit (AtX.then_exit (AtX.then_exit (AtX.in_hit ?_)))
    exact AtX.to (hJ4 () h) [] trivial trivial rfl
theorem zfy {P : Program} (H : P = Try.prog) (φ : Nat) (v1 : Int) (r : (List Int)) (h : zbl φ v1 = some r) : z1q P 62 [(eqv (.slice none 0 0)), (iv .i64 v1)] (zgr r) := by
 unfold zbl at h
 refine z1q.of_code' 27 (fn62 H) rfl rfl (Nat.le_of_ble_eq_true rfl) fun w0 base r0 wI => ?_
 refine cl [0, 1] [] rfl rfl rfl (z2.addNil 3 eI64 1 (cs (z2.addNil 3 eI64 1 (cr [0] rfl (q1 rfl (z1 ct) (rn (al [0, 1] [0] rfl rfl rfl (sq (cs (cs (cr [0, 1] rfl ?_)))))))))))
 refine q1 rfl (z0 (mv rfl)) (q1 rfl (z1l (mv rfl) ct) (rn (al [0, 1, 6] [0] rfl rfl rfl (sq ?_))))
 refine cI h rfl (fun c2 h => ?_) (fun c2 h => ?_)
 ·
  cases h
 ·
  refine z2.skip (al [0, 1] [0] rfl rfl rfl (sq (cs (cs (cr [0, 1, 2, 3, 4, 5, 6, 7] rfl (q1 rfl (z0 (mv rfl)) (q1 rfl (z0 (mv rfl)) (q1 rfl (zjk (il96 H) (mv rfl)) (q1 rfl (z0 (mv rfl)) (q1 rfl (z8e 0 (il96 H) (mv rfl) rfl) (q1 rfl (z25 (mv rfl) (mv rfl)) ?_)))))))))))
  refine q1 rfl (z25 (mv rfl) (mv rfl)) (q1 rfl (z1 (mv rfl)) (rn (al [0, 1] [0] rfl rfl rfl (sq (cs (cr [0, 1] rfl (q1 rfl (z0 (mv rfl)) (q1 rfl (z5a (mv rfl) ct) (rn (al [0, 1, 16] [0] rfl rfl rfl (sq ?_)))))))))))
  refine z2.join (fun z : (List Int) × Value => (z7q φ) z.1) r (fun z => ⟨zh.of [(0, (eqv z.2))], [(row 3 eI64 1 z.1 z.2)]⟩) (fun z h => ?_) (fun hJ5 => ?_)
  ·
   obtain ⟨v3, sv4⟩ := z
   replace h : (z7q φ) v3 = some r := h
   unfold z7q at h
   refine al [0] [0] rfl rfl rfl (sq (cs (cr [0, 1] rfl (q1 rfl (z0 (mv rfl)) (q1 rfl (z1 (mv rfl)) (rn (al [4] [0] rfl rfl rfl (sq (z2.ret (AtX.ret' (eqv sv4) (z0k.one Try.results62 rfl) [0] [(row 3 eI64 1 v3 sv4)] (ol rfl) rfl ?_))))))))))
   obtain rfl := Option.some.inj h
   exact ⟨sv4, rfl, rfl⟩
  ·
   refine cI h rfl (fun c6 h => ?_) (fun c6 h => ?_)
   ·
    refine cr [0, 1, 2, 3, 4, 5, 6, 7, 8, 9] rfl (q1 rfl (z0 (mv rfl)) (q1 rfl (z0 (mv rfl)) (q1 rfl (zjk (il96 H) (mv rfl)) (q1 rfl (zkl (sl96 H) (mv rfl) (mv rfl)) (q1 rfl (z0 (mv rfl)) (ckE h fun h7 h => ckE h fun h8 h => n1 rfl (zmm 0 0 [.int .i64 0] (sl96 H) (ui3 H) lI64 (ze3 H) rfl rfl (mv rfl) rfl (mv rfl) h7 h8 (z99 (by decide) h8) fun sv9 => q1 rfl (z0 (mv rfl)) (q1 rfl (znx (il96 H) (mv rfl)) (ckE h fun h10 h => ?_)))))))))
    refine n1 rfl (zq0 0 (sl96 H) lI64 (mv rfl) rfl (mv rfl) (h10).1 (h10).2 fun sv11 => q1 rfl (z1 (mv rfl)) (rn ?_))
    exact AtX.to (hJ5 (((List.replicate ((W (v1 - (W (0 - (([] : List Int).length : Int))))) : Int).toNat (0 : Int)).take (0 : Int).toNat), sv11) h) [0] (sl rfl) (ol rfl) rfl
   ·
    refine z2.skip ?_
    exact AtX.to (hJ5 (([] : List Int), (Value.slice none 0 0)) h) [0] (sl rfl) (ol rfl) rfl
theorem ze1 {P : Program} (H : P = Try.prog) (φ : Nat) (v1 : (List (List Int))) (r : ((List Int))) (h : zaj φ v1 = some r) : z1q P 38 [(ro zbm 1 v1)] (zf0 r) := by
 unfold zaj at h
 refine z1q.of_code' 36 (fn38 H) rfl rfl (Nat.le_of_ble_eq_true rfl) fun w0 base r0 wI => ?_
 refine cl [0] [] rfl rfl rfl (cs (z2.addNil 3 eI64 1 (cr [0] rfl (q1 rfl (z1 ct) (rn (al [0] [] rfl rfl rfl (sq (cs (cr [0] rfl (q1 rfl (z1 ct) (rn ?_)))))))))))
 refine al [0, 3] [] rfl rfl rfl (sq (cs (cs (cr [0, 1, 2] rfl (q1 rfl (z0 (mv rfl)) (q1 rfl (z28 (zs9 H) (mv rfl)) (q1 rfl (z0 ct) (rn (al [0, 3, 9, 10, 11] [] rfl rfl rfl (sq ?_))))))))))
 refine z2.join (fun z : Int => (z60 φ v1) z) r (fun z => ⟨zh.of [(0, (ro zbm 1 v1)), (3, (iv .i64 z))], []⟩) (fun v2 h => ?_) (fun hJ3 => ?_)
 ·
  replace h : (z60 φ v1) v2 = some r := h
  unfold z60 at h
  refine al [0, 3] [] rfl rfl rfl (sq (cs (cr [0, 1, 2] rfl (q1 rfl (z0 (mv rfl)) (z0c h fun y4 ey4 h => n1 rfl (oF (zrr H) (zfy H φ v2 _ ey4) ⟨ef ct, ef (mv rfl), trivial⟩ fun x7 nw8 hk6 => ?_))))))
  obtain ⟨sv5, rfl, rfl⟩ := hk6
  refine ⟨z7, z5u ⟨z56 z4p, trivial⟩, ?_⟩
  refine q1 rfl (z1 (mv rfl)) (rn (al [0, 6] [0] rfl rfl rfl (sq (cs (cs (cr [0, 1, 2] rfl (q1 rfl (z0 (mv rfl)) (q1 rfl (z28 (zs9 H) (mv rfl)) (q1 rfl (z0 ct) (rn (al [6, 25, 26, 27] [0] rfl rfl rfl ?_)))))))))))
  refine sq ?_
  refine z2.join (fun z : (List Int) × Value => (z5d φ) z.1) r (fun z => ⟨zh.of [(6, (eqv z.2))], [(row 3 eI64 1 z.1 z.2)]⟩) (fun z h => ?_) (fun hJ11 => ?_)
  ·
   obtain ⟨v9, sv10⟩ := z
   replace h : (z5d φ) v9 = some r := h
   unfold z5d at h
   refine al [6] [0] rfl rfl rfl (sq (cs (cr [0, 1] rfl (q1 rfl (z0 (mv rfl)) (q1 rfl (z1 (mv rfl)) (rn (al [2] [0] rfl rfl rfl (sq (z2.ret (AtX.ret' (eqv sv10) (z0k.one Try.results38 rfl) [0] [(row 3 eI64 1 v9 sv10)] (ol rfl) rfl ?_))))))))))
   obtain rfl := Option.some.inj h
   exact ⟨sv10, rfl, rfl⟩
  ·
   refine z2.block ?_
   refine z2.to (z2.loop (fun n (z : Int × (List Int) × Value) => z6i φ v1 (z5d φ) n z.1 z.2.1) r (fun z => ⟨zh.of [(6, (eqv z.2.2)), (25, (ro zbm 1 v1)), (26, (iv .i64 (v1.length : Int))), (27, (iv .i64 z.1))], [(row 3 eI64 1 z.2.1 z.2.2)]⟩) (fun z => rfl) (fun n15 z ih15 h => ?_) φ (0, y4, sv5) h) [0] (sl rfl) (ol rfl) rfl
   obtain ⟨v12, v13, sv14⟩ := z
   replace h : z6i φ v1 (z5d φ) (n15 + 1) v12 v13 = some r := h
   rw [z6i] at h
   refine cs (cr [0] rfl (q1 rfl (z1l (mv rfl) (mv rfl)) (rn (al [6, 25, 26, 27, 28] [0] rfl rfl rfl (sq (cs ?_))))))
   refine cI h rfl (fun c16 h => ?_) (fun c16 h => ?_)
   ·
    refine z2.skip (al [6, 25, 26, 27] [0] rfl rfl rfl (sq (cs (z2.block (cs (cr [0, 1, 2] rfl (ckE h fun h17 h => q1 rfl (z0e (zte H) (mv rfl) (mv rfl) (h17).1 (z9 h17)) (q1 rfl (lr (tl96 H) (mv rfl)) (q1 rfl (z1 (mv rfl)) (rn ?_))))))))))
    refine al [6, 8, 25, 26, 27] [0] rfl rfl rfl (sq (cr [0, 1, 2, 3] rfl (q1 rfl (z0 (mv rfl)) (q1 rfl (z0 (mv rfl)) (ckE h fun h18 h => n1 rfl (z9p 0 (l := v13) (m := (gt v1 v12)) (sl96 H) lI64 (mv rfl) rfl (Src.ro lI64 (by decide) (mv rfl)) h18 (z99 (by decide) h18) fun sv19 => q1 rfl (z1 (mv rfl)) (rn (AtX.in_normal (al [6, 25, 26, 27] [0] rfl rfl rfl (sq ?_))))))))))
    refine cr [0, 1] rfl (q1 rfl (z0u (mv rfl) ct) (q1 rfl (z0 (mv rfl)) (rn ?_)))
    exact AtX.to (ih15 ((W (v12 + 1)), (v13 ++ (gt v1 v12)), sv19) h) [0] (sl rfl) (ol rfl) rfl
   ·
    refine z2.exit (AtX.then_exit (AtX.then_exit (AtX.in_hit ?_)))
    exact AtX.to (hJ11 (v13, sv14) h) [0] (sl rfl) (ol rfl) rfl
 ·
  refine z2.block ?_
  refine z2.to (z2.loop (fun n (z : Int × Int) => z6k φ v1 (z60 φ v1) n z.1 z.2) r (fun z => ⟨zh.of [(0, (ro zbm 1 v1)), (3, (iv .i64 z.1)), (9, (ro zbm 1 v1)), (10, (iv .i64 (v1.length : Int))), (11, (iv .i64 z.2))], []⟩) (fun z => rfl) (fun n22 z ih22 h => ?_) φ (0, 0) h) [] (sl rfl) trivial rfl
  obtain ⟨v20, v21⟩ := z
  replace h : z6k φ v1 (z60 φ v1) (n22 + 1) v20 v21 = some r := h
  rw [z6k] at h
  refine cs (cr [0] rfl (q1 rfl (z1l (mv rfl) (mv rfl)) (rn (al [0, 3, 9, 10, 11, 12] [] rfl rfl rfl (sq (cs ?_))))))
  refine cI h rfl (fun c23 h => ?_) (fun c23 h => ?_)
  ·
   refine z2.skip (al [0, 3, 9, 10, 11] [] rfl rfl rfl (sq (cs (z2.block (cs (cr [0, 1, 2] rfl (ckE h fun h24 h => q1 rfl (z0e (zte H) (mv rfl) (mv rfl) (h24).1 (z9 h24)) (q1 rfl (lr (tl96 H) (mv rfl)) (q1 rfl (z1 (mv rfl)) (rn ?_))))))))))
   refine al [0, 3, 5, 9, 10, 11] [] rfl rfl rfl (sq (cs (cr [0, 1, 2, 3, 4] rfl (q1 rfl (z0 (mv rfl)) (q1 rfl (z0 (mv rfl)) (q1 rfl (z28 (il96 H) (mv rfl)) (q1 rfl (z0u (mv rfl) (mv rfl)) (q1 rfl (z1 (mv rfl)) (rn (al [0, 3, 9, 10, 11] [] rfl rfl rfl (sq ?_)))))))))))
   refine cs (cr [0, 1] rfl (q1 rfl (z0 (mv rfl)) (q1 rfl (z1l (mv rfl) ct) (rn (al [0, 3, 9, 10, 11, 20] [] rfl rfl rfl (sq ?_))))))
   refine cI h rfl (fun c25 h => ?_) (fun c25 h => ?_)
   ·
    cases h
   ·
    refine z2.skip (AtX.in_normal (al [0, 3, 9, 10, 11] [] rfl rfl rfl (sq (cr [0, 1] rfl (q1 rfl (z0u (mv rfl) ct) (q1 rfl (z0 (mv rfl)) (rn ?_)))))))
    exact AtX.to (ih22 ((W (v20 + ((gt v1 v21).length : Int))), (W (v21 + 1))) h) [] (sl rfl) trivial rfl
  ·
   refine z2.exit (AtX.then_exit (AtX.then_exit (AtX.in_hit ?_)))
   exact AtX.to (hJ3 v20 h) [] (sl rfl) trivial rfl
theorem z5n {P : Program} (H : P = Try.prog) (φ : Nat) (v1 : (List Ref)) (v3 : Int) (v4 : Int) (y5 : (Ref → Ref → Option Int)) (sv2 : Value) (r : (List Ref)) (h : z3e φ v1 v3 v4 y5 = some r) : MutT P 80 [(eqv sv2), (iv .i64 v3), (iv .i64 v4), (fcmp P (fun x => (agg (eRef x))) y5)] 43 eRef 2 v1 sv2 (fun x l' => x = eqv (.tuple #[]) ∧ r = l') := by
 unfold z3e at h
 refine MutT.of_code 53 (fn80 H) rfl rfl (Nat.le_of_ble_eq_true rfl) fun w0 base r0 wI => ?_
 refine cl [0, 1, 2, 3] [0] rfl rfl rfl (cs (cr [0, 1, 2] rfl (q1 rfl (z0 (mv rfl)) (q1 rfl (z0u (mv rfl) ct) (q1 rfl (z1 (mv rfl)) (rn (al [0, 1, 2, 3, 8] [0] rfl rfl rfl (sq (z2.block ?_)))))))))
 refine z2.to (z2.loop (fun n (z : Int × (List Ref)) => zz φ v3 v4 y5 n z.1 z.2) r (fun z => ⟨zh.of [(0, (eqv sv2)), (1, (iv .i64 v3)), (2, (iv .i64 v4)), (3, (fcmp P (fun x => (agg (eRef x))) y5)), (8, (iv .i64 z.1))], [(row 43 eRef 2 z.2 sv2)]⟩) (fun z => rfl) (fun n8 z ih8 h => ?_) φ ((W (v3 + 1)), v1) h) [0] (sl rfl) (ol rfl) rfl
 obtain ⟨v6, v7⟩ := z
 replace h : zz φ v3 v4 y5 (n8 + 1) v6 v7 = some r := h
 rw [zz] at h
 refine cs (cs (cr [0, 1, 2] rfl (q1 rfl (z0 (mv rfl)) (q1 rfl (z0 (mv rfl)) (q1 rfl (z1l (mv rfl) (mv rfl)) (rn (al [0, 1, 2, 3, 8, 14] [0] rfl rfl rfl (sq ?_))))))))
 refine cI h rfl (fun c9 h => ?_) (fun c9 h => ?_)
 ·
  refine z2.skip (al [0, 1, 2, 3, 8] [0] rfl rfl rfl (sq (cs ?_)))
  refine z2.join (fun z : (List Ref) => (z19 φ v6 (zz φ v3 v4 y5 n8)) z) r (fun z => ⟨zh.of [(0, (eqv sv2)), (1, (iv .i64 v3)), (2, (iv .i64 v4)), (3, (fcmp P (fun x => (agg (eRef x))) y5)), (8, (iv .i64 v6))], [(row 43 eRef 2 z sv2)]⟩) (fun v10 h => ?_) (fun hJ11 => ?_)
  ·
   replace h : (z19 φ v6 (zz φ v3 v4 y5 n8)) v10 = some r := h
   unfold z19 at h
   refine al [0, 1, 2, 3, 8] [0] rfl rfl rfl (sq (cr [0, 1, 2] rfl (q1 rfl (z0 (mv rfl)) (q1 rfl (z0u (mv rfl) ct) (q1 rfl (z1 (mv rfl)) (rn ?_))))))
   exact AtX.to (ih8 ((W (v6 + 1)), v10) h) [0] (sl rfl) (ol rfl) rfl
  ·
   refine z2.block (cs (cr [0, 1] rfl (q1 rfl (z0 (mv rfl)) (q1 rfl (z1 (mv rfl)) (rn (al [0, 1, 2, 3, 8, 9] [0] rfl rfl rfl (sq (z2.block ?_))))))))
   refine z2.to (z2.loop (fun n (z : Int × (List Ref)) => z1u φ v3 y5 (z19 φ v6 (zz φ v3 v4 y5 n8)) n z.1 z.2) r (fun z => ⟨zh.of [(0, (eqv sv2)), (1, (iv .i64 v3)), (2, (iv .i64 v4)), (3, (fcmp P (fun x => (agg (eRef x))) y5)), (8, (iv .i64 v6)), (9, (iv .i64 z.1))], [(row 43 eRef 2 z.2 sv2)]⟩) (fun z => rfl) (fun n14 z ih14 h => ?_) φ (v6, v7) h) [0] (sl rfl) (ol rfl) rfl
   obtain ⟨v12, v13⟩ := z
   replace h : z1u φ v3 y5 (z19 φ v6 (zz φ v3 v4 y5 n8)) (n14 + 1) v12 v13 = some r := h
   rw [z1u] at h
   refine cs (cs (ckE h fun h19 h => ckE h fun h25 h => z0c h fun y28 ey28 h => z2.draw (QR := [(0, _), (1, _), (2, _), (3, _), (4, _), (5, _), (6, _), (7, _), (8, _), (9, _), (10, _), (11, _), (12, _), (13, _), (14, _), (15, _), (16, _)]) (tab := [(some 18, []), (some 19, []), (some 20, [0, 1]), (some 21, [2]), (some 22, [3]), (some 23, [3]), (some 24, [3]), (some 25, [5, 6, 3]), (some 26, [7, 3]), (some 27, [3]), (some 28, [3]), (some 29, [10, 3]), (some 30, [9, 11, 3]), (some 31, [12, 3]), (some 32, [4, 8, 13, 3, 3]), (some 33, [14, 3]), (some 34, [3, 15])]) (z5e H) (Reg.intro [] [] (by kernel_rfl) rfl (an rfl) ⟨(qr rfl (z0 (mv rfl))), (qr rfl (z0 (mv rfl))), (qr rfl (z5a (mv rfl) (mv rfl))), (qr rfl (z0 (mv rfl))), (qr rfl ⟨(decide (v3 < v12) = true), (fcmp P (fun x => (agg (eRef x))) y5), 21, rfl, rfl, fun g15 => (z0 (mv rfl)), .inl ⟨(decide (v3 < v12)), rfl, rfl⟩⟩), (qr rfl ⟨(decide (v3 < v12) = true), (eqv sv2), 21, rfl, rfl, fun g16 => (z0 (mv rfl)), .inl ⟨(decide (v3 < v12)), rfl, rfl⟩⟩), (qr rfl ⟨(decide (v3 < v12) = true), (iv .i64 v12), 21, rfl, rfl, fun g17 => (z0 (mv rfl)), .inl ⟨(decide (v3 < v12)), rfl, rfl⟩⟩), (qr rfl ⟨(decide (v3 < v12) = true), (rowp sv2 ((v12 : Int).toNat * 2)), 21, rfl, rfl, fun g18 => (zi 0 (ix55 H) (mc rfl g18) rfl (mc rfl g18) ((h19 g18)).1 ((h19 g18)).2), .inl ⟨(decide (v3 < v12)), rfl, rfl⟩⟩), (qr rfl ⟨(decide (v3 < v12) = true), (agg (eRef (gt v13 v12))), 21, rfl, rfl, fun g20 => (ln (tl43 H) ((Pt.row _ 0 (k := (v12 : Int).toNat) (fo := 0) lRef (mc rfl g20) rfl (by omega) (z9 (h19 g20)) rfl).take 2 (cs' := (eRef (gt v13 v12))) rfl) rfl), .inl ⟨(decide (v3 < v12)), rfl, rfl⟩⟩), (qr rfl ⟨(decide (v3 < v12) = true), (eqv sv2), 21, rfl, rfl, fun g21 => (z0 (mv rfl)), .inl ⟨(decide (v3 < v12)), rfl, rfl⟩⟩), (qr rfl ⟨(decide (v3 < v12) = true), (iv .i64 v12), 21, rfl, rfl, fun g22 => (z0 (mv rfl)), .inl ⟨(decide (v3 < v12)), rfl, rfl⟩⟩), (qr rfl ⟨(decide (v3 < v12) = true), (iv .i64 (W (v12 - 1))), 21, rfl, rfl, fun g23 => (z25 (mc rfl g23) ct), .inl ⟨(decide (v3 < v12)), rfl, rfl⟩⟩), (qr rfl ⟨(decide (v3 < v12) = true), (rowp sv2 (((W (v12 - 1)) : Int).toNat * 2)), 21, rfl, rfl, fun g24 => (zi 0 (ix55 H) (mc rfl g24) rfl (mc rfl g24) ((h25 g24)).1 ((h25 g24)).2), .inl ⟨(decide (v3 < v12)), rfl, rfl⟩⟩), (qr rfl ⟨(decide (v3 < v12) = true), (agg (eRef (gt v13 (W (v12 - 1))))), 21, rfl, rfl, fun g26 => (ln (tl43 H) ((Pt.row _ 0 (k := ((W (v12 - 1)) : Int).toNat) (fo := 0) lRef (mc rfl g26) rfl (by omega) (z9 (h25 g26)) rfl).take 2 (cs' := (eRef (gt v13 (W (v12 - 1))))) rfl) rfl), .inl ⟨(decide (v3 < v12)), rfl, rfl⟩⟩), (qr rfl ⟨(decide (v3 < v12) = true), (iv .i64 y28), 21, rfl, rfl, fun g27 => (z8x (mc rfl g27) (mc rfl g27) (mc rfl g27) (z27 ey28 g27)), .inl ⟨(decide (v3 < v12)), rfl, rfl⟩⟩), (qr rfl ⟨(decide (v3 < v12) = true), (bv (decide (y28 < 0))), 21, rfl, rfl, fun g29 => (z1l (mc rfl g29) ct), .inl ⟨(decide (v3 < v12)), rfl, rfl⟩⟩), (qr rfl (z4c (mv rfl) (fun g30 => (mc rfl g30)) ct)), trivial⟩ trivial (fun _ => ?_))))
   refine al [0, 1, 2, 3, 8, 9, 34] [0] rfl rfl rfl (sq ?_)
   refine cI h rfl (fun c31 h => ?_) (fun c31 h => ?_)
   ·
    refine z2.skip (al [0, 1, 2, 3, 8, 9] [0] rfl rfl rfl (sq (cs (z2.block (ckE h fun h32 h => ckE h fun h33 h => ckE h fun h35 h => z2.draw (QR := [(0, (eqv sv2)), (1, (iv .i64 v12)), (2, (eqv sv2)), (3, (iv .i64 v12)), (4, (iv .i64 (W (v12 - 1)))), (5, (eqv sv2)), (6, (iv .i64 v12)), (7, (iv .i64 (W (v12 - 1)))), (8, (rowp sv2 (((W (v12 - 1)) : Int).toNat * 2))), (9, (agg (eRef (gt v13 (W (v12 - 1)))))), (10, (eqv sv2)), (11, (iv .i64 v12)), (12, (rowp sv2 ((v12 : Int).toNat * 2))), (13, (agg (eRef (gt v13 v12)))), (14, (rowp sv2 ((v12 : Int).toNat * 2)))]) (tab := [(some 37, []), (some 38, []), (some 39, []), (some 40, []), (some 41, [3]), (some 42, []), (some 43, []), (some 44, [6]), (some 45, [5, 7]), (some 46, [8]), (some 47, []), (some 48, []), (some 49, [10, 11]), (some 50, [12]), (some 51, [0, 1, 0, 1, 5, 6, 7, 8, 9, 13]), (none, [14, 9, 0, 1, 5, 6, 7, 8, 9, 13]), (some 52, [2, 4, 0, 1, 2, 3, 4, 5, 6, 7, 8, 9, 10, 11, 12, 13, 14, 15]), (none, [16, 13, 15, 0, 1, 2, 3, 4, 5, 6, 7, 8, 9, 10, 11, 12, 13, 14, 15])]) (z5e H) (Reg.intro [15] [] (by kernel_rfl) rfl (an rfl) ⟨(qr rfl (z0 (mv rfl))), (qr rfl (z0 (mv rfl))), (qr rfl (z0 (mv rfl))), (qr rfl (z0 (mv rfl))), (qr rfl (z25 (mv rfl) ct)), (qr rfl (z0 (mv rfl))), (qr rfl (z0 (mv rfl))), (qr rfl (z25 (mv rfl) ct)), (qr rfl (zi 0 (ix55 H) (mv rfl) rfl (mv rfl) (h32).1 (h32).2)), (qr rfl (ln (tl43 H) ((Pt.row _ 0 (k := ((W (v12 - 1)) : Int).toNat) (fo := 0) lRef (mv rfl) rfl (by omega) (z9 h32) rfl).take 2 (cs' := (eRef (gt v13 (W (v12 - 1))))) rfl) rfl)), (qr rfl (z0 (mv rfl))), (qr rfl (z0 (mv rfl))), (qr rfl (zi 0 (ix55 H) (mv rfl) rfl (mv rfl) (h33).1 (h33).2)), (qr rfl (ln (tl43 H) ((Pt.row _ 0 (k := (v12 : Int).toNat) (fo := 0) lRef (mv rfl) rfl (by omega) (z9 h33) rfl).take 2 (cs' := (eRef (gt v13 v12))) rfl) rfl)), (qr rfl (zi 0 (ix55 H) (mv rfl) rfl (mv rfl) (h33).1 (h33).2)), trivial⟩ ⟨⟨_, rfl, rfl, rfl, rfl, z47 0 (k := (v12 : Int).toNat) (fo := 0) (z' := (gt v13 (W (v12 - 1)))) (cs := (eRef (gt v13 (W (v12 - 1))))) lRef (tl43 H) (mv rfl) (Ce.agg (mv rfl)) rfl rfl (by omega) (z9 h33) (Nat.le_of_ble_eq_true rfl) rfl ⟨[(16, (rowp sv2 (((W (v12 - 1)) : Int).toNat * 2)))], rfl, ?_⟩⟩, trivial⟩ ft))))))
    refine Reg.intro [17] [0, 1, 5, 6, 7, 8, 9, 10, 11, 12, 13, 14] (by kernel_rfl) rfl (an rfl) ⟨nf, nf, (qr rfl (z0 (mv rfl))), (qr rfl (z0 (mv rfl))), (qr rfl (z25 (mv rfl) ct)), nf, nf, nf, nf, nf, nf, nf, nf, nf, nf, (qr rfl (zi 0 (ix55 H) (mv rfl) rfl (mv rfl) (h35).1 (h35).2)), trivial⟩ ⟨⟨_, rfl, rfl, rfl, rfl, z47 0 (k := ((W (v12 - 1)) : Int).toNat) (fo := 0) (z' := (gt v13 v12)) (cs := (eRef (gt v13 v12))) lRef (tl43 H) (mv rfl) (Ce.agg (mv rfl)) rfl rfl (by omega) (z9 h35) (Nat.le_of_ble_eq_true rfl) rfl ⟨[], rfl, ?_⟩⟩, trivial⟩ ft
    refine Reg.intro [] [0, 1, 2, 3, 4, 5, 6, 7, 8, 9, 10, 11, 12, 13, 14, 16] (by kernel_rfl) rfl (an rfl) ⟨nf, nf, nf, nf, nf, nf, nf, nf, nf, nf, nf, nf, nf, nf, nf, nf, trivial⟩ trivial (fun _ => AtX.in_normal (al [0, 1, 2, 3, 8, 9] [0] rfl rfl rfl (sq (cr [0, 1, 2] rfl (q1 rfl (z0 (mv rfl)) (q1 rfl (z25 (mv rfl) ct) (q1 rfl (z1 (mv rfl)) (rn ?_))))))))
    exact AtX.to (ih14 ((W (v12 - 1)), (z2x (z2x v13 v12 (gt v13 (W (v12 - 1)))) (W (v12 - 1)) (gt v13 v12))) h) [0] (sl rfl) (ol rfl) rfl
   ·
    refine z2.exit (AtX.then_exit (AtX.then_exit (AtX.in_hit (AtX.in_normal ?_))))
    exact AtX.to (hJ11 v13 h) [0] (sl rfl) (ol rfl) rfl
 ·
  refine z2.exit (AtX.then_exit (AtX.then_exit (AtX.in_hit (AtX.fall' (eqv (.tuple #[])) (z0k.zero Try.results80) [0] [(row 43 eRef 2 v7 sv2)] (ol rfl) rfl ?_))))
  obtain rfl := Option.some.inj h
  exact ⟨_, rfl, rfl, rfl⟩
theorem z4v {P : Program} (H : P = Try.prog) (φ : Nat) (v1 : (List Ref)) (v3 : Int) (v4 : Int) (v5 : Int) (y6 : (Ref → Ref → Option Int)) (sv2 : Value) (r : (List Ref)) (h : z3c φ v1 v3 v4 v5 y6 = some r) : MutT P 103 [(eqv sv2), (iv .i64 v3), (iv .i64 v4), (iv .i64 v5), (fcmp P (fun x => (agg (eRef x))) y6)] 43 eRef 2 v1 sv2 (fun x l' => x = eqv (.tuple #[]) ∧ r = l') := by
 unfold z3c at h
 refine MutT.of_code 38 (zub H) rfl rfl (Nat.le_of_ble_eq_true rfl) fun w0 base r0 wI => ?_
 refine cl [0, 1, 2, 3] [0] rfl rfl rfl (cs (cr [0] rfl (q1 rfl (z1 ct) (rn (al [0, 1, 2, 3, 10] [0] rfl rfl rfl (sq (z2.block ?_)))))))
 refine z2.to (z2.loop (fun n (z : Int × (List Ref)) => z2o φ v3 v4 v5 n z.1 z.2) r (fun z => ⟨zh.of [(0, (eqv sv2)), (1, (iv .i64 v3)), (2, (iv .i64 v4)), (3, (iv .i64 v5)), (10, (iv .i64 z.1))], [(row 43 eRef 2 z.2 sv2)]⟩) (fun z => rfl) (fun n9 z ih9 h => ?_) φ (0, v1) h) [0] (sl rfl) (ol rfl) rfl
 obtain ⟨v7, v8⟩ := z
 replace h : z2o φ v3 v4 v5 (n9 + 1) v7 v8 = some r := h
 rw [z2o] at h
 refine cs (cs (cr [0, 1, 2] rfl (q1 rfl (z0 (mv rfl)) (q1 rfl (z0 (mv rfl)) (q1 rfl (z1l (mv rfl) (mv rfl)) (rn (al [0, 1, 2, 3, 10, 13] [0] rfl rfl rfl (sq ?_))))))))
 refine cI h rfl (fun c10 h => ?_) (fun c10 h => ?_)
 ·
  refine z2.skip (al [0, 1, 2, 3, 10] [0] rfl rfl rfl (sq (cs (z2.block (ckE h fun h11 h => ckE h fun h12 h => ckE h fun h14 h => z2.draw (QR := [(0, _), (1, _), (2, _), (3, _), (4, _), (5, _), (6, _), (7, _), (8, _), (9, _), (10, _), (11, _), (12, _), (13, _), (14, _), (15, _), (16, _), (17, _), (18, _), (19, _), (20, _)]) (tab := [(some 16, []), (some 17, []), (some 18, []), (some 19, [1, 2]), (some 20, []), (some 21, []), (some 22, []), (some 23, [5, 6]), (some 24, []), (some 25, []), (some 26, []), (some 27, [9, 10]), (some 28, [8, 11]), (some 29, [12]), (some 30, []), (some 31, []), (some 32, []), (some 33, [15, 16]), (some 34, [14, 17]), (some 35, [18]), (some 36, [0, 3, 0, 1, 2, 3, 8, 9, 10, 11, 12, 13, 19]), (none, [20, 13, 0, 1, 2, 3, 8, 9, 10, 11, 12, 13, 19]), (some 37, [4, 7, 0, 1, 2, 3, 4, 5, 6, 7, 8, 9, 10, 11, 12, 13, 14, 15, 16, 17, 18, 19, 20, 21]), (none, [22, 19, 21, 0, 1, 2, 3, 4, 5, 6, 7, 8, 9, 10, 11, 12, 13, 14, 15, 16, 17, 18, 19, 20, 21])]) (z5e H) (Reg.intro [21] [] (by kernel_rfl) rfl (an rfl) ⟨(qr rfl (z0 (Ev.tmp (A := (eqv sv2)) (by kernel_rfl)))), (qr rfl (z0 (Ev.tmp (A := (iv .i64 v3)) (by kernel_rfl)))), (qr rfl (z0 (Ev.tmp (A := (iv .i64 v7)) (by kernel_rfl)))), (qr rfl (z0u (Ev.tmp (A := (iv .i64 v3)) (by kernel_rfl)) (Ev.tmp (A := (iv .i64 v7)) (by kernel_rfl)))), (qr rfl (z0 (Ev.tmp (A := (eqv sv2)) (by kernel_rfl)))), (qr rfl (z0 (Ev.tmp (A := (iv .i64 v4)) (by kernel_rfl)))), (qr rfl (z0 (Ev.tmp (A := (iv .i64 v7)) (by kernel_rfl)))), (qr rfl (z0u (Ev.tmp (A := (iv .i64 v4)) (by kernel_rfl)) (Ev.tmp (A := (iv .i64 v7)) (by kernel_rfl)))), (qr rfl (z0 (Ev.tmp (A := (eqv sv2)) (by kernel_rfl)))), (qr rfl (z0 (Ev.tmp (A := (iv .i64 v4)) (by kernel_rfl)))), (qr rfl (z0 (Ev.tmp (A := (iv .i64 v7)) (by kernel_rfl)))), (qr rfl (z0u (Ev.tmp (A := (iv .i64 v4)) (by kernel_rfl)) (Ev.tmp (A := (iv .i64 v7)) (by kernel_rfl)))), (qr rfl (zi 0 (ix55 H) (Ev.tmp (A := (eqv sv2)) (by kernel_rfl)) rfl (Ev.tmp (A := (iv .i64 (W (v4 + v7)))) (by kernel_rfl)) (h11).1 (h11).2)), (qr rfl (ln (tl43 H) ((Pt.row _ 0 (k := ((W (v4 + v7)) : Int).toNat) (fo := 0) lRef (Ev.tmp (A := (rowp sv2 (((W (v4 + v7)) : Int).toNat * 2))) (by kernel_rfl)) rfl (by omega) (z9 h11) rfl).take 2 (cs' := (eRef (gt v8 (W (v4 + v7))))) rfl) rfl)), (qr rfl (z0 (Ev.tmp (A := (eqv sv2)) (by kernel_rfl)))), (qr rfl (z0 (Ev.tmp (A := (iv .i64 v3)) (by kernel_rfl)))), (qr rfl (z0 (Ev.tmp (A := (iv .i64 v7)) (by kernel_rfl)))), (qr rfl (z0u (Ev.tmp (A := (iv .i64 v3)) (by kernel_rfl)) (Ev.tmp (A := (iv .i64 v7)) (by kernel_rfl)))), (qr rfl (zi 0 (ix55 H) (Ev.tmp (A := (eqv sv2)) (by kernel_rfl)) rfl (Ev.tmp (A := (iv .i64 (W (v3 + v7)))) (by kernel_rfl)) (h12).1 (h12).2)), (qr rfl (ln (tl43 H) ((Pt.row _ 0 (k := ((W (v3 + v7)) : Int).toNat) (fo := 0) lRef (Ev.tmp (A := (rowp sv2 (((W (v3 + v7)) : Int).toNat * 2))) (by kernel_rfl)) rfl (by omega) (z9 h12) rfl).take 2 (cs' := (eRef (gt v8 (W (v3 + v7))))) rfl) rfl)), (qr rfl (zi 0 (ix55 H) (Ev.tmp (A := (eqv sv2)) (by kernel_rfl)) rfl (Ev.tmp (A := (iv .i64 (W (v3 + v7)))) (by kernel_rfl)) (h12).1 (h12).2)), trivial⟩ ⟨⟨_, rfl, rfl, rfl, rfl, z47 0 (k := ((W (v3 + v7)) : Int).toNat) (fo := 0) (z' := (gt v8 (W (v4 + v7)))) (cs := (eRef (gt v8 (W (v4 + v7))))) lRef (tl43 H) (Ev.tmp (A := (rowp sv2 (((W (v3 + v7)) : Int).toNat * 2))) (by kernel_rfl)) (Ce.agg (Ev.tmp (A := (agg (eRef (gt v8 (W (v4 + v7)))))) (by kernel_rfl))) rfl rfl (by omega) (z9 h12) (Nat.le_of_ble_eq_true rfl) rfl ⟨[(22, (rowp sv2 (((W (v4 + v7)) : Int).toNat * 2)))], rfl, ?_⟩⟩, trivial⟩ ft))))))
  refine Reg.intro [23] [0, 1, 2, 3, 8, 9, 10, 11, 12, 13, 14, 15, 16, 17, 18, 19, 20] (by kernel_rfl) rfl (an rfl) ⟨nf, nf, nf, nf, (qr rfl (z0 (Ev.tmp (A := (eqv sv2)) (by kernel_rfl)))), (qr rfl (z0 (Ev.tmp (A := (iv .i64 v4)) (by kernel_rfl)))), (qr rfl (z0 (Ev.tmp (A := (iv .i64 v7)) (by kernel_rfl)))), (qr rfl (z0u (Ev.tmp (A := (iv .i64 v4)) (by kernel_rfl)) (Ev.tmp (A := (iv .i64 v7)) (by kernel_rfl)))), nf, nf, nf, nf, nf, nf, nf, nf, nf, nf, nf, nf, nf, (qr rfl (zi 0 (ix55 H) (Ev.tmp (A := (eqv sv2)) (by kernel_rfl)) rfl (Ev.tmp (A := (iv .i64 (W (v4 + v7)))) (by kernel_rfl)) (h14).1 (h14).2)), trivial⟩ ⟨⟨_, rfl, rfl, rfl, rfl, z47 0 (k := ((W (v4 + v7)) : Int).toNat) (fo := 0) (z' := (gt v8 (W (v3 + v7)))) (cs := (eRef (gt v8 (W (v3 + v7))))) lRef (tl43 H) (Ev.tmp (A := (rowp sv2 (((W (v4 + v7)) : Int).toNat * 2))) (by kernel_rfl)) (Ce.agg (Ev.tmp (A := (agg (eRef (gt v8 (W (v3 + v7)))))) (by kernel_rfl))) rfl rfl (by omega) (z9 h14) (Nat.le_of_ble_eq_true rfl) rfl ⟨[], rfl, ?_⟩⟩, trivial⟩ ft
  refine Reg.intro [] [0, 1, 2, 3, 4, 5, 6, 7, 8, 9, 10, 11, 12, 13, 14, 15, 16, 17, 18, 19, 20, 22] (by kernel_rfl) rfl (an rfl) ⟨nf, nf, nf, nf, nf, nf, nf, nf, nf, nf, nf, nf, nf, nf, nf, nf, nf, nf, nf, nf, nf, nf, trivial⟩ trivial (fun _ => AtX.in_normal (al [0, 1, 2, 3, 10] [0] rfl rfl rfl (sq (cr [0, 1, 2] rfl (q1 rfl (z0 (mv rfl)) (q1 rfl (z0u (mv rfl) ct) (q1 rfl (z1 (mv rfl)) (rn ?_))))))))
  exact AtX.to (ih9 ((W (v7 + 1)), (z2x (z2x v8 (W (v3 + v7)) (gt v8 (W (v4 + v7)))) (W (v4 + v7)) (gt v8 (W (v3 + v7))))) h) [0] (sl rfl) (ol rfl) rfl
 ·
  refine z2.exit (AtX.then_exit (AtX.then_exit (AtX.in_hit (AtX.fall' (eqv (.tuple #[])) (z0k.zero Try.results103) [0] [(row 43 eRef 2 v8 sv2)] (ol rfl) rfl ?_))))
  obtain rfl := Option.some.inj h
  exact ⟨_, rfl, rfl, rfl⟩
theorem z93 {P : Program} (H : P = Try.prog) (φ : Nat) (v1 : (List Ref)) (v3 : Int) (v4 : Int) (v5 : Int) (y6 : (Ref → Ref → Option Int)) (sv2 : Value) (r : (List Ref)) (h : z6d φ v1 v3 v4 v5 y6 = some r) : MutT P 97 [(eqv sv2), (iv .i64 v3), (iv .i64 v4), (iv .i64 v5), (fcmp P (fun x => (agg (eRef x))) y6)] 43 eRef 2 v1 sv2 (fun x l' => x = eqv (.tuple #[]) ∧ r = l') := by
 unfold z6d at h
 refine MutT.of_code 58 (fn97 H) rfl rfl (Nat.le_of_ble_eq_true rfl) fun w0 base r0 wI => ?_
 refine cl [0, 1, 2, 3, 4] [0] rfl rfl rfl (cs (cr [0, 1, 2, 3] rfl (q1 rfl (z0 (mv rfl)) (q1 rfl (z0 (mv rfl)) (q1 rfl (z25 (mv rfl) (mv rfl)) (q1 rfl (z1 (mv rfl)) (rn (al [0, 2, 3, 4, 10] [0] rfl rfl rfl (sq (cs (cr [0, 1, 2, 3] rfl ?_)))))))))))
 refine q1 rfl (z0 (mv rfl)) (q1 rfl (z0 (mv rfl)) (q1 rfl (z25 (mv rfl) (mv rfl)) (q1 rfl (z1 (mv rfl)) (rn (al [0, 2, 4, 10, 11] [0] rfl rfl rfl (sq (cs ?_)))))))
 refine z2.join (fun z : Int × (List Ref) => (z2f φ v4 y6) z.1 z.2) r (fun z => ⟨zh.of [(0, (eqv sv2)), (2, (iv .i64 v4)), (4, (fcmp P (fun x => (agg (eRef x))) y6)), (10, (iv .i64 z.1))], [(row 43 eRef 2 z.2 sv2)]⟩) (fun z h => ?_) (fun hJ9 => ?_)
 ·
  obtain ⟨v7, v8⟩ := z
  replace h : (z2f φ v4 y6) v7 v8 = some r := h
  unfold z2f at h
  refine al [0, 2, 4, 10] [0] rfl rfl rfl (sq (cr [0, 1, 2, 3, 4, 5, 6, 7] rfl (q1 rfl (z0 (mv rfl)) (q1 rfl (z0 (mv rfl)) (q1 rfl (z0 (mv rfl)) (q1 rfl (z25 (mv rfl) (mv rfl)) (q1 rfl (z0 (mv rfl)) (q1 rfl (z0 (mv rfl)) (q1 rfl (z0 (mv rfl)) (z0c h fun y10 ey10 h => n1 rfl (z3d 0 rfl (fun x => (fRef x).mem) (ziy H) (args := [(eqv sv2), (iv .i64 (W (v4 - v7))), (iv .i64 v4), (iv .i64 v7), (fcmp P (fun x => (agg (eRef x))) y6)]) ⟨(mv rfl), (mv rfl), (mv rfl), (mv rfl), (mv rfl), trivial⟩ (z4v H φ v8 (W (v4 - v7)) v4 v7 y6 sv2 _ ey10) fun x11 nw12 hk13 => ?_)))))))))))
  obtain ⟨rfl, rfl⟩ := hk13
  refine ⟨z7, ?_⟩
  refine rn (AtX.fall' (eqv (.tuple #[])) (z0k.zero Try.results97) [0] [(row 43 eRef 2 y10 sv2)] (ol rfl) rfl ?_)
  obtain rfl := Option.some.inj h
  exact ⟨_, rfl, rfl, rfl⟩
 ·
  refine z2.block ?_
  refine z2.to (z2.loop (fun n (z : Int × Int × (List Ref)) => z2c φ v4 y6 (z2f φ v4 y6) n z.1 z.2.1 z.2.2) r (fun z => ⟨zh.of [(0, (eqv sv2)), (2, (iv .i64 v4)), (4, (fcmp P (fun x => (agg (eRef x))) y6)), (10, (iv .i64 z.1)), (11, (iv .i64 z.2.1))], [(row 43 eRef 2 z.2.2 sv2)]⟩) (fun z => rfl) (fun n17 z ih17 h => ?_) φ ((W (v4 - v3)), (W (v5 - v4)), v1) h) [0] (sl rfl) (ol rfl) rfl
  obtain ⟨v14, v15, v16⟩ := z
  replace h : z2c φ v4 y6 (z2f φ v4 y6) (n17 + 1) v14 v15 v16 = some r := h
  rw [z2c] at h
  refine cs (cs (cr [0, 1, 2] rfl (q1 rfl (z0 (mv rfl)) (q1 rfl (z0 (mv rfl)) (q1 rfl (z7p (mv rfl) (mv rfl)) (rn (al [0, 2, 4, 10, 11, 20] [0] rfl rfl rfl (sq ?_))))))))
  refine cI h rfl (fun c18 h => ?_) (fun c18 h => ?_)
  ·
   refine z2.skip (al [0, 2, 4, 10, 11] [0] rfl rfl rfl (sq (z2.block (cs (cr [0, 1, 2] rfl (q1 rfl (z0 (mv rfl)) (q1 rfl (z0 (mv rfl)) (q1 rfl (z5a (mv rfl) (mv rfl)) (rn (al [0, 2, 4, 10, 11, 23] [0] rfl rfl rfl (sq ?_)))))))))))
   refine cI h rfl (fun c19 h => ?_) (fun c19 h => ?_)
   ·
    refine cs (cr [0, 1, 2, 3, 4, 5, 6, 7] rfl (q1 rfl (z0 (mv rfl)) (q1 rfl (z0 (mv rfl)) (q1 rfl (z0 (mv rfl)) (q1 rfl (z25 (mv rfl) (mv rfl)) (q1 rfl (z0 (mv rfl)) (q1 rfl (z0 (mv rfl)) (q1 rfl (z0 (mv rfl)) (z0c h fun y20 ey20 h => n1 rfl (z3d 0 rfl (fun x => (fRef x).mem) (ziy H) (args := [(eqv sv2), (iv .i64 (W (v4 - v14))), (iv .i64 v4), (iv .i64 v15), (fcmp P (fun x => (agg (eRef x))) y6)]) ⟨(mv rfl), (mv rfl), (mv rfl), (mv rfl), (mv rfl), trivial⟩ (z4v H φ v16 (W (v4 - v14)) v4 v15 y6 sv2 _ ey20) fun x21 nw22 hk23 => ?_))))))))))
    obtain ⟨rfl, rfl⟩ := hk23
    refine ⟨z7, ?_⟩
    refine rn (al [0, 2, 4, 10, 11] [0] rfl rfl rfl (sq (cr [0, 1, 2, 3] rfl (q1 rfl (z0 (mv rfl)) (q1 rfl (z0 (mv rfl)) (q1 rfl (z25 (mv rfl) (mv rfl)) (q1 rfl (z1 (mv rfl)) (rn (AtX.in_normal ?_)))))))))
    exact AtX.to (ih17 ((W (v14 - v15)), v15, y20) h) [0] (sl rfl) (ol rfl) rfl
   ·
    refine cs (cr [0, 1, 2, 3, 4, 5, 6, 7, 8, 9, 10, 11] rfl (q1 rfl (z0 (mv rfl)) (q1 rfl (z0 (mv rfl)) (q1 rfl (z0 (mv rfl)) (q1 rfl (z25 (mv rfl) (mv rfl)) (q1 rfl (z0 (mv rfl)) (q1 rfl (z0 (mv rfl)) (q1 rfl (z0u (mv rfl) (mv rfl)) (q1 rfl (z0 (mv rfl)) (q1 rfl (z25 (mv rfl) (mv rfl)) (q1 rfl (z0 (mv rfl)) ?_)))))))))))
    refine q1 rfl (z0 (mv rfl)) (z0c h fun y24 ey24 h => n1 rfl (z3d 0 rfl (fun x => (fRef x).mem) (ziy H) (args := [(eqv sv2), (iv .i64 (W (v4 - v14))), (iv .i64 (W ((W (v4 + v15)) - v14))), (iv .i64 v14), (fcmp P (fun x => (agg (eRef x))) y6)]) ⟨(mv rfl), (mv rfl), (mv rfl), (mv rfl), (mv rfl), trivial⟩ (z4v H φ v16 (W (v4 - v14)) (W ((W (v4 + v15)) - v14)) v14 y6 sv2 _ ey24) fun x25 nw26 hk27 => ?_))
    obtain ⟨rfl, rfl⟩ := hk27
    refine ⟨z7, ?_⟩
    refine rn (al [0, 2, 4, 10, 11] [0] rfl rfl rfl (sq (cr [0, 1, 2, 3] rfl (q1 rfl (z0 (mv rfl)) (q1 rfl (z0 (mv rfl)) (q1 rfl (z25 (mv rfl) (mv rfl)) (q1 rfl (z1 (mv rfl)) (rn (AtX.in_normal ?_)))))))))
    exact AtX.to (ih17 (v14, (W (v15 - v14)), y24) h) [0] (sl rfl) (ol rfl) rfl
  ·
   refine z2.exit (AtX.then_exit (AtX.then_exit (AtX.in_hit ?_)))
   exact AtX.to (hJ9 (v14, v16) h) [0] (sl rfl) (ol rfl) rfl
end Px
end
section
set_option linter.unusedVariables false
set_option linter.unusedSimpArgs false
set_option maxHeartbeats 4000000
set_option maxRecDepth 100000
namespace Px
open Go Go.RowKit Go.Proofs
end Px
end
section
set_option linter.unusedVariables false
set_option linter.unusedSimpArgs false
set_option maxHeartbeats 4000000
set_option maxRecDepth 100000
namespace Px
open Go Go.RowKit Go.Proofs
theorem z6q {P : Program} (H : P = Try.prog) : ∀ (φ : Nat) (v1 : (List Ref)) (v3 : Int) (v4 : Int) (v5 : Int) (y6 : (Ref → Ref → Option Int)) (sv2 : Value) (r : (List Ref)) (h : zl φ v1 v3 v4 v5 y6 = some r), MutT P 81 [(eqv sv2), (iv .i64 v3), (iv .i64 v4), (iv .i64 v5), (fcmp P (fun x => (agg (eRef x))) y6)] 43 eRef 2 v1 sv2 (fun x l' => x = eqv (.tuple #[]) ∧ r = l') := by
 intro φ
 induction φ with
 | zero => intro v1 v3 v4 v5 y6 sv2 r h; cases h
 | succ φ ih =>
  intro v1 v3 v4 v5 y6 sv2 r h
  rw [zl] at h
  refine MutT.of_code 220 (fn81 H) rfl rfl (Nat.le_of_ble_eq_true rfl) fun w0 base r0 wI => ?_
  refine cl [0, 1, 2, 3, 4] [0] rfl rfl rfl (cs (cs (cr [0, 1, 2, 3] rfl (q1 rfl (z0 (mv rfl)) (q1 rfl (z0 (mv rfl)) (q1 rfl (z25 (mv rfl) (mv rfl)) (q1 rfl (z6h (mv rfl) ct) (rn (al [0, 1, 2, 3, 4, 28] [0] rfl rfl rfl (sq ?_))))))))))
  refine cI h rfl (fun c8 h => ?_) (fun c8 h => ?_)
  ·
   refine cs (cr [0, 1] rfl (q1 rfl (z0 (mv rfl)) (q1 rfl (z1 (mv rfl)) (rn (al [0, 1, 3, 4, 10] [0] rfl rfl rfl (sq (cs (cr [0, 1] rfl (q1 rfl (z0 (mv rfl)) (q1 rfl (z1 (mv rfl)) (rn ?_)))))))))))
   refine al [0, 1, 4, 10, 11] [0] rfl rfl rfl (sq (cs ?_))
   refine z2.join (fun z : Int => (z1w φ v1 v3) z) r (fun z => ⟨zh.of [(0, (eqv sv2)), (1, (iv .i64 v3)), (10, (iv .i64 z))], [(row 43 eRef 2 v1 sv2)]⟩) (fun v9 h => ?_) (fun hJ10 => ?_)
   ·
    replace h : (z1w φ v1 v3) v9 = some r := h
    unfold z1w at h
    refine al [0, 1, 10] [0] rfl rfl rfl (sq (cs (cs (cr [0, 1] rfl (q1 rfl (z0 (mv rfl)) (q1 rfl (z1 (mv rfl)) (rn (al [0, 10, 13] [0] rfl rfl rfl (sq ?_)))))))))
    refine z2.join (fun z : (List Ref) => (z1x φ) z) r (fun z => ⟨zh.of [], [(row 43 eRef 2 z sv2)]⟩) (fun v11 h => ?_) (fun hJ12 => ?_)
    ·
     replace h : (z1x φ) v11 = some r := h
     unfold z1x at h
     refine al [] [0] rfl rfl rfl (sq (z2.ret (AtX.then_ret (AtX.ret' (eqv (.tuple #[])) (z0k.zero Try.results81) [0] [(row 43 eRef 2 v11 sv2)] (ol rfl) rfl ?_))))
     obtain rfl := Option.some.inj h
     exact ⟨_, rfl, rfl, rfl⟩
    ·
     refine z2.block ?_
     refine z2.to (z2.loop (fun n (z : Int × (List Ref)) => z2u φ v9 (z1x φ) n z.1 z.2) r (fun z => ⟨zh.of [(0, (eqv sv2)), (10, (iv .i64 v9)), (13, (iv .i64 z.1))], [(row 43 eRef 2 z.2 sv2)]⟩) (fun z => rfl) (fun n15 z ih15 h => ?_) φ (v3, v1) h) [0] (sl rfl) (ol rfl) rfl
     obtain ⟨v13, v14⟩ := z
     replace h : z2u φ v9 (z1x φ) (n15 + 1) v13 v14 = some r := h
     rw [z2u] at h
     refine cs (cs (cr [0, 1, 2, 3] rfl (q1 rfl (z0 (mv rfl)) (q1 rfl (z0 (mv rfl)) (q1 rfl (z25 (mv rfl) ct) (q1 rfl (z1l (mv rfl) (mv rfl)) (rn (al [0, 10, 13, 58] [0] rfl rfl rfl (sq ?_)))))))))
     refine cI h rfl (fun c16 h => ?_) (fun c16 h => ?_)
     ·
      refine z2.skip (al [0, 10, 13] [0] rfl rfl rfl (sq (cs (z2.block (ckE h fun h17 h => ckE h fun h18 h => ckE h fun h20 h => z2.draw (QR := [(0, (eqv sv2)), (1, (iv .i64 v13)), (2, (eqv sv2)), (3, (iv .i64 v13)), (4, (iv .i64 (W (v13 + 1)))), (5, (eqv sv2)), (6, (iv .i64 v13)), (7, (iv .i64 (W (v13 + 1)))), (8, (rowp sv2 (((W (v13 + 1)) : Int).toNat * 2))), (9, (agg (eRef (gt v14 (W (v13 + 1)))))), (10, (eqv sv2)), (11, (iv .i64 v13)), (12, (rowp sv2 ((v13 : Int).toNat * 2))), (13, (agg (eRef (gt v14 v13)))), (14, (rowp sv2 ((v13 : Int).toNat * 2)))]) (tab := [(some 61, []), (some 62, []), (some 63, []), (some 64, []), (some 65, [3]), (some 66, []), (some 67, []), (some 68, [6]), (some 69, [5, 7]), (some 70, [8]), (some 71, []), (some 72, []), (some 73, [10, 11]), (some 74, [12]), (some 75, [0, 1, 0, 1, 5, 6, 7, 8, 9, 13]), (none, [14, 9, 0, 1, 5, 6, 7, 8, 9, 13]), (some 76, [2, 4, 0, 1, 2, 3, 4, 5, 6, 7, 8, 9, 10, 11, 12, 13, 14, 15]), (none, [16, 13, 15, 0, 1, 2, 3, 4, 5, 6, 7, 8, 9, 10, 11, 12, 13, 14, 15])]) (z5e H) (Reg.intro [15] [] (by kernel_rfl) rfl (an rfl) ⟨(qr rfl (z0 (mv rfl))), (qr rfl (z0 (mv rfl))), (qr rfl (z0 (mv rfl))), (qr rfl (z0 (mv rfl))), (qr rfl (z0u (mv rfl) ct)), (qr rfl (z0 (mv rfl))), (qr rfl (z0 (mv rfl))), (qr rfl (z0u (mv rfl) ct)), (qr rfl (zi 0 (ix55 H) (mv rfl) rfl (mv rfl) (h17).1 (h17).2)), (qr rfl (ln (tl43 H) ((Pt.row _ 0 (k := ((W (v13 + 1)) : Int).toNat) (fo := 0) lRef (mv rfl) rfl (by omega) (z9 h17) rfl).take 2 (cs' := (eRef (gt v14 (W (v13 + 1))))) rfl) rfl)), (qr rfl (z0 (mv rfl))), (qr rfl (z0 (mv rfl))), (qr rfl (zi 0 (ix55 H) (mv rfl) rfl (mv rfl) (h18).1 (h18).2)), (qr rfl (ln (tl43 H) ((Pt.row _ 0 (k := (v13 : Int).toNat) (fo := 0) lRef (mv rfl) rfl (by omega) (z9 h18) rfl).take 2 (cs' := (eRef (gt v14 v13))) rfl) rfl)), (qr rfl (zi 0 (ix55 H) (mv rfl) rfl (mv rfl) (h18).1 (h18).2)), trivial⟩ ⟨⟨_, rfl, rfl, rfl, rfl, z47 0 (k := (v13 : Int).toNat) (fo := 0) (z' := (gt v14 (W (v13 + 1)))) (cs := (eRef (gt v14 (W (v13 + 1))))) lRef (tl43 H) (mv rfl) (Ce.agg (mv rfl)) rfl rfl (by omega) (z9 h18) (Nat.le_of_ble_eq_true rfl) rfl ⟨[(16, (rowp sv2 (((W (v13 + 1)) : Int).toNat * 2)))], rfl, ?_⟩⟩, trivial⟩ ft))))))
      refine Reg.intro [17] [0, 1, 5, 6, 7, 8, 9, 10, 11, 12, 13, 14] (by kernel_rfl) rfl (an rfl) ⟨nf, nf, (qr rfl (z0 (mv rfl))), (qr rfl (z0 (mv rfl))), (qr rfl (z0u (mv rfl) ct)), nf, nf, nf, nf, nf, nf, nf, nf, nf, nf, (qr rfl (zi 0 (ix55 H) (mv rfl) rfl (mv rfl) (h20).1 (h20).2)), trivial⟩ ⟨⟨_, rfl, rfl, rfl, rfl, z47 0 (k := ((W (v13 + 1)) : Int).toNat) (fo := 0) (z' := (gt v14 v13)) (cs := (eRef (gt v14 v13))) lRef (tl43 H) (mv rfl) (Ce.agg (mv rfl)) rfl rfl (by omega) (z9 h20) (Nat.le_of_ble_eq_true rfl) rfl ⟨[], rfl, ?_⟩⟩, trivial⟩ ft
      refine Reg.intro [] [0, 1, 2, 3, 4, 5, 6, 7, 8, 9, 10, 11, 12, 13, 14, 16] (by kernel_rfl) rfl (an rfl) ⟨nf, nf, nf, nf, nf, nf, nf, nf, nf, nf, nf, nf, nf, nf, nf, nf, trivial⟩ trivial (fun _ => AtX.in_normal (al [0, 10, 13] [0] rfl rfl rfl (sq (cr [0, 1, 2] rfl (q1 rfl (z0 (mv rfl)) (q1 rfl (z0u (mv rfl) ct) (q1 rfl (z1 (mv rfl)) (rn ?_))))))))
      exact AtX.to (ih15 ((W (v13 + 1)), (z2x (z2x v14 v13 (gt v14 (W (v13 + 1)))) (W (v13 + 1)) (gt v14 v13))) h) [0] (sl rfl) (ol rfl) rfl
     ·
      refine z2.exit (AtX.then_exit (AtX.then_exit (AtX.in_hit ?_)))
      exact AtX.to (hJ12 v14 h) [0] trivial (ol rfl) rfl
   ·
    refine z2.block ?_
    refine z2.to (z2.loop (fun n (z : Int × Int) => z20 φ v1 v3 y6 (z1w φ v1 v3) n z.1 z.2) r (fun z => ⟨zh.of [(0, (eqv sv2)), (1, (iv .i64 v3)), (4, (fcmp P (fun x => (agg (eRef x))) y6)), (10, (iv .i64 z.1)), (11, (iv .i64 z.2))], [(row 43 eRef 2 v1 sv2)]⟩) (fun z => rfl) (fun n24 z ih24 h => ?_) φ (v4, v5) h) [0] (sl rfl) (ol rfl) rfl
    obtain ⟨v22, v23⟩ := z
    replace h : z20 φ v1 v3 y6 (z1w φ v1 v3) (n24 + 1) v22 v23 = some r := h
    rw [z20] at h
    refine cs (cs (cr [0, 1, 2] rfl (q1 rfl (z0 (mv rfl)) (q1 rfl (z0 (mv rfl)) (q1 rfl (z1l (mv rfl) (mv rfl)) (rn (al [0, 1, 4, 10, 11, 33] [0] rfl rfl rfl (sq ?_))))))))
    refine cI h rfl (fun c25 h => ?_) (fun c25 h => ?_)
    ·
     refine z2.skip (al [0, 1, 4, 10, 11] [0] rfl rfl rfl (sq (z2.block (cs (cr [0, 1, 2, 3, 4, 5, 6] rfl (q1 rfl (z0 (mv rfl)) (q1 rfl (z0 (mv rfl)) (q1 rfl (z0u (mv rfl) (mv rfl)) (q1 rfl (z6o (us3 H) (zdh H) (mv rfl)) (q1 rfl (z7m 2 (by decide) (mv rfl) ct (by decide)) (q1 rfl (z6o (zed H) (un3 H) (mv rfl)) ?_)))))))))))
     refine q1 rfl (z1 (mv rfl)) (rn (al [0, 1, 4, 10, 11, 12] [0] rfl rfl rfl (sq (cs (ckE h fun h26 h => ckE h fun h27 h => z0c h fun y28 ey28 h => z2.draw (QR := [(0, (fcmp P (fun x => (agg (eRef x))) y6)), (1, (eqv sv2)), (2, (iv .i64 (W (((U ((W (v22 + v23)))).fdiv 2))))), (3, (rowp sv2 (((W (((U ((W (v22 + v23)))).fdiv 2))) : Int).toNat * 2))), (4, (agg (eRef (gt v1 (W (((U ((W (v22 + v23)))).fdiv 2))))))), (5, (eqv sv2)), (6, (iv .i64 v3)), (7, (rowp sv2 ((v3 : Int).toNat * 2))), (8, (agg (eRef (gt v1 v3)))), (9, (iv .i64 y28)), (10, (bv (decide (y28 < 0))))]) (tab := [(some 40, []), (some 41, []), (some 42, []), (some 43, [1, 2]), (some 44, [3]), (some 45, []), (some 46, []), (some 47, [5, 6]), (some 48, [7]), (some 49, [0, 4, 8]), (some 50, [9])]) (z5e H) (Reg.intro [] [] (by kernel_rfl) rfl (an rfl) ⟨(qr rfl (z0 (mv rfl))), (qr rfl (z0 (mv rfl))), (qr rfl (z0 (mv rfl))), (qr rfl (zi 0 (ix55 H) (mv rfl) rfl (mv rfl) (h26).1 (h26).2)), (qr rfl (ln (tl43 H) ((Pt.row _ 0 (k := ((W (((U ((W (v22 + v23)))).fdiv 2))) : Int).toNat) (fo := 0) lRef (mv rfl) rfl (by omega) (z9 h26) rfl).take 2 (cs' := (eRef (gt v1 (W (((U ((W (v22 + v23)))).fdiv 2)))))) rfl) rfl)), (qr rfl (z0 (mv rfl))), (qr rfl (z0 (mv rfl))), (qr rfl (zi 0 (ix55 H) (mv rfl) rfl (mv rfl) (h27).1 (h27).2)), (qr rfl (ln (tl43 H) ((Pt.row _ 0 (k := (v3 : Int).toNat) (fo := 0) lRef (mv rfl) rfl (by omega) (z9 h27) rfl).take 2 (cs' := (eRef (gt v1 v3))) rfl) rfl)), (qr rfl (z8x (mv rfl) (mv rfl) (mv rfl) ey28)), (qr rfl (z1l (mv rfl) ct)), trivial⟩ trivial (fun _ => al [0, 1, 4, 10, 11, 12, 50] [0] rfl rfl rfl (sq ?_))))))))
     refine cI h rfl (fun c29 h => ?_) (fun c29 h => ?_)
     ·
      refine cr [0, 1, 2] rfl (q1 rfl (z0 (mv rfl)) (q1 rfl (z0u (mv rfl) ct) (q1 rfl (z1 (mv rfl)) (rn (AtX.in_normal ?_)))))
      exact AtX.to (ih24 ((W ((W (((U ((W (v22 + v23)))).fdiv 2))) + 1)), v23) h) [0] (sl rfl) (ol rfl) rfl
     ·
      refine cr [0, 1] rfl (q1 rfl (z0 (mv rfl)) (q1 rfl (z1 (mv rfl)) (rn (AtX.in_normal ?_))))
      exact AtX.to (ih24 (v22, (W (((U ((W (v22 + v23)))).fdiv 2)))) h) [0] (sl rfl) (ol rfl) rfl
    ·
     refine z2.exit (AtX.then_exit (AtX.then_exit (AtX.in_hit ?_)))
     exact AtX.to (hJ10 v22 h) [0] (sl rfl) (ol rfl) rfl
  ·
   refine z2.skip (al [0, 1, 2, 3, 4] [0] rfl rfl rfl (sq (cs (cs (cr [0, 1, 2, 3] rfl (q1 rfl (z0 (mv rfl)) (q1 rfl (z0 (mv rfl)) (q1 rfl (z25 (mv rfl) (mv rfl)) (q1 rfl (z6h (mv rfl) ct) (rn (al [0, 1, 2, 3, 4, 80] [0] rfl rfl rfl ?_)))))))))))
   refine sq ?_
   refine cI h rfl (fun c30 h => ?_) (fun c30 h => ?_)
   ·
    refine cs (cr [0, 1] rfl (q1 rfl (z0 (mv rfl)) (q1 rfl (z1 (mv rfl)) (rn (al [0, 2, 4, 14] [0] rfl rfl rfl (sq (cs (cr [0, 1] rfl (q1 rfl (z0 (mv rfl)) (q1 rfl (z1 (mv rfl)) (rn ?_)))))))))))
    refine al [0, 2, 4, 14, 15] [0] rfl rfl rfl (sq (cs ?_))
    refine z2.join (fun z : Int => (z22 φ v1 v4) z) r (fun z => ⟨zh.of [(0, (eqv sv2)), (2, (iv .i64 v4)), (14, (iv .i64 z))], [(row 43 eRef 2 v1 sv2)]⟩) (fun v31 h => ?_) (fun hJ32 => ?_)
    ·
     replace h : (z22 φ v1 v4) v31 = some r := h
     unfold z22 at h
     refine al [0, 2, 14] [0] rfl rfl rfl (sq (cs (cs (cr [0, 1] rfl (q1 rfl (z0 (mv rfl)) (q1 rfl (z1 (mv rfl)) (rn (al [0, 14, 17] [0] rfl rfl rfl (sq ?_)))))))))
     refine z2.join (fun z : (List Ref) => (z1v φ) z) r (fun z => ⟨zh.of [], [(row 43 eRef 2 z sv2)]⟩) (fun v33 h => ?_) (fun hJ34 => ?_)
     ·
      replace h : (z1v φ) v33 = some r := h
      unfold z1v at h
      refine al [] [0] rfl rfl rfl (sq (z2.ret (AtX.then_ret (AtX.ret' (eqv (.tuple #[])) (z0k.zero Try.results81) [0] [(row 43 eRef 2 v33 sv2)] (ol rfl) rfl ?_))))
      obtain rfl := Option.some.inj h
      exact ⟨_, rfl, rfl, rfl⟩
     ·
      refine z2.block ?_
      refine z2.to (z2.loop (fun n (z : Int × (List Ref)) => z2t φ v31 (z1v φ) n z.1 z.2) r (fun z => ⟨zh.of [(0, (eqv sv2)), (14, (iv .i64 v31)), (17, (iv .i64 z.1))], [(row 43 eRef 2 z.2 sv2)]⟩) (fun z => rfl) (fun n37 z ih37 h => ?_) φ (v4, v1) h) [0] (sl rfl) (ol rfl) rfl
      obtain ⟨v35, v36⟩ := z
      replace h : z2t φ v31 (z1v φ) (n37 + 1) v35 v36 = some r := h
      rw [z2t] at h
      refine cs (cs (cr [0, 1, 2] rfl (q1 rfl (z0 (mv rfl)) (q1 rfl (z0 (mv rfl)) (q1 rfl (z5a (mv rfl) (mv rfl)) (rn (al [0, 14, 17, 110] [0] rfl rfl rfl (sq ?_))))))))
      refine cI h rfl (fun c38 h => ?_) (fun c38 h => ?_)
      ·
       refine z2.skip (al [0, 14, 17] [0] rfl rfl rfl (sq (cs (z2.block (ckE h fun h39 h => ckE h fun h40 h => ckE h fun h42 h => z2.draw (QR := [(0, (eqv sv2)), (1, (iv .i64 v35)), (2, (eqv sv2)), (3, (iv .i64 v35)), (4, (iv .i64 (W (v35 - 1)))), (5, (eqv sv2)), (6, (iv .i64 v35)), (7, (iv .i64 (W (v35 - 1)))), (8, (rowp sv2 (((W (v35 - 1)) : Int).toNat * 2))), (9, (agg (eRef (gt v36 (W (v35 - 1)))))), (10, (eqv sv2)), (11, (iv .i64 v35)), (12, (rowp sv2 ((v35 : Int).toNat * 2))), (13, (agg (eRef (gt v36 v35)))), (14, (rowp sv2 ((v35 : Int).toNat * 2)))]) (tab := [(some 113, []), (some 114, []), (some 115, []), (some 116, []), (some 117, [3]), (some 118, []), (some 119, []), (some 120, [6]), (some 121, [5, 7]), (some 122, [8]), (some 123, []), (some 124, []), (some 125, [10, 11]), (some 126, [12]), (some 127, [0, 1, 0, 1, 5, 6, 7, 8, 9, 13]), (none, [14, 9, 0, 1, 5, 6, 7, 8, 9, 13]), (some 128, [2, 4, 0, 1, 2, 3, 4, 5, 6, 7, 8, 9, 10, 11, 12, 13, 14, 15]), (none, [16, 13, 15, 0, 1, 2, 3, 4, 5, 6, 7, 8, 9, 10, 11, 12, 13, 14, 15])]) (z5e H) (Reg.intro [15] [] (by kernel_rfl) rfl (an rfl) ⟨(qr rfl (z0 (mv rfl))), (qr rfl (z0 (mv rfl))), (qr rfl (z0 (mv rfl))), (qr rfl (z0 (mv rfl))), (qr rfl (z25 (mv rfl) ct)), (qr rfl (z0 (mv rfl))), (qr rfl (z0 (mv rfl))), (qr rfl (z25 (mv rfl) ct)), (qr rfl (zi 0 (ix55 H) (mv rfl) rfl (mv rfl) (h39).1 (h39).2)), (qr rfl (ln (tl43 H) ((Pt.row _ 0 (k := ((W (v35 - 1)) : Int).toNat) (fo := 0) lRef (mv rfl) rfl (by omega) (z9 h39) rfl).take 2 (cs' := (eRef (gt v36 (W (v35 - 1))))) rfl) rfl)), (qr rfl (z0 (mv rfl))), (qr rfl (z0 (mv rfl))), (qr rfl (zi 0 (ix55 H) (mv rfl) rfl (mv rfl) (h40).1 (h40).2)), (qr rfl (ln (tl43 H) ((Pt.row _ 0 (k := (v35 : Int).toNat) (fo := 0) lRef (mv rfl) rfl (by omega) (z9 h40) rfl).take 2 (cs' := (eRef (gt v36 v35))) rfl) rfl)), (qr rfl (zi 0 (ix55 H) (mv rfl) rfl (mv rfl) (h40).1 (h40).2)), trivial⟩ ⟨⟨_, rfl, rfl, rfl, rfl, z47 0 (k := (v35 : Int).toNat) (fo := 0) (z' := (gt v36 (W (v35 - 1)))) (cs := (eRef (gt v36 (W (v35 - 1))))) lRef (tl43 H) (mv rfl) (Ce.agg (mv rfl)) rfl rfl (by omega) (z9 h40) (Nat.le_of_ble_eq_true rfl) rfl ⟨[(16, (rowp sv2 (((W (v35 - 1)) : Int).toNat * 2)))], rfl, ?_⟩⟩, trivial⟩ ft))))))
       refine Reg.intro [17] [0, 1, 5, 6, 7, 8, 9, 10, 11, 12, 13, 14] (by kernel_rfl) rfl (an rfl) ⟨nf, nf, (qr rfl (z0 (mv rfl))), (qr rfl (z0 (mv rfl))), (qr rfl (z25 (mv rfl) ct)), nf, nf, nf, nf, nf, nf, nf, nf, nf, nf, (qr rfl (zi 0 (ix55 H) (mv rfl) rfl (mv rfl) (h42).1 (h42).2)), trivial⟩ ⟨⟨_, rfl, rfl, rfl, rfl, z47 0 (k := ((W (v35 - 1)) : Int).toNat) (fo := 0) (z' := (gt v36 v35)) (cs := (eRef (gt v36 v35))) lRef (tl43 H) (mv rfl) (Ce.agg (mv rfl)) rfl rfl (by omega) (z9 h42) (Nat.le_of_ble_eq_true rfl) rfl ⟨[], rfl, ?_⟩⟩, trivial⟩ ft
       refine Reg.intro [] [0, 1, 2, 3, 4, 5, 6, 7, 8, 9, 10, 11, 12, 13, 14, 16] (by kernel_rfl) rfl (an rfl) ⟨nf, nf, nf, nf, nf, nf, nf, nf, nf, nf, nf, nf, nf, nf, nf, nf, trivial⟩ trivial (fun _ => AtX.in_normal (al [0, 14, 17] [0] rfl rfl rfl (sq (cr [0, 1, 2] rfl (q1 rfl (z0 (mv rfl)) (q1 rfl (z25 (mv rfl) ct) (q1 rfl (z1 (mv rfl)) (rn ?_))))))))
       exact AtX.to (ih37 ((W (v35 - 1)), (z2x (z2x v36 v35 (gt v36 (W (v35 - 1)))) (W (v35 - 1)) (gt v36 v35))) h) [0] (sl rfl) (ol rfl) rfl
      ·
       refine z2.exit (AtX.then_exit (AtX.then_exit (AtX.in_hit ?_)))
       exact AtX.to (hJ34 v36 h) [0] trivial (ol rfl) rfl
    ·
     refine z2.block ?_
     refine z2.to (z2.loop (fun n (z : Int × Int) => z21 φ v1 v4 y6 (z22 φ v1 v4) n z.1 z.2) r (fun z => ⟨zh.of [(0, (eqv sv2)), (2, (iv .i64 v4)), (4, (fcmp P (fun x => (agg (eRef x))) y6)), (14, (iv .i64 z.1)), (15, (iv .i64 z.2))], [(row 43 eRef 2 v1 sv2)]⟩) (fun z => rfl) (fun n46 z ih46 h => ?_) φ (v3, v4) h) [0] (sl rfl) (ol rfl) rfl
     obtain ⟨v44, v45⟩ := z
     replace h : z21 φ v1 v4 y6 (z22 φ v1 v4) (n46 + 1) v44 v45 = some r := h
     rw [z21] at h
     refine cs (cs (cr [0, 1, 2] rfl (q1 rfl (z0 (mv rfl)) (q1 rfl (z0 (mv rfl)) (q1 rfl (z1l (mv rfl) (mv rfl)) (rn (al [0, 2, 4, 14, 15, 85] [0] rfl rfl rfl (sq ?_))))))))
     refine cI h rfl (fun c47 h => ?_) (fun c47 h => ?_)
     ·
      refine z2.skip (al [0, 2, 4, 14, 15] [0] rfl rfl rfl (sq (z2.block (cs (cr [0, 1, 2, 3, 4, 5, 6] rfl (q1 rfl (z0 (mv rfl)) (q1 rfl (z0 (mv rfl)) (q1 rfl (z0u (mv rfl) (mv rfl)) (q1 rfl (z6o (us3 H) (zdh H) (mv rfl)) (q1 rfl (z7m 2 (by decide) (mv rfl) ct (by decide)) (q1 rfl (z6o (zed H) (un3 H) (mv rfl)) ?_)))))))))))
      refine q1 rfl (z1 (mv rfl)) (rn (al [0, 2, 4, 14, 15, 16] [0] rfl rfl rfl (sq (cs (ckE h fun h48 h => ckE h fun h49 h => z0c h fun y50 ey50 h => z2.draw (QR := [(0, (fcmp P (fun x => (agg (eRef x))) y6)), (1, (eqv sv2)), (2, (iv .i64 v4)), (3, (rowp sv2 ((v4 : Int).toNat * 2))), (4, (agg (eRef (gt v1 v4)))), (5, (eqv sv2)), (6, (iv .i64 (W (((U ((W (v44 + v45)))).fdiv 2))))), (7, (rowp sv2 (((W (((U ((W (v44 + v45)))).fdiv 2))) : Int).toNat * 2))), (8, (agg (eRef (gt v1 (W (((U ((W (v44 + v45)))).fdiv 2))))))), (9, (iv .i64 y50)), (10, (bv (decide (y50 < 0)))), (11, (bv (!(decide (y50 < 0)))))]) (tab := [(some 92, []), (some 93, []), (some 94, []), (some 95, [1, 2]), (some 96, [3]), (some 97, []), (some 98, []), (some 99, [5, 6]), (some 100, [7]), (some 101, [0, 4, 8]), (some 102, [9]), (some 103, [10])]) (z5e H) (Reg.intro [] [] (by kernel_rfl) rfl (an rfl) ⟨(qr rfl (z0 (mv rfl))), (qr rfl (z0 (mv rfl))), (qr rfl (z0 (mv rfl))), (qr rfl (zi 0 (ix55 H) (mv rfl) rfl (mv rfl) (h48).1 (h48).2)), (qr rfl (ln (tl43 H) ((Pt.row _ 0 (k := (v4 : Int).toNat) (fo := 0) lRef (mv rfl) rfl (by omega) (z9 h48) rfl).take 2 (cs' := (eRef (gt v1 v4))) rfl) rfl)), (qr rfl (z0 (mv rfl))), (qr rfl (z0 (mv rfl))), (qr rfl (zi 0 (ix55 H) (mv rfl) rfl (mv rfl) (h49).1 (h49).2)), (qr rfl (ln (tl43 H) ((Pt.row _ 0 (k := ((W (((U ((W (v44 + v45)))).fdiv 2))) : Int).toNat) (fo := 0) lRef (mv rfl) rfl (by omega) (z9 h49) rfl).take 2 (cs' := (eRef (gt v1 (W (((U ((W (v44 + v45)))).fdiv 2)))))) rfl) rfl)), (qr rfl (z8x (mv rfl) (mv rfl) (mv rfl) ey50)), (qr rfl (z1l (mv rfl) ct)), (qr rfl (z8u (mv rfl))), trivial⟩ trivial (fun _ => al [0, 2, 4, 14, 15, 16, 103] [0] rfl rfl rfl (sq ?_))))))))
      refine cI h rfl (fun c51 h => ?_) (fun c51 h => ?_)
      ·
       refine cr [0, 1, 2] rfl (q1 rfl (z0 (mv rfl)) (q1 rfl (z0u (mv rfl) ct) (q1 rfl (z1 (mv rfl)) (rn (AtX.in_normal ?_)))))
       exact AtX.to (ih46 ((W ((W (((U ((W (v44 + v45)))).fdiv 2))) + 1)), v45) h) [0] (sl rfl) (ol rfl) rfl
      ·
       refine cr [0, 1] rfl (q1 rfl (z0 (mv rfl)) (q1 rfl (z1 (mv rfl)) (rn (AtX.in_normal ?_))))
       exact AtX.to (ih46 (v44, (W (((U ((W (v44 + v45)))).fdiv 2)))) h) [0] (sl rfl) (ol rfl) rfl
     ·
      refine z2.exit (AtX.then_exit (AtX.then_exit (AtX.in_hit ?_)))
      exact AtX.to (hJ32 v44 h) [0] (sl rfl) (ol rfl) rfl
   ·
    refine z2.skip (al [0, 1, 2, 3, 4] [0] rfl rfl rfl (sq (cs (cr [0, 1, 2, 3, 4, 5, 6] rfl (q1 rfl (z0 (mv rfl)) (q1 rfl (z0 (mv rfl)) (q1 rfl (z0u (mv rfl) (mv rfl)) (q1 rfl (z6o (us3 H) (zdh H) (mv rfl)) (q1 rfl (z7m 2 (by decide) (mv rfl) ct (by decide)) (q1 rfl (z6o (zed H) (un3 H) (mv rfl)) (q1 rfl (z1 (mv rfl)) ?_)))))))))))
    refine rn (al [0, 1, 2, 3, 4, 18] [0] rfl rfl rfl (sq (cs (cr [0, 1, 2, 3] rfl (q1 rfl (z0 (mv rfl)) (q1 rfl (z0 (mv rfl)) (q1 rfl (z0u (mv rfl) (mv rfl)) (q1 rfl (z1 (mv rfl)) (rn (al [0, 1, 2, 3, 4, 18, 19] [0] rfl rfl rfl (sq ?_)))))))))))
    refine cs (cr [0, 1] rfl (q1 rfl (z1 ct) (q1 rfl (z1 ct) (rn (al [0, 1, 2, 3, 4, 18, 19] [0] rfl rfl rfl (sq (cs (cs (cr [0, 1, 2] rfl (q1 rfl (z0 (mv rfl)) (q1 rfl (z0 (mv rfl)) ?_)))))))))))
    refine q1 rfl (z5a (mv rfl) (mv rfl)) (rn (al [0, 1, 2, 3, 4, 18, 19, 140] [0] rfl rfl rfl (sq ?_)))
    refine z2.join (fun z : Int × Int => (z2s φ v1 v3 v4 v5 y6 (zl φ)) z.1 z.2) r (fun z => ⟨zh.of [(0, (eqv sv2)), (1, (iv .i64 v3)), (2, (iv .i64 v4)), (3, (iv .i64 v5)), (4, (fcmp P (fun x => (agg (eRef x))) y6)), (18, (iv .i64 (W (((U ((W (v3 + v5)))).fdiv 2))))), (19, (iv .i64 (W ((W (((U ((W (v3 + v5)))).fdiv 2))) + v4)))), (20, (iv .i64 z.1)), (21, (iv .i64 z.2))], [(row 43 eRef 2 v1 sv2)]⟩) (fun z h => ?_) (fun hJ54 => ?_)
    ·
     obtain ⟨v52, v53⟩ := z
     replace h : (z2s φ v1 v3 v4 v5 y6 (zl φ)) v52 v53 = some r := h
     unfold z2s at h
     refine al [0, 1, 2, 3, 4, 18, 19, 20, 21] [0] rfl rfl rfl (sq (cs (cr [0, 1, 2] rfl (q1 rfl (z0 (mv rfl)) (q1 rfl (z25 (mv rfl) ct) (q1 rfl (z1 (mv rfl)) (rn (al [0, 1, 2, 3, 4, 18, 19, 20, 21, 22] [0] rfl rfl rfl (sq (cs ?_))))))))))
     refine z2.join (fun z : Int => (z1y φ v1 v3 v4 v5 y6 (zl φ)) z) r (fun z => ⟨zh.of [(0, (eqv sv2)), (1, (iv .i64 v3)), (2, (iv .i64 v4)), (3, (iv .i64 v5)), (4, (fcmp P (fun x => (agg (eRef x))) y6)), (18, (iv .i64 (W (((U ((W (v3 + v5)))).fdiv 2))))), (19, (iv .i64 (W ((W (((U ((W (v3 + v5)))).fdiv 2))) + v4)))), (20, (iv .i64 z))], [(row 43 eRef 2 v1 sv2)]⟩) (fun v55 h => ?_) (fun hJ56 => ?_)
     ·
      replace h : (z1y φ v1 v3 v4 v5 y6 (zl φ)) v55 = some r := h
      unfold z1y at h
      refine al [0, 1, 2, 3, 4, 18, 19, 20] [0] rfl rfl rfl (sq (cs (cr [0, 1, 2, 3] rfl (q1 rfl (z0 (mv rfl)) (q1 rfl (z0 (mv rfl)) (q1 rfl (z25 (mv rfl) (mv rfl)) (q1 rfl (z1 (mv rfl)) (rn (al [0, 1, 2, 3, 4, 18, 20, 24] [0] rfl rfl rfl (sq (cs ?_)))))))))))
      refine cs (cr [0, 1, 2, 3, 4, 5, 6, 7] rfl (q1 rfl (z0 (mv rfl)) (q1 rfl (z0 (mv rfl)) (q1 rfl (z1l (mv rfl) (mv rfl)) (q1 rfl (z0 (mv rfl)) (g1 rfl rfl (fun g57 => z0 (mv rfl)) (g1 rfl rfl (fun g58 => z0 (mv rfl)) (g1 rfl rfl (fun g59 => z1l (mc rfl g59) (mc rfl g59)) (q1 rfl (z4c (mv rfl) (fun g60 => (mc rfl g60)) ct) (rn (al [0, 1, 2, 3, 4, 18, 20, 24, 185] [0] rfl rfl rfl ?_)))))))))))
      refine sq ?_
      refine z2.join (fun z : (List Ref) => (z2r φ v3 v4 v5 y6 (zl φ) v55) z) r (fun z => ⟨zh.of [(0, (eqv sv2)), (1, (iv .i64 v3)), (3, (iv .i64 v5)), (4, (fcmp P (fun x => (agg (eRef x))) y6)), (18, (iv .i64 (W (((U ((W (v3 + v5)))).fdiv 2))))), (20, (iv .i64 v55)), (24, (iv .i64 (W ((W ((W (((U ((W (v3 + v5)))).fdiv 2))) + v4)) - v55))))], [(row 43 eRef 2 z sv2)]⟩) (fun v61 h => ?_) (fun hJ62 => ?_)
      ·
       replace h : (z2r φ v3 v4 v5 y6 (zl φ) v55) v61 = some r := h
       unfold z2r at h
       refine al [0, 1, 3, 4, 18, 20, 24] [0] rfl rfl rfl (sq (cs (cs (cr [0, 1, 2, 3, 4, 5, 6, 7] rfl (q1 rfl (z0 (mv rfl)) (q1 rfl (z0 (mv rfl)) (q1 rfl (z1l (mv rfl) (mv rfl)) (q1 rfl (z0 (mv rfl)) (g1 rfl rfl (fun g63 => z0 (mv rfl)) (g1 rfl rfl (fun g64 => z0 (mv rfl)) (g1 rfl rfl (fun g65 => z1l (mc rfl g65) (mc rfl g65)) ?_)))))))))))
       refine q1 rfl (z4c (mv rfl) (fun g66 => (mc rfl g66)) ct) (rn (al [0, 1, 3, 4, 18, 20, 24, 199] [0] rfl rfl rfl (sq ?_)))
       refine z2.join (fun z : (List Ref) => (z2q φ v3 v4 v5 y6 (zl φ) v55) z) r (fun z => ⟨zh.of [(0, (eqv sv2)), (3, (iv .i64 v5)), (4, (fcmp P (fun x => (agg (eRef x))) y6)), (18, (iv .i64 (W (((U ((W (v3 + v5)))).fdiv 2))))), (24, (iv .i64 (W ((W ((W (((U ((W (v3 + v5)))).fdiv 2))) + v4)) - v55))))], [(row 43 eRef 2 z sv2)]⟩) (fun v67 h => ?_) (fun hJ68 => ?_)
       ·
        replace h : (z2q φ v3 v4 v5 y6 (zl φ) v55) v67 = some r := h
        unfold z2q at h
        refine al [0, 3, 4, 18, 24] [0] rfl rfl rfl (sq (cs (cr [0, 1, 2, 3, 4, 5, 6, 7] rfl (q1 rfl (z0 (mv rfl)) (q1 rfl (z0 (mv rfl)) (q1 rfl (z1l (mv rfl) (mv rfl)) (q1 rfl (z0 (mv rfl)) (g1 rfl rfl (fun g69 => z0 (mv rfl)) (g1 rfl rfl (fun g70 => z0 (mv rfl)) (g1 rfl rfl (fun g71 => z1l (mc rfl g71) (mc rfl g71)) (q1 rfl (z4c (mv rfl) (fun g72 => (mc rfl g72)) ct) ?_)))))))))))
        refine rn (al [0, 3, 4, 18, 24, 213] [0] rfl rfl rfl (sq ?_))
        refine cI h rfl (fun c73 h => ?_) (fun c73 h => ?_)
        ·
         refine cr [0, 1, 2, 3, 4, 5] rfl (q1 rfl (z0 (mv rfl)) (q1 rfl (z0 (mv rfl)) (q1 rfl (z0 (mv rfl)) (q1 rfl (z0 (mv rfl)) (q1 rfl (z0 (mv rfl)) (z0c h fun y74 ey74 h => n1 rfl (z3d 0 rfl (fun x => (fRef x).mem) (zk5 H) (args := [(eqv sv2), (iv .i64 (W (((U ((W (v3 + v5)))).fdiv 2)))), (iv .i64 (W ((W ((W (((U ((W (v3 + v5)))).fdiv 2))) + v4)) - v55))), (iv .i64 v5), (fcmp P (fun x => (agg (eRef x))) y6)]) ⟨(mv rfl), (mv rfl), (mv rfl), (mv rfl), (mv rfl), trivial⟩ (ih v67 (W (((U ((W (v3 + v5)))).fdiv 2))) (W ((W ((W (((U ((W (v3 + v5)))).fdiv 2))) + v4)) - v55)) v5 y6 sv2 _ ey74) fun x75 nw76 hk77 => ?_)))))))
         obtain ⟨rfl, rfl⟩ := hk77
         refine ⟨z7, ?_⟩
         refine rn (AtX.fall' (eqv (.tuple #[])) (z0k.zero Try.results81) [0] [(row 43 eRef 2 y74 sv2)] (ol rfl) rfl ?_)
         obtain rfl := Option.some.inj h
         exact ⟨_, rfl, rfl, rfl⟩
        ·
         refine z2.skip (AtX.fall' (eqv (.tuple #[])) (z0k.zero Try.results81) [0] [(row 43 eRef 2 v67 sv2)] (ol rfl) rfl ?_)
         obtain rfl := Option.some.inj h
         exact ⟨_, rfl, rfl, rfl⟩
       ·
        refine cI h rfl (fun c78 h => ?_) (fun c78 h => ?_)
        ·
         refine cr [0, 1, 2, 3, 4, 5] rfl (q1 rfl (z0 (mv rfl)) (q1 rfl (z0 (mv rfl)) (q1 rfl (z0 (mv rfl)) (q1 rfl (z0 (mv rfl)) (q1 rfl (z0 (mv rfl)) (z0c h fun y79 ey79 h => n1 rfl (z3d 0 rfl (fun x => (fRef x).mem) (zk5 H) (args := [(eqv sv2), (iv .i64 v3), (iv .i64 v55), (iv .i64 (W (((U ((W (v3 + v5)))).fdiv 2)))), (fcmp P (fun x => (agg (eRef x))) y6)]) ⟨(mv rfl), (mv rfl), (mv rfl), (mv rfl), (mv rfl), trivial⟩ (ih v61 v3 v55 (W (((U ((W (v3 + v5)))).fdiv 2))) y6 sv2 _ ey79) fun x80 nw81 hk82 => ?_)))))))
         obtain ⟨rfl, rfl⟩ := hk82
         refine ⟨z7, ?_⟩
         refine rn ?_
         exact AtX.to (hJ68 y79 h) [0] (sl rfl) (ol rfl) rfl
        ·
         refine z2.skip ?_
         exact AtX.to (hJ68 v61 h) [0] (sl rfl) (ol rfl) rfl
      ·
       refine cI h rfl (fun c83 h => ?_) (fun c83 h => ?_)
       ·
        refine cr [0, 1, 2, 3, 4, 5] rfl (q1 rfl (z0 (mv rfl)) (q1 rfl (z0 (mv rfl)) (q1 rfl (z0 (mv rfl)) (q1 rfl (z0 (mv rfl)) (q1 rfl (z0 (mv rfl)) (z0c h fun y84 ey84 h => n1 rfl (z3d 0 rfl (fun x => (fRef x).mem) (zsm H) (args := [(eqv sv2), (iv .i64 v55), (iv .i64 v4), (iv .i64 (W ((W ((W (((U ((W (v3 + v5)))).fdiv 2))) + v4)) - v55))), (fcmp P (fun x => (agg (eRef x))) y6)]) ⟨(mv rfl), (mv rfl), (mv rfl), (mv rfl), (mv rfl), trivial⟩ (z93 H φ v1 v55 v4 (W ((W ((W (((U ((W (v3 + v5)))).fdiv 2))) + v4)) - v55)) y6 sv2 _ ey84) fun x85 nw86 hk87 => ?_)))))))
        obtain ⟨rfl, rfl⟩ := hk87
        refine ⟨z7, ?_⟩
        refine rn ?_
        exact AtX.to (hJ62 y84 h) [0] (sl rfl) (ol rfl) rfl
       ·
        refine z2.skip ?_
        exact AtX.to (hJ62 v1 h) [0] (sl rfl) (ol rfl) rfl
     ·
      refine z2.block ?_
      refine z2.to (z2.loop (fun n (z : Int × Int) => z23 φ v1 v3 v4 v5 y6 (z1y φ v1 v3 v4 v5 y6 (zl φ)) n z.1 z.2) r (fun z => ⟨zh.of [(0, (eqv sv2)), (1, (iv .i64 v3)), (2, (iv .i64 v4)), (3, (iv .i64 v5)), (4, (fcmp P (fun x => (agg (eRef x))) y6)), (18, (iv .i64 (W (((U ((W (v3 + v5)))).fdiv 2))))), (19, (iv .i64 (W ((W (((U ((W (v3 + v5)))).fdiv 2))) + v4)))), (20, (iv .i64 z.1)), (21, (iv .i64 z.2)), (22, (iv .i64 (W ((W ((W (((U ((W (v3 + v5)))).fdiv 2))) + v4)) - 1))))], [(row 43 eRef 2 v1 sv2)]⟩) (fun z => rfl) (fun n90 z ih90 h => ?_) φ (v52, v53) h) [0] (sl rfl) (ol rfl) rfl
      obtain ⟨v88, v89⟩ := z
      replace h : z23 φ v1 v3 v4 v5 y6 (z1y φ v1 v3 v4 v5 y6 (zl φ)) (n90 + 1) v88 v89 = some r := h
      rw [z23] at h
      refine cs (cs (cr [0, 1, 2] rfl (q1 rfl (z0 (mv rfl)) (q1 rfl (z0 (mv rfl)) (q1 rfl (z1l (mv rfl) (mv rfl)) (rn (al [0, 1, 2, 3, 4, 18, 19, 20, 21, 22, 151] [0] rfl rfl rfl (sq ?_))))))))
      refine cI h rfl (fun c91 h => ?_) (fun c91 h => ?_)
      ·
       refine z2.skip (al [0, 1, 2, 3, 4, 18, 19, 20, 21, 22] [0] rfl rfl rfl (sq (z2.block (cs (cr [0, 1, 2, 3, 4, 5, 6] rfl (q1 rfl (z0 (mv rfl)) (q1 rfl (z0 (mv rfl)) (q1 rfl (z0u (mv rfl) (mv rfl)) (q1 rfl (z6o (us3 H) (zdh H) (mv rfl)) (q1 rfl (z7m 2 (by decide) (mv rfl) ct (by decide)) (q1 rfl (z6o (zed H) (un3 H) (mv rfl)) ?_)))))))))))
       refine q1 rfl (z1 (mv rfl)) (rn (al [0, 1, 2, 3, 4, 18, 19, 20, 21, 22, 23] [0] rfl rfl rfl (sq (cs (ckE h fun h92 h => ckE h fun h93 h => z0c h fun y94 ey94 h => z2.draw (QR := [(0, (fcmp P (fun x => (agg (eRef x))) y6)), (1, (eqv sv2)), (2, (iv .i64 (W ((W ((W (((U ((W (v3 + v5)))).fdiv 2))) + v4)) - 1)))), (3, (iv .i64 (W (((U ((W (v88 + v89)))).fdiv 2))))), (4, (iv .i64 (W ((W ((W ((W (((U ((W (v3 + v5)))).fdiv 2))) + v4)) - 1)) - (W (((U ((W (v88 + v89)))).fdiv 2))))))), (5, (rowp sv2 (((W ((W ((W ((W (((U ((W (v3 + v5)))).fdiv 2))) + v4)) - 1)) - (W (((U ((W (v88 + v89)))).fdiv 2))))) : Int).toNat * 2))), (6, (agg (eRef (gt v1 (W ((W ((W ((W (((U ((W (v3 + v5)))).fdiv 2))) + v4)) - 1)) - (W (((U ((W (v88 + v89)))).fdiv 2))))))))), (7, (eqv sv2)), (8, (iv .i64 (W (((U ((W (v88 + v89)))).fdiv 2))))), (9, (rowp sv2 (((W (((U ((W (v88 + v89)))).fdiv 2))) : Int).toNat * 2))), (10, (agg (eRef (gt v1 (W (((U ((W (v88 + v89)))).fdiv 2))))))), (11, (iv .i64 y94)), (12, (bv (decide (y94 < 0)))), (13, (bv (!(decide (y94 < 0)))))]) (tab := [(some 158, []), (some 159, []), (some 160, []), (some 161, []), (some 162, [2, 3]), (some 163, [1, 4]), (some 164, [5]), (some 165, []), (some 166, []), (some 167, [7, 8]), (some 168, [9]), (some 169, [0, 6, 10]), (some 170, [11]), (some 171, [12])]) (z5e H) (Reg.intro [] [] (by kernel_rfl) rfl ⟨rfl, rfl, rfl, rfl, rfl, rfl, rfl, rfl, rfl, rfl, rfl, rfl, rfl, rfl, trivial⟩ ⟨(fun _ => ⟨_, rfl, (z0 (Ev.tmp rfl))⟩), (fun _ => ⟨_, rfl, (z0 (Ev.tmp rfl))⟩), (fun _ => ⟨_, rfl, (z0 (Ev.tmp rfl))⟩), (fun _ => ⟨_, rfl, (z0 (Ev.tmp rfl))⟩), (fun _ => ⟨_, rfl, (z25 (Ev.tmp rfl) (Ev.tmp rfl))⟩), (fun _ => ⟨_, rfl, (zi 0 (ix55 H) (Ev.tmp rfl) rfl (Ev.tmp rfl) (h92).1 (h92).2)⟩), (fun _ => ⟨_, rfl, (z5r (tl43 H) ((Pt.row _ 0 (k := ((W ((W ((W ((W (((U ((W (v3 + v5)))).fdiv 2))) + v4)) - 1)) - (W (((U ((W (v88 + v89)))).fdiv 2))))) : Int).toNat) (fo := 0) lRef (Ev.tmp rfl) rfl (by omega) (z9 h92) rfl).take 2 (cs' := (eRef (gt v1 (W ((W ((W ((W (((U ((W (v3 + v5)))).fdiv 2))) + v4)) - 1)) - (W (((U ((W (v88 + v89)))).fdiv 2)))))))) rfl))⟩), (fun _ => ⟨_, rfl, (z0 (Ev.tmp rfl))⟩), (fun _ => ⟨_, rfl, (z0 (Ev.tmp rfl))⟩), (fun _ => ⟨_, rfl, (zi 0 (ix55 H) (Ev.tmp rfl) rfl (Ev.tmp rfl) (h93).1 (h93).2)⟩), (fun _ => ⟨_, rfl, (z5r (tl43 H) ((Pt.row _ 0 (k := ((W (((U ((W (v88 + v89)))).fdiv 2))) : Int).toNat) (fo := 0) lRef (Ev.tmp rfl) rfl (by omega) (z9 h93) rfl).take 2 (cs' := (eRef (gt v1 (W (((U ((W (v88 + v89)))).fdiv 2)))))) rfl))⟩), (fun _ => ⟨_, rfl, (z8x (Ev.tmp rfl) (Ev.tmp rfl) (Ev.tmp rfl) ey94)⟩), (fun _ => ⟨_, rfl, (z1l (Ev.tmp rfl) (Ev.const _))⟩), (fun _ => ⟨_, rfl, (z8u (Ev.tmp rfl))⟩), trivial⟩ trivial (fun _ => al [0, 1, 2, 3, 4, 18, 19, 20, 21, 22, 23, 171] [0] rfl rfl rfl (sq ?_))))))))
       refine cI h rfl (fun c95 h => ?_) (fun c95 h => ?_)
       ·
        refine cr [0, 1, 2] rfl (q1 rfl (z0 (mv rfl)) (q1 rfl (z0u (mv rfl) ct) (q1 rfl (z1 (mv rfl)) (rn (AtX.in_normal ?_)))))
        exact AtX.to (ih90 ((W ((W (((U ((W (v88 + v89)))).fdiv 2))) + 1)), v89) h) [0] (sl rfl) (ol rfl) rfl
       ·
        refine cr [0, 1] rfl (q1 rfl (z0 (mv rfl)) (q1 rfl (z1 (mv rfl)) (rn (AtX.in_normal ?_))))
        exact AtX.to (ih90 (v88, (W (((U ((W (v88 + v89)))).fdiv 2)))) h) [0] (sl rfl) (ol rfl) rfl
      ·
       refine z2.exit (AtX.then_exit (AtX.then_exit (AtX.in_hit ?_)))
       exact AtX.to (hJ56 v88 h) [0] (sl rfl) (ol rfl) rfl
    ·
     refine cI h rfl (fun c96 h => ?_) (fun c96 h => ?_)
     ·
      refine cs (cr [0, 1, 2, 3] rfl (q1 rfl (z0 (mv rfl)) (q1 rfl (z0 (mv rfl)) (q1 rfl (z25 (mv rfl) (mv rfl)) (q1 rfl (z1 (mv rfl)) (rn (al [0, 1, 2, 3, 4, 18, 19, 20] [0] rfl rfl rfl (sq (cr [0, 1] rfl (q1 rfl (z0 (mv rfl)) (q1 rfl (z1 (mv rfl)) ?_)))))))))))
      refine rn ?_
      exact AtX.to (hJ54 ((W ((W ((W (((U ((W (v3 + v5)))).fdiv 2))) + v4)) - v5)), (W (((U ((W (v3 + v5)))).fdiv 2)))) h) [0] (sl rfl) (ol rfl) rfl
     ·
      refine cs (cr [0, 1] rfl (q1 rfl (z0 (mv rfl)) (q1 rfl (z1 (mv rfl)) (rn (al [0, 1, 2, 3, 4, 18, 19, 20] [0] rfl rfl rfl (sq (cr [0, 1] rfl (q1 rfl (z0 (mv rfl)) (q1 rfl (z1 (mv rfl)) (rn ?_))))))))))
      exact AtX.to (hJ54 (v3, v4) h) [0] (sl rfl) (ol rfl) rfl
theorem z97 {P : Program} (H : P = Try.prog) (φ : Nat) (v1 : (List Ref)) (v3 : Int) (y4 : (Ref → Ref → Option Int)) (sv2 : Value) (r : (List Ref)) (h : z6b φ v1 v3 y4 = some r) : MutT P 63 [(eqv sv2), (iv .i64 v3), (fcmp P (fun x => (agg (eRef x))) y4)] 43 eRef 2 v1 sv2 (fun x l' => x = eqv (.tuple #[]) ∧ r = l') := by
 unfold z6b at h
 refine MutT.of_code 63 (fn63 H) rfl rfl (Nat.le_of_ble_eq_true rfl) fun w0 base r0 wI => ?_
 refine cl [0, 1, 2] [0] rfl rfl rfl (cs (cr [0] rfl (q1 rfl (z1 ct) (rn (al [0, 1, 2, 6] [0] rfl rfl rfl (sq (cs (cr [0, 1, 2] rfl (q1 rfl (z0 (mv rfl)) (q1 rfl (z1 ct) (q1 rfl (z1 (mv rfl)) ?_)))))))))))
 refine rn (al [0, 1, 2, 6, 7, 8] [0] rfl rfl rfl (sq (cs ?_)))
 refine z2.join (fun z : Int × (List Ref) => (z2g φ v3 y4) z.1 z.2) r (fun z => ⟨zh.of [(0, (eqv sv2)), (1, (iv .i64 v3)), (2, (fcmp P (fun x => (agg (eRef x))) y4)), (6, (iv .i64 20)), (7, (iv .i64 z.1))], [(row 43 eRef 2 z.2 sv2)]⟩) (fun z h => ?_) (fun hJ7 => ?_)
 ·
  obtain ⟨v5, v6⟩ := z
  replace h : (z2g φ v3 y4) v5 v6 = some r := h
  unfold z2g at h
  refine al [0, 1, 2, 6, 7] [0] rfl rfl rfl (sq (cs (cr [0, 1, 2, 3, 4] rfl (q1 rfl (z0 (mv rfl)) (q1 rfl (z0 (mv rfl)) (q1 rfl (z0 (mv rfl)) (q1 rfl (z0 (mv rfl)) (z0c h fun y8 ey8 h => n1 rfl (z3d 0 rfl (fun x => (fRef x).mem) (zoe H) (args := [(eqv sv2), (iv .i64 v5), (iv .i64 v3), (fcmp P (fun x => (agg (eRef x))) y4)]) ⟨(mv rfl), (mv rfl), (mv rfl), (mv rfl), trivial⟩ (z5n H φ v6 v5 v3 y4 sv2 _ ey8) fun x9 nw10 hk11 => ?_)))))))))
  obtain ⟨rfl, rfl⟩ := hk11
  refine ⟨z7, ?_⟩
  refine rn (al [0, 1, 2, 6] [0] rfl rfl rfl (sq (z2.block ?_)))
  refine z2.to (z2.loop (fun n (z : Int × (List Ref)) => z00 φ v3 y4 n z.1 z.2) r (fun z => ⟨zh.of [(0, (eqv sv2)), (1, (iv .i64 v3)), (2, (fcmp P (fun x => (agg (eRef x))) y4)), (6, (iv .i64 z.1))], [(row 43 eRef 2 z.2 sv2)]⟩) (fun z => rfl) (fun n14 z ih14 h => ?_) φ (20, y8) h) [0] (sl rfl) (ol rfl) rfl
  obtain ⟨v12, v13⟩ := z
  replace h : z00 φ v3 y4 (n14 + 1) v12 v13 = some r := h
  rw [z00] at h
  refine cs (cs (cr [0, 1, 2] rfl (q1 rfl (z0 (mv rfl)) (q1 rfl (z0 (mv rfl)) (q1 rfl (z1l (mv rfl) (mv rfl)) (rn (al [0, 1, 2, 6, 30] [0] rfl rfl rfl (sq ?_))))))))
  refine cI h rfl (fun c15 h => ?_) (fun c15 h => ?_)
  ·
   refine z2.skip (al [0, 1, 2, 6] [0] rfl rfl rfl (sq (z2.block (cs (cr [0, 1, 2, 3] rfl (q1 rfl (z0 (mv rfl)) (q1 rfl (z8v ct (mv rfl)) (q1 rfl (z1 ct) (q1 rfl (z1 (mv rfl)) (rn (al [0, 1, 2, 6, 7, 8] [0] rfl rfl rfl ?_)))))))))))
   refine sq (cs ?_)
   refine z2.join (fun z : Int × (List Ref) => (z29 φ v3 y4 v12 (z00 φ v3 y4 n14)) z.1 z.2) r (fun z => ⟨zh.of [(0, (eqv sv2)), (1, (iv .i64 v3)), (2, (fcmp P (fun x => (agg (eRef x))) y4)), (6, (iv .i64 v12)), (7, (iv .i64 z.1))], [(row 43 eRef 2 z.2 sv2)]⟩) (fun z h => ?_) (fun hJ18 => ?_)
   ·
    obtain ⟨v16, v17⟩ := z
    replace h : (z29 φ v3 y4 v12 (z00 φ v3 y4 n14)) v16 v17 = some r := h
    unfold z29 at h
    refine al [0, 1, 2, 6, 7] [0] rfl rfl rfl (sq (cs (cs (cr [0, 1, 2, 3] rfl (q1 rfl (z0 (mv rfl)) (q1 rfl (z0 (mv rfl)) (q1 rfl (z0u (mv rfl) (mv rfl)) (q1 rfl (z1 (mv rfl)) (rn (al [0, 1, 2, 6, 7, 9] [0] rfl rfl rfl (sq ?_)))))))))))
    refine cs (cr [0, 1, 2] rfl (q1 rfl (z0 (mv rfl)) (q1 rfl (z0 (mv rfl)) (q1 rfl (z1l (mv rfl) (mv rfl)) (rn (al [0, 1, 2, 6, 7, 9, 54] [0] rfl rfl rfl (sq ?_)))))))
    refine z2.join (fun z : (List Ref) => (z34 φ v12 (z00 φ v3 y4 n14)) z) r (fun z => ⟨zh.of [(0, (eqv sv2)), (1, (iv .i64 v3)), (2, (fcmp P (fun x => (agg (eRef x))) y4)), (6, (iv .i64 v12))], [(row 43 eRef 2 z sv2)]⟩) (fun v19 h => ?_) (fun hJ20 => ?_)
    ·
     replace h : (z34 φ v12 (z00 φ v3 y4 n14)) v19 = some r := h
     unfold z34 at h
     refine al [0, 1, 2, 6] [0] rfl rfl rfl (sq (cr [0, 1, 2] rfl (q1 rfl (z0 (mv rfl)) (q1 rfl (z8v (mv rfl) ct) (q1 rfl (z1 (mv rfl)) (rn (AtX.in_normal ?_)))))))
     exact AtX.to (ih14 ((W (v12 * 2)), v19) h) [0] (sl rfl) (ol rfl) rfl
    ·
     refine cI h rfl (fun c21 h => ?_) (fun c21 h => ?_)
     ·
      refine cr [0, 1, 2, 3, 4, 5] rfl (q1 rfl (z0 (mv rfl)) (q1 rfl (z0 (mv rfl)) (q1 rfl (z0 (mv rfl)) (q1 rfl (z0 (mv rfl)) (q1 rfl (z0 (mv rfl)) (z0c h fun y22 ey22 h => n1 rfl (z3d 0 rfl (fun x => (fRef x).mem) (zk5 H) (args := [(eqv sv2), (iv .i64 v16), (iv .i64 (W (v16 + v12))), (iv .i64 v3), (fcmp P (fun x => (agg (eRef x))) y4)]) ⟨(mv rfl), (mv rfl), (mv rfl), (mv rfl), (mv rfl), trivial⟩ (z6q H φ v17 v16 (W (v16 + v12)) v3 y4 sv2 _ ey22) fun x23 nw24 hk25 => ?_)))))))
      obtain ⟨rfl, rfl⟩ := hk25
      refine ⟨z7, ?_⟩
      refine rn ?_
      exact AtX.to (hJ20 y22 h) [0] (sl rfl) (ol rfl) rfl
     ·
      refine z2.skip ?_
      exact AtX.to (hJ20 v17 h) [0] (sl rfl) (ol rfl) rfl
   ·
    refine z2.block ?_
    refine z2.to (z2.loop (fun n (z : Int × Int × (List Ref)) => z36 φ v3 y4 v12 (z29 φ v3 y4 v12 (z00 φ v3 y4 n14)) n z.1 z.2.1 z.2.2) r (fun z => ⟨zh.of [(0, (eqv sv2)), (1, (iv .i64 v3)), (2, (fcmp P (fun x => (agg (eRef x))) y4)), (6, (iv .i64 v12)), (7, (iv .i64 z.1)), (8, (iv .i64 z.2.1))], [(row 43 eRef 2 z.2.2 sv2)]⟩) (fun z => rfl) (fun n29 z ih29 h => ?_) φ (0, (W (2 * v12)), v13) h) [0] (sl rfl) (ol rfl) rfl
    obtain ⟨v26, v27, v28⟩ := z
    replace h : z36 φ v3 y4 v12 (z29 φ v3 y4 v12 (z00 φ v3 y4 n14)) (n29 + 1) v26 v27 v28 = some r := h
    rw [z36] at h
    refine cs (cs (cr [0, 1, 2] rfl (q1 rfl (z0 (mv rfl)) (q1 rfl (z0 (mv rfl)) (q1 rfl (zae (mv rfl) (mv rfl)) (rn (al [0, 1, 2, 6, 7, 8, 35] [0] rfl rfl rfl (sq ?_))))))))
    refine cI h rfl (fun c30 h => ?_) (fun c30 h => ?_)
    ·
     refine z2.skip (al [0, 1, 2, 6, 7, 8] [0] rfl rfl rfl (sq (z2.block (cs (cr [0, 1, 2, 3, 4, 5, 6, 7] rfl (q1 rfl (z0 (mv rfl)) (q1 rfl (z0 (mv rfl)) (q1 rfl (z0 (mv rfl)) (q1 rfl (z0 (mv rfl)) (q1 rfl (z0u (mv rfl) (mv rfl)) (q1 rfl (z0 (mv rfl)) ?_)))))))))))
     refine q1 rfl (z0 (mv rfl)) (z0c h fun y31 ey31 h => n1 rfl (z3d 0 rfl (fun x => (fRef x).mem) (zk5 H) (args := [(eqv sv2), (iv .i64 v26), (iv .i64 (W (v26 + v12))), (iv .i64 v27), (fcmp P (fun x => (agg (eRef x))) y4)]) ⟨(mv rfl), (mv rfl), (mv rfl), (mv rfl), (mv rfl), trivial⟩ (z6q H φ v28 v26 (W (v26 + v12)) v27 y4 sv2 _ ey31) fun x32 nw33 hk34 => ?_))
     obtain ⟨rfl, rfl⟩ := hk34
     refine ⟨z7, ?_⟩
     refine rn (al [0, 1, 2, 6, 8] [0] rfl rfl rfl (sq (cs (cr [0, 1] rfl (q1 rfl (z0 (mv rfl)) (q1 rfl (z1 (mv rfl)) (rn (al [0, 1, 2, 6, 7, 8] [0] rfl rfl rfl (sq (cr [0, 1, 2, 3, 4] rfl (q1 rfl (z0 (mv rfl)) ?_)))))))))))
     refine q1 rfl (z0 (mv rfl)) (q1 rfl (z8v ct (mv rfl)) (q1 rfl (z0u (mv rfl) (mv rfl)) (q1 rfl (z1 (mv rfl)) (rn (AtX.in_normal ?_)))))
     exact AtX.to (ih29 (v27, (W (v27 + (W (2 * v12)))), y31) h) [0] (sl rfl) (ol rfl) rfl
    ·
     refine z2.exit (AtX.then_exit (AtX.then_exit (AtX.in_hit ?_)))
     exact AtX.to (hJ18 (v26, v28) h) [0] (sl rfl) (ol rfl) rfl
  ·
   refine z2.exit (AtX.then_exit (AtX.then_exit (AtX.in_hit (AtX.fall' (eqv (.tuple #[])) (z0k.zero Try.results63) [0] [(row 43 eRef 2 v13 sv2)] (ol rfl) rfl ?_))))
   obtain rfl := Option.some.inj h
   exact ⟨_, rfl, rfl, rfl⟩
 ·
  refine z2.block ?_
  refine z2.to (z2.loop (fun n (z : Int × Int × (List Ref)) => z35 φ v3 y4 (z2g φ v3 y4) n z.1 z.2.1 z.2.2) r (fun z => ⟨zh.of [(0, (eqv sv2)), (1, (iv .i64 v3)), (2, (fcmp P (fun x => (agg (eRef x))) y4)), (6, (iv .i64 20)), (7, (iv .i64 z.1)), (8, (iv .i64 z.2.1))], [(row 43 eRef 2 z.2.2 sv2)]⟩) (fun z => rfl) (fun n38 z ih38 h => ?_) φ (0, 20, v1) h) [0] (sl rfl) (ol rfl) rfl
  obtain ⟨v35, v36, v37⟩ := z
  replace h : z35 φ v3 y4 (z2g φ v3 y4) (n38 + 1) v35 v36 v37 = some r := h
  rw [z35] at h
  refine cs (cs (cr [0, 1, 2] rfl (q1 rfl (z0 (mv rfl)) (q1 rfl (z0 (mv rfl)) (q1 rfl (zae (mv rfl) (mv rfl)) (rn (al [0, 1, 2, 6, 7, 8, 13] [0] rfl rfl rfl (sq ?_))))))))
  refine cI h rfl (fun c39 h => ?_) (fun c39 h => ?_)
  ·
   refine z2.skip (al [0, 1, 2, 6, 7, 8] [0] rfl rfl rfl (sq (z2.block (cs (cr [0, 1, 2, 3, 4] rfl (q1 rfl (z0 (mv rfl)) (q1 rfl (z0 (mv rfl)) (q1 rfl (z0 (mv rfl)) (q1 rfl (z0 (mv rfl)) (z0c h fun y40 ey40 h => n1 rfl (z3d 0 rfl (fun x => (fRef x).mem) (zoe H) (args := [(eqv sv2), (iv .i64 v35), (iv .i64 v36), (fcmp P (fun x => (agg (eRef x))) y4)]) ⟨(mv rfl), (mv rfl), (mv rfl), (mv rfl), trivial⟩ (z5n H φ v37 v35 v36 y4 sv2 _ ey40) fun x41 nw42 hk43 => ?_)))))))))))
   obtain ⟨rfl, rfl⟩ := hk43
   refine ⟨z7, ?_⟩
   refine rn (al [0, 1, 2, 6, 8] [0] rfl rfl rfl (sq (cs (cr [0, 1] rfl (q1 rfl (z0 (mv rfl)) (q1 rfl (z1 (mv rfl)) (rn (al [0, 1, 2, 6, 7, 8] [0] rfl rfl rfl (sq (cr [0, 1, 2, 3] rfl (q1 rfl (z0 (mv rfl)) ?_)))))))))))
   refine q1 rfl (z0 (mv rfl)) (q1 rfl (z0u (mv rfl) (mv rfl)) (q1 rfl (z1 (mv rfl)) (rn (AtX.in_normal ?_))))
   exact AtX.to (ih38 (v36, (W (v36 + 20)), y40) h) [0] (sl rfl) (ol rfl) rfl
  ·
   refine z2.exit (AtX.then_exit (AtX.then_exit (AtX.in_hit ?_)))
   exact AtX.to (hJ7 (v35, v37) h) [0] (sl rfl) (ol rfl) rfl
theorem z8y {P : Program} (H : P = Try.prog) (φ : Nat) (v1 : (List Ref)) (y3 : (Ref → Ref → Option Int)) (sv2 : Value) (r : (List Ref)) (h : z5w φ v1 y3 = some r) : MutT P 40 [(eqv sv2), (fcmp P (fun x => (agg (eRef x))) y3)] 43 eRef 2 v1 sv2 (fun x l' => x = eqv (.tuple #[]) ∧ r = l') := by
 unfold z5w at h
 refine MutT.of_code 9 (fn40 H) rfl rfl (Nat.le_of_ble_eq_true rfl) fun w0 base r0 wI => ?_
 refine cl [0, 1] [0] rfl rfl rfl (cr [0, 1, 2, 3, 4] rfl (q1 rfl (z0 (mv rfl)) (q1 rfl (z0 (mv rfl)) (q1 rfl (z8e 0 (il55 H) (mv rfl) rfl) (q1 rfl (z0 (mv rfl)) (z0c h fun y4 ey4 h => n1 rfl (z3d 0 rfl (fun x => (fRef x).mem) (ztd H) (args := [(eqv sv2), (iv .i64 (v1.length : Int)), (fcmp P (fun x => (agg (eRef x))) y3)]) ⟨(mv rfl), (mv rfl), (mv rfl), trivial⟩ (z97 H φ v1 (v1.length : Int) y3 sv2 _ ey4) fun x5 nw6 hk7 => ?_)))))))
 obtain ⟨rfl, rfl⟩ := hk7
 refine ⟨z7, ?_⟩
 refine rn (AtX.fall' (eqv (.tuple #[])) (z0k.zero Try.results40) [0] [(row 43 eRef 2 y4 sv2)] (ol rfl) rfl ?_)
 obtain rfl := Option.some.inj h
 exact ⟨_, rfl, rfl, rfl⟩
theorem zay {P : Program} (H : P = Try.prog) (φ : Nat) (v1 : Pool) (v2 : (List zf)) (r : ((List Ref))) (h : z86 φ v1 v2 = some r) : z1q P 14 [(agg (z2k v1)), (ro zd 21 v2)] (zb9 r) := by
 unfold z86 at h
 refine z1q.of_code' 59 (fn14 H) rfl rfl (Nat.le_of_ble_eq_true rfl) fun w0 base r0 wI => ?_
 refine cl [0, 1] [] rfl rfl rfl (cs (z2.addNil 43 eRef 2 (cr [0, 1] rfl (n1 rfl (z7u (Ce.agg (mv rfl)) fun b3 => q1 rfl (z1 ct) (rn (al [1, 2] [1] rfl rfl rfl (sq (cs (cs (cr [0, 1, 2] rfl ?_)))))))))))
 refine q1 rfl (ln (tl36 H) ((Pt.box 0 (mv rfl) rfl rfl).take 9 (cs' := (z2k v1)) rfl) rfl) (z0c h fun y4 ey4 h => q1 rfl (oQ (zjv H) (z73 H φ v1 _ ey4) z7 ⟨ef (mv rfl), trivial⟩) (q1 rfl (z7p (mv rfl) ct) (rn (al [1, 2, 13] [0] rfl rfl rfl (sq ?_)))))
 refine cI h rfl (fun c5 h => ?_) (fun c5 h => ?_)
 ·
  refine cs (z2.addNil 43 eRef 2 (cr [0] rfl (q1 rfl (z1 ct) (rn (al [4] [1] rfl rfl rfl (sq (z2.ret (AtX.then_ret (AtX.ret' (eqv (Value.slice none 0 0)) (z0k.one Try.results14 rfl) [0] [(row 43 eRef 2 ([] : List Ref) (Value.slice none 0 0))] (ol rfl) rfl ?_)))))))))
  obtain rfl := Option.some.inj h
  exact ⟨(Value.slice none 0 0), rfl, rfl⟩
 ·
  refine z2.skip (al [1, 2] [0] rfl rfl rfl (sq (cs (cr [0, 1] rfl (n1 rfl (zhr (eK := (Value.int .i64)) (eV := Value.bool) fun b6 => q1 rfl (z1 (mv rfl)) (rn (al [1, 2, 5] [0, 1] rfl rfl rfl (sq (cs (cs ?_)))))))))))
  refine cr [0, 1, 2, 3, 4] rfl (q1 rfl (ln (tl36 H) ((Pt.box 0 (mv rfl) rfl rfl).take 9 (cs' := (z2k v1)) rfl) rfl) (q1 rfl (z0 (mv rfl)) (z0c h fun y7 ey7 h => n1 rfl (oF (zod H) (z9z H φ v1 v2 _ ey7) ⟨ef (mv rfl), ef (mv rfl), trivial⟩ fun x10 nw11 hk9 => ?_))))
  obtain ⟨sv8, rfl, rfl⟩ := hk9
  refine ⟨z7, z5u ⟨z56 zok, trivial⟩, ?_⟩
  refine q1 rfl (z8e 2 (il87 H) (mv rfl) rfl) (q1 rfl (z0 ct) (rn (al [1, 2, 5, 17, 18, 19] [0, 1, 2] rfl rfl rfl (sq ?_))))
  refine z2.join (fun z : (List (Int × Bool)) => (z3y φ v1 v2) z) r (fun z => ⟨zh.of [(1, (ro zd 21 v2)), (2, (eqv (.pointer (some ⟨b3, 0, none⟩)))), (5, (eqv (.map (some b6))))], [(box b3 36 (z2k v1)), (mapo b6 (Value.int .i64) Value.bool z)]⟩) (fun v12 h => ?_) (fun hJ13 => ?_)
  ·
   replace h : (z3y φ v1 v2) v12 = some r := h
   unfold z3y at h
   refine al [1, 2, 5] [0, 1] rfl rfl rfl (sq (cs (z2.addNil 43 eRef 2 (cr [0] rfl (q1 rfl (z1 ct) (rn (al [1, 2, 5, 8] [0, 1, 2] rfl rfl rfl (sq (cs (cs (z0c h fun y15 ey15 h => ?_)))))))))))
   refine z2.draw (QR := [(0, _), (1, _), (3, _), (4, _), (9, _)]) (tab := [(some 30, []), (some 31, []), (some 32, [0, 1]), (some 33, []), (some 34, []), (some 35, [3, 4, 2]), (some 36, [2, 5]), (some 37, [6, 5]), (some 38, [7]), (some 39, [])]) (z5e H) (Reg.intro [2] [] (by kernel_rfl) rfl (an rfl) ⟨(qr rfl (ln (tl36 H) ((Pt.box 0 (mv rfl) rfl rfl).take 9 (cs' := (z2k v1)) rfl) rfl)), (qr rfl (z0 (mv rfl))), (qr rfl (ln (tl36 H) ((Pt.box 0 (mv rfl) rfl rfl).take 9 (cs' := (z2k v1)) rfl) rfl)), (qr rfl (z0 (mv rfl))), (qr rfl (z0 ct)), trivial⟩ ⟨⟨_, rfl, rfl, rfl, rfl, oF (zjx H) (z8o H φ v1 v2 3 _ ey15) ⟨ef (mv rfl), ef (mv rfl), ef ct, trivial⟩ fun x18 nw19 hk17 => ?_⟩, trivial⟩ ft)
   obtain ⟨sv16, rfl, rfl⟩ := hk17
   refine ⟨z7, z5u ⟨z56 z4p, trivial⟩, ⟨[], rfl, ?_⟩⟩
   refine z0c h fun y21 ey21 h => Reg.intro [5] [0, 1] (by kernel_rfl) rfl (an rfl) ⟨nf, nf, (qr rfl (ln (tl36 H) ((Pt.box 0 (mv rfl) rfl rfl).take 9 (cs' := (z2k v1)) rfl) rfl)), (qr rfl (z0 (mv rfl))), (qr rfl (z0 ct)), trivial⟩ ⟨⟨_, rfl, rfl, rfl, rfl, oF (zjx H) (z8o H φ v1 v2 4 _ ey21) ⟨ef (mv rfl), ef (mv rfl), ef ct, trivial⟩ fun x24 nw25 hk23 => ?_⟩, trivial⟩ ft
   obtain ⟨sv22, rfl, rfl⟩ := hk23
   refine ⟨z7, z5u ⟨z56 z4p, trivial⟩, ⟨[], rfl, ?_⟩⟩
   refine Reg.freeze 3 [(32, (ro eI64 1 y15))] [(box b3 36 (z2k v1)), (mapo b6 (Value.int .i64) Value.bool v12), (row 43 eRef 2 ([] : List Ref) (Value.slice none 0 0)), emp, (row 3 eI64 1 y21 sv22)] rfl lI64 ⟨⟨_, rfl, FzV.here⟩, trivial⟩ ⟨FzH.refl, FzH.refl, FzH.refl, FzH.emp, FzH.refl, trivial⟩ (Reg.freeze 4 [(35, (ro eI64 1 y21))] [(box b3 36 (z2k v1)), (mapo b6 (Value.int .i64) Value.bool v12), (row 43 eRef 2 ([] : List Ref) (Value.slice none 0 0)), emp, emp] rfl lI64 ⟨⟨_, rfl, FzV.here⟩, trivial⟩ ⟨FzH.refl, FzH.refl, FzH.refl, FzH.refl, FzH.emp, trivial⟩ (Reg.intro [6] [0, 1, 3, 4] (by kernel_rfl) rfl (an rfl) ⟨nf, nf, nf, nf, (qr rfl (z0 ct)), trivial⟩ ⟨⟨_, rfl, rfl, rfl, rfl, z1d (e := zbm) [y15, y21] (zuz H) zkz rfl (by decide) ⟨rfl, (Ce.one (mv rfl) One.ro), ⟨rfl, (Ce.one (mv rfl) One.ro), trivial⟩⟩ fun sv28 => ⟨[], rfl, ?_⟩⟩, trivial⟩ ft))
   refine z0c h fun y30 ey30 h => Reg.intro [7] [0, 1, 3, 4] (by kernel_rfl) rfl (an rfl) ⟨nf, nf, nf, nf, (qr rfl (z0 ct)), trivial⟩ ⟨⟨_, rfl, rfl, rfl, rfl, oF (zrm H) (ze1 H φ [y15, y21] _ ey30) ⟨EvF.of (mv rfl) (FEnt.row 5 zkz rfl), trivial⟩ fun x33 nw34 hk32 => ?_⟩, trivial⟩ ft
   obtain ⟨sv31, rfl, rfl⟩ := hk32
   refine ⟨z7, z5u ⟨z56 z4p, trivial⟩, ⟨[(8, (iv .i64 (y30.length : Int)))], rfl, ?_⟩⟩
   refine Reg.intro [] [0, 1, 3, 4] (by kernel_rfl) rfl (an rfl) ⟨nf, nf, nf, nf, (qr rfl (z0 ct)), (qr rfl (z8e 6 (il96 H) (mv rfl) rfl)), trivial⟩ trivial (fun _ => al [1, 5, 8, 37, 38, 39] [1, 2, 6] rfl rfl rfl (sq ?_))
   refine z2.join (fun z : (List Ref) × Value => (z2i φ) z.1) r (fun z => ⟨zh.of [(8, (eqv z.2))], [(row 43 eRef 2 z.1 z.2)]⟩) (fun z h => ?_) (fun hJ37 => ?_)
   ·
    obtain ⟨v35, sv36⟩ := z
    replace h : (z2i φ) v35 = some r := h
    unfold z2i at h
    refine al [8] [0] rfl rfl rfl (sq (cs (cr [0, 1] rfl (q1 rfl (z0 (mv rfl)) (z0c h fun y38 ey38 h => n1 rfl (z3d 0 rfl (fun x => (fRef x).mem) (zsu H) (args := [(eqv sv36), (fcmp P (fun x => (agg (eRef x))) (fun a b => z40 φ a b))]) ⟨(mv rfl), (Ev.ent (Ev.ent (Ev.func _) zl1) (zbn (zjj H) (fun a b cc hc => z7h H φ a b cc hc))), trivial⟩ (z8y H φ v35 (fun a b => z40 φ a b) sv36 _ ey38) fun x39 nw40 hk41 => ?_))))))
    obtain ⟨rfl, rfl⟩ := hk41
    refine ⟨z7, ?_⟩
    refine rn (al [8] [0] rfl rfl rfl (sq (cs (cr [0, 1] rfl (q1 rfl (z0 (mv rfl)) (q1 rfl (z1 (mv rfl)) (rn (al [4] [0] rfl rfl rfl (sq (z2.ret (AtX.ret' (eqv sv36) (z0k.one Try.results14 rfl) [0] [(row 43 eRef 2 y38 sv36)] (ol rfl) rfl ?_)))))))))))
    obtain rfl := Option.some.inj h
    exact ⟨sv36, rfl, rfl⟩
   ·
    refine z2.block ?_
    refine z2.to (z2.loop (fun n (z : Int × (List Ref) × Value) => z2j φ v2 v12 y30 (z2i φ) n z.1 z.2.1) r (fun z => ⟨zh.of [(1, (ro zd 21 v2)), (5, (eqv (.map (some b6)))), (8, (eqv z.2.2)), (37, (eqv sv31)), (38, (iv .i64 (y30.length : Int))), (39, (iv .i64 z.1))], [(mapo b6 (Value.int .i64) Value.bool v12), (row 43 eRef 2 z.2.1 z.2.2), (row 3 eI64 1 y30 sv31)]⟩) (fun z => rfl) (fun n45 z ih45 h => ?_) φ (0, ([] : List Ref), (Value.slice none 0 0)) h) [0, 1, 2] (sl rfl) (ol rfl) rfl
    obtain ⟨v42, v43, sv44⟩ := z
    replace h : z2j φ v2 v12 y30 (z2i φ) (n45 + 1) v42 v43 = some r := h
    rw [z2j] at h
    refine cs (cr [0] rfl (q1 rfl (z1l (mv rfl) (mv rfl)) (rn (al [1, 5, 8, 37, 38, 39, 40] [0, 1, 2] rfl rfl rfl (sq (cs ?_))))))
    refine cI h rfl (fun c46 h => ?_) (fun c46 h => ?_)
    ·
     refine z2.skip (al [1, 5, 8, 37, 38, 39] [0, 1, 2] rfl rfl rfl (sq (cs (z2.block (cs (cr [0, 1, 2] rfl (ckE h fun h47 h => q1 rfl (zi 2 (ix96 H) (mv rfl) rfl (mv rfl) (h47).1 (h47).2) (q1 rfl (z1n (tl3 H) ((Pt.row _ 2 (k := (v42 : Int).toNat) (fo := 0) lI64 (mv rfl) rfl (by omega) (z9 h47) rfl).take 1 (cs' := [(iv .i64 (gt y30 v42))]) rfl)) (q1 rfl (z1 (mv rfl)) (rn ?_))))))))))
     refine al [1, 5, 8, 10, 37, 38, 39] [0, 1, 2] rfl rfl rfl (sq (cs (cr [0, 1, 2, 3] rfl (q1 rfl (z0 (mv rfl)) (q1 rfl (z0 (mv rfl)) (q1 rfl (zk1 (eK := (Value.int .i64)) (eV := Value.bool) (d := false) 0 (keyI (un3 H)) (um95 H) (tz4 H) rfl (mv rfl) (mv rfl)) (q1 rfl (z8u (mv rfl)) (rn (al [1, 5, 8, 10, 37, 38, 39, 46] [0, 1, 2] rfl rfl rfl (sq ?_))))))))))
     refine z2.join (fun z : (List Ref) × Value => (z4r φ v42 (z2j φ v2 v12 y30 (z2i φ) n45)) z.1) r (fun z => ⟨zh.of [(1, (ro zd 21 v2)), (5, (eqv (.map (some b6)))), (8, (eqv z.2)), (37, (eqv sv31)), (38, (iv .i64 (y30.length : Int))), (39, (iv .i64 v42))], [(mapo b6 (Value.int .i64) Value.bool v12), (row 43 eRef 2 z.1 z.2), (row 3 eI64 1 y30 sv31)]⟩) (fun z h => ?_) (fun hJ50 => ?_)
     ·
      obtain ⟨v48, sv49⟩ := z
      replace h : (z4r φ v42 (z2j φ v2 v12 y30 (z2i φ) n45)) v48 = some r := h
      unfold z4r at h
      refine AtX.in_normal (al [1, 5, 8, 37, 38, 39] [0, 1, 2] rfl rfl rfl (sq (cr [0, 1] rfl (q1 rfl (z0u (mv rfl) ct) (q1 rfl (z0 (mv rfl)) (rn ?_))))))
      exact AtX.to (ih45 ((W (v42 + 1)), v48, sv49) h) [0, 1, 2] (sl rfl) (ol rfl) rfl
     ·
      refine cI h rfl (fun c51 h => ?_) (fun c51 h => ?_)
      ·
       refine cr [0, 1, 2, 3, 4, 5, 6, 7, 8] rfl (q1 rfl (z0 (mv rfl)) (q1 rfl (z0 (mv rfl)) (q1 rfl (z0 (mv rfl)) (ckE h fun h52 h => q1 rfl (z0e (ix37 H) (mv rfl) (mv rfl) (h52).1 (z9 h52)) (q1 rfl (z43 (z9t H) (mv rfl) (cs' := (eRef (gt v2 (gt y30 v42)).fRef)) 2 rfl) (q1 rfl (ln (tl43 H) (Pt.rop (mv rfl)) rfl) (n1 rfl (z1d (e := eRef) [(gt v2 (gt y30 v42)).fRef] (sl55 H) lRef rfl (by decide) ⟨rfl, (Ce.agg (mv rfl)), trivial⟩ fun sv53 => ckE h fun h54 h => n1 rfl (z9p 1 (l := v43) (m := [(gt v2 (gt y30 v42)).fRef]) (sl55 H) lRef (mv rfl) rfl (Src.row 3 (mv rfl) rfl) h54 (z99 (by decide) h54) fun sv55 => q1 rfl (z1 (mv rfl)) ?_)))))))))
       refine rn ?_
       exact AtX.to (hJ50 ((v43 ++ [(gt v2 (gt y30 v42)).fRef]), sv55) h) [0, 1, 2] (sl rfl) (ol rfl) rfl
      ·
       refine z2.skip ?_
       exact AtX.to (hJ50 (v43, sv44) h) [0, 1, 2] (sl rfl) (ol rfl) rfl
    ·
     refine z2.exit (AtX.then_exit (AtX.then_exit (AtX.in_hit ?_)))
     exact AtX.to (hJ37 (v43, sv44) h) [1] (sl rfl) (ol rfl) rfl
  ·
   refine z2.block ?_
   refine z2.to (z2.loop (fun n (z : Int × (List (Int × Bool))) => z4q φ y7 (z3y φ v1 v2) n z.1 z.2) r (fun z => ⟨zh.of [(1, (ro zd 21 v2)), (2, (eqv (.pointer (some ⟨b3, 0, none⟩)))), (5, (eqv (.map (some b6)))), (17, (eqv sv8)), (18, (iv .i64 (y7.length : Int))), (19, (iv .i64 z.1))], [(box b3 36 (z2k v1)), (mapo b6 (Value.int .i64) Value.bool z.2), (row 89 z4x 2 y7 sv8)]⟩) (fun z => rfl) (fun n58 z ih58 h => ?_) φ (0, ([] : List (Int × Bool))) h) [0, 1, 2] (sl rfl) (ol rfl) rfl
   obtain ⟨v56, v57⟩ := z
   replace h : z4q φ y7 (z3y φ v1 v2) (n58 + 1) v56 v57 = some r := h
   rw [z4q] at h
   refine cs (cr [0] rfl (q1 rfl (z1l (mv rfl) (mv rfl)) (rn (al [1, 2, 5, 17, 18, 19, 20] [0, 1, 2] rfl rfl rfl (sq (cs ?_))))))
   refine cI h rfl (fun c59 h => ?_) (fun c59 h => ?_)
   ·
    refine z2.skip (al [1, 2, 5, 17, 18, 19] [0, 1, 2] rfl rfl rfl (sq ?_))
    refine z2.seq ?_
    refine z2.block ?_
    refine z2.seq ?_
    refine z2.region' [0, 1, 2, 3] rfl ?_
    refine ckE h fun h60 h => zg.cons_q (rowp sv8 ((v56 : Int).toNat * 2)) rfl rfl rfl (zi 2 (ix87 H) (mv rfl) rfl (mv rfl) (h60).1 (h60).2) (zg.cons_q (agg (z4x (gt y7 v56))) rfl rfl rfl (zco (tl89 H) (by simp [zao lI64, z4x]) ((Pt.row _ 2 (k := (v56 : Int).toNat) (fo := 0) zjt (mv rfl) rfl (by omega) (z9 h60) rfl).take 2 (cs' := (z4x (gt y7 v56))) rfl)) (zg.cons rfl rfl rfl (zhd (e := eI64) 0 [.int .i64 0] (za89 H) rfl rfl fun b61 => zg.cons rfl rfl rfl (zai 3 (cells := ([] ++ arr 2 eI64 (fun _ => 0) ++ [])) (cs := (z4x (gt y7 v56))) (out := ([] ++ arr 2 eI64 (gt y7 v56) ++ [])) (tl89 H) (Ev.tmp rfl) (Ce.agg (Ev.tmp rfl)) rfl rfl (Nat.le_of_ble_eq_true rfl) rfl (zg.nil (AtX.le' [(1, (ro zd 21 v2)), (2, (eqv (.pointer (some ⟨b3, 0, none⟩)))), (5, (eqv (.map (some b6)))), (7, (eqv (.pointer (some ⟨b61, 0, none⟩)))), (17, (eqv sv8)), (18, (iv .i64 (y7.length : Int))), (19, (iv .i64 v56))] [0, 1, 2, 3] [(box b3 36 (z2k v1)), (mapo b6 (Value.int .i64) Value.bool v57), (row 89 z4x 2 y7 sv8), (box b61 89 ([] ++ arr 2 eI64 (gt y7 v56) ++ []))] ⟨⟨_, rfl, Ent.refl⟩, ⟨_, rfl, Ent.refl⟩, ⟨_, rfl, Ent.refl⟩, ⟨_, rfl, Ent.refl⟩, ⟨_, rfl, Ent.refl⟩, ⟨_, rfl, Ent.refl⟩, ⟨_, rfl, Ent.refl⟩, trivial⟩ ⟨⟨_, rfl, EntH.refl⟩, ⟨_, rfl, EntH.refl⟩, ⟨_, rfl, EntH.refl⟩, ⟨_, rfl, EntH.refl⟩, trivial⟩ rfl (AtX.seq (z2.draw (QR := [(0, (eqv (.map (some b6)))), (1, (eqv (.pointer (some ⟨b61, 0, none⟩)))), (2, (iv .i64 ((gt y7 v56) 0))), (3, (eqv (.map (some b6)))), (4, (eqv (.pointer (some ⟨b61, 1, none⟩)))), (5, (iv .i64 ((gt y7 v56) 1)))]) (tab := [(some 23, []), (some 24, []), (some 25, [1]), (some 26, []), (some 27, []), (some 28, [4]), (none, [0, 2, 0, 1, 2]), (none, [3, 5, 6, 0, 1, 2, 3, 4, 5, 6])]) (z5e H) (Reg.intro [6] [] (by kernel_rfl) rfl ⟨rfl, rfl, rfl, rfl, rfl, rfl, trivial⟩ ⟨(fun _ => ⟨_, rfl, (z0 (Ev.tmp rfl))⟩), (fun _ => ⟨_, rfl, (z5b (ix89 H) (Ev.tmp rfl) (Ev.const _) (by decide) (by decide))⟩), (fun _ => ⟨_, rfl, (z1n (tl3 H) (Pt.ofArr (e := eI64) 3 (k := 0) (Ev.tmp rfl) rfl lI64 rfl (by decide)))⟩), (fun _ => ⟨_, rfl, (z0 (Ev.tmp rfl))⟩), (fun _ => ⟨_, rfl, (z5b (ix89 H) (Ev.tmp rfl) (Ev.const _) (by decide) (by decide))⟩), (fun _ => ⟨_, rfl, (z1n (tl3 H) (Pt.ofArr (e := eI64) 3 (k := 1) (Ev.tmp rfl) rfl lI64 rfl (by decide)))⟩), trivial⟩ ⟨⟨_, rfl, rfl, rfl, rfl, zbk (eK := (Value.int .i64)) (eV := Value.bool) (v := true) 1 (keyI (un3 H)) (um95 H) rfl (Ev.tmp rfl) (Ev.tmp rfl) (Ev.const _) ⟨[], rfl, ?_⟩⟩, trivial⟩ (fun hc => Bool.noConfusion (hc : false = true)))))))))))
    refine Reg.intro [7] [0, 1, 2] (by kernel_rfl) rfl (an rfl) ⟨nf, nf, nf, (qr rfl (z0 (mv rfl))), (qr rfl (z5b (ix89 H) (mv rfl) ct (by decide) (by decide))), (qr rfl (z1n (tl3 H) (Pt.ofArr (e := eI64) 3 (k := 1) (mv rfl) rfl lI64 rfl (by decide)))), trivial⟩ ⟨⟨_, rfl, rfl, rfl, rfl, zbk (eK := (Value.int .i64)) (eV := Value.bool) (v := true) 1 (keyI (un3 H)) (um95 H) rfl (mv rfl) (mv rfl) ct ⟨[], rfl, ?_⟩⟩, trivial⟩ ft
    refine Reg.intro [] [0, 1, 2, 3, 4, 5] (by kernel_rfl) rfl (an rfl) ⟨nf, nf, nf, nf, nf, nf, trivial⟩ trivial (fun _ => AtX.in_normal (al [1, 2, 5, 17, 18, 19] [0, 1, 2] rfl rfl rfl (sq (cr [0, 1] rfl (q1 rfl (z0u (mv rfl) ct) (q1 rfl (z0 (mv rfl)) (rn ?_)))))))
    exact AtX.to (ih58 ((W (v56 + 1)), (mset (mset v57 ((gt y7 v56) 0) true) ((gt y7 v56) 1) true)) h) [0, 1, 2] (sl rfl) (ol rfl) rfl
   ·
    refine z2.exit (AtX.then_exit (AtX.then_exit (AtX.in_hit ?_)))
    exact AtX.to (hJ13 v57 h) [0, 1] (sl rfl) (ol rfl) rfl
theorem zdf {P : Program} (H : P = Try.prog) (φ : Nat) (v1 : (List Ref)) (v2 : (List Ref)) (r : (Bool)) (h : z9u φ v1 v2 = some r) : z1q P 17 [(ro eRef 2 v1), (ro eRef 2 v2)] (fun x news => x = (bv r) ∧ news = []) := by
 unfold z9u at h
 refine z1q.of_code' 26 (fn17 H) rfl rfl (Nat.le_of_ble_eq_true rfl) fun w0 base r0 wI => ?_
 refine cl [0, 1] [] rfl rfl rfl (cs (cr [0] rfl (q1 rfl (z1 ct) (rn (al [0, 1] [] rfl rfl rfl (sq (cs (cs (cr [0, 1, 2, 3, 4] rfl (q1 rfl (z0 (mv rfl)) (q1 rfl (z28 (il55 H) (mv rfl)) ?_)))))))))))
 refine q1 rfl (z0 (mv rfl)) (q1 rfl (z28 (il55 H) (mv rfl)) (q1 rfl (z7p (mv rfl) (mv rfl)) (rn (al [0, 1, 10] [] rfl rfl rfl (sq ?_)))))
 refine cI h rfl (fun c3 h => ?_) (fun c3 h => ?_)
 ·
  refine cs (cr [0] rfl (q1 rfl (z1 ct) (rn (al [4] [] rfl rfl rfl (sq (z2.ret (AtX.then_ret (AtX.ret' (bv false) (z0k.one Try.results17 rfl) [] [] trivial rfl ?_))))))))
  obtain rfl := Option.some.inj h
  exact ⟨rfl, rfl⟩
 ·
  refine z2.skip (al [0, 1] [] rfl rfl rfl (sq (cs (cs (cr [0] rfl (q1 rfl (z1 ct) (rn (al [0, 1, 5] [] rfl rfl rfl (sq ?_)))))))))
  refine z2.join (fun z : Unit => (z5f φ)) r (fun z => ⟨zh.of [], []⟩) (fun z h => ?_) (fun hJ4 => ?_)
  ·
   replace h : (z5f φ) = some r := h
   unfold z5f at h
   refine al [] [] rfl rfl rfl (sq (cs (cr [0] rfl (q1 rfl (z1 ct) (rn (al [4] [] rfl rfl rfl (sq (z2.ret (AtX.ret' (bv true) (z0k.one Try.results17 rfl) [] [] trivial rfl ?_)))))))))
   obtain rfl := Option.some.inj h
   exact ⟨rfl, rfl⟩
  ·
   refine z2.block ?_
   refine z2.to (z2.loop (fun n (z : Int) => z6m φ v1 v2 (z5f φ) n z) r (fun z => ⟨zh.of [(0, (ro eRef 2 v1)), (1, (ro eRef 2 v2)), (5, (iv .i64 z))], []⟩) (fun z => rfl) (fun n6 v5 ih6 h => ?_) φ 0 h) [] (sl rfl) trivial rfl
   replace h : z6m φ v1 v2 (z5f φ) (n6 + 1) v5 = some r := h
   rw [z6m] at h
   refine cs (cs (cr [0, 1, 2, 3] rfl (q1 rfl (z0 (mv rfl)) (q1 rfl (z0 (mv rfl)) (q1 rfl (z28 (il55 H) (mv rfl)) (q1 rfl (z1l (mv rfl) (mv rfl)) (rn (al [0, 1, 5, 14] [] rfl rfl rfl (sq ?_)))))))))
   refine cI h rfl (fun c7 h => ?_) (fun c7 h => ?_)
   ·
    refine z2.skip (al [0, 1, 5] [] rfl rfl rfl (sq (cs (z2.block (cs (ckE h fun h8 h => ckE h fun h9 h => z2.draw (QR := [(0, _), (1, _), (2, _), (3, _), (4, _), (5, _), (6, _), (7, _), (8, _)]) (tab := [(some 17, []), (some 18, []), (some 19, [0, 1]), (some 20, [2]), (some 21, []), (some 22, []), (some 23, [4, 5]), (some 24, [6]), (some 25, [3, 7])]) (z5e H) (Reg.intro [] [] (by kernel_rfl) rfl (an rfl) ⟨(qr rfl (z0 (mv rfl))), (qr rfl (z0 (mv rfl))), (qr rfl (z0e (ix55 H) (mv rfl) (mv rfl) (h8).1 (z9 h8))), (qr rfl (ln (tl43 H) (Pt.rop (mv rfl)) rfl)), (qr rfl (z0 (mv rfl))), (qr rfl (z0 (mv rfl))), (qr rfl (z0e (ix55 H) (mv rfl) (mv rfl) (h9).1 (z9 h9))), (qr rfl (ln (tl43 H) (Pt.rop (mv rfl)) rfl)), (qr rfl (zpu [(.int .i64 ((gt v1 v5).fRailway)), (.int .i64 ((gt v1 v5).fNo))] [(.int .i64 ((gt v2 v5).fRailway)), (.int .i64 ((gt v2 v5).fNo))] (mv rfl) (mv rfl) rfl rfl (eg43 H) (fun w => zol H w (gt v1 v5) (gt v2 v5)))), trivial⟩ trivial (fun _ => al [0, 1, 5, 25] [] rfl rfl rfl (sq ?_)))))))))
    refine cI h rfl (fun c10 h => ?_) (fun c10 h => ?_)
    ·
     refine cs (cr [0] rfl (q1 rfl (z1 ct) (rn (al [4] [] rfl rfl rfl (sq (z2.ret (AtX.in_ret (AtX.then_ret (AtX.then_ret (AtX.in_ret (AtX.then_ret ?_)))))))))))
     refine AtX.ret' (bv false) (z0k.one Try.results17 rfl) [] [] trivial rfl ?_
     obtain rfl := Option.some.inj h
     exact ⟨rfl, rfl⟩
    ·
     refine z2.skip (AtX.in_normal (al [0, 1, 5] [] rfl rfl rfl (sq (cr [0, 1, 2] rfl (q1 rfl (z0 (mv rfl)) (q1 rfl (z0u (mv rfl) ct) (q1 rfl (z1 (mv rfl)) (rn ?_))))))))
     exact AtX.to (ih6 (W (v5 + 1)) h) [] (sl rfl) trivial rfl
   ·
    refine z2.exit (AtX.then_exit (AtX.then_exit (AtX.in_hit ?_)))
    exact AtX.to (hJ4 () h) [] trivial trivial rfl
theorem zh3 {P : Program} (H : P = Try.prog) (φ : Nat)  (r : (Bool)) (h : zb4 φ  = some r) : z1q P 9 [] (fun x news => x = (bv r) ∧ news = []) := by
 unfold zb4 at h
 refine z1q.of_code' 136 (fn9 H) rfl rfl (Nat.le_of_ble_eq_true rfl) fun w0 base r0 wI => ?_
 refine cl [] [] rfl rfl rfl (cs (cr [0] rfl (q1 rfl (z1 ct) (rn (al [] [] rfl rfl rfl (sq (cs (cr [0, 1, 2] rfl (z0c h fun y1 ey1 h => n1 rfl (oP (zto H) (ze4 H φ  _ ey1) trivial fun x3 nw4 hk2 => ?_))))))))))
 obtain ⟨rfl, rfl⟩ := hk2
 refine n1 rfl (z3p _ (ze36 H) rfl fun b5 => n1 rfl (sto 0 (tl36 H) (mv rfl) (Ce.agg (mv rfl)) rfl rfl rfl rfl (rn (al [1] [0] rfl rfl rfl (sq (cs (cr [0, 1, 2, 3] rfl (z0c h fun y6 ey6 h => n1 rfl (oP (zk2 H) (z7s H φ 1 100 1 _ ey6) ⟨ct, ct, ct, trivial⟩ fun x8 nw9 hk7 => ?_)))))))))
 obtain ⟨rfl, rfl⟩ := hk7
 refine z0c h fun y10 ey10 h => n1 rfl (oP (zjc H) (z7t H φ 1 111 3 _ ey10) ⟨ct, ct, ct, trivial⟩ fun x12 nw13 hk11 => ?_)
 obtain ⟨rfl, rfl⟩ := hk11
 refine n1 rfl (z1d (e := zd) [y6, y10] (sl37 H) z81 rfl (by decide) ⟨rfl, (Ce.agg (mv rfl)), ⟨rfl, (Ce.agg (mv rfl)), trivial⟩⟩ fun sv14 => q1 rfl (z1 (mv rfl)) (rn (al [1, 2] [0, 1] rfl rfl rfl (sq (cs (cr [0, 1, 2, 3] rfl (z0c h fun y15 ey15 h => n1 rfl (oP (zk2 H) (z7s H φ 1 100 1 _ ey15) ⟨ct, ct, ct, trivial⟩ fun x17 nw18 hk16 => ?_))))))))
 obtain ⟨rfl, rfl⟩ := hk16
 refine z0c h fun y19 ey19 h => n1 rfl (oP (zjc H) (z7t H φ 1 161 3 _ ey19) ⟨ct, ct, ct, trivial⟩ fun x21 nw22 hk20 => ?_)
 obtain ⟨rfl, rfl⟩ := hk20
 refine n1 rfl (z1d (e := zd) [y15, y19] (sl37 H) z81 rfl (by decide) ⟨rfl, (Ce.agg (mv rfl)), ⟨rfl, (Ce.agg (mv rfl)), trivial⟩⟩ fun sv23 => q1 rfl (z1 (mv rfl)) (rn (al [1, 2, 3] [0, 1, 2] rfl rfl rfl (sq (cs (cr [0, 1, 2, 3, 4, 5] rfl (z0c h fun y24 ey24 h => n1 rfl (oP (zk2 H) (z7s H φ 1 100 0 _ ey24) ⟨ct, ct, ct, trivial⟩ fun x26 nw27 hk25 => ?_))))))))
 obtain ⟨rfl, rfl⟩ := hk25
 refine z0c h fun y28 ey28 h => n1 rfl (oP (zk2 H) (z7s H φ 2 120 0 _ ey28) ⟨ct, ct, ct, trivial⟩ fun x30 nw31 hk29 => ?_)
 obtain ⟨rfl, rfl⟩ := hk29
 refine z0c h fun y32 ey32 h => n1 rfl (oP (zjc H) (z7t H φ 1 119 0 _ ey32) ⟨ct, ct, ct, trivial⟩ fun x34 nw35 hk33 => ?_)
 obtain ⟨rfl, rfl⟩ := hk33
 refine z0c h fun y36 ey36 h => n1 rfl (oP (zjc H) (z7t H φ 2 130 0 _ ey36) ⟨ct, ct, ct, trivial⟩ fun x38 nw39 hk37 => ?_)
 obtain ⟨rfl, rfl⟩ := hk37
 refine n1 rfl (z1d (e := zd) [y24, y28, y32, y36] (sl37 H) z81 rfl (by decide) ⟨rfl, (Ce.agg (mv rfl)), ⟨rfl, (Ce.agg (mv rfl)), ⟨rfl, (Ce.agg (mv rfl)), ⟨rfl, (Ce.agg (mv rfl)), trivial⟩⟩⟩⟩ fun sv40 => q1 rfl (z1 (mv rfl)) (rn (al [1, 2, 3, 4] [0, 1, 2, 3] rfl rfl rfl (sq (cs (cr [0, 1, 2, 3] rfl (q1 rfl (ln (tl36 H) ((Pt.box 0 (mv rfl) rfl rfl).take 9 (cs' := (z2k y1)) rfl) rfl) (q1 rfl (z0 (mv rfl)) (z0c h fun y41 ey41 h => n1 rfl (oF (zk0 H) (z7g H φ y1 [y6, y10] _ ey41) ⟨ef (mv rfl), EvF.of (mv rfl) (FEnt.row 1 z81 rfl), trivial⟩ fun x44 nw45 hk43 => ?_))))))))))
 obtain ⟨sv42, rfl, rfl⟩ := hk43
 refine ⟨z7, z5u ⟨z56 z59, trivial⟩, ?_⟩
 refine q1 rfl (z1 (mv rfl)) (rn (al [1, 2, 3, 4, 5] [0, 1, 2, 3, 4] rfl rfl rfl (sq (cs (cr [0, 1, 2, 3, 4, 5, 6, 7] rfl (q1 rfl (ln (tl36 H) ((Pt.box 0 (mv rfl) rfl rfl).take 9 (cs' := (z2k y1)) rfl) rfl) (q1 rfl (z0 (mv rfl)) (z0c h fun y46 ey46 h => n1 rfl (oF (zo9 H) (za8 H φ y1 [y6, y10] 0 500 _ ey46) ⟨ef (mv rfl), EvF.of (mv rfl) (FEnt.row 1 z81 rfl), ef ct, ef ct, trivial⟩ fun x49 nw50 hk48 => ?_)))))))))
 obtain ⟨sv47, rfl, rfl⟩ := hk48
 refine ⟨(z7r ⟨z7, z7, trivial⟩), z5u ⟨z56 zem, trivial⟩, ?_⟩
 refine q1 rfl (z0 (mv rfl)) (q1 rfl (z4i (mv rfl) rfl) (q1 rfl (z4i (mv rfl) rfl) (q1 rfl (z1 (mv rfl)) (q1 rfl (z1 (mv rfl)) (rn (al [1, 3, 4, 5, 6, 7] [0, 2, 3, 4, 5] rfl rfl rfl (sq (cs (cr [0, 1, 2, 3, 4, 5, 6, 7] rfl (q1 rfl (ln (tl36 H) ((Pt.box 0 (mv rfl) rfl rfl).take 9 (cs' := (z2k y1)) rfl) rfl) (q1 rfl (z0 (mv rfl)) ?_)))))))))))
 refine z0c h fun y51 ey51 h => n1 rfl (oF (zo9 H) (za8 H φ y1 [y15, y19] 0 500 _ ey51) ⟨ef (mv rfl), EvF.of (mv rfl) (FEnt.row 1 z81 rfl), ef ct, ef ct, trivial⟩ fun x54 nw55 hk53 => ?_)
 obtain ⟨sv52, rfl, rfl⟩ := hk53
 refine ⟨(z7r ⟨z7, z7, trivial⟩), z5u ⟨z56 zem, trivial⟩, ?_⟩
 refine q1 rfl (z0 (mv rfl)) (q1 rfl (z4i (mv rfl) rfl) (q1 rfl (z4i (mv rfl) rfl) (q1 rfl (z1 (mv rfl)) (q1 rfl (z1 (mv rfl)) (rn (al [1, 3, 4, 5, 6, 7, 8, 9] [0, 1, 2, 3, 4, 5] rfl rfl rfl (sq (cs (cr [0, 1, 2, 3, 4, 5, 6, 7] rfl (q1 rfl (ln (tl36 H) ((Pt.box 0 (mv rfl) rfl rfl).take 9 (cs' := (z2k y1)) rfl) rfl) (q1 rfl (z0 (mv rfl)) ?_)))))))))))
 refine z0c h fun y56 ey56 h => q1 rfl (oQ (zk4 H) (z8p H φ y1 [y24, y28, y32, y36] 0 108 _ ey56) (z7r ⟨z7, z7, trivial⟩) ⟨ef (mv rfl), EvF.of (mv rfl) (FEnt.row 2 z81 rfl), ef ct, ef ct, trivial⟩) (q1 rfl (z0 (mv rfl)) (q1 rfl (z4i (mv rfl) rfl) (q1 rfl (z4i (mv rfl) rfl) (q1 rfl (z1 (mv rfl)) (q1 rfl (z1 (mv rfl)) (rn (al [1, 3, 4, 5, 6, 7, 8, 9, 10, 11] [0, 1, 2, 3, 4, 5] rfl rfl rfl (sq (cs (cr [0, 1, 2, 3, 4, 5, 6, 7] rfl ?_))))))))))
 refine q1 rfl (ln (tl36 H) ((Pt.box 0 (mv rfl) rfl rfl).take 9 (cs' := (z2k y1)) rfl) rfl) (q1 rfl (z0 (mv rfl)) (z0c h fun y57 ey57 h => q1 rfl (oQ (zk4 H) (z8p H φ y1 [y24, y28, y32, y36] 0 109 _ ey57) (z7r ⟨z7, z7, trivial⟩) ⟨ef (mv rfl), EvF.of (mv rfl) (FEnt.row 2 z81 rfl), ef ct, ef ct, trivial⟩) (q1 rfl (z0 (mv rfl)) (q1 rfl (z4i (mv rfl) rfl) (q1 rfl (z4i (mv rfl) rfl) (q1 rfl (z1 (mv rfl)) (q1 rfl (z1 (mv rfl)) (rn (al [1, 3, 4, 5, 6, 7, 8, 9, 10, 11, 12, 13] [0, 1, 2, 3, 4, 5] rfl rfl rfl (sq ?_))))))))))
 refine cs (cr [0, 1, 2, 3] rfl (q1 rfl (ln (tl36 H) ((Pt.box 0 (mv rfl) rfl rfl).take 9 (cs' := (z2k y1)) rfl) rfl) (q1 rfl (z0 (mv rfl)) (z0c h fun y58 ey58 h => n1 rfl (oF (zk0 H) (z7g H φ y1 [y24, y28, y32, y36] _ ey58) ⟨ef (mv rfl), EvF.of (mv rfl) (FEnt.row 2 z81 rfl), trivial⟩ fun x61 nw62 hk60 => ?_)))))
 obtain ⟨sv59, rfl, rfl⟩ := hk60
 refine ⟨z7, z5u ⟨z56 z59, trivial⟩, ?_⟩
 refine q1 rfl (z1 (mv rfl)) (rn (al [1, 3, 5, 6, 7, 8, 9, 10, 11, 12, 13, 14] [0, 1, 3, 4, 5, 6] rfl rfl rfl (sq (cs (cs (cr [0, 1, 2, 3, 4, 5, 6, 7, 8, 9, 10, 11, 12, 13, 14, 15, 16, 17, 18, 19, 20, 21, 22, 23, 24, 25] rfl (q1 rfl (z0 (mv rfl)) (q1 rfl (z3q [.int .i64 0, .int .i64 0] [(1, [(iv .i64 1)])] (out := [(iv .i64 0), (iv .i64 1)]) (ze43 H) rfl (tb43 H) ⟨(zeq H), Nat.le_of_ble_eq_true rfl, (Ce.one ct (One.eqv rfl)), trivial⟩ rfl) (q1 rfl (z3q [.int .i64 0, .int .i64 0] [(0, [(iv .i64 1)]), (1, [(iv .i64 1)])] (out := [(iv .i64 1), (iv .i64 1)]) (ze43 H) rfl (tb43 H) ⟨(zjp H), Nat.le_of_ble_eq_true rfl, (Ce.one ct (One.eqv rfl)), ⟨(zeq H), Nat.le_of_ble_eq_true rfl, (Ce.one ct (One.eqv rfl)), trivial⟩⟩ rfl) (q1 rfl (z3q [.int .i64 0, .int .i64 0, .int .i64 0, .int .i64 0, .int .i64 0, .int .i64 0, .int .i64 0, .int .i64 0, .int .i64 0, .int .i64 0] [(1, [(iv .i64 2)]), (3, [(iv .i64 1)]), (4, [(iv .i64 105)]), (5, [(iv .i64 3)]), (6, [(iv .i64 0), (iv .i64 1)]), (8, [(iv .i64 1), (iv .i64 1)])] (out := [(iv .i64 0), (iv .i64 2), (iv .i64 0), (iv .i64 1), (iv .i64 105), (iv .i64 3), (iv .i64 0), (iv .i64 1), (iv .i64 1), (iv .i64 1)]) (ze70 H) rfl (tb70 H) ⟨(zp1 H), Nat.le_of_ble_eq_true rfl, (Ce.one ct (One.eqv rfl)), ⟨(zny H), Nat.le_of_ble_eq_true rfl, (Ce.one ct (One.eqv rfl)), ⟨(zo8 H), Nat.le_of_ble_eq_true rfl, (Ce.one ct (One.eqv rfl)), ⟨(zof H), Nat.le_of_ble_eq_true rfl, (Ce.one ct (One.eqv rfl)), ⟨(zow H), Nat.le_of_ble_eq_true rfl, (Ce.agg (mv rfl)), ⟨(zob H), Nat.le_of_ble_eq_true rfl, (Ce.agg (mv rfl)), trivial⟩⟩⟩⟩⟩⟩ rfl) (n1 rfl (z1d (e := z5) [(z3.mk 0 2 0 1 105 3 (Ref.mk 0 1) (Ref.mk 1 1))] (sl53 H) z1t rfl (by decide) ⟨rfl, (Ce.agg (mv rfl)), trivial⟩ fun sv63 => ?_))))))))))))
 refine z0c h fun y64 ey64 h => q1 rfl (oQ (zsy H) (zal H φ y41 [(z3.mk 0 2 0 1 105 3 (Ref.mk 0 1) (Ref.mk 1 1))] _ ey64) z7 ⟨EvF.of (mv rfl) (FEnt.row 2 z1t rfl), EvF.of (mv rfl) (FEnt.row 6 z1t rfl), trivial⟩) (q1 rfl (z8u (mv rfl)) (q1 rfl (z0 (mv rfl)) (g1 rfl rfl (fun g65 => z0 (mv rfl)) (g1 rfl rfl (fun g66 => z8e 5 (il53 H) (mc rfl g66) rfl) (g1 rfl rfl (fun g67 => z7p (mc rfl g67) ct) (q1 rfl (opOr (mv rfl) ct (fun g68 => (mc rfl g68))) (q1 rfl (z0 (mv rfl)) (g1 rfl rfl (fun g69 => z0 (mv rfl)) (ckE h fun h71 h => g1 rfl rfl (fun g70 => zi 5 (ix53 H) (mc rfl g70) rfl ct ((h71 g70)).1 ((h71 g70)).2) ?_)))))))))
 refine g1 rfl rfl (fun g72 => zab (zgl H) (mc rfl g72)) (g1 rfl rfl (fun g73 => z1n (tl3 H) ((Pt.row _ 5 (k := (0 : Int).toNat) (fo := 4) z1t (mc rfl g73) rfl (by omega) (z9 (h71 g73)) rfl).take 1 (cs' := [(iv .i64 ((gt y58 0).fAt))]) rfl)) (g1 rfl rfl (fun g74 => z7p (mc rfl g74) ct) (q1 rfl (opOr (mv rfl) ct (fun g75 => (mc rfl g75))) (q1 rfl (z0 (mv rfl)) (g1 rfl rfl (fun g76 => z0 (mv rfl)) (ckE h fun h78 h => g1 rfl rfl (fun g77 => zi 5 (ix53 H) (mc rfl g77) rfl ct ((h78 g77)).1 ((h78 g77)).2) (g1 rfl rfl (fun g79 => zab (zgl H) (mc rfl g79)) (g1 rfl rfl (fun g80 => z1n (tl3 H) ((Pt.row _ 5 (k := (1 : Int).toNat) (fo := 4) z1t (mc rfl g80) rfl (by omega) (z9 (h78 g80)) rfl).take 1 (cs' := [(iv .i64 ((gt y58 1).fAt))]) rfl)) (g1 rfl rfl (fun g81 => z7p (mc rfl g81) ct) (q1 rfl (opOr (mv rfl) ct (fun g82 => (mc rfl g82))) ?_))))))))))
 refine rn (al [1, 3, 6, 7, 8, 9, 10, 11, 12, 13, 82] [0, 1, 3, 4] rfl rfl rfl (sq ?_))
 refine cI h rfl (fun c83 h => ?_) (fun c83 h => ?_)
 ·
  refine cs (cr [0] rfl (q1 rfl (z1 ct) (rn (al [0] [] rfl rfl rfl (sq (z2.ret (AtX.then_ret (AtX.ret' (bv false) (z0k.one Try.results9 rfl) [] [] trivial rfl ?_))))))))
  obtain rfl := Option.some.inj h
  exact ⟨rfl, rfl⟩
 ·
  refine z2.skip (al [1, 3, 6, 7, 8, 9, 10, 11, 12, 13] [0, 1, 2, 3] rfl rfl rfl (sq (cs (cr [0, 1, 2, 3, 4, 5, 6, 7, 8, 9, 10, 11, 12, 13, 14, 15, 16, 17, 18, 19, 20, 21, 22, 23, 24, 25, 26, 27, 28, 29, 30, 31, 32, 33, 34, 35, 36, 37, 38, 39, 40, 41, 42, 43, 44, 45, 46, 47, 48, 49, 50, 51, 52, 53] rfl (q1 rfl (z0 (mv rfl)) (q1 rfl (z6h (mv rfl) ct) (q1 rfl (z0 (mv rfl)) (g1 rfl rfl (fun g84 => z0 (mv rfl)) (g1 rfl rfl (fun g85 => z3q [.int .i64 0, .int .i64 0] [(1, [(iv .i64 105)])] (out := [(iv .i64 0), (iv .i64 105)]) (ze62 H) rfl (tb62 H) ⟨(zou H), Nat.le_of_ble_eq_true rfl, (Ce.one ct (One.eqv rfl)), trivial⟩ rfl) (g1 rfl rfl (fun g86 => z3q [.int .i64 0, .int .i64 0, .int .i64 0, .int .i64 0, .int .i64 0] [(1, [(iv .i64 0), (iv .i64 105)])] (out := [(iv .i64 0), (iv .i64 0), (iv .i64 105), (iv .i64 0), (iv .i64 0)]) (ze64 H) rfl (tb64 H) ⟨(zlv H), Nat.le_of_ble_eq_true rfl, (Ce.agg (mc rfl g86)), trivial⟩ rfl) (g1 rfl rfl (fun g87 => z3q [.int .i64 0, .int .i64 0] [(0, [(iv .i64 105)]), (1, [(iv .i64 500)])] (out := [(iv .i64 105), (iv .i64 500)]) (ze62 H) rfl (tb62 H) ⟨(zop H), Nat.le_of_ble_eq_true rfl, (Ce.one ct (One.eqv rfl)), ⟨(zou H), Nat.le_of_ble_eq_true rfl, (Ce.one ct (One.eqv rfl)), trivial⟩⟩ rfl) ?_)))))))))))
  refine g1 rfl rfl (fun g88 => z3q [.int .i64 0, .int .i64 0] [(0, [(iv .i64 1)]), (1, [(iv .i64 1)])] (out := [(iv .i64 1), (iv .i64 1)]) (ze43 H) rfl (tb43 H) ⟨(zjp H), Nat.le_of_ble_eq_true rfl, (Ce.one ct (One.eqv rfl)), ⟨(zeq H), Nat.le_of_ble_eq_true rfl, (Ce.one ct (One.eqv rfl)), trivial⟩⟩ rfl) (g1 rfl rfl (fun g89 => z3q [.int .i64 0, .int .i64 0, .int .i64 0, .int .i64 0, .int .i64 0] [(0, [(iv .i64 1)]), (1, [(iv .i64 105), (iv .i64 500)]), (3, [(iv .i64 1), (iv .i64 1)])] (out := [(iv .i64 1), (iv .i64 105), (iv .i64 500), (iv .i64 1), (iv .i64 1)]) (ze64 H) rfl (tb64 H) ⟨(zm9 H), Nat.le_of_ble_eq_true rfl, (Ce.one ct (One.eqv rfl)), ⟨(zlv H), Nat.le_of_ble_eq_true rfl, (Ce.agg (mc rfl g89)), ⟨(zoj H), Nat.le_of_ble_eq_true rfl, (Ce.agg (mc rfl g89)), trivial⟩⟩⟩ rfl) (zg.cons_gnb (fun z => eqv z) (fun z => [row 64 z26 5 [(zj.mk 0 (Span.mk 0 105) (Ref.mk 0 0)), (zj.mk 1 (Span.mk 105 500) (Ref.mk 1 1))] z]) (y46.2 == 0) rfl rfl rfl rfl rfl (fun g90 => z1d (e := z26) [(zj.mk 0 (Span.mk 0 105) (Ref.mk 0 0)), (zj.mk 1 (Span.mk 105 500) (Ref.mk 1 1))] (sl49 H) z7f rfl (by decide) ⟨rfl, (Ce.agg (mc rfl g90)), ⟨rfl, (Ce.agg (mc rfl g90)), trivial⟩⟩ fun z => ⟨z, rfl, rfl⟩) fun sv91 => z0c h fun y93 ey93 h => g1 rfl rfl (fun g92 => oQ (ztf H) (zgz H φ y46.1 [(zj.mk 0 (Span.mk 0 105) (Ref.mk 0 0)), (zj.mk 1 (Span.mk 105 500) (Ref.mk 1 1))] _ (z27 ey93 g92)) z7 ⟨EvF.of (mc rfl g92) (FEnt.row 2 z7f rfl), EvF.of (mc rfl g92) (FEnt.row 4 z7f (zes rfl g92)), trivial⟩) (q1 rfl (z4c (mv rfl) (fun g94 => (mc rfl g94)) ct) (q1 rfl (z0 (mv rfl)) (g1 rfl rfl (fun g95 => z0 (mv rfl)) (g1 rfl rfl (fun g96 => z6h (mc rfl g96) ct) (q1 rfl (z4c (mv rfl) (fun g97 => (mc rfl g97)) ct) (q1 rfl (z0 (mv rfl)) (g1 rfl rfl (fun g98 => z0 (mv rfl)) ?_)))))))))
  refine g1 rfl rfl (fun g99 => z8e 3 (il49 H) (mc rfl g99) rfl) (g1 rfl rfl (fun g100 => z6h (mc rfl g100) ct) (q1 rfl (z4c (mv rfl) (fun g101 => (mc rfl g101)) ct) (q1 rfl (z0 (mv rfl)) (g1 rfl rfl (fun g102 => ln (tl36 H) ((Pt.box 0 (mv rfl) rfl rfl).take 9 (cs' := (z2k y1)) rfl) rfl) (g1 rfl rfl (fun g103 => z0 (mv rfl)) (z0c h fun y105 ey105 h => zg.cons_gnb (fun sv106 => (eqv sv106)) (fun sv106 => [row 70 z5 10 y105 sv106]) ((((y46.2 == 0) && y93) && (y51.2 == 0)) && ((y51.1.length : Int) == 1)) rfl rfl rfl rfl rfl (fun g104 => oF (zk0 H) (z7g H φ y1 [y15, y19] _ (z27 ey105 g104)) ⟨ef (mc rfl g104), EvF.of (mc rfl g104) (FEnt.row 1 z81 rfl), trivial⟩ fun x nw hk => by obtain ⟨sv0_sv106, rfl, rfl⟩ := hk; exact ⟨z7, z5u ⟨z56 z59, trivial⟩, ⟨sv0_sv106, rfl, rfl⟩⟩) fun sv106 => g1 rfl rfl (fun g107 => z8e 5 (il53 H) (mc rfl g107) (zes rfl g107)) (g1 rfl rfl (fun g108 => z6h (mc rfl g108) ct) (q1 rfl (z4c (mv rfl) (fun g109 => (mc rfl g109)) ct) (q1 rfl (z0 (mv rfl)) ?_)))))))))
  refine g1 rfl rfl (fun g110 => ln (tl36 H) ((Pt.box 0 (mv rfl) rfl rfl).take 9 (cs' := (z2k y1)) rfl) rfl) (g1 rfl rfl (fun g111 => z0 (mv rfl)) (z0c h fun y113 ey113 h => zg.cons_gnb (fun sv114 => (eqv sv114)) (fun sv114 => [row 43 eRef 2 y113 sv114]) (((((y46.2 == 0) && y93) && (y51.2 == 0)) && ((y51.1.length : Int) == 1)) && ((y105.length : Int) == 0)) rfl rfl rfl rfl rfl (fun g112 => oF (zs1 H) (zay H φ y1 [y15, y19] _ (z27 ey113 g112)) ⟨ef (mc rfl g112), EvF.of (mc rfl g112) (FEnt.row 1 z81 rfl), trivial⟩ fun x nw hk => by obtain ⟨sv0_sv114, rfl, rfl⟩ := hk; exact ⟨z7, z5u ⟨z56 fRef, trivial⟩, ⟨sv0_sv114, rfl, rfl⟩⟩) fun sv114 => g1 rfl rfl (fun g115 => z3q [.int .i64 0, .int .i64 0] [(1, [(iv .i64 1)])] (out := [(iv .i64 0), (iv .i64 1)]) (ze43 H) rfl (tb43 H) ⟨(zeq H), Nat.le_of_ble_eq_true rfl, (Ce.one ct (One.eqv rfl)), trivial⟩ rfl) (g1 rfl rfl (fun g116 => z3q [.int .i64 0, .int .i64 0] [(0, [(iv .i64 1)]), (1, [(iv .i64 1)])] (out := [(iv .i64 1), (iv .i64 1)]) (ze43 H) rfl (tb43 H) ⟨(zjp H), Nat.le_of_ble_eq_true rfl, (Ce.one ct (One.eqv rfl)), ⟨(zeq H), Nat.le_of_ble_eq_true rfl, (Ce.one ct (One.eqv rfl)), trivial⟩⟩ rfl) (zg.cons_gnb (fun z => eqv z) (fun z => [row 43 eRef 2 [(Ref.mk 0 1), (Ref.mk 1 1)] z]) (((((y46.2 == 0) && y93) && (y51.2 == 0)) && ((y51.1.length : Int) == 1)) && ((y105.length : Int) == 0)) rfl rfl rfl rfl rfl (fun g117 => z1d (e := eRef) [(Ref.mk 0 1), (Ref.mk 1 1)] (sl55 H) lRef rfl (by decide) ⟨rfl, (Ce.agg (mc rfl g117)), ⟨rfl, (Ce.agg (mc rfl g117)), trivial⟩⟩ fun z => ⟨z, rfl, rfl⟩) fun sv118 => z0c h fun y120 ey120 h => g1 rfl rfl (fun g119 => oQ (zrx H) (zdf H φ y113 [(Ref.mk 0 1), (Ref.mk 1 1)] _ (z27 ey120 g119)) z7 ⟨EvF.of (mc rfl g119) (FEnt.row 6 lRef (zes rfl g119)), EvF.of (mc rfl g119) (FEnt.row 7 lRef (zes rfl g119)), trivial⟩) (q1 rfl (z4c (mv rfl) (fun g121 => (mc rfl g121)) ct) (q1 rfl (z0 (mv rfl)) (g1 rfl rfl (fun g122 => z0 (mv rfl)) ?_)))))))
  refine g1 rfl rfl (fun g123 => z6h (mc rfl g123) ct) (q1 rfl (z4c (mv rfl) (fun g124 => (mc rfl g124)) ct) (q1 rfl (z0 (mv rfl)) (g1 rfl rfl (fun g125 => z0 (mv rfl)) (g1 rfl rfl (fun g126 => z6h (mc rfl g126) ct) (q1 rfl (z4c (mv rfl) (fun g127 => (mc rfl g127)) ct) (q1 rfl (z0 (mv rfl)) (g1 rfl rfl (fun g128 => z0 (mv rfl)) (g1 rfl rfl (fun g129 => z6h (mc rfl g129) ct) (q1 rfl (z4c (mv rfl) (fun g130 => (mc rfl g130)) ct) (q1 rfl (z0 (mv rfl)) (g1 rfl rfl (fun g131 => z0 (mv rfl)) ?_)))))))))))
  refine g1 rfl rfl (fun g132 => z6h (mc rfl g132) ct) (q1 rfl (z4c (mv rfl) (fun g133 => (mc rfl g133)) ct) (q1 rfl (z1 (mv rfl)) (rn (al [0] [] rfl rfl rfl (sq (z2.ret (AtX.ret' (bv ((((((((((y46.2 == 0) && y93) && (y51.2 == 0)) && ((y51.1.length : Int) == 1)) && ((y105.length : Int) == 0)) && y120) && (y56.2 == 0)) && (y56.1 == 0)) && (y57.2 == 0)) && (y57.1 == 1))) (z0k.one Try.results9 rfl) [] [] trivial rfl ?_)))))))
  obtain rfl := Option.some.inj h
  exact ⟨rfl, rfl⟩
theorem zc9 {P : Program} (H : P = Try.prog) (φ : Nat) (v1 : Pool) (r : (Bool)) (h : z79 φ v1 = some r) : z1q P 27 [(agg (z2k v1))] (fun x news => x = (bv r) ∧ news = []) := by
 unfold z79 at h
 refine z1q.of_code' 65 (fn27 H) rfl rfl (Nat.le_of_ble_eq_true rfl) fun w0 base r0 wI => ?_
 refine cl [0] [] rfl rfl rfl (cs (cr [0, 1] rfl (n1 rfl (z7u (Ce.agg (mv rfl)) fun b2 => q1 rfl (z1 ct) (rn (al [1] [0] rfl rfl rfl (sq (cs (cs (cr [0, 1, 2, 3, 4, 5, 6, 7, 8, 9, 10, 11, 12, 13, 14, 15, 16, 17, 18, 19, 20, 21, 22, 23, 24, 25, 26, 27, 28, 29, 30, 31, 32, 33, 34, 35, 36, 37, 38, 39, 40, 41, 42, 43, 44] rfl (q1 rfl (z4 (zbi H) (mv rfl)) ?_)))))))))))
 refine q1 rfl (z4 (zci H) (mv rfl)) (q1 rfl (lb (tl22 H) 0 (mv rfl) rfl rfl) (q1 rfl (z28 (il22 H) (mv rfl)) (q1 rfl (z5a (mv rfl) ct) (q1 rfl (z0 (mv rfl)) (g1 rfl rfl (fun g3 => z4 (zbi H) (mv rfl)) (g1 rfl rfl (fun g4 => z4 (zja H) (mc rfl g4)) (g1 rfl rfl (fun g5 => lb (tl23 H) 0 (mc rfl g5) rfl rfl) (g1 rfl rfl (fun g6 => z28 (il23 H) (mc rfl g6)) (g1 rfl rfl (fun g7 => z5a (mc rfl g7) ct) (q1 rfl (opOr (mv rfl) ct (fun g8 => (mc rfl g8))) (q1 rfl (z0 (mv rfl)) ?_)))))))))))
 refine g1 rfl rfl (fun g9 => z4 (zdx H) (mv rfl)) (g1 rfl rfl (fun g10 => z4 (zf5 H) (mc rfl g10)) (g1 rfl rfl (fun g11 => lb (tl27 H) 0 (mc rfl g11) rfl rfl) (g1 rfl rfl (fun g12 => z28 (il27 H) (mc rfl g12)) (g1 rfl rfl (fun g13 => z5a (mc rfl g13) ct) (q1 rfl (opOr (mv rfl) ct (fun g14 => (mc rfl g14))) (q1 rfl (z0 (mv rfl)) (g1 rfl rfl (fun g15 => z4 (zlq H) (mv rfl)) (g1 rfl rfl (fun g16 => lb (tl32 H) 0 (mc rfl g16) rfl rfl) (g1 rfl rfl (fun g17 => z28 (il32 H) (mc rfl g17)) (g1 rfl rfl (fun g18 => z5a (mc rfl g18) ct) (q1 rfl (opOr (mv rfl) ct (fun g19 => (mc rfl g19))) ?_)))))))))))
 refine q1 rfl (z0 (mv rfl)) (g1 rfl rfl (fun g20 => z4 (zdx H) (mv rfl)) (g1 rfl rfl (fun g21 => z4 (zm8 H) (mc rfl g21)) (g1 rfl rfl (fun g22 => lb (tl28 H) 0 (mc rfl g22) rfl rfl) (g1 rfl rfl (fun g23 => z28 (il28 H) (mc rfl g23)) (g1 rfl rfl (fun g24 => z5a (mc rfl g24) ct) (q1 rfl (opOr (mv rfl) ct (fun g25 => (mc rfl g25))) (q1 rfl (z0 (mv rfl)) (g1 rfl rfl (fun g26 => z4 (zdx H) (mv rfl)) (g1 rfl rfl (fun g27 => z4 (zkp H) (mc rfl g27)) (g1 rfl rfl (fun g28 => lb (tl29 H) 0 (mc rfl g28) rfl rfl) (g1 rfl rfl (fun g29 => z28 (il29 H) (mc rfl g29)) ?_)))))))))))
 refine g1 rfl rfl (fun g30 => z5a (mc rfl g30) ct) (q1 rfl (opOr (mv rfl) ct (fun g31 => (mc rfl g31))) (q1 rfl (z0 (mv rfl)) (g1 rfl rfl (fun g32 => z4 (zgc H) (mv rfl)) (g1 rfl rfl (fun g33 => lb (tl34 H) 0 (mc rfl g33) rfl rfl) (g1 rfl rfl (fun g34 => z28 (il34 H) (mc rfl g34)) (g1 rfl rfl (fun g35 => z5a (mc rfl g35) ct) (q1 rfl (opOr (mv rfl) ct (fun g36 => (mc rfl g36))) (rn (al [1, 48] [0] rfl rfl rfl (sq ?_))))))))))
 refine cI h rfl (fun c37 h => ?_) (fun c37 h => ?_)
 ·
  refine cs (cr [0] rfl (q1 rfl (z1 ct) (rn (al [2] [] rfl rfl rfl (sq (z2.ret (AtX.then_ret (AtX.ret' (bv false) (z0k.one Try.results27 rfl) [] [] trivial rfl ?_))))))))
  obtain rfl := Option.some.inj h
  exact ⟨rfl, rfl⟩
 ·
  refine z2.skip (al [1] [0] rfl rfl rfl (sq (cs (cs (cr [0] rfl (q1 rfl (z1 ct) (rn (al [1, 3] [0] rfl rfl rfl (sq ?_)))))))))
  refine z2.join (fun z : Unit => (z4a φ)) r (fun z => ⟨zh.of [], []⟩) (fun z h => ?_) (fun hJ38 => ?_)
  ·
   replace h : (z4a φ) = some r := h
   unfold z4a at h
   refine al [] [] rfl rfl rfl (sq (cs (cr [0] rfl (q1 rfl (z1 ct) (rn (al [2] [] rfl rfl rfl (sq (z2.ret (AtX.ret' (bv true) (z0k.one Try.results27 rfl) [] [] trivial rfl ?_)))))))))
   obtain rfl := Option.some.inj h
   exact ⟨rfl, rfl⟩
  ·
   refine z2.block ?_
   refine z2.to (z2.loop (fun n (z : Int) => z3k φ v1 (z4a φ) n z) r (fun z => ⟨zh.of [(1, (eqv (.pointer (some ⟨b2, 0, none⟩)))), (3, (iv .i64 z))], [(box b2 36 (z2k v1))]⟩) (fun z => rfl) (fun n40 v39 ih40 h => ?_) φ 0 h) [0] (sl rfl) (ol rfl) rfl
   replace h : z3k φ v1 (z4a φ) (n40 + 1) v39 = some r := h
   rw [z3k] at h
   refine cs (cs (cr [0, 1, 2, 3, 4] rfl (q1 rfl (z0 (mv rfl)) (q1 rfl (z4 (zgc H) (mv rfl)) (q1 rfl (lb (tl34 H) 0 (mv rfl) rfl rfl) (q1 rfl (z28 (il34 H) (mv rfl)) (q1 rfl (z1l (mv rfl) (mv rfl)) (rn (al [1, 3, 53] [0] rfl rfl rfl (sq ?_))))))))))
   refine cI h rfl (fun c41 h => ?_) (fun c41 h => ?_)
   ·
    refine z2.skip (al [1, 3] [0] rfl rfl rfl (sq (cs (z2.block (cs (cr [0, 1, 2, 3, 4, 5, 6, 7, 8] rfl (q1 rfl (z4 (zgc H) (mv rfl)) (q1 rfl (lb (tl34 H) 0 (mv rfl) rfl rfl) (q1 rfl (z0 (mv rfl)) (ckE h fun h42 h => q1 rfl (z0e (ix34 H) (mv rfl) (mv rfl) (h42).1 (z9 h42)) ?_))))))))))
    refine q1 rfl (z43 (zmf H) (mv rfl) (cs' := (z83 (gt v1.fRailways v39).fCalendar)) 15 rfl) (q1 rfl (z43 (zmn H) (mv rfl) (cs' := [(ro eI64 1 ((gt v1.fRailways v39).fCalendar.fHolidays))]) 1 rfl) (q1 rfl (lr (tl96 H) (mv rfl)) (q1 rfl (z28 (il96 H) (mv rfl)) (q1 rfl (z5a (mv rfl) ct) (rn (al [1, 3, 64] [0] rfl rfl rfl (sq ?_)))))))
    refine cI h rfl (fun c43 h => ?_) (fun c43 h => ?_)
    ·
     refine cs (cr [0] rfl (q1 rfl (z1 ct) (rn (al [2] [] rfl rfl rfl (sq (z2.ret (AtX.in_ret (AtX.then_ret (AtX.then_ret (AtX.in_ret (AtX.then_ret ?_)))))))))))
     refine AtX.ret' (bv false) (z0k.one Try.results27 rfl) [] [] trivial rfl ?_
     obtain rfl := Option.some.inj h
     exact ⟨rfl, rfl⟩
    ·
     refine z2.skip (AtX.in_normal (al [1, 3] [0] rfl rfl rfl (sq (cr [0, 1, 2] rfl (q1 rfl (z0 (mv rfl)) (q1 rfl (z0u (mv rfl) ct) (q1 rfl (z1 (mv rfl)) (rn ?_))))))))
     exact AtX.to (ih40 (W (v39 + 1)) h) [0] (sl rfl) (ol rfl) rfl
   ·
    refine z2.exit (AtX.then_exit (AtX.then_exit (AtX.in_hit ?_)))
    exact AtX.to (hJ38 () h) [] trivial trivial rfl
theorem zbv {P : Program} (H : P = Try.prog) (φ : Nat) (v1 : (List zf)) (v2 : Int) (r : (Bool)) (h : z61 φ v1 v2 = some r) : z1q P 28 [(ro zd 21 v1), (iv .i64 v2)] (fun x news => x = (bv r) ∧ news = []) := by
 unfold z61 at h
 refine z1q.of_code' 34 (fn28 H) rfl rfl (Nat.le_of_ble_eq_true rfl) fun w0 base r0 wI => ?_
 refine cl [0, 1] [] rfl rfl rfl (cs (cr [0] rfl (q1 rfl (z1 ct) (rn (al [0, 1] [] rfl rfl rfl (sq (cs (cs (cr [0, 1, 2, 3] rfl (q1 rfl (z0 (mv rfl)) (q1 rfl (z28 (il37 H) (mv rfl)) ?_)))))))))))
 refine q1 rfl (z0 (mv rfl)) (q1 rfl (z5a (mv rfl) (mv rfl)) (rn (al [0, 9] [] rfl rfl rfl (sq ?_))))
 refine cI h rfl (fun c3 h => ?_) (fun c3 h => ?_)
 ·
  refine cs (cr [0] rfl (q1 rfl (z1 ct) (rn (al [4] [] rfl rfl rfl (sq (z2.ret (AtX.then_ret (AtX.ret' (bv false) (z0k.one Try.results28 rfl) [] [] trivial rfl ?_))))))))
  obtain rfl := Option.some.inj h
  exact ⟨rfl, rfl⟩
 ·
  refine z2.skip (al [0] [] rfl rfl rfl (sq (cs (cs (cr [0] rfl (q1 rfl (z1 ct) (rn (al [0, 5] [] rfl rfl rfl (sq ?_)))))))))
  refine z2.join (fun z : Unit => (z4b φ)) r (fun z => ⟨zh.of [], []⟩) (fun z h => ?_) (fun hJ4 => ?_)
  ·
   replace h : (z4b φ) = some r := h
   unfold z4b at h
   refine al [] [] rfl rfl rfl (sq (cs (cr [0] rfl (q1 rfl (z1 ct) (rn (al [4] [] rfl rfl rfl (sq (z2.ret (AtX.ret' (bv true) (z0k.one Try.results28 rfl) [] [] trivial rfl ?_)))))))))
   obtain rfl := Option.some.inj h
   exact ⟨rfl, rfl⟩
  ·
   refine z2.block ?_
   refine z2.to (z2.loop (fun n (z : Int) => z3i φ v1 (z4b φ) n z) r (fun z => ⟨zh.of [(0, (ro zd 21 v1)), (5, (iv .i64 z))], []⟩) (fun z => rfl) (fun n6 v5 ih6 h => ?_) φ 0 h) [] (sl rfl) trivial rfl
   replace h : z3i φ v1 (z4b φ) (n6 + 1) v5 = some r := h
   rw [z3i] at h
   refine cs (cs (cr [0, 1, 2, 3] rfl (q1 rfl (z0 (mv rfl)) (q1 rfl (z0 (mv rfl)) (q1 rfl (z28 (il37 H) (mv rfl)) (q1 rfl (z1l (mv rfl) (mv rfl)) (rn (al [0, 5, 13] [] rfl rfl rfl (sq ?_)))))))))
   refine cI h rfl (fun c7 h => ?_) (fun c7 h => ?_)
   ·
    refine z2.skip (al [0, 5] [] rfl rfl rfl (sq (cs (z2.block (cs (cr [0, 1, 2, 3, 4, 5, 6, 7, 8, 9, 10, 11, 12, 13, 14, 15, 16, 17] rfl (q1 rfl (z0 (mv rfl)) (q1 rfl (z0 (mv rfl)) (ckE h fun h8 h => q1 rfl (z0e (ix37 H) (mv rfl) (mv rfl) (h8).1 (z9 h8)) (q1 rfl (z43 (z65 H) (mv rfl) (cs' := (zb2 (gt v1 v5).fItem)) 16 rfl) ?_))))))))))
    refine q1 rfl (z43 (zmv H) (mv rfl) (cs' := [(ro z9e 3 ((gt v1 v5).fItem.fParts))]) 1 rfl) (q1 rfl (lr (tl44 H) (mv rfl)) (q1 rfl (z28 (il44 H) (mv rfl)) (q1 rfl (z5a (mv rfl) ct) (q1 rfl (z0 (mv rfl)) (g1 rfl rfl (fun g9 => z0 (mv rfl)) (g1 rfl rfl (fun g10 => z0 (mv rfl)) (g1 rfl rfl (fun g11 => z0e (ix37 H) (mc rfl g11) (mc rfl g11) (h8).1 (z9 h8)) (g1 rfl rfl (fun g12 => z43 (z65 H) (mc rfl g12) (cs' := (zb2 (gt v1 v5).fItem)) 16 rfl) (g1 rfl rfl (fun g13 => z43 (zlx H) (mc rfl g13) (cs' := [(eqv (.string ((gt v1 v5).fItem.fText)))]) 1 rfl) (g1 rfl rfl (fun g14 => lr (tl9 H) (mc rfl g14)) (g1 rfl rfl (fun g15 => zsj (un9 H) (mc rfl g15)) ?_)))))))))))
    refine g1 rfl rfl (fun g16 => z5a (mc rfl g16) ct) (q1 rfl (opOr (mv rfl) ct (fun g17 => (mc rfl g17))) (rn (al [0, 5, 33] [] rfl rfl rfl (sq ?_))))
    refine cI h rfl (fun c18 h => ?_) (fun c18 h => ?_)
    ·
     refine cs (cr [0] rfl (q1 rfl (z1 ct) (rn (al [4] [] rfl rfl rfl (sq (z2.ret (AtX.in_ret (AtX.then_ret (AtX.then_ret (AtX.in_ret (AtX.then_ret ?_)))))))))))
     refine AtX.ret' (bv false) (z0k.one Try.results28 rfl) [] [] trivial rfl ?_
     obtain rfl := Option.some.inj h
     exact ⟨rfl, rfl⟩
    ·
     refine z2.skip (AtX.in_normal (al [0, 5] [] rfl rfl rfl (sq (cr [0, 1, 2] rfl (q1 rfl (z0 (mv rfl)) (q1 rfl (z0u (mv rfl) ct) (q1 rfl (z1 (mv rfl)) (rn ?_))))))))
     exact AtX.to (ih6 (W (v5 + 1)) h) [] (sl rfl) trivial rfl
   ·
    refine z2.exit (AtX.then_exit (AtX.then_exit (AtX.in_hit ?_)))
    exact AtX.to (hJ4 () h) [] trivial trivial rfl
theorem zhm {P : Program} (H : P = Try.prog) (φ : Nat) (v1 : Pool) (v2 : (List zf)) (r : (Bool)) (h : zat φ v1 v2 = some r) : z1q P 10 [(agg (z2k v1)), (ro zd 21 v2)] (fun x news => x = (bv r) ∧ news = []) := by
 unfold zat at h
 refine z1q.of_code' 11 (fn10 H) rfl rfl (Nat.le_of_ble_eq_true rfl) fun w0 base r0 wI => ?_
 refine cl [0, 1] [] rfl rfl rfl (cs (cr [0, 1] rfl (n1 rfl (z7u (Ce.agg (mv rfl)) fun b3 => q1 rfl (z1 ct) (rn (al [1, 2] [0] rfl rfl rfl (sq (cs (cr [0, 1, 2, 3, 4, 5, 6] rfl (q1 rfl (ln (tl36 H) ((Pt.box 0 (mv rfl) rfl rfl).take 9 (cs' := (z2k v1)) rfl) rfl) (z0c h fun y4 ey4 h => ?_)))))))))))
 refine q1 rfl (oQ (ztt H) (zc9 H φ v1 _ ey4) z7 ⟨ef (mv rfl), trivial⟩) (q1 rfl (z0 (mv rfl)) (g1 rfl rfl (fun g5 => z0 (mv rfl)) (z0c h fun y7 ey7 h => g1 rfl rfl (fun g6 => oQ (zti H) (zbv H φ v2 60 _ (z27 ey7 g6)) z7 ⟨ef (mc rfl g6), ef ct, trivial⟩) (q1 rfl (z4c (mv rfl) (fun g8 => (mc rfl g8)) ct) (q1 rfl (z1 (mv rfl)) (rn (al [4] [] rfl rfl rfl (sq (z2.ret (AtX.ret' (bv (y4 && y7)) (z0k.one Try.results10 rfl) [] [] trivial rfl ?_))))))))))
 obtain rfl := Option.some.inj h
 exact ⟨rfl, rfl⟩
end Px
end
section
set_option linter.unusedVariables false
set_option linter.unusedSimpArgs false
set_option maxHeartbeats 4000000
set_option maxRecDepth 100000
namespace Px
open Go Go.RowKit Go.Proofs
theorem zak {P : Program} (H : P = Try.prog) (φ : Nat) (v1 : Pool) (v2 : (List zf)) (v3 : Int) (v4 : Int) (r : (Bool)) (h : z6s φ v1 v2 v3 v4 = some r) : z1q P 8 [(agg (z2k v1)), (ro zd 21 v2), (iv .i64 v3), (iv .i64 v4)] (fun x news => x = (bv r) ∧ news = []) := by
 unfold z6s at h
 refine z1q.of_code' 81 (fn8 H) rfl rfl (Nat.le_of_ble_eq_true rfl) fun w0 base r0 wI => ?_
 refine cl [0, 1, 2, 3] [] rfl rfl rfl (cs (cr [0, 1] rfl (n1 rfl (z7u (Ce.agg (mv rfl)) fun b5 => q1 rfl (z1 ct) (rn (al [1, 2, 3, 4] [0] rfl rfl rfl (sq (cs (cs (cr [0, 1] rfl (z0c h fun y6 ey6 h => ?_)))))))))))
 refine q1 rfl (oQ (zu7 H) (zh3 H φ  _ ey6) z7 trivial) (q1 rfl (z8u (mv rfl)) (rn (al [1, 2, 3, 4, 16] [0] rfl rfl rfl (sq ?_))))
 refine cI h rfl (fun c7 h => ?_) (fun c7 h => ?_)
 ·
  refine cs (cr [0] rfl (q1 rfl (z1 ct) (rn (al [8] [] rfl rfl rfl (sq (z2.ret (AtX.then_ret (AtX.ret' (bv false) (z0k.one Try.results8 rfl) [] [] trivial rfl ?_))))))))
  obtain rfl := Option.some.inj h
  exact ⟨rfl, rfl⟩
 ·
  refine z2.skip (al [1, 2, 3, 4] [0] rfl rfl rfl (sq (cs (cs (cr [0, 1, 2, 3] rfl (q1 rfl (ln (tl36 H) ((Pt.box 0 (mv rfl) rfl rfl).take 9 (cs' := (z2k v1)) rfl) rfl) (q1 rfl (z0 (mv rfl)) (z0c h fun y8 ey8 h => q1 rfl (oQ (zry H) (zhm H φ v1 v2 _ ey8) z7 ⟨ef (mv rfl), ef (mv rfl), trivial⟩) (q1 rfl (z8u (mv rfl)) (rn ?_))))))))))
  refine al [1, 2, 3, 4, 20] [0] rfl rfl rfl (sq ?_)
  refine cI h rfl (fun c9 h => ?_) (fun c9 h => ?_)
  ·
   refine cs (cr [0] rfl (q1 rfl (z1 ct) (rn (al [8] [] rfl rfl rfl (sq (z2.ret (AtX.then_ret (AtX.ret' (bv true) (z0k.one Try.results8 rfl) [] [] trivial rfl ?_))))))))
   obtain rfl := Option.some.inj h
   exact ⟨rfl, rfl⟩
  ·
   refine z2.skip (al [1, 2, 3, 4] [0] rfl rfl rfl (sq (cs (z2.addNil 48 zd 21 (cr [0] rfl (q1 rfl (z1 ct) (rn (al [1, 2, 3, 4, 9] [0, 1] rfl rfl rfl (sq (cs (cs ?_)))))))))))
   refine cr [0] rfl (q1 rfl (z1 ct) (rn (al [1, 2, 3, 4, 9, 10] [0, 1] rfl rfl rfl (sq ?_))))
   refine z2.join (fun z : (List zf) × Value => (z1i φ v1 v2 v3 v4) z.1) r (fun z => ⟨zh.of [(1, (ro zd 21 v2)), (2, (iv .i64 v3)), (3, (iv .i64 v4)), (4, (eqv (.pointer (some ⟨b5, 0, none⟩)))), (9, (eqv z.2))], [(box b5 36 (z2k v1)), (row 48 zd 21 z.1 z.2)]⟩) (fun z h => ?_) (fun hJ12 => ?_)
   ·
    obtain ⟨v10, sv11⟩ := z
    replace h : (z1i φ v1 v2 v3 v4) v10 = some r := h
    unfold z1i at h
    refine al [1, 2, 3, 4, 9] [0, 1] rfl rfl rfl (sq (cs (cr [0, 1, 2, 3, 4, 5, 6, 7, 8, 9] rfl (q1 rfl (ln (tl36 H) ((Pt.box 0 (mv rfl) rfl rfl).take 9 (cs' := (z2k v1)) rfl) rfl) (q1 rfl (z0 (mv rfl)) (q1 rfl (z0 (mv rfl)) (q1 rfl (z0 (mv rfl)) (z0c h fun y13 ey13 h => q1 rfl (oQ (zk4 H) (z8p H φ v1 v2 v3 v4 _ ey13) (z7r ⟨z7, z7, trivial⟩) ⟨ef (mv rfl), ef (mv rfl), ef (mv rfl), ef (mv rfl), trivial⟩) (q1 rfl (z0 (mv rfl)) (q1 rfl (z4i (mv rfl) rfl) ?_))))))))))
    refine q1 rfl (z4i (mv rfl) rfl) (q1 rfl (z1 (mv rfl)) (q1 rfl (z1 (mv rfl)) (rn (al [2, 3, 4, 9, 11, 12] [0, 1] rfl rfl rfl (sq (cs (cr [0, 1, 2, 3, 4, 5, 6, 7, 8, 9] rfl (q1 rfl (ln (tl36 H) ((Pt.box 0 (mv rfl) rfl rfl).take 9 (cs' := (z2k v1)) rfl) rfl) (q1 rfl (z0 (mv rfl)) (q1 rfl (z0 (mv rfl)) (q1 rfl (z0 (mv rfl)) ?_)))))))))))
    refine z0c h fun y14 ey14 h => q1 rfl (oQ (zk4 H) (z8p H φ v1 v10 v3 v4 _ ey14) (z7r ⟨z7, z7, trivial⟩) ⟨ef (mv rfl), EvF.of (mv rfl) (FEnt.row 1 z81 rfl), ef (mv rfl), ef (mv rfl), trivial⟩) (q1 rfl (z0 (mv rfl)) (q1 rfl (z4i (mv rfl) rfl) (q1 rfl (z4i (mv rfl) rfl) (q1 rfl (z1 (mv rfl)) (q1 rfl (z1 (mv rfl)) (rn (al [11, 12, 13, 14] [] rfl rfl rfl (sq (cs (cr [0, 1, 2, 3, 4, 5, 6, 7, 8] rfl ?_))))))))))
    refine q1 rfl (z0 (mv rfl)) (q1 rfl (z0 (mv rfl)) (q1 rfl (z6h (mv rfl) (mv rfl)) (q1 rfl (z0 (mv rfl)) (g1 rfl rfl (fun g15 => z0 (mv rfl)) (g1 rfl rfl (fun g16 => z0 (mv rfl)) (g1 rfl rfl (fun g17 => z6h (mc rfl g17) (mc rfl g17)) (q1 rfl (z4c (mv rfl) (fun g18 => (mc rfl g18)) ct) (q1 rfl (z1 (mv rfl)) (rn (al [8] [] rfl rfl rfl (sq ?_)))))))))))
    refine z2.ret (AtX.ret' (bv ((y13.1 == y14.1) && (y13.2 == y14.2))) (z0k.one Try.results8 rfl) [] [] trivial rfl ?_)
    obtain rfl := Option.some.inj h
    exact ⟨rfl, rfl⟩
   ·
    refine z2.block ?_
    refine z2.to (z2.loop (fun n (z : Int × (List zf) × Value) => z13 φ v2 v3 v4 (z1i φ v1 v2 v3 v4) n z.1 z.2.1) r (fun z => ⟨zh.of [(1, (ro zd 21 v2)), (2, (iv .i64 v3)), (3, (iv .i64 v4)), (4, (eqv (.pointer (some ⟨b5, 0, none⟩)))), (9, (eqv z.2.2)), (10, (iv .i64 z.1))], [(box b5 36 (z2k v1)), (row 48 zd 21 z.2.1 z.2.2)]⟩) (fun z => rfl) (fun n22 z ih22 h => ?_) φ (0, ([] : List zf), (Value.slice none 0 0)) h) [0, 1] (sl rfl) (ol rfl) rfl
    obtain ⟨v19, v20, sv21⟩ := z
    replace h : z13 φ v2 v3 v4 (z1i φ v1 v2 v3 v4) (n22 + 1) v19 v20 = some r := h
    rw [z13] at h
    refine cs (cs (cr [0, 1, 2, 3] rfl (q1 rfl (z0 (mv rfl)) (q1 rfl (z0 (mv rfl)) (q1 rfl (z28 (il37 H) (mv rfl)) (q1 rfl (z1l (mv rfl) (mv rfl)) (rn (al [1, 2, 3, 4, 9, 10, 24] [0, 1] rfl rfl rfl (sq ?_)))))))))
    refine cI h rfl (fun c23 h => ?_) (fun c23 h => ?_)
    ·
     refine z2.skip (al [1, 2, 3, 4, 9, 10] [0, 1] rfl rfl rfl (sq (cs (z2.block (cs (cr [0, 1, 2, 3, 4, 5, 6, 7, 8, 9, 10, 11, 12, 13, 14, 15, 16, 17, 18, 19, 20, 21, 22] rfl (q1 rfl (z0 (mv rfl)) (q1 rfl (z0 (mv rfl)) (ckE h fun h24 h => q1 rfl (z0e (ix37 H) (mv rfl) (mv rfl) (h24).1 (z9 h24)) (q1 rfl (z43 (z65 H) (mv rfl) (cs' := (zb2 (gt v2 v19).fItem)) 16 rfl) ?_))))))))))
     refine q1 rfl (z43 (zg2 H) (mv rfl) (cs' := [(iv .i64 ((gt v2 v19).fItem.fWagon))]) 1 rfl) (q1 rfl (lr (tl3 H) (mv rfl)) (q1 rfl (z0 (mv rfl)) (q1 rfl (z6h (mv rfl) (mv rfl)) (q1 rfl (z0 (mv rfl)) (g1 rfl rfl (fun g25 => z0 (mv rfl)) (g1 rfl rfl (fun g26 => z5a (mc rfl g26) ct) (g1 rfl rfl (fun g27 => z0 (mc rfl g27)) (gc rfl rfl (fun g28 => (z0 (mv rfl))) (gc rfl rfl (fun g29 => (z0 (mv rfl))) (gc rfl rfl (fun g30 => (z0e (ix37 H) (mc rfl ⟨g30.1, g30.2⟩) (mc rfl ⟨g30.1, g30.2⟩) (h24).1 (z9 h24))) (gc rfl rfl (fun g31 => (z43 (z65 H) (mc rfl ⟨g31.1, g31.2⟩) (cs' := (zb2 (gt v2 v19).fItem)) 16 rfl)) ?_)))))))))))
     refine gc rfl rfl (fun g32 => (z43 (zaq H) (mc rfl ⟨g32.1, g32.2⟩) (cs' := [(iv .i64 ((gt v2 v19).fItem.fFrom))]) 1 rfl)) (gc rfl rfl (fun g33 => (lr (tl3 H) (mc rfl ⟨g33.1, g33.2⟩))) (gc rfl rfl (fun g34 => (z0 (mv rfl))) (gc rfl rfl (fun g35 => (z0u (mc rfl ⟨g35.1, g35.2⟩) ct)) (gc rfl rfl (fun g36 => (zae (mc rfl ⟨g36.1, g36.2⟩) (mc rfl ⟨g36.1, g36.2⟩))) (g1 rfl rfl (fun g37 => opOr (mc rfl g37) ct (fun g38 => (mc rfl ⟨g37, g38⟩))) (q1 rfl (z4c (mv rfl) (fun g39 => (mc rfl g39)) ct) (rn (al [1, 2, 3, 4, 9, 10, 49] [0, 1] rfl rfl rfl (sq ?_)))))))))
     refine z2.join (fun z : (List zf) × Value => (z3r φ v19 (z13 φ v2 v3 v4 (z1i φ v1 v2 v3 v4) n22)) z.1) r (fun z => ⟨zh.of [(1, (ro zd 21 v2)), (2, (iv .i64 v3)), (3, (iv .i64 v4)), (4, (eqv (.pointer (some ⟨b5, 0, none⟩)))), (9, (eqv z.2)), (10, (iv .i64 v19))], [(box b5 36 (z2k v1)), (row 48 zd 21 z.1 z.2)]⟩) (fun z h => ?_) (fun hJ42 => ?_)
     ·
      obtain ⟨v40, sv41⟩ := z
      replace h : (z3r φ v19 (z13 φ v2 v3 v4 (z1i φ v1 v2 v3 v4) n22)) v40 = some r := h
      unfold z3r at h
      refine AtX.in_normal (al [1, 2, 3, 4, 9, 10] [0, 1] rfl rfl rfl (sq (cr [0, 1, 2] rfl (q1 rfl (z0 (mv rfl)) (q1 rfl (z0u (mv rfl) ct) (q1 rfl (z1 (mv rfl)) (rn ?_)))))))
      exact AtX.to (ih22 ((W (v19 + 1)), v40, sv41) h) [0, 1] (sl rfl) (ol rfl) rfl
     ·
      refine cI h rfl (fun c43 h => ?_) (fun c43 h => ?_)
      ·
       refine cr [0, 1, 2, 3, 4, 5, 6, 7] rfl (q1 rfl (z0 (mv rfl)) (q1 rfl (z0 (mv rfl)) (q1 rfl (z0 (mv rfl)) (q1 rfl (z0e (ix37 H) (mv rfl) (mv rfl) (h24).1 (z9 h24)) (q1 rfl (ln (tl48 H) (Pt.rop (mv rfl)) rfl) (n1 rfl (z1d (e := zd) [(gt v2 v19)] (sl37 H) z81 rfl (by decide) ⟨rfl, (Ce.agg (mv rfl)), trivial⟩ fun sv44 => ckE h fun h45 h => n1 rfl (z9p 1 (l := v20) (m := [(gt v2 v19)]) (sl37 H) z81 (mv rfl) rfl (Src.row 2 (mv rfl) rfl) h45 (z99 (by decide) h45) fun sv46 => q1 rfl (z1 (mv rfl)) (rn ?_)))))))))
       exact AtX.to (hJ42 ((v20 ++ [(gt v2 v19)]), sv46) h) [0, 1] (sl rfl) (ol rfl) rfl
      ·
       refine z2.skip ?_
       exact AtX.to (hJ42 (v20, sv21) h) [0, 1] (sl rfl) (ol rfl) rfl
    ·
     refine z2.exit (AtX.then_exit (AtX.then_exit (AtX.in_hit ?_)))
     exact AtX.to (hJ12 (v20, sv21) h) [0, 1] (sl rfl) (ol rfl) rfl
end Px
end
section
namespace Px
open Go Go.RowKit
theorem zt9 {H : Type} {enc : TypeId × Value → H} {P : Program} {W : World} {sp : Nat → Bool} {held : Bool} {base : Nat} {α : Type} {t : TypeId} {A : α → VP} {R : α → Prop} {v : Value} {d : DataW H} {p : List MemPlace}
    (hu : (match P.underlying t with | some (.slice _) => true | _ => false) = true) (ho : Opn P t 1 (fun y => [A y]) R) (hv : Value.okWide P W .any base t v) (h : DataW.Trod enc P W 0 sp held t v d p) : ∃ y, R y ∧ (A y).h (fun b => b < W.heap.size) W v := by
  obtain ⟨fuel, hf⟩ := h
  obtain ⟨_, y, hR, hc⟩ := ho _ _ _ _ _ _ _ _ hf
  unfold Value.okWide at hv
  split at hu
  · rename_i fs hus
    rw [hus] at hv
    have hcell : v.cells.toList = [v] := by
      cases v <;> first | rfl | (exfalso; simp [Cell.okWide, Cell.ok, hus] at hv)
    rw [hcell] at hc
    obtain ⟨u, hu', hA, _⟩ := hc.2 0 (A y) rfl
    simp at hu'
    subst hu'
    exact ⟨y, hR, hA⟩
  · cases hu
end Px
end
section
set_option linter.unusedVariables false
set_option linter.unusedSimpArgs false
set_option maxHeartbeats 4000000
set_option maxRecDepth 100000
namespace Px
open Go Go.RowKit Go.Proofs
def zo3 (x : z75) : Prop := RI .i64 x.fKind ∧ RI .i64 x.fRailway ∧ RI .i64 x.fOther ∧ True
def ztj (x : Edge) : Prop := RI .i64 x.fA ∧ RI .i64 x.fB ∧ RI .i64 x.fRailway ∧ RI .i64 x.fMinutes ∧ RI .i64 x.fKm ∧ True
def zjz (x : z7w) : Prop := (RL (zo3)) x.fPlaces ∧ (RL (ztj)) x.fEdges ∧ True
def zg9 (x : z5j) : Prop := RI .i64 x.fLoad ∧ RI .i64 x.fTare ∧ RI .i64 x.fLength ∧ RI .i64 x.fGauge ∧ RI .i64 x.fBrake ∧ RI .u64 x.fClasses ∧ RI .i64 x.fLife ∧ RI .i64 x.fFloor ∧ True
def znz (x : zbs) : Prop := RI .i64 x.fType ∧ RI .i64 x.fOwner ∧ RI .i64 x.fHome ∧ RI .i64 x.fBuilt ∧ RI .i64 x.fWorth ∧ True
def zs6 (x : Swap) : Prop := RI .i64 x.fWanted ∧ RI .i64 x.fGiven ∧ RI .i64 x.fCost ∧ True
def zrk (x : Wash) : Prop := RI .i64 x.fFrom ∧ RI .i64 x.fTo ∧ RI .i64 x.fMinutes ∧ True
def zp3 (x : z8m) : Prop := (RL (zg9)) x.fTypes ∧ (RL (znz)) x.fWagons ∧ (RL (zs6)) x.fSwaps ∧ (RL (zrk)) x.fWashes ∧ True
def zl6 (x : zca) : Prop := RI .i64 x.fPlace ∧ RI .i64 x.fLow ∧ RI .i64 x.fHigh ∧ True
def zjr (x : zaa) : Prop := RI .i64 x.fPlace ∧ True
def ztg (x : Span) : Prop := RI .i64 x.fFrom ∧ RI .i64 x.fTo ∧ True
def zhl (x : z37) : Prop := (fun f => ∀ i, i < 7 → (ztg) (f i)) x.fOpen ∧ (RL (RI .i64)) x.fHolidays ∧ True
def zdt (x : z1r) : Prop := RI .u64 x.fKey ∧ zhl x.fCalendar ∧ True
def zum (x : Pool) : Prop := zjz x.fNetwork ∧ zp3 x.fFleet ∧ (RL (zl6)) x.fReaders ∧ (RL (zjr)) x.fShippers ∧ (RL (zdt)) x.fRailways ∧ True
def RRef (x : Ref) : Prop := RI .i64 x.fRailway ∧ RI .i64 x.fNo ∧ True
def zsg (x : Part) : Prop := RI .i64 x.fKind ∧ RI .i64 x.fSerial ∧ (fun (_ : Bool) => True) x.fFitted ∧ True
def zsp (x : Item) : Prop := RI .i64 x.fKind ∧ RRef x.fRef ∧ RI .i64 x.fWagon ∧ RI .i64 x.fPlace ∧ RI .i64 x.fOther ∧ RI .i64 x.fNumber ∧ RI .i64 x.fFrom ∧ RI .i64 x.fTo ∧ RI .i64 x.fCode ∧ RI .i64 x.fDest ∧ RI .i64 x.fClass ∧ RI .i64 x.fWeight ∧ RI .i64 x.fAmount ∧ (fun (s : ByteArray) => s.size ≤ maxLen) x.fText ∧ (RL (zsg)) x.fParts ∧ True
def zpa (x : zf) : Prop := RRef x.fRef ∧ RRef x.fBy ∧ RI .i64 x.fTime ∧ zsp x.fItem ∧ True
theorem ou3 {P : Program} (H : P = Try.prog) : P.underlying 3 = some (.int .i64) := by subst H; kernel_rfl
theorem of68 {P : Program} (H : P = Try.prog) : z6l P 68 = some [(3, 0, 1), (3, 1, 1), (3, 2, 1)] := by subst H; kernel_rfl
theorem oc68 {P : Program} (H : P = Try.prog) : P.cellsOf 68 = 3 := by subst H; kernel_rfl
theorem ou22 {P : Program} (H : P = Try.prog) : P.underlying 22 = some (.slice 68) := by subst H; kernel_rfl
theorem zuj {P : Program} (H : P = Try.prog) : z6l P 124 = some [(3, 0, 1), (3, 1, 1), (3, 2, 1), (3, 3, 1), (3, 4, 1)] := by subst H; kernel_rfl
theorem zt2 {P : Program} (H : P = Try.prog) : P.cellsOf 124 = 5 := by subst H; kernel_rfl
theorem ou23 {P : Program} (H : P = Try.prog) : P.underlying 23 = some (.slice 124) := by subst H; kernel_rfl
theorem of25 {P : Program} (H : P = Try.prog) : z6l P 25 = some [(22, 0, 1), (23, 1, 1)] := by subst H; kernel_rfl
theorem oc25 {P : Program} (H : P = Try.prog) : P.cellsOf 25 = 2 := by subst H; kernel_rfl
theorem ou41 {P : Program} (H : P = Try.prog) : P.underlying 41 = some (.int .u64) := by subst H; kernel_rfl
theorem zuw {P : Program} (H : P = Try.prog) : z6l P 114 = some [(3, 0, 1), (3, 1, 1), (3, 2, 1), (3, 3, 1), (3, 4, 1), (41, 5, 1), (3, 6, 1), (3, 7, 1)] := by subst H; kernel_rfl
theorem ztc {P : Program} (H : P = Try.prog) : P.cellsOf 114 = 8 := by subst H; kernel_rfl
theorem ou26 {P : Program} (H : P = Try.prog) : P.underlying 26 = some (.slice 114) := by subst H; kernel_rfl
theorem of66 {P : Program} (H : P = Try.prog) : z6l P 66 = some [(3, 0, 1), (3, 1, 1), (3, 2, 1), (3, 3, 1), (3, 4, 1)] := by subst H; kernel_rfl
theorem oc66 {P : Program} (H : P = Try.prog) : P.cellsOf 66 = 5 := by subst H; kernel_rfl
theorem ou27 {P : Program} (H : P = Try.prog) : P.underlying 27 = some (.slice 66) := by subst H; kernel_rfl
theorem ztx {P : Program} (H : P = Try.prog) : z6l P 133 = some [(3, 0, 1), (3, 1, 1), (3, 2, 1)] := by subst H; kernel_rfl
theorem zrv {P : Program} (H : P = Try.prog) : P.cellsOf 133 = 3 := by subst H; kernel_rfl
theorem ou28 {P : Program} (H : P = Try.prog) : P.underlying 28 = some (.slice 133) := by subst H; kernel_rfl
theorem zua {P : Program} (H : P = Try.prog) : z6l P 149 = some [(3, 0, 1), (3, 1, 1), (3, 2, 1)] := by subst H; kernel_rfl
theorem zth {P : Program} (H : P = Try.prog) : P.cellsOf 149 = 3 := by subst H; kernel_rfl
theorem ou29 {P : Program} (H : P = Try.prog) : P.underlying 29 = some (.slice 149) := by subst H; kernel_rfl
theorem of31 {P : Program} (H : P = Try.prog) : z6l P 31 = some [(26, 0, 1), (27, 1, 1), (28, 2, 1), (29, 3, 1)] := by subst H; kernel_rfl
theorem oc31 {P : Program} (H : P = Try.prog) : P.cellsOf 31 = 4 := by subst H; kernel_rfl
theorem zup {P : Program} (H : P = Try.prog) : z6l P 119 = some [(3, 0, 1), (3, 1, 1), (3, 2, 1)] := by subst H; kernel_rfl
theorem zs5 {P : Program} (H : P = Try.prog) : P.cellsOf 119 = 3 := by subst H; kernel_rfl
theorem ou32 {P : Program} (H : P = Try.prog) : P.underlying 32 = some (.slice 119) := by subst H; kernel_rfl
theorem zud {P : Program} (H : P = Try.prog) : z6l P 122 = some [(3, 0, 1)] := by subst H; kernel_rfl
theorem ztn {P : Program} (H : P = Try.prog) : P.cellsOf 122 = 1 := by subst H; kernel_rfl
theorem ou33 {P : Program} (H : P = Try.prog) : P.underlying 33 = some (.slice 122) := by subst H; kernel_rfl
theorem of62 {P : Program} (H : P = Try.prog) : z6l P 62 = some [(3, 0, 1), (3, 1, 1)] := by subst H; kernel_rfl
theorem oc62 {P : Program} (H : P = Try.prog) : P.cellsOf 62 = 2 := by subst H; kernel_rfl
theorem zu3 {P : Program} (H : P = Try.prog) : P.underlying 103 = some (.array 7 62) := by subst H; kernel_rfl
theorem zuh {P : Program} (H : P = Try.prog) : P.cellsOf 103 = 14 := by subst H; kernel_rfl
theorem ou96 {P : Program} (H : P = Try.prog) : P.underlying 96 = some (.slice 3) := by subst H; kernel_rfl
theorem oc3 {P : Program} (H : P = Try.prog) : P.cellsOf 3 = 1 := by subst H; kernel_rfl
theorem zu2 {P : Program} (H : P = Try.prog) : z6l P 105 = some [(103, 0, 14), (96, 14, 1)] := by subst H; kernel_rfl
theorem zux {P : Program} (H : P = Try.prog) : P.cellsOf 105 = 15 := by subst H; kernel_rfl
theorem zug {P : Program} (H : P = Try.prog) : z6l P 107 = some [(41, 0, 1), (105, 1, 15)] := by subst H; kernel_rfl
theorem zsx {P : Program} (H : P = Try.prog) : P.cellsOf 107 = 16 := by subst H; kernel_rfl
theorem ou34 {P : Program} (H : P = Try.prog) : P.underlying 34 = some (.slice 107) := by subst H; kernel_rfl
theorem of36 {P : Program} (H : P = Try.prog) : z6l P 36 = some [(25, 0, 2), (31, 2, 4), (32, 6, 1), (33, 7, 1), (34, 8, 1)] := by subst H; kernel_rfl
theorem oc36 {P : Program} (H : P = Try.prog) : P.cellsOf 36 = 9 := by subst H; kernel_rfl
theorem of43 {P : Program} (H : P = Try.prog) : z6l P 43 = some [(3, 0, 1), (3, 1, 1)] := by subst H; kernel_rfl
theorem oc43 {P : Program} (H : P = Try.prog) : P.cellsOf 43 = 2 := by subst H; kernel_rfl
theorem ou9 {P : Program} (H : P = Try.prog) : P.underlying 9 = some .string := by subst H; kernel_rfl
theorem ou4 {P : Program} (H : P = Try.prog) : P.underlying 4 = some .bool := by subst H; kernel_rfl
theorem zuy {P : Program} (H : P = Try.prog) : z6l P 163 = some [(3, 0, 1), (3, 1, 1), (4, 2, 1)] := by subst H; kernel_rfl
theorem zr8 {P : Program} (H : P = Try.prog) : P.cellsOf 163 = 3 := by subst H; kernel_rfl
theorem ou44 {P : Program} (H : P = Try.prog) : P.underlying 44 = some (.slice 163) := by subst H; kernel_rfl
theorem of46 {P : Program} (H : P = Try.prog) : z6l P 46 = some [(3, 0, 1), (43, 1, 2), (3, 3, 1), (3, 4, 1), (3, 5, 1), (3, 6, 1), (3, 7, 1), (3, 8, 1), (3, 9, 1), (3, 10, 1), (3, 11, 1), (3, 12, 1), (3, 13, 1), (9, 14, 1), (44, 15, 1)] := by subst H; kernel_rfl
theorem oc46 {P : Program} (H : P = Try.prog) : P.cellsOf 46 = 16 := by subst H; kernel_rfl
theorem of48 {P : Program} (H : P = Try.prog) : z6l P 48 = some [(43, 0, 2), (43, 2, 2), (3, 4, 1), (46, 5, 16)] := by subst H; kernel_rfl
theorem oc48 {P : Program} (H : P = Try.prog) : P.cellsOf 48 = 21 := by subst H; kernel_rfl
theorem ou37 {P : Program} (H : P = Try.prog) : P.underlying 37 = some (.slice 48) := by subst H; kernel_rfl
theorem znp {P : Program} (H : P = Try.prog) : Opn P 68 3 z4w zo3 := by
  intro H' enc w sp held fuel cs x h
  obtain ⟨hl, m, hf⟩ := z39 (of68 H) h
  replace hl : cs.length = 3 := hl.trans (oc68 H)
  obtain ⟨x0, h0⟩ := hf 0 _ _ _ rfl
  obtain ⟨_, y0, r0, c0⟩ := (Opn.int (ou3 H)) _ _ _ _ _ _ _ _ h0
  obtain ⟨x1, h1⟩ := hf 1 _ _ _ rfl
  obtain ⟨_, y1, r1, c1⟩ := (Opn.int (ou3 H)) _ _ _ _ _ _ _ _ h1
  obtain ⟨x2, h2⟩ := hf 2 _ _ _ rfl
  obtain ⟨_, y2, r2, c2⟩ := (Opn.int (ou3 H)) _ _ _ _ _ _ _ _ h2
  exact ⟨hl, ⟨y0, y1, y2⟩, ⟨r0, r1, r2, trivial⟩, zc.tile c0 (zc.tile c1 (zc.tile c2 (zc.tile0 hl)))⟩
theorem zpj {P : Program} (H : P = Try.prog) : Opn P 124 5 z9v ztj := by
  intro H' enc w sp held fuel cs x h
  obtain ⟨hl, m, hf⟩ := z39 (zuj H) h
  replace hl : cs.length = 5 := hl.trans (zt2 H)
  obtain ⟨x0, h0⟩ := hf 0 _ _ _ rfl
  obtain ⟨_, y0, r0, c0⟩ := (Opn.int (ou3 H)) _ _ _ _ _ _ _ _ h0
  obtain ⟨x1, h1⟩ := hf 1 _ _ _ rfl
  obtain ⟨_, y1, r1, c1⟩ := (Opn.int (ou3 H)) _ _ _ _ _ _ _ _ h1
  obtain ⟨x2, h2⟩ := hf 2 _ _ _ rfl
  obtain ⟨_, y2, r2, c2⟩ := (Opn.int (ou3 H)) _ _ _ _ _ _ _ _ h2
  obtain ⟨x3, h3⟩ := hf 3 _ _ _ rfl
  obtain ⟨_, y3, r3, c3⟩ := (Opn.int (ou3 H)) _ _ _ _ _ _ _ _ h3
  obtain ⟨x4, h4⟩ := hf 4 _ _ _ rfl
  obtain ⟨_, y4, r4, c4⟩ := (Opn.int (ou3 H)) _ _ _ _ _ _ _ _ h4
  exact ⟨hl, ⟨y0, y1, y2, y3, y4⟩, ⟨r0, r1, r2, r3, r4, trivial⟩, zc.tile c0 (zc.tile c1 (zc.tile c2 (zc.tile c3 (zc.tile c4 (zc.tile0 hl)))))⟩
theorem zkd {P : Program} (H : P = Try.prog) : Opn P 25 2 zcv zjz := by
  intro H' enc w sp held fuel cs x h
  obtain ⟨hl, m, hf⟩ := z39 (of25 H) h
  replace hl : cs.length = 2 := hl.trans (oc25 H)
  obtain ⟨x0, h0⟩ := hf 0 _ _ _ rfl
  obtain ⟨_, y0, r0, c0⟩ := (Opn.slice (ou22 H) (oc68 H) (by decide) (znp H)) _ _ _ _ _ _ _ _ h0
  obtain ⟨x1, h1⟩ := hf 1 _ _ _ rfl
  obtain ⟨_, y1, r1, c1⟩ := (Opn.slice (ou23 H) (zt2 H) (by decide) (zpj H)) _ _ _ _ _ _ _ _ h1
  exact ⟨hl, ⟨y0, y1⟩, ⟨r0, r1, trivial⟩, zc.tile c0 (zc.tile c1 (zc.tile0 hl))⟩
theorem zhi {P : Program} (H : P = Try.prog) : Opn P 114 8 z0y zg9 := by
  intro H' enc w sp held fuel cs x h
  obtain ⟨hl, m, hf⟩ := z39 (zuw H) h
  replace hl : cs.length = 8 := hl.trans (ztc H)
  obtain ⟨x0, h0⟩ := hf 0 _ _ _ rfl
  obtain ⟨_, y0, r0, c0⟩ := (Opn.int (ou3 H)) _ _ _ _ _ _ _ _ h0
  obtain ⟨x1, h1⟩ := hf 1 _ _ _ rfl
  obtain ⟨_, y1, r1, c1⟩ := (Opn.int (ou3 H)) _ _ _ _ _ _ _ _ h1
  obtain ⟨x2, h2⟩ := hf 2 _ _ _ rfl
  obtain ⟨_, y2, r2, c2⟩ := (Opn.int (ou3 H)) _ _ _ _ _ _ _ _ h2
  obtain ⟨x3, h3⟩ := hf 3 _ _ _ rfl
  obtain ⟨_, y3, r3, c3⟩ := (Opn.int (ou3 H)) _ _ _ _ _ _ _ _ h3
  obtain ⟨x4, h4⟩ := hf 4 _ _ _ rfl
  obtain ⟨_, y4, r4, c4⟩ := (Opn.int (ou3 H)) _ _ _ _ _ _ _ _ h4
  obtain ⟨x5, h5⟩ := hf 5 _ _ _ rfl
  obtain ⟨_, y5, r5, c5⟩ := (Opn.int (ou41 H)) _ _ _ _ _ _ _ _ h5
  obtain ⟨x6, h6⟩ := hf 6 _ _ _ rfl
  obtain ⟨_, y6, r6, c6⟩ := (Opn.int (ou3 H)) _ _ _ _ _ _ _ _ h6
  obtain ⟨x7, h7⟩ := hf 7 _ _ _ rfl
  obtain ⟨_, y7, r7, c7⟩ := (Opn.int (ou3 H)) _ _ _ _ _ _ _ _ h7
  exact ⟨hl, ⟨y0, y1, y2, y3, y4, y5, y6, y7⟩, ⟨r0, r1, r2, r3, r4, r5, r6, r7, trivial⟩, zc.tile c0 (zc.tile c1 (zc.tile c2 (zc.tile c3 (zc.tile c4 (zc.tile c5 (zc.tile c6 (zc.tile c7 (zc.tile0 hl))))))))⟩
theorem zmz {P : Program} (H : P = Try.prog) : Opn P 66 5 z5h znz := by
  intro H' enc w sp held fuel cs x h
  obtain ⟨hl, m, hf⟩ := z39 (of66 H) h
  replace hl : cs.length = 5 := hl.trans (oc66 H)
  obtain ⟨x0, h0⟩ := hf 0 _ _ _ rfl
  obtain ⟨_, y0, r0, c0⟩ := (Opn.int (ou3 H)) _ _ _ _ _ _ _ _ h0
  obtain ⟨x1, h1⟩ := hf 1 _ _ _ rfl
  obtain ⟨_, y1, r1, c1⟩ := (Opn.int (ou3 H)) _ _ _ _ _ _ _ _ h1
  obtain ⟨x2, h2⟩ := hf 2 _ _ _ rfl
  obtain ⟨_, y2, r2, c2⟩ := (Opn.int (ou3 H)) _ _ _ _ _ _ _ _ h2
  obtain ⟨x3, h3⟩ := hf 3 _ _ _ rfl
  obtain ⟨_, y3, r3, c3⟩ := (Opn.int (ou3 H)) _ _ _ _ _ _ _ _ h3
  obtain ⟨x4, h4⟩ := hf 4 _ _ _ rfl
  obtain ⟨_, y4, r4, c4⟩ := (Opn.int (ou3 H)) _ _ _ _ _ _ _ _ h4
  exact ⟨hl, ⟨y0, y1, y2, y3, y4⟩, ⟨r0, r1, r2, r3, r4, trivial⟩, zc.tile c0 (zc.tile c1 (zc.tile c2 (zc.tile c3 (zc.tile c4 (zc.tile0 hl)))))⟩
theorem zpv {P : Program} (H : P = Try.prog) : Opn P 133 3 z9o zs6 := by
  intro H' enc w sp held fuel cs x h
  obtain ⟨hl, m, hf⟩ := z39 (ztx H) h
  replace hl : cs.length = 3 := hl.trans (zrv H)
  obtain ⟨x0, h0⟩ := hf 0 _ _ _ rfl
  obtain ⟨_, y0, r0, c0⟩ := (Opn.int (ou3 H)) _ _ _ _ _ _ _ _ h0
  obtain ⟨x1, h1⟩ := hf 1 _ _ _ rfl
  obtain ⟨_, y1, r1, c1⟩ := (Opn.int (ou3 H)) _ _ _ _ _ _ _ _ h1
  obtain ⟨x2, h2⟩ := hf 2 _ _ _ rfl
  obtain ⟨_, y2, r2, c2⟩ := (Opn.int (ou3 H)) _ _ _ _ _ _ _ _ h2
  exact ⟨hl, ⟨y0, y1, y2⟩, ⟨r0, r1, r2, trivial⟩, zc.tile c0 (zc.tile c1 (zc.tile c2 (zc.tile0 hl)))⟩
theorem zqe {P : Program} (H : P = Try.prog) : Opn P 149 3 z8z zrk := by
  intro H' enc w sp held fuel cs x h
  obtain ⟨hl, m, hf⟩ := z39 (zua H) h
  replace hl : cs.length = 3 := hl.trans (zth H)
  obtain ⟨x0, h0⟩ := hf 0 _ _ _ rfl
  obtain ⟨_, y0, r0, c0⟩ := (Opn.int (ou3 H)) _ _ _ _ _ _ _ _ h0
  obtain ⟨x1, h1⟩ := hf 1 _ _ _ rfl
  obtain ⟨_, y1, r1, c1⟩ := (Opn.int (ou3 H)) _ _ _ _ _ _ _ _ h1
  obtain ⟨x2, h2⟩ := hf 2 _ _ _ rfl
  obtain ⟨_, y2, r2, c2⟩ := (Opn.int (ou3 H)) _ _ _ _ _ _ _ _ h2
  exact ⟨hl, ⟨y0, y1, y2⟩, ⟨r0, r1, r2, trivial⟩, zc.tile c0 (zc.tile c1 (zc.tile c2 (zc.tile0 hl)))⟩
theorem zn0 {P : Program} (H : P = Try.prog) : Opn P 31 4 z7l zp3 := by
  intro H' enc w sp held fuel cs x h
  obtain ⟨hl, m, hf⟩ := z39 (of31 H) h
  replace hl : cs.length = 4 := hl.trans (oc31 H)
  obtain ⟨x0, h0⟩ := hf 0 _ _ _ rfl
  obtain ⟨_, y0, r0, c0⟩ := (Opn.slice (ou26 H) (ztc H) (by decide) (zhi H)) _ _ _ _ _ _ _ _ h0
  obtain ⟨x1, h1⟩ := hf 1 _ _ _ rfl
  obtain ⟨_, y1, r1, c1⟩ := (Opn.slice (ou27 H) (oc66 H) (by decide) (zmz H)) _ _ _ _ _ _ _ _ h1
  obtain ⟨x2, h2⟩ := hf 2 _ _ _ rfl
  obtain ⟨_, y2, r2, c2⟩ := (Opn.slice (ou28 H) (zrv H) (by decide) (zpv H)) _ _ _ _ _ _ _ _ h2
  obtain ⟨x3, h3⟩ := hf 3 _ _ _ rfl
  obtain ⟨_, y3, r3, c3⟩ := (Opn.slice (ou29 H) (zth H) (by decide) (zqe H)) _ _ _ _ _ _ _ _ h3
  exact ⟨hl, ⟨y0, y1, y2, y3⟩, ⟨r0, r1, r2, r3, trivial⟩, zc.tile c0 (zc.tile c1 (zc.tile c2 (zc.tile c3 (zc.tile0 hl))))⟩
theorem zkv {P : Program} (H : P = Try.prog) : Opn P 119 3 z6v zl6 := by
  intro H' enc w sp held fuel cs x h
  obtain ⟨hl, m, hf⟩ := z39 (zup H) h
  replace hl : cs.length = 3 := hl.trans (zs5 H)
  obtain ⟨x0, h0⟩ := hf 0 _ _ _ rfl
  obtain ⟨_, y0, r0, c0⟩ := (Opn.int (ou3 H)) _ _ _ _ _ _ _ _ h0
  obtain ⟨x1, h1⟩ := hf 1 _ _ _ rfl
  obtain ⟨_, y1, r1, c1⟩ := (Opn.int (ou3 H)) _ _ _ _ _ _ _ _ h1
  obtain ⟨x2, h2⟩ := hf 2 _ _ _ rfl
  obtain ⟨_, y2, r2, c2⟩ := (Opn.int (ou3 H)) _ _ _ _ _ _ _ _ h2
  exact ⟨hl, ⟨y0, y1, y2⟩, ⟨r0, r1, r2, trivial⟩, zc.tile c0 (zc.tile c1 (zc.tile c2 (zc.tile0 hl)))⟩
theorem zkk {P : Program} (H : P = Try.prog) : Opn P 122 1 z5c zjr := by
  intro H' enc w sp held fuel cs x h
  obtain ⟨hl, m, hf⟩ := z39 (zud H) h
  replace hl : cs.length = 1 := hl.trans (ztn H)
  obtain ⟨x0, h0⟩ := hf 0 _ _ _ rfl
  obtain ⟨_, y0, r0, c0⟩ := (Opn.int (ou3 H)) _ _ _ _ _ _ _ _ h0
  exact ⟨hl, ⟨y0⟩, ⟨r0, trivial⟩, zc.tile c0 (zc.tile0 hl)⟩
theorem zpr {P : Program} (H : P = Try.prog) : Opn P 62 2 zhj ztg := by
  intro H' enc w sp held fuel cs x h
  obtain ⟨hl, m, hf⟩ := z39 (of62 H) h
  replace hl : cs.length = 2 := hl.trans (oc62 H)
  obtain ⟨x0, h0⟩ := hf 0 _ _ _ rfl
  obtain ⟨_, y0, r0, c0⟩ := (Opn.int (ou3 H)) _ _ _ _ _ _ _ _ h0
  obtain ⟨x1, h1⟩ := hf 1 _ _ _ rfl
  obtain ⟨_, y1, r1, c1⟩ := (Opn.int (ou3 H)) _ _ _ _ _ _ _ _ h1
  exact ⟨hl, ⟨y0, y1⟩, ⟨r0, r1, trivial⟩, zc.tile c0 (zc.tile c1 (zc.tile0 hl))⟩
theorem zj7 {P : Program} (H : P = Try.prog) : Opn P 105 15 z83 zhl := by
  intro H' enc w sp held fuel cs x h
  obtain ⟨hl, m, hf⟩ := z39 (zu2 H) h
  replace hl : cs.length = 15 := hl.trans (zux H)
  obtain ⟨x0, h0⟩ := hf 0 _ _ _ rfl
  obtain ⟨_, y0, r0, c0⟩ := (Opn.array (zu3 H) (oc62 H) (zuh H) rfl (zpr H)) _ _ _ _ _ _ _ _ h0
  obtain ⟨x1, h1⟩ := hf 1 _ _ _ rfl
  obtain ⟨_, y1, r1, c1⟩ := (Opn.slice (ou96 H) (oc3 H) (by decide) (Opn.int (ou3 H))) _ _ _ _ _ _ _ _ h1
  exact ⟨hl, ⟨y0, y1⟩, ⟨r0, r1, trivial⟩, zc.of_eq (zc.tile c0 (zc.tile c1 (zc.tile0 hl))) (by simp [z83])⟩
theorem zg0 {P : Program} (H : P = Try.prog) : Opn P 107 16 z0x zdt := by
  intro H' enc w sp held fuel cs x h
  obtain ⟨hl, m, hf⟩ := z39 (zug H) h
  replace hl : cs.length = 16 := hl.trans (zsx H)
  obtain ⟨x0, h0⟩ := hf 0 _ _ _ rfl
  obtain ⟨_, y0, r0, c0⟩ := (Opn.int (ou41 H)) _ _ _ _ _ _ _ _ h0
  obtain ⟨x1, h1⟩ := hf 1 _ _ _ rfl
  obtain ⟨_, y1, r1, c1⟩ := (zj7 H) _ _ _ _ _ _ _ _ h1
  exact ⟨hl, ⟨y0, y1⟩, ⟨r0, r1, trivial⟩, zc.of_eq (zc.tile c0 (zc.tile c1 (zc.tile0 hl))) (by simp [z83, z0x])⟩
theorem zqy {P : Program} (H : P = Try.prog) : Opn P 36 9 z2k zum := by
  intro H' enc w sp held fuel cs x h
  obtain ⟨hl, m, hf⟩ := z39 (of36 H) h
  replace hl : cs.length = 9 := hl.trans (oc36 H)
  obtain ⟨x0, h0⟩ := hf 0 _ _ _ rfl
  obtain ⟨_, y0, r0, c0⟩ := (zkd H) _ _ _ _ _ _ _ _ h0
  obtain ⟨x1, h1⟩ := hf 1 _ _ _ rfl
  obtain ⟨_, y1, r1, c1⟩ := (zn0 H) _ _ _ _ _ _ _ _ h1
  obtain ⟨x2, h2⟩ := hf 2 _ _ _ rfl
  obtain ⟨_, y2, r2, c2⟩ := (Opn.slice (ou32 H) (zs5 H) (by decide) (zkv H)) _ _ _ _ _ _ _ _ h2
  obtain ⟨x3, h3⟩ := hf 3 _ _ _ rfl
  obtain ⟨_, y3, r3, c3⟩ := (Opn.slice (ou33 H) (ztn H) (by decide) (zkk H)) _ _ _ _ _ _ _ _ h3
  obtain ⟨x4, h4⟩ := hf 4 _ _ _ rfl
  obtain ⟨_, y4, r4, c4⟩ := (Opn.slice (ou34 H) (zsx H) (by decide) (zg0 H)) _ _ _ _ _ _ _ _ h4
  exact ⟨hl, ⟨y0, y1, y2, y3, y4⟩, ⟨r0, r1, r2, r3, r4, trivial⟩, zc.tile c0 (zc.tile c1 (zc.tile c2 (zc.tile c3 (zc.tile c4 (zc.tile0 hl)))))⟩
theorem zml {P : Program} (H : P = Try.prog) : Opn P 43 2 eRef RRef := by
  intro H' enc w sp held fuel cs x h
  obtain ⟨hl, m, hf⟩ := z39 (of43 H) h
  replace hl : cs.length = 2 := hl.trans (oc43 H)
  obtain ⟨x0, h0⟩ := hf 0 _ _ _ rfl
  obtain ⟨_, y0, r0, c0⟩ := (Opn.int (ou3 H)) _ _ _ _ _ _ _ _ h0
  obtain ⟨x1, h1⟩ := hf 1 _ _ _ rfl
  obtain ⟨_, y1, r1, c1⟩ := (Opn.int (ou3 H)) _ _ _ _ _ _ _ _ h1
  exact ⟨hl, ⟨y0, y1⟩, ⟨r0, r1, trivial⟩, zc.tile c0 (zc.tile c1 (zc.tile0 hl))⟩
theorem zpm {P : Program} (H : P = Try.prog) : Opn P 163 3 z9e zsg := by
  intro H' enc w sp held fuel cs x h
  obtain ⟨hl, m, hf⟩ := z39 (zuy H) h
  replace hl : cs.length = 3 := hl.trans (zr8 H)
  obtain ⟨x0, h0⟩ := hf 0 _ _ _ rfl
  obtain ⟨_, y0, r0, c0⟩ := (Opn.int (ou3 H)) _ _ _ _ _ _ _ _ h0
  obtain ⟨x1, h1⟩ := hf 1 _ _ _ rfl
  obtain ⟨_, y1, r1, c1⟩ := (Opn.int (ou3 H)) _ _ _ _ _ _ _ _ h1
  obtain ⟨x2, h2⟩ := hf 2 _ _ _ rfl
  obtain ⟨_, y2, r2, c2⟩ := (Opn.bool (ou4 H)) _ _ _ _ _ _ _ _ h2
  exact ⟨hl, ⟨y0, y1, y2⟩, ⟨r0, r1, r2, trivial⟩, zc.tile c0 (zc.tile c1 (zc.tile c2 (zc.tile0 hl)))⟩
theorem zp6 {P : Program} (H : P = Try.prog) : Opn P 46 16 zb2 zsp := by
  intro H' enc w sp held fuel cs x h
  obtain ⟨hl, m, hf⟩ := z39 (of46 H) h
  replace hl : cs.length = 16 := hl.trans (oc46 H)
  obtain ⟨x0, h0⟩ := hf 0 _ _ _ rfl
  obtain ⟨_, y0, r0, c0⟩ := (Opn.int (ou3 H)) _ _ _ _ _ _ _ _ h0
  obtain ⟨x1, h1⟩ := hf 1 _ _ _ rfl
  obtain ⟨_, y1, r1, c1⟩ := (zml H) _ _ _ _ _ _ _ _ h1
  obtain ⟨x2, h2⟩ := hf 2 _ _ _ rfl
  obtain ⟨_, y2, r2, c2⟩ := (Opn.int (ou3 H)) _ _ _ _ _ _ _ _ h2
  obtain ⟨x3, h3⟩ := hf 3 _ _ _ rfl
  obtain ⟨_, y3, r3, c3⟩ := (Opn.int (ou3 H)) _ _ _ _ _ _ _ _ h3
  obtain ⟨x4, h4⟩ := hf 4 _ _ _ rfl
  obtain ⟨_, y4, r4, c4⟩ := (Opn.int (ou3 H)) _ _ _ _ _ _ _ _ h4
  obtain ⟨x5, h5⟩ := hf 5 _ _ _ rfl
  obtain ⟨_, y5, r5, c5⟩ := (Opn.int (ou3 H)) _ _ _ _ _ _ _ _ h5
  obtain ⟨x6, h6⟩ := hf 6 _ _ _ rfl
  obtain ⟨_, y6, r6, c6⟩ := (Opn.int (ou3 H)) _ _ _ _ _ _ _ _ h6
  obtain ⟨x7, h7⟩ := hf 7 _ _ _ rfl
  obtain ⟨_, y7, r7, c7⟩ := (Opn.int (ou3 H)) _ _ _ _ _ _ _ _ h7
  obtain ⟨x8, h8⟩ := hf 8 _ _ _ rfl
  obtain ⟨_, y8, r8, c8⟩ := (Opn.int (ou3 H)) _ _ _ _ _ _ _ _ h8
  obtain ⟨x9, h9⟩ := hf 9 _ _ _ rfl
  obtain ⟨_, y9, r9, c9⟩ := (Opn.int (ou3 H)) _ _ _ _ _ _ _ _ h9
  obtain ⟨x10, h10⟩ := hf 10 _ _ _ rfl
  obtain ⟨_, y10, r10, c10⟩ := (Opn.int (ou3 H)) _ _ _ _ _ _ _ _ h10
  obtain ⟨x11, h11⟩ := hf 11 _ _ _ rfl
  obtain ⟨_, y11, r11, c11⟩ := (Opn.int (ou3 H)) _ _ _ _ _ _ _ _ h11
  obtain ⟨x12, h12⟩ := hf 12 _ _ _ rfl
  obtain ⟨_, y12, r12, c12⟩ := (Opn.int (ou3 H)) _ _ _ _ _ _ _ _ h12
  obtain ⟨x13, h13⟩ := hf 13 _ _ _ rfl
  obtain ⟨_, y13, r13, c13⟩ := (Opn.string (ou9 H)) _ _ _ _ _ _ _ _ h13
  obtain ⟨x14, h14⟩ := hf 14 _ _ _ rfl
  obtain ⟨_, y14, r14, c14⟩ := (Opn.slice (ou44 H) (zr8 H) (by decide) (zpm H)) _ _ _ _ _ _ _ _ h14
  exact ⟨hl, ⟨y0, y1, y2, y3, y4, y5, y6, y7, y8, y9, y10, y11, y12, y13, y14⟩, ⟨r0, r1, r2, r3, r4, r5, r6, r7, r8, r9, r10, r11, r12, r13, r14, trivial⟩, zc.tile c0 (zc.tile c1 (zc.tile c2 (zc.tile c3 (zc.tile c4 (zc.tile c5 (zc.tile c6 (zc.tile c7 (zc.tile c8 (zc.tile c9 (zc.tile c10 (zc.tile c11 (zc.tile c12 (zc.tile c13 (zc.tile c14 (zc.tile0 hl)))))))))))))))⟩
theorem zlc {P : Program} (H : P = Try.prog) : Opn P 48 21 zd zpa := by
  intro H' enc w sp held fuel cs x h
  obtain ⟨hl, m, hf⟩ := z39 (of48 H) h
  replace hl : cs.length = 21 := hl.trans (oc48 H)
  obtain ⟨x0, h0⟩ := hf 0 _ _ _ rfl
  obtain ⟨_, y0, r0, c0⟩ := (zml H) _ _ _ _ _ _ _ _ h0
  obtain ⟨x1, h1⟩ := hf 1 _ _ _ rfl
  obtain ⟨_, y1, r1, c1⟩ := (zml H) _ _ _ _ _ _ _ _ h1
  obtain ⟨x2, h2⟩ := hf 2 _ _ _ rfl
  obtain ⟨_, y2, r2, c2⟩ := (Opn.int (ou3 H)) _ _ _ _ _ _ _ _ h2
  obtain ⟨x3, h3⟩ := hf 3 _ _ _ rfl
  obtain ⟨_, y3, r3, c3⟩ := (zp6 H) _ _ _ _ _ _ _ _ h3
  exact ⟨hl, ⟨y0, y1, y2, y3⟩, ⟨r0, r1, r2, r3, trivial⟩, zc.tile c0 (zc.tile c1 (zc.tile c2 (zc.tile c3 (zc.tile0 hl))))⟩
end Px
end
section
namespace Px
open Go
set_option linter.unusedVariables false
set_option linter.unusedSimpArgs false
/-- A loop that counts up. -/
theorem zla {σ ρ : Type} (L : Nat → Int → σ → Option ρ) (len : Nat) (Inv : Nat → σ → Prop) (G : Option ρ → Prop)
    (step : ∀ n i s, i < len → Inv i s → (∀ s', Inv (i + 1) s' → G (L n ((i : Int) + 1) s')) → G (L (n + 1) i s))
    (done : ∀ n s, Inv len s → G (L (n + 1) len s)) : ∀ n i s, i ≤ len → Inv i s → len - i < n → G (L n i s) := by
  intro n
  induction n with
  | zero => intro i s _ _ h; omega
  | succ n ih =>
    intro i s hi hI hn
    by_cases h : i = len
    · subst h; exact done n s hI
    · refine step n i s (by omega) hI fun s' hs' => ?_
      have := ih (i + 1) s' (by omega) hs' (by omega)
      simpa using this
/-- The same from the start. -/
theorem z74 {σ ρ : Type} (L : Nat → Int → σ → Option ρ) (len : Nat) (Inv : Nat → σ → Prop) (G : Option ρ → Prop)
    (step : ∀ n i s, i < len → Inv i s → (∀ s', Inv (i + 1) s' → G (L n ((i : Int) + 1) s')) → G (L (n + 1) i s))
    (done : ∀ n s, Inv len s → G (L (n + 1) len s)) (n : Nat) (s : σ) (h : Inv 0 s) (hn : len < n) : G (L n 0 s) := by
  simpa using zla L len Inv G step done n 0 s (Nat.zero_le _) h (by omega)
theorem zu9 (x : Int) : W x = if x % 18446744073709551616 ≥ 9223372036854775808 then x % 18446744073709551616 - 18446744073709551616 else x % 18446744073709551616 := by
  simp [W, IntKind.wrap, IntKind.bits, IntKind.signed]
theorem zm4 (x : Int) : U x = x % 18446744073709551616 := by
  simp [U, IntKind.wrap, IntKind.bits, IntKind.signed]
theorem W_id {x : Int} (h : -9223372036854775808 ≤ x) (h' : x ≤ 9223372036854775807) : W x = x := by
  rw [zu9]; split <;> omega
theorem U_id {x : Int} (h : 0 ≤ x) (h' : x ≤ 18446744073709551615) : U x = x := by
  rw [zm4]; omega
theorem zc2 {α : Type} [Inhabited α] (ok : α → Bool) (l : List α) (i : Nat) (h : i < l.length) : (l.take (i + 1)).all ok = ((l.take i).all ok && ok (gt l (i : Int))) := by
  rw [List.take_succ_eq_append_getElem h, List.all_append]
  simp [gt, h]
theorem zcc {α : Type} [Inhabited α] (ok : α → Bool) (l : List α) (i : Nat) (h : i < l.length) : (l.take (i + 1)).any ok = ((l.take i).any ok || ok (gt l (i : Int))) := by
  rw [List.take_succ_eq_append_getElem h, List.any_append]
  simp [gt, h]
theorem z7x {α : Type} [Inhabited α] (l : List α) (i : Nat) (h : i < l.length) : l.take (i + 1) = l.take i ++ [gt l (i : Int)] := by
  rw [List.take_succ_eq_append_getElem h]
  simp [gt, h]
theorem z91 {α : Type} [Inhabited α] {l : List α} {i : Int} (h0 : 0 ≤ i) (h : i < (l.length : Int)) : gt l i ∈ l := by
  have hlt : i.toNat < l.length := by omega
  simp [gt, hlt]
theorem zct {α : Type} [Inhabited α] {l : List α} {i : Nat} (h : i < l.length) : gt l (i : Int) = l[i] := by
  simp [gt, h]
theorem zln {α : Type} [Inhabited α] (l : List α) (i : Nat) (h : i < l.length) : l.drop i = gt l (i : Int) :: l.drop (i + 1) := by
  rw [zct h, List.getElem_cons_drop]
theorem z7a {α : Type} [Inhabited α] (l m : List α) (j : Int) (h0 : 0 ≤ j) (h : j < (l.length : Int)) : gt (l ++ m) j = gt l j := by
  have : j.toNat < l.length := by omega
  simp [gt, List.getD, List.getElem?_append, this]
theorem z64 {α : Type} [Inhabited α] (l m : List α) (j : Int) (h : (l.length : Int) ≤ j) : gt (l ++ m) j = gt m (j - l.length) := by
  have : ¬ j.toNat < l.length := by omega
  have e : (j - l.length).toNat = j.toNat - l.length := by omega
  simp [gt, List.getD, List.getElem?_append, this, e]
/-- A loop over a list that remembers whether all its elements were in order. -/
theorem zen {α ρ : Type} [Inhabited α] (L : Nat → Int → Int → Option ρ) (k : Int → Option ρ) (l : List α) (ok : α → Bool)
    (step : ∀ (n i : Nat) (s : Int), i < l.length → L (n + 1) i s = L n ((i : Int) + 1) (bif ok (gt l i) then s else 1)) (done : ∀ n s, L (n + 1) l.length s = k s) :
    ∀ n s, l.length < n → L n 0 s = k (bif l.all ok then s else 1) := by
  intro n s hn
  refine zla L l.length (fun i t => t = bif (l.take i).all ok then s else 1) (fun o => o = k (bif l.all ok then s else 1)) ?_ ?_ n 0 s (Nat.zero_le _) (by simp) (by omega)
  · intro n i t hi ht hs
    rw [step n i t hi]
    refine hs _ ?_
    rw [zc2 ok l i hi, ht]
    cases (l.take i).all ok <;> cases ok (gt l (i : Int)) <;> simp
  · intro n t ht
    rw [done, ht, List.take_length]
/-- A loop over a list that ends at the first element of a kind. -/
theorem zl0 {α ρ : Type} [Inhabited α] (L : Nat → Int → Option ρ) (k : Option ρ) (l : List α) (p : α → Bool) (g : α → Option ρ)
    (step : ∀ n i : Nat, i < l.length → L (n + 1) i = bif p (gt l i) then g (gt l i) else L n ((i : Int) + 1)) (done : ∀ n, L (n + 1) l.length = k) :
    ∀ n, l.length < n → L n 0 = match l.find? p with | some x => g x | none => k := by
  intro n hn
  refine z74 (fun n i (_ : Unit) => L n i) l.length (fun i _ => ∀ x ∈ l.take i, p x = false) (fun o => o = match l.find? p with | some x => g x | none => k) ?_ ?_ n () (by simp) hn
  · intro n i _ hi hI hs
    simp only [step n i hi]
    cases e : p (gt l (i : Int)) with
    | false =>
      refine hs () ?_
      rw [z7x l i hi]
      intro x hx
      rcases List.mem_append.1 hx with h | h
      · exact hI x h
      · simp at h; rw [h]; exact e
    | true =>
      have : l.find? p = some (gt l (i : Int)) := by
        have h1 : l = l.take i ++ (gt l (i : Int) :: l.drop (i + 1)) := by
          rw [zct hi, List.getElem_cons_drop, List.take_append_drop]
        generalize gt l (i : Int) = y at *
        rw [h1, List.find?_append, List.find?_eq_none.2 (fun x hx => by simp [hI x hx])]
        simp [List.find?_cons, e]
      rw [this]; rfl
  · intro n _ hI
    simp only [done]
    rw [List.take_length] at hI
    rw [List.find?_eq_none.2 (fun x hx => by simp [hI x hx])]
theorem znc {α ρ : Type} (l : List α) (p : α → Bool) (r k : ρ) : (match l.find? p with | some _ => r | none => k) = bif l.any p then r else k := by
  induction l with
  | nil => rfl
  | cons x l ih =>
    rw [List.find?_cons, List.any_cons]
    cases p x
    · simpa using ih
    · rfl
theorem zjg {α ρ : Type} [Inhabited α] (L : Nat → Int → Option ρ) (k r : Option ρ) (l : List α) (p : α → Bool)
    (step : ∀ n i : Nat, i < l.length → L (n + 1) i = bif p (gt l i) then r else L n ((i : Int) + 1)) (done : ∀ n, L (n + 1) l.length = k)
    (n : Nat) (hn : l.length < n) : L n 0 = bif l.any p then r else k := by
  rw [zl0 L k l p (fun _ => r) step done n hn, znc]
def bet (a b c : Int) : Bool := decide (b ≤ a) && decide (a ≤ c)
theorem zh7 {a b c : Int} : bet a b c = true ↔ b ≤ a ∧ a ≤ c := by simp [bet]
theorem zqa {a b c : Int} (h : bet a b c = true) : b ≤ a ∧ a ≤ c := zh7.1 h
theorem z94 {a b : Bool} : (a || b) = false ↔ a = false ∧ b = false := by cases a <;> cases b <;> simp
theorem zpt {x y z : Int} : min2 x y < z ↔ x < z ∨ y < z := by unfold min2; split <;> omega
end Px
end
section
namespace Px
open Go
set_option linter.unusedVariables false
set_option linter.unusedSimpArgs false
structure Swo {α : Type} (lt : α → α → Bool) : Prop where
  asym : ∀ a b, lt a b = true → lt b a = false
  ntr : ∀ a b c, lt a b = false → lt b c = false → lt a c = false
def Srt {α : Type} (lt : α → α → Bool) (l : List α) : Prop := l.Pairwise fun a b => lt b a = false
def eqv2 {α : Type} (lt : α → α → Bool) (a b : α) : Bool := !lt a b && !lt b a
def Stb {α : Type} (lt : α → α → Bool) (l r : List α) : Prop := r.Perm l ∧ ∀ a, r.filter (eqv2 lt a) = l.filter (eqv2 lt a)
section
variable {α : Type} {lt : α → α → Bool}
theorem Swo.irr (h : Swo lt) (a : α) : lt a a = false := by
  cases e : lt a a with
  | false => rfl
  | true => exact (h.asym a a e).symm.trans e |>.symm
theorem zek {a b : α} : eqv2 lt a b = true ↔ lt a b = false ∧ lt b a = false := by simp [eqv2]
theorem Stb.refl (l : List α) : Stb lt l l := ⟨.refl _, fun _ => rfl⟩
theorem Stb.trans {a b c : List α} (h : Stb lt a b) (h' : Stb lt b c) : Stb lt a c := ⟨h'.1.trans h.1, fun x => (h'.2 x).trans (h.2 x)⟩
theorem Stb.app {a b c d : List α} (h : Stb lt a b) (h' : Stb lt c d) : Stb lt (a ++ c) (b ++ d) := ⟨h.1.append h'.1, fun x => by simp only [List.filter_append, h.2 x, h'.2 x]⟩
theorem Stb.mem {l r : List α} (h : Stb lt l r) {x : α} : x ∈ r ↔ x ∈ l := h.1.mem_iff
theorem Stb.len {l r : List α} (h : Stb lt l r) : r.length = l.length := h.1.length_eq
theorem zi1 (a : α) {X : List α} (h : ∀ x ∈ X, eqv2 lt a x = false) : X.filter (eqv2 lt a) = [] := by
  rw [List.filter_eq_nil_iff]; intro x hx; simp [h x hx]
theorem Stb.swap (hs : Swo lt) {X Y : List α} (h : ∀ x ∈ X, ∀ y ∈ Y, lt y x = true) : Stb lt (X ++ Y) (Y ++ X) := by
  refine ⟨List.perm_append_comm, fun a => ?_⟩
  simp only [List.filter_append]
  by_cases hx : ∃ x ∈ X, eqv2 lt a x = true
  · obtain ⟨x, hx, ex⟩ := hx
    have : Y.filter (eqv2 lt a) = [] := zi1 a fun y hy => by
      cases e : eqv2 lt a y with
      | false => rfl
      | true =>
        have h1 := zek.1 e
        have h2 := zek.1 ex
        have := hs.ntr y a x h1.2 h2.1
        rw [h x hx y hy] at this; cases this
    rw [this]; simp
  · have : X.filter (eqv2 lt a) = [] := zi1 a fun x hx' => by
      cases e : eqv2 lt a x with
      | false => rfl
      | true => exact absurd ⟨x, hx', e⟩ hx
    rw [this]; simp
theorem Srt.app {a b : List α} (h : Srt lt a) (h' : Srt lt b) (hc : ∀ x ∈ a, ∀ y ∈ b, lt y x = false) : Srt lt (a ++ b) := List.pairwise_append.2 ⟨h, h', hc⟩
theorem Srt.parts {a b : List α} (h : Srt lt (a ++ b)) : Srt lt a ∧ Srt lt b ∧ ∀ x ∈ a, ∀ y ∈ b, lt y x = false := List.pairwise_append.1 h
theorem Srt.unique (hs : Swo lt) : ∀ {r r' : List α}, Srt lt r → Srt lt r' → Stb lt r r' → r = r'
  | [], r', _, _, h => by
    have := h.len; simp at this; exact this.symm
  | x :: r, r', hr, hr', h => by
    cases r' with
    | nil => have := h.len; simp at this
    | cons y r' =>
      have hr1 := List.pairwise_cons.1 hr
      have hr2 := List.pairwise_cons.1 hr'
      have h1 : lt y x = false := by
        rcases List.mem_cons.1 (h.mem.1 (List.mem_cons_self (a := y))) with e | e
        · rw [e]; exact hs.irr _
        · exact hr1.1 y e
      have h2 : lt x y = false := by
        rcases List.mem_cons.1 (h.mem.2 (List.mem_cons_self (a := x))) with e | e
        · rw [e]; exact hs.irr _
        · exact hr2.1 x e
      have e1 : eqv2 lt x x = true := zek.2 ⟨hs.irr _, hs.irr _⟩
      have e2 : eqv2 lt x y = true := zek.2 ⟨h2, h1⟩
      have hf := h.2 x
      rw [List.filter_cons_of_pos e1, List.filter_cons_of_pos e2] at hf
      have hxy : y = x := (List.cons.inj hf).1
      subst hxy
      congr 1
      refine Srt.unique hs hr1.2 hr2.2 ⟨(List.perm_cons _).1 h.1, fun a => ?_⟩
      have := h.2 a
      simp only [List.filter_cons] at this
      split at this
      · exact (List.cons.inj this).2
      · exact this
/-- Merging by parts. -/
theorem z8h (hs : Swo lt) {A B C E R1 R2 : List α} (h1 : Srt lt (A ++ B)) (h2 : Srt lt (C ++ E)) (hA : ∀ x ∈ B, ∀ y ∈ C, lt y x = true) (hB : ∀ x ∈ A, ∀ y ∈ E, lt y x = false)
    (s1 : Srt lt R1) (t1 : Stb lt (A ++ C) R1) (s2 : Srt lt R2) (t2 : Stb lt (B ++ E) R2) : Srt lt (R1 ++ R2) ∧ Stb lt ((A ++ B) ++ (C ++ E)) (R1 ++ R2) := by
  refine ⟨s1.app s2 fun u hu v hv => ?_, ?_⟩
  · have hu := List.mem_append.1 (t1.mem.1 hu)
    have hv := List.mem_append.1 (t2.mem.1 hv)
    rcases hu with hu | hu <;> rcases hv with hv | hv
    · exact h1.parts.2.2 u hu v hv
    · exact hB u hu v hv
    · exact hs.asym _ _ (hA v hv u hu)
    · exact h2.parts.2.2 u hu v hv
  · have : Stb lt ((A ++ B) ++ (C ++ E)) ((A ++ C) ++ (B ++ E)) := by
      have := ((Stb.refl (lt := lt) A).app (Stb.swap hs hA)).app (Stb.refl E)
      simpa [List.append_assoc] using this
    exact this.trans (t1.app t2)
theorem z9b (hs : Swo lt) {y c x b : α} (h1 : lt c y = false) (h2 : lt c b = true) (h3 : lt x b = false) : lt y x = true := by
  cases e : lt y x with
  | true => rfl
  | false =>
    have := hs.ntr _ _ _ (hs.ntr _ _ _ h1 e) h3
    rw [h2] at this; cases this
theorem zfb (hs : Swo lt) {y e x a : α} (h1 : lt y e = false) (h2 : lt e a = false) (h3 : lt a x = false) : lt y x = false := hs.ntr _ _ _ (hs.ntr _ _ _ h1 h2) h3
/-- Inserting after all that are not later. -/
theorem zd9 (hs : Swo lt) {A B : List α} {x : α} (h : ∀ y ∈ B, lt x y = true) : Stb lt (A ++ B ++ [x]) (A ++ [x] ++ B) := by
  have := (Stb.refl (lt := lt) A).app (Stb.swap hs (X := B) (Y := [x]) fun z hz y hy => by simp at hy; subst hy; exact h z hz)
  simpa [List.append_assoc] using this
/-- A binary search. -/
theorem zdj {ρ : Type} (L : Nat → Int → Int → Option ρ) (k : Int → Option ρ) (pred : Nat → Bool) (R : Nat) (s0 : Nat)
    (step : ∀ n s r : Nat, s0 ≤ s → s < r → r ≤ R → L (n + 1) s r = if pred ((s + r) / 2) = true then L n (((s + r) / 2 + 1 : Nat)) r else L n s ((s + r) / 2 : Nat)) (done : ∀ n s : Nat, L (n + 1) s s = k s) :
    ∀ n s r : Nat, s0 ≤ s → s ≤ r → r ≤ R → r - s < n → ∃ c : Nat, s ≤ c ∧ c ≤ r ∧ (c = s ∨ pred (c - 1) = true) ∧ (c = r ∨ pred c = false) ∧ L n s r = k c := by
  intro n
  induction n with
  | zero => intro s r _ _ _ h; omega
  | succ n ih =>
    intro s r h0 h hR hn
    by_cases e : s = r
    · subst e; exact ⟨s, Nat.le_refl _, Nat.le_refl _, .inl rfl, .inl rfl, done n s⟩
    · rw [step n s r h0 (by omega) hR]
      cases hp : pred ((s + r) / 2) with
      | true =>
        rw [if_pos rfl]
        obtain ⟨c, h1, h2, h3, h4, h5⟩ := ih ((s + r) / 2 + 1) r (by omega) (by omega) hR (by omega)
        refine ⟨c, by omega, h2, ?_, h4, h5⟩
        rcases h3 with h3 | h3
        · right; rw [h3]; simpa using hp
        · exact .inr h3
      | false =>
        rw [if_neg (by simp)]
        obtain ⟨c, h1, h2, h3, h4, h5⟩ := ih s ((s + r) / 2) h0 (by omega) (by omega) (by omega)
        refine ⟨c, h1, by omega, h3, ?_, h5⟩
        rcases h4 with h4 | h4
        · right; rw [h4]; exact hp
        · exact .inr h4
end
section arr
variable {α : Type} [Inhabited α]
theorem z71 {A B : List α} {x : α} {i : Int} (h : i = A.length) : gt (A ++ x :: B) i = x := by
  subst h; rw [z64 _ _ _ (Int.le_refl _)]; simp [gt]
omit [Inhabited α] in
theorem z90 {A B : List α} {x y : α} {i : Int} (h : i = A.length) : z2x (A ++ x :: B) i y = A ++ y :: B := by
  subst h; simp [z2x]
theorem zfp {n : Int} (h0 : 0 ≤ n) (h : n ≤ 4611686018427387904) : W ((U (W n)).fdiv 2) = n / 2 := by
  rw [W_id (x := n) (by omega) (by omega), U_id h0 (by omega), Int.fdiv_eq_ediv_of_nonneg _ (by omega), W_id (by omega) (by omega)]
end arr
/-- A comparing function answers on D, and says lt. -/
def Cmp {α : Type} (D : α → Prop) (y : α → α → Option Int) (lt : α → α → Bool) : Prop := ∀ a b, D a → D b → ∃ z, y a b = some z ∧ decide (z < 0) = lt a b
theorem zfc {α : Type} [Inhabited α] {p : Prop} [Decidable p] {x : Option α} (h : p) : z5l p x = x := if_pos h
theorem zip {α : Type} [Inhabited α] {p : Prop} [Decidable p] {x : Option α} (h : ¬ p) : z5l p x = some default := if_neg h
theorem z6f {α : Type} (l : List α) : l = [] ∨ ∃ S w, l = S ++ [w] := by
  rcases List.eq_nil_or_concat l with h | ⟨S, w, h⟩
  · exact .inl h
  · exact .inr ⟨S, w, by rw [h, List.concat_eq_append]⟩
/-- Sorted blocks of bs elements, the last one perhaps shorter. -/
inductive Runs {α : Type} (lt : α → α → Bool) (bs : Nat) : List α → Prop
  | last {l : List α} (h : l.length ≤ bs) (hs : Srt lt l) : Runs lt bs l
  | cons {b r : List α} (h : b.length = bs) (hs : Srt lt b) (hr : Runs lt bs r) : Runs lt bs (b ++ r)
theorem Runs.small {α : Type} {lt : α → α → Bool} {bs : Nat} {l : List α} (h : Runs lt bs l) (hl : l.length ≤ bs) : Srt lt l := by
  cases h with
  | last _ hs => exact hs
  | cons h hs hr =>
    rename_i b r
    have : r = [] := List.eq_nil_of_length_eq_zero (by simp at hl; omega)
    rw [this, List.append_nil]; exact hs
theorem Runs.big {α : Type} {lt : α → α → Bool} {bs : Nat} {l : List α} (h : Runs lt bs l) (hl : bs < l.length) : ∃ b r, l = b ++ r ∧ b.length = bs ∧ Srt lt b ∧ Runs lt bs r ∧ r ≠ [] := by
  cases h with
  | last h _ => omega
  | cons h hs hr =>
    rename_i b r
    exact ⟨b, r, rfl, h, hs, hr, by intro e; subst e; simp at hl; omega⟩
end Px
end
section
namespace Px
open Go
set_option linter.unusedVariables false
set_option linter.unusedSimpArgs false
def cmpI (a b : Int) : Int := if a < b then -1 else if b < a then 1 else 0
def orI : List Int → Int
  | [] => 0
  | x :: l => if x = 0 then orI l else x
theorem zer {a b : Int} : cmpI a b < 0 ↔ a < b := by unfold cmpI; split <;> (try split) <;> omega
theorem zfj {a b : Int} : cmpI a b = 0 ↔ a = b := by unfold cmpI; split <;> (try split) <;> omega
theorem zfe {x : Int} {l : List Int} : orI (x :: l) < 0 ↔ x < 0 ∨ x = 0 ∧ orI l < 0 := by
  simp only [orI]; split <;> omega
theorem zdk : ¬ orI [] < 0 := by decide
theorem z8q (φ : Nat) (a b : Int) : z5k φ a b = some (cmpI a b) := by
  simp only [z5k, zb1, bne_self_eq_false, Option.bind_some, Bool.false_eq_true, if_false, cmpI, decide_eq_true_eq]
  split
  · rfl
  · split <;> rfl
theorem zil (φ : Nat) (l : List Int) (hl : l.length ≤ 1000000) : ∀ (n i : Nat), i ≤ l.length → l.length - i < n → z9i φ l (z9n φ) n (i : Int) = some (orI (l.drop i)) := by
  intro n
  induction n with
  | zero => intro i _ h; omega
  | succ n ih =>
    intro i hi hn
    rw [z9i]
    by_cases h : i = l.length
    · rw [if_neg (by simp; omega), h, List.drop_length]; rfl
    · rw [if_pos (by simp; omega), z06 ⟨by omega, by omega⟩, zln l i (by omega)]
      have w : W ((i : Int) + 1) = ((i + 1 : Nat) : Int) := by rw [W_id (by omega) (by omega)]; simp
      rw [w, ih (i + 1) (by omega) (by omega)]
      simp only [orI]
      by_cases q : gt l (i : Int) = 0
      · rw [if_neg (by simp [q]), if_pos q]
      · rw [if_pos (by simp [q]), if_neg q]
theorem zcx (φ : Nat) (l : List Int) (hl : l.length ≤ 1000000) (hφ : l.length < φ) : zc5 φ l = some (orI l) := by
  have := zil φ l hl φ 0 (Nat.zero_le _) (by omega)
  simpa [zc5] using this
def refC (a b : Ref) : Int := orI [cmpI a.fRailway b.fRailway, cmpI a.fNo b.fNo]
theorem zgw (φ : Nat) (hφ : 3 < φ) (a b : Ref) : z40 φ a b = some (refC a b) := by
  simp only [z40, z8q, Option.bind_some]
  rw [zcx φ _ (by simp) (by simp; omega)]
  rfl
def matC (a b : z3) : Int := orI [cmpI a.fAt b.fAt, cmpI a.fWagon b.fWagon, refC a.fDeliver b.fDeliver]
theorem zj5 (φ : Nat) (hφ : 4 < φ) (a b : z3) : z4e φ a b = some (matC a b) := by
  simp only [z4e, z8q, zgw φ (by omega : 3 < φ), Option.bind_some]
  rw [zcx φ _ (by simp) (by simp; omega)]
  rfl
def zlj (l : List zf) (i k : Int) : Int := orI [cmpI (gt l i).fItem.fFrom (gt l k).fItem.fFrom, refC (gt l i).fRef (gt l k).fRef]
theorem zii (φ : Nat) (hφ : 3 < φ) (l : List zf) (i k : Int) (h1 : 0 ≤ i ∧ i < (l.length : Int)) (h2 : 0 ≤ k ∧ k < (l.length : Int)) : z4d φ i k l = some (zlj l i k) := by
  unfold z4d
  rw [z06 h1, z06 h2]
  simp only [z8q, zgw φ hφ, Option.bind_some]
  rw [zcx φ _ (by simp) (by simp; omega)]
  rfl
def zqr (a b : Ref) : Bool := decide (refC a b < 0)
def zh6 (a b : z3) : Bool := decide (matC a b < 0)
def zap (l : List zf) (i k : Int) : Bool := decide (zlj l i k < 0)
theorem zdm {a b : Ref} : refC a b < 0 ↔ a.fRailway < b.fRailway ∨ a.fRailway = b.fRailway ∧ a.fNo < b.fNo := by
  unfold refC; rw [zfe, zfe, zer, zfj, zer, zfj]; simp [zdk]
theorem zix {a b : z3} : matC a b < 0 ↔ a.fAt < b.fAt ∨ a.fAt = b.fAt ∧ (a.fWagon < b.fWagon ∨ a.fWagon = b.fWagon ∧ refC a.fDeliver b.fDeliver < 0) := by
  unfold matC; rw [zfe, zfe, zfe, zer, zfj, zer, zfj]; simp [zdk]
theorem zh5 {l : List zf} {i k : Int} : zlj l i k < 0 ↔ (gt l i).fItem.fFrom < (gt l k).fItem.fFrom ∨ (gt l i).fItem.fFrom = (gt l k).fItem.fFrom ∧ refC (gt l i).fRef (gt l k).fRef < 0 := by
  unfold zlj; rw [zfe, zfe, zer, zfj]; simp [zdk]
theorem swo_ref : Swo zqr := by
  constructor
  · intro a b h
    simp only [zqr, decide_eq_true_eq, decide_eq_false_iff_not, zdm] at h ⊢; omega
  · intro a b c h h'
    simp only [zqr, decide_eq_false_iff_not, zdm] at h h' ⊢; omega
theorem zd4 : Swo zh6 := by
  constructor
  · intro a b h
    simp only [zh6, decide_eq_true_eq, decide_eq_false_iff_not, zix, zdm] at h ⊢; omega
  · intro a b c h h'
    simp only [zh6, decide_eq_false_iff_not, zix, zdm] at h h' ⊢; omega
theorem zc4 (l : List zf) : Swo (zap l) := by
  constructor
  · intro a b h
    simp only [zap, decide_eq_true_eq, decide_eq_false_iff_not, zh5, zdm] at h ⊢; omega
  · intro a b c h h'
    simp only [zap, decide_eq_false_iff_not, zh5, zdm] at h h' ⊢; omega
theorem zpo (φ : Nat) (hφ : 4 < φ) : Cmp (fun _ => True) (fun a b => z4e φ a b) zh6 := fun a b _ _ => ⟨_, zj5 φ hφ a b, rfl⟩
theorem zn5 (φ : Nat) (hφ : 3 < φ) (l : List zf) : Cmp (fun i => 0 ≤ i ∧ i < (l.length : Int)) (fun a b => z4d φ a b l) (zap l) := fun a b h1 h2 => ⟨_, zii φ hφ l a b h1 h2, rfl⟩
end Px
end
section
namespace Px
open Go
set_option linter.unusedVariables false
set_option linter.unusedSimpArgs false
theorem Pool.eta' (p : Pool) : Pool.mk p.fNetwork p.fFleet p.fReaders p.fShippers p.fRailways = p := rfl
theorem Item.eta' (x : Item) : Item.mk x.fKind x.fRef x.fWagon x.fPlace x.fOther x.fNumber x.fFrom x.fTo x.fCode x.fDest x.fClass x.fWeight x.fAmount x.fText x.fParts = x := rfl
theorem zf.eta' (x : zf) : zf.mk x.fRef x.fBy x.fTime x.fItem = x := rfl
theorem za1 {n b : Nat} (h : n ≤ 1000000) (hb : b ≤ 1000000) : fits n b := by
  have : n * b ≤ 1000000 * 1000000 := Nat.mul_le_mul h hb
  unfold fits
  first | omega | (constructor <;> omega)
def idxF {α : Type} [Inhabited α] (p : α → Bool) (l : List α) : List Int := ((List.range l.length).filter fun (i : Nat) => p (gt l (i : Int))).map fun (i : Nat) => (i : Int)
theorem z95 {α : Type} [Inhabited α] {p : α → Bool} {l : List α} {i : Int} : i ∈ idxF p l ↔ 0 ≤ i ∧ i < (l.length : Int) ∧ p (gt l i) = true := by
  simp only [idxF, List.mem_map, List.mem_filter, List.mem_range]
  constructor
  · rintro ⟨a, ⟨h1, h2⟩, rfl⟩
    exact ⟨by omega, by omega, h2⟩
  · rintro ⟨h1, h2, h3⟩
    refine ⟨i.toNat, ⟨by omega, ?_⟩, by omega⟩
    rw [Int.toNat_of_nonneg h1]; exact h3
theorem zh4 {α : Type} [Inhabited α] (p : α → Bool) (l : List α) : (idxF p l).length ≤ l.length := by
  simp only [idxF, List.length_map]
  exact Nat.le_trans (List.length_filter_le _ _) (by simp)
theorem zk7 {α : Type} [Inhabited α] (p : α → Bool) (l : List α) : (idxF p l).Nodup := by
  unfold idxF
  refine List.Pairwise.map _ (fun a b h => ?_) ((List.nodup_range (n := l.length)).filter _)
  intro e; exact h (by omega)
theorem of_eq (φ : Nat) (p : Pool) (l : List zf) (kind : Int) (ok : Item → Bool) (hl : l.length ≤ 100000) (hφ : l.length < φ)
    (hok : ∀ r ∈ l, r.fItem.fKind = kind → ∃ e, z8r φ p r.fItem = some e ∧ (e == 0) = ok r.fItem) :
    z76 φ p l kind = some (idxF (fun r => r.fItem.fKind == kind && ok r.fItem) l) := by
  unfold z76
  refine z74 (z3o φ p l kind (z4z φ)) l.length (fun i s => s = ((List.range i).filter fun (j : Nat) => (gt l (j : Int)).fItem.fKind == kind && ok (gt l (j : Int)).fItem).map fun (j : Nat) => (j : Int))
    (fun o => o = some (idxF (fun r => r.fItem.fKind == kind && ok r.fItem) l)) ?_ ?_ φ [] rfl hφ
  · intro n i s hi hs hk
    have hsl : s.length ≤ i := by rw [hs, List.length_map]; exact Nat.le_trans (List.length_filter_le _ _) (by simp)
    have hnext : ((List.range (i + 1)).filter fun (j : Nat) => (gt l (j : Int)).fItem.fKind == kind && ok (gt l (j : Int)).fItem).map (fun (j : Nat) => (j : Int)) = if ((gt l (i : Int)).fItem.fKind == kind && ok (gt l (i : Int)).fItem) = true then s ++ [(i : Int)] else s := by
      rw [List.range_succ, List.filter_append, List.map_append, ← hs]
      cases h : ((gt l (i : Int)).fItem.fKind == kind && ok (gt l (i : Int)).fItem) <;> simp [h]
    rw [z3o, if_pos (by simp; omega), z06 ⟨by omega, by omega⟩]
    have w : W ((i : Int) + 1) = (i : Int) + 1 := W_id (by omega) (by omega)
    simp only [Pool.eta', Item.eta', z6j, w]
    by_cases q : (gt l (i : Int)).fItem.fKind = kind
    · obtain ⟨e, h1, h2⟩ := hok (gt l (i : Int)) (z91 (by omega) (by omega)) q
      rw [zfc (by simp [q]), h1]
      simp only [Option.bind_some]
      rw [show (e == 0) = ok (gt l (i : Int)).fItem from h2]
      split
      · rename_i h
        rw [z06 (za1 (by simp; omega) (by omega))]
        exact hk _ (by rw [hnext, if_pos h])
      · rename_i h
        exact hk _ (by rw [hnext, if_neg h])
    · rw [zip (by simp [q])]
      simp only [Option.bind_some]
      have hq : ((gt l (i : Int)).fItem.fKind == kind) = false := by simp [q]
      rw [hq, Bool.false_and, if_neg (by simp)]
      exact hk _ (by rw [hnext, hq]; simp)
  · intro n s hs
    rw [z3o, if_neg (by simp), hs]
    rfl
end Px
end
