/- A part of the proof of handoverOrder_holds. Conditions: none. -/
import Derived.Test.YteljjchaealkoaaOrd
section
set_option linter.unusedVariables false
set_option linter.unusedSimpArgs false
set_option maxHeartbeats 4000000
set_option maxRecDepth 100000
namespace Px
open Go Go.RowKit Go.Proofs
theorem z8o {P : Program} (H : P = Try.prog) (φ : Nat) (v1 : (List z3)) (v3 : Int) (y4 : (z3 → z3 → Option Int)) (sv2 : Value) (r : (List z3)) (h : z49 φ v1 v3 y4 = some r) : MutT P 55 [(eqv sv2), (iv .i64 v3), (fcmp P (fun x => (agg (z5 x))) y4)] 70 z5 10 v1 sv2 (fun x l' => x = eqv (.tuple #[]) ∧ r = l') := by
 unfold z49 at h
 refine MutT.of_code 63 (fn55 H) rfl rfl (Nat.le_of_ble_eq_true rfl) fun w0 base r0 wI => ?_
 refine cl [0, 1, 2] [0] rfl rfl rfl (cs (cr [0] rfl (q1 rfl (z1 ct) (rn (al [0, 1, 2, 6] [0] rfl rfl rfl (sq (cs (cr [0, 1, 2] rfl (q1 rfl (z0 (mv rfl)) (q1 rfl (z1 ct) (q1 rfl (z1 (mv rfl)) ?_)))))))))))
 refine rn (al [0, 1, 2, 6, 7, 8] [0] rfl rfl rfl (sq (cs ?_)))
 refine z2.join (fun z : Int × (List z3) => (z00 φ v3 y4) z.1 z.2) r (fun z => ⟨zl.of [(0, (eqv sv2)), (1, (iv .i64 v3)), (2, (fcmp P (fun x => (agg (z5 x))) y4)), (6, (iv .i64 20)), (7, (iv .i64 z.1))], [(row 70 z5 10 z.2 sv2)]⟩) (fun z h => ?_) (fun hJ7 => ?_)
 ·
  obtain ⟨v5, v6⟩ := z
  replace h : (z00 φ v3 y4) v5 v6 = some r := h
  unfold z00 at h
  refine al [0, 1, 2, 6, 7] [0] rfl rfl rfl (sq (cs (cr [0, 1, 2, 3, 4] rfl (q1 rfl (z0 (mv rfl)) (q1 rfl (z0 (mv rfl)) (q1 rfl (z0 (mv rfl)) (q1 rfl (z0 (mv rfl)) (z02 h fun y8 ey8 h => n1 rfl (z3m 0 rfl (fun x => (z53 x).mem) (zpr H) (args := [(eqv sv2), (iv .i64 v5), (iv .i64 v3), (fcmp P (fun x => (agg (z5 x))) y4)]) ⟨(mv rfl), (mv rfl), (mv rfl), (mv rfl), trivial⟩ (z5k H φ v6 v5 v3 y4 sv2 _ ey8) fun x9 nw10 hk11 => ?_)))))))))
  obtain ⟨rfl, rfl⟩ := hk11
  refine ⟨z6, ?_⟩
  refine rn (al [0, 1, 2, 6] [0] rfl rfl rfl (sq (z2.block ?_)))
  refine z2.to (z2.loop (fun n (z : Int × (List z3)) => ze φ v3 y4 n z.1 z.2) r (fun z => ⟨zl.of [(0, (eqv sv2)), (1, (iv .i64 v3)), (2, (fcmp P (fun x => (agg (z5 x))) y4)), (6, (iv .i64 z.1))], [(row 70 z5 10 z.2 sv2)]⟩) (fun z => rfl) (fun n14 z ih14 h => ?_) φ (20, y8) h) [0] (sl rfl) (ol rfl) rfl
  obtain ⟨v12, v13⟩ := z
  replace h : ze φ v3 y4 (n14 + 1) v12 v13 = some r := h
  rw [ze] at h
  refine cs (cs (cr [0, 1, 2] rfl (q1 rfl (z0 (mv rfl)) (q1 rfl (z0 (mv rfl)) (q1 rfl (z28 (mv rfl) (mv rfl)) (rn (al [0, 1, 2, 6, 30] [0] rfl rfl rfl (sq ?_))))))))
  refine cI h rfl (fun c15 h => ?_) (fun c15 h => ?_)
  ·
   refine z2.skip (al [0, 1, 2, 6] [0] rfl rfl rfl (sq (z2.block (cs (cr [0, 1, 2, 3] rfl (q1 rfl (z0 (mv rfl)) (q1 rfl (z99 ct (mv rfl)) (q1 rfl (z1 ct) (q1 rfl (z1 (mv rfl)) (rn (al [0, 1, 2, 6, 7, 8] [0] rfl rfl rfl ?_)))))))))))
   refine sq (cs ?_)
   refine z2.join (fun z : Int × (List z3) => (z0s φ v3 y4 v12 (ze φ v3 y4 n14)) z.1 z.2) r (fun z => ⟨zl.of [(0, (eqv sv2)), (1, (iv .i64 v3)), (2, (fcmp P (fun x => (agg (z5 x))) y4)), (6, (iv .i64 v12)), (7, (iv .i64 z.1))], [(row 70 z5 10 z.2 sv2)]⟩) (fun z h => ?_) (fun hJ18 => ?_)
   ·
    obtain ⟨v16, v17⟩ := z
    replace h : (z0s φ v3 y4 v12 (ze φ v3 y4 n14)) v16 v17 = some r := h
    unfold z0s at h
    refine al [0, 1, 2, 6, 7] [0] rfl rfl rfl (sq (cs (cs (cr [0, 1, 2, 3] rfl (q1 rfl (z0 (mv rfl)) (q1 rfl (z0 (mv rfl)) (q1 rfl (z14 (mv rfl) (mv rfl)) (q1 rfl (z1 (mv rfl)) (rn (al [0, 1, 2, 6, 7, 9] [0] rfl rfl rfl (sq ?_)))))))))))
    refine cs (cr [0, 1, 2] rfl (q1 rfl (z0 (mv rfl)) (q1 rfl (z0 (mv rfl)) (q1 rfl (z28 (mv rfl) (mv rfl)) (rn (al [0, 1, 2, 6, 7, 9, 54] [0] rfl rfl rfl (sq ?_)))))))
    refine z2.join (fun z : (List z3) => (z26 φ v12 (ze φ v3 y4 n14)) z) r (fun z => ⟨zl.of [(0, (eqv sv2)), (1, (iv .i64 v3)), (2, (fcmp P (fun x => (agg (z5 x))) y4)), (6, (iv .i64 v12))], [(row 70 z5 10 z sv2)]⟩) (fun v19 h => ?_) (fun hJ20 => ?_)
    ·
     replace h : (z26 φ v12 (ze φ v3 y4 n14)) v19 = some r := h
     unfold z26 at h
     refine al [0, 1, 2, 6] [0] rfl rfl rfl (sq (cr [0, 1, 2] rfl (q1 rfl (z0 (mv rfl)) (q1 rfl (z99 (mv rfl) ct) (q1 rfl (z1 (mv rfl)) (rn (AtX.in_normal ?_)))))))
     exact AtX.to (ih14 ((W (v12 * 2)), v19) h) [0] (sl rfl) (ol rfl) rfl
    ·
     refine cI h rfl (fun c21 h => ?_) (fun c21 h => ?_)
     ·
      refine cr [0, 1, 2, 3, 4, 5] rfl (q1 rfl (z0 (mv rfl)) (q1 rfl (z0 (mv rfl)) (q1 rfl (z0 (mv rfl)) (q1 rfl (z0 (mv rfl)) (q1 rfl (z0 (mv rfl)) (z02 h fun y22 ey22 h => n1 rfl (z3m 0 rfl (fun x => (z53 x).mem) (zkr H) (args := [(eqv sv2), (iv .i64 v16), (iv .i64 (W (v16 + v12))), (iv .i64 v3), (fcmp P (fun x => (agg (z5 x))) y4)]) ⟨(mv rfl), (mv rfl), (mv rfl), (mv rfl), (mv rfl), trivial⟩ (z6g H φ v17 v16 (W (v16 + v12)) v3 y4 sv2 _ ey22) fun x23 nw24 hk25 => ?_)))))))
      obtain ⟨rfl, rfl⟩ := hk25
      refine ⟨z6, ?_⟩
      refine rn ?_
      exact AtX.to (hJ20 y22 h) [0] (sl rfl) (ol rfl) rfl
     ·
      refine z2.skip ?_
      exact AtX.to (hJ20 v17 h) [0] (sl rfl) (ol rfl) rfl
   ·
    refine z2.block ?_
    refine z2.to (z2.loop (fun n (z : Int × Int × (List z3)) => z1d φ v3 y4 v12 (z0s φ v3 y4 v12 (ze φ v3 y4 n14)) n z.1 z.2.1 z.2.2) r (fun z => ⟨zl.of [(0, (eqv sv2)), (1, (iv .i64 v3)), (2, (fcmp P (fun x => (agg (z5 x))) y4)), (6, (iv .i64 v12)), (7, (iv .i64 z.1)), (8, (iv .i64 z.2.1))], [(row 70 z5 10 z.2.2 sv2)]⟩) (fun z => rfl) (fun n29 z ih29 h => ?_) φ (0, (W (2 * v12)), v13) h) [0] (sl rfl) (ol rfl) rfl
    obtain ⟨v26, v27, v28⟩ := z
    replace h : z1d φ v3 y4 v12 (z0s φ v3 y4 v12 (ze φ v3 y4 n14)) (n29 + 1) v26 v27 v28 = some r := h
    rw [z1d] at h
    refine cs (cs (cr [0, 1, 2] rfl (q1 rfl (z0 (mv rfl)) (q1 rfl (z0 (mv rfl)) (q1 rfl (zat (mv rfl) (mv rfl)) (rn (al [0, 1, 2, 6, 7, 8, 35] [0] rfl rfl rfl (sq ?_))))))))
    refine cI h rfl (fun c30 h => ?_) (fun c30 h => ?_)
    ·
     refine z2.skip (al [0, 1, 2, 6, 7, 8] [0] rfl rfl rfl (sq (z2.block (cs (cr [0, 1, 2, 3, 4, 5, 6, 7] rfl (q1 rfl (z0 (mv rfl)) (q1 rfl (z0 (mv rfl)) (q1 rfl (z0 (mv rfl)) (q1 rfl (z0 (mv rfl)) (q1 rfl (z14 (mv rfl) (mv rfl)) (q1 rfl (z0 (mv rfl)) ?_)))))))))))
     refine q1 rfl (z0 (mv rfl)) (z02 h fun y31 ey31 h => n1 rfl (z3m 0 rfl (fun x => (z53 x).mem) (zkr H) (args := [(eqv sv2), (iv .i64 v26), (iv .i64 (W (v26 + v12))), (iv .i64 v27), (fcmp P (fun x => (agg (z5 x))) y4)]) ⟨(mv rfl), (mv rfl), (mv rfl), (mv rfl), (mv rfl), trivial⟩ (z6g H φ v28 v26 (W (v26 + v12)) v27 y4 sv2 _ ey31) fun x32 nw33 hk34 => ?_))
     obtain ⟨rfl, rfl⟩ := hk34
     refine ⟨z6, ?_⟩
     refine rn (al [0, 1, 2, 6, 8] [0] rfl rfl rfl (sq (cs (cr [0, 1] rfl (q1 rfl (z0 (mv rfl)) (q1 rfl (z1 (mv rfl)) (rn (al [0, 1, 2, 6, 7, 8] [0] rfl rfl rfl (sq (cr [0, 1, 2, 3, 4] rfl (q1 rfl (z0 (mv rfl)) ?_)))))))))))
     refine q1 rfl (z0 (mv rfl)) (q1 rfl (z99 ct (mv rfl)) (q1 rfl (z14 (mv rfl) (mv rfl)) (q1 rfl (z1 (mv rfl)) (rn (AtX.in_normal ?_)))))
     exact AtX.to (ih29 (v27, (W (v27 + (W (2 * v12)))), y31) h) [0] (sl rfl) (ol rfl) rfl
    ·
     refine z2.exit (AtX.then_exit (AtX.then_exit (AtX.in_hit ?_)))
     exact AtX.to (hJ18 (v26, v28) h) [0] (sl rfl) (ol rfl) rfl
  ·
   refine z2.exit (AtX.then_exit (AtX.then_exit (AtX.in_hit (AtX.fall' (eqv (.tuple #[])) (z0m.zero Try.results55) [0] [(row 70 z5 10 v13 sv2)] (ol rfl) rfl ?_))))
   obtain rfl := Option.some.inj h
   exact ⟨_, rfl, rfl, rfl⟩
 ·
  refine z2.block ?_
  refine z2.to (z2.loop (fun n (z : Int × Int × (List z3)) => z0t φ v3 y4 (z00 φ v3 y4) n z.1 z.2.1 z.2.2) r (fun z => ⟨zl.of [(0, (eqv sv2)), (1, (iv .i64 v3)), (2, (fcmp P (fun x => (agg (z5 x))) y4)), (6, (iv .i64 20)), (7, (iv .i64 z.1)), (8, (iv .i64 z.2.1))], [(row 70 z5 10 z.2.2 sv2)]⟩) (fun z => rfl) (fun n38 z ih38 h => ?_) φ (0, 20, v1) h) [0] (sl rfl) (ol rfl) rfl
  obtain ⟨v35, v36, v37⟩ := z
  replace h : z0t φ v3 y4 (z00 φ v3 y4) (n38 + 1) v35 v36 v37 = some r := h
  rw [z0t] at h
  refine cs (cs (cr [0, 1, 2] rfl (q1 rfl (z0 (mv rfl)) (q1 rfl (z0 (mv rfl)) (q1 rfl (zat (mv rfl) (mv rfl)) (rn (al [0, 1, 2, 6, 7, 8, 13] [0] rfl rfl rfl (sq ?_))))))))
  refine cI h rfl (fun c39 h => ?_) (fun c39 h => ?_)
  ·
   refine z2.skip (al [0, 1, 2, 6, 7, 8] [0] rfl rfl rfl (sq (z2.block (cs (cr [0, 1, 2, 3, 4] rfl (q1 rfl (z0 (mv rfl)) (q1 rfl (z0 (mv rfl)) (q1 rfl (z0 (mv rfl)) (q1 rfl (z0 (mv rfl)) (z02 h fun y40 ey40 h => n1 rfl (z3m 0 rfl (fun x => (z53 x).mem) (zpr H) (args := [(eqv sv2), (iv .i64 v35), (iv .i64 v36), (fcmp P (fun x => (agg (z5 x))) y4)]) ⟨(mv rfl), (mv rfl), (mv rfl), (mv rfl), trivial⟩ (z5k H φ v37 v35 v36 y4 sv2 _ ey40) fun x41 nw42 hk43 => ?_)))))))))))
   obtain ⟨rfl, rfl⟩ := hk43
   refine ⟨z6, ?_⟩
   refine rn (al [0, 1, 2, 6, 8] [0] rfl rfl rfl (sq (cs (cr [0, 1] rfl (q1 rfl (z0 (mv rfl)) (q1 rfl (z1 (mv rfl)) (rn (al [0, 1, 2, 6, 7, 8] [0] rfl rfl rfl (sq (cr [0, 1, 2, 3] rfl (q1 rfl (z0 (mv rfl)) ?_)))))))))))
   refine q1 rfl (z0 (mv rfl)) (q1 rfl (z14 (mv rfl) (mv rfl)) (q1 rfl (z1 (mv rfl)) (rn (AtX.in_normal ?_))))
   exact AtX.to (ih38 (v36, (W (v36 + 20)), y40) h) [0] (sl rfl) (ol rfl) rfl
  ·
   refine z2.exit (AtX.then_exit (AtX.then_exit (AtX.in_hit ?_)))
   exact AtX.to (hJ7 (v35, v37) h) [0] (sl rfl) (ol rfl) rfl
theorem z8f {P : Program} (H : P = Try.prog) (φ : Nat) (v1 : (List z3)) (y3 : (z3 → z3 → Option Int)) (sv2 : Value) (r : (List z3)) (h : z31 φ v1 y3 = some r) : MutT P 32 [(eqv sv2), (fcmp P (fun x => (agg (z5 x))) y3)] 70 z5 10 v1 sv2 (fun x l' => x = eqv (.tuple #[]) ∧ r = l') := by
 unfold z31 at h
 refine MutT.of_code 9 (fn32 H) rfl rfl (Nat.le_of_ble_eq_true rfl) fun w0 base r0 wI => ?_
 refine cl [0, 1] [0] rfl rfl rfl (cr [0, 1, 2, 3, 4] rfl (q1 rfl (z0 (mv rfl)) (q1 rfl (z0 (mv rfl)) (q1 rfl (z8q 0 (il53 H) (mv rfl) rfl) (q1 rfl (z0 (mv rfl)) (z02 h fun y4 ey4 h => n1 rfl (z3m 0 rfl (fun x => (z53 x).mem) (zsk H) (args := [(eqv sv2), (iv .i64 (v1.length : Int)), (fcmp P (fun x => (agg (z5 x))) y3)]) ⟨(mv rfl), (mv rfl), (mv rfl), trivial⟩ (z8o H φ v1 (v1.length : Int) y3 sv2 _ ey4) fun x5 nw6 hk7 => ?_)))))))
 obtain ⟨rfl, rfl⟩ := hk7
 refine ⟨z6, ?_⟩
 refine rn (AtX.fall' (eqv (.tuple #[])) (z0m.zero Try.results32) [0] [(row 70 z5 10 y4 sv2)] (ol rfl) rfl ?_)
 obtain rfl := Option.some.inj h
 exact ⟨_, rfl, rfl, rfl⟩
theorem zbr {P : Program} (H : P = Try.prog) (φ : Nat) (v1 : z3) (v2 : z3) (r : (Int)) (h : z4p φ v1 v2 = some r) : z2g P 33 [(agg (z5 v1)), (agg (z5 v2))] (fun x news => x = (iv .i64 r) ∧ news = []) := by
 unfold z4p at h
 refine z2g.of_code' 22 (fn33 H) rfl rfl (Nat.le_of_ble_eq_true rfl) fun w0 base r0 wI => ?_
 refine cl [0, 1] [] rfl rfl rfl (cs (cr [0, 1, 2] rfl (n1 rfl (z8b (Ce.agg (mv rfl)) fun b3 => n1 rfl (z8b (Ce.agg (mv rfl)) fun b4 => q1 rfl (z1 ct) (rn (al [2, 3] [0, 1] rfl rfl rfl (sq (cs (z02 h fun y5 ey5 h => z02 h fun y6 ey6 h => ?_))))))))))
 refine z02 h fun y7 ey7 h => z02 h fun y11 ey11 h => z2.draw (QR := [(0, _), (1, _), (2, _), (3, _), (4, _), (5, _), (6, _), (7, _), (8, _), (9, _), (10, _), (11, _), (12, _), (13, _), (14, _)]) (tab := [(some 5, []), (some 6, [0]), (some 7, []), (some 8, [2]), (some 9, [1, 3]), (some 10, []), (some 11, [5]), (some 12, []), (some 13, [7]), (some 14, [6, 8, 4]), (some 15, []), (some 16, [10]), (some 17, []), (some 18, [12]), (some 19, [11, 13, 9]), (some 20, [4, 9, 14]), (some 21, [15, 14]), (some 4, [16, 16, 0, 1, 2, 3, 4, 5, 6, 7, 8, 9, 10, 11, 12, 13, 14, 15, 16])]) (z62 H) (Reg.intro [15] [] (by kernel_rfl) rfl (an rfl) ⟨(qr rfl (z4 (zgp H) (mv rfl))), (qr rfl (lb (tl3 H) 0 (mv rfl) rfl rfl)), (qr rfl (z4 (zgp H) (mv rfl))), (qr rfl (lb (tl3 H) 1 (mv rfl) rfl rfl)), (qr rfl (oQ (zgy H) (z7f H φ v1.fAt v2.fAt _ ey5) z6 ⟨ef (mv rfl), ef (mv rfl), trivial⟩)), (qr rfl (z4 (zo2 H) (mv rfl))), (qr rfl (lb (tl3 H) 0 (mv rfl) rfl rfl)), (qr rfl (z4 (zo2 H) (mv rfl))), (qr rfl (lb (tl3 H) 1 (mv rfl) rfl rfl)), (qr rfl (oQ (zgy H) (z7f H φ v1.fWagon v2.fWagon _ ey6) z6 ⟨ef (mv rfl), ef (mv rfl), trivial⟩)), (qr rfl (z4 (zph H) (mv rfl))), (qr rfl (ln (tl43 H) ((Pt.box 0 (mv rfl) rfl rfl).take 2 (cs' := (eRef v1.fDeliver)) rfl) rfl)), (qr rfl (z4 (zph H) (mv rfl))), (qr rfl (ln (tl43 H) ((Pt.box 1 (mv rfl) rfl rfl).take 2 (cs' := (eRef v2.fDeliver)) rfl) rfl)), (qr rfl (oQ (zke H) (z7x H φ v1.fDeliver v2.fDeliver _ ey7) z6 ⟨ef (mv rfl), ef (mv rfl), trivial⟩)), trivial⟩ ⟨⟨_, rfl, rfl, rfl, rfl, z1n (e := eI64) [y5, y6, y7] (sl96 H) lI64 rfl (by decide) ⟨rfl, (Ce.one (mv rfl) (One.eqv rfl)), ⟨rfl, (Ce.one (mv rfl) (One.eqv rfl)), ⟨rfl, (Ce.one (mv rfl) (One.eqv rfl)), trivial⟩⟩⟩ fun sv10 => ⟨[(16, (iv .i64 y11)), (17, (iv .i64 y11))], rfl, ?_⟩⟩, trivial⟩ ft)
 refine Reg.intro [] [0, 1, 2, 3, 4, 5, 6, 7, 8, 9, 10, 11, 12, 13, 14] (by kernel_rfl) rfl (an rfl) ⟨nf, nf, nf, nf, nf, nf, nf, nf, nf, nf, nf, nf, nf, nf, nf, (qr rfl (oQ (zkm H) (zck H φ [y5, y6, y7] _ ey11) z6 ⟨EvF.of (mv rfl) (FEnt.row 2 lI64 rfl), trivial⟩)), (qr rfl (z1 (mv rfl))), trivial⟩ trivial (fun _ => al [4] [] rfl rfl rfl (sq (z2.ret (AtX.ret' (iv .i64 y11) (z0m.one Try.results33 rfl) [] [] trivial rfl ?_))))
 obtain rfl := Option.some.inj h
 exact ⟨rfl, rfl⟩
theorem z5e {P : Program} (H : P = Try.prog) (φ : Nat) (v1 : Pool) (v2 : (List zb)) (r : ((List z3))) (h : z3f φ v1 v2 = some r) : z2g P 13 [(agg (z2w v1)), (ro zd 21 v2)] (zep r) := by
 unfold z3f at h
 refine z2g.of_code' 67 (fn13 H) rfl rfl (Nat.le_of_ble_eq_true rfl) fun w0 base r0 wI => ?_
 refine z2.le' [(0, (agg (z2w v1))), (1, (ro zd 21 v2))] [] [] ⟨⟨_, rfl, Ent.refl⟩, ⟨_, rfl, Ent.refl⟩, trivial⟩ trivial rfl ?_
 refine z2.seq ?_
 refine z2.addNil 70 z5 10 ?_
 refine z2.region' [0, 1] rfl ?_
 refine zj.cons rfl rfl rfl (z8b (cs := (z2w v1)) (Ce.agg (Ev.tmp rfl)) fun b3 => zj.cons_q (eqv (.slice none 0 0)) rfl rfl rfl (z1 (Ev.const _)) (zj.nil (AtX.le' [(1, (ro zd 21 v2)), (2, (eqv (.pointer (some ⟨b3, 0, none⟩))))] [1] [(box b3 36 (z2w v1))] ⟨⟨_, rfl, Ent.refl⟩, ⟨_, rfl, Ent.refl⟩, trivial⟩ ⟨⟨_, rfl, EntH.refl⟩, trivial⟩ rfl (AtX.seq ?_))))
 refine z2.seq ?_
 refine z2.addNil 70 z5 10 ?_
 refine z2.region' [0] rfl ?_
 refine zj.cons_q (eqv (.slice none 0 0)) rfl rfl rfl (z1 (Ev.const _)) (zj.nil (AtX.le' [(1, (ro zd 21 v2)), (2, (eqv (.pointer (some ⟨b3, 0, none⟩)))), (5, (eqv (Value.slice none 0 0)))] [0, 1] [(box b3 36 (z2w v1)), (row 70 z5 10 ([] : List z3) (Value.slice none 0 0))] ⟨⟨_, rfl, Ent.refl⟩, ⟨_, rfl, Ent.refl⟩, ⟨_, rfl, Ent.refl⟩, trivial⟩ ⟨⟨_, rfl, EntH.refl⟩, ⟨_, rfl, EntH.refl⟩, trivial⟩ rfl (AtX.seq ?_)))
 refine z2.seq ?_
 refine z2.seq ?_
 refine z2.region' [0, 1, 2, 3, 4] rfl ?_
 refine zj.cons_q (agg (z2w v1)) rfl rfl rfl (z61 (tl36 H) ((Pt.box 0 (Ev.tmp rfl) rfl rfl).take 9 (cs' := (z2w v1)) rfl)) (zj.cons_q (ro zd 21 v2) rfl rfl rfl (z0 (Ev.tmp rfl)) (z02 h fun y4 ey4 h => zj.cons rfl rfl rfl (zjq (zpl H) (args := [(agg (z2w v1)), (ro zd 21 v2)]) ⟨EvF.of (Ev.tmp rfl) FEnt.refl, EvF.of (Ev.tmp rfl) FEnt.refl, trivial⟩ (zab H φ v1 v2 _ ey4) fun x7 nw8 hk6 => ?_)))
 obtain ⟨sv5, rfl, rfl⟩ := hk6
 refine ⟨z6, z47 ⟨z3d zp7, trivial⟩, ?_⟩
 refine zj.cons_q (iv .i64 (y4.length : Int)) rfl rfl rfl (z8q 2 (il87 H) (Ev.tmp rfl) rfl) (zj.cons_q (iv .i64 0) rfl rfl rfl (z0 (Ev.const _)) (zj.nil (AtX.le' [(1, (ro zd 21 v2)), (5, (eqv (Value.slice none 0 0))), (12, (eqv sv5)), (13, (iv .i64 (y4.length : Int))), (14, (iv .i64 0))] [1, 2] [(row 70 z5 10 ([] : List z3) (Value.slice none 0 0)), (row 89 z5i 2 y4 sv5)] ⟨⟨_, rfl, Ent.refl⟩, ⟨_, rfl, Ent.refl⟩, ⟨_, rfl, Ent.refl⟩, ⟨_, rfl, Ent.refl⟩, ⟨_, rfl, Ent.refl⟩, trivial⟩ ⟨⟨_, rfl, EntH.refl⟩, ⟨_, rfl, EntH.refl⟩, trivial⟩ rfl (AtX.seq ?_))))
 refine z2.join (fun z : (List z3) × Value => (z3l φ) z.1) r (fun z => ⟨zl.of [(5, (eqv z.2))], [(row 70 z5 10 z.1 z.2)]⟩) (fun z h => ?_) (fun hJ11 => ?_)
 ·
  obtain ⟨v9, sv10⟩ := z
  replace h : (z3l φ) v9 = some r := h
  unfold z3l at h
  change AtX _ ⟨zl.of [(5, (eqv sv10))], [(row 70 z5 10 v9 sv10)]⟩ _ _
  refine AtX.le' [(5, (eqv sv10))] [0] [(row 70 z5 10 v9 sv10)] ⟨⟨_, rfl, Ent.refl⟩, trivial⟩ ⟨⟨_, rfl, EntH.refl⟩, trivial⟩ rfl (AtX.seq ?_)
  refine z2.seq ?_
  refine z2.region' [0, 1] rfl ?_
  refine zj.cons_q (eqv sv10) rfl rfl rfl (z0 (Ev.tmp rfl)) (z02 h fun y12 ey12 h => zj.cons rfl rfl rfl (z3m 0 rfl (fun x => (z53 x).mem) (zsz H) (args := [(eqv sv10), (fcmp P (fun x => (agg (z5 x))) (fun a b => z4p φ a b))]) ⟨(Ev.tmp rfl), (Ev.ent (Ev.ent (Ev.func _) zmu) (zc6 (zuf H) (fun a b cc hc => zbr H φ a b cc hc))), trivial⟩ (z8f H φ v9 (fun a b => z4p φ a b) sv10 _ ey12) fun x13 nw14 hk15 => ?_))
  obtain ⟨rfl, rfl⟩ := hk15
  refine ⟨z6, ?_⟩
  refine zj.nil (AtX.le' [(5, (eqv sv10))] [0] [(row 70 z5 10 y12 sv10)] ⟨⟨_, rfl, Ent.refl⟩, trivial⟩ ⟨⟨_, rfl, EntH.refl⟩, trivial⟩ rfl (AtX.seq ?_))
  refine z2.seq ?_
  refine z2.region' [0, 1] rfl ?_
  refine zj.cons_q (eqv sv10) rfl rfl rfl (z0 (Ev.tmp rfl)) (zj.cons_q (eqv sv10) rfl rfl rfl (z1 (Ev.tmp rfl)) (zj.nil (AtX.le' [(4, (eqv sv10))] [0] [(row 70 z5 10 y12 sv10)] ⟨⟨_, rfl, Ent.refl⟩, trivial⟩ ⟨⟨_, rfl, EntH.refl⟩, trivial⟩ rfl (AtX.seq (z2.ret (AtX.ret' (eqv sv10) (z0m.one Try.results13 rfl) [0] [(row 70 z5 10 y12 sv10)] ⟨⟨_, rfl, EntH.refl⟩, trivial⟩ rfl ?_))))))
  obtain rfl := Option.some.inj h
  exact ⟨sv10, rfl, rfl⟩
 ·
  refine z2.block ?_
  refine z2.to (z2.loop (fun n (z : Int × (List z3) × Value) => z2x φ v2 y4 (z3l φ) n z.1 z.2.1) r (fun z => ⟨zl.of [(1, (ro zd 21 v2)), (5, (eqv z.2.2)), (12, (eqv sv5)), (13, (iv .i64 (y4.length : Int))), (14, (iv .i64 z.1))], [(row 70 z5 10 z.2.1 z.2.2), (row 89 z5i 2 y4 sv5)]⟩) (fun z => rfl) (fun n19 z ih19 h => ?_) φ (0, ([] : List z3), (Value.slice none 0 0)) h) [0, 1] ⟨⟨_, rfl, Ent.refl⟩, ⟨_, rfl, Ent.refl⟩, ⟨_, rfl, Ent.refl⟩, ⟨_, rfl, Ent.refl⟩, ⟨_, rfl, Ent.refl⟩, trivial⟩ ⟨⟨_, rfl, EntH.refl⟩, ⟨_, rfl, EntH.refl⟩, trivial⟩ rfl
  obtain ⟨v16, v17, sv18⟩ := z
  replace h : z2x φ v2 y4 (z3l φ) (n19 + 1) v16 v17 = some r := h
  rw [z2x] at h
  change z2 _ _ ⟨zl.of [(1, (ro zd 21 v2)), (5, (eqv sv18)), (12, (eqv sv5)), (13, (iv .i64 (y4.length : Int))), (14, (iv .i64 v16))], [(row 70 z5 10 v17 sv18), (row 89 z5i 2 y4 sv5)]⟩ _
  refine z2.seq ?_
  refine z2.region' [0] rfl ?_
  refine zj.cons_q (bv (decide (v16 < (y4.length : Int)))) rfl rfl rfl (z28 (Ev.tmp rfl) (Ev.tmp rfl)) (zj.nil (AtX.le' [(1, (ro zd 21 v2)), (5, (eqv sv18)), (12, (eqv sv5)), (13, (iv .i64 (y4.length : Int))), (14, (iv .i64 v16)), (15, (bv (decide (v16 < (y4.length : Int)))))] [0, 1] [(row 70 z5 10 v17 sv18), (row 89 z5i 2 y4 sv5)] ⟨⟨_, rfl, Ent.refl⟩, ⟨_, rfl, Ent.refl⟩, ⟨_, rfl, Ent.refl⟩, ⟨_, rfl, Ent.refl⟩, ⟨_, rfl, Ent.refl⟩, ⟨_, rfl, Ent.refl⟩, trivial⟩ ⟨⟨_, rfl, EntH.refl⟩, ⟨_, rfl, EntH.refl⟩, trivial⟩ rfl (AtX.seq ?_)))
  refine z2.seq ?_
  refine cI h rfl (fun c20 h => ?_) (fun c20 h => ?_)
  ·
   refine z2.skip (AtX.le' [(1, (ro zd 21 v2)), (5, (eqv sv18)), (12, (eqv sv5)), (13, (iv .i64 (y4.length : Int))), (14, (iv .i64 v16))] [0, 1] [(row 70 z5 10 v17 sv18), (row 89 z5i 2 y4 sv5)] ⟨⟨_, rfl, Ent.refl⟩, ⟨_, rfl, Ent.refl⟩, ⟨_, rfl, Ent.refl⟩, ⟨_, rfl, Ent.refl⟩, ⟨_, rfl, Ent.refl⟩, trivial⟩ ⟨⟨_, rfl, EntH.refl⟩, ⟨_, rfl, EntH.refl⟩, trivial⟩ rfl (AtX.seq ?_))
   refine z2.seq ?_
   refine z2.block ?_
   refine z2.seq ?_
   refine z2.region' [0, 1, 2, 3] rfl ?_
   refine ckE h fun h21 h => zj.cons_q (rowp sv5 ((v16 : Int).toNat * 2)) rfl rfl rfl (zk 1 (ix87 H) (Ev.tmp rfl) rfl (Ev.tmp rfl) (h21).1 (h21).2) (zj.cons_q (agg (z5i (gt y4 v16))) rfl rfl rfl (zd6 (tl89 H) (by simp [zay lI64, z5i]) ((Pt.row _ 1 (k := (v16 : Int).toNat) (fo := 0) zkk (Ev.tmp rfl) rfl (by omega) (za h21) rfl).take 2 (cs' := (z5i (gt y4 v16))) rfl)) (zj.cons rfl rfl rfl (zhj (e := eI64) 0 [.int .i64 0] (za89 H) rfl rfl fun b22 => zj.cons rfl rfl rfl (zao 2 (cells := ([] ++ arr 2 eI64 (fun _ => 0) ++ [])) (cs := (z5i (gt y4 v16))) (out := ([] ++ arr 2 eI64 (gt y4 v16) ++ [])) (tl89 H) (Ev.tmp rfl) (Ce.agg (Ev.tmp rfl)) rfl rfl (Nat.le_of_ble_eq_true rfl) rfl (zj.nil (AtX.le' [(1, (ro zd 21 v2)), (5, (eqv sv18)), (7, (eqv (.pointer (some ⟨b22, 0, none⟩)))), (12, (eqv sv5)), (13, (iv .i64 (y4.length : Int))), (14, (iv .i64 v16))] [0, 1, 2] [(row 70 z5 10 v17 sv18), (row 89 z5i 2 y4 sv5), (box b22 89 ([] ++ arr 2 eI64 (gt y4 v16) ++ []))] ⟨⟨_, rfl, Ent.refl⟩, ⟨_, rfl, Ent.refl⟩, ⟨_, rfl, Ent.refl⟩, ⟨_, rfl, Ent.refl⟩, ⟨_, rfl, Ent.refl⟩, ⟨_, rfl, Ent.refl⟩, trivial⟩ ⟨⟨_, rfl, EntH.refl⟩, ⟨_, rfl, EntH.refl⟩, ⟨_, rfl, EntH.refl⟩, trivial⟩ rfl (AtX.seq ?_)))))))
   refine z2.seq ?_
   refine z2.join (fun z : Nat × Nat => (z6q φ v2 y4 v16 v17 (z2x φ v2 y4 (z3l φ) n19))) r (fun z => ⟨zl.of [(1, (ro zd 21 v2)), (5, (eqv sv18)), (8, (eqv (.pointer (some ⟨z.1, 0, none⟩)))), (9, (eqv (.pointer (some ⟨z.2, 0, none⟩)))), (12, (eqv sv5)), (13, (iv .i64 (y4.length : Int))), (14, (iv .i64 v16))], [(row 70 z5 10 v17 sv18), (row 89 z5i 2 y4 sv5), (box z.1 48 (zd (gt v2 ((gt y4 v16) 0)))), (box z.2 48 (zd (gt v2 ((gt y4 v16) 1))))]⟩) (fun z h => ?_) (fun hJ25 => ?_)
   ·
    obtain ⟨b23, b24⟩ := z
    replace h : (z6q φ v2 y4 v16 v17 (z2x φ v2 y4 (z3l φ) n19)) = some r := h
    unfold z6q at h
    change AtX _ ⟨zl.of [(1, (ro zd 21 v2)), (5, (eqv sv18)), (8, (eqv (.pointer (some ⟨b23, 0, none⟩)))), (9, (eqv (.pointer (some ⟨b24, 0, none⟩)))), (12, (eqv sv5)), (13, (iv .i64 (y4.length : Int))), (14, (iv .i64 v16))], [(row 70 z5 10 v17 sv18), (row 89 z5i 2 y4 sv5), (box b23 48 (zd (gt v2 ((gt y4 v16) 0)))), (box b24 48 (zd (gt v2 ((gt y4 v16) 1))))]⟩ _ _
    refine AtX.le' [(1, (ro zd 21 v2)), (5, (eqv sv18)), (8, (eqv (.pointer (some ⟨b23, 0, none⟩)))), (9, (eqv (.pointer (some ⟨b24, 0, none⟩)))), (12, (eqv sv5)), (13, (iv .i64 (y4.length : Int))), (14, (iv .i64 v16))] [0, 1, 2, 3] [(row 70 z5 10 v17 sv18), (row 89 z5i 2 y4 sv5), (box b23 48 (zd (gt v2 ((gt y4 v16) 0)))), (box b24 48 (zd (gt v2 ((gt y4 v16) 1))))] ⟨⟨_, rfl, Ent.refl⟩, ⟨_, rfl, Ent.refl⟩, ⟨_, rfl, Ent.refl⟩, ⟨_, rfl, Ent.refl⟩, ⟨_, rfl, Ent.refl⟩, ⟨_, rfl, Ent.refl⟩, ⟨_, rfl, Ent.refl⟩, trivial⟩ ⟨⟨_, rfl, EntH.refl⟩, ⟨_, rfl, EntH.refl⟩, ⟨_, rfl, EntH.refl⟩, ⟨_, rfl, EntH.refl⟩, trivial⟩ rfl (AtX.seq ?_)
    refine z2.region' [0, 1, 2, 3, 4, 5, 6, 7, 8, 9, 10, 11, 12, 13, 14, 15, 16, 17, 18, 19, 20, 21, 22, 23, 24, 25, 26, 27, 28, 29, 30, 31, 32, 33, 34, 35] rfl ?_
    refine zj.cons_q (eqv sv18) rfl rfl rfl (z0 (Ev.tmp rfl)) (zj.cons_q (eqv (.pointer (some ⟨b23, 5, none⟩))) rfl rfl rfl (z4 (z6x H) (Ev.tmp rfl)) (zj.cons_q (eqv (.pointer (some ⟨b23, 8, none⟩))) rfl rfl rfl (z4 (zgu H) (Ev.tmp rfl)) (zj.cons_q (iv .i64 ((gt v2 ((gt y4 v16) 0)).fItem.fWagon)) rfl rfl rfl (z29 (tl3 H) ((Pt.box 2 (Ev.tmp rfl) rfl rfl).take 1 (cs' := [(iv .i64 ((gt v2 ((gt y4 v16) 0)).fItem.fWagon))]) rfl)) (zj.cons_q (eqv (.pointer (some ⟨b23, 5, none⟩))) rfl rfl rfl (z4 (z6x H) (Ev.tmp rfl)) (zj.cons_q (eqv (.pointer (some ⟨b23, 9, none⟩))) rfl rfl rfl (z4 (zbu H) (Ev.tmp rfl)) (zj.cons_q (iv .i64 ((gt v2 ((gt y4 v16) 0)).fItem.fPlace)) rfl rfl rfl (z29 (tl3 H) ((Pt.box 2 (Ev.tmp rfl) rfl rfl).take 1 (cs' := [(iv .i64 ((gt v2 ((gt y4 v16) 0)).fItem.fPlace))]) rfl)) (zj.cons_q (eqv (.pointer (some ⟨b23, 0, none⟩))) rfl rfl rfl (z4 (z9d H) (Ev.tmp rfl)) (zj.cons_q (eqv (.pointer (some ⟨b23, 0, none⟩))) rfl rfl rfl (z4 (zb5 H) (Ev.tmp rfl)) (zj.cons_q (iv .i64 ((gt v2 ((gt y4 v16) 0)).fRef.fRailway)) rfl rfl rfl (z29 (tl3 H) ((Pt.box 2 (Ev.tmp rfl) rfl rfl).take 1 (cs' := [(iv .i64 ((gt v2 ((gt y4 v16) 0)).fRef.fRailway))]) rfl)) (zj.cons_q (eqv (.pointer (some ⟨b24, 0, none⟩))) rfl rfl rfl (z4 (z9d H) (Ev.tmp rfl)) (zj.cons_q (eqv (.pointer (some ⟨b24, 0, none⟩))) rfl rfl rfl (z4 (zb5 H) (Ev.tmp rfl)) ?_)))))))))))
    refine zj.cons_q (iv .i64 ((gt v2 ((gt y4 v16) 1)).fRef.fRailway)) rfl rfl rfl (z29 (tl3 H) ((Pt.box 3 (Ev.tmp rfl) rfl rfl).take 1 (cs' := [(iv .i64 ((gt v2 ((gt y4 v16) 1)).fRef.fRailway))]) rfl)) (zj.cons_q (eqv (.pointer (some ⟨b23, 5, none⟩))) rfl rfl rfl (z4 (z6x H) (Ev.tmp rfl)) (zj.cons_q (eqv (.pointer (some ⟨b23, 12, none⟩))) rfl rfl rfl (z4 (zbs H) (Ev.tmp rfl)) (zj.cons_q (iv .i64 ((gt v2 ((gt y4 v16) 0)).fItem.fFrom)) rfl rfl rfl (z29 (tl3 H) ((Pt.box 2 (Ev.tmp rfl) rfl rfl).take 1 (cs' := [(iv .i64 ((gt v2 ((gt y4 v16) 0)).fItem.fFrom))]) rfl)) (zj.cons_q (eqv (.pointer (some ⟨b24, 5, none⟩))) rfl rfl rfl (z4 (z6x H) (Ev.tmp rfl)) (zj.cons_q (eqv (.pointer (some ⟨b24, 12, none⟩))) rfl rfl rfl (z4 (zbs H) (Ev.tmp rfl)) (zj.cons_q (iv .i64 ((gt v2 ((gt y4 v16) 1)).fItem.fFrom)) rfl rfl rfl (z29 (tl3 H) ((Pt.box 3 (Ev.tmp rfl) rfl rfl).take 1 (cs' := [(iv .i64 ((gt v2 ((gt y4 v16) 1)).fItem.fFrom))]) rfl)) (zj.cons_q (iv .i64 (W (((gt v2 ((gt y4 v16) 0)).fItem.fFrom) + ((gt v2 ((gt y4 v16) 1)).fItem.fFrom)))) rfl rfl rfl (z14 (Ev.tmp rfl) (Ev.tmp rfl)) (zj.cons_q (iv .i64 (W ((W (((gt v2 ((gt y4 v16) 0)).fItem.fFrom) + ((gt v2 ((gt y4 v16) 1)).fItem.fFrom))).tdiv 2))) rfl rfl rfl (zop (Ev.tmp rfl) (Ev.const _) (by decide)) (zj.cons_q (eqv (.pointer (some ⟨b23, 5, none⟩))) rfl rfl rfl (z4 (z6x H) (Ev.tmp rfl)) (zj.cons_q (eqv (.pointer (some ⟨b23, 14, none⟩))) rfl rfl rfl (z4 (zkz H) (Ev.tmp rfl)) (zj.cons_q (iv .i64 ((gt v2 ((gt y4 v16) 0)).fItem.fCode)) rfl rfl rfl (z29 (tl3 H) ((Pt.box 2 (Ev.tmp rfl) rfl rfl).take 1 (cs' := [(iv .i64 ((gt v2 ((gt y4 v16) 0)).fItem.fCode))]) rfl)) ?_)))))))))))
    refine zj.cons_q (eqv (.pointer (some ⟨b24, 5, none⟩))) rfl rfl rfl (z4 (z6x H) (Ev.tmp rfl)) (zj.cons_q (eqv (.pointer (some ⟨b24, 14, none⟩))) rfl rfl rfl (z4 (zkz H) (Ev.tmp rfl)) (zj.cons_q (iv .i64 ((gt v2 ((gt y4 v16) 1)).fItem.fCode)) rfl rfl rfl (z29 (tl3 H) ((Pt.box 3 (Ev.tmp rfl) rfl rfl).take 1 (cs' := [(iv .i64 ((gt v2 ((gt y4 v16) 1)).fItem.fCode))]) rfl)) (zj.cons_q (iv .i64 (max2 ((gt v2 ((gt y4 v16) 0)).fItem.fCode) ((gt v2 ((gt y4 v16) 1)).fItem.fCode))) rfl rfl rfl (zr5 (n := [(gt v2 ((gt y4 v16) 1)).fItem.fCode]) (Ev.tmp rfl) ⟨(Ev.tmp rfl), trivial⟩) (zj.cons_q (eqv (.pointer (some ⟨b23, 0, none⟩))) rfl rfl rfl (z4 (z9d H) (Ev.tmp rfl)) (zj.cons_q (agg (eRef (gt v2 ((gt y4 v16) 0)).fRef)) rfl rfl rfl (z61 (tl43 H) ((Pt.box 2 (Ev.tmp rfl) rfl rfl).take 2 (cs' := (eRef (gt v2 ((gt y4 v16) 0)).fRef)) rfl)) (zj.cons_q (eqv (.pointer (some ⟨b24, 0, none⟩))) rfl rfl rfl (z4 (z9d H) (Ev.tmp rfl)) (zj.cons_q (agg (eRef (gt v2 ((gt y4 v16) 1)).fRef)) rfl rfl rfl (z61 (tl43 H) ((Pt.box 3 (Ev.tmp rfl) rfl rfl).take 2 (cs' := (eRef (gt v2 ((gt y4 v16) 1)).fRef)) rfl)) (zj.cons_q (agg [(iv .i64 ((gt v2 ((gt y4 v16) 0)).fItem.fWagon)), (iv .i64 ((gt v2 ((gt y4 v16) 0)).fItem.fPlace)), (iv .i64 ((gt v2 ((gt y4 v16) 0)).fRef.fRailway)), (iv .i64 ((gt v2 ((gt y4 v16) 1)).fRef.fRailway)), (iv .i64 (W ((W (((gt v2 ((gt y4 v16) 0)).fItem.fFrom) + ((gt v2 ((gt y4 v16) 1)).fItem.fFrom))).tdiv 2))), (iv .i64 (max2 ((gt v2 ((gt y4 v16) 0)).fItem.fCode) ((gt v2 ((gt y4 v16) 1)).fItem.fCode))), (iv .i64 ((gt v2 ((gt y4 v16) 0)).fRef.fRailway)), (iv .i64 ((gt v2 ((gt y4 v16) 0)).fRef.fNo)), (iv .i64 ((gt v2 ((gt y4 v16) 1)).fRef.fRailway)), (iv .i64 ((gt v2 ((gt y4 v16) 1)).fRef.fNo))]) rfl rfl rfl (z3y [.int .i64 0, .int .i64 0, .int .i64 0, .int .i64 0, .int .i64 0, .int .i64 0, .int .i64 0, .int .i64 0, .int .i64 0, .int .i64 0] [(0, [(iv .i64 ((gt v2 ((gt y4 v16) 0)).fItem.fWagon))]), (1, [(iv .i64 ((gt v2 ((gt y4 v16) 0)).fItem.fPlace))]), (2, [(iv .i64 ((gt v2 ((gt y4 v16) 0)).fRef.fRailway))]), (3, [(iv .i64 ((gt v2 ((gt y4 v16) 1)).fRef.fRailway))]), (4, [(iv .i64 (W ((W (((gt v2 ((gt y4 v16) 0)).fItem.fFrom) + ((gt v2 ((gt y4 v16) 1)).fItem.fFrom))).tdiv 2)))]), (5, [(iv .i64 (max2 ((gt v2 ((gt y4 v16) 0)).fItem.fCode) ((gt v2 ((gt y4 v16) 1)).fItem.fCode)))]), (6, (eRef (gt v2 ((gt y4 v16) 0)).fRef)), (8, (eRef (gt v2 ((gt y4 v16) 1)).fRef))] (out := [(iv .i64 ((gt v2 ((gt y4 v16) 0)).fItem.fWagon)), (iv .i64 ((gt v2 ((gt y4 v16) 0)).fItem.fPlace)), (iv .i64 ((gt v2 ((gt y4 v16) 0)).fRef.fRailway)), (iv .i64 ((gt v2 ((gt y4 v16) 1)).fRef.fRailway)), (iv .i64 (W ((W (((gt v2 ((gt y4 v16) 0)).fItem.fFrom) + ((gt v2 ((gt y4 v16) 1)).fItem.fFrom))).tdiv 2))), (iv .i64 (max2 ((gt v2 ((gt y4 v16) 0)).fItem.fCode) ((gt v2 ((gt y4 v16) 1)).fItem.fCode))), (iv .i64 ((gt v2 ((gt y4 v16) 0)).fRef.fRailway)), (iv .i64 ((gt v2 ((gt y4 v16) 0)).fRef.fNo)), (iv .i64 ((gt v2 ((gt y4 v16) 1)).fRef.fRailway)), (iv .i64 ((gt v2 ((gt y4 v16) 1)).fRef.fNo))]) (ze70 H) rfl (tb70 H) ⟨(zta H), Nat.le_of_ble_eq_true rfl, (Ce.one (Ev.tmp rfl) (One.eqv rfl)), ⟨(zpt H), Nat.le_of_ble_eq_true rfl, (Ce.one (Ev.tmp rfl) (One.eqv rfl)), ⟨(zt0 H), Nat.le_of_ble_eq_true rfl, (Ce.one (Ev.tmp rfl) (One.eqv rfl)), ⟨(zq7 H), Nat.le_of_ble_eq_true rfl, (Ce.one (Ev.tmp rfl) (One.eqv rfl)), ⟨(zq5 H), Nat.le_of_ble_eq_true rfl, (Ce.one (Ev.tmp rfl) (One.eqv rfl)), ⟨(zpw H), Nat.le_of_ble_eq_true rfl, (Ce.one (Ev.tmp rfl) (One.eqv rfl)), ⟨(zq4 H), Nat.le_of_ble_eq_true rfl, (Ce.agg (Ev.tmp rfl)), ⟨(zp5 H), Nat.le_of_ble_eq_true rfl, (Ce.agg (Ev.tmp rfl)), trivial⟩⟩⟩⟩⟩⟩⟩⟩ rfl) ?_))))))))
    refine zj.cons rfl rfl rfl (z1n (e := z5) [(z3.mk (gt v2 ((gt y4 v16) 0)).fItem.fWagon (gt v2 ((gt y4 v16) 0)).fItem.fPlace (gt v2 ((gt y4 v16) 0)).fRef.fRailway (gt v2 ((gt y4 v16) 1)).fRef.fRailway (W ((W (((gt v2 ((gt y4 v16) 0)).fItem.fFrom) + ((gt v2 ((gt y4 v16) 1)).fItem.fFrom))).tdiv 2)) (max2 ((gt v2 ((gt y4 v16) 0)).fItem.fCode) ((gt v2 ((gt y4 v16) 1)).fItem.fCode)) (gt v2 ((gt y4 v16) 0)).fRef (gt v2 ((gt y4 v16) 1)).fRef)] (sl53 H) z25 rfl (by decide) ⟨rfl, (Ce.agg (Ev.tmp rfl)), trivial⟩ fun sv26 => ckE h fun h27 h => zj.cons rfl rfl rfl (z9g 0 (l := v17) (m := [(z3.mk (gt v2 ((gt y4 v16) 0)).fItem.fWagon (gt v2 ((gt y4 v16) 0)).fItem.fPlace (gt v2 ((gt y4 v16) 0)).fRef.fRailway (gt v2 ((gt y4 v16) 1)).fRef.fRailway (W ((W (((gt v2 ((gt y4 v16) 0)).fItem.fFrom) + ((gt v2 ((gt y4 v16) 1)).fItem.fFrom))).tdiv 2)) (max2 ((gt v2 ((gt y4 v16) 0)).fItem.fCode) ((gt v2 ((gt y4 v16) 1)).fItem.fCode)) (gt v2 ((gt y4 v16) 0)).fRef (gt v2 ((gt y4 v16) 1)).fRef)]) (sl53 H) z25 (Ev.tmp rfl) rfl (Src.row 4 (Ev.tmp rfl) rfl) h27 (z92 (by decide) h27) fun sv28 => zj.cons_q (eqv sv28) rfl rfl rfl (z1 (Ev.tmp rfl)) (zj.nil (AtX.in_normal (AtX.le' [(1, (ro zd 21 v2)), (5, (eqv sv28)), (12, (eqv sv5)), (13, (iv .i64 (y4.length : Int))), (14, (iv .i64 v16))] [0, 1] [(row 70 z5 10 (v17 ++ [(z3.mk (gt v2 ((gt y4 v16) 0)).fItem.fWagon (gt v2 ((gt y4 v16) 0)).fItem.fPlace (gt v2 ((gt y4 v16) 0)).fRef.fRailway (gt v2 ((gt y4 v16) 1)).fRef.fRailway (W ((W (((gt v2 ((gt y4 v16) 0)).fItem.fFrom) + ((gt v2 ((gt y4 v16) 1)).fItem.fFrom))).tdiv 2)) (max2 ((gt v2 ((gt y4 v16) 0)).fItem.fCode) ((gt v2 ((gt y4 v16) 1)).fItem.fCode)) (gt v2 ((gt y4 v16) 0)).fRef (gt v2 ((gt y4 v16) 1)).fRef)]) sv28), (row 89 z5i 2 y4 sv5)] ⟨⟨_, rfl, Ent.refl⟩, ⟨_, rfl, Ent.refl⟩, ⟨_, rfl, Ent.refl⟩, ⟨_, rfl, Ent.refl⟩, ⟨_, rfl, Ent.refl⟩, trivial⟩ ⟨⟨_, rfl, EntH.refl⟩, ⟨_, rfl, EntH.refl⟩, trivial⟩ rfl (AtX.seq ?_))))))
    refine z2.region' [0, 1] rfl ?_
    refine zj.cons_q (iv .i64 (W (v16 + 1))) rfl rfl rfl (z14 (Ev.tmp rfl) (Ev.const _)) (zj.cons_q (iv .i64 (W (v16 + 1))) rfl rfl rfl (z0 (Ev.tmp rfl)) (zj.nil ?_))
    exact AtX.to (ih19 ((W (v16 + 1)), (v17 ++ [(z3.mk (gt v2 ((gt y4 v16) 0)).fItem.fWagon (gt v2 ((gt y4 v16) 0)).fItem.fPlace (gt v2 ((gt y4 v16) 0)).fRef.fRailway (gt v2 ((gt y4 v16) 1)).fRef.fRailway (W ((W (((gt v2 ((gt y4 v16) 0)).fItem.fFrom) + ((gt v2 ((gt y4 v16) 1)).fItem.fFrom))).tdiv 2)) (max2 ((gt v2 ((gt y4 v16) 0)).fItem.fCode) ((gt v2 ((gt y4 v16) 1)).fItem.fCode)) (gt v2 ((gt y4 v16) 0)).fRef (gt v2 ((gt y4 v16) 1)).fRef)]), sv28) h) [0, 1] ⟨⟨_, rfl, Ent.refl⟩, ⟨_, rfl, Ent.refl⟩, ⟨_, rfl, Ent.refl⟩, ⟨_, rfl, Ent.refl⟩, ⟨_, rfl, Ent.refl⟩, trivial⟩ ⟨⟨_, rfl, EntH.refl⟩, ⟨_, rfl, EntH.refl⟩, trivial⟩ rfl
   ·
    refine ckE h fun h29 h => ckE h fun h30 h => ?_
    refine z2.draw (QR := [(0, (ro zd 21 v2)), (1, (eqv (.pointer (some ⟨b22, 0, none⟩)))), (2, (iv .i64 ((gt y4 v16) 0))), (3, (rop (zd (gt v2 ((gt y4 v16) 0))))), (4, (agg (zd (gt v2 ((gt y4 v16) 0))))), (5, (ro zd 21 v2)), (6, (eqv (.pointer (some ⟨b22, 1, none⟩)))), (7, (iv .i64 ((gt y4 v16) 1))), (8, (rop (zd (gt v2 ((gt y4 v16) 1))))), (9, (agg (zd (gt v2 ((gt y4 v16) 1)))))]) (tab := [(some 18, []), (some 19, []), (some 20, [1]), (some 21, [0, 2]), (some 22, [3]), (some 23, []), (some 24, []), (some 25, [6]), (some 26, [5, 7]), (some 27, [8]), (some 8, []), (some 9, []), (none, [10, 4, 0, 1, 2, 3, 4, 10, 11]), (none, [11, 9, 12, 0, 1, 2, 3, 4, 5, 6, 7, 8, 9, 10, 11, 12])]) (z62 H) (Reg.intro [10, 11] [] (by kernel_rfl) rfl ⟨rfl, rfl, rfl, rfl, rfl, rfl, rfl, rfl, rfl, rfl, trivial⟩ ⟨(fun _ => ⟨_, rfl, (z0 (Ev.tmp rfl))⟩), (fun _ => ⟨_, rfl, (z65 (ix89 H) (Ev.tmp rfl) (Ev.const _) (by decide) (by decide))⟩), (fun _ => ⟨_, rfl, (z29 (tl3 H) (Pt.ofArr (e := eI64) 2 (k := 0) (Ev.tmp rfl) rfl lI64 rfl (by decide)))⟩), (fun _ => ⟨_, rfl, (z0k (e := zd) (y := (gt v2 ((gt y4 v16) 0))) (ix37 H) (Ev.tmp rfl) (Ev.tmp rfl) (h29).1 (za h29))⟩), (fun _ => ⟨_, rfl, (z61 (tl48 H) (Pt.rop (Ev.tmp rfl)))⟩), (fun _ => ⟨_, rfl, (z0 (Ev.tmp rfl))⟩), (fun _ => ⟨_, rfl, (z65 (ix89 H) (Ev.tmp rfl) (Ev.const _) (by decide) (by decide))⟩), (fun _ => ⟨_, rfl, (z29 (tl3 H) (Pt.ofArr (e := eI64) 2 (k := 1) (Ev.tmp rfl) rfl lI64 rfl (by decide)))⟩), (fun _ => ⟨_, rfl, (z0k (e := zd) (y := (gt v2 ((gt y4 v16) 1))) (ix37 H) (Ev.tmp rfl) (Ev.tmp rfl) (h30).1 (za h30))⟩), (fun _ => ⟨_, rfl, (z61 (tl48 H) (Pt.rop (Ev.tmp rfl)))⟩), trivial⟩ ⟨⟨_, rfl, rfl, rfl, rfl, z40 [.int .i64 0, .int .i64 0, .int .i64 0, .int .i64 0, .int .i64 0, .int .i64 0, .int .i64 0, .int .i64 0, .int .i64 0, .int .i64 0, .int .i64 0, .int .i64 0, .int .i64 0, .int .i64 0, .int .i64 0, .int .i64 0, .int .i64 0, .int .i64 0, .int .i64 0, .string ⟨#[]⟩, .slice none 0 0] (ze48 H) rfl fun b34 => ⟨[], rfl, ?_⟩⟩, ⟨_, rfl, rfl, rfl, rfl, z40 [.int .i64 0, .int .i64 0, .int .i64 0, .int .i64 0, .int .i64 0, .int .i64 0, .int .i64 0, .int .i64 0, .int .i64 0, .int .i64 0, .int .i64 0, .int .i64 0, .int .i64 0, .int .i64 0, .int .i64 0, .int .i64 0, .int .i64 0, .int .i64 0, .int .i64 0, .string ⟨#[]⟩, .slice none 0 0] (ze48 H) rfl fun b34 => ⟨[], rfl, ?_⟩⟩, trivial⟩ (fun hc => Bool.noConfusion (hc : false = true)))
    ·
     refine Reg.intro [11] [] (by kernel_rfl) rfl ⟨rfl, rfl, rfl, rfl, rfl, rfl, rfl, rfl, rfl, rfl, trivial⟩ ⟨(fun _ => ⟨_, rfl, (z0 (Ev.tmp rfl))⟩), (fun _ => ⟨_, rfl, (z65 (ix89 H) (Ev.tmp rfl) (Ev.const _) (by decide) (by decide))⟩), (fun _ => ⟨_, rfl, (z29 (tl3 H) (Pt.ofArr (e := eI64) 2 (k := 0) (Ev.tmp rfl) rfl lI64 rfl (by decide)))⟩), (fun _ => ⟨_, rfl, (z0k (e := zd) (y := (gt v2 ((gt y4 v16) 0))) (ix37 H) (Ev.tmp rfl) (Ev.tmp rfl) (h29).1 (za h29))⟩), (fun _ => ⟨_, rfl, (z61 (tl48 H) (Pt.rop (Ev.tmp rfl)))⟩), (fun _ => ⟨_, rfl, (z0 (Ev.tmp rfl))⟩), (fun _ => ⟨_, rfl, (z65 (ix89 H) (Ev.tmp rfl) (Ev.const _) (by decide) (by decide))⟩), (fun _ => ⟨_, rfl, (z29 (tl3 H) (Pt.ofArr (e := eI64) 2 (k := 1) (Ev.tmp rfl) rfl lI64 rfl (by decide)))⟩), (fun _ => ⟨_, rfl, (z0k (e := zd) (y := (gt v2 ((gt y4 v16) 1))) (ix37 H) (Ev.tmp rfl) (Ev.tmp rfl) (h30).1 (za h30))⟩), (fun _ => ⟨_, rfl, (z61 (tl48 H) (Pt.rop (Ev.tmp rfl)))⟩), trivial⟩ ⟨⟨_, rfl, rfl, rfl, rfl, z40 [.int .i64 0, .int .i64 0, .int .i64 0, .int .i64 0, .int .i64 0, .int .i64 0, .int .i64 0, .int .i64 0, .int .i64 0, .int .i64 0, .int .i64 0, .int .i64 0, .int .i64 0, .int .i64 0, .int .i64 0, .int .i64 0, .int .i64 0, .int .i64 0, .int .i64 0, .string ⟨#[]⟩, .slice none 0 0] (ze48 H) rfl fun b37 => ⟨[], rfl, ?_⟩⟩, trivial⟩ (fun hc => Bool.noConfusion (hc : false = true))
     refine Reg.intro [12] [] (by kernel_rfl) rfl ⟨rfl, rfl, rfl, rfl, rfl, rfl, rfl, rfl, rfl, rfl, trivial⟩ ⟨(fun _ => ⟨_, rfl, (z0 (Ev.tmp rfl))⟩), (fun _ => ⟨_, rfl, (z65 (ix89 H) (Ev.tmp rfl) (Ev.const _) (by decide) (by decide))⟩), (fun _ => ⟨_, rfl, (z29 (tl3 H) (Pt.ofArr (e := eI64) 2 (k := 0) (Ev.tmp rfl) rfl lI64 rfl (by decide)))⟩), (fun _ => ⟨_, rfl, (z0k (e := zd) (y := (gt v2 ((gt y4 v16) 0))) (ix37 H) (Ev.tmp rfl) (Ev.tmp rfl) (h29).1 (za h29))⟩), (fun _ => ⟨_, rfl, (z61 (tl48 H) (Pt.rop (Ev.tmp rfl)))⟩), (fun _ => ⟨_, rfl, (z0 (Ev.tmp rfl))⟩), (fun _ => ⟨_, rfl, (z65 (ix89 H) (Ev.tmp rfl) (Ev.const _) (by decide) (by decide))⟩), (fun _ => ⟨_, rfl, (z29 (tl3 H) (Pt.ofArr (e := eI64) 2 (k := 1) (Ev.tmp rfl) rfl lI64 rfl (by decide)))⟩), (fun _ => ⟨_, rfl, (z0k (e := zd) (y := (gt v2 ((gt y4 v16) 1))) (ix37 H) (Ev.tmp rfl) (Ev.tmp rfl) (h30).1 (za h30))⟩), (fun _ => ⟨_, rfl, (z61 (tl48 H) (Pt.rop (Ev.tmp rfl)))⟩), trivial⟩ ⟨⟨_, rfl, rfl, rfl, rfl, zao 3 (cells := [(iv .i64 0), (iv .i64 0), (iv .i64 0), (iv .i64 0), (iv .i64 0), (iv .i64 0), (iv .i64 0), (iv .i64 0), (iv .i64 0), (iv .i64 0), (iv .i64 0), (iv .i64 0), (iv .i64 0), (iv .i64 0), (iv .i64 0), (iv .i64 0), (iv .i64 0), (iv .i64 0), (iv .i64 0), (eqv (.string (⟨#[]⟩))), (eqv (.slice none 0 0))]) (cs := (zd (gt v2 ((gt y4 v16) 0)))) (out := (zd (gt v2 ((gt y4 v16) 0)))) (tl48 H) (Ev.tmp rfl) (Ce.agg (Ev.tmp rfl)) rfl rfl (Nat.le_of_ble_eq_true rfl) rfl ⟨[], rfl, ?_⟩⟩, trivial⟩ (fun hc => Bool.noConfusion (hc : false = true))
     refine Reg.intro [13] [0, 1, 2, 3, 4] (by kernel_rfl) rfl ⟨rfl, rfl, rfl, rfl, rfl, rfl, rfl, rfl, rfl, rfl, trivial⟩ ⟨(fun hn => Bool.noConfusion (hn : true = false)), (fun hn => Bool.noConfusion (hn : true = false)), (fun hn => Bool.noConfusion (hn : true = false)), (fun hn => Bool.noConfusion (hn : true = false)), (fun hn => Bool.noConfusion (hn : true = false)), (fun _ => ⟨_, rfl, (z0 (Ev.tmp rfl))⟩), (fun _ => ⟨_, rfl, (z65 (ix89 H) (Ev.tmp rfl) (Ev.const _) (by decide) (by decide))⟩), (fun _ => ⟨_, rfl, (z29 (tl3 H) (Pt.ofArr (e := eI64) 2 (k := 1) (Ev.tmp rfl) rfl lI64 rfl (by decide)))⟩), (fun _ => ⟨_, rfl, (z0k (e := zd) (y := (gt v2 ((gt y4 v16) 1))) (ix37 H) (Ev.tmp rfl) (Ev.tmp rfl) (h30).1 (za h30))⟩), (fun _ => ⟨_, rfl, (z61 (tl48 H) (Pt.rop (Ev.tmp rfl)))⟩), trivial⟩ ⟨⟨_, rfl, rfl, rfl, rfl, zao 4 (cells := [(iv .i64 0), (iv .i64 0), (iv .i64 0), (iv .i64 0), (iv .i64 0), (iv .i64 0), (iv .i64 0), (iv .i64 0), (iv .i64 0), (iv .i64 0), (iv .i64 0), (iv .i64 0), (iv .i64 0), (iv .i64 0), (iv .i64 0), (iv .i64 0), (iv .i64 0), (iv .i64 0), (iv .i64 0), (eqv (.string (⟨#[]⟩))), (eqv (.slice none 0 0))]) (cs := (zd (gt v2 ((gt y4 v16) 1)))) (out := (zd (gt v2 ((gt y4 v16) 1)))) (tl48 H) (Ev.tmp rfl) (Ce.agg (Ev.tmp rfl)) rfl rfl (Nat.le_of_ble_eq_true rfl) rfl ⟨[], rfl, ?_⟩⟩, trivial⟩ (fun hc => Bool.noConfusion (hc : false = true))
     refine Reg.intro [] [0, 1, 2, 3, 4, 5, 6, 7, 8, 9] (by kernel_rfl) rfl ⟨rfl, rfl, rfl, rfl, rfl, rfl, rfl, rfl, rfl, rfl, trivial⟩ ⟨(fun hn => Bool.noConfusion (hn : true = false)), (fun hn => Bool.noConfusion (hn : true = false)), (fun hn => Bool.noConfusion (hn : true = false)), (fun hn => Bool.noConfusion (hn : true = false)), (fun hn => Bool.noConfusion (hn : true = false)), (fun hn => Bool.noConfusion (hn : true = false)), (fun hn => Bool.noConfusion (hn : true = false)), (fun hn => Bool.noConfusion (hn : true = false)), (fun hn => Bool.noConfusion (hn : true = false)), (fun hn => Bool.noConfusion (hn : true = false)), trivial⟩ trivial (fun _ => ?_)
     exact AtX.to (hJ25 (b34, b37) h) [0, 1, 3, 4] ⟨⟨_, rfl, Ent.refl⟩, ⟨_, rfl, Ent.refl⟩, ⟨_, rfl, Ent.refl⟩, ⟨_, rfl, Ent.refl⟩, ⟨_, rfl, Ent.refl⟩, ⟨_, rfl, Ent.refl⟩, ⟨_, rfl, Ent.refl⟩, trivial⟩ ⟨⟨_, rfl, EntH.refl⟩, ⟨_, rfl, EntH.refl⟩, ⟨_, rfl, EntH.refl⟩, ⟨_, rfl, EntH.refl⟩, trivial⟩ rfl
    ·
     refine Reg.intro [10] [] (by kernel_rfl) rfl ⟨rfl, rfl, rfl, rfl, rfl, rfl, rfl, rfl, rfl, rfl, trivial⟩ ⟨(fun _ => ⟨_, rfl, (z0 (Ev.tmp rfl))⟩), (fun _ => ⟨_, rfl, (z65 (ix89 H) (Ev.tmp rfl) (Ev.const _) (by decide) (by decide))⟩), (fun _ => ⟨_, rfl, (z29 (tl3 H) (Pt.ofArr (e := eI64) 2 (k := 0) (Ev.tmp rfl) rfl lI64 rfl (by decide)))⟩), (fun _ => ⟨_, rfl, (z0k (e := zd) (y := (gt v2 ((gt y4 v16) 0))) (ix37 H) (Ev.tmp rfl) (Ev.tmp rfl) (h29).1 (za h29))⟩), (fun _ => ⟨_, rfl, (z61 (tl48 H) (Pt.rop (Ev.tmp rfl)))⟩), (fun _ => ⟨_, rfl, (z0 (Ev.tmp rfl))⟩), (fun _ => ⟨_, rfl, (z65 (ix89 H) (Ev.tmp rfl) (Ev.const _) (by decide) (by decide))⟩), (fun _ => ⟨_, rfl, (z29 (tl3 H) (Pt.ofArr (e := eI64) 2 (k := 1) (Ev.tmp rfl) rfl lI64 rfl (by decide)))⟩), (fun _ => ⟨_, rfl, (z0k (e := zd) (y := (gt v2 ((gt y4 v16) 1))) (ix37 H) (Ev.tmp rfl) (Ev.tmp rfl) (h30).1 (za h30))⟩), (fun _ => ⟨_, rfl, (z61 (tl48 H) (Pt.rop (Ev.tmp rfl)))⟩), trivial⟩ ⟨⟨_, rfl, rfl, rfl, rfl, z40 [.int .i64 0, .int .i64 0, .int .i64 0, .int .i64 0, .int .i64 0, .int .i64 0, .int .i64 0, .int .i64 0, .int .i64 0, .int .i64 0, .int .i64 0, .int .i64 0, .int .i64 0, .int .i64 0, .int .i64 0, .int .i64 0, .int .i64 0, .int .i64 0, .int .i64 0, .string ⟨#[]⟩, .slice none 0 0] (ze48 H) rfl fun b37 => ⟨[], rfl, ?_⟩⟩, trivial⟩ (fun hc => Bool.noConfusion (hc : false = true))
     refine Reg.intro [12] [] (by kernel_rfl) rfl ⟨rfl, rfl, rfl, rfl, rfl, rfl, rfl, rfl, rfl, rfl, trivial⟩ ⟨(fun _ => ⟨_, rfl, (z0 (Ev.tmp rfl))⟩), (fun _ => ⟨_, rfl, (z65 (ix89 H) (Ev.tmp rfl) (Ev.const _) (by decide) (by decide))⟩), (fun _ => ⟨_, rfl, (z29 (tl3 H) (Pt.ofArr (e := eI64) 2 (k := 0) (Ev.tmp rfl) rfl lI64 rfl (by decide)))⟩), (fun _ => ⟨_, rfl, (z0k (e := zd) (y := (gt v2 ((gt y4 v16) 0))) (ix37 H) (Ev.tmp rfl) (Ev.tmp rfl) (h29).1 (za h29))⟩), (fun _ => ⟨_, rfl, (z61 (tl48 H) (Pt.rop (Ev.tmp rfl)))⟩), (fun _ => ⟨_, rfl, (z0 (Ev.tmp rfl))⟩), (fun _ => ⟨_, rfl, (z65 (ix89 H) (Ev.tmp rfl) (Ev.const _) (by decide) (by decide))⟩), (fun _ => ⟨_, rfl, (z29 (tl3 H) (Pt.ofArr (e := eI64) 2 (k := 1) (Ev.tmp rfl) rfl lI64 rfl (by decide)))⟩), (fun _ => ⟨_, rfl, (z0k (e := zd) (y := (gt v2 ((gt y4 v16) 1))) (ix37 H) (Ev.tmp rfl) (Ev.tmp rfl) (h30).1 (za h30))⟩), (fun _ => ⟨_, rfl, (z61 (tl48 H) (Pt.rop (Ev.tmp rfl)))⟩), trivial⟩ ⟨⟨_, rfl, rfl, rfl, rfl, zao 4 (cells := [(iv .i64 0), (iv .i64 0), (iv .i64 0), (iv .i64 0), (iv .i64 0), (iv .i64 0), (iv .i64 0), (iv .i64 0), (iv .i64 0), (iv .i64 0), (iv .i64 0), (iv .i64 0), (iv .i64 0), (iv .i64 0), (iv .i64 0), (iv .i64 0), (iv .i64 0), (iv .i64 0), (iv .i64 0), (eqv (.string (⟨#[]⟩))), (eqv (.slice none 0 0))]) (cs := (zd (gt v2 ((gt y4 v16) 0)))) (out := (zd (gt v2 ((gt y4 v16) 0)))) (tl48 H) (Ev.tmp rfl) (Ce.agg (Ev.tmp rfl)) rfl rfl (Nat.le_of_ble_eq_true rfl) rfl ⟨[], rfl, ?_⟩⟩, trivial⟩ (fun hc => Bool.noConfusion (hc : false = true))
     refine Reg.intro [13] [0, 1, 2, 3, 4] (by kernel_rfl) rfl ⟨rfl, rfl, rfl, rfl, rfl, rfl, rfl, rfl, rfl, rfl, trivial⟩ ⟨(fun hn => Bool.noConfusion (hn : true = false)), (fun hn => Bool.noConfusion (hn : true = false)), (fun hn => Bool.noConfusion (hn : true = false)), (fun hn => Bool.noConfusion (hn : true = false)), (fun hn => Bool.noConfusion (hn : true = false)), (fun _ => ⟨_, rfl, (z0 (Ev.tmp rfl))⟩), (fun _ => ⟨_, rfl, (z65 (ix89 H) (Ev.tmp rfl) (Ev.const _) (by decide) (by decide))⟩), (fun _ => ⟨_, rfl, (z29 (tl3 H) (Pt.ofArr (e := eI64) 2 (k := 1) (Ev.tmp rfl) rfl lI64 rfl (by decide)))⟩), (fun _ => ⟨_, rfl, (z0k (e := zd) (y := (gt v2 ((gt y4 v16) 1))) (ix37 H) (Ev.tmp rfl) (Ev.tmp rfl) (h30).1 (za h30))⟩), (fun _ => ⟨_, rfl, (z61 (tl48 H) (Pt.rop (Ev.tmp rfl)))⟩), trivial⟩ ⟨⟨_, rfl, rfl, rfl, rfl, zao 3 (cells := [(iv .i64 0), (iv .i64 0), (iv .i64 0), (iv .i64 0), (iv .i64 0), (iv .i64 0), (iv .i64 0), (iv .i64 0), (iv .i64 0), (iv .i64 0), (iv .i64 0), (iv .i64 0), (iv .i64 0), (iv .i64 0), (iv .i64 0), (iv .i64 0), (iv .i64 0), (iv .i64 0), (iv .i64 0), (eqv (.string (⟨#[]⟩))), (eqv (.slice none 0 0))]) (cs := (zd (gt v2 ((gt y4 v16) 1)))) (out := (zd (gt v2 ((gt y4 v16) 1)))) (tl48 H) (Ev.tmp rfl) (Ce.agg (Ev.tmp rfl)) rfl rfl (Nat.le_of_ble_eq_true rfl) rfl ⟨[], rfl, ?_⟩⟩, trivial⟩ (fun hc => Bool.noConfusion (hc : false = true))
     refine Reg.intro [] [0, 1, 2, 3, 4, 5, 6, 7, 8, 9] (by kernel_rfl) rfl ⟨rfl, rfl, rfl, rfl, rfl, rfl, rfl, rfl, rfl, rfl, trivial⟩ ⟨(fun hn => Bool.noConfusion (hn : true = false)), (fun hn => Bool.noConfusion (hn : true = false)), (fun hn => Bool.noConfusion (hn : true = false)), (fun hn => Bool.noConfusion (hn : true = false)), (fun hn => Bool.noConfusion (hn : true = false)), (fun hn => Bool.noConfusion (hn : true = false)), (fun hn => Bool.noConfusion (hn : true = false)), (fun hn => Bool.noConfusion (hn : true = false)), (fun hn => Bool.noConfusion (hn : true = false)), (fun hn => Bool.noConfusion (hn : true = false)), trivial⟩ trivial (fun _ => ?_)
     exact AtX.to (hJ25 (b37, b34) h) [0, 1, 4, 3] ⟨⟨_, rfl, Ent.refl⟩, ⟨_, rfl, Ent.refl⟩, ⟨_, rfl, Ent.refl⟩, ⟨_, rfl, Ent.refl⟩, ⟨_, rfl, Ent.refl⟩, ⟨_, rfl, Ent.refl⟩, ⟨_, rfl, Ent.refl⟩, trivial⟩ ⟨⟨_, rfl, EntH.refl⟩, ⟨_, rfl, EntH.refl⟩, ⟨_, rfl, EntH.refl⟩, ⟨_, rfl, EntH.refl⟩, trivial⟩ rfl
  ·
   refine z2.exit (AtX.then_exit (AtX.then_exit (AtX.in_hit ?_)))
   exact AtX.to (hJ11 (v17, sv18) h) [0] ⟨⟨_, rfl, Ent.refl⟩, trivial⟩ ⟨⟨_, rfl, EntH.refl⟩, trivial⟩ rfl
theorem zaa {P : Program} (H : P = Try.prog) (φ : Nat) (v1 : Pool) (v2 : Int) (v3 : Int) (r : (Int)) (h : z7h φ v1 v2 v3 = some r) : z2g P 29 [(agg (z2w v1)), (iv .i64 v2), (iv .i64 v3)] (fun x news => x = (iv .i64 r) ∧ news = []) := by
 unfold z7h at h
 refine z2g.of_code' 31 (fn29 H) rfl rfl (Nat.le_of_ble_eq_true rfl) fun w0 base r0 wI => ?_
 refine cl [0, 1, 2] [] rfl rfl rfl (cs (cr [0, 1] rfl (n1 rfl (z8b (Ce.agg (mv rfl)) fun b4 => q1 rfl (z1 ct) (rn (al [1, 2, 3] [0] rfl rfl rfl (sq (cs (cs (cr [0, 1, 2] rfl (q1 rfl (ln (tl36 H) ((Pt.box 0 (mv rfl) rfl rfl).take 9 (cs' := (z2w v1)) rfl) rfl) ?_)))))))))))
 refine z02 h fun y5 ey5 h => q1 rfl (oQ (zkj H) (z7l H φ v1 _ ey5) z6 ⟨ef (mv rfl), trivial⟩) (q1 rfl (z1 (mv rfl)) (rn (al [1, 2, 3, 7] [0] rfl rfl rfl (sq (cs (cr [0, 1] rfl (q1 rfl (z0 (mv rfl)) (q1 rfl (z85 (mv rfl) ct) (rn (al [1, 2, 3, 7, 11] [0] rfl rfl rfl ?_))))))))))
 refine sq ?_
 refine cI h rfl (fun c6 h => ?_) (fun c6 h => ?_)
 ·
  refine cs (cr [0, 1] rfl (q1 rfl (z0 (mv rfl)) (q1 rfl (z1 (mv rfl)) (rn (al [6] [] rfl rfl rfl (sq (z2.ret (AtX.then_ret (AtX.ret' (iv .i64 y5) (z0m.one Try.results29 rfl) [] [] trivial rfl ?_)))))))))
  obtain rfl := Option.some.inj h
  exact ⟨rfl, rfl⟩
 ·
  refine z2.skip (al [1, 2, 3] [0] rfl rfl rfl (sq (cs (cs (cr [0, 1, 2, 3, 4, 5, 6, 7, 8, 9, 10, 11, 12, 13, 14, 15, 16, 17] rfl (q1 rfl (z0 (mv rfl)) (q1 rfl (z28 (mv rfl) ct) (q1 rfl (z0 (mv rfl)) (g1 rfl rfl (fun g7 => z0 (mv rfl)) (g1 rfl rfl (fun g8 => z4 (zea H) (mv rfl)) (g1 rfl rfl (fun g9 => z4 (zf8 H) (mc rfl g9)) ?_)))))))))))
  refine g1 rfl rfl (fun g10 => lb (tl27 H) 0 (mc rfl g10) rfl rfl) (g1 rfl rfl (fun g11 => z2m (il27 H) (mc rfl g11)) (g1 rfl rfl (fun g12 => z98 (mc rfl g12) (mc rfl g12)) (q1 rfl (opOr (mv rfl) ct (fun g13 => (mc rfl g13))) (q1 rfl (z0 (mv rfl)) (g1 rfl rfl (fun g14 => z0 (mv rfl)) (g1 rfl rfl (fun g15 => z28 (mc rfl g15) ct) (q1 rfl (opOr (mv rfl) ct (fun g16 => (mc rfl g16))) (q1 rfl (z0 (mv rfl)) (g1 rfl rfl (fun g17 => z0 (mv rfl)) (g1 rfl rfl (fun g18 => z66 (mc rfl g18) ct) (q1 rfl (opOr (mv rfl) ct (fun g19 => (mc rfl g19))) ?_)))))))))))
  refine rn (al [30] [] rfl rfl rfl (sq ?_))
  refine cI h rfl (fun c20 h => ?_) (fun c20 h => ?_)
  ·
   refine cs (cr [0] rfl (q1 rfl (z1 ct) (rn (al [6] [] rfl rfl rfl (sq (z2.ret (AtX.then_ret (AtX.ret' (iv .i64 1) (z0m.one Try.results29 rfl) [] [] trivial rfl ?_))))))))
   obtain rfl := Option.some.inj h
   exact ⟨rfl, rfl⟩
  ·
   refine z2.skip (al [] [] rfl rfl rfl (sq (cs (cr [0] rfl (q1 rfl (z1 ct) (rn (al [6] [] rfl rfl rfl (sq (z2.ret (AtX.ret' (iv .i64 0) (z0m.one Try.results29 rfl) [] [] trivial rfl ?_))))))))))
   obtain rfl := Option.some.inj h
   exact ⟨rfl, rfl⟩
theorem za6 {P : Program} (H : P = Try.prog) (φ : Nat) (v1 : Pool) (v2 : (List zb)) (v3 : Int) (r : ((List zi))) (h : z6s φ v1 v2 v3 = some r) : z2g P 30 [(agg (z2w v1)), (ro zd 21 v2), (iv .i64 v3)] (zec r) := by
 unfold z6s at h
 refine z2g.of_code' 72 (fn30 H) rfl rfl (Nat.le_of_ble_eq_true rfl) fun w0 base r0 wI => ?_
 refine cl [0, 1, 2] [] rfl rfl rfl (cs (z2.addNil 64 z2q 5 (cr [0, 1] rfl (n1 rfl (z8b (Ce.agg (mv rfl)) fun b4 => q1 rfl (z1 ct) (rn (al [1, 2, 3] [1] rfl rfl rfl (sq (cs (ckE h fun h5 h => ckE h fun h6 h => ?_))))))))))
 refine z2.draw (QR := [(0, _), (1, _), (2, _), (3, _), (4, _), (5, _), (6, _), (7, _), (8, _), (9, _), (10, _), (11, _), (12, _), (13, _)]) (tab := [(some 11, []), (some 12, [0]), (some 13, [1]), (some 14, []), (some 15, [3]), (some 16, [4]), (some 17, []), (some 18, [5, 6]), (some 19, [7]), (some 20, [8]), (some 21, [2, 9]), (some 22, [10]), (some 23, [11]), (some 24, [12]), (some 25, [13]), (some 7, [14, 0, 1, 2, 3, 4, 5, 6, 7, 8, 9, 10, 11, 12, 13, 14])]) (z62 H) (Reg.intro [14] [] (by kernel_rfl) rfl (an rfl) ⟨(qr rfl (z4 (zby H) (mv rfl))), (qr rfl (z4 (zd5 H) (mv rfl))), (qr rfl (lb (tl22 H) 0 (mv rfl) rfl rfl)), (qr rfl (z4 (zea H) (mv rfl))), (qr rfl (z4 (zf8 H) (mv rfl))), (qr rfl (lb (tl27 H) 0 (mv rfl) rfl rfl)), (qr rfl (z0 (mv rfl))), (qr rfl (z0k (ix27 H) (mv rfl) (mv rfl) (h5).1 (za h5))), (qr rfl (z4f (zmc H) (mv rfl) (cs' := [(iv .i64 ((gt v1.fFleet.fWagons v3).fHome))]) 1 rfl)), (qr rfl (lr (tl3 H) (mv rfl))), (qr rfl (z0k (ix22 H) (mv rfl) (mv rfl) (h6).1 (za h6))), (qr rfl (z4f (ze4 H) (mv rfl) (cs' := [(iv .i64 ((gt v1.fNetwork.fPlaces ((gt v1.fFleet.fWagons v3).fHome)).fRailway))]) 1 rfl)), (qr rfl (lr (tl3 H) (mv rfl))), (qr rfl (z3y [.int .i64 0, .int .i64 0, .int .i64 0, .int .i64 0, .int .i64 0] [(0, [(iv .i64 ((gt v1.fNetwork.fPlaces ((gt v1.fFleet.fWagons v3).fHome)).fRailway))])] (out := [(iv .i64 ((gt v1.fNetwork.fPlaces ((gt v1.fFleet.fWagons v3).fHome)).fRailway)), (iv .i64 0), (iv .i64 0), (iv .i64 0), (iv .i64 0)]) (ze64 H) rfl (tb64 H) ⟨(znx H), Nat.le_of_ble_eq_true rfl, (Ce.one (mv rfl) (One.eqv rfl)), trivial⟩ rfl)), trivial⟩ ⟨⟨_, rfl, rfl, rfl, rfl, z1n [(zi.mk (gt v1.fNetwork.fPlaces ((gt v1.fFleet.fWagons v3).fHome)).fRailway (Span.mk 0 0) (Ref.mk 0 0))] (sl49 H) z6r rfl (by decide) ⟨rfl, (Ce.agg (mv rfl)), trivial⟩ fun sv9 => ⟨[(15, (eqv sv9))], rfl, ?_⟩⟩, trivial⟩ ft)
 refine Reg.intro [] [0, 1, 2, 3, 4, 5, 6, 7, 8, 9, 10, 11, 12, 13] (by kernel_rfl) rfl (an rfl) ⟨nf, nf, nf, nf, nf, nf, nf, nf, nf, nf, nf, nf, nf, nf, (qr rfl (z1 (mv rfl))), trivial⟩ trivial (fun _ => al [1, 2, 3, 7] [0, 1] rfl rfl rfl (sq (cs (cs (cr [0, 1, 2, 3, 4] rfl (q1 rfl (ln (tl36 H) ((Pt.box 0 (mv rfl) rfl rfl).take 9 (cs' := (z2w v1)) rfl) rfl) (q1 rfl (z0 (mv rfl)) (z02 h fun y10 ey10 h => n1 rfl (oF (zfe H) (z5e H φ v1 v2 _ ey10) ⟨ef (mv rfl), ef (mv rfl), trivial⟩ fun x13 nw14 hk12 => ?_)))))))))
 obtain ⟨sv11, rfl, rfl⟩ := hk12
 refine ⟨z6, z47 ⟨z3d z53, trivial⟩, ?_⟩
 refine q1 rfl (z8q 2 (il53 H) (mv rfl) rfl) (q1 rfl (z0 ct) (rn (al [2, 7, 28, 29, 30] [1, 2] rfl rfl rfl (sq ?_))))
 refine z2.join (fun z : (List zi) × Value => (z35 φ) z.1) r (fun z => ⟨zl.of [(7, (eqv z.2))], [(row 64 z2q 5 z.1 z.2)]⟩) (fun z h => ?_) (fun hJ17 => ?_)
 ·
  obtain ⟨v15, sv16⟩ := z
  replace h : (z35 φ) v15 = some r := h
  unfold z35 at h
  refine al [7] [0] rfl rfl rfl (sq (cs (cr [0, 1] rfl (q1 rfl (z0 (mv rfl)) (q1 rfl (z1 (mv rfl)) (rn (al [6] [0] rfl rfl rfl (sq (z2.ret (AtX.ret' (eqv sv16) (z0m.one Try.results30 rfl) [0] [(row 64 z2q 5 v15 sv16)] (ol rfl) rfl ?_))))))))))
  obtain rfl := Option.some.inj h
  exact ⟨sv16, rfl, rfl⟩
 ·
  refine z2.block ?_
  refine z2.to (z2.loop (fun n (z : Int × (List zi) × Value) => z2n φ v3 y10 (z35 φ) n z.1 z.2.1) r (fun z => ⟨zl.of [(2, (iv .i64 v3)), (7, (eqv z.2.2)), (28, (eqv sv11)), (29, (iv .i64 (y10.length : Int))), (30, (iv .i64 z.1))], [(row 64 z2q 5 z.2.1 z.2.2), (row 70 z5 10 y10 sv11)]⟩) (fun z => rfl) (fun n21 z ih21 h => ?_) φ (0, [(zi.mk (gt v1.fNetwork.fPlaces ((gt v1.fFleet.fWagons v3).fHome)).fRailway (Span.mk 0 0) (Ref.mk 0 0))], sv9) h) [0, 1] (sl rfl) (ol rfl) rfl
  obtain ⟨v18, v19, sv20⟩ := z
  replace h : z2n φ v3 y10 (z35 φ) (n21 + 1) v18 v19 = some r := h
  rw [z2n] at h
  refine cs (cr [0] rfl (q1 rfl (z28 (mv rfl) (mv rfl)) (rn (al [2, 7, 28, 29, 30, 31] [0, 1] rfl rfl rfl (sq (cs ?_))))))
  refine cI h rfl (fun c22 h => ?_) (fun c22 h => ?_)
  ·
   refine z2.skip (AtX.le' [(2, (iv .i64 v3)), (7, (eqv sv20)), (28, (eqv sv11)), (29, (iv .i64 (y10.length : Int))), (30, (iv .i64 v18))] [0, 1] [(row 64 z2q 5 v19 sv20), (row 70 z5 10 y10 sv11)] (sl rfl) (ol rfl) rfl (AtX.seq ?_))
   refine z2.seq ?_
   refine z2.block ?_
   refine z2.seq ?_
   refine z2.region' [0, 1, 2, 3] rfl ?_
   refine ckE h fun h23 h => zj.cons_q (rowp sv11 ((v18 : Int).toNat * 10)) rfl rfl rfl (zk 1 (ix53 H) (mv rfl) rfl (mv rfl) (h23).1 (h23).2) (zj.cons_q (agg (z5 (gt y10 v18))) rfl rfl rfl (z61 (tl70 H) ((Pt.row _ 1 (k := (v18 : Int).toNat) (fo := 0) z25 (Ev.tmp rfl) rfl (by omega) (za h23) rfl).take 10 (cs' := (z5 (gt y10 v18))) rfl)) (zj.cons rfl rfl rfl (z40 [.int .i64 0, .int .i64 0, .int .i64 0, .int .i64 0, .int .i64 0, .int .i64 0, .int .i64 0, .int .i64 0, .int .i64 0, .int .i64 0] (ze70 H) rfl fun b24 => zj.cons rfl rfl rfl (zao 2 (cells := [(iv .i64 0), (iv .i64 0), (iv .i64 0), (iv .i64 0), (iv .i64 0), (iv .i64 0), (iv .i64 0), (iv .i64 0), (iv .i64 0), (iv .i64 0)]) (cs := (z5 (gt y10 v18))) (out := (z5 (gt y10 v18))) (tl70 H) (Ev.tmp rfl) (Ce.agg (Ev.tmp rfl)) rfl rfl (Nat.le_of_ble_eq_true rfl) rfl (zj.nil (AtX.le' [(2, (iv .i64 v3)), (7, (eqv sv20)), (9, (eqv (.pointer (some ⟨b24, 0, none⟩)))), (28, (eqv sv11)), (29, (iv .i64 (y10.length : Int))), (30, (iv .i64 v18))] [0, 1, 2] [(row 64 z2q 5 v19 sv20), (row 70 z5 10 y10 sv11), (box b24 70 (z5 (gt y10 v18)))] ⟨⟨_, rfl, Ent.refl⟩, ⟨_, rfl, Ent.refl⟩, ⟨_, rfl, Ent.refl⟩, ⟨_, rfl, Ent.refl⟩, ⟨_, rfl, Ent.refl⟩, ⟨_, rfl, Ent.refl⟩, trivial⟩ ⟨⟨_, rfl, EntH.refl⟩, ⟨_, rfl, EntH.refl⟩, ⟨_, rfl, EntH.refl⟩, trivial⟩ rfl (AtX.seq ?_)))))))
   refine z2.seq ?_
   refine z2.region' [0, 1, 2, 3, 4, 5, 6, 7] rfl ?_
   refine zj.cons_q (eqv sv20) rfl rfl rfl (z0 (mv rfl)) (zj.cons_q (eqv sv20) rfl rfl rfl (z0 (mv rfl)) (zj.cons_q (iv .i64 (v19.length : Int)) rfl rfl rfl (z8q 0 (il49 H) (mv rfl) rfl) (zj.cons_q (iv .i64 (W ((v19.length : Int) - 1))) rfl rfl rfl (z2l (mv rfl) (Ev.const _)) (ckE h fun h25 h => zj.cons_q (rowp sv20 (((W ((v19.length : Int) - 1)) : Int).toNat * 5)) rfl rfl rfl (zk 0 (ix49 H) (mv rfl) rfl (mv rfl) (h25).1 (h25).2) (zj.cons_q (agg (z2q (gt v19 (W ((v19.length : Int) - 1))))) rfl rfl rfl (z61 (tl64 H) ((Pt.row _ 0 (k := ((W ((v19.length : Int) - 1)) : Int).toNat) (fo := 0) z6r (Ev.tmp rfl) rfl (by omega) (za h25) rfl).take 5 (cs' := (z2q (gt v19 (W ((v19.length : Int) - 1))))) rfl)) (n1 rfl (z40 _ (ze64 H) rfl fun b26 => n1 rfl (sto 3 (tl64 H) (mv rfl) (Ce.agg (mv rfl)) rfl rfl rfl rfl (rn (al [2, 7, 9, 10, 28, 29, 30] [0, 1, 2, 3] rfl rfl rfl (sq ?_)))))))))))
   refine cs (cr [0, 1, 2, 3, 4, 5, 6, 7, 8, 9, 10, 11, 12, 13, 14, 15, 16, 17, 18] rfl (q1 rfl (z4 (zo2 H) (mv rfl)) (q1 rfl (lb (tl3 H) 2 (mv rfl) rfl rfl) (q1 rfl (z0 (mv rfl)) (q1 rfl (z6y (mv rfl) (mv rfl)) (q1 rfl (z0 (mv rfl)) (g1 rfl rfl (fun g27 => z4 (ztp H) (mv rfl)) (g1 rfl rfl (fun g28 => lb (tl3 H) 2 (mc rfl g28) rfl rfl) (g1 rfl rfl (fun g29 => z4 (zps H) (mv rfl)) (g1 rfl rfl (fun g30 => lb (tl3 H) 3 (mc rfl g30) rfl rfl) (g1 rfl rfl (fun g31 => z6y (mc rfl g31) (mc rfl g31)) ?_)))))))))))
   refine q1 rfl (z44 (mv rfl) (fun g32 => (mc rfl g32)) ct) (q1 rfl (z0 (mv rfl)) (g1 rfl rfl (fun g33 => z4 (zgp H) (mv rfl)) (g1 rfl rfl (fun g34 => lb (tl3 H) 2 (mc rfl g34) rfl rfl) (g1 rfl rfl (fun g35 => z4 (zgx H) (mv rfl)) (g1 rfl rfl (fun g36 => z4 (zge H) (mc rfl g36)) (g1 rfl rfl (fun g37 => lb (tl3 H) 3 (mc rfl g37) rfl rfl) (g1 rfl rfl (fun g38 => z66 (mc rfl g38) (mc rfl g38)) (q1 rfl (z44 (mv rfl) (fun g39 => (mc rfl g39)) ct) (rn (al [2, 7, 9, 28, 29, 30, 58] [0, 1, 2] rfl rfl rfl (sq ?_)))))))))))
   refine z2.join (fun z : (List zi) × Value => (z5x φ v18 (z2n φ v3 y10 (z35 φ) n21)) z.1) r (fun z => ⟨zl.of [(2, (iv .i64 v3)), (7, (eqv z.2)), (28, (eqv sv11)), (29, (iv .i64 (y10.length : Int))), (30, (iv .i64 v18))], [(row 64 z2q 5 z.1 z.2), (row 70 z5 10 y10 sv11)]⟩) (fun z h => ?_) (fun hJ42 => ?_)
   ·
    obtain ⟨v40, sv41⟩ := z
    replace h : (z5x φ v18 (z2n φ v3 y10 (z35 φ) n21)) v40 = some r := h
    unfold z5x at h
    refine AtX.in_normal (al [2, 7, 28, 29, 30] [0, 1] rfl rfl rfl (sq (cr [0, 1] rfl (q1 rfl (z14 (mv rfl) ct) (q1 rfl (z0 (mv rfl)) (rn ?_))))))
    exact AtX.to (ih21 ((W (v18 + 1)), v40, sv41) h) [0, 1] (sl rfl) (ol rfl) rfl
   ·
    refine cI h rfl (fun c43 h => ?_) (fun c43 h => ?_)
    ·
     refine cr [0, 1, 2, 3, 4, 5, 6, 7, 8, 9, 10, 11] rfl (q1 rfl (z0 (mv rfl)) (q1 rfl (z4 (zuk H) (mv rfl)) (q1 rfl (lb (tl3 H) 2 (mv rfl) rfl rfl) (q1 rfl (z4 (zgp H) (mv rfl)) (q1 rfl (lb (tl3 H) 2 (mv rfl) rfl rfl) (q1 rfl (z3y [.int .i64 0, .int .i64 0] [(0, [(iv .i64 ((gt y10 v18).fAt))])] (out := [(iv .i64 ((gt y10 v18).fAt)), (iv .i64 0)]) (ze62 H) rfl (tb62 H) ⟨(zq9 H), Nat.le_of_ble_eq_true rfl, (Ce.one (mv rfl) (One.eqv rfl)), trivial⟩ rfl) (q1 rfl (z4 (ztq H) (mv rfl)) (q1 rfl (ln (tl43 H) ((Pt.box 2 (mv rfl) rfl rfl).take 2 (cs' := (eRef (gt y10 v18).fReceive)) rfl) rfl) (q1 rfl (z3y [.int .i64 0, .int .i64 0, .int .i64 0, .int .i64 0, .int .i64 0] [(0, [(iv .i64 ((gt y10 v18).fTo))]), (1, [(iv .i64 ((gt y10 v18).fAt)), (iv .i64 0)]), (3, (eRef (gt y10 v18).fReceive))] (out := [(iv .i64 ((gt y10 v18).fTo)), (iv .i64 ((gt y10 v18).fAt)), (iv .i64 0), (iv .i64 ((gt y10 v18).fReceive.fRailway)), (iv .i64 ((gt y10 v18).fReceive.fNo))]) (ze64 H) rfl (tb64 H) ⟨(znx H), Nat.le_of_ble_eq_true rfl, (Ce.one (mv rfl) (One.eqv rfl)), ⟨(zm5 H), Nat.le_of_ble_eq_true rfl, (Ce.agg (mv rfl)), ⟨(zpm H), Nat.le_of_ble_eq_true rfl, (Ce.agg (mv rfl)), trivial⟩⟩⟩ rfl) (n1 rfl (z1n (e := z2q) [(zi.mk (gt y10 v18).fTo (Span.mk (gt y10 v18).fAt 0) (gt y10 v18).fReceive)] (sl49 H) z6r rfl (by decide) ⟨rfl, (Ce.agg (mv rfl)), trivial⟩ fun sv44 => ckE h fun h45 h => ?_)))))))))))
     refine n1 rfl (z9g 0 (l := v19) (m := [(zi.mk (gt y10 v18).fTo (Span.mk (gt y10 v18).fAt 0) (gt y10 v18).fReceive)]) (sl49 H) z6r (mv rfl) rfl (Src.row 3 (mv rfl) rfl) h45 (z92 (by decide) h45) fun sv46 => q1 rfl (z1 (mv rfl)) (rn ?_))
     exact AtX.to (hJ42 ((v19 ++ [(zi.mk (gt y10 v18).fTo (Span.mk (gt y10 v18).fAt 0) (gt y10 v18).fReceive)]), sv46) h) [0, 1] (sl rfl) (ol rfl) rfl
    ·
     refine z2.skip ?_
     exact AtX.to (hJ42 (v19, sv20) h) [0, 1] (sl rfl) (ol rfl) rfl
  ·
   refine z2.exit (AtX.then_exit (AtX.then_exit (AtX.in_hit ?_)))
   exact AtX.to (hJ17 (v19, sv20) h) [0] (sl rfl) (ol rfl) rfl
theorem z72 {P : Program} (H : P = Try.prog) (φ : Nat) (v1 : Pool) (v2 : (List zb)) (v3 : Int) (v4 : Int) (r : ((List zi) × Int)) (h : z5n φ v1 v2 v3 v4 = some r) : z2g P 12 [(agg (z2w v1)), (ro zd 21 v2), (iv .i64 v3), (iv .i64 v4)] (zeq r) := by
 unfold z5n at h
 refine z2g.of_code' 58 (fn12 H) rfl rfl (Nat.le_of_ble_eq_true rfl) fun w0 base r0 wI => ?_
 refine cl [0, 1, 2, 3] [] rfl rfl rfl (cs (z2.addNil 64 z2q 5 (cr [0, 1, 2] rfl (n1 rfl (z8b (Ce.agg (mv rfl)) fun b5 => q1 rfl (z1 ct) (q1 rfl (z1 ct) (rn (al [1, 2, 3, 4] [1] rfl rfl rfl (sq (cs (cs ?_)))))))))))
 refine cr [0, 1, 2, 3, 4] rfl (q1 rfl (ln (tl36 H) ((Pt.box 0 (mv rfl) rfl rfl).take 9 (cs' := (z2w v1)) rfl) rfl) (q1 rfl (z0 (mv rfl)) (q1 rfl (z0 (mv rfl)) (z02 h fun y6 ey6 h => q1 rfl (oQ (zq6 H) (zaa H φ v1 v3 v4 _ ey6) z6 ⟨ef (mv rfl), ef (mv rfl), ef (mv rfl), trivial⟩) (q1 rfl (z1 (mv rfl)) (rn (al [1, 2, 3, 4, 10] [0] rfl rfl rfl (sq (cs (cr [0, 1] rfl ?_))))))))))
 refine q1 rfl (z0 (mv rfl)) (q1 rfl (z85 (mv rfl) ct) (rn (al [1, 2, 3, 4, 10, 20] [0] rfl rfl rfl (sq ?_))))
 refine cI h rfl (fun c7 h => ?_) (fun c7 h => ?_)
 ·
  refine cs (z2.addNil 64 z2q 5 (cr [0, 1, 2] rfl (q1 rfl (z0 (mv rfl)) (q1 rfl (z1 ct) (q1 rfl (z1 (mv rfl)) (rn (al [8, 9] [1] rfl rfl rfl (sq (z2.ret (AtX.then_ret (AtX.ret' (tupv [(eqv (Value.slice none 0 0)), (iv .i64 y6)]) (z0m.two Try.results12 rfl rfl) [0] [(row 64 z2q 5 ([] : List zi) (Value.slice none 0 0))] (ol rfl) rfl ?_)))))))))))
  obtain rfl := Option.some.inj h
  exact ⟨(Value.slice none 0 0), rfl, rfl⟩
 ·
  refine z2.skip (al [1, 2, 3, 4] [0] rfl rfl rfl (sq (cs (z2.addNil 64 z2q 5 (cr [0] rfl (q1 rfl (z1 ct) (rn (al [1, 2, 3, 4, 11] [0, 1] rfl rfl rfl (sq (cs (cs ?_)))))))))))
  refine cr [0, 1, 2, 3, 4, 5] rfl (q1 rfl (ln (tl36 H) ((Pt.box 0 (mv rfl) rfl rfl).take 9 (cs' := (z2w v1)) rfl) rfl) (q1 rfl (z0 (mv rfl)) (q1 rfl (z0 (mv rfl)) (z02 h fun y8 ey8 h => n1 rfl (oF (zpu H) (za6 H φ v1 v2 v3 _ ey8) ⟨ef (mv rfl), ef (mv rfl), ef (mv rfl), trivial⟩ fun x11 nw12 hk10 => ?_)))))
  obtain ⟨sv9, rfl, rfl⟩ := hk10
  refine ⟨z6, z47 ⟨z3d zag, trivial⟩, ?_⟩
  refine q1 rfl (z8q 2 (il49 H) (mv rfl) rfl) (q1 rfl (z0 ct) (rn (al [3, 11, 25, 26, 27] [1, 2] rfl rfl rfl (sq ?_))))
  refine z2.join (fun z : (List zi) × Value => (z34 φ) z.1) r (fun z => ⟨zl.of [(11, (eqv z.2))], [(row 64 z2q 5 z.1 z.2)]⟩) (fun z h => ?_) (fun hJ15 => ?_)
  ·
   obtain ⟨v13, sv14⟩ := z
   replace h : (z34 φ) v13 = some r := h
   unfold z34 at h
   refine al [11] [0] rfl rfl rfl (sq (cs (cr [0, 1, 2] rfl (q1 rfl (z0 (mv rfl)) (q1 rfl (z1 (mv rfl)) (q1 rfl (z1 ct) (rn (al [8, 9] [0] rfl rfl rfl (sq (z2.ret (AtX.ret' (tupv [(eqv sv14), (iv .i64 0)]) (z0m.two Try.results12 rfl rfl) [0] [(row 64 z2q 5 v13 sv14)] (ol rfl) rfl ?_)))))))))))
   obtain rfl := Option.some.inj h
   exact ⟨sv14, rfl, rfl⟩
  ·
   refine z2.block ?_
   refine z2.to (z2.loop (fun n (z : Int × (List zi) × Value) => z2p φ v4 y8 (z34 φ) n z.1 z.2.1) r (fun z => ⟨zl.of [(3, (iv .i64 v4)), (11, (eqv z.2.2)), (25, (eqv sv9)), (26, (iv .i64 (y8.length : Int))), (27, (iv .i64 z.1))], [(row 64 z2q 5 z.2.1 z.2.2), (row 64 z2q 5 y8 sv9)]⟩) (fun z => rfl) (fun n19 z ih19 h => ?_) φ (0, ([] : List zi), (Value.slice none 0 0)) h) [0, 1] (sl rfl) (ol rfl) rfl
   obtain ⟨v16, v17, sv18⟩ := z
   replace h : z2p φ v4 y8 (z34 φ) (n19 + 1) v16 v17 = some r := h
   rw [z2p] at h
   refine cs (cr [0] rfl (q1 rfl (z28 (mv rfl) (mv rfl)) (rn (al [3, 11, 25, 26, 27, 28] [0, 1] rfl rfl rfl (sq (cs ?_))))))
   refine cI h rfl (fun c20 h => ?_) (fun c20 h => ?_)
   ·
    refine z2.skip (al [3, 11, 25, 26, 27] [0, 1] rfl rfl rfl (sq (cs (z2.block (cs (cr [0, 1, 2, 3] rfl (ckE h fun h21 h => q1 rfl (zk 1 (ix49 H) (mv rfl) rfl (mv rfl) (h21).1 (h21).2) (q1 rfl (ln (tl64 H) ((Pt.row _ 1 (k := (v16 : Int).toNat) (fo := 0) z6r (mv rfl) rfl (by omega) (za h21) rfl).take 5 (cs' := (z2q (gt y8 v16))) rfl) rfl) (n1 rfl (z40 _ (ze64 H) rfl fun b22 => n1 rfl (sto 2 (tl64 H) (mv rfl) (Ce.agg (mv rfl)) rfl rfl rfl rfl ?_)))))))))))
    refine rn (al [3, 11, 13, 25, 26, 27] [0, 1, 2] rfl rfl rfl (sq (cs (cs (cr [0, 1, 2, 3, 4] rfl (q1 rfl (z4 (zgx H) (mv rfl)) (q1 rfl (z4 (zge H) (mv rfl)) (q1 rfl (lb (tl3 H) 2 (mv rfl) rfl rfl) (q1 rfl (z0 (mv rfl)) (q1 rfl (z98 (mv rfl) (mv rfl)) (rn ?_)))))))))))
    refine al [3, 11, 13, 25, 26, 27, 35] [0, 1, 2] rfl rfl rfl (sq ?_)
    refine cI h rfl (fun c23 h => ?_) (fun c23 h => ?_)
    ·
     refine z2.exit (AtX.then_exit (AtX.in_miss (by decide) (AtX.then_exit (AtX.then_exit (AtX.in_hit ?_)))))
     exact AtX.to (hJ15 (v17, sv18) h) [0] (sl rfl) (ol rfl) rfl
    ·
     refine z2.skip (al [3, 11, 13, 25, 26, 27] [0, 1, 2] rfl rfl rfl (sq (cs (cs (cr [0, 1, 2] rfl (q1 rfl (z0 (mv rfl)) (q1 rfl (z8q 0 (il49 H) (mv rfl) rfl) (q1 rfl (z1 (mv rfl)) (rn (al [3, 11, 13, 14, 25, 26, 27] [0, 1, 2] rfl rfl rfl (sq ?_)))))))))))
     refine cs (cr [0, 1] rfl (q1 rfl (z0 (mv rfl)) (q1 rfl (z66 (mv rfl) ct) (rn (al [3, 11, 13, 14, 25, 26, 27, 39] [0, 1, 2] rfl rfl rfl (sq ?_))))))
     refine z2.join (fun z : (List zi) => (z5w φ v4 y8 v16 (z2p φ v4 y8 (z34 φ) n19)) z) r (fun z => ⟨zl.of [(3, (iv .i64 v4)), (11, (eqv sv18)), (13, (eqv (.pointer (some ⟨b22, 0, none⟩)))), (25, (eqv sv9)), (26, (iv .i64 (y8.length : Int))), (27, (iv .i64 v16))], [(row 64 z2q 5 z sv18), (row 64 z2q 5 y8 sv9), (box b22 64 (z2q (gt y8 v16)))]⟩) (fun v24 h => ?_) (fun hJ25 => ?_)
     ·
      replace h : (z5w φ v4 y8 v16 (z2p φ v4 y8 (z34 φ) n19)) v24 = some r := h
      unfold z5w at h
      refine al [3, 11, 13, 25, 26, 27] [0, 1, 2] rfl rfl rfl (sq (cs (cr [0, 1, 2, 3] rfl (q1 rfl (z0 (mv rfl)) (q1 rfl (z4 (zgx H) (mv rfl)) (q1 rfl (z4 (zkh H) (mv rfl)) (n1 rfl (sto 2 (tl3 H) (mv rfl) (Ce.one (mv rfl) (One.eqv rfl)) rfl rfl rfl rfl (rn (al [3, 11, 13, 25, 26, 27] [0, 1, 2] rfl rfl rfl (sq (cr [0, 1, 2, 3, 4] rfl ?_))))))))))))
      refine q1 rfl (z0 (mv rfl)) (q1 rfl (ln (tl64 H) ((Pt.box 2 (mv rfl) rfl rfl).take 5 (cs' := [(iv .i64 ((gt y8 v16).fRailway)), (iv .i64 ((gt y8 v16).fSpan.fFrom)), (iv .i64 v4), (iv .i64 ((gt y8 v16).fRef.fRailway)), (iv .i64 ((gt y8 v16).fRef.fNo))]) rfl) rfl) (n1 rfl (z1n (e := z2q) [(zi.mk (gt y8 v16).fRailway (Span.mk (gt y8 v16).fSpan.fFrom v4) (gt y8 v16).fRef)] (sl49 H) z6r rfl (by decide) ⟨rfl, (Ce.agg (mv rfl)), trivial⟩ fun sv26 => ckE h fun h27 h => zj.cons rfl rfl rfl (z9g 0 (l := v24) (m := [(zi.mk (gt y8 v16).fRailway (Span.mk (gt y8 v16).fSpan.fFrom v4) (gt y8 v16).fRef)]) (sl49 H) z6r (mv rfl) rfl (Src.row 3 (mv rfl) rfl) h27 (z92 (by decide) h27) fun sv28 => cq rfl rfl rfl (z1 (mv rfl)) (zj.nil (AtX.in_normal (AtX.le' [(3, (iv .i64 v4)), (11, (eqv sv28)), (25, (eqv sv9)), (26, (iv .i64 (y8.length : Int))), (27, (iv .i64 v16))] [0, 1] [(row 64 z2q 5 (v24 ++ [(zi.mk (gt y8 v16).fRailway (Span.mk (gt y8 v16).fSpan.fFrom v4) (gt y8 v16).fRef)]) sv28), (row 64 z2q 5 y8 sv9)] (sl rfl) (ol rfl) rfl (AtX.seq ?_))))))))
      refine z2.region' [0, 1] rfl ?_
      refine zj.cons_q (iv .i64 (W (v16 + 1))) rfl rfl rfl (z14 (mv rfl) (Ev.const _)) (zj.cons_q (iv .i64 (W (v16 + 1))) rfl rfl rfl (z0 (mv rfl)) (zj.nil ?_))
      exact AtX.to (ih19 ((W (v16 + 1)), (v24 ++ [(zi.mk (gt y8 v16).fRailway (Span.mk (gt y8 v16).fSpan.fFrom v4) (gt y8 v16).fRef)]), sv28) h) [0, 1] ⟨⟨_, rfl, Ent.refl⟩, ⟨_, rfl, Ent.refl⟩, ⟨_, rfl, Ent.refl⟩, ⟨_, rfl, Ent.refl⟩, ⟨_, rfl, Ent.refl⟩, trivial⟩ ⟨⟨_, rfl, EntH.refl⟩, ⟨_, rfl, EntH.refl⟩, trivial⟩ rfl
     ·
      refine cI h rfl (fun c29 h => ?_) (fun c29 h => ?_)
      ·
       refine z2.region' [0, 1, 2, 3, 4, 5, 6, 7, 8, 9] rfl ?_
       refine zj.cons_q (eqv sv18) rfl rfl rfl (z0 (mv rfl)) (zj.cons_q (iv .i64 (v17.length : Int)) rfl rfl rfl (z0 (mv rfl)) (zj.cons_q (iv .i64 (W ((v17.length : Int) - 1))) rfl rfl rfl (z2l (mv rfl) (Ev.const _)) (zj.cons_q (eqv (.pointer (some ⟨b22, 1, none⟩))) rfl rfl rfl (z4 (zgx H) (mv rfl)) (zj.cons_q (eqv (.pointer (some ⟨b22, 1, none⟩))) rfl rfl rfl (z4 (zge H) (mv rfl)) (zj.cons_q (iv .i64 ((gt y8 v16).fSpan.fFrom)) rfl rfl rfl (z29 (tl3 H) ((Pt.box 2 (mv rfl) rfl rfl).take 1 (cs' := [(iv .i64 ((gt y8 v16).fSpan.fFrom))]) rfl)) (ckE h fun h30 h => zj.cons_q (rowp sv18 (((W ((v17.length : Int) - 1)) : Int).toNat * 5)) rfl rfl rfl (zk 0 (ix49 H) (mv rfl) rfl (mv rfl) (h30).1 (h30).2) (zj.cons_q (rowp sv18 (((W ((v17.length : Int) - 1)) : Int).toNat * 5 + 1)) rfl rfl rfl (zam (zgx H) (mv rfl)) (zj.cons_q (rowp sv18 (((W ((v17.length : Int) - 1)) : Int).toNat * 5 + 1 + 1)) rfl rfl rfl (zam (zkh H) (mv rfl)) (zj.cons rfl rfl rfl (z3z 0 (k := ((W ((v17.length : Int) - 1)) : Int).toNat) (fo := 2) (z' := (zi.mk (gt v17 (W ((v17.length : Int) - 1))).fRailway (Span.mk (gt v17 (W ((v17.length : Int) - 1))).fSpan.fFrom (gt y8 v16).fSpan.fFrom) (gt v17 (W ((v17.length : Int) - 1))).fRef)) (cs := [(iv .i64 ((gt y8 v16).fSpan.fFrom))]) z6r (tl3 H) (Ev.tmp rfl) (Ce.one (Ev.tmp rfl) (One.eqv rfl)) rfl rfl (by omega) (za h30) (Nat.le_of_ble_eq_true rfl) rfl (rn ?_)))))))))))
       exact AtX.to (hJ25 (z1t v17 (W ((v17.length : Int) - 1)) (zi.mk (gt v17 (W ((v17.length : Int) - 1))).fRailway (Span.mk (gt v17 (W ((v17.length : Int) - 1))).fSpan.fFrom (gt y8 v16).fSpan.fFrom) (gt v17 (W ((v17.length : Int) - 1))).fRef)) h) [0, 1, 2] (sl rfl) (ol rfl) rfl
      ·
       refine z2.skip ?_
       exact AtX.to (hJ25 v17 h) [0, 1, 2] (sl rfl) (ol rfl) rfl
   ·
    refine z2.exit (AtX.then_exit (AtX.then_exit (AtX.in_hit ?_)))
    exact AtX.to (hJ15 (v17, sv18) h) [0] (sl rfl) (ol rfl) rfl
theorem zbx {P : Program} (H : P = Try.prog) (φ : Nat) (v1 : Pool) (v2 : (List zb)) (v3 : Int) (v4 : Int) (r : (Int × Int)) (h : z8v φ v1 v2 v3 v4 = some r) : z2g P 18 [(agg (z2w v1)), (ro zd 21 v2), (iv .i64 v3), (iv .i64 v4)] (fun x news => x = tupv [(iv .i64 r.1), (iv .i64 r.2)] ∧ news = []) := by
 unfold z8v at h
 refine z2g.of_code' 42 (fn18 H) rfl rfl (Nat.le_of_ble_eq_true rfl) fun w0 base r0 wI => ?_
 refine cl [0, 1, 2, 3] [] rfl rfl rfl (cs (cr [0, 1, 2] rfl (n1 rfl (z8b (Ce.agg (mv rfl)) fun b5 => q1 rfl (z1 ct) (q1 rfl (z1 ct) (rn (al [1, 2, 3, 4] [0] rfl rfl rfl (sq (cs (cs (cr [0, 1, 2, 3, 4] rfl ?_)))))))))))
 refine q1 rfl (ln (tl36 H) ((Pt.box 0 (mv rfl) rfl rfl).take 9 (cs' := (z2w v1)) rfl) rfl) (q1 rfl (z0 (mv rfl)) (q1 rfl (z0 (mv rfl)) (z02 h fun y6 ey6 h => q1 rfl (oQ (zq6 H) (zaa H φ v1 v3 v4 _ ey6) z6 ⟨ef (mv rfl), ef (mv rfl), ef (mv rfl), trivial⟩) (q1 rfl (z1 (mv rfl)) (rn (al [1, 2, 3, 4, 10] [0] rfl rfl rfl (sq (cs (cr [0, 1] rfl (q1 rfl (z0 (mv rfl)) ?_))))))))))
 refine q1 rfl (z85 (mv rfl) ct) (rn (al [1, 2, 3, 4, 10, 18] [0] rfl rfl rfl (sq ?_)))
 refine cI h rfl (fun c7 h => ?_) (fun c7 h => ?_)
 ·
  refine cs (cr [0, 1, 2] rfl (q1 rfl (z0 (mv rfl)) (q1 rfl (z1 ct) (q1 rfl (z1 (mv rfl)) (rn (al [8, 9] [] rfl rfl rfl (sq (z2.ret (AtX.then_ret (AtX.ret' (tupv [(iv .i64 0), (iv .i64 y6)]) (z0m.two Try.results18 rfl rfl) [] [] trivial rfl ?_))))))))))
  obtain rfl := Option.some.inj h
  exact ⟨rfl, rfl⟩
 ·
  refine z2.skip (al [1, 2, 3, 4] [0] rfl rfl rfl (sq (cs (cr [0, 1, 2, 3, 4] rfl (q1 rfl (ln (tl36 H) ((Pt.box 0 (mv rfl) rfl rfl).take 9 (cs' := (z2w v1)) rfl) rfl) (q1 rfl (z0 (mv rfl)) (q1 rfl (z0 (mv rfl)) (z02 h fun y8 ey8 h => n1 rfl (oF (zpu H) (za6 H φ v1 v2 v3 _ ey8) ⟨ef (mv rfl), ef (mv rfl), ef (mv rfl), trivial⟩ fun x11 nw12 hk10 => ?_)))))))))
  obtain ⟨sv9, rfl, rfl⟩ := hk10
  refine ⟨z6, z47 ⟨z3d zag, trivial⟩, ?_⟩
  refine q1 rfl (z1 (mv rfl)) (rn (al [3, 11] [1] rfl rfl rfl (sq (cs (cr [0, 1, 2, 3] rfl (q1 rfl (z0 (mv rfl)) (q1 rfl (z8q 0 (il49 H) (mv rfl) rfl) (q1 rfl (z2l (mv rfl) ct) (q1 rfl (z1 (mv rfl)) (rn (al [3, 11, 12] [0] rfl rfl rfl ?_)))))))))))
  refine sq (cs ?_)
  refine z2.join (fun z : Int => (z5t φ y8) z) r (fun z => ⟨zl.of [(11, (eqv sv9)), (12, (iv .i64 z))], [(row 64 z2q 5 y8 sv9)]⟩) (fun v13 h => ?_) (fun hJ14 => ?_)
  ·
   replace h : (z5t φ y8) v13 = some r := h
   unfold z5t at h
   refine al [11, 12] [0] rfl rfl rfl (sq (cs (cr [0, 1, 2, 3, 4, 5, 6] rfl (q1 rfl (z0 (mv rfl)) (q1 rfl (z0 (mv rfl)) (ckE h fun h15 h => q1 rfl (zk 0 (ix49 H) (mv rfl) rfl (mv rfl) (h15).1 (h15).2) (q1 rfl (zam (zps H) (mv rfl)) (q1 rfl (z29 (tl3 H) ((Pt.row _ 0 (k := (v13 : Int).toNat) (fo := 0) z6r (mv rfl) rfl (by omega) (za h15) rfl).take 1 (cs' := [(iv .i64 ((gt y8 v13).fRailway))]) rfl)) (q1 rfl (z1 (mv rfl)) (q1 rfl (z1 ct) ?_))))))))))
   refine rn (al [8, 9] [] rfl rfl rfl (sq (z2.ret (AtX.ret' (tupv [(iv .i64 ((gt y8 v13).fRailway)), (iv .i64 0)]) (z0m.two Try.results18 rfl rfl) [] [] trivial rfl ?_))))
   obtain rfl := Option.some.inj h
   exact ⟨rfl, rfl⟩
  ·
   refine z2.block ?_
   refine z2.to (z2.loop (fun n (z : Int) => z6b φ v4 y8 (z5t φ y8) n z) r (fun z => ⟨zl.of [(3, (iv .i64 v4)), (11, (eqv sv9)), (12, (iv .i64 z))], [(row 64 z2q 5 y8 sv9)]⟩) (fun z => rfl) (fun n17 v16 ih17 h => ?_) φ (W ((y8.length : Int) - 1)) h) [0] (sl rfl) (ol rfl) rfl
   replace h : z6b φ v4 y8 (z5t φ y8) (n17 + 1) v16 = some r := h
   rw [z6b] at h
   refine cs (cs (cr [0, 1, 2, 3, 4, 5, 6, 7] rfl (q1 rfl (z0 (mv rfl)) (q1 rfl (z0 (mv rfl)) (ckE h fun h18 h => q1 rfl (zk 0 (ix49 H) (mv rfl) rfl (mv rfl) (h18).1 (h18).2) (q1 rfl (zam (zgx H) (mv rfl)) (q1 rfl (zam (zge H) (mv rfl)) (q1 rfl (z29 (tl3 H) ((Pt.row _ 0 (k := (v16 : Int).toNat) (fo := 1) z6r (mv rfl) rfl (by omega) (za h18) rfl).take 1 (cs' := [(iv .i64 ((gt y8 v16).fSpan.fFrom))]) rfl)) (q1 rfl (z0 (mv rfl)) (q1 rfl (z66 (mv rfl) (mv rfl)) ?_))))))))))
   refine rn (al [3, 11, 12, 34] [0] rfl rfl rfl (sq ?_))
   refine cI h rfl (fun c19 h => ?_) (fun c19 h => ?_)
   ·
    refine z2.skip (al [3, 11, 12] [0] rfl rfl rfl (sq (z2.block (cr [0, 1, 2] rfl (q1 rfl (z0 (mv rfl)) (q1 rfl (z2l (mv rfl) ct) (q1 rfl (z1 (mv rfl)) (rn (AtX.in_normal ?_)))))))))
    exact AtX.to (ih17 (W (v16 - 1)) h) [0] (sl rfl) (ol rfl) rfl
   ·
    refine z2.exit (AtX.then_exit (AtX.then_exit (AtX.in_hit ?_)))
    exact AtX.to (hJ14 v16 h) [0] (sl rfl) (ol rfl) rfl
theorem z7j {P : Program} (H : P = Try.prog) (φ : Nat) (v1 : (List z3)) (v2 : (List z3)) (r : (Bool)) (h : z4n φ v1 v2 = some r) : z2g P 16 [(ro z5 10 v1), (ro z5 10 v2)] (fun x news => x = (bv r) ∧ news = []) := by
 unfold z4n at h
 refine z2g.of_code' 26 (fn16 H) rfl rfl (Nat.le_of_ble_eq_true rfl) fun w0 base r0 wI => ?_
 refine cl [0, 1] [] rfl rfl rfl (cs (cr [0] rfl (q1 rfl (z1 ct) (rn (al [0, 1] [] rfl rfl rfl (sq (cs (cs (cr [0, 1, 2, 3, 4] rfl (q1 rfl (z0 (mv rfl)) (q1 rfl (z2m (il53 H) (mv rfl)) ?_)))))))))))
 refine q1 rfl (z0 (mv rfl)) (q1 rfl (z2m (il53 H) (mv rfl)) (q1 rfl (z85 (mv rfl) (mv rfl)) (rn (al [0, 1, 10] [] rfl rfl rfl (sq ?_)))))
 refine cI h rfl (fun c3 h => ?_) (fun c3 h => ?_)
 ·
  refine cs (cr [0] rfl (q1 rfl (z1 ct) (rn (al [4] [] rfl rfl rfl (sq (z2.ret (AtX.then_ret (AtX.ret' (bv false) (z0m.one Try.results16 rfl) [] [] trivial rfl ?_))))))))
  obtain rfl := Option.some.inj h
  exact ⟨rfl, rfl⟩
 ·
  refine z2.skip (al [0, 1] [] rfl rfl rfl (sq (cs (cs (cr [0] rfl (q1 rfl (z1 ct) (rn (al [0, 1, 5] [] rfl rfl rfl (sq ?_)))))))))
  refine z2.join (fun z : Unit => (z3i φ)) r (fun z => ⟨zl.of [], []⟩) (fun z h => ?_) (fun hJ4 => ?_)
  ·
   replace h : (z3i φ) = some r := h
   unfold z3i at h
   refine al [] [] rfl rfl rfl (sq (cs (cr [0] rfl (q1 rfl (z1 ct) (rn (al [4] [] rfl rfl rfl (sq (z2.ret (AtX.ret' (bv true) (z0m.one Try.results16 rfl) [] [] trivial rfl ?_)))))))))
   obtain rfl := Option.some.inj h
   exact ⟨rfl, rfl⟩
  ·
   refine z2.block ?_
   refine z2.to (z2.loop (fun n (z : Int) => z2z φ v1 v2 (z3i φ) n z) r (fun z => ⟨zl.of [(0, (ro z5 10 v1)), (1, (ro z5 10 v2)), (5, (iv .i64 z))], []⟩) (fun z => rfl) (fun n6 v5 ih6 h => ?_) φ 0 h) [] (sl rfl) trivial rfl
   replace h : z2z φ v1 v2 (z3i φ) (n6 + 1) v5 = some r := h
   rw [z2z] at h
   refine cs (cs (cr [0, 1, 2, 3] rfl (q1 rfl (z0 (mv rfl)) (q1 rfl (z0 (mv rfl)) (q1 rfl (z2m (il53 H) (mv rfl)) (q1 rfl (z28 (mv rfl) (mv rfl)) (rn (al [0, 1, 5, 14] [] rfl rfl rfl (sq ?_)))))))))
   refine cI h rfl (fun c7 h => ?_) (fun c7 h => ?_)
   ·
    refine z2.skip (al [0, 1, 5] [] rfl rfl rfl (sq (cs (z2.block (cs (ckE h fun h8 h => ckE h fun h9 h => z2.draw (QR := [(0, _), (1, _), (2, _), (3, _), (4, _), (5, _), (6, _), (7, _), (8, _)]) (tab := [(some 17, []), (some 18, []), (some 19, [0, 1]), (some 20, [2]), (some 21, []), (some 22, []), (some 23, [4, 5]), (some 24, [6]), (some 25, [3, 7])]) (z62 H) (Reg.intro [] [] (by kernel_rfl) rfl (an rfl) ⟨(qr rfl (z0 (mv rfl))), (qr rfl (z0 (mv rfl))), (qr rfl (z0k (ix53 H) (mv rfl) (mv rfl) (h8).1 (za h8))), (qr rfl (ln (tl70 H) (Pt.rop (mv rfl)) rfl)), (qr rfl (z0 (mv rfl))), (qr rfl (z0 (mv rfl))), (qr rfl (z0k (ix53 H) (mv rfl) (mv rfl) (h9).1 (za h9))), (qr rfl (ln (tl70 H) (Pt.rop (mv rfl)) rfl)), (qr rfl (zrg [(.int .i64 ((gt v1 v5).fWagon)), (.int .i64 ((gt v1 v5).fPlace)), (.int .i64 ((gt v1 v5).fFrom)), (.int .i64 ((gt v1 v5).fTo)), (.int .i64 ((gt v1 v5).fAt)), (.int .i64 ((gt v1 v5).fCode)), (.int .i64 ((gt v1 v5).fDeliver.fRailway)), (.int .i64 ((gt v1 v5).fDeliver.fNo)), (.int .i64 ((gt v1 v5).fReceive.fRailway)), (.int .i64 ((gt v1 v5).fReceive.fNo))] [(.int .i64 ((gt v2 v5).fWagon)), (.int .i64 ((gt v2 v5).fPlace)), (.int .i64 ((gt v2 v5).fFrom)), (.int .i64 ((gt v2 v5).fTo)), (.int .i64 ((gt v2 v5).fAt)), (.int .i64 ((gt v2 v5).fCode)), (.int .i64 ((gt v2 v5).fDeliver.fRailway)), (.int .i64 ((gt v2 v5).fDeliver.fNo)), (.int .i64 ((gt v2 v5).fReceive.fRailway)), (.int .i64 ((gt v2 v5).fReceive.fNo))] (mv rfl) (mv rfl) rfl rfl (eg70 H) (fun w => zk2 H w (gt v1 v5) (gt v2 v5)))), trivial⟩ trivial (fun _ => al [0, 1, 5, 25] [] rfl rfl rfl (sq ?_)))))))))
    refine cI h rfl (fun c10 h => ?_) (fun c10 h => ?_)
    ·
     refine cs (cr [0] rfl (q1 rfl (z1 ct) (rn (al [4] [] rfl rfl rfl (sq (z2.ret (AtX.in_ret (AtX.then_ret (AtX.then_ret (AtX.in_ret (AtX.then_ret ?_)))))))))))
     refine AtX.ret' (bv false) (z0m.one Try.results16 rfl) [] [] trivial rfl ?_
     obtain rfl := Option.some.inj h
     exact ⟨rfl, rfl⟩
    ·
     refine z2.skip (AtX.in_normal (al [0, 1, 5] [] rfl rfl rfl (sq (cr [0, 1, 2] rfl (q1 rfl (z0 (mv rfl)) (q1 rfl (z14 (mv rfl) ct) (q1 rfl (z1 (mv rfl)) (rn ?_))))))))
     exact AtX.to (ih6 (W (v5 + 1)) h) [] (sl rfl) trivial rfl
   ·
    refine z2.exit (AtX.then_exit (AtX.then_exit (AtX.in_hit ?_)))
    exact AtX.to (hJ4 () h) [] trivial trivial rfl
theorem zah {P : Program} (H : P = Try.prog) (φ : Nat) (v1 : (List zi)) (v2 : (List zi)) (r : (Bool)) (h : z8s φ v1 v2 = some r) : z2g P 15 [(ro z2q 5 v1), (ro z2q 5 v2)] (fun x news => x = (bv r) ∧ news = []) := by
 unfold z8s at h
 refine z2g.of_code' 26 (fn15 H) rfl rfl (Nat.le_of_ble_eq_true rfl) fun w0 base r0 wI => ?_
 refine cl [0, 1] [] rfl rfl rfl (cs (cr [0] rfl (q1 rfl (z1 ct) (rn (al [0, 1] [] rfl rfl rfl (sq (cs (cs (cr [0, 1, 2, 3, 4] rfl (q1 rfl (z0 (mv rfl)) (q1 rfl (z2m (il49 H) (mv rfl)) ?_)))))))))))
 refine q1 rfl (z0 (mv rfl)) (q1 rfl (z2m (il49 H) (mv rfl)) (q1 rfl (z85 (mv rfl) (mv rfl)) (rn (al [0, 1, 10] [] rfl rfl rfl (sq ?_)))))
 refine cI h rfl (fun c3 h => ?_) (fun c3 h => ?_)
 ·
  refine cs (cr [0] rfl (q1 rfl (z1 ct) (rn (al [4] [] rfl rfl rfl (sq (z2.ret (AtX.then_ret (AtX.ret' (bv false) (z0m.one Try.results15 rfl) [] [] trivial rfl ?_))))))))
  obtain rfl := Option.some.inj h
  exact ⟨rfl, rfl⟩
 ·
  refine z2.skip (al [0, 1] [] rfl rfl rfl (sq (cs (cs (cr [0] rfl (q1 rfl (z1 ct) (rn (al [0, 1, 5] [] rfl rfl rfl (sq ?_)))))))))
  refine z2.join (fun z : Unit => (z7a φ)) r (fun z => ⟨zl.of [], []⟩) (fun z h => ?_) (fun hJ4 => ?_)
  ·
   replace h : (z7a φ) = some r := h
   unfold z7a at h
   refine al [] [] rfl rfl rfl (sq (cs (cr [0] rfl (q1 rfl (z1 ct) (rn (al [4] [] rfl rfl rfl (sq (z2.ret (AtX.ret' (bv true) (z0m.one Try.results15 rfl) [] [] trivial rfl ?_)))))))))
   obtain rfl := Option.some.inj h
   exact ⟨rfl, rfl⟩
  ·
   refine z2.block ?_
   refine z2.to (z2.loop (fun n (z : Int) => z6p φ v1 v2 (z7a φ) n z) r (fun z => ⟨zl.of [(0, (ro z2q 5 v1)), (1, (ro z2q 5 v2)), (5, (iv .i64 z))], []⟩) (fun z => rfl) (fun n6 v5 ih6 h => ?_) φ 0 h) [] (sl rfl) trivial rfl
   replace h : z6p φ v1 v2 (z7a φ) (n6 + 1) v5 = some r := h
   rw [z6p] at h
   refine cs (cs (cr [0, 1, 2, 3] rfl (q1 rfl (z0 (mv rfl)) (q1 rfl (z0 (mv rfl)) (q1 rfl (z2m (il49 H) (mv rfl)) (q1 rfl (z28 (mv rfl) (mv rfl)) (rn (al [0, 1, 5, 14] [] rfl rfl rfl (sq ?_)))))))))
   refine cI h rfl (fun c7 h => ?_) (fun c7 h => ?_)
   ·
    refine z2.skip (al [0, 1, 5] [] rfl rfl rfl (sq (cs (z2.block (cs (ckE h fun h8 h => ckE h fun h9 h => z2.draw (QR := [(0, _), (1, _), (2, _), (3, _), (4, _), (5, _), (6, _), (7, _), (8, _)]) (tab := [(some 17, []), (some 18, []), (some 19, [0, 1]), (some 20, [2]), (some 21, []), (some 22, []), (some 23, [4, 5]), (some 24, [6]), (some 25, [3, 7])]) (z62 H) (Reg.intro [] [] (by kernel_rfl) rfl (an rfl) ⟨(qr rfl (z0 (mv rfl))), (qr rfl (z0 (mv rfl))), (qr rfl (z0k (ix49 H) (mv rfl) (mv rfl) (h8).1 (za h8))), (qr rfl (ln (tl64 H) (Pt.rop (mv rfl)) rfl)), (qr rfl (z0 (mv rfl))), (qr rfl (z0 (mv rfl))), (qr rfl (z0k (ix49 H) (mv rfl) (mv rfl) (h9).1 (za h9))), (qr rfl (ln (tl64 H) (Pt.rop (mv rfl)) rfl)), (qr rfl (zrg [(.int .i64 ((gt v1 v5).fRailway)), (.int .i64 ((gt v1 v5).fSpan.fFrom)), (.int .i64 ((gt v1 v5).fSpan.fTo)), (.int .i64 ((gt v1 v5).fRef.fRailway)), (.int .i64 ((gt v1 v5).fRef.fNo))] [(.int .i64 ((gt v2 v5).fRailway)), (.int .i64 ((gt v2 v5).fSpan.fFrom)), (.int .i64 ((gt v2 v5).fSpan.fTo)), (.int .i64 ((gt v2 v5).fRef.fRailway)), (.int .i64 ((gt v2 v5).fRef.fNo))] (mv rfl) (mv rfl) rfl rfl (eg64 H) (fun w => zl3 H w (gt v1 v5) (gt v2 v5)))), trivial⟩ trivial (fun _ => al [0, 1, 5, 25] [] rfl rfl rfl (sq ?_)))))))))
    refine cI h rfl (fun c10 h => ?_) (fun c10 h => ?_)
    ·
     refine cs (cr [0] rfl (q1 rfl (z1 ct) (rn (al [4] [] rfl rfl rfl (sq (z2.ret (AtX.in_ret (AtX.then_ret (AtX.then_ret (AtX.in_ret (AtX.then_ret ?_)))))))))))
     refine AtX.ret' (bv false) (z0m.one Try.results15 rfl) [] [] trivial rfl ?_
     obtain rfl := Option.some.inj h
     exact ⟨rfl, rfl⟩
    ·
     refine z2.skip (AtX.in_normal (al [0, 1, 5] [] rfl rfl rfl (sq (cr [0, 1, 2] rfl (q1 rfl (z0 (mv rfl)) (q1 rfl (z14 (mv rfl) ct) (q1 rfl (z1 (mv rfl)) (rn ?_))))))))
     exact AtX.to (ih6 (W (v5 + 1)) h) [] (sl rfl) trivial rfl
   ·
    refine z2.exit (AtX.then_exit (AtX.then_exit (AtX.in_hit ?_)))
    exact AtX.to (hJ4 () h) [] trivial trivial rfl
theorem zg0 {P : Program} (H : P = Try.prog) (φ : Nat) (v1 : Int) (r : (List Int)) (h : z9l φ v1 = some r) : z2g P 62 [(eqv (.slice none 0 0)), (iv .i64 v1)] (zhr r) := by
 unfold z9l at h
 refine z2g.of_code' 27 (fn62 H) rfl rfl (Nat.le_of_ble_eq_true rfl) fun w0 base r0 wI => ?_
 refine cl [0, 1] [] rfl rfl rfl (z2.addNil 3 eI64 1 (cs (z2.addNil 3 eI64 1 (cr [0] rfl (q1 rfl (z1 ct) (rn (al [0, 1] [0] rfl rfl rfl (sq (cs (cs (cr [0, 1] rfl ?_)))))))))))
 refine q1 rfl (z0 (mv rfl)) (q1 rfl (z28 (mv rfl) ct) (rn (al [0, 1, 6] [0] rfl rfl rfl (sq ?_))))
 refine cI h rfl (fun c2 h => ?_) (fun c2 h => ?_)
 ·
  cases h
 ·
  refine z2.skip (al [0, 1] [0] rfl rfl rfl (sq (cs (cs (cr [0, 1, 2, 3, 4, 5, 6, 7] rfl (q1 rfl (z0 (mv rfl)) (q1 rfl (z0 (mv rfl)) (q1 rfl (zkv (il96 H) (mv rfl)) (q1 rfl (z0 (mv rfl)) (q1 rfl (z8q 0 (il96 H) (mv rfl) rfl) (q1 rfl (z2l (mv rfl) (mv rfl)) ?_)))))))))))
  refine q1 rfl (z2l (mv rfl) (mv rfl)) (q1 rfl (z1 (mv rfl)) (rn (al [0, 1] [0] rfl rfl rfl (sq (cs (cr [0, 1] rfl (q1 rfl (z0 (mv rfl)) (q1 rfl (z66 (mv rfl) ct) (rn (al [0, 1, 16] [0] rfl rfl rfl (sq ?_)))))))))))
  refine z2.join (fun z : (List Int) × Value => (z84 φ) z.1) r (fun z => ⟨zl.of [(0, (eqv z.2))], [(row 3 eI64 1 z.1 z.2)]⟩) (fun z h => ?_) (fun hJ5 => ?_)
  ·
   obtain ⟨v3, sv4⟩ := z
   replace h : (z84 φ) v3 = some r := h
   unfold z84 at h
   refine al [0] [0] rfl rfl rfl (sq (cs (cr [0, 1] rfl (q1 rfl (z0 (mv rfl)) (q1 rfl (z1 (mv rfl)) (rn (al [4] [0] rfl rfl rfl (sq (z2.ret (AtX.ret' (eqv sv4) (z0m.one Try.results62 rfl) [0] [(row 3 eI64 1 v3 sv4)] (ol rfl) rfl ?_))))))))))
   obtain rfl := Option.some.inj h
   exact ⟨sv4, rfl, rfl⟩
  ·
   refine cI h rfl (fun c6 h => ?_) (fun c6 h => ?_)
   ·
    refine cr [0, 1, 2, 3, 4, 5, 6, 7, 8, 9] rfl (q1 rfl (z0 (mv rfl)) (q1 rfl (z0 (mv rfl)) (q1 rfl (zkv (il96 H) (mv rfl)) (q1 rfl (zle (sl96 H) (mv rfl) (mv rfl)) (q1 rfl (z0 (mv rfl)) (ckE h fun h7 h => ckE h fun h8 h => n1 rfl (znc 0 0 [.int .i64 0] (sl96 H) (ui3 H) lI64 (ze3 H) rfl rfl (mv rfl) rfl (mv rfl) h7 h8 (z92 (by decide) h8) fun sv9 => q1 rfl (z0 (mv rfl)) (q1 rfl (zof (il96 H) (mv rfl)) (ckE h fun h10 h => ?_)))))))))
    refine n1 rfl (zrt 0 (sl96 H) lI64 (mv rfl) rfl (mv rfl) (h10).1 (h10).2 fun sv11 => q1 rfl (z1 (mv rfl)) (rn ?_))
    exact AtX.to (hJ5 (((List.replicate ((W (v1 - (W (0 - (([] : List Int).length : Int))))) : Int).toNat (0 : Int)).take (0 : Int).toNat), sv11) h) [0] (sl rfl) (ol rfl) rfl
   ·
    refine z2.skip ?_
    exact AtX.to (hJ5 (([] : List Int), (Value.slice none 0 0)) h) [0] (sl rfl) (ol rfl) rfl
theorem zeg {P : Program} (H : P = Try.prog) (φ : Nat) (v1 : (List (List Int))) (r : ((List Int))) (h : z8p φ v1 = some r) : z2g P 38 [(ro zc7 1 v1)] (zfh r) := by
 unfold z8p at h
 refine z2g.of_code' 36 (fn38 H) rfl rfl (Nat.le_of_ble_eq_true rfl) fun w0 base r0 wI => ?_
 refine cl [0] [] rfl rfl rfl (cs (z2.addNil 3 eI64 1 (cr [0] rfl (q1 rfl (z1 ct) (rn (al [0] [] rfl rfl rfl (sq (cs (cr [0] rfl (q1 rfl (z1 ct) (rn ?_)))))))))))
 refine al [0, 3] [] rfl rfl rfl (sq (cs (cs (cr [0, 1, 2] rfl (q1 rfl (z0 (mv rfl)) (q1 rfl (z2m (zu9 H) (mv rfl)) (q1 rfl (z0 ct) (rn (al [0, 3, 9, 10, 11] [] rfl rfl rfl (sq ?_))))))))))
 refine z2.join (fun z : Int => (z59 φ v1) z) r (fun z => ⟨zl.of [(0, (ro zc7 1 v1)), (3, (iv .i64 z))], []⟩) (fun v2 h => ?_) (fun hJ3 => ?_)
 ·
  replace h : (z59 φ v1) v2 = some r := h
  unfold z59 at h
  refine al [0, 3] [] rfl rfl rfl (sq (cs (cr [0, 1, 2] rfl (q1 rfl (z0 (mv rfl)) (z02 h fun y4 ey4 h => n1 rfl (oF (zsu H) (zg0 H φ v2 _ ey4) ⟨ef ct, ef (mv rfl), trivial⟩ fun x7 nw8 hk6 => ?_))))))
  obtain ⟨sv5, rfl, rfl⟩ := hk6
  refine ⟨z6, z47 ⟨z3d z5c, trivial⟩, ?_⟩
  refine q1 rfl (z1 (mv rfl)) (rn (al [0, 6] [0] rfl rfl rfl (sq (cs (cs (cr [0, 1, 2] rfl (q1 rfl (z0 (mv rfl)) (q1 rfl (z2m (zu9 H) (mv rfl)) (q1 rfl (z0 ct) (rn (al [6, 25, 26, 27] [0] rfl rfl rfl ?_)))))))))))
  refine sq ?_
  refine z2.join (fun z : (List Int) × Value => (z4q φ) z.1) r (fun z => ⟨zl.of [(6, (eqv z.2))], [(row 3 eI64 1 z.1 z.2)]⟩) (fun z h => ?_) (fun hJ11 => ?_)
  ·
   obtain ⟨v9, sv10⟩ := z
   replace h : (z4q φ) v9 = some r := h
   unfold z4q at h
   refine al [6] [0] rfl rfl rfl (sq (cs (cr [0, 1] rfl (q1 rfl (z0 (mv rfl)) (q1 rfl (z1 (mv rfl)) (rn (al [2] [0] rfl rfl rfl (sq (z2.ret (AtX.ret' (eqv sv10) (z0m.one Try.results38 rfl) [0] [(row 3 eI64 1 v9 sv10)] (ol rfl) rfl ?_))))))))))
   obtain rfl := Option.some.inj h
   exact ⟨sv10, rfl, rfl⟩
  ·
   refine z2.block ?_
   refine z2.to (z2.loop (fun n (z : Int × (List Int) × Value) => z4v φ v1 (z4q φ) n z.1 z.2.1) r (fun z => ⟨zl.of [(6, (eqv z.2.2)), (25, (ro zc7 1 v1)), (26, (iv .i64 (v1.length : Int))), (27, (iv .i64 z.1))], [(row 3 eI64 1 z.2.1 z.2.2)]⟩) (fun z => rfl) (fun n15 z ih15 h => ?_) φ (0, y4, sv5) h) [0] (sl rfl) (ol rfl) rfl
   obtain ⟨v12, v13, sv14⟩ := z
   replace h : z4v φ v1 (z4q φ) (n15 + 1) v12 v13 = some r := h
   rw [z4v] at h
   refine cs (cr [0] rfl (q1 rfl (z28 (mv rfl) (mv rfl)) (rn (al [6, 25, 26, 27, 28] [0] rfl rfl rfl (sq (cs ?_))))))
   refine cI h rfl (fun c16 h => ?_) (fun c16 h => ?_)
   ·
    refine z2.skip (al [6, 25, 26, 27] [0] rfl rfl rfl (sq (cs (z2.block (cs (cr [0, 1, 2] rfl (ckE h fun h17 h => q1 rfl (z0k (ztd H) (mv rfl) (mv rfl) (h17).1 (za h17)) (q1 rfl (lr (tl96 H) (mv rfl)) (q1 rfl (z1 (mv rfl)) (rn ?_))))))))))
    refine al [6, 8, 25, 26, 27] [0] rfl rfl rfl (sq (cr [0, 1, 2, 3] rfl (q1 rfl (z0 (mv rfl)) (q1 rfl (z0 (mv rfl)) (ckE h fun h18 h => n1 rfl (z9g 0 (l := v13) (m := (gt v1 v12)) (sl96 H) lI64 (mv rfl) rfl (Src.ro lI64 (by decide) (mv rfl)) h18 (z92 (by decide) h18) fun sv19 => q1 rfl (z1 (mv rfl)) (rn (AtX.in_normal (al [6, 25, 26, 27] [0] rfl rfl rfl (sq ?_))))))))))
    refine cr [0, 1] rfl (q1 rfl (z14 (mv rfl) ct) (q1 rfl (z0 (mv rfl)) (rn ?_)))
    exact AtX.to (ih15 ((W (v12 + 1)), (v13 ++ (gt v1 v12)), sv19) h) [0] (sl rfl) (ol rfl) rfl
   ·
    refine z2.exit (AtX.then_exit (AtX.then_exit (AtX.in_hit ?_)))
    exact AtX.to (hJ11 (v13, sv14) h) [0] (sl rfl) (ol rfl) rfl
 ·
  refine z2.block ?_
  refine z2.to (z2.loop (fun n (z : Int × Int) => z4y φ v1 (z59 φ v1) n z.1 z.2) r (fun z => ⟨zl.of [(0, (ro zc7 1 v1)), (3, (iv .i64 z.1)), (9, (ro zc7 1 v1)), (10, (iv .i64 (v1.length : Int))), (11, (iv .i64 z.2))], []⟩) (fun z => rfl) (fun n22 z ih22 h => ?_) φ (0, 0) h) [] (sl rfl) trivial rfl
  obtain ⟨v20, v21⟩ := z
  replace h : z4y φ v1 (z59 φ v1) (n22 + 1) v20 v21 = some r := h
  rw [z4y] at h
  refine cs (cr [0] rfl (q1 rfl (z28 (mv rfl) (mv rfl)) (rn (al [0, 3, 9, 10, 11, 12] [] rfl rfl rfl (sq (cs ?_))))))
  refine cI h rfl (fun c23 h => ?_) (fun c23 h => ?_)
  ·
   refine z2.skip (al [0, 3, 9, 10, 11] [] rfl rfl rfl (sq (cs (z2.block (cs (cr [0, 1, 2] rfl (ckE h fun h24 h => q1 rfl (z0k (ztd H) (mv rfl) (mv rfl) (h24).1 (za h24)) (q1 rfl (lr (tl96 H) (mv rfl)) (q1 rfl (z1 (mv rfl)) (rn ?_))))))))))
   refine al [0, 3, 5, 9, 10, 11] [] rfl rfl rfl (sq (cs (cr [0, 1, 2, 3, 4] rfl (q1 rfl (z0 (mv rfl)) (q1 rfl (z0 (mv rfl)) (q1 rfl (z2m (il96 H) (mv rfl)) (q1 rfl (z14 (mv rfl) (mv rfl)) (q1 rfl (z1 (mv rfl)) (rn (al [0, 3, 9, 10, 11] [] rfl rfl rfl (sq ?_)))))))))))
   refine cs (cr [0, 1] rfl (q1 rfl (z0 (mv rfl)) (q1 rfl (z28 (mv rfl) ct) (rn (al [0, 3, 9, 10, 11, 20] [] rfl rfl rfl (sq ?_))))))
   refine cI h rfl (fun c25 h => ?_) (fun c25 h => ?_)
   ·
    cases h
   ·
    refine z2.skip (AtX.in_normal (al [0, 3, 9, 10, 11] [] rfl rfl rfl (sq (cr [0, 1] rfl (q1 rfl (z14 (mv rfl) ct) (q1 rfl (z0 (mv rfl)) (rn ?_)))))))
    exact AtX.to (ih22 ((W (v20 + ((gt v1 v21).length : Int))), (W (v21 + 1))) h) [] (sl rfl) trivial rfl
  ·
   refine z2.exit (AtX.then_exit (AtX.then_exit (AtX.in_hit ?_)))
   exact AtX.to (hJ3 v20 h) [] (sl rfl) trivial rfl
theorem z69 {P : Program} (H : P = Try.prog) (φ : Nat) (v1 : (List Ref)) (v3 : Int) (v4 : Int) (y5 : (Ref → Ref → Option Int)) (sv2 : Value) (r : (List Ref)) (h : z1q φ v1 v3 v4 y5 = some r) : MutT P 80 [(eqv sv2), (iv .i64 v3), (iv .i64 v4), (fcmp P (fun x => (agg (eRef x))) y5)] 43 eRef 2 v1 sv2 (fun x l' => x = eqv (.tuple #[]) ∧ r = l') := by
 unfold z1q at h
 refine MutT.of_code 53 (fn80 H) rfl rfl (Nat.le_of_ble_eq_true rfl) fun w0 base r0 wI => ?_
 refine cl [0, 1, 2, 3] [0] rfl rfl rfl (cs (cr [0, 1, 2] rfl (q1 rfl (z0 (mv rfl)) (q1 rfl (z14 (mv rfl) ct) (q1 rfl (z1 (mv rfl)) (rn (al [0, 1, 2, 3, 8] [0] rfl rfl rfl (sq (z2.block ?_)))))))))
 refine z2.to (z2.loop (fun n (z : Int × (List Ref)) => zg φ v3 v4 y5 n z.1 z.2) r (fun z => ⟨zl.of [(0, (eqv sv2)), (1, (iv .i64 v3)), (2, (iv .i64 v4)), (3, (fcmp P (fun x => (agg (eRef x))) y5)), (8, (iv .i64 z.1))], [(row 43 eRef 2 z.2 sv2)]⟩) (fun z => rfl) (fun n8 z ih8 h => ?_) φ ((W (v3 + 1)), v1) h) [0] (sl rfl) (ol rfl) rfl
 obtain ⟨v6, v7⟩ := z
 replace h : zg φ v3 v4 y5 (n8 + 1) v6 v7 = some r := h
 rw [zg] at h
 refine cs (cs (cr [0, 1, 2] rfl (q1 rfl (z0 (mv rfl)) (q1 rfl (z0 (mv rfl)) (q1 rfl (z28 (mv rfl) (mv rfl)) (rn (al [0, 1, 2, 3, 8, 14] [0] rfl rfl rfl (sq ?_))))))))
 refine cI h rfl (fun c9 h => ?_) (fun c9 h => ?_)
 ·
  refine z2.skip (al [0, 1, 2, 3, 8] [0] rfl rfl rfl (sq (cs ?_)))
  refine z2.join (fun z : (List Ref) => (z0e φ v6 (zg φ v3 v4 y5 n8)) z) r (fun z => ⟨zl.of [(0, (eqv sv2)), (1, (iv .i64 v3)), (2, (iv .i64 v4)), (3, (fcmp P (fun x => (agg (eRef x))) y5)), (8, (iv .i64 v6))], [(row 43 eRef 2 z sv2)]⟩) (fun v10 h => ?_) (fun hJ11 => ?_)
  ·
   replace h : (z0e φ v6 (zg φ v3 v4 y5 n8)) v10 = some r := h
   unfold z0e at h
   refine al [0, 1, 2, 3, 8] [0] rfl rfl rfl (sq (cr [0, 1, 2] rfl (q1 rfl (z0 (mv rfl)) (q1 rfl (z14 (mv rfl) ct) (q1 rfl (z1 (mv rfl)) (rn ?_))))))
   exact AtX.to (ih8 ((W (v6 + 1)), v10) h) [0] (sl rfl) (ol rfl) rfl
  ·
   refine z2.block (cs (cr [0, 1] rfl (q1 rfl (z0 (mv rfl)) (q1 rfl (z1 (mv rfl)) (rn (al [0, 1, 2, 3, 8, 9] [0] rfl rfl rfl (sq (z2.block ?_))))))))
   refine z2.to (z2.loop (fun n (z : Int × (List Ref)) => z0d φ v3 y5 (z0e φ v6 (zg φ v3 v4 y5 n8)) n z.1 z.2) r (fun z => ⟨zl.of [(0, (eqv sv2)), (1, (iv .i64 v3)), (2, (iv .i64 v4)), (3, (fcmp P (fun x => (agg (eRef x))) y5)), (8, (iv .i64 v6)), (9, (iv .i64 z.1))], [(row 43 eRef 2 z.2 sv2)]⟩) (fun z => rfl) (fun n14 z ih14 h => ?_) φ (v6, v7) h) [0] (sl rfl) (ol rfl) rfl
   obtain ⟨v12, v13⟩ := z
   replace h : z0d φ v3 y5 (z0e φ v6 (zg φ v3 v4 y5 n8)) (n14 + 1) v12 v13 = some r := h
   rw [z0d] at h
   refine cs (cs (ckE h fun h19 h => ckE h fun h25 h => z02 h fun y28 ey28 h => z2.draw (QR := [(0, _), (1, _), (2, _), (3, _), (4, _), (5, _), (6, _), (7, _), (8, _), (9, _), (10, _), (11, _), (12, _), (13, _), (14, _), (15, _), (16, _)]) (tab := [(some 18, []), (some 19, []), (some 20, [0, 1]), (some 21, [2]), (some 22, [3]), (some 23, [3]), (some 24, [3]), (some 25, [5, 6, 3]), (some 26, [7, 3]), (some 27, [3]), (some 28, [3]), (some 29, [10, 3]), (some 30, [9, 11, 3]), (some 31, [12, 3]), (some 32, [4, 8, 13, 3, 3]), (some 33, [14, 3]), (some 34, [3, 15])]) (z62 H) (Reg.intro [] [] (by kernel_rfl) rfl (an rfl) ⟨(qr rfl (z0 (mv rfl))), (qr rfl (z0 (mv rfl))), (qr rfl (z66 (mv rfl) (mv rfl))), (qr rfl (z0 (mv rfl))), (qr rfl ⟨(decide (v3 < v12) = true), (fcmp P (fun x => (agg (eRef x))) y5), 21, rfl, rfl, fun g15 => (z0 (mv rfl)), .inl ⟨(decide (v3 < v12)), rfl, rfl⟩⟩), (qr rfl ⟨(decide (v3 < v12) = true), (eqv sv2), 21, rfl, rfl, fun g16 => (z0 (mv rfl)), .inl ⟨(decide (v3 < v12)), rfl, rfl⟩⟩), (qr rfl ⟨(decide (v3 < v12) = true), (iv .i64 v12), 21, rfl, rfl, fun g17 => (z0 (mv rfl)), .inl ⟨(decide (v3 < v12)), rfl, rfl⟩⟩), (qr rfl ⟨(decide (v3 < v12) = true), (rowp sv2 ((v12 : Int).toNat * 2)), 21, rfl, rfl, fun g18 => (zk 0 (ix55 H) (mc rfl g18) rfl (mc rfl g18) ((h19 g18)).1 ((h19 g18)).2), .inl ⟨(decide (v3 < v12)), rfl, rfl⟩⟩), (qr rfl ⟨(decide (v3 < v12) = true), (agg (eRef (gt v13 v12))), 21, rfl, rfl, fun g20 => (ln (tl43 H) ((Pt.row _ 0 (k := (v12 : Int).toNat) (fo := 0) lRef (mc rfl g20) rfl (by omega) (za (h19 g20)) rfl).take 2 (cs' := (eRef (gt v13 v12))) rfl) rfl), .inl ⟨(decide (v3 < v12)), rfl, rfl⟩⟩), (qr rfl ⟨(decide (v3 < v12) = true), (eqv sv2), 21, rfl, rfl, fun g21 => (z0 (mv rfl)), .inl ⟨(decide (v3 < v12)), rfl, rfl⟩⟩), (qr rfl ⟨(decide (v3 < v12) = true), (iv .i64 v12), 21, rfl, rfl, fun g22 => (z0 (mv rfl)), .inl ⟨(decide (v3 < v12)), rfl, rfl⟩⟩), (qr rfl ⟨(decide (v3 < v12) = true), (iv .i64 (W (v12 - 1))), 21, rfl, rfl, fun g23 => (z2l (mc rfl g23) ct), .inl ⟨(decide (v3 < v12)), rfl, rfl⟩⟩), (qr rfl ⟨(decide (v3 < v12) = true), (rowp sv2 (((W (v12 - 1)) : Int).toNat * 2)), 21, rfl, rfl, fun g24 => (zk 0 (ix55 H) (mc rfl g24) rfl (mc rfl g24) ((h25 g24)).1 ((h25 g24)).2), .inl ⟨(decide (v3 < v12)), rfl, rfl⟩⟩), (qr rfl ⟨(decide (v3 < v12) = true), (agg (eRef (gt v13 (W (v12 - 1))))), 21, rfl, rfl, fun g26 => (ln (tl43 H) ((Pt.row _ 0 (k := ((W (v12 - 1)) : Int).toNat) (fo := 0) lRef (mc rfl g26) rfl (by omega) (za (h25 g26)) rfl).take 2 (cs' := (eRef (gt v13 (W (v12 - 1))))) rfl) rfl), .inl ⟨(decide (v3 < v12)), rfl, rfl⟩⟩), (qr rfl ⟨(decide (v3 < v12) = true), (iv .i64 y28), 21, rfl, rfl, fun g27 => (z9a (mc rfl g27) (mc rfl g27) (mc rfl g27) (z1f ey28 g27)), .inl ⟨(decide (v3 < v12)), rfl, rfl⟩⟩), (qr rfl ⟨(decide (v3 < v12) = true), (bv (decide (y28 < 0))), 21, rfl, rfl, fun g29 => (z28 (mc rfl g29) ct), .inl ⟨(decide (v3 < v12)), rfl, rfl⟩⟩), (qr rfl (z44 (mv rfl) (fun g30 => (mc rfl g30)) ct)), trivial⟩ trivial (fun _ => ?_))))
   refine al [0, 1, 2, 3, 8, 9, 34] [0] rfl rfl rfl (sq ?_)
   refine cI h rfl (fun c31 h => ?_) (fun c31 h => ?_)
   ·
    refine z2.skip (al [0, 1, 2, 3, 8, 9] [0] rfl rfl rfl (sq (cs (z2.block (ckE h fun h32 h => ckE h fun h33 h => ckE h fun h35 h => z2.draw (QR := [(0, (eqv sv2)), (1, (iv .i64 v12)), (2, (eqv sv2)), (3, (iv .i64 v12)), (4, (iv .i64 (W (v12 - 1)))), (5, (eqv sv2)), (6, (iv .i64 v12)), (7, (iv .i64 (W (v12 - 1)))), (8, (rowp sv2 (((W (v12 - 1)) : Int).toNat * 2))), (9, (agg (eRef (gt v13 (W (v12 - 1)))))), (10, (eqv sv2)), (11, (iv .i64 v12)), (12, (rowp sv2 ((v12 : Int).toNat * 2))), (13, (agg (eRef (gt v13 v12)))), (14, (rowp sv2 ((v12 : Int).toNat * 2)))]) (tab := [(some 37, []), (some 38, []), (some 39, []), (some 40, []), (some 41, [3]), (some 42, []), (some 43, []), (some 44, [6]), (some 45, [5, 7]), (some 46, [8]), (some 47, []), (some 48, []), (some 49, [10, 11]), (some 50, [12]), (some 51, [0, 1, 0, 1, 5, 6, 7, 8, 9, 13]), (none, [14, 9, 0, 1, 5, 6, 7, 8, 9, 13]), (some 52, [2, 4, 0, 1, 2, 3, 4, 5, 6, 7, 8, 9, 10, 11, 12, 13, 14, 15]), (none, [16, 13, 15, 0, 1, 2, 3, 4, 5, 6, 7, 8, 9, 10, 11, 12, 13, 14, 15])]) (z62 H) (Reg.intro [15] [] (by kernel_rfl) rfl (an rfl) ⟨(qr rfl (z0 (mv rfl))), (qr rfl (z0 (mv rfl))), (qr rfl (z0 (mv rfl))), (qr rfl (z0 (mv rfl))), (qr rfl (z2l (mv rfl) ct)), (qr rfl (z0 (mv rfl))), (qr rfl (z0 (mv rfl))), (qr rfl (z2l (mv rfl) ct)), (qr rfl (zk 0 (ix55 H) (mv rfl) rfl (mv rfl) (h32).1 (h32).2)), (qr rfl (ln (tl43 H) ((Pt.row _ 0 (k := ((W (v12 - 1)) : Int).toNat) (fo := 0) lRef (mv rfl) rfl (by omega) (za h32) rfl).take 2 (cs' := (eRef (gt v13 (W (v12 - 1))))) rfl) rfl)), (qr rfl (z0 (mv rfl))), (qr rfl (z0 (mv rfl))), (qr rfl (zk 0 (ix55 H) (mv rfl) rfl (mv rfl) (h33).1 (h33).2)), (qr rfl (ln (tl43 H) ((Pt.row _ 0 (k := (v12 : Int).toNat) (fo := 0) lRef (mv rfl) rfl (by omega) (za h33) rfl).take 2 (cs' := (eRef (gt v13 v12))) rfl) rfl)), (qr rfl (zk 0 (ix55 H) (mv rfl) rfl (mv rfl) (h33).1 (h33).2)), trivial⟩ ⟨⟨_, rfl, rfl, rfl, rfl, z3z 0 (k := (v12 : Int).toNat) (fo := 0) (z' := (gt v13 (W (v12 - 1)))) (cs := (eRef (gt v13 (W (v12 - 1))))) lRef (tl43 H) (mv rfl) (Ce.agg (mv rfl)) rfl rfl (by omega) (za h33) (Nat.le_of_ble_eq_true rfl) rfl ⟨[(16, (rowp sv2 (((W (v12 - 1)) : Int).toNat * 2)))], rfl, ?_⟩⟩, trivial⟩ ft))))))
    refine Reg.intro [17] [0, 1, 5, 6, 7, 8, 9, 10, 11, 12, 13, 14] (by kernel_rfl) rfl (an rfl) ⟨nf, nf, (qr rfl (z0 (mv rfl))), (qr rfl (z0 (mv rfl))), (qr rfl (z2l (mv rfl) ct)), nf, nf, nf, nf, nf, nf, nf, nf, nf, nf, (qr rfl (zk 0 (ix55 H) (mv rfl) rfl (mv rfl) (h35).1 (h35).2)), trivial⟩ ⟨⟨_, rfl, rfl, rfl, rfl, z3z 0 (k := ((W (v12 - 1)) : Int).toNat) (fo := 0) (z' := (gt v13 v12)) (cs := (eRef (gt v13 v12))) lRef (tl43 H) (mv rfl) (Ce.agg (mv rfl)) rfl rfl (by omega) (za h35) (Nat.le_of_ble_eq_true rfl) rfl ⟨[], rfl, ?_⟩⟩, trivial⟩ ft
    refine Reg.intro [] [0, 1, 2, 3, 4, 5, 6, 7, 8, 9, 10, 11, 12, 13, 14, 16] (by kernel_rfl) rfl (an rfl) ⟨nf, nf, nf, nf, nf, nf, nf, nf, nf, nf, nf, nf, nf, nf, nf, nf, trivial⟩ trivial (fun _ => AtX.in_normal (al [0, 1, 2, 3, 8, 9] [0] rfl rfl rfl (sq (cr [0, 1, 2] rfl (q1 rfl (z0 (mv rfl)) (q1 rfl (z2l (mv rfl) ct) (q1 rfl (z1 (mv rfl)) (rn ?_))))))))
    exact AtX.to (ih14 ((W (v12 - 1)), (z1t (z1t v13 v12 (gt v13 (W (v12 - 1)))) (W (v12 - 1)) (gt v13 v12))) h) [0] (sl rfl) (ol rfl) rfl
   ·
    refine z2.exit (AtX.then_exit (AtX.then_exit (AtX.in_hit (AtX.in_normal ?_))))
    exact AtX.to (hJ11 v13 h) [0] (sl rfl) (ol rfl) rfl
 ·
  refine z2.exit (AtX.then_exit (AtX.then_exit (AtX.in_hit (AtX.fall' (eqv (.tuple #[])) (z0m.zero Try.results80) [0] [(row 43 eRef 2 v7 sv2)] (ol rfl) rfl ?_))))
  obtain rfl := Option.some.inj h
  exact ⟨_, rfl, rfl, rfl⟩
theorem z5d {P : Program} (H : P = Try.prog) (φ : Nat) (v1 : (List Ref)) (v3 : Int) (v4 : Int) (v5 : Int) (y6 : (Ref → Ref → Option Int)) (sv2 : Value) (r : (List Ref)) (h : z2k φ v1 v3 v4 v5 y6 = some r) : MutT P 103 [(eqv sv2), (iv .i64 v3), (iv .i64 v4), (iv .i64 v5), (fcmp P (fun x => (agg (eRef x))) y6)] 43 eRef 2 v1 sv2 (fun x l' => x = eqv (.tuple #[]) ∧ r = l') := by
 unfold z2k at h
 refine MutT.of_code 38 (zuz H) rfl rfl (Nat.le_of_ble_eq_true rfl) fun w0 base r0 wI => ?_
 refine cl [0, 1, 2, 3] [0] rfl rfl rfl (cs (cr [0] rfl (q1 rfl (z1 ct) (rn (al [0, 1, 2, 3, 10] [0] rfl rfl rfl (sq (z2.block ?_)))))))
 refine z2.to (z2.loop (fun n (z : Int × (List Ref)) => z19 φ v3 v4 v5 n z.1 z.2) r (fun z => ⟨zl.of [(0, (eqv sv2)), (1, (iv .i64 v3)), (2, (iv .i64 v4)), (3, (iv .i64 v5)), (10, (iv .i64 z.1))], [(row 43 eRef 2 z.2 sv2)]⟩) (fun z => rfl) (fun n9 z ih9 h => ?_) φ (0, v1) h) [0] (sl rfl) (ol rfl) rfl
 obtain ⟨v7, v8⟩ := z
 replace h : z19 φ v3 v4 v5 (n9 + 1) v7 v8 = some r := h
 rw [z19] at h
 refine cs (cs (cr [0, 1, 2] rfl (q1 rfl (z0 (mv rfl)) (q1 rfl (z0 (mv rfl)) (q1 rfl (z28 (mv rfl) (mv rfl)) (rn (al [0, 1, 2, 3, 10, 13] [0] rfl rfl rfl (sq ?_))))))))
 refine cI h rfl (fun c10 h => ?_) (fun c10 h => ?_)
 ·
  refine z2.skip (al [0, 1, 2, 3, 10] [0] rfl rfl rfl (sq (cs (z2.block (ckE h fun h11 h => ckE h fun h12 h => ckE h fun h14 h => z2.draw (QR := [(0, _), (1, _), (2, _), (3, _), (4, _), (5, _), (6, _), (7, _), (8, _), (9, _), (10, _), (11, _), (12, _), (13, _), (14, _), (15, _), (16, _), (17, _), (18, _), (19, _), (20, _)]) (tab := [(some 16, []), (some 17, []), (some 18, []), (some 19, [1, 2]), (some 20, []), (some 21, []), (some 22, []), (some 23, [5, 6]), (some 24, []), (some 25, []), (some 26, []), (some 27, [9, 10]), (some 28, [8, 11]), (some 29, [12]), (some 30, []), (some 31, []), (some 32, []), (some 33, [15, 16]), (some 34, [14, 17]), (some 35, [18]), (some 36, [0, 3, 0, 1, 2, 3, 8, 9, 10, 11, 12, 13, 19]), (none, [20, 13, 0, 1, 2, 3, 8, 9, 10, 11, 12, 13, 19]), (some 37, [4, 7, 0, 1, 2, 3, 4, 5, 6, 7, 8, 9, 10, 11, 12, 13, 14, 15, 16, 17, 18, 19, 20, 21]), (none, [22, 19, 21, 0, 1, 2, 3, 4, 5, 6, 7, 8, 9, 10, 11, 12, 13, 14, 15, 16, 17, 18, 19, 20, 21])]) (z62 H) (Reg.intro [21] [] (by kernel_rfl) rfl (an rfl) ⟨(qr rfl (z0 (Ev.tmp (A := (eqv sv2)) (by kernel_rfl)))), (qr rfl (z0 (Ev.tmp (A := (iv .i64 v3)) (by kernel_rfl)))), (qr rfl (z0 (Ev.tmp (A := (iv .i64 v7)) (by kernel_rfl)))), (qr rfl (z14 (Ev.tmp (A := (iv .i64 v3)) (by kernel_rfl)) (Ev.tmp (A := (iv .i64 v7)) (by kernel_rfl)))), (qr rfl (z0 (Ev.tmp (A := (eqv sv2)) (by kernel_rfl)))), (qr rfl (z0 (Ev.tmp (A := (iv .i64 v4)) (by kernel_rfl)))), (qr rfl (z0 (Ev.tmp (A := (iv .i64 v7)) (by kernel_rfl)))), (qr rfl (z14 (Ev.tmp (A := (iv .i64 v4)) (by kernel_rfl)) (Ev.tmp (A := (iv .i64 v7)) (by kernel_rfl)))), (qr rfl (z0 (Ev.tmp (A := (eqv sv2)) (by kernel_rfl)))), (qr rfl (z0 (Ev.tmp (A := (iv .i64 v4)) (by kernel_rfl)))), (qr rfl (z0 (Ev.tmp (A := (iv .i64 v7)) (by kernel_rfl)))), (qr rfl (z14 (Ev.tmp (A := (iv .i64 v4)) (by kernel_rfl)) (Ev.tmp (A := (iv .i64 v7)) (by kernel_rfl)))), (qr rfl (zk 0 (ix55 H) (Ev.tmp (A := (eqv sv2)) (by kernel_rfl)) rfl (Ev.tmp (A := (iv .i64 (W (v4 + v7)))) (by kernel_rfl)) (h11).1 (h11).2)), (qr rfl (ln (tl43 H) ((Pt.row _ 0 (k := ((W (v4 + v7)) : Int).toNat) (fo := 0) lRef (Ev.tmp (A := (rowp sv2 (((W (v4 + v7)) : Int).toNat * 2))) (by kernel_rfl)) rfl (by omega) (za h11) rfl).take 2 (cs' := (eRef (gt v8 (W (v4 + v7))))) rfl) rfl)), (qr rfl (z0 (Ev.tmp (A := (eqv sv2)) (by kernel_rfl)))), (qr rfl (z0 (Ev.tmp (A := (iv .i64 v3)) (by kernel_rfl)))), (qr rfl (z0 (Ev.tmp (A := (iv .i64 v7)) (by kernel_rfl)))), (qr rfl (z14 (Ev.tmp (A := (iv .i64 v3)) (by kernel_rfl)) (Ev.tmp (A := (iv .i64 v7)) (by kernel_rfl)))), (qr rfl (zk 0 (ix55 H) (Ev.tmp (A := (eqv sv2)) (by kernel_rfl)) rfl (Ev.tmp (A := (iv .i64 (W (v3 + v7)))) (by kernel_rfl)) (h12).1 (h12).2)), (qr rfl (ln (tl43 H) ((Pt.row _ 0 (k := ((W (v3 + v7)) : Int).toNat) (fo := 0) lRef (Ev.tmp (A := (rowp sv2 (((W (v3 + v7)) : Int).toNat * 2))) (by kernel_rfl)) rfl (by omega) (za h12) rfl).take 2 (cs' := (eRef (gt v8 (W (v3 + v7))))) rfl) rfl)), (qr rfl (zk 0 (ix55 H) (Ev.tmp (A := (eqv sv2)) (by kernel_rfl)) rfl (Ev.tmp (A := (iv .i64 (W (v3 + v7)))) (by kernel_rfl)) (h12).1 (h12).2)), trivial⟩ ⟨⟨_, rfl, rfl, rfl, rfl, z3z 0 (k := ((W (v3 + v7)) : Int).toNat) (fo := 0) (z' := (gt v8 (W (v4 + v7)))) (cs := (eRef (gt v8 (W (v4 + v7))))) lRef (tl43 H) (Ev.tmp (A := (rowp sv2 (((W (v3 + v7)) : Int).toNat * 2))) (by kernel_rfl)) (Ce.agg (Ev.tmp (A := (agg (eRef (gt v8 (W (v4 + v7)))))) (by kernel_rfl))) rfl rfl (by omega) (za h12) (Nat.le_of_ble_eq_true rfl) rfl ⟨[(22, (rowp sv2 (((W (v4 + v7)) : Int).toNat * 2)))], rfl, ?_⟩⟩, trivial⟩ ft))))))
  refine Reg.intro [23] [0, 1, 2, 3, 8, 9, 10, 11, 12, 13, 14, 15, 16, 17, 18, 19, 20] (by kernel_rfl) rfl (an rfl) ⟨nf, nf, nf, nf, (qr rfl (z0 (Ev.tmp (A := (eqv sv2)) (by kernel_rfl)))), (qr rfl (z0 (Ev.tmp (A := (iv .i64 v4)) (by kernel_rfl)))), (qr rfl (z0 (Ev.tmp (A := (iv .i64 v7)) (by kernel_rfl)))), (qr rfl (z14 (Ev.tmp (A := (iv .i64 v4)) (by kernel_rfl)) (Ev.tmp (A := (iv .i64 v7)) (by kernel_rfl)))), nf, nf, nf, nf, nf, nf, nf, nf, nf, nf, nf, nf, nf, (qr rfl (zk 0 (ix55 H) (Ev.tmp (A := (eqv sv2)) (by kernel_rfl)) rfl (Ev.tmp (A := (iv .i64 (W (v4 + v7)))) (by kernel_rfl)) (h14).1 (h14).2)), trivial⟩ ⟨⟨_, rfl, rfl, rfl, rfl, z3z 0 (k := ((W (v4 + v7)) : Int).toNat) (fo := 0) (z' := (gt v8 (W (v3 + v7)))) (cs := (eRef (gt v8 (W (v3 + v7))))) lRef (tl43 H) (Ev.tmp (A := (rowp sv2 (((W (v4 + v7)) : Int).toNat * 2))) (by kernel_rfl)) (Ce.agg (Ev.tmp (A := (agg (eRef (gt v8 (W (v3 + v7)))))) (by kernel_rfl))) rfl rfl (by omega) (za h14) (Nat.le_of_ble_eq_true rfl) rfl ⟨[], rfl, ?_⟩⟩, trivial⟩ ft
  refine Reg.intro [] [0, 1, 2, 3, 4, 5, 6, 7, 8, 9, 10, 11, 12, 13, 14, 15, 16, 17, 18, 19, 20, 22] (by kernel_rfl) rfl (an rfl) ⟨nf, nf, nf, nf, nf, nf, nf, nf, nf, nf, nf, nf, nf, nf, nf, nf, nf, nf, nf, nf, nf, nf, trivial⟩ trivial (fun _ => AtX.in_normal (al [0, 1, 2, 3, 10] [0] rfl rfl rfl (sq (cr [0, 1, 2] rfl (q1 rfl (z0 (mv rfl)) (q1 rfl (z14 (mv rfl) ct) (q1 rfl (z1 (mv rfl)) (rn ?_))))))))
  exact AtX.to (ih9 ((W (v7 + 1)), (z1t (z1t v8 (W (v3 + v7)) (gt v8 (W (v4 + v7)))) (W (v4 + v7)) (gt v8 (W (v3 + v7))))) h) [0] (sl rfl) (ol rfl) rfl
 ·
  refine z2.exit (AtX.then_exit (AtX.then_exit (AtX.in_hit (AtX.fall' (eqv (.tuple #[])) (z0m.zero Try.results103) [0] [(row 43 eRef 2 v8 sv2)] (ol rfl) rfl ?_))))
  obtain rfl := Option.some.inj h
  exact ⟨_, rfl, rfl, rfl⟩
theorem z9i {P : Program} (H : P = Try.prog) (φ : Nat) (v1 : (List Ref)) (v3 : Int) (v4 : Int) (v5 : Int) (y6 : (Ref → Ref → Option Int)) (sv2 : Value) (r : (List Ref)) (h : z4g φ v1 v3 v4 v5 y6 = some r) : MutT P 97 [(eqv sv2), (iv .i64 v3), (iv .i64 v4), (iv .i64 v5), (fcmp P (fun x => (agg (eRef x))) y6)] 43 eRef 2 v1 sv2 (fun x l' => x = eqv (.tuple #[]) ∧ r = l') := by
 unfold z4g at h
 refine MutT.of_code 58 (fn97 H) rfl rfl (Nat.le_of_ble_eq_true rfl) fun w0 base r0 wI => ?_
 refine cl [0, 1, 2, 3, 4] [0] rfl rfl rfl (cs (cr [0, 1, 2, 3] rfl (q1 rfl (z0 (mv rfl)) (q1 rfl (z0 (mv rfl)) (q1 rfl (z2l (mv rfl) (mv rfl)) (q1 rfl (z1 (mv rfl)) (rn (al [0, 2, 3, 4, 10] [0] rfl rfl rfl (sq (cs (cr [0, 1, 2, 3] rfl ?_)))))))))))
 refine q1 rfl (z0 (mv rfl)) (q1 rfl (z0 (mv rfl)) (q1 rfl (z2l (mv rfl) (mv rfl)) (q1 rfl (z1 (mv rfl)) (rn (al [0, 2, 4, 10, 11] [0] rfl rfl rfl (sq (cs ?_)))))))
 refine z2.join (fun z : Int × (List Ref) => (z1u φ v4 y6) z.1 z.2) r (fun z => ⟨zl.of [(0, (eqv sv2)), (2, (iv .i64 v4)), (4, (fcmp P (fun x => (agg (eRef x))) y6)), (10, (iv .i64 z.1))], [(row 43 eRef 2 z.2 sv2)]⟩) (fun z h => ?_) (fun hJ9 => ?_)
 ·
  obtain ⟨v7, v8⟩ := z
  replace h : (z1u φ v4 y6) v7 v8 = some r := h
  unfold z1u at h
  refine al [0, 2, 4, 10] [0] rfl rfl rfl (sq (cr [0, 1, 2, 3, 4, 5, 6, 7] rfl (q1 rfl (z0 (mv rfl)) (q1 rfl (z0 (mv rfl)) (q1 rfl (z0 (mv rfl)) (q1 rfl (z2l (mv rfl) (mv rfl)) (q1 rfl (z0 (mv rfl)) (q1 rfl (z0 (mv rfl)) (q1 rfl (z0 (mv rfl)) (z02 h fun y10 ey10 h => n1 rfl (z3m 0 rfl (fun x => (fRef x).mem) (zjz H) (args := [(eqv sv2), (iv .i64 (W (v4 - v7))), (iv .i64 v4), (iv .i64 v7), (fcmp P (fun x => (agg (eRef x))) y6)]) ⟨(mv rfl), (mv rfl), (mv rfl), (mv rfl), (mv rfl), trivial⟩ (z5d H φ v8 (W (v4 - v7)) v4 v7 y6 sv2 _ ey10) fun x11 nw12 hk13 => ?_)))))))))))
  obtain ⟨rfl, rfl⟩ := hk13
  refine ⟨z6, ?_⟩
  refine rn (AtX.fall' (eqv (.tuple #[])) (z0m.zero Try.results97) [0] [(row 43 eRef 2 y10 sv2)] (ol rfl) rfl ?_)
  obtain rfl := Option.some.inj h
  exact ⟨_, rfl, rfl, rfl⟩
 ·
  refine z2.block ?_
  refine z2.to (z2.loop (fun n (z : Int × Int × (List Ref)) => z1o φ v4 y6 (z1u φ v4 y6) n z.1 z.2.1 z.2.2) r (fun z => ⟨zl.of [(0, (eqv sv2)), (2, (iv .i64 v4)), (4, (fcmp P (fun x => (agg (eRef x))) y6)), (10, (iv .i64 z.1)), (11, (iv .i64 z.2.1))], [(row 43 eRef 2 z.2.2 sv2)]⟩) (fun z => rfl) (fun n17 z ih17 h => ?_) φ ((W (v4 - v3)), (W (v5 - v4)), v1) h) [0] (sl rfl) (ol rfl) rfl
  obtain ⟨v14, v15, v16⟩ := z
  replace h : z1o φ v4 y6 (z1u φ v4 y6) (n17 + 1) v14 v15 v16 = some r := h
  rw [z1o] at h
  refine cs (cs (cr [0, 1, 2] rfl (q1 rfl (z0 (mv rfl)) (q1 rfl (z0 (mv rfl)) (q1 rfl (z85 (mv rfl) (mv rfl)) (rn (al [0, 2, 4, 10, 11, 20] [0] rfl rfl rfl (sq ?_))))))))
  refine cI h rfl (fun c18 h => ?_) (fun c18 h => ?_)
  ·
   refine z2.skip (al [0, 2, 4, 10, 11] [0] rfl rfl rfl (sq (z2.block (cs (cr [0, 1, 2] rfl (q1 rfl (z0 (mv rfl)) (q1 rfl (z0 (mv rfl)) (q1 rfl (z66 (mv rfl) (mv rfl)) (rn (al [0, 2, 4, 10, 11, 23] [0] rfl rfl rfl (sq ?_)))))))))))
   refine cI h rfl (fun c19 h => ?_) (fun c19 h => ?_)
   ·
    refine cs (cr [0, 1, 2, 3, 4, 5, 6, 7] rfl (q1 rfl (z0 (mv rfl)) (q1 rfl (z0 (mv rfl)) (q1 rfl (z0 (mv rfl)) (q1 rfl (z2l (mv rfl) (mv rfl)) (q1 rfl (z0 (mv rfl)) (q1 rfl (z0 (mv rfl)) (q1 rfl (z0 (mv rfl)) (z02 h fun y20 ey20 h => n1 rfl (z3m 0 rfl (fun x => (fRef x).mem) (zjz H) (args := [(eqv sv2), (iv .i64 (W (v4 - v14))), (iv .i64 v4), (iv .i64 v15), (fcmp P (fun x => (agg (eRef x))) y6)]) ⟨(mv rfl), (mv rfl), (mv rfl), (mv rfl), (mv rfl), trivial⟩ (z5d H φ v16 (W (v4 - v14)) v4 v15 y6 sv2 _ ey20) fun x21 nw22 hk23 => ?_))))))))))
    obtain ⟨rfl, rfl⟩ := hk23
    refine ⟨z6, ?_⟩
    refine rn (al [0, 2, 4, 10, 11] [0] rfl rfl rfl (sq (cr [0, 1, 2, 3] rfl (q1 rfl (z0 (mv rfl)) (q1 rfl (z0 (mv rfl)) (q1 rfl (z2l (mv rfl) (mv rfl)) (q1 rfl (z1 (mv rfl)) (rn (AtX.in_normal ?_)))))))))
    exact AtX.to (ih17 ((W (v14 - v15)), v15, y20) h) [0] (sl rfl) (ol rfl) rfl
   ·
    refine cs (cr [0, 1, 2, 3, 4, 5, 6, 7, 8, 9, 10, 11] rfl (q1 rfl (z0 (mv rfl)) (q1 rfl (z0 (mv rfl)) (q1 rfl (z0 (mv rfl)) (q1 rfl (z2l (mv rfl) (mv rfl)) (q1 rfl (z0 (mv rfl)) (q1 rfl (z0 (mv rfl)) (q1 rfl (z14 (mv rfl) (mv rfl)) (q1 rfl (z0 (mv rfl)) (q1 rfl (z2l (mv rfl) (mv rfl)) (q1 rfl (z0 (mv rfl)) ?_)))))))))))
    refine q1 rfl (z0 (mv rfl)) (z02 h fun y24 ey24 h => n1 rfl (z3m 0 rfl (fun x => (fRef x).mem) (zjz H) (args := [(eqv sv2), (iv .i64 (W (v4 - v14))), (iv .i64 (W ((W (v4 + v15)) - v14))), (iv .i64 v14), (fcmp P (fun x => (agg (eRef x))) y6)]) ⟨(mv rfl), (mv rfl), (mv rfl), (mv rfl), (mv rfl), trivial⟩ (z5d H φ v16 (W (v4 - v14)) (W ((W (v4 + v15)) - v14)) v14 y6 sv2 _ ey24) fun x25 nw26 hk27 => ?_))
    obtain ⟨rfl, rfl⟩ := hk27
    refine ⟨z6, ?_⟩
    refine rn (al [0, 2, 4, 10, 11] [0] rfl rfl rfl (sq (cr [0, 1, 2, 3] rfl (q1 rfl (z0 (mv rfl)) (q1 rfl (z0 (mv rfl)) (q1 rfl (z2l (mv rfl) (mv rfl)) (q1 rfl (z1 (mv rfl)) (rn (AtX.in_normal ?_)))))))))
    exact AtX.to (ih17 (v14, (W (v15 - v14)), y24) h) [0] (sl rfl) (ol rfl) rfl
  ·
   refine z2.exit (AtX.then_exit (AtX.then_exit (AtX.in_hit ?_)))
   exact AtX.to (hJ9 (v14, v16) h) [0] (sl rfl) (ol rfl) rfl
end Px
end
section
set_option linter.unusedVariables false
set_option linter.unusedSimpArgs false
set_option maxHeartbeats 4000000
set_option maxRecDepth 100000
namespace Px
open Go Go.RowKit Go.Proofs
end Px
end
section
set_option linter.unusedVariables false
set_option linter.unusedSimpArgs false
set_option maxHeartbeats 4000000
set_option maxRecDepth 100000
namespace Px
open Go Go.RowKit Go.Proofs
theorem z75 {P : Program} (H : P = Try.prog) : ∀ (φ : Nat) (v1 : (List Ref)) (v3 : Int) (v4 : Int) (v5 : Int) (y6 : (Ref → Ref → Option Int)) (sv2 : Value) (r : (List Ref)) (h : z9 φ v1 v3 v4 v5 y6 = some r), MutT P 81 [(eqv sv2), (iv .i64 v3), (iv .i64 v4), (iv .i64 v5), (fcmp P (fun x => (agg (eRef x))) y6)] 43 eRef 2 v1 sv2 (fun x l' => x = eqv (.tuple #[]) ∧ r = l') := by
 intro φ
 induction φ with
 | zero => intro v1 v3 v4 v5 y6 sv2 r h; cases h
 | succ φ ih =>
  intro v1 v3 v4 v5 y6 sv2 r h
  rw [z9] at h
  refine MutT.of_code 220 (fn81 H) rfl rfl (Nat.le_of_ble_eq_true rfl) fun w0 base r0 wI => ?_
  refine cl [0, 1, 2, 3, 4] [0] rfl rfl rfl (cs (cs (cr [0, 1, 2, 3] rfl (q1 rfl (z0 (mv rfl)) (q1 rfl (z0 (mv rfl)) (q1 rfl (z2l (mv rfl) (mv rfl)) (q1 rfl (z6y (mv rfl) ct) (rn (al [0, 1, 2, 3, 4, 28] [0] rfl rfl rfl (sq ?_))))))))))
  refine cI h rfl (fun c8 h => ?_) (fun c8 h => ?_)
  ·
   refine cs (cr [0, 1] rfl (q1 rfl (z0 (mv rfl)) (q1 rfl (z1 (mv rfl)) (rn (al [0, 1, 3, 4, 10] [0] rfl rfl rfl (sq (cs (cr [0, 1] rfl (q1 rfl (z0 (mv rfl)) (q1 rfl (z1 (mv rfl)) (rn ?_)))))))))))
   refine al [0, 1, 4, 10, 11] [0] rfl rfl rfl (sq (cs ?_))
   refine z2.join (fun z : Int => (z06 φ v1 v3) z) r (fun z => ⟨zl.of [(0, (eqv sv2)), (1, (iv .i64 v3)), (10, (iv .i64 z))], [(row 43 eRef 2 v1 sv2)]⟩) (fun v9 h => ?_) (fun hJ10 => ?_)
   ·
    replace h : (z06 φ v1 v3) v9 = some r := h
    unfold z06 at h
    refine al [0, 1, 10] [0] rfl rfl rfl (sq (cs (cs (cr [0, 1] rfl (q1 rfl (z0 (mv rfl)) (q1 rfl (z1 (mv rfl)) (rn (al [0, 10, 13] [0] rfl rfl rfl (sq ?_)))))))))
    refine z2.join (fun z : (List Ref) => (z20 φ) z) r (fun z => ⟨zl.of [], [(row 43 eRef 2 z sv2)]⟩) (fun v11 h => ?_) (fun hJ12 => ?_)
    ·
     replace h : (z20 φ) v11 = some r := h
     unfold z20 at h
     refine al [] [0] rfl rfl rfl (sq (z2.ret (AtX.then_ret (AtX.ret' (eqv (.tuple #[])) (z0m.zero Try.results81) [0] [(row 43 eRef 2 v11 sv2)] (ol rfl) rfl ?_))))
     obtain rfl := Option.some.inj h
     exact ⟨_, rfl, rfl, rfl⟩
    ·
     refine z2.block ?_
     refine z2.to (z2.loop (fun n (z : Int × (List Ref)) => z24 φ v9 (z20 φ) n z.1 z.2) r (fun z => ⟨zl.of [(0, (eqv sv2)), (10, (iv .i64 v9)), (13, (iv .i64 z.1))], [(row 43 eRef 2 z.2 sv2)]⟩) (fun z => rfl) (fun n15 z ih15 h => ?_) φ (v3, v1) h) [0] (sl rfl) (ol rfl) rfl
     obtain ⟨v13, v14⟩ := z
     replace h : z24 φ v9 (z20 φ) (n15 + 1) v13 v14 = some r := h
     rw [z24] at h
     refine cs (cs (cr [0, 1, 2, 3] rfl (q1 rfl (z0 (mv rfl)) (q1 rfl (z0 (mv rfl)) (q1 rfl (z2l (mv rfl) ct) (q1 rfl (z28 (mv rfl) (mv rfl)) (rn (al [0, 10, 13, 58] [0] rfl rfl rfl (sq ?_)))))))))
     refine cI h rfl (fun c16 h => ?_) (fun c16 h => ?_)
     ·
      refine z2.skip (al [0, 10, 13] [0] rfl rfl rfl (sq (cs (z2.block (ckE h fun h17 h => ckE h fun h18 h => ckE h fun h20 h => z2.draw (QR := [(0, (eqv sv2)), (1, (iv .i64 v13)), (2, (eqv sv2)), (3, (iv .i64 v13)), (4, (iv .i64 (W (v13 + 1)))), (5, (eqv sv2)), (6, (iv .i64 v13)), (7, (iv .i64 (W (v13 + 1)))), (8, (rowp sv2 (((W (v13 + 1)) : Int).toNat * 2))), (9, (agg (eRef (gt v14 (W (v13 + 1)))))), (10, (eqv sv2)), (11, (iv .i64 v13)), (12, (rowp sv2 ((v13 : Int).toNat * 2))), (13, (agg (eRef (gt v14 v13)))), (14, (rowp sv2 ((v13 : Int).toNat * 2)))]) (tab := [(some 61, []), (some 62, []), (some 63, []), (some 64, []), (some 65, [3]), (some 66, []), (some 67, []), (some 68, [6]), (some 69, [5, 7]), (some 70, [8]), (some 71, []), (some 72, []), (some 73, [10, 11]), (some 74, [12]), (some 75, [0, 1, 0, 1, 5, 6, 7, 8, 9, 13]), (none, [14, 9, 0, 1, 5, 6, 7, 8, 9, 13]), (some 76, [2, 4, 0, 1, 2, 3, 4, 5, 6, 7, 8, 9, 10, 11, 12, 13, 14, 15]), (none, [16, 13, 15, 0, 1, 2, 3, 4, 5, 6, 7, 8, 9, 10, 11, 12, 13, 14, 15])]) (z62 H) (Reg.intro [15] [] (by kernel_rfl) rfl (an rfl) ⟨(qr rfl (z0 (mv rfl))), (qr rfl (z0 (mv rfl))), (qr rfl (z0 (mv rfl))), (qr rfl (z0 (mv rfl))), (qr rfl (z14 (mv rfl) ct)), (qr rfl (z0 (mv rfl))), (qr rfl (z0 (mv rfl))), (qr rfl (z14 (mv rfl) ct)), (qr rfl (zk 0 (ix55 H) (mv rfl) rfl (mv rfl) (h17).1 (h17).2)), (qr rfl (ln (tl43 H) ((Pt.row _ 0 (k := ((W (v13 + 1)) : Int).toNat) (fo := 0) lRef (mv rfl) rfl (by omega) (za h17) rfl).take 2 (cs' := (eRef (gt v14 (W (v13 + 1))))) rfl) rfl)), (qr rfl (z0 (mv rfl))), (qr rfl (z0 (mv rfl))), (qr rfl (zk 0 (ix55 H) (mv rfl) rfl (mv rfl) (h18).1 (h18).2)), (qr rfl (ln (tl43 H) ((Pt.row _ 0 (k := (v13 : Int).toNat) (fo := 0) lRef (mv rfl) rfl (by omega) (za h18) rfl).take 2 (cs' := (eRef (gt v14 v13))) rfl) rfl)), (qr rfl (zk 0 (ix55 H) (mv rfl) rfl (mv rfl) (h18).1 (h18).2)), trivial⟩ ⟨⟨_, rfl, rfl, rfl, rfl, z3z 0 (k := (v13 : Int).toNat) (fo := 0) (z' := (gt v14 (W (v13 + 1)))) (cs := (eRef (gt v14 (W (v13 + 1))))) lRef (tl43 H) (mv rfl) (Ce.agg (mv rfl)) rfl rfl (by omega) (za h18) (Nat.le_of_ble_eq_true rfl) rfl ⟨[(16, (rowp sv2 (((W (v13 + 1)) : Int).toNat * 2)))], rfl, ?_⟩⟩, trivial⟩ ft))))))
      refine Reg.intro [17] [0, 1, 5, 6, 7, 8, 9, 10, 11, 12, 13, 14] (by kernel_rfl) rfl (an rfl) ⟨nf, nf, (qr rfl (z0 (mv rfl))), (qr rfl (z0 (mv rfl))), (qr rfl (z14 (mv rfl) ct)), nf, nf, nf, nf, nf, nf, nf, nf, nf, nf, (qr rfl (zk 0 (ix55 H) (mv rfl) rfl (mv rfl) (h20).1 (h20).2)), trivial⟩ ⟨⟨_, rfl, rfl, rfl, rfl, z3z 0 (k := ((W (v13 + 1)) : Int).toNat) (fo := 0) (z' := (gt v14 v13)) (cs := (eRef (gt v14 v13))) lRef (tl43 H) (mv rfl) (Ce.agg (mv rfl)) rfl rfl (by omega) (za h20) (Nat.le_of_ble_eq_true rfl) rfl ⟨[], rfl, ?_⟩⟩, trivial⟩ ft
      refine Reg.intro [] [0, 1, 2, 3, 4, 5, 6, 7, 8, 9, 10, 11, 12, 13, 14, 16] (by kernel_rfl) rfl (an rfl) ⟨nf, nf, nf, nf, nf, nf, nf, nf, nf, nf, nf, nf, nf, nf, nf, nf, trivial⟩ trivial (fun _ => AtX.in_normal (al [0, 10, 13] [0] rfl rfl rfl (sq (cr [0, 1, 2] rfl (q1 rfl (z0 (mv rfl)) (q1 rfl (z14 (mv rfl) ct) (q1 rfl (z1 (mv rfl)) (rn ?_))))))))
      exact AtX.to (ih15 ((W (v13 + 1)), (z1t (z1t v14 v13 (gt v14 (W (v13 + 1)))) (W (v13 + 1)) (gt v14 v13))) h) [0] (sl rfl) (ol rfl) rfl
     ·
      refine z2.exit (AtX.then_exit (AtX.then_exit (AtX.in_hit ?_)))
      exact AtX.to (hJ12 v14 h) [0] trivial (ol rfl) rfl
   ·
    refine z2.block ?_
    refine z2.to (z2.loop (fun n (z : Int × Int) => z07 φ v1 v3 y6 (z06 φ v1 v3) n z.1 z.2) r (fun z => ⟨zl.of [(0, (eqv sv2)), (1, (iv .i64 v3)), (4, (fcmp P (fun x => (agg (eRef x))) y6)), (10, (iv .i64 z.1)), (11, (iv .i64 z.2))], [(row 43 eRef 2 v1 sv2)]⟩) (fun z => rfl) (fun n24 z ih24 h => ?_) φ (v4, v5) h) [0] (sl rfl) (ol rfl) rfl
    obtain ⟨v22, v23⟩ := z
    replace h : z07 φ v1 v3 y6 (z06 φ v1 v3) (n24 + 1) v22 v23 = some r := h
    rw [z07] at h
    refine cs (cs (cr [0, 1, 2] rfl (q1 rfl (z0 (mv rfl)) (q1 rfl (z0 (mv rfl)) (q1 rfl (z28 (mv rfl) (mv rfl)) (rn (al [0, 1, 4, 10, 11, 33] [0] rfl rfl rfl (sq ?_))))))))
    refine cI h rfl (fun c25 h => ?_) (fun c25 h => ?_)
    ·
     refine z2.skip (al [0, 1, 4, 10, 11] [0] rfl rfl rfl (sq (z2.block (cs (cr [0, 1, 2, 3, 4, 5, 6] rfl (q1 rfl (z0 (mv rfl)) (q1 rfl (z0 (mv rfl)) (q1 rfl (z14 (mv rfl) (mv rfl)) (q1 rfl (z63 (us3 H) (zdm H) (mv rfl)) (q1 rfl (z82 2 (by decide) (mv rfl) ct (by decide)) (q1 rfl (z63 (zem H) (un3 H) (mv rfl)) ?_)))))))))))
     refine q1 rfl (z1 (mv rfl)) (rn (al [0, 1, 4, 10, 11, 12] [0] rfl rfl rfl (sq (cs (ckE h fun h26 h => ckE h fun h27 h => z02 h fun y28 ey28 h => z2.draw (QR := [(0, (fcmp P (fun x => (agg (eRef x))) y6)), (1, (eqv sv2)), (2, (iv .i64 (W (((U ((W (v22 + v23)))).fdiv 2))))), (3, (rowp sv2 (((W (((U ((W (v22 + v23)))).fdiv 2))) : Int).toNat * 2))), (4, (agg (eRef (gt v1 (W (((U ((W (v22 + v23)))).fdiv 2))))))), (5, (eqv sv2)), (6, (iv .i64 v3)), (7, (rowp sv2 ((v3 : Int).toNat * 2))), (8, (agg (eRef (gt v1 v3)))), (9, (iv .i64 y28)), (10, (bv (decide (y28 < 0))))]) (tab := [(some 40, []), (some 41, []), (some 42, []), (some 43, [1, 2]), (some 44, [3]), (some 45, []), (some 46, []), (some 47, [5, 6]), (some 48, [7]), (some 49, [0, 4, 8]), (some 50, [9])]) (z62 H) (Reg.intro [] [] (by kernel_rfl) rfl (an rfl) ⟨(qr rfl (z0 (mv rfl))), (qr rfl (z0 (mv rfl))), (qr rfl (z0 (mv rfl))), (qr rfl (zk 0 (ix55 H) (mv rfl) rfl (mv rfl) (h26).1 (h26).2)), (qr rfl (ln (tl43 H) ((Pt.row _ 0 (k := ((W (((U ((W (v22 + v23)))).fdiv 2))) : Int).toNat) (fo := 0) lRef (mv rfl) rfl (by omega) (za h26) rfl).take 2 (cs' := (eRef (gt v1 (W (((U ((W (v22 + v23)))).fdiv 2)))))) rfl) rfl)), (qr rfl (z0 (mv rfl))), (qr rfl (z0 (mv rfl))), (qr rfl (zk 0 (ix55 H) (mv rfl) rfl (mv rfl) (h27).1 (h27).2)), (qr rfl (ln (tl43 H) ((Pt.row _ 0 (k := (v3 : Int).toNat) (fo := 0) lRef (mv rfl) rfl (by omega) (za h27) rfl).take 2 (cs' := (eRef (gt v1 v3))) rfl) rfl)), (qr rfl (z9a (mv rfl) (mv rfl) (mv rfl) ey28)), (qr rfl (z28 (mv rfl) ct)), trivial⟩ trivial (fun _ => al [0, 1, 4, 10, 11, 12, 50] [0] rfl rfl rfl (sq ?_))))))))
     refine cI h rfl (fun c29 h => ?_) (fun c29 h => ?_)
     ·
      refine cr [0, 1, 2] rfl (q1 rfl (z0 (mv rfl)) (q1 rfl (z14 (mv rfl) ct) (q1 rfl (z1 (mv rfl)) (rn (AtX.in_normal ?_)))))
      exact AtX.to (ih24 ((W ((W (((U ((W (v22 + v23)))).fdiv 2))) + 1)), v23) h) [0] (sl rfl) (ol rfl) rfl
     ·
      refine cr [0, 1] rfl (q1 rfl (z0 (mv rfl)) (q1 rfl (z1 (mv rfl)) (rn (AtX.in_normal ?_))))
      exact AtX.to (ih24 (v22, (W (((U ((W (v22 + v23)))).fdiv 2)))) h) [0] (sl rfl) (ol rfl) rfl
    ·
     refine z2.exit (AtX.then_exit (AtX.then_exit (AtX.in_hit ?_)))
     exact AtX.to (hJ10 v22 h) [0] (sl rfl) (ol rfl) rfl
  ·
   refine z2.skip (al [0, 1, 2, 3, 4] [0] rfl rfl rfl (sq (cs (cs (cr [0, 1, 2, 3] rfl (q1 rfl (z0 (mv rfl)) (q1 rfl (z0 (mv rfl)) (q1 rfl (z2l (mv rfl) (mv rfl)) (q1 rfl (z6y (mv rfl) ct) (rn (al [0, 1, 2, 3, 4, 80] [0] rfl rfl rfl ?_)))))))))))
   refine sq ?_
   refine cI h rfl (fun c30 h => ?_) (fun c30 h => ?_)
   ·
    refine cs (cr [0, 1] rfl (q1 rfl (z0 (mv rfl)) (q1 rfl (z1 (mv rfl)) (rn (al [0, 2, 4, 14] [0] rfl rfl rfl (sq (cs (cr [0, 1] rfl (q1 rfl (z0 (mv rfl)) (q1 rfl (z1 (mv rfl)) (rn ?_)))))))))))
    refine al [0, 2, 4, 14, 15] [0] rfl rfl rfl (sq (cs ?_))
    refine z2.join (fun z : Int => (z0c φ v1 v4) z) r (fun z => ⟨zl.of [(0, (eqv sv2)), (2, (iv .i64 v4)), (14, (iv .i64 z))], [(row 43 eRef 2 v1 sv2)]⟩) (fun v31 h => ?_) (fun hJ32 => ?_)
    ·
     replace h : (z0c φ v1 v4) v31 = some r := h
     unfold z0c at h
     refine al [0, 2, 14] [0] rfl rfl rfl (sq (cs (cs (cr [0, 1] rfl (q1 rfl (z0 (mv rfl)) (q1 rfl (z1 (mv rfl)) (rn (al [0, 14, 17] [0] rfl rfl rfl (sq ?_)))))))))
     refine z2.join (fun z : (List Ref) => (z1y φ) z) r (fun z => ⟨zl.of [], [(row 43 eRef 2 z sv2)]⟩) (fun v33 h => ?_) (fun hJ34 => ?_)
     ·
      replace h : (z1y φ) v33 = some r := h
      unfold z1y at h
      refine al [] [0] rfl rfl rfl (sq (z2.ret (AtX.then_ret (AtX.ret' (eqv (.tuple #[])) (z0m.zero Try.results81) [0] [(row 43 eRef 2 v33 sv2)] (ol rfl) rfl ?_))))
      obtain rfl := Option.some.inj h
      exact ⟨_, rfl, rfl, rfl⟩
     ·
      refine z2.block ?_
      refine z2.to (z2.loop (fun n (z : Int × (List Ref)) => z1z φ v31 (z1y φ) n z.1 z.2) r (fun z => ⟨zl.of [(0, (eqv sv2)), (14, (iv .i64 v31)), (17, (iv .i64 z.1))], [(row 43 eRef 2 z.2 sv2)]⟩) (fun z => rfl) (fun n37 z ih37 h => ?_) φ (v4, v1) h) [0] (sl rfl) (ol rfl) rfl
      obtain ⟨v35, v36⟩ := z
      replace h : z1z φ v31 (z1y φ) (n37 + 1) v35 v36 = some r := h
      rw [z1z] at h
      refine cs (cs (cr [0, 1, 2] rfl (q1 rfl (z0 (mv rfl)) (q1 rfl (z0 (mv rfl)) (q1 rfl (z66 (mv rfl) (mv rfl)) (rn (al [0, 14, 17, 110] [0] rfl rfl rfl (sq ?_))))))))
      refine cI h rfl (fun c38 h => ?_) (fun c38 h => ?_)
      ·
       refine z2.skip (al [0, 14, 17] [0] rfl rfl rfl (sq (cs (z2.block (ckE h fun h39 h => ckE h fun h40 h => ckE h fun h42 h => z2.draw (QR := [(0, (eqv sv2)), (1, (iv .i64 v35)), (2, (eqv sv2)), (3, (iv .i64 v35)), (4, (iv .i64 (W (v35 - 1)))), (5, (eqv sv2)), (6, (iv .i64 v35)), (7, (iv .i64 (W (v35 - 1)))), (8, (rowp sv2 (((W (v35 - 1)) : Int).toNat * 2))), (9, (agg (eRef (gt v36 (W (v35 - 1)))))), (10, (eqv sv2)), (11, (iv .i64 v35)), (12, (rowp sv2 ((v35 : Int).toNat * 2))), (13, (agg (eRef (gt v36 v35)))), (14, (rowp sv2 ((v35 : Int).toNat * 2)))]) (tab := [(some 113, []), (some 114, []), (some 115, []), (some 116, []), (some 117, [3]), (some 118, []), (some 119, []), (some 120, [6]), (some 121, [5, 7]), (some 122, [8]), (some 123, []), (some 124, []), (some 125, [10, 11]), (some 126, [12]), (some 127, [0, 1, 0, 1, 5, 6, 7, 8, 9, 13]), (none, [14, 9, 0, 1, 5, 6, 7, 8, 9, 13]), (some 128, [2, 4, 0, 1, 2, 3, 4, 5, 6, 7, 8, 9, 10, 11, 12, 13, 14, 15]), (none, [16, 13, 15, 0, 1, 2, 3, 4, 5, 6, 7, 8, 9, 10, 11, 12, 13, 14, 15])]) (z62 H) (Reg.intro [15] [] (by kernel_rfl) rfl (an rfl) ⟨(qr rfl (z0 (mv rfl))), (qr rfl (z0 (mv rfl))), (qr rfl (z0 (mv rfl))), (qr rfl (z0 (mv rfl))), (qr rfl (z2l (mv rfl) ct)), (qr rfl (z0 (mv rfl))), (qr rfl (z0 (mv rfl))), (qr rfl (z2l (mv rfl) ct)), (qr rfl (zk 0 (ix55 H) (mv rfl) rfl (mv rfl) (h39).1 (h39).2)), (qr rfl (ln (tl43 H) ((Pt.row _ 0 (k := ((W (v35 - 1)) : Int).toNat) (fo := 0) lRef (mv rfl) rfl (by omega) (za h39) rfl).take 2 (cs' := (eRef (gt v36 (W (v35 - 1))))) rfl) rfl)), (qr rfl (z0 (mv rfl))), (qr rfl (z0 (mv rfl))), (qr rfl (zk 0 (ix55 H) (mv rfl) rfl (mv rfl) (h40).1 (h40).2)), (qr rfl (ln (tl43 H) ((Pt.row _ 0 (k := (v35 : Int).toNat) (fo := 0) lRef (mv rfl) rfl (by omega) (za h40) rfl).take 2 (cs' := (eRef (gt v36 v35))) rfl) rfl)), (qr rfl (zk 0 (ix55 H) (mv rfl) rfl (mv rfl) (h40).1 (h40).2)), trivial⟩ ⟨⟨_, rfl, rfl, rfl, rfl, z3z 0 (k := (v35 : Int).toNat) (fo := 0) (z' := (gt v36 (W (v35 - 1)))) (cs := (eRef (gt v36 (W (v35 - 1))))) lRef (tl43 H) (mv rfl) (Ce.agg (mv rfl)) rfl rfl (by omega) (za h40) (Nat.le_of_ble_eq_true rfl) rfl ⟨[(16, (rowp sv2 (((W (v35 - 1)) : Int).toNat * 2)))], rfl, ?_⟩⟩, trivial⟩ ft))))))
       refine Reg.intro [17] [0, 1, 5, 6, 7, 8, 9, 10, 11, 12, 13, 14] (by kernel_rfl) rfl (an rfl) ⟨nf, nf, (qr rfl (z0 (mv rfl))), (qr rfl (z0 (mv rfl))), (qr rfl (z2l (mv rfl) ct)), nf, nf, nf, nf, nf, nf, nf, nf, nf, nf, (qr rfl (zk 0 (ix55 H) (mv rfl) rfl (mv rfl) (h42).1 (h42).2)), trivial⟩ ⟨⟨_, rfl, rfl, rfl, rfl, z3z 0 (k := ((W (v35 - 1)) : Int).toNat) (fo := 0) (z' := (gt v36 v35)) (cs := (eRef (gt v36 v35))) lRef (tl43 H) (mv rfl) (Ce.agg (mv rfl)) rfl rfl (by omega) (za h42) (Nat.le_of_ble_eq_true rfl) rfl ⟨[], rfl, ?_⟩⟩, trivial⟩ ft
       refine Reg.intro [] [0, 1, 2, 3, 4, 5, 6, 7, 8, 9, 10, 11, 12, 13, 14, 16] (by kernel_rfl) rfl (an rfl) ⟨nf, nf, nf, nf, nf, nf, nf, nf, nf, nf, nf, nf, nf, nf, nf, nf, trivial⟩ trivial (fun _ => AtX.in_normal (al [0, 14, 17] [0] rfl rfl rfl (sq (cr [0, 1, 2] rfl (q1 rfl (z0 (mv rfl)) (q1 rfl (z2l (mv rfl) ct) (q1 rfl (z1 (mv rfl)) (rn ?_))))))))
       exact AtX.to (ih37 ((W (v35 - 1)), (z1t (z1t v36 v35 (gt v36 (W (v35 - 1)))) (W (v35 - 1)) (gt v36 v35))) h) [0] (sl rfl) (ol rfl) rfl
      ·
       refine z2.exit (AtX.then_exit (AtX.then_exit (AtX.in_hit ?_)))
       exact AtX.to (hJ34 v36 h) [0] trivial (ol rfl) rfl
    ·
     refine z2.block ?_
     refine z2.to (z2.loop (fun n (z : Int × Int) => z08 φ v1 v4 y6 (z0c φ v1 v4) n z.1 z.2) r (fun z => ⟨zl.of [(0, (eqv sv2)), (2, (iv .i64 v4)), (4, (fcmp P (fun x => (agg (eRef x))) y6)), (14, (iv .i64 z.1)), (15, (iv .i64 z.2))], [(row 43 eRef 2 v1 sv2)]⟩) (fun z => rfl) (fun n46 z ih46 h => ?_) φ (v3, v4) h) [0] (sl rfl) (ol rfl) rfl
     obtain ⟨v44, v45⟩ := z
     replace h : z08 φ v1 v4 y6 (z0c φ v1 v4) (n46 + 1) v44 v45 = some r := h
     rw [z08] at h
     refine cs (cs (cr [0, 1, 2] rfl (q1 rfl (z0 (mv rfl)) (q1 rfl (z0 (mv rfl)) (q1 rfl (z28 (mv rfl) (mv rfl)) (rn (al [0, 2, 4, 14, 15, 85] [0] rfl rfl rfl (sq ?_))))))))
     refine cI h rfl (fun c47 h => ?_) (fun c47 h => ?_)
     ·
      refine z2.skip (al [0, 2, 4, 14, 15] [0] rfl rfl rfl (sq (z2.block (cs (cr [0, 1, 2, 3, 4, 5, 6] rfl (q1 rfl (z0 (mv rfl)) (q1 rfl (z0 (mv rfl)) (q1 rfl (z14 (mv rfl) (mv rfl)) (q1 rfl (z63 (us3 H) (zdm H) (mv rfl)) (q1 rfl (z82 2 (by decide) (mv rfl) ct (by decide)) (q1 rfl (z63 (zem H) (un3 H) (mv rfl)) ?_)))))))))))
      refine q1 rfl (z1 (mv rfl)) (rn (al [0, 2, 4, 14, 15, 16] [0] rfl rfl rfl (sq (cs (ckE h fun h48 h => ckE h fun h49 h => z02 h fun y50 ey50 h => z2.draw (QR := [(0, (fcmp P (fun x => (agg (eRef x))) y6)), (1, (eqv sv2)), (2, (iv .i64 v4)), (3, (rowp sv2 ((v4 : Int).toNat * 2))), (4, (agg (eRef (gt v1 v4)))), (5, (eqv sv2)), (6, (iv .i64 (W (((U ((W (v44 + v45)))).fdiv 2))))), (7, (rowp sv2 (((W (((U ((W (v44 + v45)))).fdiv 2))) : Int).toNat * 2))), (8, (agg (eRef (gt v1 (W (((U ((W (v44 + v45)))).fdiv 2))))))), (9, (iv .i64 y50)), (10, (bv (decide (y50 < 0)))), (11, (bv (!(decide (y50 < 0)))))]) (tab := [(some 92, []), (some 93, []), (some 94, []), (some 95, [1, 2]), (some 96, [3]), (some 97, []), (some 98, []), (some 99, [5, 6]), (some 100, [7]), (some 101, [0, 4, 8]), (some 102, [9]), (some 103, [10])]) (z62 H) (Reg.intro [] [] (by kernel_rfl) rfl (an rfl) ⟨(qr rfl (z0 (mv rfl))), (qr rfl (z0 (mv rfl))), (qr rfl (z0 (mv rfl))), (qr rfl (zk 0 (ix55 H) (mv rfl) rfl (mv rfl) (h48).1 (h48).2)), (qr rfl (ln (tl43 H) ((Pt.row _ 0 (k := (v4 : Int).toNat) (fo := 0) lRef (mv rfl) rfl (by omega) (za h48) rfl).take 2 (cs' := (eRef (gt v1 v4))) rfl) rfl)), (qr rfl (z0 (mv rfl))), (qr rfl (z0 (mv rfl))), (qr rfl (zk 0 (ix55 H) (mv rfl) rfl (mv rfl) (h49).1 (h49).2)), (qr rfl (ln (tl43 H) ((Pt.row _ 0 (k := ((W (((U ((W (v44 + v45)))).fdiv 2))) : Int).toNat) (fo := 0) lRef (mv rfl) rfl (by omega) (za h49) rfl).take 2 (cs' := (eRef (gt v1 (W (((U ((W (v44 + v45)))).fdiv 2)))))) rfl) rfl)), (qr rfl (z9a (mv rfl) (mv rfl) (mv rfl) ey50)), (qr rfl (z28 (mv rfl) ct)), (qr rfl (z96 (mv rfl))), trivial⟩ trivial (fun _ => al [0, 2, 4, 14, 15, 16, 103] [0] rfl rfl rfl (sq ?_))))))))
      refine cI h rfl (fun c51 h => ?_) (fun c51 h => ?_)
      ·
       refine cr [0, 1, 2] rfl (q1 rfl (z0 (mv rfl)) (q1 rfl (z14 (mv rfl) ct) (q1 rfl (z1 (mv rfl)) (rn (AtX.in_normal ?_)))))
       exact AtX.to (ih46 ((W ((W (((U ((W (v44 + v45)))).fdiv 2))) + 1)), v45) h) [0] (sl rfl) (ol rfl) rfl
      ·
       refine cr [0, 1] rfl (q1 rfl (z0 (mv rfl)) (q1 rfl (z1 (mv rfl)) (rn (AtX.in_normal ?_))))
       exact AtX.to (ih46 (v44, (W (((U ((W (v44 + v45)))).fdiv 2)))) h) [0] (sl rfl) (ol rfl) rfl
     ·
      refine z2.exit (AtX.then_exit (AtX.then_exit (AtX.in_hit ?_)))
      exact AtX.to (hJ32 v44 h) [0] (sl rfl) (ol rfl) rfl
   ·
    refine z2.skip (al [0, 1, 2, 3, 4] [0] rfl rfl rfl (sq (cs (cr [0, 1, 2, 3, 4, 5, 6] rfl (q1 rfl (z0 (mv rfl)) (q1 rfl (z0 (mv rfl)) (q1 rfl (z14 (mv rfl) (mv rfl)) (q1 rfl (z63 (us3 H) (zdm H) (mv rfl)) (q1 rfl (z82 2 (by decide) (mv rfl) ct (by decide)) (q1 rfl (z63 (zem H) (un3 H) (mv rfl)) (q1 rfl (z1 (mv rfl)) ?_)))))))))))
    refine rn (al [0, 1, 2, 3, 4, 18] [0] rfl rfl rfl (sq (cs (cr [0, 1, 2, 3] rfl (q1 rfl (z0 (mv rfl)) (q1 rfl (z0 (mv rfl)) (q1 rfl (z14 (mv rfl) (mv rfl)) (q1 rfl (z1 (mv rfl)) (rn (al [0, 1, 2, 3, 4, 18, 19] [0] rfl rfl rfl (sq ?_)))))))))))
    refine cs (cr [0, 1] rfl (q1 rfl (z1 ct) (q1 rfl (z1 ct) (rn (al [0, 1, 2, 3, 4, 18, 19] [0] rfl rfl rfl (sq (cs (cs (cr [0, 1, 2] rfl (q1 rfl (z0 (mv rfl)) (q1 rfl (z0 (mv rfl)) ?_)))))))))))
    refine q1 rfl (z66 (mv rfl) (mv rfl)) (rn (al [0, 1, 2, 3, 4, 18, 19, 140] [0] rfl rfl rfl (sq ?_)))
    refine z2.join (fun z : Int × Int => (z0q φ v1 v3 v4 v5 y6 (z9 φ)) z.1 z.2) r (fun z => ⟨zl.of [(0, (eqv sv2)), (1, (iv .i64 v3)), (2, (iv .i64 v4)), (3, (iv .i64 v5)), (4, (fcmp P (fun x => (agg (eRef x))) y6)), (18, (iv .i64 (W (((U ((W (v3 + v5)))).fdiv 2))))), (19, (iv .i64 (W ((W (((U ((W (v3 + v5)))).fdiv 2))) + v4)))), (20, (iv .i64 z.1)), (21, (iv .i64 z.2))], [(row 43 eRef 2 v1 sv2)]⟩) (fun z h => ?_) (fun hJ54 => ?_)
    ·
     obtain ⟨v52, v53⟩ := z
     replace h : (z0q φ v1 v3 v4 v5 y6 (z9 φ)) v52 v53 = some r := h
     unfold z0q at h
     refine al [0, 1, 2, 3, 4, 18, 19, 20, 21] [0] rfl rfl rfl (sq (cs (cr [0, 1, 2] rfl (q1 rfl (z0 (mv rfl)) (q1 rfl (z2l (mv rfl) ct) (q1 rfl (z1 (mv rfl)) (rn (al [0, 1, 2, 3, 4, 18, 19, 20, 21, 22] [0] rfl rfl rfl (sq (cs ?_))))))))))
     refine z2.join (fun z : Int => (z0p φ v1 v3 v4 v5 y6 (z9 φ)) z) r (fun z => ⟨zl.of [(0, (eqv sv2)), (1, (iv .i64 v3)), (2, (iv .i64 v4)), (3, (iv .i64 v5)), (4, (fcmp P (fun x => (agg (eRef x))) y6)), (18, (iv .i64 (W (((U ((W (v3 + v5)))).fdiv 2))))), (19, (iv .i64 (W ((W (((U ((W (v3 + v5)))).fdiv 2))) + v4)))), (20, (iv .i64 z))], [(row 43 eRef 2 v1 sv2)]⟩) (fun v55 h => ?_) (fun hJ56 => ?_)
     ·
      replace h : (z0p φ v1 v3 v4 v5 y6 (z9 φ)) v55 = some r := h
      unfold z0p at h
      refine al [0, 1, 2, 3, 4, 18, 19, 20] [0] rfl rfl rfl (sq (cs (cr [0, 1, 2, 3] rfl (q1 rfl (z0 (mv rfl)) (q1 rfl (z0 (mv rfl)) (q1 rfl (z2l (mv rfl) (mv rfl)) (q1 rfl (z1 (mv rfl)) (rn (al [0, 1, 2, 3, 4, 18, 20, 24] [0] rfl rfl rfl (sq (cs ?_)))))))))))
      refine cs (cr [0, 1, 2, 3, 4, 5, 6, 7] rfl (q1 rfl (z0 (mv rfl)) (q1 rfl (z0 (mv rfl)) (q1 rfl (z28 (mv rfl) (mv rfl)) (q1 rfl (z0 (mv rfl)) (g1 rfl rfl (fun g57 => z0 (mv rfl)) (g1 rfl rfl (fun g58 => z0 (mv rfl)) (g1 rfl rfl (fun g59 => z28 (mc rfl g59) (mc rfl g59)) (q1 rfl (z44 (mv rfl) (fun g60 => (mc rfl g60)) ct) (rn (al [0, 1, 2, 3, 4, 18, 20, 24, 185] [0] rfl rfl rfl ?_)))))))))))
      refine sq ?_
      refine z2.join (fun z : (List Ref) => (z15 φ v3 v4 v5 y6 (z9 φ) v55) z) r (fun z => ⟨zl.of [(0, (eqv sv2)), (1, (iv .i64 v3)), (3, (iv .i64 v5)), (4, (fcmp P (fun x => (agg (eRef x))) y6)), (18, (iv .i64 (W (((U ((W (v3 + v5)))).fdiv 2))))), (20, (iv .i64 v55)), (24, (iv .i64 (W ((W ((W (((U ((W (v3 + v5)))).fdiv 2))) + v4)) - v55))))], [(row 43 eRef 2 z sv2)]⟩) (fun v61 h => ?_) (fun hJ62 => ?_)
      ·
       replace h : (z15 φ v3 v4 v5 y6 (z9 φ) v55) v61 = some r := h
       unfold z15 at h
       refine al [0, 1, 3, 4, 18, 20, 24] [0] rfl rfl rfl (sq (cs (cs (cr [0, 1, 2, 3, 4, 5, 6, 7] rfl (q1 rfl (z0 (mv rfl)) (q1 rfl (z0 (mv rfl)) (q1 rfl (z28 (mv rfl) (mv rfl)) (q1 rfl (z0 (mv rfl)) (g1 rfl rfl (fun g63 => z0 (mv rfl)) (g1 rfl rfl (fun g64 => z0 (mv rfl)) (g1 rfl rfl (fun g65 => z28 (mc rfl g65) (mc rfl g65)) ?_)))))))))))
       refine q1 rfl (z44 (mv rfl) (fun g66 => (mc rfl g66)) ct) (rn (al [0, 1, 3, 4, 18, 20, 24, 199] [0] rfl rfl rfl (sq ?_)))
       refine z2.join (fun z : (List Ref) => (z1c φ v3 v4 v5 y6 (z9 φ) v55) z) r (fun z => ⟨zl.of [(0, (eqv sv2)), (3, (iv .i64 v5)), (4, (fcmp P (fun x => (agg (eRef x))) y6)), (18, (iv .i64 (W (((U ((W (v3 + v5)))).fdiv 2))))), (24, (iv .i64 (W ((W ((W (((U ((W (v3 + v5)))).fdiv 2))) + v4)) - v55))))], [(row 43 eRef 2 z sv2)]⟩) (fun v67 h => ?_) (fun hJ68 => ?_)
       ·
        replace h : (z1c φ v3 v4 v5 y6 (z9 φ) v55) v67 = some r := h
        unfold z1c at h
        refine al [0, 3, 4, 18, 24] [0] rfl rfl rfl (sq (cs (cr [0, 1, 2, 3, 4, 5, 6, 7] rfl (q1 rfl (z0 (mv rfl)) (q1 rfl (z0 (mv rfl)) (q1 rfl (z28 (mv rfl) (mv rfl)) (q1 rfl (z0 (mv rfl)) (g1 rfl rfl (fun g69 => z0 (mv rfl)) (g1 rfl rfl (fun g70 => z0 (mv rfl)) (g1 rfl rfl (fun g71 => z28 (mc rfl g71) (mc rfl g71)) (q1 rfl (z44 (mv rfl) (fun g72 => (mc rfl g72)) ct) ?_)))))))))))
        refine rn (al [0, 3, 4, 18, 24, 213] [0] rfl rfl rfl (sq ?_))
        refine cI h rfl (fun c73 h => ?_) (fun c73 h => ?_)
        ·
         refine cr [0, 1, 2, 3, 4, 5] rfl (q1 rfl (z0 (mv rfl)) (q1 rfl (z0 (mv rfl)) (q1 rfl (z0 (mv rfl)) (q1 rfl (z0 (mv rfl)) (q1 rfl (z0 (mv rfl)) (z02 h fun y74 ey74 h => n1 rfl (z3m 0 rfl (fun x => (fRef x).mem) (zk7 H) (args := [(eqv sv2), (iv .i64 (W (((U ((W (v3 + v5)))).fdiv 2)))), (iv .i64 (W ((W ((W (((U ((W (v3 + v5)))).fdiv 2))) + v4)) - v55))), (iv .i64 v5), (fcmp P (fun x => (agg (eRef x))) y6)]) ⟨(mv rfl), (mv rfl), (mv rfl), (mv rfl), (mv rfl), trivial⟩ (ih v67 (W (((U ((W (v3 + v5)))).fdiv 2))) (W ((W ((W (((U ((W (v3 + v5)))).fdiv 2))) + v4)) - v55)) v5 y6 sv2 _ ey74) fun x75 nw76 hk77 => ?_)))))))
         obtain ⟨rfl, rfl⟩ := hk77
         refine ⟨z6, ?_⟩
         refine rn (AtX.fall' (eqv (.tuple #[])) (z0m.zero Try.results81) [0] [(row 43 eRef 2 y74 sv2)] (ol rfl) rfl ?_)
         obtain rfl := Option.some.inj h
         exact ⟨_, rfl, rfl, rfl⟩
        ·
         refine z2.skip (AtX.fall' (eqv (.tuple #[])) (z0m.zero Try.results81) [0] [(row 43 eRef 2 v67 sv2)] (ol rfl) rfl ?_)
         obtain rfl := Option.some.inj h
         exact ⟨_, rfl, rfl, rfl⟩
       ·
        refine cI h rfl (fun c78 h => ?_) (fun c78 h => ?_)
        ·
         refine cr [0, 1, 2, 3, 4, 5] rfl (q1 rfl (z0 (mv rfl)) (q1 rfl (z0 (mv rfl)) (q1 rfl (z0 (mv rfl)) (q1 rfl (z0 (mv rfl)) (q1 rfl (z0 (mv rfl)) (z02 h fun y79 ey79 h => n1 rfl (z3m 0 rfl (fun x => (fRef x).mem) (zk7 H) (args := [(eqv sv2), (iv .i64 v3), (iv .i64 v55), (iv .i64 (W (((U ((W (v3 + v5)))).fdiv 2)))), (fcmp P (fun x => (agg (eRef x))) y6)]) ⟨(mv rfl), (mv rfl), (mv rfl), (mv rfl), (mv rfl), trivial⟩ (ih v61 v3 v55 (W (((U ((W (v3 + v5)))).fdiv 2))) y6 sv2 _ ey79) fun x80 nw81 hk82 => ?_)))))))
         obtain ⟨rfl, rfl⟩ := hk82
         refine ⟨z6, ?_⟩
         refine rn ?_
         exact AtX.to (hJ68 y79 h) [0] (sl rfl) (ol rfl) rfl
        ·
         refine z2.skip ?_
         exact AtX.to (hJ68 v61 h) [0] (sl rfl) (ol rfl) rfl
      ·
       refine cI h rfl (fun c83 h => ?_) (fun c83 h => ?_)
       ·
        refine cr [0, 1, 2, 3, 4, 5] rfl (q1 rfl (z0 (mv rfl)) (q1 rfl (z0 (mv rfl)) (q1 rfl (z0 (mv rfl)) (q1 rfl (z0 (mv rfl)) (q1 rfl (z0 (mv rfl)) (z02 h fun y84 ey84 h => n1 rfl (z3m 0 rfl (fun x => (fRef x).mem) (ztm H) (args := [(eqv sv2), (iv .i64 v55), (iv .i64 v4), (iv .i64 (W ((W ((W (((U ((W (v3 + v5)))).fdiv 2))) + v4)) - v55))), (fcmp P (fun x => (agg (eRef x))) y6)]) ⟨(mv rfl), (mv rfl), (mv rfl), (mv rfl), (mv rfl), trivial⟩ (z9i H φ v1 v55 v4 (W ((W ((W (((U ((W (v3 + v5)))).fdiv 2))) + v4)) - v55)) y6 sv2 _ ey84) fun x85 nw86 hk87 => ?_)))))))
        obtain ⟨rfl, rfl⟩ := hk87
        refine ⟨z6, ?_⟩
        refine rn ?_
        exact AtX.to (hJ62 y84 h) [0] (sl rfl) (ol rfl) rfl
       ·
        refine z2.skip ?_
        exact AtX.to (hJ62 v1 h) [0] (sl rfl) (ol rfl) rfl
     ·
      refine z2.block ?_
      refine z2.to (z2.loop (fun n (z : Int × Int) => z0a φ v1 v3 v4 v5 y6 (z0p φ v1 v3 v4 v5 y6 (z9 φ)) n z.1 z.2) r (fun z => ⟨zl.of [(0, (eqv sv2)), (1, (iv .i64 v3)), (2, (iv .i64 v4)), (3, (iv .i64 v5)), (4, (fcmp P (fun x => (agg (eRef x))) y6)), (18, (iv .i64 (W (((U ((W (v3 + v5)))).fdiv 2))))), (19, (iv .i64 (W ((W (((U ((W (v3 + v5)))).fdiv 2))) + v4)))), (20, (iv .i64 z.1)), (21, (iv .i64 z.2)), (22, (iv .i64 (W ((W ((W (((U ((W (v3 + v5)))).fdiv 2))) + v4)) - 1))))], [(row 43 eRef 2 v1 sv2)]⟩) (fun z => rfl) (fun n90 z ih90 h => ?_) φ (v52, v53) h) [0] (sl rfl) (ol rfl) rfl
      obtain ⟨v88, v89⟩ := z
      replace h : z0a φ v1 v3 v4 v5 y6 (z0p φ v1 v3 v4 v5 y6 (z9 φ)) (n90 + 1) v88 v89 = some r := h
      rw [z0a] at h
      refine cs (cs (cr [0, 1, 2] rfl (q1 rfl (z0 (mv rfl)) (q1 rfl (z0 (mv rfl)) (q1 rfl (z28 (mv rfl) (mv rfl)) (rn (al [0, 1, 2, 3, 4, 18, 19, 20, 21, 22, 151] [0] rfl rfl rfl (sq ?_))))))))
      refine cI h rfl (fun c91 h => ?_) (fun c91 h => ?_)
      ·
       refine z2.skip (al [0, 1, 2, 3, 4, 18, 19, 20, 21, 22] [0] rfl rfl rfl (sq (z2.block (cs (cr [0, 1, 2, 3, 4, 5, 6] rfl (q1 rfl (z0 (mv rfl)) (q1 rfl (z0 (mv rfl)) (q1 rfl (z14 (mv rfl) (mv rfl)) (q1 rfl (z63 (us3 H) (zdm H) (mv rfl)) (q1 rfl (z82 2 (by decide) (mv rfl) ct (by decide)) (q1 rfl (z63 (zem H) (un3 H) (mv rfl)) ?_)))))))))))
       refine q1 rfl (z1 (mv rfl)) (rn (al [0, 1, 2, 3, 4, 18, 19, 20, 21, 22, 23] [0] rfl rfl rfl (sq (cs (ckE h fun h92 h => ckE h fun h93 h => z02 h fun y94 ey94 h => z2.draw (QR := [(0, (fcmp P (fun x => (agg (eRef x))) y6)), (1, (eqv sv2)), (2, (iv .i64 (W ((W ((W (((U ((W (v3 + v5)))).fdiv 2))) + v4)) - 1)))), (3, (iv .i64 (W (((U ((W (v88 + v89)))).fdiv 2))))), (4, (iv .i64 (W ((W ((W ((W (((U ((W (v3 + v5)))).fdiv 2))) + v4)) - 1)) - (W (((U ((W (v88 + v89)))).fdiv 2))))))), (5, (rowp sv2 (((W ((W ((W ((W (((U ((W (v3 + v5)))).fdiv 2))) + v4)) - 1)) - (W (((U ((W (v88 + v89)))).fdiv 2))))) : Int).toNat * 2))), (6, (agg (eRef (gt v1 (W ((W ((W ((W (((U ((W (v3 + v5)))).fdiv 2))) + v4)) - 1)) - (W (((U ((W (v88 + v89)))).fdiv 2))))))))), (7, (eqv sv2)), (8, (iv .i64 (W (((U ((W (v88 + v89)))).fdiv 2))))), (9, (rowp sv2 (((W (((U ((W (v88 + v89)))).fdiv 2))) : Int).toNat * 2))), (10, (agg (eRef (gt v1 (W (((U ((W (v88 + v89)))).fdiv 2))))))), (11, (iv .i64 y94)), (12, (bv (decide (y94 < 0)))), (13, (bv (!(decide (y94 < 0)))))]) (tab := [(some 158, []), (some 159, []), (some 160, []), (some 161, []), (some 162, [2, 3]), (some 163, [1, 4]), (some 164, [5]), (some 165, []), (some 166, []), (some 167, [7, 8]), (some 168, [9]), (some 169, [0, 6, 10]), (some 170, [11]), (some 171, [12])]) (z62 H) (Reg.intro [] [] (by kernel_rfl) rfl ⟨rfl, rfl, rfl, rfl, rfl, rfl, rfl, rfl, rfl, rfl, rfl, rfl, rfl, rfl, trivial⟩ ⟨(fun _ => ⟨_, rfl, (z0 (Ev.tmp rfl))⟩), (fun _ => ⟨_, rfl, (z0 (Ev.tmp rfl))⟩), (fun _ => ⟨_, rfl, (z0 (Ev.tmp rfl))⟩), (fun _ => ⟨_, rfl, (z0 (Ev.tmp rfl))⟩), (fun _ => ⟨_, rfl, (z2l (Ev.tmp rfl) (Ev.tmp rfl))⟩), (fun _ => ⟨_, rfl, (zk 0 (ix55 H) (Ev.tmp rfl) rfl (Ev.tmp rfl) (h92).1 (h92).2)⟩), (fun _ => ⟨_, rfl, (z61 (tl43 H) ((Pt.row _ 0 (k := ((W ((W ((W ((W (((U ((W (v3 + v5)))).fdiv 2))) + v4)) - 1)) - (W (((U ((W (v88 + v89)))).fdiv 2))))) : Int).toNat) (fo := 0) lRef (Ev.tmp rfl) rfl (by omega) (za h92) rfl).take 2 (cs' := (eRef (gt v1 (W ((W ((W ((W (((U ((W (v3 + v5)))).fdiv 2))) + v4)) - 1)) - (W (((U ((W (v88 + v89)))).fdiv 2)))))))) rfl))⟩), (fun _ => ⟨_, rfl, (z0 (Ev.tmp rfl))⟩), (fun _ => ⟨_, rfl, (z0 (Ev.tmp rfl))⟩), (fun _ => ⟨_, rfl, (zk 0 (ix55 H) (Ev.tmp rfl) rfl (Ev.tmp rfl) (h93).1 (h93).2)⟩), (fun _ => ⟨_, rfl, (z61 (tl43 H) ((Pt.row _ 0 (k := ((W (((U ((W (v88 + v89)))).fdiv 2))) : Int).toNat) (fo := 0) lRef (Ev.tmp rfl) rfl (by omega) (za h93) rfl).take 2 (cs' := (eRef (gt v1 (W (((U ((W (v88 + v89)))).fdiv 2)))))) rfl))⟩), (fun _ => ⟨_, rfl, (z9a (Ev.tmp rfl) (Ev.tmp rfl) (Ev.tmp rfl) ey94)⟩), (fun _ => ⟨_, rfl, (z28 (Ev.tmp rfl) (Ev.const _))⟩), (fun _ => ⟨_, rfl, (z96 (Ev.tmp rfl))⟩), trivial⟩ trivial (fun _ => al [0, 1, 2, 3, 4, 18, 19, 20, 21, 22, 23, 171] [0] rfl rfl rfl (sq ?_))))))))
       refine cI h rfl (fun c95 h => ?_) (fun c95 h => ?_)
       ·
        refine cr [0, 1, 2] rfl (q1 rfl (z0 (mv rfl)) (q1 rfl (z14 (mv rfl) ct) (q1 rfl (z1 (mv rfl)) (rn (AtX.in_normal ?_)))))
        exact AtX.to (ih90 ((W ((W (((U ((W (v88 + v89)))).fdiv 2))) + 1)), v89) h) [0] (sl rfl) (ol rfl) rfl
       ·
        refine cr [0, 1] rfl (q1 rfl (z0 (mv rfl)) (q1 rfl (z1 (mv rfl)) (rn (AtX.in_normal ?_))))
        exact AtX.to (ih90 (v88, (W (((U ((W (v88 + v89)))).fdiv 2)))) h) [0] (sl rfl) (ol rfl) rfl
      ·
       refine z2.exit (AtX.then_exit (AtX.then_exit (AtX.in_hit ?_)))
       exact AtX.to (hJ56 v88 h) [0] (sl rfl) (ol rfl) rfl
    ·
     refine cI h rfl (fun c96 h => ?_) (fun c96 h => ?_)
     ·
      refine cs (cr [0, 1, 2, 3] rfl (q1 rfl (z0 (mv rfl)) (q1 rfl (z0 (mv rfl)) (q1 rfl (z2l (mv rfl) (mv rfl)) (q1 rfl (z1 (mv rfl)) (rn (al [0, 1, 2, 3, 4, 18, 19, 20] [0] rfl rfl rfl (sq (cr [0, 1] rfl (q1 rfl (z0 (mv rfl)) (q1 rfl (z1 (mv rfl)) ?_)))))))))))
      refine rn ?_
      exact AtX.to (hJ54 ((W ((W ((W (((U ((W (v3 + v5)))).fdiv 2))) + v4)) - v5)), (W (((U ((W (v3 + v5)))).fdiv 2)))) h) [0] (sl rfl) (ol rfl) rfl
     ·
      refine cs (cr [0, 1] rfl (q1 rfl (z0 (mv rfl)) (q1 rfl (z1 (mv rfl)) (rn (al [0, 1, 2, 3, 4, 18, 19, 20] [0] rfl rfl rfl (sq (cr [0, 1] rfl (q1 rfl (z0 (mv rfl)) (q1 rfl (z1 (mv rfl)) (rn ?_))))))))))
      exact AtX.to (hJ54 (v3, v4) h) [0] (sl rfl) (ol rfl) rfl
theorem z9e {P : Program} (H : P = Try.prog) (φ : Nat) (v1 : (List Ref)) (v3 : Int) (y4 : (Ref → Ref → Option Int)) (sv2 : Value) (r : (List Ref)) (h : z5m φ v1 v3 y4 = some r) : MutT P 63 [(eqv sv2), (iv .i64 v3), (fcmp P (fun x => (agg (eRef x))) y4)] 43 eRef 2 v1 sv2 (fun x l' => x = eqv (.tuple #[]) ∧ r = l') := by
 unfold z5m at h
 refine MutT.of_code 63 (fn63 H) rfl rfl (Nat.le_of_ble_eq_true rfl) fun w0 base r0 wI => ?_
 refine cl [0, 1, 2] [0] rfl rfl rfl (cs (cr [0] rfl (q1 rfl (z1 ct) (rn (al [0, 1, 2, 6] [0] rfl rfl rfl (sq (cs (cr [0, 1, 2] rfl (q1 rfl (z0 (mv rfl)) (q1 rfl (z1 ct) (q1 rfl (z1 (mv rfl)) ?_)))))))))))
 refine rn (al [0, 1, 2, 6, 7, 8] [0] rfl rfl rfl (sq (cs ?_)))
 refine z2.join (fun z : Int × (List Ref) => (z0v φ v3 y4) z.1 z.2) r (fun z => ⟨zl.of [(0, (eqv sv2)), (1, (iv .i64 v3)), (2, (fcmp P (fun x => (agg (eRef x))) y4)), (6, (iv .i64 20)), (7, (iv .i64 z.1))], [(row 43 eRef 2 z.2 sv2)]⟩) (fun z h => ?_) (fun hJ7 => ?_)
 ·
  obtain ⟨v5, v6⟩ := z
  replace h : (z0v φ v3 y4) v5 v6 = some r := h
  unfold z0v at h
  refine al [0, 1, 2, 6, 7] [0] rfl rfl rfl (sq (cs (cr [0, 1, 2, 3, 4] rfl (q1 rfl (z0 (mv rfl)) (q1 rfl (z0 (mv rfl)) (q1 rfl (z0 (mv rfl)) (q1 rfl (z0 (mv rfl)) (z02 h fun y8 ey8 h => n1 rfl (z3m 0 rfl (fun x => (fRef x).mem) (zpq H) (args := [(eqv sv2), (iv .i64 v5), (iv .i64 v3), (fcmp P (fun x => (agg (eRef x))) y4)]) ⟨(mv rfl), (mv rfl), (mv rfl), (mv rfl), trivial⟩ (z69 H φ v6 v5 v3 y4 sv2 _ ey8) fun x9 nw10 hk11 => ?_)))))))))
  obtain ⟨rfl, rfl⟩ := hk11
  refine ⟨z6, ?_⟩
  refine rn (al [0, 1, 2, 6] [0] rfl rfl rfl (sq (z2.block ?_)))
  refine z2.to (z2.loop (fun n (z : Int × (List Ref)) => zo φ v3 y4 n z.1 z.2) r (fun z => ⟨zl.of [(0, (eqv sv2)), (1, (iv .i64 v3)), (2, (fcmp P (fun x => (agg (eRef x))) y4)), (6, (iv .i64 z.1))], [(row 43 eRef 2 z.2 sv2)]⟩) (fun z => rfl) (fun n14 z ih14 h => ?_) φ (20, y8) h) [0] (sl rfl) (ol rfl) rfl
  obtain ⟨v12, v13⟩ := z
  replace h : zo φ v3 y4 (n14 + 1) v12 v13 = some r := h
  rw [zo] at h
  refine cs (cs (cr [0, 1, 2] rfl (q1 rfl (z0 (mv rfl)) (q1 rfl (z0 (mv rfl)) (q1 rfl (z28 (mv rfl) (mv rfl)) (rn (al [0, 1, 2, 6, 30] [0] rfl rfl rfl (sq ?_))))))))
  refine cI h rfl (fun c15 h => ?_) (fun c15 h => ?_)
  ·
   refine z2.skip (al [0, 1, 2, 6] [0] rfl rfl rfl (sq (z2.block (cs (cr [0, 1, 2, 3] rfl (q1 rfl (z0 (mv rfl)) (q1 rfl (z99 ct (mv rfl)) (q1 rfl (z1 ct) (q1 rfl (z1 (mv rfl)) (rn (al [0, 1, 2, 6, 7, 8] [0] rfl rfl rfl ?_)))))))))))
   refine sq (cs ?_)
   refine z2.join (fun z : Int × (List Ref) => (z1j φ v3 y4 v12 (zo φ v3 y4 n14)) z.1 z.2) r (fun z => ⟨zl.of [(0, (eqv sv2)), (1, (iv .i64 v3)), (2, (fcmp P (fun x => (agg (eRef x))) y4)), (6, (iv .i64 v12)), (7, (iv .i64 z.1))], [(row 43 eRef 2 z.2 sv2)]⟩) (fun z h => ?_) (fun hJ18 => ?_)
   ·
    obtain ⟨v16, v17⟩ := z
    replace h : (z1j φ v3 y4 v12 (zo φ v3 y4 n14)) v16 v17 = some r := h
    unfold z1j at h
    refine al [0, 1, 2, 6, 7] [0] rfl rfl rfl (sq (cs (cs (cr [0, 1, 2, 3] rfl (q1 rfl (z0 (mv rfl)) (q1 rfl (z0 (mv rfl)) (q1 rfl (z14 (mv rfl) (mv rfl)) (q1 rfl (z1 (mv rfl)) (rn (al [0, 1, 2, 6, 7, 9] [0] rfl rfl rfl (sq ?_)))))))))))
    refine cs (cr [0, 1, 2] rfl (q1 rfl (z0 (mv rfl)) (q1 rfl (z0 (mv rfl)) (q1 rfl (z28 (mv rfl) (mv rfl)) (rn (al [0, 1, 2, 6, 7, 9, 54] [0] rfl rfl rfl (sq ?_)))))))
    refine z2.join (fun z : (List Ref) => (z2v φ v12 (zo φ v3 y4 n14)) z) r (fun z => ⟨zl.of [(0, (eqv sv2)), (1, (iv .i64 v3)), (2, (fcmp P (fun x => (agg (eRef x))) y4)), (6, (iv .i64 v12))], [(row 43 eRef 2 z sv2)]⟩) (fun v19 h => ?_) (fun hJ20 => ?_)
    ·
     replace h : (z2v φ v12 (zo φ v3 y4 n14)) v19 = some r := h
     unfold z2v at h
     refine al [0, 1, 2, 6] [0] rfl rfl rfl (sq (cr [0, 1, 2] rfl (q1 rfl (z0 (mv rfl)) (q1 rfl (z99 (mv rfl) ct) (q1 rfl (z1 (mv rfl)) (rn (AtX.in_normal ?_)))))))
     exact AtX.to (ih14 ((W (v12 * 2)), v19) h) [0] (sl rfl) (ol rfl) rfl
    ·
     refine cI h rfl (fun c21 h => ?_) (fun c21 h => ?_)
     ·
      refine cr [0, 1, 2, 3, 4, 5] rfl (q1 rfl (z0 (mv rfl)) (q1 rfl (z0 (mv rfl)) (q1 rfl (z0 (mv rfl)) (q1 rfl (z0 (mv rfl)) (q1 rfl (z0 (mv rfl)) (z02 h fun y22 ey22 h => n1 rfl (z3m 0 rfl (fun x => (fRef x).mem) (zk7 H) (args := [(eqv sv2), (iv .i64 v16), (iv .i64 (W (v16 + v12))), (iv .i64 v3), (fcmp P (fun x => (agg (eRef x))) y4)]) ⟨(mv rfl), (mv rfl), (mv rfl), (mv rfl), (mv rfl), trivial⟩ (z75 H φ v17 v16 (W (v16 + v12)) v3 y4 sv2 _ ey22) fun x23 nw24 hk25 => ?_)))))))
      obtain ⟨rfl, rfl⟩ := hk25
      refine ⟨z6, ?_⟩
      refine rn ?_
      exact AtX.to (hJ20 y22 h) [0] (sl rfl) (ol rfl) rfl
     ·
      refine z2.skip ?_
      exact AtX.to (hJ20 v17 h) [0] (sl rfl) (ol rfl) rfl
   ·
    refine z2.block ?_
    refine z2.to (z2.loop (fun n (z : Int × Int × (List Ref)) => z2e φ v3 y4 v12 (z1j φ v3 y4 v12 (zo φ v3 y4 n14)) n z.1 z.2.1 z.2.2) r (fun z => ⟨zl.of [(0, (eqv sv2)), (1, (iv .i64 v3)), (2, (fcmp P (fun x => (agg (eRef x))) y4)), (6, (iv .i64 v12)), (7, (iv .i64 z.1)), (8, (iv .i64 z.2.1))], [(row 43 eRef 2 z.2.2 sv2)]⟩) (fun z => rfl) (fun n29 z ih29 h => ?_) φ (0, (W (2 * v12)), v13) h) [0] (sl rfl) (ol rfl) rfl
    obtain ⟨v26, v27, v28⟩ := z
    replace h : z2e φ v3 y4 v12 (z1j φ v3 y4 v12 (zo φ v3 y4 n14)) (n29 + 1) v26 v27 v28 = some r := h
    rw [z2e] at h
    refine cs (cs (cr [0, 1, 2] rfl (q1 rfl (z0 (mv rfl)) (q1 rfl (z0 (mv rfl)) (q1 rfl (zat (mv rfl) (mv rfl)) (rn (al [0, 1, 2, 6, 7, 8, 35] [0] rfl rfl rfl (sq ?_))))))))
    refine cI h rfl (fun c30 h => ?_) (fun c30 h => ?_)
    ·
     refine z2.skip (al [0, 1, 2, 6, 7, 8] [0] rfl rfl rfl (sq (z2.block (cs (cr [0, 1, 2, 3, 4, 5, 6, 7] rfl (q1 rfl (z0 (mv rfl)) (q1 rfl (z0 (mv rfl)) (q1 rfl (z0 (mv rfl)) (q1 rfl (z0 (mv rfl)) (q1 rfl (z14 (mv rfl) (mv rfl)) (q1 rfl (z0 (mv rfl)) ?_)))))))))))
     refine q1 rfl (z0 (mv rfl)) (z02 h fun y31 ey31 h => n1 rfl (z3m 0 rfl (fun x => (fRef x).mem) (zk7 H) (args := [(eqv sv2), (iv .i64 v26), (iv .i64 (W (v26 + v12))), (iv .i64 v27), (fcmp P (fun x => (agg (eRef x))) y4)]) ⟨(mv rfl), (mv rfl), (mv rfl), (mv rfl), (mv rfl), trivial⟩ (z75 H φ v28 v26 (W (v26 + v12)) v27 y4 sv2 _ ey31) fun x32 nw33 hk34 => ?_))
     obtain ⟨rfl, rfl⟩ := hk34
     refine ⟨z6, ?_⟩
     refine rn (al [0, 1, 2, 6, 8] [0] rfl rfl rfl (sq (cs (cr [0, 1] rfl (q1 rfl (z0 (mv rfl)) (q1 rfl (z1 (mv rfl)) (rn (al [0, 1, 2, 6, 7, 8] [0] rfl rfl rfl (sq (cr [0, 1, 2, 3, 4] rfl (q1 rfl (z0 (mv rfl)) ?_)))))))))))
     refine q1 rfl (z0 (mv rfl)) (q1 rfl (z99 ct (mv rfl)) (q1 rfl (z14 (mv rfl) (mv rfl)) (q1 rfl (z1 (mv rfl)) (rn (AtX.in_normal ?_)))))
     exact AtX.to (ih29 (v27, (W (v27 + (W (2 * v12)))), y31) h) [0] (sl rfl) (ol rfl) rfl
    ·
     refine z2.exit (AtX.then_exit (AtX.then_exit (AtX.in_hit ?_)))
     exact AtX.to (hJ18 (v26, v28) h) [0] (sl rfl) (ol rfl) rfl
  ·
   refine z2.exit (AtX.then_exit (AtX.then_exit (AtX.in_hit (AtX.fall' (eqv (.tuple #[])) (z0m.zero Try.results63) [0] [(row 43 eRef 2 v13 sv2)] (ol rfl) rfl ?_))))
   obtain rfl := Option.some.inj h
   exact ⟨_, rfl, rfl, rfl⟩
 ·
  refine z2.block ?_
  refine z2.to (z2.loop (fun n (z : Int × Int × (List Ref)) => z1l φ v3 y4 (z0v φ v3 y4) n z.1 z.2.1 z.2.2) r (fun z => ⟨zl.of [(0, (eqv sv2)), (1, (iv .i64 v3)), (2, (fcmp P (fun x => (agg (eRef x))) y4)), (6, (iv .i64 20)), (7, (iv .i64 z.1)), (8, (iv .i64 z.2.1))], [(row 43 eRef 2 z.2.2 sv2)]⟩) (fun z => rfl) (fun n38 z ih38 h => ?_) φ (0, 20, v1) h) [0] (sl rfl) (ol rfl) rfl
  obtain ⟨v35, v36, v37⟩ := z
  replace h : z1l φ v3 y4 (z0v φ v3 y4) (n38 + 1) v35 v36 v37 = some r := h
  rw [z1l] at h
  refine cs (cs (cr [0, 1, 2] rfl (q1 rfl (z0 (mv rfl)) (q1 rfl (z0 (mv rfl)) (q1 rfl (zat (mv rfl) (mv rfl)) (rn (al [0, 1, 2, 6, 7, 8, 13] [0] rfl rfl rfl (sq ?_))))))))
  refine cI h rfl (fun c39 h => ?_) (fun c39 h => ?_)
  ·
   refine z2.skip (al [0, 1, 2, 6, 7, 8] [0] rfl rfl rfl (sq (z2.block (cs (cr [0, 1, 2, 3, 4] rfl (q1 rfl (z0 (mv rfl)) (q1 rfl (z0 (mv rfl)) (q1 rfl (z0 (mv rfl)) (q1 rfl (z0 (mv rfl)) (z02 h fun y40 ey40 h => n1 rfl (z3m 0 rfl (fun x => (fRef x).mem) (zpq H) (args := [(eqv sv2), (iv .i64 v35), (iv .i64 v36), (fcmp P (fun x => (agg (eRef x))) y4)]) ⟨(mv rfl), (mv rfl), (mv rfl), (mv rfl), trivial⟩ (z69 H φ v37 v35 v36 y4 sv2 _ ey40) fun x41 nw42 hk43 => ?_)))))))))))
   obtain ⟨rfl, rfl⟩ := hk43
   refine ⟨z6, ?_⟩
   refine rn (al [0, 1, 2, 6, 8] [0] rfl rfl rfl (sq (cs (cr [0, 1] rfl (q1 rfl (z0 (mv rfl)) (q1 rfl (z1 (mv rfl)) (rn (al [0, 1, 2, 6, 7, 8] [0] rfl rfl rfl (sq (cr [0, 1, 2, 3] rfl (q1 rfl (z0 (mv rfl)) ?_)))))))))))
   refine q1 rfl (z0 (mv rfl)) (q1 rfl (z14 (mv rfl) (mv rfl)) (q1 rfl (z1 (mv rfl)) (rn (AtX.in_normal ?_))))
   exact AtX.to (ih38 (v36, (W (v36 + 20)), y40) h) [0] (sl rfl) (ol rfl) rfl
  ·
   refine z2.exit (AtX.then_exit (AtX.then_exit (AtX.in_hit ?_)))
   exact AtX.to (hJ7 (v35, v37) h) [0] (sl rfl) (ol rfl) rfl
theorem z9b {P : Program} (H : P = Try.prog) (φ : Nat) (v1 : (List Ref)) (y3 : (Ref → Ref → Option Int)) (sv2 : Value) (r : (List Ref)) (h : z43 φ v1 y3 = some r) : MutT P 40 [(eqv sv2), (fcmp P (fun x => (agg (eRef x))) y3)] 43 eRef 2 v1 sv2 (fun x l' => x = eqv (.tuple #[]) ∧ r = l') := by
 unfold z43 at h
 refine MutT.of_code 9 (fn40 H) rfl rfl (Nat.le_of_ble_eq_true rfl) fun w0 base r0 wI => ?_
 refine cl [0, 1] [0] rfl rfl rfl (cr [0, 1, 2, 3, 4] rfl (q1 rfl (z0 (mv rfl)) (q1 rfl (z0 (mv rfl)) (q1 rfl (z8q 0 (il55 H) (mv rfl) rfl) (q1 rfl (z0 (mv rfl)) (z02 h fun y4 ey4 h => n1 rfl (z3m 0 rfl (fun x => (fRef x).mem) (zti H) (args := [(eqv sv2), (iv .i64 (v1.length : Int)), (fcmp P (fun x => (agg (eRef x))) y3)]) ⟨(mv rfl), (mv rfl), (mv rfl), trivial⟩ (z9e H φ v1 (v1.length : Int) y3 sv2 _ ey4) fun x5 nw6 hk7 => ?_)))))))
 obtain ⟨rfl, rfl⟩ := hk7
 refine ⟨z6, ?_⟩
 refine rn (AtX.fall' (eqv (.tuple #[])) (z0m.zero Try.results40) [0] [(row 43 eRef 2 y4 sv2)] (ol rfl) rfl ?_)
 obtain rfl := Option.some.inj h
 exact ⟨_, rfl, rfl, rfl⟩
theorem z7r {P : Program} (H : P = Try.prog) (φ : Nat) (v1 : Pool) (v2 : (List zb)) (r : ((List Ref))) (h : z54 φ v1 v2 = some r) : z2g P 14 [(agg (z2w v1)), (ro zd 21 v2)] (zbk r) := by
 unfold z54 at h
 refine z2g.of_code' 59 (fn14 H) rfl rfl (Nat.le_of_ble_eq_true rfl) fun w0 base r0 wI => ?_
 refine cl [0, 1] [] rfl rfl rfl (cs (z2.addNil 43 eRef 2 (cr [0, 1] rfl (n1 rfl (z8b (Ce.agg (mv rfl)) fun b3 => q1 rfl (z1 ct) (rn (al [1, 2] [1] rfl rfl rfl (sq (cs (cs (cr [0, 1, 2] rfl ?_)))))))))))
 refine q1 rfl (ln (tl36 H) ((Pt.box 0 (mv rfl) rfl rfl).take 9 (cs' := (z2w v1)) rfl) rfl) (z02 h fun y4 ey4 h => q1 rfl (oQ (zkj H) (z7l H φ v1 _ ey4) z6 ⟨ef (mv rfl), trivial⟩) (q1 rfl (z85 (mv rfl) ct) (rn (al [1, 2, 13] [0] rfl rfl rfl (sq ?_)))))
 refine cI h rfl (fun c5 h => ?_) (fun c5 h => ?_)
 ·
  refine cs (z2.addNil 43 eRef 2 (cr [0] rfl (q1 rfl (z1 ct) (rn (al [4] [1] rfl rfl rfl (sq (z2.ret (AtX.then_ret (AtX.ret' (eqv (Value.slice none 0 0)) (z0m.one Try.results14 rfl) [0] [(row 43 eRef 2 ([] : List Ref) (Value.slice none 0 0))] (ol rfl) rfl ?_)))))))))
  obtain rfl := Option.some.inj h
  exact ⟨(Value.slice none 0 0), rfl, rfl⟩
 ·
  refine z2.skip (al [1, 2] [0] rfl rfl rfl (sq (cs (cr [0, 1] rfl (n1 rfl (zif (eK := (Value.int .i64)) (eV := Value.bool) fun b6 => q1 rfl (z1 (mv rfl)) (rn (al [1, 2, 5] [0, 1] rfl rfl rfl (sq (cs (cs ?_)))))))))))
  refine cr [0, 1, 2, 3, 4] rfl (q1 rfl (ln (tl36 H) ((Pt.box 0 (mv rfl) rfl rfl).take 9 (cs' := (z2w v1)) rfl) rfl) (q1 rfl (z0 (mv rfl)) (z02 h fun y7 ey7 h => n1 rfl (oF (zpl H) (zab H φ v1 v2 _ ey7) ⟨ef (mv rfl), ef (mv rfl), trivial⟩ fun x10 nw11 hk9 => ?_))))
  obtain ⟨sv8, rfl, rfl⟩ := hk9
  refine ⟨z6, z47 ⟨z3d zp7, trivial⟩, ?_⟩
  refine q1 rfl (z8q 2 (il87 H) (mv rfl) rfl) (q1 rfl (z0 ct) (rn (al [1, 2, 5, 17, 18, 19] [0, 1, 2] rfl rfl rfl (sq ?_))))
  refine z2.join (fun z : (List (Int × Bool)) => (z3j φ v1 v2) z) r (fun z => ⟨zl.of [(1, (ro zd 21 v2)), (2, (eqv (.pointer (some ⟨b3, 0, none⟩)))), (5, (eqv (.map (some b6))))], [(box b3 36 (z2w v1)), (mapo b6 (Value.int .i64) Value.bool z)]⟩) (fun v12 h => ?_) (fun hJ13 => ?_)
  ·
   replace h : (z3j φ v1 v2) v12 = some r := h
   unfold z3j at h
   refine al [1, 2, 5] [0, 1] rfl rfl rfl (sq (cs (z2.addNil 43 eRef 2 (cr [0] rfl (q1 rfl (z1 ct) (rn (al [1, 2, 5, 8] [0, 1, 2] rfl rfl rfl (sq (cs (cs (z02 h fun y15 ey15 h => ?_)))))))))))
   refine z2.draw (QR := [(0, _), (1, _), (3, _), (4, _), (9, _)]) (tab := [(some 30, []), (some 31, []), (some 32, [0, 1]), (some 33, []), (some 34, []), (some 35, [3, 4, 2]), (some 36, [2, 5]), (some 37, [6, 5]), (some 38, [7]), (some 39, [])]) (z62 H) (Reg.intro [2] [] (by kernel_rfl) rfl (an rfl) ⟨(qr rfl (ln (tl36 H) ((Pt.box 0 (mv rfl) rfl rfl).take 9 (cs' := (z2w v1)) rfl) rfl)), (qr rfl (z0 (mv rfl))), (qr rfl (ln (tl36 H) ((Pt.box 0 (mv rfl) rfl rfl).take 9 (cs' := (z2w v1)) rfl) rfl)), (qr rfl (z0 (mv rfl))), (qr rfl (z0 ct)), trivial⟩ ⟨⟨_, rfl, rfl, rfl, rfl, oF (zkc H) (z90 H φ v1 v2 3 _ ey15) ⟨ef (mv rfl), ef (mv rfl), ef ct, trivial⟩ fun x18 nw19 hk17 => ?_⟩, trivial⟩ ft)
   obtain ⟨sv16, rfl, rfl⟩ := hk17
   refine ⟨z6, z47 ⟨z3d z5c, trivial⟩, ⟨[], rfl, ?_⟩⟩
   refine z02 h fun y21 ey21 h => Reg.intro [5] [0, 1] (by kernel_rfl) rfl (an rfl) ⟨nf, nf, (qr rfl (ln (tl36 H) ((Pt.box 0 (mv rfl) rfl rfl).take 9 (cs' := (z2w v1)) rfl) rfl)), (qr rfl (z0 (mv rfl))), (qr rfl (z0 ct)), trivial⟩ ⟨⟨_, rfl, rfl, rfl, rfl, oF (zkc H) (z90 H φ v1 v2 4 _ ey21) ⟨ef (mv rfl), ef (mv rfl), ef ct, trivial⟩ fun x24 nw25 hk23 => ?_⟩, trivial⟩ ft
   obtain ⟨sv22, rfl, rfl⟩ := hk23
   refine ⟨z6, z47 ⟨z3d z5c, trivial⟩, ⟨[], rfl, ?_⟩⟩
   refine Reg.freeze 3 [(32, (ro eI64 1 y15))] [(box b3 36 (z2w v1)), (mapo b6 (Value.int .i64) Value.bool v12), (row 43 eRef 2 ([] : List Ref) (Value.slice none 0 0)), emp, (row 3 eI64 1 y21 sv22)] rfl lI64 ⟨⟨_, rfl, FzV.here⟩, trivial⟩ ⟨FzH.refl, FzH.refl, FzH.refl, FzH.emp, FzH.refl, trivial⟩ (Reg.freeze 4 [(35, (ro eI64 1 y21))] [(box b3 36 (z2w v1)), (mapo b6 (Value.int .i64) Value.bool v12), (row 43 eRef 2 ([] : List Ref) (Value.slice none 0 0)), emp, emp] rfl lI64 ⟨⟨_, rfl, FzV.here⟩, trivial⟩ ⟨FzH.refl, FzH.refl, FzH.refl, FzH.refl, FzH.emp, trivial⟩ (Reg.intro [6] [0, 1, 3, 4] (by kernel_rfl) rfl (an rfl) ⟨nf, nf, nf, nf, (qr rfl (z0 ct)), trivial⟩ ⟨⟨_, rfl, rfl, rfl, rfl, z1n (e := zc7) [y15, y21] (zv7 H) zlq rfl (by decide) ⟨rfl, (Ce.one (mv rfl) One.ro), ⟨rfl, (Ce.one (mv rfl) One.ro), trivial⟩⟩ fun sv28 => ⟨[], rfl, ?_⟩⟩, trivial⟩ ft))
   refine z02 h fun y30 ey30 h => Reg.intro [7] [0, 1, 3, 4] (by kernel_rfl) rfl (an rfl) ⟨nf, nf, nf, nf, (qr rfl (z0 ct)), trivial⟩ ⟨⟨_, rfl, rfl, rfl, rfl, oF (zu1 H) (zeg H φ [y15, y21] _ ey30) ⟨EvF.of (mv rfl) (FEnt.row 5 zlq rfl), trivial⟩ fun x33 nw34 hk32 => ?_⟩, trivial⟩ ft
   obtain ⟨sv31, rfl, rfl⟩ := hk32
   refine ⟨z6, z47 ⟨z3d z5c, trivial⟩, ⟨[(8, (iv .i64 (y30.length : Int)))], rfl, ?_⟩⟩
   refine Reg.intro [] [0, 1, 3, 4] (by kernel_rfl) rfl (an rfl) ⟨nf, nf, nf, nf, (qr rfl (z0 ct)), (qr rfl (z8q 6 (il96 H) (mv rfl) rfl)), trivial⟩ trivial (fun _ => al [1, 5, 8, 37, 38, 39] [1, 2, 6] rfl rfl rfl (sq ?_))
   refine z2.join (fun z : (List Ref) × Value => (z2d φ) z.1) r (fun z => ⟨zl.of [(8, (eqv z.2))], [(row 43 eRef 2 z.1 z.2)]⟩) (fun z h => ?_) (fun hJ37 => ?_)
   ·
    obtain ⟨v35, sv36⟩ := z
    replace h : (z2d φ) v35 = some r := h
    unfold z2d at h
    refine al [8] [0] rfl rfl rfl (sq (cs (cr [0, 1] rfl (q1 rfl (z0 (mv rfl)) (z02 h fun y38 ey38 h => n1 rfl (z3m 0 rfl (fun x => (fRef x).mem) (zuo H) (args := [(eqv sv36), (fcmp P (fun x => (agg (eRef x))) (fun a b => z3x φ a b))]) ⟨(mv rfl), (Ev.ent (Ev.ent (Ev.func _) zmu) (zc6 (zke H) (fun a b cc hc => z7x H φ a b cc hc))), trivial⟩ (z9b H φ v35 (fun a b => z3x φ a b) sv36 _ ey38) fun x39 nw40 hk41 => ?_))))))
    obtain ⟨rfl, rfl⟩ := hk41
    refine ⟨z6, ?_⟩
    refine rn (al [8] [0] rfl rfl rfl (sq (cs (cr [0, 1] rfl (q1 rfl (z0 (mv rfl)) (q1 rfl (z1 (mv rfl)) (rn (al [4] [0] rfl rfl rfl (sq (z2.ret (AtX.ret' (eqv sv36) (z0m.one Try.results14 rfl) [0] [(row 43 eRef 2 y38 sv36)] (ol rfl) rfl ?_)))))))))))
    obtain rfl := Option.some.inj h
    exact ⟨sv36, rfl, rfl⟩
   ·
    refine z2.block ?_
    refine z2.to (z2.loop (fun n (z : Int × (List Ref) × Value) => z1r φ v2 v12 y30 (z2d φ) n z.1 z.2.1) r (fun z => ⟨zl.of [(1, (ro zd 21 v2)), (5, (eqv (.map (some b6)))), (8, (eqv z.2.2)), (37, (eqv sv31)), (38, (iv .i64 (y30.length : Int))), (39, (iv .i64 z.1))], [(mapo b6 (Value.int .i64) Value.bool v12), (row 43 eRef 2 z.2.1 z.2.2), (row 3 eI64 1 y30 sv31)]⟩) (fun z => rfl) (fun n45 z ih45 h => ?_) φ (0, ([] : List Ref), (Value.slice none 0 0)) h) [0, 1, 2] (sl rfl) (ol rfl) rfl
    obtain ⟨v42, v43, sv44⟩ := z
    replace h : z1r φ v2 v12 y30 (z2d φ) (n45 + 1) v42 v43 = some r := h
    rw [z1r] at h
    refine cs (cr [0] rfl (q1 rfl (z28 (mv rfl) (mv rfl)) (rn (al [1, 5, 8, 37, 38, 39, 40] [0, 1, 2] rfl rfl rfl (sq (cs ?_))))))
    refine cI h rfl (fun c46 h => ?_) (fun c46 h => ?_)
    ·
     refine z2.skip (al [1, 5, 8, 37, 38, 39] [0, 1, 2] rfl rfl rfl (sq (cs (z2.block (cs (cr [0, 1, 2] rfl (ckE h fun h47 h => q1 rfl (zk 2 (ix96 H) (mv rfl) rfl (mv rfl) (h47).1 (h47).2) (q1 rfl (z29 (tl3 H) ((Pt.row _ 2 (k := (v42 : Int).toNat) (fo := 0) lI64 (mv rfl) rfl (by omega) (za h47) rfl).take 1 (cs' := [(iv .i64 (gt y30 v42))]) rfl)) (q1 rfl (z1 (mv rfl)) (rn ?_))))))))))
     refine al [1, 5, 8, 10, 37, 38, 39] [0, 1, 2] rfl rfl rfl (sq (cs (cr [0, 1, 2, 3] rfl (q1 rfl (z0 (mv rfl)) (q1 rfl (z0 (mv rfl)) (q1 rfl (zko (eK := (Value.int .i64)) (eV := Value.bool) (d := false) 0 (keyI (un3 H)) (um95 H) (tz4 H) rfl (mv rfl) (mv rfl)) (q1 rfl (z96 (mv rfl)) (rn (al [1, 5, 8, 10, 37, 38, 39, 46] [0, 1, 2] rfl rfl rfl (sq ?_))))))))))
     refine z2.join (fun z : (List Ref) × Value => (z4a φ v42 (z1r φ v2 v12 y30 (z2d φ) n45)) z.1) r (fun z => ⟨zl.of [(1, (ro zd 21 v2)), (5, (eqv (.map (some b6)))), (8, (eqv z.2)), (37, (eqv sv31)), (38, (iv .i64 (y30.length : Int))), (39, (iv .i64 v42))], [(mapo b6 (Value.int .i64) Value.bool v12), (row 43 eRef 2 z.1 z.2), (row 3 eI64 1 y30 sv31)]⟩) (fun z h => ?_) (fun hJ50 => ?_)
     ·
      obtain ⟨v48, sv49⟩ := z
      replace h : (z4a φ v42 (z1r φ v2 v12 y30 (z2d φ) n45)) v48 = some r := h
      unfold z4a at h
      refine AtX.in_normal (al [1, 5, 8, 37, 38, 39] [0, 1, 2] rfl rfl rfl (sq (cr [0, 1] rfl (q1 rfl (z14 (mv rfl) ct) (q1 rfl (z0 (mv rfl)) (rn ?_))))))
      exact AtX.to (ih45 ((W (v42 + 1)), v48, sv49) h) [0, 1, 2] (sl rfl) (ol rfl) rfl
     ·
      refine cI h rfl (fun c51 h => ?_) (fun c51 h => ?_)
      ·
       refine cr [0, 1, 2, 3, 4, 5, 6, 7, 8] rfl (q1 rfl (z0 (mv rfl)) (q1 rfl (z0 (mv rfl)) (q1 rfl (z0 (mv rfl)) (ckE h fun h52 h => q1 rfl (z0k (ix37 H) (mv rfl) (mv rfl) (h52).1 (za h52)) (q1 rfl (z4f (z9d H) (mv rfl) (cs' := (eRef (gt v2 (gt y30 v42)).fRef)) 2 rfl) (q1 rfl (ln (tl43 H) (Pt.rop (mv rfl)) rfl) (n1 rfl (z1n (e := eRef) [(gt v2 (gt y30 v42)).fRef] (sl55 H) lRef rfl (by decide) ⟨rfl, (Ce.agg (mv rfl)), trivial⟩ fun sv53 => ckE h fun h54 h => n1 rfl (z9g 1 (l := v43) (m := [(gt v2 (gt y30 v42)).fRef]) (sl55 H) lRef (mv rfl) rfl (Src.row 3 (mv rfl) rfl) h54 (z92 (by decide) h54) fun sv55 => q1 rfl (z1 (mv rfl)) ?_)))))))))
       refine rn ?_
       exact AtX.to (hJ50 ((v43 ++ [(gt v2 (gt y30 v42)).fRef]), sv55) h) [0, 1, 2] (sl rfl) (ol rfl) rfl
      ·
       refine z2.skip ?_
       exact AtX.to (hJ50 (v43, sv44) h) [0, 1, 2] (sl rfl) (ol rfl) rfl
    ·
     refine z2.exit (AtX.then_exit (AtX.then_exit (AtX.in_hit ?_)))
     exact AtX.to (hJ37 (v43, sv44) h) [1] (sl rfl) (ol rfl) rfl
  ·
   refine z2.block ?_
   refine z2.to (z2.loop (fun n (z : Int × (List (Int × Bool))) => z2r φ y7 (z3j φ v1 v2) n z.1 z.2) r (fun z => ⟨zl.of [(1, (ro zd 21 v2)), (2, (eqv (.pointer (some ⟨b3, 0, none⟩)))), (5, (eqv (.map (some b6)))), (17, (eqv sv8)), (18, (iv .i64 (y7.length : Int))), (19, (iv .i64 z.1))], [(box b3 36 (z2w v1)), (mapo b6 (Value.int .i64) Value.bool z.2), (row 89 z5i 2 y7 sv8)]⟩) (fun z => rfl) (fun n58 z ih58 h => ?_) φ (0, ([] : List (Int × Bool))) h) [0, 1, 2] (sl rfl) (ol rfl) rfl
   obtain ⟨v56, v57⟩ := z
   replace h : z2r φ y7 (z3j φ v1 v2) (n58 + 1) v56 v57 = some r := h
   rw [z2r] at h
   refine cs (cr [0] rfl (q1 rfl (z28 (mv rfl) (mv rfl)) (rn (al [1, 2, 5, 17, 18, 19, 20] [0, 1, 2] rfl rfl rfl (sq (cs ?_))))))
   refine cI h rfl (fun c59 h => ?_) (fun c59 h => ?_)
   ·
    refine z2.skip (al [1, 2, 5, 17, 18, 19] [0, 1, 2] rfl rfl rfl (sq ?_))
    refine z2.seq ?_
    refine z2.block ?_
    refine z2.seq ?_
    refine z2.region' [0, 1, 2, 3] rfl ?_
    refine ckE h fun h60 h => zj.cons_q (rowp sv8 ((v56 : Int).toNat * 2)) rfl rfl rfl (zk 2 (ix87 H) (mv rfl) rfl (mv rfl) (h60).1 (h60).2) (zj.cons_q (agg (z5i (gt y7 v56))) rfl rfl rfl (zd6 (tl89 H) (by simp [zay lI64, z5i]) ((Pt.row _ 2 (k := (v56 : Int).toNat) (fo := 0) zkk (mv rfl) rfl (by omega) (za h60) rfl).take 2 (cs' := (z5i (gt y7 v56))) rfl)) (zj.cons rfl rfl rfl (zhj (e := eI64) 0 [.int .i64 0] (za89 H) rfl rfl fun b61 => zj.cons rfl rfl rfl (zao 3 (cells := ([] ++ arr 2 eI64 (fun _ => 0) ++ [])) (cs := (z5i (gt y7 v56))) (out := ([] ++ arr 2 eI64 (gt y7 v56) ++ [])) (tl89 H) (Ev.tmp rfl) (Ce.agg (Ev.tmp rfl)) rfl rfl (Nat.le_of_ble_eq_true rfl) rfl (zj.nil (AtX.le' [(1, (ro zd 21 v2)), (2, (eqv (.pointer (some ⟨b3, 0, none⟩)))), (5, (eqv (.map (some b6)))), (7, (eqv (.pointer (some ⟨b61, 0, none⟩)))), (17, (eqv sv8)), (18, (iv .i64 (y7.length : Int))), (19, (iv .i64 v56))] [0, 1, 2, 3] [(box b3 36 (z2w v1)), (mapo b6 (Value.int .i64) Value.bool v57), (row 89 z5i 2 y7 sv8), (box b61 89 ([] ++ arr 2 eI64 (gt y7 v56) ++ []))] ⟨⟨_, rfl, Ent.refl⟩, ⟨_, rfl, Ent.refl⟩, ⟨_, rfl, Ent.refl⟩, ⟨_, rfl, Ent.refl⟩, ⟨_, rfl, Ent.refl⟩, ⟨_, rfl, Ent.refl⟩, ⟨_, rfl, Ent.refl⟩, trivial⟩ ⟨⟨_, rfl, EntH.refl⟩, ⟨_, rfl, EntH.refl⟩, ⟨_, rfl, EntH.refl⟩, ⟨_, rfl, EntH.refl⟩, trivial⟩ rfl (AtX.seq (z2.draw (QR := [(0, (eqv (.map (some b6)))), (1, (eqv (.pointer (some ⟨b61, 0, none⟩)))), (2, (iv .i64 ((gt y7 v56) 0))), (3, (eqv (.map (some b6)))), (4, (eqv (.pointer (some ⟨b61, 1, none⟩)))), (5, (iv .i64 ((gt y7 v56) 1)))]) (tab := [(some 23, []), (some 24, []), (some 25, [1]), (some 26, []), (some 27, []), (some 28, [4]), (none, [0, 2, 0, 1, 2]), (none, [3, 5, 6, 0, 1, 2, 3, 4, 5, 6])]) (z62 H) (Reg.intro [6] [] (by kernel_rfl) rfl ⟨rfl, rfl, rfl, rfl, rfl, rfl, trivial⟩ ⟨(fun _ => ⟨_, rfl, (z0 (Ev.tmp rfl))⟩), (fun _ => ⟨_, rfl, (z65 (ix89 H) (Ev.tmp rfl) (Ev.const _) (by decide) (by decide))⟩), (fun _ => ⟨_, rfl, (z29 (tl3 H) (Pt.ofArr (e := eI64) 3 (k := 0) (Ev.tmp rfl) rfl lI64 rfl (by decide)))⟩), (fun _ => ⟨_, rfl, (z0 (Ev.tmp rfl))⟩), (fun _ => ⟨_, rfl, (z65 (ix89 H) (Ev.tmp rfl) (Ev.const _) (by decide) (by decide))⟩), (fun _ => ⟨_, rfl, (z29 (tl3 H) (Pt.ofArr (e := eI64) 3 (k := 1) (Ev.tmp rfl) rfl lI64 rfl (by decide)))⟩), trivial⟩ ⟨⟨_, rfl, rfl, rfl, rfl, zcb (eK := (Value.int .i64)) (eV := Value.bool) (v := true) 1 (keyI (un3 H)) (um95 H) rfl (Ev.tmp rfl) (Ev.tmp rfl) (Ev.const _) ⟨[], rfl, ?_⟩⟩, trivial⟩ (fun hc => Bool.noConfusion (hc : false = true)))))))))))
    refine Reg.intro [7] [0, 1, 2] (by kernel_rfl) rfl (an rfl) ⟨nf, nf, nf, (qr rfl (z0 (mv rfl))), (qr rfl (z65 (ix89 H) (mv rfl) ct (by decide) (by decide))), (qr rfl (z29 (tl3 H) (Pt.ofArr (e := eI64) 3 (k := 1) (mv rfl) rfl lI64 rfl (by decide)))), trivial⟩ ⟨⟨_, rfl, rfl, rfl, rfl, zcb (eK := (Value.int .i64)) (eV := Value.bool) (v := true) 1 (keyI (un3 H)) (um95 H) rfl (mv rfl) (mv rfl) ct ⟨[], rfl, ?_⟩⟩, trivial⟩ ft
    refine Reg.intro [] [0, 1, 2, 3, 4, 5] (by kernel_rfl) rfl (an rfl) ⟨nf, nf, nf, nf, nf, nf, trivial⟩ trivial (fun _ => AtX.in_normal (al [1, 2, 5, 17, 18, 19] [0, 1, 2] rfl rfl rfl (sq (cr [0, 1] rfl (q1 rfl (z14 (mv rfl) ct) (q1 rfl (z0 (mv rfl)) (rn ?_)))))))
    exact AtX.to (ih58 ((W (v56 + 1)), (mset (mset v57 ((gt y7 v56) 0) true) ((gt y7 v56) 1) true)) h) [0, 1, 2] (sl rfl) (ol rfl) rfl
   ·
    refine z2.exit (AtX.then_exit (AtX.then_exit (AtX.in_hit ?_)))
    exact AtX.to (hJ13 v57 h) [0, 1] (sl rfl) (ol rfl) rfl
theorem zac {P : Program} (H : P = Try.prog) (φ : Nat) (v1 : (List Ref)) (v2 : (List Ref)) (r : (Bool)) (h : z7i φ v1 v2 = some r) : z2g P 17 [(ro eRef 2 v1), (ro eRef 2 v2)] (fun x news => x = (bv r) ∧ news = []) := by
 unfold z7i at h
 refine z2g.of_code' 26 (fn17 H) rfl rfl (Nat.le_of_ble_eq_true rfl) fun w0 base r0 wI => ?_
 refine cl [0, 1] [] rfl rfl rfl (cs (cr [0] rfl (q1 rfl (z1 ct) (rn (al [0, 1] [] rfl rfl rfl (sq (cs (cs (cr [0, 1, 2, 3, 4] rfl (q1 rfl (z0 (mv rfl)) (q1 rfl (z2m (il55 H) (mv rfl)) ?_)))))))))))
 refine q1 rfl (z0 (mv rfl)) (q1 rfl (z2m (il55 H) (mv rfl)) (q1 rfl (z85 (mv rfl) (mv rfl)) (rn (al [0, 1, 10] [] rfl rfl rfl (sq ?_)))))
 refine cI h rfl (fun c3 h => ?_) (fun c3 h => ?_)
 ·
  refine cs (cr [0] rfl (q1 rfl (z1 ct) (rn (al [4] [] rfl rfl rfl (sq (z2.ret (AtX.then_ret (AtX.ret' (bv false) (z0m.one Try.results17 rfl) [] [] trivial rfl ?_))))))))
  obtain rfl := Option.some.inj h
  exact ⟨rfl, rfl⟩
 ·
  refine z2.skip (al [0, 1] [] rfl rfl rfl (sq (cs (cs (cr [0] rfl (q1 rfl (z1 ct) (rn (al [0, 1, 5] [] rfl rfl rfl (sq ?_)))))))))
  refine z2.join (fun z : Unit => (z5g φ)) r (fun z => ⟨zl.of [], []⟩) (fun z h => ?_) (fun hJ4 => ?_)
  ·
   replace h : (z5g φ) = some r := h
   unfold z5g at h
   refine al [] [] rfl rfl rfl (sq (cs (cr [0] rfl (q1 rfl (z1 ct) (rn (al [4] [] rfl rfl rfl (sq (z2.ret (AtX.ret' (bv true) (z0m.one Try.results17 rfl) [] [] trivial rfl ?_)))))))))
   obtain rfl := Option.some.inj h
   exact ⟨rfl, rfl⟩
  ·
   refine z2.block ?_
   refine z2.to (z2.loop (fun n (z : Int) => z4s φ v1 v2 (z5g φ) n z) r (fun z => ⟨zl.of [(0, (ro eRef 2 v1)), (1, (ro eRef 2 v2)), (5, (iv .i64 z))], []⟩) (fun z => rfl) (fun n6 v5 ih6 h => ?_) φ 0 h) [] (sl rfl) trivial rfl
   replace h : z4s φ v1 v2 (z5g φ) (n6 + 1) v5 = some r := h
   rw [z4s] at h
   refine cs (cs (cr [0, 1, 2, 3] rfl (q1 rfl (z0 (mv rfl)) (q1 rfl (z0 (mv rfl)) (q1 rfl (z2m (il55 H) (mv rfl)) (q1 rfl (z28 (mv rfl) (mv rfl)) (rn (al [0, 1, 5, 14] [] rfl rfl rfl (sq ?_)))))))))
   refine cI h rfl (fun c7 h => ?_) (fun c7 h => ?_)
   ·
    refine z2.skip (al [0, 1, 5] [] rfl rfl rfl (sq (cs (z2.block (cs (ckE h fun h8 h => ckE h fun h9 h => z2.draw (QR := [(0, _), (1, _), (2, _), (3, _), (4, _), (5, _), (6, _), (7, _), (8, _)]) (tab := [(some 17, []), (some 18, []), (some 19, [0, 1]), (some 20, [2]), (some 21, []), (some 22, []), (some 23, [4, 5]), (some 24, [6]), (some 25, [3, 7])]) (z62 H) (Reg.intro [] [] (by kernel_rfl) rfl (an rfl) ⟨(qr rfl (z0 (mv rfl))), (qr rfl (z0 (mv rfl))), (qr rfl (z0k (ix55 H) (mv rfl) (mv rfl) (h8).1 (za h8))), (qr rfl (ln (tl43 H) (Pt.rop (mv rfl)) rfl)), (qr rfl (z0 (mv rfl))), (qr rfl (z0 (mv rfl))), (qr rfl (z0k (ix55 H) (mv rfl) (mv rfl) (h9).1 (za h9))), (qr rfl (ln (tl43 H) (Pt.rop (mv rfl)) rfl)), (qr rfl (zrg [(.int .i64 ((gt v1 v5).fRailway)), (.int .i64 ((gt v1 v5).fNo))] [(.int .i64 ((gt v2 v5).fRailway)), (.int .i64 ((gt v2 v5).fNo))] (mv rfl) (mv rfl) rfl rfl (eg43 H) (fun w => zlv H w (gt v1 v5) (gt v2 v5)))), trivial⟩ trivial (fun _ => al [0, 1, 5, 25] [] rfl rfl rfl (sq ?_)))))))))
    refine cI h rfl (fun c10 h => ?_) (fun c10 h => ?_)
    ·
     refine cs (cr [0] rfl (q1 rfl (z1 ct) (rn (al [4] [] rfl rfl rfl (sq (z2.ret (AtX.in_ret (AtX.then_ret (AtX.then_ret (AtX.in_ret (AtX.then_ret ?_)))))))))))
     refine AtX.ret' (bv false) (z0m.one Try.results17 rfl) [] [] trivial rfl ?_
     obtain rfl := Option.some.inj h
     exact ⟨rfl, rfl⟩
    ·
     refine z2.skip (AtX.in_normal (al [0, 1, 5] [] rfl rfl rfl (sq (cr [0, 1, 2] rfl (q1 rfl (z0 (mv rfl)) (q1 rfl (z14 (mv rfl) ct) (q1 rfl (z1 (mv rfl)) (rn ?_))))))))
     exact AtX.to (ih6 (W (v5 + 1)) h) [] (sl rfl) trivial rfl
   ·
    refine z2.exit (AtX.then_exit (AtX.then_exit (AtX.in_hit ?_)))
    exact AtX.to (hJ4 () h) [] trivial trivial rfl
theorem zh4 {P : Program} (H : P = Try.prog) (φ : Nat)  (r : (Bool)) (h : zbh φ  = some r) : z2g P 9 [] (fun x news => x = (bv r) ∧ news = []) := by
 unfold zbh at h
 refine z2g.of_code' 136 (fn9 H) rfl rfl (Nat.le_of_ble_eq_true rfl) fun w0 base r0 wI => ?_
 refine cl [] [] rfl rfl rfl (cs (cr [0] rfl (q1 rfl (z1 ct) (rn (al [] [] rfl rfl rfl (sq (cs (cr [0, 1, 2] rfl (z02 h fun y1 ey1 h => n1 rfl (oP (zt6 H) (zej H φ  _ ey1) trivial fun x3 nw4 hk2 => ?_))))))))))
 obtain ⟨rfl, rfl⟩ := hk2
 refine n1 rfl (z40 _ (ze36 H) rfl fun b5 => n1 rfl (sto 0 (tl36 H) (mv rfl) (Ce.agg (mv rfl)) rfl rfl rfl rfl (rn (al [1] [0] rfl rfl rfl (sq (cs (cr [0, 1, 2, 3] rfl (z02 h fun y6 ey6 h => n1 rfl (oP (zky H) (z8a H φ 1 100 1 _ ey6) ⟨ct, ct, ct, trivial⟩ fun x8 nw9 hk7 => ?_)))))))))
 obtain ⟨rfl, rfl⟩ := hk7
 refine z02 h fun y10 ey10 h => n1 rfl (oP (zku H) (z89 H φ 1 111 3 _ ey10) ⟨ct, ct, ct, trivial⟩ fun x12 nw13 hk11 => ?_)
 obtain ⟨rfl, rfl⟩ := hk11
 refine n1 rfl (z1n (e := zd) [y6, y10] (sl37 H) z60 rfl (by decide) ⟨rfl, (Ce.agg (mv rfl)), ⟨rfl, (Ce.agg (mv rfl)), trivial⟩⟩ fun sv14 => q1 rfl (z1 (mv rfl)) (rn (al [1, 2] [0, 1] rfl rfl rfl (sq (cs (cr [0, 1, 2, 3] rfl (z02 h fun y15 ey15 h => n1 rfl (oP (zky H) (z8a H φ 1 100 1 _ ey15) ⟨ct, ct, ct, trivial⟩ fun x17 nw18 hk16 => ?_))))))))
 obtain ⟨rfl, rfl⟩ := hk16
 refine z02 h fun y19 ey19 h => n1 rfl (oP (zku H) (z89 H φ 1 161 3 _ ey19) ⟨ct, ct, ct, trivial⟩ fun x21 nw22 hk20 => ?_)
 obtain ⟨rfl, rfl⟩ := hk20
 refine n1 rfl (z1n (e := zd) [y15, y19] (sl37 H) z60 rfl (by decide) ⟨rfl, (Ce.agg (mv rfl)), ⟨rfl, (Ce.agg (mv rfl)), trivial⟩⟩ fun sv23 => q1 rfl (z1 (mv rfl)) (rn (al [1, 2, 3] [0, 1, 2] rfl rfl rfl (sq (cs (cr [0, 1, 2, 3, 4, 5] rfl (z02 h fun y24 ey24 h => n1 rfl (oP (zky H) (z8a H φ 1 100 0 _ ey24) ⟨ct, ct, ct, trivial⟩ fun x26 nw27 hk25 => ?_))))))))
 obtain ⟨rfl, rfl⟩ := hk25
 refine z02 h fun y28 ey28 h => n1 rfl (oP (zky H) (z8a H φ 2 120 0 _ ey28) ⟨ct, ct, ct, trivial⟩ fun x30 nw31 hk29 => ?_)
 obtain ⟨rfl, rfl⟩ := hk29
 refine z02 h fun y32 ey32 h => n1 rfl (oP (zku H) (z89 H φ 1 119 0 _ ey32) ⟨ct, ct, ct, trivial⟩ fun x34 nw35 hk33 => ?_)
 obtain ⟨rfl, rfl⟩ := hk33
 refine z02 h fun y36 ey36 h => n1 rfl (oP (zku H) (z89 H φ 2 130 0 _ ey36) ⟨ct, ct, ct, trivial⟩ fun x38 nw39 hk37 => ?_)
 obtain ⟨rfl, rfl⟩ := hk37
 refine n1 rfl (z1n (e := zd) [y24, y28, y32, y36] (sl37 H) z60 rfl (by decide) ⟨rfl, (Ce.agg (mv rfl)), ⟨rfl, (Ce.agg (mv rfl)), ⟨rfl, (Ce.agg (mv rfl)), ⟨rfl, (Ce.agg (mv rfl)), trivial⟩⟩⟩⟩ fun sv40 => q1 rfl (z1 (mv rfl)) (rn (al [1, 2, 3, 4] [0, 1, 2, 3] rfl rfl rfl (sq (cs (cr [0, 1, 2, 3] rfl (q1 rfl (ln (tl36 H) ((Pt.box 0 (mv rfl) rfl rfl).take 9 (cs' := (z2w y1)) rfl) rfl) (q1 rfl (z0 (mv rfl)) (z02 h fun y41 ey41 h => n1 rfl (oF (zfe H) (z5e H φ y1 [y6, y10] _ ey41) ⟨ef (mv rfl), EvF.of (mv rfl) (FEnt.row 1 z60 rfl), trivial⟩ fun x44 nw45 hk43 => ?_))))))))))
 obtain ⟨sv42, rfl, rfl⟩ := hk43
 refine ⟨z6, z47 ⟨z3d z53, trivial⟩, ?_⟩
 refine q1 rfl (z1 (mv rfl)) (rn (al [1, 2, 3, 4, 5] [0, 1, 2, 3, 4] rfl rfl rfl (sq (cs (cr [0, 1, 2, 3, 4, 5, 6, 7] rfl (q1 rfl (ln (tl36 H) ((Pt.box 0 (mv rfl) rfl rfl).take 9 (cs' := (z2w y1)) rfl) rfl) (q1 rfl (z0 (mv rfl)) (z02 h fun y46 ey46 h => n1 rfl (oF (zia H) (z72 H φ y1 [y6, y10] 0 500 _ ey46) ⟨ef (mv rfl), EvF.of (mv rfl) (FEnt.row 1 z60 rfl), ef ct, ef ct, trivial⟩ fun x49 nw50 hk48 => ?_)))))))))
 obtain ⟨sv47, rfl, rfl⟩ := hk48
 refine ⟨(z7t ⟨z6, z6, trivial⟩), z47 ⟨z3d zag, trivial⟩, ?_⟩
 refine q1 rfl (z0 (mv rfl)) (q1 rfl (z41 (mv rfl) rfl) (q1 rfl (z41 (mv rfl) rfl) (q1 rfl (z1 (mv rfl)) (q1 rfl (z1 (mv rfl)) (rn (al [1, 3, 4, 5, 6, 7] [0, 2, 3, 4, 5] rfl rfl rfl (sq (cs (cr [0, 1, 2, 3, 4, 5, 6, 7] rfl (q1 rfl (ln (tl36 H) ((Pt.box 0 (mv rfl) rfl rfl).take 9 (cs' := (z2w y1)) rfl) rfl) (q1 rfl (z0 (mv rfl)) ?_)))))))))))
 refine z02 h fun y51 ey51 h => n1 rfl (oF (zia H) (z72 H φ y1 [y15, y19] 0 500 _ ey51) ⟨ef (mv rfl), EvF.of (mv rfl) (FEnt.row 1 z60 rfl), ef ct, ef ct, trivial⟩ fun x54 nw55 hk53 => ?_)
 obtain ⟨sv52, rfl, rfl⟩ := hk53
 refine ⟨(z7t ⟨z6, z6, trivial⟩), z47 ⟨z3d zag, trivial⟩, ?_⟩
 refine q1 rfl (z0 (mv rfl)) (q1 rfl (z41 (mv rfl) rfl) (q1 rfl (z41 (mv rfl) rfl) (q1 rfl (z1 (mv rfl)) (q1 rfl (z1 (mv rfl)) (rn (al [1, 3, 4, 5, 6, 7, 8, 9] [0, 1, 2, 3, 4, 5] rfl rfl rfl (sq (cs (cr [0, 1, 2, 3, 4, 5, 6, 7] rfl (q1 rfl (ln (tl36 H) ((Pt.box 0 (mv rfl) rfl rfl).take 9 (cs' := (z2w y1)) rfl) rfl) (q1 rfl (z0 (mv rfl)) ?_)))))))))))
 refine z02 h fun y56 ey56 h => q1 rfl (oQ (zpe H) (zbx H φ y1 [y24, y28, y32, y36] 0 108 _ ey56) (z7t ⟨z6, z6, trivial⟩) ⟨ef (mv rfl), EvF.of (mv rfl) (FEnt.row 2 z60 rfl), ef ct, ef ct, trivial⟩) (q1 rfl (z0 (mv rfl)) (q1 rfl (z41 (mv rfl) rfl) (q1 rfl (z41 (mv rfl) rfl) (q1 rfl (z1 (mv rfl)) (q1 rfl (z1 (mv rfl)) (rn (al [1, 3, 4, 5, 6, 7, 8, 9, 10, 11] [0, 1, 2, 3, 4, 5] rfl rfl rfl (sq (cs (cr [0, 1, 2, 3, 4, 5, 6, 7] rfl ?_))))))))))
 refine q1 rfl (ln (tl36 H) ((Pt.box 0 (mv rfl) rfl rfl).take 9 (cs' := (z2w y1)) rfl) rfl) (q1 rfl (z0 (mv rfl)) (z02 h fun y57 ey57 h => q1 rfl (oQ (zpe H) (zbx H φ y1 [y24, y28, y32, y36] 0 109 _ ey57) (z7t ⟨z6, z6, trivial⟩) ⟨ef (mv rfl), EvF.of (mv rfl) (FEnt.row 2 z60 rfl), ef ct, ef ct, trivial⟩) (q1 rfl (z0 (mv rfl)) (q1 rfl (z41 (mv rfl) rfl) (q1 rfl (z41 (mv rfl) rfl) (q1 rfl (z1 (mv rfl)) (q1 rfl (z1 (mv rfl)) (rn (al [1, 3, 4, 5, 6, 7, 8, 9, 10, 11, 12, 13] [0, 1, 2, 3, 4, 5] rfl rfl rfl (sq ?_))))))))))
 refine cs (cr [0, 1, 2, 3] rfl (q1 rfl (ln (tl36 H) ((Pt.box 0 (mv rfl) rfl rfl).take 9 (cs' := (z2w y1)) rfl) rfl) (q1 rfl (z0 (mv rfl)) (z02 h fun y58 ey58 h => n1 rfl (oF (zfe H) (z5e H φ y1 [y24, y28, y32, y36] _ ey58) ⟨ef (mv rfl), EvF.of (mv rfl) (FEnt.row 2 z60 rfl), trivial⟩ fun x61 nw62 hk60 => ?_)))))
 obtain ⟨sv59, rfl, rfl⟩ := hk60
 refine ⟨z6, z47 ⟨z3d z53, trivial⟩, ?_⟩
 refine q1 rfl (z1 (mv rfl)) (rn (al [1, 3, 5, 6, 7, 8, 9, 10, 11, 12, 13, 14] [0, 1, 3, 4, 5, 6] rfl rfl rfl (sq (cs (cs (cr [0, 1, 2, 3, 4, 5, 6, 7, 8, 9, 10, 11, 12, 13, 14, 15, 16, 17, 18, 19, 20, 21, 22, 23, 24, 25] rfl (q1 rfl (z0 (mv rfl)) (q1 rfl (z3y [.int .i64 0, .int .i64 0] [(1, [(iv .i64 1)])] (out := [(iv .i64 0), (iv .i64 1)]) (ze43 H) rfl (tb43 H) ⟨(zf4 H), Nat.le_of_ble_eq_true rfl, (Ce.one ct (One.eqv rfl)), trivial⟩ rfl) (q1 rfl (z3y [.int .i64 0, .int .i64 0] [(0, [(iv .i64 1)]), (1, [(iv .i64 1)])] (out := [(iv .i64 1), (iv .i64 1)]) (ze43 H) rfl (tb43 H) ⟨(zkn H), Nat.le_of_ble_eq_true rfl, (Ce.one ct (One.eqv rfl)), ⟨(zf4 H), Nat.le_of_ble_eq_true rfl, (Ce.one ct (One.eqv rfl)), trivial⟩⟩ rfl) (q1 rfl (z3y [.int .i64 0, .int .i64 0, .int .i64 0, .int .i64 0, .int .i64 0, .int .i64 0, .int .i64 0, .int .i64 0, .int .i64 0, .int .i64 0] [(1, [(iv .i64 2)]), (3, [(iv .i64 1)]), (4, [(iv .i64 105)]), (5, [(iv .i64 3)]), (6, [(iv .i64 0), (iv .i64 1)]), (8, [(iv .i64 1), (iv .i64 1)])] (out := [(iv .i64 0), (iv .i64 2), (iv .i64 0), (iv .i64 1), (iv .i64 105), (iv .i64 3), (iv .i64 0), (iv .i64 1), (iv .i64 1), (iv .i64 1)]) (ze70 H) rfl (tb70 H) ⟨(zpt H), Nat.le_of_ble_eq_true rfl, (Ce.one ct (One.eqv rfl)), ⟨(zq7 H), Nat.le_of_ble_eq_true rfl, (Ce.one ct (One.eqv rfl)), ⟨(zq5 H), Nat.le_of_ble_eq_true rfl, (Ce.one ct (One.eqv rfl)), ⟨(zpw H), Nat.le_of_ble_eq_true rfl, (Ce.one ct (One.eqv rfl)), ⟨(zq4 H), Nat.le_of_ble_eq_true rfl, (Ce.agg (mv rfl)), ⟨(zp5 H), Nat.le_of_ble_eq_true rfl, (Ce.agg (mv rfl)), trivial⟩⟩⟩⟩⟩⟩ rfl) (n1 rfl (z1n (e := z5) [(z3.mk 0 2 0 1 105 3 (Ref.mk 0 1) (Ref.mk 1 1))] (sl53 H) z25 rfl (by decide) ⟨rfl, (Ce.agg (mv rfl)), trivial⟩ fun sv63 => ?_))))))))))))
 refine z02 h fun y64 ey64 h => q1 rfl (oQ (znk H) (z7j H φ y41 [(z3.mk 0 2 0 1 105 3 (Ref.mk 0 1) (Ref.mk 1 1))] _ ey64) z6 ⟨EvF.of (mv rfl) (FEnt.row 2 z25 rfl), EvF.of (mv rfl) (FEnt.row 6 z25 rfl), trivial⟩) (q1 rfl (z96 (mv rfl)) (q1 rfl (z0 (mv rfl)) (g1 rfl rfl (fun g65 => z0 (mv rfl)) (g1 rfl rfl (fun g66 => z8q 5 (il53 H) (mc rfl g66) rfl) (g1 rfl rfl (fun g67 => z85 (mc rfl g67) ct) (q1 rfl (opOr (mv rfl) ct (fun g68 => (mc rfl g68))) (q1 rfl (z0 (mv rfl)) (g1 rfl rfl (fun g69 => z0 (mv rfl)) (ckE h fun h71 h => g1 rfl rfl (fun g70 => zk 5 (ix53 H) (mc rfl g70) rfl ct ((h71 g70)).1 ((h71 g70)).2) ?_)))))))))
 refine g1 rfl rfl (fun g72 => zam (zgp H) (mc rfl g72)) (g1 rfl rfl (fun g73 => z29 (tl3 H) ((Pt.row _ 5 (k := (0 : Int).toNat) (fo := 4) z25 (mc rfl g73) rfl (by omega) (za (h71 g73)) rfl).take 1 (cs' := [(iv .i64 ((gt y58 0).fAt))]) rfl)) (g1 rfl rfl (fun g74 => z85 (mc rfl g74) ct) (q1 rfl (opOr (mv rfl) ct (fun g75 => (mc rfl g75))) (q1 rfl (z0 (mv rfl)) (g1 rfl rfl (fun g76 => z0 (mv rfl)) (ckE h fun h78 h => g1 rfl rfl (fun g77 => zk 5 (ix53 H) (mc rfl g77) rfl ct ((h78 g77)).1 ((h78 g77)).2) (g1 rfl rfl (fun g79 => zam (zgp H) (mc rfl g79)) (g1 rfl rfl (fun g80 => z29 (tl3 H) ((Pt.row _ 5 (k := (1 : Int).toNat) (fo := 4) z25 (mc rfl g80) rfl (by omega) (za (h78 g80)) rfl).take 1 (cs' := [(iv .i64 ((gt y58 1).fAt))]) rfl)) (g1 rfl rfl (fun g81 => z85 (mc rfl g81) ct) (q1 rfl (opOr (mv rfl) ct (fun g82 => (mc rfl g82))) ?_))))))))))
 refine rn (al [1, 3, 6, 7, 8, 9, 10, 11, 12, 13, 82] [0, 1, 3, 4] rfl rfl rfl (sq ?_))
 refine cI h rfl (fun c83 h => ?_) (fun c83 h => ?_)
 ·
  refine cs (cr [0] rfl (q1 rfl (z1 ct) (rn (al [0] [] rfl rfl rfl (sq (z2.ret (AtX.then_ret (AtX.ret' (bv false) (z0m.one Try.results9 rfl) [] [] trivial rfl ?_))))))))
  obtain rfl := Option.some.inj h
  exact ⟨rfl, rfl⟩
 ·
  refine z2.skip (al [1, 3, 6, 7, 8, 9, 10, 11, 12, 13] [0, 1, 2, 3] rfl rfl rfl (sq (cs (cr [0, 1, 2, 3, 4, 5, 6, 7, 8, 9, 10, 11, 12, 13, 14, 15, 16, 17, 18, 19, 20, 21, 22, 23, 24, 25, 26, 27, 28, 29, 30, 31, 32, 33, 34, 35, 36, 37, 38, 39, 40, 41, 42, 43, 44, 45, 46, 47, 48, 49, 50, 51, 52, 53] rfl (q1 rfl (z0 (mv rfl)) (q1 rfl (z6y (mv rfl) ct) (q1 rfl (z0 (mv rfl)) (g1 rfl rfl (fun g84 => z0 (mv rfl)) (g1 rfl rfl (fun g85 => z3y [.int .i64 0, .int .i64 0] [(1, [(iv .i64 105)])] (out := [(iv .i64 0), (iv .i64 105)]) (ze62 H) rfl (tb62 H) ⟨(zpc H), Nat.le_of_ble_eq_true rfl, (Ce.one ct (One.eqv rfl)), trivial⟩ rfl) (g1 rfl rfl (fun g86 => z3y [.int .i64 0, .int .i64 0, .int .i64 0, .int .i64 0, .int .i64 0] [(1, [(iv .i64 0), (iv .i64 105)])] (out := [(iv .i64 0), (iv .i64 0), (iv .i64 105), (iv .i64 0), (iv .i64 0)]) (ze64 H) rfl (tb64 H) ⟨(zm5 H), Nat.le_of_ble_eq_true rfl, (Ce.agg (mc rfl g86)), trivial⟩ rfl) (g1 rfl rfl (fun g87 => z3y [.int .i64 0, .int .i64 0] [(0, [(iv .i64 105)]), (1, [(iv .i64 500)])] (out := [(iv .i64 105), (iv .i64 500)]) (ze62 H) rfl (tb62 H) ⟨(zq9 H), Nat.le_of_ble_eq_true rfl, (Ce.one ct (One.eqv rfl)), ⟨(zpc H), Nat.le_of_ble_eq_true rfl, (Ce.one ct (One.eqv rfl)), trivial⟩⟩ rfl) ?_)))))))))))
  refine g1 rfl rfl (fun g88 => z3y [.int .i64 0, .int .i64 0] [(0, [(iv .i64 1)]), (1, [(iv .i64 1)])] (out := [(iv .i64 1), (iv .i64 1)]) (ze43 H) rfl (tb43 H) ⟨(zkn H), Nat.le_of_ble_eq_true rfl, (Ce.one ct (One.eqv rfl)), ⟨(zf4 H), Nat.le_of_ble_eq_true rfl, (Ce.one ct (One.eqv rfl)), trivial⟩⟩ rfl) (g1 rfl rfl (fun g89 => z3y [.int .i64 0, .int .i64 0, .int .i64 0, .int .i64 0, .int .i64 0] [(0, [(iv .i64 1)]), (1, [(iv .i64 105), (iv .i64 500)]), (3, [(iv .i64 1), (iv .i64 1)])] (out := [(iv .i64 1), (iv .i64 105), (iv .i64 500), (iv .i64 1), (iv .i64 1)]) (ze64 H) rfl (tb64 H) ⟨(znx H), Nat.le_of_ble_eq_true rfl, (Ce.one ct (One.eqv rfl)), ⟨(zm5 H), Nat.le_of_ble_eq_true rfl, (Ce.agg (mc rfl g89)), ⟨(zpm H), Nat.le_of_ble_eq_true rfl, (Ce.agg (mc rfl g89)), trivial⟩⟩⟩ rfl) (zj.cons_gnb (fun z => eqv z) (fun z => [row 64 z2q 5 [(zi.mk 0 (Span.mk 0 105) (Ref.mk 0 0)), (zi.mk 1 (Span.mk 105 500) (Ref.mk 1 1))] z]) (y46.2 == 0) rfl rfl rfl rfl rfl (fun g90 => z1n (e := z2q) [(zi.mk 0 (Span.mk 0 105) (Ref.mk 0 0)), (zi.mk 1 (Span.mk 105 500) (Ref.mk 1 1))] (sl49 H) z6r rfl (by decide) ⟨rfl, (Ce.agg (mc rfl g90)), ⟨rfl, (Ce.agg (mc rfl g90)), trivial⟩⟩ fun z => ⟨z, rfl, rfl⟩) fun sv91 => z02 h fun y93 ey93 h => g1 rfl rfl (fun g92 => oQ (zmh H) (zah H φ y46.1 [(zi.mk 0 (Span.mk 0 105) (Ref.mk 0 0)), (zi.mk 1 (Span.mk 105 500) (Ref.mk 1 1))] _ (z1f ey93 g92)) z6 ⟨EvF.of (mc rfl g92) (FEnt.row 2 z6r rfl), EvF.of (mc rfl g92) (FEnt.row 4 z6r (zaw rfl g92)), trivial⟩) (q1 rfl (z44 (mv rfl) (fun g94 => (mc rfl g94)) ct) (q1 rfl (z0 (mv rfl)) (g1 rfl rfl (fun g95 => z0 (mv rfl)) (g1 rfl rfl (fun g96 => z6y (mc rfl g96) ct) (q1 rfl (z44 (mv rfl) (fun g97 => (mc rfl g97)) ct) (q1 rfl (z0 (mv rfl)) (g1 rfl rfl (fun g98 => z0 (mv rfl)) ?_)))))))))
  refine g1 rfl rfl (fun g99 => z8q 3 (il49 H) (mc rfl g99) rfl) (g1 rfl rfl (fun g100 => z6y (mc rfl g100) ct) (q1 rfl (z44 (mv rfl) (fun g101 => (mc rfl g101)) ct) (q1 rfl (z0 (mv rfl)) (g1 rfl rfl (fun g102 => ln (tl36 H) ((Pt.box 0 (mv rfl) rfl rfl).take 9 (cs' := (z2w y1)) rfl) rfl) (g1 rfl rfl (fun g103 => z0 (mv rfl)) (z02 h fun y105 ey105 h => zj.cons_gnb (fun sv106 => (eqv sv106)) (fun sv106 => [row 70 z5 10 y105 sv106]) ((((y46.2 == 0) && y93) && (y51.2 == 0)) && ((y51.1.length : Int) == 1)) rfl rfl rfl rfl rfl (fun g104 => oF (zfe H) (z5e H φ y1 [y15, y19] _ (z1f ey105 g104)) ⟨ef (mc rfl g104), EvF.of (mc rfl g104) (FEnt.row 1 z60 rfl), trivial⟩ fun x nw hk => by obtain ⟨sv0_sv106, rfl, rfl⟩ := hk; exact ⟨z6, z47 ⟨z3d z53, trivial⟩, ⟨sv0_sv106, rfl, rfl⟩⟩) fun sv106 => g1 rfl rfl (fun g107 => z8q 5 (il53 H) (mc rfl g107) (zaw rfl g107)) (g1 rfl rfl (fun g108 => z6y (mc rfl g108) ct) (q1 rfl (z44 (mv rfl) (fun g109 => (mc rfl g109)) ct) (q1 rfl (z0 (mv rfl)) ?_)))))))))
  refine g1 rfl rfl (fun g110 => ln (tl36 H) ((Pt.box 0 (mv rfl) rfl rfl).take 9 (cs' := (z2w y1)) rfl) rfl) (g1 rfl rfl (fun g111 => z0 (mv rfl)) (z02 h fun y113 ey113 h => zj.cons_gnb (fun sv114 => (eqv sv114)) (fun sv114 => [row 43 eRef 2 y113 sv114]) (((((y46.2 == 0) && y93) && (y51.2 == 0)) && ((y51.1.length : Int) == 1)) && ((y105.length : Int) == 0)) rfl rfl rfl rfl rfl (fun g112 => oF (zmf H) (z7r H φ y1 [y15, y19] _ (z1f ey113 g112)) ⟨ef (mc rfl g112), EvF.of (mc rfl g112) (FEnt.row 1 z60 rfl), trivial⟩ fun x nw hk => by obtain ⟨sv0_sv114, rfl, rfl⟩ := hk; exact ⟨z6, z47 ⟨z3d fRef, trivial⟩, ⟨sv0_sv114, rfl, rfl⟩⟩) fun sv114 => g1 rfl rfl (fun g115 => z3y [.int .i64 0, .int .i64 0] [(1, [(iv .i64 1)])] (out := [(iv .i64 0), (iv .i64 1)]) (ze43 H) rfl (tb43 H) ⟨(zf4 H), Nat.le_of_ble_eq_true rfl, (Ce.one ct (One.eqv rfl)), trivial⟩ rfl) (g1 rfl rfl (fun g116 => z3y [.int .i64 0, .int .i64 0] [(0, [(iv .i64 1)]), (1, [(iv .i64 1)])] (out := [(iv .i64 1), (iv .i64 1)]) (ze43 H) rfl (tb43 H) ⟨(zkn H), Nat.le_of_ble_eq_true rfl, (Ce.one ct (One.eqv rfl)), ⟨(zf4 H), Nat.le_of_ble_eq_true rfl, (Ce.one ct (One.eqv rfl)), trivial⟩⟩ rfl) (zj.cons_gnb (fun z => eqv z) (fun z => [row 43 eRef 2 [(Ref.mk 0 1), (Ref.mk 1 1)] z]) (((((y46.2 == 0) && y93) && (y51.2 == 0)) && ((y51.1.length : Int) == 1)) && ((y105.length : Int) == 0)) rfl rfl rfl rfl rfl (fun g117 => z1n (e := eRef) [(Ref.mk 0 1), (Ref.mk 1 1)] (sl55 H) lRef rfl (by decide) ⟨rfl, (Ce.agg (mc rfl g117)), ⟨rfl, (Ce.agg (mc rfl g117)), trivial⟩⟩ fun z => ⟨z, rfl, rfl⟩) fun sv118 => z02 h fun y120 ey120 h => g1 rfl rfl (fun g119 => oQ (zpd H) (zac H φ y113 [(Ref.mk 0 1), (Ref.mk 1 1)] _ (z1f ey120 g119)) z6 ⟨EvF.of (mc rfl g119) (FEnt.row 6 lRef (zaw rfl g119)), EvF.of (mc rfl g119) (FEnt.row 7 lRef (zaw rfl g119)), trivial⟩) (q1 rfl (z44 (mv rfl) (fun g121 => (mc rfl g121)) ct) (q1 rfl (z0 (mv rfl)) (g1 rfl rfl (fun g122 => z0 (mv rfl)) ?_)))))))
  refine g1 rfl rfl (fun g123 => z6y (mc rfl g123) ct) (q1 rfl (z44 (mv rfl) (fun g124 => (mc rfl g124)) ct) (q1 rfl (z0 (mv rfl)) (g1 rfl rfl (fun g125 => z0 (mv rfl)) (g1 rfl rfl (fun g126 => z6y (mc rfl g126) ct) (q1 rfl (z44 (mv rfl) (fun g127 => (mc rfl g127)) ct) (q1 rfl (z0 (mv rfl)) (g1 rfl rfl (fun g128 => z0 (mv rfl)) (g1 rfl rfl (fun g129 => z6y (mc rfl g129) ct) (q1 rfl (z44 (mv rfl) (fun g130 => (mc rfl g130)) ct) (q1 rfl (z0 (mv rfl)) (g1 rfl rfl (fun g131 => z0 (mv rfl)) ?_)))))))))))
  refine g1 rfl rfl (fun g132 => z6y (mc rfl g132) ct) (q1 rfl (z44 (mv rfl) (fun g133 => (mc rfl g133)) ct) (q1 rfl (z1 (mv rfl)) (rn (al [0] [] rfl rfl rfl (sq (z2.ret (AtX.ret' (bv ((((((((((y46.2 == 0) && y93) && (y51.2 == 0)) && ((y51.1.length : Int) == 1)) && ((y105.length : Int) == 0)) && y120) && (y56.2 == 0)) && (y56.1 == 0)) && (y57.2 == 0)) && (y57.1 == 1))) (z0m.one Try.results9 rfl) [] [] trivial rfl ?_)))))))
  obtain rfl := Option.some.inj h
  exact ⟨rfl, rfl⟩
theorem zd8 {P : Program} (H : P = Try.prog) (φ : Nat) (v1 : Pool) (r : (Bool)) (h : z7p φ v1 = some r) : z2g P 27 [(agg (z2w v1))] (fun x news => x = (bv r) ∧ news = []) := by
 unfold z7p at h
 refine z2g.of_code' 65 (fn27 H) rfl rfl (Nat.le_of_ble_eq_true rfl) fun w0 base r0 wI => ?_
 refine cl [0] [] rfl rfl rfl (cs (cr [0, 1] rfl (n1 rfl (z8b (Ce.agg (mv rfl)) fun b2 => q1 rfl (z1 ct) (rn (al [1] [0] rfl rfl rfl (sq (cs (cs (cr [0, 1, 2, 3, 4, 5, 6, 7, 8, 9, 10, 11, 12, 13, 14, 15, 16, 17, 18, 19, 20, 21, 22, 23, 24, 25, 26, 27, 28, 29, 30, 31, 32, 33, 34, 35, 36, 37, 38, 39, 40, 41, 42, 43, 44] rfl (q1 rfl (z4 (zby H) (mv rfl)) ?_)))))))))))
 refine q1 rfl (z4 (zd5 H) (mv rfl)) (q1 rfl (lb (tl22 H) 0 (mv rfl) rfl rfl) (q1 rfl (z2m (il22 H) (mv rfl)) (q1 rfl (z66 (mv rfl) ct) (q1 rfl (z0 (mv rfl)) (g1 rfl rfl (fun g3 => z4 (zby H) (mv rfl)) (g1 rfl rfl (fun g4 => z4 (zk8 H) (mc rfl g4)) (g1 rfl rfl (fun g5 => lb (tl23 H) 0 (mc rfl g5) rfl rfl) (g1 rfl rfl (fun g6 => z2m (il23 H) (mc rfl g6)) (g1 rfl rfl (fun g7 => z66 (mc rfl g7) ct) (q1 rfl (opOr (mv rfl) ct (fun g8 => (mc rfl g8))) (q1 rfl (z0 (mv rfl)) ?_)))))))))))
 refine g1 rfl rfl (fun g9 => z4 (zea H) (mv rfl)) (g1 rfl rfl (fun g10 => z4 (zf8 H) (mc rfl g10)) (g1 rfl rfl (fun g11 => lb (tl27 H) 0 (mc rfl g11) rfl rfl) (g1 rfl rfl (fun g12 => z2m (il27 H) (mc rfl g12)) (g1 rfl rfl (fun g13 => z66 (mc rfl g13) ct) (q1 rfl (opOr (mv rfl) ct (fun g14 => (mc rfl g14))) (q1 rfl (z0 (mv rfl)) (g1 rfl rfl (fun g15 => z4 (zmd H) (mv rfl)) (g1 rfl rfl (fun g16 => lb (tl32 H) 0 (mc rfl g16) rfl rfl) (g1 rfl rfl (fun g17 => z2m (il32 H) (mc rfl g17)) (g1 rfl rfl (fun g18 => z66 (mc rfl g18) ct) (q1 rfl (opOr (mv rfl) ct (fun g19 => (mc rfl g19))) ?_)))))))))))
 refine q1 rfl (z0 (mv rfl)) (g1 rfl rfl (fun g20 => z4 (zea H) (mv rfl)) (g1 rfl rfl (fun g21 => z4 (zmv H) (mc rfl g21)) (g1 rfl rfl (fun g22 => lb (tl28 H) 0 (mc rfl g22) rfl rfl) (g1 rfl rfl (fun g23 => z2m (il28 H) (mc rfl g23)) (g1 rfl rfl (fun g24 => z66 (mc rfl g24) ct) (q1 rfl (opOr (mv rfl) ct (fun g25 => (mc rfl g25))) (q1 rfl (z0 (mv rfl)) (g1 rfl rfl (fun g26 => z4 (zea H) (mv rfl)) (g1 rfl rfl (fun g27 => z4 (zml H) (mc rfl g27)) (g1 rfl rfl (fun g28 => lb (tl29 H) 0 (mc rfl g28) rfl rfl) (g1 rfl rfl (fun g29 => z2m (il29 H) (mc rfl g29)) ?_)))))))))))
 refine g1 rfl rfl (fun g30 => z66 (mc rfl g30) ct) (q1 rfl (opOr (mv rfl) ct (fun g31 => (mc rfl g31))) (q1 rfl (z0 (mv rfl)) (g1 rfl rfl (fun g32 => z4 (zgg H) (mv rfl)) (g1 rfl rfl (fun g33 => lb (tl34 H) 0 (mc rfl g33) rfl rfl) (g1 rfl rfl (fun g34 => z2m (il34 H) (mc rfl g34)) (g1 rfl rfl (fun g35 => z66 (mc rfl g35) ct) (q1 rfl (opOr (mv rfl) ct (fun g36 => (mc rfl g36))) (rn (al [1, 48] [0] rfl rfl rfl (sq ?_))))))))))
 refine cI h rfl (fun c37 h => ?_) (fun c37 h => ?_)
 ·
  refine cs (cr [0] rfl (q1 rfl (z1 ct) (rn (al [2] [] rfl rfl rfl (sq (z2.ret (AtX.then_ret (AtX.ret' (bv false) (z0m.one Try.results27 rfl) [] [] trivial rfl ?_))))))))
  obtain rfl := Option.some.inj h
  exact ⟨rfl, rfl⟩
 ·
  refine z2.skip (al [1] [0] rfl rfl rfl (sq (cs (cs (cr [0] rfl (q1 rfl (z1 ct) (rn (al [1, 3] [0] rfl rfl rfl (sq ?_)))))))))
  refine z2.join (fun z : Unit => (z4o φ)) r (fun z => ⟨zl.of [], []⟩) (fun z h => ?_) (fun hJ38 => ?_)
  ·
   replace h : (z4o φ) = some r := h
   unfold z4o at h
   refine al [] [] rfl rfl rfl (sq (cs (cr [0] rfl (q1 rfl (z1 ct) (rn (al [2] [] rfl rfl rfl (sq (z2.ret (AtX.ret' (bv true) (z0m.one Try.results27 rfl) [] [] trivial rfl ?_)))))))))
   obtain rfl := Option.some.inj h
   exact ⟨rfl, rfl⟩
  ·
   refine z2.block ?_
   refine z2.to (z2.loop (fun n (z : Int) => z3s φ v1 (z4o φ) n z) r (fun z => ⟨zl.of [(1, (eqv (.pointer (some ⟨b2, 0, none⟩)))), (3, (iv .i64 z))], [(box b2 36 (z2w v1))]⟩) (fun z => rfl) (fun n40 v39 ih40 h => ?_) φ 0 h) [0] (sl rfl) (ol rfl) rfl
   replace h : z3s φ v1 (z4o φ) (n40 + 1) v39 = some r := h
   rw [z3s] at h
   refine cs (cs (cr [0, 1, 2, 3, 4] rfl (q1 rfl (z0 (mv rfl)) (q1 rfl (z4 (zgg H) (mv rfl)) (q1 rfl (lb (tl34 H) 0 (mv rfl) rfl rfl) (q1 rfl (z2m (il34 H) (mv rfl)) (q1 rfl (z28 (mv rfl) (mv rfl)) (rn (al [1, 3, 53] [0] rfl rfl rfl (sq ?_))))))))))
   refine cI h rfl (fun c41 h => ?_) (fun c41 h => ?_)
   ·
    refine z2.skip (al [1, 3] [0] rfl rfl rfl (sq (cs (z2.block (cs (cr [0, 1, 2, 3, 4, 5, 6, 7, 8] rfl (q1 rfl (z4 (zgg H) (mv rfl)) (q1 rfl (lb (tl34 H) 0 (mv rfl) rfl rfl) (q1 rfl (z0 (mv rfl)) (ckE h fun h42 h => q1 rfl (z0k (ix34 H) (mv rfl) (mv rfl) (h42).1 (za h42)) ?_))))))))))
    refine q1 rfl (z4f (znv H) (mv rfl) (cs' := (z8h (gt v1.fRailways v39).fCalendar)) 15 rfl) (q1 rfl (z4f (znh H) (mv rfl) (cs' := [(ro eI64 1 ((gt v1.fRailways v39).fCalendar.fHolidays))]) 1 rfl) (q1 rfl (lr (tl96 H) (mv rfl)) (q1 rfl (z2m (il96 H) (mv rfl)) (q1 rfl (z66 (mv rfl) ct) (rn (al [1, 3, 64] [0] rfl rfl rfl (sq ?_)))))))
    refine cI h rfl (fun c43 h => ?_) (fun c43 h => ?_)
    ·
     refine cs (cr [0] rfl (q1 rfl (z1 ct) (rn (al [2] [] rfl rfl rfl (sq (z2.ret (AtX.in_ret (AtX.then_ret (AtX.then_ret (AtX.in_ret (AtX.then_ret ?_)))))))))))
     refine AtX.ret' (bv false) (z0m.one Try.results27 rfl) [] [] trivial rfl ?_
     obtain rfl := Option.some.inj h
     exact ⟨rfl, rfl⟩
    ·
     refine z2.skip (AtX.in_normal (al [1, 3] [0] rfl rfl rfl (sq (cr [0, 1, 2] rfl (q1 rfl (z0 (mv rfl)) (q1 rfl (z14 (mv rfl) ct) (q1 rfl (z1 (mv rfl)) (rn ?_))))))))
     exact AtX.to (ih40 (W (v39 + 1)) h) [0] (sl rfl) (ol rfl) rfl
   ·
    refine z2.exit (AtX.then_exit (AtX.then_exit (AtX.in_hit ?_)))
    exact AtX.to (hJ38 () h) [] trivial trivial rfl
theorem zc9 {P : Program} (H : P = Try.prog) (φ : Nat) (v1 : (List zb)) (v2 : Int) (r : (Bool)) (h : z6l φ v1 v2 = some r) : z2g P 28 [(ro zd 21 v1), (iv .i64 v2)] (fun x news => x = (bv r) ∧ news = []) := by
 unfold z6l at h
 refine z2g.of_code' 34 (fn28 H) rfl rfl (Nat.le_of_ble_eq_true rfl) fun w0 base r0 wI => ?_
 refine cl [0, 1] [] rfl rfl rfl (cs (cr [0] rfl (q1 rfl (z1 ct) (rn (al [0, 1] [] rfl rfl rfl (sq (cs (cs (cr [0, 1, 2, 3] rfl (q1 rfl (z0 (mv rfl)) (q1 rfl (z2m (il37 H) (mv rfl)) ?_)))))))))))
 refine q1 rfl (z0 (mv rfl)) (q1 rfl (z66 (mv rfl) (mv rfl)) (rn (al [0, 9] [] rfl rfl rfl (sq ?_))))
 refine cI h rfl (fun c3 h => ?_) (fun c3 h => ?_)
 ·
  refine cs (cr [0] rfl (q1 rfl (z1 ct) (rn (al [4] [] rfl rfl rfl (sq (z2.ret (AtX.then_ret (AtX.ret' (bv false) (z0m.one Try.results28 rfl) [] [] trivial rfl ?_))))))))
  obtain rfl := Option.some.inj h
  exact ⟨rfl, rfl⟩
 ·
  refine z2.skip (al [0] [] rfl rfl rfl (sq (cs (cs (cr [0] rfl (q1 rfl (z1 ct) (rn (al [0, 5] [] rfl rfl rfl (sq ?_)))))))))
  refine z2.join (fun z : Unit => (z4m φ)) r (fun z => ⟨zl.of [], []⟩) (fun z h => ?_) (fun hJ4 => ?_)
  ·
   replace h : (z4m φ) = some r := h
   unfold z4m at h
   refine al [] [] rfl rfl rfl (sq (cs (cr [0] rfl (q1 rfl (z1 ct) (rn (al [4] [] rfl rfl rfl (sq (z2.ret (AtX.ret' (bv true) (z0m.one Try.results28 rfl) [] [] trivial rfl ?_)))))))))
   obtain rfl := Option.some.inj h
   exact ⟨rfl, rfl⟩
  ·
   refine z2.block ?_
   refine z2.to (z2.loop (fun n (z : Int) => z3r φ v1 (z4m φ) n z) r (fun z => ⟨zl.of [(0, (ro zd 21 v1)), (5, (iv .i64 z))], []⟩) (fun z => rfl) (fun n6 v5 ih6 h => ?_) φ 0 h) [] (sl rfl) trivial rfl
   replace h : z3r φ v1 (z4m φ) (n6 + 1) v5 = some r := h
   rw [z3r] at h
   refine cs (cs (cr [0, 1, 2, 3] rfl (q1 rfl (z0 (mv rfl)) (q1 rfl (z0 (mv rfl)) (q1 rfl (z2m (il37 H) (mv rfl)) (q1 rfl (z28 (mv rfl) (mv rfl)) (rn (al [0, 5, 13] [] rfl rfl rfl (sq ?_)))))))))
   refine cI h rfl (fun c7 h => ?_) (fun c7 h => ?_)
   ·
    refine z2.skip (al [0, 5] [] rfl rfl rfl (sq (cs (z2.block (cs (cr [0, 1, 2, 3, 4, 5, 6, 7, 8, 9, 10, 11, 12, 13, 14, 15, 16, 17] rfl (q1 rfl (z0 (mv rfl)) (q1 rfl (z0 (mv rfl)) (ckE h fun h8 h => q1 rfl (z0k (ix37 H) (mv rfl) (mv rfl) (h8).1 (za h8)) (q1 rfl (z4f (z6x H) (mv rfl) (cs' := (zbl (gt v1 v5).fItem)) 16 rfl) ?_))))))))))
    refine q1 rfl (z4f (zne H) (mv rfl) (cs' := [(ro z9r 3 ((gt v1 v5).fItem.fParts))]) 1 rfl) (q1 rfl (lr (tl44 H) (mv rfl)) (q1 rfl (z2m (il44 H) (mv rfl)) (q1 rfl (z66 (mv rfl) ct) (q1 rfl (z0 (mv rfl)) (g1 rfl rfl (fun g9 => z0 (mv rfl)) (g1 rfl rfl (fun g10 => z0 (mv rfl)) (g1 rfl rfl (fun g11 => z0k (ix37 H) (mc rfl g11) (mc rfl g11) (h8).1 (za h8)) (g1 rfl rfl (fun g12 => z4f (z6x H) (mc rfl g12) (cs' := (zbl (gt v1 v5).fItem)) 16 rfl) (g1 rfl rfl (fun g13 => z4f (zm0 H) (mc rfl g13) (cs' := [(eqv (.string ((gt v1 v5).fItem.fText)))]) 1 rfl) (g1 rfl rfl (fun g14 => lr (tl9 H) (mc rfl g14)) (g1 rfl rfl (fun g15 => zuw (un9 H) (mc rfl g15)) ?_)))))))))))
    refine g1 rfl rfl (fun g16 => z66 (mc rfl g16) ct) (q1 rfl (opOr (mv rfl) ct (fun g17 => (mc rfl g17))) (rn (al [0, 5, 33] [] rfl rfl rfl (sq ?_))))
    refine cI h rfl (fun c18 h => ?_) (fun c18 h => ?_)
    ·
     refine cs (cr [0] rfl (q1 rfl (z1 ct) (rn (al [4] [] rfl rfl rfl (sq (z2.ret (AtX.in_ret (AtX.then_ret (AtX.then_ret (AtX.in_ret (AtX.then_ret ?_)))))))))))
     refine AtX.ret' (bv false) (z0m.one Try.results28 rfl) [] [] trivial rfl ?_
     obtain rfl := Option.some.inj h
     exact ⟨rfl, rfl⟩
    ·
     refine z2.skip (AtX.in_normal (al [0, 5] [] rfl rfl rfl (sq (cr [0, 1, 2] rfl (q1 rfl (z0 (mv rfl)) (q1 rfl (z14 (mv rfl) ct) (q1 rfl (z1 (mv rfl)) (rn ?_))))))))
     exact AtX.to (ih6 (W (v5 + 1)) h) [] (sl rfl) trivial rfl
   ·
    refine z2.exit (AtX.then_exit (AtX.then_exit (AtX.in_hit ?_)))
    exact AtX.to (hJ4 () h) [] trivial trivial rfl
theorem zil {P : Program} (H : P = Try.prog) (φ : Nat) (v1 : Pool) (v2 : (List zb)) (r : (Bool)) (h : zb0 φ v1 v2 = some r) : z2g P 10 [(agg (z2w v1)), (ro zd 21 v2)] (fun x news => x = (bv r) ∧ news = []) := by
 unfold zb0 at h
 refine z2g.of_code' 11 (fn10 H) rfl rfl (Nat.le_of_ble_eq_true rfl) fun w0 base r0 wI => ?_
 refine cl [0, 1] [] rfl rfl rfl (cs (cr [0, 1] rfl (n1 rfl (z8b (Ce.agg (mv rfl)) fun b3 => q1 rfl (z1 ct) (rn (al [1, 2] [0] rfl rfl rfl (sq (cs (cr [0, 1, 2, 3, 4, 5, 6] rfl (q1 rfl (ln (tl36 H) ((Pt.box 0 (mv rfl) rfl rfl).take 9 (cs' := (z2w v1)) rfl) rfl) (z02 h fun y4 ey4 h => ?_)))))))))))
 refine q1 rfl (oQ (zuq H) (zd8 H φ v1 _ ey4) z6 ⟨ef (mv rfl), trivial⟩) (q1 rfl (z0 (mv rfl)) (g1 rfl rfl (fun g5 => z0 (mv rfl)) (z02 h fun y7 ey7 h => g1 rfl rfl (fun g6 => oQ (zut H) (zc9 H φ v2 60 _ (z1f ey7 g6)) z6 ⟨ef (mc rfl g6), ef ct, trivial⟩) (q1 rfl (z44 (mv rfl) (fun g8 => (mc rfl g8)) ct) (q1 rfl (z1 (mv rfl)) (rn (al [4] [] rfl rfl rfl (sq (z2.ret (AtX.ret' (bv (y4 && y7)) (z0m.one Try.results10 rfl) [] [] trivial rfl ?_))))))))))
 obtain rfl := Option.some.inj h
 exact ⟨rfl, rfl⟩
theorem zd3 {P : Program} (H : P = Try.prog) (φ : Nat) (v1 : (List zb)) (r : (Bool)) (h : z7q φ v1 = some r) : z2g P 11 [(ro zd 21 v1)] (fun x news => x = (bv r) ∧ news = []) := by
 unfold z7q at h
 refine z2g.of_code' 27 (fn11 H) rfl rfl (Nat.le_of_ble_eq_true rfl) fun w0 base r0 wI => ?_
 refine cl [0] [] rfl rfl rfl (cs (cr [0] rfl (q1 rfl (z1 ct) (rn (al [0] [] rfl rfl rfl (sq (cs (cs (cr [0] rfl (q1 rfl (z1 ct) (rn ?_)))))))))))
 refine al [0, 3] [] rfl rfl rfl (sq ?_)
 refine z2.join (fun z : Unit => (z2o φ)) r (fun z => ⟨zl.of [], []⟩) (fun z h => ?_) (fun hJ2 => ?_)
 ·
  replace h : (z2o φ) = some r := h
  unfold z2o at h
  refine al [] [] rfl rfl rfl (sq (cs (cr [0] rfl (q1 rfl (z1 ct) (rn (al [2] [] rfl rfl rfl (sq (z2.ret (AtX.ret' (bv true) (z0m.one Try.results11 rfl) [] [] trivial rfl ?_)))))))))
  obtain rfl := Option.some.inj h
  exact ⟨rfl, rfl⟩
 ·
  refine z2.block ?_
  refine z2.to (z2.loop (fun n (z : Int) => z2c φ v1 (z2o φ) n z) r (fun z => ⟨zl.of [(0, (ro zd 21 v1)), (3, (iv .i64 z))], []⟩) (fun z => rfl) (fun n4 v3 ih4 h => ?_) φ 0 h) [] (sl rfl) trivial rfl
  replace h : z2c φ v1 (z2o φ) (n4 + 1) v3 = some r := h
  rw [z2c] at h
  refine cs (cs (cr [0, 1, 2, 3] rfl (q1 rfl (z0 (mv rfl)) (q1 rfl (z0 (mv rfl)) (q1 rfl (z2m (il37 H) (mv rfl)) (q1 rfl (z28 (mv rfl) (mv rfl)) (rn (al [0, 3, 8] [] rfl rfl rfl (sq ?_)))))))))
  refine cI h rfl (fun c5 h => ?_) (fun c5 h => ?_)
  ·
   refine z2.skip (al [0, 3] [] rfl rfl rfl (sq (cs ?_)))
   refine z2.join (fun z : Unit => (z45 φ v3 (z2c φ v1 (z2o φ) n4))) r (fun z => ⟨zl.of [(0, (ro zd 21 v1)), (3, (iv .i64 v3))], []⟩) (fun z h => ?_) (fun hJ6 => ?_)
   ·
    replace h : (z45 φ v3 (z2c φ v1 (z2o φ) n4)) = some r := h
    unfold z45 at h
    refine al [0, 3] [] rfl rfl rfl (sq (cr [0, 1, 2] rfl (q1 rfl (z0 (mv rfl)) (q1 rfl (z14 (mv rfl) ct) (q1 rfl (z1 (mv rfl)) (rn ?_))))))
    exact AtX.to (ih4 (W (v3 + 1)) h) [] (sl rfl) trivial rfl
   ·
    refine z2.block (cs (cr [0] rfl (q1 rfl (z1 ct) (rn (al [0, 3, 4] [] rfl rfl rfl (sq (z2.block ?_)))))))
    refine z2.to (z2.loop (fun n (z : Int) => z46 φ v1 v3 (z45 φ v3 (z2c φ v1 (z2o φ) n4)) n z) r (fun z => ⟨zl.of [(0, (ro zd 21 v1)), (3, (iv .i64 v3)), (4, (iv .i64 z))], []⟩) (fun z => rfl) (fun n8 v7 ih8 h => ?_) φ 0 h) [] (sl rfl) trivial rfl
    replace h : z46 φ v1 v3 (z45 φ v3 (z2c φ v1 (z2o φ) n4)) (n8 + 1) v7 = some r := h
    rw [z46] at h
    refine cs (cs (cr [0, 1, 2] rfl (q1 rfl (z0 (mv rfl)) (q1 rfl (z0 (mv rfl)) (q1 rfl (z28 (mv rfl) (mv rfl)) (rn (al [0, 3, 4, 13] [] rfl rfl rfl (sq ?_))))))))
    refine cI h rfl (fun c9 h => ?_) (fun c9 h => ?_)
    ·
     refine z2.skip (al [0, 3, 4] [] rfl rfl rfl (sq (cs (z2.block (cs (ckE h fun h10 h => ckE h fun h11 h => z2.draw (QR := [(0, _), (1, _), (2, _), (3, _), (4, _), (5, _), (6, _), (7, _), (8, _), (9, _), (10, _)]) (tab := [(some 16, []), (some 17, []), (some 18, [0, 1]), (some 19, [2]), (some 20, [3]), (some 21, []), (some 22, []), (some 23, [5, 6]), (some 24, [7]), (some 25, [8]), (some 26, [4, 9])]) (z62 H) (Reg.intro [] [] (by kernel_rfl) rfl (an rfl) ⟨(qr rfl (z0 (mv rfl))), (qr rfl (z0 (mv rfl))), (qr rfl (z0k (ix37 H) (mv rfl) (mv rfl) (h10).1 (za h10))), (qr rfl (z4f (z9d H) (mv rfl) (cs' := (eRef (gt v1 v3).fRef)) 2 rfl)), (qr rfl (ln (tl43 H) (Pt.rop (mv rfl)) rfl)), (qr rfl (z0 (mv rfl))), (qr rfl (z0 (mv rfl))), (qr rfl (z0k (ix37 H) (mv rfl) (mv rfl) (h11).1 (za h11))), (qr rfl (z4f (z9d H) (mv rfl) (cs' := (eRef (gt v1 v7).fRef)) 2 rfl)), (qr rfl (ln (tl43 H) (Pt.rop (mv rfl)) rfl)), (qr rfl (ztw [(.int .i64 ((gt v1 v3).fRef.fRailway)), (.int .i64 ((gt v1 v3).fRef.fNo))] [(.int .i64 ((gt v1 v7).fRef.fRailway)), (.int .i64 ((gt v1 v7).fRef.fNo))] (mv rfl) (mv rfl) rfl rfl (eg43 H) (fun w => zlv H w ((gt v1 v3).fRef) ((gt v1 v7).fRef)))), trivial⟩ trivial (fun _ => al [0, 3, 4, 26] [] rfl rfl rfl (sq ?_)))))))))
     refine cI h rfl (fun c12 h => ?_) (fun c12 h => ?_)
     ·
      refine cs (cr [0] rfl (q1 rfl (z1 ct) (rn (al [2] [] rfl rfl rfl (sq (z2.ret (AtX.in_ret (AtX.then_ret (AtX.then_ret (AtX.in_ret (AtX.in_ret ?_)))))))))))
      refine AtX.then_ret (AtX.then_ret (AtX.in_ret (AtX.then_ret (AtX.ret' (bv false) (z0m.one Try.results11 rfl) [] [] trivial rfl ?_))))
      obtain rfl := Option.some.inj h
      exact ⟨rfl, rfl⟩
     ·
      refine z2.skip (AtX.in_normal (al [0, 3, 4] [] rfl rfl rfl (sq (cr [0, 1, 2] rfl (q1 rfl (z0 (mv rfl)) (q1 rfl (z14 (mv rfl) ct) (q1 rfl (z1 (mv rfl)) (rn ?_))))))))
      exact AtX.to (ih8 (W (v7 + 1)) h) [] (sl rfl) trivial rfl
    ·
     refine z2.exit (AtX.then_exit (AtX.then_exit (AtX.in_hit (AtX.in_normal ?_))))
     exact AtX.to (hJ6 () h) [] (sl rfl) trivial rfl
  ·
   refine z2.exit (AtX.then_exit (AtX.then_exit (AtX.in_hit ?_)))
   exact AtX.to (hJ2 () h) [] trivial trivial rfl
end Px
end
section
set_option linter.unusedVariables false
set_option linter.unusedSimpArgs false
set_option maxHeartbeats 4000000
set_option maxRecDepth 100000
namespace Px
open Go Go.RowKit Go.Proofs
theorem zau {P : Program} (H : P = Try.prog) (φ : Nat) (v1 : Pool) (v2 : (List zb)) (v3 : Int) (v4 : Int) (v5 : Int) (r : (Bool)) (h : z79 φ v1 v2 v3 v4 v5 = some r) : z2g P 3 [(agg (z2w v1)), (ro zd 21 v2), (iv .i64 v3), (iv .i64 v4), (iv .i64 v5)] (fun x news => x = (bv r) ∧ news = []) := by
 unfold z79 at h
 refine z2g.of_code' 161 (fn3 H) rfl rfl (Nat.le_of_ble_eq_true rfl) fun w0 base r0 wI => ?_
 refine cl [0, 1, 2, 3, 4] [] rfl rfl rfl (cs (cr [0, 1] rfl (n1 rfl (z8b (Ce.agg (mv rfl)) fun b6 => q1 rfl (z1 ct) (rn (al [1, 2, 3, 4, 5] [0] rfl rfl rfl (sq (cs (cs (cr [0, 1] rfl (z02 h fun y7 ey7 h => ?_)))))))))))
 refine q1 rfl (oQ (zvg H) (zh4 H φ  _ ey7) z6 trivial) (q1 rfl (z96 (mv rfl)) (rn (al [1, 2, 3, 4, 5, 26] [0] rfl rfl rfl (sq ?_))))
 refine cI h rfl (fun c8 h => ?_) (fun c8 h => ?_)
 ·
  refine cs (cr [0] rfl (q1 rfl (z1 ct) (rn (al [10] [] rfl rfl rfl (sq (z2.ret (AtX.then_ret (AtX.ret' (bv false) (z0m.one Try.results3 rfl) [] [] trivial rfl ?_))))))))
  obtain rfl := Option.some.inj h
  exact ⟨rfl, rfl⟩
 ·
  refine z2.skip (al [1, 2, 3, 4, 5] [0] rfl rfl rfl (sq (cs (cs (cr [0, 1, 2, 3, 4, 5, 6, 7, 8, 9, 10, 11, 12, 13] rfl (q1 rfl (ln (tl36 H) ((Pt.box 0 (mv rfl) rfl rfl).take 9 (cs' := (z2w v1)) rfl) rfl) (q1 rfl (z0 (mv rfl)) (z02 h fun y9 ey9 h => q1 rfl (oQ (ztn H) (zil H φ v1 v2 _ ey9) z6 ⟨ef (mv rfl), ef (mv rfl), trivial⟩) (q1 rfl (z96 (mv rfl)) (q1 rfl (z0 (mv rfl)) ?_))))))))))
  refine g1 rfl rfl (fun g10 => z0 (mv rfl)) (z02 h fun y12 ey12 h => g1 rfl rfl (fun g11 => oQ (zsh H) (zd3 H φ v2 _ (z1f ey12 g11)) z6 ⟨ef (mc rfl g11), trivial⟩) (g1 rfl rfl (fun g13 => z96 (mc rfl g13)) (q1 rfl (opOr (mv rfl) ct (fun g14 => (mc rfl g14))) (q1 rfl (z0 (mv rfl)) (g1 rfl rfl (fun g15 => z0 (mv rfl)) (g1 rfl rfl (fun g16 => z2m (il37 H) (mc rfl g16)) (g1 rfl rfl (fun g17 => z6y (mc rfl g17) ct) (q1 rfl (opOr (mv rfl) ct (fun g18 => (mc rfl g18))) (rn (al [1, 2, 3, 4, 5, 40] [0] rfl rfl rfl ?_))))))))))
  refine sq ?_
  refine cI h rfl (fun c19 h => ?_) (fun c19 h => ?_)
  ·
   refine cs (cr [0] rfl (q1 rfl (z1 ct) (rn (al [10] [] rfl rfl rfl (sq (z2.ret (AtX.then_ret (AtX.ret' (bv true) (z0m.one Try.results3 rfl) [] [] trivial rfl ?_))))))))
   obtain rfl := Option.some.inj h
   exact ⟨rfl, rfl⟩
  ·
   refine z2.skip (al [1, 2, 3, 4, 5] [0] rfl rfl rfl (sq (cs (cr [0, 1, 2, 3] rfl (n1 rfl (z1n (e := zd) ([] : List zb) (sl37 H) z60 rfl (by decide) trivial fun sv20 => q1 rfl (z0 (mv rfl)) (ckE h fun h21 h => n1 rfl (z9g 1 (l := ([] : List zb)) (m := v2) (sl37 H) z60 (mv rfl) rfl (Src.ro z60 (by decide) (mv rfl)) h21 (z92 (by decide) h21) fun sv22 => q1 rfl (z1 (mv rfl)) (rn (al [1, 2, 3, 4, 5, 11] [0, 1] rfl rfl rfl ?_))))))))))
   refine sq (cs (cr [0, 1, 2, 3, 4, 5, 6, 7] rfl (q1 rfl (z0 (mv rfl)) (q1 rfl (z63 (us3 H) (un41 H) (mv rfl)) (q1 rfl (z0 (mv rfl)) (q1 rfl (z2m (il37 H) (mv rfl)) (q1 rfl (z63 (us3 H) (un41 H) (mv rfl)) (ckE h fun h23 h => q1 rfl (zj3 (mv rfl) (mv rfl) h23) (q1 rfl (z63 (us41 H) (un3 H) (mv rfl)) (q1 rfl (z1 (mv rfl)) ?_))))))))))
   refine rn (al [1, 3, 4, 5, 11, 12] [0, 1] rfl rfl rfl (sq (cs (cr [0, 1, 2, 3, 4, 5, 6, 7] rfl (q1 rfl (z0 (mv rfl)) (q1 rfl (z63 (us3 H) (un41 H) (mv rfl)) (q1 rfl (z0 (mv rfl)) (q1 rfl (z2m (il37 H) (mv rfl)) (q1 rfl (z63 (us3 H) (un41 H) (mv rfl)) (q1 rfl (zj3 (mv rfl) (mv rfl) h23) (q1 rfl (z63 (us41 H) (un3 H) (mv rfl)) ?_)))))))))))
   refine q1 rfl (z1 (mv rfl)) (rn (al [1, 4, 5, 11, 12, 13] [0, 1] rfl rfl rfl (sq (cs (ckE h fun h24 h => ckE h fun h25 h => ckE h fun h27 h => z2.draw (QR := [(0, (eqv sv22)), (1, (iv .i64 (W (((U (v3)).tmod (U ((v2.length : Int)))))))), (2, (eqv sv22)), (3, (iv .i64 (W (((U (v4)).tmod (U ((v2.length : Int)))))))), (4, (eqv sv22)), (5, (iv .i64 (W (((U (v4)).tmod (U ((v2.length : Int)))))))), (6, (rowp sv22 (((W (((U (v4)).tmod (U ((v2.length : Int)))))) : Int).toNat * 21))), (7, (agg (zd (gt (([] : List zb) ++ v2) (W (((U (v4)).tmod (U ((v2.length : Int)))))))))), (8, (eqv sv22)), (9, (iv .i64 (W (((U (v3)).tmod (U ((v2.length : Int)))))))), (10, (rowp sv22 (((W (((U (v3)).tmod (U ((v2.length : Int)))))) : Int).toNat * 21))), (11, (agg (zd (gt (([] : List zb) ++ v2) (W (((U (v3)).tmod (U ((v2.length : Int)))))))))), (12, (rowp sv22 (((W (((U (v3)).tmod (U ((v2.length : Int)))))) : Int).toNat * 21)))]) (tab := [(some 58, []), (some 59, []), (some 60, []), (some 61, []), (some 62, []), (some 63, []), (some 64, [4, 5]), (some 65, [6]), (some 66, []), (some 67, []), (some 68, [8, 9]), (some 69, [10]), (some 70, [0, 1, 0, 1, 4, 5, 6, 7, 11]), (none, [12, 7, 0, 1, 4, 5, 6, 7, 11]), (some 71, [2, 3, 0, 1, 2, 3, 4, 5, 6, 7, 8, 9, 10, 11, 12, 13]), (none, [14, 11, 13, 0, 1, 2, 3, 4, 5, 6, 7, 8, 9, 10, 11, 12, 13])]) (z62 H) (Reg.intro [13] [] (by kernel_rfl) rfl ⟨rfl, rfl, rfl, rfl, rfl, rfl, rfl, rfl, rfl, rfl, rfl, rfl, rfl, trivial⟩ ⟨(fun _ => ⟨_, rfl, (z0 (mv rfl))⟩), (fun _ => ⟨_, rfl, (z0 (mv rfl))⟩), (fun _ => ⟨_, rfl, (z0 (mv rfl))⟩), (fun _ => ⟨_, rfl, (z0 (mv rfl))⟩), (fun _ => ⟨_, rfl, (z0 (mv rfl))⟩), (fun _ => ⟨_, rfl, (z0 (mv rfl))⟩), (fun _ => ⟨_, rfl, (zk 1 (ix37 H) (mv rfl) rfl (mv rfl) (h24).1 (h24).2)⟩), (fun _ => ⟨_, rfl, (z61 (tl48 H) ((Pt.row _ 1 (k := ((W (((U (v4)).tmod (U ((v2.length : Int)))))) : Int).toNat) (fo := 0) z60 (mv rfl) rfl (by omega) (za h24) rfl).take 21 (cs' := (zd (gt (([] : List zb) ++ v2) (W (((U (v4)).tmod (U ((v2.length : Int))))))))) rfl))⟩), (fun _ => ⟨_, rfl, (z0 (mv rfl))⟩), (fun _ => ⟨_, rfl, (z0 (mv rfl))⟩), (fun _ => ⟨_, rfl, (zk 1 (ix37 H) (mv rfl) rfl (mv rfl) (h25).1 (h25).2)⟩), (fun _ => ⟨_, rfl, (z61 (tl48 H) ((Pt.row _ 1 (k := ((W (((U (v3)).tmod (U ((v2.length : Int)))))) : Int).toNat) (fo := 0) z60 (mv rfl) rfl (by omega) (za h25) rfl).take 21 (cs' := (zd (gt (([] : List zb) ++ v2) (W (((U (v3)).tmod (U ((v2.length : Int))))))))) rfl))⟩), (fun _ => ⟨_, rfl, (zk 1 (ix37 H) (mv rfl) rfl (mv rfl) (h25).1 (h25).2)⟩), trivial⟩ ⟨⟨_, rfl, rfl, rfl, rfl, z3z 1 (k := ((W (((U (v3)).tmod (U ((v2.length : Int)))))) : Int).toNat) (fo := 0) (z' := (gt (([] : List zb) ++ v2) (W (((U (v4)).tmod (U ((v2.length : Int)))))))) (cs := (zd (gt (([] : List zb) ++ v2) (W (((U (v4)).tmod (U ((v2.length : Int))))))))) z60 (tl48 H) (mv rfl) (Ce.agg (mv rfl)) rfl rfl (by omega) (za h25) (Nat.le_of_ble_eq_true rfl) rfl ⟨[(14, (rowp sv22 (((W (((U (v4)).tmod (U ((v2.length : Int)))))) : Int).toNat * 21)))], rfl, ?_⟩⟩, trivial⟩ (fun hc => Bool.noConfusion (hc : false = true))))))))
   refine Reg.intro [15] [0, 1, 4, 5, 6, 7, 8, 9, 10, 11, 12] (by kernel_rfl) rfl (an rfl) ⟨nf, nf, (qr rfl (z0 (mv rfl))), (qr rfl (z0 (mv rfl))), nf, nf, nf, nf, nf, nf, nf, nf, nf, (qr rfl (zk 1 (ix37 H) (mv rfl) rfl (mv rfl) (h27).1 (h27).2)), trivial⟩ ⟨⟨_, rfl, rfl, rfl, rfl, z3z 1 (k := ((W (((U (v4)).tmod (U ((v2.length : Int)))))) : Int).toNat) (fo := 0) (z' := (gt (([] : List zb) ++ v2) (W (((U (v3)).tmod (U ((v2.length : Int)))))))) (cs := (zd (gt (([] : List zb) ++ v2) (W (((U (v3)).tmod (U ((v2.length : Int))))))))) z60 (tl48 H) (mv rfl) (Ce.agg (mv rfl)) rfl rfl (by omega) (za h27) (Nat.le_of_ble_eq_true rfl) rfl ⟨[], rfl, ?_⟩⟩, trivial⟩ ft
   refine Reg.intro [] [0, 1, 2, 3, 4, 5, 6, 7, 8, 9, 10, 11, 12, 14] (by kernel_rfl) rfl (an rfl) ⟨nf, nf, nf, nf, nf, nf, nf, nf, nf, nf, nf, nf, nf, nf, trivial⟩ trivial (fun _ => al [1, 4, 5, 11, 12] [0, 1] rfl rfl rfl (sq (cs (z2.addNil 48 zd 21 (cr [0] rfl (q1 rfl (z1 ct) (rn (al [1, 4, 5, 11, 12, 14] [0, 1, 2] rfl rfl rfl (sq (cs (cs ?_)))))))))))
   refine cr [0, 1, 2, 3] rfl (q1 rfl (z0 (mv rfl)) (q1 rfl (z2m (il37 H) (mv rfl)) (q1 rfl (z2l (mv rfl) ct) (q1 rfl (z1 (mv rfl)) (rn (al [1, 4, 5, 11, 12, 14, 15] [0, 1, 2] rfl rfl rfl (sq ?_)))))))
   refine z2.join (fun z : (List zb) × Value => (z2i φ v1 v2 v3 v4 v5) z.1) r (fun z => ⟨zl.of [(1, (ro zd 21 v2)), (4, (iv .i64 v5)), (5, (eqv (.pointer (some ⟨b6, 0, none⟩)))), (11, (eqv sv22)), (12, (iv .i64 (W (((U (v3)).tmod (U ((v2.length : Int)))))))), (14, (eqv z.2))], [(box b6 36 (z2w v1)), (row 48 zd 21 (z1t (z1t (([] : List zb) ++ v2) (W (((U (v3)).tmod (U ((v2.length : Int)))))) (gt (([] : List zb) ++ v2) (W (((U (v4)).tmod (U ((v2.length : Int)))))))) (W (((U (v4)).tmod (U ((v2.length : Int)))))) (gt (([] : List zb) ++ v2) (W (((U (v3)).tmod (U ((v2.length : Int)))))))) sv22), (row 48 zd 21 z.1 z.2)]⟩) (fun z h => ?_) (fun hJ31 => ?_)
   ·
    obtain ⟨v29, sv30⟩ := z
    replace h : (z2i φ v1 v2 v3 v4 v5) v29 = some r := h
    unfold z2i at h
    refine al [1, 4, 5, 11, 12, 14] [0, 1, 2] rfl rfl rfl (sq (cs (cr [0, 1, 2, 3, 4, 5, 6] rfl (q1 rfl (z0 (mv rfl)) (q1 rfl (z0 (mv rfl)) (ckE h fun h32 h => q1 rfl (z0k (ix37 H) (mv rfl) (mv rfl) (h32).1 (za h32)) (q1 rfl (z4f (z6x H) (mv rfl) (cs' := (zbl (gt v2 (W (((U (v3)).tmod (U ((v2.length : Int))))))).fItem)) 16 rfl) (q1 rfl (z4f (zgu H) (mv rfl) (cs' := [(iv .i64 ((gt v2 (W (((U (v3)).tmod (U ((v2.length : Int))))))).fItem.fWagon))]) 1 rfl) (q1 rfl (lr (tl3 H) (mv rfl)) (q1 rfl (z1 (mv rfl)) ?_))))))))))
    refine rn (al [1, 4, 5, 11, 14, 16] [0, 1, 2] rfl rfl rfl (sq (cs (cr [0, 1, 2, 3, 4, 5, 6, 7, 8, 9] rfl (q1 rfl (ln (tl36 H) ((Pt.box 0 (mv rfl) rfl rfl).take 9 (cs' := (z2w v1)) rfl) rfl) (q1 rfl (z0 (mv rfl)) (q1 rfl (z0 (mv rfl)) (q1 rfl (z0 (mv rfl)) (z02 h fun y33 ey33 h => n1 rfl (oF (zia H) (z72 H φ v1 v2 ((gt v2 (W (((U (v3)).tmod (U ((v2.length : Int))))))).fItem.fWagon) v5 _ ey33) ⟨ef (mv rfl), ef (mv rfl), ef (mv rfl), ef (mv rfl), trivial⟩ fun x36 nw37 hk35 => ?_))))))))))
    obtain ⟨sv34, rfl, rfl⟩ := hk35
    refine ⟨(z7t ⟨z6, z6, trivial⟩), z47 ⟨z3d zag, trivial⟩, ?_⟩
    refine q1 rfl (z0 (mv rfl)) (q1 rfl (z41 (mv rfl) rfl) (q1 rfl (z41 (mv rfl) rfl) (q1 rfl (z1 (mv rfl)) (q1 rfl (z1 (mv rfl)) (rn (al [1, 4, 5, 11, 14, 16, 17, 18] [0, 1, 2, 3] rfl rfl rfl (sq (cs (cr [0, 1, 2, 3, 4, 5, 6, 7, 8, 9] rfl (q1 rfl (ln (tl36 H) ((Pt.box 0 (mv rfl) rfl rfl).take 9 (cs' := (z2w v1)) rfl) rfl) (q1 rfl (z0 (mv rfl)) ?_)))))))))))
    refine q1 rfl (z0 (mv rfl)) (q1 rfl (z0 (mv rfl)) (z02 h fun y38 ey38 h => n1 rfl (oF (zia H) (z72 H φ v1 (z1t (z1t (([] : List zb) ++ v2) (W (((U (v3)).tmod (U ((v2.length : Int)))))) (gt (([] : List zb) ++ v2) (W (((U (v4)).tmod (U ((v2.length : Int)))))))) (W (((U (v4)).tmod (U ((v2.length : Int)))))) (gt (([] : List zb) ++ v2) (W (((U (v3)).tmod (U ((v2.length : Int)))))))) ((gt v2 (W (((U (v3)).tmod (U ((v2.length : Int))))))).fItem.fWagon) v5 _ ey38) ⟨ef (mv rfl), EvF.of (mv rfl) (FEnt.row 1 z60 rfl), ef (mv rfl), ef (mv rfl), trivial⟩ fun x41 nw42 hk40 => ?_)))
    obtain ⟨sv39, rfl, rfl⟩ := hk40
    refine ⟨(z7t ⟨z6, z6, trivial⟩), z47 ⟨z3d zag, trivial⟩, ?_⟩
    refine q1 rfl (z0 (mv rfl)) (q1 rfl (z41 (mv rfl) rfl) (q1 rfl (z41 (mv rfl) rfl) (q1 rfl (z1 (mv rfl)) (q1 rfl (z1 (mv rfl)) (rn (al [1, 4, 5, 11, 14, 16, 17, 18, 19, 20] [0, 1, 2, 3, 4] rfl rfl rfl (sq (cs (cr [0, 1, 2, 3, 4, 5, 6, 7, 8, 9] rfl (q1 rfl (ln (tl36 H) ((Pt.box 0 (mv rfl) rfl rfl).take 9 (cs' := (z2w v1)) rfl) rfl) (q1 rfl (z0 (mv rfl)) ?_)))))))))))
    refine q1 rfl (z0 (mv rfl)) (q1 rfl (z0 (mv rfl)) (z02 h fun y43 ey43 h => n1 rfl (oF (zia H) (z72 H φ v1 v29 ((gt v2 (W (((U (v3)).tmod (U ((v2.length : Int))))))).fItem.fWagon) v5 _ ey43) ⟨ef (mv rfl), EvF.of (mv rfl) (FEnt.row 2 z60 rfl), ef (mv rfl), ef (mv rfl), trivial⟩ fun x46 nw47 hk45 => ?_)))
    obtain ⟨sv44, rfl, rfl⟩ := hk45
    refine ⟨(z7t ⟨z6, z6, trivial⟩), z47 ⟨z3d zag, trivial⟩, ?_⟩
    refine q1 rfl (z0 (mv rfl)) (q1 rfl (z41 (mv rfl) rfl) (q1 rfl (z41 (mv rfl) rfl) (q1 rfl (z1 (mv rfl)) (q1 rfl (z1 (mv rfl)) (rn (al [1, 5, 11, 14, 17, 18, 19, 20, 21, 22] [0, 1, 2, 3, 4, 5] rfl rfl rfl (sq (cs (cr [0, 1, 2, 3] rfl (q1 rfl (ln (tl36 H) ((Pt.box 0 (mv rfl) rfl rfl).take 9 (cs' := (z2w v1)) rfl) rfl) (q1 rfl (z0 (mv rfl)) ?_)))))))))))
    refine z02 h fun y48 ey48 h => n1 rfl (oF (zfe H) (z5e H φ v1 v2 _ ey48) ⟨ef (mv rfl), ef (mv rfl), trivial⟩ fun x51 nw52 hk50 => ?_)
    obtain ⟨sv49, rfl, rfl⟩ := hk50
    refine ⟨z6, z47 ⟨z3d z53, trivial⟩, ?_⟩
    refine q1 rfl (z1 (mv rfl)) (rn (al [1, 5, 11, 14, 17, 18, 19, 20, 21, 22, 23] [0, 1, 2, 3, 4, 5, 6] rfl rfl rfl (sq (cs (cr [0, 1, 2, 3] rfl (q1 rfl (ln (tl36 H) ((Pt.box 0 (mv rfl) rfl rfl).take 9 (cs' := (z2w v1)) rfl) rfl) (q1 rfl (z0 (mv rfl)) (z02 h fun y53 ey53 h => n1 rfl (oF (zmf H) (z7r H φ v1 v2 _ ey53) ⟨ef (mv rfl), ef (mv rfl), trivial⟩ fun x56 nw57 hk55 => ?_)))))))))
    obtain ⟨sv54, rfl, rfl⟩ := hk55
    refine ⟨z6, z47 ⟨z3d fRef, trivial⟩, ?_⟩
    refine q1 rfl (z1 (mv rfl)) (rn (al [5, 11, 14, 17, 18, 19, 20, 21, 22, 23, 24] [0, 1, 2, 3, 4, 5, 6, 7] rfl rfl rfl (sq (cs (cr [0, 1, 2, 3, 4, 5, 6, 7, 8, 9, 10, 11, 12, 13, 14, 15, 16, 17, 18, 19, 20, 21, 22, 23, 24, 25, 26, 27, 28, 29, 30, 31, 32, 33, 34, 35, 36, 37, 38, 39] rfl (q1 rfl (z0 (mv rfl)) (q1 rfl (z0 (mv rfl)) (q1 rfl (z6y (mv rfl) (mv rfl)) (q1 rfl (z0 (mv rfl)) (g1 rfl rfl (fun g58 => z0 (mv rfl)) (g1 rfl rfl (fun g59 => z0 (mv rfl)) ?_)))))))))))
    refine g1 rfl rfl (fun g60 => z6y (mc rfl g60) (mc rfl g60)) (q1 rfl (z44 (mv rfl) (fun g61 => (mc rfl g61)) ct) (q1 rfl (z0 (mv rfl)) (g1 rfl rfl (fun g62 => z0 (mv rfl)) (g1 rfl rfl (fun g63 => z0 (mv rfl)) (z02 h fun y65 ey65 h => g1 rfl rfl (fun g64 => oQ (zmh H) (zah H φ y33.1 y38.1 _ (z1f ey65 g64)) z6 ⟨EvF.of (mc rfl g64) (FEnt.row 3 z6r rfl), EvF.of (mc rfl g64) (FEnt.row 4 z6r rfl), trivial⟩) (q1 rfl (z44 (mv rfl) (fun g66 => (mc rfl g66)) ct) (q1 rfl (z0 (mv rfl)) (g1 rfl rfl (fun g67 => z0 (mv rfl)) (g1 rfl rfl (fun g68 => z0 (mv rfl)) (z02 h fun y70 ey70 h => ?_))))))))))
    refine g1 rfl rfl (fun g69 => oQ (zmh H) (zah H φ y33.1 y43.1 _ (z1f ey70 g69)) z6 ⟨EvF.of (mc rfl g69) (FEnt.row 3 z6r rfl), EvF.of (mc rfl g69) (FEnt.row 5 z6r rfl), trivial⟩) (q1 rfl (z44 (mv rfl) (fun g71 => (mc rfl g71)) ct) (q1 rfl (z0 (mv rfl)) (g1 rfl rfl (fun g72 => z0 (mv rfl)) (g1 rfl rfl (fun g73 => ln (tl36 H) ((Pt.box 0 (mv rfl) rfl rfl).take 9 (cs' := (z2w v1)) rfl) rfl) (g1 rfl rfl (fun g74 => z0 (mv rfl)) (z02 h fun y76 ey76 h => zj.cons_gnb (fun sv77 => (eqv sv77)) (fun sv77 => [row 70 z5 10 y76 sv77]) ((((y33.2 == y38.2) && (y33.2 == y43.2)) && y65) && y70) rfl rfl rfl rfl rfl (fun g75 => oF (zfe H) (z5e H φ v1 (z1t (z1t (([] : List zb) ++ v2) (W (((U (v3)).tmod (U ((v2.length : Int)))))) (gt (([] : List zb) ++ v2) (W (((U (v4)).tmod (U ((v2.length : Int)))))))) (W (((U (v4)).tmod (U ((v2.length : Int)))))) (gt (([] : List zb) ++ v2) (W (((U (v3)).tmod (U ((v2.length : Int)))))))) _ (z1f ey76 g75)) ⟨ef (mc rfl g75), EvF.of (mc rfl g75) (FEnt.row 1 z60 rfl), trivial⟩ fun x nw hk => by obtain ⟨sv0_sv77, rfl, rfl⟩ := hk; exact ⟨z6, z47 ⟨z3d z53, trivial⟩, ⟨sv0_sv77, rfl, rfl⟩⟩) fun sv77 => z02 h fun y79 ey79 h => g1 rfl rfl (fun g78 => oQ (znk H) (z7j H φ y48 y76 _ (z1f ey79 g78)) z6 ⟨EvF.of (mc rfl g78) (FEnt.row 6 z25 rfl), EvF.of (mc rfl g78) (FEnt.row 8 z25 (zaw rfl g78)), trivial⟩) (q1 rfl (z44 (mv rfl) (fun g80 => (mc rfl g80)) ct) (q1 rfl (z0 (mv rfl)) ?_))))))))
    refine g1 rfl rfl (fun g81 => z0 (mv rfl)) (g1 rfl rfl (fun g82 => ln (tl36 H) ((Pt.box 0 (mv rfl) rfl rfl).take 9 (cs' := (z2w v1)) rfl) rfl) (g1 rfl rfl (fun g83 => z0 (mv rfl)) (z02 h fun y85 ey85 h => zj.cons_gnb (fun sv86 => (eqv sv86)) (fun sv86 => [row 70 z5 10 y85 sv86]) (((((y33.2 == y38.2) && (y33.2 == y43.2)) && y65) && y70) && y79) rfl rfl rfl rfl rfl (fun g84 => oF (zfe H) (z5e H φ v1 v29 _ (z1f ey85 g84)) ⟨ef (mc rfl g84), EvF.of (mc rfl g84) (FEnt.row 2 z60 rfl), trivial⟩ fun x nw hk => by obtain ⟨sv0_sv86, rfl, rfl⟩ := hk; exact ⟨z6, z47 ⟨z3d z53, trivial⟩, ⟨sv0_sv86, rfl, rfl⟩⟩) fun sv86 => z02 h fun y88 ey88 h => g1 rfl rfl (fun g87 => oQ (znk H) (z7j H φ y48 y85 _ (z1f ey88 g87)) z6 ⟨EvF.of (mc rfl g87) (FEnt.row 6 z25 rfl), EvF.of (mc rfl g87) (FEnt.row 9 z25 (zaw rfl g87)), trivial⟩) (q1 rfl (z44 (mv rfl) (fun g89 => (mc rfl g89)) ct) (q1 rfl (z0 (mv rfl)) (g1 rfl rfl (fun g90 => z0 (mv rfl)) (g1 rfl rfl (fun g91 => ln (tl36 H) ((Pt.box 0 (mv rfl) rfl rfl).take 9 (cs' := (z2w v1)) rfl) rfl) (g1 rfl rfl (fun g92 => z0 (mv rfl)) ?_))))))))
    refine z02 h fun y94 ey94 h => zj.cons_gnb (fun sv95 => (eqv sv95)) (fun sv95 => [row 43 eRef 2 y94 sv95]) ((((((y33.2 == y38.2) && (y33.2 == y43.2)) && y65) && y70) && y79) && y88) rfl rfl rfl rfl rfl (fun g93 => oF (zmf H) (z7r H φ v1 v29 _ (z1f ey94 g93)) ⟨ef (mc rfl g93), EvF.of (mc rfl g93) (FEnt.row 2 z60 rfl), trivial⟩ fun x nw hk => by obtain ⟨sv0_sv95, rfl, rfl⟩ := hk; exact ⟨z6, z47 ⟨z3d fRef, trivial⟩, ⟨sv0_sv95, rfl, rfl⟩⟩) fun sv95 => z02 h fun y97 ey97 h => g1 rfl rfl (fun g96 => oQ (zpd H) (zac H φ y53 y94 _ (z1f ey97 g96)) z6 ⟨EvF.of (mc rfl g96) (FEnt.row 7 lRef rfl), EvF.of (mc rfl g96) (FEnt.row 10 lRef (zaw rfl g96)), trivial⟩) (q1 rfl (z44 (mv rfl) (fun g98 => (mc rfl g98)) ct) (q1 rfl (z1 (mv rfl)) (rn (al [10] [] rfl rfl rfl (sq (z2.ret (AtX.ret' (bv (((((((y33.2 == y38.2) && (y33.2 == y43.2)) && y65) && y70) && y79) && y88) && y97)) (z0m.one Try.results3 rfl) [] [] trivial rfl ?_)))))))
    obtain rfl := Option.some.inj h
    exact ⟨rfl, rfl⟩
   ·
    refine z2.block ?_
    refine z2.to (z2.loop (fun n (z : Int × (List zb) × Value) => z2s φ v2 (z2i φ v1 v2 v3 v4 v5) n z.1 z.2.1) r (fun z => ⟨zl.of [(1, (ro zd 21 v2)), (4, (iv .i64 v5)), (5, (eqv (.pointer (some ⟨b6, 0, none⟩)))), (11, (eqv sv22)), (12, (iv .i64 (W (((U (v3)).tmod (U ((v2.length : Int)))))))), (14, (eqv z.2.2)), (15, (iv .i64 z.1))], [(box b6 36 (z2w v1)), (row 48 zd 21 (z1t (z1t (([] : List zb) ++ v2) (W (((U (v3)).tmod (U ((v2.length : Int)))))) (gt (([] : List zb) ++ v2) (W (((U (v4)).tmod (U ((v2.length : Int)))))))) (W (((U (v4)).tmod (U ((v2.length : Int)))))) (gt (([] : List zb) ++ v2) (W (((U (v3)).tmod (U ((v2.length : Int)))))))) sv22), (row 48 zd 21 z.2.1 z.2.2)]⟩) (fun z => rfl) (fun n102 z ih102 h => ?_) φ ((W ((v2.length : Int) - 1)), ([] : List zb), (Value.slice none 0 0)) h) [0, 1, 2] (sl rfl) (ol rfl) rfl
    obtain ⟨v99, v100, sv101⟩ := z
    replace h : z2s φ v2 (z2i φ v1 v2 v3 v4 v5) (n102 + 1) v99 v100 = some r := h
    rw [z2s] at h
    refine cs (cs (cr [0, 1] rfl (q1 rfl (z0 (mv rfl)) (q1 rfl (z98 (mv rfl) ct) (rn (al [1, 4, 5, 11, 12, 14, 15, 76] [0, 1, 2] rfl rfl rfl (sq ?_)))))))
    refine cI h rfl (fun c103 h => ?_) (fun c103 h => ?_)
    ·
     refine z2.skip (al [1, 4, 5, 11, 12, 14, 15] [0, 1, 2] rfl rfl rfl (sq (cs (z2.block (cr [0, 1, 2, 3, 4, 5, 6, 7] rfl (q1 rfl (z0 (mv rfl)) (q1 rfl (z0 (mv rfl)) (q1 rfl (z0 (mv rfl)) (ckE h fun h104 h => q1 rfl (z0k (ix37 H) (mv rfl) (mv rfl) (h104).1 (za h104)) (q1 rfl (ln (tl48 H) (Pt.rop (mv rfl)) rfl) ?_))))))))))
     refine n1 rfl (z1n (e := zd) [(gt v2 v99)] (sl37 H) z60 rfl (by decide) ⟨rfl, (Ce.agg (mv rfl)), trivial⟩ fun sv105 => ckE h fun h106 h => n1 rfl (z9g 2 (l := v100) (m := [(gt v2 v99)]) (sl37 H) z60 (mv rfl) rfl (Src.row 3 (mv rfl) rfl) h106 (z92 (by decide) h106) fun sv107 => q1 rfl (z1 (mv rfl)) (rn (AtX.in_normal (al [1, 4, 5, 11, 12, 14, 15] [0, 1, 2] rfl rfl rfl (sq (cr [0, 1, 2] rfl (q1 rfl (z0 (mv rfl)) (q1 rfl (z2l (mv rfl) ct) (q1 rfl (z1 (mv rfl)) ?_))))))))))
     refine rn ?_
     exact AtX.to (ih102 ((W (v99 - 1)), (v100 ++ [(gt v2 v99)]), sv107) h) [0, 1, 2] (sl rfl) (ol rfl) rfl
    ·
     refine z2.exit (AtX.then_exit (AtX.then_exit (AtX.in_hit ?_)))
     exact AtX.to (hJ31 (v100, sv101) h) [0, 1, 2] (sl rfl) (ol rfl) rfl
end Px
end
section
namespace Px
open Go Go.RowKit
theorem zto {H : Type} {enc : TypeId × Value → H} {P : Program} {W : World} {sp : Nat → Bool} {held : Bool} {base : Nat} {α : Type} {t : TypeId} {A : α → VP} {R : α → Prop} {v : Value} {d : DataW H} {p : List MemPlace}
    (hu : (match P.underlying t with | some (.slice _) => true | _ => false) = true) (ho : Opn P t 1 (fun y => [A y]) R) (hv : Value.okWide P W .any base t v) (h : DataW.Trod enc P W 0 sp held t v d p) : ∃ y, R y ∧ (A y).h (fun b => b < W.heap.size) W v := by
  obtain ⟨fuel, hf⟩ := h
  obtain ⟨_, y, hR, hc⟩ := ho _ _ _ _ _ _ _ _ hf
  unfold Value.okWide at hv
  split at hu
  · rename_i fs hus
    rw [hus] at hv
    have hcell : v.cells.toList = [v] := by
      cases v <;> first | rfl | (exfalso; simp [Cell.okWide, Cell.ok, hus] at hv)
    rw [hcell] at hc
    obtain ⟨u, hu', hA, _⟩ := hc.2 0 (A y) rfl
    simp at hu'
    subst hu'
    exact ⟨y, hR, hA⟩
  · cases hu
end Px
end
section
set_option linter.unusedVariables false
set_option linter.unusedSimpArgs false
set_option maxHeartbeats 4000000
set_option maxRecDepth 100000
namespace Px
open Go Go.RowKit Go.Proofs
def zq3 (x : z7m) : Prop := RI .i64 x.fKind ∧ RI .i64 x.fRailway ∧ RI .i64 x.fOther ∧ True
def zuh (x : Edge) : Prop := RI .i64 x.fA ∧ RI .i64 x.fB ∧ RI .i64 x.fRailway ∧ RI .i64 x.fMinutes ∧ RI .i64 x.fKm ∧ True
def zkb (x : z8c) : Prop := (RL (zq3)) x.fPlaces ∧ (RL (zuh)) x.fEdges ∧ True
def zgw (x : z6d) : Prop := RI .i64 x.fLoad ∧ RI .i64 x.fTare ∧ RI .i64 x.fLength ∧ RI .i64 x.fGauge ∧ RI .i64 x.fBrake ∧ RI .u64 x.fClasses ∧ RI .i64 x.fLife ∧ RI .i64 x.fFloor ∧ True
def zpg (x : zca) : Prop := RI .i64 x.fType ∧ RI .i64 x.fOwner ∧ RI .i64 x.fHome ∧ RI .i64 x.fBuilt ∧ RI .i64 x.fWorth ∧ True
def zt9 (x : Swap) : Prop := RI .i64 x.fWanted ∧ RI .i64 x.fGiven ∧ RI .i64 x.fCost ∧ True
def ztv (x : Wash) : Prop := RI .i64 x.fFrom ∧ RI .i64 x.fTo ∧ RI .i64 x.fMinutes ∧ True
def zp4 (x : z8w) : Prop := (RL (zgw)) x.fTypes ∧ (RL (zpg)) x.fWagons ∧ (RL (zt9)) x.fSwaps ∧ (RL (ztv)) x.fWashes ∧ True
def zlp (x : zcu) : Prop := RI .i64 x.fPlace ∧ RI .i64 x.fLow ∧ RI .i64 x.fHigh ∧ True
def zkp (x : zar) : Prop := RI .i64 x.fPlace ∧ True
def zuu (x : Span) : Prop := RI .i64 x.fFrom ∧ RI .i64 x.fTo ∧ True
def zi7 (x : z3e) : Prop := (fun f => ∀ i, i < 7 → (zuu) (f i)) x.fOpen ∧ (RL (RI .i64)) x.fHolidays ∧ True
def ze0 (x : z2j) : Prop := RI .u64 x.fKey ∧ zi7 x.fCalendar ∧ True
def zvl (x : Pool) : Prop := zkb x.fNetwork ∧ zp4 x.fFleet ∧ (RL (zlp)) x.fReaders ∧ (RL (zkp)) x.fShippers ∧ (RL (ze0)) x.fRailways ∧ True
def RRef (x : Ref) : Prop := RI .i64 x.fRailway ∧ RI .i64 x.fNo ∧ True
def zt4 (x : Part) : Prop := RI .i64 x.fKind ∧ RI .i64 x.fSerial ∧ (fun (_ : Bool) => True) x.fFitted ∧ True
def zsq (x : Item) : Prop := RI .i64 x.fKind ∧ RRef x.fRef ∧ RI .i64 x.fWagon ∧ RI .i64 x.fPlace ∧ RI .i64 x.fOther ∧ RI .i64 x.fNumber ∧ RI .i64 x.fFrom ∧ RI .i64 x.fTo ∧ RI .i64 x.fCode ∧ RI .i64 x.fDest ∧ RI .i64 x.fClass ∧ RI .i64 x.fWeight ∧ RI .i64 x.fAmount ∧ (fun (s : ByteArray) => s.size ≤ maxLen) x.fText ∧ (RL (zt4)) x.fParts ∧ True
def zrx (x : zb) : Prop := RRef x.fRef ∧ RRef x.fBy ∧ RI .i64 x.fTime ∧ zsq x.fItem ∧ True
theorem ou3 {P : Program} (H : P = Try.prog) : P.underlying 3 = some (.int .i64) := by subst H; kernel_rfl
theorem of68 {P : Program} (H : P = Try.prog) : z74 P 68 = some [(3, 0, 1), (3, 1, 1), (3, 2, 1)] := by subst H; kernel_rfl
theorem oc68 {P : Program} (H : P = Try.prog) : P.cellsOf 68 = 3 := by subst H; kernel_rfl
theorem ou22 {P : Program} (H : P = Try.prog) : P.underlying 22 = some (.slice 68) := by subst H; kernel_rfl
theorem zv5 {P : Program} (H : P = Try.prog) : z74 P 124 = some [(3, 0, 1), (3, 1, 1), (3, 2, 1), (3, 3, 1), (3, 4, 1)] := by subst H; kernel_rfl
theorem zub {P : Program} (H : P = Try.prog) : P.cellsOf 124 = 5 := by subst H; kernel_rfl
theorem ou23 {P : Program} (H : P = Try.prog) : P.underlying 23 = some (.slice 124) := by subst H; kernel_rfl
theorem of25 {P : Program} (H : P = Try.prog) : z74 P 25 = some [(22, 0, 1), (23, 1, 1)] := by subst H; kernel_rfl
theorem oc25 {P : Program} (H : P = Try.prog) : P.cellsOf 25 = 2 := by subst H; kernel_rfl
theorem ou41 {P : Program} (H : P = Try.prog) : P.underlying 41 = some (.int .u64) := by subst H; kernel_rfl
theorem zva {P : Program} (H : P = Try.prog) : z74 P 114 = some [(3, 0, 1), (3, 1, 1), (3, 2, 1), (3, 3, 1), (3, 4, 1), (41, 5, 1), (3, 6, 1), (3, 7, 1)] := by subst H; kernel_rfl
theorem zu6 {P : Program} (H : P = Try.prog) : P.cellsOf 114 = 8 := by subst H; kernel_rfl
theorem ou26 {P : Program} (H : P = Try.prog) : P.underlying 26 = some (.slice 114) := by subst H; kernel_rfl
theorem of66 {P : Program} (H : P = Try.prog) : z74 P 66 = some [(3, 0, 1), (3, 1, 1), (3, 2, 1), (3, 3, 1), (3, 4, 1)] := by subst H; kernel_rfl
theorem oc66 {P : Program} (H : P = Try.prog) : P.cellsOf 66 = 5 := by subst H; kernel_rfl
theorem ou27 {P : Program} (H : P = Try.prog) : P.underlying 27 = some (.slice 66) := by subst H; kernel_rfl
theorem zvc {P : Program} (H : P = Try.prog) : z74 P 133 = some [(3, 0, 1), (3, 1, 1), (3, 2, 1)] := by subst H; kernel_rfl
theorem ztg {P : Program} (H : P = Try.prog) : P.cellsOf 133 = 3 := by subst H; kernel_rfl
theorem ou28 {P : Program} (H : P = Try.prog) : P.underlying 28 = some (.slice 133) := by subst H; kernel_rfl
theorem zv8 {P : Program} (H : P = Try.prog) : z74 P 149 = some [(3, 0, 1), (3, 1, 1), (3, 2, 1)] := by subst H; kernel_rfl
theorem zuc {P : Program} (H : P = Try.prog) : P.cellsOf 149 = 3 := by subst H; kernel_rfl
theorem ou29 {P : Program} (H : P = Try.prog) : P.underlying 29 = some (.slice 149) := by subst H; kernel_rfl
theorem of31 {P : Program} (H : P = Try.prog) : z74 P 31 = some [(26, 0, 1), (27, 1, 1), (28, 2, 1), (29, 3, 1)] := by subst H; kernel_rfl
theorem oc31 {P : Program} (H : P = Try.prog) : P.cellsOf 31 = 4 := by subst H; kernel_rfl
theorem zv0 {P : Program} (H : P = Try.prog) : z74 P 119 = some [(3, 0, 1), (3, 1, 1), (3, 2, 1)] := by subst H; kernel_rfl
theorem zuy {P : Program} (H : P = Try.prog) : P.cellsOf 119 = 3 := by subst H; kernel_rfl
theorem ou32 {P : Program} (H : P = Try.prog) : P.underlying 32 = some (.slice 119) := by subst H; kernel_rfl
theorem zvy {P : Program} (H : P = Try.prog) : z74 P 122 = some [(3, 0, 1)] := by subst H; kernel_rfl
theorem zu0 {P : Program} (H : P = Try.prog) : P.cellsOf 122 = 1 := by subst H; kernel_rfl
theorem ou33 {P : Program} (H : P = Try.prog) : P.underlying 33 = some (.slice 122) := by subst H; kernel_rfl
theorem of62 {P : Program} (H : P = Try.prog) : z74 P 62 = some [(3, 0, 1), (3, 1, 1)] := by subst H; kernel_rfl
theorem oc62 {P : Program} (H : P = Try.prog) : P.cellsOf 62 = 2 := by subst H; kernel_rfl
theorem zvu {P : Program} (H : P = Try.prog) : P.underlying 103 = some (.array 7 62) := by subst H; kernel_rfl
theorem zvj {P : Program} (H : P = Try.prog) : P.cellsOf 103 = 14 := by subst H; kernel_rfl
theorem ou96 {P : Program} (H : P = Try.prog) : P.underlying 96 = some (.slice 3) := by subst H; kernel_rfl
theorem oc3 {P : Program} (H : P = Try.prog) : P.cellsOf 3 = 1 := by subst H; kernel_rfl
theorem zvx {P : Program} (H : P = Try.prog) : z74 P 105 = some [(103, 0, 14), (96, 14, 1)] := by subst H; kernel_rfl
theorem zvo {P : Program} (H : P = Try.prog) : P.cellsOf 105 = 15 := by subst H; kernel_rfl
theorem zw0 {P : Program} (H : P = Try.prog) : z74 P 107 = some [(41, 0, 1), (105, 1, 15)] := by subst H; kernel_rfl
theorem zum {P : Program} (H : P = Try.prog) : P.cellsOf 107 = 16 := by subst H; kernel_rfl
theorem ou34 {P : Program} (H : P = Try.prog) : P.underlying 34 = some (.slice 107) := by subst H; kernel_rfl
theorem of36 {P : Program} (H : P = Try.prog) : z74 P 36 = some [(25, 0, 2), (31, 2, 4), (32, 6, 1), (33, 7, 1), (34, 8, 1)] := by subst H; kernel_rfl
theorem oc36 {P : Program} (H : P = Try.prog) : P.cellsOf 36 = 9 := by subst H; kernel_rfl
theorem of43 {P : Program} (H : P = Try.prog) : z74 P 43 = some [(3, 0, 1), (3, 1, 1)] := by subst H; kernel_rfl
theorem oc43 {P : Program} (H : P = Try.prog) : P.cellsOf 43 = 2 := by subst H; kernel_rfl
theorem ou9 {P : Program} (H : P = Try.prog) : P.underlying 9 = some .string := by subst H; kernel_rfl
theorem ou4 {P : Program} (H : P = Try.prog) : P.underlying 4 = some .bool := by subst H; kernel_rfl
theorem zvk {P : Program} (H : P = Try.prog) : z74 P 163 = some [(3, 0, 1), (3, 1, 1), (4, 2, 1)] := by subst H; kernel_rfl
theorem zsm {P : Program} (H : P = Try.prog) : P.cellsOf 163 = 3 := by subst H; kernel_rfl
theorem ou44 {P : Program} (H : P = Try.prog) : P.underlying 44 = some (.slice 163) := by subst H; kernel_rfl
theorem of46 {P : Program} (H : P = Try.prog) : z74 P 46 = some [(3, 0, 1), (43, 1, 2), (3, 3, 1), (3, 4, 1), (3, 5, 1), (3, 6, 1), (3, 7, 1), (3, 8, 1), (3, 9, 1), (3, 10, 1), (3, 11, 1), (3, 12, 1), (3, 13, 1), (9, 14, 1), (44, 15, 1)] := by subst H; kernel_rfl
theorem oc46 {P : Program} (H : P = Try.prog) : P.cellsOf 46 = 16 := by subst H; kernel_rfl
theorem of48 {P : Program} (H : P = Try.prog) : z74 P 48 = some [(43, 0, 2), (43, 2, 2), (3, 4, 1), (46, 5, 16)] := by subst H; kernel_rfl
theorem oc48 {P : Program} (H : P = Try.prog) : P.cellsOf 48 = 21 := by subst H; kernel_rfl
theorem ou37 {P : Program} (H : P = Try.prog) : P.underlying 37 = some (.slice 48) := by subst H; kernel_rfl
theorem zoe {P : Program} (H : P = Try.prog) : Opn P 68 3 z5j zq3 := by
  intro H' enc w sp held fuel cs x h
  obtain ⟨hl, m, hf⟩ := z3h (of68 H) h
  replace hl : cs.length = 3 := hl.trans (oc68 H)
  obtain ⟨x0, h0⟩ := hf 0 _ _ _ rfl
  obtain ⟨_, y0, r0, c0⟩ := (Opn.int (ou3 H)) _ _ _ _ _ _ _ _ h0
  obtain ⟨x1, h1⟩ := hf 1 _ _ _ rfl
  obtain ⟨_, y1, r1, c1⟩ := (Opn.int (ou3 H)) _ _ _ _ _ _ _ _ h1
  obtain ⟨x2, h2⟩ := hf 2 _ _ _ rfl
  obtain ⟨_, y2, r2, c2⟩ := (Opn.int (ou3 H)) _ _ _ _ _ _ _ _ h2
  exact ⟨hl, ⟨y0, y1, y2⟩, ⟨r0, r1, r2, trivial⟩, zf.tile c0 (zf.tile c1 (zf.tile c2 (zf.tile0 hl)))⟩
theorem zqx {P : Program} (H : P = Try.prog) : Opn P 124 5 za3 zuh := by
  intro H' enc w sp held fuel cs x h
  obtain ⟨hl, m, hf⟩ := z3h (zv5 H) h
  replace hl : cs.length = 5 := hl.trans (zub H)
  obtain ⟨x0, h0⟩ := hf 0 _ _ _ rfl
  obtain ⟨_, y0, r0, c0⟩ := (Opn.int (ou3 H)) _ _ _ _ _ _ _ _ h0
  obtain ⟨x1, h1⟩ := hf 1 _ _ _ rfl
  obtain ⟨_, y1, r1, c1⟩ := (Opn.int (ou3 H)) _ _ _ _ _ _ _ _ h1
  obtain ⟨x2, h2⟩ := hf 2 _ _ _ rfl
  obtain ⟨_, y2, r2, c2⟩ := (Opn.int (ou3 H)) _ _ _ _ _ _ _ _ h2
  obtain ⟨x3, h3⟩ := hf 3 _ _ _ rfl
  obtain ⟨_, y3, r3, c3⟩ := (Opn.int (ou3 H)) _ _ _ _ _ _ _ _ h3
  obtain ⟨x4, h4⟩ := hf 4 _ _ _ rfl
  obtain ⟨_, y4, r4, c4⟩ := (Opn.int (ou3 H)) _ _ _ _ _ _ _ _ h4
  exact ⟨hl, ⟨y0, y1, y2, y3, y4⟩, ⟨r0, r1, r2, r3, r4, trivial⟩, zf.tile c0 (zf.tile c1 (zf.tile c2 (zf.tile c3 (zf.tile c4 (zf.tile0 hl)))))⟩
theorem zlm {P : Program} (H : P = Try.prog) : Opn P 25 2 zcq zkb := by
  intro H' enc w sp held fuel cs x h
  obtain ⟨hl, m, hf⟩ := z3h (of25 H) h
  replace hl : cs.length = 2 := hl.trans (oc25 H)
  obtain ⟨x0, h0⟩ := hf 0 _ _ _ rfl
  obtain ⟨_, y0, r0, c0⟩ := (Opn.slice (ou22 H) (oc68 H) (by decide) (zoe H)) _ _ _ _ _ _ _ _ h0
  obtain ⟨x1, h1⟩ := hf 1 _ _ _ rfl
  obtain ⟨_, y1, r1, c1⟩ := (Opn.slice (ou23 H) (zub H) (by decide) (zqx H)) _ _ _ _ _ _ _ _ h1
  exact ⟨hl, ⟨y0, y1⟩, ⟨r0, r1, trivial⟩, zf.tile c0 (zf.tile c1 (zf.tile0 hl))⟩
theorem zi3 {P : Program} (H : P = Try.prog) : Opn P 114 8 z17 zgw := by
  intro H' enc w sp held fuel cs x h
  obtain ⟨hl, m, hf⟩ := z3h (zva H) h
  replace hl : cs.length = 8 := hl.trans (zu6 H)
  obtain ⟨x0, h0⟩ := hf 0 _ _ _ rfl
  obtain ⟨_, y0, r0, c0⟩ := (Opn.int (ou3 H)) _ _ _ _ _ _ _ _ h0
  obtain ⟨x1, h1⟩ := hf 1 _ _ _ rfl
  obtain ⟨_, y1, r1, c1⟩ := (Opn.int (ou3 H)) _ _ _ _ _ _ _ _ h1
  obtain ⟨x2, h2⟩ := hf 2 _ _ _ rfl
  obtain ⟨_, y2, r2, c2⟩ := (Opn.int (ou3 H)) _ _ _ _ _ _ _ _ h2
  obtain ⟨x3, h3⟩ := hf 3 _ _ _ rfl
  obtain ⟨_, y3, r3, c3⟩ := (Opn.int (ou3 H)) _ _ _ _ _ _ _ _ h3
  obtain ⟨x4, h4⟩ := hf 4 _ _ _ rfl
  obtain ⟨_, y4, r4, c4⟩ := (Opn.int (ou3 H)) _ _ _ _ _ _ _ _ h4
  obtain ⟨x5, h5⟩ := hf 5 _ _ _ rfl
  obtain ⟨_, y5, r5, c5⟩ := (Opn.int (ou41 H)) _ _ _ _ _ _ _ _ h5
  obtain ⟨x6, h6⟩ := hf 6 _ _ _ rfl
  obtain ⟨_, y6, r6, c6⟩ := (Opn.int (ou3 H)) _ _ _ _ _ _ _ _ h6
  obtain ⟨x7, h7⟩ := hf 7 _ _ _ rfl
  obtain ⟨_, y7, r7, c7⟩ := (Opn.int (ou3 H)) _ _ _ _ _ _ _ _ h7
  exact ⟨hl, ⟨y0, y1, y2, y3, y4, y5, y6, y7⟩, ⟨r0, r1, r2, r3, r4, r5, r6, r7, trivial⟩, zf.tile c0 (zf.tile c1 (zf.tile c2 (zf.tile c3 (zf.tile c4 (zf.tile c5 (zf.tile c6 (zf.tile c7 (zf.tile0 hl))))))))⟩
theorem zoz {P : Program} (H : P = Try.prog) : Opn P 66 5 z6e zpg := by
  intro H' enc w sp held fuel cs x h
  obtain ⟨hl, m, hf⟩ := z3h (of66 H) h
  replace hl : cs.length = 5 := hl.trans (oc66 H)
  obtain ⟨x0, h0⟩ := hf 0 _ _ _ rfl
  obtain ⟨_, y0, r0, c0⟩ := (Opn.int (ou3 H)) _ _ _ _ _ _ _ _ h0
  obtain ⟨x1, h1⟩ := hf 1 _ _ _ rfl
  obtain ⟨_, y1, r1, c1⟩ := (Opn.int (ou3 H)) _ _ _ _ _ _ _ _ h1
  obtain ⟨x2, h2⟩ := hf 2 _ _ _ rfl
  obtain ⟨_, y2, r2, c2⟩ := (Opn.int (ou3 H)) _ _ _ _ _ _ _ _ h2
  obtain ⟨x3, h3⟩ := hf 3 _ _ _ rfl
  obtain ⟨_, y3, r3, c3⟩ := (Opn.int (ou3 H)) _ _ _ _ _ _ _ _ h3
  obtain ⟨x4, h4⟩ := hf 4 _ _ _ rfl
  obtain ⟨_, y4, r4, c4⟩ := (Opn.int (ou3 H)) _ _ _ _ _ _ _ _ h4
  exact ⟨hl, ⟨y0, y1, y2, y3, y4⟩, ⟨r0, r1, r2, r3, r4, trivial⟩, zf.tile c0 (zf.tile c1 (zf.tile c2 (zf.tile c3 (zf.tile c4 (zf.tile0 hl)))))⟩
theorem zr3 {P : Program} (H : P = Try.prog) : Opn P 133 3 z9x zt9 := by
  intro H' enc w sp held fuel cs x h
  obtain ⟨hl, m, hf⟩ := z3h (zvc H) h
  replace hl : cs.length = 3 := hl.trans (ztg H)
  obtain ⟨x0, h0⟩ := hf 0 _ _ _ rfl
  obtain ⟨_, y0, r0, c0⟩ := (Opn.int (ou3 H)) _ _ _ _ _ _ _ _ h0
  obtain ⟨x1, h1⟩ := hf 1 _ _ _ rfl
  obtain ⟨_, y1, r1, c1⟩ := (Opn.int (ou3 H)) _ _ _ _ _ _ _ _ h1
  obtain ⟨x2, h2⟩ := hf 2 _ _ _ rfl
  obtain ⟨_, y2, r2, c2⟩ := (Opn.int (ou3 H)) _ _ _ _ _ _ _ _ h2
  exact ⟨hl, ⟨y0, y1, y2⟩, ⟨r0, r1, r2, trivial⟩, zf.tile c0 (zf.tile c1 (zf.tile c2 (zf.tile0 hl)))⟩
theorem zrs {P : Program} (H : P = Try.prog) : Opn P 149 3 z9c ztv := by
  intro H' enc w sp held fuel cs x h
  obtain ⟨hl, m, hf⟩ := z3h (zv8 H) h
  replace hl : cs.length = 3 := hl.trans (zuc H)
  obtain ⟨x0, h0⟩ := hf 0 _ _ _ rfl
  obtain ⟨_, y0, r0, c0⟩ := (Opn.int (ou3 H)) _ _ _ _ _ _ _ _ h0
  obtain ⟨x1, h1⟩ := hf 1 _ _ _ rfl
  obtain ⟨_, y1, r1, c1⟩ := (Opn.int (ou3 H)) _ _ _ _ _ _ _ _ h1
  obtain ⟨x2, h2⟩ := hf 2 _ _ _ rfl
  obtain ⟨_, y2, r2, c2⟩ := (Opn.int (ou3 H)) _ _ _ _ _ _ _ _ h2
  exact ⟨hl, ⟨y0, y1, y2⟩, ⟨r0, r1, r2, trivial⟩, zf.tile c0 (zf.tile c1 (zf.tile c2 (zf.tile0 hl)))⟩
theorem zot {P : Program} (H : P = Try.prog) : Opn P 31 4 z83 zp4 := by
  intro H' enc w sp held fuel cs x h
  obtain ⟨hl, m, hf⟩ := z3h (of31 H) h
  replace hl : cs.length = 4 := hl.trans (oc31 H)
  obtain ⟨x0, h0⟩ := hf 0 _ _ _ rfl
  obtain ⟨_, y0, r0, c0⟩ := (Opn.slice (ou26 H) (zu6 H) (by decide) (zi3 H)) _ _ _ _ _ _ _ _ h0
  obtain ⟨x1, h1⟩ := hf 1 _ _ _ rfl
  obtain ⟨_, y1, r1, c1⟩ := (Opn.slice (ou27 H) (oc66 H) (by decide) (zoz H)) _ _ _ _ _ _ _ _ h1
  obtain ⟨x2, h2⟩ := hf 2 _ _ _ rfl
  obtain ⟨_, y2, r2, c2⟩ := (Opn.slice (ou28 H) (ztg H) (by decide) (zr3 H)) _ _ _ _ _ _ _ _ h2
  obtain ⟨x3, h3⟩ := hf 3 _ _ _ rfl
  obtain ⟨_, y3, r3, c3⟩ := (Opn.slice (ou29 H) (zuc H) (by decide) (zrs H)) _ _ _ _ _ _ _ _ h3
  exact ⟨hl, ⟨y0, y1, y2, y3⟩, ⟨r0, r1, r2, r3, trivial⟩, zf.tile c0 (zf.tile c1 (zf.tile c2 (zf.tile c3 (zf.tile0 hl))))⟩
theorem zna {P : Program} (H : P = Try.prog) : Opn P 119 3 z7b zlp := by
  intro H' enc w sp held fuel cs x h
  obtain ⟨hl, m, hf⟩ := z3h (zv0 H) h
  replace hl : cs.length = 3 := hl.trans (zuy H)
  obtain ⟨x0, h0⟩ := hf 0 _ _ _ rfl
  obtain ⟨_, y0, r0, c0⟩ := (Opn.int (ou3 H)) _ _ _ _ _ _ _ _ h0
  obtain ⟨x1, h1⟩ := hf 1 _ _ _ rfl
  obtain ⟨_, y1, r1, c1⟩ := (Opn.int (ou3 H)) _ _ _ _ _ _ _ _ h1
  obtain ⟨x2, h2⟩ := hf 2 _ _ _ rfl
  obtain ⟨_, y2, r2, c2⟩ := (Opn.int (ou3 H)) _ _ _ _ _ _ _ _ h2
  exact ⟨hl, ⟨y0, y1, y2⟩, ⟨r0, r1, r2, trivial⟩, zf.tile c0 (zf.tile c1 (zf.tile c2 (zf.tile0 hl)))⟩
theorem zld {P : Program} (H : P = Try.prog) : Opn P 122 1 z64 zkp := by
  intro H' enc w sp held fuel cs x h
  obtain ⟨hl, m, hf⟩ := z3h (zvy H) h
  replace hl : cs.length = 1 := hl.trans (zu0 H)
  obtain ⟨x0, h0⟩ := hf 0 _ _ _ rfl
  obtain ⟨_, y0, r0, c0⟩ := (Opn.int (ou3 H)) _ _ _ _ _ _ _ _ h0
  exact ⟨hl, ⟨y0⟩, ⟨r0, trivial⟩, zf.tile c0 (zf.tile0 hl)⟩
theorem zs7 {P : Program} (H : P = Try.prog) : Opn P 62 2 zis zuu := by
  intro H' enc w sp held fuel cs x h
  obtain ⟨hl, m, hf⟩ := z3h (of62 H) h
  replace hl : cs.length = 2 := hl.trans (oc62 H)
  obtain ⟨x0, h0⟩ := hf 0 _ _ _ rfl
  obtain ⟨_, y0, r0, c0⟩ := (Opn.int (ou3 H)) _ _ _ _ _ _ _ _ h0
  obtain ⟨x1, h1⟩ := hf 1 _ _ _ rfl
  obtain ⟨_, y1, r1, c1⟩ := (Opn.int (ou3 H)) _ _ _ _ _ _ _ _ h1
  exact ⟨hl, ⟨y0, y1⟩, ⟨r0, r1, trivial⟩, zf.tile c0 (zf.tile c1 (zf.tile0 hl))⟩
theorem zjc {P : Program} (H : P = Try.prog) : Opn P 105 15 z8h zi7 := by
  intro H' enc w sp held fuel cs x h
  obtain ⟨hl, m, hf⟩ := z3h (zvx H) h
  replace hl : cs.length = 15 := hl.trans (zvo H)
  obtain ⟨x0, h0⟩ := hf 0 _ _ _ rfl
  obtain ⟨_, y0, r0, c0⟩ := (Opn.array (zvu H) (oc62 H) (zvj H) rfl (zs7 H)) _ _ _ _ _ _ _ _ h0
  obtain ⟨x1, h1⟩ := hf 1 _ _ _ rfl
  obtain ⟨_, y1, r1, c1⟩ := (Opn.slice (ou96 H) (oc3 H) (by decide) (Opn.int (ou3 H))) _ _ _ _ _ _ _ _ h1
  exact ⟨hl, ⟨y0, y1⟩, ⟨r0, r1, trivial⟩, zf.of_eq (zf.tile c0 (zf.tile c1 (zf.tile0 hl))) (by simp [z8h])⟩
theorem zga {P : Program} (H : P = Try.prog) : Opn P 107 16 z1b ze0 := by
  intro H' enc w sp held fuel cs x h
  obtain ⟨hl, m, hf⟩ := z3h (zw0 H) h
  replace hl : cs.length = 16 := hl.trans (zum H)
  obtain ⟨x0, h0⟩ := hf 0 _ _ _ rfl
  obtain ⟨_, y0, r0, c0⟩ := (Opn.int (ou41 H)) _ _ _ _ _ _ _ _ h0
  obtain ⟨x1, h1⟩ := hf 1 _ _ _ rfl
  obtain ⟨_, y1, r1, c1⟩ := (zjc H) _ _ _ _ _ _ _ _ h1
  exact ⟨hl, ⟨y0, y1⟩, ⟨r0, r1, trivial⟩, zf.of_eq (zf.tile c0 (zf.tile c1 (zf.tile0 hl))) (by simp [z8h, z1b])⟩
theorem zs1 {P : Program} (H : P = Try.prog) : Opn P 36 9 z2w zvl := by
  intro H' enc w sp held fuel cs x h
  obtain ⟨hl, m, hf⟩ := z3h (of36 H) h
  replace hl : cs.length = 9 := hl.trans (oc36 H)
  obtain ⟨x0, h0⟩ := hf 0 _ _ _ rfl
  obtain ⟨_, y0, r0, c0⟩ := (zlm H) _ _ _ _ _ _ _ _ h0
  obtain ⟨x1, h1⟩ := hf 1 _ _ _ rfl
  obtain ⟨_, y1, r1, c1⟩ := (zot H) _ _ _ _ _ _ _ _ h1
  obtain ⟨x2, h2⟩ := hf 2 _ _ _ rfl
  obtain ⟨_, y2, r2, c2⟩ := (Opn.slice (ou32 H) (zuy H) (by decide) (zna H)) _ _ _ _ _ _ _ _ h2
  obtain ⟨x3, h3⟩ := hf 3 _ _ _ rfl
  obtain ⟨_, y3, r3, c3⟩ := (Opn.slice (ou33 H) (zu0 H) (by decide) (zld H)) _ _ _ _ _ _ _ _ h3
  obtain ⟨x4, h4⟩ := hf 4 _ _ _ rfl
  obtain ⟨_, y4, r4, c4⟩ := (Opn.slice (ou34 H) (zum H) (by decide) (zga H)) _ _ _ _ _ _ _ _ h4
  exact ⟨hl, ⟨y0, y1, y2, y3, y4⟩, ⟨r0, r1, r2, r3, r4, trivial⟩, zf.tile c0 (zf.tile c1 (zf.tile c2 (zf.tile c3 (zf.tile c4 (zf.tile0 hl)))))⟩
theorem zmq {P : Program} (H : P = Try.prog) : Opn P 43 2 eRef RRef := by
  intro H' enc w sp held fuel cs x h
  obtain ⟨hl, m, hf⟩ := z3h (of43 H) h
  replace hl : cs.length = 2 := hl.trans (oc43 H)
  obtain ⟨x0, h0⟩ := hf 0 _ _ _ rfl
  obtain ⟨_, y0, r0, c0⟩ := (Opn.int (ou3 H)) _ _ _ _ _ _ _ _ h0
  obtain ⟨x1, h1⟩ := hf 1 _ _ _ rfl
  obtain ⟨_, y1, r1, c1⟩ := (Opn.int (ou3 H)) _ _ _ _ _ _ _ _ h1
  exact ⟨hl, ⟨y0, y1⟩, ⟨r0, r1, trivial⟩, zf.tile c0 (zf.tile c1 (zf.tile0 hl))⟩
theorem zqj {P : Program} (H : P = Try.prog) : Opn P 163 3 z9r zt4 := by
  intro H' enc w sp held fuel cs x h
  obtain ⟨hl, m, hf⟩ := z3h (zvk H) h
  replace hl : cs.length = 3 := hl.trans (zsm H)
  obtain ⟨x0, h0⟩ := hf 0 _ _ _ rfl
  obtain ⟨_, y0, r0, c0⟩ := (Opn.int (ou3 H)) _ _ _ _ _ _ _ _ h0
  obtain ⟨x1, h1⟩ := hf 1 _ _ _ rfl
  obtain ⟨_, y1, r1, c1⟩ := (Opn.int (ou3 H)) _ _ _ _ _ _ _ _ h1
  obtain ⟨x2, h2⟩ := hf 2 _ _ _ rfl
  obtain ⟨_, y2, r2, c2⟩ := (Opn.bool (ou4 H)) _ _ _ _ _ _ _ _ h2
  exact ⟨hl, ⟨y0, y1, y2⟩, ⟨r0, r1, r2, trivial⟩, zf.tile c0 (zf.tile c1 (zf.tile c2 (zf.tile0 hl)))⟩
theorem zrk {P : Program} (H : P = Try.prog) : Opn P 46 16 zbl zsq := by
  intro H' enc w sp held fuel cs x h
  obtain ⟨hl, m, hf⟩ := z3h (of46 H) h
  replace hl : cs.length = 16 := hl.trans (oc46 H)
  obtain ⟨x0, h0⟩ := hf 0 _ _ _ rfl
  obtain ⟨_, y0, r0, c0⟩ := (Opn.int (ou3 H)) _ _ _ _ _ _ _ _ h0
  obtain ⟨x1, h1⟩ := hf 1 _ _ _ rfl
  obtain ⟨_, y1, r1, c1⟩ := (zmq H) _ _ _ _ _ _ _ _ h1
  obtain ⟨x2, h2⟩ := hf 2 _ _ _ rfl
  obtain ⟨_, y2, r2, c2⟩ := (Opn.int (ou3 H)) _ _ _ _ _ _ _ _ h2
  obtain ⟨x3, h3⟩ := hf 3 _ _ _ rfl
  obtain ⟨_, y3, r3, c3⟩ := (Opn.int (ou3 H)) _ _ _ _ _ _ _ _ h3
  obtain ⟨x4, h4⟩ := hf 4 _ _ _ rfl
  obtain ⟨_, y4, r4, c4⟩ := (Opn.int (ou3 H)) _ _ _ _ _ _ _ _ h4
  obtain ⟨x5, h5⟩ := hf 5 _ _ _ rfl
  obtain ⟨_, y5, r5, c5⟩ := (Opn.int (ou3 H)) _ _ _ _ _ _ _ _ h5
  obtain ⟨x6, h6⟩ := hf 6 _ _ _ rfl
  obtain ⟨_, y6, r6, c6⟩ := (Opn.int (ou3 H)) _ _ _ _ _ _ _ _ h6
  obtain ⟨x7, h7⟩ := hf 7 _ _ _ rfl
  obtain ⟨_, y7, r7, c7⟩ := (Opn.int (ou3 H)) _ _ _ _ _ _ _ _ h7
  obtain ⟨x8, h8⟩ := hf 8 _ _ _ rfl
  obtain ⟨_, y8, r8, c8⟩ := (Opn.int (ou3 H)) _ _ _ _ _ _ _ _ h8
  obtain ⟨x9, h9⟩ := hf 9 _ _ _ rfl
  obtain ⟨_, y9, r9, c9⟩ := (Opn.int (ou3 H)) _ _ _ _ _ _ _ _ h9
  obtain ⟨x10, h10⟩ := hf 10 _ _ _ rfl
  obtain ⟨_, y10, r10, c10⟩ := (Opn.int (ou3 H)) _ _ _ _ _ _ _ _ h10
  obtain ⟨x11, h11⟩ := hf 11 _ _ _ rfl
  obtain ⟨_, y11, r11, c11⟩ := (Opn.int (ou3 H)) _ _ _ _ _ _ _ _ h11
  obtain ⟨x12, h12⟩ := hf 12 _ _ _ rfl
  obtain ⟨_, y12, r12, c12⟩ := (Opn.int (ou3 H)) _ _ _ _ _ _ _ _ h12
  obtain ⟨x13, h13⟩ := hf 13 _ _ _ rfl
  obtain ⟨_, y13, r13, c13⟩ := (Opn.string (ou9 H)) _ _ _ _ _ _ _ _ h13
  obtain ⟨x14, h14⟩ := hf 14 _ _ _ rfl
  obtain ⟨_, y14, r14, c14⟩ := (Opn.slice (ou44 H) (zsm H) (by decide) (zqj H)) _ _ _ _ _ _ _ _ h14
  exact ⟨hl, ⟨y0, y1, y2, y3, y4, y5, y6, y7, y8, y9, y10, y11, y12, y13, y14⟩, ⟨r0, r1, r2, r3, r4, r5, r6, r7, r8, r9, r10, r11, r12, r13, r14, trivial⟩, zf.tile c0 (zf.tile c1 (zf.tile c2 (zf.tile c3 (zf.tile c4 (zf.tile c5 (zf.tile c6 (zf.tile c7 (zf.tile c8 (zf.tile c9 (zf.tile c10 (zf.tile c11 (zf.tile c12 (zf.tile c13 (zf.tile c14 (zf.tile0 hl)))))))))))))))⟩
theorem zlz {P : Program} (H : P = Try.prog) : Opn P 48 21 zd zrx := by
  intro H' enc w sp held fuel cs x h
  obtain ⟨hl, m, hf⟩ := z3h (of48 H) h
  replace hl : cs.length = 21 := hl.trans (oc48 H)
  obtain ⟨x0, h0⟩ := hf 0 _ _ _ rfl
  obtain ⟨_, y0, r0, c0⟩ := (zmq H) _ _ _ _ _ _ _ _ h0
  obtain ⟨x1, h1⟩ := hf 1 _ _ _ rfl
  obtain ⟨_, y1, r1, c1⟩ := (zmq H) _ _ _ _ _ _ _ _ h1
  obtain ⟨x2, h2⟩ := hf 2 _ _ _ rfl
  obtain ⟨_, y2, r2, c2⟩ := (Opn.int (ou3 H)) _ _ _ _ _ _ _ _ h2
  obtain ⟨x3, h3⟩ := hf 3 _ _ _ rfl
  obtain ⟨_, y3, r3, c3⟩ := (zrk H) _ _ _ _ _ _ _ _ h3
  exact ⟨hl, ⟨y0, y1, y2, y3⟩, ⟨r0, r1, r2, r3, trivial⟩, zf.tile c0 (zf.tile c1 (zf.tile c2 (zf.tile c3 (zf.tile0 hl))))⟩
end Px
end
section
namespace Px
open Go
set_option linter.unusedVariables false
set_option linter.unusedSimpArgs false
/-- A loop that counts up. -/
theorem zme {σ ρ : Type} (L : Nat → Int → σ → Option ρ) (len : Nat) (Inv : Nat → σ → Prop) (G : Option ρ → Prop)
    (step : ∀ n i s, i < len → Inv i s → (∀ s', Inv (i + 1) s' → G (L n ((i : Int) + 1) s')) → G (L (n + 1) i s))
    (done : ∀ n s, Inv len s → G (L (n + 1) len s)) : ∀ n i s, i ≤ len → Inv i s → len - i < n → G (L n i s) := by
  intro n
  induction n with
  | zero => intro i s _ _ h; omega
  | succ n ih =>
    intro i s hi hI hn
    by_cases h : i = len
    · subst h; exact done n s hI
    · refine step n i s (by omega) hI fun s' hs' => ?_
      have := ih (i + 1) s' (by omega) hs' (by omega)
      simpa using this
/-- The same from the start. -/
theorem z51 {σ ρ : Type} (L : Nat → Int → σ → Option ρ) (len : Nat) (Inv : Nat → σ → Prop) (G : Option ρ → Prop)
    (step : ∀ n i s, i < len → Inv i s → (∀ s', Inv (i + 1) s' → G (L n ((i : Int) + 1) s')) → G (L (n + 1) i s))
    (done : ∀ n s, Inv len s → G (L (n + 1) len s)) (n : Nat) (s : σ) (h : Inv 0 s) (hn : len < n) : G (L n 0 s) := by
  simpa using zme L len Inv G step done n 0 s (Nat.zero_le _) h (by omega)
theorem zvh (x : Int) : W x = if x % 18446744073709551616 ≥ 9223372036854775808 then x % 18446744073709551616 - 18446744073709551616 else x % 18446744073709551616 := by
  simp [W, IntKind.wrap, IntKind.bits, IntKind.signed]
theorem zj5 (x : Int) : U x = x % 18446744073709551616 := by
  simp [U, IntKind.wrap, IntKind.bits, IntKind.signed]
theorem W_id {x : Int} (h : -9223372036854775808 ≤ x) (h' : x ≤ 9223372036854775807) : W x = x := by
  rw [zvh]; split <;> omega
theorem U_id {x : Int} (h : 0 ≤ x) (h' : x ≤ 18446744073709551615) : U x = x := by
  rw [zj5]; omega
theorem zch {α : Type} [Inhabited α] (ok : α → Bool) (l : List α) (i : Nat) (h : i < l.length) : (l.take (i + 1)).all ok = ((l.take i).all ok && ok (gt l (i : Int))) := by
  rw [List.take_succ_eq_append_getElem h, List.all_append]
  simp [gt, h]
theorem zan {α : Type} [Inhabited α] (ok : α → Bool) (l : List α) (i : Nat) (h : i < l.length) : (l.take (i + 1)).any ok = ((l.take i).any ok || ok (gt l (i : Int))) := by
  rw [List.take_succ_eq_append_getElem h, List.any_append]
  simp [gt, h]
theorem z7s {α : Type} [Inhabited α] (l : List α) (i : Nat) (h : i < l.length) : l.take (i + 1) = l.take i ++ [gt l (i : Int)] := by
  rw [List.take_succ_eq_append_getElem h]
  simp [gt, h]
theorem z8e {α : Type} [Inhabited α] {l : List α} {i : Int} (h0 : 0 ≤ i) (h : i < (l.length : Int)) : gt l i ∈ l := by
  have hlt : i.toNat < l.length := by omega
  simp [gt, hlt]
theorem zmo {α : Type} [Inhabited α] {l : List α} {i : Nat} (h : i < l.length) : gt l (i : Int) = l[i] := by
  simp [gt, h]
theorem zlw {α : Type} [Inhabited α] (l : List α) (i : Nat) (h : i < l.length) : l.drop i = gt l (i : Int) :: l.drop (i + 1) := by
  rw [zmo h, List.getElem_cons_drop]
theorem zaz {α : Type} (l : List α) (i : Int) (x : α) : (z1t l i x).length = l.length := by simp [z1t]
theorem zks {α : Type} [Inhabited α] (l : List α) (i j : Int) (x : α) (hi : 0 ≤ i) (h : i < (l.length : Int)) (hj : 0 ≤ j) : gt (z1t l i x) j = if j = i then x else gt l j := by
  unfold gt z1t
  by_cases e : j = i
  · subst e
    have : j.toNat < l.length := by omega
    simp [List.getD, List.getElem?_set, this]
  · have : i.toNat ≠ j.toNat := by omega
    simp [List.getD, List.getElem?_set, this, e]
theorem z5y {α : Type} [Inhabited α] (l m : List α) (j : Int) (h0 : 0 ≤ j) (h : j < (l.length : Int)) : gt (l ++ m) j = gt l j := by
  have : j.toNat < l.length := by omega
  simp [gt, List.getD, List.getElem?_append, this]
theorem z4w {α : Type} [Inhabited α] (l m : List α) (j : Int) (h : (l.length : Int) ≤ j) : gt (l ++ m) j = gt m (j - l.length) := by
  have : ¬ j.toNat < l.length := by omega
  have e : (j - l.length).toNat = j.toNat - l.length := by omega
  simp [gt, List.getD, List.getElem?_append, this, e]
/-- A loop over a list that remembers whether all its elements were in order. -/
theorem zeu {α ρ : Type} [Inhabited α] (L : Nat → Int → Int → Option ρ) (k : Int → Option ρ) (l : List α) (ok : α → Bool)
    (step : ∀ (n i : Nat) (s : Int), i < l.length → L (n + 1) i s = L n ((i : Int) + 1) (bif ok (gt l i) then s else 1)) (done : ∀ n s, L (n + 1) l.length s = k s) :
    ∀ n s, l.length < n → L n 0 s = k (bif l.all ok then s else 1) := by
  intro n s hn
  refine zme L l.length (fun i t => t = bif (l.take i).all ok then s else 1) (fun o => o = k (bif l.all ok then s else 1)) ?_ ?_ n 0 s (Nat.zero_le _) (by simp) (by omega)
  · intro n i t hi ht hs
    rw [step n i t hi]
    refine hs _ ?_
    rw [zch ok l i hi, ht]
    cases (l.take i).all ok <;> cases ok (gt l (i : Int)) <;> simp
  · intro n t ht
    rw [done, ht, List.take_length]
/-- A loop over a list that ends at the first element of a kind. -/
theorem zny {α ρ : Type} [Inhabited α] (L : Nat → Int → Option ρ) (k : Option ρ) (l : List α) (p : α → Bool) (g : α → Option ρ)
    (step : ∀ n i : Nat, i < l.length → L (n + 1) i = bif p (gt l i) then g (gt l i) else L n ((i : Int) + 1)) (done : ∀ n, L (n + 1) l.length = k) :
    ∀ n, l.length < n → L n 0 = match l.find? p with | some x => g x | none => k := by
  intro n hn
  refine z51 (fun n i (_ : Unit) => L n i) l.length (fun i _ => ∀ x ∈ l.take i, p x = false) (fun o => o = match l.find? p with | some x => g x | none => k) ?_ ?_ n () (by simp) hn
  · intro n i _ hi hI hs
    simp only [step n i hi]
    cases e : p (gt l (i : Int)) with
    | false =>
      refine hs () ?_
      rw [z7s l i hi]
      intro x hx
      rcases List.mem_append.1 hx with h | h
      · exact hI x h
      · simp at h; rw [h]; exact e
    | true =>
      have : l.find? p = some (gt l (i : Int)) := by
        have h1 : l = l.take i ++ (gt l (i : Int) :: l.drop (i + 1)) := by
          rw [zmo hi, List.getElem_cons_drop, List.take_append_drop]
        generalize gt l (i : Int) = y at *
        rw [h1, List.find?_append, List.find?_eq_none.2 (fun x hx => by simp [hI x hx])]
        simp [List.find?_cons, e]
      rw [this]; rfl
  · intro n _ hI
    simp only [done]
    rw [List.take_length] at hI
    rw [List.find?_eq_none.2 (fun x hx => by simp [hI x hx])]
theorem zol {α ρ : Type} (l : List α) (p : α → Bool) (r k : ρ) : (match l.find? p with | some _ => r | none => k) = bif l.any p then r else k := by
  induction l with
  | nil => rfl
  | cons x l ih =>
    rw [List.find?_cons, List.any_cons]
    cases p x
    · simpa using ih
    · rfl
theorem zk9 {α ρ : Type} [Inhabited α] (L : Nat → Int → Option ρ) (k r : Option ρ) (l : List α) (p : α → Bool)
    (step : ∀ n i : Nat, i < l.length → L (n + 1) i = bif p (gt l i) then r else L n ((i : Int) + 1)) (done : ∀ n, L (n + 1) l.length = k)
    (n : Nat) (hn : l.length < n) : L n 0 = bif l.any p then r else k := by
  rw [zny L k l p (fun _ => r) step done n hn, zol]
def bet (a b c : Int) : Bool := decide (b ≤ a) && decide (a ≤ c)
theorem zhi {a b c : Int} : bet a b c = true ↔ b ≤ a ∧ a ≤ c := by simp [bet]
theorem zr0 {a b c : Int} (h : bet a b c = true) : b ≤ a ∧ a ≤ c := zhi.1 h
theorem zcp {a b : Bool} : (a || b) = false ↔ a = false ∧ b = false := by cases a <;> cases b <;> simp
theorem zrr {x y z : Int} : min2 x y < z ↔ x < z ∨ y < z := by unfold min2; split <;> omega
end Px
end
