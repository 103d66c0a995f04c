/- A part of the proof of handoverPairs_holds. Conditions: none. -/
import Derived.Test.YteljjchaealkoaaPrd
section
set_option linter.unusedVariables false
set_option linter.unusedSimpArgs false
set_option maxHeartbeats 4000000
set_option maxRecDepth 100000
namespace Px
open Go Go.RowKit Go.Proofs
theorem za1 {P : Program} (H : P = Try.prog) (φ : Nat) (v1 : (List z4)) (v3 : Int) (y4 : (z4 → z4 → Option Int)) (sv2 : Value) (r : (List z4)) (h : z4e φ v1 v3 y4 = some r) : MutT P 55 [(eqv sv2), (iv .i64 v3), (fcmp P (fun x => (agg (z6 x))) y4)] 70 z6 10 v1 sv2 (fun x l' => x = eqv (.tuple #[]) ∧ r = l') := by
 unfold z4e at h
 refine MutT.of_code 63 (fn55 H) rfl rfl (Nat.le_of_ble_eq_true rfl) fun w0 base r0 wI => ?_
 refine cl [0, 1, 2] [0] rfl rfl rfl (cs (cr [0] rfl (q1 rfl (z1 ct) (rn (al [0, 1, 2, 6] [0] rfl rfl rfl (sq (cs (cr [0, 1, 2] rfl (q1 rfl (z0 (mv rfl)) (q1 rfl (z1 ct) (q1 rfl (z1 (mv rfl)) ?_)))))))))))
 refine rn (al [0, 1, 2, 6, 7, 8] [0] rfl rfl rfl (sq (cs ?_)))
 refine z2.join (fun z : Int × (List z4) => (z02 φ v3 y4) z.1 z.2) r (fun z => ⟨zd.of [(0, (eqv sv2)), (1, (iv .i64 v3)), (2, (fcmp P (fun x => (agg (z6 x))) y4)), (6, (iv .i64 20)), (7, (iv .i64 z.1))], [(row 70 z6 10 z.2 sv2)]⟩) (fun z h => ?_) (fun hJ7 => ?_)
 ·
  obtain ⟨v5, v6⟩ := z
  replace h : (z02 φ v3 y4) v5 v6 = some r := h
  unfold z02 at h
  refine al [0, 1, 2, 6, 7] [0] rfl rfl rfl (sq (cs (cr [0, 1, 2, 3, 4] rfl (q1 rfl (z0 (mv rfl)) (q1 rfl (z0 (mv rfl)) (q1 rfl (z0 (mv rfl)) (q1 rfl (z0 (mv rfl)) (zp h fun y8 ey8 h => n1 rfl (z3r 0 rfl (fun x => (z68 x).mem) (zsy H) (args := [(eqv sv2), (iv .i64 v5), (iv .i64 v3), (fcmp P (fun x => (agg (z6 x))) y4)]) ⟨(mv rfl), (mv rfl), (mv rfl), (mv rfl), trivial⟩ (z5r H φ v6 v5 v3 y4 sv2 _ ey8) fun x9 nw10 hk11 => ?_)))))))))
  obtain ⟨rfl, rfl⟩ := hk11
  refine ⟨z5, ?_⟩
  refine rn (al [0, 1, 2, 6] [0] rfl rfl rfl (sq (z2.block ?_)))
  refine z2.to (z2.loop (fun n (z : Int × (List z4)) => zf φ v3 y4 n z.1 z.2) r (fun z => ⟨zd.of [(0, (eqv sv2)), (1, (iv .i64 v3)), (2, (fcmp P (fun x => (agg (z6 x))) y4)), (6, (iv .i64 z.1))], [(row 70 z6 10 z.2 sv2)]⟩) (fun z => rfl) (fun n14 z ih14 h => ?_) φ (20, y8) h) [0] (sl rfl) (ol rfl) rfl
  obtain ⟨v12, v13⟩ := z
  replace h : zf φ v3 y4 (n14 + 1) v12 v13 = some r := h
  rw [zf] at h
  refine cs (cs (cr [0, 1, 2] rfl (q1 rfl (z0 (mv rfl)) (q1 rfl (z0 (mv rfl)) (q1 rfl (z10 (mv rfl) (mv rfl)) (rn (al [0, 1, 2, 6, 30] [0] rfl rfl rfl (sq ?_))))))))
  refine cI h rfl (fun c15 h => ?_) (fun c15 h => ?_)
  ·
   refine z2.skip (al [0, 1, 2, 6] [0] rfl rfl rfl (sq (z2.block (cs (cr [0, 1, 2, 3] rfl (q1 rfl (z0 (mv rfl)) (q1 rfl (zae ct (mv rfl)) (q1 rfl (z1 ct) (q1 rfl (z1 (mv rfl)) (rn (al [0, 1, 2, 6, 7, 8] [0] rfl rfl rfl ?_)))))))))))
   refine sq (cs ?_)
   refine z2.join (fun z : Int × (List z4) => (z0v φ v3 y4 v12 (zf φ v3 y4 n14)) z.1 z.2) r (fun z => ⟨zd.of [(0, (eqv sv2)), (1, (iv .i64 v3)), (2, (fcmp P (fun x => (agg (z6 x))) y4)), (6, (iv .i64 v12)), (7, (iv .i64 z.1))], [(row 70 z6 10 z.2 sv2)]⟩) (fun z h => ?_) (fun hJ18 => ?_)
   ·
    obtain ⟨v16, v17⟩ := z
    replace h : (z0v φ v3 y4 v12 (zf φ v3 y4 n14)) v16 v17 = some r := h
    unfold z0v at h
    refine al [0, 1, 2, 6, 7] [0] rfl rfl rfl (sq (cs (cs (cr [0, 1, 2, 3] rfl (q1 rfl (z0 (mv rfl)) (q1 rfl (z0 (mv rfl)) (q1 rfl (z0g (mv rfl) (mv rfl)) (q1 rfl (z1 (mv rfl)) (rn (al [0, 1, 2, 6, 7, 9] [0] rfl rfl rfl (sq ?_)))))))))))
    refine cs (cr [0, 1, 2] rfl (q1 rfl (z0 (mv rfl)) (q1 rfl (z0 (mv rfl)) (q1 rfl (z10 (mv rfl) (mv rfl)) (rn (al [0, 1, 2, 6, 7, 9, 54] [0] rfl rfl rfl (sq ?_)))))))
    refine z2.join (fun z : (List z4) => (z2b φ v12 (zf φ v3 y4 n14)) z) r (fun z => ⟨zd.of [(0, (eqv sv2)), (1, (iv .i64 v3)), (2, (fcmp P (fun x => (agg (z6 x))) y4)), (6, (iv .i64 v12))], [(row 70 z6 10 z sv2)]⟩) (fun v19 h => ?_) (fun hJ20 => ?_)
    ·
     replace h : (z2b φ v12 (zf φ v3 y4 n14)) v19 = some r := h
     unfold z2b at h
     refine al [0, 1, 2, 6] [0] rfl rfl rfl (sq (cr [0, 1, 2] rfl (q1 rfl (z0 (mv rfl)) (q1 rfl (zae (mv rfl) ct) (q1 rfl (z1 (mv rfl)) (rn (AtX.in_normal ?_)))))))
     exact AtX.to (ih14 ((W (v12 * 2)), v19) h) [0] (sl rfl) (ol rfl) rfl
    ·
     refine cI h rfl (fun c21 h => ?_) (fun c21 h => ?_)
     ·
      refine cr [0, 1, 2, 3, 4, 5] rfl (q1 rfl (z0 (mv rfl)) (q1 rfl (z0 (mv rfl)) (q1 rfl (z0 (mv rfl)) (q1 rfl (z0 (mv rfl)) (q1 rfl (z0 (mv rfl)) (zp h fun y22 ey22 h => n1 rfl (z3r 0 rfl (fun x => (z68 x).mem) (zn2 H) (args := [(eqv sv2), (iv .i64 v16), (iv .i64 (W (v16 + v12))), (iv .i64 v3), (fcmp P (fun x => (agg (z6 x))) y4)]) ⟨(mv rfl), (mv rfl), (mv rfl), (mv rfl), (mv rfl), trivial⟩ (z70 H φ v17 v16 (W (v16 + v12)) v3 y4 sv2 _ ey22) fun x23 nw24 hk25 => ?_)))))))
      obtain ⟨rfl, rfl⟩ := hk25
      refine ⟨z5, ?_⟩
      refine rn ?_
      exact AtX.to (hJ20 y22 h) [0] (sl rfl) (ol rfl) rfl
     ·
      refine z2.skip ?_
      exact AtX.to (hJ20 v17 h) [0] (sl rfl) (ol rfl) rfl
   ·
    refine z2.block ?_
    refine z2.to (z2.loop (fun n (z : Int × Int × (List z4)) => z1l φ v3 y4 v12 (z0v φ v3 y4 v12 (zf φ v3 y4 n14)) n z.1 z.2.1 z.2.2) r (fun z => ⟨zd.of [(0, (eqv sv2)), (1, (iv .i64 v3)), (2, (fcmp P (fun x => (agg (z6 x))) y4)), (6, (iv .i64 v12)), (7, (iv .i64 z.1)), (8, (iv .i64 z.2.1))], [(row 70 z6 10 z.2.2 sv2)]⟩) (fun z => rfl) (fun n29 z ih29 h => ?_) φ (0, (W (2 * v12)), v13) h) [0] (sl rfl) (ol rfl) rfl
    obtain ⟨v26, v27, v28⟩ := z
    replace h : z1l φ v3 y4 v12 (z0v φ v3 y4 v12 (zf φ v3 y4 n14)) (n29 + 1) v26 v27 v28 = some r := h
    rw [z1l] at h
    refine cs (cs (cr [0, 1, 2] rfl (q1 rfl (z0 (mv rfl)) (q1 rfl (z0 (mv rfl)) (q1 rfl (zc4 (mv rfl) (mv rfl)) (rn (al [0, 1, 2, 6, 7, 8, 35] [0] rfl rfl rfl (sq ?_))))))))
    refine cI h rfl (fun c30 h => ?_) (fun c30 h => ?_)
    ·
     refine z2.skip (al [0, 1, 2, 6, 7, 8] [0] rfl rfl rfl (sq (z2.block (cs (cr [0, 1, 2, 3, 4, 5, 6, 7] rfl (q1 rfl (z0 (mv rfl)) (q1 rfl (z0 (mv rfl)) (q1 rfl (z0 (mv rfl)) (q1 rfl (z0 (mv rfl)) (q1 rfl (z0g (mv rfl) (mv rfl)) (q1 rfl (z0 (mv rfl)) ?_)))))))))))
     refine q1 rfl (z0 (mv rfl)) (zp h fun y31 ey31 h => n1 rfl (z3r 0 rfl (fun x => (z68 x).mem) (zn2 H) (args := [(eqv sv2), (iv .i64 v26), (iv .i64 (W (v26 + v12))), (iv .i64 v27), (fcmp P (fun x => (agg (z6 x))) y4)]) ⟨(mv rfl), (mv rfl), (mv rfl), (mv rfl), (mv rfl), trivial⟩ (z70 H φ v28 v26 (W (v26 + v12)) v27 y4 sv2 _ ey31) fun x32 nw33 hk34 => ?_))
     obtain ⟨rfl, rfl⟩ := hk34
     refine ⟨z5, ?_⟩
     refine rn (al [0, 1, 2, 6, 8] [0] rfl rfl rfl (sq (cs (cr [0, 1] rfl (q1 rfl (z0 (mv rfl)) (q1 rfl (z1 (mv rfl)) (rn (al [0, 1, 2, 6, 7, 8] [0] rfl rfl rfl (sq (cr [0, 1, 2, 3, 4] rfl (q1 rfl (z0 (mv rfl)) ?_)))))))))))
     refine q1 rfl (z0 (mv rfl)) (q1 rfl (zae ct (mv rfl)) (q1 rfl (z0g (mv rfl) (mv rfl)) (q1 rfl (z1 (mv rfl)) (rn (AtX.in_normal ?_)))))
     exact AtX.to (ih29 (v27, (W (v27 + (W (2 * v12)))), y31) h) [0] (sl rfl) (ol rfl) rfl
    ·
     refine z2.exit (AtX.then_exit (AtX.then_exit (AtX.in_hit ?_)))
     exact AtX.to (hJ18 (v26, v28) h) [0] (sl rfl) (ol rfl) rfl
  ·
   refine z2.exit (AtX.then_exit (AtX.then_exit (AtX.in_hit (AtX.fall' (eqv (.tuple #[])) (zq.zero Try.results55) [0] [(row 70 z6 10 v13 sv2)] (ol rfl) rfl ?_))))
   obtain rfl := Option.some.inj h
   exact ⟨_, rfl, rfl, rfl⟩
 ·
  refine z2.block ?_
  refine z2.to (z2.loop (fun n (z : Int × Int × (List z4)) => z0y φ v3 y4 (z02 φ v3 y4) n z.1 z.2.1 z.2.2) r (fun z => ⟨zd.of [(0, (eqv sv2)), (1, (iv .i64 v3)), (2, (fcmp P (fun x => (agg (z6 x))) y4)), (6, (iv .i64 20)), (7, (iv .i64 z.1)), (8, (iv .i64 z.2.1))], [(row 70 z6 10 z.2.2 sv2)]⟩) (fun z => rfl) (fun n38 z ih38 h => ?_) φ (0, 20, v1) h) [0] (sl rfl) (ol rfl) rfl
  obtain ⟨v35, v36, v37⟩ := z
  replace h : z0y φ v3 y4 (z02 φ v3 y4) (n38 + 1) v35 v36 v37 = some r := h
  rw [z0y] at h
  refine cs (cs (cr [0, 1, 2] rfl (q1 rfl (z0 (mv rfl)) (q1 rfl (z0 (mv rfl)) (q1 rfl (zc4 (mv rfl) (mv rfl)) (rn (al [0, 1, 2, 6, 7, 8, 13] [0] rfl rfl rfl (sq ?_))))))))
  refine cI h rfl (fun c39 h => ?_) (fun c39 h => ?_)
  ·
   refine z2.skip (al [0, 1, 2, 6, 7, 8] [0] rfl rfl rfl (sq (z2.block (cs (cr [0, 1, 2, 3, 4] rfl (q1 rfl (z0 (mv rfl)) (q1 rfl (z0 (mv rfl)) (q1 rfl (z0 (mv rfl)) (q1 rfl (z0 (mv rfl)) (zp h fun y40 ey40 h => n1 rfl (z3r 0 rfl (fun x => (z68 x).mem) (zsy H) (args := [(eqv sv2), (iv .i64 v35), (iv .i64 v36), (fcmp P (fun x => (agg (z6 x))) y4)]) ⟨(mv rfl), (mv rfl), (mv rfl), (mv rfl), trivial⟩ (z5r H φ v37 v35 v36 y4 sv2 _ ey40) fun x41 nw42 hk43 => ?_)))))))))))
   obtain ⟨rfl, rfl⟩ := hk43
   refine ⟨z5, ?_⟩
   refine rn (al [0, 1, 2, 6, 8] [0] rfl rfl rfl (sq (cs (cr [0, 1] rfl (q1 rfl (z0 (mv rfl)) (q1 rfl (z1 (mv rfl)) (rn (al [0, 1, 2, 6, 7, 8] [0] rfl rfl rfl (sq (cr [0, 1, 2, 3] rfl (q1 rfl (z0 (mv rfl)) ?_)))))))))))
   refine q1 rfl (z0 (mv rfl)) (q1 rfl (z0g (mv rfl) (mv rfl)) (q1 rfl (z1 (mv rfl)) (rn (AtX.in_normal ?_))))
   exact AtX.to (ih38 (v36, (W (v36 + 20)), y40) h) [0] (sl rfl) (ol rfl) rfl
  ·
   refine z2.exit (AtX.then_exit (AtX.then_exit (AtX.in_hit ?_)))
   exact AtX.to (hJ7 (v35, v37) h) [0] (sl rfl) (ol rfl) rfl
theorem z9t {P : Program} (H : P = Try.prog) (φ : Nat) (v1 : (List z4)) (y3 : (z4 → z4 → Option Int)) (sv2 : Value) (r : (List z4)) (h : z39 φ v1 y3 = some r) : MutT P 32 [(eqv sv2), (fcmp P (fun x => (agg (z6 x))) y3)] 70 z6 10 v1 sv2 (fun x l' => x = eqv (.tuple #[]) ∧ r = l') := by
 unfold z39 at h
 refine MutT.of_code 9 (fn32 H) rfl rfl (Nat.le_of_ble_eq_true rfl) fun w0 base r0 wI => ?_
 refine cl [0, 1] [0] rfl rfl rfl (cr [0, 1, 2, 3, 4] rfl (q1 rfl (z0 (mv rfl)) (q1 rfl (z0 (mv rfl)) (q1 rfl (z9e 0 (il53 H) (mv rfl) rfl) (q1 rfl (z0 (mv rfl)) (zp h fun y4 ey4 h => n1 rfl (z3r 0 rfl (fun x => (z68 x).mem) (zvi H) (args := [(eqv sv2), (iv .i64 (v1.length : Int)), (fcmp P (fun x => (agg (z6 x))) y3)]) ⟨(mv rfl), (mv rfl), (mv rfl), trivial⟩ (za1 H φ v1 (v1.length : Int) y3 sv2 _ ey4) fun x5 nw6 hk7 => ?_)))))))
 obtain ⟨rfl, rfl⟩ := hk7
 refine ⟨z5, ?_⟩
 refine rn (AtX.fall' (eqv (.tuple #[])) (zq.zero Try.results32) [0] [(row 70 z6 10 y4 sv2)] (ol rfl) rfl ?_)
 obtain rfl := Option.some.inj h
 exact ⟨_, rfl, rfl, rfl⟩
theorem zdx {P : Program} (H : P = Try.prog) (φ : Nat) (v1 : z4) (v2 : z4) (r : (Int)) (h : z54 φ v1 v2 = some r) : z0z P 33 [(agg (z6 v1)), (agg (z6 v2))] (fun x news => x = (iv .i64 r) ∧ news = []) := by
 unfold z54 at h
 refine z0z.of_code' 22 (fn33 H) rfl rfl (Nat.le_of_ble_eq_true rfl) fun w0 base r0 wI => ?_
 refine cl [0, 1] [] rfl rfl rfl (cs (cr [0, 1, 2] rfl (n1 rfl (z7i (Ce.agg (mv rfl)) fun b3 => n1 rfl (z7i (Ce.agg (mv rfl)) fun b4 => q1 rfl (z1 ct) (rn (al [2, 3] [0, 1] rfl rfl rfl (sq (cs (zp h fun y5 ey5 h => zp h fun y6 ey6 h => ?_))))))))))
 refine zp h fun y7 ey7 h => zp h fun y11 ey11 h => z2.draw (QR := [(0, _), (1, _), (2, _), (3, _), (4, _), (5, _), (6, _), (7, _), (8, _), (9, _), (10, _), (11, _), (12, _), (13, _), (14, _)]) (tab := [(some 5, []), (some 6, [0]), (some 7, []), (some 8, [2]), (some 9, [1, 3]), (some 10, []), (some 11, [5]), (some 12, []), (some 13, [7]), (some 14, [6, 8, 4]), (some 15, []), (some 16, [10]), (some 17, []), (some 18, [12]), (some 19, [11, 13, 9]), (some 20, [4, 9, 14]), (some 21, [15, 14]), (some 4, [16, 16, 0, 1, 2, 3, 4, 5, 6, 7, 8, 9, 10, 11, 12, 13, 14, 15, 16])]) (z5h H) (Reg.intro [15] [] (by kernel_rfl) rfl (an rfl) ⟨(qr rfl (z3 (ze0 H) (mv rfl))), (qr rfl (lb (tl3 H) 0 (mv rfl) rfl rfl)), (qr rfl (z3 (ze0 H) (mv rfl))), (qr rfl (lb (tl3 H) 1 (mv rfl) rfl rfl)), (qr rfl (oQ (zji H) (z8j H φ v1.fAt v2.fAt _ ey5) z5 ⟨ef (mv rfl), ef (mv rfl), trivial⟩)), (qr rfl (z3 (znd H) (mv rfl))), (qr rfl (lb (tl3 H) 0 (mv rfl) rfl rfl)), (qr rfl (z3 (znd H) (mv rfl))), (qr rfl (lb (tl3 H) 1 (mv rfl) rfl rfl)), (qr rfl (oQ (zji H) (z8j H φ v1.fWagon v2.fWagon _ ey6) z5 ⟨ef (mv rfl), ef (mv rfl), trivial⟩)), (qr rfl (z3 (zos H) (mv rfl))), (qr rfl (ln (tl43 H) ((Pt.box 0 (mv rfl) rfl rfl).take 2 (cs' := (eRef v1.fDeliver)) rfl) rfl)), (qr rfl (z3 (zos H) (mv rfl))), (qr rfl (ln (tl43 H) ((Pt.box 1 (mv rfl) rfl rfl).take 2 (cs' := (eRef v2.fDeliver)) rfl) rfl)), (qr rfl (oQ (zn3 H) (z98 H φ v1.fDeliver v2.fDeliver _ ey7) z5 ⟨ef (mv rfl), ef (mv rfl), trivial⟩)), trivial⟩ ⟨⟨_, rfl, rfl, rfl, rfl, z2d (e := eI64) [y5, y6, y7] (sl96 H) lI64 rfl (by decide) ⟨rfl, (Ce.one (mv rfl) (One.eqv rfl)), ⟨rfl, (Ce.one (mv rfl) (One.eqv rfl)), ⟨rfl, (Ce.one (mv rfl) (One.eqv rfl)), trivial⟩⟩⟩ fun sv10 => ⟨[(16, (iv .i64 y11)), (17, (iv .i64 y11))], rfl, ?_⟩⟩, trivial⟩ ft)
 refine Reg.intro [] [0, 1, 2, 3, 4, 5, 6, 7, 8, 9, 10, 11, 12, 13, 14] (by kernel_rfl) rfl (an rfl) ⟨nf, nf, nf, nf, nf, nf, nf, nf, nf, nf, nf, nf, nf, nf, nf, (qr rfl (oQ (znl H) (zey H φ [y5, y6, y7] _ ey11) z5 ⟨EvF.of (mv rfl) (FEnt.row 2 lI64 rfl), trivial⟩)), (qr rfl (z1 (mv rfl))), trivial⟩ trivial (fun _ => al [4] [] rfl rfl rfl (sq (z2.ret (AtX.ret' (iv .i64 y11) (zq.one Try.results33 rfl) [] [] trivial rfl ?_))))
 obtain rfl := Option.some.inj h
 exact ⟨rfl, rfl⟩
theorem z81 {P : Program} (H : P = Try.prog) (φ : Nat) (v1 : Pool) (v2 : (List zo)) (r : ((List z4))) (h : z57 φ v1 v2 = some r) : z0z P 13 [(agg (z2i v1)), (ro zm 21 v2)] (zgt r) := by
 unfold z57 at h
 refine z0z.of_code' 67 (fn13 H) rfl rfl (Nat.le_of_ble_eq_true rfl) fun w0 base r0 wI => ?_
 refine z2.le' [(0, (agg (z2i v1))), (1, (ro zm 21 v2))] [] [] ⟨⟨_, rfl, Ent.refl⟩, ⟨_, rfl, Ent.refl⟩, trivial⟩ trivial rfl ?_
 refine z2.seq ?_
 refine z2.addNil 70 z6 10 ?_
 refine z2.region' [0, 1] rfl ?_
 refine ze.cons rfl rfl rfl (z7i (cs := (z2i v1)) (Ce.agg (Ev.tmp rfl)) fun b3 => ze.cons_q (eqv (.slice none 0 0)) rfl rfl rfl (z1 (Ev.const _)) (ze.nil (AtX.le' [(1, (ro zm 21 v2)), (2, (eqv (.pointer (some ⟨b3, 0, none⟩))))] [1] [(box b3 36 (z2i v1))] ⟨⟨_, rfl, Ent.refl⟩, ⟨_, rfl, Ent.refl⟩, trivial⟩ ⟨⟨_, rfl, EntH.refl⟩, trivial⟩ rfl (AtX.seq ?_))))
 refine z2.seq ?_
 refine z2.addNil 70 z6 10 ?_
 refine z2.region' [0] rfl ?_
 refine ze.cons_q (eqv (.slice none 0 0)) rfl rfl rfl (z1 (Ev.const _)) (ze.nil (AtX.le' [(1, (ro zm 21 v2)), (2, (eqv (.pointer (some ⟨b3, 0, none⟩)))), (5, (eqv (Value.slice none 0 0)))] [0, 1] [(box b3 36 (z2i v1)), (row 70 z6 10 ([] : List z4) (Value.slice none 0 0))] ⟨⟨_, rfl, Ent.refl⟩, ⟨_, rfl, Ent.refl⟩, ⟨_, rfl, Ent.refl⟩, trivial⟩ ⟨⟨_, rfl, EntH.refl⟩, ⟨_, rfl, EntH.refl⟩, trivial⟩ rfl (AtX.seq ?_)))
 refine z2.seq ?_
 refine z2.seq ?_
 refine z2.region' [0, 1, 2, 3, 4] rfl ?_
 refine ze.cons_q (agg (z2i v1)) rfl rfl rfl (z8f (tl36 H) ((Pt.box 0 (Ev.tmp rfl) rfl rfl).take 9 (cs' := (z2i v1)) rfl)) (ze.cons_q (ro zm 21 v2) rfl rfl rfl (z0 (Ev.tmp rfl)) (zp h fun y4 ey4 h => ze.cons rfl rfl rfl (zml (zsi H) (args := [(agg (z2i v1)), (ro zm 21 v2)]) ⟨EvF.of (Ev.tmp rfl) FEnt.refl, EvF.of (Ev.tmp rfl) FEnt.refl, trivial⟩ (zcd H φ v1 v2 _ ey4) fun x7 nw8 hk6 => ?_)))
 obtain ⟨sv5, rfl, rfl⟩ := hk6
 refine ⟨z5, z6h ⟨z5d zs9, trivial⟩, ?_⟩
 refine ze.cons_q (iv .i64 (y4.length : Int)) rfl rfl rfl (z9e 2 (il87 H) (Ev.tmp rfl) rfl) (ze.cons_q (iv .i64 0) rfl rfl rfl (z0 (Ev.const _)) (ze.nil (AtX.le' [(1, (ro zm 21 v2)), (5, (eqv (Value.slice none 0 0))), (12, (eqv sv5)), (13, (iv .i64 (y4.length : Int))), (14, (iv .i64 0))] [1, 2] [(row 70 z6 10 ([] : List z4) (Value.slice none 0 0)), (row 89 z5s 2 y4 sv5)] ⟨⟨_, rfl, Ent.refl⟩, ⟨_, rfl, Ent.refl⟩, ⟨_, rfl, Ent.refl⟩, ⟨_, rfl, Ent.refl⟩, ⟨_, rfl, Ent.refl⟩, trivial⟩ ⟨⟨_, rfl, EntH.refl⟩, ⟨_, rfl, EntH.refl⟩, trivial⟩ rfl (AtX.seq ?_))))
 refine z2.join (fun z : (List z4) × Value => (z3p φ) z.1) r (fun z => ⟨zd.of [(5, (eqv z.2))], [(row 70 z6 10 z.1 z.2)]⟩) (fun z h => ?_) (fun hJ11 => ?_)
 ·
  obtain ⟨v9, sv10⟩ := z
  replace h : (z3p φ) v9 = some r := h
  unfold z3p at h
  change AtX _ ⟨zd.of [(5, (eqv sv10))], [(row 70 z6 10 v9 sv10)]⟩ _ _
  refine AtX.le' [(5, (eqv sv10))] [0] [(row 70 z6 10 v9 sv10)] ⟨⟨_, rfl, Ent.refl⟩, trivial⟩ ⟨⟨_, rfl, EntH.refl⟩, trivial⟩ rfl (AtX.seq ?_)
  refine z2.seq ?_
  refine z2.region' [0, 1] rfl ?_
  refine ze.cons_q (eqv sv10) rfl rfl rfl (z0 (Ev.tmp rfl)) (zp h fun y12 ey12 h => ze.cons rfl rfl rfl (z3r 0 rfl (fun x => (z68 x).mem) (zxa H) (args := [(eqv sv10), (fcmp P (fun x => (agg (z6 x))) (fun a b => z54 φ a b))]) ⟨(Ev.tmp rfl), (Ev.ent (Ev.ent (Ev.func _) zq4) (zea (zv4 H) (fun a b cc hc => zdx H φ a b cc hc))), trivial⟩ (z9t H φ v9 (fun a b => z54 φ a b) sv10 _ ey12) fun x13 nw14 hk15 => ?_))
  obtain ⟨rfl, rfl⟩ := hk15
  refine ⟨z5, ?_⟩
  refine ze.nil (AtX.le' [(5, (eqv sv10))] [0] [(row 70 z6 10 y12 sv10)] ⟨⟨_, rfl, Ent.refl⟩, trivial⟩ ⟨⟨_, rfl, EntH.refl⟩, trivial⟩ rfl (AtX.seq ?_))
  refine z2.seq ?_
  refine z2.region' [0, 1] rfl ?_
  refine ze.cons_q (eqv sv10) rfl rfl rfl (z0 (Ev.tmp rfl)) (ze.cons_q (eqv sv10) rfl rfl rfl (z1 (Ev.tmp rfl)) (ze.nil (AtX.le' [(4, (eqv sv10))] [0] [(row 70 z6 10 y12 sv10)] ⟨⟨_, rfl, Ent.refl⟩, trivial⟩ ⟨⟨_, rfl, EntH.refl⟩, trivial⟩ rfl (AtX.seq (z2.ret (AtX.ret' (eqv sv10) (zq.one Try.results13 rfl) [0] [(row 70 z6 10 y12 sv10)] ⟨⟨_, rfl, EntH.refl⟩, trivial⟩ rfl ?_))))))
  obtain rfl := Option.some.inj h
  exact ⟨sv10, rfl, rfl⟩
 ·
  refine z2.block ?_
  refine z2.to (z2.loop (fun n (z : Int × (List z4) × Value) => z30 φ v2 y4 (z3p φ) n z.1 z.2.1) r (fun z => ⟨zd.of [(1, (ro zm 21 v2)), (5, (eqv z.2.2)), (12, (eqv sv5)), (13, (iv .i64 (y4.length : Int))), (14, (iv .i64 z.1))], [(row 70 z6 10 z.2.1 z.2.2), (row 89 z5s 2 y4 sv5)]⟩) (fun z => rfl) (fun n19 z ih19 h => ?_) φ (0, ([] : List z4), (Value.slice none 0 0)) h) [0, 1] ⟨⟨_, rfl, Ent.refl⟩, ⟨_, rfl, Ent.refl⟩, ⟨_, rfl, Ent.refl⟩, ⟨_, rfl, Ent.refl⟩, ⟨_, rfl, Ent.refl⟩, trivial⟩ ⟨⟨_, rfl, EntH.refl⟩, ⟨_, rfl, EntH.refl⟩, trivial⟩ rfl
  obtain ⟨v16, v17, sv18⟩ := z
  replace h : z30 φ v2 y4 (z3p φ) (n19 + 1) v16 v17 = some r := h
  rw [z30] at h
  change z2 _ _ ⟨zd.of [(1, (ro zm 21 v2)), (5, (eqv sv18)), (12, (eqv sv5)), (13, (iv .i64 (y4.length : Int))), (14, (iv .i64 v16))], [(row 70 z6 10 v17 sv18), (row 89 z5s 2 y4 sv5)]⟩ _
  refine z2.seq ?_
  refine z2.region' [0] rfl ?_
  refine ze.cons_q (bv (decide (v16 < (y4.length : Int)))) rfl rfl rfl (z10 (Ev.tmp rfl) (Ev.tmp rfl)) (ze.nil (AtX.le' [(1, (ro zm 21 v2)), (5, (eqv sv18)), (12, (eqv sv5)), (13, (iv .i64 (y4.length : Int))), (14, (iv .i64 v16)), (15, (bv (decide (v16 < (y4.length : Int)))))] [0, 1] [(row 70 z6 10 v17 sv18), (row 89 z5s 2 y4 sv5)] ⟨⟨_, rfl, Ent.refl⟩, ⟨_, rfl, Ent.refl⟩, ⟨_, rfl, Ent.refl⟩, ⟨_, rfl, Ent.refl⟩, ⟨_, rfl, Ent.refl⟩, ⟨_, rfl, Ent.refl⟩, trivial⟩ ⟨⟨_, rfl, EntH.refl⟩, ⟨_, rfl, EntH.refl⟩, trivial⟩ rfl (AtX.seq ?_)))
  refine z2.seq ?_
  refine cI h rfl (fun c20 h => ?_) (fun c20 h => ?_)
  ·
   refine z2.skip (AtX.le' [(1, (ro zm 21 v2)), (5, (eqv sv18)), (12, (eqv sv5)), (13, (iv .i64 (y4.length : Int))), (14, (iv .i64 v16))] [0, 1] [(row 70 z6 10 v17 sv18), (row 89 z5s 2 y4 sv5)] ⟨⟨_, rfl, Ent.refl⟩, ⟨_, rfl, Ent.refl⟩, ⟨_, rfl, Ent.refl⟩, ⟨_, rfl, Ent.refl⟩, ⟨_, rfl, Ent.refl⟩, trivial⟩ ⟨⟨_, rfl, EntH.refl⟩, ⟨_, rfl, EntH.refl⟩, trivial⟩ rfl (AtX.seq ?_))
   refine z2.seq ?_
   refine z2.block ?_
   refine z2.seq ?_
   refine z2.region' [0, 1, 2, 3] rfl ?_
   refine ckE h fun h21 h => ze.cons_q (rowp sv5 ((v16 : Int).toNat * 2)) rfl rfl rfl (zb 1 (ix87 H) (Ev.tmp rfl) rfl (Ev.tmp rfl) (h21).1 (h21).2) (ze.cons_q (agg (z5s (gt y4 v16))) rfl rfl rfl (zdo (tl89 H) (by simp [zct lI64, z5s]) ((Pt.row _ 1 (k := (v16 : Int).toNat) (fo := 0) zn0 (Ev.tmp rfl) rfl (by omega) (z8 h21) rfl).take 2 (cs' := (z5s (gt y4 v16))) rfl)) (ze.cons rfl rfl rfl (zkp (e := eI64) 0 [.int .i64 0] (za89 H) rfl rfl fun b22 => ze.cons rfl rfl rfl (zck 2 (cells := ([] ++ arr 2 eI64 (fun _ => 0) ++ [])) (cs := (z5s (gt y4 v16))) (out := ([] ++ arr 2 eI64 (gt y4 v16) ++ [])) (tl89 H) (Ev.tmp rfl) (Ce.agg (Ev.tmp rfl)) rfl rfl (Nat.le_of_ble_eq_true rfl) rfl (ze.nil (AtX.le' [(1, (ro zm 21 v2)), (5, (eqv sv18)), (7, (eqv (.pointer (some ⟨b22, 0, none⟩)))), (12, (eqv sv5)), (13, (iv .i64 (y4.length : Int))), (14, (iv .i64 v16))] [0, 1, 2] [(row 70 z6 10 v17 sv18), (row 89 z5s 2 y4 sv5), (box b22 89 ([] ++ arr 2 eI64 (gt y4 v16) ++ []))] ⟨⟨_, rfl, Ent.refl⟩, ⟨_, rfl, Ent.refl⟩, ⟨_, rfl, Ent.refl⟩, ⟨_, rfl, Ent.refl⟩, ⟨_, rfl, Ent.refl⟩, ⟨_, rfl, Ent.refl⟩, trivial⟩ ⟨⟨_, rfl, EntH.refl⟩, ⟨_, rfl, EntH.refl⟩, ⟨_, rfl, EntH.refl⟩, trivial⟩ rfl (AtX.seq ?_)))))))
   refine z2.seq ?_
   refine z2.join (fun z : Nat × Nat => (z7h φ v2 y4 v16 v17 (z30 φ v2 y4 (z3p φ) n19))) r (fun z => ⟨zd.of [(1, (ro zm 21 v2)), (5, (eqv sv18)), (8, (eqv (.pointer (some ⟨z.1, 0, none⟩)))), (9, (eqv (.pointer (some ⟨z.2, 0, none⟩)))), (12, (eqv sv5)), (13, (iv .i64 (y4.length : Int))), (14, (iv .i64 v16))], [(row 70 z6 10 v17 sv18), (row 89 z5s 2 y4 sv5), (box z.1 48 (zm (gt v2 ((gt y4 v16) 0)))), (box z.2 48 (zm (gt v2 ((gt y4 v16) 1))))]⟩) (fun z h => ?_) (fun hJ25 => ?_)
   ·
    obtain ⟨b23, b24⟩ := z
    replace h : (z7h φ v2 y4 v16 v17 (z30 φ v2 y4 (z3p φ) n19)) = some r := h
    unfold z7h at h
    change AtX _ ⟨zd.of [(1, (ro zm 21 v2)), (5, (eqv sv18)), (8, (eqv (.pointer (some ⟨b23, 0, none⟩)))), (9, (eqv (.pointer (some ⟨b24, 0, none⟩)))), (12, (eqv sv5)), (13, (iv .i64 (y4.length : Int))), (14, (iv .i64 v16))], [(row 70 z6 10 v17 sv18), (row 89 z5s 2 y4 sv5), (box b23 48 (zm (gt v2 ((gt y4 v16) 0)))), (box b24 48 (zm (gt v2 ((gt y4 v16) 1))))]⟩ _ _
    refine AtX.le' [(1, (ro zm 21 v2)), (5, (eqv sv18)), (8, (eqv (.pointer (some ⟨b23, 0, none⟩)))), (9, (eqv (.pointer (some ⟨b24, 0, none⟩)))), (12, (eqv sv5)), (13, (iv .i64 (y4.length : Int))), (14, (iv .i64 v16))] [0, 1, 2, 3] [(row 70 z6 10 v17 sv18), (row 89 z5s 2 y4 sv5), (box b23 48 (zm (gt v2 ((gt y4 v16) 0)))), (box b24 48 (zm (gt v2 ((gt y4 v16) 1))))] ⟨⟨_, rfl, Ent.refl⟩, ⟨_, rfl, Ent.refl⟩, ⟨_, rfl, Ent.refl⟩, ⟨_, rfl, Ent.refl⟩, ⟨_, rfl, Ent.refl⟩, ⟨_, rfl, Ent.refl⟩, ⟨_, rfl, Ent.refl⟩, trivial⟩ ⟨⟨_, rfl, EntH.refl⟩, ⟨_, rfl, EntH.refl⟩, ⟨_, rfl, EntH.refl⟩, ⟨_, rfl, EntH.refl⟩, trivial⟩ rfl (AtX.seq ?_)
    refine z2.region' [0, 1, 2, 3, 4, 5, 6, 7, 8, 9, 10, 11, 12, 13, 14, 15, 16, 17, 18, 19, 20, 21, 22, 23, 24, 25, 26, 27, 28, 29, 30, 31, 32, 33, 34, 35] rfl ?_
    refine ze.cons_q (eqv sv18) rfl rfl rfl (z0 (Ev.tmp rfl)) (ze.cons_q (eqv (.pointer (some ⟨b23, 5, none⟩))) rfl rfl rfl (z3 (z6x H) (Ev.tmp rfl)) (ze.cons_q (eqv (.pointer (some ⟨b23, 8, none⟩))) rfl rfl rfl (z3 (zgg H) (Ev.tmp rfl)) (ze.cons_q (iv .i64 ((gt v2 ((gt y4 v16) 0)).fItem.fWagon)) rfl rfl rfl (z2g (tl3 H) ((Pt.box 2 (Ev.tmp rfl) rfl rfl).take 1 (cs' := [(iv .i64 ((gt v2 ((gt y4 v16) 0)).fItem.fWagon))]) rfl)) (ze.cons_q (eqv (.pointer (some ⟨b23, 5, none⟩))) rfl rfl rfl (z3 (z6x H) (Ev.tmp rfl)) (ze.cons_q (eqv (.pointer (some ⟨b23, 9, none⟩))) rfl rfl rfl (z3 (zc8 H) (Ev.tmp rfl)) (ze.cons_q (iv .i64 ((gt v2 ((gt y4 v16) 0)).fItem.fPlace)) rfl rfl rfl (z2g (tl3 H) ((Pt.box 2 (Ev.tmp rfl) rfl rfl).take 1 (cs' := [(iv .i64 ((gt v2 ((gt y4 v16) 0)).fItem.fPlace))]) rfl)) (ze.cons_q (eqv (.pointer (some ⟨b23, 0, none⟩))) rfl rfl rfl (z3 (z9x H) (Ev.tmp rfl)) (ze.cons_q (eqv (.pointer (some ⟨b23, 0, none⟩))) rfl rfl rfl (z3 (zaq H) (Ev.tmp rfl)) (ze.cons_q (iv .i64 ((gt v2 ((gt y4 v16) 0)).fRef.fRailway)) rfl rfl rfl (z2g (tl3 H) ((Pt.box 2 (Ev.tmp rfl) rfl rfl).take 1 (cs' := [(iv .i64 ((gt v2 ((gt y4 v16) 0)).fRef.fRailway))]) rfl)) (ze.cons_q (eqv (.pointer (some ⟨b24, 0, none⟩))) rfl rfl rfl (z3 (z9x H) (Ev.tmp rfl)) (ze.cons_q (eqv (.pointer (some ⟨b24, 0, none⟩))) rfl rfl rfl (z3 (zaq H) (Ev.tmp rfl)) ?_)))))))))))
    refine ze.cons_q (iv .i64 ((gt v2 ((gt y4 v16) 1)).fRef.fRailway)) rfl rfl rfl (z2g (tl3 H) ((Pt.box 3 (Ev.tmp rfl) rfl rfl).take 1 (cs' := [(iv .i64 ((gt v2 ((gt y4 v16) 1)).fRef.fRailway))]) rfl)) (ze.cons_q (eqv (.pointer (some ⟨b23, 5, none⟩))) rfl rfl rfl (z3 (z6x H) (Ev.tmp rfl)) (ze.cons_q (eqv (.pointer (some ⟨b23, 12, none⟩))) rfl rfl rfl (z3 (zbx H) (Ev.tmp rfl)) (ze.cons_q (iv .i64 ((gt v2 ((gt y4 v16) 0)).fItem.fFrom)) rfl rfl rfl (z2g (tl3 H) ((Pt.box 2 (Ev.tmp rfl) rfl rfl).take 1 (cs' := [(iv .i64 ((gt v2 ((gt y4 v16) 0)).fItem.fFrom))]) rfl)) (ze.cons_q (eqv (.pointer (some ⟨b24, 5, none⟩))) rfl rfl rfl (z3 (z6x H) (Ev.tmp rfl)) (ze.cons_q (eqv (.pointer (some ⟨b24, 12, none⟩))) rfl rfl rfl (z3 (zbx H) (Ev.tmp rfl)) (ze.cons_q (iv .i64 ((gt v2 ((gt y4 v16) 1)).fItem.fFrom)) rfl rfl rfl (z2g (tl3 H) ((Pt.box 3 (Ev.tmp rfl) rfl rfl).take 1 (cs' := [(iv .i64 ((gt v2 ((gt y4 v16) 1)).fItem.fFrom))]) rfl)) (ze.cons_q (iv .i64 (W (((gt v2 ((gt y4 v16) 0)).fItem.fFrom) + ((gt v2 ((gt y4 v16) 1)).fItem.fFrom)))) rfl rfl rfl (z0g (Ev.tmp rfl) (Ev.tmp rfl)) (ze.cons_q (iv .i64 (W ((W (((gt v2 ((gt y4 v16) 0)).fItem.fFrom) + ((gt v2 ((gt y4 v16) 1)).fItem.fFrom))).tdiv 2))) rfl rfl rfl (zod (Ev.tmp rfl) (Ev.const _) (by decide)) (ze.cons_q (eqv (.pointer (some ⟨b23, 5, none⟩))) rfl rfl rfl (z3 (z6x H) (Ev.tmp rfl)) (ze.cons_q (eqv (.pointer (some ⟨b23, 14, none⟩))) rfl rfl rfl (z3 (zjl H) (Ev.tmp rfl)) (ze.cons_q (iv .i64 ((gt v2 ((gt y4 v16) 0)).fItem.fCode)) rfl rfl rfl (z2g (tl3 H) ((Pt.box 2 (Ev.tmp rfl) rfl rfl).take 1 (cs' := [(iv .i64 ((gt v2 ((gt y4 v16) 0)).fItem.fCode))]) rfl)) ?_)))))))))))
    refine ze.cons_q (eqv (.pointer (some ⟨b24, 5, none⟩))) rfl rfl rfl (z3 (z6x H) (Ev.tmp rfl)) (ze.cons_q (eqv (.pointer (some ⟨b24, 14, none⟩))) rfl rfl rfl (z3 (zjl H) (Ev.tmp rfl)) (ze.cons_q (iv .i64 ((gt v2 ((gt y4 v16) 1)).fItem.fCode)) rfl rfl rfl (z2g (tl3 H) ((Pt.box 3 (Ev.tmp rfl) rfl rfl).take 1 (cs' := [(iv .i64 ((gt v2 ((gt y4 v16) 1)).fItem.fCode))]) rfl)) (ze.cons_q (iv .i64 (max2 ((gt v2 ((gt y4 v16) 0)).fItem.fCode) ((gt v2 ((gt y4 v16) 1)).fItem.fCode))) rfl rfl rfl (zoj (n := [(gt v2 ((gt y4 v16) 1)).fItem.fCode]) (Ev.tmp rfl) ⟨(Ev.tmp rfl), trivial⟩) (ze.cons_q (eqv (.pointer (some ⟨b23, 0, none⟩))) rfl rfl rfl (z3 (z9x H) (Ev.tmp rfl)) (ze.cons_q (agg (eRef (gt v2 ((gt y4 v16) 0)).fRef)) rfl rfl rfl (z8f (tl43 H) ((Pt.box 2 (Ev.tmp rfl) rfl rfl).take 2 (cs' := (eRef (gt v2 ((gt y4 v16) 0)).fRef)) rfl)) (ze.cons_q (eqv (.pointer (some ⟨b24, 0, none⟩))) rfl rfl rfl (z3 (z9x H) (Ev.tmp rfl)) (ze.cons_q (agg (eRef (gt v2 ((gt y4 v16) 1)).fRef)) rfl rfl rfl (z8f (tl43 H) ((Pt.box 3 (Ev.tmp rfl) rfl rfl).take 2 (cs' := (eRef (gt v2 ((gt y4 v16) 1)).fRef)) rfl)) (ze.cons_q (agg [(iv .i64 ((gt v2 ((gt y4 v16) 0)).fItem.fWagon)), (iv .i64 ((gt v2 ((gt y4 v16) 0)).fItem.fPlace)), (iv .i64 ((gt v2 ((gt y4 v16) 0)).fRef.fRailway)), (iv .i64 ((gt v2 ((gt y4 v16) 1)).fRef.fRailway)), (iv .i64 (W ((W (((gt v2 ((gt y4 v16) 0)).fItem.fFrom) + ((gt v2 ((gt y4 v16) 1)).fItem.fFrom))).tdiv 2))), (iv .i64 (max2 ((gt v2 ((gt y4 v16) 0)).fItem.fCode) ((gt v2 ((gt y4 v16) 1)).fItem.fCode))), (iv .i64 ((gt v2 ((gt y4 v16) 0)).fRef.fRailway)), (iv .i64 ((gt v2 ((gt y4 v16) 0)).fRef.fNo)), (iv .i64 ((gt v2 ((gt y4 v16) 1)).fRef.fRailway)), (iv .i64 ((gt v2 ((gt y4 v16) 1)).fRef.fNo))]) rfl rfl rfl (z46 [.int .i64 0, .int .i64 0, .int .i64 0, .int .i64 0, .int .i64 0, .int .i64 0, .int .i64 0, .int .i64 0, .int .i64 0, .int .i64 0] [(0, [(iv .i64 ((gt v2 ((gt y4 v16) 0)).fItem.fWagon))]), (1, [(iv .i64 ((gt v2 ((gt y4 v16) 0)).fItem.fPlace))]), (2, [(iv .i64 ((gt v2 ((gt y4 v16) 0)).fRef.fRailway))]), (3, [(iv .i64 ((gt v2 ((gt y4 v16) 1)).fRef.fRailway))]), (4, [(iv .i64 (W ((W (((gt v2 ((gt y4 v16) 0)).fItem.fFrom) + ((gt v2 ((gt y4 v16) 1)).fItem.fFrom))).tdiv 2)))]), (5, [(iv .i64 (max2 ((gt v2 ((gt y4 v16) 0)).fItem.fCode) ((gt v2 ((gt y4 v16) 1)).fItem.fCode)))]), (6, (eRef (gt v2 ((gt y4 v16) 0)).fRef)), (8, (eRef (gt v2 ((gt y4 v16) 1)).fRef))] (out := [(iv .i64 ((gt v2 ((gt y4 v16) 0)).fItem.fWagon)), (iv .i64 ((gt v2 ((gt y4 v16) 0)).fItem.fPlace)), (iv .i64 ((gt v2 ((gt y4 v16) 0)).fRef.fRailway)), (iv .i64 ((gt v2 ((gt y4 v16) 1)).fRef.fRailway)), (iv .i64 (W ((W (((gt v2 ((gt y4 v16) 0)).fItem.fFrom) + ((gt v2 ((gt y4 v16) 1)).fItem.fFrom))).tdiv 2))), (iv .i64 (max2 ((gt v2 ((gt y4 v16) 0)).fItem.fCode) ((gt v2 ((gt y4 v16) 1)).fItem.fCode))), (iv .i64 ((gt v2 ((gt y4 v16) 0)).fRef.fRailway)), (iv .i64 ((gt v2 ((gt y4 v16) 0)).fRef.fNo)), (iv .i64 ((gt v2 ((gt y4 v16) 1)).fRef.fRailway)), (iv .i64 ((gt v2 ((gt y4 v16) 1)).fRef.fNo))]) (ze70 H) rfl (tb70 H) ⟨(zx9 H), Nat.le_of_ble_eq_true rfl, (Ce.one (Ev.tmp rfl) (One.eqv rfl)), ⟨(zsb H), Nat.le_of_ble_eq_true rfl, (Ce.one (Ev.tmp rfl) (One.eqv rfl)), ⟨(zuz H), Nat.le_of_ble_eq_true rfl, (Ce.one (Ev.tmp rfl) (One.eqv rfl)), ⟨(zrw H), Nat.le_of_ble_eq_true rfl, (Ce.one (Ev.tmp rfl) (One.eqv rfl)), ⟨(zro H), Nat.le_of_ble_eq_true rfl, (Ce.one (Ev.tmp rfl) (One.eqv rfl)), ⟨(zsc H), Nat.le_of_ble_eq_true rfl, (Ce.one (Ev.tmp rfl) (One.eqv rfl)), ⟨(zs5 H), Nat.le_of_ble_eq_true rfl, (Ce.agg (Ev.tmp rfl)), ⟨(zry H), Nat.le_of_ble_eq_true rfl, (Ce.agg (Ev.tmp rfl)), trivial⟩⟩⟩⟩⟩⟩⟩⟩ rfl) ?_))))))))
    refine ze.cons rfl rfl rfl (z2d (e := z6) [(z4.mk (gt v2 ((gt y4 v16) 0)).fItem.fWagon (gt v2 ((gt y4 v16) 0)).fItem.fPlace (gt v2 ((gt y4 v16) 0)).fRef.fRailway (gt v2 ((gt y4 v16) 1)).fRef.fRailway (W ((W (((gt v2 ((gt y4 v16) 0)).fItem.fFrom) + ((gt v2 ((gt y4 v16) 1)).fItem.fFrom))).tdiv 2)) (max2 ((gt v2 ((gt y4 v16) 0)).fItem.fCode) ((gt v2 ((gt y4 v16) 1)).fItem.fCode)) (gt v2 ((gt y4 v16) 0)).fRef (gt v2 ((gt y4 v16) 1)).fRef)] (sl53 H) z0o rfl (by decide) ⟨rfl, (Ce.agg (Ev.tmp rfl)), trivial⟩ fun sv26 => ckE h fun h27 h => ze.cons rfl rfl rfl (zcj 0 (l := v17) (m := [(z4.mk (gt v2 ((gt y4 v16) 0)).fItem.fWagon (gt v2 ((gt y4 v16) 0)).fItem.fPlace (gt v2 ((gt y4 v16) 0)).fRef.fRailway (gt v2 ((gt y4 v16) 1)).fRef.fRailway (W ((W (((gt v2 ((gt y4 v16) 0)).fItem.fFrom) + ((gt v2 ((gt y4 v16) 1)).fItem.fFrom))).tdiv 2)) (max2 ((gt v2 ((gt y4 v16) 0)).fItem.fCode) ((gt v2 ((gt y4 v16) 1)).fItem.fCode)) (gt v2 ((gt y4 v16) 0)).fRef (gt v2 ((gt y4 v16) 1)).fRef)]) (sl53 H) z0o (Ev.tmp rfl) rfl (Src.row 4 (Ev.tmp rfl) rfl) h27 (zbz (by decide) h27) fun sv28 => ze.cons_q (eqv sv28) rfl rfl rfl (z1 (Ev.tmp rfl)) (ze.nil (AtX.in_normal (AtX.le' [(1, (ro zm 21 v2)), (5, (eqv sv28)), (12, (eqv sv5)), (13, (iv .i64 (y4.length : Int))), (14, (iv .i64 v16))] [0, 1] [(row 70 z6 10 (v17 ++ [(z4.mk (gt v2 ((gt y4 v16) 0)).fItem.fWagon (gt v2 ((gt y4 v16) 0)).fItem.fPlace (gt v2 ((gt y4 v16) 0)).fRef.fRailway (gt v2 ((gt y4 v16) 1)).fRef.fRailway (W ((W (((gt v2 ((gt y4 v16) 0)).fItem.fFrom) + ((gt v2 ((gt y4 v16) 1)).fItem.fFrom))).tdiv 2)) (max2 ((gt v2 ((gt y4 v16) 0)).fItem.fCode) ((gt v2 ((gt y4 v16) 1)).fItem.fCode)) (gt v2 ((gt y4 v16) 0)).fRef (gt v2 ((gt y4 v16) 1)).fRef)]) sv28), (row 89 z5s 2 y4 sv5)] ⟨⟨_, rfl, Ent.refl⟩, ⟨_, rfl, Ent.refl⟩, ⟨_, rfl, Ent.refl⟩, ⟨_, rfl, Ent.refl⟩, ⟨_, rfl, Ent.refl⟩, trivial⟩ ⟨⟨_, rfl, EntH.refl⟩, ⟨_, rfl, EntH.refl⟩, trivial⟩ rfl (AtX.seq ?_))))))
    refine z2.region' [0, 1] rfl ?_
    refine ze.cons_q (iv .i64 (W (v16 + 1))) rfl rfl rfl (z0g (Ev.tmp rfl) (Ev.const _)) (ze.cons_q (iv .i64 (W (v16 + 1))) rfl rfl rfl (z0 (Ev.tmp rfl)) (ze.nil ?_))
    exact AtX.to (ih19 ((W (v16 + 1)), (v17 ++ [(z4.mk (gt v2 ((gt y4 v16) 0)).fItem.fWagon (gt v2 ((gt y4 v16) 0)).fItem.fPlace (gt v2 ((gt y4 v16) 0)).fRef.fRailway (gt v2 ((gt y4 v16) 1)).fRef.fRailway (W ((W (((gt v2 ((gt y4 v16) 0)).fItem.fFrom) + ((gt v2 ((gt y4 v16) 1)).fItem.fFrom))).tdiv 2)) (max2 ((gt v2 ((gt y4 v16) 0)).fItem.fCode) ((gt v2 ((gt y4 v16) 1)).fItem.fCode)) (gt v2 ((gt y4 v16) 0)).fRef (gt v2 ((gt y4 v16) 1)).fRef)]), sv28) h) [0, 1] ⟨⟨_, rfl, Ent.refl⟩, ⟨_, rfl, Ent.refl⟩, ⟨_, rfl, Ent.refl⟩, ⟨_, rfl, Ent.refl⟩, ⟨_, rfl, Ent.refl⟩, trivial⟩ ⟨⟨_, rfl, EntH.refl⟩, ⟨_, rfl, EntH.refl⟩, trivial⟩ rfl
   ·
    refine ckE h fun h29 h => ckE h fun h30 h => ?_
    refine z2.draw (QR := [(0, (ro zm 21 v2)), (1, (eqv (.pointer (some ⟨b22, 0, none⟩)))), (2, (iv .i64 ((gt y4 v16) 0))), (3, (rop (zm (gt v2 ((gt y4 v16) 0))))), (4, (agg (zm (gt v2 ((gt y4 v16) 0))))), (5, (ro zm 21 v2)), (6, (eqv (.pointer (some ⟨b22, 1, none⟩)))), (7, (iv .i64 ((gt y4 v16) 1))), (8, (rop (zm (gt v2 ((gt y4 v16) 1))))), (9, (agg (zm (gt v2 ((gt y4 v16) 1)))))]) (tab := [(some 18, []), (some 19, []), (some 20, [1]), (some 21, [0, 2]), (some 22, [3]), (some 23, []), (some 24, []), (some 25, [6]), (some 26, [5, 7]), (some 27, [8]), (some 8, []), (some 9, []), (none, [10, 4, 0, 1, 2, 3, 4, 10, 11]), (none, [11, 9, 12, 0, 1, 2, 3, 4, 5, 6, 7, 8, 9, 10, 11, 12])]) (z5h H) (Reg.intro [10, 11] [] (by kernel_rfl) rfl ⟨rfl, rfl, rfl, rfl, rfl, rfl, rfl, rfl, rfl, rfl, trivial⟩ ⟨(fun _ => ⟨_, rfl, (z0 (Ev.tmp rfl))⟩), (fun _ => ⟨_, rfl, (z6i (ix89 H) (Ev.tmp rfl) (Ev.const _) (by decide) (by decide))⟩), (fun _ => ⟨_, rfl, (z2g (tl3 H) (Pt.ofArr (e := eI64) 2 (k := 0) (Ev.tmp rfl) rfl lI64 rfl (by decide)))⟩), (fun _ => ⟨_, rfl, (zn (e := zm) (y := (gt v2 ((gt y4 v16) 0))) (ix37 H) (Ev.tmp rfl) (Ev.tmp rfl) (h29).1 (z8 h29))⟩), (fun _ => ⟨_, rfl, (z8f (tl48 H) (Pt.rop (Ev.tmp rfl)))⟩), (fun _ => ⟨_, rfl, (z0 (Ev.tmp rfl))⟩), (fun _ => ⟨_, rfl, (z6i (ix89 H) (Ev.tmp rfl) (Ev.const _) (by decide) (by decide))⟩), (fun _ => ⟨_, rfl, (z2g (tl3 H) (Pt.ofArr (e := eI64) 2 (k := 1) (Ev.tmp rfl) rfl lI64 rfl (by decide)))⟩), (fun _ => ⟨_, rfl, (zn (e := zm) (y := (gt v2 ((gt y4 v16) 1))) (ix37 H) (Ev.tmp rfl) (Ev.tmp rfl) (h30).1 (z8 h30))⟩), (fun _ => ⟨_, rfl, (z8f (tl48 H) (Pt.rop (Ev.tmp rfl)))⟩), trivial⟩ ⟨⟨_, rfl, rfl, rfl, rfl, z38 [.int .i64 0, .int .i64 0, .int .i64 0, .int .i64 0, .int .i64 0, .int .i64 0, .int .i64 0, .int .i64 0, .int .i64 0, .int .i64 0, .int .i64 0, .int .i64 0, .int .i64 0, .int .i64 0, .int .i64 0, .int .i64 0, .int .i64 0, .int .i64 0, .int .i64 0, .string ⟨#[]⟩, .slice none 0 0] (ze48 H) rfl fun b34 => ⟨[], rfl, ?_⟩⟩, ⟨_, rfl, rfl, rfl, rfl, z38 [.int .i64 0, .int .i64 0, .int .i64 0, .int .i64 0, .int .i64 0, .int .i64 0, .int .i64 0, .int .i64 0, .int .i64 0, .int .i64 0, .int .i64 0, .int .i64 0, .int .i64 0, .int .i64 0, .int .i64 0, .int .i64 0, .int .i64 0, .int .i64 0, .int .i64 0, .string ⟨#[]⟩, .slice none 0 0] (ze48 H) rfl fun b34 => ⟨[], rfl, ?_⟩⟩, trivial⟩ (fun hc => Bool.noConfusion (hc : false = true)))
    ·
     refine Reg.intro [11] [] (by kernel_rfl) rfl ⟨rfl, rfl, rfl, rfl, rfl, rfl, rfl, rfl, rfl, rfl, trivial⟩ ⟨(fun _ => ⟨_, rfl, (z0 (Ev.tmp rfl))⟩), (fun _ => ⟨_, rfl, (z6i (ix89 H) (Ev.tmp rfl) (Ev.const _) (by decide) (by decide))⟩), (fun _ => ⟨_, rfl, (z2g (tl3 H) (Pt.ofArr (e := eI64) 2 (k := 0) (Ev.tmp rfl) rfl lI64 rfl (by decide)))⟩), (fun _ => ⟨_, rfl, (zn (e := zm) (y := (gt v2 ((gt y4 v16) 0))) (ix37 H) (Ev.tmp rfl) (Ev.tmp rfl) (h29).1 (z8 h29))⟩), (fun _ => ⟨_, rfl, (z8f (tl48 H) (Pt.rop (Ev.tmp rfl)))⟩), (fun _ => ⟨_, rfl, (z0 (Ev.tmp rfl))⟩), (fun _ => ⟨_, rfl, (z6i (ix89 H) (Ev.tmp rfl) (Ev.const _) (by decide) (by decide))⟩), (fun _ => ⟨_, rfl, (z2g (tl3 H) (Pt.ofArr (e := eI64) 2 (k := 1) (Ev.tmp rfl) rfl lI64 rfl (by decide)))⟩), (fun _ => ⟨_, rfl, (zn (e := zm) (y := (gt v2 ((gt y4 v16) 1))) (ix37 H) (Ev.tmp rfl) (Ev.tmp rfl) (h30).1 (z8 h30))⟩), (fun _ => ⟨_, rfl, (z8f (tl48 H) (Pt.rop (Ev.tmp rfl)))⟩), trivial⟩ ⟨⟨_, rfl, rfl, rfl, rfl, z38 [.int .i64 0, .int .i64 0, .int .i64 0, .int .i64 0, .int .i64 0, .int .i64 0, .int .i64 0, .int .i64 0, .int .i64 0, .int .i64 0, .int .i64 0, .int .i64 0, .int .i64 0, .int .i64 0, .int .i64 0, .int .i64 0, .int .i64 0, .int .i64 0, .int .i64 0, .string ⟨#[]⟩, .slice none 0 0] (ze48 H) rfl fun b37 => ⟨[], rfl, ?_⟩⟩, trivial⟩ (fun hc => Bool.noConfusion (hc : false = true))
     refine Reg.intro [12] [] (by kernel_rfl) rfl ⟨rfl, rfl, rfl, rfl, rfl, rfl, rfl, rfl, rfl, rfl, trivial⟩ ⟨(fun _ => ⟨_, rfl, (z0 (Ev.tmp rfl))⟩), (fun _ => ⟨_, rfl, (z6i (ix89 H) (Ev.tmp rfl) (Ev.const _) (by decide) (by decide))⟩), (fun _ => ⟨_, rfl, (z2g (tl3 H) (Pt.ofArr (e := eI64) 2 (k := 0) (Ev.tmp rfl) rfl lI64 rfl (by decide)))⟩), (fun _ => ⟨_, rfl, (zn (e := zm) (y := (gt v2 ((gt y4 v16) 0))) (ix37 H) (Ev.tmp rfl) (Ev.tmp rfl) (h29).1 (z8 h29))⟩), (fun _ => ⟨_, rfl, (z8f (tl48 H) (Pt.rop (Ev.tmp rfl)))⟩), (fun _ => ⟨_, rfl, (z0 (Ev.tmp rfl))⟩), (fun _ => ⟨_, rfl, (z6i (ix89 H) (Ev.tmp rfl) (Ev.const _) (by decide) (by decide))⟩), (fun _ => ⟨_, rfl, (z2g (tl3 H) (Pt.ofArr (e := eI64) 2 (k := 1) (Ev.tmp rfl) rfl lI64 rfl (by decide)))⟩), (fun _ => ⟨_, rfl, (zn (e := zm) (y := (gt v2 ((gt y4 v16) 1))) (ix37 H) (Ev.tmp rfl) (Ev.tmp rfl) (h30).1 (z8 h30))⟩), (fun _ => ⟨_, rfl, (z8f (tl48 H) (Pt.rop (Ev.tmp rfl)))⟩), trivial⟩ ⟨⟨_, rfl, rfl, rfl, rfl, zck 3 (cells := [(iv .i64 0), (iv .i64 0), (iv .i64 0), (iv .i64 0), (iv .i64 0), (iv .i64 0), (iv .i64 0), (iv .i64 0), (iv .i64 0), (iv .i64 0), (iv .i64 0), (iv .i64 0), (iv .i64 0), (iv .i64 0), (iv .i64 0), (iv .i64 0), (iv .i64 0), (iv .i64 0), (iv .i64 0), (eqv (.string (⟨#[]⟩))), (eqv (.slice none 0 0))]) (cs := (zm (gt v2 ((gt y4 v16) 0)))) (out := (zm (gt v2 ((gt y4 v16) 0)))) (tl48 H) (Ev.tmp rfl) (Ce.agg (Ev.tmp rfl)) rfl rfl (Nat.le_of_ble_eq_true rfl) rfl ⟨[], rfl, ?_⟩⟩, trivial⟩ (fun hc => Bool.noConfusion (hc : false = true))
     refine Reg.intro [13] [0, 1, 2, 3, 4] (by kernel_rfl) rfl ⟨rfl, rfl, rfl, rfl, rfl, rfl, rfl, rfl, rfl, rfl, trivial⟩ ⟨(fun hn => Bool.noConfusion (hn : true = false)), (fun hn => Bool.noConfusion (hn : true = false)), (fun hn => Bool.noConfusion (hn : true = false)), (fun hn => Bool.noConfusion (hn : true = false)), (fun hn => Bool.noConfusion (hn : true = false)), (fun _ => ⟨_, rfl, (z0 (Ev.tmp rfl))⟩), (fun _ => ⟨_, rfl, (z6i (ix89 H) (Ev.tmp rfl) (Ev.const _) (by decide) (by decide))⟩), (fun _ => ⟨_, rfl, (z2g (tl3 H) (Pt.ofArr (e := eI64) 2 (k := 1) (Ev.tmp rfl) rfl lI64 rfl (by decide)))⟩), (fun _ => ⟨_, rfl, (zn (e := zm) (y := (gt v2 ((gt y4 v16) 1))) (ix37 H) (Ev.tmp rfl) (Ev.tmp rfl) (h30).1 (z8 h30))⟩), (fun _ => ⟨_, rfl, (z8f (tl48 H) (Pt.rop (Ev.tmp rfl)))⟩), trivial⟩ ⟨⟨_, rfl, rfl, rfl, rfl, zck 4 (cells := [(iv .i64 0), (iv .i64 0), (iv .i64 0), (iv .i64 0), (iv .i64 0), (iv .i64 0), (iv .i64 0), (iv .i64 0), (iv .i64 0), (iv .i64 0), (iv .i64 0), (iv .i64 0), (iv .i64 0), (iv .i64 0), (iv .i64 0), (iv .i64 0), (iv .i64 0), (iv .i64 0), (iv .i64 0), (eqv (.string (⟨#[]⟩))), (eqv (.slice none 0 0))]) (cs := (zm (gt v2 ((gt y4 v16) 1)))) (out := (zm (gt v2 ((gt y4 v16) 1)))) (tl48 H) (Ev.tmp rfl) (Ce.agg (Ev.tmp rfl)) rfl rfl (Nat.le_of_ble_eq_true rfl) rfl ⟨[], rfl, ?_⟩⟩, trivial⟩ (fun hc => Bool.noConfusion (hc : false = true))
     refine Reg.intro [] [0, 1, 2, 3, 4, 5, 6, 7, 8, 9] (by kernel_rfl) rfl ⟨rfl, rfl, rfl, rfl, rfl, rfl, rfl, rfl, rfl, rfl, trivial⟩ ⟨(fun hn => Bool.noConfusion (hn : true = false)), (fun hn => Bool.noConfusion (hn : true = false)), (fun hn => Bool.noConfusion (hn : true = false)), (fun hn => Bool.noConfusion (hn : true = false)), (fun hn => Bool.noConfusion (hn : true = false)), (fun hn => Bool.noConfusion (hn : true = false)), (fun hn => Bool.noConfusion (hn : true = false)), (fun hn => Bool.noConfusion (hn : true = false)), (fun hn => Bool.noConfusion (hn : true = false)), (fun hn => Bool.noConfusion (hn : true = false)), trivial⟩ trivial (fun _ => ?_)
     exact AtX.to (hJ25 (b34, b37) h) [0, 1, 3, 4] ⟨⟨_, rfl, Ent.refl⟩, ⟨_, rfl, Ent.refl⟩, ⟨_, rfl, Ent.refl⟩, ⟨_, rfl, Ent.refl⟩, ⟨_, rfl, Ent.refl⟩, ⟨_, rfl, Ent.refl⟩, ⟨_, rfl, Ent.refl⟩, trivial⟩ ⟨⟨_, rfl, EntH.refl⟩, ⟨_, rfl, EntH.refl⟩, ⟨_, rfl, EntH.refl⟩, ⟨_, rfl, EntH.refl⟩, trivial⟩ rfl
    ·
     refine Reg.intro [10] [] (by kernel_rfl) rfl ⟨rfl, rfl, rfl, rfl, rfl, rfl, rfl, rfl, rfl, rfl, trivial⟩ ⟨(fun _ => ⟨_, rfl, (z0 (Ev.tmp rfl))⟩), (fun _ => ⟨_, rfl, (z6i (ix89 H) (Ev.tmp rfl) (Ev.const _) (by decide) (by decide))⟩), (fun _ => ⟨_, rfl, (z2g (tl3 H) (Pt.ofArr (e := eI64) 2 (k := 0) (Ev.tmp rfl) rfl lI64 rfl (by decide)))⟩), (fun _ => ⟨_, rfl, (zn (e := zm) (y := (gt v2 ((gt y4 v16) 0))) (ix37 H) (Ev.tmp rfl) (Ev.tmp rfl) (h29).1 (z8 h29))⟩), (fun _ => ⟨_, rfl, (z8f (tl48 H) (Pt.rop (Ev.tmp rfl)))⟩), (fun _ => ⟨_, rfl, (z0 (Ev.tmp rfl))⟩), (fun _ => ⟨_, rfl, (z6i (ix89 H) (Ev.tmp rfl) (Ev.const _) (by decide) (by decide))⟩), (fun _ => ⟨_, rfl, (z2g (tl3 H) (Pt.ofArr (e := eI64) 2 (k := 1) (Ev.tmp rfl) rfl lI64 rfl (by decide)))⟩), (fun _ => ⟨_, rfl, (zn (e := zm) (y := (gt v2 ((gt y4 v16) 1))) (ix37 H) (Ev.tmp rfl) (Ev.tmp rfl) (h30).1 (z8 h30))⟩), (fun _ => ⟨_, rfl, (z8f (tl48 H) (Pt.rop (Ev.tmp rfl)))⟩), trivial⟩ ⟨⟨_, rfl, rfl, rfl, rfl, z38 [.int .i64 0, .int .i64 0, .int .i64 0, .int .i64 0, .int .i64 0, .int .i64 0, .int .i64 0, .int .i64 0, .int .i64 0, .int .i64 0, .int .i64 0, .int .i64 0, .int .i64 0, .int .i64 0, .int .i64 0, .int .i64 0, .int .i64 0, .int .i64 0, .int .i64 0, .string ⟨#[]⟩, .slice none 0 0] (ze48 H) rfl fun b37 => ⟨[], rfl, ?_⟩⟩, trivial⟩ (fun hc => Bool.noConfusion (hc : false = true))
     refine Reg.intro [12] [] (by kernel_rfl) rfl ⟨rfl, rfl, rfl, rfl, rfl, rfl, rfl, rfl, rfl, rfl, trivial⟩ ⟨(fun _ => ⟨_, rfl, (z0 (Ev.tmp rfl))⟩), (fun _ => ⟨_, rfl, (z6i (ix89 H) (Ev.tmp rfl) (Ev.const _) (by decide) (by decide))⟩), (fun _ => ⟨_, rfl, (z2g (tl3 H) (Pt.ofArr (e := eI64) 2 (k := 0) (Ev.tmp rfl) rfl lI64 rfl (by decide)))⟩), (fun _ => ⟨_, rfl, (zn (e := zm) (y := (gt v2 ((gt y4 v16) 0))) (ix37 H) (Ev.tmp rfl) (Ev.tmp rfl) (h29).1 (z8 h29))⟩), (fun _ => ⟨_, rfl, (z8f (tl48 H) (Pt.rop (Ev.tmp rfl)))⟩), (fun _ => ⟨_, rfl, (z0 (Ev.tmp rfl))⟩), (fun _ => ⟨_, rfl, (z6i (ix89 H) (Ev.tmp rfl) (Ev.const _) (by decide) (by decide))⟩), (fun _ => ⟨_, rfl, (z2g (tl3 H) (Pt.ofArr (e := eI64) 2 (k := 1) (Ev.tmp rfl) rfl lI64 rfl (by decide)))⟩), (fun _ => ⟨_, rfl, (zn (e := zm) (y := (gt v2 ((gt y4 v16) 1))) (ix37 H) (Ev.tmp rfl) (Ev.tmp rfl) (h30).1 (z8 h30))⟩), (fun _ => ⟨_, rfl, (z8f (tl48 H) (Pt.rop (Ev.tmp rfl)))⟩), trivial⟩ ⟨⟨_, rfl, rfl, rfl, rfl, zck 4 (cells := [(iv .i64 0), (iv .i64 0), (iv .i64 0), (iv .i64 0), (iv .i64 0), (iv .i64 0), (iv .i64 0), (iv .i64 0), (iv .i64 0), (iv .i64 0), (iv .i64 0), (iv .i64 0), (iv .i64 0), (iv .i64 0), (iv .i64 0), (iv .i64 0), (iv .i64 0), (iv .i64 0), (iv .i64 0), (eqv (.string (⟨#[]⟩))), (eqv (.slice none 0 0))]) (cs := (zm (gt v2 ((gt y4 v16) 0)))) (out := (zm (gt v2 ((gt y4 v16) 0)))) (tl48 H) (Ev.tmp rfl) (Ce.agg (Ev.tmp rfl)) rfl rfl (Nat.le_of_ble_eq_true rfl) rfl ⟨[], rfl, ?_⟩⟩, trivial⟩ (fun hc => Bool.noConfusion (hc : false = true))
     refine Reg.intro [13] [0, 1, 2, 3, 4] (by kernel_rfl) rfl ⟨rfl, rfl, rfl, rfl, rfl, rfl, rfl, rfl, rfl, rfl, trivial⟩ ⟨(fun hn => Bool.noConfusion (hn : true = false)), (fun hn => Bool.noConfusion (hn : true = false)), (fun hn => Bool.noConfusion (hn : true = false)), (fun hn => Bool.noConfusion (hn : true = false)), (fun hn => Bool.noConfusion (hn : true = false)), (fun _ => ⟨_, rfl, (z0 (Ev.tmp rfl))⟩), (fun _ => ⟨_, rfl, (z6i (ix89 H) (Ev.tmp rfl) (Ev.const _) (by decide) (by decide))⟩), (fun _ => ⟨_, rfl, (z2g (tl3 H) (Pt.ofArr (e := eI64) 2 (k := 1) (Ev.tmp rfl) rfl lI64 rfl (by decide)))⟩), (fun _ => ⟨_, rfl, (zn (e := zm) (y := (gt v2 ((gt y4 v16) 1))) (ix37 H) (Ev.tmp rfl) (Ev.tmp rfl) (h30).1 (z8 h30))⟩), (fun _ => ⟨_, rfl, (z8f (tl48 H) (Pt.rop (Ev.tmp rfl)))⟩), trivial⟩ ⟨⟨_, rfl, rfl, rfl, rfl, zck 3 (cells := [(iv .i64 0), (iv .i64 0), (iv .i64 0), (iv .i64 0), (iv .i64 0), (iv .i64 0), (iv .i64 0), (iv .i64 0), (iv .i64 0), (iv .i64 0), (iv .i64 0), (iv .i64 0), (iv .i64 0), (iv .i64 0), (iv .i64 0), (iv .i64 0), (iv .i64 0), (iv .i64 0), (iv .i64 0), (eqv (.string (⟨#[]⟩))), (eqv (.slice none 0 0))]) (cs := (zm (gt v2 ((gt y4 v16) 1)))) (out := (zm (gt v2 ((gt y4 v16) 1)))) (tl48 H) (Ev.tmp rfl) (Ce.agg (Ev.tmp rfl)) rfl rfl (Nat.le_of_ble_eq_true rfl) rfl ⟨[], rfl, ?_⟩⟩, trivial⟩ (fun hc => Bool.noConfusion (hc : false = true))
     refine Reg.intro [] [0, 1, 2, 3, 4, 5, 6, 7, 8, 9] (by kernel_rfl) rfl ⟨rfl, rfl, rfl, rfl, rfl, rfl, rfl, rfl, rfl, rfl, trivial⟩ ⟨(fun hn => Bool.noConfusion (hn : true = false)), (fun hn => Bool.noConfusion (hn : true = false)), (fun hn => Bool.noConfusion (hn : true = false)), (fun hn => Bool.noConfusion (hn : true = false)), (fun hn => Bool.noConfusion (hn : true = false)), (fun hn => Bool.noConfusion (hn : true = false)), (fun hn => Bool.noConfusion (hn : true = false)), (fun hn => Bool.noConfusion (hn : true = false)), (fun hn => Bool.noConfusion (hn : true = false)), (fun hn => Bool.noConfusion (hn : true = false)), trivial⟩ trivial (fun _ => ?_)
     exact AtX.to (hJ25 (b37, b34) h) [0, 1, 4, 3] ⟨⟨_, rfl, Ent.refl⟩, ⟨_, rfl, Ent.refl⟩, ⟨_, rfl, Ent.refl⟩, ⟨_, rfl, Ent.refl⟩, ⟨_, rfl, Ent.refl⟩, ⟨_, rfl, Ent.refl⟩, ⟨_, rfl, Ent.refl⟩, trivial⟩ ⟨⟨_, rfl, EntH.refl⟩, ⟨_, rfl, EntH.refl⟩, ⟨_, rfl, EntH.refl⟩, ⟨_, rfl, EntH.refl⟩, trivial⟩ rfl
  ·
   refine z2.exit (AtX.then_exit (AtX.then_exit (AtX.in_hit ?_)))
   exact AtX.to (hJ11 (v17, sv18) h) [0] ⟨⟨_, rfl, Ent.refl⟩, trivial⟩ ⟨⟨_, rfl, EntH.refl⟩, trivial⟩ rfl
theorem zc7 {P : Program} (H : P = Try.prog) (φ : Nat) (v1 : Pool) (v2 : Int) (v3 : Int) (r : (Int)) (h : zao φ v1 v2 v3 = some r) : z0z P 29 [(agg (z2i v1)), (iv .i64 v2), (iv .i64 v3)] (fun x news => x = (iv .i64 r) ∧ news = []) := by
 unfold zao at h
 refine z0z.of_code' 31 (fn29 H) rfl rfl (Nat.le_of_ble_eq_true rfl) fun w0 base r0 wI => ?_
 refine cl [0, 1, 2] [] rfl rfl rfl (cs (cr [0, 1] rfl (n1 rfl (z7i (Ce.agg (mv rfl)) fun b4 => q1 rfl (z1 ct) (rn (al [1, 2, 3] [0] rfl rfl rfl (sq (cs (cs (cr [0, 1, 2] rfl (q1 rfl (ln (tl36 H) ((Pt.box 0 (mv rfl) rfl rfl).take 9 (cs' := (z2i v1)) rfl) rfl) ?_)))))))))))
 refine zp h fun y5 ey5 h => q1 rfl (oQ (zn7 H) (z8n H φ v1 _ ey5) z5 ⟨ef (mv rfl), trivial⟩) (q1 rfl (z1 (mv rfl)) (rn (al [1, 2, 3, 7] [0] rfl rfl rfl (sq (cs (cr [0, 1] rfl (q1 rfl (z0 (mv rfl)) (q1 rfl (z6g (mv rfl) ct) (rn (al [1, 2, 3, 7, 11] [0] rfl rfl rfl ?_))))))))))
 refine sq ?_
 refine cI h rfl (fun c6 h => ?_) (fun c6 h => ?_)
 ·
  refine cs (cr [0, 1] rfl (q1 rfl (z0 (mv rfl)) (q1 rfl (z1 (mv rfl)) (rn (al [6] [] rfl rfl rfl (sq (z2.ret (AtX.then_ret (AtX.ret' (iv .i64 y5) (zq.one Try.results29 rfl) [] [] trivial rfl ?_)))))))))
  obtain rfl := Option.some.inj h
  exact ⟨rfl, rfl⟩
 ·
  refine z2.skip (al [1, 2, 3] [0] rfl rfl rfl (sq (cs (cs (cr [0, 1, 2, 3, 4, 5, 6, 7, 8, 9, 10, 11, 12, 13, 14, 15, 16, 17] rfl (q1 rfl (z0 (mv rfl)) (q1 rfl (z10 (mv rfl) ct) (q1 rfl (z0 (mv rfl)) (g1 rfl rfl (fun g7 => z0 (mv rfl)) (g1 rfl rfl (fun g8 => z3 (zde H) (mv rfl)) (g1 rfl rfl (fun g9 => z3 (zcz H) (mc rfl g9)) ?_)))))))))))
  refine g1 rfl rfl (fun g10 => lb (tl27 H) 0 (mc rfl g10) rfl rfl) (g1 rfl rfl (fun g11 => z0x (il27 H) (mc rfl g11)) (g1 rfl rfl (fun g12 => z9l (mc rfl g12) (mc rfl g12)) (q1 rfl (opOr (mv rfl) ct (fun g13 => (mc rfl g13))) (q1 rfl (z0 (mv rfl)) (g1 rfl rfl (fun g14 => z0 (mv rfl)) (g1 rfl rfl (fun g15 => z10 (mc rfl g15) ct) (q1 rfl (opOr (mv rfl) ct (fun g16 => (mc rfl g16))) (q1 rfl (z0 (mv rfl)) (g1 rfl rfl (fun g17 => z0 (mv rfl)) (g1 rfl rfl (fun g18 => z49 (mc rfl g18) ct) (q1 rfl (opOr (mv rfl) ct (fun g19 => (mc rfl g19))) ?_)))))))))))
  refine rn (al [30] [] rfl rfl rfl (sq ?_))
  refine cI h rfl (fun c20 h => ?_) (fun c20 h => ?_)
  ·
   refine cs (cr [0] rfl (q1 rfl (z1 ct) (rn (al [6] [] rfl rfl rfl (sq (z2.ret (AtX.then_ret (AtX.ret' (iv .i64 1) (zq.one Try.results29 rfl) [] [] trivial rfl ?_))))))))
   obtain rfl := Option.some.inj h
   exact ⟨rfl, rfl⟩
  ·
   refine z2.skip (al [] [] rfl rfl rfl (sq (cs (cr [0] rfl (q1 rfl (z1 ct) (rn (al [6] [] rfl rfl rfl (sq (z2.ret (AtX.ret' (iv .i64 0) (zq.one Try.results29 rfl) [] [] trivial rfl ?_))))))))))
   obtain rfl := Option.some.inj h
   exact ⟨rfl, rfl⟩
theorem zch {P : Program} (H : P = Try.prog) (φ : Nat) (v1 : Pool) (v2 : (List zo)) (v3 : Int) (r : ((List z05))) (h : zah φ v1 v2 v3 = some r) : z0z P 30 [(agg (z2i v1)), (ro zm 21 v2), (iv .i64 v3)] (zgp r) := by
 unfold zah at h
 refine z0z.of_code' 72 (fn30 H) rfl rfl (Nat.le_of_ble_eq_true rfl) fun w0 base r0 wI => ?_
 refine cl [0, 1, 2] [] rfl rfl rfl (cs (z2.addNil 64 z2v 5 (cr [0, 1] rfl (n1 rfl (z7i (Ce.agg (mv rfl)) fun b4 => q1 rfl (z1 ct) (rn (al [1, 2, 3] [1] rfl rfl rfl (sq (cs (ckE h fun h5 h => ckE h fun h6 h => ?_))))))))))
 refine z2.draw (QR := [(0, _), (1, _), (2, _), (3, _), (4, _), (5, _), (6, _), (7, _), (8, _), (9, _), (10, _), (11, _), (12, _), (13, _)]) (tab := [(some 11, []), (some 12, [0]), (some 13, [1]), (some 14, []), (some 15, [3]), (some 16, [4]), (some 17, []), (some 18, [5, 6]), (some 19, [7]), (some 20, [8]), (some 21, [2, 9]), (some 22, [10]), (some 23, [11]), (some 24, [12]), (some 25, [13]), (some 7, [14, 0, 1, 2, 3, 4, 5, 6, 7, 8, 9, 10, 11, 12, 13, 14])]) (z5h H) (Reg.intro [14] [] (by kernel_rfl) rfl (an rfl) ⟨(qr rfl (z3 (zar H) (mv rfl))), (qr rfl (z3 (zat H) (mv rfl))), (qr rfl (lb (tl22 H) 0 (mv rfl) rfl rfl)), (qr rfl (z3 (zde H) (mv rfl))), (qr rfl (z3 (zcz H) (mv rfl))), (qr rfl (lb (tl27 H) 0 (mv rfl) rfl rfl)), (qr rfl (z0 (mv rfl))), (qr rfl (zn (ix27 H) (mv rfl) (mv rfl) (h5).1 (z8 h5))), (qr rfl (z2a (zlc H) (mv rfl) (cs' := [(iv .i64 ((gt v1.fFleet.fWagons v3).fHome))]) 1 rfl)), (qr rfl (lr (tl3 H) (mv rfl))), (qr rfl (zn (ix22 H) (mv rfl) (mv rfl) (h6).1 (z8 h6))), (qr rfl (z2a (zd6 H) (mv rfl) (cs' := [(iv .i64 ((gt v1.fNetwork.fPlaces ((gt v1.fFleet.fWagons v3).fHome)).fRailway))]) 1 rfl)), (qr rfl (lr (tl3 H) (mv rfl))), (qr rfl (z46 [.int .i64 0, .int .i64 0, .int .i64 0, .int .i64 0, .int .i64 0] [(0, [(iv .i64 ((gt v1.fNetwork.fPlaces ((gt v1.fFleet.fWagons v3).fHome)).fRailway))])] (out := [(iv .i64 ((gt v1.fNetwork.fPlaces ((gt v1.fFleet.fWagons v3).fHome)).fRailway)), (iv .i64 0), (iv .i64 0), (iv .i64 0), (iv .i64 0)]) (ze64 H) rfl (tb64 H) ⟨(zqh H), Nat.le_of_ble_eq_true rfl, (Ce.one (mv rfl) (One.eqv rfl)), trivial⟩ rfl)), trivial⟩ ⟨⟨_, rfl, rfl, rfl, rfl, z2d [(z05.mk (gt v1.fNetwork.fPlaces ((gt v1.fFleet.fWagons v3).fHome)).fRailway (Span.mk 0 0) (Ref.mk 0 0))] (sl49 H) z97 rfl (by decide) ⟨rfl, (Ce.agg (mv rfl)), trivial⟩ fun sv9 => ⟨[(15, (eqv sv9))], rfl, ?_⟩⟩, trivial⟩ ft)
 refine Reg.intro [] [0, 1, 2, 3, 4, 5, 6, 7, 8, 9, 10, 11, 12, 13] (by kernel_rfl) rfl (an rfl) ⟨nf, nf, nf, nf, nf, nf, nf, nf, nf, nf, nf, nf, nf, nf, (qr rfl (z1 (mv rfl))), trivial⟩ trivial (fun _ => al [1, 2, 3, 7] [0, 1] rfl rfl rfl (sq (cs (cs (cr [0, 1, 2, 3, 4] rfl (q1 rfl (ln (tl36 H) ((Pt.box 0 (mv rfl) rfl rfl).take 9 (cs' := (z2i v1)) rfl) rfl) (q1 rfl (z0 (mv rfl)) (zp h fun y10 ey10 h => n1 rfl (oF (zkv H) (z81 H φ v1 v2 _ ey10) ⟨ef (mv rfl), ef (mv rfl), trivial⟩ fun x13 nw14 hk12 => ?_)))))))))
 obtain ⟨sv11, rfl, rfl⟩ := hk12
 refine ⟨z5, z6h ⟨z5d z68, trivial⟩, ?_⟩
 refine q1 rfl (z9e 2 (il53 H) (mv rfl) rfl) (q1 rfl (z0 ct) (rn (al [2, 7, 28, 29, 30] [1, 2] rfl rfl rfl (sq ?_))))
 refine z2.join (fun z : (List z05) × Value => (z4a φ) z.1) r (fun z => ⟨zd.of [(7, (eqv z.2))], [(row 64 z2v 5 z.1 z.2)]⟩) (fun z h => ?_) (fun hJ17 => ?_)
 ·
  obtain ⟨v15, sv16⟩ := z
  replace h : (z4a φ) v15 = some r := h
  unfold z4a at h
  refine al [7] [0] rfl rfl rfl (sq (cs (cr [0, 1] rfl (q1 rfl (z0 (mv rfl)) (q1 rfl (z1 (mv rfl)) (rn (al [6] [0] rfl rfl rfl (sq (z2.ret (AtX.ret' (eqv sv16) (zq.one Try.results30 rfl) [0] [(row 64 z2v 5 v15 sv16)] (ol rfl) rfl ?_))))))))))
  obtain rfl := Option.some.inj h
  exact ⟨sv16, rfl, rfl⟩
 ·
  refine z2.block ?_
  refine z2.to (z2.loop (fun n (z : Int × (List z05) × Value) => z4b φ v3 y10 (z4a φ) n z.1 z.2.1) r (fun z => ⟨zd.of [(2, (iv .i64 v3)), (7, (eqv z.2.2)), (28, (eqv sv11)), (29, (iv .i64 (y10.length : Int))), (30, (iv .i64 z.1))], [(row 64 z2v 5 z.2.1 z.2.2), (row 70 z6 10 y10 sv11)]⟩) (fun z => rfl) (fun n21 z ih21 h => ?_) φ (0, [(z05.mk (gt v1.fNetwork.fPlaces ((gt v1.fFleet.fWagons v3).fHome)).fRailway (Span.mk 0 0) (Ref.mk 0 0))], sv9) h) [0, 1] (sl rfl) (ol rfl) rfl
  obtain ⟨v18, v19, sv20⟩ := z
  replace h : z4b φ v3 y10 (z4a φ) (n21 + 1) v18 v19 = some r := h
  rw [z4b] at h
  refine cs (cr [0] rfl (q1 rfl (z10 (mv rfl) (mv rfl)) (rn (al [2, 7, 28, 29, 30, 31] [0, 1] rfl rfl rfl (sq (cs ?_))))))
  refine cI h rfl (fun c22 h => ?_) (fun c22 h => ?_)
  ·
   refine z2.skip (AtX.le' [(2, (iv .i64 v3)), (7, (eqv sv20)), (28, (eqv sv11)), (29, (iv .i64 (y10.length : Int))), (30, (iv .i64 v18))] [0, 1] [(row 64 z2v 5 v19 sv20), (row 70 z6 10 y10 sv11)] (sl rfl) (ol rfl) rfl (AtX.seq ?_))
   refine z2.seq ?_
   refine z2.block ?_
   refine z2.seq ?_
   refine z2.region' [0, 1, 2, 3] rfl ?_
   refine ckE h fun h23 h => ze.cons_q (rowp sv11 ((v18 : Int).toNat * 10)) rfl rfl rfl (zb 1 (ix53 H) (mv rfl) rfl (mv rfl) (h23).1 (h23).2) (ze.cons_q (agg (z6 (gt y10 v18))) rfl rfl rfl (z8f (tl70 H) ((Pt.row _ 1 (k := (v18 : Int).toNat) (fo := 0) z0o (Ev.tmp rfl) rfl (by omega) (z8 h23) rfl).take 10 (cs' := (z6 (gt y10 v18))) rfl)) (ze.cons rfl rfl rfl (z38 [.int .i64 0, .int .i64 0, .int .i64 0, .int .i64 0, .int .i64 0, .int .i64 0, .int .i64 0, .int .i64 0, .int .i64 0, .int .i64 0] (ze70 H) rfl fun b24 => ze.cons rfl rfl rfl (zck 2 (cells := [(iv .i64 0), (iv .i64 0), (iv .i64 0), (iv .i64 0), (iv .i64 0), (iv .i64 0), (iv .i64 0), (iv .i64 0), (iv .i64 0), (iv .i64 0)]) (cs := (z6 (gt y10 v18))) (out := (z6 (gt y10 v18))) (tl70 H) (Ev.tmp rfl) (Ce.agg (Ev.tmp rfl)) rfl rfl (Nat.le_of_ble_eq_true rfl) rfl (ze.nil (AtX.le' [(2, (iv .i64 v3)), (7, (eqv sv20)), (9, (eqv (.pointer (some ⟨b24, 0, none⟩)))), (28, (eqv sv11)), (29, (iv .i64 (y10.length : Int))), (30, (iv .i64 v18))] [0, 1, 2] [(row 64 z2v 5 v19 sv20), (row 70 z6 10 y10 sv11), (box b24 70 (z6 (gt y10 v18)))] ⟨⟨_, rfl, Ent.refl⟩, ⟨_, rfl, Ent.refl⟩, ⟨_, rfl, Ent.refl⟩, ⟨_, rfl, Ent.refl⟩, ⟨_, rfl, Ent.refl⟩, ⟨_, rfl, Ent.refl⟩, trivial⟩ ⟨⟨_, rfl, EntH.refl⟩, ⟨_, rfl, EntH.refl⟩, ⟨_, rfl, EntH.refl⟩, trivial⟩ rfl (AtX.seq ?_)))))))
   refine z2.seq ?_
   refine z2.region' [0, 1, 2, 3, 4, 5, 6, 7] rfl ?_
   refine ze.cons_q (eqv sv20) rfl rfl rfl (z0 (mv rfl)) (ze.cons_q (eqv sv20) rfl rfl rfl (z0 (mv rfl)) (ze.cons_q (iv .i64 (v19.length : Int)) rfl rfl rfl (z9e 0 (il49 H) (mv rfl) rfl) (ze.cons_q (iv .i64 (W ((v19.length : Int) - 1))) rfl rfl rfl (z2f (mv rfl) (Ev.const _)) (ckE h fun h25 h => ze.cons_q (rowp sv20 (((W ((v19.length : Int) - 1)) : Int).toNat * 5)) rfl rfl rfl (zb 0 (ix49 H) (mv rfl) rfl (mv rfl) (h25).1 (h25).2) (ze.cons_q (agg (z2v (gt v19 (W ((v19.length : Int) - 1))))) rfl rfl rfl (z8f (tl64 H) ((Pt.row _ 0 (k := ((W ((v19.length : Int) - 1)) : Int).toNat) (fo := 0) z97 (Ev.tmp rfl) rfl (by omega) (z8 h25) rfl).take 5 (cs' := (z2v (gt v19 (W ((v19.length : Int) - 1))))) rfl)) (n1 rfl (z38 _ (ze64 H) rfl fun b26 => n1 rfl (sto 3 (tl64 H) (mv rfl) (Ce.agg (mv rfl)) rfl rfl rfl rfl (rn (al [2, 7, 9, 10, 28, 29, 30] [0, 1, 2, 3] rfl rfl rfl (sq ?_)))))))))))
   refine cs (cr [0, 1, 2, 3, 4, 5, 6, 7, 8, 9, 10, 11, 12, 13, 14, 15, 16, 17, 18] rfl (q1 rfl (z3 (znd H) (mv rfl)) (q1 rfl (lb (tl3 H) 2 (mv rfl) rfl rfl) (q1 rfl (z0 (mv rfl)) (q1 rfl (z61 (mv rfl) (mv rfl)) (q1 rfl (z0 (mv rfl)) (g1 rfl rfl (fun g27 => z3 (zna H) (mv rfl)) (g1 rfl rfl (fun g28 => lb (tl3 H) 2 (mc rfl g28) rfl rfl) (g1 rfl rfl (fun g29 => z3 (zrm H) (mv rfl)) (g1 rfl rfl (fun g30 => lb (tl3 H) 3 (mc rfl g30) rfl rfl) (g1 rfl rfl (fun g31 => z61 (mc rfl g31) (mc rfl g31)) ?_)))))))))))
   refine q1 rfl (z36 (mv rfl) (fun g32 => (mc rfl g32)) ct) (q1 rfl (z0 (mv rfl)) (g1 rfl rfl (fun g33 => z3 (ze0 H) (mv rfl)) (g1 rfl rfl (fun g34 => lb (tl3 H) 2 (mc rfl g34) rfl rfl) (g1 rfl rfl (fun g35 => z3 (zje H) (mv rfl)) (g1 rfl rfl (fun g36 => z3 (zgc H) (mc rfl g36)) (g1 rfl rfl (fun g37 => lb (tl3 H) 3 (mc rfl g37) rfl rfl) (g1 rfl rfl (fun g38 => z49 (mc rfl g38) (mc rfl g38)) (q1 rfl (z36 (mv rfl) (fun g39 => (mc rfl g39)) ct) (rn (al [2, 7, 9, 28, 29, 30, 58] [0, 1, 2] rfl rfl rfl (sq ?_)))))))))))
   refine z2.join (fun z : (List z05) × Value => (z7m φ v18 (z4b φ v3 y10 (z4a φ) n21)) z.1) r (fun z => ⟨zd.of [(2, (iv .i64 v3)), (7, (eqv z.2)), (28, (eqv sv11)), (29, (iv .i64 (y10.length : Int))), (30, (iv .i64 v18))], [(row 64 z2v 5 z.1 z.2), (row 70 z6 10 y10 sv11)]⟩) (fun z h => ?_) (fun hJ42 => ?_)
   ·
    obtain ⟨v40, sv41⟩ := z
    replace h : (z7m φ v18 (z4b φ v3 y10 (z4a φ) n21)) v40 = some r := h
    unfold z7m at h
    refine AtX.in_normal (al [2, 7, 28, 29, 30] [0, 1] rfl rfl rfl (sq (cr [0, 1] rfl (q1 rfl (z0g (mv rfl) ct) (q1 rfl (z0 (mv rfl)) (rn ?_))))))
    exact AtX.to (ih21 ((W (v18 + 1)), v40, sv41) h) [0, 1] (sl rfl) (ol rfl) rfl
   ·
    refine cI h rfl (fun c43 h => ?_) (fun c43 h => ?_)
    ·
     refine cr [0, 1, 2, 3, 4, 5, 6, 7, 8, 9, 10, 11] rfl (q1 rfl (z0 (mv rfl)) (q1 rfl (z3 (zn1 H) (mv rfl)) (q1 rfl (lb (tl3 H) 2 (mv rfl) rfl rfl) (q1 rfl (z3 (ze0 H) (mv rfl)) (q1 rfl (lb (tl3 H) 2 (mv rfl) rfl rfl) (q1 rfl (z46 [.int .i64 0, .int .i64 0] [(0, [(iv .i64 ((gt y10 v18).fAt))])] (out := [(iv .i64 ((gt y10 v18).fAt)), (iv .i64 0)]) (ze62 H) rfl (tb62 H) ⟨(zs8 H), Nat.le_of_ble_eq_true rfl, (Ce.one (mv rfl) (One.eqv rfl)), trivial⟩ rfl) (q1 rfl (z3 (zsn H) (mv rfl)) (q1 rfl (ln (tl43 H) ((Pt.box 2 (mv rfl) rfl rfl).take 2 (cs' := (eRef (gt y10 v18).fReceive)) rfl) rfl) (q1 rfl (z46 [.int .i64 0, .int .i64 0, .int .i64 0, .int .i64 0, .int .i64 0] [(0, [(iv .i64 ((gt y10 v18).fTo))]), (1, [(iv .i64 ((gt y10 v18).fAt)), (iv .i64 0)]), (3, (eRef (gt y10 v18).fReceive))] (out := [(iv .i64 ((gt y10 v18).fTo)), (iv .i64 ((gt y10 v18).fAt)), (iv .i64 0), (iv .i64 ((gt y10 v18).fReceive.fRailway)), (iv .i64 ((gt y10 v18).fReceive.fNo))]) (ze64 H) rfl (tb64 H) ⟨(zqh H), Nat.le_of_ble_eq_true rfl, (Ce.one (mv rfl) (One.eqv rfl)), ⟨(zpx H), Nat.le_of_ble_eq_true rfl, (Ce.agg (mv rfl)), ⟨(zrn H), Nat.le_of_ble_eq_true rfl, (Ce.agg (mv rfl)), trivial⟩⟩⟩ rfl) (n1 rfl (z2d (e := z2v) [(z05.mk (gt y10 v18).fTo (Span.mk (gt y10 v18).fAt 0) (gt y10 v18).fReceive)] (sl49 H) z97 rfl (by decide) ⟨rfl, (Ce.agg (mv rfl)), trivial⟩ fun sv44 => ckE h fun h45 h => ?_)))))))))))
     refine n1 rfl (zcj 0 (l := v19) (m := [(z05.mk (gt y10 v18).fTo (Span.mk (gt y10 v18).fAt 0) (gt y10 v18).fReceive)]) (sl49 H) z97 (mv rfl) rfl (Src.row 3 (mv rfl) rfl) h45 (zbz (by decide) h45) fun sv46 => q1 rfl (z1 (mv rfl)) (rn ?_))
     exact AtX.to (hJ42 ((v19 ++ [(z05.mk (gt y10 v18).fTo (Span.mk (gt y10 v18).fAt 0) (gt y10 v18).fReceive)]), sv46) h) [0, 1] (sl rfl) (ol rfl) rfl
    ·
     refine z2.skip ?_
     exact AtX.to (hJ42 (v19, sv20) h) [0, 1] (sl rfl) (ol rfl) rfl
  ·
   refine z2.exit (AtX.then_exit (AtX.then_exit (AtX.in_hit ?_)))
   exact AtX.to (hJ17 (v19, sv20) h) [0] (sl rfl) (ol rfl) rfl
theorem zcf {P : Program} (H : P = Try.prog) (φ : Nat) (v1 : Pool) (v2 : (List zo)) (v3 : Int) (v4 : Int) (r : ((List z05) × Int)) (h : zag φ v1 v2 v3 v4 = some r) : z0z P 12 [(agg (z2i v1)), (ro zm 21 v2), (iv .i64 v3), (iv .i64 v4)] (zgl r) := by
 unfold zag at h
 refine z0z.of_code' 58 (fn12 H) rfl rfl (Nat.le_of_ble_eq_true rfl) fun w0 base r0 wI => ?_
 refine cl [0, 1, 2, 3] [] rfl rfl rfl (cs (z2.addNil 64 z2v 5 (cr [0, 1, 2] rfl (n1 rfl (z7i (Ce.agg (mv rfl)) fun b5 => q1 rfl (z1 ct) (q1 rfl (z1 ct) (rn (al [1, 2, 3, 4] [1] rfl rfl rfl (sq (cs (cs ?_)))))))))))
 refine cr [0, 1, 2, 3, 4] rfl (q1 rfl (ln (tl36 H) ((Pt.box 0 (mv rfl) rfl rfl).take 9 (cs' := (z2i v1)) rfl) rfl) (q1 rfl (z0 (mv rfl)) (q1 rfl (z0 (mv rfl)) (zp h fun y6 ey6 h => q1 rfl (oQ (zsm H) (zc7 H φ v1 v3 v4 _ ey6) z5 ⟨ef (mv rfl), ef (mv rfl), ef (mv rfl), trivial⟩) (q1 rfl (z1 (mv rfl)) (rn (al [1, 2, 3, 4, 10] [0] rfl rfl rfl (sq (cs (cr [0, 1] rfl ?_))))))))))
 refine q1 rfl (z0 (mv rfl)) (q1 rfl (z6g (mv rfl) ct) (rn (al [1, 2, 3, 4, 10, 20] [0] rfl rfl rfl (sq ?_))))
 refine cI h rfl (fun c7 h => ?_) (fun c7 h => ?_)
 ·
  refine cs (z2.addNil 64 z2v 5 (cr [0, 1, 2] rfl (q1 rfl (z0 (mv rfl)) (q1 rfl (z1 ct) (q1 rfl (z1 (mv rfl)) (rn (al [8, 9] [1] rfl rfl rfl (sq (z2.ret (AtX.then_ret (AtX.ret' (tupv [(eqv (Value.slice none 0 0)), (iv .i64 y6)]) (zq.two Try.results12 rfl rfl) [0] [(row 64 z2v 5 ([] : List z05) (Value.slice none 0 0))] (ol rfl) rfl ?_)))))))))))
  obtain rfl := Option.some.inj h
  exact ⟨(Value.slice none 0 0), rfl, rfl⟩
 ·
  refine z2.skip (al [1, 2, 3, 4] [0] rfl rfl rfl (sq (cs (z2.addNil 64 z2v 5 (cr [0] rfl (q1 rfl (z1 ct) (rn (al [1, 2, 3, 4, 11] [0, 1] rfl rfl rfl (sq (cs (cs ?_)))))))))))
  refine cr [0, 1, 2, 3, 4, 5] rfl (q1 rfl (ln (tl36 H) ((Pt.box 0 (mv rfl) rfl rfl).take 9 (cs' := (z2i v1)) rfl) rfl) (q1 rfl (z0 (mv rfl)) (q1 rfl (z0 (mv rfl)) (zp h fun y8 ey8 h => n1 rfl (oF (zsz H) (zch H φ v1 v2 v3 _ ey8) ⟨ef (mv rfl), ef (mv rfl), ef (mv rfl), trivial⟩ fun x11 nw12 hk10 => ?_)))))
  obtain ⟨sv9, rfl, rfl⟩ := hk10
  refine ⟨z5, z6h ⟨z5d zh6, trivial⟩, ?_⟩
  refine q1 rfl (z9e 2 (il49 H) (mv rfl) rfl) (q1 rfl (z0 ct) (rn (al [3, 11, 25, 26, 27] [1, 2] rfl rfl rfl (sq ?_))))
  refine z2.join (fun z : (List z05) × Value => (z4c φ) z.1) r (fun z => ⟨zd.of [(11, (eqv z.2))], [(row 64 z2v 5 z.1 z.2)]⟩) (fun z h => ?_) (fun hJ15 => ?_)
  ·
   obtain ⟨v13, sv14⟩ := z
   replace h : (z4c φ) v13 = some r := h
   unfold z4c at h
   refine al [11] [0] rfl rfl rfl (sq (cs (cr [0, 1, 2] rfl (q1 rfl (z0 (mv rfl)) (q1 rfl (z1 (mv rfl)) (q1 rfl (z1 ct) (rn (al [8, 9] [0] rfl rfl rfl (sq (z2.ret (AtX.ret' (tupv [(eqv sv14), (iv .i64 0)]) (zq.two Try.results12 rfl rfl) [0] [(row 64 z2v 5 v13 sv14)] (ol rfl) rfl ?_)))))))))))
   obtain rfl := Option.some.inj h
   exact ⟨sv14, rfl, rfl⟩
  ·
   refine z2.block ?_
   refine z2.to (z2.loop (fun n (z : Int × (List z05) × Value) => z4h φ v4 y8 (z4c φ) n z.1 z.2.1) r (fun z => ⟨zd.of [(3, (iv .i64 v4)), (11, (eqv z.2.2)), (25, (eqv sv9)), (26, (iv .i64 (y8.length : Int))), (27, (iv .i64 z.1))], [(row 64 z2v 5 z.2.1 z.2.2), (row 64 z2v 5 y8 sv9)]⟩) (fun z => rfl) (fun n19 z ih19 h => ?_) φ (0, ([] : List z05), (Value.slice none 0 0)) h) [0, 1] (sl rfl) (ol rfl) rfl
   obtain ⟨v16, v17, sv18⟩ := z
   replace h : z4h φ v4 y8 (z4c φ) (n19 + 1) v16 v17 = some r := h
   rw [z4h] at h
   refine cs (cr [0] rfl (q1 rfl (z10 (mv rfl) (mv rfl)) (rn (al [3, 11, 25, 26, 27, 28] [0, 1] rfl rfl rfl (sq (cs ?_))))))
   refine cI h rfl (fun c20 h => ?_) (fun c20 h => ?_)
   ·
    refine z2.skip (al [3, 11, 25, 26, 27] [0, 1] rfl rfl rfl (sq (cs (z2.block (cs (cr [0, 1, 2, 3] rfl (ckE h fun h21 h => q1 rfl (zb 1 (ix49 H) (mv rfl) rfl (mv rfl) (h21).1 (h21).2) (q1 rfl (ln (tl64 H) ((Pt.row _ 1 (k := (v16 : Int).toNat) (fo := 0) z97 (mv rfl) rfl (by omega) (z8 h21) rfl).take 5 (cs' := (z2v (gt y8 v16))) rfl) rfl) (n1 rfl (z38 _ (ze64 H) rfl fun b22 => n1 rfl (sto 2 (tl64 H) (mv rfl) (Ce.agg (mv rfl)) rfl rfl rfl rfl ?_)))))))))))
    refine rn (al [3, 11, 13, 25, 26, 27] [0, 1, 2] rfl rfl rfl (sq (cs (cs (cr [0, 1, 2, 3, 4] rfl (q1 rfl (z3 (zje H) (mv rfl)) (q1 rfl (z3 (zgc H) (mv rfl)) (q1 rfl (lb (tl3 H) 2 (mv rfl) rfl rfl) (q1 rfl (z0 (mv rfl)) (q1 rfl (z9l (mv rfl) (mv rfl)) (rn ?_)))))))))))
    refine al [3, 11, 13, 25, 26, 27, 35] [0, 1, 2] rfl rfl rfl (sq ?_)
    refine cI h rfl (fun c23 h => ?_) (fun c23 h => ?_)
    ·
     refine z2.exit (AtX.then_exit (AtX.in_miss (by decide) (AtX.then_exit (AtX.then_exit (AtX.in_hit ?_)))))
     exact AtX.to (hJ15 (v17, sv18) h) [0] (sl rfl) (ol rfl) rfl
    ·
     refine z2.skip (al [3, 11, 13, 25, 26, 27] [0, 1, 2] rfl rfl rfl (sq (cs (cs (cr [0, 1, 2] rfl (q1 rfl (z0 (mv rfl)) (q1 rfl (z9e 0 (il49 H) (mv rfl) rfl) (q1 rfl (z1 (mv rfl)) (rn (al [3, 11, 13, 14, 25, 26, 27] [0, 1, 2] rfl rfl rfl (sq ?_)))))))))))
     refine cs (cr [0, 1] rfl (q1 rfl (z0 (mv rfl)) (q1 rfl (z49 (mv rfl) ct) (rn (al [3, 11, 13, 14, 25, 26, 27, 39] [0, 1, 2] rfl rfl rfl (sq ?_))))))
     refine z2.join (fun z : (List z05) => (z7j φ v4 y8 v16 (z4h φ v4 y8 (z4c φ) n19)) z) r (fun z => ⟨zd.of [(3, (iv .i64 v4)), (11, (eqv sv18)), (13, (eqv (.pointer (some ⟨b22, 0, none⟩)))), (25, (eqv sv9)), (26, (iv .i64 (y8.length : Int))), (27, (iv .i64 v16))], [(row 64 z2v 5 z sv18), (row 64 z2v 5 y8 sv9), (box b22 64 (z2v (gt y8 v16)))]⟩) (fun v24 h => ?_) (fun hJ25 => ?_)
     ·
      replace h : (z7j φ v4 y8 v16 (z4h φ v4 y8 (z4c φ) n19)) v24 = some r := h
      unfold z7j at h
      refine al [3, 11, 13, 25, 26, 27] [0, 1, 2] rfl rfl rfl (sq (cs (cr [0, 1, 2, 3] rfl (q1 rfl (z0 (mv rfl)) (q1 rfl (z3 (zje H) (mv rfl)) (q1 rfl (z3 (zjf H) (mv rfl)) (n1 rfl (sto 2 (tl3 H) (mv rfl) (Ce.one (mv rfl) (One.eqv rfl)) rfl rfl rfl rfl (rn (al [3, 11, 13, 25, 26, 27] [0, 1, 2] rfl rfl rfl (sq (cr [0, 1, 2, 3, 4] rfl ?_))))))))))))
      refine q1 rfl (z0 (mv rfl)) (q1 rfl (ln (tl64 H) ((Pt.box 2 (mv rfl) rfl rfl).take 5 (cs' := [(iv .i64 ((gt y8 v16).fRailway)), (iv .i64 ((gt y8 v16).fSpan.fFrom)), (iv .i64 v4), (iv .i64 ((gt y8 v16).fRef.fRailway)), (iv .i64 ((gt y8 v16).fRef.fNo))]) rfl) rfl) (n1 rfl (z2d (e := z2v) [(z05.mk (gt y8 v16).fRailway (Span.mk (gt y8 v16).fSpan.fFrom v4) (gt y8 v16).fRef)] (sl49 H) z97 rfl (by decide) ⟨rfl, (Ce.agg (mv rfl)), trivial⟩ fun sv26 => ckE h fun h27 h => ze.cons rfl rfl rfl (zcj 0 (l := v24) (m := [(z05.mk (gt y8 v16).fRailway (Span.mk (gt y8 v16).fSpan.fFrom v4) (gt y8 v16).fRef)]) (sl49 H) z97 (mv rfl) rfl (Src.row 3 (mv rfl) rfl) h27 (zbz (by decide) h27) fun sv28 => cq rfl rfl rfl (z1 (mv rfl)) (ze.nil (AtX.in_normal (AtX.le' [(3, (iv .i64 v4)), (11, (eqv sv28)), (25, (eqv sv9)), (26, (iv .i64 (y8.length : Int))), (27, (iv .i64 v16))] [0, 1] [(row 64 z2v 5 (v24 ++ [(z05.mk (gt y8 v16).fRailway (Span.mk (gt y8 v16).fSpan.fFrom v4) (gt y8 v16).fRef)]) sv28), (row 64 z2v 5 y8 sv9)] (sl rfl) (ol rfl) rfl (AtX.seq ?_))))))))
      refine z2.region' [0, 1] rfl ?_
      refine ze.cons_q (iv .i64 (W (v16 + 1))) rfl rfl rfl (z0g (mv rfl) (Ev.const _)) (ze.cons_q (iv .i64 (W (v16 + 1))) rfl rfl rfl (z0 (mv rfl)) (ze.nil ?_))
      exact AtX.to (ih19 ((W (v16 + 1)), (v24 ++ [(z05.mk (gt y8 v16).fRailway (Span.mk (gt y8 v16).fSpan.fFrom v4) (gt y8 v16).fRef)]), sv28) h) [0, 1] ⟨⟨_, rfl, Ent.refl⟩, ⟨_, rfl, Ent.refl⟩, ⟨_, rfl, Ent.refl⟩, ⟨_, rfl, Ent.refl⟩, ⟨_, rfl, Ent.refl⟩, trivial⟩ ⟨⟨_, rfl, EntH.refl⟩, ⟨_, rfl, EntH.refl⟩, trivial⟩ rfl
     ·
      refine cI h rfl (fun c29 h => ?_) (fun c29 h => ?_)
      ·
       refine z2.region' [0, 1, 2, 3, 4, 5, 6, 7, 8, 9] rfl ?_
       refine ze.cons_q (eqv sv18) rfl rfl rfl (z0 (mv rfl)) (ze.cons_q (iv .i64 (v17.length : Int)) rfl rfl rfl (z0 (mv rfl)) (ze.cons_q (iv .i64 (W ((v17.length : Int) - 1))) rfl rfl rfl (z2f (mv rfl) (Ev.const _)) (ze.cons_q (eqv (.pointer (some ⟨b22, 1, none⟩))) rfl rfl rfl (z3 (zje H) (mv rfl)) (ze.cons_q (eqv (.pointer (some ⟨b22, 1, none⟩))) rfl rfl rfl (z3 (zgc H) (mv rfl)) (ze.cons_q (iv .i64 ((gt y8 v16).fSpan.fFrom)) rfl rfl rfl (z2g (tl3 H) ((Pt.box 2 (mv rfl) rfl rfl).take 1 (cs' := [(iv .i64 ((gt y8 v16).fSpan.fFrom))]) rfl)) (ckE h fun h30 h => ze.cons_q (rowp sv18 (((W ((v17.length : Int) - 1)) : Int).toNat * 5)) rfl rfl rfl (zb 0 (ix49 H) (mv rfl) rfl (mv rfl) (h30).1 (h30).2) (ze.cons_q (rowp sv18 (((W ((v17.length : Int) - 1)) : Int).toNat * 5 + 1)) rfl rfl rfl (z5l (zje H) (mv rfl)) (ze.cons_q (rowp sv18 (((W ((v17.length : Int) - 1)) : Int).toNat * 5 + 1 + 1)) rfl rfl rfl (z5l (zjf H) (mv rfl)) (ze.cons rfl rfl rfl (z3s 0 (k := ((W ((v17.length : Int) - 1)) : Int).toNat) (fo := 2) (z' := (z05.mk (gt v17 (W ((v17.length : Int) - 1))).fRailway (Span.mk (gt v17 (W ((v17.length : Int) - 1))).fSpan.fFrom (gt y8 v16).fSpan.fFrom) (gt v17 (W ((v17.length : Int) - 1))).fRef)) (cs := [(iv .i64 ((gt y8 v16).fSpan.fFrom))]) z97 (tl3 H) (Ev.tmp rfl) (Ce.one (Ev.tmp rfl) (One.eqv rfl)) rfl rfl (by omega) (z8 h30) (Nat.le_of_ble_eq_true rfl) rfl (rn ?_)))))))))))
       exact AtX.to (hJ25 (z2o v17 (W ((v17.length : Int) - 1)) (z05.mk (gt v17 (W ((v17.length : Int) - 1))).fRailway (Span.mk (gt v17 (W ((v17.length : Int) - 1))).fSpan.fFrom (gt y8 v16).fSpan.fFrom) (gt v17 (W ((v17.length : Int) - 1))).fRef)) h) [0, 1, 2] (sl rfl) (ol rfl) rfl
      ·
       refine z2.skip ?_
       exact AtX.to (hJ25 v17 h) [0, 1, 2] (sl rfl) (ol rfl) rfl
   ·
    refine z2.exit (AtX.then_exit (AtX.then_exit (AtX.in_hit ?_)))
    exact AtX.to (hJ15 (v17, sv18) h) [0] (sl rfl) (ol rfl) rfl
theorem zdy {P : Program} (H : P = Try.prog) (φ : Nat) (v1 : Pool) (v2 : (List zo)) (v3 : Int) (v4 : Int) (r : (Int × Int)) (h : zcu φ v1 v2 v3 v4 = some r) : z0z P 18 [(agg (z2i v1)), (ro zm 21 v2), (iv .i64 v3), (iv .i64 v4)] (fun x news => x = tupv [(iv .i64 r.1), (iv .i64 r.2)] ∧ news = []) := by
 unfold zcu at h
 refine z0z.of_code' 42 (fn18 H) rfl rfl (Nat.le_of_ble_eq_true rfl) fun w0 base r0 wI => ?_
 refine cl [0, 1, 2, 3] [] rfl rfl rfl (cs (cr [0, 1, 2] rfl (n1 rfl (z7i (Ce.agg (mv rfl)) fun b5 => q1 rfl (z1 ct) (q1 rfl (z1 ct) (rn (al [1, 2, 3, 4] [0] rfl rfl rfl (sq (cs (cs (cr [0, 1, 2, 3, 4] rfl ?_)))))))))))
 refine q1 rfl (ln (tl36 H) ((Pt.box 0 (mv rfl) rfl rfl).take 9 (cs' := (z2i v1)) rfl) rfl) (q1 rfl (z0 (mv rfl)) (q1 rfl (z0 (mv rfl)) (zp h fun y6 ey6 h => q1 rfl (oQ (zsm H) (zc7 H φ v1 v3 v4 _ ey6) z5 ⟨ef (mv rfl), ef (mv rfl), ef (mv rfl), trivial⟩) (q1 rfl (z1 (mv rfl)) (rn (al [1, 2, 3, 4, 10] [0] rfl rfl rfl (sq (cs (cr [0, 1] rfl (q1 rfl (z0 (mv rfl)) ?_))))))))))
 refine q1 rfl (z6g (mv rfl) ct) (rn (al [1, 2, 3, 4, 10, 18] [0] rfl rfl rfl (sq ?_)))
 refine cI h rfl (fun c7 h => ?_) (fun c7 h => ?_)
 ·
  refine cs (cr [0, 1, 2] rfl (q1 rfl (z0 (mv rfl)) (q1 rfl (z1 ct) (q1 rfl (z1 (mv rfl)) (rn (al [8, 9] [] rfl rfl rfl (sq (z2.ret (AtX.then_ret (AtX.ret' (tupv [(iv .i64 0), (iv .i64 y6)]) (zq.two Try.results18 rfl rfl) [] [] trivial rfl ?_))))))))))
  obtain rfl := Option.some.inj h
  exact ⟨rfl, rfl⟩
 ·
  refine z2.skip (al [1, 2, 3, 4] [0] rfl rfl rfl (sq (cs (cr [0, 1, 2, 3, 4] rfl (q1 rfl (ln (tl36 H) ((Pt.box 0 (mv rfl) rfl rfl).take 9 (cs' := (z2i v1)) rfl) rfl) (q1 rfl (z0 (mv rfl)) (q1 rfl (z0 (mv rfl)) (zp h fun y8 ey8 h => n1 rfl (oF (zsz H) (zch H φ v1 v2 v3 _ ey8) ⟨ef (mv rfl), ef (mv rfl), ef (mv rfl), trivial⟩ fun x11 nw12 hk10 => ?_)))))))))
  obtain ⟨sv9, rfl, rfl⟩ := hk10
  refine ⟨z5, z6h ⟨z5d zh6, trivial⟩, ?_⟩
  refine q1 rfl (z1 (mv rfl)) (rn (al [3, 11] [1] rfl rfl rfl (sq (cs (cr [0, 1, 2, 3] rfl (q1 rfl (z0 (mv rfl)) (q1 rfl (z9e 0 (il49 H) (mv rfl) rfl) (q1 rfl (z2f (mv rfl) ct) (q1 rfl (z1 (mv rfl)) (rn (al [3, 11, 12] [0] rfl rfl rfl ?_)))))))))))
  refine sq (cs ?_)
  refine z2.join (fun z : Int => (z7y φ y8) z) r (fun z => ⟨zd.of [(11, (eqv sv9)), (12, (iv .i64 z))], [(row 64 z2v 5 y8 sv9)]⟩) (fun v13 h => ?_) (fun hJ14 => ?_)
  ·
   replace h : (z7y φ y8) v13 = some r := h
   unfold z7y at h
   refine al [11, 12] [0] rfl rfl rfl (sq (cs (cr [0, 1, 2, 3, 4, 5, 6] rfl (q1 rfl (z0 (mv rfl)) (q1 rfl (z0 (mv rfl)) (ckE h fun h15 h => q1 rfl (zb 0 (ix49 H) (mv rfl) rfl (mv rfl) (h15).1 (h15).2) (q1 rfl (z5l (zrm H) (mv rfl)) (q1 rfl (z2g (tl3 H) ((Pt.row _ 0 (k := (v13 : Int).toNat) (fo := 0) z97 (mv rfl) rfl (by omega) (z8 h15) rfl).take 1 (cs' := [(iv .i64 ((gt y8 v13).fRailway))]) rfl)) (q1 rfl (z1 (mv rfl)) (q1 rfl (z1 ct) ?_))))))))))
   refine rn (al [8, 9] [] rfl rfl rfl (sq (z2.ret (AtX.ret' (tupv [(iv .i64 ((gt y8 v13).fRailway)), (iv .i64 0)]) (zq.two Try.results18 rfl rfl) [] [] trivial rfl ?_))))
   obtain rfl := Option.some.inj h
   exact ⟨rfl, rfl⟩
  ·
   refine z2.block ?_
   refine z2.to (z2.loop (fun n (z : Int) => z8s φ v4 y8 (z7y φ y8) n z) r (fun z => ⟨zd.of [(3, (iv .i64 v4)), (11, (eqv sv9)), (12, (iv .i64 z))], [(row 64 z2v 5 y8 sv9)]⟩) (fun z => rfl) (fun n17 v16 ih17 h => ?_) φ (W ((y8.length : Int) - 1)) h) [0] (sl rfl) (ol rfl) rfl
   replace h : z8s φ v4 y8 (z7y φ y8) (n17 + 1) v16 = some r := h
   rw [z8s] at h
   refine cs (cs (cr [0, 1, 2, 3, 4, 5, 6, 7] rfl (q1 rfl (z0 (mv rfl)) (q1 rfl (z0 (mv rfl)) (ckE h fun h18 h => q1 rfl (zb 0 (ix49 H) (mv rfl) rfl (mv rfl) (h18).1 (h18).2) (q1 rfl (z5l (zje H) (mv rfl)) (q1 rfl (z5l (zgc H) (mv rfl)) (q1 rfl (z2g (tl3 H) ((Pt.row _ 0 (k := (v16 : Int).toNat) (fo := 1) z97 (mv rfl) rfl (by omega) (z8 h18) rfl).take 1 (cs' := [(iv .i64 ((gt y8 v16).fSpan.fFrom))]) rfl)) (q1 rfl (z0 (mv rfl)) (q1 rfl (z49 (mv rfl) (mv rfl)) ?_))))))))))
   refine rn (al [3, 11, 12, 34] [0] rfl rfl rfl (sq ?_))
   refine cI h rfl (fun c19 h => ?_) (fun c19 h => ?_)
   ·
    refine z2.skip (al [3, 11, 12] [0] rfl rfl rfl (sq (z2.block (cr [0, 1, 2] rfl (q1 rfl (z0 (mv rfl)) (q1 rfl (z2f (mv rfl) ct) (q1 rfl (z1 (mv rfl)) (rn (AtX.in_normal ?_)))))))))
    exact AtX.to (ih17 (W (v16 - 1)) h) [0] (sl rfl) (ol rfl) rfl
   ·
    refine z2.exit (AtX.then_exit (AtX.then_exit (AtX.in_hit ?_)))
    exact AtX.to (hJ14 v16 h) [0] (sl rfl) (ol rfl) rfl
theorem zd2 {P : Program} (H : P = Try.prog) (φ : Nat) (v1 : (List z4)) (v2 : (List z4)) (r : (Bool)) (h : z9m φ v1 v2 = some r) : z0z P 16 [(ro z6 10 v1), (ro z6 10 v2)] (fun x news => x = (bv r) ∧ news = []) := by
 unfold z9m at h
 refine z0z.of_code' 26 (fn16 H) rfl rfl (Nat.le_of_ble_eq_true rfl) fun w0 base r0 wI => ?_
 refine cl [0, 1] [] rfl rfl rfl (cs (cr [0] rfl (q1 rfl (z1 ct) (rn (al [0, 1] [] rfl rfl rfl (sq (cs (cs (cr [0, 1, 2, 3, 4] rfl (q1 rfl (z0 (mv rfl)) (q1 rfl (z0x (il53 H) (mv rfl)) ?_)))))))))))
 refine q1 rfl (z0 (mv rfl)) (q1 rfl (z0x (il53 H) (mv rfl)) (q1 rfl (z6g (mv rfl) (mv rfl)) (rn (al [0, 1, 10] [] rfl rfl rfl (sq ?_)))))
 refine cI h rfl (fun c3 h => ?_) (fun c3 h => ?_)
 ·
  refine cs (cr [0] rfl (q1 rfl (z1 ct) (rn (al [4] [] rfl rfl rfl (sq (z2.ret (AtX.then_ret (AtX.ret' (bv false) (zq.one Try.results16 rfl) [] [] trivial rfl ?_))))))))
  obtain rfl := Option.some.inj h
  exact ⟨rfl, rfl⟩
 ·
  refine z2.skip (al [0, 1] [] rfl rfl rfl (sq (cs (cs (cr [0] rfl (q1 rfl (z1 ct) (rn (al [0, 1, 5] [] rfl rfl rfl (sq ?_)))))))))
  refine z2.join (fun z : Unit => (z4k φ)) r (fun z => ⟨zd.of [], []⟩) (fun z h => ?_) (fun hJ4 => ?_)
  ·
   replace h : (z4k φ) = some r := h
   unfold z4k at h
   refine al [] [] rfl rfl rfl (sq (cs (cr [0] rfl (q1 rfl (z1 ct) (rn (al [4] [] rfl rfl rfl (sq (z2.ret (AtX.ret' (bv true) (zq.one Try.results16 rfl) [] [] trivial rfl ?_)))))))))
   obtain rfl := Option.some.inj h
   exact ⟨rfl, rfl⟩
  ·
   refine z2.block ?_
   refine z2.to (z2.loop (fun n (z : Int) => z5n φ v1 v2 (z4k φ) n z) r (fun z => ⟨zd.of [(0, (ro z6 10 v1)), (1, (ro z6 10 v2)), (5, (iv .i64 z))], []⟩) (fun z => rfl) (fun n6 v5 ih6 h => ?_) φ 0 h) [] (sl rfl) trivial rfl
   replace h : z5n φ v1 v2 (z4k φ) (n6 + 1) v5 = some r := h
   rw [z5n] at h
   refine cs (cs (cr [0, 1, 2, 3] rfl (q1 rfl (z0 (mv rfl)) (q1 rfl (z0 (mv rfl)) (q1 rfl (z0x (il53 H) (mv rfl)) (q1 rfl (z10 (mv rfl) (mv rfl)) (rn (al [0, 1, 5, 14] [] rfl rfl rfl (sq ?_)))))))))
   refine cI h rfl (fun c7 h => ?_) (fun c7 h => ?_)
   ·
    refine z2.skip (al [0, 1, 5] [] rfl rfl rfl (sq (cs (z2.block (cs (ckE h fun h8 h => ckE h fun h9 h => z2.draw (QR := [(0, _), (1, _), (2, _), (3, _), (4, _), (5, _), (6, _), (7, _), (8, _)]) (tab := [(some 17, []), (some 18, []), (some 19, [0, 1]), (some 20, [2]), (some 21, []), (some 22, []), (some 23, [4, 5]), (some 24, [6]), (some 25, [3, 7])]) (z5h H) (Reg.intro [] [] (by kernel_rfl) rfl (an rfl) ⟨(qr rfl (z0 (mv rfl))), (qr rfl (z0 (mv rfl))), (qr rfl (zn (ix53 H) (mv rfl) (mv rfl) (h8).1 (z8 h8))), (qr rfl (ln (tl70 H) (Pt.rop (mv rfl)) rfl)), (qr rfl (z0 (mv rfl))), (qr rfl (z0 (mv rfl))), (qr rfl (zn (ix53 H) (mv rfl) (mv rfl) (h9).1 (z8 h9))), (qr rfl (ln (tl70 H) (Pt.rop (mv rfl)) rfl)), (qr rfl (zud [(.int .i64 ((gt v1 v5).fWagon)), (.int .i64 ((gt v1 v5).fPlace)), (.int .i64 ((gt v1 v5).fFrom)), (.int .i64 ((gt v1 v5).fTo)), (.int .i64 ((gt v1 v5).fAt)), (.int .i64 ((gt v1 v5).fCode)), (.int .i64 ((gt v1 v5).fDeliver.fRailway)), (.int .i64 ((gt v1 v5).fDeliver.fNo)), (.int .i64 ((gt v1 v5).fReceive.fRailway)), (.int .i64 ((gt v1 v5).fReceive.fNo))] [(.int .i64 ((gt v2 v5).fWagon)), (.int .i64 ((gt v2 v5).fPlace)), (.int .i64 ((gt v2 v5).fFrom)), (.int .i64 ((gt v2 v5).fTo)), (.int .i64 ((gt v2 v5).fAt)), (.int .i64 ((gt v2 v5).fCode)), (.int .i64 ((gt v2 v5).fDeliver.fRailway)), (.int .i64 ((gt v2 v5).fDeliver.fNo)), (.int .i64 ((gt v2 v5).fReceive.fRailway)), (.int .i64 ((gt v2 v5).fReceive.fNo))] (mv rfl) (mv rfl) rfl rfl (eg70 H) (fun w => zmd H w (gt v1 v5) (gt v2 v5)))), trivial⟩ trivial (fun _ => al [0, 1, 5, 25] [] rfl rfl rfl (sq ?_)))))))))
    refine cI h rfl (fun c10 h => ?_) (fun c10 h => ?_)
    ·
     refine cs (cr [0] rfl (q1 rfl (z1 ct) (rn (al [4] [] rfl rfl rfl (sq (z2.ret (AtX.in_ret (AtX.then_ret (AtX.then_ret (AtX.in_ret (AtX.then_ret ?_)))))))))))
     refine AtX.ret' (bv false) (zq.one Try.results16 rfl) [] [] trivial rfl ?_
     obtain rfl := Option.some.inj h
     exact ⟨rfl, rfl⟩
    ·
     refine z2.skip (AtX.in_normal (al [0, 1, 5] [] rfl rfl rfl (sq (cr [0, 1, 2] rfl (q1 rfl (z0 (mv rfl)) (q1 rfl (z0g (mv rfl) ct) (q1 rfl (z1 (mv rfl)) (rn ?_))))))))
     exact AtX.to (ih6 (W (v5 + 1)) h) [] (sl rfl) trivial rfl
   ·
    refine z2.exit (AtX.then_exit (AtX.then_exit (AtX.in_hit ?_)))
    exact AtX.to (hJ4 () h) [] trivial trivial rfl
theorem zkj {P : Program} (H : P = Try.prog) (φ : Nat) (v1 : (List z05)) (v2 : (List z05)) (r : (Bool)) (h : zfm φ v1 v2 = some r) : z0z P 15 [(ro z2v 5 v1), (ro z2v 5 v2)] (fun x news => x = (bv r) ∧ news = []) := by
 unfold zfm at h
 refine z0z.of_code' 26 (fn15 H) rfl rfl (Nat.le_of_ble_eq_true rfl) fun w0 base r0 wI => ?_
 refine cl [0, 1] [] rfl rfl rfl (cs (cr [0] rfl (q1 rfl (z1 ct) (rn (al [0, 1] [] rfl rfl rfl (sq (cs (cs (cr [0, 1, 2, 3, 4] rfl (q1 rfl (z0 (mv rfl)) (q1 rfl (z0x (il49 H) (mv rfl)) ?_)))))))))))
 refine q1 rfl (z0 (mv rfl)) (q1 rfl (z0x (il49 H) (mv rfl)) (q1 rfl (z6g (mv rfl) (mv rfl)) (rn (al [0, 1, 10] [] rfl rfl rfl (sq ?_)))))
 refine cI h rfl (fun c3 h => ?_) (fun c3 h => ?_)
 ·
  refine cs (cr [0] rfl (q1 rfl (z1 ct) (rn (al [4] [] rfl rfl rfl (sq (z2.ret (AtX.then_ret (AtX.ret' (bv false) (zq.one Try.results15 rfl) [] [] trivial rfl ?_))))))))
  obtain rfl := Option.some.inj h
  exact ⟨rfl, rfl⟩
 ·
  refine z2.skip (al [0, 1] [] rfl rfl rfl (sq (cs (cs (cr [0] rfl (q1 rfl (z1 ct) (rn (al [0, 1, 5] [] rfl rfl rfl (sq ?_)))))))))
  refine z2.join (fun z : Unit => (z92 φ)) r (fun z => ⟨zd.of [], []⟩) (fun z h => ?_) (fun hJ4 => ?_)
  ·
   replace h : (z92 φ) = some r := h
   unfold z92 at h
   refine al [] [] rfl rfl rfl (sq (cs (cr [0] rfl (q1 rfl (z1 ct) (rn (al [4] [] rfl rfl rfl (sq (z2.ret (AtX.ret' (bv true) (zq.one Try.results15 rfl) [] [] trivial rfl ?_)))))))))
   obtain rfl := Option.some.inj h
   exact ⟨rfl, rfl⟩
  ·
   refine z2.block ?_
   refine z2.to (z2.loop (fun n (z : Int) => z9w φ v1 v2 (z92 φ) n z) r (fun z => ⟨zd.of [(0, (ro z2v 5 v1)), (1, (ro z2v 5 v2)), (5, (iv .i64 z))], []⟩) (fun z => rfl) (fun n6 v5 ih6 h => ?_) φ 0 h) [] (sl rfl) trivial rfl
   replace h : z9w φ v1 v2 (z92 φ) (n6 + 1) v5 = some r := h
   rw [z9w] at h
   refine cs (cs (cr [0, 1, 2, 3] rfl (q1 rfl (z0 (mv rfl)) (q1 rfl (z0 (mv rfl)) (q1 rfl (z0x (il49 H) (mv rfl)) (q1 rfl (z10 (mv rfl) (mv rfl)) (rn (al [0, 1, 5, 14] [] rfl rfl rfl (sq ?_)))))))))
   refine cI h rfl (fun c7 h => ?_) (fun c7 h => ?_)
   ·
    refine z2.skip (al [0, 1, 5] [] rfl rfl rfl (sq (cs (z2.block (cs (ckE h fun h8 h => ckE h fun h9 h => z2.draw (QR := [(0, _), (1, _), (2, _), (3, _), (4, _), (5, _), (6, _), (7, _), (8, _)]) (tab := [(some 17, []), (some 18, []), (some 19, [0, 1]), (some 20, [2]), (some 21, []), (some 22, []), (some 23, [4, 5]), (some 24, [6]), (some 25, [3, 7])]) (z5h H) (Reg.intro [] [] (by kernel_rfl) rfl (an rfl) ⟨(qr rfl (z0 (mv rfl))), (qr rfl (z0 (mv rfl))), (qr rfl (zn (ix49 H) (mv rfl) (mv rfl) (h8).1 (z8 h8))), (qr rfl (ln (tl64 H) (Pt.rop (mv rfl)) rfl)), (qr rfl (z0 (mv rfl))), (qr rfl (z0 (mv rfl))), (qr rfl (zn (ix49 H) (mv rfl) (mv rfl) (h9).1 (z8 h9))), (qr rfl (ln (tl64 H) (Pt.rop (mv rfl)) rfl)), (qr rfl (zud [(.int .i64 ((gt v1 v5).fRailway)), (.int .i64 ((gt v1 v5).fSpan.fFrom)), (.int .i64 ((gt v1 v5).fSpan.fTo)), (.int .i64 ((gt v1 v5).fRef.fRailway)), (.int .i64 ((gt v1 v5).fRef.fNo))] [(.int .i64 ((gt v2 v5).fRailway)), (.int .i64 ((gt v2 v5).fSpan.fFrom)), (.int .i64 ((gt v2 v5).fSpan.fTo)), (.int .i64 ((gt v2 v5).fRef.fRailway)), (.int .i64 ((gt v2 v5).fRef.fNo))] (mv rfl) (mv rfl) rfl rfl (eg64 H) (fun w => zo5 H w (gt v1 v5) (gt v2 v5)))), trivial⟩ trivial (fun _ => al [0, 1, 5, 25] [] rfl rfl rfl (sq ?_)))))))))
    refine cI h rfl (fun c10 h => ?_) (fun c10 h => ?_)
    ·
     refine cs (cr [0] rfl (q1 rfl (z1 ct) (rn (al [4] [] rfl rfl rfl (sq (z2.ret (AtX.in_ret (AtX.then_ret (AtX.then_ret (AtX.in_ret (AtX.then_ret ?_)))))))))))
     refine AtX.ret' (bv false) (zq.one Try.results15 rfl) [] [] trivial rfl ?_
     obtain rfl := Option.some.inj h
     exact ⟨rfl, rfl⟩
    ·
     refine z2.skip (AtX.in_normal (al [0, 1, 5] [] rfl rfl rfl (sq (cr [0, 1, 2] rfl (q1 rfl (z0 (mv rfl)) (q1 rfl (z0g (mv rfl) ct) (q1 rfl (z1 (mv rfl)) (rn ?_))))))))
     exact AtX.to (ih6 (W (v5 + 1)) h) [] (sl rfl) trivial rfl
   ·
    refine z2.exit (AtX.then_exit (AtX.then_exit (AtX.in_hit ?_)))
    exact AtX.to (hJ4 () h) [] trivial trivial rfl
theorem zj2 {P : Program} (H : P = Try.prog) (φ : Nat) (v1 : Int) (r : (List Int)) (h : zbk φ v1 = some r) : z0z P 62 [(eqv (.slice none 0 0)), (iv .i64 v1)] (zk8 r) := by
 unfold zbk at h
 refine z0z.of_code' 27 (fn62 H) rfl rfl (Nat.le_of_ble_eq_true rfl) fun w0 base r0 wI => ?_
 refine cl [0, 1] [] rfl rfl rfl (z2.addNil 3 eI64 1 (cs (z2.addNil 3 eI64 1 (cr [0] rfl (q1 rfl (z1 ct) (rn (al [0, 1] [0] rfl rfl rfl (sq (cs (cs (cr [0, 1] rfl ?_)))))))))))
 refine q1 rfl (z0 (mv rfl)) (q1 rfl (z10 (mv rfl) ct) (rn (al [0, 1, 6] [0] rfl rfl rfl (sq ?_))))
 refine cI h rfl (fun c2 h => ?_) (fun c2 h => ?_)
 ·
  cases h
 ·
  refine z2.skip (al [0, 1] [0] rfl rfl rfl (sq (cs (cs (cr [0, 1, 2, 3, 4, 5, 6, 7] rfl (q1 rfl (z0 (mv rfl)) (q1 rfl (z0 (mv rfl)) (q1 rfl (zno (il96 H) (mv rfl)) (q1 rfl (z0 (mv rfl)) (q1 rfl (z9e 0 (il96 H) (mv rfl) rfl) (q1 rfl (z2f (mv rfl) (mv rfl)) ?_)))))))))))
  refine q1 rfl (z2f (mv rfl) (mv rfl)) (q1 rfl (z1 (mv rfl)) (rn (al [0, 1] [0] rfl rfl rfl (sq (cs (cr [0, 1] rfl (q1 rfl (z0 (mv rfl)) (q1 rfl (z49 (mv rfl) ct) (rn (al [0, 1, 16] [0] rfl rfl rfl (sq ?_)))))))))))
  refine z2.join (fun z : (List Int) × Value => (z9g φ) z.1) r (fun z => ⟨zd.of [(0, (eqv z.2))], [(row 3 eI64 1 z.1 z.2)]⟩) (fun z h => ?_) (fun hJ5 => ?_)
  ·
   obtain ⟨v3, sv4⟩ := z
   replace h : (z9g φ) v3 = some r := h
   unfold z9g at h
   refine al [0] [0] rfl rfl rfl (sq (cs (cr [0, 1] rfl (q1 rfl (z0 (mv rfl)) (q1 rfl (z1 (mv rfl)) (rn (al [4] [0] rfl rfl rfl (sq (z2.ret (AtX.ret' (eqv sv4) (zq.one Try.results62 rfl) [0] [(row 3 eI64 1 v3 sv4)] (ol rfl) rfl ?_))))))))))
   obtain rfl := Option.some.inj h
   exact ⟨sv4, rfl, rfl⟩
  ·
   refine cI h rfl (fun c6 h => ?_) (fun c6 h => ?_)
   ·
    refine cr [0, 1, 2, 3, 4, 5, 6, 7, 8, 9] rfl (q1 rfl (z0 (mv rfl)) (q1 rfl (z0 (mv rfl)) (q1 rfl (zno (il96 H) (mv rfl)) (q1 rfl (zo0 (sl96 H) (mv rfl) (mv rfl)) (q1 rfl (z0 (mv rfl)) (ckE h fun h7 h => ckE h fun h8 h => n1 rfl (zqe 0 0 [.int .i64 0] (sl96 H) (ui3 H) lI64 (ze3 H) rfl rfl (mv rfl) rfl (mv rfl) h7 h8 (zbz (by decide) h8) fun sv9 => q1 rfl (z0 (mv rfl)) (q1 rfl (zr1 (il96 H) (mv rfl)) (ckE h fun h10 h => ?_)))))))))
    refine n1 rfl (zty 0 (sl96 H) lI64 (mv rfl) rfl (mv rfl) (h10).1 (h10).2 fun sv11 => q1 rfl (z1 (mv rfl)) (rn ?_))
    exact AtX.to (hJ5 (((List.replicate ((W (v1 - (W (0 - (([] : List Int).length : Int))))) : Int).toNat (0 : Int)).take (0 : Int).toNat), sv11) h) [0] (sl rfl) (ol rfl) rfl
   ·
    refine z2.skip ?_
    exact AtX.to (hJ5 (([] : List Int), (Value.slice none 0 0)) h) [0] (sl rfl) (ol rfl) rfl
theorem zgv {P : Program} (H : P = Try.prog) (φ : Nat) (v1 : (List (List Int))) (r : ((List Int))) (h : z9y φ v1 = some r) : z0z P 38 [(ro ze7 1 v1)] (zht r) := by
 unfold z9y at h
 refine z0z.of_code' 36 (fn38 H) rfl rfl (Nat.le_of_ble_eq_true rfl) fun w0 base r0 wI => ?_
 refine cl [0] [] rfl rfl rfl (cs (z2.addNil 3 eI64 1 (cr [0] rfl (q1 rfl (z1 ct) (rn (al [0] [] rfl rfl rfl (sq (cs (cr [0] rfl (q1 rfl (z1 ct) (rn ?_)))))))))))
 refine al [0, 3] [] rfl rfl rfl (sq (cs (cs (cr [0, 1, 2] rfl (q1 rfl (z0 (mv rfl)) (q1 rfl (z0x (zww H) (mv rfl)) (q1 rfl (z0 ct) (rn (al [0, 3, 9, 10, 11] [] rfl rfl rfl (sq ?_))))))))))
 refine z2.join (fun z : Int => (z5i φ v1) z) r (fun z => ⟨zd.of [(0, (ro ze7 1 v1)), (3, (iv .i64 z))], []⟩) (fun v2 h => ?_) (fun hJ3 => ?_)
 ·
  replace h : (z5i φ v1) v2 = some r := h
  unfold z5i at h
  refine al [0, 3] [] rfl rfl rfl (sq (cs (cr [0, 1, 2] rfl (q1 rfl (z0 (mv rfl)) (zp h fun y4 ey4 h => n1 rfl (oF (zwe H) (zj2 H φ v2 _ ey4) ⟨ef ct, ef (mv rfl), trivial⟩ fun x7 nw8 hk6 => ?_))))))
  obtain ⟨sv5, rfl, rfl⟩ := hk6
  refine ⟨z5, z6h ⟨z5d z5m, trivial⟩, ?_⟩
  refine q1 rfl (z1 (mv rfl)) (rn (al [0, 6] [0] rfl rfl rfl (sq (cs (cs (cr [0, 1, 2] rfl (q1 rfl (z0 (mv rfl)) (q1 rfl (z0x (zww H) (mv rfl)) (q1 rfl (z0 ct) (rn (al [6, 25, 26, 27] [0] rfl rfl rfl ?_)))))))))))
  refine sq ?_
  refine z2.join (fun z : (List Int) × Value => (z52 φ) z.1) r (fun z => ⟨zd.of [(6, (eqv z.2))], [(row 3 eI64 1 z.1 z.2)]⟩) (fun z h => ?_) (fun hJ11 => ?_)
  ·
   obtain ⟨v9, sv10⟩ := z
   replace h : (z52 φ) v9 = some r := h
   unfold z52 at h
   refine al [6] [0] rfl rfl rfl (sq (cs (cr [0, 1] rfl (q1 rfl (z0 (mv rfl)) (q1 rfl (z1 (mv rfl)) (rn (al [2] [0] rfl rfl rfl (sq (z2.ret (AtX.ret' (eqv sv10) (zq.one Try.results38 rfl) [0] [(row 3 eI64 1 v9 sv10)] (ol rfl) rfl ?_))))))))))
   obtain rfl := Option.some.inj h
   exact ⟨sv10, rfl, rfl⟩
  ·
   refine z2.block ?_
   refine z2.to (z2.loop (fun n (z : Int × (List Int) × Value) => z4w φ v1 (z52 φ) n z.1 z.2.1) r (fun z => ⟨zd.of [(6, (eqv z.2.2)), (25, (ro ze7 1 v1)), (26, (iv .i64 (v1.length : Int))), (27, (iv .i64 z.1))], [(row 3 eI64 1 z.2.1 z.2.2)]⟩) (fun z => rfl) (fun n15 z ih15 h => ?_) φ (0, y4, sv5) h) [0] (sl rfl) (ol rfl) rfl
   obtain ⟨v12, v13, sv14⟩ := z
   replace h : z4w φ v1 (z52 φ) (n15 + 1) v12 v13 = some r := h
   rw [z4w] at h
   refine cs (cr [0] rfl (q1 rfl (z10 (mv rfl) (mv rfl)) (rn (al [6, 25, 26, 27, 28] [0] rfl rfl rfl (sq (cs ?_))))))
   refine cI h rfl (fun c16 h => ?_) (fun c16 h => ?_)
   ·
    refine z2.skip (al [6, 25, 26, 27] [0] rfl rfl rfl (sq (cs (z2.block (cs (cr [0, 1, 2] rfl (ckE h fun h17 h => q1 rfl (zn (zvc H) (mv rfl) (mv rfl) (h17).1 (z8 h17)) (q1 rfl (lr (tl96 H) (mv rfl)) (q1 rfl (z1 (mv rfl)) (rn ?_))))))))))
    refine al [6, 8, 25, 26, 27] [0] rfl rfl rfl (sq (cr [0, 1, 2, 3] rfl (q1 rfl (z0 (mv rfl)) (q1 rfl (z0 (mv rfl)) (ckE h fun h18 h => n1 rfl (zcj 0 (l := v13) (m := (gt v1 v12)) (sl96 H) lI64 (mv rfl) rfl (Src.ro lI64 (by decide) (mv rfl)) h18 (zbz (by decide) h18) fun sv19 => q1 rfl (z1 (mv rfl)) (rn (AtX.in_normal (al [6, 25, 26, 27] [0] rfl rfl rfl (sq ?_))))))))))
    refine cr [0, 1] rfl (q1 rfl (z0g (mv rfl) ct) (q1 rfl (z0 (mv rfl)) (rn ?_)))
    exact AtX.to (ih15 ((W (v12 + 1)), (v13 ++ (gt v1 v12)), sv19) h) [0] (sl rfl) (ol rfl) rfl
   ·
    refine z2.exit (AtX.then_exit (AtX.then_exit (AtX.in_hit ?_)))
    exact AtX.to (hJ11 (v13, sv14) h) [0] (sl rfl) (ol rfl) rfl
 ·
  refine z2.block ?_
  refine z2.to (z2.loop (fun n (z : Int × Int) => z53 φ v1 (z5i φ v1) n z.1 z.2) r (fun z => ⟨zd.of [(0, (ro ze7 1 v1)), (3, (iv .i64 z.1)), (9, (ro ze7 1 v1)), (10, (iv .i64 (v1.length : Int))), (11, (iv .i64 z.2))], []⟩) (fun z => rfl) (fun n22 z ih22 h => ?_) φ (0, 0) h) [] (sl rfl) trivial rfl
  obtain ⟨v20, v21⟩ := z
  replace h : z53 φ v1 (z5i φ v1) (n22 + 1) v20 v21 = some r := h
  rw [z53] at h
  refine cs (cr [0] rfl (q1 rfl (z10 (mv rfl) (mv rfl)) (rn (al [0, 3, 9, 10, 11, 12] [] rfl rfl rfl (sq (cs ?_))))))
  refine cI h rfl (fun c23 h => ?_) (fun c23 h => ?_)
  ·
   refine z2.skip (al [0, 3, 9, 10, 11] [] rfl rfl rfl (sq (cs (z2.block (cs (cr [0, 1, 2] rfl (ckE h fun h24 h => q1 rfl (zn (zvc H) (mv rfl) (mv rfl) (h24).1 (z8 h24)) (q1 rfl (lr (tl96 H) (mv rfl)) (q1 rfl (z1 (mv rfl)) (rn ?_))))))))))
   refine al [0, 3, 5, 9, 10, 11] [] rfl rfl rfl (sq (cs (cr [0, 1, 2, 3, 4] rfl (q1 rfl (z0 (mv rfl)) (q1 rfl (z0 (mv rfl)) (q1 rfl (z0x (il96 H) (mv rfl)) (q1 rfl (z0g (mv rfl) (mv rfl)) (q1 rfl (z1 (mv rfl)) (rn (al [0, 3, 9, 10, 11] [] rfl rfl rfl (sq ?_)))))))))))
   refine cs (cr [0, 1] rfl (q1 rfl (z0 (mv rfl)) (q1 rfl (z10 (mv rfl) ct) (rn (al [0, 3, 9, 10, 11, 20] [] rfl rfl rfl (sq ?_))))))
   refine cI h rfl (fun c25 h => ?_) (fun c25 h => ?_)
   ·
    cases h
   ·
    refine z2.skip (AtX.in_normal (al [0, 3, 9, 10, 11] [] rfl rfl rfl (sq (cr [0, 1] rfl (q1 rfl (z0g (mv rfl) ct) (q1 rfl (z0 (mv rfl)) (rn ?_)))))))
    exact AtX.to (ih22 ((W (v20 + ((gt v1 v21).length : Int))), (W (v21 + 1))) h) [] (sl rfl) trivial rfl
  ·
   refine z2.exit (AtX.then_exit (AtX.then_exit (AtX.in_hit ?_)))
   exact AtX.to (hJ3 v20 h) [] (sl rfl) trivial rfl
theorem z6y {P : Program} (H : P = Try.prog) (φ : Nat) (v1 : (List Ref)) (v3 : Int) (v4 : Int) (y5 : (Ref → Ref → Option Int)) (sv2 : Value) (r : (List Ref)) (h : z1w φ v1 v3 v4 y5 = some r) : MutT P 80 [(eqv sv2), (iv .i64 v3), (iv .i64 v4), (fcmp P (fun x => (agg (eRef x))) y5)] 43 eRef 2 v1 sv2 (fun x l' => x = eqv (.tuple #[]) ∧ r = l') := by
 unfold z1w at h
 refine MutT.of_code 53 (fn80 H) rfl rfl (Nat.le_of_ble_eq_true rfl) fun w0 base r0 wI => ?_
 refine cl [0, 1, 2, 3] [0] rfl rfl rfl (cs (cr [0, 1, 2] rfl (q1 rfl (z0 (mv rfl)) (q1 rfl (z0g (mv rfl) ct) (q1 rfl (z1 (mv rfl)) (rn (al [0, 1, 2, 3, 8] [0] rfl rfl rfl (sq (z2.block ?_)))))))))
 refine z2.to (z2.loop (fun n (z : Int × (List Ref)) => zi φ v3 v4 y5 n z.1 z.2) r (fun z => ⟨zd.of [(0, (eqv sv2)), (1, (iv .i64 v3)), (2, (iv .i64 v4)), (3, (fcmp P (fun x => (agg (eRef x))) y5)), (8, (iv .i64 z.1))], [(row 43 eRef 2 z.2 sv2)]⟩) (fun z => rfl) (fun n8 z ih8 h => ?_) φ ((W (v3 + 1)), v1) h) [0] (sl rfl) (ol rfl) rfl
 obtain ⟨v6, v7⟩ := z
 replace h : zi φ v3 v4 y5 (n8 + 1) v6 v7 = some r := h
 rw [zi] at h
 refine cs (cs (cr [0, 1, 2] rfl (q1 rfl (z0 (mv rfl)) (q1 rfl (z0 (mv rfl)) (q1 rfl (z10 (mv rfl) (mv rfl)) (rn (al [0, 1, 2, 3, 8, 14] [0] rfl rfl rfl (sq ?_))))))))
 refine cI h rfl (fun c9 h => ?_) (fun c9 h => ?_)
 ·
  refine z2.skip (al [0, 1, 2, 3, 8] [0] rfl rfl rfl (sq (cs ?_)))
  refine z2.join (fun z : (List Ref) => (z0n φ v6 (zi φ v3 v4 y5 n8)) z) r (fun z => ⟨zd.of [(0, (eqv sv2)), (1, (iv .i64 v3)), (2, (iv .i64 v4)), (3, (fcmp P (fun x => (agg (eRef x))) y5)), (8, (iv .i64 v6))], [(row 43 eRef 2 z sv2)]⟩) (fun v10 h => ?_) (fun hJ11 => ?_)
  ·
   replace h : (z0n φ v6 (zi φ v3 v4 y5 n8)) v10 = some r := h
   unfold z0n at h
   refine al [0, 1, 2, 3, 8] [0] rfl rfl rfl (sq (cr [0, 1, 2] rfl (q1 rfl (z0 (mv rfl)) (q1 rfl (z0g (mv rfl) ct) (q1 rfl (z1 (mv rfl)) (rn ?_))))))
   exact AtX.to (ih8 ((W (v6 + 1)), v10) h) [0] (sl rfl) (ol rfl) rfl
  ·
   refine z2.block (cs (cr [0, 1] rfl (q1 rfl (z0 (mv rfl)) (q1 rfl (z1 (mv rfl)) (rn (al [0, 1, 2, 3, 8, 9] [0] rfl rfl rfl (sq (z2.block ?_))))))))
   refine z2.to (z2.loop (fun n (z : Int × (List Ref)) => z0k φ v3 y5 (z0n φ v6 (zi φ v3 v4 y5 n8)) n z.1 z.2) r (fun z => ⟨zd.of [(0, (eqv sv2)), (1, (iv .i64 v3)), (2, (iv .i64 v4)), (3, (fcmp P (fun x => (agg (eRef x))) y5)), (8, (iv .i64 v6)), (9, (iv .i64 z.1))], [(row 43 eRef 2 z.2 sv2)]⟩) (fun z => rfl) (fun n14 z ih14 h => ?_) φ (v6, v7) h) [0] (sl rfl) (ol rfl) rfl
   obtain ⟨v12, v13⟩ := z
   replace h : z0k φ v3 y5 (z0n φ v6 (zi φ v3 v4 y5 n8)) (n14 + 1) v12 v13 = some r := h
   rw [z0k] at h
   refine cs (cs (ckE h fun h19 h => ckE h fun h25 h => zp h fun y28 ey28 h => z2.draw (QR := [(0, _), (1, _), (2, _), (3, _), (4, _), (5, _), (6, _), (7, _), (8, _), (9, _), (10, _), (11, _), (12, _), (13, _), (14, _), (15, _), (16, _)]) (tab := [(some 18, []), (some 19, []), (some 20, [0, 1]), (some 21, [2]), (some 22, [3]), (some 23, [3]), (some 24, [3]), (some 25, [5, 6, 3]), (some 26, [7, 3]), (some 27, [3]), (some 28, [3]), (some 29, [10, 3]), (some 30, [9, 11, 3]), (some 31, [12, 3]), (some 32, [4, 8, 13, 3, 3]), (some 33, [14, 3]), (some 34, [3, 15])]) (z5h H) (Reg.intro [] [] (by kernel_rfl) rfl (an rfl) ⟨(qr rfl (z0 (mv rfl))), (qr rfl (z0 (mv rfl))), (qr rfl (z49 (mv rfl) (mv rfl))), (qr rfl (z0 (mv rfl))), (qr rfl ⟨(decide (v3 < v12) = true), (fcmp P (fun x => (agg (eRef x))) y5), 21, rfl, rfl, fun g15 => (z0 (mv rfl)), .inl ⟨(decide (v3 < v12)), rfl, rfl⟩⟩), (qr rfl ⟨(decide (v3 < v12) = true), (eqv sv2), 21, rfl, rfl, fun g16 => (z0 (mv rfl)), .inl ⟨(decide (v3 < v12)), rfl, rfl⟩⟩), (qr rfl ⟨(decide (v3 < v12) = true), (iv .i64 v12), 21, rfl, rfl, fun g17 => (z0 (mv rfl)), .inl ⟨(decide (v3 < v12)), rfl, rfl⟩⟩), (qr rfl ⟨(decide (v3 < v12) = true), (rowp sv2 ((v12 : Int).toNat * 2)), 21, rfl, rfl, fun g18 => (zb 0 (ix55 H) (mc rfl g18) rfl (mc rfl g18) ((h19 g18)).1 ((h19 g18)).2), .inl ⟨(decide (v3 < v12)), rfl, rfl⟩⟩), (qr rfl ⟨(decide (v3 < v12) = true), (agg (eRef (gt v13 v12))), 21, rfl, rfl, fun g20 => (ln (tl43 H) ((Pt.row _ 0 (k := (v12 : Int).toNat) (fo := 0) lRef (mc rfl g20) rfl (by omega) (z8 (h19 g20)) rfl).take 2 (cs' := (eRef (gt v13 v12))) rfl) rfl), .inl ⟨(decide (v3 < v12)), rfl, rfl⟩⟩), (qr rfl ⟨(decide (v3 < v12) = true), (eqv sv2), 21, rfl, rfl, fun g21 => (z0 (mv rfl)), .inl ⟨(decide (v3 < v12)), rfl, rfl⟩⟩), (qr rfl ⟨(decide (v3 < v12) = true), (iv .i64 v12), 21, rfl, rfl, fun g22 => (z0 (mv rfl)), .inl ⟨(decide (v3 < v12)), rfl, rfl⟩⟩), (qr rfl ⟨(decide (v3 < v12) = true), (iv .i64 (W (v12 - 1))), 21, rfl, rfl, fun g23 => (z2f (mc rfl g23) ct), .inl ⟨(decide (v3 < v12)), rfl, rfl⟩⟩), (qr rfl ⟨(decide (v3 < v12) = true), (rowp sv2 (((W (v12 - 1)) : Int).toNat * 2)), 21, rfl, rfl, fun g24 => (zb 0 (ix55 H) (mc rfl g24) rfl (mc rfl g24) ((h25 g24)).1 ((h25 g24)).2), .inl ⟨(decide (v3 < v12)), rfl, rfl⟩⟩), (qr rfl ⟨(decide (v3 < v12) = true), (agg (eRef (gt v13 (W (v12 - 1))))), 21, rfl, rfl, fun g26 => (ln (tl43 H) ((Pt.row _ 0 (k := ((W (v12 - 1)) : Int).toNat) (fo := 0) lRef (mc rfl g26) rfl (by omega) (z8 (h25 g26)) rfl).take 2 (cs' := (eRef (gt v13 (W (v12 - 1))))) rfl) rfl), .inl ⟨(decide (v3 < v12)), rfl, rfl⟩⟩), (qr rfl ⟨(decide (v3 < v12) = true), (iv .i64 y28), 21, rfl, rfl, fun g27 => (zaz (mc rfl g27) (mc rfl g27) (mc rfl g27) (zy ey28 g27)), .inl ⟨(decide (v3 < v12)), rfl, rfl⟩⟩), (qr rfl ⟨(decide (v3 < v12) = true), (bv (decide (y28 < 0))), 21, rfl, rfl, fun g29 => (z10 (mc rfl g29) ct), .inl ⟨(decide (v3 < v12)), rfl, rfl⟩⟩), (qr rfl (z36 (mv rfl) (fun g30 => (mc rfl g30)) ct)), trivial⟩ trivial (fun _ => ?_))))
   refine al [0, 1, 2, 3, 8, 9, 34] [0] rfl rfl rfl (sq ?_)
   refine cI h rfl (fun c31 h => ?_) (fun c31 h => ?_)
   ·
    refine z2.skip (al [0, 1, 2, 3, 8, 9] [0] rfl rfl rfl (sq (cs (z2.block (ckE h fun h32 h => ckE h fun h33 h => ckE h fun h35 h => z2.draw (QR := [(0, (eqv sv2)), (1, (iv .i64 v12)), (2, (eqv sv2)), (3, (iv .i64 v12)), (4, (iv .i64 (W (v12 - 1)))), (5, (eqv sv2)), (6, (iv .i64 v12)), (7, (iv .i64 (W (v12 - 1)))), (8, (rowp sv2 (((W (v12 - 1)) : Int).toNat * 2))), (9, (agg (eRef (gt v13 (W (v12 - 1)))))), (10, (eqv sv2)), (11, (iv .i64 v12)), (12, (rowp sv2 ((v12 : Int).toNat * 2))), (13, (agg (eRef (gt v13 v12)))), (14, (rowp sv2 ((v12 : Int).toNat * 2)))]) (tab := [(some 37, []), (some 38, []), (some 39, []), (some 40, []), (some 41, [3]), (some 42, []), (some 43, []), (some 44, [6]), (some 45, [5, 7]), (some 46, [8]), (some 47, []), (some 48, []), (some 49, [10, 11]), (some 50, [12]), (some 51, [0, 1, 0, 1, 5, 6, 7, 8, 9, 13]), (none, [14, 9, 0, 1, 5, 6, 7, 8, 9, 13]), (some 52, [2, 4, 0, 1, 2, 3, 4, 5, 6, 7, 8, 9, 10, 11, 12, 13, 14, 15]), (none, [16, 13, 15, 0, 1, 2, 3, 4, 5, 6, 7, 8, 9, 10, 11, 12, 13, 14, 15])]) (z5h H) (Reg.intro [15] [] (by kernel_rfl) rfl (an rfl) ⟨(qr rfl (z0 (mv rfl))), (qr rfl (z0 (mv rfl))), (qr rfl (z0 (mv rfl))), (qr rfl (z0 (mv rfl))), (qr rfl (z2f (mv rfl) ct)), (qr rfl (z0 (mv rfl))), (qr rfl (z0 (mv rfl))), (qr rfl (z2f (mv rfl) ct)), (qr rfl (zb 0 (ix55 H) (mv rfl) rfl (mv rfl) (h32).1 (h32).2)), (qr rfl (ln (tl43 H) ((Pt.row _ 0 (k := ((W (v12 - 1)) : Int).toNat) (fo := 0) lRef (mv rfl) rfl (by omega) (z8 h32) rfl).take 2 (cs' := (eRef (gt v13 (W (v12 - 1))))) rfl) rfl)), (qr rfl (z0 (mv rfl))), (qr rfl (z0 (mv rfl))), (qr rfl (zb 0 (ix55 H) (mv rfl) rfl (mv rfl) (h33).1 (h33).2)), (qr rfl (ln (tl43 H) ((Pt.row _ 0 (k := (v12 : Int).toNat) (fo := 0) lRef (mv rfl) rfl (by omega) (z8 h33) rfl).take 2 (cs' := (eRef (gt v13 v12))) rfl) rfl)), (qr rfl (zb 0 (ix55 H) (mv rfl) rfl (mv rfl) (h33).1 (h33).2)), trivial⟩ ⟨⟨_, rfl, rfl, rfl, rfl, z3s 0 (k := (v12 : Int).toNat) (fo := 0) (z' := (gt v13 (W (v12 - 1)))) (cs := (eRef (gt v13 (W (v12 - 1))))) lRef (tl43 H) (mv rfl) (Ce.agg (mv rfl)) rfl rfl (by omega) (z8 h33) (Nat.le_of_ble_eq_true rfl) rfl ⟨[(16, (rowp sv2 (((W (v12 - 1)) : Int).toNat * 2)))], rfl, ?_⟩⟩, trivial⟩ ft))))))
    refine Reg.intro [17] [0, 1, 5, 6, 7, 8, 9, 10, 11, 12, 13, 14] (by kernel_rfl) rfl (an rfl) ⟨nf, nf, (qr rfl (z0 (mv rfl))), (qr rfl (z0 (mv rfl))), (qr rfl (z2f (mv rfl) ct)), nf, nf, nf, nf, nf, nf, nf, nf, nf, nf, (qr rfl (zb 0 (ix55 H) (mv rfl) rfl (mv rfl) (h35).1 (h35).2)), trivial⟩ ⟨⟨_, rfl, rfl, rfl, rfl, z3s 0 (k := ((W (v12 - 1)) : Int).toNat) (fo := 0) (z' := (gt v13 v12)) (cs := (eRef (gt v13 v12))) lRef (tl43 H) (mv rfl) (Ce.agg (mv rfl)) rfl rfl (by omega) (z8 h35) (Nat.le_of_ble_eq_true rfl) rfl ⟨[], rfl, ?_⟩⟩, trivial⟩ ft
    refine Reg.intro [] [0, 1, 2, 3, 4, 5, 6, 7, 8, 9, 10, 11, 12, 13, 14, 16] (by kernel_rfl) rfl (an rfl) ⟨nf, nf, nf, nf, nf, nf, nf, nf, nf, nf, nf, nf, nf, nf, nf, nf, trivial⟩ trivial (fun _ => AtX.in_normal (al [0, 1, 2, 3, 8, 9] [0] rfl rfl rfl (sq (cr [0, 1, 2] rfl (q1 rfl (z0 (mv rfl)) (q1 rfl (z2f (mv rfl) ct) (q1 rfl (z1 (mv rfl)) (rn ?_))))))))
    exact AtX.to (ih14 ((W (v12 - 1)), (z2o (z2o v13 v12 (gt v13 (W (v12 - 1)))) (W (v12 - 1)) (gt v13 v12))) h) [0] (sl rfl) (ol rfl) rfl
   ·
    refine z2.exit (AtX.then_exit (AtX.then_exit (AtX.in_hit (AtX.in_normal ?_))))
    exact AtX.to (hJ11 v13 h) [0] (sl rfl) (ol rfl) rfl
 ·
  refine z2.exit (AtX.then_exit (AtX.then_exit (AtX.in_hit (AtX.fall' (eqv (.tuple #[])) (zq.zero Try.results80) [0] [(row 43 eRef 2 v7 sv2)] (ol rfl) rfl ?_))))
  obtain rfl := Option.some.inj h
  exact ⟨_, rfl, rfl, rfl⟩
theorem z5o {P : Program} (H : P = Try.prog) (φ : Nat) (v1 : (List Ref)) (v3 : Int) (v4 : Int) (v5 : Int) (y6 : (Ref → Ref → Option Int)) (sv2 : Value) (r : (List Ref)) (h : z2q φ v1 v3 v4 v5 y6 = some r) : MutT P 103 [(eqv sv2), (iv .i64 v3), (iv .i64 v4), (iv .i64 v5), (fcmp P (fun x => (agg (eRef x))) y6)] 43 eRef 2 v1 sv2 (fun x l' => x = eqv (.tuple #[]) ∧ r = l') := by
 unfold z2q at h
 refine MutT.of_code 38 (zyc H) rfl rfl (Nat.le_of_ble_eq_true rfl) fun w0 base r0 wI => ?_
 refine cl [0, 1, 2, 3] [0] rfl rfl rfl (cs (cr [0] rfl (q1 rfl (z1 ct) (rn (al [0, 1, 2, 3, 10] [0] rfl rfl rfl (sq (z2.block ?_)))))))
 refine z2.to (z2.loop (fun n (z : Int × (List Ref)) => z1j φ v3 v4 v5 n z.1 z.2) r (fun z => ⟨zd.of [(0, (eqv sv2)), (1, (iv .i64 v3)), (2, (iv .i64 v4)), (3, (iv .i64 v5)), (10, (iv .i64 z.1))], [(row 43 eRef 2 z.2 sv2)]⟩) (fun z => rfl) (fun n9 z ih9 h => ?_) φ (0, v1) h) [0] (sl rfl) (ol rfl) rfl
 obtain ⟨v7, v8⟩ := z
 replace h : z1j φ v3 v4 v5 (n9 + 1) v7 v8 = some r := h
 rw [z1j] at h
 refine cs (cs (cr [0, 1, 2] rfl (q1 rfl (z0 (mv rfl)) (q1 rfl (z0 (mv rfl)) (q1 rfl (z10 (mv rfl) (mv rfl)) (rn (al [0, 1, 2, 3, 10, 13] [0] rfl rfl rfl (sq ?_))))))))
 refine cI h rfl (fun c10 h => ?_) (fun c10 h => ?_)
 ·
  refine z2.skip (al [0, 1, 2, 3, 10] [0] rfl rfl rfl (sq (cs (z2.block (ckE h fun h11 h => ckE h fun h12 h => ckE h fun h14 h => z2.draw (QR := [(0, _), (1, _), (2, _), (3, _), (4, _), (5, _), (6, _), (7, _), (8, _), (9, _), (10, _), (11, _), (12, _), (13, _), (14, _), (15, _), (16, _), (17, _), (18, _), (19, _), (20, _)]) (tab := [(some 16, []), (some 17, []), (some 18, []), (some 19, [1, 2]), (some 20, []), (some 21, []), (some 22, []), (some 23, [5, 6]), (some 24, []), (some 25, []), (some 26, []), (some 27, [9, 10]), (some 28, [8, 11]), (some 29, [12]), (some 30, []), (some 31, []), (some 32, []), (some 33, [15, 16]), (some 34, [14, 17]), (some 35, [18]), (some 36, [0, 3, 0, 1, 2, 3, 8, 9, 10, 11, 12, 13, 19]), (none, [20, 13, 0, 1, 2, 3, 8, 9, 10, 11, 12, 13, 19]), (some 37, [4, 7, 0, 1, 2, 3, 4, 5, 6, 7, 8, 9, 10, 11, 12, 13, 14, 15, 16, 17, 18, 19, 20, 21]), (none, [22, 19, 21, 0, 1, 2, 3, 4, 5, 6, 7, 8, 9, 10, 11, 12, 13, 14, 15, 16, 17, 18, 19, 20, 21])]) (z5h H) (Reg.intro [21] [] (by kernel_rfl) rfl (an rfl) ⟨(qr rfl (z0 (Ev.tmp (A := (eqv sv2)) (by kernel_rfl)))), (qr rfl (z0 (Ev.tmp (A := (iv .i64 v3)) (by kernel_rfl)))), (qr rfl (z0 (Ev.tmp (A := (iv .i64 v7)) (by kernel_rfl)))), (qr rfl (z0g (Ev.tmp (A := (iv .i64 v3)) (by kernel_rfl)) (Ev.tmp (A := (iv .i64 v7)) (by kernel_rfl)))), (qr rfl (z0 (Ev.tmp (A := (eqv sv2)) (by kernel_rfl)))), (qr rfl (z0 (Ev.tmp (A := (iv .i64 v4)) (by kernel_rfl)))), (qr rfl (z0 (Ev.tmp (A := (iv .i64 v7)) (by kernel_rfl)))), (qr rfl (z0g (Ev.tmp (A := (iv .i64 v4)) (by kernel_rfl)) (Ev.tmp (A := (iv .i64 v7)) (by kernel_rfl)))), (qr rfl (z0 (Ev.tmp (A := (eqv sv2)) (by kernel_rfl)))), (qr rfl (z0 (Ev.tmp (A := (iv .i64 v4)) (by kernel_rfl)))), (qr rfl (z0 (Ev.tmp (A := (iv .i64 v7)) (by kernel_rfl)))), (qr rfl (z0g (Ev.tmp (A := (iv .i64 v4)) (by kernel_rfl)) (Ev.tmp (A := (iv .i64 v7)) (by kernel_rfl)))), (qr rfl (zb 0 (ix55 H) (Ev.tmp (A := (eqv sv2)) (by kernel_rfl)) rfl (Ev.tmp (A := (iv .i64 (W (v4 + v7)))) (by kernel_rfl)) (h11).1 (h11).2)), (qr rfl (ln (tl43 H) ((Pt.row _ 0 (k := ((W (v4 + v7)) : Int).toNat) (fo := 0) lRef (Ev.tmp (A := (rowp sv2 (((W (v4 + v7)) : Int).toNat * 2))) (by kernel_rfl)) rfl (by omega) (z8 h11) rfl).take 2 (cs' := (eRef (gt v8 (W (v4 + v7))))) rfl) rfl)), (qr rfl (z0 (Ev.tmp (A := (eqv sv2)) (by kernel_rfl)))), (qr rfl (z0 (Ev.tmp (A := (iv .i64 v3)) (by kernel_rfl)))), (qr rfl (z0 (Ev.tmp (A := (iv .i64 v7)) (by kernel_rfl)))), (qr rfl (z0g (Ev.tmp (A := (iv .i64 v3)) (by kernel_rfl)) (Ev.tmp (A := (iv .i64 v7)) (by kernel_rfl)))), (qr rfl (zb 0 (ix55 H) (Ev.tmp (A := (eqv sv2)) (by kernel_rfl)) rfl (Ev.tmp (A := (iv .i64 (W (v3 + v7)))) (by kernel_rfl)) (h12).1 (h12).2)), (qr rfl (ln (tl43 H) ((Pt.row _ 0 (k := ((W (v3 + v7)) : Int).toNat) (fo := 0) lRef (Ev.tmp (A := (rowp sv2 (((W (v3 + v7)) : Int).toNat * 2))) (by kernel_rfl)) rfl (by omega) (z8 h12) rfl).take 2 (cs' := (eRef (gt v8 (W (v3 + v7))))) rfl) rfl)), (qr rfl (zb 0 (ix55 H) (Ev.tmp (A := (eqv sv2)) (by kernel_rfl)) rfl (Ev.tmp (A := (iv .i64 (W (v3 + v7)))) (by kernel_rfl)) (h12).1 (h12).2)), trivial⟩ ⟨⟨_, rfl, rfl, rfl, rfl, z3s 0 (k := ((W (v3 + v7)) : Int).toNat) (fo := 0) (z' := (gt v8 (W (v4 + v7)))) (cs := (eRef (gt v8 (W (v4 + v7))))) lRef (tl43 H) (Ev.tmp (A := (rowp sv2 (((W (v3 + v7)) : Int).toNat * 2))) (by kernel_rfl)) (Ce.agg (Ev.tmp (A := (agg (eRef (gt v8 (W (v4 + v7)))))) (by kernel_rfl))) rfl rfl (by omega) (z8 h12) (Nat.le_of_ble_eq_true rfl) rfl ⟨[(22, (rowp sv2 (((W (v4 + v7)) : Int).toNat * 2)))], rfl, ?_⟩⟩, trivial⟩ ft))))))
  refine Reg.intro [23] [0, 1, 2, 3, 8, 9, 10, 11, 12, 13, 14, 15, 16, 17, 18, 19, 20] (by kernel_rfl) rfl (an rfl) ⟨nf, nf, nf, nf, (qr rfl (z0 (Ev.tmp (A := (eqv sv2)) (by kernel_rfl)))), (qr rfl (z0 (Ev.tmp (A := (iv .i64 v4)) (by kernel_rfl)))), (qr rfl (z0 (Ev.tmp (A := (iv .i64 v7)) (by kernel_rfl)))), (qr rfl (z0g (Ev.tmp (A := (iv .i64 v4)) (by kernel_rfl)) (Ev.tmp (A := (iv .i64 v7)) (by kernel_rfl)))), nf, nf, nf, nf, nf, nf, nf, nf, nf, nf, nf, nf, nf, (qr rfl (zb 0 (ix55 H) (Ev.tmp (A := (eqv sv2)) (by kernel_rfl)) rfl (Ev.tmp (A := (iv .i64 (W (v4 + v7)))) (by kernel_rfl)) (h14).1 (h14).2)), trivial⟩ ⟨⟨_, rfl, rfl, rfl, rfl, z3s 0 (k := ((W (v4 + v7)) : Int).toNat) (fo := 0) (z' := (gt v8 (W (v3 + v7)))) (cs := (eRef (gt v8 (W (v3 + v7))))) lRef (tl43 H) (Ev.tmp (A := (rowp sv2 (((W (v4 + v7)) : Int).toNat * 2))) (by kernel_rfl)) (Ce.agg (Ev.tmp (A := (agg (eRef (gt v8 (W (v3 + v7)))))) (by kernel_rfl))) rfl rfl (by omega) (z8 h14) (Nat.le_of_ble_eq_true rfl) rfl ⟨[], rfl, ?_⟩⟩, trivial⟩ ft
  refine Reg.intro [] [0, 1, 2, 3, 4, 5, 6, 7, 8, 9, 10, 11, 12, 13, 14, 15, 16, 17, 18, 19, 20, 22] (by kernel_rfl) rfl (an rfl) ⟨nf, nf, nf, nf, nf, nf, nf, nf, nf, nf, nf, nf, nf, nf, nf, nf, nf, nf, nf, nf, nf, nf, trivial⟩ trivial (fun _ => AtX.in_normal (al [0, 1, 2, 3, 10] [0] rfl rfl rfl (sq (cr [0, 1, 2] rfl (q1 rfl (z0 (mv rfl)) (q1 rfl (z0g (mv rfl) ct) (q1 rfl (z1 (mv rfl)) (rn ?_))))))))
  exact AtX.to (ih9 ((W (v7 + 1)), (z2o (z2o v8 (W (v3 + v7)) (gt v8 (W (v4 + v7)))) (W (v4 + v7)) (gt v8 (W (v3 + v7))))) h) [0] (sl rfl) (ol rfl) rfl
 ·
  refine z2.exit (AtX.then_exit (AtX.then_exit (AtX.in_hit (AtX.fall' (eqv (.tuple #[])) (zq.zero Try.results103) [0] [(row 43 eRef 2 v8 sv2)] (ol rfl) rfl ?_))))
  obtain rfl := Option.some.inj h
  exact ⟨_, rfl, rfl, rfl⟩
theorem zb4 {P : Program} (H : P = Try.prog) (φ : Nat) (v1 : (List Ref)) (v3 : Int) (v4 : Int) (v5 : Int) (y6 : (Ref → Ref → Option Int)) (sv2 : Value) (r : (List Ref)) (h : z4o φ v1 v3 v4 v5 y6 = some r) : MutT P 97 [(eqv sv2), (iv .i64 v3), (iv .i64 v4), (iv .i64 v5), (fcmp P (fun x => (agg (eRef x))) y6)] 43 eRef 2 v1 sv2 (fun x l' => x = eqv (.tuple #[]) ∧ r = l') := by
 unfold z4o at h
 refine MutT.of_code 58 (fn97 H) rfl rfl (Nat.le_of_ble_eq_true rfl) fun w0 base r0 wI => ?_
 refine cl [0, 1, 2, 3, 4] [0] rfl rfl rfl (cs (cr [0, 1, 2, 3] rfl (q1 rfl (z0 (mv rfl)) (q1 rfl (z0 (mv rfl)) (q1 rfl (z2f (mv rfl) (mv rfl)) (q1 rfl (z1 (mv rfl)) (rn (al [0, 2, 3, 4, 10] [0] rfl rfl rfl (sq (cs (cr [0, 1, 2, 3] rfl ?_)))))))))))
 refine q1 rfl (z0 (mv rfl)) (q1 rfl (z0 (mv rfl)) (q1 rfl (z2f (mv rfl) (mv rfl)) (q1 rfl (z1 (mv rfl)) (rn (al [0, 2, 4, 10, 11] [0] rfl rfl rfl (sq (cs ?_)))))))
 refine z2.join (fun z : Int × (List Ref) => (z21 φ v4 y6) z.1 z.2) r (fun z => ⟨zd.of [(0, (eqv sv2)), (2, (iv .i64 v4)), (4, (fcmp P (fun x => (agg (eRef x))) y6)), (10, (iv .i64 z.1))], [(row 43 eRef 2 z.2 sv2)]⟩) (fun z h => ?_) (fun hJ9 => ?_)
 ·
  obtain ⟨v7, v8⟩ := z
  replace h : (z21 φ v4 y6) v7 v8 = some r := h
  unfold z21 at h
  refine al [0, 2, 4, 10] [0] rfl rfl rfl (sq (cr [0, 1, 2, 3, 4, 5, 6, 7] rfl (q1 rfl (z0 (mv rfl)) (q1 rfl (z0 (mv rfl)) (q1 rfl (z0 (mv rfl)) (q1 rfl (z2f (mv rfl) (mv rfl)) (q1 rfl (z0 (mv rfl)) (q1 rfl (z0 (mv rfl)) (q1 rfl (z0 (mv rfl)) (zp h fun y10 ey10 h => n1 rfl (z3r 0 rfl (fun x => (fRef x).mem) (zme H) (args := [(eqv sv2), (iv .i64 (W (v4 - v7))), (iv .i64 v4), (iv .i64 v7), (fcmp P (fun x => (agg (eRef x))) y6)]) ⟨(mv rfl), (mv rfl), (mv rfl), (mv rfl), (mv rfl), trivial⟩ (z5o H φ v8 (W (v4 - v7)) v4 v7 y6 sv2 _ ey10) fun x11 nw12 hk13 => ?_)))))))))))
  obtain ⟨rfl, rfl⟩ := hk13
  refine ⟨z5, ?_⟩
  refine rn (AtX.fall' (eqv (.tuple #[])) (zq.zero Try.results97) [0] [(row 43 eRef 2 y10 sv2)] (ol rfl) rfl ?_)
  obtain rfl := Option.some.inj h
  exact ⟨_, rfl, rfl, rfl⟩
 ·
  refine z2.block ?_
  refine z2.to (z2.loop (fun n (z : Int × Int × (List Ref)) => z1r φ v4 y6 (z21 φ v4 y6) n z.1 z.2.1 z.2.2) r (fun z => ⟨zd.of [(0, (eqv sv2)), (2, (iv .i64 v4)), (4, (fcmp P (fun x => (agg (eRef x))) y6)), (10, (iv .i64 z.1)), (11, (iv .i64 z.2.1))], [(row 43 eRef 2 z.2.2 sv2)]⟩) (fun z => rfl) (fun n17 z ih17 h => ?_) φ ((W (v4 - v3)), (W (v5 - v4)), v1) h) [0] (sl rfl) (ol rfl) rfl
  obtain ⟨v14, v15, v16⟩ := z
  replace h : z1r φ v4 y6 (z21 φ v4 y6) (n17 + 1) v14 v15 v16 = some r := h
  rw [z1r] at h
  refine cs (cs (cr [0, 1, 2] rfl (q1 rfl (z0 (mv rfl)) (q1 rfl (z0 (mv rfl)) (q1 rfl (z6g (mv rfl) (mv rfl)) (rn (al [0, 2, 4, 10, 11, 20] [0] rfl rfl rfl (sq ?_))))))))
  refine cI h rfl (fun c18 h => ?_) (fun c18 h => ?_)
  ·
   refine z2.skip (al [0, 2, 4, 10, 11] [0] rfl rfl rfl (sq (z2.block (cs (cr [0, 1, 2] rfl (q1 rfl (z0 (mv rfl)) (q1 rfl (z0 (mv rfl)) (q1 rfl (z49 (mv rfl) (mv rfl)) (rn (al [0, 2, 4, 10, 11, 23] [0] rfl rfl rfl (sq ?_)))))))))))
   refine cI h rfl (fun c19 h => ?_) (fun c19 h => ?_)
   ·
    refine cs (cr [0, 1, 2, 3, 4, 5, 6, 7] rfl (q1 rfl (z0 (mv rfl)) (q1 rfl (z0 (mv rfl)) (q1 rfl (z0 (mv rfl)) (q1 rfl (z2f (mv rfl) (mv rfl)) (q1 rfl (z0 (mv rfl)) (q1 rfl (z0 (mv rfl)) (q1 rfl (z0 (mv rfl)) (zp h fun y20 ey20 h => n1 rfl (z3r 0 rfl (fun x => (fRef x).mem) (zme H) (args := [(eqv sv2), (iv .i64 (W (v4 - v14))), (iv .i64 v4), (iv .i64 v15), (fcmp P (fun x => (agg (eRef x))) y6)]) ⟨(mv rfl), (mv rfl), (mv rfl), (mv rfl), (mv rfl), trivial⟩ (z5o H φ v16 (W (v4 - v14)) v4 v15 y6 sv2 _ ey20) fun x21 nw22 hk23 => ?_))))))))))
    obtain ⟨rfl, rfl⟩ := hk23
    refine ⟨z5, ?_⟩
    refine rn (al [0, 2, 4, 10, 11] [0] rfl rfl rfl (sq (cr [0, 1, 2, 3] rfl (q1 rfl (z0 (mv rfl)) (q1 rfl (z0 (mv rfl)) (q1 rfl (z2f (mv rfl) (mv rfl)) (q1 rfl (z1 (mv rfl)) (rn (AtX.in_normal ?_)))))))))
    exact AtX.to (ih17 ((W (v14 - v15)), v15, y20) h) [0] (sl rfl) (ol rfl) rfl
   ·
    refine cs (cr [0, 1, 2, 3, 4, 5, 6, 7, 8, 9, 10, 11] rfl (q1 rfl (z0 (mv rfl)) (q1 rfl (z0 (mv rfl)) (q1 rfl (z0 (mv rfl)) (q1 rfl (z2f (mv rfl) (mv rfl)) (q1 rfl (z0 (mv rfl)) (q1 rfl (z0 (mv rfl)) (q1 rfl (z0g (mv rfl) (mv rfl)) (q1 rfl (z0 (mv rfl)) (q1 rfl (z2f (mv rfl) (mv rfl)) (q1 rfl (z0 (mv rfl)) ?_)))))))))))
    refine q1 rfl (z0 (mv rfl)) (zp h fun y24 ey24 h => n1 rfl (z3r 0 rfl (fun x => (fRef x).mem) (zme H) (args := [(eqv sv2), (iv .i64 (W (v4 - v14))), (iv .i64 (W ((W (v4 + v15)) - v14))), (iv .i64 v14), (fcmp P (fun x => (agg (eRef x))) y6)]) ⟨(mv rfl), (mv rfl), (mv rfl), (mv rfl), (mv rfl), trivial⟩ (z5o H φ v16 (W (v4 - v14)) (W ((W (v4 + v15)) - v14)) v14 y6 sv2 _ ey24) fun x25 nw26 hk27 => ?_))
    obtain ⟨rfl, rfl⟩ := hk27
    refine ⟨z5, ?_⟩
    refine rn (al [0, 2, 4, 10, 11] [0] rfl rfl rfl (sq (cr [0, 1, 2, 3] rfl (q1 rfl (z0 (mv rfl)) (q1 rfl (z0 (mv rfl)) (q1 rfl (z2f (mv rfl) (mv rfl)) (q1 rfl (z1 (mv rfl)) (rn (AtX.in_normal ?_)))))))))
    exact AtX.to (ih17 (v14, (W (v15 - v14)), y24) h) [0] (sl rfl) (ol rfl) rfl
  ·
   refine z2.exit (AtX.then_exit (AtX.then_exit (AtX.in_hit ?_)))
   exact AtX.to (hJ9 (v14, v16) h) [0] (sl rfl) (ol rfl) rfl
end Px
end
section
set_option linter.unusedVariables false
set_option linter.unusedSimpArgs false
set_option maxHeartbeats 4000000
set_option maxRecDepth 100000
namespace Px
open Go Go.RowKit Go.Proofs
end Px
end
section
set_option linter.unusedVariables false
set_option linter.unusedSimpArgs false
set_option maxHeartbeats 4000000
set_option maxRecDepth 100000
namespace Px
open Go Go.RowKit Go.Proofs
theorem z87 {P : Program} (H : P = Try.prog) : ∀ (φ : Nat) (v1 : (List Ref)) (v3 : Int) (v4 : Int) (v5 : Int) (y6 : (Ref → Ref → Option Int)) (sv2 : Value) (r : (List Ref)) (h : za φ v1 v3 v4 v5 y6 = some r), MutT P 81 [(eqv sv2), (iv .i64 v3), (iv .i64 v4), (iv .i64 v5), (fcmp P (fun x => (agg (eRef x))) y6)] 43 eRef 2 v1 sv2 (fun x l' => x = eqv (.tuple #[]) ∧ r = l') := by
 intro φ
 induction φ with
 | zero => intro v1 v3 v4 v5 y6 sv2 r h; cases h
 | succ φ ih =>
  intro v1 v3 v4 v5 y6 sv2 r h
  rw [za] at h
  refine MutT.of_code 220 (fn81 H) rfl rfl (Nat.le_of_ble_eq_true rfl) fun w0 base r0 wI => ?_
  refine cl [0, 1, 2, 3, 4] [0] rfl rfl rfl (cs (cs (cr [0, 1, 2, 3] rfl (q1 rfl (z0 (mv rfl)) (q1 rfl (z0 (mv rfl)) (q1 rfl (z2f (mv rfl) (mv rfl)) (q1 rfl (z61 (mv rfl) ct) (rn (al [0, 1, 2, 3, 4, 28] [0] rfl rfl rfl (sq ?_))))))))))
  refine cI h rfl (fun c8 h => ?_) (fun c8 h => ?_)
  ·
   refine cs (cr [0, 1] rfl (q1 rfl (z0 (mv rfl)) (q1 rfl (z1 (mv rfl)) (rn (al [0, 1, 3, 4, 10] [0] rfl rfl rfl (sq (cs (cr [0, 1] rfl (q1 rfl (z0 (mv rfl)) (q1 rfl (z1 (mv rfl)) (rn ?_)))))))))))
   refine al [0, 1, 4, 10, 11] [0] rfl rfl rfl (sq (cs ?_))
   refine z2.join (fun z : Int => (z07 φ v1 v3) z) r (fun z => ⟨zd.of [(0, (eqv sv2)), (1, (iv .i64 v3)), (10, (iv .i64 z))], [(row 43 eRef 2 v1 sv2)]⟩) (fun v9 h => ?_) (fun hJ10 => ?_)
   ·
    replace h : (z07 φ v1 v3) v9 = some r := h
    unfold z07 at h
    refine al [0, 1, 10] [0] rfl rfl rfl (sq (cs (cs (cr [0, 1] rfl (q1 rfl (z0 (mv rfl)) (q1 rfl (z1 (mv rfl)) (rn (al [0, 10, 13] [0] rfl rfl rfl (sq ?_)))))))))
    refine z2.join (fun z : (List Ref) => (z27 φ) z) r (fun z => ⟨zd.of [], [(row 43 eRef 2 z sv2)]⟩) (fun v11 h => ?_) (fun hJ12 => ?_)
    ·
     replace h : (z27 φ) v11 = some r := h
     unfold z27 at h
     refine al [] [0] rfl rfl rfl (sq (z2.ret (AtX.then_ret (AtX.ret' (eqv (.tuple #[])) (zq.zero Try.results81) [0] [(row 43 eRef 2 v11 sv2)] (ol rfl) rfl ?_))))
     obtain rfl := Option.some.inj h
     exact ⟨_, rfl, rfl, rfl⟩
    ·
     refine z2.block ?_
     refine z2.to (z2.loop (fun n (z : Int × (List Ref)) => z28 φ v9 (z27 φ) n z.1 z.2) r (fun z => ⟨zd.of [(0, (eqv sv2)), (10, (iv .i64 v9)), (13, (iv .i64 z.1))], [(row 43 eRef 2 z.2 sv2)]⟩) (fun z => rfl) (fun n15 z ih15 h => ?_) φ (v3, v1) h) [0] (sl rfl) (ol rfl) rfl
     obtain ⟨v13, v14⟩ := z
     replace h : z28 φ v9 (z27 φ) (n15 + 1) v13 v14 = some r := h
     rw [z28] at h
     refine cs (cs (cr [0, 1, 2, 3] rfl (q1 rfl (z0 (mv rfl)) (q1 rfl (z0 (mv rfl)) (q1 rfl (z2f (mv rfl) ct) (q1 rfl (z10 (mv rfl) (mv rfl)) (rn (al [0, 10, 13, 58] [0] rfl rfl rfl (sq ?_)))))))))
     refine cI h rfl (fun c16 h => ?_) (fun c16 h => ?_)
     ·
      refine z2.skip (al [0, 10, 13] [0] rfl rfl rfl (sq (cs (z2.block (ckE h fun h17 h => ckE h fun h18 h => ckE h fun h20 h => z2.draw (QR := [(0, _), (1, _), (2, _), (3, _), (4, _), (5, _), (6, _), (7, _), (8, _), (9, _), (10, _), (11, _), (12, _), (13, _), (14, _)]) (tab := [(some 61, []), (some 62, []), (some 63, []), (some 64, []), (some 65, [3]), (some 66, []), (some 67, []), (some 68, [6]), (some 69, [5, 7]), (some 70, [8]), (some 71, []), (some 72, []), (some 73, [10, 11]), (some 74, [12]), (some 75, [0, 1, 0, 1, 5, 6, 7, 8, 9, 13]), (none, [14, 9, 0, 1, 5, 6, 7, 8, 9, 13]), (some 76, [2, 4, 0, 1, 2, 3, 4, 5, 6, 7, 8, 9, 10, 11, 12, 13, 14, 15]), (none, [16, 13, 15, 0, 1, 2, 3, 4, 5, 6, 7, 8, 9, 10, 11, 12, 13, 14, 15])]) (z5h H) (Reg.intro [15] [] (by kernel_rfl) rfl (an rfl) ⟨(qr rfl (z0 (mv rfl))), (qr rfl (z0 (mv rfl))), (qr rfl (z0 (mv rfl))), (qr rfl (z0 (mv rfl))), (qr rfl (z0g (mv rfl) ct)), (qr rfl (z0 (mv rfl))), (qr rfl (z0 (mv rfl))), (qr rfl (z0g (mv rfl) ct)), (qr rfl (zb 0 (ix55 H) (mv rfl) rfl (mv rfl) (h17).1 (h17).2)), (qr rfl (ln (tl43 H) ((Pt.row _ 0 (k := ((W (v13 + 1)) : Int).toNat) (fo := 0) lRef (mv rfl) rfl rfl (z8 h17) rfl).take 2 (cs' := (eRef (gt v14 (W (v13 + 1))))) rfl) rfl)), (qr rfl (z0 (mv rfl))), (qr rfl (z0 (mv rfl))), (qr rfl (zb 0 (ix55 H) (mv rfl) rfl (mv rfl) (h18).1 (h18).2)), (qr rfl (ln (tl43 H) ((Pt.row _ 0 (k := (v13 : Int).toNat) (fo := 0) lRef (mv rfl) rfl rfl (z8 h18) rfl).take 2 (cs' := (eRef (gt v14 v13))) rfl) rfl)), (qr rfl (zb 0 (ix55 H) (mv rfl) rfl (mv rfl) (h18).1 (h18).2)), trivial⟩ ⟨⟨_, rfl, rfl, rfl, rfl, z3s 0 (k := (v13 : Int).toNat) (fo := 0) (z' := (gt v14 (W (v13 + 1)))) (cs := (eRef (gt v14 (W (v13 + 1))))) lRef (tl43 H) (mv rfl) (Ce.agg (mv rfl)) rfl rfl rfl (z8 h18) (Nat.le_of_ble_eq_true rfl) rfl ⟨[(16, (rowp sv2 (((W (v13 + 1)) : Int).toNat * 2)))], rfl, ?_⟩⟩, trivial⟩ ft))))))
      refine Reg.intro [17] [0, 1, 5, 6, 7, 8, 9, 10, 11, 12, 13, 14] (by kernel_rfl) rfl (an rfl) ⟨nf, nf, (qr rfl (z0 (mv rfl))), (qr rfl (z0 (mv rfl))), (qr rfl (z0g (mv rfl) ct)), nf, nf, nf, nf, nf, nf, nf, nf, nf, nf, (qr rfl (zb 0 (ix55 H) (mv rfl) rfl (mv rfl) (h20).1 (h20).2)), trivial⟩ ⟨⟨_, rfl, rfl, rfl, rfl, z3s 0 (k := ((W (v13 + 1)) : Int).toNat) (fo := 0) (z' := (gt v14 v13)) (cs := (eRef (gt v14 v13))) lRef (tl43 H) (mv rfl) (Ce.agg (mv rfl)) rfl rfl (by omega) (z8 h20) (Nat.le_of_ble_eq_true rfl) rfl ⟨[], rfl, ?_⟩⟩, trivial⟩ ft
      refine Reg.intro [] [0, 1, 2, 3, 4, 5, 6, 7, 8, 9, 10, 11, 12, 13, 14, 16] (by kernel_rfl) rfl (an rfl) ⟨nf, nf, nf, nf, nf, nf, nf, nf, nf, nf, nf, nf, nf, nf, nf, nf, trivial⟩ trivial (fun _ => AtX.in_normal (al [0, 10, 13] [0] rfl rfl rfl (sq (cr [0, 1, 2] rfl (q1 rfl (z0 (mv rfl)) (q1 rfl (z0g (mv rfl) ct) (q1 rfl (z1 (mv rfl)) (rn ?_))))))))
      exact AtX.to (ih15 ((W (v13 + 1)), (z2o (z2o v14 v13 (gt v14 (W (v13 + 1)))) (W (v13 + 1)) (gt v14 v13))) h) [0] (sl rfl) (ol rfl) rfl
     ·
      refine z2.exit (AtX.then_exit (AtX.then_exit (AtX.in_hit ?_)))
      exact AtX.to (hJ12 v14 h) [0] trivial (ol rfl) rfl
   ·
    refine z2.block ?_
    refine z2.to (z2.loop (fun n (z : Int × Int) => z0e φ v1 v3 y6 (z07 φ v1 v3) n z.1 z.2) r (fun z => ⟨zd.of [(0, (eqv sv2)), (1, (iv .i64 v3)), (4, (fcmp P (fun x => (agg (eRef x))) y6)), (10, (iv .i64 z.1)), (11, (iv .i64 z.2))], [(row 43 eRef 2 v1 sv2)]⟩) (fun z => rfl) (fun n24 z ih24 h => ?_) φ (v4, v5) h) [0] (sl rfl) (ol rfl) rfl
    obtain ⟨v22, v23⟩ := z
    replace h : z0e φ v1 v3 y6 (z07 φ v1 v3) (n24 + 1) v22 v23 = some r := h
    rw [z0e] at h
    refine cs (cs (cr [0, 1, 2] rfl (q1 rfl (z0 (mv rfl)) (q1 rfl (z0 (mv rfl)) (q1 rfl (z10 (mv rfl) (mv rfl)) (rn (al [0, 1, 4, 10, 11, 33] [0] rfl rfl rfl (sq ?_))))))))
    refine cI h rfl (fun c25 h => ?_) (fun c25 h => ?_)
    ·
     refine z2.skip (al [0, 1, 4, 10, 11] [0] rfl rfl rfl (sq (z2.block (cs (cr [0, 1, 2, 3, 4, 5, 6] rfl (q1 rfl (z0 (mv rfl)) (q1 rfl (z0 (mv rfl)) (q1 rfl (z0g (mv rfl) (mv rfl)) (q1 rfl (z83 (us3 H) (zft H) (mv rfl)) (q1 rfl (z9c 2 (by decide) (mv rfl) ct (by decide)) (q1 rfl (z83 (zgk H) (un3 H) (mv rfl)) ?_)))))))))))
     refine q1 rfl (z1 (mv rfl)) (rn (al [0, 1, 4, 10, 11, 12] [0] rfl rfl rfl (sq (cs (ckE h fun h26 h => ckE h fun h27 h => zp h fun y28 ey28 h => z2.draw (QR := [(0, _), (1, _), (2, _), (3, _), (4, _), (5, _), (6, _), (7, _), (8, _), (9, _), (10, _)]) (tab := [(some 40, []), (some 41, []), (some 42, []), (some 43, [1, 2]), (some 44, [3]), (some 45, []), (some 46, []), (some 47, [5, 6]), (some 48, [7]), (some 49, [0, 4, 8]), (some 50, [9])]) (z5h H) (Reg.intro [] [] (by kernel_rfl) rfl (an rfl) ⟨(qr rfl (z0 (mv rfl))), (qr rfl (z0 (mv rfl))), (qr rfl (z0 (mv rfl))), (qr rfl (zb 0 (ix55 H) (mv rfl) rfl (mv rfl) (h26).1 (h26).2)), (qr rfl (ln (tl43 H) ((Pt.row _ 0 (k := ((W (((U ((W (v22 + v23)))).fdiv 2))) : Int).toNat) (fo := 0) lRef (mv rfl) rfl rfl (z8 h26) rfl).take 2 (cs' := (eRef (gt v1 (W (((U ((W (v22 + v23)))).fdiv 2)))))) rfl) rfl)), (qr rfl (z0 (mv rfl))), (qr rfl (z0 (mv rfl))), (qr rfl (zb 0 (ix55 H) (mv rfl) rfl (mv rfl) (h27).1 (h27).2)), (qr rfl (ln (tl43 H) ((Pt.row _ 0 (k := (v3 : Int).toNat) (fo := 0) lRef (mv rfl) rfl rfl (z8 h27) rfl).take 2 (cs' := (eRef (gt v1 v3))) rfl) rfl)), (qr rfl (zaz (mv rfl) (mv rfl) (mv rfl) ey28)), (qr rfl (z10 (mv rfl) ct)), trivial⟩ trivial (fun _ => al [0, 1, 4, 10, 11, 12, 50] [0] rfl rfl rfl (sq ?_))))))))
     refine cI h rfl (fun c29 h => ?_) (fun c29 h => ?_)
     ·
      refine cr [0, 1, 2] rfl (q1 rfl (z0 (mv rfl)) (q1 rfl (z0g (mv rfl) ct) (q1 rfl (z1 (mv rfl)) (rn (AtX.in_normal ?_)))))
      exact AtX.to (ih24 ((W ((W (((U ((W (v22 + v23)))).fdiv 2))) + 1)), v23) h) [0] (sl rfl) (ol rfl) rfl
     ·
      refine cr [0, 1] rfl (q1 rfl (z0 (mv rfl)) (q1 rfl (z1 (mv rfl)) (rn (AtX.in_normal ?_))))
      exact AtX.to (ih24 (v22, (W (((U ((W (v22 + v23)))).fdiv 2)))) h) [0] (sl rfl) (ol rfl) rfl
    ·
     refine z2.exit (AtX.then_exit (AtX.then_exit (AtX.in_hit ?_)))
     exact AtX.to (hJ10 v22 h) [0] (sl rfl) (ol rfl) rfl
  ·
   refine z2.skip (al [0, 1, 2, 3, 4] [0] rfl rfl rfl (sq (cs (cs (cr [0, 1, 2, 3] rfl (q1 rfl (z0 (mv rfl)) (q1 rfl (z0 (mv rfl)) (q1 rfl (z2f (mv rfl) (mv rfl)) (q1 rfl (z61 (mv rfl) ct) (rn (al [0, 1, 2, 3, 4, 80] [0] rfl rfl rfl ?_)))))))))))
   refine sq ?_
   refine cI h rfl (fun c30 h => ?_) (fun c30 h => ?_)
   ·
    refine cs (cr [0, 1] rfl (q1 rfl (z0 (mv rfl)) (q1 rfl (z1 (mv rfl)) (rn (al [0, 2, 4, 14] [0] rfl rfl rfl (sq (cs (cr [0, 1] rfl (q1 rfl (z0 (mv rfl)) (q1 rfl (z1 (mv rfl)) (rn ?_)))))))))))
    refine al [0, 2, 4, 14, 15] [0] rfl rfl rfl (sq (cs ?_))
    refine z2.join (fun z : Int => (z0b φ v1 v4) z) r (fun z => ⟨zd.of [(0, (eqv sv2)), (2, (iv .i64 v4)), (14, (iv .i64 z))], [(row 43 eRef 2 v1 sv2)]⟩) (fun v31 h => ?_) (fun hJ32 => ?_)
    ·
     replace h : (z0b φ v1 v4) v31 = some r := h
     unfold z0b at h
     refine al [0, 2, 14] [0] rfl rfl rfl (sq (cs (cs (cr [0, 1] rfl (q1 rfl (z0 (mv rfl)) (q1 rfl (z1 (mv rfl)) (rn (al [0, 14, 17] [0] rfl rfl rfl (sq ?_)))))))))
     refine z2.join (fun z : (List Ref) => (z22 φ) z) r (fun z => ⟨zd.of [], [(row 43 eRef 2 z sv2)]⟩) (fun v33 h => ?_) (fun hJ34 => ?_)
     ·
      replace h : (z22 φ) v33 = some r := h
      unfold z22 at h
      refine al [] [0] rfl rfl rfl (sq (z2.ret (AtX.then_ret (AtX.ret' (eqv (.tuple #[])) (zq.zero Try.results81) [0] [(row 43 eRef 2 v33 sv2)] (ol rfl) rfl ?_))))
      obtain rfl := Option.some.inj h
      exact ⟨_, rfl, rfl, rfl⟩
     ·
      refine z2.block ?_
      refine z2.to (z2.loop (fun n (z : Int × (List Ref)) => z29 φ v31 (z22 φ) n z.1 z.2) r (fun z => ⟨zd.of [(0, (eqv sv2)), (14, (iv .i64 v31)), (17, (iv .i64 z.1))], [(row 43 eRef 2 z.2 sv2)]⟩) (fun z => rfl) (fun n37 z ih37 h => ?_) φ (v4, v1) h) [0] (sl rfl) (ol rfl) rfl
      obtain ⟨v35, v36⟩ := z
      replace h : z29 φ v31 (z22 φ) (n37 + 1) v35 v36 = some r := h
      rw [z29] at h
      refine cs (cs (cr [0, 1, 2] rfl (q1 rfl (z0 (mv rfl)) (q1 rfl (z0 (mv rfl)) (q1 rfl (z49 (mv rfl) (mv rfl)) (rn (al [0, 14, 17, 110] [0] rfl rfl rfl (sq ?_))))))))
      refine cI h rfl (fun c38 h => ?_) (fun c38 h => ?_)
      ·
       refine z2.skip (al [0, 14, 17] [0] rfl rfl rfl (sq (cs (z2.block (ckE h fun h39 h => ckE h fun h40 h => ckE h fun h42 h => z2.draw (QR := [(0, _), (1, _), (2, _), (3, _), (4, _), (5, _), (6, _), (7, _), (8, _), (9, _), (10, _), (11, _), (12, _), (13, _), (14, _)]) (tab := [(some 113, []), (some 114, []), (some 115, []), (some 116, []), (some 117, [3]), (some 118, []), (some 119, []), (some 120, [6]), (some 121, [5, 7]), (some 122, [8]), (some 123, []), (some 124, []), (some 125, [10, 11]), (some 126, [12]), (some 127, [0, 1, 0, 1, 5, 6, 7, 8, 9, 13]), (none, [14, 9, 0, 1, 5, 6, 7, 8, 9, 13]), (some 128, [2, 4, 0, 1, 2, 3, 4, 5, 6, 7, 8, 9, 10, 11, 12, 13, 14, 15]), (none, [16, 13, 15, 0, 1, 2, 3, 4, 5, 6, 7, 8, 9, 10, 11, 12, 13, 14, 15])]) (z5h H) (Reg.intro [15] [] (by kernel_rfl) rfl (an rfl) ⟨(qr rfl (z0 (mv rfl))), (qr rfl (z0 (mv rfl))), (qr rfl (z0 (mv rfl))), (qr rfl (z0 (mv rfl))), (qr rfl (z2f (mv rfl) ct)), (qr rfl (z0 (mv rfl))), (qr rfl (z0 (mv rfl))), (qr rfl (z2f (mv rfl) ct)), (qr rfl (zb 0 (ix55 H) (mv rfl) rfl (mv rfl) (h39).1 (h39).2)), (qr rfl (ln (tl43 H) ((Pt.row _ 0 (k := ((W (v35 - 1)) : Int).toNat) (fo := 0) lRef (mv rfl) rfl rfl (z8 h39) rfl).take 2 (cs' := (eRef (gt v36 (W (v35 - 1))))) rfl) rfl)), (qr rfl (z0 (mv rfl))), (qr rfl (z0 (mv rfl))), (qr rfl (zb 0 (ix55 H) (mv rfl) rfl (mv rfl) (h40).1 (h40).2)), (qr rfl (ln (tl43 H) ((Pt.row _ 0 (k := (v35 : Int).toNat) (fo := 0) lRef (mv rfl) rfl rfl (z8 h40) rfl).take 2 (cs' := (eRef (gt v36 v35))) rfl) rfl)), (qr rfl (zb 0 (ix55 H) (mv rfl) rfl (mv rfl) (h40).1 (h40).2)), trivial⟩ ⟨⟨_, rfl, rfl, rfl, rfl, z3s 0 (k := (v35 : Int).toNat) (fo := 0) (z' := (gt v36 (W (v35 - 1)))) (cs := (eRef (gt v36 (W (v35 - 1))))) lRef (tl43 H) (mv rfl) (Ce.agg (mv rfl)) rfl rfl rfl (z8 h40) (Nat.le_of_ble_eq_true rfl) rfl ⟨[(16, (rowp sv2 (((W (v35 - 1)) : Int).toNat * 2)))], rfl, ?_⟩⟩, trivial⟩ ft))))))
       refine Reg.intro [17] [0, 1, 5, 6, 7, 8, 9, 10, 11, 12, 13, 14] (by kernel_rfl) rfl (an rfl) ⟨nf, nf, (qr rfl (z0 (mv rfl))), (qr rfl (z0 (mv rfl))), (qr rfl (z2f (mv rfl) ct)), nf, nf, nf, nf, nf, nf, nf, nf, nf, nf, (qr rfl (zb 0 (ix55 H) (mv rfl) rfl (mv rfl) (h42).1 (h42).2)), trivial⟩ ⟨⟨_, rfl, rfl, rfl, rfl, z3s 0 (k := ((W (v35 - 1)) : Int).toNat) (fo := 0) (z' := (gt v36 v35)) (cs := (eRef (gt v36 v35))) lRef (tl43 H) (mv rfl) (Ce.agg (mv rfl)) rfl rfl (by omega) (z8 h42) (Nat.le_of_ble_eq_true rfl) rfl ⟨[], rfl, ?_⟩⟩, trivial⟩ ft
       refine Reg.intro [] [0, 1, 2, 3, 4, 5, 6, 7, 8, 9, 10, 11, 12, 13, 14, 16] (by kernel_rfl) rfl (an rfl) ⟨nf, nf, nf, nf, nf, nf, nf, nf, nf, nf, nf, nf, nf, nf, nf, nf, trivial⟩ trivial (fun _ => AtX.in_normal (al [0, 14, 17] [0] rfl rfl rfl (sq (cr [0, 1, 2] rfl (q1 rfl (z0 (mv rfl)) (q1 rfl (z2f (mv rfl) ct) (q1 rfl (z1 (mv rfl)) (rn ?_))))))))
       exact AtX.to (ih37 ((W (v35 - 1)), (z2o (z2o v36 v35 (gt v36 (W (v35 - 1)))) (W (v35 - 1)) (gt v36 v35))) h) [0] (sl rfl) (ol rfl) rfl
      ·
       refine z2.exit (AtX.then_exit (AtX.then_exit (AtX.in_hit ?_)))
       exact AtX.to (hJ34 v36 h) [0] trivial (ol rfl) rfl
    ·
     refine z2.block ?_
     refine z2.to (z2.loop (fun n (z : Int × Int) => z09 φ v1 v4 y6 (z0b φ v1 v4) n z.1 z.2) r (fun z => ⟨zd.of [(0, (eqv sv2)), (2, (iv .i64 v4)), (4, (fcmp P (fun x => (agg (eRef x))) y6)), (14, (iv .i64 z.1)), (15, (iv .i64 z.2))], [(row 43 eRef 2 v1 sv2)]⟩) (fun z => rfl) (fun n46 z ih46 h => ?_) φ (v3, v4) h) [0] (sl rfl) (ol rfl) rfl
     obtain ⟨v44, v45⟩ := z
     replace h : z09 φ v1 v4 y6 (z0b φ v1 v4) (n46 + 1) v44 v45 = some r := h
     rw [z09] at h
     refine cs (cs (cr [0, 1, 2] rfl (q1 rfl (z0 (mv rfl)) (q1 rfl (z0 (mv rfl)) (q1 rfl (z10 (mv rfl) (mv rfl)) (rn (al [0, 2, 4, 14, 15, 85] [0] rfl rfl rfl (sq ?_))))))))
     refine cI h rfl (fun c47 h => ?_) (fun c47 h => ?_)
     ·
      refine z2.skip (al [0, 2, 4, 14, 15] [0] rfl rfl rfl (sq (z2.block (cs (cr [0, 1, 2, 3, 4, 5, 6] rfl (q1 rfl (z0 (mv rfl)) (q1 rfl (z0 (mv rfl)) (q1 rfl (z0g (mv rfl) (mv rfl)) (q1 rfl (z83 (us3 H) (zft H) (mv rfl)) (q1 rfl (z9c 2 (by decide) (mv rfl) ct (by decide)) (q1 rfl (z83 (zgk H) (un3 H) (mv rfl)) ?_)))))))))))
      refine q1 rfl (z1 (mv rfl)) (rn (al [0, 2, 4, 14, 15, 16] [0] rfl rfl rfl (sq (cs (ckE h fun h48 h => ckE h fun h49 h => zp h fun y50 ey50 h => z2.draw (QR := [(0, _), (1, _), (2, _), (3, _), (4, _), (5, _), (6, _), (7, _), (8, _), (9, _), (10, _), (11, _)]) (tab := [(some 92, []), (some 93, []), (some 94, []), (some 95, [1, 2]), (some 96, [3]), (some 97, []), (some 98, []), (some 99, [5, 6]), (some 100, [7]), (some 101, [0, 4, 8]), (some 102, [9]), (some 103, [10])]) (z5h H) (Reg.intro [] [] (by kernel_rfl) rfl (an rfl) ⟨(qr rfl (z0 (mv rfl))), (qr rfl (z0 (mv rfl))), (qr rfl (z0 (mv rfl))), (qr rfl (zb 0 (ix55 H) (mv rfl) rfl (mv rfl) (h48).1 (h48).2)), (qr rfl (ln (tl43 H) ((Pt.row _ 0 (k := (v4 : Int).toNat) (fo := 0) lRef (mv rfl) rfl rfl (z8 h48) rfl).take 2 (cs' := (eRef (gt v1 v4))) rfl) rfl)), (qr rfl (z0 (mv rfl))), (qr rfl (z0 (mv rfl))), (qr rfl (zb 0 (ix55 H) (mv rfl) rfl (mv rfl) (h49).1 (h49).2)), (qr rfl (ln (tl43 H) ((Pt.row _ 0 (k := ((W (((U ((W (v44 + v45)))).fdiv 2))) : Int).toNat) (fo := 0) lRef (mv rfl) rfl rfl (z8 h49) rfl).take 2 (cs' := (eRef (gt v1 (W (((U ((W (v44 + v45)))).fdiv 2)))))) rfl) rfl)), (qr rfl (zaz (mv rfl) (mv rfl) (mv rfl) ey50)), (qr rfl (z10 (mv rfl) ct)), (qr rfl (z79 (mv rfl))), trivial⟩ trivial (fun _ => al [0, 2, 4, 14, 15, 16, 103] [0] rfl rfl rfl (sq ?_))))))))
      refine cI h rfl (fun c51 h => ?_) (fun c51 h => ?_)
      ·
       refine cr [0, 1, 2] rfl (q1 rfl (z0 (mv rfl)) (q1 rfl (z0g (mv rfl) ct) (q1 rfl (z1 (mv rfl)) (rn (AtX.in_normal ?_)))))
       exact AtX.to (ih46 ((W ((W (((U ((W (v44 + v45)))).fdiv 2))) + 1)), v45) h) [0] (sl rfl) (ol rfl) rfl
      ·
       refine cr [0, 1] rfl (q1 rfl (z0 (mv rfl)) (q1 rfl (z1 (mv rfl)) (rn (AtX.in_normal ?_))))
       exact AtX.to (ih46 (v44, (W (((U ((W (v44 + v45)))).fdiv 2)))) h) [0] (sl rfl) (ol rfl) rfl
     ·
      refine z2.exit (AtX.then_exit (AtX.then_exit (AtX.in_hit ?_)))
      exact AtX.to (hJ32 v44 h) [0] (sl rfl) (ol rfl) rfl
   ·
    refine z2.skip (al [0, 1, 2, 3, 4] [0] rfl rfl rfl (sq (cs (cr [0, 1, 2, 3, 4, 5, 6] rfl (q1 rfl (z0 (mv rfl)) (q1 rfl (z0 (mv rfl)) (q1 rfl (z0g (mv rfl) (mv rfl)) (q1 rfl (z83 (us3 H) (zft H) (mv rfl)) (q1 rfl (z9c 2 (by decide) (mv rfl) ct (by decide)) (q1 rfl (z83 (zgk H) (un3 H) (mv rfl)) (q1 rfl (z1 (mv rfl)) ?_)))))))))))
    refine rn (al [0, 1, 2, 3, 4, 18] [0] rfl rfl rfl (sq (cs (cr [0, 1, 2, 3] rfl (q1 rfl (z0 (mv rfl)) (q1 rfl (z0 (mv rfl)) (q1 rfl (z0g (mv rfl) (mv rfl)) (q1 rfl (z1 (mv rfl)) (rn (al [0, 1, 2, 3, 4, 18, 19] [0] rfl rfl rfl (sq ?_)))))))))))
    refine cs (cr [0, 1] rfl (q1 rfl (z1 ct) (q1 rfl (z1 ct) (rn (al [0, 1, 2, 3, 4, 18, 19] [0] rfl rfl rfl (sq (cs (cs (cr [0, 1, 2] rfl (q1 rfl (z0 (mv rfl)) (q1 rfl (z0 (mv rfl)) ?_)))))))))))
    refine q1 rfl (z49 (mv rfl) (mv rfl)) (rn (al [0, 1, 2, 3, 4, 18, 19, 140] [0] rfl rfl rfl (sq ?_)))
    refine z2.join (fun z : Int × Int => (z0r φ v1 v3 v4 v5 y6 (za φ)) z.1 z.2) r (fun z => ⟨zd.of [(0, (eqv sv2)), (1, (iv .i64 v3)), (2, (iv .i64 v4)), (3, (iv .i64 v5)), (4, (fcmp P (fun x => (agg (eRef x))) y6)), (18, (iv .i64 (W (((U ((W (v3 + v5)))).fdiv 2))))), (19, (iv .i64 (W ((W (((U ((W (v3 + v5)))).fdiv 2))) + v4)))), (20, (iv .i64 z.1)), (21, (iv .i64 z.2))], [(row 43 eRef 2 v1 sv2)]⟩) (fun z h => ?_) (fun hJ54 => ?_)
    ·
     obtain ⟨v52, v53⟩ := z
     replace h : (z0r φ v1 v3 v4 v5 y6 (za φ)) v52 v53 = some r := h
     unfold z0r at h
     refine al [0, 1, 2, 3, 4, 18, 19, 20, 21] [0] rfl rfl rfl (sq (cs (cr [0, 1, 2] rfl (q1 rfl (z0 (mv rfl)) (q1 rfl (z2f (mv rfl) ct) (q1 rfl (z1 (mv rfl)) (rn (al [0, 1, 2, 3, 4, 18, 19, 20, 21, 22] [0] rfl rfl rfl (sq (cs ?_))))))))))
     refine z2.join (fun z : Int => (z0u φ v1 v3 v4 v5 y6 (za φ)) z) r (fun z => ⟨zd.of [(0, (eqv sv2)), (1, (iv .i64 v3)), (2, (iv .i64 v4)), (3, (iv .i64 v5)), (4, (fcmp P (fun x => (agg (eRef x))) y6)), (18, (iv .i64 (W (((U ((W (v3 + v5)))).fdiv 2))))), (19, (iv .i64 (W ((W (((U ((W (v3 + v5)))).fdiv 2))) + v4)))), (20, (iv .i64 z))], [(row 43 eRef 2 v1 sv2)]⟩) (fun v55 h => ?_) (fun hJ56 => ?_)
     ·
      replace h : (z0u φ v1 v3 v4 v5 y6 (za φ)) v55 = some r := h
      unfold z0u at h
      refine al [0, 1, 2, 3, 4, 18, 19, 20] [0] rfl rfl rfl (sq (cs (cr [0, 1, 2, 3] rfl (q1 rfl (z0 (mv rfl)) (q1 rfl (z0 (mv rfl)) (q1 rfl (z2f (mv rfl) (mv rfl)) (q1 rfl (z1 (mv rfl)) (rn (al [0, 1, 2, 3, 4, 18, 20, 24] [0] rfl rfl rfl (sq (cs ?_)))))))))))
      refine cs (cr [0, 1, 2, 3, 4, 5, 6, 7] rfl (q1 rfl (z0 (mv rfl)) (q1 rfl (z0 (mv rfl)) (q1 rfl (z10 (mv rfl) (mv rfl)) (q1 rfl (z0 (mv rfl)) (g1 rfl rfl (fun g57 => z0 (mv rfl)) (g1 rfl rfl (fun g58 => z0 (mv rfl)) (g1 rfl rfl (fun g59 => z10 (mc rfl g59) (mc rfl g59)) (q1 rfl (z36 (mv rfl) (fun g60 => (mc rfl g60)) ct) (rn (al [0, 1, 2, 3, 4, 18, 20, 24, 185] [0] rfl rfl rfl ?_)))))))))))
      refine sq ?_
      refine z2.join (fun z : (List Ref) => (z1g φ v3 v4 v5 y6 (za φ) v55) z) r (fun z => ⟨zd.of [(0, (eqv sv2)), (1, (iv .i64 v3)), (3, (iv .i64 v5)), (4, (fcmp P (fun x => (agg (eRef x))) y6)), (18, (iv .i64 (W (((U ((W (v3 + v5)))).fdiv 2))))), (20, (iv .i64 v55)), (24, (iv .i64 (W ((W ((W (((U ((W (v3 + v5)))).fdiv 2))) + v4)) - v55))))], [(row 43 eRef 2 z sv2)]⟩) (fun v61 h => ?_) (fun hJ62 => ?_)
      ·
       replace h : (z1g φ v3 v4 v5 y6 (za φ) v55) v61 = some r := h
       unfold z1g at h
       refine al [0, 1, 3, 4, 18, 20, 24] [0] rfl rfl rfl (sq (cs (cs (cr [0, 1, 2, 3, 4, 5, 6, 7] rfl (q1 rfl (z0 (mv rfl)) (q1 rfl (z0 (mv rfl)) (q1 rfl (z10 (mv rfl) (mv rfl)) (q1 rfl (z0 (mv rfl)) (g1 rfl rfl (fun g63 => z0 (mv rfl)) (g1 rfl rfl (fun g64 => z0 (mv rfl)) (g1 rfl rfl (fun g65 => z10 (mc rfl g65) (mc rfl g65)) ?_)))))))))))
       refine q1 rfl (z36 (mv rfl) (fun g66 => (mc rfl g66)) ct) (rn (al [0, 1, 3, 4, 18, 20, 24, 199] [0] rfl rfl rfl (sq ?_)))
       refine z2.join (fun z : (List Ref) => (z1d φ v3 v4 v5 y6 (za φ) v55) z) r (fun z => ⟨zd.of [(0, (eqv sv2)), (3, (iv .i64 v5)), (4, (fcmp P (fun x => (agg (eRef x))) y6)), (18, (iv .i64 (W (((U ((W (v3 + v5)))).fdiv 2))))), (24, (iv .i64 (W ((W ((W (((U ((W (v3 + v5)))).fdiv 2))) + v4)) - v55))))], [(row 43 eRef 2 z sv2)]⟩) (fun v67 h => ?_) (fun hJ68 => ?_)
       ·
        replace h : (z1d φ v3 v4 v5 y6 (za φ) v55) v67 = some r := h
        unfold z1d at h
        refine al [0, 3, 4, 18, 24] [0] rfl rfl rfl (sq (cs (cr [0, 1, 2, 3, 4, 5, 6, 7] rfl (q1 rfl (z0 (mv rfl)) (q1 rfl (z0 (mv rfl)) (q1 rfl (z10 (mv rfl) (mv rfl)) (q1 rfl (z0 (mv rfl)) (g1 rfl rfl (fun g69 => z0 (mv rfl)) (g1 rfl rfl (fun g70 => z0 (mv rfl)) (g1 rfl rfl (fun g71 => z10 (mc rfl g71) (mc rfl g71)) (q1 rfl (z36 (mv rfl) (fun g72 => (mc rfl g72)) ct) ?_)))))))))))
        refine rn (al [0, 3, 4, 18, 24, 213] [0] rfl rfl rfl (sq ?_))
        refine cI h rfl (fun c73 h => ?_) (fun c73 h => ?_)
        ·
         refine cr [0, 1, 2, 3, 4, 5] rfl (q1 rfl (z0 (mv rfl)) (q1 rfl (z0 (mv rfl)) (q1 rfl (z0 (mv rfl)) (q1 rfl (z0 (mv rfl)) (q1 rfl (z0 (mv rfl)) (zp h fun y74 ey74 h => n1 rfl (z3r 0 rfl (fun x => (fRef x).mem) (znr H) (args := [(eqv sv2), (iv .i64 (W (((U ((W (v3 + v5)))).fdiv 2)))), (iv .i64 (W ((W ((W (((U ((W (v3 + v5)))).fdiv 2))) + v4)) - v55))), (iv .i64 v5), (fcmp P (fun x => (agg (eRef x))) y6)]) ⟨(mv rfl), (mv rfl), (mv rfl), (mv rfl), (mv rfl), trivial⟩ (ih v67 (W (((U ((W (v3 + v5)))).fdiv 2))) (W ((W ((W (((U ((W (v3 + v5)))).fdiv 2))) + v4)) - v55)) v5 y6 sv2 _ ey74) fun x75 nw76 hk77 => ?_)))))))
         obtain ⟨rfl, rfl⟩ := hk77
         refine ⟨z5, ?_⟩
         refine rn (AtX.fall' (eqv (.tuple #[])) (zq.zero Try.results81) [0] [(row 43 eRef 2 y74 sv2)] (ol rfl) rfl ?_)
         obtain rfl := Option.some.inj h
         exact ⟨_, rfl, rfl, rfl⟩
        ·
         refine z2.skip (AtX.fall' (eqv (.tuple #[])) (zq.zero Try.results81) [0] [(row 43 eRef 2 v67 sv2)] (ol rfl) rfl ?_)
         obtain rfl := Option.some.inj h
         exact ⟨_, rfl, rfl, rfl⟩
       ·
        refine cI h rfl (fun c78 h => ?_) (fun c78 h => ?_)
        ·
         refine cr [0, 1, 2, 3, 4, 5] rfl (q1 rfl (z0 (mv rfl)) (q1 rfl (z0 (mv rfl)) (q1 rfl (z0 (mv rfl)) (q1 rfl (z0 (mv rfl)) (q1 rfl (z0 (mv rfl)) (zp h fun y79 ey79 h => n1 rfl (z3r 0 rfl (fun x => (fRef x).mem) (znr H) (args := [(eqv sv2), (iv .i64 v3), (iv .i64 v55), (iv .i64 (W (((U ((W (v3 + v5)))).fdiv 2)))), (fcmp P (fun x => (agg (eRef x))) y6)]) ⟨(mv rfl), (mv rfl), (mv rfl), (mv rfl), (mv rfl), trivial⟩ (ih v61 v3 v55 (W (((U ((W (v3 + v5)))).fdiv 2))) y6 sv2 _ ey79) fun x80 nw81 hk82 => ?_)))))))
         obtain ⟨rfl, rfl⟩ := hk82
         refine ⟨z5, ?_⟩
         refine rn ?_
         exact AtX.to (hJ68 y79 h) [0] (sl rfl) (ol rfl) rfl
        ·
         refine z2.skip ?_
         exact AtX.to (hJ68 v61 h) [0] (sl rfl) (ol rfl) rfl
      ·
       refine cI h rfl (fun c83 h => ?_) (fun c83 h => ?_)
       ·
        refine cr [0, 1, 2, 3, 4, 5] rfl (q1 rfl (z0 (mv rfl)) (q1 rfl (z0 (mv rfl)) (q1 rfl (z0 (mv rfl)) (q1 rfl (z0 (mv rfl)) (q1 rfl (z0 (mv rfl)) (zp h fun y84 ey84 h => n1 rfl (z3r 0 rfl (fun x => (fRef x).mem) (zwt H) (args := [(eqv sv2), (iv .i64 v55), (iv .i64 v4), (iv .i64 (W ((W ((W (((U ((W (v3 + v5)))).fdiv 2))) + v4)) - v55))), (fcmp P (fun x => (agg (eRef x))) y6)]) ⟨(mv rfl), (mv rfl), (mv rfl), (mv rfl), (mv rfl), trivial⟩ (zb4 H φ v1 v55 v4 (W ((W ((W (((U ((W (v3 + v5)))).fdiv 2))) + v4)) - v55)) y6 sv2 _ ey84) fun x85 nw86 hk87 => ?_)))))))
        obtain ⟨rfl, rfl⟩ := hk87
        refine ⟨z5, ?_⟩
        refine rn ?_
        exact AtX.to (hJ62 y84 h) [0] (sl rfl) (ol rfl) rfl
       ·
        refine z2.skip ?_
        exact AtX.to (hJ62 v1 h) [0] (sl rfl) (ol rfl) rfl
     ·
      refine z2.block ?_
      refine z2.to (z2.loop (fun n (z : Int × Int) => z0f φ v1 v3 v4 v5 y6 (z0u φ v1 v3 v4 v5 y6 (za φ)) n z.1 z.2) r (fun z => ⟨zd.of [(0, (eqv sv2)), (1, (iv .i64 v3)), (2, (iv .i64 v4)), (3, (iv .i64 v5)), (4, (fcmp P (fun x => (agg (eRef x))) y6)), (18, (iv .i64 (W (((U ((W (v3 + v5)))).fdiv 2))))), (19, (iv .i64 (W ((W (((U ((W (v3 + v5)))).fdiv 2))) + v4)))), (20, (iv .i64 z.1)), (21, (iv .i64 z.2)), (22, (iv .i64 (W ((W ((W (((U ((W (v3 + v5)))).fdiv 2))) + v4)) - 1))))], [(row 43 eRef 2 v1 sv2)]⟩) (fun z => rfl) (fun n90 z ih90 h => ?_) φ (v52, v53) h) [0] (sl rfl) (ol rfl) rfl
      obtain ⟨v88, v89⟩ := z
      replace h : z0f φ v1 v3 v4 v5 y6 (z0u φ v1 v3 v4 v5 y6 (za φ)) (n90 + 1) v88 v89 = some r := h
      rw [z0f] at h
      refine cs (cs (cr [0, 1, 2] rfl (q1 rfl (z0 (mv rfl)) (q1 rfl (z0 (mv rfl)) (q1 rfl (z10 (mv rfl) (mv rfl)) (rn (al [0, 1, 2, 3, 4, 18, 19, 20, 21, 22, 151] [0] rfl rfl rfl (sq ?_))))))))
      refine cI h rfl (fun c91 h => ?_) (fun c91 h => ?_)
      ·
       refine z2.skip (al [0, 1, 2, 3, 4, 18, 19, 20, 21, 22] [0] rfl rfl rfl (sq (z2.block (cs (cr [0, 1, 2, 3, 4, 5, 6] rfl (q1 rfl (z0 (mv rfl)) (q1 rfl (z0 (mv rfl)) (q1 rfl (z0g (mv rfl) (mv rfl)) (q1 rfl (z83 (us3 H) (zft H) (mv rfl)) (q1 rfl (z9c 2 (by decide) (mv rfl) ct (by decide)) (q1 rfl (z83 (zgk H) (un3 H) (mv rfl)) ?_)))))))))))
       refine q1 rfl (z1 (mv rfl)) (rn (al [0, 1, 2, 3, 4, 18, 19, 20, 21, 22, 23] [0] rfl rfl rfl (sq (cs (ckE h fun h92 h => ckE h fun h93 h => zp h fun y94 ey94 h => z2.draw (QR := [(0, _), (1, _), (2, _), (3, _), (4, _), (5, _), (6, _), (7, _), (8, _), (9, _), (10, _), (11, _), (12, _), (13, _)]) (tab := [(some 158, []), (some 159, []), (some 160, []), (some 161, []), (some 162, [2, 3]), (some 163, [1, 4]), (some 164, [5]), (some 165, []), (some 166, []), (some 167, [7, 8]), (some 168, [9]), (some 169, [0, 6, 10]), (some 170, [11]), (some 171, [12])]) (z5h H) (Reg.intro [] [] (by kernel_rfl) rfl (an rfl) ⟨(qr rfl (z0 (mv rfl))), (qr rfl (z0 (mv rfl))), (qr rfl (z0 (mv rfl))), (qr rfl (z0 (mv rfl))), (qr rfl (z2f (mv rfl) (mv rfl))), (qr rfl (zb 0 (ix55 H) (mv rfl) rfl (mv rfl) (h92).1 (h92).2)), (qr rfl (ln (tl43 H) ((Pt.row _ 0 (k := ((W ((W ((W ((W (((U ((W (v3 + v5)))).fdiv 2))) + v4)) - 1)) - (W (((U ((W (v88 + v89)))).fdiv 2))))) : Int).toNat) (fo := 0) lRef (mv rfl) rfl rfl (z8 h92) rfl).take 2 (cs' := (eRef (gt v1 (W ((W ((W ((W (((U ((W (v3 + v5)))).fdiv 2))) + v4)) - 1)) - (W (((U ((W (v88 + v89)))).fdiv 2)))))))) rfl) rfl)), (qr rfl (z0 (mv rfl))), (qr rfl (z0 (mv rfl))), (qr rfl (zb 0 (ix55 H) (mv rfl) rfl (mv rfl) (h93).1 (h93).2)), (qr rfl (ln (tl43 H) ((Pt.row _ 0 (k := ((W (((U ((W (v88 + v89)))).fdiv 2))) : Int).toNat) (fo := 0) lRef (mv rfl) rfl rfl (z8 h93) rfl).take 2 (cs' := (eRef (gt v1 (W (((U ((W (v88 + v89)))).fdiv 2)))))) rfl) rfl)), (qr rfl (zaz (mv rfl) (mv rfl) (mv rfl) ey94)), (qr rfl (z10 (mv rfl) ct)), (qr rfl (z79 (mv rfl))), trivial⟩ trivial (fun _ => al [0, 1, 2, 3, 4, 18, 19, 20, 21, 22, 23, 171] [0] rfl rfl rfl (sq ?_))))))))
       refine cI h rfl (fun c95 h => ?_) (fun c95 h => ?_)
       ·
        refine cr [0, 1, 2] rfl (q1 rfl (z0 (mv rfl)) (q1 rfl (z0g (mv rfl) ct) (q1 rfl (z1 (mv rfl)) (rn (AtX.in_normal ?_)))))
        exact AtX.to (ih90 ((W ((W (((U ((W (v88 + v89)))).fdiv 2))) + 1)), v89) h) [0] (sl rfl) (ol rfl) rfl
       ·
        refine cr [0, 1] rfl (q1 rfl (z0 (mv rfl)) (q1 rfl (z1 (mv rfl)) (rn (AtX.in_normal ?_))))
        exact AtX.to (ih90 (v88, (W (((U ((W (v88 + v89)))).fdiv 2)))) h) [0] (sl rfl) (ol rfl) rfl
      ·
       refine z2.exit (AtX.then_exit (AtX.then_exit (AtX.in_hit ?_)))
       exact AtX.to (hJ56 v88 h) [0] (sl rfl) (ol rfl) rfl
    ·
     refine cI h rfl (fun c96 h => ?_) (fun c96 h => ?_)
     ·
      refine cs (cr [0, 1, 2, 3] rfl (q1 rfl (z0 (mv rfl)) (q1 rfl (z0 (mv rfl)) (q1 rfl (z2f (mv rfl) (mv rfl)) (q1 rfl (z1 (mv rfl)) (rn (al [0, 1, 2, 3, 4, 18, 19, 20] [0] rfl rfl rfl (sq (cr [0, 1] rfl (q1 rfl (z0 (mv rfl)) (q1 rfl (z1 (mv rfl)) ?_)))))))))))
      refine rn ?_
      exact AtX.to (hJ54 ((W ((W ((W (((U ((W (v3 + v5)))).fdiv 2))) + v4)) - v5)), (W (((U ((W (v3 + v5)))).fdiv 2)))) h) [0] (sl rfl) (ol rfl) rfl
     ·
      refine cs (cr [0, 1] rfl (q1 rfl (z0 (mv rfl)) (q1 rfl (z1 (mv rfl)) (rn (al [0, 1, 2, 3, 4, 18, 19, 20] [0] rfl rfl rfl (sq (cr [0, 1] rfl (q1 rfl (z0 (mv rfl)) (q1 rfl (z1 (mv rfl)) (rn ?_))))))))))
      exact AtX.to (hJ54 (v3, v4) h) [0] (sl rfl) (ol rfl) rfl
theorem zb3 {P : Program} (H : P = Try.prog) (φ : Nat) (v1 : (List Ref)) (v3 : Int) (y4 : (Ref → Ref → Option Int)) (sv2 : Value) (r : (List Ref)) (h : z5w φ v1 v3 y4 = some r) : MutT P 63 [(eqv sv2), (iv .i64 v3), (fcmp P (fun x => (agg (eRef x))) y4)] 43 eRef 2 v1 sv2 (fun x l' => x = eqv (.tuple #[]) ∧ r = l') := by
 unfold z5w at h
 refine MutT.of_code 63 (fn63 H) rfl rfl (Nat.le_of_ble_eq_true rfl) fun w0 base r0 wI => ?_
 refine cl [0, 1, 2] [0] rfl rfl rfl (cs (cr [0] rfl (q1 rfl (z1 ct) (rn (al [0, 1, 2, 6] [0] rfl rfl rfl (sq (cs (cr [0, 1, 2] rfl (q1 rfl (z0 (mv rfl)) (q1 rfl (z1 ct) (q1 rfl (z1 (mv rfl)) ?_)))))))))))
 refine rn (al [0, 1, 2, 6, 7, 8] [0] rfl rfl rfl (sq (cs ?_)))
 refine z2.join (fun z : Int × (List Ref) => (z12 φ v3 y4) z.1 z.2) r (fun z => ⟨zd.of [(0, (eqv sv2)), (1, (iv .i64 v3)), (2, (fcmp P (fun x => (agg (eRef x))) y4)), (6, (iv .i64 20)), (7, (iv .i64 z.1))], [(row 43 eRef 2 z.2 sv2)]⟩) (fun z h => ?_) (fun hJ7 => ?_)
 ·
  obtain ⟨v5, v6⟩ := z
  replace h : (z12 φ v3 y4) v5 v6 = some r := h
  unfold z12 at h
  refine al [0, 1, 2, 6, 7] [0] rfl rfl rfl (sq (cs (cr [0, 1, 2, 3, 4] rfl (q1 rfl (z0 (mv rfl)) (q1 rfl (z0 (mv rfl)) (q1 rfl (z0 (mv rfl)) (q1 rfl (z0 (mv rfl)) (zp h fun y8 ey8 h => n1 rfl (z3r 0 rfl (fun x => (fRef x).mem) (zsx H) (args := [(eqv sv2), (iv .i64 v5), (iv .i64 v3), (fcmp P (fun x => (agg (eRef x))) y4)]) ⟨(mv rfl), (mv rfl), (mv rfl), (mv rfl), trivial⟩ (z6y H φ v6 v5 v3 y4 sv2 _ ey8) fun x9 nw10 hk11 => ?_)))))))))
  obtain ⟨rfl, rfl⟩ := hk11
  refine ⟨z5, ?_⟩
  refine rn (al [0, 1, 2, 6] [0] rfl rfl rfl (sq (z2.block ?_)))
  refine z2.to (z2.loop (fun n (z : Int × (List Ref)) => zk φ v3 y4 n z.1 z.2) r (fun z => ⟨zd.of [(0, (eqv sv2)), (1, (iv .i64 v3)), (2, (fcmp P (fun x => (agg (eRef x))) y4)), (6, (iv .i64 z.1))], [(row 43 eRef 2 z.2 sv2)]⟩) (fun z => rfl) (fun n14 z ih14 h => ?_) φ (20, y8) h) [0] (sl rfl) (ol rfl) rfl
  obtain ⟨v12, v13⟩ := z
  replace h : zk φ v3 y4 (n14 + 1) v12 v13 = some r := h
  rw [zk] at h
  refine cs (cs (cr [0, 1, 2] rfl (q1 rfl (z0 (mv rfl)) (q1 rfl (z0 (mv rfl)) (q1 rfl (z10 (mv rfl) (mv rfl)) (rn (al [0, 1, 2, 6, 30] [0] rfl rfl rfl (sq ?_))))))))
  refine cI h rfl (fun c15 h => ?_) (fun c15 h => ?_)
  ·
   refine z2.skip (al [0, 1, 2, 6] [0] rfl rfl rfl (sq (z2.block (cs (cr [0, 1, 2, 3] rfl (q1 rfl (z0 (mv rfl)) (q1 rfl (zae ct (mv rfl)) (q1 rfl (z1 ct) (q1 rfl (z1 (mv rfl)) (rn (al [0, 1, 2, 6, 7, 8] [0] rfl rfl rfl ?_)))))))))))
   refine sq (cs ?_)
   refine z2.join (fun z : Int × (List Ref) => (z1p φ v3 y4 v12 (zk φ v3 y4 n14)) z.1 z.2) r (fun z => ⟨zd.of [(0, (eqv sv2)), (1, (iv .i64 v3)), (2, (fcmp P (fun x => (agg (eRef x))) y4)), (6, (iv .i64 v12)), (7, (iv .i64 z.1))], [(row 43 eRef 2 z.2 sv2)]⟩) (fun z h => ?_) (fun hJ18 => ?_)
   ·
    obtain ⟨v16, v17⟩ := z
    replace h : (z1p φ v3 y4 v12 (zk φ v3 y4 n14)) v16 v17 = some r := h
    unfold z1p at h
    refine al [0, 1, 2, 6, 7] [0] rfl rfl rfl (sq (cs (cs (cr [0, 1, 2, 3] rfl (q1 rfl (z0 (mv rfl)) (q1 rfl (z0 (mv rfl)) (q1 rfl (z0g (mv rfl) (mv rfl)) (q1 rfl (z1 (mv rfl)) (rn (al [0, 1, 2, 6, 7, 9] [0] rfl rfl rfl (sq ?_)))))))))))
    refine cs (cr [0, 1, 2] rfl (q1 rfl (z0 (mv rfl)) (q1 rfl (z0 (mv rfl)) (q1 rfl (z10 (mv rfl) (mv rfl)) (rn (al [0, 1, 2, 6, 7, 9, 54] [0] rfl rfl rfl (sq ?_)))))))
    refine z2.join (fun z : (List Ref) => (z2x φ v12 (zk φ v3 y4 n14)) z) r (fun z => ⟨zd.of [(0, (eqv sv2)), (1, (iv .i64 v3)), (2, (fcmp P (fun x => (agg (eRef x))) y4)), (6, (iv .i64 v12))], [(row 43 eRef 2 z sv2)]⟩) (fun v19 h => ?_) (fun hJ20 => ?_)
    ·
     replace h : (z2x φ v12 (zk φ v3 y4 n14)) v19 = some r := h
     unfold z2x at h
     refine al [0, 1, 2, 6] [0] rfl rfl rfl (sq (cr [0, 1, 2] rfl (q1 rfl (z0 (mv rfl)) (q1 rfl (zae (mv rfl) ct) (q1 rfl (z1 (mv rfl)) (rn (AtX.in_normal ?_)))))))
     exact AtX.to (ih14 ((W (v12 * 2)), v19) h) [0] (sl rfl) (ol rfl) rfl
    ·
     refine cI h rfl (fun c21 h => ?_) (fun c21 h => ?_)
     ·
      refine cr [0, 1, 2, 3, 4, 5] rfl (q1 rfl (z0 (mv rfl)) (q1 rfl (z0 (mv rfl)) (q1 rfl (z0 (mv rfl)) (q1 rfl (z0 (mv rfl)) (q1 rfl (z0 (mv rfl)) (zp h fun y22 ey22 h => n1 rfl (z3r 0 rfl (fun x => (fRef x).mem) (znr H) (args := [(eqv sv2), (iv .i64 v16), (iv .i64 (W (v16 + v12))), (iv .i64 v3), (fcmp P (fun x => (agg (eRef x))) y4)]) ⟨(mv rfl), (mv rfl), (mv rfl), (mv rfl), (mv rfl), trivial⟩ (z87 H φ v17 v16 (W (v16 + v12)) v3 y4 sv2 _ ey22) fun x23 nw24 hk25 => ?_)))))))
      obtain ⟨rfl, rfl⟩ := hk25
      refine ⟨z5, ?_⟩
      refine rn ?_
      exact AtX.to (hJ20 y22 h) [0] (sl rfl) (ol rfl) rfl
     ·
      refine z2.skip ?_
      exact AtX.to (hJ20 v17 h) [0] (sl rfl) (ol rfl) rfl
   ·
    refine z2.block ?_
    refine z2.to (z2.loop (fun n (z : Int × Int × (List Ref)) => z2n φ v3 y4 v12 (z1p φ v3 y4 v12 (zk φ v3 y4 n14)) n z.1 z.2.1 z.2.2) r (fun z => ⟨zd.of [(0, (eqv sv2)), (1, (iv .i64 v3)), (2, (fcmp P (fun x => (agg (eRef x))) y4)), (6, (iv .i64 v12)), (7, (iv .i64 z.1)), (8, (iv .i64 z.2.1))], [(row 43 eRef 2 z.2.2 sv2)]⟩) (fun z => rfl) (fun n29 z ih29 h => ?_) φ (0, (W (2 * v12)), v13) h) [0] (sl rfl) (ol rfl) rfl
    obtain ⟨v26, v27, v28⟩ := z
    replace h : z2n φ v3 y4 v12 (z1p φ v3 y4 v12 (zk φ v3 y4 n14)) (n29 + 1) v26 v27 v28 = some r := h
    rw [z2n] at h
    refine cs (cs (cr [0, 1, 2] rfl (q1 rfl (z0 (mv rfl)) (q1 rfl (z0 (mv rfl)) (q1 rfl (zc4 (mv rfl) (mv rfl)) (rn (al [0, 1, 2, 6, 7, 8, 35] [0] rfl rfl rfl (sq ?_))))))))
    refine cI h rfl (fun c30 h => ?_) (fun c30 h => ?_)
    ·
     refine z2.skip (al [0, 1, 2, 6, 7, 8] [0] rfl rfl rfl (sq (z2.block (cs (cr [0, 1, 2, 3, 4, 5, 6, 7] rfl (q1 rfl (z0 (mv rfl)) (q1 rfl (z0 (mv rfl)) (q1 rfl (z0 (mv rfl)) (q1 rfl (z0 (mv rfl)) (q1 rfl (z0g (mv rfl) (mv rfl)) (q1 rfl (z0 (mv rfl)) ?_)))))))))))
     refine q1 rfl (z0 (mv rfl)) (zp h fun y31 ey31 h => n1 rfl (z3r 0 rfl (fun x => (fRef x).mem) (znr H) (args := [(eqv sv2), (iv .i64 v26), (iv .i64 (W (v26 + v12))), (iv .i64 v27), (fcmp P (fun x => (agg (eRef x))) y4)]) ⟨(mv rfl), (mv rfl), (mv rfl), (mv rfl), (mv rfl), trivial⟩ (z87 H φ v28 v26 (W (v26 + v12)) v27 y4 sv2 _ ey31) fun x32 nw33 hk34 => ?_))
     obtain ⟨rfl, rfl⟩ := hk34
     refine ⟨z5, ?_⟩
     refine rn (al [0, 1, 2, 6, 8] [0] rfl rfl rfl (sq (cs (cr [0, 1] rfl (q1 rfl (z0 (mv rfl)) (q1 rfl (z1 (mv rfl)) (rn (al [0, 1, 2, 6, 7, 8] [0] rfl rfl rfl (sq (cr [0, 1, 2, 3, 4] rfl (q1 rfl (z0 (mv rfl)) ?_)))))))))))
     refine q1 rfl (z0 (mv rfl)) (q1 rfl (zae ct (mv rfl)) (q1 rfl (z0g (mv rfl) (mv rfl)) (q1 rfl (z1 (mv rfl)) (rn (AtX.in_normal ?_)))))
     exact AtX.to (ih29 (v27, (W (v27 + (W (2 * v12)))), y31) h) [0] (sl rfl) (ol rfl) rfl
    ·
     refine z2.exit (AtX.then_exit (AtX.then_exit (AtX.in_hit ?_)))
     exact AtX.to (hJ18 (v26, v28) h) [0] (sl rfl) (ol rfl) rfl
  ·
   refine z2.exit (AtX.then_exit (AtX.then_exit (AtX.in_hit (AtX.fall' (eqv (.tuple #[])) (zq.zero Try.results63) [0] [(row 43 eRef 2 v13 sv2)] (ol rfl) rfl ?_))))
   obtain rfl := Option.some.inj h
   exact ⟨_, rfl, rfl, rfl⟩
 ·
  refine z2.block ?_
  refine z2.to (z2.loop (fun n (z : Int × Int × (List Ref)) => z1o φ v3 y4 (z12 φ v3 y4) n z.1 z.2.1 z.2.2) r (fun z => ⟨zd.of [(0, (eqv sv2)), (1, (iv .i64 v3)), (2, (fcmp P (fun x => (agg (eRef x))) y4)), (6, (iv .i64 20)), (7, (iv .i64 z.1)), (8, (iv .i64 z.2.1))], [(row 43 eRef 2 z.2.2 sv2)]⟩) (fun z => rfl) (fun n38 z ih38 h => ?_) φ (0, 20, v1) h) [0] (sl rfl) (ol rfl) rfl
  obtain ⟨v35, v36, v37⟩ := z
  replace h : z1o φ v3 y4 (z12 φ v3 y4) (n38 + 1) v35 v36 v37 = some r := h
  rw [z1o] at h
  refine cs (cs (cr [0, 1, 2] rfl (q1 rfl (z0 (mv rfl)) (q1 rfl (z0 (mv rfl)) (q1 rfl (zc4 (mv rfl) (mv rfl)) (rn (al [0, 1, 2, 6, 7, 8, 13] [0] rfl rfl rfl (sq ?_))))))))
  refine cI h rfl (fun c39 h => ?_) (fun c39 h => ?_)
  ·
   refine z2.skip (al [0, 1, 2, 6, 7, 8] [0] rfl rfl rfl (sq (z2.block (cs (cr [0, 1, 2, 3, 4] rfl (q1 rfl (z0 (mv rfl)) (q1 rfl (z0 (mv rfl)) (q1 rfl (z0 (mv rfl)) (q1 rfl (z0 (mv rfl)) (zp h fun y40 ey40 h => n1 rfl (z3r 0 rfl (fun x => (fRef x).mem) (zsx H) (args := [(eqv sv2), (iv .i64 v35), (iv .i64 v36), (fcmp P (fun x => (agg (eRef x))) y4)]) ⟨(mv rfl), (mv rfl), (mv rfl), (mv rfl), trivial⟩ (z6y H φ v37 v35 v36 y4 sv2 _ ey40) fun x41 nw42 hk43 => ?_)))))))))))
   obtain ⟨rfl, rfl⟩ := hk43
   refine ⟨z5, ?_⟩
   refine rn (al [0, 1, 2, 6, 8] [0] rfl rfl rfl (sq (cs (cr [0, 1] rfl (q1 rfl (z0 (mv rfl)) (q1 rfl (z1 (mv rfl)) (rn (al [0, 1, 2, 6, 7, 8] [0] rfl rfl rfl (sq (cr [0, 1, 2, 3] rfl (q1 rfl (z0 (mv rfl)) ?_)))))))))))
   refine q1 rfl (z0 (mv rfl)) (q1 rfl (z0g (mv rfl) (mv rfl)) (q1 rfl (z1 (mv rfl)) (rn (AtX.in_normal ?_))))
   exact AtX.to (ih38 (v36, (W (v36 + 20)), y40) h) [0] (sl rfl) (ol rfl) rfl
  ·
   refine z2.exit (AtX.then_exit (AtX.then_exit (AtX.in_hit ?_)))
   exact AtX.to (hJ7 (v35, v37) h) [0] (sl rfl) (ol rfl) rfl
theorem zb1 {P : Program} (H : P = Try.prog) (φ : Nat) (v1 : (List Ref)) (y3 : (Ref → Ref → Option Int)) (sv2 : Value) (r : (List Ref)) (h : z47 φ v1 y3 = some r) : MutT P 40 [(eqv sv2), (fcmp P (fun x => (agg (eRef x))) y3)] 43 eRef 2 v1 sv2 (fun x l' => x = eqv (.tuple #[]) ∧ r = l') := by
 unfold z47 at h
 refine MutT.of_code 9 (fn40 H) rfl rfl (Nat.le_of_ble_eq_true rfl) fun w0 base r0 wI => ?_
 refine cl [0, 1] [0] rfl rfl rfl (cr [0, 1, 2, 3, 4] rfl (q1 rfl (z0 (mv rfl)) (q1 rfl (z0 (mv rfl)) (q1 rfl (z9e 0 (il55 H) (mv rfl) rfl) (q1 rfl (z0 (mv rfl)) (zp h fun y4 ey4 h => n1 rfl (z3r 0 rfl (fun x => (fRef x).mem) (zvr H) (args := [(eqv sv2), (iv .i64 (v1.length : Int)), (fcmp P (fun x => (agg (eRef x))) y3)]) ⟨(mv rfl), (mv rfl), (mv rfl), trivial⟩ (zb3 H φ v1 (v1.length : Int) y3 sv2 _ ey4) fun x5 nw6 hk7 => ?_)))))))
 obtain ⟨rfl, rfl⟩ := hk7
 refine ⟨z5, ?_⟩
 refine rn (AtX.fall' (eqv (.tuple #[])) (zq.zero Try.results40) [0] [(row 43 eRef 2 y4 sv2)] (ol rfl) rfl ?_)
 obtain rfl := Option.some.inj h
 exact ⟨_, rfl, rfl, rfl⟩
theorem zas {P : Program} (H : P = Try.prog) (φ : Nat) (v1 : Pool) (v2 : (List zo)) (r : ((List Ref))) (h : z6j φ v1 v2 = some r) : z0z P 14 [(agg (z2i v1)), (ro zm 21 v2)] (zdt r) := by
 unfold z6j at h
 refine z0z.of_code' 59 (fn14 H) rfl rfl (Nat.le_of_ble_eq_true rfl) fun w0 base r0 wI => ?_
 refine cl [0, 1] [] rfl rfl rfl (cs (z2.addNil 43 eRef 2 (cr [0, 1] rfl (n1 rfl (z7i (Ce.agg (mv rfl)) fun b3 => q1 rfl (z1 ct) (rn (al [1, 2] [1] rfl rfl rfl (sq (cs (cs (cr [0, 1, 2] rfl ?_)))))))))))
 refine q1 rfl (ln (tl36 H) ((Pt.box 0 (mv rfl) rfl rfl).take 9 (cs' := (z2i v1)) rfl) rfl) (zp h fun y4 ey4 h => q1 rfl (oQ (zn7 H) (z8n H φ v1 _ ey4) z5 ⟨ef (mv rfl), trivial⟩) (q1 rfl (z6g (mv rfl) ct) (rn (al [1, 2, 13] [0] rfl rfl rfl (sq ?_)))))
 refine cI h rfl (fun c5 h => ?_) (fun c5 h => ?_)
 ·
  refine cs (z2.addNil 43 eRef 2 (cr [0] rfl (q1 rfl (z1 ct) (rn (al [4] [1] rfl rfl rfl (sq (z2.ret (AtX.then_ret (AtX.ret' (eqv (Value.slice none 0 0)) (zq.one Try.results14 rfl) [0] [(row 43 eRef 2 ([] : List Ref) (Value.slice none 0 0))] (ol rfl) rfl ?_)))))))))
  obtain rfl := Option.some.inj h
  exact ⟨(Value.slice none 0 0), rfl, rfl⟩
 ·
  refine z2.skip (al [1, 2] [0] rfl rfl rfl (sq (cs (cr [0, 1] rfl (n1 rfl (zln (eK := (Value.int .i64)) (eV := Value.bool) fun b6 => q1 rfl (z1 (mv rfl)) (rn (al [1, 2, 5] [0, 1] rfl rfl rfl (sq (cs (cs ?_)))))))))))
  refine cr [0, 1, 2, 3, 4] rfl (q1 rfl (ln (tl36 H) ((Pt.box 0 (mv rfl) rfl rfl).take 9 (cs' := (z2i v1)) rfl) rfl) (q1 rfl (z0 (mv rfl)) (zp h fun y7 ey7 h => n1 rfl (oF (zsi H) (zcd H φ v1 v2 _ ey7) ⟨ef (mv rfl), ef (mv rfl), trivial⟩ fun x10 nw11 hk9 => ?_))))
  obtain ⟨sv8, rfl, rfl⟩ := hk9
  refine ⟨z5, z6h ⟨z5d zs9, trivial⟩, ?_⟩
  refine q1 rfl (z9e 2 (il87 H) (mv rfl) rfl) (q1 rfl (z0 ct) (rn (al [1, 2, 5, 17, 18, 19] [0, 1, 2] rfl rfl rfl (sq ?_))))
  refine z2.join (fun z : (List (Int × Bool)) => (z3o φ v1 v2) z) r (fun z => ⟨zd.of [(1, (ro zm 21 v2)), (2, (eqv (.pointer (some ⟨b3, 0, none⟩)))), (5, (eqv (.map (some b6))))], [(box b3 36 (z2i v1)), (mapo b6 (Value.int .i64) Value.bool z)]⟩) (fun v12 h => ?_) (fun hJ13 => ?_)
  ·
   replace h : (z3o φ v1 v2) v12 = some r := h
   unfold z3o at h
   refine al [1, 2, 5] [0, 1] rfl rfl rfl (sq (cs (z2.addNil 43 eRef 2 (cr [0] rfl (q1 rfl (z1 ct) (rn (al [1, 2, 5, 8] [0, 1, 2] rfl rfl rfl (sq (cs (cs (zp h fun y15 ey15 h => ?_)))))))))))
   refine z2.draw (QR := [(0, _), (1, _), (3, _), (4, _), (9, _)]) (tab := [(some 30, []), (some 31, []), (some 32, [0, 1]), (some 33, []), (some 34, []), (some 35, [3, 4, 2]), (some 36, [2, 5]), (some 37, [6, 5]), (some 38, [7]), (some 39, [])]) (z5h H) (Reg.intro [2] [] (by kernel_rfl) rfl (an rfl) ⟨(qr rfl (ln (tl36 H) ((Pt.box 0 (mv rfl) rfl rfl).take 9 (cs' := (z2i v1)) rfl) rfl)), (qr rfl (z0 (mv rfl))), (qr rfl (ln (tl36 H) ((Pt.box 0 (mv rfl) rfl rfl).take 9 (cs' := (z2i v1)) rfl) rfl)), (qr rfl (z0 (mv rfl))), (qr rfl (z0 ct)), trivial⟩ ⟨⟨_, rfl, rfl, rfl, rfl, oF (znq H) (zaj H φ v1 v2 3 _ ey15) ⟨ef (mv rfl), ef (mv rfl), ef ct, trivial⟩ fun x18 nw19 hk17 => ?_⟩, trivial⟩ ft)
   obtain ⟨sv16, rfl, rfl⟩ := hk17
   refine ⟨z5, z6h ⟨z5d z5m, trivial⟩, ⟨[], rfl, ?_⟩⟩
   refine zp h fun y21 ey21 h => Reg.intro [5] [0, 1] (by kernel_rfl) rfl (an rfl) ⟨nf, nf, (qr rfl (ln (tl36 H) ((Pt.box 0 (mv rfl) rfl rfl).take 9 (cs' := (z2i v1)) rfl) rfl)), (qr rfl (z0 (mv rfl))), (qr rfl (z0 ct)), trivial⟩ ⟨⟨_, rfl, rfl, rfl, rfl, oF (znq H) (zaj H φ v1 v2 4 _ ey21) ⟨ef (mv rfl), ef (mv rfl), ef ct, trivial⟩ fun x24 nw25 hk23 => ?_⟩, trivial⟩ ft
   obtain ⟨sv22, rfl, rfl⟩ := hk23
   refine ⟨z5, z6h ⟨z5d z5m, trivial⟩, ⟨[], rfl, ?_⟩⟩
   refine Reg.freeze 3 [(32, (ro eI64 1 y15))] [(box b3 36 (z2i v1)), (mapo b6 (Value.int .i64) Value.bool v12), (row 43 eRef 2 ([] : List Ref) (Value.slice none 0 0)), emp, (row 3 eI64 1 y21 sv22)] rfl lI64 ⟨⟨_, rfl, FzV.here⟩, trivial⟩ ⟨FzH.refl, FzH.refl, FzH.refl, FzH.emp, FzH.refl, trivial⟩ (Reg.freeze 4 [(35, (ro eI64 1 y21))] [(box b3 36 (z2i v1)), (mapo b6 (Value.int .i64) Value.bool v12), (row 43 eRef 2 ([] : List Ref) (Value.slice none 0 0)), emp, emp] rfl lI64 ⟨⟨_, rfl, FzV.here⟩, trivial⟩ ⟨FzH.refl, FzH.refl, FzH.refl, FzH.refl, FzH.emp, trivial⟩ (Reg.intro [6] [0, 1, 3, 4] (by kernel_rfl) rfl (an rfl) ⟨nf, nf, nf, nf, (qr rfl (z0 ct)), trivial⟩ ⟨⟨_, rfl, rfl, rfl, rfl, z2d (e := ze7) [y15, y21] (zxw H) zpu rfl (by decide) ⟨rfl, (Ce.one (mv rfl) One.ro), ⟨rfl, (Ce.one (mv rfl) One.ro), trivial⟩⟩ fun sv28 => ⟨[], rfl, ?_⟩⟩, trivial⟩ ft))
   refine zp h fun y30 ey30 h => Reg.intro [7] [0, 1, 3, 4] (by kernel_rfl) rfl (an rfl) ⟨nf, nf, nf, nf, (qr rfl (z0 ct)), trivial⟩ ⟨⟨_, rfl, rfl, rfl, rfl, oF (zwj H) (zgv H φ [y15, y21] _ ey30) ⟨EvF.of (mv rfl) (FEnt.row 5 zpu rfl), trivial⟩ fun x33 nw34 hk32 => ?_⟩, trivial⟩ ft
   obtain ⟨sv31, rfl, rfl⟩ := hk32
   refine ⟨z5, z6h ⟨z5d z5m, trivial⟩, ⟨[(8, (iv .i64 (y30.length : Int)))], rfl, ?_⟩⟩
   refine Reg.intro [] [0, 1, 3, 4] (by kernel_rfl) rfl (an rfl) ⟨nf, nf, nf, nf, (qr rfl (z0 ct)), (qr rfl (z9e 6 (il96 H) (mv rfl) rfl)), trivial⟩ trivial (fun _ => al [1, 5, 8, 37, 38, 39] [1, 2, 6] rfl rfl rfl (sq ?_))
   refine z2.join (fun z : (List Ref) × Value => (z2l φ) z.1) r (fun z => ⟨zd.of [(8, (eqv z.2))], [(row 43 eRef 2 z.1 z.2)]⟩) (fun z h => ?_) (fun hJ37 => ?_)
   ·
    obtain ⟨v35, sv36⟩ := z
    replace h : (z2l φ) v35 = some r := h
    unfold z2l at h
    refine al [8] [0] rfl rfl rfl (sq (cs (cr [0, 1] rfl (q1 rfl (z0 (mv rfl)) (zp h fun y38 ey38 h => n1 rfl (z3r 0 rfl (fun x => (fRef x).mem) (zva H) (args := [(eqv sv36), (fcmp P (fun x => (agg (eRef x))) (fun a b => z43 φ a b))]) ⟨(mv rfl), (Ev.ent (Ev.ent (Ev.func _) zq4) (zea (zn3 H) (fun a b cc hc => z98 H φ a b cc hc))), trivial⟩ (zb1 H φ v35 (fun a b => z43 φ a b) sv36 _ ey38) fun x39 nw40 hk41 => ?_))))))
    obtain ⟨rfl, rfl⟩ := hk41
    refine ⟨z5, ?_⟩
    refine rn (al [8] [0] rfl rfl rfl (sq (cs (cr [0, 1] rfl (q1 rfl (z0 (mv rfl)) (q1 rfl (z1 (mv rfl)) (rn (al [4] [0] rfl rfl rfl (sq (z2.ret (AtX.ret' (eqv sv36) (zq.one Try.results14 rfl) [0] [(row 43 eRef 2 y38 sv36)] (ol rfl) rfl ?_)))))))))))
    obtain rfl := Option.some.inj h
    exact ⟨sv36, rfl, rfl⟩
   ·
    refine z2.block ?_
    refine z2.to (z2.loop (fun n (z : Int × (List Ref) × Value) => z1y φ v2 v12 y30 (z2l φ) n z.1 z.2.1) r (fun z => ⟨zd.of [(1, (ro zm 21 v2)), (5, (eqv (.map (some b6)))), (8, (eqv z.2.2)), (37, (eqv sv31)), (38, (iv .i64 (y30.length : Int))), (39, (iv .i64 z.1))], [(mapo b6 (Value.int .i64) Value.bool v12), (row 43 eRef 2 z.2.1 z.2.2), (row 3 eI64 1 y30 sv31)]⟩) (fun z => rfl) (fun n45 z ih45 h => ?_) φ (0, ([] : List Ref), (Value.slice none 0 0)) h) [0, 1, 2] (sl rfl) (ol rfl) rfl
    obtain ⟨v42, v43, sv44⟩ := z
    replace h : z1y φ v2 v12 y30 (z2l φ) (n45 + 1) v42 v43 = some r := h
    rw [z1y] at h
    refine cs (cr [0] rfl (q1 rfl (z10 (mv rfl) (mv rfl)) (rn (al [1, 5, 8, 37, 38, 39, 40] [0, 1, 2] rfl rfl rfl (sq (cs ?_))))))
    refine cI h rfl (fun c46 h => ?_) (fun c46 h => ?_)
    ·
     refine z2.skip (al [1, 5, 8, 37, 38, 39] [0, 1, 2] rfl rfl rfl (sq (cs (z2.block (cs (cr [0, 1, 2] rfl (ckE h fun h47 h => q1 rfl (zb 2 (ix96 H) (mv rfl) rfl (mv rfl) (h47).1 (h47).2) (q1 rfl (z2g (tl3 H) ((Pt.row _ 2 (k := (v42 : Int).toNat) (fo := 0) lI64 (mv rfl) rfl (by omega) (z8 h47) rfl).take 1 (cs' := [(iv .i64 (gt y30 v42))]) rfl)) (q1 rfl (z1 (mv rfl)) (rn ?_))))))))))
     refine al [1, 5, 8, 10, 37, 38, 39] [0, 1, 2] rfl rfl rfl (sq (cs (cr [0, 1, 2, 3] rfl (q1 rfl (z0 (mv rfl)) (q1 rfl (z0 (mv rfl)) (q1 rfl (znf (eK := (Value.int .i64)) (eV := Value.bool) (d := false) 0 (keyI (un3 H)) (um95 H) (tz4 H) rfl (mv rfl) (mv rfl)) (q1 rfl (z79 (mv rfl)) (rn (al [1, 5, 8, 10, 37, 38, 39, 46] [0, 1, 2] rfl rfl rfl (sq ?_))))))))))
     refine z2.join (fun z : (List Ref) × Value => (z4j φ v42 (z1y φ v2 v12 y30 (z2l φ) n45)) z.1) r (fun z => ⟨zd.of [(1, (ro zm 21 v2)), (5, (eqv (.map (some b6)))), (8, (eqv z.2)), (37, (eqv sv31)), (38, (iv .i64 (y30.length : Int))), (39, (iv .i64 v42))], [(mapo b6 (Value.int .i64) Value.bool v12), (row 43 eRef 2 z.1 z.2), (row 3 eI64 1 y30 sv31)]⟩) (fun z h => ?_) (fun hJ50 => ?_)
     ·
      obtain ⟨v48, sv49⟩ := z
      replace h : (z4j φ v42 (z1y φ v2 v12 y30 (z2l φ) n45)) v48 = some r := h
      unfold z4j at h
      refine AtX.in_normal (al [1, 5, 8, 37, 38, 39] [0, 1, 2] rfl rfl rfl (sq (cr [0, 1] rfl (q1 rfl (z0g (mv rfl) ct) (q1 rfl (z0 (mv rfl)) (rn ?_))))))
      exact AtX.to (ih45 ((W (v42 + 1)), v48, sv49) h) [0, 1, 2] (sl rfl) (ol rfl) rfl
     ·
      refine cI h rfl (fun c51 h => ?_) (fun c51 h => ?_)
      ·
       refine cr [0, 1, 2, 3, 4, 5, 6, 7, 8] rfl (q1 rfl (z0 (mv rfl)) (q1 rfl (z0 (mv rfl)) (q1 rfl (z0 (mv rfl)) (ckE h fun h52 h => q1 rfl (zn (ix37 H) (mv rfl) (mv rfl) (h52).1 (z8 h52)) (q1 rfl (z2a (z9x H) (mv rfl) (cs' := (eRef (gt v2 (gt y30 v42)).fRef)) 2 rfl) (q1 rfl (ln (tl43 H) (Pt.rop (mv rfl)) rfl) (n1 rfl (z2d (e := eRef) [(gt v2 (gt y30 v42)).fRef] (sl55 H) lRef rfl (by decide) ⟨rfl, (Ce.agg (mv rfl)), trivial⟩ fun sv53 => ckE h fun h54 h => n1 rfl (zcj 1 (l := v43) (m := [(gt v2 (gt y30 v42)).fRef]) (sl55 H) lRef (mv rfl) rfl (Src.row 3 (mv rfl) rfl) h54 (zbz (by decide) h54) fun sv55 => q1 rfl (z1 (mv rfl)) ?_)))))))))
       refine rn ?_
       exact AtX.to (hJ50 ((v43 ++ [(gt v2 (gt y30 v42)).fRef]), sv55) h) [0, 1, 2] (sl rfl) (ol rfl) rfl
      ·
       refine z2.skip ?_
       exact AtX.to (hJ50 (v43, sv44) h) [0, 1, 2] (sl rfl) (ol rfl) rfl
    ·
     refine z2.exit (AtX.then_exit (AtX.then_exit (AtX.in_hit ?_)))
     exact AtX.to (hJ37 (v43, sv44) h) [1] (sl rfl) (ol rfl) rfl
  ·
   refine z2.block ?_
   refine z2.to (z2.loop (fun n (z : Int × (List (Int × Bool))) => z2u φ y7 (z3o φ v1 v2) n z.1 z.2) r (fun z => ⟨zd.of [(1, (ro zm 21 v2)), (2, (eqv (.pointer (some ⟨b3, 0, none⟩)))), (5, (eqv (.map (some b6)))), (17, (eqv sv8)), (18, (iv .i64 (y7.length : Int))), (19, (iv .i64 z.1))], [(box b3 36 (z2i v1)), (mapo b6 (Value.int .i64) Value.bool z.2), (row 89 z5s 2 y7 sv8)]⟩) (fun z => rfl) (fun n58 z ih58 h => ?_) φ (0, ([] : List (Int × Bool))) h) [0, 1, 2] (sl rfl) (ol rfl) rfl
   obtain ⟨v56, v57⟩ := z
   replace h : z2u φ y7 (z3o φ v1 v2) (n58 + 1) v56 v57 = some r := h
   rw [z2u] at h
   refine cs (cr [0] rfl (q1 rfl (z10 (mv rfl) (mv rfl)) (rn (al [1, 2, 5, 17, 18, 19, 20] [0, 1, 2] rfl rfl rfl (sq (cs ?_))))))
   refine cI h rfl (fun c59 h => ?_) (fun c59 h => ?_)
   ·
    refine z2.skip (al [1, 2, 5, 17, 18, 19] [0, 1, 2] rfl rfl rfl (sq ?_))
    refine z2.seq ?_
    refine z2.block ?_
    refine z2.seq ?_
    refine z2.region' [0, 1, 2, 3] rfl ?_
    refine ckE h fun h60 h => ze.cons_q (rowp sv8 ((v56 : Int).toNat * 2)) rfl rfl rfl (zb 2 (ix87 H) (mv rfl) rfl (mv rfl) (h60).1 (h60).2) (ze.cons_q (agg (z5s (gt y7 v56))) rfl rfl rfl (zdo (tl89 H) (by simp [zct lI64, z5s]) ((Pt.row _ 2 (k := (v56 : Int).toNat) (fo := 0) zn0 (mv rfl) rfl (by omega) (z8 h60) rfl).take 2 (cs' := (z5s (gt y7 v56))) rfl)) (ze.cons rfl rfl rfl (zkp (e := eI64) 0 [.int .i64 0] (za89 H) rfl rfl fun b61 => ze.cons rfl rfl rfl (zck 3 (cells := ([] ++ arr 2 eI64 (fun _ => 0) ++ [])) (cs := (z5s (gt y7 v56))) (out := ([] ++ arr 2 eI64 (gt y7 v56) ++ [])) (tl89 H) (Ev.tmp rfl) (Ce.agg (Ev.tmp rfl)) rfl rfl (Nat.le_of_ble_eq_true rfl) rfl (ze.nil (AtX.le' [(1, (ro zm 21 v2)), (2, (eqv (.pointer (some ⟨b3, 0, none⟩)))), (5, (eqv (.map (some b6)))), (7, (eqv (.pointer (some ⟨b61, 0, none⟩)))), (17, (eqv sv8)), (18, (iv .i64 (y7.length : Int))), (19, (iv .i64 v56))] [0, 1, 2, 3] [(box b3 36 (z2i v1)), (mapo b6 (Value.int .i64) Value.bool v57), (row 89 z5s 2 y7 sv8), (box b61 89 ([] ++ arr 2 eI64 (gt y7 v56) ++ []))] ⟨⟨_, rfl, Ent.refl⟩, ⟨_, rfl, Ent.refl⟩, ⟨_, rfl, Ent.refl⟩, ⟨_, rfl, Ent.refl⟩, ⟨_, rfl, Ent.refl⟩, ⟨_, rfl, Ent.refl⟩, ⟨_, rfl, Ent.refl⟩, trivial⟩ ⟨⟨_, rfl, EntH.refl⟩, ⟨_, rfl, EntH.refl⟩, ⟨_, rfl, EntH.refl⟩, ⟨_, rfl, EntH.refl⟩, trivial⟩ rfl (AtX.seq (z2.draw (QR := [(0, (eqv (.map (some b6)))), (1, (eqv (.pointer (some ⟨b61, 0, none⟩)))), (2, (iv .i64 ((gt y7 v56) 0))), (3, (eqv (.map (some b6)))), (4, (eqv (.pointer (some ⟨b61, 1, none⟩)))), (5, (iv .i64 ((gt y7 v56) 1)))]) (tab := [(some 23, []), (some 24, []), (some 25, [1]), (some 26, []), (some 27, []), (some 28, [4]), (none, [0, 2, 0, 1, 2]), (none, [3, 5, 6, 0, 1, 2, 3, 4, 5, 6])]) (z5h H) (Reg.intro [6] [] (by kernel_rfl) rfl ⟨rfl, rfl, rfl, rfl, rfl, rfl, trivial⟩ ⟨(fun _ => ⟨_, rfl, (z0 (Ev.tmp rfl))⟩), (fun _ => ⟨_, rfl, (z6i (ix89 H) (Ev.tmp rfl) (Ev.const _) (by decide) (by decide))⟩), (fun _ => ⟨_, rfl, (z2g (tl3 H) (Pt.ofArr (e := eI64) 3 (k := 0) (Ev.tmp rfl) rfl lI64 rfl (by decide)))⟩), (fun _ => ⟨_, rfl, (z0 (Ev.tmp rfl))⟩), (fun _ => ⟨_, rfl, (z6i (ix89 H) (Ev.tmp rfl) (Ev.const _) (by decide) (by decide))⟩), (fun _ => ⟨_, rfl, (z2g (tl3 H) (Pt.ofArr (e := eI64) 3 (k := 1) (Ev.tmp rfl) rfl lI64 rfl (by decide)))⟩), trivial⟩ ⟨⟨_, rfl, rfl, rfl, rfl, zem (eK := (Value.int .i64)) (eV := Value.bool) (v := true) 1 (keyI (un3 H)) (um95 H) rfl (Ev.tmp rfl) (Ev.tmp rfl) (Ev.const _) ⟨[], rfl, ?_⟩⟩, trivial⟩ (fun hc => Bool.noConfusion (hc : false = true)))))))))))
    refine Reg.intro [7] [0, 1, 2] (by kernel_rfl) rfl (an rfl) ⟨nf, nf, nf, (qr rfl (z0 (mv rfl))), (qr rfl (z6i (ix89 H) (mv rfl) ct (by decide) (by decide))), (qr rfl (z2g (tl3 H) (Pt.ofArr (e := eI64) 3 (k := 1) (mv rfl) rfl lI64 rfl (by decide)))), trivial⟩ ⟨⟨_, rfl, rfl, rfl, rfl, zem (eK := (Value.int .i64)) (eV := Value.bool) (v := true) 1 (keyI (un3 H)) (um95 H) rfl (mv rfl) (mv rfl) ct ⟨[], rfl, ?_⟩⟩, trivial⟩ ft
    refine Reg.intro [] [0, 1, 2, 3, 4, 5] (by kernel_rfl) rfl (an rfl) ⟨nf, nf, nf, nf, nf, nf, trivial⟩ trivial (fun _ => AtX.in_normal (al [1, 2, 5, 17, 18, 19] [0, 1, 2] rfl rfl rfl (sq (cr [0, 1] rfl (q1 rfl (z0g (mv rfl) ct) (q1 rfl (z0 (mv rfl)) (rn ?_)))))))
    exact AtX.to (ih58 ((W (v56 + 1)), (mset (mset v57 ((gt y7 v56) 0) true) ((gt y7 v56) 1) true)) h) [0, 1, 2] (sl rfl) (ol rfl) rfl
   ·
    refine z2.exit (AtX.then_exit (AtX.then_exit (AtX.in_hit ?_)))
    exact AtX.to (hJ13 v57 h) [0, 1] (sl rfl) (ol rfl) rfl
theorem zg4 {P : Program} (H : P = Try.prog) (φ : Nat) (v1 : (List Ref)) (v2 : (List Ref)) (r : (Bool)) (h : zc1 φ v1 v2 = some r) : z0z P 17 [(ro eRef 2 v1), (ro eRef 2 v2)] (fun x news => x = (bv r) ∧ news = []) := by
 unfold zc1 at h
 refine z0z.of_code' 26 (fn17 H) rfl rfl (Nat.le_of_ble_eq_true rfl) fun w0 base r0 wI => ?_
 refine cl [0, 1] [] rfl rfl rfl (cs (cr [0] rfl (q1 rfl (z1 ct) (rn (al [0, 1] [] rfl rfl rfl (sq (cs (cs (cr [0, 1, 2, 3, 4] rfl (q1 rfl (z0 (mv rfl)) (q1 rfl (z0x (il55 H) (mv rfl)) ?_)))))))))))
 refine q1 rfl (z0 (mv rfl)) (q1 rfl (z0x (il55 H) (mv rfl)) (q1 rfl (z6g (mv rfl) (mv rfl)) (rn (al [0, 1, 10] [] rfl rfl rfl (sq ?_)))))
 refine cI h rfl (fun c3 h => ?_) (fun c3 h => ?_)
 ·
  refine cs (cr [0] rfl (q1 rfl (z1 ct) (rn (al [4] [] rfl rfl rfl (sq (z2.ret (AtX.then_ret (AtX.ret' (bv false) (zq.one Try.results17 rfl) [] [] trivial rfl ?_))))))))
  obtain rfl := Option.some.inj h
  exact ⟨rfl, rfl⟩
 ·
  refine z2.skip (al [0, 1] [] rfl rfl rfl (sq (cs (cs (cr [0] rfl (q1 rfl (z1 ct) (rn (al [0, 1, 5] [] rfl rfl rfl (sq ?_)))))))))
  refine z2.join (fun z : Unit => (z6w φ)) r (fun z => ⟨zd.of [], []⟩) (fun z h => ?_) (fun hJ4 => ?_)
  ·
   replace h : (z6w φ) = some r := h
   unfold z6w at h
   refine al [] [] rfl rfl rfl (sq (cs (cr [0] rfl (q1 rfl (z1 ct) (rn (al [4] [] rfl rfl rfl (sq (z2.ret (AtX.ret' (bv true) (zq.one Try.results17 rfl) [] [] trivial rfl ?_)))))))))
   obtain rfl := Option.some.inj h
   exact ⟨rfl, rfl⟩
  ·
   refine z2.block ?_
   refine z2.to (z2.loop (fun n (z : Int) => z86 φ v1 v2 (z6w φ) n z) r (fun z => ⟨zd.of [(0, (ro eRef 2 v1)), (1, (ro eRef 2 v2)), (5, (iv .i64 z))], []⟩) (fun z => rfl) (fun n6 v5 ih6 h => ?_) φ 0 h) [] (sl rfl) trivial rfl
   replace h : z86 φ v1 v2 (z6w φ) (n6 + 1) v5 = some r := h
   rw [z86] at h
   refine cs (cs (cr [0, 1, 2, 3] rfl (q1 rfl (z0 (mv rfl)) (q1 rfl (z0 (mv rfl)) (q1 rfl (z0x (il55 H) (mv rfl)) (q1 rfl (z10 (mv rfl) (mv rfl)) (rn (al [0, 1, 5, 14] [] rfl rfl rfl (sq ?_)))))))))
   refine cI h rfl (fun c7 h => ?_) (fun c7 h => ?_)
   ·
    refine z2.skip (al [0, 1, 5] [] rfl rfl rfl (sq (cs (z2.block (cs (ckE h fun h8 h => ckE h fun h9 h => z2.draw (QR := [(0, _), (1, _), (2, _), (3, _), (4, _), (5, _), (6, _), (7, _), (8, _)]) (tab := [(some 17, []), (some 18, []), (some 19, [0, 1]), (some 20, [2]), (some 21, []), (some 22, []), (some 23, [4, 5]), (some 24, [6]), (some 25, [3, 7])]) (z5h H) (Reg.intro [] [] (by kernel_rfl) rfl (an rfl) ⟨(qr rfl (z0 (mv rfl))), (qr rfl (z0 (mv rfl))), (qr rfl (zn (ix55 H) (mv rfl) (mv rfl) (h8).1 (z8 h8))), (qr rfl (ln (tl43 H) (Pt.rop (mv rfl)) rfl)), (qr rfl (z0 (mv rfl))), (qr rfl (z0 (mv rfl))), (qr rfl (zn (ix55 H) (mv rfl) (mv rfl) (h9).1 (z8 h9))), (qr rfl (ln (tl43 H) (Pt.rop (mv rfl)) rfl)), (qr rfl (zud [(.int .i64 ((gt v1 v5).fRailway)), (.int .i64 ((gt v1 v5).fNo))] [(.int .i64 ((gt v2 v5).fRailway)), (.int .i64 ((gt v2 v5).fNo))] (mv rfl) (mv rfl) rfl rfl (eg43 H) (fun w => znp H w (gt v1 v5) (gt v2 v5)))), trivial⟩ trivial (fun _ => al [0, 1, 5, 25] [] rfl rfl rfl (sq ?_)))))))))
    refine cI h rfl (fun c10 h => ?_) (fun c10 h => ?_)
    ·
     refine cs (cr [0] rfl (q1 rfl (z1 ct) (rn (al [4] [] rfl rfl rfl (sq (z2.ret (AtX.in_ret (AtX.then_ret (AtX.then_ret (AtX.in_ret (AtX.then_ret ?_)))))))))))
     refine AtX.ret' (bv false) (zq.one Try.results17 rfl) [] [] trivial rfl ?_
     obtain rfl := Option.some.inj h
     exact ⟨rfl, rfl⟩
    ·
     refine z2.skip (AtX.in_normal (al [0, 1, 5] [] rfl rfl rfl (sq (cr [0, 1, 2] rfl (q1 rfl (z0 (mv rfl)) (q1 rfl (z0g (mv rfl) ct) (q1 rfl (z1 (mv rfl)) (rn ?_))))))))
     exact AtX.to (ih6 (W (v5 + 1)) h) [] (sl rfl) trivial rfl
   ·
    refine z2.exit (AtX.then_exit (AtX.then_exit (AtX.in_hit ?_)))
    exact AtX.to (hJ4 () h) [] trivial trivial rfl
theorem zk0 {P : Program} (H : P = Try.prog) (φ : Nat)  (r : (Bool)) (h : zdp φ  = some r) : z0z P 9 [] (fun x news => x = (bv r) ∧ news = []) := by
 unfold zdp at h
 refine z0z.of_code' 136 (fn9 H) rfl rfl (Nat.le_of_ble_eq_true rfl) fun w0 base r0 wI => ?_
 refine cl [] [] rfl rfl rfl (cs (cr [0] rfl (q1 rfl (z1 ct) (rn (al [] [] rfl rfl rfl (sq (cs (cr [0, 1, 2] rfl (zp h fun y1 ey1 h => n1 rfl (oP (zx1 H) (zgr H φ  _ ey1) trivial fun x3 nw4 hk2 => ?_))))))))))
 obtain ⟨rfl, rfl⟩ := hk2
 refine n1 rfl (z38 _ (ze36 H) rfl fun b5 => n1 rfl (sto 0 (tl36 H) (mv rfl) (Ce.agg (mv rfl)) rfl rfl rfl rfl (rn (al [1] [0] rfl rfl rfl (sq (cs (cr [0, 1, 2, 3] rfl (zp h fun y6 ey6 h => n1 rfl (oP (zn6 H) (z9j H φ 1 100 1 _ ey6) ⟨ct, ct, ct, trivial⟩ fun x8 nw9 hk7 => ?_)))))))))
 obtain ⟨rfl, rfl⟩ := hk7
 refine zp h fun y10 ey10 h => n1 rfl (oP (znn H) (z9k H φ 1 111 3 _ ey10) ⟨ct, ct, ct, trivial⟩ fun x12 nw13 hk11 => ?_)
 obtain ⟨rfl, rfl⟩ := hk11
 refine n1 rfl (z2d (e := zm) [y6, y10] (sl37 H) zbi rfl (by decide) ⟨rfl, (Ce.agg (mv rfl)), ⟨rfl, (Ce.agg (mv rfl)), trivial⟩⟩ fun sv14 => q1 rfl (z1 (mv rfl)) (rn (al [1, 2] [0, 1] rfl rfl rfl (sq (cs (cr [0, 1, 2, 3] rfl (zp h fun y15 ey15 h => n1 rfl (oP (zn6 H) (z9j H φ 1 100 1 _ ey15) ⟨ct, ct, ct, trivial⟩ fun x17 nw18 hk16 => ?_))))))))
 obtain ⟨rfl, rfl⟩ := hk16
 refine zp h fun y19 ey19 h => n1 rfl (oP (znn H) (z9k H φ 1 161 3 _ ey19) ⟨ct, ct, ct, trivial⟩ fun x21 nw22 hk20 => ?_)
 obtain ⟨rfl, rfl⟩ := hk20
 refine n1 rfl (z2d (e := zm) [y15, y19] (sl37 H) zbi rfl (by decide) ⟨rfl, (Ce.agg (mv rfl)), ⟨rfl, (Ce.agg (mv rfl)), trivial⟩⟩ fun sv23 => q1 rfl (z1 (mv rfl)) (rn (al [1, 2, 3] [0, 1, 2] rfl rfl rfl (sq (cs (cr [0, 1, 2, 3, 4, 5] rfl (zp h fun y24 ey24 h => n1 rfl (oP (zn6 H) (z9j H φ 1 100 0 _ ey24) ⟨ct, ct, ct, trivial⟩ fun x26 nw27 hk25 => ?_))))))))
 obtain ⟨rfl, rfl⟩ := hk25
 refine zp h fun y28 ey28 h => n1 rfl (oP (zn6 H) (z9j H φ 2 120 0 _ ey28) ⟨ct, ct, ct, trivial⟩ fun x30 nw31 hk29 => ?_)
 obtain ⟨rfl, rfl⟩ := hk29
 refine zp h fun y32 ey32 h => n1 rfl (oP (znn H) (z9k H φ 1 119 0 _ ey32) ⟨ct, ct, ct, trivial⟩ fun x34 nw35 hk33 => ?_)
 obtain ⟨rfl, rfl⟩ := hk33
 refine zp h fun y36 ey36 h => n1 rfl (oP (znn H) (z9k H φ 2 130 0 _ ey36) ⟨ct, ct, ct, trivial⟩ fun x38 nw39 hk37 => ?_)
 obtain ⟨rfl, rfl⟩ := hk37
 refine n1 rfl (z2d (e := zm) [y24, y28, y32, y36] (sl37 H) zbi rfl (by decide) ⟨rfl, (Ce.agg (mv rfl)), ⟨rfl, (Ce.agg (mv rfl)), ⟨rfl, (Ce.agg (mv rfl)), ⟨rfl, (Ce.agg (mv rfl)), trivial⟩⟩⟩⟩ fun sv40 => q1 rfl (z1 (mv rfl)) (rn (al [1, 2, 3, 4] [0, 1, 2, 3] rfl rfl rfl (sq (cs (cr [0, 1, 2, 3] rfl (q1 rfl (ln (tl36 H) ((Pt.box 0 (mv rfl) rfl rfl).take 9 (cs' := (z2i y1)) rfl) rfl) (q1 rfl (z0 (mv rfl)) (zp h fun y41 ey41 h => n1 rfl (oF (zkv H) (z81 H φ y1 [y6, y10] _ ey41) ⟨ef (mv rfl), EvF.of (mv rfl) (FEnt.row 1 zbi rfl), trivial⟩ fun x44 nw45 hk43 => ?_))))))))))
 obtain ⟨sv42, rfl, rfl⟩ := hk43
 refine ⟨z5, z6h ⟨z5d z68, trivial⟩, ?_⟩
 refine q1 rfl (z1 (mv rfl)) (rn (al [1, 2, 3, 4, 5] [0, 1, 2, 3, 4] rfl rfl rfl (sq (cs (cr [0, 1, 2, 3, 4, 5, 6, 7] rfl (q1 rfl (ln (tl36 H) ((Pt.box 0 (mv rfl) rfl rfl).take 9 (cs' := (z2i y1)) rfl) rfl) (q1 rfl (z0 (mv rfl)) (zp h fun y46 ey46 h => n1 rfl (oF (zss H) (zcf H φ y1 [y6, y10] 0 500 _ ey46) ⟨ef (mv rfl), EvF.of (mv rfl) (FEnt.row 1 zbi rfl), ef ct, ef ct, trivial⟩ fun x49 nw50 hk48 => ?_)))))))))
 obtain ⟨sv47, rfl, rfl⟩ := hk48
 refine ⟨(zaw ⟨z5, z5, trivial⟩), z6h ⟨z5d zh6, trivial⟩, ?_⟩
 refine q1 rfl (z0 (mv rfl)) (q1 rfl (z6m (mv rfl) rfl) (q1 rfl (z6m (mv rfl) rfl) (q1 rfl (z1 (mv rfl)) (q1 rfl (z1 (mv rfl)) (rn (al [1, 3, 4, 5, 6, 7] [0, 2, 3, 4, 5] rfl rfl rfl (sq (cs (cr [0, 1, 2, 3, 4, 5, 6, 7] rfl (q1 rfl (ln (tl36 H) ((Pt.box 0 (mv rfl) rfl rfl).take 9 (cs' := (z2i y1)) rfl) rfl) (q1 rfl (z0 (mv rfl)) ?_)))))))))))
 refine zp h fun y51 ey51 h => n1 rfl (oF (zss H) (zcf H φ y1 [y15, y19] 0 500 _ ey51) ⟨ef (mv rfl), EvF.of (mv rfl) (FEnt.row 1 zbi rfl), ef ct, ef ct, trivial⟩ fun x54 nw55 hk53 => ?_)
 obtain ⟨sv52, rfl, rfl⟩ := hk53
 refine ⟨(zaw ⟨z5, z5, trivial⟩), z6h ⟨z5d zh6, trivial⟩, ?_⟩
 refine q1 rfl (z0 (mv rfl)) (q1 rfl (z6m (mv rfl) rfl) (q1 rfl (z6m (mv rfl) rfl) (q1 rfl (z1 (mv rfl)) (q1 rfl (z1 (mv rfl)) (rn (al [1, 3, 4, 5, 6, 7, 8, 9] [0, 1, 2, 3, 4, 5] rfl rfl rfl (sq (cs (cr [0, 1, 2, 3, 4, 5, 6, 7] rfl (q1 rfl (ln (tl36 H) ((Pt.box 0 (mv rfl) rfl rfl).take 9 (cs' := (z2i y1)) rfl) rfl) (q1 rfl (z0 (mv rfl)) ?_)))))))))))
 refine zp h fun y56 ey56 h => q1 rfl (oQ (zsw H) (zdy H φ y1 [y24, y28, y32, y36] 0 108 _ ey56) (zaw ⟨z5, z5, trivial⟩) ⟨ef (mv rfl), EvF.of (mv rfl) (FEnt.row 2 zbi rfl), ef ct, ef ct, trivial⟩) (q1 rfl (z0 (mv rfl)) (q1 rfl (z6m (mv rfl) rfl) (q1 rfl (z6m (mv rfl) rfl) (q1 rfl (z1 (mv rfl)) (q1 rfl (z1 (mv rfl)) (rn (al [1, 3, 4, 5, 6, 7, 8, 9, 10, 11] [0, 1, 2, 3, 4, 5] rfl rfl rfl (sq (cs (cr [0, 1, 2, 3, 4, 5, 6, 7] rfl ?_))))))))))
 refine q1 rfl (ln (tl36 H) ((Pt.box 0 (mv rfl) rfl rfl).take 9 (cs' := (z2i y1)) rfl) rfl) (q1 rfl (z0 (mv rfl)) (zp h fun y57 ey57 h => q1 rfl (oQ (zsw H) (zdy H φ y1 [y24, y28, y32, y36] 0 109 _ ey57) (zaw ⟨z5, z5, trivial⟩) ⟨ef (mv rfl), EvF.of (mv rfl) (FEnt.row 2 zbi rfl), ef ct, ef ct, trivial⟩) (q1 rfl (z0 (mv rfl)) (q1 rfl (z6m (mv rfl) rfl) (q1 rfl (z6m (mv rfl) rfl) (q1 rfl (z1 (mv rfl)) (q1 rfl (z1 (mv rfl)) (rn (al [1, 3, 4, 5, 6, 7, 8, 9, 10, 11, 12, 13] [0, 1, 2, 3, 4, 5] rfl rfl rfl (sq ?_))))))))))
 refine cs (cr [0, 1, 2, 3] rfl (q1 rfl (ln (tl36 H) ((Pt.box 0 (mv rfl) rfl rfl).take 9 (cs' := (z2i y1)) rfl) rfl) (q1 rfl (z0 (mv rfl)) (zp h fun y58 ey58 h => n1 rfl (oF (zkv H) (z81 H φ y1 [y24, y28, y32, y36] _ ey58) ⟨ef (mv rfl), EvF.of (mv rfl) (FEnt.row 2 zbi rfl), trivial⟩ fun x61 nw62 hk60 => ?_)))))
 obtain ⟨sv59, rfl, rfl⟩ := hk60
 refine ⟨z5, z6h ⟨z5d z68, trivial⟩, ?_⟩
 refine q1 rfl (z1 (mv rfl)) (rn (al [1, 3, 5, 6, 7, 8, 9, 10, 11, 12, 13, 14] [0, 1, 3, 4, 5, 6] rfl rfl rfl (sq (cs (cs (cr [0, 1, 2, 3, 4, 5, 6, 7, 8, 9, 10, 11, 12, 13, 14, 15, 16, 17, 18, 19, 20, 21, 22, 23, 24, 25] rfl (q1 rfl (z0 (mv rfl)) (q1 rfl (z46 [.int .i64 0, .int .i64 0] [(1, [(iv .i64 1)])] (out := [(iv .i64 0), (iv .i64 1)]) (ze43 H) rfl (tb43 H) ⟨(zi7 H), Nat.le_of_ble_eq_true rfl, (Ce.one ct (One.eqv rfl)), trivial⟩ rfl) (q1 rfl (z46 [.int .i64 0, .int .i64 0] [(0, [(iv .i64 1)]), (1, [(iv .i64 1)])] (out := [(iv .i64 1), (iv .i64 1)]) (ze43 H) rfl (tb43 H) ⟨(zn4 H), Nat.le_of_ble_eq_true rfl, (Ce.one ct (One.eqv rfl)), ⟨(zi7 H), Nat.le_of_ble_eq_true rfl, (Ce.one ct (One.eqv rfl)), trivial⟩⟩ rfl) (q1 rfl (z46 [.int .i64 0, .int .i64 0, .int .i64 0, .int .i64 0, .int .i64 0, .int .i64 0, .int .i64 0, .int .i64 0, .int .i64 0, .int .i64 0] [(1, [(iv .i64 2)]), (3, [(iv .i64 1)]), (4, [(iv .i64 105)]), (5, [(iv .i64 3)]), (6, [(iv .i64 0), (iv .i64 1)]), (8, [(iv .i64 1), (iv .i64 1)])] (out := [(iv .i64 0), (iv .i64 2), (iv .i64 0), (iv .i64 1), (iv .i64 105), (iv .i64 3), (iv .i64 0), (iv .i64 1), (iv .i64 1), (iv .i64 1)]) (ze70 H) rfl (tb70 H) ⟨(zsb H), Nat.le_of_ble_eq_true rfl, (Ce.one ct (One.eqv rfl)), ⟨(zrw H), Nat.le_of_ble_eq_true rfl, (Ce.one ct (One.eqv rfl)), ⟨(zro H), Nat.le_of_ble_eq_true rfl, (Ce.one ct (One.eqv rfl)), ⟨(zsc H), Nat.le_of_ble_eq_true rfl, (Ce.one ct (One.eqv rfl)), ⟨(zs5 H), Nat.le_of_ble_eq_true rfl, (Ce.agg (mv rfl)), ⟨(zry H), Nat.le_of_ble_eq_true rfl, (Ce.agg (mv rfl)), trivial⟩⟩⟩⟩⟩⟩ rfl) (n1 rfl (z2d (e := z6) [(z4.mk 0 2 0 1 105 3 (Ref.mk 0 1) (Ref.mk 1 1))] (sl53 H) z0o rfl (by decide) ⟨rfl, (Ce.agg (mv rfl)), trivial⟩ fun sv63 => ?_))))))))))))
 refine zp h fun y64 ey64 h => q1 rfl (oQ (zvf H) (zd2 H φ y41 [(z4.mk 0 2 0 1 105 3 (Ref.mk 0 1) (Ref.mk 1 1))] _ ey64) z5 ⟨EvF.of (mv rfl) (FEnt.row 2 z0o rfl), EvF.of (mv rfl) (FEnt.row 6 z0o rfl), trivial⟩) (q1 rfl (z79 (mv rfl)) (q1 rfl (z0 (mv rfl)) (g1 rfl rfl (fun g65 => z0 (mv rfl)) (g1 rfl rfl (fun g66 => z9e 5 (il53 H) (mc rfl g66) rfl) (g1 rfl rfl (fun g67 => z6g (mc rfl g67) ct) (q1 rfl (opOr (mv rfl) ct (fun g68 => (mc rfl g68))) (q1 rfl (z0 (mv rfl)) (g1 rfl rfl (fun g69 => z0 (mv rfl)) (ckE h fun h71 h => g1 rfl rfl (fun g70 => zb 5 (ix53 H) (mc rfl g70) rfl ct ((h71 g70)).1 ((h71 g70)).2) ?_)))))))))
 refine g1 rfl rfl (fun g72 => z5l (ze0 H) (mc rfl g72)) (g1 rfl rfl (fun g73 => z2g (tl3 H) ((Pt.row _ 5 (k := (0 : Int).toNat) (fo := 4) z0o (mc rfl g73) rfl (by omega) (z8 (h71 g73)) rfl).take 1 (cs' := [(iv .i64 ((gt y58 0).fAt))]) rfl)) (g1 rfl rfl (fun g74 => z6g (mc rfl g74) ct) (q1 rfl (opOr (mv rfl) ct (fun g75 => (mc rfl g75))) (q1 rfl (z0 (mv rfl)) (g1 rfl rfl (fun g76 => z0 (mv rfl)) (ckE h fun h78 h => g1 rfl rfl (fun g77 => zb 5 (ix53 H) (mc rfl g77) rfl ct ((h78 g77)).1 ((h78 g77)).2) (g1 rfl rfl (fun g79 => z5l (ze0 H) (mc rfl g79)) (g1 rfl rfl (fun g80 => z2g (tl3 H) ((Pt.row _ 5 (k := (1 : Int).toNat) (fo := 4) z0o (mc rfl g80) rfl (by omega) (z8 (h78 g80)) rfl).take 1 (cs' := [(iv .i64 ((gt y58 1).fAt))]) rfl)) (g1 rfl rfl (fun g81 => z6g (mc rfl g81) ct) (q1 rfl (opOr (mv rfl) ct (fun g82 => (mc rfl g82))) ?_))))))))))
 refine rn (al [1, 3, 6, 7, 8, 9, 10, 11, 12, 13, 82] [0, 1, 3, 4] rfl rfl rfl (sq ?_))
 refine cI h rfl (fun c83 h => ?_) (fun c83 h => ?_)
 ·
  refine cs (cr [0] rfl (q1 rfl (z1 ct) (rn (al [0] [] rfl rfl rfl (sq (z2.ret (AtX.then_ret (AtX.ret' (bv false) (zq.one Try.results9 rfl) [] [] trivial rfl ?_))))))))
  obtain rfl := Option.some.inj h
  exact ⟨rfl, rfl⟩
 ·
  refine z2.skip (al [1, 3, 6, 7, 8, 9, 10, 11, 12, 13] [0, 1, 2, 3] rfl rfl rfl (sq (cs (cr [0, 1, 2, 3, 4, 5, 6, 7, 8, 9, 10, 11, 12, 13, 14, 15, 16, 17, 18, 19, 20, 21, 22, 23, 24, 25, 26, 27, 28, 29, 30, 31, 32, 33, 34, 35, 36, 37, 38, 39, 40, 41, 42, 43, 44, 45, 46, 47, 48, 49, 50, 51, 52, 53] rfl (q1 rfl (z0 (mv rfl)) (q1 rfl (z61 (mv rfl) ct) (q1 rfl (z0 (mv rfl)) (g1 rfl rfl (fun g84 => z0 (mv rfl)) (g1 rfl rfl (fun g85 => z46 [.int .i64 0, .int .i64 0] [(1, [(iv .i64 105)])] (out := [(iv .i64 0), (iv .i64 105)]) (ze62 H) rfl (tb62 H) ⟨(zrv H), Nat.le_of_ble_eq_true rfl, (Ce.one ct (One.eqv rfl)), trivial⟩ rfl) (g1 rfl rfl (fun g86 => z46 [.int .i64 0, .int .i64 0, .int .i64 0, .int .i64 0, .int .i64 0] [(1, [(iv .i64 0), (iv .i64 105)])] (out := [(iv .i64 0), (iv .i64 0), (iv .i64 105), (iv .i64 0), (iv .i64 0)]) (ze64 H) rfl (tb64 H) ⟨(zpx H), Nat.le_of_ble_eq_true rfl, (Ce.agg (mc rfl g86)), trivial⟩ rfl) (g1 rfl rfl (fun g87 => z46 [.int .i64 0, .int .i64 0] [(0, [(iv .i64 105)]), (1, [(iv .i64 500)])] (out := [(iv .i64 105), (iv .i64 500)]) (ze62 H) rfl (tb62 H) ⟨(zs8 H), Nat.le_of_ble_eq_true rfl, (Ce.one ct (One.eqv rfl)), ⟨(zrv H), Nat.le_of_ble_eq_true rfl, (Ce.one ct (One.eqv rfl)), trivial⟩⟩ rfl) ?_)))))))))))
  refine g1 rfl rfl (fun g88 => z46 [.int .i64 0, .int .i64 0] [(0, [(iv .i64 1)]), (1, [(iv .i64 1)])] (out := [(iv .i64 1), (iv .i64 1)]) (ze43 H) rfl (tb43 H) ⟨(zn4 H), Nat.le_of_ble_eq_true rfl, (Ce.one ct (One.eqv rfl)), ⟨(zi7 H), Nat.le_of_ble_eq_true rfl, (Ce.one ct (One.eqv rfl)), trivial⟩⟩ rfl) (g1 rfl rfl (fun g89 => z46 [.int .i64 0, .int .i64 0, .int .i64 0, .int .i64 0, .int .i64 0] [(0, [(iv .i64 1)]), (1, [(iv .i64 105), (iv .i64 500)]), (3, [(iv .i64 1), (iv .i64 1)])] (out := [(iv .i64 1), (iv .i64 105), (iv .i64 500), (iv .i64 1), (iv .i64 1)]) (ze64 H) rfl (tb64 H) ⟨(zqh H), Nat.le_of_ble_eq_true rfl, (Ce.one ct (One.eqv rfl)), ⟨(zpx H), Nat.le_of_ble_eq_true rfl, (Ce.agg (mc rfl g89)), ⟨(zrn H), Nat.le_of_ble_eq_true rfl, (Ce.agg (mc rfl g89)), trivial⟩⟩⟩ rfl) (ze.cons_gnb (fun z => eqv z) (fun z => [row 64 z2v 5 [(z05.mk 0 (Span.mk 0 105) (Ref.mk 0 0)), (z05.mk 1 (Span.mk 105 500) (Ref.mk 1 1))] z]) (y46.2 == 0) rfl rfl rfl rfl rfl (fun g90 => z2d (e := z2v) [(z05.mk 0 (Span.mk 0 105) (Ref.mk 0 0)), (z05.mk 1 (Span.mk 105 500) (Ref.mk 1 1))] (sl49 H) z97 rfl (by decide) ⟨rfl, (Ce.agg (mc rfl g90)), ⟨rfl, (Ce.agg (mc rfl g90)), trivial⟩⟩ fun z => ⟨z, rfl, rfl⟩) fun sv91 => zp h fun y93 ey93 h => g1 rfl rfl (fun g92 => oQ (zvz H) (zkj H φ y46.1 [(z05.mk 0 (Span.mk 0 105) (Ref.mk 0 0)), (z05.mk 1 (Span.mk 105 500) (Ref.mk 1 1))] _ (zy ey93 g92)) z5 ⟨EvF.of (mc rfl g92) (FEnt.row 2 z97 rfl), EvF.of (mc rfl g92) (FEnt.row 4 z97 (zh9 rfl g92)), trivial⟩) (q1 rfl (z36 (mv rfl) (fun g94 => (mc rfl g94)) ct) (q1 rfl (z0 (mv rfl)) (g1 rfl rfl (fun g95 => z0 (mv rfl)) (g1 rfl rfl (fun g96 => z61 (mc rfl g96) ct) (q1 rfl (z36 (mv rfl) (fun g97 => (mc rfl g97)) ct) (q1 rfl (z0 (mv rfl)) (g1 rfl rfl (fun g98 => z0 (mv rfl)) ?_)))))))))
  refine g1 rfl rfl (fun g99 => z9e 3 (il49 H) (mc rfl g99) rfl) (g1 rfl rfl (fun g100 => z61 (mc rfl g100) ct) (q1 rfl (z36 (mv rfl) (fun g101 => (mc rfl g101)) ct) (q1 rfl (z0 (mv rfl)) (g1 rfl rfl (fun g102 => ln (tl36 H) ((Pt.box 0 (mv rfl) rfl rfl).take 9 (cs' := (z2i y1)) rfl) rfl) (g1 rfl rfl (fun g103 => z0 (mv rfl)) (zp h fun y105 ey105 h => ze.cons_gnb (fun sv106 => (eqv sv106)) (fun sv106 => [row 70 z6 10 y105 sv106]) ((((y46.2 == 0) && y93) && (y51.2 == 0)) && ((y51.1.length : Int) == 1)) rfl rfl rfl rfl rfl (fun g104 => oF (zkv H) (z81 H φ y1 [y15, y19] _ (zy ey105 g104)) ⟨ef (mc rfl g104), EvF.of (mc rfl g104) (FEnt.row 1 zbi rfl), trivial⟩ fun x nw hk => by obtain ⟨sv0_sv106, rfl, rfl⟩ := hk; exact ⟨z5, z6h ⟨z5d z68, trivial⟩, ⟨sv0_sv106, rfl, rfl⟩⟩) fun sv106 => g1 rfl rfl (fun g107 => z9e 5 (il53 H) (mc rfl g107) (zh9 rfl g107)) (g1 rfl rfl (fun g108 => z61 (mc rfl g108) ct) (q1 rfl (z36 (mv rfl) (fun g109 => (mc rfl g109)) ct) (q1 rfl (z0 (mv rfl)) ?_)))))))))
  refine g1 rfl rfl (fun g110 => ln (tl36 H) ((Pt.box 0 (mv rfl) rfl rfl).take 9 (cs' := (z2i y1)) rfl) rfl) (g1 rfl rfl (fun g111 => z0 (mv rfl)) (zp h fun y113 ey113 h => ze.cons_gnb (fun sv114 => (eqv sv114)) (fun sv114 => [row 43 eRef 2 y113 sv114]) (((((y46.2 == 0) && y93) && (y51.2 == 0)) && ((y51.1.length : Int) == 1)) && ((y105.length : Int) == 0)) rfl rfl rfl rfl rfl (fun g112 => oF (zsf H) (zas H φ y1 [y15, y19] _ (zy ey113 g112)) ⟨ef (mc rfl g112), EvF.of (mc rfl g112) (FEnt.row 1 zbi rfl), trivial⟩ fun x nw hk => by obtain ⟨sv0_sv114, rfl, rfl⟩ := hk; exact ⟨z5, z6h ⟨z5d fRef, trivial⟩, ⟨sv0_sv114, rfl, rfl⟩⟩) fun sv114 => g1 rfl rfl (fun g115 => z46 [.int .i64 0, .int .i64 0] [(1, [(iv .i64 1)])] (out := [(iv .i64 0), (iv .i64 1)]) (ze43 H) rfl (tb43 H) ⟨(zi7 H), Nat.le_of_ble_eq_true rfl, (Ce.one ct (One.eqv rfl)), trivial⟩ rfl) (g1 rfl rfl (fun g116 => z46 [.int .i64 0, .int .i64 0] [(0, [(iv .i64 1)]), (1, [(iv .i64 1)])] (out := [(iv .i64 1), (iv .i64 1)]) (ze43 H) rfl (tb43 H) ⟨(zn4 H), Nat.le_of_ble_eq_true rfl, (Ce.one ct (One.eqv rfl)), ⟨(zi7 H), Nat.le_of_ble_eq_true rfl, (Ce.one ct (One.eqv rfl)), trivial⟩⟩ rfl) (ze.cons_gnb (fun z => eqv z) (fun z => [row 43 eRef 2 [(Ref.mk 0 1), (Ref.mk 1 1)] z]) (((((y46.2 == 0) && y93) && (y51.2 == 0)) && ((y51.1.length : Int) == 1)) && ((y105.length : Int) == 0)) rfl rfl rfl rfl rfl (fun g117 => z2d (e := eRef) [(Ref.mk 0 1), (Ref.mk 1 1)] (sl55 H) lRef rfl (by decide) ⟨rfl, (Ce.agg (mc rfl g117)), ⟨rfl, (Ce.agg (mc rfl g117)), trivial⟩⟩ fun z => ⟨z, rfl, rfl⟩) fun sv118 => zp h fun y120 ey120 h => g1 rfl rfl (fun g119 => oQ (zul H) (zg4 H φ y113 [(Ref.mk 0 1), (Ref.mk 1 1)] _ (zy ey120 g119)) z5 ⟨EvF.of (mc rfl g119) (FEnt.row 6 lRef (zh9 rfl g119)), EvF.of (mc rfl g119) (FEnt.row 7 lRef (zh9 rfl g119)), trivial⟩) (q1 rfl (z36 (mv rfl) (fun g121 => (mc rfl g121)) ct) (q1 rfl (z0 (mv rfl)) (g1 rfl rfl (fun g122 => z0 (mv rfl)) ?_)))))))
  refine g1 rfl rfl (fun g123 => z61 (mc rfl g123) ct) (q1 rfl (z36 (mv rfl) (fun g124 => (mc rfl g124)) ct) (q1 rfl (z0 (mv rfl)) (g1 rfl rfl (fun g125 => z0 (mv rfl)) (g1 rfl rfl (fun g126 => z61 (mc rfl g126) ct) (q1 rfl (z36 (mv rfl) (fun g127 => (mc rfl g127)) ct) (q1 rfl (z0 (mv rfl)) (g1 rfl rfl (fun g128 => z0 (mv rfl)) (g1 rfl rfl (fun g129 => z61 (mc rfl g129) ct) (q1 rfl (z36 (mv rfl) (fun g130 => (mc rfl g130)) ct) (q1 rfl (z0 (mv rfl)) (g1 rfl rfl (fun g131 => z0 (mv rfl)) ?_)))))))))))
  refine g1 rfl rfl (fun g132 => z61 (mc rfl g132) ct) (q1 rfl (z36 (mv rfl) (fun g133 => (mc rfl g133)) ct) (q1 rfl (z1 (mv rfl)) (rn (al [0] [] rfl rfl rfl (sq (z2.ret (AtX.ret' (bv ((((((((((y46.2 == 0) && y93) && (y51.2 == 0)) && ((y51.1.length : Int) == 1)) && ((y105.length : Int) == 0)) && y120) && (y56.2 == 0)) && (y56.1 == 0)) && (y57.2 == 0)) && (y57.1 == 1))) (zq.one Try.results9 rfl) [] [] trivial rfl ?_)))))))
  obtain rfl := Option.some.inj h
  exact ⟨rfl, rfl⟩
theorem zex {P : Program} (H : P = Try.prog) (φ : Nat) (v1 : Pool) (r : (Bool)) (h : z8y φ v1 = some r) : z0z P 27 [(agg (z2i v1))] (fun x news => x = (bv r) ∧ news = []) := by
 unfold z8y at h
 refine z0z.of_code' 65 (fn27 H) rfl rfl (Nat.le_of_ble_eq_true rfl) fun w0 base r0 wI => ?_
 refine cl [0] [] rfl rfl rfl (cs (cr [0, 1] rfl (n1 rfl (z7i (Ce.agg (mv rfl)) fun b2 => q1 rfl (z1 ct) (rn (al [1] [0] rfl rfl rfl (sq (cs (cs (cr [0, 1, 2, 3, 4, 5, 6, 7, 8, 9, 10, 11, 12, 13, 14, 15, 16, 17, 18, 19, 20, 21, 22, 23, 24, 25, 26, 27, 28, 29, 30, 31, 32, 33, 34, 35, 36, 37, 38, 39, 40, 41, 42, 43, 44] rfl (q1 rfl (z3 (zar H) (mv rfl)) ?_)))))))))))
 refine q1 rfl (z3 (zat H) (mv rfl)) (q1 rfl (lb (tl22 H) 0 (mv rfl) rfl rfl) (q1 rfl (z0x (il22 H) (mv rfl)) (q1 rfl (z49 (mv rfl) ct) (q1 rfl (z0 (mv rfl)) (g1 rfl rfl (fun g3 => z3 (zar H) (mv rfl)) (g1 rfl rfl (fun g4 => z3 (zfi H) (mc rfl g4)) (g1 rfl rfl (fun g5 => lb (tl23 H) 0 (mc rfl g5) rfl rfl) (g1 rfl rfl (fun g6 => z0x (il23 H) (mc rfl g6)) (g1 rfl rfl (fun g7 => z49 (mc rfl g7) ct) (q1 rfl (opOr (mv rfl) ct (fun g8 => (mc rfl g8))) (q1 rfl (z0 (mv rfl)) ?_)))))))))))
 refine g1 rfl rfl (fun g9 => z3 (zde H) (mv rfl)) (g1 rfl rfl (fun g10 => z3 (zcz H) (mc rfl g10)) (g1 rfl rfl (fun g11 => lb (tl27 H) 0 (mc rfl g11) rfl rfl) (g1 rfl rfl (fun g12 => z0x (il27 H) (mc rfl g12)) (g1 rfl rfl (fun g13 => z49 (mc rfl g13) ct) (q1 rfl (opOr (mv rfl) ct (fun g14 => (mc rfl g14))) (q1 rfl (z0 (mv rfl)) (g1 rfl rfl (fun g15 => z3 (zjx H) (mv rfl)) (g1 rfl rfl (fun g16 => lb (tl32 H) 0 (mc rfl g16) rfl rfl) (g1 rfl rfl (fun g17 => z0x (il32 H) (mc rfl g17)) (g1 rfl rfl (fun g18 => z49 (mc rfl g18) ct) (q1 rfl (opOr (mv rfl) ct (fun g19 => (mc rfl g19))) ?_)))))))))))
 refine q1 rfl (z0 (mv rfl)) (g1 rfl rfl (fun g20 => z3 (zde H) (mv rfl)) (g1 rfl rfl (fun g21 => z3 (zjj H) (mc rfl g21)) (g1 rfl rfl (fun g22 => lb (tl28 H) 0 (mc rfl g22) rfl rfl) (g1 rfl rfl (fun g23 => z0x (il28 H) (mc rfl g23)) (g1 rfl rfl (fun g24 => z49 (mc rfl g24) ct) (q1 rfl (opOr (mv rfl) ct (fun g25 => (mc rfl g25))) (q1 rfl (z0 (mv rfl)) (g1 rfl rfl (fun g26 => z3 (zde H) (mv rfl)) (g1 rfl rfl (fun g27 => z3 (zlj H) (mc rfl g27)) (g1 rfl rfl (fun g28 => lb (tl29 H) 0 (mc rfl g28) rfl rfl) (g1 rfl rfl (fun g29 => z0x (il29 H) (mc rfl g29)) ?_)))))))))))
 refine g1 rfl rfl (fun g30 => z49 (mc rfl g30) ct) (q1 rfl (opOr (mv rfl) ct (fun g31 => (mc rfl g31))) (q1 rfl (z0 (mv rfl)) (g1 rfl rfl (fun g32 => z3 (zcx H) (mv rfl)) (g1 rfl rfl (fun g33 => lb (tl34 H) 0 (mc rfl g33) rfl rfl) (g1 rfl rfl (fun g34 => z0x (il34 H) (mc rfl g34)) (g1 rfl rfl (fun g35 => z49 (mc rfl g35) ct) (q1 rfl (opOr (mv rfl) ct (fun g36 => (mc rfl g36))) (rn (al [1, 48] [0] rfl rfl rfl (sq ?_))))))))))
 refine cI h rfl (fun c37 h => ?_) (fun c37 h => ?_)
 ·
  refine cs (cr [0] rfl (q1 rfl (z1 ct) (rn (al [2] [] rfl rfl rfl (sq (z2.ret (AtX.then_ret (AtX.ret' (bv false) (zq.one Try.results27 rfl) [] [] trivial rfl ?_))))))))
  obtain rfl := Option.some.inj h
  exact ⟨rfl, rfl⟩
 ·
  refine z2.skip (al [1] [0] rfl rfl rfl (sq (cs (cs (cr [0] rfl (q1 rfl (z1 ct) (rn (al [1, 3] [0] rfl rfl rfl (sq ?_)))))))))
  refine z2.join (fun z : Unit => (z4t φ)) r (fun z => ⟨zd.of [], []⟩) (fun z h => ?_) (fun hJ38 => ?_)
  ·
   replace h : (z4t φ) = some r := h
   unfold z4t at h
   refine al [] [] rfl rfl rfl (sq (cs (cr [0] rfl (q1 rfl (z1 ct) (rn (al [2] [] rfl rfl rfl (sq (z2.ret (AtX.ret' (bv true) (zq.one Try.results27 rfl) [] [] trivial rfl ?_)))))))))
   obtain rfl := Option.some.inj h
   exact ⟨rfl, rfl⟩
  ·
   refine z2.block ?_
   refine z2.to (z2.loop (fun n (z : Int) => z3z φ v1 (z4t φ) n z) r (fun z => ⟨zd.of [(1, (eqv (.pointer (some ⟨b2, 0, none⟩)))), (3, (iv .i64 z))], [(box b2 36 (z2i v1))]⟩) (fun z => rfl) (fun n40 v39 ih40 h => ?_) φ 0 h) [0] (sl rfl) (ol rfl) rfl
   replace h : z3z φ v1 (z4t φ) (n40 + 1) v39 = some r := h
   rw [z3z] at h
   refine cs (cs (cr [0, 1, 2, 3, 4] rfl (q1 rfl (z0 (mv rfl)) (q1 rfl (z3 (zcx H) (mv rfl)) (q1 rfl (lb (tl34 H) 0 (mv rfl) rfl rfl) (q1 rfl (z0x (il34 H) (mv rfl)) (q1 rfl (z10 (mv rfl) (mv rfl)) (rn (al [1, 3, 53] [0] rfl rfl rfl (sq ?_))))))))))
   refine cI h rfl (fun c41 h => ?_) (fun c41 h => ?_)
   ·
    refine z2.skip (al [1, 3] [0] rfl rfl rfl (sq (cs (z2.block (cs (cr [0, 1, 2, 3, 4, 5, 6, 7, 8] rfl (q1 rfl (z3 (zcx H) (mv rfl)) (q1 rfl (lb (tl34 H) 0 (mv rfl) rfl rfl) (q1 rfl (z0 (mv rfl)) (ckE h fun h42 h => q1 rfl (zn (ix34 H) (mv rfl) (mv rfl) (h42).1 (z8 h42)) ?_))))))))))
    refine q1 rfl (z2a (zm6 H) (mv rfl) (cs' := (z72 (gt v1.fRailways v39).fCalendar)) 15 rfl) (q1 rfl (z2a (zh8 H) (mv rfl) (cs' := [(ro eI64 1 ((gt v1.fRailways v39).fCalendar.fHolidays))]) 1 rfl) (q1 rfl (lr (tl96 H) (mv rfl)) (q1 rfl (z0x (il96 H) (mv rfl)) (q1 rfl (z49 (mv rfl) ct) (rn (al [1, 3, 64] [0] rfl rfl rfl (sq ?_)))))))
    refine cI h rfl (fun c43 h => ?_) (fun c43 h => ?_)
    ·
     refine cs (cr [0] rfl (q1 rfl (z1 ct) (rn (al [2] [] rfl rfl rfl (sq (z2.ret (AtX.in_ret (AtX.then_ret (AtX.then_ret (AtX.in_ret (AtX.then_ret ?_)))))))))))
     refine AtX.ret' (bv false) (zq.one Try.results27 rfl) [] [] trivial rfl ?_
     obtain rfl := Option.some.inj h
     exact ⟨rfl, rfl⟩
    ·
     refine z2.skip (AtX.in_normal (al [1, 3] [0] rfl rfl rfl (sq (cr [0, 1, 2] rfl (q1 rfl (z0 (mv rfl)) (q1 rfl (z0g (mv rfl) ct) (q1 rfl (z1 (mv rfl)) (rn ?_))))))))
     exact AtX.to (ih40 (W (v39 + 1)) h) [0] (sl rfl) (ol rfl) rfl
   ·
    refine z2.exit (AtX.then_exit (AtX.then_exit (AtX.in_hit ?_)))
    exact AtX.to (hJ38 () h) [] trivial trivial rfl
theorem ze6 {P : Program} (H : P = Try.prog) (φ : Nat) (v1 : (List zo)) (v2 : Int) (r : (Bool)) (h : z7b φ v1 v2 = some r) : z0z P 28 [(ro zm 21 v1), (iv .i64 v2)] (fun x news => x = (bv r) ∧ news = []) := by
 unfold z7b at h
 refine z0z.of_code' 34 (fn28 H) rfl rfl (Nat.le_of_ble_eq_true rfl) fun w0 base r0 wI => ?_
 refine cl [0, 1] [] rfl rfl rfl (cs (cr [0] rfl (q1 rfl (z1 ct) (rn (al [0, 1] [] rfl rfl rfl (sq (cs (cs (cr [0, 1, 2, 3] rfl (q1 rfl (z0 (mv rfl)) (q1 rfl (z0x (il37 H) (mv rfl)) ?_)))))))))))
 refine q1 rfl (z0 (mv rfl)) (q1 rfl (z49 (mv rfl) (mv rfl)) (rn (al [0, 9] [] rfl rfl rfl (sq ?_))))
 refine cI h rfl (fun c3 h => ?_) (fun c3 h => ?_)
 ·
  refine cs (cr [0] rfl (q1 rfl (z1 ct) (rn (al [4] [] rfl rfl rfl (sq (z2.ret (AtX.then_ret (AtX.ret' (bv false) (zq.one Try.results28 rfl) [] [] trivial rfl ?_))))))))
  obtain rfl := Option.some.inj h
  exact ⟨rfl, rfl⟩
 ·
  refine z2.skip (al [0] [] rfl rfl rfl (sq (cs (cs (cr [0] rfl (q1 rfl (z1 ct) (rn (al [0, 5] [] rfl rfl rfl (sq ?_)))))))))
  refine z2.join (fun z : Unit => (z4s φ)) r (fun z => ⟨zd.of [], []⟩) (fun z h => ?_) (fun hJ4 => ?_)
  ·
   replace h : (z4s φ) = some r := h
   unfold z4s at h
   refine al [] [] rfl rfl rfl (sq (cs (cr [0] rfl (q1 rfl (z1 ct) (rn (al [4] [] rfl rfl rfl (sq (z2.ret (AtX.ret' (bv true) (zq.one Try.results28 rfl) [] [] trivial rfl ?_)))))))))
   obtain rfl := Option.some.inj h
   exact ⟨rfl, rfl⟩
  ·
   refine z2.block ?_
   refine z2.to (z2.loop (fun n (z : Int) => z42 φ v1 (z4s φ) n z) r (fun z => ⟨zd.of [(0, (ro zm 21 v1)), (5, (iv .i64 z))], []⟩) (fun z => rfl) (fun n6 v5 ih6 h => ?_) φ 0 h) [] (sl rfl) trivial rfl
   replace h : z42 φ v1 (z4s φ) (n6 + 1) v5 = some r := h
   rw [z42] at h
   refine cs (cs (cr [0, 1, 2, 3] rfl (q1 rfl (z0 (mv rfl)) (q1 rfl (z0 (mv rfl)) (q1 rfl (z0x (il37 H) (mv rfl)) (q1 rfl (z10 (mv rfl) (mv rfl)) (rn (al [0, 5, 13] [] rfl rfl rfl (sq ?_)))))))))
   refine cI h rfl (fun c7 h => ?_) (fun c7 h => ?_)
   ·
    refine z2.skip (al [0, 5] [] rfl rfl rfl (sq (cs (z2.block (cs (cr [0, 1, 2, 3, 4, 5, 6, 7, 8, 9, 10, 11, 12, 13, 14, 15, 16, 17] rfl (q1 rfl (z0 (mv rfl)) (q1 rfl (z0 (mv rfl)) (ckE h fun h8 h => q1 rfl (zn (ix37 H) (mv rfl) (mv rfl) (h8).1 (z8 h8)) (q1 rfl (z2a (z6x H) (mv rfl) (cs' := (zcm (gt v1 v5).fItem)) 16 rfl) ?_))))))))))
    refine q1 rfl (z2a (zps H) (mv rfl) (cs' := [(ro zbg 3 ((gt v1 v5).fItem.fParts))]) 1 rfl) (q1 rfl (lr (tl44 H) (mv rfl)) (q1 rfl (z0x (il44 H) (mv rfl)) (q1 rfl (z49 (mv rfl) ct) (q1 rfl (z0 (mv rfl)) (g1 rfl rfl (fun g9 => z0 (mv rfl)) (g1 rfl rfl (fun g10 => z0 (mv rfl)) (g1 rfl rfl (fun g11 => zn (ix37 H) (mc rfl g11) (mc rfl g11) (h8).1 (z8 h8)) (g1 rfl rfl (fun g12 => z2a (z6x H) (mc rfl g12) (cs' := (zcm (gt v1 v5).fItem)) 16 rfl) (g1 rfl rfl (fun g13 => z2a (zoi H) (mc rfl g13) (cs' := [(eqv (.string ((gt v1 v5).fItem.fText)))]) 1 rfl) (g1 rfl rfl (fun g14 => lr (tl9 H) (mc rfl g14)) (g1 rfl rfl (fun g15 => zwh (un9 H) (mc rfl g15)) ?_)))))))))))
    refine g1 rfl rfl (fun g16 => z49 (mc rfl g16) ct) (q1 rfl (opOr (mv rfl) ct (fun g17 => (mc rfl g17))) (rn (al [0, 5, 33] [] rfl rfl rfl (sq ?_))))
    refine cI h rfl (fun c18 h => ?_) (fun c18 h => ?_)
    ·
     refine cs (cr [0] rfl (q1 rfl (z1 ct) (rn (al [4] [] rfl rfl rfl (sq (z2.ret (AtX.in_ret (AtX.then_ret (AtX.then_ret (AtX.in_ret (AtX.then_ret ?_)))))))))))
     refine AtX.ret' (bv false) (zq.one Try.results28 rfl) [] [] trivial rfl ?_
     obtain rfl := Option.some.inj h
     exact ⟨rfl, rfl⟩
    ·
     refine z2.skip (AtX.in_normal (al [0, 5] [] rfl rfl rfl (sq (cr [0, 1, 2] rfl (q1 rfl (z0 (mv rfl)) (q1 rfl (z0g (mv rfl) ct) (q1 rfl (z1 (mv rfl)) (rn ?_))))))))
     exact AtX.to (ih6 (W (v5 + 1)) h) [] (sl rfl) trivial rfl
   ·
    refine z2.exit (AtX.then_exit (AtX.then_exit (AtX.in_hit ?_)))
    exact AtX.to (hJ4 () h) [] trivial trivial rfl
theorem zlf {P : Program} (H : P = Try.prog) (φ : Nat) (v1 : Pool) (v2 : (List zo)) (r : (Bool)) (h : zdg φ v1 v2 = some r) : z0z P 10 [(agg (z2i v1)), (ro zm 21 v2)] (fun x news => x = (bv r) ∧ news = []) := by
 unfold zdg at h
 refine z0z.of_code' 11 (fn10 H) rfl rfl (Nat.le_of_ble_eq_true rfl) fun w0 base r0 wI => ?_
 refine cl [0, 1] [] rfl rfl rfl (cs (cr [0, 1] rfl (n1 rfl (z7i (Ce.agg (mv rfl)) fun b3 => q1 rfl (z1 ct) (rn (al [1, 2] [0] rfl rfl rfl (sq (cs (cr [0, 1, 2, 3, 4, 5, 6] rfl (q1 rfl (ln (tl36 H) ((Pt.box 0 (mv rfl) rfl rfl).take 9 (cs' := (z2i v1)) rfl) rfl) (zp h fun y4 ey4 h => ?_)))))))))))
 refine q1 rfl (oQ (zum H) (zex H φ v1 _ ey4) z5 ⟨ef (mv rfl), trivial⟩) (q1 rfl (z0 (mv rfl)) (g1 rfl rfl (fun g5 => z0 (mv rfl)) (zp h fun y7 ey7 h => g1 rfl rfl (fun g6 => oQ (zvb H) (ze6 H φ v2 60 _ (zy ey7 g6)) z5 ⟨ef (mc rfl g6), ef ct, trivial⟩) (q1 rfl (z36 (mv rfl) (fun g8 => (mc rfl g8)) ct) (q1 rfl (z1 (mv rfl)) (rn (al [4] [] rfl rfl rfl (sq (z2.ret (AtX.ret' (bv (y4 && y7)) (zq.one Try.results10 rfl) [] [] trivial rfl ?_))))))))))
 obtain rfl := Option.some.inj h
 exact ⟨rfl, rfl⟩
theorem zez {P : Program} (H : P = Try.prog) (φ : Nat) (v1 : (List zo)) (r : (Bool)) (h : z8q φ v1 = some r) : z0z P 11 [(ro zm 21 v1)] (fun x news => x = (bv r) ∧ news = []) := by
 unfold z8q at h
 refine z0z.of_code' 27 (fn11 H) rfl rfl (Nat.le_of_ble_eq_true rfl) fun w0 base r0 wI => ?_
 refine cl [0] [] rfl rfl rfl (cs (cr [0] rfl (q1 rfl (z1 ct) (rn (al [0] [] rfl rfl rfl (sq (cs (cs (cr [0] rfl (q1 rfl (z1 ct) (rn ?_)))))))))))
 refine al [0, 3] [] rfl rfl rfl (sq ?_)
 refine z2.join (fun z : Unit => (z2s φ)) r (fun z => ⟨zd.of [], []⟩) (fun z h => ?_) (fun hJ2 => ?_)
 ·
  replace h : (z2s φ) = some r := h
  unfold z2s at h
  refine al [] [] rfl rfl rfl (sq (cs (cr [0] rfl (q1 rfl (z1 ct) (rn (al [2] [] rfl rfl rfl (sq (z2.ret (AtX.ret' (bv true) (zq.one Try.results11 rfl) [] [] trivial rfl ?_)))))))))
  obtain rfl := Option.some.inj h
  exact ⟨rfl, rfl⟩
 ·
  refine z2.block ?_
  refine z2.to (z2.loop (fun n (z : Int) => z2j φ v1 (z2s φ) n z) r (fun z => ⟨zd.of [(0, (ro zm 21 v1)), (3, (iv .i64 z))], []⟩) (fun z => rfl) (fun n4 v3 ih4 h => ?_) φ 0 h) [] (sl rfl) trivial rfl
  replace h : z2j φ v1 (z2s φ) (n4 + 1) v3 = some r := h
  rw [z2j] at h
  refine cs (cs (cr [0, 1, 2, 3] rfl (q1 rfl (z0 (mv rfl)) (q1 rfl (z0 (mv rfl)) (q1 rfl (z0x (il37 H) (mv rfl)) (q1 rfl (z10 (mv rfl) (mv rfl)) (rn (al [0, 3, 8] [] rfl rfl rfl (sq ?_)))))))))
  refine cI h rfl (fun c5 h => ?_) (fun c5 h => ?_)
  ·
   refine z2.skip (al [0, 3] [] rfl rfl rfl (sq (cs ?_)))
   refine z2.join (fun z : Unit => (z4d φ v3 (z2j φ v1 (z2s φ) n4))) r (fun z => ⟨zd.of [(0, (ro zm 21 v1)), (3, (iv .i64 v3))], []⟩) (fun z h => ?_) (fun hJ6 => ?_)
   ·
    replace h : (z4d φ v3 (z2j φ v1 (z2s φ) n4)) = some r := h
    unfold z4d at h
    refine al [0, 3] [] rfl rfl rfl (sq (cr [0, 1, 2] rfl (q1 rfl (z0 (mv rfl)) (q1 rfl (z0g (mv rfl) ct) (q1 rfl (z1 (mv rfl)) (rn ?_))))))
    exact AtX.to (ih4 (W (v3 + 1)) h) [] (sl rfl) trivial rfl
   ·
    refine z2.block (cs (cr [0] rfl (q1 rfl (z1 ct) (rn (al [0, 3, 4] [] rfl rfl rfl (sq (z2.block ?_)))))))
    refine z2.to (z2.loop (fun n (z : Int) => z4f φ v1 v3 (z4d φ v3 (z2j φ v1 (z2s φ) n4)) n z) r (fun z => ⟨zd.of [(0, (ro zm 21 v1)), (3, (iv .i64 v3)), (4, (iv .i64 z))], []⟩) (fun z => rfl) (fun n8 v7 ih8 h => ?_) φ 0 h) [] (sl rfl) trivial rfl
    replace h : z4f φ v1 v3 (z4d φ v3 (z2j φ v1 (z2s φ) n4)) (n8 + 1) v7 = some r := h
    rw [z4f] at h
    refine cs (cs (cr [0, 1, 2] rfl (q1 rfl (z0 (mv rfl)) (q1 rfl (z0 (mv rfl)) (q1 rfl (z10 (mv rfl) (mv rfl)) (rn (al [0, 3, 4, 13] [] rfl rfl rfl (sq ?_))))))))
    refine cI h rfl (fun c9 h => ?_) (fun c9 h => ?_)
    ·
     refine z2.skip (al [0, 3, 4] [] rfl rfl rfl (sq (cs (z2.block (cs (ckE h fun h10 h => ckE h fun h11 h => z2.draw (QR := [(0, _), (1, _), (2, _), (3, _), (4, _), (5, _), (6, _), (7, _), (8, _), (9, _), (10, _)]) (tab := [(some 16, []), (some 17, []), (some 18, [0, 1]), (some 19, [2]), (some 20, [3]), (some 21, []), (some 22, []), (some 23, [5, 6]), (some 24, [7]), (some 25, [8]), (some 26, [4, 9])]) (z5h H) (Reg.intro [] [] (by kernel_rfl) rfl (an rfl) ⟨(qr rfl (z0 (mv rfl))), (qr rfl (z0 (mv rfl))), (qr rfl (zn (ix37 H) (mv rfl) (mv rfl) (h10).1 (z8 h10))), (qr rfl (z2a (z9x H) (mv rfl) (cs' := (eRef (gt v1 v3).fRef)) 2 rfl)), (qr rfl (ln (tl43 H) (Pt.rop (mv rfl)) rfl)), (qr rfl (z0 (mv rfl))), (qr rfl (z0 (mv rfl))), (qr rfl (zn (ix37 H) (mv rfl) (mv rfl) (h11).1 (z8 h11))), (qr rfl (z2a (z9x H) (mv rfl) (cs' := (eRef (gt v1 v7).fRef)) 2 rfl)), (qr rfl (ln (tl43 H) (Pt.rop (mv rfl)) rfl)), (qr rfl (zt0 [(.int .i64 ((gt v1 v3).fRef.fRailway)), (.int .i64 ((gt v1 v3).fRef.fNo))] [(.int .i64 ((gt v1 v7).fRef.fRailway)), (.int .i64 ((gt v1 v7).fRef.fNo))] (mv rfl) (mv rfl) rfl rfl (eg43 H) (fun w => znp H w ((gt v1 v3).fRef) ((gt v1 v7).fRef)))), trivial⟩ trivial (fun _ => al [0, 3, 4, 26] [] rfl rfl rfl (sq ?_)))))))))
     refine cI h rfl (fun c12 h => ?_) (fun c12 h => ?_)
     ·
      refine cs (cr [0] rfl (q1 rfl (z1 ct) (rn (al [2] [] rfl rfl rfl (sq (z2.ret (AtX.in_ret (AtX.then_ret (AtX.then_ret (AtX.in_ret (AtX.in_ret ?_)))))))))))
      refine AtX.then_ret (AtX.then_ret (AtX.in_ret (AtX.then_ret (AtX.ret' (bv false) (zq.one Try.results11 rfl) [] [] trivial rfl ?_))))
      obtain rfl := Option.some.inj h
      exact ⟨rfl, rfl⟩
     ·
      refine z2.skip (AtX.in_normal (al [0, 3, 4] [] rfl rfl rfl (sq (cr [0, 1, 2] rfl (q1 rfl (z0 (mv rfl)) (q1 rfl (z0g (mv rfl) ct) (q1 rfl (z1 (mv rfl)) (rn ?_))))))))
      exact AtX.to (ih8 (W (v7 + 1)) h) [] (sl rfl) trivial rfl
    ·
     refine z2.exit (AtX.then_exit (AtX.then_exit (AtX.in_hit (AtX.in_normal ?_))))
     exact AtX.to (hJ6 () h) [] (sl rfl) trivial rfl
  ·
   refine z2.exit (AtX.then_exit (AtX.then_exit (AtX.in_hit ?_)))
   exact AtX.to (hJ2 () h) [] trivial trivial rfl
theorem z5j {P : Program} (H : P = Try.prog) (φ : Nat) (v1 : Int) (v2 : Int) (v3 : Int) (r : (Bool)) (h : z5a φ v1 v2 v3 = some r) : z0z P 82 [(iv .i64 v1), (iv .i64 v2), (iv .i64 v3)] (fun x news => x = (bv r) ∧ news = []) := by
 unfold z5a at h
 refine z0z.of_code' 15 (fn82 H) rfl rfl (Nat.le_of_ble_eq_true rfl) fun w0 base r0 wI => ?_
 refine cl [0, 1, 2] [] rfl rfl rfl (cs (cr [0] rfl (q1 rfl (z1 ct) (rn (al [0, 1, 2] [] rfl rfl rfl (sq (cs (cr [0, 1, 2, 3, 4, 5, 6, 7, 8] rfl (q1 rfl (z0 (mv rfl)) (q1 rfl (z0 (mv rfl)) (q1 rfl (zc4 (mv rfl) (mv rfl)) ?_)))))))))))
 refine q1 rfl (z0 (mv rfl)) (g1 rfl rfl (fun g4 => z0 (mv rfl)) (g1 rfl rfl (fun g5 => z0 (mv rfl)) (g1 rfl rfl (fun g6 => zc4 (mc rfl g6) (mc rfl g6)) (q1 rfl (z36 (mv rfl) (fun g7 => (mc rfl g7)) ct) (q1 rfl (z1 (mv rfl)) (rn (al [6] [] rfl rfl rfl (sq (z2.ret (AtX.ret' (bv (decide (v2 ≤ v1) && decide (v1 ≤ v3))) (zq.one Try.results82 rfl) [] [] trivial rfl ?_))))))))))
 obtain rfl := Option.some.inj h
 exact ⟨rfl, rfl⟩
theorem zj3 {P : Program} (H : P = Try.prog) (φ : Nat) (v1 : z8g) (r : (Bool)) (h : zba φ v1 = some r) : z0z P 64 [(agg (z4m v1))] (fun x news => x = (bv r) ∧ news = []) := by
 unfold zba at h
 refine z0z.of_code' 29 (fn64 H) rfl rfl (Nat.le_of_ble_eq_true rfl) fun w0 base r0 wI => ?_
 refine cl [0] [] rfl rfl rfl (cs (cr [0, 1] rfl (n1 rfl (z7i (Ce.agg (mv rfl)) fun b2 => q1 rfl (z1 ct) (rn (al [1] [0] rfl rfl rfl (sq (cs (cs (cr [0, 1, 2, 3, 4, 5, 6, 7, 8, 9] rfl (q1 rfl (z3 (zf7 H) (mv rfl)) ?_)))))))))))
 refine q1 rfl (lb (tl3 H) 0 (mv rfl) rfl rfl) (zp h fun y3 ey3 h => q1 rfl (oQ (zgh H) (z5j H φ v1.fKind 1 5 _ ey3) z5 ⟨ef (mv rfl), ef ct, ef ct, trivial⟩) (q1 rfl (z79 (mv rfl)) (q1 rfl (z0 (mv rfl)) (g1 rfl rfl (fun g4 => z3 (zd6 H) (mv rfl)) (g1 rfl rfl (fun g5 => lb (tl3 H) 0 (mc rfl g5) rfl rfl) (zp h fun y7 ey7 h => g1 rfl rfl (fun g6 => oQ (zgh H) (z5j H φ v1.fRailway 0 15 _ (zy ey7 g6)) z5 ⟨ef (mc rfl g6), ef ct, ef ct, trivial⟩) (g1 rfl rfl (fun g8 => z79 (mc rfl g8)) (q1 rfl (opOr (mv rfl) ct (fun g9 => (mc rfl g9))) (rn ?_)))))))))
 refine al [1, 12] [0] rfl rfl rfl (sq ?_)
 refine cI h rfl (fun c10 h => ?_) (fun c10 h => ?_)
 ·
  refine cs (cr [0] rfl (q1 rfl (z1 ct) (rn (al [2] [] rfl rfl rfl (sq (z2.ret (AtX.then_ret (AtX.ret' (bv false) (zq.one Try.results64 rfl) [] [] trivial rfl ?_))))))))
  obtain rfl := Option.some.inj h
  exact ⟨rfl, rfl⟩
 ·
  refine z2.skip (al [1] [0] rfl rfl rfl (sq (cs (cs (cr [0, 1, 2] rfl (q1 rfl (z3 (zf7 H) (mv rfl)) (q1 rfl (lb (tl3 H) 0 (mv rfl) rfl rfl) (q1 rfl (z61 (mv rfl) ct) (rn (al [1, 15] [0] rfl rfl rfl (sq ?_)))))))))))
  refine cI h rfl (fun c11 h => ?_) (fun c11 h => ?_)
  ·
   refine cs (cr [0, 1, 2, 3, 4, 5, 6, 7, 8, 9, 10] rfl (q1 rfl (z3 (zd0 H) (mv rfl)) (q1 rfl (lb (tl3 H) 0 (mv rfl) rfl rfl) (zp h fun y12 ey12 h => q1 rfl (oQ (zgh H) (z5j H φ v1.fOther 0 15 _ ey12) z5 ⟨ef (mv rfl), ef ct, ef ct, trivial⟩) (q1 rfl (z0 (mv rfl)) (g1 rfl rfl (fun g13 => z3 (zd0 H) (mv rfl)) (g1 rfl rfl (fun g14 => lb (tl3 H) 0 (mc rfl g14) rfl rfl) (g1 rfl rfl (fun g15 => z3 (zd6 H) (mv rfl)) (g1 rfl rfl (fun g16 => lb (tl3 H) 0 (mc rfl g16) rfl rfl) (g1 rfl rfl (fun g17 => z6g (mc rfl g17) (mc rfl g17)) ?_))))))))))
   refine q1 rfl (z36 (mv rfl) (fun g18 => (mc rfl g18)) ct) (q1 rfl (z1 (mv rfl)) (rn (al [2] [] rfl rfl rfl (sq (z2.ret (AtX.then_ret (AtX.ret' (bv (y12 && (v1.fOther != v1.fRailway))) (zq.one Try.results64 rfl) [] [] trivial rfl ?_)))))))
   obtain rfl := Option.some.inj h
   exact ⟨rfl, rfl⟩
  ·
   refine z2.skip (al [1] [0] rfl rfl rfl (sq (cs (cr [0, 1, 2, 3] rfl (q1 rfl (z3 (zd0 H) (mv rfl)) (q1 rfl (lb (tl3 H) 0 (mv rfl) rfl rfl) (q1 rfl (z61 (mv rfl) ct) (q1 rfl (z1 (mv rfl)) (rn (al [2] [] rfl rfl rfl (sq ?_)))))))))))
   refine z2.ret (AtX.ret' (bv (v1.fOther == (-1))) (zq.one Try.results64 rfl) [] [] trivial rfl ?_)
   obtain rfl := Option.some.inj h
   exact ⟨rfl, rfl⟩
theorem zk6 {P : Program} (H : P = Try.prog) (φ : Nat) (v1 : Edge) (v2 : Int) (r : (Bool)) (h : zc5 φ v1 v2 = some r) : z0z P 65 [(agg (zbr v1)), (iv .i64 v2)] (fun x news => x = (bv r) ∧ news = []) := by
 unfold zc5 at h
 refine z0z.of_code' 39 (fn65 H) rfl rfl (Nat.le_of_ble_eq_true rfl) fun w0 base r0 wI => ?_
 refine cl [0, 1] [] rfl rfl rfl (cs (cr [0, 1] rfl (n1 rfl (z7i (Ce.agg (mv rfl)) fun b3 => q1 rfl (z1 ct) (rn (al [1, 2] [0] rfl rfl rfl (sq (cs (cr [0, 1, 2, 3, 4, 5, 6, 7, 8, 9, 10, 11, 12, 13, 14, 15, 16, 17, 18, 19, 20, 21, 22, 23, 24, 25, 26, 27, 28, 29, 30, 31, 32, 33, 34] rfl (q1 rfl (z3 (zhd H) (mv rfl)) (q1 rfl (lb (tl3 H) 0 (mv rfl) rfl rfl) ?_)))))))))))
 refine q1 rfl (z0 (mv rfl)) (q1 rfl (z2f (mv rfl) ct) (zp h fun y4 ey4 h => q1 rfl (oQ (zgh H) (z5j H φ v1.fA 0 (W (v2 - 1)) _ ey4) z5 ⟨ef (mv rfl), ef ct, ef (mv rfl), trivial⟩) (q1 rfl (z0 (mv rfl)) (g1 rfl rfl (fun g5 => z3 (zhb H) (mv rfl)) (g1 rfl rfl (fun g6 => lb (tl3 H) 0 (mc rfl g6) rfl rfl) (g1 rfl rfl (fun g7 => z0 (mv rfl)) (g1 rfl rfl (fun g8 => z2f (mc rfl g8) ct) (zp h fun y10 ey10 h => g1 rfl rfl (fun g9 => oQ (zgh H) (z5j H φ v1.fB 0 (W (v2 - 1)) _ (zy ey10 g9)) z5 ⟨ef (mc rfl g9), ef ct, ef (mc rfl g9), trivial⟩) (q1 rfl (z36 (mv rfl) (fun g11 => (mc rfl g11)) ct) ?_)))))))))
 refine q1 rfl (z0 (mv rfl)) (g1 rfl rfl (fun g12 => z3 (zhd H) (mv rfl)) (g1 rfl rfl (fun g13 => lb (tl3 H) 0 (mc rfl g13) rfl rfl) (g1 rfl rfl (fun g14 => z3 (zhb H) (mv rfl)) (g1 rfl rfl (fun g15 => lb (tl3 H) 0 (mc rfl g15) rfl rfl) (g1 rfl rfl (fun g16 => z6g (mc rfl g16) (mc rfl g16)) (q1 rfl (z36 (mv rfl) (fun g17 => (mc rfl g17)) ct) (q1 rfl (z0 (mv rfl)) (g1 rfl rfl (fun g18 => z3 (zhf H) (mv rfl)) (g1 rfl rfl (fun g19 => lb (tl3 H) 0 (mc rfl g19) rfl rfl) (zp h fun y21 ey21 h => g1 rfl rfl (fun g20 => oQ (zgh H) (z5j H φ v1.fRailway 0 15 _ (zy ey21 g20)) z5 ⟨ef (mc rfl g20), ef ct, ef ct, trivial⟩) ?_))))))))))
 refine q1 rfl (z36 (mv rfl) (fun g22 => (mc rfl g22)) ct) (q1 rfl (z0 (mv rfl)) (g1 rfl rfl (fun g23 => z3 (zm5 H) (mv rfl)) (g1 rfl rfl (fun g24 => lb (tl3 H) 0 (mc rfl g24) rfl rfl) (zp h fun y26 ey26 h => g1 rfl rfl (fun g25 => oQ (zgh H) (z5j H φ v1.fMinutes 1 100000 _ (zy ey26 g25)) z5 ⟨ef (mc rfl g25), ef ct, ef ct, trivial⟩) (q1 rfl (z36 (mv rfl) (fun g27 => (mc rfl g27)) ct) (q1 rfl (z0 (mv rfl)) (g1 rfl rfl (fun g28 => z3 (zm2 H) (mv rfl)) (g1 rfl rfl (fun g29 => lb (tl3 H) 0 (mc rfl g29) rfl rfl) (zp h fun y31 ey31 h => g1 rfl rfl (fun g30 => oQ (zgh H) (z5j H φ v1.fKm 0 10000 _ (zy ey31 g30)) z5 ⟨ef (mc rfl g30), ef ct, ef ct, trivial⟩) ?_)))))))))
 refine q1 rfl (z36 (mv rfl) (fun g32 => (mc rfl g32)) ct) (q1 rfl (z1 (mv rfl)) (rn (al [4] [] rfl rfl rfl (sq (z2.ret (AtX.ret' (bv (((((y4 && y10) && (v1.fA != v1.fB)) && y21) && y26) && y31)) (zq.one Try.results65 rfl) [] [] trivial rfl ?_))))))
 obtain rfl := Option.some.inj h
 exact ⟨rfl, rfl⟩
theorem ziq {P : Program} (H : P = Try.prog) (φ : Nat) (v1 : z7s) (r : (Int)) (h : zbh φ v1 = some r) : z0z P 41 [(agg (zam v1))] (fun x news => x = (iv .i64 r) ∧ news = []) := by
 unfold zbh at h
 refine z0z.of_code' 46 (fn41 H) rfl rfl (Nat.le_of_ble_eq_true rfl) fun w0 base r0 wI => ?_
 refine cl [0] [] rfl rfl rfl (cs (cr [0, 1] rfl (n1 rfl (z7i (Ce.agg (mv rfl)) fun b2 => q1 rfl (z1 ct) (rn (al [1] [0] rfl rfl rfl (sq (cs (cs (cr [0, 1, 2, 3, 4, 5, 6, 7, 8, 9] rfl (q1 rfl (z3 (zat H) (mv rfl)) ?_)))))))))))
 refine q1 rfl (lb (tl22 H) 0 (mv rfl) rfl rfl) (q1 rfl (z0x (il22 H) (mv rfl)) (q1 rfl (z49 (mv rfl) ct) (q1 rfl (z0 (mv rfl)) (g1 rfl rfl (fun g3 => z3 (zfi H) (mv rfl)) (g1 rfl rfl (fun g4 => lb (tl23 H) 0 (mc rfl g4) rfl rfl) (g1 rfl rfl (fun g5 => z0x (il23 H) (mc rfl g5)) (g1 rfl rfl (fun g6 => z49 (mc rfl g6) ct) (q1 rfl (opOr (mv rfl) ct (fun g7 => (mc rfl g7))) (rn (al [1, 14] [0] rfl rfl rfl (sq ?_)))))))))))
 refine cI h rfl (fun c8 h => ?_) (fun c8 h => ?_)
 ·
  refine cs (cr [0] rfl (q1 rfl (z1 ct) (rn (al [2] [] rfl rfl rfl (sq (z2.ret (AtX.then_ret (AtX.ret' (iv .i64 2) (zq.one Try.results41 rfl) [] [] trivial rfl ?_))))))))
  obtain rfl := Option.some.inj h
  exact ⟨rfl, rfl⟩
 ·
  refine z2.skip (al [1] [0] rfl rfl rfl (sq (cs (cs (cr [0] rfl (q1 rfl (z1 ct) (rn (al [1, 3] [0] rfl rfl rfl (sq ?_)))))))))
  refine z2.join (fun z : Unit => (z5z φ v1)) r (fun z => ⟨zd.of [(1, (eqv (.pointer (some ⟨b2, 0, none⟩))))], [(box b2 25 (zam v1))]⟩) (fun z h => ?_) (fun hJ9 => ?_)
  ·
   replace h : (z5z φ v1) = some r := h
   unfold z5z at h
   refine al [1] [0] rfl rfl rfl (sq (cs (cs (cr [0] rfl (q1 rfl (z1 ct) (rn (al [1, 4] [0] rfl rfl rfl (sq ?_))))))))
   refine z2.join (fun z : Unit => (z6b φ)) r (fun z => ⟨zd.of [], []⟩) (fun z h => ?_) (fun hJ10 => ?_)
   ·
    replace h : (z6b φ) = some r := h
    unfold z6b at h
    refine al [] [] rfl rfl rfl (sq (cs (cr [0] rfl (q1 rfl (z1 ct) (rn (al [2] [] rfl rfl rfl (sq (z2.ret (AtX.ret' (iv .i64 0) (zq.one Try.results41 rfl) [] [] trivial rfl ?_)))))))))
    obtain rfl := Option.some.inj h
    exact ⟨rfl, rfl⟩
   ·
    refine z2.block ?_
    refine z2.to (z2.loop (fun n (z : Int) => z65 φ v1 (z6b φ) n z) r (fun z => ⟨zd.of [(1, (eqv (.pointer (some ⟨b2, 0, none⟩)))), (4, (iv .i64 z))], [(box b2 25 (zam v1))]⟩) (fun z => rfl) (fun n12 v11 ih12 h => ?_) φ 0 h) [0] (sl rfl) (ol rfl) rfl
    replace h : z65 φ v1 (z6b φ) (n12 + 1) v11 = some r := h
    rw [z65] at h
    refine cs (cs (cr [0, 1, 2, 3, 4] rfl (q1 rfl (z0 (mv rfl)) (q1 rfl (z3 (zfi H) (mv rfl)) (q1 rfl (lb (tl23 H) 0 (mv rfl) rfl rfl) (q1 rfl (z0x (il23 H) (mv rfl)) (q1 rfl (z10 (mv rfl) (mv rfl)) (rn (al [1, 4, 33] [0] rfl rfl rfl (sq ?_))))))))))
    refine cI h rfl (fun c13 h => ?_) (fun c13 h => ?_)
    ·
     refine z2.skip (al [1, 4] [0] rfl rfl rfl (sq (cs (z2.block (cs (ckE h fun h14 h => zp h fun y15 ey15 h => z2.draw (QR := [(0, _), (1, _), (2, _), (3, _), (4, _), (5, _), (6, _), (7, _), (8, _), (9, _)]) (tab := [(some 36, []), (some 37, [0]), (some 38, []), (some 39, [1, 2]), (some 40, [3]), (some 41, []), (some 42, [5]), (some 43, [6]), (some 44, [4, 7]), (some 45, [8])]) (z5h H) (Reg.intro [] [] (by kernel_rfl) rfl (an rfl) ⟨(qr rfl (z3 (zfi H) (mv rfl))), (qr rfl (lb (tl23 H) 0 (mv rfl) rfl rfl)), (qr rfl (z0 (mv rfl))), (qr rfl (zn (ix23 H) (mv rfl) (mv rfl) (h14).1 (z8 h14))), (qr rfl (ln (zp1 H) (Pt.rop (mv rfl)) rfl)), (qr rfl (z3 (zat H) (mv rfl))), (qr rfl (lb (tl22 H) 0 (mv rfl) rfl rfl)), (qr rfl (z0x (il22 H) (mv rfl))), (qr rfl (oQ (zup H) (zk6 H φ (gt v1.fEdges v11) (v1.fPlaces.length : Int) _ ey15) z5 ⟨ef (mv rfl), ef (mv rfl), trivial⟩)), (qr rfl (z79 (mv rfl))), trivial⟩ trivial (fun _ => al [1, 4, 45] [0] rfl rfl rfl (sq ?_)))))))))
     refine cI h rfl (fun c16 h => ?_) (fun c16 h => ?_)
     ·
      refine cs (cr [0] rfl (q1 rfl (z1 ct) (rn (al [2] [] rfl rfl rfl (sq (z2.ret (AtX.in_ret (AtX.then_ret (AtX.then_ret (AtX.in_ret (AtX.then_ret ?_)))))))))))
      refine AtX.ret' (iv .i64 1) (zq.one Try.results41 rfl) [] [] trivial rfl ?_
      obtain rfl := Option.some.inj h
      exact ⟨rfl, rfl⟩
     ·
      refine z2.skip (AtX.in_normal (al [1, 4] [0] rfl rfl rfl (sq (cr [0, 1, 2] rfl (q1 rfl (z0 (mv rfl)) (q1 rfl (z0g (mv rfl) ct) (q1 rfl (z1 (mv rfl)) (rn ?_))))))))
      exact AtX.to (ih12 (W (v11 + 1)) h) [0] (sl rfl) (ol rfl) rfl
    ·
     refine z2.exit (AtX.then_exit (AtX.then_exit (AtX.in_hit ?_)))
     exact AtX.to (hJ10 () h) [] trivial trivial rfl
  ·
   refine z2.block ?_
   refine z2.to (z2.loop (fun n (z : Int) => z6a φ v1 (z5z φ v1) n z) r (fun z => ⟨zd.of [(1, (eqv (.pointer (some ⟨b2, 0, none⟩)))), (3, (iv .i64 z))], [(box b2 25 (zam v1))]⟩) (fun z => rfl) (fun n18 v17 ih18 h => ?_) φ 0 h) [0] (sl rfl) (ol rfl) rfl
   replace h : z6a φ v1 (z5z φ v1) (n18 + 1) v17 = some r := h
   rw [z6a] at h
   refine cs (cs (cr [0, 1, 2, 3, 4] rfl (q1 rfl (z0 (mv rfl)) (q1 rfl (z3 (zat H) (mv rfl)) (q1 rfl (lb (tl22 H) 0 (mv rfl) rfl rfl) (q1 rfl (z0x (il22 H) (mv rfl)) (q1 rfl (z10 (mv rfl) (mv rfl)) (rn (al [1, 3, 19] [0] rfl rfl rfl (sq ?_))))))))))
   refine cI h rfl (fun c19 h => ?_) (fun c19 h => ?_)
   ·
    refine z2.skip (al [1, 3] [0] rfl rfl rfl (sq (cs (z2.block (cs (cr [0, 1, 2, 3, 4, 5, 6] rfl (q1 rfl (z3 (zat H) (mv rfl)) (q1 rfl (lb (tl22 H) 0 (mv rfl) rfl rfl) (q1 rfl (z0 (mv rfl)) (ckE h fun h20 h => q1 rfl (zn (ix22 H) (mv rfl) (mv rfl) (h20).1 (z8 h20)) ?_))))))))))
    refine q1 rfl (ln (tl68 H) (Pt.rop (mv rfl)) rfl) (zp h fun y21 ey21 h => q1 rfl (oQ (zwa H) (zj3 H φ (gt v1.fPlaces v17) _ ey21) z5 ⟨ef (mv rfl), trivial⟩) (q1 rfl (z79 (mv rfl)) (rn (al [1, 3, 28] [0] rfl rfl rfl (sq ?_)))))
    refine cI h rfl (fun c22 h => ?_) (fun c22 h => ?_)
    ·
     refine cs (cr [0] rfl (q1 rfl (z1 ct) (rn (al [2] [] rfl rfl rfl (sq (z2.ret (AtX.in_ret (AtX.then_ret (AtX.then_ret (AtX.in_ret (AtX.then_ret ?_)))))))))))
     refine AtX.ret' (iv .i64 1) (zq.one Try.results41 rfl) [] [] trivial rfl ?_
     obtain rfl := Option.some.inj h
     exact ⟨rfl, rfl⟩
    ·
     refine z2.skip (AtX.in_normal (al [1, 3] [0] rfl rfl rfl (sq (cr [0, 1, 2] rfl (q1 rfl (z0 (mv rfl)) (q1 rfl (z0g (mv rfl) ct) (q1 rfl (z1 (mv rfl)) (rn ?_))))))))
     exact AtX.to (ih18 (W (v17 + 1)) h) [0] (sl rfl) (ol rfl) rfl
   ·
    refine z2.exit (AtX.then_exit (AtX.then_exit (AtX.in_hit ?_)))
    exact AtX.to (hJ9 () h) [0] (sl rfl) (ol rfl) rfl
theorem z1e {P : Program} (H : P = Try.prog) (φ : Nat) (v1 : Int) (v2 : Int) (v3 : Int) (r : (Bool)) (h : z2c φ v1 v2 v3 = some r) : z0z P 68 [(iv .i64 v1), (iv .i64 v2), (iv .i64 v3)] (fun x news => x = (bv r) ∧ news = []) := by
 unfold z2c at h
 refine z0z.of_code' 15 (fn68 H) rfl rfl (Nat.le_of_ble_eq_true rfl) fun w0 base r0 wI => ?_
 refine cl [0, 1, 2] [] rfl rfl rfl (cs (cr [0] rfl (q1 rfl (z1 ct) (rn (al [0, 1, 2] [] rfl rfl rfl (sq (cs (cr [0, 1, 2, 3, 4, 5, 6, 7, 8] rfl (q1 rfl (z0 (mv rfl)) (q1 rfl (z0 (mv rfl)) (q1 rfl (z9l (mv rfl) (mv rfl)) ?_)))))))))))
 refine q1 rfl (z0 (mv rfl)) (g1 rfl rfl (fun g4 => z0 (mv rfl)) (g1 rfl rfl (fun g5 => z0 (mv rfl)) (g1 rfl rfl (fun g6 => zc4 (mc rfl g6) (mc rfl g6)) (q1 rfl (z36 (mv rfl) (fun g7 => (mc rfl g7)) ct) (q1 rfl (z1 (mv rfl)) (rn (al [6] [] rfl rfl rfl (sq (z2.ret (AtX.ret' (bv (decide (v2 ≤ v1) && decide (v1 ≤ v3))) (zq.one Try.results68 rfl) [] [] trivial rfl ?_))))))))))
 obtain rfl := Option.some.inj h
 exact ⟨rfl, rfl⟩
theorem zeu {P : Program} (H : P = Try.prog) (φ : Nat) (v1 : z6c) (r : (Bool)) (h : za4 φ v1 = some r) : z0z P 66 [(agg (z1a v1))] (fun x news => x = (bv r) ∧ news = []) := by
 unfold za4 at h
 refine z0z.of_code' 36 (fn66 H) rfl rfl (Nat.le_of_ble_eq_true rfl) fun w0 base r0 wI => ?_
 refine cl [0] [] rfl rfl rfl (cs (cr [0, 1] rfl (n1 rfl (z7i (Ce.agg (mv rfl)) fun b2 => q1 rfl (z1 ct) (rn (al [1] [0] rfl rfl rfl (sq (cs (cr [0, 1, 2, 3, 4, 5, 6, 7, 8, 9, 10, 11, 12, 13, 14, 15, 16, 17, 18, 19, 20, 21, 22, 23, 24, 25, 26, 27, 28, 29, 30, 31, 32, 33] rfl (q1 rfl (z3 (zpv H) (mv rfl)) (q1 rfl (lb (tl3 H) 0 (mv rfl) rfl rfl) ?_)))))))))))
 refine zp h fun y3 ey3 h => q1 rfl (oQ (z9q H) (z1e H φ v1.fLoad 0 1000000 _ ey3) z5 ⟨ef (mv rfl), ef ct, ef ct, trivial⟩) (q1 rfl (z0 (mv rfl)) (g1 rfl rfl (fun g4 => z3 (zox H) (mv rfl)) (g1 rfl rfl (fun g5 => lb (tl3 H) 0 (mc rfl g5) rfl rfl) (zp h fun y7 ey7 h => g1 rfl rfl (fun g6 => oQ (z9q H) (z1e H φ v1.fTare 0 1000000 _ (zy ey7 g6)) z5 ⟨ef (mc rfl g6), ef ct, ef ct, trivial⟩) (q1 rfl (z36 (mv rfl) (fun g8 => (mc rfl g8)) ct) (q1 rfl (z0 (mv rfl)) (g1 rfl rfl (fun g9 => z3 (zp5 H) (mv rfl)) (g1 rfl rfl (fun g10 => lb (tl3 H) 0 (mc rfl g10) rfl rfl) (zp h fun y12 ey12 h => ?_)))))))))
 refine g1 rfl rfl (fun g11 => oQ (z9q H) (z1e H φ v1.fLength 0 1000000 _ (zy ey12 g11)) z5 ⟨ef (mc rfl g11), ef ct, ef ct, trivial⟩) (q1 rfl (z36 (mv rfl) (fun g13 => (mc rfl g13)) ct) (q1 rfl (z0 (mv rfl)) (g1 rfl rfl (fun g14 => z3 (zqj H) (mv rfl)) (g1 rfl rfl (fun g15 => lb (tl3 H) 0 (mc rfl g15) rfl rfl) (zp h fun y17 ey17 h => g1 rfl rfl (fun g16 => oQ (z9q H) (z1e H φ v1.fBrake 0 1000000 _ (zy ey17 g16)) z5 ⟨ef (mc rfl g16), ef ct, ef ct, trivial⟩) (q1 rfl (z36 (mv rfl) (fun g18 => (mc rfl g18)) ct) (q1 rfl (z0 (mv rfl)) (g1 rfl rfl (fun g19 => z3 (zpt H) (mv rfl)) (g1 rfl rfl (fun g20 => lb (tl3 H) 0 (mc rfl g20) rfl rfl) (zp h fun y22 ey22 h => ?_))))))))))
 refine g1 rfl rfl (fun g21 => oQ (z9q H) (z1e H φ v1.fGauge 0 7 _ (zy ey22 g21)) z5 ⟨ef (mc rfl g21), ef ct, ef ct, trivial⟩) (q1 rfl (z36 (mv rfl) (fun g23 => (mc rfl g23)) ct) (q1 rfl (z0 (mv rfl)) (g1 rfl rfl (fun g24 => z3 (zp0 H) (mv rfl)) (g1 rfl rfl (fun g25 => lb (tl3 H) 0 (mc rfl g25) rfl rfl) (zp h fun y27 ey27 h => g1 rfl rfl (fun g26 => oQ (z9q H) (z1e H φ v1.fLife 1 1073741824 _ (zy ey27 g26)) z5 ⟨ef (mc rfl g26), ef ct, ef ct, trivial⟩) (q1 rfl (z36 (mv rfl) (fun g28 => (mc rfl g28)) ct) (q1 rfl (z0 (mv rfl)) (g1 rfl rfl (fun g29 => z3 (zou H) (mv rfl)) (g1 rfl rfl (fun g30 => lb (tl3 H) 0 (mc rfl g30) rfl rfl) (zp h fun y32 ey32 h => ?_))))))))))
 refine g1 rfl rfl (fun g31 => oQ (z9q H) (z1e H φ v1.fFloor 0 100 _ (zy ey32 g31)) z5 ⟨ef (mc rfl g31), ef ct, ef ct, trivial⟩) (q1 rfl (z36 (mv rfl) (fun g33 => (mc rfl g33)) ct) (q1 rfl (z1 (mv rfl)) (rn (al [2] [] rfl rfl rfl (sq (z2.ret (AtX.ret' (bv ((((((y3 && y7) && y12) && y17) && y22) && y27) && y32)) (zq.one Try.results66 rfl) [] [] trivial rfl ?_)))))))
 obtain rfl := Option.some.inj h
 exact ⟨rfl, rfl⟩
theorem zed {P : Program} (H : P = Try.prog) (φ : Nat) (v1 : zd8) (v2 : Int) (r : (Bool)) (h : z9i φ v1 v2 = some r) : z0z P 67 [(agg (z6s v1)), (iv .i64 v2)] (fun x news => x = (bv r) ∧ news = []) := by
 unfold z9i at h
 refine z0z.of_code' 30 (fn67 H) rfl rfl (Nat.le_of_ble_eq_true rfl) fun w0 base r0 wI => ?_
 refine cl [0, 1] [] rfl rfl rfl (cs (cr [0, 1] rfl (n1 rfl (z7i (Ce.agg (mv rfl)) fun b3 => q1 rfl (z1 ct) (rn (al [1, 2] [0] rfl rfl rfl (sq (cs (cr [0, 1, 2, 3, 4, 5, 6, 7, 8, 9, 10, 11, 12, 13, 14, 15, 16, 17, 18, 19, 20, 21, 22, 23, 24, 25] rfl (q1 rfl (z3 (zsa H) (mv rfl)) (q1 rfl (lb (tl3 H) 0 (mv rfl) rfl rfl) ?_)))))))))))
 refine q1 rfl (z0 (mv rfl)) (q1 rfl (z2f (mv rfl) ct) (zp h fun y4 ey4 h => q1 rfl (oQ (z9q H) (z1e H φ v1.fType 0 (W (v2 - 1)) _ ey4) z5 ⟨ef (mv rfl), ef ct, ef (mv rfl), trivial⟩) (q1 rfl (z0 (mv rfl)) (g1 rfl rfl (fun g5 => z3 (zsk H) (mv rfl)) (g1 rfl rfl (fun g6 => lb (tl3 H) 0 (mc rfl g6) rfl rfl) (zp h fun y8 ey8 h => g1 rfl rfl (fun g7 => oQ (z9q H) (z1e H φ v1.fOwner 0 63 _ (zy ey8 g7)) z5 ⟨ef (mc rfl g7), ef ct, ef ct, trivial⟩) (q1 rfl (z36 (mv rfl) (fun g9 => (mc rfl g9)) ct) (q1 rfl (z0 (mv rfl)) (g1 rfl rfl (fun g10 => z3 (zlc H) (mv rfl)) ?_)))))))))
 refine g1 rfl rfl (fun g11 => lb (tl3 H) 0 (mc rfl g11) rfl rfl) (zp h fun y13 ey13 h => g1 rfl rfl (fun g12 => oQ (z9q H) (z1e H φ v1.fHome 0 511 _ (zy ey13 g12)) z5 ⟨ef (mc rfl g12), ef ct, ef ct, trivial⟩) (q1 rfl (z36 (mv rfl) (fun g14 => (mc rfl g14)) ct) (q1 rfl (z0 (mv rfl)) (g1 rfl rfl (fun g15 => z3 (zse H) (mv rfl)) (g1 rfl rfl (fun g16 => lb (tl3 H) 0 (mc rfl g16) rfl rfl) (zp h fun y18 ey18 h => g1 rfl rfl (fun g17 => oQ (z9q H) (z1e H φ v1.fBuilt 0 1073741824 _ (zy ey18 g17)) z5 ⟨ef (mc rfl g17), ef ct, ef ct, trivial⟩) (q1 rfl (z36 (mv rfl) (fun g19 => (mc rfl g19)) ct) (q1 rfl (z0 (mv rfl)) (g1 rfl rfl (fun g20 => z3 (zrl H) (mv rfl)) ?_)))))))))
 refine g1 rfl rfl (fun g21 => lb (tl3 H) 0 (mc rfl g21) rfl rfl) (zp h fun y23 ey23 h => g1 rfl rfl (fun g22 => oQ (z9q H) (z1e H φ v1.fWorth 0 1099511627776 _ (zy ey23 g22)) z5 ⟨ef (mc rfl g22), ef ct, ef ct, trivial⟩) (q1 rfl (z36 (mv rfl) (fun g24 => (mc rfl g24)) ct) (q1 rfl (z1 (mv rfl)) (rn (al [4] [] rfl rfl rfl (sq (z2.ret (AtX.ret' (bv ((((y4 && y8) && y13) && y18) && y23)) (zq.one Try.results67 rfl) [] [] trivial rfl ?_))))))))
 obtain rfl := Option.some.inj h
 exact ⟨rfl, rfl⟩
end Px
end
