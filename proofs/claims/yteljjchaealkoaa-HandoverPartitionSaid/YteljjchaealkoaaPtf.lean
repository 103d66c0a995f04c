/- A part of the proof of handoverPartition_holds. Conditions: none. -/
import Derived.Test.YteljjchaealkoaaPte
section
set_option linter.unusedVariables false
set_option linter.unusedSimpArgs false
set_option maxHeartbeats 4000000
set_option maxRecDepth 100000
namespace Px
open Go Go.RowKit Go.Proofs
theorem law27_HandoverPartition_ok {P : Program} (H : P = Try.prog) (φ : Nat) (v1 : Pool) (v2 : (List Report)) (v3 : Int) (v4 : Int) (r : (Bool)) (h : law27_HandoverPartition φ v1 v2 v3 v4 = some r) : PureT P 4 [(agg (ePool v1)), (ro eReport 21 v2), (iv .i64 v3), (iv .i64 v4)] (fun x news => x = (bv r) ∧ news = []) := by
 unfold law27_HandoverPartition at h
 refine PureT.of_code' 244 (fn4 H) rfl rfl (Nat.le_of_ble_eq_true rfl) fun w0 base r0 wI => ?_
 refine cl [0, 1, 2, 3] [] rfl rfl rfl (cs (cr [0, 1] rfl (n1 rfl (opBox (Ce.agg (mv rfl)) fun b5 => q1 rfl (opAssign ct) (rn (al [1, 2, 3, 4] [0] rfl rfl rfl (sq (cs (cs (cr [0, 1] rfl (bindE h fun y6 ey6 h => ?_)))))))))))
 refine q1 rfl (oQ (fnok9 H) (law27_sane_ok H φ  _ ey6) flat_eqv trivial) (q1 rfl (opNot (mv rfl)) (rn (al [1, 2, 3, 4, 17] [0] rfl rfl rfl (sq ?_))))
 refine cI h rfl (fun c7 h => ?_) (fun c7 h => ?_)
 ·
  refine cs (cr [0] rfl (q1 rfl (opAssign ct) (rn (al [8] [] rfl rfl rfl (sq (CodeT.ret (AtX.then_ret (AtX.ret' (bv false) (ResOK.one Try.results4 rfl) [] [] trivial rfl ?_))))))))
  obtain rfl := Option.some.inj h
  exact ⟨rfl, rfl⟩
 ·
  refine CodeT.skip (al [1, 2, 3, 4] [0] rfl rfl rfl (sq (cs (cs (cr [0, 1, 2, 3] rfl (q1 rfl (ln (tl36 H) ((Pt.box 0 (mv rfl) rfl rfl).take 9 (cs' := (ePool v1)) rfl) rfl) (q1 rfl (opMove (mv rfl)) (bindE h fun y8 ey8 h => q1 rfl (oQ (fnok10 H) (law27_few_ok H φ v1 v2 _ ey8) flat_eqv ⟨ef (mv rfl), ef (mv rfl), trivial⟩) (q1 rfl (opNot (mv rfl)) (rn ?_))))))))))
  refine al [1, 2, 3, 4, 21] [0] rfl rfl rfl (sq ?_)
  refine cI h rfl (fun c9 h => ?_) (fun c9 h => ?_)
  ·
   refine cs (cr [0] rfl (q1 rfl (opAssign ct) (rn (al [8] [] rfl rfl rfl (sq (CodeT.ret (AtX.then_ret (AtX.ret' (bv true) (ResOK.one Try.results4 rfl) [] [] trivial rfl ?_))))))))
   obtain rfl := Option.some.inj h
   exact ⟨rfl, rfl⟩
  ·
   refine CodeT.skip (al [1, 2, 3, 4] [0] rfl rfl rfl (sq (cs (cr [0, 1, 2, 3, 4, 5, 6, 7, 8, 9] rfl (q1 rfl (ln (tl36 H) ((Pt.box 0 (mv rfl) rfl rfl).take 9 (cs' := (ePool v1)) rfl) rfl) (q1 rfl (opMove (mv rfl)) (q1 rfl (opMove (mv rfl)) (q1 rfl (opMove (mv rfl)) (bindE h fun y10 ey10 h => n1 rfl (oF (fnok12 H) (handover_Spans_ok H φ v1 v2 v3 v4 _ ey10) ⟨ef (mv rfl), ef (mv rfl), ef (mv rfl), ef (mv rfl), trivial⟩ fun x13 nw14 hk12 => ?_))))))))))
   obtain ⟨sv11, rfl, rfl⟩ := hk12
   refine ⟨(flat_tup' ⟨flat_eqv, flat_eqv, trivial⟩), allFlatH ⟨flat_row' fCustody, trivial⟩, ?_⟩
   refine q1 rfl (opMove (mv rfl)) (q1 rfl (opExtract (mv rfl) rfl) (q1 rfl (opExtract (mv rfl) rfl) (q1 rfl (opAssign (mv rfl)) (q1 rfl (opAssign (mv rfl)) (rn (al [1, 2, 3, 4, 9, 10] [0, 1] rfl rfl rfl (sq (cs (cs (cr [0, 1, 2, 3, 4, 5] rfl (q1 rfl (opMove (mv rfl)) ?_)))))))))))
   refine q1 rfl (opNeq (mv rfl) ct) (q1 rfl (opMove (mv rfl)) (g1 rfl rfl (fun g15 => opMove (mv rfl)) (g1 rfl rfl (fun g16 => opEql (mc rfl g16) ct) (q1 rfl (opOr (mv rfl) ct (fun g17 => (mc rfl g17))) (rn (al [1, 2, 3, 4, 9, 35] [0, 1] rfl rfl rfl (sq ?_)))))))
   refine cI h rfl (fun c18 h => ?_) (fun c18 h => ?_)
   ·
    refine cs (cr [0, 1, 2, 3] rfl (q1 rfl (opMove (mv rfl)) (q1 rfl (opLenO 1 (il49 H) (mv rfl) rfl) (q1 rfl (opEql (mv rfl) ct) (q1 rfl (opAssign (mv rfl)) (rn (al [8] [] rfl rfl rfl (sq (CodeT.ret (AtX.then_ret (AtX.ret' (bv ((y10.1.length : Int) == 0)) (ResOK.one Try.results4 rfl) [] [] trivial rfl ?_)))))))))))
    obtain rfl := Option.some.inj h
    exact ⟨rfl, rfl⟩
   ·
    refine CodeT.skip (al [1, 2, 3, 4, 9] [0, 1] rfl rfl rfl (sq (cs (cs (cr [0, 1, 2, 3, 4, 5, 6, 7, 8, 9, 10, 11, 12, 13, 14, 15, 16, 17, 18, 19, 20, 21, 22, 23, 24, 25, 26, 27, 28, 29, 30, 31, 32, 33, 34, 35, 36, 37, 38, 39, 40, 41, 42] rfl (cq rfl rfl rfl (opMove (mv rfl)) (cq rfl rfl rfl (opLenO 1 (il49 H) (mv rfl) rfl) (cq rfl rfl rfl (opEql (mv rfl) (Ev.const _)) (cq rfl rfl rfl (opMove (mv rfl)) (cg (x := (iv .i64 v3)) rfl rfl rfl rfl rfl (fun g19 => opMove (mv rfl)) (cg (x := (bv (decide (v3 < 0)))) rfl rfl rfl rfl rfl (fun g20 => opLss (mc rfl g20) ct) ?_)))))))))))
    refine cq rfl rfl rfl (opOr (mv rfl) (Ev.const _) (fun g21 => (Ev.cnd (mv rfl) g21))) (cq rfl rfl rfl (opMove (mv rfl)) (cg (x := (iv .i64 v3)) rfl rfl rfl rfl rfl (fun g22 => opMove (mv rfl)) (cg (x := (eqv (.pointer (some ⟨b5, 2, none⟩)))) rfl rfl rfl rfl rfl (fun g23 => opFieldP (fo36_1 H) (mv rfl)) (cg (x := (eqv (.pointer (some ⟨b5, 3, none⟩)))) rfl rfl rfl rfl rfl (fun g24 => opFieldP (fo31_1 H) (mc rfl g24)) (cg (x := (ro eWagon 5 v1.fFleet.fWagons)) rfl rfl rfl rfl rfl (fun g25 => lb (tl27 H) 0 (mc rfl g25) rfl rfl) (cg (x := (iv .i64 (v1.fFleet.fWagons.length : Int))) rfl rfl rfl rfl rfl (fun g26 => opLenR (il27 H) (mc rfl g26)) (cg (x := (bv (decide ((v1.fFleet.fWagons.length : Int) ≤ v3)))) rfl rfl rfl rfl rfl (fun g27 => opGeq (mc rfl g27) (mc rfl g27)) (cq rfl rfl rfl (opOr (mv rfl) (Ev.const _) (fun g28 => (Ev.cnd (mv rfl) g28))) (cq rfl rfl rfl (opMove (mv rfl)) (cg (x := (eqv sv11)) rfl rfl rfl rfl rfl (fun g29 => opMove (mv rfl)) (ckE h fun h31 h => ?_)))))))))))
    refine cg (x := (rowp sv11 ((0 : Int).toNat * 5))) rfl rfl rfl rfl rfl (fun g30 => opIndexO 1 (ix49 H) (mc rfl g30) rfl ct ((h31 g30)).1 ((h31 g30)).2) (cg (x := (rowp sv11 ((0 : Int).toNat * 5 + 1))) rfl rfl rfl rfl rfl (fun g32 => opFieldO (fo64_1 H) (mc rfl g32)) (cg (x := (rowp sv11 ((0 : Int).toNat * 5 + 1 + 0))) rfl rfl rfl rfl rfl (fun g33 => opFieldO (fo62_0 H) (mc rfl g33)) (cg (x := (iv .i64 ((gt y10.1 0).fSpan.fFrom))) rfl rfl rfl rfl rfl (fun g34 => opLoad1 (tl3 H) ((Pt.row _ 1 (k := (0 : Int).toNat) (fo := 1) lCustody (mc rfl g34) rfl (by omega) (gt_some (h31 g34)) rfl).take 1 (cs' := [(iv .i64 ((gt y10.1 0).fSpan.fFrom))]) rfl)) (cg (x := (bv ((gt y10.1 0).fSpan.fFrom != 0))) rfl rfl rfl rfl rfl (fun g35 => opNeq (mc rfl g35) ct) (cq rfl rfl rfl (opOr (mv rfl) (Ev.const _) (fun g36 => (Ev.cnd (mv rfl) g36))) (cq rfl rfl rfl (opMove (mv rfl)) (cg (x := (eqv sv11)) rfl rfl rfl rfl rfl (fun g37 => opMove (mv rfl)) (ckE h fun h39 h => cg (x := (rowp sv11 ((0 : Int).toNat * 5))) rfl rfl rfl rfl rfl (fun g38 => opIndexO 1 (ix49 H) (mc rfl g38) rfl ct ((h39 g38)).1 ((h39 g38)).2) (cg (x := (rowp sv11 ((0 : Int).toNat * 5 + 3))) rfl rfl rfl rfl rfl (fun g40 => opFieldO (fo64_2 H) (mc rfl g40)) (cg (x := (agg (eRef (gt y10.1 0).fRef))) rfl rfl rfl rfl rfl (fun g41 => ln (tl43 H) ((Pt.row _ 1 (k := (0 : Int).toNat) (fo := 3) lCustody (mc rfl g41) rfl (by omega) (gt_some (h39 g41)) rfl).take 2 (cs' := (eRef (gt y10.1 0).fRef)) rfl) rfl) ?_))))))))))
    refine cg (x := (agg [(iv .i64 0), (iv .i64 0)])) rfl rfl rfl rfl rfl (fun g42 => opBuild [.int .i64 0, .int .i64 0] [] (out := [(iv .i64 0), (iv .i64 0)]) (ze43 H) rfl (tb43 H) trivial rfl) (cg (x := (bv (!(eqRefB ((gt y10.1 0).fRef) (Ref.mk 0 0))))) rfl rfl rfl rfl rfl (fun g43 => opNeS [(.int .i64 ((gt y10.1 0).fRef.fRailway)), (.int .i64 ((gt y10.1 0).fRef.fNo))] [(.int .i64 0), (.int .i64 0)] (mc rfl g43) (mc rfl g43) rfl rfl (eg43 H) (fun w => eqRefR H w ((gt y10.1 0).fRef) (Ref.mk 0 0))) (cq rfl rfl rfl (opOr (mv rfl) (Ev.const _) (fun g44 => (Ev.cnd (mv rfl) g44))) (cq rfl rfl rfl (opMove (mv rfl)) (cg (x := (eqv sv11)) rfl rfl rfl rfl rfl (fun g45 => opMove (mv rfl)) (cg (x := (eqv sv11)) rfl rfl rfl rfl rfl (fun g46 => opMove (mv rfl)) (cg (x := (iv .i64 (y10.1.length : Int))) rfl rfl rfl rfl rfl (fun g47 => opLenO 1 (il49 H) (mc rfl g47) rfl) (cg (x := (iv .i64 (W ((y10.1.length : Int) - 1)))) rfl rfl rfl rfl rfl (fun g48 => opSub (mc rfl g48) ct) (ckE h fun h50 h => cg (x := (rowp sv11 (((W ((y10.1.length : Int) - 1)) : Int).toNat * 5))) rfl rfl rfl rfl rfl (fun g49 => opIndexO 1 (ix49 H) (mc rfl g49) rfl (mc rfl g49) ((h50 g49)).1 ((h50 g49)).2) (cg (x := (rowp sv11 (((W ((y10.1.length : Int) - 1)) : Int).toNat * 5 + 1))) rfl rfl rfl rfl rfl (fun g51 => opFieldO (fo64_1 H) (mc rfl g51)) (cg (x := (rowp sv11 (((W ((y10.1.length : Int) - 1)) : Int).toNat * 5 + 1 + 1))) rfl rfl rfl rfl rfl (fun g52 => opFieldO (fo62_1 H) (mc rfl g52)) ?_))))))))))
    refine RunOps.cons_g (iv .i64 ((gt y10.1 (W ((y10.1.length : Int) - 1))).fSpan.fTo)) ((((((y10.1.length : Int) == 0) || decide (v3 < 0)) || decide ((v1.fFleet.fWagons.length : Int) ≤ v3)) || ((gt y10.1 0).fSpan.fFrom != 0)) || (!(eqRefB ((gt y10.1 0).fRef) (Ref.mk 0 0)))) rfl rfl rfl rfl rfl (fun g53 => (opLoad1 (tl3 H) ((Pt.row _ 1 (k := ((W ((y10.1.length : Int) - 1)) : Int).toNat) (fo := 2) lCustody (Ev.cnd (Ev.tmp rfl) g53) rfl (by omega) (gt_some (h50 g53)) rfl).take 1 (cs' := [(iv .i64 ((gt y10.1 (W ((y10.1.length : Int) - 1))).fSpan.fTo))]) rfl))) (g1 rfl rfl (fun g54 => opMove (mv rfl)) (g1 rfl rfl (fun g55 => opNeq (mc rfl g55) (mc rfl g55)) (q1 rfl (opOr (mv rfl) ct (fun g56 => (mc rfl g56))) (rn (al [1, 2, 4, 9, 81] [0, 1] rfl rfl rfl (sq ?_))))))
    refine cI h rfl (fun c57 h => ?_) (fun c57 h => ?_)
    ·
     refine cs (cr [0] rfl (q1 rfl (opAssign ct) (rn (al [8] [] rfl rfl rfl (sq (CodeT.ret (AtX.then_ret (AtX.ret' (bv false) (ResOK.one Try.results4 rfl) [] [] trivial rfl ?_))))))))
     obtain rfl := Option.some.inj h
     exact ⟨rfl, rfl⟩
    ·
     refine CodeT.skip (al [1, 2, 4, 9] [0, 1] rfl rfl rfl (sq (cs (cr [0, 1, 2, 3, 4, 5, 6, 7] rfl (q1 rfl (opFieldP (fo36_1 H) (mv rfl)) (q1 rfl (opFieldP (fo31_1 H) (mv rfl)) (q1 rfl (lb (tl27 H) 0 (mv rfl) rfl rfl) (q1 rfl (opMove (mv rfl)) (ckE h fun h58 h => q1 rfl (opIndexR (ix27 H) (mv rfl) (mv rfl) (h58).1 (gt_some h58)) (q1 rfl (opFieldRT (fo66_2 H) (mv rfl) (cs' := [(iv .i64 ((gt v1.fFleet.fWagons v3).fHome))]) 1 rfl) ?_))))))))))
     refine q1 rfl (lr (tl3 H) (mv rfl)) (q1 rfl (opAssign (mv rfl)) (rn (al [1, 2, 4, 9, 11] [0, 1] rfl rfl rfl (sq (cs (cs (ckE h fun h68 h => ckE h fun h76 h => CodeT.draw (QR := [(0, _), (1, _), (2, _), (3, _), (4, _), (5, _), (6, _), (7, _), (8, _), (9, _), (10, _), (11, _), (12, _), (13, _), (14, _), (15, _), (16, _), (17, _), (18, _), (19, _), (20, _), (21, _), (22, _), (23, _)]) (tab := [(some 89, []), (some 90, [0]), (some 91, [1]), (some 92, [2]), (some 93, [2]), (some 94, [4, 2]), (some 95, [5, 2]), (some 96, [6, 2]), (some 97, [3, 7, 2]), (some 98, [2, 8]), (some 99, [9, 2]), (some 100, [10]), (some 101, [11, 10]), (some 102, [12, 10]), (some 103, [13, 10]), (some 104, [10]), (some 105, [15, 10]), (some 106, [16, 10]), (some 107, [10]), (some 108, [17, 18, 10]), (some 109, [19, 10]), (some 110, [20, 10]), (some 111, [14, 21, 10]), (some 112, [10, 22])]) (mixed H) (Reg.intro [] [] (by kernel_rfl) rfl (an rfl) ⟨(qr rfl (opMove (Ev.tmp (A := (iv .i64 ((gt v1.fFleet.fWagons v3).fHome))) (by kernel_rfl)))), (qr rfl (opLss (Ev.tmp (A := (iv .i64 ((gt v1.fFleet.fWagons v3).fHome))) (by kernel_rfl)) ct)), (qr rfl (opMove (Ev.tmp (A := (bv (decide ((gt v1.fFleet.fWagons v3).fHome < 0)))) (by kernel_rfl)))), (qr rfl ⟨(decide ((gt v1.fFleet.fWagons v3).fHome < 0) = false), (iv .i64 ((gt v1.fFleet.fWagons v3).fHome)), 91, rfl, rfl, fun g59 => (opMove (Ev.tmp (A := (iv .i64 ((gt v1.fFleet.fWagons v3).fHome))) (by kernel_rfl))), .inl ⟨(decide ((gt v1.fFleet.fWagons v3).fHome < 0)), rfl, rfl⟩⟩), (qr rfl ⟨(decide ((gt v1.fFleet.fWagons v3).fHome < 0) = false), (eqv (.pointer (some ⟨b5, 0, none⟩))), 91, rfl, rfl, fun g60 => (opFieldP (fo36_0 H) (Ev.tmp (A := (eqv (.pointer (some ⟨b5, 0, none⟩)))) (by kernel_rfl))), .inl ⟨(decide ((gt v1.fFleet.fWagons v3).fHome < 0)), rfl, rfl⟩⟩), (qr rfl ⟨(decide ((gt v1.fFleet.fWagons v3).fHome < 0) = false), (eqv (.pointer (some ⟨b5, 0, none⟩))), 91, rfl, rfl, fun g61 => (opFieldP (fo25_0 H) (mc rfl g61)), .inl ⟨(decide ((gt v1.fFleet.fWagons v3).fHome < 0)), rfl, rfl⟩⟩), (qr rfl ⟨(decide ((gt v1.fFleet.fWagons v3).fHome < 0) = false), (ro ePlace 3 v1.fNetwork.fPlaces), 91, rfl, rfl, fun g62 => (lb (tl22 H) 0 (mc rfl g62) rfl rfl), .inl ⟨(decide ((gt v1.fFleet.fWagons v3).fHome < 0)), rfl, rfl⟩⟩), (qr rfl ⟨(decide ((gt v1.fFleet.fWagons v3).fHome < 0) = false), (iv .i64 (v1.fNetwork.fPlaces.length : Int)), 91, rfl, rfl, fun g63 => (opLenR (il22 H) (mc rfl g63)), .inl ⟨(decide ((gt v1.fFleet.fWagons v3).fHome < 0)), rfl, rfl⟩⟩), (qr rfl ⟨(decide ((gt v1.fFleet.fWagons v3).fHome < 0) = false), (bv (decide ((v1.fNetwork.fPlaces.length : Int) ≤ (gt v1.fFleet.fWagons v3).fHome))), 91, rfl, rfl, fun g64 => (opGeq (mc rfl g64) (mc rfl g64)), .inl ⟨(decide ((gt v1.fFleet.fWagons v3).fHome < 0)), rfl, rfl⟩⟩), (qr rfl (opOr (Ev.tmp (A := (bv (decide ((gt v1.fFleet.fWagons v3).fHome < 0)))) (by kernel_rfl)) ct (fun g65 => (mc rfl g65)))), (qr rfl (opMove (Ev.tmp (A := (bv (decide ((gt v1.fFleet.fWagons v3).fHome < 0) || decide ((v1.fNetwork.fPlaces.length : Int) ≤ (gt v1.fFleet.fWagons v3).fHome)))) (by kernel_rfl)))), (qr rfl ⟨((decide ((gt v1.fFleet.fWagons v3).fHome < 0) || decide ((v1.fNetwork.fPlaces.length : Int) ≤ (gt v1.fFleet.fWagons v3).fHome)) = false), (eqv sv11), 99, rfl, rfl, fun g66 => (opMove (Ev.tmp (A := (eqv sv11)) (by kernel_rfl))), .inl ⟨(decide ((gt v1.fFleet.fWagons v3).fHome < 0) || decide ((v1.fNetwork.fPlaces.length : Int) ≤ (gt v1.fFleet.fWagons v3).fHome)), rfl, rfl⟩⟩), (qr rfl ⟨((decide ((gt v1.fFleet.fWagons v3).fHome < 0) || decide ((v1.fNetwork.fPlaces.length : Int) ≤ (gt v1.fFleet.fWagons v3).fHome)) = false), (rowp sv11 ((0 : Int).toNat * 5)), 99, rfl, rfl, fun g67 => (opIndexO 1 (ix49 H) (mc rfl g67) rfl ct ((h68 g67)).1 ((h68 g67)).2), .inl ⟨(decide ((gt v1.fFleet.fWagons v3).fHome < 0) || decide ((v1.fNetwork.fPlaces.length : Int) ≤ (gt v1.fFleet.fWagons v3).fHome)), rfl, rfl⟩⟩), (qr rfl ⟨((decide ((gt v1.fFleet.fWagons v3).fHome < 0) || decide ((v1.fNetwork.fPlaces.length : Int) ≤ (gt v1.fFleet.fWagons v3).fHome)) = false), (rowp sv11 ((0 : Int).toNat * 5 + 0)), 99, rfl, rfl, fun g69 => (opFieldO (fo64_0 H) (mc rfl g69)), .inl ⟨(decide ((gt v1.fFleet.fWagons v3).fHome < 0) || decide ((v1.fNetwork.fPlaces.length : Int) ≤ (gt v1.fFleet.fWagons v3).fHome)), rfl, rfl⟩⟩), (qr rfl ⟨((decide ((gt v1.fFleet.fWagons v3).fHome < 0) || decide ((v1.fNetwork.fPlaces.length : Int) ≤ (gt v1.fFleet.fWagons v3).fHome)) = false), (iv .i64 ((gt y10.1 0).fRailway)), 99, rfl, rfl, fun g70 => (opLoad1 (tl3 H) ((Pt.row _ 1 (k := (0 : Int).toNat) (fo := 0) lCustody (mc rfl g70) rfl (by omega) (gt_some (h68 g70)) rfl).take 1 (cs' := [(iv .i64 ((gt y10.1 0).fRailway))]) rfl)), .inl ⟨(decide ((gt v1.fFleet.fWagons v3).fHome < 0) || decide ((v1.fNetwork.fPlaces.length : Int) ≤ (gt v1.fFleet.fWagons v3).fHome)), rfl, rfl⟩⟩), (qr rfl ⟨((decide ((gt v1.fFleet.fWagons v3).fHome < 0) || decide ((v1.fNetwork.fPlaces.length : Int) ≤ (gt v1.fFleet.fWagons v3).fHome)) = false), (eqv (.pointer (some ⟨b5, 0, none⟩))), 99, rfl, rfl, fun g71 => (opFieldP (fo36_0 H) (Ev.tmp (A := (eqv (.pointer (some ⟨b5, 0, none⟩)))) (by kernel_rfl))), .inl ⟨(decide ((gt v1.fFleet.fWagons v3).fHome < 0) || decide ((v1.fNetwork.fPlaces.length : Int) ≤ (gt v1.fFleet.fWagons v3).fHome)), rfl, rfl⟩⟩), (qr rfl ⟨((decide ((gt v1.fFleet.fWagons v3).fHome < 0) || decide ((v1.fNetwork.fPlaces.length : Int) ≤ (gt v1.fFleet.fWagons v3).fHome)) = false), (eqv (.pointer (some ⟨b5, 0, none⟩))), 99, rfl, rfl, fun g72 => (opFieldP (fo25_0 H) (mc rfl g72)), .inl ⟨(decide ((gt v1.fFleet.fWagons v3).fHome < 0) || decide ((v1.fNetwork.fPlaces.length : Int) ≤ (gt v1.fFleet.fWagons v3).fHome)), rfl, rfl⟩⟩), (qr rfl ⟨((decide ((gt v1.fFleet.fWagons v3).fHome < 0) || decide ((v1.fNetwork.fPlaces.length : Int) ≤ (gt v1.fFleet.fWagons v3).fHome)) = false), (ro ePlace 3 v1.fNetwork.fPlaces), 99, rfl, rfl, fun g73 => (lb (tl22 H) 0 (mc rfl g73) rfl rfl), .inl ⟨(decide ((gt v1.fFleet.fWagons v3).fHome < 0) || decide ((v1.fNetwork.fPlaces.length : Int) ≤ (gt v1.fFleet.fWagons v3).fHome)), rfl, rfl⟩⟩), (qr rfl ⟨((decide ((gt v1.fFleet.fWagons v3).fHome < 0) || decide ((v1.fNetwork.fPlaces.length : Int) ≤ (gt v1.fFleet.fWagons v3).fHome)) = false), (iv .i64 ((gt v1.fFleet.fWagons v3).fHome)), 99, rfl, rfl, fun g74 => (opMove (Ev.tmp (A := (iv .i64 ((gt v1.fFleet.fWagons v3).fHome))) (by kernel_rfl))), .inl ⟨(decide ((gt v1.fFleet.fWagons v3).fHome < 0) || decide ((v1.fNetwork.fPlaces.length : Int) ≤ (gt v1.fFleet.fWagons v3).fHome)), rfl, rfl⟩⟩), (qr rfl ⟨((decide ((gt v1.fFleet.fWagons v3).fHome < 0) || decide ((v1.fNetwork.fPlaces.length : Int) ≤ (gt v1.fFleet.fWagons v3).fHome)) = false), (rop (ePlace (gt v1.fNetwork.fPlaces ((gt v1.fFleet.fWagons v3).fHome)))), 99, rfl, rfl, fun g75 => (opIndexR (ix22 H) (mc rfl g75) (mc rfl g75) ((h76 g75)).1 (gt_some (h76 g75))), .inl ⟨(decide ((gt v1.fFleet.fWagons v3).fHome < 0) || decide ((v1.fNetwork.fPlaces.length : Int) ≤ (gt v1.fFleet.fWagons v3).fHome)), rfl, rfl⟩⟩), (qr rfl ⟨((decide ((gt v1.fFleet.fWagons v3).fHome < 0) || decide ((v1.fNetwork.fPlaces.length : Int) ≤ (gt v1.fFleet.fWagons v3).fHome)) = false), (rop [(iv .i64 ((gt v1.fNetwork.fPlaces ((gt v1.fFleet.fWagons v3).fHome)).fRailway))]), 99, rfl, rfl, fun g77 => (opFieldRT (fo68_1 H) (mc rfl g77) (cs' := [(iv .i64 ((gt v1.fNetwork.fPlaces ((gt v1.fFleet.fWagons v3).fHome)).fRailway))]) 1 rfl), .inl ⟨(decide ((gt v1.fFleet.fWagons v3).fHome < 0) || decide ((v1.fNetwork.fPlaces.length : Int) ≤ (gt v1.fFleet.fWagons v3).fHome)), rfl, rfl⟩⟩), (qr rfl ⟨((decide ((gt v1.fFleet.fWagons v3).fHome < 0) || decide ((v1.fNetwork.fPlaces.length : Int) ≤ (gt v1.fFleet.fWagons v3).fHome)) = false), (iv .i64 ((gt v1.fNetwork.fPlaces ((gt v1.fFleet.fWagons v3).fHome)).fRailway)), 99, rfl, rfl, fun g78 => (lr (tl3 H) (mc rfl g78)), .inl ⟨(decide ((gt v1.fFleet.fWagons v3).fHome < 0) || decide ((v1.fNetwork.fPlaces.length : Int) ≤ (gt v1.fFleet.fWagons v3).fHome)), rfl, rfl⟩⟩), (qr rfl ⟨((decide ((gt v1.fFleet.fWagons v3).fHome < 0) || decide ((v1.fNetwork.fPlaces.length : Int) ≤ (gt v1.fFleet.fWagons v3).fHome)) = false), (bv ((gt y10.1 0).fRailway != (gt v1.fNetwork.fPlaces ((gt v1.fFleet.fWagons v3).fHome)).fRailway)), 99, rfl, rfl, fun g79 => (opNeq (mc rfl g79) (mc rfl g79)), .inl ⟨(decide ((gt v1.fFleet.fWagons v3).fHome < 0) || decide ((v1.fNetwork.fPlaces.length : Int) ≤ (gt v1.fFleet.fWagons v3).fHome)), rfl, rfl⟩⟩), (qr rfl (opOr (Ev.tmp (A := (bv (decide ((gt v1.fFleet.fWagons v3).fHome < 0) || decide ((v1.fNetwork.fPlaces.length : Int) ≤ (gt v1.fFleet.fWagons v3).fHome)))) (by kernel_rfl)) ct (fun g80 => (mc rfl g80)))), trivial⟩ trivial (fun _ => ?_)))))))))
     refine al [1, 2, 4, 9, 112] [0, 1] rfl rfl rfl (sq ?_)
     refine cI h rfl (fun c81 h => ?_) (fun c81 h => ?_)
     ·
      refine cs (cr [0] rfl (q1 rfl (opAssign ct) (rn (al [8] [] rfl rfl rfl (sq (CodeT.ret (AtX.then_ret (AtX.ret' (bv false) (ResOK.one Try.results4 rfl) [] [] trivial rfl ?_))))))))
      obtain rfl := Option.some.inj h
      exact ⟨rfl, rfl⟩
     ·
      refine CodeT.skip (al [1, 2, 4, 9] [0, 1] rfl rfl rfl (sq (cs (cr [0, 1, 2, 3] rfl (q1 rfl (ln (tl36 H) ((Pt.box 0 (mv rfl) rfl rfl).take 9 (cs' := (ePool v1)) rfl) rfl) (q1 rfl (opMove (mv rfl)) (bindE h fun y82 ey82 h => n1 rfl (oF (fnok13 H) (handover_Match_ok H φ v1 v2 _ ey82) ⟨ef (mv rfl), ef (mv rfl), trivial⟩ fun x85 nw86 hk84 => ?_))))))))
      obtain ⟨sv83, rfl, rfl⟩ := hk84
      refine ⟨flat_eqv, allFlatH ⟨flat_row' fHandover, trivial⟩, ?_⟩
      refine q1 rfl (opAssign (mv rfl)) (rn (al [2, 9, 12] [1, 2] rfl rfl rfl (sq (cs (cs (cr [0] rfl (q1 rfl (opAssign ct) (rn (al [2, 9, 12, 13] [0, 1] rfl rfl rfl (sq ?_))))))))))
      refine CodeT.join (fun z : Unit => (law27_HandoverPartition_j87 φ)) r (fun z => ⟨Slots.of [], []⟩) (fun z h => ?_) (fun hJ87 => ?_)
      ·
       replace h : (law27_HandoverPartition_j87 φ) = some r := h
       unfold law27_HandoverPartition_j87 at h
       refine al [] [] rfl rfl rfl (sq (cs (cr [0] rfl (q1 rfl (opAssign ct) (rn (al [8] [] rfl rfl rfl (sq (CodeT.ret (AtX.ret' (bv true) (ResOK.one Try.results4 rfl) [] [] trivial rfl ?_)))))))))
       obtain rfl := Option.some.inj h
       exact ⟨rfl, rfl⟩
      ·
       refine CodeT.block ?_
       refine CodeT.to (CodeT.loop (fun n (z : Int) => law27_HandoverPartition_L89 φ v3 y10 y82 (law27_HandoverPartition_j87 φ) n z) r (fun z => ⟨Slots.of [(2, (iv .i64 v3)), (9, (eqv sv11)), (12, (eqv sv83)), (13, (iv .i64 z))], [(row 64 eCustody 5 y10.1 sv11), (row 70 eHandover 10 y82 sv83)]⟩) (fun z => rfl) (fun n89 v88 ih89 h => ?_) φ 0 h) [0, 1] (sl rfl) (ol rfl) rfl
       replace h : law27_HandoverPartition_L89 φ v3 y10 y82 (law27_HandoverPartition_j87 φ) (n89 + 1) v88 = some r := h
       rw [law27_HandoverPartition_L89] at h
       refine cs (cs (cr [0, 1, 2, 3] rfl (q1 rfl (opMove (mv rfl)) (q1 rfl (opMove (mv rfl)) (q1 rfl (opLenO 0 (il49 H) (mv rfl) rfl) (q1 rfl (opLss (mv rfl) (mv rfl)) (rn (al [2, 9, 12, 13, 119] [0, 1] rfl rfl rfl (sq ?_)))))))))
       refine cI h rfl (fun c90 h => ?_) (fun c90 h => ?_)
       ·
        refine CodeT.skip (al [2, 9, 12, 13] [0, 1] rfl rfl rfl (sq (cs ?_)))
        refine CodeT.join (fun z : Unit => (law27_HandoverPartition_j91 φ v88 (law27_HandoverPartition_L89 φ v3 y10 y82 (law27_HandoverPartition_j87 φ) n89))) r (fun z => ⟨Slots.of [(2, (iv .i64 v3)), (9, (eqv sv11)), (12, (eqv sv83)), (13, (iv .i64 v88))], [(row 64 eCustody 5 y10.1 sv11), (row 70 eHandover 10 y82 sv83)]⟩) (fun z h => ?_) (fun hJ91 => ?_)
        ·
         replace h : (law27_HandoverPartition_j91 φ v88 (law27_HandoverPartition_L89 φ v3 y10 y82 (law27_HandoverPartition_j87 φ) n89)) = some r := h
         unfold law27_HandoverPartition_j91 at h
         refine al [2, 9, 12, 13] [0, 1] rfl rfl rfl (sq (cr [0, 1, 2] rfl (q1 rfl (opMove (mv rfl)) (q1 rfl (opAdd (mv rfl) ct) (q1 rfl (opAssign (mv rfl)) (rn ?_))))))
         exact AtX.to (ih89 (W (v88 + 1)) h) [0, 1] (sl rfl) (ol rfl) rfl
        ·
         refine CodeT.block (cs (cs (ckE h fun h92 h => ckE h fun h106 h => ckE h fun h121 h => CodeT.draw (QR := [(0, _), (1, _), (2, _), (3, _), (4, _), (5, _), (6, _), (7, _), (8, _), (9, _), (10, _), (11, _), (12, _), (13, _), (14, _), (15, _), (16, _), (17, _), (18, _), (19, _), (20, _), (21, _), (22, _), (23, _), (24, _), (25, _), (26, _), (27, _), (28, _), (29, _), (30, _), (31, _), (32, _), (33, _), (34, _), (35, _), (36, _), (37, _), (38, _), (39, _), (40, _), (41, _), (42, _), (43, _), (44, _), (45, _), (46, _)]) (tab := [(some 122, []), (some 123, []), (some 124, [0, 1]), (some 125, [2]), (some 126, [3]), (some 127, [4]), (some 128, []), (some 129, []), (some 130, [6, 7]), (some 131, [8]), (some 132, [9]), (some 133, [10]), (some 134, [5, 11]), (some 135, [12]), (some 136, [13]), (some 137, [14, 13]), (some 138, [15, 13, 13]), (some 139, [16]), (some 140, [16]), (some 141, [17, 18, 16]), (some 142, [19, 16]), (some 143, [20, 16]), (some 144, [21, 16]), (some 145, [16]), (some 146, [16]), (some 147, [24, 16]), (some 148, [23, 25, 16]), (some 149, [26, 16]), (some 150, [27, 16]), (some 151, [28, 16]), (some 152, [22, 29, 16]), (some 153, [30, 16, 16]), (some 154, [31]), (some 155, [31]), (some 156, [32, 33, 31]), (some 157, [34, 31]), (some 158, [35, 31]), (some 159, [31]), (some 160, [31]), (some 161, [38, 31]), (some 162, [37, 39, 31]), (some 163, [40, 31]), (some 164, [41, 31]), (some 165, [36, 42, 31]), (some 166, [31, 43, 16]), (some 167, [16, 44, 13]), (some 168, [13, 45])]) (mixed H) (Reg.intro [] [] (by kernel_rfl) rfl (an rfl) ⟨(qr rfl (opMove (Ev.tmp (A := (eqv sv11)) (by kernel_rfl)))), (qr rfl (opMove (Ev.tmp (A := (iv .i64 v88)) (by kernel_rfl)))), (qr rfl (opIndexO 0 (ix49 H) (Ev.tmp (A := (eqv sv11)) (by kernel_rfl)) rfl (Ev.tmp (A := (iv .i64 v88)) (by kernel_rfl)) (h92).1 (h92).2)), (qr rfl (opFieldO (fo64_1 H) (Ev.tmp (A := (rowp sv11 ((v88 : Int).toNat * 5))) (by kernel_rfl)))), (qr rfl (opFieldO (fo62_0 H) (Ev.tmp (A := (rowp sv11 ((v88 : Int).toNat * 5 + 1))) (by kernel_rfl)))), (qr rfl (opLoad1 (tl3 H) ((Pt.row _ 0 (k := (v88 : Int).toNat) (fo := 1) lCustody (Ev.tmp (A := (rowp sv11 ((v88 : Int).toNat * 5 + 1 + 0))) (by kernel_rfl)) rfl (by omega) (gt_some h92) rfl).take 1 (cs' := [(iv .i64 ((gt y10.1 v88).fSpan.fFrom))]) rfl))), (qr rfl (opMove (Ev.tmp (A := (eqv sv11)) (by kernel_rfl)))), (qr rfl (opMove (Ev.tmp (A := (iv .i64 v88)) (by kernel_rfl)))), (qr rfl (opIndexO 0 (ix49 H) (Ev.tmp (A := (eqv sv11)) (by kernel_rfl)) rfl (Ev.tmp (A := (iv .i64 v88)) (by kernel_rfl)) (h92).1 (h92).2)), (qr rfl (opFieldO (fo64_1 H) (Ev.tmp (A := (rowp sv11 ((v88 : Int).toNat * 5))) (by kernel_rfl)))), (qr rfl (opFieldO (fo62_1 H) (Ev.tmp (A := (rowp sv11 ((v88 : Int).toNat * 5 + 1))) (by kernel_rfl)))), (qr rfl (opLoad1 (tl3 H) ((Pt.row _ 0 (k := (v88 : Int).toNat) (fo := 2) lCustody (Ev.tmp (A := (rowp sv11 ((v88 : Int).toNat * 5 + 1 + 1))) (by kernel_rfl)) rfl (by omega) (gt_some h92) rfl).take 1 (cs' := [(iv .i64 ((gt y10.1 v88).fSpan.fTo))]) rfl))), (qr rfl (opGeq (Ev.tmp (A := (iv .i64 ((gt y10.1 v88).fSpan.fFrom))) (by kernel_rfl)) (Ev.tmp (A := (iv .i64 ((gt y10.1 v88).fSpan.fTo))) (by kernel_rfl)))), (qr rfl (opMove (Ev.tmp (A := (bv (decide ((gt y10.1 v88).fSpan.fTo ≤ (gt y10.1 v88).fSpan.fFrom)))) (by kernel_rfl)))), (qr rfl ⟨(decide ((gt y10.1 v88).fSpan.fTo ≤ (gt y10.1 v88).fSpan.fFrom) = false), (iv .i64 v88), 135, rfl, rfl, fun g93 => (opMove (Ev.tmp (A := (iv .i64 v88)) (by kernel_rfl))), .inl ⟨(decide ((gt y10.1 v88).fSpan.fTo ≤ (gt y10.1 v88).fSpan.fFrom)), rfl, rfl⟩⟩), (qr rfl ⟨(decide ((gt y10.1 v88).fSpan.fTo ≤ (gt y10.1 v88).fSpan.fFrom) = false), (bv (decide (0 < v88))), 135, rfl, rfl, fun g94 => (opGtr (mc rfl g94) ct), .inl ⟨(decide ((gt y10.1 v88).fSpan.fTo ≤ (gt y10.1 v88).fSpan.fFrom)), rfl, rfl⟩⟩), (qr rfl ⟨(decide ((gt y10.1 v88).fSpan.fTo ≤ (gt y10.1 v88).fSpan.fFrom) = false), (bv (decide (0 < v88))), 135, rfl, rfl, fun g95 => (opMove (mc rfl g95)), .inl ⟨(decide ((gt y10.1 v88).fSpan.fTo ≤ (gt y10.1 v88).fSpan.fFrom)), rfl, rfl⟩⟩), (qr rfl ⟨((decide ((gt y10.1 v88).fSpan.fTo ≤ (gt y10.1 v88).fSpan.fFrom) = false) ∧ (decide (0 < v88) = true)), (eqv sv11), 138, rfl, rfl, fun g96 => (opMove (Ev.tmp (A := (eqv sv11)) (by kernel_rfl))), .inr ⟨(decide ((gt y10.1 v88).fSpan.fTo ≤ (gt y10.1 v88).fSpan.fFrom) = false), (decide (0 < v88)), rfl, rfl⟩⟩), (qr rfl ⟨((decide ((gt y10.1 v88).fSpan.fTo ≤ (gt y10.1 v88).fSpan.fFrom) = false) ∧ (decide (0 < v88) = true)), (iv .i64 v88), 138, rfl, rfl, fun g97 => (opMove (Ev.tmp (A := (iv .i64 v88)) (by kernel_rfl))), .inr ⟨(decide ((gt y10.1 v88).fSpan.fTo ≤ (gt y10.1 v88).fSpan.fFrom) = false), (decide (0 < v88)), rfl, rfl⟩⟩), (qr rfl ⟨((decide ((gt y10.1 v88).fSpan.fTo ≤ (gt y10.1 v88).fSpan.fFrom) = false) ∧ (decide (0 < v88) = true)), (rowp sv11 ((v88 : Int).toNat * 5)), 138, rfl, rfl, fun g98 => (opIndexO 0 (ix49 H) (mc rfl ⟨g98.1, g98.2⟩) rfl (mc rfl ⟨g98.1, g98.2⟩) (h92).1 (h92).2), .inr ⟨(decide ((gt y10.1 v88).fSpan.fTo ≤ (gt y10.1 v88).fSpan.fFrom) = false), (decide (0 < v88)), rfl, rfl⟩⟩), (qr rfl ⟨((decide ((gt y10.1 v88).fSpan.fTo ≤ (gt y10.1 v88).fSpan.fFrom) = false) ∧ (decide (0 < v88) = true)), (rowp sv11 ((v88 : Int).toNat * 5 + 1)), 138, rfl, rfl, fun g99 => (opFieldO (fo64_1 H) (mc rfl ⟨g99.1, g99.2⟩)), .inr ⟨(decide ((gt y10.1 v88).fSpan.fTo ≤ (gt y10.1 v88).fSpan.fFrom) = false), (decide (0 < v88)), rfl, rfl⟩⟩), (qr rfl ⟨((decide ((gt y10.1 v88).fSpan.fTo ≤ (gt y10.1 v88).fSpan.fFrom) = false) ∧ (decide (0 < v88) = true)), (rowp sv11 ((v88 : Int).toNat * 5 + 1 + 0)), 138, rfl, rfl, fun g100 => (opFieldO (fo62_0 H) (mc rfl ⟨g100.1, g100.2⟩)), .inr ⟨(decide ((gt y10.1 v88).fSpan.fTo ≤ (gt y10.1 v88).fSpan.fFrom) = false), (decide (0 < v88)), rfl, rfl⟩⟩), (qr rfl ⟨((decide ((gt y10.1 v88).fSpan.fTo ≤ (gt y10.1 v88).fSpan.fFrom) = false) ∧ (decide (0 < v88) = true)), (iv .i64 ((gt y10.1 v88).fSpan.fFrom)), 138, rfl, rfl, fun g101 => (opLoad1 (tl3 H) ((Pt.row _ 0 (k := (v88 : Int).toNat) (fo := 1) lCustody (mc rfl ⟨g101.1, g101.2⟩) rfl (by omega) (gt_some h92) rfl).take 1 (cs' := [(iv .i64 ((gt y10.1 v88).fSpan.fFrom))]) rfl)), .inr ⟨(decide ((gt y10.1 v88).fSpan.fTo ≤ (gt y10.1 v88).fSpan.fFrom) = false), (decide (0 < v88)), rfl, rfl⟩⟩), (qr rfl ⟨((decide ((gt y10.1 v88).fSpan.fTo ≤ (gt y10.1 v88).fSpan.fFrom) = false) ∧ (decide (0 < v88) = true)), (eqv sv11), 138, rfl, rfl, fun g102 => (opMove (Ev.tmp (A := (eqv sv11)) (by kernel_rfl))), .inr ⟨(decide ((gt y10.1 v88).fSpan.fTo ≤ (gt y10.1 v88).fSpan.fFrom) = false), (decide (0 < v88)), rfl, rfl⟩⟩), (qr rfl ⟨((decide ((gt y10.1 v88).fSpan.fTo ≤ (gt y10.1 v88).fSpan.fFrom) = false) ∧ (decide (0 < v88) = true)), (iv .i64 v88), 138, rfl, rfl, fun g103 => (opMove (Ev.tmp (A := (iv .i64 v88)) (by kernel_rfl))), .inr ⟨(decide ((gt y10.1 v88).fSpan.fTo ≤ (gt y10.1 v88).fSpan.fFrom) = false), (decide (0 < v88)), rfl, rfl⟩⟩), (qr rfl ⟨((decide ((gt y10.1 v88).fSpan.fTo ≤ (gt y10.1 v88).fSpan.fFrom) = false) ∧ (decide (0 < v88) = true)), (iv .i64 (W (v88 - 1))), 138, rfl, rfl, fun g104 => (opSub (mc rfl ⟨g104.1, g104.2⟩) ct), .inr ⟨(decide ((gt y10.1 v88).fSpan.fTo ≤ (gt y10.1 v88).fSpan.fFrom) = false), (decide (0 < v88)), rfl, rfl⟩⟩), (qr rfl ⟨((decide ((gt y10.1 v88).fSpan.fTo ≤ (gt y10.1 v88).fSpan.fFrom) = false) ∧ (decide (0 < v88) = true)), (rowp sv11 (((W (v88 - 1)) : Int).toNat * 5)), 138, rfl, rfl, fun g105 => (opIndexO 0 (ix49 H) (mc rfl ⟨g105.1, g105.2⟩) rfl (mc rfl ⟨g105.1, g105.2⟩) ((h106 g105)).1 ((h106 g105)).2), .inr ⟨(decide ((gt y10.1 v88).fSpan.fTo ≤ (gt y10.1 v88).fSpan.fFrom) = false), (decide (0 < v88)), rfl, rfl⟩⟩), (qr rfl ⟨((decide ((gt y10.1 v88).fSpan.fTo ≤ (gt y10.1 v88).fSpan.fFrom) = false) ∧ (decide (0 < v88) = true)), (rowp sv11 (((W (v88 - 1)) : Int).toNat * 5 + 1)), 138, rfl, rfl, fun g107 => (opFieldO (fo64_1 H) (mc rfl ⟨g107.1, g107.2⟩)), .inr ⟨(decide ((gt y10.1 v88).fSpan.fTo ≤ (gt y10.1 v88).fSpan.fFrom) = false), (decide (0 < v88)), rfl, rfl⟩⟩), (qr rfl ⟨((decide ((gt y10.1 v88).fSpan.fTo ≤ (gt y10.1 v88).fSpan.fFrom) = false) ∧ (decide (0 < v88) = true)), (rowp sv11 (((W (v88 - 1)) : Int).toNat * 5 + 1 + 1)), 138, rfl, rfl, fun g108 => (opFieldO (fo62_1 H) (mc rfl ⟨g108.1, g108.2⟩)), .inr ⟨(decide ((gt y10.1 v88).fSpan.fTo ≤ (gt y10.1 v88).fSpan.fFrom) = false), (decide (0 < v88)), rfl, rfl⟩⟩), (qr rfl ⟨((decide ((gt y10.1 v88).fSpan.fTo ≤ (gt y10.1 v88).fSpan.fFrom) = false) ∧ (decide (0 < v88) = true)), (iv .i64 ((gt y10.1 (W (v88 - 1))).fSpan.fTo)), 138, rfl, rfl, fun g109 => (opLoad1 (tl3 H) ((Pt.row _ 0 (k := ((W (v88 - 1)) : Int).toNat) (fo := 2) lCustody (mc rfl ⟨g109.1, g109.2⟩) rfl (by omega) (gt_some (h106 g109)) rfl).take 1 (cs' := [(iv .i64 ((gt y10.1 (W (v88 - 1))).fSpan.fTo))]) rfl)), .inr ⟨(decide ((gt y10.1 v88).fSpan.fTo ≤ (gt y10.1 v88).fSpan.fFrom) = false), (decide (0 < v88)), rfl, rfl⟩⟩), (qr rfl ⟨((decide ((gt y10.1 v88).fSpan.fTo ≤ (gt y10.1 v88).fSpan.fFrom) = false) ∧ (decide (0 < v88) = true)), (bv ((gt y10.1 v88).fSpan.fFrom != (gt y10.1 (W (v88 - 1))).fSpan.fTo)), 138, rfl, rfl, fun g110 => (opNeq (mc rfl ⟨g110.1, g110.2⟩) (mc rfl ⟨g110.1, g110.2⟩)), .inr ⟨(decide ((gt y10.1 v88).fSpan.fTo ≤ (gt y10.1 v88).fSpan.fFrom) = false), (decide (0 < v88)), rfl, rfl⟩⟩), (qr rfl ⟨((decide ((gt y10.1 v88).fSpan.fTo ≤ (gt y10.1 v88).fSpan.fFrom) = false) ∧ (decide (0 < v88) = true)), (bv ((gt y10.1 v88).fSpan.fFrom != (gt y10.1 (W (v88 - 1))).fSpan.fTo)), 138, rfl, rfl, fun g111 => (opMove (mc rfl ⟨g111.1, g111.2⟩)), .inr ⟨(decide ((gt y10.1 v88).fSpan.fTo ≤ (gt y10.1 v88).fSpan.fFrom) = false), (decide (0 < v88)), rfl, rfl⟩⟩), (qr rfl ⟨(((decide ((gt y10.1 v88).fSpan.fTo ≤ (gt y10.1 v88).fSpan.fFrom) = false) ∧ (decide (0 < v88) = true)) ∧ (((gt y10.1 v88).fSpan.fFrom != (gt y10.1 (W (v88 - 1))).fSpan.fTo) = false)), (eqv sv11), 153, rfl, rfl, fun g112 => (opMove (Ev.tmp (A := (eqv sv11)) (by kernel_rfl))), .inr ⟨((decide ((gt y10.1 v88).fSpan.fTo ≤ (gt y10.1 v88).fSpan.fFrom) = false) ∧ (decide (0 < v88) = true)), ((gt y10.1 v88).fSpan.fFrom != (gt y10.1 (W (v88 - 1))).fSpan.fTo), rfl, rfl⟩⟩), (qr rfl ⟨(((decide ((gt y10.1 v88).fSpan.fTo ≤ (gt y10.1 v88).fSpan.fFrom) = false) ∧ (decide (0 < v88) = true)) ∧ (((gt y10.1 v88).fSpan.fFrom != (gt y10.1 (W (v88 - 1))).fSpan.fTo) = false)), (iv .i64 v88), 153, rfl, rfl, fun g113 => (opMove (Ev.tmp (A := (iv .i64 v88)) (by kernel_rfl))), .inr ⟨((decide ((gt y10.1 v88).fSpan.fTo ≤ (gt y10.1 v88).fSpan.fFrom) = false) ∧ (decide (0 < v88) = true)), ((gt y10.1 v88).fSpan.fFrom != (gt y10.1 (W (v88 - 1))).fSpan.fTo), rfl, rfl⟩⟩), (qr rfl ⟨(((decide ((gt y10.1 v88).fSpan.fTo ≤ (gt y10.1 v88).fSpan.fFrom) = false) ∧ (decide (0 < v88) = true)) ∧ (((gt y10.1 v88).fSpan.fFrom != (gt y10.1 (W (v88 - 1))).fSpan.fTo) = false)), (rowp sv11 ((v88 : Int).toNat * 5)), 153, rfl, rfl, fun g114 => (opIndexO 0 (ix49 H) (mc rfl ⟨⟨g114.1.1, g114.1.2⟩, g114.2⟩) rfl (mc rfl ⟨⟨g114.1.1, g114.1.2⟩, g114.2⟩) (h92).1 (h92).2), .inr ⟨((decide ((gt y10.1 v88).fSpan.fTo ≤ (gt y10.1 v88).fSpan.fFrom) = false) ∧ (decide (0 < v88) = true)), ((gt y10.1 v88).fSpan.fFrom != (gt y10.1 (W (v88 - 1))).fSpan.fTo), rfl, rfl⟩⟩), (qr rfl ⟨(((decide ((gt y10.1 v88).fSpan.fTo ≤ (gt y10.1 v88).fSpan.fFrom) = false) ∧ (decide (0 < v88) = true)) ∧ (((gt y10.1 v88).fSpan.fFrom != (gt y10.1 (W (v88 - 1))).fSpan.fTo) = false)), (rowp sv11 ((v88 : Int).toNat * 5 + 0)), 153, rfl, rfl, fun g115 => (opFieldO (fo64_0 H) (mc rfl ⟨⟨g115.1.1, g115.1.2⟩, g115.2⟩)), .inr ⟨((decide ((gt y10.1 v88).fSpan.fTo ≤ (gt y10.1 v88).fSpan.fFrom) = false) ∧ (decide (0 < v88) = true)), ((gt y10.1 v88).fSpan.fFrom != (gt y10.1 (W (v88 - 1))).fSpan.fTo), rfl, rfl⟩⟩), (qr rfl ⟨(((decide ((gt y10.1 v88).fSpan.fTo ≤ (gt y10.1 v88).fSpan.fFrom) = false) ∧ (decide (0 < v88) = true)) ∧ (((gt y10.1 v88).fSpan.fFrom != (gt y10.1 (W (v88 - 1))).fSpan.fTo) = false)), (iv .i64 ((gt y10.1 v88).fRailway)), 153, rfl, rfl, fun g116 => (opLoad1 (tl3 H) ((Pt.row _ 0 (k := (v88 : Int).toNat) (fo := 0) lCustody (mc rfl ⟨⟨g116.1.1, g116.1.2⟩, g116.2⟩) rfl (by omega) (gt_some h92) rfl).take 1 (cs' := [(iv .i64 ((gt y10.1 v88).fRailway))]) rfl)), .inr ⟨((decide ((gt y10.1 v88).fSpan.fTo ≤ (gt y10.1 v88).fSpan.fFrom) = false) ∧ (decide (0 < v88) = true)), ((gt y10.1 v88).fSpan.fFrom != (gt y10.1 (W (v88 - 1))).fSpan.fTo), rfl, rfl⟩⟩), (qr rfl ⟨(((decide ((gt y10.1 v88).fSpan.fTo ≤ (gt y10.1 v88).fSpan.fFrom) = false) ∧ (decide (0 < v88) = true)) ∧ (((gt y10.1 v88).fSpan.fFrom != (gt y10.1 (W (v88 - 1))).fSpan.fTo) = false)), (eqv sv11), 153, rfl, rfl, fun g117 => (opMove (Ev.tmp (A := (eqv sv11)) (by kernel_rfl))), .inr ⟨((decide ((gt y10.1 v88).fSpan.fTo ≤ (gt y10.1 v88).fSpan.fFrom) = false) ∧ (decide (0 < v88) = true)), ((gt y10.1 v88).fSpan.fFrom != (gt y10.1 (W (v88 - 1))).fSpan.fTo), rfl, rfl⟩⟩), (qr rfl ⟨(((decide ((gt y10.1 v88).fSpan.fTo ≤ (gt y10.1 v88).fSpan.fFrom) = false) ∧ (decide (0 < v88) = true)) ∧ (((gt y10.1 v88).fSpan.fFrom != (gt y10.1 (W (v88 - 1))).fSpan.fTo) = false)), (iv .i64 v88), 153, rfl, rfl, fun g118 => (opMove (Ev.tmp (A := (iv .i64 v88)) (by kernel_rfl))), .inr ⟨((decide ((gt y10.1 v88).fSpan.fTo ≤ (gt y10.1 v88).fSpan.fFrom) = false) ∧ (decide (0 < v88) = true)), ((gt y10.1 v88).fSpan.fFrom != (gt y10.1 (W (v88 - 1))).fSpan.fTo), rfl, rfl⟩⟩), (qr rfl ⟨(((decide ((gt y10.1 v88).fSpan.fTo ≤ (gt y10.1 v88).fSpan.fFrom) = false) ∧ (decide (0 < v88) = true)) ∧ (((gt y10.1 v88).fSpan.fFrom != (gt y10.1 (W (v88 - 1))).fSpan.fTo) = false)), (iv .i64 (W (v88 - 1))), 153, rfl, rfl, fun g119 => (opSub (mc rfl ⟨⟨g119.1.1, g119.1.2⟩, g119.2⟩) ct), .inr ⟨((decide ((gt y10.1 v88).fSpan.fTo ≤ (gt y10.1 v88).fSpan.fFrom) = false) ∧ (decide (0 < v88) = true)), ((gt y10.1 v88).fSpan.fFrom != (gt y10.1 (W (v88 - 1))).fSpan.fTo), rfl, rfl⟩⟩), (qr rfl ⟨(((decide ((gt y10.1 v88).fSpan.fTo ≤ (gt y10.1 v88).fSpan.fFrom) = false) ∧ (decide (0 < v88) = true)) ∧ (((gt y10.1 v88).fSpan.fFrom != (gt y10.1 (W (v88 - 1))).fSpan.fTo) = false)), (rowp sv11 (((W (v88 - 1)) : Int).toNat * 5)), 153, rfl, rfl, fun g120 => (opIndexO 0 (ix49 H) (mc rfl ⟨⟨g120.1.1, g120.1.2⟩, g120.2⟩) rfl (mc rfl ⟨⟨g120.1.1, g120.1.2⟩, g120.2⟩) ((h121 g120)).1 ((h121 g120)).2), .inr ⟨((decide ((gt y10.1 v88).fSpan.fTo ≤ (gt y10.1 v88).fSpan.fFrom) = false) ∧ (decide (0 < v88) = true)), ((gt y10.1 v88).fSpan.fFrom != (gt y10.1 (W (v88 - 1))).fSpan.fTo), rfl, rfl⟩⟩), (qr rfl ⟨(((decide ((gt y10.1 v88).fSpan.fTo ≤ (gt y10.1 v88).fSpan.fFrom) = false) ∧ (decide (0 < v88) = true)) ∧ (((gt y10.1 v88).fSpan.fFrom != (gt y10.1 (W (v88 - 1))).fSpan.fTo) = false)), (rowp sv11 (((W (v88 - 1)) : Int).toNat * 5 + 0)), 153, rfl, rfl, fun g122 => (opFieldO (fo64_0 H) (mc rfl ⟨⟨g122.1.1, g122.1.2⟩, g122.2⟩)), .inr ⟨((decide ((gt y10.1 v88).fSpan.fTo ≤ (gt y10.1 v88).fSpan.fFrom) = false) ∧ (decide (0 < v88) = true)), ((gt y10.1 v88).fSpan.fFrom != (gt y10.1 (W (v88 - 1))).fSpan.fTo), rfl, rfl⟩⟩), (qr rfl ⟨(((decide ((gt y10.1 v88).fSpan.fTo ≤ (gt y10.1 v88).fSpan.fFrom) = false) ∧ (decide (0 < v88) = true)) ∧ (((gt y10.1 v88).fSpan.fFrom != (gt y10.1 (W (v88 - 1))).fSpan.fTo) = false)), (iv .i64 ((gt y10.1 (W (v88 - 1))).fRailway)), 153, rfl, rfl, fun g123 => (opLoad1 (tl3 H) ((Pt.row _ 0 (k := ((W (v88 - 1)) : Int).toNat) (fo := 0) lCustody (mc rfl ⟨⟨g123.1.1, g123.1.2⟩, g123.2⟩) rfl (by omega) (gt_some (h121 g123)) rfl).take 1 (cs' := [(iv .i64 ((gt y10.1 (W (v88 - 1))).fRailway))]) rfl)), .inr ⟨((decide ((gt y10.1 v88).fSpan.fTo ≤ (gt y10.1 v88).fSpan.fFrom) = false) ∧ (decide (0 < v88) = true)), ((gt y10.1 v88).fSpan.fFrom != (gt y10.1 (W (v88 - 1))).fSpan.fTo), rfl, rfl⟩⟩), (qr rfl ⟨(((decide ((gt y10.1 v88).fSpan.fTo ≤ (gt y10.1 v88).fSpan.fFrom) = false) ∧ (decide (0 < v88) = true)) ∧ (((gt y10.1 v88).fSpan.fFrom != (gt y10.1 (W (v88 - 1))).fSpan.fTo) = false)), (bv ((gt y10.1 v88).fRailway == (gt y10.1 (W (v88 - 1))).fRailway)), 153, rfl, rfl, fun g124 => (opEql (mc rfl ⟨⟨g124.1.1, g124.1.2⟩, g124.2⟩) (mc rfl ⟨⟨g124.1.1, g124.1.2⟩, g124.2⟩)), .inr ⟨((decide ((gt y10.1 v88).fSpan.fTo ≤ (gt y10.1 v88).fSpan.fFrom) = false) ∧ (decide (0 < v88) = true)), ((gt y10.1 v88).fSpan.fFrom != (gt y10.1 (W (v88 - 1))).fSpan.fTo), rfl, rfl⟩⟩), (qr rfl ⟨((decide ((gt y10.1 v88).fSpan.fTo ≤ (gt y10.1 v88).fSpan.fFrom) = false) ∧ (decide (0 < v88) = true)), (bv (((gt y10.1 v88).fSpan.fFrom != (gt y10.1 (W (v88 - 1))).fSpan.fTo) || ((gt y10.1 v88).fRailway == (gt y10.1 (W (v88 - 1))).fRailway))), 138, rfl, rfl, fun g125 => (opOr (mc rfl ⟨g125.1, g125.2⟩) ct (fun g126 => (mc rfl ⟨⟨g125.1, g125.2⟩, g126⟩))), .inr ⟨(decide ((gt y10.1 v88).fSpan.fTo ≤ (gt y10.1 v88).fSpan.fFrom) = false), (decide (0 < v88)), rfl, rfl⟩⟩), (qr rfl ⟨(decide ((gt y10.1 v88).fSpan.fTo ≤ (gt y10.1 v88).fSpan.fFrom) = false), (bv (decide (0 < v88) && (((gt y10.1 v88).fSpan.fFrom != (gt y10.1 (W (v88 - 1))).fSpan.fTo) || ((gt y10.1 v88).fRailway == (gt y10.1 (W (v88 - 1))).fRailway)))), 135, rfl, rfl, fun g127 => (opAnd (mc rfl g127) (fun g128 => (mc rfl ⟨g127, g128⟩)) ct), .inl ⟨(decide ((gt y10.1 v88).fSpan.fTo ≤ (gt y10.1 v88).fSpan.fFrom)), rfl, rfl⟩⟩), (qr rfl (opOr (Ev.tmp (A := (bv (decide ((gt y10.1 v88).fSpan.fTo ≤ (gt y10.1 v88).fSpan.fFrom)))) (by kernel_rfl)) ct (fun g129 => (mc rfl g129)))), trivial⟩ trivial (fun _ => ?_)))))
         refine al [2, 9, 12, 13, 168] [0, 1] rfl rfl rfl (sq ?_)
         refine cI h rfl (fun c130 h => ?_) (fun c130 h => ?_)
         ·
          refine cs (cr [0] rfl (q1 rfl (opAssign ct) (rn (al [8] [] rfl rfl rfl (sq (CodeT.ret (AtX.then_ret (AtX.in_ret (AtX.then_ret (AtX.then_ret (AtX.in_ret ?_)))))))))))
          refine AtX.then_ret (AtX.ret' (bv false) (ResOK.one Try.results4 rfl) [] [] trivial rfl ?_)
          obtain rfl := Option.some.inj h
          exact ⟨rfl, rfl⟩
         ·
          refine CodeT.skip (al [2, 9, 12, 13] [0, 1] rfl rfl rfl (sq (cs (cr [0, 1, 2] rfl (q1 rfl (opMove (mv rfl)) (q1 rfl (opEql (mv rfl) ct) (q1 rfl (opAssign (mv rfl)) (rn (al [2, 9, 12, 13, 14] [0, 1] rfl rfl rfl (sq (cs ?_)))))))))))
          refine cs (cr [0] rfl (q1 rfl (opAssign ct) (rn (al [2, 9, 12, 13, 14, 15] [0, 1] rfl rfl rfl (sq ?_)))))
          refine CodeT.join (fun z : Bool => (law27_HandoverPartition_j132 φ (law27_HandoverPartition_j91 φ v88 (law27_HandoverPartition_L89 φ v3 y10 y82 (law27_HandoverPartition_j87 φ) n89))) z) r (fun z => ⟨Slots.of [(2, (iv .i64 v3)), (9, (eqv sv11)), (12, (eqv sv83)), (13, (iv .i64 v88)), (14, (bv z))], [(row 64 eCustody 5 y10.1 sv11), (row 70 eHandover 10 y82 sv83)]⟩) (fun v131 h => ?_) (fun hJ132 => ?_)
          ·
           replace h : (law27_HandoverPartition_j132 φ (law27_HandoverPartition_j91 φ v88 (law27_HandoverPartition_L89 φ v3 y10 y82 (law27_HandoverPartition_j87 φ) n89))) v131 = some r := h
           unfold law27_HandoverPartition_j132 at h
           refine al [2, 9, 12, 13, 14] [0, 1] rfl rfl rfl (sq (cs (cr [0, 1] rfl (q1 rfl (opMove (mv rfl)) (q1 rfl (opNot (mv rfl)) (rn (al [2, 9, 12, 13, 243] [0, 1] rfl rfl rfl (sq ?_))))))))
           refine cI h rfl (fun c133 h => ?_) (fun c133 h => ?_)
           ·
            refine cs (cr [0] rfl (q1 rfl (opAssign ct) (rn (al [8] [] rfl rfl rfl (sq (CodeT.ret (AtX.in_ret (AtX.then_ret (AtX.then_ret (AtX.in_ret (AtX.then_ret ?_)))))))))))
            refine AtX.ret' (bv false) (ResOK.one Try.results4 rfl) [] [] trivial rfl ?_
            obtain rfl := Option.some.inj h
            exact ⟨rfl, rfl⟩
           ·
            refine CodeT.skip (AtX.in_normal ?_)
            exact AtX.to (hJ91 () h) [0, 1] (sl rfl) (ol rfl) rfl
          ·
           refine CodeT.block ?_
           refine CodeT.to (CodeT.loop (fun n (z : Bool × Int) => law27_HandoverPartition_L136 φ v3 y10 y82 v88 (law27_HandoverPartition_j132 φ (law27_HandoverPartition_j91 φ v88 (law27_HandoverPartition_L89 φ v3 y10 y82 (law27_HandoverPartition_j87 φ) n89))) n z.1 z.2) r (fun z => ⟨Slots.of [(2, (iv .i64 v3)), (9, (eqv sv11)), (12, (eqv sv83)), (13, (iv .i64 v88)), (14, (bv z.1)), (15, (iv .i64 z.2))], [(row 64 eCustody 5 y10.1 sv11), (row 70 eHandover 10 y82 sv83)]⟩) (fun z => rfl) (fun n136 z ih136 h => ?_) φ ((v88 == 0), 0) h) [0, 1] (sl rfl) (ol rfl) rfl
           obtain ⟨v134, v135⟩ := z
           replace h : law27_HandoverPartition_L136 φ v3 y10 y82 v88 (law27_HandoverPartition_j132 φ (law27_HandoverPartition_j91 φ v88 (law27_HandoverPartition_L89 φ v3 y10 y82 (law27_HandoverPartition_j87 φ) n89))) (n136 + 1) v134 v135 = some r := h
           rw [law27_HandoverPartition_L136] at h
           refine cs (cs (cr [0, 1, 2, 3, 4, 5, 6, 7] rfl (q1 rfl (opMove (mv rfl)) (q1 rfl (opMove (mv rfl)) (q1 rfl (opLenO 1 (il53 H) (mv rfl) rfl) (q1 rfl (opLss (mv rfl) (mv rfl)) (q1 rfl (opMove (mv rfl)) (g1 rfl rfl (fun g137 => opMove (mv rfl)) (g1 rfl rfl (fun g138 => opNot (mc rfl g138)) (q1 rfl (opAnd (mv rfl) (fun g139 => (mc rfl g139)) ct) (rn ?_)))))))))))
           refine al [2, 9, 12, 13, 14, 15, 178] [0, 1] rfl rfl rfl (sq ?_)
           refine cI h rfl (fun c140 h => ?_) (fun c140 h => ?_)
           ·
            refine CodeT.skip (al [2, 9, 12, 13, 15] [0, 1] rfl rfl rfl (sq (cs (CodeT.block (ckE h fun h141 h => ckE h fun h150 h => ckE h fun h165 h => ckE h fun h178 h => ckE h fun h191 h => CodeT.draw (QR := [(0, _), (1, _), (2, _), (3, _), (4, _), (5, _), (6, _), (7, _), (8, _), (9, _), (10, _), (11, _), (12, _), (13, _), (14, _), (15, _), (16, _), (17, _), (18, _), (19, _), (20, _), (21, _), (22, _), (23, _), (24, _), (25, _), (26, _), (27, _), (28, _), (29, _), (30, _), (31, _), (32, _), (33, _), (34, _), (35, _), (36, _), (37, _), (38, _), (39, _), (40, _), (41, _), (42, _), (43, _), (44, _), (45, _), (46, _), (47, _), (48, _), (49, _), (50, _), (51, _), (52, _), (53, _), (54, _), (55, _), (56, _), (57, _), (58, _), (59, _), (60, _), (61, _)]) (tab := [(some 181, []), (some 182, []), (some 183, [0, 1]), (some 184, [2]), (some 185, [3]), (some 186, []), (some 187, [4, 5]), (some 188, [6]), (some 189, [7]), (some 190, [7]), (some 191, [8, 9, 7]), (some 192, [10, 7]), (some 193, [11, 7]), (some 194, [7]), (some 195, [7]), (some 196, [13, 14, 7]), (some 197, [15, 7]), (some 198, [16, 7]), (some 199, [17, 7]), (some 200, [12, 18, 7]), (some 201, [7, 19]), (some 202, [20, 7]), (some 203, [21]), (some 204, [21]), (some 205, [22, 23, 21]), (some 206, [24, 21]), (some 207, [25, 21]), (some 208, [21]), (some 209, [21]), (some 210, [28, 21]), (some 211, [27, 29, 21]), (some 212, [30, 21]), (some 213, [31, 21]), (some 214, [26, 32, 21]), (some 215, [21, 33]), (some 216, [34, 21]), (some 217, [35]), (some 218, [35]), (some 219, [36, 37, 35]), (some 220, [38, 35]), (some 221, [39, 35]), (some 222, [35]), (some 223, [35]), (some 224, [41, 42, 35]), (some 225, [43, 35]), (some 226, [44, 35]), (some 227, [40, 45, 35]), (some 228, [35, 46]), (some 229, [47, 35]), (some 230, [48]), (some 231, [48]), (some 232, [49, 50, 48]), (some 233, [51, 48]), (some 234, [52, 48]), (some 235, [48]), (some 236, [48]), (some 237, [54, 55, 48]), (some 238, [56, 48]), (some 239, [57, 48]), (some 240, [53, 58, 48]), (some 241, [48, 59]), (some 14, [60, 48, 0, 1, 2, 3, 4, 5, 6, 7, 8, 9, 10, 11, 12, 13, 14, 15, 16, 17, 18, 19, 20, 21, 22, 23, 24, 25, 26, 27, 28, 29, 30, 31, 32, 33, 34, 35, 36, 37, 38, 39, 40, 41, 42, 43, 44, 45, 46, 47, 48, 49, 50, 51, 52, 53, 54, 55, 56, 57, 58, 59, 60])]) (mixed H) (Reg.intro [] [] (by kernel_rfl) rfl (an rfl) ⟨(qr rfl (opMove (Ev.tmp (A := (eqv sv83)) (by kernel_rfl)))), (qr rfl (opMove (Ev.tmp (A := (iv .i64 v135)) (by kernel_rfl)))), (qr rfl (opIndexO 1 (ix53 H) (Ev.tmp (A := (eqv sv83)) (by kernel_rfl)) rfl (Ev.tmp (A := (iv .i64 v135)) (by kernel_rfl)) (h141).1 (h141).2)), (qr rfl (opFieldO (fo70_0 H) (Ev.tmp (A := (rowp sv83 ((v135 : Int).toNat * 10))) (by kernel_rfl)))), (qr rfl (opLoad1 (tl3 H) ((Pt.row _ 1 (k := (v135 : Int).toNat) (fo := 0) lHandover (Ev.tmp (A := (rowp sv83 ((v135 : Int).toNat * 10 + 0))) (by kernel_rfl)) rfl (by omega) (gt_some h141) rfl).take 1 (cs' := [(iv .i64 ((gt y82 v135).fWagon))]) rfl))), (qr rfl (opMove (Ev.tmp (A := (iv .i64 v3)) (by kernel_rfl)))), (qr rfl (opEql (Ev.tmp (A := (iv .i64 ((gt y82 v135).fWagon))) (by kernel_rfl)) (Ev.tmp (A := (iv .i64 v3)) (by kernel_rfl)))), (qr rfl (opMove (Ev.tmp (A := (bv ((gt y82 v135).fWagon == v3))) (by kernel_rfl)))), (qr rfl ⟨(((gt y82 v135).fWagon == v3) = true), (eqv sv83), 188, rfl, rfl, fun g142 => (opMove (Ev.tmp (A := (eqv sv83)) (by kernel_rfl))), .inl ⟨((gt y82 v135).fWagon == v3), rfl, rfl⟩⟩), (qr rfl ⟨(((gt y82 v135).fWagon == v3) = true), (iv .i64 v135), 188, rfl, rfl, fun g143 => (opMove (Ev.tmp (A := (iv .i64 v135)) (by kernel_rfl))), .inl ⟨((gt y82 v135).fWagon == v3), rfl, rfl⟩⟩), (qr rfl ⟨(((gt y82 v135).fWagon == v3) = true), (rowp sv83 ((v135 : Int).toNat * 10)), 188, rfl, rfl, fun g144 => (opIndexO 1 (ix53 H) (mc rfl g144) rfl (mc rfl g144) (h141).1 (h141).2), .inl ⟨((gt y82 v135).fWagon == v3), rfl, rfl⟩⟩), (qr rfl ⟨(((gt y82 v135).fWagon == v3) = true), (rowp sv83 ((v135 : Int).toNat * 10 + 4)), 188, rfl, rfl, fun g145 => (opFieldO (fo70_4 H) (mc rfl g145)), .inl ⟨((gt y82 v135).fWagon == v3), rfl, rfl⟩⟩), (qr rfl ⟨(((gt y82 v135).fWagon == v3) = true), (iv .i64 ((gt y82 v135).fAt)), 188, rfl, rfl, fun g146 => (opLoad1 (tl3 H) ((Pt.row _ 1 (k := (v135 : Int).toNat) (fo := 4) lHandover (mc rfl g146) rfl (by omega) (gt_some h141) rfl).take 1 (cs' := [(iv .i64 ((gt y82 v135).fAt))]) rfl)), .inl ⟨((gt y82 v135).fWagon == v3), rfl, rfl⟩⟩), (qr rfl ⟨(((gt y82 v135).fWagon == v3) = true), (eqv sv11), 188, rfl, rfl, fun g147 => (opMove (Ev.tmp (A := (eqv sv11)) (by kernel_rfl))), .inl ⟨((gt y82 v135).fWagon == v3), rfl, rfl⟩⟩), (qr rfl ⟨(((gt y82 v135).fWagon == v3) = true), (iv .i64 v88), 188, rfl, rfl, fun g148 => (opMove (Ev.tmp (A := (iv .i64 v88)) (by kernel_rfl))), .inl ⟨((gt y82 v135).fWagon == v3), rfl, rfl⟩⟩), (qr rfl ⟨(((gt y82 v135).fWagon == v3) = true), (rowp sv11 ((v88 : Int).toNat * 5)), 188, rfl, rfl, fun g149 => (opIndexO 0 (ix49 H) (mc rfl g149) rfl (mc rfl g149) ((h150 g149)).1 ((h150 g149)).2), .inl ⟨((gt y82 v135).fWagon == v3), rfl, rfl⟩⟩), (qr rfl ⟨(((gt y82 v135).fWagon == v3) = true), (rowp sv11 ((v88 : Int).toNat * 5 + 1)), 188, rfl, rfl, fun g151 => (opFieldO (fo64_1 H) (mc rfl g151)), .inl ⟨((gt y82 v135).fWagon == v3), rfl, rfl⟩⟩), (qr rfl ⟨(((gt y82 v135).fWagon == v3) = true), (rowp sv11 ((v88 : Int).toNat * 5 + 1 + 0)), 188, rfl, rfl, fun g152 => (opFieldO (fo62_0 H) (mc rfl g152)), .inl ⟨((gt y82 v135).fWagon == v3), rfl, rfl⟩⟩), (qr rfl ⟨(((gt y82 v135).fWagon == v3) = true), (iv .i64 ((gt y10.1 v88).fSpan.fFrom)), 188, rfl, rfl, fun g153 => (opLoad1 (tl3 H) ((Pt.row _ 0 (k := (v88 : Int).toNat) (fo := 1) lCustody (mc rfl g153) rfl (by omega) (gt_some (h150 g153)) rfl).take 1 (cs' := [(iv .i64 ((gt y10.1 v88).fSpan.fFrom))]) rfl)), .inl ⟨((gt y82 v135).fWagon == v3), rfl, rfl⟩⟩), (qr rfl ⟨(((gt y82 v135).fWagon == v3) = true), (bv ((gt y82 v135).fAt == (gt y10.1 v88).fSpan.fFrom)), 188, rfl, rfl, fun g154 => (opEql (mc rfl g154) (mc rfl g154)), .inl ⟨((gt y82 v135).fWagon == v3), rfl, rfl⟩⟩), (qr rfl (opAnd (Ev.tmp (A := (bv ((gt y82 v135).fWagon == v3))) (by kernel_rfl)) (fun g155 => (mc rfl g155)) ct)), (qr rfl (opMove (Ev.tmp (A := (bv (((gt y82 v135).fWagon == v3) && ((gt y82 v135).fAt == (gt y10.1 v88).fSpan.fFrom)))) (by kernel_rfl)))), (qr rfl ⟨((((gt y82 v135).fWagon == v3) && ((gt y82 v135).fAt == (gt y10.1 v88).fSpan.fFrom)) = true), (eqv sv83), 202, rfl, rfl, fun g156 => (opMove (Ev.tmp (A := (eqv sv83)) (by kernel_rfl))), .inl ⟨(((gt y82 v135).fWagon == v3) && ((gt y82 v135).fAt == (gt y10.1 v88).fSpan.fFrom)), rfl, rfl⟩⟩), (qr rfl ⟨((((gt y82 v135).fWagon == v3) && ((gt y82 v135).fAt == (gt y10.1 v88).fSpan.fFrom)) = true), (iv .i64 v135), 202, rfl, rfl, fun g157 => (opMove (Ev.tmp (A := (iv .i64 v135)) (by kernel_rfl))), .inl ⟨(((gt y82 v135).fWagon == v3) && ((gt y82 v135).fAt == (gt y10.1 v88).fSpan.fFrom)), rfl, rfl⟩⟩), (qr rfl ⟨((((gt y82 v135).fWagon == v3) && ((gt y82 v135).fAt == (gt y10.1 v88).fSpan.fFrom)) = true), (rowp sv83 ((v135 : Int).toNat * 10)), 202, rfl, rfl, fun g158 => (opIndexO 1 (ix53 H) (mc rfl g158) rfl (mc rfl g158) (h141).1 (h141).2), .inl ⟨(((gt y82 v135).fWagon == v3) && ((gt y82 v135).fAt == (gt y10.1 v88).fSpan.fFrom)), rfl, rfl⟩⟩), (qr rfl ⟨((((gt y82 v135).fWagon == v3) && ((gt y82 v135).fAt == (gt y10.1 v88).fSpan.fFrom)) = true), (rowp sv83 ((v135 : Int).toNat * 10 + 2)), 202, rfl, rfl, fun g159 => (opFieldO (fo70_2 H) (mc rfl g159)), .inl ⟨(((gt y82 v135).fWagon == v3) && ((gt y82 v135).fAt == (gt y10.1 v88).fSpan.fFrom)), rfl, rfl⟩⟩), (qr rfl ⟨((((gt y82 v135).fWagon == v3) && ((gt y82 v135).fAt == (gt y10.1 v88).fSpan.fFrom)) = true), (iv .i64 ((gt y82 v135).fFrom)), 202, rfl, rfl, fun g160 => (opLoad1 (tl3 H) ((Pt.row _ 1 (k := (v135 : Int).toNat) (fo := 2) lHandover (mc rfl g160) rfl (by omega) (gt_some h141) rfl).take 1 (cs' := [(iv .i64 ((gt y82 v135).fFrom))]) rfl)), .inl ⟨(((gt y82 v135).fWagon == v3) && ((gt y82 v135).fAt == (gt y10.1 v88).fSpan.fFrom)), rfl, rfl⟩⟩), (qr rfl ⟨((((gt y82 v135).fWagon == v3) && ((gt y82 v135).fAt == (gt y10.1 v88).fSpan.fFrom)) = true), (eqv sv11), 202, rfl, rfl, fun g161 => (opMove (Ev.tmp (A := (eqv sv11)) (by kernel_rfl))), .inl ⟨(((gt y82 v135).fWagon == v3) && ((gt y82 v135).fAt == (gt y10.1 v88).fSpan.fFrom)), rfl, rfl⟩⟩), (qr rfl ⟨((((gt y82 v135).fWagon == v3) && ((gt y82 v135).fAt == (gt y10.1 v88).fSpan.fFrom)) = true), (iv .i64 v88), 202, rfl, rfl, fun g162 => (opMove (Ev.tmp (A := (iv .i64 v88)) (by kernel_rfl))), .inl ⟨(((gt y82 v135).fWagon == v3) && ((gt y82 v135).fAt == (gt y10.1 v88).fSpan.fFrom)), rfl, rfl⟩⟩), (qr rfl ⟨((((gt y82 v135).fWagon == v3) && ((gt y82 v135).fAt == (gt y10.1 v88).fSpan.fFrom)) = true), (iv .i64 (W (v88 - 1))), 202, rfl, rfl, fun g163 => (opSub (mc rfl g163) ct), .inl ⟨(((gt y82 v135).fWagon == v3) && ((gt y82 v135).fAt == (gt y10.1 v88).fSpan.fFrom)), rfl, rfl⟩⟩), (qr rfl ⟨((((gt y82 v135).fWagon == v3) && ((gt y82 v135).fAt == (gt y10.1 v88).fSpan.fFrom)) = true), (rowp sv11 (((W (v88 - 1)) : Int).toNat * 5)), 202, rfl, rfl, fun g164 => (opIndexO 0 (ix49 H) (mc rfl g164) rfl (mc rfl g164) ((h165 g164)).1 ((h165 g164)).2), .inl ⟨(((gt y82 v135).fWagon == v3) && ((gt y82 v135).fAt == (gt y10.1 v88).fSpan.fFrom)), rfl, rfl⟩⟩), (qr rfl ⟨((((gt y82 v135).fWagon == v3) && ((gt y82 v135).fAt == (gt y10.1 v88).fSpan.fFrom)) = true), (rowp sv11 (((W (v88 - 1)) : Int).toNat * 5 + 0)), 202, rfl, rfl, fun g166 => (opFieldO (fo64_0 H) (mc rfl g166)), .inl ⟨(((gt y82 v135).fWagon == v3) && ((gt y82 v135).fAt == (gt y10.1 v88).fSpan.fFrom)), rfl, rfl⟩⟩), (qr rfl ⟨((((gt y82 v135).fWagon == v3) && ((gt y82 v135).fAt == (gt y10.1 v88).fSpan.fFrom)) = true), (iv .i64 ((gt y10.1 (W (v88 - 1))).fRailway)), 202, rfl, rfl, fun g167 => (opLoad1 (tl3 H) ((Pt.row _ 0 (k := ((W (v88 - 1)) : Int).toNat) (fo := 0) lCustody (mc rfl g167) rfl (by omega) (gt_some (h165 g167)) rfl).take 1 (cs' := [(iv .i64 ((gt y10.1 (W (v88 - 1))).fRailway))]) rfl)), .inl ⟨(((gt y82 v135).fWagon == v3) && ((gt y82 v135).fAt == (gt y10.1 v88).fSpan.fFrom)), rfl, rfl⟩⟩), (qr rfl ⟨((((gt y82 v135).fWagon == v3) && ((gt y82 v135).fAt == (gt y10.1 v88).fSpan.fFrom)) = true), (bv ((gt y82 v135).fFrom == (gt y10.1 (W (v88 - 1))).fRailway)), 202, rfl, rfl, fun g168 => (opEql (mc rfl g168) (mc rfl g168)), .inl ⟨(((gt y82 v135).fWagon == v3) && ((gt y82 v135).fAt == (gt y10.1 v88).fSpan.fFrom)), rfl, rfl⟩⟩), (qr rfl (opAnd (Ev.tmp (A := (bv (((gt y82 v135).fWagon == v3) && ((gt y82 v135).fAt == (gt y10.1 v88).fSpan.fFrom)))) (by kernel_rfl)) (fun g169 => (mc rfl g169)) ct)), (qr rfl (opMove (Ev.tmp (A := (bv ((((gt y82 v135).fWagon == v3) && ((gt y82 v135).fAt == (gt y10.1 v88).fSpan.fFrom)) && ((gt y82 v135).fFrom == (gt y10.1 (W (v88 - 1))).fRailway)))) (by kernel_rfl)))), (qr rfl ⟨(((((gt y82 v135).fWagon == v3) && ((gt y82 v135).fAt == (gt y10.1 v88).fSpan.fFrom)) && ((gt y82 v135).fFrom == (gt y10.1 (W (v88 - 1))).fRailway)) = true), (eqv sv83), 216, rfl, rfl, fun g170 => (opMove (Ev.tmp (A := (eqv sv83)) (by kernel_rfl))), .inl ⟨((((gt y82 v135).fWagon == v3) && ((gt y82 v135).fAt == (gt y10.1 v88).fSpan.fFrom)) && ((gt y82 v135).fFrom == (gt y10.1 (W (v88 - 1))).fRailway)), rfl, rfl⟩⟩), (qr rfl ⟨(((((gt y82 v135).fWagon == v3) && ((gt y82 v135).fAt == (gt y10.1 v88).fSpan.fFrom)) && ((gt y82 v135).fFrom == (gt y10.1 (W (v88 - 1))).fRailway)) = true), (iv .i64 v135), 216, rfl, rfl, fun g171 => (opMove (Ev.tmp (A := (iv .i64 v135)) (by kernel_rfl))), .inl ⟨((((gt y82 v135).fWagon == v3) && ((gt y82 v135).fAt == (gt y10.1 v88).fSpan.fFrom)) && ((gt y82 v135).fFrom == (gt y10.1 (W (v88 - 1))).fRailway)), rfl, rfl⟩⟩), (qr rfl ⟨(((((gt y82 v135).fWagon == v3) && ((gt y82 v135).fAt == (gt y10.1 v88).fSpan.fFrom)) && ((gt y82 v135).fFrom == (gt y10.1 (W (v88 - 1))).fRailway)) = true), (rowp sv83 ((v135 : Int).toNat * 10)), 216, rfl, rfl, fun g172 => (opIndexO 1 (ix53 H) (mc rfl g172) rfl (mc rfl g172) (h141).1 (h141).2), .inl ⟨((((gt y82 v135).fWagon == v3) && ((gt y82 v135).fAt == (gt y10.1 v88).fSpan.fFrom)) && ((gt y82 v135).fFrom == (gt y10.1 (W (v88 - 1))).fRailway)), rfl, rfl⟩⟩), (qr rfl ⟨(((((gt y82 v135).fWagon == v3) && ((gt y82 v135).fAt == (gt y10.1 v88).fSpan.fFrom)) && ((gt y82 v135).fFrom == (gt y10.1 (W (v88 - 1))).fRailway)) = true), (rowp sv83 ((v135 : Int).toNat * 10 + 3)), 216, rfl, rfl, fun g173 => (opFieldO (fo70_3 H) (mc rfl g173)), .inl ⟨((((gt y82 v135).fWagon == v3) && ((gt y82 v135).fAt == (gt y10.1 v88).fSpan.fFrom)) && ((gt y82 v135).fFrom == (gt y10.1 (W (v88 - 1))).fRailway)), rfl, rfl⟩⟩), (qr rfl ⟨(((((gt y82 v135).fWagon == v3) && ((gt y82 v135).fAt == (gt y10.1 v88).fSpan.fFrom)) && ((gt y82 v135).fFrom == (gt y10.1 (W (v88 - 1))).fRailway)) = true), (iv .i64 ((gt y82 v135).fTo)), 216, rfl, rfl, fun g174 => (opLoad1 (tl3 H) ((Pt.row _ 1 (k := (v135 : Int).toNat) (fo := 3) lHandover (mc rfl g174) rfl (by omega) (gt_some h141) rfl).take 1 (cs' := [(iv .i64 ((gt y82 v135).fTo))]) rfl)), .inl ⟨((((gt y82 v135).fWagon == v3) && ((gt y82 v135).fAt == (gt y10.1 v88).fSpan.fFrom)) && ((gt y82 v135).fFrom == (gt y10.1 (W (v88 - 1))).fRailway)), rfl, rfl⟩⟩), (qr rfl ⟨(((((gt y82 v135).fWagon == v3) && ((gt y82 v135).fAt == (gt y10.1 v88).fSpan.fFrom)) && ((gt y82 v135).fFrom == (gt y10.1 (W (v88 - 1))).fRailway)) = true), (eqv sv11), 216, rfl, rfl, fun g175 => (opMove (Ev.tmp (A := (eqv sv11)) (by kernel_rfl))), .inl ⟨((((gt y82 v135).fWagon == v3) && ((gt y82 v135).fAt == (gt y10.1 v88).fSpan.fFrom)) && ((gt y82 v135).fFrom == (gt y10.1 (W (v88 - 1))).fRailway)), rfl, rfl⟩⟩), (qr rfl ⟨(((((gt y82 v135).fWagon == v3) && ((gt y82 v135).fAt == (gt y10.1 v88).fSpan.fFrom)) && ((gt y82 v135).fFrom == (gt y10.1 (W (v88 - 1))).fRailway)) = true), (iv .i64 v88), 216, rfl, rfl, fun g176 => (opMove (Ev.tmp (A := (iv .i64 v88)) (by kernel_rfl))), .inl ⟨((((gt y82 v135).fWagon == v3) && ((gt y82 v135).fAt == (gt y10.1 v88).fSpan.fFrom)) && ((gt y82 v135).fFrom == (gt y10.1 (W (v88 - 1))).fRailway)), rfl, rfl⟩⟩), (qr rfl ⟨(((((gt y82 v135).fWagon == v3) && ((gt y82 v135).fAt == (gt y10.1 v88).fSpan.fFrom)) && ((gt y82 v135).fFrom == (gt y10.1 (W (v88 - 1))).fRailway)) = true), (rowp sv11 ((v88 : Int).toNat * 5)), 216, rfl, rfl, fun g177 => (opIndexO 0 (ix49 H) (mc rfl g177) rfl (mc rfl g177) ((h178 g177)).1 ((h178 g177)).2), .inl ⟨((((gt y82 v135).fWagon == v3) && ((gt y82 v135).fAt == (gt y10.1 v88).fSpan.fFrom)) && ((gt y82 v135).fFrom == (gt y10.1 (W (v88 - 1))).fRailway)), rfl, rfl⟩⟩), (qr rfl ⟨(((((gt y82 v135).fWagon == v3) && ((gt y82 v135).fAt == (gt y10.1 v88).fSpan.fFrom)) && ((gt y82 v135).fFrom == (gt y10.1 (W (v88 - 1))).fRailway)) = true), (rowp sv11 ((v88 : Int).toNat * 5 + 0)), 216, rfl, rfl, fun g179 => (opFieldO (fo64_0 H) (mc rfl g179)), .inl ⟨((((gt y82 v135).fWagon == v3) && ((gt y82 v135).fAt == (gt y10.1 v88).fSpan.fFrom)) && ((gt y82 v135).fFrom == (gt y10.1 (W (v88 - 1))).fRailway)), rfl, rfl⟩⟩), (qr rfl ⟨(((((gt y82 v135).fWagon == v3) && ((gt y82 v135).fAt == (gt y10.1 v88).fSpan.fFrom)) && ((gt y82 v135).fFrom == (gt y10.1 (W (v88 - 1))).fRailway)) = true), (iv .i64 ((gt y10.1 v88).fRailway)), 216, rfl, rfl, fun g180 => (opLoad1 (tl3 H) ((Pt.row _ 0 (k := (v88 : Int).toNat) (fo := 0) lCustody (mc rfl g180) rfl (by omega) (gt_some (h178 g180)) rfl).take 1 (cs' := [(iv .i64 ((gt y10.1 v88).fRailway))]) rfl)), .inl ⟨((((gt y82 v135).fWagon == v3) && ((gt y82 v135).fAt == (gt y10.1 v88).fSpan.fFrom)) && ((gt y82 v135).fFrom == (gt y10.1 (W (v88 - 1))).fRailway)), rfl, rfl⟩⟩), (qr rfl ⟨(((((gt y82 v135).fWagon == v3) && ((gt y82 v135).fAt == (gt y10.1 v88).fSpan.fFrom)) && ((gt y82 v135).fFrom == (gt y10.1 (W (v88 - 1))).fRailway)) = true), (bv ((gt y82 v135).fTo == (gt y10.1 v88).fRailway)), 216, rfl, rfl, fun g181 => (opEql (mc rfl g181) (mc rfl g181)), .inl ⟨((((gt y82 v135).fWagon == v3) && ((gt y82 v135).fAt == (gt y10.1 v88).fSpan.fFrom)) && ((gt y82 v135).fFrom == (gt y10.1 (W (v88 - 1))).fRailway)), rfl, rfl⟩⟩), (qr rfl (opAnd (Ev.tmp (A := (bv ((((gt y82 v135).fWagon == v3) && ((gt y82 v135).fAt == (gt y10.1 v88).fSpan.fFrom)) && ((gt y82 v135).fFrom == (gt y10.1 (W (v88 - 1))).fRailway)))) (by kernel_rfl)) (fun g182 => (mc rfl g182)) ct)), (qr rfl (opMove (Ev.tmp (A := (bv (((((gt y82 v135).fWagon == v3) && ((gt y82 v135).fAt == (gt y10.1 v88).fSpan.fFrom)) && ((gt y82 v135).fFrom == (gt y10.1 (W (v88 - 1))).fRailway)) && ((gt y82 v135).fTo == (gt y10.1 v88).fRailway)))) (by kernel_rfl)))), (qr rfl ⟨((((((gt y82 v135).fWagon == v3) && ((gt y82 v135).fAt == (gt y10.1 v88).fSpan.fFrom)) && ((gt y82 v135).fFrom == (gt y10.1 (W (v88 - 1))).fRailway)) && ((gt y82 v135).fTo == (gt y10.1 v88).fRailway)) = true), (eqv sv83), 229, rfl, rfl, fun g183 => (opMove (Ev.tmp (A := (eqv sv83)) (by kernel_rfl))), .inl ⟨(((((gt y82 v135).fWagon == v3) && ((gt y82 v135).fAt == (gt y10.1 v88).fSpan.fFrom)) && ((gt y82 v135).fFrom == (gt y10.1 (W (v88 - 1))).fRailway)) && ((gt y82 v135).fTo == (gt y10.1 v88).fRailway)), rfl, rfl⟩⟩), (qr rfl ⟨((((((gt y82 v135).fWagon == v3) && ((gt y82 v135).fAt == (gt y10.1 v88).fSpan.fFrom)) && ((gt y82 v135).fFrom == (gt y10.1 (W (v88 - 1))).fRailway)) && ((gt y82 v135).fTo == (gt y10.1 v88).fRailway)) = true), (iv .i64 v135), 229, rfl, rfl, fun g184 => (opMove (Ev.tmp (A := (iv .i64 v135)) (by kernel_rfl))), .inl ⟨(((((gt y82 v135).fWagon == v3) && ((gt y82 v135).fAt == (gt y10.1 v88).fSpan.fFrom)) && ((gt y82 v135).fFrom == (gt y10.1 (W (v88 - 1))).fRailway)) && ((gt y82 v135).fTo == (gt y10.1 v88).fRailway)), rfl, rfl⟩⟩), (qr rfl ⟨((((((gt y82 v135).fWagon == v3) && ((gt y82 v135).fAt == (gt y10.1 v88).fSpan.fFrom)) && ((gt y82 v135).fFrom == (gt y10.1 (W (v88 - 1))).fRailway)) && ((gt y82 v135).fTo == (gt y10.1 v88).fRailway)) = true), (rowp sv83 ((v135 : Int).toNat * 10)), 229, rfl, rfl, fun g185 => (opIndexO 1 (ix53 H) (mc rfl g185) rfl (mc rfl g185) (h141).1 (h141).2), .inl ⟨(((((gt y82 v135).fWagon == v3) && ((gt y82 v135).fAt == (gt y10.1 v88).fSpan.fFrom)) && ((gt y82 v135).fFrom == (gt y10.1 (W (v88 - 1))).fRailway)) && ((gt y82 v135).fTo == (gt y10.1 v88).fRailway)), rfl, rfl⟩⟩), (qr rfl ⟨((((((gt y82 v135).fWagon == v3) && ((gt y82 v135).fAt == (gt y10.1 v88).fSpan.fFrom)) && ((gt y82 v135).fFrom == (gt y10.1 (W (v88 - 1))).fRailway)) && ((gt y82 v135).fTo == (gt y10.1 v88).fRailway)) = true), (rowp sv83 ((v135 : Int).toNat * 10 + 8)), 229, rfl, rfl, fun g186 => (opFieldO (fo70_7 H) (mc rfl g186)), .inl ⟨(((((gt y82 v135).fWagon == v3) && ((gt y82 v135).fAt == (gt y10.1 v88).fSpan.fFrom)) && ((gt y82 v135).fFrom == (gt y10.1 (W (v88 - 1))).fRailway)) && ((gt y82 v135).fTo == (gt y10.1 v88).fRailway)), rfl, rfl⟩⟩), (qr rfl ⟨((((((gt y82 v135).fWagon == v3) && ((gt y82 v135).fAt == (gt y10.1 v88).fSpan.fFrom)) && ((gt y82 v135).fFrom == (gt y10.1 (W (v88 - 1))).fRailway)) && ((gt y82 v135).fTo == (gt y10.1 v88).fRailway)) = true), (agg (eRef (gt y82 v135).fReceive)), 229, rfl, rfl, fun g187 => (ln (tl43 H) ((Pt.row _ 1 (k := (v135 : Int).toNat) (fo := 8) lHandover (mc rfl g187) rfl (by omega) (gt_some h141) rfl).take 2 (cs' := (eRef (gt y82 v135).fReceive)) rfl) rfl), .inl ⟨(((((gt y82 v135).fWagon == v3) && ((gt y82 v135).fAt == (gt y10.1 v88).fSpan.fFrom)) && ((gt y82 v135).fFrom == (gt y10.1 (W (v88 - 1))).fRailway)) && ((gt y82 v135).fTo == (gt y10.1 v88).fRailway)), rfl, rfl⟩⟩), (qr rfl ⟨((((((gt y82 v135).fWagon == v3) && ((gt y82 v135).fAt == (gt y10.1 v88).fSpan.fFrom)) && ((gt y82 v135).fFrom == (gt y10.1 (W (v88 - 1))).fRailway)) && ((gt y82 v135).fTo == (gt y10.1 v88).fRailway)) = true), (eqv sv11), 229, rfl, rfl, fun g188 => (opMove (Ev.tmp (A := (eqv sv11)) (by kernel_rfl))), .inl ⟨(((((gt y82 v135).fWagon == v3) && ((gt y82 v135).fAt == (gt y10.1 v88).fSpan.fFrom)) && ((gt y82 v135).fFrom == (gt y10.1 (W (v88 - 1))).fRailway)) && ((gt y82 v135).fTo == (gt y10.1 v88).fRailway)), rfl, rfl⟩⟩), (qr rfl ⟨((((((gt y82 v135).fWagon == v3) && ((gt y82 v135).fAt == (gt y10.1 v88).fSpan.fFrom)) && ((gt y82 v135).fFrom == (gt y10.1 (W (v88 - 1))).fRailway)) && ((gt y82 v135).fTo == (gt y10.1 v88).fRailway)) = true), (iv .i64 v88), 229, rfl, rfl, fun g189 => (opMove (Ev.tmp (A := (iv .i64 v88)) (by kernel_rfl))), .inl ⟨(((((gt y82 v135).fWagon == v3) && ((gt y82 v135).fAt == (gt y10.1 v88).fSpan.fFrom)) && ((gt y82 v135).fFrom == (gt y10.1 (W (v88 - 1))).fRailway)) && ((gt y82 v135).fTo == (gt y10.1 v88).fRailway)), rfl, rfl⟩⟩), (qr rfl ⟨((((((gt y82 v135).fWagon == v3) && ((gt y82 v135).fAt == (gt y10.1 v88).fSpan.fFrom)) && ((gt y82 v135).fFrom == (gt y10.1 (W (v88 - 1))).fRailway)) && ((gt y82 v135).fTo == (gt y10.1 v88).fRailway)) = true), (rowp sv11 ((v88 : Int).toNat * 5)), 229, rfl, rfl, fun g190 => (opIndexO 0 (ix49 H) (mc rfl g190) rfl (mc rfl g190) ((h191 g190)).1 ((h191 g190)).2), .inl ⟨(((((gt y82 v135).fWagon == v3) && ((gt y82 v135).fAt == (gt y10.1 v88).fSpan.fFrom)) && ((gt y82 v135).fFrom == (gt y10.1 (W (v88 - 1))).fRailway)) && ((gt y82 v135).fTo == (gt y10.1 v88).fRailway)), rfl, rfl⟩⟩), (qr rfl ⟨((((((gt y82 v135).fWagon == v3) && ((gt y82 v135).fAt == (gt y10.1 v88).fSpan.fFrom)) && ((gt y82 v135).fFrom == (gt y10.1 (W (v88 - 1))).fRailway)) && ((gt y82 v135).fTo == (gt y10.1 v88).fRailway)) = true), (rowp sv11 ((v88 : Int).toNat * 5 + 3)), 229, rfl, rfl, fun g192 => (opFieldO (fo64_2 H) (mc rfl g192)), .inl ⟨(((((gt y82 v135).fWagon == v3) && ((gt y82 v135).fAt == (gt y10.1 v88).fSpan.fFrom)) && ((gt y82 v135).fFrom == (gt y10.1 (W (v88 - 1))).fRailway)) && ((gt y82 v135).fTo == (gt y10.1 v88).fRailway)), rfl, rfl⟩⟩), (qr rfl ⟨((((((gt y82 v135).fWagon == v3) && ((gt y82 v135).fAt == (gt y10.1 v88).fSpan.fFrom)) && ((gt y82 v135).fFrom == (gt y10.1 (W (v88 - 1))).fRailway)) && ((gt y82 v135).fTo == (gt y10.1 v88).fRailway)) = true), (agg (eRef (gt y10.1 v88).fRef)), 229, rfl, rfl, fun g193 => (ln (tl43 H) ((Pt.row _ 0 (k := (v88 : Int).toNat) (fo := 3) lCustody (mc rfl g193) rfl (by omega) (gt_some (h191 g193)) rfl).take 2 (cs' := (eRef (gt y10.1 v88).fRef)) rfl) rfl), .inl ⟨(((((gt y82 v135).fWagon == v3) && ((gt y82 v135).fAt == (gt y10.1 v88).fSpan.fFrom)) && ((gt y82 v135).fFrom == (gt y10.1 (W (v88 - 1))).fRailway)) && ((gt y82 v135).fTo == (gt y10.1 v88).fRailway)), rfl, rfl⟩⟩), (qr rfl ⟨((((((gt y82 v135).fWagon == v3) && ((gt y82 v135).fAt == (gt y10.1 v88).fSpan.fFrom)) && ((gt y82 v135).fFrom == (gt y10.1 (W (v88 - 1))).fRailway)) && ((gt y82 v135).fTo == (gt y10.1 v88).fRailway)) = true), (bv (eqRefB ((gt y82 v135).fReceive) ((gt y10.1 v88).fRef))), 229, rfl, rfl, fun g194 => (opEqS [(.int .i64 ((gt y82 v135).fReceive.fRailway)), (.int .i64 ((gt y82 v135).fReceive.fNo))] [(.int .i64 ((gt y10.1 v88).fRef.fRailway)), (.int .i64 ((gt y10.1 v88).fRef.fNo))] (mc rfl g194) (mc rfl g194) rfl rfl (eg43 H) (fun w => eqRefR H w ((gt y82 v135).fReceive) ((gt y10.1 v88).fRef))), .inl ⟨(((((gt y82 v135).fWagon == v3) && ((gt y82 v135).fAt == (gt y10.1 v88).fSpan.fFrom)) && ((gt y82 v135).fFrom == (gt y10.1 (W (v88 - 1))).fRailway)) && ((gt y82 v135).fTo == (gt y10.1 v88).fRailway)), rfl, rfl⟩⟩), (qr rfl (opAnd (Ev.tmp (A := (bv (((((gt y82 v135).fWagon == v3) && ((gt y82 v135).fAt == (gt y10.1 v88).fSpan.fFrom)) && ((gt y82 v135).fFrom == (gt y10.1 (W (v88 - 1))).fRailway)) && ((gt y82 v135).fTo == (gt y10.1 v88).fRailway)))) (by kernel_rfl)) (fun g195 => (mc rfl g195)) ct)), (qr rfl (opAssign (Ev.tmp (A := (bv ((((((gt y82 v135).fWagon == v3) && ((gt y82 v135).fAt == (gt y10.1 v88).fSpan.fFrom)) && ((gt y82 v135).fFrom == (gt y10.1 (W (v88 - 1))).fRailway)) && ((gt y82 v135).fTo == (gt y10.1 v88).fRailway)) && (eqRefB ((gt y82 v135).fReceive) ((gt y10.1 v88).fRef))))) (by kernel_rfl)))), trivial⟩ trivial (fun _ => ?_)))))))
            refine AtX.in_normal (al [2, 9, 12, 13, 14, 15] [0, 1] rfl rfl rfl (sq (cr [0, 1, 2] rfl (q1 rfl (opMove (mv rfl)) (q1 rfl (opAdd (mv rfl) ct) (q1 rfl (opAssign (mv rfl)) (rn ?_)))))))
            exact AtX.to (ih136 (((((((gt y82 v135).fWagon == v3) && ((gt y82 v135).fAt == (gt y10.1 v88).fSpan.fFrom)) && ((gt y82 v135).fFrom == (gt y10.1 (W (v88 - 1))).fRailway)) && ((gt y82 v135).fTo == (gt y10.1 v88).fRailway)) && (eqRefB ((gt y82 v135).fReceive) ((gt y10.1 v88).fRef))), (W (v135 + 1))) h) [0, 1] (sl rfl) (ol rfl) rfl
           ·
            refine CodeT.exit (AtX.then_exit (AtX.then_exit (AtX.in_hit ?_)))
            exact AtX.to (hJ132 v134 h) [0, 1] (sl rfl) (ol rfl) rfl
       ·
        refine CodeT.exit (AtX.then_exit (AtX.then_exit (AtX.in_hit ?_)))
        exact AtX.to (hJ87 () h) [] trivial trivial rfl
end Px
end
section
namespace Px
open Go Go.RowKit
theorem arg_sl {H : Type} {enc : TypeId × Value → H} {P : Program} {W : World} {sp : Nat → Bool} {held : Bool} {base : Nat} {α : Type} {t : TypeId} {A : α → VP} {R : α → Prop} {v : Value} {d : DataW H} {p : List MemPlace}
    (hu : (match P.underlying t with | some (.slice _) => true | _ => false) = true) (ho : Opn P t 1 (fun y => [A y]) R) (hv : Value.okWide P W .any base t v) (h : DataW.Trod enc P W 0 sp held t v d p) : ∃ y, R y ∧ (A y).h (fun b => b < W.heap.size) W v := by
  obtain ⟨fuel, hf⟩ := h
  obtain ⟨_, y, hR, hc⟩ := ho _ _ _ _ _ _ _ _ hf
  unfold Value.okWide at hv
  split at hu
  · rename_i fs hus
    rw [hus] at hv
    have hcell : v.cells.toList = [v] := by
      cases v <;> first | rfl | (exfalso; simp [Cell.okWide, Cell.ok, hus] at hv)
    rw [hcell] at hc
    obtain ⟨u, hu', hA, _⟩ := hc.2 0 (A y) rfl
    simp at hu'
    subst hu'
    exact ⟨y, hR, hA⟩
  · cases hu
end Px
end
section
set_option linter.unusedVariables false
set_option linter.unusedSimpArgs false
set_option maxHeartbeats 4000000
set_option maxRecDepth 100000
namespace Px
open Go Go.RowKit Go.Proofs
def RPlace (x : Place) : Prop := RI .i64 x.fKind ∧ RI .i64 x.fRailway ∧ RI .i64 x.fOther ∧ True
def REdge (x : Edge) : Prop := RI .i64 x.fA ∧ RI .i64 x.fB ∧ RI .i64 x.fRailway ∧ RI .i64 x.fMinutes ∧ RI .i64 x.fKm ∧ True
def RNetwork (x : Network) : Prop := (RL (RPlace)) x.fPlaces ∧ (RL (REdge)) x.fEdges ∧ True
def RWagonType (x : WagonType) : Prop := RI .i64 x.fLoad ∧ RI .i64 x.fTare ∧ RI .i64 x.fLength ∧ RI .i64 x.fGauge ∧ RI .i64 x.fBrake ∧ RI .u64 x.fClasses ∧ RI .i64 x.fLife ∧ RI .i64 x.fFloor ∧ True
def RWagon (x : Wagon) : Prop := RI .i64 x.fType ∧ RI .i64 x.fOwner ∧ RI .i64 x.fHome ∧ RI .i64 x.fBuilt ∧ RI .i64 x.fWorth ∧ True
def RSwap (x : Swap) : Prop := RI .i64 x.fWanted ∧ RI .i64 x.fGiven ∧ RI .i64 x.fCost ∧ True
def RWash (x : Wash) : Prop := RI .i64 x.fFrom ∧ RI .i64 x.fTo ∧ RI .i64 x.fMinutes ∧ True
def RFleet (x : Fleet) : Prop := (RL (RWagonType)) x.fTypes ∧ (RL (RWagon)) x.fWagons ∧ (RL (RSwap)) x.fSwaps ∧ (RL (RWash)) x.fWashes ∧ True
def RReader (x : Reader) : Prop := RI .i64 x.fPlace ∧ RI .i64 x.fLow ∧ RI .i64 x.fHigh ∧ True
def RShipper (x : Shipper) : Prop := RI .i64 x.fPlace ∧ True
def RSpan (x : Span) : Prop := RI .i64 x.fFrom ∧ RI .i64 x.fTo ∧ True
def RCalendar (x : Calendar) : Prop := (fun f => ∀ i, i < 7 → (RSpan) (f i)) x.fOpen ∧ (RL (RI .i64)) x.fHolidays ∧ True
def RRailwayInfo (x : RailwayInfo) : Prop := RI .u64 x.fKey ∧ RCalendar x.fCalendar ∧ True
def RPool (x : Pool) : Prop := RNetwork x.fNetwork ∧ RFleet x.fFleet ∧ (RL (RReader)) x.fReaders ∧ (RL (RShipper)) x.fShippers ∧ (RL (RRailwayInfo)) x.fRailways ∧ True
def RRef (x : Ref) : Prop := RI .i64 x.fRailway ∧ RI .i64 x.fNo ∧ True
def RPart (x : Part) : Prop := RI .i64 x.fKind ∧ RI .i64 x.fSerial ∧ (fun (_ : Bool) => True) x.fFitted ∧ True
def RItem (x : Item) : Prop := RI .i64 x.fKind ∧ RRef x.fRef ∧ RI .i64 x.fWagon ∧ RI .i64 x.fPlace ∧ RI .i64 x.fOther ∧ RI .i64 x.fNumber ∧ RI .i64 x.fFrom ∧ RI .i64 x.fTo ∧ RI .i64 x.fCode ∧ RI .i64 x.fDest ∧ RI .i64 x.fClass ∧ RI .i64 x.fWeight ∧ RI .i64 x.fAmount ∧ (fun (s : ByteArray) => s.size ≤ maxLen) x.fText ∧ (RL (RPart)) x.fParts ∧ True
def RReport (x : Report) : Prop := RRef x.fRef ∧ RRef x.fBy ∧ RI .i64 x.fTime ∧ RItem x.fItem ∧ True
theorem ou3 {P : Program} (H : P = Try.prog) : P.underlying 3 = some (.int .i64) := by subst H; kernel_rfl
theorem of68 {P : Program} (H : P = Try.prog) : tfields P 68 = some [(3, 0, 1), (3, 1, 1), (3, 2, 1)] := by subst H; kernel_rfl
theorem oc68 {P : Program} (H : P = Try.prog) : P.cellsOf 68 = 3 := by subst H; kernel_rfl
theorem ou22 {P : Program} (H : P = Try.prog) : P.underlying 22 = some (.slice 68) := by subst H; kernel_rfl
theorem of124 {P : Program} (H : P = Try.prog) : tfields P 124 = some [(3, 0, 1), (3, 1, 1), (3, 2, 1), (3, 3, 1), (3, 4, 1)] := by subst H; kernel_rfl
theorem oc124 {P : Program} (H : P = Try.prog) : P.cellsOf 124 = 5 := by subst H; kernel_rfl
theorem ou23 {P : Program} (H : P = Try.prog) : P.underlying 23 = some (.slice 124) := by subst H; kernel_rfl
theorem of25 {P : Program} (H : P = Try.prog) : tfields P 25 = some [(22, 0, 1), (23, 1, 1)] := by subst H; kernel_rfl
theorem oc25 {P : Program} (H : P = Try.prog) : P.cellsOf 25 = 2 := by subst H; kernel_rfl
theorem ou41 {P : Program} (H : P = Try.prog) : P.underlying 41 = some (.int .u64) := by subst H; kernel_rfl
theorem of114 {P : Program} (H : P = Try.prog) : tfields P 114 = some [(3, 0, 1), (3, 1, 1), (3, 2, 1), (3, 3, 1), (3, 4, 1), (41, 5, 1), (3, 6, 1), (3, 7, 1)] := by subst H; kernel_rfl
theorem oc114 {P : Program} (H : P = Try.prog) : P.cellsOf 114 = 8 := by subst H; kernel_rfl
theorem ou26 {P : Program} (H : P = Try.prog) : P.underlying 26 = some (.slice 114) := by subst H; kernel_rfl
theorem of66 {P : Program} (H : P = Try.prog) : tfields P 66 = some [(3, 0, 1), (3, 1, 1), (3, 2, 1), (3, 3, 1), (3, 4, 1)] := by subst H; kernel_rfl
theorem oc66 {P : Program} (H : P = Try.prog) : P.cellsOf 66 = 5 := by subst H; kernel_rfl
theorem ou27 {P : Program} (H : P = Try.prog) : P.underlying 27 = some (.slice 66) := by subst H; kernel_rfl
theorem of133 {P : Program} (H : P = Try.prog) : tfields P 133 = some [(3, 0, 1), (3, 1, 1), (3, 2, 1)] := by subst H; kernel_rfl
theorem oc133 {P : Program} (H : P = Try.prog) : P.cellsOf 133 = 3 := by subst H; kernel_rfl
theorem ou28 {P : Program} (H : P = Try.prog) : P.underlying 28 = some (.slice 133) := by subst H; kernel_rfl
theorem of149 {P : Program} (H : P = Try.prog) : tfields P 149 = some [(3, 0, 1), (3, 1, 1), (3, 2, 1)] := by subst H; kernel_rfl
theorem oc149 {P : Program} (H : P = Try.prog) : P.cellsOf 149 = 3 := by subst H; kernel_rfl
theorem ou29 {P : Program} (H : P = Try.prog) : P.underlying 29 = some (.slice 149) := by subst H; kernel_rfl
theorem of31 {P : Program} (H : P = Try.prog) : tfields P 31 = some [(26, 0, 1), (27, 1, 1), (28, 2, 1), (29, 3, 1)] := by subst H; kernel_rfl
theorem oc31 {P : Program} (H : P = Try.prog) : P.cellsOf 31 = 4 := by subst H; kernel_rfl
theorem of119 {P : Program} (H : P = Try.prog) : tfields P 119 = some [(3, 0, 1), (3, 1, 1), (3, 2, 1)] := by subst H; kernel_rfl
theorem oc119 {P : Program} (H : P = Try.prog) : P.cellsOf 119 = 3 := by subst H; kernel_rfl
theorem ou32 {P : Program} (H : P = Try.prog) : P.underlying 32 = some (.slice 119) := by subst H; kernel_rfl
theorem of122 {P : Program} (H : P = Try.prog) : tfields P 122 = some [(3, 0, 1)] := by subst H; kernel_rfl
theorem oc122 {P : Program} (H : P = Try.prog) : P.cellsOf 122 = 1 := by subst H; kernel_rfl
theorem ou33 {P : Program} (H : P = Try.prog) : P.underlying 33 = some (.slice 122) := by subst H; kernel_rfl
theorem of62 {P : Program} (H : P = Try.prog) : tfields P 62 = some [(3, 0, 1), (3, 1, 1)] := by subst H; kernel_rfl
theorem oc62 {P : Program} (H : P = Try.prog) : P.cellsOf 62 = 2 := by subst H; kernel_rfl
theorem ou103 {P : Program} (H : P = Try.prog) : P.underlying 103 = some (.array 7 62) := by subst H; kernel_rfl
theorem oc103 {P : Program} (H : P = Try.prog) : P.cellsOf 103 = 14 := by subst H; kernel_rfl
theorem ou96 {P : Program} (H : P = Try.prog) : P.underlying 96 = some (.slice 3) := by subst H; kernel_rfl
theorem oc3 {P : Program} (H : P = Try.prog) : P.cellsOf 3 = 1 := by subst H; kernel_rfl
theorem of105 {P : Program} (H : P = Try.prog) : tfields P 105 = some [(103, 0, 14), (96, 14, 1)] := by subst H; kernel_rfl
theorem oc105 {P : Program} (H : P = Try.prog) : P.cellsOf 105 = 15 := by subst H; kernel_rfl
theorem of107 {P : Program} (H : P = Try.prog) : tfields P 107 = some [(41, 0, 1), (105, 1, 15)] := by subst H; kernel_rfl
theorem oc107 {P : Program} (H : P = Try.prog) : P.cellsOf 107 = 16 := by subst H; kernel_rfl
theorem ou34 {P : Program} (H : P = Try.prog) : P.underlying 34 = some (.slice 107) := by subst H; kernel_rfl
theorem of36 {P : Program} (H : P = Try.prog) : tfields P 36 = some [(25, 0, 2), (31, 2, 4), (32, 6, 1), (33, 7, 1), (34, 8, 1)] := by subst H; kernel_rfl
theorem oc36 {P : Program} (H : P = Try.prog) : P.cellsOf 36 = 9 := by subst H; kernel_rfl
theorem of43 {P : Program} (H : P = Try.prog) : tfields P 43 = some [(3, 0, 1), (3, 1, 1)] := by subst H; kernel_rfl
theorem oc43 {P : Program} (H : P = Try.prog) : P.cellsOf 43 = 2 := by subst H; kernel_rfl
theorem ou9 {P : Program} (H : P = Try.prog) : P.underlying 9 = some .string := by subst H; kernel_rfl
theorem ou4 {P : Program} (H : P = Try.prog) : P.underlying 4 = some .bool := by subst H; kernel_rfl
theorem of163 {P : Program} (H : P = Try.prog) : tfields P 163 = some [(3, 0, 1), (3, 1, 1), (4, 2, 1)] := by subst H; kernel_rfl
theorem oc163 {P : Program} (H : P = Try.prog) : P.cellsOf 163 = 3 := by subst H; kernel_rfl
theorem ou44 {P : Program} (H : P = Try.prog) : P.underlying 44 = some (.slice 163) := by subst H; kernel_rfl
theorem of46 {P : Program} (H : P = Try.prog) : tfields P 46 = some [(3, 0, 1), (43, 1, 2), (3, 3, 1), (3, 4, 1), (3, 5, 1), (3, 6, 1), (3, 7, 1), (3, 8, 1), (3, 9, 1), (3, 10, 1), (3, 11, 1), (3, 12, 1), (3, 13, 1), (9, 14, 1), (44, 15, 1)] := by subst H; kernel_rfl
theorem oc46 {P : Program} (H : P = Try.prog) : P.cellsOf 46 = 16 := by subst H; kernel_rfl
theorem of48 {P : Program} (H : P = Try.prog) : tfields P 48 = some [(43, 0, 2), (43, 2, 2), (3, 4, 1), (46, 5, 16)] := by subst H; kernel_rfl
theorem oc48 {P : Program} (H : P = Try.prog) : P.cellsOf 48 = 21 := by subst H; kernel_rfl
theorem ou37 {P : Program} (H : P = Try.prog) : P.underlying 37 = some (.slice 48) := by subst H; kernel_rfl
theorem op_Place {P : Program} (H : P = Try.prog) : Opn P 68 3 ePlace RPlace := by
  intro H' enc w sp held fuel cs x h
  obtain ⟨hl, m, hf⟩ := trod_fields (of68 H) h
  replace hl : cs.length = 3 := hl.trans (oc68 H)
  obtain ⟨x0, h0⟩ := hf 0 _ _ _ rfl
  obtain ⟨_, y0, r0, c0⟩ := (Opn.int (ou3 H)) _ _ _ _ _ _ _ _ h0
  obtain ⟨x1, h1⟩ := hf 1 _ _ _ rfl
  obtain ⟨_, y1, r1, c1⟩ := (Opn.int (ou3 H)) _ _ _ _ _ _ _ _ h1
  obtain ⟨x2, h2⟩ := hf 2 _ _ _ rfl
  obtain ⟨_, y2, r2, c2⟩ := (Opn.int (ou3 H)) _ _ _ _ _ _ _ _ h2
  exact ⟨hl, ⟨y0, y1, y2⟩, ⟨r0, r1, r2, trivial⟩, CellsH.tile c0 (CellsH.tile c1 (CellsH.tile c2 (CellsH.tile0 hl)))⟩
theorem op_Edge {P : Program} (H : P = Try.prog) : Opn P 124 5 eEdge REdge := by
  intro H' enc w sp held fuel cs x h
  obtain ⟨hl, m, hf⟩ := trod_fields (of124 H) h
  replace hl : cs.length = 5 := hl.trans (oc124 H)
  obtain ⟨x0, h0⟩ := hf 0 _ _ _ rfl
  obtain ⟨_, y0, r0, c0⟩ := (Opn.int (ou3 H)) _ _ _ _ _ _ _ _ h0
  obtain ⟨x1, h1⟩ := hf 1 _ _ _ rfl
  obtain ⟨_, y1, r1, c1⟩ := (Opn.int (ou3 H)) _ _ _ _ _ _ _ _ h1
  obtain ⟨x2, h2⟩ := hf 2 _ _ _ rfl
  obtain ⟨_, y2, r2, c2⟩ := (Opn.int (ou3 H)) _ _ _ _ _ _ _ _ h2
  obtain ⟨x3, h3⟩ := hf 3 _ _ _ rfl
  obtain ⟨_, y3, r3, c3⟩ := (Opn.int (ou3 H)) _ _ _ _ _ _ _ _ h3
  obtain ⟨x4, h4⟩ := hf 4 _ _ _ rfl
  obtain ⟨_, y4, r4, c4⟩ := (Opn.int (ou3 H)) _ _ _ _ _ _ _ _ h4
  exact ⟨hl, ⟨y0, y1, y2, y3, y4⟩, ⟨r0, r1, r2, r3, r4, trivial⟩, CellsH.tile c0 (CellsH.tile c1 (CellsH.tile c2 (CellsH.tile c3 (CellsH.tile c4 (CellsH.tile0 hl)))))⟩
theorem op_Network {P : Program} (H : P = Try.prog) : Opn P 25 2 eNetwork RNetwork := by
  intro H' enc w sp held fuel cs x h
  obtain ⟨hl, m, hf⟩ := trod_fields (of25 H) h
  replace hl : cs.length = 2 := hl.trans (oc25 H)
  obtain ⟨x0, h0⟩ := hf 0 _ _ _ rfl
  obtain ⟨_, y0, r0, c0⟩ := (Opn.slice (ou22 H) (oc68 H) (by decide) (op_Place H)) _ _ _ _ _ _ _ _ h0
  obtain ⟨x1, h1⟩ := hf 1 _ _ _ rfl
  obtain ⟨_, y1, r1, c1⟩ := (Opn.slice (ou23 H) (oc124 H) (by decide) (op_Edge H)) _ _ _ _ _ _ _ _ h1
  exact ⟨hl, ⟨y0, y1⟩, ⟨r0, r1, trivial⟩, CellsH.tile c0 (CellsH.tile c1 (CellsH.tile0 hl))⟩
theorem op_WagonType {P : Program} (H : P = Try.prog) : Opn P 114 8 eWagonType RWagonType := by
  intro H' enc w sp held fuel cs x h
  obtain ⟨hl, m, hf⟩ := trod_fields (of114 H) h
  replace hl : cs.length = 8 := hl.trans (oc114 H)
  obtain ⟨x0, h0⟩ := hf 0 _ _ _ rfl
  obtain ⟨_, y0, r0, c0⟩ := (Opn.int (ou3 H)) _ _ _ _ _ _ _ _ h0
  obtain ⟨x1, h1⟩ := hf 1 _ _ _ rfl
  obtain ⟨_, y1, r1, c1⟩ := (Opn.int (ou3 H)) _ _ _ _ _ _ _ _ h1
  obtain ⟨x2, h2⟩ := hf 2 _ _ _ rfl
  obtain ⟨_, y2, r2, c2⟩ := (Opn.int (ou3 H)) _ _ _ _ _ _ _ _ h2
  obtain ⟨x3, h3⟩ := hf 3 _ _ _ rfl
  obtain ⟨_, y3, r3, c3⟩ := (Opn.int (ou3 H)) _ _ _ _ _ _ _ _ h3
  obtain ⟨x4, h4⟩ := hf 4 _ _ _ rfl
  obtain ⟨_, y4, r4, c4⟩ := (Opn.int (ou3 H)) _ _ _ _ _ _ _ _ h4
  obtain ⟨x5, h5⟩ := hf 5 _ _ _ rfl
  obtain ⟨_, y5, r5, c5⟩ := (Opn.int (ou41 H)) _ _ _ _ _ _ _ _ h5
  obtain ⟨x6, h6⟩ := hf 6 _ _ _ rfl
  obtain ⟨_, y6, r6, c6⟩ := (Opn.int (ou3 H)) _ _ _ _ _ _ _ _ h6
  obtain ⟨x7, h7⟩ := hf 7 _ _ _ rfl
  obtain ⟨_, y7, r7, c7⟩ := (Opn.int (ou3 H)) _ _ _ _ _ _ _ _ h7
  exact ⟨hl, ⟨y0, y1, y2, y3, y4, y5, y6, y7⟩, ⟨r0, r1, r2, r3, r4, r5, r6, r7, trivial⟩, CellsH.tile c0 (CellsH.tile c1 (CellsH.tile c2 (CellsH.tile c3 (CellsH.tile c4 (CellsH.tile c5 (CellsH.tile c6 (CellsH.tile c7 (CellsH.tile0 hl))))))))⟩
theorem op_Wagon {P : Program} (H : P = Try.prog) : Opn P 66 5 eWagon RWagon := by
  intro H' enc w sp held fuel cs x h
  obtain ⟨hl, m, hf⟩ := trod_fields (of66 H) h
  replace hl : cs.length = 5 := hl.trans (oc66 H)
  obtain ⟨x0, h0⟩ := hf 0 _ _ _ rfl
  obtain ⟨_, y0, r0, c0⟩ := (Opn.int (ou3 H)) _ _ _ _ _ _ _ _ h0
  obtain ⟨x1, h1⟩ := hf 1 _ _ _ rfl
  obtain ⟨_, y1, r1, c1⟩ := (Opn.int (ou3 H)) _ _ _ _ _ _ _ _ h1
  obtain ⟨x2, h2⟩ := hf 2 _ _ _ rfl
  obtain ⟨_, y2, r2, c2⟩ := (Opn.int (ou3 H)) _ _ _ _ _ _ _ _ h2
  obtain ⟨x3, h3⟩ := hf 3 _ _ _ rfl
  obtain ⟨_, y3, r3, c3⟩ := (Opn.int (ou3 H)) _ _ _ _ _ _ _ _ h3
  obtain ⟨x4, h4⟩ := hf 4 _ _ _ rfl
  obtain ⟨_, y4, r4, c4⟩ := (Opn.int (ou3 H)) _ _ _ _ _ _ _ _ h4
  exact ⟨hl, ⟨y0, y1, y2, y3, y4⟩, ⟨r0, r1, r2, r3, r4, trivial⟩, CellsH.tile c0 (CellsH.tile c1 (CellsH.tile c2 (CellsH.tile c3 (CellsH.tile c4 (CellsH.tile0 hl)))))⟩
theorem op_Swap {P : Program} (H : P = Try.prog) : Opn P 133 3 eSwap RSwap := by
  intro H' enc w sp held fuel cs x h
  obtain ⟨hl, m, hf⟩ := trod_fields (of133 H) h
  replace hl : cs.length = 3 := hl.trans (oc133 H)
  obtain ⟨x0, h0⟩ := hf 0 _ _ _ rfl
  obtain ⟨_, y0, r0, c0⟩ := (Opn.int (ou3 H)) _ _ _ _ _ _ _ _ h0
  obtain ⟨x1, h1⟩ := hf 1 _ _ _ rfl
  obtain ⟨_, y1, r1, c1⟩ := (Opn.int (ou3 H)) _ _ _ _ _ _ _ _ h1
  obtain ⟨x2, h2⟩ := hf 2 _ _ _ rfl
  obtain ⟨_, y2, r2, c2⟩ := (Opn.int (ou3 H)) _ _ _ _ _ _ _ _ h2
  exact ⟨hl, ⟨y0, y1, y2⟩, ⟨r0, r1, r2, trivial⟩, CellsH.tile c0 (CellsH.tile c1 (CellsH.tile c2 (CellsH.tile0 hl)))⟩
theorem op_Wash {P : Program} (H : P = Try.prog) : Opn P 149 3 eWash RWash := by
  intro H' enc w sp held fuel cs x h
  obtain ⟨hl, m, hf⟩ := trod_fields (of149 H) h
  replace hl : cs.length = 3 := hl.trans (oc149 H)
  obtain ⟨x0, h0⟩ := hf 0 _ _ _ rfl
  obtain ⟨_, y0, r0, c0⟩ := (Opn.int (ou3 H)) _ _ _ _ _ _ _ _ h0
  obtain ⟨x1, h1⟩ := hf 1 _ _ _ rfl
  obtain ⟨_, y1, r1, c1⟩ := (Opn.int (ou3 H)) _ _ _ _ _ _ _ _ h1
  obtain ⟨x2, h2⟩ := hf 2 _ _ _ rfl
  obtain ⟨_, y2, r2, c2⟩ := (Opn.int (ou3 H)) _ _ _ _ _ _ _ _ h2
  exact ⟨hl, ⟨y0, y1, y2⟩, ⟨r0, r1, r2, trivial⟩, CellsH.tile c0 (CellsH.tile c1 (CellsH.tile c2 (CellsH.tile0 hl)))⟩
theorem op_Fleet {P : Program} (H : P = Try.prog) : Opn P 31 4 eFleet RFleet := by
  intro H' enc w sp held fuel cs x h
  obtain ⟨hl, m, hf⟩ := trod_fields (of31 H) h
  replace hl : cs.length = 4 := hl.trans (oc31 H)
  obtain ⟨x0, h0⟩ := hf 0 _ _ _ rfl
  obtain ⟨_, y0, r0, c0⟩ := (Opn.slice (ou26 H) (oc114 H) (by decide) (op_WagonType H)) _ _ _ _ _ _ _ _ h0
  obtain ⟨x1, h1⟩ := hf 1 _ _ _ rfl
  obtain ⟨_, y1, r1, c1⟩ := (Opn.slice (ou27 H) (oc66 H) (by decide) (op_Wagon H)) _ _ _ _ _ _ _ _ h1
  obtain ⟨x2, h2⟩ := hf 2 _ _ _ rfl
  obtain ⟨_, y2, r2, c2⟩ := (Opn.slice (ou28 H) (oc133 H) (by decide) (op_Swap H)) _ _ _ _ _ _ _ _ h2
  obtain ⟨x3, h3⟩ := hf 3 _ _ _ rfl
  obtain ⟨_, y3, r3, c3⟩ := (Opn.slice (ou29 H) (oc149 H) (by decide) (op_Wash H)) _ _ _ _ _ _ _ _ h3
  exact ⟨hl, ⟨y0, y1, y2, y3⟩, ⟨r0, r1, r2, r3, trivial⟩, CellsH.tile c0 (CellsH.tile c1 (CellsH.tile c2 (CellsH.tile c3 (CellsH.tile0 hl))))⟩
theorem op_Reader {P : Program} (H : P = Try.prog) : Opn P 119 3 eReader RReader := by
  intro H' enc w sp held fuel cs x h
  obtain ⟨hl, m, hf⟩ := trod_fields (of119 H) h
  replace hl : cs.length = 3 := hl.trans (oc119 H)
  obtain ⟨x0, h0⟩ := hf 0 _ _ _ rfl
  obtain ⟨_, y0, r0, c0⟩ := (Opn.int (ou3 H)) _ _ _ _ _ _ _ _ h0
  obtain ⟨x1, h1⟩ := hf 1 _ _ _ rfl
  obtain ⟨_, y1, r1, c1⟩ := (Opn.int (ou3 H)) _ _ _ _ _ _ _ _ h1
  obtain ⟨x2, h2⟩ := hf 2 _ _ _ rfl
  obtain ⟨_, y2, r2, c2⟩ := (Opn.int (ou3 H)) _ _ _ _ _ _ _ _ h2
  exact ⟨hl, ⟨y0, y1, y2⟩, ⟨r0, r1, r2, trivial⟩, CellsH.tile c0 (CellsH.tile c1 (CellsH.tile c2 (CellsH.tile0 hl)))⟩
theorem op_Shipper {P : Program} (H : P = Try.prog) : Opn P 122 1 eShipper RShipper := by
  intro H' enc w sp held fuel cs x h
  obtain ⟨hl, m, hf⟩ := trod_fields (of122 H) h
  replace hl : cs.length = 1 := hl.trans (oc122 H)
  obtain ⟨x0, h0⟩ := hf 0 _ _ _ rfl
  obtain ⟨_, y0, r0, c0⟩ := (Opn.int (ou3 H)) _ _ _ _ _ _ _ _ h0
  exact ⟨hl, ⟨y0⟩, ⟨r0, trivial⟩, CellsH.tile c0 (CellsH.tile0 hl)⟩
theorem op_Span {P : Program} (H : P = Try.prog) : Opn P 62 2 eSpan RSpan := by
  intro H' enc w sp held fuel cs x h
  obtain ⟨hl, m, hf⟩ := trod_fields (of62 H) h
  replace hl : cs.length = 2 := hl.trans (oc62 H)
  obtain ⟨x0, h0⟩ := hf 0 _ _ _ rfl
  obtain ⟨_, y0, r0, c0⟩ := (Opn.int (ou3 H)) _ _ _ _ _ _ _ _ h0
  obtain ⟨x1, h1⟩ := hf 1 _ _ _ rfl
  obtain ⟨_, y1, r1, c1⟩ := (Opn.int (ou3 H)) _ _ _ _ _ _ _ _ h1
  exact ⟨hl, ⟨y0, y1⟩, ⟨r0, r1, trivial⟩, CellsH.tile c0 (CellsH.tile c1 (CellsH.tile0 hl))⟩
theorem op_Calendar {P : Program} (H : P = Try.prog) : Opn P 105 15 eCalendar RCalendar := by
  intro H' enc w sp held fuel cs x h
  obtain ⟨hl, m, hf⟩ := trod_fields (of105 H) h
  replace hl : cs.length = 15 := hl.trans (oc105 H)
  obtain ⟨x0, h0⟩ := hf 0 _ _ _ rfl
  obtain ⟨_, y0, r0, c0⟩ := (Opn.array (ou103 H) (oc62 H) (oc103 H) rfl (op_Span H)) _ _ _ _ _ _ _ _ h0
  obtain ⟨x1, h1⟩ := hf 1 _ _ _ rfl
  obtain ⟨_, y1, r1, c1⟩ := (Opn.slice (ou96 H) (oc3 H) (by decide) (Opn.int (ou3 H))) _ _ _ _ _ _ _ _ h1
  exact ⟨hl, ⟨y0, y1⟩, ⟨r0, r1, trivial⟩, CellsH.of_eq (CellsH.tile c0 (CellsH.tile c1 (CellsH.tile0 hl))) (by simp [eCalendar])⟩
theorem op_RailwayInfo {P : Program} (H : P = Try.prog) : Opn P 107 16 eRailwayInfo RRailwayInfo := by
  intro H' enc w sp held fuel cs x h
  obtain ⟨hl, m, hf⟩ := trod_fields (of107 H) h
  replace hl : cs.length = 16 := hl.trans (oc107 H)
  obtain ⟨x0, h0⟩ := hf 0 _ _ _ rfl
  obtain ⟨_, y0, r0, c0⟩ := (Opn.int (ou41 H)) _ _ _ _ _ _ _ _ h0
  obtain ⟨x1, h1⟩ := hf 1 _ _ _ rfl
  obtain ⟨_, y1, r1, c1⟩ := (op_Calendar H) _ _ _ _ _ _ _ _ h1
  exact ⟨hl, ⟨y0, y1⟩, ⟨r0, r1, trivial⟩, CellsH.of_eq (CellsH.tile c0 (CellsH.tile c1 (CellsH.tile0 hl))) (by simp [eCalendar, eRailwayInfo])⟩
theorem op_Pool {P : Program} (H : P = Try.prog) : Opn P 36 9 ePool RPool := by
  intro H' enc w sp held fuel cs x h
  obtain ⟨hl, m, hf⟩ := trod_fields (of36 H) h
  replace hl : cs.length = 9 := hl.trans (oc36 H)
  obtain ⟨x0, h0⟩ := hf 0 _ _ _ rfl
  obtain ⟨_, y0, r0, c0⟩ := (op_Network H) _ _ _ _ _ _ _ _ h0
  obtain ⟨x1, h1⟩ := hf 1 _ _ _ rfl
  obtain ⟨_, y1, r1, c1⟩ := (op_Fleet H) _ _ _ _ _ _ _ _ h1
  obtain ⟨x2, h2⟩ := hf 2 _ _ _ rfl
  obtain ⟨_, y2, r2, c2⟩ := (Opn.slice (ou32 H) (oc119 H) (by decide) (op_Reader H)) _ _ _ _ _ _ _ _ h2
  obtain ⟨x3, h3⟩ := hf 3 _ _ _ rfl
  obtain ⟨_, y3, r3, c3⟩ := (Opn.slice (ou33 H) (oc122 H) (by decide) (op_Shipper H)) _ _ _ _ _ _ _ _ h3
  obtain ⟨x4, h4⟩ := hf 4 _ _ _ rfl
  obtain ⟨_, y4, r4, c4⟩ := (Opn.slice (ou34 H) (oc107 H) (by decide) (op_RailwayInfo H)) _ _ _ _ _ _ _ _ h4
  exact ⟨hl, ⟨y0, y1, y2, y3, y4⟩, ⟨r0, r1, r2, r3, r4, trivial⟩, CellsH.tile c0 (CellsH.tile c1 (CellsH.tile c2 (CellsH.tile c3 (CellsH.tile c4 (CellsH.tile0 hl)))))⟩
theorem op_Ref {P : Program} (H : P = Try.prog) : Opn P 43 2 eRef RRef := by
  intro H' enc w sp held fuel cs x h
  obtain ⟨hl, m, hf⟩ := trod_fields (of43 H) h
  replace hl : cs.length = 2 := hl.trans (oc43 H)
  obtain ⟨x0, h0⟩ := hf 0 _ _ _ rfl
  obtain ⟨_, y0, r0, c0⟩ := (Opn.int (ou3 H)) _ _ _ _ _ _ _ _ h0
  obtain ⟨x1, h1⟩ := hf 1 _ _ _ rfl
  obtain ⟨_, y1, r1, c1⟩ := (Opn.int (ou3 H)) _ _ _ _ _ _ _ _ h1
  exact ⟨hl, ⟨y0, y1⟩, ⟨r0, r1, trivial⟩, CellsH.tile c0 (CellsH.tile c1 (CellsH.tile0 hl))⟩
theorem op_Part {P : Program} (H : P = Try.prog) : Opn P 163 3 ePart RPart := by
  intro H' enc w sp held fuel cs x h
  obtain ⟨hl, m, hf⟩ := trod_fields (of163 H) h
  replace hl : cs.length = 3 := hl.trans (oc163 H)
  obtain ⟨x0, h0⟩ := hf 0 _ _ _ rfl
  obtain ⟨_, y0, r0, c0⟩ := (Opn.int (ou3 H)) _ _ _ _ _ _ _ _ h0
  obtain ⟨x1, h1⟩ := hf 1 _ _ _ rfl
  obtain ⟨_, y1, r1, c1⟩ := (Opn.int (ou3 H)) _ _ _ _ _ _ _ _ h1
  obtain ⟨x2, h2⟩ := hf 2 _ _ _ rfl
  obtain ⟨_, y2, r2, c2⟩ := (Opn.bool (ou4 H)) _ _ _ _ _ _ _ _ h2
  exact ⟨hl, ⟨y0, y1, y2⟩, ⟨r0, r1, r2, trivial⟩, CellsH.tile c0 (CellsH.tile c1 (CellsH.tile c2 (CellsH.tile0 hl)))⟩
theorem op_Item {P : Program} (H : P = Try.prog) : Opn P 46 16 eItem RItem := by
  intro H' enc w sp held fuel cs x h
  obtain ⟨hl, m, hf⟩ := trod_fields (of46 H) h
  replace hl : cs.length = 16 := hl.trans (oc46 H)
  obtain ⟨x0, h0⟩ := hf 0 _ _ _ rfl
  obtain ⟨_, y0, r0, c0⟩ := (Opn.int (ou3 H)) _ _ _ _ _ _ _ _ h0
  obtain ⟨x1, h1⟩ := hf 1 _ _ _ rfl
  obtain ⟨_, y1, r1, c1⟩ := (op_Ref H) _ _ _ _ _ _ _ _ h1
  obtain ⟨x2, h2⟩ := hf 2 _ _ _ rfl
  obtain ⟨_, y2, r2, c2⟩ := (Opn.int (ou3 H)) _ _ _ _ _ _ _ _ h2
  obtain ⟨x3, h3⟩ := hf 3 _ _ _ rfl
  obtain ⟨_, y3, r3, c3⟩ := (Opn.int (ou3 H)) _ _ _ _ _ _ _ _ h3
  obtain ⟨x4, h4⟩ := hf 4 _ _ _ rfl
  obtain ⟨_, y4, r4, c4⟩ := (Opn.int (ou3 H)) _ _ _ _ _ _ _ _ h4
  obtain ⟨x5, h5⟩ := hf 5 _ _ _ rfl
  obtain ⟨_, y5, r5, c5⟩ := (Opn.int (ou3 H)) _ _ _ _ _ _ _ _ h5
  obtain ⟨x6, h6⟩ := hf 6 _ _ _ rfl
  obtain ⟨_, y6, r6, c6⟩ := (Opn.int (ou3 H)) _ _ _ _ _ _ _ _ h6
  obtain ⟨x7, h7⟩ := hf 7 _ _ _ rfl
  obtain ⟨_, y7, r7, c7⟩ := (Opn.int (ou3 H)) _ _ _ _ _ _ _ _ h7
  obtain ⟨x8, h8⟩ := hf 8 _ _ _ rfl
  obtain ⟨_, y8, r8, c8⟩ := (Opn.int (ou3 H)) _ _ _ _ _ _ _ _ h8
  obtain ⟨x9, h9⟩ := hf 9 _ _ _ rfl
  obtain ⟨_, y9, r9, c9⟩ := (Opn.int (ou3 H)) _ _ _ _ _ _ _ _ h9
  obtain ⟨x10, h10⟩ := hf 10 _ _ _ rfl
  obtain ⟨_, y10, r10, c10⟩ := (Opn.int (ou3 H)) _ _ _ _ _ _ _ _ h10
  obtain ⟨x11, h11⟩ := hf 11 _ _ _ rfl
  obtain ⟨_, y11, r11, c11⟩ := (Opn.int (ou3 H)) _ _ _ _ _ _ _ _ h11
  obtain ⟨x12, h12⟩ := hf 12 _ _ _ rfl
  obtain ⟨_, y12, r12, c12⟩ := (Opn.int (ou3 H)) _ _ _ _ _ _ _ _ h12
  obtain ⟨x13, h13⟩ := hf 13 _ _ _ rfl
  obtain ⟨_, y13, r13, c13⟩ := (Opn.string (ou9 H)) _ _ _ _ _ _ _ _ h13
  obtain ⟨x14, h14⟩ := hf 14 _ _ _ rfl
  obtain ⟨_, y14, r14, c14⟩ := (Opn.slice (ou44 H) (oc163 H) (by decide) (op_Part H)) _ _ _ _ _ _ _ _ h14
  exact ⟨hl, ⟨y0, y1, y2, y3, y4, y5, y6, y7, y8, y9, y10, y11, y12, y13, y14⟩, ⟨r0, r1, r2, r3, r4, r5, r6, r7, r8, r9, r10, r11, r12, r13, r14, trivial⟩, CellsH.tile c0 (CellsH.tile c1 (CellsH.tile c2 (CellsH.tile c3 (CellsH.tile c4 (CellsH.tile c5 (CellsH.tile c6 (CellsH.tile c7 (CellsH.tile c8 (CellsH.tile c9 (CellsH.tile c10 (CellsH.tile c11 (CellsH.tile c12 (CellsH.tile c13 (CellsH.tile c14 (CellsH.tile0 hl)))))))))))))))⟩
theorem op_Report {P : Program} (H : P = Try.prog) : Opn P 48 21 eReport RReport := by
  intro H' enc w sp held fuel cs x h
  obtain ⟨hl, m, hf⟩ := trod_fields (of48 H) h
  replace hl : cs.length = 21 := hl.trans (oc48 H)
  obtain ⟨x0, h0⟩ := hf 0 _ _ _ rfl
  obtain ⟨_, y0, r0, c0⟩ := (op_Ref H) _ _ _ _ _ _ _ _ h0
  obtain ⟨x1, h1⟩ := hf 1 _ _ _ rfl
  obtain ⟨_, y1, r1, c1⟩ := (op_Ref H) _ _ _ _ _ _ _ _ h1
  obtain ⟨x2, h2⟩ := hf 2 _ _ _ rfl
  obtain ⟨_, y2, r2, c2⟩ := (Opn.int (ou3 H)) _ _ _ _ _ _ _ _ h2
  obtain ⟨x3, h3⟩ := hf 3 _ _ _ rfl
  obtain ⟨_, y3, r3, c3⟩ := (op_Item H) _ _ _ _ _ _ _ _ h3
  exact ⟨hl, ⟨y0, y1, y2, y3⟩, ⟨r0, r1, r2, r3, trivial⟩, CellsH.tile c0 (CellsH.tile c1 (CellsH.tile c2 (CellsH.tile c3 (CellsH.tile0 hl))))⟩
end Px
end
section
namespace Px
open Go
set_option linter.unusedVariables false
set_option linter.unusedSimpArgs false
/-- A loop that counts up. -/
theorem loop_up {σ ρ : Type} (L : Nat → Int → σ → Option ρ) (len : Nat) (Inv : Nat → σ → Prop) (G : Option ρ → Prop)
    (step : ∀ n i s, i < len → Inv i s → (∀ s', Inv (i + 1) s' → G (L n ((i : Int) + 1) s')) → G (L (n + 1) i s))
    (done : ∀ n s, Inv len s → G (L (n + 1) len s)) : ∀ n i s, i ≤ len → Inv i s → len - i < n → G (L n i s) := by
  intro n
  induction n with
  | zero => intro i s _ _ h; omega
  | succ n ih =>
    intro i s hi hI hn
    by_cases h : i = len
    · subst h; exact done n s hI
    · refine step n i s (by omega) hI fun s' hs' => ?_
      have := ih (i + 1) s' (by omega) hs' (by omega)
      simpa using this
/-- The same from the start. -/
theorem loop_up0 {σ ρ : Type} (L : Nat → Int → σ → Option ρ) (len : Nat) (Inv : Nat → σ → Prop) (G : Option ρ → Prop)
    (step : ∀ n i s, i < len → Inv i s → (∀ s', Inv (i + 1) s' → G (L n ((i : Int) + 1) s')) → G (L (n + 1) i s))
    (done : ∀ n s, Inv len s → G (L (n + 1) len s)) (n : Nat) (s : σ) (h : Inv 0 s) (hn : len < n) : G (L n 0 s) := by
  simpa using loop_up L len Inv G step done n 0 s (Nat.zero_le _) h (by omega)
theorem W_def (x : Int) : W x = if x % 18446744073709551616 ≥ 9223372036854775808 then x % 18446744073709551616 - 18446744073709551616 else x % 18446744073709551616 := by
  simp [W, IntKind.wrap, IntKind.bits, IntKind.signed]
theorem U_def (x : Int) : U x = x % 18446744073709551616 := by
  simp [U, IntKind.wrap, IntKind.bits, IntKind.signed]
theorem W_id {x : Int} (h : -9223372036854775808 ≤ x) (h' : x ≤ 9223372036854775807) : W x = x := by
  rw [W_def]; split <;> omega
theorem U_id {x : Int} (h : 0 ≤ x) (h' : x ≤ 18446744073709551615) : U x = x := by
  rw [U_def]; omega
theorem all_take_succ {α : Type} [Inhabited α] (ok : α → Bool) (l : List α) (i : Nat) (h : i < l.length) : (l.take (i + 1)).all ok = ((l.take i).all ok && ok (gt l (i : Int))) := by
  rw [List.take_succ_eq_append_getElem h, List.all_append]
  simp [gt, h]
theorem any_take_succ {α : Type} [Inhabited α] (ok : α → Bool) (l : List α) (i : Nat) (h : i < l.length) : (l.take (i + 1)).any ok = ((l.take i).any ok || ok (gt l (i : Int))) := by
  rw [List.take_succ_eq_append_getElem h, List.any_append]
  simp [gt, h]
theorem take_succ_gt {α : Type} [Inhabited α] (l : List α) (i : Nat) (h : i < l.length) : l.take (i + 1) = l.take i ++ [gt l (i : Int)] := by
  rw [List.take_succ_eq_append_getElem h]
  simp [gt, h]
theorem gt_mem {α : Type} [Inhabited α] {l : List α} {i : Int} (h0 : 0 ≤ i) (h : i < (l.length : Int)) : gt l i ∈ l := by
  have hlt : i.toNat < l.length := by omega
  simp [gt, hlt]
theorem gt_nat {α : Type} [Inhabited α] {l : List α} {i : Nat} (h : i < l.length) : gt l (i : Int) = l[i] := by
  simp [gt, h]
theorem drop_gt {α : Type} [Inhabited α] (l : List α) (i : Nat) (h : i < l.length) : l.drop i = gt l (i : Int) :: l.drop (i + 1) := by
  rw [gt_nat h, List.getElem_cons_drop]
theorem mem_gt {α : Type} [Inhabited α] {l : List α} {x : α} (h : x ∈ l) : ∃ i : Nat, i < l.length ∧ gt l (i : Int) = x := by
  obtain ⟨i, hi, e⟩ := List.getElem_of_mem h
  exact ⟨i, hi, by rw [gt_nat hi, e]⟩
theorem setAt_len {α : Type} (l : List α) (i : Int) (x : α) : (setAt l i x).length = l.length := by simp [setAt]
theorem gt_app_left {α : Type} [Inhabited α] (l m : List α) (j : Int) (h0 : 0 ≤ j) (h : j < (l.length : Int)) : gt (l ++ m) j = gt l j := by
  have : j.toNat < l.length := by omega
  simp [gt, List.getD, List.getElem?_append, this]
theorem gt_app_right {α : Type} [Inhabited α] (l m : List α) (j : Int) (h : (l.length : Int) ≤ j) : gt (l ++ m) j = gt m (j - l.length) := by
  have : ¬ j.toNat < l.length := by omega
  have e : (j - l.length).toNat = j.toNat - l.length := by omega
  simp [gt, List.getD, List.getElem?_append, this, e]
/-- A loop over a list that remembers whether all its elements were in order. -/
theorem loop_all {α ρ : Type} [Inhabited α] (L : Nat → Int → Int → Option ρ) (k : Int → Option ρ) (l : List α) (ok : α → Bool)
    (step : ∀ (n i : Nat) (s : Int), i < l.length → L (n + 1) i s = L n ((i : Int) + 1) (bif ok (gt l i) then s else 1)) (done : ∀ n s, L (n + 1) l.length s = k s) :
    ∀ n s, l.length < n → L n 0 s = k (bif l.all ok then s else 1) := by
  intro n s hn
  refine loop_up L l.length (fun i t => t = bif (l.take i).all ok then s else 1) (fun o => o = k (bif l.all ok then s else 1)) ?_ ?_ n 0 s (Nat.zero_le _) (by simp) (by omega)
  · intro n i t hi ht hs
    rw [step n i t hi]
    refine hs _ ?_
    rw [all_take_succ ok l i hi, ht]
    cases (l.take i).all ok <;> cases ok (gt l (i : Int)) <;> simp
  · intro n t ht
    rw [done, ht, List.take_length]
/-- A loop over a list that ends at the first element of a kind. -/
theorem loop_find {α ρ : Type} [Inhabited α] (L : Nat → Int → Option ρ) (k : Option ρ) (l : List α) (p : α → Bool) (g : α → Option ρ)
    (step : ∀ n i : Nat, i < l.length → L (n + 1) i = bif p (gt l i) then g (gt l i) else L n ((i : Int) + 1)) (done : ∀ n, L (n + 1) l.length = k) :
    ∀ n, l.length < n → L n 0 = match l.find? p with | some x => g x | none => k := by
  intro n hn
  refine loop_up0 (fun n i (_ : Unit) => L n i) l.length (fun i _ => ∀ x ∈ l.take i, p x = false) (fun o => o = match l.find? p with | some x => g x | none => k) ?_ ?_ n () (by simp) hn
  · intro n i _ hi hI hs
    simp only [step n i hi]
    cases e : p (gt l (i : Int)) with
    | false =>
      refine hs () ?_
      rw [take_succ_gt l i hi]
      intro x hx
      rcases List.mem_append.1 hx with h | h
      · exact hI x h
      · simp at h; rw [h]; exact e
    | true =>
      have : l.find? p = some (gt l (i : Int)) := by
        have h1 : l = l.take i ++ (gt l (i : Int) :: l.drop (i + 1)) := by
          rw [gt_nat hi, List.getElem_cons_drop, List.take_append_drop]
        generalize gt l (i : Int) = y at *
        rw [h1, List.find?_append, List.find?_eq_none.2 (fun x hx => by simp [hI x hx])]
        simp [List.find?_cons, e]
      rw [this]; rfl
  · intro n _ hI
    simp only [done]
    rw [List.take_length] at hI
    rw [List.find?_eq_none.2 (fun x hx => by simp [hI x hx])]
theorem find_any {α ρ : Type} (l : List α) (p : α → Bool) (r k : ρ) : (match l.find? p with | some _ => r | none => k) = bif l.any p then r else k := by
  induction l with
  | nil => rfl
  | cons x l ih =>
    rw [List.find?_cons, List.any_cons]
    cases p x
    · simpa using ih
    · rfl
theorem loop_any {α ρ : Type} [Inhabited α] (L : Nat → Int → Option ρ) (k r : Option ρ) (l : List α) (p : α → Bool)
    (step : ∀ n i : Nat, i < l.length → L (n + 1) i = bif p (gt l i) then r else L n ((i : Int) + 1)) (done : ∀ n, L (n + 1) l.length = k)
    (n : Nat) (hn : l.length < n) : L n 0 = bif l.any p then r else k := by
  rw [loop_find L k l p (fun _ => r) step done n hn, find_any]
def bet (a b c : Int) : Bool := decide (b ≤ a) && decide (a ≤ c)
theorem bet_iff {a b c : Int} : bet a b c = true ↔ b ≤ a ∧ a ≤ c := by simp [bet]
theorem bet_t {a b c : Int} (h : bet a b c = true) : b ≤ a ∧ a ≤ c := bet_iff.1 h
theorem bool_or_false {a b : Bool} : (a || b) = false ↔ a = false ∧ b = false := by cases a <;> cases b <;> simp
theorem min2_lt {x y z : Int} : min2 x y < z ↔ x < z ∨ y < z := by unfold min2; split <;> omega
end Px
end
section
namespace Px
open Go
set_option linter.unusedVariables false
set_option linter.unusedSimpArgs false
structure Swo {α : Type} (lt : α → α → Bool) : Prop where
  asym : ∀ a b, lt a b = true → lt b a = false
  ntr : ∀ a b c, lt a b = false → lt b c = false → lt a c = false
def Srt {α : Type} (lt : α → α → Bool) (l : List α) : Prop := l.Pairwise fun a b => lt b a = false
def eqv2 {α : Type} (lt : α → α → Bool) (a b : α) : Bool := !lt a b && !lt b a
def Stb {α : Type} (lt : α → α → Bool) (l r : List α) : Prop := r.Perm l ∧ ∀ a, r.filter (eqv2 lt a) = l.filter (eqv2 lt a)
section
variable {α : Type} {lt : α → α → Bool}
theorem Swo.irr (h : Swo lt) (a : α) : lt a a = false := by
  cases e : lt a a with
  | false => rfl
  | true => exact (h.asym a a e).symm.trans e |>.symm
theorem eqv2_iff {a b : α} : eqv2 lt a b = true ↔ lt a b = false ∧ lt b a = false := by simp [eqv2]
theorem Stb.refl (l : List α) : Stb lt l l := ⟨.refl _, fun _ => rfl⟩
theorem Stb.trans {a b c : List α} (h : Stb lt a b) (h' : Stb lt b c) : Stb lt a c := ⟨h'.1.trans h.1, fun x => (h'.2 x).trans (h.2 x)⟩
theorem Stb.app {a b c d : List α} (h : Stb lt a b) (h' : Stb lt c d) : Stb lt (a ++ c) (b ++ d) := ⟨h.1.append h'.1, fun x => by simp only [List.filter_append, h.2 x, h'.2 x]⟩
theorem Stb.mem {l r : List α} (h : Stb lt l r) {x : α} : x ∈ r ↔ x ∈ l := h.1.mem_iff
theorem Stb.len {l r : List α} (h : Stb lt l r) : r.length = l.length := h.1.length_eq
theorem filt_none (a : α) {X : List α} (h : ∀ x ∈ X, eqv2 lt a x = false) : X.filter (eqv2 lt a) = [] := by
  rw [List.filter_eq_nil_iff]; intro x hx; simp [h x hx]
theorem Stb.swap (hs : Swo lt) {X Y : List α} (h : ∀ x ∈ X, ∀ y ∈ Y, lt y x = true) : Stb lt (X ++ Y) (Y ++ X) := by
  refine ⟨List.perm_append_comm, fun a => ?_⟩
  simp only [List.filter_append]
  by_cases hx : ∃ x ∈ X, eqv2 lt a x = true
  · obtain ⟨x, hx, ex⟩ := hx
    have : Y.filter (eqv2 lt a) = [] := filt_none a fun y hy => by
      cases e : eqv2 lt a y with
      | false => rfl
      | true =>
        have h1 := eqv2_iff.1 e
        have h2 := eqv2_iff.1 ex
        have := hs.ntr y a x h1.2 h2.1
        rw [h x hx y hy] at this; cases this
    rw [this]; simp
  · have : X.filter (eqv2 lt a) = [] := filt_none a fun x hx' => by
      cases e : eqv2 lt a x with
      | false => rfl
      | true => exact absurd ⟨x, hx', e⟩ hx
    rw [this]; simp
theorem Srt.app {a b : List α} (h : Srt lt a) (h' : Srt lt b) (hc : ∀ x ∈ a, ∀ y ∈ b, lt y x = false) : Srt lt (a ++ b) := List.pairwise_append.2 ⟨h, h', hc⟩
theorem Srt.parts {a b : List α} (h : Srt lt (a ++ b)) : Srt lt a ∧ Srt lt b ∧ ∀ x ∈ a, ∀ y ∈ b, lt y x = false := List.pairwise_append.1 h
theorem Srt.unique (hs : Swo lt) : ∀ {r r' : List α}, Srt lt r → Srt lt r' → Stb lt r r' → r = r'
  | [], r', _, _, h => by
    have := h.len; simp at this; exact this.symm
  | x :: r, r', hr, hr', h => by
    cases r' with
    | nil => have := h.len; simp at this
    | cons y r' =>
      have hr1 := List.pairwise_cons.1 hr
      have hr2 := List.pairwise_cons.1 hr'
      have h1 : lt y x = false := by
        rcases List.mem_cons.1 (h.mem.1 (List.mem_cons_self (a := y))) with e | e
        · rw [e]; exact hs.irr _
        · exact hr1.1 y e
      have h2 : lt x y = false := by
        rcases List.mem_cons.1 (h.mem.2 (List.mem_cons_self (a := x))) with e | e
        · rw [e]; exact hs.irr _
        · exact hr2.1 x e
      have e1 : eqv2 lt x x = true := eqv2_iff.2 ⟨hs.irr _, hs.irr _⟩
      have e2 : eqv2 lt x y = true := eqv2_iff.2 ⟨h2, h1⟩
      have hf := h.2 x
      rw [List.filter_cons_of_pos e1, List.filter_cons_of_pos e2] at hf
      have hxy : y = x := (List.cons.inj hf).1
      subst hxy
      congr 1
      refine Srt.unique hs hr1.2 hr2.2 ⟨(List.perm_cons _).1 h.1, fun a => ?_⟩
      have := h.2 a
      simp only [List.filter_cons] at this
      split at this
      · exact (List.cons.inj this).2
      · exact this
/-- Merging by parts. -/
theorem merge_parts (hs : Swo lt) {A B C E R1 R2 : List α} (h1 : Srt lt (A ++ B)) (h2 : Srt lt (C ++ E)) (hA : ∀ x ∈ B, ∀ y ∈ C, lt y x = true) (hB : ∀ x ∈ A, ∀ y ∈ E, lt y x = false)
    (s1 : Srt lt R1) (t1 : Stb lt (A ++ C) R1) (s2 : Srt lt R2) (t2 : Stb lt (B ++ E) R2) : Srt lt (R1 ++ R2) ∧ Stb lt ((A ++ B) ++ (C ++ E)) (R1 ++ R2) := by
  refine ⟨s1.app s2 fun u hu v hv => ?_, ?_⟩
  · have hu := List.mem_append.1 (t1.mem.1 hu)
    have hv := List.mem_append.1 (t2.mem.1 hv)
    rcases hu with hu | hu <;> rcases hv with hv | hv
    · exact h1.parts.2.2 u hu v hv
    · exact hB u hu v hv
    · exact hs.asym _ _ (hA v hv u hu)
    · exact h2.parts.2.2 u hu v hv
  · have : Stb lt ((A ++ B) ++ (C ++ E)) ((A ++ C) ++ (B ++ E)) := by
      have := ((Stb.refl (lt := lt) A).app (Stb.swap hs hA)).app (Stb.refl E)
      simpa [List.append_assoc] using this
    exact this.trans (t1.app t2)
theorem lt_of_ends (hs : Swo lt) {y c x b : α} (h1 : lt c y = false) (h2 : lt c b = true) (h3 : lt x b = false) : lt y x = true := by
  cases e : lt y x with
  | true => rfl
  | false =>
    have := hs.ntr _ _ _ (hs.ntr _ _ _ h1 e) h3
    rw [h2] at this; cases this
theorem nlt_of_ends (hs : Swo lt) {y e x a : α} (h1 : lt y e = false) (h2 : lt e a = false) (h3 : lt a x = false) : lt y x = false := hs.ntr _ _ _ (hs.ntr _ _ _ h1 h2) h3
/-- Inserting after all that are not later. -/
theorem insert_stb (hs : Swo lt) {A B : List α} {x : α} (h : ∀ y ∈ B, lt x y = true) : Stb lt (A ++ B ++ [x]) (A ++ [x] ++ B) := by
  have := (Stb.refl (lt := lt) A).app (Stb.swap hs (X := B) (Y := [x]) fun z hz y hy => by simp at hy; subst hy; exact h z hz)
  simpa [List.append_assoc] using this
/-- A binary search. -/
theorem bsearch {ρ : Type} (L : Nat → Int → Int → Option ρ) (k : Int → Option ρ) (pred : Nat → Bool) (R : Nat) (s0 : Nat)
    (step : ∀ n s r : Nat, s0 ≤ s → s < r → r ≤ R → L (n + 1) s r = if pred ((s + r) / 2) = true then L n (((s + r) / 2 + 1 : Nat)) r else L n s ((s + r) / 2 : Nat)) (done : ∀ n s : Nat, L (n + 1) s s = k s) :
    ∀ n s r : Nat, s0 ≤ s → s ≤ r → r ≤ R → r - s < n → ∃ c : Nat, s ≤ c ∧ c ≤ r ∧ (c = s ∨ pred (c - 1) = true) ∧ (c = r ∨ pred c = false) ∧ L n s r = k c := by
  intro n
  induction n with
  | zero => intro s r _ _ _ h; omega
  | succ n ih =>
    intro s r h0 h hR hn
    by_cases e : s = r
    · subst e; exact ⟨s, Nat.le_refl _, Nat.le_refl _, .inl rfl, .inl rfl, done n s⟩
    · rw [step n s r h0 (by omega) hR]
      cases hp : pred ((s + r) / 2) with
      | true =>
        rw [if_pos rfl]
        obtain ⟨c, h1, h2, h3, h4, h5⟩ := ih ((s + r) / 2 + 1) r (by omega) (by omega) hR (by omega)
        refine ⟨c, by omega, h2, ?_, h4, h5⟩
        rcases h3 with h3 | h3
        · right; rw [h3]; simpa using hp
        · exact .inr h3
      | false =>
        rw [if_neg (by simp)]
        obtain ⟨c, h1, h2, h3, h4, h5⟩ := ih s ((s + r) / 2) h0 (by omega) (by omega) (by omega)
        refine ⟨c, h1, by omega, h3, ?_, h5⟩
        rcases h4 with h4 | h4
        · right; rw [h4]; exact hp
        · exact .inr h4
end
section arr
variable {α : Type} [Inhabited α]
theorem gt_at {A B : List α} {x : α} {i : Int} (h : i = A.length) : gt (A ++ x :: B) i = x := by
  subst h; rw [gt_app_right _ _ _ (Int.le_refl _)]; simp [gt]
omit [Inhabited α] in
theorem set_at {A B : List α} {x y : α} {i : Int} (h : i = A.length) : setAt (A ++ x :: B) i y = A ++ y :: B := by
  subst h; simp [setAt]
theorem mid_W {n : Int} (h0 : 0 ≤ n) (h : n ≤ 4611686018427387904) : W ((U (W n)).fdiv 2) = n / 2 := by
  rw [W_id (x := n) (by omega) (by omega), U_id h0 (by omega), Int.fdiv_eq_ediv_of_nonneg _ (by omega), W_id (by omega) (by omega)]
end arr
/-- A comparing function answers on D, and says lt. -/
def Cmp {α : Type} (D : α → Prop) (y : α → α → Option Int) (lt : α → α → Bool) : Prop := ∀ a b, D a → D b → ∃ z, y a b = some z ∧ decide (z < 0) = lt a b
theorem gcall_y {α : Type} [Inhabited α] {p : Prop} [Decidable p] {x : Option α} (h : p) : gcall p x = x := if_pos h
theorem gcall_n {α : Type} [Inhabited α] {p : Prop} [Decidable p] {x : Option α} (h : ¬ p) : gcall p x = some default := if_neg h
theorem nil_or_snoc {α : Type} (l : List α) : l = [] ∨ ∃ S w, l = S ++ [w] := by
  rcases List.eq_nil_or_concat l with h | ⟨S, w, h⟩
  · exact .inl h
  · exact .inr ⟨S, w, by rw [h, List.concat_eq_append]⟩
/-- Sorted blocks of bs elements, the last one perhaps shorter. -/
inductive Runs {α : Type} (lt : α → α → Bool) (bs : Nat) : List α → Prop
  | last {l : List α} (h : l.length ≤ bs) (hs : Srt lt l) : Runs lt bs l
  | cons {b r : List α} (h : b.length = bs) (hs : Srt lt b) (hr : Runs lt bs r) : Runs lt bs (b ++ r)
theorem Runs.small {α : Type} {lt : α → α → Bool} {bs : Nat} {l : List α} (h : Runs lt bs l) (hl : l.length ≤ bs) : Srt lt l := by
  cases h with
  | last _ hs => exact hs
  | cons h hs hr =>
    rename_i b r
    have : r = [] := List.eq_nil_of_length_eq_zero (by simp at hl; omega)
    rw [this, List.append_nil]; exact hs
theorem Runs.big {α : Type} {lt : α → α → Bool} {bs : Nat} {l : List α} (h : Runs lt bs l) (hl : bs < l.length) : ∃ b r, l = b ++ r ∧ b.length = bs ∧ Srt lt b ∧ Runs lt bs r ∧ r ≠ [] := by
  cases h with
  | last h _ => omega
  | cons h hs hr =>
    rename_i b r
    exact ⟨b, r, rfl, h, hs, hr, by intro e; subst e; simp at hl; omega⟩
end Px
end
section
namespace Px
open Go
set_option linter.unusedVariables false
set_option linter.unusedSimpArgs false
def cmpI (a b : Int) : Int := if a < b then -1 else if b < a then 1 else 0
def orI : List Int → Int
  | [] => 0
  | x :: l => if x = 0 then orI l else x
theorem cmpI_lt {a b : Int} : cmpI a b < 0 ↔ a < b := by unfold cmpI; split <;> (try split) <;> omega
theorem cmpI_eq {a b : Int} : cmpI a b = 0 ↔ a = b := by unfold cmpI; split <;> (try split) <;> omega
theorem orI_lt {x : Int} {l : List Int} : orI (x :: l) < 0 ↔ x < 0 ∨ x = 0 ∧ orI l < 0 := by
  simp only [orI]; split <;> omega
theorem orI_nil_lt : ¬ orI [] < 0 := by decide
theorem cmp_Compare_eq (φ : Nat) (a b : Int) : cmp_Compare φ a b = some (cmpI a b) := by
  simp only [cmp_Compare, cmp_isNaN, bne_self_eq_false, Option.bind_some, Bool.false_eq_true, if_false, cmpI, decide_eq_true_eq]
  split
  · rfl
  · split <;> rfl
theorem cmp_Or_loop (φ : Nat) (l : List Int) (hl : l.length ≤ 1000000) : ∀ (n i : Nat), i ≤ l.length → l.length - i < n → cmp_Or_L4 φ l (cmp_Or_j2 φ) n (i : Int) = some (orI (l.drop i)) := by
  intro n
  induction n with
  | zero => intro i _ h; omega
  | succ n ih =>
    intro i hi hn
    rw [cmp_Or_L4]
    by_cases h : i = l.length
    · rw [if_neg (by simp; omega), h, List.drop_length]; rfl
    · rw [if_pos (by simp; omega), ck_pos ⟨by omega, by omega⟩, drop_gt l i (by omega)]
      have w : W ((i : Int) + 1) = ((i + 1 : Nat) : Int) := by rw [W_id (by omega) (by omega)]; simp
      rw [w, ih (i + 1) (by omega) (by omega)]
      simp only [orI]
      by_cases q : gt l (i : Int) = 0
      · rw [if_neg (by simp [q]), if_pos q]
      · rw [if_pos (by simp [q]), if_neg q]
theorem cmp_Or_eq (φ : Nat) (l : List Int) (hl : l.length ≤ 1000000) (hφ : l.length < φ) : cmp_Or φ l = some (orI l) := by
  have := cmp_Or_loop φ l hl φ 0 (Nat.zero_le _) (by omega)
  simpa [cmp_Or] using this
def refC (a b : Ref) : Int := orI [cmpI a.fRailway b.fRailway, cmpI a.fNo b.fNo]
theorem byRef_eq (φ : Nat) (hφ : 3 < φ) (a b : Ref) : handover_byRef φ a b = some (refC a b) := by
  simp only [handover_byRef, cmp_Compare_eq, Option.bind_some]
  rw [cmp_Or_eq φ _ (by simp) (by simp; omega)]
  rfl
def matC (a b : Handover) : Int := orI [cmpI a.fAt b.fAt, cmpI a.fWagon b.fWagon, refC a.fDeliver b.fDeliver]
theorem Match_c1_eq (φ : Nat) (hφ : 4 < φ) (a b : Handover) : handover_Match_c1 φ a b = some (matC a b) := by
  simp only [handover_Match_c1, cmp_Compare_eq, byRef_eq φ (by omega : 3 < φ), Option.bind_some]
  rw [cmp_Or_eq φ _ (by simp) (by simp; omega)]
  rfl
def pairC (l : List Report) (i k : Int) : Int := orI [cmpI (gt l i).fItem.fFrom (gt l k).fItem.fFrom, refC (gt l i).fRef (gt l k).fRef]
theorem pairs_c1_eq (φ : Nat) (hφ : 3 < φ) (l : List Report) (i k : Int) (h1 : 0 ≤ i ∧ i < (l.length : Int)) (h2 : 0 ≤ k ∧ k < (l.length : Int)) : handover_pairs_c1 φ i k l = some (pairC l i k) := by
  unfold handover_pairs_c1
  rw [ck_pos h1, ck_pos h2]
  simp only [cmp_Compare_eq, byRef_eq φ hφ, Option.bind_some]
  rw [cmp_Or_eq φ _ (by simp) (by simp; omega)]
  rfl
def refLt (a b : Ref) : Bool := decide (refC a b < 0)
def matLt (a b : Handover) : Bool := decide (matC a b < 0)
def pairLt (l : List Report) (i k : Int) : Bool := decide (pairC l i k < 0)
theorem refC_lt {a b : Ref} : refC a b < 0 ↔ a.fRailway < b.fRailway ∨ a.fRailway = b.fRailway ∧ a.fNo < b.fNo := by
  unfold refC; rw [orI_lt, orI_lt, cmpI_lt, cmpI_eq, cmpI_lt, cmpI_eq]; simp [orI_nil_lt]
theorem matC_lt {a b : Handover} : matC a b < 0 ↔ a.fAt < b.fAt ∨ a.fAt = b.fAt ∧ (a.fWagon < b.fWagon ∨ a.fWagon = b.fWagon ∧ refC a.fDeliver b.fDeliver < 0) := by
  unfold matC; rw [orI_lt, orI_lt, orI_lt, cmpI_lt, cmpI_eq, cmpI_lt, cmpI_eq]; simp [orI_nil_lt]
theorem pairC_lt {l : List Report} {i k : Int} : pairC l i k < 0 ↔ (gt l i).fItem.fFrom < (gt l k).fItem.fFrom ∨ (gt l i).fItem.fFrom = (gt l k).fItem.fFrom ∧ refC (gt l i).fRef (gt l k).fRef < 0 := by
  unfold pairC; rw [orI_lt, orI_lt, cmpI_lt, cmpI_eq]; simp [orI_nil_lt]
theorem swo_ref : Swo refLt := by
  constructor
  · intro a b h
    simp only [refLt, decide_eq_true_eq, decide_eq_false_iff_not, refC_lt] at h ⊢; omega
  · intro a b c h h'
    simp only [refLt, decide_eq_false_iff_not, refC_lt] at h h' ⊢; omega
theorem swo_mat : Swo matLt := by
  constructor
  · intro a b h
    simp only [matLt, decide_eq_true_eq, decide_eq_false_iff_not, matC_lt, refC_lt] at h ⊢; omega
  · intro a b c h h'
    simp only [matLt, decide_eq_false_iff_not, matC_lt, refC_lt] at h h' ⊢; omega
theorem swo_pair (l : List Report) : Swo (pairLt l) := by
  constructor
  · intro a b h
    simp only [pairLt, decide_eq_true_eq, decide_eq_false_iff_not, pairC_lt, refC_lt] at h ⊢; omega
  · intro a b c h h'
    simp only [pairLt, decide_eq_false_iff_not, pairC_lt, refC_lt] at h h' ⊢; omega
theorem cmp_mat (φ : Nat) (hφ : 4 < φ) : Cmp (fun _ => True) (fun a b => handover_Match_c1 φ a b) matLt := fun a b _ _ => ⟨_, Match_c1_eq φ hφ a b, rfl⟩
theorem cmp_pair (φ : Nat) (hφ : 3 < φ) (l : List Report) : Cmp (fun i => 0 ≤ i ∧ i < (l.length : Int)) (fun a b => handover_pairs_c1 φ a b l) (pairLt l) := fun a b h1 h2 => ⟨_, pairs_c1_eq φ hφ l a b h1 h2, rfl⟩
end Px
end
section
namespace Px
open Go
set_option linter.unusedVariables false
set_option linter.unusedSimpArgs false
theorem Pool.eta' (p : Pool) : Pool.mk p.fNetwork p.fFleet p.fReaders p.fShippers p.fRailways = p := rfl
theorem Item.eta' (x : Item) : Item.mk x.fKind x.fRef x.fWagon x.fPlace x.fOther x.fNumber x.fFrom x.fTo x.fCode x.fDest x.fClass x.fWeight x.fAmount x.fText x.fParts = x := rfl
theorem Report.eta' (x : Report) : Report.mk x.fRef x.fBy x.fTime x.fItem = x := rfl
theorem fits_small {n b : Nat} (h : n ≤ 1000000) (hb : b ≤ 1000000) : fits n b := by
  have : n * b ≤ 1000000 * 1000000 := Nat.mul_le_mul h hb
  unfold fits
  first | omega | (constructor <;> omega)
def idxF {α : Type} [Inhabited α] (p : α → Bool) (l : List α) : List Int := ((List.range l.length).filter fun (i : Nat) => p (gt l (i : Int))).map fun (i : Nat) => (i : Int)
theorem idxF_mem {α : Type} [Inhabited α] {p : α → Bool} {l : List α} {i : Int} : i ∈ idxF p l ↔ 0 ≤ i ∧ i < (l.length : Int) ∧ p (gt l i) = true := by
  simp only [idxF, List.mem_map, List.mem_filter, List.mem_range]
  constructor
  · rintro ⟨a, ⟨h1, h2⟩, rfl⟩
    exact ⟨by omega, by omega, h2⟩
  · rintro ⟨h1, h2, h3⟩
    refine ⟨i.toNat, ⟨by omega, ?_⟩, by omega⟩
    rw [Int.toNat_of_nonneg h1]; exact h3
theorem idxF_len {α : Type} [Inhabited α] (p : α → Bool) (l : List α) : (idxF p l).length ≤ l.length := by
  simp only [idxF, List.length_map]
  exact Nat.le_trans (List.length_filter_le _ _) (by simp)
theorem of_eq (φ : Nat) (p : Pool) (l : List Report) (kind : Int) (ok : Item → Bool) (hl : l.length ≤ 100000) (hφ : l.length < φ)
    (hok : ∀ r ∈ l, r.fItem.fKind = kind → ∃ e, edi_Check φ p r.fItem = some e ∧ (e == 0) = ok r.fItem) :
    handover_of φ p l kind = some (idxF (fun r => r.fItem.fKind == kind && ok r.fItem) l) := by
  unfold handover_of
  refine loop_up0 (handover_of_L11 φ p l kind (handover_of_j7 φ)) l.length (fun i s => s = ((List.range i).filter fun (j : Nat) => (gt l (j : Int)).fItem.fKind == kind && ok (gt l (j : Int)).fItem).map fun (j : Nat) => (j : Int))
    (fun o => o = some (idxF (fun r => r.fItem.fKind == kind && ok r.fItem) l)) ?_ ?_ φ [] rfl hφ
  · intro n i s hi hs hk
    have hsl : s.length ≤ i := by rw [hs, List.length_map]; exact Nat.le_trans (List.length_filter_le _ _) (by simp)
    have hnext : ((List.range (i + 1)).filter fun (j : Nat) => (gt l (j : Int)).fItem.fKind == kind && ok (gt l (j : Int)).fItem).map (fun (j : Nat) => (j : Int)) = if ((gt l (i : Int)).fItem.fKind == kind && ok (gt l (i : Int)).fItem) = true then s ++ [(i : Int)] else s := by
      rw [List.range_succ, List.filter_append, List.map_append, ← hs]
      cases h : ((gt l (i : Int)).fItem.fKind == kind && ok (gt l (i : Int)).fItem) <;> simp [h]
    rw [handover_of_L11, if_pos (by simp; omega), ck_pos ⟨by omega, by omega⟩]
    have w : W ((i : Int) + 1) = (i : Int) + 1 := W_id (by omega) (by omega)
    simp only [Pool.eta', Item.eta', handover_of_j24, w]
    by_cases q : (gt l (i : Int)).fItem.fKind = kind
    · obtain ⟨e, h1, h2⟩ := hok (gt l (i : Int)) (gt_mem (by omega) (by omega)) q
      rw [gcall_y (by simp [q]), h1]
      simp only [Option.bind_some]
      rw [show (e == 0) = ok (gt l (i : Int)).fItem from h2]
      split
      · rename_i h
        rw [ck_pos (fits_small (by simp; omega) (by omega))]
        exact hk _ (by rw [hnext, if_pos h])
      · rename_i h
        exact hk _ (by rw [hnext, if_neg h])
    · rw [gcall_n (by simp [q])]
      simp only [Option.bind_some]
      have hq : ((gt l (i : Int)).fItem.fKind == kind) = false := by simp [q]
      rw [hq, Bool.false_and, if_neg (by simp)]
      exact hk _ (by rw [hnext, hq]; simp)
  · intro n s hs
    rw [handover_of_L11, if_neg (by simp), hs]
    rfl
end Px
end
section
namespace Px
open Go
set_option linter.unusedVariables false
set_option linter.unusedSimpArgs false
def gapW (a b : Report) : Int := max2 (W (a.fItem.fFrom - b.fItem.fFrom)) (W (b.fItem.fFrom - a.fItem.fFrom))
theorem gap_eq (φ : Nat) (a b : Report) : handover_gap φ a b = some (gapW a b) := rfl
def unf5 (l : List Report) (used : List (Int × Bool)) (i k : Int) : Bool :=
  (((((mget used k).getD false) || ((gt l k).fRef.fRailway != (gt l i).fItem.fOther)) || ((gt l k).fItem.fOther != (gt l i).fRef.fRailway)) || ((gt l k).fItem.fWagon != (gt l i).fItem.fWagon)) || ((gt l k).fItem.fPlace != (gt l i).fItem.fPlace)
def unfit (l : List Report) (used : List (Int × Bool)) (i k : Int) : Bool := unf5 l used i k || decide (60 < gapW (gt l i) (gt l k))
def betC (l : List Report) (i b k : Int) : Int := orI [cmpI (gapW (gt l i) (gt l b)) (gapW (gt l i) (gt l k)), refC (gt l b).fRef (gt l k).fRef]
def bstep (l : List Report) (used : List (Int × Bool)) (i b k : Int) : Int :=
  if unfit l used i k = true then b else if (decide (0 ≤ b) && decide (betC l i b k ≤ 0)) = true then b else k
def bestOf (l : List Report) (used : List (Int × Bool)) (i : Int) (rs : List Int) : Int := rs.foldl (bstep l used i) (-1)
theorem bestOf_eq (φ : Nat) (hφ : 4 < φ) (l : List Report) (rs ds : List Int) (d : Int) (used : List (Int × Bool)) (k : Int → Option (List (Nat → Int))) (hl : rs.length ≤ 100000) (hr : ∀ z ∈ rs, 0 ≤ z ∧ z < (l.length : Int)) (hφ2 : rs.length < φ) :
    handover_pairs_L50 φ l rs ds d used k φ (-1) 0 = k (bestOf l used (gt ds d) rs) := by
  refine loop_up0 (fun n j s => handover_pairs_L50 φ l rs ds d used k n s j) rs.length (fun j s => s = (rs.take j).foldl (bstep l used (gt ds d)) (-1) ∧ (0 ≤ s → s < (l.length : Int)))
    (fun o => o = k (bestOf l used (gt ds d) rs)) ?_ ?_ φ (-1) ⟨by simp, by omega⟩ hφ2
  · intro n j s hj ⟨hs, hin⟩ hk
    have hz := hr _ (gt_mem (l := rs) (i := (j : Int)) (by omega) (by omega))
    have hnext : (rs.take (j + 1)).foldl (bstep l used (gt ds d)) (-1) = bstep l used (gt ds d) s (gt rs (j : Int)) := by
      rw [take_succ_gt rs j hj, List.foldl_append, ← hs]; rfl
    have w : W ((j : Int) + 1) = (j : Int) + 1 := W_id (by omega) (by omega)
    rw [handover_pairs_L50, if_pos (by simp; omega), ck_pos ⟨by omega, by omega⟩, ck_pos hz]
    simp only [Item.eta', Report.eta', gap_eq, handover_pairs_j53, w]
    have hu5 : (((((mget used (gt rs (j : Int))).getD false) || ((gt l (gt rs (j : Int))).fRef.fRailway != (gt l (gt ds d)).fItem.fOther)) || ((gt l (gt rs (j : Int))).fItem.fOther != (gt l (gt ds d)).fRef.fRailway)) || ((gt l (gt rs (j : Int))).fItem.fWagon != (gt l (gt ds d)).fItem.fWagon) || ((gt l (gt rs (j : Int))).fItem.fPlace != (gt l (gt ds d)).fItem.fPlace)) = unf5 l used (gt ds d) (gt rs (j : Int)) := rfl
    rw [hu5]
    have hun : unfit l used (gt ds d) (gt rs (j : Int)) = (unf5 l used (gt ds d) (gt rs (j : Int)) || decide (60 < gapW (gt l (gt ds d)) (gt l (gt rs (j : Int))))) := rfl
    have htail : ∀ (b : Bool), b = unfit l used (gt ds d) (gt rs (j : Int)) →
        (if b = true then handover_pairs_L50 φ l rs ds d used k n s ((j : Int) + 1) else
          ck ((decide (0 ≤ s) = true) → ((0 : Int) ≤ s ∧ s < (l.length : Int))) ((gcall (decide (0 ≤ s) = true) (some (gapW (gt l (gt ds d)) (gt l s)))).bind fun y103 => ((gcall (decide (0 ≤ s) = true) (some (gapW (gt l (gt ds d)) (gt l (gt rs (j : Int)))))).bind fun y107 => ((gcall (decide (0 ≤ s) = true) (cmp_Compare φ y103 y107)).bind fun y109 => ((gcall (decide (0 ≤ s) = true) (handover_byRef φ ((gt l s).fRef) ((gt l (gt rs (j : Int))).fRef))).bind fun y118 => ((gcall (decide (0 ≤ s) = true) (cmp_Or φ [y109, y118])).bind fun y125 =>
            (if (decide (0 ≤ s) && decide (y125 ≤ 0)) = true then handover_pairs_L50 φ l rs ds d used k n s ((j : Int) + 1) else handover_pairs_L50 φ l rs ds d used k n (gt rs (j : Int)) ((j : Int) + 1)))))))) = k (bestOf l used (gt ds d) rs) := by
      intro b hb
      cases b with
      | true =>
        rw [if_pos rfl]
        have e : bstep l used (gt ds d) s (gt rs (j : Int)) = s := by unfold bstep; rw [if_pos hb.symm]
        exact hk s ⟨by rw [hnext, e], hin⟩
      | false =>
        rw [if_neg (by simp)]
        by_cases q : 0 ≤ s
        · rw [ck_pos (fun _ => ⟨q, hin q⟩)]
          simp only [gcall_y (show decide (0 ≤ s) = true by simp [q]), Option.bind_some, cmp_Compare_eq, byRef_eq φ (by omega : 3 < φ)]
          rw [cmp_Or_eq φ _ (by simp) (by simp; omega)]
          simp only [Option.bind_some]
          have hb2 : orI [cmpI (gapW (gt l (gt ds d)) (gt l s)) (gapW (gt l (gt ds d)) (gt l (gt rs (j : Int)))), refC (gt l s).fRef (gt l (gt rs (j : Int))).fRef] = betC l (gt ds d) s (gt rs (j : Int)) := rfl
          rw [hb2]
          split
          · rename_i h
            have e : bstep l used (gt ds d) s (gt rs (j : Int)) = s := by unfold bstep; rw [← hb, if_neg (by simp), if_pos h]
            exact hk s ⟨by rw [hnext, e], hin⟩
          · rename_i h
            have e : bstep l used (gt ds d) s (gt rs (j : Int)) = gt rs (j : Int) := by unfold bstep; rw [← hb, if_neg (by simp), if_neg h]
            exact hk _ ⟨by rw [hnext, e], fun _ => hz.2⟩
        · rw [ck_pos (fun h => absurd (by simpa using h) q)]
          simp only [gcall_n (show ¬ decide (0 ≤ s) = true by simpa using q), Option.bind_some]
          have h : ¬ (decide (0 ≤ s) && decide (betC l (gt ds d) s (gt rs (j : Int)) ≤ 0)) = true := by simp [q]
          have e : bstep l used (gt ds d) s (gt rs (j : Int)) = gt rs (j : Int) := by unfold bstep; rw [← hb, if_neg (by simp), if_neg h]
          rw [if_neg (by simp [q])]
          exact hk _ ⟨by rw [hnext, e], fun _ => hz.2⟩
    cases h5 : unf5 l used (gt ds d) (gt rs (j : Int)) with
    | true =>
      rw [gcall_n (by simp)]
      simp only [Option.bind_some, Bool.true_or]
      exact htail true (by rw [hun, h5]; rfl)
    | false =>
      rw [gcall_y rfl]
      simp only [Option.bind_some, Bool.false_or]
      exact htail _ (by rw [hun, h5]; rfl)
  · intro n s ⟨hs, _⟩
    rw [List.take_length] at hs
    rw [handover_pairs_L50, if_neg (by simp), hs]
    rfl
end Px
end
section
namespace Px
open Go
set_option linter.unusedVariables false
set_option linter.unusedSimpArgs false
set_option maxHeartbeats 1000000
section
theorem swapL_eI64 (φ : Nat) (P Z Q : List Int) (c : Nat) : ∀ (n : Nat) (X1 X2 Y1 Y2 : List Int), X1.length = Y1.length → X2.length = Y2.length → c = X1.length + X2.length → P.length + c + Z.length + c + Q.length ≤ 1000000 → X2.length < n →
    slices_swapRangeCmpFunc_eI64_L9 φ (P.length : Int) ((P.length : Int) + c + Z.length) (c : Int) n (X1.length : Int) (P ++ Y1 ++ X2 ++ Z ++ X1 ++ Y2 ++ Q) = some (P ++ Y1 ++ Y2 ++ Z ++ X1 ++ X2 ++ Q) := by
  intro n
  induction n with
  | zero => intro X1 X2 Y1 Y2 _ _ _ _ h; omega
  | succ n ih =>
    intro X1 X2 Y1 Y2 h1 h2 hc hl hn
    cases X2 with
    | nil =>
      have : Y2 = [] := List.eq_nil_of_length_eq_zero (by simpa using h2.symm)
      subst this
      simp only [List.length_nil, Nat.add_zero] at hc
      rw [slices_swapRangeCmpFunc_eI64_L9, if_neg (by simp; omega)]
    | cons x X2 =>
      cases Y2 with
      | nil => simp at h2
      | cons w Y2 =>
        simp only [List.length_cons, Nat.add_right_cancel_iff] at h2 hc hn
        have w1 : W ((P.length : Int) + c + Z.length + X1.length) = (P.length : Int) + c + Z.length + X1.length := W_id (by omega) (by omega)
        have w2 : W ((P.length : Int) + X1.length) = (P.length : Int) + X1.length := W_id (by omega) (by omega)
        have w3 : W ((X1.length : Int) + 1) = (X1.length : Int) + 1 := W_id (by omega) (by omega)
        have e1 : P ++ Y1 ++ x :: X2 ++ Z ++ X1 ++ w :: Y2 ++ Q = (P ++ Y1) ++ x :: (X2 ++ Z ++ X1 ++ w :: Y2 ++ Q) := by simp
        have e2 : P ++ Y1 ++ x :: X2 ++ Z ++ X1 ++ w :: Y2 ++ Q = (P ++ Y1 ++ x :: X2 ++ Z ++ X1) ++ w :: (Y2 ++ Q) := by simp
        have g1 : gt (P ++ Y1 ++ x :: X2 ++ Z ++ X1 ++ w :: Y2 ++ Q) ((P.length : Int) + X1.length) = x := by rw [e1]; exact gt_at (by simp; omega)
        have g2 : gt (P ++ Y1 ++ x :: X2 ++ Z ++ X1 ++ w :: Y2 ++ Q) ((P.length : Int) + c + Z.length + X1.length) = w := by rw [e2]; exact gt_at (by simp; omega)
        have s1 : setAt (P ++ Y1 ++ x :: X2 ++ Z ++ X1 ++ w :: Y2 ++ Q) ((P.length : Int) + X1.length) w = (P ++ Y1) ++ w :: (X2 ++ Z ++ X1 ++ w :: Y2 ++ Q) := by rw [e1]; exact set_at (by simp; omega)
        have e3 : (P ++ Y1) ++ w :: (X2 ++ Z ++ X1 ++ w :: Y2 ++ Q) = (P ++ Y1 ++ w :: X2 ++ Z ++ X1) ++ w :: (Y2 ++ Q) := by simp
        have s2 : setAt ((P ++ Y1 ++ w :: X2 ++ Z ++ X1) ++ w :: (Y2 ++ Q)) ((P.length : Int) + c + Z.length + X1.length) x = (P ++ Y1 ++ w :: X2 ++ Z ++ X1) ++ x :: (Y2 ++ Q) := set_at (by simp; omega)
        have e4 : (P ++ Y1 ++ w :: X2 ++ Z ++ X1) ++ x :: (Y2 ++ Q) = P ++ (Y1 ++ [w]) ++ X2 ++ Z ++ (X1 ++ [x]) ++ Y2 ++ Q := by simp
        have hlen : ((P ++ Y1 ++ x :: X2 ++ Z ++ X1 ++ w :: Y2 ++ Q).length : Int) = P.length + c + Z.length + c + Q.length := by simp; omega
        have hlen2 : (((P ++ Y1 ++ w :: X2 ++ Z ++ X1) ++ w :: (Y2 ++ Q)).length : Int) = P.length + c + Z.length + c + Q.length := by simp; omega
        rw [slices_swapRangeCmpFunc_eI64_L9, if_pos (by simp; omega), w1, w2, w3, g1, g2, s1, e3, s2, e4, hlen, hlen2]
        rw [ck_pos ⟨by omega, by omega⟩, ck_pos ⟨by omega, by omega⟩, ck_pos ⟨by omega, by omega⟩]
        have := ih (X1 ++ [x]) X2 (Y1 ++ [w]) Y2 (by simp [h1]) h2 (by simp; omega) hl (by omega)
        have e5 : (((X1 ++ [x]).length : Nat) : Int) = (X1.length : Int) + 1 := by simp
        rw [e5] at this
        rw [this]
        simp
theorem swap_eI64 (φ : Nat) (P X Z Y Q : List Int) (y : Int → Int → Option Int) (h : X.length = Y.length) (hl : P.length + X.length + Z.length + X.length + Q.length ≤ 1000000) (hφ : X.length < φ) :
    slices_swapRangeCmpFunc_eI64 φ (P ++ X ++ Z ++ Y ++ Q) (P.length : Int) ((P.length : Int) + X.length + Z.length) (X.length : Int) y = some (P ++ Y ++ Z ++ X ++ Q) := by
  have := swapL_eI64 φ P Z Q X.length φ [] X [] Y rfl h (by simp) hl hφ
  simpa [slices_swapRangeCmpFunc_eI64] using this
theorem rotL_eI64 (φ : Nat) (y : Int → Int → Option Int) : ∀ (n : Nat) (P X Y Q : List Int), X ≠ [] → Y ≠ [] → P.length + X.length + Y.length + Q.length ≤ 1000000 → X.length + Y.length ≤ n → X.length + Y.length < φ →
    slices_rotateCmpFunc_eI64_L17 φ ((P.length : Int) + X.length) y (slices_rotateCmpFunc_eI64_j9 φ ((P.length : Int) + X.length) y) n (X.length : Int) (Y.length : Int) (P ++ X ++ Y ++ Q) = some (P ++ Y ++ X ++ Q) := by
  intro n
  induction n with
  | zero => intro P X Y Q hX hY _ h; have := List.length_pos_iff.2 hX; omega
  | succ n ih =>
    intro P X Y Q hX hY hl hn hφ
    have hX0 := List.length_pos_iff.2 hX
    have hY0 := List.length_pos_iff.2 hY
    have w1 : W ((P.length : Int) + X.length - X.length) = (P.length : Int) := by rw [W_id (by omega) (by omega)]; omega
    rw [slices_rotateCmpFunc_eI64_L17, w1]
    by_cases he : X.length = Y.length
    · rw [if_neg (by simp [he])]
      unfold slices_rotateCmpFunc_eI64_j9
      rw [w1]
      have := swap_eI64 φ P X [] Y Q y he (by simp; omega) (by omega)
      simp only [List.append_nil, List.length_nil, Int.ofNat_zero, Int.add_zero] at this
      rw [this]; rfl
    · rw [if_pos (by simp; omega)]
      by_cases hlt : Y.length < X.length
      · rw [if_pos (by simp; omega)]
        obtain ⟨X1, X2, rfl, h1⟩ : ∃ X1 X2, X = X1 ++ X2 ∧ X1.length = Y.length := ⟨X.take Y.length, X.drop Y.length, (List.take_append_drop _ _).symm, by simp; omega⟩
        simp only [List.length_append] at hl hn hφ hlt hX0 he
        have e1 : P ++ (X1 ++ X2) ++ Y ++ Q = P ++ X1 ++ X2 ++ Y ++ Q := by simp
        have e2 : (P.length : Int) + ((X1 ++ X2).length : Nat) = (P.length : Int) + X1.length + X2.length := by simp; omega
        rw [e1, e2, ← h1, swap_eI64 φ P X1 X2 Y Q y h1 (by omega) (by omega)]
        simp only [Option.bind_some]
        have w2 : W (((X1 ++ X2).length : Int) - X1.length) = (X2.length : Int) := by simp; rw [W_id (by omega) (by omega)]; omega
        rw [w2]
        have := ih (P ++ Y) X2 X1 Q (by intro e; subst e; simp at hlt; omega) (by intro e; subst e; simp at h1; omega) (by simp; omega) (by omega) (by omega)
        have e3 : (((P ++ Y).length : Nat) : Int) + X2.length = (P.length : Int) + X1.length + X2.length := by simp; omega
        rw [e3] at this
        rw [this]
        simp
      · rw [if_neg (by simp; omega)]
        obtain ⟨Y1, Y2, rfl, h1⟩ : ∃ Y1 Y2, Y = Y1 ++ Y2 ∧ Y2.length = X.length := ⟨Y.take (Y.length - X.length), Y.drop (Y.length - X.length), (List.take_append_drop _ _).symm, by simp; omega⟩
        simp only [List.length_append] at hl hn hφ hlt hY0 he
        have e1 : P ++ X ++ (Y1 ++ Y2) ++ Q = P ++ X ++ Y1 ++ Y2 ++ Q := by simp
        have w3 : W ((P.length : Int) + X.length + ((Y1 ++ Y2).length : Nat)) = (P.length : Int) + X.length + Y1.length + Y2.length := by simp; rw [W_id (by omega) (by omega)]; omega
        have w4 : W ((P.length : Int) + X.length + Y1.length + Y2.length - X.length) = (P.length : Int) + X.length + Y1.length := by rw [W_id (by omega) (by omega)]; omega
        have w5 : W (((Y1 ++ Y2).length : Int) - X.length) = (Y1.length : Int) := by simp; rw [W_id (by omega) (by omega)]; omega
        rw [e1, w3, w4, w5, swap_eI64 φ P X Y1 Y2 Q y h1.symm (by omega) (by omega)]
        simp only [Option.bind_some]
        have := ih P Y2 Y1 (X ++ Q) (by intro e; subst e; simp at h1; omega) (by intro e; subst e; simp at h1 hlt he; omega) (by simp; omega) (by omega) (by omega)
        rw [h1] at this
        have e2 : P ++ Y2 ++ Y1 ++ X ++ Q = P ++ Y2 ++ Y1 ++ (X ++ Q) := by simp
        rw [e2, this]
        simp
theorem rotate_eI64 (φ : Nat) (P X Y Q : List Int) (y : Int → Int → Option Int) (hX : X ≠ []) (hY : Y ≠ []) (hl : P.length + X.length + Y.length + Q.length ≤ 1000000) (hφ : X.length + Y.length < φ) :
    slices_rotateCmpFunc_eI64 φ (P ++ X ++ Y ++ Q) (P.length : Int) ((P.length : Int) + X.length) ((P.length : Int) + X.length + Y.length) y = some (P ++ Y ++ X ++ Q) := by
  have := rotL_eI64 φ y φ P X Y Q hX hY hl (by omega) hφ
  rw [← this]
  unfold slices_rotateCmpFunc_eI64
  have w1 : W ((P.length : Int) + X.length - P.length) = (X.length : Int) := by rw [W_id (by omega) (by omega)]; omega
  have w2 : W ((P.length : Int) + X.length + Y.length - ((P.length : Int) + X.length)) = (Y.length : Int) := by rw [W_id (by omega) (by omega)]; omega
  rw [w1, w2]
end
end Px
end
section
namespace Px
open Go
set_option linter.unusedVariables false
set_option linter.unusedSimpArgs false
set_option maxHeartbeats 2000000
section
variable {D : Int → Prop} {lt : Int → Int → Bool} {y : Int → Int → Option Int}
theorem shiftUp_eI64 (φ : Nat) (k : List Int → Option (List Int)) (x : Int) : ∀ (n : Nat) (P C E : List Int), P.length + C.length + E.length ≤ 999999 → C.length < n →
    slices_symMergeCmpFunc_eI64_L15 φ ((P.length : Int) + C.length + 1) k n (P.length : Int) (P ++ x :: (C ++ E)) = k (P ++ C ++ x :: E) := by
  intro n
  induction n with
  | zero => intro P C E _ h; omega
  | succ n ih =>
    intro P C E hl hn
    have w0 : W ((P.length : Int) + C.length + 1 - 1) = (P.length : Int) + C.length := by rw [W_id (by omega) (by omega)]; omega
    rw [slices_symMergeCmpFunc_eI64_L15, w0]
    cases C with
    | nil => rw [if_neg (by simp)]; simp
    | cons w C =>
      simp only [List.length_cons] at hl hn
      have w1 : W ((P.length : Int) + 1) = (P.length : Int) + 1 := W_id (by omega) (by omega)
      have e1 : P ++ x :: (w :: C ++ E) = (P ++ [x]) ++ w :: (C ++ E) := by simp
      have g1 : gt (P ++ x :: (w :: C ++ E)) (P.length : Int) = x := gt_at rfl
      have g2 : gt (P ++ x :: (w :: C ++ E)) ((P.length : Int) + 1) = w := by rw [e1]; exact gt_at (by simp)
      have s1 : setAt (P ++ x :: (w :: C ++ E)) (P.length : Int) w = P ++ w :: (w :: C ++ E) := set_at rfl
      have e2 : P ++ w :: (w :: C ++ E) = (P ++ [w]) ++ w :: (C ++ E) := by simp
      have s2 : setAt ((P ++ [w]) ++ w :: (C ++ E)) ((P.length : Int) + 1) x = (P ++ [w]) ++ x :: (C ++ E) := set_at (by simp)
      have hlen : ((P ++ x :: (w :: C ++ E)).length : Int) = P.length + C.length + E.length + 2 := by simp; omega
      have hlen2 : (((P ++ [w]) ++ w :: (C ++ E)).length : Int) = P.length + C.length + E.length + 2 := by simp; omega
      rw [if_pos (by simp; omega), w1, g1, g2, s1, e2, s2, hlen, hlen2, ck_pos ⟨by omega, by omega⟩, ck_pos ⟨by omega, by omega⟩, ck_pos ⟨by omega, by omega⟩]
      have := ih (P ++ [w]) C E (by simp; omega) (by omega)
      have e3 : (((P ++ [w]).length : Nat) : Int) = (P.length : Int) + 1 := by simp
      have e4 : (P.length : Int) + ((w :: C).length : Nat) + 1 = (P.length : Int) + 1 + C.length + 1 := by simp; omega
      rw [e3] at this
      rw [e4, this]
      simp
theorem shiftDown_eI64 (φ : Nat) (k : List Int → Option (List Int)) (x : Int) (P : List Int) : ∀ (n : Nat) (C E : List Int), P.length + C.length + E.length ≤ 999999 → C.length < n →
    slices_symMergeCmpFunc_eI64_L37 φ (P.length : Int) k n ((P.length : Int) + C.length) (P ++ C ++ x :: E) = k (P ++ x :: (C ++ E)) := by
  intro n
  induction n with
  | zero => intro C E _ h; omega
  | succ n ih =>
    intro C E hl hn
    rw [slices_symMergeCmpFunc_eI64_L37]
    rcases nil_or_snoc C with rfl | ⟨S, z, rfl⟩
    · rw [if_neg (by simp)]; simp
    · simp only [List.length_append, List.length_cons, List.length_nil] at hl hn
      have w1 : W ((P.length : Int) + ((S ++ [z]).length : Nat) - 1) = (P.length : Int) + S.length := by
        rw [W_id (by simp; omega) (by simp; omega)]; simp; omega
      have e1 : P ++ (S ++ [z]) ++ x :: E = (P ++ S ++ [z]) ++ x :: E := by simp
      have e2 : P ++ (S ++ [z]) ++ x :: E = (P ++ S) ++ z :: (x :: E) := by simp
      have g1 : gt (P ++ (S ++ [z]) ++ x :: E) ((P.length : Int) + ((S ++ [z]).length : Nat)) = x := by rw [e1]; exact gt_at (by simp <;> omega)
      have g2 : gt (P ++ (S ++ [z]) ++ x :: E) ((P.length : Int) + S.length) = z := by rw [e2]; exact gt_at (by simp)
      have s1 : setAt (P ++ (S ++ [z]) ++ x :: E) ((P.length : Int) + ((S ++ [z]).length : Nat)) z = (P ++ S) ++ z :: (z :: E) := by rw [e1, set_at (by simp <;> omega)]; simp
      have s2 : setAt ((P ++ S) ++ z :: (z :: E)) ((P.length : Int) + S.length) x = P ++ S ++ x :: (z :: E) := set_at (by simp)
      have hlen : ((P ++ (S ++ [z]) ++ x :: E).length : Int) = P.length + S.length + E.length + 2 := by simp; omega
      have hlen2 : (((P ++ S) ++ z :: (z :: E)).length : Int) = P.length + S.length + E.length + 2 := by simp; omega
      rw [if_pos (by simp; omega), w1, g1, g2, s1, s2, hlen, hlen2, ck_pos ⟨by omega, by omega⟩, ck_pos ⟨by omega, by simp; omega⟩, ck_pos ⟨by omega, by omega⟩]
      rw [ih S (z :: E) (by simp; omega) (by omega)]
      simp
/-- One element before a sorted list. -/
theorem mergeFirst_eI64 (hs : Swo lt) (hy : Cmp D y lt) (φ : Nat) (P L Q : List Int) (x : Int) (hx : D x) (hD : ∀ z ∈ L, D z) (hS : Srt lt L) (hl : P.length + L.length + Q.length ≤ 999998) (hφ : P.length + L.length + 2 < φ) :
    ∃ R, Srt lt R ∧ Stb lt (x :: L) R ∧ slices_symMergeCmpFunc_eI64_L24 φ (P ++ x :: (L ++ Q)) (P.length : Int) y (slices_symMergeCmpFunc_eI64_j10 φ (P ++ x :: (L ++ Q)) (P.length : Int)) φ ((P.length : Int) + 1) ((P.length : Int) + 1 + L.length) = some (P ++ R ++ Q) := by
  have gx : gt (P ++ x :: (L ++ Q)) (P.length : Int) = x := gt_at rfl
  have hlen : ((P ++ x :: (L ++ Q)).length : Int) = P.length + L.length + Q.length + 1 := by simp; omega
  have gL : ∀ i : Nat, P.length + 1 ≤ i → i < P.length + 1 + L.length → gt (P ++ x :: (L ++ Q)) (i : Int) = gt L ((i - (P.length + 1) : Nat) : Int) := by
    intro i h1 h2
    have e : P ++ x :: (L ++ Q) = (P ++ [x]) ++ (L ++ Q) := by simp
    rw [e, gt_app_right _ _ _ (by simp; omega), gt_app_left _ _ _ (by simp; omega) (by simp; omega)]
    congr 1; simp; omega
  obtain ⟨c, h1, h2, h3, h4, h5⟩ := bsearch (slices_symMergeCmpFunc_eI64_L24 φ (P ++ x :: (L ++ Q)) (P.length : Int) y (slices_symMergeCmpFunc_eI64_j10 φ (P ++ x :: (L ++ Q)) (P.length : Int)))
    (slices_symMergeCmpFunc_eI64_j10 φ (P ++ x :: (L ++ Q)) (P.length : Int)) (fun h => lt (gt (P ++ x :: (L ++ Q)) (h : Int)) x) (P.length + 1 + L.length) (P.length + 1)
    (by
      intro n s r h0 hlt hR
      have hm : (W ((U (W ((s : Int) + r))).fdiv 2)) = (((s + r) / 2 : Nat) : Int) := by rw [mid_W (by omega) (by omega)]; omega
      have hm1 : W ((((s + r) / 2 : Nat) : Int) + 1) = (((s + r) / 2 + 1 : Nat) : Int) := by rw [W_id (by omega) (by omega)]; simp
      obtain ⟨w, hw1, hw2⟩ := hy (gt (P ++ x :: (L ++ Q)) (((s + r) / 2 : Nat) : Int)) x (by
        rw [gL _ (by omega) (by omega)]; exact hD _ (gt_mem (by omega) (by omega))) hx
      rw [slices_symMergeCmpFunc_eI64_L24, if_pos (by simp; omega), hm, hm1, hlen, gx, ck_pos ⟨by omega, by omega⟩, ck_pos ⟨by omega, by omega⟩, hw1]
      simp only [Option.bind_some, hw2])
    (by
      intro n s
      rw [slices_symMergeCmpFunc_eI64_L24, if_neg (by simp)]) φ (P.length + 1) (P.length + 1 + L.length) (Nat.le_refl _) (by omega) (Nat.le_refl _) (by omega)
  obtain ⟨C, E, rfl, hC⟩ : ∃ C E, L = C ++ E ∧ C.length = c - (P.length + 1) := ⟨L.take (c - (P.length + 1)), L.drop (c - (P.length + 1)), (List.take_append_drop _ _).symm, by simp; omega⟩
  simp only [List.length_append] at hl hφ h2 gL
  have hCx : ∀ z ∈ C, lt z x = true := by
    intro z hz
    rcases nil_or_snoc C with rfl | ⟨S, w, rfl⟩
    · cases hz
    · simp only [List.length_append, List.length_cons, List.length_nil] at hC hz hS gL h2
      have hp : lt w x = true := by
        rcases h3 with h3 | h3
        · omega
        · rw [gL _ (by omega) (by omega)] at h3
          have e : S ++ [w] ++ E = S ++ w :: E := by simp
          rw [e, gt_at (by omega)] at h3
          exact h3
      rcases List.mem_append.1 hz with h | h
      · exact lt_of_ends hs (hS.parts.1.parts.2.2 z h w (by simp)) hp (hs.irr x)
      · simp at h; rw [h]; exact hp
  have hEx : ∀ z ∈ E, lt z x = false := by
    intro z hz
    cases E with
    | nil => cases hz
    | cons w E =>
      simp only [List.length_cons] at h2 gL h4
      have hp : lt w x = false := by
        rcases h4 with h4 | h4
        · simp at h4; omega
        · rw [gL _ (by omega) (by omega), gt_at (by omega)] at h4
          exact h4
      rcases List.mem_cons.1 hz with h | h
      · rw [h]; exact hp
      · exact hs.ntr _ _ _ ((List.pairwise_cons.1 hS.parts.2.1).1 z h) hp
  have hm := merge_parts hs (A := []) (B := [x]) (C := C) (E := E) (R1 := C) (R2 := x :: E) (List.pairwise_singleton _ _) hS (by simpa using hCx) (by simp) hS.parts.1 (by simpa using Stb.refl C) (List.pairwise_cons.2 ⟨hEx, hS.parts.2.1⟩) (by simpa using Stb.refl (x :: E))
  refine ⟨C ++ x :: E, hm.1, by simpa using hm.2, ?_⟩
  have e5 : ((P.length : Int) + 1 + ((C ++ E).length : Nat)) = ((P.length + 1 + (C ++ E).length : Nat) : Int) := by simp
  have e6 : ((P.length : Int) + 1) = ((P.length + 1 : Nat) : Int) := by simp
  rw [e5, e6, h5]
  unfold slices_symMergeCmpFunc_eI64_j10
  have e7 : (c : Int) = (P.length : Int) + C.length + 1 := by omega
  have e8 : P ++ x :: (C ++ E ++ Q) = P ++ x :: (C ++ (E ++ Q)) := by simp
  rw [e7, e8, shiftUp_eI64 φ _ x φ P C (E ++ Q) (by simp; omega) (by omega)]
  simp [slices_symMergeCmpFunc_eI64_j12]
/-- A sorted list before one element. -/
theorem mergeLast_eI64 (hs : Swo lt) (hy : Cmp D y lt) (φ : Nat) (P L Q : List Int) (x : Int) (hx : D x) (hD : ∀ z ∈ L, D z) (hS : Srt lt L) (hl : P.length + L.length + Q.length ≤ 999998) (hφ : P.length + L.length + 2 < φ) :
    ∃ R, Srt lt R ∧ Stb lt (L ++ [x]) R ∧ slices_symMergeCmpFunc_eI64_L46 φ (P ++ L ++ x :: Q) ((P.length : Int) + L.length) y (slices_symMergeCmpFunc_eI64_j32 φ (P ++ L ++ x :: Q) ((P.length : Int) + L.length)) φ (P.length : Int) ((P.length : Int) + L.length) = some (P ++ R ++ Q) := by
  have gx : gt (P ++ L ++ x :: Q) ((P.length : Int) + L.length) = x := gt_at (by simp)
  have hlen : ((P ++ L ++ x :: Q).length : Int) = P.length + L.length + Q.length + 1 := by simp; omega
  have gL : ∀ i : Nat, P.length ≤ i → i < P.length + L.length → gt (P ++ L ++ x :: Q) (i : Int) = gt L ((i - P.length : Nat) : Int) := by
    intro i h1 h2
    rw [List.append_assoc, gt_app_right _ _ _ (by omega), gt_app_left _ _ _ (by omega) (by omega)]
    congr 1; omega
  obtain ⟨c, h1, h2, h3, h4, h5⟩ := bsearch (slices_symMergeCmpFunc_eI64_L46 φ (P ++ L ++ x :: Q) ((P.length : Int) + L.length) y (slices_symMergeCmpFunc_eI64_j32 φ (P ++ L ++ x :: Q) ((P.length : Int) + L.length)))
    (slices_symMergeCmpFunc_eI64_j32 φ (P ++ L ++ x :: Q) ((P.length : Int) + L.length)) (fun h => !lt x (gt (P ++ L ++ x :: Q) (h : Int))) (P.length + L.length) P.length
    (by
      intro n s r h0 hlt hR
      have hm : (W ((U (W ((s : Int) + r))).fdiv 2)) = (((s + r) / 2 : Nat) : Int) := by rw [mid_W (by omega) (by omega)]; omega
      have hm1 : W ((((s + r) / 2 : Nat) : Int) + 1) = (((s + r) / 2 + 1 : Nat) : Int) := by rw [W_id (by omega) (by omega)]; simp
      obtain ⟨w, hw1, hw2⟩ := hy x (gt (P ++ L ++ x :: Q) (((s + r) / 2 : Nat) : Int)) hx (by
        rw [gL _ (by omega) (by omega)]; exact hD _ (gt_mem (by omega) (by omega)))
      rw [slices_symMergeCmpFunc_eI64_L46, if_pos (by simp; omega), hm, hm1, hlen, gx, ck_pos ⟨by omega, by omega⟩, ck_pos ⟨by omega, by omega⟩, hw1]
      simp only [Option.bind_some, hw2])
    (by
      intro n s
      rw [slices_symMergeCmpFunc_eI64_L46, if_neg (by simp)]) φ P.length (P.length + L.length) (Nat.le_refl _) (by omega) (Nat.le_refl _) (by omega)
  obtain ⟨A, B, rfl, hC⟩ : ∃ A B, L = A ++ B ∧ A.length = c - P.length := ⟨L.take (c - P.length), L.drop (c - P.length), (List.take_append_drop _ _).symm, by simp; omega⟩
  simp only [List.length_append] at hl hφ h2 gL
  have hA : ∀ z ∈ A, lt x z = false := by
    intro z hz
    rcases nil_or_snoc A with rfl | ⟨S, w, rfl⟩
    · cases hz
    · simp only [List.length_append, List.length_cons, List.length_nil] at hC hz hS gL h2
      have hp : lt x w = false := by
        rcases h3 with h3 | h3
        · omega
        · rw [gL _ (by omega) (by omega)] at h3
          have e : S ++ [w] ++ B = S ++ w :: B := by simp
          rw [e, gt_at (by omega)] at h3
          simpa using h3
      rcases List.mem_append.1 hz with h | h
      · exact hs.ntr _ _ _ hp (hS.parts.1.parts.2.2 z h w (by simp))
      · simp at h; rw [h]; exact hp
  have hB : ∀ z ∈ B, lt x z = true := by
    intro z hz
    cases B with
    | nil => cases hz
    | cons w B =>
      simp only [List.length_cons] at h2 gL h4
      have hp : lt x w = true := by
        rcases h4 with h4 | h4
        · simp at h4; omega
        · rw [gL _ (by omega) (by omega), gt_at (by omega)] at h4
          simpa using h4
      rcases List.mem_cons.1 hz with h | h
      · rw [h]; exact hp
      · exact lt_of_ends hs (hs.irr x) hp ((List.pairwise_cons.1 hS.parts.2.1).1 z h)
  have hm := merge_parts hs (A := A) (B := B) (C := [x]) (E := []) (R1 := A ++ [x]) (R2 := B) hS (by rw [List.append_nil]; exact List.pairwise_singleton _ x) (by simpa using hB) (by simp)
    (hS.parts.1.app (List.pairwise_singleton _ _) (by simpa using hA)) (Stb.refl _) hS.parts.2.1 (by simpa using Stb.refl B)
  refine ⟨A ++ [x] ++ B, hm.1, by simpa using hm.2, ?_⟩
  have e5 : ((P.length : Int) + ((A ++ B).length : Nat)) = ((P.length + (A ++ B).length : Nat) : Int) := by simp
  rw [e5] at h5 ⊢
  rw [h5]
  unfold slices_symMergeCmpFunc_eI64_j32
  have e7 : (c : Int) = (((P ++ A).length : Nat) : Int) := by simp; omega
  have e8 : P ++ (A ++ B) ++ x :: Q = (P ++ A) ++ B ++ x :: Q := by simp
  have e9 : ((P.length + (A ++ B).length : Nat) : Int) = (((P ++ A).length : Nat) : Int) + B.length := by simp; omega
  rw [e7, e8, e9, shiftDown_eI64 φ _ x (P ++ A) φ B Q (by simp; omega) (by omega)]
  simp [slices_symMergeCmpFunc_eI64_j34]
end
end Px
end
section
namespace Px
open Go
set_option linter.unusedVariables false
set_option linter.unusedSimpArgs false
set_option maxHeartbeats 4000000
section
variable {D : Int → Prop} {lt : Int → Int → Bool} {y : Int → Int → Option Int}
/-- Where the two lists are split. -/
theorem splitL_eI64 (hs : Swo lt) (hy : Cmp D y lt) (φ : Nat) (P L1 L2 Q : List Int) (k : Int → Option (List Int)) (hD1 : ∀ z ∈ L1, D z) (hD2 : ∀ z ∈ L2, D z) (hS1 : Srt lt L1) (hS2 : Srt lt L2)
    (a m b mid s0 r0 : Nat) (ha : a = P.length) (hm : m = a + L1.length) (hb : b = m + L2.length) (hmid : mid = (a + b) / 2) (hl : b + Q.length ≤ 999998) (hφ : b < φ)
    (h1 : 1 ≤ L1.length) (h2 : 1 ≤ L2.length) (hs0 : (mid < m ∧ s0 = mid + m - b ∧ r0 = mid) ∨ (m ≤ mid ∧ s0 = a ∧ r0 = m)) :
    ∃ A B C E, L1 = A ++ B ∧ L2 = C ++ E ∧ mid + m - (a + A.length) = m + C.length ∧ (∀ x ∈ B, ∀ y ∈ C, lt y x = true) ∧ (∀ x ∈ A, ∀ y ∈ E, lt y x = false) ∧
      slices_symMergeCmpFunc_eI64_L90 φ (P ++ L1 ++ L2 ++ Q) (a : Int) (m : Int) (b : Int) y k φ (s0 : Int) (r0 : Int) = k ((a + A.length : Nat) : Int) := by
  have g1 : ∀ i : Nat, a ≤ i → i < m → gt (P ++ L1 ++ L2 ++ Q) (i : Int) = gt L1 ((i - a : Nat) : Int) := by
    intro i q1 q2
    have e : P ++ L1 ++ L2 ++ Q = P ++ (L1 ++ (L2 ++ Q)) := by simp
    rw [e, gt_app_right _ _ _ (by omega), gt_app_left _ _ _ (by omega) (by omega)]
    congr 1; omega
  have g2 : ∀ i : Nat, m ≤ i → i < b → gt (P ++ L1 ++ L2 ++ Q) (i : Int) = gt L2 ((i - m : Nat) : Int) := by
    intro i q1 q2
    have e : P ++ L1 ++ L2 ++ Q = (P ++ L1) ++ (L2 ++ Q) := by simp
    rw [e, gt_app_right _ _ _ (by simp; omega), gt_app_left _ _ _ (by simp; omega) (by simp; omega)]
    congr 1; simp; omega
  have hlen : ((P ++ L1 ++ L2 ++ Q).length : Int) = b + Q.length := by simp; omega
  have hW : W ((U (W ((a : Int) + b))).fdiv 2) = (mid : Int) := by rw [mid_W (by omega) (by omega)]; omega
  have hn : W ((mid : Int) + m) = ((mid + m : Nat) : Int) := by rw [W_id (by omega) (by omega)]; simp
  have hp : W (((mid + m : Nat) : Int) - 1) = ((mid + m - 1 : Nat) : Int) := by rw [W_id (by omega) (by omega)]; omega
  have hmb : mid ≤ b := by omega
  have ham : a ≤ mid := by omega
  obtain ⟨c, h3, h4, h5, h6, h7⟩ := bsearch (slices_symMergeCmpFunc_eI64_L90 φ (P ++ L1 ++ L2 ++ Q) (a : Int) (m : Int) (b : Int) y k) k
    (fun c => !lt (gt (P ++ L1 ++ L2 ++ Q) ((mid + m - 1 - c : Nat) : Int)) (gt (P ++ L1 ++ L2 ++ Q) (c : Int))) r0 s0
    (by
      intro n s r q0 hlt hR
      have hm' : (W ((U (W ((s : Int) + r))).fdiv 2)) = (((s + r) / 2 : Nat) : Int) := by rw [mid_W (by omega) (by omega)]; omega
      have hm1 : W ((((s + r) / 2 : Nat) : Int) + 1) = (((s + r) / 2 + 1 : Nat) : Int) := by rw [W_id (by omega) (by omega)]; simp
      have hpc : W (((mid + m - 1 : Nat) : Int) - (((s + r) / 2 : Nat) : Int)) = ((mid + m - 1 - (s + r) / 2 : Nat) : Int) := by rw [W_id (by omega) (by omega)]; omega
      obtain ⟨w, hw1, hw2⟩ := hy (gt (P ++ L1 ++ L2 ++ Q) ((mid + m - 1 - (s + r) / 2 : Nat) : Int)) (gt (P ++ L1 ++ L2 ++ Q) (((s + r) / 2 : Nat) : Int))
        (by rw [g2 _ (by omega) (by omega)]; exact hD2 _ (gt_mem (by omega) (by omega))) (by rw [g1 _ (by omega) (by omega)]; exact hD1 _ (gt_mem (by omega) (by omega)))
      rw [slices_symMergeCmpFunc_eI64_L90, if_pos (by simp; omega), hm', hm1, hW, hn, hp, hpc, hlen, ck_pos ⟨by omega, by omega⟩, ck_pos ⟨by omega, by omega⟩, hw1]
      simp only [Option.bind_some, hw2])
    (by
      intro n s
      rw [slices_symMergeCmpFunc_eI64_L90, if_neg (by simp)]) φ s0 r0 (Nat.le_refl _) (by omega) (Nat.le_refl _) (by omega)
  obtain ⟨A, B, rfl, hA⟩ : ∃ A B, L1 = A ++ B ∧ A.length = c - a := ⟨L1.take (c - a), L1.drop (c - a), (List.take_append_drop _ _).symm, by simp; omega⟩
  obtain ⟨C, E, rfl, hC⟩ : ∃ C E, L2 = C ++ E ∧ C.length = mid - c := ⟨L2.take (mid - c), L2.drop (mid - c), (List.take_append_drop _ _).symm, by simp; omega⟩
  simp only [List.length_append] at hm hb g1 g2
  refine ⟨A, B, C, E, rfl, rfl, by omega, ?_, ?_, ?_⟩
  · intro x hx z hz
    rcases nil_or_snoc C with rfl | ⟨S, w, rfl⟩
    · cases hz
    · cases B with
      | nil => cases hx
      | cons x0 B =>
        simp only [List.length_append, List.length_cons, List.length_nil] at hC hm hb g1 g2 hA
        have hp : lt w x0 = true := by
          rcases h6 with h6 | h6
          · omega
          · rw [g1 c (by omega) (by omega), g2 (mid + m - 1 - c) (by omega) (by omega)] at h6
            have e : S ++ [w] ++ E = S ++ w :: E := by simp
            rw [e, gt_at (by omega), gt_at (by omega)] at h6
            simpa using h6
        have hz1 : lt w z = false := by
          rcases List.mem_append.1 hz with h | h
          · exact hS2.parts.1.parts.2.2 z h w (by simp)
          · simp at h; rw [h]; exact hs.irr _
        have hx1 : lt x x0 = false := by
          rcases List.mem_cons.1 hx with h | h
          · rw [h]; exact hs.irr _
          · exact (List.pairwise_cons.1 hS1.parts.2.1).1 x h
        exact lt_of_ends hs hz1 hp hx1
  · intro x hx z hz
    rcases nil_or_snoc A with rfl | ⟨S, w, rfl⟩
    · cases hx
    · cases E with
      | nil => cases hz
      | cons e0 E =>
        simp only [List.length_append, List.length_cons, List.length_nil] at hC hm hb g1 g2 hA
        have hp : lt e0 w = false := by
          rcases h5 with h5 | h5
          · omega
          · have e1 : mid + m - 1 - (c - 1) = mid + m - c := by omega
            rw [e1, g1 (c - 1) (by omega) (by omega), g2 (mid + m - c) (by omega) (by omega)] at h5
            have e : S ++ [w] ++ B = S ++ w :: B := by simp
            rw [e, gt_at (by omega), gt_at (by omega)] at h5
            simpa using h5
        have hz1 : lt z e0 = false := by
          rcases List.mem_cons.1 hz with h | h
          · rw [h]; exact hs.irr _
          · exact (List.pairwise_cons.1 hS2.parts.2.1).1 z h
        have hx1 : lt w x = false := by
          rcases List.mem_append.1 hx with h | h
          · exact hS1.parts.1.parts.2.2 x h w (by simp)
          · simp at h; rw [h]; exact hs.irr _
        exact nlt_of_ends hs hz1 hp hx1
  · rw [h7]
    congr 1
    omega
/-- Merging two sorted lists in place. -/
theorem symMerge_eI64 (hs : Swo lt) (hy : Cmp D y lt) : ∀ (φ : Nat) (P L1 L2 Q : List Int), (∀ z ∈ L1, D z) → (∀ z ∈ L2, D z) → Srt lt L1 → Srt lt L2 → L1 ≠ [] → L2 ≠ [] →
    P.length + L1.length + L2.length + Q.length ≤ 999998 → P.length + L1.length + L2.length + (L1.length + L2.length) + 3 < φ →
    ∃ R, Srt lt R ∧ Stb lt (L1 ++ L2) R ∧ slices_symMergeCmpFunc_eI64 φ (P ++ L1 ++ L2 ++ Q) (P.length : Int) ((P.length : Int) + L1.length) ((P.length : Int) + L1.length + L2.length) y = some (P ++ R ++ Q) := by
  intro φ
  induction φ with
  | zero => intro P L1 L2 Q _ _ _ _ _ _ _ h; omega
  | succ φ ih =>
    intro P L1 L2 Q hD1 hD2 hS1 hS2 hn1 hn2 hl hφ
    have hp1 := List.length_pos_iff.2 hn1
    have hp2 := List.length_pos_iff.2 hn2
    rw [slices_symMergeCmpFunc_eI64]
    have w1 : W ((P.length : Int) + L1.length - P.length) = (L1.length : Int) := by rw [W_id (by omega) (by omega)]; omega
    have w2 : W ((P.length : Int) + L1.length + L2.length - ((P.length : Int) + L1.length)) = (L2.length : Int) := by rw [W_id (by omega) (by omega)]; omega
    rw [w1, w2]
    by_cases q1 : L1.length = 1
    · rw [if_pos (by simp [q1])]
      match L1, q1 with
      | [x], _ =>
        obtain ⟨R, r1, r2, r3⟩ := mergeFirst_eI64 hs hy φ P L2 Q x (hD1 x (by simp)) hD2 hS2 (by simp at hl; omega) (by simp at hφ; omega)
        refine ⟨R, r1, r2, ?_⟩
        rw [← r3]
        simp
    · rw [if_neg (by simp; omega)]
      by_cases q2 : L2.length = 1
      · rw [if_pos (by simp [q2])]
        match L2, q2 with
        | [x], _ =>
          obtain ⟨R, r1, r2, r3⟩ := mergeLast_eI64 hs hy φ P L1 Q x (hD2 x (by simp)) hD1 hS1 (by simp at hl; omega) (by simp at hφ; omega)
          refine ⟨R, r1, r2, ?_⟩
          rw [← r3]
          simp
      · rw [if_neg (by simp; omega)]
        obtain ⟨a, ha⟩ : ∃ a, a = P.length := ⟨_, rfl⟩
        obtain ⟨m, hm⟩ : ∃ m, m = a + L1.length := ⟨_, rfl⟩
        obtain ⟨b, hb⟩ : ∃ b, b = m + L2.length := ⟨_, rfl⟩
        obtain ⟨mid, hmid⟩ : ∃ mid, mid = (a + b) / 2 := ⟨_, rfl⟩
        have ea : (P.length : Int) = (a : Int) := by omega
        have em : (P.length : Int) + L1.length = (m : Int) := by omega
        have eb : (P.length : Int) + L1.length + L2.length = (b : Int) := by omega
        rw [eb, em, ea]
        have hW : W ((U (W ((a : Int) + b))).fdiv 2) = (mid : Int) := by rw [mid_W (by omega) (by omega)]; omega
        have hn : W ((mid : Int) + m) = ((mid + m : Nat) : Int) := by rw [W_id (by omega) (by omega)]; simp
        rw [hW, hn]
        have key : ∃ s0 r0 : Nat, ((mid < m ∧ s0 = mid + m - b ∧ r0 = mid) ∨ (m ≤ mid ∧ s0 = a ∧ r0 = m)) ∧
            (if decide ((mid : Int) < m) = true then slices_symMergeCmpFunc_eI64_j54 φ (P ++ L1 ++ L2 ++ Q) (a : Int) (m : Int) (b : Int) y (slices_symMergeCmpFunc_eI64 φ) (W (((mid + m : Nat) : Int) - b)) (mid : Int)
              else slices_symMergeCmpFunc_eI64_j54 φ (P ++ L1 ++ L2 ++ Q) (a : Int) (m : Int) (b : Int) y (slices_symMergeCmpFunc_eI64 φ) (a : Int) (m : Int)) =
            slices_symMergeCmpFunc_eI64_j54 φ (P ++ L1 ++ L2 ++ Q) (a : Int) (m : Int) (b : Int) y (slices_symMergeCmpFunc_eI64 φ) (s0 : Int) (r0 : Int) := by
          by_cases q : mid < m
          · refine ⟨mid + m - b, mid, .inl ⟨q, rfl, rfl⟩, ?_⟩
            have : W (((mid + m : Nat) : Int) - b) = ((mid + m - b : Nat) : Int) := by rw [W_id (by omega) (by omega)]; omega
            rw [if_pos (by simp; omega), this]
          · refine ⟨a, m, .inr ⟨by omega, rfl, rfl⟩, ?_⟩
            rw [if_neg (by simp; omega)]
        obtain ⟨s0, r0, hk, e⟩ := key
        rw [e]
        unfold slices_symMergeCmpFunc_eI64_j54
        obtain ⟨A, B, C, E, rfl, rfl, hc, hA, hB, hL⟩ := splitL_eI64 hs hy φ P L1 L2 Q (slices_symMergeCmpFunc_eI64_j56 φ (P ++ L1 ++ L2 ++ Q) (a : Int) (m : Int) (b : Int) y (slices_symMergeCmpFunc_eI64 φ)) hD1 hD2 hS1 hS2 a m b mid s0 r0 ha hm hb hmid (by omega) (by omega) (by omega) (by omega) hk
        rw [hL]
        simp only [List.length_append] at hm hb hl hφ hp1 hp2 q1 q2
        have hcm : mid = a + A.length + C.length := by omega
        have hend : W (((mid + m : Nat) : Int) - ((a + A.length : Nat) : Int)) = ((m + C.length : Nat) : Int) := by rw [W_id (by omega) (by omega)]; omega
        have step1 : slices_symMergeCmpFunc_eI64_j56 φ (P ++ (A ++ B) ++ (C ++ E) ++ Q) (a : Int) (m : Int) (b : Int) y (slices_symMergeCmpFunc_eI64 φ) ((a + A.length : Nat) : Int) =
            slices_symMergeCmpFunc_eI64_j62 φ (a : Int) (m : Int) (b : Int) y (slices_symMergeCmpFunc_eI64 φ) ((a + A.length : Nat) : Int) (P ++ A ++ C ++ B ++ E ++ Q) := by
          unfold slices_symMergeCmpFunc_eI64_j56
          rw [hW, hn, hend]
          by_cases hBC : B = [] ∨ C = []
          · rw [if_neg (by
              rcases hBC with rfl | rfl
              · simp at hm ⊢; omega
              · simp)]
            rcases hBC with rfl | rfl <;> simp
          · obtain ⟨hB0, hC0⟩ := not_or.1 hBC
            have b0 := List.length_pos_iff.2 hB0
            have c0 := List.length_pos_iff.2 hC0
            rw [if_pos (by simp; omega)]
            have := rotate_eI64 φ (P ++ A) B C (E ++ Q) y hB0 hC0 (by simp; omega) (by omega)
            have e1 : P ++ (A ++ B) ++ (C ++ E) ++ Q = P ++ A ++ B ++ C ++ (E ++ Q) := by simp
            have e2 : ((a + A.length : Nat) : Int) = ((P ++ A).length : Nat) := by simp; omega
            have e3 : (m : Int) = ((P ++ A).length : Nat) + (B.length : Int) := by simp; omega
            have e4 : ((m + C.length : Nat) : Int) = ((P ++ A).length : Nat) + (B.length : Int) + C.length := by simp; omega
            rw [e1]
            conv => lhs; rw [e4, e2]; arg 1; rw [e3]
            rw [this]
            simp [ha]
        rw [step1]
        have step2 : ∃ R1, Srt lt R1 ∧ Stb lt (A ++ C) R1 ∧ slices_symMergeCmpFunc_eI64_j62 φ (a : Int) (m : Int) (b : Int) y (slices_symMergeCmpFunc_eI64 φ) ((a + A.length : Nat) : Int) (P ++ A ++ C ++ B ++ E ++ Q) =
            slices_symMergeCmpFunc_eI64_j68 φ (a : Int) (m : Int) (b : Int) y (slices_symMergeCmpFunc_eI64 φ) ((a + A.length : Nat) : Int) (P ++ R1 ++ B ++ E ++ Q) := by
          unfold slices_symMergeCmpFunc_eI64_j62
          rw [hW]
          by_cases hAC : A = [] ∨ C = []
          · refine ⟨A ++ C, ?_, Stb.refl _, ?_⟩
            · rcases hAC with rfl | rfl
              · simpa using hS2.parts.1
              · simpa using hS1.parts.1
            · rw [if_neg (by
                rcases hAC with rfl | rfl
                · simp
                · simp at hcm ⊢; omega)]
              simp
          · obtain ⟨hA0, hC0⟩ := not_or.1 hAC
            have a0 := List.length_pos_iff.2 hA0
            have c0 := List.length_pos_iff.2 hC0
            obtain ⟨R1, r1, r2, r3⟩ := ih P A C (B ++ E ++ Q) (fun z hz => hD1 z (by simp [hz])) (fun z hz => hD2 z (by simp [hz])) hS1.parts.1 hS2.parts.1 hA0 hC0 (by simp; omega) (by omega)
            refine ⟨R1, r1, r2, ?_⟩
            rw [if_pos (by simp; omega)]
            have e1 : P ++ A ++ C ++ B ++ E ++ Q = P ++ A ++ C ++ (B ++ E ++ Q) := by simp
            have e2 : ((a + A.length : Nat) : Int) = (P.length : Int) + A.length := by simp; omega
            have e3 : (mid : Int) = (P.length : Int) + A.length + C.length := by omega
            rw [e1]
            conv => lhs; arg 1; rw [e3, e2, ← ea]
            rw [r3]
            simp
        obtain ⟨R1, r1, r2, e2⟩ := step2
        rw [e2]
        have hR1 : R1.length = A.length + C.length := by rw [r2.len]; simp
        have step3 : ∃ R2, Srt lt R2 ∧ Stb lt (B ++ E) R2 ∧ slices_symMergeCmpFunc_eI64_j68 φ (a : Int) (m : Int) (b : Int) y (slices_symMergeCmpFunc_eI64 φ) ((a + A.length : Nat) : Int) (P ++ R1 ++ B ++ E ++ Q) = some (P ++ (R1 ++ R2) ++ Q) := by
          unfold slices_symMergeCmpFunc_eI64_j68
          rw [hW, hn, hend]
          by_cases hBE : B = [] ∨ E = []
          · refine ⟨B ++ E, ?_, Stb.refl _, ?_⟩
            · rcases hBE with rfl | rfl
              · simpa using hS2.parts.2.1
              · simpa using hS1.parts.2.1
            · rw [if_neg (by
                rcases hBE with rfl | rfl
                · simp at hm ⊢; omega
                · simp at hb ⊢; omega)]
              simp
          · obtain ⟨hB0, hE0⟩ := not_or.1 hBE
            have b0 := List.length_pos_iff.2 hB0
            have c0 := List.length_pos_iff.2 hE0
            obtain ⟨R2, p1, p2, p3⟩ := ih (P ++ R1) B E Q (fun z hz => hD1 z (by simp [hz])) (fun z hz => hD2 z (by simp [hz])) hS1.parts.2.1 hS2.parts.2.1 hB0 hE0 (by simp; omega) (by simp; omega)
            refine ⟨R2, p1, p2, ?_⟩
            rw [if_pos (by simp; omega)]
            have e1 : (mid : Int) = ((P ++ R1).length : Nat) := by simp; omega
            have e3 : ((m + C.length : Nat) : Int) = ((P ++ R1).length : Nat) + (B.length : Int) := by simp; omega
            have e4 : (b : Int) = ((P ++ R1).length : Nat) + (B.length : Int) + E.length := by simp; omega
            conv => lhs; arg 1; rw [e4, e3, e1]
            rw [p3]
            simp
        obtain ⟨R2, p1, p2, e3⟩ := step3
        rw [e3]
        have hm' := merge_parts hs hS1 hS2 hA hB r1 r2 p1 p2
        exact ⟨R1 ++ R2, hm'.1, hm'.2, rfl⟩
end
end Px
end
section
namespace Px
open Go
set_option linter.unusedVariables false
set_option linter.unusedSimpArgs false
set_option maxHeartbeats 1000000
section
variable {D : Int → Prop} {lt : Int → Int → Bool} {y : Int → Int → Option Int}
theorem ins_in_eI64 (hy : Cmp D y lt) (φ : Nat) (k : List Int → Option (List Int)) (P : List Int) (x : Int) (hx : D x) : ∀ (n : Nat) (S1 S2 : List Int), (∀ z ∈ S1, D z) → P.length + S1.length + S2.length ≤ 1000000 → S1.length < n →
    ∃ A B, S1 = A ++ B ∧ (∀ z ∈ B, lt x z = true) ∧ (A = [] ∨ ∃ A' z, A = A' ++ [z] ∧ lt x z = false) ∧
      slices_insertionSortCmpFunc_eI64_L14 φ (P.length : Int) y k n ((P.length : Int) + S1.length) (P ++ S1 ++ x :: S2) = k (P ++ A ++ x :: (B ++ S2)) := by
  intro n
  induction n with
  | zero => intro S1 S2 _ _ h; omega
  | succ n ih =>
    intro S1 S2 hD hl hn
    rcases List.eq_nil_or_concat S1 with rfl | ⟨S, z, rfl⟩
    · refine ⟨[], [], rfl, by simp, .inl rfl, ?_⟩
      have h0 : decide ((P.length : Int) < (P.length : Int) + (([] : List Int).length : Int)) = false := by simp
      rw [slices_insertionSortCmpFunc_eI64_L14, h0]
      simp [ck, gcall]
    · simp only [List.concat_eq_append] at hD hl hn ⊢
      simp only [List.length_append, List.length_cons, List.length_nil] at hl hn
      have e1 : P ++ (S ++ [z]) ++ x :: S2 = (P ++ S ++ [z]) ++ x :: S2 := by simp
      have e2 : P ++ (S ++ [z]) ++ x :: S2 = (P ++ S) ++ z :: (x :: S2) := by simp
      have g1 : gt (P ++ (S ++ [z]) ++ x :: S2) ((P.length : Int) + ((S ++ [z]).length : Int)) = x := by
        rw [e1]; exact gt_at (by simp <;> omega)
      have hw : W ((P.length : Int) + ((S ++ [z]).length : Int) - 1) = (P.length : Int) + S.length := by
        rw [W_id (by simp; omega) (by simp; omega)]; simp; omega
      have g2 : gt (P ++ (S ++ [z]) ++ x :: S2) ((P.length : Int) + (S.length : Int)) = z := by
        rw [e2]; exact gt_at (by simp)
      have h0 : decide ((P.length : Int) < (P.length : Int) + ((S ++ [z]).length : Int)) = true := by simp; omega
      have hlen : ((P ++ (S ++ [z]) ++ x :: S2).length : Int) = P.length + S.length + 1 + 1 + S2.length := by simp; omega
      obtain ⟨w, hw1, hw2⟩ := hy x z hx (hD z (by simp))
      have s1 : setAt (P ++ (S ++ [z]) ++ x :: S2) ((P.length : Int) + ((S ++ [z]).length : Int)) z = (P ++ S) ++ z :: (z :: S2) := by
        rw [e1, set_at (by simp <;> omega)]; simp
      have s2 : setAt ((P ++ S) ++ z :: (z :: S2)) ((P.length : Int) + (S.length : Int)) x = P ++ S ++ x :: (z :: S2) := set_at (by simp)
      rw [slices_insertionSortCmpFunc_eI64_L14, hw, h0, g1, g2, hw1, hlen]
      rw [ck_pos (fun _ => ⟨by omega, by simp; omega⟩), ck_pos (fun _ => ⟨by omega, by omega⟩), gcall_y rfl]
      simp only [Option.bind_some, hw2, Bool.true_and]
      cases hlt : lt x z with
      | true =>
        rw [if_pos rfl, ck_pos ⟨by omega, by omega⟩, ck_pos ⟨by omega, by simp; omega⟩, s1]
        rw [ck_pos ⟨by omega, by simp; omega⟩, s2]
        obtain ⟨A, B, q1, q2, q3, q4⟩ := ih S (z :: S2) (fun u hu => hD u (by simp [hu])) (by simp; omega) (by omega)
        refine ⟨A, B ++ [z], by rw [q1]; simp, ?_, q3, ?_⟩
        · intro u hu
          rcases List.mem_append.1 hu with h | h
          · exact q2 u h
          · simp at h; rw [h]; exact hlt
        · rw [q4]; simp
      | false =>
        rw [if_neg (by simp)]
        exact ⟨S ++ [z], [], by simp, by simp, .inr ⟨S, z, rfl, hlt⟩, by simp⟩
theorem ins_out_eI64 (hs : Swo lt) (hy : Cmp D y lt) (φ : Nat) (P Q : List Int) : ∀ (n : Nat) (S R : List Int), S ≠ [] → Srt lt S → (∀ z ∈ S, D z) → (∀ z ∈ R, D z) → P.length + S.length + R.length + Q.length ≤ 1000000 → P.length + S.length + R.length < φ → R.length < n →
    ∃ S', Srt lt S' ∧ Stb lt (S ++ R) S' ∧ slices_insertionSortCmpFunc_eI64_L8 φ (P.length : Int) ((P.length : Int) + S.length + R.length) y n ((P.length : Int) + S.length) (P ++ S ++ R ++ Q) = some (P ++ S' ++ Q) := by
  intro n
  induction n with
  | zero => intro S R _ _ _ _ _ _ h; omega
  | succ n ih =>
    intro S R hne hS hD hD' hl hφ hn
    cases R with
    | nil =>
      refine ⟨S, hS, by simpa using Stb.refl S, ?_⟩
      rw [slices_insertionSortCmpFunc_eI64_L8, if_neg (by simp)]
      simp
    | cons x R =>
      simp only [List.length_cons] at hl hφ hn
      rw [slices_insertionSortCmpFunc_eI64_L8, if_pos (by simp; omega)]
      obtain ⟨A, B, q1, q2, q3, q4⟩ := ins_in_eI64 hy φ (slices_insertionSortCmpFunc_eI64_j11 φ ((P.length : Int) + S.length) (slices_insertionSortCmpFunc_eI64_L8 φ (P.length : Int) ((P.length : Int) + S.length + (x :: R).length) y n)) P x (hD' x (by simp)) φ S (R ++ Q) hD (by simp; omega) (by omega)
      rw [show P ++ S ++ x :: R ++ Q = P ++ S ++ x :: (R ++ Q) by simp, q4]
      have hA : ∀ u ∈ A, lt x u = false := by
        rcases q3 with rfl | ⟨A', z, rfl, hz⟩
        · simp
        · intro u hu
          rcases List.mem_append.1 hu with h | h
          · subst q1
            have := (hS.parts.1).parts.2.2 u h z (by simp)
            exact hs.ntr _ _ _ hz this
          · simp at h; rw [h]; exact hz
      have hS2 : Srt lt (A ++ x :: B) := by
        subst q1
        refine hS.parts.1.app (List.pairwise_cons.2 ⟨fun u hu => hs.asym _ _ (q2 u hu), hS.parts.2.1⟩) fun u hu v hv => ?_
        rcases List.mem_cons.1 hv with h | h
        · subst h; exact hA u hu
        · exact hS.parts.2.2 u hu v h
      obtain ⟨S', p1, p2, p3⟩ := ih (A ++ x :: B) R (by simp) hS2 (fun z hz => by
        subst q1
        simp only [List.mem_append, List.mem_cons] at hz
        rcases hz with h | h | h
        · exact hD z (by simp [h])
        · subst h; exact hD' _ (by simp)
        · exact hD z (by simp [h])) (fun z hz => hD' z (by simp [hz])) (by subst q1; simp at hl ⊢; omega) (by subst q1; simp at hφ ⊢; omega) (by omega)
      refine ⟨S', p1, ?_, ?_⟩
      · have h1 : Stb lt (S ++ [x]) (A ++ [x] ++ B) := by subst q1; exact insert_stb hs q2
        have := h1.app (Stb.refl R)
        refine Stb.trans ?_ (Stb.trans this ?_)
        · simpa using Stb.refl (lt := lt) (S ++ x :: R)
        · simpa using p2
      · rw [← p3]
        unfold slices_insertionSortCmpFunc_eI64_j11
        have e1 : W ((P.length : Int) + S.length + 1) = (P.length : Int) + S.length + 1 := W_id (by omega) (by omega)
        have hSl : S.length = A.length + B.length := by rw [q1]; simp
        have e2 : (P.length : Int) + S.length + 1 = P.length + (A ++ x :: B).length := by simp; omega
        have e3 : (P.length : Int) + S.length + (x :: R).length = P.length + (A ++ x :: B).length + R.length := by simp; omega
        have e4 : P ++ A ++ x :: (B ++ (R ++ Q)) = P ++ (A ++ x :: B) ++ R ++ Q := by simp
        rw [e1, e2, e3, e4]
theorem insertionSort_eI64 (hs : Swo lt) (hy : Cmp D y lt) (φ : Nat) (P X Q : List Int) (hD : ∀ z ∈ X, D z) (hl : P.length + X.length + Q.length ≤ 1000000) (hφ : P.length + X.length < φ) :
    ∃ X', Srt lt X' ∧ Stb lt X X' ∧ slices_insertionSortCmpFunc_eI64 φ (P ++ X ++ Q) (P.length : Int) ((P.length : Int) + X.length) y = some (P ++ X' ++ Q) := by
  unfold slices_insertionSortCmpFunc_eI64
  rw [W_id (x := (P.length : Int) + 1) (by omega) (by omega)]
  cases X with
  | nil =>
    refine ⟨[], List.Pairwise.nil, Stb.refl _, ?_⟩
    obtain ⟨n, rfl⟩ : ∃ n, φ = n + 1 := ⟨φ - 1, by omega⟩
    rw [slices_insertionSortCmpFunc_eI64_L8, if_neg (by simp; omega)]
  | cons x R =>
    simp only [List.length_cons] at hl hφ
    obtain ⟨S', p1, p2, p3⟩ := ins_out_eI64 hs hy φ P Q φ [x] R (by simp) (List.pairwise_singleton _ _) (fun z hz => hD z (by simp at hz; simp [hz])) (fun z hz => hD z (by simp [hz])) (by simp; omega) (by simp; omega) (by omega)
    refine ⟨S', p1, by simpa using p2, ?_⟩
    rw [← p3]
    simp only [List.append_assoc, List.cons_append, List.length_cons, List.length_nil, List.nil_append]
    congr 1
    simp; omega
end
end Px
end
section
namespace Px
open Go
set_option linter.unusedVariables false
set_option linter.unusedSimpArgs false
set_option maxHeartbeats 4000000
section
variable {D : Int → Prop} {lt : Int → Int → Bool} {y : Int → Int → Option Int}
theorem insBlocks_eI64 (hs : Swo lt) (hy : Cmp D y lt) (φ N : Nat) (k : Int → List Int → Option (List Int)) (hN : N ≤ 900000) (hφ : N < φ) :
    ∀ (n : Nat) (X Y : List Int), (∀ z ∈ Y, D z) → X.length + Y.length = N → Y.length < n →
    ∃ Y1 Y2 Y1', Y = Y1 ++ Y2 ∧ Runs lt 20 (Y1' ++ []) ∧ Y2.length < 20 ∧ Stb lt Y1 Y1' ∧ (∀ T, Runs lt 20 T → Runs lt 20 (Y1' ++ T)) ∧
      slices_stableCmpFunc_eI64_L38 φ (N : Int) y k n (X.length : Int) ((X.length : Int) + 20) (X ++ Y) = k ((X.length : Int) + Y1.length) (X ++ Y1' ++ Y2) := by
  intro n
  induction n with
  | zero => intro X Y _ _ h; omega
  | succ n ih =>
    intro X Y hD hl hn
    rw [slices_stableCmpFunc_eI64_L38]
    by_cases h : Y.length < 20
    · refine ⟨[], Y, [], rfl, .last (by simp) List.Pairwise.nil, h, Stb.refl _, fun T hT => hT, ?_⟩
      rw [if_neg (by simp; omega)]
      simp
    · obtain ⟨B, Z, rfl, hB⟩ : ∃ B Z, Y = B ++ Z ∧ B.length = 20 := ⟨Y.take 20, Y.drop 20, (List.take_append_drop _ _).symm, by simp; omega⟩
      simp only [List.length_append] at hl hn h
      rw [if_pos (by simp; omega)]
      obtain ⟨B', b1, b2, b3⟩ := insertionSort_eI64 hs hy φ X B Z (fun z hz => hD z (by simp [hz])) (by omega) (by omega)
      rw [hB] at b3
      have e1 : X ++ (B ++ Z) = X ++ B ++ Z := by simp
      have e2 : ((20 : Nat) : Int) = 20 := rfl
      rw [e2] at b3
      rw [e1, b3]
      simp only [Option.bind_some]
      have hB' : B'.length = 20 := by rw [b2.len, hB]
      have w1 : W ((X.length : Int) + 20 + 20) = (X.length : Int) + 20 + 20 := W_id (by omega) (by omega)
      have e3 : (X.length : Int) + 20 = ((X ++ B').length : Nat) := by simp [hB']
      rw [w1]
      obtain ⟨Y1, Y2, Y1', q1, q2, q3, q4, q5, q6⟩ := ih (X ++ B') Z (fun z hz => hD z (by simp [hz])) (by simp; omega) (by omega)
      rw [← e3] at q6
      refine ⟨B ++ Y1, Y2, B' ++ Y1', by rw [q1]; simp, ?_, q3, b2.app q4, fun T hT => ?_, ?_⟩
      · rw [List.append_assoc]; exact .cons hB' b1 q2
      · rw [List.append_assoc]; exact .cons hB' b1 (q5 T hT)
      · rw [q6]
        have e4 : (X.length : Int) + 20 + Y1.length = (X.length : Int) + ((B ++ Y1).length : Nat) := by simp; omega
        rw [e4]
        simp
theorem pass_eI64 (hs : Swo lt) (hy : Cmp D y lt) (φ N bs : Nat) (k : Int → List Int → Option (List Int)) (hN : N ≤ 900000) (hφ : 2 * N + 3 < φ) (hb0 : 0 < bs) (hb : bs ≤ 900000) :
    ∀ (n : Nat) (X Y : List Int), (∀ z ∈ Y, D z) → Runs lt bs Y → X.length + Y.length = N → Y.length < n →
    ∃ Y', Runs lt (bs * 2) Y' ∧ Stb lt Y Y' ∧ slices_stableCmpFunc_eI64_L29 φ (N : Int) y (bs : Int) (slices_stableCmpFunc_eI64_j18 φ (N : Int) y (bs : Int) k) n (X.length : Int) ((X.length : Int) + 2 * bs) (X ++ Y) = k ((bs * 2 : Nat) : Int) (X ++ Y') := by
  intro n
  induction n with
  | zero => intro X Y _ _ _ h; omega
  | succ n ih =>
    intro X Y hD hR hl hn
    have w1 : W ((X.length : Int) + bs) = (X.length : Int) + bs := W_id (by omega) (by omega)
    have w2 : W ((bs : Int) * 2) = ((bs * 2 : Nat) : Int) := by rw [W_id (by omega) (by omega)]; simp
    have w3 : W (2 * (bs : Int)) = 2 * (bs : Int) := W_id (by omega) (by omega)
    have w4 : W ((X.length : Int) + 2 * bs + 2 * bs) = (X.length : Int) + 2 * bs + 2 * bs := W_id (by omega) (by omega)
    rw [slices_stableCmpFunc_eI64_L29, w1, w3, w4]
    by_cases h : 2 * bs ≤ Y.length
    · rw [if_pos (by simp; omega)]
      obtain ⟨B1, r, rfl, h1, s1, hr, hne⟩ := hR.big (by omega)
      simp only [List.length_append] at hl hn h
      obtain ⟨B2, Z, rfl, h2, s2, hZ⟩ : ∃ B2 Z, r = B2 ++ Z ∧ B2.length = bs ∧ Srt lt B2 ∧ Runs lt bs Z := by
        by_cases q : r.length = bs
        · exact ⟨r, [], by simp, q, hr.small (by omega), .last (by simp) List.Pairwise.nil⟩
        · obtain ⟨b, r', e, q1, q2, q3, _⟩ := hr.big (by omega)
          exact ⟨b, r', e, q1, q2, q3⟩
      simp only [List.length_append] at hl hn h
      obtain ⟨R, r1, r2, r3⟩ := symMerge_eI64 hs hy φ X B1 B2 Z (fun z hz => hD z (by simp [hz])) (fun z hz => hD z (by simp [hz])) s1 s2 (by intro e; subst e; simp at h1; omega) (by intro e; subst e; simp at h2; omega) (by omega) (by omega)
      have hRl : R.length = 2 * bs := by rw [r2.len]; simp; omega
      have e1 : X ++ (B1 ++ (B2 ++ Z)) = X ++ B1 ++ B2 ++ Z := by simp
      have e2 : (X.length : Int) + bs = (X.length : Int) + B1.length := by omega
      have e3 : (X.length : Int) + 2 * bs = (X.length : Int) + B1.length + B2.length := by omega
      have e4 : (X.length : Int) + 2 * bs = ((X ++ R).length : Nat) := by simp; omega
      obtain ⟨Y', p1, p2, p3⟩ := ih (X ++ R) Z (fun z hz => hD z (by simp [hz])) hZ (by simp; omega) (by omega)
      refine ⟨R ++ Y', .cons (by omega) r1 p1, ?_, ?_⟩
      · have := r2.app p2
        simpa using this
      · rw [e1]
        conv => lhs; arg 1; rw [e2, e3]
        rw [r3]
        simp only [Option.bind_some]
        rw [e4, p3]
        simp
    · rw [if_neg (by simp; omega)]
      unfold slices_stableCmpFunc_eI64_j18 slices_stableCmpFunc_eI64_j20
      rw [w1, w2]
      by_cases q : bs < Y.length
      · rw [if_pos (by simp; omega)]
        obtain ⟨B1, B2, rfl, h1, s1, hr, hne⟩ := hR.big q
        simp only [List.length_append] at hl hn h
        obtain ⟨R, r1, r2, r3⟩ := symMerge_eI64 hs hy φ X B1 B2 [] (fun z hz => hD z (by simp [hz])) (fun z hz => hD z (by simp [hz])) s1 (hr.small (by omega)) (by intro e; subst e; simp at h1; omega) hne (by simp; omega) (by omega)
        have e1 : X ++ (B1 ++ B2) = X ++ B1 ++ B2 ++ [] := by simp
        have e2 : (X.length : Int) + bs = (X.length : Int) + B1.length := by omega
        have e3 : (N : Int) = (X.length : Int) + B1.length + B2.length := by omega
        refine ⟨R, .last (by rw [r2.len]; simp; omega) r1, r2, ?_⟩
        rw [e1, e2, e3, r3]
        simp
      · rw [if_neg (by simp; omega)]
        exact ⟨Y, .last (by omega) (hR.small (by omega)), Stb.refl _, rfl⟩
theorem passes_eI64 (hs : Swo lt) (hy : Cmp D y lt) (φ N : Nat) (hN : N ≤ 400000) (hφ : 2 * N + 3 < φ) :
    ∀ (n bs : Nat) (Y : List Int), (∀ z ∈ Y, D z) → Runs lt bs Y → Y.length = N → 0 < bs → bs ≤ 900000 → N - bs < n →
    ∃ Y', Srt lt Y' ∧ Stb lt Y Y' ∧ slices_stableCmpFunc_eI64_L14 φ (N : Int) y n (bs : Int) Y = some Y' := by
  intro n
  induction n with
  | zero => intro bs Y _ _ _ _ _ h; omega
  | succ n ih =>
    intro bs Y hD hR hl hb0 hb hn
    rw [slices_stableCmpFunc_eI64_L14]
    by_cases h : bs < N
    · rw [if_pos (by simp; omega), W_id (x := 2 * (bs : Int)) (by omega) (by omega)]
      obtain ⟨Y', p1, p2, p3⟩ := pass_eI64 hs hy φ N bs (slices_stableCmpFunc_eI64_L14 φ (N : Int) y n) (by omega) hφ hb0 hb φ [] Y hD hR (by simpa using hl) (by omega)
      obtain ⟨Y'', q1, q2, q3⟩ := ih (bs * 2) Y' (fun z hz => hD z (p2.mem.1 hz)) p1 (by rw [p2.len, hl]) (by omega) (by omega) (by omega)
      refine ⟨Y'', q1, p2.trans q2, ?_⟩
      rw [← q3]
      simpa using p3
    · rw [if_neg (by simp; omega)]
      exact ⟨Y, hR.small (by omega), Stb.refl _, rfl⟩
/-- The stable sort sorts, and keeps the order of equal elements. -/
theorem sortStable_eI64 (hs : Swo lt) (hy : Cmp D y lt) (φ : Nat) (v : List Int) (hD : ∀ z ∈ v, D z) (hN : v.length ≤ 400000) (hφ : 2 * v.length + 3 < φ) :
    ∃ r, Srt lt r ∧ Stb lt v r ∧ slices_SortStableFunc_eI64 φ v y = some r := by
  unfold slices_SortStableFunc_eI64 slices_stableCmpFunc_eI64
  obtain ⟨Y1, Y2, Y1', q1, q2, q3, q4, q5, q6⟩ := insBlocks_eI64 hs hy φ v.length (slices_stableCmpFunc_eI64_j7 φ (v.length : Int) y) (by omega) (by omega) φ [] v hD (by simp) (by omega)
  have q6' : slices_stableCmpFunc_eI64_L38 φ (v.length : Int) y (slices_stableCmpFunc_eI64_j7 φ (v.length : Int) y) φ 0 20 v = slices_stableCmpFunc_eI64_j7 φ (v.length : Int) y (Y1.length : Int) (Y1' ++ Y2) := by simpa using q6
  rw [q6']
  unfold slices_stableCmpFunc_eI64_j7
  have hl : v.length = Y1.length + Y2.length := by rw [q1]; simp
  have hl1 : Y1'.length = Y1.length := q4.len
  obtain ⟨Y2', p1, p2, p3⟩ := insertionSort_eI64 hs hy φ Y1' Y2 [] (fun z hz => hD z (by rw [q1]; simp [hz])) (by simp; omega) (by omega)
  simp only [List.append_nil] at p3
  have e1 : (Y1.length : Int) = Y1'.length := by omega
  have e2 : (v.length : Int) = (Y1'.length : Int) + Y2.length := by omega
  have p3' : slices_insertionSortCmpFunc_eI64 φ (Y1' ++ Y2) (Y1.length : Int) (v.length : Int) y = some (Y1' ++ Y2') := by rw [e1, e2]; exact p3
  have hst : Stb lt v (Y1' ++ Y2') := by rw [q1]; exact q4.app p2
  obtain ⟨r, r1, r2, r3⟩ := passes_eI64 hs hy φ v.length hN hφ φ 20 (Y1' ++ Y2') (fun z hz => hD z (hst.mem.1 hz)) (q5 _ (.last (by rw [p2.len]; omega) p1)) hst.len (by omega) (by omega) (by omega)
  refine ⟨r, r1, hst.trans r2, ?_⟩
  rw [p3']
  simp only [Option.bind_some]
  have r3' : slices_stableCmpFunc_eI64_L14 φ (v.length : Int) y φ 20 (Y1' ++ Y2') = some r := r3
  rw [r3']
  rfl
end
end Px
end
section
namespace Px
open Go
set_option linter.unusedVariables false
set_option linter.unusedSimpArgs false
def properB (p : Pool) (r : Report) : Bool :=
  (r.fRef.fRailway != r.fItem.fOther) && ((((gt p.fNetwork.fPlaces r.fItem.fPlace).fRailway == r.fRef.fRailway) && ((gt p.fNetwork.fPlaces r.fItem.fPlace).fOther == r.fItem.fOther)) || (((gt p.fNetwork.fPlaces r.fItem.fPlace).fRailway == r.fItem.fOther) && ((gt p.fNetwork.fPlaces r.fItem.fPlace).fOther == r.fRef.fRailway)))
theorem proper_eq (φ : Nat) (p : Pool) (r : Report) (h : 0 ≤ r.fItem.fPlace ∧ r.fItem.fPlace < (p.fNetwork.fPlaces.length : Int)) : handover_proper φ p r = some (properB p r) := by
  unfold handover_proper; rw [ck_pos h]; rfl
def pstep (p : Pool) (l : List Report) (rs : List Int) (st : List (Int × Bool) × List (Nat → Int)) (d : Int) : List (Int × Bool) × List (Nat → Int) :=
  if properB p (gt l d) = false then st else if 0 ≤ bestOf l st.1 d rs then (mset st.1 (bestOf l st.1 d rs) true, st.2 ++ [ofL [d, bestOf l st.1 d rs]]) else st
def pairsOf (p : Pool) (l : List Report) (rs ds : List Int) : List (Nat → Int) := (ds.foldl (pstep p l rs) ([], [])).2
theorem pairs_loop (φ : Nat) (hφ : 4 < φ) (p : Pool) (l : List Report) (rs ds : List Int) (hl : ds.length ≤ 100000) (hrl : rs.length ≤ 100000) (hr : ∀ z ∈ rs, 0 ≤ z ∧ z < (l.length : Int)) (hφ2 : rs.length < φ) (hφ3 : ds.length < φ)
    (hd : ∀ z ∈ ds, (0 ≤ z ∧ z < (l.length : Int)) ∧ 0 ≤ (gt l z).fItem.fPlace ∧ (gt l z).fItem.fPlace < (p.fNetwork.fPlaces.length : Int)) :
    handover_pairs_L31 φ p l rs ds (handover_pairs_j26 φ) φ 0 [] [] = some (pairsOf p l rs ds) := by
  refine loop_up0 (fun n j (s : List (Int × Bool) × List (Nat → Int)) => handover_pairs_L31 φ p l rs ds (handover_pairs_j26 φ) n j s.1 s.2) ds.length (fun j s => s = (ds.take j).foldl (pstep p l rs) ([], []) ∧ s.2.length ≤ j)
    (fun o => o = some (pairsOf p l rs ds)) ?_ ?_ φ ([], []) ⟨by simp, by simp⟩ hφ3
  · intro n j s hj ⟨hs, hsl⟩ hk
    obtain ⟨hz, hpl⟩ := hd _ (gt_mem (l := ds) (i := (j : Int)) (by omega) (by omega))
    have hnext : (ds.take (j + 1)).foldl (pstep p l rs) ([], []) = pstep p l rs s (gt ds (j : Int)) := by
      rw [take_succ_gt ds j hj, List.foldl_append, ← hs]; rfl
    have w : W ((j : Int) + 1) = (j : Int) + 1 := W_id (by omega) (by omega)
    rw [handover_pairs_L31, if_pos (by simp; omega), ck_pos ⟨by omega, by omega⟩, ck_pos hz]
    simp only [Pool.eta', Item.eta', Report.eta', proper_eq φ p _ hpl, Option.bind_some]
    by_cases q : properB p (gt l (gt ds (j : Int))) = false
    · rw [q, if_pos (by simp)]
      unfold handover_pairs_j36
      rw [w]
      exact hk s ⟨by rw [hnext]; unfold pstep; rw [if_pos q], by omega⟩
    · have q' : properB p (gt l (gt ds (j : Int))) = true := by simpa using q
      rw [q', if_neg (by simp), bestOf_eq φ hφ l rs ds _ s.1 _ hrl hr hφ2]
      unfold handover_pairs_j43
      by_cases hb : 0 ≤ bestOf l s.1 (gt ds (j : Int)) rs
      · rw [if_pos (by simpa using hb), ck_pos (fits_small (by simp; omega) (by omega))]
        unfold handover_pairs_j36
        rw [w]
        refine hk (mset s.1 (bestOf l s.1 (gt ds (j : Int)) rs) true, s.2 ++ [ofL [gt ds (j : Int), bestOf l s.1 (gt ds (j : Int)) rs]]) ⟨?_, by simp; omega⟩
        rw [hnext]; unfold pstep; rw [if_neg q, if_pos hb]
      · rw [if_neg (by simpa using hb)]
        unfold handover_pairs_j36
        rw [w]
        refine hk s ⟨?_, by omega⟩
        rw [hnext]; unfold pstep; rw [if_neg q, if_neg hb]
  · intro n s ⟨hs, _⟩
    rw [List.take_length] at hs
    rw [handover_pairs_L31, if_neg (by simp), hs]
    rfl
/-- What pairs answers. -/
theorem pairs_eq (φ : Nat) (p : Pool) (l : List Report) (ok : Item → Bool) (hl : l.length ≤ 100000) (hφ : 2 * l.length + 10 < φ) (hc : fleet_CheckPool φ p = some 0)
    (hok : ∀ r ∈ l, r.fItem.fKind = 3 ∨ r.fItem.fKind = 4 → ∃ e, edi_Check φ p r.fItem = some e ∧ (e == 0) = ok r.fItem)
    (hpl : ∀ r ∈ l, r.fItem.fKind = 3 ∨ r.fItem.fKind = 4 → ok r.fItem = true → 0 ≤ r.fItem.fPlace ∧ r.fItem.fPlace < (p.fNetwork.fPlaces.length : Int)) :
    ∃ ds, Srt (pairLt l) ds ∧ Stb (pairLt l) (idxF (fun r => r.fItem.fKind == 3 && ok r.fItem) l) ds ∧
      handover_pairs φ p l = some (pairsOf p l (idxF (fun r => r.fItem.fKind == 4 && ok r.fItem) l) ds) := by
  have h3 := of_eq φ p l 3 ok hl (by omega) fun r hr hk => hok r hr (.inl hk)
  have h4 := of_eq φ p l 4 ok hl (by omega) fun r hr hk => hok r hr (.inr hk)
  have l3 := idxF_len (fun r : Report => r.fItem.fKind == 3 && ok r.fItem) l
  have l4 := idxF_len (fun r : Report => r.fItem.fKind == 4 && ok r.fItem) l
  obtain ⟨ds, s1, s2, s3⟩ := sortStable_eI64 (swo_pair l) (cmp_pair φ (by omega) l) φ (idxF (fun r => r.fItem.fKind == 3 && ok r.fItem) l)
    (fun z hz => ⟨(idxF_mem.1 hz).1, (idxF_mem.1 hz).2.1⟩) (by omega) (by omega)
  refine ⟨ds, s1, s2, ?_⟩
  have dl := s2.len
  unfold handover_pairs
  simp only [Pool.eta', hc, h3, h4, Option.bind_some, s3]
  rw [if_neg (by decide)]
  refine pairs_loop φ (by omega) p l _ ds (by omega) (by omega) (fun z hz => ⟨(idxF_mem.1 hz).1, (idxF_mem.1 hz).2.1⟩) (by omega) (by omega) fun z hz => ?_
  obtain ⟨q1, q2, q3⟩ := idxF_mem.1 (s2.mem.1 hz)
  simp only [Bool.and_eq_true, beq_iff_eq] at q3
  exact ⟨⟨q1, q2⟩, hpl _ (gt_mem q1 q2) (.inl q3.1) q3.2⟩
end Px
end
section
namespace Px
open Go
set_option linter.unusedVariables false
set_option linter.unusedSimpArgs false
set_option maxHeartbeats 1000000
section
theorem swapL_eHandover (φ : Nat) (P Z Q : List Handover) (c : Nat) : ∀ (n : Nat) (X1 X2 Y1 Y2 : List Handover), X1.length = Y1.length → X2.length = Y2.length → c = X1.length + X2.length → P.length + c + Z.length + c + Q.length ≤ 1000000 → X2.length < n →
    slices_swapRangeCmpFunc_eHandover_L9 φ (P.length : Int) ((P.length : Int) + c + Z.length) (c : Int) n (X1.length : Int) (P ++ Y1 ++ X2 ++ Z ++ X1 ++ Y2 ++ Q) = some (P ++ Y1 ++ Y2 ++ Z ++ X1 ++ X2 ++ Q) := by
  intro n
  induction n with
  | zero => intro X1 X2 Y1 Y2 _ _ _ _ h; omega
  | succ n ih =>
    intro X1 X2 Y1 Y2 h1 h2 hc hl hn
    cases X2 with
    | nil =>
      have : Y2 = [] := List.eq_nil_of_length_eq_zero (by simpa using h2.symm)
      subst this
      simp only [List.length_nil, Nat.add_zero] at hc
      rw [slices_swapRangeCmpFunc_eHandover_L9, if_neg (by simp; omega)]
    | cons x X2 =>
      cases Y2 with
      | nil => simp at h2
      | cons w Y2 =>
        simp only [List.length_cons, Nat.add_right_cancel_iff] at h2 hc hn
        have w1 : W ((P.length : Int) + c + Z.length + X1.length) = (P.length : Int) + c + Z.length + X1.length := W_id (by omega) (by omega)
        have w2 : W ((P.length : Int) + X1.length) = (P.length : Int) + X1.length := W_id (by omega) (by omega)
        have w3 : W ((X1.length : Int) + 1) = (X1.length : Int) + 1 := W_id (by omega) (by omega)
        have e1 : P ++ Y1 ++ x :: X2 ++ Z ++ X1 ++ w :: Y2 ++ Q = (P ++ Y1) ++ x :: (X2 ++ Z ++ X1 ++ w :: Y2 ++ Q) := by simp
        have e2 : P ++ Y1 ++ x :: X2 ++ Z ++ X1 ++ w :: Y2 ++ Q = (P ++ Y1 ++ x :: X2 ++ Z ++ X1) ++ w :: (Y2 ++ Q) := by simp
        have g1 : gt (P ++ Y1 ++ x :: X2 ++ Z ++ X1 ++ w :: Y2 ++ Q) ((P.length : Int) + X1.length) = x := by rw [e1]; exact gt_at (by simp; omega)
        have g2 : gt (P ++ Y1 ++ x :: X2 ++ Z ++ X1 ++ w :: Y2 ++ Q) ((P.length : Int) + c + Z.length + X1.length) = w := by rw [e2]; exact gt_at (by simp; omega)
        have s1 : setAt (P ++ Y1 ++ x :: X2 ++ Z ++ X1 ++ w :: Y2 ++ Q) ((P.length : Int) + X1.length) w = (P ++ Y1) ++ w :: (X2 ++ Z ++ X1 ++ w :: Y2 ++ Q) := by rw [e1]; exact set_at (by simp; omega)
        have e3 : (P ++ Y1) ++ w :: (X2 ++ Z ++ X1 ++ w :: Y2 ++ Q) = (P ++ Y1 ++ w :: X2 ++ Z ++ X1) ++ w :: (Y2 ++ Q) := by simp
        have s2 : setAt ((P ++ Y1 ++ w :: X2 ++ Z ++ X1) ++ w :: (Y2 ++ Q)) ((P.length : Int) + c + Z.length + X1.length) x = (P ++ Y1 ++ w :: X2 ++ Z ++ X1) ++ x :: (Y2 ++ Q) := set_at (by simp; omega)
        have e4 : (P ++ Y1 ++ w :: X2 ++ Z ++ X1) ++ x :: (Y2 ++ Q) = P ++ (Y1 ++ [w]) ++ X2 ++ Z ++ (X1 ++ [x]) ++ Y2 ++ Q := by simp
        have hlen : ((P ++ Y1 ++ x :: X2 ++ Z ++ X1 ++ w :: Y2 ++ Q).length : Int) = P.length + c + Z.length + c + Q.length := by simp; omega
        have hlen2 : (((P ++ Y1 ++ w :: X2 ++ Z ++ X1) ++ w :: (Y2 ++ Q)).length : Int) = P.length + c + Z.length + c + Q.length := by simp; omega
        rw [slices_swapRangeCmpFunc_eHandover_L9, if_pos (by simp; omega), w1, w2, w3, g1, g2, s1, e3, s2, e4, hlen, hlen2]
        rw [ck_pos ⟨by omega, by omega⟩, ck_pos ⟨by omega, by omega⟩, ck_pos ⟨by omega, by omega⟩]
        have := ih (X1 ++ [x]) X2 (Y1 ++ [w]) Y2 (by simp [h1]) h2 (by simp; omega) hl (by omega)
        have e5 : (((X1 ++ [x]).length : Nat) : Int) = (X1.length : Int) + 1 := by simp
        rw [e5] at this
        rw [this]
        simp
theorem swap_eHandover (φ : Nat) (P X Z Y Q : List Handover) (y : Handover → Handover → Option Int) (h : X.length = Y.length) (hl : P.length + X.length + Z.length + X.length + Q.length ≤ 1000000) (hφ : X.length < φ) :
    slices_swapRangeCmpFunc_eHandover φ (P ++ X ++ Z ++ Y ++ Q) (P.length : Int) ((P.length : Int) + X.length + Z.length) (X.length : Int) y = some (P ++ Y ++ Z ++ X ++ Q) := by
  have := swapL_eHandover φ P Z Q X.length φ [] X [] Y rfl h (by simp) hl hφ
  simpa [slices_swapRangeCmpFunc_eHandover] using this
theorem rotL_eHandover (φ : Nat) (y : Handover → Handover → Option Int) : ∀ (n : Nat) (P X Y Q : List Handover), X ≠ [] → Y ≠ [] → P.length + X.length + Y.length + Q.length ≤ 1000000 → X.length + Y.length ≤ n → X.length + Y.length < φ →
    slices_rotateCmpFunc_eHandover_L17 φ ((P.length : Int) + X.length) y (slices_rotateCmpFunc_eHandover_j9 φ ((P.length : Int) + X.length) y) n (X.length : Int) (Y.length : Int) (P ++ X ++ Y ++ Q) = some (P ++ Y ++ X ++ Q) := by
  intro n
  induction n with
  | zero => intro P X Y Q hX hY _ h; have := List.length_pos_iff.2 hX; omega
  | succ n ih =>
    intro P X Y Q hX hY hl hn hφ
    have hX0 := List.length_pos_iff.2 hX
    have hY0 := List.length_pos_iff.2 hY
    have w1 : W ((P.length : Int) + X.length - X.length) = (P.length : Int) := by rw [W_id (by omega) (by omega)]; omega
    rw [slices_rotateCmpFunc_eHandover_L17, w1]
    by_cases he : X.length = Y.length
    · rw [if_neg (by simp [he])]
      unfold slices_rotateCmpFunc_eHandover_j9
      rw [w1]
      have := swap_eHandover φ P X [] Y Q y he (by simp; omega) (by omega)
      simp only [List.append_nil, List.length_nil, Int.ofNat_zero, Int.add_zero] at this
      rw [this]; rfl
    · rw [if_pos (by simp; omega)]
      by_cases hlt : Y.length < X.length
      · rw [if_pos (by simp; omega)]
        obtain ⟨X1, X2, rfl, h1⟩ : ∃ X1 X2, X = X1 ++ X2 ∧ X1.length = Y.length := ⟨X.take Y.length, X.drop Y.length, (List.take_append_drop _ _).symm, by simp; omega⟩
        simp only [List.length_append] at hl hn hφ hlt hX0 he
        have e1 : P ++ (X1 ++ X2) ++ Y ++ Q = P ++ X1 ++ X2 ++ Y ++ Q := by simp
        have e2 : (P.length : Int) + ((X1 ++ X2).length : Nat) = (P.length : Int) + X1.length + X2.length := by simp; omega
        rw [e1, e2, ← h1, swap_eHandover φ P X1 X2 Y Q y h1 (by omega) (by omega)]
        simp only [Option.bind_some]
        have w2 : W (((X1 ++ X2).length : Int) - X1.length) = (X2.length : Int) := by simp; rw [W_id (by omega) (by omega)]; omega
        rw [w2]
        have := ih (P ++ Y) X2 X1 Q (by intro e; subst e; simp at hlt; omega) (by intro e; subst e; simp at h1; omega) (by simp; omega) (by omega) (by omega)
        have e3 : (((P ++ Y).length : Nat) : Int) + X2.length = (P.length : Int) + X1.length + X2.length := by simp; omega
        rw [e3] at this
        rw [this]
        simp
      · rw [if_neg (by simp; omega)]
        obtain ⟨Y1, Y2, rfl, h1⟩ : ∃ Y1 Y2, Y = Y1 ++ Y2 ∧ Y2.length = X.length := ⟨Y.take (Y.length - X.length), Y.drop (Y.length - X.length), (List.take_append_drop _ _).symm, by simp; omega⟩
        simp only [List.length_append] at hl hn hφ hlt hY0 he
        have e1 : P ++ X ++ (Y1 ++ Y2) ++ Q = P ++ X ++ Y1 ++ Y2 ++ Q := by simp
        have w3 : W ((P.length : Int) + X.length + ((Y1 ++ Y2).length : Nat)) = (P.length : Int) + X.length + Y1.length + Y2.length := by simp; rw [W_id (by omega) (by omega)]; omega
        have w4 : W ((P.length : Int) + X.length + Y1.length + Y2.length - X.length) = (P.length : Int) + X.length + Y1.length := by rw [W_id (by omega) (by omega)]; omega
        have w5 : W (((Y1 ++ Y2).length : Int) - X.length) = (Y1.length : Int) := by simp; rw [W_id (by omega) (by omega)]; omega
        rw [e1, w3, w4, w5, swap_eHandover φ P X Y1 Y2 Q y h1.symm (by omega) (by omega)]
        simp only [Option.bind_some]
        have := ih P Y2 Y1 (X ++ Q) (by intro e; subst e; simp at h1; omega) (by intro e; subst e; simp at h1 hlt he; omega) (by simp; omega) (by omega) (by omega)
        rw [h1] at this
        have e2 : P ++ Y2 ++ Y1 ++ X ++ Q = P ++ Y2 ++ Y1 ++ (X ++ Q) := by simp
        rw [e2, this]
        simp
theorem rotate_eHandover (φ : Nat) (P X Y Q : List Handover) (y : Handover → Handover → Option Int) (hX : X ≠ []) (hY : Y ≠ []) (hl : P.length + X.length + Y.length + Q.length ≤ 1000000) (hφ : X.length + Y.length < φ) :
    slices_rotateCmpFunc_eHandover φ (P ++ X ++ Y ++ Q) (P.length : Int) ((P.length : Int) + X.length) ((P.length : Int) + X.length + Y.length) y = some (P ++ Y ++ X ++ Q) := by
  have := rotL_eHandover φ y φ P X Y Q hX hY hl (by omega) hφ
  rw [← this]
  unfold slices_rotateCmpFunc_eHandover
  have w1 : W ((P.length : Int) + X.length - P.length) = (X.length : Int) := by rw [W_id (by omega) (by omega)]; omega
  have w2 : W ((P.length : Int) + X.length + Y.length - ((P.length : Int) + X.length)) = (Y.length : Int) := by rw [W_id (by omega) (by omega)]; omega
  rw [w1, w2]
end
end Px
end
section
namespace Px
open Go
set_option linter.unusedVariables false
set_option linter.unusedSimpArgs false
set_option maxHeartbeats 2000000
section
variable {D : Handover → Prop} {lt : Handover → Handover → Bool} {y : Handover → Handover → Option Int}
theorem shiftUp_eHandover (φ : Nat) (k : List Handover → Option (List Handover)) (x : Handover) : ∀ (n : Nat) (P C E : List Handover), P.length + C.length + E.length ≤ 999999 → C.length < n →
    slices_symMergeCmpFunc_eHandover_L15 φ ((P.length : Int) + C.length + 1) k n (P.length : Int) (P ++ x :: (C ++ E)) = k (P ++ C ++ x :: E) := by
  intro n
  induction n with
  | zero => intro P C E _ h; omega
  | succ n ih =>
    intro P C E hl hn
    have w0 : W ((P.length : Int) + C.length + 1 - 1) = (P.length : Int) + C.length := by rw [W_id (by omega) (by omega)]; omega
    rw [slices_symMergeCmpFunc_eHandover_L15, w0]
    cases C with
    | nil => rw [if_neg (by simp)]; simp
    | cons w C =>
      simp only [List.length_cons] at hl hn
      have w1 : W ((P.length : Int) + 1) = (P.length : Int) + 1 := W_id (by omega) (by omega)
      have e1 : P ++ x :: (w :: C ++ E) = (P ++ [x]) ++ w :: (C ++ E) := by simp
      have g1 : gt (P ++ x :: (w :: C ++ E)) (P.length : Int) = x := gt_at rfl
      have g2 : gt (P ++ x :: (w :: C ++ E)) ((P.length : Int) + 1) = w := by rw [e1]; exact gt_at (by simp)
      have s1 : setAt (P ++ x :: (w :: C ++ E)) (P.length : Int) w = P ++ w :: (w :: C ++ E) := set_at rfl
      have e2 : P ++ w :: (w :: C ++ E) = (P ++ [w]) ++ w :: (C ++ E) := by simp
      have s2 : setAt ((P ++ [w]) ++ w :: (C ++ E)) ((P.length : Int) + 1) x = (P ++ [w]) ++ x :: (C ++ E) := set_at (by simp)
      have hlen : ((P ++ x :: (w :: C ++ E)).length : Int) = P.length + C.length + E.length + 2 := by simp; omega
      have hlen2 : (((P ++ [w]) ++ w :: (C ++ E)).length : Int) = P.length + C.length + E.length + 2 := by simp; omega
      rw [if_pos (by simp; omega), w1, g1, g2, s1, e2, s2, hlen, hlen2, ck_pos ⟨by omega, by omega⟩, ck_pos ⟨by omega, by omega⟩, ck_pos ⟨by omega, by omega⟩]
      have := ih (P ++ [w]) C E (by simp; omega) (by omega)
      have e3 : (((P ++ [w]).length : Nat) : Int) = (P.length : Int) + 1 := by simp
      have e4 : (P.length : Int) + ((w :: C).length : Nat) + 1 = (P.length : Int) + 1 + C.length + 1 := by simp; omega
      rw [e3] at this
      rw [e4, this]
      simp
theorem shiftDown_eHandover (φ : Nat) (k : List Handover → Option (List Handover)) (x : Handover) (P : List Handover) : ∀ (n : Nat) (C E : List Handover), P.length + C.length + E.length ≤ 999999 → C.length < n →
    slices_symMergeCmpFunc_eHandover_L37 φ (P.length : Int) k n ((P.length : Int) + C.length) (P ++ C ++ x :: E) = k (P ++ x :: (C ++ E)) := by
  intro n
  induction n with
  | zero => intro C E _ h; omega
  | succ n ih =>
    intro C E hl hn
    rw [slices_symMergeCmpFunc_eHandover_L37]
    rcases nil_or_snoc C with rfl | ⟨S, z, rfl⟩
    · rw [if_neg (by simp)]; simp
    · simp only [List.length_append, List.length_cons, List.length_nil] at hl hn
      have w1 : W ((P.length : Int) + ((S ++ [z]).length : Nat) - 1) = (P.length : Int) + S.length := by
        rw [W_id (by simp; omega) (by simp; omega)]; simp; omega
      have e1 : P ++ (S ++ [z]) ++ x :: E = (P ++ S ++ [z]) ++ x :: E := by simp
      have e2 : P ++ (S ++ [z]) ++ x :: E = (P ++ S) ++ z :: (x :: E) := by simp
      have g1 : gt (P ++ (S ++ [z]) ++ x :: E) ((P.length : Int) + ((S ++ [z]).length : Nat)) = x := by rw [e1]; exact gt_at (by simp <;> omega)
      have g2 : gt (P ++ (S ++ [z]) ++ x :: E) ((P.length : Int) + S.length) = z := by rw [e2]; exact gt_at (by simp)
      have s1 : setAt (P ++ (S ++ [z]) ++ x :: E) ((P.length : Int) + ((S ++ [z]).length : Nat)) z = (P ++ S) ++ z :: (z :: E) := by rw [e1, set_at (by simp <;> omega)]; simp
      have s2 : setAt ((P ++ S) ++ z :: (z :: E)) ((P.length : Int) + S.length) x = P ++ S ++ x :: (z :: E) := set_at (by simp)
      have hlen : ((P ++ (S ++ [z]) ++ x :: E).length : Int) = P.length + S.length + E.length + 2 := by simp; omega
      have hlen2 : (((P ++ S) ++ z :: (z :: E)).length : Int) = P.length + S.length + E.length + 2 := by simp; omega
      rw [if_pos (by simp; omega), w1, g1, g2, s1, s2, hlen, hlen2, ck_pos ⟨by omega, by omega⟩, ck_pos ⟨by omega, by simp; omega⟩, ck_pos ⟨by omega, by omega⟩]
      rw [ih S (z :: E) (by simp; omega) (by omega)]
      simp
/-- One element before a sorted list. -/
theorem mergeFirst_eHandover (hs : Swo lt) (hy : Cmp D y lt) (φ : Nat) (P L Q : List Handover) (x : Handover) (hx : D x) (hD : ∀ z ∈ L, D z) (hS : Srt lt L) (hl : P.length + L.length + Q.length ≤ 999998) (hφ : P.length + L.length + 2 < φ) :
    ∃ R, Srt lt R ∧ Stb lt (x :: L) R ∧ slices_symMergeCmpFunc_eHandover_L24 φ (P ++ x :: (L ++ Q)) (P.length : Int) y (slices_symMergeCmpFunc_eHandover_j10 φ (P ++ x :: (L ++ Q)) (P.length : Int)) φ ((P.length : Int) + 1) ((P.length : Int) + 1 + L.length) = some (P ++ R ++ Q) := by
  have gx : gt (P ++ x :: (L ++ Q)) (P.length : Int) = x := gt_at rfl
  have hlen : ((P ++ x :: (L ++ Q)).length : Int) = P.length + L.length + Q.length + 1 := by simp; omega
  have gL : ∀ i : Nat, P.length + 1 ≤ i → i < P.length + 1 + L.length → gt (P ++ x :: (L ++ Q)) (i : Int) = gt L ((i - (P.length + 1) : Nat) : Int) := by
    intro i h1 h2
    have e : P ++ x :: (L ++ Q) = (P ++ [x]) ++ (L ++ Q) := by simp
    rw [e, gt_app_right _ _ _ (by simp; omega), gt_app_left _ _ _ (by simp; omega) (by simp; omega)]
    congr 1; simp; omega
  obtain ⟨c, h1, h2, h3, h4, h5⟩ := bsearch (slices_symMergeCmpFunc_eHandover_L24 φ (P ++ x :: (L ++ Q)) (P.length : Int) y (slices_symMergeCmpFunc_eHandover_j10 φ (P ++ x :: (L ++ Q)) (P.length : Int)))
    (slices_symMergeCmpFunc_eHandover_j10 φ (P ++ x :: (L ++ Q)) (P.length : Int)) (fun h => lt (gt (P ++ x :: (L ++ Q)) (h : Int)) x) (P.length + 1 + L.length) (P.length + 1)
    (by
      intro n s r h0 hlt hR
      have hm : (W ((U (W ((s : Int) + r))).fdiv 2)) = (((s + r) / 2 : Nat) : Int) := by rw [mid_W (by omega) (by omega)]; omega
      have hm1 : W ((((s + r) / 2 : Nat) : Int) + 1) = (((s + r) / 2 + 1 : Nat) : Int) := by rw [W_id (by omega) (by omega)]; simp
      obtain ⟨w, hw1, hw2⟩ := hy (gt (P ++ x :: (L ++ Q)) (((s + r) / 2 : Nat) : Int)) x (by
        rw [gL _ (by omega) (by omega)]; exact hD _ (gt_mem (by omega) (by omega))) hx
      rw [slices_symMergeCmpFunc_eHandover_L24, if_pos (by simp; omega), hm, hm1, hlen, gx, ck_pos ⟨by omega, by omega⟩, ck_pos ⟨by omega, by omega⟩, hw1]
      simp only [Option.bind_some, hw2])
    (by
      intro n s
      rw [slices_symMergeCmpFunc_eHandover_L24, if_neg (by simp)]) φ (P.length + 1) (P.length + 1 + L.length) (Nat.le_refl _) (by omega) (Nat.le_refl _) (by omega)
  obtain ⟨C, E, rfl, hC⟩ : ∃ C E, L = C ++ E ∧ C.length = c - (P.length + 1) := ⟨L.take (c - (P.length + 1)), L.drop (c - (P.length + 1)), (List.take_append_drop _ _).symm, by simp; omega⟩
  simp only [List.length_append] at hl hφ h2 gL
  have hCx : ∀ z ∈ C, lt z x = true := by
    intro z hz
    rcases nil_or_snoc C with rfl | ⟨S, w, rfl⟩
    · cases hz
    · simp only [List.length_append, List.length_cons, List.length_nil] at hC hz hS gL h2
      have hp : lt w x = true := by
        rcases h3 with h3 | h3
        · omega
        · rw [gL _ (by omega) (by omega)] at h3
          have e : S ++ [w] ++ E = S ++ w :: E := by simp
          rw [e, gt_at (by omega)] at h3
          exact h3
      rcases List.mem_append.1 hz with h | h
      · exact lt_of_ends hs (hS.parts.1.parts.2.2 z h w (by simp)) hp (hs.irr x)
      · simp at h; rw [h]; exact hp
  have hEx : ∀ z ∈ E, lt z x = false := by
    intro z hz
    cases E with
    | nil => cases hz
    | cons w E =>
      simp only [List.length_cons] at h2 gL h4
      have hp : lt w x = false := by
        rcases h4 with h4 | h4
        · simp at h4; omega
        · rw [gL _ (by omega) (by omega), gt_at (by omega)] at h4
          exact h4
      rcases List.mem_cons.1 hz with h | h
      · rw [h]; exact hp
      · exact hs.ntr _ _ _ ((List.pairwise_cons.1 hS.parts.2.1).1 z h) hp
  have hm := merge_parts hs (A := []) (B := [x]) (C := C) (E := E) (R1 := C) (R2 := x :: E) (List.pairwise_singleton _ _) hS (by simpa using hCx) (by simp) hS.parts.1 (by simpa using Stb.refl C) (List.pairwise_cons.2 ⟨hEx, hS.parts.2.1⟩) (by simpa using Stb.refl (x :: E))
  refine ⟨C ++ x :: E, hm.1, by simpa using hm.2, ?_⟩
  have e5 : ((P.length : Int) + 1 + ((C ++ E).length : Nat)) = ((P.length + 1 + (C ++ E).length : Nat) : Int) := by simp
  have e6 : ((P.length : Int) + 1) = ((P.length + 1 : Nat) : Int) := by simp
  rw [e5, e6, h5]
  unfold slices_symMergeCmpFunc_eHandover_j10
  have e7 : (c : Int) = (P.length : Int) + C.length + 1 := by omega
  have e8 : P ++ x :: (C ++ E ++ Q) = P ++ x :: (C ++ (E ++ Q)) := by simp
  rw [e7, e8, shiftUp_eHandover φ _ x φ P C (E ++ Q) (by simp; omega) (by omega)]
  simp [slices_symMergeCmpFunc_eHandover_j12]
/-- A sorted list before one element. -/
theorem mergeLast_eHandover (hs : Swo lt) (hy : Cmp D y lt) (φ : Nat) (P L Q : List Handover) (x : Handover) (hx : D x) (hD : ∀ z ∈ L, D z) (hS : Srt lt L) (hl : P.length + L.length + Q.length ≤ 999998) (hφ : P.length + L.length + 2 < φ) :
    ∃ R, Srt lt R ∧ Stb lt (L ++ [x]) R ∧ slices_symMergeCmpFunc_eHandover_L46 φ (P ++ L ++ x :: Q) ((P.length : Int) + L.length) y (slices_symMergeCmpFunc_eHandover_j32 φ (P ++ L ++ x :: Q) ((P.length : Int) + L.length)) φ (P.length : Int) ((P.length : Int) + L.length) = some (P ++ R ++ Q) := by
  have gx : gt (P ++ L ++ x :: Q) ((P.length : Int) + L.length) = x := gt_at (by simp)
  have hlen : ((P ++ L ++ x :: Q).length : Int) = P.length + L.length + Q.length + 1 := by simp; omega
  have gL : ∀ i : Nat, P.length ≤ i → i < P.length + L.length → gt (P ++ L ++ x :: Q) (i : Int) = gt L ((i - P.length : Nat) : Int) := by
    intro i h1 h2
    rw [List.append_assoc, gt_app_right _ _ _ (by omega), gt_app_left _ _ _ (by omega) (by omega)]
    congr 1; omega
  obtain ⟨c, h1, h2, h3, h4, h5⟩ := bsearch (slices_symMergeCmpFunc_eHandover_L46 φ (P ++ L ++ x :: Q) ((P.length : Int) + L.length) y (slices_symMergeCmpFunc_eHandover_j32 φ (P ++ L ++ x :: Q) ((P.length : Int) + L.length)))
    (slices_symMergeCmpFunc_eHandover_j32 φ (P ++ L ++ x :: Q) ((P.length : Int) + L.length)) (fun h => !lt x (gt (P ++ L ++ x :: Q) (h : Int))) (P.length + L.length) P.length
    (by
      intro n s r h0 hlt hR
      have hm : (W ((U (W ((s : Int) + r))).fdiv 2)) = (((s + r) / 2 : Nat) : Int) := by rw [mid_W (by omega) (by omega)]; omega
      have hm1 : W ((((s + r) / 2 : Nat) : Int) + 1) = (((s + r) / 2 + 1 : Nat) : Int) := by rw [W_id (by omega) (by omega)]; simp
      obtain ⟨w, hw1, hw2⟩ := hy x (gt (P ++ L ++ x :: Q) (((s + r) / 2 : Nat) : Int)) hx (by
        rw [gL _ (by omega) (by omega)]; exact hD _ (gt_mem (by omega) (by omega)))
      rw [slices_symMergeCmpFunc_eHandover_L46, if_pos (by simp; omega), hm, hm1, hlen, gx, ck_pos ⟨by omega, by omega⟩, ck_pos ⟨by omega, by omega⟩, hw1]
      simp only [Option.bind_some, hw2])
    (by
      intro n s
      rw [slices_symMergeCmpFunc_eHandover_L46, if_neg (by simp)]) φ P.length (P.length + L.length) (Nat.le_refl _) (by omega) (Nat.le_refl _) (by omega)
  obtain ⟨A, B, rfl, hC⟩ : ∃ A B, L = A ++ B ∧ A.length = c - P.length := ⟨L.take (c - P.length), L.drop (c - P.length), (List.take_append_drop _ _).symm, by simp; omega⟩
  simp only [List.length_append] at hl hφ h2 gL
  have hA : ∀ z ∈ A, lt x z = false := by
    intro z hz
    rcases nil_or_snoc A with rfl | ⟨S, w, rfl⟩
    · cases hz
    · simp only [List.length_append, List.length_cons, List.length_nil] at hC hz hS gL h2
      have hp : lt x w = false := by
        rcases h3 with h3 | h3
        · omega
        · rw [gL _ (by omega) (by omega)] at h3
          have e : S ++ [w] ++ B = S ++ w :: B := by simp
          rw [e, gt_at (by omega)] at h3
          simpa using h3
      rcases List.mem_append.1 hz with h | h
      · exact hs.ntr _ _ _ hp (hS.parts.1.parts.2.2 z h w (by simp))
      · simp at h; rw [h]; exact hp
  have hB : ∀ z ∈ B, lt x z = true := by
    intro z hz
    cases B with
    | nil => cases hz
    | cons w B =>
      simp only [List.length_cons] at h2 gL h4
      have hp : lt x w = true := by
        rcases h4 with h4 | h4
        · simp at h4; omega
        · rw [gL _ (by omega) (by omega), gt_at (by omega)] at h4
          simpa using h4
      rcases List.mem_cons.1 hz with h | h
      · rw [h]; exact hp
      · exact lt_of_ends hs (hs.irr x) hp ((List.pairwise_cons.1 hS.parts.2.1).1 z h)
  have hm := merge_parts hs (A := A) (B := B) (C := [x]) (E := []) (R1 := A ++ [x]) (R2 := B) hS (by rw [List.append_nil]; exact List.pairwise_singleton _ x) (by simpa using hB) (by simp)
    (hS.parts.1.app (List.pairwise_singleton _ _) (by simpa using hA)) (Stb.refl _) hS.parts.2.1 (by simpa using Stb.refl B)
  refine ⟨A ++ [x] ++ B, hm.1, by simpa using hm.2, ?_⟩
  have e5 : ((P.length : Int) + ((A ++ B).length : Nat)) = ((P.length + (A ++ B).length : Nat) : Int) := by simp
  rw [e5] at h5 ⊢
  rw [h5]
  unfold slices_symMergeCmpFunc_eHandover_j32
  have e7 : (c : Int) = (((P ++ A).length : Nat) : Int) := by simp; omega
  have e8 : P ++ (A ++ B) ++ x :: Q = (P ++ A) ++ B ++ x :: Q := by simp
  have e9 : ((P.length + (A ++ B).length : Nat) : Int) = (((P ++ A).length : Nat) : Int) + B.length := by simp; omega
  rw [e7, e8, e9, shiftDown_eHandover φ _ x (P ++ A) φ B Q (by simp; omega) (by omega)]
  simp [slices_symMergeCmpFunc_eHandover_j34]
end
end Px
end
section
namespace Px
open Go
set_option linter.unusedVariables false
set_option linter.unusedSimpArgs false
set_option maxHeartbeats 4000000
section
variable {D : Handover → Prop} {lt : Handover → Handover → Bool} {y : Handover → Handover → Option Int}
/-- Where the two lists are split. -/
theorem splitL_eHandover (hs : Swo lt) (hy : Cmp D y lt) (φ : Nat) (P L1 L2 Q : List Handover) (k : Int → Option (List Handover)) (hD1 : ∀ z ∈ L1, D z) (hD2 : ∀ z ∈ L2, D z) (hS1 : Srt lt L1) (hS2 : Srt lt L2)
    (a m b mid s0 r0 : Nat) (ha : a = P.length) (hm : m = a + L1.length) (hb : b = m + L2.length) (hmid : mid = (a + b) / 2) (hl : b + Q.length ≤ 999998) (hφ : b < φ)
    (h1 : 1 ≤ L1.length) (h2 : 1 ≤ L2.length) (hs0 : (mid < m ∧ s0 = mid + m - b ∧ r0 = mid) ∨ (m ≤ mid ∧ s0 = a ∧ r0 = m)) :
    ∃ A B C E, L1 = A ++ B ∧ L2 = C ++ E ∧ mid + m - (a + A.length) = m + C.length ∧ (∀ x ∈ B, ∀ y ∈ C, lt y x = true) ∧ (∀ x ∈ A, ∀ y ∈ E, lt y x = false) ∧
      slices_symMergeCmpFunc_eHandover_L90 φ (P ++ L1 ++ L2 ++ Q) (a : Int) (m : Int) (b : Int) y k φ (s0 : Int) (r0 : Int) = k ((a + A.length : Nat) : Int) := by
  have g1 : ∀ i : Nat, a ≤ i → i < m → gt (P ++ L1 ++ L2 ++ Q) (i : Int) = gt L1 ((i - a : Nat) : Int) := by
    intro i q1 q2
    have e : P ++ L1 ++ L2 ++ Q = P ++ (L1 ++ (L2 ++ Q)) := by simp
    rw [e, gt_app_right _ _ _ (by omega), gt_app_left _ _ _ (by omega) (by omega)]
    congr 1; omega
  have g2 : ∀ i : Nat, m ≤ i → i < b → gt (P ++ L1 ++ L2 ++ Q) (i : Int) = gt L2 ((i - m : Nat) : Int) := by
    intro i q1 q2
    have e : P ++ L1 ++ L2 ++ Q = (P ++ L1) ++ (L2 ++ Q) := by simp
    rw [e, gt_app_right _ _ _ (by simp; omega), gt_app_left _ _ _ (by simp; omega) (by simp; omega)]
    congr 1; simp; omega
  have hlen : ((P ++ L1 ++ L2 ++ Q).length : Int) = b + Q.length := by simp; omega
  have hW : W ((U (W ((a : Int) + b))).fdiv 2) = (mid : Int) := by rw [mid_W (by omega) (by omega)]; omega
  have hn : W ((mid : Int) + m) = ((mid + m : Nat) : Int) := by rw [W_id (by omega) (by omega)]; simp
  have hp : W (((mid + m : Nat) : Int) - 1) = ((mid + m - 1 : Nat) : Int) := by rw [W_id (by omega) (by omega)]; omega
  have hmb : mid ≤ b := by omega
  have ham : a ≤ mid := by omega
  obtain ⟨c, h3, h4, h5, h6, h7⟩ := bsearch (slices_symMergeCmpFunc_eHandover_L90 φ (P ++ L1 ++ L2 ++ Q) (a : Int) (m : Int) (b : Int) y k) k
    (fun c => !lt (gt (P ++ L1 ++ L2 ++ Q) ((mid + m - 1 - c : Nat) : Int)) (gt (P ++ L1 ++ L2 ++ Q) (c : Int))) r0 s0
    (by
      intro n s r q0 hlt hR
      have hm' : (W ((U (W ((s : Int) + r))).fdiv 2)) = (((s + r) / 2 : Nat) : Int) := by rw [mid_W (by omega) (by omega)]; omega
      have hm1 : W ((((s + r) / 2 : Nat) : Int) + 1) = (((s + r) / 2 + 1 : Nat) : Int) := by rw [W_id (by omega) (by omega)]; simp
      have hpc : W (((mid + m - 1 : Nat) : Int) - (((s + r) / 2 : Nat) : Int)) = ((mid + m - 1 - (s + r) / 2 : Nat) : Int) := by rw [W_id (by omega) (by omega)]; omega
      obtain ⟨w, hw1, hw2⟩ := hy (gt (P ++ L1 ++ L2 ++ Q) ((mid + m - 1 - (s + r) / 2 : Nat) : Int)) (gt (P ++ L1 ++ L2 ++ Q) (((s + r) / 2 : Nat) : Int))
        (by rw [g2 _ (by omega) (by omega)]; exact hD2 _ (gt_mem (by omega) (by omega))) (by rw [g1 _ (by omega) (by omega)]; exact hD1 _ (gt_mem (by omega) (by omega)))
      rw [slices_symMergeCmpFunc_eHandover_L90, if_pos (by simp; omega), hm', hm1, hW, hn, hp, hpc, hlen, ck_pos ⟨by omega, by omega⟩, ck_pos ⟨by omega, by omega⟩, hw1]
      simp only [Option.bind_some, hw2])
    (by
      intro n s
      rw [slices_symMergeCmpFunc_eHandover_L90, if_neg (by simp)]) φ s0 r0 (Nat.le_refl _) (by omega) (Nat.le_refl _) (by omega)
  obtain ⟨A, B, rfl, hA⟩ : ∃ A B, L1 = A ++ B ∧ A.length = c - a := ⟨L1.take (c - a), L1.drop (c - a), (List.take_append_drop _ _).symm, by simp; omega⟩
  obtain ⟨C, E, rfl, hC⟩ : ∃ C E, L2 = C ++ E ∧ C.length = mid - c := ⟨L2.take (mid - c), L2.drop (mid - c), (List.take_append_drop _ _).symm, by simp; omega⟩
  simp only [List.length_append] at hm hb g1 g2
  refine ⟨A, B, C, E, rfl, rfl, by omega, ?_, ?_, ?_⟩
  · intro x hx z hz
    rcases nil_or_snoc C with rfl | ⟨S, w, rfl⟩
    · cases hz
    · cases B with
      | nil => cases hx
      | cons x0 B =>
        simp only [List.length_append, List.length_cons, List.length_nil] at hC hm hb g1 g2 hA
        have hp : lt w x0 = true := by
          rcases h6 with h6 | h6
          · omega
          · rw [g1 c (by omega) (by omega), g2 (mid + m - 1 - c) (by omega) (by omega)] at h6
            have e : S ++ [w] ++ E = S ++ w :: E := by simp
            rw [e, gt_at (by omega), gt_at (by omega)] at h6
            simpa using h6
        have hz1 : lt w z = false := by
          rcases List.mem_append.1 hz with h | h
          · exact hS2.parts.1.parts.2.2 z h w (by simp)
          · simp at h; rw [h]; exact hs.irr _
        have hx1 : lt x x0 = false := by
          rcases List.mem_cons.1 hx with h | h
          · rw [h]; exact hs.irr _
          · exact (List.pairwise_cons.1 hS1.parts.2.1).1 x h
        exact lt_of_ends hs hz1 hp hx1
  · intro x hx z hz
    rcases nil_or_snoc A with rfl | ⟨S, w, rfl⟩
    · cases hx
    · cases E with
      | nil => cases hz
      | cons e0 E =>
        simp only [List.length_append, List.length_cons, List.length_nil] at hC hm hb g1 g2 hA
        have hp : lt e0 w = false := by
          rcases h5 with h5 | h5
          · omega
          · have e1 : mid + m - 1 - (c - 1) = mid + m - c := by omega
            rw [e1, g1 (c - 1) (by omega) (by omega), g2 (mid + m - c) (by omega) (by omega)] at h5
            have e : S ++ [w] ++ B = S ++ w :: B := by simp
            rw [e, gt_at (by omega), gt_at (by omega)] at h5
            simpa using h5
        have hz1 : lt z e0 = false := by
          rcases List.mem_cons.1 hz with h | h
          · rw [h]; exact hs.irr _
          · exact (List.pairwise_cons.1 hS2.parts.2.1).1 z h
        have hx1 : lt w x = false := by
          rcases List.mem_append.1 hx with h | h
          · exact hS1.parts.1.parts.2.2 x h w (by simp)
          · simp at h; rw [h]; exact hs.irr _
        exact nlt_of_ends hs hz1 hp hx1
  · rw [h7]
    congr 1
    omega
/-- Merging two sorted lists in place. -/
theorem symMerge_eHandover (hs : Swo lt) (hy : Cmp D y lt) : ∀ (φ : Nat) (P L1 L2 Q : List Handover), (∀ z ∈ L1, D z) → (∀ z ∈ L2, D z) → Srt lt L1 → Srt lt L2 → L1 ≠ [] → L2 ≠ [] →
    P.length + L1.length + L2.length + Q.length ≤ 999998 → P.length + L1.length + L2.length + (L1.length + L2.length) + 3 < φ →
    ∃ R, Srt lt R ∧ Stb lt (L1 ++ L2) R ∧ slices_symMergeCmpFunc_eHandover φ (P ++ L1 ++ L2 ++ Q) (P.length : Int) ((P.length : Int) + L1.length) ((P.length : Int) + L1.length + L2.length) y = some (P ++ R ++ Q) := by
  intro φ
  induction φ with
  | zero => intro P L1 L2 Q _ _ _ _ _ _ _ h; omega
  | succ φ ih =>
    intro P L1 L2 Q hD1 hD2 hS1 hS2 hn1 hn2 hl hφ
    have hp1 := List.length_pos_iff.2 hn1
    have hp2 := List.length_pos_iff.2 hn2
    rw [slices_symMergeCmpFunc_eHandover]
    have w1 : W ((P.length : Int) + L1.length - P.length) = (L1.length : Int) := by rw [W_id (by omega) (by omega)]; omega
    have w2 : W ((P.length : Int) + L1.length + L2.length - ((P.length : Int) + L1.length)) = (L2.length : Int) := by rw [W_id (by omega) (by omega)]; omega
    rw [w1, w2]
    by_cases q1 : L1.length = 1
    · rw [if_pos (by simp [q1])]
      match L1, q1 with
      | [x], _ =>
        obtain ⟨R, r1, r2, r3⟩ := mergeFirst_eHandover hs hy φ P L2 Q x (hD1 x (by simp)) hD2 hS2 (by simp at hl; omega) (by simp at hφ; omega)
        refine ⟨R, r1, r2, ?_⟩
        rw [← r3]
        simp
    · rw [if_neg (by simp; omega)]
      by_cases q2 : L2.length = 1
      · rw [if_pos (by simp [q2])]
        match L2, q2 with
        | [x], _ =>
          obtain ⟨R, r1, r2, r3⟩ := mergeLast_eHandover hs hy φ P L1 Q x (hD2 x (by simp)) hD1 hS1 (by simp at hl; omega) (by simp at hφ; omega)
          refine ⟨R, r1, r2, ?_⟩
          rw [← r3]
          simp
      · rw [if_neg (by simp; omega)]
        obtain ⟨a, ha⟩ : ∃ a, a = P.length := ⟨_, rfl⟩
        obtain ⟨m, hm⟩ : ∃ m, m = a + L1.length := ⟨_, rfl⟩
        obtain ⟨b, hb⟩ : ∃ b, b = m + L2.length := ⟨_, rfl⟩
        obtain ⟨mid, hmid⟩ : ∃ mid, mid = (a + b) / 2 := ⟨_, rfl⟩
        have ea : (P.length : Int) = (a : Int) := by omega
        have em : (P.length : Int) + L1.length = (m : Int) := by omega
        have eb : (P.length : Int) + L1.length + L2.length = (b : Int) := by omega
        rw [eb, em, ea]
        have hW : W ((U (W ((a : Int) + b))).fdiv 2) = (mid : Int) := by rw [mid_W (by omega) (by omega)]; omega
        have hn : W ((mid : Int) + m) = ((mid + m : Nat) : Int) := by rw [W_id (by omega) (by omega)]; simp
        rw [hW, hn]
        have key : ∃ s0 r0 : Nat, ((mid < m ∧ s0 = mid + m - b ∧ r0 = mid) ∨ (m ≤ mid ∧ s0 = a ∧ r0 = m)) ∧
            (if decide ((mid : Int) < m) = true then slices_symMergeCmpFunc_eHandover_j54 φ (P ++ L1 ++ L2 ++ Q) (a : Int) (m : Int) (b : Int) y (slices_symMergeCmpFunc_eHandover φ) (W (((mid + m : Nat) : Int) - b)) (mid : Int)
              else slices_symMergeCmpFunc_eHandover_j54 φ (P ++ L1 ++ L2 ++ Q) (a : Int) (m : Int) (b : Int) y (slices_symMergeCmpFunc_eHandover φ) (a : Int) (m : Int)) =
            slices_symMergeCmpFunc_eHandover_j54 φ (P ++ L1 ++ L2 ++ Q) (a : Int) (m : Int) (b : Int) y (slices_symMergeCmpFunc_eHandover φ) (s0 : Int) (r0 : Int) := by
          by_cases q : mid < m
          · refine ⟨mid + m - b, mid, .inl ⟨q, rfl, rfl⟩, ?_⟩
            have : W (((mid + m : Nat) : Int) - b) = ((mid + m - b : Nat) : Int) := by rw [W_id (by omega) (by omega)]; omega
            rw [if_pos (by simp; omega), this]
          · refine ⟨a, m, .inr ⟨by omega, rfl, rfl⟩, ?_⟩
            rw [if_neg (by simp; omega)]
        obtain ⟨s0, r0, hk, e⟩ := key
        rw [e]
        unfold slices_symMergeCmpFunc_eHandover_j54
        obtain ⟨A, B, C, E, rfl, rfl, hc, hA, hB, hL⟩ := splitL_eHandover hs hy φ P L1 L2 Q (slices_symMergeCmpFunc_eHandover_j56 φ (P ++ L1 ++ L2 ++ Q) (a : Int) (m : Int) (b : Int) y (slices_symMergeCmpFunc_eHandover φ)) hD1 hD2 hS1 hS2 a m b mid s0 r0 ha hm hb hmid (by omega) (by omega) (by omega) (by omega) hk
        rw [hL]
        simp only [List.length_append] at hm hb hl hφ hp1 hp2 q1 q2
        have hcm : mid = a + A.length + C.length := by omega
        have hend : W (((mid + m : Nat) : Int) - ((a + A.length : Nat) : Int)) = ((m + C.length : Nat) : Int) := by rw [W_id (by omega) (by omega)]; omega
        have step1 : slices_symMergeCmpFunc_eHandover_j56 φ (P ++ (A ++ B) ++ (C ++ E) ++ Q) (a : Int) (m : Int) (b : Int) y (slices_symMergeCmpFunc_eHandover φ) ((a + A.length : Nat) : Int) =
            slices_symMergeCmpFunc_eHandover_j62 φ (a : Int) (m : Int) (b : Int) y (slices_symMergeCmpFunc_eHandover φ) ((a + A.length : Nat) : Int) (P ++ A ++ C ++ B ++ E ++ Q) := by
          unfold slices_symMergeCmpFunc_eHandover_j56
          rw [hW, hn, hend]
          by_cases hBC : B = [] ∨ C = []
          · rw [if_neg (by
              rcases hBC with rfl | rfl
              · simp at hm ⊢; omega
              · simp)]
            rcases hBC with rfl | rfl <;> simp
          · obtain ⟨hB0, hC0⟩ := not_or.1 hBC
            have b0 := List.length_pos_iff.2 hB0
            have c0 := List.length_pos_iff.2 hC0
            rw [if_pos (by simp; omega)]
            have := rotate_eHandover φ (P ++ A) B C (E ++ Q) y hB0 hC0 (by simp; omega) (by omega)
            have e1 : P ++ (A ++ B) ++ (C ++ E) ++ Q = P ++ A ++ B ++ C ++ (E ++ Q) := by simp
            have e2 : ((a + A.length : Nat) : Int) = ((P ++ A).length : Nat) := by simp; omega
            have e3 : (m : Int) = ((P ++ A).length : Nat) + (B.length : Int) := by simp; omega
            have e4 : ((m + C.length : Nat) : Int) = ((P ++ A).length : Nat) + (B.length : Int) + C.length := by simp; omega
            rw [e1]
            conv => lhs; rw [e4, e2]; arg 1; rw [e3]
            rw [this]
            simp [ha]
        rw [step1]
        have step2 : ∃ R1, Srt lt R1 ∧ Stb lt (A ++ C) R1 ∧ slices_symMergeCmpFunc_eHandover_j62 φ (a : Int) (m : Int) (b : Int) y (slices_symMergeCmpFunc_eHandover φ) ((a + A.length : Nat) : Int) (P ++ A ++ C ++ B ++ E ++ Q) =
            slices_symMergeCmpFunc_eHandover_j68 φ (a : Int) (m : Int) (b : Int) y (slices_symMergeCmpFunc_eHandover φ) ((a + A.length : Nat) : Int) (P ++ R1 ++ B ++ E ++ Q) := by
          unfold slices_symMergeCmpFunc_eHandover_j62
          rw [hW]
          by_cases hAC : A = [] ∨ C = []
          · refine ⟨A ++ C, ?_, Stb.refl _, ?_⟩
            · rcases hAC with rfl | rfl
              · simpa using hS2.parts.1
              · simpa using hS1.parts.1
            · rw [if_neg (by
                rcases hAC with rfl | rfl
                · simp
                · simp at hcm ⊢; omega)]
              simp
          · obtain ⟨hA0, hC0⟩ := not_or.1 hAC
            have a0 := List.length_pos_iff.2 hA0
            have c0 := List.length_pos_iff.2 hC0
            obtain ⟨R1, r1, r2, r3⟩ := ih P A C (B ++ E ++ Q) (fun z hz => hD1 z (by simp [hz])) (fun z hz => hD2 z (by simp [hz])) hS1.parts.1 hS2.parts.1 hA0 hC0 (by simp; omega) (by omega)
            refine ⟨R1, r1, r2, ?_⟩
            rw [if_pos (by simp; omega)]
            have e1 : P ++ A ++ C ++ B ++ E ++ Q = P ++ A ++ C ++ (B ++ E ++ Q) := by simp
            have e2 : ((a + A.length : Nat) : Int) = (P.length : Int) + A.length := by simp; omega
            have e3 : (mid : Int) = (P.length : Int) + A.length + C.length := by omega
            rw [e1]
            conv => lhs; arg 1; rw [e3, e2, ← ea]
            rw [r3]
            simp
        obtain ⟨R1, r1, r2, e2⟩ := step2
        rw [e2]
        have hR1 : R1.length = A.length + C.length := by rw [r2.len]; simp
        have step3 : ∃ R2, Srt lt R2 ∧ Stb lt (B ++ E) R2 ∧ slices_symMergeCmpFunc_eHandover_j68 φ (a : Int) (m : Int) (b : Int) y (slices_symMergeCmpFunc_eHandover φ) ((a + A.length : Nat) : Int) (P ++ R1 ++ B ++ E ++ Q) = some (P ++ (R1 ++ R2) ++ Q) := by
          unfold slices_symMergeCmpFunc_eHandover_j68
          rw [hW, hn, hend]
          by_cases hBE : B = [] ∨ E = []
          · refine ⟨B ++ E, ?_, Stb.refl _, ?_⟩
            · rcases hBE with rfl | rfl
              · simpa using hS2.parts.2.1
              · simpa using hS1.parts.2.1
            · rw [if_neg (by
                rcases hBE with rfl | rfl
                · simp at hm ⊢; omega
                · simp at hb ⊢; omega)]
              simp
          · obtain ⟨hB0, hE0⟩ := not_or.1 hBE
            have b0 := List.length_pos_iff.2 hB0
            have c0 := List.length_pos_iff.2 hE0
            obtain ⟨R2, p1, p2, p3⟩ := ih (P ++ R1) B E Q (fun z hz => hD1 z (by simp [hz])) (fun z hz => hD2 z (by simp [hz])) hS1.parts.2.1 hS2.parts.2.1 hB0 hE0 (by simp; omega) (by simp; omega)
            refine ⟨R2, p1, p2, ?_⟩
            rw [if_pos (by simp; omega)]
            have e1 : (mid : Int) = ((P ++ R1).length : Nat) := by simp; omega
            have e3 : ((m + C.length : Nat) : Int) = ((P ++ R1).length : Nat) + (B.length : Int) := by simp; omega
            have e4 : (b : Int) = ((P ++ R1).length : Nat) + (B.length : Int) + E.length := by simp; omega
            conv => lhs; arg 1; rw [e4, e3, e1]
            rw [p3]
            simp
        obtain ⟨R2, p1, p2, e3⟩ := step3
        rw [e3]
        have hm' := merge_parts hs hS1 hS2 hA hB r1 r2 p1 p2
        exact ⟨R1 ++ R2, hm'.1, hm'.2, rfl⟩
end
end Px
end
section
namespace Px
open Go
set_option linter.unusedVariables false
set_option linter.unusedSimpArgs false
set_option maxHeartbeats 1000000
section
variable {D : Handover → Prop} {lt : Handover → Handover → Bool} {y : Handover → Handover → Option Int}
theorem ins_in_eHandover (hy : Cmp D y lt) (φ : Nat) (k : List Handover → Option (List Handover)) (P : List Handover) (x : Handover) (hx : D x) : ∀ (n : Nat) (S1 S2 : List Handover), (∀ z ∈ S1, D z) → P.length + S1.length + S2.length ≤ 1000000 → S1.length < n →
    ∃ A B, S1 = A ++ B ∧ (∀ z ∈ B, lt x z = true) ∧ (A = [] ∨ ∃ A' z, A = A' ++ [z] ∧ lt x z = false) ∧
      slices_insertionSortCmpFunc_eHandover_L14 φ (P.length : Int) y k n ((P.length : Int) + S1.length) (P ++ S1 ++ x :: S2) = k (P ++ A ++ x :: (B ++ S2)) := by
  intro n
  induction n with
  | zero => intro S1 S2 _ _ h; omega
  | succ n ih =>
    intro S1 S2 hD hl hn
    rcases List.eq_nil_or_concat S1 with rfl | ⟨S, z, rfl⟩
    · refine ⟨[], [], rfl, by simp, .inl rfl, ?_⟩
      have h0 : decide ((P.length : Int) < (P.length : Int) + (([] : List Handover).length : Int)) = false := by simp
      rw [slices_insertionSortCmpFunc_eHandover_L14, h0]
      simp [ck, gcall]
    · simp only [List.concat_eq_append] at hD hl hn ⊢
      simp only [List.length_append, List.length_cons, List.length_nil] at hl hn
      have e1 : P ++ (S ++ [z]) ++ x :: S2 = (P ++ S ++ [z]) ++ x :: S2 := by simp
      have e2 : P ++ (S ++ [z]) ++ x :: S2 = (P ++ S) ++ z :: (x :: S2) := by simp
      have g1 : gt (P ++ (S ++ [z]) ++ x :: S2) ((P.length : Int) + ((S ++ [z]).length : Int)) = x := by
        rw [e1]; exact gt_at (by simp <;> omega)
      have hw : W ((P.length : Int) + ((S ++ [z]).length : Int) - 1) = (P.length : Int) + S.length := by
        rw [W_id (by simp; omega) (by simp; omega)]; simp; omega
      have g2 : gt (P ++ (S ++ [z]) ++ x :: S2) ((P.length : Int) + (S.length : Int)) = z := by
        rw [e2]; exact gt_at (by simp)
      have h0 : decide ((P.length : Int) < (P.length : Int) + ((S ++ [z]).length : Int)) = true := by simp; omega
      have hlen : ((P ++ (S ++ [z]) ++ x :: S2).length : Int) = P.length + S.length + 1 + 1 + S2.length := by simp; omega
      obtain ⟨w, hw1, hw2⟩ := hy x z hx (hD z (by simp))
      have s1 : setAt (P ++ (S ++ [z]) ++ x :: S2) ((P.length : Int) + ((S ++ [z]).length : Int)) z = (P ++ S) ++ z :: (z :: S2) := by
        rw [e1, set_at (by simp <;> omega)]; simp
      have s2 : setAt ((P ++ S) ++ z :: (z :: S2)) ((P.length : Int) + (S.length : Int)) x = P ++ S ++ x :: (z :: S2) := set_at (by simp)
      rw [slices_insertionSortCmpFunc_eHandover_L14, hw, h0, g1, g2, hw1, hlen]
      rw [ck_pos (fun _ => ⟨by omega, by simp; omega⟩), ck_pos (fun _ => ⟨by omega, by omega⟩), gcall_y rfl]
      simp only [Option.bind_some, hw2, Bool.true_and]
      cases hlt : lt x z with
      | true =>
        rw [if_pos rfl, ck_pos ⟨by omega, by omega⟩, ck_pos ⟨by omega, by simp; omega⟩, s1]
        rw [ck_pos ⟨by omega, by simp; omega⟩, s2]
        obtain ⟨A, B, q1, q2, q3, q4⟩ := ih S (z :: S2) (fun u hu => hD u (by simp [hu])) (by simp; omega) (by omega)
        refine ⟨A, B ++ [z], by rw [q1]; simp, ?_, q3, ?_⟩
        · intro u hu
          rcases List.mem_append.1 hu with h | h
          · exact q2 u h
          · simp at h; rw [h]; exact hlt
        · rw [q4]; simp
      | false =>
        rw [if_neg (by simp)]
        exact ⟨S ++ [z], [], by simp, by simp, .inr ⟨S, z, rfl, hlt⟩, by simp⟩
theorem ins_out_eHandover (hs : Swo lt) (hy : Cmp D y lt) (φ : Nat) (P Q : List Handover) : ∀ (n : Nat) (S R : List Handover), S ≠ [] → Srt lt S → (∀ z ∈ S, D z) → (∀ z ∈ R, D z) → P.length + S.length + R.length + Q.length ≤ 1000000 → P.length + S.length + R.length < φ → R.length < n →
    ∃ S', Srt lt S' ∧ Stb lt (S ++ R) S' ∧ slices_insertionSortCmpFunc_eHandover_L8 φ (P.length : Int) ((P.length : Int) + S.length + R.length) y n ((P.length : Int) + S.length) (P ++ S ++ R ++ Q) = some (P ++ S' ++ Q) := by
  intro n
  induction n with
  | zero => intro S R _ _ _ _ _ _ h; omega
  | succ n ih =>
    intro S R hne hS hD hD' hl hφ hn
    cases R with
    | nil =>
      refine ⟨S, hS, by simpa using Stb.refl S, ?_⟩
      rw [slices_insertionSortCmpFunc_eHandover_L8, if_neg (by simp)]
      simp
    | cons x R =>
      simp only [List.length_cons] at hl hφ hn
      rw [slices_insertionSortCmpFunc_eHandover_L8, if_pos (by simp; omega)]
      obtain ⟨A, B, q1, q2, q3, q4⟩ := ins_in_eHandover hy φ (slices_insertionSortCmpFunc_eHandover_j11 φ ((P.length : Int) + S.length) (slices_insertionSortCmpFunc_eHandover_L8 φ (P.length : Int) ((P.length : Int) + S.length + (x :: R).length) y n)) P x (hD' x (by simp)) φ S (R ++ Q) hD (by simp; omega) (by omega)
      rw [show P ++ S ++ x :: R ++ Q = P ++ S ++ x :: (R ++ Q) by simp, q4]
      have hA : ∀ u ∈ A, lt x u = false := by
        rcases q3 with rfl | ⟨A', z, rfl, hz⟩
        · simp
        · intro u hu
          rcases List.mem_append.1 hu with h | h
          · subst q1
            have := (hS.parts.1).parts.2.2 u h z (by simp)
            exact hs.ntr _ _ _ hz this
          · simp at h; rw [h]; exact hz
      have hS2 : Srt lt (A ++ x :: B) := by
        subst q1
        refine hS.parts.1.app (List.pairwise_cons.2 ⟨fun u hu => hs.asym _ _ (q2 u hu), hS.parts.2.1⟩) fun u hu v hv => ?_
        rcases List.mem_cons.1 hv with h | h
        · subst h; exact hA u hu
        · exact hS.parts.2.2 u hu v h
      obtain ⟨S', p1, p2, p3⟩ := ih (A ++ x :: B) R (by simp) hS2 (fun z hz => by
        subst q1
        simp only [List.mem_append, List.mem_cons] at hz
        rcases hz with h | h | h
        · exact hD z (by simp [h])
        · subst h; exact hD' _ (by simp)
        · exact hD z (by simp [h])) (fun z hz => hD' z (by simp [hz])) (by subst q1; simp at hl ⊢; omega) (by subst q1; simp at hφ ⊢; omega) (by omega)
      refine ⟨S', p1, ?_, ?_⟩
      · have h1 : Stb lt (S ++ [x]) (A ++ [x] ++ B) := by subst q1; exact insert_stb hs q2
        have := h1.app (Stb.refl R)
        refine Stb.trans ?_ (Stb.trans this ?_)
        · simpa using Stb.refl (lt := lt) (S ++ x :: R)
        · simpa using p2
      · rw [← p3]
        unfold slices_insertionSortCmpFunc_eHandover_j11
        have e1 : W ((P.length : Int) + S.length + 1) = (P.length : Int) + S.length + 1 := W_id (by omega) (by omega)
        have hSl : S.length = A.length + B.length := by rw [q1]; simp
        have e2 : (P.length : Int) + S.length + 1 = P.length + (A ++ x :: B).length := by simp; omega
        have e3 : (P.length : Int) + S.length + (x :: R).length = P.length + (A ++ x :: B).length + R.length := by simp; omega
        have e4 : P ++ A ++ x :: (B ++ (R ++ Q)) = P ++ (A ++ x :: B) ++ R ++ Q := by simp
        rw [e1, e2, e3, e4]
theorem insertionSort_eHandover (hs : Swo lt) (hy : Cmp D y lt) (φ : Nat) (P X Q : List Handover) (hD : ∀ z ∈ X, D z) (hl : P.length + X.length + Q.length ≤ 1000000) (hφ : P.length + X.length < φ) :
    ∃ X', Srt lt X' ∧ Stb lt X X' ∧ slices_insertionSortCmpFunc_eHandover φ (P ++ X ++ Q) (P.length : Int) ((P.length : Int) + X.length) y = some (P ++ X' ++ Q) := by
  unfold slices_insertionSortCmpFunc_eHandover
  rw [W_id (x := (P.length : Int) + 1) (by omega) (by omega)]
  cases X with
  | nil =>
    refine ⟨[], List.Pairwise.nil, Stb.refl _, ?_⟩
    obtain ⟨n, rfl⟩ : ∃ n, φ = n + 1 := ⟨φ - 1, by omega⟩
    rw [slices_insertionSortCmpFunc_eHandover_L8, if_neg (by simp; omega)]
  | cons x R =>
    simp only [List.length_cons] at hl hφ
    obtain ⟨S', p1, p2, p3⟩ := ins_out_eHandover hs hy φ P Q φ [x] R (by simp) (List.pairwise_singleton _ _) (fun z hz => hD z (by simp at hz; simp [hz])) (fun z hz => hD z (by simp [hz])) (by simp; omega) (by simp; omega) (by omega)
    refine ⟨S', p1, by simpa using p2, ?_⟩
    rw [← p3]
    simp only [List.append_assoc, List.cons_append, List.length_cons, List.length_nil, List.nil_append]
    congr 1
    simp; omega
end
end Px
end
section
namespace Px
open Go
set_option linter.unusedVariables false
set_option linter.unusedSimpArgs false
set_option maxHeartbeats 4000000
section
variable {D : Handover → Prop} {lt : Handover → Handover → Bool} {y : Handover → Handover → Option Int}
theorem insBlocks_eHandover (hs : Swo lt) (hy : Cmp D y lt) (φ N : Nat) (k : Int → List Handover → Option (List Handover)) (hN : N ≤ 900000) (hφ : N < φ) :
    ∀ (n : Nat) (X Y : List Handover), (∀ z ∈ Y, D z) → X.length + Y.length = N → Y.length < n →
    ∃ Y1 Y2 Y1', Y = Y1 ++ Y2 ∧ Runs lt 20 (Y1' ++ []) ∧ Y2.length < 20 ∧ Stb lt Y1 Y1' ∧ (∀ T, Runs lt 20 T → Runs lt 20 (Y1' ++ T)) ∧
      slices_stableCmpFunc_eHandover_L38 φ (N : Int) y k n (X.length : Int) ((X.length : Int) + 20) (X ++ Y) = k ((X.length : Int) + Y1.length) (X ++ Y1' ++ Y2) := by
  intro n
  induction n with
  | zero => intro X Y _ _ h; omega
  | succ n ih =>
    intro X Y hD hl hn
    rw [slices_stableCmpFunc_eHandover_L38]
    by_cases h : Y.length < 20
    · refine ⟨[], Y, [], rfl, .last (by simp) List.Pairwise.nil, h, Stb.refl _, fun T hT => hT, ?_⟩
      rw [if_neg (by simp; omega)]
      simp
    · obtain ⟨B, Z, rfl, hB⟩ : ∃ B Z, Y = B ++ Z ∧ B.length = 20 := ⟨Y.take 20, Y.drop 20, (List.take_append_drop _ _).symm, by simp; omega⟩
      simp only [List.length_append] at hl hn h
      rw [if_pos (by simp; omega)]
      obtain ⟨B', b1, b2, b3⟩ := insertionSort_eHandover hs hy φ X B Z (fun z hz => hD z (by simp [hz])) (by omega) (by omega)
      rw [hB] at b3
      have e1 : X ++ (B ++ Z) = X ++ B ++ Z := by simp
      have e2 : ((20 : Nat) : Int) = 20 := rfl
      rw [e2] at b3
      rw [e1, b3]
      simp only [Option.bind_some]
      have hB' : B'.length = 20 := by rw [b2.len, hB]
      have w1 : W ((X.length : Int) + 20 + 20) = (X.length : Int) + 20 + 20 := W_id (by omega) (by omega)
      have e3 : (X.length : Int) + 20 = ((X ++ B').length : Nat) := by simp [hB']
      rw [w1]
      obtain ⟨Y1, Y2, Y1', q1, q2, q3, q4, q5, q6⟩ := ih (X ++ B') Z (fun z hz => hD z (by simp [hz])) (by simp; omega) (by omega)
      rw [← e3] at q6
      refine ⟨B ++ Y1, Y2, B' ++ Y1', by rw [q1]; simp, ?_, q3, b2.app q4, fun T hT => ?_, ?_⟩
      · rw [List.append_assoc]; exact .cons hB' b1 q2
      · rw [List.append_assoc]; exact .cons hB' b1 (q5 T hT)
      · rw [q6]
        have e4 : (X.length : Int) + 20 + Y1.length = (X.length : Int) + ((B ++ Y1).length : Nat) := by simp; omega
        rw [e4]
        simp
theorem pass_eHandover (hs : Swo lt) (hy : Cmp D y lt) (φ N bs : Nat) (k : Int → List Handover → Option (List Handover)) (hN : N ≤ 900000) (hφ : 2 * N + 3 < φ) (hb0 : 0 < bs) (hb : bs ≤ 900000) :
    ∀ (n : Nat) (X Y : List Handover), (∀ z ∈ Y, D z) → Runs lt bs Y → X.length + Y.length = N → Y.length < n →
    ∃ Y', Runs lt (bs * 2) Y' ∧ Stb lt Y Y' ∧ slices_stableCmpFunc_eHandover_L29 φ (N : Int) y (bs : Int) (slices_stableCmpFunc_eHandover_j18 φ (N : Int) y (bs : Int) k) n (X.length : Int) ((X.length : Int) + 2 * bs) (X ++ Y) = k ((bs * 2 : Nat) : Int) (X ++ Y') := by
  intro n
  induction n with
  | zero => intro X Y _ _ _ h; omega
  | succ n ih =>
    intro X Y hD hR hl hn
    have w1 : W ((X.length : Int) + bs) = (X.length : Int) + bs := W_id (by omega) (by omega)
    have w2 : W ((bs : Int) * 2) = ((bs * 2 : Nat) : Int) := by rw [W_id (by omega) (by omega)]; simp
    have w3 : W (2 * (bs : Int)) = 2 * (bs : Int) := W_id (by omega) (by omega)
    have w4 : W ((X.length : Int) + 2 * bs + 2 * bs) = (X.length : Int) + 2 * bs + 2 * bs := W_id (by omega) (by omega)
    rw [slices_stableCmpFunc_eHandover_L29, w1, w3, w4]
    by_cases h : 2 * bs ≤ Y.length
    · rw [if_pos (by simp; omega)]
      obtain ⟨B1, r, rfl, h1, s1, hr, hne⟩ := hR.big (by omega)
      simp only [List.length_append] at hl hn h
      obtain ⟨B2, Z, rfl, h2, s2, hZ⟩ : ∃ B2 Z, r = B2 ++ Z ∧ B2.length = bs ∧ Srt lt B2 ∧ Runs lt bs Z := by
        by_cases q : r.length = bs
        · exact ⟨r, [], by simp, q, hr.small (by omega), .last (by simp) List.Pairwise.nil⟩
        · obtain ⟨b, r', e, q1, q2, q3, _⟩ := hr.big (by omega)
          exact ⟨b, r', e, q1, q2, q3⟩
      simp only [List.length_append] at hl hn h
      obtain ⟨R, r1, r2, r3⟩ := symMerge_eHandover hs hy φ X B1 B2 Z (fun z hz => hD z (by simp [hz])) (fun z hz => hD z (by simp [hz])) s1 s2 (by intro e; subst e; simp at h1; omega) (by intro e; subst e; simp at h2; omega) (by omega) (by omega)
      have hRl : R.length = 2 * bs := by rw [r2.len]; simp; omega
      have e1 : X ++ (B1 ++ (B2 ++ Z)) = X ++ B1 ++ B2 ++ Z := by simp
      have e2 : (X.length : Int) + bs = (X.length : Int) + B1.length := by omega
      have e3 : (X.length : Int) + 2 * bs = (X.length : Int) + B1.length + B2.length := by omega
      have e4 : (X.length : Int) + 2 * bs = ((X ++ R).length : Nat) := by simp; omega
      obtain ⟨Y', p1, p2, p3⟩ := ih (X ++ R) Z (fun z hz => hD z (by simp [hz])) hZ (by simp; omega) (by omega)
      refine ⟨R ++ Y', .cons (by omega) r1 p1, ?_, ?_⟩
      · have := r2.app p2
        simpa using this
      · rw [e1]
        conv => lhs; arg 1; rw [e2, e3]
        rw [r3]
        simp only [Option.bind_some]
        rw [e4, p3]
        simp
    · rw [if_neg (by simp; omega)]
      unfold slices_stableCmpFunc_eHandover_j18 slices_stableCmpFunc_eHandover_j20
      rw [w1, w2]
      by_cases q : bs < Y.length
      · rw [if_pos (by simp; omega)]
        obtain ⟨B1, B2, rfl, h1, s1, hr, hne⟩ := hR.big q
        simp only [List.length_append] at hl hn h
        obtain ⟨R, r1, r2, r3⟩ := symMerge_eHandover hs hy φ X B1 B2 [] (fun z hz => hD z (by simp [hz])) (fun z hz => hD z (by simp [hz])) s1 (hr.small (by omega)) (by intro e; subst e; simp at h1; omega) hne (by simp; omega) (by omega)
        have e1 : X ++ (B1 ++ B2) = X ++ B1 ++ B2 ++ [] := by simp
        have e2 : (X.length : Int) + bs = (X.length : Int) + B1.length := by omega
        have e3 : (N : Int) = (X.length : Int) + B1.length + B2.length := by omega
        refine ⟨R, .last (by rw [r2.len]; simp; omega) r1, r2, ?_⟩
        rw [e1, e2, e3, r3]
        simp
      · rw [if_neg (by simp; omega)]
        exact ⟨Y, .last (by omega) (hR.small (by omega)), Stb.refl _, rfl⟩
theorem passes_eHandover (hs : Swo lt) (hy : Cmp D y lt) (φ N : Nat) (hN : N ≤ 400000) (hφ : 2 * N + 3 < φ) :
    ∀ (n bs : Nat) (Y : List Handover), (∀ z ∈ Y, D z) → Runs lt bs Y → Y.length = N → 0 < bs → bs ≤ 900000 → N - bs < n →
    ∃ Y', Srt lt Y' ∧ Stb lt Y Y' ∧ slices_stableCmpFunc_eHandover_L14 φ (N : Int) y n (bs : Int) Y = some Y' := by
  intro n
  induction n with
  | zero => intro bs Y _ _ _ _ _ h; omega
  | succ n ih =>
    intro bs Y hD hR hl hb0 hb hn
    rw [slices_stableCmpFunc_eHandover_L14]
    by_cases h : bs < N
    · rw [if_pos (by simp; omega), W_id (x := 2 * (bs : Int)) (by omega) (by omega)]
      obtain ⟨Y', p1, p2, p3⟩ := pass_eHandover hs hy φ N bs (slices_stableCmpFunc_eHandover_L14 φ (N : Int) y n) (by omega) hφ hb0 hb φ [] Y hD hR (by simpa using hl) (by omega)
      obtain ⟨Y'', q1, q2, q3⟩ := ih (bs * 2) Y' (fun z hz => hD z (p2.mem.1 hz)) p1 (by rw [p2.len, hl]) (by omega) (by omega) (by omega)
      refine ⟨Y'', q1, p2.trans q2, ?_⟩
      rw [← q3]
      simpa using p3
    · rw [if_neg (by simp; omega)]
      exact ⟨Y, hR.small (by omega), Stb.refl _, rfl⟩
/-- The stable sort sorts, and keeps the order of equal elements. -/
theorem sortStable_eHandover (hs : Swo lt) (hy : Cmp D y lt) (φ : Nat) (v : List Handover) (hD : ∀ z ∈ v, D z) (hN : v.length ≤ 400000) (hφ : 2 * v.length + 3 < φ) :
    ∃ r, Srt lt r ∧ Stb lt v r ∧ slices_SortStableFunc_eHandover φ v y = some r := by
  unfold slices_SortStableFunc_eHandover slices_stableCmpFunc_eHandover
  obtain ⟨Y1, Y2, Y1', q1, q2, q3, q4, q5, q6⟩ := insBlocks_eHandover hs hy φ v.length (slices_stableCmpFunc_eHandover_j7 φ (v.length : Int) y) (by omega) (by omega) φ [] v hD (by simp) (by omega)
  have q6' : slices_stableCmpFunc_eHandover_L38 φ (v.length : Int) y (slices_stableCmpFunc_eHandover_j7 φ (v.length : Int) y) φ 0 20 v = slices_stableCmpFunc_eHandover_j7 φ (v.length : Int) y (Y1.length : Int) (Y1' ++ Y2) := by simpa using q6
  rw [q6']
  unfold slices_stableCmpFunc_eHandover_j7
  have hl : v.length = Y1.length + Y2.length := by rw [q1]; simp
  have hl1 : Y1'.length = Y1.length := q4.len
  obtain ⟨Y2', p1, p2, p3⟩ := insertionSort_eHandover hs hy φ Y1' Y2 [] (fun z hz => hD z (by rw [q1]; simp [hz])) (by simp; omega) (by omega)
  simp only [List.append_nil] at p3
  have e1 : (Y1.length : Int) = Y1'.length := by omega
  have e2 : (v.length : Int) = (Y1'.length : Int) + Y2.length := by omega
  have p3' : slices_insertionSortCmpFunc_eHandover φ (Y1' ++ Y2) (Y1.length : Int) (v.length : Int) y = some (Y1' ++ Y2') := by rw [e1, e2]; exact p3
  have hst : Stb lt v (Y1' ++ Y2') := by rw [q1]; exact q4.app p2
  obtain ⟨r, r1, r2, r3⟩ := passes_eHandover hs hy φ v.length hN hφ φ 20 (Y1' ++ Y2') (fun z hz => hD z (hst.mem.1 hz)) (q5 _ (.last (by rw [p2.len]; omega) p1)) hst.len (by omega) (by omega) (by omega)
  refine ⟨r, r1, hst.trans r2, ?_⟩
  rw [p3']
  simp only [Option.bind_some]
  have r3' : slices_stableCmpFunc_eHandover_L14 φ (v.length : Int) y φ 20 (Y1' ++ Y2') = some r := r3
  rw [r3']
  rfl
end
end Px
end
section
namespace Px
open Go
set_option linter.unusedVariables false
set_option linter.unusedSimpArgs false
/-- What is known of the pairs: each is a delivery and a receipt that fit; no receipt, no delivery twice; used tells the receipts. -/
structure PInv (p : Pool) (l : List Report) (rs done : List Int) (st : List (Int × Bool) × List (Nat → Int)) : Prop where
  pr : ∀ x ∈ st.2, ∃ d k, x = ofL [d, k] ∧ d ∈ done ∧ k ∈ rs ∧ properB p (gt l d) = true ∧ unfit l [] d k = false
  used : ∀ k, (mget st.1 k).getD false = true ↔ ∃ x ∈ st.2, x 1 = k
  nd : (st.2.map fun x => x 1).Nodup
  sub : (st.2.map fun x => x 0).Sublist done
theorem mget_mset {κ ν : Type} [BEq κ] [LawfulBEq κ] (m : List (κ × ν)) (k j : κ) (v : ν) : mget (mset m k v) j = if j == k then some v else mget m j := by
  induction m with
  | nil => simp [mset, mget]
  | cons a m ih =>
    obtain ⟨a, b⟩ := a
    simp only [mset]
    cases h : (k == a) with
    | true =>
      have := eq_of_beq h; subst this
      simp only [cond_true, mget]
      cases j == k <;> simp
    | false =>
      simp only [cond_false, mget, ih]
      cases h2 : (j == a) with
      | false => simp
      | true =>
        have := eq_of_beq h2; subst this
        have : (j == k) = false := by
          cases e : (j == k) with
          | false => rfl
          | true => rw [eq_of_beq e] at h; simp at h
        simp [this]
theorem unfit_nil {l : List Report} {used : List (Int × Bool)} {i k : Int} (h : unfit l used i k = false) : unfit l [] i k = false ∧ (mget used k).getD false = false := by
  simp only [unfit, unf5, bool_or_false] at h ⊢
  exact ⟨⟨⟨⟨⟨⟨rfl, h.1.1.1.1.2⟩, h.1.1.1.2⟩, h.1.1.2⟩, h.1.2⟩, h.2⟩, h.1.1.1.1.1⟩
theorem bestOf_spec (l : List Report) (used : List (Int × Bool)) (i : Int) : ∀ (rs : List Int) (b : Int), (0 ≤ rs.foldl (bstep l used i) b) → (rs.foldl (bstep l used i) b = b ∨ rs.foldl (bstep l used i) b ∈ rs ∧ unfit l used i (rs.foldl (bstep l used i) b) = false) := by
  intro rs
  induction rs with
  | nil => intro b _; exact .inl rfl
  | cons k rs ih =>
    intro b h
    simp only [List.foldl_cons] at h ⊢
    rcases ih _ h with e | ⟨e1, e2⟩
    · rw [e]
      unfold bstep
      split
      · exact .inl rfl
      · rename_i hu
        split
        · exact .inl rfl
        · exact .inr ⟨List.mem_cons_self, by simpa using hu⟩
    · exact .inr ⟨List.mem_cons_of_mem _ e1, e2⟩
theorem pinv_step {p : Pool} {l : List Report} {rs done : List Int} {st : List (Int × Bool) × List (Nat → Int)} (h : PInv p l rs done st) (d : Int) : PInv p l rs (done ++ [d]) (pstep p l rs st d) := by
  have keep : PInv p l rs (done ++ [d]) st := ⟨fun x hx => by
      obtain ⟨a, k, h1, h2, h3⟩ := h.pr x hx
      exact ⟨a, k, h1, by simp [h2], h3⟩, h.used, h.nd, h.sub.trans (List.sublist_append_left _ _)⟩
  unfold pstep
  split
  · exact keep
  · rename_i hp
    split
    · rename_i hb
      rcases bestOf_spec l st.1 d rs (-1) hb with e | ⟨e1, e2⟩
      · have : bestOf l st.1 d rs = -1 := e
        omega
      · have hm : bestOf l st.1 d rs ∈ rs := e1
        obtain ⟨u1, u2⟩ := unfit_nil (show unfit l st.1 d (bestOf l st.1 d rs) = false from e2)
        generalize bestOf l st.1 d rs = b at *
        refine ⟨fun x hx => ?_, fun k => ?_, ?_, ?_⟩
        · rcases List.mem_append.1 hx with hx | hx
          · exact keep.pr x hx
          · simp at hx; subst hx
            exact ⟨d, b, rfl, by simp, hm, by simpa using hp, u1⟩
        · simp only [mget_mset]
          by_cases q : k = b
          · subst q; simp; right; rfl
          · rw [if_neg (by simp [q]), h.used k]
            constructor
            · rintro ⟨x, hx, e⟩; exact ⟨x, by simp [hx], e⟩
            · rintro ⟨x, hx, e⟩
              rcases List.mem_append.1 hx with hx | hx
              · exact ⟨x, hx, e⟩
              · simp at hx; subst hx; exact absurd e.symm q
        · simp only [List.map_append, List.map_cons, List.map_nil]
          rw [List.nodup_append]
          refine ⟨h.nd, by simp, fun a ha c hc => ?_⟩
          simp at hc
          obtain ⟨x, hx, e⟩ := List.mem_map.1 ha
          intro e'
          have : (mget st.1 b).getD false = true := (h.used b).2 ⟨x, hx, by rw [e, e', hc]; rfl⟩
          rw [u2] at this; cases this
        · simp only [List.map_append, List.map_cons, List.map_nil]
          exact h.sub.append (List.Sublist.refl _)
    · exact keep
theorem pinv_fold {p : Pool} {l : List Report} {rs : List Int} : ∀ (ds done : List Int) (st : List (Int × Bool) × List (Nat → Int)), PInv p l rs done st → PInv p l rs (done ++ ds) (ds.foldl (pstep p l rs) st)
  | [], done, st, h => by simpa using h
  | d :: ds, done, st, h => by
    have := pinv_fold ds (done ++ [d]) _ (pinv_step h d)
    simpa using this
theorem pinv (p : Pool) (l : List Report) (rs ds : List Int) : PInv p l rs ds (ds.foldl (pstep p l rs) ([], [])) := by
  have := pinv_fold (p := p) (l := l) (rs := rs) ds [] ([], []) ⟨by simp, by simp [mget], by simp, by simp⟩
  simpa using this
end Px
end
section
namespace Px
open Go
set_option linter.unusedVariables false
set_option linter.unusedSimpArgs false
def mkH (l : List Report) (x : Nat → Int) : Handover :=
  Handover.mk (gt l (x 0)).fItem.fWagon (gt l (x 0)).fItem.fPlace (gt l (x 0)).fRef.fRailway (gt l (x 1)).fRef.fRailway (W ((W (((gt l (x 0)).fItem.fFrom) + ((gt l (x 1)).fItem.fFrom))).tdiv 2)) (max2 ((gt l (x 0)).fItem.fCode) ((gt l (x 1)).fItem.fCode)) (gt l (x 0)).fRef (gt l (x 1)).fRef
theorem Match_loop (φ : Nat) (l : List Report) (ps : List (Nat → Int)) (hl : ps.length ≤ 100000) (hp : ∀ x ∈ ps, (0 ≤ x 0 ∧ x 0 < (l.length : Int)) ∧ 0 ≤ x 1 ∧ x 1 < (l.length : Int)) (hφ : ps.length < φ) (k : List Handover → Option (List Handover)) :
    handover_Match_L19 φ l ps k φ 0 [] = k (ps.map (mkH l)) := by
  refine loop_up0 (handover_Match_L19 φ l ps k) ps.length (fun j s => s = (ps.take j).map (mkH l)) (fun o => o = k (ps.map (mkH l))) ?_ ?_ φ [] (by simp) hφ
  · intro n j s hj hs hk
    obtain ⟨h0, h1⟩ := hp _ (gt_mem (l := ps) (i := (j : Int)) (by omega) (by omega))
    have hsl : s.length ≤ j := by rw [hs]; simp; omega
    have w : W ((j : Int) + 1) = (j : Int) + 1 := W_id (by omega) (by omega)
    rw [handover_Match_L19, if_pos (by simp; omega), ck_pos ⟨by omega, by omega⟩, ck_pos h0, ck_pos h1]
    unfold handover_Match_j25
    rw [ck_pos (fits_small (by simp; omega) (by omega)), w]
    refine hk _ ?_
    rw [take_succ_gt ps j hj, List.map_append, ← hs]
    rfl
  · intro n s hs
    rw [List.take_length] at hs
    rw [handover_Match_L19, if_neg (by simp), hs]
theorem pairs_range {p : Pool} {l : List Report} {rs ds : List Int} (hr : ∀ z ∈ rs, 0 ≤ z ∧ z < (l.length : Int)) (hd : ∀ z ∈ ds, 0 ≤ z ∧ z < (l.length : Int)) :
    ∀ x ∈ pairsOf p l rs ds, (0 ≤ x 0 ∧ x 0 < (l.length : Int)) ∧ 0 ≤ x 1 ∧ x 1 < (l.length : Int) := by
  intro x hx
  obtain ⟨d, k, rfl, h1, h2, _⟩ := (pinv p l rs ds).pr x hx
  exact ⟨hd d h1, hr k h2⟩
theorem pairs_len (p : Pool) (l : List Report) (rs ds : List Int) : (pairsOf p l rs ds).length ≤ ds.length := by
  have := (pinv p l rs ds).sub.length_le
  simpa [pairsOf] using this
end Px
end
section
namespace Px
open Go
set_option linter.unusedVariables false
set_option linter.unusedSimpArgs false
def lastC (a : List Custody) : Custody := gt a ((a.length : Int) - 1)
def chainStep (w : Int) (a : List Custody) (h : Handover) : List Custody :=
  if (((h.fWagon == w) && (h.fFrom == (lastC a).fRailway)) && decide ((lastC a).fSpan.fFrom < h.fAt)) = true then a ++ [Custody.mk h.fTo (Span.mk h.fAt 0) h.fReceive] else a
def homeC (p : Pool) (w : Int) : Custody := Custody.mk (gt p.fNetwork.fPlaces ((gt p.fFleet.fWagons w).fHome)).fRailway (Span.mk 0 0) (Ref.mk 0 0)
def chainOf (c : Custody) (w : Int) (ms : List Handover) : List Custody := ms.foldl (chainStep w) [c]
theorem chainStep_len (w : Int) (a : List Custody) (h : Handover) : a.length ≤ (chainStep w a h).length ∧ (chainStep w a h).length ≤ a.length + 1 := by
  unfold chainStep; split <;> simp
theorem chain_loop (φ : Nat) (w : Int) (ms : List Handover) (c : Custody) (hl : ms.length ≤ 100000) (hφ : ms.length < φ) :
    handover_chain_L21 φ w ms (handover_chain_j17 φ) φ 0 [c] = some (chainOf c w ms) := by
  refine loop_up0 (handover_chain_L21 φ w ms (handover_chain_j17 φ)) ms.length (fun j s => s = (ms.take j).foldl (chainStep w) [c] ∧ 1 ≤ s.length ∧ s.length ≤ j + 1) (fun o => o = some (chainOf c w ms)) ?_ ?_ φ [c] ⟨by simp, by simp, by simp⟩ hφ
  · intro n j s hj ⟨hs, h1, h2⟩ hk
    have w1 : W ((j : Int) + 1) = (j : Int) + 1 := W_id (by omega) (by omega)
    have w2 : W ((s.length : Int) - 1) = (s.length : Int) - 1 := W_id (by omega) (by omega)
    have hnext : (ms.take (j + 1)).foldl (chainStep w) [c] = chainStep w s (gt ms (j : Int)) := by
      rw [take_succ_gt ms j hj, List.foldl_append, ← hs]; rfl
    have hle := chainStep_len w s (gt ms (j : Int))
    rw [handover_chain_L21, if_pos (by simp; omega), ck_pos ⟨by omega, by omega⟩, w2, ck_pos ⟨by omega, by omega⟩]
    have hlast : gt s ((s.length : Int) - 1) = lastC s := rfl
    rw [hlast]
    unfold handover_chain_j42
    rw [w1]
    split
    · rename_i h
      rw [ck_pos (fits_small (by simp; omega) (by omega))]
      refine hk _ ⟨?_, by simp, by simp; omega⟩
      rw [hnext]; unfold chainStep; rw [if_pos h]
    · rename_i h
      refine hk _ ⟨?_, h1, by omega⟩
      rw [hnext]; unfold chainStep; rw [if_neg h]
  · intro n s ⟨hs, _⟩
    rw [List.take_length] at hs
    rw [handover_chain_L21, if_neg (by simp), hs]
    rfl
theorem chain_eq (φ : Nat) (p : Pool) (l : List Report) (w : Int) (ms : List Handover) (hm : handover_Match φ p l = some ms) (hl : ms.length ≤ 100000) (hφ : ms.length < φ)
    (hw : 0 ≤ w ∧ w < (p.fFleet.fWagons.length : Int)) (hh : 0 ≤ (gt p.fFleet.fWagons w).fHome ∧ (gt p.fFleet.fWagons w).fHome < (p.fNetwork.fPlaces.length : Int)) :
    handover_chain φ p l w = some (chainOf (homeC p w) w ms) := by
  unfold handover_chain
  rw [ck_pos hw, ck_pos hh]
  simp only [Pool.eta', hm, Option.bind_some]
  exact chain_loop φ w ms _ hl hφ
/-- A chain: it begins with c, and goes on in time. -/
def Chn : List Custody → Prop := List.Pairwise fun a b => a.fSpan.fFrom < b.fSpan.fFrom
theorem lastC_app (a : List Custody) (x : Custody) : lastC (a ++ [x]) = x := by
  unfold lastC; exact gt_at (by simp)
theorem chain_inv (w : Int) : ∀ (ms : List Handover) (a : List Custody) (c : Custody), Chn (a ++ [c]) → Chn (ms.foldl (chainStep w) (a ++ [c]))
  | [], a, c, h => h
  | m :: ms, a, c, h => by
    simp only [List.foldl_cons]
    unfold chainStep
    rw [lastC_app]
    split
    · rename_i hh
      simp only [Bool.and_eq_true, decide_eq_true_eq] at hh
      refine chain_inv w ms (a ++ [c]) _ ?_
      refine List.pairwise_append.2 ⟨h, List.pairwise_singleton _ _, fun x hx y hy => ?_⟩
      simp at hy; subst hy
      rcases List.mem_append.1 hx with hx | hx
      · exact Int.lt_trans ((List.pairwise_append.1 h).2.2 x hx c (by simp)) hh.2
      · simp at hx; subst hx; exact hh.2
    · exact chain_inv w ms a c h
theorem check_eq (φ : Nat) (p : Pool) (w m e : Int) (hc : fleet_CheckPool φ p = some e) :
    handover_check φ p w m = some (if e ≠ 0 then e else if 0 ≤ w ∧ w < (p.fFleet.fWagons.length : Int) ∧ 0 ≤ m ∧ m ≤ 1073741824 then 0 else 1) := by
  unfold handover_check
  simp only [Pool.eta', hc, Option.bind_some]
  by_cases q : e = 0
  · subst q
    simp only [bne_self_eq_false, Bool.false_eq_true, if_false, ne_eq, not_true_eq_false]
    by_cases h : 0 ≤ w ∧ w < (p.fFleet.fWagons.length : Int) ∧ 0 ≤ m ∧ m ≤ 1073741824
    · rw [if_pos h, if_neg (by simp only [Bool.or_eq_true, decide_eq_true_eq]; omega)]
    · rw [if_neg h, if_pos (by simp only [Bool.or_eq_true, decide_eq_true_eq]; omega)]
  · rw [if_pos (by simp [q]), if_pos q]
/-- At looks back from the end. -/
theorem At_loop (φ : Nat) (m : Int) (c : List Custody) (hc : c.length ≤ 100000) : ∀ (n : Nat) (k : Nat), k < c.length → (∃ i : Nat, i ≤ k ∧ (gt c (i : Int)).fSpan.fFrom ≤ m) → k < n →
    ∃ i : Nat, i ≤ k ∧ (gt c (i : Int)).fSpan.fFrom ≤ m ∧ (∀ j : Nat, i < j → j ≤ k → m < (gt c (j : Int)).fSpan.fFrom) ∧ handover_At_L17 φ m c (handover_At_j14 φ c) n (k : Int) = some ((gt c (i : Int)).fRailway, 0) := by
  intro n
  induction n with
  | zero => intro k _ _ h; omega
  | succ n ih =>
    intro k hk hex hn
    rw [handover_At_L17, ck_pos ⟨by omega, by omega⟩]
    by_cases q : m < (gt c (k : Int)).fSpan.fFrom
    · rw [if_pos (by simpa using q)]
      obtain ⟨i, h1, h2⟩ := hex
      have hik : i ≠ k := by intro e; subst e; omega
      have w : W ((k : Int) - 1) = ((k - 1 : Nat) : Int) := by rw [W_id (by omega) (by omega)]; omega
      rw [w]
      obtain ⟨i', p1, p2, p3, p4⟩ := ih (k - 1) (by omega) ⟨i, by omega, h2⟩ (by omega)
      refine ⟨i', by omega, p2, fun j hj hj' => ?_, p4⟩
      by_cases e : j = k
      · subst e; exact q
      · exact p3 j hj (by omega)
    · rw [if_neg (by simpa using q)]
      refine ⟨k, Nat.le_refl _, by omega, fun j hj hj' => by omega, ?_⟩
      unfold handover_At_j14
      rw [ck_pos ⟨by omega, by omega⟩]
end Px
end
section
namespace Px
open Go
set_option linter.unusedVariables false
set_option linter.unusedSimpArgs false
def setTo (c : Custody) (t : Int) : Custody := Custody.mk c.fRailway (Span.mk c.fSpan.fFrom t) c.fRef
/-- The first i spans of a chain, the last one to until. -/
def spansN (c : List Custody) (u : Int) : Nat → List Custody
  | 0 => []
  | i + 1 => ((List.range i).map fun (j : Nat) => setTo (gt c (j : Int)) (gt c ((j : Int) + 1)).fSpan.fFrom) ++ [setTo (gt c (i : Int)) u]
theorem spansN_len (c : List Custody) (u : Int) (i : Nat) : (spansN c u i).length = i := by cases i <;> simp [spansN]
theorem spansN_next (c : List Custody) (u : Int) (i : Nat) : setAt (spansN c u (i + 1)) (i : Int) (setTo (gt (spansN c u (i + 1)) (i : Int)) (gt c ((i + 1 : Nat) : Int)).fSpan.fFrom) ++ [setTo (gt c ((i + 1 : Nat) : Int)) u] = spansN c u (i + 2) := by
  have e : spansN c u (i + 1) = ((List.range i).map fun (j : Nat) => setTo (gt c (j : Int)) (gt c ((j : Int) + 1)).fSpan.fFrom) ++ setTo (gt c (i : Int)) u :: [] := rfl
  rw [e, gt_at (by simp), set_at (by simp)]
  simp [spansN, List.range_succ, setTo]
theorem Spans_loop (φ : Nat) (u : Int) (c : List Custody) (hl : c.length ≤ 100000) (hφ : c.length < φ) :
    ∃ i : Nat, i ≤ c.length ∧ (∀ j : Nat, j < i → (gt c (j : Int)).fSpan.fFrom < u) ∧ (i < c.length → u ≤ (gt c (i : Int)).fSpan.fFrom) ∧
      handover_Spans_L19 φ u c (handover_Spans_j15 φ) φ 0 [] = some (spansN c u i, 0) := by
  refine loop_up0 (handover_Spans_L19 φ u c (handover_Spans_j15 φ)) c.length (fun j s => s = spansN c u j ∧ ∀ i : Nat, i < j → (gt c (i : Int)).fSpan.fFrom < u)
    (fun o => ∃ i : Nat, i ≤ c.length ∧ (∀ j : Nat, j < i → (gt c (j : Int)).fSpan.fFrom < u) ∧ (i < c.length → u ≤ (gt c (i : Int)).fSpan.fFrom) ∧ o = some (spansN c u i, 0)) ?_ ?_ φ [] ⟨rfl, by omega⟩ hφ
  · intro n j s hj ⟨hs, hlt⟩ hk
    have hsl : s.length = j := by rw [hs, spansN_len]
    have w1 : W ((j : Int) + 1) = (j : Int) + 1 := W_id (by omega) (by omega)
    have w2 : W ((s.length : Int) - 1) = (s.length : Int) - 1 := W_id (by omega) (by omega)
    rw [handover_Spans_L19, if_pos (by simp; omega), ck_pos ⟨by omega, by omega⟩, w2]
    by_cases q : u ≤ (gt c (j : Int)).fSpan.fFrom
    · rw [if_pos (by simpa using q)]
      exact ⟨j, by omega, hlt, fun _ => q, by rw [hs]; rfl⟩
    · rw [if_neg (by simpa using q)]
      have hlt' : ∀ i : Nat, i < j + 1 → (gt c (i : Int)).fSpan.fFrom < u := fun i hi => by
        by_cases e : i = j
        · subst e; omega
        · exact hlt i (by omega)
      unfold handover_Spans_j25
      rw [w1]
      cases j with
      | zero =>
        rw [if_neg (by simp [hsl])]
        have hs0 : s = [] := hs
        subst hs0
        rw [ck_pos (fits_small (by simp) (by omega))]
        exact hk _ ⟨rfl, hlt'⟩
      | succ j =>
        rw [if_pos (by simp [hsl]), ck_pos ⟨by omega, by omega⟩, ck_pos (fits_small (by simp [setAt_len]; omega) (by omega))]
        refine hk _ ⟨?_, hlt'⟩
        have e : (s.length : Int) - 1 = (j : Int) := by omega
        rw [e, hs]
        exact spansN_next c u j
  · intro n s ⟨hs, hlt⟩
    rw [handover_Spans_L19, if_neg (by simp)]
    exact ⟨c.length, Nat.le_refl _, hlt, fun h => absurd h (Nat.lt_irrefl _), by rw [hs]; rfl⟩
end Px
end
section
namespace Px
open Go
set_option linter.unusedVariables false
set_option linter.unusedSimpArgs false
def insS {α : Type} (lt : α → α → Bool) (x : α) : List α → List α
  | [] => [x]
  | y :: l => bif lt x y then x :: y :: l else y :: insS lt x l
def sortS {α : Type} (lt : α → α → Bool) (l : List α) : List α := l.foldl (fun a x => insS lt x a) []
section
variable {α : Type} {lt : α → α → Bool}
theorem insS_split (hs : Swo lt) (x : α) : ∀ (l : List α), Srt lt l → ∃ A B, l = A ++ B ∧ insS lt x l = A ++ [x] ++ B ∧ (∀ y ∈ A, lt x y = false) ∧ ∀ y ∈ B, lt x y = true
  | [], _ => ⟨[], [], rfl, rfl, by simp, by simp⟩
  | y :: l, h => by
    have h' := List.pairwise_cons.1 h
    unfold insS
    cases e : lt x y with
    | true =>
      refine ⟨[], y :: l, rfl, rfl, by simp, fun z hz => ?_⟩
      rcases List.mem_cons.1 hz with rfl | hz
      · exact e
      · cases e2 : lt x z with
        | true => rfl
        | false =>
          have := hs.ntr _ _ _ e2 (h'.1 z hz)
          rw [e] at this; cases this
    | false =>
      obtain ⟨A, B, h1, h2, h3, h4⟩ := insS_split hs x l h'.2
      refine ⟨y :: A, B, by rw [h1]; rfl, by simp [h2], fun z hz => ?_, h4⟩
      rcases List.mem_cons.1 hz with rfl | hz
      · exact e
      · exact h3 z hz
theorem insS_srt (hs : Swo lt) (x : α) {l : List α} (h : Srt lt l) : Srt lt (insS lt x l) := by
  obtain ⟨A, B, h1, h2, h3, h4⟩ := insS_split hs x l h
  rw [h2]; rw [h1] at h
  obtain ⟨a, b, c⟩ := h.parts
  refine Srt.app (Srt.app a (List.pairwise_singleton _ _) fun z hz y hy => ?_) b fun z hz y hy => ?_
  · simp at hy; subst hy; exact h3 z hz
  · rcases List.mem_append.1 hz with hz | hz
    · exact c z hz y hy
    · simp at hz; subst hz; exact hs.asym _ _ (h4 y hy)
theorem insS_stb (hs : Swo lt) (x : α) {l : List α} (h : Srt lt l) : Stb lt (l ++ [x]) (insS lt x l) := by
  obtain ⟨A, B, h1, h2, h3, h4⟩ := insS_split hs x l h
  rw [h2, h1]; exact insert_stb hs h4
theorem sortS_snoc (l : List α) (x : α) : sortS lt (l ++ [x]) = insS lt x (sortS lt l) := by
  simp [sortS, List.foldl_append]
theorem snoc_ind {P : List α → Prop} (h0 : P []) (h1 : ∀ l x, P l → P (l ++ [x])) (l : List α) : P l := by
  have : ∀ r : List α, P r.reverse := by
    intro r
    induction r with
    | nil => exact h0
    | cons x r ih => rw [List.reverse_cons]; exact h1 _ _ ih
  have h := this l.reverse
  rwa [List.reverse_reverse] at h
theorem sortS_spec (hs : Swo lt) (l : List α) : Srt lt (sortS lt l) ∧ Stb lt l (sortS lt l) := by
  induction l using snoc_ind with
  | h0 => exact ⟨List.Pairwise.nil, Stb.refl _⟩
  | h1 l x ih =>
    rw [sortS_snoc]
    exact ⟨insS_srt hs x ih.1, (ih.2.app (Stb.refl [x])).trans (insS_stb hs x ih.1)⟩
theorem sortS_eq (hs : Swo lt) {l r : List α} (h1 : Srt lt r) (h2 : Stb lt l r) : r = sortS lt l :=
  Srt.unique hs h1 (sortS_spec hs l).1 ⟨(sortS_spec hs l).2.1.trans h2.1.symm, fun a => ((sortS_spec hs l).2.2 a).trans (h2.2 a).symm⟩
theorem sortS_len (hs : Swo lt) (l : List α) : (sortS lt l).length = l.length := (sortS_spec hs l).2.len
end
theorem insS_mem {α : Type} {lt : α → α → Bool} {x y : α} : ∀ {l : List α}, y ∈ insS lt x l → y = x ∨ y ∈ l
  | [], h => by simp [insS] at h; exact .inl h
  | z :: l, h => by
    unfold insS at h
    cases e : lt x z with
    | true => rw [e] at h; simpa using h
    | false =>
      rw [e] at h
      rcases List.mem_cons.1 h with h | h
      · exact .inr (by simp [h])
      · rcases insS_mem h with h | h
        · exact .inl h
        · exact .inr (by simp [h])
theorem sortS_sub {α : Type} {lt : α → α → Bool} {y : α} (l : List α) : y ∈ sortS lt l → y ∈ l := by
  induction l using snoc_ind with
  | h0 => exact id
  | h1 l x ih =>
    rw [sortS_snoc]
    intro h
    rcases insS_mem h with h | h
    · simp [h]
    · simp [ih h]
end Px
end
section
namespace Px
open Go
set_option linter.unusedVariables false
set_option linter.unusedSimpArgs false
theorem ofInt_toNat {c : Int} (h : 0 ≤ c) (h' : c < 18446744073709551616) : (BitVec.ofInt 64 c).toNat = c.toNat := by
  rw [BitVec.toNat_ofInt]; omega
theorem U_nat {n : Nat} (h : n < 18446744073709551616) : U (n : Int) = n := U_id (by omega) (by omega)
theorem and_lt {a b : Nat} (h : a < 18446744073709551616) : a &&& b < 18446744073709551616 := Nat.lt_of_le_of_lt Nat.and_le_left h
theorem pow_lt64 {k : Nat} (h : k ≤ 63) : (2 ^ k : Nat) < 18446744073709551616 := Nat.lt_of_lt_of_le (Nat.pow_lt_pow_right (by decide) (by omega : k < 64)) (by decide)
theorem shr_eq {c k : Int} (h : 0 ≤ c) (hk : 0 ≤ k) (hk' : k ≤ 63) : c.fdiv (2 ^ (min (k : Int).toNat (IntKind.bits .u64))) = ((c.toNat / 2 ^ k.toNat : Nat) : Int) := by
  have e : min (k : Int).toNat (IntKind.bits .u64) = k.toNat := by simp [IntKind.bits]; omega
  rw [e]
  have e2 : ((2 : Int) ^ k.toNat) = ((2 ^ k.toNat : Nat) : Int) := by simp
  rw [e2, Int.fdiv_eq_ediv_of_nonneg _ (Int.natCast_nonneg _)]
  have : c = (c.toNat : Int) := by omega
  rw [this]; simp
end Px
end
