/- A part of the proof of handoverPairs_holds. Conditions: none. -/
import Derived.Test.YteljjchaealkoaaPrc
section
set_option linter.unusedVariables false
set_option linter.unusedSimpArgs false
set_option maxHeartbeats 4000000
set_option maxRecDepth 100000
namespace Px
open Go Go.RowKit Go.Proofs
theorem z8n {P : Program} (H : P = Try.prog) (φ : Nat) (v1 : Pool) (r : (Int)) (h : z5g φ v1 = some r) : z0z P 37 [(agg (z2i v1))] (fun x news => x = (iv .i64 r) ∧ news = []) := by
 unfold z5g at h
 refine z0z.of_code' 193 (fn37 H) rfl rfl (Nat.le_of_ble_eq_true rfl) fun w0 base r0 wI => ?_
 refine cl [0] [] rfl rfl rfl (cs (cr [0, 1] rfl (n1 rfl (z7i (Ce.agg (mv rfl)) fun b2 => q1 rfl (z1 ct) (rn (al [1] [0] rfl rfl rfl (sq (cs (cs (cr [0, 1, 2, 3] rfl (q1 rfl (z3 (zar H) (mv rfl)) ?_)))))))))))
 refine q1 rfl (ln (tl25 H) ((Pt.box 0 (mv rfl) rfl rfl).take 2 (cs' := (zam v1.fNetwork)) rfl) rfl) (zp h fun y3 ey3 h => q1 rfl (oQ (zvg H) (zgz H φ v1.fNetwork _ ey3) z5 ⟨ef (mv rfl), trivial⟩) (q1 rfl (z1 (mv rfl)) (rn (al [1, 3] [0] rfl rfl rfl (sq (cs (cr [0, 1] rfl (q1 rfl (z0 (mv rfl)) (q1 rfl (z6g (mv rfl) ct) (rn ?_))))))))))
 refine al [1, 3, 24] [0] rfl rfl rfl (sq ?_)
 refine cI h rfl (fun c4 h => ?_) (fun c4 h => ?_)
 ·
  refine cs (cr [0, 1] rfl (q1 rfl (z0 (mv rfl)) (q1 rfl (z1 (mv rfl)) (rn (al [2] [] rfl rfl rfl (sq (z2.ret (AtX.then_ret (AtX.ret' (iv .i64 y3) (zq.one Try.results37 rfl) [] [] trivial rfl ?_)))))))))
  obtain rfl := Option.some.inj h
  exact ⟨rfl, rfl⟩
 ·
  refine z2.skip (al [1] [0] rfl rfl rfl (sq (cs (cs (cr [0, 1, 2, 3] rfl (q1 rfl (z3 (zde H) (mv rfl)) (q1 rfl (ln (tl31 H) ((Pt.box 0 (mv rfl) rfl rfl).take 4 (cs' := (z78 v1.fFleet)) rfl) rfl) (zp h fun y5 ey5 h => q1 rfl (oQ (zvm H) (zjb H φ v1.fFleet _ ey5) z5 ⟨ef (mv rfl), trivial⟩) (q1 rfl (z1 (mv rfl)) (rn ?_))))))))))
  refine al [1, 4] [0] rfl rfl rfl (sq (cs (cr [0, 1] rfl (q1 rfl (z0 (mv rfl)) (q1 rfl (z6g (mv rfl) ct) (rn (al [1, 4, 30] [0] rfl rfl rfl (sq ?_))))))))
  refine cI h rfl (fun c6 h => ?_) (fun c6 h => ?_)
  ·
   refine cs (cr [0, 1] rfl (q1 rfl (z0 (mv rfl)) (q1 rfl (z1 (mv rfl)) (rn (al [2] [] rfl rfl rfl (sq (z2.ret (AtX.then_ret (AtX.ret' (iv .i64 y5) (zq.one Try.results37 rfl) [] [] trivial rfl ?_)))))))))
   obtain rfl := Option.some.inj h
   exact ⟨rfl, rfl⟩
  ·
   refine z2.skip (al [1] [0] rfl rfl rfl (sq (cs (cs (cr [0, 1, 2, 3, 4, 5, 6, 7, 8, 9, 10, 11, 12, 13, 14, 15] rfl (q1 rfl (z3 (zjx H) (mv rfl)) (q1 rfl (lb (tl32 H) 0 (mv rfl) rfl rfl) (q1 rfl (z0x (il32 H) (mv rfl)) (q1 rfl (z49 (mv rfl) ct) (q1 rfl (z0 (mv rfl)) (g1 rfl rfl (fun g7 => z3 (zjp H) (mv rfl)) ?_)))))))))))
   refine g1 rfl rfl (fun g8 => lb (tl33 H) 0 (mc rfl g8) rfl rfl) (g1 rfl rfl (fun g9 => z0x (il33 H) (mc rfl g9)) (g1 rfl rfl (fun g10 => z49 (mc rfl g10) ct) (q1 rfl (opOr (mv rfl) ct (fun g11 => (mc rfl g11))) (q1 rfl (z0 (mv rfl)) (g1 rfl rfl (fun g12 => z3 (zcx H) (mv rfl)) (g1 rfl rfl (fun g13 => lb (tl34 H) 0 (mc rfl g13) rfl rfl) (g1 rfl rfl (fun g14 => z0x (il34 H) (mc rfl g14)) (g1 rfl rfl (fun g15 => z49 (mc rfl g15) ct) (q1 rfl (opOr (mv rfl) ct (fun g16 => (mc rfl g16))) (rn (al [1, 47] [0] rfl rfl rfl ?_)))))))))))
   refine sq ?_
   refine cI h rfl (fun c17 h => ?_) (fun c17 h => ?_)
   ·
    refine cs (cr [0] rfl (q1 rfl (z1 ct) (rn (al [2] [] rfl rfl rfl (sq (z2.ret (AtX.then_ret (AtX.ret' (iv .i64 2) (zq.one Try.results37 rfl) [] [] trivial rfl ?_))))))))
    obtain rfl := Option.some.inj h
    exact ⟨rfl, rfl⟩
   ·
    refine z2.skip (al [1] [0] rfl rfl rfl (sq (cs (z2.draw (QR := [(0, _), (1, _), (2, _), (3, _), (4, _), (5, _), (6, _), (7, _)]) (tab := [(some 48, []), (some 49, [0]), (some 50, [1]), (some 51, []), (some 52, [3]), (some 53, [4]), (some 5, [2, 0, 1, 2]), (some 6, [5, 6, 0, 1, 2, 3, 4, 5, 6])]) (z5h H) (Reg.intro [] [] (by kernel_rfl) rfl (an rfl) ⟨(qr rfl (z3 (zar H) (mv rfl))), (qr rfl (z3 (zat H) (mv rfl))), (qr rfl (lb (tl22 H) 0 (mv rfl) rfl rfl)), (qr rfl (z3 (zcx H) (mv rfl))), (qr rfl (lb (tl34 H) 0 (mv rfl) rfl rfl)), (qr rfl (z0x (il34 H) (mv rfl))), (qr rfl (z1 (mv rfl))), (qr rfl (z1 (mv rfl))), trivial⟩ trivial (fun _ => al [1, 5, 6] [0] rfl rfl rfl (sq (cs (cr [0, 1, 2] rfl (q1 rfl (z0 (mv rfl)) (q1 rfl (z61 (mv rfl) ct) (q1 rfl (z1 (mv rfl)) ?_))))))))))))
    refine rn (al [1, 5, 6, 7] [0] rfl rfl rfl (sq (cs (cs (cr [0, 1, 2, 3] rfl (q1 rfl (z3 (zjx H) (mv rfl)) (q1 rfl (lb (tl32 H) 0 (mv rfl) rfl rfl) (q1 rfl (z0x (il32 H) (mv rfl)) (q1 rfl (z0 ct) (rn (al [1, 5, 6, 7, 57, 58, 59] [0] rfl rfl rfl ?_)))))))))))
    refine sq ?_
    refine z2.join (fun z : Bool => (z3j φ v1) z) r (fun z => ⟨zd.of [(1, (eqv (.pointer (some ⟨b2, 0, none⟩)))), (5, (ro z4m 3 v1.fNetwork.fPlaces)), (6, (iv .i64 (v1.fRailways.length : Int))), (7, (bv z))], [(box b2 36 (z2i v1))]⟩) (fun v18 h => ?_) (fun hJ19 => ?_)
    ·
     replace h : (z3j φ v1) v18 = some r := h
     unfold z3j at h
     refine al [1, 5, 6, 7] [0] rfl rfl rfl (sq (cs (cs (cr [0, 1, 2, 3] rfl (q1 rfl (z3 (zjp H) (mv rfl)) (q1 rfl (lb (tl33 H) 0 (mv rfl) rfl rfl) (q1 rfl (z0x (il33 H) (mv rfl)) (q1 rfl (z0 ct) (rn (al [1, 5, 6, 7, 92, 93, 94] [0] rfl rfl rfl (sq ?_)))))))))))
     refine z2.join (fun z : Bool => (z3h φ v1) z) r (fun z => ⟨zd.of [(1, (eqv (.pointer (some ⟨b2, 0, none⟩)))), (5, (ro z4m 3 v1.fNetwork.fPlaces)), (6, (iv .i64 (v1.fRailways.length : Int))), (7, (bv z))], [(box b2 36 (z2i v1))]⟩) (fun v20 h => ?_) (fun hJ21 => ?_)
     ·
      replace h : (z3h φ v1) v20 = some r := h
      unfold z3h at h
      refine al [1, 5, 6, 7] [0] rfl rfl rfl (sq (cs (cs (cr [0, 1, 2, 3, 4] rfl (q1 rfl (z3 (zde H) (mv rfl)) (q1 rfl (z3 (zcz H) (mv rfl)) (q1 rfl (lb (tl27 H) 0 (mv rfl) rfl rfl) (q1 rfl (z0x (il27 H) (mv rfl)) (q1 rfl (z0 ct) (rn (al [1, 5, 6, 7, 120, 121, 122] [0] rfl rfl rfl ?_)))))))))))
      refine sq ?_
      refine z2.join (fun z : Bool => (z3l φ v1) z) r (fun z => ⟨zd.of [(1, (eqv (.pointer (some ⟨b2, 0, none⟩)))), (5, (ro z4m 3 v1.fNetwork.fPlaces)), (6, (iv .i64 (v1.fRailways.length : Int))), (7, (bv z))], [(box b2 36 (z2i v1))]⟩) (fun v22 h => ?_) (fun hJ23 => ?_)
      ·
       replace h : (z3l φ v1) v22 = some r := h
       unfold z3l at h
       refine al [1, 5, 6, 7] [0] rfl rfl rfl (sq (cs (cs (cr [0, 1, 2] rfl (q1 rfl (z0 (mv rfl)) (q1 rfl (z0x (il22 H) (mv rfl)) (q1 rfl (z0 ct) (rn (al [1, 6, 7, 135, 136, 137] [0] rfl rfl rfl (sq ?_))))))))))
       refine z2.join (fun z : Bool => (z3i φ v1) z) r (fun z => ⟨zd.of [(1, (eqv (.pointer (some ⟨b2, 0, none⟩)))), (6, (iv .i64 (v1.fRailways.length : Int))), (7, (bv z))], [(box b2 36 (z2i v1))]⟩) (fun v24 h => ?_) (fun hJ25 => ?_)
       ·
        replace h : (z3i φ v1) v24 = some r := h
        unfold z3i at h
        refine al [1, 6, 7] [0] rfl rfl rfl (sq (cs (cs (cr [0, 1, 2, 3, 4] rfl (q1 rfl (z3 (zar H) (mv rfl)) (q1 rfl (z3 (zfi H) (mv rfl)) (q1 rfl (lb (tl23 H) 0 (mv rfl) rfl rfl) (q1 rfl (z0x (il23 H) (mv rfl)) (q1 rfl (z0 ct) (rn (al [1, 6, 7, 157, 158, 159] [0] rfl rfl rfl ?_)))))))))))
        refine sq ?_
        refine z2.join (fun z : Bool => (z3f φ v1) z) r (fun z => ⟨zd.of [(1, (eqv (.pointer (some ⟨b2, 0, none⟩)))), (7, (bv z))], [(box b2 36 (z2i v1))]⟩) (fun v26 h => ?_) (fun hJ27 => ?_)
        ·
         replace h : (z3f φ v1) v26 = some r := h
         unfold z3f at h
         refine al [1, 7] [0] rfl rfl rfl (sq (cs (cs (cr [0, 1, 2, 3] rfl (q1 rfl (z3 (zcx H) (mv rfl)) (q1 rfl (lb (tl34 H) 0 (mv rfl) rfl rfl) (q1 rfl (z0x (il34 H) (mv rfl)) (q1 rfl (z0 ct) (rn (al [7, 172, 173, 174] [] rfl rfl rfl (sq ?_)))))))))))
         refine z2.join (fun z : Bool => (z35 φ) z) r (fun z => ⟨zd.of [(7, (bv z))], []⟩) (fun v28 h => ?_) (fun hJ29 => ?_)
         ·
          replace h : (z35 φ) v28 = some r := h
          unfold z35 at h
          refine al [7] [] rfl rfl rfl (sq (cs (cs (cr [0] rfl (q1 rfl (z0 (mv rfl)) (rn (al [192] [] rfl rfl rfl (sq ?_))))))))
          refine cI h rfl (fun c30 h => ?_) (fun c30 h => ?_)
          ·
           refine cs (cr [0] rfl (q1 rfl (z1 ct) (rn (al [2] [] rfl rfl rfl (sq (z2.ret (AtX.then_ret (AtX.ret' (iv .i64 1) (zq.one Try.results37 rfl) [] [] trivial rfl ?_))))))))
           obtain rfl := Option.some.inj h
           exact ⟨rfl, rfl⟩
          ·
           refine z2.skip (al [] [] rfl rfl rfl (sq (cs (cr [0] rfl (q1 rfl (z1 ct) (rn (al [2] [] rfl rfl rfl (sq (z2.ret (AtX.ret' (iv .i64 0) (zq.one Try.results37 rfl) [] [] trivial rfl ?_))))))))))
           obtain rfl := Option.some.inj h
           exact ⟨rfl, rfl⟩
         ·
          refine z2.block ?_
          refine z2.to (z2.loop (fun n (z : Bool × Int) => z3u φ v1 (z35 φ) n z.1 z.2) r (fun z => ⟨zd.of [(7, (bv z.1)), (172, (ro z1f 16 v1.fRailways)), (173, (iv .i64 (v1.fRailways.length : Int))), (174, (iv .i64 z.2))], []⟩) (fun z => rfl) (fun n33 z ih33 h => ?_) φ (v26, 0) h) [] (sl rfl) trivial rfl
          obtain ⟨v31, v32⟩ := z
          replace h : z3u φ v1 (z35 φ) (n33 + 1) v31 v32 = some r := h
          rw [z3u] at h
          refine cs (cr [0] rfl (q1 rfl (z10 (mv rfl) (mv rfl)) (rn (al [7, 172, 173, 174, 175] [] rfl rfl rfl (sq (cs ?_))))))
          refine cI h rfl (fun c34 h => ?_) (fun c34 h => ?_)
          ·
           refine z2.skip (al [7, 172, 173, 174] [] rfl rfl rfl (sq (cs (z2.block (cs (cr [0, 1, 2, 3] rfl (ckE h fun h35 h => q1 rfl (zn (ix34 H) (mv rfl) (mv rfl) (h35).1 (z8 h35)) (q1 rfl (zdo (zwz H) (by simp [zct znz, z1f]) (Pt.rop (mv rfl))) (n1 rfl (z38 _ (zu0 H) rfl fun b36 => n1 rfl (sto 0 (zwz H) (mv rfl) (Ce.agg (mv rfl)) rfl rfl rfl rfl ?_)))))))))))
           refine rn (al [7, 19, 172, 173, 174] [0] rfl rfl rfl (sq (cr [0, 1, 2, 3, 4, 5, 6, 7, 8, 9, 10, 11, 12, 13] rfl (q1 rfl (z0 (mv rfl)) (q1 rfl (z0 (mv rfl)) (g1 rfl rfl (fun g37 => z3 (zm6 H) (mv rfl)) (g1 rfl rfl (fun g38 => zdo (zuv H) (by simp [zct znz, z72]) ((Pt.box 0 (mc rfl g38) rfl rfl).take 15 (cs' := (z72 (gt v1.fRailways v32).fCalendar)) rfl)) (zp h fun y40 ey40 h => g1 rfl rfl (fun g39 => oQ (zw3 H) (zfl H φ ((gt v1.fRailways v32).fCalendar) _ (zy ey40 g39)) z5 ⟨ef (mc rfl g39), trivial⟩) (g1 rfl rfl (fun g41 => z6g (mc rfl g41) ct) (q1 rfl (opOr (mv rfl) ct (fun g42 => (mc rfl g42))) ?_))))))))))
           refine q1 rfl (z0 (mv rfl)) (g1 rfl rfl (fun g43 => z3 (zp6 H) (mv rfl)) (g1 rfl rfl (fun g44 => lb (tl41 H) 0 (mc rfl g44) rfl rfl) (zp h fun y46 ey46 h => g1 rfl rfl (fun g45 => oQ (zvd H) (zkh H φ ((gt v1.fRailways v32).fKey) _ (zy ey46 g45)) z5 ⟨ef (mc rfl g45), trivial⟩) (g1 rfl rfl (fun g47 => z79 (mc rfl g47)) (q1 rfl (opOr (mv rfl) ct (fun g48 => (mc rfl g48))) (q1 rfl (z1 (mv rfl)) (rn (AtX.in_normal (al [7, 172, 173, 174] [] rfl rfl rfl (sq ?_))))))))))
           refine cr [0, 1] rfl (q1 rfl (z0g (mv rfl) ct) (q1 rfl (z0 (mv rfl)) (rn ?_)))
           exact AtX.to (ih33 (((v31 || (y40 != 0)) || (!y46)), (W (v32 + 1))) h) [] (sl rfl) trivial rfl
          ·
           refine z2.exit (AtX.then_exit (AtX.then_exit (AtX.in_hit ?_)))
           exact AtX.to (hJ29 v31 h) [] (sl rfl) trivial rfl
        ·
         refine z2.block ?_
         refine z2.to (z2.loop (fun n (z : Bool × Int) => z3v φ v1 (z3f φ v1) n z.1 z.2) r (fun z => ⟨zd.of [(1, (eqv (.pointer (some ⟨b2, 0, none⟩)))), (6, (iv .i64 (v1.fRailways.length : Int))), (7, (bv z.1)), (157, (ro zbr 5 v1.fNetwork.fEdges)), (158, (iv .i64 (v1.fNetwork.fEdges.length : Int))), (159, (iv .i64 z.2))], [(box b2 36 (z2i v1))]⟩) (fun z => rfl) (fun n51 z ih51 h => ?_) φ (v24, 0) h) [0] (sl rfl) (ol rfl) rfl
         obtain ⟨v49, v50⟩ := z
         replace h : z3v φ v1 (z3f φ v1) (n51 + 1) v49 v50 = some r := h
         rw [z3v] at h
         refine cs (cr [0] rfl (q1 rfl (z10 (mv rfl) (mv rfl)) (rn (al [1, 6, 7, 157, 158, 159, 160] [0] rfl rfl rfl (sq (cs ?_))))))
         refine cI h rfl (fun c52 h => ?_) (fun c52 h => ?_)
         ·
          refine z2.skip (al [1, 6, 7, 157, 158, 159] [0] rfl rfl rfl (sq (cs (z2.block (cs (cr [0, 1, 2, 3] rfl (ckE h fun h53 h => q1 rfl (zn (ix23 H) (mv rfl) (mv rfl) (h53).1 (z8 h53)) (q1 rfl (ln (zp1 H) (Pt.rop (mv rfl)) rfl) (n1 rfl (z38 _ (zwf H) rfl fun b54 => n1 rfl (sto 1 (zp1 H) (mv rfl) (Ce.agg (mv rfl)) rfl rfl rfl rfl ?_)))))))))))
          refine rn (al [1, 6, 7, 17, 157, 158, 159] [0, 1] rfl rfl rfl (sq (cr [0, 1, 2, 3, 4, 5, 6, 7] rfl (q1 rfl (z0 (mv rfl)) (q1 rfl (z0 (mv rfl)) (g1 rfl rfl (fun g55 => z3 (zhf H) (mv rfl)) (g1 rfl rfl (fun g56 => lb (tl3 H) 1 (mc rfl g56) rfl rfl) (g1 rfl rfl (fun g57 => z0 (mv rfl)) (g1 rfl rfl (fun g58 => z9l (mc rfl g58) (mc rfl g58)) (q1 rfl (opOr (mv rfl) ct (fun g59 => (mc rfl g59))) (q1 rfl (z1 (mv rfl)) ?_)))))))))))
          refine rn (AtX.in_normal (al [1, 6, 7, 157, 158, 159] [0] rfl rfl rfl (sq (cr [0, 1] rfl (q1 rfl (z0g (mv rfl) ct) (q1 rfl (z0 (mv rfl)) (rn ?_)))))))
          exact AtX.to (ih51 ((v49 || decide ((v1.fRailways.length : Int) ≤ (gt v1.fNetwork.fEdges v50).fRailway)), (W (v50 + 1))) h) [0] (sl rfl) (ol rfl) rfl
         ·
          refine z2.exit (AtX.then_exit (AtX.then_exit (AtX.in_hit ?_)))
          exact AtX.to (hJ27 v49 h) [0] (sl rfl) (ol rfl) rfl
       ·
        refine z2.block ?_
        refine z2.to (z2.loop (fun n (z : Bool × Int) => z3t φ v1 (z3i φ v1) n z.1 z.2) r (fun z => ⟨zd.of [(1, (eqv (.pointer (some ⟨b2, 0, none⟩)))), (6, (iv .i64 (v1.fRailways.length : Int))), (7, (bv z.1)), (135, (ro z4m 3 v1.fNetwork.fPlaces)), (136, (iv .i64 (v1.fNetwork.fPlaces.length : Int))), (137, (iv .i64 z.2))], [(box b2 36 (z2i v1))]⟩) (fun z => rfl) (fun n62 z ih62 h => ?_) φ (v22, 0) h) [0] (sl rfl) (ol rfl) rfl
        obtain ⟨v60, v61⟩ := z
        replace h : z3t φ v1 (z3i φ v1) (n62 + 1) v60 v61 = some r := h
        rw [z3t] at h
        refine cs (cr [0] rfl (q1 rfl (z10 (mv rfl) (mv rfl)) (rn (al [1, 6, 7, 135, 136, 137, 138] [0] rfl rfl rfl (sq (cs ?_))))))
        refine cI h rfl (fun c63 h => ?_) (fun c63 h => ?_)
        ·
         refine z2.skip (al [1, 6, 7, 135, 136, 137] [0] rfl rfl rfl (sq (cs (z2.block (cs (cr [0, 1, 2, 3] rfl (ckE h fun h64 h => q1 rfl (zn (ix22 H) (mv rfl) (mv rfl) (h64).1 (z8 h64)) (q1 rfl (ln (tl68 H) (Pt.rop (mv rfl)) rfl) (n1 rfl (z38 _ (ze68 H) rfl fun b65 => n1 rfl (sto 1 (tl68 H) (mv rfl) (Ce.agg (mv rfl)) rfl rfl rfl rfl ?_)))))))))))
         refine rn (al [1, 6, 7, 15, 135, 136, 137] [0, 1] rfl rfl rfl (sq (cr [0, 1, 2, 3, 4, 5, 6, 7, 8, 9, 10, 11, 12, 13] rfl (q1 rfl (z0 (mv rfl)) (q1 rfl (z0 (mv rfl)) (g1 rfl rfl (fun g66 => z3 (zd6 H) (mv rfl)) (g1 rfl rfl (fun g67 => lb (tl3 H) 1 (mc rfl g67) rfl rfl) (g1 rfl rfl (fun g68 => z0 (mv rfl)) (g1 rfl rfl (fun g69 => z9l (mc rfl g69) (mc rfl g69)) (q1 rfl (opOr (mv rfl) ct (fun g70 => (mc rfl g70))) (q1 rfl (z0 (mv rfl)) ?_)))))))))))
         refine g1 rfl rfl (fun g71 => z3 (zd0 H) (mv rfl)) (g1 rfl rfl (fun g72 => lb (tl3 H) 1 (mc rfl g72) rfl rfl) (g1 rfl rfl (fun g73 => z0 (mv rfl)) (g1 rfl rfl (fun g74 => z9l (mc rfl g74) (mc rfl g74)) (q1 rfl (opOr (mv rfl) ct (fun g75 => (mc rfl g75))) (q1 rfl (z1 (mv rfl)) (rn (AtX.in_normal (al [1, 6, 7, 135, 136, 137] [0] rfl rfl rfl (sq (cr [0, 1] rfl (q1 rfl (z0g (mv rfl) ct) ?_)))))))))))
         refine q1 rfl (z0 (mv rfl)) (rn ?_)
         exact AtX.to (ih62 (((v60 || decide ((v1.fRailways.length : Int) ≤ (gt v1.fNetwork.fPlaces v61).fRailway)) || decide ((v1.fRailways.length : Int) ≤ (gt v1.fNetwork.fPlaces v61).fOther)), (W (v61 + 1))) h) [0] (sl rfl) (ol rfl) rfl
        ·
         refine z2.exit (AtX.then_exit (AtX.then_exit (AtX.in_hit ?_)))
         exact AtX.to (hJ25 v60 h) [0] (sl rfl) (ol rfl) rfl
      ·
       refine z2.block ?_
       refine z2.to (z2.loop (fun n (z : Bool × Int) => z41 φ v1 (z3l φ v1) n z.1 z.2) r (fun z => ⟨zd.of [(1, (eqv (.pointer (some ⟨b2, 0, none⟩)))), (5, (ro z4m 3 v1.fNetwork.fPlaces)), (6, (iv .i64 (v1.fRailways.length : Int))), (7, (bv z.1)), (120, (ro z6s 5 v1.fFleet.fWagons)), (121, (iv .i64 (v1.fFleet.fWagons.length : Int))), (122, (iv .i64 z.2))], [(box b2 36 (z2i v1))]⟩) (fun z => rfl) (fun n78 z ih78 h => ?_) φ (v20, 0) h) [0] (sl rfl) (ol rfl) rfl
       obtain ⟨v76, v77⟩ := z
       replace h : z41 φ v1 (z3l φ v1) (n78 + 1) v76 v77 = some r := h
       rw [z41] at h
       refine cs (cr [0] rfl (q1 rfl (z10 (mv rfl) (mv rfl)) (rn (al [1, 5, 6, 7, 120, 121, 122, 123] [0] rfl rfl rfl (sq (cs ?_))))))
       refine cI h rfl (fun c79 h => ?_) (fun c79 h => ?_)
       ·
        refine z2.skip (al [1, 5, 6, 7, 120, 121, 122] [0] rfl rfl rfl (sq (cs (z2.block (cs (cr [0, 1, 2, 3] rfl (ckE h fun h80 h => q1 rfl (zn (ix27 H) (mv rfl) (mv rfl) (h80).1 (z8 h80)) (q1 rfl (ln (tl66 H) (Pt.rop (mv rfl)) rfl) (n1 rfl (z38 _ (ze66 H) rfl fun b81 => n1 rfl (sto 1 (tl66 H) (mv rfl) (Ce.agg (mv rfl)) rfl rfl rfl rfl ?_)))))))))))
        refine rn (al [1, 5, 6, 7, 13, 120, 121, 122] [0, 1] rfl rfl rfl (sq (cr [0, 1, 2, 3, 4, 5, 6, 7, 8] rfl (q1 rfl (z0 (mv rfl)) (q1 rfl (z0 (mv rfl)) (g1 rfl rfl (fun g82 => z3 (zlc H) (mv rfl)) (g1 rfl rfl (fun g83 => lb (tl3 H) 1 (mc rfl g83) rfl rfl) (g1 rfl rfl (fun g84 => z0 (mv rfl)) (g1 rfl rfl (fun g85 => z0x (il22 H) (mc rfl g85)) (g1 rfl rfl (fun g86 => z9l (mc rfl g86) (mc rfl g86)) (q1 rfl (opOr (mv rfl) ct (fun g87 => (mc rfl g87))) ?_)))))))))))
        refine q1 rfl (z1 (mv rfl)) (rn (AtX.in_normal (al [1, 5, 6, 7, 120, 121, 122] [0] rfl rfl rfl (sq (cr [0, 1] rfl (q1 rfl (z0g (mv rfl) ct) (q1 rfl (z0 (mv rfl)) (rn ?_))))))))
        exact AtX.to (ih78 ((v76 || decide ((v1.fNetwork.fPlaces.length : Int) ≤ (gt v1.fFleet.fWagons v77).fHome)), (W (v77 + 1))) h) [0] (sl rfl) (ol rfl) rfl
       ·
        refine z2.exit (AtX.then_exit (AtX.then_exit (AtX.in_hit ?_)))
        exact AtX.to (hJ23 v76 h) [0] (sl rfl) (ol rfl) rfl
     ·
      refine z2.block ?_
      refine z2.to (z2.loop (fun n (z : Bool × Int) => z3x φ v1 (z3h φ v1) n z.1 z.2) r (fun z => ⟨zd.of [(1, (eqv (.pointer (some ⟨b2, 0, none⟩)))), (5, (ro z4m 3 v1.fNetwork.fPlaces)), (6, (iv .i64 (v1.fRailways.length : Int))), (7, (bv z.1)), (92, (ro z3k 1 v1.fShippers)), (93, (iv .i64 (v1.fShippers.length : Int))), (94, (iv .i64 z.2))], [(box b2 36 (z2i v1))]⟩) (fun z => rfl) (fun n90 z ih90 h => ?_) φ (v18, 0) h) [0] (sl rfl) (ol rfl) rfl
      obtain ⟨v88, v89⟩ := z
      replace h : z3x φ v1 (z3h φ v1) (n90 + 1) v88 v89 = some r := h
      rw [z3x] at h
      refine cs (cr [0] rfl (q1 rfl (z10 (mv rfl) (mv rfl)) (rn (al [1, 5, 6, 7, 92, 93, 94, 95] [0] rfl rfl rfl (sq (cs ?_))))))
      refine cI h rfl (fun c91 h => ?_) (fun c91 h => ?_)
      ·
       refine z2.skip (al [1, 5, 6, 7, 92, 93, 94] [0] rfl rfl rfl (sq (cs (z2.block (cs (cr [0, 1, 2, 3] rfl (ckE h fun h92 h => q1 rfl (zn (ix33 H) (mv rfl) (mv rfl) (h92).1 (z8 h92)) (q1 rfl (ln (zvx H) (Pt.rop (mv rfl)) rfl) (n1 rfl (z38 _ (zy2 H) rfl fun b93 => n1 rfl (sto 1 (zvx H) (mv rfl) (Ce.agg (mv rfl)) rfl rfl rfl rfl ?_)))))))))))
       refine rn (al [1, 5, 6, 7, 11, 92, 93, 94] [0, 1] rfl rfl rfl (sq (cr [0, 1, 2, 3, 4, 5, 6, 7, 8, 9, 10, 11, 12, 13, 14, 15, 16, 17, 18, 19] rfl (q1 rfl (z0 (mv rfl)) (q1 rfl (z0 (mv rfl)) (g1 rfl rfl (fun g94 => z3 (zki H) (mv rfl)) (g1 rfl rfl (fun g95 => lb (tl3 H) 1 (mc rfl g95) rfl rfl) (g1 rfl rfl (fun g96 => z0 (mv rfl)) (g1 rfl rfl (fun g97 => z0x (il22 H) (mc rfl g97)) (g1 rfl rfl (fun g98 => z2f (mc rfl g98) ct) (zp h fun y100 ey100 h => ?_)))))))))))
       refine g1 rfl rfl (fun g99 => oQ (zax H) (z1s H φ ((gt v1.fShippers v89).fPlace) 0 (W ((v1.fNetwork.fPlaces.length : Int) - 1)) _ (zy ey100 g99)) z5 ⟨ef (mc rfl g99), ef ct, ef (mc rfl g99), trivial⟩) (g1 rfl rfl (fun g101 => z79 (mc rfl g101)) (q1 rfl (opOr (mv rfl) ct (fun g102 => (mc rfl g102))) (q1 rfl (z0 (mv rfl)) (g1 rfl rfl (fun g103 => z0 (mv rfl)) (g1 rfl rfl (fun g104 => z3 (zki H) (mv rfl)) (g1 rfl rfl (fun g105 => lb (tl3 H) 1 (mc rfl g105) rfl rfl) (ckE h fun h107 h => g1 rfl rfl (fun g106 => zn (ix22 H) (mc rfl g106) (mc rfl g106) ((h107 g106)).1 (z8 (h107 g106))) (g1 rfl rfl (fun g108 => z2a (zf7 H) (mc rfl g108) (cs' := [(iv .i64 ((gt v1.fNetwork.fPlaces ((gt v1.fShippers v89).fPlace)).fKind))]) 1 rfl) (g1 rfl rfl (fun g109 => lr (tl3 H) (mc rfl g109)) (g1 rfl rfl (fun g110 => z6g (mc rfl g110) ct) ?_))))))))))
       refine q1 rfl (opOr (mv rfl) ct (fun g111 => (mc rfl g111))) (q1 rfl (z1 (mv rfl)) (rn (AtX.in_normal (al [1, 5, 6, 7, 92, 93, 94] [0] rfl rfl rfl (sq (cr [0, 1] rfl (q1 rfl (z0g (mv rfl) ct) (q1 rfl (z0 (mv rfl)) (rn ?_)))))))))
       exact AtX.to (ih90 (((v88 || (!y100)) || ((gt v1.fNetwork.fPlaces ((gt v1.fShippers v89).fPlace)).fKind != 4)), (W (v89 + 1))) h) [0] (sl rfl) (ol rfl) rfl
      ·
       refine z2.exit (AtX.then_exit (AtX.then_exit (AtX.in_hit ?_)))
       exact AtX.to (hJ21 v88 h) [0] (sl rfl) (ol rfl) rfl
    ·
     refine z2.block ?_
     refine z2.to (z2.loop (fun n (z : Bool × Int) => z3m φ v1 (z3j φ v1) n z.1 z.2) r (fun z => ⟨zd.of [(1, (eqv (.pointer (some ⟨b2, 0, none⟩)))), (5, (ro z4m 3 v1.fNetwork.fPlaces)), (6, (iv .i64 (v1.fRailways.length : Int))), (7, (bv z.1)), (57, (ro z8b 3 v1.fReaders)), (58, (iv .i64 (v1.fReaders.length : Int))), (59, (iv .i64 z.2))], [(box b2 36 (z2i v1))]⟩) (fun z => rfl) (fun n114 z ih114 h => ?_) φ (((v1.fRailways.length : Int) == 0), 0) h) [0] (sl rfl) (ol rfl) rfl
     obtain ⟨v112, v113⟩ := z
     replace h : z3m φ v1 (z3j φ v1) (n114 + 1) v112 v113 = some r := h
     rw [z3m] at h
     refine cs (cr [0] rfl (q1 rfl (z10 (mv rfl) (mv rfl)) (rn (al [1, 5, 6, 7, 57, 58, 59, 60] [0] rfl rfl rfl (sq (cs ?_))))))
     refine cI h rfl (fun c115 h => ?_) (fun c115 h => ?_)
     ·
      refine z2.skip (al [1, 5, 6, 7, 57, 58, 59] [0] rfl rfl rfl (sq (cs (z2.block (cs (cr [0, 1, 2, 3] rfl (ckE h fun h116 h => q1 rfl (zn (ix32 H) (mv rfl) (mv rfl) (h116).1 (z8 h116)) (q1 rfl (ln (zrd H) (Pt.rop (mv rfl)) rfl) (n1 rfl (z38 _ (zx5 H) rfl fun b117 => n1 rfl (sto 1 (zrd H) (mv rfl) (Ce.agg (mv rfl)) rfl rfl rfl rfl ?_)))))))))))
      refine rn (al [1, 5, 6, 7, 9, 57, 58, 59] [0, 1] rfl rfl rfl (sq (cr [0, 1, 2, 3, 4, 5, 6, 7, 8, 9, 10, 11, 12, 13, 14, 15, 16, 17, 18, 19, 20, 21, 22, 23, 24, 25, 26, 27] rfl (q1 rfl (z0 (mv rfl)) (q1 rfl (z0 (mv rfl)) (g1 rfl rfl (fun g118 => z3 (zqd H) (mv rfl)) (g1 rfl rfl (fun g119 => lb (tl3 H) 1 (mc rfl g119) rfl rfl) (g1 rfl rfl (fun g120 => z0 (mv rfl)) (g1 rfl rfl (fun g121 => z0x (il22 H) (mc rfl g121)) (g1 rfl rfl (fun g122 => z2f (mc rfl g122) ct) (zp h fun y124 ey124 h => ?_)))))))))))
      refine g1 rfl rfl (fun g123 => oQ (zax H) (z1s H φ ((gt v1.fReaders v113).fPlace) 0 (W ((v1.fNetwork.fPlaces.length : Int) - 1)) _ (zy ey124 g123)) z5 ⟨ef (mc rfl g123), ef ct, ef (mc rfl g123), trivial⟩) (g1 rfl rfl (fun g125 => z79 (mc rfl g125)) (q1 rfl (opOr (mv rfl) ct (fun g126 => (mc rfl g126))) (q1 rfl (z0 (mv rfl)) (g1 rfl rfl (fun g127 => z3 (zke H) (mv rfl)) (g1 rfl rfl (fun g128 => lb (tl3 H) 1 (mc rfl g128) rfl rfl) (g1 rfl rfl (fun g129 => z10 (mc rfl g129) ct) (q1 rfl (opOr (mv rfl) ct (fun g130 => (mc rfl g130))) (q1 rfl (z0 (mv rfl)) (g1 rfl rfl (fun g131 => z3 (zke H) (mv rfl)) (g1 rfl rfl (fun g132 => lb (tl3 H) 1 (mc rfl g132) rfl rfl) (g1 rfl rfl (fun g133 => z3 (zk4 H) (mv rfl)) ?_)))))))))))
      refine g1 rfl rfl (fun g134 => lb (tl3 H) 1 (mc rfl g134) rfl rfl) (g1 rfl rfl (fun g135 => z49 (mc rfl g135) (mc rfl g135)) (q1 rfl (opOr (mv rfl) ct (fun g136 => (mc rfl g136))) (q1 rfl (z0 (mv rfl)) (g1 rfl rfl (fun g137 => z3 (zk4 H) (mv rfl)) (g1 rfl rfl (fun g138 => lb (tl3 H) 1 (mc rfl g138) rfl rfl) (g1 rfl rfl (fun g139 => z49 (mc rfl g139) ct) (q1 rfl (opOr (mv rfl) ct (fun g140 => (mc rfl g140))) (q1 rfl (z1 (mv rfl)) (rn (AtX.in_normal (al [1, 5, 6, 7, 57, 58, 59] [0] rfl rfl rfl ?_)))))))))))
      refine sq (cr [0, 1] rfl (q1 rfl (z0g (mv rfl) ct) (q1 rfl (z0 (mv rfl)) (rn ?_))))
      exact AtX.to (ih114 (((((v112 || (!y124)) || decide ((gt v1.fReaders v113).fLow < (-1000))) || decide ((gt v1.fReaders v113).fHigh < (gt v1.fReaders v113).fLow)) || decide (1000 < (gt v1.fReaders v113).fHigh)), (W (v113 + 1))) h) [0] (sl rfl) (ol rfl) rfl
     ·
      refine z2.exit (AtX.then_exit (AtX.then_exit (AtX.in_hit ?_)))
      exact AtX.to (hJ19 v112 h) [0] (sl rfl) (ol rfl) rfl
theorem zgy {P : Program} (H : P = Try.prog) (φ : Nat) (v1 : Item) (r : (Bool)) (h : z9v φ v1 = some r) : z0z P 47 [(agg (zcm v1))] (fun x news => x = (bv r) ∧ news = []) := by
 unfold z9v at h
 refine z0z.of_code' 32 (fn47 H) rfl rfl (Nat.le_of_ble_eq_true rfl) fun w0 base r0 wI => ?_
 refine cl [0] [] rfl rfl rfl (cs (cr [0, 1] rfl (n1 rfl (z7i (Ce.agg (mv rfl)) fun b2 => q1 rfl (z1 ct) (rn (al [1] [0] rfl rfl rfl (sq (cs (cs (cr [0, 1, 2, 3] rfl (q1 rfl (z3 (zlt H) (mv rfl)) ?_)))))))))))
 refine q1 rfl (ln (tl43 H) ((Pt.box 0 (mv rfl) rfl rfl).take 2 (cs' := (eRef v1.fRef)) rfl) rfl) (q1 rfl (z46 [.int .i64 0, .int .i64 0] [] (out := [(iv .i64 0), (iv .i64 0)]) (ze43 H) rfl (tb43 H) trivial rfl) (q1 rfl (zt0 [(.int .i64 v1.fRef.fRailway), (.int .i64 v1.fRef.fNo)] [(.int .i64 0), (.int .i64 0)] (mv rfl) (mv rfl) rfl rfl (eg43 H) (fun w => znp H w v1.fRef (Ref.mk 0 0))) (rn (al [1, 6] [0] rfl rfl rfl (sq ?_)))))
 refine cI h rfl (fun c3 h => ?_) (fun c3 h => ?_)
 ·
  refine cs (cr [0, 1, 2, 3] rfl (q1 rfl (z3 (zgi H) (mv rfl)) (q1 rfl (lb (tl3 H) 0 (mv rfl) rfl rfl) (q1 rfl (z6g (mv rfl) ct) (q1 rfl (z1 (mv rfl)) (rn (al [2] [] rfl rfl rfl (sq (z2.ret (AtX.then_ret (AtX.ret' (bv (v1.fKind != 14)) (zq.one Try.results47 rfl) [] [] trivial rfl ?_)))))))))))
  obtain rfl := Option.some.inj h
  exact ⟨rfl, rfl⟩
 ·
  refine z2.skip (al [1] [0] rfl rfl rfl (sq (cs (cr [0, 1, 2, 3, 4, 5, 6, 7, 8, 9, 10, 11, 12, 13, 14, 15, 16, 17, 18, 19, 20, 21, 22] rfl (q1 rfl (z3 (zlt H) (mv rfl)) (q1 rfl (z3 (zaq H) (mv rfl)) (q1 rfl (lb (tl3 H) 0 (mv rfl) rfl rfl) (q1 rfl (z9l (mv rfl) ct) (q1 rfl (z0 (mv rfl)) (g1 rfl rfl (fun g4 => z3 (zlt H) (mv rfl)) (g1 rfl rfl (fun g5 => z3 (zaq H) (mc rfl g5)) ?_)))))))))))
  refine g1 rfl rfl (fun g6 => lb (tl3 H) 0 (mc rfl g6) rfl rfl) (g1 rfl rfl (fun g7 => z10 (mc rfl g7) ct) (q1 rfl (z36 (mv rfl) (fun g8 => (mc rfl g8)) ct) (q1 rfl (z0 (mv rfl)) (g1 rfl rfl (fun g9 => z3 (zlt H) (mv rfl)) (g1 rfl rfl (fun g10 => z3 (zjw H) (mc rfl g10)) (g1 rfl rfl (fun g11 => lb (tl3 H) 0 (mc rfl g11) rfl rfl) (g1 rfl rfl (fun g12 => z9l (mc rfl g12) ct) (q1 rfl (z36 (mv rfl) (fun g13 => (mc rfl g13)) ct) (q1 rfl (z0 (mv rfl)) (g1 rfl rfl (fun g14 => z3 (zlt H) (mv rfl)) (g1 rfl rfl (fun g15 => z3 (zjw H) (mc rfl g15)) ?_)))))))))))
  refine g1 rfl rfl (fun g16 => lb (tl3 H) 0 (mc rfl g16) rfl rfl) (g1 rfl rfl (fun g17 => zc4 (mc rfl g17) ct) (q1 rfl (z36 (mv rfl) (fun g18 => (mc rfl g18)) ct) (q1 rfl (z1 (mv rfl)) (rn (al [2] [] rfl rfl rfl (sq (z2.ret (AtX.ret' (bv (((decide (0 ≤ v1.fRef.fRailway) && decide (v1.fRef.fRailway < 16)) && decide (1 ≤ v1.fRef.fNo)) && decide (v1.fRef.fNo ≤ 4096))) (zq.one Try.results47 rfl) [] [] trivial rfl ?_))))))))
  obtain rfl := Option.some.inj h
  exact ⟨rfl, rfl⟩
theorem zkb {P : Program} (H : P = Try.prog) (φ : Nat) (v1 : Pool) (v2 : Item) (r : (Bool)) (h : zb6 φ v1 v2 = some r) : z0z P 48 [(agg (z2i v1)), (agg (zcm v2))] (fun x news => x = (bv r) ∧ news = []) := by
 unfold zb6 at h
 refine z0z.of_code' 46 (fn48 H) rfl rfl (Nat.le_of_ble_eq_true rfl) fun w0 base r0 wI => ?_
 refine cl [0, 1] [] rfl rfl rfl (cs (cr [0, 1, 2] rfl (n1 rfl (z7i (Ce.agg (mv rfl)) fun b3 => n1 rfl (z7i (Ce.agg (mv rfl)) fun b4 => q1 rfl (z1 ct) (rn (al [2, 3] [0, 1] rfl rfl rfl (sq (cs (cr [0, 1, 2, 3, 4] rfl (q1 rfl (ln (tl36 H) ((Pt.box 0 (mv rfl) rfl rfl).take 9 (cs' := (z2i v1)) rfl) rfl) ?_)))))))))))
 refine q1 rfl (ln (tl46 H) ((Pt.box 1 (mv rfl) rfl rfl).take 16 (cs' := (zcm v2)) rfl) rfl) (q1 rfl (z46 [.slice none 0 0, .slice none 0 0, .slice none 0 0, .slice none 0 0, .slice none 0 0, .slice none 0 0, .slice none 0 0, .slice none 0 0, .slice none 0 0, .int .i64 0, .int .i64 0, .int .i64 0, .int .i64 0, .int .i64 0, .int .i64 0, .int .i64 0, .int .i64 0, .int .i64 0, .int .i64 0, .int .i64 0, .int .i64 0, .int .i64 0, .int .i64 0, .string ⟨#[]⟩, .slice none 0 0, .bool false] [(0, (z2i v1)), (9, (zcm v2)), (25, [(bv true)])] (out := [(ro z4m 3 v1.fNetwork.fPlaces), (ro zbr 5 v1.fNetwork.fEdges), (ro z1a 8 v1.fFleet.fTypes), (ro z6s 5 v1.fFleet.fWagons), (ro zbs 3 v1.fFleet.fSwaps), (ro z9o 3 v1.fFleet.fWashes), (ro z8b 3 v1.fReaders), (ro z3k 1 v1.fShippers), (ro z1f 16 v1.fRailways), (iv .i64 v2.fKind), (iv .i64 v2.fRef.fRailway), (iv .i64 v2.fRef.fNo), (iv .i64 v2.fWagon), (iv .i64 v2.fPlace), (iv .i64 v2.fOther), (iv .i64 v2.fNumber), (iv .i64 v2.fFrom), (iv .i64 v2.fTo), (iv .i64 v2.fCode), (iv .i64 v2.fDest), (iv .i64 v2.fClass), (iv .i64 v2.fWeight), (iv .i64 v2.fAmount), (eqv (.string v2.fText)), (ro zbg 3 v2.fParts), (bv true)]) (zwg H) rfl (zxv H) ⟨(zu8 H), Nat.le_of_ble_eq_true rfl, (Ce.agg (mv rfl)), ⟨(zu3 H), Nat.le_of_ble_eq_true rfl, (Ce.agg (mv rfl)), ⟨(ztu H), Nat.le_of_ble_eq_true rfl, (Ce.one ct (One.eqv rfl)), trivial⟩⟩⟩ rfl) (n1 rfl (z38 _ (zwg H) rfl fun b5 => n1 rfl (sto 2 (zy7 H) (mv rfl) (Ce.agg (mv rfl)) rfl rfl rfl rfl (rn (al [3, 5] [1, 2] rfl rfl rfl (sq (cs (cs (cr [0, 1, 2] rfl (q1 rfl (z3 (zgi H) (mv rfl)) (q1 rfl (lb (tl3 H) 0 (mv rfl) rfl rfl) ?_))))))))))))
 refine q1 rfl (zc4 (mv rfl) ct) (rn (al [5, 13] [1] rfl rfl rfl (sq ?_)))
 refine cI h rfl (fun c6 h => ?_) (fun c6 h => ?_)
 ·
  refine cr [0] rfl (n1 rfl (z8k (zvn H) (Ev.func _) (args := [(eqv (.pointer (some ⟨b5, 0, none⟩)))]) ⟨(mv rfl), trivial⟩ (zau.of_code' 135 (fn71 H) rfl rfl (Nat.le_of_ble_eq_true rfl) fun r06 wI6 => cl [0] [0] rfl rfl rfl (cs (cr [0, 1, 2, 3] rfl (q1 rfl (z0 (mv rfl)) (q1 rfl (z01 (mv rfl)) (q1 rfl (z3 (zc2 H) (mv rfl)) (q1 rfl (z1 (mv rfl)) (rn (al [0, 2] [0] rfl rfl rfl (sq ?_))))))))))))
  refine cs (cs (cr [0, 1, 2, 3, 4] rfl (q1 rfl (z0 (mv rfl)) (q1 rfl (z01 (mv rfl)) (q1 rfl (z3 (zgi H) (mv rfl)) (q1 rfl (lb (tl3 H) 0 (mv rfl) rfl rfl) (q1 rfl (z10 (mv rfl) ct) (rn (al [0, 2, 11] [0] rfl rfl rfl (sq ?_))))))))))
  refine cI h rfl (fun c7 h => ?_) (fun c7 h => ?_)
  ·
   cases h
  ·
   refine z2.skip (al [0, 2] [0] rfl rfl rfl (sq (cs (cr [0, 1] rfl (q1 rfl (z0 (mv rfl)) (n1 rfl (z8k (zwp H) (Ev.func _) (args := [(eqv (.pointer (some ⟨b5, 0, none⟩)))]) ⟨(mv rfl), trivial⟩ (zau.of_code' 16 (fn84 H) rfl rfl (Nat.le_of_ble_eq_true rfl) fun r07 wI7 => cl [0] [0] rfl rfl rfl (z2.draw (QR := [(0, _), (1, _), (2, _), (3, _), (4, _), (5, _), (6, _), (7, _), (8, _), (9, _), (10, _), (11, _), (12, _)]) (tab := [(some 2, []), (some 3, []), (some 4, [1]), (some 5, [2]), (some 6, [3]), (some 7, []), (some 8, [5]), (some 9, [6]), (some 10, [7]), (some 11, [8]), (some 12, [9]), (some 13, [10]), (some 14, [11]), (some 15, [0, 4, 12])]) (z5h H) (Reg.intro [13] [] (by kernel_rfl) rfl (an rfl) ⟨(qr rfl (z0 (mv rfl))), (qr rfl (z0 (mv rfl))), (qr rfl (z01 (mv rfl))), (qr rfl (z3 (zc2 H) (mv rfl))), (qr rfl (z3 (zgg H) (mv rfl))), (qr rfl (z0 (mv rfl))), (qr rfl (z01 (mv rfl))), (qr rfl (z3 (zmb H) (mv rfl))), (qr rfl (z3 (zde H) (mv rfl))), (qr rfl (z3 (zcz H) (mv rfl))), (qr rfl (lb (tl27 H) 0 (mv rfl) rfl rfl)), (qr rfl (z0x (il27 H) (mv rfl))), (qr rfl (z2f (mv rfl) ct)), trivial⟩ ⟨⟨_, rfl, rfl, rfl, rfl, z8k (zok H) (Ev.func _) (args := [(eqv (.pointer (some ⟨b5, 0, none⟩))), (eqv (.pointer (some ⟨b5, 12, none⟩))), (iv .i64 0), (iv .i64 (W ((v1.fFleet.fWagons.length : Int) - 1)))]) ⟨(mv rfl), (mv rfl), ct, (mv rfl), trivial⟩ (zau.of_code' 31 (fn85 H) rfl rfl (Nat.le_of_ble_eq_true rfl) fun r08 wI8 => ?_)⟩, trivial⟩ ft))))))))))
   refine cl [0, 1, 2, 3] [0] rfl rfl rfl (cs (cr [0, 1, 2, 3, 4, 5, 6, 7, 8, 9, 10, 11, 12, 13, 14, 15, 16, 17, 18, 19, 20, 21] rfl (q1 rfl (z0 (mv rfl)) (q1 rfl (z0 (mv rfl)) (q1 rfl (z01 (mv rfl)) (q1 rfl (z3 (zad H) (mv rfl)) (q1 rfl (lb (tl4 H) 0 (mv rfl) rfl rfl) (q1 rfl (z0 (mv rfl)) (g1 rfl rfl (fun g9 => z0 (mv rfl)) (g1 rfl rfl (fun g10 => z0 (mv rfl)) (g1 rfl rfl (fun g11 => z01 (mc rfl g11)) ?_)))))))))))
   refine g1 rfl rfl (fun g12 => lb (tl3 H) 0 (mc rfl g12) rfl rfl) (g1 rfl rfl (fun g13 => zc4 (mc rfl g13) (mc rfl g13)) (q1 rfl (z36 (mv rfl) (fun g14 => (mc rfl g14)) ct) (q1 rfl (z0 (mv rfl)) (g1 rfl rfl (fun g15 => z0 (mv rfl)) (g1 rfl rfl (fun g16 => z01 (mc rfl g16)) (g1 rfl rfl (fun g17 => lb (tl3 H) 0 (mc rfl g17) rfl rfl) (g1 rfl rfl (fun g18 => z0 (mv rfl)) (g1 rfl rfl (fun g19 => zc4 (mc rfl g19) (mc rfl g19)) (q1 rfl (z36 (mv rfl) (fun g20 => (mc rfl g20)) ct) (q1 rfl (z01 (mv rfl)) (q1 rfl (z3 (zad H) (mv rfl)) ?_)))))))))))
   refine n1 rfl (sto 0 (tl4 H) (mv rfl) (Ce.one (mv rfl) (One.eqv rfl)) rfl rfl rfl rfl (rn (al [1] [0] rfl rfl rfl (sq (cr [0, 1, 2] rfl (q1 rfl (z0 (mv rfl)) (q1 rfl (z01 (mv rfl)) (n1 rfl (sto 0 (tl3 H) (mv rfl) (Ce.one ct (One.eqv rfl)) rfl rfl rfl rfl (rn (AtX.fall' (eqv (.tuple #[])) (zq.zero Try.results85) [0] [(box b5 137 [(ro z4m 3 v1.fNetwork.fPlaces), (ro zbr 5 v1.fNetwork.fEdges), (ro z1a 8 v1.fFleet.fTypes), (ro z6s 5 v1.fFleet.fWagons), (ro zbs 3 v1.fFleet.fSwaps), (ro z9o 3 v1.fFleet.fWashes), (ro z8b 3 v1.fReaders), (ro z3k 1 v1.fShippers), (ro z1f 16 v1.fRailways), (iv .i64 v2.fKind), (iv .i64 v2.fRef.fRailway), (iv .i64 v2.fRef.fNo), (iv .i64 0), (iv .i64 v2.fPlace), (iv .i64 v2.fOther), (iv .i64 v2.fNumber), (iv .i64 v2.fFrom), (iv .i64 v2.fTo), (iv .i64 v2.fCode), (iv .i64 v2.fDest), (iv .i64 v2.fClass), (iv .i64 v2.fWeight), (iv .i64 v2.fAmount), (eqv (.string v2.fText)), (ro zbg 3 v2.fParts), (bv ((true && decide (0 ≤ v2.fWagon)) && decide (v2.fWagon ≤ (W ((v1.fFleet.fWagons.length : Int) - 1)))))])] (ol rfl) rfl ?_)))))))))))
   refine ⟨[], rfl, ?_⟩
   refine Reg.intro [] [0, 1, 2, 3, 4, 5, 6, 7, 8, 9, 10, 11, 12] (by kernel_rfl) rfl (an rfl) ⟨nf, nf, nf, nf, nf, nf, nf, nf, nf, nf, nf, nf, nf, trivial⟩ trivial (fun _ => AtX.fall' (eqv (.tuple #[])) (zq.zero Try.results84) [0] [(box b5 137 [(ro z4m 3 v1.fNetwork.fPlaces), (ro zbr 5 v1.fNetwork.fEdges), (ro z1a 8 v1.fFleet.fTypes), (ro z6s 5 v1.fFleet.fWagons), (ro zbs 3 v1.fFleet.fSwaps), (ro z9o 3 v1.fFleet.fWashes), (ro z8b 3 v1.fReaders), (ro z3k 1 v1.fShippers), (ro z1f 16 v1.fRailways), (iv .i64 v2.fKind), (iv .i64 v2.fRef.fRailway), (iv .i64 v2.fRef.fNo), (iv .i64 0), (iv .i64 v2.fPlace), (iv .i64 v2.fOther), (iv .i64 v2.fNumber), (iv .i64 v2.fFrom), (iv .i64 v2.fTo), (iv .i64 v2.fCode), (iv .i64 v2.fDest), (iv .i64 v2.fClass), (iv .i64 v2.fWeight), (iv .i64 v2.fAmount), (eqv (.string v2.fText)), (ro zbg 3 v2.fParts), (bv ((true && decide (0 ≤ v2.fWagon)) && decide (v2.fWagon ≤ (W ((v1.fFleet.fWagons.length : Int) - 1)))))])] (ol rfl) rfl (rn (al [0, 2] [0] rfl rfl rfl (sq (cs (cr [0, 1, 2, 3] rfl (q1 rfl (z0 (mv rfl)) (q1 rfl (z01 (mv rfl)) (q1 rfl (z3 (zgi H) (mv rfl)) (q1 rfl (lb (tl3 H) 0 (mv rfl) rfl rfl) (rn ?_)))))))))))
   refine al [0, 2, 20] [0] rfl rfl rfl (sq (z2.block (cs (cr [0, 1] rfl (q1 rfl (z61 (mv rfl) ct) (q1 rfl (z1 (mv rfl)) (rn (al [0, 2, 20, 21] [0] rfl rfl rfl (sq ?_)))))))))
   refine cI h rfl (fun c21 h => ?_) (fun c21 h => ?_)
   ·
    cases h
   ·
    refine cs (cr [0, 1] rfl (q1 rfl (z61 (mv rfl) ct) (q1 rfl (z1 (mv rfl)) (rn (al [0, 2, 20, 37] [0] rfl rfl rfl (sq ?_))))))
    refine cI h rfl (fun c22 h => ?_) (fun c22 h => ?_)
    ·
     cases h
    ·
     refine cs (cs (cr [0, 1] rfl (q1 rfl (z61 (mv rfl) ct) (q1 rfl (z1 (mv rfl)) (rn (al [0, 2, 20, 43] [0] rfl rfl rfl (sq ?_)))))))
     refine z2.join (fun z : Bool => (z7p φ v1 v2) z) r (fun z => ⟨zd.of [(0, (eqv (.pointer (some ⟨b5, 0, none⟩)))), (2, (eqv (.pointer (some ⟨b5, 9, none⟩)))), (20, (iv .i64 v2.fKind)), (43, (bv z))], [(box b5 137 [(ro z4m 3 v1.fNetwork.fPlaces), (ro zbr 5 v1.fNetwork.fEdges), (ro z1a 8 v1.fFleet.fTypes), (ro z6s 5 v1.fFleet.fWagons), (ro zbs 3 v1.fFleet.fSwaps), (ro z9o 3 v1.fFleet.fWashes), (ro z8b 3 v1.fReaders), (ro z3k 1 v1.fShippers), (ro z1f 16 v1.fRailways), (iv .i64 v2.fKind), (iv .i64 v2.fRef.fRailway), (iv .i64 v2.fRef.fNo), (iv .i64 0), (iv .i64 v2.fPlace), (iv .i64 v2.fOther), (iv .i64 v2.fNumber), (iv .i64 v2.fFrom), (iv .i64 v2.fTo), (iv .i64 v2.fCode), (iv .i64 v2.fDest), (iv .i64 v2.fClass), (iv .i64 v2.fWeight), (iv .i64 v2.fAmount), (eqv (.string v2.fText)), (ro zbg 3 v2.fParts), (bv ((true && decide (0 ≤ v2.fWagon)) && decide (v2.fWagon ≤ (W ((v1.fFleet.fWagons.length : Int) - 1)))))])]⟩) (fun v23 h => ?_) (fun hJ24 => ?_)
     ·
      replace h : (z7p φ v1 v2) v23 = some r := h
      unfold z7p at h
      refine al [0, 2, 20, 43] [0] rfl rfl rfl (sq ?_)
      refine cI h rfl (fun c25 h => ?_) (fun c25 h => ?_)
      ·
       refine cs (cr [0, 1, 2, 3] rfl (q1 rfl (z0 (mv rfl)) (n1 rfl (z8k (zxg H) (Ev.func _) (args := [(eqv (.pointer (some ⟨b5, 0, none⟩))), (iv .i64 3)]) ⟨(mv rfl), ct, trivial⟩ (zau.of_code' 66 (fn87 H) rfl rfl (Nat.le_of_ble_eq_true rfl) fun r025 wI25 => cl [0, 1] [0] rfl rfl rfl (cs (cr [0] rfl (n1 rfl (z38 _ (ze68 H) rfl fun b26 => rn (al [0, 1, 4] [0, 1] rfl rfl rfl (sq (cs ?_))))))))))))
       refine cs (z2.draw (QR := [(0, _), (1, _), (2, _), (3, _), (4, _), (5, _), (6, _), (7, _), (8, _), (9, _), (10, _), (11, _), (12, _), (13, _), (14, _), (15, _), (16, _), (17, _), (18, _), (19, _), (20, _)]) (tab := [(some 5, []), (some 6, [0]), (some 7, [1]), (some 8, [2]), (some 9, [3]), (some 10, [4]), (some 11, [5]), (some 12, [6]), (some 13, [7, 6]), (some 14, [8, 6]), (some 15, [9, 6]), (some 16, [10, 6]), (some 17, [6]), (some 18, [12, 6]), (some 19, [13, 6]), (some 20, [14, 6]), (some 21, [15, 6]), (some 22, [16, 6]), (some 23, [17, 6]), (some 24, [11, 18, 6]), (some 25, [6, 19])]) (z5h H) (Reg.intro [] [] (by kernel_rfl) rfl (an rfl) ⟨(qr rfl (z0 (Ev.tmp (A := (eqv (.pointer (some ⟨b5, 0, none⟩)))) (by kernel_rfl)))), (qr rfl (z01 (Ev.tmp (A := (eqv (.pointer (some ⟨b5, 0, none⟩)))) (by kernel_rfl)))), (qr rfl (z3 (zc2 H) (Ev.tmp (A := (eqv (.pointer (some ⟨b5, 0, none⟩)))) (by kernel_rfl)))), (qr rfl (z3 (zc8 H) (Ev.tmp (A := (eqv (.pointer (some ⟨b5, 9, none⟩)))) (by kernel_rfl)))), (qr rfl (lb (tl3 H) 0 (Ev.tmp (A := (eqv (.pointer (some ⟨b5, 13, none⟩)))) (by kernel_rfl)) rfl rfl)), (qr rfl (z9l (Ev.tmp (A := (iv .i64 v2.fPlace)) (by kernel_rfl)) ct)), (qr rfl (z0 (Ev.tmp (A := (bv (decide (0 ≤ v2.fPlace)))) (by kernel_rfl)))), (qr rfl ⟨(decide (0 ≤ v2.fPlace) = true), (eqv (.pointer (some ⟨b5, 0, none⟩))), 11, rfl, rfl, fun g27 => (z0 (Ev.tmp (A := (eqv (.pointer (some ⟨b5, 0, none⟩)))) (by kernel_rfl))), .inl ⟨(decide (0 ≤ v2.fPlace)), rfl, rfl⟩⟩), (qr rfl ⟨(decide (0 ≤ v2.fPlace) = true), (eqv (.pointer (some ⟨b5, 0, none⟩))), 11, rfl, rfl, fun g28 => (z01 (mc rfl g28)), .inl ⟨(decide (0 ≤ v2.fPlace)), rfl, rfl⟩⟩), (qr rfl ⟨(decide (0 ≤ v2.fPlace) = true), (eqv (.pointer (some ⟨b5, 9, none⟩))), 11, rfl, rfl, fun g29 => (z3 (zc2 H) (mc rfl g29)), .inl ⟨(decide (0 ≤ v2.fPlace)), rfl, rfl⟩⟩), (qr rfl ⟨(decide (0 ≤ v2.fPlace) = true), (eqv (.pointer (some ⟨b5, 13, none⟩))), 11, rfl, rfl, fun g30 => (z3 (zc8 H) (mc rfl g30)), .inl ⟨(decide (0 ≤ v2.fPlace)), rfl, rfl⟩⟩), (qr rfl ⟨(decide (0 ≤ v2.fPlace) = true), (iv .i64 v2.fPlace), 11, rfl, rfl, fun g31 => (lb (tl3 H) 0 (mc rfl g31) rfl rfl), .inl ⟨(decide (0 ≤ v2.fPlace)), rfl, rfl⟩⟩), (qr rfl ⟨(decide (0 ≤ v2.fPlace) = true), (eqv (.pointer (some ⟨b5, 0, none⟩))), 11, rfl, rfl, fun g32 => (z0 (Ev.tmp (A := (eqv (.pointer (some ⟨b5, 0, none⟩)))) (by kernel_rfl))), .inl ⟨(decide (0 ≤ v2.fPlace)), rfl, rfl⟩⟩), (qr rfl ⟨(decide (0 ≤ v2.fPlace) = true), (eqv (.pointer (some ⟨b5, 0, none⟩))), 11, rfl, rfl, fun g33 => (z01 (mc rfl g33)), .inl ⟨(decide (0 ≤ v2.fPlace)), rfl, rfl⟩⟩), (qr rfl ⟨(decide (0 ≤ v2.fPlace) = true), (eqv (.pointer (some ⟨b5, 0, none⟩))), 11, rfl, rfl, fun g34 => (z3 (zmb H) (mc rfl g34)), .inl ⟨(decide (0 ≤ v2.fPlace)), rfl, rfl⟩⟩), (qr rfl ⟨(decide (0 ≤ v2.fPlace) = true), (eqv (.pointer (some ⟨b5, 0, none⟩))), 11, rfl, rfl, fun g35 => (z3 (zar H) (mc rfl g35)), .inl ⟨(decide (0 ≤ v2.fPlace)), rfl, rfl⟩⟩), (qr rfl ⟨(decide (0 ≤ v2.fPlace) = true), (eqv (.pointer (some ⟨b5, 0, none⟩))), 11, rfl, rfl, fun g36 => (z3 (zat H) (mc rfl g36)), .inl ⟨(decide (0 ≤ v2.fPlace)), rfl, rfl⟩⟩), (qr rfl ⟨(decide (0 ≤ v2.fPlace) = true), (ro z4m 3 v1.fNetwork.fPlaces), 11, rfl, rfl, fun g37 => (lb (tl22 H) 0 (mc rfl g37) rfl rfl), .inl ⟨(decide (0 ≤ v2.fPlace)), rfl, rfl⟩⟩), (qr rfl ⟨(decide (0 ≤ v2.fPlace) = true), (iv .i64 (v1.fNetwork.fPlaces.length : Int)), 11, rfl, rfl, fun g38 => (z0x (il22 H) (mc rfl g38)), .inl ⟨(decide (0 ≤ v2.fPlace)), rfl, rfl⟩⟩), (qr rfl ⟨(decide (0 ≤ v2.fPlace) = true), (bv (decide (v2.fPlace < (v1.fNetwork.fPlaces.length : Int)))), 11, rfl, rfl, fun g39 => (z10 (mc rfl g39) (mc rfl g39)), .inl ⟨(decide (0 ≤ v2.fPlace)), rfl, rfl⟩⟩), (qr rfl (z36 (Ev.tmp (A := (bv (decide (0 ≤ v2.fPlace)))) (by kernel_rfl)) (fun g40 => (mc rfl g40)) ct)), trivial⟩ trivial (fun _ => ?_)))
       refine al [0, 1, 4, 25] [0, 1] rfl rfl rfl (sq ?_)
       refine z2.join (fun z : Int × Int × Int => (z8i φ v1 v2) z.1 z.2.1 z.2.2) r (fun z => ⟨zd.of [(0, (eqv (.pointer (some ⟨b5, 0, none⟩)))), (1, (iv .i64 3)), (4, (eqv (.pointer (some ⟨b26, 0, none⟩))))], [(box b5 137 [(ro z4m 3 v1.fNetwork.fPlaces), (ro zbr 5 v1.fNetwork.fEdges), (ro z1a 8 v1.fFleet.fTypes), (ro z6s 5 v1.fFleet.fWagons), (ro zbs 3 v1.fFleet.fSwaps), (ro z9o 3 v1.fFleet.fWashes), (ro z8b 3 v1.fReaders), (ro z3k 1 v1.fShippers), (ro z1f 16 v1.fRailways), (iv .i64 v2.fKind), (iv .i64 v2.fRef.fRailway), (iv .i64 v2.fRef.fNo), (iv .i64 0), (iv .i64 v2.fPlace), (iv .i64 v2.fOther), (iv .i64 v2.fNumber), (iv .i64 v2.fFrom), (iv .i64 v2.fTo), (iv .i64 v2.fCode), (iv .i64 v2.fDest), (iv .i64 v2.fClass), (iv .i64 v2.fWeight), (iv .i64 v2.fAmount), (eqv (.string v2.fText)), (ro zbg 3 v2.fParts), (bv ((true && decide (0 ≤ v2.fWagon)) && decide (v2.fWagon ≤ (W ((v1.fFleet.fWagons.length : Int) - 1)))))]), (box b26 68 [(iv .i64 z.1), (iv .i64 z.2.1), (iv .i64 z.2.2)])]⟩) (fun z h => ?_) (fun hJ44 => ?_)
       ·
        obtain ⟨v41, v42, v43⟩ := z
        replace h : (z8i φ v1 v2) v41 v42 v43 = some r := h
        unfold z8i at h
        refine al [0, 1, 4] [0, 1] rfl rfl rfl (sq (cs (cr [0, 1, 2, 3, 4, 5, 6, 7, 8, 9, 10, 11, 12, 13, 14, 15, 16, 17, 18, 19, 20, 21, 22] rfl (q1 rfl (z0 (mv rfl)) (q1 rfl (z0 (mv rfl)) (q1 rfl (z01 (mv rfl)) (q1 rfl (z3 (zad H) (mv rfl)) (q1 rfl (lb (tl4 H) 0 (mv rfl) rfl rfl) (q1 rfl (z0 (mv rfl)) (g1 rfl rfl (fun g45 => z3 (zf7 H) (mv rfl)) (g1 rfl rfl (fun g46 => lb (tl3 H) 1 (mc rfl g46) rfl rfl) ?_)))))))))))
        refine g1 rfl rfl (fun g47 => z6g (mc rfl g47) ct) (q1 rfl (z36 (mv rfl) (fun g48 => (mc rfl g48)) ct) (q1 rfl (z0 (mv rfl)) (g1 rfl rfl (fun g49 => z0 (mv rfl)) (g1 rfl rfl (fun g50 => z61 (mc rfl g50) ct) (g1 rfl rfl (fun g51 => z0 (mc rfl g51)) (gc rfl rfl (fun g52 => (z3 (zf7 H) (mv rfl))) (gc rfl rfl (fun g53 => (lb (tl3 H) 1 (mc rfl ⟨g53.1, g53.2⟩) rfl rfl)) (gc rfl rfl (fun g54 => (z0 (mv rfl))) (gc rfl rfl (fun g55 => (z61 (mc rfl ⟨g55.1, g55.2⟩) (mc rfl ⟨g55.1, g55.2⟩))) (g1 rfl rfl (fun g56 => opOr (mc rfl g56) ct (fun g57 => (mc rfl ⟨g56, g57⟩))) (q1 rfl (z36 (mv rfl) (fun g58 => (mc rfl g58)) ct) ?_)))))))))))
        refine q1 rfl (z01 (mv rfl)) (q1 rfl (z3 (zad H) (mv rfl)) (n1 rfl (sto 0 (tl4 H) (mv rfl) (Ce.one (mv rfl) (One.eqv rfl)) rfl rfl rfl rfl (rn (al [0, 4] [0, 1] rfl rfl rfl (sq (cs (cr [0, 1, 2, 3, 4] rfl (q1 rfl (z0 (mv rfl)) (q1 rfl (z01 (mv rfl)) (q1 rfl (z3 (zc2 H) (mv rfl)) (q1 rfl (z3 (zc8 H) (mv rfl)) ?_))))))))))))
        refine n1 rfl (sto 0 (tl3 H) (mv rfl) (Ce.one ct (One.eqv rfl)) rfl rfl rfl rfl (rn (al [4] [0, 1] rfl rfl rfl (sq (cs (cr [0, 1] rfl (q1 rfl (ln (tl68 H) ((Pt.box 1 (mv rfl) rfl rfl).take 3 (cs' := [(iv .i64 v41), (iv .i64 v42), (iv .i64 v43)]) rfl) rfl) (n1 rfl (sto 1 (tl68 H) (mv rfl) (Ce.agg (mv rfl)) rfl rfl rfl rfl (rn (al [4] [0, 1] rfl rfl rfl (sq (z2.ret ?_)))))))))))))
        refine AtX.ret' (agg [(iv .i64 v41), (iv .i64 v42), (iv .i64 v43)]) (zq.one Try.results87 (.inr ⟨_, rfl, (tl68 H), ((Pt.box 1 (mv rfl) rfl rfl).take 3 (cs' := [(iv .i64 v41), (iv .i64 v42), (iv .i64 v43)]) rfl)⟩)) [0] [(box b5 137 [(ro z4m 3 v1.fNetwork.fPlaces), (ro zbr 5 v1.fNetwork.fEdges), (ro z1a 8 v1.fFleet.fTypes), (ro z6s 5 v1.fFleet.fWagons), (ro zbs 3 v1.fFleet.fSwaps), (ro z9o 3 v1.fFleet.fWashes), (ro z8b 3 v1.fReaders), (ro z3k 1 v1.fShippers), (ro z1f 16 v1.fRailways), (iv .i64 v2.fKind), (iv .i64 v2.fRef.fRailway), (iv .i64 v2.fRef.fNo), (iv .i64 0), (iv .i64 0), (iv .i64 v2.fOther), (iv .i64 v2.fNumber), (iv .i64 v2.fFrom), (iv .i64 v2.fTo), (iv .i64 v2.fCode), (iv .i64 v2.fDest), (iv .i64 v2.fClass), (iv .i64 v2.fWeight), (iv .i64 v2.fAmount), (eqv (.string v2.fText)), (ro zbg 3 v2.fParts), (bv ((((true && decide (0 ≤ v2.fWagon)) && decide (v2.fWagon ≤ (W ((v1.fFleet.fWagons.length : Int) - 1)))) && (v41 != 0)) && ((3 == 0) || (v41 == 3))))])] (ol rfl) rfl (n1 rfl (z38 _ (ze68 H) rfl fun b59 => n1 rfl (sto 1 (tl68 H) (mv rfl) (Ce.agg (mv rfl)) rfl rfl rfl rfl (rn (al [0, 2, 3] [0, 1] rfl rfl rfl (sq (cs (z2.draw (QR := [(0, _), (1, _), (2, _), (3, _), (4, _), (5, _), (6, _), (7, _), (8, _), (9, _), (10, _), (11, _), (12, _), (13, _), (14, _), (15, _), (16, _), (17, _), (18, _), (19, _), (20, _), (21, _), (22, _), (23, _), (24, _)]) (tab := [(some 48, []), (some 49, []), (some 50, [1]), (some 51, [2]), (some 52, [3]), (some 53, [4]), (some 54, [5]), (some 55, [6, 5]), (some 56, [7, 5]), (some 57, [8, 5]), (some 58, [5]), (some 59, [10, 5]), (some 60, [9, 11, 5]), (some 61, [12, 5, 5]), (some 62, [13]), (some 63, [14, 13]), (some 64, [15, 13]), (some 65, [16, 13]), (some 66, [13]), (some 67, [18, 13]), (some 68, [17, 19, 13]), (some 69, [13, 20, 5]), (some 70, [5, 21]), (some 71, [0, 0, 1, 2, 3, 4, 5, 6, 7, 8, 9, 10, 11, 12, 13, 14, 15, 16, 17, 18, 19, 20, 21, 22]), (some 72, [23, 0, 1, 2, 3, 4, 5, 6, 7, 8, 9, 10, 11, 12, 13, 14, 15, 16, 17, 18, 19, 20, 21, 22]), (none, [24, 22, 13, 0, 1, 2, 3, 4, 5, 6, 7, 8, 9, 10, 11, 12, 13, 14, 15, 16, 17, 18, 19, 20, 21, 22])]) (z5h H) (Reg.intro [25] [] (by kernel_rfl) rfl (an rfl) ⟨(qr rfl (z0 (Ev.tmp (A := (eqv (.pointer (some ⟨b5, 0, none⟩)))) (by kernel_rfl)))), (qr rfl (z0 (Ev.tmp (A := (eqv (.pointer (some ⟨b5, 0, none⟩)))) (by kernel_rfl)))), (qr rfl (z01 (Ev.tmp (A := (eqv (.pointer (some ⟨b5, 0, none⟩)))) (by kernel_rfl)))), (qr rfl (z3 (zad H) (Ev.tmp (A := (eqv (.pointer (some ⟨b5, 0, none⟩)))) (by kernel_rfl)))), (qr rfl (lb (tl4 H) 0 (Ev.tmp (A := (eqv (.pointer (some ⟨b5, 25, none⟩)))) (by kernel_rfl)) rfl rfl)), (qr rfl (z0 (Ev.tmp (A := (bv ((((true && decide (0 ≤ v2.fWagon)) && decide (v2.fWagon ≤ (W ((v1.fFleet.fWagons.length : Int) - 1)))) && (v41 != 0)) && ((3 == 0) || (v41 == 3))))) (by kernel_rfl)))), (qr rfl ⟨(((((true && decide (0 ≤ v2.fWagon)) && decide (v2.fWagon ≤ (W ((v1.fFleet.fWagons.length : Int) - 1)))) && (v41 != 0)) && ((3 == 0) || (v41 == 3))) = true), (eqv (.pointer (some ⟨b5, 9, none⟩))), 53, rfl, rfl, fun g60 => (z0 (Ev.tmp (A := (eqv (.pointer (some ⟨b5, 9, none⟩)))) (by kernel_rfl))), .inl ⟨((((true && decide (0 ≤ v2.fWagon)) && decide (v2.fWagon ≤ (W ((v1.fFleet.fWagons.length : Int) - 1)))) && (v41 != 0)) && ((3 == 0) || (v41 == 3))), rfl, rfl⟩⟩), (qr rfl ⟨(((((true && decide (0 ≤ v2.fWagon)) && decide (v2.fWagon ≤ (W ((v1.fFleet.fWagons.length : Int) - 1)))) && (v41 != 0)) && ((3 == 0) || (v41 == 3))) = true), (eqv (.pointer (some ⟨b5, 9, none⟩))), 53, rfl, rfl, fun g61 => (z01 (mc rfl g61)), .inl ⟨((((true && decide (0 ≤ v2.fWagon)) && decide (v2.fWagon ≤ (W ((v1.fFleet.fWagons.length : Int) - 1)))) && (v41 != 0)) && ((3 == 0) || (v41 == 3))), rfl, rfl⟩⟩), (qr rfl ⟨(((((true && decide (0 ≤ v2.fWagon)) && decide (v2.fWagon ≤ (W ((v1.fFleet.fWagons.length : Int) - 1)))) && (v41 != 0)) && ((3 == 0) || (v41 == 3))) = true), (eqv (.pointer (some ⟨b5, 14, none⟩))), 53, rfl, rfl, fun g62 => (z3 (zdb H) (mc rfl g62)), .inl ⟨((((true && decide (0 ≤ v2.fWagon)) && decide (v2.fWagon ≤ (W ((v1.fFleet.fWagons.length : Int) - 1)))) && (v41 != 0)) && ((3 == 0) || (v41 == 3))), rfl, rfl⟩⟩), (qr rfl ⟨(((((true && decide (0 ≤ v2.fWagon)) && decide (v2.fWagon ≤ (W ((v1.fFleet.fWagons.length : Int) - 1)))) && (v41 != 0)) && ((3 == 0) || (v41 == 3))) = true), (iv .i64 v2.fOther), 53, rfl, rfl, fun g63 => (lb (tl3 H) 0 (mc rfl g63) rfl rfl), .inl ⟨((((true && decide (0 ≤ v2.fWagon)) && decide (v2.fWagon ≤ (W ((v1.fFleet.fWagons.length : Int) - 1)))) && (v41 != 0)) && ((3 == 0) || (v41 == 3))), rfl, rfl⟩⟩), (qr rfl ⟨(((((true && decide (0 ≤ v2.fWagon)) && decide (v2.fWagon ≤ (W ((v1.fFleet.fWagons.length : Int) - 1)))) && (v41 != 0)) && ((3 == 0) || (v41 == 3))) = true), (eqv (.pointer (some ⟨b59, 1, none⟩))), 53, rfl, rfl, fun g64 => (z3 (zd6 H) (Ev.tmp (A := (eqv (.pointer (some ⟨b59, 0, none⟩)))) (by kernel_rfl))), .inl ⟨((((true && decide (0 ≤ v2.fWagon)) && decide (v2.fWagon ≤ (W ((v1.fFleet.fWagons.length : Int) - 1)))) && (v41 != 0)) && ((3 == 0) || (v41 == 3))), rfl, rfl⟩⟩), (qr rfl ⟨(((((true && decide (0 ≤ v2.fWagon)) && decide (v2.fWagon ≤ (W ((v1.fFleet.fWagons.length : Int) - 1)))) && (v41 != 0)) && ((3 == 0) || (v41 == 3))) = true), (iv .i64 v42), 53, rfl, rfl, fun g65 => (lb (tl3 H) 1 (mc rfl g65) rfl rfl), .inl ⟨((((true && decide (0 ≤ v2.fWagon)) && decide (v2.fWagon ≤ (W ((v1.fFleet.fWagons.length : Int) - 1)))) && (v41 != 0)) && ((3 == 0) || (v41 == 3))), rfl, rfl⟩⟩), (qr rfl ⟨(((((true && decide (0 ≤ v2.fWagon)) && decide (v2.fWagon ≤ (W ((v1.fFleet.fWagons.length : Int) - 1)))) && (v41 != 0)) && ((3 == 0) || (v41 == 3))) = true), (bv (v2.fOther == v42)), 53, rfl, rfl, fun g66 => (z61 (mc rfl g66) (mc rfl g66)), .inl ⟨((((true && decide (0 ≤ v2.fWagon)) && decide (v2.fWagon ≤ (W ((v1.fFleet.fWagons.length : Int) - 1)))) && (v41 != 0)) && ((3 == 0) || (v41 == 3))), rfl, rfl⟩⟩), (qr rfl ⟨(((((true && decide (0 ≤ v2.fWagon)) && decide (v2.fWagon ≤ (W ((v1.fFleet.fWagons.length : Int) - 1)))) && (v41 != 0)) && ((3 == 0) || (v41 == 3))) = true), (bv (v2.fOther == v42)), 53, rfl, rfl, fun g67 => (z0 (mc rfl g67)), .inl ⟨((((true && decide (0 ≤ v2.fWagon)) && decide (v2.fWagon ≤ (W ((v1.fFleet.fWagons.length : Int) - 1)))) && (v41 != 0)) && ((3 == 0) || (v41 == 3))), rfl, rfl⟩⟩), (qr rfl ⟨((((((true && decide (0 ≤ v2.fWagon)) && decide (v2.fWagon ≤ (W ((v1.fFleet.fWagons.length : Int) - 1)))) && (v41 != 0)) && ((3 == 0) || (v41 == 3))) = true) ∧ ((v2.fOther == v42) = false)), (eqv (.pointer (some ⟨b5, 9, none⟩))), 61, rfl, rfl, fun g68 => (z0 (Ev.tmp (A := (eqv (.pointer (some ⟨b5, 9, none⟩)))) (by kernel_rfl))), .inr ⟨(((((true && decide (0 ≤ v2.fWagon)) && decide (v2.fWagon ≤ (W ((v1.fFleet.fWagons.length : Int) - 1)))) && (v41 != 0)) && ((3 == 0) || (v41 == 3))) = true), (v2.fOther == v42), rfl, rfl⟩⟩), (qr rfl ⟨((((((true && decide (0 ≤ v2.fWagon)) && decide (v2.fWagon ≤ (W ((v1.fFleet.fWagons.length : Int) - 1)))) && (v41 != 0)) && ((3 == 0) || (v41 == 3))) = true) ∧ ((v2.fOther == v42) = false)), (eqv (.pointer (some ⟨b5, 9, none⟩))), 61, rfl, rfl, fun g69 => (z01 (mc rfl ⟨g69.1, g69.2⟩)), .inr ⟨(((((true && decide (0 ≤ v2.fWagon)) && decide (v2.fWagon ≤ (W ((v1.fFleet.fWagons.length : Int) - 1)))) && (v41 != 0)) && ((3 == 0) || (v41 == 3))) = true), (v2.fOther == v42), rfl, rfl⟩⟩), (qr rfl ⟨((((((true && decide (0 ≤ v2.fWagon)) && decide (v2.fWagon ≤ (W ((v1.fFleet.fWagons.length : Int) - 1)))) && (v41 != 0)) && ((3 == 0) || (v41 == 3))) = true) ∧ ((v2.fOther == v42) = false)), (eqv (.pointer (some ⟨b5, 14, none⟩))), 61, rfl, rfl, fun g70 => (z3 (zdb H) (mc rfl ⟨g70.1, g70.2⟩)), .inr ⟨(((((true && decide (0 ≤ v2.fWagon)) && decide (v2.fWagon ≤ (W ((v1.fFleet.fWagons.length : Int) - 1)))) && (v41 != 0)) && ((3 == 0) || (v41 == 3))) = true), (v2.fOther == v42), rfl, rfl⟩⟩), (qr rfl ⟨((((((true && decide (0 ≤ v2.fWagon)) && decide (v2.fWagon ≤ (W ((v1.fFleet.fWagons.length : Int) - 1)))) && (v41 != 0)) && ((3 == 0) || (v41 == 3))) = true) ∧ ((v2.fOther == v42) = false)), (iv .i64 v2.fOther), 61, rfl, rfl, fun g71 => (lb (tl3 H) 0 (mc rfl ⟨g71.1, g71.2⟩) rfl rfl), .inr ⟨(((((true && decide (0 ≤ v2.fWagon)) && decide (v2.fWagon ≤ (W ((v1.fFleet.fWagons.length : Int) - 1)))) && (v41 != 0)) && ((3 == 0) || (v41 == 3))) = true), (v2.fOther == v42), rfl, rfl⟩⟩), (qr rfl ⟨((((((true && decide (0 ≤ v2.fWagon)) && decide (v2.fWagon ≤ (W ((v1.fFleet.fWagons.length : Int) - 1)))) && (v41 != 0)) && ((3 == 0) || (v41 == 3))) = true) ∧ ((v2.fOther == v42) = false)), (eqv (.pointer (some ⟨b59, 2, none⟩))), 61, rfl, rfl, fun g72 => (z3 (zd0 H) (Ev.tmp (A := (eqv (.pointer (some ⟨b59, 0, none⟩)))) (by kernel_rfl))), .inr ⟨(((((true && decide (0 ≤ v2.fWagon)) && decide (v2.fWagon ≤ (W ((v1.fFleet.fWagons.length : Int) - 1)))) && (v41 != 0)) && ((3 == 0) || (v41 == 3))) = true), (v2.fOther == v42), rfl, rfl⟩⟩), (qr rfl ⟨((((((true && decide (0 ≤ v2.fWagon)) && decide (v2.fWagon ≤ (W ((v1.fFleet.fWagons.length : Int) - 1)))) && (v41 != 0)) && ((3 == 0) || (v41 == 3))) = true) ∧ ((v2.fOther == v42) = false)), (iv .i64 v43), 61, rfl, rfl, fun g73 => (lb (tl3 H) 1 (mc rfl ⟨g73.1, g73.2⟩) rfl rfl), .inr ⟨(((((true && decide (0 ≤ v2.fWagon)) && decide (v2.fWagon ≤ (W ((v1.fFleet.fWagons.length : Int) - 1)))) && (v41 != 0)) && ((3 == 0) || (v41 == 3))) = true), (v2.fOther == v42), rfl, rfl⟩⟩), (qr rfl ⟨((((((true && decide (0 ≤ v2.fWagon)) && decide (v2.fWagon ≤ (W ((v1.fFleet.fWagons.length : Int) - 1)))) && (v41 != 0)) && ((3 == 0) || (v41 == 3))) = true) ∧ ((v2.fOther == v42) = false)), (bv (v2.fOther == v43)), 61, rfl, rfl, fun g74 => (z61 (mc rfl ⟨g74.1, g74.2⟩) (mc rfl ⟨g74.1, g74.2⟩)), .inr ⟨(((((true && decide (0 ≤ v2.fWagon)) && decide (v2.fWagon ≤ (W ((v1.fFleet.fWagons.length : Int) - 1)))) && (v41 != 0)) && ((3 == 0) || (v41 == 3))) = true), (v2.fOther == v42), rfl, rfl⟩⟩), (qr rfl ⟨(((((true && decide (0 ≤ v2.fWagon)) && decide (v2.fWagon ≤ (W ((v1.fFleet.fWagons.length : Int) - 1)))) && (v41 != 0)) && ((3 == 0) || (v41 == 3))) = true), (bv ((v2.fOther == v42) || (v2.fOther == v43))), 53, rfl, rfl, fun g75 => (opOr (mc rfl g75) ct (fun g76 => (mc rfl ⟨g75, g76⟩))), .inl ⟨((((true && decide (0 ≤ v2.fWagon)) && decide (v2.fWagon ≤ (W ((v1.fFleet.fWagons.length : Int) - 1)))) && (v41 != 0)) && ((3 == 0) || (v41 == 3))), rfl, rfl⟩⟩), (qr rfl (z36 (Ev.tmp (A := (bv ((((true && decide (0 ≤ v2.fWagon)) && decide (v2.fWagon ≤ (W ((v1.fFleet.fWagons.length : Int) - 1)))) && (v41 != 0)) && ((3 == 0) || (v41 == 3))))) (by kernel_rfl)) (fun g77 => (mc rfl g77)) ct)), (qr rfl (z01 (Ev.tmp (A := (eqv (.pointer (some ⟨b5, 0, none⟩)))) (by kernel_rfl)))), (qr rfl (z3 (zad H) (Ev.tmp (A := (eqv (.pointer (some ⟨b5, 0, none⟩)))) (by kernel_rfl)))), trivial⟩ ⟨⟨_, rfl, rfl, rfl, rfl, sto 0 (tl4 H) (Ev.tmp (A := (eqv (.pointer (some ⟨b5, 25, none⟩)))) (by kernel_rfl)) (Ce.one (Ev.tmp (A := (bv (((((true && decide (0 ≤ v2.fWagon)) && decide (v2.fWagon ≤ (W ((v1.fFleet.fWagons.length : Int) - 1)))) && (v41 != 0)) && ((3 == 0) || (v41 == 3))) && ((v2.fOther == v42) || (v2.fOther == v43))))) (by kernel_rfl)) (One.eqv rfl)) rfl rfl rfl rfl ⟨[], rfl, ?_⟩⟩, trivial⟩ ft)))))))))
        refine Reg.intro [] [0, 1, 2, 3, 4, 5, 6, 7, 8, 9, 10, 11, 12, 13, 14, 15, 16, 17, 18, 19, 20, 21, 22, 23, 24] (by kernel_rfl) rfl (an rfl) ⟨nf, nf, nf, nf, nf, nf, nf, nf, nf, nf, nf, nf, nf, nf, nf, nf, nf, nf, nf, nf, nf, nf, nf, nf, nf, trivial⟩ trivial (fun _ => al [0, 2] [0] rfl rfl rfl (sq (cs (cr [0, 1, 2, 3] rfl (q1 rfl (z0 (mv rfl)) (q1 rfl (z01 (mv rfl)) (q1 rfl (z3 (zdb H) (mv rfl)) (n1 rfl (sto 0 (tl3 H) (mv rfl) (Ce.one ct (One.eqv rfl)) rfl rfl rfl rfl (rn (al [0, 2] [0] rfl rfl rfl (sq ?_))))))))))))
        refine cs (cr [0, 1] rfl (q1 rfl (z0 (mv rfl)) (n1 rfl (z8k (zv7 H) (Ev.func _) (args := [(eqv (.pointer (some ⟨b5, 0, none⟩)))]) ⟨(mv rfl), trivial⟩ (zau.of_code' 8 (fn86 H) rfl rfl (Nat.le_of_ble_eq_true rfl) fun r078 wI78 => cl [0] [0] rfl rfl rfl (cr [0, 1, 2, 3, 4, 5] rfl (q1 rfl (z0 (mv rfl)) (q1 rfl (z0 (mv rfl)) (q1 rfl (z01 (mv rfl)) (q1 rfl (z3 (zc2 H) (mv rfl)) (q1 rfl (z3 (zbx H) (mv rfl)) (n1 rfl (z8k (zok H) (Ev.func _) (args := [(eqv (.pointer (some ⟨b5, 0, none⟩))), (eqv (.pointer (some ⟨b5, 16, none⟩))), (iv .i64 0), (iv .i64 1073741824)]) ⟨(mv rfl), (mv rfl), ct, ct, trivial⟩ (zau.of_code' 31 (fn85 H) rfl rfl (Nat.le_of_ble_eq_true rfl) fun r078 wI78 => ?_))))))))))))))
        refine cl [0, 1, 2, 3] [0] rfl rfl rfl (cs (cr [0, 1, 2, 3, 4, 5, 6, 7, 8, 9, 10, 11, 12, 13, 14, 15, 16, 17, 18, 19, 20, 21] rfl (q1 rfl (z0 (mv rfl)) (q1 rfl (z0 (mv rfl)) (q1 rfl (z01 (mv rfl)) (q1 rfl (z3 (zad H) (mv rfl)) (q1 rfl (lb (tl4 H) 0 (mv rfl) rfl rfl) (q1 rfl (z0 (mv rfl)) (g1 rfl rfl (fun g79 => z0 (mv rfl)) (g1 rfl rfl (fun g80 => z0 (mv rfl)) (g1 rfl rfl (fun g81 => z01 (mc rfl g81)) ?_)))))))))))
        refine g1 rfl rfl (fun g82 => lb (tl3 H) 0 (mc rfl g82) rfl rfl) (g1 rfl rfl (fun g83 => zc4 (mc rfl g83) (mc rfl g83)) (q1 rfl (z36 (mv rfl) (fun g84 => (mc rfl g84)) ct) (q1 rfl (z0 (mv rfl)) (g1 rfl rfl (fun g85 => z0 (mv rfl)) (g1 rfl rfl (fun g86 => z01 (mc rfl g86)) (g1 rfl rfl (fun g87 => lb (tl3 H) 0 (mc rfl g87) rfl rfl) (g1 rfl rfl (fun g88 => z0 (mv rfl)) (g1 rfl rfl (fun g89 => zc4 (mc rfl g89) (mc rfl g89)) (q1 rfl (z36 (mv rfl) (fun g90 => (mc rfl g90)) ct) (q1 rfl (z01 (mv rfl)) (q1 rfl (z3 (zad H) (mv rfl)) ?_)))))))))))
        refine n1 rfl (sto 0 (tl4 H) (mv rfl) (Ce.one (mv rfl) (One.eqv rfl)) rfl rfl rfl rfl (rn (al [1] [0] rfl rfl rfl (sq (cr [0, 1, 2] rfl (q1 rfl (z0 (mv rfl)) (q1 rfl (z01 (mv rfl)) (n1 rfl (sto 0 (tl3 H) (mv rfl) (Ce.one ct (One.eqv rfl)) rfl rfl rfl rfl (rn (AtX.fall' (eqv (.tuple #[])) (zq.zero Try.results85) [0] [(box b5 137 [(ro z4m 3 v1.fNetwork.fPlaces), (ro zbr 5 v1.fNetwork.fEdges), (ro z1a 8 v1.fFleet.fTypes), (ro z6s 5 v1.fFleet.fWagons), (ro zbs 3 v1.fFleet.fSwaps), (ro z9o 3 v1.fFleet.fWashes), (ro z8b 3 v1.fReaders), (ro z3k 1 v1.fShippers), (ro z1f 16 v1.fRailways), (iv .i64 v2.fKind), (iv .i64 v2.fRef.fRailway), (iv .i64 v2.fRef.fNo), (iv .i64 0), (iv .i64 0), (iv .i64 0), (iv .i64 v2.fNumber), (iv .i64 0), (iv .i64 v2.fTo), (iv .i64 v2.fCode), (iv .i64 v2.fDest), (iv .i64 v2.fClass), (iv .i64 v2.fWeight), (iv .i64 v2.fAmount), (eqv (.string v2.fText)), (ro zbg 3 v2.fParts), (bv (((((((true && decide (0 ≤ v2.fWagon)) && decide (v2.fWagon ≤ (W ((v1.fFleet.fWagons.length : Int) - 1)))) && (v41 != 0)) && ((3 == 0) || (v41 == 3))) && ((v2.fOther == v42) || (v2.fOther == v43))) && decide (0 ≤ v2.fFrom)) && decide (v2.fFrom ≤ 1073741824)))])] (ol rfl) rfl (rn (AtX.fall' (eqv (.tuple #[])) (zq.zero Try.results86) [0] [(box b5 137 [(ro z4m 3 v1.fNetwork.fPlaces), (ro zbr 5 v1.fNetwork.fEdges), (ro z1a 8 v1.fFleet.fTypes), (ro z6s 5 v1.fFleet.fWagons), (ro zbs 3 v1.fFleet.fSwaps), (ro z9o 3 v1.fFleet.fWashes), (ro z8b 3 v1.fReaders), (ro z3k 1 v1.fShippers), (ro z1f 16 v1.fRailways), (iv .i64 v2.fKind), (iv .i64 v2.fRef.fRailway), (iv .i64 v2.fRef.fNo), (iv .i64 0), (iv .i64 0), (iv .i64 0), (iv .i64 v2.fNumber), (iv .i64 0), (iv .i64 v2.fTo), (iv .i64 v2.fCode), (iv .i64 v2.fDest), (iv .i64 v2.fClass), (iv .i64 v2.fWeight), (iv .i64 v2.fAmount), (eqv (.string v2.fText)), (ro zbg 3 v2.fParts), (bv (((((((true && decide (0 ≤ v2.fWagon)) && decide (v2.fWagon ≤ (W ((v1.fFleet.fWagons.length : Int) - 1)))) && (v41 != 0)) && ((3 == 0) || (v41 == 3))) && ((v2.fOther == v42) || (v2.fOther == v43))) && decide (0 ≤ v2.fFrom)) && decide (v2.fFrom ≤ 1073741824)))])] (ol rfl) rfl ?_)))))))))))))
        refine rn (al [0, 2] [0] rfl rfl rfl (sq (cr [0, 1, 2, 3, 4] rfl (q1 rfl (z0 (mv rfl)) (q1 rfl (z0 (mv rfl)) (q1 rfl (z01 (mv rfl)) (q1 rfl (z3 (zjl H) (mv rfl)) (n1 rfl (z8k (zok H) (Ev.func _) (args := [(eqv (.pointer (some ⟨b5, 0, none⟩))), (eqv (.pointer (some ⟨b5, 18, none⟩))), (iv .i64 0), (iv .i64 8)]) ⟨(mv rfl), (mv rfl), ct, ct, trivial⟩ (zau.of_code' 31 (fn85 H) rfl rfl (Nat.le_of_ble_eq_true rfl) fun r090 wI90 => cl [0, 1, 2, 3] [0] rfl rfl rfl (cs (cr [0, 1, 2, 3, 4, 5, 6, 7, 8, 9, 10, 11, 12, 13, 14, 15, 16, 17, 18, 19, 20, 21] rfl ?_))))))))))))
        refine q1 rfl (z0 (mv rfl)) (q1 rfl (z0 (mv rfl)) (q1 rfl (z01 (mv rfl)) (q1 rfl (z3 (zad H) (mv rfl)) (q1 rfl (lb (tl4 H) 0 (mv rfl) rfl rfl) (q1 rfl (z0 (mv rfl)) (g1 rfl rfl (fun g91 => z0 (mv rfl)) (g1 rfl rfl (fun g92 => z0 (mv rfl)) (g1 rfl rfl (fun g93 => z01 (mc rfl g93)) (g1 rfl rfl (fun g94 => lb (tl3 H) 0 (mc rfl g94) rfl rfl) (g1 rfl rfl (fun g95 => zc4 (mc rfl g95) (mc rfl g95)) (q1 rfl (z36 (mv rfl) (fun g96 => (mc rfl g96)) ct) ?_)))))))))))
        refine q1 rfl (z0 (mv rfl)) (g1 rfl rfl (fun g97 => z0 (mv rfl)) (g1 rfl rfl (fun g98 => z01 (mc rfl g98)) (g1 rfl rfl (fun g99 => lb (tl3 H) 0 (mc rfl g99) rfl rfl) (g1 rfl rfl (fun g100 => z0 (mv rfl)) (g1 rfl rfl (fun g101 => zc4 (mc rfl g101) (mc rfl g101)) (q1 rfl (z36 (mv rfl) (fun g102 => (mc rfl g102)) ct) (q1 rfl (z01 (mv rfl)) (q1 rfl (z3 (zad H) (mv rfl)) (n1 rfl (sto 0 (tl4 H) (mv rfl) (Ce.one (mv rfl) (One.eqv rfl)) rfl rfl rfl rfl (rn (al [1] [0] rfl rfl rfl ?_))))))))))))
        refine sq (cr [0, 1, 2] rfl (q1 rfl (z0 (mv rfl)) (q1 rfl (z01 (mv rfl)) (n1 rfl (sto 0 (tl3 H) (mv rfl) (Ce.one ct (One.eqv rfl)) rfl rfl rfl rfl (rn (AtX.fall' (eqv (.tuple #[])) (zq.zero Try.results85) [0] [(box b5 137 [(ro z4m 3 v1.fNetwork.fPlaces), (ro zbr 5 v1.fNetwork.fEdges), (ro z1a 8 v1.fFleet.fTypes), (ro z6s 5 v1.fFleet.fWagons), (ro zbs 3 v1.fFleet.fSwaps), (ro z9o 3 v1.fFleet.fWashes), (ro z8b 3 v1.fReaders), (ro z3k 1 v1.fShippers), (ro z1f 16 v1.fRailways), (iv .i64 v2.fKind), (iv .i64 v2.fRef.fRailway), (iv .i64 v2.fRef.fNo), (iv .i64 0), (iv .i64 0), (iv .i64 0), (iv .i64 v2.fNumber), (iv .i64 0), (iv .i64 v2.fTo), (iv .i64 0), (iv .i64 v2.fDest), (iv .i64 v2.fClass), (iv .i64 v2.fWeight), (iv .i64 v2.fAmount), (eqv (.string v2.fText)), (ro zbg 3 v2.fParts), (bv (((((((((true && decide (0 ≤ v2.fWagon)) && decide (v2.fWagon ≤ (W ((v1.fFleet.fWagons.length : Int) - 1)))) && (v41 != 0)) && ((3 == 0) || (v41 == 3))) && ((v2.fOther == v42) || (v2.fOther == v43))) && decide (0 ≤ v2.fFrom)) && decide (v2.fFrom ≤ 1073741824)) && decide (0 ≤ v2.fCode)) && decide (v2.fCode ≤ 8)))])] (ol rfl) rfl (rn (AtX.in_normal (AtX.fall' (eqv (.tuple #[])) (zq.zero Try.results71) [0] [(box b5 137 [(ro z4m 3 v1.fNetwork.fPlaces), (ro zbr 5 v1.fNetwork.fEdges), (ro z1a 8 v1.fFleet.fTypes), (ro z6s 5 v1.fFleet.fWagons), (ro zbs 3 v1.fFleet.fSwaps), (ro z9o 3 v1.fFleet.fWashes), (ro z8b 3 v1.fReaders), (ro z3k 1 v1.fShippers), (ro z1f 16 v1.fRailways), (iv .i64 v2.fKind), (iv .i64 v2.fRef.fRailway), (iv .i64 v2.fRef.fNo), (iv .i64 0), (iv .i64 0), (iv .i64 0), (iv .i64 v2.fNumber), (iv .i64 0), (iv .i64 v2.fTo), (iv .i64 0), (iv .i64 v2.fDest), (iv .i64 v2.fClass), (iv .i64 v2.fWeight), (iv .i64 v2.fAmount), (eqv (.string v2.fText)), (ro zbg 3 v2.fParts), (bv (((((((((true && decide (0 ≤ v2.fWagon)) && decide (v2.fWagon ≤ (W ((v1.fFleet.fWagons.length : Int) - 1)))) && (v41 != 0)) && ((3 == 0) || (v41 == 3))) && ((v2.fOther == v42) || (v2.fOther == v43))) && decide (0 ≤ v2.fFrom)) && decide (v2.fFrom ≤ 1073741824)) && decide (0 ≤ v2.fCode)) && decide (v2.fCode ≤ 8)))])] (ol rfl) rfl (rn (al [5] [0] rfl rfl rfl ?_))))))))))))
        refine sq (cs (cs (cr [0, 1, 2] rfl (q1 rfl (z3 (zc2 H) (mv rfl)) (n1 rfl (z8k (zvp H) (Ev.func _) (args := [(eqv (.pointer (some ⟨b5, 9, none⟩)))]) ⟨(mv rfl), trivial⟩ (zau.of_code' 37 (fn73 H) rfl rfl (Nat.le_of_ble_eq_true rfl) fun r0102 wI102 => cl [0] [0] rfl rfl rfl (cs (cr [0] rfl (n1 rfl (z38 _ (zwq H) rfl fun b103 => rn (al [0, 2] [0, 1] rfl rfl rfl ?_))))))))))))
        refine sq (cs (z2.draw (QR := [(0, _), (1, _), (2, _), (3, _), (4, _), (5, _), (6, _), (7, _), (8, _), (9, _), (10, _), (11, _), (12, _), (13, _), (14, _), (15, _), (16, _), (17, _), (18, _), (19, _), (20, _), (21, _), (22, _), (23, _), (24, _), (25, _), (26, _), (27, _), (28, _), (29, _), (30, _), (31, _), (32, _), (33, _)]) (tab := [(some 3, []), (some 4, [0]), (some 5, [1]), (some 6, []), (some 7, [3]), (some 8, [4]), (some 9, []), (some 10, [6]), (some 11, [7]), (some 12, []), (some 13, [9]), (some 14, [10]), (some 15, []), (some 16, [12]), (some 17, [13]), (some 18, []), (some 19, [15]), (some 20, [16]), (some 21, []), (some 22, [18]), (some 23, [19]), (some 24, []), (some 25, [21]), (some 26, [22]), (some 27, []), (some 28, [24]), (some 29, [25]), (some 30, []), (some 31, [27]), (some 32, [28]), (some 33, []), (some 34, [30]), (some 35, [31]), (some 36, [2, 5, 8, 11, 14, 17, 20, 23, 26, 29, 32]), (none, [33, 0, 1, 2, 3, 4, 5, 6, 7, 8, 9, 10, 11, 12, 13, 14, 15, 16, 17, 18, 19, 20, 21, 22, 23, 24, 25, 26, 27, 28, 29, 30, 31, 32, 33])]) (z5h H) (Reg.intro [34] [] (by kernel_rfl) rfl (an rfl) ⟨(qr rfl (z0 (Ev.tmp (A := (eqv (.pointer (some ⟨b5, 9, none⟩)))) (by kernel_rfl)))), (qr rfl (z01 (Ev.tmp (A := (eqv (.pointer (some ⟨b5, 9, none⟩)))) (by kernel_rfl)))), (qr rfl (z3 (zgg H) (Ev.tmp (A := (eqv (.pointer (some ⟨b5, 9, none⟩)))) (by kernel_rfl)))), (qr rfl (z0 (Ev.tmp (A := (eqv (.pointer (some ⟨b5, 9, none⟩)))) (by kernel_rfl)))), (qr rfl (z01 (Ev.tmp (A := (eqv (.pointer (some ⟨b5, 9, none⟩)))) (by kernel_rfl)))), (qr rfl (z3 (zc8 H) (Ev.tmp (A := (eqv (.pointer (some ⟨b5, 9, none⟩)))) (by kernel_rfl)))), (qr rfl (z0 (Ev.tmp (A := (eqv (.pointer (some ⟨b5, 9, none⟩)))) (by kernel_rfl)))), (qr rfl (z01 (Ev.tmp (A := (eqv (.pointer (some ⟨b5, 9, none⟩)))) (by kernel_rfl)))), (qr rfl (z3 (zdb H) (Ev.tmp (A := (eqv (.pointer (some ⟨b5, 9, none⟩)))) (by kernel_rfl)))), (qr rfl (z0 (Ev.tmp (A := (eqv (.pointer (some ⟨b5, 9, none⟩)))) (by kernel_rfl)))), (qr rfl (z01 (Ev.tmp (A := (eqv (.pointer (some ⟨b5, 9, none⟩)))) (by kernel_rfl)))), (qr rfl (z3 (zxb H) (Ev.tmp (A := (eqv (.pointer (some ⟨b5, 9, none⟩)))) (by kernel_rfl)))), (qr rfl (z0 (Ev.tmp (A := (eqv (.pointer (some ⟨b5, 9, none⟩)))) (by kernel_rfl)))), (qr rfl (z01 (Ev.tmp (A := (eqv (.pointer (some ⟨b5, 9, none⟩)))) (by kernel_rfl)))), (qr rfl (z3 (zbx H) (Ev.tmp (A := (eqv (.pointer (some ⟨b5, 9, none⟩)))) (by kernel_rfl)))), (qr rfl (z0 (Ev.tmp (A := (eqv (.pointer (some ⟨b5, 9, none⟩)))) (by kernel_rfl)))), (qr rfl (z01 (Ev.tmp (A := (eqv (.pointer (some ⟨b5, 9, none⟩)))) (by kernel_rfl)))), (qr rfl (z3 (zur H) (Ev.tmp (A := (eqv (.pointer (some ⟨b5, 9, none⟩)))) (by kernel_rfl)))), (qr rfl (z0 (Ev.tmp (A := (eqv (.pointer (some ⟨b5, 9, none⟩)))) (by kernel_rfl)))), (qr rfl (z01 (Ev.tmp (A := (eqv (.pointer (some ⟨b5, 9, none⟩)))) (by kernel_rfl)))), (qr rfl (z3 (zjl H) (Ev.tmp (A := (eqv (.pointer (some ⟨b5, 9, none⟩)))) (by kernel_rfl)))), (qr rfl (z0 (Ev.tmp (A := (eqv (.pointer (some ⟨b5, 9, none⟩)))) (by kernel_rfl)))), (qr rfl (z01 (Ev.tmp (A := (eqv (.pointer (some ⟨b5, 9, none⟩)))) (by kernel_rfl)))), (qr rfl (z3 (zwo H) (Ev.tmp (A := (eqv (.pointer (some ⟨b5, 9, none⟩)))) (by kernel_rfl)))), (qr rfl (z0 (Ev.tmp (A := (eqv (.pointer (some ⟨b5, 9, none⟩)))) (by kernel_rfl)))), (qr rfl (z01 (Ev.tmp (A := (eqv (.pointer (some ⟨b5, 9, none⟩)))) (by kernel_rfl)))), (qr rfl (z3 (ztw H) (Ev.tmp (A := (eqv (.pointer (some ⟨b5, 9, none⟩)))) (by kernel_rfl)))), (qr rfl (z0 (Ev.tmp (A := (eqv (.pointer (some ⟨b5, 9, none⟩)))) (by kernel_rfl)))), (qr rfl (z01 (Ev.tmp (A := (eqv (.pointer (some ⟨b5, 9, none⟩)))) (by kernel_rfl)))), (qr rfl (z3 (zuc H) (Ev.tmp (A := (eqv (.pointer (some ⟨b5, 9, none⟩)))) (by kernel_rfl)))), (qr rfl (z0 (Ev.tmp (A := (eqv (.pointer (some ⟨b5, 9, none⟩)))) (by kernel_rfl)))), (qr rfl (z01 (Ev.tmp (A := (eqv (.pointer (some ⟨b5, 9, none⟩)))) (by kernel_rfl)))), (qr rfl (z3 (zt8 H) (Ev.tmp (A := (eqv (.pointer (some ⟨b5, 9, none⟩)))) (by kernel_rfl)))), (qr rfl (z46 [.pointer none, .pointer none, .pointer none, .pointer none, .pointer none, .pointer none, .pointer none, .pointer none, .pointer none, .pointer none, .pointer none] [(0, [(eqv (.pointer (some ⟨b5, 12, none⟩)))]), (1, [(eqv (.pointer (some ⟨b5, 13, none⟩)))]), (2, [(eqv (.pointer (some ⟨b5, 14, none⟩)))]), (3, [(eqv (.pointer (some ⟨b5, 15, none⟩)))]), (4, [(eqv (.pointer (some ⟨b5, 16, none⟩)))]), (5, [(eqv (.pointer (some ⟨b5, 17, none⟩)))]), (6, [(eqv (.pointer (some ⟨b5, 18, none⟩)))]), (7, [(eqv (.pointer (some ⟨b5, 19, none⟩)))]), (8, [(eqv (.pointer (some ⟨b5, 20, none⟩)))]), (9, [(eqv (.pointer (some ⟨b5, 21, none⟩)))]), (10, [(eqv (.pointer (some ⟨b5, 22, none⟩)))])] (out := [(eqv (.pointer (some ⟨b5, 12, none⟩))), (eqv (.pointer (some ⟨b5, 13, none⟩))), (eqv (.pointer (some ⟨b5, 14, none⟩))), (eqv (.pointer (some ⟨b5, 15, none⟩))), (eqv (.pointer (some ⟨b5, 16, none⟩))), (eqv (.pointer (some ⟨b5, 17, none⟩))), (eqv (.pointer (some ⟨b5, 18, none⟩))), (eqv (.pointer (some ⟨b5, 19, none⟩))), (eqv (.pointer (some ⟨b5, 20, none⟩))), (eqv (.pointer (some ⟨b5, 21, none⟩))), (eqv (.pointer (some ⟨b5, 22, none⟩)))]) (zwq H) rfl (zy5 H) ⟨(ztr H), Nat.le_of_ble_eq_true rfl, (Ce.one (Ev.tmp (A := (eqv (.pointer (some ⟨b5, 12, none⟩)))) (by kernel_rfl)) (One.eqv rfl)), ⟨(zu4 H), Nat.le_of_ble_eq_true rfl, (Ce.one (Ev.tmp (A := (eqv (.pointer (some ⟨b5, 13, none⟩)))) (by kernel_rfl)) (One.eqv rfl)), ⟨(zue H), Nat.le_of_ble_eq_true rfl, (Ce.one (Ev.tmp (A := (eqv (.pointer (some ⟨b5, 14, none⟩)))) (by kernel_rfl)) (One.eqv rfl)), ⟨(ztv H), Nat.le_of_ble_eq_true rfl, (Ce.one (Ev.tmp (A := (eqv (.pointer (some ⟨b5, 15, none⟩)))) (by kernel_rfl)) (One.eqv rfl)), ⟨(zuf H), Nat.le_of_ble_eq_true rfl, (Ce.one (Ev.tmp (A := (eqv (.pointer (some ⟨b5, 16, none⟩)))) (by kernel_rfl)) (One.eqv rfl)), ⟨(ztk H), Nat.le_of_ble_eq_true rfl, (Ce.one (Ev.tmp (A := (eqv (.pointer (some ⟨b5, 17, none⟩)))) (by kernel_rfl)) (One.eqv rfl)), ⟨(zu5 H), Nat.le_of_ble_eq_true rfl, (Ce.one (Ev.tmp (A := (eqv (.pointer (some ⟨b5, 18, none⟩)))) (by kernel_rfl)) (One.eqv rfl)), ⟨(zt2 H), Nat.le_of_ble_eq_true rfl, (Ce.one (Ev.tmp (A := (eqv (.pointer (some ⟨b5, 19, none⟩)))) (by kernel_rfl)) (One.eqv rfl)), ⟨(zua H), Nat.le_of_ble_eq_true rfl, (Ce.one (Ev.tmp (A := (eqv (.pointer (some ⟨b5, 20, none⟩)))) (by kernel_rfl)) (One.eqv rfl)), ⟨(ztx H), Nat.le_of_ble_eq_true rfl, (Ce.one (Ev.tmp (A := (eqv (.pointer (some ⟨b5, 21, none⟩)))) (by kernel_rfl)) (One.eqv rfl)), ⟨(zrk H), Nat.le_of_ble_eq_true rfl, (Ce.one (Ev.tmp (A := (eqv (.pointer (some ⟨b5, 22, none⟩)))) (by kernel_rfl)) (One.eqv rfl)), trivial⟩⟩⟩⟩⟩⟩⟩⟩⟩⟩⟩ (by kernel_rfl))), trivial⟩ ⟨⟨_, rfl, rfl, rfl, rfl, sto 1 (zxk H) (Ev.tmp (A := (eqv (.pointer (some ⟨b103, 0, none⟩)))) (by kernel_rfl)) (Ce.agg (Ev.tmp (A := (agg [(eqv (.pointer (some ⟨b5, 12, none⟩))), (eqv (.pointer (some ⟨b5, 13, none⟩))), (eqv (.pointer (some ⟨b5, 14, none⟩))), (eqv (.pointer (some ⟨b5, 15, none⟩))), (eqv (.pointer (some ⟨b5, 16, none⟩))), (eqv (.pointer (some ⟨b5, 17, none⟩))), (eqv (.pointer (some ⟨b5, 18, none⟩))), (eqv (.pointer (some ⟨b5, 19, none⟩))), (eqv (.pointer (some ⟨b5, 20, none⟩))), (eqv (.pointer (some ⟨b5, 21, none⟩))), (eqv (.pointer (some ⟨b5, 22, none⟩)))])) (by kernel_rfl))) rfl rfl rfl rfl ⟨[], rfl, ?_⟩⟩, trivial⟩ ft)))
        refine Reg.intro [] [0, 1, 2, 3, 4, 5, 6, 7, 8, 9, 10, 11, 12, 13, 14, 15, 16, 17, 18, 19, 20, 21, 22, 23, 24, 25, 26, 27, 28, 29, 30, 31, 32, 33] (by kernel_rfl) rfl (an rfl) ⟨nf, nf, nf, nf, nf, nf, nf, nf, nf, nf, nf, nf, nf, nf, nf, nf, nf, nf, nf, nf, nf, nf, nf, nf, nf, nf, nf, nf, nf, nf, nf, nf, nf, nf, trivial⟩ trivial (fun _ => al [2] [0, 1] rfl rfl rfl (sq (z2.ret (AtX.ret' (agg [(eqv (.pointer (some ⟨b5, 12, none⟩))), (eqv (.pointer (some ⟨b5, 13, none⟩))), (eqv (.pointer (some ⟨b5, 14, none⟩))), (eqv (.pointer (some ⟨b5, 15, none⟩))), (eqv (.pointer (some ⟨b5, 16, none⟩))), (eqv (.pointer (some ⟨b5, 17, none⟩))), (eqv (.pointer (some ⟨b5, 18, none⟩))), (eqv (.pointer (some ⟨b5, 19, none⟩))), (eqv (.pointer (some ⟨b5, 20, none⟩))), (eqv (.pointer (some ⟨b5, 21, none⟩))), (eqv (.pointer (some ⟨b5, 22, none⟩)))]) (zq.one Try.results73 (.inr ⟨_, rfl, (zxk H), ((Pt.box 1 (mv rfl) rfl rfl).take 11 (cs' := [(eqv (.pointer (some ⟨b5, 12, none⟩))), (eqv (.pointer (some ⟨b5, 13, none⟩))), (eqv (.pointer (some ⟨b5, 14, none⟩))), (eqv (.pointer (some ⟨b5, 15, none⟩))), (eqv (.pointer (some ⟨b5, 16, none⟩))), (eqv (.pointer (some ⟨b5, 17, none⟩))), (eqv (.pointer (some ⟨b5, 18, none⟩))), (eqv (.pointer (some ⟨b5, 19, none⟩))), (eqv (.pointer (some ⟨b5, 20, none⟩))), (eqv (.pointer (some ⟨b5, 21, none⟩))), (eqv (.pointer (some ⟨b5, 22, none⟩)))]) rfl)⟩)) [0] [(box b5 137 [(ro z4m 3 v1.fNetwork.fPlaces), (ro zbr 5 v1.fNetwork.fEdges), (ro z1a 8 v1.fFleet.fTypes), (ro z6s 5 v1.fFleet.fWagons), (ro zbs 3 v1.fFleet.fSwaps), (ro z9o 3 v1.fFleet.fWashes), (ro z8b 3 v1.fReaders), (ro z3k 1 v1.fShippers), (ro z1f 16 v1.fRailways), (iv .i64 v2.fKind), (iv .i64 v2.fRef.fRailway), (iv .i64 v2.fRef.fNo), (iv .i64 0), (iv .i64 0), (iv .i64 0), (iv .i64 v2.fNumber), (iv .i64 0), (iv .i64 v2.fTo), (iv .i64 0), (iv .i64 v2.fDest), (iv .i64 v2.fClass), (iv .i64 v2.fWeight), (iv .i64 v2.fAmount), (eqv (.string v2.fText)), (ro zbg 3 v2.fParts), (bv (((((((((true && decide (0 ≤ v2.fWagon)) && decide (v2.fWagon ≤ (W ((v1.fFleet.fWagons.length : Int) - 1)))) && (v41 != 0)) && ((3 == 0) || (v41 == 3))) && ((v2.fOther == v42) || (v2.fOther == v43))) && decide (0 ≤ v2.fFrom)) && decide (v2.fFrom ≤ 1073741824)) && decide (0 ≤ v2.fCode)) && decide (v2.fCode ≤ 8)))])] (ol rfl) rfl (q1 rfl (z0 ct) (rn (al [5, 17, 18] [0] rfl rfl rfl (sq ?_))))))))
        refine z2.join (fun z : Bool => (z67 φ v2) z) r (fun z => ⟨zd.of [(5, (eqv (.pointer (some ⟨b5, 0, none⟩))))], [(box b5 137 [(ro z4m 3 v1.fNetwork.fPlaces), (ro zbr 5 v1.fNetwork.fEdges), (ro z1a 8 v1.fFleet.fTypes), (ro z6s 5 v1.fFleet.fWagons), (ro zbs 3 v1.fFleet.fSwaps), (ro z9o 3 v1.fFleet.fWashes), (ro z8b 3 v1.fReaders), (ro z3k 1 v1.fShippers), (ro z1f 16 v1.fRailways), (iv .i64 v2.fKind), (iv .i64 v2.fRef.fRailway), (iv .i64 v2.fRef.fNo), (iv .i64 0), (iv .i64 0), (iv .i64 0), (iv .i64 v2.fNumber), (iv .i64 0), (iv .i64 v2.fTo), (iv .i64 0), (iv .i64 v2.fDest), (iv .i64 v2.fClass), (iv .i64 v2.fWeight), (iv .i64 v2.fAmount), (eqv (.string v2.fText)), (ro zbg 3 v2.fParts), (bv z)])]⟩) (fun v105 h => ?_) (fun hJ106 => ?_)
        ·
         replace h : (z67 φ v2) v105 = some r := h
         unfold z67 at h
         refine al [5] [0] rfl rfl rfl (sq (cs (cr [0, 1, 2, 3, 4, 5, 6, 7, 8, 9, 10, 11, 12, 13, 14, 15] rfl (q1 rfl (z3 (zad H) (mv rfl)) (q1 rfl (lb (tl4 H) 0 (mv rfl) rfl rfl) (q1 rfl (z0 (mv rfl)) (g1 rfl rfl (fun g107 => z3 (zc2 H) (mv rfl)) (g1 rfl rfl (fun g108 => z3 (zoi H) (mc rfl g108)) (g1 rfl rfl (fun g109 => lb (tl9 H) 0 (mc rfl g109) rfl rfl) (cg (x := (bv (v2.fText == zhc))) rfl rfl rfl rfl rfl (fun g110 => ztq (un9 H) (Ev.cnd (mv rfl) g110) (Ev.eq (Ev.const _) (congrArg Value.string (by kernel_rfl)))) (q1 rfl (z36 (mv rfl) (fun g111 => (mc rfl g111)) ct) ?_)))))))))))
         refine q1 rfl (z0 (mv rfl)) (g1 rfl rfl (fun g112 => z3 (zc2 H) (mv rfl)) (g1 rfl rfl (fun g113 => z3 (zps H) (mc rfl g113)) (g1 rfl rfl (fun g114 => lb (tl44 H) 0 (mc rfl g114) rfl rfl) (g1 rfl rfl (fun g115 => z0x (il44 H) (mc rfl g115)) (g1 rfl rfl (fun g116 => z61 (mc rfl g116) ct) (q1 rfl (z36 (mv rfl) (fun g117 => (mc rfl g117)) ct) (q1 rfl (z1 (mv rfl)) (rn (al [4] [] rfl rfl rfl (sq (z2.ret ?_)))))))))))
         refine AtX.ret' (bv ((v105 && (v2.fText == zhc)) && ((v2.fParts.length : Int) == 0))) (zq.one Try.results48 rfl) [] [] trivial rfl ?_
         obtain rfl := Option.some.inj h
         exact ⟨rfl, rfl⟩
        ·
         refine z2.block ?_
         refine z2.to (z2.loop (fun n (z : Int × Bool) => z59 φ v2 (z67 φ v2) n z.1 z.2) r (fun z => ⟨zd.of [(5, (eqv (.pointer (some ⟨b5, 0, none⟩)))), (17, (agg [(eqv (.pointer (some ⟨b5, 12, none⟩))), (eqv (.pointer (some ⟨b5, 13, none⟩))), (eqv (.pointer (some ⟨b5, 14, none⟩))), (eqv (.pointer (some ⟨b5, 15, none⟩))), (eqv (.pointer (some ⟨b5, 16, none⟩))), (eqv (.pointer (some ⟨b5, 17, none⟩))), (eqv (.pointer (some ⟨b5, 18, none⟩))), (eqv (.pointer (some ⟨b5, 19, none⟩))), (eqv (.pointer (some ⟨b5, 20, none⟩))), (eqv (.pointer (some ⟨b5, 21, none⟩))), (eqv (.pointer (some ⟨b5, 22, none⟩)))])), (18, (iv .i64 z.1))], [(box b5 137 [(ro z4m 3 v1.fNetwork.fPlaces), (ro zbr 5 v1.fNetwork.fEdges), (ro z1a 8 v1.fFleet.fTypes), (ro z6s 5 v1.fFleet.fWagons), (ro zbs 3 v1.fFleet.fSwaps), (ro z9o 3 v1.fFleet.fWashes), (ro z8b 3 v1.fReaders), (ro z3k 1 v1.fShippers), (ro z1f 16 v1.fRailways), (iv .i64 v2.fKind), (iv .i64 v2.fRef.fRailway), (iv .i64 v2.fRef.fNo), (iv .i64 0), (iv .i64 0), (iv .i64 0), (iv .i64 v2.fNumber), (iv .i64 0), (iv .i64 v2.fTo), (iv .i64 0), (iv .i64 v2.fDest), (iv .i64 v2.fClass), (iv .i64 v2.fWeight), (iv .i64 v2.fAmount), (eqv (.string v2.fText)), (ro zbg 3 v2.fParts), (bv z.2)])]⟩) (fun z => rfl) (fun n120 z ih120 h => ?_) φ (0, (((((((((true && decide (0 ≤ v2.fWagon)) && decide (v2.fWagon ≤ (W ((v1.fFleet.fWagons.length : Int) - 1)))) && (v41 != 0)) && ((3 == 0) || (v41 == 3))) && ((v2.fOther == v42) || (v2.fOther == v43))) && decide (0 ≤ v2.fFrom)) && decide (v2.fFrom ≤ 1073741824)) && decide (0 ≤ v2.fCode)) && decide (v2.fCode ≤ 8))) h) [0] (sl rfl) (ol rfl) rfl
         obtain ⟨v118, v119⟩ := z
         replace h : z59 φ v2 (z67 φ v2) (n120 + 1) v118 v119 = some r := h
         rw [z59] at h
         refine cs (cr [0] rfl (q1 rfl (z10 (mv rfl) ct) (rn (al [5, 17, 18, 19] [0] rfl rfl rfl (sq (cs ?_))))))
         refine cI h rfl (fun c121 h => ?_) (fun c121 h => ?_)
         ·
          refine z2.skip (al [5, 17, 18] [0] rfl rfl rfl (sq (cs (z2.block (cs (cr [0, 1] rfl (ckE h fun h122 h => q1 rfl (zrj (b := b5) (o := 12) (n := 11) (zxo H) (zxm H) (mv rfl) (mv rfl) rfl (h122).1 (h122).2) (q1 rfl (z1 (mv rfl)) (rn (al [5, 7, 17, 18] [0] rfl rfl rfl ?_))))))))))
          refine sq (cr [0, 1, 2, 3, 4, 5, 6, 7, 8, 9] rfl (q1 rfl (z3 (zad H) (mv rfl)) (q1 rfl (lb (tl4 H) 0 (mv rfl) rfl rfl) (q1 rfl (z0 (mv rfl)) (g1 rfl rfl (fun g123 => z0 (mv rfl)) (g1 rfl rfl (fun g124 => z01 (mc rfl g124)) (g1 rfl rfl (fun g125 => z2g (tl3 H) (Pt.seg 0 (o := 12) (l := [0, 0, 0, v2.fNumber, 0, v2.fTo, 0, v2.fDest, v2.fClass, v2.fWeight, v2.fAmount]) (mc rfl g125) rfl rfl (h122).1 (h122).2)) (g1 rfl rfl (fun g126 => z61 (mc rfl g126) ct) (q1 rfl (z36 (mv rfl) (fun g127 => (mc rfl g127)) ct) (q1 rfl (z3 (zad H) (mv rfl)) (n1 rfl (sto 0 (tl4 H) (mv rfl) (Ce.one (mv rfl) (One.eqv rfl)) rfl rfl rfl rfl ?_))))))))))))
          refine rn (AtX.in_normal (al [5, 17, 18] [0] rfl rfl rfl (sq (cr [0, 1] rfl (q1 rfl (z0g (mv rfl) ct) (q1 rfl (z0 (mv rfl)) (rn ?_)))))))
          exact AtX.to (ih120 ((W (v118 + 1)), (v119 && ((gt [0, 0, 0, v2.fNumber, 0, v2.fTo, 0, v2.fDest, v2.fClass, v2.fWeight, v2.fAmount] v118) == 0))) h) [0] (sl rfl) (ol rfl) rfl
         ·
          refine z2.exit (AtX.then_exit (AtX.then_exit (AtX.in_hit ?_)))
          exact AtX.to (hJ106 v119 h) [0] (sl rfl) (ol rfl) rfl
       ·
        refine cI h rfl (fun c128 h => ?_) (fun c128 h => ?_)
        ·
         refine ckE h fun h129 h => z2.draw (QR := [(0, _), (1, _), (2, _), (3, _), (4, _), (5, _), (6, _), (7, _), (8, _), (9, _), (10, _), (11, _), (12, _)]) (tab := [(some 26, []), (some 27, [0]), (some 28, [1]), (some 29, [2]), (some 30, [3]), (some 31, [4]), (some 32, []), (some 33, [6]), (some 34, [7]), (some 35, [8]), (some 36, [9]), (some 37, [5, 10]), (some 38, [11]), (none, [12, 0, 1, 2, 3, 4, 5, 6, 7, 8, 9, 10, 11, 12])]) (z5h H) (Reg.intro [13] [] (by kernel_rfl) rfl (an rfl) ⟨(qr rfl (z0 (mv rfl))), (qr rfl (z01 (mv rfl))), (qr rfl (z3 (zmb H) (mv rfl))), (qr rfl (z3 (zar H) (mv rfl))), (qr rfl (z3 (zat H) (mv rfl))), (qr rfl (lb (tl22 H) 0 (mv rfl) rfl rfl)), (qr rfl (z0 (mv rfl))), (qr rfl (z01 (mv rfl))), (qr rfl (z3 (zc2 H) (mv rfl))), (qr rfl (z3 (zc8 H) (mv rfl))), (qr rfl (lb (tl3 H) 0 (mv rfl) rfl rfl)), (qr rfl (zn (ix22 H) (mv rfl) (mv rfl) (h129).1 (z8 h129))), (qr rfl (ln (tl68 H) (Pt.rop (mv rfl)) rfl)), trivial⟩ ⟨⟨_, rfl, rfl, rfl, rfl, sto 1 (tl68 H) (mv rfl) (Ce.agg (mv rfl)) rfl rfl rfl rfl ⟨[], rfl, ?_⟩⟩, trivial⟩ ft)
         refine Reg.intro [] [0, 1, 2, 3, 4, 5, 6, 7, 8, 9, 10, 11, 12] (by kernel_rfl) rfl (an rfl) ⟨nf, nf, nf, nf, nf, nf, nf, nf, nf, nf, nf, nf, nf, trivial⟩ trivial (fun _ => ?_)
         exact AtX.to (hJ44 ((gt v1.fNetwork.fPlaces v2.fPlace).fKind, (gt v1.fNetwork.fPlaces v2.fPlace).fRailway, (gt v1.fNetwork.fPlaces v2.fPlace).fOther) h) [0, 1] (sl rfl) (ol rfl) rfl
        ·
         refine z2.skip ?_
         exact AtX.to (hJ44 (0, 0, 0) h) [0, 1] (sl rfl) (ol rfl) rfl
      ·
       cases h
     ·
      refine cI h rfl (fun c131 h => ?_) (fun c131 h => ?_)
      ·
       refine z2.skip ?_
       exact AtX.to (hJ24 (v2.fKind == 3) h) [0] (sl rfl) (ol rfl) rfl
      ·
       refine cr [0, 1] rfl (q1 rfl (z61 (mv rfl) ct) (q1 rfl (z1 (mv rfl)) (rn ?_)))
       exact AtX.to (hJ24 (v2.fKind == 4) h) [0] (sl rfl) (ol rfl) rfl
 ·
  cases h
theorem zbv {P : Program} (H : P = Try.prog) (φ : Nat) (v1 : Pool) (v2 : Item) (r : (Int)) (h : z8x φ v1 v2 = some r) : z0z P 21 [(agg (z2i v1)), (agg (zcm v2))] (fun x news => x = (iv .i64 r) ∧ news = []) := by
 unfold z8x at h
 refine z0z.of_code' 19 (fn21 H) rfl rfl (Nat.le_of_ble_eq_true rfl) fun w0 base r0 wI => ?_
 refine cl [0, 1] [] rfl rfl rfl (cs (cr [0, 1, 2] rfl (n1 rfl (z7i (Ce.agg (mv rfl)) fun b3 => n1 rfl (z7i (Ce.agg (mv rfl)) fun b4 => q1 rfl (z1 ct) (rn (al [2, 3] [0, 1] rfl rfl rfl (sq (cs (cs (cr [0, 1, 2] rfl ?_)))))))))))
 refine q1 rfl (ln (tl36 H) ((Pt.box 0 (mv rfl) rfl rfl).take 9 (cs' := (z2i v1)) rfl) rfl) (zp h fun y5 ey5 h => q1 rfl (oQ (zn7 H) (z8n H φ v1 _ ey5) z5 ⟨ef (mv rfl), trivial⟩) (q1 rfl (z1 (mv rfl)) (rn (al [2, 3, 4] [0, 1] rfl rfl rfl (sq (cs (cr [0, 1] rfl (q1 rfl (z0 (mv rfl)) (q1 rfl (z6g (mv rfl) ct) (rn ?_))))))))))
 refine al [2, 3, 4, 8] [0, 1] rfl rfl rfl (sq ?_)
 refine cI h rfl (fun c6 h => ?_) (fun c6 h => ?_)
 ·
  refine cs (cr [0, 1] rfl (q1 rfl (z0 (mv rfl)) (q1 rfl (z1 (mv rfl)) (rn (al [4] [] rfl rfl rfl (sq (z2.ret (AtX.then_ret (AtX.ret' (iv .i64 y5) (zq.one Try.results21 rfl) [] [] trivial rfl ?_)))))))))
  obtain rfl := Option.some.inj h
  exact ⟨rfl, rfl⟩
 ·
  refine z2.skip (al [2, 3] [0, 1] rfl rfl rfl (sq (cs (cs (cr [0, 1, 2, 3, 4, 5, 6, 7, 8] rfl (q1 rfl (ln (tl46 H) ((Pt.box 1 (mv rfl) rfl rfl).take 16 (cs' := (zcm v2)) rfl) rfl) (zp h fun y7 ey7 h => q1 rfl (oQ (zv2 H) (zgy H φ v2 _ ey7) z5 ⟨ef (mv rfl), trivial⟩) (q1 rfl (z79 (mv rfl)) (q1 rfl (z0 (mv rfl)) (g1 rfl rfl (fun g8 => ln (tl36 H) ((Pt.box 0 (mv rfl) rfl rfl).take 9 (cs' := (z2i v1)) rfl) rfl) ?_))))))))))
  refine g1 rfl rfl (fun g9 => ln (tl46 H) ((Pt.box 1 (mv rfl) rfl rfl).take 16 (cs' := (zcm v2)) rfl) rfl) (zp h fun y11 ey11 h => g1 rfl rfl (fun g10 => oQ (zwu H) (zkb H φ v1 v2 _ (zy ey11 g10)) z5 ⟨ef (mc rfl g10), ef (mc rfl g10), trivial⟩) (g1 rfl rfl (fun g12 => z79 (mc rfl g12)) (q1 rfl (opOr (mv rfl) ct (fun g13 => (mc rfl g13))) (rn (al [18] [] rfl rfl rfl (sq ?_))))))
  refine cI h rfl (fun c14 h => ?_) (fun c14 h => ?_)
  ·
   refine cs (cr [0] rfl (q1 rfl (z1 ct) (rn (al [4] [] rfl rfl rfl (sq (z2.ret (AtX.then_ret (AtX.ret' (iv .i64 110) (zq.one Try.results21 rfl) [] [] trivial rfl ?_))))))))
   obtain rfl := Option.some.inj h
   exact ⟨rfl, rfl⟩
  ·
   refine z2.skip (al [] [] rfl rfl rfl (sq (cs (cr [0] rfl (q1 rfl (z1 ct) (rn (al [4] [] rfl rfl rfl (sq (z2.ret (AtX.ret' (iv .i64 0) (zq.one Try.results21 rfl) [] [] trivial rfl ?_))))))))))
   obtain rfl := Option.some.inj h
   exact ⟨rfl, rfl⟩
theorem zaj {P : Program} (H : P = Try.prog) (φ : Nat) (v1 : Pool) (v2 : (List zo)) (v3 : Int) (r : ((List Int))) (h : z8t φ v1 v2 v3 = some r) : z0z P 39 [(agg (z2i v1)), (ro zm 21 v2), (iv .i64 v3)] (zk5 r) := by
 unfold z8t at h
 refine z0z.of_code' 35 (fn39 H) rfl rfl (Nat.le_of_ble_eq_true rfl) fun w0 base r0 wI => ?_
 refine cl [0, 1, 2] [] rfl rfl rfl (cs (z2.addNil 3 eI64 1 (cr [0, 1] rfl (n1 rfl (z7i (Ce.agg (mv rfl)) fun b4 => q1 rfl (z1 ct) (rn (al [1, 2, 3] [1] rfl rfl rfl (sq (cs (z2.addNil 3 eI64 1 (cr [0] rfl ?_)))))))))))
 refine q1 rfl (z1 ct) (rn (al [1, 2, 3, 7] [0, 1] rfl rfl rfl (sq (cs (cs (cr [0, 1, 2] rfl (q1 rfl (z0 (mv rfl)) (q1 rfl (z0x (il37 H) (mv rfl)) (q1 rfl (z0 ct) (rn (al [2, 3, 7, 10, 11, 12] [0, 1] rfl rfl rfl ?_)))))))))))
 refine sq ?_
 refine z2.join (fun z : (List Int) × Value => (z5x φ) z.1) r (fun z => ⟨zd.of [(7, (eqv z.2))], [(row 3 eI64 1 z.1 z.2)]⟩) (fun z h => ?_) (fun hJ7 => ?_)
 ·
  obtain ⟨v5, sv6⟩ := z
  replace h : (z5x φ) v5 = some r := h
  unfold z5x at h
  refine al [7] [0] rfl rfl rfl (sq (cs (cr [0, 1] rfl (q1 rfl (z0 (mv rfl)) (q1 rfl (z1 (mv rfl)) (rn (al [6] [0] rfl rfl rfl (sq (z2.ret (AtX.ret' (eqv sv6) (zq.one Try.results39 rfl) [0] [(row 3 eI64 1 v5 sv6)] (ol rfl) rfl ?_))))))))))
  obtain rfl := Option.some.inj h
  exact ⟨sv6, rfl, rfl⟩
 ·
  refine z2.block ?_
  refine z2.to (z2.loop (fun n (z : Int × (List Int) × Value) => z3y φ v1 v2 v3 (z5x φ) n z.1 z.2.1) r (fun z => ⟨zd.of [(2, (iv .i64 v3)), (3, (eqv (.pointer (some ⟨b4, 0, none⟩)))), (7, (eqv z.2.2)), (10, (ro zm 21 v2)), (11, (iv .i64 (v2.length : Int))), (12, (iv .i64 z.1))], [(box b4 36 (z2i v1)), (row 3 eI64 1 z.2.1 z.2.2)]⟩) (fun z => rfl) (fun n11 z ih11 h => ?_) φ (0, ([] : List Int), (Value.slice none 0 0)) h) [0, 1] (sl rfl) (ol rfl) rfl
  obtain ⟨v8, v9, sv10⟩ := z
  replace h : z3y φ v1 v2 v3 (z5x φ) (n11 + 1) v8 v9 = some r := h
  rw [z3y] at h
  refine cs (cr [0] rfl (q1 rfl (z10 (mv rfl) (mv rfl)) (rn (al [2, 3, 7, 10, 11, 12, 13] [0, 1] rfl rfl rfl (sq (cs ?_))))))
  refine cI h rfl (fun c12 h => ?_) (fun c12 h => ?_)
  ·
   refine z2.skip (al [2, 3, 7, 10, 11, 12] [0, 1] rfl rfl rfl (sq (cs (z2.block (cs (cr [0, 1, 2, 3, 4, 5] rfl (q1 rfl (z0 (mv rfl)) (ckE h fun h13 h => q1 rfl (zn (ix37 H) (mv rfl) (mv rfl) (h13).1 (z8 h13)) (q1 rfl (ln (tl48 H) (Pt.rop (mv rfl)) rfl) (n1 rfl (z38 _ (ze48 H) rfl fun b14 => ?_)))))))))))
   refine q1 rfl (z1 (mv rfl)) (n1 rfl (sto 2 (tl48 H) (mv rfl) (Ce.agg (mv rfl)) rfl rfl rfl rfl (rn (al [2, 3, 7, 8, 9, 10, 11, 12] [0, 1, 2] rfl rfl rfl (sq (cs (cr [0, 1, 2, 3, 4, 5, 6, 7, 8, 9, 10, 11] rfl (q1 rfl (z3 (z6x H) (mv rfl)) (q1 rfl (z3 (zgi H) (mv rfl)) (q1 rfl (lb (tl3 H) 2 (mv rfl) rfl rfl) (q1 rfl (z0 (mv rfl)) (q1 rfl (z61 (mv rfl) (mv rfl)) ?_))))))))))))
   refine q1 rfl (z0 (mv rfl)) (g1 rfl rfl (fun g15 => ln (tl36 H) ((Pt.box 0 (mv rfl) rfl rfl).take 9 (cs' := (z2i v1)) rfl) rfl) (g1 rfl rfl (fun g16 => z3 (z6x H) (mv rfl)) (g1 rfl rfl (fun g17 => ln (tl46 H) ((Pt.box 2 (mc rfl g17) rfl rfl).take 16 (cs' := (zcm (gt v2 v8).fItem)) rfl) rfl) (zp h fun y19 ey19 h => g1 rfl rfl (fun g18 => oQ (znb H) (zbv H φ v1 ((gt v2 v8).fItem) _ (zy ey19 g18)) z5 ⟨ef (mc rfl g18), ef (mc rfl g18), trivial⟩) (g1 rfl rfl (fun g20 => z61 (mc rfl g20) ct) (q1 rfl (z36 (mv rfl) (fun g21 => (mc rfl g21)) ct) (rn (al [2, 3, 7, 8, 10, 11, 12, 28] [0, 1] rfl rfl rfl (sq ?_)))))))))
   refine z2.join (fun z : (List Int) × Value => (z7z φ v8 (z3y φ v1 v2 v3 (z5x φ) n11)) z.1) r (fun z => ⟨zd.of [(2, (iv .i64 v3)), (3, (eqv (.pointer (some ⟨b4, 0, none⟩)))), (7, (eqv z.2)), (10, (ro zm 21 v2)), (11, (iv .i64 (v2.length : Int))), (12, (iv .i64 v8))], [(box b4 36 (z2i v1)), (row 3 eI64 1 z.1 z.2)]⟩) (fun z h => ?_) (fun hJ24 => ?_)
   ·
    obtain ⟨v22, sv23⟩ := z
    replace h : (z7z φ v8 (z3y φ v1 v2 v3 (z5x φ) n11)) v22 = some r := h
    unfold z7z at h
    refine AtX.in_normal (al [2, 3, 7, 10, 11, 12] [0, 1] rfl rfl rfl (sq (cr [0, 1] rfl (q1 rfl (z0g (mv rfl) ct) (q1 rfl (z0 (mv rfl)) (rn ?_))))))
    exact AtX.to (ih11 ((W (v8 + 1)), v22, sv23) h) [0, 1] (sl rfl) (ol rfl) rfl
   ·
    refine cI h rfl (fun c25 h => ?_) (fun c25 h => ?_)
    ·
     refine cr [0, 1, 2, 3, 4] rfl (q1 rfl (z0 (mv rfl)) (q1 rfl (z0 (mv rfl)) (n1 rfl (z2d (e := eI64) [v8] (sl96 H) lI64 rfl (by decide) ⟨rfl, (Ce.one (mv rfl) (One.eqv rfl)), trivial⟩ fun sv26 => ckE h fun h27 h => n1 rfl (zcj 1 (l := v9) (m := [v8]) (sl96 H) lI64 (mv rfl) rfl (Src.row 2 (mv rfl) rfl) h27 (zbz (by decide) h27) fun sv28 => q1 rfl (z1 (mv rfl)) (rn ?_))))))
     exact AtX.to (hJ24 ((v9 ++ [v8]), sv28) h) [0, 1] (sl rfl) (ol rfl) rfl
    ·
     refine z2.skip ?_
     exact AtX.to (hJ24 (v9, sv10) h) [0, 1] (sl rfl) (ol rfl) rfl
  ·
   refine z2.exit (AtX.then_exit (AtX.then_exit (AtX.in_hit ?_)))
   exact AtX.to (hJ7 (v9, sv10) h) [1] (sl rfl) (ol rfl) rfl
theorem zg8 {P : Program} (H : P = Try.prog) (φ : Nat) (v1 : Int) (r : (Bool)) (h : zdf φ v1 = some r) : z0z P 56 [(iv .i64 v1)] (fun x news => x = (bv r) ∧ news = []) := by
 unfold zdf at h
 refine z0z.of_code' 6 (fn56 H) rfl rfl (Nat.le_of_ble_eq_true rfl) fun w0 base r0 wI => ?_
 refine cl [0] [] rfl rfl rfl (cs (cr [0] rfl (q1 rfl (z1 ct) (rn (al [0] [] rfl rfl rfl (sq (cs (cr [0, 1, 2, 3] rfl (q1 rfl (z0 (mv rfl)) (q1 rfl (z0 (mv rfl)) (q1 rfl (z6g (mv rfl) (mv rfl)) ?_)))))))))))
 refine q1 rfl (z1 (mv rfl)) (rn (al [2] [] rfl rfl rfl (sq (z2.ret (AtX.ret' (bv (v1 != v1)) (zq.one Try.results56 rfl) [] [] trivial rfl ?_)))))
 obtain rfl := Option.some.inj h
 exact ⟨rfl, rfl⟩
theorem z8j {P : Program} (H : P = Try.prog) (φ : Nat) (v1 : Int) (v2 : Int) (r : (Int)) (h : z6z φ v1 v2 = some r) : z0z P 35 [(iv .i64 v1), (iv .i64 v2)] (fun x news => x = (iv .i64 r) ∧ news = []) := by
 unfold z6z at h
 refine z0z.of_code' 20 (fn35 H) rfl rfl (Nat.le_of_ble_eq_true rfl) fun w0 base r0 wI => ?_
 refine cl [0, 1] [] rfl rfl rfl (cs (cr [0] rfl (q1 rfl (z1 ct) (rn (al [0, 1] [] rfl rfl rfl (sq (cs (cr [0, 1, 2] rfl (q1 rfl (z0 (mv rfl)) (zp h fun y3 ey3 h => q1 rfl (oQ (zs4 H) (zg8 H φ v1 _ ey3) z5 ⟨ef (mv rfl), trivial⟩) ?_))))))))))
 refine q1 rfl (z1 (mv rfl)) (rn (al [0, 1, 5] [] rfl rfl rfl (sq (cs (cr [0, 1, 2] rfl (q1 rfl (z0 (mv rfl)) (zp h fun y4 ey4 h => q1 rfl (oQ (zs4 H) (zg8 H φ v2 _ ey4) z5 ⟨ef (mv rfl), trivial⟩) (q1 rfl (z1 (mv rfl)) (rn (al [0, 1, 5, 6] [] rfl rfl rfl ?_))))))))))
 refine sq (cs (cs (cr [0] rfl (q1 rfl (z0 (mv rfl)) (rn (al [0, 1, 6, 11] [] rfl rfl rfl (sq ?_)))))))
 refine cI h rfl (fun c5 h => ?_) (fun c5 h => ?_)
 ·
  refine cs (cs (cr [0] rfl (q1 rfl (z0 (mv rfl)) (rn (al [12] [] rfl rfl rfl (sq ?_))))))
  refine cI h rfl (fun c6 h => ?_) (fun c6 h => ?_)
  ·
   refine cs (cr [0] rfl (q1 rfl (z1 ct) (rn (al [4] [] rfl rfl rfl (sq (z2.ret (AtX.then_ret (AtX.then_ret (AtX.ret' (iv .i64 0) (zq.one Try.results35 rfl) [] [] trivial rfl ?_)))))))))
   obtain rfl := Option.some.inj h
   exact ⟨rfl, rfl⟩
  ·
   refine z2.skip (al [] [] rfl rfl rfl (sq (cs (cr [0] rfl (q1 rfl (z1 ct) (rn (al [4] [] rfl rfl rfl (sq (z2.ret (AtX.then_ret (AtX.ret' (iv .i64 (-1)) (zq.one Try.results35 rfl) [] [] trivial rfl ?_)))))))))))
   obtain rfl := Option.some.inj h
   exact ⟨rfl, rfl⟩
 ·
  refine z2.skip (al [0, 1, 6] [] rfl rfl rfl (sq (cs (cs (cr [0] rfl (q1 rfl (z0 (mv rfl)) (rn (al [0, 1, 13] [] rfl rfl rfl (sq ?_)))))))))
  refine cI h rfl (fun c7 h => ?_) (fun c7 h => ?_)
  ·
   refine cs (cr [0] rfl (q1 rfl (z1 ct) (rn (al [4] [] rfl rfl rfl (sq (z2.ret (AtX.then_ret (AtX.ret' (iv .i64 1) (zq.one Try.results35 rfl) [] [] trivial rfl ?_))))))))
   obtain rfl := Option.some.inj h
   exact ⟨rfl, rfl⟩
  ·
   refine z2.skip (al [0, 1] [] rfl rfl rfl (sq (cs (cs (cr [0, 1, 2] rfl (q1 rfl (z0 (mv rfl)) (q1 rfl (z0 (mv rfl)) (q1 rfl (z10 (mv rfl) (mv rfl)) (rn (al [0, 1, 16] [] rfl rfl rfl (sq ?_)))))))))))
   refine cI h rfl (fun c8 h => ?_) (fun c8 h => ?_)
   ·
    refine cs (cr [0] rfl (q1 rfl (z1 ct) (rn (al [4] [] rfl rfl rfl (sq (z2.ret (AtX.then_ret (AtX.ret' (iv .i64 (-1)) (zq.one Try.results35 rfl) [] [] trivial rfl ?_))))))))
    obtain rfl := Option.some.inj h
    exact ⟨rfl, rfl⟩
   ·
    refine z2.skip (al [0, 1] [] rfl rfl rfl (sq (cs (cs (cr [0, 1, 2] rfl (q1 rfl (z0 (mv rfl)) (q1 rfl (z0 (mv rfl)) (q1 rfl (z49 (mv rfl) (mv rfl)) (rn (al [19] [] rfl rfl rfl (sq ?_)))))))))))
    refine cI h rfl (fun c9 h => ?_) (fun c9 h => ?_)
    ·
     refine cs (cr [0] rfl (q1 rfl (z1 ct) (rn (al [4] [] rfl rfl rfl (sq (z2.ret (AtX.then_ret (AtX.ret' (iv .i64 1) (zq.one Try.results35 rfl) [] [] trivial rfl ?_))))))))
     obtain rfl := Option.some.inj h
     exact ⟨rfl, rfl⟩
    ·
     refine z2.skip (al [] [] rfl rfl rfl (sq (cs (cr [0] rfl (q1 rfl (z1 ct) (rn (al [4] [] rfl rfl rfl (sq (z2.ret (AtX.ret' (iv .i64 0) (zq.one Try.results35 rfl) [] [] trivial rfl ?_))))))))))
     obtain rfl := Option.some.inj h
     exact ⟨rfl, rfl⟩
theorem zey {P : Program} (H : P = Try.prog) (φ : Nat) (v1 : (List Int)) (r : (Int)) (h : zf2 φ v1 = some r) : z0z P 34 [(ro eI64 1 v1)] (fun x news => x = (iv .i64 r) ∧ news = []) := by
 unfold zf2 at h
 refine z0z.of_code' 18 (fn34 H) rfl rfl (Nat.le_of_ble_eq_true rfl) fun w0 base r0 wI => ?_
 refine cl [0] [] rfl rfl rfl (cs (cr [0] rfl (q1 rfl (z1 ct) (rn (al [0] [] rfl rfl rfl (sq (cs (cr [0] rfl (q1 rfl (z1 ct) (rn (al [0, 3] [] rfl rfl rfl ?_)))))))))))
 refine sq (cs (cs (cr [0, 1, 2] rfl (q1 rfl (z0 (mv rfl)) (q1 rfl (z0x (il96 H) (mv rfl)) (q1 rfl (z0 ct) (rn (al [3, 6, 7, 8] [] rfl rfl rfl (sq ?_)))))))))
 refine z2.join (fun z : Unit => (zbp φ)) r (fun z => ⟨zd.of [(3, (iv .i64 0))], []⟩) (fun z h => ?_) (fun hJ2 => ?_)
 ·
  replace h : (zbp φ) = some r := h
  unfold zbp at h
  refine al [3] [] rfl rfl rfl (sq (cs (cr [0, 1] rfl (q1 rfl (z0 (mv rfl)) (q1 rfl (z1 (mv rfl)) (rn (al [2] [] rfl rfl rfl (sq (z2.ret (AtX.ret' (iv .i64 0) (zq.one Try.results34 rfl) [] [] trivial rfl ?_))))))))))
  obtain rfl := Option.some.inj h
  exact ⟨rfl, rfl⟩
 ·
  refine z2.block ?_
  refine z2.to (z2.loop (fun n (z : Int) => zbc φ v1 (zbp φ) n z) r (fun z => ⟨zd.of [(3, (iv .i64 0)), (6, (ro eI64 1 v1)), (7, (iv .i64 (v1.length : Int))), (8, (iv .i64 z))], []⟩) (fun z => rfl) (fun n4 v3 ih4 h => ?_) φ 0 h) [] (sl rfl) trivial rfl
  replace h : zbc φ v1 (zbp φ) (n4 + 1) v3 = some r := h
  rw [zbc] at h
  refine cs (cr [0] rfl (q1 rfl (z10 (mv rfl) (mv rfl)) (rn (al [3, 6, 7, 8, 9] [] rfl rfl rfl (sq (cs ?_))))))
  refine cI h rfl (fun c5 h => ?_) (fun c5 h => ?_)
  ·
   refine z2.skip (al [3, 6, 7, 8] [] rfl rfl rfl (sq (cs (z2.block (cs (cr [0, 1, 2] rfl (ckE h fun h6 h => q1 rfl (zn (ix96 H) (mv rfl) (mv rfl) (h6).1 (z8 h6)) (q1 rfl (lr (tl3 H) (mv rfl)) (q1 rfl (z1 (mv rfl)) (rn ?_))))))))))
   refine al [3, 5, 6, 7, 8] [] rfl rfl rfl (sq (cs (cr [0, 1, 2] rfl (q1 rfl (z0 (mv rfl)) (q1 rfl (z0 (mv rfl)) (q1 rfl (z6g (mv rfl) (mv rfl)) (rn (al [3, 5, 6, 7, 8, 14] [] rfl rfl rfl (sq ?_)))))))))
   refine cI h rfl (fun c7 h => ?_) (fun c7 h => ?_)
   ·
    refine cs (cr [0, 1] rfl (q1 rfl (z0 (mv rfl)) (q1 rfl (z1 (mv rfl)) (rn (al [2] [] rfl rfl rfl (sq (z2.ret (AtX.in_ret (AtX.then_ret (AtX.then_ret (AtX.in_ret ?_)))))))))))
    refine AtX.then_ret (AtX.ret' (iv .i64 (gt v1 v3)) (zq.one Try.results34 rfl) [] [] trivial rfl ?_)
    obtain rfl := Option.some.inj h
    exact ⟨rfl, rfl⟩
   ·
    refine z2.skip (AtX.in_normal (al [3, 6, 7, 8] [] rfl rfl rfl (sq (cr [0, 1] rfl (q1 rfl (z0g (mv rfl) ct) (q1 rfl (z0 (mv rfl)) (rn ?_)))))))
    exact AtX.to (ih4 (W (v3 + 1)) h) [] (sl rfl) trivial rfl
  ·
   refine z2.exit (AtX.then_exit (AtX.then_exit (AtX.in_hit ?_)))
   exact AtX.to (hJ2 () h) [] (sl rfl) trivial rfl
theorem z98 {P : Program} (H : P = Try.prog) (φ : Nat) (v1 : Ref) (v2 : Ref) (r : (Int)) (h : z43 φ v1 v2 = some r) : z0z P 36 [(agg (eRef v1)), (agg (eRef v2))] (fun x news => x = (iv .i64 r) ∧ news = []) := by
 unfold z43 at h
 refine z0z.of_code' 17 (fn36 H) rfl rfl (Nat.le_of_ble_eq_true rfl) fun w0 base r0 wI => ?_
 refine cl [0, 1] [] rfl rfl rfl (cs (cr [0, 1, 2] rfl (n1 rfl (z7i (Ce.agg (mv rfl)) fun b3 => n1 rfl (z7i (Ce.agg (mv rfl)) fun b4 => q1 rfl (z1 ct) (rn (al [2, 3] [0, 1] rfl rfl rfl (sq (cs (zp h fun y5 ey5 h => zp h fun y6 ey6 h => ?_))))))))))
 refine zp h fun y10 ey10 h => z2.draw (QR := [(0, _), (1, _), (2, _), (3, _), (4, _), (5, _), (6, _), (7, _), (8, _), (9, _)]) (tab := [(some 5, []), (some 6, [0]), (some 7, []), (some 8, [2]), (some 9, [1, 3]), (some 10, []), (some 11, [5]), (some 12, []), (some 13, [7]), (some 14, [6, 8, 4]), (some 15, [4, 9]), (some 16, [10, 9]), (some 4, [11, 11, 0, 1, 2, 3, 4, 5, 6, 7, 8, 9, 10, 11])]) (z5h H) (Reg.intro [10] [] (by kernel_rfl) rfl (an rfl) ⟨(qr rfl (z3 (zaq H) (mv rfl))), (qr rfl (lb (tl3 H) 0 (mv rfl) rfl rfl)), (qr rfl (z3 (zaq H) (mv rfl))), (qr rfl (lb (tl3 H) 1 (mv rfl) rfl rfl)), (qr rfl (oQ (zji H) (z8j H φ v1.fRailway v2.fRailway _ ey5) z5 ⟨ef (mv rfl), ef (mv rfl), trivial⟩)), (qr rfl (z3 (zjw H) (mv rfl))), (qr rfl (lb (tl3 H) 0 (mv rfl) rfl rfl)), (qr rfl (z3 (zjw H) (mv rfl))), (qr rfl (lb (tl3 H) 1 (mv rfl) rfl rfl)), (qr rfl (oQ (zji H) (z8j H φ v1.fNo v2.fNo _ ey6) z5 ⟨ef (mv rfl), ef (mv rfl), trivial⟩)), trivial⟩ ⟨⟨_, rfl, rfl, rfl, rfl, z2d (e := eI64) [y5, y6] (sl96 H) lI64 rfl (by decide) ⟨rfl, (Ce.one (mv rfl) (One.eqv rfl)), ⟨rfl, (Ce.one (mv rfl) (One.eqv rfl)), trivial⟩⟩ fun sv9 => ⟨[(11, (iv .i64 y10)), (12, (iv .i64 y10))], rfl, ?_⟩⟩, trivial⟩ ft)
 refine Reg.intro [] [0, 1, 2, 3, 4, 5, 6, 7, 8, 9] (by kernel_rfl) rfl (an rfl) ⟨nf, nf, nf, nf, nf, nf, nf, nf, nf, nf, (qr rfl (oQ (znl H) (zey H φ [y5, y6] _ ey10) z5 ⟨EvF.of (mv rfl) (FEnt.row 2 lI64 rfl), trivial⟩)), (qr rfl (z1 (mv rfl))), trivial⟩ trivial (fun _ => al [4] [] rfl rfl rfl (sq (z2.ret (AtX.ret' (iv .i64 y10) (zq.one Try.results36 rfl) [] [] trivial rfl ?_))))
 obtain rfl := Option.some.inj h
 exact ⟨rfl, rfl⟩
theorem z75 {P : Program} (H : P = Try.prog) (φ : Nat) (v1 : (List Int)) (v3 : Int) (v4 : Int) (y5 : (Int → Int → Option Int)) (sv2 : Value) (r : (List Int)) (h : z1v φ v1 v3 v4 y5 = some r) : MutT P 92 [(eqv sv2), (iv .i64 v3), (iv .i64 v4), (fcmp P (fun x => (iv .i64 x)) y5)] 3 eI64 1 v1 sv2 (fun x l' => x = eqv (.tuple #[]) ∧ r = l') := by
 unfold z1v at h
 refine MutT.of_code 53 (fn92 H) rfl rfl (Nat.le_of_ble_eq_true rfl) fun w0 base r0 wI => ?_
 refine cl [0, 1, 2, 3] [0] rfl rfl rfl (cs (cr [0, 1, 2] rfl (q1 rfl (z0 (Ev.tmp (A := (iv .i64 v3)) (by kernel_rfl))) (q1 rfl (z0g (Ev.tmp (A := (iv .i64 v3)) (by kernel_rfl)) ct) (q1 rfl (z1 (Ev.tmp (A := (iv .i64 (W (v3 + 1)))) (by kernel_rfl))) (rn (al [0, 1, 2, 3, 8] [0] rfl rfl rfl (sq (z2.block ?_)))))))))
 refine z2.to (z2.loop (fun n (z : Int × (List Int)) => zh φ v3 v4 y5 n z.1 z.2) r (fun z => ⟨zd.of [(0, (eqv sv2)), (1, (iv .i64 v3)), (2, (iv .i64 v4)), (3, (fcmp P (fun x => (iv .i64 x)) y5)), (8, (iv .i64 z.1))], [(row 3 eI64 1 z.2 sv2)]⟩) (fun z => rfl) (fun n8 z ih8 h => ?_) φ ((W (v3 + 1)), v1) h) [0] (sl rfl) (ol rfl) rfl
 obtain ⟨v6, v7⟩ := z
 replace h : zh φ v3 v4 y5 (n8 + 1) v6 v7 = some r := h
 rw [zh] at h
 refine cs (cs (cr [0, 1, 2] rfl (q1 rfl (z0 (mv rfl)) (q1 rfl (z0 (mv rfl)) (q1 rfl (z10 (mv rfl) (mv rfl)) (rn (al [0, 1, 2, 3, 8, 14] [0] rfl rfl rfl (sq ?_))))))))
 refine cI h rfl (fun c9 h => ?_) (fun c9 h => ?_)
 ·
  refine z2.skip (al [0, 1, 2, 3, 8] [0] rfl rfl rfl (sq (cs ?_)))
  refine z2.join (fun z : (List Int) => (z0i φ v6 (zh φ v3 v4 y5 n8)) z) r (fun z => ⟨zd.of [(0, (eqv sv2)), (1, (iv .i64 v3)), (2, (iv .i64 v4)), (3, (fcmp P (fun x => (iv .i64 x)) y5)), (8, (iv .i64 v6))], [(row 3 eI64 1 z sv2)]⟩) (fun v10 h => ?_) (fun hJ11 => ?_)
  ·
   replace h : (z0i φ v6 (zh φ v3 v4 y5 n8)) v10 = some r := h
   unfold z0i at h
   refine al [0, 1, 2, 3, 8] [0] rfl rfl rfl (sq (cr [0, 1, 2] rfl (q1 rfl (z0 (mv rfl)) (q1 rfl (z0g (mv rfl) ct) (q1 rfl (z1 (mv rfl)) (rn ?_))))))
   exact AtX.to (ih8 ((W (v6 + 1)), v10) h) [0] (sl rfl) (ol rfl) rfl
  ·
   refine z2.block (cs (cr [0, 1] rfl (q1 rfl (z0 (mv rfl)) (q1 rfl (z1 (mv rfl)) (rn (al [0, 1, 2, 3, 8, 9] [0] rfl rfl rfl (sq (z2.block ?_))))))))
   refine z2.to (z2.loop (fun n (z : Int × (List Int)) => z0l φ v3 y5 (z0i φ v6 (zh φ v3 v4 y5 n8)) n z.1 z.2) r (fun z => ⟨zd.of [(0, (eqv sv2)), (1, (iv .i64 v3)), (2, (iv .i64 v4)), (3, (fcmp P (fun x => (iv .i64 x)) y5)), (8, (iv .i64 v6)), (9, (iv .i64 z.1))], [(row 3 eI64 1 z.2 sv2)]⟩) (fun z => rfl) (fun n14 z ih14 h => ?_) φ (v6, v7) h) [0] (sl rfl) (ol rfl) rfl
   obtain ⟨v12, v13⟩ := z
   replace h : z0l φ v3 y5 (z0i φ v6 (zh φ v3 v4 y5 n8)) (n14 + 1) v12 v13 = some r := h
   rw [z0l] at h
   refine cs (cs (ckE h fun h19 h => ckE h fun h25 h => zp h fun y28 ey28 h => z2.draw (QR := [(0, _), (1, _), (2, _), (3, _), (4, _), (5, _), (6, _), (7, _), (8, _), (9, _), (10, _), (11, _), (12, _), (13, _), (14, _), (15, _), (16, _)]) (tab := [(some 18, []), (some 19, []), (some 20, [0, 1]), (some 21, [2]), (some 22, [3]), (some 23, [3]), (some 24, [3]), (some 25, [5, 6, 3]), (some 26, [7, 3]), (some 27, [3]), (some 28, [3]), (some 29, [10, 3]), (some 30, [9, 11, 3]), (some 31, [12, 3]), (some 32, [4, 8, 13, 3, 3]), (some 33, [14, 3]), (some 34, [3, 15])]) (z5h H) (Reg.intro [] [] (by kernel_rfl) rfl (an rfl) ⟨(qr rfl (z0 (mv rfl))), (qr rfl (z0 (mv rfl))), (qr rfl (z49 (mv rfl) (mv rfl))), (qr rfl (z0 (mv rfl))), (qr rfl ⟨(decide (v3 < v12) = true), (fcmp P (fun x => (iv .i64 x)) y5), 21, rfl, rfl, fun g15 => (z0 (mv rfl)), .inl ⟨(decide (v3 < v12)), rfl, rfl⟩⟩), (qr rfl ⟨(decide (v3 < v12) = true), (eqv sv2), 21, rfl, rfl, fun g16 => (z0 (mv rfl)), .inl ⟨(decide (v3 < v12)), rfl, rfl⟩⟩), (qr rfl ⟨(decide (v3 < v12) = true), (iv .i64 v12), 21, rfl, rfl, fun g17 => (z0 (mv rfl)), .inl ⟨(decide (v3 < v12)), rfl, rfl⟩⟩), (qr rfl ⟨(decide (v3 < v12) = true), (rowp sv2 ((v12 : Int).toNat * 1)), 21, rfl, rfl, fun g18 => (zb 0 (ix96 H) (mc rfl g18) rfl (mc rfl g18) ((h19 g18)).1 ((h19 g18)).2), .inl ⟨(decide (v3 < v12)), rfl, rfl⟩⟩), (qr rfl ⟨(decide (v3 < v12) = true), (iv .i64 (gt v13 v12)), 21, rfl, rfl, fun g20 => (z2g (tl3 H) ((Pt.row _ 0 (k := (v12 : Int).toNat) (fo := 0) lI64 (mc rfl g20) rfl (by omega) (z8 (h19 g20)) rfl).take 1 (cs' := [(iv .i64 (gt v13 v12))]) rfl)), .inl ⟨(decide (v3 < v12)), rfl, rfl⟩⟩), (qr rfl ⟨(decide (v3 < v12) = true), (eqv sv2), 21, rfl, rfl, fun g21 => (z0 (mv rfl)), .inl ⟨(decide (v3 < v12)), rfl, rfl⟩⟩), (qr rfl ⟨(decide (v3 < v12) = true), (iv .i64 v12), 21, rfl, rfl, fun g22 => (z0 (mv rfl)), .inl ⟨(decide (v3 < v12)), rfl, rfl⟩⟩), (qr rfl ⟨(decide (v3 < v12) = true), (iv .i64 (W (v12 - 1))), 21, rfl, rfl, fun g23 => (z2f (mc rfl g23) ct), .inl ⟨(decide (v3 < v12)), rfl, rfl⟩⟩), (qr rfl ⟨(decide (v3 < v12) = true), (rowp sv2 (((W (v12 - 1)) : Int).toNat * 1)), 21, rfl, rfl, fun g24 => (zb 0 (ix96 H) (mc rfl g24) rfl (mc rfl g24) ((h25 g24)).1 ((h25 g24)).2), .inl ⟨(decide (v3 < v12)), rfl, rfl⟩⟩), (qr rfl ⟨(decide (v3 < v12) = true), (iv .i64 (gt v13 (W (v12 - 1)))), 21, rfl, rfl, fun g26 => (z2g (tl3 H) ((Pt.row _ 0 (k := ((W (v12 - 1)) : Int).toNat) (fo := 0) lI64 (mc rfl g26) rfl (by omega) (z8 (h25 g26)) rfl).take 1 (cs' := [(iv .i64 (gt v13 (W (v12 - 1))))]) rfl)), .inl ⟨(decide (v3 < v12)), rfl, rfl⟩⟩), (qr rfl ⟨(decide (v3 < v12) = true), (iv .i64 y28), 21, rfl, rfl, fun g27 => (zaz (mc rfl g27) (mc rfl g27) (mc rfl g27) (zy ey28 g27)), .inl ⟨(decide (v3 < v12)), rfl, rfl⟩⟩), (qr rfl ⟨(decide (v3 < v12) = true), (bv (decide (y28 < 0))), 21, rfl, rfl, fun g29 => (z10 (mc rfl g29) ct), .inl ⟨(decide (v3 < v12)), rfl, rfl⟩⟩), (qr rfl (z36 (mv rfl) (fun g30 => (mc rfl g30)) ct)), trivial⟩ trivial (fun _ => ?_))))
   refine al [0, 1, 2, 3, 8, 9, 34] [0] rfl rfl rfl (sq ?_)
   refine cI h rfl (fun c31 h => ?_) (fun c31 h => ?_)
   ·
    refine z2.skip (al [0, 1, 2, 3, 8, 9] [0] rfl rfl rfl (sq (cs (z2.block (ckE h fun h32 h => ckE h fun h33 h => ckE h fun h35 h => z2.draw (QR := [(0, (eqv sv2)), (1, (iv .i64 v12)), (2, (eqv sv2)), (3, (iv .i64 v12)), (4, (iv .i64 (W (v12 - 1)))), (5, (eqv sv2)), (6, (iv .i64 v12)), (7, (iv .i64 (W (v12 - 1)))), (8, (rowp sv2 (((W (v12 - 1)) : Int).toNat * 1))), (9, (iv .i64 (gt v13 (W (v12 - 1))))), (10, (eqv sv2)), (11, (iv .i64 v12)), (12, (rowp sv2 ((v12 : Int).toNat * 1))), (13, (iv .i64 (gt v13 v12))), (14, (rowp sv2 ((v12 : Int).toNat * 1)))]) (tab := [(some 37, []), (some 38, []), (some 39, []), (some 40, []), (some 41, [3]), (some 42, []), (some 43, []), (some 44, [6]), (some 45, [5, 7]), (some 46, [8]), (some 47, []), (some 48, []), (some 49, [10, 11]), (some 50, [12]), (some 51, [0, 1, 0, 1, 5, 6, 7, 8, 9, 13]), (none, [14, 9, 0, 1, 5, 6, 7, 8, 9, 13]), (some 52, [2, 4, 0, 1, 2, 3, 4, 5, 6, 7, 8, 9, 10, 11, 12, 13, 14, 15]), (none, [16, 13, 15, 0, 1, 2, 3, 4, 5, 6, 7, 8, 9, 10, 11, 12, 13, 14, 15])]) (z5h H) (Reg.intro [15] [] (by kernel_rfl) rfl (an rfl) ⟨(qr rfl (z0 (mv rfl))), (qr rfl (z0 (mv rfl))), (qr rfl (z0 (mv rfl))), (qr rfl (z0 (mv rfl))), (qr rfl (z2f (mv rfl) ct)), (qr rfl (z0 (mv rfl))), (qr rfl (z0 (mv rfl))), (qr rfl (z2f (mv rfl) ct)), (qr rfl (zb 0 (ix96 H) (mv rfl) rfl (mv rfl) (h32).1 (h32).2)), (qr rfl (z2g (tl3 H) ((Pt.row _ 0 (k := ((W (v12 - 1)) : Int).toNat) (fo := 0) lI64 (mv rfl) rfl (by omega) (z8 h32) rfl).take 1 (cs' := [(iv .i64 (gt v13 (W (v12 - 1))))]) rfl))), (qr rfl (z0 (mv rfl))), (qr rfl (z0 (mv rfl))), (qr rfl (zb 0 (ix96 H) (mv rfl) rfl (mv rfl) (h33).1 (h33).2)), (qr rfl (z2g (tl3 H) ((Pt.row _ 0 (k := (v12 : Int).toNat) (fo := 0) lI64 (mv rfl) rfl (by omega) (z8 h33) rfl).take 1 (cs' := [(iv .i64 (gt v13 v12))]) rfl))), (qr rfl (zb 0 (ix96 H) (mv rfl) rfl (mv rfl) (h33).1 (h33).2)), trivial⟩ ⟨⟨_, rfl, rfl, rfl, rfl, z3s 0 (k := (v12 : Int).toNat) (fo := 0) (z' := (gt v13 (W (v12 - 1)))) (cs := [(iv .i64 (gt v13 (W (v12 - 1))))]) lI64 (tl3 H) (mv rfl) (Ce.one (mv rfl) (One.eqv rfl)) rfl rfl (by omega) (z8 h33) (Nat.le_of_ble_eq_true rfl) rfl ⟨[(16, (rowp sv2 (((W (v12 - 1)) : Int).toNat * 1)))], rfl, ?_⟩⟩, trivial⟩ ft))))))
    refine Reg.intro [17] [0, 1, 5, 6, 7, 8, 9, 10, 11, 12, 13, 14] (by kernel_rfl) rfl (an rfl) ⟨nf, nf, (qr rfl (z0 (mv rfl))), (qr rfl (z0 (mv rfl))), (qr rfl (z2f (mv rfl) ct)), nf, nf, nf, nf, nf, nf, nf, nf, nf, nf, (qr rfl (zb 0 (ix96 H) (mv rfl) rfl (mv rfl) (h35).1 (h35).2)), trivial⟩ ⟨⟨_, rfl, rfl, rfl, rfl, z3s 0 (k := ((W (v12 - 1)) : Int).toNat) (fo := 0) (z' := (gt v13 v12)) (cs := [(iv .i64 (gt v13 v12))]) lI64 (tl3 H) (mv rfl) (Ce.one (mv rfl) (One.eqv rfl)) rfl rfl (by omega) (z8 h35) (Nat.le_of_ble_eq_true rfl) rfl ⟨[], rfl, ?_⟩⟩, trivial⟩ ft
    refine Reg.intro [] [0, 1, 2, 3, 4, 5, 6, 7, 8, 9, 10, 11, 12, 13, 14, 16] (by kernel_rfl) rfl (an rfl) ⟨nf, nf, nf, nf, nf, nf, nf, nf, nf, nf, nf, nf, nf, nf, nf, nf, trivial⟩ trivial (fun _ => AtX.in_normal (al [0, 1, 2, 3, 8, 9] [0] rfl rfl rfl (sq (cr [0, 1, 2] rfl (q1 rfl (z0 (mv rfl)) (q1 rfl (z2f (mv rfl) ct) (q1 rfl (z1 (mv rfl)) (rn ?_))))))))
    exact AtX.to (ih14 ((W (v12 - 1)), (z2o (z2o v13 v12 (gt v13 (W (v12 - 1)))) (W (v12 - 1)) (gt v13 v12))) h) [0] (sl rfl) (ol rfl) rfl
   ·
    refine z2.exit (AtX.then_exit (AtX.then_exit (AtX.in_hit (AtX.in_normal ?_))))
    exact AtX.to (hJ11 v13 h) [0] (sl rfl) (ol rfl) rfl
 ·
  refine z2.exit (AtX.then_exit (AtX.then_exit (AtX.in_hit (AtX.fall' (eqv (.tuple #[])) (zq.zero Try.results92) [0] [(row 3 eI64 1 v7 sv2)] (ol rfl) rfl ?_))))
  obtain rfl := Option.some.inj h
  exact ⟨_, rfl, rfl, rfl⟩
theorem z5p {P : Program} (H : P = Try.prog) (φ : Nat) (v1 : (List Int)) (v3 : Int) (v4 : Int) (v5 : Int) (y6 : (Int → Int → Option Int)) (sv2 : Value) (r : (List Int)) (h : z2r φ v1 v3 v4 v5 y6 = some r) : MutT P 104 [(eqv sv2), (iv .i64 v3), (iv .i64 v4), (iv .i64 v5), (fcmp P (fun x => (iv .i64 x)) y6)] 3 eI64 1 v1 sv2 (fun x l' => x = eqv (.tuple #[]) ∧ r = l') := by
 unfold z2r at h
 refine MutT.of_code 38 (zxp H) rfl rfl (Nat.le_of_ble_eq_true rfl) fun w0 base r0 wI => ?_
 refine cl [0, 1, 2, 3] [0] rfl rfl rfl (cs (cr [0] rfl (q1 rfl (z1 ct) (rn (al [0, 1, 2, 3, 10] [0] rfl rfl rfl (sq (z2.block ?_)))))))
 refine z2.to (z2.loop (fun n (z : Int × (List Int)) => z1i φ v3 v4 v5 n z.1 z.2) r (fun z => ⟨zd.of [(0, (eqv sv2)), (1, (iv .i64 v3)), (2, (iv .i64 v4)), (3, (iv .i64 v5)), (10, (iv .i64 z.1))], [(row 3 eI64 1 z.2 sv2)]⟩) (fun z => rfl) (fun n9 z ih9 h => ?_) φ (0, v1) h) [0] (sl rfl) (ol rfl) rfl
 obtain ⟨v7, v8⟩ := z
 replace h : z1i φ v3 v4 v5 (n9 + 1) v7 v8 = some r := h
 rw [z1i] at h
 refine cs (cs (cr [0, 1, 2] rfl (q1 rfl (z0 (mv rfl)) (q1 rfl (z0 (mv rfl)) (q1 rfl (z10 (mv rfl) (mv rfl)) (rn (al [0, 1, 2, 3, 10, 13] [0] rfl rfl rfl (sq ?_))))))))
 refine cI h rfl (fun c10 h => ?_) (fun c10 h => ?_)
 ·
  refine z2.skip (al [0, 1, 2, 3, 10] [0] rfl rfl rfl (sq (cs (z2.block (ckE h fun h11 h => ckE h fun h12 h => ckE h fun h14 h => z2.draw (QR := [(0, _), (1, _), (2, _), (3, _), (4, _), (5, _), (6, _), (7, _), (8, _), (9, _), (10, _), (11, _), (12, _), (13, _), (14, _), (15, _), (16, _), (17, _), (18, _), (19, _), (20, _)]) (tab := [(some 16, []), (some 17, []), (some 18, []), (some 19, [1, 2]), (some 20, []), (some 21, []), (some 22, []), (some 23, [5, 6]), (some 24, []), (some 25, []), (some 26, []), (some 27, [9, 10]), (some 28, [8, 11]), (some 29, [12]), (some 30, []), (some 31, []), (some 32, []), (some 33, [15, 16]), (some 34, [14, 17]), (some 35, [18]), (some 36, [0, 3, 0, 1, 2, 3, 8, 9, 10, 11, 12, 13, 19]), (none, [20, 13, 0, 1, 2, 3, 8, 9, 10, 11, 12, 13, 19]), (some 37, [4, 7, 0, 1, 2, 3, 4, 5, 6, 7, 8, 9, 10, 11, 12, 13, 14, 15, 16, 17, 18, 19, 20, 21]), (none, [22, 19, 21, 0, 1, 2, 3, 4, 5, 6, 7, 8, 9, 10, 11, 12, 13, 14, 15, 16, 17, 18, 19, 20, 21])]) (z5h H) (Reg.intro [21] [] (by kernel_rfl) rfl (an rfl) ⟨(qr rfl (z0 (Ev.tmp (A := (eqv sv2)) (by kernel_rfl)))), (qr rfl (z0 (Ev.tmp (A := (iv .i64 v3)) (by kernel_rfl)))), (qr rfl (z0 (Ev.tmp (A := (iv .i64 v7)) (by kernel_rfl)))), (qr rfl (z0g (Ev.tmp (A := (iv .i64 v3)) (by kernel_rfl)) (Ev.tmp (A := (iv .i64 v7)) (by kernel_rfl)))), (qr rfl (z0 (Ev.tmp (A := (eqv sv2)) (by kernel_rfl)))), (qr rfl (z0 (Ev.tmp (A := (iv .i64 v4)) (by kernel_rfl)))), (qr rfl (z0 (Ev.tmp (A := (iv .i64 v7)) (by kernel_rfl)))), (qr rfl (z0g (Ev.tmp (A := (iv .i64 v4)) (by kernel_rfl)) (Ev.tmp (A := (iv .i64 v7)) (by kernel_rfl)))), (qr rfl (z0 (Ev.tmp (A := (eqv sv2)) (by kernel_rfl)))), (qr rfl (z0 (Ev.tmp (A := (iv .i64 v4)) (by kernel_rfl)))), (qr rfl (z0 (Ev.tmp (A := (iv .i64 v7)) (by kernel_rfl)))), (qr rfl (z0g (Ev.tmp (A := (iv .i64 v4)) (by kernel_rfl)) (Ev.tmp (A := (iv .i64 v7)) (by kernel_rfl)))), (qr rfl (zb 0 (ix96 H) (Ev.tmp (A := (eqv sv2)) (by kernel_rfl)) rfl (Ev.tmp (A := (iv .i64 (W (v4 + v7)))) (by kernel_rfl)) (h11).1 (h11).2)), (qr rfl (z2g (tl3 H) ((Pt.row _ 0 (k := ((W (v4 + v7)) : Int).toNat) (fo := 0) lI64 (Ev.tmp (A := (rowp sv2 (((W (v4 + v7)) : Int).toNat * 1))) (by kernel_rfl)) rfl (by omega) (z8 h11) rfl).take 1 (cs' := [(iv .i64 (gt v8 (W (v4 + v7))))]) rfl))), (qr rfl (z0 (Ev.tmp (A := (eqv sv2)) (by kernel_rfl)))), (qr rfl (z0 (Ev.tmp (A := (iv .i64 v3)) (by kernel_rfl)))), (qr rfl (z0 (Ev.tmp (A := (iv .i64 v7)) (by kernel_rfl)))), (qr rfl (z0g (Ev.tmp (A := (iv .i64 v3)) (by kernel_rfl)) (Ev.tmp (A := (iv .i64 v7)) (by kernel_rfl)))), (qr rfl (zb 0 (ix96 H) (Ev.tmp (A := (eqv sv2)) (by kernel_rfl)) rfl (Ev.tmp (A := (iv .i64 (W (v3 + v7)))) (by kernel_rfl)) (h12).1 (h12).2)), (qr rfl (z2g (tl3 H) ((Pt.row _ 0 (k := ((W (v3 + v7)) : Int).toNat) (fo := 0) lI64 (Ev.tmp (A := (rowp sv2 (((W (v3 + v7)) : Int).toNat * 1))) (by kernel_rfl)) rfl (by omega) (z8 h12) rfl).take 1 (cs' := [(iv .i64 (gt v8 (W (v3 + v7))))]) rfl))), (qr rfl (zb 0 (ix96 H) (Ev.tmp (A := (eqv sv2)) (by kernel_rfl)) rfl (Ev.tmp (A := (iv .i64 (W (v3 + v7)))) (by kernel_rfl)) (h12).1 (h12).2)), trivial⟩ ⟨⟨_, rfl, rfl, rfl, rfl, z3s 0 (k := ((W (v3 + v7)) : Int).toNat) (fo := 0) (z' := (gt v8 (W (v4 + v7)))) (cs := [(iv .i64 (gt v8 (W (v4 + v7))))]) lI64 (tl3 H) (Ev.tmp (A := (rowp sv2 (((W (v3 + v7)) : Int).toNat * 1))) (by kernel_rfl)) (Ce.one (Ev.tmp (A := (iv .i64 (gt v8 (W (v4 + v7))))) (by kernel_rfl)) (One.eqv rfl)) rfl rfl (by omega) (z8 h12) (Nat.le_of_ble_eq_true rfl) rfl ⟨[(22, (rowp sv2 (((W (v4 + v7)) : Int).toNat * 1)))], rfl, ?_⟩⟩, trivial⟩ ft))))))
  refine Reg.intro [23] [0, 1, 2, 3, 8, 9, 10, 11, 12, 13, 14, 15, 16, 17, 18, 19, 20] (by kernel_rfl) rfl (an rfl) ⟨nf, nf, nf, nf, (qr rfl (z0 (Ev.tmp (A := (eqv sv2)) (by kernel_rfl)))), (qr rfl (z0 (Ev.tmp (A := (iv .i64 v4)) (by kernel_rfl)))), (qr rfl (z0 (Ev.tmp (A := (iv .i64 v7)) (by kernel_rfl)))), (qr rfl (z0g (Ev.tmp (A := (iv .i64 v4)) (by kernel_rfl)) (Ev.tmp (A := (iv .i64 v7)) (by kernel_rfl)))), nf, nf, nf, nf, nf, nf, nf, nf, nf, nf, nf, nf, nf, (qr rfl (zb 0 (ix96 H) (Ev.tmp (A := (eqv sv2)) (by kernel_rfl)) rfl (Ev.tmp (A := (iv .i64 (W (v4 + v7)))) (by kernel_rfl)) (h14).1 (h14).2)), trivial⟩ ⟨⟨_, rfl, rfl, rfl, rfl, z3s 0 (k := ((W (v4 + v7)) : Int).toNat) (fo := 0) (z' := (gt v8 (W (v3 + v7)))) (cs := [(iv .i64 (gt v8 (W (v3 + v7))))]) lI64 (tl3 H) (Ev.tmp (A := (rowp sv2 (((W (v4 + v7)) : Int).toNat * 1))) (by kernel_rfl)) (Ce.one (Ev.tmp (A := (iv .i64 (gt v8 (W (v3 + v7))))) (by kernel_rfl)) (One.eqv rfl)) rfl rfl (by omega) (z8 h14) (Nat.le_of_ble_eq_true rfl) rfl ⟨[], rfl, ?_⟩⟩, trivial⟩ ft
  refine Reg.intro [] [0, 1, 2, 3, 4, 5, 6, 7, 8, 9, 10, 11, 12, 13, 14, 15, 16, 17, 18, 19, 20, 22] (by kernel_rfl) rfl (an rfl) ⟨nf, nf, nf, nf, nf, nf, nf, nf, nf, nf, nf, nf, nf, nf, nf, nf, nf, nf, nf, nf, nf, nf, trivial⟩ trivial (fun _ => AtX.in_normal (al [0, 1, 2, 3, 10] [0] rfl rfl rfl (sq (cr [0, 1, 2] rfl (q1 rfl (z0 (mv rfl)) (q1 rfl (z0g (mv rfl) ct) (q1 rfl (z1 (mv rfl)) (rn ?_))))))))
  exact AtX.to (ih9 ((W (v7 + 1)), (z2o (z2o v8 (W (v3 + v7)) (gt v8 (W (v4 + v7)))) (W (v4 + v7)) (gt v8 (W (v3 + v7))))) h) [0] (sl rfl) (ol rfl) rfl
 ·
  refine z2.exit (AtX.then_exit (AtX.then_exit (AtX.in_hit (AtX.fall' (eqv (.tuple #[])) (zq.zero Try.results104) [0] [(row 3 eI64 1 v8 sv2)] (ol rfl) rfl ?_))))
  obtain rfl := Option.some.inj h
  exact ⟨_, rfl, rfl, rfl⟩
end Px
end
section
set_option linter.unusedVariables false
set_option linter.unusedSimpArgs false
set_option maxHeartbeats 4000000
set_option maxRecDepth 100000
namespace Px
open Go Go.RowKit Go.Proofs
theorem zb5 {P : Program} (H : P = Try.prog) (φ : Nat) (v1 : (List Int)) (v3 : Int) (v4 : Int) (v5 : Int) (y6 : (Int → Int → Option Int)) (sv2 : Value) (r : (List Int)) (h : z4p φ v1 v3 v4 v5 y6 = some r) : MutT P 98 [(eqv sv2), (iv .i64 v3), (iv .i64 v4), (iv .i64 v5), (fcmp P (fun x => (iv .i64 x)) y6)] 3 eI64 1 v1 sv2 (fun x l' => x = eqv (.tuple #[]) ∧ r = l') := by
 unfold z4p at h
 refine MutT.of_code 58 (fn98 H) rfl rfl (Nat.le_of_ble_eq_true rfl) fun w0 base r0 wI => ?_
 refine cl [0, 1, 2, 3, 4] [0] rfl rfl rfl (cs (cr [0, 1, 2, 3] rfl (q1 rfl (z0 (mv rfl)) (q1 rfl (z0 (mv rfl)) (q1 rfl (z2f (mv rfl) (mv rfl)) (q1 rfl (z1 (mv rfl)) (rn (al [0, 2, 3, 4, 10] [0] rfl rfl rfl (sq (cs (cr [0, 1, 2, 3] rfl ?_)))))))))))
 refine q1 rfl (z0 (mv rfl)) (q1 rfl (z0 (mv rfl)) (q1 rfl (z2f (mv rfl) (mv rfl)) (q1 rfl (z1 (mv rfl)) (rn (al [0, 2, 4, 10, 11] [0] rfl rfl rfl (sq (cs ?_)))))))
 refine z2.join (fun z : Int × (List Int) => (z1z φ v4 y6) z.1 z.2) r (fun z => ⟨zd.of [(0, (eqv sv2)), (2, (iv .i64 v4)), (4, (fcmp P (fun x => (iv .i64 x)) y6)), (10, (iv .i64 z.1))], [(row 3 eI64 1 z.2 sv2)]⟩) (fun z h => ?_) (fun hJ9 => ?_)
 ·
  obtain ⟨v7, v8⟩ := z
  replace h : (z1z φ v4 y6) v7 v8 = some r := h
  unfold z1z at h
  refine al [0, 2, 4, 10] [0] rfl rfl rfl (sq (cr [0, 1, 2, 3, 4, 5, 6, 7] rfl (q1 rfl (z0 (mv rfl)) (q1 rfl (z0 (mv rfl)) (q1 rfl (z0 (mv rfl)) (q1 rfl (z2f (mv rfl) (mv rfl)) (q1 rfl (z0 (mv rfl)) (q1 rfl (z0 (mv rfl)) (q1 rfl (z0 (mv rfl)) (zp h fun y10 ey10 h => n1 rfl (z3r 0 rfl (fun x => (z5m x).mem) (zmo H) (args := [(eqv sv2), (iv .i64 (W (v4 - v7))), (iv .i64 v4), (iv .i64 v7), (fcmp P (fun x => (iv .i64 x)) y6)]) ⟨(mv rfl), (mv rfl), (mv rfl), (mv rfl), (mv rfl), trivial⟩ (z5p H φ v8 (W (v4 - v7)) v4 v7 y6 sv2 _ ey10) fun x11 nw12 hk13 => ?_)))))))))))
  obtain ⟨rfl, rfl⟩ := hk13
  refine ⟨z5, ?_⟩
  refine rn (AtX.fall' (eqv (.tuple #[])) (zq.zero Try.results98) [0] [(row 3 eI64 1 y10 sv2)] (ol rfl) rfl ?_)
  obtain rfl := Option.some.inj h
  exact ⟨_, rfl, rfl, rfl⟩
 ·
  refine z2.block ?_
  refine z2.to (z2.loop (fun n (z : Int × Int × (List Int)) => z1t φ v4 y6 (z1z φ v4 y6) n z.1 z.2.1 z.2.2) r (fun z => ⟨zd.of [(0, (eqv sv2)), (2, (iv .i64 v4)), (4, (fcmp P (fun x => (iv .i64 x)) y6)), (10, (iv .i64 z.1)), (11, (iv .i64 z.2.1))], [(row 3 eI64 1 z.2.2 sv2)]⟩) (fun z => rfl) (fun n17 z ih17 h => ?_) φ ((W (v4 - v3)), (W (v5 - v4)), v1) h) [0] (sl rfl) (ol rfl) rfl
  obtain ⟨v14, v15, v16⟩ := z
  replace h : z1t φ v4 y6 (z1z φ v4 y6) (n17 + 1) v14 v15 v16 = some r := h
  rw [z1t] at h
  refine cs (cs (cr [0, 1, 2] rfl (q1 rfl (z0 (mv rfl)) (q1 rfl (z0 (mv rfl)) (q1 rfl (z6g (mv rfl) (mv rfl)) (rn (al [0, 2, 4, 10, 11, 20] [0] rfl rfl rfl (sq ?_))))))))
  refine cI h rfl (fun c18 h => ?_) (fun c18 h => ?_)
  ·
   refine z2.skip (al [0, 2, 4, 10, 11] [0] rfl rfl rfl (sq (z2.block (cs (cr [0, 1, 2] rfl (q1 rfl (z0 (mv rfl)) (q1 rfl (z0 (mv rfl)) (q1 rfl (z49 (mv rfl) (mv rfl)) (rn (al [0, 2, 4, 10, 11, 23] [0] rfl rfl rfl (sq ?_)))))))))))
   refine cI h rfl (fun c19 h => ?_) (fun c19 h => ?_)
   ·
    refine cs (cr [0, 1, 2, 3, 4, 5, 6, 7] rfl (q1 rfl (z0 (mv rfl)) (q1 rfl (z0 (mv rfl)) (q1 rfl (z0 (mv rfl)) (q1 rfl (z2f (mv rfl) (mv rfl)) (q1 rfl (z0 (mv rfl)) (q1 rfl (z0 (mv rfl)) (q1 rfl (z0 (mv rfl)) (zp h fun y20 ey20 h => n1 rfl (z3r 0 rfl (fun x => (z5m x).mem) (zmo H) (args := [(eqv sv2), (iv .i64 (W (v4 - v14))), (iv .i64 v4), (iv .i64 v15), (fcmp P (fun x => (iv .i64 x)) y6)]) ⟨(mv rfl), (mv rfl), (mv rfl), (mv rfl), (mv rfl), trivial⟩ (z5p H φ v16 (W (v4 - v14)) v4 v15 y6 sv2 _ ey20) fun x21 nw22 hk23 => ?_))))))))))
    obtain ⟨rfl, rfl⟩ := hk23
    refine ⟨z5, ?_⟩
    refine rn (al [0, 2, 4, 10, 11] [0] rfl rfl rfl (sq (cr [0, 1, 2, 3] rfl (q1 rfl (z0 (mv rfl)) (q1 rfl (z0 (mv rfl)) (q1 rfl (z2f (mv rfl) (mv rfl)) (q1 rfl (z1 (mv rfl)) (rn (AtX.in_normal ?_)))))))))
    exact AtX.to (ih17 ((W (v14 - v15)), v15, y20) h) [0] (sl rfl) (ol rfl) rfl
   ·
    refine cs (cr [0, 1, 2, 3, 4, 5, 6, 7, 8, 9, 10, 11] rfl (q1 rfl (z0 (mv rfl)) (q1 rfl (z0 (mv rfl)) (q1 rfl (z0 (mv rfl)) (q1 rfl (z2f (mv rfl) (mv rfl)) (q1 rfl (z0 (mv rfl)) (q1 rfl (z0 (mv rfl)) (q1 rfl (z0g (mv rfl) (mv rfl)) (q1 rfl (z0 (mv rfl)) (q1 rfl (z2f (mv rfl) (mv rfl)) (q1 rfl (z0 (mv rfl)) ?_)))))))))))
    refine q1 rfl (z0 (mv rfl)) (zp h fun y24 ey24 h => n1 rfl (z3r 0 rfl (fun x => (z5m x).mem) (zmo H) (args := [(eqv sv2), (iv .i64 (W (v4 - v14))), (iv .i64 (W ((W (v4 + v15)) - v14))), (iv .i64 v14), (fcmp P (fun x => (iv .i64 x)) y6)]) ⟨(mv rfl), (mv rfl), (mv rfl), (mv rfl), (mv rfl), trivial⟩ (z5p H φ v16 (W (v4 - v14)) (W ((W (v4 + v15)) - v14)) v14 y6 sv2 _ ey24) fun x25 nw26 hk27 => ?_))
    obtain ⟨rfl, rfl⟩ := hk27
    refine ⟨z5, ?_⟩
    refine rn (al [0, 2, 4, 10, 11] [0] rfl rfl rfl (sq (cr [0, 1, 2, 3] rfl (q1 rfl (z0 (mv rfl)) (q1 rfl (z0 (mv rfl)) (q1 rfl (z2f (mv rfl) (mv rfl)) (q1 rfl (z1 (mv rfl)) (rn (AtX.in_normal ?_)))))))))
    exact AtX.to (ih17 (v14, (W (v15 - v14)), y24) h) [0] (sl rfl) (ol rfl) rfl
  ·
   refine z2.exit (AtX.then_exit (AtX.then_exit (AtX.in_hit ?_)))
   exact AtX.to (hJ9 (v14, v16) h) [0] (sl rfl) (ol rfl) rfl
end Px
end
section
set_option linter.unusedVariables false
set_option linter.unusedSimpArgs false
set_option maxHeartbeats 4000000
set_option maxRecDepth 100000
namespace Px
open Go Go.RowKit Go.Proofs
theorem z88 {P : Program} (H : P = Try.prog) : ∀ (φ : Nat) (v1 : (List Int)) (v3 : Int) (v4 : Int) (v5 : Int) (y6 : (Int → Int → Option Int)) (sv2 : Value) (r : (List Int)) (h : z9 φ v1 v3 v4 v5 y6 = some r), MutT P 93 [(eqv sv2), (iv .i64 v3), (iv .i64 v4), (iv .i64 v5), (fcmp P (fun x => (iv .i64 x)) y6)] 3 eI64 1 v1 sv2 (fun x l' => x = eqv (.tuple #[]) ∧ r = l') := by
 intro φ
 induction φ with
 | zero => intro v1 v3 v4 v5 y6 sv2 r h; cases h
 | succ φ ih =>
  intro v1 v3 v4 v5 y6 sv2 r h
  rw [z9] at h
  refine MutT.of_code 220 (fn93 H) rfl rfl (Nat.le_of_ble_eq_true rfl) fun w0 base r0 wI => ?_
  refine cl [0, 1, 2, 3, 4] [0] rfl rfl rfl (cs (cs (cr [0, 1, 2, 3] rfl (q1 rfl (z0 (mv rfl)) (q1 rfl (z0 (mv rfl)) (q1 rfl (z2f (mv rfl) (mv rfl)) (q1 rfl (z61 (mv rfl) ct) (rn (al [0, 1, 2, 3, 4, 28] [0] rfl rfl rfl (sq ?_))))))))))
  refine cI h rfl (fun c8 h => ?_) (fun c8 h => ?_)
  ·
   refine cs (cr [0, 1] rfl (q1 rfl (z0 (mv rfl)) (q1 rfl (z1 (mv rfl)) (rn (al [0, 1, 3, 4, 10] [0] rfl rfl rfl (sq (cs (cr [0, 1] rfl (q1 rfl (z0 (mv rfl)) (q1 rfl (z1 (mv rfl)) (rn ?_)))))))))))
   refine al [0, 1, 4, 10, 11] [0] rfl rfl rfl (sq (cs ?_))
   refine z2.join (fun z : Int => (z0c φ v1 v3) z) r (fun z => ⟨zd.of [(0, (eqv sv2)), (1, (iv .i64 v3)), (10, (iv .i64 z))], [(row 3 eI64 1 v1 sv2)]⟩) (fun v9 h => ?_) (fun hJ10 => ?_)
   ·
    replace h : (z0c φ v1 v3) v9 = some r := h
    unfold z0c at h
    refine al [0, 1, 10] [0] rfl rfl rfl (sq (cs (cs (cr [0, 1] rfl (q1 rfl (z0 (mv rfl)) (q1 rfl (z1 (mv rfl)) (rn (al [0, 10, 13] [0] rfl rfl rfl (sq ?_)))))))))
    refine z2.join (fun z : (List Int) => (z26 φ) z) r (fun z => ⟨zd.of [], [(row 3 eI64 1 z sv2)]⟩) (fun v11 h => ?_) (fun hJ12 => ?_)
    ·
     replace h : (z26 φ) v11 = some r := h
     unfold z26 at h
     refine al [] [0] rfl rfl rfl (sq (z2.ret (AtX.then_ret (AtX.ret' (eqv (.tuple #[])) (zq.zero Try.results93) [0] [(row 3 eI64 1 v11 sv2)] (ol rfl) rfl ?_))))
     obtain rfl := Option.some.inj h
     exact ⟨_, rfl, rfl, rfl⟩
    ·
     refine z2.block ?_
     refine z2.to (z2.loop (fun n (z : Int × (List Int)) => z24 φ v9 (z26 φ) n z.1 z.2) r (fun z => ⟨zd.of [(0, (eqv sv2)), (10, (iv .i64 v9)), (13, (iv .i64 z.1))], [(row 3 eI64 1 z.2 sv2)]⟩) (fun z => rfl) (fun n15 z ih15 h => ?_) φ (v3, v1) h) [0] (sl rfl) (ol rfl) rfl
     obtain ⟨v13, v14⟩ := z
     replace h : z24 φ v9 (z26 φ) (n15 + 1) v13 v14 = some r := h
     rw [z24] at h
     refine cs (cs (cr [0, 1, 2, 3] rfl (q1 rfl (z0 (mv rfl)) (q1 rfl (z0 (mv rfl)) (q1 rfl (z2f (mv rfl) ct) (q1 rfl (z10 (mv rfl) (mv rfl)) (rn (al [0, 10, 13, 58] [0] rfl rfl rfl (sq ?_)))))))))
     refine cI h rfl (fun c16 h => ?_) (fun c16 h => ?_)
     ·
      refine z2.skip (al [0, 10, 13] [0] rfl rfl rfl (sq (cs (z2.block (ckE h fun h17 h => ckE h fun h18 h => ckE h fun h20 h => z2.draw (QR := [(0, _), (1, _), (2, _), (3, _), (4, _), (5, _), (6, _), (7, _), (8, _), (9, _), (10, _), (11, _), (12, _), (13, _), (14, _)]) (tab := [(some 61, []), (some 62, []), (some 63, []), (some 64, []), (some 65, [3]), (some 66, []), (some 67, []), (some 68, [6]), (some 69, [5, 7]), (some 70, [8]), (some 71, []), (some 72, []), (some 73, [10, 11]), (some 74, [12]), (some 75, [0, 1, 0, 1, 5, 6, 7, 8, 9, 13]), (none, [14, 9, 0, 1, 5, 6, 7, 8, 9, 13]), (some 76, [2, 4, 0, 1, 2, 3, 4, 5, 6, 7, 8, 9, 10, 11, 12, 13, 14, 15]), (none, [16, 13, 15, 0, 1, 2, 3, 4, 5, 6, 7, 8, 9, 10, 11, 12, 13, 14, 15])]) (z5h H) (Reg.intro [15] [] (by kernel_rfl) rfl (an rfl) ⟨(qr rfl (z0 (mv rfl))), (qr rfl (z0 (mv rfl))), (qr rfl (z0 (mv rfl))), (qr rfl (z0 (mv rfl))), (qr rfl (z0g (mv rfl) ct)), (qr rfl (z0 (mv rfl))), (qr rfl (z0 (mv rfl))), (qr rfl (z0g (mv rfl) ct)), (qr rfl (zb 0 (ix96 H) (mv rfl) rfl (mv rfl) (h17).1 (h17).2)), (qr rfl (lw0 (tl3 H) 0 lI64 (mv rfl) rfl (z8 h17) rfl rfl)), (qr rfl (z0 (mv rfl))), (qr rfl (z0 (mv rfl))), (qr rfl (zb 0 (ix96 H) (mv rfl) rfl (mv rfl) (h18).1 (h18).2)), (qr rfl (lw0 (tl3 H) 0 lI64 (mv rfl) rfl (z8 h18) rfl rfl)), (qr rfl (zb 0 (ix96 H) (mv rfl) rfl (mv rfl) (h18).1 (h18).2)), trivial⟩ ⟨⟨_, rfl, rfl, rfl, rfl, z3s 0 (k := (v13 : Int).toNat) (fo := 0) (z' := (gt v14 (W (v13 + 1)))) (cs := [(iv .i64 (gt v14 (W (v13 + 1))))]) lI64 (tl3 H) (mv rfl) (Ce.one (mv rfl) (One.eqv rfl)) rfl rfl rfl (z8 h18) (Nat.le_of_ble_eq_true rfl) rfl ⟨[(16, (rowp sv2 (((W (v13 + 1)) : Int).toNat * 1)))], rfl, ?_⟩⟩, trivial⟩ ft))))))
      refine Reg.intro [17] [0, 1, 5, 6, 7, 8, 9, 10, 11, 12, 13, 14] (by kernel_rfl) rfl (an rfl) ⟨nf, nf, (qr rfl (z0 (mv rfl))), (qr rfl (z0 (mv rfl))), (qr rfl (z0g (mv rfl) ct)), nf, nf, nf, nf, nf, nf, nf, nf, nf, nf, (qr rfl (zb 0 (ix96 H) (mv rfl) rfl (mv rfl) (h20).1 (h20).2)), trivial⟩ ⟨⟨_, rfl, rfl, rfl, rfl, z3s 0 (k := ((W (v13 + 1)) : Int).toNat) (fo := 0) (z' := (gt v14 v13)) (cs := [(iv .i64 (gt v14 v13))]) lI64 (tl3 H) (mv rfl) (Ce.one (mv rfl) (One.eqv rfl)) rfl rfl (by omega) (z8 h20) (Nat.le_of_ble_eq_true rfl) rfl ⟨[], rfl, ?_⟩⟩, trivial⟩ ft
      refine Reg.intro [] [0, 1, 2, 3, 4, 5, 6, 7, 8, 9, 10, 11, 12, 13, 14, 16] (by kernel_rfl) rfl (an rfl) ⟨nf, nf, nf, nf, nf, nf, nf, nf, nf, nf, nf, nf, nf, nf, nf, nf, trivial⟩ trivial (fun _ => AtX.in_normal (al [0, 10, 13] [0] rfl rfl rfl (sq (cr [0, 1, 2] rfl (q1 rfl (z0 (mv rfl)) (q1 rfl (z0g (mv rfl) ct) (q1 rfl (z1 (mv rfl)) (rn ?_))))))))
      exact AtX.to (ih15 ((W (v13 + 1)), (z2o (z2o v14 v13 (gt v14 (W (v13 + 1)))) (W (v13 + 1)) (gt v14 v13))) h) [0] (sl rfl) (ol rfl) rfl
     ·
      refine z2.exit (AtX.then_exit (AtX.then_exit (AtX.in_hit ?_)))
      exact AtX.to (hJ12 v14 h) [0] trivial (ol rfl) rfl
   ·
    refine z2.block ?_
    refine z2.to (z2.loop (fun n (z : Int × Int) => z0d φ v1 v3 y6 (z0c φ v1 v3) n z.1 z.2) r (fun z => ⟨zd.of [(0, (eqv sv2)), (1, (iv .i64 v3)), (4, (fcmp P (fun x => (iv .i64 x)) y6)), (10, (iv .i64 z.1)), (11, (iv .i64 z.2))], [(row 3 eI64 1 v1 sv2)]⟩) (fun z => rfl) (fun n24 z ih24 h => ?_) φ (v4, v5) h) [0] (sl rfl) (ol rfl) rfl
    obtain ⟨v22, v23⟩ := z
    replace h : z0d φ v1 v3 y6 (z0c φ v1 v3) (n24 + 1) v22 v23 = some r := h
    rw [z0d] at h
    refine cs (cs (cr [0, 1, 2] rfl (q1 rfl (z0 (mv rfl)) (q1 rfl (z0 (mv rfl)) (q1 rfl (z10 (mv rfl) (mv rfl)) (rn (al [0, 1, 4, 10, 11, 33] [0] rfl rfl rfl (sq ?_))))))))
    refine cI h rfl (fun c25 h => ?_) (fun c25 h => ?_)
    ·
     refine z2.skip (al [0, 1, 4, 10, 11] [0] rfl rfl rfl (sq (z2.block (cs (cr [0, 1, 2, 3, 4, 5, 6] rfl (q1 rfl (z0 (mv rfl)) (q1 rfl (z0 (mv rfl)) (q1 rfl (z0g (mv rfl) (mv rfl)) (q1 rfl (z83 (us3 H) (zft H) (mv rfl)) (q1 rfl (z9c 2 (by decide) (mv rfl) ct (by decide)) (q1 rfl (z83 (zgk H) (un3 H) (mv rfl)) ?_)))))))))))
     refine q1 rfl (z1 (mv rfl)) (rn (al [0, 1, 4, 10, 11, 12] [0] rfl rfl rfl (sq (cs (ckE h fun h26 h => ckE h fun h27 h => zp h fun y28 ey28 h => z2.draw (QR := [(0, _), (1, _), (2, _), (3, _), (4, _), (5, _), (6, _), (7, _), (8, _), (9, _), (10, _)]) (tab := [(some 40, []), (some 41, []), (some 42, []), (some 43, [1, 2]), (some 44, [3]), (some 45, []), (some 46, []), (some 47, [5, 6]), (some 48, [7]), (some 49, [0, 4, 8]), (some 50, [9])]) (z5h H) (Reg.intro [] [] (by kernel_rfl) rfl (an rfl) ⟨(qr rfl (z0 (mv rfl))), (qr rfl (z0 (mv rfl))), (qr rfl (z0 (mv rfl))), (qr rfl (zb 0 (ix96 H) (mv rfl) rfl (mv rfl) (h26).1 (h26).2)), (qr rfl (lw0 (tl3 H) 0 lI64 (mv rfl) rfl (z8 h26) rfl rfl)), (qr rfl (z0 (mv rfl))), (qr rfl (z0 (mv rfl))), (qr rfl (zb 0 (ix96 H) (mv rfl) rfl (mv rfl) (h27).1 (h27).2)), (qr rfl (lw0 (tl3 H) 0 lI64 (mv rfl) rfl (z8 h27) rfl rfl)), (qr rfl (zaz (mv rfl) (mv rfl) (mv rfl) ey28)), (qr rfl (z10 (mv rfl) ct)), trivial⟩ trivial (fun _ => al [0, 1, 4, 10, 11, 12, 50] [0] rfl rfl rfl (sq ?_))))))))
     refine cI h rfl (fun c29 h => ?_) (fun c29 h => ?_)
     ·
      refine cr [0, 1, 2] rfl (q1 rfl (z0 (mv rfl)) (q1 rfl (z0g (mv rfl) ct) (q1 rfl (z1 (mv rfl)) (rn (AtX.in_normal ?_)))))
      exact AtX.to (ih24 ((W ((W (((U ((W (v22 + v23)))).fdiv 2))) + 1)), v23) h) [0] (sl rfl) (ol rfl) rfl
     ·
      refine cr [0, 1] rfl (q1 rfl (z0 (mv rfl)) (q1 rfl (z1 (mv rfl)) (rn (AtX.in_normal ?_))))
      exact AtX.to (ih24 (v22, (W (((U ((W (v22 + v23)))).fdiv 2)))) h) [0] (sl rfl) (ol rfl) rfl
    ·
     refine z2.exit (AtX.then_exit (AtX.then_exit (AtX.in_hit ?_)))
     exact AtX.to (hJ10 v22 h) [0] (sl rfl) (ol rfl) rfl
  ·
   refine z2.skip (al [0, 1, 2, 3, 4] [0] rfl rfl rfl (sq (cs (cs (cr [0, 1, 2, 3] rfl (q1 rfl (z0 (mv rfl)) (q1 rfl (z0 (mv rfl)) (q1 rfl (z2f (mv rfl) (mv rfl)) (q1 rfl (z61 (mv rfl) ct) (rn (al [0, 1, 2, 3, 4, 80] [0] rfl rfl rfl ?_)))))))))))
   refine sq ?_
   refine cI h rfl (fun c30 h => ?_) (fun c30 h => ?_)
   ·
    refine cs (cr [0, 1] rfl (q1 rfl (z0 (mv rfl)) (q1 rfl (z1 (mv rfl)) (rn (al [0, 2, 4, 14] [0] rfl rfl rfl (sq (cs (cr [0, 1] rfl (q1 rfl (z0 (mv rfl)) (q1 rfl (z1 (mv rfl)) (rn ?_)))))))))))
    refine al [0, 2, 4, 14, 15] [0] rfl rfl rfl (sq (cs ?_))
    refine z2.join (fun z : Int => (z06 φ v1 v4) z) r (fun z => ⟨zd.of [(0, (eqv sv2)), (2, (iv .i64 v4)), (14, (iv .i64 z))], [(row 3 eI64 1 v1 sv2)]⟩) (fun v31 h => ?_) (fun hJ32 => ?_)
    ·
     replace h : (z06 φ v1 v4) v31 = some r := h
     unfold z06 at h
     refine al [0, 2, 14] [0] rfl rfl rfl (sq (cs (cs (cr [0, 1] rfl (q1 rfl (z0 (mv rfl)) (q1 rfl (z1 (mv rfl)) (rn (al [0, 14, 17] [0] rfl rfl rfl (sq ?_)))))))))
     refine z2.join (fun z : (List Int) => (z23 φ) z) r (fun z => ⟨zd.of [], [(row 3 eI64 1 z sv2)]⟩) (fun v33 h => ?_) (fun hJ34 => ?_)
     ·
      replace h : (z23 φ) v33 = some r := h
      unfold z23 at h
      refine al [] [0] rfl rfl rfl (sq (z2.ret (AtX.then_ret (AtX.ret' (eqv (.tuple #[])) (zq.zero Try.results93) [0] [(row 3 eI64 1 v33 sv2)] (ol rfl) rfl ?_))))
      obtain rfl := Option.some.inj h
      exact ⟨_, rfl, rfl, rfl⟩
     ·
      refine z2.block ?_
      refine z2.to (z2.loop (fun n (z : Int × (List Int)) => z25 φ v31 (z23 φ) n z.1 z.2) r (fun z => ⟨zd.of [(0, (eqv sv2)), (14, (iv .i64 v31)), (17, (iv .i64 z.1))], [(row 3 eI64 1 z.2 sv2)]⟩) (fun z => rfl) (fun n37 z ih37 h => ?_) φ (v4, v1) h) [0] (sl rfl) (ol rfl) rfl
      obtain ⟨v35, v36⟩ := z
      replace h : z25 φ v31 (z23 φ) (n37 + 1) v35 v36 = some r := h
      rw [z25] at h
      refine cs (cs (cr [0, 1, 2] rfl (q1 rfl (z0 (mv rfl)) (q1 rfl (z0 (mv rfl)) (q1 rfl (z49 (mv rfl) (mv rfl)) (rn (al [0, 14, 17, 110] [0] rfl rfl rfl (sq ?_))))))))
      refine cI h rfl (fun c38 h => ?_) (fun c38 h => ?_)
      ·
       refine z2.skip (al [0, 14, 17] [0] rfl rfl rfl (sq (cs (z2.block (ckE h fun h39 h => ckE h fun h40 h => ckE h fun h42 h => z2.draw (QR := [(0, _), (1, _), (2, _), (3, _), (4, _), (5, _), (6, _), (7, _), (8, _), (9, _), (10, _), (11, _), (12, _), (13, _), (14, _)]) (tab := [(some 113, []), (some 114, []), (some 115, []), (some 116, []), (some 117, [3]), (some 118, []), (some 119, []), (some 120, [6]), (some 121, [5, 7]), (some 122, [8]), (some 123, []), (some 124, []), (some 125, [10, 11]), (some 126, [12]), (some 127, [0, 1, 0, 1, 5, 6, 7, 8, 9, 13]), (none, [14, 9, 0, 1, 5, 6, 7, 8, 9, 13]), (some 128, [2, 4, 0, 1, 2, 3, 4, 5, 6, 7, 8, 9, 10, 11, 12, 13, 14, 15]), (none, [16, 13, 15, 0, 1, 2, 3, 4, 5, 6, 7, 8, 9, 10, 11, 12, 13, 14, 15])]) (z5h H) (Reg.intro [15] [] (by kernel_rfl) rfl (an rfl) ⟨(qr rfl (z0 (mv rfl))), (qr rfl (z0 (mv rfl))), (qr rfl (z0 (mv rfl))), (qr rfl (z0 (mv rfl))), (qr rfl (z2f (mv rfl) ct)), (qr rfl (z0 (mv rfl))), (qr rfl (z0 (mv rfl))), (qr rfl (z2f (mv rfl) ct)), (qr rfl (zb 0 (ix96 H) (mv rfl) rfl (mv rfl) (h39).1 (h39).2)), (qr rfl (lw0 (tl3 H) 0 lI64 (mv rfl) rfl (z8 h39) rfl rfl)), (qr rfl (z0 (mv rfl))), (qr rfl (z0 (mv rfl))), (qr rfl (zb 0 (ix96 H) (mv rfl) rfl (mv rfl) (h40).1 (h40).2)), (qr rfl (lw0 (tl3 H) 0 lI64 (mv rfl) rfl (z8 h40) rfl rfl)), (qr rfl (zb 0 (ix96 H) (mv rfl) rfl (mv rfl) (h40).1 (h40).2)), trivial⟩ ⟨⟨_, rfl, rfl, rfl, rfl, z3s 0 (k := (v35 : Int).toNat) (fo := 0) (z' := (gt v36 (W (v35 - 1)))) (cs := [(iv .i64 (gt v36 (W (v35 - 1))))]) lI64 (tl3 H) (mv rfl) (Ce.one (mv rfl) (One.eqv rfl)) rfl rfl rfl (z8 h40) (Nat.le_of_ble_eq_true rfl) rfl ⟨[(16, (rowp sv2 (((W (v35 - 1)) : Int).toNat * 1)))], rfl, ?_⟩⟩, trivial⟩ ft))))))
       refine Reg.intro [17] [0, 1, 5, 6, 7, 8, 9, 10, 11, 12, 13, 14] (by kernel_rfl) rfl (an rfl) ⟨nf, nf, (qr rfl (z0 (mv rfl))), (qr rfl (z0 (mv rfl))), (qr rfl (z2f (mv rfl) ct)), nf, nf, nf, nf, nf, nf, nf, nf, nf, nf, (qr rfl (zb 0 (ix96 H) (mv rfl) rfl (mv rfl) (h42).1 (h42).2)), trivial⟩ ⟨⟨_, rfl, rfl, rfl, rfl, z3s 0 (k := ((W (v35 - 1)) : Int).toNat) (fo := 0) (z' := (gt v36 v35)) (cs := [(iv .i64 (gt v36 v35))]) lI64 (tl3 H) (mv rfl) (Ce.one (mv rfl) (One.eqv rfl)) rfl rfl (by omega) (z8 h42) (Nat.le_of_ble_eq_true rfl) rfl ⟨[], rfl, ?_⟩⟩, trivial⟩ ft
       refine Reg.intro [] [0, 1, 2, 3, 4, 5, 6, 7, 8, 9, 10, 11, 12, 13, 14, 16] (by kernel_rfl) rfl (an rfl) ⟨nf, nf, nf, nf, nf, nf, nf, nf, nf, nf, nf, nf, nf, nf, nf, nf, trivial⟩ trivial (fun _ => AtX.in_normal (al [0, 14, 17] [0] rfl rfl rfl (sq (cr [0, 1, 2] rfl (q1 rfl (z0 (mv rfl)) (q1 rfl (z2f (mv rfl) ct) (q1 rfl (z1 (mv rfl)) (rn ?_))))))))
       exact AtX.to (ih37 ((W (v35 - 1)), (z2o (z2o v36 v35 (gt v36 (W (v35 - 1)))) (W (v35 - 1)) (gt v36 v35))) h) [0] (sl rfl) (ol rfl) rfl
      ·
       refine z2.exit (AtX.then_exit (AtX.then_exit (AtX.in_hit ?_)))
       exact AtX.to (hJ34 v36 h) [0] trivial (ol rfl) rfl
    ·
     refine z2.block ?_
     refine z2.to (z2.loop (fun n (z : Int × Int) => z0a φ v1 v4 y6 (z06 φ v1 v4) n z.1 z.2) r (fun z => ⟨zd.of [(0, (eqv sv2)), (2, (iv .i64 v4)), (4, (fcmp P (fun x => (iv .i64 x)) y6)), (14, (iv .i64 z.1)), (15, (iv .i64 z.2))], [(row 3 eI64 1 v1 sv2)]⟩) (fun z => rfl) (fun n46 z ih46 h => ?_) φ (v3, v4) h) [0] (sl rfl) (ol rfl) rfl
     obtain ⟨v44, v45⟩ := z
     replace h : z0a φ v1 v4 y6 (z06 φ v1 v4) (n46 + 1) v44 v45 = some r := h
     rw [z0a] at h
     refine cs (cs (cr [0, 1, 2] rfl (q1 rfl (z0 (mv rfl)) (q1 rfl (z0 (mv rfl)) (q1 rfl (z10 (mv rfl) (mv rfl)) (rn (al [0, 2, 4, 14, 15, 85] [0] rfl rfl rfl (sq ?_))))))))
     refine cI h rfl (fun c47 h => ?_) (fun c47 h => ?_)
     ·
      refine z2.skip (al [0, 2, 4, 14, 15] [0] rfl rfl rfl (sq (z2.block (cs (cr [0, 1, 2, 3, 4, 5, 6] rfl (q1 rfl (z0 (mv rfl)) (q1 rfl (z0 (mv rfl)) (q1 rfl (z0g (mv rfl) (mv rfl)) (q1 rfl (z83 (us3 H) (zft H) (mv rfl)) (q1 rfl (z9c 2 (by decide) (mv rfl) ct (by decide)) (q1 rfl (z83 (zgk H) (un3 H) (mv rfl)) ?_)))))))))))
      refine q1 rfl (z1 (mv rfl)) (rn (al [0, 2, 4, 14, 15, 16] [0] rfl rfl rfl (sq (cs (ckE h fun h48 h => ckE h fun h49 h => zp h fun y50 ey50 h => z2.draw (QR := [(0, _), (1, _), (2, _), (3, _), (4, _), (5, _), (6, _), (7, _), (8, _), (9, _), (10, _), (11, _)]) (tab := [(some 92, []), (some 93, []), (some 94, []), (some 95, [1, 2]), (some 96, [3]), (some 97, []), (some 98, []), (some 99, [5, 6]), (some 100, [7]), (some 101, [0, 4, 8]), (some 102, [9]), (some 103, [10])]) (z5h H) (Reg.intro [] [] (by kernel_rfl) rfl (an rfl) ⟨(qr rfl (z0 (mv rfl))), (qr rfl (z0 (mv rfl))), (qr rfl (z0 (mv rfl))), (qr rfl (zb 0 (ix96 H) (mv rfl) rfl (mv rfl) (h48).1 (h48).2)), (qr rfl (lw0 (tl3 H) 0 lI64 (mv rfl) rfl (z8 h48) rfl rfl)), (qr rfl (z0 (mv rfl))), (qr rfl (z0 (mv rfl))), (qr rfl (zb 0 (ix96 H) (mv rfl) rfl (mv rfl) (h49).1 (h49).2)), (qr rfl (lw0 (tl3 H) 0 lI64 (mv rfl) rfl (z8 h49) rfl rfl)), (qr rfl (zaz (mv rfl) (mv rfl) (mv rfl) ey50)), (qr rfl (z10 (mv rfl) ct)), (qr rfl (z79 (mv rfl))), trivial⟩ trivial (fun _ => al [0, 2, 4, 14, 15, 16, 103] [0] rfl rfl rfl (sq ?_))))))))
      refine cI h rfl (fun c51 h => ?_) (fun c51 h => ?_)
      ·
       refine cr [0, 1, 2] rfl (q1 rfl (z0 (mv rfl)) (q1 rfl (z0g (mv rfl) ct) (q1 rfl (z1 (mv rfl)) (rn (AtX.in_normal ?_)))))
       exact AtX.to (ih46 ((W ((W (((U ((W (v44 + v45)))).fdiv 2))) + 1)), v45) h) [0] (sl rfl) (ol rfl) rfl
      ·
       refine cr [0, 1] rfl (q1 rfl (z0 (mv rfl)) (q1 rfl (z1 (mv rfl)) (rn (AtX.in_normal ?_))))
       exact AtX.to (ih46 (v44, (W (((U ((W (v44 + v45)))).fdiv 2)))) h) [0] (sl rfl) (ol rfl) rfl
     ·
      refine z2.exit (AtX.then_exit (AtX.then_exit (AtX.in_hit ?_)))
      exact AtX.to (hJ32 v44 h) [0] (sl rfl) (ol rfl) rfl
   ·
    refine z2.skip (al [0, 1, 2, 3, 4] [0] rfl rfl rfl (sq (cs (cr [0, 1, 2, 3, 4, 5, 6] rfl (q1 rfl (z0 (mv rfl)) (q1 rfl (z0 (mv rfl)) (q1 rfl (z0g (mv rfl) (mv rfl)) (q1 rfl (z83 (us3 H) (zft H) (mv rfl)) (q1 rfl (z9c 2 (by decide) (mv rfl) ct (by decide)) (q1 rfl (z83 (zgk H) (un3 H) (mv rfl)) (q1 rfl (z1 (mv rfl)) ?_)))))))))))
    refine rn (al [0, 1, 2, 3, 4, 18] [0] rfl rfl rfl (sq (cs (cr [0, 1, 2, 3] rfl (q1 rfl (z0 (mv rfl)) (q1 rfl (z0 (mv rfl)) (q1 rfl (z0g (mv rfl) (mv rfl)) (q1 rfl (z1 (mv rfl)) (rn (al [0, 1, 2, 3, 4, 18, 19] [0] rfl rfl rfl (sq ?_)))))))))))
    refine cs (cr [0, 1] rfl (q1 rfl (z1 ct) (q1 rfl (z1 ct) (rn (al [0, 1, 2, 3, 4, 18, 19] [0] rfl rfl rfl (sq (cs (cs (cr [0, 1, 2] rfl (q1 rfl (z0 (mv rfl)) (q1 rfl (z0 (mv rfl)) ?_)))))))))))
    refine q1 rfl (z49 (mv rfl) (mv rfl)) (rn (al [0, 1, 2, 3, 4, 18, 19, 140] [0] rfl rfl rfl (sq ?_)))
    refine z2.join (fun z : Int × Int => (z0q φ v1 v3 v4 v5 y6 (z9 φ)) z.1 z.2) r (fun z => ⟨zd.of [(0, (eqv sv2)), (1, (iv .i64 v3)), (2, (iv .i64 v4)), (3, (iv .i64 v5)), (4, (fcmp P (fun x => (iv .i64 x)) y6)), (18, (iv .i64 (W (((U ((W (v3 + v5)))).fdiv 2))))), (19, (iv .i64 (W ((W (((U ((W (v3 + v5)))).fdiv 2))) + v4)))), (20, (iv .i64 z.1)), (21, (iv .i64 z.2))], [(row 3 eI64 1 v1 sv2)]⟩) (fun z h => ?_) (fun hJ54 => ?_)
    ·
     obtain ⟨v52, v53⟩ := z
     replace h : (z0q φ v1 v3 v4 v5 y6 (z9 φ)) v52 v53 = some r := h
     unfold z0q at h
     refine al [0, 1, 2, 3, 4, 18, 19, 20, 21] [0] rfl rfl rfl (sq (cs (cr [0, 1, 2] rfl (q1 rfl (z0 (mv rfl)) (q1 rfl (z2f (mv rfl) ct) (q1 rfl (z1 (mv rfl)) (rn (al [0, 1, 2, 3, 4, 18, 19, 20, 21, 22] [0] rfl rfl rfl (sq (cs ?_))))))))))
     refine z2.join (fun z : Int => (z0s φ v1 v3 v4 v5 y6 (z9 φ)) z) r (fun z => ⟨zd.of [(0, (eqv sv2)), (1, (iv .i64 v3)), (2, (iv .i64 v4)), (3, (iv .i64 v5)), (4, (fcmp P (fun x => (iv .i64 x)) y6)), (18, (iv .i64 (W (((U ((W (v3 + v5)))).fdiv 2))))), (19, (iv .i64 (W ((W (((U ((W (v3 + v5)))).fdiv 2))) + v4)))), (20, (iv .i64 z))], [(row 3 eI64 1 v1 sv2)]⟩) (fun v55 h => ?_) (fun hJ56 => ?_)
     ·
      replace h : (z0s φ v1 v3 v4 v5 y6 (z9 φ)) v55 = some r := h
      unfold z0s at h
      refine al [0, 1, 2, 3, 4, 18, 19, 20] [0] rfl rfl rfl (sq (cs (cr [0, 1, 2, 3] rfl (q1 rfl (z0 (mv rfl)) (q1 rfl (z0 (mv rfl)) (q1 rfl (z2f (mv rfl) (mv rfl)) (q1 rfl (z1 (mv rfl)) (rn (al [0, 1, 2, 3, 4, 18, 20, 24] [0] rfl rfl rfl (sq (cs ?_)))))))))))
      refine cs (cr [0, 1, 2, 3, 4, 5, 6, 7] rfl (q1 rfl (z0 (mv rfl)) (q1 rfl (z0 (mv rfl)) (q1 rfl (z10 (mv rfl) (mv rfl)) (q1 rfl (z0 (mv rfl)) (g1 rfl rfl (fun g57 => z0 (mv rfl)) (g1 rfl rfl (fun g58 => z0 (mv rfl)) (g1 rfl rfl (fun g59 => z10 (mc rfl g59) (mc rfl g59)) (q1 rfl (z36 (mv rfl) (fun g60 => (mc rfl g60)) ct) (rn (al [0, 1, 2, 3, 4, 18, 20, 24, 185] [0] rfl rfl rfl ?_)))))))))))
      refine sq ?_
      refine z2.join (fun z : (List Int) => (z1k φ v3 v4 v5 y6 (z9 φ) v55) z) r (fun z => ⟨zd.of [(0, (eqv sv2)), (1, (iv .i64 v3)), (3, (iv .i64 v5)), (4, (fcmp P (fun x => (iv .i64 x)) y6)), (18, (iv .i64 (W (((U ((W (v3 + v5)))).fdiv 2))))), (20, (iv .i64 v55)), (24, (iv .i64 (W ((W ((W (((U ((W (v3 + v5)))).fdiv 2))) + v4)) - v55))))], [(row 3 eI64 1 z sv2)]⟩) (fun v61 h => ?_) (fun hJ62 => ?_)
      ·
       replace h : (z1k φ v3 v4 v5 y6 (z9 φ) v55) v61 = some r := h
       unfold z1k at h
       refine al [0, 1, 3, 4, 18, 20, 24] [0] rfl rfl rfl (sq (cs (cs (cr [0, 1, 2, 3, 4, 5, 6, 7] rfl (q1 rfl (z0 (mv rfl)) (q1 rfl (z0 (mv rfl)) (q1 rfl (z10 (mv rfl) (mv rfl)) (q1 rfl (z0 (mv rfl)) (g1 rfl rfl (fun g63 => z0 (mv rfl)) (g1 rfl rfl (fun g64 => z0 (mv rfl)) (g1 rfl rfl (fun g65 => z10 (mc rfl g65) (mc rfl g65)) ?_)))))))))))
       refine q1 rfl (z36 (mv rfl) (fun g66 => (mc rfl g66)) ct) (rn (al [0, 1, 3, 4, 18, 20, 24, 199] [0] rfl rfl rfl (sq ?_)))
       refine z2.join (fun z : (List Int) => (z1h φ v3 v4 v5 y6 (z9 φ) v55) z) r (fun z => ⟨zd.of [(0, (eqv sv2)), (3, (iv .i64 v5)), (4, (fcmp P (fun x => (iv .i64 x)) y6)), (18, (iv .i64 (W (((U ((W (v3 + v5)))).fdiv 2))))), (24, (iv .i64 (W ((W ((W (((U ((W (v3 + v5)))).fdiv 2))) + v4)) - v55))))], [(row 3 eI64 1 z sv2)]⟩) (fun v67 h => ?_) (fun hJ68 => ?_)
       ·
        replace h : (z1h φ v3 v4 v5 y6 (z9 φ) v55) v67 = some r := h
        unfold z1h at h
        refine al [0, 3, 4, 18, 24] [0] rfl rfl rfl (sq (cs (cr [0, 1, 2, 3, 4, 5, 6, 7] rfl (q1 rfl (z0 (mv rfl)) (q1 rfl (z0 (mv rfl)) (q1 rfl (z10 (mv rfl) (mv rfl)) (q1 rfl (z0 (mv rfl)) (g1 rfl rfl (fun g69 => z0 (mv rfl)) (g1 rfl rfl (fun g70 => z0 (mv rfl)) (g1 rfl rfl (fun g71 => z10 (mc rfl g71) (mc rfl g71)) (q1 rfl (z36 (mv rfl) (fun g72 => (mc rfl g72)) ct) ?_)))))))))))
        refine rn (al [0, 3, 4, 18, 24, 213] [0] rfl rfl rfl (sq ?_))
        refine cI h rfl (fun c73 h => ?_) (fun c73 h => ?_)
        ·
         refine cr [0, 1, 2, 3, 4, 5] rfl (q1 rfl (z0 (mv rfl)) (q1 rfl (z0 (mv rfl)) (q1 rfl (z0 (mv rfl)) (q1 rfl (z0 (mv rfl)) (q1 rfl (z0 (mv rfl)) (zp h fun y74 ey74 h => n1 rfl (z3r 0 rfl (fun x => (z5m x).mem) (zn9 H) (args := [(eqv sv2), (iv .i64 (W (((U ((W (v3 + v5)))).fdiv 2)))), (iv .i64 (W ((W ((W (((U ((W (v3 + v5)))).fdiv 2))) + v4)) - v55))), (iv .i64 v5), (fcmp P (fun x => (iv .i64 x)) y6)]) ⟨(mv rfl), (mv rfl), (mv rfl), (mv rfl), (mv rfl), trivial⟩ (ih v67 (W (((U ((W (v3 + v5)))).fdiv 2))) (W ((W ((W (((U ((W (v3 + v5)))).fdiv 2))) + v4)) - v55)) v5 y6 sv2 _ ey74) fun x75 nw76 hk77 => ?_)))))))
         obtain ⟨rfl, rfl⟩ := hk77
         refine ⟨z5, ?_⟩
         refine rn (AtX.fall' (eqv (.tuple #[])) (zq.zero Try.results93) [0] [(row 3 eI64 1 y74 sv2)] (ol rfl) rfl ?_)
         obtain rfl := Option.some.inj h
         exact ⟨_, rfl, rfl, rfl⟩
        ·
         refine z2.skip (AtX.fall' (eqv (.tuple #[])) (zq.zero Try.results93) [0] [(row 3 eI64 1 v67 sv2)] (ol rfl) rfl ?_)
         obtain rfl := Option.some.inj h
         exact ⟨_, rfl, rfl, rfl⟩
       ·
        refine cI h rfl (fun c78 h => ?_) (fun c78 h => ?_)
        ·
         refine cr [0, 1, 2, 3, 4, 5] rfl (q1 rfl (z0 (mv rfl)) (q1 rfl (z0 (mv rfl)) (q1 rfl (z0 (mv rfl)) (q1 rfl (z0 (mv rfl)) (q1 rfl (z0 (mv rfl)) (zp h fun y79 ey79 h => n1 rfl (z3r 0 rfl (fun x => (z5m x).mem) (zn9 H) (args := [(eqv sv2), (iv .i64 v3), (iv .i64 v55), (iv .i64 (W (((U ((W (v3 + v5)))).fdiv 2)))), (fcmp P (fun x => (iv .i64 x)) y6)]) ⟨(mv rfl), (mv rfl), (mv rfl), (mv rfl), (mv rfl), trivial⟩ (ih v61 v3 v55 (W (((U ((W (v3 + v5)))).fdiv 2))) y6 sv2 _ ey79) fun x80 nw81 hk82 => ?_)))))))
         obtain ⟨rfl, rfl⟩ := hk82
         refine ⟨z5, ?_⟩
         refine rn ?_
         exact AtX.to (hJ68 y79 h) [0] (sl rfl) (ol rfl) rfl
        ·
         refine z2.skip ?_
         exact AtX.to (hJ68 v61 h) [0] (sl rfl) (ol rfl) rfl
      ·
       refine cI h rfl (fun c83 h => ?_) (fun c83 h => ?_)
       ·
        refine cr [0, 1, 2, 3, 4, 5] rfl (q1 rfl (z0 (mv rfl)) (q1 rfl (z0 (mv rfl)) (q1 rfl (z0 (mv rfl)) (q1 rfl (z0 (mv rfl)) (q1 rfl (z0 (mv rfl)) (zp h fun y84 ey84 h => n1 rfl (z3r 0 rfl (fun x => (z5m x).mem) (zv8 H) (args := [(eqv sv2), (iv .i64 v55), (iv .i64 v4), (iv .i64 (W ((W ((W (((U ((W (v3 + v5)))).fdiv 2))) + v4)) - v55))), (fcmp P (fun x => (iv .i64 x)) y6)]) ⟨(mv rfl), (mv rfl), (mv rfl), (mv rfl), (mv rfl), trivial⟩ (zb5 H φ v1 v55 v4 (W ((W ((W (((U ((W (v3 + v5)))).fdiv 2))) + v4)) - v55)) y6 sv2 _ ey84) fun x85 nw86 hk87 => ?_)))))))
        obtain ⟨rfl, rfl⟩ := hk87
        refine ⟨z5, ?_⟩
        refine rn ?_
        exact AtX.to (hJ62 y84 h) [0] (sl rfl) (ol rfl) rfl
       ·
        refine z2.skip ?_
        exact AtX.to (hJ62 v1 h) [0] (sl rfl) (ol rfl) rfl
     ·
      refine z2.block ?_
      refine z2.to (z2.loop (fun n (z : Int × Int) => z08 φ v1 v3 v4 v5 y6 (z0s φ v1 v3 v4 v5 y6 (z9 φ)) n z.1 z.2) r (fun z => ⟨zd.of [(0, (eqv sv2)), (1, (iv .i64 v3)), (2, (iv .i64 v4)), (3, (iv .i64 v5)), (4, (fcmp P (fun x => (iv .i64 x)) y6)), (18, (iv .i64 (W (((U ((W (v3 + v5)))).fdiv 2))))), (19, (iv .i64 (W ((W (((U ((W (v3 + v5)))).fdiv 2))) + v4)))), (20, (iv .i64 z.1)), (21, (iv .i64 z.2)), (22, (iv .i64 (W ((W ((W (((U ((W (v3 + v5)))).fdiv 2))) + v4)) - 1))))], [(row 3 eI64 1 v1 sv2)]⟩) (fun z => rfl) (fun n90 z ih90 h => ?_) φ (v52, v53) h) [0] (sl rfl) (ol rfl) rfl
      obtain ⟨v88, v89⟩ := z
      replace h : z08 φ v1 v3 v4 v5 y6 (z0s φ v1 v3 v4 v5 y6 (z9 φ)) (n90 + 1) v88 v89 = some r := h
      rw [z08] at h
      refine cs (cs (cr [0, 1, 2] rfl (q1 rfl (z0 (mv rfl)) (q1 rfl (z0 (mv rfl)) (q1 rfl (z10 (mv rfl) (mv rfl)) (rn (al [0, 1, 2, 3, 4, 18, 19, 20, 21, 22, 151] [0] rfl rfl rfl (sq ?_))))))))
      refine cI h rfl (fun c91 h => ?_) (fun c91 h => ?_)
      ·
       refine z2.skip (al [0, 1, 2, 3, 4, 18, 19, 20, 21, 22] [0] rfl rfl rfl (sq (z2.block (cs (cr [0, 1, 2, 3, 4, 5, 6] rfl (q1 rfl (z0 (mv rfl)) (q1 rfl (z0 (mv rfl)) (q1 rfl (z0g (mv rfl) (mv rfl)) (q1 rfl (z83 (us3 H) (zft H) (mv rfl)) (q1 rfl (z9c 2 (by decide) (mv rfl) ct (by decide)) (q1 rfl (z83 (zgk H) (un3 H) (mv rfl)) ?_)))))))))))
       refine q1 rfl (z1 (mv rfl)) (rn (al [0, 1, 2, 3, 4, 18, 19, 20, 21, 22, 23] [0] rfl rfl rfl (sq (cs (ckE h fun h92 h => ckE h fun h93 h => zp h fun y94 ey94 h => z2.draw (QR := [(0, _), (1, _), (2, _), (3, _), (4, _), (5, _), (6, _), (7, _), (8, _), (9, _), (10, _), (11, _), (12, _), (13, _)]) (tab := [(some 158, []), (some 159, []), (some 160, []), (some 161, []), (some 162, [2, 3]), (some 163, [1, 4]), (some 164, [5]), (some 165, []), (some 166, []), (some 167, [7, 8]), (some 168, [9]), (some 169, [0, 6, 10]), (some 170, [11]), (some 171, [12])]) (z5h H) (Reg.intro [] [] (by kernel_rfl) rfl (an rfl) ⟨(qr rfl (z0 (mv rfl))), (qr rfl (z0 (mv rfl))), (qr rfl (z0 (mv rfl))), (qr rfl (z0 (mv rfl))), (qr rfl (z2f (mv rfl) (mv rfl))), (qr rfl (zb 0 (ix96 H) (mv rfl) rfl (mv rfl) (h92).1 (h92).2)), (qr rfl (lw0 (tl3 H) 0 lI64 (mv rfl) rfl (z8 h92) rfl rfl)), (qr rfl (z0 (mv rfl))), (qr rfl (z0 (mv rfl))), (qr rfl (zb 0 (ix96 H) (mv rfl) rfl (mv rfl) (h93).1 (h93).2)), (qr rfl (lw0 (tl3 H) 0 lI64 (mv rfl) rfl (z8 h93) rfl rfl)), (qr rfl (zaz (mv rfl) (mv rfl) (mv rfl) ey94)), (qr rfl (z10 (mv rfl) ct)), (qr rfl (z79 (mv rfl))), trivial⟩ trivial (fun _ => al [0, 1, 2, 3, 4, 18, 19, 20, 21, 22, 23, 171] [0] rfl rfl rfl (sq ?_))))))))
       refine cI h rfl (fun c95 h => ?_) (fun c95 h => ?_)
       ·
        refine cr [0, 1, 2] rfl (q1 rfl (z0 (mv rfl)) (q1 rfl (z0g (mv rfl) ct) (q1 rfl (z1 (mv rfl)) (rn (AtX.in_normal ?_)))))
        exact AtX.to (ih90 ((W ((W (((U ((W (v88 + v89)))).fdiv 2))) + 1)), v89) h) [0] (sl rfl) (ol rfl) rfl
       ·
        refine cr [0, 1] rfl (q1 rfl (z0 (mv rfl)) (q1 rfl (z1 (mv rfl)) (rn (AtX.in_normal ?_))))
        exact AtX.to (ih90 (v88, (W (((U ((W (v88 + v89)))).fdiv 2)))) h) [0] (sl rfl) (ol rfl) rfl
      ·
       refine z2.exit (AtX.then_exit (AtX.then_exit (AtX.in_hit ?_)))
       exact AtX.to (hJ56 v88 h) [0] (sl rfl) (ol rfl) rfl
    ·
     refine cI h rfl (fun c96 h => ?_) (fun c96 h => ?_)
     ·
      refine cs (cr [0, 1, 2, 3] rfl (q1 rfl (z0 (mv rfl)) (q1 rfl (z0 (mv rfl)) (q1 rfl (z2f (mv rfl) (mv rfl)) (q1 rfl (z1 (mv rfl)) (rn (al [0, 1, 2, 3, 4, 18, 19, 20] [0] rfl rfl rfl (sq (cr [0, 1] rfl (q1 rfl (z0 (mv rfl)) (q1 rfl (z1 (mv rfl)) ?_)))))))))))
      refine rn ?_
      exact AtX.to (hJ54 ((W ((W ((W (((U ((W (v3 + v5)))).fdiv 2))) + v4)) - v5)), (W (((U ((W (v3 + v5)))).fdiv 2)))) h) [0] (sl rfl) (ol rfl) rfl
     ·
      refine cs (cr [0, 1] rfl (q1 rfl (z0 (mv rfl)) (q1 rfl (z1 (mv rfl)) (rn (al [0, 1, 2, 3, 4, 18, 19, 20] [0] rfl rfl rfl (sq (cr [0, 1] rfl (q1 rfl (z0 (mv rfl)) (q1 rfl (z1 (mv rfl)) (rn ?_))))))))))
      exact AtX.to (hJ54 (v3, v4) h) [0] (sl rfl) (ol rfl) rfl
theorem zb2 {P : Program} (H : P = Try.prog) (φ : Nat) (v1 : (List Int)) (v3 : Int) (y4 : (Int → Int → Option Int)) (sv2 : Value) (r : (List Int)) (h : z5v φ v1 v3 y4 = some r) : MutT P 74 [(eqv sv2), (iv .i64 v3), (fcmp P (fun x => (iv .i64 x)) y4)] 3 eI64 1 v1 sv2 (fun x l' => x = eqv (.tuple #[]) ∧ r = l') := by
 unfold z5v at h
 refine MutT.of_code 63 (fn74 H) rfl rfl (Nat.le_of_ble_eq_true rfl) fun w0 base r0 wI => ?_
 refine cl [0, 1, 2] [0] rfl rfl rfl (cs (cr [0] rfl (q1 rfl (z1 ct) (rn (al [0, 1, 2, 6] [0] rfl rfl rfl (sq (cs (cr [0, 1, 2] rfl (q1 rfl (z0 (mv rfl)) (q1 rfl (z1 ct) (q1 rfl (z1 (mv rfl)) ?_)))))))))))
 refine rn (al [0, 1, 2, 6, 7, 8] [0] rfl rfl rfl (sq (cs ?_)))
 refine z2.join (fun z : Int × (List Int) => (z11 φ v3 y4) z.1 z.2) r (fun z => ⟨zd.of [(0, (eqv sv2)), (1, (iv .i64 v3)), (2, (fcmp P (fun x => (iv .i64 x)) y4)), (6, (iv .i64 20)), (7, (iv .i64 z.1))], [(row 3 eI64 1 z.2 sv2)]⟩) (fun z h => ?_) (fun hJ7 => ?_)
 ·
  obtain ⟨v5, v6⟩ := z
  replace h : (z11 φ v3 y4) v5 v6 = some r := h
  unfold z11 at h
  refine al [0, 1, 2, 6, 7] [0] rfl rfl rfl (sq (cs (cr [0, 1, 2, 3, 4] rfl (q1 rfl (z0 (mv rfl)) (q1 rfl (z0 (mv rfl)) (q1 rfl (z0 (mv rfl)) (q1 rfl (z0 (mv rfl)) (zp h fun y8 ey8 h => n1 rfl (z3r 0 rfl (fun x => (z5m x).mem) (zrp H) (args := [(eqv sv2), (iv .i64 v5), (iv .i64 v3), (fcmp P (fun x => (iv .i64 x)) y4)]) ⟨(mv rfl), (mv rfl), (mv rfl), (mv rfl), trivial⟩ (z75 H φ v6 v5 v3 y4 sv2 _ ey8) fun x9 nw10 hk11 => ?_)))))))))
  obtain ⟨rfl, rfl⟩ := hk11
  refine ⟨z5, ?_⟩
  refine rn (al [0, 1, 2, 6] [0] rfl rfl rfl (sq (z2.block ?_)))
  refine z2.to (z2.loop (fun n (z : Int × (List Int)) => zl φ v3 y4 n z.1 z.2) r (fun z => ⟨zd.of [(0, (eqv sv2)), (1, (iv .i64 v3)), (2, (fcmp P (fun x => (iv .i64 x)) y4)), (6, (iv .i64 z.1))], [(row 3 eI64 1 z.2 sv2)]⟩) (fun z => rfl) (fun n14 z ih14 h => ?_) φ (20, y8) h) [0] (sl rfl) (ol rfl) rfl
  obtain ⟨v12, v13⟩ := z
  replace h : zl φ v3 y4 (n14 + 1) v12 v13 = some r := h
  rw [zl] at h
  refine cs (cs (cr [0, 1, 2] rfl (q1 rfl (z0 (mv rfl)) (q1 rfl (z0 (mv rfl)) (q1 rfl (z10 (mv rfl) (mv rfl)) (rn (al [0, 1, 2, 6, 30] [0] rfl rfl rfl (sq ?_))))))))
  refine cI h rfl (fun c15 h => ?_) (fun c15 h => ?_)
  ·
   refine z2.skip (al [0, 1, 2, 6] [0] rfl rfl rfl (sq (z2.block (cs (cr [0, 1, 2, 3] rfl (q1 rfl (z0 (mv rfl)) (q1 rfl (zae ct (mv rfl)) (q1 rfl (z1 ct) (q1 rfl (z1 (mv rfl)) (rn (al [0, 1, 2, 6, 7, 8] [0] rfl rfl rfl ?_)))))))))))
   refine sq (cs ?_)
   refine z2.join (fun z : Int × (List Int) => (z1u φ v3 y4 v12 (zl φ v3 y4 n14)) z.1 z.2) r (fun z => ⟨zd.of [(0, (eqv sv2)), (1, (iv .i64 v3)), (2, (fcmp P (fun x => (iv .i64 x)) y4)), (6, (iv .i64 v12)), (7, (iv .i64 z.1))], [(row 3 eI64 1 z.2 sv2)]⟩) (fun z h => ?_) (fun hJ18 => ?_)
   ·
    obtain ⟨v16, v17⟩ := z
    replace h : (z1u φ v3 y4 v12 (zl φ v3 y4 n14)) v16 v17 = some r := h
    unfold z1u at h
    refine al [0, 1, 2, 6, 7] [0] rfl rfl rfl (sq (cs (cs (cr [0, 1, 2, 3] rfl (q1 rfl (z0 (mv rfl)) (q1 rfl (z0 (mv rfl)) (q1 rfl (z0g (mv rfl) (mv rfl)) (q1 rfl (z1 (mv rfl)) (rn (al [0, 1, 2, 6, 7, 9] [0] rfl rfl rfl (sq ?_)))))))))))
    refine cs (cr [0, 1, 2] rfl (q1 rfl (z0 (mv rfl)) (q1 rfl (z0 (mv rfl)) (q1 rfl (z10 (mv rfl) (mv rfl)) (rn (al [0, 1, 2, 6, 7, 9, 54] [0] rfl rfl rfl (sq ?_)))))))
    refine z2.join (fun z : (List Int) => (z2z φ v12 (zl φ v3 y4 n14)) z) r (fun z => ⟨zd.of [(0, (eqv sv2)), (1, (iv .i64 v3)), (2, (fcmp P (fun x => (iv .i64 x)) y4)), (6, (iv .i64 v12))], [(row 3 eI64 1 z sv2)]⟩) (fun v19 h => ?_) (fun hJ20 => ?_)
    ·
     replace h : (z2z φ v12 (zl φ v3 y4 n14)) v19 = some r := h
     unfold z2z at h
     refine al [0, 1, 2, 6] [0] rfl rfl rfl (sq (cr [0, 1, 2] rfl (q1 rfl (z0 (mv rfl)) (q1 rfl (zae (mv rfl) ct) (q1 rfl (z1 (mv rfl)) (rn (AtX.in_normal ?_)))))))
     exact AtX.to (ih14 ((W (v12 * 2)), v19) h) [0] (sl rfl) (ol rfl) rfl
    ·
     refine cI h rfl (fun c21 h => ?_) (fun c21 h => ?_)
     ·
      refine cr [0, 1, 2, 3, 4, 5] rfl (q1 rfl (z0 (mv rfl)) (q1 rfl (z0 (mv rfl)) (q1 rfl (z0 (mv rfl)) (q1 rfl (z0 (mv rfl)) (q1 rfl (z0 (mv rfl)) (zp h fun y22 ey22 h => n1 rfl (z3r 0 rfl (fun x => (z5m x).mem) (zn9 H) (args := [(eqv sv2), (iv .i64 v16), (iv .i64 (W (v16 + v12))), (iv .i64 v3), (fcmp P (fun x => (iv .i64 x)) y4)]) ⟨(mv rfl), (mv rfl), (mv rfl), (mv rfl), (mv rfl), trivial⟩ (z88 H φ v17 v16 (W (v16 + v12)) v3 y4 sv2 _ ey22) fun x23 nw24 hk25 => ?_)))))))
      obtain ⟨rfl, rfl⟩ := hk25
      refine ⟨z5, ?_⟩
      refine rn ?_
      exact AtX.to (hJ20 y22 h) [0] (sl rfl) (ol rfl) rfl
     ·
      refine z2.skip ?_
      exact AtX.to (hJ20 v17 h) [0] (sl rfl) (ol rfl) rfl
   ·
    refine z2.block ?_
    refine z2.to (z2.loop (fun n (z : Int × Int × (List Int)) => z2m φ v3 y4 v12 (z1u φ v3 y4 v12 (zl φ v3 y4 n14)) n z.1 z.2.1 z.2.2) r (fun z => ⟨zd.of [(0, (eqv sv2)), (1, (iv .i64 v3)), (2, (fcmp P (fun x => (iv .i64 x)) y4)), (6, (iv .i64 v12)), (7, (iv .i64 z.1)), (8, (iv .i64 z.2.1))], [(row 3 eI64 1 z.2.2 sv2)]⟩) (fun z => rfl) (fun n29 z ih29 h => ?_) φ (0, (W (2 * v12)), v13) h) [0] (sl rfl) (ol rfl) rfl
    obtain ⟨v26, v27, v28⟩ := z
    replace h : z2m φ v3 y4 v12 (z1u φ v3 y4 v12 (zl φ v3 y4 n14)) (n29 + 1) v26 v27 v28 = some r := h
    rw [z2m] at h
    refine cs (cs (cr [0, 1, 2] rfl (q1 rfl (z0 (mv rfl)) (q1 rfl (z0 (mv rfl)) (q1 rfl (zc4 (mv rfl) (mv rfl)) (rn (al [0, 1, 2, 6, 7, 8, 35] [0] rfl rfl rfl (sq ?_))))))))
    refine cI h rfl (fun c30 h => ?_) (fun c30 h => ?_)
    ·
     refine z2.skip (al [0, 1, 2, 6, 7, 8] [0] rfl rfl rfl (sq (z2.block (cs (cr [0, 1, 2, 3, 4, 5, 6, 7] rfl (q1 rfl (z0 (mv rfl)) (q1 rfl (z0 (mv rfl)) (q1 rfl (z0 (mv rfl)) (q1 rfl (z0 (mv rfl)) (q1 rfl (z0g (mv rfl) (mv rfl)) (q1 rfl (z0 (mv rfl)) ?_)))))))))))
     refine q1 rfl (z0 (mv rfl)) (zp h fun y31 ey31 h => n1 rfl (z3r 0 rfl (fun x => (z5m x).mem) (zn9 H) (args := [(eqv sv2), (iv .i64 v26), (iv .i64 (W (v26 + v12))), (iv .i64 v27), (fcmp P (fun x => (iv .i64 x)) y4)]) ⟨(mv rfl), (mv rfl), (mv rfl), (mv rfl), (mv rfl), trivial⟩ (z88 H φ v28 v26 (W (v26 + v12)) v27 y4 sv2 _ ey31) fun x32 nw33 hk34 => ?_))
     obtain ⟨rfl, rfl⟩ := hk34
     refine ⟨z5, ?_⟩
     refine rn (al [0, 1, 2, 6, 8] [0] rfl rfl rfl (sq (cs (cr [0, 1] rfl (q1 rfl (z0 (mv rfl)) (q1 rfl (z1 (mv rfl)) (rn (al [0, 1, 2, 6, 7, 8] [0] rfl rfl rfl (sq (cr [0, 1, 2, 3, 4] rfl (q1 rfl (z0 (mv rfl)) ?_)))))))))))
     refine q1 rfl (z0 (mv rfl)) (q1 rfl (zae ct (mv rfl)) (q1 rfl (z0g (mv rfl) (mv rfl)) (q1 rfl (z1 (mv rfl)) (rn (AtX.in_normal ?_)))))
     exact AtX.to (ih29 (v27, (W (v27 + (W (2 * v12)))), y31) h) [0] (sl rfl) (ol rfl) rfl
    ·
     refine z2.exit (AtX.then_exit (AtX.then_exit (AtX.in_hit ?_)))
     exact AtX.to (hJ18 (v26, v28) h) [0] (sl rfl) (ol rfl) rfl
  ·
   refine z2.exit (AtX.then_exit (AtX.then_exit (AtX.in_hit (AtX.fall' (eqv (.tuple #[])) (zq.zero Try.results74) [0] [(row 3 eI64 1 v13 sv2)] (ol rfl) rfl ?_))))
   obtain rfl := Option.some.inj h
   exact ⟨_, rfl, rfl, rfl⟩
 ·
  refine z2.block ?_
  refine z2.to (z2.loop (fun n (z : Int × Int × (List Int)) => z1q φ v3 y4 (z11 φ v3 y4) n z.1 z.2.1 z.2.2) r (fun z => ⟨zd.of [(0, (eqv sv2)), (1, (iv .i64 v3)), (2, (fcmp P (fun x => (iv .i64 x)) y4)), (6, (iv .i64 20)), (7, (iv .i64 z.1)), (8, (iv .i64 z.2.1))], [(row 3 eI64 1 z.2.2 sv2)]⟩) (fun z => rfl) (fun n38 z ih38 h => ?_) φ (0, 20, v1) h) [0] (sl rfl) (ol rfl) rfl
  obtain ⟨v35, v36, v37⟩ := z
  replace h : z1q φ v3 y4 (z11 φ v3 y4) (n38 + 1) v35 v36 v37 = some r := h
  rw [z1q] at h
  refine cs (cs (cr [0, 1, 2] rfl (q1 rfl (z0 (mv rfl)) (q1 rfl (z0 (mv rfl)) (q1 rfl (zc4 (mv rfl) (mv rfl)) (rn (al [0, 1, 2, 6, 7, 8, 13] [0] rfl rfl rfl (sq ?_))))))))
  refine cI h rfl (fun c39 h => ?_) (fun c39 h => ?_)
  ·
   refine z2.skip (al [0, 1, 2, 6, 7, 8] [0] rfl rfl rfl (sq (z2.block (cs (cr [0, 1, 2, 3, 4] rfl (q1 rfl (z0 (mv rfl)) (q1 rfl (z0 (mv rfl)) (q1 rfl (z0 (mv rfl)) (q1 rfl (z0 (mv rfl)) (zp h fun y40 ey40 h => n1 rfl (z3r 0 rfl (fun x => (z5m x).mem) (zrp H) (args := [(eqv sv2), (iv .i64 v35), (iv .i64 v36), (fcmp P (fun x => (iv .i64 x)) y4)]) ⟨(mv rfl), (mv rfl), (mv rfl), (mv rfl), trivial⟩ (z75 H φ v37 v35 v36 y4 sv2 _ ey40) fun x41 nw42 hk43 => ?_)))))))))))
   obtain ⟨rfl, rfl⟩ := hk43
   refine ⟨z5, ?_⟩
   refine rn (al [0, 1, 2, 6, 8] [0] rfl rfl rfl (sq (cs (cr [0, 1] rfl (q1 rfl (z0 (mv rfl)) (q1 rfl (z1 (mv rfl)) (rn (al [0, 1, 2, 6, 7, 8] [0] rfl rfl rfl (sq (cr [0, 1, 2, 3] rfl (q1 rfl (z0 (mv rfl)) ?_)))))))))))
   refine q1 rfl (z0 (mv rfl)) (q1 rfl (z0g (mv rfl) (mv rfl)) (q1 rfl (z1 (mv rfl)) (rn (AtX.in_normal ?_))))
   exact AtX.to (ih38 (v36, (W (v36 + 20)), y40) h) [0] (sl rfl) (ol rfl) rfl
  ·
   refine z2.exit (AtX.then_exit (AtX.then_exit (AtX.in_hit ?_)))
   exact AtX.to (hJ7 (v35, v37) h) [0] (sl rfl) (ol rfl) rfl
theorem zb0 {P : Program} (H : P = Try.prog) (φ : Nat) (v1 : (List Int)) (y3 : (Int → Int → Option Int)) (sv2 : Value) (r : (List Int)) (h : z48 φ v1 y3 = some r) : MutT P 51 [(eqv sv2), (fcmp P (fun x => (iv .i64 x)) y3)] 3 eI64 1 v1 sv2 (fun x l' => x = eqv (.tuple #[]) ∧ r = l') := by
 unfold z48 at h
 refine MutT.of_code 9 (fn51 H) rfl rfl (Nat.le_of_ble_eq_true rfl) fun w0 base r0 wI => ?_
 refine cl [0, 1] [0] rfl rfl rfl (cr [0, 1, 2, 3, 4] rfl (q1 rfl (z0 (mv rfl)) (q1 rfl (z0 (mv rfl)) (q1 rfl (z9e 0 (il96 H) (mv rfl) rfl) (q1 rfl (z0 (mv rfl)) (zp h fun y4 ey4 h => n1 rfl (z3r 0 rfl (fun x => (z5m x).mem) (zxh H) (args := [(eqv sv2), (iv .i64 (v1.length : Int)), (fcmp P (fun x => (iv .i64 x)) y3)]) ⟨(mv rfl), (mv rfl), (mv rfl), trivial⟩ (zb2 H φ v1 (v1.length : Int) y3 sv2 _ ey4) fun x5 nw6 hk7 => ?_)))))))
 obtain ⟨rfl, rfl⟩ := hk7
 refine ⟨z5, ?_⟩
 refine rn (AtX.fall' (eqv (.tuple #[])) (zq.zero Try.results51) [0] [(row 3 eI64 1 y4 sv2)] (ol rfl) rfl ?_)
 obtain rfl := Option.some.inj h
 exact ⟨_, rfl, rfl, rfl⟩
theorem zfb {P : Program} (H : P = Try.prog) (φ : Nat) (v1 : Pool) (v2 : zo) (r : (Bool)) (h : z8w φ v1 v2 = some r) : z0z P 53 [(agg (z2i v1)), (agg (zm v2))] (fun x news => x = (bv r) ∧ news = []) := by
 unfold z8w at h
 refine z0z.of_code' 49 (fn53 H) rfl rfl (Nat.le_of_ble_eq_true rfl) fun w0 base r0 wI => ?_
 refine cl [0, 1] [] rfl rfl rfl (cs (cr [0, 1, 2] rfl (n1 rfl (z7i (Ce.agg (mv rfl)) fun b3 => n1 rfl (z7i (Ce.agg (mv rfl)) fun b4 => q1 rfl (z1 ct) (rn (al [2, 3] [0, 1] rfl rfl rfl (sq (cs (ckE h fun h5 h => z2.draw (QR := [(0, _), (1, _), (2, _), (3, _), (4, _), (5, _), (6, _), (7, _), (8, _), (9, _), (10, _), (11, _), (12, _), (13, _)]) (tab := [(some 8, []), (some 9, [0]), (some 10, [1]), (some 11, []), (some 12, [3]), (some 13, [4]), (some 14, [2, 5]), (some 15, [6]), (some 16, []), (some 17, [8]), (some 18, [9]), (some 19, []), (some 20, [11]), (some 21, [12]), (some 5, []), (none, [14, 7, 0, 1, 2, 3, 4, 5, 6, 7, 14]), (some 6, [10, 15, 0, 1, 2, 3, 4, 5, 6, 7, 8, 9, 10, 14, 15]), (some 7, [13, 16, 0, 1, 2, 3, 4, 5, 6, 7, 8, 9, 10, 11, 12, 13, 14, 15, 16])]) (z5h H) (Reg.intro [14] [] (by kernel_rfl) rfl (an rfl) ⟨(qr rfl (z3 (zar H) (mv rfl))), (qr rfl (z3 (zat H) (mv rfl))), (qr rfl (lb (tl22 H) 0 (mv rfl) rfl rfl)), (qr rfl (z3 (z6x H) (mv rfl))), (qr rfl (z3 (zc8 H) (mv rfl))), (qr rfl (lb (tl3 H) 1 (mv rfl) rfl rfl)), (qr rfl (zn (ix22 H) (mv rfl) (mv rfl) (h5).1 (z8 h5))), (qr rfl (ln (tl68 H) (Pt.rop (mv rfl)) rfl)), (qr rfl (z3 (z9x H) (mv rfl))), (qr rfl (z3 (zaq H) (mv rfl))), (qr rfl (lb (tl3 H) 1 (mv rfl) rfl rfl)), (qr rfl (z3 (z6x H) (mv rfl))), (qr rfl (z3 (zdb H) (mv rfl))), (qr rfl (lb (tl3 H) 1 (mv rfl) rfl rfl)), trivial⟩ ⟨⟨_, rfl, rfl, rfl, rfl, z38 _ (ze68 H) rfl fun b8 => ⟨[], rfl, ?_⟩⟩, trivial⟩ ft)))))))))))
 refine Reg.intro [15] [] (by kernel_rfl) rfl (an rfl) ⟨(qr rfl (z3 (zar H) (mv rfl))), (qr rfl (z3 (zat H) (mv rfl))), (qr rfl (lb (tl22 H) 0 (mv rfl) rfl rfl)), (qr rfl (z3 (z6x H) (mv rfl))), (qr rfl (z3 (zc8 H) (mv rfl))), (qr rfl (lb (tl3 H) 1 (mv rfl) rfl rfl)), (qr rfl (zn (ix22 H) (mv rfl) (mv rfl) (h5).1 (z8 h5))), (qr rfl (ln (tl68 H) (Pt.rop (mv rfl)) rfl)), (qr rfl (z3 (z9x H) (mv rfl))), (qr rfl (z3 (zaq H) (mv rfl))), (qr rfl (lb (tl3 H) 1 (mv rfl) rfl rfl)), (qr rfl (z3 (z6x H) (mv rfl))), (qr rfl (z3 (zdb H) (mv rfl))), (qr rfl (lb (tl3 H) 1 (mv rfl) rfl rfl)), trivial⟩ ⟨⟨_, rfl, rfl, rfl, rfl, sto 2 (tl68 H) (mv rfl) (Ce.agg (mv rfl)) rfl rfl rfl rfl ⟨[(16, (iv .i64 v2.fRef.fRailway)), (17, (iv .i64 v2.fItem.fOther))], rfl, ?_⟩⟩, trivial⟩ ft
 refine Reg.intro [] [0, 1, 2, 3, 4, 5, 6, 7] (by kernel_rfl) rfl (an rfl) ⟨nf, nf, nf, nf, nf, nf, nf, nf, (qr rfl (z3 (z9x H) (mv rfl))), (qr rfl (z3 (zaq H) (mv rfl))), (qr rfl (lb (tl3 H) 1 (mv rfl) rfl rfl)), (qr rfl (z3 (z6x H) (mv rfl))), (qr rfl (z3 (zdb H) (mv rfl))), (qr rfl (lb (tl3 H) 1 (mv rfl) rfl rfl)), (qr rfl (z1 (mv rfl))), (qr rfl (z1 (mv rfl))), trivial⟩ trivial (fun _ => al [5, 6, 7] [2] rfl rfl rfl (sq (cs (cr [0, 1, 2, 3, 4, 5, 6, 7, 8, 9, 10, 11, 12, 13, 14, 15, 16, 17, 18, 19, 20, 21, 22, 23, 24, 25, 26, 27] rfl (q1 rfl (z0 (mv rfl)) (q1 rfl (z0 (mv rfl)) (q1 rfl (z6g (mv rfl) (mv rfl)) (q1 rfl (z0 (mv rfl)) (g1 rfl rfl (fun g10 => z3 (zd6 H) (mv rfl)) (g1 rfl rfl (fun g11 => lb (tl3 H) 0 (mc rfl g11) rfl rfl) (g1 rfl rfl (fun g12 => z0 (mv rfl)) ?_)))))))))))
 refine g1 rfl rfl (fun g13 => z61 (mc rfl g13) (mc rfl g13)) (g1 rfl rfl (fun g14 => z0 (mc rfl g14)) (gc rfl rfl (fun g15 => (z3 (zd0 H) (mv rfl))) (gc rfl rfl (fun g16 => (lb (tl3 H) 0 (mc rfl ⟨g16.1, g16.2⟩) rfl rfl)) (gc rfl rfl (fun g17 => (z0 (mv rfl))) (gc rfl rfl (fun g18 => (z61 (mc rfl ⟨g18.1, g18.2⟩) (mc rfl ⟨g18.1, g18.2⟩))) (g1 rfl rfl (fun g19 => z36 (mc rfl g19) (fun g20 => (mc rfl ⟨g19, g20⟩)) ct) (g1 rfl rfl (fun g21 => z0 (mc rfl g21)) (gc rfl rfl (fun g22 => (z3 (zd6 H) (mv rfl))) (gc rfl rfl (fun g23 => (lb (tl3 H) 0 (mc rfl ⟨g23.1, g23.2⟩) rfl rfl)) (gc rfl rfl (fun g24 => (z0 (mv rfl))) (gc rfl rfl (fun g25 => (z61 (mc rfl ⟨g25.1, g25.2⟩) (mc rfl ⟨g25.1, g25.2⟩))) ?_)))))))))))
 refine gc rfl rfl (fun g26 => (z0 (mc rfl ⟨g26.1, g26.2⟩))) (gc rfl rfl (fun g27 => (z3 (zd0 H) (mv rfl))) (gc rfl rfl (fun g28 => (lb (tl3 H) 0 (mc rfl ⟨⟨g28.1.1, g28.1.2⟩, g28.2⟩) rfl rfl)) (gc rfl rfl (fun g29 => (z0 (mv rfl))) (gc rfl rfl (fun g30 => (z61 (mc rfl ⟨⟨g30.1.1, g30.1.2⟩, g30.2⟩) (mc rfl ⟨⟨g30.1.1, g30.1.2⟩, g30.2⟩))) (gc rfl rfl (fun g31 => (z36 (mc rfl ⟨g31.1, g31.2⟩) (fun g32 => (mc rfl ⟨⟨g31.1, g31.2⟩, g32⟩)) ct)) (g1 rfl rfl (fun g33 => opOr (mc rfl g33) ct (fun g34 => (mc rfl ⟨g33, g34⟩))) (q1 rfl (z36 (mv rfl) (fun g35 => (mc rfl g35)) ct) (q1 rfl (z1 (mv rfl)) (rn (al [4] [] rfl rfl rfl (sq ?_)))))))))))
 refine z2.ret (AtX.ret' (bv ((v2.fRef.fRailway != v2.fItem.fOther) && ((((gt v1.fNetwork.fPlaces v2.fItem.fPlace).fRailway == v2.fRef.fRailway) && ((gt v1.fNetwork.fPlaces v2.fItem.fPlace).fOther == v2.fItem.fOther)) || (((gt v1.fNetwork.fPlaces v2.fItem.fPlace).fRailway == v2.fItem.fOther) && ((gt v1.fNetwork.fPlaces v2.fItem.fPlace).fOther == v2.fRef.fRailway))))) (zq.one Try.results53 rfl) [] [] trivial rfl ?_)
 obtain rfl := Option.some.inj h
 exact ⟨rfl, rfl⟩
theorem zbb {P : Program} (H : P = Try.prog) (φ : Nat) (v1 : zo) (v2 : zo) (r : (Int)) (h : z9s φ v1 v2 = some r) : z0z P 54 [(agg (zm v1)), (agg (zm v2))] (fun x news => x = (iv .i64 r) ∧ news = []) := by
 unfold z9s at h
 refine z0z.of_code' 20 (fn54 H) rfl rfl (Nat.le_of_ble_eq_true rfl) fun w0 base r0 wI => ?_
 refine cl [0, 1] [] rfl rfl rfl (cs (cr [0, 1, 2] rfl (n1 rfl (z7i (Ce.agg (mv rfl)) fun b3 => n1 rfl (z7i (Ce.agg (mv rfl)) fun b4 => q1 rfl (z1 ct) (rn (al [2, 3] [0, 1] rfl rfl rfl (sq (cs (cr [0, 1, 2, 3, 4, 5, 6, 7, 8, 9, 10, 11, 12, 13, 14, 15] rfl (q1 rfl (z3 (z6x H) (mv rfl)) ?_)))))))))))
 refine q1 rfl (z3 (zbx H) (mv rfl)) (q1 rfl (lb (tl3 H) 0 (mv rfl) rfl rfl) (q1 rfl (z3 (z6x H) (mv rfl)) (q1 rfl (z3 (zbx H) (mv rfl)) (q1 rfl (lb (tl3 H) 1 (mv rfl) rfl rfl) (q1 rfl (z2f (mv rfl) (mv rfl)) (q1 rfl (z3 (z6x H) (mv rfl)) (q1 rfl (z3 (zbx H) (mv rfl)) (q1 rfl (lb (tl3 H) 1 (mv rfl) rfl rfl) (q1 rfl (z3 (z6x H) (mv rfl)) (q1 rfl (z3 (zbx H) (mv rfl)) (q1 rfl (lb (tl3 H) 0 (mv rfl) rfl rfl) ?_)))))))))))
 refine q1 rfl (z2f (mv rfl) (mv rfl)) (q1 rfl (zoj (n := [(W (v2.fItem.fFrom - v1.fItem.fFrom))]) (mv rfl) ⟨(mv rfl), trivial⟩) (q1 rfl (z1 (mv rfl)) (rn (al [4] [] rfl rfl rfl (sq (z2.ret (AtX.ret' (iv .i64 (max2 (W (v1.fItem.fFrom - v2.fItem.fFrom)) (W (v2.fItem.fFrom - v1.fItem.fFrom)))) (zq.one Try.results54 rfl) [] [] trivial rfl ?_)))))))
 obtain rfl := Option.some.inj h
 exact ⟨rfl, rfl⟩
theorem zdu {P : Program} (H : P = Try.prog) (φ : Nat) (v1 : Int) (v2 : Int) (v3 : (List zo)) (r : (Int)) (h : z4v φ v1 v2 v3 = some r) : z0z P 52 [(iv .i64 v1), (iv .i64 v2), (rop [(ro zm 21 v3)])] (fun x news => x = (iv .i64 r) ∧ news = []) := by
 unfold z4v at h
 refine z0z.of_code' 32 (fn52 H) rfl rfl (Nat.le_of_ble_eq_true rfl) fun w0 base r0 wI => ?_
 refine cl [0, 1, 2] [] rfl rfl rfl (cs (cr [0] rfl (q1 rfl (z1 ct) (rn (al [0, 1, 2] [] rfl rfl rfl (sq (cs (ckE h fun h4 h => ckE h fun h5 h => zp h fun y6 ey6 h => zp h fun y7 ey7 h => ?_))))))))
 refine zp h fun y11 ey11 h => z2.draw (QR := [(0, _), (1, _), (2, _), (3, _), (4, _), (5, _), (6, _), (7, _), (8, _), (9, _), (10, _), (11, _), (12, _), (13, _), (14, _), (15, _), (16, _), (17, _), (18, _), (19, _), (20, _), (21, _), (22, _), (23, _)]) (tab := [(some 6, []), (some 7, []), (some 8, [0, 1]), (some 9, [2]), (some 10, [3]), (some 11, [4]), (some 12, []), (some 13, []), (some 14, [6, 7]), (some 15, [8]), (some 16, [9]), (some 17, [10]), (some 18, [5, 11]), (some 19, []), (some 20, []), (some 21, [13, 14]), (some 22, [15]), (some 23, [16]), (some 24, []), (some 25, []), (some 26, [18, 19]), (some 27, [20]), (some 28, [21]), (some 29, [17, 22, 12]), (some 30, [12, 23]), (some 31, [24, 23]), (some 5, [25, 25, 0, 1, 2, 3, 4, 5, 6, 7, 8, 9, 10, 11, 12, 13, 14, 15, 16, 17, 18, 19, 20, 21, 22, 23, 24, 25])]) (z5h H) (Reg.intro [24] [] (by kernel_rfl) rfl (an rfl) ⟨(qr rfl (lr (tl37 H) (mv rfl))), (qr rfl (z0 (mv rfl))), (qr rfl (zn (ix37 H) (mv rfl) (mv rfl) (h4).1 (z8 h4))), (qr rfl (z2a (z6x H) (mv rfl) (cs' := (zcm (gt v3 v1).fItem)) 16 rfl)), (qr rfl (z2a (zbx H) (mv rfl) (cs' := [(iv .i64 ((gt v3 v1).fItem.fFrom))]) 1 rfl)), (qr rfl (lr (tl3 H) (mv rfl))), (qr rfl (lr (tl37 H) (mv rfl))), (qr rfl (z0 (mv rfl))), (qr rfl (zn (ix37 H) (mv rfl) (mv rfl) (h5).1 (z8 h5))), (qr rfl (z2a (z6x H) (mv rfl) (cs' := (zcm (gt v3 v2).fItem)) 16 rfl)), (qr rfl (z2a (zbx H) (mv rfl) (cs' := [(iv .i64 ((gt v3 v2).fItem.fFrom))]) 1 rfl)), (qr rfl (lr (tl3 H) (mv rfl))), (qr rfl (oQ (zji H) (z8j H φ ((gt v3 v1).fItem.fFrom) ((gt v3 v2).fItem.fFrom) _ ey6) z5 ⟨ef (mv rfl), ef (mv rfl), trivial⟩)), (qr rfl (lr (tl37 H) (mv rfl))), (qr rfl (z0 (mv rfl))), (qr rfl (zn (ix37 H) (mv rfl) (mv rfl) (h4).1 (z8 h4))), (qr rfl (z2a (z9x H) (mv rfl) (cs' := (eRef (gt v3 v1).fRef)) 2 rfl)), (qr rfl (ln (tl43 H) (Pt.rop (mv rfl)) rfl)), (qr rfl (lr (tl37 H) (mv rfl))), (qr rfl (z0 (mv rfl))), (qr rfl (zn (ix37 H) (mv rfl) (mv rfl) (h5).1 (z8 h5))), (qr rfl (z2a (z9x H) (mv rfl) (cs' := (eRef (gt v3 v2).fRef)) 2 rfl)), (qr rfl (ln (tl43 H) (Pt.rop (mv rfl)) rfl)), (qr rfl (oQ (zn3 H) (z98 H φ ((gt v3 v1).fRef) ((gt v3 v2).fRef) _ ey7) z5 ⟨ef (mv rfl), ef (mv rfl), trivial⟩)), trivial⟩ ⟨⟨_, rfl, rfl, rfl, rfl, z2d [y6, y7] (sl96 H) lI64 rfl (by decide) ⟨rfl, (Ce.one (mv rfl) (One.eqv rfl)), ⟨rfl, (Ce.one (mv rfl) (One.eqv rfl)), trivial⟩⟩ fun sv10 => ⟨[(25, (iv .i64 y11)), (26, (iv .i64 y11))], rfl, ?_⟩⟩, trivial⟩ ft)
 refine Reg.intro [] [0, 1, 2, 3, 4, 5, 6, 7, 8, 9, 10, 11, 12, 13, 14, 15, 16, 17, 18, 19, 20, 21, 22, 23] (by kernel_rfl) rfl (an rfl) ⟨nf, nf, nf, nf, nf, nf, nf, nf, nf, nf, nf, nf, nf, nf, nf, nf, nf, nf, nf, nf, nf, nf, nf, nf, (qr rfl (oQ (znl H) (zey H φ [y6, y7] _ ey11) z5 ⟨EvF.of (mv rfl) (FEnt.row 0 lI64 rfl), trivial⟩)), (qr rfl (z1 (mv rfl))), trivial⟩ trivial (fun _ => al [5] [] rfl rfl rfl (sq (z2.ret (AtX.ret' (iv .i64 y11) (zq.one Try.results52 rfl) [] [] trivial rfl ?_))))
 obtain rfl := Option.some.inj h
 exact ⟨rfl, rfl⟩
theorem zcd {P : Program} (H : P = Try.prog) (φ : Nat) (v1 : Pool) (v2 : (List zo)) (r : ((List (Nat → Int)))) (h : z5t φ v1 v2 = some r) : z0z P 31 [(agg (z2i v1)), (ro zm 21 v2)] (zgm r) := by
 unfold z5t at h
 refine z0z.of_code' 137 (fn31 H) rfl rfl (Nat.le_of_ble_eq_true rfl) fun w0 base r0 wI => ?_
 refine cl [0, 1] [] rfl rfl rfl (cs (z2.addNil 89 z5s 2 (cr [0, 1, 2] rfl (n1 rfl (z7i (Ce.agg (mv rfl)) fun b3 => n1 rfl (z7i (Ce.one (mv rfl) One.ro) fun b4 => q1 rfl (z1 ct) (rn (al [2, 3] [1, 2] rfl rfl rfl (sq (cs (cs ?_)))))))))))
 refine cr [0, 1, 2] rfl (q1 rfl (ln (tl36 H) ((Pt.box 0 (mv rfl) rfl rfl).take 9 (cs' := (z2i v1)) rfl) rfl) (zp h fun y5 ey5 h => q1 rfl (oQ (zn7 H) (z8n H φ v1 _ ey5) z5 ⟨ef (mv rfl), trivial⟩) (q1 rfl (z6g (mv rfl) ct) (rn (al [2, 3, 18] [0, 1] rfl rfl rfl (sq ?_))))))
 refine cI h rfl (fun c6 h => ?_) (fun c6 h => ?_)
 ·
  refine cs (z2.addNil 89 z5s 2 (cr [0] rfl (q1 rfl (z1 ct) (rn (al [4] [2] rfl rfl rfl (sq (z2.ret (AtX.then_ret (AtX.ret' (eqv (Value.slice none 0 0)) (zq.one Try.results31 rfl) [0] [(row 89 z5s 2 ([] : List (Nat → Int)) (Value.slice none 0 0))] (ol rfl) rfl ?_)))))))))
  obtain rfl := Option.some.inj h
  exact ⟨(Value.slice none 0 0), rfl, rfl⟩
 ·
  refine z2.skip (al [2, 3] [0, 1] rfl rfl rfl (sq (cs (zp h fun y8 ey8 h => z2.draw (QR := [(0, _), (1, _), (3, _), (4, _)]) (tab := [(some 19, []), (some 20, []), (some 21, [0, 1]), (some 22, []), (some 23, []), (some 24, [3, 4, 2]), (some 5, [2, 5, 0, 1, 2]), (some 6, [5, 6, 0, 1, 2, 3, 4, 5, 6])]) (z5h H) (Reg.intro [2] [] (by kernel_rfl) rfl (an rfl) ⟨(qr rfl (ln (tl36 H) ((Pt.box 0 (mv rfl) rfl rfl).take 9 (cs' := (z2i v1)) rfl) rfl)), (qr rfl (lb (tl37 H) 1 (mv rfl) rfl rfl)), (qr rfl (ln (tl36 H) ((Pt.box 0 (mv rfl) rfl rfl).take 9 (cs' := (z2i v1)) rfl) rfl)), (qr rfl (lb (tl37 H) 1 (mv rfl) rfl rfl)), trivial⟩ ⟨⟨_, rfl, rfl, rfl, rfl, oF (znq H) (zaj H φ v1 v2 3 _ ey8) ⟨ef (mv rfl), ef (mv rfl), ef ct, trivial⟩ fun x11 nw12 hk10 => ?_⟩, trivial⟩ ft)))))
  obtain ⟨sv9, rfl, rfl⟩ := hk10
  refine ⟨z5, z6h ⟨z5d z5m, trivial⟩, ⟨[], rfl, ?_⟩⟩
  refine zp h fun y14 ey14 h => Reg.intro [5] [0, 1] (by kernel_rfl) rfl (an rfl) ⟨nf, nf, (qr rfl (ln (tl36 H) ((Pt.box 0 (mv rfl) rfl rfl).take 9 (cs' := (z2i v1)) rfl) rfl)), (qr rfl (lb (tl37 H) 1 (mv rfl) rfl rfl)), trivial⟩ ⟨⟨_, rfl, rfl, rfl, rfl, oF (znq H) (zaj H φ v1 v2 4 _ ey14) ⟨ef (mv rfl), ef (mv rfl), ef ct, trivial⟩ fun x17 nw18 hk16 => ?_⟩, trivial⟩ ft
  obtain ⟨sv15, rfl, rfl⟩ := hk16
  refine ⟨z5, z6h ⟨z5d z5m, trivial⟩, ⟨[(6, (eqv sv9)), (7, (eqv sv15))], rfl, ?_⟩⟩
  refine Reg.intro [] [0, 1, 3, 4] (by kernel_rfl) rfl (an rfl) ⟨nf, nf, nf, nf, (qr rfl (z1 (mv rfl))), (qr rfl (z1 (mv rfl))), trivial⟩ trivial (fun _ => al [2, 3, 5, 6] [0, 1, 2, 3] rfl rfl rfl (sq (cs (cr [0, 1, 2] rfl (q1 rfl (z0 (mv rfl)) (q1 rfl (zfv (vs := #[(.pointer (some ⟨b4, 0, none⟩))]) (fun a r w hs => capN ⟨Ev.val (mv rfl) a r w hs, trivial⟩)) (ze.freezeB 1 [(3, (rop [(ro zm 21 v2)])), (26, (fnc 52 [(rop [(ro zm 21 v2)])]))] [(box b3 36 (z2i v1)), emp, (row 3 eI64 1 y8 sv9), (row 3 eI64 1 y14 sv15)] rfl ⟨⟨_, rfl, FzV.here⟩, ⟨_, rfl, (FzV.fnc ⟨FzV.here, trivial⟩)⟩, trivial⟩ ⟨FzH.refl, FzH.emp, FzH.refl, FzH.refl, trivial⟩ (zp h fun y19 ey19 h => n1 rfl (z3r 2 rfl (fun x => (z5m x).mem) (zvl H) (args := [(eqv sv9), (fcmp P (fun x => (iv .i64 x)) (fun a b => z4v φ a b v2))]) ⟨(mv rfl), (Ev.ent (mv rfl) (zea (zx2 H) (fun a b cc hc => zdu H φ a b v2 cc hc))), trivial⟩ (zb0 H φ y8 (fun a b => z4v φ a b v2) sv9 _ ey19) fun x20 nw21 hk22 => ?_)))))))))
  obtain ⟨rfl, rfl⟩ := hk22
  refine ⟨z5, ?_⟩
  refine rn (al [2, 3, 5, 6] [0, 2, 3] rfl rfl rfl (sq (cs (cr [0, 1] rfl (n1 rfl (zln (eK := (Value.int .i64)) (eV := Value.bool) fun b23 => q1 rfl (z1 (mv rfl)) (rn (al [2, 3, 5, 6, 7] [0, 1, 2, 3] rfl rfl rfl (sq (cs (z2.addNil 89 z5s 2 ?_)))))))))))
  refine cr [0] rfl (q1 rfl (z1 ct) (rn (al [2, 3, 5, 6, 7, 8] [0, 1, 2, 3, 4] rfl rfl rfl (sq (cs (cs (cr [0, 1, 2] rfl (q1 rfl (z0 (mv rfl)) (q1 rfl (z9e 1 (il96 H) (mv rfl) rfl) (q1 rfl (z0 ct) (rn ?_)))))))))))
  refine al [2, 3, 6, 7, 8, 29, 30, 31] [0, 1, 2, 3, 4] rfl rfl rfl (sq ?_)
  refine z2.join (fun z : (List (Nat → Int)) × Value => (z1b φ) z.1) r (fun z => ⟨zd.of [(8, (eqv z.2))], [(row 89 z5s 2 z.1 z.2)]⟩) (fun z h => ?_) (fun hJ26 => ?_)
  ·
   obtain ⟨v24, sv25⟩ := z
   replace h : (z1b φ) v24 = some r := h
   unfold z1b at h
   refine al [8] [0] rfl rfl rfl (sq (cs (cr [0, 1] rfl (q1 rfl (z0 (mv rfl)) (q1 rfl (z1 (mv rfl)) (rn (al [4] [0] rfl rfl rfl (sq (z2.ret (AtX.ret' (eqv sv25) (zq.one Try.results31 rfl) [0] [(row 89 z5s 2 v24 sv25)] (ol rfl) rfl ?_))))))))))
   obtain rfl := Option.some.inj h
   exact ⟨sv25, rfl, rfl⟩
  ·
   refine z2.block ?_
   refine z2.to (z2.loop (fun n (z : Int × (List (Int × Bool)) × (List (Nat → Int)) × Value) => z0p φ v1 v2 y14 y19 (z1b φ) n z.1 z.2.1 z.2.2.1) r (fun z => ⟨zd.of [(2, (eqv (.pointer (some ⟨b3, 0, none⟩)))), (3, (rop [(ro zm 21 v2)])), (6, (eqv sv15)), (7, (eqv (.map (some b23)))), (8, (eqv z.2.2.2)), (29, (eqv sv9)), (30, (iv .i64 (y19.length : Int))), (31, (iv .i64 z.1))], [(box b3 36 (z2i v1)), (row 3 eI64 1 y19 sv9), (row 3 eI64 1 y14 sv15), (mapo b23 (Value.int .i64) Value.bool z.2.1), (row 89 z5s 2 z.2.2.1 z.2.2.2)]⟩) (fun z => rfl) (fun n31 z ih31 h => ?_) φ (0, ([] : List (Int × Bool)), ([] : List (Nat → Int)), (Value.slice none 0 0)) h) [0, 1, 2, 3, 4] (sl rfl) (ol rfl) rfl
   obtain ⟨v27, v28, v29, sv30⟩ := z
   replace h : z0p φ v1 v2 y14 y19 (z1b φ) (n31 + 1) v27 v28 v29 = some r := h
   rw [z0p] at h
   refine cs (cr [0] rfl (q1 rfl (z10 (mv rfl) (mv rfl)) (rn (al [2, 3, 6, 7, 8, 29, 30, 31, 32] [0, 1, 2, 3, 4] rfl rfl rfl (sq (cs ?_))))))
   refine cI h rfl (fun c32 h => ?_) (fun c32 h => ?_)
   ·
    refine z2.skip (al [2, 3, 6, 7, 8, 29, 30, 31] [0, 1, 2, 3, 4] rfl rfl rfl (sq (cs ?_)))
    refine z2.join (fun z : (List (Int × Bool)) × (List (Nat → Int)) × Value => (z20 φ v27 (z0p φ v1 v2 y14 y19 (z1b φ) n31)) z.1 z.2.1) r (fun z => ⟨zd.of [(2, (eqv (.pointer (some ⟨b3, 0, none⟩)))), (3, (rop [(ro zm 21 v2)])), (6, (eqv sv15)), (7, (eqv (.map (some b23)))), (8, (eqv z.2.2)), (29, (eqv sv9)), (30, (iv .i64 (y19.length : Int))), (31, (iv .i64 v27))], [(box b3 36 (z2i v1)), (row 3 eI64 1 y19 sv9), (row 3 eI64 1 y14 sv15), (mapo b23 (Value.int .i64) Value.bool z.1), (row 89 z5s 2 z.2.1 z.2.2)]⟩) (fun z h => ?_) (fun hJ36 => ?_)
    ·
     obtain ⟨v33, v34, sv35⟩ := z
     replace h : (z20 φ v27 (z0p φ v1 v2 y14 y19 (z1b φ) n31)) v33 v34 = some r := h
     unfold z20 at h
     refine al [2, 3, 6, 7, 8, 29, 30, 31] [0, 1, 2, 3, 4] rfl rfl rfl (sq (cr [0, 1] rfl (q1 rfl (z0g (mv rfl) ct) (q1 rfl (z0 (mv rfl)) (rn ?_)))))
     exact AtX.to (ih31 ((W (v27 + 1)), v33, v34, sv35) h) [0, 1, 2, 3, 4] (sl rfl) (ol rfl) rfl
    ·
     refine z2.block (cs (cr [0, 1, 2] rfl (ckE h fun h37 h => q1 rfl (zb 1 (ix96 H) (mv rfl) rfl (mv rfl) (h37).1 (h37).2) (q1 rfl (lw0 (tl3 H) 1 lI64 (mv rfl) rfl (z8 h37) rfl rfl) (q1 rfl (z1 (mv rfl)) (rn (al [2, 3, 6, 7, 8, 10, 29, 30, 31] [0, 1, 2, 3, 4] rfl rfl rfl (sq (z2.scope (cs ?_))))))))))
     refine cr [0, 1, 2, 3, 4, 5] rfl (q1 rfl (lr (tl37 H) (mv rfl)) (q1 rfl (z0 (mv rfl)) (ckE h fun h38 h => q1 rfl (zn (ix37 H) (mv rfl) (mv rfl) (h38).1 (z8 h38)) (q1 rfl (ln (tl48 H) (Pt.rop (mv rfl)) rfl) (n1 rfl (z38 _ (ze48 H) rfl fun b39 => n1 rfl (sto 5 (tl48 H) (mv rfl) (Ce.agg (mv rfl)) rfl rfl rfl rfl (rn (al [2, 3, 6, 7, 8, 10, 11, 29, 30, 31] [0, 1, 2, 3, 4, 5] rfl rfl rfl (sq (cs ?_)))))))))))
     refine cs (cr [0, 1, 2, 3] rfl (q1 rfl (ln (tl36 H) ((Pt.box 0 (mv rfl) rfl rfl).take 9 (cs' := (z2i v1)) rfl) rfl) (q1 rfl (ln (tl48 H) ((Pt.box 5 (mv rfl) rfl rfl).take 21 (cs' := (zm (gt v2 (gt y19 v27)))) rfl) rfl) (zp h fun y40 ey40 h => q1 rfl (oQ (zw4 H) (zfb H φ v1 (gt v2 (gt y19 v27)) _ ey40) z5 ⟨ef (mv rfl), ef (mv rfl), trivial⟩) (q1 rfl (z79 (mv rfl)) (rn (al [2, 3, 6, 7, 8, 10, 11, 29, 30, 31, 42] [0, 1, 2, 3, 4, 5] rfl rfl rfl (sq ?_))))))))
     refine cI h rfl (fun c41 h => ?_) (fun c41 h => ?_)
     ·
      refine z2.exit (AtX.then_exit (AtX.ng_exit (AtX.in_hit ?_)))
      exact AtX.to (hJ36 (v28, v29, sv30) h) [0, 1, 2, 3, 4] (sl rfl) (ol rfl) rfl
     ·
      refine z2.skip (al [2, 3, 6, 7, 8, 10, 11, 29, 30, 31] [0, 1, 2, 3, 4, 5] rfl rfl rfl (sq (cs (cr [0] rfl (q1 rfl (z1 ct) (rn (al [2, 3, 6, 7, 8, 10, 11, 12, 29, 30, 31] [0, 1, 2, 3, 4, 5] rfl rfl rfl (sq (cs (z2.label (al [2, 3, 6, 7, 8, 10, 11, 12, 29, 30, 31] [0, 1, 2, 3, 4, 5] rfl rfl rfl ?_)))))))))))
      refine sq (cs (cs (cr [0, 1, 2] rfl (q1 rfl (z0 (mv rfl)) (q1 rfl (z9e 2 (il96 H) (mv rfl) rfl) (q1 rfl (z0 ct) (rn (al [2, 3, 6, 7, 8, 10, 11, 12, 29, 30, 31, 43, 44, 45] [0, 1, 2, 3, 4, 5] rfl rfl rfl (sq ?_)))))))))
      refine z2.join (fun z : Int => (z3q φ y19 v27 v28 v29 (z20 φ v27 (z0p φ v1 v2 y14 y19 (z1b φ) n31))) z) r (fun z => ⟨zd.of [(2, (eqv (.pointer (some ⟨b3, 0, none⟩)))), (3, (rop [(ro zm 21 v2)])), (6, (eqv sv15)), (7, (eqv (.map (some b23)))), (8, (eqv sv30)), (10, (iv .i64 (gt y19 v27))), (12, (iv .i64 z)), (29, (eqv sv9)), (30, (iv .i64 (y19.length : Int))), (31, (iv .i64 v27))], [(box b3 36 (z2i v1)), (row 3 eI64 1 y19 sv9), (row 3 eI64 1 y14 sv15), (mapo b23 (Value.int .i64) Value.bool v28), (row 89 z5s 2 v29 sv30)]⟩) (fun v42 h => ?_) (fun hJ43 => ?_)
      ·
       replace h : (z3q φ y19 v27 v28 v29 (z20 φ v27 (z0p φ v1 v2 y14 y19 (z1b φ) n31))) v42 = some r := h
       unfold z3q at h
       refine al [2, 3, 6, 7, 8, 10, 12, 29, 30, 31] [0, 1, 2, 3, 4] rfl rfl rfl (sq (cs (cr [0, 1] rfl (q1 rfl (z0 (mv rfl)) (q1 rfl (z9l (mv rfl) ct) (rn (al [2, 3, 6, 7, 8, 10, 12, 29, 30, 31, 126] [0, 1, 2, 3, 4] rfl rfl rfl (sq ?_))))))))
       refine cI h rfl (fun c44 h => ?_) (fun c44 h => ?_)
       ·
        refine cs (cr [0, 1, 2] rfl (q1 rfl (z0 (mv rfl)) (q1 rfl (z0 (mv rfl)) (n1 rfl (zem (eK := (Value.int .i64)) (eV := Value.bool) (v := true) 3 (keyI (un3 H)) (um95 H) rfl (mv rfl) (mv rfl) ct (rn (al [2, 3, 6, 7, 8, 10, 12, 29, 30, 31] [0, 1, 2, 3, 4] rfl rfl rfl (sq (cr [0, 1, 2, 3, 4, 5, 6] rfl (q1 rfl (z0 (mv rfl)) (q1 rfl (z0 (mv rfl)) (q1 rfl (z0 (mv rfl)) ?_))))))))))))
        refine q1 rfl (z46 [.int .i64 0, .int .i64 0] [(0, [(iv .i64 (gt y19 v27))]), (1, [(iv .i64 v42)])] (out := (z5s (ofL [(gt y19 v27), v42]))) (ze89 H) rfl (tb89 H) ⟨(zuo H), Nat.le_of_ble_eq_true rfl, (Ce.one (mv rfl) (One.eqv rfl)), ⟨(zxd H), Nat.le_of_ble_eq_true rfl, (Ce.one (mv rfl) (One.eqv rfl)), trivial⟩⟩ rfl) (n1 rfl (z2d (e := z5s) [(ofL [(gt y19 v27), v42])] (sl87 H) zn0 rfl (by decide) ⟨rfl, (Ce.agg (mv rfl)), trivial⟩ fun sv45 => ckE h fun h46 h => n1 rfl (zcj 4 (l := v29) (m := [(ofL [(gt y19 v27), v42])]) (sl87 H) zn0 (mv rfl) rfl (Src.row 5 (mv rfl) rfl) h46 (zbz (by decide) h46) fun sv47 => q1 rfl (z1 (mv rfl)) (rn (AtX.ng_normal (AtX.in_normal ?_))))))
        exact AtX.to (hJ36 ((mset v28 v42 true), (v29 ++ [(ofL [(gt y19 v27), v42])]), sv47) h) [0, 1, 2, 3, 4] (sl rfl) (ol rfl) rfl
       ·
        refine z2.skip (AtX.ng_normal (AtX.in_normal ?_))
        exact AtX.to (hJ36 (v28, v29, sv30) h) [0, 1, 2, 3, 4] (sl rfl) (ol rfl) rfl
      ·
       refine z2.block ?_
       refine z2.to (z2.loop (fun n (z : Int × Int) => z1c φ v2 y14 y19 v27 v28 (z3q φ y19 v27 v28 v29 (z20 φ v27 (z0p φ v1 v2 y14 y19 (z1b φ) n31))) n z.1 z.2) r (fun z => ⟨zd.of [(2, (eqv (.pointer (some ⟨b3, 0, none⟩)))), (3, (rop [(ro zm 21 v2)])), (6, (eqv sv15)), (7, (eqv (.map (some b23)))), (8, (eqv sv30)), (10, (iv .i64 (gt y19 v27))), (11, (eqv (.pointer (some ⟨b39, 0, none⟩)))), (12, (iv .i64 z.1)), (29, (eqv sv9)), (30, (iv .i64 (y19.length : Int))), (31, (iv .i64 v27)), (43, (eqv sv15)), (44, (iv .i64 (y14.length : Int))), (45, (iv .i64 z.2))], [(box b3 36 (z2i v1)), (row 3 eI64 1 y19 sv9), (row 3 eI64 1 y14 sv15), (mapo b23 (Value.int .i64) Value.bool v28), (row 89 z5s 2 v29 sv30), (box b39 48 (zm (gt v2 (gt y19 v27))))]⟩) (fun z => rfl) (fun n50 z ih50 h => ?_) φ ((-1), 0) h) [0, 1, 2, 3, 4, 5] (sl rfl) (ol rfl) rfl
       obtain ⟨v48, v49⟩ := z
       replace h : z1c φ v2 y14 y19 v27 v28 (z3q φ y19 v27 v28 v29 (z20 φ v27 (z0p φ v1 v2 y14 y19 (z1b φ) n31))) (n50 + 1) v48 v49 = some r := h
       rw [z1c] at h
       refine cs (cr [0] rfl (q1 rfl (z10 (mv rfl) (mv rfl)) (rn (al [2, 3, 6, 7, 8, 10, 11, 12, 29, 30, 31, 43, 44, 45, 46] [0, 1, 2, 3, 4, 5] rfl rfl rfl (sq (cs ?_))))))
       refine cI h rfl (fun c51 h => ?_) (fun c51 h => ?_)
       ·
        refine z2.skip (al [2, 3, 6, 7, 8, 10, 11, 12, 29, 30, 31, 43, 44, 45] [0, 1, 2, 3, 4, 5] rfl rfl rfl (sq (cs ?_)))
        refine z2.join (fun z : Int => (z5c φ v49 (z1c φ v2 y14 y19 v27 v28 (z3q φ y19 v27 v28 v29 (z20 φ v27 (z0p φ v1 v2 y14 y19 (z1b φ) n31))) n50)) z) r (fun z => ⟨zd.of [(2, (eqv (.pointer (some ⟨b3, 0, none⟩)))), (3, (rop [(ro zm 21 v2)])), (6, (eqv sv15)), (7, (eqv (.map (some b23)))), (8, (eqv sv30)), (10, (iv .i64 (gt y19 v27))), (11, (eqv (.pointer (some ⟨b39, 0, none⟩)))), (12, (iv .i64 z)), (29, (eqv sv9)), (30, (iv .i64 (y19.length : Int))), (31, (iv .i64 v27)), (43, (eqv sv15)), (44, (iv .i64 (y14.length : Int))), (45, (iv .i64 v49))], [(box b3 36 (z2i v1)), (row 3 eI64 1 y19 sv9), (row 3 eI64 1 y14 sv15), (mapo b23 (Value.int .i64) Value.bool v28), (row 89 z5s 2 v29 sv30), (box b39 48 (zm (gt v2 (gt y19 v27))))]⟩) (fun v52 h => ?_) (fun hJ53 => ?_)
        ·
         replace h : (z5c φ v49 (z1c φ v2 y14 y19 v27 v28 (z3q φ y19 v27 v28 v29 (z20 φ v27 (z0p φ v1 v2 y14 y19 (z1b φ) n31))) n50)) v52 = some r := h
         unfold z5c at h
         refine al [2, 3, 6, 7, 8, 10, 11, 12, 29, 30, 31, 43, 44, 45] [0, 1, 2, 3, 4, 5] rfl rfl rfl (sq (cr [0, 1] rfl (q1 rfl (z0g (mv rfl) ct) (q1 rfl (z0 (mv rfl)) (rn ?_)))))
         exact AtX.to (ih50 (v52, (W (v49 + 1))) h) [0, 1, 2, 3, 4, 5] (sl rfl) (ol rfl) rfl
        ·
         refine z2.block (cs (cr [0, 1, 2] rfl (ckE h fun h54 h => q1 rfl (zb 2 (ix96 H) (mv rfl) rfl (mv rfl) (h54).1 (h54).2) (q1 rfl (lw0 (tl3 H) 2 lI64 (mv rfl) rfl (z8 h54) rfl rfl) (q1 rfl (z1 (mv rfl)) (rn (al [2, 3, 6, 7, 8, 10, 11, 12, 14, 29, 30, 31, 43, 44, 45] [0, 1, 2, 3, 4, 5] rfl rfl rfl (sq (cs (cr [0, 1, 2, 3, 4, 5] rfl ?_))))))))))
         refine q1 rfl (lr (tl37 H) (mv rfl)) (q1 rfl (z0 (mv rfl)) (ckE h fun h55 h => q1 rfl (zn (ix37 H) (mv rfl) (mv rfl) (h55).1 (z8 h55)) (q1 rfl (ln (tl48 H) (Pt.rop (mv rfl)) rfl) (n1 rfl (z38 _ (ze48 H) rfl fun b56 => n1 rfl (sto 6 (tl48 H) (mv rfl) (Ce.agg (mv rfl)) rfl rfl rfl rfl (rn (al [2, 3, 6, 7, 8, 10, 11, 12, 14, 15, 29, 30, 31, 43, 44, 45] [0, 1, 2, 3, 4, 5, 6] rfl rfl rfl (sq (cs (cs ?_)))))))))))
         refine cr [0, 1, 2, 3, 4, 5, 6, 7, 8, 9, 10, 11, 12, 13, 14, 15, 16, 17, 18, 19, 20, 21, 22, 23, 24, 25, 26, 27, 28, 29, 30, 31, 32, 33, 34, 35, 36, 37, 38, 39, 40, 41, 42, 43, 44] rfl (q1 rfl (z0 (mv rfl)) (q1 rfl (z0 (mv rfl)) (q1 rfl (znf (eK := (Value.int .i64)) (eV := Value.bool) (d := false) 3 (keyI (un3 H)) (um95 H) (tz4 H) rfl (mv rfl) (mv rfl)) (q1 rfl (z0 (mv rfl)) (g1 rfl rfl (fun g57 => z3 (z9x H) (mv rfl)) (g1 rfl rfl (fun g58 => z3 (zaq H) (mc rfl g58)) (g1 rfl rfl (fun g59 => lb (tl3 H) 6 (mc rfl g59) rfl rfl) (g1 rfl rfl (fun g60 => z3 (z6x H) (mv rfl)) (g1 rfl rfl (fun g61 => z3 (zdb H) (mc rfl g61)) (g1 rfl rfl (fun g62 => lb (tl3 H) 5 (mc rfl g62) rfl rfl) (g1 rfl rfl (fun g63 => z6g (mc rfl g63) (mc rfl g63)) ?_)))))))))))
         refine q1 rfl (opOr (mv rfl) ct (fun g64 => (mc rfl g64))) (q1 rfl (z0 (mv rfl)) (g1 rfl rfl (fun g65 => z3 (z6x H) (mv rfl)) (g1 rfl rfl (fun g66 => z3 (zdb H) (mc rfl g66)) (g1 rfl rfl (fun g67 => lb (tl3 H) 6 (mc rfl g67) rfl rfl) (g1 rfl rfl (fun g68 => z3 (z9x H) (mv rfl)) (g1 rfl rfl (fun g69 => z3 (zaq H) (mc rfl g69)) (g1 rfl rfl (fun g70 => lb (tl3 H) 5 (mc rfl g70) rfl rfl) (g1 rfl rfl (fun g71 => z6g (mc rfl g71) (mc rfl g71)) (q1 rfl (opOr (mv rfl) ct (fun g72 => (mc rfl g72))) (q1 rfl (z0 (mv rfl)) (g1 rfl rfl (fun g73 => z3 (z6x H) (mv rfl)) ?_)))))))))))
         refine g1 rfl rfl (fun g74 => z3 (zgg H) (mc rfl g74)) (g1 rfl rfl (fun g75 => lb (tl3 H) 6 (mc rfl g75) rfl rfl) (g1 rfl rfl (fun g76 => z3 (z6x H) (mv rfl)) (g1 rfl rfl (fun g77 => z3 (zgg H) (mc rfl g77)) (g1 rfl rfl (fun g78 => lb (tl3 H) 5 (mc rfl g78) rfl rfl) (g1 rfl rfl (fun g79 => z6g (mc rfl g79) (mc rfl g79)) (q1 rfl (opOr (mv rfl) ct (fun g80 => (mc rfl g80))) (q1 rfl (z0 (mv rfl)) (g1 rfl rfl (fun g81 => z3 (z6x H) (mv rfl)) (g1 rfl rfl (fun g82 => z3 (zc8 H) (mc rfl g82)) (g1 rfl rfl (fun g83 => lb (tl3 H) 6 (mc rfl g83) rfl rfl) (g1 rfl rfl (fun g84 => z3 (z6x H) (mv rfl)) ?_)))))))))))
         refine g1 rfl rfl (fun g85 => z3 (zc8 H) (mc rfl g85)) (g1 rfl rfl (fun g86 => lb (tl3 H) 5 (mc rfl g86) rfl rfl) (g1 rfl rfl (fun g87 => z6g (mc rfl g87) (mc rfl g87)) (q1 rfl (opOr (mv rfl) ct (fun g88 => (mc rfl g88))) (q1 rfl (z0 (mv rfl)) (g1 rfl rfl (fun g89 => ln (tl48 H) ((Pt.box 5 (mv rfl) rfl rfl).take 21 (cs' := (zm (gt v2 (gt y19 v27)))) rfl) rfl) (g1 rfl rfl (fun g90 => ln (tl48 H) ((Pt.box 6 (mv rfl) rfl rfl).take 21 (cs' := (zm (gt v2 (gt y14 v49)))) rfl) rfl) (zp h fun y92 ey92 h => g1 rfl rfl (fun g91 => oQ (zof H) (zbb H φ (gt v2 (gt y19 v27)) (gt v2 (gt y14 v49)) _ (zy ey92 g91)) z5 ⟨ef (mc rfl g91), ef (mc rfl g91), trivial⟩) (g1 rfl rfl (fun g93 => z49 (mc rfl g93) ct) (q1 rfl (opOr (mv rfl) ct (fun g94 => (mc rfl g94))) (rn ?_))))))))))
         refine al [2, 3, 6, 7, 8, 10, 11, 12, 14, 15, 29, 30, 31, 43, 44, 45, 97] [0, 1, 2, 3, 4, 5, 6] rfl rfl rfl (sq ?_)
         refine cI h rfl (fun c95 h => ?_) (fun c95 h => ?_)
         ·
          refine z2.exit (AtX.then_exit (AtX.in_hit ?_))
          exact AtX.to (hJ53 v48 h) [0, 1, 2, 3, 4, 5] (sl rfl) (ol rfl) rfl
         ·
          refine z2.skip (al [2, 3, 6, 7, 8, 10, 11, 12, 14, 15, 29, 30, 31, 43, 44, 45] [0, 1, 2, 3, 4, 5, 6] rfl rfl rfl (sq (cs (cs (ckE h fun h100 h => zp h fun y103 ey103 h => zp h fun y107 ey107 h => zp h fun y109 ey109 h => zp h fun y118 ey118 h => zp h fun y125 ey125 h => z2.draw (QR := [(0, _), (1, _), (2, _), (3, _), (4, _), (5, _), (6, _), (7, _), (8, _), (9, _), (10, _), (11, _), (12, _), (13, _), (14, _), (15, _), (16, _), (17, _), (18, _), (19, _), (20, _)]) (tab := [(some 98, []), (some 99, [0]), (some 100, [1]), (some 101, [2]), (some 102, [2]), (some 103, [2]), (some 104, [4, 5, 2]), (some 105, [6, 2]), (some 106, [3, 7, 2, 2]), (some 107, [2]), (some 108, [2]), (some 109, [9, 10, 8, 2]), (some 110, [8, 11, 11, 2]), (some 111, [2]), (some 112, [2]), (some 113, [13, 14, 2]), (some 114, [15, 2]), (some 115, [16, 2]), (some 116, [2]), (some 117, [18, 2]), (some 118, [17, 19, 12, 2]), (some 119, [12, 20, 2]), (some 120, [21, 20, 2]), (some 121, [22, 2]), (some 122, [2, 23])]) (z5h H) (Reg.introG [21] [] (by kernel_rfl) rfl (an rfl) ⟨(qr rfl (z0 (mv rfl))), (qr rfl (z9l (mv rfl) ct)), (qr rfl (z0 (mv rfl))), (qr rfl (gqa rfl rfl rfl fun g96 => ln (tl48 H) ((Pt.box 5 (mv rfl) rfl rfl).take 21 (cs' := (zm (gt v2 (gt y19 v27)))) rfl) rfl)), (qr rfl (gqa rfl rfl rfl fun g97 => lr (tl37 H) (mv rfl))), (qr rfl (gqa rfl rfl rfl fun g98 => z0 (mv rfl))), (qr rfl (gqa rfl rfl rfl fun g99 => zn (ix37 H) (mc rfl g99) (mc rfl g99) ((h100 g99)).1 (z8 (h100 g99)))), (qr rfl (gqa rfl rfl rfl fun g101 => ln (tl48 H) (Pt.rop (mc rfl g101)) rfl)), (qr rfl (gqa rfl rfl rfl fun g102 => oQ (zof H) (zbb H φ (gt v2 (gt y19 v27)) (gt v2 v48) _ (zy ey103 g102)) z5 ⟨ef (mc rfl g102), ef (mc rfl g102), trivial⟩)), (qr rfl (gqa rfl rfl rfl fun g104 => ln (tl48 H) ((Pt.box 5 (mv rfl) rfl rfl).take 21 (cs' := (zm (gt v2 (gt y19 v27)))) rfl) rfl)), (qr rfl (gqa rfl rfl rfl fun g105 => ln (tl48 H) ((Pt.box 6 (mv rfl) rfl rfl).take 21 (cs' := (zm (gt v2 (gt y14 v49)))) rfl) rfl)), (qr rfl (gqa rfl rfl rfl fun g106 => oQ (zof H) (zbb H φ (gt v2 (gt y19 v27)) (gt v2 (gt y14 v49)) _ (zy ey107 g106)) z5 ⟨ef (mc rfl g106), ef (mc rfl g106), trivial⟩)), (qr rfl (gqa rfl rfl rfl fun g108 => oQ (zji H) (z8j H φ y103 y107 _ (zy ey109 g108)) z5 ⟨ef (mc rfl g108), ef (mc rfl g108), trivial⟩)), (qr rfl (gqa rfl rfl rfl fun g110 => lr (tl37 H) (mv rfl))), (qr rfl (gqa rfl rfl rfl fun g111 => z0 (mv rfl))), (qr rfl (gqa rfl rfl rfl fun g112 => zn (ix37 H) (mc rfl g112) (mc rfl g112) ((h100 g112)).1 (z8 (h100 g112)))), (qr rfl (gqa rfl rfl rfl fun g113 => z2a (z9x H) (mc rfl g113) (cs' := (eRef (gt v2 v48).fRef)) 2 rfl)), (qr rfl (gqa rfl rfl rfl fun g114 => ln (tl43 H) (Pt.rop (mc rfl g114)) rfl)), (qr rfl (gqa rfl rfl rfl fun g115 => z3 (z9x H) (mv rfl))), (qr rfl (gqa rfl rfl rfl fun g116 => ln (tl43 H) ((Pt.box 6 (mc rfl g116) rfl rfl).take 2 (cs' := (eRef (gt v2 (gt y14 v49)).fRef)) rfl) rfl)), (qr rfl (gqa rfl rfl rfl fun g117 => oQ (zn3 H) (z98 H φ ((gt v2 v48).fRef) ((gt v2 (gt y14 v49)).fRef) _ (zy ey118 g117)) z5 ⟨ef (mc rfl g117), ef (mc rfl g117), trivial⟩)), trivial⟩ ⟨⟨_, rfl, rfl, rfl, zj9.gnb (fun z => eqv z) (fun z => [row 3 eI64 1 [y109, y118] z]) (decide (0 ≤ v48)) rfl rfl rfl (fun g122 => z2d [y109, y118] (sl96 H) lI64 rfl (by decide) ⟨rfl, (Ce.one (mc rfl g122) (One.eqv rfl)), ⟨rfl, (Ce.one (mc rfl g122) (One.eqv rfl)), trivial⟩⟩ fun z => ⟨z, rfl, rfl⟩) fun sv123 => ⟨[(22, (cnd (decide (0 ≤ v48) = true) (iv .i64 y125))), (23, (cnd (decide (0 ≤ v48) = true) (bv (decide (y125 ≤ 0))))), (24, (bv (decide (0 ≤ v48) && decide (y125 ≤ 0))))], rfl, ?_⟩⟩, trivial⟩ ft))))))
          refine Reg.intro [] [0, 1, 2, 3, 4, 5, 6, 7, 8, 9, 10, 11, 12, 13, 14, 15, 16, 17, 18, 19, 20] (by kernel_rfl) rfl (an rfl) ⟨nf, nf, nf, nf, nf, nf, nf, nf, nf, nf, nf, nf, nf, nf, nf, nf, nf, nf, nf, nf, nf, (qr rfl (gqa rfl rfl rfl fun g124 => oQ (znl H) (zey H φ [y109, y118] _ (zy ey125 g124)) z5 ⟨EvF.of (mc rfl g124) (FEnt.row 7 lI64 (zh9 rfl g124)), trivial⟩)), (qr rfl (gqa rfl rfl rfl fun g126 => zc4 (mc rfl g126) ct)), (qr rfl (z36 (mv rfl) (fun g127 => (mc rfl g127)) ct)), trivial⟩ trivial (fun _ => al [2, 3, 6, 7, 8, 10, 11, 12, 14, 29, 30, 31, 43, 44, 45, 122] [0, 1, 2, 3, 4, 5] rfl rfl rfl (sq ?_))
          refine cI h rfl (fun c128 h => ?_) (fun c128 h => ?_)
          ·
           refine z2.exit (AtX.then_exit (AtX.in_hit ?_))
           exact AtX.to (hJ53 v48 h) [0, 1, 2, 3, 4, 5] (sl rfl) (ol rfl) rfl
          ·
           refine z2.skip (al [2, 3, 6, 7, 8, 10, 11, 14, 29, 30, 31, 43, 44, 45] [0, 1, 2, 3, 4, 5] rfl rfl rfl (sq (cr [0, 1] rfl (q1 rfl (z0 (mv rfl)) (q1 rfl (z1 (mv rfl)) (rn (AtX.in_normal ?_)))))))
           exact AtX.to (hJ53 (gt y14 v49) h) [0, 1, 2, 3, 4, 5] (sl rfl) (ol rfl) rfl
       ·
        refine z2.exit (AtX.then_exit (AtX.then_exit (AtX.in_hit ?_)))
        exact AtX.to (hJ43 v48 h) [0, 1, 2, 3, 4] (sl rfl) (ol rfl) rfl
   ·
    refine z2.exit (AtX.then_exit (AtX.then_exit (AtX.in_hit ?_)))
    exact AtX.to (hJ26 (v29, sv30) h) [4] (sl rfl) (ol rfl) rfl
theorem z5r {P : Program} (H : P = Try.prog) (φ : Nat) (v1 : (List z4)) (v3 : Int) (v4 : Int) (y5 : (z4 → z4 → Option Int)) (sv2 : Value) (r : (List z4)) (h : z13 φ v1 v3 v4 y5 = some r) : MutT P 75 [(eqv sv2), (iv .i64 v3), (iv .i64 v4), (fcmp P (fun x => (agg (z6 x))) y5)] 70 z6 10 v1 sv2 (fun x l' => x = eqv (.tuple #[]) ∧ r = l') := by
 unfold z13 at h
 refine MutT.of_code 53 (fn75 H) rfl rfl (Nat.le_of_ble_eq_true rfl) fun w0 base r0 wI => ?_
 refine cl [0, 1, 2, 3] [0] rfl rfl rfl (cs (cr [0, 1, 2] rfl (q1 rfl (z0 (mv rfl)) (q1 rfl (z0g (mv rfl) ct) (q1 rfl (z1 (mv rfl)) (rn (al [0, 1, 2, 3, 8] [0] rfl rfl rfl (sq (z2.block ?_)))))))))
 refine z2.to (z2.loop (fun n (z : Int × (List z4)) => zc φ v3 v4 y5 n z.1 z.2) r (fun z => ⟨zd.of [(0, (eqv sv2)), (1, (iv .i64 v3)), (2, (iv .i64 v4)), (3, (fcmp P (fun x => (agg (z6 x))) y5)), (8, (iv .i64 z.1))], [(row 70 z6 10 z.2 sv2)]⟩) (fun z => rfl) (fun n8 z ih8 h => ?_) φ ((W (v3 + 1)), v1) h) [0] (sl rfl) (ol rfl) rfl
 obtain ⟨v6, v7⟩ := z
 replace h : zc φ v3 v4 y5 (n8 + 1) v6 v7 = some r := h
 rw [zc] at h
 refine cs (cs (cr [0, 1, 2] rfl (q1 rfl (z0 (mv rfl)) (q1 rfl (z0 (mv rfl)) (q1 rfl (z10 (mv rfl) (mv rfl)) (rn (al [0, 1, 2, 3, 8, 14] [0] rfl rfl rfl (sq ?_))))))))
 refine cI h rfl (fun c9 h => ?_) (fun c9 h => ?_)
 ·
  refine z2.skip (al [0, 1, 2, 3, 8] [0] rfl rfl rfl (sq (cs ?_)))
  refine z2.join (fun z : (List z4) => (zz φ v6 (zc φ v3 v4 y5 n8)) z) r (fun z => ⟨zd.of [(0, (eqv sv2)), (1, (iv .i64 v3)), (2, (iv .i64 v4)), (3, (fcmp P (fun x => (agg (z6 x))) y5)), (8, (iv .i64 v6))], [(row 70 z6 10 z sv2)]⟩) (fun v10 h => ?_) (fun hJ11 => ?_)
  ·
   replace h : (zz φ v6 (zc φ v3 v4 y5 n8)) v10 = some r := h
   unfold zz at h
   refine al [0, 1, 2, 3, 8] [0] rfl rfl rfl (sq (cr [0, 1, 2] rfl (q1 rfl (z0 (mv rfl)) (q1 rfl (z0g (mv rfl) ct) (q1 rfl (z1 (mv rfl)) (rn ?_))))))
   exact AtX.to (ih8 ((W (v6 + 1)), v10) h) [0] (sl rfl) (ol rfl) rfl
  ·
   refine z2.block (cs (cr [0, 1] rfl (q1 rfl (z0 (mv rfl)) (q1 rfl (z1 (mv rfl)) (rn (al [0, 1, 2, 3, 8, 9] [0] rfl rfl rfl (sq (z2.block ?_))))))))
   refine z2.to (z2.loop (fun n (z : Int × (List z4)) => z00 φ v3 y5 (zz φ v6 (zc φ v3 v4 y5 n8)) n z.1 z.2) r (fun z => ⟨zd.of [(0, (eqv sv2)), (1, (iv .i64 v3)), (2, (iv .i64 v4)), (3, (fcmp P (fun x => (agg (z6 x))) y5)), (8, (iv .i64 v6)), (9, (iv .i64 z.1))], [(row 70 z6 10 z.2 sv2)]⟩) (fun z => rfl) (fun n14 z ih14 h => ?_) φ (v6, v7) h) [0] (sl rfl) (ol rfl) rfl
   obtain ⟨v12, v13⟩ := z
   replace h : z00 φ v3 y5 (zz φ v6 (zc φ v3 v4 y5 n8)) (n14 + 1) v12 v13 = some r := h
   rw [z00] at h
   refine cs (cs (ckE h fun h19 h => ckE h fun h25 h => zp h fun y28 ey28 h => z2.draw (QR := [(0, _), (1, _), (2, _), (3, _), (4, _), (5, _), (6, _), (7, _), (8, _), (9, _), (10, _), (11, _), (12, _), (13, _), (14, _), (15, _), (16, _)]) (tab := [(some 18, []), (some 19, []), (some 20, [0, 1]), (some 21, [2]), (some 22, [3]), (some 23, [3]), (some 24, [3]), (some 25, [5, 6, 3]), (some 26, [7, 3]), (some 27, [3]), (some 28, [3]), (some 29, [10, 3]), (some 30, [9, 11, 3]), (some 31, [12, 3]), (some 32, [4, 8, 13, 3, 3]), (some 33, [14, 3]), (some 34, [3, 15])]) (z5h H) (Reg.intro [] [] (by kernel_rfl) rfl (an rfl) ⟨(qr rfl (z0 (mv rfl))), (qr rfl (z0 (mv rfl))), (qr rfl (z49 (mv rfl) (mv rfl))), (qr rfl (z0 (mv rfl))), (qr rfl ⟨(decide (v3 < v12) = true), (fcmp P (fun x => (agg (z6 x))) y5), 21, rfl, rfl, fun g15 => (z0 (mv rfl)), .inl ⟨(decide (v3 < v12)), rfl, rfl⟩⟩), (qr rfl ⟨(decide (v3 < v12) = true), (eqv sv2), 21, rfl, rfl, fun g16 => (z0 (mv rfl)), .inl ⟨(decide (v3 < v12)), rfl, rfl⟩⟩), (qr rfl ⟨(decide (v3 < v12) = true), (iv .i64 v12), 21, rfl, rfl, fun g17 => (z0 (mv rfl)), .inl ⟨(decide (v3 < v12)), rfl, rfl⟩⟩), (qr rfl ⟨(decide (v3 < v12) = true), (rowp sv2 ((v12 : Int).toNat * 10)), 21, rfl, rfl, fun g18 => (zb 0 (ix53 H) (mc rfl g18) rfl (mc rfl g18) ((h19 g18)).1 ((h19 g18)).2), .inl ⟨(decide (v3 < v12)), rfl, rfl⟩⟩), (qr rfl ⟨(decide (v3 < v12) = true), (agg (z6 (gt v13 v12))), 21, rfl, rfl, fun g20 => (ln (tl70 H) ((Pt.row _ 0 (k := (v12 : Int).toNat) (fo := 0) z0o (mc rfl g20) rfl (by omega) (z8 (h19 g20)) rfl).take 10 (cs' := (z6 (gt v13 v12))) rfl) rfl), .inl ⟨(decide (v3 < v12)), rfl, rfl⟩⟩), (qr rfl ⟨(decide (v3 < v12) = true), (eqv sv2), 21, rfl, rfl, fun g21 => (z0 (mv rfl)), .inl ⟨(decide (v3 < v12)), rfl, rfl⟩⟩), (qr rfl ⟨(decide (v3 < v12) = true), (iv .i64 v12), 21, rfl, rfl, fun g22 => (z0 (mv rfl)), .inl ⟨(decide (v3 < v12)), rfl, rfl⟩⟩), (qr rfl ⟨(decide (v3 < v12) = true), (iv .i64 (W (v12 - 1))), 21, rfl, rfl, fun g23 => (z2f (mc rfl g23) ct), .inl ⟨(decide (v3 < v12)), rfl, rfl⟩⟩), (qr rfl ⟨(decide (v3 < v12) = true), (rowp sv2 (((W (v12 - 1)) : Int).toNat * 10)), 21, rfl, rfl, fun g24 => (zb 0 (ix53 H) (mc rfl g24) rfl (mc rfl g24) ((h25 g24)).1 ((h25 g24)).2), .inl ⟨(decide (v3 < v12)), rfl, rfl⟩⟩), (qr rfl ⟨(decide (v3 < v12) = true), (agg (z6 (gt v13 (W (v12 - 1))))), 21, rfl, rfl, fun g26 => (ln (tl70 H) ((Pt.row _ 0 (k := ((W (v12 - 1)) : Int).toNat) (fo := 0) z0o (mc rfl g26) rfl (by omega) (z8 (h25 g26)) rfl).take 10 (cs' := (z6 (gt v13 (W (v12 - 1))))) rfl) rfl), .inl ⟨(decide (v3 < v12)), rfl, rfl⟩⟩), (qr rfl ⟨(decide (v3 < v12) = true), (iv .i64 y28), 21, rfl, rfl, fun g27 => (zaz (mc rfl g27) (mc rfl g27) (mc rfl g27) (zy ey28 g27)), .inl ⟨(decide (v3 < v12)), rfl, rfl⟩⟩), (qr rfl ⟨(decide (v3 < v12) = true), (bv (decide (y28 < 0))), 21, rfl, rfl, fun g29 => (z10 (mc rfl g29) ct), .inl ⟨(decide (v3 < v12)), rfl, rfl⟩⟩), (qr rfl (z36 (mv rfl) (fun g30 => (mc rfl g30)) ct)), trivial⟩ trivial (fun _ => ?_))))
   refine al [0, 1, 2, 3, 8, 9, 34] [0] rfl rfl rfl (sq ?_)
   refine cI h rfl (fun c31 h => ?_) (fun c31 h => ?_)
   ·
    refine z2.skip (al [0, 1, 2, 3, 8, 9] [0] rfl rfl rfl (sq (cs (z2.block (ckE h fun h32 h => ckE h fun h33 h => ckE h fun h35 h => z2.draw (QR := [(0, (eqv sv2)), (1, (iv .i64 v12)), (2, (eqv sv2)), (3, (iv .i64 v12)), (4, (iv .i64 (W (v12 - 1)))), (5, (eqv sv2)), (6, (iv .i64 v12)), (7, (iv .i64 (W (v12 - 1)))), (8, (rowp sv2 (((W (v12 - 1)) : Int).toNat * 10))), (9, (agg (z6 (gt v13 (W (v12 - 1)))))), (10, (eqv sv2)), (11, (iv .i64 v12)), (12, (rowp sv2 ((v12 : Int).toNat * 10))), (13, (agg (z6 (gt v13 v12)))), (14, (rowp sv2 ((v12 : Int).toNat * 10)))]) (tab := [(some 37, []), (some 38, []), (some 39, []), (some 40, []), (some 41, [3]), (some 42, []), (some 43, []), (some 44, [6]), (some 45, [5, 7]), (some 46, [8]), (some 47, []), (some 48, []), (some 49, [10, 11]), (some 50, [12]), (some 51, [0, 1, 0, 1, 5, 6, 7, 8, 9, 13]), (none, [14, 9, 0, 1, 5, 6, 7, 8, 9, 13]), (some 52, [2, 4, 0, 1, 2, 3, 4, 5, 6, 7, 8, 9, 10, 11, 12, 13, 14, 15]), (none, [16, 13, 15, 0, 1, 2, 3, 4, 5, 6, 7, 8, 9, 10, 11, 12, 13, 14, 15])]) (z5h H) (Reg.intro [15] [] (by kernel_rfl) rfl (an rfl) ⟨(qr rfl (z0 (mv rfl))), (qr rfl (z0 (mv rfl))), (qr rfl (z0 (mv rfl))), (qr rfl (z0 (mv rfl))), (qr rfl (z2f (mv rfl) ct)), (qr rfl (z0 (mv rfl))), (qr rfl (z0 (mv rfl))), (qr rfl (z2f (mv rfl) ct)), (qr rfl (zb 0 (ix53 H) (mv rfl) rfl (mv rfl) (h32).1 (h32).2)), (qr rfl (ln (tl70 H) ((Pt.row _ 0 (k := ((W (v12 - 1)) : Int).toNat) (fo := 0) z0o (mv rfl) rfl (by omega) (z8 h32) rfl).take 10 (cs' := (z6 (gt v13 (W (v12 - 1))))) rfl) rfl)), (qr rfl (z0 (mv rfl))), (qr rfl (z0 (mv rfl))), (qr rfl (zb 0 (ix53 H) (mv rfl) rfl (mv rfl) (h33).1 (h33).2)), (qr rfl (ln (tl70 H) ((Pt.row _ 0 (k := (v12 : Int).toNat) (fo := 0) z0o (mv rfl) rfl (by omega) (z8 h33) rfl).take 10 (cs' := (z6 (gt v13 v12))) rfl) rfl)), (qr rfl (zb 0 (ix53 H) (mv rfl) rfl (mv rfl) (h33).1 (h33).2)), trivial⟩ ⟨⟨_, rfl, rfl, rfl, rfl, z3s 0 (k := (v12 : Int).toNat) (fo := 0) (z' := (gt v13 (W (v12 - 1)))) (cs := (z6 (gt v13 (W (v12 - 1))))) z0o (tl70 H) (mv rfl) (Ce.agg (mv rfl)) rfl rfl (by omega) (z8 h33) (Nat.le_of_ble_eq_true rfl) rfl ⟨[(16, (rowp sv2 (((W (v12 - 1)) : Int).toNat * 10)))], rfl, ?_⟩⟩, trivial⟩ ft))))))
    refine Reg.intro [17] [0, 1, 5, 6, 7, 8, 9, 10, 11, 12, 13, 14] (by kernel_rfl) rfl (an rfl) ⟨nf, nf, (qr rfl (z0 (mv rfl))), (qr rfl (z0 (mv rfl))), (qr rfl (z2f (mv rfl) ct)), nf, nf, nf, nf, nf, nf, nf, nf, nf, nf, (qr rfl (zb 0 (ix53 H) (mv rfl) rfl (mv rfl) (h35).1 (h35).2)), trivial⟩ ⟨⟨_, rfl, rfl, rfl, rfl, z3s 0 (k := ((W (v12 - 1)) : Int).toNat) (fo := 0) (z' := (gt v13 v12)) (cs := (z6 (gt v13 v12))) z0o (tl70 H) (mv rfl) (Ce.agg (mv rfl)) rfl rfl (by omega) (z8 h35) (Nat.le_of_ble_eq_true rfl) rfl ⟨[], rfl, ?_⟩⟩, trivial⟩ ft
    refine Reg.intro [] [0, 1, 2, 3, 4, 5, 6, 7, 8, 9, 10, 11, 12, 13, 14, 16] (by kernel_rfl) rfl (an rfl) ⟨nf, nf, nf, nf, nf, nf, nf, nf, nf, nf, nf, nf, nf, nf, nf, nf, trivial⟩ trivial (fun _ => AtX.in_normal (al [0, 1, 2, 3, 8, 9] [0] rfl rfl rfl (sq (cr [0, 1, 2] rfl (q1 rfl (z0 (mv rfl)) (q1 rfl (z2f (mv rfl) ct) (q1 rfl (z1 (mv rfl)) (rn ?_))))))))
    exact AtX.to (ih14 ((W (v12 - 1)), (z2o (z2o v13 v12 (gt v13 (W (v12 - 1)))) (W (v12 - 1)) (gt v13 v12))) h) [0] (sl rfl) (ol rfl) rfl
   ·
    refine z2.exit (AtX.then_exit (AtX.then_exit (AtX.in_hit (AtX.in_normal ?_))))
    exact AtX.to (hJ11 v13 h) [0] (sl rfl) (ol rfl) rfl
 ·
  refine z2.exit (AtX.then_exit (AtX.then_exit (AtX.in_hit (AtX.fall' (eqv (.tuple #[])) (zq.zero Try.results75) [0] [(row 70 z6 10 v7 sv2)] (ol rfl) rfl ?_))))
  obtain rfl := Option.some.inj h
  exact ⟨_, rfl, rfl, rfl⟩
theorem z4n {P : Program} (H : P = Try.prog) (φ : Nat) (v1 : (List z4)) (v3 : Int) (v4 : Int) (v5 : Int) (y6 : (z4 → z4 → Option Int)) (sv2 : Value) (r : (List z4)) (h : z1n φ v1 v3 v4 v5 y6 = some r) : MutT P 99 [(eqv sv2), (iv .i64 v3), (iv .i64 v4), (iv .i64 v5), (fcmp P (fun x => (agg (z6 x))) y6)] 70 z6 10 v1 sv2 (fun x l' => x = eqv (.tuple #[]) ∧ r = l') := by
 unfold z1n at h
 refine MutT.of_code 38 (fn99 H) rfl rfl (Nat.le_of_ble_eq_true rfl) fun w0 base r0 wI => ?_
 refine cl [0, 1, 2, 3] [0] rfl rfl rfl (cs (cr [0] rfl (q1 rfl (z1 ct) (rn (al [0, 1, 2, 3, 10] [0] rfl rfl rfl (sq (z2.block ?_)))))))
 refine z2.to (z2.loop (fun n (z : Int × (List z4)) => z0j φ v3 v4 v5 n z.1 z.2) r (fun z => ⟨zd.of [(0, (eqv sv2)), (1, (iv .i64 v3)), (2, (iv .i64 v4)), (3, (iv .i64 v5)), (10, (iv .i64 z.1))], [(row 70 z6 10 z.2 sv2)]⟩) (fun z => rfl) (fun n9 z ih9 h => ?_) φ (0, v1) h) [0] (sl rfl) (ol rfl) rfl
 obtain ⟨v7, v8⟩ := z
 replace h : z0j φ v3 v4 v5 (n9 + 1) v7 v8 = some r := h
 rw [z0j] at h
 refine cs (cs (cr [0, 1, 2] rfl (q1 rfl (z0 (mv rfl)) (q1 rfl (z0 (mv rfl)) (q1 rfl (z10 (mv rfl) (mv rfl)) (rn (al [0, 1, 2, 3, 10, 13] [0] rfl rfl rfl (sq ?_))))))))
 refine cI h rfl (fun c10 h => ?_) (fun c10 h => ?_)
 ·
  refine z2.skip (al [0, 1, 2, 3, 10] [0] rfl rfl rfl (sq (cs (z2.block (ckE h fun h11 h => ckE h fun h12 h => ckE h fun h14 h => z2.draw (QR := [(0, _), (1, _), (2, _), (3, _), (4, _), (5, _), (6, _), (7, _), (8, _), (9, _), (10, _), (11, _), (12, _), (13, _), (14, _), (15, _), (16, _), (17, _), (18, _), (19, _), (20, _)]) (tab := [(some 16, []), (some 17, []), (some 18, []), (some 19, [1, 2]), (some 20, []), (some 21, []), (some 22, []), (some 23, [5, 6]), (some 24, []), (some 25, []), (some 26, []), (some 27, [9, 10]), (some 28, [8, 11]), (some 29, [12]), (some 30, []), (some 31, []), (some 32, []), (some 33, [15, 16]), (some 34, [14, 17]), (some 35, [18]), (some 36, [0, 3, 0, 1, 2, 3, 8, 9, 10, 11, 12, 13, 19]), (none, [20, 13, 0, 1, 2, 3, 8, 9, 10, 11, 12, 13, 19]), (some 37, [4, 7, 0, 1, 2, 3, 4, 5, 6, 7, 8, 9, 10, 11, 12, 13, 14, 15, 16, 17, 18, 19, 20, 21]), (none, [22, 19, 21, 0, 1, 2, 3, 4, 5, 6, 7, 8, 9, 10, 11, 12, 13, 14, 15, 16, 17, 18, 19, 20, 21])]) (z5h H) (Reg.intro [21] [] (by kernel_rfl) rfl (an rfl) ⟨(qr rfl (z0 (Ev.tmp (A := (eqv sv2)) (by kernel_rfl)))), (qr rfl (z0 (Ev.tmp (A := (iv .i64 v3)) (by kernel_rfl)))), (qr rfl (z0 (Ev.tmp (A := (iv .i64 v7)) (by kernel_rfl)))), (qr rfl (z0g (Ev.tmp (A := (iv .i64 v3)) (by kernel_rfl)) (Ev.tmp (A := (iv .i64 v7)) (by kernel_rfl)))), (qr rfl (z0 (Ev.tmp (A := (eqv sv2)) (by kernel_rfl)))), (qr rfl (z0 (Ev.tmp (A := (iv .i64 v4)) (by kernel_rfl)))), (qr rfl (z0 (Ev.tmp (A := (iv .i64 v7)) (by kernel_rfl)))), (qr rfl (z0g (Ev.tmp (A := (iv .i64 v4)) (by kernel_rfl)) (Ev.tmp (A := (iv .i64 v7)) (by kernel_rfl)))), (qr rfl (z0 (Ev.tmp (A := (eqv sv2)) (by kernel_rfl)))), (qr rfl (z0 (Ev.tmp (A := (iv .i64 v4)) (by kernel_rfl)))), (qr rfl (z0 (Ev.tmp (A := (iv .i64 v7)) (by kernel_rfl)))), (qr rfl (z0g (Ev.tmp (A := (iv .i64 v4)) (by kernel_rfl)) (Ev.tmp (A := (iv .i64 v7)) (by kernel_rfl)))), (qr rfl (zb 0 (ix53 H) (Ev.tmp (A := (eqv sv2)) (by kernel_rfl)) rfl (Ev.tmp (A := (iv .i64 (W (v4 + v7)))) (by kernel_rfl)) (h11).1 (h11).2)), (qr rfl (ln (tl70 H) ((Pt.row _ 0 (k := ((W (v4 + v7)) : Int).toNat) (fo := 0) z0o (Ev.tmp (A := (rowp sv2 (((W (v4 + v7)) : Int).toNat * 10))) (by kernel_rfl)) rfl (by omega) (z8 h11) rfl).take 10 (cs' := (z6 (gt v8 (W (v4 + v7))))) rfl) rfl)), (qr rfl (z0 (Ev.tmp (A := (eqv sv2)) (by kernel_rfl)))), (qr rfl (z0 (Ev.tmp (A := (iv .i64 v3)) (by kernel_rfl)))), (qr rfl (z0 (Ev.tmp (A := (iv .i64 v7)) (by kernel_rfl)))), (qr rfl (z0g (Ev.tmp (A := (iv .i64 v3)) (by kernel_rfl)) (Ev.tmp (A := (iv .i64 v7)) (by kernel_rfl)))), (qr rfl (zb 0 (ix53 H) (Ev.tmp (A := (eqv sv2)) (by kernel_rfl)) rfl (Ev.tmp (A := (iv .i64 (W (v3 + v7)))) (by kernel_rfl)) (h12).1 (h12).2)), (qr rfl (ln (tl70 H) ((Pt.row _ 0 (k := ((W (v3 + v7)) : Int).toNat) (fo := 0) z0o (Ev.tmp (A := (rowp sv2 (((W (v3 + v7)) : Int).toNat * 10))) (by kernel_rfl)) rfl (by omega) (z8 h12) rfl).take 10 (cs' := (z6 (gt v8 (W (v3 + v7))))) rfl) rfl)), (qr rfl (zb 0 (ix53 H) (Ev.tmp (A := (eqv sv2)) (by kernel_rfl)) rfl (Ev.tmp (A := (iv .i64 (W (v3 + v7)))) (by kernel_rfl)) (h12).1 (h12).2)), trivial⟩ ⟨⟨_, rfl, rfl, rfl, rfl, z3s 0 (k := ((W (v3 + v7)) : Int).toNat) (fo := 0) (z' := (gt v8 (W (v4 + v7)))) (cs := (z6 (gt v8 (W (v4 + v7))))) z0o (tl70 H) (Ev.tmp (A := (rowp sv2 (((W (v3 + v7)) : Int).toNat * 10))) (by kernel_rfl)) (Ce.agg (Ev.tmp (A := (agg (z6 (gt v8 (W (v4 + v7)))))) (by kernel_rfl))) rfl rfl (by omega) (z8 h12) (Nat.le_of_ble_eq_true rfl) rfl ⟨[(22, (rowp sv2 (((W (v4 + v7)) : Int).toNat * 10)))], rfl, ?_⟩⟩, trivial⟩ ft))))))
  refine Reg.intro [23] [0, 1, 2, 3, 8, 9, 10, 11, 12, 13, 14, 15, 16, 17, 18, 19, 20] (by kernel_rfl) rfl (an rfl) ⟨nf, nf, nf, nf, (qr rfl (z0 (Ev.tmp (A := (eqv sv2)) (by kernel_rfl)))), (qr rfl (z0 (Ev.tmp (A := (iv .i64 v4)) (by kernel_rfl)))), (qr rfl (z0 (Ev.tmp (A := (iv .i64 v7)) (by kernel_rfl)))), (qr rfl (z0g (Ev.tmp (A := (iv .i64 v4)) (by kernel_rfl)) (Ev.tmp (A := (iv .i64 v7)) (by kernel_rfl)))), nf, nf, nf, nf, nf, nf, nf, nf, nf, nf, nf, nf, nf, (qr rfl (zb 0 (ix53 H) (Ev.tmp (A := (eqv sv2)) (by kernel_rfl)) rfl (Ev.tmp (A := (iv .i64 (W (v4 + v7)))) (by kernel_rfl)) (h14).1 (h14).2)), trivial⟩ ⟨⟨_, rfl, rfl, rfl, rfl, z3s 0 (k := ((W (v4 + v7)) : Int).toNat) (fo := 0) (z' := (gt v8 (W (v3 + v7)))) (cs := (z6 (gt v8 (W (v3 + v7))))) z0o (tl70 H) (Ev.tmp (A := (rowp sv2 (((W (v4 + v7)) : Int).toNat * 10))) (by kernel_rfl)) (Ce.agg (Ev.tmp (A := (agg (z6 (gt v8 (W (v3 + v7)))))) (by kernel_rfl))) rfl rfl (by omega) (z8 h14) (Nat.le_of_ble_eq_true rfl) rfl ⟨[], rfl, ?_⟩⟩, trivial⟩ ft
  refine Reg.intro [] [0, 1, 2, 3, 4, 5, 6, 7, 8, 9, 10, 11, 12, 13, 14, 15, 16, 17, 18, 19, 20, 22] (by kernel_rfl) rfl (an rfl) ⟨nf, nf, nf, nf, nf, nf, nf, nf, nf, nf, nf, nf, nf, nf, nf, nf, nf, nf, nf, nf, nf, nf, trivial⟩ trivial (fun _ => AtX.in_normal (al [0, 1, 2, 3, 10] [0] rfl rfl rfl (sq (cr [0, 1, 2] rfl (q1 rfl (z0 (mv rfl)) (q1 rfl (z0g (mv rfl) ct) (q1 rfl (z1 (mv rfl)) (rn ?_))))))))
  exact AtX.to (ih9 ((W (v7 + 1)), (z2o (z2o v8 (W (v3 + v7)) (gt v8 (W (v4 + v7)))) (W (v4 + v7)) (gt v8 (W (v3 + v7))))) h) [0] (sl rfl) (ol rfl) rfl
 ·
  refine z2.exit (AtX.then_exit (AtX.then_exit (AtX.in_hit (AtX.fall' (eqv (.tuple #[])) (zq.zero Try.results99) [0] [(row 70 z6 10 v8 sv2)] (ol rfl) rfl ?_))))
  obtain rfl := Option.some.inj h
  exact ⟨_, rfl, rfl, rfl⟩
theorem za0 {P : Program} (H : P = Try.prog) (φ : Nat) (v1 : (List z4)) (v3 : Int) (v4 : Int) (v5 : Int) (y6 : (z4 → z4 → Option Int)) (sv2 : Value) (r : (List z4)) (h : z3e φ v1 v3 v4 v5 y6 = some r) : MutT P 94 [(eqv sv2), (iv .i64 v3), (iv .i64 v4), (iv .i64 v5), (fcmp P (fun x => (agg (z6 x))) y6)] 70 z6 10 v1 sv2 (fun x l' => x = eqv (.tuple #[]) ∧ r = l') := by
 unfold z3e at h
 refine MutT.of_code 58 (fn94 H) rfl rfl (Nat.le_of_ble_eq_true rfl) fun w0 base r0 wI => ?_
 refine cl [0, 1, 2, 3, 4] [0] rfl rfl rfl (cs (cr [0, 1, 2, 3] rfl (q1 rfl (z0 (mv rfl)) (q1 rfl (z0 (mv rfl)) (q1 rfl (z2f (mv rfl) (mv rfl)) (q1 rfl (z1 (mv rfl)) (rn (al [0, 2, 3, 4, 10] [0] rfl rfl rfl (sq (cs (cr [0, 1, 2, 3] rfl ?_)))))))))))
 refine q1 rfl (z0 (mv rfl)) (q1 rfl (z0 (mv rfl)) (q1 rfl (z2f (mv rfl) (mv rfl)) (q1 rfl (z1 (mv rfl)) (rn (al [0, 2, 4, 10, 11] [0] rfl rfl rfl (sq (cs ?_)))))))
 refine z2.join (fun z : Int × (List z4) => (z14 φ v4 y6) z.1 z.2) r (fun z => ⟨zd.of [(0, (eqv sv2)), (2, (iv .i64 v4)), (4, (fcmp P (fun x => (agg (z6 x))) y6)), (10, (iv .i64 z.1))], [(row 70 z6 10 z.2 sv2)]⟩) (fun z h => ?_) (fun hJ9 => ?_)
 ·
  obtain ⟨v7, v8⟩ := z
  replace h : (z14 φ v4 y6) v7 v8 = some r := h
  unfold z14 at h
  refine al [0, 2, 4, 10] [0] rfl rfl rfl (sq (cr [0, 1, 2, 3, 4, 5, 6, 7] rfl (q1 rfl (z0 (mv rfl)) (q1 rfl (z0 (mv rfl)) (q1 rfl (z0 (mv rfl)) (q1 rfl (z2f (mv rfl) (mv rfl)) (q1 rfl (z0 (mv rfl)) (q1 rfl (z0 (mv rfl)) (q1 rfl (z0 (mv rfl)) (zp h fun y10 ey10 h => n1 rfl (z3r 0 rfl (fun x => (z68 x).mem) (zq7 H) (args := [(eqv sv2), (iv .i64 (W (v4 - v7))), (iv .i64 v4), (iv .i64 v7), (fcmp P (fun x => (agg (z6 x))) y6)]) ⟨(mv rfl), (mv rfl), (mv rfl), (mv rfl), (mv rfl), trivial⟩ (z4n H φ v8 (W (v4 - v7)) v4 v7 y6 sv2 _ ey10) fun x11 nw12 hk13 => ?_)))))))))))
  obtain ⟨rfl, rfl⟩ := hk13
  refine ⟨z5, ?_⟩
  refine rn (AtX.fall' (eqv (.tuple #[])) (zq.zero Try.results94) [0] [(row 70 z6 10 y10 sv2)] (ol rfl) rfl ?_)
  obtain rfl := Option.some.inj h
  exact ⟨_, rfl, rfl, rfl⟩
 ·
  refine z2.block ?_
  refine z2.to (z2.loop (fun n (z : Int × Int × (List z4)) => z0w φ v4 y6 (z14 φ v4 y6) n z.1 z.2.1 z.2.2) r (fun z => ⟨zd.of [(0, (eqv sv2)), (2, (iv .i64 v4)), (4, (fcmp P (fun x => (agg (z6 x))) y6)), (10, (iv .i64 z.1)), (11, (iv .i64 z.2.1))], [(row 70 z6 10 z.2.2 sv2)]⟩) (fun z => rfl) (fun n17 z ih17 h => ?_) φ ((W (v4 - v3)), (W (v5 - v4)), v1) h) [0] (sl rfl) (ol rfl) rfl
  obtain ⟨v14, v15, v16⟩ := z
  replace h : z0w φ v4 y6 (z14 φ v4 y6) (n17 + 1) v14 v15 v16 = some r := h
  rw [z0w] at h
  refine cs (cs (cr [0, 1, 2] rfl (q1 rfl (z0 (mv rfl)) (q1 rfl (z0 (mv rfl)) (q1 rfl (z6g (mv rfl) (mv rfl)) (rn (al [0, 2, 4, 10, 11, 20] [0] rfl rfl rfl (sq ?_))))))))
  refine cI h rfl (fun c18 h => ?_) (fun c18 h => ?_)
  ·
   refine z2.skip (al [0, 2, 4, 10, 11] [0] rfl rfl rfl (sq (z2.block (cs (cr [0, 1, 2] rfl (q1 rfl (z0 (mv rfl)) (q1 rfl (z0 (mv rfl)) (q1 rfl (z49 (mv rfl) (mv rfl)) (rn (al [0, 2, 4, 10, 11, 23] [0] rfl rfl rfl (sq ?_)))))))))))
   refine cI h rfl (fun c19 h => ?_) (fun c19 h => ?_)
   ·
    refine cs (cr [0, 1, 2, 3, 4, 5, 6, 7] rfl (q1 rfl (z0 (mv rfl)) (q1 rfl (z0 (mv rfl)) (q1 rfl (z0 (mv rfl)) (q1 rfl (z2f (mv rfl) (mv rfl)) (q1 rfl (z0 (mv rfl)) (q1 rfl (z0 (mv rfl)) (q1 rfl (z0 (mv rfl)) (zp h fun y20 ey20 h => n1 rfl (z3r 0 rfl (fun x => (z68 x).mem) (zq7 H) (args := [(eqv sv2), (iv .i64 (W (v4 - v14))), (iv .i64 v4), (iv .i64 v15), (fcmp P (fun x => (agg (z6 x))) y6)]) ⟨(mv rfl), (mv rfl), (mv rfl), (mv rfl), (mv rfl), trivial⟩ (z4n H φ v16 (W (v4 - v14)) v4 v15 y6 sv2 _ ey20) fun x21 nw22 hk23 => ?_))))))))))
    obtain ⟨rfl, rfl⟩ := hk23
    refine ⟨z5, ?_⟩
    refine rn (al [0, 2, 4, 10, 11] [0] rfl rfl rfl (sq (cr [0, 1, 2, 3] rfl (q1 rfl (z0 (mv rfl)) (q1 rfl (z0 (mv rfl)) (q1 rfl (z2f (mv rfl) (mv rfl)) (q1 rfl (z1 (mv rfl)) (rn (AtX.in_normal ?_)))))))))
    exact AtX.to (ih17 ((W (v14 - v15)), v15, y20) h) [0] (sl rfl) (ol rfl) rfl
   ·
    refine cs (cr [0, 1, 2, 3, 4, 5, 6, 7, 8, 9, 10, 11] rfl (q1 rfl (z0 (mv rfl)) (q1 rfl (z0 (mv rfl)) (q1 rfl (z0 (mv rfl)) (q1 rfl (z2f (mv rfl) (mv rfl)) (q1 rfl (z0 (mv rfl)) (q1 rfl (z0 (mv rfl)) (q1 rfl (z0g (mv rfl) (mv rfl)) (q1 rfl (z0 (mv rfl)) (q1 rfl (z2f (mv rfl) (mv rfl)) (q1 rfl (z0 (mv rfl)) ?_)))))))))))
    refine q1 rfl (z0 (mv rfl)) (zp h fun y24 ey24 h => n1 rfl (z3r 0 rfl (fun x => (z68 x).mem) (zq7 H) (args := [(eqv sv2), (iv .i64 (W (v4 - v14))), (iv .i64 (W ((W (v4 + v15)) - v14))), (iv .i64 v14), (fcmp P (fun x => (agg (z6 x))) y6)]) ⟨(mv rfl), (mv rfl), (mv rfl), (mv rfl), (mv rfl), trivial⟩ (z4n H φ v16 (W (v4 - v14)) (W ((W (v4 + v15)) - v14)) v14 y6 sv2 _ ey24) fun x25 nw26 hk27 => ?_))
    obtain ⟨rfl, rfl⟩ := hk27
    refine ⟨z5, ?_⟩
    refine rn (al [0, 2, 4, 10, 11] [0] rfl rfl rfl (sq (cr [0, 1, 2, 3] rfl (q1 rfl (z0 (mv rfl)) (q1 rfl (z0 (mv rfl)) (q1 rfl (z2f (mv rfl) (mv rfl)) (q1 rfl (z1 (mv rfl)) (rn (AtX.in_normal ?_)))))))))
    exact AtX.to (ih17 (v14, (W (v15 - v14)), y24) h) [0] (sl rfl) (ol rfl) rfl
  ·
   refine z2.exit (AtX.then_exit (AtX.then_exit (AtX.in_hit ?_)))
   exact AtX.to (hJ9 (v14, v16) h) [0] (sl rfl) (ol rfl) rfl
theorem z70 {P : Program} (H : P = Try.prog) : ∀ (φ : Nat) (v1 : (List z4)) (v3 : Int) (v4 : Int) (v5 : Int) (y6 : (z4 → z4 → Option Int)) (sv2 : Value) (r : (List z4)) (h : z7 φ v1 v3 v4 v5 y6 = some r), MutT P 76 [(eqv sv2), (iv .i64 v3), (iv .i64 v4), (iv .i64 v5), (fcmp P (fun x => (agg (z6 x))) y6)] 70 z6 10 v1 sv2 (fun x l' => x = eqv (.tuple #[]) ∧ r = l') := by
 intro φ
 induction φ with
 | zero => intro v1 v3 v4 v5 y6 sv2 r h; cases h
 | succ φ ih =>
  intro v1 v3 v4 v5 y6 sv2 r h
  rw [z7] at h
  refine MutT.of_code 220 (fn76 H) rfl rfl (Nat.le_of_ble_eq_true rfl) fun w0 base r0 wI => ?_
  refine cl [0, 1, 2, 3, 4] [0] rfl rfl rfl (cs (cs (cr [0, 1, 2, 3] rfl (q1 rfl (z0 (mv rfl)) (q1 rfl (z0 (mv rfl)) (q1 rfl (z2f (mv rfl) (mv rfl)) (q1 rfl (z61 (mv rfl) ct) (rn (al [0, 1, 2, 3, 4, 28] [0] rfl rfl rfl (sq ?_))))))))))
  refine cI h rfl (fun c8 h => ?_) (fun c8 h => ?_)
  ·
   refine cs (cr [0, 1] rfl (q1 rfl (z0 (mv rfl)) (q1 rfl (z1 (mv rfl)) (rn (al [0, 1, 3, 4, 10] [0] rfl rfl rfl (sq (cs (cr [0, 1] rfl (q1 rfl (z0 (mv rfl)) (q1 rfl (z1 (mv rfl)) (rn ?_)))))))))))
   refine al [0, 1, 4, 10, 11] [0] rfl rfl rfl (sq (cs ?_))
   refine z2.join (fun z : Int => (zu φ v1 v3) z) r (fun z => ⟨zd.of [(0, (eqv sv2)), (1, (iv .i64 v3)), (10, (iv .i64 z))], [(row 70 z6 10 v1 sv2)]⟩) (fun v9 h => ?_) (fun hJ10 => ?_)
   ·
    replace h : (zu φ v1 v3) v9 = some r := h
    unfold zu at h
    refine al [0, 1, 10] [0] rfl rfl rfl (sq (cs (cs (cr [0, 1] rfl (q1 rfl (z0 (mv rfl)) (q1 rfl (z1 (mv rfl)) (rn (al [0, 10, 13] [0] rfl rfl rfl (sq ?_)))))))))
    refine z2.join (fun z : (List z4) => (z15 φ) z) r (fun z => ⟨zd.of [], [(row 70 z6 10 z sv2)]⟩) (fun v11 h => ?_) (fun hJ12 => ?_)
    ·
     replace h : (z15 φ) v11 = some r := h
     unfold z15 at h
     refine al [] [0] rfl rfl rfl (sq (z2.ret (AtX.then_ret (AtX.ret' (eqv (.tuple #[])) (zq.zero Try.results76) [0] [(row 70 z6 10 v11 sv2)] (ol rfl) rfl ?_))))
     obtain rfl := Option.some.inj h
     exact ⟨_, rfl, rfl, rfl⟩
    ·
     refine z2.block ?_
     refine z2.to (z2.loop (fun n (z : Int × (List z4)) => z17 φ v9 (z15 φ) n z.1 z.2) r (fun z => ⟨zd.of [(0, (eqv sv2)), (10, (iv .i64 v9)), (13, (iv .i64 z.1))], [(row 70 z6 10 z.2 sv2)]⟩) (fun z => rfl) (fun n15 z ih15 h => ?_) φ (v3, v1) h) [0] (sl rfl) (ol rfl) rfl
     obtain ⟨v13, v14⟩ := z
     replace h : z17 φ v9 (z15 φ) (n15 + 1) v13 v14 = some r := h
     rw [z17] at h
     refine cs (cs (cr [0, 1, 2, 3] rfl (q1 rfl (z0 (mv rfl)) (q1 rfl (z0 (mv rfl)) (q1 rfl (z2f (mv rfl) ct) (q1 rfl (z10 (mv rfl) (mv rfl)) (rn (al [0, 10, 13, 58] [0] rfl rfl rfl (sq ?_)))))))))
     refine cI h rfl (fun c16 h => ?_) (fun c16 h => ?_)
     ·
      refine z2.skip (al [0, 10, 13] [0] rfl rfl rfl (sq (cs (z2.block (ckE h fun h17 h => ckE h fun h18 h => ckE h fun h20 h => z2.draw (QR := [(0, _), (1, _), (2, _), (3, _), (4, _), (5, _), (6, _), (7, _), (8, _), (9, _), (10, _), (11, _), (12, _), (13, _), (14, _)]) (tab := [(some 61, []), (some 62, []), (some 63, []), (some 64, []), (some 65, [3]), (some 66, []), (some 67, []), (some 68, [6]), (some 69, [5, 7]), (some 70, [8]), (some 71, []), (some 72, []), (some 73, [10, 11]), (some 74, [12]), (some 75, [0, 1, 0, 1, 5, 6, 7, 8, 9, 13]), (none, [14, 9, 0, 1, 5, 6, 7, 8, 9, 13]), (some 76, [2, 4, 0, 1, 2, 3, 4, 5, 6, 7, 8, 9, 10, 11, 12, 13, 14, 15]), (none, [16, 13, 15, 0, 1, 2, 3, 4, 5, 6, 7, 8, 9, 10, 11, 12, 13, 14, 15])]) (z5h H) (Reg.intro [15] [] (by kernel_rfl) rfl (an rfl) ⟨(qr rfl (z0 (mv rfl))), (qr rfl (z0 (mv rfl))), (qr rfl (z0 (mv rfl))), (qr rfl (z0 (mv rfl))), (qr rfl (z0g (mv rfl) ct)), (qr rfl (z0 (mv rfl))), (qr rfl (z0 (mv rfl))), (qr rfl (z0g (mv rfl) ct)), (qr rfl (zb 0 (ix53 H) (mv rfl) rfl (mv rfl) (h17).1 (h17).2)), (qr rfl (ln (tl70 H) ((Pt.row _ 0 (k := ((W (v13 + 1)) : Int).toNat) (fo := 0) z0o (mv rfl) rfl rfl (z8 h17) rfl).take 10 (cs' := (z6 (gt v14 (W (v13 + 1))))) rfl) rfl)), (qr rfl (z0 (mv rfl))), (qr rfl (z0 (mv rfl))), (qr rfl (zb 0 (ix53 H) (mv rfl) rfl (mv rfl) (h18).1 (h18).2)), (qr rfl (ln (tl70 H) ((Pt.row _ 0 (k := (v13 : Int).toNat) (fo := 0) z0o (mv rfl) rfl rfl (z8 h18) rfl).take 10 (cs' := (z6 (gt v14 v13))) rfl) rfl)), (qr rfl (zb 0 (ix53 H) (mv rfl) rfl (mv rfl) (h18).1 (h18).2)), trivial⟩ ⟨⟨_, rfl, rfl, rfl, rfl, z3s 0 (k := (v13 : Int).toNat) (fo := 0) (z' := (gt v14 (W (v13 + 1)))) (cs := (z6 (gt v14 (W (v13 + 1))))) z0o (tl70 H) (mv rfl) (Ce.agg (mv rfl)) rfl rfl rfl (z8 h18) (Nat.le_of_ble_eq_true rfl) rfl ⟨[(16, (rowp sv2 (((W (v13 + 1)) : Int).toNat * 10)))], rfl, ?_⟩⟩, trivial⟩ ft))))))
      refine Reg.intro [17] [0, 1, 5, 6, 7, 8, 9, 10, 11, 12, 13, 14] (by kernel_rfl) rfl (an rfl) ⟨nf, nf, (qr rfl (z0 (mv rfl))), (qr rfl (z0 (mv rfl))), (qr rfl (z0g (mv rfl) ct)), nf, nf, nf, nf, nf, nf, nf, nf, nf, nf, (qr rfl (zb 0 (ix53 H) (mv rfl) rfl (mv rfl) (h20).1 (h20).2)), trivial⟩ ⟨⟨_, rfl, rfl, rfl, rfl, z3s 0 (k := ((W (v13 + 1)) : Int).toNat) (fo := 0) (z' := (gt v14 v13)) (cs := (z6 (gt v14 v13))) z0o (tl70 H) (mv rfl) (Ce.agg (mv rfl)) rfl rfl (by omega) (z8 h20) (Nat.le_of_ble_eq_true rfl) rfl ⟨[], rfl, ?_⟩⟩, trivial⟩ ft
      refine Reg.intro [] [0, 1, 2, 3, 4, 5, 6, 7, 8, 9, 10, 11, 12, 13, 14, 16] (by kernel_rfl) rfl (an rfl) ⟨nf, nf, nf, nf, nf, nf, nf, nf, nf, nf, nf, nf, nf, nf, nf, nf, trivial⟩ trivial (fun _ => AtX.in_normal (al [0, 10, 13] [0] rfl rfl rfl (sq (cr [0, 1, 2] rfl (q1 rfl (z0 (mv rfl)) (q1 rfl (z0g (mv rfl) ct) (q1 rfl (z1 (mv rfl)) (rn ?_))))))))
      exact AtX.to (ih15 ((W (v13 + 1)), (z2o (z2o v14 v13 (gt v14 (W (v13 + 1)))) (W (v13 + 1)) (gt v14 v13))) h) [0] (sl rfl) (ol rfl) rfl
     ·
      refine z2.exit (AtX.then_exit (AtX.then_exit (AtX.in_hit ?_)))
      exact AtX.to (hJ12 v14 h) [0] trivial (ol rfl) rfl
   ·
    refine z2.block ?_
    refine z2.to (z2.loop (fun n (z : Int × Int) => zx φ v1 v3 y6 (zu φ v1 v3) n z.1 z.2) r (fun z => ⟨zd.of [(0, (eqv sv2)), (1, (iv .i64 v3)), (4, (fcmp P (fun x => (agg (z6 x))) y6)), (10, (iv .i64 z.1)), (11, (iv .i64 z.2))], [(row 70 z6 10 v1 sv2)]⟩) (fun z => rfl) (fun n24 z ih24 h => ?_) φ (v4, v5) h) [0] (sl rfl) (ol rfl) rfl
    obtain ⟨v22, v23⟩ := z
    replace h : zx φ v1 v3 y6 (zu φ v1 v3) (n24 + 1) v22 v23 = some r := h
    rw [zx] at h
    refine cs (cs (cr [0, 1, 2] rfl (q1 rfl (z0 (mv rfl)) (q1 rfl (z0 (mv rfl)) (q1 rfl (z10 (mv rfl) (mv rfl)) (rn (al [0, 1, 4, 10, 11, 33] [0] rfl rfl rfl (sq ?_))))))))
    refine cI h rfl (fun c25 h => ?_) (fun c25 h => ?_)
    ·
     refine z2.skip (al [0, 1, 4, 10, 11] [0] rfl rfl rfl (sq (z2.block (cs (cr [0, 1, 2, 3, 4, 5, 6] rfl (q1 rfl (z0 (mv rfl)) (q1 rfl (z0 (mv rfl)) (q1 rfl (z0g (mv rfl) (mv rfl)) (q1 rfl (z83 (us3 H) (zft H) (mv rfl)) (q1 rfl (z9c 2 (by decide) (mv rfl) ct (by decide)) (q1 rfl (z83 (zgk H) (un3 H) (mv rfl)) ?_)))))))))))
     refine q1 rfl (z1 (mv rfl)) (rn (al [0, 1, 4, 10, 11, 12] [0] rfl rfl rfl (sq (cs (ckE h fun h26 h => ckE h fun h27 h => zp h fun y28 ey28 h => z2.draw (QR := [(0, _), (1, _), (2, _), (3, _), (4, _), (5, _), (6, _), (7, _), (8, _), (9, _), (10, _)]) (tab := [(some 40, []), (some 41, []), (some 42, []), (some 43, [1, 2]), (some 44, [3]), (some 45, []), (some 46, []), (some 47, [5, 6]), (some 48, [7]), (some 49, [0, 4, 8]), (some 50, [9])]) (z5h H) (Reg.intro [] [] (by kernel_rfl) rfl (an rfl) ⟨(qr rfl (z0 (mv rfl))), (qr rfl (z0 (mv rfl))), (qr rfl (z0 (mv rfl))), (qr rfl (zb 0 (ix53 H) (mv rfl) rfl (mv rfl) (h26).1 (h26).2)), (qr rfl (ln (tl70 H) ((Pt.row _ 0 (k := ((W (((U ((W (v22 + v23)))).fdiv 2))) : Int).toNat) (fo := 0) z0o (mv rfl) rfl rfl (z8 h26) rfl).take 10 (cs' := (z6 (gt v1 (W (((U ((W (v22 + v23)))).fdiv 2)))))) rfl) rfl)), (qr rfl (z0 (mv rfl))), (qr rfl (z0 (mv rfl))), (qr rfl (zb 0 (ix53 H) (mv rfl) rfl (mv rfl) (h27).1 (h27).2)), (qr rfl (ln (tl70 H) ((Pt.row _ 0 (k := (v3 : Int).toNat) (fo := 0) z0o (mv rfl) rfl rfl (z8 h27) rfl).take 10 (cs' := (z6 (gt v1 v3))) rfl) rfl)), (qr rfl (zaz (mv rfl) (mv rfl) (mv rfl) ey28)), (qr rfl (z10 (mv rfl) ct)), trivial⟩ trivial (fun _ => al [0, 1, 4, 10, 11, 12, 50] [0] rfl rfl rfl (sq ?_))))))))
     refine cI h rfl (fun c29 h => ?_) (fun c29 h => ?_)
     ·
      refine cr [0, 1, 2] rfl (q1 rfl (z0 (mv rfl)) (q1 rfl (z0g (mv rfl) ct) (q1 rfl (z1 (mv rfl)) (rn (AtX.in_normal ?_)))))
      exact AtX.to (ih24 ((W ((W (((U ((W (v22 + v23)))).fdiv 2))) + 1)), v23) h) [0] (sl rfl) (ol rfl) rfl
     ·
      refine cr [0, 1] rfl (q1 rfl (z0 (mv rfl)) (q1 rfl (z1 (mv rfl)) (rn (AtX.in_normal ?_))))
      exact AtX.to (ih24 (v22, (W (((U ((W (v22 + v23)))).fdiv 2)))) h) [0] (sl rfl) (ol rfl) rfl
    ·
     refine z2.exit (AtX.then_exit (AtX.then_exit (AtX.in_hit ?_)))
     exact AtX.to (hJ10 v22 h) [0] (sl rfl) (ol rfl) rfl
  ·
   refine z2.skip (al [0, 1, 2, 3, 4] [0] rfl rfl rfl (sq (cs (cs (cr [0, 1, 2, 3] rfl (q1 rfl (z0 (mv rfl)) (q1 rfl (z0 (mv rfl)) (q1 rfl (z2f (mv rfl) (mv rfl)) (q1 rfl (z61 (mv rfl) ct) (rn (al [0, 1, 2, 3, 4, 80] [0] rfl rfl rfl ?_)))))))))))
   refine sq ?_
   refine cI h rfl (fun c30 h => ?_) (fun c30 h => ?_)
   ·
    refine cs (cr [0, 1] rfl (q1 rfl (z0 (mv rfl)) (q1 rfl (z1 (mv rfl)) (rn (al [0, 2, 4, 14] [0] rfl rfl rfl (sq (cs (cr [0, 1] rfl (q1 rfl (z0 (mv rfl)) (q1 rfl (z1 (mv rfl)) (rn ?_)))))))))))
    refine al [0, 2, 4, 14, 15] [0] rfl rfl rfl (sq (cs ?_))
    refine z2.join (fun z : Int => (zw φ v1 v4) z) r (fun z => ⟨zd.of [(0, (eqv sv2)), (2, (iv .i64 v4)), (14, (iv .i64 z))], [(row 70 z6 10 v1 sv2)]⟩) (fun v31 h => ?_) (fun hJ32 => ?_)
    ·
     replace h : (zw φ v1 v4) v31 = some r := h
     unfold zw at h
     refine al [0, 2, 14] [0] rfl rfl rfl (sq (cs (cs (cr [0, 1] rfl (q1 rfl (z0 (mv rfl)) (q1 rfl (z1 (mv rfl)) (rn (al [0, 14, 17] [0] rfl rfl rfl (sq ?_)))))))))
     refine z2.join (fun z : (List z4) => (z18 φ) z) r (fun z => ⟨zd.of [], [(row 70 z6 10 z sv2)]⟩) (fun v33 h => ?_) (fun hJ34 => ?_)
     ·
      replace h : (z18 φ) v33 = some r := h
      unfold z18 at h
      refine al [] [0] rfl rfl rfl (sq (z2.ret (AtX.then_ret (AtX.ret' (eqv (.tuple #[])) (zq.zero Try.results76) [0] [(row 70 z6 10 v33 sv2)] (ol rfl) rfl ?_))))
      obtain rfl := Option.some.inj h
      exact ⟨_, rfl, rfl, rfl⟩
     ·
      refine z2.block ?_
      refine z2.to (z2.loop (fun n (z : Int × (List z4)) => z16 φ v31 (z18 φ) n z.1 z.2) r (fun z => ⟨zd.of [(0, (eqv sv2)), (14, (iv .i64 v31)), (17, (iv .i64 z.1))], [(row 70 z6 10 z.2 sv2)]⟩) (fun z => rfl) (fun n37 z ih37 h => ?_) φ (v4, v1) h) [0] (sl rfl) (ol rfl) rfl
      obtain ⟨v35, v36⟩ := z
      replace h : z16 φ v31 (z18 φ) (n37 + 1) v35 v36 = some r := h
      rw [z16] at h
      refine cs (cs (cr [0, 1, 2] rfl (q1 rfl (z0 (mv rfl)) (q1 rfl (z0 (mv rfl)) (q1 rfl (z49 (mv rfl) (mv rfl)) (rn (al [0, 14, 17, 110] [0] rfl rfl rfl (sq ?_))))))))
      refine cI h rfl (fun c38 h => ?_) (fun c38 h => ?_)
      ·
       refine z2.skip (al [0, 14, 17] [0] rfl rfl rfl (sq (cs (z2.block (ckE h fun h39 h => ckE h fun h40 h => ckE h fun h42 h => z2.draw (QR := [(0, _), (1, _), (2, _), (3, _), (4, _), (5, _), (6, _), (7, _), (8, _), (9, _), (10, _), (11, _), (12, _), (13, _), (14, _)]) (tab := [(some 113, []), (some 114, []), (some 115, []), (some 116, []), (some 117, [3]), (some 118, []), (some 119, []), (some 120, [6]), (some 121, [5, 7]), (some 122, [8]), (some 123, []), (some 124, []), (some 125, [10, 11]), (some 126, [12]), (some 127, [0, 1, 0, 1, 5, 6, 7, 8, 9, 13]), (none, [14, 9, 0, 1, 5, 6, 7, 8, 9, 13]), (some 128, [2, 4, 0, 1, 2, 3, 4, 5, 6, 7, 8, 9, 10, 11, 12, 13, 14, 15]), (none, [16, 13, 15, 0, 1, 2, 3, 4, 5, 6, 7, 8, 9, 10, 11, 12, 13, 14, 15])]) (z5h H) (Reg.intro [15] [] (by kernel_rfl) rfl (an rfl) ⟨(qr rfl (z0 (mv rfl))), (qr rfl (z0 (mv rfl))), (qr rfl (z0 (mv rfl))), (qr rfl (z0 (mv rfl))), (qr rfl (z2f (mv rfl) ct)), (qr rfl (z0 (mv rfl))), (qr rfl (z0 (mv rfl))), (qr rfl (z2f (mv rfl) ct)), (qr rfl (zb 0 (ix53 H) (mv rfl) rfl (mv rfl) (h39).1 (h39).2)), (qr rfl (ln (tl70 H) ((Pt.row _ 0 (k := ((W (v35 - 1)) : Int).toNat) (fo := 0) z0o (mv rfl) rfl rfl (z8 h39) rfl).take 10 (cs' := (z6 (gt v36 (W (v35 - 1))))) rfl) rfl)), (qr rfl (z0 (mv rfl))), (qr rfl (z0 (mv rfl))), (qr rfl (zb 0 (ix53 H) (mv rfl) rfl (mv rfl) (h40).1 (h40).2)), (qr rfl (ln (tl70 H) ((Pt.row _ 0 (k := (v35 : Int).toNat) (fo := 0) z0o (mv rfl) rfl rfl (z8 h40) rfl).take 10 (cs' := (z6 (gt v36 v35))) rfl) rfl)), (qr rfl (zb 0 (ix53 H) (mv rfl) rfl (mv rfl) (h40).1 (h40).2)), trivial⟩ ⟨⟨_, rfl, rfl, rfl, rfl, z3s 0 (k := (v35 : Int).toNat) (fo := 0) (z' := (gt v36 (W (v35 - 1)))) (cs := (z6 (gt v36 (W (v35 - 1))))) z0o (tl70 H) (mv rfl) (Ce.agg (mv rfl)) rfl rfl rfl (z8 h40) (Nat.le_of_ble_eq_true rfl) rfl ⟨[(16, (rowp sv2 (((W (v35 - 1)) : Int).toNat * 10)))], rfl, ?_⟩⟩, trivial⟩ ft))))))
       refine Reg.intro [17] [0, 1, 5, 6, 7, 8, 9, 10, 11, 12, 13, 14] (by kernel_rfl) rfl (an rfl) ⟨nf, nf, (qr rfl (z0 (mv rfl))), (qr rfl (z0 (mv rfl))), (qr rfl (z2f (mv rfl) ct)), nf, nf, nf, nf, nf, nf, nf, nf, nf, nf, (qr rfl (zb 0 (ix53 H) (mv rfl) rfl (mv rfl) (h42).1 (h42).2)), trivial⟩ ⟨⟨_, rfl, rfl, rfl, rfl, z3s 0 (k := ((W (v35 - 1)) : Int).toNat) (fo := 0) (z' := (gt v36 v35)) (cs := (z6 (gt v36 v35))) z0o (tl70 H) (mv rfl) (Ce.agg (mv rfl)) rfl rfl (by omega) (z8 h42) (Nat.le_of_ble_eq_true rfl) rfl ⟨[], rfl, ?_⟩⟩, trivial⟩ ft
       refine Reg.intro [] [0, 1, 2, 3, 4, 5, 6, 7, 8, 9, 10, 11, 12, 13, 14, 16] (by kernel_rfl) rfl (an rfl) ⟨nf, nf, nf, nf, nf, nf, nf, nf, nf, nf, nf, nf, nf, nf, nf, nf, trivial⟩ trivial (fun _ => AtX.in_normal (al [0, 14, 17] [0] rfl rfl rfl (sq (cr [0, 1, 2] rfl (q1 rfl (z0 (mv rfl)) (q1 rfl (z2f (mv rfl) ct) (q1 rfl (z1 (mv rfl)) (rn ?_))))))))
       exact AtX.to (ih37 ((W (v35 - 1)), (z2o (z2o v36 v35 (gt v36 (W (v35 - 1)))) (W (v35 - 1)) (gt v36 v35))) h) [0] (sl rfl) (ol rfl) rfl
      ·
       refine z2.exit (AtX.then_exit (AtX.then_exit (AtX.in_hit ?_)))
       exact AtX.to (hJ34 v36 h) [0] trivial (ol rfl) rfl
    ·
     refine z2.block ?_
     refine z2.to (z2.loop (fun n (z : Int × Int) => zr φ v1 v4 y6 (zw φ v1 v4) n z.1 z.2) r (fun z => ⟨zd.of [(0, (eqv sv2)), (2, (iv .i64 v4)), (4, (fcmp P (fun x => (agg (z6 x))) y6)), (14, (iv .i64 z.1)), (15, (iv .i64 z.2))], [(row 70 z6 10 v1 sv2)]⟩) (fun z => rfl) (fun n46 z ih46 h => ?_) φ (v3, v4) h) [0] (sl rfl) (ol rfl) rfl
     obtain ⟨v44, v45⟩ := z
     replace h : zr φ v1 v4 y6 (zw φ v1 v4) (n46 + 1) v44 v45 = some r := h
     rw [zr] at h
     refine cs (cs (cr [0, 1, 2] rfl (q1 rfl (z0 (mv rfl)) (q1 rfl (z0 (mv rfl)) (q1 rfl (z10 (mv rfl) (mv rfl)) (rn (al [0, 2, 4, 14, 15, 85] [0] rfl rfl rfl (sq ?_))))))))
     refine cI h rfl (fun c47 h => ?_) (fun c47 h => ?_)
     ·
      refine z2.skip (al [0, 2, 4, 14, 15] [0] rfl rfl rfl (sq (z2.block (cs (cr [0, 1, 2, 3, 4, 5, 6] rfl (q1 rfl (z0 (mv rfl)) (q1 rfl (z0 (mv rfl)) (q1 rfl (z0g (mv rfl) (mv rfl)) (q1 rfl (z83 (us3 H) (zft H) (mv rfl)) (q1 rfl (z9c 2 (by decide) (mv rfl) ct (by decide)) (q1 rfl (z83 (zgk H) (un3 H) (mv rfl)) ?_)))))))))))
      refine q1 rfl (z1 (mv rfl)) (rn (al [0, 2, 4, 14, 15, 16] [0] rfl rfl rfl (sq (cs (ckE h fun h48 h => ckE h fun h49 h => zp h fun y50 ey50 h => z2.draw (QR := [(0, _), (1, _), (2, _), (3, _), (4, _), (5, _), (6, _), (7, _), (8, _), (9, _), (10, _), (11, _)]) (tab := [(some 92, []), (some 93, []), (some 94, []), (some 95, [1, 2]), (some 96, [3]), (some 97, []), (some 98, []), (some 99, [5, 6]), (some 100, [7]), (some 101, [0, 4, 8]), (some 102, [9]), (some 103, [10])]) (z5h H) (Reg.intro [] [] (by kernel_rfl) rfl (an rfl) ⟨(qr rfl (z0 (mv rfl))), (qr rfl (z0 (mv rfl))), (qr rfl (z0 (mv rfl))), (qr rfl (zb 0 (ix53 H) (mv rfl) rfl (mv rfl) (h48).1 (h48).2)), (qr rfl (ln (tl70 H) ((Pt.row _ 0 (k := (v4 : Int).toNat) (fo := 0) z0o (mv rfl) rfl rfl (z8 h48) rfl).take 10 (cs' := (z6 (gt v1 v4))) rfl) rfl)), (qr rfl (z0 (mv rfl))), (qr rfl (z0 (mv rfl))), (qr rfl (zb 0 (ix53 H) (mv rfl) rfl (mv rfl) (h49).1 (h49).2)), (qr rfl (ln (tl70 H) ((Pt.row _ 0 (k := ((W (((U ((W (v44 + v45)))).fdiv 2))) : Int).toNat) (fo := 0) z0o (mv rfl) rfl rfl (z8 h49) rfl).take 10 (cs' := (z6 (gt v1 (W (((U ((W (v44 + v45)))).fdiv 2)))))) rfl) rfl)), (qr rfl (zaz (mv rfl) (mv rfl) (mv rfl) ey50)), (qr rfl (z10 (mv rfl) ct)), (qr rfl (z79 (mv rfl))), trivial⟩ trivial (fun _ => al [0, 2, 4, 14, 15, 16, 103] [0] rfl rfl rfl (sq ?_))))))))
      refine cI h rfl (fun c51 h => ?_) (fun c51 h => ?_)
      ·
       refine cr [0, 1, 2] rfl (q1 rfl (z0 (mv rfl)) (q1 rfl (z0g (mv rfl) ct) (q1 rfl (z1 (mv rfl)) (rn (AtX.in_normal ?_)))))
       exact AtX.to (ih46 ((W ((W (((U ((W (v44 + v45)))).fdiv 2))) + 1)), v45) h) [0] (sl rfl) (ol rfl) rfl
      ·
       refine cr [0, 1] rfl (q1 rfl (z0 (mv rfl)) (q1 rfl (z1 (mv rfl)) (rn (AtX.in_normal ?_))))
       exact AtX.to (ih46 (v44, (W (((U ((W (v44 + v45)))).fdiv 2)))) h) [0] (sl rfl) (ol rfl) rfl
     ·
      refine z2.exit (AtX.then_exit (AtX.then_exit (AtX.in_hit ?_)))
      exact AtX.to (hJ32 v44 h) [0] (sl rfl) (ol rfl) rfl
   ·
    refine z2.skip (al [0, 1, 2, 3, 4] [0] rfl rfl rfl (sq (cs (cr [0, 1, 2, 3, 4, 5, 6] rfl (q1 rfl (z0 (mv rfl)) (q1 rfl (z0 (mv rfl)) (q1 rfl (z0g (mv rfl) (mv rfl)) (q1 rfl (z83 (us3 H) (zft H) (mv rfl)) (q1 rfl (z9c 2 (by decide) (mv rfl) ct (by decide)) (q1 rfl (z83 (zgk H) (un3 H) (mv rfl)) (q1 rfl (z1 (mv rfl)) ?_)))))))))))
    refine rn (al [0, 1, 2, 3, 4, 18] [0] rfl rfl rfl (sq (cs (cr [0, 1, 2, 3] rfl (q1 rfl (z0 (mv rfl)) (q1 rfl (z0 (mv rfl)) (q1 rfl (z0g (mv rfl) (mv rfl)) (q1 rfl (z1 (mv rfl)) (rn (al [0, 1, 2, 3, 4, 18, 19] [0] rfl rfl rfl (sq ?_)))))))))))
    refine cs (cr [0, 1] rfl (q1 rfl (z1 ct) (q1 rfl (z1 ct) (rn (al [0, 1, 2, 3, 4, 18, 19] [0] rfl rfl rfl (sq (cs (cs (cr [0, 1, 2] rfl (q1 rfl (z0 (mv rfl)) (q1 rfl (z0 (mv rfl)) ?_)))))))))))
    refine q1 rfl (z49 (mv rfl) (mv rfl)) (rn (al [0, 1, 2, 3, 4, 18, 19, 140] [0] rfl rfl rfl (sq ?_)))
    refine z2.join (fun z : Int × Int => (z03 φ v1 v3 v4 v5 y6 (z7 φ)) z.1 z.2) r (fun z => ⟨zd.of [(0, (eqv sv2)), (1, (iv .i64 v3)), (2, (iv .i64 v4)), (3, (iv .i64 v5)), (4, (fcmp P (fun x => (agg (z6 x))) y6)), (18, (iv .i64 (W (((U ((W (v3 + v5)))).fdiv 2))))), (19, (iv .i64 (W ((W (((U ((W (v3 + v5)))).fdiv 2))) + v4)))), (20, (iv .i64 z.1)), (21, (iv .i64 z.2))], [(row 70 z6 10 v1 sv2)]⟩) (fun z h => ?_) (fun hJ54 => ?_)
    ·
     obtain ⟨v52, v53⟩ := z
     replace h : (z03 φ v1 v3 v4 v5 y6 (z7 φ)) v52 v53 = some r := h
     unfold z03 at h
     refine al [0, 1, 2, 3, 4, 18, 19, 20, 21] [0] rfl rfl rfl (sq (cs (cr [0, 1, 2] rfl (q1 rfl (z0 (mv rfl)) (q1 rfl (z2f (mv rfl) ct) (q1 rfl (z1 (mv rfl)) (rn (al [0, 1, 2, 3, 4, 18, 19, 20, 21, 22] [0] rfl rfl rfl (sq (cs ?_))))))))))
     refine z2.join (fun z : Int => (z04 φ v1 v3 v4 v5 y6 (z7 φ)) z) r (fun z => ⟨zd.of [(0, (eqv sv2)), (1, (iv .i64 v3)), (2, (iv .i64 v4)), (3, (iv .i64 v5)), (4, (fcmp P (fun x => (agg (z6 x))) y6)), (18, (iv .i64 (W (((U ((W (v3 + v5)))).fdiv 2))))), (19, (iv .i64 (W ((W (((U ((W (v3 + v5)))).fdiv 2))) + v4)))), (20, (iv .i64 z))], [(row 70 z6 10 v1 sv2)]⟩) (fun v55 h => ?_) (fun hJ56 => ?_)
     ·
      replace h : (z04 φ v1 v3 v4 v5 y6 (z7 φ)) v55 = some r := h
      unfold z04 at h
      refine al [0, 1, 2, 3, 4, 18, 19, 20] [0] rfl rfl rfl (sq (cs (cr [0, 1, 2, 3] rfl (q1 rfl (z0 (mv rfl)) (q1 rfl (z0 (mv rfl)) (q1 rfl (z2f (mv rfl) (mv rfl)) (q1 rfl (z1 (mv rfl)) (rn (al [0, 1, 2, 3, 4, 18, 20, 24] [0] rfl rfl rfl (sq (cs ?_)))))))))))
      refine cs (cr [0, 1, 2, 3, 4, 5, 6, 7] rfl (q1 rfl (z0 (mv rfl)) (q1 rfl (z0 (mv rfl)) (q1 rfl (z10 (mv rfl) (mv rfl)) (q1 rfl (z0 (mv rfl)) (g1 rfl rfl (fun g57 => z0 (mv rfl)) (g1 rfl rfl (fun g58 => z0 (mv rfl)) (g1 rfl rfl (fun g59 => z10 (mc rfl g59) (mc rfl g59)) (q1 rfl (z36 (mv rfl) (fun g60 => (mc rfl g60)) ct) (rn (al [0, 1, 2, 3, 4, 18, 20, 24, 185] [0] rfl rfl rfl ?_)))))))))))
      refine sq ?_
      refine z2.join (fun z : (List z4) => (z0m φ v3 v4 v5 y6 (z7 φ) v55) z) r (fun z => ⟨zd.of [(0, (eqv sv2)), (1, (iv .i64 v3)), (3, (iv .i64 v5)), (4, (fcmp P (fun x => (agg (z6 x))) y6)), (18, (iv .i64 (W (((U ((W (v3 + v5)))).fdiv 2))))), (20, (iv .i64 v55)), (24, (iv .i64 (W ((W ((W (((U ((W (v3 + v5)))).fdiv 2))) + v4)) - v55))))], [(row 70 z6 10 z sv2)]⟩) (fun v61 h => ?_) (fun hJ62 => ?_)
      ·
       replace h : (z0m φ v3 v4 v5 y6 (z7 φ) v55) v61 = some r := h
       unfold z0m at h
       refine al [0, 1, 3, 4, 18, 20, 24] [0] rfl rfl rfl (sq (cs (cs (cr [0, 1, 2, 3, 4, 5, 6, 7] rfl (q1 rfl (z0 (mv rfl)) (q1 rfl (z0 (mv rfl)) (q1 rfl (z10 (mv rfl) (mv rfl)) (q1 rfl (z0 (mv rfl)) (g1 rfl rfl (fun g63 => z0 (mv rfl)) (g1 rfl rfl (fun g64 => z0 (mv rfl)) (g1 rfl rfl (fun g65 => z10 (mc rfl g65) (mc rfl g65)) ?_)))))))))))
       refine q1 rfl (z36 (mv rfl) (fun g66 => (mc rfl g66)) ct) (rn (al [0, 1, 3, 4, 18, 20, 24, 199] [0] rfl rfl rfl (sq ?_)))
       refine z2.join (fun z : (List z4) => (z0h φ v3 v4 v5 y6 (z7 φ) v55) z) r (fun z => ⟨zd.of [(0, (eqv sv2)), (3, (iv .i64 v5)), (4, (fcmp P (fun x => (agg (z6 x))) y6)), (18, (iv .i64 (W (((U ((W (v3 + v5)))).fdiv 2))))), (24, (iv .i64 (W ((W ((W (((U ((W (v3 + v5)))).fdiv 2))) + v4)) - v55))))], [(row 70 z6 10 z sv2)]⟩) (fun v67 h => ?_) (fun hJ68 => ?_)
       ·
        replace h : (z0h φ v3 v4 v5 y6 (z7 φ) v55) v67 = some r := h
        unfold z0h at h
        refine al [0, 3, 4, 18, 24] [0] rfl rfl rfl (sq (cs (cr [0, 1, 2, 3, 4, 5, 6, 7] rfl (q1 rfl (z0 (mv rfl)) (q1 rfl (z0 (mv rfl)) (q1 rfl (z10 (mv rfl) (mv rfl)) (q1 rfl (z0 (mv rfl)) (g1 rfl rfl (fun g69 => z0 (mv rfl)) (g1 rfl rfl (fun g70 => z0 (mv rfl)) (g1 rfl rfl (fun g71 => z10 (mc rfl g71) (mc rfl g71)) (q1 rfl (z36 (mv rfl) (fun g72 => (mc rfl g72)) ct) ?_)))))))))))
        refine rn (al [0, 3, 4, 18, 24, 213] [0] rfl rfl rfl (sq ?_))
        refine cI h rfl (fun c73 h => ?_) (fun c73 h => ?_)
        ·
         refine cr [0, 1, 2, 3, 4, 5] rfl (q1 rfl (z0 (mv rfl)) (q1 rfl (z0 (mv rfl)) (q1 rfl (z0 (mv rfl)) (q1 rfl (z0 (mv rfl)) (q1 rfl (z0 (mv rfl)) (zp h fun y74 ey74 h => n1 rfl (z3r 0 rfl (fun x => (z68 x).mem) (zn2 H) (args := [(eqv sv2), (iv .i64 (W (((U ((W (v3 + v5)))).fdiv 2)))), (iv .i64 (W ((W ((W (((U ((W (v3 + v5)))).fdiv 2))) + v4)) - v55))), (iv .i64 v5), (fcmp P (fun x => (agg (z6 x))) y6)]) ⟨(mv rfl), (mv rfl), (mv rfl), (mv rfl), (mv rfl), trivial⟩ (ih v67 (W (((U ((W (v3 + v5)))).fdiv 2))) (W ((W ((W (((U ((W (v3 + v5)))).fdiv 2))) + v4)) - v55)) v5 y6 sv2 _ ey74) fun x75 nw76 hk77 => ?_)))))))
         obtain ⟨rfl, rfl⟩ := hk77
         refine ⟨z5, ?_⟩
         refine rn (AtX.fall' (eqv (.tuple #[])) (zq.zero Try.results76) [0] [(row 70 z6 10 y74 sv2)] (ol rfl) rfl ?_)
         obtain rfl := Option.some.inj h
         exact ⟨_, rfl, rfl, rfl⟩
        ·
         refine z2.skip (AtX.fall' (eqv (.tuple #[])) (zq.zero Try.results76) [0] [(row 70 z6 10 v67 sv2)] (ol rfl) rfl ?_)
         obtain rfl := Option.some.inj h
         exact ⟨_, rfl, rfl, rfl⟩
       ·
        refine cI h rfl (fun c78 h => ?_) (fun c78 h => ?_)
        ·
         refine cr [0, 1, 2, 3, 4, 5] rfl (q1 rfl (z0 (mv rfl)) (q1 rfl (z0 (mv rfl)) (q1 rfl (z0 (mv rfl)) (q1 rfl (z0 (mv rfl)) (q1 rfl (z0 (mv rfl)) (zp h fun y79 ey79 h => n1 rfl (z3r 0 rfl (fun x => (z68 x).mem) (zn2 H) (args := [(eqv sv2), (iv .i64 v3), (iv .i64 v55), (iv .i64 (W (((U ((W (v3 + v5)))).fdiv 2)))), (fcmp P (fun x => (agg (z6 x))) y6)]) ⟨(mv rfl), (mv rfl), (mv rfl), (mv rfl), (mv rfl), trivial⟩ (ih v61 v3 v55 (W (((U ((W (v3 + v5)))).fdiv 2))) y6 sv2 _ ey79) fun x80 nw81 hk82 => ?_)))))))
         obtain ⟨rfl, rfl⟩ := hk82
         refine ⟨z5, ?_⟩
         refine rn ?_
         exact AtX.to (hJ68 y79 h) [0] (sl rfl) (ol rfl) rfl
        ·
         refine z2.skip ?_
         exact AtX.to (hJ68 v61 h) [0] (sl rfl) (ol rfl) rfl
      ·
       refine cI h rfl (fun c83 h => ?_) (fun c83 h => ?_)
       ·
        refine cr [0, 1, 2, 3, 4, 5] rfl (q1 rfl (z0 (mv rfl)) (q1 rfl (z0 (mv rfl)) (q1 rfl (z0 (mv rfl)) (q1 rfl (z0 (mv rfl)) (q1 rfl (z0 (mv rfl)) (zp h fun y84 ey84 h => n1 rfl (z3r 0 rfl (fun x => (z68 x).mem) (zw5 H) (args := [(eqv sv2), (iv .i64 v55), (iv .i64 v4), (iv .i64 (W ((W ((W (((U ((W (v3 + v5)))).fdiv 2))) + v4)) - v55))), (fcmp P (fun x => (agg (z6 x))) y6)]) ⟨(mv rfl), (mv rfl), (mv rfl), (mv rfl), (mv rfl), trivial⟩ (za0 H φ v1 v55 v4 (W ((W ((W (((U ((W (v3 + v5)))).fdiv 2))) + v4)) - v55)) y6 sv2 _ ey84) fun x85 nw86 hk87 => ?_)))))))
        obtain ⟨rfl, rfl⟩ := hk87
        refine ⟨z5, ?_⟩
        refine rn ?_
        exact AtX.to (hJ62 y84 h) [0] (sl rfl) (ol rfl) rfl
       ·
        refine z2.skip ?_
        exact AtX.to (hJ62 v1 h) [0] (sl rfl) (ol rfl) rfl
     ·
      refine z2.block ?_
      refine z2.to (z2.loop (fun n (z : Int × Int) => zt φ v1 v3 v4 v5 y6 (z04 φ v1 v3 v4 v5 y6 (z7 φ)) n z.1 z.2) r (fun z => ⟨zd.of [(0, (eqv sv2)), (1, (iv .i64 v3)), (2, (iv .i64 v4)), (3, (iv .i64 v5)), (4, (fcmp P (fun x => (agg (z6 x))) y6)), (18, (iv .i64 (W (((U ((W (v3 + v5)))).fdiv 2))))), (19, (iv .i64 (W ((W (((U ((W (v3 + v5)))).fdiv 2))) + v4)))), (20, (iv .i64 z.1)), (21, (iv .i64 z.2)), (22, (iv .i64 (W ((W ((W (((U ((W (v3 + v5)))).fdiv 2))) + v4)) - 1))))], [(row 70 z6 10 v1 sv2)]⟩) (fun z => rfl) (fun n90 z ih90 h => ?_) φ (v52, v53) h) [0] (sl rfl) (ol rfl) rfl
      obtain ⟨v88, v89⟩ := z
      replace h : zt φ v1 v3 v4 v5 y6 (z04 φ v1 v3 v4 v5 y6 (z7 φ)) (n90 + 1) v88 v89 = some r := h
      rw [zt] at h
      refine cs (cs (cr [0, 1, 2] rfl (q1 rfl (z0 (mv rfl)) (q1 rfl (z0 (mv rfl)) (q1 rfl (z10 (mv rfl) (mv rfl)) (rn (al [0, 1, 2, 3, 4, 18, 19, 20, 21, 22, 151] [0] rfl rfl rfl (sq ?_))))))))
      refine cI h rfl (fun c91 h => ?_) (fun c91 h => ?_)
      ·
       refine z2.skip (al [0, 1, 2, 3, 4, 18, 19, 20, 21, 22] [0] rfl rfl rfl (sq (z2.block (cs (cr [0, 1, 2, 3, 4, 5, 6] rfl (q1 rfl (z0 (mv rfl)) (q1 rfl (z0 (mv rfl)) (q1 rfl (z0g (mv rfl) (mv rfl)) (q1 rfl (z83 (us3 H) (zft H) (mv rfl)) (q1 rfl (z9c 2 (by decide) (mv rfl) ct (by decide)) (q1 rfl (z83 (zgk H) (un3 H) (mv rfl)) ?_)))))))))))
       refine q1 rfl (z1 (mv rfl)) (rn (al [0, 1, 2, 3, 4, 18, 19, 20, 21, 22, 23] [0] rfl rfl rfl (sq (cs (ckE h fun h92 h => ckE h fun h93 h => zp h fun y94 ey94 h => z2.draw (QR := [(0, _), (1, _), (2, _), (3, _), (4, _), (5, _), (6, _), (7, _), (8, _), (9, _), (10, _), (11, _), (12, _), (13, _)]) (tab := [(some 158, []), (some 159, []), (some 160, []), (some 161, []), (some 162, [2, 3]), (some 163, [1, 4]), (some 164, [5]), (some 165, []), (some 166, []), (some 167, [7, 8]), (some 168, [9]), (some 169, [0, 6, 10]), (some 170, [11]), (some 171, [12])]) (z5h H) (Reg.intro [] [] (by kernel_rfl) rfl (an rfl) ⟨(qr rfl (z0 (mv rfl))), (qr rfl (z0 (mv rfl))), (qr rfl (z0 (mv rfl))), (qr rfl (z0 (mv rfl))), (qr rfl (z2f (mv rfl) (mv rfl))), (qr rfl (zb 0 (ix53 H) (mv rfl) rfl (mv rfl) (h92).1 (h92).2)), (qr rfl (ln (tl70 H) ((Pt.row _ 0 (k := ((W ((W ((W ((W (((U ((W (v3 + v5)))).fdiv 2))) + v4)) - 1)) - (W (((U ((W (v88 + v89)))).fdiv 2))))) : Int).toNat) (fo := 0) z0o (mv rfl) rfl rfl (z8 h92) rfl).take 10 (cs' := (z6 (gt v1 (W ((W ((W ((W (((U ((W (v3 + v5)))).fdiv 2))) + v4)) - 1)) - (W (((U ((W (v88 + v89)))).fdiv 2)))))))) rfl) rfl)), (qr rfl (z0 (mv rfl))), (qr rfl (z0 (mv rfl))), (qr rfl (zb 0 (ix53 H) (mv rfl) rfl (mv rfl) (h93).1 (h93).2)), (qr rfl (ln (tl70 H) ((Pt.row _ 0 (k := ((W (((U ((W (v88 + v89)))).fdiv 2))) : Int).toNat) (fo := 0) z0o (mv rfl) rfl rfl (z8 h93) rfl).take 10 (cs' := (z6 (gt v1 (W (((U ((W (v88 + v89)))).fdiv 2)))))) rfl) rfl)), (qr rfl (zaz (mv rfl) (mv rfl) (mv rfl) ey94)), (qr rfl (z10 (mv rfl) ct)), (qr rfl (z79 (mv rfl))), trivial⟩ trivial (fun _ => al [0, 1, 2, 3, 4, 18, 19, 20, 21, 22, 23, 171] [0] rfl rfl rfl (sq ?_))))))))
       refine cI h rfl (fun c95 h => ?_) (fun c95 h => ?_)
       ·
        refine cr [0, 1, 2] rfl (q1 rfl (z0 (mv rfl)) (q1 rfl (z0g (mv rfl) ct) (q1 rfl (z1 (mv rfl)) (rn (AtX.in_normal ?_)))))
        exact AtX.to (ih90 ((W ((W (((U ((W (v88 + v89)))).fdiv 2))) + 1)), v89) h) [0] (sl rfl) (ol rfl) rfl
       ·
        refine cr [0, 1] rfl (q1 rfl (z0 (mv rfl)) (q1 rfl (z1 (mv rfl)) (rn (AtX.in_normal ?_))))
        exact AtX.to (ih90 (v88, (W (((U ((W (v88 + v89)))).fdiv 2)))) h) [0] (sl rfl) (ol rfl) rfl
      ·
       refine z2.exit (AtX.then_exit (AtX.then_exit (AtX.in_hit ?_)))
       exact AtX.to (hJ56 v88 h) [0] (sl rfl) (ol rfl) rfl
    ·
     refine cI h rfl (fun c96 h => ?_) (fun c96 h => ?_)
     ·
      refine cs (cr [0, 1, 2, 3] rfl (q1 rfl (z0 (mv rfl)) (q1 rfl (z0 (mv rfl)) (q1 rfl (z2f (mv rfl) (mv rfl)) (q1 rfl (z1 (mv rfl)) (rn (al [0, 1, 2, 3, 4, 18, 19, 20] [0] rfl rfl rfl (sq (cr [0, 1] rfl (q1 rfl (z0 (mv rfl)) (q1 rfl (z1 (mv rfl)) ?_)))))))))))
      refine rn ?_
      exact AtX.to (hJ54 ((W ((W ((W (((U ((W (v3 + v5)))).fdiv 2))) + v4)) - v5)), (W (((U ((W (v3 + v5)))).fdiv 2)))) h) [0] (sl rfl) (ol rfl) rfl
     ·
      refine cs (cr [0, 1] rfl (q1 rfl (z0 (mv rfl)) (q1 rfl (z1 (mv rfl)) (rn (al [0, 1, 2, 3, 4, 18, 19, 20] [0] rfl rfl rfl (sq (cr [0, 1] rfl (q1 rfl (z0 (mv rfl)) (q1 rfl (z1 (mv rfl)) (rn ?_))))))))))
      exact AtX.to (hJ54 (v3, v4) h) [0] (sl rfl) (ol rfl) rfl
end Px
end
