/- A part of the proof of handoverPairs_holds. Conditions: none. -/
import Derived.Test.YteljjchaealkoaaPre
section
set_option linter.unusedVariables false
set_option linter.unusedSimpArgs false
set_option maxHeartbeats 4000000
set_option maxRecDepth 100000
namespace Px
open Go Go.RowKit Go.Proofs
theorem zi2 {P : Program} (H : P = Try.prog) (φ : Nat) (v1 : (List Wash)) (r : (Int)) (h : zap φ v1 = some r) : z0z P 69 [(ro z9o 3 v1)] (fun x news => x = (iv .i64 r) ∧ news = []) := by
 unfold zap at h
 refine z0z.of_code' 57 (fn69 H) rfl rfl (Nat.le_of_ble_eq_true rfl) fun w0 base r0 wI => ?_
 refine cl [0] [] rfl rfl rfl (cs (cr [0] rfl (q1 rfl (z1 ct) (rn (al [0] [] rfl rfl rfl (sq (cs (cr [0, 1] rfl (ckE h fun h2 h => n1 rfl (zs1 (e := eB) false [.bool false] (sl76 H) lB (ze4 H) rfl rfl ct ct h2.1 h2.2.1 h2.2.2 fun sv3 => q1 rfl (z1 (mv rfl)) ?_))))))))))
 refine rn (al [0, 3] [0] rfl rfl rfl (sq (cs (cs (cr [0] rfl (q1 rfl (z1 ct) (rn (al [0, 3, 4] [0] rfl rfl rfl (sq ?_)))))))))
 refine z2.join (fun z : Unit => (z76 φ)) r (fun z => ⟨zd.of [], []⟩) (fun z h => ?_) (fun hJ4 => ?_)
 ·
  replace h : (z76 φ) = some r := h
  unfold z76 at h
  refine al [] [] rfl rfl rfl (sq (cs (cr [0] rfl (q1 rfl (z1 ct) (rn (al [2] [] rfl rfl rfl (sq (z2.ret (AtX.ret' (iv .i64 0) (zq.one Try.results69 rfl) [] [] trivial rfl ?_)))))))))
  obtain rfl := Option.some.inj h
  exact ⟨rfl, rfl⟩
 ·
  refine z2.block ?_
  refine z2.to (z2.loop (fun n (z : Int × (List Bool)) => z6e φ v1 (z76 φ) n z.1 z.2) r (fun z => ⟨zd.of [(0, (ro z9o 3 v1)), (3, (eqv sv3)), (4, (iv .i64 z.1))], [(row 4 eB 1 z.2 sv3)]⟩) (fun z => rfl) (fun n7 z ih7 h => ?_) φ (0, (List.replicate (4096 : Int).toNat (false : Bool))) h) [0] (sl rfl) (ol rfl) rfl
  obtain ⟨v5, v6⟩ := z
  replace h : z6e φ v1 (z76 φ) (n7 + 1) v5 v6 = some r := h
  rw [z6e] at h
  refine cs (cs (cr [0, 1, 2, 3] rfl (q1 rfl (z0 (mv rfl)) (q1 rfl (z0 (mv rfl)) (q1 rfl (z0x (il29 H) (mv rfl)) (q1 rfl (z10 (mv rfl) (mv rfl)) (rn (al [0, 3, 4, 10] [0] rfl rfl rfl (sq ?_)))))))))
  refine cI h rfl (fun c8 h => ?_) (fun c8 h => ?_)
  ·
   refine z2.skip (al [0, 3, 4] [0] rfl rfl rfl (sq (cs (z2.block (cs (cr [0, 1, 2, 3, 4, 5] rfl (q1 rfl (z0 (mv rfl)) (q1 rfl (z0 (mv rfl)) (ckE h fun h9 h => q1 rfl (zn (ix29 H) (mv rfl) (mv rfl) (h9).1 (z8 h9)) (q1 rfl (ln (zre H) (Pt.rop (mv rfl)) rfl) ?_))))))))))
   refine n1 rfl (z38 _ (zwk H) rfl fun b10 => n1 rfl (sto 1 (zre H) (mv rfl) (Ce.agg (mv rfl)) rfl rfl rfl rfl (rn (al [0, 3, 4, 5] [0, 1] rfl rfl rfl (sq (cs (cs (cr [0, 1, 2, 3, 4, 5, 6, 7, 8, 9, 10, 11, 12, 13, 14, 15, 16, 17, 18, 19, 20, 21, 22] rfl (q1 rfl (z3 (zdk H) (mv rfl)) (q1 rfl (lb (tl3 H) 1 (mv rfl) rfl rfl) (zp h fun y11 ey11 h => q1 rfl (oQ (z9q H) (z1e H φ ((gt v1 v5).fFrom) 0 63 _ ey11) z5 ⟨ef (mv rfl), ef ct, ef ct, trivial⟩) ?_)))))))))))
   refine q1 rfl (z79 (mv rfl)) (q1 rfl (z0 (mv rfl)) (g1 rfl rfl (fun g12 => z3 (zd7 H) (mv rfl)) (g1 rfl rfl (fun g13 => lb (tl3 H) 1 (mc rfl g13) rfl rfl) (zp h fun y15 ey15 h => g1 rfl rfl (fun g14 => oQ (z9q H) (z1e H φ ((gt v1 v5).fTo) 0 63 _ (zy ey15 g14)) z5 ⟨ef (mc rfl g14), ef ct, ef ct, trivial⟩) (g1 rfl rfl (fun g16 => z79 (mc rfl g16)) (q1 rfl (opOr (mv rfl) ct (fun g17 => (mc rfl g17))) (q1 rfl (z0 (mv rfl)) (g1 rfl rfl (fun g18 => z3 (zdk H) (mv rfl)) (g1 rfl rfl (fun g19 => lb (tl3 H) 1 (mc rfl g19) rfl rfl) (g1 rfl rfl (fun g20 => z3 (zd7 H) (mv rfl)) ?_))))))))))
   refine g1 rfl rfl (fun g21 => lb (tl3 H) 1 (mc rfl g21) rfl rfl) (g1 rfl rfl (fun g22 => z61 (mc rfl g22) (mc rfl g22)) (q1 rfl (opOr (mv rfl) ct (fun g23 => (mc rfl g23))) (q1 rfl (z0 (mv rfl)) (g1 rfl rfl (fun g24 => z3 (zpc H) (mv rfl)) (g1 rfl rfl (fun g25 => lb (tl3 H) 1 (mc rfl g25) rfl rfl) (zp h fun y27 ey27 h => g1 rfl rfl (fun g26 => oQ (z9q H) (z1e H φ ((gt v1 v5).fMinutes) 0 100000 _ (zy ey27 g26)) z5 ⟨ef (mc rfl g26), ef ct, ef ct, trivial⟩) (g1 rfl rfl (fun g28 => z79 (mc rfl g28)) (q1 rfl (opOr (mv rfl) ct (fun g29 => (mc rfl g29))) (rn (al [0, 3, 4, 5, 39] [0, 1] rfl rfl rfl ?_))))))))))
   refine sq ?_
   refine cI h rfl (fun c30 h => ?_) (fun c30 h => ?_)
   ·
    refine cs ?_
    refine z2.region' [0] rfl ?_
    refine cq rfl rfl rfl (z1 (Ev.const _)) (ze.nil (AtX.le' [(2, (iv .i64 1))] [] [] (sl rfl) trivial rfl (AtX.seq (z2.ret (AtX.then_ret (AtX.in_ret (AtX.then_ret (AtX.then_ret (AtX.in_ret (AtX.then_ret (AtX.ret' (iv .i64 1) (zq.one Try.results69 rfl) [] [] trivial rfl ?_)))))))))))
    obtain rfl := Option.some.inj h
    exact ⟨rfl, rfl⟩
   ·
    refine z2.skip (AtX.le' [(0, (ro z9o 3 v1)), (3, (eqv sv3)), (4, (iv .i64 v5)), (5, (eqv (.pointer (some ⟨b10, 0, none⟩))))] [0, 1] [(row 4 eB 1 v6 sv3), (box b10 149 (z9o (gt v1 v5)))] ⟨⟨_, rfl, Ent.refl⟩, ⟨_, rfl, Ent.refl⟩, ⟨_, rfl, Ent.refl⟩, ⟨_, rfl, Ent.refl⟩, trivial⟩ ⟨⟨_, rfl, EntH.refl⟩, ⟨_, rfl, EntH.refl⟩, trivial⟩ rfl (AtX.seq ?_))
    refine z2.seq ?_
    refine z2.seq ?_
    refine z2.region' [0, 1, 2, 3, 4, 5, 6, 7, 8] rfl ?_
    refine ze.cons_q (eqv sv3) rfl rfl rfl (z0 (mv rfl)) (ze.cons_q (eqv (.pointer (some ⟨b10, 0, none⟩))) rfl rfl rfl (z3 (zdk H) (mv rfl)) (ze.cons_q (iv .i64 ((gt v1 v5).fFrom)) rfl rfl rfl (z2g (tl3 H) ((Pt.box 1 (mv rfl) rfl rfl).take 1 (cs' := [(iv .i64 ((gt v1 v5).fFrom))]) rfl)) (ze.cons_q (iv .i64 (W (64 * ((gt v1 v5).fFrom)))) rfl rfl rfl (zae (Ev.const _) (mv rfl)) (ze.cons_q (eqv (.pointer (some ⟨b10, 1, none⟩))) rfl rfl rfl (z3 (zd7 H) (mv rfl)) (ze.cons_q (iv .i64 ((gt v1 v5).fTo)) rfl rfl rfl (z2g (tl3 H) ((Pt.box 1 (mv rfl) rfl rfl).take 1 (cs' := [(iv .i64 ((gt v1 v5).fTo))]) rfl)) (ze.cons_q (iv .i64 (W ((W (64 * ((gt v1 v5).fFrom))) + ((gt v1 v5).fTo)))) rfl rfl rfl (z0g (mv rfl) (mv rfl)) (ckE h fun h31 h => ze.cons_q (rowp sv3 (((W ((W (64 * ((gt v1 v5).fFrom))) + ((gt v1 v5).fTo))) : Int).toNat * 1)) rfl rfl rfl (zb 0 (ix76 H) (mv rfl) rfl (mv rfl) (h31).1 (h31).2) (ze.cons_q (bv (gt v6 (W ((W (64 * ((gt v1 v5).fFrom))) + ((gt v1 v5).fTo))))) rfl rfl rfl (z2g (tl4 H) ((Pt.row _ 0 (k := ((W ((W (64 * ((gt v1 v5).fFrom))) + ((gt v1 v5).fTo))) : Int).toNat) (fo := 0) lB (Ev.tmp rfl) rfl (by omega) (z8 h31) rfl).take 1 (cs' := [(bv (gt v6 (W ((W (64 * ((gt v1 v5).fFrom))) + ((gt v1 v5).fTo)))))]) rfl)) (rn (al [0, 3, 4, 5, 48] [0, 1] rfl rfl rfl ?_))))))))))
    refine AtX.seq ?_
    refine cI h rfl (fun c32 h => ?_) (fun c32 h => ?_)
    ·
     refine z2.seq ?_
     refine z2.region' [0] rfl ?_
     refine cq rfl rfl rfl (z1 (Ev.const _)) (ze.nil (AtX.le' [(2, (iv .i64 1))] [] [] ⟨⟨_, rfl, Ent.refl⟩, trivial⟩ trivial rfl (AtX.seq (z2.ret (AtX.then_ret (AtX.in_ret (AtX.then_ret (AtX.then_ret (AtX.in_ret (AtX.then_ret (AtX.ret' (iv .i64 1) (zq.one Try.results69 rfl) [] [] trivial rfl ?_)))))))))))
     obtain rfl := Option.some.inj h
     exact ⟨rfl, rfl⟩
    ·
     refine z2.skip (AtX.le' [(0, (ro z9o 3 v1)), (3, (eqv sv3)), (4, (iv .i64 v5)), (5, (eqv (.pointer (some ⟨b10, 0, none⟩))))] [0, 1] [(row 4 eB 1 v6 sv3), (box b10 149 (z9o (gt v1 v5)))] ⟨⟨_, rfl, Ent.refl⟩, ⟨_, rfl, Ent.refl⟩, ⟨_, rfl, Ent.refl⟩, ⟨_, rfl, Ent.refl⟩, trivial⟩ ⟨⟨_, rfl, EntH.refl⟩, ⟨_, rfl, EntH.refl⟩, trivial⟩ rfl (AtX.seq ?_))
     refine z2.region' [0, 1, 2, 3, 4, 5, 6, 7, 8] rfl ?_
     refine ze.cons_q (eqv sv3) rfl rfl rfl (z0 (mv rfl)) (ze.cons_q (eqv (.pointer (some ⟨b10, 0, none⟩))) rfl rfl rfl (z3 (zdk H) (mv rfl)) (ze.cons_q (iv .i64 ((gt v1 v5).fFrom)) rfl rfl rfl (z2g (tl3 H) ((Pt.box 1 (mv rfl) rfl rfl).take 1 (cs' := [(iv .i64 ((gt v1 v5).fFrom))]) rfl)) (ze.cons_q (iv .i64 (W (64 * ((gt v1 v5).fFrom)))) rfl rfl rfl (zae (Ev.const _) (mv rfl)) (ze.cons_q (eqv (.pointer (some ⟨b10, 1, none⟩))) rfl rfl rfl (z3 (zd7 H) (mv rfl)) (ze.cons_q (iv .i64 ((gt v1 v5).fTo)) rfl rfl rfl (z2g (tl3 H) ((Pt.box 1 (mv rfl) rfl rfl).take 1 (cs' := [(iv .i64 ((gt v1 v5).fTo))]) rfl)) (ze.cons_q (iv .i64 (W ((W (64 * ((gt v1 v5).fFrom))) + ((gt v1 v5).fTo)))) rfl rfl rfl (z0g (mv rfl) (mv rfl)) (ze.cons_q (rowp sv3 (((W ((W (64 * ((gt v1 v5).fFrom))) + ((gt v1 v5).fTo))) : Int).toNat * 1)) rfl rfl rfl (zb 0 (ix76 H) (mv rfl) rfl (mv rfl) (h31).1 (h31).2) (ze.cons rfl rfl rfl (z3s 0 (k := ((W ((W (64 * ((gt v1 v5).fFrom))) + ((gt v1 v5).fTo))) : Int).toNat) (fo := 0) (z' := true) (cs := [(bv true)]) lB (tl4 H) (Ev.tmp rfl) (Ce.one (Ev.const _) (One.eqv rfl)) rfl rfl (by omega) (z8 h31) (Nat.le_of_ble_eq_true rfl) rfl (rn (AtX.in_normal (al [0, 3, 4] [0] rfl rfl rfl ?_))))))))))))
     refine sq (cr [0, 1, 2] rfl (q1 rfl (z0 (mv rfl)) (q1 rfl (z0g (mv rfl) ct) (q1 rfl (z1 (mv rfl)) (rn ?_)))))
     exact AtX.to (ih7 ((W (v5 + 1)), (z2o v6 (W ((W (64 * ((gt v1 v5).fFrom))) + ((gt v1 v5).fTo))) true)) h) [0] (sl rfl) (ol rfl) rfl
  ·
   refine z2.exit (AtX.then_exit (AtX.then_exit (AtX.in_hit ?_)))
   exact AtX.to (hJ4 () h) [] trivial trivial rfl
theorem zix {P : Program} (H : P = Try.prog) (φ : Nat) (v1 : z8p) (r : (Int)) (h : zb8 φ v1 = some r) : z0z P 42 [(agg (z78 v1))] (fun x news => x = (iv .i64 r) ∧ news = []) := by
 unfold zb8 at h
 refine z0z.of_code' 106 (fn42 H) rfl rfl (Nat.le_of_ble_eq_true rfl) fun w0 base r0 wI => ?_
 refine cl [0] [] rfl rfl rfl (cs (cr [0, 1] rfl (n1 rfl (z7i (Ce.agg (mv rfl)) fun b2 => q1 rfl (z1 ct) (rn (al [1] [0] rfl rfl rfl (sq (cs (cs (cr [0, 1, 2, 3, 4, 5, 6, 7, 8, 9, 10, 11, 12, 13, 14, 15, 16, 17, 18, 19, 20, 21] rfl (q1 rfl (z3 (zda H) (mv rfl)) ?_)))))))))))
 refine q1 rfl (lb (tl26 H) 0 (mv rfl) rfl rfl) (q1 rfl (z0x (il26 H) (mv rfl)) (q1 rfl (z49 (mv rfl) ct) (q1 rfl (z0 (mv rfl)) (g1 rfl rfl (fun g3 => z3 (zcz H) (mv rfl)) (g1 rfl rfl (fun g4 => lb (tl27 H) 0 (mc rfl g4) rfl rfl) (g1 rfl rfl (fun g5 => z0x (il27 H) (mc rfl g5)) (g1 rfl rfl (fun g6 => z49 (mc rfl g6) ct) (q1 rfl (opOr (mv rfl) ct (fun g7 => (mc rfl g7))) (q1 rfl (z0 (mv rfl)) (g1 rfl rfl (fun g8 => z3 (zjj H) (mv rfl)) (g1 rfl rfl (fun g9 => lb (tl28 H) 0 (mc rfl g9) rfl rfl) ?_)))))))))))
 refine g1 rfl rfl (fun g10 => z0x (il28 H) (mc rfl g10)) (g1 rfl rfl (fun g11 => z49 (mc rfl g11) ct) (q1 rfl (opOr (mv rfl) ct (fun g12 => (mc rfl g12))) (q1 rfl (z0 (mv rfl)) (g1 rfl rfl (fun g13 => z3 (zlj H) (mv rfl)) (g1 rfl rfl (fun g14 => lb (tl29 H) 0 (mc rfl g14) rfl rfl) (g1 rfl rfl (fun g15 => z0x (il29 H) (mc rfl g15)) (g1 rfl rfl (fun g16 => z49 (mc rfl g16) ct) (q1 rfl (opOr (mv rfl) ct (fun g17 => (mc rfl g17))) (rn (al [1, 28] [0] rfl rfl rfl (sq ?_)))))))))))
 refine cI h rfl (fun c18 h => ?_) (fun c18 h => ?_)
 ·
  refine cs (cr [0] rfl (q1 rfl (z1 ct) (rn (al [2] [] rfl rfl rfl (sq (z2.ret (AtX.then_ret (AtX.ret' (iv .i64 2) (zq.one Try.results42 rfl) [] [] trivial rfl ?_))))))))
  obtain rfl := Option.some.inj h
  exact ⟨rfl, rfl⟩
 ·
  refine z2.skip (al [1] [0] rfl rfl rfl (sq (cs (cs (cr [0] rfl (q1 rfl (z1 ct) (rn (al [1, 3] [0] rfl rfl rfl (sq ?_)))))))))
  refine z2.join (fun z : Unit => (z5b φ v1)) r (fun z => ⟨zd.of [(1, (eqv (.pointer (some ⟨b2, 0, none⟩))))], [(box b2 31 (z78 v1))]⟩) (fun z h => ?_) (fun hJ19 => ?_)
  ·
   replace h : (z5b φ v1) = some r := h
   unfold z5b at h
   refine al [1] [0] rfl rfl rfl (sq (cs (cs (cr [0] rfl (q1 rfl (z1 ct) (rn (al [1, 4] [0] rfl rfl rfl (sq ?_))))))))
   refine z2.join (fun z : Unit => (z5e φ v1)) r (fun z => ⟨zd.of [(1, (eqv (.pointer (some ⟨b2, 0, none⟩))))], [(box b2 31 (z78 v1))]⟩) (fun z h => ?_) (fun hJ20 => ?_)
   ·
    replace h : (z5e φ v1) = some r := h
    unfold z5e at h
    refine al [1] [0] rfl rfl rfl (sq (cs (cs (cr [0] rfl (q1 rfl (z1 ct) (rn (al [1, 5] [0] rfl rfl rfl (sq ?_))))))))
    refine z2.join (fun z : Unit => (z58 φ v1)) r (fun z => ⟨zd.of [(1, (eqv (.pointer (some ⟨b2, 0, none⟩))))], [(box b2 31 (z78 v1))]⟩) (fun z h => ?_) (fun hJ21 => ?_)
    ·
     replace h : (z58 φ v1) = some r := h
     unfold z58 at h
     refine al [1] [0] rfl rfl rfl (sq (cs (cr [0, 1, 2, 3] rfl (q1 rfl (z3 (zlj H) (mv rfl)) (q1 rfl (lb (tl29 H) 0 (mv rfl) rfl rfl) (zp h fun y22 ey22 h => q1 rfl (oQ (zx0 H) (zi2 H φ v1.fWashes _ ey22) z5 ⟨ef (mv rfl), trivial⟩) (q1 rfl (z1 (mv rfl)) (rn (al [2] [] rfl rfl rfl (sq ?_))))))))))
     refine z2.ret (AtX.ret' (iv .i64 y22) (zq.one Try.results42 rfl) [] [] trivial rfl ?_)
     obtain rfl := Option.some.inj h
     exact ⟨rfl, rfl⟩
    ·
     refine z2.block ?_
     refine z2.to (z2.loop (fun n (z : Int) => z66 φ v1 (z58 φ v1) n z) r (fun z => ⟨zd.of [(1, (eqv (.pointer (some ⟨b2, 0, none⟩)))), (5, (iv .i64 z))], [(box b2 31 (z78 v1))]⟩) (fun z => rfl) (fun n24 v23 ih24 h => ?_) φ 0 h) [0] (sl rfl) (ol rfl) rfl
     replace h : z66 φ v1 (z58 φ v1) (n24 + 1) v23 = some r := h
     rw [z66] at h
     refine cs (cs (cr [0, 1, 2, 3, 4] rfl (q1 rfl (z0 (mv rfl)) (q1 rfl (z3 (zjj H) (mv rfl)) (q1 rfl (lb (tl28 H) 0 (mv rfl) rfl rfl) (q1 rfl (z0x (il28 H) (mv rfl)) (q1 rfl (z10 (mv rfl) (mv rfl)) (rn (al [1, 5, 64] [0] rfl rfl rfl (sq ?_))))))))))
     refine cI h rfl (fun c25 h => ?_) (fun c25 h => ?_)
     ·
      refine z2.skip (al [1, 5] [0] rfl rfl rfl (sq (cs (z2.block (cs (cr [0, 1, 2, 3, 4, 5, 6] rfl (q1 rfl (z3 (zjj H) (mv rfl)) (q1 rfl (lb (tl28 H) 0 (mv rfl) rfl rfl) (q1 rfl (z0 (mv rfl)) (ckE h fun h26 h => q1 rfl (zn (ix28 H) (mv rfl) (mv rfl) (h26).1 (z8 h26)) ?_))))))))))
      refine q1 rfl (ln (zqq H) (Pt.rop (mv rfl)) rfl) (n1 rfl (z38 _ (zwb H) rfl fun b27 => n1 rfl (sto 1 (zqq H) (mv rfl) (Ce.agg (mv rfl)) rfl rfl rfl rfl (rn (al [1, 5, 6] [0, 1] rfl rfl rfl (sq (cs (cr [0, 1, 2, 3, 4, 5, 6, 7, 8, 9, 10, 11, 12, 13, 14, 15, 16, 17, 18, 19, 20, 21, 22, 23, 24, 25, 26, 27, 28, 29, 30] rfl (q1 rfl (z3 (zkg H) (mv rfl)) (q1 rfl (lb (tl3 H) 1 (mv rfl) rfl rfl) (q1 rfl (z3 (zda H) (mv rfl)) (q1 rfl (lb (tl26 H) 0 (mv rfl) rfl rfl) ?_))))))))))))
      refine q1 rfl (z0x (il26 H) (mv rfl)) (q1 rfl (z2f (mv rfl) ct) (zp h fun y28 ey28 h => q1 rfl (oQ (z9q H) (z1e H φ ((gt v1.fSwaps v23).fWanted) 0 (W ((v1.fTypes.length : Int) - 1)) _ ey28) z5 ⟨ef (mv rfl), ef ct, ef (mv rfl), trivial⟩) (q1 rfl (z79 (mv rfl)) (q1 rfl (z0 (mv rfl)) (g1 rfl rfl (fun g29 => z3 (zkn H) (mv rfl)) (g1 rfl rfl (fun g30 => lb (tl3 H) 1 (mc rfl g30) rfl rfl) (g1 rfl rfl (fun g31 => z3 (zda H) (mv rfl)) (g1 rfl rfl (fun g32 => lb (tl26 H) 0 (mc rfl g32) rfl rfl) (g1 rfl rfl (fun g33 => z0x (il26 H) (mc rfl g33)) (g1 rfl rfl (fun g34 => z2f (mc rfl g34) ct) ?_))))))))))
      refine zp h fun y36 ey36 h => g1 rfl rfl (fun g35 => oQ (z9q H) (z1e H φ ((gt v1.fSwaps v23).fGiven) 0 (W ((v1.fTypes.length : Int) - 1)) _ (zy ey36 g35)) z5 ⟨ef (mc rfl g35), ef ct, ef (mc rfl g35), trivial⟩) (g1 rfl rfl (fun g37 => z79 (mc rfl g37)) (q1 rfl (opOr (mv rfl) ct (fun g38 => (mc rfl g38))) (q1 rfl (z0 (mv rfl)) (g1 rfl rfl (fun g39 => z3 (zkg H) (mv rfl)) (g1 rfl rfl (fun g40 => lb (tl3 H) 1 (mc rfl g40) rfl rfl) (g1 rfl rfl (fun g41 => z3 (zkn H) (mv rfl)) (g1 rfl rfl (fun g42 => lb (tl3 H) 1 (mc rfl g42) rfl rfl) (g1 rfl rfl (fun g43 => z61 (mc rfl g43) (mc rfl g43)) (q1 rfl (opOr (mv rfl) ct (fun g44 => (mc rfl g44))) (q1 rfl (z0 (mv rfl)) ?_))))))))))
      refine g1 rfl rfl (fun g45 => z3 (zom H) (mv rfl)) (g1 rfl rfl (fun g46 => lb (tl3 H) 1 (mc rfl g46) rfl rfl) (zp h fun y48 ey48 h => g1 rfl rfl (fun g47 => oQ (z9q H) (z1e H φ ((gt v1.fSwaps v23).fCost) 0 1000000000 _ (zy ey48 g47)) z5 ⟨ef (mc rfl g47), ef ct, ef ct, trivial⟩) (g1 rfl rfl (fun g49 => z79 (mc rfl g49)) (q1 rfl (opOr (mv rfl) ct (fun g50 => (mc rfl g50))) (rn (al [1, 5, 102] [0] rfl rfl rfl (sq ?_)))))))
      refine cI h rfl (fun c51 h => ?_) (fun c51 h => ?_)
      ·
       refine cs (cr [0] rfl (q1 rfl (z1 ct) (rn (al [2] [] rfl rfl rfl (sq (z2.ret (AtX.in_ret (AtX.then_ret (AtX.then_ret (AtX.in_ret (AtX.then_ret ?_)))))))))))
       refine AtX.ret' (iv .i64 1) (zq.one Try.results42 rfl) [] [] trivial rfl ?_
       obtain rfl := Option.some.inj h
       exact ⟨rfl, rfl⟩
      ·
       refine z2.skip (AtX.in_normal (al [1, 5] [0] rfl rfl rfl (sq (cr [0, 1, 2] rfl (q1 rfl (z0 (mv rfl)) (q1 rfl (z0g (mv rfl) ct) (q1 rfl (z1 (mv rfl)) (rn ?_))))))))
       exact AtX.to (ih24 (W (v23 + 1)) h) [0] (sl rfl) (ol rfl) rfl
     ·
      refine z2.exit (AtX.then_exit (AtX.then_exit (AtX.in_hit ?_)))
      exact AtX.to (hJ21 () h) [0] (sl rfl) (ol rfl) rfl
   ·
    refine z2.block ?_
    refine z2.to (z2.loop (fun n (z : Int) => z6f φ v1 (z5e φ v1) n z) r (fun z => ⟨zd.of [(1, (eqv (.pointer (some ⟨b2, 0, none⟩)))), (4, (iv .i64 z))], [(box b2 31 (z78 v1))]⟩) (fun z => rfl) (fun n53 v52 ih53 h => ?_) φ 0 h) [0] (sl rfl) (ol rfl) rfl
    replace h : z6f φ v1 (z5e φ v1) (n53 + 1) v52 = some r := h
    rw [z6f] at h
    refine cs (cs (cr [0, 1, 2, 3, 4] rfl (q1 rfl (z0 (mv rfl)) (q1 rfl (z3 (zcz H) (mv rfl)) (q1 rfl (lb (tl27 H) 0 (mv rfl) rfl rfl) (q1 rfl (z0x (il27 H) (mv rfl)) (q1 rfl (z10 (mv rfl) (mv rfl)) (rn (al [1, 4, 47] [0] rfl rfl rfl (sq ?_))))))))))
    refine cI h rfl (fun c54 h => ?_) (fun c54 h => ?_)
    ·
     refine z2.skip (al [1, 4] [0] rfl rfl rfl (sq (cs (z2.block (cs (ckE h fun h55 h => zp h fun y56 ey56 h => z2.draw (QR := [(0, _), (1, _), (2, _), (3, _), (4, _), (5, _), (6, _), (7, _), (8, _), (9, _)]) (tab := [(some 50, []), (some 51, [0]), (some 52, []), (some 53, [1, 2]), (some 54, [3]), (some 55, []), (some 56, [5]), (some 57, [6]), (some 58, [4, 7]), (some 59, [8])]) (z5h H) (Reg.intro [] [] (by kernel_rfl) rfl (an rfl) ⟨(qr rfl (z3 (zcz H) (mv rfl))), (qr rfl (lb (tl27 H) 0 (mv rfl) rfl rfl)), (qr rfl (z0 (mv rfl))), (qr rfl (zn (ix27 H) (mv rfl) (mv rfl) (h55).1 (z8 h55))), (qr rfl (ln (tl66 H) (Pt.rop (mv rfl)) rfl)), (qr rfl (z3 (zda H) (mv rfl))), (qr rfl (lb (tl26 H) 0 (mv rfl) rfl rfl)), (qr rfl (z0x (il26 H) (mv rfl))), (qr rfl (oQ (zvv H) (zed H φ (gt v1.fWagons v52) (v1.fTypes.length : Int) _ ey56) z5 ⟨ef (mv rfl), ef (mv rfl), trivial⟩)), (qr rfl (z79 (mv rfl))), trivial⟩ trivial (fun _ => al [1, 4, 59] [0] rfl rfl rfl (sq ?_)))))))))
     refine cI h rfl (fun c57 h => ?_) (fun c57 h => ?_)
     ·
      refine cs (cr [0] rfl (q1 rfl (z1 ct) (rn (al [2] [] rfl rfl rfl (sq (z2.ret (AtX.in_ret (AtX.then_ret (AtX.then_ret (AtX.in_ret (AtX.then_ret ?_)))))))))))
      refine AtX.ret' (iv .i64 1) (zq.one Try.results42 rfl) [] [] trivial rfl ?_
      obtain rfl := Option.some.inj h
      exact ⟨rfl, rfl⟩
     ·
      refine z2.skip (AtX.in_normal (al [1, 4] [0] rfl rfl rfl (sq (cr [0, 1, 2] rfl (q1 rfl (z0 (mv rfl)) (q1 rfl (z0g (mv rfl) ct) (q1 rfl (z1 (mv rfl)) (rn ?_))))))))
      exact AtX.to (ih53 (W (v52 + 1)) h) [0] (sl rfl) (ol rfl) rfl
    ·
     refine z2.exit (AtX.then_exit (AtX.then_exit (AtX.in_hit ?_)))
     exact AtX.to (hJ20 () h) [0] (sl rfl) (ol rfl) rfl
  ·
   refine z2.block ?_
   refine z2.to (z2.loop (fun n (z : Int) => z64 φ v1 (z5b φ v1) n z) r (fun z => ⟨zd.of [(1, (eqv (.pointer (some ⟨b2, 0, none⟩)))), (3, (iv .i64 z))], [(box b2 31 (z78 v1))]⟩) (fun z => rfl) (fun n59 v58 ih59 h => ?_) φ 0 h) [0] (sl rfl) (ol rfl) rfl
   replace h : z64 φ v1 (z5b φ v1) (n59 + 1) v58 = some r := h
   rw [z64] at h
   refine cs (cs (cr [0, 1, 2, 3, 4] rfl (q1 rfl (z0 (mv rfl)) (q1 rfl (z3 (zda H) (mv rfl)) (q1 rfl (lb (tl26 H) 0 (mv rfl) rfl rfl) (q1 rfl (z0x (il26 H) (mv rfl)) (q1 rfl (z10 (mv rfl) (mv rfl)) (rn (al [1, 3, 33] [0] rfl rfl rfl (sq ?_))))))))))
   refine cI h rfl (fun c60 h => ?_) (fun c60 h => ?_)
   ·
    refine z2.skip (al [1, 3] [0] rfl rfl rfl (sq (cs (z2.block (cs (cr [0, 1, 2, 3, 4, 5, 6] rfl (q1 rfl (z3 (zda H) (mv rfl)) (q1 rfl (lb (tl26 H) 0 (mv rfl) rfl rfl) (q1 rfl (z0 (mv rfl)) (ckE h fun h61 h => q1 rfl (zn (ix26 H) (mv rfl) (mv rfl) (h61).1 (z8 h61)) ?_))))))))))
    refine q1 rfl (ln (ztj H) (Pt.rop (mv rfl)) rfl) (zp h fun y62 ey62 h => q1 rfl (oQ (zw9 H) (zeu H φ (gt v1.fTypes v58) _ ey62) z5 ⟨ef (mv rfl), trivial⟩) (q1 rfl (z79 (mv rfl)) (rn (al [1, 3, 42] [0] rfl rfl rfl (sq ?_)))))
    refine cI h rfl (fun c63 h => ?_) (fun c63 h => ?_)
    ·
     refine cs (cr [0] rfl (q1 rfl (z1 ct) (rn (al [2] [] rfl rfl rfl (sq (z2.ret (AtX.in_ret (AtX.then_ret (AtX.then_ret (AtX.in_ret (AtX.then_ret ?_)))))))))))
     refine AtX.ret' (iv .i64 1) (zq.one Try.results42 rfl) [] [] trivial rfl ?_
     obtain rfl := Option.some.inj h
     exact ⟨rfl, rfl⟩
    ·
     refine z2.skip (AtX.in_normal (al [1, 3] [0] rfl rfl rfl (sq (cr [0, 1, 2] rfl (q1 rfl (z0 (mv rfl)) (q1 rfl (z0g (mv rfl) ct) (q1 rfl (z1 (mv rfl)) (rn ?_))))))))
     exact AtX.to (ih59 (W (v58 + 1)) h) [0] (sl rfl) (ol rfl) rfl
   ·
    refine z2.exit (AtX.then_exit (AtX.then_exit (AtX.in_hit ?_)))
    exact AtX.to (hJ19 () h) [0] (sl rfl) (ol rfl) rfl
theorem zk9 {P : Program} (H : P = Try.prog) (φ : Nat) (v1 : Pool) (r : (Bool)) (h : zce φ v1 = some r) : z0z P 43 [(agg (z2i v1))] (fun x news => x = (bv r) ∧ news = []) := by
 unfold zce at h
 refine z0z.of_code' 96 (fn43 H) rfl rfl (Nat.le_of_ble_eq_true rfl) fun w0 base r0 wI => ?_
 refine cl [0] [] rfl rfl rfl (cs (cr [0, 1] rfl (n1 rfl (z7i (Ce.agg (mv rfl)) fun b2 => q1 rfl (z1 ct) (rn (al [1] [0] rfl rfl rfl (sq (cs (cr [0, 1, 2, 3, 4] rfl (q1 rfl (z3 (zar H) (mv rfl)) (q1 rfl (z3 (zat H) (mv rfl)) ?_)))))))))))
 refine q1 rfl (lb (tl22 H) 0 (mv rfl) rfl rfl) (q1 rfl (z0x (il22 H) (mv rfl)) (q1 rfl (z1 (mv rfl)) (rn (al [1, 3] [0] rfl rfl rfl (sq (cs (cs (cr [0] rfl (q1 rfl (z1 ct) (rn (al [1, 3, 4] [0] rfl rfl rfl ?_)))))))))))
 refine sq ?_
 refine z2.join (fun z : Unit => (z6n φ v1)) r (fun z => ⟨zd.of [(1, (eqv (.pointer (some ⟨b2, 0, none⟩)))), (3, (iv .i64 (v1.fNetwork.fPlaces.length : Int)))], [(box b2 36 (z2i v1))]⟩) (fun z h => ?_) (fun hJ3 => ?_)
 ·
  replace h : (z6n φ v1) = some r := h
  unfold z6n at h
  refine al [1, 3] [0] rfl rfl rfl (sq (cs (cs (cr [0] rfl (q1 rfl (z1 ct) (rn (al [1, 3, 6] [0] rfl rfl rfl (sq ?_))))))))
  refine z2.join (fun z : Unit => (z6o φ v1)) r (fun z => ⟨zd.of [(1, (eqv (.pointer (some ⟨b2, 0, none⟩)))), (3, (iv .i64 (v1.fNetwork.fPlaces.length : Int)))], [(box b2 36 (z2i v1))]⟩) (fun z h => ?_) (fun hJ4 => ?_)
  ·
   replace h : (z6o φ v1) = some r := h
   unfold z6o at h
   refine al [1, 3] [0] rfl rfl rfl (sq (cs (cs (cr [0] rfl (q1 rfl (z1 ct) (rn (al [1, 3, 7] [0] rfl rfl rfl (sq ?_))))))))
   refine z2.join (fun z : Unit => (z7k φ)) r (fun z => ⟨zd.of [], []⟩) (fun z h => ?_) (fun hJ5 => ?_)
   ·
    replace h : (z7k φ) = some r := h
    unfold z7k at h
    refine al [] [] rfl rfl rfl (sq (cs (cr [0] rfl (q1 rfl (z1 ct) (rn (al [2] [] rfl rfl rfl (sq (z2.ret (AtX.ret' (bv true) (zq.one Try.results43 rfl) [] [] trivial rfl ?_)))))))))
    obtain rfl := Option.some.inj h
    exact ⟨rfl, rfl⟩
   ·
    refine z2.block ?_
    refine z2.to (z2.loop (fun n (z : Int) => z7n φ v1 (z7k φ) n z) r (fun z => ⟨zd.of [(1, (eqv (.pointer (some ⟨b2, 0, none⟩)))), (3, (iv .i64 (v1.fNetwork.fPlaces.length : Int))), (7, (iv .i64 z))], [(box b2 36 (z2i v1))]⟩) (fun z => rfl) (fun n7 v6 ih7 h => ?_) φ 0 h) [0] (sl rfl) (ol rfl) rfl
    replace h : z7n φ v1 (z7k φ) (n7 + 1) v6 = some r := h
    rw [z7n] at h
    refine cs (cs (cr [0, 1, 2, 3, 4, 5] rfl (q1 rfl (z0 (mv rfl)) (q1 rfl (z3 (zde H) (mv rfl)) (q1 rfl (z3 (zcz H) (mv rfl)) (q1 rfl (lb (tl27 H) 0 (mv rfl) rfl rfl) (q1 rfl (z0x (il27 H) (mv rfl)) (q1 rfl (z10 (mv rfl) (mv rfl)) (rn (al [1, 3, 7, 84] [0] rfl rfl rfl (sq ?_)))))))))))
    refine cI h rfl (fun c8 h => ?_) (fun c8 h => ?_)
    ·
     refine z2.skip (al [1, 3, 7] [0] rfl rfl rfl (sq (cs (z2.block (cs (cr [0, 1, 2, 3, 4, 5, 6, 7, 8] rfl (q1 rfl (z3 (zde H) (mv rfl)) (q1 rfl (z3 (zcz H) (mv rfl)) (q1 rfl (lb (tl27 H) 0 (mv rfl) rfl rfl) (q1 rfl (z0 (mv rfl)) (ckE h fun h9 h => ?_)))))))))))
     refine q1 rfl (zn (ix27 H) (mv rfl) (mv rfl) (h9).1 (z8 h9)) (q1 rfl (z2a (zlc H) (mv rfl) (cs' := [(iv .i64 ((gt v1.fFleet.fWagons v6).fHome))]) 1 rfl) (q1 rfl (lr (tl3 H) (mv rfl)) (q1 rfl (z0 (mv rfl)) (q1 rfl (z9l (mv rfl) (mv rfl)) (rn (al [1, 3, 7, 95] [0] rfl rfl rfl (sq ?_)))))))
     refine cI h rfl (fun c10 h => ?_) (fun c10 h => ?_)
     ·
      refine cs (cr [0] rfl (q1 rfl (z1 ct) (rn (al [2] [] rfl rfl rfl (sq (z2.ret (AtX.in_ret (AtX.then_ret (AtX.then_ret (AtX.in_ret (AtX.then_ret ?_)))))))))))
      refine AtX.ret' (bv false) (zq.one Try.results43 rfl) [] [] trivial rfl ?_
      obtain rfl := Option.some.inj h
      exact ⟨rfl, rfl⟩
     ·
      refine z2.skip (AtX.in_normal (al [1, 3, 7] [0] rfl rfl rfl (sq (cr [0, 1, 2] rfl (q1 rfl (z0 (mv rfl)) (q1 rfl (z0g (mv rfl) ct) (q1 rfl (z1 (mv rfl)) (rn ?_))))))))
      exact AtX.to (ih7 (W (v6 + 1)) h) [0] (sl rfl) (ol rfl) rfl
    ·
     refine z2.exit (AtX.then_exit (AtX.then_exit (AtX.in_hit ?_)))
     exact AtX.to (hJ5 () h) [] trivial trivial rfl
  ·
   refine z2.block ?_
   refine z2.to (z2.loop (fun n (z : Int) => z6r φ v1 (z6o φ v1) n z) r (fun z => ⟨zd.of [(1, (eqv (.pointer (some ⟨b2, 0, none⟩)))), (3, (iv .i64 (v1.fNetwork.fPlaces.length : Int))), (6, (iv .i64 z))], [(box b2 36 (z2i v1))]⟩) (fun z => rfl) (fun n12 v11 ih12 h => ?_) φ 0 h) [0] (sl rfl) (ol rfl) rfl
   replace h : z6r φ v1 (z6o φ v1) (n12 + 1) v11 = some r := h
   rw [z6r] at h
   refine cs (cs (cr [0, 1, 2, 3, 4] rfl (q1 rfl (z0 (mv rfl)) (q1 rfl (z3 (zjp H) (mv rfl)) (q1 rfl (lb (tl33 H) 0 (mv rfl) rfl rfl) (q1 rfl (z0x (il33 H) (mv rfl)) (q1 rfl (z10 (mv rfl) (mv rfl)) (rn (al [1, 3, 6, 51] [0] rfl rfl rfl (sq ?_))))))))))
   refine cI h rfl (fun c13 h => ?_) (fun c13 h => ?_)
   ·
    refine z2.skip (al [1, 3, 6] [0] rfl rfl rfl (sq ?_))
    refine z2.seq ?_
    refine z2.block ?_
    refine z2.seq ?_
    refine ckE h fun h14 h => zp h fun y15 ey15 h => ckE h fun h26 h => z2.draw (QR := [(0, (eqv (.pointer (some ⟨b2, 7, none⟩)))), (1, (ro z3k 1 v1.fShippers)), (2, (iv .i64 v11)), (3, (rop (z3k (gt v1.fShippers v11)))), (4, (rop [(iv .i64 ((gt v1.fShippers v11).fPlace))])), (5, (iv .i64 ((gt v1.fShippers v11).fPlace))), (6, (iv .i64 (v1.fNetwork.fPlaces.length : Int))), (7, (iv .i64 (W ((v1.fNetwork.fPlaces.length : Int) - 1)))), (8, (bv y15)), (9, (bv (!y15))), (10, (bv (!y15))), (11, (cnd ((!y15) = false) (eqv (.pointer (some ⟨b2, 0, none⟩))))), (12, (cnd ((!y15) = false) (eqv (.pointer (some ⟨b2, 0, none⟩))))), (13, (cnd ((!y15) = false) (ro z4m 3 v1.fNetwork.fPlaces))), (14, (cnd ((!y15) = false) (eqv (.pointer (some ⟨b2, 7, none⟩))))), (15, (cnd ((!y15) = false) (ro z3k 1 v1.fShippers))), (16, (cnd ((!y15) = false) (iv .i64 v11))), (17, (cnd ((!y15) = false) (rop (z3k (gt v1.fShippers v11))))), (18, (cnd ((!y15) = false) (rop [(iv .i64 ((gt v1.fShippers v11).fPlace))]))), (19, (cnd ((!y15) = false) (iv .i64 ((gt v1.fShippers v11).fPlace)))), (20, (cnd ((!y15) = false) (rop (z4m (gt v1.fNetwork.fPlaces ((gt v1.fShippers v11).fPlace)))))), (21, (cnd ((!y15) = false) (rop [(iv .i64 ((gt v1.fNetwork.fPlaces ((gt v1.fShippers v11).fPlace)).fKind))]))), (22, (cnd ((!y15) = false) (iv .i64 ((gt v1.fNetwork.fPlaces ((gt v1.fShippers v11).fPlace)).fKind)))), (23, (cnd ((!y15) = false) (bv ((gt v1.fNetwork.fPlaces ((gt v1.fShippers v11).fPlace)).fKind != 4)))), (24, (bv ((!y15) || ((gt v1.fNetwork.fPlaces ((gt v1.fShippers v11).fPlace)).fKind != 4))))]) (tab := [(some 54, []), (some 55, [0]), (some 56, []), (some 57, [1, 2]), (some 58, [3]), (some 59, [4]), (some 60, []), (some 61, [6]), (some 62, [5, 7]), (some 63, [8]), (some 64, [9, 8]), (some 65, [10]), (some 66, [11, 10]), (some 67, [12, 10]), (some 68, [10]), (some 69, [14, 10]), (some 70, [10]), (some 71, [15, 16, 10]), (some 72, [17, 10]), (some 73, [18, 10]), (some 74, [13, 19, 10]), (some 75, [20, 10]), (some 76, [21, 10]), (some 77, [22, 10]), (some 78, [10, 23])]) (z5h H) (Reg.intro [] [] (by kernel_rfl) rfl ⟨rfl, rfl, rfl, rfl, rfl, rfl, rfl, rfl, rfl, rfl, rfl, rfl, rfl, rfl, rfl, rfl, rfl, rfl, rfl, rfl, rfl, rfl, rfl, rfl, rfl, trivial⟩ ⟨(fun _ => ⟨_, rfl, (z3 (zjp H) (Ev.tmp (A := (eqv (.pointer (some ⟨b2, 0, none⟩)))) (by kernel_rfl)))⟩), (fun _ => ⟨_, rfl, (z2g (tl33 H) ((Pt.box 0 (Ev.tmp (A := (eqv (.pointer (some ⟨b2, 7, none⟩)))) (by kernel_rfl)) rfl rfl).take 1 (cs' := [(ro z3k 1 v1.fShippers)]) rfl))⟩), (fun _ => ⟨_, rfl, (z0 (Ev.tmp (A := (iv .i64 v11)) (by kernel_rfl)))⟩), (fun _ => ⟨_, rfl, (zn (e := z3k) (y := (gt v1.fShippers v11)) (ix33 H) (Ev.tmp (A := (ro z3k 1 v1.fShippers)) (by kernel_rfl)) (Ev.tmp (A := (iv .i64 v11)) (by kernel_rfl)) (h14).1 (z8 h14))⟩), (fun _ => ⟨_, rfl, (z2a (zki H) (Ev.tmp (A := (rop (z3k (gt v1.fShippers v11)))) (by kernel_rfl)) (cs' := [(iv .i64 ((gt v1.fShippers v11).fPlace))]) 1 rfl)⟩), (fun _ => ⟨_, rfl, (z2g (tl3 H) (Pt.rop (Ev.tmp (A := (rop [(iv .i64 ((gt v1.fShippers v11).fPlace))])) (by kernel_rfl))))⟩), (fun _ => ⟨_, rfl, (z0 (Ev.tmp (A := (iv .i64 (v1.fNetwork.fPlaces.length : Int))) (by kernel_rfl)))⟩), (fun _ => ⟨_, rfl, (z2f (Ev.tmp (A := (iv .i64 (v1.fNetwork.fPlaces.length : Int))) (by kernel_rfl)) (Ev.const _))⟩), (fun _ => ⟨_, rfl, (zqk (z9q H) (args := [(iv .i64 ((gt v1.fShippers v11).fPlace)), (iv .i64 0), (iv .i64 (W ((v1.fNetwork.fPlaces.length : Int) - 1)))]) ⟨EvF.of (Ev.tmp (A := (iv .i64 ((gt v1.fShippers v11).fPlace))) (by kernel_rfl)) FEnt.refl, EvF.of (Ev.const _) FEnt.refl, EvF.of (Ev.tmp (A := (iv .i64 (W ((v1.fNetwork.fPlaces.length : Int) - 1)))) (by kernel_rfl)) FEnt.refl, trivial⟩ (z1e H φ ((gt v1.fShippers v11).fPlace) 0 (W ((v1.fNetwork.fPlaces.length : Int) - 1)) _ ey15) z5)⟩), (fun _ => ⟨_, rfl, (z79 (Ev.tmp (A := (bv y15)) (by kernel_rfl)))⟩), (fun _ => ⟨_, rfl, (z0 (Ev.tmp (A := (bv (!y15))) (by kernel_rfl)))⟩), (fun _ => ⟨_, rfl, ⟨((!y15) = false), (eqv (.pointer (some ⟨b2, 0, none⟩))), 64, rfl, rfl, fun g16 => (z3 (zar H) (Ev.tmp (A := (eqv (.pointer (some ⟨b2, 0, none⟩)))) (by kernel_rfl))), .inl ⟨(!y15), rfl, rfl⟩⟩⟩), (fun _ => ⟨_, rfl, ⟨((!y15) = false), (eqv (.pointer (some ⟨b2, 0, none⟩))), 64, rfl, rfl, fun g17 => (z3 (zat H) (Ev.cnd (Ev.tmp rfl) g17)), .inl ⟨(!y15), rfl, rfl⟩⟩⟩), (fun _ => ⟨_, rfl, ⟨((!y15) = false), (ro z4m 3 v1.fNetwork.fPlaces), 64, rfl, rfl, fun g18 => (z2g (tl22 H) ((Pt.box 0 (Ev.cnd (Ev.tmp rfl) g18) rfl rfl).take 1 (cs' := [(ro z4m 3 v1.fNetwork.fPlaces)]) rfl)), .inl ⟨(!y15), rfl, rfl⟩⟩⟩), (fun _ => ⟨_, rfl, ⟨((!y15) = false), (eqv (.pointer (some ⟨b2, 7, none⟩))), 64, rfl, rfl, fun g19 => (z3 (zjp H) (Ev.tmp (A := (eqv (.pointer (some ⟨b2, 0, none⟩)))) (by kernel_rfl))), .inl ⟨(!y15), rfl, rfl⟩⟩⟩), (fun _ => ⟨_, rfl, ⟨((!y15) = false), (ro z3k 1 v1.fShippers), 64, rfl, rfl, fun g20 => (z2g (tl33 H) ((Pt.box 0 (Ev.cnd (Ev.tmp rfl) g20) rfl rfl).take 1 (cs' := [(ro z3k 1 v1.fShippers)]) rfl)), .inl ⟨(!y15), rfl, rfl⟩⟩⟩), (fun _ => ⟨_, rfl, ⟨((!y15) = false), (iv .i64 v11), 64, rfl, rfl, fun g21 => (z0 (Ev.tmp (A := (iv .i64 v11)) (by kernel_rfl))), .inl ⟨(!y15), rfl, rfl⟩⟩⟩), (fun _ => ⟨_, rfl, ⟨((!y15) = false), (rop (z3k (gt v1.fShippers v11))), 64, rfl, rfl, fun g22 => (zn (e := z3k) (y := (gt v1.fShippers v11)) (ix33 H) (Ev.cnd (Ev.tmp rfl) g22) (Ev.cnd (Ev.tmp rfl) g22) (h14).1 (z8 h14)), .inl ⟨(!y15), rfl, rfl⟩⟩⟩), (fun _ => ⟨_, rfl, ⟨((!y15) = false), (rop [(iv .i64 ((gt v1.fShippers v11).fPlace))]), 64, rfl, rfl, fun g23 => (z2a (zki H) (Ev.cnd (Ev.tmp rfl) g23) (cs' := [(iv .i64 ((gt v1.fShippers v11).fPlace))]) 1 rfl), .inl ⟨(!y15), rfl, rfl⟩⟩⟩), (fun _ => ⟨_, rfl, ⟨((!y15) = false), (iv .i64 ((gt v1.fShippers v11).fPlace)), 64, rfl, rfl, fun g24 => (z2g (tl3 H) (Pt.rop (Ev.cnd (Ev.tmp rfl) g24))), .inl ⟨(!y15), rfl, rfl⟩⟩⟩), (fun _ => ⟨_, rfl, ⟨((!y15) = false), (rop (z4m (gt v1.fNetwork.fPlaces ((gt v1.fShippers v11).fPlace)))), 64, rfl, rfl, fun g25 => (zn (e := z4m) (y := (gt v1.fNetwork.fPlaces ((gt v1.fShippers v11).fPlace))) (ix22 H) (Ev.cnd (Ev.tmp rfl) g25) (Ev.cnd (Ev.tmp rfl) g25) ((h26 g25)).1 (z8 (h26 g25))), .inl ⟨(!y15), rfl, rfl⟩⟩⟩), (fun _ => ⟨_, rfl, ⟨((!y15) = false), (rop [(iv .i64 ((gt v1.fNetwork.fPlaces ((gt v1.fShippers v11).fPlace)).fKind))]), 64, rfl, rfl, fun g27 => (z2a (zf7 H) (Ev.cnd (Ev.tmp rfl) g27) (cs' := [(iv .i64 ((gt v1.fNetwork.fPlaces ((gt v1.fShippers v11).fPlace)).fKind))]) 1 rfl), .inl ⟨(!y15), rfl, rfl⟩⟩⟩), (fun _ => ⟨_, rfl, ⟨((!y15) = false), (iv .i64 ((gt v1.fNetwork.fPlaces ((gt v1.fShippers v11).fPlace)).fKind)), 64, rfl, rfl, fun g28 => (z2g (tl3 H) (Pt.rop (Ev.cnd (Ev.tmp rfl) g28))), .inl ⟨(!y15), rfl, rfl⟩⟩⟩), (fun _ => ⟨_, rfl, ⟨((!y15) = false), (bv ((gt v1.fNetwork.fPlaces ((gt v1.fShippers v11).fPlace)).fKind != 4)), 64, rfl, rfl, fun g29 => (z6g (Ev.cnd (Ev.tmp rfl) g29) (Ev.const _)), .inl ⟨(!y15), rfl, rfl⟩⟩⟩), (fun _ => ⟨_, rfl, (opOr (Ev.tmp (A := (bv (!y15))) (by kernel_rfl)) (Ev.const _) (fun g30 => (Ev.cnd (Ev.tmp rfl) g30)))⟩), trivial⟩ trivial (fun _ => ?_))
    refine al [1, 3, 6, 78] [0] rfl rfl rfl (sq ?_)
    refine cI h rfl (fun c31 h => ?_) (fun c31 h => ?_)
    ·
     refine cs (cr [0] rfl (q1 rfl (z1 ct) (rn (al [2] [] rfl rfl rfl (sq (z2.ret (AtX.in_ret (AtX.then_ret (AtX.then_ret (AtX.in_ret (AtX.then_ret ?_)))))))))))
     refine AtX.ret' (bv false) (zq.one Try.results43 rfl) [] [] trivial rfl ?_
     obtain rfl := Option.some.inj h
     exact ⟨rfl, rfl⟩
    ·
     refine z2.skip (AtX.in_normal (al [1, 3, 6] [0] rfl rfl rfl (sq (cr [0, 1, 2] rfl (q1 rfl (z0 (mv rfl)) (q1 rfl (z0g (mv rfl) ct) (q1 rfl (z1 (mv rfl)) (rn ?_))))))))
     exact AtX.to (ih12 (W (v11 + 1)) h) [0] (sl rfl) (ol rfl) rfl
   ·
    refine z2.exit (AtX.then_exit (AtX.then_exit (AtX.in_hit ?_)))
    exact AtX.to (hJ4 () h) [0] (sl rfl) (ol rfl) rfl
 ·
  refine z2.block ?_
  refine z2.to (z2.loop (fun n (z : Int) => z6q φ v1 (z6n φ v1) n z) r (fun z => ⟨zd.of [(1, (eqv (.pointer (some ⟨b2, 0, none⟩)))), (3, (iv .i64 (v1.fNetwork.fPlaces.length : Int))), (4, (iv .i64 z))], [(box b2 36 (z2i v1))]⟩) (fun z => rfl) (fun n33 v32 ih33 h => ?_) φ 0 h) [0] (sl rfl) (ol rfl) rfl
  replace h : z6q φ v1 (z6n φ v1) (n33 + 1) v32 = some r := h
  rw [z6q] at h
  refine cs (cs (cr [0, 1, 2, 3, 4] rfl (q1 rfl (z0 (mv rfl)) (q1 rfl (z3 (zjx H) (mv rfl)) (q1 rfl (lb (tl32 H) 0 (mv rfl) rfl rfl) (q1 rfl (z0x (il32 H) (mv rfl)) (q1 rfl (z10 (mv rfl) (mv rfl)) (rn (al [1, 3, 4, 16] [0] rfl rfl rfl (sq ?_))))))))))
  refine cI h rfl (fun c34 h => ?_) (fun c34 h => ?_)
  ·
   refine z2.skip (al [1, 3, 4] [0] rfl rfl rfl (sq (cs (z2.block (cs (cr [0, 1, 2, 3, 4, 5, 6] rfl (q1 rfl (z3 (zjx H) (mv rfl)) (q1 rfl (lb (tl32 H) 0 (mv rfl) rfl rfl) (q1 rfl (z0 (mv rfl)) (ckE h fun h35 h => q1 rfl (zn (ix32 H) (mv rfl) (mv rfl) (h35).1 (z8 h35)) ?_))))))))))
   refine q1 rfl (ln (zrd H) (Pt.rop (mv rfl)) rfl) (n1 rfl (z38 _ (zx5 H) rfl fun b36 => n1 rfl (sto 1 (zrd H) (mv rfl) (Ce.agg (mv rfl)) rfl rfl rfl rfl (rn (al [1, 3, 4, 5] [0, 1] rfl rfl rfl (sq (cs (cr [0, 1, 2, 3, 4, 5, 6, 7, 8, 9, 10, 11, 12, 13, 14, 15, 16, 17, 18, 19, 20, 21, 22] rfl (q1 rfl (z3 (zqd H) (mv rfl)) (q1 rfl (lb (tl3 H) 1 (mv rfl) rfl rfl) (q1 rfl (z0 (mv rfl)) (q1 rfl (z2f (mv rfl) ct) ?_))))))))))))
   refine zp h fun y37 ey37 h => q1 rfl (oQ (z9q H) (z1e H φ ((gt v1.fReaders v32).fPlace) 0 (W ((v1.fNetwork.fPlaces.length : Int) - 1)) _ ey37) z5 ⟨ef (mv rfl), ef ct, ef (mv rfl), trivial⟩) (q1 rfl (z79 (mv rfl)) (q1 rfl (z0 (mv rfl)) (g1 rfl rfl (fun g38 => z3 (zke H) (mv rfl)) (g1 rfl rfl (fun g39 => lb (tl3 H) 1 (mc rfl g39) rfl rfl) (g1 rfl rfl (fun g40 => z10 (mc rfl g40) ct) (q1 rfl (opOr (mv rfl) ct (fun g41 => (mc rfl g41))) (q1 rfl (z0 (mv rfl)) (g1 rfl rfl (fun g42 => z3 (zk4 H) (mv rfl)) (g1 rfl rfl (fun g43 => lb (tl3 H) 1 (mc rfl g43) rfl rfl) (g1 rfl rfl (fun g44 => z3 (zke H) (mv rfl)) ?_))))))))))
   refine g1 rfl rfl (fun g45 => lb (tl3 H) 1 (mc rfl g45) rfl rfl) (g1 rfl rfl (fun g46 => z10 (mc rfl g46) (mc rfl g46)) (q1 rfl (opOr (mv rfl) ct (fun g47 => (mc rfl g47))) (q1 rfl (z0 (mv rfl)) (g1 rfl rfl (fun g48 => z3 (zk4 H) (mv rfl)) (g1 rfl rfl (fun g49 => lb (tl3 H) 1 (mc rfl g49) rfl rfl) (g1 rfl rfl (fun g50 => z49 (mc rfl g50) ct) (q1 rfl (opOr (mv rfl) ct (fun g51 => (mc rfl g51))) (rn (al [1, 3, 4, 46] [0] rfl rfl rfl (sq ?_))))))))))
   refine cI h rfl (fun c52 h => ?_) (fun c52 h => ?_)
   ·
    refine cs (cr [0] rfl (q1 rfl (z1 ct) (rn (al [2] [] rfl rfl rfl (sq (z2.ret (AtX.in_ret (AtX.then_ret (AtX.then_ret (AtX.in_ret (AtX.then_ret ?_)))))))))))
    refine AtX.ret' (bv false) (zq.one Try.results43 rfl) [] [] trivial rfl ?_
    obtain rfl := Option.some.inj h
    exact ⟨rfl, rfl⟩
   ·
    refine z2.skip (AtX.in_normal (al [1, 3, 4] [0] rfl rfl rfl (sq (cr [0, 1, 2] rfl (q1 rfl (z0 (mv rfl)) (q1 rfl (z0g (mv rfl) ct) (q1 rfl (z1 (mv rfl)) (rn ?_))))))))
    exact AtX.to (ih33 (W (v32 + 1)) h) [0] (sl rfl) (ol rfl) rfl
  ·
   refine z2.exit (AtX.then_exit (AtX.then_exit (AtX.in_hit ?_)))
   exact AtX.to (hJ3 () h) [0] (sl rfl) (ol rfl) rfl
theorem zj7 {P : Program} (H : P = Try.prog) (φ : Nat) (v1 : Pool) (r : (Bool)) (h : zbd φ v1 = some r) : z0z P 44 [(agg (z2i v1))] (fun x news => x = (bv r) ∧ news = []) := by
 unfold zbd at h
 refine z0z.of_code' 51 (fn44 H) rfl rfl (Nat.le_of_ble_eq_true rfl) fun w0 base r0 wI => ?_
 refine cl [0] [] rfl rfl rfl (cs (cr [0, 1] rfl (n1 rfl (z7i (Ce.agg (mv rfl)) fun b2 => q1 rfl (z1 ct) (rn (al [1] [0] rfl rfl rfl (sq (cs (cr [0, 1, 2, 3] rfl (q1 rfl (z3 (zcx H) (mv rfl)) (q1 rfl (lb (tl34 H) 0 (mv rfl) rfl rfl) ?_)))))))))))
 refine q1 rfl (z0x (il34 H) (mv rfl)) (q1 rfl (z1 (mv rfl)) (rn (al [1, 3] [0] rfl rfl rfl (sq (cs (cs (cr [0] rfl (q1 rfl (z1 ct) (rn (al [1, 3, 4] [0] rfl rfl rfl (sq ?_)))))))))))
 refine z2.join (fun z : Unit => (z60 φ v1)) r (fun z => ⟨zd.of [(1, (eqv (.pointer (some ⟨b2, 0, none⟩)))), (3, (iv .i64 (v1.fRailways.length : Int)))], [(box b2 36 (z2i v1))]⟩) (fun z h => ?_) (fun hJ3 => ?_)
 ·
  replace h : (z60 φ v1) = some r := h
  unfold z60 at h
  refine al [1, 3] [0] rfl rfl rfl (sq (cs (cs (cr [0] rfl (q1 rfl (z1 ct) (rn (al [1, 3, 6] [0] rfl rfl rfl (sq ?_))))))))
  refine z2.join (fun z : Unit => (z6v φ)) r (fun z => ⟨zd.of [], []⟩) (fun z h => ?_) (fun hJ4 => ?_)
  ·
   replace h : (z6v φ) = some r := h
   unfold z6v at h
   refine al [] [] rfl rfl rfl (sq (cs (cr [0] rfl (q1 rfl (z1 ct) (rn (al [2] [] rfl rfl rfl (sq (z2.ret (AtX.ret' (bv true) (zq.one Try.results44 rfl) [] [] trivial rfl ?_)))))))))
   obtain rfl := Option.some.inj h
   exact ⟨rfl, rfl⟩
  ·
   refine z2.block ?_
   refine z2.to (z2.loop (fun n (z : Int) => z6p φ v1 (z6v φ) n z) r (fun z => ⟨zd.of [(1, (eqv (.pointer (some ⟨b2, 0, none⟩)))), (3, (iv .i64 (v1.fRailways.length : Int))), (6, (iv .i64 z))], [(box b2 36 (z2i v1))]⟩) (fun z => rfl) (fun n6 v5 ih6 h => ?_) φ 0 h) [0] (sl rfl) (ol rfl) rfl
   replace h : z6p φ v1 (z6v φ) (n6 + 1) v5 = some r := h
   rw [z6p] at h
   refine cs (cs (cr [0, 1, 2, 3, 4, 5] rfl (q1 rfl (z0 (mv rfl)) (q1 rfl (z3 (zar H) (mv rfl)) (q1 rfl (z3 (zfi H) (mv rfl)) (q1 rfl (lb (tl23 H) 0 (mv rfl) rfl rfl) (q1 rfl (z0x (il23 H) (mv rfl)) (q1 rfl (z10 (mv rfl) (mv rfl)) (rn (al [1, 3, 6, 39] [0] rfl rfl rfl (sq ?_)))))))))))
   refine cI h rfl (fun c7 h => ?_) (fun c7 h => ?_)
   ·
    refine z2.skip (al [1, 3, 6] [0] rfl rfl rfl (sq (cs (z2.block (cs (cr [0, 1, 2, 3, 4, 5, 6, 7, 8] rfl (q1 rfl (z3 (zar H) (mv rfl)) (q1 rfl (z3 (zfi H) (mv rfl)) (q1 rfl (lb (tl23 H) 0 (mv rfl) rfl rfl) (q1 rfl (z0 (mv rfl)) (ckE h fun h8 h => ?_)))))))))))
    refine q1 rfl (zn (ix23 H) (mv rfl) (mv rfl) (h8).1 (z8 h8)) (q1 rfl (z2a (zhf H) (mv rfl) (cs' := [(iv .i64 ((gt v1.fNetwork.fEdges v5).fRailway))]) 1 rfl) (q1 rfl (lr (tl3 H) (mv rfl)) (q1 rfl (z0 (mv rfl)) (q1 rfl (z9l (mv rfl) (mv rfl)) (rn (al [1, 3, 6, 50] [0] rfl rfl rfl (sq ?_)))))))
    refine cI h rfl (fun c9 h => ?_) (fun c9 h => ?_)
    ·
     refine cs (cr [0] rfl (q1 rfl (z1 ct) (rn (al [2] [] rfl rfl rfl (sq (z2.ret (AtX.in_ret (AtX.then_ret (AtX.then_ret (AtX.in_ret (AtX.then_ret ?_)))))))))))
     refine AtX.ret' (bv false) (zq.one Try.results44 rfl) [] [] trivial rfl ?_
     obtain rfl := Option.some.inj h
     exact ⟨rfl, rfl⟩
    ·
     refine z2.skip (AtX.in_normal (al [1, 3, 6] [0] rfl rfl rfl (sq (cr [0, 1, 2] rfl (q1 rfl (z0 (mv rfl)) (q1 rfl (z0g (mv rfl) ct) (q1 rfl (z1 (mv rfl)) (rn ?_))))))))
     exact AtX.to (ih6 (W (v5 + 1)) h) [0] (sl rfl) (ol rfl) rfl
   ·
    refine z2.exit (AtX.then_exit (AtX.then_exit (AtX.in_hit ?_)))
    exact AtX.to (hJ4 () h) [] trivial trivial rfl
 ·
  refine z2.block ?_
  refine z2.to (z2.loop (fun n (z : Int) => z6d φ v1 (z60 φ v1) n z) r (fun z => ⟨zd.of [(1, (eqv (.pointer (some ⟨b2, 0, none⟩)))), (3, (iv .i64 (v1.fRailways.length : Int))), (4, (iv .i64 z))], [(box b2 36 (z2i v1))]⟩) (fun z => rfl) (fun n11 v10 ih11 h => ?_) φ 0 h) [0] (sl rfl) (ol rfl) rfl
  replace h : z6d φ v1 (z60 φ v1) (n11 + 1) v10 = some r := h
  rw [z6d] at h
  refine cs (cs (cr [0, 1, 2, 3, 4, 5] rfl (q1 rfl (z0 (mv rfl)) (q1 rfl (z3 (zar H) (mv rfl)) (q1 rfl (z3 (zat H) (mv rfl)) (q1 rfl (lb (tl22 H) 0 (mv rfl) rfl rfl) (q1 rfl (z0x (il22 H) (mv rfl)) (q1 rfl (z10 (mv rfl) (mv rfl)) (rn (al [1, 3, 4, 15] [0] rfl rfl rfl (sq ?_)))))))))))
  refine cI h rfl (fun c12 h => ?_) (fun c12 h => ?_)
  ·
   refine z2.skip (al [1, 3, 4] [0] rfl rfl rfl (sq (cs (z2.block (cs (cr [0, 1, 2, 3, 4, 5, 6, 7] rfl (q1 rfl (z3 (zar H) (mv rfl)) (q1 rfl (z3 (zat H) (mv rfl)) (q1 rfl (lb (tl22 H) 0 (mv rfl) rfl rfl) (q1 rfl (z0 (mv rfl)) (ckE h fun h13 h => ?_)))))))))))
   refine q1 rfl (zn (ix22 H) (mv rfl) (mv rfl) (h13).1 (z8 h13)) (q1 rfl (ln (tl68 H) (Pt.rop (mv rfl)) rfl) (n1 rfl (z38 _ (ze68 H) rfl fun b14 => n1 rfl (sto 1 (tl68 H) (mv rfl) (Ce.agg (mv rfl)) rfl rfl rfl rfl (rn (al [1, 3, 4, 5] [0, 1] rfl rfl rfl (sq (cs (cr [0, 1, 2, 3, 4, 5, 6, 7, 8, 9] rfl (q1 rfl (z3 (zd6 H) (mv rfl)) (q1 rfl (lb (tl3 H) 1 (mv rfl) rfl rfl) (q1 rfl (z0 (mv rfl)) ?_))))))))))))
   refine q1 rfl (z9l (mv rfl) (mv rfl)) (q1 rfl (z0 (mv rfl)) (g1 rfl rfl (fun g15 => z3 (zd0 H) (mv rfl)) (g1 rfl rfl (fun g16 => lb (tl3 H) 1 (mc rfl g16) rfl rfl) (g1 rfl rfl (fun g17 => z0 (mv rfl)) (g1 rfl rfl (fun g18 => z9l (mc rfl g18) (mc rfl g18)) (q1 rfl (opOr (mv rfl) ct (fun g19 => (mc rfl g19))) (rn (al [1, 3, 4, 33] [0] rfl rfl rfl (sq ?_)))))))))
   refine cI h rfl (fun c20 h => ?_) (fun c20 h => ?_)
   ·
    refine cs (cr [0] rfl (q1 rfl (z1 ct) (rn (al [2] [] rfl rfl rfl (sq (z2.ret (AtX.in_ret (AtX.then_ret (AtX.then_ret (AtX.in_ret (AtX.then_ret ?_)))))))))))
    refine AtX.ret' (bv false) (zq.one Try.results44 rfl) [] [] trivial rfl ?_
    obtain rfl := Option.some.inj h
    exact ⟨rfl, rfl⟩
   ·
    refine z2.skip (AtX.in_normal (al [1, 3, 4] [0] rfl rfl rfl (sq (cr [0, 1, 2] rfl (q1 rfl (z0 (mv rfl)) (q1 rfl (z0g (mv rfl) ct) (q1 rfl (z1 (mv rfl)) (rn ?_))))))))
    exact AtX.to (ih11 (W (v10 + 1)) h) [0] (sl rfl) (ol rfl) rfl
  ·
   refine z2.exit (AtX.then_exit (AtX.then_exit (AtX.in_hit ?_)))
   exact AtX.to (hJ3 () h) [0] (sl rfl) (ol rfl) rfl
theorem zin {P : Program} (H : P = Try.prog) (φ : Nat) (v1 : z2w) (r : (Int)) (h : zbo φ v1 = some r) : z0z P 45 [(agg (z72 v1))] (fun x news => x = (iv .i64 r) ∧ news = []) := by
 unfold zbo at h
 refine z0z.of_code' 62 (fn45 H) rfl rfl (Nat.le_of_ble_eq_true rfl) fun w0 base r0 wI => ?_
 refine cl [0] [] rfl rfl rfl (cs (cr [0, 1] rfl (n1 rfl (z7i (Ce.agg (mv rfl)) fun b2 => q1 rfl (z1 ct) (rn (al [1] [0] rfl rfl rfl (sq (cs (cs (cr [0] rfl (q1 rfl (z1 ct) ?_)))))))))))
 refine rn (al [1, 3] [0] rfl rfl rfl (sq ?_))
 refine z2.join (fun z : Unit => (z6u φ v1)) r (fun z => ⟨zd.of [(1, (eqv (.pointer (some ⟨b2, 0, none⟩))))], [(box b2 105 (z72 v1))]⟩) (fun z h => ?_) (fun hJ3 => ?_)
 ·
  replace h : (z6u φ v1) = some r := h
  unfold z6u at h
  refine al [1] [0] rfl rfl rfl (sq (cs (cs (cr [0] rfl (q1 rfl (z1 ct) (rn (al [1, 5] [0] rfl rfl rfl (sq ?_))))))))
  refine z2.join (fun z : Unit => (z7w φ)) r (fun z => ⟨zd.of [], []⟩) (fun z h => ?_) (fun hJ4 => ?_)
  ·
   replace h : (z7w φ) = some r := h
   unfold z7w at h
   refine al [] [] rfl rfl rfl (sq (cs (cr [0] rfl (q1 rfl (z1 ct) (rn (al [2] [] rfl rfl rfl (sq (z2.ret (AtX.ret' (iv .i64 0) (zq.one Try.results45 rfl) [] [] trivial rfl ?_)))))))))
   obtain rfl := Option.some.inj h
   exact ⟨rfl, rfl⟩
  ·
   refine z2.block ?_
   refine z2.to (z2.loop (fun n (z : Int) => z6t φ v1 (z7w φ) n z) r (fun z => ⟨zd.of [(1, (eqv (.pointer (some ⟨b2, 0, none⟩)))), (5, (iv .i64 z))], [(box b2 105 (z72 v1))]⟩) (fun z => rfl) (fun n6 v5 ih6 h => ?_) φ 0 h) [0] (sl rfl) (ol rfl) rfl
   replace h : z6t φ v1 (z7w φ) (n6 + 1) v5 = some r := h
   rw [z6t] at h
   refine cs (cs (cr [0, 1, 2, 3, 4] rfl (q1 rfl (z0 (mv rfl)) (q1 rfl (z3 (zh8 H) (mv rfl)) (q1 rfl (lb (tl96 H) 0 (mv rfl) rfl rfl) (q1 rfl (z0x (il96 H) (mv rfl)) (q1 rfl (z10 (mv rfl) (mv rfl)) (rn (al [1, 5, 34] [0] rfl rfl rfl (sq ?_))))))))))
   refine cI h rfl (fun c7 h => ?_) (fun c7 h => ?_)
   ·
    refine z2.skip (al [1, 5] [0] rfl rfl rfl (sq (cs (z2.block (cs (cr [0, 1, 2, 3, 4, 5] rfl (q1 rfl (z3 (zh8 H) (mv rfl)) (q1 rfl (lb (tl96 H) 0 (mv rfl) rfl rfl) (q1 rfl (z0 (mv rfl)) (ckE h fun h8 h => q1 rfl (zn (ix96 H) (mv rfl) (mv rfl) (h8).1 (z8 h8)) ?_))))))))))
    refine q1 rfl (lr (tl3 H) (mv rfl)) (q1 rfl (z1 (mv rfl)) (rn (al [1, 5, 6] [0] rfl rfl rfl (sq (cs (cr [0, 1, 2, 3, 4, 5, 6, 7, 8, 9, 10, 11, 12, 13, 14, 15, 16, 17, 18, 19] rfl (q1 rfl (z0 (mv rfl)) (q1 rfl (z10 (mv rfl) ct) (q1 rfl (z0 (mv rfl)) (g1 rfl rfl (fun g9 => z0 (mv rfl)) (g1 rfl rfl (fun g10 => z49 (mc rfl g10) ct) ?_)))))))))))
    refine q1 rfl (opOr (mv rfl) ct (fun g11 => (mc rfl g11))) (q1 rfl (z0 (mv rfl)) (g1 rfl rfl (fun g12 => z0 (mv rfl)) (g1 rfl rfl (fun g13 => z49 (mc rfl g13) ct) (g1 rfl rfl (fun g14 => z0 (mc rfl g14)) (gc rfl rfl (fun g15 => (z3 (zh8 H) (mv rfl))) (gc rfl rfl (fun g16 => (lb (tl96 H) 0 (mc rfl ⟨g16.1, g16.2⟩) rfl rfl)) (gc rfl rfl (fun g17 => (z0 (mv rfl))) (gc rfl rfl (fun g18 => (z2f (mc rfl ⟨g18.1, g18.2⟩) ct)) (ckE h fun h20 h => gc rfl rfl (fun g19 => (zn (ix96 H) (mc rfl ⟨g19.1, g19.2⟩) (mc rfl ⟨g19.1, g19.2⟩) ((h20 g19)).1 (z8 (h20 g19)))) (gc rfl rfl (fun g21 => (lr (tl3 H) (mc rfl ⟨g21.1, g21.2⟩))) ?_))))))))))
    refine gc rfl rfl (fun g22 => (z0 (mv rfl))) (gc rfl rfl (fun g23 => (z9l (mc rfl ⟨g23.1, g23.2⟩) (mc rfl ⟨g23.1, g23.2⟩))) (g1 rfl rfl (fun g24 => z36 (mc rfl g24) (fun g25 => (mc rfl ⟨g24, g25⟩)) ct) (q1 rfl (opOr (mv rfl) ct (fun g26 => (mc rfl g26))) (rn (al [1, 5, 61] [0] rfl rfl rfl (sq ?_))))))
    refine cI h rfl (fun c27 h => ?_) (fun c27 h => ?_)
    ·
     refine cs (cr [0] rfl (q1 rfl (z1 ct) (rn (al [2] [] rfl rfl rfl (sq (z2.ret (AtX.in_ret (AtX.then_ret (AtX.then_ret (AtX.in_ret (AtX.then_ret ?_)))))))))))
     refine AtX.ret' (iv .i64 1) (zq.one Try.results45 rfl) [] [] trivial rfl ?_
     obtain rfl := Option.some.inj h
     exact ⟨rfl, rfl⟩
    ·
     refine z2.skip (AtX.in_normal (al [1, 5] [0] rfl rfl rfl (sq (cr [0, 1, 2] rfl (q1 rfl (z0 (mv rfl)) (q1 rfl (z0g (mv rfl) ct) (q1 rfl (z1 (mv rfl)) (rn ?_))))))))
     exact AtX.to (ih6 (W (v5 + 1)) h) [0] (sl rfl) (ol rfl) rfl
   ·
    refine z2.exit (AtX.then_exit (AtX.then_exit (AtX.in_hit ?_)))
    exact AtX.to (hJ4 () h) [] trivial trivial rfl
 ·
  refine z2.block ?_
  refine z2.to (z2.loop (fun n (z : Int) => z69 φ v1 (z6u φ v1) n z) r (fun z => ⟨zd.of [(1, (eqv (.pointer (some ⟨b2, 0, none⟩)))), (3, (iv .i64 z))], [(box b2 105 (z72 v1))]⟩) (fun z => rfl) (fun n29 v28 ih29 h => ?_) φ 0 h) [0] (sl rfl) (ol rfl) rfl
  replace h : z69 φ v1 (z6u φ v1) (n29 + 1) v28 = some r := h
  rw [z69] at h
  refine cs (cs (cr [0, 1] rfl (q1 rfl (z0 (mv rfl)) (q1 rfl (z10 (mv rfl) ct) (rn (al [1, 3, 8] [0] rfl rfl rfl (sq ?_)))))))
  refine cI h rfl (fun c30 h => ?_) (fun c30 h => ?_)
  ·
   refine z2.skip (al [1, 3] [0] rfl rfl rfl (sq (cs (z2.block (cs (cr [0, 1, 2, 3, 4, 5] rfl (q1 rfl (z0 (mv rfl)) (q1 rfl (z3 (zow H) (mv rfl)) (ckE h fun h31 h => q1 rfl (z6i (zyi H) (mv rfl) (mv rfl) (h31).1 (h31).2) (q1 rfl (ln (tl62 H) (Pt.ofArr (e := zko) 0 (off := 0 + (v28 : Int).toNat * 2) (k := (v28 : Int).toNat) (mv rfl) rfl znz (by have hb0 := h31; simp only [List.length_nil, List.length_cons] <;> omega) (by have hb0 := h31; omega)) rfl) ?_))))))))))
   refine n1 rfl (z38 _ (ze62 H) rfl fun b32 => n1 rfl (sto 1 (tl62 H) (mv rfl) (Ce.agg (mv rfl)) rfl rfl rfl rfl (rn (al [1, 3, 4] [0, 1] rfl rfl rfl (sq (cs (cr [0, 1, 2, 3, 4, 5, 6, 7, 8, 9, 10, 11, 12, 13, 14] rfl (q1 rfl (z3 (zgc H) (mv rfl)) (q1 rfl (lb (tl3 H) 1 (mv rfl) rfl rfl) (q1 rfl (z10 (mv rfl) ct) (q1 rfl (z0 (mv rfl)) (g1 rfl rfl (fun g33 => z3 (zjf H) (mv rfl)) ?_))))))))))))
   refine g1 rfl rfl (fun g34 => lb (tl3 H) 1 (mc rfl g34) rfl rfl) (g1 rfl rfl (fun g35 => z3 (zgc H) (mv rfl)) (g1 rfl rfl (fun g36 => lb (tl3 H) 1 (mc rfl g36) rfl rfl) (g1 rfl rfl (fun g37 => z10 (mc rfl g37) (mc rfl g37)) (q1 rfl (opOr (mv rfl) ct (fun g38 => (mc rfl g38))) (q1 rfl (z0 (mv rfl)) (g1 rfl rfl (fun g39 => z3 (zjf H) (mv rfl)) (g1 rfl rfl (fun g40 => lb (tl3 H) 1 (mc rfl g40) rfl rfl) (g1 rfl rfl (fun g41 => z49 (mc rfl g41) ct) (q1 rfl (opOr (mv rfl) ct (fun g42 => (mc rfl g42))) (rn (al [1, 3, 29] [0] rfl rfl rfl ?_)))))))))))
   refine sq ?_
   refine cI h rfl (fun c43 h => ?_) (fun c43 h => ?_)
   ·
    refine cs (cr [0] rfl (q1 rfl (z1 ct) (rn (al [2] [] rfl rfl rfl (sq (z2.ret (AtX.in_ret (AtX.then_ret (AtX.then_ret (AtX.in_ret (AtX.then_ret ?_)))))))))))
    refine AtX.ret' (iv .i64 1) (zq.one Try.results45 rfl) [] [] trivial rfl ?_
    obtain rfl := Option.some.inj h
    exact ⟨rfl, rfl⟩
   ·
    refine z2.skip (AtX.in_normal (al [1, 3] [0] rfl rfl rfl (sq (cr [0, 1, 2] rfl (q1 rfl (z0 (mv rfl)) (q1 rfl (z0g (mv rfl) ct) (q1 rfl (z1 (mv rfl)) (rn ?_))))))))
    exact AtX.to (ih29 (W (v28 + 1)) h) [0] (sl rfl) (ol rfl) rfl
  ·
   refine z2.exit (AtX.then_exit (AtX.then_exit (AtX.in_hit ?_)))
   exact AtX.to (hJ3 () h) [0] (sl rfl) (ol rfl) rfl
theorem zdz {P : Program} (H : P = Try.prog) (φ : Nat) (v1 : Int) (v2 : Int) (v3 : Int) (r : (Int)) (h : za8 φ v1 v2 v3 = some r) : z0z P 83 [(iv .u64 v1), (iv .u64 v2), (iv .u64 v3)] (fun x news => x = (iv .u64 r) ∧ news = []) := by
 unfold za8 at h
 refine z0z.of_code' 26 (fn83 H) rfl rfl (Nat.le_of_ble_eq_true rfl) fun w0 base r0 wI => ?_
 refine cl [0, 1, 2] [] rfl rfl rfl (cs (cr [0] rfl (q1 rfl (z1 ct) (rn (al [0, 1, 2] [] rfl rfl rfl (sq (cs (cr [0] rfl (q1 rfl (z1 ct) (rn (al [0, 1, 2, 7] [] rfl rfl rfl ?_)))))))))))
 refine sq (cs ?_)
 refine z2.join (fun z : Int => (z62 φ) z) r (fun z => ⟨zd.of [(7, (iv .u64 z))], []⟩) (fun v4 h => ?_) (fun hJ5 => ?_)
 ·
  replace h : (z62 φ) v4 = some r := h
  unfold z62 at h
  refine al [7] [] rfl rfl rfl (sq (cs (cr [0, 1] rfl (q1 rfl (z0 (mv rfl)) (q1 rfl (z1 (mv rfl)) (rn (al [6] [] rfl rfl rfl (sq (z2.ret (AtX.ret' (iv .u64 v4) (zq.one Try.results83 rfl) [] [] trivial rfl ?_))))))))))
  obtain rfl := Option.some.inj h
  exact ⟨rfl, rfl⟩
 ·
  refine z2.block ?_
  refine z2.to (z2.loop (fun n (z : Int × Int × Int) => z44 φ v3 (z62 φ) n z.1 z.2.1 z.2.2) r (fun z => ⟨zd.of [(0, (iv .u64 z.1)), (1, (iv .u64 z.2.1)), (2, (iv .u64 v3)), (7, (iv .u64 z.2.2))], []⟩) (fun z => rfl) (fun n9 z ih9 h => ?_) φ (v1, v2, 0) h) [] (sl rfl) trivial rfl
  obtain ⟨v6, v7, v8⟩ := z
  replace h : z44 φ v3 (z62 φ) (n9 + 1) v6 v7 v8 = some r := h
  rw [z44] at h
  refine cs (cs (cr [0, 1] rfl (q1 rfl (z0 (mv rfl)) (q1 rfl (z49 (mv rfl) ct) (rn (al [0, 1, 2, 7, 9] [] rfl rfl rfl (sq ?_)))))))
  refine cI h rfl (fun c10 h => ?_) (fun c10 h => ?_)
  ·
   refine z2.skip (al [0, 1, 2, 7] [] rfl rfl rfl (sq (cs (z2.block (cs (cs (cr [0, 1, 2] rfl (q1 rfl (z0 (mv rfl)) (q1 rfl (ziz (mv rfl) ct (by decide)) (q1 rfl (z61 (mv rfl) ct) (rn ?_)))))))))))
   refine al [0, 1, 2, 7, 14] [] rfl rfl rfl (sq ?_)
   refine z2.join (fun z : Int => (z80 φ v3 v6 v7 (z44 φ v3 (z62 φ) n9)) z) r (fun z => ⟨zd.of [(0, (iv .u64 v6)), (1, (iv .u64 v7)), (2, (iv .u64 v3)), (7, (iv .u64 z))], []⟩) (fun v11 h => ?_) (fun hJ12 => ?_)
   ·
    replace h : (z80 φ v3 v6 v7 (z44 φ v3 (z62 φ) n9)) v11 = some r := h
    unfold z80 at h
    refine al [0, 1, 2, 7] [] rfl rfl rfl (sq (cr [0, 1, 2, 3, 4, 5] rfl (q1 rfl (z0 (mv rfl)) (q1 rfl (z0 (mv rfl)) (q1 rfl (z0g (mv rfl) (mv rfl)) (q1 rfl (z0 (mv rfl)) (ckE h fun h13 h => q1 rfl (ziz (mv rfl) (mv rfl) h13) (q1 rfl (z1 (mv rfl)) (rn (AtX.in_normal ?_))))))))))
    refine al [0, 1, 2, 7] [] rfl rfl rfl (sq (cr [0, 1, 2] rfl (q1 rfl (z0 (mv rfl)) (q1 rfl (zod (mv rfl) ct (by decide)) (q1 rfl (z1 (mv rfl)) (rn ?_))))))
    exact AtX.to (ih9 (((U (v6 + v6)).tmod v3), (U (v7.tdiv 2)), v11) h) [] (sl rfl) trivial rfl
   ·
    refine cI h rfl (fun c14 h => ?_) (fun c14 h => ?_)
    ·
     refine cr [0, 1, 2, 3, 4, 5] rfl (q1 rfl (z0 (mv rfl)) (q1 rfl (z0 (mv rfl)) (q1 rfl (z0g (mv rfl) (mv rfl)) (q1 rfl (z0 (mv rfl)) (ckE h fun h15 h => q1 rfl (ziz (mv rfl) (mv rfl) h15) (q1 rfl (z1 (mv rfl)) (rn ?_)))))))
     exact AtX.to (hJ12 ((U (v8 + v6)).tmod v3) h) [] (sl rfl) trivial rfl
    ·
     refine z2.skip ?_
     exact AtX.to (hJ12 v8 h) [] (sl rfl) trivial rfl
  ·
   refine z2.exit (AtX.then_exit (AtX.then_exit (AtX.in_hit ?_)))
   exact AtX.to (hJ5 v8 h) [] (sl rfl) trivial rfl
theorem zlk {P : Program} (H : P = Try.prog) (φ : Nat) (v1 : Int) (v2 : Int) (r : (Int)) (h : zdc φ v1 v2 = some r) : z0z P 70 [(iv .u64 v1), (iv .u64 v2)] (fun x news => x = (iv .u64 r) ∧ news = []) := by
 unfold zdc at h
 refine z0z.of_code' 22 (fn70 H) rfl rfl (Nat.le_of_ble_eq_true rfl) fun w0 base r0 wI => ?_
 refine cl [0, 1] [] rfl rfl rfl (cs (cr [0] rfl (q1 rfl (z1 ct) (rn (al [0, 1] [] rfl rfl rfl (sq (cs (cr [0] rfl (q1 rfl (z1 ct) (rn (al [0, 1, 5] [] rfl rfl rfl ?_)))))))))))
 refine sq (cs (cs (cr [0, 1, 2] rfl (q1 rfl (z0 (mv rfl)) (q1 rfl (ziz (mv rfl) ct (by decide)) (q1 rfl (z1 (mv rfl)) (rn (al [0, 1, 5] [] rfl rfl rfl (sq ?_)))))))))
 refine z2.join (fun z : Int => (z7o φ) z) r (fun z => ⟨zd.of [(5, (iv .u64 z))], []⟩) (fun v3 h => ?_) (fun hJ4 => ?_)
 ·
  replace h : (z7o φ) v3 = some r := h
  unfold z7o at h
  refine al [5] [] rfl rfl rfl (sq (cs (cr [0, 1] rfl (q1 rfl (z0 (mv rfl)) (q1 rfl (z1 (mv rfl)) (rn (al [4] [] rfl rfl rfl (sq (z2.ret (AtX.ret' (iv .u64 v3) (zq.one Try.results70 rfl) [] [] trivial rfl ?_))))))))))
  obtain rfl := Option.some.inj h
  exact ⟨rfl, rfl⟩
 ·
  refine z2.block ?_
  refine z2.to (z2.loop (fun n (z : Int × Int × Int) => z5k φ (z7o φ) n z.1 z.2.1 z.2.2) r (fun z => ⟨zd.of [(0, (iv .u64 z.1)), (1, (iv .u64 z.2.1)), (5, (iv .u64 z.2.2))], []⟩) (fun z => rfl) (fun n8 z ih8 h => ?_) φ ((v1.tmod 2305843009213690799), v2, 1) h) [] (sl rfl) trivial rfl
  obtain ⟨v5, v6, v7⟩ := z
  replace h : z5k φ (z7o φ) (n8 + 1) v5 v6 v7 = some r := h
  rw [z5k] at h
  refine cs (cs (cr [0, 1] rfl (q1 rfl (z0 (mv rfl)) (q1 rfl (z49 (mv rfl) ct) (rn (al [0, 1, 5, 9] [] rfl rfl rfl (sq ?_)))))))
  refine cI h rfl (fun c9 h => ?_) (fun c9 h => ?_)
  ·
   refine z2.skip (al [0, 1, 5] [] rfl rfl rfl (sq (cs (z2.block (cs (cs (cr [0, 1, 2] rfl (q1 rfl (z0 (mv rfl)) (q1 rfl (ziz (mv rfl) ct (by decide)) (q1 rfl (z61 (mv rfl) ct) (rn ?_)))))))))))
   refine al [0, 1, 5, 14] [] rfl rfl rfl (sq ?_)
   refine z2.join (fun z : Int => (z94 φ v5 v6 (z5k φ (z7o φ) n8)) z) r (fun z => ⟨zd.of [(0, (iv .u64 v5)), (1, (iv .u64 v6)), (5, (iv .u64 z))], []⟩) (fun v10 h => ?_) (fun hJ11 => ?_)
   ·
    replace h : (z94 φ v5 v6 (z5k φ (z7o φ) n8)) v10 = some r := h
    unfold z94 at h
    refine al [0, 1, 5] [] rfl rfl rfl (sq (cr [0, 1, 2, 3] rfl (q1 rfl (z0 (mv rfl)) (q1 rfl (z0 (mv rfl)) (zp h fun y12 ey12 h => q1 rfl (oQ (zso H) (zdz H φ v5 v5 2305843009213690799 _ ey12) z5 ⟨ef (mv rfl), ef (mv rfl), ef ct, trivial⟩) (q1 rfl (z1 (mv rfl)) (rn (AtX.in_normal (al [0, 1, 5] [] rfl rfl rfl (sq ?_))))))))))
    refine cr [0, 1, 2] rfl (q1 rfl (z0 (mv rfl)) (q1 rfl (zod (mv rfl) ct (by decide)) (q1 rfl (z1 (mv rfl)) (rn ?_))))
    exact AtX.to (ih8 (y12, (U (v6.tdiv 2)), v10) h) [] (sl rfl) trivial rfl
   ·
    refine cI h rfl (fun c13 h => ?_) (fun c13 h => ?_)
    ·
     refine cr [0, 1, 2, 3] rfl (q1 rfl (z0 (mv rfl)) (q1 rfl (z0 (mv rfl)) (zp h fun y14 ey14 h => q1 rfl (oQ (zso H) (zdz H φ v7 v5 2305843009213690799 _ ey14) z5 ⟨ef (mv rfl), ef (mv rfl), ef ct, trivial⟩) (q1 rfl (z1 (mv rfl)) (rn ?_)))))
     exact AtX.to (hJ11 y14 h) [] (sl rfl) trivial rfl
    ·
     refine z2.skip ?_
     exact AtX.to (hJ11 v7 h) [] (sl rfl) trivial rfl
  ·
   refine z2.exit (AtX.then_exit (AtX.then_exit (AtX.in_hit ?_)))
   exact AtX.to (hJ4 v7 h) [] (sl rfl) trivial rfl
theorem zir {P : Program} (H : P = Try.prog) (φ : Nat) (v1 : Int) (r : (Bool)) (h : zb9 φ v1 = some r) : z0z P 46 [(iv .u64 v1)] (fun x news => x = (bv r) ∧ news = []) := by
 unfold zb9 at h
 refine z0z.of_code' 14 (fn46 H) rfl rfl (Nat.le_of_ble_eq_true rfl) fun w0 base r0 wI => ?_
 refine cl [0] [] rfl rfl rfl (cs (cr [0] rfl (q1 rfl (z1 ct) (rn (al [0] [] rfl rfl rfl (sq (cs (cr [0, 1, 2, 3, 4, 5, 6, 7, 8, 9, 10, 11] rfl (q1 rfl (z0 (mv rfl)) (q1 rfl (z9l (mv rfl) ct) (q1 rfl (z0 (mv rfl)) ?_)))))))))))
 refine g1 rfl rfl (fun g2 => z0 (mv rfl)) (g1 rfl rfl (fun g3 => z10 (mc rfl g3) ct) (q1 rfl (z36 (mv rfl) (fun g4 => (mc rfl g4)) ct) (q1 rfl (z0 (mv rfl)) (g1 rfl rfl (fun g5 => z0 (mv rfl)) (zp h fun y7 ey7 h => g1 rfl rfl (fun g6 => oQ (zuk H) (zlk H φ v1 1152921504606845399 _ (zy ey7 g6)) z5 ⟨ef (mc rfl g6), ef ct, trivial⟩) (g1 rfl rfl (fun g8 => z61 (mc rfl g8) ct) (q1 rfl (z36 (mv rfl) (fun g9 => (mc rfl g9)) ct) (q1 rfl (z1 (mv rfl)) (rn (al [2] [] rfl rfl rfl ?_))))))))))
 refine sq (z2.ret (AtX.ret' (bv ((decide (2 ≤ v1) && decide (v1 < 2305843009213690799)) && (y7 == 1))) (zq.one Try.results46 rfl) [] [] trivial rfl ?_))
 obtain rfl := Option.some.inj h
 exact ⟨rfl, rfl⟩
theorem zff {P : Program} (H : P = Try.prog) (φ : Nat) (v1 : Pool) (r : (Int)) (h : z8r φ v1 = some r) : z0z P 19 [(agg (z2i v1))] (fun x news => x = (iv .i64 r) ∧ news = []) := by
 unfold z8r at h
 refine z0z.of_code' 70 (fn19 H) rfl rfl (Nat.le_of_ble_eq_true rfl) fun w0 base r0 wI => ?_
 refine cl [0] [] rfl rfl rfl (cs (cr [0, 1] rfl (n1 rfl (z7i (Ce.agg (mv rfl)) fun b2 => q1 rfl (z1 ct) (rn (al [1] [0] rfl rfl rfl (sq (cs (cr [0, 1, 2, 3] rfl (q1 rfl (z3 (zar H) (mv rfl)) (q1 rfl (ln (tl25 H) ((Pt.box 0 (mv rfl) rfl rfl).take 2 (cs' := (zam v1.fNetwork)) rfl) rfl) ?_)))))))))))
 refine zp h fun y3 ey3 h => q1 rfl (oQ (zx4 H) (ziq H φ v1.fNetwork _ ey3) z5 ⟨ef (mv rfl), trivial⟩) (q1 rfl (z1 (mv rfl)) (rn (al [1, 3] [0] rfl rfl rfl (sq (cs (cs (cr [0, 1] rfl (q1 rfl (z0 (mv rfl)) (q1 rfl (z6g (mv rfl) ct) (rn ?_))))))))))
 refine al [1, 3, 9] [0] rfl rfl rfl (sq ?_)
 refine cI h rfl (fun c4 h => ?_) (fun c4 h => ?_)
 ·
  refine cs (cr [0, 1] rfl (q1 rfl (z0 (mv rfl)) (q1 rfl (z1 (mv rfl)) (rn (al [2] [] rfl rfl rfl (sq (z2.ret (AtX.then_ret (AtX.ret' (iv .i64 y3) (zq.one Try.results19 rfl) [] [] trivial rfl ?_)))))))))
  obtain rfl := Option.some.inj h
  exact ⟨rfl, rfl⟩
 ·
  refine z2.skip (al [1] [0] rfl rfl rfl (sq (cs (cr [0, 1, 2, 3] rfl (q1 rfl (z3 (zde H) (mv rfl)) (q1 rfl (ln (tl31 H) ((Pt.box 0 (mv rfl) rfl rfl).take 4 (cs' := (z78 v1.fFleet)) rfl) rfl) (zp h fun y5 ey5 h => q1 rfl (oQ (zvj H) (zix H φ v1.fFleet _ ey5) z5 ⟨ef (mv rfl), trivial⟩) (q1 rfl (z1 (mv rfl)) (rn (al [1, 3] [0] rfl rfl rfl ?_))))))))))
  refine sq (cs (cs (cr [0, 1] rfl (q1 rfl (z0 (mv rfl)) (q1 rfl (z6g (mv rfl) ct) (rn (al [1, 3, 15] [0] rfl rfl rfl (sq ?_))))))))
  refine cI h rfl (fun c6 h => ?_) (fun c6 h => ?_)
  ·
   refine cs (cr [0, 1] rfl (q1 rfl (z0 (mv rfl)) (q1 rfl (z1 (mv rfl)) (rn (al [2] [] rfl rfl rfl (sq (z2.ret (AtX.then_ret (AtX.ret' (iv .i64 y5) (zq.one Try.results19 rfl) [] [] trivial rfl ?_)))))))))
   obtain rfl := Option.some.inj h
   exact ⟨rfl, rfl⟩
  ·
   refine z2.skip (al [1] [0] rfl rfl rfl (sq (cs (cs (cr [0, 1, 2, 3, 4, 5, 6, 7, 8, 9, 10, 11, 12, 13, 14, 15] rfl (q1 rfl (z3 (zjx H) (mv rfl)) (q1 rfl (lb (tl32 H) 0 (mv rfl) rfl rfl) (q1 rfl (z0x (il32 H) (mv rfl)) (q1 rfl (z49 (mv rfl) ct) (q1 rfl (z0 (mv rfl)) (g1 rfl rfl (fun g7 => z3 (zjp H) (mv rfl)) ?_)))))))))))
   refine g1 rfl rfl (fun g8 => lb (tl33 H) 0 (mc rfl g8) rfl rfl) (g1 rfl rfl (fun g9 => z0x (il33 H) (mc rfl g9)) (g1 rfl rfl (fun g10 => z49 (mc rfl g10) ct) (q1 rfl (opOr (mv rfl) ct (fun g11 => (mc rfl g11))) (q1 rfl (z0 (mv rfl)) (g1 rfl rfl (fun g12 => z3 (zcx H) (mv rfl)) (g1 rfl rfl (fun g13 => lb (tl34 H) 0 (mc rfl g13) rfl rfl) (g1 rfl rfl (fun g14 => z0x (il34 H) (mc rfl g14)) (g1 rfl rfl (fun g15 => z49 (mc rfl g15) ct) (q1 rfl (opOr (mv rfl) ct (fun g16 => (mc rfl g16))) (rn (al [1, 32] [0] rfl rfl rfl ?_)))))))))))
   refine sq ?_
   refine cI h rfl (fun c17 h => ?_) (fun c17 h => ?_)
   ·
    refine cs (cr [0] rfl (q1 rfl (z1 ct) (rn (al [2] [] rfl rfl rfl (sq (z2.ret (AtX.then_ret (AtX.ret' (iv .i64 2) (zq.one Try.results19 rfl) [] [] trivial rfl ?_))))))))
    obtain rfl := Option.some.inj h
    exact ⟨rfl, rfl⟩
   ·
    refine z2.skip (al [1] [0] rfl rfl rfl (sq (cs (cs (cr [0, 1, 2, 3, 4, 5, 6, 7] rfl (q1 rfl (ln (tl36 H) ((Pt.box 0 (mv rfl) rfl rfl).take 9 (cs' := (z2i v1)) rfl) rfl) (zp h fun y18 ey18 h => q1 rfl (oQ (zxf H) (zk9 H φ v1 _ ey18) z5 ⟨ef (mv rfl), trivial⟩) (q1 rfl (z79 (mv rfl)) (q1 rfl (z0 (mv rfl)) (g1 rfl rfl (fun g19 => ln (tl36 H) ((Pt.box 0 (mv rfl) rfl rfl).take 9 (cs' := (z2i v1)) rfl) rfl) ?_))))))))))
    refine zp h fun y21 ey21 h => g1 rfl rfl (fun g20 => oQ (zxe H) (zj7 H φ v1 _ (zy ey21 g20)) z5 ⟨ef (mc rfl g20), trivial⟩) (g1 rfl rfl (fun g22 => z79 (mc rfl g22)) (q1 rfl (opOr (mv rfl) ct (fun g23 => (mc rfl g23))) (rn (al [1, 40] [0] rfl rfl rfl (sq ?_)))))
    refine cI h rfl (fun c24 h => ?_) (fun c24 h => ?_)
    ·
     refine cs (cr [0] rfl (q1 rfl (z1 ct) (rn (al [2] [] rfl rfl rfl (sq (z2.ret (AtX.then_ret (AtX.ret' (iv .i64 1) (zq.one Try.results19 rfl) [] [] trivial rfl ?_))))))))
     obtain rfl := Option.some.inj h
     exact ⟨rfl, rfl⟩
    ·
     refine z2.skip (al [1] [0] rfl rfl rfl (sq (cs (cs (cr [0] rfl (q1 rfl (z1 ct) (rn (al [1, 4] [0] rfl rfl rfl (sq ?_)))))))))
     refine z2.join (fun z : Unit => (z2t φ v1)) r (fun z => ⟨zd.of [(1, (eqv (.pointer (some ⟨b2, 0, none⟩))))], [(box b2 36 (z2i v1))]⟩) (fun z h => ?_) (fun hJ25 => ?_)
     ·
      replace h : (z2t φ v1) = some r := h
      unfold z2t at h
      refine al [1] [0] rfl rfl rfl (sq (cs (cs (cr [0, 1, 2, 3] rfl (q1 rfl (z3 (zcx H) (mv rfl)) (q1 rfl (lb (tl34 H) 0 (mv rfl) rfl rfl) (q1 rfl (z0x (il34 H) (mv rfl)) (q1 rfl (z61 (mv rfl) ct) (rn (al [69] [] rfl rfl rfl (sq ?_)))))))))))
      refine cI h rfl (fun c26 h => ?_) (fun c26 h => ?_)
      ·
       refine cs (cr [0] rfl (q1 rfl (z1 ct) (rn (al [2] [] rfl rfl rfl (sq (z2.ret (AtX.then_ret (AtX.ret' (iv .i64 1) (zq.one Try.results19 rfl) [] [] trivial rfl ?_))))))))
       obtain rfl := Option.some.inj h
       exact ⟨rfl, rfl⟩
      ·
       refine z2.skip (al [] [] rfl rfl rfl (sq (cs (cr [0] rfl (q1 rfl (z1 ct) (rn (al [2] [] rfl rfl rfl (sq (z2.ret (AtX.ret' (iv .i64 0) (zq.one Try.results19 rfl) [] [] trivial rfl ?_))))))))))
       obtain rfl := Option.some.inj h
       exact ⟨rfl, rfl⟩
     ·
      refine z2.block ?_
      refine z2.to (z2.loop (fun n (z : Int) => z3g φ v1 (z2t φ v1) n z) r (fun z => ⟨zd.of [(1, (eqv (.pointer (some ⟨b2, 0, none⟩)))), (4, (iv .i64 z))], [(box b2 36 (z2i v1))]⟩) (fun z => rfl) (fun n28 v27 ih28 h => ?_) φ 0 h) [0] (sl rfl) (ol rfl) rfl
      replace h : z3g φ v1 (z2t φ v1) (n28 + 1) v27 = some r := h
      rw [z3g] at h
      refine cs (cs (cr [0, 1, 2, 3, 4] rfl (q1 rfl (z0 (mv rfl)) (q1 rfl (z3 (zcx H) (mv rfl)) (q1 rfl (lb (tl34 H) 0 (mv rfl) rfl rfl) (q1 rfl (z0x (il34 H) (mv rfl)) (q1 rfl (z10 (mv rfl) (mv rfl)) (rn (al [1, 4, 45] [0] rfl rfl rfl (sq ?_))))))))))
      refine cI h rfl (fun c29 h => ?_) (fun c29 h => ?_)
      ·
       refine z2.skip (al [1, 4] [0] rfl rfl rfl (sq (cs (z2.block (cs (cr [0, 1, 2, 3, 4, 5, 6, 7, 8, 9, 10, 11, 12, 13, 14, 15, 16, 17] rfl (q1 rfl (z3 (zcx H) (mv rfl)) (q1 rfl (lb (tl34 H) 0 (mv rfl) rfl rfl) (q1 rfl (z0 (mv rfl)) (ckE h fun h30 h => q1 rfl (zn (ix34 H) (mv rfl) (mv rfl) (h30).1 (z8 h30)) ?_))))))))))
       refine q1 rfl (z2a (zm6 H) (mv rfl) (cs' := (z72 (gt v1.fRailways v27).fCalendar)) 15 rfl) (q1 rfl (zdo (zuv H) (by simp [zct znz, z72]) (Pt.rop (mv rfl))) (zp h fun y31 ey31 h => q1 rfl (oQ (zv9 H) (zin H φ ((gt v1.fRailways v27).fCalendar) _ ey31) z5 ⟨ef (mv rfl), trivial⟩) (q1 rfl (z6g (mv rfl) ct) (q1 rfl (z0 (mv rfl)) (g1 rfl rfl (fun g32 => z3 (zcx H) (mv rfl)) (g1 rfl rfl (fun g33 => lb (tl34 H) 0 (mc rfl g33) rfl rfl) (g1 rfl rfl (fun g34 => z0 (mv rfl)) (g1 rfl rfl (fun g35 => zn (ix34 H) (mc rfl g35) (mc rfl g35) (h30).1 (z8 h30)) (g1 rfl rfl (fun g36 => z2a (zp6 H) (mc rfl g36) (cs' := [(iv .u64 ((gt v1.fRailways v27).fKey))]) 1 rfl) (g1 rfl rfl (fun g37 => lr (tl41 H) (mc rfl g37)) ?_))))))))))
       refine zp h fun y39 ey39 h => g1 rfl rfl (fun g38 => oQ (zwm H) (zir H φ ((gt v1.fRailways v27).fKey) _ (zy ey39 g38)) z5 ⟨ef (mc rfl g38), trivial⟩) (g1 rfl rfl (fun g40 => z79 (mc rfl g40)) (q1 rfl (opOr (mv rfl) ct (fun g41 => (mc rfl g41))) (rn (al [1, 4, 65] [0] rfl rfl rfl (sq ?_)))))
       refine cI h rfl (fun c42 h => ?_) (fun c42 h => ?_)
       ·
        refine cs (cr [0] rfl (q1 rfl (z1 ct) (rn (al [2] [] rfl rfl rfl (sq (z2.ret (AtX.in_ret (AtX.then_ret (AtX.then_ret (AtX.in_ret (AtX.then_ret ?_)))))))))))
        refine AtX.ret' (iv .i64 1) (zq.one Try.results19 rfl) [] [] trivial rfl ?_
        obtain rfl := Option.some.inj h
        exact ⟨rfl, rfl⟩
       ·
        refine z2.skip (AtX.in_normal (al [1, 4] [0] rfl rfl rfl (sq (cr [0, 1, 2] rfl (q1 rfl (z0 (mv rfl)) (q1 rfl (z0g (mv rfl) ct) (q1 rfl (z1 (mv rfl)) (rn ?_))))))))
        exact AtX.to (ih28 (W (v27 + 1)) h) [0] (sl rfl) (ol rfl) rfl
      ·
       refine z2.exit (AtX.then_exit (AtX.then_exit (AtX.in_hit ?_)))
       exact AtX.to (hJ25 () h) [0] (sl rfl) (ol rfl) rfl
theorem zcw {P : Program} (H : P = Try.prog) (φ : Nat) (v1 : (List zo)) (v2 : Ref) (r : (Int)) (h : zaa φ v1 v2 = some r) : z0z P 20 [(ro zm 21 v1), (agg (eRef v2))] (fun x news => x = (iv .i64 r) ∧ news = []) := by
 unfold zaa at h
 refine z0z.of_code' 20 (fn20 H) rfl rfl (Nat.le_of_ble_eq_true rfl) fun w0 base r0 wI => ?_
 refine cl [0, 1] [] rfl rfl rfl (cs (cr [0, 1] rfl (n1 rfl (z7i (Ce.agg (mv rfl)) fun b3 => q1 rfl (z1 ct) (rn (al [0, 3] [0] rfl rfl rfl (sq (cs (cs (cr [0] rfl (q1 rfl (z1 ct) ?_)))))))))))
 refine rn (al [0, 3, 5] [0] rfl rfl rfl (sq ?_))
 refine z2.join (fun z : Unit => (z8a φ)) r (fun z => ⟨zd.of [], []⟩) (fun z h => ?_) (fun hJ4 => ?_)
 ·
  replace h : (z8a φ) = some r := h
  unfold z8a at h
  refine al [] [] rfl rfl rfl (sq (cs (cr [0] rfl (q1 rfl (z1 ct) (rn (al [4] [] rfl rfl rfl (sq (z2.ret (AtX.ret' (iv .i64 (-1)) (zq.one Try.results20 rfl) [] [] trivial rfl ?_)))))))))
  obtain rfl := Option.some.inj h
  exact ⟨rfl, rfl⟩
 ·
  refine z2.block ?_
  refine z2.to (z2.loop (fun n (z : Int) => z89 φ v1 v2 (z8a φ) n z) r (fun z => ⟨zd.of [(0, (ro zm 21 v1)), (3, (eqv (.pointer (some ⟨b3, 0, none⟩)))), (5, (iv .i64 z))], [(box b3 43 (eRef v2))]⟩) (fun z => rfl) (fun n6 v5 ih6 h => ?_) φ 0 h) [0] (sl rfl) (ol rfl) rfl
  replace h : z89 φ v1 v2 (z8a φ) (n6 + 1) v5 = some r := h
  rw [z89] at h
  refine cs (cs (cr [0, 1, 2, 3] rfl (q1 rfl (z0 (mv rfl)) (q1 rfl (z0 (mv rfl)) (q1 rfl (z0x (il37 H) (mv rfl)) (q1 rfl (z10 (mv rfl) (mv rfl)) (rn (al [0, 3, 5, 9] [0] rfl rfl rfl (sq ?_)))))))))
  refine cI h rfl (fun c7 h => ?_) (fun c7 h => ?_)
  ·
   refine z2.skip (al [0, 3, 5] [0] rfl rfl rfl (sq (cs (z2.block (cs (ckE h fun h8 h => z2.draw (QR := [(0, _), (1, _), (2, _), (3, _), (4, _), (5, _), (6, _)]) (tab := [(some 12, []), (some 13, []), (some 14, [0, 1]), (some 15, [2]), (some 16, [3]), (some 17, []), (some 18, [4, 5])]) (z5h H) (Reg.intro [] [] (by kernel_rfl) rfl (an rfl) ⟨(qr rfl (z0 (mv rfl))), (qr rfl (z0 (mv rfl))), (qr rfl (zn (ix37 H) (mv rfl) (mv rfl) (h8).1 (z8 h8))), (qr rfl (z2a (z9x H) (mv rfl) (cs' := (eRef (gt v1 v5).fRef)) 2 rfl)), (qr rfl (ln (tl43 H) (Pt.rop (mv rfl)) rfl)), (qr rfl (ln (tl43 H) ((Pt.box 0 (mv rfl) rfl rfl).take 2 (cs' := (eRef v2)) rfl) rfl)), (qr rfl (zt0 [(.int .i64 ((gt v1 v5).fRef.fRailway)), (.int .i64 ((gt v1 v5).fRef.fNo))] [(.int .i64 v2.fRailway), (.int .i64 v2.fNo)] (mv rfl) (mv rfl) rfl rfl (eg43 H) (fun w => znp H w ((gt v1 v5).fRef) v2))), trivial⟩ trivial (fun _ => al [0, 3, 5, 18] [0] rfl rfl rfl (sq ?_)))))))))
   refine cI h rfl (fun c9 h => ?_) (fun c9 h => ?_)
   ·
    refine cs (cr [0, 1] rfl (q1 rfl (z0 (mv rfl)) (q1 rfl (z1 (mv rfl)) (rn (al [4] [] rfl rfl rfl (sq (z2.ret (AtX.in_ret (AtX.then_ret (AtX.then_ret (AtX.in_ret ?_)))))))))))
    refine AtX.then_ret (AtX.ret' (iv .i64 v5) (zq.one Try.results20 rfl) [] [] trivial rfl ?_)
    obtain rfl := Option.some.inj h
    exact ⟨rfl, rfl⟩
   ·
    refine z2.skip (AtX.in_normal (al [0, 3, 5] [0] rfl rfl rfl (sq (cr [0, 1, 2] rfl (q1 rfl (z0 (mv rfl)) (q1 rfl (z0g (mv rfl) ct) (q1 rfl (z1 (mv rfl)) (rn ?_))))))))
    exact AtX.to (ih6 (W (v5 + 1)) h) [0] (sl rfl) (ol rfl) rfl
  ·
   refine z2.exit (AtX.then_exit (AtX.then_exit (AtX.in_hit ?_)))
   exact AtX.to (hJ4 () h) [] trivial trivial rfl
theorem zi5 {P : Program} (H : P = Try.prog) (φ : Nat) (v1 : Ref) (v2 : Ref) (r : (Bool)) (h : zav φ v1 v2 = some r) : z0z P 22 [(agg (eRef v1)), (agg (eRef v2))] (fun x news => x = (bv r) ∧ news = []) := by
 unfold zav at h
 refine z0z.of_code' 24 (fn22 H) rfl rfl (Nat.le_of_ble_eq_true rfl) fun w0 base r0 wI => ?_
 refine cl [0, 1] [] rfl rfl rfl (cs (cr [0, 1, 2] rfl (n1 rfl (z7i (Ce.agg (mv rfl)) fun b3 => n1 rfl (z7i (Ce.agg (mv rfl)) fun b4 => q1 rfl (z1 ct) (rn (al [2, 3] [0, 1] rfl rfl rfl (sq (cs (cr [0, 1, 2, 3, 4, 5, 6, 7, 8, 9, 10, 11, 12, 13, 14, 15, 16, 17, 18, 19] rfl (q1 rfl (z3 (zaq H) (mv rfl)) ?_)))))))))))
 refine q1 rfl (lb (tl3 H) 0 (mv rfl) rfl rfl) (q1 rfl (z3 (zaq H) (mv rfl)) (q1 rfl (lb (tl3 H) 1 (mv rfl) rfl rfl) (q1 rfl (z10 (mv rfl) (mv rfl)) (q1 rfl (z0 (mv rfl)) (g1 rfl rfl (fun g5 => z3 (zaq H) (mv rfl)) (g1 rfl rfl (fun g6 => lb (tl3 H) 0 (mc rfl g6) rfl rfl) (g1 rfl rfl (fun g7 => z3 (zaq H) (mv rfl)) (g1 rfl rfl (fun g8 => lb (tl3 H) 1 (mc rfl g8) rfl rfl) (g1 rfl rfl (fun g9 => z61 (mc rfl g9) (mc rfl g9)) (g1 rfl rfl (fun g10 => z0 (mc rfl g10)) (gc rfl rfl (fun g11 => (z3 (zjw H) (mv rfl))) ?_)))))))))))
 refine gc rfl rfl (fun g12 => (lb (tl3 H) 0 (mc rfl ⟨g12.1, g12.2⟩) rfl rfl)) (gc rfl rfl (fun g13 => (z3 (zjw H) (mv rfl))) (gc rfl rfl (fun g14 => (lb (tl3 H) 1 (mc rfl ⟨g14.1, g14.2⟩) rfl rfl)) (gc rfl rfl (fun g15 => (z10 (mc rfl ⟨g15.1, g15.2⟩) (mc rfl ⟨g15.1, g15.2⟩))) (g1 rfl rfl (fun g16 => z36 (mc rfl g16) (fun g17 => (mc rfl ⟨g16, g17⟩)) ct) (q1 rfl (opOr (mv rfl) ct (fun g18 => (mc rfl g18))) (q1 rfl (z1 (mv rfl)) (rn (al [4] [] rfl rfl rfl (sq (z2.ret (AtX.ret' (bv (decide (v1.fRailway < v2.fRailway) || ((v1.fRailway == v2.fRailway) && decide (v1.fNo < v2.fNo)))) (zq.one Try.results22 rfl) [] [] trivial rfl ?_)))))))))))
 obtain rfl := Option.some.inj h
 exact ⟨rfl, rfl⟩
end Px
end
section
set_option linter.unusedVariables false
set_option linter.unusedSimpArgs false
set_option maxHeartbeats 4000000
set_option maxRecDepth 100000
namespace Px
open Go Go.RowKit Go.Proofs
theorem zd3 {P : Program} (H : P = Try.prog) (φ : Nat) (v1 : Pool) (v2 : (List zo)) (r : (Bool)) (h : z8h φ v1 v2 = some r) : z0z P 6 [(agg (z2i v1)), (ro zm 21 v2)] (fun x news => x = (bv r) ∧ news = []) := by
 unfold z8h at h
 refine z0z.of_code' 358 (fn6 H) rfl rfl (Nat.le_of_ble_eq_true rfl) fun w0 base r0 wI => ?_
 refine cl [0, 1] [] rfl rfl rfl (cs (cr [0, 1] rfl (n1 rfl (z7i (Ce.agg (mv rfl)) fun b3 => q1 rfl (z1 ct) (rn (al [1, 2] [0] rfl rfl rfl (sq (cs (cs (cr [0, 1] rfl (zp h fun y4 ey4 h => ?_)))))))))))
 refine q1 rfl (oQ (zy9 H) (zk0 H φ  _ ey4) z5 trivial) (q1 rfl (z79 (mv rfl)) (rn (al [1, 2, 21] [0] rfl rfl rfl (sq ?_))))
 refine cI h rfl (fun c5 h => ?_) (fun c5 h => ?_)
 ·
  refine cs (cr [0] rfl (q1 rfl (z1 ct) (rn (al [4] [] rfl rfl rfl (sq (z2.ret (AtX.then_ret (AtX.ret' (bv false) (zq.one Try.results6 rfl) [] [] trivial rfl ?_))))))))
  obtain rfl := Option.some.inj h
  exact ⟨rfl, rfl⟩
 ·
  refine z2.skip (al [1, 2] [0] rfl rfl rfl (sq (cs (cs (cr [0, 1, 2, 3, 4, 5, 6, 7, 8, 9, 10, 11, 12, 13] rfl (q1 rfl (ln (tl36 H) ((Pt.box 0 (mv rfl) rfl rfl).take 9 (cs' := (z2i v1)) rfl) rfl) (q1 rfl (z0 (mv rfl)) (zp h fun y6 ey6 h => q1 rfl (oQ (zwc H) (zlf H φ v1 v2 _ ey6) z5 ⟨ef (mv rfl), ef (mv rfl), trivial⟩) (q1 rfl (z79 (mv rfl)) (q1 rfl (z0 (mv rfl)) ?_))))))))))
  refine g1 rfl rfl (fun g7 => z0 (mv rfl)) (zp h fun y9 ey9 h => g1 rfl rfl (fun g8 => oQ (zuw H) (zez H φ v2 _ (zy ey9 g8)) z5 ⟨ef (mc rfl g8), trivial⟩) (g1 rfl rfl (fun g10 => z79 (mc rfl g10)) (q1 rfl (opOr (mv rfl) ct (fun g11 => (mc rfl g11))) (q1 rfl (z0 (mv rfl)) (g1 rfl rfl (fun g12 => ln (tl36 H) ((Pt.box 0 (mv rfl) rfl rfl).take 9 (cs' := (z2i v1)) rfl) rfl) (zp h fun y14 ey14 h => g1 rfl rfl (fun g13 => oQ (zvk H) (zff H φ v1 _ (zy ey14 g13)) z5 ⟨ef (mc rfl g13), trivial⟩) (g1 rfl rfl (fun g15 => z6g (mc rfl g15) ct) (q1 rfl (opOr (mv rfl) ct (fun g16 => (mc rfl g16))) (rn ?_)))))))))
  refine al [1, 2, 35] [0] rfl rfl rfl (sq ?_)
  refine cI h rfl (fun c17 h => ?_) (fun c17 h => ?_)
  ·
   refine cs (cr [0] rfl (q1 rfl (z1 ct) (rn (al [4] [] rfl rfl rfl (sq (z2.ret (AtX.then_ret (AtX.ret' (bv true) (zq.one Try.results6 rfl) [] [] trivial rfl ?_))))))))
   obtain rfl := Option.some.inj h
   exact ⟨rfl, rfl⟩
  ·
   refine z2.skip (al [1, 2] [0] rfl rfl rfl (sq (cs (cr [0, 1, 2, 3] rfl (q1 rfl (z0 (mv rfl)) (q1 rfl (z0x (il37 H) (mv rfl)) (ckE h fun h18 h => n1 rfl (zs1 (e := eB) false [.bool false] (sl76 H) lB (ze4 H) rfl rfl (mv rfl) (mv rfl) h18.1 h18.2.1 h18.2.2 fun sv19 => q1 rfl (z1 (mv rfl)) (rn (al [1, 2, 5] [0, 1] rfl rfl rfl ?_))))))))))
   refine sq (cs (cr [0, 1, 2, 3] rfl (q1 rfl (ln (tl36 H) ((Pt.box 0 (mv rfl) rfl rfl).take 9 (cs' := (z2i v1)) rfl) rfl) (q1 rfl (z0 (mv rfl)) (zp h fun y20 ey20 h => n1 rfl (oF (zkv H) (z81 H φ v1 v2 _ ey20) ⟨ef (mv rfl), ef (mv rfl), trivial⟩ fun x23 nw24 hk22 => ?_))))))
   obtain ⟨sv21, rfl, rfl⟩ := hk22
   refine ⟨z5, z6h ⟨z5d z68, trivial⟩, ?_⟩
   refine q1 rfl (z1 (mv rfl)) (rn (al [1, 2, 5, 6] [0, 1, 2] rfl rfl rfl (sq (cs (cs (cr [0] rfl (q1 rfl (z1 ct) (rn (al [1, 2, 5, 6, 7] [0, 1, 2] rfl rfl rfl (sq ?_))))))))))
   refine z2.join (fun z : (List Bool) => (z32 φ v1 v2) z) r (fun z => ⟨zd.of [(1, (ro zm 21 v2)), (2, (eqv (.pointer (some ⟨b3, 0, none⟩)))), (5, (eqv sv19))], [(box b3 36 (z2i v1)), (row 4 eB 1 z sv19)]⟩) (fun v25 h => ?_) (fun hJ26 => ?_)
   ·
    replace h : (z32 φ v1 v2) v25 = some r := h
    unfold z32 at h
    refine al [1, 2, 5] [0, 1] rfl rfl rfl (sq (cs (cr [0] rfl (q1 rfl (z1 ct) (rn (al [1, 2, 5, 14] [0, 1] rfl rfl rfl (sq (cs (cs (cr [0] rfl (q1 rfl (z1 ct) ?_)))))))))))
    refine rn (al [1, 2, 5, 14, 15] [0, 1] rfl rfl rfl (sq ?_))
    refine z2.join (fun z : Int => (z19 φ v1 v2 v25) z) r (fun z => ⟨zd.of [(1, (ro zm 21 v2)), (2, (eqv (.pointer (some ⟨b3, 0, none⟩)))), (5, (eqv sv19)), (14, (iv .i64 z))], [(box b3 36 (z2i v1)), (row 4 eB 1 v25 sv19)]⟩) (fun v27 h => ?_) (fun hJ28 => ?_)
    ·
     replace h : (z19 φ v1 v2 v25) v27 = some r := h
     unfold z19 at h
     refine al [1, 2, 5, 14] [0, 1] rfl rfl rfl (sq (cs (cr [0, 1, 2, 3] rfl (q1 rfl (ln (tl36 H) ((Pt.box 0 (mv rfl) rfl rfl).take 9 (cs' := (z2i v1)) rfl) rfl) (q1 rfl (z0 (mv rfl)) (zp h fun y29 ey29 h => n1 rfl (oF (zsf H) (zas H φ v1 v2 _ ey29) ⟨ef (mv rfl), ef (mv rfl), trivial⟩ fun x32 nw33 hk31 => ?_)))))))
     obtain ⟨sv30, rfl, rfl⟩ := hk31
     refine ⟨z5, z6h ⟨z5d fRef, trivial⟩, ?_⟩
     refine q1 rfl (z1 (mv rfl)) (rn (al [1, 5, 14, 17] [1, 2] rfl rfl rfl (sq (cs (cs (cr [0] rfl (q1 rfl (z1 ct) (rn (al [1, 5, 14, 17, 18] [0, 1] rfl rfl rfl (sq ?_))))))))))
     refine z2.join (fun z : Unit => (z31 φ v27 y29)) r (fun z => ⟨zd.of [(14, (iv .i64 v27)), (17, (eqv sv30))], [(row 43 eRef 2 y29 sv30)]⟩) (fun z h => ?_) (fun hJ34 => ?_)
     ·
      replace h : (z31 φ v27 y29) = some r := h
      unfold z31 at h
      refine al [14, 17] [0] rfl rfl rfl (sq (cs (cr [0, 1, 2, 3, 4] rfl (q1 rfl (z0 (mv rfl)) (q1 rfl (z9e 0 (il55 H) (mv rfl) rfl) (q1 rfl (z0 (mv rfl)) (q1 rfl (z61 (mv rfl) (mv rfl)) (q1 rfl (z1 (mv rfl)) (rn (al [4] [] rfl rfl rfl (sq ?_)))))))))))
      refine z2.ret (AtX.ret' (bv ((y29.length : Int) == v27)) (zq.one Try.results6 rfl) [] [] trivial rfl ?_)
      obtain rfl := Option.some.inj h
      exact ⟨rfl, rfl⟩
     ·
      refine z2.block ?_
      refine z2.to (z2.loop (fun n (z : Int) => z34 φ v2 v25 y29 (z31 φ v27 y29) n z) r (fun z => ⟨zd.of [(1, (ro zm 21 v2)), (5, (eqv sv19)), (14, (iv .i64 v27)), (17, (eqv sv30)), (18, (iv .i64 z))], [(row 4 eB 1 v25 sv19), (row 43 eRef 2 y29 sv30)]⟩) (fun z => rfl) (fun n36 v35 ih36 h => ?_) φ 0 h) [0, 1] (sl rfl) (ol rfl) rfl
      replace h : z34 φ v2 v25 y29 (z31 φ v27 y29) (n36 + 1) v35 = some r := h
      rw [z34] at h
      refine cs (cs (cr [0, 1, 2, 3] rfl (q1 rfl (z0 (mv rfl)) (q1 rfl (z0 (mv rfl)) (q1 rfl (z9e 1 (il55 H) (mv rfl) rfl) (q1 rfl (z10 (mv rfl) (mv rfl)) (rn (al [1, 5, 14, 17, 18, 320] [0, 1] rfl rfl rfl (sq ?_)))))))))
      refine cI h rfl (fun c37 h => ?_) (fun c37 h => ?_)
      ·
       refine z2.skip (al [1, 5, 14, 17, 18] [0, 1] rfl rfl rfl (sq (cs (z2.block (cs (cr [0, 1, 2, 3, 4, 5, 6] rfl (q1 rfl (z0 (mv rfl)) (q1 rfl (z0 (mv rfl)) (q1 rfl (z0 (mv rfl)) (ckE h fun h38 h => q1 rfl (zb 1 (ix55 H) (mv rfl) rfl (mv rfl) (h38).1 (h38).2) ?_))))))))))
       refine q1 rfl (ln (tl43 H) ((Pt.row _ 1 (k := (v35 : Int).toNat) (fo := 0) lRef (mv rfl) rfl (by omega) (z8 h38) rfl).take 2 (cs' := (eRef (gt y29 v35))) rfl) rfl) (zp h fun y39 ey39 h => q1 rfl (oQ (zpk H) (zcw H φ v2 (gt y29 v35) _ ey39) z5 ⟨ef (mv rfl), ef (mv rfl), trivial⟩) (q1 rfl (z1 (mv rfl)) (rn (al [1, 5, 14, 17, 18, 19] [0, 1] rfl rfl rfl (sq (cs (ckE h fun h43 h => ckE h fun h53 h => zp h fun y60 ey60 h => z2.draw (QR := [(0, _), (1, _), (2, _), (3, _), (4, _), (5, _), (6, _), (7, _), (8, _), (9, _), (10, _), (11, _), (12, _), (13, _), (14, _), (15, _), (16, _), (17, _), (18, _), (19, _), (20, _), (21, _), (22, _), (23, _), (24, _)]) (tab := [(some 329, []), (some 330, [0]), (some 331, [1]), (some 332, [2]), (some 333, [2]), (some 334, [3, 4, 2]), (some 335, [5, 2]), (some 336, [2, 6]), (some 337, [7, 2]), (some 338, [8]), (some 339, [9, 8]), (some 340, [10, 8, 8]), (some 341, [11]), (some 342, [11]), (some 343, [13, 11]), (some 344, [12, 14, 11]), (some 345, [15, 11]), (some 346, [11]), (some 347, [11]), (some 348, [17, 18, 11]), (some 349, [19, 11]), (some 350, [16, 20, 11, 11]), (some 351, [21, 11]), (some 352, [11, 22, 8]), (some 353, [8, 23])]) (z5h H) (Reg.intro [] [] (by kernel_rfl) rfl (an rfl) ⟨(qr rfl (z0 (mv rfl))), (qr rfl (z10 (mv rfl) ct)), (qr rfl (z0 (mv rfl))), (qr rfl (gqa rfl rfl rfl fun g40 => z0 (mv rfl))), (qr rfl (gqa rfl rfl rfl fun g41 => z0 (mv rfl))), (qr rfl (gqa rfl rfl rfl fun g42 => zb 0 (ix76 H) (mc rfl g42) rfl (mc rfl g42) ((h43 g42)).1 ((h43 g42)).2)), (qr rfl (gqa rfl rfl rfl fun g44 => lw0 (tl4 H) 0 lB (mc rfl g44) rfl (z8 (h43 g44)) rfl rfl)), (qr rfl (opOr (mv rfl) ct (fun g45 => (mc rfl g45)))), (qr rfl (z0 (mv rfl))), (qr rfl (gqa rfl rfl rfl fun g46 => z0 (mv rfl))), (qr rfl (gqa rfl rfl rfl fun g47 => z49 (mc rfl g47) ct)), (qr rfl (gqa rfl rfl rfl fun g48 => z0 (mc rfl g48))), (qr rfl (gqb rfl rfl rfl fun g49 => z0 (mv rfl))), (qr rfl (gqb rfl rfl rfl fun g50 => z0 (mv rfl))), (qr rfl (gqb rfl rfl rfl fun g51 => z2f (mc rfl ⟨g51.1, g51.2⟩) ct)), (qr rfl (gqb rfl rfl rfl fun g52 => zb 1 (ix55 H) (mc rfl ⟨g52.1, g52.2⟩) rfl (mc rfl ⟨g52.1, g52.2⟩) ((h53 g52)).1 ((h53 g52)).2)), (qr rfl (gqb rfl rfl rfl fun g54 => ln (tl43 H) ((Pt.row _ 1 (k := ((W (v35 - 1)) : Int).toNat) (fo := 0) lRef (mc rfl ⟨g54.1, g54.2⟩) rfl rfl (z8 (h53 g54)) rfl).take 2 (cs' := (eRef (gt y29 (W (v35 - 1))))) rfl) rfl)), (qr rfl (gqb rfl rfl rfl fun g55 => z0 (mv rfl))), (qr rfl (gqb rfl rfl rfl fun g56 => z0 (mv rfl))), (qr rfl (gqb rfl rfl rfl fun g57 => zb 1 (ix55 H) (mc rfl ⟨g57.1, g57.2⟩) rfl (mc rfl ⟨g57.1, g57.2⟩) (h38).1 (h38).2)), (qr rfl (gqb rfl rfl rfl fun g58 => ln (tl43 H) ((Pt.row _ 1 (k := (v35 : Int).toNat) (fo := 0) lRef (mc rfl ⟨g58.1, g58.2⟩) rfl rfl (z8 h38) rfl).take 2 (cs' := (eRef (gt y29 v35))) rfl) rfl)), (qr rfl (gqb rfl rfl rfl fun g59 => oQ (zuu H) (zi5 H φ (gt y29 (W (v35 - 1))) (gt y29 v35) _ (zy ey60 g59)) z5 ⟨ef (mc rfl ⟨g59.1, g59.2⟩), ef (mc rfl ⟨g59.1, g59.2⟩), trivial⟩)), (qr rfl (gqb rfl rfl rfl fun g61 => z79 (mc rfl ⟨g61.1, g61.2⟩))), (qr rfl (gqa rfl rfl rfl fun g62 => z36 (mc rfl g62) (fun g63 => (mc rfl ⟨g62, g63⟩)) ct)), (qr rfl (opOr (mv rfl) ct (fun g64 => (mc rfl g64)))), trivial⟩ trivial (fun _ => ?_)))))))))
       refine al [1, 5, 14, 17, 18, 353] [0, 1] rfl rfl rfl (sq ?_)
       refine cI h rfl (fun c65 h => ?_) (fun c65 h => ?_)
       ·
        refine cs (cr [0] rfl (q1 rfl (z1 ct) (rn (al [4] [] rfl rfl rfl (sq (z2.ret (AtX.in_ret (AtX.then_ret (AtX.then_ret (AtX.in_ret (AtX.then_ret ?_)))))))))))
        refine AtX.ret' (bv false) (zq.one Try.results6 rfl) [] [] trivial rfl ?_
        obtain rfl := Option.some.inj h
        exact ⟨rfl, rfl⟩
       ·
        refine z2.skip (AtX.in_normal (al [1, 5, 14, 17, 18] [0, 1] rfl rfl rfl (sq (cr [0, 1, 2] rfl (q1 rfl (z0 (mv rfl)) (q1 rfl (z0g (mv rfl) ct) (q1 rfl (z1 (mv rfl)) (rn ?_))))))))
        exact AtX.to (ih36 (W (v35 + 1)) h) [0, 1] (sl rfl) (ol rfl) rfl
      ·
       refine z2.exit (AtX.then_exit (AtX.then_exit (AtX.in_hit ?_)))
       exact AtX.to (hJ34 () h) [1] (sl rfl) (ol rfl) rfl
    ·
     refine z2.block ?_
     refine z2.to (z2.loop (fun n (z : Int × Int) => z0t φ v1 v2 v25 (z19 φ v1 v2 v25) n z.1 z.2) r (fun z => ⟨zd.of [(1, (ro zm 21 v2)), (2, (eqv (.pointer (some ⟨b3, 0, none⟩)))), (5, (eqv sv19)), (14, (iv .i64 z.1)), (15, (iv .i64 z.2))], [(box b3 36 (z2i v1)), (row 4 eB 1 v25 sv19)]⟩) (fun z => rfl) (fun n68 z ih68 h => ?_) φ (0, 0) h) [0, 1] (sl rfl) (ol rfl) rfl
     obtain ⟨v66, v67⟩ := z
     replace h : z0t φ v1 v2 v25 (z19 φ v1 v2 v25) (n68 + 1) v66 v67 = some r := h
     rw [z0t] at h
     refine cs (cs (cr [0, 1, 2, 3] rfl (q1 rfl (z0 (mv rfl)) (q1 rfl (z0 (mv rfl)) (q1 rfl (z0x (il37 H) (mv rfl)) (q1 rfl (z10 (mv rfl) (mv rfl)) (rn (al [1, 2, 5, 14, 15, 280] [0, 1] rfl rfl rfl (sq ?_)))))))))
     refine cI h rfl (fun c69 h => ?_) (fun c69 h => ?_)
     ·
      refine z2.skip (al [1, 2, 5, 14, 15] [0, 1] rfl rfl rfl (sq (cs (z2.block (cs (cr [0, 1, 2, 3, 4, 5, 6] rfl (q1 rfl (z0 (mv rfl)) (q1 rfl (z0 (mv rfl)) (ckE h fun h70 h => q1 rfl (zn (ix37 H) (mv rfl) (mv rfl) (h70).1 (z8 h70)) (q1 rfl (z2a (z6x H) (mv rfl) (cs' := (zcm (gt v2 v67).fItem)) 16 rfl) ?_))))))))))
      refine q1 rfl (z2a (zgi H) (mv rfl) (cs' := [(iv .i64 ((gt v2 v67).fItem.fKind))]) 1 rfl) (q1 rfl (lr (tl3 H) (mv rfl)) (q1 rfl (z1 (mv rfl)) (rn (al [1, 2, 5, 14, 15, 16] [0, 1] rfl rfl rfl (sq (cs (zp h fun y81 ey81 h => ckE h fun h87 h => z2.draw (QR := [(0, _), (1, _), (2, _), (3, _), (4, _), (5, _), (6, _), (7, _), (8, _), (9, _), (10, _), (11, _), (12, _), (13, _), (14, _), (15, _), (16, _), (17, _), (18, _), (19, _), (20, _), (21, _), (22, _)]) (tab := [(some 289, []), (some 290, [0]), (some 291, [1]), (some 292, [2]), (some 293, [3, 2]), (some 294, [2, 4]), (some 295, [5, 2]), (some 296, [6]), (some 297, [6]), (some 298, [6]), (some 299, [8, 9, 6]), (some 300, [10, 6]), (some 301, [11, 6]), (some 302, [7, 12, 6, 6]), (some 303, [13, 6]), (some 304, [6, 14]), (some 305, [15, 13]), (some 306, [16]), (some 307, [16]), (some 308, [17, 18, 16]), (some 309, [19, 16]), (some 310, [20, 16]), (some 311, [16, 21])]) (z5h H) (Reg.intro [] [] (by kernel_rfl) rfl (an rfl) ⟨(qr rfl (z0 (mv rfl))), (qr rfl (z61 (mv rfl) ct)), (qr rfl (z0 (mv rfl))), (qr rfl (gqa rfl rfl rfl fun g71 => z0 (mv rfl))), (qr rfl (gqa rfl rfl rfl fun g72 => z61 (mc rfl g72) ct)), (qr rfl (opOr (mv rfl) ct (fun g73 => (mc rfl g73)))), (qr rfl (z0 (mv rfl))), (qr rfl (gqa rfl rfl rfl fun g74 => ln (tl36 H) ((Pt.box 0 (mv rfl) rfl rfl).take 9 (cs' := (z2i v1)) rfl) rfl)), (qr rfl (gqa rfl rfl rfl fun g75 => z0 (mv rfl))), (qr rfl (gqa rfl rfl rfl fun g76 => z0 (mv rfl))), (qr rfl (gqa rfl rfl rfl fun g77 => zn (ix37 H) (mc rfl g77) (mc rfl g77) (h70).1 (z8 h70))), (qr rfl (gqa rfl rfl rfl fun g78 => z2a (z6x H) (mc rfl g78) (cs' := (zcm (gt v2 v67).fItem)) 16 rfl)), (qr rfl (gqa rfl rfl rfl fun g79 => ln (tl46 H) (Pt.rop (mc rfl g79)) rfl)), (qr rfl (gqa rfl rfl rfl fun g80 => oQ (znb H) (zbv H φ v1 ((gt v2 v67).fItem) _ (zy ey81 g80)) z5 ⟨ef (mc rfl g80), ef (mc rfl g80), trivial⟩)), (qr rfl (gqa rfl rfl rfl fun g82 => z61 (mc rfl g82) ct)), (qr rfl (z36 (mv rfl) (fun g83 => (mc rfl g83)) ct)), (qr rfl (z0 (mv rfl))), (qr rfl (gqa rfl rfl rfl fun g84 => z0 (mv rfl))), (qr rfl (gqa rfl rfl rfl fun g85 => z0 (mv rfl))), (qr rfl (gqa rfl rfl rfl fun g86 => zb 1 (ix76 H) (mc rfl g86) rfl (mc rfl g86) ((h87 g86)).1 ((h87 g86)).2)), (qr rfl (gqa rfl rfl rfl fun g88 => lw0 (tl4 H) 1 lB (mc rfl g88) rfl (z8 (h87 g88)) rfl rfl)), (qr rfl (gqa rfl rfl rfl fun g89 => z79 (mc rfl g89))), (qr rfl (z36 (mv rfl) (fun g90 => (mc rfl g90)) ct)), trivial⟩ trivial (fun _ => al [1, 2, 5, 14, 15, 311] [0, 1] rfl rfl rfl (sq ?_))))))))))
      refine z2.join (fun z : Int => (z45 φ v67 (z0t φ v1 v2 v25 (z19 φ v1 v2 v25) n68)) z) r (fun z => ⟨zd.of [(1, (ro zm 21 v2)), (2, (eqv (.pointer (some ⟨b3, 0, none⟩)))), (5, (eqv sv19)), (14, (iv .i64 z)), (15, (iv .i64 v67))], [(box b3 36 (z2i v1)), (row 4 eB 1 v25 sv19)]⟩) (fun v91 h => ?_) (fun hJ92 => ?_)
      ·
       replace h : (z45 φ v67 (z0t φ v1 v2 v25 (z19 φ v1 v2 v25) n68)) v91 = some r := h
       unfold z45 at h
       refine AtX.in_normal (al [1, 2, 5, 14, 15] [0, 1] rfl rfl rfl (sq (cr [0, 1, 2] rfl (q1 rfl (z0 (mv rfl)) (q1 rfl (z0g (mv rfl) ct) (q1 rfl (z1 (mv rfl)) (rn ?_)))))))
       exact AtX.to (ih68 (v91, (W (v67 + 1))) h) [0, 1] (sl rfl) (ol rfl) rfl
      ·
       refine cI h rfl (fun c93 h => ?_) (fun c93 h => ?_)
       ·
        refine cr [0, 1, 2] rfl (q1 rfl (z0 (mv rfl)) (q1 rfl (z0g (mv rfl) ct) (q1 rfl (z1 (mv rfl)) (rn ?_))))
        exact AtX.to (hJ92 (W (v66 + 1)) h) [0, 1] (sl rfl) (ol rfl) rfl
       ·
        refine z2.skip ?_
        exact AtX.to (hJ92 v66 h) [0, 1] (sl rfl) (ol rfl) rfl
     ·
      refine z2.exit (AtX.then_exit (AtX.then_exit (AtX.in_hit ?_)))
      exact AtX.to (hJ28 v66 h) [0, 1] (sl rfl) (ol rfl) rfl
   ·
    refine z2.block ?_
    refine z2.to (z2.loop (fun n (z : Int × (List Bool)) => z33 φ v1 v2 y20 (z32 φ v1 v2) n z.1 z.2) r (fun z => ⟨zd.of [(1, (ro zm 21 v2)), (2, (eqv (.pointer (some ⟨b3, 0, none⟩)))), (5, (eqv sv19)), (6, (eqv sv21)), (7, (iv .i64 z.1))], [(box b3 36 (z2i v1)), (row 4 eB 1 z.2 sv19), (row 70 z6 10 y20 sv21)]⟩) (fun z => rfl) (fun n96 z ih96 h => ?_) φ (0, (List.replicate ((v2.length : Int) : Int).toNat (false : Bool))) h) [0, 1, 2] (sl rfl) (ol rfl) rfl
    obtain ⟨v94, v95⟩ := z
    replace h : z33 φ v1 v2 y20 (z32 φ v1 v2) (n96 + 1) v94 v95 = some r := h
    rw [z33] at h
    refine cs (cs (cr [0, 1, 2, 3] rfl (q1 rfl (z0 (mv rfl)) (q1 rfl (z0 (mv rfl)) (q1 rfl (z9e 2 (il53 H) (mv rfl) rfl) (q1 rfl (z10 (mv rfl) (mv rfl)) (rn (al [1, 2, 5, 6, 7, 45] [0, 1, 2] rfl rfl rfl (sq ?_)))))))))
    refine cI h rfl (fun c97 h => ?_) (fun c97 h => ?_)
    ·
     refine z2.skip (al [1, 2, 5, 6, 7] [0, 1, 2] rfl rfl rfl (sq (cs (z2.block (cs (cr [0, 1, 2, 3, 4, 5, 6, 7] rfl (q1 rfl (z0 (mv rfl)) (q1 rfl (z0 (mv rfl)) (q1 rfl (z0 (mv rfl)) (ckE h fun h98 h => q1 rfl (zb 2 (ix53 H) (mv rfl) rfl (mv rfl) (h98).1 (h98).2) ?_))))))))))
     refine q1 rfl (z5l (zos H) (mv rfl)) (q1 rfl (ln (tl43 H) ((Pt.row _ 2 (k := (v94 : Int).toNat) (fo := 6) z0o (mv rfl) rfl (by omega) (z8 h98) rfl).take 2 (cs' := (eRef (gt y20 v94).fDeliver)) rfl) rfl) (zp h fun y99 ey99 h => q1 rfl (oQ (zpk H) (zcw H φ v2 ((gt y20 v94).fDeliver) _ ey99) z5 ⟨ef (mv rfl), ef (mv rfl), trivial⟩) (q1 rfl (z1 (mv rfl)) (rn (al [1, 2, 5, 6, 7, 8] [0, 1, 2] rfl rfl rfl (sq (cs (cr [0, 1, 2, 3, 4, 5, 6, 7] rfl (q1 rfl (z0 (mv rfl)) (q1 rfl (z0 (mv rfl)) ?_))))))))))
     refine q1 rfl (z0 (mv rfl)) (q1 rfl (zb 2 (ix53 H) (mv rfl) rfl (mv rfl) (h98).1 (h98).2) (q1 rfl (z5l (zsn H) (mv rfl)) (q1 rfl (ln (tl43 H) ((Pt.row _ 2 (k := (v94 : Int).toNat) (fo := 8) z0o (mv rfl) rfl (by omega) (z8 h98) rfl).take 2 (cs' := (eRef (gt y20 v94).fReceive)) rfl) rfl) (zp h fun y100 ey100 h => q1 rfl (oQ (zpk H) (zcw H φ v2 ((gt y20 v94).fReceive) _ ey100) z5 ⟨ef (mv rfl), ef (mv rfl), trivial⟩) (q1 rfl (z1 (mv rfl)) (rn (al [1, 2, 5, 6, 7, 8, 9] [0, 1, 2] rfl rfl rfl (sq (cs (cs ?_))))))))))
     refine cr [0, 1, 2, 3, 4, 5, 6, 7, 8, 9, 10, 11, 12, 13, 14, 15, 16, 17, 18, 19, 20, 21, 22] rfl (q1 rfl (z0 (mv rfl)) (q1 rfl (z10 (mv rfl) ct) (q1 rfl (z0 (mv rfl)) (g1 rfl rfl (fun g101 => z0 (mv rfl)) (g1 rfl rfl (fun g102 => z10 (mc rfl g102) ct) (q1 rfl (opOr (mv rfl) ct (fun g103 => (mc rfl g103))) (q1 rfl (z0 (mv rfl)) (g1 rfl rfl (fun g104 => z0 (mv rfl)) (g1 rfl rfl (fun g105 => z0 (mv rfl)) (ckE h fun h107 h => g1 rfl rfl (fun g106 => zb 1 (ix76 H) (mc rfl g106) rfl (mc rfl g106) ((h107 g106)).1 ((h107 g106)).2) ?_))))))))))
     refine g1 rfl rfl (fun g108 => lw0 (tl4 H) 1 lB (mc rfl g108) rfl (z8 (h107 g108)) rfl rfl) (q1 rfl (opOr (mv rfl) ct (fun g109 => (mc rfl g109))) (q1 rfl (z0 (mv rfl)) (g1 rfl rfl (fun g110 => z0 (mv rfl)) (g1 rfl rfl (fun g111 => z0 (mv rfl)) (ckE h fun h113 h => g1 rfl rfl (fun g112 => zb 1 (ix76 H) (mc rfl g112) rfl (mc rfl g112) ((h113 g112)).1 ((h113 g112)).2) (g1 rfl rfl (fun g114 => lw0 (tl4 H) 1 lB (mc rfl g114) rfl (z8 (h113 g114)) rfl rfl) (q1 rfl (opOr (mv rfl) ct (fun g115 => (mc rfl g115))) (q1 rfl (z0 (mv rfl)) (g1 rfl rfl (fun g116 => z0 (mv rfl)) (g1 rfl rfl (fun g117 => z0 (mv rfl)) ?_))))))))))
     refine g1 rfl rfl (fun g118 => z61 (mc rfl g118) (mc rfl g118)) (q1 rfl (opOr (mv rfl) ct (fun g119 => (mc rfl g119))) (rn (al [1, 2, 5, 6, 7, 8, 9, 84] [0, 1, 2] rfl rfl rfl (sq ?_))))
     refine cI h rfl (fun c120 h => ?_) (fun c120 h => ?_)
     ·
      refine cs (cr [0] rfl (q1 rfl (z1 ct) (rn (al [4] [] rfl rfl rfl (sq (z2.ret (AtX.then_ret (AtX.in_ret (AtX.then_ret (AtX.then_ret (AtX.in_ret ?_)))))))))))
      refine AtX.then_ret (AtX.ret' (bv false) (zq.one Try.results6 rfl) [] [] trivial rfl ?_)
      obtain rfl := Option.some.inj h
      exact ⟨rfl, rfl⟩
     ·
      refine z2.skip (al [1, 2, 5, 6, 7, 8, 9] [0, 1, 2] rfl rfl rfl (sq (cs (cr [0, 1, 2, 3] rfl (q1 rfl (z0 (mv rfl)) (q1 rfl (z0 (mv rfl)) (ckE h fun h121 h => q1 rfl (zb 1 (ix76 H) (mv rfl) rfl (mv rfl) (h121).1 (h121).2) (n1 rfl (z3s 1 (k := (y99 : Int).toNat) (fo := 0) (z' := true) (cs := [(bv true)]) lB (tl4 H) (mv rfl) (Ce.one ct (One.eqv rfl)) rfl rfl (by omega) (z8 h121) (Nat.le_of_ble_eq_true rfl) rfl (rn (al [1, 2, 5, 6, 7, 8, 9] [0, 1, 2] rfl rfl rfl ?_)))))))))))
      refine sq (cs (cr [0, 1, 2, 3] rfl (q1 rfl (z0 (mv rfl)) (q1 rfl (z0 (mv rfl)) (ckE h fun h122 h => q1 rfl (zb 1 (ix76 H) (mv rfl) rfl (mv rfl) (h122).1 (h122).2) (n1 rfl (z3s 1 (k := (y100 : Int).toNat) (fo := 0) (z' := true) (cs := [(bv true)]) lB (tl4 H) (mv rfl) (Ce.one ct (One.eqv rfl)) rfl rfl (by omega) (z8 h122) (Nat.le_of_ble_eq_true rfl) rfl (rn (al [1, 2, 5, 6, 7, 8, 9] [0, 1, 2] rfl rfl rfl (sq (cs ?_)))))))))))
      refine cr [0, 1, 2, 3, 4, 5, 6] rfl (q1 rfl (z0 (mv rfl)) (q1 rfl (z0 (mv rfl)) (ckE h fun h123 h => q1 rfl (zn (ix37 H) (mv rfl) (mv rfl) (h123).1 (z8 h123)) (q1 rfl (z2a (z6x H) (mv rfl) (cs' := (zcm (gt v2 y99).fItem)) 16 rfl) (q1 rfl (ln (tl46 H) (Pt.rop (mv rfl)) rfl) (n1 rfl (z38 _ (ze46 H) rfl fun b124 => n1 rfl (sto 3 (tl46 H) (mv rfl) (Ce.agg (mv rfl)) rfl rfl rfl rfl (rn (al [1, 2, 5, 6, 7, 8, 9, 10] [0, 1, 2, 3] rfl rfl rfl (sq ?_)))))))))))
      refine cs (cr [0, 1, 2, 3, 4, 5, 6] rfl (q1 rfl (z0 (mv rfl)) (q1 rfl (z0 (mv rfl)) (ckE h fun h125 h => q1 rfl (zn (ix37 H) (mv rfl) (mv rfl) (h125).1 (z8 h125)) (q1 rfl (z2a (z6x H) (mv rfl) (cs' := (zcm (gt v2 y100).fItem)) 16 rfl) (q1 rfl (ln (tl46 H) (Pt.rop (mv rfl)) rfl) (n1 rfl (z38 _ (ze46 H) rfl fun b126 => n1 rfl (sto 4 (tl46 H) (mv rfl) (Ce.agg (mv rfl)) rfl rfl rfl rfl (rn (al [1, 2, 5, 6, 7, 8, 9, 10, 11] [0, 1, 2, 3, 4] rfl rfl rfl ?_)))))))))))
      refine sq (cs (cs (zp h fun y127 ey127 h => zp h fun y131 ey131 h => z2.draw (QR := [(0, _), (1, _), (2, _), (3, _), (4, _), (5, _), (6, _), (7, _), (8, _), (9, _), (10, _), (11, _), (12, _), (13, _), (14, _), (15, _), (16, _), (17, _), (18, _), (19, _), (20, _), (21, _), (22, _), (23, _), (24, _), (25, _), (26, _), (27, _), (28, _), (29, _), (30, _), (31, _), (32, _), (33, _), (34, _), (35, _), (36, _), (37, _), (38, _), (39, _), (40, _), (41, _), (42, _), (43, _), (44, _), (45, _), (46, _), (47, _), (48, _), (49, _), (50, _), (51, _), (52, _), (53, _)]) (tab := [(some 101, []), (some 102, []), (some 103, [0, 1]), (some 104, [2]), (some 105, [3, 2]), (some 106, [4]), (some 107, [4]), (some 108, [5, 6, 4, 4]), (some 109, [7, 4]), (some 110, [4, 8]), (some 111, [9, 7]), (some 112, [10]), (some 113, [11, 10]), (some 114, [12, 10]), (some 115, [10, 13]), (some 116, [14, 10]), (some 117, [15]), (some 118, [16, 15]), (some 119, [17, 15]), (some 120, [15, 18]), (some 121, [19, 15]), (some 122, [20]), (some 123, [21, 20]), (some 124, [20]), (some 125, [20]), (some 126, [23, 24, 20]), (some 127, [25, 20]), (some 128, [26, 20]), (some 129, [22, 27, 20]), (some 130, [20, 28]), (some 131, [29, 20]), (some 132, [30]), (some 133, [31, 30]), (some 134, [30]), (some 135, [33, 30]), (some 136, [32, 34, 30]), (some 137, [30, 35]), (some 138, [36, 30]), (some 139, [37]), (some 140, [38, 37]), (some 141, [37]), (some 142, [37]), (some 143, [40, 41, 37]), (some 144, [42, 37]), (some 145, [43, 37]), (some 146, [39, 44, 37]), (some 147, [37, 45]), (some 148, [46, 37]), (some 149, [47]), (some 150, [48, 47]), (some 151, [47]), (some 152, [50, 47]), (some 153, [49, 51, 47]), (some 154, [47, 52])]) (z5h H) (Reg.intro [] [] (by kernel_rfl) rfl (an rfl) ⟨(qr rfl (ln (tl36 H) ((Pt.box 0 (mv rfl) rfl rfl).take 9 (cs' := (z2i v1)) rfl) rfl)), (qr rfl (ln (tl46 H) ((Pt.box 3 (mv rfl) rfl rfl).take 16 (cs' := (zcm (gt v2 y99).fItem)) rfl) rfl)), (qr rfl (oQ (znb H) (zbv H φ v1 ((gt v2 y99).fItem) _ ey127) z5 ⟨ef (mv rfl), ef (mv rfl), trivial⟩)), (qr rfl (z6g (mv rfl) ct)), (qr rfl (z0 (mv rfl))), (qr rfl (gqa rfl rfl rfl fun g128 => ln (tl36 H) ((Pt.box 0 (mv rfl) rfl rfl).take 9 (cs' := (z2i v1)) rfl) rfl)), (qr rfl (gqa rfl rfl rfl fun g129 => ln (tl46 H) ((Pt.box 4 (mv rfl) rfl rfl).take 16 (cs' := (zcm (gt v2 y100).fItem)) rfl) rfl)), (qr rfl (gqa rfl rfl rfl fun g130 => oQ (znb H) (zbv H φ v1 ((gt v2 y100).fItem) _ (zy ey131 g130)) z5 ⟨ef (mc rfl g130), ef (mc rfl g130), trivial⟩)), (qr rfl (gqa rfl rfl rfl fun g132 => z6g (mc rfl g132) ct)), (qr rfl (opOr (mv rfl) ct (fun g133 => (mc rfl g133)))), (qr rfl (z0 (mv rfl))), (qr rfl (gqa rfl rfl rfl fun g134 => z3 (zgi H) (mv rfl))), (qr rfl (gqa rfl rfl rfl fun g135 => lb (tl3 H) 3 (mc rfl g135) rfl rfl)), (qr rfl (gqa rfl rfl rfl fun g136 => z6g (mc rfl g136) ct)), (qr rfl (opOr (mv rfl) ct (fun g137 => (mc rfl g137)))), (qr rfl (z0 (mv rfl))), (qr rfl (gqa rfl rfl rfl fun g138 => z3 (zgi H) (mv rfl))), (qr rfl (gqa rfl rfl rfl fun g139 => lb (tl3 H) 4 (mc rfl g139) rfl rfl)), (qr rfl (gqa rfl rfl rfl fun g140 => z6g (mc rfl g140) ct)), (qr rfl (opOr (mv rfl) ct (fun g141 => (mc rfl g141)))), (qr rfl (z0 (mv rfl))), (qr rfl (gqa rfl rfl rfl fun g142 => z3 (zgg H) (mv rfl))), (qr rfl (gqa rfl rfl rfl fun g143 => lb (tl3 H) 3 (mc rfl g143) rfl rfl)), (qr rfl (gqa rfl rfl rfl fun g144 => z0 (mv rfl))), (qr rfl (gqa rfl rfl rfl fun g145 => z0 (mv rfl))), (qr rfl (gqa rfl rfl rfl fun g146 => zb 2 (ix53 H) (mc rfl g146) rfl (mc rfl g146) (h98).1 (h98).2)), (qr rfl (gqa rfl rfl rfl fun g147 => z5l (znd H) (mc rfl g147))), (qr rfl (gqa rfl rfl rfl fun g148 => lw0 (tl3 H) 2 z0o (mc rfl g148) rfl (z8 h98) rfl rfl)), (qr rfl (gqa rfl rfl rfl fun g149 => z6g (mc rfl g149) (mc rfl g149))), (qr rfl (opOr (mv rfl) ct (fun g150 => (mc rfl g150)))), (qr rfl (z0 (mv rfl))), (qr rfl (gqa rfl rfl rfl fun g151 => z3 (zgg H) (mv rfl))), (qr rfl (gqa rfl rfl rfl fun g152 => lb (tl3 H) 4 (mc rfl g152) rfl rfl)), (qr rfl (gqa rfl rfl rfl fun g153 => z3 (zgg H) (mv rfl))), (qr rfl (gqa rfl rfl rfl fun g154 => lb (tl3 H) 3 (mc rfl g154) rfl rfl)), (qr rfl (gqa rfl rfl rfl fun g155 => z6g (mc rfl g155) (mc rfl g155))), (qr rfl (opOr (mv rfl) ct (fun g156 => (mc rfl g156)))), (qr rfl (z0 (mv rfl))), (qr rfl (gqa rfl rfl rfl fun g157 => z3 (zc8 H) (mv rfl))), (qr rfl (gqa rfl rfl rfl fun g158 => lb (tl3 H) 3 (mc rfl g158) rfl rfl)), (qr rfl (gqa rfl rfl rfl fun g159 => z0 (mv rfl))), (qr rfl (gqa rfl rfl rfl fun g160 => z0 (mv rfl))), (qr rfl (gqa rfl rfl rfl fun g161 => zb 2 (ix53 H) (mc rfl g161) rfl (mc rfl g161) (h98).1 (h98).2)), (qr rfl (gqa rfl rfl rfl fun g162 => z5l (zw0 H) (mc rfl g162))), (qr rfl (gqa rfl rfl rfl fun g163 => lw (tl3 H) 2 z0o (mc rfl g163) rfl (z8 h98) rfl rfl)), (qr rfl (gqa rfl rfl rfl fun g164 => z6g (mc rfl g164) (mc rfl g164))), (qr rfl (opOr (mv rfl) ct (fun g165 => (mc rfl g165)))), (qr rfl (z0 (mv rfl))), (qr rfl (gqa rfl rfl rfl fun g166 => z3 (zc8 H) (mv rfl))), (qr rfl (gqa rfl rfl rfl fun g167 => lb (tl3 H) 4 (mc rfl g167) rfl rfl)), (qr rfl (gqa rfl rfl rfl fun g168 => z3 (zc8 H) (mv rfl))), (qr rfl (gqa rfl rfl rfl fun g169 => lb (tl3 H) 3 (mc rfl g169) rfl rfl)), (qr rfl (gqa rfl rfl rfl fun g170 => z6g (mc rfl g170) (mc rfl g170))), (qr rfl (opOr (mv rfl) ct (fun g171 => (mc rfl g171)))), trivial⟩ trivial (fun _ => ?_)))))
      refine al [1, 2, 5, 6, 7, 8, 9, 10, 11, 154] [0, 1, 2, 3, 4] rfl rfl rfl (sq ?_)
      refine cI h rfl (fun c172 h => ?_) (fun c172 h => ?_)
      ·
       refine cs (cr [0] rfl (q1 rfl (z1 ct) (rn (al [4] [] rfl rfl rfl (sq (z2.ret (AtX.then_ret (AtX.in_ret (AtX.then_ret (AtX.then_ret (AtX.in_ret ?_)))))))))))
       refine AtX.then_ret (AtX.ret' (bv false) (zq.one Try.results6 rfl) [] [] trivial rfl ?_)
       obtain rfl := Option.some.inj h
       exact ⟨rfl, rfl⟩
      ·
       refine z2.skip (al [1, 2, 5, 6, 7, 8, 9, 10, 11] [0, 1, 2, 3, 4] rfl rfl rfl (sq (cs (cs (z2.draw (QR := [(0, _), (1, _), (2, _), (3, _), (4, _), (5, _), (6, _), (7, _), (8, _), (9, _), (10, _), (11, _), (12, _), (13, _), (14, _), (15, _), (16, _), (17, _), (18, _), (19, _), (20, _), (21, _), (22, _), (23, _), (24, _), (25, _), (26, _), (27, _), (28, _), (29, _), (30, _), (31, _), (32, _), (33, _), (34, _), (35, _), (36, _), (37, _), (38, _), (39, _), (40, _), (41, _), (42, _), (43, _), (44, _), (45, _), (46, _), (47, _), (48, _), (49, _), (50, _), (51, _), (52, _), (53, _), (54, _), (55, _), (56, _), (57, _), (58, _)]) (tab := [(some 155, []), (some 156, []), (some 157, [0, 1]), (some 158, [2]), (some 159, [3]), (some 160, [4]), (some 161, []), (some 162, []), (some 163, [6, 7]), (some 164, [8]), (some 165, [9]), (some 166, [5, 10]), (some 167, [11]), (some 168, [12]), (some 169, [12]), (some 170, [13, 14, 12]), (some 171, [15, 12]), (some 172, [16, 12]), (some 173, [17, 12]), (some 174, [12]), (some 175, [12]), (some 176, [19, 20, 12]), (some 177, [21, 12]), (some 178, [22, 12]), (some 179, [18, 23, 12]), (some 180, [12, 24]), (some 181, [25, 12]), (some 182, [26]), (some 183, [27, 26]), (some 184, [26]), (some 185, [26]), (some 186, [29, 30, 26]), (some 187, [31, 26]), (some 188, [32, 26]), (some 189, [28, 33, 26]), (some 190, [26, 34]), (some 191, [35, 26]), (some 192, [36]), (some 193, [37, 36]), (some 194, [36]), (some 195, [36]), (some 196, [39, 40, 36]), (some 197, [41, 36]), (some 198, [42, 36]), (some 199, [38, 43, 36]), (some 200, [36, 44]), (some 201, [45, 36]), (some 202, [46]), (some 203, [46]), (some 204, [47, 48, 46]), (some 205, [49, 46]), (some 206, [50, 46]), (some 207, [46]), (some 208, [46]), (some 209, [52, 53, 46]), (some 210, [54, 46]), (some 211, [55, 46]), (some 212, [51, 56, 46]), (some 213, [46, 57])]) (z5h H) (Reg.intro [] [] (by kernel_rfl) rfl (an rfl) ⟨(qr rfl (z0 (mv rfl))), (qr rfl (z0 (mv rfl))), (qr rfl (zn (ix37 H) (mv rfl) (mv rfl) (h123).1 (z8 h123))), (qr rfl (z2a (z9x H) (mv rfl) (cs' := (eRef (gt v2 y99).fRef)) 2 rfl)), (qr rfl (z2a (zaq H) (mv rfl) (cs' := [(iv .i64 ((gt v2 y99).fRef.fRailway))]) 1 rfl)), (qr rfl (lr (tl3 H) (mv rfl))), (qr rfl (z0 (mv rfl))), (qr rfl (z0 (mv rfl))), (qr rfl (zb 2 (ix53 H) (mv rfl) rfl (mv rfl) (h98).1 (h98).2)), (qr rfl (z5l (zna H) (mv rfl))), (qr rfl (lw (tl3 H) 2 z0o (mv rfl) rfl (z8 h98) rfl rfl)), (qr rfl (z6g (mv rfl) (mv rfl))), (qr rfl (z0 (mv rfl))), (qr rfl (gqa rfl rfl rfl fun g173 => z0 (mv rfl))), (qr rfl (gqa rfl rfl rfl fun g174 => z0 (mv rfl))), (qr rfl (gqa rfl rfl rfl fun g175 => zn (ix37 H) (mc rfl g175) (mc rfl g175) (h125).1 (z8 h125))), (qr rfl (gqa rfl rfl rfl fun g176 => z2a (z9x H) (mc rfl g176) (cs' := (eRef (gt v2 y100).fRef)) 2 rfl)), (qr rfl (gqa rfl rfl rfl fun g177 => z2a (zaq H) (mc rfl g177) (cs' := [(iv .i64 ((gt v2 y100).fRef.fRailway))]) 1 rfl)), (qr rfl (gqa rfl rfl rfl fun g178 => lr (tl3 H) (mc rfl g178))), (qr rfl (gqa rfl rfl rfl fun g179 => z0 (mv rfl))), (qr rfl (gqa rfl rfl rfl fun g180 => z0 (mv rfl))), (qr rfl (gqa rfl rfl rfl fun g181 => zb 2 (ix53 H) (mc rfl g181) rfl (mc rfl g181) (h98).1 (h98).2)), (qr rfl (gqa rfl rfl rfl fun g182 => z5l (zn1 H) (mc rfl g182))), (qr rfl (gqa rfl rfl rfl fun g183 => lw (tl3 H) 2 z0o (mc rfl g183) rfl (z8 h98) rfl rfl)), (qr rfl (gqa rfl rfl rfl fun g184 => z6g (mc rfl g184) (mc rfl g184))), (qr rfl (opOr (mv rfl) ct (fun g185 => (mc rfl g185)))), (qr rfl (z0 (mv rfl))), (qr rfl (gqa rfl rfl rfl fun g186 => z3 (zdb H) (mv rfl))), (qr rfl (gqa rfl rfl rfl fun g187 => lb (tl3 H) 3 (mc rfl g187) rfl rfl)), (qr rfl (gqa rfl rfl rfl fun g188 => z0 (mv rfl))), (qr rfl (gqa rfl rfl rfl fun g189 => z0 (mv rfl))), (qr rfl (gqa rfl rfl rfl fun g190 => zb 2 (ix53 H) (mc rfl g190) rfl (mc rfl g190) (h98).1 (h98).2)), (qr rfl (gqa rfl rfl rfl fun g191 => z5l (zn1 H) (mc rfl g191))), (qr rfl (gqa rfl rfl rfl fun g192 => lw (tl3 H) 2 z0o (mc rfl g192) rfl (z8 h98) rfl rfl)), (qr rfl (gqa rfl rfl rfl fun g193 => z6g (mc rfl g193) (mc rfl g193))), (qr rfl (opOr (mv rfl) ct (fun g194 => (mc rfl g194)))), (qr rfl (z0 (mv rfl))), (qr rfl (gqa rfl rfl rfl fun g195 => z3 (zdb H) (mv rfl))), (qr rfl (gqa rfl rfl rfl fun g196 => lb (tl3 H) 4 (mc rfl g196) rfl rfl)), (qr rfl (gqa rfl rfl rfl fun g197 => z0 (mv rfl))), (qr rfl (gqa rfl rfl rfl fun g198 => z0 (mv rfl))), (qr rfl (gqa rfl rfl rfl fun g199 => zb 2 (ix53 H) (mc rfl g199) rfl (mc rfl g199) (h98).1 (h98).2)), (qr rfl (gqa rfl rfl rfl fun g200 => z5l (zna H) (mc rfl g200))), (qr rfl (gqa rfl rfl rfl fun g201 => lw (tl3 H) 2 z0o (mc rfl g201) rfl (z8 h98) rfl rfl)), (qr rfl (gqa rfl rfl rfl fun g202 => z6g (mc rfl g202) (mc rfl g202))), (qr rfl (opOr (mv rfl) ct (fun g203 => (mc rfl g203)))), (qr rfl (z0 (mv rfl))), (qr rfl (gqa rfl rfl rfl fun g204 => z0 (mv rfl))), (qr rfl (gqa rfl rfl rfl fun g205 => z0 (mv rfl))), (qr rfl (gqa rfl rfl rfl fun g206 => zb 2 (ix53 H) (mc rfl g206) rfl (mc rfl g206) (h98).1 (h98).2)), (qr rfl (gqa rfl rfl rfl fun g207 => z5l (zna H) (mc rfl g207))), (qr rfl (gqa rfl rfl rfl fun g208 => lw (tl3 H) 2 z0o (mc rfl g208) rfl (z8 h98) rfl rfl)), (qr rfl (gqa rfl rfl rfl fun g209 => z0 (mv rfl))), (qr rfl (gqa rfl rfl rfl fun g210 => z0 (mv rfl))), (qr rfl (gqa rfl rfl rfl fun g211 => zb 2 (ix53 H) (mc rfl g211) rfl (mc rfl g211) (h98).1 (h98).2)), (qr rfl (gqa rfl rfl rfl fun g212 => z5l (zn1 H) (mc rfl g212))), (qr rfl (gqa rfl rfl rfl fun g213 => lw (tl3 H) 2 z0o (mc rfl g213) rfl (z8 h98) rfl rfl)), (qr rfl (gqa rfl rfl rfl fun g214 => z61 (mc rfl g214) (mc rfl g214))), (qr rfl (opOr (mv rfl) ct (fun g215 => (mc rfl g215)))), trivial⟩ trivial (fun _ => ?_)))))))
       refine al [1, 2, 5, 6, 7, 10, 11, 213] [0, 1, 2, 3, 4] rfl rfl rfl (sq ?_)
       refine cI h rfl (fun c216 h => ?_) (fun c216 h => ?_)
       ·
        refine cs (cr [0] rfl (q1 rfl (z1 ct) (rn (al [4] [] rfl rfl rfl (sq (z2.ret (AtX.then_ret (AtX.in_ret (AtX.then_ret (AtX.then_ret (AtX.in_ret ?_)))))))))))
        refine AtX.then_ret (AtX.ret' (bv false) (zq.one Try.results6 rfl) [] [] trivial rfl ?_)
        obtain rfl := Option.some.inj h
        exact ⟨rfl, rfl⟩
       ·
        refine z2.skip (al [1, 2, 5, 6, 7, 10, 11] [0, 1, 2, 3, 4] rfl rfl rfl (sq (cs (cr [0, 1, 2, 3, 4, 5] rfl (q1 rfl (z3 (zbx H) (mv rfl)) (q1 rfl (lb (tl3 H) 3 (mv rfl) rfl rfl) (q1 rfl (z3 (zbx H) (mv rfl)) (q1 rfl (lb (tl3 H) 4 (mv rfl) rfl rfl) (q1 rfl (zve (n := [(gt v2 y100).fItem.fFrom]) (mv rfl) ⟨(mv rfl), trivial⟩) (q1 rfl (z1 (mv rfl)) (rn ?_)))))))))))
        refine al [1, 2, 5, 6, 7, 10, 11, 12] [0, 1, 2, 3, 4] rfl rfl rfl (sq (cs (cr [0, 1, 2, 3, 4, 5] rfl (q1 rfl (z3 (zbx H) (mv rfl)) (q1 rfl (lb (tl3 H) 3 (mv rfl) rfl rfl) (q1 rfl (z3 (zbx H) (mv rfl)) (q1 rfl (lb (tl3 H) 4 (mv rfl) rfl rfl) (q1 rfl (zoj (n := [(gt v2 y100).fItem.fFrom]) (mv rfl) ⟨(mv rfl), trivial⟩) (q1 rfl (z1 (mv rfl)) (rn (al [1, 2, 5, 6, 7, 10, 11, 12, 13] [0, 1, 2, 3, 4] rfl rfl rfl ?_)))))))))))
        refine sq (cs (ckE h fun h257 h => z2.draw (QR := [(0, _), (1, _), (2, _), (3, _), (4, _), (5, _), (6, _), (7, _), (8, _), (9, _), (10, _), (11, _), (12, _), (13, _), (14, _), (15, _), (16, _), (17, _), (18, _), (19, _), (20, _), (21, _), (22, _), (23, _), (24, _), (25, _), (26, _), (27, _), (28, _), (29, _), (30, _), (31, _), (32, _), (33, _), (34, _), (35, _), (36, _), (37, _), (38, _), (39, _), (40, _), (41, _), (42, _), (43, _), (44, _), (45, _), (46, _), (47, _), (48, _), (49, _), (50, _), (51, _), (52, _)]) (tab := [(some 224, []), (some 225, []), (some 226, [0, 1]), (some 227, [2]), (some 228, [3]), (some 229, [4]), (some 230, [4]), (some 231, [5, 6, 4]), (some 232, [7, 4]), (some 233, [8, 4]), (some 234, [4]), (some 235, [9, 10, 4]), (some 236, [4, 11]), (some 237, [12, 4]), (some 238, [13]), (some 239, [13]), (some 240, [14, 15, 13]), (some 241, [16, 13]), (some 242, [17, 13]), (some 243, [13]), (some 244, [18, 19, 13]), (some 245, [13, 20]), (some 246, [21, 13]), (some 247, [22]), (some 248, [22]), (some 249, [23, 24, 22]), (some 250, [25, 22]), (some 251, [26, 22]), (some 252, [22]), (some 253, [28, 22]), (some 254, [22]), (some 255, [30, 22]), (some 256, [29, 31, 22]), (some 257, [27, 32, 22]), (some 258, [22, 33]), (some 259, [34, 22]), (some 260, [35]), (some 261, [36, 35]), (some 262, [37, 35, 35]), (some 263, [38]), (some 264, [38]), (some 265, [39, 40, 38]), (some 266, [41, 38]), (some 267, [42, 38]), (some 268, [38]), (some 269, [38]), (some 270, [45, 38]), (some 271, [44, 46, 38]), (some 272, [47, 38]), (some 273, [48, 38]), (some 274, [43, 49, 38]), (some 275, [38, 50, 35]), (some 276, [35, 51])]) (z5h H) (Reg.intro [] [] (by kernel_rfl) rfl (an rfl) ⟨(qr rfl (z0 (mv rfl))), (qr rfl (z0 (mv rfl))), (qr rfl (z2f (mv rfl) (mv rfl))), (qr rfl (z49 (mv rfl) ct)), (qr rfl (z0 (mv rfl))), (qr rfl (gqa rfl rfl rfl fun g217 => z0 (mv rfl))), (qr rfl (gqa rfl rfl rfl fun g218 => z0 (mv rfl))), (qr rfl (gqa rfl rfl rfl fun g219 => zb 2 (ix53 H) (mc rfl g219) rfl (mc rfl g219) (h98).1 (h98).2)), (qr rfl (gqa rfl rfl rfl fun g220 => z5l (ze0 H) (mc rfl g220))), (qr rfl (gqa rfl rfl rfl fun g221 => lw (tl3 H) 2 z0o (mc rfl g221) rfl (z8 h98) rfl rfl)), (qr rfl (gqa rfl rfl rfl fun g222 => z0 (mv rfl))), (qr rfl (gqa rfl rfl rfl fun g223 => z10 (mc rfl g223) (mc rfl g223))), (qr rfl (opOr (mv rfl) ct (fun g224 => (mc rfl g224)))), (qr rfl (z0 (mv rfl))), (qr rfl (gqa rfl rfl rfl fun g225 => z0 (mv rfl))), (qr rfl (gqa rfl rfl rfl fun g226 => z0 (mv rfl))), (qr rfl (gqa rfl rfl rfl fun g227 => zb 2 (ix53 H) (mc rfl g227) rfl (mc rfl g227) (h98).1 (h98).2)), (qr rfl (gqa rfl rfl rfl fun g228 => z5l (ze0 H) (mc rfl g228))), (qr rfl (gqa rfl rfl rfl fun g229 => lw (tl3 H) 2 z0o (mc rfl g229) rfl (z8 h98) rfl rfl)), (qr rfl (gqa rfl rfl rfl fun g230 => z0 (mv rfl))), (qr rfl (gqa rfl rfl rfl fun g231 => z49 (mc rfl g231) (mc rfl g231))), (qr rfl (opOr (mv rfl) ct (fun g232 => (mc rfl g232)))), (qr rfl (z0 (mv rfl))), (qr rfl (gqa rfl rfl rfl fun g233 => z0 (mv rfl))), (qr rfl (gqa rfl rfl rfl fun g234 => z0 (mv rfl))), (qr rfl (gqa rfl rfl rfl fun g235 => zb 2 (ix53 H) (mc rfl g235) rfl (mc rfl g235) (h98).1 (h98).2)), (qr rfl (gqa rfl rfl rfl fun g236 => z5l (zxc H) (mc rfl g236))), (qr rfl (gqa rfl rfl rfl fun g237 => lw (tl3 H) 2 z0o (mc rfl g237) rfl (z8 h98) rfl rfl)), (qr rfl (gqa rfl rfl rfl fun g238 => z3 (zjl H) (mv rfl))), (qr rfl (gqa rfl rfl rfl fun g239 => lb (tl3 H) 3 (mc rfl g239) rfl rfl)), (qr rfl (gqa rfl rfl rfl fun g240 => z3 (zjl H) (mv rfl))), (qr rfl (gqa rfl rfl rfl fun g241 => lb (tl3 H) 4 (mc rfl g241) rfl rfl)), (qr rfl (gqa rfl rfl rfl fun g242 => zoj (n := [(gt v2 y100).fItem.fCode]) (mc rfl g242) ⟨(mc rfl g242), trivial⟩)), (qr rfl (gqa rfl rfl rfl fun g243 => z6g (mc rfl g243) (mc rfl g243))), (qr rfl (opOr (mv rfl) ct (fun g244 => (mc rfl g244)))), (qr rfl (z0 (mv rfl))), (qr rfl (gqa rfl rfl rfl fun g245 => z0 (mv rfl))), (qr rfl (gqa rfl rfl rfl fun g246 => z49 (mc rfl g246) ct)), (qr rfl (gqa rfl rfl rfl fun g247 => z0 (mc rfl g247))), (qr rfl (gqb rfl rfl rfl fun g248 => z0 (mv rfl))), (qr rfl (gqb rfl rfl rfl fun g249 => z0 (mv rfl))), (qr rfl (gqb rfl rfl rfl fun g250 => zb 2 (ix53 H) (mc rfl ⟨g250.1, g250.2⟩) rfl (mc rfl ⟨g250.1, g250.2⟩) (h98).1 (h98).2)), (qr rfl (gqb rfl rfl rfl fun g251 => z5l (ze0 H) (mc rfl ⟨g251.1, g251.2⟩))), (qr rfl (gqb rfl rfl rfl fun g252 => lw (tl3 H) 2 z0o (mc rfl ⟨g252.1, g252.2⟩) rfl (z8 h98) rfl rfl)), (qr rfl (gqb rfl rfl rfl fun g253 => z0 (mv rfl))), (qr rfl (gqb rfl rfl rfl fun g254 => z0 (mv rfl))), (qr rfl (gqb rfl rfl rfl fun g255 => z2f (mc rfl ⟨g255.1, g255.2⟩) ct)), (qr rfl (gqb rfl rfl rfl fun g256 => zb 2 (ix53 H) (mc rfl ⟨g256.1, g256.2⟩) rfl (mc rfl ⟨g256.1, g256.2⟩) ((h257 g256)).1 ((h257 g256)).2)), (qr rfl (gqb rfl rfl rfl fun g258 => z5l (ze0 H) (mc rfl ⟨g258.1, g258.2⟩))), (qr rfl (gqb rfl rfl rfl fun g259 => lw (tl3 H) 2 z0o (mc rfl ⟨g259.1, g259.2⟩) rfl (z8 (h257 g259)) rfl rfl)), (qr rfl (gqb rfl rfl rfl fun g260 => z10 (mc rfl ⟨g260.1, g260.2⟩) (mc rfl ⟨g260.1, g260.2⟩))), (qr rfl (gqa rfl rfl rfl fun g261 => z36 (mc rfl g261) (fun g262 => (mc rfl ⟨g261, g262⟩)) ct)), (qr rfl (opOr (mv rfl) ct (fun g263 => (mc rfl g263)))), trivial⟩ trivial (fun _ => ?_))))
        refine al [1, 2, 5, 6, 7, 276] [0, 1, 2] rfl rfl rfl (sq ?_)
        refine cI h rfl (fun c264 h => ?_) (fun c264 h => ?_)
        ·
         refine cs (cr [0] rfl (q1 rfl (z1 ct) (rn (al [4] [] rfl rfl rfl (sq (z2.ret (AtX.in_ret (AtX.then_ret (AtX.then_ret (AtX.in_ret (AtX.then_ret ?_)))))))))))
         refine AtX.ret' (bv false) (zq.one Try.results6 rfl) [] [] trivial rfl ?_
         obtain rfl := Option.some.inj h
         exact ⟨rfl, rfl⟩
        ·
         refine z2.skip (AtX.in_normal (al [1, 2, 5, 6, 7] [0, 1, 2] rfl rfl rfl (sq (cr [0, 1, 2] rfl (q1 rfl (z0 (mv rfl)) (q1 rfl (z0g (mv rfl) ct) (q1 rfl (z1 (mv rfl)) (rn ?_))))))))
         exact AtX.to (ih96 ((W (v94 + 1)), (z2o (z2o v95 y99 true) y100 true)) h) [0, 1, 2] (sl rfl) (ol rfl) rfl
    ·
     refine z2.exit (AtX.then_exit (AtX.then_exit (AtX.in_hit ?_)))
     exact AtX.to (hJ26 v95 h) [0, 1] (sl rfl) (ol rfl) rfl
end Px
end
section
namespace Px
open Go Go.RowKit
theorem zwx {H : Type} {enc : TypeId × Value → H} {P : Program} {W : World} {sp : Nat → Bool} {held : Bool} {base : Nat} {α : Type} {t : TypeId} {A : α → VP} {R : α → Prop} {v : Value} {d : DataW H} {p : List MemPlace}
    (hu : (match P.underlying t with | some (.slice _) => true | _ => false) = true) (ho : Opn P t 1 (fun y => [A y]) R) (hv : Value.okWide P W .any base t v) (h : DataW.Trod enc P W 0 sp held t v d p) : ∃ y, R y ∧ (A y).h (fun b => b < W.heap.size) W v := by
  obtain ⟨fuel, hf⟩ := h
  obtain ⟨_, y, hR, hc⟩ := ho _ _ _ _ _ _ _ _ hf
  unfold Value.okWide at hv
  split at hu
  · rename_i fs hus
    rw [hus] at hv
    have hcell : v.cells.toList = [v] := by
      cases v <;> first | rfl | (exfalso; simp [Cell.okWide, Cell.ok, hus] at hv)
    rw [hcell] at hc
    obtain ⟨u, hu', hA, _⟩ := hc.2 0 (A y) rfl
    simp at hu'
    subst hu'
    exact ⟨y, hR, hA⟩
  · cases hu
end Px
end
section
set_option linter.unusedVariables false
set_option linter.unusedSimpArgs false
set_option maxHeartbeats 4000000
set_option maxRecDepth 100000
namespace Px
open Go Go.RowKit Go.Proofs
def zsg (x : z8g) : Prop := RI .i64 x.fKind ∧ RI .i64 x.fRailway ∧ RI .i64 x.fOther ∧ True
def zv6 (x : Edge) : Prop := RI .i64 x.fA ∧ RI .i64 x.fB ∧ RI .i64 x.fRailway ∧ RI .i64 x.fMinutes ∧ RI .i64 x.fKm ∧ True
def zne (x : z7s) : Prop := (RL (zsg)) x.fPlaces ∧ (RL (zv6)) x.fEdges ∧ True
def zjq (x : z6c) : Prop := RI .i64 x.fLoad ∧ RI .i64 x.fTare ∧ RI .i64 x.fLength ∧ RI .i64 x.fGauge ∧ RI .i64 x.fBrake ∧ RI .u64 x.fClasses ∧ RI .i64 x.fLife ∧ RI .i64 x.fFloor ∧ True
def zru (x : zd8) : Prop := RI .i64 x.fType ∧ RI .i64 x.fOwner ∧ RI .i64 x.fHome ∧ RI .i64 x.fBuilt ∧ RI .i64 x.fWorth ∧ True
def zut (x : Swap) : Prop := RI .i64 x.fWanted ∧ RI .i64 x.fGiven ∧ RI .i64 x.fCost ∧ True
def zws (x : Wash) : Prop := RI .i64 x.fFrom ∧ RI .i64 x.fTo ∧ RI .i64 x.fMinutes ∧ True
def zrt (x : z8p) : Prop := (RL (zjq)) x.fTypes ∧ (RL (zru)) x.fWagons ∧ (RL (zut)) x.fSwaps ∧ (RL (zws)) x.fWashes ∧ True
def zoy (x : zev) : Prop := RI .i64 x.fPlace ∧ RI .i64 x.fLow ∧ RI .i64 x.fHigh ∧ True
def zng (x : zcn) : Prop := RI .i64 x.fPlace ∧ True
def zwd (x : Span) : Prop := RI .i64 x.fFrom ∧ RI .i64 x.fTo ∧ True
def zlr (x : z2w) : Prop := (fun f => ∀ i, i < 7 → (zwd) (f i)) x.fOpen ∧ (RL (RI .i64)) x.fHolidays ∧ True
def zgd (x : z2p) : Prop := RI .u64 x.fKey ∧ zlr x.fCalendar ∧ True
def zxz (x : Pool) : Prop := zne x.fNetwork ∧ zrt x.fFleet ∧ (RL (zoy)) x.fReaders ∧ (RL (zng)) x.fShippers ∧ (RL (zgd)) x.fRailways ∧ True
def RRef (x : Ref) : Prop := RI .i64 x.fRailway ∧ RI .i64 x.fNo ∧ True
def zwn (x : Part) : Prop := RI .i64 x.fKind ∧ RI .i64 x.fSerial ∧ (fun (_ : Bool) => True) x.fFitted ∧ True
def zvy (x : Item) : Prop := RI .i64 x.fKind ∧ RRef x.fRef ∧ RI .i64 x.fWagon ∧ RI .i64 x.fPlace ∧ RI .i64 x.fOther ∧ RI .i64 x.fNumber ∧ RI .i64 x.fFrom ∧ RI .i64 x.fTo ∧ RI .i64 x.fCode ∧ RI .i64 x.fDest ∧ RI .i64 x.fClass ∧ RI .i64 x.fWeight ∧ RI .i64 x.fAmount ∧ (fun (s : ByteArray) => s.size ≤ maxLen) x.fText ∧ (RL (zwn)) x.fParts ∧ True
def ztb (x : zo) : Prop := RRef x.fRef ∧ RRef x.fBy ∧ RI .i64 x.fTime ∧ zvy x.fItem ∧ True
theorem ou3 {P : Program} (H : P = Try.prog) : P.underlying 3 = some (.int .i64) := by subst H; kernel_rfl
theorem of68 {P : Program} (H : P = Try.prog) : z85 P 68 = some [(3, 0, 1), (3, 1, 1), (3, 2, 1)] := by subst H; kernel_rfl
theorem oc68 {P : Program} (H : P = Try.prog) : P.cellsOf 68 = 3 := by subst H; kernel_rfl
theorem ou22 {P : Program} (H : P = Try.prog) : P.underlying 22 = some (.slice 68) := by subst H; kernel_rfl
theorem zya {P : Program} (H : P = Try.prog) : z85 P 124 = some [(3, 0, 1), (3, 1, 1), (3, 2, 1), (3, 3, 1), (3, 4, 1)] := by subst H; kernel_rfl
theorem zv0 {P : Program} (H : P = Try.prog) : P.cellsOf 124 = 5 := by subst H; kernel_rfl
theorem ou23 {P : Program} (H : P = Try.prog) : P.underlying 23 = some (.slice 124) := by subst H; kernel_rfl
theorem of25 {P : Program} (H : P = Try.prog) : z85 P 25 = some [(22, 0, 1), (23, 1, 1)] := by subst H; kernel_rfl
theorem oc25 {P : Program} (H : P = Try.prog) : P.cellsOf 25 = 2 := by subst H; kernel_rfl
theorem ou41 {P : Program} (H : P = Try.prog) : P.underlying 41 = some (.int .u64) := by subst H; kernel_rfl
theorem zxn {P : Program} (H : P = Try.prog) : z85 P 114 = some [(3, 0, 1), (3, 1, 1), (3, 2, 1), (3, 3, 1), (3, 4, 1), (41, 5, 1), (3, 6, 1), (3, 7, 1)] := by subst H; kernel_rfl
theorem zw6 {P : Program} (H : P = Try.prog) : P.cellsOf 114 = 8 := by subst H; kernel_rfl
theorem ou26 {P : Program} (H : P = Try.prog) : P.underlying 26 = some (.slice 114) := by subst H; kernel_rfl
theorem of66 {P : Program} (H : P = Try.prog) : z85 P 66 = some [(3, 0, 1), (3, 1, 1), (3, 2, 1), (3, 3, 1), (3, 4, 1)] := by subst H; kernel_rfl
theorem oc66 {P : Program} (H : P = Try.prog) : P.cellsOf 66 = 5 := by subst H; kernel_rfl
theorem ou27 {P : Program} (H : P = Try.prog) : P.underlying 27 = some (.slice 66) := by subst H; kernel_rfl
theorem zyk {P : Program} (H : P = Try.prog) : z85 P 133 = some [(3, 0, 1), (3, 1, 1), (3, 2, 1)] := by subst H; kernel_rfl
theorem zw8 {P : Program} (H : P = Try.prog) : P.cellsOf 133 = 3 := by subst H; kernel_rfl
theorem ou28 {P : Program} (H : P = Try.prog) : P.underlying 28 = some (.slice 133) := by subst H; kernel_rfl
theorem zxu {P : Program} (H : P = Try.prog) : z85 P 149 = some [(3, 0, 1), (3, 1, 1), (3, 2, 1)] := by subst H; kernel_rfl
theorem zvu {P : Program} (H : P = Try.prog) : P.cellsOf 149 = 3 := by subst H; kernel_rfl
theorem ou29 {P : Program} (H : P = Try.prog) : P.underlying 29 = some (.slice 149) := by subst H; kernel_rfl
theorem of31 {P : Program} (H : P = Try.prog) : z85 P 31 = some [(26, 0, 1), (27, 1, 1), (28, 2, 1), (29, 3, 1)] := by subst H; kernel_rfl
theorem oc31 {P : Program} (H : P = Try.prog) : P.cellsOf 31 = 4 := by subst H; kernel_rfl
theorem zyg {P : Program} (H : P = Try.prog) : z85 P 119 = some [(3, 0, 1), (3, 1, 1), (3, 2, 1)] := by subst H; kernel_rfl
theorem zwl {P : Program} (H : P = Try.prog) : P.cellsOf 119 = 3 := by subst H; kernel_rfl
theorem ou32 {P : Program} (H : P = Try.prog) : P.underlying 32 = some (.slice 119) := by subst H; kernel_rfl
theorem zxr {P : Program} (H : P = Try.prog) : z85 P 122 = some [(3, 0, 1)] := by subst H; kernel_rfl
theorem zuq {P : Program} (H : P = Try.prog) : P.cellsOf 122 = 1 := by subst H; kernel_rfl
theorem ou33 {P : Program} (H : P = Try.prog) : P.underlying 33 = some (.slice 122) := by subst H; kernel_rfl
theorem of62 {P : Program} (H : P = Try.prog) : z85 P 62 = some [(3, 0, 1), (3, 1, 1)] := by subst H; kernel_rfl
theorem oc62 {P : Program} (H : P = Try.prog) : P.cellsOf 62 = 2 := by subst H; kernel_rfl
theorem zxt {P : Program} (H : P = Try.prog) : P.underlying 103 = some (.array 7 62) := by subst H; kernel_rfl
theorem zyd {P : Program} (H : P = Try.prog) : P.cellsOf 103 = 14 := by subst H; kernel_rfl
theorem ou96 {P : Program} (H : P = Try.prog) : P.underlying 96 = some (.slice 3) := by subst H; kernel_rfl
theorem oc3 {P : Program} (H : P = Try.prog) : P.cellsOf 3 = 1 := by subst H; kernel_rfl
theorem zyb {P : Program} (H : P = Try.prog) : z85 P 105 = some [(103, 0, 14), (96, 14, 1)] := by subst H; kernel_rfl
theorem zyj {P : Program} (H : P = Try.prog) : P.cellsOf 105 = 15 := by subst H; kernel_rfl
theorem zxs {P : Program} (H : P = Try.prog) : z85 P 107 = some [(41, 0, 1), (105, 1, 15)] := by subst H; kernel_rfl
theorem zxi {P : Program} (H : P = Try.prog) : P.cellsOf 107 = 16 := by subst H; kernel_rfl
theorem ou34 {P : Program} (H : P = Try.prog) : P.underlying 34 = some (.slice 107) := by subst H; kernel_rfl
theorem of36 {P : Program} (H : P = Try.prog) : z85 P 36 = some [(25, 0, 2), (31, 2, 4), (32, 6, 1), (33, 7, 1), (34, 8, 1)] := by subst H; kernel_rfl
theorem oc36 {P : Program} (H : P = Try.prog) : P.cellsOf 36 = 9 := by subst H; kernel_rfl
theorem of43 {P : Program} (H : P = Try.prog) : z85 P 43 = some [(3, 0, 1), (3, 1, 1)] := by subst H; kernel_rfl
theorem oc43 {P : Program} (H : P = Try.prog) : P.cellsOf 43 = 2 := by subst H; kernel_rfl
theorem ou9 {P : Program} (H : P = Try.prog) : P.underlying 9 = some .string := by subst H; kernel_rfl
theorem ou4 {P : Program} (H : P = Try.prog) : P.underlying 4 = some .bool := by subst H; kernel_rfl
theorem zxq {P : Program} (H : P = Try.prog) : z85 P 163 = some [(3, 0, 1), (3, 1, 1), (4, 2, 1)] := by subst H; kernel_rfl
theorem zv3 {P : Program} (H : P = Try.prog) : P.cellsOf 163 = 3 := by subst H; kernel_rfl
theorem ou44 {P : Program} (H : P = Try.prog) : P.underlying 44 = some (.slice 163) := by subst H; kernel_rfl
theorem of46 {P : Program} (H : P = Try.prog) : z85 P 46 = some [(3, 0, 1), (43, 1, 2), (3, 3, 1), (3, 4, 1), (3, 5, 1), (3, 6, 1), (3, 7, 1), (3, 8, 1), (3, 9, 1), (3, 10, 1), (3, 11, 1), (3, 12, 1), (3, 13, 1), (9, 14, 1), (44, 15, 1)] := by subst H; kernel_rfl
theorem oc46 {P : Program} (H : P = Try.prog) : P.cellsOf 46 = 16 := by subst H; kernel_rfl
theorem of48 {P : Program} (H : P = Try.prog) : z85 P 48 = some [(43, 0, 2), (43, 2, 2), (3, 4, 1), (46, 5, 16)] := by subst H; kernel_rfl
theorem oc48 {P : Program} (H : P = Try.prog) : P.cellsOf 48 = 21 := by subst H; kernel_rfl
theorem ou37 {P : Program} (H : P = Try.prog) : P.underlying 37 = some (.slice 48) := by subst H; kernel_rfl
theorem zr3 {P : Program} (H : P = Try.prog) : Opn P 68 3 z4m zsg := by
  intro H' enc w sp held fuel cs x h
  obtain ⟨hl, m, hf⟩ := z3n (of68 H) h
  replace hl : cs.length = 3 := hl.trans (oc68 H)
  obtain ⟨x0, h0⟩ := hf 0 _ _ _ rfl
  obtain ⟨_, y0, r0, c0⟩ := (Opn.int (ou3 H)) _ _ _ _ _ _ _ _ h0
  obtain ⟨x1, h1⟩ := hf 1 _ _ _ rfl
  obtain ⟨_, y1, r1, c1⟩ := (Opn.int (ou3 H)) _ _ _ _ _ _ _ _ h1
  obtain ⟨x2, h2⟩ := hf 2 _ _ _ rfl
  obtain ⟨_, y2, r2, c2⟩ := (Opn.int (ou3 H)) _ _ _ _ _ _ _ _ h2
  exact ⟨hl, ⟨y0, y1, y2⟩, ⟨r0, r1, r2, trivial⟩, zg.tile c0 (zg.tile c1 (zg.tile c2 (zg.tile0 hl)))⟩
theorem ztt {P : Program} (H : P = Try.prog) : Opn P 124 5 zbr zv6 := by
  intro H' enc w sp held fuel cs x h
  obtain ⟨hl, m, hf⟩ := z3n (zya H) h
  replace hl : cs.length = 5 := hl.trans (zv0 H)
  obtain ⟨x0, h0⟩ := hf 0 _ _ _ rfl
  obtain ⟨_, y0, r0, c0⟩ := (Opn.int (ou3 H)) _ _ _ _ _ _ _ _ h0
  obtain ⟨x1, h1⟩ := hf 1 _ _ _ rfl
  obtain ⟨_, y1, r1, c1⟩ := (Opn.int (ou3 H)) _ _ _ _ _ _ _ _ h1
  obtain ⟨x2, h2⟩ := hf 2 _ _ _ rfl
  obtain ⟨_, y2, r2, c2⟩ := (Opn.int (ou3 H)) _ _ _ _ _ _ _ _ h2
  obtain ⟨x3, h3⟩ := hf 3 _ _ _ rfl
  obtain ⟨_, y3, r3, c3⟩ := (Opn.int (ou3 H)) _ _ _ _ _ _ _ _ h3
  obtain ⟨x4, h4⟩ := hf 4 _ _ _ rfl
  obtain ⟨_, y4, r4, c4⟩ := (Opn.int (ou3 H)) _ _ _ _ _ _ _ _ h4
  exact ⟨hl, ⟨y0, y1, y2, y3, y4⟩, ⟨r0, r1, r2, r3, r4, trivial⟩, zg.tile c0 (zg.tile c1 (zg.tile c2 (zg.tile c3 (zg.tile c4 (zg.tile0 hl)))))⟩
theorem zoe {P : Program} (H : P = Try.prog) : Opn P 25 2 zam zne := by
  intro H' enc w sp held fuel cs x h
  obtain ⟨hl, m, hf⟩ := z3n (of25 H) h
  replace hl : cs.length = 2 := hl.trans (oc25 H)
  obtain ⟨x0, h0⟩ := hf 0 _ _ _ rfl
  obtain ⟨_, y0, r0, c0⟩ := (Opn.slice (ou22 H) (oc68 H) (by decide) (zr3 H)) _ _ _ _ _ _ _ _ h0
  obtain ⟨x1, h1⟩ := hf 1 _ _ _ rfl
  obtain ⟨_, y1, r1, c1⟩ := (Opn.slice (ou23 H) (zv0 H) (by decide) (ztt H)) _ _ _ _ _ _ _ _ h1
  exact ⟨hl, ⟨y0, y1⟩, ⟨r0, r1, trivial⟩, zg.tile c0 (zg.tile c1 (zg.tile0 hl))⟩
theorem zku {P : Program} (H : P = Try.prog) : Opn P 114 8 z1a zjq := by
  intro H' enc w sp held fuel cs x h
  obtain ⟨hl, m, hf⟩ := z3n (zxn H) h
  replace hl : cs.length = 8 := hl.trans (zw6 H)
  obtain ⟨x0, h0⟩ := hf 0 _ _ _ rfl
  obtain ⟨_, y0, r0, c0⟩ := (Opn.int (ou3 H)) _ _ _ _ _ _ _ _ h0
  obtain ⟨x1, h1⟩ := hf 1 _ _ _ rfl
  obtain ⟨_, y1, r1, c1⟩ := (Opn.int (ou3 H)) _ _ _ _ _ _ _ _ h1
  obtain ⟨x2, h2⟩ := hf 2 _ _ _ rfl
  obtain ⟨_, y2, r2, c2⟩ := (Opn.int (ou3 H)) _ _ _ _ _ _ _ _ h2
  obtain ⟨x3, h3⟩ := hf 3 _ _ _ rfl
  obtain ⟨_, y3, r3, c3⟩ := (Opn.int (ou3 H)) _ _ _ _ _ _ _ _ h3
  obtain ⟨x4, h4⟩ := hf 4 _ _ _ rfl
  obtain ⟨_, y4, r4, c4⟩ := (Opn.int (ou3 H)) _ _ _ _ _ _ _ _ h4
  obtain ⟨x5, h5⟩ := hf 5 _ _ _ rfl
  obtain ⟨_, y5, r5, c5⟩ := (Opn.int (ou41 H)) _ _ _ _ _ _ _ _ h5
  obtain ⟨x6, h6⟩ := hf 6 _ _ _ rfl
  obtain ⟨_, y6, r6, c6⟩ := (Opn.int (ou3 H)) _ _ _ _ _ _ _ _ h6
  obtain ⟨x7, h7⟩ := hf 7 _ _ _ rfl
  obtain ⟨_, y7, r7, c7⟩ := (Opn.int (ou3 H)) _ _ _ _ _ _ _ _ h7
  exact ⟨hl, ⟨y0, y1, y2, y3, y4, y5, y6, y7⟩, ⟨r0, r1, r2, r3, r4, r5, r6, r7, trivial⟩, zg.tile c0 (zg.tile c1 (zg.tile c2 (zg.tile c3 (zg.tile c4 (zg.tile c5 (zg.tile c6 (zg.tile c7 (zg.tile0 hl))))))))⟩
theorem zr7 {P : Program} (H : P = Try.prog) : Opn P 66 5 z6s zru := by
  intro H' enc w sp held fuel cs x h
  obtain ⟨hl, m, hf⟩ := z3n (of66 H) h
  replace hl : cs.length = 5 := hl.trans (oc66 H)
  obtain ⟨x0, h0⟩ := hf 0 _ _ _ rfl
  obtain ⟨_, y0, r0, c0⟩ := (Opn.int (ou3 H)) _ _ _ _ _ _ _ _ h0
  obtain ⟨x1, h1⟩ := hf 1 _ _ _ rfl
  obtain ⟨_, y1, r1, c1⟩ := (Opn.int (ou3 H)) _ _ _ _ _ _ _ _ h1
  obtain ⟨x2, h2⟩ := hf 2 _ _ _ rfl
  obtain ⟨_, y2, r2, c2⟩ := (Opn.int (ou3 H)) _ _ _ _ _ _ _ _ h2
  obtain ⟨x3, h3⟩ := hf 3 _ _ _ rfl
  obtain ⟨_, y3, r3, c3⟩ := (Opn.int (ou3 H)) _ _ _ _ _ _ _ _ h3
  obtain ⟨x4, h4⟩ := hf 4 _ _ _ rfl
  obtain ⟨_, y4, r4, c4⟩ := (Opn.int (ou3 H)) _ _ _ _ _ _ _ _ h4
  exact ⟨hl, ⟨y0, y1, y2, y3, y4⟩, ⟨r0, r1, r2, r3, r4, trivial⟩, zg.tile c0 (zg.tile c1 (zg.tile c2 (zg.tile c3 (zg.tile c4 (zg.tile0 hl)))))⟩
theorem zta {P : Program} (H : P = Try.prog) : Opn P 133 3 zbs zut := by
  intro H' enc w sp held fuel cs x h
  obtain ⟨hl, m, hf⟩ := z3n (zyk H) h
  replace hl : cs.length = 3 := hl.trans (zw8 H)
  obtain ⟨x0, h0⟩ := hf 0 _ _ _ rfl
  obtain ⟨_, y0, r0, c0⟩ := (Opn.int (ou3 H)) _ _ _ _ _ _ _ _ h0
  obtain ⟨x1, h1⟩ := hf 1 _ _ _ rfl
  obtain ⟨_, y1, r1, c1⟩ := (Opn.int (ou3 H)) _ _ _ _ _ _ _ _ h1
  obtain ⟨x2, h2⟩ := hf 2 _ _ _ rfl
  obtain ⟨_, y2, r2, c2⟩ := (Opn.int (ou3 H)) _ _ _ _ _ _ _ _ h2
  exact ⟨hl, ⟨y0, y1, y2⟩, ⟨r0, r1, r2, trivial⟩, zg.tile c0 (zg.tile c1 (zg.tile c2 (zg.tile0 hl)))⟩
theorem zt6 {P : Program} (H : P = Try.prog) : Opn P 149 3 z9o zws := by
  intro H' enc w sp held fuel cs x h
  obtain ⟨hl, m, hf⟩ := z3n (zxu H) h
  replace hl : cs.length = 3 := hl.trans (zvu H)
  obtain ⟨x0, h0⟩ := hf 0 _ _ _ rfl
  obtain ⟨_, y0, r0, c0⟩ := (Opn.int (ou3 H)) _ _ _ _ _ _ _ _ h0
  obtain ⟨x1, h1⟩ := hf 1 _ _ _ rfl
  obtain ⟨_, y1, r1, c1⟩ := (Opn.int (ou3 H)) _ _ _ _ _ _ _ _ h1
  obtain ⟨x2, h2⟩ := hf 2 _ _ _ rfl
  obtain ⟨_, y2, r2, c2⟩ := (Opn.int (ou3 H)) _ _ _ _ _ _ _ _ h2
  exact ⟨hl, ⟨y0, y1, y2⟩, ⟨r0, r1, r2, trivial⟩, zg.tile c0 (zg.tile c1 (zg.tile c2 (zg.tile0 hl)))⟩
theorem zr5 {P : Program} (H : P = Try.prog) : Opn P 31 4 z78 zrt := by
  intro H' enc w sp held fuel cs x h
  obtain ⟨hl, m, hf⟩ := z3n (of31 H) h
  replace hl : cs.length = 4 := hl.trans (oc31 H)
  obtain ⟨x0, h0⟩ := hf 0 _ _ _ rfl
  obtain ⟨_, y0, r0, c0⟩ := (Opn.slice (ou26 H) (zw6 H) (by decide) (zku H)) _ _ _ _ _ _ _ _ h0
  obtain ⟨x1, h1⟩ := hf 1 _ _ _ rfl
  obtain ⟨_, y1, r1, c1⟩ := (Opn.slice (ou27 H) (oc66 H) (by decide) (zr7 H)) _ _ _ _ _ _ _ _ h1
  obtain ⟨x2, h2⟩ := hf 2 _ _ _ rfl
  obtain ⟨_, y2, r2, c2⟩ := (Opn.slice (ou28 H) (zw8 H) (by decide) (zta H)) _ _ _ _ _ _ _ _ h2
  obtain ⟨x3, h3⟩ := hf 3 _ _ _ rfl
  obtain ⟨_, y3, r3, c3⟩ := (Opn.slice (ou29 H) (zvu H) (by decide) (zt6 H)) _ _ _ _ _ _ _ _ h3
  exact ⟨hl, ⟨y0, y1, y2, y3⟩, ⟨r0, r1, r2, r3, trivial⟩, zg.tile c0 (zg.tile c1 (zg.tile c2 (zg.tile c3 (zg.tile0 hl))))⟩
theorem zpq {P : Program} (H : P = Try.prog) : Opn P 119 3 z8b zoy := by
  intro H' enc w sp held fuel cs x h
  obtain ⟨hl, m, hf⟩ := z3n (zyg H) h
  replace hl : cs.length = 3 := hl.trans (zwl H)
  obtain ⟨x0, h0⟩ := hf 0 _ _ _ rfl
  obtain ⟨_, y0, r0, c0⟩ := (Opn.int (ou3 H)) _ _ _ _ _ _ _ _ h0
  obtain ⟨x1, h1⟩ := hf 1 _ _ _ rfl
  obtain ⟨_, y1, r1, c1⟩ := (Opn.int (ou3 H)) _ _ _ _ _ _ _ _ h1
  obtain ⟨x2, h2⟩ := hf 2 _ _ _ rfl
  obtain ⟨_, y2, r2, c2⟩ := (Opn.int (ou3 H)) _ _ _ _ _ _ _ _ h2
  exact ⟨hl, ⟨y0, y1, y2⟩, ⟨r0, r1, r2, trivial⟩, zg.tile c0 (zg.tile c1 (zg.tile c2 (zg.tile0 hl)))⟩
theorem znw {P : Program} (H : P = Try.prog) : Opn P 122 1 z3k zng := by
  intro H' enc w sp held fuel cs x h
  obtain ⟨hl, m, hf⟩ := z3n (zxr H) h
  replace hl : cs.length = 1 := hl.trans (zuq H)
  obtain ⟨x0, h0⟩ := hf 0 _ _ _ rfl
  obtain ⟨_, y0, r0, c0⟩ := (Opn.int (ou3 H)) _ _ _ _ _ _ _ _ h0
  exact ⟨hl, ⟨y0⟩, ⟨r0, trivial⟩, zg.tile c0 (zg.tile0 hl)⟩
theorem ztf {P : Program} (H : P = Try.prog) : Opn P 62 2 zko zwd := by
  intro H' enc w sp held fuel cs x h
  obtain ⟨hl, m, hf⟩ := z3n (of62 H) h
  replace hl : cs.length = 2 := hl.trans (oc62 H)
  obtain ⟨x0, h0⟩ := hf 0 _ _ _ rfl
  obtain ⟨_, y0, r0, c0⟩ := (Opn.int (ou3 H)) _ _ _ _ _ _ _ _ h0
  obtain ⟨x1, h1⟩ := hf 1 _ _ _ rfl
  obtain ⟨_, y1, r1, c1⟩ := (Opn.int (ou3 H)) _ _ _ _ _ _ _ _ h1
  exact ⟨hl, ⟨y0, y1⟩, ⟨r0, r1, trivial⟩, zg.tile c0 (zg.tile c1 (zg.tile0 hl))⟩
theorem zmn {P : Program} (H : P = Try.prog) : Opn P 105 15 z72 zlr := by
  intro H' enc w sp held fuel cs x h
  obtain ⟨hl, m, hf⟩ := z3n (zyb H) h
  replace hl : cs.length = 15 := hl.trans (zyj H)
  obtain ⟨x0, h0⟩ := hf 0 _ _ _ rfl
  obtain ⟨_, y0, r0, c0⟩ := (Opn.array (zxt H) (oc62 H) (zyd H) rfl (ztf H)) _ _ _ _ _ _ _ _ h0
  obtain ⟨x1, h1⟩ := hf 1 _ _ _ rfl
  obtain ⟨_, y1, r1, c1⟩ := (Opn.slice (ou96 H) (oc3 H) (by decide) (Opn.int (ou3 H))) _ _ _ _ _ _ _ _ h1
  exact ⟨hl, ⟨y0, y1⟩, ⟨r0, r1, trivial⟩, zg.of_eq (zg.tile c0 (zg.tile c1 (zg.tile0 hl))) (by simp [z72])⟩
theorem zja {P : Program} (H : P = Try.prog) : Opn P 107 16 z1f zgd := by
  intro H' enc w sp held fuel cs x h
  obtain ⟨hl, m, hf⟩ := z3n (zxs H) h
  replace hl : cs.length = 16 := hl.trans (zxi H)
  obtain ⟨x0, h0⟩ := hf 0 _ _ _ rfl
  obtain ⟨_, y0, r0, c0⟩ := (Opn.int (ou41 H)) _ _ _ _ _ _ _ _ h0
  obtain ⟨x1, h1⟩ := hf 1 _ _ _ rfl
  obtain ⟨_, y1, r1, c1⟩ := (zmn H) _ _ _ _ _ _ _ _ h1
  exact ⟨hl, ⟨y0, y1⟩, ⟨r0, r1, trivial⟩, zg.of_eq (zg.tile c0 (zg.tile c1 (zg.tile0 hl))) (by simp [z72, z1f])⟩
theorem zu7 {P : Program} (H : P = Try.prog) : Opn P 36 9 z2i zxz := by
  intro H' enc w sp held fuel cs x h
  obtain ⟨hl, m, hf⟩ := z3n (of36 H) h
  replace hl : cs.length = 9 := hl.trans (oc36 H)
  obtain ⟨x0, h0⟩ := hf 0 _ _ _ rfl
  obtain ⟨_, y0, r0, c0⟩ := (zoe H) _ _ _ _ _ _ _ _ h0
  obtain ⟨x1, h1⟩ := hf 1 _ _ _ rfl
  obtain ⟨_, y1, r1, c1⟩ := (zr5 H) _ _ _ _ _ _ _ _ h1
  obtain ⟨x2, h2⟩ := hf 2 _ _ _ rfl
  obtain ⟨_, y2, r2, c2⟩ := (Opn.slice (ou32 H) (zwl H) (by decide) (zpq H)) _ _ _ _ _ _ _ _ h2
  obtain ⟨x3, h3⟩ := hf 3 _ _ _ rfl
  obtain ⟨_, y3, r3, c3⟩ := (Opn.slice (ou33 H) (zuq H) (by decide) (znw H)) _ _ _ _ _ _ _ _ h3
  obtain ⟨x4, h4⟩ := hf 4 _ _ _ rfl
  obtain ⟨_, y4, r4, c4⟩ := (Opn.slice (ou34 H) (zxi H) (by decide) (zja H)) _ _ _ _ _ _ _ _ h4
  exact ⟨hl, ⟨y0, y1, y2, y3, y4⟩, ⟨r0, r1, r2, r3, r4, trivial⟩, zg.tile c0 (zg.tile c1 (zg.tile c2 (zg.tile c3 (zg.tile c4 (zg.tile0 hl)))))⟩
theorem zpm {P : Program} (H : P = Try.prog) : Opn P 43 2 eRef RRef := by
  intro H' enc w sp held fuel cs x h
  obtain ⟨hl, m, hf⟩ := z3n (of43 H) h
  replace hl : cs.length = 2 := hl.trans (oc43 H)
  obtain ⟨x0, h0⟩ := hf 0 _ _ _ rfl
  obtain ⟨_, y0, r0, c0⟩ := (Opn.int (ou3 H)) _ _ _ _ _ _ _ _ h0
  obtain ⟨x1, h1⟩ := hf 1 _ _ _ rfl
  obtain ⟨_, y1, r1, c1⟩ := (Opn.int (ou3 H)) _ _ _ _ _ _ _ _ h1
  exact ⟨hl, ⟨y0, y1⟩, ⟨r0, r1, trivial⟩, zg.tile c0 (zg.tile c1 (zg.tile0 hl))⟩
theorem zt7 {P : Program} (H : P = Try.prog) : Opn P 163 3 zbg zwn := by
  intro H' enc w sp held fuel cs x h
  obtain ⟨hl, m, hf⟩ := z3n (zxq H) h
  replace hl : cs.length = 3 := hl.trans (zv3 H)
  obtain ⟨x0, h0⟩ := hf 0 _ _ _ rfl
  obtain ⟨_, y0, r0, c0⟩ := (Opn.int (ou3 H)) _ _ _ _ _ _ _ _ h0
  obtain ⟨x1, h1⟩ := hf 1 _ _ _ rfl
  obtain ⟨_, y1, r1, c1⟩ := (Opn.int (ou3 H)) _ _ _ _ _ _ _ _ h1
  obtain ⟨x2, h2⟩ := hf 2 _ _ _ rfl
  obtain ⟨_, y2, r2, c2⟩ := (Opn.bool (ou4 H)) _ _ _ _ _ _ _ _ h2
  exact ⟨hl, ⟨y0, y1, y2⟩, ⟨r0, r1, r2, trivial⟩, zg.tile c0 (zg.tile c1 (zg.tile c2 (zg.tile0 hl)))⟩
theorem zui {P : Program} (H : P = Try.prog) : Opn P 46 16 zcm zvy := by
  intro H' enc w sp held fuel cs x h
  obtain ⟨hl, m, hf⟩ := z3n (of46 H) h
  replace hl : cs.length = 16 := hl.trans (oc46 H)
  obtain ⟨x0, h0⟩ := hf 0 _ _ _ rfl
  obtain ⟨_, y0, r0, c0⟩ := (Opn.int (ou3 H)) _ _ _ _ _ _ _ _ h0
  obtain ⟨x1, h1⟩ := hf 1 _ _ _ rfl
  obtain ⟨_, y1, r1, c1⟩ := (zpm H) _ _ _ _ _ _ _ _ h1
  obtain ⟨x2, h2⟩ := hf 2 _ _ _ rfl
  obtain ⟨_, y2, r2, c2⟩ := (Opn.int (ou3 H)) _ _ _ _ _ _ _ _ h2
  obtain ⟨x3, h3⟩ := hf 3 _ _ _ rfl
  obtain ⟨_, y3, r3, c3⟩ := (Opn.int (ou3 H)) _ _ _ _ _ _ _ _ h3
  obtain ⟨x4, h4⟩ := hf 4 _ _ _ rfl
  obtain ⟨_, y4, r4, c4⟩ := (Opn.int (ou3 H)) _ _ _ _ _ _ _ _ h4
  obtain ⟨x5, h5⟩ := hf 5 _ _ _ rfl
  obtain ⟨_, y5, r5, c5⟩ := (Opn.int (ou3 H)) _ _ _ _ _ _ _ _ h5
  obtain ⟨x6, h6⟩ := hf 6 _ _ _ rfl
  obtain ⟨_, y6, r6, c6⟩ := (Opn.int (ou3 H)) _ _ _ _ _ _ _ _ h6
  obtain ⟨x7, h7⟩ := hf 7 _ _ _ rfl
  obtain ⟨_, y7, r7, c7⟩ := (Opn.int (ou3 H)) _ _ _ _ _ _ _ _ h7
  obtain ⟨x8, h8⟩ := hf 8 _ _ _ rfl
  obtain ⟨_, y8, r8, c8⟩ := (Opn.int (ou3 H)) _ _ _ _ _ _ _ _ h8
  obtain ⟨x9, h9⟩ := hf 9 _ _ _ rfl
  obtain ⟨_, y9, r9, c9⟩ := (Opn.int (ou3 H)) _ _ _ _ _ _ _ _ h9
  obtain ⟨x10, h10⟩ := hf 10 _ _ _ rfl
  obtain ⟨_, y10, r10, c10⟩ := (Opn.int (ou3 H)) _ _ _ _ _ _ _ _ h10
  obtain ⟨x11, h11⟩ := hf 11 _ _ _ rfl
  obtain ⟨_, y11, r11, c11⟩ := (Opn.int (ou3 H)) _ _ _ _ _ _ _ _ h11
  obtain ⟨x12, h12⟩ := hf 12 _ _ _ rfl
  obtain ⟨_, y12, r12, c12⟩ := (Opn.int (ou3 H)) _ _ _ _ _ _ _ _ h12
  obtain ⟨x13, h13⟩ := hf 13 _ _ _ rfl
  obtain ⟨_, y13, r13, c13⟩ := (Opn.string (ou9 H)) _ _ _ _ _ _ _ _ h13
  obtain ⟨x14, h14⟩ := hf 14 _ _ _ rfl
  obtain ⟨_, y14, r14, c14⟩ := (Opn.slice (ou44 H) (zv3 H) (by decide) (zt7 H)) _ _ _ _ _ _ _ _ h14
  exact ⟨hl, ⟨y0, y1, y2, y3, y4, y5, y6, y7, y8, y9, y10, y11, y12, y13, y14⟩, ⟨r0, r1, r2, r3, r4, r5, r6, r7, r8, r9, r10, r11, r12, r13, r14, trivial⟩, zg.tile c0 (zg.tile c1 (zg.tile c2 (zg.tile c3 (zg.tile c4 (zg.tile c5 (zg.tile c6 (zg.tile c7 (zg.tile c8 (zg.tile c9 (zg.tile c10 (zg.tile c11 (zg.tile c12 (zg.tile c13 (zg.tile c14 (zg.tile0 hl)))))))))))))))⟩
theorem zpg {P : Program} (H : P = Try.prog) : Opn P 48 21 zm ztb := by
  intro H' enc w sp held fuel cs x h
  obtain ⟨hl, m, hf⟩ := z3n (of48 H) h
  replace hl : cs.length = 21 := hl.trans (oc48 H)
  obtain ⟨x0, h0⟩ := hf 0 _ _ _ rfl
  obtain ⟨_, y0, r0, c0⟩ := (zpm H) _ _ _ _ _ _ _ _ h0
  obtain ⟨x1, h1⟩ := hf 1 _ _ _ rfl
  obtain ⟨_, y1, r1, c1⟩ := (zpm H) _ _ _ _ _ _ _ _ h1
  obtain ⟨x2, h2⟩ := hf 2 _ _ _ rfl
  obtain ⟨_, y2, r2, c2⟩ := (Opn.int (ou3 H)) _ _ _ _ _ _ _ _ h2
  obtain ⟨x3, h3⟩ := hf 3 _ _ _ rfl
  obtain ⟨_, y3, r3, c3⟩ := (zui H) _ _ _ _ _ _ _ _ h3
  exact ⟨hl, ⟨y0, y1, y2, y3⟩, ⟨r0, r1, r2, r3, trivial⟩, zg.tile c0 (zg.tile c1 (zg.tile c2 (zg.tile c3 (zg.tile0 hl))))⟩
end Px
end
section
namespace Px
open Go
set_option linter.unusedVariables false
set_option linter.unusedSimpArgs false
/-- A loop that counts up. -/
theorem zq0 {σ ρ : Type} (L : Nat → Int → σ → Option ρ) (len : Nat) (Inv : Nat → σ → Prop) (G : Option ρ → Prop)
    (step : ∀ n i s, i < len → Inv i s → (∀ s', Inv (i + 1) s' → G (L n ((i : Int) + 1) s')) → G (L (n + 1) i s))
    (done : ∀ n s, Inv len s → G (L (n + 1) len s)) : ∀ n i s, i ≤ len → Inv i s → len - i < n → G (L n i s) := by
  intro n
  induction n with
  | zero => intro i s _ _ h; omega
  | succ n ih =>
    intro i s hi hI hn
    by_cases h : i = len
    · subst h; exact done n s hI
    · refine step n i s (by omega) hI fun s' hs' => ?_
      have := ih (i + 1) s' (by omega) hs' (by omega)
      simpa using this
/-- The same from the start. -/
theorem z56 {σ ρ : Type} (L : Nat → Int → σ → Option ρ) (len : Nat) (Inv : Nat → σ → Prop) (G : Option ρ → Prop)
    (step : ∀ n i s, i < len → Inv i s → (∀ s', Inv (i + 1) s' → G (L n ((i : Int) + 1) s')) → G (L (n + 1) i s))
    (done : ∀ n s, Inv len s → G (L (n + 1) len s)) (n : Nat) (s : σ) (h : Inv 0 s) (hn : len < n) : G (L n 0 s) := by
  simpa using zq0 L len Inv G step done n 0 s (Nat.zero_le _) h (by omega)
theorem zy3 (x : Int) : W x = if x % 18446744073709551616 ≥ 9223372036854775808 then x % 18446744073709551616 - 18446744073709551616 else x % 18446744073709551616 := by
  simp [W, IntKind.wrap, IntKind.bits, IntKind.signed]
theorem zpf (x : Int) : U x = x % 18446744073709551616 := by
  simp [U, IntKind.wrap, IntKind.bits, IntKind.signed]
theorem W_id {x : Int} (h : -9223372036854775808 ≤ x) (h' : x ≤ 9223372036854775807) : W x = x := by
  rw [zy3]; split <;> omega
theorem U_id {x : Int} (h : 0 ≤ x) (h' : x ≤ 18446744073709551615) : U x = x := by
  rw [zpf]; omega
theorem zer {α : Type} [Inhabited α] (ok : α → Bool) (l : List α) (i : Nat) (h : i < l.length) : (l.take (i + 1)).all ok = ((l.take i).all ok && ok (gt l (i : Int))) := by
  rw [List.take_succ_eq_append_getElem h, List.all_append]
  simp [gt, h]
theorem z9z {α : Type} [Inhabited α] (ok : α → Bool) (l : List α) (i : Nat) (h : i < l.length) : (l.take (i + 1)).any ok = ((l.take i).any ok || ok (gt l (i : Int))) := by
  rw [List.take_succ_eq_append_getElem h, List.any_append]
  simp [gt, h]
theorem zay {α : Type} [Inhabited α] (l : List α) (i : Nat) (h : i < l.length) : l.take (i + 1) = l.take i ++ [gt l (i : Int)] := by
  rw [List.take_succ_eq_append_getElem h]
  simp [gt, h]
theorem z9h {α : Type} [Inhabited α] {l : List α} {i : Int} (h0 : 0 ≤ i) (h : i < (l.length : Int)) : gt l i ∈ l := by
  have hlt : i.toNat < l.length := by omega
  simp [gt, hlt]
theorem zcc {α : Type} [Inhabited α] {l : List α} {i : Nat} (h : i < l.length) : gt l (i : Int) = l[i] := by
  simp [gt, h]
theorem zmf {α : Type} [Inhabited α] (l : List α) (i : Nat) (h : i < l.length) : l.drop i = gt l (i : Int) :: l.drop (i + 1) := by
  rw [zcc h, List.getElem_cons_drop]
theorem zrr {α : Type} [Inhabited α] {l : List α} {x : α} (h : x ∈ l) : ∃ i : Nat, i < l.length ∧ gt l (i : Int) = x := by
  obtain ⟨i, hi, e⟩ := List.getElem_of_mem h
  exact ⟨i, hi, by rw [zcc hi, e]⟩
theorem zd5 {α : Type} (l : List α) (i : Int) (x : α) : (z2o l i x).length = l.length := by simp [z2o]
theorem zjy {α : Type} [Inhabited α] (l : List α) (i j : Int) (x : α) (hi : 0 ≤ i) (h : i < (l.length : Int)) (hj : 0 ≤ j) : gt (z2o l i x) j = if j = i then x else gt l j := by
  unfold gt z2o
  by_cases e : j = i
  · subst e
    have : j.toNat < l.length := by omega
    simp [List.getD, List.getElem?_set, this]
  · have : i.toNat ≠ j.toNat := by omega
    simp [List.getD, List.getElem?_set, this, e]
theorem zg7 {α : Type} [Inhabited α] (n : Nat) (x : α) (j : Int) (hj : 0 ≤ j) (h : j < n) : gt (List.replicate n x) j = x := by
  have : j.toNat < n := by omega
  simp [gt, List.getD, List.getElem?_replicate, this]
theorem z6l {α : Type} [Inhabited α] (l m : List α) (j : Int) (h0 : 0 ≤ j) (h : j < (l.length : Int)) : gt (l ++ m) j = gt l j := by
  have : j.toNat < l.length := by omega
  simp [gt, List.getD, List.getElem?_append, this]
theorem z55 {α : Type} [Inhabited α] (l m : List α) (j : Int) (h : (l.length : Int) ≤ j) : gt (l ++ m) j = gt m (j - l.length) := by
  have : ¬ j.toNat < l.length := by omega
  have e : (j - l.length).toNat = j.toNat - l.length := by omega
  simp [gt, List.getD, List.getElem?_append, this, e]
/-- A loop over a list that remembers whether all its elements were in order. -/
theorem zh2 {α ρ : Type} [Inhabited α] (L : Nat → Int → Int → Option ρ) (k : Int → Option ρ) (l : List α) (ok : α → Bool)
    (step : ∀ (n i : Nat) (s : Int), i < l.length → L (n + 1) i s = L n ((i : Int) + 1) (bif ok (gt l i) then s else 1)) (done : ∀ n s, L (n + 1) l.length s = k s) :
    ∀ n s, l.length < n → L n 0 s = k (bif l.all ok then s else 1) := by
  intro n s hn
  refine zq0 L l.length (fun i t => t = bif (l.take i).all ok then s else 1) (fun o => o = k (bif l.all ok then s else 1)) ?_ ?_ n 0 s (Nat.zero_le _) (by simp) (by omega)
  · intro n i t hi ht hs
    rw [step n i t hi]
    refine hs _ ?_
    rw [zer ok l i hi, ht]
    cases (l.take i).all ok <;> cases ok (gt l (i : Int)) <;> simp
  · intro n t ht
    rw [done, ht, List.take_length]
/-- A loop over a list that ends at the first element of a kind. -/
theorem zor {α ρ : Type} [Inhabited α] (L : Nat → Int → Option ρ) (k : Option ρ) (l : List α) (p : α → Bool) (g : α → Option ρ)
    (step : ∀ n i : Nat, i < l.length → L (n + 1) i = bif p (gt l i) then g (gt l i) else L n ((i : Int) + 1)) (done : ∀ n, L (n + 1) l.length = k) :
    ∀ n, l.length < n → L n 0 = match l.find? p with | some x => g x | none => k := by
  intro n hn
  refine z56 (fun n i (_ : Unit) => L n i) l.length (fun i _ => ∀ x ∈ l.take i, p x = false) (fun o => o = match l.find? p with | some x => g x | none => k) ?_ ?_ n () (by simp) hn
  · intro n i _ hi hI hs
    simp only [step n i hi]
    cases e : p (gt l (i : Int)) with
    | false =>
      refine hs () ?_
      rw [zay l i hi]
      intro x hx
      rcases List.mem_append.1 hx with h | h
      · exact hI x h
      · simp at h; rw [h]; exact e
    | true =>
      have : l.find? p = some (gt l (i : Int)) := by
        have h1 : l = l.take i ++ (gt l (i : Int) :: l.drop (i + 1)) := by
          rw [zcc hi, List.getElem_cons_drop, List.take_append_drop]
        generalize gt l (i : Int) = y at *
        rw [h1, List.find?_append, List.find?_eq_none.2 (fun x hx => by simp [hI x hx])]
        simp [List.find?_cons, e]
      rw [this]; rfl
  · intro n _ hI
    simp only [done]
    rw [List.take_length] at hI
    rw [List.find?_eq_none.2 (fun x hx => by simp [hI x hx])]
theorem zqw {α ρ : Type} (l : List α) (p : α → Bool) (r k : ρ) : (match l.find? p with | some _ => r | none => k) = bif l.any p then r else k := by
  induction l with
  | nil => rfl
  | cons x l ih =>
    rw [List.find?_cons, List.any_cons]
    cases p x
    · simpa using ih
    · rfl
theorem z99 {α ρ : Type} [Inhabited α] (L : Nat → Int → Option ρ) (k r : Option ρ) (l : List α) (p : α → Bool)
    (step : ∀ n i : Nat, i < l.length → L (n + 1) i = bif p (gt l i) then r else L n ((i : Int) + 1)) (done : ∀ n, L (n + 1) l.length = k)
    (n : Nat) (hn : l.length < n) : L n 0 = bif l.any p then r else k := by
  rw [zor L k l p (fun _ => r) step done n hn, zqw]
def bet (a b c : Int) : Bool := decide (b ≤ a) && decide (a ≤ c)
theorem zmr {a b c : Int} : bet a b c = true ↔ b ≤ a ∧ a ≤ c := by simp [bet]
theorem zo6 {a b c : Int} (h : bet a b c = true) : b ≤ a ∧ a ≤ c := zmr.1 h
theorem mk_t (n : Int) (b : Nat) (h0 : 0 ≤ n) (h : n ≤ 100000) (hb : b ≤ 1000000) : zm9 n b := by
  refine ⟨h0, ?_, by omega⟩
  have : (b : Int) * n ≤ 1000000 * 100000 := Int.mul_le_mul (by omega) h h0 (by omega)
  omega
theorem zcl {a b : Bool} : (a || b) = false ↔ a = false ∧ b = false := by cases a <;> cases b <;> simp
theorem zt9 {x y z : Int} : min2 x y < z ↔ x < z ∨ y < z := by unfold min2; split <;> omega
end Px
end
section
namespace Px
open Go
set_option linter.unusedVariables false
set_option linter.unusedSimpArgs false
structure Swo {α : Type} (lt : α → α → Bool) : Prop where
  asym : ∀ a b, lt a b = true → lt b a = false
  ntr : ∀ a b c, lt a b = false → lt b c = false → lt a c = false
def Srt {α : Type} (lt : α → α → Bool) (l : List α) : Prop := l.Pairwise fun a b => lt b a = false
def eqv2 {α : Type} (lt : α → α → Bool) (a b : α) : Bool := !lt a b && !lt b a
def Stb {α : Type} (lt : α → α → Bool) (l r : List α) : Prop := r.Perm l ∧ ∀ a, r.filter (eqv2 lt a) = l.filter (eqv2 lt a)
section
variable {α : Type} {lt : α → α → Bool}
theorem Swo.irr (h : Swo lt) (a : α) : lt a a = false := by
  cases e : lt a a with
  | false => rfl
  | true => exact (h.asym a a e).symm.trans e |>.symm
theorem zh4 {a b : α} : eqv2 lt a b = true ↔ lt a b = false ∧ lt b a = false := by simp [eqv2]
theorem Stb.refl (l : List α) : Stb lt l l := ⟨.refl _, fun _ => rfl⟩
theorem Stb.trans {a b c : List α} (h : Stb lt a b) (h' : Stb lt b c) : Stb lt a c := ⟨h'.1.trans h.1, fun x => (h'.2 x).trans (h.2 x)⟩
theorem Stb.app {a b c d : List α} (h : Stb lt a b) (h' : Stb lt c d) : Stb lt (a ++ c) (b ++ d) := ⟨h.1.append h'.1, fun x => by simp only [List.filter_append, h.2 x, h'.2 x]⟩
theorem Stb.mem {l r : List α} (h : Stb lt l r) {x : α} : x ∈ r ↔ x ∈ l := h.1.mem_iff
theorem Stb.len {l r : List α} (h : Stb lt l r) : r.length = l.length := h.1.length_eq
theorem zl0 (a : α) {X : List α} (h : ∀ x ∈ X, eqv2 lt a x = false) : X.filter (eqv2 lt a) = [] := by
  rw [List.filter_eq_nil_iff]; intro x hx; simp [h x hx]
theorem Stb.swap (hs : Swo lt) {X Y : List α} (h : ∀ x ∈ X, ∀ y ∈ Y, lt y x = true) : Stb lt (X ++ Y) (Y ++ X) := by
  refine ⟨List.perm_append_comm, fun a => ?_⟩
  simp only [List.filter_append]
  by_cases hx : ∃ x ∈ X, eqv2 lt a x = true
  · obtain ⟨x, hx, ex⟩ := hx
    have : Y.filter (eqv2 lt a) = [] := zl0 a fun y hy => by
      cases e : eqv2 lt a y with
      | false => rfl
      | true =>
        have h1 := zh4.1 e
        have h2 := zh4.1 ex
        have := hs.ntr y a x h1.2 h2.1
        rw [h x hx y hy] at this; cases this
    rw [this]; simp
  · have : X.filter (eqv2 lt a) = [] := zl0 a fun x hx' => by
      cases e : eqv2 lt a x with
      | false => rfl
      | true => exact absurd ⟨x, hx', e⟩ hx
    rw [this]; simp
theorem Srt.app {a b : List α} (h : Srt lt a) (h' : Srt lt b) (hc : ∀ x ∈ a, ∀ y ∈ b, lt y x = false) : Srt lt (a ++ b) := List.pairwise_append.2 ⟨h, h', hc⟩
theorem Srt.parts {a b : List α} (h : Srt lt (a ++ b)) : Srt lt a ∧ Srt lt b ∧ ∀ x ∈ a, ∀ y ∈ b, lt y x = false := List.pairwise_append.1 h
theorem Srt.unique (hs : Swo lt) : ∀ {r r' : List α}, Srt lt r → Srt lt r' → Stb lt r r' → r = r'
  | [], r', _, _, h => by
    have := h.len; simp at this; exact this.symm
  | x :: r, r', hr, hr', h => by
    cases r' with
    | nil => have := h.len; simp at this
    | cons y r' =>
      have hr1 := List.pairwise_cons.1 hr
      have hr2 := List.pairwise_cons.1 hr'
      have h1 : lt y x = false := by
        rcases List.mem_cons.1 (h.mem.1 (List.mem_cons_self (a := y))) with e | e
        · rw [e]; exact hs.irr _
        · exact hr1.1 y e
      have h2 : lt x y = false := by
        rcases List.mem_cons.1 (h.mem.2 (List.mem_cons_self (a := x))) with e | e
        · rw [e]; exact hs.irr _
        · exact hr2.1 x e
      have e1 : eqv2 lt x x = true := zh4.2 ⟨hs.irr _, hs.irr _⟩
      have e2 : eqv2 lt x y = true := zh4.2 ⟨h2, h1⟩
      have hf := h.2 x
      rw [List.filter_cons_of_pos e1, List.filter_cons_of_pos e2] at hf
      have hxy : y = x := (List.cons.inj hf).1
      subst hxy
      congr 1
      refine Srt.unique hs hr1.2 hr2.2 ⟨(List.perm_cons _).1 h.1, fun a => ?_⟩
      have := h.2 a
      simp only [List.filter_cons] at this
      split at this
      · exact (List.cons.inj this).2
      · exact this
/-- Merging by parts. -/
theorem z8e (hs : Swo lt) {A B C E R1 R2 : List α} (h1 : Srt lt (A ++ B)) (h2 : Srt lt (C ++ E)) (hA : ∀ x ∈ B, ∀ y ∈ C, lt y x = true) (hB : ∀ x ∈ A, ∀ y ∈ E, lt y x = false)
    (s1 : Srt lt R1) (t1 : Stb lt (A ++ C) R1) (s2 : Srt lt R2) (t2 : Stb lt (B ++ E) R2) : Srt lt (R1 ++ R2) ∧ Stb lt ((A ++ B) ++ (C ++ E)) (R1 ++ R2) := by
  refine ⟨s1.app s2 fun u hu v hv => ?_, ?_⟩
  · have hu := List.mem_append.1 (t1.mem.1 hu)
    have hv := List.mem_append.1 (t2.mem.1 hv)
    rcases hu with hu | hu <;> rcases hv with hv | hv
    · exact h1.parts.2.2 u hu v hv
    · exact hB u hu v hv
    · exact hs.asym _ _ (hA v hv u hu)
    · exact h2.parts.2.2 u hu v hv
  · have : Stb lt ((A ++ B) ++ (C ++ E)) ((A ++ C) ++ (B ++ E)) := by
      have := ((Stb.refl (lt := lt) A).app (Stb.swap hs hA)).app (Stb.refl E)
      simpa [List.append_assoc] using this
    exact this.trans (t1.app t2)
theorem z95 (hs : Swo lt) {y c x b : α} (h1 : lt c y = false) (h2 : lt c b = true) (h3 : lt x b = false) : lt y x = true := by
  cases e : lt y x with
  | true => rfl
  | false =>
    have := hs.ntr _ _ _ (hs.ntr _ _ _ h1 e) h3
    rw [h2] at this; cases this
theorem zej (hs : Swo lt) {y e x a : α} (h1 : lt y e = false) (h2 : lt e a = false) (h3 : lt a x = false) : lt y x = false := hs.ntr _ _ _ (hs.ntr _ _ _ h1 h2) h3
/-- Inserting after all that are not later. -/
theorem zdq (hs : Swo lt) {A B : List α} {x : α} (h : ∀ y ∈ B, lt x y = true) : Stb lt (A ++ B ++ [x]) (A ++ [x] ++ B) := by
  have := (Stb.refl (lt := lt) A).app (Stb.swap hs (X := B) (Y := [x]) fun z hz y hy => by simp at hy; subst hy; exact h z hz)
  simpa [List.append_assoc] using this
/-- A binary search. -/
theorem zcr {ρ : Type} (L : Nat → Int → Int → Option ρ) (k : Int → Option ρ) (pred : Nat → Bool) (R : Nat) (s0 : Nat)
    (step : ∀ n s r : Nat, s0 ≤ s → s < r → r ≤ R → L (n + 1) s r = if pred ((s + r) / 2) = true then L n (((s + r) / 2 + 1 : Nat)) r else L n s ((s + r) / 2 : Nat)) (done : ∀ n s : Nat, L (n + 1) s s = k s) :
    ∀ n s r : Nat, s0 ≤ s → s ≤ r → r ≤ R → r - s < n → ∃ c : Nat, s ≤ c ∧ c ≤ r ∧ (c = s ∨ pred (c - 1) = true) ∧ (c = r ∨ pred c = false) ∧ L n s r = k c := by
  intro n
  induction n with
  | zero => intro s r _ _ _ h; omega
  | succ n ih =>
    intro s r h0 h hR hn
    by_cases e : s = r
    · subst e; exact ⟨s, Nat.le_refl _, Nat.le_refl _, .inl rfl, .inl rfl, done n s⟩
    · rw [step n s r h0 (by omega) hR]
      cases hp : pred ((s + r) / 2) with
      | true =>
        rw [if_pos rfl]
        obtain ⟨c, h1, h2, h3, h4, h5⟩ := ih ((s + r) / 2 + 1) r (by omega) (by omega) hR (by omega)
        refine ⟨c, by omega, h2, ?_, h4, h5⟩
        rcases h3 with h3 | h3
        · right; rw [h3]; simpa using hp
        · exact .inr h3
      | false =>
        rw [if_neg (by simp)]
        obtain ⟨c, h1, h2, h3, h4, h5⟩ := ih s ((s + r) / 2) h0 (by omega) (by omega) (by omega)
        refine ⟨c, h1, by omega, h3, ?_, h5⟩
        rcases h4 with h4 | h4
        · right; rw [h4]; exact hp
        · exact .inr h4
end
section arr
variable {α : Type} [Inhabited α]
theorem z5u {A B : List α} {x : α} {i : Int} (h : i = A.length) : gt (A ++ x :: B) i = x := by
  subst h; rw [z55 _ _ _ (Int.le_refl _)]; simp [gt]
omit [Inhabited α] in
theorem z8l {A B : List α} {x y : α} {i : Int} (h : i = A.length) : z2o (A ++ x :: B) i y = A ++ y :: B := by
  subst h; simp [z2o]
theorem zen {n : Int} (h0 : 0 ≤ n) (h : n ≤ 4611686018427387904) : W ((U (W n)).fdiv 2) = n / 2 := by
  rw [W_id (x := n) (by omega) (by omega), U_id h0 (by omega), Int.fdiv_eq_ediv_of_nonneg _ (by omega), W_id (by omega) (by omega)]
end arr
/-- A comparing function answers on D, and says lt. -/
def Cmp {α : Type} (D : α → Prop) (y : α → α → Option Int) (lt : α → α → Bool) : Prop := ∀ a b, D a → D b → ∃ z, y a b = some z ∧ decide (z < 0) = lt a b
theorem zfr {α : Type} [Inhabited α] {p : Prop} [Decidable p] {x : Option α} (h : p) : z3d p x = x := if_pos h
theorem zlx {α : Type} [Inhabited α] {p : Prop} [Decidable p] {x : Option α} (h : ¬ p) : z3d p x = some default := if_neg h
theorem z4u {α : Type} (l : List α) : l = [] ∨ ∃ S w, l = S ++ [w] := by
  rcases List.eq_nil_or_concat l with h | ⟨S, w, h⟩
  · exact .inl h
  · exact .inr ⟨S, w, by rw [h, List.concat_eq_append]⟩
/-- Sorted blocks of bs elements, the last one perhaps shorter. -/
inductive Runs {α : Type} (lt : α → α → Bool) (bs : Nat) : List α → Prop
  | last {l : List α} (h : l.length ≤ bs) (hs : Srt lt l) : Runs lt bs l
  | cons {b r : List α} (h : b.length = bs) (hs : Srt lt b) (hr : Runs lt bs r) : Runs lt bs (b ++ r)
theorem Runs.small {α : Type} {lt : α → α → Bool} {bs : Nat} {l : List α} (h : Runs lt bs l) (hl : l.length ≤ bs) : Srt lt l := by
  cases h with
  | last _ hs => exact hs
  | cons h hs hr =>
    rename_i b r
    have : r = [] := List.eq_nil_of_length_eq_zero (by simp at hl; omega)
    rw [this, List.append_nil]; exact hs
theorem Runs.big {α : Type} {lt : α → α → Bool} {bs : Nat} {l : List α} (h : Runs lt bs l) (hl : bs < l.length) : ∃ b r, l = b ++ r ∧ b.length = bs ∧ Srt lt b ∧ Runs lt bs r ∧ r ≠ [] := by
  cases h with
  | last h _ => omega
  | cons h hs hr =>
    rename_i b r
    exact ⟨b, r, rfl, h, hs, hr, by intro e; subst e; simp at hl; omega⟩
end Px
end
section
namespace Px
open Go
set_option linter.unusedVariables false
set_option linter.unusedSimpArgs false
def cmpI (a b : Int) : Int := if a < b then -1 else if b < a then 1 else 0
def orI : List Int → Int
  | [] => 0
  | x :: l => if x = 0 then orI l else x
theorem zic {a b : Int} : cmpI a b < 0 ↔ a < b := by unfold cmpI; split <;> (try split) <;> omega
theorem zi9 {a b : Int} : cmpI a b = 0 ↔ a = b := by unfold cmpI; split <;> (try split) <;> omega
theorem zif {x : Int} {l : List Int} : orI (x :: l) < 0 ↔ x < 0 ∨ x = 0 ∧ orI l < 0 := by
  simp only [orI]; split <;> omega
theorem zfp : ¬ orI [] < 0 := by decide
theorem zak (φ : Nat) (a b : Int) : z6z φ a b = some (cmpI a b) := by
  simp only [z6z, zdf, bne_self_eq_false, Option.bind_some, Bool.false_eq_true, if_false, cmpI, decide_eq_true_eq]
  split
  · rfl
  · split <;> rfl
theorem zmk (φ : Nat) (l : List Int) (hl : l.length ≤ 1000000) : ∀ (n i : Nat), i ≤ l.length → l.length - i < n → zbc φ l (zbp φ) n (i : Int) = some (orI (l.drop i)) := by
  intro n
  induction n with
  | zero => intro i _ h; omega
  | succ n ih =>
    intro i hi hn
    rw [zbc]
    by_cases h : i = l.length
    · rw [if_neg (by simp; omega), h, List.drop_length]; rfl
    · rw [if_pos (by simp; omega), zj ⟨by omega, by omega⟩, zmf l i (by omega)]
      have w : W ((i : Int) + 1) = ((i + 1 : Nat) : Int) := by rw [W_id (by omega) (by omega)]; simp
      rw [w, ih (i + 1) (by omega) (by omega)]
      simp only [orI]
      by_cases q : gt l (i : Int) = 0
      · rw [if_neg (by simp [q]), if_pos q]
      · rw [if_pos (by simp [q]), if_neg q]
theorem zep (φ : Nat) (l : List Int) (hl : l.length ≤ 1000000) (hφ : l.length < φ) : zf2 φ l = some (orI l) := by
  have := zmk φ l hl φ 0 (Nat.zero_le _) (by omega)
  simpa [zf2] using this
def refC (a b : Ref) : Int := orI [cmpI a.fRailway b.fRailway, cmpI a.fNo b.fNo]
theorem zh7 (φ : Nat) (hφ : 3 < φ) (a b : Ref) : z43 φ a b = some (refC a b) := by
  simp only [z43, zak, Option.bind_some]
  rw [zep φ _ (by simp) (by simp; omega)]
  rfl
def matC (a b : z4) : Int := orI [cmpI a.fAt b.fAt, cmpI a.fWagon b.fWagon, refC a.fDeliver b.fDeliver]
theorem zm0 (φ : Nat) (hφ : 4 < φ) (a b : z4) : z54 φ a b = some (matC a b) := by
  simp only [z54, zak, zh7 φ (by omega : 3 < φ), Option.bind_some]
  rw [zep φ _ (by simp) (by simp; omega)]
  rfl
def zra (l : List zo) (i k : Int) : Int := orI [cmpI (gt l i).fItem.fFrom (gt l k).fItem.fFrom, refC (gt l i).fRef (gt l k).fRef]
theorem zm4 (φ : Nat) (hφ : 3 < φ) (l : List zo) (i k : Int) (h1 : 0 ≤ i ∧ i < (l.length : Int)) (h2 : 0 ≤ k ∧ k < (l.length : Int)) : z4v φ i k l = some (zra l i k) := by
  unfold z4v
  rw [zj h1, zj h2]
  simp only [zak, zh7 φ hφ, Option.bind_some]
  rw [zep φ _ (by simp) (by simp; omega)]
  rfl
def zil (a b : Ref) : Bool := decide (refC a b < 0)
def zkl (a b : z4) : Bool := decide (matC a b < 0)
def zih (l : List zo) (i k : Int) : Bool := decide (zra l i k < 0)
theorem zdh {a b : Ref} : refC a b < 0 ↔ a.fRailway < b.fRailway ∨ a.fRailway = b.fRailway ∧ a.fNo < b.fNo := by
  unfold refC; rw [zif, zif, zic, zi9, zic, zi9]; simp [zfp]
theorem zms {a b : z4} : matC a b < 0 ↔ a.fAt < b.fAt ∨ a.fAt = b.fAt ∧ (a.fWagon < b.fWagon ∨ a.fWagon = b.fWagon ∧ refC a.fDeliver b.fDeliver < 0) := by
  unfold matC; rw [zif, zif, zif, zic, zi9, zic, zi9]; simp [zfp]
theorem znh {l : List zo} {i k : Int} : zra l i k < 0 ↔ (gt l i).fItem.fFrom < (gt l k).fItem.fFrom ∨ (gt l i).fItem.fFrom = (gt l k).fItem.fFrom ∧ refC (gt l i).fRef (gt l k).fRef < 0 := by
  unfold zra; rw [zif, zif, zic, zi9]; simp [zfp]
theorem zfz : Swo zil := by
  constructor
  · intro a b h
    simp only [zil, decide_eq_true_eq, decide_eq_false_iff_not, zdh] at h ⊢; omega
  · intro a b c h h'
    simp only [zil, decide_eq_false_iff_not, zdh] at h h' ⊢; omega
theorem zm3 : Swo zkl := by
  constructor
  · intro a b h
    simp only [zkl, decide_eq_true_eq, decide_eq_false_iff_not, zms, zdh] at h ⊢; omega
  · intro a b c h h'
    simp only [zkl, decide_eq_false_iff_not, zms, zdh] at h h' ⊢; omega
theorem zh3 (l : List zo) : Swo (zih l) := by
  constructor
  · intro a b h
    simp only [zih, decide_eq_true_eq, decide_eq_false_iff_not, znh, zdh] at h ⊢; omega
  · intro a b c h h'
    simp only [zih, decide_eq_false_iff_not, znh, zdh] at h h' ⊢; omega
theorem zt3 (φ : Nat) (hφ : 3 < φ) : Cmp (fun _ => True) (fun a b => z43 φ a b) zil := fun a b _ _ => ⟨_, zh7 φ hφ a b, rfl⟩
theorem ztn (φ : Nat) (hφ : 4 < φ) : Cmp (fun _ => True) (fun a b => z54 φ a b) zkl := fun a b _ _ => ⟨_, zm0 φ hφ a b, rfl⟩
theorem zqv (φ : Nat) (hφ : 3 < φ) (l : List zo) : Cmp (fun i => 0 ≤ i ∧ i < (l.length : Int)) (fun a b => z4v φ a b l) (zih l) := fun a b h1 h2 => ⟨_, zm4 φ hφ l a b h1 h2, rfl⟩
end Px
end
section
namespace Px
open Go
set_option linter.unusedVariables false
set_option linter.unusedSimpArgs false
theorem Pool.eta' (p : Pool) : Pool.mk p.fNetwork p.fFleet p.fReaders p.fShippers p.fRailways = p := rfl
theorem Item.eta' (x : Item) : Item.mk x.fKind x.fRef x.fWagon x.fPlace x.fOther x.fNumber x.fFrom x.fTo x.fCode x.fDest x.fClass x.fWeight x.fAmount x.fText x.fParts = x := rfl
theorem zo.eta' (x : zo) : zo.mk x.fRef x.fBy x.fTime x.fItem = x := rfl
theorem zb7 {n b : Nat} (h : n ≤ 1000000) (hb : b ≤ 1000000) : fits n b := by
  have : n * b ≤ 1000000 * 1000000 := Nat.mul_le_mul h hb
  unfold fits
  first | omega | (constructor <;> omega)
def idxF {α : Type} [Inhabited α] (p : α → Bool) (l : List α) : List Int := ((List.range l.length).filter fun (i : Nat) => p (gt l (i : Int))).map fun (i : Nat) => (i : Int)
theorem zal {α : Type} [Inhabited α] {p : α → Bool} {l : List α} {i : Int} : i ∈ idxF p l ↔ 0 ≤ i ∧ i < (l.length : Int) ∧ p (gt l i) = true := by
  simp only [idxF, List.mem_map, List.mem_filter, List.mem_range]
  constructor
  · rintro ⟨a, ⟨h1, h2⟩, rfl⟩
    exact ⟨by omega, by omega, h2⟩
  · rintro ⟨h1, h2, h3⟩
    refine ⟨i.toNat, ⟨by omega, ?_⟩, by omega⟩
    rw [Int.toNat_of_nonneg h1]; exact h3
theorem zco {α : Type} [Inhabited α] (p : α → Bool) (l : List α) : (idxF p l).length ≤ l.length := by
  simp only [idxF, List.length_map]
  exact Nat.le_trans (List.length_filter_le _ _) (by simp)
theorem zg5 {α : Type} [Inhabited α] (p : α → Bool) (l : List α) : (idxF p l).Nodup := by
  unfold idxF
  refine List.Pairwise.map _ (fun a b h => ?_) ((List.nodup_range (n := l.length)).filter _)
  intro e; exact h (by omega)
theorem of_eq (φ : Nat) (p : Pool) (l : List zo) (kind : Int) (ok : Item → Bool) (hl : l.length ≤ 100000) (hφ : l.length < φ)
    (hok : ∀ r ∈ l, r.fItem.fKind = kind → ∃ e, z8x φ p r.fItem = some e ∧ (e == 0) = ok r.fItem) :
    z8t φ p l kind = some (idxF (fun r => r.fItem.fKind == kind && ok r.fItem) l) := by
  unfold z8t
  refine z56 (z3y φ p l kind (z5x φ)) l.length (fun i s => s = ((List.range i).filter fun (j : Nat) => (gt l (j : Int)).fItem.fKind == kind && ok (gt l (j : Int)).fItem).map fun (j : Nat) => (j : Int))
    (fun o => o = some (idxF (fun r => r.fItem.fKind == kind && ok r.fItem) l)) ?_ ?_ φ [] rfl hφ
  · intro n i s hi hs hk
    have hsl : s.length ≤ i := by rw [hs, List.length_map]; exact Nat.le_trans (List.length_filter_le _ _) (by simp)
    have hnext : ((List.range (i + 1)).filter fun (j : Nat) => (gt l (j : Int)).fItem.fKind == kind && ok (gt l (j : Int)).fItem).map (fun (j : Nat) => (j : Int)) = if ((gt l (i : Int)).fItem.fKind == kind && ok (gt l (i : Int)).fItem) = true then s ++ [(i : Int)] else s := by
      rw [List.range_succ, List.filter_append, List.map_append, ← hs]
      cases h : ((gt l (i : Int)).fItem.fKind == kind && ok (gt l (i : Int)).fItem) <;> simp [h]
    rw [z3y, if_pos (by simp; omega), zj ⟨by omega, by omega⟩]
    have w : W ((i : Int) + 1) = (i : Int) + 1 := W_id (by omega) (by omega)
    simp only [Pool.eta', Item.eta', z7z, w]
    by_cases q : (gt l (i : Int)).fItem.fKind = kind
    · obtain ⟨e, h1, h2⟩ := hok (gt l (i : Int)) (z9h (by omega) (by omega)) q
      rw [zfr (by simp [q]), h1]
      simp only [Option.bind_some]
      rw [show (e == 0) = ok (gt l (i : Int)).fItem from h2]
      split
      · rename_i h
        rw [zj (zb7 (by simp; omega) (by omega))]
        exact hk _ (by rw [hnext, if_pos h])
      · rename_i h
        exact hk _ (by rw [hnext, if_neg h])
    · rw [zlx (by simp [q])]
      simp only [Option.bind_some]
      have hq : ((gt l (i : Int)).fItem.fKind == kind) = false := by simp [q]
      rw [hq, Bool.false_and, if_neg (by simp)]
      exact hk _ (by rw [hnext, hq]; simp)
  · intro n s hs
    rw [z3y, if_neg (by simp), hs]
    rfl
end Px
end
section
namespace Px
open Go
set_option linter.unusedVariables false
set_option linter.unusedSimpArgs false
def gapW (a b : zo) : Int := max2 (W (a.fItem.fFrom - b.fItem.fFrom)) (W (b.fItem.fFrom - a.fItem.fFrom))
theorem zuy (φ : Nat) (a b : zo) : z9s φ a b = some (gapW a b) := rfl
def unf5 (l : List zo) (used : List (Int × Bool)) (i k : Int) : Bool :=
  (((((mget used k).getD false) || ((gt l k).fRef.fRailway != (gt l i).fItem.fOther)) || ((gt l k).fItem.fOther != (gt l i).fRef.fRailway)) || ((gt l k).fItem.fWagon != (gt l i).fItem.fWagon)) || ((gt l k).fItem.fPlace != (gt l i).fItem.fPlace)
def zhl (l : List zo) (used : List (Int × Bool)) (i k : Int) : Bool := unf5 l used i k || decide (60 < gapW (gt l i) (gt l k))
def betC (l : List zo) (i b k : Int) : Int := orI [cmpI (gapW (gt l i) (gt l b)) (gapW (gt l i) (gt l k)), refC (gt l b).fRef (gt l k).fRef]
def zdj (l : List zo) (used : List (Int × Bool)) (i b k : Int) : Int :=
  if zhl l used i k = true then b else if (decide (0 ≤ b) && decide (betC l i b k ≤ 0)) = true then b else k
def zc9 (l : List zo) (used : List (Int × Bool)) (i : Int) (rs : List Int) : Int := rs.foldl (zdj l used i) (-1)
theorem zpy (φ : Nat) (hφ : 4 < φ) (l : List zo) (rs ds : List Int) (d : Int) (used : List (Int × Bool)) (k : Int → Option (List (Nat → Int))) (hl : rs.length ≤ 100000) (hr : ∀ z ∈ rs, 0 ≤ z ∧ z < (l.length : Int)) (hφ2 : rs.length < φ) :
    z1c φ l rs ds d used k φ (-1) 0 = k (zc9 l used (gt ds d) rs) := by
  refine z56 (fun n j s => z1c φ l rs ds d used k n s j) rs.length (fun j s => s = (rs.take j).foldl (zdj l used (gt ds d)) (-1) ∧ (0 ≤ s → s < (l.length : Int)))
    (fun o => o = k (zc9 l used (gt ds d) rs)) ?_ ?_ φ (-1) ⟨by simp, by omega⟩ hφ2
  · intro n j s hj ⟨hs, hin⟩ hk
    have hz := hr _ (z9h (l := rs) (i := (j : Int)) (by omega) (by omega))
    have hnext : (rs.take (j + 1)).foldl (zdj l used (gt ds d)) (-1) = zdj l used (gt ds d) s (gt rs (j : Int)) := by
      rw [zay rs j hj, List.foldl_append, ← hs]; rfl
    have w : W ((j : Int) + 1) = (j : Int) + 1 := W_id (by omega) (by omega)
    rw [z1c, if_pos (by simp; omega), zj ⟨by omega, by omega⟩, zj hz]
    simp only [Item.eta', zo.eta', zuy, z5c, w]
    have hu5 : (((((mget used (gt rs (j : Int))).getD false) || ((gt l (gt rs (j : Int))).fRef.fRailway != (gt l (gt ds d)).fItem.fOther)) || ((gt l (gt rs (j : Int))).fItem.fOther != (gt l (gt ds d)).fRef.fRailway)) || ((gt l (gt rs (j : Int))).fItem.fWagon != (gt l (gt ds d)).fItem.fWagon) || ((gt l (gt rs (j : Int))).fItem.fPlace != (gt l (gt ds d)).fItem.fPlace)) = unf5 l used (gt ds d) (gt rs (j : Int)) := rfl
    rw [hu5]
    have hun : zhl l used (gt ds d) (gt rs (j : Int)) = (unf5 l used (gt ds d) (gt rs (j : Int)) || decide (60 < gapW (gt l (gt ds d)) (gt l (gt rs (j : Int))))) := rfl
    have htail : ∀ (b : Bool), b = zhl l used (gt ds d) (gt rs (j : Int)) →
        (if b = true then z1c φ l rs ds d used k n s ((j : Int) + 1) else
          ck ((decide (0 ≤ s) = true) → ((0 : Int) ≤ s ∧ s < (l.length : Int))) ((z3d (decide (0 ≤ s) = true) (some (gapW (gt l (gt ds d)) (gt l s)))).bind fun y103 => ((z3d (decide (0 ≤ s) = true) (some (gapW (gt l (gt ds d)) (gt l (gt rs (j : Int)))))).bind fun y107 => ((z3d (decide (0 ≤ s) = true) (z6z φ y103 y107)).bind fun y109 => ((z3d (decide (0 ≤ s) = true) (z43 φ ((gt l s).fRef) ((gt l (gt rs (j : Int))).fRef))).bind fun y118 => ((z3d (decide (0 ≤ s) = true) (zf2 φ [y109, y118])).bind fun y125 =>
            (if (decide (0 ≤ s) && decide (y125 ≤ 0)) = true then z1c φ l rs ds d used k n s ((j : Int) + 1) else z1c φ l rs ds d used k n (gt rs (j : Int)) ((j : Int) + 1)))))))) = k (zc9 l used (gt ds d) rs) := by
      intro b hb
      cases b with
      | true =>
        rw [if_pos rfl]
        have e : zdj l used (gt ds d) s (gt rs (j : Int)) = s := by unfold zdj; rw [if_pos hb.symm]
        exact hk s ⟨by rw [hnext, e], hin⟩
      | false =>
        rw [if_neg (by simp)]
        by_cases q : 0 ≤ s
        · rw [zj (fun _ => ⟨q, hin q⟩)]
          simp only [zfr (show decide (0 ≤ s) = true by simp [q]), Option.bind_some, zak, zh7 φ (by omega : 3 < φ)]
          rw [zep φ _ (by simp) (by simp; omega)]
          simp only [Option.bind_some]
          have hb2 : orI [cmpI (gapW (gt l (gt ds d)) (gt l s)) (gapW (gt l (gt ds d)) (gt l (gt rs (j : Int)))), refC (gt l s).fRef (gt l (gt rs (j : Int))).fRef] = betC l (gt ds d) s (gt rs (j : Int)) := rfl
          rw [hb2]
          split
          · rename_i h
            have e : zdj l used (gt ds d) s (gt rs (j : Int)) = s := by unfold zdj; rw [← hb, if_neg (by simp), if_pos h]
            exact hk s ⟨by rw [hnext, e], hin⟩
          · rename_i h
            have e : zdj l used (gt ds d) s (gt rs (j : Int)) = gt rs (j : Int) := by unfold zdj; rw [← hb, if_neg (by simp), if_neg h]
            exact hk _ ⟨by rw [hnext, e], fun _ => hz.2⟩
        · rw [zj (fun h => absurd (by simpa using h) q)]
          simp only [zlx (show ¬ decide (0 ≤ s) = true by simpa using q), Option.bind_some]
          have h : ¬ (decide (0 ≤ s) && decide (betC l (gt ds d) s (gt rs (j : Int)) ≤ 0)) = true := by simp [q]
          have e : zdj l used (gt ds d) s (gt rs (j : Int)) = gt rs (j : Int) := by unfold zdj; rw [← hb, if_neg (by simp), if_neg h]
          rw [if_neg (by simp [q])]
          exact hk _ ⟨by rw [hnext, e], fun _ => hz.2⟩
    cases h5 : unf5 l used (gt ds d) (gt rs (j : Int)) with
    | true =>
      rw [zlx (by simp)]
      simp only [Option.bind_some, Bool.true_or]
      exact htail true (by rw [hun, h5]; rfl)
    | false =>
      rw [zfr rfl]
      simp only [Option.bind_some, Bool.false_or]
      exact htail _ (by rw [hun, h5]; rfl)
  · intro n s ⟨hs, _⟩
    rw [List.take_length] at hs
    rw [z1c, if_neg (by simp), hs]
    rfl
end Px
end
section
namespace Px
open Go
set_option linter.unusedVariables false
set_option linter.unusedSimpArgs false
set_option maxHeartbeats 1000000
section
theorem zo3 (φ : Nat) (P Z Q : List Int) (c : Nat) : ∀ (n : Nat) (X1 X2 Y1 Y2 : List Int), X1.length = Y1.length → X2.length = Y2.length → c = X1.length + X2.length → P.length + c + Z.length + c + Q.length ≤ 1000000 → X2.length < n →
    z1i φ (P.length : Int) ((P.length : Int) + c + Z.length) (c : Int) n (X1.length : Int) (P ++ Y1 ++ X2 ++ Z ++ X1 ++ Y2 ++ Q) = some (P ++ Y1 ++ Y2 ++ Z ++ X1 ++ X2 ++ Q) := by
  intro n
  induction n with
  | zero => intro X1 X2 Y1 Y2 _ _ _ _ h; omega
  | succ n ih =>
    intro X1 X2 Y1 Y2 h1 h2 hc hl hn
    cases X2 with
    | nil =>
      have : Y2 = [] := List.eq_nil_of_length_eq_zero (by simpa using h2.symm)
      subst this
      simp only [List.length_nil, Nat.add_zero] at hc
      rw [z1i, if_neg (by simp; omega)]
    | cons x X2 =>
      cases Y2 with
      | nil => simp at h2
      | cons w Y2 =>
        simp only [List.length_cons, Nat.add_right_cancel_iff] at h2 hc hn
        have w1 : W ((P.length : Int) + c + Z.length + X1.length) = (P.length : Int) + c + Z.length + X1.length := W_id (by omega) (by omega)
        have w2 : W ((P.length : Int) + X1.length) = (P.length : Int) + X1.length := W_id (by omega) (by omega)
        have w3 : W ((X1.length : Int) + 1) = (X1.length : Int) + 1 := W_id (by omega) (by omega)
        have e1 : P ++ Y1 ++ x :: X2 ++ Z ++ X1 ++ w :: Y2 ++ Q = (P ++ Y1) ++ x :: (X2 ++ Z ++ X1 ++ w :: Y2 ++ Q) := by simp
        have e2 : P ++ Y1 ++ x :: X2 ++ Z ++ X1 ++ w :: Y2 ++ Q = (P ++ Y1 ++ x :: X2 ++ Z ++ X1) ++ w :: (Y2 ++ Q) := by simp
        have g1 : gt (P ++ Y1 ++ x :: X2 ++ Z ++ X1 ++ w :: Y2 ++ Q) ((P.length : Int) + X1.length) = x := by rw [e1]; exact z5u (by simp; omega)
        have g2 : gt (P ++ Y1 ++ x :: X2 ++ Z ++ X1 ++ w :: Y2 ++ Q) ((P.length : Int) + c + Z.length + X1.length) = w := by rw [e2]; exact z5u (by simp; omega)
        have s1 : z2o (P ++ Y1 ++ x :: X2 ++ Z ++ X1 ++ w :: Y2 ++ Q) ((P.length : Int) + X1.length) w = (P ++ Y1) ++ w :: (X2 ++ Z ++ X1 ++ w :: Y2 ++ Q) := by rw [e1]; exact z8l (by simp; omega)
        have e3 : (P ++ Y1) ++ w :: (X2 ++ Z ++ X1 ++ w :: Y2 ++ Q) = (P ++ Y1 ++ w :: X2 ++ Z ++ X1) ++ w :: (Y2 ++ Q) := by simp
        have s2 : z2o ((P ++ Y1 ++ w :: X2 ++ Z ++ X1) ++ w :: (Y2 ++ Q)) ((P.length : Int) + c + Z.length + X1.length) x = (P ++ Y1 ++ w :: X2 ++ Z ++ X1) ++ x :: (Y2 ++ Q) := z8l (by simp; omega)
        have e4 : (P ++ Y1 ++ w :: X2 ++ Z ++ X1) ++ x :: (Y2 ++ Q) = P ++ (Y1 ++ [w]) ++ X2 ++ Z ++ (X1 ++ [x]) ++ Y2 ++ Q := by simp
        have hlen : ((P ++ Y1 ++ x :: X2 ++ Z ++ X1 ++ w :: Y2 ++ Q).length : Int) = P.length + c + Z.length + c + Q.length := by simp; omega
        have hlen2 : (((P ++ Y1 ++ w :: X2 ++ Z ++ X1) ++ w :: (Y2 ++ Q)).length : Int) = P.length + c + Z.length + c + Q.length := by simp; omega
        rw [z1i, if_pos (by simp; omega), w1, w2, w3, g1, g2, s1, e3, s2, e4, hlen, hlen2]
        rw [zj ⟨by omega, by omega⟩, zj ⟨by omega, by omega⟩, zj ⟨by omega, by omega⟩]
        have := ih (X1 ++ [x]) X2 (Y1 ++ [w]) Y2 (by simp [h1]) h2 (by simp; omega) hl (by omega)
        have e5 : (((X1 ++ [x]).length : Nat) : Int) = (X1.length : Int) + 1 := by simp
        rw [e5] at this
        rw [this]
        simp
theorem zhm (φ : Nat) (P X Z Y Q : List Int) (y : Int → Int → Option Int) (h : X.length = Y.length) (hl : P.length + X.length + Z.length + X.length + Q.length ≤ 1000000) (hφ : X.length < φ) :
    z2r φ (P ++ X ++ Z ++ Y ++ Q) (P.length : Int) ((P.length : Int) + X.length + Z.length) (X.length : Int) y = some (P ++ Y ++ Z ++ X ++ Q) := by
  have := zo3 φ P Z Q X.length φ [] X [] Y rfl h (by simp) hl hφ
  simpa [z2r] using this
theorem zoq (φ : Nat) (y : Int → Int → Option Int) : ∀ (n : Nat) (P X Y Q : List Int), X ≠ [] → Y ≠ [] → P.length + X.length + Y.length + Q.length ≤ 1000000 → X.length + Y.length ≤ n → X.length + Y.length < φ →
    z1t φ ((P.length : Int) + X.length) y (z1z φ ((P.length : Int) + X.length) y) n (X.length : Int) (Y.length : Int) (P ++ X ++ Y ++ Q) = some (P ++ Y ++ X ++ Q) := by
  intro n
  induction n with
  | zero => intro P X Y Q hX hY _ h; have := List.length_pos_iff.2 hX; omega
  | succ n ih =>
    intro P X Y Q hX hY hl hn hφ
    have hX0 := List.length_pos_iff.2 hX
    have hY0 := List.length_pos_iff.2 hY
    have w1 : W ((P.length : Int) + X.length - X.length) = (P.length : Int) := by rw [W_id (by omega) (by omega)]; omega
    rw [z1t, w1]
    by_cases he : X.length = Y.length
    · rw [if_neg (by simp [he])]
      unfold z1z
      rw [w1]
      have := zhm φ P X [] Y Q y he (by simp; omega) (by omega)
      simp only [List.append_nil, List.length_nil, Int.ofNat_zero, Int.add_zero] at this
      rw [this]; rfl
    · rw [if_pos (by simp; omega)]
      by_cases hlt : Y.length < X.length
      · rw [if_pos (by simp; omega)]
        obtain ⟨X1, X2, rfl, h1⟩ : ∃ X1 X2, X = X1 ++ X2 ∧ X1.length = Y.length := ⟨X.take Y.length, X.drop Y.length, (List.take_append_drop _ _).symm, by simp; omega⟩
        simp only [List.length_append] at hl hn hφ hlt hX0 he
        have e1 : P ++ (X1 ++ X2) ++ Y ++ Q = P ++ X1 ++ X2 ++ Y ++ Q := by simp
        have e2 : (P.length : Int) + ((X1 ++ X2).length : Nat) = (P.length : Int) + X1.length + X2.length := by simp; omega
        rw [e1, e2, ← h1, zhm φ P X1 X2 Y Q y h1 (by omega) (by omega)]
        simp only [Option.bind_some]
        have w2 : W (((X1 ++ X2).length : Int) - X1.length) = (X2.length : Int) := by simp; rw [W_id (by omega) (by omega)]; omega
        rw [w2]
        have := ih (P ++ Y) X2 X1 Q (by intro e; subst e; simp at hlt; omega) (by intro e; subst e; simp at h1; omega) (by simp; omega) (by omega) (by omega)
        have e3 : (((P ++ Y).length : Nat) : Int) + X2.length = (P.length : Int) + X1.length + X2.length := by simp; omega
        rw [e3] at this
        rw [this]
        simp
      · rw [if_neg (by simp; omega)]
        obtain ⟨Y1, Y2, rfl, h1⟩ : ∃ Y1 Y2, Y = Y1 ++ Y2 ∧ Y2.length = X.length := ⟨Y.take (Y.length - X.length), Y.drop (Y.length - X.length), (List.take_append_drop _ _).symm, by simp; omega⟩
        simp only [List.length_append] at hl hn hφ hlt hY0 he
        have e1 : P ++ X ++ (Y1 ++ Y2) ++ Q = P ++ X ++ Y1 ++ Y2 ++ Q := by simp
        have w3 : W ((P.length : Int) + X.length + ((Y1 ++ Y2).length : Nat)) = (P.length : Int) + X.length + Y1.length + Y2.length := by simp; rw [W_id (by omega) (by omega)]; omega
        have w4 : W ((P.length : Int) + X.length + Y1.length + Y2.length - X.length) = (P.length : Int) + X.length + Y1.length := by rw [W_id (by omega) (by omega)]; omega
        have w5 : W (((Y1 ++ Y2).length : Int) - X.length) = (Y1.length : Int) := by simp; rw [W_id (by omega) (by omega)]; omega
        rw [e1, w3, w4, w5, zhm φ P X Y1 Y2 Q y h1.symm (by omega) (by omega)]
        simp only [Option.bind_some]
        have := ih P Y2 Y1 (X ++ Q) (by intro e; subst e; simp at h1; omega) (by intro e; subst e; simp at h1 hlt he; omega) (by simp; omega) (by omega) (by omega)
        rw [h1] at this
        have e2 : P ++ Y2 ++ Y1 ++ X ++ Q = P ++ Y2 ++ Y1 ++ (X ++ Q) := by simp
        rw [e2, this]
        simp
theorem zmu (φ : Nat) (P X Y Q : List Int) (y : Int → Int → Option Int) (hX : X ≠ []) (hY : Y ≠ []) (hl : P.length + X.length + Y.length + Q.length ≤ 1000000) (hφ : X.length + Y.length < φ) :
    z4p φ (P ++ X ++ Y ++ Q) (P.length : Int) ((P.length : Int) + X.length) ((P.length : Int) + X.length + Y.length) y = some (P ++ Y ++ X ++ Q) := by
  have := zoq φ y φ P X Y Q hX hY hl (by omega) hφ
  rw [← this]
  unfold z4p
  have w1 : W ((P.length : Int) + X.length - P.length) = (X.length : Int) := by rw [W_id (by omega) (by omega)]; omega
  have w2 : W ((P.length : Int) + X.length + Y.length - ((P.length : Int) + X.length)) = (Y.length : Int) := by rw [W_id (by omega) (by omega)]; omega
  rw [w1, w2]
end
end Px
end
section
namespace Px
open Go
set_option linter.unusedVariables false
set_option linter.unusedSimpArgs false
set_option maxHeartbeats 2000000
section
variable {D : Int → Prop} {lt : Int → Int → Bool} {y : Int → Int → Option Int}
theorem zlo (φ : Nat) (k : List Int → Option (List Int)) (x : Int) : ∀ (n : Nat) (P C E : List Int), P.length + C.length + E.length ≤ 999999 → C.length < n →
    z24 φ ((P.length : Int) + C.length + 1) k n (P.length : Int) (P ++ x :: (C ++ E)) = k (P ++ C ++ x :: E) := by
  intro n
  induction n with
  | zero => intro P C E _ h; omega
  | succ n ih =>
    intro P C E hl hn
    have w0 : W ((P.length : Int) + C.length + 1 - 1) = (P.length : Int) + C.length := by rw [W_id (by omega) (by omega)]; omega
    rw [z24, w0]
    cases C with
    | nil => rw [if_neg (by simp)]; simp
    | cons w C =>
      simp only [List.length_cons] at hl hn
      have w1 : W ((P.length : Int) + 1) = (P.length : Int) + 1 := W_id (by omega) (by omega)
      have e1 : P ++ x :: (w :: C ++ E) = (P ++ [x]) ++ w :: (C ++ E) := by simp
      have g1 : gt (P ++ x :: (w :: C ++ E)) (P.length : Int) = x := z5u rfl
      have g2 : gt (P ++ x :: (w :: C ++ E)) ((P.length : Int) + 1) = w := by rw [e1]; exact z5u (by simp)
      have s1 : z2o (P ++ x :: (w :: C ++ E)) (P.length : Int) w = P ++ w :: (w :: C ++ E) := z8l rfl
      have e2 : P ++ w :: (w :: C ++ E) = (P ++ [w]) ++ w :: (C ++ E) := by simp
      have s2 : z2o ((P ++ [w]) ++ w :: (C ++ E)) ((P.length : Int) + 1) x = (P ++ [w]) ++ x :: (C ++ E) := z8l (by simp)
      have hlen : ((P ++ x :: (w :: C ++ E)).length : Int) = P.length + C.length + E.length + 2 := by simp; omega
      have hlen2 : (((P ++ [w]) ++ w :: (C ++ E)).length : Int) = P.length + C.length + E.length + 2 := by simp; omega
      rw [if_pos (by simp; omega), w1, g1, g2, s1, e2, s2, hlen, hlen2, zj ⟨by omega, by omega⟩, zj ⟨by omega, by omega⟩, zj ⟨by omega, by omega⟩]
      have := ih (P ++ [w]) C E (by simp; omega) (by omega)
      have e3 : (((P ++ [w]).length : Nat) : Int) = (P.length : Int) + 1 := by simp
      have e4 : (P.length : Int) + ((w :: C).length : Nat) + 1 = (P.length : Int) + 1 + C.length + 1 := by simp; omega
      rw [e3] at this
      rw [e4, this]
      simp
theorem zj6 (φ : Nat) (k : List Int → Option (List Int)) (x : Int) (P : List Int) : ∀ (n : Nat) (C E : List Int), P.length + C.length + E.length ≤ 999999 → C.length < n →
    z25 φ (P.length : Int) k n ((P.length : Int) + C.length) (P ++ C ++ x :: E) = k (P ++ x :: (C ++ E)) := by
  intro n
  induction n with
  | zero => intro C E _ h; omega
  | succ n ih =>
    intro C E hl hn
    rw [z25]
    rcases z4u C with rfl | ⟨S, z, rfl⟩
    · rw [if_neg (by simp)]; simp
    · simp only [List.length_append, List.length_cons, List.length_nil] at hl hn
      have w1 : W ((P.length : Int) + ((S ++ [z]).length : Nat) - 1) = (P.length : Int) + S.length := by
        rw [W_id (by simp; omega) (by simp; omega)]; simp; omega
      have e1 : P ++ (S ++ [z]) ++ x :: E = (P ++ S ++ [z]) ++ x :: E := by simp
      have e2 : P ++ (S ++ [z]) ++ x :: E = (P ++ S) ++ z :: (x :: E) := by simp
      have g1 : gt (P ++ (S ++ [z]) ++ x :: E) ((P.length : Int) + ((S ++ [z]).length : Nat)) = x := by rw [e1]; exact z5u (by simp <;> omega)
      have g2 : gt (P ++ (S ++ [z]) ++ x :: E) ((P.length : Int) + S.length) = z := by rw [e2]; exact z5u (by simp)
      have s1 : z2o (P ++ (S ++ [z]) ++ x :: E) ((P.length : Int) + ((S ++ [z]).length : Nat)) z = (P ++ S) ++ z :: (z :: E) := by rw [e1, z8l (by simp <;> omega)]; simp
      have s2 : z2o ((P ++ S) ++ z :: (z :: E)) ((P.length : Int) + S.length) x = P ++ S ++ x :: (z :: E) := z8l (by simp)
      have hlen : ((P ++ (S ++ [z]) ++ x :: E).length : Int) = P.length + S.length + E.length + 2 := by simp; omega
      have hlen2 : (((P ++ S) ++ z :: (z :: E)).length : Int) = P.length + S.length + E.length + 2 := by simp; omega
      rw [if_pos (by simp; omega), w1, g1, g2, s1, s2, hlen, hlen2, zj ⟨by omega, by omega⟩, zj ⟨by omega, by simp; omega⟩, zj ⟨by omega, by omega⟩]
      rw [ih S (z :: E) (by simp; omega) (by omega)]
      simp
/-- One element before a sorted list. -/
theorem zie (hs : Swo lt) (hy : Cmp D y lt) (φ : Nat) (P L Q : List Int) (x : Int) (hx : D x) (hD : ∀ z ∈ L, D z) (hS : Srt lt L) (hl : P.length + L.length + Q.length ≤ 999998) (hφ : P.length + L.length + 2 < φ) :
    ∃ R, Srt lt R ∧ Stb lt (x :: L) R ∧ z0d φ (P ++ x :: (L ++ Q)) (P.length : Int) y (z0c φ (P ++ x :: (L ++ Q)) (P.length : Int)) φ ((P.length : Int) + 1) ((P.length : Int) + 1 + L.length) = some (P ++ R ++ Q) := by
  have gx : gt (P ++ x :: (L ++ Q)) (P.length : Int) = x := z5u rfl
  have hlen : ((P ++ x :: (L ++ Q)).length : Int) = P.length + L.length + Q.length + 1 := by simp; omega
  have gL : ∀ i : Nat, P.length + 1 ≤ i → i < P.length + 1 + L.length → gt (P ++ x :: (L ++ Q)) (i : Int) = gt L ((i - (P.length + 1) : Nat) : Int) := by
    intro i h1 h2
    have e : P ++ x :: (L ++ Q) = (P ++ [x]) ++ (L ++ Q) := by simp
    rw [e, z55 _ _ _ (by simp; omega), z6l _ _ _ (by simp; omega) (by simp; omega)]
    congr 1; simp; omega
  obtain ⟨c, h1, h2, h3, h4, h5⟩ := zcr (z0d φ (P ++ x :: (L ++ Q)) (P.length : Int) y (z0c φ (P ++ x :: (L ++ Q)) (P.length : Int)))
    (z0c φ (P ++ x :: (L ++ Q)) (P.length : Int)) (fun h => lt (gt (P ++ x :: (L ++ Q)) (h : Int)) x) (P.length + 1 + L.length) (P.length + 1)
    (by
      intro n s r h0 hlt hR
      have hm : (W ((U (W ((s : Int) + r))).fdiv 2)) = (((s + r) / 2 : Nat) : Int) := by rw [zen (by omega) (by omega)]; omega
      have hm1 : W ((((s + r) / 2 : Nat) : Int) + 1) = (((s + r) / 2 + 1 : Nat) : Int) := by rw [W_id (by omega) (by omega)]; simp
      obtain ⟨w, hw1, hw2⟩ := hy (gt (P ++ x :: (L ++ Q)) (((s + r) / 2 : Nat) : Int)) x (by
        rw [gL _ (by omega) (by omega)]; exact hD _ (z9h (by omega) (by omega))) hx
      rw [z0d, if_pos (by simp; omega), hm, hm1, hlen, gx, zj ⟨by omega, by omega⟩, zj ⟨by omega, by omega⟩, hw1]
      simp only [Option.bind_some, hw2])
    (by
      intro n s
      rw [z0d, if_neg (by simp)]) φ (P.length + 1) (P.length + 1 + L.length) (Nat.le_refl _) (by omega) (Nat.le_refl _) (by omega)
  obtain ⟨C, E, rfl, hC⟩ : ∃ C E, L = C ++ E ∧ C.length = c - (P.length + 1) := ⟨L.take (c - (P.length + 1)), L.drop (c - (P.length + 1)), (List.take_append_drop _ _).symm, by simp; omega⟩
  simp only [List.length_append] at hl hφ h2 gL
  have hCx : ∀ z ∈ C, lt z x = true := by
    intro z hz
    rcases z4u C with rfl | ⟨S, w, rfl⟩
    · cases hz
    · simp only [List.length_append, List.length_cons, List.length_nil] at hC hz hS gL h2
      have hp : lt w x = true := by
        rcases h3 with h3 | h3
        · omega
        · rw [gL _ (by omega) (by omega)] at h3
          have e : S ++ [w] ++ E = S ++ w :: E := by simp
          rw [e, z5u (by omega)] at h3
          exact h3
      rcases List.mem_append.1 hz with h | h
      · exact z95 hs (hS.parts.1.parts.2.2 z h w (by simp)) hp (hs.irr x)
      · simp at h; rw [h]; exact hp
  have hEx : ∀ z ∈ E, lt z x = false := by
    intro z hz
    cases E with
    | nil => cases hz
    | cons w E =>
      simp only [List.length_cons] at h2 gL h4
      have hp : lt w x = false := by
        rcases h4 with h4 | h4
        · simp at h4; omega
        · rw [gL _ (by omega) (by omega), z5u (by omega)] at h4
          exact h4
      rcases List.mem_cons.1 hz with h | h
      · rw [h]; exact hp
      · exact hs.ntr _ _ _ ((List.pairwise_cons.1 hS.parts.2.1).1 z h) hp
  have hm := z8e hs (A := []) (B := [x]) (C := C) (E := E) (R1 := C) (R2 := x :: E) (List.pairwise_singleton _ _) hS (by simpa using hCx) (by simp) hS.parts.1 (by simpa using Stb.refl C) (List.pairwise_cons.2 ⟨hEx, hS.parts.2.1⟩) (by simpa using Stb.refl (x :: E))
  refine ⟨C ++ x :: E, hm.1, by simpa using hm.2, ?_⟩
  have e5 : ((P.length : Int) + 1 + ((C ++ E).length : Nat)) = ((P.length + 1 + (C ++ E).length : Nat) : Int) := by simp
  have e6 : ((P.length : Int) + 1) = ((P.length + 1 : Nat) : Int) := by simp
  rw [e5, e6, h5]
  unfold z0c
  have e7 : (c : Int) = (P.length : Int) + C.length + 1 := by omega
  have e8 : P ++ x :: (C ++ E ++ Q) = P ++ x :: (C ++ (E ++ Q)) := by simp
  rw [e7, e8, zlo φ _ x φ P C (E ++ Q) (by simp; omega) (by omega)]
  simp [z26]
/-- A sorted list before one element. -/
theorem zii (hs : Swo lt) (hy : Cmp D y lt) (φ : Nat) (P L Q : List Int) (x : Int) (hx : D x) (hD : ∀ z ∈ L, D z) (hS : Srt lt L) (hl : P.length + L.length + Q.length ≤ 999998) (hφ : P.length + L.length + 2 < φ) :
    ∃ R, Srt lt R ∧ Stb lt (L ++ [x]) R ∧ z0a φ (P ++ L ++ x :: Q) ((P.length : Int) + L.length) y (z06 φ (P ++ L ++ x :: Q) ((P.length : Int) + L.length)) φ (P.length : Int) ((P.length : Int) + L.length) = some (P ++ R ++ Q) := by
  have gx : gt (P ++ L ++ x :: Q) ((P.length : Int) + L.length) = x := z5u (by simp)
  have hlen : ((P ++ L ++ x :: Q).length : Int) = P.length + L.length + Q.length + 1 := by simp; omega
  have gL : ∀ i : Nat, P.length ≤ i → i < P.length + L.length → gt (P ++ L ++ x :: Q) (i : Int) = gt L ((i - P.length : Nat) : Int) := by
    intro i h1 h2
    rw [List.append_assoc, z55 _ _ _ (by omega), z6l _ _ _ (by omega) (by omega)]
    congr 1; omega
  obtain ⟨c, h1, h2, h3, h4, h5⟩ := zcr (z0a φ (P ++ L ++ x :: Q) ((P.length : Int) + L.length) y (z06 φ (P ++ L ++ x :: Q) ((P.length : Int) + L.length)))
    (z06 φ (P ++ L ++ x :: Q) ((P.length : Int) + L.length)) (fun h => !lt x (gt (P ++ L ++ x :: Q) (h : Int))) (P.length + L.length) P.length
    (by
      intro n s r h0 hlt hR
      have hm : (W ((U (W ((s : Int) + r))).fdiv 2)) = (((s + r) / 2 : Nat) : Int) := by rw [zen (by omega) (by omega)]; omega
      have hm1 : W ((((s + r) / 2 : Nat) : Int) + 1) = (((s + r) / 2 + 1 : Nat) : Int) := by rw [W_id (by omega) (by omega)]; simp
      obtain ⟨w, hw1, hw2⟩ := hy x (gt (P ++ L ++ x :: Q) (((s + r) / 2 : Nat) : Int)) hx (by
        rw [gL _ (by omega) (by omega)]; exact hD _ (z9h (by omega) (by omega)))
      rw [z0a, if_pos (by simp; omega), hm, hm1, hlen, gx, zj ⟨by omega, by omega⟩, zj ⟨by omega, by omega⟩, hw1]
      simp only [Option.bind_some, hw2])
    (by
      intro n s
      rw [z0a, if_neg (by simp)]) φ P.length (P.length + L.length) (Nat.le_refl _) (by omega) (Nat.le_refl _) (by omega)
  obtain ⟨A, B, rfl, hC⟩ : ∃ A B, L = A ++ B ∧ A.length = c - P.length := ⟨L.take (c - P.length), L.drop (c - P.length), (List.take_append_drop _ _).symm, by simp; omega⟩
  simp only [List.length_append] at hl hφ h2 gL
  have hA : ∀ z ∈ A, lt x z = false := by
    intro z hz
    rcases z4u A with rfl | ⟨S, w, rfl⟩
    · cases hz
    · simp only [List.length_append, List.length_cons, List.length_nil] at hC hz hS gL h2
      have hp : lt x w = false := by
        rcases h3 with h3 | h3
        · omega
        · rw [gL _ (by omega) (by omega)] at h3
          have e : S ++ [w] ++ B = S ++ w :: B := by simp
          rw [e, z5u (by omega)] at h3
          simpa using h3
      rcases List.mem_append.1 hz with h | h
      · exact hs.ntr _ _ _ hp (hS.parts.1.parts.2.2 z h w (by simp))
      · simp at h; rw [h]; exact hp
  have hB : ∀ z ∈ B, lt x z = true := by
    intro z hz
    cases B with
    | nil => cases hz
    | cons w B =>
      simp only [List.length_cons] at h2 gL h4
      have hp : lt x w = true := by
        rcases h4 with h4 | h4
        · simp at h4; omega
        · rw [gL _ (by omega) (by omega), z5u (by omega)] at h4
          simpa using h4
      rcases List.mem_cons.1 hz with h | h
      · rw [h]; exact hp
      · exact z95 hs (hs.irr x) hp ((List.pairwise_cons.1 hS.parts.2.1).1 z h)
  have hm := z8e hs (A := A) (B := B) (C := [x]) (E := []) (R1 := A ++ [x]) (R2 := B) hS (by rw [List.append_nil]; exact List.pairwise_singleton _ x) (by simpa using hB) (by simp)
    (hS.parts.1.app (List.pairwise_singleton _ _) (by simpa using hA)) (Stb.refl _) hS.parts.2.1 (by simpa using Stb.refl B)
  refine ⟨A ++ [x] ++ B, hm.1, by simpa using hm.2, ?_⟩
  have e5 : ((P.length : Int) + ((A ++ B).length : Nat)) = ((P.length + (A ++ B).length : Nat) : Int) := by simp
  rw [e5] at h5 ⊢
  rw [h5]
  unfold z06
  have e7 : (c : Int) = (((P ++ A).length : Nat) : Int) := by simp; omega
  have e8 : P ++ (A ++ B) ++ x :: Q = (P ++ A) ++ B ++ x :: Q := by simp
  have e9 : ((P.length + (A ++ B).length : Nat) : Int) = (((P ++ A).length : Nat) : Int) + B.length := by simp; omega
  rw [e7, e8, e9, zj6 φ _ x (P ++ A) φ B Q (by simp; omega) (by omega)]
  simp [z23]
end
end Px
end
section
namespace Px
open Go
set_option linter.unusedVariables false
set_option linter.unusedSimpArgs false
set_option maxHeartbeats 4000000
section
variable {D : Int → Prop} {lt : Int → Int → Bool} {y : Int → Int → Option Int}
/-- Where the two lists are split. -/
theorem zly (hs : Swo lt) (hy : Cmp D y lt) (φ : Nat) (P L1 L2 Q : List Int) (k : Int → Option (List Int)) (hD1 : ∀ z ∈ L1, D z) (hD2 : ∀ z ∈ L2, D z) (hS1 : Srt lt L1) (hS2 : Srt lt L2)
    (a m b mid s0 r0 : Nat) (ha : a = P.length) (hm : m = a + L1.length) (hb : b = m + L2.length) (hmid : mid = (a + b) / 2) (hl : b + Q.length ≤ 999998) (hφ : b < φ)
    (h1 : 1 ≤ L1.length) (h2 : 1 ≤ L2.length) (hs0 : (mid < m ∧ s0 = mid + m - b ∧ r0 = mid) ∨ (m ≤ mid ∧ s0 = a ∧ r0 = m)) :
    ∃ A B C E, L1 = A ++ B ∧ L2 = C ++ E ∧ mid + m - (a + A.length) = m + C.length ∧ (∀ x ∈ B, ∀ y ∈ C, lt y x = true) ∧ (∀ x ∈ A, ∀ y ∈ E, lt y x = false) ∧
      z08 φ (P ++ L1 ++ L2 ++ Q) (a : Int) (m : Int) (b : Int) y k φ (s0 : Int) (r0 : Int) = k ((a + A.length : Nat) : Int) := by
  have g1 : ∀ i : Nat, a ≤ i → i < m → gt (P ++ L1 ++ L2 ++ Q) (i : Int) = gt L1 ((i - a : Nat) : Int) := by
    intro i q1 q2
    have e : P ++ L1 ++ L2 ++ Q = P ++ (L1 ++ (L2 ++ Q)) := by simp
    rw [e, z55 _ _ _ (by omega), z6l _ _ _ (by omega) (by omega)]
    congr 1; omega
  have g2 : ∀ i : Nat, m ≤ i → i < b → gt (P ++ L1 ++ L2 ++ Q) (i : Int) = gt L2 ((i - m : Nat) : Int) := by
    intro i q1 q2
    have e : P ++ L1 ++ L2 ++ Q = (P ++ L1) ++ (L2 ++ Q) := by simp
    rw [e, z55 _ _ _ (by simp; omega), z6l _ _ _ (by simp; omega) (by simp; omega)]
    congr 1; simp; omega
  have hlen : ((P ++ L1 ++ L2 ++ Q).length : Int) = b + Q.length := by simp; omega
  have hW : W ((U (W ((a : Int) + b))).fdiv 2) = (mid : Int) := by rw [zen (by omega) (by omega)]; omega
  have hn : W ((mid : Int) + m) = ((mid + m : Nat) : Int) := by rw [W_id (by omega) (by omega)]; simp
  have hp : W (((mid + m : Nat) : Int) - 1) = ((mid + m - 1 : Nat) : Int) := by rw [W_id (by omega) (by omega)]; omega
  have hmb : mid ≤ b := by omega
  have ham : a ≤ mid := by omega
  obtain ⟨c, h3, h4, h5, h6, h7⟩ := zcr (z08 φ (P ++ L1 ++ L2 ++ Q) (a : Int) (m : Int) (b : Int) y k) k
    (fun c => !lt (gt (P ++ L1 ++ L2 ++ Q) ((mid + m - 1 - c : Nat) : Int)) (gt (P ++ L1 ++ L2 ++ Q) (c : Int))) r0 s0
    (by
      intro n s r q0 hlt hR
      have hm' : (W ((U (W ((s : Int) + r))).fdiv 2)) = (((s + r) / 2 : Nat) : Int) := by rw [zen (by omega) (by omega)]; omega
      have hm1 : W ((((s + r) / 2 : Nat) : Int) + 1) = (((s + r) / 2 + 1 : Nat) : Int) := by rw [W_id (by omega) (by omega)]; simp
      have hpc : W (((mid + m - 1 : Nat) : Int) - (((s + r) / 2 : Nat) : Int)) = ((mid + m - 1 - (s + r) / 2 : Nat) : Int) := by rw [W_id (by omega) (by omega)]; omega
      obtain ⟨w, hw1, hw2⟩ := hy (gt (P ++ L1 ++ L2 ++ Q) ((mid + m - 1 - (s + r) / 2 : Nat) : Int)) (gt (P ++ L1 ++ L2 ++ Q) (((s + r) / 2 : Nat) : Int))
        (by rw [g2 _ (by omega) (by omega)]; exact hD2 _ (z9h (by omega) (by omega))) (by rw [g1 _ (by omega) (by omega)]; exact hD1 _ (z9h (by omega) (by omega)))
      rw [z08, if_pos (by simp; omega), hm', hm1, hW, hn, hp, hpc, hlen, zj ⟨by omega, by omega⟩, zj ⟨by omega, by omega⟩, hw1]
      simp only [Option.bind_some, hw2])
    (by
      intro n s
      rw [z08, if_neg (by simp)]) φ s0 r0 (Nat.le_refl _) (by omega) (Nat.le_refl _) (by omega)
  obtain ⟨A, B, rfl, hA⟩ : ∃ A B, L1 = A ++ B ∧ A.length = c - a := ⟨L1.take (c - a), L1.drop (c - a), (List.take_append_drop _ _).symm, by simp; omega⟩
  obtain ⟨C, E, rfl, hC⟩ : ∃ C E, L2 = C ++ E ∧ C.length = mid - c := ⟨L2.take (mid - c), L2.drop (mid - c), (List.take_append_drop _ _).symm, by simp; omega⟩
  simp only [List.length_append] at hm hb g1 g2
  refine ⟨A, B, C, E, rfl, rfl, by omega, ?_, ?_, ?_⟩
  · intro x hx z hz
    rcases z4u C with rfl | ⟨S, w, rfl⟩
    · cases hz
    · cases B with
      | nil => cases hx
      | cons x0 B =>
        simp only [List.length_append, List.length_cons, List.length_nil] at hC hm hb g1 g2 hA
        have hp : lt w x0 = true := by
          rcases h6 with h6 | h6
          · omega
          · rw [g1 c (by omega) (by omega), g2 (mid + m - 1 - c) (by omega) (by omega)] at h6
            have e : S ++ [w] ++ E = S ++ w :: E := by simp
            rw [e, z5u (by omega), z5u (by omega)] at h6
            simpa using h6
        have hz1 : lt w z = false := by
          rcases List.mem_append.1 hz with h | h
          · exact hS2.parts.1.parts.2.2 z h w (by simp)
          · simp at h; rw [h]; exact hs.irr _
        have hx1 : lt x x0 = false := by
          rcases List.mem_cons.1 hx with h | h
          · rw [h]; exact hs.irr _
          · exact (List.pairwise_cons.1 hS1.parts.2.1).1 x h
        exact z95 hs hz1 hp hx1
  · intro x hx z hz
    rcases z4u A with rfl | ⟨S, w, rfl⟩
    · cases hx
    · cases E with
      | nil => cases hz
      | cons e0 E =>
        simp only [List.length_append, List.length_cons, List.length_nil] at hC hm hb g1 g2 hA
        have hp : lt e0 w = false := by
          rcases h5 with h5 | h5
          · omega
          · have e1 : mid + m - 1 - (c - 1) = mid + m - c := by omega
            rw [e1, g1 (c - 1) (by omega) (by omega), g2 (mid + m - c) (by omega) (by omega)] at h5
            have e : S ++ [w] ++ B = S ++ w :: B := by simp
            rw [e, z5u (by omega), z5u (by omega)] at h5
            simpa using h5
        have hz1 : lt z e0 = false := by
          rcases List.mem_cons.1 hz with h | h
          · rw [h]; exact hs.irr _
          · exact (List.pairwise_cons.1 hS2.parts.2.1).1 z h
        have hx1 : lt w x = false := by
          rcases List.mem_append.1 hx with h | h
          · exact hS1.parts.1.parts.2.2 x h w (by simp)
          · simp at h; rw [h]; exact hs.irr _
        exact zej hs hz1 hp hx1
  · rw [h7]
    congr 1
    omega
/-- Merging two sorted lists in place. -/
theorem zew (hs : Swo lt) (hy : Cmp D y lt) : ∀ (φ : Nat) (P L1 L2 Q : List Int), (∀ z ∈ L1, D z) → (∀ z ∈ L2, D z) → Srt lt L1 → Srt lt L2 → L1 ≠ [] → L2 ≠ [] →
    P.length + L1.length + L2.length + Q.length ≤ 999998 → P.length + L1.length + L2.length + (L1.length + L2.length) + 3 < φ →
    ∃ R, Srt lt R ∧ Stb lt (L1 ++ L2) R ∧ z9 φ (P ++ L1 ++ L2 ++ Q) (P.length : Int) ((P.length : Int) + L1.length) ((P.length : Int) + L1.length + L2.length) y = some (P ++ R ++ Q) := by
  intro φ
  induction φ with
  | zero => intro P L1 L2 Q _ _ _ _ _ _ _ h; omega
  | succ φ ih =>
    intro P L1 L2 Q hD1 hD2 hS1 hS2 hn1 hn2 hl hφ
    have hp1 := List.length_pos_iff.2 hn1
    have hp2 := List.length_pos_iff.2 hn2
    rw [z9]
    have w1 : W ((P.length : Int) + L1.length - P.length) = (L1.length : Int) := by rw [W_id (by omega) (by omega)]; omega
    have w2 : W ((P.length : Int) + L1.length + L2.length - ((P.length : Int) + L1.length)) = (L2.length : Int) := by rw [W_id (by omega) (by omega)]; omega
    rw [w1, w2]
    by_cases q1 : L1.length = 1
    · rw [if_pos (by simp [q1])]
      match L1, q1 with
      | [x], _ =>
        obtain ⟨R, r1, r2, r3⟩ := zie hs hy φ P L2 Q x (hD1 x (by simp)) hD2 hS2 (by simp at hl; omega) (by simp at hφ; omega)
        refine ⟨R, r1, r2, ?_⟩
        rw [← r3]
        simp
    · rw [if_neg (by simp; omega)]
      by_cases q2 : L2.length = 1
      · rw [if_pos (by simp [q2])]
        match L2, q2 with
        | [x], _ =>
          obtain ⟨R, r1, r2, r3⟩ := zii hs hy φ P L1 Q x (hD2 x (by simp)) hD1 hS1 (by simp at hl; omega) (by simp at hφ; omega)
          refine ⟨R, r1, r2, ?_⟩
          rw [← r3]
          simp
      · rw [if_neg (by simp; omega)]
        obtain ⟨a, ha⟩ : ∃ a, a = P.length := ⟨_, rfl⟩
        obtain ⟨m, hm⟩ : ∃ m, m = a + L1.length := ⟨_, rfl⟩
        obtain ⟨b, hb⟩ : ∃ b, b = m + L2.length := ⟨_, rfl⟩
        obtain ⟨mid, hmid⟩ : ∃ mid, mid = (a + b) / 2 := ⟨_, rfl⟩
        have ea : (P.length : Int) = (a : Int) := by omega
        have em : (P.length : Int) + L1.length = (m : Int) := by omega
        have eb : (P.length : Int) + L1.length + L2.length = (b : Int) := by omega
        rw [eb, em, ea]
        have hW : W ((U (W ((a : Int) + b))).fdiv 2) = (mid : Int) := by rw [zen (by omega) (by omega)]; omega
        have hn : W ((mid : Int) + m) = ((mid + m : Nat) : Int) := by rw [W_id (by omega) (by omega)]; simp
        rw [hW, hn]
        have key : ∃ s0 r0 : Nat, ((mid < m ∧ s0 = mid + m - b ∧ r0 = mid) ∨ (m ≤ mid ∧ s0 = a ∧ r0 = m)) ∧
            (if decide ((mid : Int) < m) = true then z0q φ (P ++ L1 ++ L2 ++ Q) (a : Int) (m : Int) (b : Int) y (z9 φ) (W (((mid + m : Nat) : Int) - b)) (mid : Int)
              else z0q φ (P ++ L1 ++ L2 ++ Q) (a : Int) (m : Int) (b : Int) y (z9 φ) (a : Int) (m : Int)) =
            z0q φ (P ++ L1 ++ L2 ++ Q) (a : Int) (m : Int) (b : Int) y (z9 φ) (s0 : Int) (r0 : Int) := by
          by_cases q : mid < m
          · refine ⟨mid + m - b, mid, .inl ⟨q, rfl, rfl⟩, ?_⟩
            have : W (((mid + m : Nat) : Int) - b) = ((mid + m - b : Nat) : Int) := by rw [W_id (by omega) (by omega)]; omega
            rw [if_pos (by simp; omega), this]
          · refine ⟨a, m, .inr ⟨by omega, rfl, rfl⟩, ?_⟩
            rw [if_neg (by simp; omega)]
        obtain ⟨s0, r0, hk, e⟩ := key
        rw [e]
        unfold z0q
        obtain ⟨A, B, C, E, rfl, rfl, hc, hA, hB, hL⟩ := zly hs hy φ P L1 L2 Q (z0s φ (P ++ L1 ++ L2 ++ Q) (a : Int) (m : Int) (b : Int) y (z9 φ)) hD1 hD2 hS1 hS2 a m b mid s0 r0 ha hm hb hmid (by omega) (by omega) (by omega) (by omega) hk
        rw [hL]
        simp only [List.length_append] at hm hb hl hφ hp1 hp2 q1 q2
        have hcm : mid = a + A.length + C.length := by omega
        have hend : W (((mid + m : Nat) : Int) - ((a + A.length : Nat) : Int)) = ((m + C.length : Nat) : Int) := by rw [W_id (by omega) (by omega)]; omega
        have step1 : z0s φ (P ++ (A ++ B) ++ (C ++ E) ++ Q) (a : Int) (m : Int) (b : Int) y (z9 φ) ((a + A.length : Nat) : Int) =
            z1k φ (a : Int) (m : Int) (b : Int) y (z9 φ) ((a + A.length : Nat) : Int) (P ++ A ++ C ++ B ++ E ++ Q) := by
          unfold z0s
          rw [hW, hn, hend]
          by_cases hBC : B = [] ∨ C = []
          · rw [if_neg (by
              rcases hBC with rfl | rfl
              · simp at hm ⊢; omega
              · simp)]
            rcases hBC with rfl | rfl <;> simp
          · obtain ⟨hB0, hC0⟩ := not_or.1 hBC
            have b0 := List.length_pos_iff.2 hB0
            have c0 := List.length_pos_iff.2 hC0
            rw [if_pos (by simp; omega)]
            have := zmu φ (P ++ A) B C (E ++ Q) y hB0 hC0 (by simp; omega) (by omega)
            have e1 : P ++ (A ++ B) ++ (C ++ E) ++ Q = P ++ A ++ B ++ C ++ (E ++ Q) := by simp
            have e2 : ((a + A.length : Nat) : Int) = ((P ++ A).length : Nat) := by simp; omega
            have e3 : (m : Int) = ((P ++ A).length : Nat) + (B.length : Int) := by simp; omega
            have e4 : ((m + C.length : Nat) : Int) = ((P ++ A).length : Nat) + (B.length : Int) + C.length := by simp; omega
            rw [e1]
            conv => lhs; rw [e4, e2]; arg 1; rw [e3]
            rw [this]
            simp [ha]
        rw [step1]
        have step2 : ∃ R1, Srt lt R1 ∧ Stb lt (A ++ C) R1 ∧ z1k φ (a : Int) (m : Int) (b : Int) y (z9 φ) ((a + A.length : Nat) : Int) (P ++ A ++ C ++ B ++ E ++ Q) =
            z1h φ (a : Int) (m : Int) (b : Int) y (z9 φ) ((a + A.length : Nat) : Int) (P ++ R1 ++ B ++ E ++ Q) := by
          unfold z1k
          rw [hW]
          by_cases hAC : A = [] ∨ C = []
          · refine ⟨A ++ C, ?_, Stb.refl _, ?_⟩
            · rcases hAC with rfl | rfl
              · simpa using hS2.parts.1
              · simpa using hS1.parts.1
            · rw [if_neg (by
                rcases hAC with rfl | rfl
                · simp
                · simp at hcm ⊢; omega)]
              simp
          · obtain ⟨hA0, hC0⟩ := not_or.1 hAC
            have a0 := List.length_pos_iff.2 hA0
            have c0 := List.length_pos_iff.2 hC0
            obtain ⟨R1, r1, r2, r3⟩ := ih P A C (B ++ E ++ Q) (fun z hz => hD1 z (by simp [hz])) (fun z hz => hD2 z (by simp [hz])) hS1.parts.1 hS2.parts.1 hA0 hC0 (by simp; omega) (by omega)
            refine ⟨R1, r1, r2, ?_⟩
            rw [if_pos (by simp; omega)]
            have e1 : P ++ A ++ C ++ B ++ E ++ Q = P ++ A ++ C ++ (B ++ E ++ Q) := by simp
            have e2 : ((a + A.length : Nat) : Int) = (P.length : Int) + A.length := by simp; omega
            have e3 : (mid : Int) = (P.length : Int) + A.length + C.length := by omega
            rw [e1]
            conv => lhs; arg 1; rw [e3, e2, ← ea]
            rw [r3]
            simp
        obtain ⟨R1, r1, r2, e2⟩ := step2
        rw [e2]
        have hR1 : R1.length = A.length + C.length := by rw [r2.len]; simp
        have step3 : ∃ R2, Srt lt R2 ∧ Stb lt (B ++ E) R2 ∧ z1h φ (a : Int) (m : Int) (b : Int) y (z9 φ) ((a + A.length : Nat) : Int) (P ++ R1 ++ B ++ E ++ Q) = some (P ++ (R1 ++ R2) ++ Q) := by
          unfold z1h
          rw [hW, hn, hend]
          by_cases hBE : B = [] ∨ E = []
          · refine ⟨B ++ E, ?_, Stb.refl _, ?_⟩
            · rcases hBE with rfl | rfl
              · simpa using hS2.parts.2.1
              · simpa using hS1.parts.2.1
            · rw [if_neg (by
                rcases hBE with rfl | rfl
                · simp at hm ⊢; omega
                · simp at hb ⊢; omega)]
              simp
          · obtain ⟨hB0, hE0⟩ := not_or.1 hBE
            have b0 := List.length_pos_iff.2 hB0
            have c0 := List.length_pos_iff.2 hE0
            obtain ⟨R2, p1, p2, p3⟩ := ih (P ++ R1) B E Q (fun z hz => hD1 z (by simp [hz])) (fun z hz => hD2 z (by simp [hz])) hS1.parts.2.1 hS2.parts.2.1 hB0 hE0 (by simp; omega) (by simp; omega)
            refine ⟨R2, p1, p2, ?_⟩
            rw [if_pos (by simp; omega)]
            have e1 : (mid : Int) = ((P ++ R1).length : Nat) := by simp; omega
            have e3 : ((m + C.length : Nat) : Int) = ((P ++ R1).length : Nat) + (B.length : Int) := by simp; omega
            have e4 : (b : Int) = ((P ++ R1).length : Nat) + (B.length : Int) + E.length := by simp; omega
            conv => lhs; arg 1; rw [e4, e3, e1]
            rw [p3]
            simp
        obtain ⟨R2, p1, p2, e3⟩ := step3
        rw [e3]
        have hm' := z8e hs hS1 hS2 hA hB r1 r2 p1 p2
        exact ⟨R1 ++ R2, hm'.1, hm'.2, rfl⟩
end
end Px
end
section
namespace Px
open Go
set_option linter.unusedVariables false
set_option linter.unusedSimpArgs false
set_option maxHeartbeats 1000000
section
variable {D : Int → Prop} {lt : Int → Int → Bool} {y : Int → Int → Option Int}
theorem zmy (hy : Cmp D y lt) (φ : Nat) (k : List Int → Option (List Int)) (P : List Int) (x : Int) (hx : D x) : ∀ (n : Nat) (S1 S2 : List Int), (∀ z ∈ S1, D z) → P.length + S1.length + S2.length ≤ 1000000 → S1.length < n →
    ∃ A B, S1 = A ++ B ∧ (∀ z ∈ B, lt x z = true) ∧ (A = [] ∨ ∃ A' z, A = A' ++ [z] ∧ lt x z = false) ∧
      z0l φ (P.length : Int) y k n ((P.length : Int) + S1.length) (P ++ S1 ++ x :: S2) = k (P ++ A ++ x :: (B ++ S2)) := by
  intro n
  induction n with
  | zero => intro S1 S2 _ _ h; omega
  | succ n ih =>
    intro S1 S2 hD hl hn
    rcases List.eq_nil_or_concat S1 with rfl | ⟨S, z, rfl⟩
    · refine ⟨[], [], rfl, by simp, .inl rfl, ?_⟩
      have h0 : decide ((P.length : Int) < (P.length : Int) + (([] : List Int).length : Int)) = false := by simp
      rw [z0l, h0]
      simp [ck, z3d]
    · simp only [List.concat_eq_append] at hD hl hn ⊢
      simp only [List.length_append, List.length_cons, List.length_nil] at hl hn
      have e1 : P ++ (S ++ [z]) ++ x :: S2 = (P ++ S ++ [z]) ++ x :: S2 := by simp
      have e2 : P ++ (S ++ [z]) ++ x :: S2 = (P ++ S) ++ z :: (x :: S2) := by simp
      have g1 : gt (P ++ (S ++ [z]) ++ x :: S2) ((P.length : Int) + ((S ++ [z]).length : Int)) = x := by
        rw [e1]; exact z5u (by simp <;> omega)
      have hw : W ((P.length : Int) + ((S ++ [z]).length : Int) - 1) = (P.length : Int) + S.length := by
        rw [W_id (by simp; omega) (by simp; omega)]; simp; omega
      have g2 : gt (P ++ (S ++ [z]) ++ x :: S2) ((P.length : Int) + (S.length : Int)) = z := by
        rw [e2]; exact z5u (by simp)
      have h0 : decide ((P.length : Int) < (P.length : Int) + ((S ++ [z]).length : Int)) = true := by simp; omega
      have hlen : ((P ++ (S ++ [z]) ++ x :: S2).length : Int) = P.length + S.length + 1 + 1 + S2.length := by simp; omega
      obtain ⟨w, hw1, hw2⟩ := hy x z hx (hD z (by simp))
      have s1 : z2o (P ++ (S ++ [z]) ++ x :: S2) ((P.length : Int) + ((S ++ [z]).length : Int)) z = (P ++ S) ++ z :: (z :: S2) := by
        rw [e1, z8l (by simp <;> omega)]; simp
      have s2 : z2o ((P ++ S) ++ z :: (z :: S2)) ((P.length : Int) + (S.length : Int)) x = P ++ S ++ x :: (z :: S2) := z8l (by simp)
      rw [z0l, hw, h0, g1, g2, hw1, hlen]
      rw [zj (fun _ => ⟨by omega, by simp; omega⟩), zj (fun _ => ⟨by omega, by omega⟩), zfr rfl]
      simp only [Option.bind_some, hw2, Bool.true_and]
      cases hlt : lt x z with
      | true =>
        rw [if_pos rfl, zj ⟨by omega, by omega⟩, zj ⟨by omega, by simp; omega⟩, s1]
        rw [zj ⟨by omega, by simp; omega⟩, s2]
        obtain ⟨A, B, q1, q2, q3, q4⟩ := ih S (z :: S2) (fun u hu => hD u (by simp [hu])) (by simp; omega) (by omega)
        refine ⟨A, B ++ [z], by rw [q1]; simp, ?_, q3, ?_⟩
        · intro u hu
          rcases List.mem_append.1 hu with h | h
          · exact q2 u h
          · simp at h; rw [h]; exact hlt
        · rw [q4]; simp
      | false =>
        rw [if_neg (by simp)]
        exact ⟨S ++ [z], [], by simp, by simp, .inr ⟨S, z, rfl, hlt⟩, by simp⟩
theorem zl2 (hs : Swo lt) (hy : Cmp D y lt) (φ : Nat) (P Q : List Int) : ∀ (n : Nat) (S R : List Int), S ≠ [] → Srt lt S → (∀ z ∈ S, D z) → (∀ z ∈ R, D z) → P.length + S.length + R.length + Q.length ≤ 1000000 → P.length + S.length + R.length < φ → R.length < n →
    ∃ S', Srt lt S' ∧ Stb lt (S ++ R) S' ∧ zh φ (P.length : Int) ((P.length : Int) + S.length + R.length) y n ((P.length : Int) + S.length) (P ++ S ++ R ++ Q) = some (P ++ S' ++ Q) := by
  intro n
  induction n with
  | zero => intro S R _ _ _ _ _ _ h; omega
  | succ n ih =>
    intro S R hne hS hD hD' hl hφ hn
    cases R with
    | nil =>
      refine ⟨S, hS, by simpa using Stb.refl S, ?_⟩
      rw [zh, if_neg (by simp)]
      simp
    | cons x R =>
      simp only [List.length_cons] at hl hφ hn
      rw [zh, if_pos (by simp; omega)]
      obtain ⟨A, B, q1, q2, q3, q4⟩ := zmy hy φ (z0i φ ((P.length : Int) + S.length) (zh φ (P.length : Int) ((P.length : Int) + S.length + (x :: R).length) y n)) P x (hD' x (by simp)) φ S (R ++ Q) hD (by simp; omega) (by omega)
      rw [show P ++ S ++ x :: R ++ Q = P ++ S ++ x :: (R ++ Q) by simp, q4]
      have hA : ∀ u ∈ A, lt x u = false := by
        rcases q3 with rfl | ⟨A', z, rfl, hz⟩
        · simp
        · intro u hu
          rcases List.mem_append.1 hu with h | h
          · subst q1
            have := (hS.parts.1).parts.2.2 u h z (by simp)
            exact hs.ntr _ _ _ hz this
          · simp at h; rw [h]; exact hz
      have hS2 : Srt lt (A ++ x :: B) := by
        subst q1
        refine hS.parts.1.app (List.pairwise_cons.2 ⟨fun u hu => hs.asym _ _ (q2 u hu), hS.parts.2.1⟩) fun u hu v hv => ?_
        rcases List.mem_cons.1 hv with h | h
        · subst h; exact hA u hu
        · exact hS.parts.2.2 u hu v h
      obtain ⟨S', p1, p2, p3⟩ := ih (A ++ x :: B) R (by simp) hS2 (fun z hz => by
        subst q1
        simp only [List.mem_append, List.mem_cons] at hz
        rcases hz with h | h | h
        · exact hD z (by simp [h])
        · subst h; exact hD' _ (by simp)
        · exact hD z (by simp [h])) (fun z hz => hD' z (by simp [hz])) (by subst q1; simp at hl ⊢; omega) (by subst q1; simp at hφ ⊢; omega) (by omega)
      refine ⟨S', p1, ?_, ?_⟩
      · have h1 : Stb lt (S ++ [x]) (A ++ [x] ++ B) := by subst q1; exact zdq hs q2
        have := h1.app (Stb.refl R)
        refine Stb.trans ?_ (Stb.trans this ?_)
        · simpa using Stb.refl (lt := lt) (S ++ x :: R)
        · simpa using p2
      · rw [← p3]
        unfold z0i
        have e1 : W ((P.length : Int) + S.length + 1) = (P.length : Int) + S.length + 1 := W_id (by omega) (by omega)
        have hSl : S.length = A.length + B.length := by rw [q1]; simp
        have e2 : (P.length : Int) + S.length + 1 = P.length + (A ++ x :: B).length := by simp; omega
        have e3 : (P.length : Int) + S.length + (x :: R).length = P.length + (A ++ x :: B).length + R.length := by simp; omega
        have e4 : P ++ A ++ x :: (B ++ (R ++ Q)) = P ++ (A ++ x :: B) ++ R ++ Q := by simp
        rw [e1, e2, e3, e4]
theorem zby (hs : Swo lt) (hy : Cmp D y lt) (φ : Nat) (P X Q : List Int) (hD : ∀ z ∈ X, D z) (hl : P.length + X.length + Q.length ≤ 1000000) (hφ : P.length + X.length < φ) :
    ∃ X', Srt lt X' ∧ Stb lt X X' ∧ z1v φ (P ++ X ++ Q) (P.length : Int) ((P.length : Int) + X.length) y = some (P ++ X' ++ Q) := by
  unfold z1v
  rw [W_id (x := (P.length : Int) + 1) (by omega) (by omega)]
  cases X with
  | nil =>
    refine ⟨[], List.Pairwise.nil, Stb.refl _, ?_⟩
    obtain ⟨n, rfl⟩ : ∃ n, φ = n + 1 := ⟨φ - 1, by omega⟩
    rw [zh, if_neg (by simp; omega)]
  | cons x R =>
    simp only [List.length_cons] at hl hφ
    obtain ⟨S', p1, p2, p3⟩ := zl2 hs hy φ P Q φ [x] R (by simp) (List.pairwise_singleton _ _) (fun z hz => hD z (by simp at hz; simp [hz])) (fun z hz => hD z (by simp [hz])) (by simp; omega) (by simp; omega) (by omega)
    refine ⟨S', p1, by simpa using p2, ?_⟩
    rw [← p3]
    simp only [List.append_assoc, List.cons_append, List.length_cons, List.length_nil, List.nil_append]
    congr 1
    simp; omega
end
end Px
end
section
namespace Px
open Go
set_option linter.unusedVariables false
set_option linter.unusedSimpArgs false
set_option maxHeartbeats 4000000
section
variable {D : Int → Prop} {lt : Int → Int → Bool} {y : Int → Int → Option Int}
theorem zj8 (hs : Swo lt) (hy : Cmp D y lt) (φ N : Nat) (k : Int → List Int → Option (List Int)) (hN : N ≤ 900000) (hφ : N < φ) :
    ∀ (n : Nat) (X Y : List Int), (∀ z ∈ Y, D z) → X.length + Y.length = N → Y.length < n →
    ∃ Y1 Y2 Y1', Y = Y1 ++ Y2 ∧ Runs lt 20 (Y1' ++ []) ∧ Y2.length < 20 ∧ Stb lt Y1 Y1' ∧ (∀ T, Runs lt 20 T → Runs lt 20 (Y1' ++ T)) ∧
      z1q φ (N : Int) y k n (X.length : Int) ((X.length : Int) + 20) (X ++ Y) = k ((X.length : Int) + Y1.length) (X ++ Y1' ++ Y2) := by
  intro n
  induction n with
  | zero => intro X Y _ _ h; omega
  | succ n ih =>
    intro X Y hD hl hn
    rw [z1q]
    by_cases h : Y.length < 20
    · refine ⟨[], Y, [], rfl, .last (by simp) List.Pairwise.nil, h, Stb.refl _, fun T hT => hT, ?_⟩
      rw [if_neg (by simp; omega)]
      simp
    · obtain ⟨B, Z, rfl, hB⟩ : ∃ B Z, Y = B ++ Z ∧ B.length = 20 := ⟨Y.take 20, Y.drop 20, (List.take_append_drop _ _).symm, by simp; omega⟩
      simp only [List.length_append] at hl hn h
      rw [if_pos (by simp; omega)]
      obtain ⟨B', b1, b2, b3⟩ := zby hs hy φ X B Z (fun z hz => hD z (by simp [hz])) (by omega) (by omega)
      rw [hB] at b3
      have e1 : X ++ (B ++ Z) = X ++ B ++ Z := by simp
      have e2 : ((20 : Nat) : Int) = 20 := rfl
      rw [e2] at b3
      rw [e1, b3]
      simp only [Option.bind_some]
      have hB' : B'.length = 20 := by rw [b2.len, hB]
      have w1 : W ((X.length : Int) + 20 + 20) = (X.length : Int) + 20 + 20 := W_id (by omega) (by omega)
      have e3 : (X.length : Int) + 20 = ((X ++ B').length : Nat) := by simp [hB']
      rw [w1]
      obtain ⟨Y1, Y2, Y1', q1, q2, q3, q4, q5, q6⟩ := ih (X ++ B') Z (fun z hz => hD z (by simp [hz])) (by simp; omega) (by omega)
      rw [← e3] at q6
      refine ⟨B ++ Y1, Y2, B' ++ Y1', by rw [q1]; simp, ?_, q3, b2.app q4, fun T hT => ?_, ?_⟩
      · rw [List.append_assoc]; exact .cons hB' b1 q2
      · rw [List.append_assoc]; exact .cons hB' b1 (q5 T hT)
      · rw [q6]
        have e4 : (X.length : Int) + 20 + Y1.length = (X.length : Int) + ((B ++ Y1).length : Nat) := by simp; omega
        rw [e4]
        simp
theorem zph (hs : Swo lt) (hy : Cmp D y lt) (φ N bs : Nat) (k : Int → List Int → Option (List Int)) (hN : N ≤ 900000) (hφ : 2 * N + 3 < φ) (hb0 : 0 < bs) (hb : bs ≤ 900000) :
    ∀ (n : Nat) (X Y : List Int), (∀ z ∈ Y, D z) → Runs lt bs Y → X.length + Y.length = N → Y.length < n →
    ∃ Y', Runs lt (bs * 2) Y' ∧ Stb lt Y Y' ∧ z2m φ (N : Int) y (bs : Int) (z1u φ (N : Int) y (bs : Int) k) n (X.length : Int) ((X.length : Int) + 2 * bs) (X ++ Y) = k ((bs * 2 : Nat) : Int) (X ++ Y') := by
  intro n
  induction n with
  | zero => intro X Y _ _ _ h; omega
  | succ n ih =>
    intro X Y hD hR hl hn
    have w1 : W ((X.length : Int) + bs) = (X.length : Int) + bs := W_id (by omega) (by omega)
    have w2 : W ((bs : Int) * 2) = ((bs * 2 : Nat) : Int) := by rw [W_id (by omega) (by omega)]; simp
    have w3 : W (2 * (bs : Int)) = 2 * (bs : Int) := W_id (by omega) (by omega)
    have w4 : W ((X.length : Int) + 2 * bs + 2 * bs) = (X.length : Int) + 2 * bs + 2 * bs := W_id (by omega) (by omega)
    rw [z2m, w1, w3, w4]
    by_cases h : 2 * bs ≤ Y.length
    · rw [if_pos (by simp; omega)]
      obtain ⟨B1, r, rfl, h1, s1, hr, hne⟩ := hR.big (by omega)
      simp only [List.length_append] at hl hn h
      obtain ⟨B2, Z, rfl, h2, s2, hZ⟩ : ∃ B2 Z, r = B2 ++ Z ∧ B2.length = bs ∧ Srt lt B2 ∧ Runs lt bs Z := by
        by_cases q : r.length = bs
        · exact ⟨r, [], by simp, q, hr.small (by omega), .last (by simp) List.Pairwise.nil⟩
        · obtain ⟨b, r', e, q1, q2, q3, _⟩ := hr.big (by omega)
          exact ⟨b, r', e, q1, q2, q3⟩
      simp only [List.length_append] at hl hn h
      obtain ⟨R, r1, r2, r3⟩ := zew hs hy φ X B1 B2 Z (fun z hz => hD z (by simp [hz])) (fun z hz => hD z (by simp [hz])) s1 s2 (by intro e; subst e; simp at h1; omega) (by intro e; subst e; simp at h2; omega) (by omega) (by omega)
      have hRl : R.length = 2 * bs := by rw [r2.len]; simp; omega
      have e1 : X ++ (B1 ++ (B2 ++ Z)) = X ++ B1 ++ B2 ++ Z := by simp
      have e2 : (X.length : Int) + bs = (X.length : Int) + B1.length := by omega
      have e3 : (X.length : Int) + 2 * bs = (X.length : Int) + B1.length + B2.length := by omega
      have e4 : (X.length : Int) + 2 * bs = ((X ++ R).length : Nat) := by simp; omega
      obtain ⟨Y', p1, p2, p3⟩ := ih (X ++ R) Z (fun z hz => hD z (by simp [hz])) hZ (by simp; omega) (by omega)
      refine ⟨R ++ Y', .cons (by omega) r1 p1, ?_, ?_⟩
      · have := r2.app p2
        simpa using this
      · rw [e1]
        conv => lhs; arg 1; rw [e2, e3]
        rw [r3]
        simp only [Option.bind_some]
        rw [e4, p3]
        simp
    · rw [if_neg (by simp; omega)]
      unfold z1u z2z
      rw [w1, w2]
      by_cases q : bs < Y.length
      · rw [if_pos (by simp; omega)]
        obtain ⟨B1, B2, rfl, h1, s1, hr, hne⟩ := hR.big q
        simp only [List.length_append] at hl hn h
        obtain ⟨R, r1, r2, r3⟩ := zew hs hy φ X B1 B2 [] (fun z hz => hD z (by simp [hz])) (fun z hz => hD z (by simp [hz])) s1 (hr.small (by omega)) (by intro e; subst e; simp at h1; omega) hne (by simp; omega) (by omega)
        have e1 : X ++ (B1 ++ B2) = X ++ B1 ++ B2 ++ [] := by simp
        have e2 : (X.length : Int) + bs = (X.length : Int) + B1.length := by omega
        have e3 : (N : Int) = (X.length : Int) + B1.length + B2.length := by omega
        refine ⟨R, .last (by rw [r2.len]; simp; omega) r1, r2, ?_⟩
        rw [e1, e2, e3, r3]
        simp
      · rw [if_neg (by simp; omega)]
        exact ⟨Y, .last (by omega) (hR.small (by omega)), Stb.refl _, rfl⟩
theorem zmp (hs : Swo lt) (hy : Cmp D y lt) (φ N : Nat) (hN : N ≤ 400000) (hφ : 2 * N + 3 < φ) :
    ∀ (n bs : Nat) (Y : List Int), (∀ z ∈ Y, D z) → Runs lt bs Y → Y.length = N → 0 < bs → bs ≤ 900000 → N - bs < n →
    ∃ Y', Srt lt Y' ∧ Stb lt Y Y' ∧ zl φ (N : Int) y n (bs : Int) Y = some Y' := by
  intro n
  induction n with
  | zero => intro bs Y _ _ _ _ _ h; omega
  | succ n ih =>
    intro bs Y hD hR hl hb0 hb hn
    rw [zl]
    by_cases h : bs < N
    · rw [if_pos (by simp; omega), W_id (x := 2 * (bs : Int)) (by omega) (by omega)]
      obtain ⟨Y', p1, p2, p3⟩ := zph hs hy φ N bs (zl φ (N : Int) y n) (by omega) hφ hb0 hb φ [] Y hD hR (by simpa using hl) (by omega)
      obtain ⟨Y'', q1, q2, q3⟩ := ih (bs * 2) Y' (fun z hz => hD z (p2.mem.1 hz)) p1 (by rw [p2.len, hl]) (by omega) (by omega) (by omega)
      refine ⟨Y'', q1, p2.trans q2, ?_⟩
      rw [← q3]
      simpa using p3
    · rw [if_neg (by simp; omega)]
      exact ⟨Y, hR.small (by omega), Stb.refl _, rfl⟩
/-- The stable sort sorts, and keeps the order of equal elements. -/
theorem zi4 (hs : Swo lt) (hy : Cmp D y lt) (φ : Nat) (v : List Int) (hD : ∀ z ∈ v, D z) (hN : v.length ≤ 400000) (hφ : 2 * v.length + 3 < φ) :
    ∃ r, Srt lt r ∧ Stb lt v r ∧ z48 φ v y = some r := by
  unfold z48 z5v
  obtain ⟨Y1, Y2, Y1', q1, q2, q3, q4, q5, q6⟩ := zj8 hs hy φ v.length (z11 φ (v.length : Int) y) (by omega) (by omega) φ [] v hD (by simp) (by omega)
  have q6' : z1q φ (v.length : Int) y (z11 φ (v.length : Int) y) φ 0 20 v = z11 φ (v.length : Int) y (Y1.length : Int) (Y1' ++ Y2) := by simpa using q6
  rw [q6']
  unfold z11
  have hl : v.length = Y1.length + Y2.length := by rw [q1]; simp
  have hl1 : Y1'.length = Y1.length := q4.len
  obtain ⟨Y2', p1, p2, p3⟩ := zby hs hy φ Y1' Y2 [] (fun z hz => hD z (by rw [q1]; simp [hz])) (by simp; omega) (by omega)
  simp only [List.append_nil] at p3
  have e1 : (Y1.length : Int) = Y1'.length := by omega
  have e2 : (v.length : Int) = (Y1'.length : Int) + Y2.length := by omega
  have p3' : z1v φ (Y1' ++ Y2) (Y1.length : Int) (v.length : Int) y = some (Y1' ++ Y2') := by rw [e1, e2]; exact p3
  have hst : Stb lt v (Y1' ++ Y2') := by rw [q1]; exact q4.app p2
  obtain ⟨r, r1, r2, r3⟩ := zmp hs hy φ v.length hN hφ φ 20 (Y1' ++ Y2') (fun z hz => hD z (hst.mem.1 hz)) (q5 _ (.last (by rw [p2.len]; omega) p1)) hst.len (by omega) (by omega) (by omega)
  refine ⟨r, r1, hst.trans r2, ?_⟩
  rw [p3']
  simp only [Option.bind_some]
  have r3' : zl φ (v.length : Int) y φ 20 (Y1' ++ Y2') = some r := r3
  rw [r3']
  rfl
end
end Px
end
section
namespace Px
open Go
set_option linter.unusedVariables false
set_option linter.unusedSimpArgs false
def zef (p : Pool) (r : zo) : Bool :=
  (r.fRef.fRailway != r.fItem.fOther) && ((((gt p.fNetwork.fPlaces r.fItem.fPlace).fRailway == r.fRef.fRailway) && ((gt p.fNetwork.fPlaces r.fItem.fPlace).fOther == r.fItem.fOther)) || (((gt p.fNetwork.fPlaces r.fItem.fPlace).fRailway == r.fItem.fOther) && ((gt p.fNetwork.fPlaces r.fItem.fPlace).fOther == r.fRef.fRailway)))
theorem zpp (φ : Nat) (p : Pool) (r : zo) (h : 0 ≤ r.fItem.fPlace ∧ r.fItem.fPlace < (p.fNetwork.fPlaces.length : Int)) : z8w φ p r = some (zef p r) := by
  unfold z8w; rw [zj h]; rfl
def zi8 (p : Pool) (l : List zo) (rs : List Int) (st : List (Int × Bool) × List (Nat → Int)) (d : Int) : List (Int × Bool) × List (Nat → Int) :=
  if zef p (gt l d) = false then st else if 0 ≤ zc9 l st.1 d rs then (mset st.1 (zc9 l st.1 d rs) true, st.2 ++ [ofL [d, zc9 l st.1 d rs]]) else st
def ze9 (p : Pool) (l : List zo) (rs ds : List Int) : List (Nat → Int) := (ds.foldl (zi8 p l rs) ([], [])).2
theorem zny (φ : Nat) (hφ : 4 < φ) (p : Pool) (l : List zo) (rs ds : List Int) (hl : ds.length ≤ 100000) (hrl : rs.length ≤ 100000) (hr : ∀ z ∈ rs, 0 ≤ z ∧ z < (l.length : Int)) (hφ2 : rs.length < φ) (hφ3 : ds.length < φ)
    (hd : ∀ z ∈ ds, (0 ≤ z ∧ z < (l.length : Int)) ∧ 0 ≤ (gt l z).fItem.fPlace ∧ (gt l z).fItem.fPlace < (p.fNetwork.fPlaces.length : Int)) :
    z0p φ p l rs ds (z1b φ) φ 0 [] [] = some (ze9 p l rs ds) := by
  refine z56 (fun n j (s : List (Int × Bool) × List (Nat → Int)) => z0p φ p l rs ds (z1b φ) n j s.1 s.2) ds.length (fun j s => s = (ds.take j).foldl (zi8 p l rs) ([], []) ∧ s.2.length ≤ j)
    (fun o => o = some (ze9 p l rs ds)) ?_ ?_ φ ([], []) ⟨by simp, by simp⟩ hφ3
  · intro n j s hj ⟨hs, hsl⟩ hk
    obtain ⟨hz, hpl⟩ := hd _ (z9h (l := ds) (i := (j : Int)) (by omega) (by omega))
    have hnext : (ds.take (j + 1)).foldl (zi8 p l rs) ([], []) = zi8 p l rs s (gt ds (j : Int)) := by
      rw [zay ds j hj, List.foldl_append, ← hs]; rfl
    have w : W ((j : Int) + 1) = (j : Int) + 1 := W_id (by omega) (by omega)
    rw [z0p, if_pos (by simp; omega), zj ⟨by omega, by omega⟩, zj hz]
    simp only [Pool.eta', Item.eta', zo.eta', zpp φ p _ hpl, Option.bind_some]
    by_cases q : zef p (gt l (gt ds (j : Int))) = false
    · rw [q, if_pos (by simp)]
      unfold z20
      rw [w]
      exact hk s ⟨by rw [hnext]; unfold zi8; rw [if_pos q], by omega⟩
    · have q' : zef p (gt l (gt ds (j : Int))) = true := by simpa using q
      rw [q', if_neg (by simp), zpy φ hφ l rs ds _ s.1 _ hrl hr hφ2]
      unfold z3q
      by_cases hb : 0 ≤ zc9 l s.1 (gt ds (j : Int)) rs
      · rw [if_pos (by simpa using hb), zj (zb7 (by simp; omega) (by omega))]
        unfold z20
        rw [w]
        refine hk (mset s.1 (zc9 l s.1 (gt ds (j : Int)) rs) true, s.2 ++ [ofL [gt ds (j : Int), zc9 l s.1 (gt ds (j : Int)) rs]]) ⟨?_, by simp; omega⟩
        rw [hnext]; unfold zi8; rw [if_neg q, if_pos hb]
      · rw [if_neg (by simpa using hb)]
        unfold z20
        rw [w]
        refine hk s ⟨?_, by omega⟩
        rw [hnext]; unfold zi8; rw [if_neg q, if_neg hb]
  · intro n s ⟨hs, _⟩
    rw [List.take_length] at hs
    rw [z0p, if_neg (by simp), hs]
    rfl
/-- What pairs answers. -/
theorem zr4 (φ : Nat) (p : Pool) (l : List zo) (ok : Item → Bool) (hl : l.length ≤ 100000) (hφ : 2 * l.length + 10 < φ) (hc : z5g φ p = some 0)
    (hok : ∀ r ∈ l, r.fItem.fKind = 3 ∨ r.fItem.fKind = 4 → ∃ e, z8x φ p r.fItem = some e ∧ (e == 0) = ok r.fItem)
    (hpl : ∀ r ∈ l, r.fItem.fKind = 3 ∨ r.fItem.fKind = 4 → ok r.fItem = true → 0 ≤ r.fItem.fPlace ∧ r.fItem.fPlace < (p.fNetwork.fPlaces.length : Int)) :
    ∃ ds, Srt (zih l) ds ∧ Stb (zih l) (idxF (fun r => r.fItem.fKind == 3 && ok r.fItem) l) ds ∧
      z5t φ p l = some (ze9 p l (idxF (fun r => r.fItem.fKind == 4 && ok r.fItem) l) ds) := by
  have h3 := of_eq φ p l 3 ok hl (by omega) fun r hr hk => hok r hr (.inl hk)
  have h4 := of_eq φ p l 4 ok hl (by omega) fun r hr hk => hok r hr (.inr hk)
  have l3 := zco (fun r : zo => r.fItem.fKind == 3 && ok r.fItem) l
  have l4 := zco (fun r : zo => r.fItem.fKind == 4 && ok r.fItem) l
  obtain ⟨ds, s1, s2, s3⟩ := zi4 (zh3 l) (zqv φ (by omega) l) φ (idxF (fun r => r.fItem.fKind == 3 && ok r.fItem) l)
    (fun z hz => ⟨(zal.1 hz).1, (zal.1 hz).2.1⟩) (by omega) (by omega)
  refine ⟨ds, s1, s2, ?_⟩
  have dl := s2.len
  unfold z5t
  simp only [Pool.eta', hc, h3, h4, Option.bind_some, s3]
  rw [if_neg (by decide)]
  refine zny φ (by omega) p l _ ds (by omega) (by omega) (fun z hz => ⟨(zal.1 hz).1, (zal.1 hz).2.1⟩) (by omega) (by omega) fun z hz => ?_
  obtain ⟨q1, q2, q3⟩ := zal.1 (s2.mem.1 hz)
  simp only [Bool.and_eq_true, beq_iff_eq] at q3
  exact ⟨⟨q1, q2⟩, hpl _ (z9h q1 q2) (.inl q3.1) q3.2⟩
end Px
end
section
namespace Px
open Go
set_option linter.unusedVariables false
set_option linter.unusedSimpArgs false
set_option maxHeartbeats 1000000
section
theorem zhz (φ : Nat) (P Z Q : List z4) (c : Nat) : ∀ (n : Nat) (X1 X2 Y1 Y2 : List z4), X1.length = Y1.length → X2.length = Y2.length → c = X1.length + X2.length → P.length + c + Z.length + c + Q.length ≤ 1000000 → X2.length < n →
    z0j φ (P.length : Int) ((P.length : Int) + c + Z.length) (c : Int) n (X1.length : Int) (P ++ Y1 ++ X2 ++ Z ++ X1 ++ Y2 ++ Q) = some (P ++ Y1 ++ Y2 ++ Z ++ X1 ++ X2 ++ Q) := by
  intro n
  induction n with
  | zero => intro X1 X2 Y1 Y2 _ _ _ _ h; omega
  | succ n ih =>
    intro X1 X2 Y1 Y2 h1 h2 hc hl hn
    cases X2 with
    | nil =>
      have : Y2 = [] := List.eq_nil_of_length_eq_zero (by simpa using h2.symm)
      subst this
      simp only [List.length_nil, Nat.add_zero] at hc
      rw [z0j, if_neg (by simp; omega)]
    | cons x X2 =>
      cases Y2 with
      | nil => simp at h2
      | cons w Y2 =>
        simp only [List.length_cons, Nat.add_right_cancel_iff] at h2 hc hn
        have w1 : W ((P.length : Int) + c + Z.length + X1.length) = (P.length : Int) + c + Z.length + X1.length := W_id (by omega) (by omega)
        have w2 : W ((P.length : Int) + X1.length) = (P.length : Int) + X1.length := W_id (by omega) (by omega)
        have w3 : W ((X1.length : Int) + 1) = (X1.length : Int) + 1 := W_id (by omega) (by omega)
        have e1 : P ++ Y1 ++ x :: X2 ++ Z ++ X1 ++ w :: Y2 ++ Q = (P ++ Y1) ++ x :: (X2 ++ Z ++ X1 ++ w :: Y2 ++ Q) := by simp
        have e2 : P ++ Y1 ++ x :: X2 ++ Z ++ X1 ++ w :: Y2 ++ Q = (P ++ Y1 ++ x :: X2 ++ Z ++ X1) ++ w :: (Y2 ++ Q) := by simp
        have g1 : gt (P ++ Y1 ++ x :: X2 ++ Z ++ X1 ++ w :: Y2 ++ Q) ((P.length : Int) + X1.length) = x := by rw [e1]; exact z5u (by simp; omega)
        have g2 : gt (P ++ Y1 ++ x :: X2 ++ Z ++ X1 ++ w :: Y2 ++ Q) ((P.length : Int) + c + Z.length + X1.length) = w := by rw [e2]; exact z5u (by simp; omega)
        have s1 : z2o (P ++ Y1 ++ x :: X2 ++ Z ++ X1 ++ w :: Y2 ++ Q) ((P.length : Int) + X1.length) w = (P ++ Y1) ++ w :: (X2 ++ Z ++ X1 ++ w :: Y2 ++ Q) := by rw [e1]; exact z8l (by simp; omega)
        have e3 : (P ++ Y1) ++ w :: (X2 ++ Z ++ X1 ++ w :: Y2 ++ Q) = (P ++ Y1 ++ w :: X2 ++ Z ++ X1) ++ w :: (Y2 ++ Q) := by simp
        have s2 : z2o ((P ++ Y1 ++ w :: X2 ++ Z ++ X1) ++ w :: (Y2 ++ Q)) ((P.length : Int) + c + Z.length + X1.length) x = (P ++ Y1 ++ w :: X2 ++ Z ++ X1) ++ x :: (Y2 ++ Q) := z8l (by simp; omega)
        have e4 : (P ++ Y1 ++ w :: X2 ++ Z ++ X1) ++ x :: (Y2 ++ Q) = P ++ (Y1 ++ [w]) ++ X2 ++ Z ++ (X1 ++ [x]) ++ Y2 ++ Q := by simp
        have hlen : ((P ++ Y1 ++ x :: X2 ++ Z ++ X1 ++ w :: Y2 ++ Q).length : Int) = P.length + c + Z.length + c + Q.length := by simp; omega
        have hlen2 : (((P ++ Y1 ++ w :: X2 ++ Z ++ X1) ++ w :: (Y2 ++ Q)).length : Int) = P.length + c + Z.length + c + Q.length := by simp; omega
        rw [z0j, if_pos (by simp; omega), w1, w2, w3, g1, g2, s1, e3, s2, e4, hlen, hlen2]
        rw [zj ⟨by omega, by omega⟩, zj ⟨by omega, by omega⟩, zj ⟨by omega, by omega⟩]
        have := ih (X1 ++ [x]) X2 (Y1 ++ [w]) Y2 (by simp [h1]) h2 (by simp; omega) hl (by omega)
        have e5 : (((X1 ++ [x]).length : Nat) : Int) = (X1.length : Int) + 1 := by simp
        rw [e5] at this
        rw [this]
        simp
theorem zc3 (φ : Nat) (P X Z Y Q : List z4) (y : z4 → z4 → Option Int) (h : X.length = Y.length) (hl : P.length + X.length + Z.length + X.length + Q.length ≤ 1000000) (hφ : X.length < φ) :
    z1n φ (P ++ X ++ Z ++ Y ++ Q) (P.length : Int) ((P.length : Int) + X.length + Z.length) (X.length : Int) y = some (P ++ Y ++ Z ++ X ++ Q) := by
  have := zhz φ P Z Q X.length φ [] X [] Y rfl h (by simp) hl hφ
  simpa [z1n] using this
theorem zj4 (φ : Nat) (y : z4 → z4 → Option Int) : ∀ (n : Nat) (P X Y Q : List z4), X ≠ [] → Y ≠ [] → P.length + X.length + Y.length + Q.length ≤ 1000000 → X.length + Y.length ≤ n → X.length + Y.length < φ →
    z0w φ ((P.length : Int) + X.length) y (z14 φ ((P.length : Int) + X.length) y) n (X.length : Int) (Y.length : Int) (P ++ X ++ Y ++ Q) = some (P ++ Y ++ X ++ Q) := by
  intro n
  induction n with
  | zero => intro P X Y Q hX hY _ h; have := List.length_pos_iff.2 hX; omega
  | succ n ih =>
    intro P X Y Q hX hY hl hn hφ
    have hX0 := List.length_pos_iff.2 hX
    have hY0 := List.length_pos_iff.2 hY
    have w1 : W ((P.length : Int) + X.length - X.length) = (P.length : Int) := by rw [W_id (by omega) (by omega)]; omega
    rw [z0w, w1]
    by_cases he : X.length = Y.length
    · rw [if_neg (by simp [he])]
      unfold z14
      rw [w1]
      have := zc3 φ P X [] Y Q y he (by simp; omega) (by omega)
      simp only [List.append_nil, List.length_nil, Int.ofNat_zero, Int.add_zero] at this
      rw [this]; rfl
    · rw [if_pos (by simp; omega)]
      by_cases hlt : Y.length < X.length
      · rw [if_pos (by simp; omega)]
        obtain ⟨X1, X2, rfl, h1⟩ : ∃ X1 X2, X = X1 ++ X2 ∧ X1.length = Y.length := ⟨X.take Y.length, X.drop Y.length, (List.take_append_drop _ _).symm, by simp; omega⟩
        simp only [List.length_append] at hl hn hφ hlt hX0 he
        have e1 : P ++ (X1 ++ X2) ++ Y ++ Q = P ++ X1 ++ X2 ++ Y ++ Q := by simp
        have e2 : (P.length : Int) + ((X1 ++ X2).length : Nat) = (P.length : Int) + X1.length + X2.length := by simp; omega
        rw [e1, e2, ← h1, zc3 φ P X1 X2 Y Q y h1 (by omega) (by omega)]
        simp only [Option.bind_some]
        have w2 : W (((X1 ++ X2).length : Int) - X1.length) = (X2.length : Int) := by simp; rw [W_id (by omega) (by omega)]; omega
        rw [w2]
        have := ih (P ++ Y) X2 X1 Q (by intro e; subst e; simp at hlt; omega) (by intro e; subst e; simp at h1; omega) (by simp; omega) (by omega) (by omega)
        have e3 : (((P ++ Y).length : Nat) : Int) + X2.length = (P.length : Int) + X1.length + X2.length := by simp; omega
        rw [e3] at this
        rw [this]
        simp
      · rw [if_neg (by simp; omega)]
        obtain ⟨Y1, Y2, rfl, h1⟩ : ∃ Y1 Y2, Y = Y1 ++ Y2 ∧ Y2.length = X.length := ⟨Y.take (Y.length - X.length), Y.drop (Y.length - X.length), (List.take_append_drop _ _).symm, by simp; omega⟩
        simp only [List.length_append] at hl hn hφ hlt hY0 he
        have e1 : P ++ X ++ (Y1 ++ Y2) ++ Q = P ++ X ++ Y1 ++ Y2 ++ Q := by simp
        have w3 : W ((P.length : Int) + X.length + ((Y1 ++ Y2).length : Nat)) = (P.length : Int) + X.length + Y1.length + Y2.length := by simp; rw [W_id (by omega) (by omega)]; omega
        have w4 : W ((P.length : Int) + X.length + Y1.length + Y2.length - X.length) = (P.length : Int) + X.length + Y1.length := by rw [W_id (by omega) (by omega)]; omega
        have w5 : W (((Y1 ++ Y2).length : Int) - X.length) = (Y1.length : Int) := by simp; rw [W_id (by omega) (by omega)]; omega
        rw [e1, w3, w4, w5, zc3 φ P X Y1 Y2 Q y h1.symm (by omega) (by omega)]
        simp only [Option.bind_some]
        have := ih P Y2 Y1 (X ++ Q) (by intro e; subst e; simp at h1; omega) (by intro e; subst e; simp at h1 hlt he; omega) (by simp; omega) (by omega) (by omega)
        rw [h1] at this
        have e2 : P ++ Y2 ++ Y1 ++ X ++ Q = P ++ Y2 ++ Y1 ++ (X ++ Q) := by simp
        rw [e2, this]
        simp
theorem zh1 (φ : Nat) (P X Y Q : List z4) (y : z4 → z4 → Option Int) (hX : X ≠ []) (hY : Y ≠ []) (hl : P.length + X.length + Y.length + Q.length ≤ 1000000) (hφ : X.length + Y.length < φ) :
    z3e φ (P ++ X ++ Y ++ Q) (P.length : Int) ((P.length : Int) + X.length) ((P.length : Int) + X.length + Y.length) y = some (P ++ Y ++ X ++ Q) := by
  have := zj4 φ y φ P X Y Q hX hY hl (by omega) hφ
  rw [← this]
  unfold z3e
  have w1 : W ((P.length : Int) + X.length - P.length) = (X.length : Int) := by rw [W_id (by omega) (by omega)]; omega
  have w2 : W ((P.length : Int) + X.length + Y.length - ((P.length : Int) + X.length)) = (Y.length : Int) := by rw [W_id (by omega) (by omega)]; omega
  rw [w1, w2]
end
end Px
end
section
namespace Px
open Go
set_option linter.unusedVariables false
set_option linter.unusedSimpArgs false
set_option maxHeartbeats 2000000
section
variable {D : z4 → Prop} {lt : z4 → z4 → Bool} {y : z4 → z4 → Option Int}
theorem zfq (φ : Nat) (k : List z4 → Option (List z4)) (x : z4) : ∀ (n : Nat) (P C E : List z4), P.length + C.length + E.length ≤ 999999 → C.length < n →
    z17 φ ((P.length : Int) + C.length + 1) k n (P.length : Int) (P ++ x :: (C ++ E)) = k (P ++ C ++ x :: E) := by
  intro n
  induction n with
  | zero => intro P C E _ h; omega
  | succ n ih =>
    intro P C E hl hn
    have w0 : W ((P.length : Int) + C.length + 1 - 1) = (P.length : Int) + C.length := by rw [W_id (by omega) (by omega)]; omega
    rw [z17, w0]
    cases C with
    | nil => rw [if_neg (by simp)]; simp
    | cons w C =>
      simp only [List.length_cons] at hl hn
      have w1 : W ((P.length : Int) + 1) = (P.length : Int) + 1 := W_id (by omega) (by omega)
      have e1 : P ++ x :: (w :: C ++ E) = (P ++ [x]) ++ w :: (C ++ E) := by simp
      have g1 : gt (P ++ x :: (w :: C ++ E)) (P.length : Int) = x := z5u rfl
      have g2 : gt (P ++ x :: (w :: C ++ E)) ((P.length : Int) + 1) = w := by rw [e1]; exact z5u (by simp)
      have s1 : z2o (P ++ x :: (w :: C ++ E)) (P.length : Int) w = P ++ w :: (w :: C ++ E) := z8l rfl
      have e2 : P ++ w :: (w :: C ++ E) = (P ++ [w]) ++ w :: (C ++ E) := by simp
      have s2 : z2o ((P ++ [w]) ++ w :: (C ++ E)) ((P.length : Int) + 1) x = (P ++ [w]) ++ x :: (C ++ E) := z8l (by simp)
      have hlen : ((P ++ x :: (w :: C ++ E)).length : Int) = P.length + C.length + E.length + 2 := by simp; omega
      have hlen2 : (((P ++ [w]) ++ w :: (C ++ E)).length : Int) = P.length + C.length + E.length + 2 := by simp; omega
      rw [if_pos (by simp; omega), w1, g1, g2, s1, e2, s2, hlen, hlen2, zj ⟨by omega, by omega⟩, zj ⟨by omega, by omega⟩, zj ⟨by omega, by omega⟩]
      have := ih (P ++ [w]) C E (by simp; omega) (by omega)
      have e3 : (((P ++ [w]).length : Nat) : Int) = (P.length : Int) + 1 := by simp
      have e4 : (P.length : Int) + ((w :: C).length : Nat) + 1 = (P.length : Int) + 1 + C.length + 1 := by simp; omega
      rw [e3] at this
      rw [e4, this]
      simp
theorem zek (φ : Nat) (k : List z4 → Option (List z4)) (x : z4) (P : List z4) : ∀ (n : Nat) (C E : List z4), P.length + C.length + E.length ≤ 999999 → C.length < n →
    z16 φ (P.length : Int) k n ((P.length : Int) + C.length) (P ++ C ++ x :: E) = k (P ++ x :: (C ++ E)) := by
  intro n
  induction n with
  | zero => intro C E _ h; omega
  | succ n ih =>
    intro C E hl hn
    rw [z16]
    rcases z4u C with rfl | ⟨S, z, rfl⟩
    · rw [if_neg (by simp)]; simp
    · simp only [List.length_append, List.length_cons, List.length_nil] at hl hn
      have w1 : W ((P.length : Int) + ((S ++ [z]).length : Nat) - 1) = (P.length : Int) + S.length := by
        rw [W_id (by simp; omega) (by simp; omega)]; simp; omega
      have e1 : P ++ (S ++ [z]) ++ x :: E = (P ++ S ++ [z]) ++ x :: E := by simp
      have e2 : P ++ (S ++ [z]) ++ x :: E = (P ++ S) ++ z :: (x :: E) := by simp
      have g1 : gt (P ++ (S ++ [z]) ++ x :: E) ((P.length : Int) + ((S ++ [z]).length : Nat)) = x := by rw [e1]; exact z5u (by simp <;> omega)
      have g2 : gt (P ++ (S ++ [z]) ++ x :: E) ((P.length : Int) + S.length) = z := by rw [e2]; exact z5u (by simp)
      have s1 : z2o (P ++ (S ++ [z]) ++ x :: E) ((P.length : Int) + ((S ++ [z]).length : Nat)) z = (P ++ S) ++ z :: (z :: E) := by rw [e1, z8l (by simp <;> omega)]; simp
      have s2 : z2o ((P ++ S) ++ z :: (z :: E)) ((P.length : Int) + S.length) x = P ++ S ++ x :: (z :: E) := z8l (by simp)
      have hlen : ((P ++ (S ++ [z]) ++ x :: E).length : Int) = P.length + S.length + E.length + 2 := by simp; omega
      have hlen2 : (((P ++ S) ++ z :: (z :: E)).length : Int) = P.length + S.length + E.length + 2 := by simp; omega
      rw [if_pos (by simp; omega), w1, g1, g2, s1, s2, hlen, hlen2, zj ⟨by omega, by omega⟩, zj ⟨by omega, by simp; omega⟩, zj ⟨by omega, by omega⟩]
      rw [ih S (z :: E) (by simp; omega) (by omega)]
      simp
/-- One element before a sorted list. -/
theorem zdv (hs : Swo lt) (hy : Cmp D y lt) (φ : Nat) (P L Q : List z4) (x : z4) (hx : D x) (hD : ∀ z ∈ L, D z) (hS : Srt lt L) (hl : P.length + L.length + Q.length ≤ 999998) (hφ : P.length + L.length + 2 < φ) :
    ∃ R, Srt lt R ∧ Stb lt (x :: L) R ∧ zx φ (P ++ x :: (L ++ Q)) (P.length : Int) y (zu φ (P ++ x :: (L ++ Q)) (P.length : Int)) φ ((P.length : Int) + 1) ((P.length : Int) + 1 + L.length) = some (P ++ R ++ Q) := by
  have gx : gt (P ++ x :: (L ++ Q)) (P.length : Int) = x := z5u rfl
  have hlen : ((P ++ x :: (L ++ Q)).length : Int) = P.length + L.length + Q.length + 1 := by simp; omega
  have gL : ∀ i : Nat, P.length + 1 ≤ i → i < P.length + 1 + L.length → gt (P ++ x :: (L ++ Q)) (i : Int) = gt L ((i - (P.length + 1) : Nat) : Int) := by
    intro i h1 h2
    have e : P ++ x :: (L ++ Q) = (P ++ [x]) ++ (L ++ Q) := by simp
    rw [e, z55 _ _ _ (by simp; omega), z6l _ _ _ (by simp; omega) (by simp; omega)]
    congr 1; simp; omega
  obtain ⟨c, h1, h2, h3, h4, h5⟩ := zcr (zx φ (P ++ x :: (L ++ Q)) (P.length : Int) y (zu φ (P ++ x :: (L ++ Q)) (P.length : Int)))
    (zu φ (P ++ x :: (L ++ Q)) (P.length : Int)) (fun h => lt (gt (P ++ x :: (L ++ Q)) (h : Int)) x) (P.length + 1 + L.length) (P.length + 1)
    (by
      intro n s r h0 hlt hR
      have hm : (W ((U (W ((s : Int) + r))).fdiv 2)) = (((s + r) / 2 : Nat) : Int) := by rw [zen (by omega) (by omega)]; omega
      have hm1 : W ((((s + r) / 2 : Nat) : Int) + 1) = (((s + r) / 2 + 1 : Nat) : Int) := by rw [W_id (by omega) (by omega)]; simp
      obtain ⟨w, hw1, hw2⟩ := hy (gt (P ++ x :: (L ++ Q)) (((s + r) / 2 : Nat) : Int)) x (by
        rw [gL _ (by omega) (by omega)]; exact hD _ (z9h (by omega) (by omega))) hx
      rw [zx, if_pos (by simp; omega), hm, hm1, hlen, gx, zj ⟨by omega, by omega⟩, zj ⟨by omega, by omega⟩, hw1]
      simp only [Option.bind_some, hw2])
    (by
      intro n s
      rw [zx, if_neg (by simp)]) φ (P.length + 1) (P.length + 1 + L.length) (Nat.le_refl _) (by omega) (Nat.le_refl _) (by omega)
  obtain ⟨C, E, rfl, hC⟩ : ∃ C E, L = C ++ E ∧ C.length = c - (P.length + 1) := ⟨L.take (c - (P.length + 1)), L.drop (c - (P.length + 1)), (List.take_append_drop _ _).symm, by simp; omega⟩
  simp only [List.length_append] at hl hφ h2 gL
  have hCx : ∀ z ∈ C, lt z x = true := by
    intro z hz
    rcases z4u C with rfl | ⟨S, w, rfl⟩
    · cases hz
    · simp only [List.length_append, List.length_cons, List.length_nil] at hC hz hS gL h2
      have hp : lt w x = true := by
        rcases h3 with h3 | h3
        · omega
        · rw [gL _ (by omega) (by omega)] at h3
          have e : S ++ [w] ++ E = S ++ w :: E := by simp
          rw [e, z5u (by omega)] at h3
          exact h3
      rcases List.mem_append.1 hz with h | h
      · exact z95 hs (hS.parts.1.parts.2.2 z h w (by simp)) hp (hs.irr x)
      · simp at h; rw [h]; exact hp
  have hEx : ∀ z ∈ E, lt z x = false := by
    intro z hz
    cases E with
    | nil => cases hz
    | cons w E =>
      simp only [List.length_cons] at h2 gL h4
      have hp : lt w x = false := by
        rcases h4 with h4 | h4
        · simp at h4; omega
        · rw [gL _ (by omega) (by omega), z5u (by omega)] at h4
          exact h4
      rcases List.mem_cons.1 hz with h | h
      · rw [h]; exact hp
      · exact hs.ntr _ _ _ ((List.pairwise_cons.1 hS.parts.2.1).1 z h) hp
  have hm := z8e hs (A := []) (B := [x]) (C := C) (E := E) (R1 := C) (R2 := x :: E) (List.pairwise_singleton _ _) hS (by simpa using hCx) (by simp) hS.parts.1 (by simpa using Stb.refl C) (List.pairwise_cons.2 ⟨hEx, hS.parts.2.1⟩) (by simpa using Stb.refl (x :: E))
  refine ⟨C ++ x :: E, hm.1, by simpa using hm.2, ?_⟩
  have e5 : ((P.length : Int) + 1 + ((C ++ E).length : Nat)) = ((P.length + 1 + (C ++ E).length : Nat) : Int) := by simp
  have e6 : ((P.length : Int) + 1) = ((P.length + 1 : Nat) : Int) := by simp
  rw [e5, e6, h5]
  unfold zu
  have e7 : (c : Int) = (P.length : Int) + C.length + 1 := by omega
  have e8 : P ++ x :: (C ++ E ++ Q) = P ++ x :: (C ++ (E ++ Q)) := by simp
  rw [e7, e8, zfq φ _ x φ P C (E ++ Q) (by simp; omega) (by omega)]
  simp [z15]
/-- A sorted list before one element. -/
theorem zei (hs : Swo lt) (hy : Cmp D y lt) (φ : Nat) (P L Q : List z4) (x : z4) (hx : D x) (hD : ∀ z ∈ L, D z) (hS : Srt lt L) (hl : P.length + L.length + Q.length ≤ 999998) (hφ : P.length + L.length + 2 < φ) :
    ∃ R, Srt lt R ∧ Stb lt (L ++ [x]) R ∧ zr φ (P ++ L ++ x :: Q) ((P.length : Int) + L.length) y (zw φ (P ++ L ++ x :: Q) ((P.length : Int) + L.length)) φ (P.length : Int) ((P.length : Int) + L.length) = some (P ++ R ++ Q) := by
  have gx : gt (P ++ L ++ x :: Q) ((P.length : Int) + L.length) = x := z5u (by simp)
  have hlen : ((P ++ L ++ x :: Q).length : Int) = P.length + L.length + Q.length + 1 := by simp; omega
  have gL : ∀ i : Nat, P.length ≤ i → i < P.length + L.length → gt (P ++ L ++ x :: Q) (i : Int) = gt L ((i - P.length : Nat) : Int) := by
    intro i h1 h2
    rw [List.append_assoc, z55 _ _ _ (by omega), z6l _ _ _ (by omega) (by omega)]
    congr 1; omega
  obtain ⟨c, h1, h2, h3, h4, h5⟩ := zcr (zr φ (P ++ L ++ x :: Q) ((P.length : Int) + L.length) y (zw φ (P ++ L ++ x :: Q) ((P.length : Int) + L.length)))
    (zw φ (P ++ L ++ x :: Q) ((P.length : Int) + L.length)) (fun h => !lt x (gt (P ++ L ++ x :: Q) (h : Int))) (P.length + L.length) P.length
    (by
      intro n s r h0 hlt hR
      have hm : (W ((U (W ((s : Int) + r))).fdiv 2)) = (((s + r) / 2 : Nat) : Int) := by rw [zen (by omega) (by omega)]; omega
      have hm1 : W ((((s + r) / 2 : Nat) : Int) + 1) = (((s + r) / 2 + 1 : Nat) : Int) := by rw [W_id (by omega) (by omega)]; simp
      obtain ⟨w, hw1, hw2⟩ := hy x (gt (P ++ L ++ x :: Q) (((s + r) / 2 : Nat) : Int)) hx (by
        rw [gL _ (by omega) (by omega)]; exact hD _ (z9h (by omega) (by omega)))
      rw [zr, if_pos (by simp; omega), hm, hm1, hlen, gx, zj ⟨by omega, by omega⟩, zj ⟨by omega, by omega⟩, hw1]
      simp only [Option.bind_some, hw2])
    (by
      intro n s
      rw [zr, if_neg (by simp)]) φ P.length (P.length + L.length) (Nat.le_refl _) (by omega) (Nat.le_refl _) (by omega)
  obtain ⟨A, B, rfl, hC⟩ : ∃ A B, L = A ++ B ∧ A.length = c - P.length := ⟨L.take (c - P.length), L.drop (c - P.length), (List.take_append_drop _ _).symm, by simp; omega⟩
  simp only [List.length_append] at hl hφ h2 gL
  have hA : ∀ z ∈ A, lt x z = false := by
    intro z hz
    rcases z4u A with rfl | ⟨S, w, rfl⟩
    · cases hz
    · simp only [List.length_append, List.length_cons, List.length_nil] at hC hz hS gL h2
      have hp : lt x w = false := by
        rcases h3 with h3 | h3
        · omega
        · rw [gL _ (by omega) (by omega)] at h3
          have e : S ++ [w] ++ B = S ++ w :: B := by simp
          rw [e, z5u (by omega)] at h3
          simpa using h3
      rcases List.mem_append.1 hz with h | h
      · exact hs.ntr _ _ _ hp (hS.parts.1.parts.2.2 z h w (by simp))
      · simp at h; rw [h]; exact hp
  have hB : ∀ z ∈ B, lt x z = true := by
    intro z hz
    cases B with
    | nil => cases hz
    | cons w B =>
      simp only [List.length_cons] at h2 gL h4
      have hp : lt x w = true := by
        rcases h4 with h4 | h4
        · simp at h4; omega
        · rw [gL _ (by omega) (by omega), z5u (by omega)] at h4
          simpa using h4
      rcases List.mem_cons.1 hz with h | h
      · rw [h]; exact hp
      · exact z95 hs (hs.irr x) hp ((List.pairwise_cons.1 hS.parts.2.1).1 z h)
  have hm := z8e hs (A := A) (B := B) (C := [x]) (E := []) (R1 := A ++ [x]) (R2 := B) hS (by rw [List.append_nil]; exact List.pairwise_singleton _ x) (by simpa using hB) (by simp)
    (hS.parts.1.app (List.pairwise_singleton _ _) (by simpa using hA)) (Stb.refl _) hS.parts.2.1 (by simpa using Stb.refl B)
  refine ⟨A ++ [x] ++ B, hm.1, by simpa using hm.2, ?_⟩
  have e5 : ((P.length : Int) + ((A ++ B).length : Nat)) = ((P.length + (A ++ B).length : Nat) : Int) := by simp
  rw [e5] at h5 ⊢
  rw [h5]
  unfold zw
  have e7 : (c : Int) = (((P ++ A).length : Nat) : Int) := by simp; omega
  have e8 : P ++ (A ++ B) ++ x :: Q = (P ++ A) ++ B ++ x :: Q := by simp
  have e9 : ((P.length + (A ++ B).length : Nat) : Int) = (((P ++ A).length : Nat) : Int) + B.length := by simp; omega
  rw [e7, e8, e9, zek φ _ x (P ++ A) φ B Q (by simp; omega) (by omega)]
  simp [z18]
end
end Px
end
section
namespace Px
open Go
set_option linter.unusedVariables false
set_option linter.unusedSimpArgs false
set_option maxHeartbeats 4000000
section
variable {D : z4 → Prop} {lt : z4 → z4 → Bool} {y : z4 → z4 → Option Int}
/-- Where the two lists are split. -/
theorem zgw (hs : Swo lt) (hy : Cmp D y lt) (φ : Nat) (P L1 L2 Q : List z4) (k : Int → Option (List z4)) (hD1 : ∀ z ∈ L1, D z) (hD2 : ∀ z ∈ L2, D z) (hS1 : Srt lt L1) (hS2 : Srt lt L2)
    (a m b mid s0 r0 : Nat) (ha : a = P.length) (hm : m = a + L1.length) (hb : b = m + L2.length) (hmid : mid = (a + b) / 2) (hl : b + Q.length ≤ 999998) (hφ : b < φ)
    (h1 : 1 ≤ L1.length) (h2 : 1 ≤ L2.length) (hs0 : (mid < m ∧ s0 = mid + m - b ∧ r0 = mid) ∨ (m ≤ mid ∧ s0 = a ∧ r0 = m)) :
    ∃ A B C E, L1 = A ++ B ∧ L2 = C ++ E ∧ mid + m - (a + A.length) = m + C.length ∧ (∀ x ∈ B, ∀ y ∈ C, lt y x = true) ∧ (∀ x ∈ A, ∀ y ∈ E, lt y x = false) ∧
      zt φ (P ++ L1 ++ L2 ++ Q) (a : Int) (m : Int) (b : Int) y k φ (s0 : Int) (r0 : Int) = k ((a + A.length : Nat) : Int) := by
  have g1 : ∀ i : Nat, a ≤ i → i < m → gt (P ++ L1 ++ L2 ++ Q) (i : Int) = gt L1 ((i - a : Nat) : Int) := by
    intro i q1 q2
    have e : P ++ L1 ++ L2 ++ Q = P ++ (L1 ++ (L2 ++ Q)) := by simp
    rw [e, z55 _ _ _ (by omega), z6l _ _ _ (by omega) (by omega)]
    congr 1; omega
  have g2 : ∀ i : Nat, m ≤ i → i < b → gt (P ++ L1 ++ L2 ++ Q) (i : Int) = gt L2 ((i - m : Nat) : Int) := by
    intro i q1 q2
    have e : P ++ L1 ++ L2 ++ Q = (P ++ L1) ++ (L2 ++ Q) := by simp
    rw [e, z55 _ _ _ (by simp; omega), z6l _ _ _ (by simp; omega) (by simp; omega)]
    congr 1; simp; omega
  have hlen : ((P ++ L1 ++ L2 ++ Q).length : Int) = b + Q.length := by simp; omega
  have hW : W ((U (W ((a : Int) + b))).fdiv 2) = (mid : Int) := by rw [zen (by omega) (by omega)]; omega
  have hn : W ((mid : Int) + m) = ((mid + m : Nat) : Int) := by rw [W_id (by omega) (by omega)]; simp
  have hp : W (((mid + m : Nat) : Int) - 1) = ((mid + m - 1 : Nat) : Int) := by rw [W_id (by omega) (by omega)]; omega
  have hmb : mid ≤ b := by omega
  have ham : a ≤ mid := by omega
  obtain ⟨c, h3, h4, h5, h6, h7⟩ := zcr (zt φ (P ++ L1 ++ L2 ++ Q) (a : Int) (m : Int) (b : Int) y k) k
    (fun c => !lt (gt (P ++ L1 ++ L2 ++ Q) ((mid + m - 1 - c : Nat) : Int)) (gt (P ++ L1 ++ L2 ++ Q) (c : Int))) r0 s0
    (by
      intro n s r q0 hlt hR
      have hm' : (W ((U (W ((s : Int) + r))).fdiv 2)) = (((s + r) / 2 : Nat) : Int) := by rw [zen (by omega) (by omega)]; omega
      have hm1 : W ((((s + r) / 2 : Nat) : Int) + 1) = (((s + r) / 2 + 1 : Nat) : Int) := by rw [W_id (by omega) (by omega)]; simp
      have hpc : W (((mid + m - 1 : Nat) : Int) - (((s + r) / 2 : Nat) : Int)) = ((mid + m - 1 - (s + r) / 2 : Nat) : Int) := by rw [W_id (by omega) (by omega)]; omega
      obtain ⟨w, hw1, hw2⟩ := hy (gt (P ++ L1 ++ L2 ++ Q) ((mid + m - 1 - (s + r) / 2 : Nat) : Int)) (gt (P ++ L1 ++ L2 ++ Q) (((s + r) / 2 : Nat) : Int))
        (by rw [g2 _ (by omega) (by omega)]; exact hD2 _ (z9h (by omega) (by omega))) (by rw [g1 _ (by omega) (by omega)]; exact hD1 _ (z9h (by omega) (by omega)))
      rw [zt, if_pos (by simp; omega), hm', hm1, hW, hn, hp, hpc, hlen, zj ⟨by omega, by omega⟩, zj ⟨by omega, by omega⟩, hw1]
      simp only [Option.bind_some, hw2])
    (by
      intro n s
      rw [zt, if_neg (by simp)]) φ s0 r0 (Nat.le_refl _) (by omega) (Nat.le_refl _) (by omega)
  obtain ⟨A, B, rfl, hA⟩ : ∃ A B, L1 = A ++ B ∧ A.length = c - a := ⟨L1.take (c - a), L1.drop (c - a), (List.take_append_drop _ _).symm, by simp; omega⟩
  obtain ⟨C, E, rfl, hC⟩ : ∃ C E, L2 = C ++ E ∧ C.length = mid - c := ⟨L2.take (mid - c), L2.drop (mid - c), (List.take_append_drop _ _).symm, by simp; omega⟩
  simp only [List.length_append] at hm hb g1 g2
  refine ⟨A, B, C, E, rfl, rfl, by omega, ?_, ?_, ?_⟩
  · intro x hx z hz
    rcases z4u C with rfl | ⟨S, w, rfl⟩
    · cases hz
    · cases B with
      | nil => cases hx
      | cons x0 B =>
        simp only [List.length_append, List.length_cons, List.length_nil] at hC hm hb g1 g2 hA
        have hp : lt w x0 = true := by
          rcases h6 with h6 | h6
          · omega
          · rw [g1 c (by omega) (by omega), g2 (mid + m - 1 - c) (by omega) (by omega)] at h6
            have e : S ++ [w] ++ E = S ++ w :: E := by simp
            rw [e, z5u (by omega), z5u (by omega)] at h6
            simpa using h6
        have hz1 : lt w z = false := by
          rcases List.mem_append.1 hz with h | h
          · exact hS2.parts.1.parts.2.2 z h w (by simp)
          · simp at h; rw [h]; exact hs.irr _
        have hx1 : lt x x0 = false := by
          rcases List.mem_cons.1 hx with h | h
          · rw [h]; exact hs.irr _
          · exact (List.pairwise_cons.1 hS1.parts.2.1).1 x h
        exact z95 hs hz1 hp hx1
  · intro x hx z hz
    rcases z4u A with rfl | ⟨S, w, rfl⟩
    · cases hx
    · cases E with
      | nil => cases hz
      | cons e0 E =>
        simp only [List.length_append, List.length_cons, List.length_nil] at hC hm hb g1 g2 hA
        have hp : lt e0 w = false := by
          rcases h5 with h5 | h5
          · omega
          · have e1 : mid + m - 1 - (c - 1) = mid + m - c := by omega
            rw [e1, g1 (c - 1) (by omega) (by omega), g2 (mid + m - c) (by omega) (by omega)] at h5
            have e : S ++ [w] ++ B = S ++ w :: B := by simp
            rw [e, z5u (by omega), z5u (by omega)] at h5
            simpa using h5
        have hz1 : lt z e0 = false := by
          rcases List.mem_cons.1 hz with h | h
          · rw [h]; exact hs.irr _
          · exact (List.pairwise_cons.1 hS2.parts.2.1).1 z h
        have hx1 : lt w x = false := by
          rcases List.mem_append.1 hx with h | h
          · exact hS1.parts.1.parts.2.2 x h w (by simp)
          · simp at h; rw [h]; exact hs.irr _
        exact zej hs hz1 hp hx1
  · rw [h7]
    congr 1
    omega
/-- Merging two sorted lists in place. -/
theorem zbw (hs : Swo lt) (hy : Cmp D y lt) : ∀ (φ : Nat) (P L1 L2 Q : List z4), (∀ z ∈ L1, D z) → (∀ z ∈ L2, D z) → Srt lt L1 → Srt lt L2 → L1 ≠ [] → L2 ≠ [] →
    P.length + L1.length + L2.length + Q.length ≤ 999998 → P.length + L1.length + L2.length + (L1.length + L2.length) + 3 < φ →
    ∃ R, Srt lt R ∧ Stb lt (L1 ++ L2) R ∧ z7 φ (P ++ L1 ++ L2 ++ Q) (P.length : Int) ((P.length : Int) + L1.length) ((P.length : Int) + L1.length + L2.length) y = some (P ++ R ++ Q) := by
  intro φ
  induction φ with
  | zero => intro P L1 L2 Q _ _ _ _ _ _ _ h; omega
  | succ φ ih =>
    intro P L1 L2 Q hD1 hD2 hS1 hS2 hn1 hn2 hl hφ
    have hp1 := List.length_pos_iff.2 hn1
    have hp2 := List.length_pos_iff.2 hn2
    rw [z7]
    have w1 : W ((P.length : Int) + L1.length - P.length) = (L1.length : Int) := by rw [W_id (by omega) (by omega)]; omega
    have w2 : W ((P.length : Int) + L1.length + L2.length - ((P.length : Int) + L1.length)) = (L2.length : Int) := by rw [W_id (by omega) (by omega)]; omega
    rw [w1, w2]
    by_cases q1 : L1.length = 1
    · rw [if_pos (by simp [q1])]
      match L1, q1 with
      | [x], _ =>
        obtain ⟨R, r1, r2, r3⟩ := zdv hs hy φ P L2 Q x (hD1 x (by simp)) hD2 hS2 (by simp at hl; omega) (by simp at hφ; omega)
        refine ⟨R, r1, r2, ?_⟩
        rw [← r3]
        simp
    · rw [if_neg (by simp; omega)]
      by_cases q2 : L2.length = 1
      · rw [if_pos (by simp [q2])]
        match L2, q2 with
        | [x], _ =>
          obtain ⟨R, r1, r2, r3⟩ := zei hs hy φ P L1 Q x (hD2 x (by simp)) hD1 hS1 (by simp at hl; omega) (by simp at hφ; omega)
          refine ⟨R, r1, r2, ?_⟩
          rw [← r3]
          simp
      · rw [if_neg (by simp; omega)]
        obtain ⟨a, ha⟩ : ∃ a, a = P.length := ⟨_, rfl⟩
        obtain ⟨m, hm⟩ : ∃ m, m = a + L1.length := ⟨_, rfl⟩
        obtain ⟨b, hb⟩ : ∃ b, b = m + L2.length := ⟨_, rfl⟩
        obtain ⟨mid, hmid⟩ : ∃ mid, mid = (a + b) / 2 := ⟨_, rfl⟩
        have ea : (P.length : Int) = (a : Int) := by omega
        have em : (P.length : Int) + L1.length = (m : Int) := by omega
        have eb : (P.length : Int) + L1.length + L2.length = (b : Int) := by omega
        rw [eb, em, ea]
        have hW : W ((U (W ((a : Int) + b))).fdiv 2) = (mid : Int) := by rw [zen (by omega) (by omega)]; omega
        have hn : W ((mid : Int) + m) = ((mid + m : Nat) : Int) := by rw [W_id (by omega) (by omega)]; simp
        rw [hW, hn]
        have key : ∃ s0 r0 : Nat, ((mid < m ∧ s0 = mid + m - b ∧ r0 = mid) ∨ (m ≤ mid ∧ s0 = a ∧ r0 = m)) ∧
            (if decide ((mid : Int) < m) = true then z03 φ (P ++ L1 ++ L2 ++ Q) (a : Int) (m : Int) (b : Int) y (z7 φ) (W (((mid + m : Nat) : Int) - b)) (mid : Int)
              else z03 φ (P ++ L1 ++ L2 ++ Q) (a : Int) (m : Int) (b : Int) y (z7 φ) (a : Int) (m : Int)) =
            z03 φ (P ++ L1 ++ L2 ++ Q) (a : Int) (m : Int) (b : Int) y (z7 φ) (s0 : Int) (r0 : Int) := by
          by_cases q : mid < m
          · refine ⟨mid + m - b, mid, .inl ⟨q, rfl, rfl⟩, ?_⟩
            have : W (((mid + m : Nat) : Int) - b) = ((mid + m - b : Nat) : Int) := by rw [W_id (by omega) (by omega)]; omega
            rw [if_pos (by simp; omega), this]
          · refine ⟨a, m, .inr ⟨by omega, rfl, rfl⟩, ?_⟩
            rw [if_neg (by simp; omega)]
        obtain ⟨s0, r0, hk, e⟩ := key
        rw [e]
        unfold z03
        obtain ⟨A, B, C, E, rfl, rfl, hc, hA, hB, hL⟩ := zgw hs hy φ P L1 L2 Q (z04 φ (P ++ L1 ++ L2 ++ Q) (a : Int) (m : Int) (b : Int) y (z7 φ)) hD1 hD2 hS1 hS2 a m b mid s0 r0 ha hm hb hmid (by omega) (by omega) (by omega) (by omega) hk
        rw [hL]
        simp only [List.length_append] at hm hb hl hφ hp1 hp2 q1 q2
        have hcm : mid = a + A.length + C.length := by omega
        have hend : W (((mid + m : Nat) : Int) - ((a + A.length : Nat) : Int)) = ((m + C.length : Nat) : Int) := by rw [W_id (by omega) (by omega)]; omega
        have step1 : z04 φ (P ++ (A ++ B) ++ (C ++ E) ++ Q) (a : Int) (m : Int) (b : Int) y (z7 φ) ((a + A.length : Nat) : Int) =
            z0m φ (a : Int) (m : Int) (b : Int) y (z7 φ) ((a + A.length : Nat) : Int) (P ++ A ++ C ++ B ++ E ++ Q) := by
          unfold z04
          rw [hW, hn, hend]
          by_cases hBC : B = [] ∨ C = []
          · rw [if_neg (by
              rcases hBC with rfl | rfl
              · simp at hm ⊢; omega
              · simp)]
            rcases hBC with rfl | rfl <;> simp
          · obtain ⟨hB0, hC0⟩ := not_or.1 hBC
            have b0 := List.length_pos_iff.2 hB0
            have c0 := List.length_pos_iff.2 hC0
            rw [if_pos (by simp; omega)]
            have := zh1 φ (P ++ A) B C (E ++ Q) y hB0 hC0 (by simp; omega) (by omega)
            have e1 : P ++ (A ++ B) ++ (C ++ E) ++ Q = P ++ A ++ B ++ C ++ (E ++ Q) := by simp
            have e2 : ((a + A.length : Nat) : Int) = ((P ++ A).length : Nat) := by simp; omega
            have e3 : (m : Int) = ((P ++ A).length : Nat) + (B.length : Int) := by simp; omega
            have e4 : ((m + C.length : Nat) : Int) = ((P ++ A).length : Nat) + (B.length : Int) + C.length := by simp; omega
            rw [e1]
            conv => lhs; rw [e4, e2]; arg 1; rw [e3]
            rw [this]
            simp [ha]
        rw [step1]
        have step2 : ∃ R1, Srt lt R1 ∧ Stb lt (A ++ C) R1 ∧ z0m φ (a : Int) (m : Int) (b : Int) y (z7 φ) ((a + A.length : Nat) : Int) (P ++ A ++ C ++ B ++ E ++ Q) =
            z0h φ (a : Int) (m : Int) (b : Int) y (z7 φ) ((a + A.length : Nat) : Int) (P ++ R1 ++ B ++ E ++ Q) := by
          unfold z0m
          rw [hW]
          by_cases hAC : A = [] ∨ C = []
          · refine ⟨A ++ C, ?_, Stb.refl _, ?_⟩
            · rcases hAC with rfl | rfl
              · simpa using hS2.parts.1
              · simpa using hS1.parts.1
            · rw [if_neg (by
                rcases hAC with rfl | rfl
                · simp
                · simp at hcm ⊢; omega)]
              simp
          · obtain ⟨hA0, hC0⟩ := not_or.1 hAC
            have a0 := List.length_pos_iff.2 hA0
            have c0 := List.length_pos_iff.2 hC0
            obtain ⟨R1, r1, r2, r3⟩ := ih P A C (B ++ E ++ Q) (fun z hz => hD1 z (by simp [hz])) (fun z hz => hD2 z (by simp [hz])) hS1.parts.1 hS2.parts.1 hA0 hC0 (by simp; omega) (by omega)
            refine ⟨R1, r1, r2, ?_⟩
            rw [if_pos (by simp; omega)]
            have e1 : P ++ A ++ C ++ B ++ E ++ Q = P ++ A ++ C ++ (B ++ E ++ Q) := by simp
            have e2 : ((a + A.length : Nat) : Int) = (P.length : Int) + A.length := by simp; omega
            have e3 : (mid : Int) = (P.length : Int) + A.length + C.length := by omega
            rw [e1]
            conv => lhs; arg 1; rw [e3, e2, ← ea]
            rw [r3]
            simp
        obtain ⟨R1, r1, r2, e2⟩ := step2
        rw [e2]
        have hR1 : R1.length = A.length + C.length := by rw [r2.len]; simp
        have step3 : ∃ R2, Srt lt R2 ∧ Stb lt (B ++ E) R2 ∧ z0h φ (a : Int) (m : Int) (b : Int) y (z7 φ) ((a + A.length : Nat) : Int) (P ++ R1 ++ B ++ E ++ Q) = some (P ++ (R1 ++ R2) ++ Q) := by
          unfold z0h
          rw [hW, hn, hend]
          by_cases hBE : B = [] ∨ E = []
          · refine ⟨B ++ E, ?_, Stb.refl _, ?_⟩
            · rcases hBE with rfl | rfl
              · simpa using hS2.parts.2.1
              · simpa using hS1.parts.2.1
            · rw [if_neg (by
                rcases hBE with rfl | rfl
                · simp at hm ⊢; omega
                · simp at hb ⊢; omega)]
              simp
          · obtain ⟨hB0, hE0⟩ := not_or.1 hBE
            have b0 := List.length_pos_iff.2 hB0
            have c0 := List.length_pos_iff.2 hE0
            obtain ⟨R2, p1, p2, p3⟩ := ih (P ++ R1) B E Q (fun z hz => hD1 z (by simp [hz])) (fun z hz => hD2 z (by simp [hz])) hS1.parts.2.1 hS2.parts.2.1 hB0 hE0 (by simp; omega) (by simp; omega)
            refine ⟨R2, p1, p2, ?_⟩
            rw [if_pos (by simp; omega)]
            have e1 : (mid : Int) = ((P ++ R1).length : Nat) := by simp; omega
            have e3 : ((m + C.length : Nat) : Int) = ((P ++ R1).length : Nat) + (B.length : Int) := by simp; omega
            have e4 : (b : Int) = ((P ++ R1).length : Nat) + (B.length : Int) + E.length := by simp; omega
            conv => lhs; arg 1; rw [e4, e3, e1]
            rw [p3]
            simp
        obtain ⟨R2, p1, p2, e3⟩ := step3
        rw [e3]
        have hm' := z8e hs hS1 hS2 hA hB r1 r2 p1 p2
        exact ⟨R1 ++ R2, hm'.1, hm'.2, rfl⟩
end
end Px
end
