/- A part of the proof of handoverMaximal_holds. Conditions: none. -/
import Derived.Test.YteljjchaealkoaaMxe
section
set_option linter.unusedVariables false
set_option linter.unusedSimpArgs false
set_option maxHeartbeats 4000000
set_option maxRecDepth 100000
namespace Px
open Go Go.RowKit Go.Proofs
theorem zdv {P : Program} (H : P = Try.prog) (φ : Nat) (v1 : zd1) (v2 : Int) (r : (Bool)) (h : z9d φ v1 v2 = some r) : z0d P 67 [(agg (z6m v1)), (iv .i64 v2)] (fun x news => x = (bv r) ∧ news = []) := by
 unfold z9d at h
 refine z0d.of_code' 30 (fn67 H) rfl rfl (Nat.le_of_ble_eq_true rfl) fun w0 base r0 wI => ?_
 refine cl [0, 1] [] rfl rfl rfl (cs (cr [0, 1] rfl (n1 rfl (z6e (Ce.agg (mv rfl)) fun b3 => q1 rfl (z1 ct) (rn (al [1, 2] [0] rfl rfl rfl (sq (cs (cr [0, 1, 2, 3, 4, 5, 6, 7, 8, 9, 10, 11, 12, 13, 14, 15, 16, 17, 18, 19, 20, 21, 22, 23, 24, 25] rfl (q1 rfl (z3 (zqz H) (mv rfl)) (q1 rfl (lb (tl3 H) 0 (mv rfl) rfl rfl) ?_)))))))))))
 refine q1 rfl (z0 (mv rfl)) (q1 rfl (z24 (mv rfl) ct) (zn h fun y4 ey4 h => q1 rfl (oQ (z9j H) (z0v H φ v1.fType 0 (W (v2 - 1)) _ ey4) z5 ⟨ef (mv rfl), ef ct, ef (mv rfl), trivial⟩) (q1 rfl (z0 (mv rfl)) (g1 rfl rfl (fun g5 => z3 (zrp H) (mv rfl)) (g1 rfl rfl (fun g6 => lb (tl3 H) 0 (mc rfl g6) rfl rfl) (zn h fun y8 ey8 h => g1 rfl rfl (fun g7 => oQ (z9j H) (z0v H φ v1.fOwner 0 63 _ (zr ey8 g7)) z5 ⟨ef (mc rfl g7), ef ct, ef ct, trivial⟩) (q1 rfl (z2w (mv rfl) (fun g9 => (mc rfl g9)) ct) (q1 rfl (z0 (mv rfl)) (g1 rfl rfl (fun g10 => z3 (zjw H) (mv rfl)) ?_)))))))))
 refine g1 rfl rfl (fun g11 => lb (tl3 H) 0 (mc rfl g11) rfl rfl) (zn h fun y13 ey13 h => g1 rfl rfl (fun g12 => oQ (z9j H) (z0v H φ v1.fHome 0 511 _ (zr ey13 g12)) z5 ⟨ef (mc rfl g12), ef ct, ef ct, trivial⟩) (q1 rfl (z2w (mv rfl) (fun g14 => (mc rfl g14)) ct) (q1 rfl (z0 (mv rfl)) (g1 rfl rfl (fun g15 => z3 (zqr H) (mv rfl)) (g1 rfl rfl (fun g16 => lb (tl3 H) 0 (mc rfl g16) rfl rfl) (zn h fun y18 ey18 h => g1 rfl rfl (fun g17 => oQ (z9j H) (z0v H φ v1.fBuilt 0 1073741824 _ (zr ey18 g17)) z5 ⟨ef (mc rfl g17), ef ct, ef ct, trivial⟩) (q1 rfl (z2w (mv rfl) (fun g19 => (mc rfl g19)) ct) (q1 rfl (z0 (mv rfl)) (g1 rfl rfl (fun g20 => z3 (zqn H) (mv rfl)) ?_)))))))))
 refine g1 rfl rfl (fun g21 => lb (tl3 H) 0 (mc rfl g21) rfl rfl) (zn h fun y23 ey23 h => g1 rfl rfl (fun g22 => oQ (z9j H) (z0v H φ v1.fWorth 0 1099511627776 _ (zr ey23 g22)) z5 ⟨ef (mc rfl g22), ef ct, ef ct, trivial⟩) (q1 rfl (z2w (mv rfl) (fun g24 => (mc rfl g24)) ct) (q1 rfl (z1 (mv rfl)) (rn (al [4] [] rfl rfl rfl (sq (z2.ret (AtX.ret' (bv ((((y4 && y8) && y13) && y18) && y23)) (zo.one Try.results67 rfl) [] [] trivial rfl ?_))))))))
 obtain rfl := Option.some.inj h
 exact ⟨rfl, rfl⟩
theorem zh5 {P : Program} (H : P = Try.prog) (φ : Nat) (v1 : (List Wash)) (r : (Int)) (h : zal φ v1 = some r) : z0d P 69 [(ro z9g 3 v1)] (fun x news => x = (iv .i64 r) ∧ news = []) := by
 unfold zal at h
 refine z0d.of_code' 57 (fn69 H) rfl rfl (Nat.le_of_ble_eq_true rfl) fun w0 base r0 wI => ?_
 refine cl [0] [] rfl rfl rfl (cs (cr [0] rfl (q1 rfl (z1 ct) (rn (al [0] [] rfl rfl rfl (sq (cs (cr [0, 1] rfl (ckE h fun h2 h => n1 rfl (zts (e := eB) false [.bool false] (sl76 H) lB (ze4 H) rfl rfl ct ct h2.1 h2.2.1 h2.2.2 fun sv3 => q1 rfl (z1 (mv rfl)) ?_))))))))))
 refine rn (al [0, 3] [0] rfl rfl rfl (sq (cs (cs (cr [0] rfl (q1 rfl (z1 ct) (rn (al [0, 3, 4] [0] rfl rfl rfl (sq ?_)))))))))
 refine z2.join (fun z : Unit => (z6s φ)) r (fun z => ⟨zb.of [], []⟩) (fun z h => ?_) (fun hJ4 => ?_)
 ·
  replace h : (z6s φ) = some r := h
  unfold z6s at h
  refine al [] [] rfl rfl rfl (sq (cs (cr [0] rfl (q1 rfl (z1 ct) (rn (al [2] [] rfl rfl rfl (sq (z2.ret (AtX.ret' (iv .i64 0) (zo.one Try.results69 rfl) [] [] trivial rfl ?_)))))))))
  obtain rfl := Option.some.inj h
  exact ⟨rfl, rfl⟩
 ·
  refine z2.block ?_
  refine z2.to (z2.loop (fun n (z : Int × (List Bool)) => z62 φ v1 (z6s φ) n z.1 z.2) r (fun z => ⟨zb.of [(0, (ro z9g 3 v1)), (3, (eqv sv3)), (4, (iv .i64 z.1))], [(row 4 eB 1 z.2 sv3)]⟩) (fun z => rfl) (fun n7 z ih7 h => ?_) φ (0, (List.replicate (4096 : Int).toNat (false : Bool))) h) [0] (sl rfl) (ol rfl) rfl
  obtain ⟨v5, v6⟩ := z
  replace h : z62 φ v1 (z6s φ) (n7 + 1) v5 v6 = some r := h
  rw [z62] at h
  refine cs (cs (cr [0, 1, 2, 3] rfl (q1 rfl (z0 (mv rfl)) (q1 rfl (z0 (mv rfl)) (q1 rfl (z0l (il29 H) (mv rfl)) (q1 rfl (z0n (mv rfl) (mv rfl)) (rn (al [0, 3, 4, 10] [0] rfl rfl rfl (sq ?_)))))))))
  refine cI h rfl (fun c8 h => ?_) (fun c8 h => ?_)
  ·
   refine z2.skip (al [0, 3, 4] [0] rfl rfl rfl (sq (cs (z2.block (cs (cr [0, 1, 2, 3, 4, 5] rfl (q1 rfl (z0 (mv rfl)) (q1 rfl (z0 (mv rfl)) (ckE h fun h9 h => q1 rfl (zk (ix29 H) (mv rfl) (mv rfl) (h9).1 (z7 h9)) (q1 rfl (ln (zpw H) (Pt.rop (mv rfl)) rfl) ?_))))))))))
   refine n1 rfl (z38 _ (ztp H) rfl fun b10 => n1 rfl (sto 1 (zpw H) (mv rfl) (Ce.agg (mv rfl)) rfl rfl rfl rfl (rn (al [0, 3, 4, 5] [0, 1] rfl rfl rfl (sq (cs (cs (cr [0, 1, 2, 3, 4, 5, 6, 7, 8, 9, 10, 11, 12, 13, 14, 15, 16, 17, 18, 19, 20, 21, 22] rfl (q1 rfl (z3 (zd6 H) (mv rfl)) (q1 rfl (lb (tl3 H) 1 (mv rfl) rfl rfl) (zn h fun y11 ey11 h => q1 rfl (oQ (z9j H) (z0v H φ ((gt v1 v5).fFrom) 0 63 _ ey11) z5 ⟨ef (mv rfl), ef ct, ef ct, trivial⟩) ?_)))))))))))
   refine q1 rfl (z7l (mv rfl)) (q1 rfl (z0 (mv rfl)) (g1 rfl rfl (fun g12 => z3 (zd9 H) (mv rfl)) (g1 rfl rfl (fun g13 => lb (tl3 H) 1 (mc rfl g13) rfl rfl) (zn h fun y15 ey15 h => g1 rfl rfl (fun g14 => oQ (z9j H) (z0v H φ ((gt v1 v5).fTo) 0 63 _ (zr ey15 g14)) z5 ⟨ef (mc rfl g14), ef ct, ef ct, trivial⟩) (g1 rfl rfl (fun g16 => z7l (mc rfl g16)) (q1 rfl (opOr (mv rfl) ct (fun g17 => (mc rfl g17))) (q1 rfl (z0 (mv rfl)) (g1 rfl rfl (fun g18 => z3 (zd6 H) (mv rfl)) (g1 rfl rfl (fun g19 => lb (tl3 H) 1 (mc rfl g19) rfl rfl) (g1 rfl rfl (fun g20 => z3 (zd9 H) (mv rfl)) ?_))))))))))
   refine g1 rfl rfl (fun g21 => lb (tl3 H) 1 (mc rfl g21) rfl rfl) (g1 rfl rfl (fun g22 => z5k (mc rfl g22) (mc rfl g22)) (q1 rfl (opOr (mv rfl) ct (fun g23 => (mc rfl g23))) (q1 rfl (z0 (mv rfl)) (g1 rfl rfl (fun g24 => z3 (znw H) (mv rfl)) (g1 rfl rfl (fun g25 => lb (tl3 H) 1 (mc rfl g25) rfl rfl) (zn h fun y27 ey27 h => g1 rfl rfl (fun g26 => oQ (z9j H) (z0v H φ ((gt v1 v5).fMinutes) 0 100000 _ (zr ey27 g26)) z5 ⟨ef (mc rfl g26), ef ct, ef ct, trivial⟩) (g1 rfl rfl (fun g28 => z7l (mc rfl g28)) (q1 rfl (opOr (mv rfl) ct (fun g29 => (mc rfl g29))) (rn (al [0, 3, 4, 5, 39] [0, 1] rfl rfl rfl ?_))))))))))
   refine sq ?_
   refine cI h rfl (fun c30 h => ?_) (fun c30 h => ?_)
   ·
    refine cs ?_
    refine z2.region' [0] rfl ?_
    refine cq rfl rfl rfl (z1 (Ev.const _)) (zc.nil (AtX.le' [(2, (iv .i64 1))] [] [] (sl rfl) trivial rfl (AtX.seq (z2.ret (AtX.then_ret (AtX.in_ret (AtX.then_ret (AtX.then_ret (AtX.in_ret (AtX.then_ret (AtX.ret' (iv .i64 1) (zo.one Try.results69 rfl) [] [] trivial rfl ?_)))))))))))
    obtain rfl := Option.some.inj h
    exact ⟨rfl, rfl⟩
   ·
    refine z2.skip (AtX.le' [(0, (ro z9g 3 v1)), (3, (eqv sv3)), (4, (iv .i64 v5)), (5, (eqv (.pointer (some ⟨b10, 0, none⟩))))] [0, 1] [(row 4 eB 1 v6 sv3), (box b10 149 (z9g (gt v1 v5)))] ⟨⟨_, rfl, Ent.refl⟩, ⟨_, rfl, Ent.refl⟩, ⟨_, rfl, Ent.refl⟩, ⟨_, rfl, Ent.refl⟩, trivial⟩ ⟨⟨_, rfl, EntH.refl⟩, ⟨_, rfl, EntH.refl⟩, trivial⟩ rfl (AtX.seq ?_))
    refine z2.seq ?_
    refine z2.seq ?_
    refine z2.region' [0, 1, 2, 3, 4, 5, 6, 7, 8] rfl ?_
    refine zc.cons_q (eqv sv3) rfl rfl rfl (z0 (mv rfl)) (zc.cons_q (eqv (.pointer (some ⟨b10, 0, none⟩))) rfl rfl rfl (z3 (zd6 H) (mv rfl)) (zc.cons_q (iv .i64 ((gt v1 v5).fFrom)) rfl rfl rfl (z0o (tl3 H) ((Pt.box 1 (mv rfl) rfl rfl).take 1 (cs' := [(iv .i64 ((gt v1 v5).fFrom))]) rfl)) (zc.cons_q (iv .i64 (W (64 * ((gt v1 v5).fFrom)))) rfl rfl rfl (za3 (Ev.const _) (mv rfl)) (zc.cons_q (eqv (.pointer (some ⟨b10, 1, none⟩))) rfl rfl rfl (z3 (zd9 H) (mv rfl)) (zc.cons_q (iv .i64 ((gt v1 v5).fTo)) rfl rfl rfl (z0o (tl3 H) ((Pt.box 1 (mv rfl) rfl rfl).take 1 (cs' := [(iv .i64 ((gt v1 v5).fTo))]) rfl)) (zc.cons_q (iv .i64 (W ((W (64 * ((gt v1 v5).fFrom))) + ((gt v1 v5).fTo)))) rfl rfl rfl (z0c (mv rfl) (mv rfl)) (ckE h fun h31 h => zc.cons_q (rowp sv3 (((W ((W (64 * ((gt v1 v5).fFrom))) + ((gt v1 v5).fTo))) : Int).toNat * 1)) rfl rfl rfl (zh 0 (ix76 H) (mv rfl) rfl (mv rfl) (h31).1 (h31).2) (zc.cons_q (bv (gt v6 (W ((W (64 * ((gt v1 v5).fFrom))) + ((gt v1 v5).fTo))))) rfl rfl rfl (z0o (tl4 H) ((Pt.row _ 0 (k := ((W ((W (64 * ((gt v1 v5).fFrom))) + ((gt v1 v5).fTo))) : Int).toNat) (fo := 0) lB (Ev.tmp rfl) rfl (by omega) (z7 h31) rfl).take 1 (cs' := [(bv (gt v6 (W ((W (64 * ((gt v1 v5).fFrom))) + ((gt v1 v5).fTo)))))]) rfl)) (rn (al [0, 3, 4, 5, 48] [0, 1] rfl rfl rfl ?_))))))))))
    refine AtX.seq ?_
    refine cI h rfl (fun c32 h => ?_) (fun c32 h => ?_)
    ·
     refine z2.seq ?_
     refine z2.region' [0] rfl ?_
     refine cq rfl rfl rfl (z1 (Ev.const _)) (zc.nil (AtX.le' [(2, (iv .i64 1))] [] [] ⟨⟨_, rfl, Ent.refl⟩, trivial⟩ trivial rfl (AtX.seq (z2.ret (AtX.then_ret (AtX.in_ret (AtX.then_ret (AtX.then_ret (AtX.in_ret (AtX.then_ret (AtX.ret' (iv .i64 1) (zo.one Try.results69 rfl) [] [] trivial rfl ?_)))))))))))
     obtain rfl := Option.some.inj h
     exact ⟨rfl, rfl⟩
    ·
     refine z2.skip (AtX.le' [(0, (ro z9g 3 v1)), (3, (eqv sv3)), (4, (iv .i64 v5)), (5, (eqv (.pointer (some ⟨b10, 0, none⟩))))] [0, 1] [(row 4 eB 1 v6 sv3), (box b10 149 (z9g (gt v1 v5)))] ⟨⟨_, rfl, Ent.refl⟩, ⟨_, rfl, Ent.refl⟩, ⟨_, rfl, Ent.refl⟩, ⟨_, rfl, Ent.refl⟩, trivial⟩ ⟨⟨_, rfl, EntH.refl⟩, ⟨_, rfl, EntH.refl⟩, trivial⟩ rfl (AtX.seq ?_))
     refine z2.region' [0, 1, 2, 3, 4, 5, 6, 7, 8] rfl ?_
     refine zc.cons_q (eqv sv3) rfl rfl rfl (z0 (mv rfl)) (zc.cons_q (eqv (.pointer (some ⟨b10, 0, none⟩))) rfl rfl rfl (z3 (zd6 H) (mv rfl)) (zc.cons_q (iv .i64 ((gt v1 v5).fFrom)) rfl rfl rfl (z0o (tl3 H) ((Pt.box 1 (mv rfl) rfl rfl).take 1 (cs' := [(iv .i64 ((gt v1 v5).fFrom))]) rfl)) (zc.cons_q (iv .i64 (W (64 * ((gt v1 v5).fFrom)))) rfl rfl rfl (za3 (Ev.const _) (mv rfl)) (zc.cons_q (eqv (.pointer (some ⟨b10, 1, none⟩))) rfl rfl rfl (z3 (zd9 H) (mv rfl)) (zc.cons_q (iv .i64 ((gt v1 v5).fTo)) rfl rfl rfl (z0o (tl3 H) ((Pt.box 1 (mv rfl) rfl rfl).take 1 (cs' := [(iv .i64 ((gt v1 v5).fTo))]) rfl)) (zc.cons_q (iv .i64 (W ((W (64 * ((gt v1 v5).fFrom))) + ((gt v1 v5).fTo)))) rfl rfl rfl (z0c (mv rfl) (mv rfl)) (zc.cons_q (rowp sv3 (((W ((W (64 * ((gt v1 v5).fFrom))) + ((gt v1 v5).fTo))) : Int).toNat * 1)) rfl rfl rfl (zh 0 (ix76 H) (mv rfl) rfl (mv rfl) (h31).1 (h31).2) (zc.cons rfl rfl rfl (z49 0 (k := ((W ((W (64 * ((gt v1 v5).fFrom))) + ((gt v1 v5).fTo))) : Int).toNat) (fo := 0) (z' := true) (cs := [(bv true)]) lB (tl4 H) (Ev.tmp rfl) (Ce.one (Ev.const _) (One.eqv rfl)) rfl rfl (by omega) (z7 h31) (Nat.le_of_ble_eq_true rfl) rfl (rn (AtX.in_normal (al [0, 3, 4] [0] rfl rfl rfl ?_))))))))))))
     refine sq (cr [0, 1, 2] rfl (q1 rfl (z0 (mv rfl)) (q1 rfl (z0c (mv rfl) ct) (q1 rfl (z1 (mv rfl)) (rn ?_)))))
     exact AtX.to (ih7 ((W (v5 + 1)), (z32 v6 (W ((W (64 * ((gt v1 v5).fFrom))) + ((gt v1 v5).fTo))) true)) h) [0] (sl rfl) (ol rfl) rfl
  ·
   refine z2.exit (AtX.then_exit (AtX.then_exit (AtX.in_hit ?_)))
   exact AtX.to (hJ4 () h) [] trivial trivial rfl
theorem zi3 {P : Program} (H : P = Try.prog) (φ : Nat) (v1 : z8k) (r : (Int)) (h : zb4 φ v1 = some r) : z0d P 42 [(agg (z70 v1))] (fun x news => x = (iv .i64 r) ∧ news = []) := by
 unfold zb4 at h
 refine z0d.of_code' 106 (fn42 H) rfl rfl (Nat.le_of_ble_eq_true rfl) fun w0 base r0 wI => ?_
 refine cl [0] [] rfl rfl rfl (cs (cr [0, 1] rfl (n1 rfl (z6e (Ce.agg (mv rfl)) fun b2 => q1 rfl (z1 ct) (rn (al [1] [0] rfl rfl rfl (sq (cs (cs (cr [0, 1, 2, 3, 4, 5, 6, 7, 8, 9, 10, 11, 12, 13, 14, 15, 16, 17, 18, 19, 20, 21] rfl (q1 rfl (z3 (zdb H) (mv rfl)) ?_)))))))))))
 refine q1 rfl (lb (tl26 H) 0 (mv rfl) rfl rfl) (q1 rfl (z0l (il26 H) (mv rfl)) (q1 rfl (z4m (mv rfl) ct) (q1 rfl (z0 (mv rfl)) (g1 rfl rfl (fun g3 => z3 (zcu H) (mv rfl)) (g1 rfl rfl (fun g4 => lb (tl27 H) 0 (mc rfl g4) rfl rfl) (g1 rfl rfl (fun g5 => z0l (il27 H) (mc rfl g5)) (g1 rfl rfl (fun g6 => z4m (mc rfl g6) ct) (q1 rfl (opOr (mv rfl) ct (fun g7 => (mc rfl g7))) (q1 rfl (z0 (mv rfl)) (g1 rfl rfl (fun g8 => z3 (zib H) (mv rfl)) (g1 rfl rfl (fun g9 => lb (tl28 H) 0 (mc rfl g9) rfl rfl) ?_)))))))))))
 refine g1 rfl rfl (fun g10 => z0l (il28 H) (mc rfl g10)) (g1 rfl rfl (fun g11 => z4m (mc rfl g11) ct) (q1 rfl (opOr (mv rfl) ct (fun g12 => (mc rfl g12))) (q1 rfl (z0 (mv rfl)) (g1 rfl rfl (fun g13 => z3 (zki H) (mv rfl)) (g1 rfl rfl (fun g14 => lb (tl29 H) 0 (mc rfl g14) rfl rfl) (g1 rfl rfl (fun g15 => z0l (il29 H) (mc rfl g15)) (g1 rfl rfl (fun g16 => z4m (mc rfl g16) ct) (q1 rfl (opOr (mv rfl) ct (fun g17 => (mc rfl g17))) (rn (al [1, 28] [0] rfl rfl rfl (sq ?_)))))))))))
 refine cI h rfl (fun c18 h => ?_) (fun c18 h => ?_)
 ·
  refine cs (cr [0] rfl (q1 rfl (z1 ct) (rn (al [2] [] rfl rfl rfl (sq (z2.ret (AtX.then_ret (AtX.ret' (iv .i64 2) (zo.one Try.results42 rfl) [] [] trivial rfl ?_))))))))
  obtain rfl := Option.some.inj h
  exact ⟨rfl, rfl⟩
 ·
  refine z2.skip (al [1] [0] rfl rfl rfl (sq (cs (cs (cr [0] rfl (q1 rfl (z1 ct) (rn (al [1, 3] [0] rfl rfl rfl (sq ?_)))))))))
  refine z2.join (fun z : Unit => (z4y φ v1)) r (fun z => ⟨zb.of [(1, (eqv (.pointer (some ⟨b2, 0, none⟩))))], [(box b2 31 (z70 v1))]⟩) (fun z h => ?_) (fun hJ19 => ?_)
  ·
   replace h : (z4y φ v1) = some r := h
   unfold z4y at h
   refine al [1] [0] rfl rfl rfl (sq (cs (cs (cr [0] rfl (q1 rfl (z1 ct) (rn (al [1, 4] [0] rfl rfl rfl (sq ?_))))))))
   refine z2.join (fun z : Unit => (z55 φ v1)) r (fun z => ⟨zb.of [(1, (eqv (.pointer (some ⟨b2, 0, none⟩))))], [(box b2 31 (z70 v1))]⟩) (fun z h => ?_) (fun hJ20 => ?_)
   ·
    replace h : (z55 φ v1) = some r := h
    unfold z55 at h
    refine al [1] [0] rfl rfl rfl (sq (cs (cs (cr [0] rfl (q1 rfl (z1 ct) (rn (al [1, 5] [0] rfl rfl rfl (sq ?_))))))))
    refine z2.join (fun z : Unit => (z54 φ v1)) r (fun z => ⟨zb.of [(1, (eqv (.pointer (some ⟨b2, 0, none⟩))))], [(box b2 31 (z70 v1))]⟩) (fun z h => ?_) (fun hJ21 => ?_)
    ·
     replace h : (z54 φ v1) = some r := h
     unfold z54 at h
     refine al [1] [0] rfl rfl rfl (sq (cs (cr [0, 1, 2, 3] rfl (q1 rfl (z3 (zki H) (mv rfl)) (q1 rfl (lb (tl29 H) 0 (mv rfl) rfl rfl) (zn h fun y22 ey22 h => q1 rfl (oQ (zud H) (zh5 H φ v1.fWashes _ ey22) z5 ⟨ef (mv rfl), trivial⟩) (q1 rfl (z1 (mv rfl)) (rn (al [2] [] rfl rfl rfl (sq ?_))))))))))
     refine z2.ret (AtX.ret' (iv .i64 y22) (zo.one Try.results42 rfl) [] [] trivial rfl ?_)
     obtain rfl := Option.some.inj h
     exact ⟨rfl, rfl⟩
    ·
     refine z2.block ?_
     refine z2.to (z2.loop (fun n (z : Int) => z5v φ v1 (z54 φ v1) n z) r (fun z => ⟨zb.of [(1, (eqv (.pointer (some ⟨b2, 0, none⟩)))), (5, (iv .i64 z))], [(box b2 31 (z70 v1))]⟩) (fun z => rfl) (fun n24 v23 ih24 h => ?_) φ 0 h) [0] (sl rfl) (ol rfl) rfl
     replace h : z5v φ v1 (z54 φ v1) (n24 + 1) v23 = some r := h
     rw [z5v] at h
     refine cs (cs (cr [0, 1, 2, 3, 4] rfl (q1 rfl (z0 (mv rfl)) (q1 rfl (z3 (zib H) (mv rfl)) (q1 rfl (lb (tl28 H) 0 (mv rfl) rfl rfl) (q1 rfl (z0l (il28 H) (mv rfl)) (q1 rfl (z0n (mv rfl) (mv rfl)) (rn (al [1, 5, 64] [0] rfl rfl rfl (sq ?_))))))))))
     refine cI h rfl (fun c25 h => ?_) (fun c25 h => ?_)
     ·
      refine z2.skip (al [1, 5] [0] rfl rfl rfl (sq (cs (z2.block (cs (cr [0, 1, 2, 3, 4, 5, 6] rfl (q1 rfl (z3 (zib H) (mv rfl)) (q1 rfl (lb (tl28 H) 0 (mv rfl) rfl rfl) (q1 rfl (z0 (mv rfl)) (ckE h fun h26 h => q1 rfl (zk (ix28 H) (mv rfl) (mv rfl) (h26).1 (z7 h26)) ?_))))))))))
      refine q1 rfl (ln (zpv H) (Pt.rop (mv rfl)) rfl) (n1 rfl (z38 _ (zwa H) rfl fun b27 => n1 rfl (sto 1 (zpv H) (mv rfl) (Ce.agg (mv rfl)) rfl rfl rfl rfl (rn (al [1, 5, 6] [0, 1] rfl rfl rfl (sq (cs (cr [0, 1, 2, 3, 4, 5, 6, 7, 8, 9, 10, 11, 12, 13, 14, 15, 16, 17, 18, 19, 20, 21, 22, 23, 24, 25, 26, 27, 28, 29, 30] rfl (q1 rfl (z3 (zjj H) (mv rfl)) (q1 rfl (lb (tl3 H) 1 (mv rfl) rfl rfl) (q1 rfl (z3 (zdb H) (mv rfl)) (q1 rfl (lb (tl26 H) 0 (mv rfl) rfl rfl) ?_))))))))))))
      refine q1 rfl (z0l (il26 H) (mv rfl)) (q1 rfl (z24 (mv rfl) ct) (zn h fun y28 ey28 h => q1 rfl (oQ (z9j H) (z0v H φ ((gt v1.fSwaps v23).fWanted) 0 (W ((v1.fTypes.length : Int) - 1)) _ ey28) z5 ⟨ef (mv rfl), ef ct, ef (mv rfl), trivial⟩) (q1 rfl (z7l (mv rfl)) (q1 rfl (z0 (mv rfl)) (g1 rfl rfl (fun g29 => z3 (zjk H) (mv rfl)) (g1 rfl rfl (fun g30 => lb (tl3 H) 1 (mc rfl g30) rfl rfl) (g1 rfl rfl (fun g31 => z3 (zdb H) (mv rfl)) (g1 rfl rfl (fun g32 => lb (tl26 H) 0 (mc rfl g32) rfl rfl) (g1 rfl rfl (fun g33 => z0l (il26 H) (mc rfl g33)) (g1 rfl rfl (fun g34 => z24 (mc rfl g34) ct) ?_))))))))))
      refine zn h fun y36 ey36 h => g1 rfl rfl (fun g35 => oQ (z9j H) (z0v H φ ((gt v1.fSwaps v23).fGiven) 0 (W ((v1.fTypes.length : Int) - 1)) _ (zr ey36 g35)) z5 ⟨ef (mc rfl g35), ef ct, ef (mc rfl g35), trivial⟩) (g1 rfl rfl (fun g37 => z7l (mc rfl g37)) (q1 rfl (opOr (mv rfl) ct (fun g38 => (mc rfl g38))) (q1 rfl (z0 (mv rfl)) (g1 rfl rfl (fun g39 => z3 (zjj H) (mv rfl)) (g1 rfl rfl (fun g40 => lb (tl3 H) 1 (mc rfl g40) rfl rfl) (g1 rfl rfl (fun g41 => z3 (zjk H) (mv rfl)) (g1 rfl rfl (fun g42 => lb (tl3 H) 1 (mc rfl g42) rfl rfl) (g1 rfl rfl (fun g43 => z5k (mc rfl g43) (mc rfl g43)) (q1 rfl (opOr (mv rfl) ct (fun g44 => (mc rfl g44))) (q1 rfl (z0 (mv rfl)) ?_))))))))))
      refine g1 rfl rfl (fun g45 => z3 (znm H) (mv rfl)) (g1 rfl rfl (fun g46 => lb (tl3 H) 1 (mc rfl g46) rfl rfl) (zn h fun y48 ey48 h => g1 rfl rfl (fun g47 => oQ (z9j H) (z0v H φ ((gt v1.fSwaps v23).fCost) 0 1000000000 _ (zr ey48 g47)) z5 ⟨ef (mc rfl g47), ef ct, ef ct, trivial⟩) (g1 rfl rfl (fun g49 => z7l (mc rfl g49)) (q1 rfl (opOr (mv rfl) ct (fun g50 => (mc rfl g50))) (rn (al [1, 5, 102] [0] rfl rfl rfl (sq ?_)))))))
      refine cI h rfl (fun c51 h => ?_) (fun c51 h => ?_)
      ·
       refine cs (cr [0] rfl (q1 rfl (z1 ct) (rn (al [2] [] rfl rfl rfl (sq (z2.ret (AtX.in_ret (AtX.then_ret (AtX.then_ret (AtX.in_ret (AtX.then_ret ?_)))))))))))
       refine AtX.ret' (iv .i64 1) (zo.one Try.results42 rfl) [] [] trivial rfl ?_
       obtain rfl := Option.some.inj h
       exact ⟨rfl, rfl⟩
      ·
       refine z2.skip (AtX.in_normal (al [1, 5] [0] rfl rfl rfl (sq (cr [0, 1, 2] rfl (q1 rfl (z0 (mv rfl)) (q1 rfl (z0c (mv rfl) ct) (q1 rfl (z1 (mv rfl)) (rn ?_))))))))
       exact AtX.to (ih24 (W (v23 + 1)) h) [0] (sl rfl) (ol rfl) rfl
     ·
      refine z2.exit (AtX.then_exit (AtX.then_exit (AtX.in_hit ?_)))
      exact AtX.to (hJ21 () h) [0] (sl rfl) (ol rfl) rfl
   ·
    refine z2.block ?_
    refine z2.to (z2.loop (fun n (z : Int) => z61 φ v1 (z55 φ v1) n z) r (fun z => ⟨zb.of [(1, (eqv (.pointer (some ⟨b2, 0, none⟩)))), (4, (iv .i64 z))], [(box b2 31 (z70 v1))]⟩) (fun z => rfl) (fun n53 v52 ih53 h => ?_) φ 0 h) [0] (sl rfl) (ol rfl) rfl
    replace h : z61 φ v1 (z55 φ v1) (n53 + 1) v52 = some r := h
    rw [z61] at h
    refine cs (cs (cr [0, 1, 2, 3, 4] rfl (q1 rfl (z0 (mv rfl)) (q1 rfl (z3 (zcu H) (mv rfl)) (q1 rfl (lb (tl27 H) 0 (mv rfl) rfl rfl) (q1 rfl (z0l (il27 H) (mv rfl)) (q1 rfl (z0n (mv rfl) (mv rfl)) (rn (al [1, 4, 47] [0] rfl rfl rfl (sq ?_))))))))))
    refine cI h rfl (fun c54 h => ?_) (fun c54 h => ?_)
    ·
     refine z2.skip (al [1, 4] [0] rfl rfl rfl (sq (cs (z2.block (cs (ckE h fun h55 h => zn h fun y56 ey56 h => z2.draw (QR := [(0, _), (1, _), (2, _), (3, _), (4, _), (5, _), (6, _), (7, _), (8, _), (9, _)]) (tab := [(some 50, []), (some 51, [0]), (some 52, []), (some 53, [1, 2]), (some 54, [3]), (some 55, []), (some 56, [5]), (some 57, [6]), (some 58, [4, 7]), (some 59, [8])]) (z5f H) (Reg.intro [] [] (by kernel_rfl) rfl (an rfl) ⟨(qr rfl (z3 (zcu H) (mv rfl))), (qr rfl (lb (tl27 H) 0 (mv rfl) rfl rfl)), (qr rfl (z0 (mv rfl))), (qr rfl (zk (ix27 H) (mv rfl) (mv rfl) (h55).1 (z7 h55))), (qr rfl (ln (tl66 H) (Pt.rop (mv rfl)) rfl)), (qr rfl (z3 (zdb H) (mv rfl))), (qr rfl (lb (tl26 H) 0 (mv rfl) rfl rfl)), (qr rfl (z0l (il26 H) (mv rfl))), (qr rfl (oQ (zun H) (zdv H φ (gt v1.fWagons v52) (v1.fTypes.length : Int) _ ey56) z5 ⟨ef (mv rfl), ef (mv rfl), trivial⟩)), (qr rfl (z7l (mv rfl))), trivial⟩ trivial (fun _ => al [1, 4, 59] [0] rfl rfl rfl (sq ?_)))))))))
     refine cI h rfl (fun c57 h => ?_) (fun c57 h => ?_)
     ·
      refine cs (cr [0] rfl (q1 rfl (z1 ct) (rn (al [2] [] rfl rfl rfl (sq (z2.ret (AtX.in_ret (AtX.then_ret (AtX.then_ret (AtX.in_ret (AtX.then_ret ?_)))))))))))
      refine AtX.ret' (iv .i64 1) (zo.one Try.results42 rfl) [] [] trivial rfl ?_
      obtain rfl := Option.some.inj h
      exact ⟨rfl, rfl⟩
     ·
      refine z2.skip (AtX.in_normal (al [1, 4] [0] rfl rfl rfl (sq (cr [0, 1, 2] rfl (q1 rfl (z0 (mv rfl)) (q1 rfl (z0c (mv rfl) ct) (q1 rfl (z1 (mv rfl)) (rn ?_))))))))
      exact AtX.to (ih53 (W (v52 + 1)) h) [0] (sl rfl) (ol rfl) rfl
    ·
     refine z2.exit (AtX.then_exit (AtX.then_exit (AtX.in_hit ?_)))
     exact AtX.to (hJ20 () h) [0] (sl rfl) (ol rfl) rfl
  ·
   refine z2.block ?_
   refine z2.to (z2.loop (fun n (z : Int) => z5y φ v1 (z4y φ v1) n z) r (fun z => ⟨zb.of [(1, (eqv (.pointer (some ⟨b2, 0, none⟩)))), (3, (iv .i64 z))], [(box b2 31 (z70 v1))]⟩) (fun z => rfl) (fun n59 v58 ih59 h => ?_) φ 0 h) [0] (sl rfl) (ol rfl) rfl
   replace h : z5y φ v1 (z4y φ v1) (n59 + 1) v58 = some r := h
   rw [z5y] at h
   refine cs (cs (cr [0, 1, 2, 3, 4] rfl (q1 rfl (z0 (mv rfl)) (q1 rfl (z3 (zdb H) (mv rfl)) (q1 rfl (lb (tl26 H) 0 (mv rfl) rfl rfl) (q1 rfl (z0l (il26 H) (mv rfl)) (q1 rfl (z0n (mv rfl) (mv rfl)) (rn (al [1, 3, 33] [0] rfl rfl rfl (sq ?_))))))))))
   refine cI h rfl (fun c60 h => ?_) (fun c60 h => ?_)
   ·
    refine z2.skip (al [1, 3] [0] rfl rfl rfl (sq (cs (z2.block (cs (cr [0, 1, 2, 3, 4, 5, 6] rfl (q1 rfl (z3 (zdb H) (mv rfl)) (q1 rfl (lb (tl26 H) 0 (mv rfl) rfl rfl) (q1 rfl (z0 (mv rfl)) (ckE h fun h61 h => q1 rfl (zk (ix26 H) (mv rfl) (mv rfl) (h61).1 (z7 h61)) ?_))))))))))
    refine q1 rfl (ln (zsu H) (Pt.rop (mv rfl)) rfl) (zn h fun y62 ey62 h => q1 rfl (oQ (ztu H) (zeo H φ (gt v1.fTypes v58) _ ey62) z5 ⟨ef (mv rfl), trivial⟩) (q1 rfl (z7l (mv rfl)) (rn (al [1, 3, 42] [0] rfl rfl rfl (sq ?_)))))
    refine cI h rfl (fun c63 h => ?_) (fun c63 h => ?_)
    ·
     refine cs (cr [0] rfl (q1 rfl (z1 ct) (rn (al [2] [] rfl rfl rfl (sq (z2.ret (AtX.in_ret (AtX.then_ret (AtX.then_ret (AtX.in_ret (AtX.then_ret ?_)))))))))))
     refine AtX.ret' (iv .i64 1) (zo.one Try.results42 rfl) [] [] trivial rfl ?_
     obtain rfl := Option.some.inj h
     exact ⟨rfl, rfl⟩
    ·
     refine z2.skip (AtX.in_normal (al [1, 3] [0] rfl rfl rfl (sq (cr [0, 1, 2] rfl (q1 rfl (z0 (mv rfl)) (q1 rfl (z0c (mv rfl) ct) (q1 rfl (z1 (mv rfl)) (rn ?_))))))))
     exact AtX.to (ih59 (W (v58 + 1)) h) [0] (sl rfl) (ol rfl) rfl
   ·
    refine z2.exit (AtX.then_exit (AtX.then_exit (AtX.in_hit ?_)))
    exact AtX.to (hJ19 () h) [0] (sl rfl) (ol rfl) rfl
theorem zix {P : Program} (H : P = Try.prog) (φ : Nat) (v1 : Pool) (r : (Bool)) (h : zc5 φ v1 = some r) : z0d P 43 [(agg (z1l v1))] (fun x news => x = (bv r) ∧ news = []) := by
 unfold zc5 at h
 refine z0d.of_code' 96 (fn43 H) rfl rfl (Nat.le_of_ble_eq_true rfl) fun w0 base r0 wI => ?_
 refine cl [0] [] rfl rfl rfl (cs (cr [0, 1] rfl (n1 rfl (z6e (Ce.agg (mv rfl)) fun b2 => q1 rfl (z1 ct) (rn (al [1] [0] rfl rfl rfl (sq (cs (cr [0, 1, 2, 3, 4] rfl (q1 rfl (z3 (z9z H) (mv rfl)) (q1 rfl (z3 (z9x H) (mv rfl)) ?_)))))))))))
 refine q1 rfl (lb (tl22 H) 0 (mv rfl) rfl rfl) (q1 rfl (z0l (il22 H) (mv rfl)) (q1 rfl (z1 (mv rfl)) (rn (al [1, 3] [0] rfl rfl rfl (sq (cs (cs (cr [0] rfl (q1 rfl (z1 ct) (rn (al [1, 3, 4] [0] rfl rfl rfl ?_)))))))))))
 refine sq ?_
 refine z2.join (fun z : Unit => (z6f φ v1)) r (fun z => ⟨zb.of [(1, (eqv (.pointer (some ⟨b2, 0, none⟩)))), (3, (iv .i64 (v1.fNetwork.fPlaces.length : Int)))], [(box b2 36 (z1l v1))]⟩) (fun z h => ?_) (fun hJ3 => ?_)
 ·
  replace h : (z6f φ v1) = some r := h
  unfold z6f at h
  refine al [1, 3] [0] rfl rfl rfl (sq (cs (cs (cr [0] rfl (q1 rfl (z1 ct) (rn (al [1, 3, 6] [0] rfl rfl rfl (sq ?_))))))))
  refine z2.join (fun z : Unit => (z6g φ v1)) r (fun z => ⟨zb.of [(1, (eqv (.pointer (some ⟨b2, 0, none⟩)))), (3, (iv .i64 (v1.fNetwork.fPlaces.length : Int)))], [(box b2 36 (z1l v1))]⟩) (fun z h => ?_) (fun hJ4 => ?_)
  ·
   replace h : (z6g φ v1) = some r := h
   unfold z6g at h
   refine al [1, 3] [0] rfl rfl rfl (sq (cs (cs (cr [0] rfl (q1 rfl (z1 ct) (rn (al [1, 3, 7] [0] rfl rfl rfl (sq ?_))))))))
   refine z2.join (fun z : Unit => (z7a φ)) r (fun z => ⟨zb.of [], []⟩) (fun z h => ?_) (fun hJ5 => ?_)
   ·
    replace h : (z7a φ) = some r := h
    unfold z7a at h
    refine al [] [] rfl rfl rfl (sq (cs (cr [0] rfl (q1 rfl (z1 ct) (rn (al [2] [] rfl rfl rfl (sq (z2.ret (AtX.ret' (bv true) (zo.one Try.results43 rfl) [] [] trivial rfl ?_)))))))))
    obtain rfl := Option.some.inj h
    exact ⟨rfl, rfl⟩
   ·
    refine z2.block ?_
    refine z2.to (z2.loop (fun n (z : Int) => z7e φ v1 (z7a φ) n z) r (fun z => ⟨zb.of [(1, (eqv (.pointer (some ⟨b2, 0, none⟩)))), (3, (iv .i64 (v1.fNetwork.fPlaces.length : Int))), (7, (iv .i64 z))], [(box b2 36 (z1l v1))]⟩) (fun z => rfl) (fun n7 v6 ih7 h => ?_) φ 0 h) [0] (sl rfl) (ol rfl) rfl
    replace h : z7e φ v1 (z7a φ) (n7 + 1) v6 = some r := h
    rw [z7e] at h
    refine cs (cs (cr [0, 1, 2, 3, 4, 5] rfl (q1 rfl (z0 (mv rfl)) (q1 rfl (z3 (zd4 H) (mv rfl)) (q1 rfl (z3 (zcu H) (mv rfl)) (q1 rfl (lb (tl27 H) 0 (mv rfl) rfl rfl) (q1 rfl (z0l (il27 H) (mv rfl)) (q1 rfl (z0n (mv rfl) (mv rfl)) (rn (al [1, 3, 7, 84] [0] rfl rfl rfl (sq ?_)))))))))))
    refine cI h rfl (fun c8 h => ?_) (fun c8 h => ?_)
    ·
     refine z2.skip (al [1, 3, 7] [0] rfl rfl rfl (sq (cs (z2.block (cs (cr [0, 1, 2, 3, 4, 5, 6, 7, 8] rfl (q1 rfl (z3 (zd4 H) (mv rfl)) (q1 rfl (z3 (zcu H) (mv rfl)) (q1 rfl (lb (tl27 H) 0 (mv rfl) rfl rfl) (q1 rfl (z0 (mv rfl)) (ckE h fun h9 h => ?_)))))))))))
     refine q1 rfl (zk (ix27 H) (mv rfl) (mv rfl) (h9).1 (z7 h9)) (q1 rfl (z2d (zjw H) (mv rfl) (cs' := [(iv .i64 ((gt v1.fFleet.fWagons v6).fHome))]) 1 rfl) (q1 rfl (lr (tl3 H) (mv rfl)) (q1 rfl (z0 (mv rfl)) (q1 rfl (z9i (mv rfl) (mv rfl)) (rn (al [1, 3, 7, 95] [0] rfl rfl rfl (sq ?_)))))))
     refine cI h rfl (fun c10 h => ?_) (fun c10 h => ?_)
     ·
      refine cs (cr [0] rfl (q1 rfl (z1 ct) (rn (al [2] [] rfl rfl rfl (sq (z2.ret (AtX.in_ret (AtX.then_ret (AtX.then_ret (AtX.in_ret (AtX.then_ret ?_)))))))))))
      refine AtX.ret' (bv false) (zo.one Try.results43 rfl) [] [] trivial rfl ?_
      obtain rfl := Option.some.inj h
      exact ⟨rfl, rfl⟩
     ·
      refine z2.skip (AtX.in_normal (al [1, 3, 7] [0] rfl rfl rfl (sq (cr [0, 1, 2] rfl (q1 rfl (z0 (mv rfl)) (q1 rfl (z0c (mv rfl) ct) (q1 rfl (z1 (mv rfl)) (rn ?_))))))))
      exact AtX.to (ih7 (W (v6 + 1)) h) [0] (sl rfl) (ol rfl) rfl
    ·
     refine z2.exit (AtX.then_exit (AtX.then_exit (AtX.in_hit ?_)))
     exact AtX.to (hJ5 () h) [] trivial trivial rfl
  ·
   refine z2.block ?_
   refine z2.to (z2.loop (fun n (z : Int) => z6n φ v1 (z6g φ v1) n z) r (fun z => ⟨zb.of [(1, (eqv (.pointer (some ⟨b2, 0, none⟩)))), (3, (iv .i64 (v1.fNetwork.fPlaces.length : Int))), (6, (iv .i64 z))], [(box b2 36 (z1l v1))]⟩) (fun z => rfl) (fun n12 v11 ih12 h => ?_) φ 0 h) [0] (sl rfl) (ol rfl) rfl
   replace h : z6n φ v1 (z6g φ v1) (n12 + 1) v11 = some r := h
   rw [z6n] at h
   refine cs (cs (cr [0, 1, 2, 3, 4] rfl (q1 rfl (z0 (mv rfl)) (q1 rfl (z3 (zir H) (mv rfl)) (q1 rfl (lb (tl33 H) 0 (mv rfl) rfl rfl) (q1 rfl (z0l (il33 H) (mv rfl)) (q1 rfl (z0n (mv rfl) (mv rfl)) (rn (al [1, 3, 6, 51] [0] rfl rfl rfl (sq ?_))))))))))
   refine cI h rfl (fun c13 h => ?_) (fun c13 h => ?_)
   ·
    refine z2.skip (al [1, 3, 6] [0] rfl rfl rfl (sq ?_))
    refine z2.seq ?_
    refine z2.block ?_
    refine z2.seq ?_
    refine ckE h fun h14 h => zn h fun y15 ey15 h => ckE h fun h26 h => z2.draw (QR := [(0, (eqv (.pointer (some ⟨b2, 7, none⟩)))), (1, (ro z3b 1 v1.fShippers)), (2, (iv .i64 v11)), (3, (rop (z3b (gt v1.fShippers v11)))), (4, (rop [(iv .i64 ((gt v1.fShippers v11).fPlace))])), (5, (iv .i64 ((gt v1.fShippers v11).fPlace))), (6, (iv .i64 (v1.fNetwork.fPlaces.length : Int))), (7, (iv .i64 (W ((v1.fNetwork.fPlaces.length : Int) - 1)))), (8, (bv y15)), (9, (bv (!y15))), (10, (bv (!y15))), (11, (cnd ((!y15) = false) (eqv (.pointer (some ⟨b2, 0, none⟩))))), (12, (cnd ((!y15) = false) (eqv (.pointer (some ⟨b2, 0, none⟩))))), (13, (cnd ((!y15) = false) (ro z4g 3 v1.fNetwork.fPlaces))), (14, (cnd ((!y15) = false) (eqv (.pointer (some ⟨b2, 7, none⟩))))), (15, (cnd ((!y15) = false) (ro z3b 1 v1.fShippers))), (16, (cnd ((!y15) = false) (iv .i64 v11))), (17, (cnd ((!y15) = false) (rop (z3b (gt v1.fShippers v11))))), (18, (cnd ((!y15) = false) (rop [(iv .i64 ((gt v1.fShippers v11).fPlace))]))), (19, (cnd ((!y15) = false) (iv .i64 ((gt v1.fShippers v11).fPlace)))), (20, (cnd ((!y15) = false) (rop (z4g (gt v1.fNetwork.fPlaces ((gt v1.fShippers v11).fPlace)))))), (21, (cnd ((!y15) = false) (rop [(iv .i64 ((gt v1.fNetwork.fPlaces ((gt v1.fShippers v11).fPlace)).fKind))]))), (22, (cnd ((!y15) = false) (iv .i64 ((gt v1.fNetwork.fPlaces ((gt v1.fShippers v11).fPlace)).fKind)))), (23, (cnd ((!y15) = false) (bv ((gt v1.fNetwork.fPlaces ((gt v1.fShippers v11).fPlace)).fKind != 4)))), (24, (bv ((!y15) || ((gt v1.fNetwork.fPlaces ((gt v1.fShippers v11).fPlace)).fKind != 4))))]) (tab := [(some 54, []), (some 55, [0]), (some 56, []), (some 57, [1, 2]), (some 58, [3]), (some 59, [4]), (some 60, []), (some 61, [6]), (some 62, [5, 7]), (some 63, [8]), (some 64, [9, 8]), (some 65, [10]), (some 66, [11, 10]), (some 67, [12, 10]), (some 68, [10]), (some 69, [14, 10]), (some 70, [10]), (some 71, [15, 16, 10]), (some 72, [17, 10]), (some 73, [18, 10]), (some 74, [13, 19, 10]), (some 75, [20, 10]), (some 76, [21, 10]), (some 77, [22, 10]), (some 78, [10, 23])]) (z5f H) (Reg.intro [] [] (by kernel_rfl) rfl ⟨rfl, rfl, rfl, rfl, rfl, rfl, rfl, rfl, rfl, rfl, rfl, rfl, rfl, rfl, rfl, rfl, rfl, rfl, rfl, rfl, rfl, rfl, rfl, rfl, rfl, trivial⟩ ⟨(fun _ => ⟨_, rfl, (z3 (zir H) (Ev.tmp (A := (eqv (.pointer (some ⟨b2, 0, none⟩)))) (by kernel_rfl)))⟩), (fun _ => ⟨_, rfl, (z0o (tl33 H) ((Pt.box 0 (Ev.tmp (A := (eqv (.pointer (some ⟨b2, 7, none⟩)))) (by kernel_rfl)) rfl rfl).take 1 (cs' := [(ro z3b 1 v1.fShippers)]) rfl))⟩), (fun _ => ⟨_, rfl, (z0 (Ev.tmp (A := (iv .i64 v11)) (by kernel_rfl)))⟩), (fun _ => ⟨_, rfl, (zk (e := z3b) (y := (gt v1.fShippers v11)) (ix33 H) (Ev.tmp (A := (ro z3b 1 v1.fShippers)) (by kernel_rfl)) (Ev.tmp (A := (iv .i64 v11)) (by kernel_rfl)) (h14).1 (z7 h14))⟩), (fun _ => ⟨_, rfl, (z2d (zjp H) (Ev.tmp (A := (rop (z3b (gt v1.fShippers v11)))) (by kernel_rfl)) (cs' := [(iv .i64 ((gt v1.fShippers v11).fPlace))]) 1 rfl)⟩), (fun _ => ⟨_, rfl, (z0o (tl3 H) (Pt.rop (Ev.tmp (A := (rop [(iv .i64 ((gt v1.fShippers v11).fPlace))])) (by kernel_rfl))))⟩), (fun _ => ⟨_, rfl, (z0 (Ev.tmp (A := (iv .i64 (v1.fNetwork.fPlaces.length : Int))) (by kernel_rfl)))⟩), (fun _ => ⟨_, rfl, (z24 (Ev.tmp (A := (iv .i64 (v1.fNetwork.fPlaces.length : Int))) (by kernel_rfl)) (Ev.const _))⟩), (fun _ => ⟨_, rfl, (zjf (z9j H) (args := [(iv .i64 ((gt v1.fShippers v11).fPlace)), (iv .i64 0), (iv .i64 (W ((v1.fNetwork.fPlaces.length : Int) - 1)))]) ⟨EvF.of (Ev.tmp (A := (iv .i64 ((gt v1.fShippers v11).fPlace))) (by kernel_rfl)) FEnt.refl, EvF.of (Ev.const _) FEnt.refl, EvF.of (Ev.tmp (A := (iv .i64 (W ((v1.fNetwork.fPlaces.length : Int) - 1)))) (by kernel_rfl)) FEnt.refl, trivial⟩ (z0v H φ ((gt v1.fShippers v11).fPlace) 0 (W ((v1.fNetwork.fPlaces.length : Int) - 1)) _ ey15) z5)⟩), (fun _ => ⟨_, rfl, (z7l (Ev.tmp (A := (bv y15)) (by kernel_rfl)))⟩), (fun _ => ⟨_, rfl, (z0 (Ev.tmp (A := (bv (!y15))) (by kernel_rfl)))⟩), (fun _ => ⟨_, rfl, ⟨((!y15) = false), (eqv (.pointer (some ⟨b2, 0, none⟩))), 64, rfl, rfl, fun g16 => (z3 (z9z H) (Ev.tmp (A := (eqv (.pointer (some ⟨b2, 0, none⟩)))) (by kernel_rfl))), .inl ⟨(!y15), rfl, rfl⟩⟩⟩), (fun _ => ⟨_, rfl, ⟨((!y15) = false), (eqv (.pointer (some ⟨b2, 0, none⟩))), 64, rfl, rfl, fun g17 => (z3 (z9x H) (Ev.cnd (Ev.tmp rfl) g17)), .inl ⟨(!y15), rfl, rfl⟩⟩⟩), (fun _ => ⟨_, rfl, ⟨((!y15) = false), (ro z4g 3 v1.fNetwork.fPlaces), 64, rfl, rfl, fun g18 => (z0o (tl22 H) ((Pt.box 0 (Ev.cnd (Ev.tmp rfl) g18) rfl rfl).take 1 (cs' := [(ro z4g 3 v1.fNetwork.fPlaces)]) rfl)), .inl ⟨(!y15), rfl, rfl⟩⟩⟩), (fun _ => ⟨_, rfl, ⟨((!y15) = false), (eqv (.pointer (some ⟨b2, 7, none⟩))), 64, rfl, rfl, fun g19 => (z3 (zir H) (Ev.tmp (A := (eqv (.pointer (some ⟨b2, 0, none⟩)))) (by kernel_rfl))), .inl ⟨(!y15), rfl, rfl⟩⟩⟩), (fun _ => ⟨_, rfl, ⟨((!y15) = false), (ro z3b 1 v1.fShippers), 64, rfl, rfl, fun g20 => (z0o (tl33 H) ((Pt.box 0 (Ev.cnd (Ev.tmp rfl) g20) rfl rfl).take 1 (cs' := [(ro z3b 1 v1.fShippers)]) rfl)), .inl ⟨(!y15), rfl, rfl⟩⟩⟩), (fun _ => ⟨_, rfl, ⟨((!y15) = false), (iv .i64 v11), 64, rfl, rfl, fun g21 => (z0 (Ev.tmp (A := (iv .i64 v11)) (by kernel_rfl))), .inl ⟨(!y15), rfl, rfl⟩⟩⟩), (fun _ => ⟨_, rfl, ⟨((!y15) = false), (rop (z3b (gt v1.fShippers v11))), 64, rfl, rfl, fun g22 => (zk (e := z3b) (y := (gt v1.fShippers v11)) (ix33 H) (Ev.cnd (Ev.tmp rfl) g22) (Ev.cnd (Ev.tmp rfl) g22) (h14).1 (z7 h14)), .inl ⟨(!y15), rfl, rfl⟩⟩⟩), (fun _ => ⟨_, rfl, ⟨((!y15) = false), (rop [(iv .i64 ((gt v1.fShippers v11).fPlace))]), 64, rfl, rfl, fun g23 => (z2d (zjp H) (Ev.cnd (Ev.tmp rfl) g23) (cs' := [(iv .i64 ((gt v1.fShippers v11).fPlace))]) 1 rfl), .inl ⟨(!y15), rfl, rfl⟩⟩⟩), (fun _ => ⟨_, rfl, ⟨((!y15) = false), (iv .i64 ((gt v1.fShippers v11).fPlace)), 64, rfl, rfl, fun g24 => (z0o (tl3 H) (Pt.rop (Ev.cnd (Ev.tmp rfl) g24))), .inl ⟨(!y15), rfl, rfl⟩⟩⟩), (fun _ => ⟨_, rfl, ⟨((!y15) = false), (rop (z4g (gt v1.fNetwork.fPlaces ((gt v1.fShippers v11).fPlace)))), 64, rfl, rfl, fun g25 => (zk (e := z4g) (y := (gt v1.fNetwork.fPlaces ((gt v1.fShippers v11).fPlace))) (ix22 H) (Ev.cnd (Ev.tmp rfl) g25) (Ev.cnd (Ev.tmp rfl) g25) ((h26 g25)).1 (z7 (h26 g25))), .inl ⟨(!y15), rfl, rfl⟩⟩⟩), (fun _ => ⟨_, rfl, ⟨((!y15) = false), (rop [(iv .i64 ((gt v1.fNetwork.fPlaces ((gt v1.fShippers v11).fPlace)).fKind))]), 64, rfl, rfl, fun g27 => (z2d (zex H) (Ev.cnd (Ev.tmp rfl) g27) (cs' := [(iv .i64 ((gt v1.fNetwork.fPlaces ((gt v1.fShippers v11).fPlace)).fKind))]) 1 rfl), .inl ⟨(!y15), rfl, rfl⟩⟩⟩), (fun _ => ⟨_, rfl, ⟨((!y15) = false), (iv .i64 ((gt v1.fNetwork.fPlaces ((gt v1.fShippers v11).fPlace)).fKind)), 64, rfl, rfl, fun g28 => (z0o (tl3 H) (Pt.rop (Ev.cnd (Ev.tmp rfl) g28))), .inl ⟨(!y15), rfl, rfl⟩⟩⟩), (fun _ => ⟨_, rfl, ⟨((!y15) = false), (bv ((gt v1.fNetwork.fPlaces ((gt v1.fShippers v11).fPlace)).fKind != 4)), 64, rfl, rfl, fun g29 => (z78 (Ev.cnd (Ev.tmp rfl) g29) (Ev.const _)), .inl ⟨(!y15), rfl, rfl⟩⟩⟩), (fun _ => ⟨_, rfl, (opOr (Ev.tmp (A := (bv (!y15))) (by kernel_rfl)) (Ev.const _) (fun g30 => (Ev.cnd (Ev.tmp rfl) g30)))⟩), trivial⟩ trivial (fun _ => ?_))
    refine al [1, 3, 6, 78] [0] rfl rfl rfl (sq ?_)
    refine cI h rfl (fun c31 h => ?_) (fun c31 h => ?_)
    ·
     refine cs (cr [0] rfl (q1 rfl (z1 ct) (rn (al [2] [] rfl rfl rfl (sq (z2.ret (AtX.in_ret (AtX.then_ret (AtX.then_ret (AtX.in_ret (AtX.then_ret ?_)))))))))))
     refine AtX.ret' (bv false) (zo.one Try.results43 rfl) [] [] trivial rfl ?_
     obtain rfl := Option.some.inj h
     exact ⟨rfl, rfl⟩
    ·
     refine z2.skip (AtX.in_normal (al [1, 3, 6] [0] rfl rfl rfl (sq (cr [0, 1, 2] rfl (q1 rfl (z0 (mv rfl)) (q1 rfl (z0c (mv rfl) ct) (q1 rfl (z1 (mv rfl)) (rn ?_))))))))
     exact AtX.to (ih12 (W (v11 + 1)) h) [0] (sl rfl) (ol rfl) rfl
   ·
    refine z2.exit (AtX.then_exit (AtX.then_exit (AtX.in_hit ?_)))
    exact AtX.to (hJ4 () h) [0] (sl rfl) (ol rfl) rfl
 ·
  refine z2.block ?_
  refine z2.to (z2.loop (fun n (z : Int) => z6j φ v1 (z6f φ v1) n z) r (fun z => ⟨zb.of [(1, (eqv (.pointer (some ⟨b2, 0, none⟩)))), (3, (iv .i64 (v1.fNetwork.fPlaces.length : Int))), (4, (iv .i64 z))], [(box b2 36 (z1l v1))]⟩) (fun z => rfl) (fun n33 v32 ih33 h => ?_) φ 0 h) [0] (sl rfl) (ol rfl) rfl
  replace h : z6j φ v1 (z6f φ v1) (n33 + 1) v32 = some r := h
  rw [z6j] at h
  refine cs (cs (cr [0, 1, 2, 3, 4] rfl (q1 rfl (z0 (mv rfl)) (q1 rfl (z3 (zis H) (mv rfl)) (q1 rfl (lb (tl32 H) 0 (mv rfl) rfl rfl) (q1 rfl (z0l (il32 H) (mv rfl)) (q1 rfl (z0n (mv rfl) (mv rfl)) (rn (al [1, 3, 4, 16] [0] rfl rfl rfl (sq ?_))))))))))
  refine cI h rfl (fun c34 h => ?_) (fun c34 h => ?_)
  ·
   refine z2.skip (al [1, 3, 4] [0] rfl rfl rfl (sq (cs (z2.block (cs (cr [0, 1, 2, 3, 4, 5, 6] rfl (q1 rfl (z3 (zis H) (mv rfl)) (q1 rfl (lb (tl32 H) 0 (mv rfl) rfl rfl) (q1 rfl (z0 (mv rfl)) (ckE h fun h35 h => q1 rfl (zk (ix32 H) (mv rfl) (mv rfl) (h35).1 (z7 h35)) ?_))))))))))
   refine q1 rfl (ln (zqf H) (Pt.rop (mv rfl)) rfl) (n1 rfl (z38 _ (zw2 H) rfl fun b36 => n1 rfl (sto 1 (zqf H) (mv rfl) (Ce.agg (mv rfl)) rfl rfl rfl rfl (rn (al [1, 3, 4, 5] [0, 1] rfl rfl rfl (sq (cs (cr [0, 1, 2, 3, 4, 5, 6, 7, 8, 9, 10, 11, 12, 13, 14, 15, 16, 17, 18, 19, 20, 21, 22] rfl (q1 rfl (z3 (zne H) (mv rfl)) (q1 rfl (lb (tl3 H) 1 (mv rfl) rfl rfl) (q1 rfl (z0 (mv rfl)) (q1 rfl (z24 (mv rfl) ct) ?_))))))))))))
   refine zn h fun y37 ey37 h => q1 rfl (oQ (z9j H) (z0v H φ ((gt v1.fReaders v32).fPlace) 0 (W ((v1.fNetwork.fPlaces.length : Int) - 1)) _ ey37) z5 ⟨ef (mv rfl), ef ct, ef (mv rfl), trivial⟩) (q1 rfl (z7l (mv rfl)) (q1 rfl (z0 (mv rfl)) (g1 rfl rfl (fun g38 => z3 (zj9 H) (mv rfl)) (g1 rfl rfl (fun g39 => lb (tl3 H) 1 (mc rfl g39) rfl rfl) (g1 rfl rfl (fun g40 => z0n (mc rfl g40) ct) (q1 rfl (opOr (mv rfl) ct (fun g41 => (mc rfl g41))) (q1 rfl (z0 (mv rfl)) (g1 rfl rfl (fun g42 => z3 (zj8 H) (mv rfl)) (g1 rfl rfl (fun g43 => lb (tl3 H) 1 (mc rfl g43) rfl rfl) (g1 rfl rfl (fun g44 => z3 (zj9 H) (mv rfl)) ?_))))))))))
   refine g1 rfl rfl (fun g45 => lb (tl3 H) 1 (mc rfl g45) rfl rfl) (g1 rfl rfl (fun g46 => z0n (mc rfl g46) (mc rfl g46)) (q1 rfl (opOr (mv rfl) ct (fun g47 => (mc rfl g47))) (q1 rfl (z0 (mv rfl)) (g1 rfl rfl (fun g48 => z3 (zj8 H) (mv rfl)) (g1 rfl rfl (fun g49 => lb (tl3 H) 1 (mc rfl g49) rfl rfl) (g1 rfl rfl (fun g50 => z4m (mc rfl g50) ct) (q1 rfl (opOr (mv rfl) ct (fun g51 => (mc rfl g51))) (rn (al [1, 3, 4, 46] [0] rfl rfl rfl (sq ?_))))))))))
   refine cI h rfl (fun c52 h => ?_) (fun c52 h => ?_)
   ·
    refine cs (cr [0] rfl (q1 rfl (z1 ct) (rn (al [2] [] rfl rfl rfl (sq (z2.ret (AtX.in_ret (AtX.then_ret (AtX.then_ret (AtX.in_ret (AtX.then_ret ?_)))))))))))
    refine AtX.ret' (bv false) (zo.one Try.results43 rfl) [] [] trivial rfl ?_
    obtain rfl := Option.some.inj h
    exact ⟨rfl, rfl⟩
   ·
    refine z2.skip (AtX.in_normal (al [1, 3, 4] [0] rfl rfl rfl (sq (cr [0, 1, 2] rfl (q1 rfl (z0 (mv rfl)) (q1 rfl (z0c (mv rfl) ct) (q1 rfl (z1 (mv rfl)) (rn ?_))))))))
    exact AtX.to (ih33 (W (v32 + 1)) h) [0] (sl rfl) (ol rfl) rfl
  ·
   refine z2.exit (AtX.then_exit (AtX.then_exit (AtX.in_hit ?_)))
   exact AtX.to (hJ3 () h) [0] (sl rfl) (ol rfl) rfl
theorem zi1 {P : Program} (H : P = Try.prog) (φ : Nat) (v1 : Pool) (r : (Bool)) (h : zbf φ v1 = some r) : z0d P 44 [(agg (z1l v1))] (fun x news => x = (bv r) ∧ news = []) := by
 unfold zbf at h
 refine z0d.of_code' 51 (fn44 H) rfl rfl (Nat.le_of_ble_eq_true rfl) fun w0 base r0 wI => ?_
 refine cl [0] [] rfl rfl rfl (cs (cr [0, 1] rfl (n1 rfl (z6e (Ce.agg (mv rfl)) fun b2 => q1 rfl (z1 ct) (rn (al [1] [0] rfl rfl rfl (sq (cs (cr [0, 1, 2, 3] rfl (q1 rfl (z3 (zcr H) (mv rfl)) (q1 rfl (lb (tl34 H) 0 (mv rfl) rfl rfl) ?_)))))))))))
 refine q1 rfl (z0l (il34 H) (mv rfl)) (q1 rfl (z1 (mv rfl)) (rn (al [1, 3] [0] rfl rfl rfl (sq (cs (cs (cr [0] rfl (q1 rfl (z1 ct) (rn (al [1, 3, 4] [0] rfl rfl rfl (sq ?_)))))))))))
 refine z2.join (fun z : Unit => (z5t φ v1)) r (fun z => ⟨zb.of [(1, (eqv (.pointer (some ⟨b2, 0, none⟩)))), (3, (iv .i64 (v1.fRailways.length : Int)))], [(box b2 36 (z1l v1))]⟩) (fun z h => ?_) (fun hJ3 => ?_)
 ·
  replace h : (z5t φ v1) = some r := h
  unfold z5t at h
  refine al [1, 3] [0] rfl rfl rfl (sq (cs (cs (cr [0] rfl (q1 rfl (z1 ct) (rn (al [1, 3, 6] [0] rfl rfl rfl (sq ?_))))))))
  refine z2.join (fun z : Unit => (z6k φ)) r (fun z => ⟨zb.of [], []⟩) (fun z h => ?_) (fun hJ4 => ?_)
  ·
   replace h : (z6k φ) = some r := h
   unfold z6k at h
   refine al [] [] rfl rfl rfl (sq (cs (cr [0] rfl (q1 rfl (z1 ct) (rn (al [2] [] rfl rfl rfl (sq (z2.ret (AtX.ret' (bv true) (zo.one Try.results44 rfl) [] [] trivial rfl ?_)))))))))
   obtain rfl := Option.some.inj h
   exact ⟨rfl, rfl⟩
  ·
   refine z2.block ?_
   refine z2.to (z2.loop (fun n (z : Int) => z6l φ v1 (z6k φ) n z) r (fun z => ⟨zb.of [(1, (eqv (.pointer (some ⟨b2, 0, none⟩)))), (3, (iv .i64 (v1.fRailways.length : Int))), (6, (iv .i64 z))], [(box b2 36 (z1l v1))]⟩) (fun z => rfl) (fun n6 v5 ih6 h => ?_) φ 0 h) [0] (sl rfl) (ol rfl) rfl
   replace h : z6l φ v1 (z6k φ) (n6 + 1) v5 = some r := h
   rw [z6l] at h
   refine cs (cs (cr [0, 1, 2, 3, 4, 5] rfl (q1 rfl (z0 (mv rfl)) (q1 rfl (z3 (z9z H) (mv rfl)) (q1 rfl (z3 (zed H) (mv rfl)) (q1 rfl (lb (tl23 H) 0 (mv rfl) rfl rfl) (q1 rfl (z0l (il23 H) (mv rfl)) (q1 rfl (z0n (mv rfl) (mv rfl)) (rn (al [1, 3, 6, 39] [0] rfl rfl rfl (sq ?_)))))))))))
   refine cI h rfl (fun c7 h => ?_) (fun c7 h => ?_)
   ·
    refine z2.skip (al [1, 3, 6] [0] rfl rfl rfl (sq (cs (z2.block (cs (cr [0, 1, 2, 3, 4, 5, 6, 7, 8] rfl (q1 rfl (z3 (z9z H) (mv rfl)) (q1 rfl (z3 (zed H) (mv rfl)) (q1 rfl (lb (tl23 H) 0 (mv rfl) rfl rfl) (q1 rfl (z0 (mv rfl)) (ckE h fun h8 h => ?_)))))))))))
    refine q1 rfl (zk (ix23 H) (mv rfl) (mv rfl) (h8).1 (z7 h8)) (q1 rfl (z2d (zgr H) (mv rfl) (cs' := [(iv .i64 ((gt v1.fNetwork.fEdges v5).fRailway))]) 1 rfl) (q1 rfl (lr (tl3 H) (mv rfl)) (q1 rfl (z0 (mv rfl)) (q1 rfl (z9i (mv rfl) (mv rfl)) (rn (al [1, 3, 6, 50] [0] rfl rfl rfl (sq ?_)))))))
    refine cI h rfl (fun c9 h => ?_) (fun c9 h => ?_)
    ·
     refine cs (cr [0] rfl (q1 rfl (z1 ct) (rn (al [2] [] rfl rfl rfl (sq (z2.ret (AtX.in_ret (AtX.then_ret (AtX.then_ret (AtX.in_ret (AtX.then_ret ?_)))))))))))
     refine AtX.ret' (bv false) (zo.one Try.results44 rfl) [] [] trivial rfl ?_
     obtain rfl := Option.some.inj h
     exact ⟨rfl, rfl⟩
    ·
     refine z2.skip (AtX.in_normal (al [1, 3, 6] [0] rfl rfl rfl (sq (cr [0, 1, 2] rfl (q1 rfl (z0 (mv rfl)) (q1 rfl (z0c (mv rfl) ct) (q1 rfl (z1 (mv rfl)) (rn ?_))))))))
     exact AtX.to (ih6 (W (v5 + 1)) h) [0] (sl rfl) (ol rfl) rfl
   ·
    refine z2.exit (AtX.then_exit (AtX.then_exit (AtX.in_hit ?_)))
    exact AtX.to (hJ4 () h) [] trivial trivial rfl
 ·
  refine z2.block ?_
  refine z2.to (z2.loop (fun n (z : Int) => z60 φ v1 (z5t φ v1) n z) r (fun z => ⟨zb.of [(1, (eqv (.pointer (some ⟨b2, 0, none⟩)))), (3, (iv .i64 (v1.fRailways.length : Int))), (4, (iv .i64 z))], [(box b2 36 (z1l v1))]⟩) (fun z => rfl) (fun n11 v10 ih11 h => ?_) φ 0 h) [0] (sl rfl) (ol rfl) rfl
  replace h : z60 φ v1 (z5t φ v1) (n11 + 1) v10 = some r := h
  rw [z60] at h
  refine cs (cs (cr [0, 1, 2, 3, 4, 5] rfl (q1 rfl (z0 (mv rfl)) (q1 rfl (z3 (z9z H) (mv rfl)) (q1 rfl (z3 (z9x H) (mv rfl)) (q1 rfl (lb (tl22 H) 0 (mv rfl) rfl rfl) (q1 rfl (z0l (il22 H) (mv rfl)) (q1 rfl (z0n (mv rfl) (mv rfl)) (rn (al [1, 3, 4, 15] [0] rfl rfl rfl (sq ?_)))))))))))
  refine cI h rfl (fun c12 h => ?_) (fun c12 h => ?_)
  ·
   refine z2.skip (al [1, 3, 4] [0] rfl rfl rfl (sq (cs (z2.block (cs (cr [0, 1, 2, 3, 4, 5, 6, 7] rfl (q1 rfl (z3 (z9z H) (mv rfl)) (q1 rfl (z3 (z9x H) (mv rfl)) (q1 rfl (lb (tl22 H) 0 (mv rfl) rfl rfl) (q1 rfl (z0 (mv rfl)) (ckE h fun h13 h => ?_)))))))))))
   refine q1 rfl (zk (ix22 H) (mv rfl) (mv rfl) (h13).1 (z7 h13)) (q1 rfl (ln (tl68 H) (Pt.rop (mv rfl)) rfl) (n1 rfl (z38 _ (ze68 H) rfl fun b14 => n1 rfl (sto 1 (tl68 H) (mv rfl) (Ce.agg (mv rfl)) rfl rfl rfl rfl (rn (al [1, 3, 4, 5] [0, 1] rfl rfl rfl (sq (cs (cr [0, 1, 2, 3, 4, 5, 6, 7, 8, 9] rfl (q1 rfl (z3 (zc3 H) (mv rfl)) (q1 rfl (lb (tl3 H) 1 (mv rfl) rfl rfl) (q1 rfl (z0 (mv rfl)) ?_))))))))))))
   refine q1 rfl (z9i (mv rfl) (mv rfl)) (q1 rfl (z0 (mv rfl)) (g1 rfl rfl (fun g15 => z3 (zbn H) (mv rfl)) (g1 rfl rfl (fun g16 => lb (tl3 H) 1 (mc rfl g16) rfl rfl) (g1 rfl rfl (fun g17 => z0 (mv rfl)) (g1 rfl rfl (fun g18 => z9i (mc rfl g18) (mc rfl g18)) (q1 rfl (opOr (mv rfl) ct (fun g19 => (mc rfl g19))) (rn (al [1, 3, 4, 33] [0] rfl rfl rfl (sq ?_)))))))))
   refine cI h rfl (fun c20 h => ?_) (fun c20 h => ?_)
   ·
    refine cs (cr [0] rfl (q1 rfl (z1 ct) (rn (al [2] [] rfl rfl rfl (sq (z2.ret (AtX.in_ret (AtX.then_ret (AtX.then_ret (AtX.in_ret (AtX.then_ret ?_)))))))))))
    refine AtX.ret' (bv false) (zo.one Try.results44 rfl) [] [] trivial rfl ?_
    obtain rfl := Option.some.inj h
    exact ⟨rfl, rfl⟩
   ·
    refine z2.skip (AtX.in_normal (al [1, 3, 4] [0] rfl rfl rfl (sq (cr [0, 1, 2] rfl (q1 rfl (z0 (mv rfl)) (q1 rfl (z0c (mv rfl) ct) (q1 rfl (z1 (mv rfl)) (rn ?_))))))))
    exact AtX.to (ih11 (W (v10 + 1)) h) [0] (sl rfl) (ol rfl) rfl
  ·
   refine z2.exit (AtX.then_exit (AtX.then_exit (AtX.in_hit ?_)))
   exact AtX.to (hJ3 () h) [0] (sl rfl) (ol rfl) rfl
theorem zhy {P : Program} (H : P = Try.prog) (φ : Nat) (v1 : z2q) (r : (Int)) (h : zbc φ v1 = some r) : z0d P 45 [(agg (z6q v1))] (fun x news => x = (iv .i64 r) ∧ news = []) := by
 unfold zbc at h
 refine z0d.of_code' 62 (fn45 H) rfl rfl (Nat.le_of_ble_eq_true rfl) fun w0 base r0 wI => ?_
 refine cl [0] [] rfl rfl rfl (cs (cr [0, 1] rfl (n1 rfl (z6e (Ce.agg (mv rfl)) fun b2 => q1 rfl (z1 ct) (rn (al [1] [0] rfl rfl rfl (sq (cs (cs (cr [0] rfl (q1 rfl (z1 ct) ?_)))))))))))
 refine rn (al [1, 3] [0] rfl rfl rfl (sq ?_))
 refine z2.join (fun z : Unit => (z6o φ v1)) r (fun z => ⟨zb.of [(1, (eqv (.pointer (some ⟨b2, 0, none⟩))))], [(box b2 105 (z6q v1))]⟩) (fun z h => ?_) (fun hJ3 => ?_)
 ·
  replace h : (z6o φ v1) = some r := h
  unfold z6o at h
  refine al [1] [0] rfl rfl rfl (sq (cs (cs (cr [0] rfl (q1 rfl (z1 ct) (rn (al [1, 5] [0] rfl rfl rfl (sq ?_))))))))
  refine z2.join (fun z : Unit => (z7h φ)) r (fun z => ⟨zb.of [], []⟩) (fun z h => ?_) (fun hJ4 => ?_)
  ·
   replace h : (z7h φ) = some r := h
   unfold z7h at h
   refine al [] [] rfl rfl rfl (sq (cs (cr [0] rfl (q1 rfl (z1 ct) (rn (al [2] [] rfl rfl rfl (sq (z2.ret (AtX.ret' (iv .i64 0) (zo.one Try.results45 rfl) [] [] trivial rfl ?_)))))))))
   obtain rfl := Option.some.inj h
   exact ⟨rfl, rfl⟩
  ·
   refine z2.block ?_
   refine z2.to (z2.loop (fun n (z : Int) => z6i φ v1 (z7h φ) n z) r (fun z => ⟨zb.of [(1, (eqv (.pointer (some ⟨b2, 0, none⟩)))), (5, (iv .i64 z))], [(box b2 105 (z6q v1))]⟩) (fun z => rfl) (fun n6 v5 ih6 h => ?_) φ 0 h) [0] (sl rfl) (ol rfl) rfl
   replace h : z6i φ v1 (z7h φ) (n6 + 1) v5 = some r := h
   rw [z6i] at h
   refine cs (cs (cr [0, 1, 2, 3, 4] rfl (q1 rfl (z0 (mv rfl)) (q1 rfl (z3 (zhi H) (mv rfl)) (q1 rfl (lb (tl96 H) 0 (mv rfl) rfl rfl) (q1 rfl (z0l (il96 H) (mv rfl)) (q1 rfl (z0n (mv rfl) (mv rfl)) (rn (al [1, 5, 34] [0] rfl rfl rfl (sq ?_))))))))))
   refine cI h rfl (fun c7 h => ?_) (fun c7 h => ?_)
   ·
    refine z2.skip (al [1, 5] [0] rfl rfl rfl (sq (cs (z2.block (cs (cr [0, 1, 2, 3, 4, 5] rfl (q1 rfl (z3 (zhi H) (mv rfl)) (q1 rfl (lb (tl96 H) 0 (mv rfl) rfl rfl) (q1 rfl (z0 (mv rfl)) (ckE h fun h8 h => q1 rfl (zk (ix96 H) (mv rfl) (mv rfl) (h8).1 (z7 h8)) ?_))))))))))
    refine q1 rfl (lr (tl3 H) (mv rfl)) (q1 rfl (z1 (mv rfl)) (rn (al [1, 5, 6] [0] rfl rfl rfl (sq (cs (cr [0, 1, 2, 3, 4, 5, 6, 7, 8, 9, 10, 11, 12, 13, 14, 15, 16, 17, 18, 19] rfl (q1 rfl (z0 (mv rfl)) (q1 rfl (z0n (mv rfl) ct) (q1 rfl (z0 (mv rfl)) (g1 rfl rfl (fun g9 => z0 (mv rfl)) (g1 rfl rfl (fun g10 => z4m (mc rfl g10) ct) ?_)))))))))))
    refine q1 rfl (opOr (mv rfl) ct (fun g11 => (mc rfl g11))) (q1 rfl (z0 (mv rfl)) (g1 rfl rfl (fun g12 => z0 (mv rfl)) (g1 rfl rfl (fun g13 => z4m (mc rfl g13) ct) (g1 rfl rfl (fun g14 => z0 (mc rfl g14)) (gc rfl rfl (fun g15 => (z3 (zhi H) (mv rfl))) (gc rfl rfl (fun g16 => (lb (tl96 H) 0 (mc rfl ⟨g16.1, g16.2⟩) rfl rfl)) (gc rfl rfl (fun g17 => (z0 (mv rfl))) (gc rfl rfl (fun g18 => (z24 (mc rfl ⟨g18.1, g18.2⟩) ct)) (ckE h fun h20 h => gc rfl rfl (fun g19 => (zk (ix96 H) (mc rfl ⟨g19.1, g19.2⟩) (mc rfl ⟨g19.1, g19.2⟩) ((h20 g19)).1 (z7 (h20 g19)))) (gc rfl rfl (fun g21 => (lr (tl3 H) (mc rfl ⟨g21.1, g21.2⟩))) ?_))))))))))
    refine gc rfl rfl (fun g22 => (z0 (mv rfl))) (gc rfl rfl (fun g23 => (z9i (mc rfl ⟨g23.1, g23.2⟩) (mc rfl ⟨g23.1, g23.2⟩))) (g1 rfl rfl (fun g24 => z2w (mc rfl g24) (fun g25 => (mc rfl ⟨g24, g25⟩)) ct) (q1 rfl (opOr (mv rfl) ct (fun g26 => (mc rfl g26))) (rn (al [1, 5, 61] [0] rfl rfl rfl (sq ?_))))))
    refine cI h rfl (fun c27 h => ?_) (fun c27 h => ?_)
    ·
     refine cs (cr [0] rfl (q1 rfl (z1 ct) (rn (al [2] [] rfl rfl rfl (sq (z2.ret (AtX.in_ret (AtX.then_ret (AtX.then_ret (AtX.in_ret (AtX.then_ret ?_)))))))))))
     refine AtX.ret' (iv .i64 1) (zo.one Try.results45 rfl) [] [] trivial rfl ?_
     obtain rfl := Option.some.inj h
     exact ⟨rfl, rfl⟩
    ·
     refine z2.skip (AtX.in_normal (al [1, 5] [0] rfl rfl rfl (sq (cr [0, 1, 2] rfl (q1 rfl (z0 (mv rfl)) (q1 rfl (z0c (mv rfl) ct) (q1 rfl (z1 (mv rfl)) (rn ?_))))))))
     exact AtX.to (ih6 (W (v5 + 1)) h) [0] (sl rfl) (ol rfl) rfl
   ·
    refine z2.exit (AtX.then_exit (AtX.then_exit (AtX.in_hit ?_)))
    exact AtX.to (hJ4 () h) [] trivial trivial rfl
 ·
  refine z2.block ?_
  refine z2.to (z2.loop (fun n (z : Int) => z63 φ v1 (z6o φ v1) n z) r (fun z => ⟨zb.of [(1, (eqv (.pointer (some ⟨b2, 0, none⟩)))), (3, (iv .i64 z))], [(box b2 105 (z6q v1))]⟩) (fun z => rfl) (fun n29 v28 ih29 h => ?_) φ 0 h) [0] (sl rfl) (ol rfl) rfl
  replace h : z63 φ v1 (z6o φ v1) (n29 + 1) v28 = some r := h
  rw [z63] at h
  refine cs (cs (cr [0, 1] rfl (q1 rfl (z0 (mv rfl)) (q1 rfl (z0n (mv rfl) ct) (rn (al [1, 3, 8] [0] rfl rfl rfl (sq ?_)))))))
  refine cI h rfl (fun c30 h => ?_) (fun c30 h => ?_)
  ·
   refine z2.skip (al [1, 3] [0] rfl rfl rfl (sq (cs (z2.block (cs (cr [0, 1, 2, 3, 4, 5] rfl (q1 rfl (z0 (mv rfl)) (q1 rfl (z3 (zo7 H) (mv rfl)) (ckE h fun h31 h => q1 rfl (z69 (zxg H) (mv rfl) (mv rfl) (h31).1 (h31).2) (q1 rfl (ln (tl62 H) (Pt.ofArr (e := zj7) 0 (off := 0 + (v28 : Int).toNat * 2) (k := (v28 : Int).toNat) (mv rfl) rfl zmu (by have hb0 := h31; simp only [List.length_nil, List.length_cons] <;> omega) (by have hb0 := h31; omega)) rfl) ?_))))))))))
   refine n1 rfl (z38 _ (ze62 H) rfl fun b32 => n1 rfl (sto 1 (tl62 H) (mv rfl) (Ce.agg (mv rfl)) rfl rfl rfl rfl (rn (al [1, 3, 4] [0, 1] rfl rfl rfl (sq (cs (cr [0, 1, 2, 3, 4, 5, 6, 7, 8, 9, 10, 11, 12, 13, 14] rfl (q1 rfl (z3 (zfl H) (mv rfl)) (q1 rfl (lb (tl3 H) 1 (mv rfl) rfl rfl) (q1 rfl (z0n (mv rfl) ct) (q1 rfl (z0 (mv rfl)) (g1 rfl rfl (fun g33 => z3 (ziu H) (mv rfl)) ?_))))))))))))
   refine g1 rfl rfl (fun g34 => lb (tl3 H) 1 (mc rfl g34) rfl rfl) (g1 rfl rfl (fun g35 => z3 (zfl H) (mv rfl)) (g1 rfl rfl (fun g36 => lb (tl3 H) 1 (mc rfl g36) rfl rfl) (g1 rfl rfl (fun g37 => z0n (mc rfl g37) (mc rfl g37)) (q1 rfl (opOr (mv rfl) ct (fun g38 => (mc rfl g38))) (q1 rfl (z0 (mv rfl)) (g1 rfl rfl (fun g39 => z3 (ziu H) (mv rfl)) (g1 rfl rfl (fun g40 => lb (tl3 H) 1 (mc rfl g40) rfl rfl) (g1 rfl rfl (fun g41 => z4m (mc rfl g41) ct) (q1 rfl (opOr (mv rfl) ct (fun g42 => (mc rfl g42))) (rn (al [1, 3, 29] [0] rfl rfl rfl ?_)))))))))))
   refine sq ?_
   refine cI h rfl (fun c43 h => ?_) (fun c43 h => ?_)
   ·
    refine cs (cr [0] rfl (q1 rfl (z1 ct) (rn (al [2] [] rfl rfl rfl (sq (z2.ret (AtX.in_ret (AtX.then_ret (AtX.then_ret (AtX.in_ret (AtX.then_ret ?_)))))))))))
    refine AtX.ret' (iv .i64 1) (zo.one Try.results45 rfl) [] [] trivial rfl ?_
    obtain rfl := Option.some.inj h
    exact ⟨rfl, rfl⟩
   ·
    refine z2.skip (AtX.in_normal (al [1, 3] [0] rfl rfl rfl (sq (cr [0, 1, 2] rfl (q1 rfl (z0 (mv rfl)) (q1 rfl (z0c (mv rfl) ct) (q1 rfl (z1 (mv rfl)) (rn ?_))))))))
    exact AtX.to (ih29 (W (v28 + 1)) h) [0] (sl rfl) (ol rfl) rfl
  ·
   refine z2.exit (AtX.then_exit (AtX.then_exit (AtX.in_hit ?_)))
   exact AtX.to (hJ3 () h) [0] (sl rfl) (ol rfl) rfl
theorem zdp {P : Program} (H : P = Try.prog) (φ : Nat) (v1 : Int) (v2 : Int) (v3 : Int) (r : (Int)) (h : za7 φ v1 v2 v3 = some r) : z0d P 83 [(iv .u64 v1), (iv .u64 v2), (iv .u64 v3)] (fun x news => x = (iv .u64 r) ∧ news = []) := by
 unfold za7 at h
 refine z0d.of_code' 26 (fn83 H) rfl rfl (Nat.le_of_ble_eq_true rfl) fun w0 base r0 wI => ?_
 refine cl [0, 1, 2] [] rfl rfl rfl (cs (cr [0] rfl (q1 rfl (z1 ct) (rn (al [0, 1, 2] [] rfl rfl rfl (sq (cs (cr [0] rfl (q1 rfl (z1 ct) (rn (al [0, 1, 2, 7] [] rfl rfl rfl ?_)))))))))))
 refine sq (cs ?_)
 refine z2.join (fun z : Int => (z5o φ) z) r (fun z => ⟨zb.of [(7, (iv .u64 z))], []⟩) (fun v4 h => ?_) (fun hJ5 => ?_)
 ·
  replace h : (z5o φ) v4 = some r := h
  unfold z5o at h
  refine al [7] [] rfl rfl rfl (sq (cs (cr [0, 1] rfl (q1 rfl (z0 (mv rfl)) (q1 rfl (z1 (mv rfl)) (rn (al [6] [] rfl rfl rfl (sq (z2.ret (AtX.ret' (iv .u64 v4) (zo.one Try.results83 rfl) [] [] trivial rfl ?_))))))))))
  obtain rfl := Option.some.inj h
  exact ⟨rfl, rfl⟩
 ·
  refine z2.block ?_
  refine z2.to (z2.loop (fun n (z : Int × Int × Int) => z3y φ v3 (z5o φ) n z.1 z.2.1 z.2.2) r (fun z => ⟨zb.of [(0, (iv .u64 z.1)), (1, (iv .u64 z.2.1)), (2, (iv .u64 v3)), (7, (iv .u64 z.2.2))], []⟩) (fun z => rfl) (fun n9 z ih9 h => ?_) φ (v1, v2, 0) h) [] (sl rfl) trivial rfl
  obtain ⟨v6, v7, v8⟩ := z
  replace h : z3y φ v3 (z5o φ) (n9 + 1) v6 v7 v8 = some r := h
  rw [z3y] at h
  refine cs (cs (cr [0, 1] rfl (q1 rfl (z0 (mv rfl)) (q1 rfl (z4m (mv rfl) ct) (rn (al [0, 1, 2, 7, 9] [] rfl rfl rfl (sq ?_)))))))
  refine cI h rfl (fun c10 h => ?_) (fun c10 h => ?_)
  ·
   refine z2.skip (al [0, 1, 2, 7] [] rfl rfl rfl (sq (cs (z2.block (cs (cs (cr [0, 1, 2] rfl (q1 rfl (z0 (mv rfl)) (q1 rfl (zhs (mv rfl) ct (by decide)) (q1 rfl (z5k (mv rfl) ct) (rn ?_)))))))))))
   refine al [0, 1, 2, 7, 14] [] rfl rfl rfl (sq ?_)
   refine z2.join (fun z : Int => (z7v φ v3 v6 v7 (z3y φ v3 (z5o φ) n9)) z) r (fun z => ⟨zb.of [(0, (iv .u64 v6)), (1, (iv .u64 v7)), (2, (iv .u64 v3)), (7, (iv .u64 z))], []⟩) (fun v11 h => ?_) (fun hJ12 => ?_)
   ·
    replace h : (z7v φ v3 v6 v7 (z3y φ v3 (z5o φ) n9)) v11 = some r := h
    unfold z7v at h
    refine al [0, 1, 2, 7] [] rfl rfl rfl (sq (cr [0, 1, 2, 3, 4, 5] rfl (q1 rfl (z0 (mv rfl)) (q1 rfl (z0 (mv rfl)) (q1 rfl (z0c (mv rfl) (mv rfl)) (q1 rfl (z0 (mv rfl)) (ckE h fun h13 h => q1 rfl (zhs (mv rfl) (mv rfl) h13) (q1 rfl (z1 (mv rfl)) (rn (AtX.in_normal ?_))))))))))
    refine al [0, 1, 2, 7] [] rfl rfl rfl (sq (cr [0, 1, 2] rfl (q1 rfl (z0 (mv rfl)) (q1 rfl (zn6 (mv rfl) ct (by decide)) (q1 rfl (z1 (mv rfl)) (rn ?_))))))
    exact AtX.to (ih9 (((U (v6 + v6)).tmod v3), (U (v7.tdiv 2)), v11) h) [] (sl rfl) trivial rfl
   ·
    refine cI h rfl (fun c14 h => ?_) (fun c14 h => ?_)
    ·
     refine cr [0, 1, 2, 3, 4, 5] rfl (q1 rfl (z0 (mv rfl)) (q1 rfl (z0 (mv rfl)) (q1 rfl (z0c (mv rfl) (mv rfl)) (q1 rfl (z0 (mv rfl)) (ckE h fun h15 h => q1 rfl (zhs (mv rfl) (mv rfl) h15) (q1 rfl (z1 (mv rfl)) (rn ?_)))))))
     exact AtX.to (hJ12 ((U (v8 + v6)).tmod v3) h) [] (sl rfl) trivial rfl
    ·
     refine z2.skip ?_
     exact AtX.to (hJ12 v8 h) [] (sl rfl) trivial rfl
  ·
   refine z2.exit (AtX.then_exit (AtX.then_exit (AtX.in_hit ?_)))
   exact AtX.to (hJ5 v8 h) [] (sl rfl) trivial rfl
theorem zkj {P : Program} (H : P = Try.prog) (φ : Nat) (v1 : Int) (v2 : Int) (r : (Int)) (h : zd8 φ v1 v2 = some r) : z0d P 70 [(iv .u64 v1), (iv .u64 v2)] (fun x news => x = (iv .u64 r) ∧ news = []) := by
 unfold zd8 at h
 refine z0d.of_code' 22 (fn70 H) rfl rfl (Nat.le_of_ble_eq_true rfl) fun w0 base r0 wI => ?_
 refine cl [0, 1] [] rfl rfl rfl (cs (cr [0] rfl (q1 rfl (z1 ct) (rn (al [0, 1] [] rfl rfl rfl (sq (cs (cr [0] rfl (q1 rfl (z1 ct) (rn (al [0, 1, 5] [] rfl rfl rfl ?_)))))))))))
 refine sq (cs (cs (cr [0, 1, 2] rfl (q1 rfl (z0 (mv rfl)) (q1 rfl (zhs (mv rfl) ct (by decide)) (q1 rfl (z1 (mv rfl)) (rn (al [0, 1, 5] [] rfl rfl rfl (sq ?_)))))))))
 refine z2.join (fun z : Int => (z79 φ) z) r (fun z => ⟨zb.of [(5, (iv .u64 z))], []⟩) (fun v3 h => ?_) (fun hJ4 => ?_)
 ·
  replace h : (z79 φ) v3 = some r := h
  unfold z79 at h
  refine al [5] [] rfl rfl rfl (sq (cs (cr [0, 1] rfl (q1 rfl (z0 (mv rfl)) (q1 rfl (z1 (mv rfl)) (rn (al [4] [] rfl rfl rfl (sq (z2.ret (AtX.ret' (iv .u64 v3) (zo.one Try.results70 rfl) [] [] trivial rfl ?_))))))))))
  obtain rfl := Option.some.inj h
  exact ⟨rfl, rfl⟩
 ·
  refine z2.block ?_
  refine z2.to (z2.loop (fun n (z : Int × Int × Int) => z59 φ (z79 φ) n z.1 z.2.1 z.2.2) r (fun z => ⟨zb.of [(0, (iv .u64 z.1)), (1, (iv .u64 z.2.1)), (5, (iv .u64 z.2.2))], []⟩) (fun z => rfl) (fun n8 z ih8 h => ?_) φ ((v1.tmod 2305843009213690799), v2, 1) h) [] (sl rfl) trivial rfl
  obtain ⟨v5, v6, v7⟩ := z
  replace h : z59 φ (z79 φ) (n8 + 1) v5 v6 v7 = some r := h
  rw [z59] at h
  refine cs (cs (cr [0, 1] rfl (q1 rfl (z0 (mv rfl)) (q1 rfl (z4m (mv rfl) ct) (rn (al [0, 1, 5, 9] [] rfl rfl rfl (sq ?_)))))))
  refine cI h rfl (fun c9 h => ?_) (fun c9 h => ?_)
  ·
   refine z2.skip (al [0, 1, 5] [] rfl rfl rfl (sq (cs (z2.block (cs (cs (cr [0, 1, 2] rfl (q1 rfl (z0 (mv rfl)) (q1 rfl (zhs (mv rfl) ct (by decide)) (q1 rfl (z5k (mv rfl) ct) (rn ?_)))))))))))
   refine al [0, 1, 5, 14] [] rfl rfl rfl (sq ?_)
   refine z2.join (fun z : Int => (z91 φ v5 v6 (z59 φ (z79 φ) n8)) z) r (fun z => ⟨zb.of [(0, (iv .u64 v5)), (1, (iv .u64 v6)), (5, (iv .u64 z))], []⟩) (fun v10 h => ?_) (fun hJ11 => ?_)
   ·
    replace h : (z91 φ v5 v6 (z59 φ (z79 φ) n8)) v10 = some r := h
    unfold z91 at h
    refine al [0, 1, 5] [] rfl rfl rfl (sq (cr [0, 1, 2, 3] rfl (q1 rfl (z0 (mv rfl)) (q1 rfl (z0 (mv rfl)) (zn h fun y12 ey12 h => q1 rfl (oQ (zrs H) (zdp H φ v5 v5 2305843009213690799 _ ey12) z5 ⟨ef (mv rfl), ef (mv rfl), ef ct, trivial⟩) (q1 rfl (z1 (mv rfl)) (rn (AtX.in_normal (al [0, 1, 5] [] rfl rfl rfl (sq ?_))))))))))
    refine cr [0, 1, 2] rfl (q1 rfl (z0 (mv rfl)) (q1 rfl (zn6 (mv rfl) ct (by decide)) (q1 rfl (z1 (mv rfl)) (rn ?_))))
    exact AtX.to (ih8 (y12, (U (v6.tdiv 2)), v10) h) [] (sl rfl) trivial rfl
   ·
    refine cI h rfl (fun c13 h => ?_) (fun c13 h => ?_)
    ·
     refine cr [0, 1, 2, 3] rfl (q1 rfl (z0 (mv rfl)) (q1 rfl (z0 (mv rfl)) (zn h fun y14 ey14 h => q1 rfl (oQ (zrs H) (zdp H φ v7 v5 2305843009213690799 _ ey14) z5 ⟨ef (mv rfl), ef (mv rfl), ef ct, trivial⟩) (q1 rfl (z1 (mv rfl)) (rn ?_)))))
     exact AtX.to (hJ11 y14 h) [] (sl rfl) trivial rfl
    ·
     refine z2.skip ?_
     exact AtX.to (hJ11 v7 h) [] (sl rfl) trivial rfl
  ·
   refine z2.exit (AtX.then_exit (AtX.then_exit (AtX.in_hit ?_)))
   exact AtX.to (hJ4 v7 h) [] (sl rfl) trivial rfl
theorem zi5 {P : Program} (H : P = Try.prog) (φ : Nat) (v1 : Int) (r : (Bool)) (h : zba φ v1 = some r) : z0d P 46 [(iv .u64 v1)] (fun x news => x = (bv r) ∧ news = []) := by
 unfold zba at h
 refine z0d.of_code' 14 (fn46 H) rfl rfl (Nat.le_of_ble_eq_true rfl) fun w0 base r0 wI => ?_
 refine cl [0] [] rfl rfl rfl (cs (cr [0] rfl (q1 rfl (z1 ct) (rn (al [0] [] rfl rfl rfl (sq (cs (cr [0, 1, 2, 3, 4, 5, 6, 7, 8, 9, 10, 11] rfl (q1 rfl (z0 (mv rfl)) (q1 rfl (z9i (mv rfl) ct) (q1 rfl (z0 (mv rfl)) ?_)))))))))))
 refine g1 rfl rfl (fun g2 => z0 (mv rfl)) (g1 rfl rfl (fun g3 => z0n (mc rfl g3) ct) (q1 rfl (z2w (mv rfl) (fun g4 => (mc rfl g4)) ct) (q1 rfl (z0 (mv rfl)) (g1 rfl rfl (fun g5 => z0 (mv rfl)) (zn h fun y7 ey7 h => g1 rfl rfl (fun g6 => oQ (zvt H) (zkj H φ v1 1152921504606845399 _ (zr ey7 g6)) z5 ⟨ef (mc rfl g6), ef ct, trivial⟩) (g1 rfl rfl (fun g8 => z5k (mc rfl g8) ct) (q1 rfl (z2w (mv rfl) (fun g9 => (mc rfl g9)) ct) (q1 rfl (z1 (mv rfl)) (rn (al [2] [] rfl rfl rfl ?_))))))))))
 refine sq (z2.ret (AtX.ret' (bv ((decide (2 ≤ v1) && decide (v1 < 2305843009213690799)) && (y7 == 1))) (zo.one Try.results46 rfl) [] [] trivial rfl ?_))
 obtain rfl := Option.some.inj h
 exact ⟨rfl, rfl⟩
theorem zec {P : Program} (H : P = Try.prog) (φ : Nat) (v1 : Pool) (r : (Int)) (h : z8t φ v1 = some r) : z0d P 19 [(agg (z1l v1))] (fun x news => x = (iv .i64 r) ∧ news = []) := by
 unfold z8t at h
 refine z0d.of_code' 70 (fn19 H) rfl rfl (Nat.le_of_ble_eq_true rfl) fun w0 base r0 wI => ?_
 refine cl [0] [] rfl rfl rfl (cs (cr [0, 1] rfl (n1 rfl (z6e (Ce.agg (mv rfl)) fun b2 => q1 rfl (z1 ct) (rn (al [1] [0] rfl rfl rfl (sq (cs (cr [0, 1, 2, 3] rfl (q1 rfl (z3 (z9z H) (mv rfl)) (q1 rfl (ln (tl25 H) ((Pt.box 0 (mv rfl) rfl rfl).take 2 (cs' := (zae v1.fNetwork)) rfl) rfl) ?_)))))))))))
 refine zn h fun y3 ey3 h => q1 rfl (oQ (zuy H) (zhq H φ v1.fNetwork _ ey3) z5 ⟨ef (mv rfl), trivial⟩) (q1 rfl (z1 (mv rfl)) (rn (al [1, 3] [0] rfl rfl rfl (sq (cs (cs (cr [0, 1] rfl (q1 rfl (z0 (mv rfl)) (q1 rfl (z78 (mv rfl) ct) (rn ?_))))))))))
 refine al [1, 3, 9] [0] rfl rfl rfl (sq ?_)
 refine cI h rfl (fun c4 h => ?_) (fun c4 h => ?_)
 ·
  refine cs (cr [0, 1] rfl (q1 rfl (z0 (mv rfl)) (q1 rfl (z1 (mv rfl)) (rn (al [2] [] rfl rfl rfl (sq (z2.ret (AtX.then_ret (AtX.ret' (iv .i64 y3) (zo.one Try.results19 rfl) [] [] trivial rfl ?_)))))))))
  obtain rfl := Option.some.inj h
  exact ⟨rfl, rfl⟩
 ·
  refine z2.skip (al [1] [0] rfl rfl rfl (sq (cs (cr [0, 1, 2, 3] rfl (q1 rfl (z3 (zd4 H) (mv rfl)) (q1 rfl (ln (tl31 H) ((Pt.box 0 (mv rfl) rfl rfl).take 4 (cs' := (z70 v1.fFleet)) rfl) rfl) (zn h fun y5 ey5 h => q1 rfl (oQ (zu8 H) (zi3 H φ v1.fFleet _ ey5) z5 ⟨ef (mv rfl), trivial⟩) (q1 rfl (z1 (mv rfl)) (rn (al [1, 3] [0] rfl rfl rfl ?_))))))))))
  refine sq (cs (cs (cr [0, 1] rfl (q1 rfl (z0 (mv rfl)) (q1 rfl (z78 (mv rfl) ct) (rn (al [1, 3, 15] [0] rfl rfl rfl (sq ?_))))))))
  refine cI h rfl (fun c6 h => ?_) (fun c6 h => ?_)
  ·
   refine cs (cr [0, 1] rfl (q1 rfl (z0 (mv rfl)) (q1 rfl (z1 (mv rfl)) (rn (al [2] [] rfl rfl rfl (sq (z2.ret (AtX.then_ret (AtX.ret' (iv .i64 y5) (zo.one Try.results19 rfl) [] [] trivial rfl ?_)))))))))
   obtain rfl := Option.some.inj h
   exact ⟨rfl, rfl⟩
  ·
   refine z2.skip (al [1] [0] rfl rfl rfl (sq (cs (cs (cr [0, 1, 2, 3, 4, 5, 6, 7, 8, 9, 10, 11, 12, 13, 14, 15] rfl (q1 rfl (z3 (zis H) (mv rfl)) (q1 rfl (lb (tl32 H) 0 (mv rfl) rfl rfl) (q1 rfl (z0l (il32 H) (mv rfl)) (q1 rfl (z4m (mv rfl) ct) (q1 rfl (z0 (mv rfl)) (g1 rfl rfl (fun g7 => z3 (zir H) (mv rfl)) ?_)))))))))))
   refine g1 rfl rfl (fun g8 => lb (tl33 H) 0 (mc rfl g8) rfl rfl) (g1 rfl rfl (fun g9 => z0l (il33 H) (mc rfl g9)) (g1 rfl rfl (fun g10 => z4m (mc rfl g10) ct) (q1 rfl (opOr (mv rfl) ct (fun g11 => (mc rfl g11))) (q1 rfl (z0 (mv rfl)) (g1 rfl rfl (fun g12 => z3 (zcr H) (mv rfl)) (g1 rfl rfl (fun g13 => lb (tl34 H) 0 (mc rfl g13) rfl rfl) (g1 rfl rfl (fun g14 => z0l (il34 H) (mc rfl g14)) (g1 rfl rfl (fun g15 => z4m (mc rfl g15) ct) (q1 rfl (opOr (mv rfl) ct (fun g16 => (mc rfl g16))) (rn (al [1, 32] [0] rfl rfl rfl ?_)))))))))))
   refine sq ?_
   refine cI h rfl (fun c17 h => ?_) (fun c17 h => ?_)
   ·
    refine cs (cr [0] rfl (q1 rfl (z1 ct) (rn (al [2] [] rfl rfl rfl (sq (z2.ret (AtX.then_ret (AtX.ret' (iv .i64 2) (zo.one Try.results19 rfl) [] [] trivial rfl ?_))))))))
    obtain rfl := Option.some.inj h
    exact ⟨rfl, rfl⟩
   ·
    refine z2.skip (al [1] [0] rfl rfl rfl (sq (cs (cs (cr [0, 1, 2, 3, 4, 5, 6, 7] rfl (q1 rfl (ln (tl36 H) ((Pt.box 0 (mv rfl) rfl rfl).take 9 (cs' := (z1l v1)) rfl) rfl) (zn h fun y18 ey18 h => q1 rfl (oQ (zvr H) (zix H φ v1 _ ey18) z5 ⟨ef (mv rfl), trivial⟩) (q1 rfl (z7l (mv rfl)) (q1 rfl (z0 (mv rfl)) (g1 rfl rfl (fun g19 => ln (tl36 H) ((Pt.box 0 (mv rfl) rfl rfl).take 9 (cs' := (z1l v1)) rfl) rfl) ?_))))))))))
    refine zn h fun y21 ey21 h => g1 rfl rfl (fun g20 => oQ (zui H) (zi1 H φ v1 _ (zr ey21 g20)) z5 ⟨ef (mc rfl g20), trivial⟩) (g1 rfl rfl (fun g22 => z7l (mc rfl g22)) (q1 rfl (opOr (mv rfl) ct (fun g23 => (mc rfl g23))) (rn (al [1, 40] [0] rfl rfl rfl (sq ?_)))))
    refine cI h rfl (fun c24 h => ?_) (fun c24 h => ?_)
    ·
     refine cs (cr [0] rfl (q1 rfl (z1 ct) (rn (al [2] [] rfl rfl rfl (sq (z2.ret (AtX.then_ret (AtX.ret' (iv .i64 1) (zo.one Try.results19 rfl) [] [] trivial rfl ?_))))))))
     obtain rfl := Option.some.inj h
     exact ⟨rfl, rfl⟩
    ·
     refine z2.skip (al [1] [0] rfl rfl rfl (sq (cs (cs (cr [0] rfl (q1 rfl (z1 ct) (rn (al [1, 4] [0] rfl rfl rfl (sq ?_)))))))))
     refine z2.join (fun z : Unit => (z2p φ v1)) r (fun z => ⟨zb.of [(1, (eqv (.pointer (some ⟨b2, 0, none⟩))))], [(box b2 36 (z1l v1))]⟩) (fun z h => ?_) (fun hJ25 => ?_)
     ·
      replace h : (z2p φ v1) = some r := h
      unfold z2p at h
      refine al [1] [0] rfl rfl rfl (sq (cs (cs (cr [0, 1, 2, 3] rfl (q1 rfl (z3 (zcr H) (mv rfl)) (q1 rfl (lb (tl34 H) 0 (mv rfl) rfl rfl) (q1 rfl (z0l (il34 H) (mv rfl)) (q1 rfl (z5k (mv rfl) ct) (rn (al [69] [] rfl rfl rfl (sq ?_)))))))))))
      refine cI h rfl (fun c26 h => ?_) (fun c26 h => ?_)
      ·
       refine cs (cr [0] rfl (q1 rfl (z1 ct) (rn (al [2] [] rfl rfl rfl (sq (z2.ret (AtX.then_ret (AtX.ret' (iv .i64 1) (zo.one Try.results19 rfl) [] [] trivial rfl ?_))))))))
       obtain rfl := Option.some.inj h
       exact ⟨rfl, rfl⟩
      ·
       refine z2.skip (al [] [] rfl rfl rfl (sq (cs (cr [0] rfl (q1 rfl (z1 ct) (rn (al [2] [] rfl rfl rfl (sq (z2.ret (AtX.ret' (iv .i64 0) (zo.one Try.results19 rfl) [] [] trivial rfl ?_))))))))))
       obtain rfl := Option.some.inj h
       exact ⟨rfl, rfl⟩
     ·
      refine z2.block ?_
      refine z2.to (z2.loop (fun n (z : Int) => z3a φ v1 (z2p φ v1) n z) r (fun z => ⟨zb.of [(1, (eqv (.pointer (some ⟨b2, 0, none⟩)))), (4, (iv .i64 z))], [(box b2 36 (z1l v1))]⟩) (fun z => rfl) (fun n28 v27 ih28 h => ?_) φ 0 h) [0] (sl rfl) (ol rfl) rfl
      replace h : z3a φ v1 (z2p φ v1) (n28 + 1) v27 = some r := h
      rw [z3a] at h
      refine cs (cs (cr [0, 1, 2, 3, 4] rfl (q1 rfl (z0 (mv rfl)) (q1 rfl (z3 (zcr H) (mv rfl)) (q1 rfl (lb (tl34 H) 0 (mv rfl) rfl rfl) (q1 rfl (z0l (il34 H) (mv rfl)) (q1 rfl (z0n (mv rfl) (mv rfl)) (rn (al [1, 4, 45] [0] rfl rfl rfl (sq ?_))))))))))
      refine cI h rfl (fun c29 h => ?_) (fun c29 h => ?_)
      ·
       refine z2.skip (al [1, 4] [0] rfl rfl rfl (sq (cs (z2.block (cs (cr [0, 1, 2, 3, 4, 5, 6, 7, 8, 9, 10, 11, 12, 13, 14, 15, 16, 17] rfl (q1 rfl (z3 (zcr H) (mv rfl)) (q1 rfl (lb (tl34 H) 0 (mv rfl) rfl rfl) (q1 rfl (z0 (mv rfl)) (ckE h fun h30 h => q1 rfl (zk (ix34 H) (mv rfl) (mv rfl) (h30).1 (z7 h30)) ?_))))))))))
       refine q1 rfl (z2d (zls H) (mv rfl) (cs' := (z6q (gt v1.fRailways v27).fCalendar)) 15 rfl) (q1 rfl (zdf (zur H) (by simp [zcq zmu, z6q]) (Pt.rop (mv rfl))) (zn h fun y31 ey31 h => q1 rfl (oQ (ztk H) (zhy H φ ((gt v1.fRailways v27).fCalendar) _ ey31) z5 ⟨ef (mv rfl), trivial⟩) (q1 rfl (z78 (mv rfl) ct) (q1 rfl (z0 (mv rfl)) (g1 rfl rfl (fun g32 => z3 (zcr H) (mv rfl)) (g1 rfl rfl (fun g33 => lb (tl34 H) 0 (mc rfl g33) rfl rfl) (g1 rfl rfl (fun g34 => z0 (mv rfl)) (g1 rfl rfl (fun g35 => zk (ix34 H) (mc rfl g35) (mc rfl g35) (h30).1 (z7 h30)) (g1 rfl rfl (fun g36 => z2d (zob H) (mc rfl g36) (cs' := [(iv .u64 ((gt v1.fRailways v27).fKey))]) 1 rfl) (g1 rfl rfl (fun g37 => lr (tl41 H) (mc rfl g37)) ?_))))))))))
       refine zn h fun y39 ey39 h => g1 rfl rfl (fun g38 => oQ (zuu H) (zi5 H φ ((gt v1.fRailways v27).fKey) _ (zr ey39 g38)) z5 ⟨ef (mc rfl g38), trivial⟩) (g1 rfl rfl (fun g40 => z7l (mc rfl g40)) (q1 rfl (opOr (mv rfl) ct (fun g41 => (mc rfl g41))) (rn (al [1, 4, 65] [0] rfl rfl rfl (sq ?_)))))
       refine cI h rfl (fun c42 h => ?_) (fun c42 h => ?_)
       ·
        refine cs (cr [0] rfl (q1 rfl (z1 ct) (rn (al [2] [] rfl rfl rfl (sq (z2.ret (AtX.in_ret (AtX.then_ret (AtX.then_ret (AtX.in_ret (AtX.then_ret ?_)))))))))))
        refine AtX.ret' (iv .i64 1) (zo.one Try.results19 rfl) [] [] trivial rfl ?_
        obtain rfl := Option.some.inj h
        exact ⟨rfl, rfl⟩
       ·
        refine z2.skip (AtX.in_normal (al [1, 4] [0] rfl rfl rfl (sq (cr [0, 1, 2] rfl (q1 rfl (z0 (mv rfl)) (q1 rfl (z0c (mv rfl) ct) (q1 rfl (z1 (mv rfl)) (rn ?_))))))))
        exact AtX.to (ih28 (W (v27 + 1)) h) [0] (sl rfl) (ol rfl) rfl
      ·
       refine z2.exit (AtX.then_exit (AtX.then_exit (AtX.in_hit ?_)))
       exact AtX.to (hJ25 () h) [0] (sl rfl) (ol rfl) rfl
theorem zf1 {P : Program} (H : P = Try.prog) (φ : Nat) (v1 : (List zl)) (v2 : Ref) (r : (Int)) (h : za8 φ v1 v2 = some r) : z0d P 20 [(ro za 21 v1), (agg (eRef v2))] (fun x news => x = (iv .i64 r) ∧ news = []) := by
 unfold za8 at h
 refine z0d.of_code' 20 (fn20 H) rfl rfl (Nat.le_of_ble_eq_true rfl) fun w0 base r0 wI => ?_
 refine cl [0, 1] [] rfl rfl rfl (cs (cr [0, 1] rfl (n1 rfl (z6e (Ce.agg (mv rfl)) fun b3 => q1 rfl (z1 ct) (rn (al [0, 3] [0] rfl rfl rfl (sq (cs (cs (cr [0] rfl (q1 rfl (z1 ct) ?_)))))))))))
 refine rn (al [0, 3, 5] [0] rfl rfl rfl (sq ?_))
 refine z2.join (fun z : Unit => (z88 φ)) r (fun z => ⟨zb.of [], []⟩) (fun z h => ?_) (fun hJ4 => ?_)
 ·
  replace h : (z88 φ) = some r := h
  unfold z88 at h
  refine al [] [] rfl rfl rfl (sq (cs (cr [0] rfl (q1 rfl (z1 ct) (rn (al [4] [] rfl rfl rfl (sq (z2.ret (AtX.ret' (iv .i64 (-1)) (zo.one Try.results20 rfl) [] [] trivial rfl ?_)))))))))
  obtain rfl := Option.some.inj h
  exact ⟨rfl, rfl⟩
 ·
  refine z2.block ?_
  refine z2.to (z2.loop (fun n (z : Int) => z84 φ v1 v2 (z88 φ) n z) r (fun z => ⟨zb.of [(0, (ro za 21 v1)), (3, (eqv (.pointer (some ⟨b3, 0, none⟩)))), (5, (iv .i64 z))], [(box b3 43 (eRef v2))]⟩) (fun z => rfl) (fun n6 v5 ih6 h => ?_) φ 0 h) [0] (sl rfl) (ol rfl) rfl
  replace h : z84 φ v1 v2 (z88 φ) (n6 + 1) v5 = some r := h
  rw [z84] at h
  refine cs (cs (cr [0, 1, 2, 3] rfl (q1 rfl (z0 (mv rfl)) (q1 rfl (z0 (mv rfl)) (q1 rfl (z0l (il37 H) (mv rfl)) (q1 rfl (z0n (mv rfl) (mv rfl)) (rn (al [0, 3, 5, 9] [0] rfl rfl rfl (sq ?_)))))))))
  refine cI h rfl (fun c7 h => ?_) (fun c7 h => ?_)
  ·
   refine z2.skip (al [0, 3, 5] [0] rfl rfl rfl (sq (cs (z2.block (cs (ckE h fun h8 h => z2.draw (QR := [(0, _), (1, _), (2, _), (3, _), (4, _), (5, _), (6, _)]) (tab := [(some 12, []), (some 13, []), (some 14, [0, 1]), (some 15, [2]), (some 16, [3]), (some 17, []), (some 18, [4, 5])]) (z5f H) (Reg.intro [] [] (by kernel_rfl) rfl (an rfl) ⟨(qr rfl (z0 (mv rfl))), (qr rfl (z0 (mv rfl))), (qr rfl (zk (ix37 H) (mv rfl) (mv rfl) (h8).1 (z7 h8))), (qr rfl (z2d (z9l H) (mv rfl) (cs' := (eRef (gt v1 v5).fRef)) 2 rfl)), (qr rfl (ln (tl43 H) (Pt.rop (mv rfl)) rfl)), (qr rfl (ln (tl43 H) ((Pt.box 0 (mv rfl) rfl rfl).take 2 (cs' := (eRef v2)) rfl) rfl)), (qr rfl (zst [(.int .i64 ((gt v1 v5).fRef.fRailway)), (.int .i64 ((gt v1 v5).fRef.fNo))] [(.int .i64 v2.fRailway), (.int .i64 v2.fNo)] (mv rfl) (mv rfl) rfl rfl (eg43 H) (fun w => zm0 H w ((gt v1 v5).fRef) v2))), trivial⟩ trivial (fun _ => al [0, 3, 5, 18] [0] rfl rfl rfl (sq ?_)))))))))
   refine cI h rfl (fun c9 h => ?_) (fun c9 h => ?_)
   ·
    refine cs (cr [0, 1] rfl (q1 rfl (z0 (mv rfl)) (q1 rfl (z1 (mv rfl)) (rn (al [4] [] rfl rfl rfl (sq (z2.ret (AtX.in_ret (AtX.then_ret (AtX.then_ret (AtX.in_ret ?_)))))))))))
    refine AtX.then_ret (AtX.ret' (iv .i64 v5) (zo.one Try.results20 rfl) [] [] trivial rfl ?_)
    obtain rfl := Option.some.inj h
    exact ⟨rfl, rfl⟩
   ·
    refine z2.skip (AtX.in_normal (al [0, 3, 5] [0] rfl rfl rfl (sq (cr [0, 1, 2] rfl (q1 rfl (z0 (mv rfl)) (q1 rfl (z0c (mv rfl) ct) (q1 rfl (z1 (mv rfl)) (rn ?_))))))))
    exact AtX.to (ih6 (W (v5 + 1)) h) [0] (sl rfl) (ol rfl) rfl
  ·
   refine z2.exit (AtX.then_exit (AtX.then_exit (AtX.in_hit ?_)))
   exact AtX.to (hJ4 () h) [] trivial trivial rfl
theorem zd7 {P : Program} (H : P = Try.prog) (φ : Nat) (v1 : Pool) (v2 : zl) (r : (Bool)) (h : z82 φ v1 v2 = some r) : z0d P 49 [(agg (z1l v1)), (agg (za v2))] (fun x news => x = (bv r) ∧ news = []) := by
 unfold z82 at h
 refine z0d.of_code' 49 (fn49 H) rfl rfl (Nat.le_of_ble_eq_true rfl) fun w0 base r0 wI => ?_
 refine cl [0, 1] [] rfl rfl rfl (cs (cr [0, 1, 2] rfl (n1 rfl (z6e (Ce.agg (mv rfl)) fun b3 => n1 rfl (z6e (Ce.agg (mv rfl)) fun b4 => q1 rfl (z1 ct) (rn (al [2, 3] [0, 1] rfl rfl rfl (sq (cs (cr [0, 1, 2, 3, 4, 5, 6, 7, 8, 9] rfl (q1 rfl (z3 (z9z H) (mv rfl)) ?_)))))))))))
 refine q1 rfl (z3 (z9x H) (mv rfl)) (q1 rfl (lb (tl22 H) 0 (mv rfl) rfl rfl) (q1 rfl (z3 (z4d H) (mv rfl)) (q1 rfl (z3 (zc0 H) (mv rfl)) (q1 rfl (lb (tl3 H) 1 (mv rfl) rfl rfl) (ckE h fun h5 h => q1 rfl (zk (ix22 H) (mv rfl) (mv rfl) (h5).1 (z7 h5)) (q1 rfl (ln (tl68 H) (Pt.rop (mv rfl)) rfl) (n1 rfl (z38 _ (ze68 H) rfl fun b6 => n1 rfl (sto 2 (tl68 H) (mv rfl) (Ce.agg (mv rfl)) rfl rfl rfl rfl (rn (al [3, 5] [1, 2] rfl rfl rfl ?_)))))))))))
 refine sq (cs (cr [0, 1, 2, 3] rfl (q1 rfl (z3 (z9l H) (mv rfl)) (q1 rfl (z3 (zbp H) (mv rfl)) (q1 rfl (lb (tl3 H) 0 (mv rfl) rfl rfl) (q1 rfl (z1 (mv rfl)) (rn (al [3, 5, 6] [0, 1] rfl rfl rfl (sq (cs (cr [0, 1, 2, 3] rfl ?_)))))))))))
 refine q1 rfl (z3 (z4d H) (mv rfl)) (q1 rfl (z3 (zct H) (mv rfl)) (q1 rfl (lb (tl3 H) 0 (mv rfl) rfl rfl) (q1 rfl (z1 (mv rfl)) (rn (al [5, 6, 7] [1] rfl rfl rfl (sq (cs (cr [0, 1, 2, 3, 4, 5, 6, 7, 8, 9, 10, 11, 12, 13, 14, 15, 16, 17, 18, 19, 20, 21, 22, 23, 24, 25, 26, 27] rfl (q1 rfl (z0 (mv rfl)) (q1 rfl (z0 (mv rfl)) (q1 rfl (z78 (mv rfl) (mv rfl)) ?_)))))))))))
 refine q1 rfl (z0 (mv rfl)) (g1 rfl rfl (fun g7 => z3 (zc3 H) (mv rfl)) (g1 rfl rfl (fun g8 => lb (tl3 H) 0 (mc rfl g8) rfl rfl) (g1 rfl rfl (fun g9 => z0 (mv rfl)) (g1 rfl rfl (fun g10 => z5k (mc rfl g10) (mc rfl g10)) (g1 rfl rfl (fun g11 => z0 (mc rfl g11)) (gc rfl rfl (fun g12 => (z3 (zbn H) (mv rfl))) (gc rfl rfl (fun g13 => (lb (tl3 H) 0 (mc rfl ⟨g13.1, g13.2⟩) rfl rfl)) (gc rfl rfl (fun g14 => (z0 (mv rfl))) (gc rfl rfl (fun g15 => (z5k (mc rfl ⟨g15.1, g15.2⟩) (mc rfl ⟨g15.1, g15.2⟩))) (g1 rfl rfl (fun g16 => z2w (mc rfl g16) (fun g17 => (mc rfl ⟨g16, g17⟩)) ct) (g1 rfl rfl (fun g18 => z0 (mc rfl g18)) ?_)))))))))))
 refine gc rfl rfl (fun g19 => (z3 (zc3 H) (mv rfl))) (gc rfl rfl (fun g20 => (lb (tl3 H) 0 (mc rfl ⟨g20.1, g20.2⟩) rfl rfl)) (gc rfl rfl (fun g21 => (z0 (mv rfl))) (gc rfl rfl (fun g22 => (z5k (mc rfl ⟨g22.1, g22.2⟩) (mc rfl ⟨g22.1, g22.2⟩))) (gc rfl rfl (fun g23 => (z0 (mc rfl ⟨g23.1, g23.2⟩))) (gc rfl rfl (fun g24 => (z3 (zbn H) (mv rfl))) (gc rfl rfl (fun g25 => (lb (tl3 H) 0 (mc rfl ⟨⟨g25.1.1, g25.1.2⟩, g25.2⟩) rfl rfl)) (gc rfl rfl (fun g26 => (z0 (mv rfl))) (gc rfl rfl (fun g27 => (z5k (mc rfl ⟨⟨g27.1.1, g27.1.2⟩, g27.2⟩) (mc rfl ⟨⟨g27.1.1, g27.1.2⟩, g27.2⟩))) (gc rfl rfl (fun g28 => (z2w (mc rfl ⟨g28.1, g28.2⟩) (fun g29 => (mc rfl ⟨⟨g28.1, g28.2⟩, g29⟩)) ct)) (g1 rfl rfl (fun g30 => opOr (mc rfl g30) ct (fun g31 => (mc rfl ⟨g30, g31⟩))) (q1 rfl (z2w (mv rfl) (fun g32 => (mc rfl g32)) ct) ?_)))))))))))
 refine q1 rfl (z1 (mv rfl)) (rn (al [4] [] rfl rfl rfl (sq (z2.ret (AtX.ret' (bv ((v2.fRef.fRailway != v2.fItem.fOther) && ((((gt v1.fNetwork.fPlaces v2.fItem.fPlace).fRailway == v2.fRef.fRailway) && ((gt v1.fNetwork.fPlaces v2.fItem.fPlace).fOther == v2.fItem.fOther)) || (((gt v1.fNetwork.fPlaces v2.fItem.fPlace).fRailway == v2.fItem.fOther) && ((gt v1.fNetwork.fPlaces v2.fItem.fPlace).fOther == v2.fRef.fRailway))))) (zo.one Try.results49 rfl) [] [] trivial rfl ?_)))))
 obtain rfl := Option.some.inj h
 exact ⟨rfl, rfl⟩
theorem zkl {P : Program} (H : P = Try.prog) (φ : Nat) (v1 : zl) (v2 : zl) (r : (Int)) (h : ze9 φ v1 v2 = some r) : z0d P 50 [(agg (za v1)), (agg (za v2))] (fun x news => x = (iv .i64 r) ∧ news = []) := by
 unfold ze9 at h
 refine z0d.of_code' 20 (fn50 H) rfl rfl (Nat.le_of_ble_eq_true rfl) fun w0 base r0 wI => ?_
 refine cl [0, 1] [] rfl rfl rfl (cs (cr [0, 1, 2] rfl (n1 rfl (z6e (Ce.agg (mv rfl)) fun b3 => n1 rfl (z6e (Ce.agg (mv rfl)) fun b4 => q1 rfl (z1 ct) (rn (al [2, 3] [0, 1] rfl rfl rfl (sq (cs (cr [0, 1, 2, 3, 4, 5, 6, 7, 8, 9, 10, 11, 12, 13, 14, 15] rfl (q1 rfl (z3 (z4d H) (mv rfl)) ?_)))))))))))
 refine q1 rfl (z3 (zbu H) (mv rfl)) (q1 rfl (lb (tl3 H) 0 (mv rfl) rfl rfl) (q1 rfl (z3 (z4d H) (mv rfl)) (q1 rfl (z3 (zbu H) (mv rfl)) (q1 rfl (lb (tl3 H) 1 (mv rfl) rfl rfl) (q1 rfl (z24 (mv rfl) (mv rfl)) (q1 rfl (z3 (z4d H) (mv rfl)) (q1 rfl (z3 (zbu H) (mv rfl)) (q1 rfl (lb (tl3 H) 1 (mv rfl) rfl rfl) (q1 rfl (z3 (z4d H) (mv rfl)) (q1 rfl (z3 (zbu H) (mv rfl)) (q1 rfl (lb (tl3 H) 0 (mv rfl) rfl rfl) ?_)))))))))))
 refine q1 rfl (z24 (mv rfl) (mv rfl)) (q1 rfl (zqh (n := [(W (v2.fItem.fFrom - v1.fItem.fFrom))]) (mv rfl) ⟨(mv rfl), trivial⟩) (q1 rfl (z1 (mv rfl)) (rn (al [4] [] rfl rfl rfl (sq (z2.ret (AtX.ret' (iv .i64 (max2 (W (v1.fItem.fFrom - v2.fItem.fFrom)) (W (v2.fItem.fFrom - v1.fItem.fFrom)))) (zo.one Try.results50 rfl) [] [] trivial rfl ?_)))))))
 obtain rfl := Option.some.inj h
 exact ⟨rfl, rfl⟩
theorem zj1 {P : Program} (H : P = Try.prog) (φ : Nat) (v1 : Pool) (v2 : zl) (v3 : zl) (r : (Bool)) (h : zc6 φ v1 v2 v3 = some r) : z0d P 23 [(agg (z1l v1)), (agg (za v2)), (agg (za v3))] (fun x news => x = (bv r) ∧ news = []) := by
 unfold zc6 at h
 refine z0d.of_code' 57 (fn23 H) rfl rfl (Nat.le_of_ble_eq_true rfl) fun w0 base r0 wI => ?_
 refine cl [0, 1, 2] [] rfl rfl rfl (cs (cr [0, 1, 2, 3] rfl (n1 rfl (z6e (Ce.agg (mv rfl)) fun b4 => n1 rfl (z6e (Ce.agg (mv rfl)) fun b5 => n1 rfl (z6e (Ce.agg (mv rfl)) fun b6 => q1 rfl (z1 ct) (rn (al [3, 4, 5] [0, 1, 2] rfl rfl rfl (sq (cs (cr [0, 1, 2, 3, 4, 5, 6, 7, 8, 9, 10, 11, 12, 13, 14, 15, 16, 17, 18, 19, 20, 21, 22, 23, 24, 25, 26, 27, 28, 29, 30, 31, 32, 33, 34, 35, 36, 37, 38, 39, 40, 41, 42, 43, 44, 45, 46, 47, 48, 49, 50] rfl ?_)))))))))))
 refine q1 rfl (ln (tl36 H) ((Pt.box 0 (mv rfl) rfl rfl).take 9 (cs' := (z1l v1)) rfl) rfl) (q1 rfl (ln (tl48 H) ((Pt.box 1 (mv rfl) rfl rfl).take 21 (cs' := (za v2)) rfl) rfl) (zn h fun y7 ey7 h => q1 rfl (oQ (zrm H) (zd7 H φ v1 v2 _ ey7) z5 ⟨ef (mv rfl), ef (mv rfl), trivial⟩) (q1 rfl (z0 (mv rfl)) (g1 rfl rfl (fun g8 => ln (tl36 H) ((Pt.box 0 (mv rfl) rfl rfl).take 9 (cs' := (z1l v1)) rfl) rfl) (g1 rfl rfl (fun g9 => ln (tl48 H) ((Pt.box 2 (mv rfl) rfl rfl).take 21 (cs' := (za v3)) rfl) rfl) (zn h fun y11 ey11 h => g1 rfl rfl (fun g10 => oQ (zrm H) (zd7 H φ v1 v3 _ (zr ey11 g10)) z5 ⟨ef (mc rfl g10), ef (mc rfl g10), trivial⟩) (q1 rfl (z2w (mv rfl) (fun g12 => (mc rfl g12)) ct) (q1 rfl (z0 (mv rfl)) (g1 rfl rfl (fun g13 => z3 (z9l H) (mv rfl)) ?_)))))))))
 refine g1 rfl rfl (fun g14 => z3 (zbp H) (mc rfl g14)) (g1 rfl rfl (fun g15 => lb (tl3 H) 1 (mc rfl g15) rfl rfl) (g1 rfl rfl (fun g16 => z3 (z4d H) (mv rfl)) (g1 rfl rfl (fun g17 => z3 (zct H) (mc rfl g17)) (g1 rfl rfl (fun g18 => lb (tl3 H) 2 (mc rfl g18) rfl rfl) (g1 rfl rfl (fun g19 => z5k (mc rfl g19) (mc rfl g19)) (q1 rfl (z2w (mv rfl) (fun g20 => (mc rfl g20)) ct) (q1 rfl (z0 (mv rfl)) (g1 rfl rfl (fun g21 => z3 (z9l H) (mv rfl)) (g1 rfl rfl (fun g22 => z3 (zbp H) (mc rfl g22)) (g1 rfl rfl (fun g23 => lb (tl3 H) 2 (mc rfl g23) rfl rfl) (g1 rfl rfl (fun g24 => z3 (z4d H) (mv rfl)) ?_)))))))))))
 refine g1 rfl rfl (fun g25 => z3 (zct H) (mc rfl g25)) (g1 rfl rfl (fun g26 => lb (tl3 H) 1 (mc rfl g26) rfl rfl) (g1 rfl rfl (fun g27 => z5k (mc rfl g27) (mc rfl g27)) (q1 rfl (z2w (mv rfl) (fun g28 => (mc rfl g28)) ct) (q1 rfl (z0 (mv rfl)) (g1 rfl rfl (fun g29 => z3 (z4d H) (mv rfl)) (g1 rfl rfl (fun g30 => z3 (zgj H) (mc rfl g30)) (g1 rfl rfl (fun g31 => lb (tl3 H) 1 (mc rfl g31) rfl rfl) (g1 rfl rfl (fun g32 => z3 (z4d H) (mv rfl)) (g1 rfl rfl (fun g33 => z3 (zgj H) (mc rfl g33)) (g1 rfl rfl (fun g34 => lb (tl3 H) 2 (mc rfl g34) rfl rfl) (g1 rfl rfl (fun g35 => z5k (mc rfl g35) (mc rfl g35)) ?_)))))))))))
 refine q1 rfl (z2w (mv rfl) (fun g36 => (mc rfl g36)) ct) (q1 rfl (z0 (mv rfl)) (g1 rfl rfl (fun g37 => z3 (z4d H) (mv rfl)) (g1 rfl rfl (fun g38 => z3 (zc0 H) (mc rfl g38)) (g1 rfl rfl (fun g39 => lb (tl3 H) 1 (mc rfl g39) rfl rfl) (g1 rfl rfl (fun g40 => z3 (z4d H) (mv rfl)) (g1 rfl rfl (fun g41 => z3 (zc0 H) (mc rfl g41)) (g1 rfl rfl (fun g42 => lb (tl3 H) 2 (mc rfl g42) rfl rfl) (g1 rfl rfl (fun g43 => z5k (mc rfl g43) (mc rfl g43)) (q1 rfl (z2w (mv rfl) (fun g44 => (mc rfl g44)) ct) (q1 rfl (z0 (mv rfl)) (g1 rfl rfl (fun g45 => ln (tl48 H) ((Pt.box 1 (mv rfl) rfl rfl).take 21 (cs' := (za v2)) rfl) rfl) ?_)))))))))))
 refine g1 rfl rfl (fun g46 => ln (tl48 H) ((Pt.box 2 (mv rfl) rfl rfl).take 21 (cs' := (za v3)) rfl) rfl) (zn h fun y48 ey48 h => g1 rfl rfl (fun g47 => oQ (zw8 H) (zkl H φ v2 v3 _ (zr ey48 g47)) z5 ⟨ef (mc rfl g47), ef (mc rfl g47), trivial⟩) (g1 rfl rfl (fun g49 => zbl (mc rfl g49) ct) (q1 rfl (z2w (mv rfl) (fun g50 => (mc rfl g50)) ct) (q1 rfl (z1 (mv rfl)) (rn (al [6] [] rfl rfl rfl (sq (z2.ret (AtX.ret' (bv ((((((y7 && y11) && (v2.fRef.fRailway == v3.fItem.fOther)) && (v3.fRef.fRailway == v2.fItem.fOther)) && (v2.fItem.fWagon == v3.fItem.fWagon)) && (v2.fItem.fPlace == v3.fItem.fPlace)) && decide (y48 ≤ 60))) (zo.one Try.results23 rfl) [] [] trivial rfl ?_)))))))))
 obtain rfl := Option.some.inj h
 exact ⟨rfl, rfl⟩
end Px
end
section
set_option linter.unusedVariables false
set_option linter.unusedSimpArgs false
set_option maxHeartbeats 4000000
set_option maxRecDepth 100000
namespace Px
open Go Go.RowKit Go.Proofs
theorem zca {P : Program} (H : P = Try.prog) (φ : Nat) (v1 : Pool) (v2 : (List zl)) (r : (Bool)) (h : z7c φ v1 v2 = some r) : z0d P 7 [(agg (z1l v1)), (ro za 21 v2)] (fun x news => x = (bv r) ∧ news = []) := by
 unfold z7c at h
 refine z0d.of_code' 105 (fn7 H) rfl rfl (Nat.le_of_ble_eq_true rfl) fun w0 base r0 wI => ?_
 refine cl [0, 1] [] rfl rfl rfl (cs (cr [0, 1] rfl (n1 rfl (z6e (Ce.agg (mv rfl)) fun b3 => q1 rfl (z1 ct) (rn (al [1, 2] [0] rfl rfl rfl (sq (cs (cs (cr [0, 1] rfl (zn h fun y4 ey4 h => ?_)))))))))))
 refine q1 rfl (oQ (zxh H) (zj0 H φ  _ ey4) z5 trivial) (q1 rfl (z7l (mv rfl)) (rn (al [1, 2, 11] [0] rfl rfl rfl (sq ?_))))
 refine cI h rfl (fun c5 h => ?_) (fun c5 h => ?_)
 ·
  refine cs (cr [0] rfl (q1 rfl (z1 ct) (rn (al [4] [] rfl rfl rfl (sq (z2.ret (AtX.then_ret (AtX.ret' (bv false) (zo.one Try.results7 rfl) [] [] trivial rfl ?_))))))))
  obtain rfl := Option.some.inj h
  exact ⟨rfl, rfl⟩
 ·
  refine z2.skip (al [1, 2] [0] rfl rfl rfl (sq (cs (cs (cr [0, 1, 2, 3, 4, 5, 6, 7, 8, 9, 10, 11, 12, 13] rfl (q1 rfl (ln (tl36 H) ((Pt.box 0 (mv rfl) rfl rfl).take 9 (cs' := (z1l v1)) rfl) rfl) (q1 rfl (z0 (mv rfl)) (zn h fun y6 ey6 h => q1 rfl (oQ (zuc H) (zka H φ v1 v2 _ ey6) z5 ⟨ef (mv rfl), ef (mv rfl), trivial⟩) (q1 rfl (z7l (mv rfl)) (q1 rfl (z0 (mv rfl)) ?_))))))))))
  refine g1 rfl rfl (fun g7 => z0 (mv rfl)) (zn h fun y9 ey9 h => g1 rfl rfl (fun g8 => oQ (zuo H) (zem H φ v2 _ (zr ey9 g8)) z5 ⟨ef (mc rfl g8), trivial⟩) (g1 rfl rfl (fun g10 => z7l (mc rfl g10)) (q1 rfl (opOr (mv rfl) ct (fun g11 => (mc rfl g11))) (q1 rfl (z0 (mv rfl)) (g1 rfl rfl (fun g12 => ln (tl36 H) ((Pt.box 0 (mv rfl) rfl rfl).take 9 (cs' := (z1l v1)) rfl) rfl) (zn h fun y14 ey14 h => g1 rfl rfl (fun g13 => oQ (zw0 H) (zec H φ v1 _ (zr ey14 g13)) z5 ⟨ef (mc rfl g13), trivial⟩) (g1 rfl rfl (fun g15 => z78 (mc rfl g15) ct) (q1 rfl (opOr (mv rfl) ct (fun g16 => (mc rfl g16))) (rn ?_)))))))))
  refine al [1, 2, 25] [0] rfl rfl rfl (sq ?_)
  refine cI h rfl (fun c17 h => ?_) (fun c17 h => ?_)
  ·
   refine cs (cr [0] rfl (q1 rfl (z1 ct) (rn (al [4] [] rfl rfl rfl (sq (z2.ret (AtX.then_ret (AtX.ret' (bv true) (zo.one Try.results7 rfl) [] [] trivial rfl ?_))))))))
   obtain rfl := Option.some.inj h
   exact ⟨rfl, rfl⟩
  ·
   refine z2.skip (al [1, 2] [0] rfl rfl rfl (sq (cs (cr [0, 1, 2, 3] rfl (q1 rfl (ln (tl36 H) ((Pt.box 0 (mv rfl) rfl rfl).take 9 (cs' := (z1l v1)) rfl) rfl) (q1 rfl (z0 (mv rfl)) (zn h fun y18 ey18 h => n1 rfl (oF (zqw H) (zam H φ v1 v2 _ ey18) ⟨ef (mv rfl), ef (mv rfl), trivial⟩ fun x21 nw22 hk20 => ?_))))))))
   obtain ⟨sv19, rfl, rfl⟩ := hk20
   refine ⟨z5, z6d ⟨z5b fRef, trivial⟩, ?_⟩
   refine q1 rfl (z1 (mv rfl)) (rn (al [1, 2, 5] [0, 1] rfl rfl rfl (sq (cs (cs (cr [0] rfl (q1 rfl (z1 ct) (rn (al [1, 2, 5, 6] [0, 1] rfl rfl rfl (sq ?_))))))))))
   refine z2.join (fun z : Unit => (zw φ)) r (fun z => ⟨zb.of [], []⟩) (fun z h => ?_) (fun hJ23 => ?_)
   ·
    replace h : (zw φ) = some r := h
    unfold zw at h
    refine al [] [] rfl rfl rfl (sq (cs (cr [0] rfl (q1 rfl (z1 ct) (rn (al [4] [] rfl rfl rfl (sq (z2.ret (AtX.ret' (bv true) (zo.one Try.results7 rfl) [] [] trivial rfl ?_)))))))))
    obtain rfl := Option.some.inj h
    exact ⟨rfl, rfl⟩
   ·
    refine z2.block ?_
    refine z2.to (z2.loop (fun n (z : Int) => zt φ v1 v2 y18 (zw φ) n z) r (fun z => ⟨zb.of [(1, (ro za 21 v2)), (2, (eqv (.pointer (some ⟨b3, 0, none⟩)))), (5, (eqv sv19)), (6, (iv .i64 z))], [(box b3 36 (z1l v1)), (row 43 eRef 2 y18 sv19)]⟩) (fun z => rfl) (fun n25 v24 ih25 h => ?_) φ 0 h) [0, 1] (sl rfl) (ol rfl) rfl
    replace h : zt φ v1 v2 y18 (zw φ) (n25 + 1) v24 = some r := h
    rw [zt] at h
    refine cs (cs (cr [0, 1, 2, 3] rfl (q1 rfl (z0 (mv rfl)) (q1 rfl (z0 (mv rfl)) (q1 rfl (z9k 1 (il55 H) (mv rfl) rfl) (q1 rfl (z0n (mv rfl) (mv rfl)) (rn (al [1, 2, 5, 6, 32] [0, 1] rfl rfl rfl (sq ?_)))))))))
    refine cI h rfl (fun c26 h => ?_) (fun c26 h => ?_)
    ·
     refine z2.skip (al [1, 2, 5, 6] [0, 1] rfl rfl rfl (sq (cs ?_)))
     refine z2.join (fun z : Unit => (z12 φ v24 (zt φ v1 v2 y18 (zw φ) n25))) r (fun z => ⟨zb.of [(1, (ro za 21 v2)), (2, (eqv (.pointer (some ⟨b3, 0, none⟩)))), (5, (eqv sv19)), (6, (iv .i64 v24))], [(box b3 36 (z1l v1)), (row 43 eRef 2 y18 sv19)]⟩) (fun z h => ?_) (fun hJ27 => ?_)
     ·
      replace h : (z12 φ v24 (zt φ v1 v2 y18 (zw φ) n25)) = some r := h
      unfold z12 at h
      refine al [1, 2, 5, 6] [0, 1] rfl rfl rfl (sq (cr [0, 1, 2] rfl (q1 rfl (z0 (mv rfl)) (q1 rfl (z0c (mv rfl) ct) (q1 rfl (z1 (mv rfl)) (rn ?_))))))
      exact AtX.to (ih25 (W (v24 + 1)) h) [0, 1] (sl rfl) (ol rfl) rfl
     ·
      refine z2.block (cs (cr [0] rfl (q1 rfl (z1 ct) (rn (al [1, 2, 5, 6, 7] [0, 1] rfl rfl rfl (sq (z2.block ?_)))))))
      refine z2.to (z2.loop (fun n (z : Int) => z0p φ v1 v2 y18 v24 (z12 φ v24 (zt φ v1 v2 y18 (zw φ) n25)) n z) r (fun z => ⟨zb.of [(1, (ro za 21 v2)), (2, (eqv (.pointer (some ⟨b3, 0, none⟩)))), (5, (eqv sv19)), (6, (iv .i64 v24)), (7, (iv .i64 z))], [(box b3 36 (z1l v1)), (row 43 eRef 2 y18 sv19)]⟩) (fun z => rfl) (fun n29 v28 ih29 h => ?_) φ 0 h) [0, 1] (sl rfl) (ol rfl) rfl
      replace h : z0p φ v1 v2 y18 v24 (z12 φ v24 (zt φ v1 v2 y18 (zw φ) n25)) (n29 + 1) v28 = some r := h
      rw [z0p] at h
      refine cs (cs (cr [0, 1, 2, 3] rfl (q1 rfl (z0 (mv rfl)) (q1 rfl (z0 (mv rfl)) (q1 rfl (z9k 1 (il55 H) (mv rfl) rfl) (q1 rfl (z0n (mv rfl) (mv rfl)) (rn (al [1, 2, 5, 6, 7, 38] [0, 1] rfl rfl rfl (sq ?_)))))))))
      refine cI h rfl (fun c30 h => ?_) (fun c30 h => ?_)
      ·
       refine z2.skip (al [1, 2, 5, 6, 7] [0, 1] rfl rfl rfl (sq (cs ?_)))
       refine z2.join (fun z : Unit => (z3h φ v28 (z0p φ v1 v2 y18 v24 (z12 φ v24 (zt φ v1 v2 y18 (zw φ) n25)) n29))) r (fun z => ⟨zb.of [(1, (ro za 21 v2)), (2, (eqv (.pointer (some ⟨b3, 0, none⟩)))), (5, (eqv sv19)), (6, (iv .i64 v24)), (7, (iv .i64 v28))], [(box b3 36 (z1l v1)), (row 43 eRef 2 y18 sv19)]⟩) (fun z h => ?_) (fun hJ31 => ?_)
       ·
        replace h : (z3h φ v28 (z0p φ v1 v2 y18 v24 (z12 φ v24 (zt φ v1 v2 y18 (zw φ) n25)) n29)) = some r := h
        unfold z3h at h
        refine al [1, 2, 5, 6, 7] [0, 1] rfl rfl rfl (sq (cr [0, 1, 2] rfl (q1 rfl (z0 (mv rfl)) (q1 rfl (z0c (mv rfl) ct) (q1 rfl (z1 (mv rfl)) (rn ?_))))))
        exact AtX.to (ih29 (W (v28 + 1)) h) [0, 1] (sl rfl) (ol rfl) rfl
       ·
        refine z2.block (cs (cr [0, 1, 2, 3, 4, 5, 6] rfl (q1 rfl (z0 (mv rfl)) (q1 rfl (z0 (mv rfl)) (q1 rfl (z0 (mv rfl)) (ckE h fun h32 h => q1 rfl (zh 1 (ix55 H) (mv rfl) rfl (mv rfl) (h32).1 (h32).2) (q1 rfl (ln (tl43 H) ((Pt.row _ 1 (k := (v24 : Int).toNat) (fo := 0) lRef (mv rfl) rfl (by omega) (z7 h32) rfl).take 2 (cs' := (eRef (gt y18 v24))) rfl) rfl) (zn h fun y33 ey33 h => q1 rfl (oQ (zrl H) (zf1 H φ v2 (gt y18 v24) _ ey33) z5 ⟨ef (mv rfl), ef (mv rfl), trivial⟩) (q1 rfl (z1 (mv rfl)) ?_)))))))))
        refine rn (al [1, 2, 5, 6, 7, 8] [0, 1] rfl rfl rfl (sq (cs (cr [0, 1, 2, 3, 4, 5, 6] rfl (q1 rfl (z0 (mv rfl)) (q1 rfl (z0 (mv rfl)) (q1 rfl (z0 (mv rfl)) (ckE h fun h34 h => q1 rfl (zh 1 (ix55 H) (mv rfl) rfl (mv rfl) (h34).1 (h34).2) (q1 rfl (ln (tl43 H) ((Pt.row _ 1 (k := (v28 : Int).toNat) (fo := 0) lRef (mv rfl) rfl (by omega) (z7 h34) rfl).take 2 (cs' := (eRef (gt y18 v28))) rfl) rfl) (zn h fun y35 ey35 h => ?_))))))))))
        refine q1 rfl (oQ (zrl H) (zf1 H φ v2 (gt y18 v28) _ ey35) z5 ⟨ef (mv rfl), ef (mv rfl), trivial⟩) (q1 rfl (z1 (mv rfl)) (rn (al [1, 2, 5, 6, 7, 8, 9] [0, 1] rfl rfl rfl (sq (cs (cs (cr [0, 1, 2, 3, 4, 5] rfl (q1 rfl (z0 (mv rfl)) (q1 rfl (z0n (mv rfl) ct) (q1 rfl (z0 (mv rfl)) (g1 rfl rfl (fun g36 => z0 (mv rfl)) ?_)))))))))))
        refine g1 rfl rfl (fun g37 => z0n (mc rfl g37) ct) (q1 rfl (opOr (mv rfl) ct (fun g38 => (mc rfl g38))) (rn (al [1, 2, 5, 6, 7, 8, 9, 58] [0, 1] rfl rfl rfl (sq ?_))))
        refine cI h rfl (fun c39 h => ?_) (fun c39 h => ?_)
        ·
         refine cs (cr [0] rfl (q1 rfl (z1 ct) (rn (al [4] [] rfl rfl rfl (sq (z2.ret (AtX.then_ret (AtX.in_ret (AtX.then_ret (AtX.then_ret (AtX.in_ret ?_)))))))))))
         refine AtX.in_ret (AtX.then_ret (AtX.then_ret (AtX.in_ret (AtX.then_ret (AtX.ret' (bv false) (zo.one Try.results7 rfl) [] [] trivial rfl ?_)))))
         obtain rfl := Option.some.inj h
         exact ⟨rfl, rfl⟩
        ·
         refine z2.skip (al [1, 2, 5, 6, 7, 8, 9] [0, 1] rfl rfl rfl (sq (cs ?_)))
         refine z2.seq ?_
         refine ckE h fun h40 h => ckE h fun h44 h => zn h fun y57 ey57 h => ckE h fun h64 h => zn h fun y68 ey68 h => z2.draw (QR := [(0, (ro za 21 v2)), (1, (iv .i64 y33)), (2, (rop (za (gt v2 y33)))), (3, (rop (z99 (gt v2 y33).fItem))), (4, (rop [(iv .i64 ((gt v2 y33).fItem.fKind))])), (5, (iv .i64 ((gt v2 y33).fItem.fKind))), (6, (bv ((gt v2 y33).fItem.fKind != 3))), (7, (bv ((gt v2 y33).fItem.fKind != 3))), (8, (cnd (((gt v2 y33).fItem.fKind != 3) = false) (ro za 21 v2))), (9, (cnd (((gt v2 y33).fItem.fKind != 3) = false) (iv .i64 y35))), (10, (cnd (((gt v2 y33).fItem.fKind != 3) = false) (rop (za (gt v2 y35))))), (11, (cnd (((gt v2 y33).fItem.fKind != 3) = false) (rop (z99 (gt v2 y35).fItem)))), (12, (cnd (((gt v2 y33).fItem.fKind != 3) = false) (rop [(iv .i64 ((gt v2 y35).fItem.fKind))]))), (13, (cnd (((gt v2 y33).fItem.fKind != 3) = false) (iv .i64 ((gt v2 y35).fItem.fKind)))), (14, (cnd (((gt v2 y33).fItem.fKind != 3) = false) (bv ((gt v2 y35).fItem.fKind != 4)))), (15, (bv (((gt v2 y33).fItem.fKind != 3) || ((gt v2 y35).fItem.fKind != 4)))), (16, (bv (((gt v2 y33).fItem.fKind != 3) || ((gt v2 y35).fItem.fKind != 4)))), (17, (cnd ((((gt v2 y33).fItem.fKind != 3) || ((gt v2 y35).fItem.fKind != 4)) = false) (agg (z1l v1)))), (18, (cnd ((((gt v2 y33).fItem.fKind != 3) || ((gt v2 y35).fItem.fKind != 4)) = false) (ro za 21 v2))), (19, (cnd ((((gt v2 y33).fItem.fKind != 3) || ((gt v2 y35).fItem.fKind != 4)) = false) (iv .i64 y33))), (20, (cnd ((((gt v2 y33).fItem.fKind != 3) || ((gt v2 y35).fItem.fKind != 4)) = false) (rop (za (gt v2 y33))))), (21, (cnd ((((gt v2 y33).fItem.fKind != 3) || ((gt v2 y35).fItem.fKind != 4)) = false) (rop (z99 (gt v2 y33).fItem)))), (22, (cnd ((((gt v2 y33).fItem.fKind != 3) || ((gt v2 y35).fItem.fKind != 4)) = false) (agg (z99 (gt v2 y33).fItem)))), (23, (cnd ((((gt v2 y33).fItem.fKind != 3) || ((gt v2 y35).fItem.fKind != 4)) = false) (iv .i64 y57))), (24, (cnd ((((gt v2 y33).fItem.fKind != 3) || ((gt v2 y35).fItem.fKind != 4)) = false) (bv (y57 != 0)))), (25, (bv ((((gt v2 y33).fItem.fKind != 3) || ((gt v2 y35).fItem.fKind != 4)) || (y57 != 0)))), (26, (bv ((((gt v2 y33).fItem.fKind != 3) || ((gt v2 y35).fItem.fKind != 4)) || (y57 != 0)))), (27, (cnd (((((gt v2 y33).fItem.fKind != 3) || ((gt v2 y35).fItem.fKind != 4)) || (y57 != 0)) = false) (agg (z1l v1)))), (28, (cnd (((((gt v2 y33).fItem.fKind != 3) || ((gt v2 y35).fItem.fKind != 4)) || (y57 != 0)) = false) (ro za 21 v2))), (29, (cnd (((((gt v2 y33).fItem.fKind != 3) || ((gt v2 y35).fItem.fKind != 4)) || (y57 != 0)) = false) (iv .i64 y35))), (30, (cnd (((((gt v2 y33).fItem.fKind != 3) || ((gt v2 y35).fItem.fKind != 4)) || (y57 != 0)) = false) (rop (za (gt v2 y35))))), (31, (cnd (((((gt v2 y33).fItem.fKind != 3) || ((gt v2 y35).fItem.fKind != 4)) || (y57 != 0)) = false) (rop (z99 (gt v2 y35).fItem)))), (32, (cnd (((((gt v2 y33).fItem.fKind != 3) || ((gt v2 y35).fItem.fKind != 4)) || (y57 != 0)) = false) (agg (z99 (gt v2 y35).fItem)))), (33, (cnd (((((gt v2 y33).fItem.fKind != 3) || ((gt v2 y35).fItem.fKind != 4)) || (y57 != 0)) = false) (iv .i64 y68))), (34, (cnd (((((gt v2 y33).fItem.fKind != 3) || ((gt v2 y35).fItem.fKind != 4)) || (y57 != 0)) = false) (bv (y68 != 0)))), (35, (bv (((((gt v2 y33).fItem.fKind != 3) || ((gt v2 y35).fItem.fKind != 4)) || (y57 != 0)) || (y68 != 0))))]) (tab := [(some 59, []), (some 60, []), (some 61, [0, 1]), (some 62, [2]), (some 63, [3]), (some 64, [4]), (some 65, [5]), (some 66, [6]), (some 67, [7]), (some 68, [7]), (some 69, [8, 9, 7]), (some 70, [10, 7]), (some 71, [11, 7]), (some 72, [12, 7]), (some 73, [13, 7]), (some 74, [7, 14]), (some 75, [15, 7]), (some 76, [16]), (some 77, [16]), (some 78, [16]), (some 79, [18, 19, 16]), (some 80, [20, 16]), (some 81, [21, 16]), (some 82, [17, 22, 16, 16]), (some 83, [23, 16]), (some 84, [16, 24]), (some 85, [25, 23]), (some 86, [26]), (some 87, [26]), (some 88, [26]), (some 89, [28, 29, 26]), (some 90, [30, 26]), (some 91, [31, 26]), (some 92, [27, 32, 26, 26]), (some 93, [33, 26]), (some 94, [26, 34])]) (z5f H) (Reg.intro [] [] (by kernel_rfl) rfl ⟨rfl, rfl, rfl, rfl, rfl, rfl, rfl, rfl, rfl, rfl, rfl, rfl, rfl, rfl, rfl, rfl, rfl, rfl, rfl, rfl, rfl, rfl, rfl, rfl, rfl, rfl, rfl, rfl, rfl, rfl, rfl, rfl, rfl, rfl, rfl, rfl, trivial⟩ ⟨(fun _ => ⟨_, rfl, (z0 (Ev.tmp (A := (ro za 21 v2)) (by kernel_rfl)))⟩), (fun _ => ⟨_, rfl, (z0 (Ev.tmp (A := (iv .i64 y33)) (by kernel_rfl)))⟩), (fun _ => ⟨_, rfl, (zk (e := za) (y := (gt v2 y33)) (ix37 H) (Ev.tmp (A := (ro za 21 v2)) (by kernel_rfl)) (Ev.tmp (A := (iv .i64 y33)) (by kernel_rfl)) (h40).1 (z7 h40))⟩), (fun _ => ⟨_, rfl, (z2d (z4d H) (Ev.tmp (A := (rop (za (gt v2 y33)))) (by kernel_rfl)) (cs' := (z99 (gt v2 y33).fItem)) 16 rfl)⟩), (fun _ => ⟨_, rfl, (z2d (zgg H) (Ev.tmp (A := (rop (z99 (gt v2 y33).fItem))) (by kernel_rfl)) (cs' := [(iv .i64 ((gt v2 y33).fItem.fKind))]) 1 rfl)⟩), (fun _ => ⟨_, rfl, (z0o (tl3 H) (Pt.rop (Ev.tmp (A := (rop [(iv .i64 ((gt v2 y33).fItem.fKind))])) (by kernel_rfl))))⟩), (fun _ => ⟨_, rfl, (z78 (Ev.tmp (A := (iv .i64 ((gt v2 y33).fItem.fKind))) (by kernel_rfl)) (Ev.const _))⟩), (fun _ => ⟨_, rfl, (z0 (Ev.tmp (A := (bv ((gt v2 y33).fItem.fKind != 3))) (by kernel_rfl)))⟩), (fun _ => ⟨_, rfl, ⟨(((gt v2 y33).fItem.fKind != 3) = false), (ro za 21 v2), 66, rfl, rfl, fun g41 => (z0 (Ev.tmp (A := (ro za 21 v2)) (by kernel_rfl))), .inl ⟨((gt v2 y33).fItem.fKind != 3), rfl, rfl⟩⟩⟩), (fun _ => ⟨_, rfl, ⟨(((gt v2 y33).fItem.fKind != 3) = false), (iv .i64 y35), 66, rfl, rfl, fun g42 => (z0 (Ev.tmp (A := (iv .i64 y35)) (by kernel_rfl))), .inl ⟨((gt v2 y33).fItem.fKind != 3), rfl, rfl⟩⟩⟩), (fun _ => ⟨_, rfl, ⟨(((gt v2 y33).fItem.fKind != 3) = false), (rop (za (gt v2 y35))), 66, rfl, rfl, fun g43 => (zk (e := za) (y := (gt v2 y35)) (ix37 H) (Ev.cnd (Ev.tmp rfl) g43) (Ev.cnd (Ev.tmp rfl) g43) ((h44 g43)).1 (z7 (h44 g43))), .inl ⟨((gt v2 y33).fItem.fKind != 3), rfl, rfl⟩⟩⟩), (fun _ => ⟨_, rfl, ⟨(((gt v2 y33).fItem.fKind != 3) = false), (rop (z99 (gt v2 y35).fItem)), 66, rfl, rfl, fun g45 => (z2d (z4d H) (Ev.cnd (Ev.tmp rfl) g45) (cs' := (z99 (gt v2 y35).fItem)) 16 rfl), .inl ⟨((gt v2 y33).fItem.fKind != 3), rfl, rfl⟩⟩⟩), (fun _ => ⟨_, rfl, ⟨(((gt v2 y33).fItem.fKind != 3) = false), (rop [(iv .i64 ((gt v2 y35).fItem.fKind))]), 66, rfl, rfl, fun g46 => (z2d (zgg H) (Ev.cnd (Ev.tmp rfl) g46) (cs' := [(iv .i64 ((gt v2 y35).fItem.fKind))]) 1 rfl), .inl ⟨((gt v2 y33).fItem.fKind != 3), rfl, rfl⟩⟩⟩), (fun _ => ⟨_, rfl, ⟨(((gt v2 y33).fItem.fKind != 3) = false), (iv .i64 ((gt v2 y35).fItem.fKind)), 66, rfl, rfl, fun g47 => (z0o (tl3 H) (Pt.rop (Ev.cnd (Ev.tmp rfl) g47))), .inl ⟨((gt v2 y33).fItem.fKind != 3), rfl, rfl⟩⟩⟩), (fun _ => ⟨_, rfl, ⟨(((gt v2 y33).fItem.fKind != 3) = false), (bv ((gt v2 y35).fItem.fKind != 4)), 66, rfl, rfl, fun g48 => (z78 (Ev.cnd (Ev.tmp rfl) g48) (Ev.const _)), .inl ⟨((gt v2 y33).fItem.fKind != 3), rfl, rfl⟩⟩⟩), (fun _ => ⟨_, rfl, (opOr (Ev.tmp (A := (bv ((gt v2 y33).fItem.fKind != 3))) (by kernel_rfl)) (Ev.const _) (fun g49 => (Ev.cnd (Ev.tmp rfl) g49)))⟩), (fun _ => ⟨_, rfl, (z0 (Ev.tmp (A := (bv (((gt v2 y33).fItem.fKind != 3) || ((gt v2 y35).fItem.fKind != 4)))) (by kernel_rfl)))⟩), (fun _ => ⟨_, rfl, ⟨((((gt v2 y33).fItem.fKind != 3) || ((gt v2 y35).fItem.fKind != 4)) = false), (agg (z1l v1)), 75, rfl, rfl, fun g50 => (z5j (tl36 H) ((Pt.box 0 (Ev.tmp (A := (eqv (.pointer (some ⟨b3, 0, none⟩)))) (by kernel_rfl)) rfl rfl).take 9 (cs' := (z1l v1)) rfl)), .inl ⟨(((gt v2 y33).fItem.fKind != 3) || ((gt v2 y35).fItem.fKind != 4)), rfl, rfl⟩⟩⟩), (fun _ => ⟨_, rfl, ⟨((((gt v2 y33).fItem.fKind != 3) || ((gt v2 y35).fItem.fKind != 4)) = false), (ro za 21 v2), 75, rfl, rfl, fun g51 => (z0 (Ev.tmp (A := (ro za 21 v2)) (by kernel_rfl))), .inl ⟨(((gt v2 y33).fItem.fKind != 3) || ((gt v2 y35).fItem.fKind != 4)), rfl, rfl⟩⟩⟩), (fun _ => ⟨_, rfl, ⟨((((gt v2 y33).fItem.fKind != 3) || ((gt v2 y35).fItem.fKind != 4)) = false), (iv .i64 y33), 75, rfl, rfl, fun g52 => (z0 (Ev.tmp (A := (iv .i64 y33)) (by kernel_rfl))), .inl ⟨(((gt v2 y33).fItem.fKind != 3) || ((gt v2 y35).fItem.fKind != 4)), rfl, rfl⟩⟩⟩), (fun _ => ⟨_, rfl, ⟨((((gt v2 y33).fItem.fKind != 3) || ((gt v2 y35).fItem.fKind != 4)) = false), (rop (za (gt v2 y33))), 75, rfl, rfl, fun g53 => (zk (e := za) (y := (gt v2 y33)) (ix37 H) (Ev.cnd (Ev.tmp rfl) g53) (Ev.cnd (Ev.tmp rfl) g53) (h40).1 (z7 h40)), .inl ⟨(((gt v2 y33).fItem.fKind != 3) || ((gt v2 y35).fItem.fKind != 4)), rfl, rfl⟩⟩⟩), (fun _ => ⟨_, rfl, ⟨((((gt v2 y33).fItem.fKind != 3) || ((gt v2 y35).fItem.fKind != 4)) = false), (rop (z99 (gt v2 y33).fItem)), 75, rfl, rfl, fun g54 => (z2d (z4d H) (Ev.cnd (Ev.tmp rfl) g54) (cs' := (z99 (gt v2 y33).fItem)) 16 rfl), .inl ⟨(((gt v2 y33).fItem.fKind != 3) || ((gt v2 y35).fItem.fKind != 4)), rfl, rfl⟩⟩⟩), (fun _ => ⟨_, rfl, ⟨((((gt v2 y33).fItem.fKind != 3) || ((gt v2 y35).fItem.fKind != 4)) = false), (agg (z99 (gt v2 y33).fItem)), 75, rfl, rfl, fun g55 => (z5j (tl46 H) (Pt.rop (Ev.cnd (Ev.tmp rfl) g55))), .inl ⟨(((gt v2 y33).fItem.fKind != 3) || ((gt v2 y35).fItem.fKind != 4)), rfl, rfl⟩⟩⟩), (fun _ => ⟨_, rfl, ⟨((((gt v2 y33).fItem.fKind != 3) || ((gt v2 y35).fItem.fKind != 4)) = false), (iv .i64 y57), 75, rfl, rfl, fun g56 => (zjf (zoy H) (args := [(agg (z1l v1)), (agg (z99 (gt v2 y33).fItem))]) ⟨EvF.of (Ev.cnd (Ev.tmp rfl) g56) FEnt.refl, EvF.of (Ev.cnd (Ev.tmp rfl) g56) FEnt.refl, trivial⟩ (zd5 H φ v1 ((gt v2 y33).fItem) _ (zr ey57 g56)) z5), .inl ⟨(((gt v2 y33).fItem.fKind != 3) || ((gt v2 y35).fItem.fKind != 4)), rfl, rfl⟩⟩⟩), (fun _ => ⟨_, rfl, ⟨((((gt v2 y33).fItem.fKind != 3) || ((gt v2 y35).fItem.fKind != 4)) = false), (bv (y57 != 0)), 75, rfl, rfl, fun g58 => (z78 (Ev.cnd (Ev.tmp rfl) g58) (Ev.const _)), .inl ⟨(((gt v2 y33).fItem.fKind != 3) || ((gt v2 y35).fItem.fKind != 4)), rfl, rfl⟩⟩⟩), (fun _ => ⟨_, rfl, (opOr (Ev.tmp (A := (bv (((gt v2 y33).fItem.fKind != 3) || ((gt v2 y35).fItem.fKind != 4)))) (by kernel_rfl)) (Ev.const _) (fun g59 => (Ev.cnd (Ev.tmp rfl) g59)))⟩), (fun _ => ⟨_, rfl, (z0 (Ev.tmp (A := (bv ((((gt v2 y33).fItem.fKind != 3) || ((gt v2 y35).fItem.fKind != 4)) || (y57 != 0)))) (by kernel_rfl)))⟩), (fun _ => ⟨_, rfl, ⟨(((((gt v2 y33).fItem.fKind != 3) || ((gt v2 y35).fItem.fKind != 4)) || (y57 != 0)) = false), (agg (z1l v1)), 85, rfl, rfl, fun g60 => (z5j (tl36 H) ((Pt.box 0 (Ev.tmp (A := (eqv (.pointer (some ⟨b3, 0, none⟩)))) (by kernel_rfl)) rfl rfl).take 9 (cs' := (z1l v1)) rfl)), .inl ⟨((((gt v2 y33).fItem.fKind != 3) || ((gt v2 y35).fItem.fKind != 4)) || (y57 != 0)), rfl, rfl⟩⟩⟩), (fun _ => ⟨_, rfl, ⟨(((((gt v2 y33).fItem.fKind != 3) || ((gt v2 y35).fItem.fKind != 4)) || (y57 != 0)) = false), (ro za 21 v2), 85, rfl, rfl, fun g61 => (z0 (Ev.tmp (A := (ro za 21 v2)) (by kernel_rfl))), .inl ⟨((((gt v2 y33).fItem.fKind != 3) || ((gt v2 y35).fItem.fKind != 4)) || (y57 != 0)), rfl, rfl⟩⟩⟩), (fun _ => ⟨_, rfl, ⟨(((((gt v2 y33).fItem.fKind != 3) || ((gt v2 y35).fItem.fKind != 4)) || (y57 != 0)) = false), (iv .i64 y35), 85, rfl, rfl, fun g62 => (z0 (Ev.tmp (A := (iv .i64 y35)) (by kernel_rfl))), .inl ⟨((((gt v2 y33).fItem.fKind != 3) || ((gt v2 y35).fItem.fKind != 4)) || (y57 != 0)), rfl, rfl⟩⟩⟩), (fun _ => ⟨_, rfl, ⟨(((((gt v2 y33).fItem.fKind != 3) || ((gt v2 y35).fItem.fKind != 4)) || (y57 != 0)) = false), (rop (za (gt v2 y35))), 85, rfl, rfl, fun g63 => (zk (e := za) (y := (gt v2 y35)) (ix37 H) (Ev.cnd (Ev.tmp rfl) g63) (Ev.cnd (Ev.tmp rfl) g63) ((h64 g63)).1 (z7 (h64 g63))), .inl ⟨((((gt v2 y33).fItem.fKind != 3) || ((gt v2 y35).fItem.fKind != 4)) || (y57 != 0)), rfl, rfl⟩⟩⟩), (fun _ => ⟨_, rfl, ⟨(((((gt v2 y33).fItem.fKind != 3) || ((gt v2 y35).fItem.fKind != 4)) || (y57 != 0)) = false), (rop (z99 (gt v2 y35).fItem)), 85, rfl, rfl, fun g65 => (z2d (z4d H) (Ev.cnd (Ev.tmp rfl) g65) (cs' := (z99 (gt v2 y35).fItem)) 16 rfl), .inl ⟨((((gt v2 y33).fItem.fKind != 3) || ((gt v2 y35).fItem.fKind != 4)) || (y57 != 0)), rfl, rfl⟩⟩⟩), (fun _ => ⟨_, rfl, ⟨(((((gt v2 y33).fItem.fKind != 3) || ((gt v2 y35).fItem.fKind != 4)) || (y57 != 0)) = false), (agg (z99 (gt v2 y35).fItem)), 85, rfl, rfl, fun g66 => (z5j (tl46 H) (Pt.rop (Ev.cnd (Ev.tmp rfl) g66))), .inl ⟨((((gt v2 y33).fItem.fKind != 3) || ((gt v2 y35).fItem.fKind != 4)) || (y57 != 0)), rfl, rfl⟩⟩⟩), (fun _ => ⟨_, rfl, ⟨(((((gt v2 y33).fItem.fKind != 3) || ((gt v2 y35).fItem.fKind != 4)) || (y57 != 0)) = false), (iv .i64 y68), 85, rfl, rfl, fun g67 => (zjf (zoy H) (args := [(agg (z1l v1)), (agg (z99 (gt v2 y35).fItem))]) ⟨EvF.of (Ev.cnd (Ev.tmp rfl) g67) FEnt.refl, EvF.of (Ev.cnd (Ev.tmp rfl) g67) FEnt.refl, trivial⟩ (zd5 H φ v1 ((gt v2 y35).fItem) _ (zr ey68 g67)) z5), .inl ⟨((((gt v2 y33).fItem.fKind != 3) || ((gt v2 y35).fItem.fKind != 4)) || (y57 != 0)), rfl, rfl⟩⟩⟩), (fun _ => ⟨_, rfl, ⟨(((((gt v2 y33).fItem.fKind != 3) || ((gt v2 y35).fItem.fKind != 4)) || (y57 != 0)) = false), (bv (y68 != 0)), 85, rfl, rfl, fun g69 => (z78 (Ev.cnd (Ev.tmp rfl) g69) (Ev.const _)), .inl ⟨((((gt v2 y33).fItem.fKind != 3) || ((gt v2 y35).fItem.fKind != 4)) || (y57 != 0)), rfl, rfl⟩⟩⟩), (fun _ => ⟨_, rfl, (opOr (Ev.tmp (A := (bv ((((gt v2 y33).fItem.fKind != 3) || ((gt v2 y35).fItem.fKind != 4)) || (y57 != 0)))) (by kernel_rfl)) (Ev.const _) (fun g70 => (Ev.cnd (Ev.tmp rfl) g70)))⟩), trivial⟩ trivial (fun _ => ?_))
         refine al [1, 2, 5, 6, 7, 8, 9, 94] [0, 1] rfl rfl rfl (sq ?_)
         refine cI h rfl (fun c71 h => ?_) (fun c71 h => ?_)
         ·
          refine z2.exit (AtX.then_exit (AtX.in_hit ?_))
          exact AtX.to (hJ31 () h) [0, 1] (sl rfl) (ol rfl) rfl
         ·
          refine z2.skip (al [1, 2, 5, 6, 7, 8, 9] [0, 1] rfl rfl rfl (sq (cs (ckE h fun h72 h => ckE h fun h73 h => zn h fun y74 ey74 h => z2.draw (QR := [(0, _), (1, _), (2, _), (3, _), (4, _), (5, _), (6, _), (7, _), (8, _), (9, _)]) (tab := [(some 95, []), (some 96, []), (some 97, []), (some 98, [1, 2]), (some 99, [3]), (some 100, []), (some 101, []), (some 102, [5, 6]), (some 103, [7]), (some 104, [0, 4, 8])]) (z5f H) (Reg.intro [] [] (by kernel_rfl) rfl (an rfl) ⟨(qr rfl (ln (tl36 H) ((Pt.box 0 (mv rfl) rfl rfl).take 9 (cs' := (z1l v1)) rfl) rfl)), (qr rfl (z0 (mv rfl))), (qr rfl (z0 (mv rfl))), (qr rfl (zk (ix37 H) (mv rfl) (mv rfl) (h72).1 (z7 h72))), (qr rfl (ln (tl48 H) (Pt.rop (mv rfl)) rfl)), (qr rfl (z0 (mv rfl))), (qr rfl (z0 (mv rfl))), (qr rfl (zk (ix37 H) (mv rfl) (mv rfl) (h73).1 (z7 h73))), (qr rfl (ln (tl48 H) (Pt.rop (mv rfl)) rfl)), (qr rfl (oQ (zuz H) (zj1 H φ v1 (gt v2 y33) (gt v2 y35) _ ey74) z5 ⟨ef (mv rfl), ef (mv rfl), ef (mv rfl), trivial⟩)), trivial⟩ trivial (fun _ => al [1, 2, 5, 6, 7, 104] [0, 1] rfl rfl rfl (sq ?_)))))))
          refine cI h rfl (fun c75 h => ?_) (fun c75 h => ?_)
          ·
           refine cs (cr [0] rfl (q1 rfl (z1 ct) (rn (al [4] [] rfl rfl rfl (sq (z2.ret (AtX.in_ret (AtX.then_ret (AtX.then_ret (AtX.in_ret (AtX.in_ret ?_)))))))))))
           refine AtX.then_ret (AtX.then_ret (AtX.in_ret (AtX.then_ret (AtX.ret' (bv false) (zo.one Try.results7 rfl) [] [] trivial rfl ?_))))
           obtain rfl := Option.some.inj h
           exact ⟨rfl, rfl⟩
          ·
           refine z2.skip (AtX.in_normal ?_)
           exact AtX.to (hJ31 () h) [0, 1] (sl rfl) (ol rfl) rfl
      ·
       refine z2.exit (AtX.then_exit (AtX.then_exit (AtX.in_hit (AtX.in_normal ?_))))
       exact AtX.to (hJ27 () h) [0, 1] (sl rfl) (ol rfl) rfl
    ·
     refine z2.exit (AtX.then_exit (AtX.then_exit (AtX.in_hit ?_)))
     exact AtX.to (hJ23 () h) [] trivial trivial rfl
end Px
end
section
namespace Px
open Go Go.RowKit
theorem zwf {H : Type} {enc : TypeId × Value → H} {P : Program} {W : World} {sp : Nat → Bool} {held : Bool} {base : Nat} {α : Type} {t : TypeId} {A : α → VP} {R : α → Prop} {v : Value} {d : DataW H} {p : List MemPlace}
    (hu : (match P.underlying t with | some (.slice _) => true | _ => false) = true) (ho : Opn P t 1 (fun y => [A y]) R) (hv : Value.okWide P W .any base t v) (h : DataW.Trod enc P W 0 sp held t v d p) : ∃ y, R y ∧ (A y).h (fun b => b < W.heap.size) W v := by
  obtain ⟨fuel, hf⟩ := h
  obtain ⟨_, y, hR, hc⟩ := ho _ _ _ _ _ _ _ _ hf
  unfold Value.okWide at hv
  split at hu
  · rename_i fs hus
    rw [hus] at hv
    have hcell : v.cells.toList = [v] := by
      cases v <;> first | rfl | (exfalso; simp [Cell.okWide, Cell.ok, hus] at hv)
    rw [hcell] at hc
    obtain ⟨u, hu', hA, _⟩ := hc.2 0 (A y) rfl
    simp at hu'
    subst hu'
    exact ⟨y, hR, hA⟩
  · cases hu
end Px
end
section
set_option linter.unusedVariables false
set_option linter.unusedSimpArgs false
set_option maxHeartbeats 4000000
set_option maxRecDepth 100000
namespace Px
open Go Go.RowKit Go.Proofs
def zra (x : z86) : Prop := RI .i64 x.fKind ∧ RI .i64 x.fRailway ∧ RI .i64 x.fOther ∧ True
def zug (x : Edge) : Prop := RI .i64 x.fA ∧ RI .i64 x.fB ∧ RI .i64 x.fRailway ∧ RI .i64 x.fMinutes ∧ RI .i64 x.fKm ∧ True
def zml (x : z7i) : Prop := (RL (zra)) x.fPlaces ∧ (RL (zug)) x.fEdges ∧ True
def zim (x : z64) : Prop := RI .i64 x.fLoad ∧ RI .i64 x.fTare ∧ RI .i64 x.fLength ∧ RI .i64 x.fGauge ∧ RI .i64 x.fBrake ∧ RI .u64 x.fClasses ∧ RI .i64 x.fLife ∧ RI .i64 x.fFloor ∧ True
def zqp (x : zd1) : Prop := RI .i64 x.fType ∧ RI .i64 x.fOwner ∧ RI .i64 x.fHome ∧ RI .i64 x.fBuilt ∧ RI .i64 x.fWorth ∧ True
def zue (x : Swap) : Prop := RI .i64 x.fWanted ∧ RI .i64 x.fGiven ∧ RI .i64 x.fCost ∧ True
def zvs (x : Wash) : Prop := RI .i64 x.fFrom ∧ RI .i64 x.fTo ∧ RI .i64 x.fMinutes ∧ True
def zrn (x : z8k) : Prop := (RL (zim)) x.fTypes ∧ (RL (zqp)) x.fWagons ∧ (RL (zue)) x.fSwaps ∧ (RL (zvs)) x.fWashes ∧ True
def zod (x : zeb) : Prop := RI .i64 x.fPlace ∧ RI .i64 x.fLow ∧ RI .i64 x.fHigh ∧ True
def zm6 (x : zcg) : Prop := RI .i64 x.fPlace ∧ True
def zv6 (x : Span) : Prop := RI .i64 x.fFrom ∧ RI .i64 x.fTo ∧ True
def zkv (x : z2q) : Prop := (fun f => ∀ i, i < 7 → (zv6) (f i)) x.fOpen ∧ (RL (RI .i64)) x.fHolidays ∧ True
def zfp (x : z2f) : Prop := RI .u64 x.fKey ∧ zkv x.fCalendar ∧ True
def zx1 (x : Pool) : Prop := zml x.fNetwork ∧ zrn x.fFleet ∧ (RL (zod)) x.fReaders ∧ (RL (zm6)) x.fShippers ∧ (RL (zfp)) x.fRailways ∧ True
def RRef (x : Ref) : Prop := RI .i64 x.fRailway ∧ RI .i64 x.fNo ∧ True
def zwb (x : Part) : Prop := RI .i64 x.fKind ∧ RI .i64 x.fSerial ∧ (fun (_ : Bool) => True) x.fFitted ∧ True
def zu9 (x : Item) : Prop := RI .i64 x.fKind ∧ RRef x.fRef ∧ RI .i64 x.fWagon ∧ RI .i64 x.fPlace ∧ RI .i64 x.fOther ∧ RI .i64 x.fNumber ∧ RI .i64 x.fFrom ∧ RI .i64 x.fTo ∧ RI .i64 x.fCode ∧ RI .i64 x.fDest ∧ RI .i64 x.fClass ∧ RI .i64 x.fWeight ∧ RI .i64 x.fAmount ∧ (fun (s : ByteArray) => s.size ≤ maxLen) x.fText ∧ (RL (zwb)) x.fParts ∧ True
def zsv (x : zl) : Prop := RRef x.fRef ∧ RRef x.fBy ∧ RI .i64 x.fTime ∧ zu9 x.fItem ∧ True
theorem ou3 {P : Program} (H : P = Try.prog) : P.underlying 3 = some (.int .i64) := by subst H; kernel_rfl
theorem of68 {P : Program} (H : P = Try.prog) : z7x P 68 = some [(3, 0, 1), (3, 1, 1), (3, 2, 1)] := by subst H; kernel_rfl
theorem oc68 {P : Program} (H : P = Try.prog) : P.cellsOf 68 = 3 := by subst H; kernel_rfl
theorem ou22 {P : Program} (H : P = Try.prog) : P.underlying 22 = some (.slice 68) := by subst H; kernel_rfl
theorem zx6 {P : Program} (H : P = Try.prog) : z7x P 124 = some [(3, 0, 1), (3, 1, 1), (3, 2, 1), (3, 3, 1), (3, 4, 1)] := by subst H; kernel_rfl
theorem ztl {P : Program} (H : P = Try.prog) : P.cellsOf 124 = 5 := by subst H; kernel_rfl
theorem ou23 {P : Program} (H : P = Try.prog) : P.underlying 23 = some (.slice 124) := by subst H; kernel_rfl
theorem of25 {P : Program} (H : P = Try.prog) : z7x P 25 = some [(22, 0, 1), (23, 1, 1)] := by subst H; kernel_rfl
theorem oc25 {P : Program} (H : P = Try.prog) : P.cellsOf 25 = 2 := by subst H; kernel_rfl
theorem ou41 {P : Program} (H : P = Try.prog) : P.underlying 41 = some (.int .u64) := by subst H; kernel_rfl
theorem zwt {P : Program} (H : P = Try.prog) : z7x P 114 = some [(3, 0, 1), (3, 1, 1), (3, 2, 1), (3, 3, 1), (3, 4, 1), (41, 5, 1), (3, 6, 1), (3, 7, 1)] := by subst H; kernel_rfl
theorem zvq {P : Program} (H : P = Try.prog) : P.cellsOf 114 = 8 := by subst H; kernel_rfl
theorem ou26 {P : Program} (H : P = Try.prog) : P.underlying 26 = some (.slice 114) := by subst H; kernel_rfl
theorem of66 {P : Program} (H : P = Try.prog) : z7x P 66 = some [(3, 0, 1), (3, 1, 1), (3, 2, 1), (3, 3, 1), (3, 4, 1)] := by subst H; kernel_rfl
theorem oc66 {P : Program} (H : P = Try.prog) : P.cellsOf 66 = 5 := by subst H; kernel_rfl
theorem ou27 {P : Program} (H : P = Try.prog) : P.underlying 27 = some (.slice 66) := by subst H; kernel_rfl
theorem zxd {P : Program} (H : P = Try.prog) : z7x P 133 = some [(3, 0, 1), (3, 1, 1), (3, 2, 1)] := by subst H; kernel_rfl
theorem zv9 {P : Program} (H : P = Try.prog) : P.cellsOf 133 = 3 := by subst H; kernel_rfl
theorem ou28 {P : Program} (H : P = Try.prog) : P.underlying 28 = some (.slice 133) := by subst H; kernel_rfl
theorem zww {P : Program} (H : P = Try.prog) : z7x P 149 = some [(3, 0, 1), (3, 1, 1), (3, 2, 1)] := by subst H; kernel_rfl
theorem zvu {P : Program} (H : P = Try.prog) : P.cellsOf 149 = 3 := by subst H; kernel_rfl
theorem ou29 {P : Program} (H : P = Try.prog) : P.underlying 29 = some (.slice 149) := by subst H; kernel_rfl
theorem of31 {P : Program} (H : P = Try.prog) : z7x P 31 = some [(26, 0, 1), (27, 1, 1), (28, 2, 1), (29, 3, 1)] := by subst H; kernel_rfl
theorem oc31 {P : Program} (H : P = Try.prog) : P.cellsOf 31 = 4 := by subst H; kernel_rfl
theorem zwl {P : Program} (H : P = Try.prog) : z7x P 119 = some [(3, 0, 1), (3, 1, 1), (3, 2, 1)] := by subst H; kernel_rfl
theorem zu6 {P : Program} (H : P = Try.prog) : P.cellsOf 119 = 3 := by subst H; kernel_rfl
theorem ou32 {P : Program} (H : P = Try.prog) : P.underlying 32 = some (.slice 119) := by subst H; kernel_rfl
theorem zwq {P : Program} (H : P = Try.prog) : z7x P 122 = some [(3, 0, 1)] := by subst H; kernel_rfl
theorem zvi {P : Program} (H : P = Try.prog) : P.cellsOf 122 = 1 := by subst H; kernel_rfl
theorem ou33 {P : Program} (H : P = Try.prog) : P.underlying 33 = some (.slice 122) := by subst H; kernel_rfl
theorem of62 {P : Program} (H : P = Try.prog) : z7x P 62 = some [(3, 0, 1), (3, 1, 1)] := by subst H; kernel_rfl
theorem oc62 {P : Program} (H : P = Try.prog) : P.cellsOf 62 = 2 := by subst H; kernel_rfl
theorem zwv {P : Program} (H : P = Try.prog) : P.underlying 103 = some (.array 7 62) := by subst H; kernel_rfl
theorem zxi {P : Program} (H : P = Try.prog) : P.cellsOf 103 = 14 := by subst H; kernel_rfl
theorem ou96 {P : Program} (H : P = Try.prog) : P.underlying 96 = some (.slice 3) := by subst H; kernel_rfl
theorem oc3 {P : Program} (H : P = Try.prog) : P.cellsOf 3 = 1 := by subst H; kernel_rfl
theorem zx9 {P : Program} (H : P = Try.prog) : z7x P 105 = some [(103, 0, 14), (96, 14, 1)] := by subst H; kernel_rfl
theorem zwn {P : Program} (H : P = Try.prog) : P.cellsOf 105 = 15 := by subst H; kernel_rfl
theorem zwk {P : Program} (H : P = Try.prog) : z7x P 107 = some [(41, 0, 1), (105, 1, 15)] := by subst H; kernel_rfl
theorem zux {P : Program} (H : P = Try.prog) : P.cellsOf 107 = 16 := by subst H; kernel_rfl
theorem ou34 {P : Program} (H : P = Try.prog) : P.underlying 34 = some (.slice 107) := by subst H; kernel_rfl
theorem of36 {P : Program} (H : P = Try.prog) : z7x P 36 = some [(25, 0, 2), (31, 2, 4), (32, 6, 1), (33, 7, 1), (34, 8, 1)] := by subst H; kernel_rfl
theorem oc36 {P : Program} (H : P = Try.prog) : P.cellsOf 36 = 9 := by subst H; kernel_rfl
theorem of43 {P : Program} (H : P = Try.prog) : z7x P 43 = some [(3, 0, 1), (3, 1, 1)] := by subst H; kernel_rfl
theorem oc43 {P : Program} (H : P = Try.prog) : P.cellsOf 43 = 2 := by subst H; kernel_rfl
theorem ou9 {P : Program} (H : P = Try.prog) : P.underlying 9 = some .string := by subst H; kernel_rfl
theorem ou4 {P : Program} (H : P = Try.prog) : P.underlying 4 = some .bool := by subst H; kernel_rfl
theorem zwx {P : Program} (H : P = Try.prog) : z7x P 163 = some [(3, 0, 1), (3, 1, 1), (4, 2, 1)] := by subst H; kernel_rfl
theorem zw5 {P : Program} (H : P = Try.prog) : P.cellsOf 163 = 3 := by subst H; kernel_rfl
theorem ou44 {P : Program} (H : P = Try.prog) : P.underlying 44 = some (.slice 163) := by subst H; kernel_rfl
theorem of46 {P : Program} (H : P = Try.prog) : z7x P 46 = some [(3, 0, 1), (43, 1, 2), (3, 3, 1), (3, 4, 1), (3, 5, 1), (3, 6, 1), (3, 7, 1), (3, 8, 1), (3, 9, 1), (3, 10, 1), (3, 11, 1), (3, 12, 1), (3, 13, 1), (9, 14, 1), (44, 15, 1)] := by subst H; kernel_rfl
theorem oc46 {P : Program} (H : P = Try.prog) : P.cellsOf 46 = 16 := by subst H; kernel_rfl
theorem of48 {P : Program} (H : P = Try.prog) : z7x P 48 = some [(43, 0, 2), (43, 2, 2), (3, 4, 1), (46, 5, 16)] := by subst H; kernel_rfl
theorem oc48 {P : Program} (H : P = Try.prog) : P.cellsOf 48 = 21 := by subst H; kernel_rfl
theorem ou37 {P : Program} (H : P = Try.prog) : P.underlying 37 = some (.slice 48) := by subst H; kernel_rfl
theorem zq7 {P : Program} (H : P = Try.prog) : Opn P 68 3 z4g zra := by
  intro H' enc w sp held fuel cs x h
  obtain ⟨hl, m, hf⟩ := z3j (of68 H) h
  replace hl : cs.length = 3 := hl.trans (oc68 H)
  obtain ⟨x0, h0⟩ := hf 0 _ _ _ rfl
  obtain ⟨_, y0, r0, c0⟩ := (Opn.int (ou3 H)) _ _ _ _ _ _ _ _ h0
  obtain ⟨x1, h1⟩ := hf 1 _ _ _ rfl
  obtain ⟨_, y1, r1, c1⟩ := (Opn.int (ou3 H)) _ _ _ _ _ _ _ _ h1
  obtain ⟨x2, h2⟩ := hf 2 _ _ _ rfl
  obtain ⟨_, y2, r2, c2⟩ := (Opn.int (ou3 H)) _ _ _ _ _ _ _ _ h2
  exact ⟨hl, ⟨y0, y1, y2⟩, ⟨r0, r1, r2, trivial⟩, ze.tile c0 (ze.tile c1 (ze.tile c2 (ze.tile0 hl)))⟩
theorem zs3 {P : Program} (H : P = Try.prog) : Opn P 124 5 zbk zug := by
  intro H' enc w sp held fuel cs x h
  obtain ⟨hl, m, hf⟩ := z3j (zx6 H) h
  replace hl : cs.length = 5 := hl.trans (ztl H)
  obtain ⟨x0, h0⟩ := hf 0 _ _ _ rfl
  obtain ⟨_, y0, r0, c0⟩ := (Opn.int (ou3 H)) _ _ _ _ _ _ _ _ h0
  obtain ⟨x1, h1⟩ := hf 1 _ _ _ rfl
  obtain ⟨_, y1, r1, c1⟩ := (Opn.int (ou3 H)) _ _ _ _ _ _ _ _ h1
  obtain ⟨x2, h2⟩ := hf 2 _ _ _ rfl
  obtain ⟨_, y2, r2, c2⟩ := (Opn.int (ou3 H)) _ _ _ _ _ _ _ _ h2
  obtain ⟨x3, h3⟩ := hf 3 _ _ _ rfl
  obtain ⟨_, y3, r3, c3⟩ := (Opn.int (ou3 H)) _ _ _ _ _ _ _ _ h3
  obtain ⟨x4, h4⟩ := hf 4 _ _ _ rfl
  obtain ⟨_, y4, r4, c4⟩ := (Opn.int (ou3 H)) _ _ _ _ _ _ _ _ h4
  exact ⟨hl, ⟨y0, y1, y2, y3, y4⟩, ⟨r0, r1, r2, r3, r4, trivial⟩, ze.tile c0 (ze.tile c1 (ze.tile c2 (ze.tile c3 (ze.tile c4 (ze.tile0 hl)))))⟩
theorem zna {P : Program} (H : P = Try.prog) : Opn P 25 2 zae zml := by
  intro H' enc w sp held fuel cs x h
  obtain ⟨hl, m, hf⟩ := z3j (of25 H) h
  replace hl : cs.length = 2 := hl.trans (oc25 H)
  obtain ⟨x0, h0⟩ := hf 0 _ _ _ rfl
  obtain ⟨_, y0, r0, c0⟩ := (Opn.slice (ou22 H) (oc68 H) (by decide) (zq7 H)) _ _ _ _ _ _ _ _ h0
  obtain ⟨x1, h1⟩ := hf 1 _ _ _ rfl
  obtain ⟨_, y1, r1, c1⟩ := (Opn.slice (ou23 H) (ztl H) (by decide) (zs3 H)) _ _ _ _ _ _ _ _ h1
  exact ⟨hl, ⟨y0, y1⟩, ⟨r0, r1, trivial⟩, ze.tile c0 (ze.tile c1 (ze.tile0 hl))⟩
theorem zjz {P : Program} (H : P = Try.prog) : Opn P 114 8 z0q zim := by
  intro H' enc w sp held fuel cs x h
  obtain ⟨hl, m, hf⟩ := z3j (zwt H) h
  replace hl : cs.length = 8 := hl.trans (zvq H)
  obtain ⟨x0, h0⟩ := hf 0 _ _ _ rfl
  obtain ⟨_, y0, r0, c0⟩ := (Opn.int (ou3 H)) _ _ _ _ _ _ _ _ h0
  obtain ⟨x1, h1⟩ := hf 1 _ _ _ rfl
  obtain ⟨_, y1, r1, c1⟩ := (Opn.int (ou3 H)) _ _ _ _ _ _ _ _ h1
  obtain ⟨x2, h2⟩ := hf 2 _ _ _ rfl
  obtain ⟨_, y2, r2, c2⟩ := (Opn.int (ou3 H)) _ _ _ _ _ _ _ _ h2
  obtain ⟨x3, h3⟩ := hf 3 _ _ _ rfl
  obtain ⟨_, y3, r3, c3⟩ := (Opn.int (ou3 H)) _ _ _ _ _ _ _ _ h3
  obtain ⟨x4, h4⟩ := hf 4 _ _ _ rfl
  obtain ⟨_, y4, r4, c4⟩ := (Opn.int (ou3 H)) _ _ _ _ _ _ _ _ h4
  obtain ⟨x5, h5⟩ := hf 5 _ _ _ rfl
  obtain ⟨_, y5, r5, c5⟩ := (Opn.int (ou41 H)) _ _ _ _ _ _ _ _ h5
  obtain ⟨x6, h6⟩ := hf 6 _ _ _ rfl
  obtain ⟨_, y6, r6, c6⟩ := (Opn.int (ou3 H)) _ _ _ _ _ _ _ _ h6
  obtain ⟨x7, h7⟩ := hf 7 _ _ _ rfl
  obtain ⟨_, y7, r7, c7⟩ := (Opn.int (ou3 H)) _ _ _ _ _ _ _ _ h7
  exact ⟨hl, ⟨y0, y1, y2, y3, y4, y5, y6, y7⟩, ⟨r0, r1, r2, r3, r4, r5, r6, r7, trivial⟩, ze.tile c0 (ze.tile c1 (ze.tile c2 (ze.tile c3 (ze.tile c4 (ze.tile c5 (ze.tile c6 (ze.tile c7 (ze.tile0 hl))))))))⟩
theorem zq8 {P : Program} (H : P = Try.prog) : Opn P 66 5 z6m zqp := by
  intro H' enc w sp held fuel cs x h
  obtain ⟨hl, m, hf⟩ := z3j (of66 H) h
  replace hl : cs.length = 5 := hl.trans (oc66 H)
  obtain ⟨x0, h0⟩ := hf 0 _ _ _ rfl
  obtain ⟨_, y0, r0, c0⟩ := (Opn.int (ou3 H)) _ _ _ _ _ _ _ _ h0
  obtain ⟨x1, h1⟩ := hf 1 _ _ _ rfl
  obtain ⟨_, y1, r1, c1⟩ := (Opn.int (ou3 H)) _ _ _ _ _ _ _ _ h1
  obtain ⟨x2, h2⟩ := hf 2 _ _ _ rfl
  obtain ⟨_, y2, r2, c2⟩ := (Opn.int (ou3 H)) _ _ _ _ _ _ _ _ h2
  obtain ⟨x3, h3⟩ := hf 3 _ _ _ rfl
  obtain ⟨_, y3, r3, c3⟩ := (Opn.int (ou3 H)) _ _ _ _ _ _ _ _ h3
  obtain ⟨x4, h4⟩ := hf 4 _ _ _ rfl
  obtain ⟨_, y4, r4, c4⟩ := (Opn.int (ou3 H)) _ _ _ _ _ _ _ _ h4
  exact ⟨hl, ⟨y0, y1, y2, y3, y4⟩, ⟨r0, r1, r2, r3, r4, trivial⟩, ze.tile c0 (ze.tile c1 (ze.tile c2 (ze.tile c3 (ze.tile c4 (ze.tile0 hl)))))⟩
theorem zt5 {P : Program} (H : P = Try.prog) : Opn P 133 3 zbj zue := by
  intro H' enc w sp held fuel cs x h
  obtain ⟨hl, m, hf⟩ := z3j (zxd H) h
  replace hl : cs.length = 3 := hl.trans (zv9 H)
  obtain ⟨x0, h0⟩ := hf 0 _ _ _ rfl
  obtain ⟨_, y0, r0, c0⟩ := (Opn.int (ou3 H)) _ _ _ _ _ _ _ _ h0
  obtain ⟨x1, h1⟩ := hf 1 _ _ _ rfl
  obtain ⟨_, y1, r1, c1⟩ := (Opn.int (ou3 H)) _ _ _ _ _ _ _ _ h1
  obtain ⟨x2, h2⟩ := hf 2 _ _ _ rfl
  obtain ⟨_, y2, r2, c2⟩ := (Opn.int (ou3 H)) _ _ _ _ _ _ _ _ h2
  exact ⟨hl, ⟨y0, y1, y2⟩, ⟨r0, r1, r2, trivial⟩, ze.tile c0 (ze.tile c1 (ze.tile c2 (ze.tile0 hl)))⟩
theorem zsd {P : Program} (H : P = Try.prog) : Opn P 149 3 z9g zvs := by
  intro H' enc w sp held fuel cs x h
  obtain ⟨hl, m, hf⟩ := z3j (zww H) h
  replace hl : cs.length = 3 := hl.trans (zvu H)
  obtain ⟨x0, h0⟩ := hf 0 _ _ _ rfl
  obtain ⟨_, y0, r0, c0⟩ := (Opn.int (ou3 H)) _ _ _ _ _ _ _ _ h0
  obtain ⟨x1, h1⟩ := hf 1 _ _ _ rfl
  obtain ⟨_, y1, r1, c1⟩ := (Opn.int (ou3 H)) _ _ _ _ _ _ _ _ h1
  obtain ⟨x2, h2⟩ := hf 2 _ _ _ rfl
  obtain ⟨_, y2, r2, c2⟩ := (Opn.int (ou3 H)) _ _ _ _ _ _ _ _ h2
  exact ⟨hl, ⟨y0, y1, y2⟩, ⟨r0, r1, r2, trivial⟩, ze.tile c0 (ze.tile c1 (ze.tile c2 (ze.tile0 hl)))⟩
theorem zpk {P : Program} (H : P = Try.prog) : Opn P 31 4 z70 zrn := by
  intro H' enc w sp held fuel cs x h
  obtain ⟨hl, m, hf⟩ := z3j (of31 H) h
  replace hl : cs.length = 4 := hl.trans (oc31 H)
  obtain ⟨x0, h0⟩ := hf 0 _ _ _ rfl
  obtain ⟨_, y0, r0, c0⟩ := (Opn.slice (ou26 H) (zvq H) (by decide) (zjz H)) _ _ _ _ _ _ _ _ h0
  obtain ⟨x1, h1⟩ := hf 1 _ _ _ rfl
  obtain ⟨_, y1, r1, c1⟩ := (Opn.slice (ou27 H) (oc66 H) (by decide) (zq8 H)) _ _ _ _ _ _ _ _ h1
  obtain ⟨x2, h2⟩ := hf 2 _ _ _ rfl
  obtain ⟨_, y2, r2, c2⟩ := (Opn.slice (ou28 H) (zv9 H) (by decide) (zt5 H)) _ _ _ _ _ _ _ _ h2
  obtain ⟨x3, h3⟩ := hf 3 _ _ _ rfl
  obtain ⟨_, y3, r3, c3⟩ := (Opn.slice (ou29 H) (zvu H) (by decide) (zsd H)) _ _ _ _ _ _ _ _ h3
  exact ⟨hl, ⟨y0, y1, y2, y3⟩, ⟨r0, r1, r2, r3, trivial⟩, ze.tile c0 (ze.tile c1 (ze.tile c2 (ze.tile c3 (ze.tile0 hl))))⟩
theorem zo2 {P : Program} (H : P = Try.prog) : Opn P 119 3 z87 zod := by
  intro H' enc w sp held fuel cs x h
  obtain ⟨hl, m, hf⟩ := z3j (zwl H) h
  replace hl : cs.length = 3 := hl.trans (zu6 H)
  obtain ⟨x0, h0⟩ := hf 0 _ _ _ rfl
  obtain ⟨_, y0, r0, c0⟩ := (Opn.int (ou3 H)) _ _ _ _ _ _ _ _ h0
  obtain ⟨x1, h1⟩ := hf 1 _ _ _ rfl
  obtain ⟨_, y1, r1, c1⟩ := (Opn.int (ou3 H)) _ _ _ _ _ _ _ _ h1
  obtain ⟨x2, h2⟩ := hf 2 _ _ _ rfl
  obtain ⟨_, y2, r2, c2⟩ := (Opn.int (ou3 H)) _ _ _ _ _ _ _ _ h2
  exact ⟨hl, ⟨y0, y1, y2⟩, ⟨r0, r1, r2, trivial⟩, ze.tile c0 (ze.tile c1 (ze.tile c2 (ze.tile0 hl)))⟩
theorem zmy {P : Program} (H : P = Try.prog) : Opn P 122 1 z3b zm6 := by
  intro H' enc w sp held fuel cs x h
  obtain ⟨hl, m, hf⟩ := z3j (zwq H) h
  replace hl : cs.length = 1 := hl.trans (zvi H)
  obtain ⟨x0, h0⟩ := hf 0 _ _ _ rfl
  obtain ⟨_, y0, r0, c0⟩ := (Opn.int (ou3 H)) _ _ _ _ _ _ _ _ h0
  exact ⟨hl, ⟨y0⟩, ⟨r0, trivial⟩, ze.tile c0 (ze.tile0 hl)⟩
theorem zsk {P : Program} (H : P = Try.prog) : Opn P 62 2 zj7 zv6 := by
  intro H' enc w sp held fuel cs x h
  obtain ⟨hl, m, hf⟩ := z3j (of62 H) h
  replace hl : cs.length = 2 := hl.trans (oc62 H)
  obtain ⟨x0, h0⟩ := hf 0 _ _ _ rfl
  obtain ⟨_, y0, r0, c0⟩ := (Opn.int (ou3 H)) _ _ _ _ _ _ _ _ h0
  obtain ⟨x1, h1⟩ := hf 1 _ _ _ rfl
  obtain ⟨_, y1, r1, c1⟩ := (Opn.int (ou3 H)) _ _ _ _ _ _ _ _ h1
  exact ⟨hl, ⟨y0, y1⟩, ⟨r0, r1, trivial⟩, ze.tile c0 (ze.tile c1 (ze.tile0 hl))⟩
theorem zl5 {P : Program} (H : P = Try.prog) : Opn P 105 15 z6q zkv := by
  intro H' enc w sp held fuel cs x h
  obtain ⟨hl, m, hf⟩ := z3j (zx9 H) h
  replace hl : cs.length = 15 := hl.trans (zwn H)
  obtain ⟨x0, h0⟩ := hf 0 _ _ _ rfl
  obtain ⟨_, y0, r0, c0⟩ := (Opn.array (zwv H) (oc62 H) (zxi H) rfl (zsk H)) _ _ _ _ _ _ _ _ h0
  obtain ⟨x1, h1⟩ := hf 1 _ _ _ rfl
  obtain ⟨_, y1, r1, c1⟩ := (Opn.slice (ou96 H) (oc3 H) (by decide) (Opn.int (ou3 H))) _ _ _ _ _ _ _ _ h1
  exact ⟨hl, ⟨y0, y1⟩, ⟨r0, r1, trivial⟩, ze.of_eq (ze.tile c0 (ze.tile c1 (ze.tile0 hl))) (by simp [z6q])⟩
theorem zi4 {P : Program} (H : P = Try.prog) : Opn P 107 16 z0y zfp := by
  intro H' enc w sp held fuel cs x h
  obtain ⟨hl, m, hf⟩ := z3j (zwk H) h
  replace hl : cs.length = 16 := hl.trans (zux H)
  obtain ⟨x0, h0⟩ := hf 0 _ _ _ rfl
  obtain ⟨_, y0, r0, c0⟩ := (Opn.int (ou41 H)) _ _ _ _ _ _ _ _ h0
  obtain ⟨x1, h1⟩ := hf 1 _ _ _ rfl
  obtain ⟨_, y1, r1, c1⟩ := (zl5 H) _ _ _ _ _ _ _ _ h1
  exact ⟨hl, ⟨y0, y1⟩, ⟨r0, r1, trivial⟩, ze.of_eq (ze.tile c0 (ze.tile c1 (ze.tile0 hl))) (by simp [z6q, z0y])⟩
theorem zs4 {P : Program} (H : P = Try.prog) : Opn P 36 9 z1l zx1 := by
  intro H' enc w sp held fuel cs x h
  obtain ⟨hl, m, hf⟩ := z3j (of36 H) h
  replace hl : cs.length = 9 := hl.trans (oc36 H)
  obtain ⟨x0, h0⟩ := hf 0 _ _ _ rfl
  obtain ⟨_, y0, r0, c0⟩ := (zna H) _ _ _ _ _ _ _ _ h0
  obtain ⟨x1, h1⟩ := hf 1 _ _ _ rfl
  obtain ⟨_, y1, r1, c1⟩ := (zpk H) _ _ _ _ _ _ _ _ h1
  obtain ⟨x2, h2⟩ := hf 2 _ _ _ rfl
  obtain ⟨_, y2, r2, c2⟩ := (Opn.slice (ou32 H) (zu6 H) (by decide) (zo2 H)) _ _ _ _ _ _ _ _ h2
  obtain ⟨x3, h3⟩ := hf 3 _ _ _ rfl
  obtain ⟨_, y3, r3, c3⟩ := (Opn.slice (ou33 H) (zvi H) (by decide) (zmy H)) _ _ _ _ _ _ _ _ h3
  obtain ⟨x4, h4⟩ := hf 4 _ _ _ rfl
  obtain ⟨_, y4, r4, c4⟩ := (Opn.slice (ou34 H) (zux H) (by decide) (zi4 H)) _ _ _ _ _ _ _ _ h4
  exact ⟨hl, ⟨y0, y1, y2, y3, y4⟩, ⟨r0, r1, r2, r3, r4, trivial⟩, ze.tile c0 (ze.tile c1 (ze.tile c2 (ze.tile c3 (ze.tile c4 (ze.tile0 hl)))))⟩
theorem zo6 {P : Program} (H : P = Try.prog) : Opn P 43 2 eRef RRef := by
  intro H' enc w sp held fuel cs x h
  obtain ⟨hl, m, hf⟩ := z3j (of43 H) h
  replace hl : cs.length = 2 := hl.trans (oc43 H)
  obtain ⟨x0, h0⟩ := hf 0 _ _ _ rfl
  obtain ⟨_, y0, r0, c0⟩ := (Opn.int (ou3 H)) _ _ _ _ _ _ _ _ h0
  obtain ⟨x1, h1⟩ := hf 1 _ _ _ rfl
  obtain ⟨_, y1, r1, c1⟩ := (Opn.int (ou3 H)) _ _ _ _ _ _ _ _ h1
  exact ⟨hl, ⟨y0, y1⟩, ⟨r0, r1, trivial⟩, ze.tile c0 (ze.tile c1 (ze.tile0 hl))⟩
theorem zsa {P : Program} (H : P = Try.prog) : Opn P 163 3 zb6 zwb := by
  intro H' enc w sp held fuel cs x h
  obtain ⟨hl, m, hf⟩ := z3j (zwx H) h
  replace hl : cs.length = 3 := hl.trans (zw5 H)
  obtain ⟨x0, h0⟩ := hf 0 _ _ _ rfl
  obtain ⟨_, y0, r0, c0⟩ := (Opn.int (ou3 H)) _ _ _ _ _ _ _ _ h0
  obtain ⟨x1, h1⟩ := hf 1 _ _ _ rfl
  obtain ⟨_, y1, r1, c1⟩ := (Opn.int (ou3 H)) _ _ _ _ _ _ _ _ h1
  obtain ⟨x2, h2⟩ := hf 2 _ _ _ rfl
  obtain ⟨_, y2, r2, c2⟩ := (Opn.bool (ou4 H)) _ _ _ _ _ _ _ _ h2
  exact ⟨hl, ⟨y0, y1, y2⟩, ⟨r0, r1, r2, trivial⟩, ze.tile c0 (ze.tile c1 (ze.tile c2 (ze.tile0 hl)))⟩
theorem zt4 {P : Program} (H : P = Try.prog) : Opn P 46 16 z99 zu9 := by
  intro H' enc w sp held fuel cs x h
  obtain ⟨hl, m, hf⟩ := z3j (of46 H) h
  replace hl : cs.length = 16 := hl.trans (oc46 H)
  obtain ⟨x0, h0⟩ := hf 0 _ _ _ rfl
  obtain ⟨_, y0, r0, c0⟩ := (Opn.int (ou3 H)) _ _ _ _ _ _ _ _ h0
  obtain ⟨x1, h1⟩ := hf 1 _ _ _ rfl
  obtain ⟨_, y1, r1, c1⟩ := (zo6 H) _ _ _ _ _ _ _ _ h1
  obtain ⟨x2, h2⟩ := hf 2 _ _ _ rfl
  obtain ⟨_, y2, r2, c2⟩ := (Opn.int (ou3 H)) _ _ _ _ _ _ _ _ h2
  obtain ⟨x3, h3⟩ := hf 3 _ _ _ rfl
  obtain ⟨_, y3, r3, c3⟩ := (Opn.int (ou3 H)) _ _ _ _ _ _ _ _ h3
  obtain ⟨x4, h4⟩ := hf 4 _ _ _ rfl
  obtain ⟨_, y4, r4, c4⟩ := (Opn.int (ou3 H)) _ _ _ _ _ _ _ _ h4
  obtain ⟨x5, h5⟩ := hf 5 _ _ _ rfl
  obtain ⟨_, y5, r5, c5⟩ := (Opn.int (ou3 H)) _ _ _ _ _ _ _ _ h5
  obtain ⟨x6, h6⟩ := hf 6 _ _ _ rfl
  obtain ⟨_, y6, r6, c6⟩ := (Opn.int (ou3 H)) _ _ _ _ _ _ _ _ h6
  obtain ⟨x7, h7⟩ := hf 7 _ _ _ rfl
  obtain ⟨_, y7, r7, c7⟩ := (Opn.int (ou3 H)) _ _ _ _ _ _ _ _ h7
  obtain ⟨x8, h8⟩ := hf 8 _ _ _ rfl
  obtain ⟨_, y8, r8, c8⟩ := (Opn.int (ou3 H)) _ _ _ _ _ _ _ _ h8
  obtain ⟨x9, h9⟩ := hf 9 _ _ _ rfl
  obtain ⟨_, y9, r9, c9⟩ := (Opn.int (ou3 H)) _ _ _ _ _ _ _ _ h9
  obtain ⟨x10, h10⟩ := hf 10 _ _ _ rfl
  obtain ⟨_, y10, r10, c10⟩ := (Opn.int (ou3 H)) _ _ _ _ _ _ _ _ h10
  obtain ⟨x11, h11⟩ := hf 11 _ _ _ rfl
  obtain ⟨_, y11, r11, c11⟩ := (Opn.int (ou3 H)) _ _ _ _ _ _ _ _ h11
  obtain ⟨x12, h12⟩ := hf 12 _ _ _ rfl
  obtain ⟨_, y12, r12, c12⟩ := (Opn.int (ou3 H)) _ _ _ _ _ _ _ _ h12
  obtain ⟨x13, h13⟩ := hf 13 _ _ _ rfl
  obtain ⟨_, y13, r13, c13⟩ := (Opn.string (ou9 H)) _ _ _ _ _ _ _ _ h13
  obtain ⟨x14, h14⟩ := hf 14 _ _ _ rfl
  obtain ⟨_, y14, r14, c14⟩ := (Opn.slice (ou44 H) (zw5 H) (by decide) (zsa H)) _ _ _ _ _ _ _ _ h14
  exact ⟨hl, ⟨y0, y1, y2, y3, y4, y5, y6, y7, y8, y9, y10, y11, y12, y13, y14⟩, ⟨r0, r1, r2, r3, r4, r5, r6, r7, r8, r9, r10, r11, r12, r13, r14, trivial⟩, ze.tile c0 (ze.tile c1 (ze.tile c2 (ze.tile c3 (ze.tile c4 (ze.tile c5 (ze.tile c6 (ze.tile c7 (ze.tile c8 (ze.tile c9 (ze.tile c10 (ze.tile c11 (ze.tile c12 (ze.tile c13 (ze.tile c14 (ze.tile0 hl)))))))))))))))⟩
theorem zo0 {P : Program} (H : P = Try.prog) : Opn P 48 21 za zsv := by
  intro H' enc w sp held fuel cs x h
  obtain ⟨hl, m, hf⟩ := z3j (of48 H) h
  replace hl : cs.length = 21 := hl.trans (oc48 H)
  obtain ⟨x0, h0⟩ := hf 0 _ _ _ rfl
  obtain ⟨_, y0, r0, c0⟩ := (zo6 H) _ _ _ _ _ _ _ _ h0
  obtain ⟨x1, h1⟩ := hf 1 _ _ _ rfl
  obtain ⟨_, y1, r1, c1⟩ := (zo6 H) _ _ _ _ _ _ _ _ h1
  obtain ⟨x2, h2⟩ := hf 2 _ _ _ rfl
  obtain ⟨_, y2, r2, c2⟩ := (Opn.int (ou3 H)) _ _ _ _ _ _ _ _ h2
  obtain ⟨x3, h3⟩ := hf 3 _ _ _ rfl
  obtain ⟨_, y3, r3, c3⟩ := (zt4 H) _ _ _ _ _ _ _ _ h3
  exact ⟨hl, ⟨y0, y1, y2, y3⟩, ⟨r0, r1, r2, r3, trivial⟩, ze.tile c0 (ze.tile c1 (ze.tile c2 (ze.tile c3 (ze.tile0 hl))))⟩
end Px
end
section
namespace Px
open Go
set_option linter.unusedVariables false
set_option linter.unusedSimpArgs false
/-- A loop that counts up. -/
theorem znj {σ ρ : Type} (L : Nat → Int → σ → Option ρ) (len : Nat) (Inv : Nat → σ → Prop) (G : Option ρ → Prop)
    (step : ∀ n i s, i < len → Inv i s → (∀ s', Inv (i + 1) s' → G (L n ((i : Int) + 1) s')) → G (L (n + 1) i s))
    (done : ∀ n s, Inv len s → G (L (n + 1) len s)) : ∀ n i s, i ≤ len → Inv i s → len - i < n → G (L n i s) := by
  intro n
  induction n with
  | zero => intro i s _ _ h; omega
  | succ n ih =>
    intro i s hi hI hn
    by_cases h : i = len
    · subst h; exact done n s hI
    · refine step n i s (by omega) hI fun s' hs' => ?_
      have := ih (i + 1) s' (by omega) hs' (by omega)
      simpa using this
/-- The same from the start. -/
theorem z5a {σ ρ : Type} (L : Nat → Int → σ → Option ρ) (len : Nat) (Inv : Nat → σ → Prop) (G : Option ρ → Prop)
    (step : ∀ n i s, i < len → Inv i s → (∀ s', Inv (i + 1) s' → G (L n ((i : Int) + 1) s')) → G (L (n + 1) i s))
    (done : ∀ n s, Inv len s → G (L (n + 1) len s)) (n : Nat) (s : σ) (h : Inv 0 s) (hn : len < n) : G (L n 0 s) := by
  simpa using znj L len Inv G step done n 0 s (Nat.zero_le _) h (by omega)
theorem zx3 (x : Int) : W x = if x % 18446744073709551616 ≥ 9223372036854775808 then x % 18446744073709551616 - 18446744073709551616 else x % 18446744073709551616 := by
  simp [W, IntKind.wrap, IntKind.bits, IntKind.signed]
theorem zng (x : Int) : U x = x % 18446744073709551616 := by
  simp [U, IntKind.wrap, IntKind.bits, IntKind.signed]
theorem W_id {x : Int} (h : -9223372036854775808 ≤ x) (h' : x ≤ 9223372036854775807) : W x = x := by
  rw [zx3]; split <;> omega
theorem U_id {x : Int} (h : 0 ≤ x) (h' : x ≤ 18446744073709551615) : U x = x := by
  rw [zng]; omega
theorem zea {α : Type} [Inhabited α] (ok : α → Bool) (l : List α) (i : Nat) (h : i < l.length) : (l.take (i + 1)).all ok = ((l.take i).all ok && ok (gt l (i : Int))) := by
  rw [List.take_succ_eq_append_getElem h, List.all_append]
  simp [gt, h]
theorem zat {α : Type} [Inhabited α] (ok : α → Bool) (l : List α) (i : Nat) (h : i < l.length) : (l.take (i + 1)).any ok = ((l.take i).any ok || ok (gt l (i : Int))) := by
  rw [List.take_succ_eq_append_getElem h, List.any_append]
  simp [gt, h]
theorem zbr {α : Type} [Inhabited α] (l : List α) (i : Nat) (h : i < l.length) : l.take (i + 1) = l.take i ++ [gt l (i : Int)] := by
  rw [List.take_succ_eq_append_getElem h]
  simp [gt, h]
theorem zbt {α : Type} [Inhabited α] {l : List α} {i : Int} (h0 : 0 ≤ i) (h : i < (l.length : Int)) : gt l i ∈ l := by
  have hlt : i.toNat < l.length := by omega
  simp [gt, hlt]
theorem zqx {α : Type} [Inhabited α] {l : List α} {i : Nat} (h : i < l.length) : gt l (i : Int) = l[i] := by
  simp [gt, h]
theorem zlm {α : Type} [Inhabited α] (l : List α) (i : Nat) (h : i < l.length) : l.drop i = gt l (i : Int) :: l.drop (i + 1) := by
  rw [zqx h, List.getElem_cons_drop]
theorem zop {α : Type} (l : List α) (i : Int) (x : α) : (z32 l i x).length = l.length := by simp [z32]
theorem zqe {α : Type} [Inhabited α] (l : List α) (i j : Int) (x : α) (hi : 0 ≤ i) (h : i < (l.length : Int)) (hj : 0 ≤ j) : gt (z32 l i x) j = if j = i then x else gt l j := by
  unfold gt z32
  by_cases e : j = i
  · subst e
    have : j.toNat < l.length := by omega
    simp [List.getD, List.getElem?_set, this]
  · have : i.toNat ≠ j.toNat := by omega
    simp [List.getD, List.getElem?_set, this, e]
theorem zjx {α : Type} [Inhabited α] (n : Nat) (x : α) (j : Int) (hj : 0 ≤ j) (h : j < n) : gt (List.replicate n x) j = x := by
  have : j.toNat < n := by omega
  simp [gt, List.getD, List.getElem?_replicate, this]
theorem z8m {α : Type} [Inhabited α] (l m : List α) (j : Int) (h0 : 0 ≤ j) (h : j < (l.length : Int)) : gt (l ++ m) j = gt l j := by
  have : j.toNat < l.length := by omega
  simp [gt, List.getD, List.getElem?_append, this]
theorem z7b {α : Type} [Inhabited α] (l m : List α) (j : Int) (h : (l.length : Int) ≤ j) : gt (l ++ m) j = gt m (j - l.length) := by
  have : ¬ j.toNat < l.length := by omega
  have e : (j - l.length).toNat = j.toNat - l.length := by omega
  simp [gt, List.getD, List.getElem?_append, this, e]
/-- A loop over a list that remembers whether all its elements were in order. -/
theorem zgc {α ρ : Type} [Inhabited α] (L : Nat → Int → Int → Option ρ) (k : Int → Option ρ) (l : List α) (ok : α → Bool)
    (step : ∀ (n i : Nat) (s : Int), i < l.length → L (n + 1) i s = L n ((i : Int) + 1) (bif ok (gt l i) then s else 1)) (done : ∀ n s, L (n + 1) l.length s = k s) :
    ∀ n s, l.length < n → L n 0 s = k (bif l.all ok then s else 1) := by
  intro n s hn
  refine znj L l.length (fun i t => t = bif (l.take i).all ok then s else 1) (fun o => o = k (bif l.all ok then s else 1)) ?_ ?_ n 0 s (Nat.zero_le _) (by simp) (by omega)
  · intro n i t hi ht hs
    rw [step n i t hi]
    refine hs _ ?_
    rw [zea ok l i hi, ht]
    cases (l.take i).all ok <;> cases ok (gt l (i : Int)) <;> simp
  · intro n t ht
    rw [done, ht, List.take_length]
/-- A loop over a list that ends at the first element of a kind. -/
theorem zot {α ρ : Type} [Inhabited α] (L : Nat → Int → Option ρ) (k : Option ρ) (l : List α) (p : α → Bool) (g : α → Option ρ)
    (step : ∀ n i : Nat, i < l.length → L (n + 1) i = bif p (gt l i) then g (gt l i) else L n ((i : Int) + 1)) (done : ∀ n, L (n + 1) l.length = k) :
    ∀ n, l.length < n → L n 0 = match l.find? p with | some x => g x | none => k := by
  intro n hn
  refine z5a (fun n i (_ : Unit) => L n i) l.length (fun i _ => ∀ x ∈ l.take i, p x = false) (fun o => o = match l.find? p with | some x => g x | none => k) ?_ ?_ n () (by simp) hn
  · intro n i _ hi hI hs
    simp only [step n i hi]
    cases e : p (gt l (i : Int)) with
    | false =>
      refine hs () ?_
      rw [zbr l i hi]
      intro x hx
      rcases List.mem_append.1 hx with h | h
      · exact hI x h
      · simp at h; rw [h]; exact e
    | true =>
      have : l.find? p = some (gt l (i : Int)) := by
        have h1 : l = l.take i ++ (gt l (i : Int) :: l.drop (i + 1)) := by
          rw [zqx hi, List.getElem_cons_drop, List.take_append_drop]
        generalize gt l (i : Int) = y at *
        rw [h1, List.find?_append, List.find?_eq_none.2 (fun x hx => by simp [hI x hx])]
        simp [List.find?_cons, e]
      rw [this]; rfl
  · intro n _ hI
    simp only [done]
    rw [List.take_length] at hI
    rw [List.find?_eq_none.2 (fun x hx => by simp [hI x hx])]
theorem zqa {α ρ : Type} (l : List α) (p : α → Bool) (r k : ρ) : (match l.find? p with | some _ => r | none => k) = bif l.any p then r else k := by
  induction l with
  | nil => rfl
  | cons x l ih =>
    rw [List.find?_cons, List.any_cons]
    cases p x
    · simpa using ih
    · rfl
theorem z8z {α ρ : Type} [Inhabited α] (L : Nat → Int → Option ρ) (k r : Option ρ) (l : List α) (p : α → Bool)
    (step : ∀ n i : Nat, i < l.length → L (n + 1) i = bif p (gt l i) then r else L n ((i : Int) + 1)) (done : ∀ n, L (n + 1) l.length = k)
    (n : Nat) (hn : l.length < n) : L n 0 = bif l.any p then r else k := by
  rw [zot L k l p (fun _ => r) step done n hn, zqa]
def bet (a b c : Int) : Bool := decide (b ≤ a) && decide (a ≤ c)
theorem zll {a b c : Int} : bet a b c = true ↔ b ≤ a ∧ a ≤ c := by simp [bet]
theorem zn9 {a b c : Int} (h : bet a b c = true) : b ≤ a ∧ a ≤ c := zll.1 h
theorem mk_t (n : Int) (b : Nat) (h0 : 0 ≤ n) (h : n ≤ 100000) (hb : b ≤ 1000000) : zn2 n b := by
  refine ⟨h0, ?_, by omega⟩
  have : (b : Int) * n ≤ 1000000 * 100000 := Int.mul_le_mul (by omega) h h0 (by omega)
  omega
theorem zjo {a b : Bool} : (a || b) = false ↔ a = false ∧ b = false := by cases a <;> cases b <;> simp
theorem zs6 {x y z : Int} : min2 x y < z ↔ x < z ∨ y < z := by unfold min2; split <;> omega
end Px
end
section
namespace Px
open Go
set_option linter.unusedVariables false
set_option linter.unusedSimpArgs false
structure Swo {α : Type} (lt : α → α → Bool) : Prop where
  asym : ∀ a b, lt a b = true → lt b a = false
  ntr : ∀ a b c, lt a b = false → lt b c = false → lt a c = false
def Srt {α : Type} (lt : α → α → Bool) (l : List α) : Prop := l.Pairwise fun a b => lt b a = false
def eqv2 {α : Type} (lt : α → α → Bool) (a b : α) : Bool := !lt a b && !lt b a
def Stb {α : Type} (lt : α → α → Bool) (l r : List α) : Prop := r.Perm l ∧ ∀ a, r.filter (eqv2 lt a) = l.filter (eqv2 lt a)
section
variable {α : Type} {lt : α → α → Bool}
theorem Swo.irr (h : Swo lt) (a : α) : lt a a = false := by
  cases e : lt a a with
  | false => rfl
  | true => exact (h.asym a a e).symm.trans e |>.symm
theorem zga {a b : α} : eqv2 lt a b = true ↔ lt a b = false ∧ lt b a = false := by simp [eqv2]
theorem Stb.refl (l : List α) : Stb lt l l := ⟨.refl _, fun _ => rfl⟩
theorem Stb.trans {a b c : List α} (h : Stb lt a b) (h' : Stb lt b c) : Stb lt a c := ⟨h'.1.trans h.1, fun x => (h'.2 x).trans (h.2 x)⟩
theorem Stb.app {a b c d : List α} (h : Stb lt a b) (h' : Stb lt c d) : Stb lt (a ++ c) (b ++ d) := ⟨h.1.append h'.1, fun x => by simp only [List.filter_append, h.2 x, h'.2 x]⟩
theorem Stb.mem {l r : List α} (h : Stb lt l r) {x : α} : x ∈ r ↔ x ∈ l := h.1.mem_iff
theorem Stb.len {l r : List α} (h : Stb lt l r) : r.length = l.length := h.1.length_eq
theorem zju (a : α) {X : List α} (h : ∀ x ∈ X, eqv2 lt a x = false) : X.filter (eqv2 lt a) = [] := by
  rw [List.filter_eq_nil_iff]; intro x hx; simp [h x hx]
theorem Stb.swap (hs : Swo lt) {X Y : List α} (h : ∀ x ∈ X, ∀ y ∈ Y, lt y x = true) : Stb lt (X ++ Y) (Y ++ X) := by
  refine ⟨List.perm_append_comm, fun a => ?_⟩
  simp only [List.filter_append]
  by_cases hx : ∃ x ∈ X, eqv2 lt a x = true
  · obtain ⟨x, hx, ex⟩ := hx
    have : Y.filter (eqv2 lt a) = [] := zju a fun y hy => by
      cases e : eqv2 lt a y with
      | false => rfl
      | true =>
        have h1 := zga.1 e
        have h2 := zga.1 ex
        have := hs.ntr y a x h1.2 h2.1
        rw [h x hx y hy] at this; cases this
    rw [this]; simp
  · have : X.filter (eqv2 lt a) = [] := zju a fun x hx' => by
      cases e : eqv2 lt a x with
      | false => rfl
      | true => exact absurd ⟨x, hx', e⟩ hx
    rw [this]; simp
theorem Srt.app {a b : List α} (h : Srt lt a) (h' : Srt lt b) (hc : ∀ x ∈ a, ∀ y ∈ b, lt y x = false) : Srt lt (a ++ b) := List.pairwise_append.2 ⟨h, h', hc⟩
theorem Srt.parts {a b : List α} (h : Srt lt (a ++ b)) : Srt lt a ∧ Srt lt b ∧ ∀ x ∈ a, ∀ y ∈ b, lt y x = false := List.pairwise_append.1 h
theorem Srt.unique (hs : Swo lt) : ∀ {r r' : List α}, Srt lt r → Srt lt r' → Stb lt r r' → r = r'
  | [], r', _, _, h => by
    have := h.len; simp at this; exact this.symm
  | x :: r, r', hr, hr', h => by
    cases r' with
    | nil => have := h.len; simp at this
    | cons y r' =>
      have hr1 := List.pairwise_cons.1 hr
      have hr2 := List.pairwise_cons.1 hr'
      have h1 : lt y x = false := by
        rcases List.mem_cons.1 (h.mem.1 (List.mem_cons_self (a := y))) with e | e
        · rw [e]; exact hs.irr _
        · exact hr1.1 y e
      have h2 : lt x y = false := by
        rcases List.mem_cons.1 (h.mem.2 (List.mem_cons_self (a := x))) with e | e
        · rw [e]; exact hs.irr _
        · exact hr2.1 x e
      have e1 : eqv2 lt x x = true := zga.2 ⟨hs.irr _, hs.irr _⟩
      have e2 : eqv2 lt x y = true := zga.2 ⟨h2, h1⟩
      have hf := h.2 x
      rw [List.filter_cons_of_pos e1, List.filter_cons_of_pos e2] at hf
      have hxy : y = x := (List.cons.inj hf).1
      subst hxy
      congr 1
      refine Srt.unique hs hr1.2 hr2.2 ⟨(List.perm_cons _).1 h.1, fun a => ?_⟩
      have := h.2 a
      simp only [List.filter_cons] at this
      split at this
      · exact (List.cons.inj this).2
      · exact this
/-- Merging by parts. -/
theorem za4 (hs : Swo lt) {A B C E R1 R2 : List α} (h1 : Srt lt (A ++ B)) (h2 : Srt lt (C ++ E)) (hA : ∀ x ∈ B, ∀ y ∈ C, lt y x = true) (hB : ∀ x ∈ A, ∀ y ∈ E, lt y x = false)
    (s1 : Srt lt R1) (t1 : Stb lt (A ++ C) R1) (s2 : Srt lt R2) (t2 : Stb lt (B ++ E) R2) : Srt lt (R1 ++ R2) ∧ Stb lt ((A ++ B) ++ (C ++ E)) (R1 ++ R2) := by
  refine ⟨s1.app s2 fun u hu v hv => ?_, ?_⟩
  · have hu := List.mem_append.1 (t1.mem.1 hu)
    have hv := List.mem_append.1 (t2.mem.1 hv)
    rcases hu with hu | hu <;> rcases hv with hv | hv
    · exact h1.parts.2.2 u hu v hv
    · exact hB u hu v hv
    · exact hs.asym _ _ (hA v hv u hu)
    · exact h2.parts.2.2 u hu v hv
  · have : Stb lt ((A ++ B) ++ (C ++ E)) ((A ++ C) ++ (B ++ E)) := by
      have := ((Stb.refl (lt := lt) A).app (Stb.swap hs hA)).app (Stb.refl E)
      simpa [List.append_assoc] using this
    exact this.trans (t1.app t2)
theorem zaw (hs : Swo lt) {y c x b : α} (h1 : lt c y = false) (h2 : lt c b = true) (h3 : lt x b = false) : lt y x = true := by
  cases e : lt y x with
  | true => rfl
  | false =>
    have := hs.ntr _ _ _ (hs.ntr _ _ _ h1 e) h3
    rw [h2] at this; cases this
theorem zh2 (hs : Swo lt) {y e x a : α} (h1 : lt y e = false) (h2 : lt e a = false) (h3 : lt a x = false) : lt y x = false := hs.ntr _ _ _ (hs.ntr _ _ _ h1 h2) h3
/-- Inserting after all that are not later. -/
theorem zfe (hs : Swo lt) {A B : List α} {x : α} (h : ∀ y ∈ B, lt x y = true) : Stb lt (A ++ B ++ [x]) (A ++ [x] ++ B) := by
  have := (Stb.refl (lt := lt) A).app (Stb.swap hs (X := B) (Y := [x]) fun z hz y hy => by simp at hy; subst hy; exact h z hz)
  simpa [List.append_assoc] using this
/-- A binary search. -/
theorem zfb {ρ : Type} (L : Nat → Int → Int → Option ρ) (k : Int → Option ρ) (pred : Nat → Bool) (R : Nat) (s0 : Nat)
    (step : ∀ n s r : Nat, s0 ≤ s → s < r → r ≤ R → L (n + 1) s r = if pred ((s + r) / 2) = true then L n (((s + r) / 2 + 1 : Nat)) r else L n s ((s + r) / 2 : Nat)) (done : ∀ n s : Nat, L (n + 1) s s = k s) :
    ∀ n s r : Nat, s0 ≤ s → s ≤ r → r ≤ R → r - s < n → ∃ c : Nat, s ≤ c ∧ c ≤ r ∧ (c = s ∨ pred (c - 1) = true) ∧ (c = r ∨ pred c = false) ∧ L n s r = k c := by
  intro n
  induction n with
  | zero => intro s r _ _ _ h; omega
  | succ n ih =>
    intro s r h0 h hR hn
    by_cases e : s = r
    · subst e; exact ⟨s, Nat.le_refl _, Nat.le_refl _, .inl rfl, .inl rfl, done n s⟩
    · rw [step n s r h0 (by omega) hR]
      cases hp : pred ((s + r) / 2) with
      | true =>
        rw [if_pos rfl]
        obtain ⟨c, h1, h2, h3, h4, h5⟩ := ih ((s + r) / 2 + 1) r (by omega) (by omega) hR (by omega)
        refine ⟨c, by omega, h2, ?_, h4, h5⟩
        rcases h3 with h3 | h3
        · right; rw [h3]; simpa using hp
        · exact .inr h3
      | false =>
        rw [if_neg (by simp)]
        obtain ⟨c, h1, h2, h3, h4, h5⟩ := ih s ((s + r) / 2) h0 (by omega) (by omega) (by omega)
        refine ⟨c, h1, by omega, h3, ?_, h5⟩
        rcases h4 with h4 | h4
        · right; rw [h4]; exact hp
        · exact .inr h4
end
section arr
variable {α : Type} [Inhabited α]
theorem z8j {A B : List α} {x : α} {i : Int} (h : i = A.length) : gt (A ++ x :: B) i = x := by
  subst h; rw [z7b _ _ _ (Int.le_refl _)]; simp [gt]
omit [Inhabited α] in
theorem zaq {A B : List α} {x y : α} {i : Int} (h : i = A.length) : z32 (A ++ x :: B) i y = A ++ y :: B := by
  subst h; simp [z32]
theorem zi7 {n : Int} (h0 : 0 ≤ n) (h : n ≤ 4611686018427387904) : W ((U (W n)).fdiv 2) = n / 2 := by
  rw [W_id (x := n) (by omega) (by omega), U_id h0 (by omega), Int.fdiv_eq_ediv_of_nonneg _ (by omega), W_id (by omega) (by omega)]
end arr
/-- A comparing function answers on D, and says lt. -/
def Cmp {α : Type} (D : α → Prop) (y : α → α → Option Int) (lt : α → α → Bool) : Prop := ∀ a b, D a → D b → ∃ z, y a b = some z ∧ decide (z < 0) = lt a b
theorem zh0 {α : Type} [Inhabited α] {p : Prop} [Decidable p] {x : Option α} (h : p) : z39 p x = x := if_pos h
theorem zkz {α : Type} [Inhabited α] {p : Prop} [Decidable p] {x : Option α} (h : ¬ p) : z39 p x = some default := if_neg h
theorem z7j {α : Type} (l : List α) : l = [] ∨ ∃ S w, l = S ++ [w] := by
  rcases List.eq_nil_or_concat l with h | ⟨S, w, h⟩
  · exact .inl h
  · exact .inr ⟨S, w, by rw [h, List.concat_eq_append]⟩
/-- Sorted blocks of bs elements, the last one perhaps shorter. -/
inductive Runs {α : Type} (lt : α → α → Bool) (bs : Nat) : List α → Prop
  | last {l : List α} (h : l.length ≤ bs) (hs : Srt lt l) : Runs lt bs l
  | cons {b r : List α} (h : b.length = bs) (hs : Srt lt b) (hr : Runs lt bs r) : Runs lt bs (b ++ r)
theorem Runs.small {α : Type} {lt : α → α → Bool} {bs : Nat} {l : List α} (h : Runs lt bs l) (hl : l.length ≤ bs) : Srt lt l := by
  cases h with
  | last _ hs => exact hs
  | cons h hs hr =>
    rename_i b r
    have : r = [] := List.eq_nil_of_length_eq_zero (by simp at hl; omega)
    rw [this, List.append_nil]; exact hs
theorem Runs.big {α : Type} {lt : α → α → Bool} {bs : Nat} {l : List α} (h : Runs lt bs l) (hl : bs < l.length) : ∃ b r, l = b ++ r ∧ b.length = bs ∧ Srt lt b ∧ Runs lt bs r ∧ r ≠ [] := by
  cases h with
  | last h _ => omega
  | cons h hs hr =>
    rename_i b r
    exact ⟨b, r, rfl, h, hs, hr, by intro e; subst e; simp at hl; omega⟩
end Px
end
section
namespace Px
open Go
set_option linter.unusedVariables false
set_option linter.unusedSimpArgs false
def cmpI (a b : Int) : Int := if a < b then -1 else if b < a then 1 else 0
def orI : List Int → Int
  | [] => 0
  | x :: l => if x = 0 then orI l else x
theorem zl2 {a b : Int} : cmpI a b < 0 ↔ a < b := by unfold cmpI; split <;> (try split) <;> omega
theorem zli {a b : Int} : cmpI a b = 0 ↔ a = b := by unfold cmpI; split <;> (try split) <;> omega
theorem zm7 {x : Int} {l : List Int} : orI (x :: l) < 0 ↔ x < 0 ∨ x = 0 ∧ orI l < 0 := by
  simp only [orI]; split <;> omega
theorem zit : ¬ orI [] < 0 := by decide
theorem zby (φ : Nat) (a b : Int) : z6y φ a b = some (cmpI a b) := by
  simp only [z6y, zd2, bne_self_eq_false, Option.bind_some, Bool.false_eq_true, if_false, cmpI, decide_eq_true_eq]
  split
  · rfl
  · split <;> rfl
theorem zlt (φ : Nat) (l : List Int) (hl : l.length ≤ 1000000) : ∀ (n i : Nat), i ≤ l.length → l.length - i < n → zb5 φ l (zbg φ) n (i : Int) = some (orI (l.drop i)) := by
  intro n
  induction n with
  | zero => intro i _ h; omega
  | succ n ih =>
    intro i hi hn
    rw [zb5]
    by_cases h : i = l.length
    · rw [if_neg (by simp; omega), h, List.drop_length]; rfl
    · rw [if_pos (by simp; omega), zm ⟨by omega, by omega⟩, zlm l i (by omega)]
      have w : W ((i : Int) + 1) = ((i + 1 : Nat) : Int) := by rw [W_id (by omega) (by omega)]; simp
      rw [w, ih (i + 1) (by omega) (by omega)]
      simp only [orI]
      by_cases q : gt l (i : Int) = 0
      · rw [if_neg (by simp [q]), if_pos q]
      · rw [if_pos (by simp [q]), if_neg q]
theorem zgh (φ : Nat) (l : List Int) (hl : l.length ≤ 1000000) (hφ : l.length < φ) : zeh φ l = some (orI l) := by
  have := zlt φ l hl φ 0 (Nat.zero_le _) (by omega)
  simpa [zeh] using this
def refC (a b : Ref) : Int := orI [cmpI a.fRailway b.fRailway, cmpI a.fNo b.fNo]
theorem zje (φ : Nat) (hφ : 3 < φ) (a b : Ref) : z3x φ a b = some (refC a b) := by
  simp only [z3x, zby, Option.bind_some]
  rw [zgh φ _ (by simp) (by simp; omega)]
  rfl
def zq9 (l : List zl) (i k : Int) : Int := orI [cmpI (gt l i).fItem.fFrom (gt l k).fItem.fFrom, refC (gt l i).fRef (gt l k).fRef]
theorem zky (φ : Nat) (hφ : 3 < φ) (l : List zl) (i k : Int) (h1 : 0 ≤ i ∧ i < (l.length : Int)) (h2 : 0 ≤ k ∧ k < (l.length : Int)) : z4w φ i k l = some (zq9 l i k) := by
  unfold z4w
  rw [zm h1, zm h2]
  simp only [zby, zje φ hφ, Option.bind_some]
  rw [zgh φ _ (by simp) (by simp; omega)]
  rfl
def znh (a b : Ref) : Bool := decide (refC a b < 0)
def zhg (l : List zl) (i k : Int) : Bool := decide (zq9 l i k < 0)
theorem zj4 {a b : Ref} : refC a b < 0 ↔ a.fRailway < b.fRailway ∨ a.fRailway = b.fRailway ∧ a.fNo < b.fNo := by
  unfold refC; rw [zm7, zm7, zl2, zli, zl2, zli]; simp [zit]
theorem zma {l : List zl} {i k : Int} : zq9 l i k < 0 ↔ (gt l i).fItem.fFrom < (gt l k).fItem.fFrom ∨ (gt l i).fItem.fFrom = (gt l k).fItem.fFrom ∧ refC (gt l i).fRef (gt l k).fRef < 0 := by
  unfold zq9; rw [zm7, zm7, zl2, zli]; simp [zit]
theorem zlw : Swo znh := by
  constructor
  · intro a b h
    simp only [znh, decide_eq_true_eq, decide_eq_false_iff_not, zj4] at h ⊢; omega
  · intro a b c h h'
    simp only [znh, decide_eq_false_iff_not, zj4] at h h' ⊢; omega
theorem zgd (l : List zl) : Swo (zhg l) := by
  constructor
  · intro a b h
    simp only [zhg, decide_eq_true_eq, decide_eq_false_iff_not, zma, zj4] at h ⊢; omega
  · intro a b c h h'
    simp only [zhg, decide_eq_false_iff_not, zma, zj4] at h h' ⊢; omega
theorem zt2 (φ : Nat) (hφ : 3 < φ) : Cmp (fun _ => True) (fun a b => z3x φ a b) znh := fun a b _ _ => ⟨_, zje φ hφ a b, rfl⟩
theorem zpx (φ : Nat) (hφ : 3 < φ) (l : List zl) : Cmp (fun i => 0 ≤ i ∧ i < (l.length : Int)) (fun a b => z4w φ a b l) (zhg l) := fun a b h1 h2 => ⟨_, zky φ hφ l a b h1 h2, rfl⟩
end Px
end
section
namespace Px
open Go
set_option linter.unusedVariables false
set_option linter.unusedSimpArgs false
theorem Pool.eta' (p : Pool) : Pool.mk p.fNetwork p.fFleet p.fReaders p.fShippers p.fRailways = p := rfl
theorem Item.eta' (x : Item) : Item.mk x.fKind x.fRef x.fWagon x.fPlace x.fOther x.fNumber x.fFrom x.fTo x.fCode x.fDest x.fClass x.fWeight x.fAmount x.fText x.fParts = x := rfl
theorem zl.eta' (x : zl) : zl.mk x.fRef x.fBy x.fTime x.fItem = x := rfl
theorem zc8 {n b : Nat} (h : n ≤ 1000000) (hb : b ≤ 1000000) : fits n b := by
  have : n * b ≤ 1000000 * 1000000 := Nat.mul_le_mul h hb
  unfold fits
  first | omega | (constructor <;> omega)
def idxF {α : Type} [Inhabited α] (p : α → Bool) (l : List α) : List Int := ((List.range l.length).filter fun (i : Nat) => p (gt l (i : Int))).map fun (i : Nat) => (i : Int)
theorem zag {α : Type} [Inhabited α] {p : α → Bool} {l : List α} {i : Int} : i ∈ idxF p l ↔ 0 ≤ i ∧ i < (l.length : Int) ∧ p (gt l i) = true := by
  simp only [idxF, List.mem_map, List.mem_filter, List.mem_range]
  constructor
  · rintro ⟨a, ⟨h1, h2⟩, rfl⟩
    exact ⟨by omega, by omega, h2⟩
  · rintro ⟨h1, h2, h3⟩
    refine ⟨i.toNat, ⟨by omega, ?_⟩, by omega⟩
    rw [Int.toNat_of_nonneg h1]; exact h3
theorem zcm {α : Type} [Inhabited α] (p : α → Bool) (l : List α) : (idxF p l).length ≤ l.length := by
  simp only [idxF, List.length_map]
  exact Nat.le_trans (List.length_filter_le _ _) (by simp)
theorem of_eq (φ : Nat) (p : Pool) (l : List zl) (kind : Int) (ok : Item → Bool) (hl : l.length ≤ 100000) (hφ : l.length < φ)
    (hok : ∀ r ∈ l, r.fItem.fKind = kind → ∃ e, z9b φ p r.fItem = some e ∧ (e == 0) = ok r.fItem) :
    z8u φ p l kind = some (idxF (fun r => r.fItem.fKind == kind && ok r.fItem) l) := by
  unfold z8u
  refine z5a (z3s φ p l kind (z5q φ)) l.length (fun i s => s = ((List.range i).filter fun (j : Nat) => (gt l (j : Int)).fItem.fKind == kind && ok (gt l (j : Int)).fItem).map fun (j : Nat) => (j : Int))
    (fun o => o = some (idxF (fun r => r.fItem.fKind == kind && ok r.fItem) l)) ?_ ?_ φ [] rfl hφ
  · intro n i s hi hs hk
    have hsl : s.length ≤ i := by rw [hs, List.length_map]; exact Nat.le_trans (List.length_filter_le _ _) (by simp)
    have hnext : ((List.range (i + 1)).filter fun (j : Nat) => (gt l (j : Int)).fItem.fKind == kind && ok (gt l (j : Int)).fItem).map (fun (j : Nat) => (j : Int)) = if ((gt l (i : Int)).fItem.fKind == kind && ok (gt l (i : Int)).fItem) = true then s ++ [(i : Int)] else s := by
      rw [List.range_succ, List.filter_append, List.map_append, ← hs]
      cases h : ((gt l (i : Int)).fItem.fKind == kind && ok (gt l (i : Int)).fItem) <;> simp [h]
    rw [z3s, if_pos (by simp; omega), zm ⟨by omega, by omega⟩]
    have w : W ((i : Int) + 1) = (i : Int) + 1 := W_id (by omega) (by omega)
    simp only [Pool.eta', Item.eta', z7q, w]
    by_cases q : (gt l (i : Int)).fItem.fKind = kind
    · obtain ⟨e, h1, h2⟩ := hok (gt l (i : Int)) (zbt (by omega) (by omega)) q
      rw [zh0 (by simp [q]), h1]
      simp only [Option.bind_some]
      rw [show (e == 0) = ok (gt l (i : Int)).fItem from h2]
      split
      · rename_i h
        rw [zm (zc8 (by simp; omega) (by omega))]
        exact hk _ (by rw [hnext, if_pos h])
      · rename_i h
        exact hk _ (by rw [hnext, if_neg h])
    · rw [zkz (by simp [q])]
      simp only [Option.bind_some]
      have hq : ((gt l (i : Int)).fItem.fKind == kind) = false := by simp [q]
      rw [hq, Bool.false_and, if_neg (by simp)]
      exact hk _ (by rw [hnext, hq]; simp)
  · intro n s hs
    rw [z3s, if_neg (by simp), hs]
    rfl
end Px
end
section
namespace Px
open Go
set_option linter.unusedVariables false
set_option linter.unusedSimpArgs false
def gapW (a b : zl) : Int := max2 (W (a.fItem.fFrom - b.fItem.fFrom)) (W (b.fItem.fFrom - a.fItem.fFrom))
theorem zvp (φ : Nat) (a b : zl) : z9m φ a b = some (gapW a b) := rfl
def unf5 (l : List zl) (used : List (Int × Bool)) (i k : Int) : Bool :=
  (((((mget used k).getD false) || ((gt l k).fRef.fRailway != (gt l i).fItem.fOther)) || ((gt l k).fItem.fOther != (gt l i).fRef.fRailway)) || ((gt l k).fItem.fWagon != (gt l i).fItem.fWagon)) || ((gt l k).fItem.fPlace != (gt l i).fItem.fPlace)
def zd0 (l : List zl) (used : List (Int × Bool)) (i k : Int) : Bool := unf5 l used i k || decide (60 < gapW (gt l i) (gt l k))
def betC (l : List zl) (i b k : Int) : Int := orI [cmpI (gapW (gt l i) (gt l b)) (gapW (gt l i) (gt l k)), refC (gt l b).fRef (gt l k).fRef]
def zbi (l : List zl) (used : List (Int × Bool)) (i b k : Int) : Int :=
  if zd0 l used i k = true then b else if (decide (0 ≤ b) && decide (betC l i b k ≤ 0)) = true then b else k
def zbe (l : List zl) (used : List (Int × Bool)) (i : Int) (rs : List Int) : Int := rs.foldl (zbi l used i) (-1)
theorem zoq (φ : Nat) (hφ : 4 < φ) (l : List zl) (rs ds : List Int) (d : Int) (used : List (Int × Bool)) (k : Int → Option (List (Nat → Int))) (hl : rs.length ≤ 100000) (hr : ∀ z ∈ rs, 0 ≤ z ∧ z < (l.length : Int)) (hφ2 : rs.length < φ) :
    z0r φ l rs ds d used k φ (-1) 0 = k (zbe l used (gt ds d) rs) := by
  refine z5a (fun n j s => z0r φ l rs ds d used k n s j) rs.length (fun j s => s = (rs.take j).foldl (zbi l used (gt ds d)) (-1) ∧ (0 ≤ s → s < (l.length : Int)))
    (fun o => o = k (zbe l used (gt ds d) rs)) ?_ ?_ φ (-1) ⟨by simp, by omega⟩ hφ2
  · intro n j s hj ⟨hs, hin⟩ hk
    have hz := hr _ (zbt (l := rs) (i := (j : Int)) (by omega) (by omega))
    have hnext : (rs.take (j + 1)).foldl (zbi l used (gt ds d)) (-1) = zbi l used (gt ds d) s (gt rs (j : Int)) := by
      rw [zbr rs j hj, List.foldl_append, ← hs]; rfl
    have w : W ((j : Int) + 1) = (j : Int) + 1 := W_id (by omega) (by omega)
    rw [z0r, if_pos (by simp; omega), zm ⟨by omega, by omega⟩, zm hz]
    simp only [Item.eta', zl.eta', zvp, z52, w]
    have hu5 : (((((mget used (gt rs (j : Int))).getD false) || ((gt l (gt rs (j : Int))).fRef.fRailway != (gt l (gt ds d)).fItem.fOther)) || ((gt l (gt rs (j : Int))).fItem.fOther != (gt l (gt ds d)).fRef.fRailway)) || ((gt l (gt rs (j : Int))).fItem.fWagon != (gt l (gt ds d)).fItem.fWagon) || ((gt l (gt rs (j : Int))).fItem.fPlace != (gt l (gt ds d)).fItem.fPlace)) = unf5 l used (gt ds d) (gt rs (j : Int)) := rfl
    rw [hu5]
    have hun : zd0 l used (gt ds d) (gt rs (j : Int)) = (unf5 l used (gt ds d) (gt rs (j : Int)) || decide (60 < gapW (gt l (gt ds d)) (gt l (gt rs (j : Int))))) := rfl
    have htail : ∀ (b : Bool), b = zd0 l used (gt ds d) (gt rs (j : Int)) →
        (if b = true then z0r φ l rs ds d used k n s ((j : Int) + 1) else
          ck ((decide (0 ≤ s) = true) → ((0 : Int) ≤ s ∧ s < (l.length : Int))) ((z39 (decide (0 ≤ s) = true) (some (gapW (gt l (gt ds d)) (gt l s)))).bind fun y103 => ((z39 (decide (0 ≤ s) = true) (some (gapW (gt l (gt ds d)) (gt l (gt rs (j : Int)))))).bind fun y107 => ((z39 (decide (0 ≤ s) = true) (z6y φ y103 y107)).bind fun y109 => ((z39 (decide (0 ≤ s) = true) (z3x φ ((gt l s).fRef) ((gt l (gt rs (j : Int))).fRef))).bind fun y118 => ((z39 (decide (0 ≤ s) = true) (zeh φ [y109, y118])).bind fun y125 =>
            (if (decide (0 ≤ s) && decide (y125 ≤ 0)) = true then z0r φ l rs ds d used k n s ((j : Int) + 1) else z0r φ l rs ds d used k n (gt rs (j : Int)) ((j : Int) + 1)))))))) = k (zbe l used (gt ds d) rs) := by
      intro b hb
      cases b with
      | true =>
        rw [if_pos rfl]
        have e : zbi l used (gt ds d) s (gt rs (j : Int)) = s := by unfold zbi; rw [if_pos hb.symm]
        exact hk s ⟨by rw [hnext, e], hin⟩
      | false =>
        rw [if_neg (by simp)]
        by_cases q : 0 ≤ s
        · rw [zm (fun _ => ⟨q, hin q⟩)]
          simp only [zh0 (show decide (0 ≤ s) = true by simp [q]), Option.bind_some, zby, zje φ (by omega : 3 < φ)]
          rw [zgh φ _ (by simp) (by simp; omega)]
          simp only [Option.bind_some]
          have hb2 : orI [cmpI (gapW (gt l (gt ds d)) (gt l s)) (gapW (gt l (gt ds d)) (gt l (gt rs (j : Int)))), refC (gt l s).fRef (gt l (gt rs (j : Int))).fRef] = betC l (gt ds d) s (gt rs (j : Int)) := rfl
          rw [hb2]
          split
          · rename_i h
            have e : zbi l used (gt ds d) s (gt rs (j : Int)) = s := by unfold zbi; rw [← hb, if_neg (by simp), if_pos h]
            exact hk s ⟨by rw [hnext, e], hin⟩
          · rename_i h
            have e : zbi l used (gt ds d) s (gt rs (j : Int)) = gt rs (j : Int) := by unfold zbi; rw [← hb, if_neg (by simp), if_neg h]
            exact hk _ ⟨by rw [hnext, e], fun _ => hz.2⟩
        · rw [zm (fun h => absurd (by simpa using h) q)]
          simp only [zkz (show ¬ decide (0 ≤ s) = true by simpa using q), Option.bind_some]
          have h : ¬ (decide (0 ≤ s) && decide (betC l (gt ds d) s (gt rs (j : Int)) ≤ 0)) = true := by simp [q]
          have e : zbi l used (gt ds d) s (gt rs (j : Int)) = gt rs (j : Int) := by unfold zbi; rw [← hb, if_neg (by simp), if_neg h]
          rw [if_neg (by simp [q])]
          exact hk _ ⟨by rw [hnext, e], fun _ => hz.2⟩
    cases h5 : unf5 l used (gt ds d) (gt rs (j : Int)) with
    | true =>
      rw [zkz (by simp)]
      simp only [Option.bind_some, Bool.true_or]
      exact htail true (by rw [hun, h5]; rfl)
    | false =>
      rw [zh0 rfl]
      simp only [Option.bind_some, Bool.false_or]
      exact htail _ (by rw [hun, h5]; rfl)
  · intro n s ⟨hs, _⟩
    rw [List.take_length] at hs
    rw [z0r, if_neg (by simp), hs]
    rfl
end Px
end
section
namespace Px
open Go
set_option linter.unusedVariables false
set_option linter.unusedSimpArgs false
set_option maxHeartbeats 1000000
section
theorem zn1 (φ : Nat) (P Z Q : List Int) (c : Nat) : ∀ (n : Nat) (X1 X2 Y1 Y2 : List Int), X1.length = Y1.length → X2.length = Y2.length → c = X1.length + X2.length → P.length + c + Z.length + c + Q.length ≤ 1000000 → X2.length < n →
    z10 φ (P.length : Int) ((P.length : Int) + c + Z.length) (c : Int) n (X1.length : Int) (P ++ Y1 ++ X2 ++ Z ++ X1 ++ Y2 ++ Q) = some (P ++ Y1 ++ Y2 ++ Z ++ X1 ++ X2 ++ Q) := by
  intro n
  induction n with
  | zero => intro X1 X2 Y1 Y2 _ _ _ _ h; omega
  | succ n ih =>
    intro X1 X2 Y1 Y2 h1 h2 hc hl hn
    cases X2 with
    | nil =>
      have : Y2 = [] := List.eq_nil_of_length_eq_zero (by simpa using h2.symm)
      subst this
      simp only [List.length_nil, Nat.add_zero] at hc
      rw [z10, if_neg (by simp; omega)]
    | cons x X2 =>
      cases Y2 with
      | nil => simp at h2
      | cons w Y2 =>
        simp only [List.length_cons, Nat.add_right_cancel_iff] at h2 hc hn
        have w1 : W ((P.length : Int) + c + Z.length + X1.length) = (P.length : Int) + c + Z.length + X1.length := W_id (by omega) (by omega)
        have w2 : W ((P.length : Int) + X1.length) = (P.length : Int) + X1.length := W_id (by omega) (by omega)
        have w3 : W ((X1.length : Int) + 1) = (X1.length : Int) + 1 := W_id (by omega) (by omega)
        have e1 : P ++ Y1 ++ x :: X2 ++ Z ++ X1 ++ w :: Y2 ++ Q = (P ++ Y1) ++ x :: (X2 ++ Z ++ X1 ++ w :: Y2 ++ Q) := by simp
        have e2 : P ++ Y1 ++ x :: X2 ++ Z ++ X1 ++ w :: Y2 ++ Q = (P ++ Y1 ++ x :: X2 ++ Z ++ X1) ++ w :: (Y2 ++ Q) := by simp
        have g1 : gt (P ++ Y1 ++ x :: X2 ++ Z ++ X1 ++ w :: Y2 ++ Q) ((P.length : Int) + X1.length) = x := by rw [e1]; exact z8j (by simp; omega)
        have g2 : gt (P ++ Y1 ++ x :: X2 ++ Z ++ X1 ++ w :: Y2 ++ Q) ((P.length : Int) + c + Z.length + X1.length) = w := by rw [e2]; exact z8j (by simp; omega)
        have s1 : z32 (P ++ Y1 ++ x :: X2 ++ Z ++ X1 ++ w :: Y2 ++ Q) ((P.length : Int) + X1.length) w = (P ++ Y1) ++ w :: (X2 ++ Z ++ X1 ++ w :: Y2 ++ Q) := by rw [e1]; exact zaq (by simp; omega)
        have e3 : (P ++ Y1) ++ w :: (X2 ++ Z ++ X1 ++ w :: Y2 ++ Q) = (P ++ Y1 ++ w :: X2 ++ Z ++ X1) ++ w :: (Y2 ++ Q) := by simp
        have s2 : z32 ((P ++ Y1 ++ w :: X2 ++ Z ++ X1) ++ w :: (Y2 ++ Q)) ((P.length : Int) + c + Z.length + X1.length) x = (P ++ Y1 ++ w :: X2 ++ Z ++ X1) ++ x :: (Y2 ++ Q) := zaq (by simp; omega)
        have e4 : (P ++ Y1 ++ w :: X2 ++ Z ++ X1) ++ x :: (Y2 ++ Q) = P ++ (Y1 ++ [w]) ++ X2 ++ Z ++ (X1 ++ [x]) ++ Y2 ++ Q := by simp
        have hlen : ((P ++ Y1 ++ x :: X2 ++ Z ++ X1 ++ w :: Y2 ++ Q).length : Int) = P.length + c + Z.length + c + Q.length := by simp; omega
        have hlen2 : (((P ++ Y1 ++ w :: X2 ++ Z ++ X1) ++ w :: (Y2 ++ Q)).length : Int) = P.length + c + Z.length + c + Q.length := by simp; omega
        rw [z10, if_pos (by simp; omega), w1, w2, w3, g1, g2, s1, e3, s2, e4, hlen, hlen2]
        rw [zm ⟨by omega, by omega⟩, zm ⟨by omega, by omega⟩, zm ⟨by omega, by omega⟩]
        have := ih (X1 ++ [x]) X2 (Y1 ++ [w]) Y2 (by simp [h1]) h2 (by simp; omega) hl (by omega)
        have e5 : (((X1 ++ [x]).length : Nat) : Int) = (X1.length : Int) + 1 := by simp
        rw [e5] at this
        rw [this]
        simp
theorem zhb (φ : Nat) (P X Z Y Q : List Int) (y : Int → Int → Option Int) (h : X.length = Y.length) (hl : P.length + X.length + Z.length + X.length + Q.length ≤ 1000000) (hφ : X.length < φ) :
    z2g φ (P ++ X ++ Z ++ Y ++ Q) (P.length : Int) ((P.length : Int) + X.length + Z.length) (X.length : Int) y = some (P ++ Y ++ Z ++ X ++ Q) := by
  have := zn1 φ P Z Q X.length φ [] X [] Y rfl h (by simp) hl hφ
  simpa [z2g] using this
theorem zov (φ : Nat) (y : Int → Int → Option Int) : ∀ (n : Nat) (P X Y Q : List Int), X ≠ [] → Y ≠ [] → P.length + X.length + Y.length + Q.length ≤ 1000000 → X.length + Y.length ≤ n → X.length + Y.length < φ →
    z13 φ ((P.length : Int) + X.length) y (z1p φ ((P.length : Int) + X.length) y) n (X.length : Int) (Y.length : Int) (P ++ X ++ Y ++ Q) = some (P ++ Y ++ X ++ Q) := by
  intro n
  induction n with
  | zero => intro P X Y Q hX hY _ h; have := List.length_pos_iff.2 hX; omega
  | succ n ih =>
    intro P X Y Q hX hY hl hn hφ
    have hX0 := List.length_pos_iff.2 hX
    have hY0 := List.length_pos_iff.2 hY
    have w1 : W ((P.length : Int) + X.length - X.length) = (P.length : Int) := by rw [W_id (by omega) (by omega)]; omega
    rw [z13, w1]
    by_cases he : X.length = Y.length
    · rw [if_neg (by simp [he])]
      unfold z1p
      rw [w1]
      have := zhb φ P X [] Y Q y he (by simp; omega) (by omega)
      simp only [List.append_nil, List.length_nil, Int.ofNat_zero, Int.add_zero] at this
      rw [this]; rfl
    · rw [if_pos (by simp; omega)]
      by_cases hlt : Y.length < X.length
      · rw [if_pos (by simp; omega)]
        obtain ⟨X1, X2, rfl, h1⟩ : ∃ X1 X2, X = X1 ++ X2 ∧ X1.length = Y.length := ⟨X.take Y.length, X.drop Y.length, (List.take_append_drop _ _).symm, by simp; omega⟩
        simp only [List.length_append] at hl hn hφ hlt hX0 he
        have e1 : P ++ (X1 ++ X2) ++ Y ++ Q = P ++ X1 ++ X2 ++ Y ++ Q := by simp
        have e2 : (P.length : Int) + ((X1 ++ X2).length : Nat) = (P.length : Int) + X1.length + X2.length := by simp; omega
        rw [e1, e2, ← h1, zhb φ P X1 X2 Y Q y h1 (by omega) (by omega)]
        simp only [Option.bind_some]
        have w2 : W (((X1 ++ X2).length : Int) - X1.length) = (X2.length : Int) := by simp; rw [W_id (by omega) (by omega)]; omega
        rw [w2]
        have := ih (P ++ Y) X2 X1 Q (by intro e; subst e; simp at hlt; omega) (by intro e; subst e; simp at h1; omega) (by simp; omega) (by omega) (by omega)
        have e3 : (((P ++ Y).length : Nat) : Int) + X2.length = (P.length : Int) + X1.length + X2.length := by simp; omega
        rw [e3] at this
        rw [this]
        simp
      · rw [if_neg (by simp; omega)]
        obtain ⟨Y1, Y2, rfl, h1⟩ : ∃ Y1 Y2, Y = Y1 ++ Y2 ∧ Y2.length = X.length := ⟨Y.take (Y.length - X.length), Y.drop (Y.length - X.length), (List.take_append_drop _ _).symm, by simp; omega⟩
        simp only [List.length_append] at hl hn hφ hlt hY0 he
        have e1 : P ++ X ++ (Y1 ++ Y2) ++ Q = P ++ X ++ Y1 ++ Y2 ++ Q := by simp
        have w3 : W ((P.length : Int) + X.length + ((Y1 ++ Y2).length : Nat)) = (P.length : Int) + X.length + Y1.length + Y2.length := by simp; rw [W_id (by omega) (by omega)]; omega
        have w4 : W ((P.length : Int) + X.length + Y1.length + Y2.length - X.length) = (P.length : Int) + X.length + Y1.length := by rw [W_id (by omega) (by omega)]; omega
        have w5 : W (((Y1 ++ Y2).length : Int) - X.length) = (Y1.length : Int) := by simp; rw [W_id (by omega) (by omega)]; omega
        rw [e1, w3, w4, w5, zhb φ P X Y1 Y2 Q y h1.symm (by omega) (by omega)]
        simp only [Option.bind_some]
        have := ih P Y2 Y1 (X ++ Q) (by intro e; subst e; simp at h1; omega) (by intro e; subst e; simp at h1 hlt he; omega) (by simp; omega) (by omega) (by omega)
        rw [h1] at this
        have e2 : P ++ Y2 ++ Y1 ++ X ++ Q = P ++ Y2 ++ Y1 ++ (X ++ Q) := by simp
        rw [e2, this]
        simp
theorem zlb (φ : Nat) (P X Y Q : List Int) (y : Int → Int → Option Int) (hX : X ≠ []) (hY : Y ≠ []) (hl : P.length + X.length + Y.length + Q.length ≤ 1000000) (hφ : X.length + Y.length < φ) :
    z4i φ (P ++ X ++ Y ++ Q) (P.length : Int) ((P.length : Int) + X.length) ((P.length : Int) + X.length + Y.length) y = some (P ++ Y ++ X ++ Q) := by
  have := zov φ y φ P X Y Q hX hY hl (by omega) hφ
  rw [← this]
  unfold z4i
  have w1 : W ((P.length : Int) + X.length - P.length) = (X.length : Int) := by rw [W_id (by omega) (by omega)]; omega
  have w2 : W ((P.length : Int) + X.length + Y.length - ((P.length : Int) + X.length)) = (Y.length : Int) := by rw [W_id (by omega) (by omega)]; omega
  rw [w1, w2]
end
end Px
end
section
namespace Px
open Go
set_option linter.unusedVariables false
set_option linter.unusedSimpArgs false
set_option maxHeartbeats 2000000
section
variable {D : Int → Prop} {lt : Int → Int → Bool} {y : Int → Int → Option Int}
theorem zjv (φ : Nat) (k : List Int → Option (List Int)) (x : Int) : ∀ (n : Nat) (P C E : List Int), P.length + C.length + E.length ≤ 999999 → C.length < n →
    z1x φ ((P.length : Int) + C.length + 1) k n (P.length : Int) (P ++ x :: (C ++ E)) = k (P ++ C ++ x :: E) := by
  intro n
  induction n with
  | zero => intro P C E _ h; omega
  | succ n ih =>
    intro P C E hl hn
    have w0 : W ((P.length : Int) + C.length + 1 - 1) = (P.length : Int) + C.length := by rw [W_id (by omega) (by omega)]; omega
    rw [z1x, w0]
    cases C with
    | nil => rw [if_neg (by simp)]; simp
    | cons w C =>
      simp only [List.length_cons] at hl hn
      have w1 : W ((P.length : Int) + 1) = (P.length : Int) + 1 := W_id (by omega) (by omega)
      have e1 : P ++ x :: (w :: C ++ E) = (P ++ [x]) ++ w :: (C ++ E) := by simp
      have g1 : gt (P ++ x :: (w :: C ++ E)) (P.length : Int) = x := z8j rfl
      have g2 : gt (P ++ x :: (w :: C ++ E)) ((P.length : Int) + 1) = w := by rw [e1]; exact z8j (by simp)
      have s1 : z32 (P ++ x :: (w :: C ++ E)) (P.length : Int) w = P ++ w :: (w :: C ++ E) := zaq rfl
      have e2 : P ++ w :: (w :: C ++ E) = (P ++ [w]) ++ w :: (C ++ E) := by simp
      have s2 : z32 ((P ++ [w]) ++ w :: (C ++ E)) ((P.length : Int) + 1) x = (P ++ [w]) ++ x :: (C ++ E) := zaq (by simp)
      have hlen : ((P ++ x :: (w :: C ++ E)).length : Int) = P.length + C.length + E.length + 2 := by simp; omega
      have hlen2 : (((P ++ [w]) ++ w :: (C ++ E)).length : Int) = P.length + C.length + E.length + 2 := by simp; omega
      rw [if_pos (by simp; omega), w1, g1, g2, s1, e2, s2, hlen, hlen2, zm ⟨by omega, by omega⟩, zm ⟨by omega, by omega⟩, zm ⟨by omega, by omega⟩]
      have := ih (P ++ [w]) C E (by simp; omega) (by omega)
      have e3 : (((P ++ [w]).length : Nat) : Int) = (P.length : Int) + 1 := by simp
      have e4 : (P.length : Int) + ((w :: C).length : Nat) + 1 = (P.length : Int) + 1 + C.length + 1 := by simp; omega
      rw [e3] at this
      rw [e4, this]
      simp
theorem zi6 (φ : Nat) (k : List Int → Option (List Int)) (x : Int) (P : List Int) : ∀ (n : Nat) (C E : List Int), P.length + C.length + E.length ≤ 999999 → C.length < n →
    z1t φ (P.length : Int) k n ((P.length : Int) + C.length) (P ++ C ++ x :: E) = k (P ++ x :: (C ++ E)) := by
  intro n
  induction n with
  | zero => intro C E _ h; omega
  | succ n ih =>
    intro C E hl hn
    rw [z1t]
    rcases z7j C with rfl | ⟨S, z, rfl⟩
    · rw [if_neg (by simp)]; simp
    · simp only [List.length_append, List.length_cons, List.length_nil] at hl hn
      have w1 : W ((P.length : Int) + ((S ++ [z]).length : Nat) - 1) = (P.length : Int) + S.length := by
        rw [W_id (by simp; omega) (by simp; omega)]; simp; omega
      have e1 : P ++ (S ++ [z]) ++ x :: E = (P ++ S ++ [z]) ++ x :: E := by simp
      have e2 : P ++ (S ++ [z]) ++ x :: E = (P ++ S) ++ z :: (x :: E) := by simp
      have g1 : gt (P ++ (S ++ [z]) ++ x :: E) ((P.length : Int) + ((S ++ [z]).length : Nat)) = x := by rw [e1]; exact z8j (by simp <;> omega)
      have g2 : gt (P ++ (S ++ [z]) ++ x :: E) ((P.length : Int) + S.length) = z := by rw [e2]; exact z8j (by simp)
      have s1 : z32 (P ++ (S ++ [z]) ++ x :: E) ((P.length : Int) + ((S ++ [z]).length : Nat)) z = (P ++ S) ++ z :: (z :: E) := by rw [e1, zaq (by simp <;> omega)]; simp
      have s2 : z32 ((P ++ S) ++ z :: (z :: E)) ((P.length : Int) + S.length) x = P ++ S ++ x :: (z :: E) := zaq (by simp)
      have hlen : ((P ++ (S ++ [z]) ++ x :: E).length : Int) = P.length + S.length + E.length + 2 := by simp; omega
      have hlen2 : (((P ++ S) ++ z :: (z :: E)).length : Int) = P.length + S.length + E.length + 2 := by simp; omega
      rw [if_pos (by simp; omega), w1, g1, g2, s1, s2, hlen, hlen2, zm ⟨by omega, by omega⟩, zm ⟨by omega, by simp; omega⟩, zm ⟨by omega, by omega⟩]
      rw [ih S (z :: E) (by simp; omega) (by omega)]
      simp
/-- One element before a sorted list. -/
theorem zgy (hs : Swo lt) (hy : Cmp D y lt) (φ : Nat) (P L Q : List Int) (x : Int) (hx : D x) (hD : ∀ z ∈ L, D z) (hS : Srt lt L) (hl : P.length + L.length + Q.length ≤ 999998) (hφ : P.length + L.length + 2 < φ) :
    ∃ R, Srt lt R ∧ Stb lt (x :: L) R ∧ z06 φ (P ++ x :: (L ++ Q)) (P.length : Int) y (z04 φ (P ++ x :: (L ++ Q)) (P.length : Int)) φ ((P.length : Int) + 1) ((P.length : Int) + 1 + L.length) = some (P ++ R ++ Q) := by
  have gx : gt (P ++ x :: (L ++ Q)) (P.length : Int) = x := z8j rfl
  have hlen : ((P ++ x :: (L ++ Q)).length : Int) = P.length + L.length + Q.length + 1 := by simp; omega
  have gL : ∀ i : Nat, P.length + 1 ≤ i → i < P.length + 1 + L.length → gt (P ++ x :: (L ++ Q)) (i : Int) = gt L ((i - (P.length + 1) : Nat) : Int) := by
    intro i h1 h2
    have e : P ++ x :: (L ++ Q) = (P ++ [x]) ++ (L ++ Q) := by simp
    rw [e, z7b _ _ _ (by simp; omega), z8m _ _ _ (by simp; omega) (by simp; omega)]
    congr 1; simp; omega
  obtain ⟨c, h1, h2, h3, h4, h5⟩ := zfb (z06 φ (P ++ x :: (L ++ Q)) (P.length : Int) y (z04 φ (P ++ x :: (L ++ Q)) (P.length : Int)))
    (z04 φ (P ++ x :: (L ++ Q)) (P.length : Int)) (fun h => lt (gt (P ++ x :: (L ++ Q)) (h : Int)) x) (P.length + 1 + L.length) (P.length + 1)
    (by
      intro n s r h0 hlt hR
      have hm : (W ((U (W ((s : Int) + r))).fdiv 2)) = (((s + r) / 2 : Nat) : Int) := by rw [zi7 (by omega) (by omega)]; omega
      have hm1 : W ((((s + r) / 2 : Nat) : Int) + 1) = (((s + r) / 2 + 1 : Nat) : Int) := by rw [W_id (by omega) (by omega)]; simp
      obtain ⟨w, hw1, hw2⟩ := hy (gt (P ++ x :: (L ++ Q)) (((s + r) / 2 : Nat) : Int)) x (by
        rw [gL _ (by omega) (by omega)]; exact hD _ (zbt (by omega) (by omega))) hx
      rw [z06, if_pos (by simp; omega), hm, hm1, hlen, gx, zm ⟨by omega, by omega⟩, zm ⟨by omega, by omega⟩, hw1]
      simp only [Option.bind_some, hw2])
    (by
      intro n s
      rw [z06, if_neg (by simp)]) φ (P.length + 1) (P.length + 1 + L.length) (Nat.le_refl _) (by omega) (Nat.le_refl _) (by omega)
  obtain ⟨C, E, rfl, hC⟩ : ∃ C E, L = C ++ E ∧ C.length = c - (P.length + 1) := ⟨L.take (c - (P.length + 1)), L.drop (c - (P.length + 1)), (List.take_append_drop _ _).symm, by simp; omega⟩
  simp only [List.length_append] at hl hφ h2 gL
  have hCx : ∀ z ∈ C, lt z x = true := by
    intro z hz
    rcases z7j C with rfl | ⟨S, w, rfl⟩
    · cases hz
    · simp only [List.length_append, List.length_cons, List.length_nil] at hC hz hS gL h2
      have hp : lt w x = true := by
        rcases h3 with h3 | h3
        · omega
        · rw [gL _ (by omega) (by omega)] at h3
          have e : S ++ [w] ++ E = S ++ w :: E := by simp
          rw [e, z8j (by omega)] at h3
          exact h3
      rcases List.mem_append.1 hz with h | h
      · exact zaw hs (hS.parts.1.parts.2.2 z h w (by simp)) hp (hs.irr x)
      · simp at h; rw [h]; exact hp
  have hEx : ∀ z ∈ E, lt z x = false := by
    intro z hz
    cases E with
    | nil => cases hz
    | cons w E =>
      simp only [List.length_cons] at h2 gL h4
      have hp : lt w x = false := by
        rcases h4 with h4 | h4
        · simp at h4; omega
        · rw [gL _ (by omega) (by omega), z8j (by omega)] at h4
          exact h4
      rcases List.mem_cons.1 hz with h | h
      · rw [h]; exact hp
      · exact hs.ntr _ _ _ ((List.pairwise_cons.1 hS.parts.2.1).1 z h) hp
  have hm := za4 hs (A := []) (B := [x]) (C := C) (E := E) (R1 := C) (R2 := x :: E) (List.pairwise_singleton _ _) hS (by simpa using hCx) (by simp) hS.parts.1 (by simpa using Stb.refl C) (List.pairwise_cons.2 ⟨hEx, hS.parts.2.1⟩) (by simpa using Stb.refl (x :: E))
  refine ⟨C ++ x :: E, hm.1, by simpa using hm.2, ?_⟩
  have e5 : ((P.length : Int) + 1 + ((C ++ E).length : Nat)) = ((P.length + 1 + (C ++ E).length : Nat) : Int) := by simp
  have e6 : ((P.length : Int) + 1) = ((P.length + 1 : Nat) : Int) := by simp
  rw [e5, e6, h5]
  unfold z04
  have e7 : (c : Int) = (P.length : Int) + C.length + 1 := by omega
  have e8 : P ++ x :: (C ++ E ++ Q) = P ++ x :: (C ++ (E ++ Q)) := by simp
  rw [e7, e8, zjv φ _ x φ P C (E ++ Q) (by simp; omega) (by omega)]
  simp [z1v]
/-- A sorted list before one element. -/
theorem zhv (hs : Swo lt) (hy : Cmp D y lt) (φ : Nat) (P L Q : List Int) (x : Int) (hx : D x) (hD : ∀ z ∈ L, D z) (hS : Srt lt L) (hl : P.length + L.length + Q.length ≤ 999998) (hφ : P.length + L.length + 2 < φ) :
    ∃ R, Srt lt R ∧ Stb lt (L ++ [x]) R ∧ zy φ (P ++ L ++ x :: Q) ((P.length : Int) + L.length) y (z03 φ (P ++ L ++ x :: Q) ((P.length : Int) + L.length)) φ (P.length : Int) ((P.length : Int) + L.length) = some (P ++ R ++ Q) := by
  have gx : gt (P ++ L ++ x :: Q) ((P.length : Int) + L.length) = x := z8j (by simp)
  have hlen : ((P ++ L ++ x :: Q).length : Int) = P.length + L.length + Q.length + 1 := by simp; omega
  have gL : ∀ i : Nat, P.length ≤ i → i < P.length + L.length → gt (P ++ L ++ x :: Q) (i : Int) = gt L ((i - P.length : Nat) : Int) := by
    intro i h1 h2
    rw [List.append_assoc, z7b _ _ _ (by omega), z8m _ _ _ (by omega) (by omega)]
    congr 1; omega
  obtain ⟨c, h1, h2, h3, h4, h5⟩ := zfb (zy φ (P ++ L ++ x :: Q) ((P.length : Int) + L.length) y (z03 φ (P ++ L ++ x :: Q) ((P.length : Int) + L.length)))
    (z03 φ (P ++ L ++ x :: Q) ((P.length : Int) + L.length)) (fun h => !lt x (gt (P ++ L ++ x :: Q) (h : Int))) (P.length + L.length) P.length
    (by
      intro n s r h0 hlt hR
      have hm : (W ((U (W ((s : Int) + r))).fdiv 2)) = (((s + r) / 2 : Nat) : Int) := by rw [zi7 (by omega) (by omega)]; omega
      have hm1 : W ((((s + r) / 2 : Nat) : Int) + 1) = (((s + r) / 2 + 1 : Nat) : Int) := by rw [W_id (by omega) (by omega)]; simp
      obtain ⟨w, hw1, hw2⟩ := hy x (gt (P ++ L ++ x :: Q) (((s + r) / 2 : Nat) : Int)) hx (by
        rw [gL _ (by omega) (by omega)]; exact hD _ (zbt (by omega) (by omega)))
      rw [zy, if_pos (by simp; omega), hm, hm1, hlen, gx, zm ⟨by omega, by omega⟩, zm ⟨by omega, by omega⟩, hw1]
      simp only [Option.bind_some, hw2])
    (by
      intro n s
      rw [zy, if_neg (by simp)]) φ P.length (P.length + L.length) (Nat.le_refl _) (by omega) (Nat.le_refl _) (by omega)
  obtain ⟨A, B, rfl, hC⟩ : ∃ A B, L = A ++ B ∧ A.length = c - P.length := ⟨L.take (c - P.length), L.drop (c - P.length), (List.take_append_drop _ _).symm, by simp; omega⟩
  simp only [List.length_append] at hl hφ h2 gL
  have hA : ∀ z ∈ A, lt x z = false := by
    intro z hz
    rcases z7j A with rfl | ⟨S, w, rfl⟩
    · cases hz
    · simp only [List.length_append, List.length_cons, List.length_nil] at hC hz hS gL h2
      have hp : lt x w = false := by
        rcases h3 with h3 | h3
        · omega
        · rw [gL _ (by omega) (by omega)] at h3
          have e : S ++ [w] ++ B = S ++ w :: B := by simp
          rw [e, z8j (by omega)] at h3
          simpa using h3
      rcases List.mem_append.1 hz with h | h
      · exact hs.ntr _ _ _ hp (hS.parts.1.parts.2.2 z h w (by simp))
      · simp at h; rw [h]; exact hp
  have hB : ∀ z ∈ B, lt x z = true := by
    intro z hz
    cases B with
    | nil => cases hz
    | cons w B =>
      simp only [List.length_cons] at h2 gL h4
      have hp : lt x w = true := by
        rcases h4 with h4 | h4
        · simp at h4; omega
        · rw [gL _ (by omega) (by omega), z8j (by omega)] at h4
          simpa using h4
      rcases List.mem_cons.1 hz with h | h
      · rw [h]; exact hp
      · exact zaw hs (hs.irr x) hp ((List.pairwise_cons.1 hS.parts.2.1).1 z h)
  have hm := za4 hs (A := A) (B := B) (C := [x]) (E := []) (R1 := A ++ [x]) (R2 := B) hS (by rw [List.append_nil]; exact List.pairwise_singleton _ x) (by simpa using hB) (by simp)
    (hS.parts.1.app (List.pairwise_singleton _ _) (by simpa using hA)) (Stb.refl _) hS.parts.2.1 (by simpa using Stb.refl B)
  refine ⟨A ++ [x] ++ B, hm.1, by simpa using hm.2, ?_⟩
  have e5 : ((P.length : Int) + ((A ++ B).length : Nat)) = ((P.length + (A ++ B).length : Nat) : Int) := by simp
  rw [e5] at h5 ⊢
  rw [h5]
  unfold z03
  have e7 : (c : Int) = (((P ++ A).length : Nat) : Int) := by simp; omega
  have e8 : P ++ (A ++ B) ++ x :: Q = (P ++ A) ++ B ++ x :: Q := by simp
  have e9 : ((P.length + (A ++ B).length : Nat) : Int) = (((P ++ A).length : Nat) : Int) + B.length := by simp; omega
  rw [e7, e8, e9, zi6 φ _ x (P ++ A) φ B Q (by simp; omega) (by omega)]
  simp [z1r]
end
end Px
end
section
namespace Px
open Go
set_option linter.unusedVariables false
set_option linter.unusedSimpArgs false
set_option maxHeartbeats 4000000
section
variable {D : Int → Prop} {lt : Int → Int → Bool} {y : Int → Int → Option Int}
/-- Where the two lists are split. -/
theorem zl4 (hs : Swo lt) (hy : Cmp D y lt) (φ : Nat) (P L1 L2 Q : List Int) (k : Int → Option (List Int)) (hD1 : ∀ z ∈ L1, D z) (hD2 : ∀ z ∈ L2, D z) (hS1 : Srt lt L1) (hS2 : Srt lt L2)
    (a m b mid s0 r0 : Nat) (ha : a = P.length) (hm : m = a + L1.length) (hb : b = m + L2.length) (hmid : mid = (a + b) / 2) (hl : b + Q.length ≤ 999998) (hφ : b < φ)
    (h1 : 1 ≤ L1.length) (h2 : 1 ≤ L2.length) (hs0 : (mid < m ∧ s0 = mid + m - b ∧ r0 = mid) ∨ (m ≤ mid ∧ s0 = a ∧ r0 = m)) :
    ∃ A B C E, L1 = A ++ B ∧ L2 = C ++ E ∧ mid + m - (a + A.length) = m + C.length ∧ (∀ x ∈ B, ∀ y ∈ C, lt y x = true) ∧ (∀ x ∈ A, ∀ y ∈ E, lt y x = false) ∧
      z01 φ (P ++ L1 ++ L2 ++ Q) (a : Int) (m : Int) (b : Int) y k φ (s0 : Int) (r0 : Int) = k ((a + A.length : Nat) : Int) := by
  have g1 : ∀ i : Nat, a ≤ i → i < m → gt (P ++ L1 ++ L2 ++ Q) (i : Int) = gt L1 ((i - a : Nat) : Int) := by
    intro i q1 q2
    have e : P ++ L1 ++ L2 ++ Q = P ++ (L1 ++ (L2 ++ Q)) := by simp
    rw [e, z7b _ _ _ (by omega), z8m _ _ _ (by omega) (by omega)]
    congr 1; omega
  have g2 : ∀ i : Nat, m ≤ i → i < b → gt (P ++ L1 ++ L2 ++ Q) (i : Int) = gt L2 ((i - m : Nat) : Int) := by
    intro i q1 q2
    have e : P ++ L1 ++ L2 ++ Q = (P ++ L1) ++ (L2 ++ Q) := by simp
    rw [e, z7b _ _ _ (by simp; omega), z8m _ _ _ (by simp; omega) (by simp; omega)]
    congr 1; simp; omega
  have hlen : ((P ++ L1 ++ L2 ++ Q).length : Int) = b + Q.length := by simp; omega
  have hW : W ((U (W ((a : Int) + b))).fdiv 2) = (mid : Int) := by rw [zi7 (by omega) (by omega)]; omega
  have hn : W ((mid : Int) + m) = ((mid + m : Nat) : Int) := by rw [W_id (by omega) (by omega)]; simp
  have hp : W (((mid + m : Nat) : Int) - 1) = ((mid + m - 1 : Nat) : Int) := by rw [W_id (by omega) (by omega)]; omega
  have hmb : mid ≤ b := by omega
  have ham : a ≤ mid := by omega
  obtain ⟨c, h3, h4, h5, h6, h7⟩ := zfb (z01 φ (P ++ L1 ++ L2 ++ Q) (a : Int) (m : Int) (b : Int) y k) k
    (fun c => !lt (gt (P ++ L1 ++ L2 ++ Q) ((mid + m - 1 - c : Nat) : Int)) (gt (P ++ L1 ++ L2 ++ Q) (c : Int))) r0 s0
    (by
      intro n s r q0 hlt hR
      have hm' : (W ((U (W ((s : Int) + r))).fdiv 2)) = (((s + r) / 2 : Nat) : Int) := by rw [zi7 (by omega) (by omega)]; omega
      have hm1 : W ((((s + r) / 2 : Nat) : Int) + 1) = (((s + r) / 2 + 1 : Nat) : Int) := by rw [W_id (by omega) (by omega)]; simp
      have hpc : W (((mid + m - 1 : Nat) : Int) - (((s + r) / 2 : Nat) : Int)) = ((mid + m - 1 - (s + r) / 2 : Nat) : Int) := by rw [W_id (by omega) (by omega)]; omega
      obtain ⟨w, hw1, hw2⟩ := hy (gt (P ++ L1 ++ L2 ++ Q) ((mid + m - 1 - (s + r) / 2 : Nat) : Int)) (gt (P ++ L1 ++ L2 ++ Q) (((s + r) / 2 : Nat) : Int))
        (by rw [g2 _ (by omega) (by omega)]; exact hD2 _ (zbt (by omega) (by omega))) (by rw [g1 _ (by omega) (by omega)]; exact hD1 _ (zbt (by omega) (by omega)))
      rw [z01, if_pos (by simp; omega), hm', hm1, hW, hn, hp, hpc, hlen, zm ⟨by omega, by omega⟩, zm ⟨by omega, by omega⟩, hw1]
      simp only [Option.bind_some, hw2])
    (by
      intro n s
      rw [z01, if_neg (by simp)]) φ s0 r0 (Nat.le_refl _) (by omega) (Nat.le_refl _) (by omega)
  obtain ⟨A, B, rfl, hA⟩ : ∃ A B, L1 = A ++ B ∧ A.length = c - a := ⟨L1.take (c - a), L1.drop (c - a), (List.take_append_drop _ _).symm, by simp; omega⟩
  obtain ⟨C, E, rfl, hC⟩ : ∃ C E, L2 = C ++ E ∧ C.length = mid - c := ⟨L2.take (mid - c), L2.drop (mid - c), (List.take_append_drop _ _).symm, by simp; omega⟩
  simp only [List.length_append] at hm hb g1 g2
  refine ⟨A, B, C, E, rfl, rfl, by omega, ?_, ?_, ?_⟩
  · intro x hx z hz
    rcases z7j C with rfl | ⟨S, w, rfl⟩
    · cases hz
    · cases B with
      | nil => cases hx
      | cons x0 B =>
        simp only [List.length_append, List.length_cons, List.length_nil] at hC hm hb g1 g2 hA
        have hp : lt w x0 = true := by
          rcases h6 with h6 | h6
          · omega
          · rw [g1 c (by omega) (by omega), g2 (mid + m - 1 - c) (by omega) (by omega)] at h6
            have e : S ++ [w] ++ E = S ++ w :: E := by simp
            rw [e, z8j (by omega), z8j (by omega)] at h6
            simpa using h6
        have hz1 : lt w z = false := by
          rcases List.mem_append.1 hz with h | h
          · exact hS2.parts.1.parts.2.2 z h w (by simp)
          · simp at h; rw [h]; exact hs.irr _
        have hx1 : lt x x0 = false := by
          rcases List.mem_cons.1 hx with h | h
          · rw [h]; exact hs.irr _
          · exact (List.pairwise_cons.1 hS1.parts.2.1).1 x h
        exact zaw hs hz1 hp hx1
  · intro x hx z hz
    rcases z7j A with rfl | ⟨S, w, rfl⟩
    · cases hx
    · cases E with
      | nil => cases hz
      | cons e0 E =>
        simp only [List.length_append, List.length_cons, List.length_nil] at hC hm hb g1 g2 hA
        have hp : lt e0 w = false := by
          rcases h5 with h5 | h5
          · omega
          · have e1 : mid + m - 1 - (c - 1) = mid + m - c := by omega
            rw [e1, g1 (c - 1) (by omega) (by omega), g2 (mid + m - c) (by omega) (by omega)] at h5
            have e : S ++ [w] ++ B = S ++ w :: B := by simp
            rw [e, z8j (by omega), z8j (by omega)] at h5
            simpa using h5
        have hz1 : lt z e0 = false := by
          rcases List.mem_cons.1 hz with h | h
          · rw [h]; exact hs.irr _
          · exact (List.pairwise_cons.1 hS2.parts.2.1).1 z h
        have hx1 : lt w x = false := by
          rcases List.mem_append.1 hx with h | h
          · exact hS1.parts.1.parts.2.2 x h w (by simp)
          · simp at h; rw [h]; exact hs.irr _
        exact zh2 hs hz1 hp hx1
  · rw [h7]
    congr 1
    omega
/-- Merging two sorted lists in place. -/
theorem ze8 (hs : Swo lt) (hy : Cmp D y lt) : ∀ (φ : Nat) (P L1 L2 Q : List Int), (∀ z ∈ L1, D z) → (∀ z ∈ L2, D z) → Srt lt L1 → Srt lt L2 → L1 ≠ [] → L2 ≠ [] →
    P.length + L1.length + L2.length + Q.length ≤ 999998 → P.length + L1.length + L2.length + (L1.length + L2.length) + 3 < φ →
    ∃ R, Srt lt R ∧ Stb lt (L1 ++ L2) R ∧ z8 φ (P ++ L1 ++ L2 ++ Q) (P.length : Int) ((P.length : Int) + L1.length) ((P.length : Int) + L1.length + L2.length) y = some (P ++ R ++ Q) := by
  intro φ
  induction φ with
  | zero => intro P L1 L2 Q _ _ _ _ _ _ _ h; omega
  | succ φ ih =>
    intro P L1 L2 Q hD1 hD2 hS1 hS2 hn1 hn2 hl hφ
    have hp1 := List.length_pos_iff.2 hn1
    have hp2 := List.length_pos_iff.2 hn2
    rw [z8]
    have w1 : W ((P.length : Int) + L1.length - P.length) = (L1.length : Int) := by rw [W_id (by omega) (by omega)]; omega
    have w2 : W ((P.length : Int) + L1.length + L2.length - ((P.length : Int) + L1.length)) = (L2.length : Int) := by rw [W_id (by omega) (by omega)]; omega
    rw [w1, w2]
    by_cases q1 : L1.length = 1
    · rw [if_pos (by simp [q1])]
      match L1, q1 with
      | [x], _ =>
        obtain ⟨R, r1, r2, r3⟩ := zgy hs hy φ P L2 Q x (hD1 x (by simp)) hD2 hS2 (by simp at hl; omega) (by simp at hφ; omega)
        refine ⟨R, r1, r2, ?_⟩
        rw [← r3]
        simp
    · rw [if_neg (by simp; omega)]
      by_cases q2 : L2.length = 1
      · rw [if_pos (by simp [q2])]
        match L2, q2 with
        | [x], _ =>
          obtain ⟨R, r1, r2, r3⟩ := zhv hs hy φ P L1 Q x (hD2 x (by simp)) hD1 hS1 (by simp at hl; omega) (by simp at hφ; omega)
          refine ⟨R, r1, r2, ?_⟩
          rw [← r3]
          simp
      · rw [if_neg (by simp; omega)]
        obtain ⟨a, ha⟩ : ∃ a, a = P.length := ⟨_, rfl⟩
        obtain ⟨m, hm⟩ : ∃ m, m = a + L1.length := ⟨_, rfl⟩
        obtain ⟨b, hb⟩ : ∃ b, b = m + L2.length := ⟨_, rfl⟩
        obtain ⟨mid, hmid⟩ : ∃ mid, mid = (a + b) / 2 := ⟨_, rfl⟩
        have ea : (P.length : Int) = (a : Int) := by omega
        have em : (P.length : Int) + L1.length = (m : Int) := by omega
        have eb : (P.length : Int) + L1.length + L2.length = (b : Int) := by omega
        rw [eb, em, ea]
        have hW : W ((U (W ((a : Int) + b))).fdiv 2) = (mid : Int) := by rw [zi7 (by omega) (by omega)]; omega
        have hn : W ((mid : Int) + m) = ((mid + m : Nat) : Int) := by rw [W_id (by omega) (by omega)]; simp
        rw [hW, hn]
        have key : ∃ s0 r0 : Nat, ((mid < m ∧ s0 = mid + m - b ∧ r0 = mid) ∨ (m ≤ mid ∧ s0 = a ∧ r0 = m)) ∧
            (if decide ((mid : Int) < m) = true then z0f φ (P ++ L1 ++ L2 ++ Q) (a : Int) (m : Int) (b : Int) y (z8 φ) (W (((mid + m : Nat) : Int) - b)) (mid : Int)
              else z0f φ (P ++ L1 ++ L2 ++ Q) (a : Int) (m : Int) (b : Int) y (z8 φ) (a : Int) (m : Int)) =
            z0f φ (P ++ L1 ++ L2 ++ Q) (a : Int) (m : Int) (b : Int) y (z8 φ) (s0 : Int) (r0 : Int) := by
          by_cases q : mid < m
          · refine ⟨mid + m - b, mid, .inl ⟨q, rfl, rfl⟩, ?_⟩
            have : W (((mid + m : Nat) : Int) - b) = ((mid + m - b : Nat) : Int) := by rw [W_id (by omega) (by omega)]; omega
            rw [if_pos (by simp; omega), this]
          · refine ⟨a, m, .inr ⟨by omega, rfl, rfl⟩, ?_⟩
            rw [if_neg (by simp; omega)]
        obtain ⟨s0, r0, hk, e⟩ := key
        rw [e]
        unfold z0f
        obtain ⟨A, B, C, E, rfl, rfl, hc, hA, hB, hL⟩ := zl4 hs hy φ P L1 L2 Q (z0i φ (P ++ L1 ++ L2 ++ Q) (a : Int) (m : Int) (b : Int) y (z8 φ)) hD1 hD2 hS1 hS2 a m b mid s0 r0 ha hm hb hmid (by omega) (by omega) (by omega) (by omega) hk
        rw [hL]
        simp only [List.length_append] at hm hb hl hφ hp1 hp2 q1 q2
        have hcm : mid = a + A.length + C.length := by omega
        have hend : W (((mid + m : Nat) : Int) - ((a + A.length : Nat) : Int)) = ((m + C.length : Nat) : Int) := by rw [W_id (by omega) (by omega)]; omega
        have step1 : z0i φ (P ++ (A ++ B) ++ (C ++ E) ++ Q) (a : Int) (m : Int) (b : Int) y (z8 φ) ((a + A.length : Nat) : Int) =
            z0t φ (a : Int) (m : Int) (b : Int) y (z8 φ) ((a + A.length : Nat) : Int) (P ++ A ++ C ++ B ++ E ++ Q) := by
          unfold z0i
          rw [hW, hn, hend]
          by_cases hBC : B = [] ∨ C = []
          · rw [if_neg (by
              rcases hBC with rfl | rfl
              · simp at hm ⊢; omega
              · simp)]
            rcases hBC with rfl | rfl <;> simp
          · obtain ⟨hB0, hC0⟩ := not_or.1 hBC
            have b0 := List.length_pos_iff.2 hB0
            have c0 := List.length_pos_iff.2 hC0
            rw [if_pos (by simp; omega)]
            have := zlb φ (P ++ A) B C (E ++ Q) y hB0 hC0 (by simp; omega) (by omega)
            have e1 : P ++ (A ++ B) ++ (C ++ E) ++ Q = P ++ A ++ B ++ C ++ (E ++ Q) := by simp
            have e2 : ((a + A.length : Nat) : Int) = ((P ++ A).length : Nat) := by simp; omega
            have e3 : (m : Int) = ((P ++ A).length : Nat) + (B.length : Int) := by simp; omega
            have e4 : ((m + C.length : Nat) : Int) = ((P ++ A).length : Nat) + (B.length : Int) + C.length := by simp; omega
            rw [e1]
            conv => lhs; rw [e4, e2]; arg 1; rw [e3]
            rw [this]
            simp [ha]
        rw [step1]
        have step2 : ∃ R1, Srt lt R1 ∧ Stb lt (A ++ C) R1 ∧ z0t φ (a : Int) (m : Int) (b : Int) y (z8 φ) ((a + A.length : Nat) : Int) (P ++ A ++ C ++ B ++ E ++ Q) =
            z0z φ (a : Int) (m : Int) (b : Int) y (z8 φ) ((a + A.length : Nat) : Int) (P ++ R1 ++ B ++ E ++ Q) := by
          unfold z0t
          rw [hW]
          by_cases hAC : A = [] ∨ C = []
          · refine ⟨A ++ C, ?_, Stb.refl _, ?_⟩
            · rcases hAC with rfl | rfl
              · simpa using hS2.parts.1
              · simpa using hS1.parts.1
            · rw [if_neg (by
                rcases hAC with rfl | rfl
                · simp
                · simp at hcm ⊢; omega)]
              simp
          · obtain ⟨hA0, hC0⟩ := not_or.1 hAC
            have a0 := List.length_pos_iff.2 hA0
            have c0 := List.length_pos_iff.2 hC0
            obtain ⟨R1, r1, r2, r3⟩ := ih P A C (B ++ E ++ Q) (fun z hz => hD1 z (by simp [hz])) (fun z hz => hD2 z (by simp [hz])) hS1.parts.1 hS2.parts.1 hA0 hC0 (by simp; omega) (by omega)
            refine ⟨R1, r1, r2, ?_⟩
            rw [if_pos (by simp; omega)]
            have e1 : P ++ A ++ C ++ B ++ E ++ Q = P ++ A ++ C ++ (B ++ E ++ Q) := by simp
            have e2 : ((a + A.length : Nat) : Int) = (P.length : Int) + A.length := by simp; omega
            have e3 : (mid : Int) = (P.length : Int) + A.length + C.length := by omega
            rw [e1]
            conv => lhs; arg 1; rw [e3, e2, ← ea]
            rw [r3]
            simp
        obtain ⟨R1, r1, r2, e2⟩ := step2
        rw [e2]
        have hR1 : R1.length = A.length + C.length := by rw [r2.len]; simp
        have step3 : ∃ R2, Srt lt R2 ∧ Stb lt (B ++ E) R2 ∧ z0z φ (a : Int) (m : Int) (b : Int) y (z8 φ) ((a + A.length : Nat) : Int) (P ++ R1 ++ B ++ E ++ Q) = some (P ++ (R1 ++ R2) ++ Q) := by
          unfold z0z
          rw [hW, hn, hend]
          by_cases hBE : B = [] ∨ E = []
          · refine ⟨B ++ E, ?_, Stb.refl _, ?_⟩
            · rcases hBE with rfl | rfl
              · simpa using hS2.parts.2.1
              · simpa using hS1.parts.2.1
            · rw [if_neg (by
                rcases hBE with rfl | rfl
                · simp at hm ⊢; omega
                · simp at hb ⊢; omega)]
              simp
          · obtain ⟨hB0, hE0⟩ := not_or.1 hBE
            have b0 := List.length_pos_iff.2 hB0
            have c0 := List.length_pos_iff.2 hE0
            obtain ⟨R2, p1, p2, p3⟩ := ih (P ++ R1) B E Q (fun z hz => hD1 z (by simp [hz])) (fun z hz => hD2 z (by simp [hz])) hS1.parts.2.1 hS2.parts.2.1 hB0 hE0 (by simp; omega) (by simp; omega)
            refine ⟨R2, p1, p2, ?_⟩
            rw [if_pos (by simp; omega)]
            have e1 : (mid : Int) = ((P ++ R1).length : Nat) := by simp; omega
            have e3 : ((m + C.length : Nat) : Int) = ((P ++ R1).length : Nat) + (B.length : Int) := by simp; omega
            have e4 : (b : Int) = ((P ++ R1).length : Nat) + (B.length : Int) + E.length := by simp; omega
            conv => lhs; arg 1; rw [e4, e3, e1]
            rw [p3]
            simp
        obtain ⟨R2, p1, p2, e3⟩ := step3
        rw [e3]
        have hm' := za4 hs hS1 hS2 hA hB r1 r2 p1 p2
        exact ⟨R1 ++ R2, hm'.1, hm'.2, rfl⟩
end
end Px
end
section
namespace Px
open Go
set_option linter.unusedVariables false
set_option linter.unusedSimpArgs false
set_option maxHeartbeats 1000000
section
variable {D : Int → Prop} {lt : Int → Int → Bool} {y : Int → Int → Option Int}
theorem zlg (hy : Cmp D y lt) (φ : Nat) (k : List Int → Option (List Int)) (P : List Int) (x : Int) (hx : D x) : ∀ (n : Nat) (S1 S2 : List Int), (∀ z ∈ S1, D z) → P.length + S1.length + S2.length ≤ 1000000 → S1.length < n →
    ∃ A B, S1 = A ++ B ∧ (∀ z ∈ B, lt x z = true) ∧ (A = [] ∨ ∃ A' z, A = A' ++ [z] ∧ lt x z = false) ∧
      z09 φ (P.length : Int) y k n ((P.length : Int) + S1.length) (P ++ S1 ++ x :: S2) = k (P ++ A ++ x :: (B ++ S2)) := by
  intro n
  induction n with
  | zero => intro S1 S2 _ _ h; omega
  | succ n ih =>
    intro S1 S2 hD hl hn
    rcases List.eq_nil_or_concat S1 with rfl | ⟨S, z, rfl⟩
    · refine ⟨[], [], rfl, by simp, .inl rfl, ?_⟩
      have h0 : decide ((P.length : Int) < (P.length : Int) + (([] : List Int).length : Int)) = false := by simp
      rw [z09, h0]
      simp [ck, z39]
    · simp only [List.concat_eq_append] at hD hl hn ⊢
      simp only [List.length_append, List.length_cons, List.length_nil] at hl hn
      have e1 : P ++ (S ++ [z]) ++ x :: S2 = (P ++ S ++ [z]) ++ x :: S2 := by simp
      have e2 : P ++ (S ++ [z]) ++ x :: S2 = (P ++ S) ++ z :: (x :: S2) := by simp
      have g1 : gt (P ++ (S ++ [z]) ++ x :: S2) ((P.length : Int) + ((S ++ [z]).length : Int)) = x := by
        rw [e1]; exact z8j (by simp <;> omega)
      have hw : W ((P.length : Int) + ((S ++ [z]).length : Int) - 1) = (P.length : Int) + S.length := by
        rw [W_id (by simp; omega) (by simp; omega)]; simp; omega
      have g2 : gt (P ++ (S ++ [z]) ++ x :: S2) ((P.length : Int) + (S.length : Int)) = z := by
        rw [e2]; exact z8j (by simp)
      have h0 : decide ((P.length : Int) < (P.length : Int) + ((S ++ [z]).length : Int)) = true := by simp; omega
      have hlen : ((P ++ (S ++ [z]) ++ x :: S2).length : Int) = P.length + S.length + 1 + 1 + S2.length := by simp; omega
      obtain ⟨w, hw1, hw2⟩ := hy x z hx (hD z (by simp))
      have s1 : z32 (P ++ (S ++ [z]) ++ x :: S2) ((P.length : Int) + ((S ++ [z]).length : Int)) z = (P ++ S) ++ z :: (z :: S2) := by
        rw [e1, zaq (by simp <;> omega)]; simp
      have s2 : z32 ((P ++ S) ++ z :: (z :: S2)) ((P.length : Int) + (S.length : Int)) x = P ++ S ++ x :: (z :: S2) := zaq (by simp)
      rw [z09, hw, h0, g1, g2, hw1, hlen]
      rw [zm (fun _ => ⟨by omega, by simp; omega⟩), zm (fun _ => ⟨by omega, by omega⟩), zh0 rfl]
      simp only [Option.bind_some, hw2, Bool.true_and]
      cases hlt : lt x z with
      | true =>
        rw [if_pos rfl, zm ⟨by omega, by omega⟩, zm ⟨by omega, by simp; omega⟩, s1]
        rw [zm ⟨by omega, by simp; omega⟩, s2]
        obtain ⟨A, B, q1, q2, q3, q4⟩ := ih S (z :: S2) (fun u hu => hD u (by simp [hu])) (by simp; omega) (by omega)
        refine ⟨A, B ++ [z], by rw [q1]; simp, ?_, q3, ?_⟩
        · intro u hu
          rcases List.mem_append.1 hu with h | h
          · exact q2 u h
          · simp at h; rw [h]; exact hlt
        · rw [q4]; simp
      | false =>
        rw [if_neg (by simp)]
        exact ⟨S ++ [z], [], by simp, by simp, .inr ⟨S, z, rfl, hlt⟩, by simp⟩
theorem zkp (hs : Swo lt) (hy : Cmp D y lt) (φ : Nat) (P Q : List Int) : ∀ (n : Nat) (S R : List Int), S ≠ [] → Srt lt S → (∀ z ∈ S, D z) → (∀ z ∈ R, D z) → P.length + S.length + R.length + Q.length ≤ 1000000 → P.length + S.length + R.length < φ → R.length < n →
    ∃ S', Srt lt S' ∧ Stb lt (S ++ R) S' ∧ zf φ (P.length : Int) ((P.length : Int) + S.length + R.length) y n ((P.length : Int) + S.length) (P ++ S ++ R ++ Q) = some (P ++ S' ++ Q) := by
  intro n
  induction n with
  | zero => intro S R _ _ _ _ _ _ h; omega
  | succ n ih =>
    intro S R hne hS hD hD' hl hφ hn
    cases R with
    | nil =>
      refine ⟨S, hS, by simpa using Stb.refl S, ?_⟩
      rw [zf, if_neg (by simp)]
      simp
    | cons x R =>
      simp only [List.length_cons] at hl hφ hn
      rw [zf, if_pos (by simp; omega)]
      obtain ⟨A, B, q1, q2, q3, q4⟩ := zlg hy φ (z08 φ ((P.length : Int) + S.length) (zf φ (P.length : Int) ((P.length : Int) + S.length + (x :: R).length) y n)) P x (hD' x (by simp)) φ S (R ++ Q) hD (by simp; omega) (by omega)
      rw [show P ++ S ++ x :: R ++ Q = P ++ S ++ x :: (R ++ Q) by simp, q4]
      have hA : ∀ u ∈ A, lt x u = false := by
        rcases q3 with rfl | ⟨A', z, rfl, hz⟩
        · simp
        · intro u hu
          rcases List.mem_append.1 hu with h | h
          · subst q1
            have := (hS.parts.1).parts.2.2 u h z (by simp)
            exact hs.ntr _ _ _ hz this
          · simp at h; rw [h]; exact hz
      have hS2 : Srt lt (A ++ x :: B) := by
        subst q1
        refine hS.parts.1.app (List.pairwise_cons.2 ⟨fun u hu => hs.asym _ _ (q2 u hu), hS.parts.2.1⟩) fun u hu v hv => ?_
        rcases List.mem_cons.1 hv with h | h
        · subst h; exact hA u hu
        · exact hS.parts.2.2 u hu v h
      obtain ⟨S', p1, p2, p3⟩ := ih (A ++ x :: B) R (by simp) hS2 (fun z hz => by
        subst q1
        simp only [List.mem_append, List.mem_cons] at hz
        rcases hz with h | h | h
        · exact hD z (by simp [h])
        · subst h; exact hD' _ (by simp)
        · exact hD z (by simp [h])) (fun z hz => hD' z (by simp [hz])) (by subst q1; simp at hl ⊢; omega) (by subst q1; simp at hφ ⊢; omega) (by omega)
      refine ⟨S', p1, ?_, ?_⟩
      · have h1 : Stb lt (S ++ [x]) (A ++ [x] ++ B) := by subst q1; exact zfe hs q2
        have := h1.app (Stb.refl R)
        refine Stb.trans ?_ (Stb.trans this ?_)
        · simpa using Stb.refl (lt := lt) (S ++ x :: R)
        · simpa using p2
      · rw [← p3]
        unfold z08
        have e1 : W ((P.length : Int) + S.length + 1) = (P.length : Int) + S.length + 1 := W_id (by omega) (by omega)
        have hSl : S.length = A.length + B.length := by rw [q1]; simp
        have e2 : (P.length : Int) + S.length + 1 = P.length + (A ++ x :: B).length := by simp; omega
        have e3 : (P.length : Int) + S.length + (x :: R).length = P.length + (A ++ x :: B).length + R.length := by simp; omega
        have e4 : P ++ A ++ x :: (B ++ (R ++ Q)) = P ++ (A ++ x :: B) ++ R ++ Q := by simp
        rw [e1, e2, e3, e4]
theorem zbq (hs : Swo lt) (hy : Cmp D y lt) (φ : Nat) (P X Q : List Int) (hD : ∀ z ∈ X, D z) (hl : P.length + X.length + Q.length ≤ 1000000) (hφ : P.length + X.length < φ) :
    ∃ X', Srt lt X' ∧ Stb lt X X' ∧ z1b φ (P ++ X ++ Q) (P.length : Int) ((P.length : Int) + X.length) y = some (P ++ X' ++ Q) := by
  unfold z1b
  rw [W_id (x := (P.length : Int) + 1) (by omega) (by omega)]
  cases X with
  | nil =>
    refine ⟨[], List.Pairwise.nil, Stb.refl _, ?_⟩
    obtain ⟨n, rfl⟩ : ∃ n, φ = n + 1 := ⟨φ - 1, by omega⟩
    rw [zf, if_neg (by simp; omega)]
  | cons x R =>
    simp only [List.length_cons] at hl hφ
    obtain ⟨S', p1, p2, p3⟩ := zkp hs hy φ P Q φ [x] R (by simp) (List.pairwise_singleton _ _) (fun z hz => hD z (by simp at hz; simp [hz])) (fun z hz => hD z (by simp [hz])) (by simp; omega) (by simp; omega) (by omega)
    refine ⟨S', p1, by simpa using p2, ?_⟩
    rw [← p3]
    simp only [List.append_assoc, List.cons_append, List.length_cons, List.length_nil, List.nil_append]
    congr 1
    simp; omega
end
end Px
end
section
namespace Px
open Go
set_option linter.unusedVariables false
set_option linter.unusedSimpArgs false
set_option maxHeartbeats 4000000
section
variable {D : Int → Prop} {lt : Int → Int → Bool} {y : Int → Int → Option Int}
theorem zhz (hs : Swo lt) (hy : Cmp D y lt) (φ N : Nat) (k : Int → List Int → Option (List Int)) (hN : N ≤ 900000) (hφ : N < φ) :
    ∀ (n : Nat) (X Y : List Int), (∀ z ∈ Y, D z) → X.length + Y.length = N → Y.length < n →
    ∃ Y1 Y2 Y1', Y = Y1 ++ Y2 ∧ Runs lt 20 (Y1' ++ []) ∧ Y2.length < 20 ∧ Stb lt Y1 Y1' ∧ (∀ T, Runs lt 20 T → Runs lt 20 (Y1' ++ T)) ∧
      z15 φ (N : Int) y k n (X.length : Int) ((X.length : Int) + 20) (X ++ Y) = k ((X.length : Int) + Y1.length) (X ++ Y1' ++ Y2) := by
  intro n
  induction n with
  | zero => intro X Y _ _ h; omega
  | succ n ih =>
    intro X Y hD hl hn
    rw [z15]
    by_cases h : Y.length < 20
    · refine ⟨[], Y, [], rfl, .last (by simp) List.Pairwise.nil, h, Stb.refl _, fun T hT => hT, ?_⟩
      rw [if_neg (by simp; omega)]
      simp
    · obtain ⟨B, Z, rfl, hB⟩ : ∃ B Z, Y = B ++ Z ∧ B.length = 20 := ⟨Y.take 20, Y.drop 20, (List.take_append_drop _ _).symm, by simp; omega⟩
      simp only [List.length_append] at hl hn h
      rw [if_pos (by simp; omega)]
      obtain ⟨B', b1, b2, b3⟩ := zbq hs hy φ X B Z (fun z hz => hD z (by simp [hz])) (by omega) (by omega)
      rw [hB] at b3
      have e1 : X ++ (B ++ Z) = X ++ B ++ Z := by simp
      have e2 : ((20 : Nat) : Int) = 20 := rfl
      rw [e2] at b3
      rw [e1, b3]
      simp only [Option.bind_some]
      have hB' : B'.length = 20 := by rw [b2.len, hB]
      have w1 : W ((X.length : Int) + 20 + 20) = (X.length : Int) + 20 + 20 := W_id (by omega) (by omega)
      have e3 : (X.length : Int) + 20 = ((X ++ B').length : Nat) := by simp [hB']
      rw [w1]
      obtain ⟨Y1, Y2, Y1', q1, q2, q3, q4, q5, q6⟩ := ih (X ++ B') Z (fun z hz => hD z (by simp [hz])) (by simp; omega) (by omega)
      rw [← e3] at q6
      refine ⟨B ++ Y1, Y2, B' ++ Y1', by rw [q1]; simp, ?_, q3, b2.app q4, fun T hT => ?_, ?_⟩
      · rw [List.append_assoc]; exact .cons hB' b1 q2
      · rw [List.append_assoc]; exact .cons hB' b1 (q5 T hT)
      · rw [q6]
        have e4 : (X.length : Int) + 20 + Y1.length = (X.length : Int) + ((B ++ Y1).length : Nat) := by simp; omega
        rw [e4]
        simp
theorem zo5 (hs : Swo lt) (hy : Cmp D y lt) (φ N bs : Nat) (k : Int → List Int → Option (List Int)) (hN : N ≤ 900000) (hφ : 2 * N + 3 < φ) (hb0 : 0 < bs) (hb : bs ≤ 900000) :
    ∀ (n : Nat) (X Y : List Int), (∀ z ∈ Y, D z) → Runs lt bs Y → X.length + Y.length = N → Y.length < n →
    ∃ Y', Runs lt (bs * 2) Y' ∧ Stb lt Y Y' ∧ z2c φ (N : Int) y (bs : Int) (z16 φ (N : Int) y (bs : Int) k) n (X.length : Int) ((X.length : Int) + 2 * bs) (X ++ Y) = k ((bs * 2 : Nat) : Int) (X ++ Y') := by
  intro n
  induction n with
  | zero => intro X Y _ _ _ h; omega
  | succ n ih =>
    intro X Y hD hR hl hn
    have w1 : W ((X.length : Int) + bs) = (X.length : Int) + bs := W_id (by omega) (by omega)
    have w2 : W ((bs : Int) * 2) = ((bs * 2 : Nat) : Int) := by rw [W_id (by omega) (by omega)]; simp
    have w3 : W (2 * (bs : Int)) = 2 * (bs : Int) := W_id (by omega) (by omega)
    have w4 : W ((X.length : Int) + 2 * bs + 2 * bs) = (X.length : Int) + 2 * bs + 2 * bs := W_id (by omega) (by omega)
    rw [z2c, w1, w3, w4]
    by_cases h : 2 * bs ≤ Y.length
    · rw [if_pos (by simp; omega)]
      obtain ⟨B1, r, rfl, h1, s1, hr, hne⟩ := hR.big (by omega)
      simp only [List.length_append] at hl hn h
      obtain ⟨B2, Z, rfl, h2, s2, hZ⟩ : ∃ B2 Z, r = B2 ++ Z ∧ B2.length = bs ∧ Srt lt B2 ∧ Runs lt bs Z := by
        by_cases q : r.length = bs
        · exact ⟨r, [], by simp, q, hr.small (by omega), .last (by simp) List.Pairwise.nil⟩
        · obtain ⟨b, r', e, q1, q2, q3, _⟩ := hr.big (by omega)
          exact ⟨b, r', e, q1, q2, q3⟩
      simp only [List.length_append] at hl hn h
      obtain ⟨R, r1, r2, r3⟩ := ze8 hs hy φ X B1 B2 Z (fun z hz => hD z (by simp [hz])) (fun z hz => hD z (by simp [hz])) s1 s2 (by intro e; subst e; simp at h1; omega) (by intro e; subst e; simp at h2; omega) (by omega) (by omega)
      have hRl : R.length = 2 * bs := by rw [r2.len]; simp; omega
      have e1 : X ++ (B1 ++ (B2 ++ Z)) = X ++ B1 ++ B2 ++ Z := by simp
      have e2 : (X.length : Int) + bs = (X.length : Int) + B1.length := by omega
      have e3 : (X.length : Int) + 2 * bs = (X.length : Int) + B1.length + B2.length := by omega
      have e4 : (X.length : Int) + 2 * bs = ((X ++ R).length : Nat) := by simp; omega
      obtain ⟨Y', p1, p2, p3⟩ := ih (X ++ R) Z (fun z hz => hD z (by simp [hz])) hZ (by simp; omega) (by omega)
      refine ⟨R ++ Y', .cons (by omega) r1 p1, ?_, ?_⟩
      · have := r2.app p2
        simpa using this
      · rw [e1]
        conv => lhs; arg 1; rw [e2, e3]
        rw [r3]
        simp only [Option.bind_some]
        rw [e4, p3]
        simp
    · rw [if_neg (by simp; omega)]
      unfold z16 z2z
      rw [w1, w2]
      by_cases q : bs < Y.length
      · rw [if_pos (by simp; omega)]
        obtain ⟨B1, B2, rfl, h1, s1, hr, hne⟩ := hR.big q
        simp only [List.length_append] at hl hn h
        obtain ⟨R, r1, r2, r3⟩ := ze8 hs hy φ X B1 B2 [] (fun z hz => hD z (by simp [hz])) (fun z hz => hD z (by simp [hz])) s1 (hr.small (by omega)) (by intro e; subst e; simp at h1; omega) hne (by simp; omega) (by omega)
        have e1 : X ++ (B1 ++ B2) = X ++ B1 ++ B2 ++ [] := by simp
        have e2 : (X.length : Int) + bs = (X.length : Int) + B1.length := by omega
        have e3 : (N : Int) = (X.length : Int) + B1.length + B2.length := by omega
        refine ⟨R, .last (by rw [r2.len]; simp; omega) r1, r2, ?_⟩
        rw [e1, e2, e3, r3]
        simp
      · rw [if_neg (by simp; omega)]
        exact ⟨Y, .last (by omega) (hR.small (by omega)), Stb.refl _, rfl⟩
theorem zlf (hs : Swo lt) (hy : Cmp D y lt) (φ N : Nat) (hN : N ≤ 400000) (hφ : 2 * N + 3 < φ) :
    ∀ (n bs : Nat) (Y : List Int), (∀ z ∈ Y, D z) → Runs lt bs Y → Y.length = N → 0 < bs → bs ≤ 900000 → N - bs < n →
    ∃ Y', Srt lt Y' ∧ Stb lt Y Y' ∧ zj φ (N : Int) y n (bs : Int) Y = some Y' := by
  intro n
  induction n with
  | zero => intro bs Y _ _ _ _ _ h; omega
  | succ n ih =>
    intro bs Y hD hR hl hb0 hb hn
    rw [zj]
    by_cases h : bs < N
    · rw [if_pos (by simp; omega), W_id (x := 2 * (bs : Int)) (by omega) (by omega)]
      obtain ⟨Y', p1, p2, p3⟩ := zo5 hs hy φ N bs (zj φ (N : Int) y n) (by omega) hφ hb0 hb φ [] Y hD hR (by simpa using hl) (by omega)
      obtain ⟨Y'', q1, q2, q3⟩ := ih (bs * 2) Y' (fun z hz => hD z (p2.mem.1 hz)) p1 (by rw [p2.len, hl]) (by omega) (by omega) (by omega)
      refine ⟨Y'', q1, p2.trans q2, ?_⟩
      rw [← q3]
      simpa using p3
    · rw [if_neg (by simp; omega)]
      exact ⟨Y, hR.small (by omega), Stb.refl _, rfl⟩
/-- The stable sort sorts, and keeps the order of equal elements. -/
theorem zha (hs : Swo lt) (hy : Cmp D y lt) (φ : Nat) (v : List Int) (hD : ∀ z ∈ v, D z) (hN : v.length ≤ 400000) (hφ : 2 * v.length + 3 < φ) :
    ∃ r, Srt lt r ∧ Stb lt v r ∧ z41 φ v y = some r := by
  unfold z41 z5r
  obtain ⟨Y1, Y2, Y1', q1, q2, q3, q4, q5, q6⟩ := zhz hs hy φ v.length (z0j φ (v.length : Int) y) (by omega) (by omega) φ [] v hD (by simp) (by omega)
  have q6' : z15 φ (v.length : Int) y (z0j φ (v.length : Int) y) φ 0 20 v = z0j φ (v.length : Int) y (Y1.length : Int) (Y1' ++ Y2) := by simpa using q6
  rw [q6']
  unfold z0j
  have hl : v.length = Y1.length + Y2.length := by rw [q1]; simp
  have hl1 : Y1'.length = Y1.length := q4.len
  obtain ⟨Y2', p1, p2, p3⟩ := zbq hs hy φ Y1' Y2 [] (fun z hz => hD z (by rw [q1]; simp [hz])) (by simp; omega) (by omega)
  simp only [List.append_nil] at p3
  have e1 : (Y1.length : Int) = Y1'.length := by omega
  have e2 : (v.length : Int) = (Y1'.length : Int) + Y2.length := by omega
  have p3' : z1b φ (Y1' ++ Y2) (Y1.length : Int) (v.length : Int) y = some (Y1' ++ Y2') := by rw [e1, e2]; exact p3
  have hst : Stb lt v (Y1' ++ Y2') := by rw [q1]; exact q4.app p2
  obtain ⟨r, r1, r2, r3⟩ := zlf hs hy φ v.length hN hφ φ 20 (Y1' ++ Y2') (fun z hz => hD z (hst.mem.1 hz)) (q5 _ (.last (by rw [p2.len]; omega) p1)) hst.len (by omega) (by omega) (by omega)
  refine ⟨r, r1, hst.trans r2, ?_⟩
  rw [p3']
  simp only [Option.bind_some]
  have r3' : zj φ (v.length : Int) y φ 20 (Y1' ++ Y2') = some r := r3
  rw [r3']
  rfl
end
end Px
end
section
namespace Px
open Go
set_option linter.unusedVariables false
set_option linter.unusedSimpArgs false
def za5 (p : Pool) (r : zl) : Bool :=
  (r.fRef.fRailway != r.fItem.fOther) && ((((gt p.fNetwork.fPlaces r.fItem.fPlace).fRailway == r.fRef.fRailway) && ((gt p.fNetwork.fPlaces r.fItem.fPlace).fOther == r.fItem.fOther)) || (((gt p.fNetwork.fPlaces r.fItem.fPlace).fRailway == r.fItem.fOther) && ((gt p.fNetwork.fPlaces r.fItem.fPlace).fOther == r.fRef.fRailway)))
theorem zpd (φ : Nat) (p : Pool) (r : zl) (h : 0 ≤ r.fItem.fPlace ∧ r.fItem.fPlace < (p.fNetwork.fPlaces.length : Int)) : z8q φ p r = some (za5 p r) := by
  unfold z8q; rw [zm h]; rfl
def zdk (p : Pool) (l : List zl) (rs : List Int) (st : List (Int × Bool) × List (Nat → Int)) (d : Int) : List (Int × Bool) × List (Nat → Int) :=
  if za5 p (gt l d) = false then st else if 0 ≤ zbe l st.1 d rs then (mset st.1 (zbe l st.1 d rs) true, st.2 ++ [ofL [d, zbe l st.1 d rs]]) else st
def zf4 (p : Pool) (l : List zl) (rs ds : List Int) : List (Nat → Int) := (ds.foldl (zdk p l rs) ([], [])).2
theorem zmw (φ : Nat) (hφ : 4 < φ) (p : Pool) (l : List zl) (rs ds : List Int) (hl : ds.length ≤ 100000) (hrl : rs.length ≤ 100000) (hr : ∀ z ∈ rs, 0 ≤ z ∧ z < (l.length : Int)) (hφ2 : rs.length < φ) (hφ3 : ds.length < φ)
    (hd : ∀ z ∈ ds, (0 ≤ z ∧ z < (l.length : Int)) ∧ 0 ≤ (gt l z).fItem.fPlace ∧ (gt l z).fItem.fPlace < (p.fNetwork.fPlaces.length : Int)) :
    z0e φ p l rs ds (z0s φ) φ 0 [] [] = some (zf4 p l rs ds) := by
  refine z5a (fun n j (s : List (Int × Bool) × List (Nat → Int)) => z0e φ p l rs ds (z0s φ) n j s.1 s.2) ds.length (fun j s => s = (ds.take j).foldl (zdk p l rs) ([], []) ∧ s.2.length ≤ j)
    (fun o => o = some (zf4 p l rs ds)) ?_ ?_ φ ([], []) ⟨by simp, by simp⟩ hφ3
  · intro n j s hj ⟨hs, hsl⟩ hk
    obtain ⟨hz, hpl⟩ := hd _ (zbt (l := ds) (i := (j : Int)) (by omega) (by omega))
    have hnext : (ds.take (j + 1)).foldl (zdk p l rs) ([], []) = zdk p l rs s (gt ds (j : Int)) := by
      rw [zbr ds j hj, List.foldl_append, ← hs]; rfl
    have w : W ((j : Int) + 1) = (j : Int) + 1 := W_id (by omega) (by omega)
    rw [z0e, if_pos (by simp; omega), zm ⟨by omega, by omega⟩, zm hz]
    simp only [Pool.eta', Item.eta', zl.eta', zpd φ p _ hpl, Option.bind_some]
    by_cases q : za5 p (gt l (gt ds (j : Int))) = false
    · rw [q, if_pos (by simp)]
      unfold z1o
      rw [w]
      exact hk s ⟨by rw [hnext]; unfold zdk; rw [if_pos q], by omega⟩
    · have q' : za5 p (gt l (gt ds (j : Int))) = true := by simpa using q
      rw [q', if_neg (by simp), zoq φ hφ l rs ds _ s.1 _ hrl hr hφ2]
      unfold z3l
      by_cases hb : 0 ≤ zbe l s.1 (gt ds (j : Int)) rs
      · rw [if_pos (by simpa using hb), zm (zc8 (by simp; omega) (by omega))]
        unfold z1o
        rw [w]
        refine hk (mset s.1 (zbe l s.1 (gt ds (j : Int)) rs) true, s.2 ++ [ofL [gt ds (j : Int), zbe l s.1 (gt ds (j : Int)) rs]]) ⟨?_, by simp; omega⟩
        rw [hnext]; unfold zdk; rw [if_neg q, if_pos hb]
      · rw [if_neg (by simpa using hb)]
        unfold z1o
        rw [w]
        refine hk s ⟨?_, by omega⟩
        rw [hnext]; unfold zdk; rw [if_neg q, if_neg hb]
  · intro n s ⟨hs, _⟩
    rw [List.take_length] at hs
    rw [z0e, if_neg (by simp), hs]
    rfl
/-- What pairs answers. -/
theorem zqb (φ : Nat) (p : Pool) (l : List zl) (ok : Item → Bool) (hl : l.length ≤ 100000) (hφ : 2 * l.length + 10 < φ) (hc : z56 φ p = some 0)
    (hok : ∀ r ∈ l, r.fItem.fKind = 3 ∨ r.fItem.fKind = 4 → ∃ e, z9b φ p r.fItem = some e ∧ (e == 0) = ok r.fItem)
    (hpl : ∀ r ∈ l, r.fItem.fKind = 3 ∨ r.fItem.fKind = 4 → ok r.fItem = true → 0 ≤ r.fItem.fPlace ∧ r.fItem.fPlace < (p.fNetwork.fPlaces.length : Int)) :
    ∃ ds, Srt (zhg l) ds ∧ Stb (zhg l) (idxF (fun r => r.fItem.fKind == 3 && ok r.fItem) l) ds ∧
      z6h φ p l = some (zf4 p l (idxF (fun r => r.fItem.fKind == 4 && ok r.fItem) l) ds) := by
  have h3 := of_eq φ p l 3 ok hl (by omega) fun r hr hk => hok r hr (.inl hk)
  have h4 := of_eq φ p l 4 ok hl (by omega) fun r hr hk => hok r hr (.inr hk)
  have l3 := zcm (fun r : zl => r.fItem.fKind == 3 && ok r.fItem) l
  have l4 := zcm (fun r : zl => r.fItem.fKind == 4 && ok r.fItem) l
  obtain ⟨ds, s1, s2, s3⟩ := zha (zgd l) (zpx φ (by omega) l) φ (idxF (fun r => r.fItem.fKind == 3 && ok r.fItem) l)
    (fun z hz => ⟨(zag.1 hz).1, (zag.1 hz).2.1⟩) (by omega) (by omega)
  refine ⟨ds, s1, s2, ?_⟩
  have dl := s2.len
  unfold z6h
  simp only [Pool.eta', hc, h3, h4, Option.bind_some, s3]
  rw [if_neg (by decide)]
  refine zmw φ (by omega) p l _ ds (by omega) (by omega) (fun z hz => ⟨(zag.1 hz).1, (zag.1 hz).2.1⟩) (by omega) (by omega) fun z hz => ?_
  obtain ⟨q1, q2, q3⟩ := zag.1 (s2.mem.1 hz)
  simp only [Bool.and_eq_true, beq_iff_eq] at q3
  exact ⟨⟨q1, q2⟩, hpl _ (zbt q1 q2) (.inl q3.1) q3.2⟩
end Px
end
section
namespace Px
open Go
set_option linter.unusedVariables false
set_option linter.unusedSimpArgs false
/-- What is known of the pairs: each is a delivery and a receipt that fit; no receipt, no delivery twice; used tells the receipts. -/
structure PInv (p : Pool) (l : List zl) (rs done : List Int) (st : List (Int × Bool) × List (Nat → Int)) : Prop where
  pr : ∀ x ∈ st.2, ∃ d k, x = ofL [d, k] ∧ d ∈ done ∧ k ∈ rs ∧ za5 p (gt l d) = true ∧ zd0 l [] d k = false
  used : ∀ k, (mget st.1 k).getD false = true ↔ ∃ x ∈ st.2, x 1 = k
  nd : (st.2.map fun x => x 1).Nodup
  sub : (st.2.map fun x => x 0).Sublist done
theorem zer {κ ν : Type} [BEq κ] [LawfulBEq κ] (m : List (κ × ν)) (k j : κ) (v : ν) : mget (mset m k v) j = if j == k then some v else mget m j := by
  induction m with
  | nil => simp [mset, mget]
  | cons a m ih =>
    obtain ⟨a, b⟩ := a
    simp only [mset]
    cases h : (k == a) with
    | true =>
      have := eq_of_beq h; subst this
      simp only [cond_true, mget]
      cases j == k <;> simp
    | false =>
      simp only [cond_false, mget, ih]
      cases h2 : (j == a) with
      | false => simp
      | true =>
        have := eq_of_beq h2; subst this
        have : (j == k) = false := by
          cases e : (j == k) with
          | false => rfl
          | true => rw [eq_of_beq e] at h; simp at h
        simp [this]
theorem znf {l : List zl} {used : List (Int × Bool)} {i k : Int} (h : zd0 l used i k = false) : zd0 l [] i k = false ∧ (mget used k).getD false = false := by
  simp only [zd0, unf5, zjo] at h ⊢
  exact ⟨⟨⟨⟨⟨⟨rfl, h.1.1.1.1.2⟩, h.1.1.1.2⟩, h.1.1.2⟩, h.1.2⟩, h.2⟩, h.1.1.1.1.1⟩
theorem zlu (l : List zl) (used : List (Int × Bool)) (i : Int) : ∀ (rs : List Int) (b : Int), (0 ≤ rs.foldl (zbi l used i) b) → (rs.foldl (zbi l used i) b = b ∨ rs.foldl (zbi l used i) b ∈ rs ∧ zd0 l used i (rs.foldl (zbi l used i) b) = false) := by
  intro rs
  induction rs with
  | nil => intro b _; exact .inl rfl
  | cons k rs ih =>
    intro b h
    simp only [List.foldl_cons] at h ⊢
    rcases ih _ h with e | ⟨e1, e2⟩
    · rw [e]
      unfold zbi
      split
      · exact .inl rfl
      · rename_i hu
        split
        · exact .inl rfl
        · exact .inr ⟨List.mem_cons_self, by simpa using hu⟩
    · exact .inr ⟨List.mem_cons_of_mem _ e1, e2⟩
theorem zoi {p : Pool} {l : List zl} {rs done : List Int} {st : List (Int × Bool) × List (Nat → Int)} (h : PInv p l rs done st) (d : Int) : PInv p l rs (done ++ [d]) (zdk p l rs st d) := by
  have keep : PInv p l rs (done ++ [d]) st := ⟨fun x hx => by
      obtain ⟨a, k, h1, h2, h3⟩ := h.pr x hx
      exact ⟨a, k, h1, by simp [h2], h3⟩, h.used, h.nd, h.sub.trans (List.sublist_append_left _ _)⟩
  unfold zdk
  split
  · exact keep
  · rename_i hp
    split
    · rename_i hb
      rcases zlu l st.1 d rs (-1) hb with e | ⟨e1, e2⟩
      · have : zbe l st.1 d rs = -1 := e
        omega
      · have hm : zbe l st.1 d rs ∈ rs := e1
        obtain ⟨u1, u2⟩ := znf (show zd0 l st.1 d (zbe l st.1 d rs) = false from e2)
        generalize zbe l st.1 d rs = b at *
        refine ⟨fun x hx => ?_, fun k => ?_, ?_, ?_⟩
        · rcases List.mem_append.1 hx with hx | hx
          · exact keep.pr x hx
          · simp at hx; subst hx
            exact ⟨d, b, rfl, by simp, hm, by simpa using hp, u1⟩
        · simp only [zer]
          by_cases q : k = b
          · subst q; simp; right; rfl
          · rw [if_neg (by simp [q]), h.used k]
            constructor
            · rintro ⟨x, hx, e⟩; exact ⟨x, by simp [hx], e⟩
            · rintro ⟨x, hx, e⟩
              rcases List.mem_append.1 hx with hx | hx
              · exact ⟨x, hx, e⟩
              · simp at hx; subst hx; exact absurd e.symm q
        · simp only [List.map_append, List.map_cons, List.map_nil]
          rw [List.nodup_append]
          refine ⟨h.nd, by simp, fun a ha c hc => ?_⟩
          simp at hc
          obtain ⟨x, hx, e⟩ := List.mem_map.1 ha
          intro e'
          have : (mget st.1 b).getD false = true := (h.used b).2 ⟨x, hx, by rw [e, e', hc]; rfl⟩
          rw [u2] at this; cases this
        · simp only [List.map_append, List.map_cons, List.map_nil]
          exact h.sub.append (List.Sublist.refl _)
    · exact keep
theorem zkw {p : Pool} {l : List zl} {rs : List Int} : ∀ (ds done : List Int) (st : List (Int × Bool) × List (Nat → Int)), PInv p l rs done st → PInv p l rs (done ++ ds) (ds.foldl (zdk p l rs) st)
  | [], done, st, h => by simpa using h
  | d :: ds, done, st, h => by
    have := zkw ds (done ++ [d]) _ (zoi h d)
    simpa using this
theorem pinv (p : Pool) (l : List zl) (rs ds : List Int) : PInv p l rs ds (ds.foldl (zdk p l rs) ([], [])) := by
  have := zkw (p := p) (l := l) (rs := rs) ds [] ([], []) ⟨by simp, by simp [mget], by simp, by simp⟩
  simpa using this
end Px
end
section
namespace Px
open Go
set_option linter.unusedVariables false
set_option linter.unusedSimpArgs false
theorem znt (p : Pool) (l : List zl) (rs ds : List Int) : (zf4 p l rs ds).length ≤ ds.length := by
  have := (pinv p l rs ds).sub.length_le
  simpa [zf4] using this
end Px
end
section
namespace Px
open Go
set_option linter.unusedVariables false
set_option linter.unusedSimpArgs false
def insS {α : Type} (lt : α → α → Bool) (x : α) : List α → List α
  | [] => [x]
  | y :: l => bif lt x y then x :: y :: l else y :: insS lt x l
def zgo {α : Type} (lt : α → α → Bool) (l : List α) : List α := l.foldl (fun a x => insS lt x a) []
section
variable {α : Type} {lt : α → α → Bool}
theorem zf7 (hs : Swo lt) (x : α) : ∀ (l : List α), Srt lt l → ∃ A B, l = A ++ B ∧ insS lt x l = A ++ [x] ++ B ∧ (∀ y ∈ A, lt x y = false) ∧ ∀ y ∈ B, lt x y = true
  | [], _ => ⟨[], [], rfl, rfl, by simp, by simp⟩
  | y :: l, h => by
    have h' := List.pairwise_cons.1 h
    unfold insS
    cases e : lt x y with
    | true =>
      refine ⟨[], y :: l, rfl, rfl, by simp, fun z hz => ?_⟩
      rcases List.mem_cons.1 hz with rfl | hz
      · exact e
      · cases e2 : lt x z with
        | true => rfl
        | false =>
          have := hs.ntr _ _ _ e2 (h'.1 z hz)
          rw [e] at this; cases this
    | false =>
      obtain ⟨A, B, h1, h2, h3, h4⟩ := zf7 hs x l h'.2
      refine ⟨y :: A, B, by rw [h1]; rfl, by simp [h2], fun z hz => ?_, h4⟩
      rcases List.mem_cons.1 hz with rfl | hz
      · exact e
      · exact h3 z hz
theorem zpm (hs : Swo lt) (x : α) {l : List α} (h : Srt lt l) : Srt lt (insS lt x l) := by
  obtain ⟨A, B, h1, h2, h3, h4⟩ := zf7 hs x l h
  rw [h2]; rw [h1] at h
  obtain ⟨a, b, c⟩ := h.parts
  refine Srt.app (Srt.app a (List.pairwise_singleton _ _) fun z hz y hy => ?_) b fun z hz y hy => ?_
  · simp at hy; subst hy; exact h3 z hz
  · rcases List.mem_append.1 hz with hz | hz
    · exact c z hz y hy
    · simp at hz; subst hz; exact hs.asym _ _ (h4 y hy)
theorem zq0 (hs : Swo lt) (x : α) {l : List α} (h : Srt lt l) : Stb lt (l ++ [x]) (insS lt x l) := by
  obtain ⟨A, B, h1, h2, h3, h4⟩ := zf7 hs x l h
  rw [h2, h1]; exact zfe hs h4
theorem zie (l : List α) (x : α) : zgo lt (l ++ [x]) = insS lt x (zgo lt l) := by
  simp [zgo, List.foldl_append]
theorem zmm {P : List α → Prop} (h0 : P []) (h1 : ∀ l x, P l → P (l ++ [x])) (l : List α) : P l := by
  have : ∀ r : List α, P r.reverse := by
    intro r
    induction r with
    | nil => exact h0
    | cons x r ih => rw [List.reverse_cons]; exact h1 _ _ ih
  have h := this l.reverse
  rwa [List.reverse_reverse] at h
theorem zcf (hs : Swo lt) (l : List α) : Srt lt (zgo lt l) ∧ Stb lt l (zgo lt l) := by
  induction l using zmm with
  | h0 => exact ⟨List.Pairwise.nil, Stb.refl _⟩
  | h1 l x ih =>
    rw [zie]
    exact ⟨zpm hs x ih.1, (ih.2.app (Stb.refl [x])).trans (zq0 hs x ih.1)⟩
theorem zm8 (hs : Swo lt) {l r : List α} (h1 : Srt lt r) (h2 : Stb lt l r) : r = zgo lt l :=
  Srt.unique hs h1 (zcf hs l).1 ⟨(zcf hs l).2.1.trans h2.1.symm, fun a => ((zcf hs l).2.2 a).trans (h2.2 a).symm⟩
theorem zor (hs : Swo lt) {l : List α} {x : α} : x ∈ zgo lt l ↔ x ∈ l := (zcf hs l).2.mem
theorem zkm (hs : Swo lt) (l : List α) : (zgo lt l).length = l.length := (zcf hs l).2.len
end
theorem zm1 {α : Type} {lt : α → α → Bool} {x y : α} : ∀ {l : List α}, y ∈ insS lt x l → y = x ∨ y ∈ l
  | [], h => by simp [insS] at h; exact .inl h
  | z :: l, h => by
    unfold insS at h
    cases e : lt x z with
    | true => rw [e] at h; simpa using h
    | false =>
      rw [e] at h
      rcases List.mem_cons.1 h with h | h
      · exact .inr (by simp [h])
      · rcases zm1 h with h | h
        · exact .inl h
        · exact .inr (by simp [h])
theorem zpg {α : Type} {lt : α → α → Bool} {y : α} (l : List α) : y ∈ zgo lt l → y ∈ l := by
  induction l using zmm with
  | h0 => exact id
  | h1 l x ih =>
    rw [zie]
    intro h
    rcases zm1 h with h | h
    · simp [h]
    · simp [ih h]
end Px
end
section
namespace Px
open Go
set_option linter.unusedVariables false
set_option linter.unusedSimpArgs false
theorem za2 {c : Int} (h : 0 ≤ c) (h' : c < 18446744073709551616) : (BitVec.ofInt 64 c).toNat = c.toNat := by
  rw [BitVec.toNat_ofInt]; omega
theorem zsf {n : Nat} (h : n < 18446744073709551616) : U (n : Int) = n := U_id (by omega) (by omega)
theorem zr4 {a b : Nat} (h : a < 18446744073709551616) : a &&& b < 18446744073709551616 := Nat.lt_of_le_of_lt Nat.and_le_left h
theorem zpt {k : Nat} (h : k ≤ 63) : (2 ^ k : Nat) < 18446744073709551616 := Nat.lt_of_lt_of_le (Nat.pow_lt_pow_right (by decide) (by omega : k < 64)) (by decide)
theorem zuk {c k : Int} (h : 0 ≤ c) (hk : 0 ≤ k) (hk' : k ≤ 63) : c.fdiv (2 ^ (min (k : Int).toNat (IntKind.bits .u64))) = ((c.toNat / 2 ^ k.toNat : Nat) : Int) := by
  have e : min (k : Int).toNat (IntKind.bits .u64) = k.toNat := by simp [IntKind.bits]; omega
  rw [e]
  have e2 : ((2 : Int) ^ k.toNat) = ((2 ^ k.toNat : Nat) : Int) := by simp
  rw [e2, Int.fdiv_eq_ediv_of_nonneg _ (Int.natCast_nonneg _)]
  have : c = (c.toNat : Int) := by omega
  rw [this]; simp
end Px
end
section
namespace Px
open Go
set_option linter.unusedVariables false
set_option linter.unusedSimpArgs false
set_option maxRecDepth 100000
theorem zn3 : ((List.range 256).all fun i => decide (0 ≤ zc1 zdq i ∧ zc1 zdq i ≤ 8 ∧ i < 2 ^ (zc1 zdq i).toNat ∧ (0 < i → 0 < zc1 zdq i ∧ 2 ^ ((zc1 zdq i).toNat - 1) ≤ i))) = true := by decide +kernel
theorem zow {i : Int} (h : 0 ≤ i) (h' : i < 256) : ∃ n : Nat, zc1 zdq i = n ∧ n ≤ 8 ∧ i.toNat < 2 ^ n ∧ (0 < i → 0 < n ∧ 2 ^ (n - 1) ≤ i.toNat) := by
  have := List.all_eq_true.1 zn3 i.toNat (by simp; omega)
  rw [decide_eq_true_eq, show ((i.toNat : Nat) : Int) = i by omega] at this
  obtain ⟨a, b, c, d⟩ := this
  exact ⟨(zc1 zdq i).toNat, by omega, by omega, c, fun hi => ⟨by have := (d (by omega)).1; omega, (d (by omega)).2⟩⟩
/-- How many bits. -/
def zia (v : Nat) (n : Nat) : Prop := v < 2 ^ n ∧ (0 < v → 0 < n ∧ 2 ^ (n - 1) ≤ v)
theorem zia.up {v : Nat} (k : Nat) {n : Nat} (h : zia (v / 2 ^ k) n) (hv : 2 ^ k ≤ v) : zia v (n + k) := by
  have hp := Nat.two_pow_pos k
  have hpos : 0 < v / 2 ^ k := Nat.div_pos hv hp
  obtain ⟨h1, h2⟩ := h
  obtain ⟨h3, h4⟩ := h2 hpos
  refine ⟨?_, fun _ => ⟨by omega, ?_⟩⟩
  · rw [Nat.pow_add]; exact (Nat.div_lt_iff_lt_mul hp).1 h1
  · have : n + k - 1 = (n - 1) + k := by omega
    rw [this, Nat.pow_add]; exact (Nat.le_div_iff_mul_le hp).1 h4
theorem zoz (φ : Nat) (v w : Int) (h : 0 ≤ v) (h' : v < 256) (hw : 0 ≤ w) (hw' : w ≤ 64) : ∃ n : Nat, z7p φ v w = some (w + n) ∧ n ≤ 8 ∧ zia v.toNat n := by
  obtain ⟨n, e, hn, a, b⟩ := zow h h'
  have e8 : IntKind.wrap .u8 v = v := by simp [IntKind.wrap, IntKind.bits, IntKind.signed]; omega
  refine ⟨n, ?_, hn, a, fun hv => b (by omega)⟩
  unfold z7p
  rw [e8, zm ⟨h, h'⟩, e, W_id (x := (n : Int)) (by omega) (by omega), W_id (by omega) (by omega)]
theorem zqj (φ : Nat) (v w : Int) (h : 0 ≤ v) (h' : v < 65536) (hw : 0 ≤ w) (hw' : w ≤ 48) : ∃ n : Nat, z89 φ v w = some (w + n) ∧ n ≤ 16 ∧ zia v.toNat n := by
  unfold z89
  by_cases c : 256 ≤ v
  · rw [if_pos (by simpa using c), Int.fdiv_eq_ediv_of_nonneg _ (by omega), W_id (by omega) (by omega)]
    obtain ⟨n, e, hn, hl⟩ := zoz φ (v / 256) (w + 8) (by omega) (by omega) (by omega) (by omega)
    refine ⟨n + 8, by rw [e]; congr 1; omega, by omega, ?_⟩
    refine zia.up 8 ?_ (by omega)
    rwa [show v.toNat / 2 ^ 8 = (v / 256).toNat by omega]
  · rw [if_neg (by simpa using c)]
    obtain ⟨n, e, hn, hl⟩ := zoz φ v w h (by omega) (by omega) (by omega)
    exact ⟨n, e, by omega, hl⟩
theorem zr6 (φ : Nat) (v w : Int) (h : 0 ≤ v) (h' : v < 4294967296) (hw : 0 ≤ w) (hw' : w ≤ 32) : ∃ n : Nat, z85 φ v w = some (w + n) ∧ n ≤ 32 ∧ zia v.toNat n := by
  unfold z85
  by_cases c : 65536 ≤ v
  · rw [if_pos (by simpa using c), Int.fdiv_eq_ediv_of_nonneg _ (by omega), W_id (by omega) (by omega)]
    obtain ⟨n, e, hn, hl⟩ := zqj φ (v / 65536) (w + 16) (by omega) (by omega) (by omega) (by omega)
    refine ⟨n + 16, by rw [e]; congr 1; omega, by omega, ?_⟩
    refine zia.up 16 ?_ (by omega)
    rwa [show v.toNat / 2 ^ 16 = (v / 65536).toNat by omega]
  · rw [if_neg (by simpa using c)]
    obtain ⟨n, e, hn, hl⟩ := zqj φ v w h (by omega) (by omega) (by omega)
    exact ⟨n, e, by omega, hl⟩
theorem zmj (φ : Nat) (v : Int) (h : 0 ≤ v) (h' : v < 18446744073709551616) : ∃ n : Nat, za0 φ v = some (n : Int) ∧ n ≤ 64 ∧ zia v.toNat n := by
  unfold za0
  by_cases c : 4294967296 ≤ v
  · rw [if_pos (by simpa using c), Int.fdiv_eq_ediv_of_nonneg _ (by omega)]
    obtain ⟨n, e, hn, hl⟩ := zr6 φ (v / 4294967296) 32 (by omega) (by omega) (by omega) (by omega)
    refine ⟨n + 32, by rw [e]; congr 1; omega, by omega, ?_⟩
    refine zia.up 32 ?_ (by omega)
    rwa [show v.toNat / 2 ^ 32 = (v / 4294967296).toNat by omega]
  · rw [if_neg (by simpa using c)]
    obtain ⟨n, e, hn, hl⟩ := zr6 φ v 0 h (by omega) (by omega) (by omega)
    exact ⟨n, by rw [e]; simp, by omega, hl⟩
theorem zgv {v : Int} (h : 0 ≤ v) (h' : v < 18446744073709551616) : U ((BitVec.ofInt (IntKind.bits .u64) v &&& BitVec.ofInt (IntKind.bits .u64) 4294967295).toNat) = v % 4294967296 := by
  show U ((BitVec.ofInt 64 v &&& BitVec.ofInt 64 4294967295).toNat : Int) = _
  rw [BitVec.toNat_and, za2 h h', za2 (by omega) (by omega), zsf (zr4 (by omega))]
  have : (4294967295 : Int).toNat = 2 ^ 32 - 1 := by decide
  rw [this, Nat.and_two_pow_sub_one_eq_mod]
  omega
theorem zft {a b m n : Int} (ha : 0 ≤ a) (hb : 0 ≤ b) (h : a ≤ m) (h' : b ≤ n) : 0 ≤ a * b ∧ a * b ≤ m * n :=
  ⟨Int.mul_nonneg ha hb, Int.mul_le_mul h h' hb (by omega)⟩
theorem zm3 (φ : Nat) (x y : Int) (hx : 0 ≤ x) (hx' : x < 18446744073709551616) (hy : 0 ≤ y) (hy' : y < 18446744073709551616) :
    zaa φ x y = some (x * y / 18446744073709551616, x * y % 18446744073709551616) := by
  unfold zaa
  rw [zgv hx hx', zgv hy hy', Int.fdiv_eq_ediv_of_nonneg _ (by omega), Int.fdiv_eq_ediv_of_nonneg _ (by omega)]
  have ex : x = x / 4294967296 * 4294967296 + x % 4294967296 := by omega
  have ey : y = y / 4294967296 * 4294967296 + y % 4294967296 := by omega
  have a1 : 0 ≤ x / 4294967296 ∧ x / 4294967296 ≤ 4294967295 := by omega
  have a0 : 0 ≤ x % 4294967296 ∧ x % 4294967296 ≤ 4294967295 := by omega
  have b1 : 0 ≤ y / 4294967296 ∧ y / 4294967296 ≤ 4294967295 := by omega
  have b0 : 0 ≤ y % 4294967296 ∧ y % 4294967296 ≤ 4294967295 := by omega
  have hxy : x * y = (x / 4294967296) * (y / 4294967296) * 18446744073709551616 + ((x / 4294967296) * (y % 4294967296) + (x % 4294967296) * (y / 4294967296)) * 4294967296 + (x % 4294967296) * (y % 4294967296) := by
    conv => lhs; rw [ex, ey]
    generalize x / 4294967296 = a; generalize x % 4294967296 = b; generalize y / 4294967296 = c; generalize y % 4294967296 = d
    rw [Int.add_mul, Int.mul_add, Int.mul_add, Int.add_mul]
    have e1 : a * 4294967296 * (c * 4294967296) = a * c * 18446744073709551616 := by
      rw [Int.mul_assoc, Int.mul_left_comm 4294967296 c, ← Int.mul_assoc]; rfl
    have e2 : a * 4294967296 * d = a * d * 4294967296 := by rw [Int.mul_right_comm]
    have e3 : b * (c * 4294967296) = b * c * 4294967296 := by rw [Int.mul_assoc]
    rw [e1, e2, e3]; omega
  have p11 := zft a1.1 b1.1 a1.2 b1.2
  have p10 := zft a1.1 b0.1 a1.2 b0.2
  have p01 := zft a0.1 b1.1 a0.2 b1.2
  have p00 := zft a0.1 b0.1 a0.2 b0.2
  rw [zng (x * y), hxy]
  generalize (x / 4294967296) * (y / 4294967296) = p at *; generalize (x / 4294967296) * (y % 4294967296) = q at *
  generalize (x % 4294967296) * (y / 4294967296) = r at *; generalize (x % 4294967296) * (y % 4294967296) = s at *
  clear hxy ex ey a1 a0 b1 b0
  rw [U_id (x := p) (by omega) (by omega), U_id (x := q) (by omega) (by omega), U_id (x := r) (by omega) (by omega), U_id (x := s) (by omega) (by omega)]
  rw [Int.fdiv_eq_ediv_of_nonneg s (by omega), U_id (x := q + s / 4294967296) (by omega) (by omega), zgv (by omega) (by omega), Int.fdiv_eq_ediv_of_nonneg (q + s / 4294967296) (by omega),
    U_id (x := (q + s / 4294967296) % 4294967296 + r) (by omega) (by omega), Int.fdiv_eq_ediv_of_nonneg ((q + s / 4294967296) % 4294967296 + r) (by omega),
    U_id (x := p + (q + s / 4294967296) / 4294967296) (by omega) (by omega), U_id (by omega) (by omega)]
  congr 2
  omega
/-- One zvv of the quotient: what the two loops find. -/
theorem zvv {yn1 yn0 u d q r : Int} (h1 : 2147483648 ≤ yn1) (h1' : yn1 < 4294967296) (h0 : 0 ≤ yn0) (h0' : yn0 < 4294967296) (hd : 0 ≤ d) (hd' : d < 4294967296) (hu : 0 ≤ u)
    (hu' : u < yn1 * 4294967296 + yn0) (hqr : q * yn1 + r = u) (hr : 0 ≤ r) (hr' : r < 4294967296) (hq : (u * 4294967296 + d) / (yn1 * 4294967296 + yn0) ≤ q) :
    0 ≤ q ∧ q ≤ 4294967297 ∧ 0 ≤ (u * 4294967296 + d) / (yn1 * 4294967296 + yn0) ∧ (u * 4294967296 + d) / (yn1 * 4294967296 + yn0) < 4294967296 ∧
    (4294967296 ≤ q ∨ 4294967296 * r + d < q * yn0 → (u * 4294967296 + d) / (yn1 * 4294967296 + yn0) ≤ q - 1) ∧
    (¬ (4294967296 ≤ q ∨ 4294967296 * r + d < q * yn0) → q = (u * 4294967296 + d) / (yn1 * 4294967296 + yn0)) ∧
    (4294967296 ≤ q ∨ 4294967296 * r + d < q * yn0 → 4294967296 ≤ r + yn1 → q - 1 = (u * 4294967296 + d) / (yn1 * 4294967296 + yn0)) := by
  have hY : 0 < yn1 * 4294967296 + yn0 := by omega
  have hQ0 : 0 ≤ (u * 4294967296 + d) / (yn1 * 4294967296 + yn0) := Int.ediv_nonneg (by omega) (by omega)
  have hQ1 : (u * 4294967296 + d) / (yn1 * 4294967296 + yn0) < 4294967296 := Int.ediv_lt_of_lt_mul hY (by omega)
  have hq0 : 0 ≤ q := by omega
  have key : q * (yn1 * 4294967296 + yn0) = (u - r) * 4294967296 + q * yn0 := by
    rw [Int.mul_add, ← Int.mul_assoc, ← hqr]; omega
  have hq2 : q ≤ 4294967297 := by
    rcases Int.lt_or_le 4294967297 q with h | h
    · have : 4294967298 * yn1 ≤ q * yn1 := Int.mul_le_mul_of_nonneg_right (by omega) (by omega)
      omega
    · exact h
  have lt_of : ∀ {z : Int}, (u * 4294967296 + d) / (yn1 * 4294967296 + yn0) < z ↔ u * 4294967296 + d < z * (yn1 * 4294967296 + yn0) := fun {z} => Int.ediv_lt_iff_lt_mul hY
  refine ⟨hq0, hq2, hQ0, hQ1, fun h => ?_, fun h => ?_, fun h hr2 => ?_⟩
  · have : (u * 4294967296 + d) / (yn1 * 4294967296 + yn0) < q := by
      rcases h with h | h
      · omega
      · rw [lt_of, key]; omega
    omega
  · have : ¬ (u * 4294967296 + d) / (yn1 * 4294967296 + yn0) < q := by rw [lt_of, key]; omega
    omega
  · have hq1 : (u * 4294967296 + d) / (yn1 * 4294967296 + yn0) < q := by
      rcases h with h | h
      · omega
      · rw [lt_of, key]; omega
    have h2 : ¬ (u * 4294967296 + d) / (yn1 * 4294967296 + yn0) < q - 1 := by
      rw [lt_of]
      have e : (q - 1) * (yn1 * 4294967296 + yn0) = (u - (r + yn1)) * 4294967296 + (q - 1) * yn0 := by
        have : (q - 1) * yn1 + (r + yn1) = u := by rw [Int.sub_mul]; omega
        rw [Int.mul_add, ← Int.mul_assoc, ← this]; omega
      have b := (zft (by omega : 0 ≤ q - 1) h0 (by omega : q - 1 ≤ 4294967296) (by omega : yn0 ≤ 4294967295)).2
      rw [e]; omega
    omega
theorem mulB {a b : Int} (h : 0 ≤ a) (h' : a < 4294967296) (g : 0 ≤ b) (g' : b < 4294967296) : 0 ≤ a * b ∧ a * b ≤ 18446744065119617025 :=
  zft h g (by omega : a ≤ 4294967295) (by omega : b ≤ 4294967295)
theorem ziq {ρ : Type} (L : Nat → Int → Int → Option ρ) (k : Int → Option ρ) {yn1 yn0 u d : Int} (h1 : 2147483648 ≤ yn1) (h1' : yn1 < 4294967296) (h0 : 0 ≤ yn0) (h0' : yn0 < 4294967296) (hd : 0 ≤ d) (hd' : d < 4294967296) (hu : 0 ≤ u)
    (hu' : u < yn1 * 4294967296 + yn0)
    (step : ∀ n q r, L (n + 1) q r = if (decide (4294967296 ≤ q) || decide (U (U (4294967296 * r) + d) < U (q * yn0))) = true then (if decide (4294967296 ≤ U (r + yn1)) = true then k (U (q - 1)) else L n (U (q - 1)) (U (r + yn1))) else k q) :
    ∀ (n : Nat) q r, q * yn1 + r = u → 0 ≤ r → r < 4294967296 → (u * 4294967296 + d) / (yn1 * 4294967296 + yn0) ≤ q → 4294967296 - r ≤ 2147483648 * n → L (n + 1) q r = k ((u * 4294967296 + d) / (yn1 * 4294967296 + yn0)) := by
  intro n
  induction n with
  | zero => intro q r _ _ _ _ h; omega
  | succ n ih =>
    intro q r hqr hr hr' hq hn
    obtain ⟨g0, g1, g2, g3, g4, g5, g6⟩ := zvv h1 h1' h0 h0' hd hd' hu hu' hqr hr hr' hq
    have hc : (decide (4294967296 ≤ q) || decide (U (U (4294967296 * r) + d) < U (q * yn0))) = true ↔ (4294967296 ≤ q ∨ 4294967296 * r + d < q * yn0) := by
      rw [Bool.or_eq_true, decide_eq_true_eq, decide_eq_true_eq]
      by_cases hqB : 4294967296 ≤ q
      · simp [hqB]
      · have := mulB g0 (by omega : q < 4294967296) h0 h0'
        rw [U_id (x := 4294967296 * r) (by omega) (by omega), U_id (by omega) (by omega), U_id (by omega) (by omega)]
    rw [step]
    by_cases c : 4294967296 ≤ q ∨ 4294967296 * r + d < q * yn0
    · have a4 := g4 c
      rw [if_pos (hc.2 c), U_id (x := r + yn1) (by omega) (by omega), U_id (x := q - 1) (by omega) (by omega)]
      by_cases e : 4294967296 ≤ r + yn1
      · rw [if_pos (by simpa using e), g6 c e]
      · rw [if_neg (by simpa using e)]
        exact ih _ _ (by rw [Int.sub_mul]; omega) (by omega) (by omega) a4 (by omega)
    · rw [if_neg (fun h => c (hc.1 h)), ← g5 c]
/-- The first guess. -/
theorem zgu {yn1 yn0 u d : Int} (h1 : 2147483648 ≤ yn1) (h1' : yn1 < 4294967296) (h0 : 0 ≤ yn0) (h0' : yn0 < 4294967296) (hd : 0 ≤ d) (hd' : d < 4294967296) (hu : 0 ≤ u)
    (hu' : u < yn1 * 4294967296 + yn0) : U (u.tdiv yn1) = u / yn1 ∧ U (u - U (U (u.tdiv yn1) * yn1)) = u % yn1 ∧ u / yn1 * yn1 + u % yn1 = u ∧ 0 ≤ u % yn1 ∧ u % yn1 < 4294967296 ∧
    (u * 4294967296 + d) / (yn1 * 4294967296 + yn0) ≤ u / yn1 := by
  have e1 : u.tdiv yn1 = u / yn1 := Int.tdiv_eq_ediv_of_nonneg hu
  have hdm : u / yn1 * yn1 + u % yn1 = u := by have := Int.ediv_mul_add_emod u yn1; exact this
  have hm0 := Int.emod_nonneg u (by omega : yn1 ≠ 0)
  have hm1 := Int.emod_lt_of_pos u (by omega : 0 < yn1)
  have hq0 : 0 ≤ u / yn1 := Int.ediv_nonneg hu (by omega)
  have hq1 : u / yn1 ≤ u := Int.ediv_le_self _ hu
  have hqm : 0 ≤ u / yn1 * yn1 := Int.mul_nonneg hq0 (by omega)
  rw [e1, U_id hq0 (by omega), U_id (x := u / yn1 * yn1) (by omega) (by omega), U_id (by omega) (by omega)]
  refine ⟨rfl, by omega, hdm, hm0, by omega, ?_⟩
  have hY : 0 < yn1 * 4294967296 + yn0 := by omega
  have hQ0 : 0 ≤ (u * 4294967296 + d) / (yn1 * 4294967296 + yn0) := Int.ediv_nonneg (by omega) (by omega)
  have hQ := Int.ediv_mul_le (u * 4294967296 + d) (b := yn1 * 4294967296 + yn0) (by omega)
  generalize (u * 4294967296 + d) / (yn1 * 4294967296 + yn0) = z at *
  rw [Int.mul_add, ← Int.mul_assoc] at hQ
  have := Int.mul_nonneg hQ0 h0
  exact (Int.le_ediv_iff_mul_le (by omega)).2 (by omega)
theorem zqo (a b c : Int) : U (U (U a + b) - U c) = U (a + b - c) := by
  simp only [zng]; omega
theorem ztm {a b : Int} {s : Nat} (hs : s ≤ 63) (ha : 0 ≤ a) (h : a * 2 ^ s < 18446744073709551616) (hb : 0 ≤ b) (hb' : b < 2 ^ s) :
    U ((BitVec.ofInt (IntKind.bits .u64) (U (a * 2 ^ s)) ||| BitVec.ofInt (IntKind.bits .u64) b).toNat) = a * 2 ^ s + b := by
  have hp : (0 : Int) < 2 ^ s := Int.pow_pos (by decide)
  have hn := Int.mul_nonneg ha (Int.le_of_lt hp)
  have hp2 : (2 : Int) ^ s = ((2 ^ s : Nat) : Int) := by simp
  have hlt : (2 ^ s : Nat) < 18446744073709551616 := zpt hs
  rw [U_id hn (by omega)]
  show U ((BitVec.ofInt 64 (a * 2 ^ s) ||| BitVec.ofInt 64 b).toNat : Int) = _
  have hlt2 := (BitVec.ofInt 64 (a * 2 ^ s) ||| BitVec.ofInt 64 b).isLt
  rw [zsf (by omega), BitVec.toNat_or, za2 hn h, za2 hb (by omega)]
  obtain ⟨n, rfl⟩ := Int.eq_ofNat_of_zero_le ha
  obtain ⟨m, rfl⟩ := Int.eq_ofNat_of_zero_le hb
  have e : ((n : Int) * 2 ^ s).toNat = 2 ^ s * n := by rw [hp2, ← Int.natCast_mul, Int.toNat_natCast, Nat.mul_comm]
  rw [e, Int.toNat_natCast, ← Nat.two_pow_add_eq_or_of_lt (by rw [hp2] at hb'; omega)]
  simp [Int.mul_comm]
theorem zf8 (φ : Nat) (v : Int) (h : 0 < v) (h' : v < 18446744073709551616) : ∃ s : Nat, z6x φ v = some (s : Int) ∧ s ≤ 63 ∧
    9223372036854775808 ≤ v * 2 ^ s ∧ v * 2 ^ s < 18446744073709551616 ∧ v ≤ 2 ^ (64 - s) := by
  obtain ⟨n, e, hn, h1, h2⟩ := zmj φ v (by omega) h'
  obtain ⟨h3, h4⟩ := h2 (by omega)
  refine ⟨64 - n, ?_, by omega, ?_, ?_, ?_⟩
  · unfold z6x
    rw [e, Option.bind_some, W_id (by omega) (by omega)]
    congr 1; omega
  · have : 2 ^ (n - 1) * 2 ^ (64 - n) ≤ v.toNat * 2 ^ (64 - n) := Nat.mul_le_mul_right _ h4
    rw [← Nat.pow_add, show n - 1 + (64 - n) = 63 by omega] at this
    have e2 : ((v.toNat * 2 ^ (64 - n) : Nat) : Int) = v * 2 ^ (64 - n) := by
      rw [Int.natCast_mul, Int.natCast_pow]; congr 1; omega
    omega
  · have : v.toNat * 2 ^ (64 - n) < 2 ^ n * 2 ^ (64 - n) := Nat.mul_lt_mul_of_pos_right h1 (Nat.two_pow_pos _)
    rw [← Nat.pow_add, show n + (64 - n) = 64 by omega] at this
    have e2 : ((v.toNat * 2 ^ (64 - n) : Nat) : Int) = v * 2 ^ (64 - n) := by
      rw [Int.natCast_mul, Int.natCast_pow]; congr 1; omega
    omega
  · rw [show 64 - (64 - n) = n by omega]
    have e2 : ((2 ^ n : Nat) : Int) = (2 : Int) ^ n := by simp
    omega
theorem zq5 (φ : Nat) (hφ : 5 < φ) (hi lo y : Int) (h0 : 0 ≤ hi) (hy : hi < y) (hy' : y < 18446744073709551616) (hl : 0 ≤ lo) (hl' : lo < 18446744073709551616) :
    z92 φ hi lo y = some ((hi * 18446744073709551616 + lo) / y, (hi * 18446744073709551616 + lo) % y) := by
  unfold z92
  rw [if_neg (by simp; omega), if_neg (by simp; omega)]
  by_cases hz : hi = 0
  · subst hz
    rw [if_pos (by simp), zm (by omega), Int.tdiv_eq_ediv_of_nonneg hl, Int.tmod_eq_emod_of_nonneg hl, U_id (Int.ediv_nonneg hl (by omega)) (by have := Int.ediv_le_self y hl; omega)]
    simp
  rw [if_neg (by simpa using hz)]
  obtain ⟨s, es, hs, hY1, hY2, hyP⟩ := zf8 φ y (by omega) hy'
  rw [es, Option.bind_some, U_id (x := (s : Int)) (by omega) (by omega), zm (by omega), U_id (x := 64 - (s : Int)) (by omega) (by omega), zm (by omega)]
  have em1 : min (s : Int).toNat (IntKind.bits .u64) = s := by simp [IntKind.bits]; omega
  have em2 : min (64 - (s : Int)).toNat (IntKind.bits .u64) = 64 - s := by simp [IntKind.bits]
  rw [em1, em2]
  have hp : (0 : Int) < 2 ^ s := Int.pow_pos (by decide)
  have hP : (0 : Int) < 2 ^ (64 - s) := Int.pow_pos (by decide)
  have hpP : (2 : Int) ^ s * 2 ^ (64 - s) = 18446744073709551616 := by rw [← Int.pow_add, show s + (64 - s) = 64 by omega]; rfl
  have hhp : hi * 2 ^ s < y * 2 ^ s := Int.mul_lt_mul_of_pos_right hy hp
  have hlP0 : 0 ≤ lo / 2 ^ (64 - s) := Int.ediv_nonneg hl (by omega)
  have hlP1 : lo / 2 ^ (64 - s) < 2 ^ s := Int.ediv_lt_of_lt_mul hP (by omega)
  have hh0 : 0 ≤ hi * 2 ^ s := Int.mul_nonneg h0 (by omega)
  -- the low word
  have hlo10 : U (lo * 2 ^ s) = lo % 2 ^ (64 - s) * 2 ^ s := by
    have e : lo = lo / 2 ^ (64 - s) * 2 ^ (64 - s) + lo % 2 ^ (64 - s) := (Int.ediv_mul_add_emod lo _).symm
    have e2 : lo * 2 ^ s = lo / 2 ^ (64 - s) * 18446744073709551616 + lo % 2 ^ (64 - s) * 2 ^ s := by
      conv => lhs; rw [e]
      rw [Int.add_mul, Int.mul_assoc, Int.mul_comm (2 ^ (64 - s)), hpP]
    have m0 := Int.emod_nonneg lo (by omega : (2 : Int) ^ (64 - s) ≠ 0)
    have m1 := Int.emod_lt_of_pos lo hP
    have m2 : lo % 2 ^ (64 - s) * 2 ^ s < 2 ^ (64 - s) * 2 ^ s := Int.mul_lt_mul_of_pos_right m1 hp
    have m3 := Int.mul_nonneg m0 (Int.le_of_lt hp)
    rw [Int.mul_comm (2 ^ (64 - s))] at m2
    rw [e2, zng]; omega
  have hN : (hi * 2 ^ s + lo / 2 ^ (64 - s)) * 18446744073709551616 + lo % 2 ^ (64 - s) * 2 ^ s = (hi * 18446744073709551616 + lo) * 2 ^ s := by
    have e : lo = lo / 2 ^ (64 - s) * 2 ^ (64 - s) + lo % 2 ^ (64 - s) := (Int.ediv_mul_add_emod lo _).symm
    have e2 : lo * 2 ^ s = lo / 2 ^ (64 - s) * 18446744073709551616 + lo % 2 ^ (64 - s) * 2 ^ s := by
      conv => lhs; rw [e]
      rw [Int.add_mul, Int.mul_assoc, Int.mul_comm (2 ^ (64 - s)), hpP]
    have e3 : (hi * 18446744073709551616 + lo) * 2 ^ s = hi * 2 ^ s * 18446744073709551616 + lo * 2 ^ s := by rw [Int.add_mul, Int.mul_right_comm]
    rw [e3, e2]; omega
  have hun0 : 0 ≤ lo % 2 ^ (64 - s) * 2 ^ s := Int.mul_nonneg (Int.emod_nonneg lo (by omega)) (by omega)
  have hun1 : lo % 2 ^ (64 - s) * 2 ^ s < 18446744073709551616 := by
    rw [← hlo10, zng]; omega
  have hu' : hi * 2 ^ s + lo / 2 ^ (64 - s) < y * 2 ^ s := by
    have : (hi + 1) * 2 ^ s ≤ y * 2 ^ s := Int.mul_le_mul_of_nonneg_right (by omega) (by omega)
    rw [Int.add_mul] at this; omega
  have hs1 : U (s : Int) = s := U_id (by omega) (by omega)
  have hs2 : U (64 - (s : Int)) = 64 - (s : Int) := U_id (by omega) (by omega)
  have ef : lo.fdiv (2 ^ (64 - s)) = lo / 2 ^ (64 - s) := Int.fdiv_eq_ediv_of_nonneg _ (by omega)
  have eor := ztm hs h0 (by omega : hi * 2 ^ s < 18446744073709551616) hlP0 hlP1
  obtain ⟨Y, hYd⟩ : ∃ Y, Y = y * 2 ^ s := ⟨_, rfl⟩
  have eY : U (y * 2 ^ s) = Y := by rw [hYd]; exact U_id (by omega) (by omega)
  obtain ⟨u, hud⟩ : ∃ u, u = hi * 2 ^ s + lo / 2 ^ (64 - s) := ⟨_, rfl⟩
  obtain ⟨w, hwd⟩ : ∃ w, w = lo % 2 ^ (64 - s) * 2 ^ s := ⟨_, rfl⟩
  rw [← hwd] at hlo10 hN hun0 hun1
  rw [← hud] at hN hu' eor
  rw [← hYd] at hu' hY1 hY2 hhp
  have hu0 : 0 ≤ u := by omega
  have fY : Y.fdiv 4294967296 = Y / 4294967296 := Int.fdiv_eq_ediv_of_nonneg _ (by omega)
  have fw : w.fdiv 4294967296 = w / 4294967296 := Int.fdiv_eq_ediv_of_nonneg _ (by omega)
  have mY := zgv (v := Y) (by omega) (by omega)
  have mw := zgv (v := w) (by omega) (by omega)
  have b1 : 2147483648 ≤ Y / 4294967296 ∧ Y / 4294967296 < 4294967296 ∧ 0 ≤ Y % 4294967296 ∧ Y % 4294967296 < 4294967296 := by omega
  have b2 : 0 ≤ w / 4294967296 ∧ w / 4294967296 < 4294967296 ∧ 0 ≤ w % 4294967296 ∧ w % 4294967296 < 4294967296 := by omega
  have eYs : Y / 4294967296 * 4294967296 + Y % 4294967296 = Y := by omega
  have stepA : ∀ (K : Int → Option (Int × Int)) n q r, z5n φ lo y s K (n + 1) q r = if (decide (4294967296 ≤ q) || decide (U (U (4294967296 * r) + w / 4294967296) < U (q * (Y % 4294967296)))) = true then
      (if decide (4294967296 ≤ U (r + Y / 4294967296)) = true then K (U (q - 1)) else z5n φ lo y s K n (U (q - 1)) (U (r + Y / 4294967296))) else K q := by
    intro K n q r
    rw [z5n]
    simp only [hs1, hs2, em1, em2, eY, hlo10, fY, fw, mY, mw]
  have stepB : ∀ (K : Int → Option (Int × Int)) n q r, z5p φ lo y s K (n + 1) r q = if (decide (4294967296 ≤ q) || decide (U (U (4294967296 * r) + w % 4294967296) < U (q * (Y % 4294967296)))) = true then
      (if decide (4294967296 ≤ U (r + Y / 4294967296)) = true then K (U (q - 1)) else z5p φ lo y s K n (U (r + Y / 4294967296)) (U (q - 1))) else K q := by
    intro K n q r
    rw [z5p]
    simp only [hs1, hs2, em1, em2, eY, hlo10, fY, fw, mY, mw]
  obtain ⟨m, rfl⟩ : ∃ m, φ = m + 3 := ⟨φ - 3, by omega⟩
  rw [ef, eor, eY, fY, zm (by omega)]
  obtain ⟨i1, i2, i3, i4, i5, i6⟩ := zgu (u := u) (d := w / 4294967296) b1.1 b1.2.1 b1.2.2.1 b1.2.2.2 b2.1 b2.2.1 hu0 (by omega)
  rw [i1] at i2 ⊢
  rw [i2, ziq (z5n (m + 3) lo y s _) _ b1.1 b1.2.1 b1.2.2.1 b1.2.2.2 b2.1 b2.2.1 hu0 (by omega) (stepA _) (m + 2) _ _ i3 i4 i5 i6 (by omega)]
  rw [eYs]
  unfold z7o
  simp only [hs1, hs2, em1, em2, eY, hlo10, fY, fw, ef, eor]
  rw [zm (by omega)]
  have hQ1 : 0 ≤ (u * 4294967296 + w / 4294967296) / Y ∧ (u * 4294967296 + w / 4294967296) / Y < 4294967296 := ⟨Int.ediv_nonneg (by omega) (by omega), Int.ediv_lt_of_lt_mul (by omega) (by omega)⟩
  have hR1 := Int.ediv_mul_add_emod (u * 4294967296 + w / 4294967296) Y
  have hR1a := Int.emod_nonneg (u * 4294967296 + w / 4294967296) (by omega : Y ≠ 0)
  have hR1b := Int.emod_lt_of_pos (u * 4294967296 + w / 4294967296) (by omega : 0 < Y)
  generalize (u * 4294967296 + w / 4294967296) / Y = q1 at *
  generalize (u * 4294967296 + w / 4294967296) % Y = r1 at *
  have eu21 : U (U (U (u * 4294967296) + w / 4294967296) - U (q1 * Y)) = r1 := by
    rw [zqo, show u * 4294967296 + w / 4294967296 - q1 * Y = r1 by omega]; exact U_id hR1a (by omega)
  rw [eu21]
  obtain ⟨j1, j2, j3, j4, j5, j6⟩ := zgu (u := r1) (d := w % 4294967296) b1.1 b1.2.1 b1.2.2.1 b1.2.2.2 b2.2.2.1 b2.2.2.2 hR1a (by omega)
  rw [j1] at j2 ⊢
  rw [j2]
  refine (ziq (fun n q r => z5p (m + 3) lo y s _ n r q) _ b1.1 b1.2.1 b1.2.2.1 b1.2.2.2 b2.2.2.1 b2.2.2.2 hR1a (by omega) (fun n q r => stepB _ n q r) (m + 2) _ _ j3 j4 j5 j6 (by omega)).trans ?_
  rw [eYs]
  unfold z7k
  simp only [hs1, hs2, em1, em2, eY, hlo10, fY, fw, mw, ef, eor, eu21]
  rw [zm (by omega)]
  have hQ0 : 0 ≤ (r1 * 4294967296 + w % 4294967296) / Y ∧ (r1 * 4294967296 + w % 4294967296) / Y < 4294967296 := ⟨Int.ediv_nonneg (by omega) (by omega), Int.ediv_lt_of_lt_mul (by omega) (by omega)⟩
  have hR0 := Int.ediv_mul_add_emod (r1 * 4294967296 + w % 4294967296) Y
  have hR0a := Int.emod_nonneg (r1 * 4294967296 + w % 4294967296) (by omega : Y ≠ 0)
  have hR0b := Int.emod_lt_of_pos (r1 * 4294967296 + w % 4294967296) (by omega : 0 < Y)
  generalize (r1 * 4294967296 + w % 4294967296) / Y = q0 at *
  generalize (r1 * 4294967296 + w % 4294967296) % Y = r0 at *
  rw [zqo, show r1 * 4294967296 + w % 4294967296 - q0 * Y = r0 by omega, U_id (x := r0) hR0a (by omega), U_id (x := q1 * 4294967296) (by omega) (by omega), U_id (by omega) (by omega), Int.fdiv_eq_ediv_of_nonneg _ (by omega)]
  have hall : (hi * 18446744073709551616 + lo - (q1 * 4294967296 + q0) * y) * 2 ^ s = r0 := by
    rw [Int.sub_mul, ← hN, Int.mul_assoc, ← hYd, Int.add_mul, Int.mul_right_comm]; omega
  have hz0 : 0 ≤ hi * 18446744073709551616 + lo - (q1 * 4294967296 + q0) * y := by
    rcases Int.lt_or_le (hi * 18446744073709551616 + lo - (q1 * 4294967296 + q0) * y) 0 with h | h
    · have := Int.mul_neg_of_neg_of_pos h hp; omega
    · exact h
  have hz1 : hi * 18446744073709551616 + lo - (q1 * 4294967296 + q0) * y < y := by
    refine Int.lt_of_mul_lt_mul_right (a := 2 ^ s) ?_ (by omega)
    rw [hall, ← hYd]; exact hR0b
  have hr0 : r0 / 2 ^ s = hi * 18446744073709551616 + lo - (q1 * 4294967296 + q0) * y := by
    rw [← hall]; exact Int.mul_ediv_cancel _ (by omega)
  have hdm : (hi * 18446744073709551616 + lo) / y = q1 * 4294967296 + q0 ∧ (hi * 18446744073709551616 + lo) % y = hi * 18446744073709551616 + lo - (q1 * 4294967296 + q0) * y :=
    (Int.ediv_emod_unique (by omega)).2 ⟨by rw [Int.mul_comm y]; omega, hz0, hz1⟩
  rw [hr0, hdm.1, hdm.2]
end Px
end
