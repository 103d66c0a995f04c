/- The law computes what was read out of it. Conditions: none. -/
import Derived.Test.YtbfoamlmlbmmnaaQcC
set_option linter.unusedVariables false
set_option linter.unusedSimpArgs false
set_option maxHeartbeats 4000000
set_option maxRecDepth 100000
namespace Px
open Go Go.RowKit Go.Proofs
theorem law09_FleetMatches_ok {P : Program} (H : P = Try.prog) (φ : Nat) (v1 : Fleet) (v2 : law09_Question) (r : (Bool)) (h : law09_FleetMatches φ v1 v2 = some r) : PureT P 3 [(agg (eFleet v1)), (agg (elaw09_Question v2))] (fun x news => x = (bv r) ∧ news = []) := by
  unfold law09_FleetMatches at h
  refine PureT.of_code' 126 (fn3 H) rfl rfl (Nat.le_of_ble_eq_true rfl) fun w0 base r0 wI => ?_
  refine cl [0, 1] [] rfl rfl rfl ?_
  refine cs (cr [0, 1, 2] rfl ?_)
  refine RunOps.cons rfl rfl rfl (opBox (cs := (eFleet v1)) (Ce.agg (mv rfl)) fun b3 => ?_)
  refine RunOps.cons rfl rfl rfl (opBox (cs := (elaw09_Question v2)) (Ce.agg (mv rfl)) fun b4 => ?_)
  refine cq rfl rfl rfl (opAssign (Ev.const _)) ?_
  refine rn (al [2, 3] [0, 1] rfl rfl rfl (sq (cs (cs (cr [0, 1] rfl ?_)))))
  refine bindE h fun y5 ey5 h => ?_
  refine cq rfl rfl rfl (opCallQ (fnok10 H) (args := []) trivial (law09_sane_ok H φ  _ ey5) flat_eqv) ?_
  refine cq rfl rfl rfl (opNot (mv rfl)) ?_
  refine rn (al [2, 3, 18] [0, 1] rfl rfl rfl (sq ?_))
  refine CodeT.cond (!y5) (evBool (mv rfl)) (fun c6 => ?_) (fun c6 => ?_)
  · rw [if_pos c6] at h
    refine cs (cr [0] rfl ?_)
    refine cq rfl rfl rfl (opAssign (Ev.const _)) ?_
    refine rn (al [4] [] rfl rfl rfl (sq ?_))
    refine CodeT.ret ?_
    refine AtX.then_ret ?_
    refine AtX.ret' (bv false) (ResOK.one Try.results3 rfl) [] [] trivial rfl ?_
    obtain rfl := Option.some.inj h
    exact ⟨rfl, rfl⟩
  · rw [if_neg (bne_true c6)] at h
    refine CodeT.skip ?_
    refine al [2, 3] [0, 1] rfl rfl rfl ?_
    refine sq (cs (cs (cr [0, 1, 2] rfl ?_)))
    refine RunOps.cons_q (agg (eFleet v1)) rfl rfl rfl (opLoadN (tl27 H) ((Pt.box 0 (mv rfl) rfl rfl).take 4 (cs' := (eFleet v1)) rfl)) ?_
    refine bindE h fun y7 ey7 h => ?_
    refine cq rfl rfl rfl (opCallQ (fnok11 H) (args := [(agg (eFleet v1))]) ⟨EvF.of (mv rfl) FEnt.refl, trivial⟩ (law09_few_ok H φ v1 _ ey7) flat_eqv) ?_
    refine cq rfl rfl rfl (opNot (mv rfl)) ?_
    refine rn (al [2, 3, 21] [0, 1] rfl rfl rfl (sq ?_))
    refine CodeT.cond (!y7) (evBool (mv rfl)) (fun c8 => ?_) (fun c8 => ?_)
    · rw [if_pos c8] at h
      refine cs (cr [0] rfl ?_)
      refine cq rfl rfl rfl (opAssign (Ev.const _)) ?_
      refine rn (al [4] [] rfl rfl rfl (sq ?_))
      refine CodeT.ret ?_
      refine AtX.then_ret ?_
      refine AtX.ret' (bv true) (ResOK.one Try.results3 rfl) [] [] trivial rfl ?_
      obtain rfl := Option.some.inj h
      exact ⟨rfl, rfl⟩
    · rw [if_neg (bne_true c8)] at h
      refine CodeT.skip ?_
      refine al [2, 3] [0, 1] rfl rfl rfl ?_
      refine sq (cs (cr [0, 1, 2, 3, 4, 5, 6, 7, 8] rfl ?_))
      refine RunOps.cons_q (agg (eFleet v1)) rfl rfl rfl (opLoadN (tl27 H) ((Pt.box 0 (mv rfl) rfl rfl).take 4 (cs' := (eFleet v1)) rfl)) ?_
      refine cq rfl rfl rfl (opFieldP (fo29_3 H) (mv rfl)) ?_
      refine cq rfl rfl rfl (opLoad1 (tl3 H) ((Pt.box 1 (mv rfl) rfl rfl).take 1 (cs' := [(iv .i64 v2.fWanted)]) rfl)) ?_
      refine bindE h fun y9 ey9 h => ?_
      refine RunOps.cons rfl rfl rfl (opCallF (fnok12 H) (args := [(agg (eFleet v1)), (iv .i64 v2.fWanted)]) ⟨EvF.of (mv rfl) FEnt.refl, EvF.of (mv rfl) FEnt.refl, trivial⟩ (fleet_Given_ok H φ v1 v2.fWanted _ ey9) fun x12 nw13 hk11 => ?_)
      obtain ⟨sv10, rfl, rfl⟩ := hk11
      refine ⟨(flat_tup' ⟨flat_eqv, flat_eqv, trivial⟩), allFlatH ⟨flat_row' fSwap, trivial⟩, ?_⟩
      refine cq rfl rfl rfl (opMove (mv rfl)) ?_
      refine cq rfl rfl rfl (opExtract (mv rfl) rfl) ?_
      refine cq rfl rfl rfl (opExtract (mv rfl) rfl) ?_
      refine cq rfl rfl rfl (opAssign (mv rfl)) ?_
      refine cq rfl rfl rfl (opAssign (mv rfl)) ?_
      refine rn (al [2, 3, 5, 6] [0, 1, 2] rfl rfl rfl (sq (cs (cr [0, 1, 2, 3, 4, 5, 6, 7, 8] rfl ?_))))
      refine RunOps.cons_q (agg (eFleet v1)) rfl rfl rfl (opLoadN (tl27 H) ((Pt.box 0 (mv rfl) rfl rfl).take 4 (cs' := (eFleet v1)) rfl)) ?_
      refine cq rfl rfl rfl (opFieldP (fo29_3 H) (mv rfl)) ?_
      refine cq rfl rfl rfl (opLoad1 (tl3 H) ((Pt.box 1 (mv rfl) rfl rfl).take 1 (cs' := [(iv .i64 v2.fWanted)]) rfl)) ?_
      refine bindE h fun y14 ey14 h => ?_
      refine RunOps.cons rfl rfl rfl (opCallF (fnok13 H) (args := [(agg (eFleet v1)), (iv .i64 v2.fWanted)]) ⟨EvF.of (mv rfl) FEnt.refl, EvF.of (mv rfl) FEnt.refl, trivial⟩ (ref09_Given_ok H φ v1 v2.fWanted _ ey14) fun x17 nw18 hk16 => ?_)
      obtain ⟨sv15, rfl, rfl⟩ := hk16
      refine ⟨(flat_tup' ⟨flat_eqv, flat_eqv, trivial⟩), allFlatH ⟨flat_row' fSwap, trivial⟩, ?_⟩
      refine cq rfl rfl rfl (opMove (mv rfl)) ?_
      refine cq rfl rfl rfl (opExtract (mv rfl) rfl) ?_
      refine cq rfl rfl rfl (opExtract (mv rfl) rfl) ?_
      refine cq rfl rfl rfl (opAssign (mv rfl)) ?_
      refine cq rfl rfl rfl (opAssign (mv rfl)) ?_
      refine rn (al [2, 3, 5, 6, 7, 8] [0, 1, 2, 3] rfl rfl rfl (sq (cs (cr [0, 1, 2, 3, 4, 5, 6, 7, 8, 9, 10] rfl ?_))))
      refine RunOps.cons_q (agg (eFleet v1)) rfl rfl rfl (opLoadN (tl27 H) ((Pt.box 0 (mv rfl) rfl rfl).take 4 (cs' := (eFleet v1)) rfl)) ?_
      refine cq rfl rfl rfl (opFieldP (fo29_1 H) (mv rfl)) ?_
      refine cq rfl rfl rfl (opLoad1 (tl3 H) ((Pt.box 1 (mv rfl) rfl rfl).take 1 (cs' := [(iv .i64 v2.fClass)]) rfl)) ?_
      refine cq rfl rfl rfl (opFieldP (fo29_4 H) (mv rfl)) ?_
      refine cq rfl rfl rfl (opLoad1 (tl3 H) ((Pt.box 1 (mv rfl) rfl rfl).take 1 (cs' := [(iv .i64 v2.fTo)]) rfl)) ?_
      refine bindE h fun y19 ey19 h => ?_
      refine cq rfl rfl rfl (opCallQ (fnok14 H) (args := [(agg (eFleet v1)), (iv .i64 v2.fClass), (iv .i64 v2.fTo)]) ⟨EvF.of (mv rfl) FEnt.refl, EvF.of (mv rfl) FEnt.refl, EvF.of (mv rfl) FEnt.refl, trivial⟩ (fleet_Clean_ok H φ v1 v2.fClass v2.fTo _ ey19) (flat_tup' ⟨flat_eqv, flat_eqv, trivial⟩)) ?_
      refine cq rfl rfl rfl (opMove (mv rfl)) ?_
      refine cq rfl rfl rfl (opExtract (mv rfl) rfl) ?_
      refine cq rfl rfl rfl (opExtract (mv rfl) rfl) ?_
      refine cq rfl rfl rfl (opAssign (mv rfl)) ?_
      refine cq rfl rfl rfl (opAssign (mv rfl)) ?_
      refine rn (al [2, 3, 5, 6, 7, 8, 9, 10] [0, 1, 2, 3] rfl rfl rfl (sq (cs (cr [0, 1, 2, 3, 4, 5, 6, 7, 8, 9, 10] rfl ?_))))
      refine RunOps.cons_q (agg (eFleet v1)) rfl rfl rfl (opLoadN (tl27 H) ((Pt.box 0 (mv rfl) rfl rfl).take 4 (cs' := (eFleet v1)) rfl)) ?_
      refine cq rfl rfl rfl (opFieldP (fo29_1 H) (mv rfl)) ?_
      refine cq rfl rfl rfl (opLoad1 (tl3 H) ((Pt.box 1 (mv rfl) rfl rfl).take 1 (cs' := [(iv .i64 v2.fClass)]) rfl)) ?_
      refine cq rfl rfl rfl (opFieldP (fo29_4 H) (mv rfl)) ?_
      refine cq rfl rfl rfl (opLoad1 (tl3 H) ((Pt.box 1 (mv rfl) rfl rfl).take 1 (cs' := [(iv .i64 v2.fTo)]) rfl)) ?_
      refine bindE h fun y20 ey20 h => ?_
      refine cq rfl rfl rfl (opCallQ (fnok15 H) (args := [(agg (eFleet v1)), (iv .i64 v2.fClass), (iv .i64 v2.fTo)]) ⟨EvF.of (mv rfl) FEnt.refl, EvF.of (mv rfl) FEnt.refl, EvF.of (mv rfl) FEnt.refl, trivial⟩ (ref09_Clean_ok H φ v1 v2.fClass v2.fTo _ ey20) (flat_tup' ⟨flat_eqv, flat_eqv, trivial⟩)) ?_
      refine cq rfl rfl rfl (opMove (mv rfl)) ?_
      refine cq rfl rfl rfl (opExtract (mv rfl) rfl) ?_
      refine cq rfl rfl rfl (opExtract (mv rfl) rfl) ?_
      refine cq rfl rfl rfl (opAssign (mv rfl)) ?_
      refine cq rfl rfl rfl (opAssign (mv rfl)) ?_
      refine rn (al [2, 3, 5, 6, 7, 8, 9, 10, 11, 12] [0, 1, 2, 3] rfl rfl rfl (sq (cs (cr [0, 1, 2, 3, 4, 5, 6, 7, 8, 9, 10] rfl ?_))))
      refine RunOps.cons_q (agg (eFleet v1)) rfl rfl rfl (opLoadN (tl27 H) ((Pt.box 0 (mv rfl) rfl rfl).take 4 (cs' := (eFleet v1)) rfl)) ?_
      refine cq rfl rfl rfl (opFieldP (fo29_0 H) (mv rfl)) ?_
      refine cq rfl rfl rfl (opLoad1 (tl3 H) ((Pt.box 1 (mv rfl) rfl rfl).take 1 (cs' := [(iv .i64 v2.fWagon)]) rfl)) ?_
      refine cq rfl rfl rfl (opFieldP (fo29_5 H) (mv rfl)) ?_
      refine cq rfl rfl rfl (opLoad1 (tl3 H) ((Pt.box 1 (mv rfl) rfl rfl).take 1 (cs' := [(iv .i64 v2.fAt)]) rfl)) ?_
      refine bindE h fun y21 ey21 h => ?_
      refine cq rfl rfl rfl (opCallQ (fnok16 H) (args := [(agg (eFleet v1)), (iv .i64 v2.fWagon), (iv .i64 v2.fAt)]) ⟨EvF.of (mv rfl) FEnt.refl, EvF.of (mv rfl) FEnt.refl, EvF.of (mv rfl) FEnt.refl, trivial⟩ (fleet_Worth_ok H φ v1 v2.fWagon v2.fAt _ ey21) (flat_tup' ⟨flat_eqv, flat_eqv, trivial⟩)) ?_
      refine cq rfl rfl rfl (opMove (mv rfl)) ?_
      refine cq rfl rfl rfl (opExtract (mv rfl) rfl) ?_
      refine cq rfl rfl rfl (opExtract (mv rfl) rfl) ?_
      refine cq rfl rfl rfl (opAssign (mv rfl)) ?_
      refine cq rfl rfl rfl (opAssign (mv rfl)) ?_
      refine rn (al [2, 3, 5, 6, 7, 8, 9, 10, 11, 12, 13, 14] [0, 1, 2, 3] rfl rfl rfl (sq (cs (cr [0, 1, 2, 3, 4, 5, 6, 7, 8, 9, 10] rfl ?_))))
      refine RunOps.cons_q (agg (eFleet v1)) rfl rfl rfl (opLoadN (tl27 H) ((Pt.box 0 (mv rfl) rfl rfl).take 4 (cs' := (eFleet v1)) rfl)) ?_
      refine cq rfl rfl rfl (opFieldP (fo29_0 H) (mv rfl)) ?_
      refine cq rfl rfl rfl (opLoad1 (tl3 H) ((Pt.box 1 (mv rfl) rfl rfl).take 1 (cs' := [(iv .i64 v2.fWagon)]) rfl)) ?_
      refine cq rfl rfl rfl (opFieldP (fo29_5 H) (mv rfl)) ?_
      refine cq rfl rfl rfl (opLoad1 (tl3 H) ((Pt.box 1 (mv rfl) rfl rfl).take 1 (cs' := [(iv .i64 v2.fAt)]) rfl)) ?_
      refine bindE h fun y22 ey22 h => ?_
      refine cq rfl rfl rfl (opCallQ (fnok17 H) (args := [(agg (eFleet v1)), (iv .i64 v2.fWagon), (iv .i64 v2.fAt)]) ⟨EvF.of (mv rfl) FEnt.refl, EvF.of (mv rfl) FEnt.refl, EvF.of (mv rfl) FEnt.refl, trivial⟩ (ref09_Worth_ok H φ v1 v2.fWagon v2.fAt _ ey22) (flat_tup' ⟨flat_eqv, flat_eqv, trivial⟩)) ?_
      refine cq rfl rfl rfl (opMove (mv rfl)) ?_
      refine cq rfl rfl rfl (opExtract (mv rfl) rfl) ?_
      refine cq rfl rfl rfl (opExtract (mv rfl) rfl) ?_
      refine cq rfl rfl rfl (opAssign (mv rfl)) ?_
      refine cq rfl rfl rfl (opAssign (mv rfl)) ?_
      refine rn (al [2, 3, 5, 6, 7, 8, 9, 10, 11, 12, 13, 14, 15, 16] [0, 1, 2, 3] rfl rfl rfl (sq (cs ?_)))
      refine bindE h fun y23 ey23 h => ?_
      refine bindE h fun y24 ey24 h => ?_
      refine bindE h fun y33 ey33 h => ?_
      refine bindE h fun y42 ey42 h => ?_
      refine bindE h fun y48 ey48 h => ?_
      refine CodeT.draw (QR := [(0, (agg (eFleet v1))), (1, (iv .i64 y23)), (2, (agg (eFleet v1))), (3, (iv .i64 y24)), (4, (bv (y23 == y24))), (5, (bv (y23 == y24))), (6, (cnd ((y23 == y24) = true) (agg (eFleet v1)))), (7, (cnd ((y23 == y24) = true) (eqv (.pointer (some ⟨b4, 0, none⟩))))), (8, (cnd ((y23 == y24) = true) (iv .i64 v2.fWagon))), (9, (cnd ((y23 == y24) = true) (eqv (.pointer (some ⟨b4, 1, none⟩))))), (10, (cnd ((y23 == y24) = true) (iv .i64 v2.fClass))), (11, (cnd ((y23 == y24) = true) (eqv (.pointer (some ⟨b4, 2, none⟩))))), (12, (cnd ((y23 == y24) = true) (iv .i64 v2.fWeight))), (13, (cnd ((y23 == y24) = true) (iv .i64 y33))), (14, (cnd ((y23 == y24) = true) (agg (eFleet v1)))), (15, (cnd ((y23 == y24) = true) (eqv (.pointer (some ⟨b4, 0, none⟩))))), (16, (cnd ((y23 == y24) = true) (iv .i64 v2.fWagon))), (17, (cnd ((y23 == y24) = true) (eqv (.pointer (some ⟨b4, 1, none⟩))))), (18, (cnd ((y23 == y24) = true) (iv .i64 v2.fClass))), (19, (cnd ((y23 == y24) = true) (eqv (.pointer (some ⟨b4, 2, none⟩))))), (20, (cnd ((y23 == y24) = true) (iv .i64 v2.fWeight))), (21, (cnd ((y23 == y24) = true) (iv .i64 y42))), (22, (cnd ((y23 == y24) = true) (bv (y33 == y42)))), (23, (bv ((y23 == y24) && (y33 == y42)))), (24, (bv ((y23 == y24) && (y33 == y42)))), (25, (cnd (((y23 == y24) && (y33 == y42)) = true) (eqv sv10))), (26, (cnd (((y23 == y24) && (y33 == y42)) = true) (eqv sv15))), (27, (cnd (((y23 == y24) && (y33 == y42)) = true) (bv y48))), (28, (bv (((y23 == y24) && (y33 == y42)) && y48))), (29, (bv (((y23 == y24) && (y33 == y42)) && y48))), (30, (cnd ((((y23 == y24) && (y33 == y42)) && y48) = true) (iv .i64 y9.2))), (31, (cnd ((((y23 == y24) && (y33 == y42)) && y48) = true) (iv .i64 y14.2))), (32, (cnd ((((y23 == y24) && (y33 == y42)) && y48) = true) (bv (y9.2 == y14.2)))), (33, (bv ((((y23 == y24) && (y33 == y42)) && y48) && (y9.2 == y14.2)))), (34, (bv ((((y23 == y24) && (y33 == y42)) && y48) && (y9.2 == y14.2)))), (35, (cnd (((((y23 == y24) && (y33 == y42)) && y48) && (y9.2 == y14.2)) = true) (iv .i64 y19.1))), (36, (cnd (((((y23 == y24) && (y33 == y42)) && y48) && (y9.2 == y14.2)) = true) (iv .i64 y20.1))), (37, (cnd (((((y23 == y24) && (y33 == y42)) && y48) && (y9.2 == y14.2)) = true) (bv (y19.1 == y20.1)))), (38, (bv (((((y23 == y24) && (y33 == y42)) && y48) && (y9.2 == y14.2)) && (y19.1 == y20.1)))), (39, (bv (((((y23 == y24) && (y33 == y42)) && y48) && (y9.2 == y14.2)) && (y19.1 == y20.1)))), (40, (cnd ((((((y23 == y24) && (y33 == y42)) && y48) && (y9.2 == y14.2)) && (y19.1 == y20.1)) = true) (iv .i64 y19.2))), (41, (cnd ((((((y23 == y24) && (y33 == y42)) && y48) && (y9.2 == y14.2)) && (y19.1 == y20.1)) = true) (iv .i64 y20.2))), (42, (cnd ((((((y23 == y24) && (y33 == y42)) && y48) && (y9.2 == y14.2)) && (y19.1 == y20.1)) = true) (bv (y19.2 == y20.2)))), (43, (bv ((((((y23 == y24) && (y33 == y42)) && y48) && (y9.2 == y14.2)) && (y19.1 == y20.1)) && (y19.2 == y20.2)))), (44, (bv ((((((y23 == y24) && (y33 == y42)) && y48) && (y9.2 == y14.2)) && (y19.1 == y20.1)) && (y19.2 == y20.2)))), (45, (cnd (((((((y23 == y24) && (y33 == y42)) && y48) && (y9.2 == y14.2)) && (y19.1 == y20.1)) && (y19.2 == y20.2)) = true) (iv .i64 y21.1))), (46, (cnd (((((((y23 == y24) && (y33 == y42)) && y48) && (y9.2 == y14.2)) && (y19.1 == y20.1)) && (y19.2 == y20.2)) = true) (iv .i64 y22.1))), (47, (cnd (((((((y23 == y24) && (y33 == y42)) && y48) && (y9.2 == y14.2)) && (y19.1 == y20.1)) && (y19.2 == y20.2)) = true) (bv (y21.1 == y22.1)))), (48, (bv (((((((y23 == y24) && (y33 == y42)) && y48) && (y9.2 == y14.2)) && (y19.1 == y20.1)) && (y19.2 == y20.2)) && (y21.1 == y22.1)))), (49, (bv (((((((y23 == y24) && (y33 == y42)) && y48) && (y9.2 == y14.2)) && (y19.1 == y20.1)) && (y19.2 == y20.2)) && (y21.1 == y22.1)))), (50, (cnd ((((((((y23 == y24) && (y33 == y42)) && y48) && (y9.2 == y14.2)) && (y19.1 == y20.1)) && (y19.2 == y20.2)) && (y21.1 == y22.1)) = true) (iv .i64 y21.2))), (51, (cnd ((((((((y23 == y24) && (y33 == y42)) && y48) && (y9.2 == y14.2)) && (y19.1 == y20.1)) && (y19.2 == y20.2)) && (y21.1 == y22.1)) = true) (iv .i64 y22.2))), (52, (cnd ((((((((y23 == y24) && (y33 == y42)) && y48) && (y9.2 == y14.2)) && (y19.1 == y20.1)) && (y19.2 == y20.2)) && (y21.1 == y22.1)) = true) (bv (y21.2 == y22.2)))), (53, (bv ((((((((y23 == y24) && (y33 == y42)) && y48) && (y9.2 == y14.2)) && (y19.1 == y20.1)) && (y19.2 == y20.2)) && (y21.1 == y22.1)) && (y21.2 == y22.2)))), (54, (bv ((((((((y23 == y24) && (y33 == y42)) && y48) && (y9.2 == y14.2)) && (y19.1 == y20.1)) && (y19.2 == y20.2)) && (y21.1 == y22.1)) && (y21.2 == y22.2))))]) (tab := [(some 72, []), (some 73, [0]), (some 74, []), (some 75, [2, 1]), (some 76, [1, 3]), (some 77, [4, 3]), (some 78, [5]), (some 79, [5]), (some 80, [7, 5]), (some 81, [5]), (some 82, [9, 5]), (some 83, [5]), (some 84, [11, 5]), (some 85, [6, 8, 10, 12, 5, 5]), (some 86, [5]), (some 87, [5]), (some 88, [15, 5]), (some 89, [5]), (some 90, [17, 5]), (some 91, [5]), (some 92, [19, 5]), (some 93, [14, 16, 18, 20, 13, 5]), (some 94, [13, 21, 5]), (some 95, [5, 22]), (some 96, [23, 21]), (some 97, [24]), (some 98, [24]), (some 99, [25, 26, 24, 24]), (some 100, [24, 27]), (some 101, [28, 27]), (some 102, [29]), (some 103, [29]), (some 104, [30, 31, 29]), (some 105, [29, 32]), (some 106, [33, 29]), (some 107, [34]), (some 108, [34]), (some 109, [35, 36, 34]), (some 110, [34, 37]), (some 111, [38, 34]), (some 112, [39]), (some 113, [39]), (some 114, [40, 41, 39]), (some 115, [39, 42]), (some 116, [43, 39]), (some 117, [44]), (some 118, [44]), (some 119, [45, 46, 44]), (some 120, [44, 47]), (some 121, [48, 44]), (some 122, [49]), (some 123, [49]), (some 124, [50, 51, 49]), (some 125, [49, 52]), (some 4, [53, 49, 0, 1, 2, 3, 4, 5, 6, 7, 8, 9, 10, 11, 12, 13, 14, 15, 16, 17, 18, 19, 20, 21, 22, 23, 24, 25, 26, 27, 28, 29, 30, 31, 32, 33, 34, 35, 36, 37, 38, 39, 40, 41, 42, 43, 44, 45, 46, 47, 48, 49, 50, 51, 52, 53])]) (mixed H) ?_
      refine Reg.intro [] [] (by kernel_rfl) rfl ⟨rfl, rfl, rfl, rfl, rfl, rfl, rfl, rfl, rfl, rfl, rfl, rfl, rfl, rfl, rfl, rfl, rfl, rfl, rfl, rfl, rfl, rfl, rfl, rfl, rfl, rfl, rfl, rfl, rfl, rfl, rfl, rfl, rfl, rfl, rfl, rfl, rfl, rfl, rfl, rfl, rfl, rfl, rfl, rfl, rfl, rfl, rfl, rfl, rfl, rfl, rfl, rfl, rfl, rfl, rfl, trivial⟩ ⟨(fun _ => ⟨_, rfl, (opLoadN (tl27 H) ((Pt.box 0 (mv rfl) rfl rfl).take 4 (cs' := (eFleet v1)) rfl))⟩), (fun _ => ⟨_, rfl, (opCallQ (fnok18 H) (args := [(agg (eFleet v1))]) ⟨EvF.of (mv rfl) FEnt.refl, trivial⟩ (fleet_Check_ok H φ v1 _ ey23) flat_eqv)⟩), (fun _ => ⟨_, rfl, (opLoadN (tl27 H) ((Pt.box 0 (mv rfl) rfl rfl).take 4 (cs' := (eFleet v1)) rfl))⟩), (fun _ => ⟨_, rfl, (opCallQ (fnok19 H) (args := [(agg (eFleet v1))]) ⟨EvF.of (mv rfl) FEnt.refl, trivial⟩ (ref09_Check_ok H φ v1 _ ey24) flat_eqv)⟩), (fun _ => ⟨_, rfl, (opEql (mv rfl) (mv rfl))⟩), (fun _ => ⟨_, rfl, (opMove (mv rfl))⟩), (fun _ => ⟨_, rfl, ⟨((y23 == y24) = true), (agg (eFleet v1)), 77, rfl, rfl, fun g25 => (opLoadN (tl27 H) ((Pt.box 0 (mv rfl) rfl rfl).take 4 (cs' := (eFleet v1)) rfl)), .inl ⟨(y23 == y24), rfl, rfl⟩⟩⟩), (fun _ => ⟨_, rfl, ⟨((y23 == y24) = true), (eqv (.pointer (some ⟨b4, 0, none⟩))), 77, rfl, rfl, fun g26 => (opFieldP (fo29_0 H) (mv rfl)), .inl ⟨(y23 == y24), rfl, rfl⟩⟩⟩), (fun _ => ⟨_, rfl, ⟨((y23 == y24) = true), (iv .i64 v2.fWagon), 77, rfl, rfl, fun g27 => (opLoad1 (tl3 H) ((Pt.box 1 (Ev.cnd (mv rfl) g27) rfl rfl).take 1 (cs' := [(iv .i64 v2.fWagon)]) rfl)), .inl ⟨(y23 == y24), rfl, rfl⟩⟩⟩), (fun _ => ⟨_, rfl, ⟨((y23 == y24) = true), (eqv (.pointer (some ⟨b4, 1, none⟩))), 77, rfl, rfl, fun g28 => (opFieldP (fo29_1 H) (mv rfl)), .inl ⟨(y23 == y24), rfl, rfl⟩⟩⟩), (fun _ => ⟨_, rfl, ⟨((y23 == y24) = true), (iv .i64 v2.fClass), 77, rfl, rfl, fun g29 => (opLoad1 (tl3 H) ((Pt.box 1 (Ev.cnd (mv rfl) g29) rfl rfl).take 1 (cs' := [(iv .i64 v2.fClass)]) rfl)), .inl ⟨(y23 == y24), rfl, rfl⟩⟩⟩), (fun _ => ⟨_, rfl, ⟨((y23 == y24) = true), (eqv (.pointer (some ⟨b4, 2, none⟩))), 77, rfl, rfl, fun g30 => (opFieldP (fo29_2 H) (mv rfl)), .inl ⟨(y23 == y24), rfl, rfl⟩⟩⟩), (fun _ => ⟨_, rfl, ⟨((y23 == y24) = true), (iv .i64 v2.fWeight), 77, rfl, rfl, fun g31 => (opLoad1 (tl3 H) ((Pt.box 1 (Ev.cnd (mv rfl) g31) rfl rfl).take 1 (cs' := [(iv .i64 v2.fWeight)]) rfl)), .inl ⟨(y23 == y24), rfl, rfl⟩⟩⟩), (fun _ => ⟨_, rfl, ⟨((y23 == y24) = true), (iv .i64 y33), 77, rfl, rfl, fun g32 => (opCallQ (fnok20 H) (args := [(agg (eFleet v1)), (iv .i64 v2.fWagon), (iv .i64 v2.fClass), (iv .i64 v2.fWeight)]) ⟨EvF.of (Ev.cnd (mv rfl) g32) FEnt.refl, EvF.of (Ev.cnd (mv rfl) g32) FEnt.refl, EvF.of (Ev.cnd (mv rfl) g32) FEnt.refl, EvF.of (Ev.cnd (mv rfl) g32) FEnt.refl, trivial⟩ (fleet_Fits_ok H φ v1 v2.fWagon v2.fClass v2.fWeight _ (gcall_pos ey33 g32)) flat_eqv), .inl ⟨(y23 == y24), rfl, rfl⟩⟩⟩), (fun _ => ⟨_, rfl, ⟨((y23 == y24) = true), (agg (eFleet v1)), 77, rfl, rfl, fun g34 => (opLoadN (tl27 H) ((Pt.box 0 (mv rfl) rfl rfl).take 4 (cs' := (eFleet v1)) rfl)), .inl ⟨(y23 == y24), rfl, rfl⟩⟩⟩), (fun _ => ⟨_, rfl, ⟨((y23 == y24) = true), (eqv (.pointer (some ⟨b4, 0, none⟩))), 77, rfl, rfl, fun g35 => (opFieldP (fo29_0 H) (mv rfl)), .inl ⟨(y23 == y24), rfl, rfl⟩⟩⟩), (fun _ => ⟨_, rfl, ⟨((y23 == y24) = true), (iv .i64 v2.fWagon), 77, rfl, rfl, fun g36 => (opLoad1 (tl3 H) ((Pt.box 1 (Ev.cnd (mv rfl) g36) rfl rfl).take 1 (cs' := [(iv .i64 v2.fWagon)]) rfl)), .inl ⟨(y23 == y24), rfl, rfl⟩⟩⟩), (fun _ => ⟨_, rfl, ⟨((y23 == y24) = true), (eqv (.pointer (some ⟨b4, 1, none⟩))), 77, rfl, rfl, fun g37 => (opFieldP (fo29_1 H) (mv rfl)), .inl ⟨(y23 == y24), rfl, rfl⟩⟩⟩), (fun _ => ⟨_, rfl, ⟨((y23 == y24) = true), (iv .i64 v2.fClass), 77, rfl, rfl, fun g38 => (opLoad1 (tl3 H) ((Pt.box 1 (Ev.cnd (mv rfl) g38) rfl rfl).take 1 (cs' := [(iv .i64 v2.fClass)]) rfl)), .inl ⟨(y23 == y24), rfl, rfl⟩⟩⟩), (fun _ => ⟨_, rfl, ⟨((y23 == y24) = true), (eqv (.pointer (some ⟨b4, 2, none⟩))), 77, rfl, rfl, fun g39 => (opFieldP (fo29_2 H) (mv rfl)), .inl ⟨(y23 == y24), rfl, rfl⟩⟩⟩), (fun _ => ⟨_, rfl, ⟨((y23 == y24) = true), (iv .i64 v2.fWeight), 77, rfl, rfl, fun g40 => (opLoad1 (tl3 H) ((Pt.box 1 (Ev.cnd (mv rfl) g40) rfl rfl).take 1 (cs' := [(iv .i64 v2.fWeight)]) rfl)), .inl ⟨(y23 == y24), rfl, rfl⟩⟩⟩), (fun _ => ⟨_, rfl, ⟨((y23 == y24) = true), (iv .i64 y42), 77, rfl, rfl, fun g41 => (opCallQ (fnok21 H) (args := [(agg (eFleet v1)), (iv .i64 v2.fWagon), (iv .i64 v2.fClass), (iv .i64 v2.fWeight)]) ⟨EvF.of (Ev.cnd (mv rfl) g41) FEnt.refl, EvF.of (Ev.cnd (mv rfl) g41) FEnt.refl, EvF.of (Ev.cnd (mv rfl) g41) FEnt.refl, EvF.of (Ev.cnd (mv rfl) g41) FEnt.refl, trivial⟩ (ref09_Fits_ok H φ v1 v2.fWagon v2.fClass v2.fWeight _ (gcall_pos ey42 g41)) flat_eqv), .inl ⟨(y23 == y24), rfl, rfl⟩⟩⟩), (fun _ => ⟨_, rfl, ⟨((y23 == y24) = true), (bv (y33 == y42)), 77, rfl, rfl, fun g43 => (opEql (Ev.cnd (mv rfl) g43) (Ev.cnd (mv rfl) g43)), .inl ⟨(y23 == y24), rfl, rfl⟩⟩⟩), (fun _ => ⟨_, rfl, (opAnd (mv rfl) (fun g44 => (Ev.cnd (mv rfl) g44)) (Ev.const _))⟩), (fun _ => ⟨_, rfl, (opMove (mv rfl))⟩), (fun _ => ⟨_, rfl, ⟨(((y23 == y24) && (y33 == y42)) = true), (eqv sv10), 96, rfl, rfl, fun g45 => (opMove (mv rfl)), .inl ⟨((y23 == y24) && (y33 == y42)), rfl, rfl⟩⟩⟩), (fun _ => ⟨_, rfl, ⟨(((y23 == y24) && (y33 == y42)) = true), (eqv sv15), 96, rfl, rfl, fun g46 => (opMove (mv rfl)), .inl ⟨((y23 == y24) && (y33 == y42)), rfl, rfl⟩⟩⟩), (fun _ => ⟨_, rfl, ⟨(((y23 == y24) && (y33 == y42)) = true), (bv y48), 96, rfl, rfl, fun g47 => (opCallQ (fnok22 H) (args := [(ro eSwap 3 y9.1), (ro eSwap 3 y14.1)]) ⟨EvF.of (Ev.cnd (mv rfl) g47) (FEnt.row 2 lSwap rfl), EvF.of (Ev.cnd (mv rfl) g47) (FEnt.row 3 lSwap rfl), trivial⟩ (ref09_SameSwaps_ok H φ y9.1 y14.1 _ (gcall_pos ey48 g47)) flat_eqv), .inl ⟨((y23 == y24) && (y33 == y42)), rfl, rfl⟩⟩⟩), (fun _ => ⟨_, rfl, (opAnd (mv rfl) (fun g49 => (Ev.cnd (mv rfl) g49)) (Ev.const _))⟩), (fun _ => ⟨_, rfl, (opMove (mv rfl))⟩), (fun _ => ⟨_, rfl, ⟨((((y23 == y24) && (y33 == y42)) && y48) = true), (iv .i64 y9.2), 101, rfl, rfl, fun g50 => (opMove (mv rfl)), .inl ⟨(((y23 == y24) && (y33 == y42)) && y48), rfl, rfl⟩⟩⟩), (fun _ => ⟨_, rfl, ⟨((((y23 == y24) && (y33 == y42)) && y48) = true), (iv .i64 y14.2), 101, rfl, rfl, fun g51 => (opMove (mv rfl)), .inl ⟨(((y23 == y24) && (y33 == y42)) && y48), rfl, rfl⟩⟩⟩), (fun _ => ⟨_, rfl, ⟨((((y23 == y24) && (y33 == y42)) && y48) = true), (bv (y9.2 == y14.2)), 101, rfl, rfl, fun g52 => (opEql (Ev.cnd (mv rfl) g52) (Ev.cnd (mv rfl) g52)), .inl ⟨(((y23 == y24) && (y33 == y42)) && y48), rfl, rfl⟩⟩⟩), (fun _ => ⟨_, rfl, (opAnd (mv rfl) (fun g53 => (Ev.cnd (mv rfl) g53)) (Ev.const _))⟩), (fun _ => ⟨_, rfl, (opMove (mv rfl))⟩), (fun _ => ⟨_, rfl, ⟨(((((y23 == y24) && (y33 == y42)) && y48) && (y9.2 == y14.2)) = true), (iv .i64 y19.1), 106, rfl, rfl, fun g54 => (opMove (mv rfl)), .inl ⟨((((y23 == y24) && (y33 == y42)) && y48) && (y9.2 == y14.2)), rfl, rfl⟩⟩⟩), (fun _ => ⟨_, rfl, ⟨(((((y23 == y24) && (y33 == y42)) && y48) && (y9.2 == y14.2)) = true), (iv .i64 y20.1), 106, rfl, rfl, fun g55 => (opMove (mv rfl)), .inl ⟨((((y23 == y24) && (y33 == y42)) && y48) && (y9.2 == y14.2)), rfl, rfl⟩⟩⟩), (fun _ => ⟨_, rfl, ⟨(((((y23 == y24) && (y33 == y42)) && y48) && (y9.2 == y14.2)) = true), (bv (y19.1 == y20.1)), 106, rfl, rfl, fun g56 => (opEql (Ev.cnd (mv rfl) g56) (Ev.cnd (mv rfl) g56)), .inl ⟨((((y23 == y24) && (y33 == y42)) && y48) && (y9.2 == y14.2)), rfl, rfl⟩⟩⟩), (fun _ => ⟨_, rfl, (opAnd (mv rfl) (fun g57 => (Ev.cnd (mv rfl) g57)) (Ev.const _))⟩), (fun _ => ⟨_, rfl, (opMove (mv rfl))⟩), (fun _ => ⟨_, rfl, ⟨((((((y23 == y24) && (y33 == y42)) && y48) && (y9.2 == y14.2)) && (y19.1 == y20.1)) = true), (iv .i64 y19.2), 111, rfl, rfl, fun g58 => (opMove (mv rfl)), .inl ⟨(((((y23 == y24) && (y33 == y42)) && y48) && (y9.2 == y14.2)) && (y19.1 == y20.1)), rfl, rfl⟩⟩⟩), (fun _ => ⟨_, rfl, ⟨((((((y23 == y24) && (y33 == y42)) && y48) && (y9.2 == y14.2)) && (y19.1 == y20.1)) = true), (iv .i64 y20.2), 111, rfl, rfl, fun g59 => (opMove (mv rfl)), .inl ⟨(((((y23 == y24) && (y33 == y42)) && y48) && (y9.2 == y14.2)) && (y19.1 == y20.1)), rfl, rfl⟩⟩⟩), (fun _ => ⟨_, rfl, ⟨((((((y23 == y24) && (y33 == y42)) && y48) && (y9.2 == y14.2)) && (y19.1 == y20.1)) = true), (bv (y19.2 == y20.2)), 111, rfl, rfl, fun g60 => (opEql (Ev.cnd (mv rfl) g60) (Ev.cnd (mv rfl) g60)), .inl ⟨(((((y23 == y24) && (y33 == y42)) && y48) && (y9.2 == y14.2)) && (y19.1 == y20.1)), rfl, rfl⟩⟩⟩), (fun _ => ⟨_, rfl, (opAnd (mv rfl) (fun g61 => (Ev.cnd (mv rfl) g61)) (Ev.const _))⟩), (fun _ => ⟨_, rfl, (opMove (mv rfl))⟩), (fun _ => ⟨_, rfl, ⟨(((((((y23 == y24) && (y33 == y42)) && y48) && (y9.2 == y14.2)) && (y19.1 == y20.1)) && (y19.2 == y20.2)) = true), (iv .i64 y21.1), 116, rfl, rfl, fun g62 => (opMove (mv rfl)), .inl ⟨((((((y23 == y24) && (y33 == y42)) && y48) && (y9.2 == y14.2)) && (y19.1 == y20.1)) && (y19.2 == y20.2)), rfl, rfl⟩⟩⟩), (fun _ => ⟨_, rfl, ⟨(((((((y23 == y24) && (y33 == y42)) && y48) && (y9.2 == y14.2)) && (y19.1 == y20.1)) && (y19.2 == y20.2)) = true), (iv .i64 y22.1), 116, rfl, rfl, fun g63 => (opMove (mv rfl)), .inl ⟨((((((y23 == y24) && (y33 == y42)) && y48) && (y9.2 == y14.2)) && (y19.1 == y20.1)) && (y19.2 == y20.2)), rfl, rfl⟩⟩⟩), (fun _ => ⟨_, rfl, ⟨(((((((y23 == y24) && (y33 == y42)) && y48) && (y9.2 == y14.2)) && (y19.1 == y20.1)) && (y19.2 == y20.2)) = true), (bv (y21.1 == y22.1)), 116, rfl, rfl, fun g64 => (opEql (Ev.cnd (mv rfl) g64) (Ev.cnd (mv rfl) g64)), .inl ⟨((((((y23 == y24) && (y33 == y42)) && y48) && (y9.2 == y14.2)) && (y19.1 == y20.1)) && (y19.2 == y20.2)), rfl, rfl⟩⟩⟩), (fun _ => ⟨_, rfl, (opAnd (mv rfl) (fun g65 => (Ev.cnd (mv rfl) g65)) (Ev.const _))⟩), (fun _ => ⟨_, rfl, (opMove (mv rfl))⟩), (fun _ => ⟨_, rfl, ⟨((((((((y23 == y24) && (y33 == y42)) && y48) && (y9.2 == y14.2)) && (y19.1 == y20.1)) && (y19.2 == y20.2)) && (y21.1 == y22.1)) = true), (iv .i64 y21.2), 121, rfl, rfl, fun g66 => (opMove (mv rfl)), .inl ⟨(((((((y23 == y24) && (y33 == y42)) && y48) && (y9.2 == y14.2)) && (y19.1 == y20.1)) && (y19.2 == y20.2)) && (y21.1 == y22.1)), rfl, rfl⟩⟩⟩), (fun _ => ⟨_, rfl, ⟨((((((((y23 == y24) && (y33 == y42)) && y48) && (y9.2 == y14.2)) && (y19.1 == y20.1)) && (y19.2 == y20.2)) && (y21.1 == y22.1)) = true), (iv .i64 y22.2), 121, rfl, rfl, fun g67 => (opMove (mv rfl)), .inl ⟨(((((((y23 == y24) && (y33 == y42)) && y48) && (y9.2 == y14.2)) && (y19.1 == y20.1)) && (y19.2 == y20.2)) && (y21.1 == y22.1)), rfl, rfl⟩⟩⟩), (fun _ => ⟨_, rfl, ⟨((((((((y23 == y24) && (y33 == y42)) && y48) && (y9.2 == y14.2)) && (y19.1 == y20.1)) && (y19.2 == y20.2)) && (y21.1 == y22.1)) = true), (bv (y21.2 == y22.2)), 121, rfl, rfl, fun g68 => (opEql (Ev.cnd (mv rfl) g68) (Ev.cnd (mv rfl) g68)), .inl ⟨(((((((y23 == y24) && (y33 == y42)) && y48) && (y9.2 == y14.2)) && (y19.1 == y20.1)) && (y19.2 == y20.2)) && (y21.1 == y22.1)), rfl, rfl⟩⟩⟩), (fun _ => ⟨_, rfl, (opAnd (mv rfl) (fun g69 => (Ev.cnd (mv rfl) g69)) (Ev.const _))⟩), (fun _ => ⟨_, rfl, (opAssign (mv rfl))⟩), trivial⟩ trivial (fun _ => ?_)
      refine al [4] [] rfl rfl rfl ?_
      refine sq ?_
      refine CodeT.ret ?_
      refine AtX.ret' (bv ((((((((y23 == y24) && (y33 == y42)) && y48) && (y9.2 == y14.2)) && (y19.1 == y20.1)) && (y19.2 == y20.2)) && (y21.1 == y22.1)) && (y21.2 == y22.2))) (ResOK.one Try.results3 rfl) [] [] trivial rfl ?_
      obtain rfl := Option.some.inj h
      exact ⟨rfl, rfl⟩
end Px
