/- The law computes what was read out of it. Conditions: none. -/
import Derived.Test.YtbfoamlmlbmmnaaQcC
set_option linter.unusedVariables false
set_option linter.unusedSimpArgs false
set_option maxHeartbeats 4000000
set_option maxRecDepth 100000
namespace Px
open Go Go.RowKit Go.Proofs
theorem law09_FleetWorth_ok {P : Program} (H : P = Try.prog) (φ : Nat) (v1 : Fleet) (v2 : Int) (v3 : Int) (v4 : Int) (r : (Bool)) (h : law09_FleetWorth φ v1 v2 v3 v4 = some r) : PureT P 6 [(agg (eFleet v1)), (iv .i64 v2), (iv .i64 v3), (iv .i64 v4)] (fun x news => x = (bv r) ∧ news = []) := by
  unfold law09_FleetWorth at h
  refine PureT.of_code' 138 (fn6 H) rfl rfl (Nat.le_of_ble_eq_true rfl) fun w0 base r0 wI => ?_
  refine cl [0, 1, 2, 3] [] rfl rfl rfl ?_
  refine cs (cr [0, 1] rfl ?_)
  refine RunOps.cons rfl rfl rfl (opBox (cs := (eFleet v1)) (Ce.agg (mv rfl)) fun b5 => ?_)
  refine cq rfl rfl rfl (opAssign (Ev.const _)) ?_
  refine rn (al [1, 2, 3, 4] [0] rfl rfl rfl (sq (cs (cs (cr [0, 1] rfl ?_)))))
  refine bindE h fun y6 ey6 h => ?_
  refine cq rfl rfl rfl (opCallQ (fnok10 H) (args := []) trivial (law09_sane_ok H φ  _ ey6) flat_eqv) ?_
  refine cq rfl rfl rfl (opNot (mv rfl)) ?_
  refine rn (al [1, 2, 3, 4, 17] [0] rfl rfl rfl (sq ?_))
  refine CodeT.cond (!y6) (evBool (mv rfl)) (fun c7 => ?_) (fun c7 => ?_)
  · rw [if_pos c7] at h
    refine cs (cr [0] rfl ?_)
    refine cq rfl rfl rfl (opAssign (Ev.const _)) ?_
    refine rn (al [8] [] rfl rfl rfl (sq ?_))
    refine CodeT.ret ?_
    refine AtX.then_ret ?_
    refine AtX.ret' (bv false) (ResOK.one Try.results6 rfl) [] [] trivial rfl ?_
    obtain rfl := Option.some.inj h
    exact ⟨rfl, rfl⟩
  · rw [if_neg (bne_true c7)] at h
    refine CodeT.skip ?_
    refine al [1, 2, 3, 4] [0] rfl rfl rfl ?_
    refine sq (cs (cs (cr [0, 1, 2, 3, 4, 5, 6, 7, 8, 9, 10, 11, 12, 13, 14, 15, 16, 17, 18] rfl ?_)))
    refine RunOps.cons_q (agg (eFleet v1)) rfl rfl rfl (opLoadN (tl27 H) ((Pt.box 0 (mv rfl) rfl rfl).take 4 (cs' := (eFleet v1)) rfl)) ?_
    refine bindE h fun y8 ey8 h => ?_
    refine cq rfl rfl rfl (opCallQ (fnok11 H) (args := [(agg (eFleet v1))]) ⟨EvF.of (mv rfl) FEnt.refl, trivial⟩ (law09_few_ok H φ v1 _ ey8) flat_eqv) ?_
    refine cq rfl rfl rfl (opNot (mv rfl)) ?_
    refine cq rfl rfl rfl (opMove (mv rfl)) ?_
    refine cg rfl rfl rfl rfl rfl (fun g9 => opMove (mv rfl)) ?_
    refine cg rfl rfl rfl rfl rfl (fun g10 => opMove (mv rfl)) ?_
    refine cg rfl rfl rfl rfl rfl (fun g11 => opGtr (Ev.cnd (mv rfl) g11) (Ev.cnd (mv rfl) g11)) ?_
    refine cq rfl rfl rfl (opOr (mv rfl) (Ev.const _) (fun g12 => (Ev.cnd (mv rfl) g12))) ?_
    refine cq rfl rfl rfl (opMove (mv rfl)) ?_
    refine cg rfl rfl rfl rfl rfl (fun g13 => opMove (mv rfl)) ?_
    refine cg rfl rfl rfl rfl rfl (fun g14 => opLss (Ev.cnd (mv rfl) g14) (Ev.const _)) ?_
    refine cq rfl rfl rfl (opOr (mv rfl) (Ev.const _) (fun g15 => (Ev.cnd (mv rfl) g15))) ?_
    refine cq rfl rfl rfl (opMove (mv rfl)) ?_
    refine cg rfl rfl rfl rfl rfl (fun g16 => opMove (mv rfl)) ?_
    refine cg rfl rfl rfl rfl rfl (fun g17 => opFieldP (fo27_1 H) (mv rfl)) ?_
    refine cg rfl rfl rfl rfl rfl (fun g18 => opLoad1 (tl23 H) ((Pt.box 0 (Ev.cnd (mv rfl) g18) rfl rfl).take 1 (cs' := [(ro eWagon 5 v1.fWagons)]) rfl)) ?_
    refine cg rfl rfl rfl rfl rfl (fun g19 => opLenR (il23 H) (Ev.cnd (mv rfl) g19)) ?_
    refine cg rfl rfl rfl rfl rfl (fun g20 => opGeq (Ev.cnd (mv rfl) g20) (Ev.cnd (mv rfl) g20)) ?_
    refine cq rfl rfl rfl (opOr (mv rfl) (Ev.const _) (fun g21 => (Ev.cnd (mv rfl) g21))) ?_
    refine rn (al [1, 2, 3, 4, 36] [0] rfl rfl rfl (sq ?_))
    refine CodeT.cond ((((!y8) || decide (v4 < v3)) || decide (v2 < 0)) || decide ((v1.fWagons.length : Int) ≤ v2)) (evBool (mv rfl)) (fun c22 => ?_) (fun c22 => ?_)
    · rw [if_pos c22] at h
      refine cs (cr [0] rfl ?_)
      refine cq rfl rfl rfl (opAssign (Ev.const _)) ?_
      refine rn (al [8] [] rfl rfl rfl (sq ?_))
      refine CodeT.ret ?_
      refine AtX.then_ret ?_
      refine AtX.ret' (bv true) (ResOK.one Try.results6 rfl) [] [] trivial rfl ?_
      obtain rfl := Option.some.inj h
      exact ⟨rfl, rfl⟩
    · rw [if_neg (bne_true c22)] at h
      refine CodeT.skip ?_
      refine al [1, 2, 3, 4] [0] rfl rfl rfl ?_
      refine sq (cs (cr [0, 1, 2, 3, 4, 5, 6, 7, 8] rfl ?_))
      refine RunOps.cons_q (agg (eFleet v1)) rfl rfl rfl (opLoadN (tl27 H) ((Pt.box 0 (mv rfl) rfl rfl).take 4 (cs' := (eFleet v1)) rfl)) ?_
      refine cq rfl rfl rfl (opMove (mv rfl)) ?_
      refine cq rfl rfl rfl (opMove (mv rfl)) ?_
      refine bindE h fun y23 ey23 h => ?_
      refine cq rfl rfl rfl (opCallQ (fnok16 H) (args := [(agg (eFleet v1)), (iv .i64 v2), (iv .i64 v3)]) ⟨EvF.of (mv rfl) FEnt.refl, EvF.of (mv rfl) FEnt.refl, EvF.of (mv rfl) FEnt.refl, trivial⟩ (fleet_Worth_ok H φ v1 v2 v3 _ ey23) (flat_tup' ⟨flat_eqv, flat_eqv, trivial⟩)) ?_
      refine cq rfl rfl rfl (opMove (mv rfl)) ?_
      refine cq rfl rfl rfl (opExtract (mv rfl) rfl) ?_
      refine cq rfl rfl rfl (opExtract (mv rfl) rfl) ?_
      refine cq rfl rfl rfl (opAssign (mv rfl)) ?_
      refine cq rfl rfl rfl (opAssign (mv rfl)) ?_
      refine rn (al [1, 2, 3, 4, 9, 10] [0] rfl rfl rfl (sq (cs (cr [0, 1, 2, 3, 4, 5, 6, 7, 8] rfl ?_))))
      refine RunOps.cons_q (agg (eFleet v1)) rfl rfl rfl (opLoadN (tl27 H) ((Pt.box 0 (mv rfl) rfl rfl).take 4 (cs' := (eFleet v1)) rfl)) ?_
      refine cq rfl rfl rfl (opMove (mv rfl)) ?_
      refine cq rfl rfl rfl (opMove (mv rfl)) ?_
      refine bindE h fun y24 ey24 h => ?_
      refine cq rfl rfl rfl (opCallQ (fnok16 H) (args := [(agg (eFleet v1)), (iv .i64 v2), (iv .i64 v4)]) ⟨EvF.of (mv rfl) FEnt.refl, EvF.of (mv rfl) FEnt.refl, EvF.of (mv rfl) FEnt.refl, trivial⟩ (fleet_Worth_ok H φ v1 v2 v4 _ ey24) (flat_tup' ⟨flat_eqv, flat_eqv, trivial⟩)) ?_
      refine cq rfl rfl rfl (opMove (mv rfl)) ?_
      refine cq rfl rfl rfl (opExtract (mv rfl) rfl) ?_
      refine cq rfl rfl rfl (opExtract (mv rfl) rfl) ?_
      refine cq rfl rfl rfl (opAssign (mv rfl)) ?_
      refine cq rfl rfl rfl (opAssign (mv rfl)) ?_
      refine rn (al [1, 2, 3, 4, 9, 10, 11, 12] [0] rfl rfl rfl (sq (cs (cs (cr [0, 1, 2, 3, 4, 5] rfl ?_)))))
      refine cq rfl rfl rfl (opMove (mv rfl)) ?_
      refine cq rfl rfl rfl (opNeq (mv rfl) (Ev.const _)) ?_
      refine cq rfl rfl rfl (opMove (mv rfl)) ?_
      refine cg rfl rfl rfl rfl rfl (fun g25 => opMove (mv rfl)) ?_
      refine cg rfl rfl rfl rfl rfl (fun g26 => opNeq (Ev.cnd (mv rfl) g26) (Ev.const _)) ?_
      refine cq rfl rfl rfl (opOr (mv rfl) (Ev.const _) (fun g27 => (Ev.cnd (mv rfl) g27))) ?_
      refine rn (al [1, 2, 3, 4, 9, 10, 11, 12, 56] [0] rfl rfl rfl (sq ?_))
      refine CodeT.cond ((y23.2 != 0) || (y24.2 != 0)) (evBool (mv rfl)) (fun c28 => ?_) (fun c28 => ?_)
      · rw [if_pos c28] at h
        refine cs (cr [0, 1, 2, 3, 4, 5, 6, 7, 8, 9, 10, 11, 12, 13, 14] rfl ?_)
        refine cq rfl rfl rfl (opMove (mv rfl)) ?_
        refine cq rfl rfl rfl (opNeq (mv rfl) (Ev.const _)) ?_
        refine cq rfl rfl rfl (opMove (mv rfl)) ?_
        refine cg rfl rfl rfl rfl rfl (fun g29 => opMove (mv rfl)) ?_
        refine cg rfl rfl rfl rfl rfl (fun g30 => opEql (Ev.cnd (mv rfl) g30) (Ev.const _)) ?_
        refine cq rfl rfl rfl (opAnd (mv rfl) (fun g31 => (Ev.cnd (mv rfl) g31)) (Ev.const _)) ?_
        refine cq rfl rfl rfl (opMove (mv rfl)) ?_
        refine cg rfl rfl rfl rfl rfl (fun g32 => opMove (mv rfl)) ?_
        refine cg rfl rfl rfl rfl rfl (fun g33 => opNeq (Ev.cnd (mv rfl) g33) (Ev.const _)) ?_
        refine cg rfl rfl rfl rfl rfl (fun g34 => opMove (Ev.cnd (mv rfl) g34)) ?_
        refine RunOps.cons_gc (iv .i64 y24.1) (((y23.2 != 0) && (y23.1 == 0)) = false) (y24.2 != 0) rfl rfl rfl rfl rfl (fun g35 => (opMove (mv rfl))) ?_
        refine RunOps.cons_gc (bv (y24.1 == 0)) (((y23.2 != 0) && (y23.1 == 0)) = false) (y24.2 != 0) rfl rfl rfl rfl rfl (fun g36 => (opEql (Ev.cnd (mv rfl) ⟨g36.1, g36.2⟩) (Ev.const _))) ?_
        refine cg rfl rfl rfl rfl rfl (fun g37 => opAnd (Ev.cnd (mv rfl) g37) (fun g38 => (Ev.cnd (mv rfl) ⟨g37, g38⟩)) (Ev.const _)) ?_
        refine cq rfl rfl rfl (opOr (mv rfl) (Ev.const _) (fun g39 => (Ev.cnd (mv rfl) g39))) ?_
        refine cq rfl rfl rfl (opAssign (mv rfl)) ?_
        refine rn (al [8] [] rfl rfl rfl (sq ?_))
        refine CodeT.ret ?_
        refine AtX.then_ret ?_
        refine AtX.ret' (bv (((y23.2 != 0) && (y23.1 == 0)) || ((y24.2 != 0) && (y24.1 == 0)))) (ResOK.one Try.results6 rfl) [] [] trivial rfl ?_
        obtain rfl := Option.some.inj h
        exact ⟨rfl, rfl⟩
      · rw [if_neg (bne_true c28)] at h
        refine CodeT.skip ?_
        refine al [1, 2, 3, 4, 9, 11] [0] rfl rfl rfl ?_
        refine sq (cs (cr [0, 1, 2, 3, 4, 5, 6] rfl ?_))
        refine cq rfl rfl rfl (opFieldP (fo27_1 H) (mv rfl)) ?_
        refine cq rfl rfl rfl (opLoad1 (tl23 H) ((Pt.box 0 (mv rfl) rfl rfl).take 1 (cs' := [(ro eWagon 5 v1.fWagons)]) rfl)) ?_
        refine cq rfl rfl rfl (opMove (mv rfl)) ?_
        refine ckE h fun h40 h => ?_
        refine cq rfl rfl rfl (opIndexR (e := eWagon) (y := (gt v1.fWagons v2)) (ix23 H) (mv rfl) (mv rfl) (h40).1 (gt_some h40)) ?_
        refine RunOps.cons_q (agg (eWagon (gt v1.fWagons v2))) rfl rfl rfl (opLoadN (tl47 H) (Pt.rop (mv rfl))) ?_
        refine RunOps.cons rfl rfl rfl (opAlloc [.int .i64 0, .int .i64 0, .int .i64 0, .int .i64 0, .int .i64 0] (ze47 H) rfl fun b41 => ?_)
        refine RunOps.cons rfl rfl rfl (opStore 1 (cells := [(iv .i64 0), (iv .i64 0), (iv .i64 0), (iv .i64 0), (iv .i64 0)]) (cs := (eWagon (gt v1.fWagons v2))) (out := (eWagon (gt v1.fWagons v2))) (tl47 H) (mv rfl) (Ce.agg (mv rfl)) rfl rfl (Nat.le_of_ble_eq_true rfl) rfl ?_)
        refine rn (al [2, 3, 4, 9, 11, 13] [0, 1] rfl rfl rfl (sq (cs (cs (cr [0, 1, 2, 3, 4, 5, 6, 7, 8, 9, 10] rfl ?_)))))
        refine cq rfl rfl rfl (opFieldP (fo47_0 H) (mv rfl)) ?_
        refine cq rfl rfl rfl (opLoad1 (tl3 H) ((Pt.box 1 (mv rfl) rfl rfl).take 1 (cs' := [(iv .i64 ((gt v1.fWagons v2).fType))]) rfl)) ?_
        refine cq rfl rfl rfl (opLss (mv rfl) (Ev.const _)) ?_
        refine cq rfl rfl rfl (opMove (mv rfl)) ?_
        refine cg rfl rfl rfl rfl rfl (fun g42 => opFieldP (fo47_0 H) (mv rfl)) ?_
        refine cg rfl rfl rfl rfl rfl (fun g43 => opLoad1 (tl3 H) ((Pt.box 1 (Ev.cnd (mv rfl) g43) rfl rfl).take 1 (cs' := [(iv .i64 ((gt v1.fWagons v2).fType))]) rfl)) ?_
        refine cg rfl rfl rfl rfl rfl (fun g44 => opFieldP (fo27_0 H) (mv rfl)) ?_
        refine cg rfl rfl rfl rfl rfl (fun g45 => opLoad1 (tl22 H) ((Pt.box 0 (Ev.cnd (mv rfl) g45) rfl rfl).take 1 (cs' := [(ro eWagonType 8 v1.fTypes)]) rfl)) ?_
        refine cg rfl rfl rfl rfl rfl (fun g46 => opLenR (il22 H) (Ev.cnd (mv rfl) g46)) ?_
        refine cg rfl rfl rfl rfl rfl (fun g47 => opGeq (Ev.cnd (mv rfl) g47) (Ev.cnd (mv rfl) g47)) ?_
        refine cq rfl rfl rfl (opOr (mv rfl) (Ev.const _) (fun g48 => (Ev.cnd (mv rfl) g48))) ?_
        refine rn (al [2, 3, 4, 9, 11, 13, 86] [0, 1] rfl rfl rfl (sq ?_))
        refine CodeT.cond (decide ((gt v1.fWagons v2).fType < 0) || decide ((v1.fTypes.length : Int) ≤ (gt v1.fWagons v2).fType)) (evBool (mv rfl)) (fun c49 => ?_) (fun c49 => ?_)
        · rw [if_pos c49] at h
          refine cs (cr [0] rfl ?_)
          refine cq rfl rfl rfl (opAssign (Ev.const _)) ?_
          refine rn (al [8] [] rfl rfl rfl (sq ?_))
          refine CodeT.ret ?_
          refine AtX.then_ret ?_
          refine AtX.ret' (bv false) (ResOK.one Try.results6 rfl) [] [] trivial rfl ?_
          obtain rfl := Option.some.inj h
          exact ⟨rfl, rfl⟩
        · rw [if_neg (bne_true c49)] at h
          refine CodeT.skip ?_
          refine al [2, 3, 4, 9, 11, 13] [0, 1] rfl rfl rfl ?_
          refine sq (cs (cr [0, 1, 2, 3, 4, 5, 6, 7] rfl ?_))
          refine cq rfl rfl rfl (opFieldP (fo27_0 H) (mv rfl)) ?_
          refine cq rfl rfl rfl (opLoad1 (tl22 H) ((Pt.box 0 (mv rfl) rfl rfl).take 1 (cs' := [(ro eWagonType 8 v1.fTypes)]) rfl)) ?_
          refine cq rfl rfl rfl (opFieldP (fo47_0 H) (mv rfl)) ?_
          refine cq rfl rfl rfl (opLoad1 (tl3 H) ((Pt.box 1 (mv rfl) rfl rfl).take 1 (cs' := [(iv .i64 ((gt v1.fWagons v2).fType))]) rfl)) ?_
          refine ckE h fun h50 h => ?_
          refine cq rfl rfl rfl (opIndexR (e := eWagonType) (y := (gt v1.fTypes ((gt v1.fWagons v2).fType))) (ix22 H) (mv rfl) (mv rfl) (h50).1 (gt_some h50)) ?_
          refine RunOps.cons_q (agg (eWagonType (gt v1.fTypes ((gt v1.fWagons v2).fType)))) rfl rfl rfl (opLoadN (tl50 H) (Pt.rop (mv rfl))) ?_
          refine RunOps.cons rfl rfl rfl (opAlloc [.int .i64 0, .int .i64 0, .int .i64 0, .int .i64 0, .int .i64 0, .int .u64 0, .int .i64 0, .int .i64 0] (ze50 H) rfl fun b51 => ?_)
          refine RunOps.cons rfl rfl rfl (opStore 2 (cells := [(iv .i64 0), (iv .i64 0), (iv .i64 0), (iv .i64 0), (iv .i64 0), (iv .u64 0), (iv .i64 0), (iv .i64 0)]) (cs := (eWagonType (gt v1.fTypes ((gt v1.fWagons v2).fType)))) (out := (eWagonType (gt v1.fTypes ((gt v1.fWagons v2).fType)))) (tl50 H) (mv rfl) (Ce.agg (mv rfl)) rfl rfl (Nat.le_of_ble_eq_true rfl) rfl ?_)
          refine rn (al [2, 3, 9, 11, 13, 14] [1, 2] rfl rfl rfl (sq (cs (cr [0, 1, 2, 3, 4, 5, 6, 7] rfl ?_))))
          refine cq rfl rfl rfl (opFieldP (fo47_4 H) (mv rfl)) ?_
          refine cq rfl rfl rfl (opLoad1 (tl3 H) ((Pt.box 0 (mv rfl) rfl rfl).take 1 (cs' := [(iv .i64 ((gt v1.fWagons v2).fWorth))]) rfl)) ?_
          refine cq rfl rfl rfl (opFieldP (fo50_7 H) (mv rfl)) ?_
          refine cq rfl rfl rfl (opLoad1 (tl3 H) ((Pt.box 1 (mv rfl) rfl rfl).take 1 (cs' := [(iv .i64 ((gt v1.fTypes ((gt v1.fWagons v2).fType)).fFloor))]) rfl)) ?_
          refine cq rfl rfl rfl (opMul (mv rfl) (mv rfl)) ?_
          refine cq rfl rfl rfl (opAdd (mv rfl) (Ev.const _)) ?_
          refine cq rfl rfl rfl (opQuo (mv rfl) (Ev.const _) (by decide)) ?_
          refine cq rfl rfl rfl (opAssign (mv rfl)) ?_
          refine rn (al [2, 3, 9, 11, 13, 14, 15] [0, 1] rfl rfl rfl (sq (cs (cs (cr [0, 1, 2, 3, 4, 5, 6, 7, 8, 9, 10, 11, 12, 13, 14, 15, 16, 17, 18, 19, 20, 21, 22, 23, 24, 25] rfl ?_)))))
          refine cq rfl rfl rfl (opMove (mv rfl)) ?_
          refine cq rfl rfl rfl (opMove (mv rfl)) ?_
          refine cq rfl rfl rfl (opGtr (mv rfl) (mv rfl)) ?_
          refine cq rfl rfl rfl (opMove (mv rfl)) ?_
          refine cg rfl rfl rfl rfl rfl (fun g52 => opMove (mv rfl)) ?_
          refine cg rfl rfl rfl rfl rfl (fun g53 => opMove (mv rfl)) ?_
          refine cg rfl rfl rfl rfl rfl (fun g54 => opLss (Ev.cnd (mv rfl) g54) (Ev.cnd (mv rfl) g54)) ?_
          refine cq rfl rfl rfl (opOr (mv rfl) (Ev.const _) (fun g55 => (Ev.cnd (mv rfl) g55))) ?_
          refine cq rfl rfl rfl (opMove (mv rfl)) ?_
          refine cg rfl rfl rfl rfl rfl (fun g56 => opMove (mv rfl)) ?_
          refine cg rfl rfl rfl rfl rfl (fun g57 => opFieldP (fo47_4 H) (mv rfl)) ?_
          refine cg rfl rfl rfl rfl rfl (fun g58 => opLoad1 (tl3 H) ((Pt.box 0 (Ev.cnd (mv rfl) g58) rfl rfl).take 1 (cs' := [(iv .i64 ((gt v1.fWagons v2).fWorth))]) rfl)) ?_
          refine cg rfl rfl rfl rfl rfl (fun g59 => opGtr (Ev.cnd (mv rfl) g59) (Ev.cnd (mv rfl) g59)) ?_
          refine cq rfl rfl rfl (opOr (mv rfl) (Ev.const _) (fun g60 => (Ev.cnd (mv rfl) g60))) ?_
          refine cq rfl rfl rfl (opMove (mv rfl)) ?_
          refine cg rfl rfl rfl rfl rfl (fun g61 => opMove (mv rfl)) ?_
          refine cg rfl rfl rfl rfl rfl (fun g62 => opFieldP (fo47_3 H) (mv rfl)) ?_
          refine cg rfl rfl rfl rfl rfl (fun g63 => opLoad1 (tl3 H) ((Pt.box 0 (Ev.cnd (mv rfl) g63) rfl rfl).take 1 (cs' := [(iv .i64 ((gt v1.fWagons v2).fBuilt))]) rfl)) ?_
          refine cg rfl rfl rfl rfl rfl (fun g64 => opLeq (Ev.cnd (mv rfl) g64) (Ev.cnd (mv rfl) g64)) ?_
          refine cg rfl rfl rfl rfl rfl (fun g65 => opMove (Ev.cnd (mv rfl) g65)) ?_
          refine RunOps.cons_gc (iv .i64 y23.1) (((decide (y23.1 < y24.1) || decide (y24.1 < (W ((W ((W (((gt v1.fWagons v2).fWorth) * ((gt v1.fTypes ((gt v1.fWagons v2).fType)).fFloor))) + 99)).tdiv 100)))) || decide ((gt v1.fWagons v2).fWorth < y23.1)) = false) (decide (v3 ≤ (gt v1.fWagons v2).fBuilt)) rfl rfl rfl rfl rfl (fun g66 => (opMove (mv rfl))) ?_
          refine RunOps.cons_gc (eqv (.pointer (some ⟨b41, 4, none⟩))) (((decide (y23.1 < y24.1) || decide (y24.1 < (W ((W ((W (((gt v1.fWagons v2).fWorth) * ((gt v1.fTypes ((gt v1.fWagons v2).fType)).fFloor))) + 99)).tdiv 100)))) || decide ((gt v1.fWagons v2).fWorth < y23.1)) = false) (decide (v3 ≤ (gt v1.fWagons v2).fBuilt)) rfl rfl rfl rfl rfl (fun g67 => (opFieldP (fo47_4 H) (mv rfl))) ?_
          refine RunOps.cons_gc (iv .i64 ((gt v1.fWagons v2).fWorth)) (((decide (y23.1 < y24.1) || decide (y24.1 < (W ((W ((W (((gt v1.fWagons v2).fWorth) * ((gt v1.fTypes ((gt v1.fWagons v2).fType)).fFloor))) + 99)).tdiv 100)))) || decide ((gt v1.fWagons v2).fWorth < y23.1)) = false) (decide (v3 ≤ (gt v1.fWagons v2).fBuilt)) rfl rfl rfl rfl rfl (fun g68 => (opLoad1 (tl3 H) ((Pt.box 0 (Ev.cnd (mv rfl) ⟨g68.1, g68.2⟩) rfl rfl).take 1 (cs' := [(iv .i64 ((gt v1.fWagons v2).fWorth))]) rfl))) ?_
          refine RunOps.cons_gc (bv (y23.1 != (gt v1.fWagons v2).fWorth)) (((decide (y23.1 < y24.1) || decide (y24.1 < (W ((W ((W (((gt v1.fWagons v2).fWorth) * ((gt v1.fTypes ((gt v1.fWagons v2).fType)).fFloor))) + 99)).tdiv 100)))) || decide ((gt v1.fWagons v2).fWorth < y23.1)) = false) (decide (v3 ≤ (gt v1.fWagons v2).fBuilt)) rfl rfl rfl rfl rfl (fun g69 => (opNeq (Ev.cnd (mv rfl) ⟨g69.1, g69.2⟩) (Ev.cnd (mv rfl) ⟨g69.1, g69.2⟩))) ?_
          refine cg rfl rfl rfl rfl rfl (fun g70 => opAnd (Ev.cnd (mv rfl) g70) (fun g71 => (Ev.cnd (mv rfl) ⟨g70, g71⟩)) (Ev.const _)) ?_
          refine cq rfl rfl rfl (opOr (mv rfl) (Ev.const _) (fun g72 => (Ev.cnd (mv rfl) g72))) ?_
          refine rn (al [3, 11, 13, 14, 15, 125] [0, 1] rfl rfl rfl (sq ?_))
          refine CodeT.cond (((decide (y23.1 < y24.1) || decide (y24.1 < (W ((W ((W (((gt v1.fWagons v2).fWorth) * ((gt v1.fTypes ((gt v1.fWagons v2).fType)).fFloor))) + 99)).tdiv 100)))) || decide ((gt v1.fWagons v2).fWorth < y23.1)) || (decide (v3 ≤ (gt v1.fWagons v2).fBuilt) && (y23.1 != (gt v1.fWagons v2).fWorth))) (evBool (mv rfl)) (fun c73 => ?_) (fun c73 => ?_)
          · rw [if_pos c73] at h
            refine cs (cr [0] rfl ?_)
            refine cq rfl rfl rfl (opAssign (Ev.const _)) ?_
            refine rn (al [8] [] rfl rfl rfl (sq ?_))
            refine CodeT.ret ?_
            refine AtX.then_ret ?_
            refine AtX.ret' (bv false) (ResOK.one Try.results6 rfl) [] [] trivial rfl ?_
            obtain rfl := Option.some.inj h
            exact ⟨rfl, rfl⟩
          · rw [if_neg (bne_true c73)] at h
            refine CodeT.skip ?_
            refine al [3, 11, 13, 14, 15] [0, 1] rfl rfl rfl ?_
            refine sq (cs (cr [0, 1, 2, 3, 4, 5, 6, 7, 8, 9, 10, 11, 12] rfl ?_))
            refine cq rfl rfl rfl (opMove (mv rfl)) ?_
            refine cq rfl rfl rfl (opFieldP (fo47_3 H) (mv rfl)) ?_
            refine cq rfl rfl rfl (opLoad1 (tl3 H) ((Pt.box 0 (mv rfl) rfl rfl).take 1 (cs' := [(iv .i64 ((gt v1.fWagons v2).fBuilt))]) rfl)) ?_
            refine cq rfl rfl rfl (opSub (mv rfl) (mv rfl)) ?_
            refine cq rfl rfl rfl (opFieldP (fo50_6 H) (mv rfl)) ?_
            refine cq rfl rfl rfl (opLoad1 (tl3 H) ((Pt.box 1 (mv rfl) rfl rfl).take 1 (cs' := [(iv .i64 ((gt v1.fTypes ((gt v1.fWagons v2).fType)).fLife))]) rfl)) ?_
            refine cq rfl rfl rfl (opLss (mv rfl) (mv rfl)) ?_
            refine cq rfl rfl rfl (opMove (mv rfl)) ?_
            refine cg rfl rfl rfl rfl rfl (fun g74 => opMove (mv rfl)) ?_
            refine cg rfl rfl rfl rfl rfl (fun g75 => opMove (mv rfl)) ?_
            refine cg rfl rfl rfl rfl rfl (fun g76 => opEql (Ev.cnd (mv rfl) g76) (Ev.cnd (mv rfl) g76)) ?_
            refine cq rfl rfl rfl (opOr (mv rfl) (Ev.const _) (fun g77 => (Ev.cnd (mv rfl) g77))) ?_
            refine cq rfl rfl rfl (opAssign (mv rfl)) ?_
            refine rn (al [8] [] rfl rfl rfl (sq ?_))
            refine CodeT.ret ?_
            refine AtX.ret' (bv (decide ((W (v4 - ((gt v1.fWagons v2).fBuilt))) < (gt v1.fTypes ((gt v1.fWagons v2).fType)).fLife) || (y24.1 == (W ((W ((W (((gt v1.fWagons v2).fWorth) * ((gt v1.fTypes ((gt v1.fWagons v2).fType)).fFloor))) + 99)).tdiv 100))))) (ResOK.one Try.results6 rfl) [] [] trivial rfl ?_
            obtain rfl := Option.some.inj h
            exact ⟨rfl, rfl⟩
end Px
