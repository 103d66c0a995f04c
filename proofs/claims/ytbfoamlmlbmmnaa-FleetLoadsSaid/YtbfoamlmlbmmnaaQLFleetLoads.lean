/- The law computes what was read out of it. Conditions: none. -/
import Derived.Test.YtbfoamlmlbmmnaaQcC
set_option linter.unusedVariables false
set_option linter.unusedSimpArgs false
set_option maxHeartbeats 4000000
set_option maxRecDepth 100000
namespace Px
open Go Go.RowKit Go.Proofs
theorem law09_FleetLoads_ok {P : Program} (H : P = Try.prog) (φ : Nat) (v1 : Fleet) (v2 : Int) (v3 : Int) (v4 : Int) (v5 : Int) (r : (Bool)) (h : law09_FleetLoads φ v1 v2 v3 v4 v5 = some r) : PureT P 7 [(agg (eFleet v1)), (iv .i64 v2), (iv .i64 v3), (iv .i64 v4), (iv .i64 v5)] (fun x news => x = (bv r) ∧ news = []) := by
  unfold law09_FleetLoads at h
  refine PureT.of_code' 136 (fn7 H) rfl rfl (Nat.le_of_ble_eq_true rfl) fun w0 base r0 wI => ?_
  refine cl [0, 1, 2, 3, 4] [] rfl rfl rfl ?_
  refine cs (cr [0, 1] rfl ?_)
  refine RunOps.cons rfl rfl rfl (opBox (cs := (eFleet v1)) (Ce.agg (mv rfl)) fun b6 => ?_)
  refine cq rfl rfl rfl (opAssign (Ev.const _)) ?_
  refine rn (al [1, 2, 3, 4, 5] [0] rfl rfl rfl (sq (cs (cs (cr [0, 1] rfl ?_)))))
  refine bindE h fun y7 ey7 h => ?_
  refine cq rfl rfl rfl (opCallQ (fnok10 H) (args := []) trivial (law09_sane_ok H φ  _ ey7) flat_eqv) ?_
  refine cq rfl rfl rfl (opNot (mv rfl)) ?_
  refine rn (al [1, 2, 3, 4, 5, 16] [0] rfl rfl rfl (sq ?_))
  refine CodeT.cond (!y7) (evBool (mv rfl)) (fun c8 => ?_) (fun c8 => ?_)
  · rw [if_pos c8] at h
    refine cs (cr [0] rfl ?_)
    refine cq rfl rfl rfl (opAssign (Ev.const _)) ?_
    refine rn (al [10] [] rfl rfl rfl (sq ?_))
    refine CodeT.ret ?_
    refine AtX.then_ret ?_
    refine AtX.ret' (bv false) (ResOK.one Try.results7 rfl) [] [] trivial rfl ?_
    obtain rfl := Option.some.inj h
    exact ⟨rfl, rfl⟩
  · rw [if_neg (bne_true c8)] at h
    refine CodeT.skip ?_
    refine al [1, 2, 3, 4, 5] [0] rfl rfl rfl ?_
    refine sq (cs (cs (cr [0, 1, 2, 3, 4, 5, 6, 7, 8, 9, 10] rfl ?_)))
    refine RunOps.cons_q (agg (eFleet v1)) rfl rfl rfl (opLoadN (tl27 H) ((Pt.box 0 (mv rfl) rfl rfl).take 4 (cs' := (eFleet v1)) rfl)) ?_
    refine bindE h fun y9 ey9 h => ?_
    refine cq rfl rfl rfl (opCallQ (fnok11 H) (args := [(agg (eFleet v1))]) ⟨EvF.of (mv rfl) FEnt.refl, trivial⟩ (law09_few_ok H φ v1 _ ey9) flat_eqv) ?_
    refine cq rfl rfl rfl (opNot (mv rfl)) ?_
    refine cq rfl rfl rfl (opMove (mv rfl)) ?_
    refine cg (x := (agg (eFleet v1))) rfl rfl rfl rfl rfl (fun g10 => opLoadN (tl27 H) ((Pt.box 0 (mv rfl) rfl rfl).take 4 (cs' := (eFleet v1)) rfl)) ?_
    refine cg rfl rfl rfl rfl rfl (fun g11 => opMove (mv rfl)) ?_
    refine cg rfl rfl rfl rfl rfl (fun g12 => opMove (mv rfl)) ?_
    refine cg rfl rfl rfl rfl rfl (fun g13 => opMove (mv rfl)) ?_
    refine bindE h fun y15 ey15 h => ?_
    refine cg rfl rfl rfl rfl rfl (fun g14 => opCallQ (fnok20 H) (args := [(agg (eFleet v1)), (iv .i64 v2), (iv .i64 v3), (iv .i64 v4)]) ⟨EvF.of (Ev.cnd (mv rfl) g14) FEnt.refl, EvF.of (Ev.cnd (mv rfl) g14) FEnt.refl, EvF.of (Ev.cnd (mv rfl) g14) FEnt.refl, EvF.of (Ev.cnd (mv rfl) g14) FEnt.refl, trivial⟩ (fleet_Fits_ok H φ v1 v2 v3 v4 _ (gcall_pos ey15 g14)) flat_eqv) ?_
    refine cg rfl rfl rfl rfl rfl (fun g16 => opNeq (Ev.cnd (mv rfl) g16) (Ev.const _)) ?_
    refine cq rfl rfl rfl (opOr (mv rfl) (Ev.const _) (fun g17 => (Ev.cnd (mv rfl) g17))) ?_
    refine rn (al [1, 2, 3, 4, 5, 27] [0] rfl rfl rfl (sq ?_))
    refine CodeT.cond ((!y9) || (y15 != 0)) (evBool (mv rfl)) (fun c18 => ?_) (fun c18 => ?_)
    · rw [if_pos c18] at h
      refine cs (cr [0] rfl ?_)
      refine cq rfl rfl rfl (opAssign (Ev.const _)) ?_
      refine rn (al [10] [] rfl rfl rfl (sq ?_))
      refine CodeT.ret ?_
      refine AtX.then_ret ?_
      refine AtX.ret' (bv true) (ResOK.one Try.results7 rfl) [] [] trivial rfl ?_
      obtain rfl := Option.some.inj h
      exact ⟨rfl, rfl⟩
    · rw [if_neg (bne_true c18)] at h
      refine CodeT.skip ?_
      refine al [1, 2, 3, 4, 5] [0] rfl rfl rfl ?_
      refine sq (cs (cs (cr [0, 1, 2, 3, 4, 5, 6, 7, 8, 9, 10, 11, 12, 13, 14, 15, 16, 17, 18, 19, 20] rfl ?_)))
      refine cq rfl rfl rfl (opMove (mv rfl)) ?_
      refine cq rfl rfl rfl (opLss (mv rfl) (Ev.const _)) ?_
      refine cq rfl rfl rfl (opMove (mv rfl)) ?_
      refine cg rfl rfl rfl rfl rfl (fun g19 => opMove (mv rfl)) ?_
      refine cg rfl rfl rfl rfl rfl (fun g20 => opFieldP (fo27_1 H) (mv rfl)) ?_
      refine cg rfl rfl rfl rfl rfl (fun g21 => opLoad1 (tl23 H) ((Pt.box 0 (Ev.cnd (mv rfl) g21) rfl rfl).take 1 (cs' := [(ro eWagon 5 v1.fWagons)]) rfl)) ?_
      refine cg rfl rfl rfl rfl rfl (fun g22 => opLenR (il23 H) (Ev.cnd (mv rfl) g22)) ?_
      refine cg rfl rfl rfl rfl rfl (fun g23 => opGeq (Ev.cnd (mv rfl) g23) (Ev.cnd (mv rfl) g23)) ?_
      refine cq rfl rfl rfl (opOr (mv rfl) (Ev.const _) (fun g24 => (Ev.cnd (mv rfl) g24))) ?_
      refine cq rfl rfl rfl (opMove (mv rfl)) ?_
      refine cg rfl rfl rfl rfl rfl (fun g25 => opMove (mv rfl)) ?_
      refine cg rfl rfl rfl rfl rfl (fun g26 => opLss (Ev.cnd (mv rfl) g26) (Ev.const _)) ?_
      refine cq rfl rfl rfl (opOr (mv rfl) (Ev.const _) (fun g27 => (Ev.cnd (mv rfl) g27))) ?_
      refine cq rfl rfl rfl (opMove (mv rfl)) ?_
      refine cg rfl rfl rfl rfl rfl (fun g28 => opMove (mv rfl)) ?_
      refine cg rfl rfl rfl rfl rfl (fun g29 => opGtr (Ev.cnd (mv rfl) g29) (Ev.const _)) ?_
      refine cq rfl rfl rfl (opOr (mv rfl) (Ev.const _) (fun g30 => (Ev.cnd (mv rfl) g30))) ?_
      refine cq rfl rfl rfl (opMove (mv rfl)) ?_
      refine cg rfl rfl rfl rfl rfl (fun g31 => opMove (mv rfl)) ?_
      refine cg rfl rfl rfl rfl rfl (fun g32 => opLss (Ev.cnd (mv rfl) g32) (Ev.const _)) ?_
      refine cq rfl rfl rfl (opOr (mv rfl) (Ev.const _) (fun g33 => (Ev.cnd (mv rfl) g33))) ?_
      refine rn (al [1, 2, 3, 4, 5, 48] [0] rfl rfl rfl (sq ?_))
      refine CodeT.cond ((((decide (v2 < 0) || decide ((v1.fWagons.length : Int) ≤ v2)) || decide (v3 < 0)) || decide (63 < v3)) || decide (v4 < 0)) (evBool (mv rfl)) (fun c34 => ?_) (fun c34 => ?_)
      · rw [if_pos c34] at h
        refine cs (cr [0] rfl ?_)
        refine cq rfl rfl rfl (opAssign (Ev.const _)) ?_
        refine rn (al [10] [] rfl rfl rfl (sq ?_))
        refine CodeT.ret ?_
        refine AtX.then_ret ?_
        refine AtX.ret' (bv false) (ResOK.one Try.results7 rfl) [] [] trivial rfl ?_
        obtain rfl := Option.some.inj h
        exact ⟨rfl, rfl⟩
      · rw [if_neg (bne_true c34)] at h
        refine CodeT.skip ?_
        refine al [1, 2, 3, 4, 5] [0] rfl rfl rfl ?_
        refine sq (cs (cr [0, 1, 2, 3, 4, 5, 6] rfl ?_))
        refine cq rfl rfl rfl (opFieldP (fo27_1 H) (mv rfl)) ?_
        refine cq rfl rfl rfl (opLoad1 (tl23 H) ((Pt.box 0 (mv rfl) rfl rfl).take 1 (cs' := [(ro eWagon 5 v1.fWagons)]) rfl)) ?_
        refine cq rfl rfl rfl (opMove (mv rfl)) ?_
        refine ckE h fun h35 h => ?_
        refine cq rfl rfl rfl (opIndexR (e := eWagon) (y := (gt v1.fWagons v2)) (ix23 H) (mv rfl) (mv rfl) (h35).1 (gt_some h35)) ?_
        refine cq rfl rfl rfl (opFieldRT (fo47_0 H) (mv rfl) (cs' := [(iv .i64 ((gt v1.fWagons v2).fType))]) 1 rfl) ?_
        refine cq rfl rfl rfl (opLoad1 (tl3 H) (Pt.rop (mv rfl))) ?_
        refine cq rfl rfl rfl (opAssign (mv rfl)) ?_
        refine rn (al [1, 2, 3, 4, 5, 11] [0] rfl rfl rfl (sq (cs (cs (cr [0, 1, 2, 3, 4, 5, 6, 7, 8, 9, 10, 11, 12, 13, 14, 15, 16, 17, 18, 19, 20, 21, 22, 23, 24, 25, 26, 27, 28, 29, 30] rfl ?_)))))
        refine cq rfl rfl rfl (opMove (mv rfl)) ?_
        refine cq rfl rfl rfl (opLss (mv rfl) (Ev.const _)) ?_
        refine cq rfl rfl rfl (opMove (mv rfl)) ?_
        refine cg rfl rfl rfl rfl rfl (fun g36 => opMove (mv rfl)) ?_
        refine cg rfl rfl rfl rfl rfl (fun g37 => opFieldP (fo27_0 H) (mv rfl)) ?_
        refine cg rfl rfl rfl rfl rfl (fun g38 => opLoad1 (tl22 H) ((Pt.box 0 (Ev.cnd (mv rfl) g38) rfl rfl).take 1 (cs' := [(ro eWagonType 8 v1.fTypes)]) rfl)) ?_
        refine cg rfl rfl rfl rfl rfl (fun g39 => opLenR (il22 H) (Ev.cnd (mv rfl) g39)) ?_
        refine cg rfl rfl rfl rfl rfl (fun g40 => opGeq (Ev.cnd (mv rfl) g40) (Ev.cnd (mv rfl) g40)) ?_
        refine cq rfl rfl rfl (opOr (mv rfl) (Ev.const _) (fun g41 => (Ev.cnd (mv rfl) g41))) ?_
        refine cq rfl rfl rfl (opMove (mv rfl)) ?_
        refine cg rfl rfl rfl rfl rfl (fun g42 => opFieldP (fo27_0 H) (mv rfl)) ?_
        refine cg rfl rfl rfl rfl rfl (fun g43 => opLoad1 (tl22 H) ((Pt.box 0 (Ev.cnd (mv rfl) g43) rfl rfl).take 1 (cs' := [(ro eWagonType 8 v1.fTypes)]) rfl)) ?_
        refine cg rfl rfl rfl rfl rfl (fun g44 => opMove (mv rfl)) ?_
        refine ckE h fun h46 h => ?_
        refine cg rfl rfl rfl rfl rfl (fun g45 => opIndexR (e := eWagonType) (y := (gt v1.fTypes ((gt v1.fWagons v2).fType))) (ix22 H) (Ev.cnd (mv rfl) g45) (Ev.cnd (mv rfl) g45) ((h46 g45)).1 (gt_some (h46 g45))) ?_
        refine cg rfl rfl rfl rfl rfl (fun g47 => opFieldRT (fo50_5 H) (Ev.cnd (mv rfl) g47) (cs' := [(iv .u64 ((gt v1.fTypes ((gt v1.fWagons v2).fType)).fClasses))]) 1 rfl) ?_
        refine cg rfl rfl rfl rfl rfl (fun g48 => opLoad1 (tl48 H) (Pt.rop (Ev.cnd (mv rfl) g48))) ?_
        refine cg rfl rfl rfl rfl rfl (fun g49 => opMove (mv rfl)) ?_
        refine ckE h fun h51 h => ?_
        refine cg rfl rfl rfl rfl rfl (fun g50 => opShr (Ev.cnd (mv rfl) g50) (Ev.cnd (mv rfl) g50) (h51 g50)) ?_
        refine cg rfl rfl rfl rfl rfl (fun g52 => opBand (Ev.cnd (mv rfl) g52) (Ev.const _)) ?_
        refine cg rfl rfl rfl rfl rfl (fun g53 => opEql (Ev.cnd (mv rfl) g53) (Ev.const _)) ?_
        refine cq rfl rfl rfl (opOr (mv rfl) (Ev.const _) (fun g54 => (Ev.cnd (mv rfl) g54))) ?_
        refine cq rfl rfl rfl (opMove (mv rfl)) ?_
        refine cg rfl rfl rfl rfl rfl (fun g55 => opMove (mv rfl)) ?_
        refine cg rfl rfl rfl rfl rfl (fun g56 => opFieldP (fo27_0 H) (mv rfl)) ?_
        refine cg rfl rfl rfl rfl rfl (fun g57 => opLoad1 (tl22 H) ((Pt.box 0 (Ev.cnd (mv rfl) g57) rfl rfl).take 1 (cs' := [(ro eWagonType 8 v1.fTypes)]) rfl)) ?_
        refine cg rfl rfl rfl rfl rfl (fun g58 => opMove (mv rfl)) ?_
        refine ckE h fun h60 h => ?_
        refine cg rfl rfl rfl rfl rfl (fun g59 => opIndexR (e := eWagonType) (y := (gt v1.fTypes ((gt v1.fWagons v2).fType))) (ix22 H) (Ev.cnd (mv rfl) g59) (Ev.cnd (mv rfl) g59) ((h60 g59)).1 (gt_some (h60 g59))) ?_
        refine cg rfl rfl rfl rfl rfl (fun g61 => opFieldRT (fo50_0 H) (Ev.cnd (mv rfl) g61) (cs' := [(iv .i64 ((gt v1.fTypes ((gt v1.fWagons v2).fType)).fLoad))]) 1 rfl) ?_
        refine cg rfl rfl rfl rfl rfl (fun g62 => opLoad1 (tl3 H) (Pt.rop (Ev.cnd (mv rfl) g62))) ?_
        refine cg rfl rfl rfl rfl rfl (fun g63 => opGtr (Ev.cnd (mv rfl) g63) (Ev.cnd (mv rfl) g63)) ?_
        refine cq rfl rfl rfl (opOr (mv rfl) (Ev.const _) (fun g64 => (Ev.cnd (mv rfl) g64))) ?_
        refine rn (al [1, 2, 3, 4, 5, 11, 85] [0] rfl rfl rfl (sq ?_))
        refine CodeT.cond (((decide ((gt v1.fWagons v2).fType < 0) || decide ((v1.fTypes.length : Int) ≤ (gt v1.fWagons v2).fType)) || ((U ((BitVec.ofInt (IntKind.bits .u64) (((gt v1.fTypes ((gt v1.fWagons v2).fType)).fClasses).fdiv (2 ^ (min (v3 : Int).toNat (IntKind.bits .u64)))) &&& BitVec.ofInt (IntKind.bits .u64) 1).toNat)) == 0)) || decide ((gt v1.fTypes ((gt v1.fWagons v2).fType)).fLoad < v4)) (evBool (mv rfl)) (fun c65 => ?_) (fun c65 => ?_)
        · rw [if_pos c65] at h
          refine cs (cr [0] rfl ?_)
          refine cq rfl rfl rfl (opAssign (Ev.const _)) ?_
          refine rn (al [10] [] rfl rfl rfl (sq ?_))
          refine CodeT.ret ?_
          refine AtX.then_ret ?_
          refine AtX.ret' (bv false) (ResOK.one Try.results7 rfl) [] [] trivial rfl ?_
          obtain rfl := Option.some.inj h
          exact ⟨rfl, rfl⟩
        · rw [if_neg (bne_true c65)] at h
          refine CodeT.skip ?_
          refine al [1, 2, 3, 4, 5, 11] [0] rfl rfl rfl ?_
          refine sq (cs (cr [0, 1, 2, 3, 4] rfl ?_))
          refine RunOps.cons rfl rfl rfl (opBuildSlice (e := eWagonType) ([] : List WagonType) (sl22 H) lWagonType rfl (by decide) trivial fun sv66 => ?_)
          refine cq rfl rfl rfl (opFieldP (fo27_0 H) (mv rfl)) ?_
          refine cq rfl rfl rfl (opLoad1 (tl22 H) ((Pt.box 0 (mv rfl) rfl rfl).take 1 (cs' := [(ro eWagonType 8 v1.fTypes)]) rfl)) ?_
          refine ckE h fun h67 h => ?_
          refine RunOps.cons rfl rfl rfl (opAppend 1 (l := ([] : List WagonType)) (m := v1.fTypes) (sl22 H) lWagonType (mv rfl) rfl (Src.ro lWagonType (by decide) (mv rfl)) h67 (fits_max (by decide) h67) fun sv68 => ?_)
          refine cq rfl rfl rfl (opAssign (mv rfl)) ?_
          refine rn (al [1, 2, 3, 4, 5, 11, 12] [0, 1] rfl rfl rfl (sq (cs ?_)))
          refine ckE h fun h69 h => ?_
          refine ckE h fun h70 h => ?_
          refine CodeT.draw (QR := [(0, (eqv sv68)), (1, (iv .i64 ((gt v1.fWagons v2).fType))), (2, (rowp sv68 (((gt v1.fWagons v2).fType : Int).toNat * 8))), (3, (rowp sv68 (((gt v1.fWagons v2).fType : Int).toNat * 8 + 5))), (4, (iv .u64 ((gt (([] : List WagonType) ++ v1.fTypes) ((gt v1.fWagons v2).fType)).fClasses))), (5, (iv .i64 v3)), (6, (iv .u64 (U (1 * 2 ^ (min (v3 : Int).toNat (IntKind.bits .u64)))))), (7, (iv .u64 (U ((BitVec.ofInt (IntKind.bits .u64) ((gt (([] : List WagonType) ++ v1.fTypes) ((gt v1.fWagons v2).fType)).fClasses) ^^^ BitVec.ofInt (IntKind.bits .u64) (U (1 * 2 ^ (min (v3 : Int).toNat (IntKind.bits .u64))))).toNat)))), (8, (rowp sv68 (((gt v1.fWagons v2).fType : Int).toNat * 8))), (9, (rowp sv68 (((gt v1.fWagons v2).fType : Int).toNat * 8 + 5)))]) (tab := [(some 90, []), (some 91, []), (some 92, [0, 1]), (some 93, [2]), (some 94, [3]), (some 95, []), (some 96, [5]), (some 97, [4, 6]), (some 98, [0, 1, 0, 1, 2, 3, 4, 5, 6, 7]), (some 99, [8, 0, 1, 2, 3, 4, 5, 6, 7]), (none, [9, 7, 0, 1, 2, 3, 4, 5, 6, 7])]) (mixed H) ?_
          refine Reg.intro [10] [] (by kernel_rfl) rfl ⟨rfl, rfl, rfl, rfl, rfl, rfl, rfl, rfl, rfl, rfl, trivial⟩ ⟨(fun _ => ⟨_, rfl, (opMove (mv rfl))⟩), (fun _ => ⟨_, rfl, (opMove (mv rfl))⟩), (fun _ => ⟨_, rfl, (opIndexO 1 (ix22 H) (mv rfl) rfl (mv rfl) (h69).1 (h69).2)⟩), (fun _ => ⟨_, rfl, (opFieldO (fo50_5 H) (mv rfl))⟩), (fun _ => ⟨_, rfl, (opLoad1 (tl48 H) ((Pt.row _ 1 (k := ((gt v1.fWagons v2).fType : Int).toNat) (fo := 5) lWagonType (mv rfl) rfl (by omega) (gt_some h69) rfl).take 1 (cs' := [(iv .u64 ((gt (([] : List WagonType) ++ v1.fTypes) ((gt v1.fWagons v2).fType)).fClasses))]) rfl))⟩), (fun _ => ⟨_, rfl, (opMove (mv rfl))⟩), (fun _ => ⟨_, rfl, (opShl (Ev.const _) (mv rfl) h70)⟩), (fun _ => ⟨_, rfl, (opBxor (mv rfl) (mv rfl))⟩), (fun _ => ⟨_, rfl, (opIndexO 1 (ix22 H) (mv rfl) rfl (mv rfl) (h69).1 (h69).2)⟩), (fun _ => ⟨_, rfl, (opFieldO (fo50_5 H) (mv rfl))⟩), trivial⟩ ⟨⟨_, rfl, rfl, rfl, rfl, opStoreO 1 (k := ((gt v1.fWagons v2).fType : Int).toNat) (fo := 5) (z' := (WagonType.mk (gt (([] : List WagonType) ++ v1.fTypes) ((gt v1.fWagons v2).fType)).fLoad (gt (([] : List WagonType) ++ v1.fTypes) ((gt v1.fWagons v2).fType)).fTare (gt (([] : List WagonType) ++ v1.fTypes) ((gt v1.fWagons v2).fType)).fLength (gt (([] : List WagonType) ++ v1.fTypes) ((gt v1.fWagons v2).fType)).fGauge (gt (([] : List WagonType) ++ v1.fTypes) ((gt v1.fWagons v2).fType)).fBrake (U ((BitVec.ofInt (IntKind.bits .u64) ((gt (([] : List WagonType) ++ v1.fTypes) ((gt v1.fWagons v2).fType)).fClasses) ^^^ BitVec.ofInt (IntKind.bits .u64) (U (1 * 2 ^ (min (v3 : Int).toNat (IntKind.bits .u64))))).toNat)) (gt (([] : List WagonType) ++ v1.fTypes) ((gt v1.fWagons v2).fType)).fLife (gt (([] : List WagonType) ++ v1.fTypes) ((gt v1.fWagons v2).fType)).fFloor)) (cs := [(iv .u64 (U ((BitVec.ofInt (IntKind.bits .u64) ((gt (([] : List WagonType) ++ v1.fTypes) ((gt v1.fWagons v2).fType)).fClasses) ^^^ BitVec.ofInt (IntKind.bits .u64) (U (1 * 2 ^ (min (v3 : Int).toNat (IntKind.bits .u64))))).toNat)))]) lWagonType (tl48 H) (mv rfl) (Ce.one (mv rfl) (One.eqv rfl)) rfl rfl (by omega) (gt_some h69) (Nat.le_of_ble_eq_true rfl) rfl ⟨[], rfl, ?_⟩⟩, trivial⟩ (fun hc => Bool.noConfusion (hc : false = true))
          refine Reg.intro [] [0, 1, 2, 3, 4, 5, 6, 7, 8, 9] (by kernel_rfl) rfl ⟨rfl, rfl, rfl, rfl, rfl, rfl, rfl, rfl, rfl, rfl, trivial⟩ ⟨(fun hn => Bool.noConfusion (hn : true = false)), (fun hn => Bool.noConfusion (hn : true = false)), (fun hn => Bool.noConfusion (hn : true = false)), (fun hn => Bool.noConfusion (hn : true = false)), (fun hn => Bool.noConfusion (hn : true = false)), (fun hn => Bool.noConfusion (hn : true = false)), (fun hn => Bool.noConfusion (hn : true = false)), (fun hn => Bool.noConfusion (hn : true = false)), (fun hn => Bool.noConfusion (hn : true = false)), (fun hn => Bool.noConfusion (hn : true = false)), trivial⟩ trivial (fun _ => ?_)
          refine al [1, 2, 3, 4, 5, 12] [0, 1] rfl rfl rfl ?_
          refine sq (cs (cr [0, 1, 2, 3, 4, 5, 6, 7, 8, 9] rfl ?_))
          refine cq rfl rfl rfl (opMove (mv rfl)) ?_
          refine cq rfl rfl rfl (opFieldP (fo27_1 H) (mv rfl)) ?_
          refine cq rfl rfl rfl (opLoad1 (tl23 H) ((Pt.box 0 (mv rfl) rfl rfl).take 1 (cs' := [(ro eWagon 5 v1.fWagons)]) rfl)) ?_
          refine cq rfl rfl rfl (opFieldP (fo27_2 H) (mv rfl)) ?_
          refine cq rfl rfl rfl (opLoad1 (tl24 H) ((Pt.box 0 (mv rfl) rfl rfl).take 1 (cs' := [(ro eSwap 3 v1.fSwaps)]) rfl)) ?_
          refine cq rfl rfl rfl (opFieldP (fo27_3 H) (mv rfl)) ?_
          refine cq rfl rfl rfl (opLoad1 (tl25 H) ((Pt.box 0 (mv rfl) rfl rfl).take 1 (cs' := [(ro eWash 3 v1.fWashes)]) rfl)) ?_
          refine cq rfl rfl rfl (OpT.own1 1 rfl fun hs72 => (opBuild [.slice none 0 0, .slice none 0 0, .slice none 0 0, .slice none 0 0] [(0, [(eqv sv68)]), (1, [(ro eWagon 5 v1.fWagons)]), (2, [(ro eSwap 3 v1.fSwaps)]), (3, [(ro eWash 3 v1.fWashes)])] (out := [(eqv sv68), (ro eWagon 5 v1.fWagons), (ro eSwap 3 v1.fSwaps), (ro eWash 3 v1.fWashes)]) (ze27 H) rfl (tb27 H) ⟨(tp27_0 H), Nat.le_of_ble_eq_true rfl, (Ce.one (mv rfl) (One.eqv hs72)), ⟨(tp27_1 H), Nat.le_of_ble_eq_true rfl, (Ce.one (mv rfl) One.ro), ⟨(tp27_2 H), Nat.le_of_ble_eq_true rfl, (Ce.one (mv rfl) One.ro), ⟨(tp27_3 H), Nat.le_of_ble_eq_true rfl, (Ce.one (mv rfl) One.ro), trivial⟩⟩⟩⟩ rfl)) ?_
          refine RunOps.cons rfl rfl rfl (opAlloc [.slice none 0 0, .slice none 0 0, .slice none 0 0, .slice none 0 0] (ze27 H) rfl fun b73 => ?_)
          refine RunOps.cons rfl rfl rfl (opStore 2 (cells := [(eqv (.slice none 0 0)), (eqv (.slice none 0 0)), (eqv (.slice none 0 0)), (eqv (.slice none 0 0))]) (cs := [(eqv sv68), (ro eWagon 5 v1.fWagons), (ro eSwap 3 v1.fSwaps), (ro eWash 3 v1.fWashes)]) (out := [(eqv sv68), (ro eWagon 5 v1.fWagons), (ro eSwap 3 v1.fSwaps), (ro eWash 3 v1.fWashes)]) (tl27 H) (mv rfl) (Ce.agg (mv rfl)) rfl rfl (Nat.le_of_ble_eq_true rfl) rfl ?_)
          refine rn (al [1, 2, 3, 4, 5, 13] [0, 1, 2] rfl rfl rfl (sq (cs (cr [0, 1, 2, 3, 4, 5, 6, 7] rfl ?_))))
          refine cq rfl rfl rfl (opMove (mv rfl)) ?_
          refine cq rfl rfl rfl (opConv (us3 H) (un48 H) (mv rfl)) ?_
          refine cq rfl rfl rfl (opMove (mv rfl)) ?_
          refine cq rfl rfl rfl (opAdd (mv rfl) (Ev.const _)) ?_
          refine cq rfl rfl rfl (opConv (us3 H) (un48 H) (mv rfl)) ?_
          refine ckE h fun h74 h => ?_
          refine cq rfl rfl rfl (opRem (mv rfl) (mv rfl) h74) ?_
          refine cq rfl rfl rfl (opConv (us48 H) (un3 H) (mv rfl)) ?_
          refine cq rfl rfl rfl (opAssign (mv rfl)) ?_
          refine rn (al [1, 2, 5, 13, 14] [0, 1, 2] rfl rfl rfl (sq (cs (cr [0, 1, 2, 3, 4, 5, 6, 7, 8, 9, 10, 11, 12, 13, 14, 15, 16, 17, 18, 19, 20, 21] rfl ?_))))
          refine RunOps.cons_q (agg (eFleet v1)) rfl rfl rfl (opLoadN (tl27 H) ((Pt.box 0 (mv rfl) rfl rfl).take 4 (cs' := (eFleet v1)) rfl)) ?_
          refine cq rfl rfl rfl (opMove (mv rfl)) ?_
          refine cq rfl rfl rfl (opMove (mv rfl)) ?_
          refine cq rfl rfl rfl (opMove (mv rfl)) ?_
          refine bindE h fun y75 ey75 h => ?_
          refine cq rfl rfl rfl (opCallQ (fnok20 H) (args := [(agg (eFleet v1)), (iv .i64 v2), (iv .i64 v3), (iv .i64 (W (((U (v5)).tmod (U ((W (v4 + 1))))))))]) ⟨EvF.of (mv rfl) FEnt.refl, EvF.of (mv rfl) FEnt.refl, EvF.of (mv rfl) FEnt.refl, EvF.of (mv rfl) FEnt.refl, trivial⟩ (fleet_Fits_ok H φ v1 v2 v3 (W (((U (v5)).tmod (U ((W (v4 + 1))))))) _ ey75) flat_eqv) ?_
          refine cq rfl rfl rfl (opEql (mv rfl) (Ev.const _)) ?_
          refine cq rfl rfl rfl (opMove (mv rfl)) ?_
          refine cg (x := (agg (eFleet v1))) rfl rfl rfl rfl rfl (fun g76 => opLoadN (tl27 H) ((Pt.box 0 (mv rfl) rfl rfl).take 4 (cs' := (eFleet v1)) rfl)) ?_
          refine cg rfl rfl rfl rfl rfl (fun g77 => opMove (mv rfl)) ?_
          refine cg rfl rfl rfl rfl rfl (fun g78 => opMove (mv rfl)) ?_
          refine bindE h fun y80 ey80 h => ?_
          refine cg rfl rfl rfl rfl rfl (fun g79 => opCallQ (fnok20 H) (args := [(agg (eFleet v1)), (iv .i64 v2), (iv .i64 v3), (iv .i64 (-1))]) ⟨EvF.of (Ev.cnd (mv rfl) g79) FEnt.refl, EvF.of (Ev.cnd (mv rfl) g79) FEnt.refl, EvF.of (Ev.cnd (mv rfl) g79) FEnt.refl, EvF.of (Ev.const _) FEnt.refl, trivial⟩ (fleet_Fits_ok H φ v1 v2 v3 (-1) _ (gcall_pos ey80 g79)) flat_eqv) ?_
          refine cg rfl rfl rfl rfl rfl (fun g81 => opEql (Ev.cnd (mv rfl) g81) (Ev.const _)) ?_
          refine cq rfl rfl rfl (opAnd (mv rfl) (fun g82 => (Ev.cnd (mv rfl) g82)) (Ev.const _)) ?_
          refine cq rfl rfl rfl (opMove (mv rfl)) ?_
          refine cg (x := (agg [(eqv sv68), (ro eWagon 5 v1.fWagons), (ro eSwap 3 v1.fSwaps), (ro eWash 3 v1.fWashes)])) rfl rfl rfl rfl rfl (fun g83 => opLoadN (tl27 H) ((Pt.box 2 (mv rfl) rfl rfl).take 4 (cs' := [(eqv sv68), (ro eWagon 5 v1.fWagons), (ro eSwap 3 v1.fSwaps), (ro eWash 3 v1.fWashes)]) rfl)) ?_
          refine cg rfl rfl rfl rfl rfl (fun g84 => opMove (mv rfl)) ?_
          refine cg rfl rfl rfl rfl rfl (fun g85 => opMove (mv rfl)) ?_
          refine cg rfl rfl rfl rfl rfl (fun g86 => opMove (mv rfl)) ?_
          refine bindE h fun y88 ey88 h => ?_
          refine cg rfl rfl rfl rfl rfl (fun g87 => opCallQ (fnok20 H) (args := [(agg [(ro eWagonType 8 ((Fleet.mk (setAt (([] : List WagonType) ++ v1.fTypes) ((gt v1.fWagons v2).fType) (WagonType.mk (gt (([] : List WagonType) ++ v1.fTypes) ((gt v1.fWagons v2).fType)).fLoad (gt (([] : List WagonType) ++ v1.fTypes) ((gt v1.fWagons v2).fType)).fTare (gt (([] : List WagonType) ++ v1.fTypes) ((gt v1.fWagons v2).fType)).fLength (gt (([] : List WagonType) ++ v1.fTypes) ((gt v1.fWagons v2).fType)).fGauge (gt (([] : List WagonType) ++ v1.fTypes) ((gt v1.fWagons v2).fType)).fBrake (U ((BitVec.ofInt (IntKind.bits .u64) ((gt (([] : List WagonType) ++ v1.fTypes) ((gt v1.fWagons v2).fType)).fClasses) ^^^ BitVec.ofInt (IntKind.bits .u64) (U (1 * 2 ^ (min (v3 : Int).toNat (IntKind.bits .u64))))).toNat)) (gt (([] : List WagonType) ++ v1.fTypes) ((gt v1.fWagons v2).fType)).fLife (gt (([] : List WagonType) ++ v1.fTypes) ((gt v1.fWagons v2).fType)).fFloor)) v1.fWagons v1.fSwaps v1.fWashes).fTypes)), (ro eWagon 5 ((Fleet.mk (setAt (([] : List WagonType) ++ v1.fTypes) ((gt v1.fWagons v2).fType) (WagonType.mk (gt (([] : List WagonType) ++ v1.fTypes) ((gt v1.fWagons v2).fType)).fLoad (gt (([] : List WagonType) ++ v1.fTypes) ((gt v1.fWagons v2).fType)).fTare (gt (([] : List WagonType) ++ v1.fTypes) ((gt v1.fWagons v2).fType)).fLength (gt (([] : List WagonType) ++ v1.fTypes) ((gt v1.fWagons v2).fType)).fGauge (gt (([] : List WagonType) ++ v1.fTypes) ((gt v1.fWagons v2).fType)).fBrake (U ((BitVec.ofInt (IntKind.bits .u64) ((gt (([] : List WagonType) ++ v1.fTypes) ((gt v1.fWagons v2).fType)).fClasses) ^^^ BitVec.ofInt (IntKind.bits .u64) (U (1 * 2 ^ (min (v3 : Int).toNat (IntKind.bits .u64))))).toNat)) (gt (([] : List WagonType) ++ v1.fTypes) ((gt v1.fWagons v2).fType)).fLife (gt (([] : List WagonType) ++ v1.fTypes) ((gt v1.fWagons v2).fType)).fFloor)) v1.fWagons v1.fSwaps v1.fWashes).fWagons)), (ro eSwap 3 ((Fleet.mk (setAt (([] : List WagonType) ++ v1.fTypes) ((gt v1.fWagons v2).fType) (WagonType.mk (gt (([] : List WagonType) ++ v1.fTypes) ((gt v1.fWagons v2).fType)).fLoad (gt (([] : List WagonType) ++ v1.fTypes) ((gt v1.fWagons v2).fType)).fTare (gt (([] : List WagonType) ++ v1.fTypes) ((gt v1.fWagons v2).fType)).fLength (gt (([] : List WagonType) ++ v1.fTypes) ((gt v1.fWagons v2).fType)).fGauge (gt (([] : List WagonType) ++ v1.fTypes) ((gt v1.fWagons v2).fType)).fBrake (U ((BitVec.ofInt (IntKind.bits .u64) ((gt (([] : List WagonType) ++ v1.fTypes) ((gt v1.fWagons v2).fType)).fClasses) ^^^ BitVec.ofInt (IntKind.bits .u64) (U (1 * 2 ^ (min (v3 : Int).toNat (IntKind.bits .u64))))).toNat)) (gt (([] : List WagonType) ++ v1.fTypes) ((gt v1.fWagons v2).fType)).fLife (gt (([] : List WagonType) ++ v1.fTypes) ((gt v1.fWagons v2).fType)).fFloor)) v1.fWagons v1.fSwaps v1.fWashes).fSwaps)), (ro eWash 3 ((Fleet.mk (setAt (([] : List WagonType) ++ v1.fTypes) ((gt v1.fWagons v2).fType) (WagonType.mk (gt (([] : List WagonType) ++ v1.fTypes) ((gt v1.fWagons v2).fType)).fLoad (gt (([] : List WagonType) ++ v1.fTypes) ((gt v1.fWagons v2).fType)).fTare (gt (([] : List WagonType) ++ v1.fTypes) ((gt v1.fWagons v2).fType)).fLength (gt (([] : List WagonType) ++ v1.fTypes) ((gt v1.fWagons v2).fType)).fGauge (gt (([] : List WagonType) ++ v1.fTypes) ((gt v1.fWagons v2).fType)).fBrake (U ((BitVec.ofInt (IntKind.bits .u64) ((gt (([] : List WagonType) ++ v1.fTypes) ((gt v1.fWagons v2).fType)).fClasses) ^^^ BitVec.ofInt (IntKind.bits .u64) (U (1 * 2 ^ (min (v3 : Int).toNat (IntKind.bits .u64))))).toNat)) (gt (([] : List WagonType) ++ v1.fTypes) ((gt v1.fWagons v2).fType)).fLife (gt (([] : List WagonType) ++ v1.fTypes) ((gt v1.fWagons v2).fType)).fFloor)) v1.fWagons v1.fSwaps v1.fWashes).fWashes))]), (iv .i64 v2), (iv .i64 v3), (iv .i64 (W (((U (v5)).tmod (U ((W (v4 + 1))))))))]) ⟨EvF.of (Ev.cnd (mv rfl) g87) (FEnt.agg ⟨(FEnt.row 1 lWagonType rfl), FEnt.refl, FEnt.refl, FEnt.refl, trivial⟩), EvF.of (Ev.cnd (mv rfl) g87) FEnt.refl, EvF.of (Ev.cnd (mv rfl) g87) FEnt.refl, EvF.of (Ev.cnd (mv rfl) g87) FEnt.refl, trivial⟩ (fleet_Fits_ok H φ (Fleet.mk (setAt (([] : List WagonType) ++ v1.fTypes) ((gt v1.fWagons v2).fType) (WagonType.mk (gt (([] : List WagonType) ++ v1.fTypes) ((gt v1.fWagons v2).fType)).fLoad (gt (([] : List WagonType) ++ v1.fTypes) ((gt v1.fWagons v2).fType)).fTare (gt (([] : List WagonType) ++ v1.fTypes) ((gt v1.fWagons v2).fType)).fLength (gt (([] : List WagonType) ++ v1.fTypes) ((gt v1.fWagons v2).fType)).fGauge (gt (([] : List WagonType) ++ v1.fTypes) ((gt v1.fWagons v2).fType)).fBrake (U ((BitVec.ofInt (IntKind.bits .u64) ((gt (([] : List WagonType) ++ v1.fTypes) ((gt v1.fWagons v2).fType)).fClasses) ^^^ BitVec.ofInt (IntKind.bits .u64) (U (1 * 2 ^ (min (v3 : Int).toNat (IntKind.bits .u64))))).toNat)) (gt (([] : List WagonType) ++ v1.fTypes) ((gt v1.fWagons v2).fType)).fLife (gt (([] : List WagonType) ++ v1.fTypes) ((gt v1.fWagons v2).fType)).fFloor)) v1.fWagons v1.fSwaps v1.fWashes) v2 v3 (W (((U (v5)).tmod (U ((W (v4 + 1))))))) _ (gcall_pos ey88 g87)) flat_eqv) ?_
          refine cg rfl rfl rfl rfl rfl (fun g89 => opEql (Ev.cnd (mv rfl) g89) (Ev.const _)) ?_
          refine cq rfl rfl rfl (opAnd (mv rfl) (fun g90 => (Ev.cnd (mv rfl) g90)) (Ev.const _)) ?_
          refine cq rfl rfl rfl (opAssign (mv rfl)) ?_
          refine rn (al [10] [] rfl rfl rfl (sq ?_))
          refine CodeT.ret ?_
          refine AtX.ret' (bv (((y75 == 0) && (y80 == 91)) && (y88 == 91))) (ResOK.one Try.results7 rfl) [] [] trivial rfl ?_
          obtain rfl := Option.some.inj h
          exact ⟨rfl, rfl⟩
end Px
