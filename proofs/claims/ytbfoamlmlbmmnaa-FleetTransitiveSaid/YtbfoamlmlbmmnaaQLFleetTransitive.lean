/- The law computes what was read out of it. Conditions: none. -/
import Derived.Test.YtbfoamlmlbmmnaaQcC
set_option linter.unusedVariables false
set_option linter.unusedSimpArgs false
set_option maxHeartbeats 4000000
set_option maxRecDepth 100000
namespace Px
open Go Go.RowKit Go.Proofs
theorem law09_FleetTransitive_ok {P : Program} (H : P = Try.prog) (φ : Nat) (v1 : Fleet) (v2 : Int) (r : (Bool)) (h : law09_FleetTransitive φ v1 v2 = some r) : PureT P 5 [(agg (eFleet v1)), (iv .i64 v2)] (fun x news => x = (bv r) ∧ news = []) := by
  unfold law09_FleetTransitive at h
  refine PureT.of_code' 103 (fn5 H) rfl rfl (Nat.le_of_ble_eq_true rfl) fun w0 base r0 wI => ?_
  refine cl [0, 1] [] rfl rfl rfl ?_
  refine cs (cr [0, 1] rfl ?_)
  refine RunOps.cons rfl rfl rfl (opBox (cs := (eFleet v1)) (Ce.agg (mv rfl)) fun b3 => ?_)
  refine cq rfl rfl rfl (opAssign (Ev.const _)) ?_
  refine rn (al [1, 2] [0] rfl rfl rfl (sq (cs (cs (cr [0, 1] rfl ?_)))))
  refine bindE h fun y4 ey4 h => ?_
  refine cq rfl rfl rfl (opCallQ (fnok10 H) (args := []) trivial (law09_sane_ok H φ  _ ey4) flat_eqv) ?_
  refine cq rfl rfl rfl (opNot (mv rfl)) ?_
  refine rn (al [1, 2, 14] [0] rfl rfl rfl (sq ?_))
  refine CodeT.cond (!y4) (evBool (mv rfl)) (fun c5 => ?_) (fun c5 => ?_)
  · rw [if_pos c5] at h
    refine cs (cr [0] rfl ?_)
    refine cq rfl rfl rfl (opAssign (Ev.const _)) ?_
    refine rn (al [4] [] rfl rfl rfl (sq ?_))
    refine CodeT.ret ?_
    refine AtX.then_ret ?_
    refine AtX.ret' (bv false) (ResOK.one Try.results5 rfl) [] [] trivial rfl ?_
    obtain rfl := Option.some.inj h
    exact ⟨rfl, rfl⟩
  · rw [if_neg (bne_true c5)] at h
    refine CodeT.skip ?_
    refine al [1, 2] [0] rfl rfl rfl ?_
    refine sq (cs (cs (cr [0, 1, 2] rfl ?_)))
    refine RunOps.cons_q (agg (eFleet v1)) rfl rfl rfl (opLoadN (tl27 H) ((Pt.box 0 (mv rfl) rfl rfl).take 4 (cs' := (eFleet v1)) rfl)) ?_
    refine bindE h fun y6 ey6 h => ?_
    refine cq rfl rfl rfl (opCallQ (fnok11 H) (args := [(agg (eFleet v1))]) ⟨EvF.of (mv rfl) FEnt.refl, trivial⟩ (law09_few_ok H φ v1 _ ey6) flat_eqv) ?_
    refine cq rfl rfl rfl (opNot (mv rfl)) ?_
    refine rn (al [1, 2, 17] [0] rfl rfl rfl (sq ?_))
    refine CodeT.cond (!y6) (evBool (mv rfl)) (fun c7 => ?_) (fun c7 => ?_)
    · rw [if_pos c7] at h
      refine cs (cr [0] rfl ?_)
      refine cq rfl rfl rfl (opAssign (Ev.const _)) ?_
      refine rn (al [4] [] rfl rfl rfl (sq ?_))
      refine CodeT.ret ?_
      refine AtX.then_ret ?_
      refine AtX.ret' (bv true) (ResOK.one Try.results5 rfl) [] [] trivial rfl ?_
      obtain rfl := Option.some.inj h
      exact ⟨rfl, rfl⟩
    · rw [if_neg (bne_true c7)] at h
      refine CodeT.skip ?_
      refine al [1, 2] [0] rfl rfl rfl ?_
      refine sq (cs (cr [0, 1, 2, 3, 4, 5, 6, 7] rfl ?_))
      refine RunOps.cons_q (agg (eFleet v1)) rfl rfl rfl (opLoadN (tl27 H) ((Pt.box 0 (mv rfl) rfl rfl).take 4 (cs' := (eFleet v1)) rfl)) ?_
      refine cq rfl rfl rfl (opMove (mv rfl)) ?_
      refine bindE h fun y8 ey8 h => ?_
      refine RunOps.cons rfl rfl rfl (opCallF (fnok12 H) (args := [(agg (eFleet v1)), (iv .i64 v2)]) ⟨EvF.of (mv rfl) FEnt.refl, EvF.of (mv rfl) FEnt.refl, trivial⟩ (fleet_Given_ok H φ v1 v2 _ ey8) fun x11 nw12 hk10 => ?_)
      obtain ⟨sv9, rfl, rfl⟩ := hk10
      refine ⟨(flat_tup' ⟨flat_eqv, flat_eqv, trivial⟩), allFlatH ⟨flat_row' fSwap, trivial⟩, ?_⟩
      refine cq rfl rfl rfl (opMove (mv rfl)) ?_
      refine cq rfl rfl rfl (opExtract (mv rfl) rfl) ?_
      refine cq rfl rfl rfl (opExtract (mv rfl) rfl) ?_
      refine cq rfl rfl rfl (opAssign (mv rfl)) ?_
      refine cq rfl rfl rfl (opAssign (mv rfl)) ?_
      refine rn (al [2, 5, 6] [0, 1] rfl rfl rfl (sq (cs (cs (cr [0, 1, 2, 3, 4, 5, 6] rfl ?_)))))
      refine cq rfl rfl rfl (opMove (mv rfl)) ?_
      refine cq rfl rfl rfl (opNeq (mv rfl) (Ev.const _)) ?_
      refine cq rfl rfl rfl (opMove (mv rfl)) ?_
      refine cg rfl rfl rfl rfl rfl (fun g13 => opMove (mv rfl)) ?_
      refine cg rfl rfl rfl rfl rfl (fun g14 => opLenO 1 (il24 H) (Ev.cnd (mv rfl) g14) rfl) ?_
      refine cg rfl rfl rfl rfl rfl (fun g15 => opGtr (Ev.cnd (mv rfl) g15) (Ev.const _)) ?_
      refine cq rfl rfl rfl (opOr (mv rfl) (Ev.const _) (fun g16 => (Ev.cnd (mv rfl) g16))) ?_
      refine rn (al [2, 5, 6, 30] [0, 1] rfl rfl rfl (sq ?_))
      refine CodeT.cond ((y8.2 != 0) || decide (32 < (y8.1.length : Int))) (evBool (mv rfl)) (fun c17 => ?_) (fun c17 => ?_)
      · rw [if_pos c17] at h
        refine cs (cr [0, 1, 2] rfl ?_)
        refine cq rfl rfl rfl (opMove (mv rfl)) ?_
        refine cq rfl rfl rfl (opNeq (mv rfl) (Ev.const _)) ?_
        refine cq rfl rfl rfl (opAssign (mv rfl)) ?_
        refine rn (al [4] [] rfl rfl rfl (sq ?_))
        refine CodeT.ret ?_
        refine AtX.then_ret ?_
        refine AtX.ret' (bv (y8.2 != 0)) (ResOK.one Try.results5 rfl) [] [] trivial rfl ?_
        obtain rfl := Option.some.inj h
        exact ⟨rfl, rfl⟩
      · rw [if_neg (bne_true c17)] at h
        refine CodeT.skip ?_
        refine al [2, 5] [0, 1] rfl rfl rfl ?_
        refine sq (cs (cs (cr [0] rfl ?_)))
        refine cq rfl rfl rfl (opAssign (Ev.const _)) ?_
        refine rn (al [2, 5, 7] [0, 1] rfl rfl rfl (sq ?_))
        refine CodeT.join (fun z : Unit => (law09_FleetTransitive_j18 φ)) r (fun z => ⟨Slots.of [], []⟩) (fun z h => ?_) (fun hJ18 => ?_)
        · replace h : (law09_FleetTransitive_j18 φ) = some r := h
          unfold law09_FleetTransitive_j18 at h
          refine al [] [] rfl rfl rfl ?_
          refine sq (cs (cr [0] rfl ?_))
          refine cq rfl rfl rfl (opAssign (Ev.const _)) ?_
          refine rn (al [4] [] rfl rfl rfl (sq ?_))
          refine CodeT.ret ?_
          refine AtX.ret' (bv true) (ResOK.one Try.results5 rfl) [] [] trivial rfl ?_
          obtain rfl := Option.some.inj h
          exact ⟨rfl, rfl⟩
        · refine CodeT.block ?_
          refine CodeT.to (CodeT.loop (fun n (z : Int) => law09_FleetTransitive_L20 φ v1 y8 (law09_FleetTransitive_j18 φ) n z) r (fun z => ⟨Slots.of [(2, (eqv (.pointer (some ⟨b3, 0, none⟩)))), (5, (eqv sv9)), (7, (iv .i64 z))], [(box b3 27 (eFleet v1)), (row 43 eSwap 3 y8.1 sv9)]⟩) (fun z => rfl) (fun n20 v19 ih20 h => ?_) φ 0 h) [0, 1] (sl rfl) (ol rfl) rfl
          replace h : law09_FleetTransitive_L20 φ v1 y8 (law09_FleetTransitive_j18 φ) (n20 + 1) v19 = some r := h
          rw [law09_FleetTransitive_L20] at h
          refine cs (cs (cr [0, 1, 2, 3] rfl ?_))
          refine cq rfl rfl rfl (opMove (mv rfl)) ?_
          refine cq rfl rfl rfl (opMove (mv rfl)) ?_
          refine cq rfl rfl rfl (opLenO 1 (il24 H) (mv rfl) rfl) ?_
          refine cq rfl rfl rfl (opLss (mv rfl) (mv rfl)) ?_
          refine rn (al [2, 5, 7, 36] [0, 1] rfl rfl rfl (sq ?_))
          refine CodeT.cond (decide (v19 < (y8.1.length : Int))) (evBool (mv rfl)) (fun c21 => ?_) (fun c21 => ?_)
          · rw [if_pos c21] at h
            refine CodeT.skip ?_
            refine al [2, 5, 7] [0, 1] rfl rfl rfl ?_
            refine sq (cs ?_)
            refine CodeT.join (fun z : Unit => (law09_FleetTransitive_j22 φ v19 (law09_FleetTransitive_L20 φ v1 y8 (law09_FleetTransitive_j18 φ) n20))) r (fun z => ⟨Slots.of [(2, (eqv (.pointer (some ⟨b3, 0, none⟩)))), (5, (eqv sv9)), (7, (iv .i64 v19))], [(box b3 27 (eFleet v1)), (row 43 eSwap 3 y8.1 sv9)]⟩) (fun z h => ?_) (fun hJ22 => ?_)
            · replace h : (law09_FleetTransitive_j22 φ v19 (law09_FleetTransitive_L20 φ v1 y8 (law09_FleetTransitive_j18 φ) n20)) = some r := h
              unfold law09_FleetTransitive_j22 at h
              refine al [2, 5, 7] [0, 1] rfl rfl rfl ?_
              refine sq (cr [0, 1, 2] rfl ?_)
              refine cq rfl rfl rfl (opMove (mv rfl)) ?_
              refine cq rfl rfl rfl (opAdd (mv rfl) (Ev.const _)) ?_
              refine cq rfl rfl rfl (opAssign (mv rfl)) ?_
              refine rn ?_
              exact AtX.to (ih20 (W (v19 + 1)) h) [0, 1] (sl rfl) (ol rfl) rfl
            · refine CodeT.block ?_
              refine cs ?_
              refine ckE h fun h23 h => ?_
              refine bindE h fun y25 ey25 h => ?_
              refine CodeT.draw (QR := [(0, (agg (eFleet v1))), (1, (eqv sv9)), (2, (iv .i64 v19)), (3, (rowp sv9 ((v19 : Int).toNat * 3))), (4, (rowp sv9 ((v19 : Int).toNat * 3 + 1))), (5, (iv .i64 ((gt y8.1 v19).fGiven)))]) (tab := [(some 40, []), (some 41, []), (some 42, []), (some 43, [1, 2]), (some 44, [3]), (some 45, [4]), (some 46, [0, 5]), (some 39, [6]), (some 47, [7]), (some 48, [7]), (some 8, [8, 6, 0, 1, 2, 3, 4, 5, 6, 7, 8]), (some 9, [9, 10, 0, 1, 2, 3, 4, 5, 6, 7, 8, 9, 10])]) (mixed H) ?_
              refine Reg.intro [6] [] (by kernel_rfl) rfl ⟨rfl, rfl, rfl, rfl, rfl, rfl, trivial⟩ ⟨(fun _ => ⟨_, rfl, (opLoadN (tl27 H) ((Pt.box 0 (mv rfl) rfl rfl).take 4 (cs' := (eFleet v1)) rfl))⟩), (fun _ => ⟨_, rfl, (opMove (mv rfl))⟩), (fun _ => ⟨_, rfl, (opMove (mv rfl))⟩), (fun _ => ⟨_, rfl, (opIndexO 1 (ix24 H) (mv rfl) rfl (mv rfl) (h23).1 (h23).2)⟩), (fun _ => ⟨_, rfl, (opFieldO (fo43_1 H) (mv rfl))⟩), (fun _ => ⟨_, rfl, (opLoad1 (tl3 H) ((Pt.row _ 1 (k := (v19 : Int).toNat) (fo := 1) lSwap (mv rfl) rfl (by omega) (gt_some h23) rfl).take 1 (cs' := [(iv .i64 ((gt y8.1 v19).fGiven))]) rfl))⟩), trivial⟩ ⟨⟨_, rfl, rfl, rfl, rfl, opCallF (fnok12 H) (args := [(agg (eFleet v1)), (iv .i64 ((gt y8.1 v19).fGiven))]) ⟨EvF.of (mv rfl) FEnt.refl, EvF.of (mv rfl) FEnt.refl, trivial⟩ (fleet_Given_ok H φ v1 ((gt y8.1 v19).fGiven) _ ey25) fun x28 nw29 hk27 => ?_⟩, trivial⟩ (fun hc => Bool.noConfusion (hc : false = true))
              obtain ⟨sv26, rfl, rfl⟩ := hk27
              refine ⟨(flat_tup' ⟨flat_eqv, flat_eqv, trivial⟩), allFlatH ⟨flat_row' fSwap, trivial⟩, ⟨[(7, (tupv [(eqv sv26), (iv .i64 y25.2)])), (8, (eqv sv26)), (9, (iv .i64 y25.2)), (10, (eqv sv26)), (11, (iv .i64 y25.2))], rfl, ?_⟩⟩
              refine Reg.intro [] [0, 1, 2, 3, 4, 5] (by kernel_rfl) rfl ⟨rfl, rfl, rfl, rfl, rfl, rfl, rfl, rfl, rfl, rfl, rfl, trivial⟩ ⟨(fun hn => Bool.noConfusion (hn : true = false)), (fun hn => Bool.noConfusion (hn : true = false)), (fun hn => Bool.noConfusion (hn : true = false)), (fun hn => Bool.noConfusion (hn : true = false)), (fun hn => Bool.noConfusion (hn : true = false)), (fun hn => Bool.noConfusion (hn : true = false)), (fun _ => ⟨_, rfl, (opMove (mv rfl))⟩), (fun _ => ⟨_, rfl, (opExtract (mv rfl) rfl)⟩), (fun _ => ⟨_, rfl, (opExtract (mv rfl) rfl)⟩), (fun _ => ⟨_, rfl, (opAssign (mv rfl))⟩), (fun _ => ⟨_, rfl, (opAssign (mv rfl))⟩), trivial⟩ trivial (fun _ => ?_)
              refine al [2, 5, 7, 8, 9] [0, 1, 2] rfl rfl rfl ?_
              refine sq (cs (cs (cr [0, 1, 2, 3, 4, 5, 6] rfl ?_)))
              refine cq rfl rfl rfl (opMove (mv rfl)) ?_
              refine cq rfl rfl rfl (opNeq (mv rfl) (Ev.const _)) ?_
              refine cq rfl rfl rfl (opMove (mv rfl)) ?_
              refine cg rfl rfl rfl rfl rfl (fun g30 => opMove (mv rfl)) ?_
              refine cg rfl rfl rfl rfl rfl (fun g31 => opLenO 2 (il24 H) (Ev.cnd (mv rfl) g31) rfl) ?_
              refine cg rfl rfl rfl rfl rfl (fun g32 => opGtr (Ev.cnd (mv rfl) g32) (Ev.const _)) ?_
              refine cq rfl rfl rfl (opOr (mv rfl) (Ev.const _) (fun g33 => (Ev.cnd (mv rfl) g33))) ?_
              refine rn (al [2, 5, 7, 8, 55] [0, 1, 2] rfl rfl rfl (sq ?_))
              refine CodeT.cond ((y25.2 != 0) || decide (32 < (y25.1.length : Int))) (evBool (mv rfl)) (fun c34 => ?_) (fun c34 => ?_)
              · rw [if_pos c34] at h
                refine cs (cr [0] rfl ?_)
                refine cq rfl rfl rfl (opAssign (Ev.const _)) ?_
                refine rn (al [4] [] rfl rfl rfl (sq ?_))
                refine CodeT.ret ?_
                refine AtX.then_ret ?_
                refine AtX.in_ret ?_
                refine AtX.then_ret ?_
                refine AtX.then_ret ?_
                refine AtX.in_ret ?_
                refine AtX.then_ret ?_
                refine AtX.ret' (bv false) (ResOK.one Try.results5 rfl) [] [] trivial rfl ?_
                obtain rfl := Option.some.inj h
                exact ⟨rfl, rfl⟩
              · rw [if_neg (bne_true c34)] at h
                refine CodeT.skip ?_
                refine al [2, 5, 7, 8] [0, 1, 2] rfl rfl rfl ?_
                refine sq (cs (cr [0] rfl ?_))
                refine cq rfl rfl rfl (opAssign (Ev.const _)) ?_
                refine rn (al [2, 5, 7, 8, 10] [0, 1, 2] rfl rfl rfl (sq ?_))
                refine CodeT.block ?_
                refine CodeT.to (CodeT.loop (fun n (z : Int) => law09_FleetTransitive_L36 φ y8 v19 (law09_FleetTransitive_j22 φ v19 (law09_FleetTransitive_L20 φ v1 y8 (law09_FleetTransitive_j18 φ) n20)) y25 n z) r (fun z => ⟨Slots.of [(2, (eqv (.pointer (some ⟨b3, 0, none⟩)))), (5, (eqv sv9)), (7, (iv .i64 v19)), (8, (eqv sv26)), (10, (iv .i64 z))], [(box b3 27 (eFleet v1)), (row 43 eSwap 3 y8.1 sv9), (row 43 eSwap 3 y25.1 sv26)]⟩) (fun z => rfl) (fun n36 v35 ih36 h => ?_) φ 0 h) [0, 1, 2] (sl rfl) (ol rfl) rfl
                replace h : law09_FleetTransitive_L36 φ y8 v19 (law09_FleetTransitive_j22 φ v19 (law09_FleetTransitive_L20 φ v1 y8 (law09_FleetTransitive_j18 φ) n20)) y25 (n36 + 1) v35 = some r := h
                rw [law09_FleetTransitive_L36] at h
                refine cs (cs (cr [0, 1, 2, 3] rfl ?_))
                refine cq rfl rfl rfl (opMove (mv rfl)) ?_
                refine cq rfl rfl rfl (opMove (mv rfl)) ?_
                refine cq rfl rfl rfl (opLenO 2 (il24 H) (mv rfl) rfl) ?_
                refine cq rfl rfl rfl (opLss (mv rfl) (mv rfl)) ?_
                refine rn (al [2, 5, 7, 8, 10, 59] [0, 1, 2] rfl rfl rfl (sq ?_))
                refine CodeT.cond (decide (v35 < (y25.1.length : Int))) (evBool (mv rfl)) (fun c37 => ?_) (fun c37 => ?_)
                · rw [if_pos c37] at h
                  refine CodeT.skip ?_
                  refine al [2, 5, 7, 8, 10] [0, 1, 2] rfl rfl rfl ?_
                  refine sq (cs ?_)
                  refine CodeT.join (fun z : Unit => (law09_FleetTransitive_j38 φ v35 (law09_FleetTransitive_L36 φ y8 v19 (law09_FleetTransitive_j22 φ v19 (law09_FleetTransitive_L20 φ v1 y8 (law09_FleetTransitive_j18 φ) n20)) y25 n36))) r (fun z => ⟨Slots.of [(2, (eqv (.pointer (some ⟨b3, 0, none⟩)))), (5, (eqv sv9)), (7, (iv .i64 v19)), (8, (eqv sv26)), (10, (iv .i64 v35))], [(box b3 27 (eFleet v1)), (row 43 eSwap 3 y8.1 sv9), (row 43 eSwap 3 y25.1 sv26)]⟩) (fun z h => ?_) (fun hJ38 => ?_)
                  · replace h : (law09_FleetTransitive_j38 φ v35 (law09_FleetTransitive_L36 φ y8 v19 (law09_FleetTransitive_j22 φ v19 (law09_FleetTransitive_L20 φ v1 y8 (law09_FleetTransitive_j18 φ) n20)) y25 n36)) = some r := h
                    unfold law09_FleetTransitive_j38 at h
                    refine al [2, 5, 7, 8, 10] [0, 1, 2] rfl rfl rfl ?_
                    refine sq (cr [0, 1, 2] rfl ?_)
                    refine cq rfl rfl rfl (opMove (mv rfl)) ?_
                    refine cq rfl rfl rfl (opAdd (mv rfl) (Ev.const _)) ?_
                    refine cq rfl rfl rfl (opAssign (mv rfl)) ?_
                    refine rn ?_
                    exact AtX.to (ih36 (W (v35 + 1)) h) [0, 1, 2] (sl rfl) (ol rfl) rfl
                  · refine CodeT.block ?_
                    refine cs (cr [0] rfl ?_)
                    refine cq rfl rfl rfl (opAssign (Ev.const _)) ?_
                    refine rn (al [2, 5, 7, 8, 10, 11] [0, 1, 2] rfl rfl rfl (sq (cs (cs (cr [0] rfl ?_)))))
                    refine cq rfl rfl rfl (opAssign (Ev.const _)) ?_
                    refine rn (al [2, 5, 7, 8, 10, 11, 12] [0, 1, 2] rfl rfl rfl (sq ?_))
                    refine CodeT.join (fun z : Bool => (law09_FleetTransitive_j40 φ (law09_FleetTransitive_j38 φ v35 (law09_FleetTransitive_L36 φ y8 v19 (law09_FleetTransitive_j22 φ v19 (law09_FleetTransitive_L20 φ v1 y8 (law09_FleetTransitive_j18 φ) n20)) y25 n36))) z) r (fun z => ⟨Slots.of [(2, (eqv (.pointer (some ⟨b3, 0, none⟩)))), (5, (eqv sv9)), (7, (iv .i64 v19)), (8, (eqv sv26)), (10, (iv .i64 v35)), (11, (bv z))], [(box b3 27 (eFleet v1)), (row 43 eSwap 3 y8.1 sv9), (row 43 eSwap 3 y25.1 sv26)]⟩) (fun v39 h => ?_) (fun hJ40 => ?_)
                    · replace h : (law09_FleetTransitive_j40 φ (law09_FleetTransitive_j38 φ v35 (law09_FleetTransitive_L36 φ y8 v19 (law09_FleetTransitive_j22 φ v19 (law09_FleetTransitive_L20 φ v1 y8 (law09_FleetTransitive_j18 φ) n20)) y25 n36))) v39 = some r := h
                      unfold law09_FleetTransitive_j40 at h
                      refine al [2, 5, 7, 8, 10, 11] [0, 1, 2] rfl rfl rfl ?_
                      refine sq (cs (cr [0, 1] rfl ?_))
                      refine cq rfl rfl rfl (opMove (mv rfl)) ?_
                      refine cq rfl rfl rfl (opNot (mv rfl)) ?_
                      refine rn (al [2, 5, 7, 8, 10, 102] [0, 1, 2] rfl rfl rfl (sq ?_))
                      refine CodeT.cond (!v39) (evBool (mv rfl)) (fun c41 => ?_) (fun c41 => ?_)
                      · rw [if_pos c41] at h
                        refine cs (cr [0] rfl ?_)
                        refine cq rfl rfl rfl (opAssign (Ev.const _)) ?_
                        refine rn (al [4] [] rfl rfl rfl (sq ?_))
                        refine CodeT.ret ?_
                        refine AtX.in_ret ?_
                        refine AtX.then_ret ?_
                        refine AtX.then_ret ?_
                        refine AtX.in_ret ?_
                        refine AtX.in_ret ?_
                        refine AtX.then_ret ?_
                        refine AtX.then_ret ?_
                        refine AtX.in_ret ?_
                        refine AtX.then_ret ?_
                        refine AtX.ret' (bv false) (ResOK.one Try.results5 rfl) [] [] trivial rfl ?_
                        obtain rfl := Option.some.inj h
                        exact ⟨rfl, rfl⟩
                      · rw [if_neg (bne_true c41)] at h
                        refine CodeT.skip ?_
                        refine AtX.in_normal ?_
                        exact AtX.to (hJ38 () h) [0, 1, 2] (sl rfl) (ol rfl) rfl
                    · refine CodeT.block ?_
                      refine CodeT.to (CodeT.loop (fun n (z : Bool × Int) => law09_FleetTransitive_L44 φ y8 v19 y25 v35 (law09_FleetTransitive_j40 φ (law09_FleetTransitive_j38 φ v35 (law09_FleetTransitive_L36 φ y8 v19 (law09_FleetTransitive_j22 φ v19 (law09_FleetTransitive_L20 φ v1 y8 (law09_FleetTransitive_j18 φ) n20)) y25 n36))) n z.1 z.2) r (fun z => ⟨Slots.of [(2, (eqv (.pointer (some ⟨b3, 0, none⟩)))), (5, (eqv sv9)), (7, (iv .i64 v19)), (8, (eqv sv26)), (10, (iv .i64 v35)), (11, (bv z.1)), (12, (iv .i64 z.2))], [(box b3 27 (eFleet v1)), (row 43 eSwap 3 y8.1 sv9), (row 43 eSwap 3 y25.1 sv26)]⟩) (fun z => rfl) (fun n44 z ih44 h => ?_) φ (false, 0) h) [0, 1, 2] (sl rfl) (ol rfl) rfl
                      obtain ⟨v42, v43⟩ := z
                      replace h : law09_FleetTransitive_L44 φ y8 v19 y25 v35 (law09_FleetTransitive_j40 φ (law09_FleetTransitive_j38 φ v35 (law09_FleetTransitive_L36 φ y8 v19 (law09_FleetTransitive_j22 φ v19 (law09_FleetTransitive_L20 φ v1 y8 (law09_FleetTransitive_j18 φ) n20)) y25 n36))) (n44 + 1) v42 v43 = some r := h
                      rw [law09_FleetTransitive_L44] at h
                      refine cs (cs (cr [0, 1, 2, 3] rfl ?_))
                      refine cq rfl rfl rfl (opMove (mv rfl)) ?_
                      refine cq rfl rfl rfl (opMove (mv rfl)) ?_
                      refine cq rfl rfl rfl (opLenO 1 (il24 H) (mv rfl) rfl) ?_
                      refine cq rfl rfl rfl (opLss (mv rfl) (mv rfl)) ?_
                      refine rn (al [2, 5, 7, 8, 10, 11, 12, 65] [0, 1, 2] rfl rfl rfl (sq ?_))
                      refine CodeT.cond (decide (v43 < (y8.1.length : Int))) (evBool (mv rfl)) (fun c45 => ?_) (fun c45 => ?_)
                      · rw [if_pos c45] at h
                        refine CodeT.skip ?_
                        refine al [2, 5, 7, 8, 10, 11, 12] [0, 1, 2] rfl rfl rfl ?_
                        refine sq (cs ?_)
                        refine CodeT.block ?_
                        refine ckE h fun h49 h => ?_
                        refine ckE h fun h55 h => ?_
                        refine ckE h fun h63 h => ?_
                        refine ckE h fun h69 h => ?_
                        refine ckE h fun h75 h => ?_
                        refine CodeT.draw (QR := [(0, (bv v42)), (1, (bv v42)), (2, (cnd (v42 = false) (eqv sv9))), (3, (cnd (v42 = false) (iv .i64 v43))), (4, (cnd (v42 = false) (rowp sv9 ((v43 : Int).toNat * 3)))), (5, (cnd (v42 = false) (rowp sv9 ((v43 : Int).toNat * 3 + 1)))), (6, (cnd (v42 = false) (iv .i64 ((gt y8.1 v43).fGiven)))), (7, (cnd (v42 = false) (eqv sv26))), (8, (cnd (v42 = false) (iv .i64 v35))), (9, (cnd (v42 = false) (rowp sv26 ((v35 : Int).toNat * 3)))), (10, (cnd (v42 = false) (rowp sv26 ((v35 : Int).toNat * 3 + 1)))), (11, (cnd (v42 = false) (iv .i64 ((gt y25.1 v35).fGiven)))), (12, (cnd (v42 = false) (bv ((gt y8.1 v43).fGiven == (gt y25.1 v35).fGiven)))), (13, (cnd (v42 = false) (bv ((gt y8.1 v43).fGiven == (gt y25.1 v35).fGiven)))), (14, (cnd ((v42 = false) ∧ (((gt y8.1 v43).fGiven == (gt y25.1 v35).fGiven) = true)) (eqv sv9))), (15, (cnd ((v42 = false) ∧ (((gt y8.1 v43).fGiven == (gt y25.1 v35).fGiven) = true)) (iv .i64 v43))), (16, (cnd ((v42 = false) ∧ (((gt y8.1 v43).fGiven == (gt y25.1 v35).fGiven) = true)) (rowp sv9 ((v43 : Int).toNat * 3)))), (17, (cnd ((v42 = false) ∧ (((gt y8.1 v43).fGiven == (gt y25.1 v35).fGiven) = true)) (rowp sv9 ((v43 : Int).toNat * 3 + 2)))), (18, (cnd ((v42 = false) ∧ (((gt y8.1 v43).fGiven == (gt y25.1 v35).fGiven) = true)) (iv .i64 ((gt y8.1 v43).fCost)))), (19, (cnd ((v42 = false) ∧ (((gt y8.1 v43).fGiven == (gt y25.1 v35).fGiven) = true)) (eqv sv9))), (20, (cnd ((v42 = false) ∧ (((gt y8.1 v43).fGiven == (gt y25.1 v35).fGiven) = true)) (iv .i64 v19))), (21, (cnd ((v42 = false) ∧ (((gt y8.1 v43).fGiven == (gt y25.1 v35).fGiven) = true)) (rowp sv9 ((v19 : Int).toNat * 3)))), (22, (cnd ((v42 = false) ∧ (((gt y8.1 v43).fGiven == (gt y25.1 v35).fGiven) = true)) (rowp sv9 ((v19 : Int).toNat * 3 + 2)))), (23, (cnd ((v42 = false) ∧ (((gt y8.1 v43).fGiven == (gt y25.1 v35).fGiven) = true)) (iv .i64 ((gt y8.1 v19).fCost)))), (24, (cnd ((v42 = false) ∧ (((gt y8.1 v43).fGiven == (gt y25.1 v35).fGiven) = true)) (eqv sv26))), (25, (cnd ((v42 = false) ∧ (((gt y8.1 v43).fGiven == (gt y25.1 v35).fGiven) = true)) (iv .i64 v35))), (26, (cnd ((v42 = false) ∧ (((gt y8.1 v43).fGiven == (gt y25.1 v35).fGiven) = true)) (rowp sv26 ((v35 : Int).toNat * 3)))), (27, (cnd ((v42 = false) ∧ (((gt y8.1 v43).fGiven == (gt y25.1 v35).fGiven) = true)) (rowp sv26 ((v35 : Int).toNat * 3 + 2)))), (28, (cnd ((v42 = false) ∧ (((gt y8.1 v43).fGiven == (gt y25.1 v35).fGiven) = true)) (iv .i64 ((gt y25.1 v35).fCost)))), (29, (cnd ((v42 = false) ∧ (((gt y8.1 v43).fGiven == (gt y25.1 v35).fGiven) = true)) (iv .i64 (W (((gt y8.1 v19).fCost) + ((gt y25.1 v35).fCost)))))), (30, (cnd ((v42 = false) ∧ (((gt y8.1 v43).fGiven == (gt y25.1 v35).fGiven) = true)) (bv (decide ((gt y8.1 v43).fCost ≤ (W (((gt y8.1 v19).fCost) + ((gt y25.1 v35).fCost)))))))), (31, (cnd (v42 = false) (bv (((gt y8.1 v43).fGiven == (gt y25.1 v35).fGiven) && decide ((gt y8.1 v43).fCost ≤ (W (((gt y8.1 v19).fCost) + ((gt y25.1 v35).fCost)))))))), (32, (bv (v42 || (((gt y8.1 v43).fGiven == (gt y25.1 v35).fGiven) && decide ((gt y8.1 v43).fCost ≤ (W (((gt y8.1 v19).fCost) + ((gt y25.1 v35).fCost))))))))]) (tab := [(some 68, []), (some 69, [0]), (some 70, [1]), (some 71, [1]), (some 72, [2, 3, 1]), (some 73, [4, 1]), (some 74, [5, 1]), (some 75, [1]), (some 76, [1]), (some 77, [7, 8, 1]), (some 78, [9, 1]), (some 79, [10, 1]), (some 80, [6, 11, 1]), (some 81, [12, 1, 1]), (some 82, [13]), (some 83, [13]), (some 84, [14, 15, 13]), (some 85, [16, 13]), (some 86, [17, 13]), (some 87, [13]), (some 88, [13]), (some 89, [19, 20, 13]), (some 90, [21, 13]), (some 91, [22, 13]), (some 92, [13]), (some 93, [13]), (some 94, [24, 25, 13]), (some 95, [26, 13]), (some 96, [27, 13]), (some 97, [23, 28, 13]), (some 98, [18, 29, 13]), (some 99, [13, 30, 1]), (some 100, [1, 31]), (some 11, [32, 13, 0, 1, 2, 3, 4, 5, 6, 7, 8, 9, 10, 11, 12, 13, 14, 15, 16, 17, 18, 19, 20, 21, 22, 23, 24, 25, 26, 27, 28, 29, 30, 31, 32])]) (mixed H) ?_
                        refine Reg.intro [33] [] (by kernel_rfl) rfl ⟨rfl, rfl, rfl, rfl, rfl, rfl, rfl, rfl, rfl, rfl, rfl, rfl, rfl, rfl, rfl, rfl, rfl, rfl, rfl, rfl, rfl, rfl, rfl, rfl, rfl, rfl, rfl, rfl, rfl, rfl, rfl, rfl, rfl, trivial⟩ ⟨(fun _ => ⟨_, rfl, (opMove (mv rfl))⟩), (fun _ => ⟨_, rfl, (opMove (mv rfl))⟩), (fun _ => ⟨_, rfl, ⟨(v42 = false), (eqv sv9), 69, rfl, rfl, fun g46 => (opMove (mv rfl)), .inl ⟨v42, rfl, rfl⟩⟩⟩), (fun _ => ⟨_, rfl, ⟨(v42 = false), (iv .i64 v43), 69, rfl, rfl, fun g47 => (opMove (mv rfl)), .inl ⟨v42, rfl, rfl⟩⟩⟩), (fun _ => ⟨_, rfl, ⟨(v42 = false), (rowp sv9 ((v43 : Int).toNat * 3)), 69, rfl, rfl, fun g48 => (opIndexO 1 (ix24 H) (Ev.cnd (mv rfl) g48) rfl (Ev.cnd (mv rfl) g48) ((h49 g48)).1 ((h49 g48)).2), .inl ⟨v42, rfl, rfl⟩⟩⟩), (fun _ => ⟨_, rfl, ⟨(v42 = false), (rowp sv9 ((v43 : Int).toNat * 3 + 1)), 69, rfl, rfl, fun g50 => (opFieldO (fo43_1 H) (Ev.cnd (mv rfl) g50)), .inl ⟨v42, rfl, rfl⟩⟩⟩), (fun _ => ⟨_, rfl, ⟨(v42 = false), (iv .i64 ((gt y8.1 v43).fGiven)), 69, rfl, rfl, fun g51 => (opLoad1 (tl3 H) ((Pt.row _ 1 (k := (v43 : Int).toNat) (fo := 1) lSwap (Ev.cnd (mv rfl) g51) rfl (by omega) (gt_some (h49 g51)) rfl).take 1 (cs' := [(iv .i64 ((gt y8.1 v43).fGiven))]) rfl)), .inl ⟨v42, rfl, rfl⟩⟩⟩), (fun _ => ⟨_, rfl, ⟨(v42 = false), (eqv sv26), 69, rfl, rfl, fun g52 => (opMove (mv rfl)), .inl ⟨v42, rfl, rfl⟩⟩⟩), (fun _ => ⟨_, rfl, ⟨(v42 = false), (iv .i64 v35), 69, rfl, rfl, fun g53 => (opMove (mv rfl)), .inl ⟨v42, rfl, rfl⟩⟩⟩), (fun _ => ⟨_, rfl, ⟨(v42 = false), (rowp sv26 ((v35 : Int).toNat * 3)), 69, rfl, rfl, fun g54 => (opIndexO 2 (ix24 H) (Ev.cnd (mv rfl) g54) rfl (Ev.cnd (mv rfl) g54) ((h55 g54)).1 ((h55 g54)).2), .inl ⟨v42, rfl, rfl⟩⟩⟩), (fun _ => ⟨_, rfl, ⟨(v42 = false), (rowp sv26 ((v35 : Int).toNat * 3 + 1)), 69, rfl, rfl, fun g56 => (opFieldO (fo43_1 H) (Ev.cnd (mv rfl) g56)), .inl ⟨v42, rfl, rfl⟩⟩⟩), (fun _ => ⟨_, rfl, ⟨(v42 = false), (iv .i64 ((gt y25.1 v35).fGiven)), 69, rfl, rfl, fun g57 => (opLoad1 (tl3 H) ((Pt.row _ 2 (k := (v35 : Int).toNat) (fo := 1) lSwap (Ev.cnd (mv rfl) g57) rfl (by omega) (gt_some (h55 g57)) rfl).take 1 (cs' := [(iv .i64 ((gt y25.1 v35).fGiven))]) rfl)), .inl ⟨v42, rfl, rfl⟩⟩⟩), (fun _ => ⟨_, rfl, ⟨(v42 = false), (bv ((gt y8.1 v43).fGiven == (gt y25.1 v35).fGiven)), 69, rfl, rfl, fun g58 => (opEql (Ev.cnd (mv rfl) g58) (Ev.cnd (mv rfl) g58)), .inl ⟨v42, rfl, rfl⟩⟩⟩), (fun _ => ⟨_, rfl, ⟨(v42 = false), (bv ((gt y8.1 v43).fGiven == (gt y25.1 v35).fGiven)), 69, rfl, rfl, fun g59 => (opMove (Ev.cnd (mv rfl) g59)), .inl ⟨v42, rfl, rfl⟩⟩⟩), (fun _ => ⟨_, rfl, ⟨((v42 = false) ∧ (((gt y8.1 v43).fGiven == (gt y25.1 v35).fGiven) = true)), (eqv sv9), 81, rfl, rfl, fun g60 => (opMove (mv rfl)), .inr ⟨(v42 = false), ((gt y8.1 v43).fGiven == (gt y25.1 v35).fGiven), rfl, rfl⟩⟩⟩), (fun _ => ⟨_, rfl, ⟨((v42 = false) ∧ (((gt y8.1 v43).fGiven == (gt y25.1 v35).fGiven) = true)), (iv .i64 v43), 81, rfl, rfl, fun g61 => (opMove (mv rfl)), .inr ⟨(v42 = false), ((gt y8.1 v43).fGiven == (gt y25.1 v35).fGiven), rfl, rfl⟩⟩⟩), (fun _ => ⟨_, rfl, ⟨((v42 = false) ∧ (((gt y8.1 v43).fGiven == (gt y25.1 v35).fGiven) = true)), (rowp sv9 ((v43 : Int).toNat * 3)), 81, rfl, rfl, fun g62 => (opIndexO 1 (ix24 H) (Ev.cnd (mv rfl) ⟨g62.1, g62.2⟩) rfl (Ev.cnd (mv rfl) ⟨g62.1, g62.2⟩) ((h63 g62)).1 ((h63 g62)).2), .inr ⟨(v42 = false), ((gt y8.1 v43).fGiven == (gt y25.1 v35).fGiven), rfl, rfl⟩⟩⟩), (fun _ => ⟨_, rfl, ⟨((v42 = false) ∧ (((gt y8.1 v43).fGiven == (gt y25.1 v35).fGiven) = true)), (rowp sv9 ((v43 : Int).toNat * 3 + 2)), 81, rfl, rfl, fun g64 => (opFieldO (fo43_2 H) (Ev.cnd (mv rfl) ⟨g64.1, g64.2⟩)), .inr ⟨(v42 = false), ((gt y8.1 v43).fGiven == (gt y25.1 v35).fGiven), rfl, rfl⟩⟩⟩), (fun _ => ⟨_, rfl, ⟨((v42 = false) ∧ (((gt y8.1 v43).fGiven == (gt y25.1 v35).fGiven) = true)), (iv .i64 ((gt y8.1 v43).fCost)), 81, rfl, rfl, fun g65 => (opLoad1 (tl3 H) ((Pt.row _ 1 (k := (v43 : Int).toNat) (fo := 2) lSwap (Ev.cnd (mv rfl) ⟨g65.1, g65.2⟩) rfl (by omega) (gt_some (h63 g65)) rfl).take 1 (cs' := [(iv .i64 ((gt y8.1 v43).fCost))]) rfl)), .inr ⟨(v42 = false), ((gt y8.1 v43).fGiven == (gt y25.1 v35).fGiven), rfl, rfl⟩⟩⟩), (fun _ => ⟨_, rfl, ⟨((v42 = false) ∧ (((gt y8.1 v43).fGiven == (gt y25.1 v35).fGiven) = true)), (eqv sv9), 81, rfl, rfl, fun g66 => (opMove (mv rfl)), .inr ⟨(v42 = false), ((gt y8.1 v43).fGiven == (gt y25.1 v35).fGiven), rfl, rfl⟩⟩⟩), (fun _ => ⟨_, rfl, ⟨((v42 = false) ∧ (((gt y8.1 v43).fGiven == (gt y25.1 v35).fGiven) = true)), (iv .i64 v19), 81, rfl, rfl, fun g67 => (opMove (mv rfl)), .inr ⟨(v42 = false), ((gt y8.1 v43).fGiven == (gt y25.1 v35).fGiven), rfl, rfl⟩⟩⟩), (fun _ => ⟨_, rfl, ⟨((v42 = false) ∧ (((gt y8.1 v43).fGiven == (gt y25.1 v35).fGiven) = true)), (rowp sv9 ((v19 : Int).toNat * 3)), 81, rfl, rfl, fun g68 => (opIndexO 1 (ix24 H) (Ev.cnd (mv rfl) ⟨g68.1, g68.2⟩) rfl (Ev.cnd (mv rfl) ⟨g68.1, g68.2⟩) ((h69 g68)).1 ((h69 g68)).2), .inr ⟨(v42 = false), ((gt y8.1 v43).fGiven == (gt y25.1 v35).fGiven), rfl, rfl⟩⟩⟩), (fun _ => ⟨_, rfl, ⟨((v42 = false) ∧ (((gt y8.1 v43).fGiven == (gt y25.1 v35).fGiven) = true)), (rowp sv9 ((v19 : Int).toNat * 3 + 2)), 81, rfl, rfl, fun g70 => (opFieldO (fo43_2 H) (Ev.cnd (mv rfl) ⟨g70.1, g70.2⟩)), .inr ⟨(v42 = false), ((gt y8.1 v43).fGiven == (gt y25.1 v35).fGiven), rfl, rfl⟩⟩⟩), (fun _ => ⟨_, rfl, ⟨((v42 = false) ∧ (((gt y8.1 v43).fGiven == (gt y25.1 v35).fGiven) = true)), (iv .i64 ((gt y8.1 v19).fCost)), 81, rfl, rfl, fun g71 => (opLoad1 (tl3 H) ((Pt.row _ 1 (k := (v19 : Int).toNat) (fo := 2) lSwap (Ev.cnd (mv rfl) ⟨g71.1, g71.2⟩) rfl (by omega) (gt_some (h69 g71)) rfl).take 1 (cs' := [(iv .i64 ((gt y8.1 v19).fCost))]) rfl)), .inr ⟨(v42 = false), ((gt y8.1 v43).fGiven == (gt y25.1 v35).fGiven), rfl, rfl⟩⟩⟩), (fun _ => ⟨_, rfl, ⟨((v42 = false) ∧ (((gt y8.1 v43).fGiven == (gt y25.1 v35).fGiven) = true)), (eqv sv26), 81, rfl, rfl, fun g72 => (opMove (mv rfl)), .inr ⟨(v42 = false), ((gt y8.1 v43).fGiven == (gt y25.1 v35).fGiven), rfl, rfl⟩⟩⟩), (fun _ => ⟨_, rfl, ⟨((v42 = false) ∧ (((gt y8.1 v43).fGiven == (gt y25.1 v35).fGiven) = true)), (iv .i64 v35), 81, rfl, rfl, fun g73 => (opMove (mv rfl)), .inr ⟨(v42 = false), ((gt y8.1 v43).fGiven == (gt y25.1 v35).fGiven), rfl, rfl⟩⟩⟩), (fun _ => ⟨_, rfl, ⟨((v42 = false) ∧ (((gt y8.1 v43).fGiven == (gt y25.1 v35).fGiven) = true)), (rowp sv26 ((v35 : Int).toNat * 3)), 81, rfl, rfl, fun g74 => (opIndexO 2 (ix24 H) (Ev.cnd (mv rfl) ⟨g74.1, g74.2⟩) rfl (Ev.cnd (mv rfl) ⟨g74.1, g74.2⟩) ((h75 g74)).1 ((h75 g74)).2), .inr ⟨(v42 = false), ((gt y8.1 v43).fGiven == (gt y25.1 v35).fGiven), rfl, rfl⟩⟩⟩), (fun _ => ⟨_, rfl, ⟨((v42 = false) ∧ (((gt y8.1 v43).fGiven == (gt y25.1 v35).fGiven) = true)), (rowp sv26 ((v35 : Int).toNat * 3 + 2)), 81, rfl, rfl, fun g76 => (opFieldO (fo43_2 H) (Ev.cnd (mv rfl) ⟨g76.1, g76.2⟩)), .inr ⟨(v42 = false), ((gt y8.1 v43).fGiven == (gt y25.1 v35).fGiven), rfl, rfl⟩⟩⟩), (fun _ => ⟨_, rfl, ⟨((v42 = false) ∧ (((gt y8.1 v43).fGiven == (gt y25.1 v35).fGiven) = true)), (iv .i64 ((gt y25.1 v35).fCost)), 81, rfl, rfl, fun g77 => (opLoad1 (tl3 H) ((Pt.row _ 2 (k := (v35 : Int).toNat) (fo := 2) lSwap (Ev.cnd (mv rfl) ⟨g77.1, g77.2⟩) rfl (by omega) (gt_some (h75 g77)) rfl).take 1 (cs' := [(iv .i64 ((gt y25.1 v35).fCost))]) rfl)), .inr ⟨(v42 = false), ((gt y8.1 v43).fGiven == (gt y25.1 v35).fGiven), rfl, rfl⟩⟩⟩), (fun _ => ⟨_, rfl, ⟨((v42 = false) ∧ (((gt y8.1 v43).fGiven == (gt y25.1 v35).fGiven) = true)), (iv .i64 (W (((gt y8.1 v19).fCost) + ((gt y25.1 v35).fCost)))), 81, rfl, rfl, fun g78 => (opAdd (Ev.cnd (mv rfl) ⟨g78.1, g78.2⟩) (Ev.cnd (mv rfl) ⟨g78.1, g78.2⟩)), .inr ⟨(v42 = false), ((gt y8.1 v43).fGiven == (gt y25.1 v35).fGiven), rfl, rfl⟩⟩⟩), (fun _ => ⟨_, rfl, ⟨((v42 = false) ∧ (((gt y8.1 v43).fGiven == (gt y25.1 v35).fGiven) = true)), (bv (decide ((gt y8.1 v43).fCost ≤ (W (((gt y8.1 v19).fCost) + ((gt y25.1 v35).fCost)))))), 81, rfl, rfl, fun g79 => (opLeq (Ev.cnd (mv rfl) ⟨g79.1, g79.2⟩) (Ev.cnd (mv rfl) ⟨g79.1, g79.2⟩)), .inr ⟨(v42 = false), ((gt y8.1 v43).fGiven == (gt y25.1 v35).fGiven), rfl, rfl⟩⟩⟩), (fun _ => ⟨_, rfl, ⟨(v42 = false), (bv (((gt y8.1 v43).fGiven == (gt y25.1 v35).fGiven) && decide ((gt y8.1 v43).fCost ≤ (W (((gt y8.1 v19).fCost) + ((gt y25.1 v35).fCost)))))), 69, rfl, rfl, fun g80 => (opAnd (Ev.cnd (mv rfl) g80) (fun g81 => (Ev.cnd (mv rfl) ⟨g80, g81⟩)) (Ev.const _)), .inl ⟨v42, rfl, rfl⟩⟩⟩), (fun _ => ⟨_, rfl, (opOr (mv rfl) (Ev.const _) (fun g82 => (Ev.cnd (mv rfl) g82)))⟩), trivial⟩ ⟨⟨_, rfl, rfl, rfl, rfl, OpT.of_q (opAssign (mv rfl)) ⟨[], rfl, ?_⟩⟩, trivial⟩ (fun hc => Bool.noConfusion (hc : false = true))
                        refine Reg.intro [] [0, 1, 2, 3, 4, 5, 6, 7, 8, 9, 10, 11, 12, 13, 14, 15, 16, 17, 18, 19, 20, 21, 22, 23, 24, 25, 26, 27, 28, 29, 30, 31, 32] (by kernel_rfl) rfl ⟨rfl, rfl, rfl, rfl, rfl, rfl, rfl, rfl, rfl, rfl, rfl, rfl, rfl, rfl, rfl, rfl, rfl, rfl, rfl, rfl, rfl, rfl, rfl, rfl, rfl, rfl, rfl, rfl, rfl, rfl, rfl, rfl, rfl, trivial⟩ ⟨(fun hn => Bool.noConfusion (hn : true = false)), (fun hn => Bool.noConfusion (hn : true = false)), (fun hn => Bool.noConfusion (hn : true = false)), (fun hn => Bool.noConfusion (hn : true = false)), (fun hn => Bool.noConfusion (hn : true = false)), (fun hn => Bool.noConfusion (hn : true = false)), (fun hn => Bool.noConfusion (hn : true = false)), (fun hn => Bool.noConfusion (hn : true = false)), (fun hn => Bool.noConfusion (hn : true = false)), (fun hn => Bool.noConfusion (hn : true = false)), (fun hn => Bool.noConfusion (hn : true = false)), (fun hn => Bool.noConfusion (hn : true = false)), (fun hn => Bool.noConfusion (hn : true = false)), (fun hn => Bool.noConfusion (hn : true = false)), (fun hn => Bool.noConfusion (hn : true = false)), (fun hn => Bool.noConfusion (hn : true = false)), (fun hn => Bool.noConfusion (hn : true = false)), (fun hn => Bool.noConfusion (hn : true = false)), (fun hn => Bool.noConfusion (hn : true = false)), (fun hn => Bool.noConfusion (hn : true = false)), (fun hn => Bool.noConfusion (hn : true = false)), (fun hn => Bool.noConfusion (hn : true = false)), (fun hn => Bool.noConfusion (hn : true = false)), (fun hn => Bool.noConfusion (hn : true = false)), (fun hn => Bool.noConfusion (hn : true = false)), (fun hn => Bool.noConfusion (hn : true = false)), (fun hn => Bool.noConfusion (hn : true = false)), (fun hn => Bool.noConfusion (hn : true = false)), (fun hn => Bool.noConfusion (hn : true = false)), (fun hn => Bool.noConfusion (hn : true = false)), (fun hn => Bool.noConfusion (hn : true = false)), (fun hn => Bool.noConfusion (hn : true = false)), (fun hn => Bool.noConfusion (hn : true = false)), trivial⟩ trivial (fun _ => ?_)
                        refine AtX.in_normal ?_
                        refine al [2, 5, 7, 8, 10, 11, 12] [0, 1, 2] rfl rfl rfl ?_
                        refine sq (cr [0, 1, 2] rfl ?_)
                        refine cq rfl rfl rfl (opMove (mv rfl)) ?_
                        refine cq rfl rfl rfl (opAdd (mv rfl) (Ev.const _)) ?_
                        refine cq rfl rfl rfl (opAssign (mv rfl)) ?_
                        refine rn ?_
                        exact AtX.to (ih44 ((v42 || (((gt y8.1 v43).fGiven == (gt y25.1 v35).fGiven) && decide ((gt y8.1 v43).fCost ≤ (W (((gt y8.1 v19).fCost) + ((gt y25.1 v35).fCost)))))), (W (v43 + 1))) h) [0, 1, 2] (sl rfl) (ol rfl) rfl
                      · rw [if_neg (bne_true c45)] at h
                        refine CodeT.exit ?_
                        refine AtX.then_exit ?_
                        refine AtX.then_exit ?_
                        refine AtX.in_hit ?_
                        exact AtX.to (hJ40 v42 h) [0, 1, 2] (sl rfl) (ol rfl) rfl
                · rw [if_neg (bne_true c37)] at h
                  refine CodeT.exit ?_
                  refine AtX.then_exit ?_
                  refine AtX.then_exit ?_
                  refine AtX.in_hit ?_
                  refine AtX.in_normal ?_
                  exact AtX.to (hJ22 () h) [0, 1] (sl rfl) (ol rfl) rfl
          · rw [if_neg (bne_true c21)] at h
            refine CodeT.exit ?_
            refine AtX.then_exit ?_
            refine AtX.then_exit ?_
            refine AtX.in_hit ?_
            exact AtX.to (hJ18 () h) [] trivial trivial rfl
end Px
