/- The functions compute what was read out of them. Conditions: none. -/
import Derived.Test.YtbfoamlmlbmmnaaQcB
set_option linter.unusedVariables false
set_option linter.unusedSimpArgs false
set_option maxHeartbeats 4000000
set_option maxRecDepth 100000
namespace Px
open Go Go.RowKit Go.Proofs
theorem law09_example_ok {P : Program} (H : P = Try.prog) (φ : Nat)  (r : (Fleet)) (h : law09_example φ  = some r) : PureT P 28 [] (fun x news => x = (agg (eFleet r)) ∧ news = []) := by
  unfold law09_example at h
  refine PureT.of_code' 14 (fn28 H) rfl rfl (Nat.le_of_ble_eq_true rfl) fun w0 base r0 wI => ?_
  refine cl [] [] rfl rfl rfl ?_
  refine cs (cr [0] rfl ?_)
  refine RunOps.cons rfl rfl rfl (opAlloc [.slice none 0 0, .slice none 0 0, .slice none 0 0, .slice none 0 0] (ze27 H) rfl fun b1 => ?_)
  refine rn (al [0] [0] rfl rfl rfl (sq (cs (cr [0, 1, 2, 3, 4, 5, 6, 7, 8, 9, 10, 11, 12, 13] rfl ?_))))
  refine cq rfl rfl rfl (opBuild [.int .i64 0, .int .i64 0, .int .i64 0, .int .i64 0, .int .i64 0, .int .u64 0, .int .i64 0, .int .i64 0] [(0, [(iv .i64 60000)]), (5, [(iv .u64 6)]), (6, [(iv .i64 100)]), (7, [(iv .i64 20)])] (out := [(iv .i64 60000), (iv .i64 0), (iv .i64 0), (iv .i64 0), (iv .i64 0), (iv .u64 6), (iv .i64 100), (iv .i64 20)]) (ze50 H) rfl (tb50 H) ⟨(tp50_0 H), Nat.le_of_ble_eq_true rfl, (Ce.one (Ev.const _) (One.eqv rfl)), ⟨(tp50_5 H), Nat.le_of_ble_eq_true rfl, (Ce.one (Ev.const _) (One.eqv rfl)), ⟨(tp50_6 H), Nat.le_of_ble_eq_true rfl, (Ce.one (Ev.const _) (One.eqv rfl)), ⟨(tp50_7 H), Nat.le_of_ble_eq_true rfl, (Ce.one (Ev.const _) (One.eqv rfl)), trivial⟩⟩⟩⟩ rfl) ?_
  refine cq rfl rfl rfl (opBuild [.int .i64 0, .int .i64 0, .int .i64 0, .int .i64 0, .int .i64 0, .int .u64 0, .int .i64 0, .int .i64 0] [(0, [(iv .i64 50000)]), (6, [(iv .i64 1)])] (out := [(iv .i64 50000), (iv .i64 0), (iv .i64 0), (iv .i64 0), (iv .i64 0), (iv .u64 0), (iv .i64 1), (iv .i64 0)]) (ze50 H) rfl (tb50 H) ⟨(tp50_0 H), Nat.le_of_ble_eq_true rfl, (Ce.one (Ev.const _) (One.eqv rfl)), ⟨(tp50_6 H), Nat.le_of_ble_eq_true rfl, (Ce.one (Ev.const _) (One.eqv rfl)), trivial⟩⟩ rfl) ?_
  refine cq rfl rfl rfl (opBuild [.int .i64 0, .int .i64 0, .int .i64 0, .int .i64 0, .int .i64 0, .int .u64 0, .int .i64 0, .int .i64 0] [(0, [(iv .i64 40000)]), (6, [(iv .i64 1)])] (out := [(iv .i64 40000), (iv .i64 0), (iv .i64 0), (iv .i64 0), (iv .i64 0), (iv .u64 0), (iv .i64 1), (iv .i64 0)]) (ze50 H) rfl (tb50 H) ⟨(tp50_0 H), Nat.le_of_ble_eq_true rfl, (Ce.one (Ev.const _) (One.eqv rfl)), ⟨(tp50_6 H), Nat.le_of_ble_eq_true rfl, (Ce.one (Ev.const _) (One.eqv rfl)), trivial⟩⟩ rfl) ?_
  refine RunOps.cons rfl rfl rfl (opBuildSlice (e := eWagonType) [(WagonType.mk 60000 0 0 0 0 6 100 20), (WagonType.mk 50000 0 0 0 0 0 1 0), (WagonType.mk 40000 0 0 0 0 0 1 0)] (sl22 H) lWagonType rfl (by decide) ⟨rfl, (Ce.agg (mv rfl)), ⟨rfl, (Ce.agg (mv rfl)), ⟨rfl, (Ce.agg (mv rfl)), trivial⟩⟩⟩ fun sv2 => ?_)
  refine cq rfl rfl rfl (opBuild [.int .i64 0, .int .i64 0, .int .i64 0, .int .i64 0, .int .i64 0] [(4, [(iv .i64 1000000)])] (out := [(iv .i64 0), (iv .i64 0), (iv .i64 0), (iv .i64 0), (iv .i64 1000000)]) (ze47 H) rfl (tb47 H) ⟨(tp47_4 H), Nat.le_of_ble_eq_true rfl, (Ce.one (Ev.const _) (One.eqv rfl)), trivial⟩ rfl) ?_
  refine RunOps.cons rfl rfl rfl (opBuildSlice (e := eWagon) [(Wagon.mk 0 0 0 0 1000000)] (sl23 H) lWagon rfl (by decide) ⟨rfl, (Ce.agg (mv rfl)), trivial⟩ fun sv3 => ?_)
  refine cq rfl rfl rfl (opBuild [.int .i64 0, .int .i64 0, .int .i64 0] [(0, [(iv .i64 0)]), (1, [(iv .i64 1)]), (2, [(iv .i64 5)])] (out := [(iv .i64 0), (iv .i64 1), (iv .i64 5)]) (ze43 H) rfl (tb43 H) ⟨(tp43_0 H), Nat.le_of_ble_eq_true rfl, (Ce.one (Ev.const _) (One.eqv rfl)), ⟨(tp43_1 H), Nat.le_of_ble_eq_true rfl, (Ce.one (Ev.const _) (One.eqv rfl)), ⟨(tp43_2 H), Nat.le_of_ble_eq_true rfl, (Ce.one (Ev.const _) (One.eqv rfl)), trivial⟩⟩⟩ rfl) ?_
  refine cq rfl rfl rfl (opBuild [.int .i64 0, .int .i64 0, .int .i64 0] [(0, [(iv .i64 1)]), (1, [(iv .i64 2)]), (2, [(iv .i64 7)])] (out := [(iv .i64 1), (iv .i64 2), (iv .i64 7)]) (ze43 H) rfl (tb43 H) ⟨(tp43_0 H), Nat.le_of_ble_eq_true rfl, (Ce.one (Ev.const _) (One.eqv rfl)), ⟨(tp43_1 H), Nat.le_of_ble_eq_true rfl, (Ce.one (Ev.const _) (One.eqv rfl)), ⟨(tp43_2 H), Nat.le_of_ble_eq_true rfl, (Ce.one (Ev.const _) (One.eqv rfl)), trivial⟩⟩⟩ rfl) ?_
  refine cq rfl rfl rfl (opBuild [.int .i64 0, .int .i64 0, .int .i64 0] [(0, [(iv .i64 0)]), (1, [(iv .i64 2)]), (2, [(iv .i64 20)])] (out := [(iv .i64 0), (iv .i64 2), (iv .i64 20)]) (ze43 H) rfl (tb43 H) ⟨(tp43_0 H), Nat.le_of_ble_eq_true rfl, (Ce.one (Ev.const _) (One.eqv rfl)), ⟨(tp43_1 H), Nat.le_of_ble_eq_true rfl, (Ce.one (Ev.const _) (One.eqv rfl)), ⟨(tp43_2 H), Nat.le_of_ble_eq_true rfl, (Ce.one (Ev.const _) (One.eqv rfl)), trivial⟩⟩⟩ rfl) ?_
  refine RunOps.cons rfl rfl rfl (opBuildSlice (e := eSwap) [(Swap.mk 0 1 5), (Swap.mk 1 2 7), (Swap.mk 0 2 20)] (sl24 H) lSwap rfl (by decide) ⟨rfl, (Ce.agg (mv rfl)), ⟨rfl, (Ce.agg (mv rfl)), ⟨rfl, (Ce.agg (mv rfl)), trivial⟩⟩⟩ fun sv4 => ?_)
  refine cq rfl rfl rfl (opBuild [.int .i64 0, .int .i64 0, .int .i64 0] [(0, [(iv .i64 1)]), (1, [(iv .i64 2)]), (2, [(iv .i64 90)])] (out := [(iv .i64 1), (iv .i64 2), (iv .i64 90)]) (ze86 H) rfl (tb86 H) ⟨(tp86_0 H), Nat.le_of_ble_eq_true rfl, (Ce.one (Ev.const _) (One.eqv rfl)), ⟨(tp86_1 H), Nat.le_of_ble_eq_true rfl, (Ce.one (Ev.const _) (One.eqv rfl)), ⟨(tp86_2 H), Nat.le_of_ble_eq_true rfl, (Ce.one (Ev.const _) (One.eqv rfl)), trivial⟩⟩⟩ rfl) ?_
  refine RunOps.cons rfl rfl rfl (opBuildSlice (e := eWash) [(Wash.mk 1 2 90)] (sl25 H) lWash rfl (by decide) ⟨rfl, (Ce.agg (mv rfl)), trivial⟩ fun sv5 => ?_)
  refine cq rfl rfl rfl (OpT.own1 4 rfl fun hs9 => OpT.own1 3 rfl fun hs8 => OpT.own1 2 rfl fun hs7 => OpT.own1 1 rfl fun hs6 => (opBuild [.slice none 0 0, .slice none 0 0, .slice none 0 0, .slice none 0 0] [(0, [(eqv sv2)]), (1, [(eqv sv3)]), (2, [(eqv sv4)]), (3, [(eqv sv5)])] (out := [(eqv sv2), (eqv sv3), (eqv sv4), (eqv sv5)]) (ze27 H) rfl (tb27 H) ⟨(tp27_0 H), Nat.le_of_ble_eq_true rfl, (Ce.one (mv rfl) (One.eqv hs6)), ⟨(tp27_1 H), Nat.le_of_ble_eq_true rfl, (Ce.one (mv rfl) (One.eqv hs7)), ⟨(tp27_2 H), Nat.le_of_ble_eq_true rfl, (Ce.one (mv rfl) (One.eqv hs8)), ⟨(tp27_3 H), Nat.le_of_ble_eq_true rfl, (Ce.one (mv rfl) (One.eqv hs9)), trivial⟩⟩⟩⟩ rfl)) ?_
  refine RunOps.cons rfl rfl rfl (opStore 0 (cells := [(eqv (.slice none 0 0)), (eqv (.slice none 0 0)), (eqv (.slice none 0 0)), (eqv (.slice none 0 0))]) (cs := [(eqv sv2), (eqv sv3), (eqv sv4), (eqv sv5)]) (out := [(eqv sv2), (eqv sv3), (eqv sv4), (eqv sv5)]) (tl27 H) (mv rfl) (Ce.agg (mv rfl)) rfl rfl (Nat.le_of_ble_eq_true rfl) rfl ?_)
  refine rn (al [0] [0, 1, 2, 3, 4] rfl rfl rfl (sq ?_))
  refine CodeT.ret ?_
  refine AtX.freeze 1 [] [(box b1 27 [(ro eWagonType 8 [(WagonType.mk 60000 0 0 0 0 6 100 20), (WagonType.mk 50000 0 0 0 0 0 1 0), (WagonType.mk 40000 0 0 0 0 0 1 0)]), (eqv sv3), (eqv sv4), (eqv sv5)]), emp, (row 47 eWagon 5 [(Wagon.mk 0 0 0 0 1000000)] sv3), (row 43 eSwap 3 [(Swap.mk 0 1 5), (Swap.mk 1 2 7), (Swap.mk 0 2 20)] sv4), (row 86 eWash 3 [(Wash.mk 1 2 90)] sv5)] rfl lWagonType trivial ⟨(FzH.box ⟨FzV.here, FzV.refl, FzV.refl, FzV.refl, trivial⟩), FzH.emp, FzH.refl, FzH.refl, FzH.refl, trivial⟩ ?_
  refine AtX.freeze 2 [] [(box b1 27 [(ro eWagonType 8 [(WagonType.mk 60000 0 0 0 0 6 100 20), (WagonType.mk 50000 0 0 0 0 0 1 0), (WagonType.mk 40000 0 0 0 0 0 1 0)]), (ro eWagon 5 [(Wagon.mk 0 0 0 0 1000000)]), (eqv sv4), (eqv sv5)]), emp, emp, (row 43 eSwap 3 [(Swap.mk 0 1 5), (Swap.mk 1 2 7), (Swap.mk 0 2 20)] sv4), (row 86 eWash 3 [(Wash.mk 1 2 90)] sv5)] rfl lWagon trivial ⟨(FzH.box ⟨FzV.refl, FzV.here, FzV.refl, FzV.refl, trivial⟩), FzH.refl, FzH.emp, FzH.refl, FzH.refl, trivial⟩ ?_
  refine AtX.freeze 3 [] [(box b1 27 [(ro eWagonType 8 [(WagonType.mk 60000 0 0 0 0 6 100 20), (WagonType.mk 50000 0 0 0 0 0 1 0), (WagonType.mk 40000 0 0 0 0 0 1 0)]), (ro eWagon 5 [(Wagon.mk 0 0 0 0 1000000)]), (ro eSwap 3 [(Swap.mk 0 1 5), (Swap.mk 1 2 7), (Swap.mk 0 2 20)]), (eqv sv5)]), emp, emp, emp, (row 86 eWash 3 [(Wash.mk 1 2 90)] sv5)] rfl lSwap trivial ⟨(FzH.box ⟨FzV.refl, FzV.refl, FzV.here, FzV.refl, trivial⟩), FzH.refl, FzH.refl, FzH.emp, FzH.refl, trivial⟩ ?_
  refine AtX.freeze 4 [] [(box b1 27 [(ro eWagonType 8 [(WagonType.mk 60000 0 0 0 0 6 100 20), (WagonType.mk 50000 0 0 0 0 0 1 0), (WagonType.mk 40000 0 0 0 0 0 1 0)]), (ro eWagon 5 [(Wagon.mk 0 0 0 0 1000000)]), (ro eSwap 3 [(Swap.mk 0 1 5), (Swap.mk 1 2 7), (Swap.mk 0 2 20)]), (ro eWash 3 [(Wash.mk 1 2 90)])]), emp, emp, emp, emp] rfl lWash trivial ⟨(FzH.box ⟨FzV.refl, FzV.refl, FzV.refl, FzV.here, trivial⟩), FzH.refl, FzH.refl, FzH.refl, FzH.emp, trivial⟩ ?_
  refine AtX.ret' (agg [(ro eWagonType 8 [(WagonType.mk 60000 0 0 0 0 6 100 20), (WagonType.mk 50000 0 0 0 0 0 1 0), (WagonType.mk 40000 0 0 0 0 0 1 0)]), (ro eWagon 5 [(Wagon.mk 0 0 0 0 1000000)]), (ro eSwap 3 [(Swap.mk 0 1 5), (Swap.mk 1 2 7), (Swap.mk 0 2 20)]), (ro eWash 3 [(Wash.mk 1 2 90)])]) (ResOK.one Try.results28 (.inr ⟨_, rfl, (tl27 H), ((Pt.box 0 (mv rfl) rfl rfl).take 4 (cs' := [(ro eWagonType 8 [(WagonType.mk 60000 0 0 0 0 6 100 20), (WagonType.mk 50000 0 0 0 0 0 1 0), (WagonType.mk 40000 0 0 0 0 0 1 0)]), (ro eWagon 5 [(Wagon.mk 0 0 0 0 1000000)]), (ro eSwap 3 [(Swap.mk 0 1 5), (Swap.mk 1 2 7), (Swap.mk 0 2 20)]), (ro eWash 3 [(Wash.mk 1 2 90)])]) rfl)⟩)) [] [] trivial rfl ?_
  obtain rfl := Option.some.inj h
  exact ⟨rfl, rfl⟩
theorem law09_sane_ok {P : Program} (H : P = Try.prog) (φ : Nat)  (r : (Bool)) (h : law09_sane φ  = some r) : PureT P 10 [] (fun x news => x = (bv r) ∧ news = []) := by
  unfold law09_sane at h
  refine PureT.of_code' 102 (fn10 H) rfl rfl (Nat.le_of_ble_eq_true rfl) fun w0 base r0 wI => ?_
  refine cl [] [] rfl rfl rfl ?_
  refine cs (cr [0] rfl ?_)
  refine cq rfl rfl rfl (opAssign (Ev.const _)) ?_
  refine rn (al [] [] rfl rfl rfl (sq (cs (cr [0, 1, 2] rfl ?_))))
  refine bindE h fun y1 ey1 h => ?_
  refine RunOps.cons rfl rfl rfl (opCallP (fnok28 H) (args := []) trivial (law09_example_ok H φ  _ ey1) fun x3 nw4 hk2 => ?_)
  obtain ⟨rfl, rfl⟩ := hk2
  refine RunOps.cons rfl rfl rfl (opAlloc [.slice none 0 0, .slice none 0 0, .slice none 0 0, .slice none 0 0] (ze27 H) rfl fun b5 => ?_)
  refine RunOps.cons rfl rfl rfl (opStore 0 (cells := [(eqv (.slice none 0 0)), (eqv (.slice none 0 0)), (eqv (.slice none 0 0)), (eqv (.slice none 0 0))]) (cs := (eFleet y1)) (out := (eFleet y1)) (tl27 H) (mv rfl) (Ce.agg (mv rfl)) rfl rfl (Nat.le_of_ble_eq_true rfl) rfl ?_)
  refine rn (al [1] [0] rfl rfl rfl (sq (cs (cr [0, 1, 2, 3, 4, 5, 6] rfl ?_))))
  refine RunOps.cons_q (agg (eFleet y1)) rfl rfl rfl (opLoadN (tl27 H) ((Pt.box 0 (mv rfl) rfl rfl).take 4 (cs' := (eFleet y1)) rfl)) ?_
  refine bindE h fun y6 ey6 h => ?_
  refine RunOps.cons rfl rfl rfl (opCallF (fnok12 H) (args := [(agg (eFleet y1)), (iv .i64 0)]) ⟨EvF.of (mv rfl) FEnt.refl, EvF.of (Ev.const _) FEnt.refl, trivial⟩ (fleet_Given_ok H φ y1 0 _ ey6) fun x9 nw10 hk8 => ?_)
  obtain ⟨sv7, rfl, rfl⟩ := hk8
  refine ⟨(flat_tup' ⟨flat_eqv, flat_eqv, trivial⟩), allFlatH ⟨flat_row' fSwap, trivial⟩, ?_⟩
  refine cq rfl rfl rfl (opMove (mv rfl)) ?_
  refine cq rfl rfl rfl (opExtract (mv rfl) rfl) ?_
  refine cq rfl rfl rfl (opExtract (mv rfl) rfl) ?_
  refine cq rfl rfl rfl (opAssign (mv rfl)) ?_
  refine cq rfl rfl rfl (opAssign (mv rfl)) ?_
  refine rn (al [1, 2, 3] [0, 1] rfl rfl rfl (sq (cs (cr [0, 1, 2, 3, 4, 5, 6] rfl ?_))))
  refine RunOps.cons_q (agg (eFleet y1)) rfl rfl rfl (opLoadN (tl27 H) ((Pt.box 0 (mv rfl) rfl rfl).take 4 (cs' := (eFleet y1)) rfl)) ?_
  refine bindE h fun y11 ey11 h => ?_
  refine RunOps.cons rfl rfl rfl (opCallF (fnok12 H) (args := [(agg (eFleet y1)), (iv .i64 3)]) ⟨EvF.of (mv rfl) FEnt.refl, EvF.of (Ev.const _) FEnt.refl, trivial⟩ (fleet_Given_ok H φ y1 3 _ ey11) fun x14 nw15 hk13 => ?_)
  obtain ⟨sv12, rfl, rfl⟩ := hk13
  refine ⟨(flat_tup' ⟨flat_eqv, flat_eqv, trivial⟩), allFlatH ⟨flat_row' fSwap, trivial⟩, ?_⟩
  refine cq rfl rfl rfl (opMove (mv rfl)) ?_
  refine cq rfl rfl rfl (opExtract (mv rfl) rfl) ?_
  refine cq rfl rfl rfl (opExtract (mv rfl) rfl) ?_
  refine cq rfl rfl rfl (opAssign (mv rfl)) ?_
  refine cq rfl rfl rfl (opAssign (mv rfl)) ?_
  refine rn (al [1, 2, 3, 5] [0, 1] rfl rfl rfl (sq (cs (cr [0, 1, 2, 3, 4, 5, 6] rfl ?_))))
  refine RunOps.cons_q (agg (eFleet y1)) rfl rfl rfl (opLoadN (tl27 H) ((Pt.box 0 (mv rfl) rfl rfl).take 4 (cs' := (eFleet y1)) rfl)) ?_
  refine bindE h fun y16 ey16 h => ?_
  refine cq rfl rfl rfl (opCallQ (fnok14 H) (args := [(agg (eFleet y1)), (iv .i64 1), (iv .i64 2)]) ⟨EvF.of (mv rfl) FEnt.refl, EvF.of (Ev.const _) FEnt.refl, EvF.of (Ev.const _) FEnt.refl, trivial⟩ (fleet_Clean_ok H φ y1 1 2 _ ey16) (flat_tup' ⟨flat_eqv, flat_eqv, trivial⟩)) ?_
  refine cq rfl rfl rfl (opMove (mv rfl)) ?_
  refine cq rfl rfl rfl (opExtract (mv rfl) rfl) ?_
  refine cq rfl rfl rfl (opExtract (mv rfl) rfl) ?_
  refine cq rfl rfl rfl (opAssign (mv rfl)) ?_
  refine cq rfl rfl rfl (opAssign (mv rfl)) ?_
  refine rn (al [1, 2, 3, 5, 6, 7] [0, 1] rfl rfl rfl (sq (cs (cr [0, 1, 2, 3, 4, 5, 6] rfl ?_))))
  refine RunOps.cons_q (agg (eFleet y1)) rfl rfl rfl (opLoadN (tl27 H) ((Pt.box 0 (mv rfl) rfl rfl).take 4 (cs' := (eFleet y1)) rfl)) ?_
  refine bindE h fun y17 ey17 h => ?_
  refine cq rfl rfl rfl (opCallQ (fnok14 H) (args := [(agg (eFleet y1)), (iv .i64 1), (iv .i64 64)]) ⟨EvF.of (mv rfl) FEnt.refl, EvF.of (Ev.const _) FEnt.refl, EvF.of (Ev.const _) FEnt.refl, trivial⟩ (fleet_Clean_ok H φ y1 1 64 _ ey17) (flat_tup' ⟨flat_eqv, flat_eqv, trivial⟩)) ?_
  refine cq rfl rfl rfl (opMove (mv rfl)) ?_
  refine cq rfl rfl rfl (opExtract (mv rfl) rfl) ?_
  refine cq rfl rfl rfl (opExtract (mv rfl) rfl) ?_
  refine cq rfl rfl rfl (opAssign (mv rfl)) ?_
  refine cq rfl rfl rfl (opAssign (mv rfl)) ?_
  refine rn (al [1, 2, 3, 5, 6, 7, 9] [0, 1] rfl rfl rfl (sq (cs (cr [0, 1, 2, 3, 4, 5, 6] rfl ?_))))
  refine RunOps.cons_q (agg (eFleet y1)) rfl rfl rfl (opLoadN (tl27 H) ((Pt.box 0 (mv rfl) rfl rfl).take 4 (cs' := (eFleet y1)) rfl)) ?_
  refine bindE h fun y18 ey18 h => ?_
  refine cq rfl rfl rfl (opCallQ (fnok16 H) (args := [(agg (eFleet y1)), (iv .i64 0), (iv .i64 50)]) ⟨EvF.of (mv rfl) FEnt.refl, EvF.of (Ev.const _) FEnt.refl, EvF.of (Ev.const _) FEnt.refl, trivial⟩ (fleet_Worth_ok H φ y1 0 50 _ ey18) (flat_tup' ⟨flat_eqv, flat_eqv, trivial⟩)) ?_
  refine cq rfl rfl rfl (opMove (mv rfl)) ?_
  refine cq rfl rfl rfl (opExtract (mv rfl) rfl) ?_
  refine cq rfl rfl rfl (opExtract (mv rfl) rfl) ?_
  refine cq rfl rfl rfl (opAssign (mv rfl)) ?_
  refine cq rfl rfl rfl (opAssign (mv rfl)) ?_
  refine rn (al [1, 2, 3, 5, 6, 7, 9, 10, 11] [0, 1] rfl rfl rfl (sq (cs (cr [0, 1, 2, 3, 4, 5, 6] rfl ?_))))
  refine RunOps.cons_q (agg (eFleet y1)) rfl rfl rfl (opLoadN (tl27 H) ((Pt.box 0 (mv rfl) rfl rfl).take 4 (cs' := (eFleet y1)) rfl)) ?_
  refine bindE h fun y19 ey19 h => ?_
  refine cq rfl rfl rfl (opCallQ (fnok16 H) (args := [(agg (eFleet y1)), (iv .i64 0), (iv .i64 1000)]) ⟨EvF.of (mv rfl) FEnt.refl, EvF.of (Ev.const _) FEnt.refl, EvF.of (Ev.const _) FEnt.refl, trivial⟩ (fleet_Worth_ok H φ y1 0 1000 _ ey19) (flat_tup' ⟨flat_eqv, flat_eqv, trivial⟩)) ?_
  refine cq rfl rfl rfl (opMove (mv rfl)) ?_
  refine cq rfl rfl rfl (opExtract (mv rfl) rfl) ?_
  refine cq rfl rfl rfl (opExtract (mv rfl) rfl) ?_
  refine cq rfl rfl rfl (opAssign (mv rfl)) ?_
  refine cq rfl rfl rfl (opAssign (mv rfl)) ?_
  refine rn (al [1, 2, 3, 5, 6, 7, 9, 10, 11, 12, 13] [0, 1] rfl rfl rfl (sq (cs (cr [0, 1, 2, 3, 4, 5, 6, 7, 8, 9, 10, 11, 12, 13, 14, 15, 16, 17, 18, 19, 20, 21, 22, 23, 24, 25, 26, 27, 28, 29, 30, 31, 32, 33, 34, 35, 36, 37, 38, 39, 40, 41, 42, 43, 44, 45, 46, 47, 48, 49, 50, 51, 52, 53, 54, 55, 56, 57] rfl ?_))))
  refine cq rfl rfl rfl (opMove (mv rfl)) ?_
  refine cq rfl rfl rfl (opEql (mv rfl) (Ev.const _)) ?_
  refine cq rfl rfl rfl (opMove (mv rfl)) ?_
  refine cg rfl rfl rfl rfl rfl (fun g20 => opMove (mv rfl)) ?_
  refine cg rfl rfl rfl rfl rfl (fun g21 => opBuild [.int .i64 0, .int .i64 0, .int .i64 0] [] (out := [(iv .i64 0), (iv .i64 0), (iv .i64 0)]) (ze43 H) rfl (tb43 H) trivial rfl) ?_
  refine cg rfl rfl rfl rfl rfl (fun g22 => opBuild [.int .i64 0, .int .i64 0, .int .i64 0] [(1, [(iv .i64 1)]), (2, [(iv .i64 5)])] (out := [(iv .i64 0), (iv .i64 1), (iv .i64 5)]) (ze43 H) rfl (tb43 H) ⟨(tp43_1 H), Nat.le_of_ble_eq_true rfl, (Ce.one (Ev.const _) (One.eqv rfl)), ⟨(tp43_2 H), Nat.le_of_ble_eq_true rfl, (Ce.one (Ev.const _) (One.eqv rfl)), trivial⟩⟩ rfl) ?_
  refine cg rfl rfl rfl rfl rfl (fun g23 => opBuild [.int .i64 0, .int .i64 0, .int .i64 0] [(1, [(iv .i64 2)]), (2, [(iv .i64 12)])] (out := [(iv .i64 0), (iv .i64 2), (iv .i64 12)]) (ze43 H) rfl (tb43 H) ⟨(tp43_1 H), Nat.le_of_ble_eq_true rfl, (Ce.one (Ev.const _) (One.eqv rfl)), ⟨(tp43_2 H), Nat.le_of_ble_eq_true rfl, (Ce.one (Ev.const _) (One.eqv rfl)), trivial⟩⟩ rfl) ?_
  refine RunOps.cons_gnb (fun z => eqv z) (fun z => [row 43 eSwap 3 [(Swap.mk 0 0 0), (Swap.mk 0 1 5), (Swap.mk 0 2 12)] z]) (y6.2 == 0) rfl rfl rfl rfl rfl (fun g24 => opBuildSlice (e := eSwap) [(Swap.mk 0 0 0), (Swap.mk 0 1 5), (Swap.mk 0 2 12)] (sl24 H) lSwap rfl (by decide) ⟨rfl, (Ce.agg (Ev.cnd (mv rfl) g24)), ⟨rfl, (Ce.agg (Ev.cnd (mv rfl) g24)), ⟨rfl, (Ce.agg (Ev.cnd (mv rfl) g24)), trivial⟩⟩⟩ fun z => ⟨z, rfl, rfl⟩) fun sv25 => ?_
  refine bindE h fun y27 ey27 h => ?_
  refine cg rfl rfl rfl rfl rfl (fun g26 => opCallQ (fnok22 H) (args := [(ro eSwap 3 y6.1), (ro eSwap 3 [(Swap.mk 0 0 0), (Swap.mk 0 1 5), (Swap.mk 0 2 12)])]) ⟨EvF.of (Ev.cnd (mv rfl) g26) (FEnt.row 1 lSwap rfl), EvF.of (Ev.cnd (mv rfl) g26) (FEnt.row 2 lSwap (when_at rfl g26)), trivial⟩ (ref09_SameSwaps_ok H φ y6.1 [(Swap.mk 0 0 0), (Swap.mk 0 1 5), (Swap.mk 0 2 12)] _ (gcall_pos ey27 g26)) flat_eqv) ?_
  refine cq rfl rfl rfl (opAnd (mv rfl) (fun g28 => (Ev.cnd (mv rfl) g28)) (Ev.const _)) ?_
  refine cq rfl rfl rfl (opMove (mv rfl)) ?_
  refine cg rfl rfl rfl rfl rfl (fun g29 => opMove (mv rfl)) ?_
  refine cg rfl rfl rfl rfl rfl (fun g30 => opEql (Ev.cnd (mv rfl) g30) (Ev.const _)) ?_
  refine cq rfl rfl rfl (opAnd (mv rfl) (fun g31 => (Ev.cnd (mv rfl) g31)) (Ev.const _)) ?_
  refine cq rfl rfl rfl (opMove (mv rfl)) ?_
  refine cg rfl rfl rfl rfl rfl (fun g32 => opMove (mv rfl)) ?_
  refine cg rfl rfl rfl rfl rfl (fun g33 => opEql (Ev.cnd (mv rfl) g33) (Ev.const _)) ?_
  refine cq rfl rfl rfl (opAnd (mv rfl) (fun g34 => (Ev.cnd (mv rfl) g34)) (Ev.const _)) ?_
  refine cq rfl rfl rfl (opMove (mv rfl)) ?_
  refine cg rfl rfl rfl rfl rfl (fun g35 => opMove (mv rfl)) ?_
  refine cg rfl rfl rfl rfl rfl (fun g36 => opEql (Ev.cnd (mv rfl) g36) (Ev.const _)) ?_
  refine cq rfl rfl rfl (opAnd (mv rfl) (fun g37 => (Ev.cnd (mv rfl) g37)) (Ev.const _)) ?_
  refine cq rfl rfl rfl (opMove (mv rfl)) ?_
  refine cg rfl rfl rfl rfl rfl (fun g38 => opMove (mv rfl)) ?_
  refine cg rfl rfl rfl rfl rfl (fun g39 => opEql (Ev.cnd (mv rfl) g39) (Ev.const _)) ?_
  refine cq rfl rfl rfl (opAnd (mv rfl) (fun g40 => (Ev.cnd (mv rfl) g40)) (Ev.const _)) ?_
  refine cq rfl rfl rfl (opMove (mv rfl)) ?_
  refine cg rfl rfl rfl rfl rfl (fun g41 => opMove (mv rfl)) ?_
  refine cg rfl rfl rfl rfl rfl (fun g42 => opEql (Ev.cnd (mv rfl) g42) (Ev.const _)) ?_
  refine cq rfl rfl rfl (opAnd (mv rfl) (fun g43 => (Ev.cnd (mv rfl) g43)) (Ev.const _)) ?_
  refine cq rfl rfl rfl (opMove (mv rfl)) ?_
  refine cg rfl rfl rfl rfl rfl (fun g44 => opMove (mv rfl)) ?_
  refine cg rfl rfl rfl rfl rfl (fun g45 => opEql (Ev.cnd (mv rfl) g45) (Ev.const _)) ?_
  refine cq rfl rfl rfl (opAnd (mv rfl) (fun g46 => (Ev.cnd (mv rfl) g46)) (Ev.const _)) ?_
  refine cq rfl rfl rfl (opMove (mv rfl)) ?_
  refine cg rfl rfl rfl rfl rfl (fun g47 => opMove (mv rfl)) ?_
  refine cg rfl rfl rfl rfl rfl (fun g48 => opEql (Ev.cnd (mv rfl) g48) (Ev.const _)) ?_
  refine cq rfl rfl rfl (opAnd (mv rfl) (fun g49 => (Ev.cnd (mv rfl) g49)) (Ev.const _)) ?_
  refine cq rfl rfl rfl (opMove (mv rfl)) ?_
  refine cg rfl rfl rfl rfl rfl (fun g50 => opMove (mv rfl)) ?_
  refine cg rfl rfl rfl rfl rfl (fun g51 => opEql (Ev.cnd (mv rfl) g51) (Ev.const _)) ?_
  refine cq rfl rfl rfl (opAnd (mv rfl) (fun g52 => (Ev.cnd (mv rfl) g52)) (Ev.const _)) ?_
  refine cq rfl rfl rfl (opMove (mv rfl)) ?_
  refine cg (x := (agg (eFleet y1))) rfl rfl rfl rfl rfl (fun g53 => opLoadN (tl27 H) ((Pt.box 0 (mv rfl) rfl rfl).take 4 (cs' := (eFleet y1)) rfl)) ?_
  refine bindE h fun y55 ey55 h => ?_
  refine cg rfl rfl rfl rfl rfl (fun g54 => opCallQ (fnok20 H) (args := [(agg (eFleet y1)), (iv .i64 0), (iv .i64 1), (iv .i64 60000)]) ⟨EvF.of (Ev.cnd (mv rfl) g54) FEnt.refl, EvF.of (Ev.const _) FEnt.refl, EvF.of (Ev.const _) FEnt.refl, EvF.of (Ev.const _) FEnt.refl, trivial⟩ (fleet_Fits_ok H φ y1 0 1 60000 _ (gcall_pos ey55 g54)) flat_eqv) ?_
  refine cg rfl rfl rfl rfl rfl (fun g56 => opEql (Ev.cnd (mv rfl) g56) (Ev.const _)) ?_
  refine cq rfl rfl rfl (opAnd (mv rfl) (fun g57 => (Ev.cnd (mv rfl) g57)) (Ev.const _)) ?_
  refine cq rfl rfl rfl (opMove (mv rfl)) ?_
  refine cg (x := (agg (eFleet y1))) rfl rfl rfl rfl rfl (fun g58 => opLoadN (tl27 H) ((Pt.box 0 (mv rfl) rfl rfl).take 4 (cs' := (eFleet y1)) rfl)) ?_
  refine bindE h fun y60 ey60 h => ?_
  refine cg rfl rfl rfl rfl rfl (fun g59 => opCallQ (fnok20 H) (args := [(agg (eFleet y1)), (iv .i64 0), (iv .i64 1), (iv .i64 60001)]) ⟨EvF.of (Ev.cnd (mv rfl) g59) FEnt.refl, EvF.of (Ev.const _) FEnt.refl, EvF.of (Ev.const _) FEnt.refl, EvF.of (Ev.const _) FEnt.refl, trivial⟩ (fleet_Fits_ok H φ y1 0 1 60001 _ (gcall_pos ey60 g59)) flat_eqv) ?_
  refine cg rfl rfl rfl rfl rfl (fun g61 => opEql (Ev.cnd (mv rfl) g61) (Ev.const _)) ?_
  refine cq rfl rfl rfl (opAnd (mv rfl) (fun g62 => (Ev.cnd (mv rfl) g62)) (Ev.const _)) ?_
  refine cq rfl rfl rfl (opMove (mv rfl)) ?_
  refine cg (x := (agg (eFleet y1))) rfl rfl rfl rfl rfl (fun g63 => opLoadN (tl27 H) ((Pt.box 0 (mv rfl) rfl rfl).take 4 (cs' := (eFleet y1)) rfl)) ?_
  refine bindE h fun y65 ey65 h => ?_
  refine cg rfl rfl rfl rfl rfl (fun g64 => opCallQ (fnok20 H) (args := [(agg (eFleet y1)), (iv .i64 1), (iv .i64 1), (iv .i64 1)]) ⟨EvF.of (Ev.cnd (mv rfl) g64) FEnt.refl, EvF.of (Ev.const _) FEnt.refl, EvF.of (Ev.const _) FEnt.refl, EvF.of (Ev.const _) FEnt.refl, trivial⟩ (fleet_Fits_ok H φ y1 1 1 1 _ (gcall_pos ey65 g64)) flat_eqv) ?_
  refine cg rfl rfl rfl rfl rfl (fun g66 => opEql (Ev.cnd (mv rfl) g66) (Ev.const _)) ?_
  refine cq rfl rfl rfl (opAnd (mv rfl) (fun g67 => (Ev.cnd (mv rfl) g67)) (Ev.const _)) ?_
  refine cq rfl rfl rfl (opAssign (mv rfl)) ?_
  refine rn (al [0] [] rfl rfl rfl (sq ?_))
  refine CodeT.ret ?_
  refine AtX.ret' (bv (((((((((((((y6.2 == 0) && y27) && (y11.2 == 90)) && (y16.2 == 0)) && (y16.1 == 90)) && (y17.2 == 1)) && (y18.2 == 0)) && (y18.1 == 500000)) && (y19.2 == 0)) && (y19.1 == 200000)) && (y55 == 0)) && (y60 == 91)) && (y65 == 90))) (ResOK.one Try.results10 rfl) [] [] trivial rfl ?_
  obtain rfl := Option.some.inj h
  exact ⟨rfl, rfl⟩
end Px
