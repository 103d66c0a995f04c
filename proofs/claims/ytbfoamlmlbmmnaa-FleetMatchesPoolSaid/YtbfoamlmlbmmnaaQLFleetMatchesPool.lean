/- The law computes what was read out of it. Conditions: none. -/
import Derived.Test.YtbfoamlmlbmmnaaQcC
set_option linter.unusedVariables false
set_option linter.unusedSimpArgs false
set_option maxHeartbeats 4000000
set_option maxRecDepth 100000
namespace Px
open Go Go.RowKit Go.Proofs
theorem law09_FleetMatchesPool_ok {P : Program} (H : P = Try.prog) (φ : Nat) (v1 : Pool) (r : (Bool)) (h : law09_FleetMatchesPool φ v1 = some r) : PureT P 8 [(agg (ePool v1))] (fun x news => x = (bv r) ∧ news = []) := by
  unfold law09_FleetMatchesPool at h
  refine PureT.of_code' 59 (fn8 H) rfl rfl (Nat.le_of_ble_eq_true rfl) fun w0 base r0 wI => ?_
  refine cl [0] [] rfl rfl rfl ?_
  refine cs (cr [0, 1] rfl ?_)
  refine RunOps.cons rfl rfl rfl (opBox (cs := (ePool v1)) (Ce.agg (mv rfl)) fun b2 => ?_)
  refine cq rfl rfl rfl (opAssign (Ev.const _)) ?_
  refine rn (al [1] [0] rfl rfl rfl (sq (cs (cs (cr [0, 1] rfl ?_)))))
  refine bindE h fun y3 ey3 h => ?_
  refine cq rfl rfl rfl (opCallQ (fnok10 H) (args := []) trivial (law09_sane_ok H φ  _ ey3) flat_eqv) ?_
  refine cq rfl rfl rfl (opNot (mv rfl)) ?_
  refine rn (al [1, 5] [0] rfl rfl rfl (sq ?_))
  refine CodeT.cond (!y3) (evBool (mv rfl)) (fun c4 => ?_) (fun c4 => ?_)
  · rw [if_pos c4] at h
    refine cs (cr [0] rfl ?_)
    refine cq rfl rfl rfl (opAssign (Ev.const _)) ?_
    refine rn (al [2] [] rfl rfl rfl (sq ?_))
    refine CodeT.ret ?_
    refine AtX.then_ret ?_
    refine AtX.ret' (bv false) (ResOK.one Try.results8 rfl) [] [] trivial rfl ?_
    obtain rfl := Option.some.inj h
    exact ⟨rfl, rfl⟩
  · rw [if_neg (bne_true c4)] at h
    refine CodeT.skip ?_
    refine al [1] [0] rfl rfl rfl ?_
    refine sq (cs (cs (cr [0, 1, 2, 3, 4, 5, 6, 7, 8, 9, 10, 11, 12, 13, 14, 15, 16, 17, 18, 19, 20, 21, 22, 23, 24, 25, 26, 27, 28, 29, 30, 31] rfl ?_)))
    refine cq rfl rfl rfl (opFieldP (fo61_1 H) (mv rfl)) ?_
    refine RunOps.cons_q (agg (eFleet v1.fFleet)) rfl rfl rfl (opLoadN (tl27 H) ((Pt.box 0 (mv rfl) rfl rfl).take 4 (cs' := (eFleet v1.fFleet)) rfl)) ?_
    refine bindE h fun y5 ey5 h => ?_
    refine cq rfl rfl rfl (opCallQ (fnok11 H) (args := [(agg (eFleet v1.fFleet))]) ⟨EvF.of (mv rfl) FEnt.refl, trivial⟩ (law09_few_ok H φ v1.fFleet _ ey5) flat_eqv) ?_
    refine cq rfl rfl rfl (opNot (mv rfl)) ?_
    refine cq rfl rfl rfl (opMove (mv rfl)) ?_
    refine cg rfl rfl rfl rfl rfl (fun g6 => opFieldP (fo61_0 H) (mv rfl)) ?_
    refine cg rfl rfl rfl rfl rfl (fun g7 => opFieldP (fo56_0 H) (Ev.cnd (mv rfl) g7)) ?_
    refine cg rfl rfl rfl rfl rfl (fun g8 => opLoad1 (tl53 H) ((Pt.box 0 (Ev.cnd (mv rfl) g8) rfl rfl).take 1 (cs' := [(ro ePlace 3 v1.fNetwork.fPlaces)]) rfl)) ?_
    refine cg rfl rfl rfl rfl rfl (fun g9 => opLenR (il53 H) (Ev.cnd (mv rfl) g9)) ?_
    refine cg rfl rfl rfl rfl rfl (fun g10 => opGtr (Ev.cnd (mv rfl) g10) (Ev.const _)) ?_
    refine cg rfl rfl rfl rfl rfl (fun g11 => opMove (Ev.cnd (mv rfl) g11)) ?_
    refine RunOps.cons_gc (eqv (.pointer (some ⟨b2, 0, none⟩))) ((!y5) = false) (decide (64 < (v1.fNetwork.fPlaces.length : Int))) rfl rfl rfl rfl rfl (fun g12 => (opFieldP (fo61_0 H) (mv rfl))) ?_
    refine RunOps.cons_gc (eqv (.pointer (some ⟨b2, 0, none⟩))) ((!y5) = false) (decide (64 < (v1.fNetwork.fPlaces.length : Int))) rfl rfl rfl rfl rfl (fun g13 => (opFieldP (fo56_0 H) (Ev.cnd (mv rfl) ⟨g13.1, g13.2⟩))) ?_
    refine RunOps.cons_gc (ro ePlace 3 v1.fNetwork.fPlaces) ((!y5) = false) (decide (64 < (v1.fNetwork.fPlaces.length : Int))) rfl rfl rfl rfl rfl (fun g14 => (opLoad1 (tl53 H) ((Pt.box 0 (Ev.cnd (mv rfl) ⟨g14.1, g14.2⟩) rfl rfl).take 1 (cs' := [(ro ePlace 3 v1.fNetwork.fPlaces)]) rfl))) ?_
    refine RunOps.cons_gc (iv .i64 (v1.fNetwork.fPlaces.length : Int)) ((!y5) = false) (decide (64 < (v1.fNetwork.fPlaces.length : Int))) rfl rfl rfl rfl rfl (fun g15 => (opLenR (il53 H) (Ev.cnd (mv rfl) ⟨g15.1, g15.2⟩))) ?_
    refine RunOps.cons_gc (bv (decide ((v1.fNetwork.fPlaces.length : Int) ≤ 512))) ((!y5) = false) (decide (64 < (v1.fNetwork.fPlaces.length : Int))) rfl rfl rfl rfl rfl (fun g16 => (opLeq (Ev.cnd (mv rfl) ⟨g16.1, g16.2⟩) (Ev.const _))) ?_
    refine cg rfl rfl rfl rfl rfl (fun g17 => opAnd (Ev.cnd (mv rfl) g17) (fun g18 => (Ev.cnd (mv rfl) ⟨g17, g18⟩)) (Ev.const _)) ?_
    refine cq rfl rfl rfl (opOr (mv rfl) (Ev.const _) (fun g19 => (Ev.cnd (mv rfl) g19))) ?_
    refine cq rfl rfl rfl (opMove (mv rfl)) ?_
    refine cg rfl rfl rfl rfl rfl (fun g20 => opFieldP (fo61_0 H) (mv rfl)) ?_
    refine cg rfl rfl rfl rfl rfl (fun g21 => opFieldP (fo56_1 H) (Ev.cnd (mv rfl) g21)) ?_
    refine cg rfl rfl rfl rfl rfl (fun g22 => opLoad1 (tl54 H) ((Pt.box 0 (Ev.cnd (mv rfl) g22) rfl rfl).take 1 (cs' := [(ro eEdge 5 v1.fNetwork.fEdges)]) rfl)) ?_
    refine cg rfl rfl rfl rfl rfl (fun g23 => opLenR (il54 H) (Ev.cnd (mv rfl) g23)) ?_
    refine cg rfl rfl rfl rfl rfl (fun g24 => opGtr (Ev.cnd (mv rfl) g24) (Ev.const _)) ?_
    refine cg rfl rfl rfl rfl rfl (fun g25 => opMove (Ev.cnd (mv rfl) g25)) ?_
    refine RunOps.cons_gc (eqv (.pointer (some ⟨b2, 0, none⟩))) (((!y5) || (decide (64 < (v1.fNetwork.fPlaces.length : Int)) && decide ((v1.fNetwork.fPlaces.length : Int) ≤ 512))) = false) (decide (200 < (v1.fNetwork.fEdges.length : Int))) rfl rfl rfl rfl rfl (fun g26 => (opFieldP (fo61_0 H) (mv rfl))) ?_
    refine RunOps.cons_gc (eqv (.pointer (some ⟨b2, 1, none⟩))) (((!y5) || (decide (64 < (v1.fNetwork.fPlaces.length : Int)) && decide ((v1.fNetwork.fPlaces.length : Int) ≤ 512))) = false) (decide (200 < (v1.fNetwork.fEdges.length : Int))) rfl rfl rfl rfl rfl (fun g27 => (opFieldP (fo56_1 H) (Ev.cnd (mv rfl) ⟨g27.1, g27.2⟩))) ?_
    refine RunOps.cons_gc (ro eEdge 5 v1.fNetwork.fEdges) (((!y5) || (decide (64 < (v1.fNetwork.fPlaces.length : Int)) && decide ((v1.fNetwork.fPlaces.length : Int) ≤ 512))) = false) (decide (200 < (v1.fNetwork.fEdges.length : Int))) rfl rfl rfl rfl rfl (fun g28 => (opLoad1 (tl54 H) ((Pt.box 0 (Ev.cnd (mv rfl) ⟨g28.1, g28.2⟩) rfl rfl).take 1 (cs' := [(ro eEdge 5 v1.fNetwork.fEdges)]) rfl))) ?_
    refine RunOps.cons_gc (iv .i64 (v1.fNetwork.fEdges.length : Int)) (((!y5) || (decide (64 < (v1.fNetwork.fPlaces.length : Int)) && decide ((v1.fNetwork.fPlaces.length : Int) ≤ 512))) = false) (decide (200 < (v1.fNetwork.fEdges.length : Int))) rfl rfl rfl rfl rfl (fun g29 => (opLenR (il54 H) (Ev.cnd (mv rfl) ⟨g29.1, g29.2⟩))) ?_
    refine RunOps.cons_gc (bv (decide ((v1.fNetwork.fEdges.length : Int) ≤ 2048))) (((!y5) || (decide (64 < (v1.fNetwork.fPlaces.length : Int)) && decide ((v1.fNetwork.fPlaces.length : Int) ≤ 512))) = false) (decide (200 < (v1.fNetwork.fEdges.length : Int))) rfl rfl rfl rfl rfl (fun g30 => (opLeq (Ev.cnd (mv rfl) ⟨g30.1, g30.2⟩) (Ev.const _))) ?_
    refine cg rfl rfl rfl rfl rfl (fun g31 => opAnd (Ev.cnd (mv rfl) g31) (fun g32 => (Ev.cnd (mv rfl) ⟨g31, g32⟩)) (Ev.const _)) ?_
    refine cq rfl rfl rfl (opOr (mv rfl) (Ev.const _) (fun g33 => (Ev.cnd (mv rfl) g33))) ?_
    refine rn (al [1, 37] [0] rfl rfl rfl (sq ?_))
    refine CodeT.cond (((!y5) || (decide (64 < (v1.fNetwork.fPlaces.length : Int)) && decide ((v1.fNetwork.fPlaces.length : Int) ≤ 512))) || (decide (200 < (v1.fNetwork.fEdges.length : Int)) && decide ((v1.fNetwork.fEdges.length : Int) ≤ 2048))) (evBool (mv rfl)) (fun c34 => ?_) (fun c34 => ?_)
    · rw [if_pos c34] at h
      refine cs (cr [0] rfl ?_)
      refine cq rfl rfl rfl (opAssign (Ev.const _)) ?_
      refine rn (al [2] [] rfl rfl rfl (sq ?_))
      refine CodeT.ret ?_
      refine AtX.then_ret ?_
      refine AtX.ret' (bv true) (ResOK.one Try.results8 rfl) [] [] trivial rfl ?_
      obtain rfl := Option.some.inj h
      exact ⟨rfl, rfl⟩
    · rw [if_neg (bne_true c34)] at h
      refine CodeT.skip ?_
      refine al [1] [0] rfl rfl rfl ?_
      refine sq (cs (cs (cr [0] rfl ?_)))
      refine cq rfl rfl rfl (opAssign (Ev.const _)) ?_
      refine rn (al [1, 3] [0] rfl rfl rfl (sq ?_))
      refine CodeT.join (fun z : Unit => (law09_FleetMatchesPool_j35 φ v1)) r (fun z => ⟨Slots.of [(1, (eqv (.pointer (some ⟨b2, 0, none⟩))))], [(box b2 61 (ePool v1))]⟩) (fun z h => ?_) (fun hJ35 => ?_)
      · replace h : (law09_FleetMatchesPool_j35 φ v1) = some r := h
        unfold law09_FleetMatchesPool_j35 at h
        refine al [1] [0] rfl rfl rfl ?_
        refine sq (cs ?_)
        refine bindE h fun y36 ey36 h => ?_
        refine bindE h fun y37 ey37 h => ?_
        refine CodeT.draw (QR := [(0, (agg (ePool v1))), (1, (iv .i64 y36)), (2, (agg (ePool v1))), (3, (iv .i64 y37)), (4, (bv (y36 == y37))), (5, (bv (y36 == y37)))]) (tab := [(some 54, []), (some 55, [0]), (some 56, []), (some 57, [2, 1]), (some 58, [1, 3]), (some 2, [4, 3, 0, 1, 2, 3, 4])]) (mixed H) ?_
        refine Reg.intro [] [] (by kernel_rfl) rfl ⟨rfl, rfl, rfl, rfl, rfl, rfl, trivial⟩ ⟨(fun _ => ⟨_, rfl, (opLoadN (tl61 H) ((Pt.box 0 (mv rfl) rfl rfl).take 9 (cs' := (ePool v1)) rfl))⟩), (fun _ => ⟨_, rfl, (opCallQ (fnok23 H) (args := [(agg [(ro ePlace 3 ((Pool.mk v1.fNetwork v1.fFleet v1.fReaders v1.fShippers v1.fRailways).fNetwork.fPlaces)), (ro eEdge 5 ((Pool.mk v1.fNetwork v1.fFleet v1.fReaders v1.fShippers v1.fRailways).fNetwork.fEdges)), (ro eWagonType 8 ((Pool.mk v1.fNetwork v1.fFleet v1.fReaders v1.fShippers v1.fRailways).fFleet.fTypes)), (ro eWagon 5 ((Pool.mk v1.fNetwork v1.fFleet v1.fReaders v1.fShippers v1.fRailways).fFleet.fWagons)), (ro eSwap 3 ((Pool.mk v1.fNetwork v1.fFleet v1.fReaders v1.fShippers v1.fRailways).fFleet.fSwaps)), (ro eWash 3 ((Pool.mk v1.fNetwork v1.fFleet v1.fReaders v1.fShippers v1.fRailways).fFleet.fWashes)), (ro eReader 3 ((Pool.mk v1.fNetwork v1.fFleet v1.fReaders v1.fShippers v1.fRailways).fReaders)), (ro eShipper 1 ((Pool.mk v1.fNetwork v1.fFleet v1.fReaders v1.fShippers v1.fRailways).fShippers)), (ro eRailwayInfo 16 ((Pool.mk v1.fNetwork v1.fFleet v1.fReaders v1.fShippers v1.fRailways).fRailways))])]) ⟨EvF.of (mv rfl) FEnt.refl, trivial⟩ (fleet_CheckPool_ok H φ (Pool.mk v1.fNetwork v1.fFleet v1.fReaders v1.fShippers v1.fRailways) _ ey36) flat_eqv)⟩), (fun _ => ⟨_, rfl, (opLoadN (tl61 H) ((Pt.box 0 (mv rfl) rfl rfl).take 9 (cs' := (ePool v1)) rfl))⟩), (fun _ => ⟨_, rfl, (opCallQ (fnok24 H) (args := [(agg [(ro ePlace 3 ((Pool.mk v1.fNetwork v1.fFleet v1.fReaders v1.fShippers v1.fRailways).fNetwork.fPlaces)), (ro eEdge 5 ((Pool.mk v1.fNetwork v1.fFleet v1.fReaders v1.fShippers v1.fRailways).fNetwork.fEdges)), (ro eWagonType 8 ((Pool.mk v1.fNetwork v1.fFleet v1.fReaders v1.fShippers v1.fRailways).fFleet.fTypes)), (ro eWagon 5 ((Pool.mk v1.fNetwork v1.fFleet v1.fReaders v1.fShippers v1.fRailways).fFleet.fWagons)), (ro eSwap 3 ((Pool.mk v1.fNetwork v1.fFleet v1.fReaders v1.fShippers v1.fRailways).fFleet.fSwaps)), (ro eWash 3 ((Pool.mk v1.fNetwork v1.fFleet v1.fReaders v1.fShippers v1.fRailways).fFleet.fWashes)), (ro eReader 3 ((Pool.mk v1.fNetwork v1.fFleet v1.fReaders v1.fShippers v1.fRailways).fReaders)), (ro eShipper 1 ((Pool.mk v1.fNetwork v1.fFleet v1.fReaders v1.fShippers v1.fRailways).fShippers)), (ro eRailwayInfo 16 ((Pool.mk v1.fNetwork v1.fFleet v1.fReaders v1.fShippers v1.fRailways).fRailways))])]) ⟨EvF.of (mv rfl) FEnt.refl, trivial⟩ (ref09_CheckPool_ok H φ (Pool.mk v1.fNetwork v1.fFleet v1.fReaders v1.fShippers v1.fRailways) _ ey37) flat_eqv)⟩), (fun _ => ⟨_, rfl, (opEql (mv rfl) (mv rfl))⟩), (fun _ => ⟨_, rfl, (opAssign (mv rfl))⟩), trivial⟩ trivial (fun _ => ?_)
        refine al [2] [] rfl rfl rfl ?_
        refine sq ?_
        refine CodeT.ret ?_
        refine AtX.ret' (bv (y36 == y37)) (ResOK.one Try.results8 rfl) [] [] trivial rfl ?_
        obtain rfl := Option.some.inj h
        exact ⟨rfl, rfl⟩
      · refine CodeT.block ?_
        refine CodeT.to (CodeT.loop (fun n (z : Int) => law09_FleetMatchesPool_L39 φ v1 (law09_FleetMatchesPool_j35 φ v1) n z) r (fun z => ⟨Slots.of [(1, (eqv (.pointer (some ⟨b2, 0, none⟩)))), (3, (iv .i64 z))], [(box b2 61 (ePool v1))]⟩) (fun z => rfl) (fun n39 v38 ih39 h => ?_) φ 0 h) [0] (sl rfl) (ol rfl) rfl
        replace h : law09_FleetMatchesPool_L39 φ v1 (law09_FleetMatchesPool_j35 φ v1) (n39 + 1) v38 = some r := h
        rw [law09_FleetMatchesPool_L39] at h
        refine cs (cs (cr [0, 1, 2, 3, 4] rfl ?_))
        refine cq rfl rfl rfl (opMove (mv rfl)) ?_
        refine cq rfl rfl rfl (opFieldP (fo61_4 H) (mv rfl)) ?_
        refine cq rfl rfl rfl (opLoad1 (tl59 H) ((Pt.box 0 (mv rfl) rfl rfl).take 1 (cs' := [(ro eRailwayInfo 16 v1.fRailways)]) rfl)) ?_
        refine cq rfl rfl rfl (opLenR (il59 H) (mv rfl)) ?_
        refine cq rfl rfl rfl (opLss (mv rfl) (mv rfl)) ?_
        refine rn (al [1, 3, 42] [0] rfl rfl rfl (sq ?_))
        refine CodeT.cond (decide (v38 < (v1.fRailways.length : Int))) (evBool (mv rfl)) (fun c40 => ?_) (fun c40 => ?_)
        · rw [if_pos c40] at h
          refine CodeT.skip ?_
          refine al [1, 3] [0] rfl rfl rfl ?_
          refine sq (cs ?_)
          refine CodeT.block ?_
          refine cs (cr [0, 1, 2, 3, 4, 5, 6, 7, 8] rfl ?_)
          refine cq rfl rfl rfl (opFieldP (fo61_4 H) (mv rfl)) ?_
          refine cq rfl rfl rfl (opLoad1 (tl59 H) ((Pt.box 0 (mv rfl) rfl rfl).take 1 (cs' := [(ro eRailwayInfo 16 v1.fRailways)]) rfl)) ?_
          refine cq rfl rfl rfl (opMove (mv rfl)) ?_
          refine ckE h fun h41 h => ?_
          refine cq rfl rfl rfl (opIndexR (e := eRailwayInfo) (y := (gt v1.fRailways v38)) (ix59 H) (mv rfl) (mv rfl) (h41).1 (gt_some h41)) ?_
          refine cq rfl rfl rfl (opFieldRT (fo68_1 H) (mv rfl) (cs' := (eCalendar (gt v1.fRailways v38).fCalendar)) 15 rfl) ?_
          refine cq rfl rfl rfl (opFieldRT (fo66_1 H) (mv rfl) (cs' := [(ro eI64 1 ((gt v1.fRailways v38).fCalendar.fHolidays))]) 1 rfl) ?_
          refine cq rfl rfl rfl (opLoad1 (tl41 H) (Pt.rop (mv rfl))) ?_
          refine cq rfl rfl rfl (opLenR (il41 H) (mv rfl)) ?_
          refine cq rfl rfl rfl (opGtr (mv rfl) (Ev.const _)) ?_
          refine rn (al [1, 3, 53] [0] rfl rfl rfl (sq ?_))
          refine CodeT.cond (decide (300 < (((gt v1.fRailways v38).fCalendar.fHolidays).length : Int))) (evBool (mv rfl)) (fun c42 => ?_) (fun c42 => ?_)
          · rw [if_pos c42] at h
            refine cs (cr [0] rfl ?_)
            refine cq rfl rfl rfl (opAssign (Ev.const _)) ?_
            refine rn (al [2] [] rfl rfl rfl (sq ?_))
            refine CodeT.ret ?_
            refine AtX.in_ret ?_
            refine AtX.then_ret ?_
            refine AtX.then_ret ?_
            refine AtX.in_ret ?_
            refine AtX.then_ret ?_
            refine AtX.ret' (bv true) (ResOK.one Try.results8 rfl) [] [] trivial rfl ?_
            obtain rfl := Option.some.inj h
            exact ⟨rfl, rfl⟩
          · rw [if_neg (bne_true c42)] at h
            refine CodeT.skip ?_
            refine AtX.in_normal ?_
            refine al [1, 3] [0] rfl rfl rfl ?_
            refine sq (cr [0, 1, 2] rfl ?_)
            refine cq rfl rfl rfl (opMove (mv rfl)) ?_
            refine cq rfl rfl rfl (opAdd (mv rfl) (Ev.const _)) ?_
            refine cq rfl rfl rfl (opAssign (mv rfl)) ?_
            refine rn ?_
            exact AtX.to (ih39 (W (v38 + 1)) h) [0] (sl rfl) (ol rfl) rfl
        · rw [if_neg (bne_true c40)] at h
          refine CodeT.exit ?_
          refine AtX.then_exit ?_
          refine AtX.then_exit ?_
          refine AtX.in_hit ?_
          exact AtX.to (hJ35 () h) [0] (sl rfl) (ol rfl) rfl
end Px
