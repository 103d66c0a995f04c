/- The law computes what was read out of it. Conditions: none. -/
import Derived.Test.YtbfoamlmlbmmnaaQcC
set_option linter.unusedVariables false
set_option linter.unusedSimpArgs false
set_option maxHeartbeats 4000000
set_option maxRecDepth 100000
namespace Px
open Go Go.RowKit Go.Proofs
theorem law09_FleetPoolParts_ok {P : Program} (H : P = Try.prog) (φ : Nat) (v1 : Pool) (v2 : Int) (r : (Bool)) (h : law09_FleetPoolParts φ v1 v2 = some r) : PureT P 9 [(agg (ePool v1)), (iv .i64 v2)] (fun x news => x = (bv r) ∧ news = []) := by
  unfold law09_FleetPoolParts at h
  refine PureT.of_code' 170 (fn9 H) rfl rfl (Nat.le_of_ble_eq_true rfl) fun w0 base r0 wI => ?_
  refine cl [0, 1] [] rfl rfl rfl ?_
  refine cs (cr [0, 1] rfl ?_)
  refine RunOps.cons rfl rfl rfl (opBox (cs := (ePool v1)) (Ce.agg (mv rfl)) fun b3 => ?_)
  refine cq rfl rfl rfl (opAssign (Ev.const _)) ?_
  refine rn (al [1, 2] [0] rfl rfl rfl (sq (cs (cs (cr [0, 1] rfl ?_)))))
  refine bindE h fun y4 ey4 h => ?_
  refine cq rfl rfl rfl (opCallQ (fnok10 H) (args := []) trivial (law09_sane_ok H φ  _ ey4) flat_eqv) ?_
  refine cq rfl rfl rfl (opNot (mv rfl)) ?_
  refine rn (al [1, 2, 13] [0] rfl rfl rfl (sq ?_))
  refine CodeT.cond (!y4) (evBool (mv rfl)) (fun c5 => ?_) (fun c5 => ?_)
  · rw [if_pos c5] at h
    refine cs (cr [0] rfl ?_)
    refine cq rfl rfl rfl (opAssign (Ev.const _)) ?_
    refine rn (al [4] [] rfl rfl rfl (sq ?_))
    refine CodeT.ret ?_
    refine AtX.then_ret ?_
    refine AtX.ret' (bv false) (ResOK.one Try.results9 rfl) [] [] trivial rfl ?_
    obtain rfl := Option.some.inj h
    exact ⟨rfl, rfl⟩
  · rw [if_neg (bne_true c5)] at h
    refine CodeT.skip ?_
    refine al [1, 2] [0] rfl rfl rfl ?_
    refine sq (cs (cs (cr [0, 1, 2, 3, 4, 5, 6, 7, 8] rfl ?_)))
    refine cq rfl rfl rfl (opFieldP (fo61_1 H) (mv rfl)) ?_
    refine RunOps.cons_q (agg (eFleet v1.fFleet)) rfl rfl rfl (opLoadN (tl27 H) ((Pt.box 0 (mv rfl) rfl rfl).take 4 (cs' := (eFleet v1.fFleet)) rfl)) ?_
    refine bindE h fun y6 ey6 h => ?_
    refine cq rfl rfl rfl (opCallQ (fnok11 H) (args := [(agg (eFleet v1.fFleet))]) ⟨EvF.of (mv rfl) FEnt.refl, trivial⟩ (law09_few_ok H φ v1.fFleet _ ey6) flat_eqv) ?_
    refine cq rfl rfl rfl (opNot (mv rfl)) ?_
    refine cq rfl rfl rfl (opMove (mv rfl)) ?_
    refine cg (x := (agg (ePool v1))) rfl rfl rfl rfl rfl (fun g7 => opLoadN (tl61 H) ((Pt.box 0 (mv rfl) rfl rfl).take 9 (cs' := (ePool v1)) rfl)) ?_
    refine bindE h fun y9 ey9 h => ?_
    refine cg rfl rfl rfl rfl rfl (fun g8 => opCallQ (fnok23 H) (args := [(agg [(ro ePlace 3 ((Pool.mk v1.fNetwork v1.fFleet v1.fReaders v1.fShippers v1.fRailways).fNetwork.fPlaces)), (ro eEdge 5 ((Pool.mk v1.fNetwork v1.fFleet v1.fReaders v1.fShippers v1.fRailways).fNetwork.fEdges)), (ro eWagonType 8 ((Pool.mk v1.fNetwork v1.fFleet v1.fReaders v1.fShippers v1.fRailways).fFleet.fTypes)), (ro eWagon 5 ((Pool.mk v1.fNetwork v1.fFleet v1.fReaders v1.fShippers v1.fRailways).fFleet.fWagons)), (ro eSwap 3 ((Pool.mk v1.fNetwork v1.fFleet v1.fReaders v1.fShippers v1.fRailways).fFleet.fSwaps)), (ro eWash 3 ((Pool.mk v1.fNetwork v1.fFleet v1.fReaders v1.fShippers v1.fRailways).fFleet.fWashes)), (ro eReader 3 ((Pool.mk v1.fNetwork v1.fFleet v1.fReaders v1.fShippers v1.fRailways).fReaders)), (ro eShipper 1 ((Pool.mk v1.fNetwork v1.fFleet v1.fReaders v1.fShippers v1.fRailways).fShippers)), (ro eRailwayInfo 16 ((Pool.mk v1.fNetwork v1.fFleet v1.fReaders v1.fShippers v1.fRailways).fRailways))])]) ⟨EvF.of (Ev.cnd (mv rfl) g8) FEnt.refl, trivial⟩ (fleet_CheckPool_ok H φ (Pool.mk v1.fNetwork v1.fFleet v1.fReaders v1.fShippers v1.fRailways) _ (gcall_pos ey9 g8)) flat_eqv) ?_
    refine cg rfl rfl rfl rfl rfl (fun g10 => opNeq (Ev.cnd (mv rfl) g10) (Ev.const _)) ?_
    refine cq rfl rfl rfl (opOr (mv rfl) (Ev.const _) (fun g11 => (Ev.cnd (mv rfl) g11))) ?_
    refine rn (al [1, 2, 22] [0] rfl rfl rfl (sq ?_))
    refine CodeT.cond ((!y6) || (y9 != 0)) (evBool (mv rfl)) (fun c12 => ?_) (fun c12 => ?_)
    · rw [if_pos c12] at h
      refine cs (cr [0] rfl ?_)
      refine cq rfl rfl rfl (opAssign (Ev.const _)) ?_
      refine rn (al [4] [] rfl rfl rfl (sq ?_))
      refine CodeT.ret ?_
      refine AtX.then_ret ?_
      refine AtX.ret' (bv true) (ResOK.one Try.results9 rfl) [] [] trivial rfl ?_
      obtain rfl := Option.some.inj h
      exact ⟨rfl, rfl⟩
    · rw [if_neg (bne_true c12)] at h
      refine CodeT.skip ?_
      refine al [1, 2] [0] rfl rfl rfl ?_
      refine sq (cs (cs (cr [0, 1, 2, 3, 4, 5, 6, 7, 8, 9, 10, 11, 12, 13, 14, 15] rfl ?_)))
      refine cq rfl rfl rfl (opFieldP (fo61_0 H) (mv rfl)) ?_
      refine RunOps.cons_q (agg (eNetwork v1.fNetwork)) rfl rfl rfl (opLoadN (tl56 H) ((Pt.box 0 (mv rfl) rfl rfl).take 2 (cs' := (eNetwork v1.fNetwork)) rfl)) ?_
      refine bindE h fun y13 ey13 h => ?_
      refine cq rfl rfl rfl (opCallQ (fnok25 H) (args := [(agg (eNetwork v1.fNetwork))]) ⟨EvF.of (mv rfl) FEnt.refl, trivial⟩ (network_Check_ok H φ v1.fNetwork _ ey13) flat_eqv) ?_
      refine cq rfl rfl rfl (opNeq (mv rfl) (Ev.const _)) ?_
      refine cq rfl rfl rfl (opMove (mv rfl)) ?_
      refine cg rfl rfl rfl rfl rfl (fun g14 => opFieldP (fo61_1 H) (mv rfl)) ?_
      refine cg (x := (agg (eFleet v1.fFleet))) rfl rfl rfl rfl rfl (fun g15 => opLoadN (tl27 H) ((Pt.box 0 (Ev.cnd (mv rfl) g15) rfl rfl).take 4 (cs' := (eFleet v1.fFleet)) rfl)) ?_
      refine bindE h fun y17 ey17 h => ?_
      refine cg rfl rfl rfl rfl rfl (fun g16 => opCallQ (fnok18 H) (args := [(agg (eFleet v1.fFleet))]) ⟨EvF.of (Ev.cnd (mv rfl) g16) FEnt.refl, trivial⟩ (fleet_Check_ok H φ v1.fFleet _ (gcall_pos ey17 g16)) flat_eqv) ?_
      refine cg rfl rfl rfl rfl rfl (fun g18 => opNeq (Ev.cnd (mv rfl) g18) (Ev.const _)) ?_
      refine cq rfl rfl rfl (opOr (mv rfl) (Ev.const _) (fun g19 => (Ev.cnd (mv rfl) g19))) ?_
      refine cq rfl rfl rfl (opMove (mv rfl)) ?_
      refine cg rfl rfl rfl rfl rfl (fun g20 => opFieldP (fo61_4 H) (mv rfl)) ?_
      refine cg rfl rfl rfl rfl rfl (fun g21 => opLoad1 (tl59 H) ((Pt.box 0 (Ev.cnd (mv rfl) g21) rfl rfl).take 1 (cs' := [(ro eRailwayInfo 16 v1.fRailways)]) rfl)) ?_
      refine cg rfl rfl rfl rfl rfl (fun g22 => opLenR (il59 H) (Ev.cnd (mv rfl) g22)) ?_
      refine cg rfl rfl rfl rfl rfl (fun g23 => opEql (Ev.cnd (mv rfl) g23) (Ev.const _)) ?_
      refine cq rfl rfl rfl (opOr (mv rfl) (Ev.const _) (fun g24 => (Ev.cnd (mv rfl) g24))) ?_
      refine rn (al [1, 2, 38] [0] rfl rfl rfl (sq ?_))
      refine CodeT.cond (((y13 != 0) || (y17 != 0)) || ((v1.fRailways.length : Int) == 0)) (evBool (mv rfl)) (fun c25 => ?_) (fun c25 => ?_)
      · rw [if_pos c25] at h
        refine cs (cr [0] rfl ?_)
        refine cq rfl rfl rfl (opAssign (Ev.const _)) ?_
        refine rn (al [4] [] rfl rfl rfl (sq ?_))
        refine CodeT.ret ?_
        refine AtX.then_ret ?_
        refine AtX.ret' (bv false) (ResOK.one Try.results9 rfl) [] [] trivial rfl ?_
        obtain rfl := Option.some.inj h
        exact ⟨rfl, rfl⟩
      · rw [if_neg (bne_true c25)] at h
        refine CodeT.skip ?_
        refine al [1, 2] [0] rfl rfl rfl ?_
        refine sq (cs (cs (cr [0] rfl ?_)))
        refine cq rfl rfl rfl (opAssign (Ev.const _)) ?_
        refine rn (al [1, 2, 5] [0] rfl rfl rfl (sq ?_))
        refine CodeT.join (fun z : Unit => (law09_FleetPoolParts_j26 φ v1 v2)) r (fun z => ⟨Slots.of [(1, (iv .i64 v2)), (2, (eqv (.pointer (some ⟨b3, 0, none⟩))))], [(box b3 61 (ePool v1))]⟩) (fun z h => ?_) (fun hJ26 => ?_)
        · replace h : (law09_FleetPoolParts_j26 φ v1 v2) = some r := h
          unfold law09_FleetPoolParts_j26 at h
          refine al [1, 2] [0] rfl rfl rfl ?_
          refine sq (cs (cs (cr [0] rfl ?_)))
          refine cq rfl rfl rfl (opAssign (Ev.const _)) ?_
          refine rn (al [1, 2, 6] [0] rfl rfl rfl (sq ?_))
          refine CodeT.join (fun z : Unit => (law09_FleetPoolParts_j27 φ v1 v2)) r (fun z => ⟨Slots.of [(1, (iv .i64 v2)), (2, (eqv (.pointer (some ⟨b3, 0, none⟩))))], [(box b3 61 (ePool v1))]⟩) (fun z h => ?_) (fun hJ27 => ?_)
          · replace h : (law09_FleetPoolParts_j27 φ v1 v2) = some r := h
            unfold law09_FleetPoolParts_j27 at h
            refine al [1, 2] [0] rfl rfl rfl ?_
            refine sq (cs (cr [0, 1, 2, 3, 4, 5, 6, 7, 8] rfl ?_))
            refine cq rfl rfl rfl (opMove (mv rfl)) ?_
            refine cq rfl rfl rfl (opConv (us3 H) (un48 H) (mv rfl)) ?_
            refine cq rfl rfl rfl (opFieldP (fo61_4 H) (mv rfl)) ?_
            refine cq rfl rfl rfl (opLoad1 (tl59 H) ((Pt.box 0 (mv rfl) rfl rfl).take 1 (cs' := [(ro eRailwayInfo 16 v1.fRailways)]) rfl)) ?_
            refine cq rfl rfl rfl (opLenR (il59 H) (mv rfl)) ?_
            refine cq rfl rfl rfl (opConv (us3 H) (un48 H) (mv rfl)) ?_
            refine ckE h fun h28 h => ?_
            refine cq rfl rfl rfl (opRem (mv rfl) (mv rfl) h28) ?_
            refine cq rfl rfl rfl (opConv (us48 H) (un3 H) (mv rfl)) ?_
            refine cq rfl rfl rfl (opAssign (mv rfl)) ?_
            refine rn (al [2, 7] [0] rfl rfl rfl (sq (cs (cr [0, 1, 2] rfl ?_))))
            refine RunOps.cons_q (agg (ePool v1)) rfl rfl rfl (opLoadN (tl61 H) ((Pt.box 0 (mv rfl) rfl rfl).take 9 (cs' := (ePool v1)) rfl)) ?_
            refine RunOps.cons rfl rfl rfl (opAlloc [.slice none 0 0, .slice none 0 0, .slice none 0 0, .slice none 0 0, .slice none 0 0, .slice none 0 0, .slice none 0 0, .slice none 0 0, .slice none 0 0] (ze61 H) rfl fun b29 => ?_)
            refine RunOps.cons rfl rfl rfl (opStore 1 (cells := [(eqv (.slice none 0 0)), (eqv (.slice none 0 0)), (eqv (.slice none 0 0)), (eqv (.slice none 0 0)), (eqv (.slice none 0 0)), (eqv (.slice none 0 0)), (eqv (.slice none 0 0)), (eqv (.slice none 0 0)), (eqv (.slice none 0 0))]) (cs := (ePool v1)) (out := (ePool v1)) (tl61 H) (mv rfl) (Ce.agg (mv rfl)) rfl rfl (Nat.le_of_ble_eq_true rfl) rfl ?_)
            refine rn (al [2, 7, 8] [0, 1] rfl rfl rfl (sq (cs (cr [0, 1, 2, 3, 4, 5] rfl ?_))))
            refine RunOps.cons rfl rfl rfl (opBuildSlice (e := eRailwayInfo) ([] : List RailwayInfo) (sl59 H) lRailwayInfo rfl (by decide) trivial fun sv30 => ?_)
            refine cq rfl rfl rfl (opFieldP (fo61_4 H) (mv rfl)) ?_
            refine cq rfl rfl rfl (opLoad1 (tl59 H) ((Pt.box 0 (mv rfl) rfl rfl).take 1 (cs' := [(ro eRailwayInfo 16 v1.fRailways)]) rfl)) ?_
            refine ckE h fun h31 h => ?_
            refine RunOps.cons rfl rfl rfl (opAppend 2 (l := ([] : List RailwayInfo)) (m := v1.fRailways) (sl59 H) lRailwayInfo (mv rfl) rfl (Src.ro lRailwayInfo (by decide) (mv rfl)) h31 (fits_max (by decide) h31) fun sv32 => ?_)
            refine cq rfl rfl rfl (opFieldP (fo61_4 H) (mv rfl)) ?_
            refine RunOps.cons rfl rfl rfl (OpT.own1 2 rfl fun hs33 => opStore 1 (cells := (ePool v1)) (cs := [(eqv sv32)]) (out := [(ro ePlace 3 v1.fNetwork.fPlaces), (ro eEdge 5 v1.fNetwork.fEdges), (ro eWagonType 8 v1.fFleet.fTypes), (ro eWagon 5 v1.fFleet.fWagons), (ro eSwap 3 v1.fFleet.fSwaps), (ro eWash 3 v1.fFleet.fWashes), (ro eReader 3 v1.fReaders), (ro eShipper 1 v1.fShippers), (eqv sv32)]) (tl59 H) (mv rfl) (Ce.one (mv rfl) (One.eqv hs33)) rfl rfl (Nat.le_of_ble_eq_true rfl) rfl ?_)
            refine rn (al [2, 7, 8] [0, 1, 2] rfl rfl rfl (sq (cs ?_)))
            refine ckE h fun h34 h => ?_
            refine CodeT.draw (QR := [(0, (eqv (.pointer (some ⟨b29, 8, none⟩)))), (1, (eqv sv32)), (2, (iv .i64 (W (((U (v2)).tmod (U ((v1.fRailways.length : Int)))))))), (3, (eqv (.pointer (some ⟨b29, 8, none⟩)))), (4, (eqv sv32)), (5, (iv .i64 (W (((U (v2)).tmod (U ((v1.fRailways.length : Int)))))))), (6, (rowp sv32 (((W (((U (v2)).tmod (U ((v1.fRailways.length : Int)))))) : Int).toNat * 16))), (7, (rowp sv32 (((W (((U (v2)).tmod (U ((v1.fRailways.length : Int)))))) : Int).toNat * 16 + 0))), (8, (iv .u64 ((gt (([] : List RailwayInfo) ++ v1.fRailways) (W (((U (v2)).tmod (U ((v1.fRailways.length : Int))))))).fKey))), (9, (iv .u64 (U (2305843009213690799 - ((gt (([] : List RailwayInfo) ++ v1.fRailways) (W (((U (v2)).tmod (U ((v1.fRailways.length : Int))))))).fKey))))), (10, (rowp sv32 (((W (((U (v2)).tmod (U ((v1.fRailways.length : Int)))))) : Int).toNat * 16))), (11, (rowp sv32 (((W (((U (v2)).tmod (U ((v1.fRailways.length : Int)))))) : Int).toNat * 16 + 0)))]) (tab := [(some 108, []), (some 109, [0]), (some 110, []), (some 111, []), (some 112, [3]), (some 113, []), (some 114, [4, 5]), (some 115, [6]), (some 116, [7]), (some 117, [8]), (some 118, [1, 2, 0, 1, 2, 3, 4, 5, 6, 7, 8, 9]), (some 119, [10, 0, 1, 2, 3, 4, 5, 6, 7, 8, 9]), (none, [11, 9, 0, 1, 2, 3, 4, 5, 6, 7, 8, 9])]) (mixed H) ?_
            refine Reg.intro [12] [] (by kernel_rfl) rfl ⟨rfl, rfl, rfl, rfl, rfl, rfl, rfl, rfl, rfl, rfl, rfl, rfl, trivial⟩ ⟨(fun _ => ⟨_, rfl, (opFieldP (fo61_4 H) (mv rfl))⟩), (fun _ => ⟨_, rfl, (opLoad1 (tl59 H) ((Pt.box 1 (mv rfl) rfl rfl).take 1 (cs' := [(eqv sv32)]) rfl))⟩), (fun _ => ⟨_, rfl, (opMove (mv rfl))⟩), (fun _ => ⟨_, rfl, (opFieldP (fo61_4 H) (mv rfl))⟩), (fun _ => ⟨_, rfl, (opLoad1 (tl59 H) ((Pt.box 1 (mv rfl) rfl rfl).take 1 (cs' := [(eqv sv32)]) rfl))⟩), (fun _ => ⟨_, rfl, (opMove (mv rfl))⟩), (fun _ => ⟨_, rfl, (opIndexO 2 (ix59 H) (mv rfl) rfl (mv rfl) (h34).1 (h34).2)⟩), (fun _ => ⟨_, rfl, (opFieldO (fo68_0 H) (mv rfl))⟩), (fun _ => ⟨_, rfl, (opLoad1 (tl48 H) ((Pt.row _ 2 (k := ((W (((U (v2)).tmod (U ((v1.fRailways.length : Int)))))) : Int).toNat) (fo := 0) lRailwayInfo (mv rfl) rfl (by omega) (gt_some h34) rfl).take 1 (cs' := [(iv .u64 ((gt (([] : List RailwayInfo) ++ v1.fRailways) (W (((U (v2)).tmod (U ((v1.fRailways.length : Int))))))).fKey))]) rfl))⟩), (fun _ => ⟨_, rfl, (opSub (Ev.const _) (mv rfl))⟩), (fun _ => ⟨_, rfl, (opIndexO 2 (ix59 H) (mv rfl) rfl (mv rfl) (h34).1 (h34).2)⟩), (fun _ => ⟨_, rfl, (opFieldO (fo68_0 H) (mv rfl))⟩), trivial⟩ ⟨⟨_, rfl, rfl, rfl, rfl, opStoreO 2 (k := ((W (((U (v2)).tmod (U ((v1.fRailways.length : Int)))))) : Int).toNat) (fo := 0) (z' := (RailwayInfo.mk (U (2305843009213690799 - ((gt (([] : List RailwayInfo) ++ v1.fRailways) (W (((U (v2)).tmod (U ((v1.fRailways.length : Int))))))).fKey))) (gt (([] : List RailwayInfo) ++ v1.fRailways) (W (((U (v2)).tmod (U ((v1.fRailways.length : Int))))))).fCalendar)) (cs := [(iv .u64 (U (2305843009213690799 - ((gt (([] : List RailwayInfo) ++ v1.fRailways) (W (((U (v2)).tmod (U ((v1.fRailways.length : Int))))))).fKey))))]) lRailwayInfo (tl48 H) (mv rfl) (Ce.one (mv rfl) (One.eqv rfl)) rfl rfl (by omega) (gt_some h34) (Nat.le_of_ble_eq_true rfl) rfl ⟨[], rfl, ?_⟩⟩, trivial⟩ (fun hc => Bool.noConfusion (hc : false = true))
            refine Reg.intro [] [0, 1, 2, 3, 4, 5, 6, 7, 8, 9, 10, 11] (by kernel_rfl) rfl ⟨rfl, rfl, rfl, rfl, rfl, rfl, rfl, rfl, rfl, rfl, rfl, rfl, trivial⟩ ⟨(fun hn => Bool.noConfusion (hn : true = false)), (fun hn => Bool.noConfusion (hn : true = false)), (fun hn => Bool.noConfusion (hn : true = false)), (fun hn => Bool.noConfusion (hn : true = false)), (fun hn => Bool.noConfusion (hn : true = false)), (fun hn => Bool.noConfusion (hn : true = false)), (fun hn => Bool.noConfusion (hn : true = false)), (fun hn => Bool.noConfusion (hn : true = false)), (fun hn => Bool.noConfusion (hn : true = false)), (fun hn => Bool.noConfusion (hn : true = false)), (fun hn => Bool.noConfusion (hn : true = false)), (fun hn => Bool.noConfusion (hn : true = false)), trivial⟩ trivial (fun _ => ?_)
            refine al [2, 8] [0, 1, 2] rfl rfl rfl ?_
            refine sq (cs (cr [0, 1, 2] rfl ?_))
            refine RunOps.cons_q (agg (ePool v1)) rfl rfl rfl (opLoadN (tl61 H) ((Pt.box 0 (mv rfl) rfl rfl).take 9 (cs' := (ePool v1)) rfl)) ?_
            refine RunOps.cons rfl rfl rfl (opAlloc [.slice none 0 0, .slice none 0 0, .slice none 0 0, .slice none 0 0, .slice none 0 0, .slice none 0 0, .slice none 0 0, .slice none 0 0, .slice none 0 0] (ze61 H) rfl fun b36 => ?_)
            refine RunOps.cons rfl rfl rfl (opStore 3 (cells := [(eqv (.slice none 0 0)), (eqv (.slice none 0 0)), (eqv (.slice none 0 0)), (eqv (.slice none 0 0)), (eqv (.slice none 0 0)), (eqv (.slice none 0 0)), (eqv (.slice none 0 0)), (eqv (.slice none 0 0)), (eqv (.slice none 0 0))]) (cs := (ePool v1)) (out := (ePool v1)) (tl61 H) (mv rfl) (Ce.agg (mv rfl)) rfl rfl (Nat.le_of_ble_eq_true rfl) rfl ?_)
            refine rn (al [2, 8, 9] [0, 1, 2, 3] rfl rfl rfl (sq (cs ?_)))
            refine CodeT.join (fun z : Value => (law09_FleetPoolParts_j38 φ v1 v2)) r (fun z => ⟨Slots.of [(2, (eqv (.pointer (some ⟨b3, 0, none⟩)))), (8, (eqv (.pointer (some ⟨b29, 0, none⟩)))), (9, (eqv (.pointer (some ⟨b36, 0, none⟩))))], [(box b3 61 (ePool v1)), (box b29 61 [(ro ePlace 3 v1.fNetwork.fPlaces), (ro eEdge 5 v1.fNetwork.fEdges), (ro eWagonType 8 v1.fFleet.fTypes), (ro eWagon 5 v1.fFleet.fWagons), (ro eSwap 3 v1.fFleet.fSwaps), (ro eWash 3 v1.fFleet.fWashes), (ro eReader 3 v1.fReaders), (ro eShipper 1 v1.fShippers), (eqv sv32)]), (row 68 eRailwayInfo 16 (setAt (([] : List RailwayInfo) ++ v1.fRailways) (W (((U (v2)).tmod (U ((v1.fRailways.length : Int)))))) (RailwayInfo.mk (U (2305843009213690799 - ((gt (([] : List RailwayInfo) ++ v1.fRailways) (W (((U (v2)).tmod (U ((v1.fRailways.length : Int))))))).fKey))) (gt (([] : List RailwayInfo) ++ v1.fRailways) (W (((U (v2)).tmod (U ((v1.fRailways.length : Int))))))).fCalendar)) sv32), (box b36 61 [(ro ePlace 3 v1.fNetwork.fPlaces), (ro eEdge 5 v1.fNetwork.fEdges), (ro eWagonType 8 v1.fFleet.fTypes), (ro eWagon 5 v1.fFleet.fWagons), (ro eSwap 3 v1.fFleet.fSwaps), (ro eWash 3 v1.fFleet.fWashes), (eqv z), (ro eShipper 1 v1.fShippers), (ro eRailwayInfo 16 v1.fRailways)]), (row 75 eReader 3 ((([] : List Reader) ++ v1.fReaders) ++ [(Reader.mk (v1.fNetwork.fPlaces.length : Int) 0 0)]) z)]⟩) (fun sv37 h => ?_) (fun hJ38 => ?_)
            · replace h : (law09_FleetPoolParts_j38 φ v1 v2) = some r := h
              unfold law09_FleetPoolParts_j38 at h
              refine al [2, 8, 9] [0, 1, 2, 3, 4] rfl rfl rfl ?_
              refine sq (cs (cs (cr [0, 1, 2, 3, 4, 5, 6, 7] rfl ?_)))
              refine RunOps.cons_q (agg [(ro ePlace 3 v1.fNetwork.fPlaces), (ro eEdge 5 v1.fNetwork.fEdges), (ro eWagonType 8 v1.fFleet.fTypes), (ro eWagon 5 v1.fFleet.fWagons), (ro eSwap 3 v1.fFleet.fSwaps), (ro eWash 3 v1.fFleet.fWashes), (ro eReader 3 v1.fReaders), (ro eShipper 1 v1.fShippers), (eqv sv32)]) rfl rfl rfl (opLoadN (tl61 H) ((Pt.box 1 (mv rfl) rfl rfl).take 9 (cs' := [(ro ePlace 3 v1.fNetwork.fPlaces), (ro eEdge 5 v1.fNetwork.fEdges), (ro eWagonType 8 v1.fFleet.fTypes), (ro eWagon 5 v1.fFleet.fWagons), (ro eSwap 3 v1.fFleet.fSwaps), (ro eWash 3 v1.fFleet.fWashes), (ro eReader 3 v1.fReaders), (ro eShipper 1 v1.fShippers), (eqv sv32)]) rfl)) ?_
              refine bindE h fun y39 ey39 h => ?_
              refine cq rfl rfl rfl (opCallQ (fnok23 H) (args := [(agg [(ro ePlace 3 ((Pool.mk v1.fNetwork v1.fFleet v1.fReaders v1.fShippers (setAt (([] : List RailwayInfo) ++ v1.fRailways) (W (((U (v2)).tmod (U ((v1.fRailways.length : Int)))))) (RailwayInfo.mk (U (2305843009213690799 - ((gt (([] : List RailwayInfo) ++ v1.fRailways) (W (((U (v2)).tmod (U ((v1.fRailways.length : Int))))))).fKey))) (gt (([] : List RailwayInfo) ++ v1.fRailways) (W (((U (v2)).tmod (U ((v1.fRailways.length : Int))))))).fCalendar))).fNetwork.fPlaces)), (ro eEdge 5 ((Pool.mk v1.fNetwork v1.fFleet v1.fReaders v1.fShippers (setAt (([] : List RailwayInfo) ++ v1.fRailways) (W (((U (v2)).tmod (U ((v1.fRailways.length : Int)))))) (RailwayInfo.mk (U (2305843009213690799 - ((gt (([] : List RailwayInfo) ++ v1.fRailways) (W (((U (v2)).tmod (U ((v1.fRailways.length : Int))))))).fKey))) (gt (([] : List RailwayInfo) ++ v1.fRailways) (W (((U (v2)).tmod (U ((v1.fRailways.length : Int))))))).fCalendar))).fNetwork.fEdges)), (ro eWagonType 8 ((Pool.mk v1.fNetwork v1.fFleet v1.fReaders v1.fShippers (setAt (([] : List RailwayInfo) ++ v1.fRailways) (W (((U (v2)).tmod (U ((v1.fRailways.length : Int)))))) (RailwayInfo.mk (U (2305843009213690799 - ((gt (([] : List RailwayInfo) ++ v1.fRailways) (W (((U (v2)).tmod (U ((v1.fRailways.length : Int))))))).fKey))) (gt (([] : List RailwayInfo) ++ v1.fRailways) (W (((U (v2)).tmod (U ((v1.fRailways.length : Int))))))).fCalendar))).fFleet.fTypes)), (ro eWagon 5 ((Pool.mk v1.fNetwork v1.fFleet v1.fReaders v1.fShippers (setAt (([] : List RailwayInfo) ++ v1.fRailways) (W (((U (v2)).tmod (U ((v1.fRailways.length : Int)))))) (RailwayInfo.mk (U (2305843009213690799 - ((gt (([] : List RailwayInfo) ++ v1.fRailways) (W (((U (v2)).tmod (U ((v1.fRailways.length : Int))))))).fKey))) (gt (([] : List RailwayInfo) ++ v1.fRailways) (W (((U (v2)).tmod (U ((v1.fRailways.length : Int))))))).fCalendar))).fFleet.fWagons)), (ro eSwap 3 ((Pool.mk v1.fNetwork v1.fFleet v1.fReaders v1.fShippers (setAt (([] : List RailwayInfo) ++ v1.fRailways) (W (((U (v2)).tmod (U ((v1.fRailways.length : Int)))))) (RailwayInfo.mk (U (2305843009213690799 - ((gt (([] : List RailwayInfo) ++ v1.fRailways) (W (((U (v2)).tmod (U ((v1.fRailways.length : Int))))))).fKey))) (gt (([] : List RailwayInfo) ++ v1.fRailways) (W (((U (v2)).tmod (U ((v1.fRailways.length : Int))))))).fCalendar))).fFleet.fSwaps)), (ro eWash 3 ((Pool.mk v1.fNetwork v1.fFleet v1.fReaders v1.fShippers (setAt (([] : List RailwayInfo) ++ v1.fRailways) (W (((U (v2)).tmod (U ((v1.fRailways.length : Int)))))) (RailwayInfo.mk (U (2305843009213690799 - ((gt (([] : List RailwayInfo) ++ v1.fRailways) (W (((U (v2)).tmod (U ((v1.fRailways.length : Int))))))).fKey))) (gt (([] : List RailwayInfo) ++ v1.fRailways) (W (((U (v2)).tmod (U ((v1.fRailways.length : Int))))))).fCalendar))).fFleet.fWashes)), (ro eReader 3 ((Pool.mk v1.fNetwork v1.fFleet v1.fReaders v1.fShippers (setAt (([] : List RailwayInfo) ++ v1.fRailways) (W (((U (v2)).tmod (U ((v1.fRailways.length : Int)))))) (RailwayInfo.mk (U (2305843009213690799 - ((gt (([] : List RailwayInfo) ++ v1.fRailways) (W (((U (v2)).tmod (U ((v1.fRailways.length : Int))))))).fKey))) (gt (([] : List RailwayInfo) ++ v1.fRailways) (W (((U (v2)).tmod (U ((v1.fRailways.length : Int))))))).fCalendar))).fReaders)), (ro eShipper 1 ((Pool.mk v1.fNetwork v1.fFleet v1.fReaders v1.fShippers (setAt (([] : List RailwayInfo) ++ v1.fRailways) (W (((U (v2)).tmod (U ((v1.fRailways.length : Int)))))) (RailwayInfo.mk (U (2305843009213690799 - ((gt (([] : List RailwayInfo) ++ v1.fRailways) (W (((U (v2)).tmod (U ((v1.fRailways.length : Int))))))).fKey))) (gt (([] : List RailwayInfo) ++ v1.fRailways) (W (((U (v2)).tmod (U ((v1.fRailways.length : Int))))))).fCalendar))).fShippers)), (ro eRailwayInfo 16 ((Pool.mk v1.fNetwork v1.fFleet v1.fReaders v1.fShippers (setAt (([] : List RailwayInfo) ++ v1.fRailways) (W (((U (v2)).tmod (U ((v1.fRailways.length : Int)))))) (RailwayInfo.mk (U (2305843009213690799 - ((gt (([] : List RailwayInfo) ++ v1.fRailways) (W (((U (v2)).tmod (U ((v1.fRailways.length : Int))))))).fKey))) (gt (([] : List RailwayInfo) ++ v1.fRailways) (W (((U (v2)).tmod (U ((v1.fRailways.length : Int))))))).fCalendar))).fRailways))])]) ⟨EvF.of (mv rfl) (FEnt.agg ⟨FEnt.refl, FEnt.refl, FEnt.refl, FEnt.refl, FEnt.refl, FEnt.refl, FEnt.refl, FEnt.refl, (FEnt.row 2 lRailwayInfo rfl), trivial⟩), trivial⟩ (fleet_CheckPool_ok H φ (Pool.mk v1.fNetwork v1.fFleet v1.fReaders v1.fShippers (setAt (([] : List RailwayInfo) ++ v1.fRailways) (W (((U (v2)).tmod (U ((v1.fRailways.length : Int)))))) (RailwayInfo.mk (U (2305843009213690799 - ((gt (([] : List RailwayInfo) ++ v1.fRailways) (W (((U (v2)).tmod (U ((v1.fRailways.length : Int))))))).fKey))) (gt (([] : List RailwayInfo) ++ v1.fRailways) (W (((U (v2)).tmod (U ((v1.fRailways.length : Int))))))).fCalendar))) _ ey39) flat_eqv) ?_
              refine cq rfl rfl rfl (opNeq (mv rfl) (Ev.const _)) ?_
              refine cq rfl rfl rfl (opMove (mv rfl)) ?_
              refine cg (x := (agg [(ro ePlace 3 v1.fNetwork.fPlaces), (ro eEdge 5 v1.fNetwork.fEdges), (ro eWagonType 8 v1.fFleet.fTypes), (ro eWagon 5 v1.fFleet.fWagons), (ro eSwap 3 v1.fFleet.fSwaps), (ro eWash 3 v1.fFleet.fWashes), (eqv sv37), (ro eShipper 1 v1.fShippers), (ro eRailwayInfo 16 v1.fRailways)])) rfl rfl rfl rfl rfl (fun g40 => opLoadN (tl61 H) ((Pt.box 3 (mv rfl) rfl rfl).take 9 (cs' := [(ro ePlace 3 v1.fNetwork.fPlaces), (ro eEdge 5 v1.fNetwork.fEdges), (ro eWagonType 8 v1.fFleet.fTypes), (ro eWagon 5 v1.fFleet.fWagons), (ro eSwap 3 v1.fFleet.fSwaps), (ro eWash 3 v1.fFleet.fWashes), (eqv sv37), (ro eShipper 1 v1.fShippers), (ro eRailwayInfo 16 v1.fRailways)]) rfl)) ?_
              refine bindE h fun y42 ey42 h => ?_
              refine cg rfl rfl rfl rfl rfl (fun g41 => opCallQ (fnok23 H) (args := [(agg [(ro ePlace 3 ((Pool.mk v1.fNetwork v1.fFleet ((([] : List Reader) ++ v1.fReaders) ++ [(Reader.mk (v1.fNetwork.fPlaces.length : Int) 0 0)]) v1.fShippers v1.fRailways).fNetwork.fPlaces)), (ro eEdge 5 ((Pool.mk v1.fNetwork v1.fFleet ((([] : List Reader) ++ v1.fReaders) ++ [(Reader.mk (v1.fNetwork.fPlaces.length : Int) 0 0)]) v1.fShippers v1.fRailways).fNetwork.fEdges)), (ro eWagonType 8 ((Pool.mk v1.fNetwork v1.fFleet ((([] : List Reader) ++ v1.fReaders) ++ [(Reader.mk (v1.fNetwork.fPlaces.length : Int) 0 0)]) v1.fShippers v1.fRailways).fFleet.fTypes)), (ro eWagon 5 ((Pool.mk v1.fNetwork v1.fFleet ((([] : List Reader) ++ v1.fReaders) ++ [(Reader.mk (v1.fNetwork.fPlaces.length : Int) 0 0)]) v1.fShippers v1.fRailways).fFleet.fWagons)), (ro eSwap 3 ((Pool.mk v1.fNetwork v1.fFleet ((([] : List Reader) ++ v1.fReaders) ++ [(Reader.mk (v1.fNetwork.fPlaces.length : Int) 0 0)]) v1.fShippers v1.fRailways).fFleet.fSwaps)), (ro eWash 3 ((Pool.mk v1.fNetwork v1.fFleet ((([] : List Reader) ++ v1.fReaders) ++ [(Reader.mk (v1.fNetwork.fPlaces.length : Int) 0 0)]) v1.fShippers v1.fRailways).fFleet.fWashes)), (ro eReader 3 ((Pool.mk v1.fNetwork v1.fFleet ((([] : List Reader) ++ v1.fReaders) ++ [(Reader.mk (v1.fNetwork.fPlaces.length : Int) 0 0)]) v1.fShippers v1.fRailways).fReaders)), (ro eShipper 1 ((Pool.mk v1.fNetwork v1.fFleet ((([] : List Reader) ++ v1.fReaders) ++ [(Reader.mk (v1.fNetwork.fPlaces.length : Int) 0 0)]) v1.fShippers v1.fRailways).fShippers)), (ro eRailwayInfo 16 ((Pool.mk v1.fNetwork v1.fFleet ((([] : List Reader) ++ v1.fReaders) ++ [(Reader.mk (v1.fNetwork.fPlaces.length : Int) 0 0)]) v1.fShippers v1.fRailways).fRailways))])]) ⟨EvF.of (Ev.cnd (mv rfl) g41) (FEnt.agg ⟨FEnt.refl, FEnt.refl, FEnt.refl, FEnt.refl, FEnt.refl, FEnt.refl, (FEnt.row 4 lReader rfl), FEnt.refl, FEnt.refl, trivial⟩), trivial⟩ (fleet_CheckPool_ok H φ (Pool.mk v1.fNetwork v1.fFleet ((([] : List Reader) ++ v1.fReaders) ++ [(Reader.mk (v1.fNetwork.fPlaces.length : Int) 0 0)]) v1.fShippers v1.fRailways) _ (gcall_pos ey42 g41)) flat_eqv) ?_
              refine cg rfl rfl rfl rfl rfl (fun g43 => opEql (Ev.cnd (mv rfl) g43) (Ev.const _)) ?_
              refine cq rfl rfl rfl (opOr (mv rfl) (Ev.const _) (fun g44 => (Ev.cnd (mv rfl) g44))) ?_
              refine rn (al [2, 140] [0] rfl rfl rfl (sq ?_))
              refine CodeT.cond ((y39 != 1) || (y42 == 0)) (evBool (mv rfl)) (fun c45 => ?_) (fun c45 => ?_)
              · rw [if_pos c45] at h
                refine cs (cr [0] rfl ?_)
                refine cq rfl rfl rfl (opAssign (Ev.const _)) ?_
                refine rn (al [4] [] rfl rfl rfl (sq ?_))
                refine CodeT.ret ?_
                refine AtX.then_ret ?_
                refine AtX.ret' (bv false) (ResOK.one Try.results9 rfl) [] [] trivial rfl ?_
                obtain rfl := Option.some.inj h
                exact ⟨rfl, rfl⟩
              · rw [if_neg (bne_true c45)] at h
                refine CodeT.skip ?_
                refine al [2] [0] rfl rfl rfl ?_
                refine sq (cs (cs (cr [0] rfl ?_)))
                refine cq rfl rfl rfl (opAssign (Ev.const _)) ?_
                refine rn (al [2, 10] [0] rfl rfl rfl (sq ?_))
                refine CodeT.join (fun z : Unit => (law09_FleetPoolParts_j46 φ)) r (fun z => ⟨Slots.of [], []⟩) (fun z h => ?_) (fun hJ46 => ?_)
                · replace h : (law09_FleetPoolParts_j46 φ) = some r := h
                  unfold law09_FleetPoolParts_j46 at h
                  refine al [] [] rfl rfl rfl ?_
                  refine sq (cs (cr [0] rfl ?_))
                  refine cq rfl rfl rfl (opAssign (Ev.const _)) ?_
                  refine rn (al [4] [] rfl rfl rfl (sq ?_))
                  refine CodeT.ret ?_
                  refine AtX.ret' (bv true) (ResOK.one Try.results9 rfl) [] [] trivial rfl ?_
                  obtain rfl := Option.some.inj h
                  exact ⟨rfl, rfl⟩
                · refine CodeT.block ?_
                  refine CodeT.to (CodeT.loop (fun n (z : Int) => law09_FleetPoolParts_L48 φ v1 (law09_FleetPoolParts_j46 φ) n z) r (fun z => ⟨Slots.of [(2, (eqv (.pointer (some ⟨b3, 0, none⟩)))), (10, (iv .i64 z))], [(box b3 61 (ePool v1))]⟩) (fun z => rfl) (fun n48 v47 ih48 h => ?_) φ 0 h) [0] (sl rfl) (ol rfl) rfl
                  replace h : law09_FleetPoolParts_L48 φ v1 (law09_FleetPoolParts_j46 φ) (n48 + 1) v47 = some r := h
                  rw [law09_FleetPoolParts_L48] at h
                  refine cs (cs (cr [0, 1, 2, 3, 4, 5] rfl ?_))
                  refine cq rfl rfl rfl (opMove (mv rfl)) ?_
                  refine cq rfl rfl rfl (opFieldP (fo61_0 H) (mv rfl)) ?_
                  refine cq rfl rfl rfl (opFieldP (fo56_0 H) (mv rfl)) ?_
                  refine cq rfl rfl rfl (opLoad1 (tl53 H) ((Pt.box 0 (mv rfl) rfl rfl).take 1 (cs' := [(ro ePlace 3 v1.fNetwork.fPlaces)]) rfl)) ?_
                  refine cq rfl rfl rfl (opLenR (il53 H) (mv rfl)) ?_
                  refine cq rfl rfl rfl (opLss (mv rfl) (mv rfl)) ?_
                  refine rn (al [2, 10, 146] [0] rfl rfl rfl (sq ?_))
                  refine CodeT.cond (decide (v47 < (v1.fNetwork.fPlaces.length : Int))) (evBool (mv rfl)) (fun c49 => ?_) (fun c49 => ?_)
                  · rw [if_pos c49] at h
                    refine CodeT.skip ?_
                    refine al [2, 10] [0] rfl rfl rfl ?_
                    refine sq (cs ?_)
                    refine CodeT.block ?_
                    refine cs (cr [0, 1, 2, 3, 4, 5, 6, 7] rfl ?_)
                    refine cq rfl rfl rfl (opFieldP (fo61_0 H) (mv rfl)) ?_
                    refine cq rfl rfl rfl (opFieldP (fo56_0 H) (mv rfl)) ?_
                    refine cq rfl rfl rfl (opLoad1 (tl53 H) ((Pt.box 0 (mv rfl) rfl rfl).take 1 (cs' := [(ro ePlace 3 v1.fNetwork.fPlaces)]) rfl)) ?_
                    refine cq rfl rfl rfl (opMove (mv rfl)) ?_
                    refine ckE h fun h50 h => ?_
                    refine cq rfl rfl rfl (opIndexR (e := ePlace) (y := (gt v1.fNetwork.fPlaces v47)) (ix53 H) (mv rfl) (mv rfl) (h50).1 (gt_some h50)) ?_
                    refine cq rfl rfl rfl (opFieldRT (fo77_0 H) (mv rfl) (cs' := [(iv .i64 ((gt v1.fNetwork.fPlaces v47).fKind))]) 1 rfl) ?_
                    refine cq rfl rfl rfl (opLoad1 (tl3 H) (Pt.rop (mv rfl))) ?_
                    refine cq rfl rfl rfl (opNeq (mv rfl) (Ev.const _)) ?_
                    refine rn (al [2, 10, 156] [0] rfl rfl rfl (sq ?_))
                    refine CodeT.cond ((gt v1.fNetwork.fPlaces v47).fKind != 4) (evBool (mv rfl)) (fun c51 => ?_) (fun c51 => ?_)
                    · rw [if_pos c51] at h
                      refine cs (cr [0, 1, 2] rfl ?_)
                      refine RunOps.cons_q (agg (ePool v1)) rfl rfl rfl (opLoadN (tl61 H) ((Pt.box 0 (mv rfl) rfl rfl).take 9 (cs' := (ePool v1)) rfl)) ?_
                      refine RunOps.cons rfl rfl rfl (opAlloc [.slice none 0 0, .slice none 0 0, .slice none 0 0, .slice none 0 0, .slice none 0 0, .slice none 0 0, .slice none 0 0, .slice none 0 0, .slice none 0 0] (ze61 H) rfl fun b52 => ?_)
                      refine RunOps.cons rfl rfl rfl (opStore 1 (cells := [(eqv (.slice none 0 0)), (eqv (.slice none 0 0)), (eqv (.slice none 0 0)), (eqv (.slice none 0 0)), (eqv (.slice none 0 0)), (eqv (.slice none 0 0)), (eqv (.slice none 0 0)), (eqv (.slice none 0 0)), (eqv (.slice none 0 0))]) (cs := (ePool v1)) (out := (ePool v1)) (tl61 H) (mv rfl) (Ce.agg (mv rfl)) rfl rfl (Nat.le_of_ble_eq_true rfl) rfl ?_)
                      refine rn (al [2, 10, 11] [0, 1] rfl rfl rfl (sq (cs (cr [0, 1, 2, 3, 4, 5, 6, 7, 8, 9] rfl ?_))))
                      refine RunOps.cons rfl rfl rfl (opBuildSlice (e := eShipper) ([] : List Shipper) (sl58 H) lShipper rfl (by decide) trivial fun sv53 => ?_)
                      refine cq rfl rfl rfl (opFieldP (fo61_3 H) (mv rfl)) ?_
                      refine cq rfl rfl rfl (opLoad1 (tl58 H) ((Pt.box 0 (mv rfl) rfl rfl).take 1 (cs' := [(ro eShipper 1 v1.fShippers)]) rfl)) ?_
                      refine ckE h fun h54 h => ?_
                      refine RunOps.cons rfl rfl rfl (opAppend 2 (l := ([] : List Shipper)) (m := v1.fShippers) (sl58 H) lShipper (mv rfl) rfl (Src.ro lShipper (by decide) (mv rfl)) h54 (fits_max (by decide) h54) fun sv55 => ?_)
                      refine cq rfl rfl rfl (opMove (mv rfl)) ?_
                      refine cq rfl rfl rfl (opBuild [.int .i64 0] [(0, [(iv .i64 v47)])] (out := [(iv .i64 v47)]) (ze79 H) rfl (tb79 H) ⟨(tp79_0 H), Nat.le_of_ble_eq_true rfl, (Ce.one (mv rfl) (One.eqv rfl)), trivial⟩ rfl) ?_
                      refine RunOps.cons rfl rfl rfl (opBuildSlice (e := eShipper) [(Shipper.mk v47)] (sl58 H) lShipper rfl (by decide) ⟨rfl, (Ce.agg (mv rfl)), trivial⟩ fun sv56 => ?_)
                      refine ckE h fun h57 h => ?_
                      refine RunOps.cons rfl rfl rfl (opAppend 2 (l := (([] : List Shipper) ++ v1.fShippers)) (m := [(Shipper.mk v47)]) (sl58 H) lShipper (mv rfl) rfl (Src.row 3 (mv rfl) rfl) h57 (fits_max (by decide) h57) fun sv58 => ?_)
                      refine cq rfl rfl rfl (opFieldP (fo61_3 H) (mv rfl)) ?_
                      refine RunOps.cons rfl rfl rfl (OpT.own1 2 rfl fun hs59 => opStore 1 (cells := (ePool v1)) (cs := [(eqv sv58)]) (out := [(ro ePlace 3 v1.fNetwork.fPlaces), (ro eEdge 5 v1.fNetwork.fEdges), (ro eWagonType 8 v1.fFleet.fTypes), (ro eWagon 5 v1.fFleet.fWagons), (ro eSwap 3 v1.fFleet.fSwaps), (ro eWash 3 v1.fFleet.fWashes), (ro eReader 3 v1.fReaders), (eqv sv58), (ro eRailwayInfo 16 v1.fRailways)]) (tl58 H) (mv rfl) (Ce.one (mv rfl) (One.eqv hs59)) rfl rfl (Nat.le_of_ble_eq_true rfl) rfl ?_)
                      refine rn (al [11] [1, 2] rfl rfl rfl (sq (cs (cr [0, 1, 2, 3] rfl ?_))))
                      refine RunOps.cons_q (agg [(ro ePlace 3 v1.fNetwork.fPlaces), (ro eEdge 5 v1.fNetwork.fEdges), (ro eWagonType 8 v1.fFleet.fTypes), (ro eWagon 5 v1.fFleet.fWagons), (ro eSwap 3 v1.fFleet.fSwaps), (ro eWash 3 v1.fFleet.fWashes), (ro eReader 3 v1.fReaders), (eqv sv58), (ro eRailwayInfo 16 v1.fRailways)]) rfl rfl rfl (opLoadN (tl61 H) ((Pt.box 0 (mv rfl) rfl rfl).take 9 (cs' := [(ro ePlace 3 v1.fNetwork.fPlaces), (ro eEdge 5 v1.fNetwork.fEdges), (ro eWagonType 8 v1.fFleet.fTypes), (ro eWagon 5 v1.fFleet.fWagons), (ro eSwap 3 v1.fFleet.fSwaps), (ro eWash 3 v1.fFleet.fWashes), (ro eReader 3 v1.fReaders), (eqv sv58), (ro eRailwayInfo 16 v1.fRailways)]) rfl)) ?_
                      refine bindE h fun y60 ey60 h => ?_
                      refine cq rfl rfl rfl (opCallQ (fnok23 H) (args := [(agg [(ro ePlace 3 ((Pool.mk v1.fNetwork v1.fFleet v1.fReaders ((([] : List Shipper) ++ v1.fShippers) ++ [(Shipper.mk v47)]) v1.fRailways).fNetwork.fPlaces)), (ro eEdge 5 ((Pool.mk v1.fNetwork v1.fFleet v1.fReaders ((([] : List Shipper) ++ v1.fShippers) ++ [(Shipper.mk v47)]) v1.fRailways).fNetwork.fEdges)), (ro eWagonType 8 ((Pool.mk v1.fNetwork v1.fFleet v1.fReaders ((([] : List Shipper) ++ v1.fShippers) ++ [(Shipper.mk v47)]) v1.fRailways).fFleet.fTypes)), (ro eWagon 5 ((Pool.mk v1.fNetwork v1.fFleet v1.fReaders ((([] : List Shipper) ++ v1.fShippers) ++ [(Shipper.mk v47)]) v1.fRailways).fFleet.fWagons)), (ro eSwap 3 ((Pool.mk v1.fNetwork v1.fFleet v1.fReaders ((([] : List Shipper) ++ v1.fShippers) ++ [(Shipper.mk v47)]) v1.fRailways).fFleet.fSwaps)), (ro eWash 3 ((Pool.mk v1.fNetwork v1.fFleet v1.fReaders ((([] : List Shipper) ++ v1.fShippers) ++ [(Shipper.mk v47)]) v1.fRailways).fFleet.fWashes)), (ro eReader 3 ((Pool.mk v1.fNetwork v1.fFleet v1.fReaders ((([] : List Shipper) ++ v1.fShippers) ++ [(Shipper.mk v47)]) v1.fRailways).fReaders)), (ro eShipper 1 ((Pool.mk v1.fNetwork v1.fFleet v1.fReaders ((([] : List Shipper) ++ v1.fShippers) ++ [(Shipper.mk v47)]) v1.fRailways).fShippers)), (ro eRailwayInfo 16 ((Pool.mk v1.fNetwork v1.fFleet v1.fReaders ((([] : List Shipper) ++ v1.fShippers) ++ [(Shipper.mk v47)]) v1.fRailways).fRailways))])]) ⟨EvF.of (mv rfl) (FEnt.agg ⟨FEnt.refl, FEnt.refl, FEnt.refl, FEnt.refl, FEnt.refl, FEnt.refl, FEnt.refl, (FEnt.row 1 lShipper rfl), FEnt.refl, trivial⟩), trivial⟩ (fleet_CheckPool_ok H φ (Pool.mk v1.fNetwork v1.fFleet v1.fReaders ((([] : List Shipper) ++ v1.fShippers) ++ [(Shipper.mk v47)]) v1.fRailways) _ ey60) flat_eqv) ?_
                      refine cq rfl rfl rfl (opNeq (mv rfl) (Ev.const _)) ?_
                      refine cq rfl rfl rfl (opAssign (mv rfl)) ?_
                      refine rn (al [4] [] rfl rfl rfl (sq ?_))
                      refine CodeT.ret ?_
                      refine AtX.in_ret ?_
                      refine AtX.then_ret ?_
                      refine AtX.then_ret ?_
                      refine AtX.in_ret ?_
                      refine AtX.then_ret ?_
                      refine AtX.ret' (bv (y60 != 0)) (ResOK.one Try.results9 rfl) [] [] trivial rfl ?_
                      obtain rfl := Option.some.inj h
                      exact ⟨rfl, rfl⟩
                    · rw [if_neg (bne_true c51)] at h
                      refine CodeT.skip ?_
                      refine AtX.in_normal ?_
                      refine al [2, 10] [0] rfl rfl rfl ?_
                      refine sq (cr [0, 1, 2] rfl ?_)
                      refine cq rfl rfl rfl (opMove (mv rfl)) ?_
                      refine cq rfl rfl rfl (opAdd (mv rfl) (Ev.const _)) ?_
                      refine cq rfl rfl rfl (opAssign (mv rfl)) ?_
                      refine rn ?_
                      exact AtX.to (ih48 (W (v47 + 1)) h) [0] (sl rfl) (ol rfl) rfl
                  · rw [if_neg (bne_true c49)] at h
                    refine CodeT.exit ?_
                    refine AtX.then_exit ?_
                    refine AtX.then_exit ?_
                    refine AtX.in_hit ?_
                    exact AtX.to (hJ46 () h) [] trivial trivial rfl
            · refine CodeT.draw (QR := [(1, (eqv (.pointer (some ⟨b3, 6, none⟩)))), (2, (ro eReader 3 v1.fReaders)), (4, (eqv (.pointer (some ⟨b3, 0, none⟩)))), (5, (eqv (.pointer (some ⟨b3, 0, none⟩)))), (6, (ro ePlace 3 v1.fNetwork.fPlaces)), (7, (iv .i64 (v1.fNetwork.fPlaces.length : Int))), (8, (agg [(iv .i64 (v1.fNetwork.fPlaces.length : Int)), (iv .i64 0), (iv .i64 0)]))]) (tab := [(some 121, []), (some 122, []), (some 123, [1]), (some 124, [0, 2]), (some 125, []), (some 126, [4]), (some 127, [5]), (some 128, [6]), (some 129, [7]), (some 130, [8]), (some 131, [3, 9, 3]), (some 132, [0, 1, 2, 3, 4, 5, 6, 7, 8, 9, 10]), (none, [11, 10, 10, 0, 1, 2, 3, 4, 5, 6, 7, 8, 9, 10])]) (mixed H) ?_
              refine Reg.intro [0, 9] [] (by kernel_rfl) rfl ⟨rfl, rfl, rfl, rfl, rfl, rfl, rfl, trivial⟩ ⟨(fun _ => ⟨_, rfl, (opFieldP (fo61_2 H) (mv rfl))⟩), (fun _ => ⟨_, rfl, (opLoad1 (tl57 H) ((Pt.box 0 (mv rfl) rfl rfl).take 1 (cs' := [(ro eReader 3 v1.fReaders)]) rfl))⟩), (fun _ => ⟨_, rfl, (opFieldP (fo61_0 H) (mv rfl))⟩), (fun _ => ⟨_, rfl, (opFieldP (fo56_0 H) (mv rfl))⟩), (fun _ => ⟨_, rfl, (opLoad1 (tl53 H) ((Pt.box 0 (mv rfl) rfl rfl).take 1 (cs' := [(ro ePlace 3 v1.fNetwork.fPlaces)]) rfl))⟩), (fun _ => ⟨_, rfl, (opLenR (il53 H) (mv rfl))⟩), (fun _ => ⟨_, rfl, (opBuild [.int .i64 0, .int .i64 0, .int .i64 0] [(0, [(iv .i64 (v1.fNetwork.fPlaces.length : Int))])] (out := [(iv .i64 (v1.fNetwork.fPlaces.length : Int)), (iv .i64 0), (iv .i64 0)]) (ze75 H) rfl (tb75 H) ⟨(tp75_0 H), Nat.le_of_ble_eq_true rfl, (Ce.one (mv rfl) (One.eqv rfl)), trivial⟩ rfl)⟩), trivial⟩ ⟨⟨_, rfl, rfl, rfl, rfl, opBuildSlice (e := eReader) ([] : List Reader) (sl57 H) lReader rfl (by decide) trivial fun sv64 => ⟨[], rfl, ?_⟩⟩, ⟨_, rfl, rfl, rfl, rfl, opBuildSlice (e := eReader) [(Reader.mk (v1.fNetwork.fPlaces.length : Int) 0 0)] (sl57 H) lReader rfl (by decide) ⟨rfl, (Ce.agg (mv rfl)), trivial⟩ fun sv93 => ⟨[], rfl, ?_⟩⟩, trivial⟩ (fun hc => Bool.noConfusion (hc : false = true))
              · refine ckE h fun h65 h => ?_
                refine Reg.intro [3, 9] [] (by kernel_rfl) rfl ⟨rfl, rfl, rfl, rfl, rfl, rfl, rfl, trivial⟩ ⟨(fun _ => ⟨_, rfl, (opFieldP (fo61_2 H) (mv rfl))⟩), (fun _ => ⟨_, rfl, (opLoad1 (tl57 H) ((Pt.box 0 (mv rfl) rfl rfl).take 1 (cs' := [(ro eReader 3 v1.fReaders)]) rfl))⟩), (fun _ => ⟨_, rfl, (opFieldP (fo61_0 H) (mv rfl))⟩), (fun _ => ⟨_, rfl, (opFieldP (fo56_0 H) (mv rfl))⟩), (fun _ => ⟨_, rfl, (opLoad1 (tl53 H) ((Pt.box 0 (mv rfl) rfl rfl).take 1 (cs' := [(ro ePlace 3 v1.fNetwork.fPlaces)]) rfl))⟩), (fun _ => ⟨_, rfl, (opLenR (il53 H) (mv rfl))⟩), (fun _ => ⟨_, rfl, (opBuild [.int .i64 0, .int .i64 0, .int .i64 0] [(0, [(iv .i64 (v1.fNetwork.fPlaces.length : Int))])] (out := [(iv .i64 (v1.fNetwork.fPlaces.length : Int)), (iv .i64 0), (iv .i64 0)]) (ze75 H) rfl (tb75 H) ⟨(tp75_0 H), Nat.le_of_ble_eq_true rfl, (Ce.one (mv rfl) (One.eqv rfl)), trivial⟩ rfl)⟩), trivial⟩ ⟨⟨_, rfl, rfl, rfl, rfl, opAppend 4 (l := ([] : List Reader)) (m := v1.fReaders) (sl57 H) lReader (mv rfl) rfl (Src.ro lReader (by decide) (mv rfl)) h65 (fits_max (by decide) h65) fun sv69 => ⟨[], rfl, ?_⟩⟩, ⟨_, rfl, rfl, rfl, rfl, opBuildSlice (e := eReader) [(Reader.mk (v1.fNetwork.fPlaces.length : Int) 0 0)] (sl57 H) lReader rfl (by decide) ⟨rfl, (Ce.agg (mv rfl)), trivial⟩ fun sv81 => ⟨[], rfl, ?_⟩⟩, trivial⟩ (fun hc => Bool.noConfusion (hc : false = true))
                · refine Reg.intro [9] [1, 2] (by kernel_rfl) rfl ⟨rfl, rfl, rfl, rfl, rfl, rfl, rfl, trivial⟩ ⟨(fun hn => Bool.noConfusion (hn : true = false)), (fun hn => Bool.noConfusion (hn : true = false)), (fun _ => ⟨_, rfl, (opFieldP (fo61_0 H) (mv rfl))⟩), (fun _ => ⟨_, rfl, (opFieldP (fo56_0 H) (mv rfl))⟩), (fun _ => ⟨_, rfl, (opLoad1 (tl53 H) ((Pt.box 0 (mv rfl) rfl rfl).take 1 (cs' := [(ro ePlace 3 v1.fNetwork.fPlaces)]) rfl))⟩), (fun _ => ⟨_, rfl, (opLenR (il53 H) (mv rfl))⟩), (fun _ => ⟨_, rfl, (opBuild [.int .i64 0, .int .i64 0, .int .i64 0] [(0, [(iv .i64 (v1.fNetwork.fPlaces.length : Int))])] (out := [(iv .i64 (v1.fNetwork.fPlaces.length : Int)), (iv .i64 0), (iv .i64 0)]) (ze75 H) rfl (tb75 H) ⟨(tp75_0 H), Nat.le_of_ble_eq_true rfl, (Ce.one (mv rfl) (One.eqv rfl)), trivial⟩ rfl)⟩), trivial⟩ ⟨⟨_, rfl, rfl, rfl, rfl, opBuildSlice (e := eReader) [(Reader.mk (v1.fNetwork.fPlaces.length : Int) 0 0)] (sl57 H) lReader rfl (by decide) ⟨rfl, (Ce.agg (mv rfl)), trivial⟩ fun sv72 => ⟨[], rfl, ?_⟩⟩, trivial⟩ (fun hc => Bool.noConfusion (hc : false = true))
                  refine ckE h fun h73 h => ?_
                  refine Reg.intro [10] [1, 2, 4, 5, 6, 7, 8] (by kernel_rfl) rfl ⟨rfl, rfl, rfl, rfl, rfl, rfl, rfl, trivial⟩ ⟨(fun hn => Bool.noConfusion (hn : true = false)), (fun hn => Bool.noConfusion (hn : true = false)), (fun hn => Bool.noConfusion (hn : true = false)), (fun hn => Bool.noConfusion (hn : true = false)), (fun hn => Bool.noConfusion (hn : true = false)), (fun hn => Bool.noConfusion (hn : true = false)), (fun hn => Bool.noConfusion (hn : true = false)), trivial⟩ ⟨⟨_, rfl, rfl, rfl, rfl, opAppend 4 (l := (([] : List Reader) ++ v1.fReaders)) (m := [(Reader.mk (v1.fNetwork.fPlaces.length : Int) 0 0)]) (sl57 H) lReader (mv rfl) rfl (Src.row 5 (mv rfl) rfl) h73 (fits_max (by decide) h73) fun sv76 => ⟨[(11, (eqv (.pointer (some ⟨b36, 6, none⟩))))], rfl, ?_⟩⟩, trivial⟩ (fun hc => Bool.noConfusion (hc : false = true))
                  refine Reg.intro [12] [1, 2, 4, 5, 6, 7, 8] (by kernel_rfl) rfl ⟨rfl, rfl, rfl, rfl, rfl, rfl, rfl, rfl, trivial⟩ ⟨(fun hn => Bool.noConfusion (hn : true = false)), (fun hn => Bool.noConfusion (hn : true = false)), (fun hn => Bool.noConfusion (hn : true = false)), (fun hn => Bool.noConfusion (hn : true = false)), (fun hn => Bool.noConfusion (hn : true = false)), (fun hn => Bool.noConfusion (hn : true = false)), (fun hn => Bool.noConfusion (hn : true = false)), (fun _ => ⟨_, rfl, (opFieldP (fo61_2 H) (mv rfl))⟩), trivial⟩ ⟨⟨_, rfl, rfl, rfl, rfl, OpT.own1 4 rfl fun hs79 => opStore 3 (cells := (ePool v1)) (cs := [(eqv sv76)]) (out := [(ro ePlace 3 v1.fNetwork.fPlaces), (ro eEdge 5 v1.fNetwork.fEdges), (ro eWagonType 8 v1.fFleet.fTypes), (ro eWagon 5 v1.fFleet.fWagons), (ro eSwap 3 v1.fFleet.fSwaps), (ro eWash 3 v1.fFleet.fWashes), (eqv sv76), (ro eShipper 1 v1.fShippers), (ro eRailwayInfo 16 v1.fRailways)]) (tl57 H) (mv rfl) (Ce.one (mv rfl) (One.eqv hs79)) rfl rfl (Nat.le_of_ble_eq_true rfl) rfl ⟨[], rfl, ?_⟩⟩, trivial⟩ (fun hc => Bool.noConfusion (hc : false = true))
                  refine Reg.intro [] [1, 2, 4, 5, 6, 7, 8, 11] (by kernel_rfl) rfl ⟨rfl, rfl, rfl, rfl, rfl, rfl, rfl, rfl, trivial⟩ ⟨(fun hn => Bool.noConfusion (hn : true = false)), (fun hn => Bool.noConfusion (hn : true = false)), (fun hn => Bool.noConfusion (hn : true = false)), (fun hn => Bool.noConfusion (hn : true = false)), (fun hn => Bool.noConfusion (hn : true = false)), (fun hn => Bool.noConfusion (hn : true = false)), (fun hn => Bool.noConfusion (hn : true = false)), (fun hn => Bool.noConfusion (hn : true = false)), trivial⟩ trivial (fun _ => ?_)
                  exact AtX.to (hJ38 sv76 h) [0, 1, 2, 3, 4] (sl rfl) (ol rfl) rfl
                · refine Reg.intro [3] [4, 5, 6, 7, 8] (by kernel_rfl) rfl ⟨rfl, rfl, rfl, rfl, rfl, rfl, rfl, trivial⟩ ⟨(fun _ => ⟨_, rfl, (opFieldP (fo61_2 H) (mv rfl))⟩), (fun _ => ⟨_, rfl, (opLoad1 (tl57 H) ((Pt.box 0 (mv rfl) rfl rfl).take 1 (cs' := [(ro eReader 3 v1.fReaders)]) rfl))⟩), (fun hn => Bool.noConfusion (hn : true = false)), (fun hn => Bool.noConfusion (hn : true = false)), (fun hn => Bool.noConfusion (hn : true = false)), (fun hn => Bool.noConfusion (hn : true = false)), (fun hn => Bool.noConfusion (hn : true = false)), trivial⟩ ⟨⟨_, rfl, rfl, rfl, rfl, opAppend 4 (l := ([] : List Reader)) (m := v1.fReaders) (sl57 H) lReader (mv rfl) rfl (Src.ro lReader (by decide) (mv rfl)) h65 (fits_max (by decide) h65) fun sv84 => ⟨[], rfl, ?_⟩⟩, trivial⟩ (fun hc => Bool.noConfusion (hc : false = true))
                  refine ckE h fun h85 h => ?_
                  refine Reg.intro [10] [1, 2, 4, 5, 6, 7, 8] (by kernel_rfl) rfl ⟨rfl, rfl, rfl, rfl, rfl, rfl, rfl, trivial⟩ ⟨(fun hn => Bool.noConfusion (hn : true = false)), (fun hn => Bool.noConfusion (hn : true = false)), (fun hn => Bool.noConfusion (hn : true = false)), (fun hn => Bool.noConfusion (hn : true = false)), (fun hn => Bool.noConfusion (hn : true = false)), (fun hn => Bool.noConfusion (hn : true = false)), (fun hn => Bool.noConfusion (hn : true = false)), trivial⟩ ⟨⟨_, rfl, rfl, rfl, rfl, opAppend 4 (l := (([] : List Reader) ++ v1.fReaders)) (m := [(Reader.mk (v1.fNetwork.fPlaces.length : Int) 0 0)]) (sl57 H) lReader (mv rfl) rfl (Src.row 5 (mv rfl) rfl) h85 (fits_max (by decide) h85) fun sv88 => ⟨[(11, (eqv (.pointer (some ⟨b36, 6, none⟩))))], rfl, ?_⟩⟩, trivial⟩ (fun hc => Bool.noConfusion (hc : false = true))
                  refine Reg.intro [12] [1, 2, 4, 5, 6, 7, 8] (by kernel_rfl) rfl ⟨rfl, rfl, rfl, rfl, rfl, rfl, rfl, rfl, trivial⟩ ⟨(fun hn => Bool.noConfusion (hn : true = false)), (fun hn => Bool.noConfusion (hn : true = false)), (fun hn => Bool.noConfusion (hn : true = false)), (fun hn => Bool.noConfusion (hn : true = false)), (fun hn => Bool.noConfusion (hn : true = false)), (fun hn => Bool.noConfusion (hn : true = false)), (fun hn => Bool.noConfusion (hn : true = false)), (fun _ => ⟨_, rfl, (opFieldP (fo61_2 H) (mv rfl))⟩), trivial⟩ ⟨⟨_, rfl, rfl, rfl, rfl, OpT.own1 4 rfl fun hs91 => opStore 3 (cells := (ePool v1)) (cs := [(eqv sv88)]) (out := [(ro ePlace 3 v1.fNetwork.fPlaces), (ro eEdge 5 v1.fNetwork.fEdges), (ro eWagonType 8 v1.fFleet.fTypes), (ro eWagon 5 v1.fFleet.fWagons), (ro eSwap 3 v1.fFleet.fSwaps), (ro eWash 3 v1.fFleet.fWashes), (eqv sv88), (ro eShipper 1 v1.fShippers), (ro eRailwayInfo 16 v1.fRailways)]) (tl57 H) (mv rfl) (Ce.one (mv rfl) (One.eqv hs91)) rfl rfl (Nat.le_of_ble_eq_true rfl) rfl ⟨[], rfl, ?_⟩⟩, trivial⟩ (fun hc => Bool.noConfusion (hc : false = true))
                  refine Reg.intro [] [1, 2, 4, 5, 6, 7, 8, 11] (by kernel_rfl) rfl ⟨rfl, rfl, rfl, rfl, rfl, rfl, rfl, rfl, trivial⟩ ⟨(fun hn => Bool.noConfusion (hn : true = false)), (fun hn => Bool.noConfusion (hn : true = false)), (fun hn => Bool.noConfusion (hn : true = false)), (fun hn => Bool.noConfusion (hn : true = false)), (fun hn => Bool.noConfusion (hn : true = false)), (fun hn => Bool.noConfusion (hn : true = false)), (fun hn => Bool.noConfusion (hn : true = false)), (fun hn => Bool.noConfusion (hn : true = false)), trivial⟩ trivial (fun _ => ?_)
                  exact AtX.to (hJ38 sv88 h) [0, 1, 2, 3, 4] (sl rfl) (ol rfl) rfl
              · refine Reg.intro [0] [4, 5, 6, 7, 8] (by kernel_rfl) rfl ⟨rfl, rfl, rfl, rfl, rfl, rfl, rfl, trivial⟩ ⟨(fun _ => ⟨_, rfl, (opFieldP (fo61_2 H) (mv rfl))⟩), (fun _ => ⟨_, rfl, (opLoad1 (tl57 H) ((Pt.box 0 (mv rfl) rfl rfl).take 1 (cs' := [(ro eReader 3 v1.fReaders)]) rfl))⟩), (fun hn => Bool.noConfusion (hn : true = false)), (fun hn => Bool.noConfusion (hn : true = false)), (fun hn => Bool.noConfusion (hn : true = false)), (fun hn => Bool.noConfusion (hn : true = false)), (fun hn => Bool.noConfusion (hn : true = false)), trivial⟩ ⟨⟨_, rfl, rfl, rfl, rfl, opBuildSlice (e := eReader) ([] : List Reader) (sl57 H) lReader rfl (by decide) trivial fun sv96 => ⟨[], rfl, ?_⟩⟩, trivial⟩ (fun hc => Bool.noConfusion (hc : false = true))
                refine ckE h fun h97 h => ?_
                refine Reg.intro [3] [4, 5, 6, 7, 8] (by kernel_rfl) rfl ⟨rfl, rfl, rfl, rfl, rfl, rfl, rfl, trivial⟩ ⟨(fun _ => ⟨_, rfl, (opFieldP (fo61_2 H) (mv rfl))⟩), (fun _ => ⟨_, rfl, (opLoad1 (tl57 H) ((Pt.box 0 (mv rfl) rfl rfl).take 1 (cs' := [(ro eReader 3 v1.fReaders)]) rfl))⟩), (fun hn => Bool.noConfusion (hn : true = false)), (fun hn => Bool.noConfusion (hn : true = false)), (fun hn => Bool.noConfusion (hn : true = false)), (fun hn => Bool.noConfusion (hn : true = false)), (fun hn => Bool.noConfusion (hn : true = false)), trivial⟩ ⟨⟨_, rfl, rfl, rfl, rfl, opAppend 5 (l := ([] : List Reader)) (m := v1.fReaders) (sl57 H) lReader (mv rfl) rfl (Src.ro lReader (by decide) (mv rfl)) h97 (fits_max (by decide) h97) fun sv100 => ⟨[], rfl, ?_⟩⟩, trivial⟩ (fun hc => Bool.noConfusion (hc : false = true))
                refine ckE h fun h101 h => ?_
                refine Reg.intro [10] [1, 2, 4, 5, 6, 7, 8] (by kernel_rfl) rfl ⟨rfl, rfl, rfl, rfl, rfl, rfl, rfl, trivial⟩ ⟨(fun hn => Bool.noConfusion (hn : true = false)), (fun hn => Bool.noConfusion (hn : true = false)), (fun hn => Bool.noConfusion (hn : true = false)), (fun hn => Bool.noConfusion (hn : true = false)), (fun hn => Bool.noConfusion (hn : true = false)), (fun hn => Bool.noConfusion (hn : true = false)), (fun hn => Bool.noConfusion (hn : true = false)), trivial⟩ ⟨⟨_, rfl, rfl, rfl, rfl, opAppend 5 (l := (([] : List Reader) ++ v1.fReaders)) (m := [(Reader.mk (v1.fNetwork.fPlaces.length : Int) 0 0)]) (sl57 H) lReader (mv rfl) rfl (Src.row 4 (mv rfl) rfl) h101 (fits_max (by decide) h101) fun sv104 => ⟨[(11, (eqv (.pointer (some ⟨b36, 6, none⟩))))], rfl, ?_⟩⟩, trivial⟩ (fun hc => Bool.noConfusion (hc : false = true))
                refine Reg.intro [12] [1, 2, 4, 5, 6, 7, 8] (by kernel_rfl) rfl ⟨rfl, rfl, rfl, rfl, rfl, rfl, rfl, rfl, trivial⟩ ⟨(fun hn => Bool.noConfusion (hn : true = false)), (fun hn => Bool.noConfusion (hn : true = false)), (fun hn => Bool.noConfusion (hn : true = false)), (fun hn => Bool.noConfusion (hn : true = false)), (fun hn => Bool.noConfusion (hn : true = false)), (fun hn => Bool.noConfusion (hn : true = false)), (fun hn => Bool.noConfusion (hn : true = false)), (fun _ => ⟨_, rfl, (opFieldP (fo61_2 H) (mv rfl))⟩), trivial⟩ ⟨⟨_, rfl, rfl, rfl, rfl, OpT.own1 5 rfl fun hs107 => opStore 3 (cells := (ePool v1)) (cs := [(eqv sv104)]) (out := [(ro ePlace 3 v1.fNetwork.fPlaces), (ro eEdge 5 v1.fNetwork.fEdges), (ro eWagonType 8 v1.fFleet.fTypes), (ro eWagon 5 v1.fFleet.fWagons), (ro eSwap 3 v1.fFleet.fSwaps), (ro eWash 3 v1.fFleet.fWashes), (eqv sv104), (ro eShipper 1 v1.fShippers), (ro eRailwayInfo 16 v1.fRailways)]) (tl57 H) (mv rfl) (Ce.one (mv rfl) (One.eqv hs107)) rfl rfl (Nat.le_of_ble_eq_true rfl) rfl ⟨[], rfl, ?_⟩⟩, trivial⟩ (fun hc => Bool.noConfusion (hc : false = true))
                refine Reg.intro [] [1, 2, 4, 5, 6, 7, 8, 11] (by kernel_rfl) rfl ⟨rfl, rfl, rfl, rfl, rfl, rfl, rfl, rfl, trivial⟩ ⟨(fun hn => Bool.noConfusion (hn : true = false)), (fun hn => Bool.noConfusion (hn : true = false)), (fun hn => Bool.noConfusion (hn : true = false)), (fun hn => Bool.noConfusion (hn : true = false)), (fun hn => Bool.noConfusion (hn : true = false)), (fun hn => Bool.noConfusion (hn : true = false)), (fun hn => Bool.noConfusion (hn : true = false)), (fun hn => Bool.noConfusion (hn : true = false)), trivial⟩ trivial (fun _ => ?_)
                exact AtX.to (hJ38 sv104 h) [0, 1, 2, 3, 5] (sl rfl) (ol rfl) rfl
          · refine CodeT.block ?_
            refine CodeT.to (CodeT.loop (fun n (z : Int) => law09_FleetPoolParts_L109 φ v1 (law09_FleetPoolParts_j27 φ v1 v2) n z) r (fun z => ⟨Slots.of [(1, (iv .i64 v2)), (2, (eqv (.pointer (some ⟨b3, 0, none⟩)))), (6, (iv .i64 z))], [(box b3 61 (ePool v1))]⟩) (fun z => rfl) (fun n109 v108 ih109 h => ?_) φ 0 h) [0] (sl rfl) (ol rfl) rfl
            replace h : law09_FleetPoolParts_L109 φ v1 (law09_FleetPoolParts_j27 φ v1 v2) (n109 + 1) v108 = some r := h
            rw [law09_FleetPoolParts_L109] at h
            refine cs (cs (cr [0, 1, 2, 3, 4, 5] rfl ?_))
            refine cq rfl rfl rfl (opMove (mv rfl)) ?_
            refine cq rfl rfl rfl (opFieldP (fo61_1 H) (mv rfl)) ?_
            refine cq rfl rfl rfl (opFieldP (fo27_1 H) (mv rfl)) ?_
            refine cq rfl rfl rfl (opLoad1 (tl23 H) ((Pt.box 0 (mv rfl) rfl rfl).take 1 (cs' := [(ro eWagon 5 v1.fFleet.fWagons)]) rfl)) ?_
            refine cq rfl rfl rfl (opLenR (il23 H) (mv rfl)) ?_
            refine cq rfl rfl rfl (opLss (mv rfl) (mv rfl)) ?_
            refine rn (al [1, 2, 6, 69] [0] rfl rfl rfl (sq ?_))
            refine CodeT.cond (decide (v108 < (v1.fFleet.fWagons.length : Int))) (evBool (mv rfl)) (fun c110 => ?_) (fun c110 => ?_)
            · rw [if_pos c110] at h
              refine CodeT.skip ?_
              refine al [1, 2, 6] [0] rfl rfl rfl ?_
              refine sq (cs ?_)
              refine CodeT.block ?_
              refine cs ?_
              refine ckE h fun h111 h => ?_
              refine CodeT.draw (QR := [(0, (eqv (.pointer (some ⟨b3, 2, none⟩)))), (1, (eqv (.pointer (some ⟨b3, 3, none⟩)))), (2, (ro eWagon 5 v1.fFleet.fWagons)), (3, (iv .i64 v108)), (4, (rop (eWagon (gt v1.fFleet.fWagons v108)))), (5, (rop [(iv .i64 ((gt v1.fFleet.fWagons v108).fHome))])), (6, (iv .i64 ((gt v1.fFleet.fWagons v108).fHome))), (7, (bv (decide ((gt v1.fFleet.fWagons v108).fHome < 0)))), (8, (bv (decide ((gt v1.fFleet.fWagons v108).fHome < 0)))), (9, (cnd (decide ((gt v1.fFleet.fWagons v108).fHome < 0) = false) (eqv (.pointer (some ⟨b3, 2, none⟩))))), (10, (cnd (decide ((gt v1.fFleet.fWagons v108).fHome < 0) = false) (eqv (.pointer (some ⟨b3, 3, none⟩))))), (11, (cnd (decide ((gt v1.fFleet.fWagons v108).fHome < 0) = false) (ro eWagon 5 v1.fFleet.fWagons))), (12, (cnd (decide ((gt v1.fFleet.fWagons v108).fHome < 0) = false) (iv .i64 v108))), (13, (cnd (decide ((gt v1.fFleet.fWagons v108).fHome < 0) = false) (rop (eWagon (gt v1.fFleet.fWagons v108))))), (14, (cnd (decide ((gt v1.fFleet.fWagons v108).fHome < 0) = false) (rop [(iv .i64 ((gt v1.fFleet.fWagons v108).fHome))]))), (15, (cnd (decide ((gt v1.fFleet.fWagons v108).fHome < 0) = false) (iv .i64 ((gt v1.fFleet.fWagons v108).fHome)))), (16, (cnd (decide ((gt v1.fFleet.fWagons v108).fHome < 0) = false) (eqv (.pointer (some ⟨b3, 0, none⟩))))), (17, (cnd (decide ((gt v1.fFleet.fWagons v108).fHome < 0) = false) (eqv (.pointer (some ⟨b3, 0, none⟩))))), (18, (cnd (decide ((gt v1.fFleet.fWagons v108).fHome < 0) = false) (ro ePlace 3 v1.fNetwork.fPlaces))), (19, (cnd (decide ((gt v1.fFleet.fWagons v108).fHome < 0) = false) (iv .i64 (v1.fNetwork.fPlaces.length : Int)))), (20, (cnd (decide ((gt v1.fFleet.fWagons v108).fHome < 0) = false) (bv (decide ((v1.fNetwork.fPlaces.length : Int) ≤ (gt v1.fFleet.fWagons v108).fHome))))), (21, (bv (decide ((gt v1.fFleet.fWagons v108).fHome < 0) || decide ((v1.fNetwork.fPlaces.length : Int) ≤ (gt v1.fFleet.fWagons v108).fHome))))]) (tab := [(some 72, []), (some 73, [0]), (some 74, [1]), (some 75, []), (some 76, [2, 3]), (some 77, [4]), (some 78, [5]), (some 79, [6]), (some 80, [7]), (some 81, [8]), (some 82, [9, 8]), (some 83, [10, 8]), (some 84, [8]), (some 85, [11, 12, 8]), (some 86, [13, 8]), (some 87, [14, 8]), (some 88, [8]), (some 89, [16, 8]), (some 90, [17, 8]), (some 91, [18, 8]), (some 92, [15, 19, 8]), (some 93, [8, 20])]) (mixed H) ?_
              refine Reg.intro [] [] (by kernel_rfl) rfl ⟨rfl, rfl, rfl, rfl, rfl, rfl, rfl, rfl, rfl, rfl, rfl, rfl, rfl, rfl, rfl, rfl, rfl, rfl, rfl, rfl, rfl, rfl, trivial⟩ ⟨(fun _ => ⟨_, rfl, (opFieldP (fo61_1 H) (mv rfl))⟩), (fun _ => ⟨_, rfl, (opFieldP (fo27_1 H) (mv rfl))⟩), (fun _ => ⟨_, rfl, (opLoad1 (tl23 H) ((Pt.box 0 (mv rfl) rfl rfl).take 1 (cs' := [(ro eWagon 5 v1.fFleet.fWagons)]) rfl))⟩), (fun _ => ⟨_, rfl, (opMove (mv rfl))⟩), (fun _ => ⟨_, rfl, (opIndexR (e := eWagon) (y := (gt v1.fFleet.fWagons v108)) (ix23 H) (mv rfl) (mv rfl) (h111).1 (gt_some h111))⟩), (fun _ => ⟨_, rfl, (opFieldRT (fo47_2 H) (mv rfl) (cs' := [(iv .i64 ((gt v1.fFleet.fWagons v108).fHome))]) 1 rfl)⟩), (fun _ => ⟨_, rfl, (opLoad1 (tl3 H) (Pt.rop (mv rfl)))⟩), (fun _ => ⟨_, rfl, (opLss (mv rfl) (Ev.const _))⟩), (fun _ => ⟨_, rfl, (opMove (mv rfl))⟩), (fun _ => ⟨_, rfl, ⟨(decide ((gt v1.fFleet.fWagons v108).fHome < 0) = false), (eqv (.pointer (some ⟨b3, 2, none⟩))), 80, rfl, rfl, fun g112 => (opFieldP (fo61_1 H) (mv rfl)), .inl ⟨(decide ((gt v1.fFleet.fWagons v108).fHome < 0)), rfl, rfl⟩⟩⟩), (fun _ => ⟨_, rfl, ⟨(decide ((gt v1.fFleet.fWagons v108).fHome < 0) = false), (eqv (.pointer (some ⟨b3, 3, none⟩))), 80, rfl, rfl, fun g113 => (opFieldP (fo27_1 H) (Ev.cnd (mv rfl) g113)), .inl ⟨(decide ((gt v1.fFleet.fWagons v108).fHome < 0)), rfl, rfl⟩⟩⟩), (fun _ => ⟨_, rfl, ⟨(decide ((gt v1.fFleet.fWagons v108).fHome < 0) = false), (ro eWagon 5 v1.fFleet.fWagons), 80, rfl, rfl, fun g114 => (opLoad1 (tl23 H) ((Pt.box 0 (Ev.cnd (mv rfl) g114) rfl rfl).take 1 (cs' := [(ro eWagon 5 v1.fFleet.fWagons)]) rfl)), .inl ⟨(decide ((gt v1.fFleet.fWagons v108).fHome < 0)), rfl, rfl⟩⟩⟩), (fun _ => ⟨_, rfl, ⟨(decide ((gt v1.fFleet.fWagons v108).fHome < 0) = false), (iv .i64 v108), 80, rfl, rfl, fun g115 => (opMove (mv rfl)), .inl ⟨(decide ((gt v1.fFleet.fWagons v108).fHome < 0)), rfl, rfl⟩⟩⟩), (fun _ => ⟨_, rfl, ⟨(decide ((gt v1.fFleet.fWagons v108).fHome < 0) = false), (rop (eWagon (gt v1.fFleet.fWagons v108))), 80, rfl, rfl, fun g116 => (opIndexR (e := eWagon) (y := (gt v1.fFleet.fWagons v108)) (ix23 H) (Ev.cnd (mv rfl) g116) (Ev.cnd (mv rfl) g116) (h111).1 (gt_some h111)), .inl ⟨(decide ((gt v1.fFleet.fWagons v108).fHome < 0)), rfl, rfl⟩⟩⟩), (fun _ => ⟨_, rfl, ⟨(decide ((gt v1.fFleet.fWagons v108).fHome < 0) = false), (rop [(iv .i64 ((gt v1.fFleet.fWagons v108).fHome))]), 80, rfl, rfl, fun g117 => (opFieldRT (fo47_2 H) (Ev.cnd (mv rfl) g117) (cs' := [(iv .i64 ((gt v1.fFleet.fWagons v108).fHome))]) 1 rfl), .inl ⟨(decide ((gt v1.fFleet.fWagons v108).fHome < 0)), rfl, rfl⟩⟩⟩), (fun _ => ⟨_, rfl, ⟨(decide ((gt v1.fFleet.fWagons v108).fHome < 0) = false), (iv .i64 ((gt v1.fFleet.fWagons v108).fHome)), 80, rfl, rfl, fun g118 => (opLoad1 (tl3 H) (Pt.rop (Ev.cnd (mv rfl) g118))), .inl ⟨(decide ((gt v1.fFleet.fWagons v108).fHome < 0)), rfl, rfl⟩⟩⟩), (fun _ => ⟨_, rfl, ⟨(decide ((gt v1.fFleet.fWagons v108).fHome < 0) = false), (eqv (.pointer (some ⟨b3, 0, none⟩))), 80, rfl, rfl, fun g119 => (opFieldP (fo61_0 H) (mv rfl)), .inl ⟨(decide ((gt v1.fFleet.fWagons v108).fHome < 0)), rfl, rfl⟩⟩⟩), (fun _ => ⟨_, rfl, ⟨(decide ((gt v1.fFleet.fWagons v108).fHome < 0) = false), (eqv (.pointer (some ⟨b3, 0, none⟩))), 80, rfl, rfl, fun g120 => (opFieldP (fo56_0 H) (Ev.cnd (mv rfl) g120)), .inl ⟨(decide ((gt v1.fFleet.fWagons v108).fHome < 0)), rfl, rfl⟩⟩⟩), (fun _ => ⟨_, rfl, ⟨(decide ((gt v1.fFleet.fWagons v108).fHome < 0) = false), (ro ePlace 3 v1.fNetwork.fPlaces), 80, rfl, rfl, fun g121 => (opLoad1 (tl53 H) ((Pt.box 0 (Ev.cnd (mv rfl) g121) rfl rfl).take 1 (cs' := [(ro ePlace 3 v1.fNetwork.fPlaces)]) rfl)), .inl ⟨(decide ((gt v1.fFleet.fWagons v108).fHome < 0)), rfl, rfl⟩⟩⟩), (fun _ => ⟨_, rfl, ⟨(decide ((gt v1.fFleet.fWagons v108).fHome < 0) = false), (iv .i64 (v1.fNetwork.fPlaces.length : Int)), 80, rfl, rfl, fun g122 => (opLenR (il53 H) (Ev.cnd (mv rfl) g122)), .inl ⟨(decide ((gt v1.fFleet.fWagons v108).fHome < 0)), rfl, rfl⟩⟩⟩), (fun _ => ⟨_, rfl, ⟨(decide ((gt v1.fFleet.fWagons v108).fHome < 0) = false), (bv (decide ((v1.fNetwork.fPlaces.length : Int) ≤ (gt v1.fFleet.fWagons v108).fHome))), 80, rfl, rfl, fun g123 => (opGeq (Ev.cnd (mv rfl) g123) (Ev.cnd (mv rfl) g123)), .inl ⟨(decide ((gt v1.fFleet.fWagons v108).fHome < 0)), rfl, rfl⟩⟩⟩), (fun _ => ⟨_, rfl, (opOr (mv rfl) (Ev.const _) (fun g124 => (Ev.cnd (mv rfl) g124)))⟩), trivial⟩ trivial (fun _ => ?_)
              refine al [1, 2, 6, 93] [0] rfl rfl rfl ?_
              refine sq ?_
              refine CodeT.cond (decide ((gt v1.fFleet.fWagons v108).fHome < 0) || decide ((v1.fNetwork.fPlaces.length : Int) ≤ (gt v1.fFleet.fWagons v108).fHome)) (evBool (mv rfl)) (fun c125 => ?_) (fun c125 => ?_)
              · rw [if_pos c125] at h
                refine cs (cr [0] rfl ?_)
                refine cq rfl rfl rfl (opAssign (Ev.const _)) ?_
                refine rn (al [4] [] rfl rfl rfl (sq ?_))
                refine CodeT.ret ?_
                refine AtX.in_ret ?_
                refine AtX.then_ret ?_
                refine AtX.then_ret ?_
                refine AtX.in_ret ?_
                refine AtX.then_ret ?_
                refine AtX.ret' (bv false) (ResOK.one Try.results9 rfl) [] [] trivial rfl ?_
                obtain rfl := Option.some.inj h
                exact ⟨rfl, rfl⟩
              · rw [if_neg (bne_true c125)] at h
                refine CodeT.skip ?_
                refine AtX.in_normal ?_
                refine al [1, 2, 6] [0] rfl rfl rfl ?_
                refine sq (cr [0, 1, 2] rfl ?_)
                refine cq rfl rfl rfl (opMove (mv rfl)) ?_
                refine cq rfl rfl rfl (opAdd (mv rfl) (Ev.const _)) ?_
                refine cq rfl rfl rfl (opAssign (mv rfl)) ?_
                refine rn ?_
                exact AtX.to (ih109 (W (v108 + 1)) h) [0] (sl rfl) (ol rfl) rfl
            · rw [if_neg (bne_true c110)] at h
              refine CodeT.exit ?_
              refine AtX.then_exit ?_
              refine AtX.then_exit ?_
              refine AtX.in_hit ?_
              exact AtX.to (hJ27 () h) [0] (sl rfl) (ol rfl) rfl
        · refine CodeT.block ?_
          refine CodeT.to (CodeT.loop (fun n (z : Int) => law09_FleetPoolParts_L127 φ v1 (law09_FleetPoolParts_j26 φ v1 v2) n z) r (fun z => ⟨Slots.of [(1, (iv .i64 v2)), (2, (eqv (.pointer (some ⟨b3, 0, none⟩)))), (5, (iv .i64 z))], [(box b3 61 (ePool v1))]⟩) (fun z => rfl) (fun n127 v126 ih127 h => ?_) φ 0 h) [0] (sl rfl) (ol rfl) rfl
          replace h : law09_FleetPoolParts_L127 φ v1 (law09_FleetPoolParts_j26 φ v1 v2) (n127 + 1) v126 = some r := h
          rw [law09_FleetPoolParts_L127] at h
          refine cs (cs (cr [0, 1, 2, 3, 4] rfl ?_))
          refine cq rfl rfl rfl (opMove (mv rfl)) ?_
          refine cq rfl rfl rfl (opFieldP (fo61_4 H) (mv rfl)) ?_
          refine cq rfl rfl rfl (opLoad1 (tl59 H) ((Pt.box 0 (mv rfl) rfl rfl).take 1 (cs' := [(ro eRailwayInfo 16 v1.fRailways)]) rfl)) ?_
          refine cq rfl rfl rfl (opLenR (il59 H) (mv rfl)) ?_
          refine cq rfl rfl rfl (opLss (mv rfl) (mv rfl)) ?_
          refine rn (al [1, 2, 5, 43] [0] rfl rfl rfl (sq ?_))
          refine CodeT.cond (decide (v126 < (v1.fRailways.length : Int))) (evBool (mv rfl)) (fun c128 => ?_) (fun c128 => ?_)
          · rw [if_pos c128] at h
            refine CodeT.skip ?_
            refine al [1, 2, 5] [0] rfl rfl rfl ?_
            refine sq (cs ?_)
            refine CodeT.block ?_
            refine cs (cr [0, 1, 2, 3, 4, 5, 6, 7, 8, 9, 10, 11, 12, 13, 14, 15, 16, 17] rfl ?_)
            refine cq rfl rfl rfl (opFieldP (fo61_4 H) (mv rfl)) ?_
            refine cq rfl rfl rfl (opLoad1 (tl59 H) ((Pt.box 0 (mv rfl) rfl rfl).take 1 (cs' := [(ro eRailwayInfo 16 v1.fRailways)]) rfl)) ?_
            refine cq rfl rfl rfl (opMove (mv rfl)) ?_
            refine ckE h fun h129 h => ?_
            refine cq rfl rfl rfl (opIndexR (e := eRailwayInfo) (y := (gt v1.fRailways v126)) (ix59 H) (mv rfl) (mv rfl) (h129).1 (gt_some h129)) ?_
            refine cq rfl rfl rfl (opFieldRT (fo68_0 H) (mv rfl) (cs' := [(iv .u64 ((gt v1.fRailways v126).fKey))]) 1 rfl) ?_
            refine cq rfl rfl rfl (opLoad1 (tl48 H) (Pt.rop (mv rfl))) ?_
            refine bindE h fun y130 ey130 h => ?_
            refine cq rfl rfl rfl (opCallQ (fnok26 H) (args := [(iv .u64 ((gt v1.fRailways v126).fKey))]) ⟨EvF.of (mv rfl) FEnt.refl, trivial⟩ (sign_Valid_ok H φ ((gt v1.fRailways v126).fKey) _ ey130) flat_eqv) ?_
            refine cq rfl rfl rfl (opNot (mv rfl)) ?_
            refine cq rfl rfl rfl (opMove (mv rfl)) ?_
            refine cg rfl rfl rfl rfl rfl (fun g131 => opFieldP (fo61_4 H) (mv rfl)) ?_
            refine cg rfl rfl rfl rfl rfl (fun g132 => opLoad1 (tl59 H) ((Pt.box 0 (Ev.cnd (mv rfl) g132) rfl rfl).take 1 (cs' := [(ro eRailwayInfo 16 v1.fRailways)]) rfl)) ?_
            refine cg rfl rfl rfl rfl rfl (fun g133 => opMove (mv rfl)) ?_
            refine cg rfl rfl rfl rfl rfl (fun g134 => opIndexR (e := eRailwayInfo) (y := (gt v1.fRailways v126)) (ix59 H) (Ev.cnd (mv rfl) g134) (Ev.cnd (mv rfl) g134) (h129).1 (gt_some h129)) ?_
            refine cg rfl rfl rfl rfl rfl (fun g135 => opFieldRT (fo68_1 H) (Ev.cnd (mv rfl) g135) (cs' := (eCalendar (gt v1.fRailways v126).fCalendar)) 15 rfl) ?_
            refine cg rfl rfl rfl rfl rfl (fun g136 => opLoadN' (tl66 H) (by simp [arr_len lSpan, eCalendar]) (Pt.rop (Ev.cnd (mv rfl) g136))) ?_
            refine bindE h fun y138 ey138 h => ?_
            refine cg rfl rfl rfl rfl rfl (fun g137 => opCallQ (fnok27 H) (args := [(agg (eCalendar ((gt v1.fRailways v126).fCalendar)))]) ⟨EvF.of (Ev.cnd (mv rfl) g137) FEnt.refl, trivial⟩ (calendar_Check_ok H φ ((gt v1.fRailways v126).fCalendar) _ (gcall_pos ey138 g137)) flat_eqv) ?_
            refine cg rfl rfl rfl rfl rfl (fun g139 => opNeq (Ev.cnd (mv rfl) g139) (Ev.const _)) ?_
            refine cq rfl rfl rfl (opOr (mv rfl) (Ev.const _) (fun g140 => (Ev.cnd (mv rfl) g140))) ?_
            refine rn (al [1, 2, 5, 63] [0] rfl rfl rfl (sq ?_))
            refine CodeT.cond ((!y130) || (y138 != 0)) (evBool (mv rfl)) (fun c141 => ?_) (fun c141 => ?_)
            · rw [if_pos c141] at h
              refine cs (cr [0] rfl ?_)
              refine cq rfl rfl rfl (opAssign (Ev.const _)) ?_
              refine rn (al [4] [] rfl rfl rfl (sq ?_))
              refine CodeT.ret ?_
              refine AtX.in_ret ?_
              refine AtX.then_ret ?_
              refine AtX.then_ret ?_
              refine AtX.in_ret ?_
              refine AtX.then_ret ?_
              refine AtX.ret' (bv false) (ResOK.one Try.results9 rfl) [] [] trivial rfl ?_
              obtain rfl := Option.some.inj h
              exact ⟨rfl, rfl⟩
            · rw [if_neg (bne_true c141)] at h
              refine CodeT.skip ?_
              refine AtX.in_normal ?_
              refine al [1, 2, 5] [0] rfl rfl rfl ?_
              refine sq (cr [0, 1, 2] rfl ?_)
              refine cq rfl rfl rfl (opMove (mv rfl)) ?_
              refine cq rfl rfl rfl (opAdd (mv rfl) (Ev.const _)) ?_
              refine cq rfl rfl rfl (opAssign (mv rfl)) ?_
              refine rn ?_
              exact AtX.to (ih127 (W (v126 + 1)) h) [0] (sl rfl) (ol rfl) rfl
          · rw [if_neg (bne_true c128)] at h
            refine CodeT.exit ?_
            refine AtX.then_exit ?_
            refine AtX.then_exit ?_
            refine AtX.in_hit ?_
            exact AtX.to (hJ26 () h) [0] (sl rfl) (ol rfl) rfl
end Px
