/- The law computes what was read out of it. Conditions: none. -/
import Derived.Test.YtbfoamlmlbmmnaaQcC
set_option linter.unusedVariables false
set_option linter.unusedSimpArgs false
set_option maxHeartbeats 4000000
set_option maxRecDepth 100000
namespace Px
open Go Go.RowKit Go.Proofs
theorem law09_FleetCheapest_ok {P : Program} (H : P = Try.prog) (φ : Nat) (v1 : Fleet) (v2 : Int) (r : (Bool)) (h : law09_FleetCheapest φ v1 v2 = some r) : PureT P 4 [(agg (eFleet v1)), (iv .i64 v2)] (fun x news => x = (bv r) ∧ news = []) := by
  unfold law09_FleetCheapest at h
  refine PureT.of_code' 226 (fn4 H) rfl rfl (Nat.le_of_ble_eq_true rfl) fun w0 base r0 wI => ?_
  refine cl [0, 1] [] rfl rfl rfl ?_
  refine cs (cr [0, 1] rfl ?_)
  refine RunOps.cons rfl rfl rfl (opBox (cs := (eFleet v1)) (Ce.agg (mv rfl)) fun b3 => ?_)
  refine cq rfl rfl rfl (opAssign (Ev.const _)) ?_
  refine rn (al [1, 2] [0] rfl rfl rfl (sq (cs (cs (cr [0, 1] rfl ?_)))))
  refine bindE h fun y4 ey4 h => ?_
  refine cq rfl rfl rfl (opCallQ (fnok10 H) (args := []) trivial (law09_sane_ok H φ  _ ey4) flat_eqv) ?_
  refine cq rfl rfl rfl (opNot (mv rfl)) ?_
  refine rn (al [1, 2, 18] [0] rfl rfl rfl (sq ?_))
  refine CodeT.cond (!y4) (evBool (mv rfl)) (fun c5 => ?_) (fun c5 => ?_)
  · rw [if_pos c5] at h
    refine cs (cr [0] rfl ?_)
    refine cq rfl rfl rfl (opAssign (Ev.const _)) ?_
    refine rn (al [4] [] rfl rfl rfl (sq ?_))
    refine CodeT.ret ?_
    refine AtX.then_ret ?_
    refine AtX.ret' (bv false) (ResOK.one Try.results4 rfl) [] [] trivial rfl ?_
    obtain rfl := Option.some.inj h
    exact ⟨rfl, rfl⟩
  · rw [if_neg (bne_true c5)] at h
    refine CodeT.skip ?_
    refine al [1, 2] [0] rfl rfl rfl ?_
    refine sq (cs (cs (cr [0, 1, 2] rfl ?_)))
    refine RunOps.cons_q (agg (eFleet v1)) rfl rfl rfl (opLoadN (tl27 H) ((Pt.box 0 (mv rfl) rfl rfl).take 4 (cs' := (eFleet v1)) rfl)) ?_
    refine bindE h fun y6 ey6 h => ?_
    refine cq rfl rfl rfl (opCallQ (fnok11 H) (args := [(agg (eFleet v1))]) ⟨EvF.of (mv rfl) FEnt.refl, trivial⟩ (law09_few_ok H φ v1 _ ey6) flat_eqv) ?_
    refine cq rfl rfl rfl (opNot (mv rfl)) ?_
    refine rn (al [1, 2, 21] [0] rfl rfl rfl (sq ?_))
    refine CodeT.cond (!y6) (evBool (mv rfl)) (fun c7 => ?_) (fun c7 => ?_)
    · rw [if_pos c7] at h
      refine cs (cr [0] rfl ?_)
      refine cq rfl rfl rfl (opAssign (Ev.const _)) ?_
      refine rn (al [4] [] rfl rfl rfl (sq ?_))
      refine CodeT.ret ?_
      refine AtX.then_ret ?_
      refine AtX.ret' (bv true) (ResOK.one Try.results4 rfl) [] [] trivial rfl ?_
      obtain rfl := Option.some.inj h
      exact ⟨rfl, rfl⟩
    · rw [if_neg (bne_true c7)] at h
      refine CodeT.skip ?_
      refine al [1, 2] [0] rfl rfl rfl ?_
      refine sq (cs (cr [0, 1, 2, 3, 4, 5, 6, 7] rfl ?_))
      refine RunOps.cons_q (agg (eFleet v1)) rfl rfl rfl (opLoadN (tl27 H) ((Pt.box 0 (mv rfl) rfl rfl).take 4 (cs' := (eFleet v1)) rfl)) ?_
      refine cq rfl rfl rfl (opMove (mv rfl)) ?_
      refine bindE h fun y8 ey8 h => ?_
      refine RunOps.cons rfl rfl rfl (opCallF (fnok12 H) (args := [(agg (eFleet v1)), (iv .i64 v2)]) ⟨EvF.of (mv rfl) FEnt.refl, EvF.of (mv rfl) FEnt.refl, trivial⟩ (fleet_Given_ok H φ v1 v2 _ ey8) fun x11 nw12 hk10 => ?_)
      obtain ⟨sv9, rfl, rfl⟩ := hk10
      refine ⟨(flat_tup' ⟨flat_eqv, flat_eqv, trivial⟩), allFlatH ⟨flat_row' fSwap, trivial⟩, ?_⟩
      refine cq rfl rfl rfl (opMove (mv rfl)) ?_
      refine cq rfl rfl rfl (opExtract (mv rfl) rfl) ?_
      refine cq rfl rfl rfl (opExtract (mv rfl) rfl) ?_
      refine cq rfl rfl rfl (opAssign (mv rfl)) ?_
      refine cq rfl rfl rfl (opAssign (mv rfl)) ?_
      refine rn (al [1, 2, 5, 6] [0, 1] rfl rfl rfl (sq (cs (cs (cr [0, 1] rfl ?_)))))
      refine cq rfl rfl rfl (opMove (mv rfl)) ?_
      refine cq rfl rfl rfl (opNeq (mv rfl) (Ev.const _)) ?_
      refine rn (al [1, 2, 5, 29] [0, 1] rfl rfl rfl (sq ?_))
      refine CodeT.cond (y8.2 != 0) (evBool (mv rfl)) (fun c13 => ?_) (fun c13 => ?_)
      · rw [if_pos c13] at h
        refine cs (cr [0, 1, 2, 3] rfl ?_)
        refine cq rfl rfl rfl (opMove (mv rfl)) ?_
        refine cq rfl rfl rfl (opLenO 1 (il24 H) (mv rfl) rfl) ?_
        refine cq rfl rfl rfl (opEql (mv rfl) (Ev.const _)) ?_
        refine cq rfl rfl rfl (opAssign (mv rfl)) ?_
        refine rn (al [4] [] rfl rfl rfl (sq ?_))
        refine CodeT.ret ?_
        refine AtX.then_ret ?_
        refine AtX.ret' (bv ((y8.1.length : Int) == 0)) (ResOK.one Try.results4 rfl) [] [] trivial rfl ?_
        obtain rfl := Option.some.inj h
        exact ⟨rfl, rfl⟩
      · rw [if_neg (bne_true c13)] at h
        refine CodeT.skip ?_
        refine al [1, 2, 5] [0, 1] rfl rfl rfl ?_
        refine sq (cs (cr [0, 1, 2, 3, 4] rfl ?_))
        refine cq rfl rfl rfl (opFieldP (fo27_0 H) (mv rfl)) ?_
        refine cq rfl rfl rfl (opLoad1 (tl22 H) ((Pt.box 0 (mv rfl) rfl rfl).take 1 (cs' := [(ro eWagonType 8 v1.fTypes)]) rfl)) ?_
        refine cq rfl rfl rfl (opLenR (il22 H) (mv rfl)) ?_
        refine ckE h fun h14 h => ?_
        refine RunOps.cons rfl rfl rfl (opMake (e := eI64) 0 [.int .i64 0] (sl41 H) lI64 (ze3 H) rfl rfl (mv rfl) (mv rfl) h14.1 h14.2.1 h14.2.2 fun sv15 => ?_)
        refine cq rfl rfl rfl (opAssign (mv rfl)) ?_
        refine rn (al [1, 2, 5, 7] [0, 1, 2] rfl rfl rfl (sq (cs (cs (cr [0] rfl ?_)))))
        refine cq rfl rfl rfl (opAssign (Ev.const _)) ?_
        refine rn (al [1, 2, 5, 7, 8] [0, 1, 2] rfl rfl rfl (sq ?_))
        refine CodeT.join (fun z : (List Int) => (law09_FleetCheapest_j17 φ v1 v2 y8) z) r (fun z => ⟨Slots.of [(1, (iv .i64 v2)), (2, (eqv (.pointer (some ⟨b3, 0, none⟩)))), (5, (eqv sv9)), (7, (eqv sv15))], [(box b3 27 (eFleet v1)), (row 43 eSwap 3 y8.1 sv9), (row 3 eI64 1 z sv15)]⟩) (fun v16 h => ?_) (fun hJ17 => ?_)
        · replace h : (law09_FleetCheapest_j17 φ v1 v2 y8) v16 = some r := h
          unfold law09_FleetCheapest_j17 at h
          refine al [1, 2, 5, 7] [0, 1, 2] rfl rfl rfl ?_
          refine sq (cs (cr [0] rfl ?_))
          refine cq rfl rfl rfl (opAssign (Ev.const _)) ?_
          refine rn (al [1, 2, 5, 7, 9] [0, 1, 2] rfl rfl rfl (sq (cs (cs (cr [0] rfl ?_)))))
          refine cq rfl rfl rfl (opAssign (Ev.const _)) ?_
          refine rn (al [1, 2, 5, 7, 9, 10] [0, 1, 2] rfl rfl rfl (sq ?_))
          refine CodeT.join (fun z : (List Int) => (law09_FleetCheapest_j19 φ v1 v2) z) r (fun z => ⟨Slots.of [(1, (iv .i64 v2)), (2, (eqv (.pointer (some ⟨b3, 0, none⟩)))), (7, (eqv sv15))], [(box b3 27 (eFleet v1)), (row 3 eI64 1 z sv15)]⟩) (fun v18 h => ?_) (fun hJ19 => ?_)
          · replace h : (law09_FleetCheapest_j19 φ v1 v2) v18 = some r := h
            unfold law09_FleetCheapest_j19 at h
            refine al [1, 2, 7] [0, 1] rfl rfl rfl ?_
            refine sq (cs (cs (cr [0, 1, 2, 3, 4, 5, 6, 7, 8, 9, 10, 11, 12, 13, 14] rfl ?_)))
            refine cq rfl rfl rfl (opMove (mv rfl)) ?_
            refine cq rfl rfl rfl (opLss (mv rfl) (Ev.const _)) ?_
            refine cq rfl rfl rfl (opMove (mv rfl)) ?_
            refine cg rfl rfl rfl rfl rfl (fun g20 => opMove (mv rfl)) ?_
            refine cg rfl rfl rfl rfl rfl (fun g21 => opMove (mv rfl)) ?_
            refine cg rfl rfl rfl rfl rfl (fun g22 => opLenO 1 (il41 H) (Ev.cnd (mv rfl) g22) rfl) ?_
            refine cg rfl rfl rfl rfl rfl (fun g23 => opGeq (Ev.cnd (mv rfl) g23) (Ev.cnd (mv rfl) g23)) ?_
            refine cq rfl rfl rfl (opOr (mv rfl) (Ev.const _) (fun g24 => (Ev.cnd (mv rfl) g24))) ?_
            refine cq rfl rfl rfl (opMove (mv rfl)) ?_
            refine cg rfl rfl rfl rfl rfl (fun g25 => opMove (mv rfl)) ?_
            refine cg rfl rfl rfl rfl rfl (fun g26 => opMove (mv rfl)) ?_
            refine ckE h fun h28 h => ?_
            refine cg rfl rfl rfl rfl rfl (fun g27 => opIndexO 1 (ix41 H) (Ev.cnd (mv rfl) g27) rfl (Ev.cnd (mv rfl) g27) ((h28 g27)).1 ((h28 g27)).2) ?_
            refine cg rfl rfl rfl rfl rfl (fun g29 => opLoad1 (tl3 H) ((Pt.row _ 1 (k := (v2 : Int).toNat) (fo := 0) lI64 (Ev.cnd (mv rfl) g29) rfl (by omega) (gt_some (h28 g29)) rfl).take 1 (cs' := [(iv .i64 (gt v18 v2))]) rfl)) ?_
            refine cg rfl rfl rfl rfl rfl (fun g30 => opNeq (Ev.cnd (mv rfl) g30) (Ev.const _)) ?_
            refine cq rfl rfl rfl (opOr (mv rfl) (Ev.const _) (fun g31 => (Ev.cnd (mv rfl) g31))) ?_
            refine rn (al [1, 2, 7, 113] [0, 1] rfl rfl rfl (sq ?_))
            refine CodeT.cond ((decide (v2 < 0) || decide ((v18.length : Int) ≤ v2)) || ((gt v18 v2) != 0)) (evBool (mv rfl)) (fun c32 => ?_) (fun c32 => ?_)
            · rw [if_pos c32] at h
              refine cs (cr [0] rfl ?_)
              refine cq rfl rfl rfl (opAssign (Ev.const _)) ?_
              refine rn (al [4] [] rfl rfl rfl (sq ?_))
              refine CodeT.ret ?_
              refine AtX.then_ret ?_
              refine AtX.ret' (bv false) (ResOK.one Try.results4 rfl) [] [] trivial rfl ?_
              obtain rfl := Option.some.inj h
              exact ⟨rfl, rfl⟩
            · rw [if_neg (bne_true c32)] at h
              refine CodeT.skip ?_
              refine al [1, 2, 7] [0, 1] rfl rfl rfl ?_
              refine sq (cs (cr [0, 1, 2, 3] rfl ?_))
              refine cq rfl rfl rfl (opMove (mv rfl)) ?_
              refine cq rfl rfl rfl (opLenO 1 (il41 H) (mv rfl) rfl) ?_
              refine ckE h fun h33 h => ?_
              refine RunOps.cons rfl rfl rfl (opMake (e := eB) false [.bool false] (sl44 H) lB (ze4 H) rfl rfl (mv rfl) (mv rfl) h33.1 h33.2.1 h33.2.2 fun sv34 => ?_)
              refine cq rfl rfl rfl (opAssign (mv rfl)) ?_
              refine rn (al [1, 2, 7, 11] [0, 1, 2] rfl rfl rfl (sq (cs (cr [0, 1, 2, 3] rfl ?_))))
              refine cq rfl rfl rfl (opMove (mv rfl)) ?_
              refine cq rfl rfl rfl (opMove (mv rfl)) ?_
              refine ckE h fun h35 h => ?_
              refine cq rfl rfl rfl (opIndexO 2 (ix44 H) (mv rfl) rfl (mv rfl) (h35).1 (h35).2) ?_
              refine RunOps.cons rfl rfl rfl (opStoreO 2 (k := (v2 : Int).toNat) (fo := 0) (z' := true) (cs := [(bv true)]) lB (tl4 H) (mv rfl) (Ce.one (Ev.const _) (One.eqv rfl)) rfl rfl (by omega) (gt_some h35) (Nat.le_of_ble_eq_true rfl) rfl ?_)
              refine rn (al [2, 7, 11] [0, 1, 2] rfl rfl rfl (sq (cs (cr [0] rfl ?_))))
              refine cq rfl rfl rfl (opAssign (Ev.const _)) ?_
              refine rn (al [2, 7, 11, 12] [0, 1, 2] rfl rfl rfl (sq (cs (cs (cr [0] rfl ?_)))))
              refine cq rfl rfl rfl (opAssign (Ev.const _)) ?_
              refine rn (al [2, 7, 11, 12, 13] [0, 1, 2] rfl rfl rfl (sq ?_))
              refine CodeT.join (fun z : Bool × (List Bool) => (law09_FleetCheapest_j38 φ v18) z.1 z.2) r (fun z => ⟨Slots.of [(7, (eqv sv15)), (11, (eqv sv34)), (12, (bv z.1))], [(row 3 eI64 1 v18 sv15), (row 4 eB 1 z.2 sv34)]⟩) (fun z h => ?_) (fun hJ38 => ?_)
              · obtain ⟨v36, v37⟩ := z
                replace h : (law09_FleetCheapest_j38 φ v18) v36 v37 = some r := h
                unfold law09_FleetCheapest_j38 at h
                refine al [7, 11, 12] [0, 1] rfl rfl rfl ?_
                refine sq (cs (cs (cr [0] rfl ?_)))
                refine cq rfl rfl rfl (opAssign (Ev.const _)) ?_
                refine rn (al [7, 11, 12, 16] [0, 1] rfl rfl rfl (sq ?_))
                refine CodeT.join (fun z : Unit => (law09_FleetCheapest_j39 φ)) r (fun z => ⟨Slots.of [], []⟩) (fun z h => ?_) (fun hJ39 => ?_)
                · replace h : (law09_FleetCheapest_j39 φ) = some r := h
                  unfold law09_FleetCheapest_j39 at h
                  refine al [] [] rfl rfl rfl ?_
                  refine sq (cs (cr [0] rfl ?_))
                  refine cq rfl rfl rfl (opAssign (Ev.const _)) ?_
                  refine rn (al [4] [] rfl rfl rfl (sq ?_))
                  refine CodeT.ret ?_
                  refine AtX.ret' (bv true) (ResOK.one Try.results4 rfl) [] [] trivial rfl ?_
                  obtain rfl := Option.some.inj h
                  exact ⟨rfl, rfl⟩
                · refine CodeT.block ?_
                  refine CodeT.to (CodeT.loop (fun n (z : Int) => law09_FleetCheapest_L41 φ v18 v36 v37 (law09_FleetCheapest_j39 φ) n z) r (fun z => ⟨Slots.of [(7, (eqv sv15)), (11, (eqv sv34)), (12, (bv v36)), (16, (iv .i64 z))], [(row 3 eI64 1 v18 sv15), (row 4 eB 1 v37 sv34)]⟩) (fun z => rfl) (fun n41 v40 ih41 h => ?_) φ 0 h) [0, 1] (sl rfl) (ol rfl) rfl
                  replace h : law09_FleetCheapest_L41 φ v18 v36 v37 (law09_FleetCheapest_j39 φ) (n41 + 1) v40 = some r := h
                  rw [law09_FleetCheapest_L41] at h
                  refine cs (cs (cr [0, 1, 2, 3] rfl ?_))
                  refine cq rfl rfl rfl (opMove (mv rfl)) ?_
                  refine cq rfl rfl rfl (opMove (mv rfl)) ?_
                  refine cq rfl rfl rfl (opLenO 0 (il41 H) (mv rfl) rfl) ?_
                  refine cq rfl rfl rfl (opLss (mv rfl) (mv rfl)) ?_
                  refine rn (al [7, 11, 12, 16, 210] [0, 1] rfl rfl rfl (sq ?_))
                  refine CodeT.cond (decide (v40 < (v18.length : Int))) (evBool (mv rfl)) (fun c42 => ?_) (fun c42 => ?_)
                  · rw [if_pos c42] at h
                    refine CodeT.skip ?_
                    refine al [7, 11, 12, 16] [0, 1] rfl rfl rfl ?_
                    refine sq (cs ?_)
                    refine CodeT.block ?_
                    refine cs ?_
                    refine ckE h fun h46 h => ?_
                    refine ckE h fun h51 h => ?_
                    refine CodeT.draw (QR := [(0, (bv v36)), (1, (bv v36)), (2, (cnd (v36 = true) (eqv sv34))), (3, (cnd (v36 = true) (iv .i64 v40))), (4, (cnd (v36 = true) (rowp sv34 ((v40 : Int).toNat * 1)))), (5, (cnd (v36 = true) (bv (gt v37 v40)))), (6, (cnd (v36 = true) (eqv sv15))), (7, (cnd (v36 = true) (iv .i64 v40))), (8, (cnd (v36 = true) (rowp sv15 ((v40 : Int).toNat * 1)))), (9, (cnd (v36 = true) (iv .i64 (gt v18 v40)))), (10, (cnd (v36 = true) (bv (decide (0 ≤ (gt v18 v40)))))), (11, (cnd (v36 = true) (bv ((gt v37 v40) != decide (0 ≤ (gt v18 v40)))))), (12, (bv (v36 && ((gt v37 v40) != decide (0 ≤ (gt v18 v40))))))]) (tab := [(some 213, []), (some 214, [0]), (some 215, [1]), (some 216, [1]), (some 217, [2, 3, 1]), (some 218, [4, 1]), (some 219, [1]), (some 220, [1]), (some 221, [6, 7, 1]), (some 222, [8, 1]), (some 223, [9, 1]), (some 224, [5, 10, 1]), (some 225, [1, 11])]) (mixed H) ?_
                    refine Reg.intro [] [] (by kernel_rfl) rfl ⟨rfl, rfl, rfl, rfl, rfl, rfl, rfl, rfl, rfl, rfl, rfl, rfl, rfl, trivial⟩ ⟨(fun _ => ⟨_, rfl, (opMove (mv rfl))⟩), (fun _ => ⟨_, rfl, (opMove (mv rfl))⟩), (fun _ => ⟨_, rfl, ⟨(v36 = true), (eqv sv34), 214, rfl, rfl, fun g43 => (opMove (mv rfl)), .inl ⟨v36, rfl, rfl⟩⟩⟩), (fun _ => ⟨_, rfl, ⟨(v36 = true), (iv .i64 v40), 214, rfl, rfl, fun g44 => (opMove (mv rfl)), .inl ⟨v36, rfl, rfl⟩⟩⟩), (fun _ => ⟨_, rfl, ⟨(v36 = true), (rowp sv34 ((v40 : Int).toNat * 1)), 214, rfl, rfl, fun g45 => (opIndexO 1 (ix44 H) (Ev.cnd (mv rfl) g45) rfl (Ev.cnd (mv rfl) g45) ((h46 g45)).1 ((h46 g45)).2), .inl ⟨v36, rfl, rfl⟩⟩⟩), (fun _ => ⟨_, rfl, ⟨(v36 = true), (bv (gt v37 v40)), 214, rfl, rfl, fun g47 => (opLoad1 (tl4 H) ((Pt.row _ 1 (k := (v40 : Int).toNat) (fo := 0) lB (Ev.cnd (mv rfl) g47) rfl (by omega) (gt_some (h46 g47)) rfl).take 1 (cs' := [(bv (gt v37 v40))]) rfl)), .inl ⟨v36, rfl, rfl⟩⟩⟩), (fun _ => ⟨_, rfl, ⟨(v36 = true), (eqv sv15), 214, rfl, rfl, fun g48 => (opMove (mv rfl)), .inl ⟨v36, rfl, rfl⟩⟩⟩), (fun _ => ⟨_, rfl, ⟨(v36 = true), (iv .i64 v40), 214, rfl, rfl, fun g49 => (opMove (mv rfl)), .inl ⟨v36, rfl, rfl⟩⟩⟩), (fun _ => ⟨_, rfl, ⟨(v36 = true), (rowp sv15 ((v40 : Int).toNat * 1)), 214, rfl, rfl, fun g50 => (opIndexO 0 (ix41 H) (Ev.cnd (mv rfl) g50) rfl (Ev.cnd (mv rfl) g50) ((h51 g50)).1 ((h51 g50)).2), .inl ⟨v36, rfl, rfl⟩⟩⟩), (fun _ => ⟨_, rfl, ⟨(v36 = true), (iv .i64 (gt v18 v40)), 214, rfl, rfl, fun g52 => (opLoad1 (tl3 H) ((Pt.row _ 0 (k := (v40 : Int).toNat) (fo := 0) lI64 (Ev.cnd (mv rfl) g52) rfl (by omega) (gt_some (h51 g52)) rfl).take 1 (cs' := [(iv .i64 (gt v18 v40))]) rfl)), .inl ⟨v36, rfl, rfl⟩⟩⟩), (fun _ => ⟨_, rfl, ⟨(v36 = true), (bv (decide (0 ≤ (gt v18 v40)))), 214, rfl, rfl, fun g53 => (opGeq (Ev.cnd (mv rfl) g53) (Ev.const _)), .inl ⟨v36, rfl, rfl⟩⟩⟩), (fun _ => ⟨_, rfl, ⟨(v36 = true), (bv ((gt v37 v40) != decide (0 ≤ (gt v18 v40)))), 214, rfl, rfl, fun g54 => (opNeqB (un4 H) (Ev.cnd (mv rfl) g54) (Ev.cnd (mv rfl) g54)), .inl ⟨v36, rfl, rfl⟩⟩⟩), (fun _ => ⟨_, rfl, (opAnd (mv rfl) (fun g55 => (Ev.cnd (mv rfl) g55)) (Ev.const _))⟩), trivial⟩ trivial (fun _ => ?_)
                    refine al [7, 11, 12, 16, 225] [0, 1] rfl rfl rfl ?_
                    refine sq ?_
                    refine CodeT.cond (v36 && ((gt v37 v40) != decide (0 ≤ (gt v18 v40)))) (evBool (mv rfl)) (fun c56 => ?_) (fun c56 => ?_)
                    · rw [if_pos c56] at h
                      refine cs (cr [0] rfl ?_)
                      refine cq rfl rfl rfl (opAssign (Ev.const _)) ?_
                      refine rn (al [4] [] rfl rfl rfl (sq ?_))
                      refine CodeT.ret ?_
                      refine AtX.in_ret ?_
                      refine AtX.then_ret ?_
                      refine AtX.then_ret ?_
                      refine AtX.in_ret ?_
                      refine AtX.then_ret ?_
                      refine AtX.ret' (bv false) (ResOK.one Try.results4 rfl) [] [] trivial rfl ?_
                      obtain rfl := Option.some.inj h
                      exact ⟨rfl, rfl⟩
                    · rw [if_neg (bne_true c56)] at h
                      refine CodeT.skip ?_
                      refine AtX.in_normal ?_
                      refine al [7, 11, 12, 16] [0, 1] rfl rfl rfl ?_
                      refine sq (cr [0, 1, 2] rfl ?_)
                      refine cq rfl rfl rfl (opMove (mv rfl)) ?_
                      refine cq rfl rfl rfl (opAdd (mv rfl) (Ev.const _)) ?_
                      refine cq rfl rfl rfl (opAssign (mv rfl)) ?_
                      refine rn ?_
                      exact AtX.to (ih41 (W (v40 + 1)) h) [0, 1] (sl rfl) (ol rfl) rfl
                  · rw [if_neg (bne_true c42)] at h
                    refine CodeT.exit ?_
                    refine AtX.then_exit ?_
                    refine AtX.then_exit ?_
                    refine AtX.in_hit ?_
                    exact AtX.to (hJ39 () h) [] trivial trivial rfl
              · refine CodeT.block ?_
                refine CodeT.to (CodeT.loop (fun n (z : Bool × Int × (List Bool)) => law09_FleetCheapest_L60 φ v1 v18 (law09_FleetCheapest_j38 φ v18) n z.1 z.2.1 z.2.2) r (fun z => ⟨Slots.of [(2, (eqv (.pointer (some ⟨b3, 0, none⟩)))), (7, (eqv sv15)), (11, (eqv sv34)), (12, (bv z.1)), (13, (iv .i64 z.2.1))], [(box b3 27 (eFleet v1)), (row 3 eI64 1 v18 sv15), (row 4 eB 1 z.2.2 sv34)]⟩) (fun z => rfl) (fun n60 z ih60 h => ?_) φ (true, 0, (setAt (List.replicate ((v18.length : Int) : Int).toNat false) v2 true)) h) [0, 1, 2] (sl rfl) (ol rfl) rfl
                obtain ⟨v57, v58, v59⟩ := z
                replace h : law09_FleetCheapest_L60 φ v1 v18 (law09_FleetCheapest_j38 φ v18) (n60 + 1) v57 v58 v59 = some r := h
                rw [law09_FleetCheapest_L60] at h
                refine cs (cs (cr [0, 1, 2, 3, 4] rfl ?_))
                refine cq rfl rfl rfl (opMove (mv rfl)) ?_
                refine cq rfl rfl rfl (opFieldP (fo27_2 H) (mv rfl)) ?_
                refine cq rfl rfl rfl (opLoad1 (tl24 H) ((Pt.box 0 (mv rfl) rfl rfl).take 1 (cs' := [(ro eSwap 3 v1.fSwaps)]) rfl)) ?_
                refine cq rfl rfl rfl (opLenR (il24 H) (mv rfl)) ?_
                refine cq rfl rfl rfl (opLss (mv rfl) (mv rfl)) ?_
                refine rn (al [2, 7, 11, 12, 13, 124] [0, 1, 2] rfl rfl rfl (sq ?_))
                refine CodeT.cond (decide (v58 < (v1.fSwaps.length : Int))) (evBool (mv rfl)) (fun c61 => ?_) (fun c61 => ?_)
                · rw [if_pos c61] at h
                  refine CodeT.skip ?_
                  refine al [2, 7, 11, 12, 13] [0, 1, 2] rfl rfl rfl ?_
                  refine sq (cs ?_)
                  refine CodeT.join (fun z : Bool × (List Bool) => (law09_FleetCheapest_j64 φ v58 (law09_FleetCheapest_L60 φ v1 v18 (law09_FleetCheapest_j38 φ v18) n60)) z.1 z.2) r (fun z => ⟨Slots.of [(2, (eqv (.pointer (some ⟨b3, 0, none⟩)))), (7, (eqv sv15)), (11, (eqv sv34)), (12, (bv z.1)), (13, (iv .i64 v58))], [(box b3 27 (eFleet v1)), (row 3 eI64 1 v18 sv15), (row 4 eB 1 z.2 sv34)]⟩) (fun z h => ?_) (fun hJ64 => ?_)
                  · obtain ⟨v62, v63⟩ := z
                    replace h : (law09_FleetCheapest_j64 φ v58 (law09_FleetCheapest_L60 φ v1 v18 (law09_FleetCheapest_j38 φ v18) n60)) v62 v63 = some r := h
                    unfold law09_FleetCheapest_j64 at h
                    refine al [2, 7, 11, 12, 13] [0, 1, 2] rfl rfl rfl ?_
                    refine sq (cr [0, 1, 2] rfl ?_)
                    refine cq rfl rfl rfl (opMove (mv rfl)) ?_
                    refine cq rfl rfl rfl (opAdd (mv rfl) (Ev.const _)) ?_
                    refine cq rfl rfl rfl (opAssign (mv rfl)) ?_
                    refine rn ?_
                    exact AtX.to (ih60 (v62, (W (v58 + 1)), v63) h) [0, 1, 2] (sl rfl) (ol rfl) rfl
                  · refine CodeT.block ?_
                    refine cs (cr [0, 1, 2, 3, 4, 5, 6] rfl ?_)
                    refine cq rfl rfl rfl (opFieldP (fo27_2 H) (mv rfl)) ?_
                    refine cq rfl rfl rfl (opLoad1 (tl24 H) ((Pt.box 0 (mv rfl) rfl rfl).take 1 (cs' := [(ro eSwap 3 v1.fSwaps)]) rfl)) ?_
                    refine cq rfl rfl rfl (opMove (mv rfl)) ?_
                    refine ckE h fun h65 h => ?_
                    refine cq rfl rfl rfl (opIndexR (e := eSwap) (y := (gt v1.fSwaps v58)) (ix24 H) (mv rfl) (mv rfl) (h65).1 (gt_some h65)) ?_
                    refine RunOps.cons_q (agg (eSwap (gt v1.fSwaps v58))) rfl rfl rfl (opLoadN (tl43 H) (Pt.rop (mv rfl))) ?_
                    refine RunOps.cons rfl rfl rfl (opAlloc [.int .i64 0, .int .i64 0, .int .i64 0] (ze43 H) rfl fun b66 => ?_)
                    refine RunOps.cons rfl rfl rfl (opStore 3 (cells := [(iv .i64 0), (iv .i64 0), (iv .i64 0)]) (cs := (eSwap (gt v1.fSwaps v58))) (out := (eSwap (gt v1.fSwaps v58))) (tl43 H) (mv rfl) (Ce.agg (mv rfl)) rfl rfl (Nat.le_of_ble_eq_true rfl) rfl ?_)
                    refine rn (al [2, 7, 11, 12, 13, 14] [0, 1, 2, 3] rfl rfl rfl (sq (cs (cs (cr [0, 1, 2, 3, 4, 5, 6, 7, 8, 9, 10, 11, 12, 13, 14, 15, 16, 17, 18, 19, 20, 21] rfl ?_)))))
                    refine cq rfl rfl rfl (opFieldP (fo43_0 H) (mv rfl)) ?_
                    refine cq rfl rfl rfl (opLoad1 (tl3 H) ((Pt.box 3 (mv rfl) rfl rfl).take 1 (cs' := [(iv .i64 ((gt v1.fSwaps v58).fWanted))]) rfl)) ?_
                    refine cq rfl rfl rfl (opLss (mv rfl) (Ev.const _)) ?_
                    refine cq rfl rfl rfl (opMove (mv rfl)) ?_
                    refine cg rfl rfl rfl rfl rfl (fun g67 => opFieldP (fo43_0 H) (mv rfl)) ?_
                    refine cg rfl rfl rfl rfl rfl (fun g68 => opLoad1 (tl3 H) ((Pt.box 3 (Ev.cnd (mv rfl) g68) rfl rfl).take 1 (cs' := [(iv .i64 ((gt v1.fSwaps v58).fWanted))]) rfl)) ?_
                    refine cg rfl rfl rfl rfl rfl (fun g69 => opMove (mv rfl)) ?_
                    refine cg rfl rfl rfl rfl rfl (fun g70 => opLenO 1 (il41 H) (Ev.cnd (mv rfl) g70) rfl) ?_
                    refine cg rfl rfl rfl rfl rfl (fun g71 => opGeq (Ev.cnd (mv rfl) g71) (Ev.cnd (mv rfl) g71)) ?_
                    refine cq rfl rfl rfl (opOr (mv rfl) (Ev.const _) (fun g72 => (Ev.cnd (mv rfl) g72))) ?_
                    refine cq rfl rfl rfl (opMove (mv rfl)) ?_
                    refine cg rfl rfl rfl rfl rfl (fun g73 => opFieldP (fo43_1 H) (mv rfl)) ?_
                    refine cg rfl rfl rfl rfl rfl (fun g74 => opLoad1 (tl3 H) ((Pt.box 3 (Ev.cnd (mv rfl) g74) rfl rfl).take 1 (cs' := [(iv .i64 ((gt v1.fSwaps v58).fGiven))]) rfl)) ?_
                    refine cg rfl rfl rfl rfl rfl (fun g75 => opLss (Ev.cnd (mv rfl) g75) (Ev.const _)) ?_
                    refine cq rfl rfl rfl (opOr (mv rfl) (Ev.const _) (fun g76 => (Ev.cnd (mv rfl) g76))) ?_
                    refine cq rfl rfl rfl (opMove (mv rfl)) ?_
                    refine cg rfl rfl rfl rfl rfl (fun g77 => opFieldP (fo43_1 H) (mv rfl)) ?_
                    refine cg rfl rfl rfl rfl rfl (fun g78 => opLoad1 (tl3 H) ((Pt.box 3 (Ev.cnd (mv rfl) g78) rfl rfl).take 1 (cs' := [(iv .i64 ((gt v1.fSwaps v58).fGiven))]) rfl)) ?_
                    refine cg rfl rfl rfl rfl rfl (fun g79 => opMove (mv rfl)) ?_
                    refine cg rfl rfl rfl rfl rfl (fun g80 => opLenO 1 (il41 H) (Ev.cnd (mv rfl) g80) rfl) ?_
                    refine cg rfl rfl rfl rfl rfl (fun g81 => opGeq (Ev.cnd (mv rfl) g81) (Ev.cnd (mv rfl) g81)) ?_
                    refine cq rfl rfl rfl (opOr (mv rfl) (Ev.const _) (fun g82 => (Ev.cnd (mv rfl) g82))) ?_
                    refine rn (al [2, 7, 11, 12, 13, 14, 153] [0, 1, 2, 3] rfl rfl rfl (sq ?_))
                    refine CodeT.cond (((decide ((gt v1.fSwaps v58).fWanted < 0) || decide ((v18.length : Int) ≤ (gt v1.fSwaps v58).fWanted)) || decide ((gt v1.fSwaps v58).fGiven < 0)) || decide ((v18.length : Int) ≤ (gt v1.fSwaps v58).fGiven)) (evBool (mv rfl)) (fun c83 => ?_) (fun c83 => ?_)
                    · rw [if_pos c83] at h
                      refine cs (cr [0] rfl ?_)
                      refine cq rfl rfl rfl (opAssign (Ev.const _)) ?_
                      refine rn (al [4] [] rfl rfl rfl (sq ?_))
                      refine CodeT.ret ?_
                      refine AtX.then_ret ?_
                      refine AtX.in_ret ?_
                      refine AtX.then_ret ?_
                      refine AtX.then_ret ?_
                      refine AtX.in_ret ?_
                      refine AtX.then_ret ?_
                      refine AtX.ret' (bv false) (ResOK.one Try.results4 rfl) [] [] trivial rfl ?_
                      obtain rfl := Option.some.inj h
                      exact ⟨rfl, rfl⟩
                    · rw [if_neg (bne_true c83)] at h
                      refine CodeT.skip ?_
                      refine al [2, 7, 11, 12, 13, 14] [0, 1, 2, 3] rfl rfl rfl ?_
                      refine sq (cs (cs (cr [0, 1, 2, 3, 4, 5] rfl ?_)))
                      refine cq rfl rfl rfl (opMove (mv rfl)) ?_
                      refine cq rfl rfl rfl (opFieldP (fo43_0 H) (mv rfl)) ?_
                      refine cq rfl rfl rfl (opLoad1 (tl3 H) ((Pt.box 3 (mv rfl) rfl rfl).take 1 (cs' := [(iv .i64 ((gt v1.fSwaps v58).fWanted))]) rfl)) ?_
                      refine ckE h fun h84 h => ?_
                      refine cq rfl rfl rfl (opIndexO 1 (ix41 H) (mv rfl) rfl (mv rfl) (h84).1 (h84).2) ?_
                      refine cq rfl rfl rfl (opLoad1 (tl3 H) ((Pt.row _ 1 (k := ((gt v1.fSwaps v58).fWanted : Int).toNat) (fo := 0) lI64 (mv rfl) rfl (by omega) (gt_some h84) rfl).take 1 (cs' := [(iv .i64 (gt v18 ((gt v1.fSwaps v58).fWanted)))]) rfl)) ?_
                      refine cq rfl rfl rfl (opLss (mv rfl) (Ev.const _)) ?_
                      refine rn (al [2, 7, 11, 12, 13, 14, 159] [0, 1, 2, 3] rfl rfl rfl (sq ?_))
                      refine CodeT.cond (decide ((gt v18 ((gt v1.fSwaps v58).fWanted)) < 0)) (evBool (mv rfl)) (fun c85 => ?_) (fun c85 => ?_)
                      · rw [if_pos c85] at h
                        refine CodeT.exit ?_
                        refine AtX.then_exit ?_
                        refine AtX.in_hit ?_
                        exact AtX.to (hJ64 (v57, v59) h) [0, 1, 2] (sl rfl) (ol rfl) rfl
                      · rw [if_neg (bne_true c85)] at h
                        refine CodeT.skip ?_
                        refine al [2, 7, 11, 12, 13, 14] [0, 1, 2, 3] rfl rfl rfl ?_
                        refine sq (cs ?_)
                        refine CodeT.draw (QR := [(0, (eqv sv15)), (1, (eqv (.pointer (some ⟨b66, 0, none⟩)))), (2, (iv .i64 ((gt v1.fSwaps v58).fWanted))), (3, (rowp sv15 (((gt v1.fSwaps v58).fWanted : Int).toNat * 1))), (4, (iv .i64 (gt v18 ((gt v1.fSwaps v58).fWanted)))), (5, (eqv (.pointer (some ⟨b66, 2, none⟩)))), (6, (iv .i64 ((gt v1.fSwaps v58).fCost))), (7, (iv .i64 (W ((gt v18 ((gt v1.fSwaps v58).fWanted)) + ((gt v1.fSwaps v58).fCost))))), (8, (iv .i64 (W ((gt v18 ((gt v1.fSwaps v58).fWanted)) + ((gt v1.fSwaps v58).fCost)))))]) (tab := [(some 160, []), (some 161, []), (some 162, [1]), (some 163, [0, 2]), (some 164, [3]), (some 165, []), (some 166, [5]), (some 167, [4, 6]), (some 15, [7, 0, 1, 2, 3, 4, 5, 6, 7])]) (mixed H) ?_
                        refine Reg.intro [] [] (by kernel_rfl) rfl ⟨rfl, rfl, rfl, rfl, rfl, rfl, rfl, rfl, rfl, trivial⟩ ⟨(fun _ => ⟨_, rfl, (opMove (mv rfl))⟩), (fun _ => ⟨_, rfl, (opFieldP (fo43_0 H) (mv rfl))⟩), (fun _ => ⟨_, rfl, (opLoad1 (tl3 H) ((Pt.box 3 (mv rfl) rfl rfl).take 1 (cs' := [(iv .i64 ((gt v1.fSwaps v58).fWanted))]) rfl))⟩), (fun _ => ⟨_, rfl, (opIndexO 1 (ix41 H) (mv rfl) rfl (mv rfl) (h84).1 (h84).2)⟩), (fun _ => ⟨_, rfl, (opLoad1 (tl3 H) ((Pt.row _ 1 (k := ((gt v1.fSwaps v58).fWanted : Int).toNat) (fo := 0) lI64 (mv rfl) rfl (by omega) (gt_some h84) rfl).take 1 (cs' := [(iv .i64 (gt v18 ((gt v1.fSwaps v58).fWanted)))]) rfl))⟩), (fun _ => ⟨_, rfl, (opFieldP (fo43_2 H) (mv rfl))⟩), (fun _ => ⟨_, rfl, (opLoad1 (tl3 H) ((Pt.box 3 (mv rfl) rfl rfl).take 1 (cs' := [(iv .i64 ((gt v1.fSwaps v58).fCost))]) rfl))⟩), (fun _ => ⟨_, rfl, (opAdd (mv rfl) (mv rfl))⟩), (fun _ => ⟨_, rfl, (opAssign (mv rfl))⟩), trivial⟩ trivial (fun _ => ?_)
                        refine al [2, 7, 11, 12, 13, 14, 15] [0, 1, 2, 3] rfl rfl rfl ?_
                        refine sq (cs (cs (cr [0, 1, 2, 3, 4, 5, 6, 7, 8, 9, 10, 11, 12, 13, 14] rfl ?_)))
                        refine cq rfl rfl rfl (opMove (mv rfl)) ?_
                        refine cq rfl rfl rfl (opFieldP (fo43_1 H) (mv rfl)) ?_
                        refine cq rfl rfl rfl (opLoad1 (tl3 H) ((Pt.box 3 (mv rfl) rfl rfl).take 1 (cs' := [(iv .i64 ((gt v1.fSwaps v58).fGiven))]) rfl)) ?_
                        refine ckE h fun h86 h => ?_
                        refine cq rfl rfl rfl (opIndexO 1 (ix41 H) (mv rfl) rfl (mv rfl) (h86).1 (h86).2) ?_
                        refine cq rfl rfl rfl (opLoad1 (tl3 H) ((Pt.row _ 1 (k := ((gt v1.fSwaps v58).fGiven : Int).toNat) (fo := 0) lI64 (mv rfl) rfl (by omega) (gt_some h86) rfl).take 1 (cs' := [(iv .i64 (gt v18 ((gt v1.fSwaps v58).fGiven)))]) rfl)) ?_
                        refine cq rfl rfl rfl (opLss (mv rfl) (Ev.const _)) ?_
                        refine cq rfl rfl rfl (opMove (mv rfl)) ?_
                        refine cg rfl rfl rfl rfl rfl (fun g87 => opMove (mv rfl)) ?_
                        refine cg rfl rfl rfl rfl rfl (fun g88 => opFieldP (fo43_1 H) (mv rfl)) ?_
                        refine cg rfl rfl rfl rfl rfl (fun g89 => opLoad1 (tl3 H) ((Pt.box 3 (Ev.cnd (mv rfl) g89) rfl rfl).take 1 (cs' := [(iv .i64 ((gt v1.fSwaps v58).fGiven))]) rfl)) ?_
                        refine cg rfl rfl rfl rfl rfl (fun g90 => opIndexO 1 (ix41 H) (Ev.cnd (mv rfl) g90) rfl (Ev.cnd (mv rfl) g90) (h86).1 (h86).2) ?_
                        refine cg rfl rfl rfl rfl rfl (fun g91 => opLoad1 (tl3 H) ((Pt.row _ 1 (k := ((gt v1.fSwaps v58).fGiven : Int).toNat) (fo := 0) lI64 (Ev.cnd (mv rfl) g91) rfl (by omega) (gt_some h86) rfl).take 1 (cs' := [(iv .i64 (gt v18 ((gt v1.fSwaps v58).fGiven)))]) rfl)) ?_
                        refine cg rfl rfl rfl rfl rfl (fun g92 => opMove (mv rfl)) ?_
                        refine cg rfl rfl rfl rfl rfl (fun g93 => opGtr (Ev.cnd (mv rfl) g93) (Ev.cnd (mv rfl) g93)) ?_
                        refine cq rfl rfl rfl (opOr (mv rfl) (Ev.const _) (fun g94 => (Ev.cnd (mv rfl) g94))) ?_
                        refine rn (al [2, 7, 11, 12, 13, 14, 15, 182] [0, 1, 2, 3] rfl rfl rfl (sq ?_))
                        refine CodeT.cond (decide ((gt v18 ((gt v1.fSwaps v58).fGiven)) < 0) || decide ((W ((gt v18 ((gt v1.fSwaps v58).fWanted)) + ((gt v1.fSwaps v58).fCost))) < (gt v18 ((gt v1.fSwaps v58).fGiven)))) (evBool (mv rfl)) (fun c95 => ?_) (fun c95 => ?_)
                        · rw [if_pos c95] at h
                          refine cs (cr [0] rfl ?_)
                          refine cq rfl rfl rfl (opAssign (Ev.const _)) ?_
                          refine rn (al [4] [] rfl rfl rfl (sq ?_))
                          refine CodeT.ret ?_
                          refine AtX.then_ret ?_
                          refine AtX.in_ret ?_
                          refine AtX.then_ret ?_
                          refine AtX.then_ret ?_
                          refine AtX.in_ret ?_
                          refine AtX.then_ret ?_
                          refine AtX.ret' (bv false) (ResOK.one Try.results4 rfl) [] [] trivial rfl ?_
                          obtain rfl := Option.some.inj h
                          exact ⟨rfl, rfl⟩
                        · rw [if_neg (bne_true c95)] at h
                          refine CodeT.skip ?_
                          refine al [2, 7, 11, 12, 13, 14, 15] [0, 1, 2, 3] rfl rfl rfl ?_
                          refine sq (cs ?_)
                          refine ckE h fun h96 h => ?_
                          refine CodeT.draw (QR := [(0, (eqv sv34)), (1, (eqv (.pointer (some ⟨b66, 1, none⟩)))), (2, (iv .i64 ((gt v1.fSwaps v58).fGiven))), (3, (eqv sv34)), (4, (eqv (.pointer (some ⟨b66, 1, none⟩)))), (5, (iv .i64 ((gt v1.fSwaps v58).fGiven))), (6, (rowp sv34 (((gt v1.fSwaps v58).fGiven : Int).toNat * 1))), (7, (bv (gt v59 ((gt v1.fSwaps v58).fGiven)))), (8, (bv (gt v59 ((gt v1.fSwaps v58).fGiven)))), (9, (cnd ((gt v59 ((gt v1.fSwaps v58).fGiven)) = false) (eqv sv15))), (10, (cnd ((gt v59 ((gt v1.fSwaps v58).fGiven)) = false) (eqv (.pointer (some ⟨b66, 1, none⟩))))), (11, (cnd ((gt v59 ((gt v1.fSwaps v58).fGiven)) = false) (iv .i64 ((gt v1.fSwaps v58).fGiven)))), (12, (cnd ((gt v59 ((gt v1.fSwaps v58).fGiven)) = false) (rowp sv15 (((gt v1.fSwaps v58).fGiven : Int).toNat * 1)))), (13, (cnd ((gt v59 ((gt v1.fSwaps v58).fGiven)) = false) (iv .i64 (gt v18 ((gt v1.fSwaps v58).fGiven))))), (14, (cnd ((gt v59 ((gt v1.fSwaps v58).fGiven)) = false) (iv .i64 (W ((gt v18 ((gt v1.fSwaps v58).fWanted)) + ((gt v1.fSwaps v58).fCost)))))), (15, (cnd ((gt v59 ((gt v1.fSwaps v58).fGiven)) = false) (bv ((gt v18 ((gt v1.fSwaps v58).fGiven)) == (W ((gt v18 ((gt v1.fSwaps v58).fWanted)) + ((gt v1.fSwaps v58).fCost))))))), (16, (bv ((gt v59 ((gt v1.fSwaps v58).fGiven)) || ((gt v18 ((gt v1.fSwaps v58).fGiven)) == (W ((gt v18 ((gt v1.fSwaps v58).fWanted)) + ((gt v1.fSwaps v58).fCost))))))), (17, (rowp sv34 (((gt v1.fSwaps v58).fGiven : Int).toNat * 1)))]) (tab := [(some 183, []), (some 184, []), (some 185, [1]), (some 186, []), (some 187, []), (some 188, [4]), (some 189, [3, 5]), (some 190, [6]), (some 191, [7]), (some 192, [8]), (some 193, [8]), (some 194, [10, 8]), (some 195, [9, 11, 8]), (some 196, [12, 8]), (some 197, [8]), (some 198, [13, 14, 8]), (some 199, [8, 15]), (some 200, [0, 2, 0, 1, 2, 3, 4, 5, 6, 7, 8, 9, 10, 11, 12, 13, 14, 15, 16]), (none, [17, 16, 8, 0, 1, 2, 3, 4, 5, 6, 7, 8, 9, 10, 11, 12, 13, 14, 15, 16])]) (mixed H) ?_
                          refine Reg.intro [18] [] (by kernel_rfl) rfl ⟨rfl, rfl, rfl, rfl, rfl, rfl, rfl, rfl, rfl, rfl, rfl, rfl, rfl, rfl, rfl, rfl, rfl, rfl, trivial⟩ ⟨(fun _ => ⟨_, rfl, (opMove (mv rfl))⟩), (fun _ => ⟨_, rfl, (opFieldP (fo43_1 H) (mv rfl))⟩), (fun _ => ⟨_, rfl, (opLoad1 (tl3 H) ((Pt.box 3 (mv rfl) rfl rfl).take 1 (cs' := [(iv .i64 ((gt v1.fSwaps v58).fGiven))]) rfl))⟩), (fun _ => ⟨_, rfl, (opMove (mv rfl))⟩), (fun _ => ⟨_, rfl, (opFieldP (fo43_1 H) (mv rfl))⟩), (fun _ => ⟨_, rfl, (opLoad1 (tl3 H) ((Pt.box 3 (mv rfl) rfl rfl).take 1 (cs' := [(iv .i64 ((gt v1.fSwaps v58).fGiven))]) rfl))⟩), (fun _ => ⟨_, rfl, (opIndexO 2 (ix44 H) (mv rfl) rfl (mv rfl) (h96).1 (h96).2)⟩), (fun _ => ⟨_, rfl, (opLoad1 (tl4 H) ((Pt.row _ 2 (k := ((gt v1.fSwaps v58).fGiven : Int).toNat) (fo := 0) lB (mv rfl) rfl (by omega) (gt_some h96) rfl).take 1 (cs' := [(bv (gt v59 ((gt v1.fSwaps v58).fGiven)))]) rfl))⟩), (fun _ => ⟨_, rfl, (opMove (mv rfl))⟩), (fun _ => ⟨_, rfl, ⟨((gt v59 ((gt v1.fSwaps v58).fGiven)) = false), (eqv sv15), 191, rfl, rfl, fun g97 => (opMove (mv rfl)), .inl ⟨(gt v59 ((gt v1.fSwaps v58).fGiven)), rfl, rfl⟩⟩⟩), (fun _ => ⟨_, rfl, ⟨((gt v59 ((gt v1.fSwaps v58).fGiven)) = false), (eqv (.pointer (some ⟨b66, 1, none⟩))), 191, rfl, rfl, fun g98 => (opFieldP (fo43_1 H) (mv rfl)), .inl ⟨(gt v59 ((gt v1.fSwaps v58).fGiven)), rfl, rfl⟩⟩⟩), (fun _ => ⟨_, rfl, ⟨((gt v59 ((gt v1.fSwaps v58).fGiven)) = false), (iv .i64 ((gt v1.fSwaps v58).fGiven)), 191, rfl, rfl, fun g99 => (opLoad1 (tl3 H) ((Pt.box 3 (Ev.cnd (mv rfl) g99) rfl rfl).take 1 (cs' := [(iv .i64 ((gt v1.fSwaps v58).fGiven))]) rfl)), .inl ⟨(gt v59 ((gt v1.fSwaps v58).fGiven)), rfl, rfl⟩⟩⟩), (fun _ => ⟨_, rfl, ⟨((gt v59 ((gt v1.fSwaps v58).fGiven)) = false), (rowp sv15 (((gt v1.fSwaps v58).fGiven : Int).toNat * 1)), 191, rfl, rfl, fun g100 => (opIndexO 1 (ix41 H) (Ev.cnd (mv rfl) g100) rfl (Ev.cnd (mv rfl) g100) (h86).1 (h86).2), .inl ⟨(gt v59 ((gt v1.fSwaps v58).fGiven)), rfl, rfl⟩⟩⟩), (fun _ => ⟨_, rfl, ⟨((gt v59 ((gt v1.fSwaps v58).fGiven)) = false), (iv .i64 (gt v18 ((gt v1.fSwaps v58).fGiven))), 191, rfl, rfl, fun g101 => (opLoad1 (tl3 H) ((Pt.row _ 1 (k := ((gt v1.fSwaps v58).fGiven : Int).toNat) (fo := 0) lI64 (Ev.cnd (mv rfl) g101) rfl (by omega) (gt_some h86) rfl).take 1 (cs' := [(iv .i64 (gt v18 ((gt v1.fSwaps v58).fGiven)))]) rfl)), .inl ⟨(gt v59 ((gt v1.fSwaps v58).fGiven)), rfl, rfl⟩⟩⟩), (fun _ => ⟨_, rfl, ⟨((gt v59 ((gt v1.fSwaps v58).fGiven)) = false), (iv .i64 (W ((gt v18 ((gt v1.fSwaps v58).fWanted)) + ((gt v1.fSwaps v58).fCost)))), 191, rfl, rfl, fun g102 => (opMove (mv rfl)), .inl ⟨(gt v59 ((gt v1.fSwaps v58).fGiven)), rfl, rfl⟩⟩⟩), (fun _ => ⟨_, rfl, ⟨((gt v59 ((gt v1.fSwaps v58).fGiven)) = false), (bv ((gt v18 ((gt v1.fSwaps v58).fGiven)) == (W ((gt v18 ((gt v1.fSwaps v58).fWanted)) + ((gt v1.fSwaps v58).fCost))))), 191, rfl, rfl, fun g103 => (opEql (Ev.cnd (mv rfl) g103) (Ev.cnd (mv rfl) g103)), .inl ⟨(gt v59 ((gt v1.fSwaps v58).fGiven)), rfl, rfl⟩⟩⟩), (fun _ => ⟨_, rfl, (opOr (mv rfl) (Ev.const _) (fun g104 => (Ev.cnd (mv rfl) g104)))⟩), (fun _ => ⟨_, rfl, (opIndexO 2 (ix44 H) (mv rfl) rfl (mv rfl) (h96).1 (h96).2)⟩), trivial⟩ ⟨⟨_, rfl, rfl, rfl, rfl, opStoreO 2 (k := ((gt v1.fSwaps v58).fGiven : Int).toNat) (fo := 0) (z' := ((gt v59 ((gt v1.fSwaps v58).fGiven)) || ((gt v18 ((gt v1.fSwaps v58).fGiven)) == (W ((gt v18 ((gt v1.fSwaps v58).fWanted)) + ((gt v1.fSwaps v58).fCost)))))) (cs := [(bv ((gt v59 ((gt v1.fSwaps v58).fGiven)) || ((gt v18 ((gt v1.fSwaps v58).fGiven)) == (W ((gt v18 ((gt v1.fSwaps v58).fWanted)) + ((gt v1.fSwaps v58).fCost))))))]) lB (tl4 H) (mv rfl) (Ce.one (mv rfl) (One.eqv rfl)) rfl rfl (by omega) (gt_some h96) (Nat.le_of_ble_eq_true rfl) rfl ⟨[], rfl, ?_⟩⟩, trivial⟩ (fun hc => Bool.noConfusion (hc : false = true))
                          refine Reg.intro [] [0, 1, 2, 3, 4, 5, 6, 7, 8, 9, 10, 11, 12, 13, 14, 15, 16, 17] (by kernel_rfl) rfl ⟨rfl, rfl, rfl, rfl, rfl, rfl, rfl, rfl, rfl, rfl, rfl, rfl, rfl, rfl, rfl, rfl, rfl, rfl, trivial⟩ ⟨(fun hn => Bool.noConfusion (hn : true = false)), (fun hn => Bool.noConfusion (hn : true = false)), (fun hn => Bool.noConfusion (hn : true = false)), (fun hn => Bool.noConfusion (hn : true = false)), (fun hn => Bool.noConfusion (hn : true = false)), (fun hn => Bool.noConfusion (hn : true = false)), (fun hn => Bool.noConfusion (hn : true = false)), (fun hn => Bool.noConfusion (hn : true = false)), (fun hn => Bool.noConfusion (hn : true = false)), (fun hn => Bool.noConfusion (hn : true = false)), (fun hn => Bool.noConfusion (hn : true = false)), (fun hn => Bool.noConfusion (hn : true = false)), (fun hn => Bool.noConfusion (hn : true = false)), (fun hn => Bool.noConfusion (hn : true = false)), (fun hn => Bool.noConfusion (hn : true = false)), (fun hn => Bool.noConfusion (hn : true = false)), (fun hn => Bool.noConfusion (hn : true = false)), (fun hn => Bool.noConfusion (hn : true = false)), trivial⟩ trivial (fun _ => ?_)
                          refine al [2, 7, 11, 12, 13, 14] [0, 1, 2, 3] rfl rfl rfl ?_
                          refine sq (cr [0, 1, 2, 3, 4, 5, 6] rfl ?_)
                          refine cq rfl rfl rfl (opMove (mv rfl)) ?_
                          refine cq rfl rfl rfl (opMove (mv rfl)) ?_
                          refine cg rfl rfl rfl rfl rfl (fun g106 => opFieldP (fo43_2 H) (mv rfl)) ?_
                          refine cg rfl rfl rfl rfl rfl (fun g107 => opLoad1 (tl3 H) ((Pt.box 3 (Ev.cnd (mv rfl) g107) rfl rfl).take 1 (cs' := [(iv .i64 ((gt v1.fSwaps v58).fCost))]) rfl)) ?_
                          refine cg rfl rfl rfl rfl rfl (fun g108 => opGtr (Ev.cnd (mv rfl) g108) (Ev.const _)) ?_
                          refine cq rfl rfl rfl (opAnd (mv rfl) (fun g109 => (Ev.cnd (mv rfl) g109)) (Ev.const _)) ?_
                          refine cq rfl rfl rfl (opAssign (mv rfl)) ?_
                          refine rn ?_
                          refine AtX.in_normal ?_
                          exact AtX.to (hJ64 ((v57 && decide (0 < (gt v1.fSwaps v58).fCost)), (setAt v59 ((gt v1.fSwaps v58).fGiven) ((gt v59 ((gt v1.fSwaps v58).fGiven)) || ((gt v18 ((gt v1.fSwaps v58).fGiven)) == (W ((gt v18 ((gt v1.fSwaps v58).fWanted)) + ((gt v1.fSwaps v58).fCost))))))) h) [0, 1, 2] (sl rfl) (ol rfl) rfl
                · rw [if_neg (bne_true c61)] at h
                  refine CodeT.exit ?_
                  refine AtX.then_exit ?_
                  refine AtX.then_exit ?_
                  refine AtX.in_hit ?_
                  exact AtX.to (hJ38 (v57, v59) h) [1, 2] (sl rfl) (ol rfl) rfl
          · refine CodeT.block ?_
            refine CodeT.to (CodeT.loop (fun n (z : Int × Int × (List Int)) => law09_FleetCheapest_L113 φ v2 y8 (law09_FleetCheapest_j19 φ v1 v2) n z.1 z.2.1 z.2.2) r (fun z => ⟨Slots.of [(1, (iv .i64 v2)), (2, (eqv (.pointer (some ⟨b3, 0, none⟩)))), (5, (eqv sv9)), (7, (eqv sv15)), (9, (iv .i64 z.1)), (10, (iv .i64 z.2.1))], [(box b3 27 (eFleet v1)), (row 43 eSwap 3 y8.1 sv9), (row 3 eI64 1 z.2.2 sv15)]⟩) (fun z => rfl) (fun n113 z ih113 h => ?_) φ ((-1), 0, v16) h) [0, 1, 2] (sl rfl) (ol rfl) rfl
            obtain ⟨v110, v111, v112⟩ := z
            replace h : law09_FleetCheapest_L113 φ v2 y8 (law09_FleetCheapest_j19 φ v1 v2) (n113 + 1) v110 v111 v112 = some r := h
            rw [law09_FleetCheapest_L113] at h
            refine cs (cs (cr [0, 1, 2, 3] rfl ?_))
            refine cq rfl rfl rfl (opMove (mv rfl)) ?_
            refine cq rfl rfl rfl (opMove (mv rfl)) ?_
            refine cq rfl rfl rfl (opLenO 1 (il24 H) (mv rfl) rfl) ?_
            refine cq rfl rfl rfl (opLss (mv rfl) (mv rfl)) ?_
            refine RunOps.nil ?_
            refine AtX.le' [(1, (iv .i64 v2)), (2, (eqv (.pointer (some ⟨b3, 0, none⟩)))), (5, (eqv sv9)), (7, (eqv sv15)), (9, (iv .i64 v110)), (10, (iv .i64 v111)), (49, (bv (decide (v111 < (y8.1.length : Int)))))] [0, 1, 2] [(box b3 27 (eFleet v1)), (row 43 eSwap 3 y8.1 sv9), (row 3 eI64 1 v112 sv15)] ⟨⟨_, rfl, Ent.refl⟩, ⟨_, rfl, Ent.refl⟩, ⟨_, rfl, Ent.refl⟩, ⟨_, rfl, Ent.refl⟩, ⟨_, rfl, Ent.refl⟩, ⟨_, rfl, Ent.refl⟩, ⟨_, rfl, Ent.refl⟩, trivial⟩ ⟨⟨_, rfl, EntH.refl⟩, ⟨_, rfl, EntH.refl⟩, ⟨_, rfl, EntH.refl⟩, trivial⟩ rfl ?_
            refine AtX.seq ?_
            refine CodeT.cond (decide (v111 < (y8.1.length : Int))) (evBool (Ev.tmp rfl)) (fun c114 => ?_) (fun c114 => ?_)
            · rw [if_pos c114] at h
              refine CodeT.skip ?_
              refine AtX.le' [(1, (iv .i64 v2)), (2, (eqv (.pointer (some ⟨b3, 0, none⟩)))), (5, (eqv sv9)), (7, (eqv sv15)), (9, (iv .i64 v110)), (10, (iv .i64 v111))] [0, 1, 2] [(box b3 27 (eFleet v1)), (row 43 eSwap 3 y8.1 sv9), (row 3 eI64 1 v112 sv15)] ⟨⟨_, rfl, Ent.refl⟩, ⟨_, rfl, Ent.refl⟩, ⟨_, rfl, Ent.refl⟩, ⟨_, rfl, Ent.refl⟩, ⟨_, rfl, Ent.refl⟩, ⟨_, rfl, Ent.refl⟩, trivial⟩ ⟨⟨_, rfl, EntH.refl⟩, ⟨_, rfl, EntH.refl⟩, ⟨_, rfl, EntH.refl⟩, trivial⟩ rfl ?_
              refine AtX.seq ?_
              refine CodeT.seq ?_
              refine CodeT.block ?_
              refine CodeT.seq ?_
              refine CodeT.seq ?_
              refine CodeT.region' [0, 1, 2, 3, 4, 5, 6, 7, 8, 9, 10, 11, 12, 13, 14, 15, 16, 17, 18, 19, 20, 21, 22, 23, 24, 25, 26, 27, 28, 29, 30, 31, 32, 33] rfl ?_
              refine RunOps.cons_q (eqv sv9) rfl rfl rfl (opMove (Ev.tmp rfl)) ?_
              refine RunOps.cons_q (iv .i64 v111) rfl rfl rfl (opMove (Ev.tmp rfl)) ?_
              refine ckE h fun h115 h => ?_
              refine RunOps.cons_q (rowp sv9 ((v111 : Int).toNat * 3)) rfl rfl rfl (opIndexO 1 (ix24 H) (Ev.tmp rfl) rfl (Ev.tmp rfl) (h115).1 (h115).2) ?_
              refine RunOps.cons_q (rowp sv9 ((v111 : Int).toNat * 3 + 0)) rfl rfl rfl (opFieldO (fo43_0 H) (Ev.tmp rfl)) ?_
              refine RunOps.cons_q (iv .i64 ((gt y8.1 v111).fWanted)) rfl rfl rfl (opLoad1 (tl3 H) ((Pt.row _ 1 (k := (v111 : Int).toNat) (fo := 0) lSwap (Ev.tmp rfl) rfl (by omega) (gt_some h115) rfl).take 1 (cs' := [(iv .i64 ((gt y8.1 v111).fWanted))]) rfl)) ?_
              refine cq rfl rfl rfl (opMove (mv rfl)) ?_
              refine cq rfl rfl rfl (opNeq (mv rfl) (mv rfl)) ?_
              refine cq rfl rfl rfl (opMove (mv rfl)) ?_
              refine cg rfl rfl rfl rfl rfl (fun g116 => opMove (mv rfl)) ?_
              refine cg rfl rfl rfl rfl rfl (fun g117 => opMove (mv rfl)) ?_
              refine cg rfl rfl rfl rfl rfl (fun g118 => opIndexO 1 (ix24 H) (Ev.cnd (mv rfl) g118) rfl (Ev.cnd (mv rfl) g118) (h115).1 (h115).2) ?_
              refine cg rfl rfl rfl rfl rfl (fun g119 => opFieldO (fo43_1 H) (Ev.cnd (mv rfl) g119)) ?_
              refine RunOps.cons_g (iv .i64 ((gt y8.1 v111).fGiven)) ((gt y8.1 v111).fWanted != v2) rfl rfl rfl rfl rfl (fun g120 => (opLoad1 (tl3 H) ((Pt.row _ 1 (k := (v111 : Int).toNat) (fo := 1) lSwap (Ev.cnd (Ev.tmp rfl) g120) rfl (by omega) (gt_some h115) rfl).take 1 (cs' := [(iv .i64 ((gt y8.1 v111).fGiven))]) rfl))) ?_
              refine cg rfl rfl rfl rfl rfl (fun g121 => opMove (mv rfl)) ?_
              refine cg rfl rfl rfl rfl rfl (fun g122 => opLeq (Ev.cnd (mv rfl) g122) (Ev.cnd (mv rfl) g122)) ?_
              refine cq rfl rfl rfl (opOr (mv rfl) (Ev.const _) (fun g123 => (Ev.cnd (mv rfl) g123))) ?_
              refine cq rfl rfl rfl (opMove (mv rfl)) ?_
              refine cg rfl rfl rfl rfl rfl (fun g124 => opMove (mv rfl)) ?_
              refine cg rfl rfl rfl rfl rfl (fun g125 => opMove (mv rfl)) ?_
              refine cg rfl rfl rfl rfl rfl (fun g126 => opIndexO 1 (ix24 H) (Ev.cnd (mv rfl) g126) rfl (Ev.cnd (mv rfl) g126) (h115).1 (h115).2) ?_
              refine cg rfl rfl rfl rfl rfl (fun g127 => opFieldO (fo43_1 H) (Ev.cnd (mv rfl) g127)) ?_
              refine RunOps.cons_g (iv .i64 ((gt y8.1 v111).fGiven)) (((gt y8.1 v111).fWanted != v2) || decide ((gt y8.1 v111).fGiven ≤ v110)) rfl rfl rfl rfl rfl (fun g128 => (opLoad1 (tl3 H) ((Pt.row _ 1 (k := (v111 : Int).toNat) (fo := 1) lSwap (Ev.cnd (Ev.tmp rfl) g128) rfl (by omega) (gt_some h115) rfl).take 1 (cs' := [(iv .i64 ((gt y8.1 v111).fGiven))]) rfl))) ?_
              refine cg rfl rfl rfl rfl rfl (fun g129 => opMove (mv rfl)) ?_
              refine cg rfl rfl rfl rfl rfl (fun g130 => opLenO 2 (il41 H) (Ev.cnd (mv rfl) g130) rfl) ?_
              refine cg rfl rfl rfl rfl rfl (fun g131 => opGeq (Ev.cnd (mv rfl) g131) (Ev.cnd (mv rfl) g131)) ?_
              refine cq rfl rfl rfl (opOr (mv rfl) (Ev.const _) (fun g132 => (Ev.cnd (mv rfl) g132))) ?_
              refine cq rfl rfl rfl (opMove (mv rfl)) ?_
              refine cg rfl rfl rfl rfl rfl (fun g133 => opMove (mv rfl)) ?_
              refine cg rfl rfl rfl rfl rfl (fun g134 => opMove (mv rfl)) ?_
              refine cg rfl rfl rfl rfl rfl (fun g135 => opIndexO 1 (ix24 H) (Ev.cnd (mv rfl) g135) rfl (Ev.cnd (mv rfl) g135) (h115).1 (h115).2) ?_
              refine cg rfl rfl rfl rfl rfl (fun g136 => opFieldO (fo43_2 H) (Ev.cnd (mv rfl) g136)) ?_
              refine RunOps.cons_g (iv .i64 ((gt y8.1 v111).fCost)) ((((gt y8.1 v111).fWanted != v2) || decide ((gt y8.1 v111).fGiven ≤ v110)) || decide ((v112.length : Int) ≤ (gt y8.1 v111).fGiven)) rfl rfl rfl rfl rfl (fun g137 => (opLoad1 (tl3 H) ((Pt.row _ 1 (k := (v111 : Int).toNat) (fo := 2) lSwap (Ev.cnd (Ev.tmp rfl) g137) rfl (by omega) (gt_some h115) rfl).take 1 (cs' := [(iv .i64 ((gt y8.1 v111).fCost))]) rfl))) ?_
              refine cg rfl rfl rfl rfl rfl (fun g138 => opLss (Ev.cnd (mv rfl) g138) (Ev.const _)) ?_
              refine cq rfl rfl rfl (opOr (mv rfl) (Ev.const _) (fun g139 => (Ev.cnd (mv rfl) g139))) ?_
              refine rn (al [1, 2, 5, 7, 10, 85] [0, 1, 2] rfl rfl rfl (sq ?_))
              refine CodeT.cond (((((gt y8.1 v111).fWanted != v2) || decide ((gt y8.1 v111).fGiven ≤ v110)) || decide ((v112.length : Int) ≤ (gt y8.1 v111).fGiven)) || decide ((gt y8.1 v111).fCost < 0)) (evBool (mv rfl)) (fun c140 => ?_) (fun c140 => ?_)
              · rw [if_pos c140] at h
                refine cs (cr [0] rfl ?_)
                refine cq rfl rfl rfl (opAssign (Ev.const _)) ?_
                refine rn (al [4] [] rfl rfl rfl (sq ?_))
                refine CodeT.ret ?_
                refine AtX.then_ret ?_
                refine AtX.in_ret ?_
                refine AtX.then_ret ?_
                refine AtX.then_ret ?_
                refine AtX.in_ret ?_
                refine AtX.then_ret ?_
                refine AtX.ret' (bv false) (ResOK.one Try.results4 rfl) [] [] trivial rfl ?_
                obtain rfl := Option.some.inj h
                exact ⟨rfl, rfl⟩
              · rw [if_neg (bne_true c140)] at h
                refine CodeT.skip ?_
                refine AtX.le' [(1, (iv .i64 v2)), (2, (eqv (.pointer (some ⟨b3, 0, none⟩)))), (5, (eqv sv9)), (7, (eqv sv15)), (10, (iv .i64 v111))] [0, 1, 2] [(box b3 27 (eFleet v1)), (row 43 eSwap 3 y8.1 sv9), (row 3 eI64 1 v112 sv15)] ⟨⟨_, rfl, Ent.refl⟩, ⟨_, rfl, Ent.refl⟩, ⟨_, rfl, Ent.refl⟩, ⟨_, rfl, Ent.refl⟩, ⟨_, rfl, Ent.refl⟩, trivial⟩ ⟨⟨_, rfl, EntH.refl⟩, ⟨_, rfl, EntH.refl⟩, ⟨_, rfl, EntH.refl⟩, trivial⟩ rfl ?_
                refine AtX.seq ?_
                refine CodeT.seq ?_
                refine CodeT.region' [0, 1, 2, 3, 4, 5] rfl ?_
                refine RunOps.cons_q (eqv sv9) rfl rfl rfl (opMove (Ev.tmp rfl)) ?_
                refine RunOps.cons_q (iv .i64 v111) rfl rfl rfl (opMove (Ev.tmp rfl)) ?_
                refine RunOps.cons_q (rowp sv9 ((v111 : Int).toNat * 3)) rfl rfl rfl (opIndexO 1 (ix24 H) (Ev.tmp rfl) rfl (Ev.tmp rfl) (h115).1 (h115).2) ?_
                refine RunOps.cons_q (rowp sv9 ((v111 : Int).toNat * 3 + 1)) rfl rfl rfl (opFieldO (fo43_1 H) (Ev.tmp rfl)) ?_
                refine RunOps.cons_q (iv .i64 ((gt y8.1 v111).fGiven)) rfl rfl rfl (opLoad1 (tl3 H) ((Pt.row _ 1 (k := (v111 : Int).toNat) (fo := 1) lSwap (Ev.tmp rfl) rfl (by omega) (gt_some h115) rfl).take 1 (cs' := [(iv .i64 ((gt y8.1 v111).fGiven))]) rfl)) ?_
                refine RunOps.cons_q (iv .i64 ((gt y8.1 v111).fGiven)) rfl rfl rfl (opAssign (Ev.tmp rfl)) ?_
                refine RunOps.nil ?_
                refine AtX.le' [(1, (iv .i64 v2)), (2, (eqv (.pointer (some ⟨b3, 0, none⟩)))), (5, (eqv sv9)), (7, (eqv sv15)), (9, (iv .i64 ((gt y8.1 v111).fGiven))), (10, (iv .i64 v111))] [0, 1, 2] [(box b3 27 (eFleet v1)), (row 43 eSwap 3 y8.1 sv9), (row 3 eI64 1 v112 sv15)] ⟨⟨_, rfl, Ent.refl⟩, ⟨_, rfl, Ent.refl⟩, ⟨_, rfl, Ent.refl⟩, ⟨_, rfl, Ent.refl⟩, ⟨_, rfl, Ent.refl⟩, ⟨_, rfl, Ent.refl⟩, trivial⟩ ⟨⟨_, rfl, EntH.refl⟩, ⟨_, rfl, EntH.refl⟩, ⟨_, rfl, EntH.refl⟩, trivial⟩ rfl ?_
                refine AtX.seq ?_
                refine CodeT.region' [0, 1, 2, 3, 4, 5, 6, 7, 8] rfl ?_
                refine RunOps.cons_q (eqv sv15) rfl rfl rfl (opMove (Ev.tmp rfl)) ?_
                refine RunOps.cons_q (iv .i64 ((gt y8.1 v111).fGiven)) rfl rfl rfl (opMove (Ev.tmp rfl)) ?_
                refine RunOps.cons_q (eqv sv9) rfl rfl rfl (opMove (Ev.tmp rfl)) ?_
                refine RunOps.cons_q (iv .i64 v111) rfl rfl rfl (opMove (Ev.tmp rfl)) ?_
                refine RunOps.cons_q (rowp sv9 ((v111 : Int).toNat * 3)) rfl rfl rfl (opIndexO 1 (ix24 H) (Ev.tmp rfl) rfl (Ev.tmp rfl) (h115).1 (h115).2) ?_
                refine RunOps.cons_q (rowp sv9 ((v111 : Int).toNat * 3 + 2)) rfl rfl rfl (opFieldO (fo43_2 H) (Ev.tmp rfl)) ?_
                refine RunOps.cons_q (iv .i64 ((gt y8.1 v111).fCost)) rfl rfl rfl (opLoad1 (tl3 H) ((Pt.row _ 1 (k := (v111 : Int).toNat) (fo := 2) lSwap (Ev.tmp rfl) rfl (by omega) (gt_some h115) rfl).take 1 (cs' := [(iv .i64 ((gt y8.1 v111).fCost))]) rfl)) ?_
                refine ckE h fun h141 h => ?_
                refine cq rfl rfl rfl (opIndexO 2 (ix41 H) (mv rfl) rfl (mv rfl) (h141).1 (h141).2) ?_
                refine RunOps.cons rfl rfl rfl (opStoreO 2 (k := ((gt y8.1 v111).fGiven : Int).toNat) (fo := 0) (z' := (gt y8.1 v111).fCost) (cs := [(iv .i64 ((gt y8.1 v111).fCost))]) lI64 (tl3 H) (mv rfl) (Ce.one (mv rfl) (One.eqv rfl)) rfl rfl (by omega) (gt_some h141) (Nat.le_of_ble_eq_true rfl) rfl ?_)
                refine rn ?_
                refine AtX.in_normal ?_
                refine al [1, 2, 5, 7, 9, 10] [0, 1, 2] rfl rfl rfl ?_
                refine sq (cr [0, 1, 2] rfl ?_)
                refine cq rfl rfl rfl (opMove (mv rfl)) ?_
                refine cq rfl rfl rfl (opAdd (mv rfl) (Ev.const _)) ?_
                refine cq rfl rfl rfl (opAssign (mv rfl)) ?_
                refine rn ?_
                exact AtX.to (ih113 ((gt y8.1 v111).fGiven, (W (v111 + 1)), (setAt v112 ((gt y8.1 v111).fGiven) ((gt y8.1 v111).fCost))) h) [0, 1, 2] (sl rfl) (ol rfl) rfl
            · rw [if_neg (bne_true c114)] at h
              refine CodeT.exit ?_
              refine AtX.then_exit ?_
              refine AtX.then_exit ?_
              refine AtX.in_hit ?_
              exact AtX.to (hJ19 v112 h) [0, 2] (sl rfl) (ol rfl) rfl
        · refine CodeT.block ?_
          refine CodeT.to (CodeT.loop (fun n (z : Int × (List Int)) => law09_FleetCheapest_L144 φ (law09_FleetCheapest_j17 φ v1 v2 y8) n z.1 z.2) r (fun z => ⟨Slots.of [(1, (iv .i64 v2)), (2, (eqv (.pointer (some ⟨b3, 0, none⟩)))), (5, (eqv sv9)), (7, (eqv sv15)), (8, (iv .i64 z.1))], [(box b3 27 (eFleet v1)), (row 43 eSwap 3 y8.1 sv9), (row 3 eI64 1 z.2 sv15)]⟩) (fun z => rfl) (fun n144 z ih144 h => ?_) φ (0, (List.replicate ((v1.fTypes.length : Int) : Int).toNat 0)) h) [0, 1, 2] (sl rfl) (ol rfl) rfl
          obtain ⟨v142, v143⟩ := z
          replace h : law09_FleetCheapest_L144 φ (law09_FleetCheapest_j17 φ v1 v2 y8) (n144 + 1) v142 v143 = some r := h
          rw [law09_FleetCheapest_L144] at h
          refine cs (cs (cr [0, 1, 2, 3] rfl ?_))
          refine cq rfl rfl rfl (opMove (mv rfl)) ?_
          refine cq rfl rfl rfl (opMove (mv rfl)) ?_
          refine cq rfl rfl rfl (opLenO 2 (il41 H) (mv rfl) rfl) ?_
          refine cq rfl rfl rfl (opLss (mv rfl) (mv rfl)) ?_
          refine rn (al [1, 2, 5, 7, 8, 40] [0, 1, 2] rfl rfl rfl (sq ?_))
          refine CodeT.cond (decide (v142 < (v143.length : Int))) (evBool (mv rfl)) (fun c145 => ?_) (fun c145 => ?_)
          · rw [if_pos c145] at h
            refine CodeT.skip ?_
            refine al [1, 2, 5, 7, 8] [0, 1, 2] rfl rfl rfl ?_
            refine sq (cs ?_)
            refine CodeT.block ?_
            refine cr [0, 1, 2, 3] rfl ?_
            refine cq rfl rfl rfl (opMove (mv rfl)) ?_
            refine cq rfl rfl rfl (opMove (mv rfl)) ?_
            refine ckE h fun h146 h => ?_
            refine cq rfl rfl rfl (opIndexO 2 (ix41 H) (mv rfl) rfl (mv rfl) (h146).1 (h146).2) ?_
            refine RunOps.cons rfl rfl rfl (opStoreO 2 (k := (v142 : Int).toNat) (fo := 0) (z' := (-1)) (cs := [(iv .i64 (-1))]) lI64 (tl3 H) (mv rfl) (Ce.one (Ev.const _) (One.eqv rfl)) rfl rfl (by omega) (gt_some h146) (Nat.le_of_ble_eq_true rfl) rfl ?_)
            refine rn ?_
            refine AtX.in_normal ?_
            refine al [1, 2, 5, 7, 8] [0, 1, 2] rfl rfl rfl ?_
            refine sq (cr [0, 1, 2] rfl ?_)
            refine cq rfl rfl rfl (opMove (mv rfl)) ?_
            refine cq rfl rfl rfl (opAdd (mv rfl) (Ev.const _)) ?_
            refine cq rfl rfl rfl (opAssign (mv rfl)) ?_
            refine rn ?_
            exact AtX.to (ih144 ((W (v142 + 1)), (setAt v143 v142 (-1))) h) [0, 1, 2] (sl rfl) (ol rfl) rfl
          · rw [if_neg (bne_true c145)] at h
            refine CodeT.exit ?_
            refine AtX.then_exit ?_
            refine AtX.then_exit ?_
            refine AtX.in_hit ?_
            exact AtX.to (hJ17 v143 h) [0, 1, 2] (sl rfl) (ol rfl) rfl
end Px
